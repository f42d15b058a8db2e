/- Merged out of 41 texts. -/
import Derived.Test.YtleldcnoenokmaaGreatDoorNcd
import Derived.Laws.Small
import Derived.Scope
import Derived.Lib.Overlaps
set_option maxHeartbeats 40000000
set_option maxRecDepth 100000
set_option linter.all false
open Go Go.Lg
open Go.Value renaming int->oF
open Go.IntKind renaming i64->oG
open _root_.List renaming mem_singleton->oI,not_mem_nil->oJ,mem_cons->oK,length_append->oM,length_singleton->oO,length->oP,getD->oQ,range'->oS,range->oT,mem_append->oU,length_cons->oV,map_cons->oX,append_assoc->o0,length_drop->o6,length_take->Oa,length_map->Oc,size_toArray->Od,map_append->Og,nil_append->Oj,length_set->Ou,length_nil->OD,map_nil->OI,map_set->ON
open _root_.Nat renaming zero_add->oY,add_mul->Oo,lt_or_ge->OF,sub_zero->OG,le_succ->OL,zero_mul->OM,mod_lt->OO,zero_le->OP
open _root_.Array renaming getElem?_eq_getElem->Oh,getElem?_mapIdx->Ow
open _root_.Option renaming map_some->Ox,isSome_none->OB
open _root_.Bool renaming false_eq_true->OC,true_and->OK
open Go renaming World->OZ,Value->O0,Operand->O1,Program->O2
open Go.Proofs Go.Proofs.Tryz
variable {w w':OZ}{L L' X ds:LN}{n t i sz b T j E N g o id ty cap b1 B kt lo hi b2 et G M gp:Nat}{cs us news capt:LV}{H:xx}{a:Zd}{α β:Type}{y:O1}{z va ve vm vt v' vs vl vb vx vk:O0}{l u al rs:LI}{f:Fr}{c:ZG}{P:O2}{fn:Func}{q:DV}{s:Int}{es:List Ed}{d:xC}{af:xz}{gd:xo}{K:xu}{bf:List xH}{qs:List IV}{ops:xA}{ks:List KV}
namespace Go.Lg
section
variable {pS:String}
theorem Qnq {x:O1}{k:IntKind}{a b:Int}(hx:ev f x=.int k a)(G:ev f y=.int k b):
  (execOp (ev f) ⟨d,.call ⟨.builtin .max,#[x,y],#[t,E]⟩,ty,pS,af,gd⟩).run P w=.ok (.value (.int k (if b > a then b else a))) w:=by
 simp[execOp,resolve,invoke,builtin,hx,G,run_max_int2]
end
def ixD {α:Type}(q:α->Bool)(es:List α):Int:=if es.findIdx q<es.length then(es.findIdx q:Int)else -1
theorem Qn2 {q:α->Bool}{es:List α}(h:∀e∈es,q e=false):ixD q es=-1:=by
 unfold ixD;rw[OR];rw[List.findIdx_eq_length.2 h];omega
theorem Qn3 {q:α->Bool}{es:List α}{k:Nat}(E:k<es.length)(G:∀e∈es.take k,q e=false)(H:q (es[k]'E)=true):ixD q es=(k:Int):=by
 have h:es.findIdx q=k:=(List.findIdx_eq E).2 ⟨H,λj I=>G _ (List.mem_take_iff_getElem.2 ⟨j,oa,U⟩)⟩;unfold ixD;rw[h,OS E]
theorem QeK {v:O0}{es:List DV}[Fu prog g fn]{cap:LV}{q:DV->Bool}(h:Zv L w.heap v es.length 9 (es.flatMap QE))
  (hk:∀e∈es,∀G:OZ,O3 [] w G->Q5 prog g ([.agg (QE e).toArray]++cap) G λr w'=>r=.bool (q e)/\O3 [] G w'):
  Q5 prog 163 [v,.func (.func g) #[] cap.toArray] w λr w'=>r=oF oG (ixD q es)/\O3 [] w w':=by
 have hg:=h.le;refine Zs func163 ntmps163 results163 ?_;refine Qe<|Qc<|Qd<|Qm<|QL h U<|Qb<|xe<|Qg<|QC (α:=Nat) [(4,5),(8,18)] (λz=>[(8,oF oG z)]) (λz w'=>z<=es.length/\O3 [] w w'/\∀m∈es.take z,q m=false) (λz=>es.length - z) ol 0 La ⟨Ln _,O3.Z _ _,λm S=>by simp at S⟩ ?_;rintro k g' G ⟨hh,H,J⟩;refine Qe<|QX U U<|xe<|Qd<|QG U (λT=>?_) (λT=>?_)
 ·refine Qx ?_;have hf:es.length<=k:=by have I:¬(k:Int)<(es.length:Int):=T;omega
  rw[Ls hf]at J;refine Qe<|Qc ?_;exact Ql ⟨[oF oG (-1)],La,OT (Value.int .i64) (Qn2 J).symm,H⟩
 have E:k<es.length:=by have I:(k:Int)<(es.length:Int):=T;omega
 have V:es.take (k+1)=es.take k++[es[k]'E]:=Ll E;have Y:=λh2=>Qn3 (q:=q) E J h2;have ha:=Lm E;refine Qh<|Qd<|Qg<|Qm<|Qc<|Qm<|Qb<|Qb<|O6 (g:=QE) (i:=k) ZW (h.I H) U U E λhi hb=>?_;refine Zk (es[k]'E) λm S=>?_;rw[S]at hb V Y ha;refine x (Qv hb U U)<|Qa<|xc (first:=[]) (capt:=cap) U<|(hk m ha G H).mono ?_;rintro r2 w2 ⟨rfl,hc⟩;refine xe<|QW rfl (λI=>?_) (λI=>?_)
 ·refine Qm<|Qc ?_;exact Ql ⟨[oF oG k],La,OT (Value.int .i64) (Y I).symm,H.D hc⟩
 refine Qh<|Qw<|QN U U<|Qb<|xe<|⟨k+1,oa,La,E,H.D hc,λm' he=>?_⟩;rw[V]at he;rcases Lc.1 he with O|O
 ·exact J m' O
 simp only[oI]at O;subst O;exact I
theorem QiP {T1 T2:Nat}{k:Int}{n:ByteArray}(J:Q7 w.heap b1 T1 [oF oG k])(O:Q7 w.heap b2 T2 [.string n]):
  Q5 prog 164 [.agg (QE q).toArray,.pointer (some ⟨b1,0,none⟩),.pointer (some ⟨b2,0,none⟩)] w λr w'=>r=.bool (V1 k n q.it)/\O3 [] w w':=by
 refine Zs func164 ntmps164 results164 ?_;refine Qe<|Qa<|QS (us:=QE q) U λS T E V I=>Qc<|Qe<|Qs U I U U<|Y2 (J.I E) U U<|xb (Q9 U U) (λG=>?_) (λG=>?_)
 ·refine Qb<|Qs U I U U<|Y2 (O.I E) U U<|xb (Xv U U) (λH=>?_) (λH=>?_)
  ·refine QK U<|Qc ?_;exact Ql ⟨[.bool true],La,OT Value.bool (by unfold V1;rw[OV (show q.it.kd=k from G),OV (show q.it.nm=n from H)];rfl),E⟩
  refine QK U<|Qc ?_;exact Ql ⟨[.bool false],La,OT Value.bool (by unfold V1;rw[OX (show ¬q.it.nm=n from H),Bool.and_false]),E⟩
 refine Qb<|Qr<|Qr<|Qr<|Qr<|QK U<|Qc ?_;exact Ql ⟨[.bool false],La,OT Value.bool (by unfold V1;rw[OX (show ¬q.it.kd=k from G),Bool.false_and]),E⟩
theorem Qgr (es:List DV)(k:Int)(n:ByteArray):es.findIdx (λq=>V1 k n q.it)=Yr (es.map DV.it) k n:=by
 unfold Yr;rw[List.findIdx_map];rfl
theorem zq {v:O0}{es:List DV}(h:Zv L w.heap v es.length 9 (es.flatMap QE))(k:Int)(n:ByteArray):
  Q5 prog 111 [v,oF oG k,.string n] w λr w'=>(∃i:Int,r=.tuple #[oF oG i,.bool (KB (es.map DV.it) k n)]/\(KB (es.map DV.it) k n=true->i=(Yr (es.map DV.it) k n:Int)))/\O3 [] w w':=by
 have H:=Qgr es k n;refine Zs func111 ntmps111 results111 ?_;refine Qe<|Qa<|QS (us:=[oF oG k]) U λS w1 T hc V=>Qa<|QS (us:=[.string n]) U λY w2 I he ha=>x Qk<|Qc ?_;have J:=T.D I;refine Qm<|x (ZC (l:=[]) (l':=[_,_]))<|Qa<|xf<|(QeK (q:=λq=>V1 k n q.it) (cap:=[.pointer (some ⟨S,0,none⟩),.pointer (some ⟨Y,0,none⟩)]) (h.I J) (λe _ w5 O=>QiP ((V.I I).I O) (ha.I O))).mono ?_;rintro r3 w3 ⟨rfl,hb⟩;refine Qc<|Qm<|x (Qnq U U)<|Qb<|x (Yl U U)<|x Qk<|Qc<|Ql ⟨[oF oG (if(0:Int) > ixD (λq:DV=>V1 k n q.it) es then 0 else ixD (λq:DV=>V1 k n q.it) es),.bool (decide ((0:Int)<=ixD (λq:DV=>V1 k n q.it) es))],oA,⟨if(0:Int) > ixD (λq:DV=>V1 k n q.it) es then 0 else ixD (λq:DV=>V1 k n q.it) es,?_,?_⟩,J.D hb⟩
 ·have e:decide ((0:Int)<=ixD (λq:DV=>V1 k n q.it) es)=KB (es.map DV.it) k n:=decide_eq_decide.2 (by
   unfold ixD;rw[H,Lh];split
   ·rename_i E;exact⟨λ_=>E,λ_=>oa⟩
   rename_i E;exact⟨λG=>oa,λG=>OU G E⟩)
  rw[e];rfl
 intro E;have G:Yr (es.map DV.it) k n<es.length:=by have:=OW E;rwa [Lh]at this
 unfold ixD;rw[H,OS G];split <;> omega
theorem Qjz {v:O0}(h:Zv L w.heap v n 2 cs)(V:∀u∈cs,u.oneCell'=true):
  Q5 prog 108 [v] w λr w'=>O3 [] w w'/\w'.ownsRow w.heap.size 134 2 r n cs:=by
 have hb:=h.le;refine Zs func108 ntmps108 results108 ?_;refine Qe<|Qc ?_;obtain⟨ao,cap,G⟩:=h.shape;refine Qd<|Qm<|x (Xu (show ev _ _=_ from G) U)<|xe<|QW rfl (λI=>?_) (λI=>?_)
 ·refine Qe<|Qc<|Ql ⟨[nS],La,O3.Z _ _,?_⟩;rcases h.2.2 with⟨E,H⟩|⟨a,c,E,_⟩
  ·have J:cs=[]:=Lq (by rw[h.1,H]);subst J H;exact QJ _ _ _ _
  rw[E]at G;cases G;cases I
 rcases h.2.2 with⟨E,H⟩|⟨a,c,E,H,J⟩
 ·rw[E]at G;injection G with e1;subst e1;cases I
 refine Qh<|Qe<|Qa<|XQ λb5 w1 O S T=>Qb<|Qa<|Za (base:=w.heap.size) (T.own (n:=0) (sz:=2) U oa S) U (show ev _ _=_ from E) h.1 (J.I O) V oa (ou T.lt) λv2 w2 Y ha hc=>Qc<|Ql ⟨[v2],La,O.O ha S,?_⟩;simpa[tup]using Y
theorem Qjy {v:O0}(h:Zv L w.heap v n 2 cs)(V:∀u∈cs,u.oneCell'=true):
  Q5 prog 109 [v] w λr w'=>O3 [] w w'/\w'.ownsRow w.heap.size 232 2 r n cs:=by
 have hb:=h.le;refine Zs func109 ntmps109 results109 ?_;refine Qe<|Qc ?_;obtain⟨ao,cap,G⟩:=h.shape;refine Qd<|Qm<|x (Xu (show ev _ _=_ from G) U)<|xe<|QW rfl (λI=>?_) (λI=>?_)
 ·refine Qe<|Qc<|Ql ⟨[nS],La,O3.Z _ _,?_⟩;rcases h.2.2 with⟨E,H⟩|⟨a,c,E,_⟩
  ·have J:cs=[]:=Lq (by rw[h.1,H]);subst J H;exact QJ _ _ _ _
  rw[E]at G;cases G;cases I
 rcases h.2.2 with⟨E,H⟩|⟨a,c,E,H,J⟩
 ·rw[E]at G;injection G with e1;subst e1;cases I
 refine Qh<|Qe<|Qa<|XQ λb5 w1 O S T=>Qb<|Qa<|Za (base:=w.heap.size) (T.own (n:=0) (sz:=2) U oa S) U (show ev _ _=_ from E) h.1 (J.I O) V oa (ou T.lt) λv2 w2 Y ha hc=>Qc<|Ql ⟨[v2],La,O.O ha S,?_⟩;simpa[tup]using Y
theorem Qjx {v:O0}(h:Zv L w.heap v n 2 cs)(V:∀u∈cs,u.oneCell'=true):
  Q5 prog 57 [v] w λr w'=>O3 [] w w'/\w'.ownsRow w.heap.size 71 2 r n cs:=by
 have hb:=h.le;refine Zs func57 ntmps57 results57 ?_;refine Qe<|Qc ?_;obtain⟨ao,cap,G⟩:=h.shape;refine Qd<|Qm<|x (Xu (show ev _ _=_ from G) U)<|xe<|QW rfl (λI=>?_) (λI=>?_)
 ·refine Qe<|Qc<|Ql ⟨[nS],La,O3.Z _ _,?_⟩;rcases h.2.2 with⟨E,H⟩|⟨a,c,E,_⟩
  ·have J:cs=[]:=Lq (by rw[h.1,H]);subst J H;exact QJ _ _ _ _
  rw[E]at G;cases G;cases I
 rcases h.2.2 with⟨E,H⟩|⟨a,c,E,H,J⟩
 ·rw[E]at G;injection G with e1;subst e1;cases I
 refine Qh<|Qe<|Qa<|XQ λb5 w1 O S T=>Qb<|Qa<|Za (base:=w.heap.size) (T.own (n:=0) (sz:=2) U oa S) U (show ev _ _=_ from E) h.1 (J.I O) V oa (ou T.lt) λv2 w2 Y ha hc=>Qc<|Ql ⟨[v2],La,O.O ha S,?_⟩;simpa[tup]using Y
theorem QjA {v:O0}(h:Zv L w.heap v n 3 cs)(V:∀u∈cs,u.oneCell'=true):
  Q5 prog 58 [v] w λr w'=>O3 [] w w'/\w'.ownsRow w.heap.size 76 3 r n cs:=by
 have hb:=h.le;refine Zs func58 ntmps58 results58 ?_;refine Qe<|Qc ?_;obtain⟨ao,cap,G⟩:=h.shape;refine Qd<|Qm<|x (Xu (show ev _ _=_ from G) U)<|xe<|QW rfl (λI=>?_) (λI=>?_)
 ·refine Qe<|Qc<|Ql ⟨[nS],La,O3.Z _ _,?_⟩;rcases h.2.2 with⟨E,H⟩|⟨a,c,E,_⟩
  ·have J:cs=[]:=Lq (by rw[h.1,H]);subst J H;exact QJ _ _ _ _
  rw[E]at G;cases G;cases I
 rcases h.2.2 with⟨E,H⟩|⟨a,c,E,H,J⟩
 ·rw[E]at G;injection G with e1;subst e1;cases I
 refine Qh<|Qe<|Qa<|XQ λb5 w1 O S T=>Qb<|Qa<|Za (base:=w.heap.size) (T.own (n:=0) (sz:=3) U oa S) U (show ev _ _=_ from E) h.1 (J.I O) V oa (ou T.lt) λv2 w2 Y ha hc=>Qc<|Ql ⟨[v2],La,O.O ha S,?_⟩;simpa[tup]using Y
theorem Qjw {v:O0}(h:Zv L w.heap v n 4 cs)(V:∀u∈cs,u.oneCell'=true):
  Q5 prog 119 [v] w λr w'=>O3 [] w w'/\w'.ownsRow w.heap.size 253 4 r n cs:=by
 have hb:=h.le;refine Zs func119 ntmps119 results119 ?_;refine Qe<|Qc ?_;obtain⟨ao,cap,G⟩:=h.shape;refine Qd<|Qm<|x (Xu (show ev _ _=_ from G) U)<|xe<|QW rfl (λI=>?_) (λI=>?_)
 ·refine Qe<|Qc<|Ql ⟨[nS],La,O3.Z _ _,?_⟩;rcases h.2.2 with⟨E,H⟩|⟨a,c,E,_⟩
  ·have J:cs=[]:=Lq (by rw[h.1,H]);subst J H;exact QJ _ _ _ _
  rw[E]at G;cases G;cases I
 rcases h.2.2 with⟨E,H⟩|⟨a,c,E,H,J⟩
 ·rw[E]at G;injection G with e1;subst e1;cases I
 refine Qh<|Qe<|Qa<|XQ λb5 w1 O S T=>Qb<|Qa<|Za (base:=w.heap.size) (T.own (n:=0) (sz:=4) U oa S) U (show ev _ _=_ from E) h.1 (J.I O) V oa (ou T.lt) λv2 w2 Y ha hc=>Qc<|Ql ⟨[v2],La,O.O ha S,?_⟩;simpa[tup]using Y
theorem ym {v:O0}(h:Zv L w.heap v n 2 cs)(V:∀u∈cs,u.oneCell'=true):
  Q5 prog 120 [v] w λr w'=>O3 [] w w'/\w'.ownsRow w.heap.size 114 2 r n cs:=by
 have hb:=h.le;refine Zs func120 ntmps120 results120 ?_;refine Qe<|Qc ?_;obtain⟨ao,cap,G⟩:=h.shape;refine Qd<|Qm<|x (Xu (show ev _ _=_ from G) U)<|xe<|QW rfl (λI=>?_) (λI=>?_)
 ·refine Qe<|Qc<|Ql ⟨[nS],La,O3.Z _ _,?_⟩;rcases h.2.2 with⟨E,H⟩|⟨a,c,E,_⟩
  ·have J:cs=[]:=Lq (by rw[h.1,H]);subst J H;exact QJ _ _ _ _
  rw[E]at G;cases G;cases I
 rcases h.2.2 with⟨E,H⟩|⟨a,c,E,H,J⟩
 ·rw[E]at G;injection G with e1;subst e1;cases I
 refine Qh<|Qe<|Qa<|XQ λb5 w1 O S T=>Qb<|Qa<|Za (base:=w.heap.size) (T.own (n:=0) (sz:=2) U oa S) U (show ev _ _=_ from E) h.1 (J.I O) V oa (ou T.lt) λv2 w2 Y ha hc=>Qc<|Ql ⟨[v2],La,O.O ha S,?_⟩;simpa[tup]using Y
abbrev z9:LV:=[oF oG 0,.string .empty,nS,oF oG 0,nS,nS,nS,nS,oF oG 0]
theorem Qef (l:List (ByteArray×Int)):∀u∈l.flatMap ZX,u.oneCell'=true:=by
 intro u G;obtain⟨p,_,E⟩:=Mi.1 G;simp only[ZX,oK,oJ,or_false]at E;rcases E with rfl|rfl <;> rfl
theorem Kd (h0:Jn L w.heap q):
  Q5 prog 52 [.agg (QE q).toArray] w λr w'=>O3 [] w w'/\∃q':DV,r=.agg (QE q').toArray/\q'.it=q.it/\∀L:LN,(∀b∈L,b<w.heap.size)->Jn L w'.heap q':=by
 have h:=h0.up (L':=[]) oe;have hB:=h.a.al.le;have hC:=h.a.mr.le;have hE:=h.a.ed.le;have hF:=h.ls.arr.le;have hG:=h.ts.arr.le;refine Zs func52 ntmps52 results52 ?_;refine Qe<|Qa<|QS (us:=QE q) U λb1 w1 hH hs ht=>Qa<|Qo (us:=z9) U λb2 w2 hu gc hz=>xe ?_;have hI:=hH.D hu;have gg:=ht.lt;have gh:=hz.lt;refine Qe<|Q0 U<|x (Zl (us:=[q.p.va,oF oG q.p.a.st,q.p.vm,q.p.ve]) (ht.I hu) U U U)<|Qa<|Qo (us:=qa) U λb3 w3 hJ hK hM=>Qa<|Qj (us:=[q.p.va,oF oG q.p.a.st,q.p.vm,q.p.ve]) hM U U U U ⟨h.a.al.one,U,h.a.mr.one,h.a.ed.one,Z⟩ λH hN hf=>xe ?_;have hg:O3 [] w2 H:=hJ.O hN hK;have h1:=hI.D hg;have h4:=h.I h1;have hO:=ht.I (hu.D hg);have hP:=hz.I hg;have gi:=hg.size;have h2:O3 [] H { H with drawn:=H.drawn+1 }:=O3.C _ _
 refine Qd<|QR (O3 [] H) [oD 0,oD 1,oD 3,oD 4,oD 5,oD 6,oD 8,oD 9,oE 2,oE 7,oE 10,oD 11,oD 12,oE 13] mixed ol od (O3.C _ _) ?_;refine p (QP U)<|pq (λ_ G=>Qq (hf.I G) U U)<|p (QP U)<|pq (λ_ G=>Qq (hf.I G) U U) <|
  p (QP rfl)<|pq (λ_ G=>Qq (hf.I G) U U)<|p (QP U)<|pq (λ_ G=>Qq (hf.I G) U U) <|
  pk<|xf<|(ZU (h4.a.al.I h2)).mono ?_
 rintro ra w5 ⟨hQ,hh⟩;have hi:O3 [] H w5:=h2.D hQ;refine⟨hi,?_⟩;refine pk<|xf<|(ZU (h4.a.mr.I hi)).mono ?_;rintro rm w6 ⟨h3,hj⟩;have hk:=hi.D h3;refine⟨hk,?_⟩;refine pk<|xf<|(KC (h4.a.ed.I hk)).mono ?_;rintro re w7 ⟨hv,J⟩;have O:=hk.D hv;refine⟨O,?_⟩;refine p (λ_=>Qz ⟨xJ hh,U,xJ hj,xJ J,Z⟩)<|p (QP U)<|pkl (hl:=by kernel_rfl)<|YM (us:=[ra,oF oG q.p.a.st,rm,re]) (cs':=[oF oG q.kd,.string q.nm,ra,oF oG q.p.a.st,rm,re,q.vl,q.vt,oF oG q.bd]) (hO.I O) U U U oe ⟨Qt hh,rfl,Qt hj,Qt J,Z⟩ rfl λI hn hw=>pe ?_;have gj:=O.size;have h5:O3 [] w I:=(h1.D O).O hn hs;have hy:b2∉[b1]:=om
 have hR:=(hP.I O).J hn hy;have h8:=h.I h5;have gk:=hn.size;have h6:O3 [] I { I with drawn:=I.drawn+1 }:=O3.C _ _
 refine Qd<|QR (O3 [] I) [oD 0,oD 1,oD 3,oD 4,oE 2,oD 6,oE 5,oE 7,oD 8,oE 9] mixed ol od (O3.C _ _) ?_;refine p (QP U)<|pq (λ_ G=>Qq (hw.I G) U U)<|p (QP U)<|pq (λ_ G=>Qq (hw.I G) U U) <|
  pk<|xf<|(Qjz (h8.ls.arr.I h6) (Qef q.ls)).mono ?_
 rintro rl w9 ⟨hS,ho⟩;have hp:O3 [] I w9:=h6.D hS;refine⟨hp,?_⟩;refine p (QP U)<|pk<|xf<|(Qjy (h8.ts.arr.I hp) (Qef q.ts)).mono ?_;rintro rt h7 ⟨h9,hr⟩;have S:=hp.D h9;refine⟨S,?_⟩;refine pkl (hl:=by kernel_rfl)<|QA (j:=6) (u:=rl) (hw.I S) U U oe (Qt ho) λgl T hT=>p (QP rfl)<|pkl (hl:=by kernel_rfl)<|QA (j:=7) (u:=rt) hT rfl rfl oe (Qt hr) λhU V hV=>pe ?_;have hq:Zj [oF oG q.kd,.string q.nm,ra,oF oG q.p.a.st,rm,re,rl,rt,oF oG q.bd]:=⟨U,U,Qt hh,U,Qt hj,Qt J,Qt ho,Qt hr,U,Z⟩;have hW:=((hR.I S).J T hy).J V hy;refine Qe<|Q2 hV U U<|Qa<|Qj (us:=[oF oG q.kd,.string q.nm,ra,oF oG q.p.a.st,rm,re,rl,rt,oF oG q.bd]) hW U U U U hq λgm hA hX=>xe ?_;refine Ql ⟨[.agg (QE ⟨q.kd,q.nm,⟨ra,rm,re,q.p.a⟩,rl,q.ls,rt,q.ts,q.bd⟩).toArray],⟨⟨_,U,Qn U (hX.at (L:=[]) oe).cells⟩,Z⟩,(((h5.D S).O T hs).O V hs).O hA oa,_,rfl,rfl,λL hL=>?_⟩;have Y:∀b∈b1::b2::L,b<H.heap.size:=λb E=>by
  simp only[oK]at E;rcases E with rfl|rfl|E
  ·omega
  ·omega
  have:=hL b E;omega
 have e1:({ H with drawn:=H.drawn+1 }:OZ).heap.size=H.heap.size:=rfl
 have e2:({ I with drawn:=I.drawn+1 }:OZ).heap.size=I.heap.size:=rfl
 have gn:=hi.size;have go:=hk.size;have gp:=hp.size;have ha:QQ (b1::b2::L) w7.heap ra q.p.a.al:=((Qu.ints hh hB (λb E=>ou (Y b E))).I h3).I hv;have hm:QQ (b1::b2::L) w7.heap rm q.p.a.mr:=(Qu.ints hj hC (λb E=>ou (Y b E))).I hv;have he:qX (b1::b2::L) w7.heap re q.p.a.ed:=QH J hE (λb E hbL=>ov (Qi J b E).1 (Y b hbL));have hY:ZK (b1::b2::L) w7.heap ra rm re q.p.a:=⟨ha,hm,he⟩;have hZ:=(((hY.st (hn.mono oe)).I S).st (T.mono oe)).st (V.mono oe);have ga:Zv (b1::b2::L) h7.heap rl q.ls.length 2 (q.ls.flatMap ZX):=(QH ho hF (λb E hbL=>ov (Qi ho b E).1 (Y b hbL)):Zv (b1::b2::L) w9.heap rl _ 2 _).I h9;have gb:Zv (b1::b2::L) h7.heap rt q.ts.length 2 (q.ts.flatMap ZX):=QH hr hG (λb E hbL=>ov (Qi hr b E).1 (Y b hbL));have hD:Jn (b1::b2::L) hU.heap ⟨q.kd,q.nm,⟨ra,rm,re,q.p.a⟩,rl,q.ls,rt,q.ts,q.bd⟩:=⟨h.nm,hZ,⟨(ga.st (T.mono oe)).st (V.mono oe),h.ls.nm⟩,⟨(gb.st (T.mono oe)).st (V.mono oe),h.ts.nm⟩⟩;exact(hD.st (hA.mono oe)).up (λb E=>.inl (by simp[E]))
section
variable {pS:String}
theorem zC {base e:Nat}{bys:Nat}[h:Sl P t e sz bys z]{v:O0}(H:w.ownsRow base e sz v n cs)
  {a:Addr} {m c:Nat}  (hl:news.length=m*sz) (V:∀j u,news[j]?=some u->w.cell? (a.add j)=some u) (h1:∀u∈news,u.oneCell'=true)
  (hb:n+m<=1073741824) (hs:bys<=131072) (he:base<=w.heap.size):
  ∃v' w',(Builtin.append_ #[t,t] ty #[v,.slice (some a) m c]).run P w=.ok v' w'/\w'.ownsRow base e sz v' (n+m) (cs++news)/\O3 (ob v) w w'/\(∀b∈ob v',b∈ob v\/w.heap.size<=b):=by
 obtain⟨i,hi,hz,O,ha⟩:=Sl.info h;have hc:(n+m)*bys<=140737488355328:=LJ (Nat.mul_le_mul hb hs) oa;have hf:n+m<=maxLen:=by simp only[maxLen];omega
 by_cases hg:∃g cap cur,v=.slice (some ⟨g,0,none⟩) n cap/\w.heap[g]?=some (.cells cur e (0,0))/\n+m<=cap
 ·obtain⟨v',w',I,ho,ht,_⟩:=run_append_own (P:=P) w base t ty e i z sz bys h.u hi hz O ha h.zs h.pos v n cs H a m c news hl V h1 hf hc he;refine⟨v',w',I,ho,by rw[zM];exact O3.of_grown ht,?_⟩;obtain⟨g,cap,cur,rfl,hh,S⟩:=hg;rcases H.2 with⟨h2,_⟩|⟨g2,cap2,hj,h2,h3,h4,h5,h6,h7,h8⟩
  ·cases h2
  cases h2
  have hu:n*i.size+news.length<=hj.size:=by rw[hl,h7,O,<-Ms];exact LY _ S
  have hv:=run_append_room (P:=P) w t ty e i h.u hi g n cap hj h4 a m c news (by rw[O];exact hl) V h1 S hu;rw[hv]at I;cases I
  intro b G;exact .inl G
 have new:∀(old:Nat),old<n+m->∀J,J=(Obj.cells (cs.toArray++news.toArray++Builtin.zeroCells z.cells (grownCap w (n+m) old e - (n+m))) e) ->
   (w.drew.alloc J).ownsRow base e sz (.slice (some ⟨w.heap.size,0,none⟩) (n+m) (grownCap w (n+m) old e)) (n+m) (cs++news):=by
  intro old ho J hw;subst hw;have hge:=grownCap_ge w (n+m) old e;have hp:grownCap w (n+m) old e<=maxLen:=grownCap_le_maxLen w (n+m) old e hf;have hq:(cs++news).length=(n+m)*sz:=by rw[Lj,H.1,hl,Ms]
  refine⟨hq,.inr ⟨w.heap.size,_,_,U,he,J4 w.drew _,hge,hp,?_,?_⟩⟩
  ·simp only[Array.size_append,Od,size_zeroCells,h.zs,H.1,hl,<-Oo];congr 1;omega
  simp only[Array.toList_append,o0];rw[<-LB,<-hq];exact List.take_left
 have stp:∀J,O3 (ob v) w (w.drew.alloc J):=λJ=>⟨U,U,U,by rw[Vy];exact OL _,λk hk _=>qt w.drew J k hk⟩;have fin:∀(b:Nat),b∈ob (.slice (some ⟨w.heap.size,0,none⟩) (n+m) 0)->b∈ob v\/w.heap.size<=b:=λb G=>by simp[ob]at G;omega
 rcases H.2 with⟨rfl,rfl⟩|⟨g,cap,cur,rfl,hA,hh,hB,hp,hC,hD⟩
 ·have hx:cs=[]:=Lq (oz H.1);subst hx;by_cases hm:m=0
  ·subst hm;have Y:news=[]:=Lq (oz hl);subst Y;refine⟨nS,w,?_,QJ _ _ _ _,O3.Z _ _,λb G=>by simp[ob]at G⟩;simp[Builtin.append_,run_underlying h.u,sizeOf,typeInfo,hi,Builtin.lenOf,Builtin.firstCells,loadCells,loadCellsFrom]
  have I:=run_append_nil (P:=P) w t ty e i z h.u hi hz a m c news (by rw[O];exact hl) V oa oa (by rw[ha];have hy:=hc;simp only[oY]at hy;omega);have Y:=new 0 oa _ U;simp only[oY,Oj,Array.empty_append]at Y ⊢;exact⟨_,_,I,Y,stp _,λb G=>fin b G⟩
 have S:cap<n+m:=by
  rcases OF cap (n+m)with h0|hge
  ·exact h0
  exact OU ⟨g,cap,cur,U,hh,hge⟩ hg
 have h9:∀j u,cs[j]?=some u->w.cell? ((⟨g,0,none⟩:Addr).add j)=some u:=H.cells (g:=g) U;have I:=run_append_grow (P:=P) w t ty e i z h.u hi hz ⟨g,0,none⟩ n cap cs (by rw[O];exact H.1) h9 a m c news (by rw[O];exact hl) V S oa (growslice_fits S (by rw[ha];exact hc));exact⟨_,_,I,new cap S _ U,stp _,λb G=>fin b G⟩
theorem X6 {e bys:Nat}[h:Sl P t e sz bys z]{s:O1}{base:Nat}{v:O0}(G:w.ownsRow base e sz v n cs)(H:ev f s=v)
  {a:Addr} {m c:Nat}  (I:ev f y=.slice (some a) m c) (hl:news.length=m*sz)  (J:At L w.heap a news) (O:∀u∈news,u.oneCell'=true)
  (S:n+m<=1073741824) (V:base<=w.heap.size)
  (hK:∀v' w',w'.ownsRow base e sz v' (n+m) (cs++news)->O3 (ob v) w w'->(∀b∈ob v',b∈ob v\/w.heap.size<=b)->K (QY f d v') w') (Y:bys<=131072:=by decide):
  XO P ⟨d,.call ⟨.builtin .append,#[s,y],#[t,t]⟩,ty,pS,af,gd⟩ f w K:=by
 obtain⟨v',w',hr,h2,h3,h4⟩:=zC (P:=P) (t:=t) (ty:=ty) G hl J.cells O S Y V (c:=c);have ha:(execOp (ev f) ⟨d,.call ⟨.builtin .append,#[s,y],#[t,t]⟩,ty,pS,af,gd⟩).run P w=.ok (.value v') w':=by
  simp[execOp,resolve,invoke,builtin,H,I,hr]
 exact xv ha (hK v' w' h2 h3 h4)
end
class Mm {α:Type}(E:LN->Array Obj->α->Prop):Prop where
 st:∀{L:LN} {w w':OZ} {q:α},E L w.heap q->O3 L w w'->E L w'.heap q
 up:∀{L L':LN} {H:xx} {q:α},E L H q->(∀b∈L',b∈L\/H.size<=b)->E L' H q
section
variable {E:LN->Array Obj->α->Prop}[Mm E]{q:α}
theorem Mm.mono (h:E L H q)(G:∀b∈L',b∈L):E L' H q:=Mm.up h λb I=>.inl (G b I)
theorem Mm.J (h:E L w.heap q)(H:O3 X w w')(I:∀b∈X,b∈L\/w.heap.size<=b):E L w'.heap q :=
 Mm.mono (Mm.st (Mm.up (L':=X++L) h (λb G=>(Lc.1 G).elim (I b) .inl)) (H.mono λ_ G=>Lc.2 (.inl G))) λ_ G=>Lc.2 (.inr G)
theorem Mm.I (h:E L w.heap q)(G:O3 [] w w'):E L w'.heap q:=Mm.st h G.any
end
structure Ja {α:Type}(g:α->LV)(sz:Nat)(E:LN->Array Obj->α->Prop)(L:LN)(H:xx)(v:O0)(qs:List α):Prop where
 arr:Zv L H v qs.length sz (qs.flatMap g)
 each:∀q∈qs,E L H q
section
variable {g:α->LV}{E:LN->Array Obj->α->Prop}
theorem Ja.st [Mm E]{L:LN}{w w':OZ}{v:O0}{qs:List α}(h:Ja g sz E L w.heap v qs)(G:O3 L w w'):Ja g sz E L w'.heap v qs:=⟨h.arr.st G,λq H=>Mm.st (h.each q H) G⟩
theorem Ja.up [Mm E]{L L':LN}{H:xx}{v:O0}{qs:List α}(h:Ja g sz E L H v qs)(G:∀b∈L',b∈L\/H.size<=b):Ja g sz E L' H v qs:=⟨h.arr.up G,λq I=>Mm.up (h.each q I) G⟩
theorem Ja.I [Mm E]{v:O0}{qs:List α}(h:Ja g sz E L w.heap v qs)(G:O3 [] w w'):Ja g sz E L w'.heap v qs:=h.st G.any
structure Z2 {α:Type}(g:α->LV)(sz T:Nat)(E:LN->Array Obj->α->Prop)(base:Nat)(w:OZ)(v:O0)(l:List α):Prop where
 own:w.ownsRow base T sz v l.length (l.flatMap g)
 each:∀q∈l,∀L:LN,(∀b∈L,b<base\/b∈ob v)->E L w.heap q
variable {bs:Nat}{v:O0}{l:List α}
theorem Z2.nil:Z2 g sz T E bs w (nS) []:=⟨QJ _ _ _ _,λq G=>by cases G⟩
theorem Z2.low [Mm E](h:Z2 g sz T E bs w v l)(H:O3 X w w')(I:∀b∈X,b<bs):Z2 g sz T E bs w' v l :=
 ⟨Qf h.own H (λb G J=>ov (Qi h.own b G).1 (I b J)),λq O L S =>
  Mm.mono (Mm.st (L:=X++L) (h.each q O _ λb G=>(Lc.1 G).elim (λG=>.inl (I b G)) (S b)) (H.mono λb G=>Lc.2 (.inl G))) λb G=>Lc.2 (.inr G)⟩
theorem Z2.I [Mm E](h:Z2 g sz T E bs w v l)(G:O3 [] w w'):Z2 g sz T E bs w' v l:=h.low G (λ_ H=>by cases H)
theorem Z2.base {base':Nat}(h:Z2 g sz T E bs w v l)(G:base'<=bs):Z2 g sz T E base' w v l :=
 ⟨Zy h.own G,λq H L I=>h.each q H L λb J=>(I b J).imp (λh=>oa) id⟩
theorem Z2.app [Mm E]{H:O0}{I:OZ}{q:α}(h:Z2 g sz T E bs w v l)(O:∀L:LN,(∀b∈L,b<bs\/b∈ob v)->E L w.heap q)
  (S:I.ownsRow bs T sz H (l.length+1) (l.flatMap g++g q)) (V:O3 (ob v) w I) (Y:∀b∈ob H,b∈ob v\/w.heap.size<=b):Z2 g sz T E bs I H (l++[q]):=by
 have mv:∀d:α,(∀L:LN,(∀b∈L,b<bs\/b∈ob v)->E L w.heap d)->∀L:LN,(∀b∈L,b<bs\/b∈ob H)->E L I.heap d:=λd hd L hL=>by
  have h1:E (ob v++L) w.heap d:=Mm.up (hd (ob v++L.filter λb=>decide (b<bs)) λb G=>(Lc.1 G).elim .inr λG=>.inl (OW (L9.1 G).2)) λb G=>by
   rcases Lc.1 G with G|G
   ·exact .inl (Lc.2 (.inl G))
   rcases hL b G with J|J
   ·exact .inl (Lc.2 (.inr (L9.2 ⟨G,OV J⟩)))
   exact(Y b J).imp (λh3=>Lc.2 (.inl h3)) id
  exact Mm.mono (Mm.st h1 (V.mono λb G=>Lc.2 (.inl G))) λb G=>Lc.2 (.inr G)
 refine⟨?_,λd hd=>?_⟩
 ·rw[Lj,LA];simpa using S
 rcases Lc.1 hd with hd|hd
 ·exact mv d (h.each d hd)
 simp only[oI]at hd;subst hd;exact mv d O
theorem Z2.lst (h:Z2 g sz T E bs w v l)(I:l.length<=1099511627776)(H:∀b∈L,b<bs):Ja g sz E L w.heap v l :=
 ⟨QH h.own I (λb G hbL=>ov (Qi h.own b G).1 (H b hbL)),λq J=>h.each q J L λb G=>.inl (H b G)⟩
end
instance:Mm Jn:=⟨Jn.st,Jn.up⟩
theorem Vv (h:Jn L H q):∀u∈QE q,u.oneCell'=true:=by
 intro u E;simp only[QE,oK,oJ,or_false]at E;rcases E with rfl|rfl|rfl|rfl|rfl|rfl|rfl|rfl|rfl
 ·rfl
 ·rfl
 ·exact h.a.al.one
 ·rfl
 ·exact h.a.mr.one
 ·exact h.a.ed.one
 ·exact h.ls.arr.one
 ·exact h.ts.arr.one
 rfl
abbrev JI (base:Nat)(w:OZ)(v:O0)(l:List DV):Prop:=Z2 QE 9 138 Jn base w v l
theorem JI.dits {base:Nat}{v:O0}{l:List DV}(h:JI base w v l)(E:l.length<=1099511627776)(G:∀b∈L,b<base):Vn L w.heap v l:=⟨(Z2.lst h E G).arr,(Z2.lst h E G).each⟩
theorem JV {v:O0}{es:List DV}(h0:Vn L w.heap v es)(h3:es.length<=100000):
  Q5 prog 129 [v] w λr w'=>O3 [] w w'/\∃l:List DV,JI w.heap.size w' r l/\l.map DV.it=es.map DV.it:=by
 have h:=h0.up (L':=[]) oe;refine Zs func129 ntmps129 results129 ?_;refine Qe<|Qc<|Qe<|Qc<|Qd<|Qm<|QL h.arr U<|Qb<|xe<|Qg<|QC (α:=Nat×O0×List DV) [(3,3),(5,5),(8,17)] (λz=>[(3,z.2.1),(8,oF oG z.1)]) (λz w'=>z.1<=es.length/\O3 [] w w'/\JI w.heap.size w' z.2.1 z.2.2/\z.2.2.map DV.it=(es.take z.1).map DV.it) (λz=>es.length - z.1) ol (0,nS,[]) oA
  ⟨Ln _,O3.Z _ _,Z2.nil,U⟩ ?_
 rintro⟨k,vo,l⟩ g w1 ⟨hk,J,hR,G⟩;simp only[]at hk hR G;have h4:l.length=k:=by have:=OT oP G;rw[Lh,Lh,Ly]at this;omega
 refine Qe<|QX U U<|xe<|Qd<|QG U (λS=>?_) (λS=>?_)
 ·refine Qx ?_;have hh:es.length<=k:=by have hi:¬(k:Int)<(es.length:Int):=S;omega
  rw[Ls hh]at G;refine Qm<|Qc ?_;exact Ql ⟨[vo],La,J,l,hR,G⟩
 have E:k<es.length:=by have hi:(k:Int)<(es.length:Int):=S;omega
 have Y:es.take (k+1)=es.take k++[es[k]'E]:=Ll E;have ha:=Lm E;have h1:=h.I J;refine Qh<|Qd<|Qg<|Qe<|O6 (g:=QE) (i:=k) ZW h1.arr U U E λh5 hc=>?_;refine Zk (es[k]'E) λq hq=>?_;rw[hq]at hc Y ha;have he:=h1.each q ha;refine x (Qv hc U U)<|Qa<|Qo (us:=z9) U λb5 w2 hj hl hn=>Qa<|Qj (us:=QE q) hn U U U U he.ones λw3 ho hp=>xe ?_;have H:O3 [] w1 w3:=hj.O ho hl;have h6:=H.size;have h7:=J.size;refine Qw<|Qb<|Q2 hp U U<|Qa<|xf<|(Kd (he.I H)).mono ?_;rintro r4 w4 ⟨T,I,rfl,hr,hf⟩;have h8:=T.size;have hs:=(hR.I H).I T;have ht:=Zb (hR.I H).own;refine Qa<|QB (us:=[QE I]) U U og (show 1*9<=1000000 by decide) oA λhu w5 O hA hv=>?_;have hB:=O.size;have hw:At [] w5.heap ⟨hu,0,none⟩ (QE I):=by have:=hv.at (L:=[]) oe;simpa using this
 have hR5:=hs.I O;refine Qa<|X6 (m:=1) (news:=QE I) hR5.own U U U hw (Vv (hf [] oe)) oa oa λv6 w6 hy hg hz=>?_;refine Qc ?_;have h2:JI w.heap.size w6 v6 (l++[I]):=hR5.app (λL hL=>(hf L (λb V=>by
  rcases hL b V with h|h
  ·omega
  exact ht b h)).I O) hy hg hz
 refine Qw<|QN U U<|Qb<|xe<|⟨(k+1,v6,l++[I]),by show es.length - (k+1)<es.length - k;omega,oA,E,((((J.D H).D T).D O).then hg λb V=>.inr (Qi hR.own b V).1),h2,?_⟩;simp only[];rw[Y,Lp,Lp,G,LG,LG,hr]
theorem Qcm {n:Nat}{u:LI}:∀{l:List XG}{s:List ByteArray},JE n u s l=0->(l.map (·.nm)).Nodup/\∀x∈l,x.nm∉s
 | [],_,_=>⟨.nil,λx hx=>by cases hx⟩
 | y::l,s,h=>by
  rw[V5]at h;by_cases E:Yi n u s y≠0
  ·rw[OS E]at h;exact OU h E
  rw[OR E]at h;have G:Yi n u s y=0:=Lo.1 E;have J:y.nm∉s:=λH=>by
   unfold Yi at G;split at G
   ·exact OU G og
   exact OU G og
  obtain⟨O,I⟩:=Qcm h;refine⟨Nw.2 ⟨λH=>?_,O⟩,λx hx=>?_⟩
  ·obtain⟨x,hx,e⟩:=LD.1 H;exact I x hx (by rw[e];simp)
  rcases Li.1 hx with rfl|hx
  ·exact J
  exact λH=>I x hx (Lc.2 (.inl H))
theorem Qff {s:List ByteArray}{n:ByteArray}(h:J1 s n=0):n∉s:=λE=>by
 unfold J1 at h;split at h
 ·exact OU h og
 exact OU h og
theorem jO {sz:LI}:∀{l:List qz}{s:List ByteArray},Yq sz s l=0->(l.map (·.nm)).Nodup/\∀x∈l,x.nm∉s
 | [],_,_=>⟨.nil,λx hx=>by cases hx⟩
 | y::l,s,h=>by
  rw[Yq]at h;by_cases E:J1 s y.nm≠0
  ·rw[OS E]at h;exact OU h E
  rw[OR E]at h;by_cases G:Jf sz y.ls≠0
  ·rw[OS G]at h;exact OU h G
  rw[OR G]at h;have J:=Qff (Lo.1 E);obtain⟨O,I⟩:=jO h;refine⟨Nw.2 ⟨λH=>?_,O⟩,λx hx=>?_⟩
  ·obtain⟨x,hx,e⟩:=LD.1 H;exact I x hx (by rw[e];simp)
  rcases Li.1 hx with rfl|hx
  ·exact J
  exact λH=>I x hx (Lc.2 (.inl H))
theorem jP {sz:LI}:∀{l:List xI}{s:List ByteArray},Y0 sz s l=0->(l.map (·.nm)).Nodup/\∀x∈l,x.nm∉s
 | [],_,_=>⟨.nil,λx hx=>by cases hx⟩
 | y::l,s,h=>by
  rw[Y0]at h;by_cases E:J1 s y.nm≠0
  ·rw[OS E]at h;exact OU h E
  rw[OR E]at h;by_cases G:Xp sz y≠0
  ·rw[OS G]at h;exact OU h G
  rw[OR G]at h;have J:=Qff (Lo.1 E);obtain⟨O,I⟩:=jP h;refine⟨Nw.2 ⟨λH=>?_,O⟩,λx hx=>?_⟩
  ·obtain⟨x,hx,e⟩:=LD.1 H;exact I x hx (by rw[e];simp)
  rcases Li.1 hx with rfl|hx
  ·exact J
  exact λH=>I x hx (Lc.2 (.inl H))
theorem zg {c:ZG}{k:Int}{f:Nat->ByteArray}(E:∀(j:Nat) (co:LI),ZM c ⟨k,(j:Int),co⟩=(k,f j)):∀(l:LN) (i:Nat),(VE k i l).map (ZM c)=(oS i l.length).map λj=>(k,f j)
 | [],_=>rfl
 | b::l,i=>by
  rw[VE,LG,zg E l (i+1),E,LQ,M7,LG]
theorem zG (L:List α)(f:α->ByteArray)(d:α)(k:Int):((oS 0 L.length).map λj=>(k,f (L.getD j d)))=L.map λx=>(k,f x):=by
 apply Mt
 ·simp
 intro i H E;have G:i<L.length:=by simpa using E
 simp[oQ,G]
theorem Qli (c:ZG):(O7 c).map (ZM c)=c.rq.map (λx=>((1:Int),x.nm))++(c.ex.map (λx=>((2:Int),x.nm))++c.cs.map λx=>((3:Int),x.nm)):=by
 unfold O7;rw[Lp,Lp];rw[zg (f:=λj=>(c.rq.getD j ⟨.empty,Uf⟩).nm) (λj co=>rfl),zg (f:=λj=>(c.ex.getD j ⟨.empty,[]⟩).nm) (λj co=>rfl),zg (f:=λj=>(c.cs.getD j ⟨.empty,[],0⟩).nm) (λj co=>rfl)];have e1:(srR c).length=c.rq.length:=Lh _;have e2:(srX c).length=c.ex.length:=Lh _;have E:(srC c).length=c.cs.length:=Lh _;rw[e1,e2,E,zG c.rq (·.nm),zG c.ex (·.nm),zG c.cs (·.nm)]
theorem U7 {k:Int}{f:α->ByteArray}{l:List α}(h:(l.map f).Nodup):(l.map λx=>(k,f x)).Nodup:=by
 have e:(l.map λx=>(k,f x))=(l.map f).map λn=>(k,n):=by rw[Mh];rfl
 rw[e];exact(MW.2 (h.imp λE e=>E (OT Prod.snd e)))
theorem QbS (h:Zm c=0):((O7 c).map (ZM c)).Nodup:=by
 unfold Zm at h;split at h
 ·rename_i E;exact OU h E
 split at h
 ·cases h
 split at h
 ·cases h
 split at h
 ·rename_i E;exact OU h E
 split at h
 ·rename_i E;exact OU h E
 rename_i H;have H:=Qcm (Lo.1 H);unfold Yy at h;split at h
 ·cases h
 split at h
 ·cases h
 split at h
 ·cases h
 split at h
 ·rename_i E;exact OU h E
 rename_i hx;have hx:=jO (Lo.1 hx);have J:=jP h;rw[Qli];refine My.2 ⟨U7 H.1,My.2 ⟨U7 hx.1,U7 J.1,λa I b G e=>?_⟩,λa I b G e=>?_⟩
 ·obtain⟨_,_,rfl⟩:=LD.1 I;obtain⟨_,_,rfl⟩:=LD.1 G;exact OU (OT Prod.fst e) (show(2:Int)≠3 by decide)
 obtain⟨_,_,rfl⟩:=LD.1 I;rcases Lc.1 G with G|G
 ·obtain⟨_,_,rfl⟩:=LD.1 G;exact OU (OT Prod.fst e) (show(1:Int)≠2 by decide)
 obtain⟨_,_,rfl⟩:=LD.1 G;exact OU (OT Prod.fst e) (show(1:Int)≠3 by decide)
theorem QoH (c:ZG)(bf:List xH)(v:Int)(m:UU):(Kj c bf v m).2.1.ky=ZM c m:=by
 unfold Kj;split
 ·rfl
 split
 ·rename_i p E;split
  ·have:=List.find?_some E;simpa using this
  rfl
 rfl
structure Ub {α:Type}(g:α->LV)(sz T:Nat)(E:LN->Array Obj->α->Prop)(L:LN)(base:Nat)(w:OZ)(v:O0)(l:List α):Prop where
 own:w.ownsRow base T sz v l.length (l.flatMap g)
 each:∀q∈l,E (ob v++L) w.heap q
section
variable {g:α->LV}{E:LN->Array Obj->α->Prop}{bs:Nat}{v:O0}{l:List α}
theorem Ub.nil:Ub g sz T E L bs w (nS) []:=⟨QJ _ _ _ _,λq G=>by cases G⟩
theorem Ub.J [Mm E]{X:LN}(h:Ub g sz T E L bs w v l)(H:O3 X w w')(I:∀b∈X,(b∈L\/w.heap.size<=b)/\b∉ob v):Ub g sz T E L bs w' v l :=
 ⟨Qf h.own H (λb G J=>(I b J).2 G),λq O=>Mm.J (h.each q O) H λb G=>(I b G).1.imp (λh=>Lc.2 (.inr h)) id⟩
theorem Ub.I [Mm E](h:Ub g sz T E L bs w v l)(G:O3 [] w w'):Ub g sz T E L bs w' v l:=h.J G (λ_ H=>by cases H)
theorem Ub.app [Mm E]{H:O0}{I:OZ}{q:α}(h:Ub g sz T E L bs w v l)(J:E (ob v++L) w.heap q)
  (O:I.ownsRow bs T sz H (l.length+1) (l.flatMap g++g q)) (S:O3 (ob v) w I) (V:∀b∈ob H,b∈ob v\/w.heap.size<=b):Ub g sz T E L bs I H (l++[q]):=by
 have mv:∀d:α,E (ob v++L) w.heap d->E (ob H++L) I.heap d:=λd hd=>by
  have Y:E (ob v++(ob H++L)) w.heap d:=Mm.up hd λb G=>by
   rcases Lc.1 G with G|G
   ·exact .inl (Lc.2 (.inl G))
   rcases Lc.1 G with G|G
   ·exact(V b G).imp (λh3=>Lc.2 (.inl h3)) id
   exact .inl (Lc.2 (.inr G))
  exact Mm.mono (Mm.st Y (S.mono λb G=>Lc.2 (.inl G))) λb G=>Lc.2 (.inr G)
 refine⟨?_,λd hd=>?_⟩
 ·rw[Lj,LA];simpa using O
 rcases Lc.1 hd with hd|hd
 ·exact mv d (h.each d hd)
 simp only[oI]at hd;subst hd;exact mv d J
end
structure EnV where
 ky:Ky
 vr:Int
 p:AV
 vk:O0
 kp:LI
 vd:O0
 ds:LI
 vm:O0
 rm:List Q4
abbrev ZR (q:EnV):LV:=[oF oG q.ky.1,.string q.ky.2,oF oG q.vr,q.p.va,oF oG q.p.a.st,q.p.vm,q.p.ve,q.vk,q.vd,q.vm]
theorem Qjb (q:EnV):(ZR q).length=10:=rfl
structure qW (L:LN)(H:xx)(q:EnV):Prop where
 a:ZK L H q.p.va q.p.vm q.p.ve q.p.a
 k:QQ L H q.vk q.kp
 d:QQ L H q.vd q.ds
 r:Zv L H q.vm q.rm.length 4 (q.rm.flatMap q4C)
theorem qW.st {L:LN}{w w':OZ}{q:EnV}(h:qW L w.heap q)(G:O3 L w w'):qW L w'.heap q:=⟨h.a.st G,h.k.st G,h.d.st G,h.r.st G⟩
theorem qW.I {q:EnV}(h:qW L w.heap q)(G:O3 [] w w'):qW L w'.heap q:=h.st G.any
theorem qW.up {L L':LN}{H:xx}{q:EnV}(h:qW L H q)(G:∀b∈L',b∈L\/H.size<=b):qW L' H q:=⟨h.a.up G,h.k.up G,h.d.up G,h.r.up G⟩
instance:Mm qW:=⟨qW.st,qW.up⟩
theorem qW.ones {q:EnV}(h:qW L H q):Zj (ZR q):=⟨U,U,U,h.a.al.one,U,h.a.mr.one,h.a.ed.one,h.k.one,h.d.one,h.r.one,Z⟩
structure Ent where
 ky:Ky
 vr:Int
 sp:Zd
 kp:LI
 ds:LI
 rm:List Q4
def EnV.en (q:EnV):Ent:=⟨q.ky,q.vr,q.p.a,q.kp,q.ds,q.rm⟩
def xH.en (p:xH):Ent:=⟨p.ky,p.vr,p.sp,p.kp,p.ds,p.rm⟩
structure VA where
 e:EnV
 c:CL
abbrev Zn (q:VA):LV:=[oF oG q.e.ky.1,.string q.e.ky.2,oF oG q.e.vr,q.e.p.va,oF oG q.e.p.a.st,q.e.p.vm,q.e.p.ve,q.e.vk,q.e.vd,q.e.vm,q.c.ve,q.c.vc,q.c.vr,q.c.vx,q.c.vk]
theorem Kr (q:VA):(Zn q).length=15:=rfl
def VA.pt (q:VA):xH:=⟨q.e.ky,q.e.vr,q.e.p.a,q.e.kp,q.e.ds,q.e.rm,q.c.V⟩
structure Vz (L:LN)(H:xx)(q:VA):Prop where
 e:qW L H q.e
 c:ZF L H q.c
theorem Vz.st {L:LN}{w w':OZ}{q:VA}(h:Vz L w.heap q)(G:O3 L w w'):Vz L w'.heap q:=⟨h.e.st G,h.c.st G⟩
theorem Vz.I {q:VA}(h:Vz L w.heap q)(G:O3 [] w w'):Vz L w'.heap q:=h.st G.any
theorem Vz.up {L L':LN}{H:xx}{q:VA}(h:Vz L H q)(G:∀b∈L',b∈L\/H.size<=b):Vz L' H q:=⟨h.e.up G,h.c.up G⟩
instance:Mm Vz:=⟨Vz.st,Vz.up⟩
theorem Vz.ones {q:VA}(h:Vz L H q):Zj (Zn q):=⟨U,U,U,h.e.a.al.one,U,h.e.a.mr.one,h.e.a.ed.one,h.e.k.one,h.e.d.one,h.e.r.one,h.c.ev.arr.one,h.c.co.arr.one,h.c.rq.arr.one,h.c.ex.arr.one,h.c.cs.arr.one,Z⟩
structure UQ where
 v1:O0
 k1:List Ky
 v2:O0
 k2:List Ky
 v3:O0
 k3:List Ky
def UQ.rp (q:UQ):Rp:=⟨q.k1,q.k2,q.k3⟩
abbrev Zr (q:UQ):LV:=[q.v1,q.v2,q.v3]
theorem Qaj (q:UQ):(Zr q).length=3:=rfl
abbrev Kys (L:LN)(H:xx)(v:O0)(l:List Ky):Prop:=Zv L H v l.length 2 (l.flatMap Xa)
structure KO (L:LN)(H:xx)(q:UQ):Prop where
 a1:Kys L H q.v1 q.k1
 a2:Kys L H q.v2 q.k2
 a3:Kys L H q.v3 q.k3
theorem KO.st {L:LN}{w w':OZ}{q:UQ}(h:KO L w.heap q)(G:O3 L w w'):KO L w'.heap q:=⟨h.a1.st G,h.a2.st G,h.a3.st G⟩
theorem KO.I {q:UQ}(h:KO L w.heap q)(G:O3 [] w w'):KO L w'.heap q:=h.st G.any
theorem KO.up {L L':LN}{H:xx}{q:UQ}(h:KO L H q)(G:∀b∈L',b∈L\/H.size<=b):KO L' H q:=⟨h.a1.up G,h.a2.up G,h.a3.up G⟩
instance:Mm KO:=⟨KO.st,KO.up⟩
theorem KO.ones {q:UQ}(h:KO L H q):Zj (Zr q):=⟨h.a1.one,h.a2.one,h.a3.one,Z⟩
instance:Mm ZF:=⟨ZF.st,ZF.up⟩
theorem QaA (l:List Ky):∀u∈l.flatMap Xa,u.oneCell'=true:=by
 intro u H;obtain⟨p,_,G⟩:=Mi.1 H;simp only[Xa,oK,oJ,or_false]at G;rcases G with rfl|rfl <;> rfl
structure j4 (L:LN)(H:xx)(q:IV):Prop where
 a:ZK L H q.p.va q.p.vm q.p.ve q.p.a
 nm:J6 q.nm
theorem j4.st {L:LN}{w w':OZ}{q:IV}(h:j4 L w.heap q)(E:O3 L w w'):j4 L w'.heap q:=⟨h.a.st E,h.nm⟩
theorem j4.up {L L':LN}{H:xx}{q:IV}(h:j4 L H q)(E:∀b∈L',b∈L\/H.size<=b):j4 L' H q:=⟨h.a.up E,h.nm⟩
instance:Mm j4:=⟨j4.st,j4.up⟩
theorem j4.ones {q:IV}(h:j4 L H q):Zj (QO q):=⟨U,h.a.al.one,U,h.a.mr.one,h.a.ed.one,Z⟩
structure XvA (L:LN)(H:xx)(q:XV):Prop where
 l:yT L H q.v q.ls
 nm:J6 q.nm
theorem XvA.st {L:LN}{w w':OZ}{q:XV}(h:XvA L w.heap q)(E:O3 L w w'):XvA L w'.heap q:=⟨h.l.st E,h.nm⟩
theorem XvA.up {L L':LN}{H:xx}{q:XV}(h:XvA L H q)(E:∀b∈L',b∈L\/H.size<=b):XvA L' H q:=⟨h.l.up E,h.nm⟩
instance:Mm XvA:=⟨XvA.st,XvA.up⟩
structure KvA (L:LN)(H:xx)(q:KV):Prop where
 l:yT L H q.v q.ts
 nm:J6 q.nm
theorem KvA.st {L:LN}{w w':OZ}{q:KV}(h:KvA L w.heap q)(E:O3 L w w'):KvA L w'.heap q:=⟨h.l.st E,h.nm⟩
theorem KvA.up {L L':LN}{H:xx}{q:KV}(h:KvA L H q)(E:∀b∈L',b∈L\/H.size<=b):KvA L' H q:=⟨h.l.up E,h.nm⟩
instance:Mm KvA:=⟨KvA.st,KvA.up⟩
abbrev IvR (base:Nat)(w:OZ)(v:O0)(l:List IV):Prop:=Z2 QO 5 64 j4 base w v l
theorem IvR.itms {base:Nat}{v:O0}{l:List IV}(h:IvR base w v l)(G:l.length<=1099511627776)(H:∀b∈L,b<base):XD L w.heap v l :=
 let z:=Z2.lst h G H;⟨z.arr,λq E=>(z.each q E).a,λq E=>(z.each q E).nm⟩
theorem Qk3 (l:List Q4):∀u∈l.flatMap q4C,u.oneCell'=true:=by
 intro u G;obtain⟨p,_,E⟩:=Mi.1 G;simp only[q4C,oK,oJ,or_false]at E;rcases E with rfl|rfl|rfl|rfl <;> rfl
theorem QdF (h0:ZK L w.heap va vm ve a):
  Q5 prog 59 [.agg #[va,oF oG a.st,vm,ve]] w λr w'=>O3 [] w w'/\Jo w.heap.size w'.heap r a:=by
 have h:=h0.up (L':=[]) oe;have hr:=h.al.le;have hs:=h.mr.le;have ht:=h.ed.le;refine Zs func59 ntmps59 results59 ?_;refine Qe<|Qa<|QS (us:=[va,oF oG a.st,vm,ve]) U λb1 w1 hu hz hj=>Qa<|Qo (us:=qa) U λb2 G hk h1 hn=>xe ?_;have ho:=hu.D hk;have V:=h.I ho;have I:=hj.I hk;have h3:=hj.lt;have hv:=hn.lt;have hd:O3 [] G { G with drawn:=G.drawn+1 }:=O3.C _ _
 refine Qd<|QR (O3 [] G) [oD 0,oD 1,oD 3,oD 4,oD 5,oD 6,oD 8,oD 9,oE 2,oE 7,oE 10,oD 11,oE 12] mixed ol od (O3.C _ _) ?_;refine p (QP U)<|pq (λ_ H=>Qq (I.I H) U U)<|p (QP U)<|pq (λ_ H=>Qq (I.I H) U U) <|
  p (QP rfl)<|pq (λ_ H=>Qq (I.I H) U U)<|p (QP U)<|pq (λ_ H=>Qq (I.I H) U U) <|
  pk<|xf<|(ZU (V.al.I hd)).mono ?_
 rintro ra w5 ⟨hw,Y⟩;have J:O3 [] G w5:=hd.D hw;refine⟨J,?_⟩;refine pk<|xf<|(ZU (V.mr.I J)).mono ?_;rintro rm w6 ⟨hp,hf⟩;have O:=J.D hp;refine⟨O,?_⟩;refine pk<|xf<|(KC (V.ed.I O)).mono ?_;rintro re S ⟨hg,T⟩;have hh:=O.D hg;refine⟨hh,?_⟩;refine p (λ_=>Qz ⟨xJ Y,U,xJ hf,xJ T,Z⟩)<|pkl (hl:=by kernel_rfl)<|Qj (us:=[ra,oF oG a.st,rm,re]) (hn.I hh) U U U U ⟨Qt Y,U,Qt hf,Qt T,Z⟩ λw8 hq hy=>pe ?_;refine Ql ⟨[.agg #[ra,oF oG a.st,rm,re]],⟨⟨_,U,Qn U (hy.at (L:=[]) oe).cells⟩,Z⟩,(ho.D hh).O hq oa,ra,rm,re,rfl,λL hL=>?_⟩;have e1:({ G with drawn:=G.drawn+1 }:OZ).heap.size=G.heap.size:=rfl
 have h4:=J.size;have h5:=O.size;have hi:∀b∈b2::L,b<G.heap.size:=λb E=>by
  rcases Li.1 E with rfl|E
  ·exact hv
  have:=hL b E;omega
 have ha:QQ (b2::L) S.heap ra a.al:=((Qu.ints Y hr (λb E=>ou (hi b E))).I hp).I hg;have hm:QQ (b2::L) S.heap rm a.mr:=(Qu.ints hf hs (λb E=>ou (hi b E))).I hg;have he:qX (b2::L) S.heap re a.ed:=QH T ht (λb E hbL=>ov (Qi T b E).1 (hi b hbL));have hA:ZK (b2::L) S.heap ra rm re a:=⟨ha,hm,he⟩;exact(hA.st (hq.mono oe)).up (λb E=>.inl (Lk _ E))
abbrev z10:LV:=[oF oG 0,.string .empty,oF oG 0,nS,oF oG 0,nS,nS,nS,nS,nS]
theorem Qou {q:EnV}(h0:qW L w.heap q):
  Q5 prog 68 [.agg (ZR q).toArray] w λr w'=>O3 [] w w'/\∃q':EnV,r=.agg (ZR q').toArray/\q'.en=q.en/\∀L:LN,(∀b∈L,b<w.heap.size)->qW L w'.heap q':=by
 have h:=h0.up (L':=[]) oe;have h7:=h.k.le;have h8:=h.d.le;have h9:=h.r.le;refine Zs func68 ntmps68 results68 ?_;refine Qe<|Qa<|QS (us:=ZR q) U λb1 w1 hA hs hi=>Qa<|Qo (us:=z10) U λb2 w2 hj hT ht=>xe ?_;have hB:=hA.D hj;have hU:=hi.lt;have hV:=ht.lt;refine Qe<|Q0 U<|x (Zl (us:=[q.vk,q.vd,q.vm]) (hi.I hj) U U U)<|Qa<|Qo (us:=[nS,nS,nS]) U λb3 w3 hC hD hF=>Qa<|Qj (us:=[q.vk,q.vd,q.vm]) hF U U U U ⟨h.k.one,h.d.one,h.r.one,Z⟩ λw4 hG hH=>xe ?_;have T:O3 [] w2 w4:=hC.O hG hD;have hu:=hB.D T;have h4:=h.I hu;have hW:=T.size;have hv:=(hi.I hj).I T;have hI:=ht.I T;refine Qe<|Q0 U<|x (Zl (us:=[q.p.va,oF oG q.p.a.st,q.p.vm,q.p.ve]) hv U U U)<|Qa<|xf<|(QdF h4.a).mono ?_;rintro _ w5 ⟨hm,xa,xm,H,rfl,hw⟩;have hX:=hm.size;have I:=(hw [] oe);refine Q0 rfl<|Qa<|YM (us:=[xa,oF oG q.p.a.st,xm,H]) (cs':=[oF oG q.ky.1,.string q.ky.2,oF oG q.vr,xa,oF oG q.p.a.st,xm,H,q.vk,q.vd,q.vm]) (hv.I hm) U U U oe ⟨I.al.one,rfl,I.mr.one,I.ed.one,Z⟩ rfl λG hn hJ=>xe ?_;have ho:O3 [b1] w4 G:=hm.any.Q hn;have hy:O3 [] w G:=hu.O ho hs;have h6:=h.I hy;have hY:=hn.size;have hK:b3∉[b1]:=om
 have hz:b2∉[b1]:=om
 have hp:=hH.J ho hK;have hM:=hI.J ho hz;have hd:O3 [] G { G with drawn:=G.drawn+1 }:=O3.C _ _
 refine Qd<|QR (O3 [] G) [oD 0,oD 1,oD 3,oD 4,oD 6,oD 7,oE 2,oE 5,oE 8,oD 9,oD 10,oE 11] mixed ol od (O3.C _ _) ?_;refine p (QP U)<|pq (λ_ J=>Qq (hp.I J) U U)<|p (QP U)<|pq (λ_ J=>Qq (hp.I J) U U) <|
  p (QP rfl)<|pq (λ_ J=>Qq (hp.I J) U U)<|pk<|xf<|(ZU (h6.k.I hd)).mono ?_
 rintro rk w7 ⟨hN,V⟩;have Y:O3 [] G w7:=hd.D hN;refine⟨Y,?_⟩;refine pk<|xf<|(ZU (h6.d.I Y)).mono ?_;rintro rd w8 ⟨h1,he⟩;have hf:=Y.D h1;refine⟨hf,?_⟩;refine pk<|xf<|(Qjw (h6.r.I hf) (Qk3 q.rm)).mono ?_;rintro rr O ⟨hq,S⟩;have hg:=hf.D hq;refine⟨hg,?_⟩;refine p (λ_=>Qz ⟨xJ V,xJ he,xJ S,Z⟩)<|p (QP U)<|pkl (hl:=by kernel_rfl)<|YM (us:=[rk,rd,rr]) (cs':=[oF oG q.ky.1,.string q.ky.2,oF oG q.vr,xa,oF oG q.p.a.st,xm,H,rk,rd,rr]) (hJ.I hg) U U U oe ⟨Qt V,Qt he,Qt S,Z⟩ rfl λhO h2 hP=>pe ?_;have h3:O3 [b1] G hO:=hg.any.Q h2;have hQ:Zj (ZR ⟨q.ky,q.vr,⟨xa,xm,H,q.p.a⟩,rk,q.kp,rd,q.ds,rr,q.rm⟩):=⟨U,U,U,I.al.one,U,I.mr.one,I.ed.one,Qt V,Qt he,Qt S,Z⟩;refine Qe<|Q2 hP U U<|Qa<|Qj (us:=ZR ⟨q.ky,q.vr,⟨xa,xm,H,q.p.a⟩,rk,q.kp,rd,q.ds,rr,q.rm⟩) (hM.J h3 hz) U U U U hQ λhZ h5 hR=>xe ?_;refine Ql ⟨[.agg (ZR ⟨q.ky,q.vr,⟨xa,xm,H,q.p.a⟩,rk,q.kp,rd,q.ds,rr,q.rm⟩).toArray],⟨⟨_,U,Qn U (hR.at (L:=[]) oe).cells⟩,Z⟩,(hy.O h3 hs).O h5 oa,_,rfl,rfl,λL hL=>?_⟩;have e6:({ G with drawn:=G.drawn+1 }:OZ).heap.size=G.heap.size:=rfl
 have ga:=Y.size;have gb:=hf.size;have hh:∀b∈b1::b2::L,b<w4.heap.size:=λb E=>by
  simp only[oK]at E;rcases E with rfl|rfl|E
  ·omega
  ·omega
  have:=hL b E;omega
 have ha:ZK (b1::b2::L) O.heap xa xm H q.p.a:=((hw (b1::b2::L) hh).st (hn.mono oe)).I hg;have hk:QQ (b1::b2::L) O.heap rk q.kp:=((Qu.ints V h7 (λb E=>ou (hh b E))).I h1).I hq;have hS:QQ (b1::b2::L) O.heap rd q.ds:=(Qu.ints he h8 (λb E=>ou (hh b E))).I hq;have hr:Zv (b1::b2::L) O.heap rr q.rm.length 4 (q.rm.flatMap q4C):=QH S h9 (λb E hbL=>ov (Qi S b E).1 (hh b hbL));have hE:qW (b1::b2::L) O.heap ⟨q.ky,q.vr,⟨xa,xm,H,q.p.a⟩,rk,q.kp,rd,q.ds,rr,q.rm⟩:=⟨ha,hk,hS,hr⟩;exact((hE.st (h2.mono oe)).st (h5.mono oe)).up (λb E=>.inl (by simp[E]))
theorem Qjn {q:UQ}(h0:KO L w.heap q):
  Q5 prog 69 [.agg (Zr q).toArray] w λr w'=>O3 [] w w'/\∃q':UQ,r=.agg (Zr q').toArray/\q'.rp=q.rp/\∀L:LN,(∀b∈L,b<w.heap.size)->KO L w'.heap q':=by
 have h:=h0.up (L':=[]) oe;have hr:=h.a1.le;have hs:=h.a2.le;have ht:=h.a3.le;refine Zs func69 ntmps69 results69 ?_;refine Qe<|Qa<|QS (us:=Zr q) U λb1 w1 hj hz hu=>Qa<|Qo (us:=[nS,nS,nS]) U λb2 G hk h1 hn=>xe ?_;have ho:=hj.D hk;have Y:=h.I ho;have hf:=hu.I hk;have h3:=hj.size;have hv:=hn.lt;have hd:O3 [] G { G with drawn:=G.drawn+1 }:=O3.C _ _
 refine Qd<|QR (O3 [] G) [oD 0,oD 1,oD 3,oD 4,oD 6,oD 7,oE 2,oE 5,oE 8,oD 9,oE 10] mixed ol od (O3.C _ _) ?_;refine p (QP U)<|pq (λ_ H=>Qq (hf.I H) U U)<|p (QP U)<|pq (λ_ H=>Qq (hf.I H) U U) <|
  p (QP rfl)<|pq (λ_ H=>Qq (hf.I H) U U)<|pk<|xf<|(ym (Y.a1.I hd) (QaA q.k1)).mono ?_
 rintro ra w5 ⟨hw,I⟩;have J:O3 [] G w5:=hd.D hw;refine⟨J,?_⟩;refine pk<|xf<|(ym (Y.a2.I J) (QaA q.k2)).mono ?_;rintro rm w6 ⟨hp,O⟩;have S:=J.D hp;refine⟨S,?_⟩;refine pk<|xf<|(ym (Y.a3.I S) (QaA q.k3)).mono ?_;rintro re T ⟨hg,V⟩;have hh:=S.D hg;refine⟨hh,?_⟩;refine p (λ_=>Qz ⟨xJ I,xJ O,xJ V,Z⟩)<|pkl (hl:=by kernel_rfl)<|Qj (us:=[ra,rm,re]) (hn.I hh) U U U U ⟨Qt I,Qt O,Qt V,Z⟩ λw8 hq hy=>pe ?_;refine Ql ⟨[.agg (Zr ⟨ra,q.k1,rm,q.k2,re,q.k3⟩).toArray],⟨⟨_,U,Qn U (hy.at (L:=[]) oe).cells⟩,Z⟩,(ho.D hh).O hq oa,_,rfl,rfl,λL hL=>?_⟩;have e1:({ G with drawn:=G.drawn+1 }:OZ).heap.size=G.heap.size:=rfl
 have h4:=J.size;have h5:=S.size;have hi:∀b∈b2::L,b<G.heap.size:=λb E=>by
  rcases Li.1 E with rfl|E
  ·exact hv
  have:=hL b E;omega
 have ha:Kys (b2::L) T.heap ra q.k1:=((QH I hr (λb E hbL=>ov (Qi I b E).1 (hi b hbL)):Kys (b2::L) w5.heap ra q.k1).I hp).I hg;have hm:Kys (b2::L) T.heap rm q.k2:=(QH O hs (λb E hbL=>ov (Qi O b E).1 (hi b hbL)):Kys (b2::L) w6.heap rm q.k2).I hg;have he:Kys (b2::L) T.heap re q.k3:=QH V ht (λb E hbL=>ov (Qi V b E).1 (hi b hbL));have hA:KO (b2::L) T.heap ⟨ra,q.k1,rm,q.k2,re,q.k3⟩:=⟨ha,hm,he⟩;exact(hA.st (hq.mono oe)).up (λb E=>.inl (Lk _ E))
theorem Qis {c:CL}{q:MV}(h0:ZF L w.heap c)(hq:0<=q.ix)(hk:q.kd=1\/q.kd=2\/q.kd=3)(hr:q.kd=1->q.ix<(c.rq.length:Int))(hx:q.kd=2->q.ix<(c.ex.length:Int))(hs:q.kd=3->q.ix<(c.cs.length:Int)):
  Q5 prog 63 [c.val,.agg #[oF oG q.kd,oF oG q.ix,q.v]] w λr w'=>r=.agg #[oF oG (ZM c.V q.m).1,.string (ZM c.V q.m).2]/\O3 [] w w':=by
 have h:=h0.up (L':=[]) oe;have hb:((q.ix.toNat:Nat):Int)=q.ix:=Int.toNat_of_nonneg hq;refine Zs func63 ntmps63 results63 ?_;refine Qe<|Qa<|QS (us:=c.cells) U λb2 w1 hl h4 ht=>Qa<|QS (us:=[oF oG q.kd,oF oG q.ix,q.v]) U λb3 w2 hc h6 hm=>Qa<|Qo (us:=[oF oG 0,.string .empty]) U λb4 w3 T h7 hn=>xe ?_;have hu:=(hl.D hc).D T;refine Qe<|Qs U (hm.I T) U U<|x (Qz ⟨U,Z⟩)<|Qa<|Qo (us:=[oF oG 0,.string .empty]) U λb5 w4 hv hw hy=>Qa<|Qj (us:=[oF oG q.kd,.string .empty]) hy U U U U oA λw5 hz he=>xe ?_;have V:O3 [] w3 w5:=hv.O hz hw;have ho:=hu.D V;have hf:=((ht.I hc).I T).I V;have Y:=(hm.I T).I V;have hg:=hn.I V;have h8:=hn.lt;have hh:b4∉[b5]:=om
 have h9:=hl.size;have hA:=hc.size;have h5:=h.I ho;have fin:∀(nm:ByteArray) (I w8:OZ),(ZM c.V q.m)=(q.kd,nm)->O3 [b5] w5 I->Q7 I.heap b5 114 [oF oG q.kd,.string nm]->O3 [b4] I w8->(Value.agg #[oF oG q.kd,.string nm]=.agg #[oF oG (ZM c.V q.m).1,.string (ZM c.V q.m).2]/\O3 [] w w8):=λnm I w8 e h1 _ h2 =>
  ⟨by rw[e],(ho.O h1 oa).O h2 oa⟩
 refine Qd<|Qe<|Qs U Y U U<|xe<|Qg<|Qe<|x (Q9 U U)<|Qc<|QZ U (λhi=>?_) (λhi=>?_)
 ·have hk1:q.kd=1:=hi;have E:q.ix.toNat<c.rq.length:=by have:=hr hk1;omega
  refine Qw<|Qs U hf U U<|Qs U Y U U<|O6 (g:=QO) (i:=q.ix.toNat) Yj h5.rq.arr U (show Go.Lg.ev _ _=_ from OT (Value.int .i64) hb.symm) E λhp J =>
   x (Zg rfl)<|x (QD (J.fld 0 (.string (c.rq[q.ix.toNat]'E).nm) U) U)<|Q0 U<|Qa<|QA (j:=1) (u:=.string (c.rq[q.ix.toNat]'E).nm) he U U oe rfl λw6 G H=>xe ?_
  refine Qe<|Q2 H U U<|Qa<|Qj (us:=[oF oG q.kd,.string (c.rq[q.ix.toNat]'E).nm]) (hg.J G hh) U U U U oA λI O S=>xe ?_;refine Ql ⟨[.agg #[oF oG q.kd,.string (c.rq[q.ix.toNat]'E).nm]],⟨⟨_,U,Qn U (S.at (L:=[]) oe).cells⟩,Z⟩,fin _ _ _ ?_ G H O⟩;unfold ZM;rw[OS (show q.m.kd=1 from hk1)];refine Prod.ext U ?_;show((c.rq.map IV.it).getD q.ix.toNat ⟨.empty,Uf⟩).nm=_;simp[oQ,E,IV.it]
 have hk1:¬q.kd=1:=hi;refine Qe<|x (Q9 U U)<|Qc<|QZ U (λhj=>?_) (λhj=>?_)
 ·have ha:q.kd=2:=hj;have E:q.ix.toNat<c.ex.length:=by have:=hx ha;omega
  refine Qw<|Qs U hf U U<|Qs U Y U U<|O6 (g:=Q6) (i:=q.ix.toNat) Xi h5.ex.arr U (show Go.Lg.ev _ _=_ from OT (Value.int .i64) hb.symm) E λhp J =>
   x (Zg rfl)<|x (QD (J.fld 0 (.string (c.ex[q.ix.toNat]'E).nm) U) U)<|Q0 U<|Qa<|QA (j:=1) (u:=.string (c.ex[q.ix.toNat]'E).nm) he U U oe rfl λw6 G H=>xe ?_
  refine Qe<|Q2 H U U<|Qa<|Qj (us:=[oF oG q.kd,.string (c.ex[q.ix.toNat]'E).nm]) (hg.J G hh) U U U U oA λI O S=>xe ?_;refine Ql ⟨[.agg #[oF oG q.kd,.string (c.ex[q.ix.toNat]'E).nm]],⟨⟨_,U,Qn U (S.at (L:=[]) oe).cells⟩,Z⟩,fin _ _ _ ?_ G H O⟩;unfold ZM;rw[OR (show ¬q.m.kd=1 from hk1),OS (show q.m.kd=2 from ha)];refine Prod.ext U ?_;show((c.ex.map XV.x).getD q.ix.toNat ⟨.empty,[]⟩).nm=_;simp[oQ,E,XV.x]
 have ha:¬q.kd=2:=hj;have h3:q.kd=3:=oa
 have E:q.ix.toNat<c.cs.length:=by have:=hs h3;omega
 refine Qw<|Qs U hf U U<|Qs U Y U U<|O6 (g:=Zc) (i:=q.ix.toNat) Xb h5.cs.arr U (show Go.Lg.ev _ _=_ from OT (Value.int .i64) hb.symm) E λhp J =>
  x (Zg rfl)<|x (QD (J.fld 0 (.string (c.cs[q.ix.toNat]'E).nm) U) U)<|Q0 U<|Qa<|QA (j:=1) (u:=.string (c.cs[q.ix.toNat]'E).nm) he U U oe rfl λw6 G H=>xe ?_
 refine Qe<|Q2 H U U<|Qa<|Qj (us:=[oF oG q.kd,.string (c.cs[q.ix.toNat]'E).nm]) (hg.J G hh) U U U U oA λI O S=>xe ?_;refine Ql ⟨[.agg #[oF oG q.kd,.string (c.cs[q.ix.toNat]'E).nm]],⟨⟨_,U,Qn U (S.at (L:=[]) oe).cells⟩,Z⟩,fin _ _ _ ?_ G H O⟩;unfold ZM;rw[OR (show ¬q.m.kd=1 from hk1),OR (show ¬q.m.kd=2 from ha)];refine Prod.ext U ?_;show((c.cs.map KV.k).getD q.ix.toNat ⟨.empty,[],0⟩).nm=_;simp[oQ,E,KV.k]
theorem Qfs {v:O0}{a:Addr}(h:Zv L H v n sz cs)(e:v=.slice (some a) n cap):At L H a cs:=by
 rcases h.2.2 with⟨E,_⟩|⟨a',cap',E,_,G⟩
 ·rw[E]at e;cases e
 rw[E]at e;simp only[Value.slice.injEq,Option.some.injEq]at e;rw[<-e.1];exact G
section
variable {Q:Exit->Fr->OZ->Prop}
end
section
variable {pS:String}
theorem QfR {e bys:Nat}[h:Sl P t e sz bys z]{x E G H:O1}{k:IntKind}{m:Nat}(hx:ev f x=.slice (some ⟨b,0,none⟩) n cap)(hl:ev f E=.int k lo)(I:ev f G=.int k hi)(J:ev f H=.int k m)(Y:lo<=hi)(h2:hi<=m)(h3:m<=cap):
  (execOp (ev f) ⟨d,.slice t x (some E) (some G) (some H),ty,pS,af,gd⟩).run P w=.ok (.value (.slice (if m=lo then some ⟨b,0,none⟩else some ((⟨b,0,none⟩:Addr).add (lo*sz))) (hi - lo) (m - lo))) w:=by
 obtain⟨i,O,_,S,_⟩:=Sl.info h;have e1:(Instr.sliceBound (.int k m) cap .slice3Acap).run P w=.ok m w:=ZL h3;have e2:(Instr.sliceBound (.int k hi) m .slice3B).run P w=.ok hi w:=ZL h2;have T:(Instr.sliceBound (.int k lo) hi .slice3C).run P w=.ok lo w:=ZL Y;by_cases V:m=lo
 ·subst V;simp[execOp,hx,hl,I,J,Instr.sliceAt,Instr.slice,run_underlying h.u,Instr.sliceBounds,e1,e2,T,sizeOf,typeInfo,O,S]
 simp[execOp,hx,hl,I,J,Instr.sliceAt,Instr.slice,run_underlying h.u,Instr.sliceBounds,e1,e2,T,sizeOf,typeInfo,O,S,V]
theorem QfQ {e bys:Nat}[h:Sl P t e sz bys z]{x E G:O1}{k:IntKind}(hx:ev f x=.slice (some ⟨b,0,none⟩) n cap)(hl:ev f E=.int k lo)(H:ev f G=.int k hi)(I:lo<=hi)(J:hi<=cap)(V:lo<cap):
  (execOp (ev f) ⟨d,.slice t x (some E) (some G) none,ty,pS,af,gd⟩).run P w=.ok (.value (.slice (some ⟨b,lo*sz,none⟩) (hi - lo) (cap - lo))) w:=by
 obtain⟨i,O,_,S,_⟩:=Sl.info h;have e1:(Instr.sliceBound (.int k hi) cap .sliceAcap).run P w=.ok hi w:=ZL J;have e2:(Instr.sliceBound (.int k lo) hi .sliceB).run P w=.ok lo w:=ZL I;have T:¬cap=lo:=oa
 simp[execOp,hx,hl,H,Instr.sliceAt,Instr.slice,run_underlying h.u,Instr.sliceBounds,e1,e2,sizeOf,typeInfo,O,S,T,Addr.add];exact λe=>e.symm
theorem Qny {e bys:Nat}[h:Sl P t e sz bys z]{s:O1}{cur:LV}(H:Q7 w.heap g e cur)(J:ev f s=.slice (some ⟨g,0,none⟩) n cap)(O:cur.length=cap*sz)
  {a:Addr} {m c:Nat}  (S:ev f y=.slice (some a) m c) (hl:news.length=m*sz)  (T:At L w.heap a news) (V:∀u∈news,u.oneCell'=true) (I:n+m<=cap)
  (hK:∀w',O3 [g] w w'->Q7 w'.heap g e (cur.take (n*sz)++news++cur.drop (n*sz+news.length))->K (QY f d (.slice (some ⟨g,0,none⟩) (n+m) cap)) w'):
  XO P ⟨d,.call ⟨.builtin .append,#[s,y],#[t,t]⟩,ty,pS,af,gd⟩ f w K:=by
 obtain⟨i,hi,hz,E,hb⟩:=Sl.info h;have Y:n*i.size+news.length<=cur.toArray.size:=by
  rw[LP,O,hl,E,<-Ms];exact LY _ I
 have G:=run_append_room (P:=P) w t ty e i h.u hi g n cap cur.toArray H a m c news (by rw[E];exact hl) T.cells V I Y;rw[E]at G;have ha:(execOp (ev f) ⟨d,.call ⟨.builtin .append,#[s,y],#[t,t]⟩,ty,pS,af,gd⟩).run P w=.ok (.value (.slice (some ⟨g,0,none⟩) (n+m) cap)) (w.setRow g (cur.take (n*sz)++news++cur.drop (n*sz+news.length)).toArray):=by
  simp[execOp,resolve,invoke,builtin,J,S]at G ⊢;simp[G]
 exact xv ha (hK _ (O3.setRow _ _ _) (XM H))
end
theorem QmL {pS:String}[h1:XK P t]{x:O1}{base k:Nat}{u:O0}
  (h:w.ownsRow base T sz (.slice (some ⟨g,0,none⟩) n cap) n cs) (hx:ev f x=.pointer (some ⟨g,k,none⟩)) (G:ev f y=u) (V:k<n*sz) (H:u.oneCell'=true)
  (hK:∀w',O3 [g] w w'->w'.ownsRow base T sz (.slice (some ⟨g,0,none⟩) n cap) n (cs.set k u)->K (QY f d undef) w'):XO P ⟨d,.store t x y,ty,pS,af,gd⟩ f w K:=by
 obtain⟨I,cur,J,hl,E⟩:=Kt h;have Y:n*sz<=cap*sz:=LY _ I;refine QA (j:=k) J hx G oa H λw' O S=>hK w' O ?_;refine Up h (Lx _) S (by rw[Mk];exact hl) ?_ (by rw[Mk,<-E,Ly];omega);rw[List.take_set,E]
def Fre {α:Type}(E:LN->Array Obj->α->Prop)(M:Nat)(H:xx)(q:α):Prop:=∀L:LN,(∀b∈L,b<M)->E L H q
theorem Fre.low {E:LN->Array Obj->α->Prop}[Mm E]{q:α}(h:Fre E M w.heap q)(H:O3 X w w')(I:∀b∈X,b<M):Fre E M w'.heap q:=λL J =>
 Mm.mono (Mm.st (L:=X++L) (h _ λb G=>(Lc.1 G).elim (I b) (J b)) (H.mono λ_ G=>Lc.2 (.inl G))) λ_ G=>Lc.2 (.inr G)
theorem Fre.I {E:LN->Array Obj->α->Prop}[Mm E]{q:α}(h:Fre E M w.heap q)(G:O3 [] w w'):Fre E M w'.heap q:=h.low G λ_ H=>by cases H
theorem Qg3 {q:XV}(h:q.v.oneCell'=true):∀u∈Q6 q,u.oneCell'=true:=by
 intro u E;simp only[Q6,oK,oJ,or_false]at E;rcases E with rfl|rfl
 ·rfl
 exact h
theorem Qiq {q:KV}(h:q.v.oneCell'=true):∀u∈Zc q,u.oneCell'=true:=by
 intro u E;simp only[Zc,oK,oJ,or_false]at E;rcases E with rfl|rfl|rfl
 ·rfl
 ·exact h
 rfl
theorem yc {α:Type}{g:α->LV}{sz:Nat}(G:∀x,(g x).length=sz):∀(l:List α) (i j:Nat) (u:O0) (E:α) (h:i<l.length),j<sz->g E=(g (l[i]'h)).set j u->(l.flatMap g).set (i*sz+j) u=(l.set i E).flatMap g
 | [],i,_,_,_,h,_,_=>by simp at h
 | a::l,0,j,u,E,h,H,e=>by
  have I:g E=(g a).set j u:=e;rw[OM,LX,List.set_cons_zero,LM,LM,List.set_append_left _ _ (by rw[G a];exact H),I]
 | a::l,i+1,j,u,E,h,H,e=>by
  have J:(i+1)*sz+j=(g a).length+(i*sz+j):=by rw[G a,Nat.succ_mul];omega
  rw[J,NK,LM,LM,List.set_append_right _ _ oa,MF,yc G l i j u E (oz h) H e]
theorem zQ {f:α->β}{l:List α}(hi:i<l.length){q:α}(h:f q=f (l[i]'hi)):(l.set i q).map f=l.map f:=by
 rw[ON,h];have:f (l[i]'hi)=(l.map f)[i]'(by rw[Lh];exact hi):=by rw[Mu]
 rw[this,List.set_getElem_self]
structure CpI (N:Nat)(w':OZ)(c:CL)(b3:Nat)(re rx rk:O0):Prop where
 b:N<=b3
 B:Q7 w'.heap b3 44 [re,nS,nS,rx,rk]
 e:w'.ownsRow N 146 5 re c.ev.length (c.ev.flatMap Zu)
 x:w'.ownsRow N 71 2 rx c.ex.length (c.ex.flatMap Q6)
 k:w'.ownsRow N 76 3 rk c.cs.length (c.cs.flatMap Zc)
 d1:∀b∈ob re,b≠b3/\b∉ob rx/\b∉ob rk
 d2:∀b∈ob rx,b≠b3/\b∉ob rk
 d3:∀b∈ob rk,b≠b3
theorem Qov {c:CL}(h0:ZF L w.heap c)(hn1:c.co.length<=1000)(hn2:c.rq.length<=1000):
  Q5 prog 23 [c.val] w λr w'=>O3 [] w w'/\Qd5 w.heap.size w'.heap r c.V:=by
 have h:=h0.up (L':=[]) oe;have pa:=h.ex.arr.le;have pc:=h.cs.arr.le;have pd:=h.ev.arr.le;refine Zs func23 ntmps23 results23 ?_;refine Qe<|Qa<|QS (us:=c.cells) U λb1 w1 pf hb1 k0=>Qa<|Qo (us:=ZY) U λb2 w2 k4 hb2 k5=>xe ?_;have k6:=pf.D k4;have hl1:=k0.lt;have pg:=k5.lt;have h2:=h.I k6;have gg:=k0.I k4;have ph:O3 [] w2 { w2 with drawn:=w2.drawn+1 }:=O3.C _ _
 have pj:∀u∈c.ex.flatMap Q6,u.oneCell'=true:=λu hu=>by
  obtain⟨q,S,hu⟩:=Mi.1 hu;exact Qg3 (h.ex.each q S).one u hu
 have pm:∀u∈c.cs.flatMap Zc,u.oneCell'=true:=λu hu=>by
  obtain⟨q,S,hu⟩:=Mi.1 hu;exact Qiq (h.cs.each q S).one u hu
 refine Q3 (α:=Nat×O0×O0×O0) [(10,19),(3,3)] (λz=>[(3,.pointer (some ⟨z.1,0,none⟩))]) (λz w'=>O3 [] w2 w'/\CpI w2.heap.size w' c z.1 z.2.1 z.2.2.1 z.2.2.2) ol ?_ ?_
 ·refine XS (α:=O0×O0×O0) (O3 [] w2) [oD 0,oD 1,oD 3,oD 4,oD 6,oD 7] [oE 2,oE 5,oE 8,oD 9] 10 3 [oE 11] []
   [(10,19)] [(12,12),(15,15),(18,19)] (λz=>[(19,.agg #[z.1,nS,nS,z.2.1,z.2.2])])
   (λz own w'=>(w'.ownsRow w2.heap.size 146 5 z.1 c.ev.length (c.ev.flatMap Zu)/\w'.ownsRow w2.heap.size 71 2 z.2.1 c.ex.length (c.ex.flatMap Q6)/\w'.ownsRow w2.heap.size 76 3 z.2.2 c.cs.length (c.cs.flatMap Zc)) /\
    (∀b∈ob z.1,b∈own/\b∉ob z.2.1/\b∉ob z.2.2)/\(∀b∈ob z.2.1,b∈own/\b∉ob z.2.2)/\∀b∈ob z.2.2,b∈own)
   (λv w'=>∃b,v=.pointer (some ⟨b,0,none⟩)/\w2.heap.size<=b/\Q7 w'.heap b 44 ZY) mixed ol od ol U ph oe ?_ ?_ ?_ ?_
  ·rintro v own wa wb ⟨b,rfl,E,hB⟩ hs hn;exact⟨b,U,E,hB.J hs (hn b ot)⟩
  ·rintro z own wa wb ⟨⟨h1,h2,h3⟩,h4⟩ hs;exact⟨⟨Qp h1 hs,Qp h2 hs,Qp h3 hs⟩,h4⟩
  ·rintro⟨re,rx,rk⟩ g own wz v ⟨⟨i1,i2,i3⟩,i4,i5,i6⟩ pn ⟨O,rfl,k7,po⟩ pp;simp only[]at i1 i2 i3 i4 i5 i6;have gh:=(pp O ot).1;refine pkl (hl:=by kernel_rfl)<|Qj (us:=[re,nS,nS,rx,rk]) po U U U U ⟨Qt i1,U,U,Qt i2,Qt i3,Z⟩ λw8 h9 pu=>pe ?_;have nn:∀b,b∈own->b∉[O]:=λb E H=>gh (by rw[<-Lb.1 H];exact E);refine⟨(O,re,rx,rk),La,pn.O h9 k7,k7,pu,Qf i1 h9 (λb E=>nn b (i4 b E).1),Qf i2 h9 (λb E=>nn b (i5 b E).1),Qf i3 h9 (λb E=>nn b (i6 b E)),λb E=>⟨λe=>gh (by rw[show O=b from e.symm];exact(i4 b E).1),(i4 b E).2⟩,λb E=>⟨λe=>gh (by rw[show O=b from e.symm];exact(i5 b E).1),(i5 b E).2⟩,λb E e=>gh (by rw[show O=b from e.symm];exact i6 b E)⟩
  refine p (QP U)<|pq (λ_ I=>Qq (gg.I I) U U)<|p (QP U)<|pq (λ_ I=>Qq (gg.I I) U U) <|
   p (QP rfl)<|pq (λ_ I=>Qq (gg.I I) U U)<|pe ⟨λg wf k8=>Qo (us:=ZY) U λb wf' k9 ma mf=>⟨k9,k8.D k9,⟨b,U,LJ k8.size ma,mf⟩,λx hx=>?_⟩,?_⟩
  ·have pw:x=b:=by
    have pz:x∈[b]:=hx;simpa using pz
   subst pw;exact⟨ma,mf.lt⟩
  refine f2k λx1 p1 c1=>xf<|(V3 (h2.ev.I c1).arr).mono ?_;rintro re y1 ⟨mg,gr⟩;refine⟨c1.D mg,US x1.heap.size y1.heap.size,mg.any,λb E=>.inr (ZE.1 E),?_⟩;refine f2k λx2 p2 c2=>xf<|(Qjx (h2.ex.I c2).arr pj).mono ?_;rintro rx y2 ⟨gi,gs⟩;refine⟨c2.D gi,US x1.heap.size y1.heap.size++US x2.heap.size y2.heap.size,gi.any,λb E=>(Lc.1 E).imp id λE=>ZE.1 E,?_⟩;refine f2k λx3 p3 c3=>xf<|(QjA (h2.cs.I c3).arr pm).mono ?_;rintro rk y3 ⟨gj,gt⟩;refine⟨c3.D gj,(US x1.heap.size y1.heap.size++US x2.heap.size y2.heap.size)++US x3.heap.size y3.heap.size,gj.any,λb E=>(Lc.1 E).imp id λE=>ZE.1 E,?_⟩;refine f2p (λ_=>Qz ⟨xJ gr,xJ gs,xJ gt,Z⟩)<|f2e ?_;have e1:=c1.size;have e2:=c2.size;have e3:=c3.size;have e12:=p2.size;have e23:=p3.size;have g1:=Qi gr;have g2:=Qi gs;have g3:=Qi gt;have f2:=gi.size;refine⟨(re,rx,rk),La,⟨Zy (Qp (Qp (Qp (Qp gr p2) gi) p3) gj) e1,Zy (Qp (Qp gs p3) gj) e2,Zy gt e3⟩,λb E=>⟨?_,λH=>?_,λH=>?_⟩,λb E=>⟨?_,λH=>?_⟩,λb E=>?_⟩
  ·exact Lc.2 (.inl (Lc.2 (.inl (ZE.2 (g1 b E)))))
  ·have:=g1 b E;have:=g2 b H;omega
  ·have:=g1 b E;have:=g3 b H;omega
  ·exact Lc.2 (.inl (Lc.2 (.inr (ZE.2 (g2 b E)))))
  ·have:=g2 b E;have:=g3 b H;omega
  exact Lc.2 (.inr (ZE.2 (g3 b E)))
 rintro⟨O,re,rx,rk⟩ g w3 ⟨gk,T⟩;simp only[]at T;have gu:=k6.D gk;have h3:=h.I gu;have mh:=gg.I gk;have hz3:=gk.size;have mj:=T.B.lt;have gv:=Qi T.x;have gw:=Qi T.k;have p0:b1≠O:=by have:=T.b;omega
 have mo:b2≠O:=by have:=T.b;omega
 have mq:∀b∈O::(ob rx++ob rk),w.heap.size<=b/\b<w3.heap.size:=λb E=>by
  rcases Li.1 E with rfl|E
  ·exact⟨ou T.b,mj⟩
  rcases Lc.1 E with E|E
  ·have:=gv b E;omega
  have:=gw b E;omega
 have ms:ZF (O::(ob rx++ob rk)) w3.heap c:=(h0.up (λb E=>.inr (mq b E).1)).I gu;have gy:∀b∈ob rx,b<w3.heap.size:=λb E=>(gv b E).2;have gl:∀b∈ob rk,b<w3.heap.size:=λb E=>(gw b E).2;have m3x:O∉ob rx:=λE=>(T.d2 O E).1 U;have m3k:O∉ob rk:=λE=>T.d3 O E U;refine Qd<|Qe<|Qs U mh U U<|QL h3.co.arr U<|Qb<|xe<|Qg<|QC (α:=Nat×O0×List IV) [(5,5),(23,38)] (λz=>[(23,oF oG z.1)]) (λz w'=>z.1<=c.co.length/\O3 [O] w3 w'/\Q7 w'.heap O 44 [re,z.2.1,nS,rx,rk]/\IvR w3.heap.size w' z.2.1 z.2.2/\z.2.2.map IV.it=(c.co.take z.1).map IV.it) (λz=>c.co.length - z.1) ol (0,nS,[]) La ⟨Ln _,O3.Z _ _,T.B,Z2.nil,U⟩ ?_;rintro⟨i,voA,lA⟩ g w4 ⟨mt,hg,gz,gm,hG⟩;simp only[]at mt gz gm hG;refine Qe<|QX U U<|xe<|Qd<|QG U (λgn=>?_) (λgn=>?_)
 rotate_left
 ·have J:i<c.co.length:=by have hN:(i:Int)<(c.co.length:Int):=gn;omega
  have hO:c.co.take (i+1)=c.co.take i++[c.co[i]'J]:=Ll J;have p4:lA.length=i:=by have:=OT oP hG;rw[Lh,Lh,Ly]at this;omega
  have Y:=Lm J;have h4:=ms.st (hg.mono oe);have g0:=hg.size;refine Qh<|Qd<|Qg<|Qe<|O6 (g:=QO) (i:=i) Yj h4.co.arr U U J λp5 hP=>?_;refine Zk (c.co[i]'J) λq S=>?_;rw[S]at hP hO Y;have hr:=h4.co.each q Y;have hQ:=h4.co.nm q Y;refine x (Qv hP U U)<|Qa<|Qo (us:=[.string .empty,nS,oF oG 0,nS,nS]) U λb5 p6 g4 g5 g6=>Qa<|Qj (us:=QO q) g6 U U U U ⟨U,hr.al.one,U,hr.mr.one,hr.ed.one,Z⟩ λV g7 hR=>xe ?_;have hh:O3 [] w4 V:=g4.O g7 g5;have p7:=hh.size;have hS:=gm.I hh;have hT:=gz.I hh;have hge:=Qi hS.own;have hU:=Qi gm.own;have n3v:O∉ob voA:=λE=>ou (hge O E)
  have n5v:b5∉ob voA:=λE=>ou (hU b5 E)
  have hV:O3 [] V { V with drawn:=V.drawn+1 }:=O3.C _ _
  refine QR (O3 (ob voA) V) [oD 0,oD 1,oD 2,oD 3,oD 4,oD 5,oE 6,oD 7,oE 8,oE 9,oD 10,oE 11] mixed ol od (O3.C _ _) ?_;refine p (QP U)<|pq (λ_ I=>Qq (hT.J I n3v) U U)<|p (QP U)<|pq (λ_ I=>Qq (hR.J I n5v) U U) <|
   p (QP rfl)<|pq (λ_ I=>Zl (us:=[q.p.va,oF oG q.p.a.st,q.p.vm,q.p.ve]) (hR.J I n5v) U U U)<|pk<|xf<|(QdF ((hr.I hh).I hV)).mono ?_
  rintro _ p8 ⟨g8,xa,xm,ha,rfl,hA⟩;have ht:=hV.D g8;have p9:=ht.size;have g9:=hA [] oe;refine⟨ht.any,?_⟩;refine p (λ_=>Zt [(0,[.string q.nm]),(1,[xa,oF oG q.p.a.st,xm,ha])] ⟨U,U,U,U,Z⟩)<|pk<|QB (us:=[QO ⟨q.nm,⟨xa,xm,ha,q.p.a⟩⟩]) U U og (show 1*5<=1000000 by omega) oA λqc ka hv qf kb=>⟨(ht.D hv).any,?_⟩;have hi:=ht.D hv;have hW:=hS.I hi;have kc:j4 [] ka.heap ⟨q.nm,⟨xa,xm,ha,q.p.a⟩⟩:=⟨g9.I hv,hQ⟩;refine pk<|Za (m:=1) (news:=QO ⟨q.nm,⟨xa,xm,ha,q.p.a⟩⟩) (L:=[]) hW.own U U U (kb.at oe) (Zj.all kc.ones) oa (ou hi.size) λv16 ke hX hw kf=>⟨(hi.any (L:=ob voA)).Q hw,?_⟩;have ql:({ V with drawn:=V.drawn+1 }:OZ).heap.size=V.heap.size:=rfl
  have kg:IvR w3.heap.size ke v16 (lA++[⟨q.nm,⟨xa,xm,ha,q.p.a⟩⟩]):=hW.app (λL hL=>⟨(hA L (λb E=>by
   rcases hL b E with h|h
   ·omega
   have:=hge b h;omega)).I hv,hQ⟩) hX hw kf
  refine p (QP U)<|pkl (hl:=by kernel_rfl)<|QA (j:=1) (u:=v16) ((hT.I hi).J hw n3v) U U oe (Qt hX) λqo hY kh=>pe ?_;refine Qw<|QN U U<|Qb<|xe<|⟨(i+1,v16,lA++[⟨q.nm,⟨xa,xm,ha,q.p.a⟩⟩]),oh,La,J,?_,kh,kg.low hY (λb E=>by rw[Lb.1 E];omega),?_⟩
  ·exact((hg.D (hh.D hi)).then hw (λb E=>.inr (ou (hU b E)))).Q hY
  simp only[];rw[hO,Lp,Lp,hG];rfl
 refine Qx ?_;have mu:c.co.length<=i:=by have hN:¬(i:Int)<(c.co.length:Int):=gn;omega
 rw[Ls mu]at hG;clear mt mu gn;have ki:=ms.st (hg.mono oe);have qr:=hg.size;have q0:=mh.J hg (oz p0);have q1:=Qf T.x hg (λb E H=>m3x (Lb.1 H ▸ E));have q2:=Qf T.k hg (λb E H=>m3k (Lb.1 H ▸ E));have q3:=Qf T.e hg (λb E H=>(T.d1 b E).1 (Lb.1 H));have q4:=(k5.I gk).J hg (oz mo);refine Qd<|Qe<|Qs U q0 U U<|QL ki.rq.arr U<|Qb<|xe<|Qg<|QC (α:=Nat×O0×List IV) [(7,7),(42,57)] (λz=>[(42,oF oG z.1)]) (λz w'=>z.1<=c.rq.length/\O3 [O] w4 w'/\Q7 w'.heap O 44 [re,voA,z.2.1,rx,rk]/\IvR w4.heap.size w' z.2.1 z.2.2/\z.2.2.map IV.it=(c.rq.take z.1).map IV.it) (λz=>c.rq.length - z.1) ol (0,nS,[]) La ⟨Ln _,O3.Z _ _,gz,Z2.nil,U⟩ ?_;rintro⟨i,voB,lB⟩ g w5 ⟨mv,hk,hZ,hH,hJ⟩;simp only[]at mv hZ hH hJ;refine Qe<|QX U U<|xe<|Qd<|QG U (λgo=>?_) (λgo=>?_)
 rotate_left
 ·have J:i<c.rq.length:=by have hN:(i:Int)<(c.rq.length:Int):=go;omega
  have hO:c.rq.take (i+1)=c.rq.take i++[c.rq[i]'J]:=Ll J;have p4:lB.length=i:=by have:=OT oP hJ;rw[Lh,Lh,Ly]at this;omega
  have Y:=Lm J;have h4:=ki.st (hk.mono oe);have g0:=hk.size;refine Qh<|Qd<|Qg<|Qe<|O6 (g:=QO) (i:=i) Yj h4.rq.arr U U J λp5 hP=>?_;refine Zk (c.rq[i]'J) λq S=>?_;rw[S]at hP hO Y;have hr:=h4.rq.each q Y;have hQ:=h4.rq.nm q Y;refine x (Qv hP U U)<|Qa<|Qo (us:=[.string .empty,nS,oF oG 0,nS,nS]) U λb5 p6 g4 g5 g6=>Qa<|Qj (us:=QO q) g6 U U U U ⟨U,hr.al.one,U,hr.mr.one,hr.ed.one,Z⟩ λV g7 hR=>xe ?_;have hh:O3 [] w5 V:=g4.O g7 g5;have p7:=hh.size;have hS:=hH.I hh;have hT:=hZ.I hh;have hge:=Qi hS.own;have hU:=Qi hH.own;have n3v:O∉ob voB:=λE=>ou (hge O E)
  have n5v:b5∉ob voB:=λE=>ou (hU b5 E)
  have hV:O3 [] V { V with drawn:=V.drawn+1 }:=O3.C _ _
  refine QR (O3 (ob voB) V) [oD 0,oD 1,oD 2,oD 3,oD 4,oD 5,oE 6,oD 7,oE 8,oE 9,oD 10,oE 11] mixed ol od (O3.C _ _) ?_;refine p (QP U)<|pq (λ_ I=>Qq (hT.J I n3v) U U)<|p (QP U)<|pq (λ_ I=>Qq (hR.J I n5v) U U) <|
   p (QP rfl)<|pq (λ_ I=>Zl (us:=[q.p.va,oF oG q.p.a.st,q.p.vm,q.p.ve]) (hR.J I n5v) U U U)<|pk<|xf<|(QdF ((hr.I hh).I hV)).mono ?_
  rintro _ p8 ⟨g8,xa,xm,ha,rfl,hA⟩;have ht:=hV.D g8;have p9:=ht.size;have g9:=hA [] oe;refine⟨ht.any,?_⟩;refine p (λ_=>Zt [(0,[.string q.nm]),(1,[xa,oF oG q.p.a.st,xm,ha])] ⟨U,U,U,U,Z⟩)<|pk<|QB (us:=[QO ⟨q.nm,⟨xa,xm,ha,q.p.a⟩⟩]) U U og (show 1*5<=1000000 by omega) oA λqc ka hv qf kb=>⟨(ht.D hv).any,?_⟩;have hi:=ht.D hv;have hW:=hS.I hi;have kc:j4 [] ka.heap ⟨q.nm,⟨xa,xm,ha,q.p.a⟩⟩:=⟨g9.I hv,hQ⟩;refine pk<|Za (m:=1) (news:=QO ⟨q.nm,⟨xa,xm,ha,q.p.a⟩⟩) (L:=[]) hW.own U U U (kb.at oe) (Zj.all kc.ones) oa (ou hi.size) λv16 ke hX hw kf=>⟨(hi.any (L:=ob voB)).Q hw,?_⟩;have ql:({ V with drawn:=V.drawn+1 }:OZ).heap.size=V.heap.size:=rfl
  have kg:IvR w4.heap.size ke v16 (lB++[⟨q.nm,⟨xa,xm,ha,q.p.a⟩⟩]):=hW.app (λL hL=>⟨(hA L (λb E=>by
   rcases hL b E with h|h
   ·omega
   have:=hge b h;omega)).I hv,hQ⟩) hX hw kf
  refine p (QP U)<|pkl (hl:=by kernel_rfl)<|QA (j:=2) (u:=v16) ((hT.I hi).J hw n3v) U U oe (Qt hX) λqo hY kh=>pe ?_;refine Qw<|QN U U<|Qb<|xe<|⟨(i+1,v16,lB++[⟨q.nm,⟨xa,xm,ha,q.p.a⟩⟩]),oh,La,J,?_,kh,kg.low hY (λb E=>by rw[Lb.1 E];omega),?_⟩
  ·exact((hk.D (hh.D hi)).then hw (λb E=>.inr (ou (hU b E)))).Q hY
  simp only[];rw[hO,Lp,Lp,hJ];rfl
 refine Qx ?_;have mw:c.rq.length<=i:=by have hN:¬(i:Int)<(c.rq.length:Int):=go;omega
 rw[Ls mw]at hJ;clear mv mw go;have my:=ki.st (hk.mono oe);have hzB:=hk.size;have hH:=Z2.base hH qr;have q5:=gm.low hk (λb E=>by rw[Lb.1 E];exact mj);have mz:=Qf q1 hk (λb E H=>m3x (Lb.1 H ▸ E));have j1:=Qf q2 hk (λb E H=>m3k (Lb.1 H ▸ E));have j2:=Qf q3 hk (λb E H=>(T.d1 b E).1 (Lb.1 H));have j3:=q4.J hk (oz mo);refine Qd<|Qe<|Qs U hZ U U<|QL (QH (L:=[]) mz (by exact pa) oe) rfl<|Qb<|xe<|Qg<|QC (α:=Nat×List XV) [(8,8),(61,76)] (λz=>[(61,oF oG z.1)]) (λz w'=>(z.1<=c.ex.length/\z.2.length=c.ex.length)/\O3 (ob rx) w5 w'/\w'.ownsRow w2.heap.size 71 2 rx z.2.length (z.2.flatMap Q6)/\z.2.map XV.x=c.ex.map XV.x/\(∀j (G:j<z.2.length),j<z.1->Fre XvA w3.heap.size w'.heap (z.2[j]'G))/\∀j (G:j<z.2.length) (hp:j<c.ex.length),z.1<=j->z.2[j]'G=c.ex[j]'hp)
  (λz=>c.ex.length - z.1) ol (0,c.ex) La ⟨⟨Ln _,U⟩,O3.Z _ _,mz,U,λj G ho=>OU ho (Nf j),λj G hp _=>U⟩ ?_
 rintro⟨i,lx⟩ g w6 ⟨⟨za,m2⟩,he,hK,kj,kk,kn⟩;simp only[]at za m2 hK kj kk kn;refine Qe<|QX U U<|xe<|Qd<|QG U (λm3=>?_) (λm3=>?_)
 rotate_left
 ·have hy:i<c.ex.length:=by have hN:(i:Int)<(c.ex.length:Int):=m3;omega
  have J:i<lx.length:=oa
  have hge:=Qi hK;have g0:=he.size;obtain⟨gx,capx,eg⟩:=Js hK oa;have ko:ob rx=[gx]:=by rw[eg];rfl
  have ga:=hK;rw[eg]at ga;have gb:=hZ.J he m3x;have hz:=kn i J hy (Lx _);have Y:=Lm hy;have hD:=((my.st (he.mono (λb E=>Lk _ (Lc.2 (.inl E))))).ex.each _ Y).up (L':=[]) oe;have zb:=QH (L:=[]) hK oa oe;refine Qh<|Qd<|Qg<|Qm<|Qc<|Zk (c.ex[i]'hy) λq S=>?_;rw[S]at hz Y hD;have hd:O3 [] w6 { w6 with drawn:=w6.drawn+1 }:=O3.C _ _
  refine QR (O3 [] w6) [oD 0,oD 1,oD 2,oD 3,oD 4,oD 5,oD 6,oD 7,oD 8,oE 9,oD 10,oD 11,oE 12] mixed ol od (O3.C _ _) ?_;refine p (QP U)<|pq (λ_ I=>Qq (gb.I I) U U)<|p Qy<|p (QP U)<|pq (λ_ I=>Qq (gb.I I) U U) <|
   p Qy<|Go.Lg.pig (g:=Q6) (i:=i) U Xi zb U U J λzv kq=>p (λ_=>Zg U)<|pq (λ_ I=>QD ((kq.fld 1 q.v (by rw[hz];rfl)).I I) U) <|
   pk<|xf<|(jM (hD.I hd)).mono ?_
  rintro rv w9 ⟨kr,hE⟩;have h6:O3 [] w6 w9:=hd.D kr;refine⟨h6,?_⟩;refine p (λ_=>ZB (i:=i) eg U J)<|p (QP U)<|pkl (hl:=by kernel_rfl)<|QmL (k:=0+i*2+1) (u:=rv) (Qp ga h6) U U (by have:(i+1)*2<=lx.length*2:=LY _ J;omega) (Qt hE) λz0 h7 hF =>
   pe ?_
  rw[<-ko]at h7;rw[<-eg]at hF;have kt:=yc (g:=Q6) Xi lx i 1 rv ⟨q.nm,rv,q.ls⟩ J og (by rw[hz];rfl);rw[show 0+i*2+1=i*2+1 by omega,kt]at hF;refine Qw<|QN U U<|Qb<|xe ?_;have gc:=gy;refine⟨(i+1,lx.set i ⟨q.nm,rv,q.ls⟩),oh,La,⟨hy,by simp only[Ou];exact m2⟩,(he.D h6).Q h7,by simp only[Ou];exact hF,?_,λj G ho=>?_,λj G hp ho=>?_⟩
  ·simp only[];rw[zQ J (by rw[hz];rfl),kj]
  ·simp only[Ou]at G;simp only[]at ho ⊢;rw[M6];split
   ·refine Fre.low (w:=w9) ?_ h7 gc;intro L hL;exact⟨QH hE (ou hD.le) (λb E hbL=>by have h1:=(Qi hE b E).1;have h2:=hL b hbL;have h3:w3.heap.size<=w6.heap.size:=oa;have h4:({ w6 with drawn:=w6.drawn+1 }:OZ).heap.size=w6.heap.size:=rfl;omega),h.ex.nm q Y⟩
   rename_i z1;exact((kk j G oa).I h6).low h7 gc
  simp only[Ou]at G;simp only[]at ho ⊢;rw[List.getElem_set_ne oa];exact kn j G hp oa
 refine Qx ?_;have z2:=my.st (he.mono (λb E=>Lk _ (Lc.2 (.inl E))));have hzC:=he.size;have z3:=q5.low he gy;have z4:=hH.low he gy;have m4:=Qf j1 he (λb E H=>(T.d2 b H).2 E);have z5:=Qf j2 he (λb E H=>(T.d1 b E).2.1 H);have ku:=hZ.J he m3x;have m2x:b2∉ob rx:=λE=>ou (gv b2 E)
 have m2k:b2∉ob rk:=λE=>ou (gw b2 E)
 have hB26:=j3.J he m2x;refine Qd<|Qe<|Qs U ku U U<|QL (QH (L:=[]) m4 (by exact pc) oe) rfl<|Qb<|xe<|Qg<|QC (α:=Nat×List KV) [(9,9),(80,95)] (λz=>[(80,oF oG z.1)]) (λz w'=>(z.1<=c.cs.length/\z.2.length=c.cs.length)/\O3 (ob rk) w6 w'/\w'.ownsRow w2.heap.size 76 3 rk z.2.length (z.2.flatMap Zc)/\z.2.map KV.k=c.cs.map KV.k/\(∀j (G:j<z.2.length),j<z.1->Fre KvA w3.heap.size w'.heap (z.2[j]'G))/\∀j (G:j<z.2.length) (hp:j<c.cs.length),z.1<=j->z.2[j]'G=c.cs[j]'hp)
  (λz=>c.cs.length - z.1) ol (0,c.cs) La ⟨⟨Ln _,U⟩,O3.Z _ _,m4,U,λj G ho=>OU ho (Nf j),λj G hp _=>U⟩ ?_
 rintro⟨i,lk⟩ g w7 ⟨⟨hiD,m5⟩,hf,h8,kv,gp,kw⟩;simp only[]at hiD m5 h8 kv gp kw;refine Qe<|QX U U<|xe<|Qd<|QG U (λm6=>?_) (λm6=>?_)
 rotate_left
 ·have hy:i<c.cs.length:=by have hN:(i:Int)<(c.cs.length:Int):=m6;omega
  have J:i<lk.length:=oa
  have hge:=Qi h8;have g0:=hf.size;obtain⟨gx,capx,eg⟩:=Js h8 oa;have ko:ob rk=[gx]:=by rw[eg];rfl
  have ga:=h8;rw[eg]at ga;have gb:=ku.J hf m3k;have hz:=kw i J hy (Lx _);have Y:=Lm hy;have hD:=((z2.st (hf.mono (λb E=>Lk _ (Lc.2 (.inr E))))).cs.each _ Y).up (L':=[]) oe;have hAD:=QH (L:=[]) h8 oa oe;refine Qh<|Qd<|Qg<|Qm<|Qc<|Zk (c.cs[i]'hy) λq S=>?_;rw[S]at hz Y hD;have hd:O3 [] w7 { w7 with drawn:=w7.drawn+1 }:=O3.C _ _
  refine QR (O3 [] w7) [oD 0,oD 1,oD 2,oD 3,oD 4,oD 5,oD 6,oD 7,oD 8,oE 9,oD 10,oD 11,oE 12] mixed ol od (O3.C _ _) ?_;refine p (QP U)<|pq (λ_ I=>Qq (gb.I I) U U)<|p Qy<|p (QP U)<|pq (λ_ I=>Qq (gb.I I) U U) <|
   p Qy<|Go.Lg.pig (g:=Zc) (i:=i) U Xb hAD U U J λzv kq=>p (λ_=>Zg U)<|pq (λ_ I=>QD ((kq.fld 1 q.v (by rw[hz];rfl)).I I) U) <|
   pk<|xf<|(jL (hD.I hd)).mono ?_
  rintro rv w9 ⟨kr,hE⟩;have h6:O3 [] w7 w9:=hd.D kr;refine⟨h6,?_⟩;refine p (λ_=>ZB (i:=i) eg U J)<|p (QP U)<|pkl (hl:=by kernel_rfl)<|QmL (k:=0+i*3+1) (u:=rv) (Qp ga h6) U U (by have:(i+1)*3<=lk.length*3:=LY _ J;omega) (Qt hE) λz0 h7 hF =>
   pe ?_
  rw[<-ko]at h7;rw[<-eg]at hF;have kt:=yc (g:=Zc) Xb lk i 1 rv ⟨q.nm,rv,q.ts,q.bd⟩ J og (by rw[hz];rfl);rw[show 0+i*3+1=i*3+1 by omega,kt]at hF;refine Qw<|QN U U<|Qb<|xe ?_;have gc:=gl;refine⟨(i+1,lk.set i ⟨q.nm,rv,q.ts,q.bd⟩),oh,La,⟨hy,by simp only[Ou];exact m5⟩,(hf.D h6).Q h7,by simp only[Ou];exact hF,?_,λj G ho=>?_,λj G hp ho=>?_⟩
  ·simp only[];rw[zQ J (by rw[hz];rfl),kv]
  ·simp only[Ou]at G;simp only[]at ho ⊢;rw[M6];split
   ·refine Fre.low (w:=w9) ?_ h7 gc;intro L hL;exact⟨QH hE (ou hD.le) (λb E hbL=>by have h1:=(Qi hE b E).1;have h2:=hL b hbL;have h3:w3.heap.size<=w7.heap.size:=oa;have h4:({ w7 with drawn:=w7.drawn+1 }:OZ).heap.size=w7.heap.size:=rfl;omega),h.cs.nm q Y⟩
   rename_i z1;exact((gp j G oa).I h6).low h7 gc
  simp only[Ou]at G;simp only[]at ho ⊢;rw[List.getElem_set_ne oa];exact kw j G hp oa
 refine Qx ?_;have m7:=z3.low hf gl;have m8:=z4.low hf gl;have kx:=Qf hK hf (λb E H=>(T.d2 b E).2 H);have kz:=Qf z5 hf (λb E H=>(T.d1 b E).2.2 H);have hB37:=ku.J hf m3k;have hB27:=hB26.J hf m2k;have m9:∀j (G:j<lx.length),j<c.ex.length->Fre XvA w3.heap.size w7.heap (lx[j]'G):=λj G hp=>(kk j G oa).low hf gl;have hone:Zj [re,voA,voB,rx,rk]:=⟨Qt kz,Qt m7.own,Qt m8.own,Qt kx,Qt h8,Z⟩;refine Qe<|Q2 hB37 U U<|Qa<|Qj (us:=[re,voA,voB,rx,rk]) hB27 U U U U hone λw8 h9 hB28=>xe ?_;have hs37:O3 (O::(ob rx++ob rk)) w3 w7:=(((hg.mono oe).Q (hk.mono oe)).Q (he.mono (λb E=>Lk _ (Lc.2 (.inl E))))).Q (hf.mono (λb E=>Lk _ (Lc.2 (.inr E))));have hs07:O3 [] w w7:=gu.then hs37 (λb E=>.inr (mq b E).1);refine Ql ⟨[.agg #[re,voA,voB,rx,rk]],⟨⟨_,U,Qn U (hB28.at (L:=[]) oe).cells⟩,Z⟩,hs07.O h9 oa,CL.mk re voA voB rx rk c.ev lA lB lx lk,rfl,?_,λL hL=>?_⟩
 ·unfold CL.V;simp only[];rw[hG,hJ,kj,kv]
 have gq:∀b∈b2::L,b<w2.heap.size:=λb E=>by
  rcases Li.1 E with rfl|E
  ·exact pg
  have:=hL b E;omega
 have hM:∀b∈b2::L,b<w3.heap.size:=λb E=>ou (gq b E)
 have lA1:lA.length=c.co.length:=by have:=OT oP hG;rwa [Lh,Lh]at this
 have lB1:lB.length=c.rq.length:=by have:=OT oP hJ;rwa [Lh,Lh]at this
 have hC:ZF (b2::L) w7.heap (CL.mk re voA voB rx rk c.ev lA lB lx lk):=by
  refine⟨⟨QH kz pd (λb E H=>ov (Qi kz b E).1 (gq b H)),h.ev.nm⟩,IvR.itms m7 (show lA.length<=1099511627776 by omega) hM,IvR.itms m8 (show lB.length<=1099511627776 by omega) hM,⟨QH kx (show lx.length<=1099511627776 by omega) (λb E H=>ov (Qi kx b E).1 (gq b H)),λq S=>?_,λq S=>?_⟩,⟨QH h8 (show lk.length<=1099511627776 by omega) (λb E H=>ov (Qi h8 b E).1 (gq b H)),λq S=>?_,λq S=>?_⟩⟩
  ·obtain⟨j,G,rfl⟩:=LO S;exact(m9 j G (by have h5:j<lx.length:=G;omega) _ hM).l
  ·obtain⟨j,G,rfl⟩:=LO S;exact(m9 j G (by have h5:j<lx.length:=G;omega) _ hM).nm
  ·obtain⟨j,G,rfl⟩:=LO S;exact(gp j G (by have h5:j<lk.length:=G;omega) _ hM).l
  obtain⟨j,G,rfl⟩:=LO S;exact(gp j G (by have h5:j<lk.length:=G;omega) _ hM).nm
 exact(hC.st (h9.mono oe)).up (λb E=>.inl (Lk _ E))
section
variable {κ:Type}[DecidableEq κ](ky:α->κ)(vl:α->O0)
def zS (l:List α)(m:List (κ×O0)):List (κ×O0):=l.foldl (λm p=>O9 m (ky p) (vl p)) m
theorem jt {k:κ}:∀(l:List α) (m:List (κ×O0)),(l.map ky).Nodup->(∀p∈l,O8 m (ky p)=none)->O8 (zS ky vl l m) k=match l.find? (λp=>decide (ky p=k))with
  | some p=>some (vl p)
  | none=>O8 m k
 | [],m,_,_=>rfl
 | p::l,m,I,J=>by
  obtain⟨H,O⟩:=Nw.1 (show(ky p::l.map ky).Nodup from I);have ih:=jt (k:=k) l (O9 m (ky p) (vl p)) O λq G=>by
   rw[Xn,OR λe=>H (by rw[e];exact LK G)];exact J q (Lk _ G)
  have e0:zS ky vl (p::l) m=zS ky vl l (O9 m (ky p) (vl p)):=rfl;rw[e0,ih,List.find?_cons];by_cases E:ky p=k
  ·have S:l.find? (λp=>decide (ky p=k))=none:=List.find?_eq_none.2 λq G=>by
    have:ky q≠k:=λe=>H (by rw[E,<-e];exact LK G);simpa using this
   rw[S,Xn,OS E];simp[E]
  rw[Xn,OR E];simp[E]
end
theorem Qhw {κ:Type}[DecidableEq κ]{l:List κ}{s:κ}(h:s∉l):O9 (l.map λs=>(s,Value.bool true)) s (.bool true)=(l++[s]).map λs=>(s,Value.bool true):=by
 induction l with
 | nil=>rfl
 | cons a l ih =>
  have E:a≠s:=λe=>h (by subst e;exact Lt);show(if a=s then(a,Value.bool true)::(l.map λs=>(s,Value.bool true))else(a,Value.bool true)::O9 (l.map λs=>(s,Value.bool true)) s (.bool true))=_
  rw[OR E,ih (λG=>h (Lk _ G))];rfl
theorem Qhx {κ:Type}[DecidableEq κ](l:List κ)(s:κ):O8 (l.map λs=>(s,Value.bool true)) s=if s∈l then some (.bool true)else none:=by
 induction l with
 | nil=>rfl
 | cons a l ih =>
  show(if a=s then some (Value.bool true)else O8 (l.map λs=>(s,Value.bool true)) s)=_
  rw[ih];by_cases h:a=s
  ·subst h;simp
  rw[OR h];have E:¬s=a:=λe=>h e.symm;simp[E]
section
variable {pS:String}{κ:Type}[DecidableEq κ]
theorem QfU [hm:Mp P t kt et (.bool false)]{enc:κ->O0}[hk:Key P kt enc]{x:O1}{l:List κ}{s:κ}(h:Yd enc w.heap b (l.map λs=>(s,Value.bool true)))(hx:ev f x=.map (some b))(E:ev f y=enc s):
  (execOp (ev f) ⟨d,.lookup t x y false,ty,pS,af,gd⟩).run P w=.ok (.value (.bool (decide (s∈l)))) w:=by
 rw[Jr h hx E,Qhx];by_cases G:s∈l <;> simp[G]
end
section
variable {pS:String}{κ:Type}[DecidableEq κ]
theorem Qk1 [hm:Mp P t kt et z]{enc:κ->O0}[hk:Key P kt enc]{x:O1}{m:List (κ×O0)}{k:κ}(h:Yd enc w.heap b m)(hx:ev f x=.map (some b))(E:ev f y=enc k)
  {v:O0} (G:(match O8 m k with|some u=>Value.tuple #[u,.bool true]|none=>.tuple #[z,.bool false])=v):
  (execOp (ev f) ⟨d,.lookup t x y true,ty,pS,af,gd⟩).run P w=.ok (.value v) w:=by
 rw[<-G];exact K3 h hx E
end
instance keyKy:Key prog 114 kKy:=QnK underlying114 og og U U underlying3 underlying9
abbrev z15:LV:=[oF oG 0,.string .empty,oF oG 0,nS,oF oG 0,nS,nS,nS,nS,nS,nS,nS,nS,nS,nS]
abbrev Yx:LV:=[nS,nS,nS]
abbrev paV (q:VA):O0:=.agg (Zn q).toArray
theorem zh {k:Int}:∀{l:LN}{i:Nat}{m:UU},m∈VE k i l->m.kd=k/\(i:Int)<=m.ix/\m.ix<((i+l.length:Nat):Int)
 | [],_,_,h=>by simp[VE]at h
 | b::l,i,m,h=>by
  rw[VE]at h;rcases Li.1 h with rfl|h
  ·exact⟨U,NG _,by simp only[oV];omega⟩
  obtain⟨E,G,H⟩:=zh h;exact⟨E,oa,by simp only[oV];omega⟩
theorem Qez {m:UU}(h:m∈O7 c):0<=m.ix/\(m.kd=1\/m.kd=2\/m.kd=3)/\(m.kd=1->m.ix<(c.rq.length:Int))/\(m.kd=2->m.ix<(c.ex.length:Int))/\(m.kd=3->m.ix<(c.cs.length:Int)):=by
 have e1:(srR c).length=c.rq.length:=Lh _;have e2:(srX c).length=c.ex.length:=Lh _;have I:(srC c).length=c.cs.length:=Lh _;unfold O7 at h;rcases Lc.1 h with h|h
 ·obtain⟨E,G,H⟩:=zh h;exact⟨oa,.inl E,λ_=>oa,λh=>oa,λh=>oa⟩
 rcases Lc.1 h with h|h
 ·obtain⟨E,G,H⟩:=zh h;exact⟨oa,.inr (.inl E),λh=>oa,λ_=>oa,λh=>oa⟩
 obtain⟨E,G,H⟩:=zh h;exact⟨oa,.inr (.inr E),λh=>oa,λh=>oa,λ_=>oa⟩
theorem Qh1 {ps:List VA}(G:(ps.map (·.e.ky)).Nodup)(H:∀q∈ps,Zj (Zn q))(k:Ky):∃(us:LV) (is:Bool),(match O8 (zS (λq:VA=>q.e.ky) paV ps []) k with|some u=>Value.tuple #[u,.bool true]|none=>.tuple #[.agg z15.toArray,.bool false])=.tuple #[.agg us.toArray,.bool is]/\us.length=15/\Zj us /\
  (is=true->∃q∈ps,us=Zn q/\Ks (ps.map (·.pt)) k=some q.pt)/\(is=false->Ks (ps.map (·.pt)) k=none):=by
 rw[jt (λq:VA=>q.e.ky) paV ps [] G (λ_ _=>rfl)];have I:Ks (ps.map (·.pt)) k=(ps.find? λq=>decide (q.e.ky=k)).map (·.pt):=by
  unfold Ks;rw[List.find?_map];rfl
 rw[I];cases J:ps.find? λq=>decide (q.e.ky=k)with
 | none=>exact⟨z15,false,U,U,⟨U,U,U,U,U,U,U,U,U,U,U,U,U,U,U,Z⟩,(λh=>by cases h),λ_=>rfl⟩
 | some q =>
  have E:=List.mem_of_find?_eq_some J;exact⟨Zn q,true,U,U,H q E,λ_=>⟨q,E,U,U⟩,(λh=>by cases h)⟩
theorem jX {v:Int}{m:UU}{p:xH}(E:zi c m=0)(h:Ks bf (ZM c m)=some p):Kj c bf v m=if p.c=X8 c m then(0,p,true)else(YN (X8 c m),KM c v m,false):=by
 unfold Kj;rw[OR (not_not_intro E),h]
theorem Qfn {v:Int}{m:UU}(E:zi c m=0)(h:Ks bf (ZM c m)=none):Kj c bf v m=(YN (X8 c m),KM c v m,false):=by
 unfold Kj;rw[OR (not_not_intro E),h]
theorem Qfo {v:Int}{m:UU}(E:zi c m≠0):(Kj c bf v m).1=zi c m:=by
 unfold Kj;rw[OS E]
structure BlS where
 k:Nat
 vo:O0
 qs:List VA
 vk:O0
 K:List Ky
 vm:O0
 M:List Ky
structure BlI (LL:LN)(B:Nat)(w':OZ)(b15 b50:Nat)(ks:List Ky)(z:BlS):Prop where
 b:∃T,Q7 w'.heap b15 T [z.vk,z.vm,nS]
 n:Yd kKy w'.heap b50 (ks.map λs=>(s,Value.bool true))
 o:Ub Zn 15 170 Vz (ob z.vk++(ob z.vm++LL)) B w' z.vo z.qs
 k:w'.ownsRow B 114 2 z.vk z.K.length (z.K.flatMap Xa)
 m:w'.ownsRow B 114 2 z.vm z.M.length (z.M.flatMap Xa)
 d1:∀b∈ob z.vo,b∉ob z.vk/\b∉ob z.vm
 d2:∀b∈ob z.vk,b∉ob z.vm
section
variable {LL:LN}{w8 w9:OZ}{b15 b50:Nat}{ks ks':List Ky}{z:BlS}
theorem BlI.I (h:BlI LL B w b15 b50 ks z)(E:O3 [] w w8):BlI LL B w8 b15 b50 ks z:=by
 obtain⟨T,G⟩:=h.b;exact⟨⟨T,G.I E⟩,h.n.I E,h.o.I E,Qp h.k E,Qp h.m E,h.d1,h.d2⟩
theorem BlI.now (h:BlI LL B w b15 b50 ks z)(H:O3 [b50] w w8)(I:Yd kKy w8.heap b50 (ks'.map λs=>(s,Value.bool true)))(J:b15≠b50)(hB:b50<B)(O:b50∈LL):BlI LL B w8 b15 b50 ks' z:=by
 obtain⟨T,S⟩:=h.b;have g1:=Qi h.o.own;have V:=Qi h.k;have Y:=Qi h.m;refine⟨⟨T,S.J H (oz J)⟩,I,h.o.J H λb E=>?_,Qf h.k H λb E G=>?_,Qf h.m H λb E G=>?_,h.d1,h.d2⟩
 ·rw[Lb.1 E];exact⟨.inl (Lc.2 (.inr (Lc.2 (.inr O)))),λG=>ou (g1 _ G)⟩
 ·rw[Lb.1 G]at E;have:=V _ E;omega
 rw[Lb.1 G]at E;have:=Y _ E;omega
theorem BlI.part (h:BlI LL B w b15 b50 ks z){I:O0}{q:VA}(S:Vz (ob z.vo++(ob z.vk++(ob z.vm++LL))) w.heap q)(V:w8.ownsRow B 170 15 I (z.qs.length+1) (z.qs.flatMap Zn++Zn q))(G:O3 (ob z.vo) w w8)
  (J:∀b∈ob I,b∈ob z.vo\/w.heap.size<=b) (ha:b15<B) (hc:b50<B):BlI LL B w8 b15 b50 ks { z with vo:=I,qs:=z.qs++[q] }:=by
 obtain⟨T,Y⟩:=h.b;have ge:=Qi h.o.own;have gk:=Qi h.k;have gm:=Qi h.m;refine⟨⟨T,Y.J G (λE=>ou (ge _ E))⟩,h.n.J G (λE=>ou (ge _ E)),h.o.app S V G J,Qf h.k G (λb H E=>(h.d1 b E).1 H),Qf h.m G (λb H E=>(h.d1 b E).2 H),λb H=>?_,h.d2⟩;rcases J b H with O|O
 ·exact h.d1 b O
 exact⟨λE=>ou (gk b E),λE=>ou (gm b E)⟩
theorem BlI.kept (h:BlI LL B w b15 b50 ks z){H:O0}{k:Ky}(Y:w8.ownsRow B 114 2 H (z.K.length+1) (z.K.flatMap Xa++Xa k))(S:O3 (ob z.vk) w w8)
  (hn:∀b∈ob H,b∈ob z.vk\/w.heap.size<=b) (J:O3 [b15] w8 w9) (ha:∃T,Q7 w9.heap b15 T [H,z.vm,nS]) (hf:b15<B) (hg:b50<B) (hc:b15≠b50) (hL:b15∈LL):BlI LL B w9 b15 b50 ks { z with vk:=H,K:=z.K++[k] }:=by
 have ge:=Qi h.o.own;have gk:=Qi h.k;have gm:=Qi h.m;have g8:=Qi Y;have hd:∀b∈ob H,b∉ob z.vo/\b∉ob z.vm:=λb E=>by
  rcases hn b E with O|O
  ·exact⟨λI=>(h.d1 b I).1 O,h.d2 b O⟩
  exact⟨λI=>ou (ge b I),λI=>ou (gm b I)⟩
 have he:w8.ownsRow B 114 2 H (z.K++[k]).length ((z.K++[k]).flatMap Xa):=by
  rw[Lj,LA];simpa using Y
 refine⟨ha,(h.n.J S (λG=>ou (gk _ G))).J J (by simpa using λe=>hc e.symm),⟨?_,λq hq=>?_⟩,Qf he J (λb E G=>?_),Qf (Qf h.m S (λb E G=>h.d2 b G E)) J (λb E G=>?_),λb E=>⟨λG=>(hd b G).1 E,(h.d1 b E).2⟩,λb E=>(hd b E).2⟩
 ·exact Qf (Qf h.o.own S (λb E G=>(h.d1 b E).1 G)) J (λb E G=>by rw[Lb.1 G]at E;have:=ge _ E;omega)
 ·have O:Vz (ob H++(ob z.vo++(ob z.vk++(ob z.vm++LL)))) w.heap q:=Mm.up (h.o.each q hq) λb E=>by
   rcases Lc.1 E with E|E
   ·exact(hn b E).imp (λV=>Lc.2 (.inr (Lc.2 (.inl V)))) id
   exact .inl E
  have I:=Mm.st O (S.mono λb E=>Lc.2 (.inr (Lc.2 (.inr (Lc.2 (.inl E))))));have V:=Mm.st I (J.mono λb E=>by rw[Lb.1 E];exact Lc.2 (.inr (Lc.2 (.inr (Lc.2 (.inr (Lc.2 (.inr hL))))))));refine Mm.mono V λb E=>?_;rcases Lc.1 E with E|E
  ·exact Lc.2 (.inr (Lc.2 (.inl E)))
  rcases Lc.1 E with E|E
  ·exact Lc.2 (.inl E)
  exact Lc.2 (.inr (Lc.2 (.inr (Lc.2 (.inr E)))))
 ·rw[Lb.1 G]at E;have:=g8 _ E;omega
 rw[Lb.1 G]at E;have:=gm _ E;omega
theorem BlI.mades (h:BlI LL B w b15 b50 ks z){I:O0}{k:Ky}(Y:w8.ownsRow B 114 2 I (z.M.length+1) (z.M.flatMap Xa++Xa k))(S:O3 (ob z.vm) w w8)
  (hn:∀b∈ob I,b∈ob z.vm\/w.heap.size<=b) (J:O3 [b15] w8 w9) (ha:∃T,Q7 w9.heap b15 T [z.vk,I,nS]) (hf:b15<B) (hg:b50<B) (hc:b15≠b50) (hL:b15∈LL):BlI LL B w9 b15 b50 ks { z with vm:=I,M:=z.M++[k] }:=by
 have ge:=Qi h.o.own;have gk:=Qi h.k;have gm:=Qi h.m;have g8:=Qi Y;have hd:∀b∈ob I,b∉ob z.vo/\b∉ob z.vk:=λb E=>by
  rcases hn b E with O|O
  ·exact⟨λH=>(h.d1 b H).2 O,λH=>h.d2 b H O⟩
  exact⟨λH=>ou (ge b H),λH=>ou (gk b H)⟩
 have he:w8.ownsRow B 114 2 I (z.M++[k]).length ((z.M++[k]).flatMap Xa):=by
  rw[Lj,LA];simpa using Y
 refine⟨ha,(h.n.J S (λG=>ou (gm _ G))).J J (by simpa using λe=>hc e.symm),⟨?_,λq hq=>?_⟩,Qf (Qf h.k S (λb E G=>h.d2 b E G)) J (λb E G=>?_),Qf he J (λb E G=>?_),λb E=>⟨(h.d1 b E).1,λG=>(hd b G).1 E⟩,λb E G=>(hd b G).2 E⟩
 ·exact Qf (Qf h.o.own S (λb E G=>(h.d1 b E).2 G)) J (λb E G=>by rw[Lb.1 G]at E;have:=ge _ E;omega)
 ·have O:Vz (ob I++(ob z.vo++(ob z.vk++(ob z.vm++LL)))) w.heap q:=Mm.up (h.o.each q hq) λb E=>by
   rcases Lc.1 E with E|E
   ·exact(hn b E).imp (λV=>Lc.2 (.inr (Lc.2 (.inr (Lc.2 (.inl V)))))) id
   exact .inl E
  have H:=Mm.st O (S.mono λb E=>Lc.2 (.inr (Lc.2 (.inr (Lc.2 (.inr (Lc.2 (.inl E))))))));have V:=Mm.st H (J.mono λb E=>by rw[Lb.1 E];exact Lc.2 (.inr (Lc.2 (.inr (Lc.2 (.inr (Lc.2 (.inr hL))))))));refine Mm.mono V λb E=>?_;rcases Lc.1 E with E|E
  ·exact Lc.2 (.inr (Lc.2 (.inl E)))
  rcases Lc.1 E with E|E
  ·exact Lc.2 (.inr (Lc.2 (.inr (Lc.2 (.inl E)))))
  rcases Lc.1 E with E|E
  ·exact Lc.2 (.inl E)
  exact Lc.2 (.inr (Lc.2 (.inr (Lc.2 (.inr (Lc.2 (.inr E)))))))
 ·rw[Lb.1 G]at E;have:=gk _ E;omega
 rw[Lb.1 G]at E;have:=g8 _ E;omega
end
theorem QfW (h0:Jn L w.heap q):
  Q5 prog 112 [.agg (QE q).toArray] w λr w'=>r=.bool (QbC q.it)/\O3 [] w w':=by
 have h:=h0.up (L':=[]) oe;have hm:=h.a.al.le;have hn:=h.a.mr.le;have ho:=h.a.ed.le;have hp:=h.ls.arr.le;have hq:=h.ts.arr.le;have S:jY q.p.a=(decide (q.p.a.st=0) && decide ((q.p.a.al.length:Int)+(q.p.a.mr.length:Int)+(q.p.a.ed.length:Int)=0)):=rfl;have E:QbC q.it=if q.kd=3 then jY q.p.a && decide ((q.ts.length:Int)=0) && decide (q.bd=0)else if q.kd=4 then jY q.p.a && decide ((q.ls.length:Int)=0)else decide ((q.ls.length:Int)+(q.ts.length:Int)=0) && decide (q.bd=0):=rfl
 refine Zk (jY q.p.a) λB hB=>?_;rw[hB]at S E;refine Zs func112 ntmps112 results112 ?_;refine Qe<|Qa<|QS (us:=QE q) U λb1 w1 hh hr hf=>Qc<|Qe<|Q0 U<|x (Zl (us:=[q.p.va,oF oG q.p.a.st,q.p.vm,q.p.ve]) hf U U U)<|Qa<|Qo (us:=qa) U λb3 w2 hi hj hk=>Qa<|Qj (us:=[q.p.va,oF oG q.p.a.st,q.p.vm,q.p.ve]) hk U U U U ⟨h.a.al.one,U,h.a.mr.one,h.a.ed.one,Z⟩ λw3 hl I=>xe ?_;have hg:O3 [] w1 w3:=hi.O hl hj;have J:=hh.D hg;have G:=hf.I hg;have H:=h.I J;refine Q3 (α:=Unit) [(4,4),(7,23)] (λ_=>[(4,.bool B)]) (λ_ w'=>w'=w3) ol ?_ ?_
 ·refine Qw<|Qs U I U U<|xb (Q9 U U) (λT=>?_) (λT=>?_)
  ·refine Qb<|Qs U I U U<|QL H.a.al U<|Qs U I U U<|x (Yo H.a.mr U) <|
    QN rfl rfl<|Qs U I U U<|QL H.a.ed U<|x (XI U U ⟨oa,oa⟩) <|
    x (Q9 rfl U)<|QK U<|Qc ?_
   exact⟨(),⟨OT Value.bool (by rw[S,OV (show q.p.a.st=0 from T),OK]),Z⟩,rfl⟩
  refine Qb<|Qr<|Qr<|Qr<|Qr<|Qr<|Qr<|Qr<|Qr<|Qr<|Qr<|Qr<|Qr<|QK U<|Qc ?_;exact⟨(),⟨OT Value.bool (by rw[S,OX (show ¬q.p.a.st=0 from T),Bool.false_and]),Z⟩,rfl⟩
 rintro _ g V rfl;refine Qd<|Qe<|Qs U G U U<|xe<|Qg<|Qe<|x (Q9 U U)<|Qc<|QZ U (λY=>?_) (λY=>?_)
 ·rw[OS Y]at E;refine Q3 (α:=Unit) [(2,2),(28,39)] (λ_=>[(2,.bool (QbC q.it))]) (λ_ w'=>w'=V) ol ?_ ?_
  ·refine Qw<|xB J0 (λO=>?_) (λO=>?_)
   ·refine Qb<|Qs U G U U<|QL H.ts.arr U<|xb (Q9 U U) (λha=>?_) (λha=>?_)
    ·refine QK U<|Qb<|Qs U G U U<|x (Q9 U U)<|QK U<|Qc ?_;exact⟨(),⟨OT Value.bool (by rw[E,O,OV (show(q.ts.length:Int)=0 from ha)];rfl),Z⟩,U⟩
    refine QK U<|Qb<|Qr<|Qr<|Qr<|QK U<|Qc ?_;exact⟨(),⟨OT Value.bool (by rw[E,O,OX (show ¬(q.ts.length:Int)=0 from ha)];rfl),Z⟩,U⟩
   refine Qb<|Qr<|Qr<|Qr<|Qr<|QK U<|Qb<|Qr<|Qr<|Qr<|QK U<|Qc ?_;exact⟨(),⟨OT Value.bool (by rw[E,O];rfl),Z⟩,U⟩
  rintro _ g w5 rfl;exact Ql ⟨[_],La,U,J⟩
 rw[OR Y]at E;refine Qe<|x (Q9 U U)<|Qc<|QZ U (λhb=>?_) (λhb=>?_)
 ·rw[OS hb]at E;refine Q3 (α:=Unit) [(2,2),(42,48)] (λ_=>[(2,.bool (QbC q.it))]) (λ_ w'=>w'=V) ol ?_ ?_
  ·refine Qw<|xB J0 (λhc=>?_) (λhc=>?_)
   ·refine Qb<|Qs U G U U<|QL H.ls.arr U<|x (Q9 U U)<|QK U<|Qc ?_;exact⟨(),⟨OT Value.bool (by rw[E,hc,OK]),Z⟩,rfl⟩
   refine Qb<|Qr<|Qr<|Qr<|Qr<|QK U<|Qc ?_;exact⟨(),⟨OT Value.bool (by rw[E,hc];rfl),Z⟩,U⟩
  rintro _ g w5 rfl;exact Ql ⟨[_],La,U,J⟩
 rw[OR hb]at E;refine Qh<|Q3 (α:=Unit) [(2,2),(49,61)] (λ_=>[(2,.bool (QbC q.it))]) (λ_ w'=>w'=V) ol ?_ ?_
 ·refine Qw<|Qs U G U U<|QL H.ls.arr U<|Qs U G U U<|QL H.ts.arr U<|QN U U<|xb (Q9 U U) (λhe=>?_) (λhe=>?_)
  ·refine Qb<|Qs U G U U<|x (Q9 U U)<|QK U<|Qc ?_;exact⟨(),⟨OT Value.bool (by rw[E,OV (show(q.ls.length:Int)+(q.ts.length:Int)=0 from he),OK]),Z⟩,rfl⟩
  refine Qb<|Qr<|Qr<|Qr<|QK U<|Qc ?_;exact⟨(),⟨OT Value.bool (by rw[E,OX (show ¬(q.ls.length:Int)+(q.ts.length:Int)=0 from he),Bool.false_and]),Z⟩,rfl⟩
 rintro _ g w5 rfl;exact Ql ⟨[_],La,U,J⟩
theorem Qev {v:O0}(h:XD L w.heap v qs)(i:Int):
  Q5 prog 110 [v,oF oG i] w λr w'=>(match yJ (qs.map (·.it)) i with
   | none=>r=.tuple #[.string .empty,oF oG 2]
   | some n=>r=.tuple #[.string n,oF oG 0]/\J6 n)/\O3 [] w w':=by
 have E:yJ (qs.map (·.it)) i=if i<0\/(qs.length:Int)<=i then none else some ((qs.map IV.it).getD i.toNat ⟨.empty,Uf⟩).nm:=by unfold yJ;rw[Lh]
 refine Zs func110 ntmps110 results110 ?_;refine Qe<|x Qk<|Qc<|Qd<|Q3 (α:=Bool) [(6,13)] (λz=>[(13,.bool z)]) (λz w'=>w'=w/\(z=true↔(i<0\/(qs.length:Int)<=i))) ol ?_ ?_
 ·refine Qw<|Qb<|xb (YJ U U) (λI=>?_) (λI=>?_)
  ·refine Qb<|Qr<|Qr<|Qr<|Qr<|QK U<|xe ?_;exact⟨true,La,U,⟨λ_=>.inl I,λ_=>U⟩⟩
  refine Qb<|Qb<|Qb<|QL h.arr U<|x (Yl U U)<|QK U<|xe ?_;exact⟨_,La,U,⟨λe=>.inr (OW e),λe=>OV (e.resolve_left I)⟩⟩
 rintro z g w1 ⟨rfl,J⟩;refine QW rfl (λH=>?_) (λH=>?_)
 ·rw[OS (J.1 H)]at E;refine Qe<|x Qk<|Qc ?_;exact Ql ⟨[_,_],oA,by rw[E];rfl,O3.Z _ _⟩
 have V:¬(i<0\/(qs.length:Int)<=i):=λe=>by rw[J.2 e]at H;cases H
 rw[OR V]at E;refine Qh<|exN (a:=i) oa λj O=>?_;have G:j<qs.length:=oa
 have Y:((qs.map IV.it).getD i.toNat ⟨.empty,Uf⟩).nm=(qs[j]'G).nm:=by
  rw[O];simp[oQ,G,IV.it]
 have S:=Lm G;rw[Y]at E;refine Qm<|Qb<|O6 (g:=QO) (i:=j) Yj h.arr U (show Go.Lg.ev _ _=_ from OT (Value.int .i64) O) G λha T=>?_;refine Zk (qs[j]'G) λq hq=>?_;rw[hq]at T E S;refine x (Zg U)<|x (QD (T.fld 0 (.string q.nm) U) U)<|x Qk<|Qc ?_;exact Ql ⟨[_,_],oA,by rw[E];exact⟨U,h.nm q S⟩,O3.Z _ _⟩
theorem Qch (co:List XG)(y:Int×Int)(l:xt):UH co (y::l)=match yJ co y.1 with
  | none=>none
  | some n=>(UH co l).map ((n,y.2)::·):=rfl
theorem Qcg {co:List XG}{y:Int×Int}{l:xt}{o:List (ByteArray×Int)}{X:Option (List (ByteArray×Int))}(h:X=(UH co (y::l)).map (o++·))(E:yJ co y.1=none):X=none:=by
 rw[h,Qch,E];rfl
theorem Qcf {co:List XG}{y:Int×Int}{l:xt}{o:List (ByteArray×Int)}{X:Option (List (ByteArray×Int))}(h:X=(UH co (y::l)).map (o++·)){n:ByteArray}(E:yJ co y.1=some n):X=(UH co l).map ((o++[(n,y.2)])++·):=by
 rw[h,Qch,E];simp only[Option.map_map];congr 1;funext z;simp
abbrev Zw:O0:=nS
theorem Qk8 (o:Option α):o=none\/∃n,o=some n:=by cases o with
 | none=>exact .inl U
 | some n=>exact .inr ⟨n,U⟩
instance:Bw prog 138 z9 [(0,1),(1,1),(2,4),(6,1),(7,1),(8,1)]:=⟨od,og⟩
theorem Qi0 {v:O0}{q:XV}(h0:XD L w.heap v qs)(hI:yT L w.heap q.v q.ls)(hJ:J6 q.nm)(gy:q.ls.length<=100000):
  Q5 prog 53 [v,.agg (Q6 q).toArray] w λr w'=>O3 [] w w'/\(match UH (qs.map (·.it)) q.ls with
   | none=>r=.tuple #[.agg z9.toArray,oF oG 2]
   | some l=>∃d:DV,r=.tuple #[.agg (QE d).toArray,oF oG 0]/\d.it=⟨3,q.nm,Uf,l,[],0⟩/\∀L:LN,(∀b∈L,b<w.heap.size)->Jn L w'.heap d):=by
 have h:=h0.up (L':=[]) oe;have hl:=hI.up (L':=[]) oe;refine Zk (UH (qs.map (·.it)) q.ls) λR hR=>?_;rw[hR];have hK:R=(UH (qs.map (·.it)) q.ls).map (([]:List (ByteArray×Int))++·):=by rw[hR];cases R <;> rfl
 refine Zs func53 ntmps53 results53 ?_;refine Qe<|Qa<|QS (us:=Q6 q) U λb3 w1 hr gz hM=>Qa<|Qo (us:=z9) U λb4 w2 hs g0 ht=>Qc ?_;have hN:=hr.D hs;have hu:=hM.I hs;refine Qe<|Qs U hu U U<|x (Zt [(0,[oF oG 3]),(1,[.string q.nm])] ⟨U,U,U,U,Z⟩)<|Qa<|Qo (us:=z9) U λJ w3 hO hP hQ=>Qa<|Qj (us:=[oF oG 3,.string q.nm,Zw,oF oG 0,Zw,Zw,Zw,Zw,oF oG 0]) hQ U U U U ⟨U,U,U,U,U,U,U,U,U,Z⟩ λO hS hv=>xe ?_;have hg:O3 [] w2 O:=hO.O hS hP;have hw:=hN.D hg;have g2:=hr.size;have g3:=ht.lt;have g4:=hv.lt;have hT:=hu.I hg;have hU:=ht.I hg;refine Qd<|Qe<|Qs U hT U U<|QL (hl.I hw) U<|Qb<|xe<|Qg<|QC (α:=Nat×O0×List (ByteArray×Int)) [(5,5),(8,10),(17,41)] (λz=>[(17,oF oG z.1)]) (λz w'=>z.1<=q.ls.length/\O3 [J] O w'/\Q7 w'.heap J 138 [oF oG 3,.string q.nm,Zw,oF oG 0,Zw,Zw,z.2.1,Zw,oF oG 0]/\w'.ownsRow O.heap.size 134 2 z.2.1 z.2.2.length (z.2.2.flatMap ZX)/\z.2.2.length=z.1/\(∀p∈z.2.2,J6 p.1)/\R=(UH (qs.map (·.it)) (q.ls.drop z.1)).map (z.2.2++·)) (λz=>q.ls.length - z.1) ol (0,Zw,[]) La
  ⟨Ln _,O3.Z _ _,hv,QJ _ _ _ _,U,oe,hK⟩ ?_
 rintro⟨k,vl,l⟩ g w5 ⟨hk,V,hh,G,hz,hi,hE⟩;simp only[]at hk hh G hz hi hE;have Y:O3 [] w w5:=hw.O V oa;have g5:=V.size;have h3:=hU.J V om;have h5:=h.I Y;have hV:=hl.I Y;refine Qe<|QX U U<|xe<|Qd<|QG U (λhj=>?_) (λhj=>?_)
 ·refine Qx ?_;have hW:q.ls.length<=k:=by have hX:¬(k:Int)<(q.ls.length:Int):=hj;omega
  rw[Lr hW]at hE;have hY:R=some l:=by rw[hE];simp[UH]
  refine Qe<|Q2 hh U U<|Qa<|Qj (us:=[oF oG 3,.string q.nm,Zw,oF oG 0,Zw,Zw,vl,Zw,oF oG 0]) h3 U U U U ⟨U,U,U,U,U,U,Qt G,U,U,Z⟩ λw6 h4 hZ=>Qc<|Ql ⟨[.agg (QE ⟨3,q.nm,⟨Zw,Zw,Zw,Uf⟩,vl,l,Zw,[],0⟩).toArray,oF oG 0],⟨⟨_,U,Qn U (hZ.at (L:=[]) oe).cells⟩,rfl,Z⟩,Y.O h4 oa,?_⟩;rw[hY];refine⟨⟨3,q.nm,⟨Zw,Zw,Zw,Uf⟩,vl,l,Zw,[],0⟩,U,U,λL hL=>?_⟩;have ga:Zv (b4::L) w5.heap vl l.length 2 (l.flatMap ZX):=QH G oa (λb E hbL=>by
   have:=(Qi G b E).1;simp only[oK]at hbL;rcases hbL with rfl|hbL
   ·omega
   have:=hL b hbL;omega)
  have gb:zp L w6.heap vl l:=⟨(ga.st (h4.mono oe)).up (λb E=>.inl (by simp[E])),hi⟩;exact⟨hJ,⟨Zv.nil _ _ _,Zv.nil _ _ _,Zv.nil _ _ _⟩,gb,zp.nil⟩
 have S:k<q.ls.length:=by have hX:(k:Int)<(q.ls.length:Int):=hj;omega
 have h6:q.ls.drop k=q.ls[k]'S::q.ls.drop (k+1):=LE S;refine Qh<|Qd<|Qg<|Qe<|O6 (g:=QI) (i:=k) Yv hV U U S λg6 h7=>?_;refine Zk (q.ls[k]'S) λy hy=>?_;rw[hy]at h7 h6;rw[h6]at hE;refine x (Qv h7 U U)<|Qa<|Qo (us:=[oF oG 0,oF oG 0]) U λb8 w7 gc gg gh=>Qa<|Qj (us:=QI y) gh U U U U oA λw8 gi h8=>xe ?_;have h9:O3 [] w5 w8:=gc.O gi gg;refine Qm<|Qs U h8 U U<|Qa<|xf<|(Qev (h5.I h9) y.1).mono ?_;rintro r9 w9 ⟨ha,hA⟩;have he:=h9.D hA;have gj:=h8.I hA;refine Or.elim (Qk8 (yJ (qs.map (·.it)) y.1)) (λH=>?_) (λH=>?_)
 ·have gk:=Qcg hE H;rw[H]at ha;have hf:r9=.tuple #[.string .empty,oF oG 2]:=ha;subst hf;refine Qb<|Q8 U U<|Q8 U U<|x Qk<|Qc<|Qd<|Qm<|ZA U U<|xe<|QZ U (λT=>?_) (λT=>OU (show(2:Int)≠0 by decide) T);refine Qe<|x (Zt [] Z)<|Qb<|Qa<|Qj (us:=z9) (h3.I he) U U U U ⟨U,U,U,U,U,U,U,U,U,Z⟩ λg7 gl gm=>Qc<|Ql ⟨[.agg z9.toArray,oF oG 2],⟨⟨_,U,Qn U (gm.at (L:=[]) oe).cells⟩,rfl,Z⟩,(Y.D he).O gl oa,?_⟩;rw[gk];rfl
 refine Exists.elim H λn H=>?_;have gn:=Qcf hE H;rw[H]at ha;have hf:r9=.tuple #[.string n,oF oG 0]/\J6 n:=ha;have go:=hf.1;subst go;refine Qb<|Q8 U U<|Q8 U U<|x Qk<|Qc<|Qd<|Qm<|ZA U U<|xe<|QZ rfl (λT=>OU U T) (λT=>?_);refine Qh ?_;have hB:=hh.I he;refine Qw<|Qs U hB U U<|Qb<|Qs U gj U U<|x (Qz ⟨U,U,Z⟩)<|Qa<|QB (us:=[ZX (n,y.2)]) U U og (show 1*2<=1000000 by decide) oA λg8 g9 hC ka gp=>?_;have ho:=he.D hC;have kb:=ho.size;have gq:=Qp G ho;refine Qa<|Za (m:=1) (news:=ZX (n,y.2)) gq U U U (by have:=gp.at (L:=[]) oe;simpa using this) (by simp[Value.oneCell']) oa oa λhq gr hD hF gs=>?_;have hG:J∉ob vl:=λhm=>ou (Qi G J hm).1
 have gt:=(hB.I hC).J hF hG;refine Q0 rfl<|Qa<|QA (j:=6) (u:=hq) gt U U oe (Qt hD) λgu hH gv=>xe ?_;have gw:O3 [J] O gr:=(V.then ho oe).then hF λb E=>.inr (Qi G b E).1;have gx:gu.ownsRow O.heap.size 134 2 hq (l++[(n,y.2)]).length ((l++[(n,y.2)]).flatMap ZX):=by
  have h1:=Qf hD hH (λb E hc=>by
   simp only[oI]at hc;subst hc;rcases gs b E with h2|h2
   ·exact hG h2
   omega)
  rw[Lj,LA];simpa using h1
 refine Qw<|QN U U<|Qb<|xe<|⟨(k+1,hq,l++[(n,y.2)]),by show q.ls.length - (k+1)<q.ls.length - k;omega,La,S,gw.then hH (λb E=>.inl E),gv,gx,by simp[hz],λp I=>?_,gn⟩;rcases Lc.1 I with I|I
 ·exact hi p I
 simp only[oI]at I;subst I;exact hf.2
theorem Qjo {v:O0}{q:KV}(h0:XD L w.heap v qs)(hI:yT L w.heap q.v q.ts)(hJ:J6 q.nm)(gy:q.ts.length<=100000):
  Q5 prog 54 [v,.agg (Zc q).toArray] w λr w'=>O3 [] w w'/\(match UH (qs.map (·.it)) q.ts with
   | none=>r=.tuple #[.agg z9.toArray,oF oG 2]
   | some l=>∃d:DV,r=.tuple #[.agg (QE d).toArray,oF oG 0]/\d.it=⟨4,q.nm,Uf,[],l,q.bd⟩/\∀L:LN,(∀b∈L,b<w.heap.size)->Jn L w'.heap d):=by
 have h:=h0.up (L':=[]) oe;have hl:=hI.up (L':=[]) oe;refine Zk (UH (qs.map (·.it)) q.ts) λR hR=>?_;rw[hR];have hK:R=(UH (qs.map (·.it)) q.ts).map (([]:List (ByteArray×Int))++·):=by rw[hR];cases R <;> rfl
 refine Zs func54 ntmps54 results54 ?_;refine Qe<|Qa<|QS (us:=Zc q) U λb3 w1 hs gz hM=>Qa<|Qo (us:=z9) U λb4 w2 ht g0 hu=>Qc ?_;have hN:=hs.D ht;have hg:=hM.I ht;refine Qe<|Qs U hg U U<|Qs U hg U U<|x (Zt [(0,[oF oG 4]),(1,[.string q.nm]),(5,[oF oG q.bd])] ⟨U,U,U,U,U,U,Z⟩)<|Qa<|Qo (us:=z9) U λJ w3 hO hP hQ=>Qa<|Qj (us:=[oF oG 4,.string q.nm,Zw,oF oG 0,Zw,Zw,Zw,Zw,oF oG q.bd]) hQ U U U U ⟨U,U,U,U,U,U,U,U,U,Z⟩ λO hS hv=>xe ?_;have hh:O3 [] w2 O:=hO.O hS hP;have hw:=hN.D hh;have g2:=hs.size;have g3:=hu.lt;have g4:=hv.lt;have hT:=hg.I hh;have hU:=hu.I hh;refine Qd<|Qe<|Qs U hT U U<|QL (hl.I hw) U<|Qb<|xe<|Qg<|QC (α:=Nat×O0×List (ByteArray×Int)) [(5,5),(8,10),(19,43)] (λz=>[(19,oF oG z.1)]) (λz w'=>z.1<=q.ts.length/\O3 [J] O w'/\Q7 w'.heap J 138 [oF oG 4,.string q.nm,Zw,oF oG 0,Zw,Zw,Zw,z.2.1,oF oG q.bd]/\w'.ownsRow O.heap.size 232 2 z.2.1 z.2.2.length (z.2.2.flatMap ZX)/\z.2.2.length=z.1/\(∀p∈z.2.2,J6 p.1)/\R=(UH (qs.map (·.it)) (q.ts.drop z.1)).map (z.2.2++·)) (λz=>q.ts.length - z.1) ol (0,Zw,[]) La
  ⟨Ln _,O3.Z _ _,hv,QJ _ _ _ _,U,oe,hK⟩ ?_
 rintro⟨k,vl,l⟩ g w5 ⟨hk,V,hi,G,hz,hj,hE⟩;simp only[]at hk hi G hz hj hE;have Y:O3 [] w w5:=hw.O V oa;have g5:=V.size;have h3:=hU.J V om;have h5:=h.I Y;have hV:=hl.I Y;refine Qe<|QX U U<|xe<|Qd<|QG U (λho=>?_) (λho=>?_)
 ·refine Qx ?_;have hW:q.ts.length<=k:=by have hX:¬(k:Int)<(q.ts.length:Int):=ho;omega
  rw[Lr hW]at hE;have hY:R=some l:=by rw[hE];simp[UH]
  refine Qe<|Q2 hi U U<|Qa<|Qj (us:=[oF oG 4,.string q.nm,Zw,oF oG 0,Zw,Zw,Zw,vl,oF oG q.bd]) h3 U U U U ⟨U,U,U,U,U,U,U,Qt G,U,Z⟩ λw6 h4 hZ=>Qc<|Ql ⟨[.agg (QE ⟨4,q.nm,⟨Zw,Zw,Zw,Uf⟩,Zw,[],vl,l,q.bd⟩).toArray,oF oG 0],⟨⟨_,U,Qn U (hZ.at (L:=[]) oe).cells⟩,rfl,Z⟩,Y.O h4 oa,?_⟩;rw[hY];refine⟨⟨4,q.nm,⟨Zw,Zw,Zw,Uf⟩,Zw,[],vl,l,q.bd⟩,U,U,λL hL=>?_⟩;have ga:Zv (b4::L) w5.heap vl l.length 2 (l.flatMap ZX):=QH G oa (λb E hbL=>by
   have:=(Qi G b E).1;simp only[oK]at hbL;rcases hbL with rfl|hbL
   ·omega
   have:=hL b hbL;omega)
  have gb:zp L w6.heap vl l:=⟨(ga.st (h4.mono oe)).up (λb E=>.inl (by simp[E])),hj⟩;exact⟨hJ,⟨Zv.nil _ _ _,Zv.nil _ _ _,Zv.nil _ _ _⟩,zp.nil,gb⟩
 have S:k<q.ts.length:=by have hX:(k:Int)<(q.ts.length:Int):=ho;omega
 have h6:q.ts.drop k=q.ts[k]'S::q.ts.drop (k+1):=LE S;refine Qh<|Qd<|Qg<|Qe<|O6 (g:=QI) (i:=k) Yv hV U U S λg6 h7=>?_;refine Zk (q.ts[k]'S) λy hy=>?_;rw[hy]at h7 h6;rw[h6]at hE;refine x (Qv h7 U U)<|Qa<|Qo (us:=[oF oG 0,oF oG 0]) U λb8 w7 gc gg gh=>Qa<|Qj (us:=QI y) gh U U U U oA λw8 gi h8=>xe ?_;have h9:O3 [] w5 w8:=gc.O gi gg;refine Qm<|Qs U h8 U U<|Qa<|xf<|(Qev (h5.I h9) y.1).mono ?_;rintro r9 w9 ⟨ha,hA⟩;have he:=h9.D hA;have gj:=h8.I hA;refine Or.elim (Qk8 (yJ (qs.map (·.it)) y.1)) (λH=>?_) (λH=>?_)
 ·have gk:=Qcg hE H;rw[H]at ha;have hf:r9=.tuple #[.string .empty,oF oG 2]:=ha;subst hf;refine Qb<|Q8 U U<|Q8 U U<|x Qk<|Qc<|Qd<|Qm<|ZA U U<|xe<|QZ U (λT=>?_) (λT=>OU (show(2:Int)≠0 by decide) T);refine Qe<|x (Zt [] Z)<|Qb<|Qa<|Qj (us:=z9) (h3.I he) U U U U ⟨U,U,U,U,U,U,U,U,U,Z⟩ λg7 gl gm=>Qc<|Ql ⟨[.agg z9.toArray,oF oG 2],⟨⟨_,U,Qn U (gm.at (L:=[]) oe).cells⟩,rfl,Z⟩,(Y.D he).O gl oa,?_⟩;rw[gk];rfl
 refine Exists.elim H λn H=>?_;have gn:=Qcf hE H;rw[H]at ha;have hf:r9=.tuple #[.string n,oF oG 0]/\J6 n:=ha;have go:=hf.1;subst go;refine Qb<|Q8 U U<|Q8 U U<|x Qk<|Qc<|Qd<|Qm<|ZA U U<|xe<|QZ rfl (λT=>OU U T) (λT=>?_);refine Qh ?_;have hB:=hi.I he;refine Qw<|Qs U hB U U<|Qb<|Qs U gj U U<|x (Qz ⟨U,U,Z⟩)<|Qa<|QB (us:=[ZX (n,y.2)]) U U og (show 1*2<=1000000 by decide) oA λg8 g9 hC ka gp=>?_;have hq:=he.D hC;have kb:=hq.size;have gq:=Qp G hq;refine Qa<|Za (m:=1) (news:=ZX (n,y.2)) gq U U U (by have:=gp.at (L:=[]) oe;simpa using this) (by simp[Value.oneCell']) oa oa λhr gr hD hF gs=>?_;have hG:J∉ob vl:=λhm=>ou (Qi G J hm).1
 have gt:=(hB.I hC).J hF hG;refine Q0 rfl<|Qa<|QA (j:=7) (u:=hr) gt U U oe (Qt hD) λgu hH gv=>xe ?_;have gw:O3 [J] O gr:=(V.then hq oe).then hF λb E=>.inr (Qi G b E).1;have gx:gu.ownsRow O.heap.size 232 2 hr (l++[(n,y.2)]).length ((l++[(n,y.2)]).flatMap ZX):=by
  have h1:=Qf hD hH (λb E hc=>by
   simp only[oI]at hc;subst hc;rcases gs b E with h2|h2
   ·exact hG h2
   omega)
  rw[Lj,LA];simpa using h1
 refine Qw<|QN U U<|Qb<|xe<|⟨(k+1,hr,l++[(n,y.2)]),by show q.ts.length - (k+1)<q.ts.length - k;omega,La,S,gw.then hH (λb E=>.inl E),gv,gx,by simp[hz],λp I=>?_,gn⟩;rcases Lc.1 I with I|I
 ·exact hj p I
 simp only[oI]at I;subst I;exact hf.2
instance:Bw prog 119 z10 [(0,2),(2,1),(3,4),(7,3)]:=⟨od,og⟩
instance:Bw prog 170 z15 [(0,10),(10,5)]:=⟨od,og⟩
theorem qA {c:CL}(E:ZF L w.heap c)(G:Kb w 4096):
  Q5 prog 65 [c.val] w λr w'=>O3 [] w w'/\∃us c0 c1 c2 c3 sa st sm se o,r=.tuple #[.agg us.toArray,.agg #[c0,c1,c2,c3,sa,oF oG st,sm,se,o],oF oG (YN c.V)]/\us.length=8/\Zj us/\Zj [c0,c1,c2,c3,sa,sm,se,o] /\
   (YN c.V=0->st=(suA c.V).st/\∀L:LN,(∀b∈L,b<w.heap.size)->ZK L w'.heap sa sm se (suA c.V)/\yV L w'.heap c0 c1 c2 (spc c.V).a (fbs (spc c.V)) (unc c.V.ev)):=by
 refine(QcY E G).mono ?_;rintro r w' ⟨H,us,c0,c1,c2,c3,sa,sm,se,o,rfl,I,J,O,_,S⟩;exact⟨H,us,c0,c1,c2,c3,sa,_,sm,se,o,U,I,J,O,λh=>⟨OS h,S h⟩⟩
theorem jv {c:CL}{q:MV}(H:ZF L w.heap c)(I:QQ L w.heap q.v q.co):
  Q5 prog 64 [c.val,.agg #[oF oG q.kd,oF oG q.ix,q.v]] w λr w'=>O3 [] w w'/\∃cm:CL,r=.tuple #[.agg cm.cells.toArray,oF oG (zi c.V q.m)]/\Zj cm.cells/\(zi c.V q.m=0->cm.V=X8 c.V q.m/\∀L:LN,(∀b∈L,b<w.heap.size)->ZF L w'.heap cm):=by
 refine(Qij H I).mono ?_;rintro r w' ⟨J,us,rfl,V,G,O,S⟩;refine⟨J,?_⟩;by_cases E:zi c.V q.m=0
 ·obtain⟨cm,e1,e2,T⟩:=S E;have e:us=cm.cells:=by simpa using e1
  subst e;exact⟨cm,U,G,λ_=>⟨e2,T⟩⟩
 have e:=O E;subst e;exact⟨CL.mk Zw Zw Zw Zw Zw [] [] [] [] [],U,G,λh=>OU h E⟩
theorem QcB (c:ZG)(bf:List xH)(v:Int)(m:UU)(l:List UU)(o:List xH)(k n:List Ky):blL c bf v (m::l) o k n=if(Kj c bf v m).1≠0 then((Kj c bf v m).1,[],[],[])else
  if(Kj c bf v m).2.2=true then blL c bf v l (o++[(Kj c bf v m).2.1]) (k++[ZM c m]) n else blL c bf v l (o++[(Kj c bf v m).2.1]) k (n++[ZM c m]):=rfl
theorem Qcz {c:CL}{ps:List VA}{v:Int}(h0:ZF L w.heap c)(hp:Go.Lg.Ja Zn 15 Vz L' w.heap vb ps)(ma:∀b∈L',b<w.heap.size)(hn:(ps.map (·.e.ky)).Nodup)(hpl:ps.length<=1000)(hkb:Kb w 4096):
  Q5 prog 24 [c.val,vb,oF oG v] w λr w'=>O3 [] w w'/\∃vp us,r=.tuple #[vp,.agg us.toArray,oF oG (X9 c.V (ps.map (·.pt)) v)]/\us.length=3/\Zj us/\(X9 c.V (ps.map (·.pt)) v≠0->vp=Zw/\us=Yx) /\
   (X9 c.V (ps.map (·.pt)) v=0->∃qs q,us=Zr q/\qs.map (·.pt)=UP c.V (ps.map (·.pt)) v/\q.rp=Xs c.V (ps.map (·.pt)) v/\(w'.ownsRow w.heap.size 170 15 vp qs.length (qs.flatMap Zn))/\Go.Lg.Ja Zn 15 Vz L' w'.heap vp qs/\∀M:LN,(∀b∈M,b<w.heap.size)->KO M w'.heap q):=by
 have h:=h0.up (L':=[]) oe;have hT:Go.Lg.Ja Zn 15 Vz [] w.heap vb ps:=hp.up oe;have hpk:(ps.map (·.pt)).map (·.ky)=ps.map (·.e.ky):=by rw[Mh];rfl
 have mf:=Qh1 hn (λq hq=>(hp.each q hq).ones);refine Zk (ps.map (·.pt)) λbf mg=>?_;rw[mg]at hpk mf ⊢;have ha:X9 c.V bf v=if Zm c.V≠0 then Zm c.V else(Ki c.V bf v).1:=rfl
 have mh:UP c.V bf v=(Ki c.V bf v).2.1:=rfl;have mj:Xs c.V bf v=⟨(Ki c.V bf v).2.2.1,(Ki c.V bf v).2.2.2,(bf.filter λp=>decide (p.ky∉(O7 c.V).map (ZM c.V))).map (·.ky)⟩:=rfl;have hbR:blL c.V bf v (O7 c.V) [] [] []=Ki c.V bf v:=rfl;refine Zk (X9 c.V bf v) λE hE=>?_;rw[hE]at ha ⊢;refine Zs func24 ntmps24 results24 ?_;refine Qe<|Qa<|QS (us:=c.cells) U λb3 w1 mo hb3 g4=>x Qk<|Qa<|Qo (us:=Yx) U λb7 w2 gm hb7 g5=>Qc ?_;have mq:=mo.D gm;have hz1:=mo.size;have hz2:=gm.size;refine Qe<|Q2 (g4.I gm) U U<|Qa<|xf<|(yx (h.I mq)).mono ?_;rintro r3 w3 ⟨hU,vM,lM,rfl,hM,hMbad,hMgood⟩;have ms:=mq.D hU;have hz3:=hU.size;refine Qb<|Q8 U U<|Q8 U U<|x Qk<|Qc<|Qd<|Qm<|ZA U U<|xe<|QZ rfl (λhV=>?_) (λhV=>?_)
 ·rw[OS hV]at ha;refine Qe<|x (Qz Z)<|Qb<|x Qk<|Qa<|Qj (us:=Yx) (g5.I hU) U U U U oB λw4 hs4 hB74=>Qc<|Ql ⟨[Zw,.agg Yx.toArray,oF oG (Zm c.V)],⟨U,⟨_,U,Qn U (hB74.at (L:=[]) oe).cells⟩,rfl,Z⟩,ms.O hs4 oa,Zw,Yx,by rw[ha];rfl,U,oB,λ_=>⟨U,U⟩,λh0=>OU (ha.symm.D h0) hV⟩
 rw[OR hV]at ha;have g6:=Lo.1 hV;have hok:yS c.V:=(Z5 g6).sr;have hW:=hMgood g6;have mt:=QbS g6;have hMl:lM.length<=96:=by have:=Uu hok;rw[<-hW,Lh]at this;exact this
 have mu:Zv [] w3.heap vM lM.length 3 (lM.flatMap Yh):=hM.arr oa oe;refine Qh<|Qe<|Qa<|Yw kKy λg7 w5 mv hb37 mw=>Qc ?_;have my:=ms.D mv;have hp5:=Go.Lg.Ja.I hT my;refine Qd<|Qm<|QL hp5.arr U<|Qb<|xe<|Qg<|QC (α:=Nat) [(13,13),(40,49)] (λz=>[(40,oF oG z)]) (λz w'=>z<=ps.length/\O3 [g7] w5 w'/\Yd kKy w'.heap g7 (zS (λq:VA=>q.e.ky) paV (ps.take z) [])) (λz=>ps.length - z) ol 0 La ⟨Ln _,O3.Z _ _,mw⟩ ?_;rintro k g w6 ⟨hk,gn,g8⟩;have mz:O3 [] w w6:=my.O gn oa;have hz6:=gn.size;refine Qe<|QX U U<|xe<|Qd<|QG U (λgo=>?_) (λgo=>?_)
 rotate_left
 ·have J:k<ps.length:=by have hY:(k:Int)<(ps.length:Int):=go;omega
  have hr:ps.take (k+1)=ps.take k++[ps[k]'J]:=Ll J;have m2:=Go.Lg.Ja.I hT mz;have hs:=Lm J;refine Qh<|Qd<|Qg<|Qe<|O6 (g:=Zn) (i:=k) Kr m2.arr U U J λa42 m3=>?_;refine Zk (ps[k]'J) λq hq=>?_;rw[hq]at m3 hr hs;have g9:=m2.each q hs;refine x (Qv m3 U U)<|Qa<|Qo (us:=z15) U λb13 w7 ka hb13 hB13=>Qa<|Qj (us:=Zn q) hB13 U U U U g9.ones λV hZ m4=>xe ?_;have hB:O3 [] w6 V:=ka.O hZ hb13;refine Qw<|Qb<|Q0 U<|Q0 U<|x (Zl (us:=Xa q.e.ky) m4 U U U)<|Q2 m4 U U<|Qa<|Xw (k:=q.e.ky) (g8.I hB) U U λY ht hm9=>xe ?_;refine Qw<|QN U U<|Qb<|xe<|⟨k+1,oa,La,J,(gn.D hB).Q ht,?_⟩;have m5:Yd kKy Y.heap g7 (O9 (zS (λq:VA=>q.e.ky) paV (ps.take k) []) q.e.ky (paV q)):=hm9;rw[hr];unfold zS at m5 ⊢;rw[Mz];exact m5
 refine Qx ?_;have ga:ps.length<=k:=by have hY:¬(k:Int)<(ps.length:Int):=go;omega
 rw[Ls ga]at g8;clear ga go hk;refine Qe<|Qc<|Qe<|Qa<|Qo (us:=Yx) U λI w7 ka hb15 m6=>xe ?_;refine Qe<|Qa<|Yw kKy λO V hZ hb50 m7=>Qc ?_;have hB:=ka.D hZ;have m8:=mz.D hB;have hz8:=hZ.size;have hB158:=m6.I hZ;have hl15:=m6.lt;have hl50:=m7.lt;have hl37:=mw.lt;have hm378:=g8.I hB;have gb:O3 [] w3 V:=(mv.O gn oa).D hB;have hB38:=(g4.I (gm.D hU)).I gb;have hB78:=(g5.I hU).I gb;have hl3:=g4.lt;have hl7:=g5.lt;have hMA8:=mu.I gb;refine Qd<|Qm<|QL hMA8 U<|Qb<|xe<|Qg<|QC (α:=BlS) [(6,6),(8,8),(14,14),(18,25),(53,123)] (λz=>[(14,z.vo),(53,oF oG z.k)]) (λz w'=>z.k<=lM.length/\O3 [I,O] V w'/\BlI (b7::I::O::L') V.heap.size w' I O ((lM.take z.k).map λq=>ZM c.V q.m) z/\blL c.V bf v ((lM.drop z.k).map MV.m) (z.qs.map (·.pt)) z.K z.M=Ki c.V bf v/\(z.qs.length=z.k/\z.K.length<=z.k/\z.M.length<=z.k))
  (λz=>lM.length - z.k) ol ⟨0,Zw,[],Zw,[],Zw,[]⟩ oA ⟨Ln _,O3.Z _ _,⟨⟨_,hB158⟩,m7,Ub.nil,QJ _ _ _ _,QJ _ _ _ _,λb H=>by simp[ob]at H,λb H=>by simp[ob]at H⟩,by rw[List.drop_zero,hW];exact hbR,U,Lx _,Lx _⟩ ?_
 rintro⟨k,vo,qs,vk,K,vm,M⟩ g Y ⟨hk,ht,S,hR,hql,hKl,hMl'⟩;simp only[]at hk S hR hql hKl hMl';have hX:∀b∈[I,O],w.heap.size<=b/\b<V.heap.size:=λb H=>by simp only[oK,oJ,or_false]at H;omega
 have kb:O3 [] w Y:=m8.then ht (λb H=>.inr (hX b H).1);have hz9:=ht.size;have m9:=hB38.J ht oq;have pa:=hB78.J ht oq;have hm379:=hm378.J ht oq;have hp9:=Go.Lg.Ja.I hT kb;refine Qe<|QX U U<|xe<|Qd<|QG U (λkc=>?_) (λkc=>?_)
 ·refine Qx ?_;have ga:lM.length<=k:=by have hY:¬(k:Int)<(lM.length:Int):=kc;omega
  have gp:=S;rw[Ls ga]at gp;rw[Lr ga]at hR;have hR0:Ki c.V bf v=(0,qs.map (·.pt),K,M):=hR.symm;rw[hR0]at ha mh mj;have pc:E=0:=ha;have hks:(lM.map λq=>ZM c.V q.m)=(O7 c.V).map (ZM c.V):=by rw[<-hW,Mh];rfl
  rw[hks]at gp;obtain⟨T15,hB159⟩:=gp.b;have hm509:=gp.n;refine Qd<|Qm<|QL hp9.arr U<|Qb<|xe<|Qg<|QC (α:=Nat×O0×List Ky) [(27,27),(126,144)] (λz=>[(126,oF oG z.1)]) (λz w'=>z.1<=ps.length/\O3 [I] Y w'/\Q7 w'.heap I T15 [vk,vm,z.2.1]/\w'.ownsRow Y.heap.size 114 2 z.2.1 z.2.2.length (z.2.2.flatMap Xa)/\z.2.2=((ps.take z.1).filter λp=>decide (p.e.ky∉(O7 c.V).map (ZM c.V))).map (·.e.ky))
   (λz=>ps.length - z.1) ol (0,Zw,[]) La ⟨Ln _,O3.Z _ _,hB159,QJ _ _ _ _,U⟩ ?_
  rintro⟨i,vg,G⟩ g hD ⟨hi,hf,ke,h6,hG⟩;simp only[]at hi ke h6 hG;have pd:O3 [] w hD:=kb.O hf oa;have hz10:=hf.size;have hB710:=pa.J hf om;have hm5010:=hm509.J hf om;have hGl:G.length<=1000:=by
   rw[hG,Lh];refine LJ (Ma _ _) ?_;rw[Ly];omega
  refine Qe<|QX U U<|xe<|Qd<|QG U (λkf=>?_) (λkf=>?_)
  ·refine Qx ?_;have hie:ps.length<=i:=by have hY:¬(i:Int)<(ps.length:Int):=kf;omega
   rw[Ls hie]at hG;have pf:Zj [vk,vm,vg]:=⟨Qt S.k,Qt S.m,Qt h6,Z⟩;refine Qd<|QR (O3 [] hD) [oD 0,oD 1,oD 2,oE 3,oD 4] mixed ol od (O3.C _ _) ?_;refine p Qy<|pq (λ_ hc=>Zx (ke.I hc) U U)<|p ZH<|pkl (hl:=by kernel_rfl)<|Qj (us:=[vk,vm,vg]) (hB710.I (O3.C _ _)) U U U U pf λgq kg hB711 =>
    p ZH<|pe ?_
   have hF:O3 [b7] hD gq:=(O3.C [] hD).any.Q kg;have n7:∀b,V.heap.size<=b->b∉[b7]:=λb H T=>by rw[Lb.1 T]at H;omega
   have kh:∀b,V.heap.size<=b->b∉[I]:=λb H T=>by rw[Lb.1 T]at H;omega
   have pg:=Qf (Qf S.k hf (λb H=>kh b (Qi S.k b H).1)) hF (λb H=>n7 b (Qi S.k b H).1);have ph:=Qf (Qf S.m hf (λb H=>kh b (Qi S.m b H).1)) hF (λb H=>n7 b (Qi S.m b H).1);have pj:=Qf h6 hF (λb H=>n7 b (ou (Qi h6 b H).1));have ki:=Qf (Qf S.o.own hf (λb H=>kh b (Qi S.o.own b H).1)) hF (λb H=>n7 b (Qi S.o.own b H).1);have kj:O3 [] w gq:=pd.O hF oa;refine Ql ⟨[vo,.agg #[vk,vm,vg],oF oG 0],⟨U,⟨_,U,Qn U (hB711.at (L:=[]) oe).cells⟩,rfl,Z⟩,kj,vo,[vk,vm,vg],by rw[pc];rfl,U,pf,λh0=>OU pc h0,λ_=>⟨qs,⟨vk,K,vm,M,vg,G⟩,U,mh.symm,?_,Zy ki oa,⟨QH ki oa (λb H hbL=>ov (Qi ki b H).1 (ma b hbL)),λq hq=>?_⟩,λN hN=>⟨QH pg (show K.length<=1099511627776 by omega) (λb H hbL=>ov (Qi pg b H).1 (hN b hbL)),QH ph (show M.length<=1099511627776 by omega) (λb H hbL=>ov (Qi ph b H).1 (hN b hbL)),QH pj (show G.length<=1099511627776 by omega) (λb H hbL=>ov (Qi pj b H).1 (hN b hbL))⟩⟩⟩
   ·rw[mj];show Rp.mk K M G=_;rw[hG,<-mg,List.filter_map,Mh];rfl
   have hq9:=S.o.each q hq;have hq9':Vz (b7::I::O::L') Y.heap q:=Mm.mono hq9 λb H=>Lc.2 (.inr (Lc.2 (.inr (Lc.2 (.inr H)))));exact((hq9'.st (hf.mono oe)).st (hF.mono oe)).up (λb H=>.inl (by simp[H]))
  have J:i<ps.length:=by have hY:(i:Int)<(ps.length:Int):=kf;omega
  have hr:ps.take (i+1)=ps.take i++[ps[i]'J]:=Ll J;have pm:=Go.Lg.Ja.I hT pd;have hs:=Lm J;refine Qh<|Qd<|Qg<|Qe<|O6 (g:=Zn) (i:=i) Kr pm.arr U U J λa128 pn=>?_;refine Zk (ps[i]'J) λq hq=>?_;rw[hq]at pn hr hs;have g9:=pm.each q hs;refine x (Qv pn U U)<|Qa<|Qo (us:=z15) U λb27 po gc hb27 hB27=>Qa<|Qj (us:=Zn q) hB27 U U U U g9.ones λpp gr pu=>xe ?_;have hH:O3 [] hD pp:=gc.O gr hb27;have hz13:=hH.size;refine Qm<|Q0 U<|Q0 U<|x (Zl (us:=Xa q.e.ky) pu U U U)<|x (QfU (s:=q.e.ky) (hm5010.I hH) U U)<|x (Zz U)<|xe ?_;have kk:=ke.I hH;have pw:=Qp h6 hH;refine QW U (λkn=>?_) (λkn=>?_)
  ·have ko:q.e.ky∉(O7 c.V).map (ZM c.V):=by simpa using kn
   refine Qw<|Qs U kk U U<|Q0 U<|Q0 U<|x (Zl (us:=Xa q.e.ky) pu U U U)<|Qa<|QB (us:=[Xa q.e.ky]) U U og (by exact(by decide:1*2<=1000000)) oA λb141 kq hJ hb141 hB141 =>
    Qa<|Za (m:=1) (news:=Xa q.e.ky) (L:=[]) (Qp pw hJ) U U U (by have:=hB141.at (L:=[]) oe;simpa using this) (by simp[Value.oneCell']) oa (ou hJ.size) λkr ho pz hg p0=>Q0 U<|Qa<|QA (j:=2) (u:=kr) ((kk.I hJ).J hg (λH=>ou (Qi h6 I H).1)) U U oe (Qt pz) λp1 gs hB1516 =>
    xe ?_
   refine Qw<|QN U U<|Qb<|xe ?_;have hu:O3 [I] Y kq:=hf.D (hH.D hJ);have kt:O3 [I] Y ho:=hu.then hg (λb H=>.inr (Qi h6 b H).1);refine⟨(i+1,kr,G++[q.e.ky]),oh,La,J,kt.Q gs,hB1516,?_,?_⟩
   ·have p2:ho.ownsRow Y.heap.size 114 2 kr (G++[q.e.ky]).length ((G++[q.e.ky]).flatMap Xa):=by
     rw[Lj,LA];simpa using pz
    refine Qf p2 gs (λb H T=>?_);have:=(Qi p2 b H).1;rw[Lb.1 T]at this;omega
   simp only[];rw[hr,LZ,Lp,<-hG,Mc,OS (OV ko)];rfl
  have ko:q.e.ky∈(O7 c.V).map (ZM c.V):=by simpa using kn
  refine Qh<|Qw<|QN U U<|Qb<|xe<|⟨(i+1,vg,G),oh,La,J,hf.D hH,kk,pw,?_⟩;simp only[];rw[hr,LZ,Lp,<-hG,Mc,OR (oz ko)];simp
 have J:k<lM.length:=by have hY:(k:Int)<(lM.length:Int):=kc;omega
 have hr:lM.take (k+1)=lM.take k++[lM[k]'J]:=Ll J;have hs:=Lm J;rw[LE J,LG,QcB]at hR;have ku:O3 [] w3 Y:=gb.then ht (λb H=>.inr (by simp only[oK,oJ,or_false]at H;have:=gb.size;omega));have hM9:=Yu.I hM ku;have hMA9:=mu.I ku;have hn1:(lM.map λq=>ZM c.V q.m).Nodup:=by
  rw[<-hW,Mh]at mt;exact mt
 have kv:=hn1.sublist ((List.take_sublist (k+1) lM).map λq=>ZM c.V q.m);rw[hr,Lp]at kv;refine Qh<|Qd<|Qg<|Qe<|O6 (g:=Yh) (i:=k) Qdg hMA9 U U J λa55 p3=>?_;refine Zk (lM[k]'J) λq hq=>?_;rw[hq]at p3 hr hs hR kv;have hqI:QQ [] Y.heap q.v q.co:=hM9.each q hs [] oe;have hqm:q.m∈O7 c.V:=by rw[<-hW];exact LK hs
 have p4:ZM c.V q.m∉(lM.take k).map λq=>ZM c.V q.m:=λT=>(My.1 kv).2.2 _ T _ (Lb.2 U) U;have gg:=Qez hqm;have hh:=mf (ZM c.V q.m);have gt:=λp:xH=>jX (c:=c.V) (bf:=bf) (v:=v) (m:=q.m) (p:=p);have gu:=Qfn (c:=c.V) (bf:=bf) (v:=v) (m:=q.m);have hb0:=Qfo (c:=c.V) (bf:=bf) (v:=v) (m:=q.m);refine x (Qv p3 U U)<|Qa<|Qo (us:=[oF oG 0,oF oG 0,nS]) U λb18 hD hf hb18 hB18=>Qa<|Qj (us:=Yh q) hB18 U U U U ⟨U,U,hqI.one,Z⟩ λgq kg p5=>xe ?_;have gv:O3 [] Y gq:=hf.O kg hb18;have kj:=kb.D gv;have hK:=Qis (q:=q) (h.I kj) gg.1 gg.2.1 (λe=>by have:=gg.2.2.1 e;rwa [show c.V.rq.length=c.rq.length from Lh ..]at this) (λe=>by have:=gg.2.2.2.1 e;rwa [show c.V.ex.length=c.ex.length from Lh ..]at this) (λe=>by have:=gg.2.2.2.2 e;rwa [show c.V.cs.length=c.cs.length from Lh ..]at this);have p6:KM c.V v q.m=⟨ZM c.V q.m,v,suA (X8 c.V q.m),(KR (X8 c.V q.m)).1,(KR (X8 c.V q.m)).2.1,(KR (X8 c.V q.m)).2.2,X8 c.V q.m⟩:=rfl;refine Zk (ZM c.V q.m) λky p7=>?_;rw[p7]at p4 hh gt gu hK hR p6;refine Qe<|Q2 (m9.I gv) U U<|Q2 p5 U U<|Qa<|xf<|hK.mono ?_;rintro _ po ⟨rfl,gc⟩;refine Qa<|Qo (us:=[oF oG 0,.string .empty]) U λp8 pp gr hb19 hB19=>Qa<|Qj (us:=Xa ky) hB19 U U U U oA λkq hJ p9=>xe ?_;have qc:O3 [] po kq:=gr.O hJ hb19;have hu:=(gv.D gc).D qc;have hz914:=hu.size;have hz911:=gv.size;have hz12:=gc.size;have qf:=S.I hu;have hz10:=hf.size;have hz13:=gr.size;refine Qm<|Q2 p9 U U<|Qa<|Xw (k:=ky) qf.n U U λho hg p0=>xe ?_;have kt:O3 [O] Y ho:=hu.any.Q hg;have ql:O3 [I,O] V ho:=ht.Q (kt.mono oe);have qo:O3 [] w ho:=m8.then ql (λb H=>.inr (hX b H).1);have hz15:=hg.size;have hI15:BlI (b7::I::O::L') V.heap.size ho I O ((lM.take (k+1)).map λq=>ZM c.V q.m) ⟨k,vo,qs,vk,K,vm,M⟩:=by
  refine qf.now hg ?_ oa oa oe;have h5:Yd kKy ho.heap O (O9 (((lM.take k).map λq=>ZM c.V q.m).map λs=>(s,Value.bool true)) ky (.bool true)):=p0;rw[Qhw p4]at h5;have e:((lM.take (k+1)).map λq=>ZM c.V q.m)=((lM.take k).map λq=>ZM c.V q.m)++[ky]:=by
   rw[hr,Lp,LG,p7];rfl
  rw[e];exact h5
 have hne50:∀b,V.heap.size<=b->b∉[O]:=λb H T=>by rw[Lb.1 T]at H;omega
 have hB1815:=((p5.I gc).I qc).J hg om;have hB1915:=p9.J hg om;have hB315:=(m9.I hu).J hg om;have qr:=(pa.I hu).J hg om;have hm3715:=(hm379.I hu).J hg om;have hqI3:QQ [] w3.heap q.v q.co:=hM.each q hs [] oe;have hqI15:QQ [] ho.heap q.v q.co:=((((hqI3.up (L':=[O]) (λb H=>.inr (by rw[Lb.1 H];omega))).I ku).I hu).st hg).up oe;refine Qe<|Q2 hB315 U U<|Q2 hB1815 U U<|Qa<|xf<|(jv (q:=q) (h.I qo) hqI15).mono ?_;rintro r23 p1 ⟨gs,cm,rfl,ho5,hgood⟩;refine Qb<|Q8 U U<|Q8 U U<|Qa<|Qo (us:=ZY) U λb20 w17 hs17 hb20 hB20=>Qa<|Qj (us:=cm.cells) hB20 U U U U ho5 λq0 hs18 hB2018 =>
  Qc ?_
 have kw:O3 [] p1 q0:=hs17.O hs18 hb20;have h2:=gs.D kw;have q1:=qo.D h2;have hz1518:=h2.size;refine Qd<|Qm<|ZA U U<|xe<|QZ rfl (λgh=>?_) (λgh=>?_)
 ·have he:=hb0 gh;rw[he,OS gh]at hR;rw[<-hR]at ha;refine Qe<|x (Qz Z)<|Qb<|x Qk<|Qa<|Qj (us:=Yx) (qr.I h2) U U U U oB λw19 kx hB719=>Qc ?_;exact Ql ⟨[Zw,.agg Yx.toArray,oF oG (zi c.V q.m)],⟨U,⟨_,U,Qn U (hB719.at (L:=[]) oe).cells⟩,rfl,Z⟩,q1.O kx oa,Zw,Yx,by rw[ha];rfl,U,oB,λ_=>⟨U,U⟩,λh0=>OU (ha.symm.D h0) gh⟩
 have kz:=Lo.1 gh;have gt:=λp=>gt p kz;have gu:=gu kz;have gi:=hgood kz;have hI18:=hI15.I h2;have q2:=hB1915.I h2;refine Qh<|Exists.elim hh λus hh=>Exists.elim hh λis hh=>?_;refine Qd<|Qm<|Q2 q2 U U<|x (Qk1 (k:=ky) (hm3715.I h2) U U hh.1)<|Qb<|Q8 U U<|Q8 U U<|Qa<|Qo (us:=z15) U λb22 w19 kx hb22 hB22 =>
  Qa<|Qj (us:=us) hB22 U U hh.2.1 U hh.2.2.1 λhL hs20 q3=>Qc ?_
 have hO:O3 [] q0 hL:=kx.O hs20 hb22;have q4:=q1.D hO;have q5:=hB2018.I hO;have hz1820:=hO.size;have j1:∀N:LN,(∀b∈N,b<ho.heap.size)->ZF N hL.heap cm:=λN hN=>((gi.2 N hN).I kw).I hO;refine Q3 (α:=Bool) [(78,84)] (λz=>[(84,.bool z)]) (λz w'=>O3 [] hL w'/\(z=true->∃p∈ps,us=Zn p/\Kj c.V bf v q.m=(0,p.pt,true))/\(z=false->Kj c.V bf v q.m=(YN (X8 c.V q.m),KM c.V v q.m,false))) ol ?_ ?_
 ·refine Qw<|xB J0 (λk0=>?_) (λk0=>?_)
  ·refine Exists.elim (hh.2.2.2.1 k0) λp h3=>?_;have gw:Vz [] hL.heap p:=(Go.Lg.Ja.I hT q4).each p h3.1;have gx:=h3.2.1;have hEq:Q5 prog 29 [p.c.val,cm.val] hL λr w'=>r=.bool (decide (p.c.V=X8 c.V q.m))/\O3 [] hL w':=by
    rw[<-gi.1];exact V9 gw.c (j1 [] oe)
   refine Qb<|Q0 U<|x (Zl (us:=p.c.cells) q3 U U (by rw[gx];rfl))<|Q2 q5 U U<|Qa<|xf<|hEq.mono ?_;rintro _ gy ⟨rfl,hv⟩;refine QK U<|xe ?_;have H:=gt p.pt h3.2.2;refine⟨decide (p.c.V=X8 c.V q.m),La,hv,λhz=>⟨p,h3.1,gx,?_⟩,λhz=>?_⟩
   ·rw[H,OS (show p.pt.c=_ from OW hz)]
   rw[H,OR (show ¬p.pt.c=_ from OY hz)]
  refine Qb<|Qr<|Qr<|Qr<|Qr<|QK U<|xe ?_;exact⟨false,La,O3.Z _ _,λhz=>OU hz og,λ_=>gu (hh.2.2.2.2 k0)⟩
 rintro zb g gy ⟨hv,hzt,hzf⟩;have gz:=hO.D hv;have k4:=q4.D hv;have hQ:=hI18.I gz;have hz21:=hv.size;have j2:=q2.I gz;have j3:=q5.I hv;have h721:=(qr.I h2).I gz;have za:O3 [I,O] V gy:=(ql.D h2).D gz;have gvo:=Qi hQ.o.own;have gvk:=Qi hQ.k;have gvm:=Qi hQ.m;obtain⟨T15,zv⟩:=hQ.b;have n15o:I∉ob vo:=λT=>ou (gvo I T).1
 have n15k:I∉ob vk:=λT=>ou (gvk I T).1
 have n15m:I∉ob vm:=λT=>ou (gvm I T).1
 have n19o:p8∉ob vo:=λT=>ou (Qi S.o.own p8 T)
 have z0:∀b∈ob vo++(ob vk++(ob vm++(b7::I::O::L'))),b<Y.heap.size/\(b∈L'\/w.heap.size<=b):=λb H=>by
  rcases Lc.1 H with H|H
  ·have:=Qi S.o.own b H;exact⟨this.2,.inr oa⟩
  rcases Lc.1 H with H|H
  ·have:=Qi S.k b H;exact⟨this.2,.inr oa⟩
  rcases Lc.1 H with H|H
  ·have:=Qi S.m b H;exact⟨this.2,.inr oa⟩
  simp only[oK]at H;rcases H with rfl|rfl|rfl|H
  ·exact⟨oa,.inr oa⟩
  ·exact⟨oa,.inr oa⟩
  ·exact⟨oa,.inr oa⟩
  exact⟨ou (ma b H),.inl H⟩
 refine QW rfl (λk5=>?_) (λk5=>?_)
 ·refine Exists.elim (hzt k5) λp h3=>?_;have gx:=h3.2.1;have H:=h3.2.2;rw[H,OR oe,OS rfl]at hR;have gw:Vz (ob vo++(ob vk++(ob vm++(b7::I::O::L')))) gy.heap p:=((hp.each p h3.1).up λb H=>(z0 b H).2).I k4;refine Qm<|Q2 (q3.I hv) U hh.2.1<|Qa<|QB (us:=[us]) U U og (by exact(by decide:1*15<=1000000)) ⟨U,hh.2.1,Z⟩ λb87 k6 hw hb87 hB87=>?_;have hA22:At [] k6.heap ⟨b87,0,none⟩ (Zn p):=by have:=hB87.at (L:=[]) oe;rw[gx]at this;simpa using this
  have z1:=hQ.I hw;refine Qa<|X6 (m:=1) (news:=Zn p) z1.o.own U U U hA22 (Zj.all gw.ones) (show qs.length+1<=1073741824 by omega) (ou hw.size) λv23 w23 ho23 h7 hn23=>?_;refine Qc ?_;have hI23:=z1.part (gw.I hw) ho23 h7 hn23 oa oa;have z2:=(zv.I hw).J h7 n15o;have hB1923:=(j2.I hw).J h7 n19o;refine Qe<|Qs U z2 U U<|Q2 hB1923 U U<|Qa<|QB (us:=[Xa ky]) U U og (by exact(by decide:1*2<=1000000)) oA λb92 w24 h8 hb92 hB92=>?_;have z3:=hI23.I h8;refine Qa<|Za (m:=1) (news:=Xa ky) (L:=[]) z3.k U U U (by have:=hB92.at (L:=[]) oe;simpa using this) (by simp[Value.oneCell']) (show K.length+1<=1099511627776 by omega) (oy hw.size h7.size h8.size) λz4 w25 z5 hS hn25=>?_;refine Q0 U<|Qa<|QA (j:=0) (u:=z4) ((z2.I h8).J hS n15k) U U oe (Qt z5) λk7 g0 hB1526=>xe ?_;have hy:=z3.kept z5 hS hn25 g0 ⟨T15,hB1526⟩ oa oa oa oe;refine Qx<|Qw<|QN U U<|Qb<|xe ?_;have hs826:O3 [I,O] V k7:=((((za.D hw).then h7 (λb H=>.inr (gvo b H).1)).D h8).then hS (λb H=>.inr (gvk b H).1)).Q (g0.mono oe);refine⟨⟨k+1,v23,qs++[p],z4,K++[ky],vm,M⟩,oh,oA,J,hs826,⟨hy.b,hy.n,hy.o,hy.k,hy.m,hy.d1,hy.d2⟩,?_,by simp only[oM,oO];omega⟩;simp only[];rw[Lp];exact hR
 have H:=hzf k5;rw[H]at hR;have hSy:=qA ((j1 [] oe).I hv) (hkb.I k4);rw[gi.1]at hSy;refine Qh<|Qe<|Q2 j3 U U<|Qa<|xf<|hSy.mono ?_;rintro r36 k6 ⟨hw,us8,c0,c1,c2,c3,sa,st,sm,se,oo,rfl,hl8,ho8,h4,g2⟩;refine Qb<|Q8 U U<|Q8 U U<|Q8 U U<|Qa<|Qo (us:=[nS,oF oG 0,nS,nS,nS,nS,nS,nS]) U λb24 w23 h7 hb24 hB24=>Qa<|Qo (us:=[nS,nS,nS,oF oG 0,nS,oF oG 0,nS,nS,nS]) U λb25 w24 h8 hb25 hB25 =>
  Qa<|Qj (us:=us8) (hB24.I h8) U U hl8 U ho8 λw25 hS hB2425=>?_
 have hl24:=hB24.lt;have n2425:b25∉[b24]:=om
 refine Qa<|Qj (us:=[c0,c1,c2,c3,sa,oF oG st,sm,se,oo]) (hB25.J hS n2425) U U U U ⟨h4.1,h4.2.1,h4.2.2.1,h4.2.2.2.1,h4.2.2.2.2.1,U,h4.2.2.2.2.2.1,h4.2.2.2.2.2.2.1,h4.2.2.2.2.2.2.2.1,Z⟩ λk7 g0 hB2526=>Qc ?_;have gj:O3 [] k6 k7:=(((h7.D h8).O hS oa).O g0 oa);have h1:=hw.D gj;have hs026:=k4.D h1;have hz2126:=h1.size;refine Qd<|Qm<|ZA U U<|xe<|QZ rfl (λgk=>?_) (λgk=>?_)
 ·rw[OS gk]at hR;rw[<-hR]at ha;refine Qe<|x (Qz Z)<|Qb<|x Qk<|Qa<|Qj (us:=Yx) (h721.I h1) U U U U oB λk8 hj hB727=>Qc ?_;exact Ql ⟨[Zw,.agg Yx.toArray,oF oG (YN (X8 c.V q.m))],⟨U,⟨_,U,Qn U (hB727.at (L:=[]) oe).cells⟩,rfl,Z⟩,hs026.O hj oa,Zw,Yx,by rw[ha];rfl,U,oB,λ_=>⟨U,U⟩,λh0=>OU (ha.symm.D h0) gk⟩
 rw[OR gk,OR oe]at hR;have g2:=g2 (Lo.1 gk);have hst:=g2.1;refine Qh<|Qe ?_;have hy:=hQ.I h1;have hB1926:=j2.I h1;have hB2026:=j3.I h1;refine Zk (⟨⟨ky,v,⟨sa,sm,se,suA (X8 c.V q.m)⟩,c0,(KR (X8 c.V q.m)).1,c1,(KR (X8 c.V q.m)).2.1,c2,(KR (X8 c.V q.m)).2.2⟩,cm⟩:VA) λP hP=>?_;have hPc:[oF oG ky.1,.string ky.2,oF oG v,sa,oF oG st,sm,se,c0,c1,c2,cm.ve,cm.vc,cm.vr,cm.vx,cm.vk]=Zn P:=by rw[<-hP,hst]
 refine Qb<|Q2 hB1926 U U<|Qb<|Q0 U<|x (Zl (us:=[sa,oF oG st,sm,se]) hB2526 U U U)<|Q0 U<|x (Zl (us:=[c0,c1,c2]) hB2526 U U U) <|
  x (Zt [(0,Xa ky),(1,[oF oG v]),(2,[sa,oF oG st,sm,se]),(3,[c0,c1,c2])] ⟨U,U,U,U,U,U,U,U,Z⟩)<|Q2 hB2026 U U<|x (Zt [(0,[oF oG ky.1,.string ky.2,oF oG v,sa,oF oG st,sm,se,c0,c1,c2]),(1,cm.cells)] ⟨U,U,U,U,Z⟩) <|
  Qa<|QB (us:=[[oF oG ky.1,.string ky.2,oF oG v,sa,oF oG st,sm,se,c0,c1,c2,cm.ve,cm.vc,cm.vr,cm.vx,cm.vk]]) U U og (by exact(by decide:1*15<=1000000)) oA λb115 k8 hj hb115 hB115=>?_
 have hA27:At [] k8.heap ⟨b115,0,none⟩ (Zn P):=by have:=hB115.at (L:=[]) oe;rw[<-hPc];simpa using this
 have hI27:=hy.I hj;have hz27:=hj.size;have hLc:∀b∈ob vo++(ob vk++(ob vm++(b7::I::O::L'))),b<ho.heap.size/\b<gy.heap.size:=λb H=>ou (z0 b H).1
 have hPA:Vz (ob vo++(ob vk++(ob vm++(b7::I::O::L')))) k8.heap P:=by
  obtain⟨hA,hC⟩:=g2.2 _ (λb H=>(hLc b H).2);have hcmX:=((((gi.2 _ (λb H=>(hLc b H).1)).I kw).I hO).I hv).I h1;rw[<-hP];exact⟨⟨(hA.I gj).I hj,(hC.k.I gj).I hj,(hC.d.I gj).I hj,(hC.r.I gj).I hj⟩,hcmX.I hj⟩
 refine Qa<|X6 (m:=1) (news:=Zn P) hI27.o.own U U U hA27 (Zj.all hPA.ones) (show qs.length+1<=1073741824 by omega) oa λv28 w28 ho28 gl hn28=>?_;refine Qc ?_;have hI28:=hI27.part hPA ho28 gl hn28 oa oa;have hB1528:=((zv.I h1).I hj).J gl n15o;have hB1928:=(hB1926.I hj).J gl n19o;refine Qw<|Qs U hB1528 U U<|Q2 hB1928 U U<|Qa<|QB (us:=[Xa ky]) U U og (by exact(by decide:1*2<=1000000)) oA λb120 w29 g3 hb120 hB120=>?_;have hI29:=hI28.I g3;refine Qa<|Za (m:=1) (news:=Xa ky) (L:=[]) hI29.m U U U (by have:=hB120.at (L:=[]) oe;simpa using this) (by simp[Value.oneCell']) (show M.length+1<=1099511627776 by omega) (ov gl.size g3.size) λv30 w30 ho30 k9 hn30=>?_;refine Q0 rfl<|Qa<|QA (j:=1) (u:=v30) ((hB1528.I g3).J k9 n15m) U U oe (Qt ho30) λw31 hs31 hB1531=>xe ?_;have h9:=hI29.mades ho30 k9 hn30 hs31 ⟨T15,hB1531⟩ oa oa oa oe;refine Qw<|QN U U<|Qb<|xe ?_;have hs831:O3 [I,O] V w31:=(((((za.D h1).D hj).then gl (λb H=>.inr (gvo b H).1)).D g3).then k9 (λb H=>.inr (gvm b H).1)).Q (hs31.mono oe);refine⟨⟨k+1,v28,qs++[P],vk,K,v30,M++[ky]⟩,oh,oA,J,hs831,⟨h9.b,h9.n,h9.o,h9.k,h9.m,h9.d1,h9.d2⟩,?_,by simp only[oM,oO];omega⟩;simp only[];rw[Lp];have hPp:[P].map (·.pt)=[KM c.V v q.m]:=by
  rw[p6,<-hP];show[VA.pt _]=_;unfold VA.pt;rw[gi.1]
 rw[hPp];exact hR
structure CkP (c:ZG):Prop where
 ev:J2 c.ev=0
 ne:c.co.length≠0
 n8:c.co.length<=8
 n12:c.co.length+c.rq.length<=12
 co:(Yn c.ev.length (VJ c.ev.length) [] [] c.co).1=0
 rq:JE c.ev.length (Yn c.ev.length (VJ c.ev.length) [] [] c.co).2.2 (Yn c.ev.length (VJ c.ev.length) [] [] c.co).2.1 c.rq=0
 cd:Yy (szs c.co) c.ex c.cs=0
theorem QgA :Zm c=0↔CkP c:=by
 constructor
 ·intro h;unfold Zm at h;split at h
  ·rename_i E;exact OU h E
  rename_i E;split at h
  ·cases h
  rename_i I;split at h
  ·cases h
  rename_i J;split at h
  ·rename_i G;exact OU h G
  rename_i G;split at h
  ·rename_i H;exact OU h H
  rename_i H;exact⟨Lo.1 E,I,oa,oa,Lo.1 G,Lo.1 H,h⟩
 intro h;unfold Zm;rw[OR (not_not_intro h.ev),OR h.ne,OR (ov h.n8 h.n12),OR (not_not_intro h.co),OR (not_not_intro h.rq)];exact h.cd
theorem Qgz {sz:LI}{ex:List qz}{cs:List xI}(h:Yy sz ex cs=0):(∀x∈ex,Y1 (x.ls.map (·.1))/\x.ls.length≠0)/\∀x∈cs,Y1 (x.ts.map (·.1)):=by
 unfold Yy at h;split at h
 ·cases h
 split at h
 ·cases h
 split at h
 ·cases h
 split at h
 ·rename_i E;exact OU h E
 rename_i hx;have hx:=Vg _ _ _ (Lo.1 hx);have I:=Vh _ _ _ h;refine⟨λx H=>?_,λx H=>?_⟩
 ·have E:=hx x H;unfold Jf at E;split at E
  ·cases E
  rename_i G;exact⟨(V6 _ _ _ E).2.1,G⟩
 have E:=I x H;unfold Xp at E;split at E
 ·cases E
 split at E
 ·rename_i G;exact OU E G
 rename_i G;exact(V4 _ _ _ (Lo.1 G)).2.1
theorem Qjj (h:(YK c).1=0):∃a b,KQ c.co c.ex=some a/\Vf c.co c.cs=some b/\(YK c).2=c.co.map (KA 1)++(c.rq.map (KA 2)++(a++b))/\Ko (YK c).2=0:=by
 unfold YK Qe2 at *;cases G:KQ c.co c.ex with
 | none=>rw[G]at h;simp at h
 | some a =>
  cases H:Vf c.co c.cs with
  | none=>rw[G,H]at h;simp at h
  | some b =>
   rw[G,H]at h;simp only[]at h ⊢;by_cases E:Ko (c.co.map (KA 1)++(c.rq.map (KA 2)++(a++b)))≠0
   ·rw[OS E]at h;exact OU h E
   rw[OR E];exact⟨a,b,U,U,U,Lo.1 E⟩
abbrev dky (x:Ys):Ky:=(x.kd,x.nm)
theorem Qci {k:Int}{n:ByteArray}{x:Ys}:V1 k n x=true↔dky x=(k,n):=by
 unfold V1 dky;rw[Lv,decide_eq_true_iff,decide_eq_true_iff,Prod.mk.injEq]
theorem Qjl {l:List Ys}{k:Int}{n:ByteArray}:KB l k n=true↔(k,n)∈l.map dky:=by
 unfold KB Yr;rw[decide_eq_true_iff];constructor
 ·intro h;have E:=List.findIdx_getElem (w:=h);exact LD.2 ⟨_,Lm h,Qci.1 E⟩
 intro h;obtain⟨x,hx,e⟩:=LD.1 h;exact List.findIdx_lt_length_of_exists ⟨x,hx,Qci.2 e⟩
structure KOk (ks:List Ky):Prop where
 n:ks.length<=76
 kd:∀k (h:k<ks.length),1<=(ks[k]'h).1/\(ks[k]'h).1<=4
 nm:∀k (h:k<ks.length),YX (ks[k]'h).2=true
 no:∀k (h:k<ks.length),ks[k]'h∉ks.take k
 or:∀k (h:k<ks.length),0<k->(ks[k - 1]'oa).1<=(ks[k]'h).1
theorem Qqd {l:List Ys}{k:Nat}(h:k<l.length):dk1 l k (l[k]'h)=0↔((1<=(l[k]'h).kd/\(l[k]'h).kd<=4)/\YX (l[k]'h).nm=true/\dky (l[k]'h)∉(l.map dky).take k/\(0<k->((l[k - 1]'oa).kd<=(l[k]'h).kd))/\QbC (l[k]'h)=true):=by
 have S:((l.getD (k - 1) ⟨0,.empty,Uf,[],[],0⟩))=l[k - 1]'oa:=by rw[List.getD_eq_getElem?_getD,LF oa];rfl
 have J:KB (l.take k) (l[k]'h).kd (l[k]'h).nm=true↔dky (l[k]'h)∈(l.map dky).take k:=by rw[Qjl,NM]
 unfold dk1;rw[S];constructor
 ·intro E;split at E
  ·cases E
  rename_i T;split at E
  ·cases E
  rename_i G;split at E
  ·cases E
  rename_i H;split at E
  ·cases E
  rename_i O;split at E
  ·cases E
  rename_i I;exact⟨oa,oz G,λe=>H (J.2 e),λV=>oa,oz I⟩
 rintro⟨T,G,H,O,I⟩;rw[OR oa,OR (by rw[G];decide),OR (λe=>H (J.1 e)),OR (λe=>ou (O e.1)),OR (by rw[I];decide)]
structure POk (p:xH):Prop where
 e:YN p.c=0
 sp:p.sp=suA p.c
 kp:p.kp=(KR p.c).1
 ds:p.ds=(KR p.c).2.1
 rm:p.rm=(KR p.c).2.2
theorem POk.new {v:Int}{m:UU}(h:YN (X8 c m)=0):POk (KM c v m):=⟨h,U,U,U,U⟩
structure Qj1 (c:ZG)(ps:List xH):Prop where
 ck:Zm c=0
 mc:∀m∈O7 c,zi c m=0/\YN (X8 c m)=0
 ky:ps.map (·.ky)=(O7 c).map (ZM c)
 cc:ps.map (·.c)=(O7 c).map (X8 c)
 ok:∀p∈ps,POk p
theorem QbF {l:List xH}{k:Ky}{p:xH}(h:Ks l k=some p):p∈l/\p.ky=k:=by
 unfold Ks at h;have E:=List.find?_some h;exact⟨List.mem_of_find?_eq_some h,oz E⟩
theorem QpY {v:Int}{m:UU}(I:∀p∈bf,POk p)(h:(Kj c bf v m).1=0):zi c m=0/\YN (X8 c m)=0/\POk (Kj c bf v m).2.1/\(Kj c bf v m).2.1.c=X8 c m/\(Kj c bf v m).2.1.ky=ZM c m:=by
 refine⟨?_,?_,?_,?_,QoH c bf v m⟩
 all_goals unfold Kj at *
 ·by_cases E:zi c m≠0
  ·rw[OS E]at h;exact OU h E
  exact Lo.1 E
 all_goals
  by_cases E:zi c m≠0
  ·rw[OS E]at h;exact OU h E
  rw[OR E]at h
  try rw[OR E]
  cases H:Ks bf (ZM c m)with
  | none =>
   rw[H]at h
   first|exact h|exact POk.new h|rfl
  | some p =>
   rw[H]at h;obtain⟨J,_⟩:=QbF H;simp only[]at h ⊢;by_cases G:p.c=X8 c m
   ·first|exact G ▸ (I p J).e|(rw[OS G];first|exact I p J|exact G)
   rw[OR G]at h
   first|exact h|(rw[OR G];first|exact POk.new h|rfl)
theorem QjT {c:ZG}{bf:List xH}{v:Int}:∀(l:List UU) (o:List xH) (k n:List Ky),(blL c bf v l o k n).1=0->(∀m∈l,(Kj c bf v m).1=0)
 | [],_,_,_,_,_,E=>by cases E
 | m::l,o,k,n,h,m',E=>by
  rw[blL]at h;by_cases G:(Kj c bf v m).1≠0
  ·rw[OS G]at h;exact OU h G
  rw[OR G]at h;rcases Li.1 E with rfl|E
  ·exact Lo.1 G
  split at h
  ·exact QjT l _ _ _ h m' E
  exact QjT l _ _ _ h m' E
theorem QjU {c:ZG}{bf:List xH}{v:Int}:∀(l:List UU) (o:List xH) (k n:List Ky),(∀m∈l,(Kj c bf v m).1=0) ->
  blL c bf v l o k n=(0,o++l.map (λm=>(Kj c bf v m).2.1),k++(l.filter λm=>(Kj c bf v m).2.2).map (ZM c),n++(l.filter λm=>!(Kj c bf v m).2.2).map (ZM c))
 | [],o,k,n,_=>by rw[blL];simp
 | m::l,o,k,n,h=>by
  have ih:=λo k n=>QjU l o k n λx hx=>h x (Lk _ hx);rw[blL,OR (not_not_intro (h m Lt))];cases E:(Kj c bf v m).2.2 with
  | true=>rw[OS rfl,ih];simp[E,o0]
  | false=>rw[OR og,ih];simp[E,o0]
theorem QjS {v:Int}(h:X9 c bf v=0):Zm c=0/\∀m∈O7 c,(Kj c bf v m).1=0:=by
 unfold X9 at h;by_cases E:Zm c≠0
 ·rw[OS E]at h;exact OU h E
 rw[OR E]at h;exact⟨Lo.1 E,QjT (O7 c) [] [] [] h⟩
theorem Qfm {v:Int}(h:∀m∈O7 c,(Kj c bf v m).1=0):Ki c bf v=(0,(O7 c).map (λm=>(Kj c bf v m).2.1),((O7 c).filter λm=>(Kj c bf v m).2.2).map (ZM c),((O7 c).filter λm=>!(Kj c bf v m).2.2).map (ZM c)):=by
 unfold Ki;rw[QjU _ _ _ _ h,L8,L8,L8]
theorem QjQ {v:Int}(J:∀p∈bf,POk p)(h:X9 c bf v=0):Qj1 c (UP c bf v):=by
 obtain⟨O,H⟩:=QjS h;have G:=λm E=>QpY J (H m E);have e:UP c bf v=(O7 c).map (λm=>(Kj c bf v m).2.1):=by unfold UP;rw[Qfm H]
 refine⟨O,λm E=>⟨(G m E).1,(G m E).2.1⟩,?_,?_,λp I=>?_⟩
 ·rw[e,Mh];exact NB λm E=>(G m E).2.2.2.2
 ·rw[e,Mh];exact NB λm E=>(G m E).2.2.2.1
 rw[e]at I;obtain⟨m,E,rfl⟩:=LD.1 I;exact(G m E).2.2.1
abbrev Pts (L:LN)(H:xx)(v:O0)(l:List VA):Prop:=Go.Lg.Ja Zn 15 Vz L H v l
structure StV where
 c:CL
 vp:O0
 ps:List VA
abbrev JP (q:StV):LV:=[q.c.ve,q.c.vc,q.c.vr,q.c.vx,q.c.vk,q.vp]
theorem QkF (q:StV):(JP q).length=6:=rfl
structure yR (L:LN)(H:xx)(q:StV):Prop where
 c:ZF L H q.c
 p:Pts L H q.vp q.ps
theorem yR.st {L:LN}{w w':OZ}{q:StV}(h:yR L w.heap q)(E:O3 L w w'):yR L w'.heap q:=⟨h.c.st E,h.p.st E⟩
theorem yR.I {q:StV}(h:yR L w.heap q)(E:O3 [] w w'):yR L w'.heap q:=h.st E.any
theorem yR.up {L L':LN}{H:xx}{q:StV}(h:yR L H q)(E:∀b∈L',b∈L\/H.size<=b):yR L' H q:=⟨h.c.up E,h.p.up E⟩
instance:Mm yR:=⟨yR.st,yR.up⟩
theorem yR.ones {q:StV}(h:yR L H q):Zj (JP q):=⟨h.c.ev.arr.one,h.c.co.arr.one,h.c.rq.arr.one,h.c.ex.arr.one,h.c.cs.arr.one,h.p.arr.one,Z⟩
def StV.st (q:StV):ZG×List xH:=(q.c.V,q.ps.map (·.pt))
structure UnV where
 b1:Nat
 b2:Nat
 s:StV
structure KI where
 b:Nat
 s:StV
 made:Int
 vr:O0
 rs:List UQ
 vu:O0
 us:List UnV
abbrev Qaa (s:KI):LV:=[s.s.c.ve,s.s.c.vc,s.s.c.vr,s.s.c.vx,s.s.c.vk,s.s.vp,oF oG s.made,s.vr,s.vu]
def KI.own (s:KI):LN:=s.b::(ob s.vr++ob s.vu)
def KI.sys (s:KI):Sys:=⟨s.s.c.V,s.s.ps.map (·.pt),s.made,s.rs.map (·.rp),s.us.map λu=>u.s.st⟩
abbrev KZ (u:UnV):O0:=.func (.func 97) #[] #[.pointer (some ⟨u.b1,0,none⟩),.pointer (some ⟨u.b2,0,none⟩)]
structure UnA (L:LN)(H:xx)(u:UnV):Prop where
 a1:At L H ⟨u.b1,0,none⟩ u.s.c.cells
 a2:At L H ⟨u.b2,0,none⟩ [u.s.vp]
 s:yR L H u.s
theorem UnA.st {L:LN}{w w':OZ}{u:UnV}(h:UnA L w.heap u)(E:O3 L w w'):UnA L w'.heap u:=⟨h.a1.st E,h.a2.st E,yR.st h.s E⟩
theorem UnA.up {L L':LN}{H:xx}{u:UnV}(h:UnA L H u)(E:∀b∈L',b∈L\/H.size<=b):UnA L' H u:=⟨h.a1.up E,h.a2.up E,h.s.up E⟩
instance:Mm UnA:=⟨UnA.st,UnA.up⟩
structure VO (L:LN)(w:OZ)(s:KI):Prop where
 blk:∃T,Q7 w.heap s.b T (Qaa s)
 rr:w.ownsRow 0 88 3 s.vr s.rs.length (s.rs.flatMap Zr)
 ru:w.ownsRow 0 216 1 s.vu s.us.length (s.us.map KZ)
 d1:s.b∉ob s.vr
 d2:s.b∉ob s.vu
 d3:∀b∈ob s.vr,b∉ob s.vu
 sub:∀b∈s.own,b∈L
 st:yR L w.heap s.s
 rA:∀q∈s.rs,KO L w.heap q
 uA:∀q∈s.us,UnA L w.heap q
theorem VO.lt {L:LN}{w:OZ}{s:KI}(h:VO L w s):∀b∈s.own,b<w.heap.size:=λb E=>by
 unfold KI.own at E;rcases Li.1 E with rfl|E
 ·obtain⟨T,G⟩:=h.blk;exact G.lt
 rcases Lc.1 E with E|E
 ·exact(Qi h.rr b E).2
 exact(Qi h.ru b E).2
theorem VO.J {L X:LN}{w w':OZ}{s:KI}(h:VO L w s)(E:O3 X w w')(G:∀b∈X,b∈L\/w.heap.size<=b)(H:∀b∈s.own,b∉X):VO L w' s:=by
 have O:s.b∉X:=H _ Lt;have S:∀b∈ob s.vr,b∉X:=λb I=>H b (Lk _ (Lc.2 (.inl I)));have V:∀b∈ob s.vu,b∉X:=λb I=>H b (Lk _ (Lc.2 (.inr I)));obtain⟨T,Y⟩:=h.blk;exact⟨⟨T,Y.J E O⟩,Qf h.rr E S,Qf h.ru E V,h.d1,h.d2,h.d3,h.sub,Mm.J h.st E G,λq J=>Mm.J (h.rA q J) E G,λq J=>Mm.J (h.uA q J) E G⟩
theorem VO.I {s:KI}(h:VO L w s)(E:O3 [] w w'):VO L w' s:=h.J E (λ_ G=>by cases G) (λ_ _=>oe)
theorem VO.up {L L':LN}{w:OZ}{s:KI}(h:VO L w s)(E:∀b∈L',b∈L\/w.heap.size<=b)(H:∀b∈s.own,b∈L'):VO L' w s :=
 ⟨h.blk,h.rr,h.ru,h.d1,h.d2,h.d3,H,h.st.up E,λq G=>(h.rA q G).up E,λq G=>(h.uA q G).up E⟩
structure MdV where
 b:Nat
 vs:O0
 ss:List StV
 vr:O0
 rs:List UQ
 made:Int
abbrev Qlk (m:MdV):LV:=[m.vs,m.vr,oF oG m.made]
def MdV.own (m:MdV):LN:=m.b::(ob m.vs++ob m.vr)
structure MdA (L:LN)(w:OZ)(m:MdV):Prop where
 blk:∃T,Q7 w.heap m.b T (Qlk m)
 rs:w.ownsRow 0 97 6 m.vs m.ss.length (m.ss.flatMap JP)
 rr:w.ownsRow 0 88 3 m.vr m.rs.length (m.rs.flatMap Zr)
 d1:m.b∉ob m.vs
 d2:m.b∉ob m.vr
 d3:∀b∈ob m.vs,b∉ob m.vr
 sub:∀b∈m.own,b∈L
 sA:∀q∈m.ss,yR L w.heap q
 rA:∀q∈m.rs,KO L w.heap q
theorem MdA.J {L X:LN}{w w':OZ}{m:MdV}(h:MdA L w m)(E:O3 X w w')(J:∀b∈X,b∈L\/w.heap.size<=b)(G:∀b∈m.own,b∉X):MdA L w' m:=by
 have O:m.b∉X:=G _ Lt;have S:∀b∈ob m.vs,b∉X:=λb H=>G b (Lk _ (Lc.2 (.inl H)));have V:∀b∈ob m.vr,b∉X:=λb H=>G b (Lk _ (Lc.2 (.inr H)));obtain⟨T,Y⟩:=h.blk;exact⟨⟨T,Y.J E O⟩,Qf h.rs E S,Qf h.rr E V,h.d1,h.d2,h.d3,h.sub,λq I=>Mm.J (h.sA q I) E J,λq I=>Mm.J (h.rA q I) E J⟩
theorem MdA.I {m:MdV}(h:MdA L w m)(E:O3 [] w w'):MdA L w' m:=h.J E (λ_ G=>by cases G) (λ_ _=>oe)
def MdV.is (m:MdV)(s:Sys):Prop:=m.ss.map StV.st=s.un++[(s.c,s.ps)]/\m.rs.map (·.rp)=s.rs/\m.made=s.made/\s.rs.length=s.un.length
section
variable {pS:String}
theorem Qqx {C:xw}{pl:xp}{e bys:Nat}{x G:O1}{v:O0}{k:IntKind}[h:Sl P t e sz bys z]
  (I:QV ops E=⟨d,.slice t x none (some G) none,ty,pS,af,gd⟩) (J:Zv L H v n sz cs) (hx:ev f x=v) (O:ev f G=.int k hi) (S:hi<=n)
  (hK:∀v',Zv L H v' hi sz (cs.take (hi*sz))->XP P ops C K pl (QY f d v') w)
  (T:Z4 ops f (QV ops E)=true:=by rfl):XP P ops C K ((E,true)::pl) f w:=by
 obtain⟨v',V,Y⟩:=Qbz (P:=P) (d:=d) (ty:=ty) (pS:=pS) (af:=af) (gd:=gd) (t:=t) J hx O S;exact Lg.p (λw'=>by rw[I];exact Y w') (by rw[I];exact hK v' V) T
end
theorem Ju {v:O0}{es:List DV}(h0:Vn L w.heap v es):
  Q5 prog 55 [v] w λr w'=>r=oF oG (Ko (es.map DV.it))/\O3 [] w w':=by
 have h:=h0.up (L':=[]) oe;have hQ:=h.arr.le;have ha:Ko (es.map DV.it)=if 76<es.length then 3 else dkL (es.map DV.it) 0 (es.map DV.it):=by unfold Ko;rw[Lh]
 refine Zs func55 ntmps55 results55 ?_;refine Qe<|Qc<|Qd<|Qm<|QL h.arr U<|x (ZZ U U)<|xe<|QZ rfl (λh9=>?_) (λh9=>?_)
 ·have hh:76<es.length:=by have h8:(76:Int)<(es.length:Int):=h9;omega
  refine Qe<|Qc ?_;exact Ql ⟨[_],La,by rw[ha,OS hh];rfl,O3.Z _ _⟩
 have hh:¬76<es.length:=by have h8:¬(76:Int)<(es.length:Int):=h9;omega
 rw[OR hh]at ha;refine Zk (Ko (es.map DV.it)) λE hE=>?_;rw[hE]at ha;refine Qh<|Qd<|Qm<|QL h.arr U<|Qb<|xe<|Qg<|QC (α:=Nat) [(2,6),(12,62)] (λz=>[(12,oF oG z)]) (λz w'=>z<=es.length/\O3 [] w w'/\dkL (es.map DV.it) z ((es.map DV.it).drop z)=E) (λz=>es.length - z) ol 0 La ⟨Ln _,O3.Z _ _,ha.symm⟩ ?_;rintro k g w1 ⟨hk,hj,hd⟩;refine Qe<|QX U U<|xe<|Qd<|QG U (λhl=>?_) (λhl=>?_)
 ·refine Qx ?_;have hA:es.length<=k:=by have hB:¬(k:Int)<(es.length:Int):=hl;omega
  rw[Lr (by rw[Lh];exact hA)]at hd;refine Qe<|Qc ?_;exact Ql ⟨[oF oG 0],La,by rw[hE,<-hd];rfl,hj⟩
 have H:k<es.length:=by have hB:(k:Int)<(es.length:Int):=hl;omega
 have hC:k<(es.map DV.it).length:=by rw[Lh];exact H
 rw[LE hC,Mu,dkL]at hd;have h2:=Lm H;have hD:(es.map DV.it).take k=(es.take k).map DV.it:=NM.symm;have G:dk1 (es.map DV.it) k (es[k]'H).it=if(es[k]'H).kd<1\/4<(es[k]'H).kd then 11 else if YX (es[k]'H).nm=false then 7 else if KB ((es.take k).map DV.it) (es[k]'H).kd (es[k]'H).nm=true then 8 else if 0<k/\(es[k]'H).kd<((es.map DV.it).getD (k - 1) ⟨0,.empty,Uf,[],[],0⟩).kd then 5 else if QbC (es[k]'H).it=false then 6 else 0:=by
  unfold dk1;rw[hD];rfl
 have h1:=h.I hj;refine Qh<|Qd<|Qg<|Qm<|O6 (g:=QE) (i:=k) ZW h1.arr U U H λhR h4=>?_;refine Zk (es[k]'H) λq hq=>?_;rw[hq]at h4 h2 G hd;have hm:=h1.each q h2;refine x (Qv h4 U U)<|Qa<|Qo (us:=[oF oG 0,.string .empty,nS,oF oG 0,nS,nS,nS,nS,oF oG 0]) U λb4 w2 hF hG hH=>x Qk <|
  Qa<|Qj (us:=QE q) hH U U U U hm.ones λJ hI hn=>xe ?_
 have ho:O3 [] w1 J:=hF.O hI hG;have hJ:=hj.D ho;have h3:=h1.I ho;have S:∀e:Int,e≠0->dk1 (es.map DV.it) k q.it=e->E=e:=λe he h=>by rw[h,OS he]at hd;exact hd.symm
 have h5:O3 [] J { J with drawn:=J.drawn+1 }:=O3.C _ _
 refine Qd<|QR (O3 [] J) [oD 0,oD 1,oD 2,oD 3,oD 4,oD 5,oD 6,oE 7,oD 8,oD 9,oD 10,oD 11,oD 12] mixed ol od (O3.C _ _) ?_;refine p Qy<|p Qy<|Qqx (hi:=k) U h3.arr U U oa λv' hK=>p (QP U)<|pq (λ_ O=>Qq (hn.I O) U U) <|
  p (QP rfl)<|pq (λ_ O=>Qq (hn.I O) U U)<|?_
 have hL:Zv [] J.heap v' (es.take k).length 9 ((es.take k).flatMap QE):=by
  rw[Ly,Mf oa,<-jC QE 9 ZW];exact hK
 refine pk<|xf<|(zq (hL.I h5) q.kd q.nm).mono ?_;rintro r4 w4 ⟨⟨i,rfl,_⟩,hM⟩;have T:O3 [] J w4:=h5.D hM;refine⟨T,?_⟩;refine p Qy<|p (λ_=>Zp U U)<|p (λ_=>Zp U U)<|p ZH<|p ZH<|pe ?_;have V:=hn.I T;have hb:=hJ.D T;refine Qg<|Q3 (α:=Bool) [(28,36)] (λz=>[(28,.bool z)]) (λz w'=>w'=w4/\(z=true↔(q.kd<1\/4<q.kd))) ol ?_ ?_
 ·refine Qw<|Qs U V U U<|xb (YJ U U) (λhr=>?_) (λhr=>?_)
  ·refine Qb<|Qr<|Qr<|Qr<|QK U<|Qc ?_;exact⟨true,La,U,⟨λ_=>.inl hr,λ_=>U⟩⟩
  refine Qb<|Qs U V U U<|x (ZZ U U)<|QK U<|Qc ?_;exact⟨_,La,U,⟨λe=>.inr (OW e),λe=>OV (e.resolve_left hr)⟩⟩
 rintro z g w5 ⟨rfl,Y⟩;refine QW rfl (λhf=>?_) (λhf=>?_)
 ·rw[OS (Y.1 hf)]at G;have I:=S 11 og G;refine Qe<|Qc ?_;exact Ql ⟨[oF oG 11],La,by rw[hE,I];rfl,hb⟩
 rw[OR (λe=>by rw[Y.2 e]at hf;cases hf)]at G;refine Qe<|Qs U V U U<|Qa<|xf<|(VB q.nm hm.nm w5).mono ?_;rintro r6 w6 ⟨rfl,rfl⟩;refine x (Zz U)<|Qc<|QW U (λhs=>?_) (λhs=>?_)
 ·rw[OS (oz hs)]at G;have I:=S 7 og G;refine Qe<|Qc ?_;exact Ql ⟨[oF oG 7],La,by rw[hE,I];rfl,hb⟩
 rw[OR (oz hs)]at G;refine Qm<|Qc<|QW U (λht=>?_) (λht=>?_)
 ·rw[OS ht]at G;have I:=S 8 og G;refine Qe<|Qc ?_;exact Ql ⟨[oF oG 8],La,by rw[hE,I];rfl,hb⟩
 rw[OR (by rw[ht];decide)]at G;have h6:=h3.I T;refine Q3 (α:=Bool) [(44,57)] (λz=>[(44,.bool z)]) (λz w'=>O3 [] w6 w'/\(z=true↔(0<k/\q.kd<((es.map DV.it).getD (k - 1) ⟨0,.empty,Uf,[],[],0⟩).kd))) ol ?_ ?_
 ·refine QR (O3 [] w6) [oD 0,oD 1,oD 2,oD 3,oD 4,oD 5,oD 6,oD 7,oD 8,oD 9,oD 10,oD 11,oD 12,oD 13] mixed ol od (O3.C _ _) ?_;refine p Qy<|pb (λ_=>ZZ U U) (λhu=>?_) (λhu=>?_)
  ·have hN:0<k:=by have hS:(0:Int)<(k:Int):=hu;omega
   have hp:k - 1<es.length:=oa
   have hge:((es.map DV.it).getD (k - 1) ⟨0,.empty,Uf,[],[],0⟩).kd=(es[k - 1]'hp).kd:=by simp[oQ,hp,DV.it]
   have hO:(k:Int) - 1=((k - 1:Nat):Int):=oa
   refine p Qy<|p (QP U)<|pq (λ_ O=>Qq (V.I O) U U)<|p Qy<|p Qy <|
    p (λ_=>Jb U U ⟨oa,oa⟩)<|Go.Lg.pig (g:=QE) (i:=k - 1) U ZW h6.arr U (show Go.Lg.ev _ _=_ from OT (Value.int .i64) hO) hp λhT hP=>p (λ_=>Zg U)<|pq (λ_ O=>QD ((hP.fld 0 (oF oG (es[k - 1]'hp).kd) U).I O) U) <|
    p (λ_=>YJ U U)<|p (YS U)<|p ZH<|pe ?_
   refine⟨_,La,O3.C _ _,⟨λe=>⟨hN,by rw[hge];exact OW e⟩,λe=>OV (by rw[hge]at e;exact e.2)⟩⟩
  refine p Qy<|ps<|ps<|ps<|ps<|ps<|ps<|ps<|ps<|ps<|p (YS U)<|p ZH<|pe ?_;exact⟨false,La,O3.C _ _,⟨λe=>(by cases e),λe=>OU (show(0:Int)<(k:Int) by omega) hu⟩⟩
 rintro z g w7 ⟨hv,Y⟩;have hw:=hb.D hv;refine QW rfl (λhg=>?_) (λhg=>?_)
 ·rw[OS (Y.1 hg)]at G;have I:=S 5 og G;refine Qe<|Qc ?_;exact Ql ⟨[oF oG 5],La,by rw[hE,I];rfl,hw⟩
 rw[OR (λe=>by rw[Y.2 e]at hg;cases hg)]at G;refine Qe<|Q2 (V.I hv) U U<|Qa<|xf<|(QfW (hm.I ((ho.D T).D hv))).mono ?_;rintro r8 w8 ⟨rfl,h7⟩;refine x (Zz U)<|Qc<|QW U (λhy=>?_) (λhy=>?_)
 ·rw[OS (oz hy)]at G;have I:=S 6 og G;refine Qe<|Qc ?_;exact Ql ⟨[oF oG 6],La,by rw[hE,I];rfl,hw.D h7⟩
 rw[OR (oz hy)]at G;rw[G,OR og]at hd;refine Qh<|Qw<|QN U U<|Qb<|xe ?_;exact⟨k+1,oa,La,H,hw.D h7,hd⟩
section
variable {co:List XG}{o:List Ys}{X:Option (List Ys)}
theorem Qgt {y:qz}{l:List qz}(h:X=(KQ co (y::l)).map (o++·))(E:UH co y.ls=none):X=none:=by
 rw[h,KQ,E];rfl
theorem Qgs {y:qz}{l:List qz}(h:X=(KQ co (y::l)).map (o++·)){r:List (ByteArray×Int)}(E:UH co y.ls=some r):X=(KQ co l).map ((o++[⟨3,y.nm,Uf,r,[],0⟩])++·):=by
 rw[h,KQ,E];simp only[Option.map_map];congr 1;funext z;simp
theorem Qgv {y:xI}{l:List xI}(h:X=(Vf co (y::l)).map (o++·))(E:UH co y.ts=none):X=none:=by
 rw[h,Vf,E];rfl
theorem Qgu {y:xI}{l:List xI}(h:X=(Vf co (y::l)).map (o++·)){r:List (ByteArray×Int)}(E:UH co y.ts=some r):X=(Vf co l).map ((o++[⟨4,y.nm,Uf,[],r,y.bd⟩])++·):=by
 rw[h,Vf,E];simp only[Option.map_map];congr 1;funext z;simp
end
theorem Qh0 {X:Option (List Ys)}:X=X.map (([]:List Ys)++·):=by cases X <;> rfl
theorem Ql6 (h:KQ c.co c.ex=none\/Vf c.co c.cs=none):YK c=(2,[]):=by
 unfold YK Qe2;rcases h with h|h <;> rw[h]
 cases KQ c.co c.ex <;> rfl
theorem Qjk {a b l:List Ys}(E:KQ c.co c.ex=some a)(G:Vf c.co c.cs=some b)(hl:l=c.co.map (KA 1)++(c.rq.map (KA 2)++(a++b))):YK c=if Ko l≠0 then(Ko l,[])else(0,l):=by
 unfold YK Qe2;rw[E,G,hl]
theorem JI.app {base:Nat}{w E:OZ}{v G:O0}{l:List DV}{H:OZ}{q:DV}(h:JI base w v l)(J:O3 [] w E)(hb:base<=w.heap.size)(O:∀L:LN,(∀b∈L,b<w.heap.size)->Jn L E.heap q)
  (S:H.ownsRow base 138 9 G (l.length+1) (l.flatMap QE++QE q)) (T:O3 (ob v) E H) (V:∀b∈ob G,b∈ob v\/E.heap.size<=b):JI base H G (l++[q]):=
 (Z2.I h J).app (λL Y=>O L (λb ha=>by
  rcases Y b ha with I|I
  ·omega
  exact Zb h.own b I)) S T V
theorem Qka {c:CL}(h0:ZF L w.heap c)(g9:c.co.length<=1000)(ka:c.rq.length<=1000)(kb:c.ex.length<=1000)(kc:c.cs.length<=1000)(gw:∀q∈c.ex,q.ls.length<=100000)(hk1:∀q∈c.cs,q.ts.length<=100000):
  Q5 prog 22 [c.val] w λr w'=>O3 [] w w'/\∃v,r=.tuple #[v,oF oG (YK c.V).1]/\((YK c.V).1≠0->v=Zw)/\((YK c.V).1=0->∃l,JI w.heap.size w' v l/\l.map DV.it=(YK c.V).2):=by
 have h:=h0.up (L':=[]) oe;have hG:=@Ql6 c.V;have gh:=@Qjk c.V;refine Zk (YK c.V) λR hR=>?_;rw[hR]at hG gh ⊢;refine Zk (KQ c.V.co c.V.ex) λRE gp=>?_;refine Zk (Vf c.V.co c.V.cs) λRC gq=>?_;rw[gp,gq]at hG gh;refine Zs func22 ntmps22 results22 ?_;refine Qe<|Qa<|QS (us:=c.cells) U λb1 I hO ke hH=>x Qk<|Qc ?_;have kf:=hO.size;have h1:=h.I hO;refine Qe<|Qc<|Qd<|Qe<|Qs U (hH.I (O3.Z [] I)) U U<|QL (h1.co.arr.I (O3.Z [] I)) U<|Qb<|xe<|Qg<|QC (α:=Nat×O0×List DV×List Ys) [(4,4),(6,6),(21,34)] (λz=>[(4,z.2.1),(21,oF oG z.1)]) (λz w'=>z.1<=c.co.length/\O3 [] I w'/\JI I.heap.size w' z.2.1 z.2.2.1/\z.2.2.1.map DV.it=([]:List Ys)++z.2.2.2/\z.2.2.2.length=z.1/\z.2.2.2=(c.co.take z.1).map (λq=>KA 1 q.it)) (λz=>c.co.length - z.1) ol (0,Zw,[],[]) oA
  ⟨Ln _,(O3.Z [] I),Z2.nil,by rw[LS];exact U,U,U⟩ ?_
 rintro⟨k2,v2,l2,o2⟩ g w2 ⟨gx,hI,hP,hQ,gr,hZ⟩;simp only[]at gx hP hQ gr hZ;have gy:=hI.size;have kg:l2.length<=4000:=by
  have e1:=OT oP hQ;simp only[Oc,oM,OD]at e1;omega
 refine Qe<|QX U U<|xe<|Qd<|QG U (λY=>?_) (λY=>?_)
 ·refine Qx ?_;have hs:c.co.length<=k2:=by have ht:¬(k2:Int)<(c.co.length:Int):=Y;omega
  rw[Ls hs]at hZ;rw[hZ,L8]at hQ;refine Qd<|Qe<|Qs U (hH.I hI) U U<|QL (h1.rq.arr.I hI) U<|Qb<|xe<|Qg<|QC (α:=Nat×O0×List DV×List Ys) [(4,4),(8,8),(38,51)] (λz=>[(4,z.2.1),(38,oF oG z.1)]) (λz w'=>z.1<=c.rq.length/\O3 [] I w'/\JI I.heap.size w' z.2.1 z.2.2.1/\z.2.2.1.map DV.it=(c.co.map (λq=>KA 1 q.it))++z.2.2.2/\z.2.2.2.length=z.1/\z.2.2.2=(c.rq.take z.1).map (λq=>KA 2 q.it)) (λz=>c.rq.length - z.1) ol (0,v2,l2,[]) oA
   ⟨Ln _,hI,hP,by rw[LS];exact hQ,U,U⟩ ?_
  rintro⟨k3,v3,l3,o3⟩ g w3 ⟨gz,hJ,hS,hT,gs,ga⟩;simp only[]at gz hS hT gs ga;have g0:=hJ.size;have kh:l3.length<=4000:=by
   have e1:=OT oP hT;simp only[Oc,oM]at e1;omega
  refine Qe<|QX U U<|xe<|Qd<|QG U (λY=>?_) (λY=>?_)
  ·refine Qx ?_;have hs:c.rq.length<=k3:=by have ht:¬(k3:Int)<(c.rq.length:Int):=Y;omega
   rw[Ls hs]at ga;rw[ga]at hT;refine Qd<|Qe<|Qs U (hH.I hJ) U U<|QL (h1.ex.arr.I hJ) U<|Qb<|xe<|Qg<|QC (α:=Nat×O0×List DV×List Ys) [(2,4),(10,12),(55,73)] (λz=>[(4,z.2.1),(55,oF oG z.1)]) (λz w'=>z.1<=c.ex.length/\O3 [] I w'/\JI I.heap.size w' z.2.1 z.2.2.1/\z.2.2.1.map DV.it=(c.co.map (λq=>KA 1 q.it)++c.rq.map (λq=>KA 2 q.it))++z.2.2.2/\z.2.2.2.length=z.1/\RE=(KQ c.V.co ((c.ex.drop z.1).map XV.x)).map (z.2.2.2++·)) (λz=>c.ex.length - z.1) ol (0,v3,l3,[]) oA
    ⟨Ln _,hJ,hS,by rw[LS];exact hT,U,gp ▸ Qh0⟩ ?_
   rintro⟨k4,v4,l4,o4⟩ g w4 ⟨g2,hr,hU,gb,gt,hK⟩;simp only[]at g2 hU gb gt hK;have g3:=hr.size;have ki:l4.length<=4000:=by
    have e1:=OT oP gb;simp only[Oc,oM]at e1;omega
   refine Qe<|QX U U<|xe<|Qd<|QG U (λY=>?_) (λY=>?_)
   ·refine Qx ?_;have hs:c.ex.length<=k4:=by have ht:¬(k4:Int)<(c.ex.length:Int):=Y;omega
    rw[Lr hs]at hK;have g4:RE=some o4:=by rw[hK];simp[KQ]
    refine Qd<|Qe<|Qs U (hH.I hr) U U<|QL (h1.cs.arr.I hr) U<|Qb<|xe<|Qg<|QC (α:=Nat×O0×List DV×List Ys) [(2,4),(14,16),(77,95)] (λz=>[(4,z.2.1),(77,oF oG z.1)]) (λz w'=>z.1<=c.cs.length/\O3 [] I w'/\JI I.heap.size w' z.2.1 z.2.2.1/\z.2.2.1.map DV.it=(c.co.map (λq=>KA 1 q.it)++c.rq.map (λq=>KA 2 q.it)++o4)++z.2.2.2/\z.2.2.2.length=z.1/\RC=(Vf c.V.co ((c.cs.drop z.1).map KV.k)).map (z.2.2.2++·)) (λz=>c.cs.length - z.1) ol (0,v4,l4,[]) oA
     ⟨Ln _,hr,hU,by rw[LS];exact gb,U,gq ▸ Qh0⟩ ?_
    rintro⟨k5,v5,l5,o5⟩ g w5 ⟨g5,hM,hR5,gc,gu,hN⟩;simp only[]at g5 hR5 gc gu hN;have g6:=hM.size;have kj:l5.length<=4000:=by
     have e1:=OT oP gc;simp only[Oc,oM]at e1;omega
    refine Qe<|QX U U<|xe<|Qd<|QG U (λY=>?_) (λY=>?_)
    ·refine Qx ?_;have hs:c.cs.length<=k5:=by have ht:¬(k5:Int)<(c.cs.length:Int):=Y;omega
     rw[Lr hs]at hN;have g7:RC=some o5:=by rw[hN];simp[Vf]
     have hu:=gh (l:=l5.map DV.it) g4 g7 (by rw[gc,LB,LB];simp only[CL.V,List.map_map];rfl);refine Qd<|Qm<|Qa<|xf<|(Ju (hR5.dits (L:=[]) oa oe)).mono ?_;rintro r6 w6 ⟨rfl,J⟩;have gv:O3 [] w w6:=hO.D (hM.D J);refine Qc<|Qm<|ZA U U<|xe<|QZ U (λgg=>?_) (λgg=>?_)
     ·rw[OS gg]at hu;refine Qm<|x Qk<|Qc<|Ql ⟨[Zw,oF oG (Ko (l5.map DV.it))],oA,gv,Zw,by rw[hu];rfl,λ_=>U,λe=>?_⟩;rw[hu]at e;exact OU e gg
     rw[OR gg]at hu;refine Qh<|Qm<|x Qk<|Qc<|Ql ⟨[v5,oF oG 0],oA,gv,v5,by rw[hu];rfl,λe=>OU (by rw[hu]) e,λ_=>⟨l5,(Z2.I hR5 J).base oa,by rw[hu]⟩⟩
    have E:k5<c.cs.length:=by have ht:(k5:Int)<(c.cs.length:Int):=Y;omega
    have hj:c.cs.drop k5=c.cs[k5]'E::c.cs.drop (k5+1):=LE E;have hk:c.cs.take (k5+1)=c.cs.take k5++[c.cs[k5]'E]:=Ll E;have T:=Lm E;have V:=h1.I hM;refine Qh<|Qd<|Qg<|Qe<|O6 (g:=Zc) (i:=k5) Xb V.cs.arr U U E λgi hf=>?_;refine Zk (c.cs[k5]'E) λq hq=>?_;rw[hq]at hf hk T hj;have ha:=V.cs.each q T;have hv:=V.cs.nm q T;rw[hj,LG]at hN;refine x (Qv hf U U)<|Qa<|Qo (us:=[.string .empty,Zw,oF oG 0]) U λb5 w6 J hw hy=>Qa<|Qj (us:=Zc q) hy U U U U ⟨U,ha.one,U,Z⟩ λw7 hz hl=>xe ?_;have O:O3 [] w5 w7:=J.O hz hw;have gj:=O.size;refine Qe<|Qs U ((hH.I hM).I O) U U<|Q2 hl U U<|Qa<|xf<|(Qjo (V.co.I O) (ha.I O) hv (hk1 q T)).mono ?_;rintro r8 w8 ⟨h2,hm⟩;have hV:=O.D h2;refine Or.elim (Qk8 (UH (c.co.map (·.it)) q.ts)) (λhn=>?_) (λhn=>?_)
    ·have hW:=Qgv hN hn;rw[hn]at hm;have he:r8=.tuple #[.agg z9.toArray,oF oG 2]:=hm;subst he;refine Qb<|Q8 U U<|Q8 U U<|Qa<|Qo (us:=z9) U λgk w9 h3 h4 h6=>Qa<|Qj (us:=z9) h6 U U U U ⟨U,U,U,U,U,U,U,U,U,Z⟩ λho H hX=>Qc<|Qd<|Qm<|ZA U U<|xe<|QZ U (λhg=>?_) (λhg=>OU (show(2:Int)≠0 by decide) hg);refine Qm<|x Qk<|Qc<|Ql ⟨[Zw,oF oG 2],oA,hO.D ((hM.D hV).D (h3.O H h4)),Zw,?_,λ_=>U,λe=>?_⟩
     ·rw[hG (.inr hW)];rfl
     rw[hG (.inr hW)]at e;exact OU e og
    refine Exists.elim hn λn hn=>?_;have gl:=Qgu hN hn;rw[hn]at hm;have he:∃d:DV,r8=.tuple #[.agg (QE d).toArray,oF oG 0]/\d.it=⟨4,q.nm,Uf,[],n,q.bd⟩/\∀L:LN,(∀b∈L,b<w7.heap.size)->Jn L w8.heap d:=hm;refine Exists.elim he λG he=>?_;have gm:=he.1;have h7:=he.2.1;have hp:=he.2.2;subst gm;have gn:Jn [] w8.heap G:=hp [] oe;refine Qb<|Q8 U U<|Q8 U U<|Qa<|Qo (us:=z9) U λgk g8 h3 h4 h6=>Qa<|Qj (us:=QE G) h6 U U U U gn.ones λw9 H hX=>Qc ?_;have hY:O3 [] w8 w9:=h3.O H h4;have S:=hV.D hY;have hh:∀L:LN,(∀b∈L,b<w5.heap.size)->Jn L w9.heap G:=λL hL=>(hp L (λb hb=>ou (hL b hb))).I hY;refine Qd<|Qm<|ZA U U<|xe<|QZ U (λhg=>OU U hg) (λhg=>?_);refine Qh<|Qw<|Qb<|Q2 hX U U<|?_;have h8:JI I.heap.size w9 v5 l5:=Z2.I hR5 S;refine Qa<|QB (us:=[QE G]) U U og (show 1*9<=1000000 by decide) oA λh9 ho H go hA=>?_;have hB:At [] ho.heap ⟨h9,0,none⟩ (QE G):=by have:=hA.at (L:=[]) oe;simpa using this
    refine Qa<|X6 (m:=1) (news:=QE G) (Z2.I h8 H).own U U U hB (Vv (hh [] oe)) oa (ov S.size H.size) λv6 hi hC J hD=>?_;refine Qc ?_;have hE:JI I.heap.size hi v6 (l5++[G]):=hR5.app (S.D H) g6 (λL hL=>(hh L hL).I H) hC J hD;have hF:O3 [] I hi:=((hM.D S).D H).then J λb hb=>.inr (Qi hR5.own b hb).1;refine Qw<|QN U U<|Qb<|xe<|⟨(k5+1,v6,l5++[G],o5++[G.it]),by show c.cs.length - (k5+1)<c.cs.length - k5;omega,oA,E,hF,hE,by simp only[];rw[Lp,gc,LB];rfl,by simp[gu],?_⟩;simp only[];rw[h7];exact gl
   have E:k4<c.ex.length:=by have ht:(k4:Int)<(c.ex.length:Int):=Y;omega
   have hj:c.ex.drop k4=c.ex[k4]'E::c.ex.drop (k4+1):=LE E;have hk:c.ex.take (k4+1)=c.ex.take k4++[c.ex[k4]'E]:=Ll E;have T:=Lm E;have V:=h1.I hr;refine Qh<|Qd<|Qg<|Qe<|O6 (g:=Q6) (i:=k4) Xi V.ex.arr U U E λgi hf=>?_;refine Zk (c.ex[k4]'E) λq hq=>?_;rw[hq]at hf hk T hj;have ha:=V.ex.each q T;have hv:=V.ex.nm q T;rw[hj,LG]at hK;refine x (Qv hf U U)<|Qa<|Qo (us:=[.string .empty,Zw]) U λb5 w6 J hw hy=>Qa<|Qj (us:=Q6 q) hy U U U U ⟨U,ha.one,Z⟩ λw7 hz hl=>xe ?_;have O:O3 [] w4 w7:=J.O hz hw;have gj:=O.size;refine Qe<|Qs U ((hH.I hr).I O) U U<|Q2 hl U U<|Qa<|xf<|(Qi0 (V.co.I O) (ha.I O) hv (gw q T)).mono ?_;rintro r8 w8 ⟨h2,hm⟩;have hV:=O.D h2;refine Or.elim (Qk8 (UH (c.co.map (·.it)) q.ls)) (λhn=>?_) (λhn=>?_)
   ·have hW:=Qgt hK hn;rw[hn]at hm;have he:r8=.tuple #[.agg z9.toArray,oF oG 2]:=hm;subst he;refine Qb<|Q8 U U<|Q8 U U<|Qa<|Qo (us:=z9) U λgk w9 h3 h4 h6=>Qa<|Qj (us:=z9) h6 U U U U ⟨U,U,U,U,U,U,U,U,U,Z⟩ λho H hX=>Qc<|Qd<|Qm<|ZA U U<|xe<|QZ U (λhg=>?_) (λhg=>OU (show(2:Int)≠0 by decide) hg);refine Qm<|x Qk<|Qc<|Ql ⟨[Zw,oF oG 2],oA,hO.D ((hr.D hV).D (h3.O H h4)),Zw,?_,λ_=>U,λe=>?_⟩
    ·rw[hG (.inl hW)];rfl
    rw[hG (.inl hW)]at e;exact OU e og
   refine Exists.elim hn λn hn=>?_;have gl:=Qgs hK hn;rw[hn]at hm;have he:∃d:DV,r8=.tuple #[.agg (QE d).toArray,oF oG 0]/\d.it=⟨3,q.nm,Uf,n,[],0⟩/\∀L:LN,(∀b∈L,b<w7.heap.size)->Jn L w8.heap d:=hm;refine Exists.elim he λG he=>?_;have gm:=he.1;have h7:=he.2.1;have hp:=he.2.2;subst gm;have gn:Jn [] w8.heap G:=hp [] oe;refine Qb<|Q8 U U<|Q8 U U<|Qa<|Qo (us:=z9) U λgk g8 h3 h4 h6=>Qa<|Qj (us:=QE G) h6 U U U U gn.ones λw9 H hX=>Qc ?_;have hY:O3 [] w8 w9:=h3.O H h4;have S:=hV.D hY;have hh:∀L:LN,(∀b∈L,b<w4.heap.size)->Jn L w9.heap G:=λL hL=>(hp L (λb hb=>ou (hL b hb))).I hY;refine Qd<|Qm<|ZA U U<|xe<|QZ U (λhg=>OU U hg) (λhg=>?_);refine Qh<|Qw<|Qb<|Q2 hX U U<|?_;have h8:JI I.heap.size w9 v4 l4:=Z2.I hU S;refine Qa<|QB (us:=[QE G]) U U og (show 1*9<=1000000 by decide) oA λh9 ho H go hA=>?_;have hB:At [] ho.heap ⟨h9,0,none⟩ (QE G):=by have:=hA.at (L:=[]) oe;simpa using this
   refine Qa<|X6 (m:=1) (news:=QE G) (Z2.I h8 H).own U U U hB (Vv (hh [] oe)) oa (ov S.size H.size) λv6 hi hC J hD=>?_;refine Qc ?_;have hE:JI I.heap.size hi v6 (l4++[G]):=hU.app (S.D H) g3 (λL hL=>(hh L hL).I H) hC J hD;have hF:O3 [] I hi:=((hr.D S).D H).then J λb hb=>.inr (Qi hU.own b hb).1;refine Qw<|QN U U<|Qb<|xe<|⟨(k4+1,v6,l4++[G],o4++[G.it]),by show c.ex.length - (k4+1)<c.ex.length - k4;omega,oA,E,hF,hE,by simp only[];rw[Lp,gb,LB];rfl,by simp[gt],?_⟩;simp only[];rw[h7];exact gl
  have E:k3<c.rq.length:=by have ht:(k3:Int)<(c.rq.length:Int):=Y;omega
  have hj:c.rq.drop k3=c.rq[k3]'E::c.rq.drop (k3+1):=LE E;have hk:c.rq.take (k3+1)=c.rq.take k3++[c.rq[k3]'E]:=Ll E;have T:=Lm E;have V:=h1.I hJ;refine Qh<|Qd<|Qg<|Qe<|O6 (g:=QO) (i:=k3) Yj V.rq.arr U U E λgi hf=>?_;refine Zk (c.rq[k3]'E) λq hq=>?_;rw[hq]at hf hk T hj;have ha:=V.rq.each q T;have hv:=V.rq.nm q T;refine x (Qv hf U U)<|Qa<|Qo (us:=[.string .empty,Zw,oF oG 0,Zw,Zw]) U λb5 w6 J hw hy=>Qa<|Qj (us:=QO q) hy U U U U ⟨U,ha.al.one,U,ha.mr.one,ha.ed.one,Z⟩ λw7 hz hl=>xe ?_;have O:O3 [] w3 w7:=J.O hz hw;refine Qw<|Qb<|Qs U hl U U<|Q0 U<|x (Zl (us:=[q.p.va,oF oG q.p.a.st,q.p.vm,q.p.ve]) hl U U U)<|x (Zt [(0,[oF oG 2]),(1,[.string q.nm]),(2,[q.p.va,oF oG q.p.a.st,q.p.vm,q.p.ve])] ⟨U,U,U,U,U,U,Z⟩) <|
   Qa<|xf<|(Kd (q:=⟨2,q.nm,q.p,Zw,[],Zw,[],0⟩) (L:=[]) ⟨hv,ha.I O,zp.nil,zp.nil⟩).mono ?_
  rintro r8 w9 ⟨h2,G,rfl,h7,hp⟩;have S:=O.D h2;have gj:=O.size;have hh:∀L:LN,(∀b∈L,b<w3.heap.size)->Jn L w9.heap G:=λL hL=>hp L (λb hb=>ou (hL b hb));have h8:JI I.heap.size w9 v3 l3:=Z2.I hS S;refine Qa<|QB (us:=[QE G]) U U og (show 1*9<=1000000 by decide) oA λh9 ho H go hA=>?_;have hB:At [] ho.heap ⟨h9,0,none⟩ (QE G):=by have:=hA.at (L:=[]) oe;simpa using this
  refine Qa<|X6 (m:=1) (news:=QE G) (Z2.I h8 H).own U U U hB (Vv (hh [] oe)) oa (ov S.size H.size) λv6 hi hC J hD=>?_;refine Qc ?_;have hE:JI I.heap.size hi v6 (l3++[G]):=hS.app (S.D H) g0 (λL hL=>(hh L hL).I H) hC J hD;have hF:O3 [] I hi:=((hJ.D S).D H).then J λb hb=>.inr (Qi hS.own b hb).1;refine Qw<|QN U U<|Qb<|xe<|⟨(k3+1,v6,l3++[G],o3++[G.it]),by show c.rq.length - (k3+1)<c.rq.length - k3;omega,oA,E,hF,hE,by simp only[];rw[Lp,hT,LB];rfl,by simp[gs],?_⟩;simp only[];rw[hk,Lp,<-ga,h7];rfl
 have E:k2<c.co.length:=by have ht:(k2:Int)<(c.co.length:Int):=Y;omega
 have hj:c.co.drop k2=c.co[k2]'E::c.co.drop (k2+1):=LE E;have hk:c.co.take (k2+1)=c.co.take k2++[c.co[k2]'E]:=Ll E;have T:=Lm E;have V:=h1.I hI;refine Qh<|Qd<|Qg<|Qe<|O6 (g:=QO) (i:=k2) Yj V.co.arr U U E λgi hf=>?_;refine Zk (c.co[k2]'E) λq hq=>?_;rw[hq]at hf hk T hj;have ha:=V.co.each q T;have hv:=V.co.nm q T;refine x (Qv hf U U)<|Qa<|Qo (us:=[.string .empty,Zw,oF oG 0,Zw,Zw]) U λb5 w6 J hw hy=>Qa<|Qj (us:=QO q) hy U U U U ⟨U,ha.al.one,U,ha.mr.one,ha.ed.one,Z⟩ λw7 hz hl=>xe ?_;have O:O3 [] w2 w7:=J.O hz hw;refine Qw<|Qb<|Qs U hl U U<|Q0 U<|x (Zl (us:=[q.p.va,oF oG q.p.a.st,q.p.vm,q.p.ve]) hl U U U)<|x (Zt [(0,[oF oG 1]),(1,[.string q.nm]),(2,[q.p.va,oF oG q.p.a.st,q.p.vm,q.p.ve])] ⟨U,U,U,U,U,U,Z⟩) <|
  Qa<|xf<|(Kd (q:=⟨1,q.nm,q.p,Zw,[],Zw,[],0⟩) (L:=[]) ⟨hv,ha.I O,zp.nil,zp.nil⟩).mono ?_
 rintro r8 w9 ⟨h2,G,rfl,h7,hp⟩;have S:=O.D h2;have gj:=O.size;have hh:∀L:LN,(∀b∈L,b<w2.heap.size)->Jn L w9.heap G:=λL hL=>hp L (λb hb=>ou (hL b hb));have h8:JI I.heap.size w9 v2 l2:=Z2.I hP S;refine Qa<|QB (us:=[QE G]) U U og (show 1*9<=1000000 by decide) oA λh9 ho H go hA=>?_;have hB:At [] ho.heap ⟨h9,0,none⟩ (QE G):=by have:=hA.at (L:=[]) oe;simpa using this
 refine Qa<|X6 (m:=1) (news:=QE G) (Z2.I h8 H).own U U U hB (Vv (hh [] oe)) oa (ov S.size H.size) λv6 hi hC J hD=>?_;refine Qc ?_;have hE:JI I.heap.size hi v6 (l2++[G]):=hP.app (S.D H) gy (λL hL=>(hh L hL).I H) hC J hD;have hF:O3 [] I hi:=((hI.D S).D H).then J λb hb=>.inr (Qi hP.own b hb).1;refine Qw<|QN U U<|Qb<|xe<|⟨(k2+1,v6,l2++[G],o2++[G.it]),by show c.co.length - (k2+1)<c.co.length - k2;omega,oA,E,hF,hE,by simp only[];rw[Lp,hQ,LB];rfl,by simp[gr],?_⟩;simp only[];rw[hk,Lp,<-hZ,h7];rfl
structure CSz (c:ZG):Prop where
 c1:c.co.length<=1000
 c2:c.rq.length<=1000
 c3:c.ex.length<=1000
 c4:c.cs.length<=1000
 x:∀q∈c.ex,q.ls.length<=100000
 k:∀q∈c.cs,q.ts.length<=100000
theorem Qge {n:Int}(h:Y1 l)(E:∀x∈l,0<=x/\x<n)(G:n<=8):l.length<=8:=by
 have:=XR l 0 n h E;omega
theorem yp (h:Zm c=0):CSz c:=by
 have E:=QgA.1 h;have hd:=Vi E.cd;have hl:=Qgz E.cd;have I:(szs c.co).length=c.co.length:=Lh _;have J:=E.n8;refine⟨oa,ou E.n12,ou hd.xl,ou hd.kl,λq G=>?_,λq G=>?_⟩
 ·have:=Qge (hl.1 q G).1 (n:=((szs c.co).length:Int)) (λx hx=>by
   obtain⟨p,H,rfl⟩:=LD.1 hx;exact hd.x q G p H) oa
  rw[Lh]at this;omega
 have:=(hd.k q G).2;omega
theorem CSz.its {c:CL}(h:CSz c.V):c.co.length<=1000/\c.rq.length<=1000/\c.ex.length<=1000/\c.cs.length<=1000/\(∀q∈c.ex,q.ls.length<=100000)/\∀q∈c.cs,q.ts.length<=100000:=by
 have e1:c.V.co.length=c.co.length:=Lh _;have e2:c.V.rq.length=c.rq.length:=Lh _;have G:c.V.ex.length=c.ex.length:=Lh _;have H:c.V.cs.length=c.cs.length:=Lh _;exact⟨e1 ▸ h.c1,e2 ▸ h.c2,G ▸ h.c3,H ▸ h.c4,λq E=>h.x q.x (LK E),λq E=>h.k q.k (LK E)⟩
theorem Qdo {c:CL}(E:ZF L w.heap c)(G:CSz c.V):
  Q5 prog 22 [c.val] w λr w'=>O3 [] w w'/\∃v,r=.tuple #[v,oF oG (YK c.V).1]/\((YK c.V).1≠0->v=Zw)/\((YK c.V).1=0->∃l,JI w.heap.size w' v l/\l.map DV.it=(YK c.V).2):=
 let h:=G.its;Qka E h.1 h.2.1 h.2.2.1 h.2.2.2.1 h.2.2.2.2.1 h.2.2.2.2.2
theorem QdE {c:CL}(E:ZF L w.heap c)(G:CSz c.V):
  Q5 prog 23 [c.val] w λr w'=>O3 [] w w'/\Qd5 w.heap.size w'.heap r c.V :=
 let h:=G.its;Qov E h.1 h.2.1
abbrev z9s:LV:=[nS,nS,nS,nS,nS,nS,oF oG 0,nS,nS]
instance:Bw prog 94 z9s [(0,5),(5,1),(6,1),(7,1),(8,1)]:=⟨od,og⟩
abbrev Us:O0:=.pointer none
abbrev pS (b:Nat):O0:=.pointer (some ⟨b,0,none⟩)
theorem QdX {c:CL}(I:ZF L w.heap c)(hz:CSz c.V)(hy:Kb w 4096):
  Q5 prog 7 [c.val] w λr w'=>O3 [] w w'/\∃vp,r=.tuple #[vp,oF oG (K6 c.V)]/\(K6 c.V≠0->vp=Us)/\(K6 c.V=0->∃s:KI,vp=pS s.b/\s.sys=Qdf c.V/\(∀b∈s.own,w.heap.size<=b)/\VO (s.own++oT w.heap.size) w' s):=by
 have h:=I.up (L':=[]) oe;have H:K6 c.V=if(YK c.V).1≠0 then(YK c.V).1 else if Zm c.V≠0 then Zm c.V else X9 c.V [] 0:=rfl
 refine Zk (K6 c.V) λE hE=>?_;rw[hE]at H ⊢;refine Zs func7 ntmps7 results7 ?_;refine Qe<|Qa<|QS (us:=c.cells) U λb1 w1 hm h1 S=>x Qk<|Qc<|Qd<|Qe<|Q2 S U U<|Qa<|xf<|(Qdo (h.I hm) hz).mono ?_;rintro r2 w2 ⟨T,v2,rfl,_,_⟩;have hf:=hm.D T;have hJ:=T.size;refine Qb<|Q8 U U<|Q8 U U<|x Qk<|Qc<|Qm<|ZA U U<|xe<|QZ rfl (λY=>?_) (λY=>?_)
 ·rw[OS Y]at H;refine Qm<|x Qk<|Qc ?_;exact Ql ⟨[Us,oF oG (YK c.V).1],oA,hf,Us,by rw[H];rfl,λ_=>U,λI=>OU (H.symm.D I) Y⟩
 rw[OR Y]at H;refine Qh<|Qd<|Qe<|Q2 (S.I T) U U<|Qa<|xf<|(Y7 (h.I hf)).mono ?_;rintro r3 w3 ⟨rfl,ha⟩;have hg:=hf.D ha;have hK:=ha.size;refine Qc<|Qm<|ZA U U<|xe<|QZ rfl (λhc=>?_) (λhc=>?_)
 ·rw[OS hc]at H;refine Qm<|x Qk<|Qc ?_;exact Ql ⟨[Us,oF oG (Zm c.V)],oA,hg,Us,by rw[H];rfl,λ_=>U,λI=>OU (H.symm.D I) hc⟩
 rw[OR hc]at H;have hL:=S.lt;refine Qh<|Qe<|Q2 ((S.I T).I ha) U U<|Qa<|xf<|(QdE (h.I hg) hz).mono ?_;rintro _ w4 ⟨hh,c4,rfl,hn,ho⟩;have h2:=hg.D hh;have hM:=hh.size;refine Qa<|Qj (us:=c4.cells) (((S.I T).I ha).I hh) U U U U (ho [] oe).ones λw5 hi hp=>xe ?_;have hr:O3 [] w w5:=h2.O hi h1;have hN:=hi.size;have h3:∀b∈b1::oT w.heap.size,b<w3.heap.size:=λb G=>by
  rcases Li.1 G with rfl|G
  ·omega
  have:=Np.1 G;omega
 have hs:ZF (b1::oT w.heap.size) w5.heap c4:=(ho _ h3).st (hi.mono oe);have hbld:=Qcz (L':=oT w.heap.size) (vb:=Zw) (ps:=[]) (v:=0) hs ⟨Zv.nil _ _ _,oe⟩ (λb G=>ou (Np.1 G)) .nil oe (hy.I hr);rw[hn]at hbld;refine Qe<|Q2 hp U U<|Qa<|xf<|hbld.mono ?_;rintro r6 w6 ⟨he,vp,us,rfl,h4,h5,hO,h6⟩;have h7:=hr.D he;have hP:=he.size;refine Qb<|Q8 U U<|Q8 U U<|Q8 U U<|Qa<|Qo (us:=Yx) U λb8 w7 h8 h9 hA=>x Qk <|
  Qa<|Qj (us:=us) hA U U h4 U h5 λw8 hB ht=>Qc ?_
 have O:O3 [] w6 w8:=h8.O hB h9;have hu:=h7.D O;refine Qd<|Qm<|ZA U U<|xe<|QZ rfl (λhj=>?_) (λhj=>?_)
 ·refine Qm<|x Qk<|Qc ?_;exact Ql ⟨[Us,oF oG (X9 c.V [] 0)],oA,hu,Us,by rw[H];rfl,λ_=>U,λI=>OU (H.symm.D I) hj⟩
 have hk:X9 c.V [] 0=0:=Lo.1 hj;refine Exists.elim (h6 hk) λqs J=>Exists.elim J λq J=>?_;have hC:us=[q.v1,q.v2,q.v3]:=J.1;rw[hC]at ht;have hD:=J.2.2.2.2.2 [] oe;have hF:=hD.I O;refine Qh<|Qe<|Q2 (hp.I (he.D O)) U U<|Qb<|Qs U ht U U<|x (Yo hF.a2 U) <|
  x (Zt [(0,c4.cells),(1,[vp]),(2,[oF oG (q.k2.length:Int)])] ⟨U,U,xJ J.2.2.2.1,U,U,U,Z⟩) <|
  Qa<|QS (us:=Qaa ⟨0,⟨c4,vp,qs⟩,q.k2.length,Zw,[],Zw,[]⟩) U λV w9 hl hG hv=>x Qk<|Qc ?_
 have hQ:=O.size;have hR:=hv.lt;have hH:=J.2.2.2.2.1;have hw:∀b∈V::oT w.heap.size,b∈oT w.heap.size\/w8.heap.size<=b:=λb G=>by
  rcases Li.1 G with rfl|G
  ·exact .inr hG
  exact .inl G
 refine Ql ⟨[pS V,oF oG 0],oA,hu.D hl,pS V,by rw[H,hk];rfl,λI=>OU (H.D hk) I,λ_=>⟨⟨V,⟨c4,vp,qs⟩,q.k2.length,Zw,[],Zw,[]⟩,U,?_,λb G=>?_,?_⟩⟩
 ·unfold KI.sys Qdf;simp only[];rw[hn];have e1:qs.map (·.pt)=UP c.V [] 0:=J.2.1;have e2:q.rp=Xs c.V [] 0:=J.2.2.1;have e3:(Xs c.V [] 0).made=q.k2:=by rw[<-e2];rfl
  rw[e1,e3];rfl
 ·have hI:b∈[V]:=G;rw[Lb.1 hI];omega
 refine⟨⟨_,hv⟩,QJ _ _ _ _,QJ _ _ _ _,by simp[ob],by simp[ob],by simp[ob],λb G=>Lc.2 (.inl G),⟨?_,?_⟩,oe,oe⟩
 ·exact(((hs.I (he.D O)).up λb G=>(hw b G).imp (Lk _) id).I hl)
 exact(Go.Lg.Ja.up (Go.Lg.Ja.I hH O) hw).I hl
theorem Qbr {s:KI}(h:VO L w s):
  Q5 prog 31 [pS s.b] w λr w'=>r=oF oG s.made/\w'=w:=by
 obtain⟨T,E⟩:=h.blk;refine Zs func31 ntmps31 results31 ?_;refine Qe<|Qc<|Qd<|Qm<|x (XX underlying46 U U)<|xe<|ZO rfl ?_;refine Qh<|Qm<|Yb U<|Qs U E U U<|Qc ?_;exact Ql ⟨[_],La,U,U⟩
theorem Qhz {s:KI}(h:VO L w s)(S:CSz s.s.c.V):
  Q5 prog 26 [pS s.b] w λr w'=>O3 [] w w'/\∃cm:CL,r=.tuple #[.agg cm.cells.toArray,oF oG 0]/\cm.V=s.s.c.V/\∀L:LN,(∀b∈L,b<w.heap.size)->ZF L w'.heap cm:=by
 obtain⟨T,V⟩:=h.blk;refine Zs func26 ntmps26 results26 ?_;refine Qe<|Qa<|Qo (us:=ZY) U λb2 w1 G Y H=>Qc ?_;have ha:=H.lt;refine Qd<|Qm<|x (XX underlying46 U U)<|xe<|ZO rfl ?_;refine Qh<|Qm<|Yb U<|Q0 U<|x (Zl (us:=s.s.c.cells) (V.I G) U U U)<|Qa<|xf<|(QdE (h.st.c.I G) S).mono ?_;rintro _ w3 ⟨I,cm,rfl,hc,J⟩;refine Qa<|Qj (us:=cm.cells) (H.I I) U U U U (J [] oe).ones λw4 O he=>Qc<|Ql ⟨[.agg cm.cells.toArray,oF oG 0],⟨⟨_,rfl,Qn rfl (he.at (L:=[]) oe).cells⟩,rfl,Z⟩,(G.D I).O O Y,cm,rfl,hc,λN hN=>?_⟩;exact((J (b2::N) (λb E=>by
  rcases Li.1 E with rfl|E
  ·exact ha
  have:=hN b E;omega)).st (O.mono oe)).up λb E=>.inl (Lk _ E)
theorem Qbs {s:KI}(h:VO L w s)(hl:s.s.ps.length<=1000):
  Q5 prog 27 [pS s.b] w λr w'=>O3 [] w w'/\∃v es,r=.tuple #[v,oF oG 0]/\es.map EnV.en=s.s.ps.map (λq=>q.pt.en)/\Z2 ZR 10 119 qW w.heap.size w' v es:=by
 obtain⟨T,hB⟩:=h.blk;have hp:Pts [] w.heap s.s.vp s.s.ps:=h.st.p.up oe;refine Zs func27 ntmps27 results27 ?_;refine Qe<|x Qk<|Qc<|Qd<|Qm<|x (XX underlying46 U U)<|xe<|ZO rfl ?_;refine Qh<|Qe<|Qc<|Qd<|Qm<|Yb U<|Qs U hB U U<|QL hp.arr U<|Qb<|xe<|Qg<|QC (α:=Nat×O0×List EnV) [(4,4),(6,6),(14,24)] (λz=>[(4,z.2.1),(14,oF oG z.1)]) (λz w'=>z.1<=s.s.ps.length/\O3 [] w w'/\Z2 ZR 10 119 qW w.heap.size w' z.2.1 z.2.2/\z.2.2.map EnV.en=(s.s.ps.take z.1).map λq=>q.pt.en) (λz=>s.s.ps.length - z.1) ol (0,Zw,[]) oA ⟨Ln _,O3.Z _ _,Z2.nil,U⟩ ?_;rintro⟨k,vo,l⟩ g V ⟨hk,J,hR,G⟩;simp only[]at hk hR G;have h4:l.length=k:=by have:=OT oP G;rw[Lh,Lh,Ly]at this;omega
 refine Qe<|QX U U<|xe<|Qd<|QG U (λY=>?_) (λY=>?_)
 ·refine Qx ?_;have hj:s.s.ps.length<=k:=by have O:¬(k:Int)<(s.s.ps.length:Int):=Y;omega
  rw[Ls hj]at G;refine Qm<|x Qk<|Qc ?_;exact Ql ⟨[vo,oF oG 0],oA,J,vo,l,U,G,hR⟩
 have E:k<s.s.ps.length:=by have O:(k:Int)<(s.s.ps.length:Int):=Y;omega
 have hc:s.s.ps.take (k+1)=s.s.ps.take k++[s.s.ps[k]'E]:=Ll E;have he:=Lm E;have hf:Pts [] V.heap s.s.vp s.s.ps:=Go.Lg.Ja.I hp J;refine Qh<|Qd<|Qg<|Qe<|O6 (g:=Zn) (i:=k) Kr hf.arr U U E λh5 O=>?_;refine Zk (s.s.ps[k]'E) λq hq=>?_;rw[hq]at O hc he;have hg:Vz [] V.heap q:=hf.each q he;refine x (Qv O U U)<|Qa<|Qo (us:=z15) U λb6 w2 hn ho hr=>Qa<|Qj (us:=Zn q) hr U U U U hg.ones λw3 hs ht=>xe ?_;have H:O3 [] V w3:=hn.O hs ho;have h6:=H.size;have h7:=J.size;refine Qw<|Qb<|Q0 U<|x (Zl (us:=ZR q.e) ht U U U)<|Qa<|xf<|(Qou (hg.e.I H)).mono ?_;rintro r4 w4 ⟨ha,I,rfl,hu,hh⟩;have h8:=ha.size;have hv:=(hR.I H).I ha;have hw:=Zb (hR.I H).own;refine Qa<|QB (us:=[ZR I]) U U og (show 1*10<=1000000 by decide) oA λhy w5 S h9 hz=>?_;have hA:=S.size;have h0:At [] w5.heap ⟨hy,0,none⟩ (ZR I):=by have:=hz.at (L:=[]) oe;simpa using this
 have hR5:=hv.I S;refine Qa<|X6 (m:=1) (news:=ZR I) hR5.own U U U h0 (hh [] oe).ones.all oa oa λv6 w6 h1 hi h2=>?_;refine Qc ?_;have h3:Z2 ZR 10 119 qW w.heap.size w6 v6 (l++[I]):=hR5.app (λL hL=>(hh L (λb hb=>by
  rcases hL b hb with h|h
  ·omega
  exact hw b h)).I S) h1 hi h2
 refine Qw<|QN U U<|Qb<|xe<|⟨(k+1,v6,l++[I]),by show s.s.ps.length - (k+1)<s.s.ps.length - k;omega,oA,E,((((J.D H).D ha).D S).then hi λb hb=>.inr (Qi hR.own b hb).1),h3,?_⟩;simp only[];rw[hc,Lp,Lp,G,LG,LG,hu];rfl
theorem Qbq {s:KI}(h:VO L w s)(hl:s.rs.length<=1000):
  Q5 prog 28 [pS s.b] w λr w'=>O3 [] w w'/\∃es,es.map UQ.rp=s.rs.map UQ.rp/\Z2 Zr 3 88 KO w.heap.size w' r es:=by
 obtain⟨T,hB⟩:=h.blk;have ha:Zv [] w.heap s.vr s.rs.length 3 (s.rs.flatMap Zr):=QH h.rr oa oe;refine Zs func28 ntmps28 results28 ?_;refine Qe<|Qc<|Qd<|Qm<|x (XX underlying46 U U)<|xe<|ZO rfl ?_;refine Qh<|Qe<|Qc<|Qd<|Qm<|Yb U<|Qs U hB U U<|QL ha U<|Qb<|xe<|Qg<|QC (α:=Nat×O0×List UQ) [(3,3),(5,5),(13,22)] (λz=>[(3,z.2.1),(13,oF oG z.1)]) (λz w'=>z.1<=s.rs.length/\O3 [] w w'/\Z2 Zr 3 88 KO w.heap.size w' z.2.1 z.2.2/\z.2.2.map UQ.rp=(s.rs.take z.1).map UQ.rp) (λz=>s.rs.length - z.1) ol (0,Zw,[]) oA ⟨Ln _,O3.Z _ _,Z2.nil,U⟩ ?_;rintro⟨k,vo,l⟩ g w1 ⟨hk,G,hR,H⟩;simp only[]at hk hR H;have h2:l.length=k:=by have:=OT oP H;rw[Lh,Lh,Ly]at this;omega
 refine Qe<|QX U U<|xe<|Qd<|QG U (λV=>?_) (λV=>?_)
 ·refine Qx ?_;have hi:s.rs.length<=k:=by have O:¬(k:Int)<(s.rs.length:Int):=V;omega
  rw[Ls hi]at H;refine Qm<|Qc ?_;exact Ql ⟨[vo],La,G,l,H,hR⟩
 have E:k<s.rs.length:=by have O:(k:Int)<(s.rs.length:Int):=V;omega
 have hc:s.rs.take (k+1)=s.rs.take k++[s.rs[k]'E]:=Ll E;have he:=Lm E;refine Qh<|Qd<|Qg<|Qe<|O6 (g:=Zr) (i:=k) Qaj (ha.I G) U U E λh3 O=>?_;refine Zk (s.rs[k]'E) λq hq=>?_;rw[hq]at O hc he;have hf:KO [] w1.heap q:=((h.rA q he).up oe).I G;refine x (Qv O U U)<|Qa<|Qo (us:=Yx) U λb6 w2 hj hn ho=>Qa<|Qj (us:=Zr q) ho U U U U hf.ones λw3 hp hr=>xe ?_;have I:O3 [] w1 w3:=hj.O hp hn;have h4:=I.size;have h5:=G.size;refine Qw<|Qb<|Q2 hr U U<|Qa<|xf<|(Qjn (hf.I I)).mono ?_;rintro r4 w4 ⟨Y,J,rfl,hs,hg⟩;have h6:=Y.size;have ht:=(hR.I I).I Y;have hu:=Zb (hR.I I).own;refine Qa<|QB (us:=[Zr J]) U U og (show 1*3<=1000000 by decide) oA λhv w5 S h7 hw=>?_;have h8:=S.size;have hy:At [] w5.heap ⟨hv,0,none⟩ (Zr J):=by have:=hw.at (L:=[]) oe;simpa using this
 have hR5:=ht.I S;refine Qa<|X6 (m:=1) (news:=Zr J) hR5.own U U U hy (hg [] oe).ones.all oa oa λv6 w6 hz hh h0=>?_;refine Qc ?_;have h1:Z2 Zr 3 88 KO w.heap.size w6 v6 (l++[J]):=hR5.app (λL hL=>(hg L (λb hb=>by
  rcases hL b hb with h|h
  ·omega
  exact hu b h)).I S) hz hh h0
 refine Qw<|QN U U<|Qb<|xe<|⟨(k+1,v6,l++[J]),by show s.rs.length - (k+1)<s.rs.length - k;omega,oA,E,((((G.D I).D Y).D S).then hh λb hb=>.inr (Qi hR.own b hb).1),h1,?_⟩;simp only[];rw[hc,Lp,Lp,H,LG,LG,hs]
theorem QeS {α:Type}(g:α->LV)(sz:Nat)(E:∀x,(g x).length=sz):∀(l:List α) (k:Nat),(l.flatMap g).drop (k*sz)=(l.drop k).flatMap g
 | [],k=>oe
 | a::l,0=>oe
 | a::l,k+1=>by
  rw[show(k+1)*sz=(g a).length+k*sz by rw[E a,Nat.succ_mul];omega,LM,List.drop_append,Lr oa,L8,MF,QeS g sz E l k];rfl
theorem Qcb {base:Nat}{v:O0}{l:List DV}(h:JI base w v l):∀q∈l,∀u∈QE q,u.oneCell'=true:=λq E=>Vv (h.each q E [] oe)
theorem JI.turn {base:Nat}{v r:O0}{l l':List DV}(h:JI base w v l)(G:O3 (ob v) w w')(H:∀b∈ob r,b∈ob v)(hl:∀q∈l',q∈l)(I:w'.ownsRow base 138 9 r l'.length (l'.flatMap QE)):JI base w' r l' :=
 ⟨I,λq J L O=>Mm.mono (Mm.st (L:=ob v++L) (h.each q (hl q J) _ λb E=>by
  rcases Lc.1 E with E|E
  ·exact .inr E
  exact(O b E).imp id (H b)) (G.mono λb E=>Lc.2 (.inl E))) λb E=>Lc.2 (.inr E)⟩
theorem Ql2 {base:Nat}{v:O0}{l:List DV}(hR:JI base w v l){k:Nat}(hk:k<l.length)(hl:l.length<=1000):
  Q5 prog 190 [v,oF oG (k:Int),oF oG ((k+1:Nat):Int)] w λr w'=>O3 (ob v) w w'/\JI base w' r (l.take k++l.drop (k+1)):=by
 have h:=hR.own;have he:=Qcb hR;have O:∀(r:O0) (w':OZ),O3 (ob v) w w'/\ob r=ob v/\w'.ownsRow base 138 9 r (l.length - 1) ((l.take k++l.drop (k+1)).flatMap QE)->O3 (ob v) w w'/\JI base w' r (l.take k++l.drop (k+1)):=λr w' ⟨G,I,h3⟩ =>
  ⟨G,JI.turn hR G (λb hb=>I ▸ hb) (λq J=>(Lc.1 J).elim (λh=>LR h) (λh=>L6 h)) (by
   have e:(l.take k++l.drop (k+1)).length=l.length - 1:=by rw[Lj,Ly,LW];omega
   rw[e];exact h3)⟩
 refine Q5.mono ?_ O;clear O hR;obtain⟨g,cap,rfl⟩:=Js h oa;obtain⟨ht,cur,hB,hf,hg⟩:=Kt h;refine Zs func190 ntmps190 results190 ?_;refine Qe<|Qc<|Qm<|Qb<|Qb<|Qb<|x (Uo U)<|x (QfR (lo:=k) (hi:=k+1) (m:=l.length) U U U U oa oa oa)<|xe<|Qd<|Qm<|Qb<|x (Q9 U U)<|xe<|QZ rfl (λS=>OU (show(k:Int)=((k+1:Nat):Int) from S) oa) (λS=>?_);refine Qh<|Qm<|x (Uo U)<|Qc ?_;have H:((l.drop (k+1)).flatMap QE).length=(l.length - (k+1))*9:=by rw[xD ZW,LW]
 have hh:At [] w.heap ⟨g,if cap=k+1 then 0 else(k+1)*9,none⟩ ((l.drop (k+1)).flatMap QE):=by
  by_cases hc:cap=k+1
  ·have:(l.drop (k+1)).flatMap QE=[]:=Lq (by rw[H];omega);rw[this];exact⟨λu E=>(by cases E),λu E=>(by cases E),λj u E=>(by cases E)⟩
  rw[OR hc];have G:=Qfs (QH (L:=[]) h oa oe) rfl;refine⟨λu _=>oe,λu E=>G.lt u (by rw[<-QeS QE 9 ZW]at E;exact L6 E),λj u E=>?_⟩;rw[<-QeS QE 9 ZW,MA]at E;have I:=G.cell _ u E;have e:(⟨g,(k+1)*9,none⟩:Addr).add j=(⟨g,0,none⟩:Addr).add ((k+1)*9+j):=by rw[Addr.add_lit,Addr.add_lit,LX]
  rw[e];exact I
 have hj:∀u∈(l.drop (k+1)).flatMap QE,u.oneCell'=true:=λu E=>by
  obtain⟨q,J,E⟩:=Mi.1 E;exact he q (L6 J) u E
 refine Qd<|QR (λ_=>True) [oD 0,oD 1,oD 2,oD 3,oD 4,oD 5,oE 6,oD 7] mixed ol od Z ?_;have hd:O3 [] w { w with drawn:=w.drawn+1 }:=O3.C _ _
 refine p Qy<|p Qy<|p (λ_=>Jq (hi:=k) U U oa)<|p Qy<|p Qy<|p (λ_=>U1 (lo:=k+1) U U oa) <|
  pk<|Qny (g:=g) (n:=k) (cap:=cap) (cur:=cur) (m:=l.length - (k+1)) (L:=[]) hB U hf U H (hh.I hd) hj oa λw2 hm T=>⟨Z,p ZH<|pe ?_⟩
 have hn:O3 [g] w w2:=hd.any.Q hm;have em:k+(l.length - (k+1))=l.length - 1:=oa
 have V:(cur.take (k*9)++(l.drop (k+1)).flatMap QE).length=(l.length - 1)*9:=by
  rw[Lj,Ly,H];omega
 have ho:(cur.take (k*9)++(l.drop (k+1)).flatMap QE++cur.drop (k*9+((l.drop (k+1)).flatMap QE).length)).length=cap*9:=by
  rw[Lj,V,LW,H];omega
 have Y:(cur.take (k*9)++(l.drop (k+1)).flatMap QE++cur.drop (k*9+((l.drop (k+1)).flatMap QE).length)).take ((l.length - 1)*9)=(l.take k++l.drop (k+1)).flatMap QE:=by
  rw[List.take_left' V,LA,<-jC QE 9 ZW l k,<-hg,M1,Mf oa]
 refine Zk (cur.take (k*9)++(l.drop (k+1)).flatMap QE++cur.drop (k*9+((l.drop (k+1)).flatMap QE).length)) λhv hp=>?_;rw[hp]at T ho Y;refine Qm<|Qb<|x (Uo U)<|Qb<|x (QfQ (lo:=k+(l.length - (k+1))) (hi:=l.length) U U U oa oa oa) <|
  Qa<|Qes (m:=l.length - (k+(l.length - (k+1)))) (o:=(k+(l.length - (k+1)))*9) (λu E=>by simp[Value.cells]at E;rcases E with rfl|rfl|rfl|rfl|rfl|rfl|rfl|rfl|rfl <;> rfl) T ⟨_,rfl,λ_=>⟨U,oa⟩⟩ λw3 hw hr hs hy ha=>xe ?_
 refine Qm<|Qc<|Ql ⟨[.slice (some ⟨g,0,none⟩) (k+(l.length - (k+1))) cap],La,hn.Q hr,U,?_⟩;rw[em]at ha ⊢;exact Up h oa hs oa (ha.D Y) (by rw[xD ZW,Lj,Ly,LW];omega)
section
variable {pS:String}
theorem ze {e bys:Nat}[h:Sl P t e sz bys z]{x:O1}{dLen dCap:Nat}{cur:LV}{a:Addr}{sLen sCap:Nat}(G:Q7 w.heap g T cur)(hx:ev f x=.slice (some ⟨g,o,none⟩) dLen dCap)(J:ev f y=.slice (some a) sLen sCap)
  (O:cs.length=Nat.min sLen dLen*sz)  (S:At L w.heap a cs) (V:o+cs.length<=cur.length) (Y:∀u∈cs,u.oneCell'=true)
  (hK:∀w',O3 [g] w w'->Q7 w'.heap g T (cur.take o++cs++cur.drop (o+cs.length))->K (QY f d (goInt (Nat.min sLen dLen))) w'):XO P ⟨d,.call ⟨.builtin .copy,#[x,y],#[t,E]⟩,ty,pS,af,gd⟩ f w K:=by
 obtain⟨i,hi,hz,ha,_⟩:=Sl.info h;have hl:=run_loadCells_list (P:=P) w a cs S.cells;have H:=run_storeCells_at P g o T cs 0 cur.toArray w G (oz V) Y;have I:(Builtin.copy_ #[t,E] ty #[.slice (some ⟨g,o,none⟩) dLen dCap,.slice (some a) sLen sCap]).run P w=.ok (goInt (Nat.min sLen dLen)) (w.setRow g (cur.take o++cs++cur.drop (o+cs.length)).toArray):=by
  simp[Builtin.copy_,run_underlying h.u,Builtin.lenOf,Builtin.firstCells,sizeOf,typeInfo,hi,ha,<-O,hl]at H ⊢;simp[H]
 have hb:(execOp (ev f) ⟨d,.call ⟨.builtin .copy,#[x,y],#[t,E]⟩,ty,pS,af,gd⟩).run P w=.ok (.value (goInt (Nat.min sLen dLen))) (w.setRow g (cur.take o++cs++cur.drop (o+cs.length)).toArray):=by
  simp[execOp,resolve,invoke,builtin,hx,J]at I ⊢;simp[I]
 exact xv hb (hK _ (O3.setRow _ _ _) (XM G))
end
section
variable {pS:String}
theorem Qnw {ti e bys:Nat}[h:Sl P t e sz bys z](T:P.underlying ti=some (.int .i64)){s:O1}{E:Addr}{L0:LN}(V:At L0 w.heap E cs)(Y:ev f s=.slice (some E) n cap)(G:cs.length=n*sz)
  {m:Nat} (hy:ev f y=oF oG m) (hm:0<m) (ha:cap<n+m) (hb:n+m<=1048576)
  (hK:∀b c' w' zs,O3 [] w w'->w.heap.size<=b->n+m<=c'->zs.length=m*sz->w'.ownsRow w.heap.size e sz (.slice (some ⟨b,0,none⟩) (n+m) c') (n+m) (cs++zs)->K (QY f d (.slice (some ⟨b,0,none⟩) (n+m) c')) w') (hc:bys<=131072:=by decide):
  XO P ⟨d,.call ⟨.builtin .append,#[s,y],#[t,ti]⟩,ty,pS,af,gd⟩ f w K:=by
 obtain⟨i,hi,hz,I,J⟩:=Sl.info h;have he:=h.pos;have O:(n+m)*bys<=140737488355328:=LJ (Nat.mul_le_mul hb hc) oa;have hf:n+m<=maxLen:=by simp only[maxLen];omega
 have hn:¬(n+m<=cap):=oa
 have hg:¬(9223372036854775807<((n:Int)+(m:Int))):=oa
 have hu:=growslice_fits (bytes:=i.bytes) ha (by rw[J];exact O);have hh:¬(281474976710656<Builtin.nextslicecap (n+m) cap*i.bytes):=oa
 have hj:=run_firstCells_some (P:=P) w.drew i.size n E n cap cs (by rw[I];exact G) (oz V.cells);have hl:IntKind.i64.wrap (m:Int)=(m:Int):=by rw[IntKind.wrap_i64];omega
 have ho:¬((m:Int)<0):=oa
 have hv:m*i.bytes<=140737488355328:=by rw[J];exact LJ (LY _ (Nat.le_add_left m n)) O
 have hp:¬(281474976710656<(m:Int)*(i.bytes:Int)):=by
  have:((m*i.bytes:Nat):Int)<=140737488355328:=oa
  rw[Int.natCast_mul]at this;omega
 have hr:(Builtin.append_ #[t,ti] ty #[.slice (some E) n cap,oF oG m]).run P w=.ok (.slice (some ⟨w.heap.size,0,none⟩) (n+m) (grownCap w (n+m) cap e)) (w.drew.alloc (Obj.cells (cs.toArray++(Builtin.zeroCells z.cells m).toList.toArray++Builtin.zeroCells z.cells (grownCap w (n+m) cap e - (n+m))) e)):=by
  simp[Builtin.append_,run_underlying h.u,run_underlying T,sizeOf,typeInfo,zeroValue,hi,hz,hn,hg,hh,Question.forced,hj,newRow,grownCap,asInt,asIntOf,hl,ho,hp];intro h0;have h1:0<m*i.size:=Nat.mul_pos hm (by rw[I];exact he);omega
 have hq:(execOp (ev f) ⟨d,.call ⟨.builtin .append,#[s,y],#[t,ti]⟩,ty,pS,af,gd⟩).run P w=.ok (.value (.slice (some ⟨w.heap.size,0,none⟩) (n+m) (grownCap w (n+m) cap e))) (w.drew.alloc (Obj.cells (cs.toArray++(Builtin.zeroCells z.cells m).toList.toArray++Builtin.zeroCells z.cells (grownCap w (n+m) cap e - (n+m))) e)):=by
  simp[execOp,resolve,invoke,builtin,Y,hy,hr]
 have hge:=grownCap_ge w (n+m) cap e;have ht:grownCap w (n+m) cap e<=maxLen:=grownCap_le_maxLen w (n+m) cap e hf;have H:(Builtin.zeroCells z.cells m).toList.length=m*sz:=by simp[Builtin.zeroCells,h.zs]
 have S:(cs++(Builtin.zeroCells z.cells m).toList).length=(n+m)*sz:=by rw[Lj,G,H,Ms]
 refine xv hq (hK _ _ _ _ ⟨U,U,U,by rw[Vy];exact OL _,λk hk _=>qt w.drew _ k hk⟩ (Lx _) hge H ⟨S,.inr ⟨w.heap.size,_,_,U,Lx _,J4 w.drew _,hge,ht,?_,?_⟩⟩)
 ·simp only[Array.size_append,Od,size_zeroCells,h.zs,G,H,<-Oo];congr 1;omega
 simp only[Array.toList_append,o0];rw[<-LB,<-S];exact List.take_left
theorem Qpf {x:O1}{a:Option Addr}{c e:Nat}(E:P.underlying t=some (.slice e))(hx:ev f x=.slice a n c):
  (execOp (ev f) ⟨d,.call ⟨.builtin .cap,#[x],#[t]⟩,ty,pS,af,gd⟩).run P w=.ok (.value (oF oG c)) w:=by
 simp[execOp,resolve,invoke,builtin,Builtin.cap_,hx,run_underlying E,goInt]
theorem Qpe {x:O1}{tS tR e:Nat}{ts:Array Nat}(J:P.funcs[g]?=some fn)(O:(fn.name == "runtime.NumGoroutine")=false) (S:fn.body.isNone=true) (T:Extern.findNext fn=none)
  (V:Extern.find fn=some (Extern.SlicesOverlaps.overlaps #[tS,tS] #[tR])) (Y:P.underlying tS=some (.slice e)) {size:Nat} (hz:∀w,(sizeOf e).run P w=.ok size w) {a b:Addr} {la ca lb cb TA TB:Nat} {vs:LV} (hx:ev f x=.slice (some a) la ca) (G:ev f y=.slice (some b) lb cb)
  (H:Q7 w.heap a.block TA us) (hB:Q7 w.heap b.block TB vs) (ha:a.block≠b.block) (hg:vs.length≠0) (hh:a=⟨a.block,0,none⟩):
  (execOp (ev f) ⟨d,.call ⟨.value (.func g),#[x,y],ts⟩,ty,pS,af,gd⟩).run P w=.ok (.value (.bool false)) w:=by
 have hi:w.shape? a.block=some (TA,us.length):=by
  have E:w.heap[a.block]?=some (.cells us.toArray TA (0,0)):=H;simp[World.shape?,E]
 have hj:w.shape? b.block=some (TB,vs.length):=by
  have E:w.heap[b.block]?=some (.cells vs.toArray TB (0,0)):=hB;simp[World.shape?,E]
 have hfr:∀o,w.frozen? { block:=a.block,off:=o }=false:=λo=>by
  have E:w.heap[a.block]?=some (.cells us.toArray TA (0,0)):=H;simp[World.frozen?,E]
 have hr:=Lib.run_overlaps_apart (P:=P) w tS tR e Y size hz a b la ca lb cb ha TA TB us.length vs.length hi hj hg (by rw[hh];exact hfr 0) (hfr _);have I:=run_callFunc_extern J O S T V #[ev f x,ev f y] w;rw[hx,G,hr]at I;have h0:ev f (.func g)=.func (.func g) #[] #[]:=rfl;simp[execOp,resolve,h0,Deferred.ofValue,invoke,hx,G,I,Result.andThen]
end
theorem XN {pS:String}{e bys:Nat}[Sl P t e sz bys z]{x E:O1}{k:IntKind}(hx:ev f x=.slice (some ⟨b,0,none⟩) n cap)(hl:ev f E=.int k lo)(G:lo<=n)(I:lo<cap):
  (execOp (ev f) ⟨d,.slice t x (some E) none none,ty,pS,af,gd⟩).run P w=.ok (.value (.slice (some ⟨b,lo*sz,none⟩) (n - lo) (cap - lo))) w:=by
 have H:=U1 (P:=P) (w:=w) (d:=d) (ty:=ty) (pS:=pS) (af:=af) (gd:=gd) (t:=t) hx hl G
 rwa [OR oa]at H
theorem JI.turn2 {base:Nat}{v r:O0}{l l':List DV}(h:JI base w v l)(J:O3 (ob v) w w')(O:∀b∈ob r,b∈ob v\/w.heap.size<=b)(S:∀L:LN,(∀b∈L,b<base\/b∈ob v)->Jn L w.heap q)(hl:∀d∈l',d∈l\/d=q)
  (T:w'.ownsRow base 138 9 r l'.length (l'.flatMap QE)):JI base w' r l':=by
 refine⟨T,λd hd L H=>?_⟩;have V:∀L:LN,(∀b∈L,b<base\/b∈ob v)->Jn L w.heap d:=λL H=>(hl d hd).elim (λG=>h.each d G L H) (λG=>G ▸ S L H);have G:Jn (ob v++L) w.heap d:=Mm.up (V (ob v++L.filter λb=>decide (b<base)) λb E=>(Lc.1 E).elim .inr λE=>.inl (OW (L9.1 E).2)) λb E=>by
  rcases Lc.1 E with E|E
  ·exact .inl (Lc.2 (.inl E))
  rcases H b E with I|I
  ·exact .inl (Lc.2 (.inr (L9.2 ⟨E,OV I⟩)))
  exact(O b I).imp (λY=>Lc.2 (.inl Y)) id
 exact Mm.mono (Mm.st G (J.mono λb E=>Lc.2 (.inl E))) λb E=>Lc.2 (.inr E)
theorem Vq {qs:LV}{s:Nat}(E:cs.length=n*s)(G:qs.length=s)(hi:i<=n):(cs.take (i*s)++qs++cs.drop (i*s)).length=(n+1)*s:=by
 have H:i*s<=n*s:=LY _ hi;simp only[oM,Oa,o6,E,G,Oo];omega
theorem QlE {base:Nat}{v:O0}{l:List DV}(hR:JI base w v l)(hr:base<=w.heap.size)(hl:l.length<=1000)(hi:i<=l.length)(hq:∀L:LN,(∀b∈L,b<base\/b∈ob v)->Jn L w.heap q){bq:Nat}(O:Q7 w.heap bq T (QE q))(hJ:bq∉ob v):
  Q5 prog 192 [v,oF oG (i:Int),.slice (some ⟨bq,0,none⟩) 1 1] w λr w'=>O3 (ob v) w w'/\JI base w' r (l.take i++q::l.drop i)/\∀b∈ob r,b∈ob v\/w.heap.size<=b:=by
 have h:=hR.own;have V:=(hq [] oe).ones.all;have hs:=Qcb hR;have H:(l.flatMap QE).length=l.length*9:=xD ZW l;have ht:(l.take i++q::l.drop i).length=l.length+1:=by simp only[oM,Oa,oV,o6];omega
 have hv:(l.take i++q::l.drop i).flatMap QE=(l.flatMap QE).take (i*9)++QE q++(l.flatMap QE).drop (i*9):=by
  rw[jC QE 9 ZW,QeS QE 9 ZW,LA,LM,LB]
 have hw:∀d∈l.take i++q::l.drop i,d∈l\/d=q:=λd hd=>by
  rcases Lc.1 hd with hd|hd
  ·exact .inl (LR hd)
  rcases Li.1 hd with rfl|hd
  ·exact .inr U
  exact .inl (L6 hd)
 have hy:∀(r:O0) (w':OZ),O3 (ob v) w w'/\(∀b∈ob r,b∈ob v\/w.heap.size<=b)/\w'.ownsRow base 138 9 r (l.length+1) ((l.flatMap QE).take (i*9)++QE q++(l.flatMap QE).drop (i*9))->O3 (ob v) w w'/\JI base w' r (l.take i++q::l.drop i)/\∀b∈ob r,b∈ob v\/w.heap.size<=b:=λr w' ⟨h1,h2,h3⟩ =>
  ⟨h1,hR.turn2 h1 h2 hq hw (by rw[ht,hv];exact h3),h2⟩
 refine Q5.mono ?_ hy;have Y:∀u∈l.flatMap QE,u.oneCell'=true:=λu E=>by
  obtain⟨d,hd,E⟩:=Mi.1 E;exact hs d hd u E
 clear hy hR hw ht hv hs;refine Zk (l.flatMap QE) λcs ha=>?_;refine Zk l.length λn hn=>?_;rw[ha,hn]at h;rw[ha,hn]at H;rw[ha]at Y ⊢;rw[hn]at hl hi ⊢;have hA:=QH (L:=[]) h oa oe;refine Zs func192 ntmps192 results192 ?_;refine Qe<|Qc<|Qm<|Qb<|Qqh (lo:=i) hA U U hi λgm _=>xe ?_;refine Qm<|x (Uo U)<|Qc<|Qd<|Qm<|x (Q9 U U)<|xe<|QZ rfl (λhK=>OU (show((1:Nat):Int)=0 from hK) og) (λ_=>?_);refine Qh<|Qm<|QL hA U<|Qc<|Qd<|Qm<|Qb<|x (Q9 U U)<|xe<|QZ rfl (λhc=>?_) (λhc=>?_)
 ·have hL:i=n:=by have hM:(i:Int)=(n:Int):=hc;omega
  refine Qm<|Qb<|Qa<|X6 (m:=1) (news:=QE q) h U U U (O.at (L:=[]) oe) V oa hr λv1 w1 hN hO hP=>Qc<|Ql ⟨[v1],⟨rfl,Z⟩,hO,hP,?_⟩;rw[hL,<-H,MZ,List.drop_length,LS];exact hN
 have gn:i<n:=by have hM:¬(i:Int)=(n:Int):=hc;omega
 obtain⟨g,cap,ev⟩:=Js h oa;have he:ob v=[g]:=by rw[ev];rfl
 have hf:=h;rw[ev]at hf;obtain⟨go,cur,J,hg,hz⟩:=Kt hf;have h0:bq≠g:=λe=>hJ (by rw[he,e];exact Lb.2 U);have h4:At [] w.heap ⟨g,0,none⟩ cs:=Qfs hA ev;have gp:i*9<=n*9:=LY _ hi;have h5:∀w':OZ,Q7 w'.heap g 138 cur->At [] w'.heap ⟨g,i*9,none⟩ (cs.drop (i*9)):=λw' h6=>by
  have hQ:=h6.lt;refine⟨λu _=>oe,λu _=>hQ,λj u E=>?_⟩;rw[MA,<-hz,LT]at E;split at E
  ·have e:(⟨g,i*9,none⟩:Addr).add j=⟨g,i*9+j,none⟩:=Ka g (i*9) j;rw[e,h6.cell];exact E
  cases E
 refine Qh<|Qd<|Qm<|Qb<|QN U U<|Qb<|x (Qpf underlying81 ev)<|x (ZZ U U)<|xe<|QZ rfl (λhh=>?_) (λhh=>?_)
 ·have h7:cap<n+1:=by have hS:(cap:Int)<(n:Int)+((1:Nat):Int):=hh;omega
  have hT:At [] w.heap ⟨g,0,none⟩ (cs.take (i*9)):=⟨λu _=>oe,λu E=>h4.lt u (List.mem_of_mem_take E),λj u E=>h4.cell j u (by rw[List.getElem?_take]at E;split at E;exact E;cases E)⟩;have hU:(cs.take (i*9)).length=i*9:=by rw[Ly];omega
  refine Qm<|Qb<|x (Jq (hi:=i) ev U oa)<|Qb<|Qb<|QN U U<|Qb<|x (Jb U U ⟨oa,oa⟩) <|
   Qa<|Qnw (n:=i) (cap:=cap) (m:=n+1 - i) underlying3 hT U hU (show Go.Lg.ev _ _=_ from OT (Value.int .i64) oa) oa oa oa λb2 c2 w2 zs hj h8 gq gr hk=>Qc ?_
  have en:i+(n+1 - i)=n+1:=oa
  obtain⟨_,G,hV,hW,h9⟩:=Kt hk;rw[en]at h9;have gs:(n+1)*9<=G.length:=by rw[hW];exact LY _ oa
  have n2g:g≠b2:=by have:=J.lt;omega
  have hX:(i+1)*9<=(n+1)*9:=LY _ oa;refine Qm<|Qb<|x (XN (lo:=i) U U oa oa)<|Qb<|Qa<|ze (cs:=QE q) hV U U (by rw[show Nat.min 1 (i+(n+1 - i) - i)=1 from Mf oa];exact ZW q) ((O.I hj).at (L:=[]) oe) (by rw[ZW];omega) V λw3 hC hD=>xe ?_;have hY:=(J.I hj).J hC (oz n2g);have hm:(G.take (i*9)++QE q++G.drop (i*9+(QE q).length)).length=G.length:=by simp only[oM,Oa,o6,ZW];omega
  have hE:(G.take (i*9)++QE q++G.drop (i*9+(QE q).length)).take ((i+1)*9)=cs.take (i*9)++QE q:=by
   have e1:(G.take (i*9)++QE q).length=(i+1)*9:=by rw[Lj,Ly,ZW];omega
   rw[List.take_left' e1];congr 1;have:=OT (List.take (i*9)) h9;rw[M1,Mf oa,MT oa,M1,Nat.min_self]at this;exact this
  refine Zk (G.take (i*9)++QE q++G.drop (i*9+(QE q).length)) λgt hZ=>?_;rw[hZ]at hD hm hE;have I:(cs.drop (i*9)).length=(n - i)*9:=by rw[LW,H,Nat.sub_mul]
  refine Qd<|QR (O3 [] w3) [oD 0,oD 1,oD 2,oD 3,oD 4,oD 5,oD 6,oD 7,oE 8] mixed ol od (O3.C _ _) ?_;refine p Qy<|p Qy<|p Qy<|p (λ_=>XI U U ⟨oa,oa⟩)<|p (λ_=>XN (lo:=i+1) U U oa oa) <|
   p Qy<|p Qy<|p (λ_=>XN (lo:=i) ev U oa oa)<|pkl (hl:=by kernel_rfl)<|ze (cs:=cs.drop (i*9)) (hD.I (O3.C _ _)) U U (by rw[I,show Nat.min (n - i) (i+(n+1 - i) - (i+1))=n - i from Mf oa]) (h5 _ (hY.I (O3.C _ _))) (by rw[I,hm];omega) (λu E=>Y u (L6 E)) λw4 ho S=>pe ?_
  refine Qm<|Qc ?_;have ga:O3 [b2] w2 w4:=hC.Q ((O3.C [] w3).any.Q ho);refine Ql ⟨[.slice (some ⟨b2,0,none⟩) (i+(n+1 - i)) c2],La,(hj.O ga h8).any,λb hb=>?_,?_⟩
  ·have gb:b∈[b2]:=hb;rw[Lb.1 gb];exact .inr h8
  rw[en]at hk ⊢;have gc:=Zy hk hr;refine Up gc (Lx _) S ?_ ?_ (Vq H (ZW q) hi)
  ·simp only[oM,Oa,o6,I,hm];omega
  rw[hE];exact List.take_left' (Vq H (ZW q) hi)
 have h7:n+1<=cap:=by have hS:¬(cap:Int)<(n:Int)+((1:Nat):Int):=hh;omega
 have hX:(i+1)*9<=(n+1)*9:=LY _ oa;have I:(cs.drop (i*9)).length=(n - i)*9:=by rw[LW,H,Nat.sub_mul]
 refine Qh<|Qm<|Qb<|Qb<|QN U U<|x (Jq (hi:=n+1) ev U oa)<|Qc<|Qd<|Qm<|Qb<|Qb<|Qb<|QN U U<|x (XN (lo:=i+1) U U oa oa) <|
  x (Qpe func230 od od od (tS:=81) (tR:=4) od underlying81 Tryz.sizeOf138 (a:=⟨bq,0,none⟩) (b:=⟨g,(i+1)*9,none⟩) U U O J h0 (by rw[hg];omega) U)<|x (Zz U)<|xe ?_
 refine QW rfl (λ_=>?_) (λgg=>OU gg og);have en:n+1 - (i+1)=n - i:=oa
 refine Qd<|QR (O3 [] w) [oD 0,oD 1,oD 2,oD 3,oD 4,oD 5,oD 6,oD 7,oE 8] mixed ol od (O3.C _ _) ?_;refine p Qy<|p Qy<|p Qy<|p (λ_=>XI U U ⟨oa,oa⟩)<|p (λ_=>XN (lo:=i+1) U U oa oa) <|
  p Qy<|p Qy<|p (λ_=>XN (lo:=i) U U oa oa)<|pkl (hl:=by kernel_rfl)<|ze (cs:=cs.drop (i*9)) (J.I (O3.C _ _)) U U (by rw[I,show Nat.min (n+1 - i) (n+1 - (i+1))=n - i from(Nat.min_eq_right oa).D en]) (h5 _ (J.I (O3.C _ _))) (by rw[I,hg];omega) (λu E=>Y u (L6 E)) λw4 ho S=>pe ?_
 have hF:O3 [g] w w4:=(O3.C [] w).any.Q ho;have hG:(cur.take ((i+1)*9)++cs.drop (i*9)++cur.drop ((i+1)*9+(cs.drop (i*9)).length)).length=cap*9:=by simp only[oM,Oa,o6,I,hg];omega
 have hH:(cur.take ((i+1)*9)++cs.drop (i*9)++cur.drop ((i+1)*9+(cs.drop (i*9)).length)).take (i*9)=cs.take (i*9):=by
  rw[LB,MT (by rw[Ly];omega),M1,Mf oa,<-hz,M1,Mf oa]
 have hI:((cur.take ((i+1)*9)++cs.drop (i*9)++cur.drop ((i+1)*9+(cs.drop (i*9)).length)).drop (i*9+9)).take ((n - i)*9)=cs.drop (i*9):=by
  have e1:(cur.take ((i+1)*9)).length=i*9+9:=by rw[Ly];omega
  rw[LB,List.drop_left' e1,List.take_left' I]
 refine Zk (cur.take ((i+1)*9)++cs.drop (i*9)++cur.drop ((i+1)*9+(cs.drop (i*9)).length)) λhp gh=>?_;rw[gh]at S hG hH hI;refine Qm<|Qb<|x (XN (lo:=i) U U oa oa)<|Qb<|Qa<|ze (cs:=QE q) S U U (by rw[show Nat.min 1 (n+1 - i)=1 from Mf oa];exact ZW q) ((O.J hF (oz h0)).at (L:=[]) oe) (by rw[ZW];omega) V λw5 gi gj=>xe ?_;refine Qm<|Qc<|Ql ⟨[.slice (some ⟨g,0,none⟩) (n+1) cap],La,by rw[he];exact hF.Q gi,λb hb=>.inl (by rw[he];exact hb),?_⟩;rcases hf.2 with⟨e1,_⟩|⟨g',cap',cur',e1,gk,gu,gv,gl,gw,gx⟩
 ·cases e1
 cases e1
 refine⟨Vq H (ZW q) hi,.inr ⟨g,cap,_,U,gk,gj,h7,gl,?_,?_⟩⟩
 ·simp only[Od,oM,Oa,o6,ZW,hG];omega
 have hR:=Vq H (ZW q) hi;rw[ZW,hH];have e3:hp.drop (i*9+9)=cs.drop (i*9)++(hp.drop (i*9+9)).drop ((n - i)*9):=by
  conv=>lhs;rw[<-MB ((n - i)*9) (hp.drop (i*9+9)),hI]
 rw[e3,<-LB];exact List.take_left' hR
theorem Qn8 {k:Int}(G:Q7 w.heap b T cs)(H:cs[0]?=some (oF oG k)):
  Q5 prog 191 [.agg (QE q).toArray,.pointer (some ⟨b,0,none⟩)] w λr w'=>r=.bool (decide (k<q.kd))/\O3 [] w w':=by
 refine Zs func191 ntmps191 results191 ?_;refine Qe<|Qa<|QS (us:=QE q) U λb2 J E O I=>Qc<|Qe<|Qs U I U U<|Qs U (G.I E) U H<|x (ZZ U U)<|Qc ?_;exact Ql ⟨[_],La,U,E⟩
theorem V0 {l:List Ys}(h:Ko l=0):l.length<=76:=by
 unfold Ko at h;split at h
 ·cases h
 omega
theorem QmE {v:O0}{es:List DV}(G:Vn L w.heap v es)(k:Int)(n:ByteArray):
  Q5 prog 130 [v,oF oG k,.string n] w λr w'=>O3 [] w w'/\∃vo l,r=.tuple #[vo,oF oG (qR (es.map DV.it) k n).1]/\JI w.heap.size w' vo l/\((qR (es.map DV.it) k n).1=0->l.map DV.it=(qR (es.map DV.it) k n).2):=by
 have h:=G.up (L':=[]) oe;have E:qR (es.map DV.it) k n=if Ko (es.map DV.it)≠0 then(Ko (es.map DV.it),[])else if KB (es.map DV.it) k n=false then(10,[])else(0,(es.map DV.it).take (Yr (es.map DV.it) k n)++(es.map DV.it).drop (Yr (es.map DV.it) k n+1)):=rfl
 refine Zk (qR (es.map DV.it) k n) λD hD=>?_;rw[hD]at E ⊢;refine Zs func130 ntmps130 results130 ?_;refine Qe<|x Qk<|Qc<|Qd<|Qm<|Qa<|xf<|(Ju h).mono ?_;rintro r1 w1 ⟨rfl,O⟩;refine Qc<|Qm<|ZA U U<|xe<|QZ rfl (λH=>?_) (λH=>?_)
 ·rw[OS H]at E;refine Qm<|x Qk<|Qc ?_;exact Ql ⟨[nS,oF oG (Ko (es.map DV.it))],oA,O,nS,[],by rw[E];rfl,Z2.nil,λG=>OU (by rw[E]at G;exact G) H⟩
 rw[OR H]at E;have ho:es.length<=76:=by have:=V0 (Lo.1 H);rwa [Lh]at this
 refine Qh<|Qm<|Qb<|Qb<|Qa<|xf<|(zq (h.arr.I O) k n).mono ?_;rintro r2 w2 ⟨⟨i,rfl,hi⟩,Y⟩;have J:=O.D Y;refine Qb<|Q8 U U<|Q8 U U<|x Qk<|Qc<|Qd<|Qm<|x (Zz U)<|xe<|QW rfl (λS=>?_) (λS=>?_)
 ·have I:KB (es.map DV.it) k n=false:=by simpa using S
  rw[OS I]at E;refine Qe<|x Qk<|Qc ?_;exact Ql ⟨[nS,oF oG 10],oA,J,nS,[],by rw[E];rfl,Z2.nil,λG=>OU (by rw[E]at G;exact G) og⟩
 have I:KB (es.map DV.it) k n=true:=by simpa using S
 rw[OR (by rw[I];decide)]at E;have hi:=hi I;have ha:Yr (es.map DV.it) k n<es.length:=by have:=OW I;rwa [Lh]at this
 refine Zk (Yr (es.map DV.it) k n) λj hj=>?_;rw[hj]at hi ha E;refine Qh<|Qm<|Qa<|xf<|(JV (h.I J) oa).mono ?_;rintro r3 w3 ⟨hc,l,hl,T⟩;have hp:l.length=es.length:=by have:=OT oP T;rwa [Lh,Lh]at this
 have hD3:=Ql2 hl (k:=j) oa oa;have he:(i:Int)+1=((j+1:Nat):Int):=oa
 rw[<-he,<-hi]at hD3;refine Qb<|Qb<|QN U U<|Qa<|xf<|hD3.mono ?_;rintro V w4 ⟨hf,hg⟩;refine x Qk<|Qc ?_;have hh:=Qi hl.own;have hk:=J.size;refine Ql ⟨[V,oF oG 0],oA,(J.D hc).then hf (λb hb=>.inr (ou (hh b hb).1)),V,_,by rw[E];rfl,hg.base hk,λ_=>?_⟩;rw[E,Lp,NM,List.map_drop,T]
theorem QoN {v:O0}{es:List DV}(G:Vn L w.heap v es)(hM:Jn L' w.heap q):
  Q5 prog 131 [v,.agg (QE q).toArray] w λr w'=>O3 [] w w'/\∃vo l,r=.tuple #[vo,oF oG (qQ (es.map DV.it) q.it).1]/\JI w.heap.size w' vo l/\((qQ (es.map DV.it) q.it).1=0->l.map DV.it=(qQ (es.map DV.it) q.it).2):=by
 have h:=G.up (L':=[]) oe;have hq:=hM.up (L':=[]) oe;have E:qQ (es.map DV.it) q.it=if Ko (es.map DV.it)≠0 then(Ko (es.map DV.it),[])else if Ko [q.it]≠0 then(Ko [q.it],[])else if KB (es.map DV.it) q.kd q.nm=true then(0,(es.map DV.it).set (Yr (es.map DV.it) q.kd q.nm) q.it)else if(es.map DV.it).length=76 then(3,[])else
  (0,(es.map DV.it).take ((es.map DV.it).findIdx λy=>decide (q.kd<y.kd))++q.it::(es.map DV.it).drop ((es.map DV.it).findIdx λy=>decide (q.kd<y.kd))):=rfl
 refine Zk (qQ (es.map DV.it) q.it) λD hD=>?_;rw[hD]at E ⊢;refine Zs func131 ntmps131 results131 ?_;refine Qe<|Qa<|QS (us:=QE q) U λb3 w1 h4 gj hN=>x Qk<|Qc<|Qd<|Qm<|Qa<|xf<|(Ju (h.I h4)).mono ?_;rintro r1 w2 ⟨rfl,h5⟩;have h6:=h4.D h5;refine Qc<|Qm<|ZA U U<|xe<|QZ rfl (λT=>?_) (λT=>?_)
 ·rw[OS T]at E;refine Qm<|x Qk<|Qc ?_;exact Ql ⟨[nS,oF oG (Ko (es.map DV.it))],oA,h6,nS,[],by rw[E];rfl,Z2.nil,λG=>OU (by rw[E]at G;exact G) T⟩
 rw[OR T]at E;have gk:es.length<=76:=by have:=V0 (Lo.1 T);rwa [Lh]at this
 have h7:=hN.I h5;refine Qh<|Qd<|Qe<|Q2 h7 U U<|Qa<|QB (us:=[QE q]) U U og (show 1*9<=1000000 by decide) oA λhO w3 h8 gl hP=>?_;have h9:=h6.D h8;have hQ:Vn [] w3.heap (.slice (some ⟨hO,0,none⟩) 1 1) [q]:=⟨hP.arr (L:=[]) oe (n:=1) (cap:=1) (sz:=9) rfl og (Nat.le_refl _),λd hd=>by rw[List.mem_singleton.1 hd];exact hq.I h9⟩;refine Qa<|xf<|(Ju hQ).mono ?_;rintro r4 w4 ⟨rfl,hA⟩;have he:=h9.D hA;refine Qc<|Qm<|ZA U U<|xe<|QZ rfl (λhf=>?_) (λhf=>?_)
 ·rw[OS (show Ko [q.it]≠0 from hf)]at E;refine Qm<|x Qk<|Qc ?_;exact Ql ⟨[nS,oF oG (Ko [q.it])],oA,he,nS,[],by rw[E];rfl,Z2.nil,λG=>OU (by rw[E]at G;exact G) hf⟩
 rw[OR (show ¬Ko [q.it]≠0 from hf)]at E;refine Qh<|Qm<|Qa<|xf<|(JV (h.I he) oa).mono ?_;rintro I w5 ⟨hr,l,hl,J⟩;have gm:l.length=es.length:=by have:=OT oP J;rwa [Lh,Lh]at this
 have hB:=he.D hr;have hC:=he.size;have gn:=hr.size;have hs:=(h7.I (h8.D hA)).I hr;have V:=Qi hl.own;refine Qc<|Qd<|Qm<|Qs U hs U U<|Qs U hs U U<|Qa<|xf<|(zq (h.arr.I hB) q.kd q.nm).mono ?_;rintro r6 w6 ⟨⟨i,rfl,hi⟩,hh⟩;have Y:=hB.D hh;have ht:=hl.I hh;have hu:=hs.I hh;have go:=hh.size;refine Qb<|Q8 U U<|Q8 U U<|x Qk<|Qc<|Qm<|xe<|QW rfl (λha=>?_) (λha=>?_)
 ·rw[OS ha]at E;have hi:=hi ha;have hv:Yr (es.map DV.it) q.kd q.nm<l.length:=by have:=OW ha;rw[Lh]at this;omega
  refine Zk (Yr (es.map DV.it) q.kd q.nm) λj hj=>?_;rw[hj]at hi hv E;refine Qm<|Qb<|Q2 hu U U<|Qa<|xf<|(Kd (hq.I Y)).mono ?_;rintro r7 w7 ⟨hk,q',rfl,hw,ho⟩;have hy:=ht.I hk;refine Exists.elim (Js hy.own oa) λg O=>Exists.elim O λcap O=>?_;have hR:ob I=[g]:=by rw[O];rfl
  have hE:=hy.own;rw[O]at hE;refine x (ZB (i:=j) O (show Go.Lg.ev _ _=_ from OT (Value.int .i64) hi) hv)<|Qa<|jp ZW hE (show Go.Lg.ev _ _=_ from by show Value.pointer (some ⟨g,0+j*9,none⟩)=_;rw[LX]) rfl hv (ho [] oe).ones λw8 hS hF=>xe ?_;refine Qm<|x Qk<|Qc ?_;rw[<-O]at hF;have hG:O3 (ob I) w7 w8:=by rw[hR];exact hS
  have hT:JI w4.heap.size w8 I (l.set j q'):=JI.turn2 hy hG (λb H=>.inl H) (λL hL=>ho L (λb H=>by
   rcases hL b H with h|h
   ·omega
   have:=V b h;omega)) (λd hd=>MS hd) (by rw[Mk];exact hF)
  refine Ql ⟨[I,oF oG 0],oA,(Y.D hk).then hG (λb H=>.inr (ou (V b H).1)),I,_,by rw[E];rfl,hT.base hC,λ_=>?_⟩;rw[E,ON,J,hw]
 rw[OR (by rw[ha];decide)]at E;refine Qh<|Qd<|Qm<|QL (h.arr.I Y) U<|x (Q9 U U)<|xe<|QZ rfl (λhz=>?_) (λhz=>?_)
 ·have hn:es.length=76:=by have hU:(es.length:Int)=76:=hz;omega
  rw[OS (by rw[Lh];exact hn)]at E;refine Qe<|x Qk<|Qc ?_;exact Ql ⟨[nS,oF oG 3],oA,Y,nS,[],by rw[E];rfl,Z2.nil,λG=>OU (by rw[E]at G;exact G) og⟩
 have hn:¬es.length=76:=by have hU:¬(es.length:Int)=76:=hz;omega
 rw[OR (by rw[Lh];exact hn)]at E;have hV:(es.map DV.it).findIdx (λy=>decide (q.kd<y.kd))=l.findIdx λy=>decide (q.kd<y.kd):=by rw[<-J,List.findIdx_map];rfl
 rw[hV]at E;have hW:l.findIdx (λy=>decide (q.kd<y.kd))<=l.length:=List.findIdx_le_length;have h1:ixD (λy:DV=>decide (q.kd<y.kd)) l=if l.findIdx (λy=>decide (q.kd<y.kd))<l.length then((l.findIdx λy=>decide (q.kd<y.kd):Nat):Int)else -1:=rfl
 refine Zk (l.findIdx λy=>decide (q.kd<y.kd)) λat_ hX=>?_;rw[hX]at E hW h1;have hH:Zv [] w6.heap I l.length 9 (l.flatMap QE):=QH ht.own oa oe;refine Qh<|Qm<|x (ZC (l:=[]) (l':=[_]))<|Qa<|xf<|(QeK (q:=λy:DV=>decide (q.kd<y.kd)) (cap:=[.pointer (some ⟨b3,0,none⟩)]) hH (λe _ w7 hk=>Qn8 (hu.I hk) U)).mono ?_;rintro r9 w9 ⟨rfl,hc⟩;refine Qc<|Q3 (α:=Unit) [(11,11),(47,50)] (λ_=>[(11,oF oG (at_:Int))]) (λ_ w'=>w'=w9) ol ?_ ?_
 ·refine Qm<|QX U U<|xe<|QG U (λh2=>?_) (λh2=>?_)
  ·refine Qh<|⟨(),⟨?_,Z⟩,U⟩;have S:¬ixD (λy:DV=>decide (q.kd<y.kd)) l<0:=h2;have e:ixD (λy:DV=>decide (q.kd<y.kd)) l=(at_:Int):=by
    rw[h1]at S ⊢;split at S
    ·rename_i hY;rw[OS hY]
    exact OU og S
   exact OT (Value.int .i64) e
  refine Qw<|Qb<|QL (hH.I hc) U<|Qc<|⟨(),⟨?_,Z⟩,U⟩;have S:ixD (λy:DV=>decide (q.kd<y.kd)) l<0:=h2;have e:(l.length:Int)=(at_:Int):=by
   rw[h1]at S;split at S
   ·omega
   omega
  exact OT (Value.int .i64) e
 rintro⟨⟩ g gp rfl;have hZ:=ht.I hc;have hI:=Y.D hc;have gq:=hc.size;refine Qm<|Qb<|Q2 (hu.I hc) U U<|Qa<|xf<|(Kd (hq.I hI)).mono ?_;rintro gr gs ⟨h3,q',rfl,hw,ho⟩;have gt:=h3.size;refine Qa<|QB (us:=[QE q']) U U og (show 1*9<=1000000 by decide) oA λhJ ga hp gu gb=>?_;have gv:=hp.size;have gc:=(hZ.I h3).I hp;have gg:Q7 ga.heap hJ 138 (QE q'):=by have:=gb;simpa using this
 refine Qa<|xf<|(QlE gc oa oa (i:=at_) oa (q:=q') (λL hL=>(ho L (λb H=>by
   rcases hL b H with h|h
   ·omega
   have:=V b h;omega)).I hp) gg (λJ=>ou (V hJ J))).mono ?_
 rintro hK gw ⟨gh,gi,gx⟩;refine x Qk<|Qc<|Ql ⟨[hK,oF oG 0],oA,((hI.D h3).D hp).then gh (λb H=>.inr (ou (V b H).1)),hK,_,by rw[E];rfl,gi.base hC,λ_=>?_⟩;rw[E,Lp,LG,NM,List.map_drop,J,hw]
end Go.Lg
namespace Go.Proofs
open Go.Proofs.Tryz
open Go.Shelf
def Tryz.sortLo_ren:Go.Shelf.Ren:=⟨λ|6=>194|15=>104|14=>232|28=>157|29=>158|20=>271|21=>272|22=>273|23=>274|24=>275|25=>276|26=>277|27=>278|46=>306|47=>218|48=>219|49=>307|50=>308|57=>319|n=>n,λ|22=>69|24=>73|25=>333|3=>3|39=>226|0=>0|53=>298|55=>300|4=>4|46=>291|45=>290|50=>235|5=>5|9=>9|66=>367|70=>371|76=>405|77=>357|n=>n,λ|n=>n⟩
theorem Tryz.sortLo:Go.Proofs.SlLaysF0.n6 prog Tryz.sortLo_ren:={
 mixed:=od
 f6:=⟨Tryz.f194.name,og,func194.D (OT some od)⟩
 f14:=⟨Tryz.f232.name,og,func232.D (OT some od)⟩
 f15:=func104.D (OT some od)
 f20:=⟨Tryz.f271.name,og,func271.D (OT some od)⟩
 f21:=⟨Tryz.f272.name,og,func272.D (OT some od)⟩
 f22:=⟨Tryz.f273.name,og,func273.D (OT some od)⟩
 f23:=⟨Tryz.f274.name,og,func274.D (OT some od)⟩
 f24:=⟨Tryz.f275.name,og,func275.D (OT some od)⟩
 f25:=⟨Tryz.f276.name,og,func276.D (OT some od)⟩
 f26:=⟨Tryz.f277.name,og,func277.D (OT some od)⟩
 f27:=⟨Tryz.f278.name,og,func278.D (OT some od)⟩
 f28:=func157.D (OT some od)
 f29:=func158.D (OT some od)
 f46:=⟨Tryz.f306.name,og,func306.D (OT some od)⟩
 f47:=func218.D (OT some od)
 f48:=func219.D (OT some od)
 f49:=⟨Tryz.f307.name,og,func307.D (OT some od)⟩
 f50:=⟨Tryz.f308.name,og,func308.D (OT some od)⟩
 f57:=⟨Tryz.f319.name,og,func319.D (OT some od)⟩
 t0:=underlying0
 a0:=Tryz.isAgg0
 z0:=Tryz.sizeOf0
 v0:=Tryz.zeroValue0
 t3:=underlying3
 a3:=Tryz.isAgg3
 z3:=Tryz.sizeOf3
 v3:=Tryz.zeroValue3
 t4:=underlying4
 a4:=Tryz.isAgg4
 z4:=Tryz.sizeOf4
 v4:=Tryz.zeroValue4
 t5:=underlying5
 a5:=Tryz.isAgg5
 z5:=Tryz.sizeOf5
 v5:=Tryz.zeroValue5
 t9:=underlying9
 a9:=Tryz.isAgg9
 z9:=Tryz.sizeOf9
 v9:=Tryz.zeroValue9
 t22:=underlying69
 a22:=Tryz.isAgg69
 z22:=Tryz.sizeOf69
 v22:=Tryz.zeroValue69
 t25:=underlying333
 a25:=Tryz.isAgg333
 z25:=Tryz.sizeOf333
 v25:=Tryz.zeroValue333
 t39:=underlying226
 a39:=Tryz.isAgg226
 z39:=Tryz.sizeOf226
 v39:=Tryz.zeroValue226
 t45:=underlying290
 a45:=Tryz.isAgg290
 z45:=Tryz.sizeOf290
 v45:=Tryz.zeroValue290
 t46:=underlying291
 a46:=Tryz.isAgg291
 z46:=Tryz.sizeOf291
 v46:=Tryz.zeroValue291
 t50:=underlying235
 a50:=Tryz.isAgg235
 z50:=Tryz.sizeOf235
 v50:=Tryz.zeroValue235
 t53:=underlying298
 a53:=Tryz.isAgg298
 z53:=Tryz.sizeOf298
 v53:=Tryz.zeroValue298
 t55:=underlying300
 a55:=Tryz.isAgg300
 z55:=Tryz.sizeOf300
 v55:=Tryz.zeroValue300
 t66:=underlying367
 a66:=Tryz.isAgg367
 z66:=Tryz.sizeOf367
 v66:=Tryz.zeroValue367
 t70:=underlying371
 a70:=Tryz.isAgg371
 z70:=Tryz.sizeOf371
 v70:=Tryz.zeroValue371
 t76:=underlying405
 a76:=Tryz.isAgg405
 z76:=Tryz.sizeOf405
 v76:=Tryz.zeroValue405
 t77:=underlying357
 a77:=Tryz.isAgg357
 z77:=Tryz.sizeOf357
 v77:=Tryz.zeroValue357 }
def Tryz.sortTe_ren:Go.Shelf.Ren:=⟨λ|6=>196|15=>104|14=>233|28=>157|29=>158|20=>279|21=>280|22=>281|23=>282|24=>283|25=>284|26=>285|27=>286|46=>309|47=>218|48=>219|49=>310|50=>311|57=>320|n=>n,λ|22=>74|24=>78|25=>335|3=>3|39=>226|0=>0|53=>298|55=>300|4=>4|46=>291|45=>290|50=>235|5=>5|9=>9|66=>367|70=>371|76=>405|77=>357|n=>n,λ|n=>n⟩
theorem Tryz.sortTe:Go.Proofs.SlLaysF0.n6 prog Tryz.sortTe_ren:={
 mixed:=od
 f6:=⟨Tryz.f196.name,og,func196.D (OT some od)⟩
 f14:=⟨Tryz.f233.name,og,func233.D (OT some od)⟩
 f15:=func104.D (OT some od)
 f20:=⟨Tryz.f279.name,og,func279.D (OT some od)⟩
 f21:=⟨Tryz.f280.name,og,func280.D (OT some od)⟩
 f22:=⟨Tryz.f281.name,og,func281.D (OT some od)⟩
 f23:=⟨Tryz.f282.name,og,func282.D (OT some od)⟩
 f24:=⟨Tryz.f283.name,og,func283.D (OT some od)⟩
 f25:=⟨Tryz.f284.name,og,func284.D (OT some od)⟩
 f26:=⟨Tryz.f285.name,og,func285.D (OT some od)⟩
 f27:=⟨Tryz.f286.name,og,func286.D (OT some od)⟩
 f28:=func157.D (OT some od)
 f29:=func158.D (OT some od)
 f46:=⟨Tryz.f309.name,og,func309.D (OT some od)⟩
 f47:=func218.D (OT some od)
 f48:=func219.D (OT some od)
 f49:=⟨Tryz.f310.name,og,func310.D (OT some od)⟩
 f50:=⟨Tryz.f311.name,og,func311.D (OT some od)⟩
 f57:=⟨Tryz.f320.name,og,func320.D (OT some od)⟩
 t0:=underlying0
 a0:=Tryz.isAgg0
 z0:=Tryz.sizeOf0
 v0:=Tryz.zeroValue0
 t3:=underlying3
 a3:=Tryz.isAgg3
 z3:=Tryz.sizeOf3
 v3:=Tryz.zeroValue3
 t4:=underlying4
 a4:=Tryz.isAgg4
 z4:=Tryz.sizeOf4
 v4:=Tryz.zeroValue4
 t5:=underlying5
 a5:=Tryz.isAgg5
 z5:=Tryz.sizeOf5
 v5:=Tryz.zeroValue5
 t9:=underlying9
 a9:=Tryz.isAgg9
 z9:=Tryz.sizeOf9
 v9:=Tryz.zeroValue9
 t22:=underlying74
 a22:=Tryz.isAgg74
 z22:=Tryz.sizeOf74
 v22:=Tryz.zeroValue74
 t25:=underlying335
 a25:=Tryz.isAgg335
 z25:=Tryz.sizeOf335
 v25:=Tryz.zeroValue335
 t39:=underlying226
 a39:=Tryz.isAgg226
 z39:=Tryz.sizeOf226
 v39:=Tryz.zeroValue226
 t45:=underlying290
 a45:=Tryz.isAgg290
 z45:=Tryz.sizeOf290
 v45:=Tryz.zeroValue290
 t46:=underlying291
 a46:=Tryz.isAgg291
 z46:=Tryz.sizeOf291
 v46:=Tryz.zeroValue291
 t50:=underlying235
 a50:=Tryz.isAgg235
 z50:=Tryz.sizeOf235
 v50:=Tryz.zeroValue235
 t53:=underlying298
 a53:=Tryz.isAgg298
 z53:=Tryz.sizeOf298
 v53:=Tryz.zeroValue298
 t55:=underlying300
 a55:=Tryz.isAgg300
 z55:=Tryz.sizeOf300
 v55:=Tryz.zeroValue300
 t66:=underlying367
 a66:=Tryz.isAgg367
 z66:=Tryz.sizeOf367
 v66:=Tryz.zeroValue367
 t70:=underlying371
 a70:=Tryz.isAgg371
 z70:=Tryz.sizeOf371
 v70:=Tryz.zeroValue371
 t76:=underlying405
 a76:=Tryz.isAgg405
 z76:=Tryz.sizeOf405
 v76:=Tryz.zeroValue405
 t77:=underlying357
 a77:=Tryz.isAgg357
 z77:=Tryz.sizeOf357
 v77:=Tryz.zeroValue357 }
end Go.Proofs
namespace Go.Lg
open Go.Lg Go.Sort
abbrev Lz:={ x:Int×Int // 0<=x.1/\x.1<4096 }
instance:Inhabited Lz:=⟨⟨(0,0),og⟩⟩
abbrev qC (x:Lz):LV:=[oF oG x.1.1,oF oG x.1.2]
theorem zk (x:Lz):(qC x).length=2:=rfl
theorem zT:∀l:List Lz,(l.flatMap qC).length=l.length*2
 | []=>rfl
 | x::l=>by rw[LM,Lj,zT l,zk,LQ];omega
theorem zj {l:List Lz}(I:j<l.length*2):(l.flatMap qC)[j]?=some ((flatK qC 2 l.toArray)[j]!):=by
 have E:j / 2<l.length:=Nat.div_lt_of_lt_mul oa;have G:j % 2<2:=OO _ og;rw[get_flatK _ _ _ _ (oz I)];have J:=Xx qC 2 zk l (j / 2) E;have O:(l.flatMap qC)[j]?=(qC (l[j / 2]'E))[j % 2]?:=by
  rw[<-J,LT,OS G,MA];congr 1;omega
 rw[O];have S:(l.toArray)[j / 2]! = l[j / 2]'E:=by simp[E]
 rw[S];have H:j % 2<(qC (l[j / 2]'E)).length:=G;exact(LF H).D (OT some (getElem!_pos (qC (l[j / 2]'E)) (j % 2) H).symm)
theorem Qdj:SWO (ltOf λx y:Lz=>x.1.1 - y.1.1) where
 irrefl x:=by unfold ltOf;simp
 trans x y z h1 h2:=by unfold ltOf at *;simp at *;omega
 ntrans x y z h1 h2:=by unfold ltOf at *;simp at *;omega
theorem Qil:∀{l:xt},(∀x∈l,0<=x.1/\x.1<4096)->∃L:List Lz,L.map Subtype.val=l
 | [],_=>⟨[],U⟩
 | x::l,h=>by
  obtain⟨L,E⟩:=Qil (l:=l) (λy G=>h y (Lk _ G));exact⟨⟨x,h x Lt⟩::L,by rw[LG,E]⟩
theorem QeB (L:List Lz):L.flatMap qC=(L.map Subtype.val).flatMap QI:=by rw[List.flatMap_map]
theorem Qik {l:List Lz}{E:Array Lz}(h:pdq (ltOf λx y:Lz=>x.1.1 - y.1.1) l.toArray 0 l.length (Go.Lib.bitLen l.length) true true=E)(J:((l.map Subtype.val).map (·.1)).Nodup):E.size=l.length/\E.toList.map Subtype.val=isrt (·.1) (l.map Subtype.val):=by
 have G:=pdq_sorts (ltOf λx y:Lz=>x.1.1 - y.1.1) Qdj l.toArray 0 l.toArray.size (Go.Lib.bitLen l.length) true true (Ln _) (Lx _) (Or.inl U);rw[LP,h]at G;obtain⟨H,O⟩:=Qel (d:=l.toArray) (by rw[LP];exact G.1) (by rw[LP];exact G.2);refine⟨oz H.length_eq,QlD (λp:Int×Int=>p.1) (H.map _) ?_ J⟩;refine MW.2 (O.imp λ{x y} I=>?_);unfold ltOf at I;have S:¬(y.1.1 - x.1.1<0):=OY I;show x.1.1<=y.1.1;omega
theorem QpQ (x y:Lz)(W:OZ):Calls prog 195 #[.agg (qC x).toArray,.agg (qC y).toArray] W λe w'=>e=.returned (oF oG (x.1.1 - y.1.1))/\∃q os',w'=grow (W.drewN q) os':=by
 have E:IntKind.i64.wrap (x.1.1 - y.1.1)=x.1.1 - y.1.1:=YD ⟨ov x.2 y.2,ov x.2 y.2⟩
 go_enter func195,ntmps195
 go_wp2
 go_ret;exact⟨by rw[<-E];rfl,0,_,by rw[alloc_eq_grow,alloc_eq_grow,grow_grow];rfl⟩
theorem QfH {base:Nat}{v:O0}{G:xt}(h0:w.ownsRow base 73 2 v G.length (G.flatMap QI))(hb:∀x∈G,0<=x.1/\x.1<4096)(S:(G.map (·.1)).Nodup)(hh:G.length<=1099511627776):
  Q5 prog 194 [v,.func (.func 195) #[] #[]] w λ_ w'=>O3 (ob v) w w'/\w'.ownsRow base 73 2 v (isrt (·.1) G).length ((isrt (·.1) G).flatMap QI):=by
 obtain⟨l,hl⟩:=Qil hb;subst hl;rw[<-QeB,Lh]at h0;rw[Lh]at hh;unfold Q5;rcases h0.2 with⟨rfl,J⟩|⟨g,cap,cur,rfl,hm,O,ho,hp,hq,hr⟩
 ·have hs:l=[]:=Lq J;subst hs;have H:=AnyF.slices_SortFunc_none Tryz.sortLo none 0 (.func (.func 195) #[] #[]) w;change Calls prog 194 _ _ _ at H;refine Calls.mono H λe w' T=>?_;obtain⟨rfl,rfl⟩:=T;exact⟨O3.Z _ _,QJ _ _ _ _⟩
 have ha:g<w.heap.size:=(LH.1 O).1;have hH:HoldsK qC 2 w g 0 l.toArray:=by
  intro j E;rw[size_flatK,LP]at E;have J:=zj E;rw[<-hr,LT,OS E]at J;constructor
  ·show(match w.heap[g]? with|some (.cells c _ _)=>if(none:Option _).isSome then none else c[0+j]?|_=>none)=_
   rw[O];simp only[oY,OB,OC,if_false];rw[<-Mn,J];rfl
  show(match w.heap[g]? with|some (.cells _ _ (lo,hi))=>decide (lo<=0+j) && decide (0+j<hi)|_=>false)=false
  rw[O];simp
 have eg:∀args w,(callFunc 195 args).run prog w=.ok (.enter 195 args) w:=enters_of func195 od U;have H:=AnyQ.slices_SortFunc_eq Tryz.sortLo 2 Tryz.isAgg73 Tryz.sizeOf73 qC zk (λx v hv=>by simp at hv;rcases hv with rfl|rfl <;> rfl) (λx y=>x.1.1 - y.1.1) Qdj 195 #[] g 0 cap l.toArray w eg (λm os dk _ x y=>QpQ x y _) hH ha (by simp;omega)
 change Calls prog 194 _ _ _ at H;rw[LP]at H;refine Calls.mono H λe w' T=>?_;obtain⟨rfl,n,os,rfl⟩:=T;refine Zk (pdq (ltOf λx y:Lz=>x.1.1 - y.1.1) l.toArray 0 l.length (Go.Lib.bitLen l.length) true true) λI hf=>?_;obtain⟨V,ht⟩:=Qik hf S;rw[hf,<-ht];have Y:(sortWorldK qC 2 w g 0 n I os).heap=w.heap.modify g (onCells (putCells id 0 (flatK qC 2 I)))++os:=rfl;refine⟨⟨rfl,U,U,?_,λk hk S=>?_⟩,?_⟩
 ·rw[Y,MM,Mb];omega
 ·rw[Y,Me,Mb,OS hk,Mv,OR (λe=>S (by simp[ob,e]))]
 rw[<-QeB,Lh];refine⟨zT _,.inr ⟨g,cap,putCells id 0 (flatK qC 2 I) cur,by simp[V],hm,?_,by simp[V];exact ho,hp,by simp[putCells,hq],?_⟩⟩
 ·rw[Y,Me,Mb,OS ha,Mv,OS rfl,O];rfl
 apply M0;intro j;rw[LT];by_cases E:j<I.toList.length*2
 ·rw[OS E,zj E,Mn];have hu:j<cur.size:=by simp[V]at E;omega
  have hw:j<(flatK qC 2 I).size:=by simpa using E
  simp only[putCells,Ow,Oh hu,Ox,OP,oY,true_and,OS hw,OG,id]
 rw[OR E,ML];rw[zT];omega
theorem QpO (x y:Lz)(W:OZ):Calls prog 197 #[.agg (qC x).toArray,.agg (qC y).toArray] W λe w'=>e=.returned (oF oG (x.1.1 - y.1.1))/\∃q os',w'=grow (W.drewN q) os':=by
 have E:IntKind.i64.wrap (x.1.1 - y.1.1)=x.1.1 - y.1.1:=YD ⟨ov x.2 y.2,ov x.2 y.2⟩
 go_enter func197,ntmps197
 go_wp2
 go_ret;exact⟨by rw[<-E];rfl,0,_,by rw[alloc_eq_grow,alloc_eq_grow,grow_grow];rfl⟩
theorem QfF {base:Nat}{v:O0}{G:xt}(h0:w.ownsRow base 78 2 v G.length (G.flatMap QI))(hb:∀x∈G,0<=x.1/\x.1<4096)(S:(G.map (·.1)).Nodup)(hh:G.length<=1099511627776):
  Q5 prog 196 [v,.func (.func 197) #[] #[]] w λ_ w'=>O3 (ob v) w w'/\w'.ownsRow base 78 2 v (isrt (·.1) G).length ((isrt (·.1) G).flatMap QI):=by
 obtain⟨l,hl⟩:=Qil hb;subst hl;rw[<-QeB,Lh]at h0;rw[Lh]at hh;unfold Q5;rcases h0.2 with⟨rfl,J⟩|⟨g,cap,cur,rfl,hm,O,ho,hp,hq,hr⟩
 ·have hs:l=[]:=Lq J;subst hs;have H:=AnyF.slices_SortFunc_none Tryz.sortTe none 0 (.func (.func 197) #[] #[]) w;change Calls prog 196 _ _ _ at H;refine Calls.mono H λe w' T=>?_;obtain⟨rfl,rfl⟩:=T;exact⟨O3.Z _ _,QJ _ _ _ _⟩
 have ha:g<w.heap.size:=(LH.1 O).1;have hH:HoldsK qC 2 w g 0 l.toArray:=by
  intro j E;rw[size_flatK,LP]at E;have J:=zj E;rw[<-hr,LT,OS E]at J;constructor
  ·show(match w.heap[g]? with|some (.cells c _ _)=>if(none:Option _).isSome then none else c[0+j]?|_=>none)=_
   rw[O];simp only[oY,OB,OC,if_false];rw[<-Mn,J];rfl
  show(match w.heap[g]? with|some (.cells _ _ (lo,hi))=>decide (lo<=0+j) && decide (0+j<hi)|_=>false)=false
  rw[O];simp
 have eg:∀args w,(callFunc 197 args).run prog w=.ok (.enter 197 args) w:=enters_of func197 od U;have H:=AnyQ.slices_SortFunc_eq Tryz.sortTe 2 Tryz.isAgg78 Tryz.sizeOf78 qC zk (λx v hv=>by simp at hv;rcases hv with rfl|rfl <;> rfl) (λx y=>x.1.1 - y.1.1) Qdj 197 #[] g 0 cap l.toArray w eg (λm os dk _ x y=>QpO x y _) hH ha (by simp;omega)
 change Calls prog 196 _ _ _ at H;rw[LP]at H;refine Calls.mono H λe w' T=>?_;obtain⟨rfl,n,os,rfl⟩:=T;refine Zk (pdq (ltOf λx y:Lz=>x.1.1 - y.1.1) l.toArray 0 l.length (Go.Lib.bitLen l.length) true true) λI hf=>?_;obtain⟨V,ht⟩:=Qik hf S;rw[hf,<-ht];have Y:(sortWorldK qC 2 w g 0 n I os).heap=w.heap.modify g (onCells (putCells id 0 (flatK qC 2 I)))++os:=rfl;refine⟨⟨rfl,U,U,?_,λk hk S=>?_⟩,?_⟩
 ·rw[Y,MM,Mb];omega
 ·rw[Y,Me,Mb,OS hk,Mv,OR (λe=>S (by simp[ob,e]))]
 rw[<-QeB,Lh];refine⟨zT _,.inr ⟨g,cap,putCells id 0 (flatK qC 2 I) cur,by simp[V],hm,?_,by simp[V];exact ho,hp,by simp[putCells,hq],?_⟩⟩
 ·rw[Y,Me,Mb,OS ha,Mv,OS rfl,O];rfl
 apply M0;intro j;rw[LT];by_cases E:j<I.toList.length*2
 ·rw[OS E,zj E,Mn];have hu:j<cur.size:=by simp[V]at E;omega
  have hw:j<(flatK qC 2 I).size:=by simpa using E
  simp only[putCells,Ow,Oh hu,Ox,OP,oY,true_and,OS hw,OG,id]
 rw[OR E,ML];rw[zT];omega
def yl (l:List Ys)(n:ByteArray)(tk:LI):Int:=if KB l 1 n=false then 9 else if(Yr l 1 n:Int)∈tk then 8 else 0
theorem Qe7 {v:O0}{es:List DV}(h:Zv L w.heap v es.length 9 (es.flatMap QE))(n:ByteArray){tk:LI}(S:QQ L' w.heap vt tk):
  Q5 prog 193 [v,.string n,vt] w λr w'=>(∃i:Int,r=.tuple #[oF oG i,oF oG (yl (es.map DV.it) n tk)]/\(yl (es.map DV.it) n tk=0->i=(Yr (es.map DV.it) 1 n:Int)))/\O3 [] w w':=by
 have G:yl (es.map DV.it) n tk=if KB (es.map DV.it) 1 n=false then 9 else if(Yr (es.map DV.it) 1 n:Int)∈tk then 8 else 0:=rfl
 refine Zk (yl (es.map DV.it) n tk) λE hE=>?_;rw[hE]at G ⊢;refine Zs func193 ntmps193 results193 ?_;refine Qe<|x Qk<|Qc<|Qm<|Qb<|Qa<|xf<|(zq h 1 n).mono ?_;rintro T V ⟨⟨i,rfl,hi⟩,H⟩;refine Qb<|Q8 U U<|Q8 U U<|x Qk<|Qc<|Qd<|Qg<|Qm<|x (Zz U)<|Qc<|QW U (λI=>?_) (λI=>?_)
 ·rw[OS (oz I)]at G;subst G;refine Qe<|x Qk<|Qc ?_;exact Ql ⟨[oF oG 0,oF oG 9],oA,⟨0,U,λe=>OU e og⟩,H⟩
 have O:KB (es.map DV.it) 1 n=true:=by simpa using I
 have hi:=hi O;subst hi;rw[OR (by rw[O];decide)]at G;refine Qm<|Qb<|Qa<|xf<|(Ya (S.I H) _).mono ?_;rintro r2 Y ⟨rfl,rfl⟩;refine Qc<|QZ U (λJ=>?_) (λJ=>?_)
 ·rw[OS J]at G;subst G;refine Qe<|x Qk<|Qc ?_;exact Ql ⟨[oF oG 0,oF oG 8],oA,⟨0,U,λe=>OU e og⟩,H⟩
 rw[OR J]at G;subst G;refine Qh<|Qm<|x Qk<|Qc ?_;exact Ql ⟨[oF oG _,oF oG 0],oA,⟨_,U,λ_=>U⟩,H⟩
theorem jK (l:List Ys)(y:ByteArray×Int)(r:List (ByteArray×Int))(tk:LI)(o:xt):Yp l (y::r) tk o=if yl l y.1 tk≠0 then(yl l y.1 tk,[])else Yp l r (tk++[(Yr l 1 y.1:Int)]) (o++[((Yr l 1 y.1:Int),y.2)]):=by
 rw[Yp];unfold yl;split
 ·rfl
 split
 ·rfl
 rfl
theorem Qjs {l:List Ys}{n:ByteArray}{tk:LI}(h:yl l n tk=0):Yr l 1 n<l.length/\(Yr l 1 n:Int)∉tk:=by
 unfold yl at h;split at h
 ·exact OU h og
 rename_i E;split at h
 ·exact OU h og
 rename_i G;refine⟨?_,G⟩;have H:KB l 1 n=true:=by simpa using E
 exact OW H
theorem Qf7 {v:O0}{es:List DV}(h0:Zv L w.heap v es.length 9 (es.flatMap QE))(gm:es.length<=4096)(hC:Jn L' w.heap q)(gn:q.ls.length<=100000):
  Q5 prog 132 [v,.agg (QE q).toArray] w λr w'=>O3 [] w w'/\∃vo,r=.tuple #[vo,oF oG (Yp (es.map DV.it) q.ls [] []).1]/\((Yp (es.map DV.it) q.ls [] []).1≠0->vo=Zw) /\
   ((Yp (es.map DV.it) q.ls [] []).1=0->w'.ownsRow w.heap.size 73 2 vo (Yp (es.map DV.it) q.ls [] []).2.length ((Yp (es.map DV.it) q.ls [] []).2.flatMap QI)):=by
 have h:=h0.up (L':=[]) oe;have hq:=hC.up (L':=[]) oe;refine Zk (Yp (es.map DV.it) q.ls [] []) λR hR=>?_;rw[hR];refine Zs func132 ntmps132 results132 ?_;refine Qe<|Qa<|QS (us:=QE q) U λb3 G T go hD=>x Qk<|Qc ?_;have gp:=T.size;have h1:=h.I T;have hw:=hq.I T;refine Qe<|Qc<|Qe<|Qc<|Qd<|Qe<|Qs U hD U U<|QL hw.ls.arr U<|Qb<|xe<|Qg<|QC (α:=Nat×O0×O0×xt) [(4,7),(9,11),(15,41)] (λz=>[(6,z.2.1),(7,z.2.2.1),(15,oF oG z.1)]) (λz w'=>z.1<=q.ls.length/\O3 [] G w'/\w'.ownsRow G.heap.size 73 2 z.2.1 z.2.2.2.length (z.2.2.2.flatMap QI)/\Qu 3 G.heap.size w' z.2.2.1 (z.2.2.2.map (·.1))/\(∀b∈ob z.2.1,b∉ob z.2.2.1)/\z.2.2.2.length=z.1/\(∀x∈z.2.2.2,0<=x.1/\x.1<4096)/\(z.2.2.2.map (·.1)).Nodup/\Yp (es.map DV.it) (q.ls.drop z.1) (z.2.2.2.map (·.1)) z.2.2.2=R) (λz=>q.ls.length - z.1) ol (0,Zw,Zw,[]) oB
  ⟨Ln _,O3.Z _ _,QJ _ _ _ _,QJ _ _ _ _,by simp[ob],rfl,oe,MH,hR⟩ ?_
 rintro⟨k,vo,vt,l⟩ g w2 ⟨hk,I,J,hg,hn,ho,hr,hs,hE⟩;simp only[]at hk J hg hn ho hr hs hE;have gq:=I.size;have gr:(l.map (·.1)).length=k:=by rw[Lh,ho]
 have h2:=h1.I I;have hG:=hw.I I;refine Qe<|QX U U<|xe<|Qd<|QG U (λht=>?_) (λht=>?_)
 ·refine Qx ?_;have hH:q.ls.length<=k:=by have hh:¬(k:Int)<(q.ls.length:Int):=ht;omega
  rw[Lr hH]at hE;rw[Yp]at hE;subst hE;refine Qm<|Qa<|xf<|(QfH J hr hs oa).mono ?_;rintro r3 w3 ⟨hI,hJ⟩;refine xe<|Qm<|x Qk<|Qc<|Ql ⟨[vo,oF oG 0],oA,T.D (I.then hI λb E=>.inr (Qi J b E).1),vo,U,λe=>OU U e,λ_=>Zy hJ oa⟩
 have V:k<q.ls.length:=by have hh:(k:Int)<(q.ls.length:Int):=ht;omega
 have hK:q.ls.drop k=q.ls[k]'V::q.ls.drop (k+1):=LE V;rw[hK,jK]at hE;refine Qh<|Qd<|Qg<|Qe<|O6 (g:=ZX) (i:=k) Qhv hG.ls.arr U U V λgs hh=>?_;refine Zk (q.ls[k]'V) λy hy=>?_;rw[hy]at hh hE;refine x (Qv hh U U)<|Qa<|Qo (us:=[.string .empty,oF oG 0]) U λb9 w4 hL hM hN=>Qa<|Qj (us:=ZX y) hN U U U U oA λw5 hO hz=>xe ?_;have hu:O3 [] w2 w5:=hL.O hO hM;have hP:QQ [] w5.heap vt (l.map (·.1)):=(Qu.ints hg oa oe).I hu;refine Qm<|Qs U hz U U<|Qb<|Qa<|xf<|(Qe7 (h2.I hu) y.1 hP).mono ?_;rintro r6 w6 ⟨⟨i,rfl,hi⟩,h4⟩;have Y:=hu.D h4;have gt:=Y.size;refine Qb<|Q8 U U<|Q8 U U<|x Qk<|Qc<|Qd<|Qm<|ZA U U<|xe<|QZ rfl (λhe=>?_) (λhe=>?_)
 ·rw[OS he]at hE;subst hE;refine Qm<|x Qk<|Qc ?_;exact Ql ⟨[Zw,oF oG _],oA,T.D (I.D Y),Zw,U,λ_=>U,λe=>OU e he⟩
 rw[OR he]at hE;have h5:yl (es.map DV.it) y.1 (l.map (·.1))=0:=Lo.1 he;have hi:=hi h5;obtain⟨hF,h6⟩:=Qjs h5;rw[Lh]at hF;refine Zk (Yr (es.map DV.it) 1 y.1) λF hQ=>?_;rw[hQ]at hi hF h6 hE;subst hi;refine Qh ?_;have hS:=hz.I h4;have hT:=Qp J Y;have hU:Qu 3 G.heap.size w6 vt (l.map (·.1)):=Qp hg Y;refine Qm<|Qb<|Qa<|QB (us:=[[oF oG F]]) U U og (show 1*1<=1000000 by decide) oA λgu w7 hf gv hV=>?_;have h7:Qu 3 G.heap.size w7 vt (l.map (·.1)):=Qp hU hf;have gw:=hf.size;refine Qa<|Za (m:=1) (news:=[oF oG F]) h7 U U U (by have:=hV.at (L:=[]) oe;simpa using this) (by simp[Value.oneCell']) oa oa λhj w8 hW hl hX=>?_;refine Qc ?_;have gx:=hl.size;have hY:=Qf (Qp hT hf) hl hn;have hZ:∀b∈ob vt,G.heap.size<=b:=λb E=>(Qi h7 b E).1;have ga:O3 [] G w8:=((I.D Y).D hf).then hl λb E=>.inr (hZ b E);have gb:=(hS.I hf).J hl (λE=>ou (Qi hg b9 E).2);have h8:∀b∈ob vo,b∉ob hj:=λb E O=>by
  rcases hX b O with H|H
  ·exact hn b E H
  have:=(Qi J b E).2;omega
 refine Qw<|Qb<|Qb<|Qs U gb U U<|x (Qz ⟨U,U,Z⟩)<|Qa<|QB (us:=[QI ((F:Int),y.2)]) U U og (show 1*2<=1000000 by decide) oA λgy w9 hm gz gc=>?_;have gg:=Qp hY hm;have g0:=hm.size;refine Qa<|Za (m:=1) (news:=QI ((F:Int),y.2)) gg U U U (by have:=gc.at (L:=[]) oe;simpa using this) (by simp[Value.oneCell']) oa oa λh9 hv gh hA gi=>?_;refine Qc ?_;have hB:=Qp hW hm;have gj:Qu 3 G.heap.size hv hj ((l++[((F:Int),y.2)]).map (·.1)):=by
  have H:=Qf hB hA (λb E O=>h8 b O E);show hv.ownsRow _ _ 1 _ _ _;simp only[Og,oM,Oc]at H ⊢;simpa using H
 have gk:O3 [] G hv:=(ga.D hm).then hA λb E=>.inr (Qi J b E).1;have gl:∀b∈ob h9,b∉ob hj:=λb E O=>by
  rcases gi b E with H|H
  ·exact h8 b H O
  have:=(Qi hB b O).2;omega
 refine Qw<|QN U U<|Qb<|xe<|⟨(k+1,h9,hj,l++[((F:Int),y.2)]),by show q.ls.length - (k+1)<q.ls.length - k;omega,oB,V,gk,by rw[Lj,LA];simpa using gh,gj,gl,by simp[ho],λp S=>?_,?_,?_⟩
 ·rcases Lc.1 S with S|S
  ·exact hr p S
  simp only[oI]at S;subst S;exact⟨oh,oh⟩
 ·rw[Lp,My];refine⟨hs,oe,λa ha b E e=>?_⟩;simp only[oX,OI,oI]at E;subst E;subst e;exact h6 ha
 rw[Lp];exact hE
theorem Qhf {v:O0}{es:List DV}(h0:Zv L w.heap v es.length 9 (es.flatMap QE))(gm:es.length<=4096)(hC:Jn L' w.heap q)(gn:q.ts.length<=100000):
  Q5 prog 133 [v,.agg (QE q).toArray] w λr w'=>O3 [] w w'/\∃vo,r=.tuple #[vo,oF oG (Yp (es.map DV.it) q.ts [] []).1]/\((Yp (es.map DV.it) q.ts [] []).1≠0->vo=Zw) /\
   ((Yp (es.map DV.it) q.ts [] []).1=0->w'.ownsRow w.heap.size 78 2 vo (Yp (es.map DV.it) q.ts [] []).2.length ((Yp (es.map DV.it) q.ts [] []).2.flatMap QI)):=by
 have h:=h0.up (L':=[]) oe;have hq:=hC.up (L':=[]) oe;refine Zk (Yp (es.map DV.it) q.ts [] []) λR hR=>?_;rw[hR];refine Zs func133 ntmps133 results133 ?_;refine Qe<|Qa<|QS (us:=QE q) U λb3 G T go hD=>x Qk<|Qc ?_;have gp:=T.size;have h1:=h.I T;have hw:=hq.I T;refine Qe<|Qc<|Qe<|Qc<|Qd<|Qe<|Qs U hD U U<|QL hw.ts.arr U<|Qb<|xe<|Qg<|QC (α:=Nat×O0×O0×xt) [(4,7),(9,11),(15,41)] (λz=>[(6,z.2.1),(7,z.2.2.1),(15,oF oG z.1)]) (λz w'=>z.1<=q.ts.length/\O3 [] G w'/\w'.ownsRow G.heap.size 78 2 z.2.1 z.2.2.2.length (z.2.2.2.flatMap QI)/\Qu 3 G.heap.size w' z.2.2.1 (z.2.2.2.map (·.1))/\(∀b∈ob z.2.1,b∉ob z.2.2.1)/\z.2.2.2.length=z.1/\(∀x∈z.2.2.2,0<=x.1/\x.1<4096)/\(z.2.2.2.map (·.1)).Nodup/\Yp (es.map DV.it) (q.ts.drop z.1) (z.2.2.2.map (·.1)) z.2.2.2=R) (λz=>q.ts.length - z.1) ol (0,Zw,Zw,[]) oB
  ⟨Ln _,O3.Z _ _,QJ _ _ _ _,QJ _ _ _ _,by simp[ob],rfl,oe,MH,hR⟩ ?_
 rintro⟨k,vo,vt,l⟩ g w2 ⟨hk,I,J,hg,hn,ho,hr,hs,hE⟩;simp only[]at hk J hg hn ho hr hs hE;have gq:=I.size;have gr:(l.map (·.1)).length=k:=by rw[Lh,ho]
 have h2:=h1.I I;have hG:=hw.I I;refine Qe<|QX U U<|xe<|Qd<|QG U (λht=>?_) (λht=>?_)
 ·refine Qx ?_;have hH:q.ts.length<=k:=by have hh:¬(k:Int)<(q.ts.length:Int):=ht;omega
  rw[Lr hH]at hE;rw[Yp]at hE;subst hE;refine Qm<|Qa<|xf<|(QfF J hr hs oa).mono ?_;rintro r3 w3 ⟨hI,hJ⟩;refine xe<|Qm<|x Qk<|Qc<|Ql ⟨[vo,oF oG 0],oA,T.D (I.then hI λb E=>.inr (Qi J b E).1),vo,U,λe=>OU U e,λ_=>Zy hJ oa⟩
 have V:k<q.ts.length:=by have hh:(k:Int)<(q.ts.length:Int):=ht;omega
 have hK:q.ts.drop k=q.ts[k]'V::q.ts.drop (k+1):=LE V;rw[hK,jK]at hE;refine Qh<|Qd<|Qg<|Qe<|O6 (g:=ZX) (i:=k) Qhv hG.ts.arr U U V λgs hh=>?_;refine Zk (q.ts[k]'V) λy hy=>?_;rw[hy]at hh hE;refine x (Qv hh U U)<|Qa<|Qo (us:=[.string .empty,oF oG 0]) U λb9 w4 hL hM hN=>Qa<|Qj (us:=ZX y) hN U U U U oA λw5 hO hz=>xe ?_;have hu:O3 [] w2 w5:=hL.O hO hM;have hP:QQ [] w5.heap vt (l.map (·.1)):=(Qu.ints hg oa oe).I hu;refine Qm<|Qs U hz U U<|Qb<|Qa<|xf<|(Qe7 (h2.I hu) y.1 hP).mono ?_;rintro r6 w6 ⟨⟨i,rfl,hi⟩,h4⟩;have Y:=hu.D h4;have gt:=Y.size;refine Qb<|Q8 U U<|Q8 U U<|x Qk<|Qc<|Qd<|Qm<|ZA U U<|xe<|QZ rfl (λhe=>?_) (λhe=>?_)
 ·rw[OS he]at hE;subst hE;refine Qm<|x Qk<|Qc ?_;exact Ql ⟨[Zw,oF oG _],oA,T.D (I.D Y),Zw,U,λ_=>U,λe=>OU e he⟩
 rw[OR he]at hE;have h5:yl (es.map DV.it) y.1 (l.map (·.1))=0:=Lo.1 he;have hi:=hi h5;obtain⟨hF,h6⟩:=Qjs h5;rw[Lh]at hF;refine Zk (Yr (es.map DV.it) 1 y.1) λF hQ=>?_;rw[hQ]at hi hF h6 hE;subst hi;refine Qh ?_;have hS:=hz.I h4;have hT:=Qp J Y;have hU:Qu 3 G.heap.size w6 vt (l.map (·.1)):=Qp hg Y;refine Qm<|Qb<|Qa<|QB (us:=[[oF oG F]]) U U og (show 1*1<=1000000 by decide) oA λgu w7 hf gv hV=>?_;have h7:Qu 3 G.heap.size w7 vt (l.map (·.1)):=Qp hU hf;have gw:=hf.size;refine Qa<|Za (m:=1) (news:=[oF oG F]) h7 U U U (by have:=hV.at (L:=[]) oe;simpa using this) (by simp[Value.oneCell']) oa oa λhj w8 hW hl hX=>?_;refine Qc ?_;have gx:=hl.size;have hY:=Qf (Qp hT hf) hl hn;have hZ:∀b∈ob vt,G.heap.size<=b:=λb E=>(Qi h7 b E).1;have ga:O3 [] G w8:=((I.D Y).D hf).then hl λb E=>.inr (hZ b E);have gb:=(hS.I hf).J hl (λE=>ou (Qi hg b9 E).2);have h8:∀b∈ob vo,b∉ob hj:=λb E O=>by
  rcases hX b O with H|H
  ·exact hn b E H
  have:=(Qi J b E).2;omega
 refine Qw<|Qb<|Qb<|Qs U gb U U<|x (Qz ⟨U,U,Z⟩)<|Qa<|QB (us:=[QI ((F:Int),y.2)]) U U og (show 1*2<=1000000 by decide) oA λgy w9 hm gz gc=>?_;have gg:=Qp hY hm;have g0:=hm.size;refine Qa<|Za (m:=1) (news:=QI ((F:Int),y.2)) gg U U U (by have:=gc.at (L:=[]) oe;simpa using this) (by simp[Value.oneCell']) oa oa λh9 hv gh hA gi=>?_;refine Qc ?_;have hB:=Qp hW hm;have gj:Qu 3 G.heap.size hv hj ((l++[((F:Int),y.2)]).map (·.1)):=by
  have H:=Qf hB hA (λb E O=>h8 b O E);show hv.ownsRow _ _ 1 _ _ _;simp only[Og,oM,Oc]at H ⊢;simpa using H
 have gk:O3 [] G hv:=(ga.D hm).then hA λb E=>.inr (Qi J b E).1;have gl:∀b∈ob h9,b∉ob hj:=λb E O=>by
  rcases gi b E with H|H
  ·exact h8 b H O
  have:=(Qi hB b O).2;omega
 refine Qw<|QN U U<|Qb<|xe<|⟨(k+1,h9,hj,l++[((F:Int),y.2)]),by show q.ts.length - (k+1)<q.ts.length - k;omega,oB,V,gk,by rw[Lj,LA];simpa using gh,gj,gl,by simp[ho],λp S=>?_,?_,?_⟩
 ·rcases Lc.1 S with S|S
  ·exact hr p S
  simp only[oI]at S;subst S;exact⟨oh,oh⟩
 ·rw[Lp,My];refine⟨hs,oe,λa ha b E e=>?_⟩;simp only[oX,OI,oI]at E;subst E;subst e;exact h6 ha
 rw[Lp];exact hE
structure Xt where
 dr:Bool
 q:DV
abbrev Xy (e:Xt):LV:=[.bool e.dr,oF oG e.q.kd,.string e.q.nm,e.q.p.va,oF oG e.q.p.a.st,e.q.p.vm,e.q.p.ve,e.q.vl,e.q.vt,oF oG e.q.bd]
theorem QlX (e:Xt):(Xy e).length=10:=rfl
def Xt.e (e:Xt):Bool×Ys:=(e.dr,e.q.it)
def Qkf (L:LN)(H:xx)(e:Xt):Prop:=Jn L H e.q
instance:Mm Qkf:=⟨λh E=>Jn.st h E,λh G=>Jn.up h G⟩
theorem Qkf.ones {L:LN}{H:xx}{e:Xt}(h:Qkf L H e):Zj (Xy e):=⟨U,Jn.ones h⟩
abbrev Qd3 (L:LN)(H:xx)(v:O0)(l:List Xt):Prop:=Go.Lg.Ja Xy 10 Qkf L H v l
theorem Ql4 {l:List Ys}{x:Ys}(h:(qQ l x).1=0):(qQ l x).2.length<=76:=by
 unfold qQ at *;split at h
 ·rename_i E;exact OU h E
 rename_i E;have hl:=V0 (Lo.1 E);rw[OR E];split at h
 ·rename_i G;exact OU h G
 rename_i G;rw[OR G];split at h
 ·rename_i H;rw[OS H,Mk];exact hl
 rename_i H;rw[OR H];split at h
 ·cases h
 rename_i I;rw[OR I];simp only[oM,Oa,oV,o6];omega
theorem Ql8 {l:List Ys}{k:Int}{n:ByteArray}(h:(qR l k n).1=0):(qR l k n).2.length<=76:=by
 unfold qR at *;split at h
 ·rename_i E;exact OU h E
 rename_i E;have hl:=V0 (Lo.1 E);rw[OR E];split at h
 ·cases h
 rename_i G;rw[OR G];simp only[oM,Oa,o6];omega
theorem Qki {v:O0}{es:List DV}{xs:List Xt}(E:Vn L w.heap v es)(hv:Qd3 L' w.heap vx xs):
  Q5 prog 95 [v,vx] w λr w'=>O3 [] w w'/\∃vo l,r=.tuple #[vo,oF oG (yM (es.map DV.it) (xs.map Xt.e)).1]/\JI w.heap.size w' vo l/\((yM (es.map DV.it) (xs.map Xt.e)).1=0->l.map DV.it=(yM (es.map DV.it) (xs.map Xt.e)).2/\l.length<=76):=by
 have h:=E.up (L':=[]) oe;have hx:Qd3 [] w.heap vx xs:=hv.up oe;have hI:=hx.arr.le;have G:yM (es.map DV.it) (xs.map Xt.e)=if Ko (es.map DV.it)≠0 then(Ko (es.map DV.it),[])else QaR (xs.map Xt.e) (es.map DV.it):=rfl
 refine Zk (yM (es.map DV.it) (xs.map Xt.e)) λD hD=>?_;rw[hD]at G ⊢;refine Zs func95 ntmps95 results95 ?_;refine Qe<|x Qk<|Qc<|Qd<|Qm<|Qa<|xf<|(Ju h).mono ?_;rintro r1 w1 ⟨rfl,S⟩;refine Qc<|Qm<|ZA U U<|xe<|QZ rfl (λH=>?_) (λH=>?_)
 ·rw[OS H]at G;refine Qm<|x Qk<|Qc ?_;exact Ql ⟨[nS,oF oG (Ko (es.map DV.it))],oA,S,nS,[],by rw[G];rfl,Z2.nil,λE=>OU (by rw[G]at E;exact E) H⟩
 rw[OR H]at G;have hJ:es.length<=76:=by have:=V0 (Lo.1 H);rwa [Lh]at this
 refine Qh<|Qm<|Qa<|xf<|(JV (h.I S) oa).mono ?_;rintro r2 w2 ⟨hw,l2,hy,hh⟩;have hK:l2.length=es.length:=by have:=OT oP hh;rwa [Lh,Lh]at this
 have hz:=S.D hw;have h2:=S.size;refine Qc<|Qd<|Qm<|QL hx.arr U<|Qb<|xe<|Qg<|QC (α:=Nat×O0×List DV) [(4,5),(7,7),(9,10),(20,47)] (λz=>[(7,z.2.1),(20,oF oG z.1)]) (λz w'=>z.1<=xs.length/\O3 [] w w'/\JI w.heap.size w' z.2.1 z.2.2/\z.2.2.length<=76/\QaR ((xs.map Xt.e).drop z.1) (z.2.2.map DV.it)=D) (λz=>xs.length - z.1) ol (0,r2,l2) oA
  ⟨Ln _,hz,hy.base h2,(show l2.length<=76 by omega),by rw[List.drop_zero,hh];exact G.symm⟩ ?_
 rintro⟨k,vo,l⟩ g Y ⟨hk,ha,hl,hi,hR⟩;simp only[]at hk hl hi hR;refine Qe<|QX U U<|xe<|Qd<|QG U (λhb=>?_) (λhb=>?_)
 ·refine Qx ?_;have h3:xs.length<=k:=by have h4:¬(k:Int)<(xs.length:Int):=hb;omega
  rw[Lr (by rw[Lh];exact h3),QaR]at hR;refine Qm<|x Qk<|Qc ?_;exact Ql ⟨[vo,oF oG 0],oA,ha,vo,l,by rw[<-hR];rfl,hl,λ_=>⟨by rw[<-hR],hi⟩⟩
 have I:k<xs.length:=by have h4:(k:Int)<(xs.length:Int):=hb;omega
 have h5:k<(xs.map Xt.e).length:=by rw[Lh];exact I
 rw[LE h5,Mu,QaR]at hR;have hj:=Lm I;have hm:Qd3 [] Y.heap vx xs:=Go.Lg.Ja.I hx ha;refine Qh<|Qd<|Qg<|Qe<|O6 (g:=Xy) (i:=k) QlX hm.arr U U I λhL hn=>?_;refine Zk (xs[k]'I) λe he=>?_;rw[he]at hn hj hR;have ho:Jn [] Y.heap e.q:=hm.each e hj;refine x (Qv hn U U)<|Qa<|Qo (us:=[.bool false,oF oG 0,.string .empty,nS,oF oG 0,nS,nS,nS,nS,oF oG 0]) U λb9 w4 h6 h7 h8=>Qa<|Qj (us:=Xy e) h8 U U U U (Qkf.ones ho) λw5 h9 T=>xe ?_;have hc:O3 [] Y w5:=h6.O h9 h7;have hf:=ha.D hc;have hp:=hf.size;have hA:=hl.I hc;have hq:Vn [] w5.heap vo l:=JI.dits hA oa oe;have hB:=ho.I hc;refine Qe<|Qc<|Q3 (α:=O0×List DV) [(7,7),(10,10),(24,43)] (λz=>[(7,z.1),(10,oF oG (yN (l.map DV.it) e.e).1)]) (λz w'=>O3 [] w w'/\JI w.heap.size w' z.1 z.2/\((yN (l.map DV.it) e.e).1=0->z.2.map DV.it=(yN (l.map DV.it) e.e).2/\z.2.length<=76)) ol ?_ ?_
 ·refine Qe<|Qs U T U U<|xe<|QW U (λhg=>?_) (λhg=>?_)
  ·have e1:yN (l.map DV.it) e.e=qR (l.map DV.it) e.q.kd e.q.nm:=OS hg;rw[e1];refine Qw<|Qb<|Q0 U<|Qs U T U U<|Q0 U<|Q0 U<|x (Qq T U U) <|
    Qa<|xf<|(QmE hq e.q.kd e.q.nm).mono ?_
   rintro r7 w7 ⟨hC,v7,l7,rfl,hE,hr⟩;refine Qb<|Q8 U U<|Q8 U U<|x Qk<|Qc<|⟨(v7,l7),oA,hf.D hC,hE.base hp,λE=>⟨hr E,?_⟩⟩;have J:=Ql8 E;rw[<-hr E,Lh]at J;exact J
  have e1:yN (l.map DV.it) e.e=qQ (l.map DV.it) e.q.it:=OR (by show ¬e.dr=true;rw[hg];decide);rw[e1];refine Qw<|Qb<|Q0 U<|x (Zl (us:=QE e.q) T U U U)<|Qa<|xf<|(QoN hq hB).mono ?_;rintro r6 w6 ⟨hF,v6,l6,rfl,hG,hs⟩;refine Qb<|Q8 U U<|Q8 U U<|x Qk<|Qc<|⟨(v6,l6),oA,hf.D hF,hG.base hp,λE=>⟨hs E,?_⟩⟩;have J:=Ql4 E;rw[<-hs E,Lh]at J;exact J
 rintro⟨v8,l8⟩ g w8 ⟨ht,hu,V⟩;simp only[]at hu V;refine Qm<|ZA U U<|xe<|QZ rfl (λO=>?_) (λO=>?_)
 ·rw[OS O]at hR;refine Qm<|x Qk<|Qc ?_;exact Ql ⟨[nS,oF oG (yN (l.map DV.it) e.e).1],oA,ht,nS,[],by rw[<-hR];rfl,Z2.nil,λE=>OU (by rw[<-hR]at E;exact E) O⟩
 rw[OR O]at hR;obtain⟨V,hH⟩:=V (Lo.1 O);refine Qh<|Qw<|QN U U<|Qb<|xe ?_;exact⟨(k+1,v8,l8),oh,oA,I,ht,hu,hH,by simp only[];rw[V];exact hR⟩
structure zr where
 vc:O0
 lc:List IV
 vr:O0
 lr:List IV
 vx:O0
 lx:List XV
 vk:O0
 lk:List KV
def zr.bl (z:zr):LN:=ob z.vc++(ob z.vr++(ob z.vx++ob z.vk))
structure CeA (L:LN)(H:xx)(z:zr):Prop where
 c:∀q∈z.lc,j4 L H q
 r:∀q∈z.lr,j4 L H q
 x:∀q∈z.lx,XvA L H q
 k:∀q∈z.lk,KvA L H q
instance:Mm CeA:=⟨λh G=>⟨λq E=>(h.c q E).st G,λq E=>(h.r q E).st G,λq E=>(h.x q E).st G,λq E=>(h.k q E).st G⟩,λh H=>⟨λq E=>(h.c q E).up H,λq E=>(h.r q E).up H,λq E=>(h.x q E).up H,λq E=>(h.k q E).up H⟩⟩
theorem Mm.own {E:LN->Array Obj->α->Prop}[Mm E]{O O' LL:LN}{q:α}(h:E (O++LL) w.heap q)(H:O3 X w w')(I:∀b∈X,b∈O\/b∈LL)(J:∀b∈O',b∈O\/w.heap.size<=b):E (O'++LL) w'.heap q:=by
 have S:E (O'++(O++LL)) w.heap q:=Mm.up h λb G=>(Lc.1 G).elim (λG=>(J b G).imp (λh=>Lc.2 (.inl h)) id) .inl;refine Mm.mono (Mm.st S (H.mono λb G=>Lc.2 (.inr (Lc.2 (I b G))))) λb G=>?_;exact(Lc.1 G).elim (λG=>Lc.2 (.inl G)) λG=>Lc.2 (.inr (Lc.2 (.inr G)))
structure CwI (LL:LN)(B:Nat)(w:OZ)(b7:Nat)(ve:O0)(z:zr):Prop where
 b:∃T,Q7 w.heap b7 T [ve,z.vc,z.vr,z.vx,z.vk]
 oc:w.ownsRow B 64 5 z.vc z.lc.length (z.lc.flatMap QO)
 or:w.ownsRow B 64 5 z.vr z.lr.length (z.lr.flatMap QO)
 ox:w.ownsRow B 71 2 z.vx z.lx.length (z.lx.flatMap Q6)
 ok:w.ownsRow B 76 3 z.vk z.lk.length (z.lk.flatMap Zc)
 e:CeA (z.bl++LL) w.heap z
 dcr:∀b∈ob z.vc,b∉ob z.vr
 dcx:∀b∈ob z.vc,b∉ob z.vx
 dck:∀b∈ob z.vc,b∉ob z.vk
 drx:∀b∈ob z.vr,b∉ob z.vx
 drk:∀b∈ob z.vr,b∉ob z.vk
 dxk:∀b∈ob z.vx,b∉ob z.vk
section
variable {LL:LN}{w8 w9:OZ}{b7:Nat}{z:zr}
theorem CwI.I (h:CwI LL B w b7 ve z)(E:O3 [] w w8):CwI LL B w8 b7 ve z:=by
 obtain⟨T,G⟩:=h.b;exact⟨⟨T,G.I E⟩,Qp h.oc E,Qp h.or E,Qp h.ox E,Qp h.ok E,Mm.I h.e E,h.dcr,h.dcx,h.dck,h.drx,h.drk,h.dxk⟩
theorem CwI.ge (h:CwI LL B w b7 ve z):∀b∈z.bl,B<=b/\b<w.heap.size:=λb E=>by
 unfold zr.bl at E;rcases Lc.1 E with E|E
 ·exact Qi h.oc b E
 rcases Lc.1 E with E|E
 ·exact Qi h.or b E
 rcases Lc.1 E with E|E
 ·exact Qi h.ox b E
 exact Qi h.ok b E
theorem CwI.ap_c (h:CwI LL B w b7 ve z){H:O0}{q:IV}(Y:j4 (z.bl++LL) w.heap q)(V:w8.ownsRow B 64 5 H (z.lc.length+1) (z.lc.flatMap QO++QO q))(O:O3 (ob z.vc) w w8)(S:∀b∈ob H,b∈ob z.vc\/w.heap.size<=b)
  (J:O3 [b7] w8 w9) (ha:∃T,Q7 w9.heap b7 T [ve,H,z.vr,z.vx,z.vk]) (h7:b7<B) (hL:b7∈LL):CwI LL B w9 b7 ve { z with vc:=H,lc:=z.lc++[q] }:=by
 have gr:=Qi h.or;have gx:=Qi h.ox;have gk:=Qi h.ok;have g8:=Qi V;have hc:w8.ownsRow B 64 5 H (z.lc++[q]).length ((z.lc++[q]).flatMap QO):=by
  rw[Lj,LA];simpa using V
 have he:∀b∈ob z.vc,b∈z.bl:=λb E=>by
  unfold zr.bl;simp only[oU];exact .inl E
 have hz:CeA (z.bl++LL) w.heap { z with vc:=H,lc:=z.lc++[q] }:=⟨λd hd=>(Lc.1 hd).elim (h.e.c d) λhd=>by rw[Lb.1 hd];exact Y,h.e.r,h.e.x,h.e.k⟩
 have hf:CeA ((zr.bl { z with vc:=H,lc:=z.lc++[q] })++LL) w8.heap { z with vc:=H,lc:=z.lc++[q] }:=Mm.own hz O (λb E=>.inl (he b E)) λb E=>by
  unfold zr.bl at E ⊢;simp only[oU]at E ⊢;rcases E with E|E|E|E
  ·exact(S b E).imp (λE=>.inl E) id
  ·exact .inl (.inr (.inl E))
  ·exact .inl (.inr (.inr (.inl E)))
  exact .inl (.inr (.inr (.inr E)))
 refine⟨ha,Qf hc J (λb E G=>by rw[Lb.1 G]at E;have:=g8 b7 E;omega),Qf (Qf h.or O (λb E G=>h.dcr b G E)) J (λb E G=>by rw[Lb.1 G]at E;have:=gr b7 E;omega),Qf (Qf h.ox O (λb E G=>h.dcx b G E)) J (λb E G=>by rw[Lb.1 G]at E;have:=gx b7 E;omega),Qf (Qf h.ok O (λb E G=>h.dck b G E)) J (λb E G=>by rw[Lb.1 G]at E;have:=gk b7 E;omega),Mm.own hf J (λb E=>.inr (by rw[Lb.1 E];exact hL)) (λb E=>.inl E),λb E G=>(S b E).elim (λI=>h.dcr b I G) (λI=>ou (gr b G)),λb E G=>(S b E).elim (λI=>h.dcx b I G) (λI=>ou (gx b G)),λb E G=>(S b E).elim (λI=>h.dck b I G) (λI=>ou (gk b G)),h.drx,h.drk,h.dxk⟩
theorem CwI.ap_r (h:CwI LL B w b7 ve z){H:O0}{q:IV}(Y:j4 (z.bl++LL) w.heap q)(V:w8.ownsRow B 64 5 H (z.lr.length+1) (z.lr.flatMap QO++QO q))(O:O3 (ob z.vr) w w8)(S:∀b∈ob H,b∈ob z.vr\/w.heap.size<=b)
  (J:O3 [b7] w8 w9) (ha:∃T,Q7 w9.heap b7 T [ve,z.vc,H,z.vx,z.vk]) (h7:b7<B) (hL:b7∈LL):CwI LL B w9 b7 ve { z with vr:=H,lr:=z.lr++[q] }:=by
 have gc:=Qi h.oc;have gx:=Qi h.ox;have gk:=Qi h.ok;have g8:=Qi V;have hc:w8.ownsRow B 64 5 H (z.lr++[q]).length ((z.lr++[q]).flatMap QO):=by
  rw[Lj,LA];simpa using V
 have he:∀b∈ob z.vr,b∈z.bl:=λb E=>by
  unfold zr.bl;simp only[oU];exact .inr (.inl E)
 have hz:CeA (z.bl++LL) w.heap { z with vr:=H,lr:=z.lr++[q] }:=⟨h.e.c,λd hd=>(Lc.1 hd).elim (h.e.r d) λhd=>by rw[Lb.1 hd];exact Y,h.e.x,h.e.k⟩
 have hf:CeA ((zr.bl { z with vr:=H,lr:=z.lr++[q] })++LL) w8.heap { z with vr:=H,lr:=z.lr++[q] }:=Mm.own hz O (λb E=>.inl (he b E)) λb E=>by
  unfold zr.bl at E ⊢;simp only[oU]at E ⊢;rcases E with E|E|E|E
  ·exact .inl (.inl E)
  ·exact(S b E).imp (λE=>.inr (.inl E)) id
  ·exact .inl (.inr (.inr (.inl E)))
  exact .inl (.inr (.inr (.inr E)))
 refine⟨ha,Qf (Qf h.oc O (λb E G=>h.dcr b E G)) J (λb E G=>by rw[Lb.1 G]at E;have:=gc b7 E;omega),Qf hc J (λb E G=>by rw[Lb.1 G]at E;have:=g8 b7 E;omega),Qf (Qf h.ox O (λb E G=>h.drx b G E)) J (λb E G=>by rw[Lb.1 G]at E;have:=gx b7 E;omega),Qf (Qf h.ok O (λb E G=>h.drk b G E)) J (λb E G=>by rw[Lb.1 G]at E;have:=gk b7 E;omega),Mm.own hf J (λb E=>.inr (by rw[Lb.1 E];exact hL)) (λb E=>.inl E),λb E G=>(S b G).elim (λI=>h.dcr b E I) (λI=>ou (gc b E)),h.dcx,h.dck,λb E G=>(S b E).elim (λI=>h.drx b I G) (λI=>ou (gx b G)),λb E G=>(S b E).elim (λI=>h.drk b I G) (λI=>ou (gk b G)),h.dxk⟩
theorem CwI.ap_x (h:CwI LL B w b7 ve z){H:O0}{q:XV}(Y:XvA (z.bl++LL) w.heap q)(V:w8.ownsRow B 71 2 H (z.lx.length+1) (z.lx.flatMap Q6++Q6 q))(O:O3 (ob z.vx) w w8)(S:∀b∈ob H,b∈ob z.vx\/w.heap.size<=b)
  (J:O3 [b7] w8 w9) (ha:∃T,Q7 w9.heap b7 T [ve,z.vc,z.vr,H,z.vk]) (h7:b7<B) (hL:b7∈LL):CwI LL B w9 b7 ve { z with vx:=H,lx:=z.lx++[q] }:=by
 have gc:=Qi h.oc;have gr:=Qi h.or;have gk:=Qi h.ok;have g8:=Qi V;have hc:w8.ownsRow B 71 2 H (z.lx++[q]).length ((z.lx++[q]).flatMap Q6):=by
  rw[Lj,LA];simpa using V
 have he:∀b∈ob z.vx,b∈z.bl:=λb E=>by
  unfold zr.bl;simp only[oU];exact .inr (.inr (.inl E))
 have hz:CeA (z.bl++LL) w.heap { z with vx:=H,lx:=z.lx++[q] }:=⟨h.e.c,h.e.r,λd hd=>(Lc.1 hd).elim (h.e.x d) λhd=>by rw[Lb.1 hd];exact Y,h.e.k⟩
 have hf:CeA ((zr.bl { z with vx:=H,lx:=z.lx++[q] })++LL) w8.heap { z with vx:=H,lx:=z.lx++[q] }:=Mm.own hz O (λb E=>.inl (he b E)) λb E=>by
  unfold zr.bl at E ⊢;simp only[oU]at E ⊢;rcases E with E|E|E|E
  ·exact .inl (.inl E)
  ·exact .inl (.inr (.inl E))
  ·exact(S b E).imp (λE=>.inr (.inr (.inl E))) id
  exact .inl (.inr (.inr (.inr E)))
 refine⟨ha,Qf (Qf h.oc O (λb E G=>h.dcx b E G)) J (λb E G=>by rw[Lb.1 G]at E;have:=gc b7 E;omega),Qf (Qf h.or O (λb E G=>h.drx b E G)) J (λb E G=>by rw[Lb.1 G]at E;have:=gr b7 E;omega),Qf hc J (λb E G=>by rw[Lb.1 G]at E;have:=g8 b7 E;omega),Qf (Qf h.ok O (λb E G=>h.dxk b G E)) J (λb E G=>by rw[Lb.1 G]at E;have:=gk b7 E;omega),Mm.own hf J (λb E=>.inr (by rw[Lb.1 E];exact hL)) (λb E=>.inl E),h.dcr,λb E G=>(S b G).elim (λI=>h.dcx b E I) (λI=>ou (gc b E)),h.dck,λb E G=>(S b G).elim (λI=>h.drx b E I) (λI=>ou (gr b E)),h.drk,λb E G=>(S b E).elim (λI=>h.dxk b I G) (λI=>ou (gk b G))⟩
theorem CwI.ap_k (h:CwI LL B w b7 ve z){H:O0}{q:KV}(Y:KvA (z.bl++LL) w.heap q)(V:w8.ownsRow B 76 3 H (z.lk.length+1) (z.lk.flatMap Zc++Zc q))(O:O3 (ob z.vk) w w8)(S:∀b∈ob H,b∈ob z.vk\/w.heap.size<=b)
  (J:O3 [b7] w8 w9) (ha:∃T,Q7 w9.heap b7 T [ve,z.vc,z.vr,z.vx,H]) (h7:b7<B) (hL:b7∈LL):CwI LL B w9 b7 ve { z with vk:=H,lk:=z.lk++[q] }:=by
 have gc:=Qi h.oc;have gr:=Qi h.or;have gx:=Qi h.ox;have g8:=Qi V;have hc:w8.ownsRow B 76 3 H (z.lk++[q]).length ((z.lk++[q]).flatMap Zc):=by
  rw[Lj,LA];simpa using V
 have he:∀b∈ob z.vk,b∈z.bl:=λb E=>by
  unfold zr.bl;simp only[oU];exact .inr (.inr (.inr E))
 have hz:CeA (z.bl++LL) w.heap { z with vk:=H,lk:=z.lk++[q] }:=⟨h.e.c,h.e.r,h.e.x,λd hd=>(Lc.1 hd).elim (h.e.k d) λhd=>by rw[Lb.1 hd];exact Y⟩
 have hf:CeA ((zr.bl { z with vk:=H,lk:=z.lk++[q] })++LL) w8.heap { z with vk:=H,lk:=z.lk++[q] }:=Mm.own hz O (λb E=>.inl (he b E)) λb E=>by
  unfold zr.bl at E ⊢;simp only[oU]at E ⊢;rcases E with E|E|E|E
  ·exact .inl (.inl E)
  ·exact .inl (.inr (.inl E))
  ·exact .inl (.inr (.inr (.inl E)))
  exact(S b E).imp (λE=>.inr (.inr (.inr E))) id
 refine⟨ha,Qf (Qf h.oc O (λb E G=>h.dck b E G)) J (λb E G=>by rw[Lb.1 G]at E;have:=gc b7 E;omega),Qf (Qf h.or O (λb E G=>h.drk b E G)) J (λb E G=>by rw[Lb.1 G]at E;have:=gr b7 E;omega),Qf (Qf h.ox O (λb E G=>h.dxk b E G)) J (λb E G=>by rw[Lb.1 G]at E;have:=gx b7 E;omega),Qf hc J (λb E G=>by rw[Lb.1 G]at E;have:=g8 b7 E;omega),Mm.own hf J (λb E=>.inr (by rw[Lb.1 E];exact hL)) (λb E=>.inl E),h.dcr,h.dcx,λb E G=>(S b G).elim (λI=>h.dck b E I) (λI=>ou (gc b E)),h.drx,λb E G=>(S b G).elim (λI=>h.drk b E I) (λI=>ou (gr b E)),λb E G=>(S b G).elim (λI=>h.dxk b E I) (λI=>ou (gx b E))⟩
end
def yC (ev:List JY)(z:zr):ZG:=⟨ev,z.lc.map IV.it,z.lr.map IV.it,z.lx.map XV.x,z.lk.map KV.k⟩
theorem Qgw (all:List Ys)(x:Ys)(l:List Ys)(c:ZG):Qgx all (x::l) c=if(Ke all x c).1≠0 then((Ke all x c).1,UL)else Qgx all l (Ke all x c).2:=rfl
theorem QqJ {all:List Ys}{ev:List JY}{z:zr}(h:q.kd=1)(v:O0):Ke all q.it (yC ev z)=(0,yC ev { z with vc:=v,lc:=z.lc++[⟨q.nm,q.p⟩] }):=by
 unfold Ke;rw[OS (show q.it.kd=1 from h)];unfold yC;simp only[Og];rfl
theorem QqI {all:List Ys}{ev:List JY}{z:zr}(h:q.kd=2)(v:O0):Ke all q.it (yC ev z)=(0,yC ev { z with vr:=v,lr:=z.lr++[⟨q.nm,q.p⟩] }):=by
 unfold Ke;rw[OR (show ¬q.it.kd=1 from λe=>by rw[show q.it.kd=q.kd from rfl,h]at e;cases e),OS (show q.it.kd=2 from h)];unfold yC;simp only[Og];rfl
theorem QqH {all:List Ys}{ev:List JY}{z:zr}(h:q.kd=3):(Ke all q.it (yC ev z)).1=(Yp all q.ls [] []).1/\((Yp all q.ls [] []).1=0->∀v u,Ke all q.it (yC ev z)=(0,yC ev { z with vx:=v,lx:=z.lx++[⟨q.nm,u,(Yp all q.ls [] []).2⟩] })):=by
 have e:Ke all q.it (yC ev z)=if(Yp all q.ls [] []).1≠0 then((Yp all q.ls [] []).1,UL)else(0,{ yC ev z with ex:=(yC ev z).ex++[⟨q.nm,(Yp all q.ls [] []).2⟩] }):=by
  unfold Ke;rw[OR (show ¬q.it.kd=1 from λe=>by rw[show q.it.kd=q.kd from rfl,h]at e;cases e),OR (show ¬q.it.kd=2 from λe=>by rw[show q.it.kd=q.kd from rfl,h]at e;cases e),OS (show q.it.kd=3 from h)];rfl
 rw[e];refine⟨?_,λE v u=>?_⟩
 ·split
  ·rfl
  rename_i G;exact(Lo.1 G).symm
 rw[OR (not_not_intro E)];unfold yC;simp only[Og];rfl
theorem QqG {all:List Ys}{ev:List JY}{z:zr}(h:q.kd=4):(Ke all q.it (yC ev z)).1=(Yp all q.ts [] []).1/\((Yp all q.ts [] []).1=0->∀v u,Ke all q.it (yC ev z)=(0,yC ev { z with vk:=v,lk:=z.lk++[⟨q.nm,u,(Yp all q.ts [] []).2,q.bd⟩] })):=by
 have e:Ke all q.it (yC ev z)=if(Yp all q.ts [] []).1≠0 then((Yp all q.ts [] []).1,UL)else(0,{ yC ev z with cs:=(yC ev z).cs++[⟨q.nm,(Yp all q.ts [] []).2,q.bd⟩] }):=by
  unfold Ke;rw[OR (show ¬q.it.kd=1 from λe=>by rw[show q.it.kd=q.kd from rfl,h]at e;cases e),OR (show ¬q.it.kd=2 from λe=>by rw[show q.it.kd=q.kd from rfl,h]at e;cases e),OR (show ¬q.it.kd=3 from λe=>by rw[show q.it.kd=q.kd from rfl,h]at e;cases e),OS (show q.it.kd=4 from h)];rfl
 rw[e];refine⟨?_,λE v u=>?_⟩
 ·split
  ·rfl
  rename_i G;exact(Lo.1 G).symm
 rw[OR (not_not_intro E)];unfold yC;simp only[Og];rfl
theorem QqK {all:List Ys}(E:¬q.kd=1)(G:¬q.kd=2)(H:¬q.kd=3)(I:¬q.kd=4):Ke all q.it c=(0,c):=by
 unfold Ke;rw[OR (show ¬q.it.kd=1 from E),OR (show ¬q.it.kd=2 from G),OR (show ¬q.it.kd=3 from H),OR (show ¬q.it.kd=4 from I)]
theorem yj (all:List Ys):∀(r:List (ByteArray×Int)) (tk:LI) (o:xt),(Yp all r tk o).2.length<=o.length+r.length
 | [],tk,o=>by rw[Yp];exact Nat.le_of_eq ((qd (λp:Int×Int=>p.1) o).length_eq)
 | y::r,tk,o=>by
  rw[Yp];split
  ·simp
  split
  ·simp
  refine LJ (yj all r _ _) ?_;simp only[oM,oV,OD];omega
theorem Qjm {v:O0}{ev:List JY}{es:List DV}(ka:VI L w.heap ve ev)(h0:Vn L' w.heap v es)(E:∀q∈es.map DV.it,q.ls.length<=100000/\q.ts.length<=100000):
  Q5 prog 96 [ve,v] w λr w'=>O3 [] w w'/\∃cm:CL,r=.tuple #[.agg cm.cells.toArray,oF oG (VF ev (es.map DV.it)).1]/\Zj cm.cells/\((VF ev (es.map DV.it)).1=0->cm.V=(VF ev (es.map DV.it)).2/\∀L:LN,(∀b∈L,b<w.heap.size)->ZF L w'.heap cm):=by
 have h:=h0.up (L':=[]) oe;have hE:=ka.up (L':=[]) oe;have kb:=hE.arr.le;have hn:VF ev (es.map DV.it)=if Ko (es.map DV.it)≠0 then(Ko (es.map DV.it),UL)else Qgx (es.map DV.it) (es.map DV.it) ⟨ev,[],[],[],[]⟩:=rfl
 have hO:Zj (CL.mk Zw Zw Zw Zw Zw [] [] [] [] []).cells:=⟨U,U,U,U,U,Z⟩;refine Zk (VF ev (es.map DV.it)) λD hD=>?_;rw[hD]at hn ⊢;refine Zs func96 ntmps96 results96 ?_;refine Qe<|Qa<|Qo (us:=ZY) U λb4 w1 g0 mu hP=>Qc<|Qd<|Qm<|Qa<|xf<|(Ju (h.I g0)).mono ?_;rintro r2 w2 ⟨rfl,hA⟩;have hQ:=g0.D hA;have mv:=hA.size;have mw:=hP.lt;refine Qc<|Qm<|ZA U U<|xe<|QZ rfl (λhu=>?_) (λhu=>?_)
 ·rw[OS hu]at hn;refine Qe<|x (Qz Z)<|Qb<|Qa<|Qj (us:=ZY) (hP.I hA) U U U U ⟨U,U,U,U,U,Z⟩ λw3 kc ke=>Qc ?_;exact Ql ⟨[.agg ZY.toArray,oF oG (Ko (es.map DV.it))],⟨⟨_,U,Qn U (ke.at (L:=[]) oe).cells⟩,rfl,Z⟩,hQ.O kc oa,CL.mk Zw Zw Zw Zw Zw [] [] [] [] [],by rw[hn];rfl,hO,λh0=>OU (by rw[hn]at h0;exact h0) hu⟩
 rw[OR hu]at hn;have my:es.length<=76:=by have:=V0 (Lo.1 hu);rwa [Lh]at this
 refine Qh<|Qm<|Qa<|xf<|(V3 (hE.I hQ).arr).mono ?_;rintro re w4 ⟨hS,hv⟩;have mz:=hS.size;refine x (Qz ⟨xJ hv,Z⟩)<|Qa<|Qo (us:=ZY) U λI w5 kf kg kh=>Qa<|Qj (us:=[re,Zw,Zw,Zw,Zw]) kh U U U U ⟨Qt hv,U,U,U,U,Z⟩ λw6 ki g2=>xe ?_;have hT:O3 [] w4 w6:=kf.O ki kg;have g3:=(hQ.D hS).D hT;have kj:=g2.lt;have hge:=Qi hv;refine Qd<|Qm<|Qa<|xf<|(JV (h.I g3) oa).mono ?_;rintro r7 w8 ⟨hw,l,hl,T⟩;have m2:l.length=es.length:=by have:=OT oP T;rwa [Lh,Lh]at this
 have kk:=g3.D hw;have m3:=hw.size;have kn:Zv [] w8.heap r7 l.length 9 (l.flatMap QE):=QH hl.own oa oe;have ko:=g2.I hw;have hU:=((hP.I hA).I hS).I (hT.D hw);have kq:=Qp (Qp hv hT) hw;rw[<-T]at hn E;refine QL kn U<|Qb<|xe<|Qg<|QC (α:=Nat×zr) [(5,5),(9,13),(26,100)] (λz=>[(26,oF oG z.1)]) (λz w'=>z.1<=l.length/\O3 [I] w8 w'/\(∀L:LN,(∀b∈L,b<w.heap.size)->CwI (b4::I::L) w8.heap.size w' I re z.2)/\Qgx (l.map DV.it) ((l.drop z.1).map DV.it) (yC ev z.2)=D/\(z.2.lc.length<=z.1/\z.2.lr.length<=z.1/\z.2.lx.length<=z.1/\z.2.lk.length<=z.1))
  (λz=>l.length - z.1) ol (0,⟨Zw,[],Zw,[],Zw,[],Zw,[]⟩) La ⟨Ln _,O3.Z _ _,λL _=>⟨⟨_,ko⟩,QJ _ _ _ _,QJ _ _ _ _,QJ _ _ _ _,QJ _ _ _ _,⟨oe,oe,oe,oe⟩,by simp[ob],by simp[ob],by simp[ob],by simp[ob],by simp[ob],by simp[ob]⟩,by rw[List.drop_zero];exact hn.symm,Lx _,Lx _,Lx _,Lx _⟩ ?_
 rintro⟨k,z⟩ g w9 ⟨hk,hf,hI,hR,kr,kt,ku,kv⟩;simp only[]at hk hI hR kr kt ku kv;have g4:O3 [] w w9:=kk.O hf oa;have m4:=hf.size;have hg:=hI [] oe;refine Qe<|QX U U<|xe<|Qd<|QG U (λhV=>?_) (λhV=>?_)
 ·refine Qx ?_;have kw:l.length<=k:=by have kx:¬(k:Int)<(l.length:Int):=hV;omega
  rw[Lr kw]at hR;have g5:D=(0,yC ev z):=hR.symm;refine Exists.elim hg.b λT7 kz=>?_;have k0:=hU.J hf om;have g6:Zj [re,z.vc,z.vr,z.vx,z.vk]:=⟨Qt hv,Qt hg.oc,Qt hg.or,Qt hg.ox,Qt hg.ok,Z⟩;refine Qe<|Q2 kz U U<|Qa<|Qj (us:=[re,z.vc,z.vr,z.vx,z.vk]) k0 U U U U g6 λk4 hB k5=>Qc<|Ql ⟨[.agg #[re,z.vc,z.vr,z.vx,z.vk],oF oG 0],⟨⟨_,U,Qn U (k5.at (L:=[]) oe).cells⟩,rfl,Z⟩,g4.O hB oa,CL.mk re z.vc z.vr z.vx z.vk ev z.lc z.lr z.lx z.lk,by rw[g5];rfl,g6,λ_=>⟨by rw[g5];rfl,λN hN=>?_⟩⟩;have V:=hI N hN;have hF:∀b∈b4::N,b<w8.heap.size:=λb E=>by
   rcases Li.1 E with rfl|E
   ·omega
   have:=hN b E;omega
  have hG:∀b∈b4::N,b∈z.bl++(b4::I::N):=λb E=>Lc.2 (.inr (by
   rcases Li.1 E with rfl|E
   ·exact Lt
   exact Lk _ (Lk _ E)))
  have k6:=Qf kq hf (λb E T=>by rw[Lb.1 T]at E;have:=(hge I E).2;omega);have hC:ZF (b4::N) w9.heap (CL.mk re z.vc z.vr z.vx z.vk ev z.lc z.lr z.lx z.lk):=
   ⟨⟨QH k6 kb (λb E hbL=>by
     have h1:=hge b E;rcases Li.1 hbL with rfl|hbL
     ·omega
     have:=hN b hbL;omega),hE.nm⟩,
    ⟨QH V.oc (show z.lc.length<=1099511627776 by omega) (λb E hbL=>by have h1:=(Qi V.oc b E).1;have:=hF b hbL;omega),λq O=>((V.e.c q O).a.up λb E=>.inl (hG b E)),λq O=>(V.e.c q O).nm⟩,
    ⟨QH V.or (show z.lr.length<=1099511627776 by omega) (λb E hbL=>by have h1:=(Qi V.or b E).1;have:=hF b hbL;omega),λq O=>((V.e.r q O).a.up λb E=>.inl (hG b E)),λq O=>(V.e.r q O).nm⟩,
    ⟨QH V.ox (show z.lx.length<=1099511627776 by omega) (λb E hbL=>by have h1:=(Qi V.ox b E).1;have:=hF b hbL;omega),λq O=>((V.e.x q O).l.up λb E=>.inl (hG b E)),λq O=>(V.e.x q O).nm⟩,
    ⟨QH V.ok (show z.lk.length<=1099511627776 by omega) (λb E hbL=>by have h1:=(Qi V.ok b E).1;have:=hF b hbL;omega),λq O=>((V.e.k q O).l.up λb E=>.inl (hG b E)),λq O=>(V.e.k q O).nm⟩⟩
  exact(hC.st (hB.mono oe)).up λb E=>.inl (Lk _ E)
 have hh:k<l.length:=by have kx:(k:Int)<(l.length:Int):=hV;omega
 rw[LE hh,LG,Qgw]at hR;have hW:=Lm hh;have k7:Zv [] w9.heap r7 l.length 9 (l.flatMap QE):=((QH hl.own oa (λb E T=>by rw[Lb.1 T]at E;have:=(Qi hl.own I E).1;omega):Zv [I] w8.heap r7 l.length 9 (l.flatMap QE)).st hf).up oe;refine Qh<|Qd<|Qg<|Qe<|O6 (g:=QE) (i:=k) ZW k7 U U hh λm5 g7=>?_;refine Zk (l[k]'hh) λq O=>?_;rw[O]at g7 hW hR;have hH:=E q.it (LK hW);have g8:∀L:LN,(∀b∈L,b<w.heap.size)->Jn (z.bl++(b4::I::L)) w9.heap q:=λL J=>by
  have h1:Jn (b4::I::L) w8.heap q:=hl.each q hW _ λb E=>.inl (by
   simp only[oK]at E;rcases E with rfl|rfl|E
   ·omega
   ·exact kj
   have:=J b E;omega)
  have S:Jn (z.bl++(b4::I::L)) w8.heap q:=h1.up λb E=>by
   rcases Lc.1 E with E|E
   ·exact .inr ((hI L J).ge b E).1
   exact .inl E
  exact S.st (hf.mono oe)
 have ha:Jn [] w9.heap q:=(g8 [] oe).up oe;refine x (Qv g7 U U)<|Qa<|Qo (us:=z9) U λb9 k4 hB k8 k9=>Qa<|Qj (us:=QE q) k9 U U U U ha.ones λhs ma he=>xe ?_;have hi:O3 [] w9 hs:=hB.O ma k8;have hJ:=g4.D hi;have m6:=hi.size;have hj:∀L:LN,(∀b∈L,b<w.heap.size)->CwI (b4::I::L) w8.heap.size hs I re z:=λL J=>(hI L J).I hi;have hy:=hj [] oe;refine Exists.elim hy.b λT7 ht=>?_;have gc:=Qi hg.oc;have gr:=Qi hg.or;have gx:=Qi hg.ox;have gk:=Qi hg.ok;have n7c:I∉ob z.vc:=λT=>ou (gc I T).1
 have n7r:I∉ob z.vr:=λT=>ou (gr I T).1
 have n7x:I∉ob z.vx:=λT=>ou (gx I T).1
 have n7k:I∉ob z.vk:=λT=>ou (gk I T).1
 have g9:∀L:LN,(∀b∈L,b<w.heap.size)->Jn (z.bl++(b4::I::L)) hs.heap q:=λL J=>(g8 L J).I hi;have hz:O3 [I] w8 hs:=hf.D hi;refine Qe<|Qs U he U U<|xe<|Qg<|Qe<|x (Q9 U U)<|Qc<|QZ U (λhX=>?_) (λhX=>?_)
 ·have hk1:q.kd=1:=hX;refine Qw<|Qs U ht U U<|Qs U he U U<|Q0 U<|x (Zl (us:=[q.p.va,oF oG q.p.a.st,q.p.vm,q.p.ve]) he U U U)<|x (Zt [(0,[.string q.nm]),(1,[q.p.va,oF oG q.p.a.st,q.p.vm,q.p.ve])] ⟨U,U,U,U,Z⟩) <|
   Qa<|QB (us:=[QO ⟨q.nm,q.p⟩]) U U og (by exact(by decide:1*5<=1000000)) oA λmf hY G mg hZ=>Qa<|Za (m:=1) (news:=QO ⟨q.nm,q.p⟩) (L:=[]) (hy.I G).oc U U U (hZ.at oe) (Zj.all (j4.ones ⟨ha.a,ha.nm⟩)) (show z.lc.length+1<=1099511627776 by omega) (ou G.size) λho h3 h4 H ga =>
   Q0 rfl<|Qa<|QA (j:=1) (u:=ho) ((ht.I G).J H n7c) U U oe (Qt h4) λgb Y gg=>xe ?_
  have e:=QqJ (all:=l.map DV.it) (ev:=ev) (z:=z) hk1 ho;rw[e,OR oe]at hR;refine Qw<|QN U U<|Qb<|xe<|⟨(k+1,{ z with vc:=ho,lc:=z.lc++[⟨q.nm,q.p⟩] }),oh,La,hh,((hz.D G).then H (λb E=>.inr (gc b E).1)).Q Y,λL J=>((hj L J).I G).ap_c ⟨((g9 L J).I G).a,ha.nm⟩ h4 H ga Y ⟨T7,gg⟩ oa oe,hR,?_⟩
  simp only[oM,oO];omega
 have hk1:¬q.kd=1:=hX;refine Qe<|x (Q9 U U)<|Qc<|QZ U (λgh=>?_) (λgh=>?_)
 ·have gi:q.kd=2:=gh;refine Qw<|Qs U ht U U<|Qs U he U U<|Q0 U<|x (Zl (us:=[q.p.va,oF oG q.p.a.st,q.p.vm,q.p.ve]) he U U U)<|x (Zt [(0,[.string q.nm]),(1,[q.p.va,oF oG q.p.a.st,q.p.vm,q.p.ve])] ⟨U,U,U,U,Z⟩) <|
   Qa<|QB (us:=[QO ⟨q.nm,q.p⟩]) U U og (by exact(by decide:1*5<=1000000)) oA λmf hY G mg hZ=>Qa<|Za (m:=1) (news:=QO ⟨q.nm,q.p⟩) (L:=[]) (hy.I G).or U U U (hZ.at oe) (Zj.all (j4.ones ⟨ha.a,ha.nm⟩)) (show z.lr.length+1<=1099511627776 by omega) (ou G.size) λho h3 h4 H ga =>
   Q0 rfl<|Qa<|QA (j:=2) (u:=ho) ((ht.I G).J H n7r) U U oe (Qt h4) λgb Y gg=>xe ?_
  have e:=QqI (all:=l.map DV.it) (ev:=ev) (z:=z) gi ho;rw[e,OR oe]at hR;refine Qw<|QN U U<|Qb<|xe<|⟨(k+1,{ z with vr:=ho,lr:=z.lr++[⟨q.nm,q.p⟩] }),oh,La,hh,((hz.D G).then H (λb E=>.inr (gr b E).1)).Q Y,λL J=>((hj L J).I G).ap_r ⟨((g9 L J).I G).a,ha.nm⟩ h4 H ga Y ⟨T7,gg⟩ oa oe,hR,?_⟩
  simp only[oM,oO];omega
 have gi:¬q.kd=2:=gh;refine Qe<|x (Q9 U U)<|Qc<|QZ U (λgj=>?_) (λgj=>?_)
 ·have gl:q.kd=3:=gj;have h5:=yj (l.map DV.it) q.ls [] [];have hLk:=Qf7 (w:=hs) (v:=v) (es:=es) (q:=q) (h.arr.I hJ) oa (ha.I hi) hH.1;rw[<-T]at hLk;have hp:=QqH (all:=l.map DV.it) (ev:=ev) (z:=z) gl;refine Zk (Yp (l.map DV.it) q.ls [] []) λR gm=>?_;rw[gm]at hLk hp h5;refine Qm<|Q2 he U U<|Qa<|xf<|hLk.mono ?_;rintro mh hY ⟨G,vo,rfl,mj,gn⟩;refine Qb<|Q8 U U<|Q8 U U<|x Qk<|Qc<|Qd<|Qm<|ZA U U<|xe<|QZ U (λhK=>?_) (λhK=>?_)
  ·rw[hp.1,OS hK]at hR;have go:=((hU.J hf om).I hi).I G;refine Qe<|x (Qz Z)<|Qb<|Qa<|Qj (us:=ZY) go U U U U ⟨U,U,U,U,U,Z⟩ λh3 H gp=>Qc ?_;exact Ql ⟨[.agg ZY.toArray,oF oG R.1],⟨⟨_,U,Qn U (gp.at (L:=[]) oe).cells⟩,rfl,Z⟩,(hJ.D G).O H oa,CL.mk Zw Zw Zw Zw Zw [] [] [] [] [],by rw[<-hR];rfl,hO,λh0=>OU (by rw[<-hR]at h0;exact h0) hK⟩
  have h6:=Lo.1 hK;have hc:=gn h6;have gq:=Qi hc;have mo:=G.size;have h7:=ht.I G;refine Qh<|Qw<|Qs U h7 U U<|Qs U (he.I G) U U<|Qb<|x (Qz ⟨U,xJ hc,Z⟩)<|Qa<|QB (us:=[[.string q.nm,vo]]) U U og (by exact(by decide:1*2<=1000000)) oA λmq h3 H ms gs=>?_;have gt:=(hy.I G).I H;refine Qa<|Za (m:=1) (news:=[.string q.nm,vo]) (L:=[]) gt.ox U U U (gs.at oe) (Zj.all (us:=[.string q.nm,vo]) ⟨rfl,Qt hc,Z⟩) (show z.lx.length+1<=1099511627776 by omega) (ou H.size) λhr gb h8 Y gu =>
   Q0 rfl<|Qa<|QA (j:=3) (u:=hr) ((h7.I H).J Y n7x) U U oe (Qt h8) λmt h9 gv=>xe ?_
  have e:=hp.2 h6 hr vo;rw[e,OR oe]at hR;refine Qw<|QN U U<|Qb<|xe ?_;have gw:R.2.length<=1099511627776:=by
   have h1:=hc.1;exact LJ h5 (by have S:q.ls.length<=100000:=hH.1;simp only[OD];omega)
  refine⟨(k+1,{ z with vx:=hr,lx:=z.lx++[⟨q.nm,vo,R.2⟩] }),oh,La,hh,(((hz.D G).D H).then Y (λb E=>.inr (gx b E).1)).Q h9,λL J=>(((hj L J).I G).I H).ap_x ⟨(QH hc gw (λb E hbL=>?_)).I H,ha.nm⟩ h8 Y gu h9 ⟨T7,gv⟩ oa oe,hR,?_⟩
  ·have h1:=(gq b E).1;rcases Lc.1 hbL with S|S
   ·have:=((hj L J).ge b S).2;omega
   simp only[oK]at S;rcases S with rfl|rfl|S
   ·omega
   ·omega
   have:=J b S;omega
  simp only[oM,oO];omega
 have gl:¬q.kd=3:=gj;refine Qe<|x (Q9 U U)<|Qc<|QG U (λgy=>?_) (λgy=>?_)
 ·have gz:¬q.kd=4:=gy;rw[QqK hk1 gi gl gz,OR oe]at hR;refine Qh<|Qw<|QN U U<|Qb<|xe ?_;exact⟨(k+1,z),oh,La,hh,hz,hj,hR,oh⟩
 have gz:q.kd=4:=gy;have h5:=yj (l.map DV.it) q.ts [] [];have hLk:=Qhf (w:=hs) (v:=v) (es:=es) (q:=q) (h.arr.I hJ) oa (ha.I hi) hH.2;rw[<-T]at hLk;have hp:=QqG (all:=l.map DV.it) (ev:=ev) (z:=z) gz;refine Zk (Yp (l.map DV.it) q.ts [] []) λR gm=>?_;rw[gm]at hLk hp h5;refine Qm<|Q2 he U U<|Qa<|xf<|hLk.mono ?_;rintro mh hY ⟨G,vo,rfl,mj,gn⟩;refine Qb<|Q8 U U<|Q8 U U<|x Qk<|Qc<|Qd<|Qm<|ZA U U<|xe<|QZ rfl (λhM=>?_) (λhM=>?_)
 ·rw[hp.1,OS hM]at hR;have go:=((hU.J hf om).I hi).I G;refine Qe<|x (Qz Z)<|Qb<|Qa<|Qj (us:=ZY) go U U U U ⟨U,U,U,U,U,Z⟩ λh3 H gp=>Qc ?_;exact Ql ⟨[.agg ZY.toArray,oF oG R.1],⟨⟨_,U,Qn U (gp.at (L:=[]) oe).cells⟩,rfl,Z⟩,(hJ.D G).O H oa,CL.mk Zw Zw Zw Zw Zw [] [] [] [] [],by rw[<-hR];rfl,hO,λh0=>OU (by rw[<-hR]at h0;exact h0) hM⟩
 have h6:=Lo.1 hM;have hc:=gn h6;have gq:=Qi hc;have mo:=G.size;have h7:=ht.I G;refine Qh<|Qw<|Qs U h7 U U<|Qs U (he.I G) U U<|Qb<|Qs U (he.I G) U U<|x (Qz ⟨U,xJ hc,U,Z⟩)<|Qa<|QB (us:=[[.string q.nm,vo,oF oG q.bd]]) U U og (by exact(by decide:1*3<=1000000)) oA λmq h3 H ms gs=>?_;have gt:=(hy.I G).I H;refine Qa<|Za (m:=1) (news:=[.string q.nm,vo,oF oG q.bd]) (L:=[]) gt.ok U U U (gs.at oe) (Zj.all (us:=[.string q.nm,vo,oF oG q.bd]) ⟨rfl,Qt hc,rfl,Z⟩) (show z.lk.length+1<=1099511627776 by omega) (ou H.size) λhr gb h8 Y gu =>
  Q0 rfl<|Qa<|QA (j:=4) (u:=hr) ((h7.I H).J Y n7k) U U oe (Qt h8) λmt h9 gv=>xe ?_
 have e:=hp.2 h6 hr vo;rw[e,OR oe]at hR;refine Qw<|QN U U<|Qb<|xe ?_;have gw:R.2.length<=1099511627776:=by
  have h1:=hc.1;exact LJ h5 (by have S:q.ts.length<=100000:=hH.2;simp only[OD];omega)
 refine⟨(k+1,{ z with vk:=hr,lk:=z.lk++[⟨q.nm,vo,R.2,q.bd⟩] }),oh,La,hh,(((hz.D G).D H).then Y (λb E=>.inr (gk b E).1)).Q h9,λL J=>(((hj L J).I G).I H).ap_k ⟨(QH hc gw (λb E hbL=>?_)).I H,ha.nm⟩ h8 Y gu h9 ⟨T7,gv⟩ oa oe,hR,?_⟩
 ·have h1:=(gq b E).1;rcases Lc.1 hbL with S|S
  ·have:=((hj L J).ge b S).2;omega
  simp only[oK]at S;rcases S with rfl|rfl|S
  ·omega
  ·omega
  have:=J b S;omega
 simp only[oM,oO];omega
abbrev edV (s:KI)(cm:CL)(vp:O0)(qs:List VA)(made:Int)(v24:O0)(q:UQ)(v16:O0)(b12 b13:Nat):KI:=⟨s.b,⟨cm,vp,qs⟩,made,v24,s.rs++[q],v16,s.us++[⟨b12,b13,s.s⟩]⟩
theorem Qjd {wA wC wD wE wF wI wJ wK wN wP wM:OZ}{s:KI}{cm:CL}{vp:O0}{qs:List VA}{q:UQ}{made:Int}{v16 v24:O0}{b12 b13 T12 T13 TS:Nat}
  (h:VO L w s) (hL:∀b∈L,b<w.heap.size) (hc:O3 [] w wA) (hn:w.heap.size<=G/\G<wA.heap.size) (hp:Pts (G::L) wA.heap vp qs) (hq:KO (G::L) wA.heap q)
  (hz:O3 [] wA wC) (ho:wA.heap.size<=b12) (hr:wA.heap.size<=b13) (hs:Q7 wC.heap b12 T12 s.s.c.cells) (ht:Q7 wC.heap b13 T13 [s.s.vp])
  (hj:O3 (ob s.vu) wC wD) (hv:wD.ownsRow 0 216 1 v16 (s.us.length+1) (s.us.map KZ++[KZ ⟨b12,b13,s.s⟩])) (S:∀b∈ob v16,b∈ob s.vu\/wC.heap.size<=b)
  (he:O3 [s.b] wD wE) (hf:O3 [] wE wF) (h0:∀N:LN,(∀b∈N,b<wE.heap.size)->ZF N wF.heap cm) (hg:O3 [s.b] wF wI) (hh:O3 [] wI wJ) (hk:O3 (ob s.vr) wJ wK)
  (h4:wK.ownsRow 0 88 3 v24 (s.rs.length+1) (s.rs.flatMap Zr++Zr q)) (T:∀b∈ob v24,b∈ob s.vr\/wJ.heap.size<=b)
  (hi:O3 [s.b] wK wN) (h5:Q7 wN.heap s.b TS (Qaa (edV s cm vp qs made v24 q v16 b12 b13))) (V:O3 [] wN wP) (Y:O3 [G] wP wM):
  O3 s.own w wM/\VO ((edV s cm vp qs made v24 q v16 b12 b13).own++L) wM (edV s cm vp qs made v24 q v16 b12 b13)/\∀b∈(edV s cm vp qs made v24 q v16 b12 b13).own,b∈s.own\/w.heap.size<=b:=by
 have ha:=h.lt;have z2:=hj.size;have z3:=he.size;have z4:=hf.size;have z5:=hg.size;have z6:=hh.size;have msb:s.b∈s.own:=Lt;have mvr:∀b∈ob s.vr,b∈s.own:=λb E=>Lk _ (Lc.2 (.inl E));have mvu:∀b∈ob s.vu,b∈s.own:=λb E=>Lk _ (Lc.2 (.inr E));have lsb:=ha _ msb;have lvr:=λb E=>ha b (mvr b E);have lvu:=λb E=>ha b (mvu b E);have h6:=hs.lt;have h7:=ht.lt;have hw:=Qi hv;have sC:O3 (s.own++[G]) wA wC:=hz.any;have sD:=sC.Q (hj.mono λb E=>Lc.2 (.inl (mvu b E)));have sE:=sD.Q (he.mono λb E=>by rw[Lb.1 E];exact Lc.2 (.inl msb));have sF:=sE.D hf;have s5:O3 (s.own++[G]) wF wI:=hg.mono λb E=>by rw[Lb.1 E];exact Lc.2 (.inl msb)
 have s7:O3 (s.own++[G]) wJ wK:=hk.mono λb E=>Lc.2 (.inl (mvr b E));have s8:O3 (s.own++[G]) wK wN:=hi.mono λb E=>by rw[Lb.1 E];exact Lc.2 (.inl msb)
 have h8:O3 (s.own++[G]) wP wM:=Y.mono λb E=>Lc.2 (.inr E);have sKM:O3 (s.own++[G]) wK wM:=(s8.D V).Q h8;have sFM:O3 (s.own++[G]) wF wM:=((s5.D hh).Q s7).Q sKM;have sAM:O3 (s.own++[G]) wA wM:=sF.Q sFM;have sDM:O3 (s.own++[G]) wD wM:=((he.mono λb E=>by rw[Lb.1 E];exact Lc.2 (.inl msb):O3 (s.own++[G]) wD wE).D hf).Q sFM;have sCM:O3 (s.own++[G]) wC wM:=(hj.mono λb E=>Lc.2 (.inl (mvu b E)):O3 (s.own++[G]) wC wD).Q sDM;have h9:∀b∈s.own++[G],b∈G::L:=λb E=>by
  rcases Lc.1 E with E|E
  ·exact Lk _ (h.sub b E)
  rw[Lb.1 E];exact Lt
 have own':∀b∈(edV s cm vp qs made v24 q v16 b12 b13).own,b∈s.own\/wC.heap.size<=b:=λb E=>by
  rcases Li.1 E with rfl|E
  ·exact .inl msb
  rcases Lc.1 E with E|E
  ·rcases T b E with I|I
   ·exact .inl (mvr b I)
   exact .inr oa
  rcases S b E with I|I
  ·exact .inl (mvu b I)
  exact .inr I
 have upL:∀b∈((edV s cm vp qs made v24 q v16 b12 b13).own++(G::L)),b∈G::L\/wA.heap.size<=b:=λb E=>by
  rcases Lc.1 E with E|E
  ·rcases own' b E with I|I
   ·exact .inl (Lk _ (h.sub b I))
   exact .inr oa
  exact .inl E
 have dn:∀b∈(edV s cm vp qs made v24 q v16 b12 b13).own++L,b∈(edV s cm vp qs made v24 q v16 b12 b13).own++(G::L):=λb E=>by
  rcases Lc.1 E with E|E
  ·exact Lc.2 (.inl E)
  exact Lc.2 (.inr (Lk _ E))
 have sAM':O3 ((edV s cm vp qs made v24 q v16 b12 b13).own++(G::L)) wA wM:=sAM.mono λb E=>Lc.2 (.inr (h9 b E));have hl:∀b∈G::L,b∈L\/w.heap.size<=b:=λb E=>by
  rcases Li.1 E with rfl|E
  ·exact .inr hn.1
  exact .inl E
 have mS:yR ((edV s cm vp qs made v24 q v16 b12 b13).own++L) wM.heap s.s:=Mm.mono (Mm.st (Mm.up (Mm.I (Mm.up h.st hl) hc) upL) sAM') dn;have nown:∀b,wA.heap.size<=b->b<wC.heap.size->b∉(edV s cm vp qs made v24 q v16 b12 b13).own++L:=λb I H E=>by
  rcases Lc.1 E with E|E
  ·rcases own' b E with O|O
   ·have:=ha b O;omega
   omega
  have:=hL b E;omega
 have nst:∀b,wA.heap.size<=b->b∉s.own++[G]:=λb I E=>by
  rcases Lc.1 E with E|E
  ·have:=ha b E;omega
  rw[Lb.1 E]at I;omega
 refine⟨?_,⟨⟨TS,?_⟩,?_,?_,?_,?_,?_,λb E=>Lc.2 (.inl E),⟨?_,?_⟩,λd hd=>?_,λu hu=>?_⟩,λb E=>(own' b E).imp id λI=>oa⟩
 ·exact hc.any.then sAM λb E=>by
   rcases Lc.1 E with E|E
   ·exact .inl E
   rw[Lb.1 E];exact .inr hn.1
 ·exact(h5.I V).J Y (by simp only[oI];show s.b≠G;omega)
 ·have I:wK.ownsRow 0 88 3 v24 (s.rs++[q]).length ((s.rs++[q]).flatMap Zr):=by
   rw[Lj,LA];simpa using h4
  refine Qf (Qp (Qf I hi λb E J=>?_) V) Y λb E J=>?_
  ·rcases T b E with H|H
   ·exact h.d1 (Lb.1 J ▸ H)
   rw[Lb.1 J]at H;omega
  rw[Lb.1 J]at E;rcases T G E with H|H
  ·have:=lvr G H;omega
  omega
 ·have I:wD.ownsRow 0 216 1 v16 (s.us++[(⟨b12,b13,s.s⟩:UnV)]).length ((s.us++[(⟨b12,b13,s.s⟩:UnV)]).map KZ):=by
   rw[Lj,Lp];simpa using hv
  have nsb:∀b∈ob v16,b∉[s.b]:=λb E J=>by
   rw[Lb.1 J]at E;rcases S s.b E with H|H
   ·exact h.d2 H
   omega
  have nvr:∀b∈ob v16,b∉ob s.vr:=λb E J=>by
   rcases S b E with H|H
   ·exact h.d3 b J H
   have:=lvr b J;omega
  have n4:∀b∈ob v16,b∉[G]:=λb E J=>by
   rw[Lb.1 J]at E;rcases S G E with H|H
   ·have:=lvu G H;omega
   omega
  exact Qf (Qp (Qf (Qf (Qp (Qf (Qp (Qf I he nsb) hf) hg nsb) hh) hk nvr) hi nsb) V) Y n4
 ·intro E;rcases T s.b E with H|H
  ·exact h.d1 H
  omega
 ·intro E;rcases S s.b E with H|H
  ·exact h.d2 H
  omega
 ·intro b E J;rcases T b E with H|H
  ·rcases S b J with O|O
   ·exact h.d3 b H O
   have:=lvr b H;omega
  have:=(hw b J).2;omega
 ·have I:ZF (s.b::(ob v16++(ob s.vr++(G::L)))) wF.heap cm:=h0 _ λb E=>by
   rcases Li.1 E with rfl|E
   ·omega
   rcases Lc.1 E with E|E
   ·have:=(hw b E).2;omega
   rcases Lc.1 E with E|E
   ·have:=lvr b E;omega
   rcases Li.1 E with rfl|E
   ·omega
   have:=hL b E;omega
  have H:ZF (ob v24++(s.b::(ob v16++(ob s.vr++(G::L))))) wF.heap cm:=I.up λb E=>by
   rcases Lc.1 E with E|E
   ·rcases T b E with O|O
    ·exact .inl (Lk _ (Lc.2 (.inr (Lc.2 (.inl O)))))
    exact .inr oa
   exact .inl E
  have hy:∀b∈[s.b],b∈ob v24++(s.b::(ob v16++(ob s.vr++(G::L)))):=λb E=>by rw[Lb.1 E];exact Lc.2 (.inr Lt)
  have O:=((((((H.st (hg.mono hy)).I hh).st (hk.mono λb E=>Lc.2 (.inr (Lk _ (Lc.2 (.inr (Lc.2 (.inl E)))))))).st (hi.mono hy)).I V).st (Y.mono λb E=>by
   rw[Lb.1 E];exact Lc.2 (.inr (Lk _ (Lc.2 (.inr (Lc.2 (.inr Lt))))))))
  refine O.up λb E=>.inl ?_;rcases Lc.1 E with E|E
  ·rcases Li.1 E with rfl|E
   ·exact Lc.2 (.inr Lt)
   rcases Lc.1 E with E|E
   ·exact Lc.2 (.inl E)
   exact Lc.2 (.inr (Lk _ (Lc.2 (.inl E))))
  exact Lc.2 (.inr (Lk _ (Lc.2 (.inr (Lc.2 (.inr (Lk _ E)))))))
 ·have I:Pts ((edV s cm vp qs made v24 q v16 b12 b13).own++(G::L)) wM.heap vp qs:=Go.Lg.Ja.st (Go.Lg.Ja.up hp upL) sAM';exact Go.Lg.Ja.up I λb E=>.inl (dn b E)
 ·rcases Lc.1 hd with hd|hd
  ·exact Mm.mono (Mm.st (Mm.up (Mm.I (Mm.up (h.rA d hd) hl) hc) upL) sAM') dn
  rw[Lb.1 hd];exact Mm.mono (Mm.st (Mm.up hq upL) sAM') dn
 rcases Lc.1 hu with hu|hu
 ·exact Mm.mono (Mm.st (Mm.up (Mm.I (Mm.up (h.uA u hu) hl) hc) upL) sAM') dn
 rw[Lb.1 hu];exact⟨(hs.J sCM (nst b12 ho)).at (nown b12 ho h6),(ht.J sCM (nst b13 hr)).at (nown b13 hr h7),mS⟩
def ShI (x:Ys):Prop:=x.ls.length<=100000/\x.ts.length<=100000
theorem QaQ {co:List XG}:∀{l:xt}{r:List (ByteArray×Int)},UH co l=some r->r.length=l.length
 | [],r,h=>by
  rw[UH]at h;cases h;rfl
 | y::l,r,h=>by
  rw[UH]at h;cases E:yJ co y.1 with
  | none=>rw[E]at h;cases h
  | some n =>
   rw[E]at h;obtain⟨H,G,rfl⟩:=Mo.1 h;rw[LQ,LQ,QaQ G]
theorem Qe3 {co:List XG}:∀{l:List qz}{a:List Ys},KQ co l=some a->(∀q∈l,q.ls.length<=100000)->∀x∈a,ShI x
 | [],a,h,_=>by
  rw[KQ]at h;cases h
  exact λx hx=>by cases hx
 | x::l,a,h,G=>by
  rw[KQ]at h;cases hx:UH co x.ls with
  | none=>rw[hx]at h;cases h
  | some n =>
   rw[hx]at h;obtain⟨I,H,rfl⟩:=Mo.1 h;intro y E;rcases Li.1 E with rfl|E
   ·exact⟨by show n.length<=_;rw[QaQ hx];exact G x Lt,oe⟩
   exact Qe3 H (λq h=>G q (Lk _ h)) y E
theorem Qe4 {co:List XG}:∀{l:List xI}{a:List Ys},Vf co l=some a->(∀q∈l,q.ts.length<=100000)->∀x∈a,ShI x
 | [],a,h,_=>by
  rw[Vf]at h;cases h
  exact λx hx=>by cases hx
 | x::l,a,h,G=>by
  rw[Vf]at h;cases hx:UH co x.ts with
  | none=>rw[hx]at h;cases h
  | some n =>
   rw[hx]at h;obtain⟨I,H,rfl⟩:=Mo.1 h;intro y E;rcases Li.1 E with rfl|E
   ·exact⟨oe,by show n.length<=_;rw[QaQ hx];exact G x Lt⟩
   exact Qe4 H (λq h=>G q (Lk _ h)) y E
theorem Ql5 (E:CSz c)(h:(YK c).1=0):∀x∈(YK c).2,ShI x:=by
 obtain⟨a,b,G,H,e,_⟩:=Qjj h;intro x hx;rw[e]at hx;rcases Lc.1 hx with hx|hx
 ·obtain⟨y,_,rfl⟩:=LD.1 hx;exact⟨by simp[KA],by simp[KA]⟩
 rcases Lc.1 hx with hx|hx
 ·obtain⟨y,_,rfl⟩:=LD.1 hx;exact⟨by simp[KA],by simp[KA]⟩
 rcases Lc.1 hx with hx|hx
 ·exact Qe3 G E.x x hx
 exact Qe4 H E.k x hx
theorem Ql3 {l:List Ys}{x:Ys}(hl:∀y∈l,ShI y)(hx:ShI x):∀y∈(qQ l x).2,ShI y:=by
 unfold qQ;split
 ·exact λy E=>by cases E
 split
 ·exact λy E=>by cases E
 split
 ·intro y E;rcases MS E with E|rfl
  ·exact hl y E
  exact hx
 split
 ·exact λy E=>by cases E
 intro y E;rcases Lc.1 E with E|E
 ·exact hl y (LR E)
 rcases Li.1 E with rfl|E
 ·exact hx
 exact hl y (L6 E)
theorem Ql7 {l:List Ys}{k:Int}{n:ByteArray}(hl:∀y∈l,ShI y):∀y∈(qR l k n).2,ShI y:=by
 unfold qR;split
 ·exact λy E=>by cases E
 split
 ·exact λy E=>by cases E
 intro y E;rcases Lc.1 E with E|E
 ·exact hl y (LR E)
 exact hl y (L6 E)
theorem Qe5:∀{es:List (Bool×Ys)}{l:List Ys},(∀y∈l,ShI y)->(∀e∈es,ShI e.2)->∀y∈(QaR es l).2,ShI y
 | [],l,hl,_=>by rw[QaR];exact hl
 | e::es,l,hl,E=>by
  rw[QaR];split
  ·exact λy G=>by cases G
  refine Qe5 ?_ λe h=>E e (Lk _ h);unfold yN;split
  ·exact Ql7 hl
  exact Ql3 hl (E e Lt)
theorem Ql9 {es:List (Bool×Ys)}{l:List Ys}(hl:∀y∈l,ShI y)(E:∀e∈es,ShI e.2):∀y∈(yM l es).2,ShI y:=by
 unfold yM;split
 ·exact λy G=>by cases G
 exact Qe5 hl E
structure UnZ where
 b12:Nat
 b13:Nat
def unP (N:Nat)(i:Nat)(v:O0)(w':OZ):Prop:=∃b T,v=pS b/\N<=b/\Q7 w'.heap b T (if i=8 then ZY else[Zw])
theorem QkC (N:Nat):∀i v (w w':OZ),unP N i v w->O3 [] w w'->unP N i v w':=λ_ _ _ _ ⟨b,T,E,G,H⟩ I=>⟨b,T,E,G,H.I I⟩
theorem QmC {L2:LN}{s:KI}{xs:List Xt}(h:VO L w s)(hL:∀b∈L,b<w.heap.size)(hx:Qd3 L2 w.heap vl xs)(k0:∀e∈xs.map Xt.e,ShI e.2)(gt:Qj1 s.s.c.V (s.s.ps.map (·.pt)))(k4:s.s.ps.length<=1000)
  (hm:0<=s.made/\s.made<=1099511627776) (hrl:s.rs.length<=64) (hul:s.us.length<=64) (k5:Kb w 4096):
  Q5 prog 40 [pS s.b,vl] w λr w'=>∃qr:UQ,r=.tuple #[.agg (Zr qr).toArray,oF oG (edE s.sys (xs.map Xt.e))]/\(∀N:LN,(∀b∈N,b<w.heap.size)->KO N w'.heap qr)/\(edE s.sys (xs.map Xt.e)≠0->O3 [] w w'/\qr.rp=⟨[],[],[]⟩) /\
   (edE s.sys (xs.map Xt.e)=0->qr.rp=Xs (qF s.s.c.V (xs.map Xt.e)).2 (s.s.ps.map (·.pt)) ((s.us.length:Int)+1)/\∃s':KI,s'.b=s.b/\s'.sys=edS s.sys (xs.map Xt.e)/\O3 s.own w w'/\VO (s'.own++L) w' s'/\∀b∈s'.own,b∈s.own\/w.heap.size<=b):=by
 obtain⟨TS,Y⟩:=h.blk;have gu:=gt.ck;have gv:=yp gu;have gw:Zv [] w.heap s.vu s.us.length 1 (s.us.map KZ):=QH h.ru oa oe;have gx:s.sys.un.length=s.us.length:=Lh _;have k6:(s.s.ps.map (·.e.ky)).Nodup:=by
  have:=gt.ky;rw[Mh]at this;have e:s.s.ps.map (·.e.ky)=(O7 s.s.c.V).map (ZM s.s.c.V):=this;rw[e];exact QbS gu
 have k7:(xs.map Xt.e).length=xs.length:=Lh _;have k8:∀(w':OZ) (N:LN),KO N w'.heap ⟨Zw,[],Zw,[],Zw,[]⟩:=λw' N=>⟨Zv.nil _ _ _,Zv.nil _ _ _,Zv.nil _ _ _⟩;have H:edE s.sys (xs.map Xt.e)=if xs.length=0 then 12 else if s.us.length=64 then 3 else if(qF s.s.c.V (xs.map Xt.e)).1≠0 then(qF s.s.c.V (xs.map Xt.e)).1 else X9 (qF s.s.c.V (xs.map Xt.e)).2 (s.s.ps.map (·.pt)) ((s.us.length:Int)+1):=by
  unfold edE;rw[k7,gx];rfl
 have S:qF s.s.c.V (xs.map Xt.e)=if(edI s.s.c.V (xs.map Xt.e)).1≠0 then((edI s.s.c.V (xs.map Xt.e)).1,UL)else if(VF s.s.c.V.ev (edI s.s.c.V (xs.map Xt.e)).2).1≠0 then((VF s.s.c.V.ev (edI s.s.c.V (xs.map Xt.e)).2).1,UL)else if Zm (VF s.s.c.V.ev (edI s.s.c.V (xs.map Xt.e)).2).2≠0 then(Zm (VF s.s.c.V.ev (edI s.s.c.V (xs.map Xt.e)).2).2,UL)else(0,(VF s.s.c.V.ev (edI s.s.c.V (xs.map Xt.e)).2).2):=rfl
 have hv:edI s.s.c.V (xs.map Xt.e)=if(YK s.s.c.V).1≠0 then((YK s.s.c.V).1,[])else yM (YK s.s.c.V).2 (xs.map Xt.e):=rfl
 have hR:(YK s.s.c.V).1=0->∀y∈(yM (YK s.s.c.V).2 (xs.map Xt.e)).2,ShI y:=λh0=>Ql9 (Ql5 gv h0) k0;have hC:edS s.sys (xs.map Xt.e)=⟨(qF s.s.c.V (xs.map Xt.e)).2,UP (qF s.s.c.V (xs.map Xt.e)).2 (s.s.ps.map (·.pt)) ((s.us.length:Int)+1),s.made+((Xs (qF s.s.c.V (xs.map Xt.e)).2 (s.s.ps.map (·.pt)) ((s.us.length:Int)+1)).made.length:Int),s.rs.map UQ.rp++[Xs (qF s.s.c.V (xs.map Xt.e)).2 (s.s.ps.map (·.pt)) ((s.us.length:Int)+1)],(s.us.map λu=>u.s.st)++[(s.s.c.V,s.s.ps.map (·.pt))]⟩:=by
  unfold edS;rw[gx];rfl
 refine Zk (edE s.sys (xs.map Xt.e)) λE hE=>?_;refine Zk (edS s.sys (xs.map Xt.e)) λES gy=>?_;refine Zk (qF s.s.c.V (xs.map Xt.e)) λEC gz=>?_;refine Zk (edI s.s.c.V (xs.map Xt.e)) λEI k9=>?_;rw[hE]at H;rw[gy]at hC;rw[gz]at H S hC;rw[k9]at S hv;rw[hE,gy,gz];refine Zs func40 ntmps40 results40 ?_;refine Qe<|Qa<|Qo (us:=Yx) U λI w1 hj ga hw=>Qc ?_;have hl4:=hw.lt;have bad:∀(e:Int) (w2 T:OZ),E=e->e≠0->O3 [] w w2->O3 [I] w2 T->(∃qr:UQ,tup [.agg Yx.toArray,oF oG e]=.tuple #[.agg (Zr qr).toArray,oF oG E]/\(∀N:LN,(∀b∈N,b<w.heap.size)->KO N T.heap qr)/\(E≠0->O3 [] w T/\qr.rp=⟨[],[],[]⟩) /\
   (E=0->qr.rp=Xs EC.2 (s.s.ps.map (·.pt)) ((s.us.length:Int)+1)/\∃s':KI,s'.b=s.b/\s'.sys=ES/\O3 s.own w T/\VO (s'.own++L) T s'/\∀b∈s'.own,b∈s.own\/w.heap.size<=b)):=λe w2 T O h2 h3 h4 =>
  ⟨⟨Zw,[],Zw,[],Zw,[]⟩,by rw[O];rfl,λN _=>k8 T N,λ_=>⟨h3.O h4 oa,U⟩,λh0=>OU (O.symm.D h0) h2⟩
 refine Qd<|Qg<|Qm<|x (XX underlying46 U U)<|Qc<|ZO U ?_;refine Qm<|QL hx.arr U<|x (Q9 U U)<|Qc<|QZ U (λgb=>?_) (λgb=>?_)
 ·rw[OS (by have ma:(xs.length:Int)=0:=gb;omega)]at H;refine Qe<|x (Qz Z)<|Qa<|Qj (us:=Yx) hw U U U U oB λT ha hD=>Qc ?_;exact Ql ⟨[.agg Yx.toArray,oF oG 12],⟨⟨_,U,Qn U (hD.at (L:=[]) oe).cells⟩,rfl,Z⟩,bad 12 w1 T H og hj ha⟩
 rw[OR (by have ma:¬(xs.length:Int)=0:=gb;omega)]at H;refine Qm<|Yb U<|Qs U (Y.I hj) U U<|QL (gw.I hj) U<|x (Q9 U U)<|Qc<|QZ U (λgc=>?_) (λgc=>?_)
 ·rw[OS (by have mf:(s.us.length:Int)=64:=gc;omega)]at H;refine Qe<|x (Qz Z)<|Qa<|Qj (us:=Yx) hw U U U U oB λT ha hD=>Qc ?_;exact Ql ⟨[.agg Yx.toArray,oF oG 3],⟨⟨_,U,Qn U (hD.at (L:=[]) oe).cells⟩,rfl,Z⟩,bad 3 w1 T H og hj ha⟩
 have mg:¬s.us.length=64:=by have mf:¬(s.us.length:Int)=64:=gc;omega
 rw[OR mg]at H;refine Qh<|Qm<|Yb U<|Q0 U<|x (Zl (us:=s.s.c.cells) (Y.I hj) U U U)<|Qa<|xf<|(Qdo (h.st.c.I hj) gv).mono ?_;rintro r5 w2 ⟨ho,v5,rfl,_,mh⟩;have gg:=hj.D ho;refine Qb<|Q8 U U<|Q8 U U<|x Qk<|Qc<|Qd<|Qm<|ZA U U<|xe<|QZ rfl (λhp=>?_) (λhp=>?_)
 ·rw[OS hp]at hv;rw[hv,OS hp]at S;rw[S,OS hp]at H;refine Qe<|x (Qz Z)<|Qb<|Qa<|Qj (us:=Yx) (hw.I ho) U U U U oB λT ha hD=>Qc ?_;exact Ql ⟨[.agg Yx.toArray,oF oG (YK s.s.c.V).1],⟨⟨_,U,Qn U (hD.at (L:=[]) oe).cells⟩,rfl,Z⟩,bad _ w2 T H hp gg ha⟩
 rw[OR hp]at hv;have gh:=Lo.1 hp;have hR:=hR gh;refine Exists.elim (mh gh) λl5 gi=>?_;have mj:Vn [] w2.heap v5 l5:=by
  refine JI.dits gi.1 ?_ oe;have O:=OT oP gi.2;rw[Lh]at O;obtain⟨_,_,_,_,_,hk⟩:=Qjj gh;have:=V0 hk;omega
 have hAp:=Qki mj (Go.Lg.Ja.I hx gg);rw[gi.2,<-hv]at hAp;rw[<-hv]at hR;refine Qh<|Qd<|Qm<|Qb<|Qa<|xf<|hAp.mono ?_;rintro r7 T ⟨ha,v7,l7,rfl,mo,hS⟩;have hF:=gg.D ha;refine Qb<|Q8 U U<|Q8 U U<|x Qk<|Qc<|Qm<|ZA U U<|xe<|QZ rfl (λhy=>?_) (λhy=>?_)
 ·rw[OS hy]at S;rw[S,OS hy]at H;refine Qe<|x (Qz Z)<|Qb<|Qa<|Qj (us:=Yx) ((hw.I ho).I ha) U U U U oB λw4 hG mq=>Qc ?_;exact Ql ⟨[.agg Yx.toArray,oF oG EI.1],⟨⟨_,U,Qn U (mq.at (L:=[]) oe).cells⟩,rfl,Z⟩,bad _ T w4 H hy hF hG⟩
 rw[OR hy]at S;obtain⟨hS,hln7⟩:=hS (Lo.1 hy);have hD3:Vn [] T.heap v7 l7:=JI.dits mo oa oe;have hCe:=Qjm (h.st.c.I hF).ev hD3 (λq hq=>hR q (by rw[<-hS];exact hq));rw[hS]at hCe;have ms:s.s.c.V.ev=s.s.c.ev:=rfl;rw[ms]at S;refine Zk (VF s.s.c.ev EI.2) λDC mt=>?_;rw[mt]at S hCe;refine Qh<|Qm<|Yb U<|Q0 U<|Qs U (Y.I hF) U U<|Qb<|Qa<|xf<|hCe.mono ?_;rintro r9 w4 ⟨hG,c9,rfl,mu,hT⟩;refine Qb<|Q8 U U<|Q8 U U<|Qa<|Qo (us:=ZY) U λb8 w5 hH mv mw=>Qa<|Qj (us:=c9.cells) mw U U U U mu λw6 my g0 =>
  Qc ?_
 have hU:O3 [] w4 w6:=hH.O my mv;have gj:=(hF.D hG).D hU;have hz4:=hG.size;have hz46:=hU.size;have gk:=(((hw.I ho).I ha).I hG).I hU;refine Qd<|Qm<|ZA U U<|xe<|QZ rfl (λhz=>?_) (λhz=>?_)
 ·rw[OS hz]at S;rw[S,OS hz]at H;refine Qe<|x (Qz Z)<|Qb<|Qa<|Qj (us:=Yx) gk U U U U oB λV hf mz=>Qc ?_;exact Ql ⟨[.agg Yx.toArray,oF oG DC.1],⟨⟨_,U,Qn U (mz.at (L:=[]) oe).cells⟩,rfl,Z⟩,bad _ w6 V H hz gj hf⟩
 rw[OR hz]at S;have hT:=hT (Lo.1 hz);have hV:=hT.1;have gl:∀N:LN,(∀b∈N,b<T.heap.size\/w4.heap.size<=b)->ZF N w6.heap c9:=λN hN=>by
  have O:=hT.2 (N.filter λb=>decide (b<T.heap.size)) (λb G=>OW (L9.1 G).2);exact(O.up (L':=N) λb G=>(hN b G).imp (λh=>L9.2 ⟨G,OV h⟩) id).I hU
 have hCk:=Y7 (gl [] oe);rw[hV]at hCk;refine Qh<|Qd<|Qe<|Q2 g0 U U<|Qa<|xf<|hCk.mono ?_;rintro r13 V ⟨rfl,hf⟩;have hr:=gj.D hf;have hz7:=hf.size;refine Qc<|Qm<|ZA U U<|xe<|QZ rfl (λh5=>?_) (λh5=>?_)
 ·rw[OS h5]at S;rw[S,OS h5]at H;refine Qe<|x (Qz Z)<|Qb<|Qa<|Qj (us:=Yx) (gk.I hf) U U U U oB λw8 he gm=>Qc ?_;exact Ql ⟨[.agg Yx.toArray,oF oG (Zm DC.2)],⟨⟨_,U,Qn U (gm.at (L:=[]) oe).cells⟩,rfl,Z⟩,bad _ V w8 H h5 hr he⟩
 rw[OR h5]at S;have m2:=Lo.1 h5;rw[S,OR oe]at H;rw[S]at hC;simp only[]at H hC;refine Qh ?_;have g2:=Y.I hr;have m3:=gw.I hr;have g3:=g0.I hf;have hz06:=gj.size;have hz03:=hF.size;have g4:∀b∈I::L,b<V.heap.size:=λb G=>by
  rcases Li.1 G with rfl|G
  ·have:=ho.size;have:=ha.size;omega
  have:=hL b G;omega
 have m4:Pts (I::L) V.heap s.s.vp s.s.ps:=Go.Lg.Ja.I (Go.Lg.Ja.up h.st.p λb G=>by
  rcases Li.1 G with rfl|G
  ·exact .inr ga
  exact .inl G) hr
 have m5:O3 [] V { V with drawn:=V.drawn+1 }:=O3.C _ _
 refine Zk (X9 DC.2 (s.s.ps.map (·.pt)) ((s.us.length:Int)+1)) λE2 g5=>?_;rw[g5]at H;refine Q3 (α:=O0×LV×Nat) [(73,88),(7,7),(10,11)] (λz=>[(10,z.1),(11,pS z.2.2),(7,oF oG E2)]) (λz w'=>O3 [] V w'/\V.heap.size<=z.2.2/\Q7 w'.heap z.2.2 88 z.2.1/\(z.2.1.length=3/\Zj z.2.1)/\(E2=0->∃qs q,z.2.1=Zr q/\qs.map (·.pt)=UP DC.2 (s.s.ps.map (·.pt)) ((s.us.length:Int)+1)/\q.rp=Xs DC.2 (s.s.ps.map (·.pt)) ((s.us.length:Int)+1)/\Pts (I::L) w'.heap z.1 qs/\KO (z.2.2::I::L) w'.heap q)) ol ?_ ?_
 ·refine XS (α:=O0×LV) (O3 [] V) [oD 0,oD 1,oD 2,oD 3,oD 4,oD 5,oD 6,oD 7,oD 8,oD 9,oD 10] [oE 11,oD 12,oD 13,oD 14,oD 15] 16 11 [oD 17,oE 18,oD 19] []
   [(73,88)] [(73,73),(85,88)] (λz=>[(86,z.1),(87,.agg z.2.toArray),(88,oF oG E2)])
   (λz own w'=>(∀b∈own,V.heap.size<=b)/\(z.2.length=3/\Zj z.2)/\(E2=0->∃qs q,z.2=Zr q/\qs.map (·.pt)=UP DC.2 (s.s.ps.map (·.pt)) ((s.us.length:Int)+1)/\q.rp=Xs DC.2 (s.s.ps.map (·.pt)) ((s.us.length:Int)+1)/\∀b',V.heap.size<=b'->b'∉own->Pts (b'::I::L) w'.heap z.1 qs/\KO (b'::I::L) w'.heap q))
   (λv w'=>∃b,v=pS b/\V.heap.size<=b/\Q7 w'.heap b 88 Yx) mixed ol od ol U m5 oe ?_ ?_ ?_ ?_
  ·rintro v own wa wb ⟨b,rfl,G,Y⟩ hs hn;exact⟨b,U,G,Y.J hs (hn b ot)⟩
  ·rintro z own wa wb ⟨O,h2,h3⟩ hs;refine⟨O,h2,λh0=>?_⟩;obtain⟨qs,q,e1,e2,e3,e4⟩:=h3 h0;exact⟨qs,q,e1,e2,e3,λb' hW hn=>⟨Go.Lg.Ja.I (e4 b' hW hn).1 hs,(e4 b' hW hn).2.I hs⟩⟩
  ·rintro⟨vp,us⟩ g own wz v ⟨i1,i2,i3⟩ g6 ⟨h6,rfl,hh,hi⟩ m6;simp only[]at i2 i3;have m7:=(m6 h6 ot).1;refine p ZH<|pk<|Qj (us:=us) hi U U i2.1 U i2.2 λw8 he m8=>⟨g6.O he hh,?_⟩;refine p ZH<|pe ?_;refine⟨(vp,us,h6),oB,g6.O he hh,hh,m8,i2,λh0=>?_⟩;obtain⟨qs,q,e1,e2,e3,e4⟩:=i3 h0;have e5:=e4 h6 hh m7;exact⟨qs,q,e1,e2,e3,Go.Lg.Ja.up (Go.Lg.Ja.st e5.1 (he.mono oe)) (λb G=>.inl (Lk _ G)),e5.2.st (he.mono oe)⟩
  refine pq (λ_ J=>Zx (g3.I J) U U)<|p Qy<|p (YO U)<|p (QP U)<|pq (λ_ J=>Qq (g2.I J) U U) <|
   p Qy<|p (YO U)<|p (QP U)<|pq (λ_ J=>Qq (g2.I J) U U)<|p (λ_=>Yo m3 U) <|
   p (λ_=>XI U U ⟨oa,oa⟩)<|pe ⟨λg wf g7=>Qo (us:=Yx) U λb wf' g8 g9 ka=>⟨g8,g7.D g8,⟨b,U,LJ g7.size g9,ka⟩,λx hx=>?_⟩,?_⟩
  ·have m9:x=b:=by
    have pa:x∈[b]:=hx;simpa using pa
   subst m9;exact⟨g9,ka.lt⟩
  refine f2k λx1 p1 c1=>?_;have pc:=(gl (I::L) (λb G=>by
   rcases Li.1 G with rfl|G
   ·exact .inl (ov ho.size ha.size)
   exact .inl (ou (hL b G)))).I (hf.D c1)
  have pd:Pts (US V.heap.size x1.heap.size++(I::L)) x1.heap s.s.vp s.s.ps:=Go.Lg.Ja.I (Go.Lg.Ja.up m4 λb G=>by
   rcases Lc.1 G with G|G
   ·exact .inr (ZE.1 G).1
   exact .inl G) c1
  have hbl:=Qcz (v:=(s.us.length:Int)+1) pc pd (λb G=>by
   have:=c1.size;rcases Lc.1 G with G|G
   ·exact(ZE.1 G).2
   have:=g4 b G;omega) k6 k4 (k5.I (hr.D c1))
  rw[hV,g5]at hbl;refine xf<|hbl.mono ?_;rintro _ y1 ⟨kb,vp,us,rfl,pf,pg,_,ph⟩;have z1:=c1.size;refine⟨c1.D kb,US x1.heap.size y1.heap.size,kb.any,λb G=>.inr (ZE.1 G),?_⟩;refine f2p Qy<|f2p (λ_=>Zp U U)<|f2p (λ_=>Zp U U)<|f2p (λ_=>Zp U U)<|f2e ?_;refine⟨(vp,us),oB,λb G=>ou (ZE.1 G),⟨pf,pg⟩,λh0=>?_⟩;obtain⟨qs,q,e1,e2,e3,_,e5,e6⟩:=ph h0;refine⟨qs,q,e1,e2,e3,λb' hW hn=>?_⟩;have pj:b'<x1.heap.size\/y1.heap.size<=b':=by
   rcases OF b' x1.heap.size with O|O
   ·exact .inl O
   rcases OF b' y1.heap.size with h2|h2
   ·exact OU (ZE.2 ⟨O,h2⟩) hn
   exact .inr h2
  have kc:∀b∈b'::I::L,b∈US V.heap.size x1.heap.size++(I::L)\/y1.heap.size<=b:=λb G=>by
   rcases Li.1 G with rfl|G
   ·exact pj.imp (λO=>Lc.2 (.inl (ZE.2 ⟨hW,O⟩))) id
   exact .inl (Lc.2 (.inr G))
  exact⟨Go.Lg.Ja.up e5 kc,(e6 (US V.heap.size x1.heap.size++(I::L)) (λb G=>by
   rcases Lc.1 G with G|G
   ·exact(ZE.1 G).2
   have:=g4 b G;omega)).up kc⟩
 rintro⟨vp,us,h6⟩ g wA ⟨hI,hh,hi,pm,hg⟩;simp only[]at hh hi pm hg;have hJ:=(gk.I hf).I hI;refine Qd<|Qm<|ZA U U<|xe<|QZ rfl (λgn=>?_) (λgn=>?_)
 ·refine Qe<|x (Qz Z)<|Qb<|Qa<|Qj (us:=Yx) hJ U U U U oB λw8 he gm=>Qc ?_;exact Ql ⟨[.agg Yx.toArray,oF oG E2],⟨⟨_,U,Qn U (gm.at (L:=[]) oe).cells⟩,rfl,Z⟩,bad _ wA w8 H gn (hr.D hI) he⟩
 have ke:=Lo.1 gn;refine Exists.elim (hg ke) λqs pn=>Exists.elim pn λq hK=>?_;have eu:=hK.1;have eqs:=hK.2.1;have eq:=hK.2.2.1;have kf:=hK.2.2.2.1;have hM:=hK.2.2.2.2;rw[eu]at hi;refine Qh ?_;have go:=hr.D hI;have gp:=Y.I go;have hl11:=hi.lt;have hlsb:=Y.lt;have po:O3 [] wA { wA with drawn:=wA.drawn+1 }:=O3.C _ _
 refine Q3 (α:=UnZ) [(93,100),(12,13)] (λz=>[(12,pS z.b12),(13,pS z.b13)]) (λz w'=>O3 [] wA w'/\wA.heap.size<=z.b12/\wA.heap.size<=z.b13/\∃T1 T2,Q7 w'.heap z.b12 T1 s.s.c.cells/\Q7 w'.heap z.b13 T2 [s.s.vp]) ol ?_ ?_
 ·refine Qmt (α:=UnZ) (O3 [] wA) [oD 0,oD 1,oD 2,oD 3,oD 4,oD 5,oD 6,oD 7] [8,9] [oE 10,oE 11] [(12,13)] (unP wA.heap.size) (λz=>[(12,pS z.b12),(13,pS z.b13)])
   (λz w'=>z.b12≠z.b13/\wA.heap.size<=z.b12/\wA.heap.size<=z.b13/\∃T1 T2,Q7 w'.heap z.b12 T1 ZY/\Q7 w'.heap z.b13 T2 [Zw]) mixed ol od po (λ_ _ O h2=>O.D h2) (QkC _) ?_ ?_
  ·rintro g w' ⟨⟨b12,T1,e3,pp,pu⟩,⟨b13,T2,e4,pw,hh⟩,_⟩ pz;refine⟨⟨b12,b13⟩,⟨e3,e4,Z⟩,?_,pp,pw,T1,T2,pu,hh⟩;have d1:=pz 8 oe 9 oe og;rw[e3,e4]at d1;simp only[ow,oI,forall_eq]at d1;exact d1
  refine p Qy<|p (YO U)<|p (QP U)<|pq (λ_ J=>Zl (us:=s.s.c.cells) (gp.I J) U U U)<|p Qy<|p (YO U)<|p (QP U) <|
   pq (λ_ J=>Qq (gp.I J) U U)<|pe ⟨⟨?_,?_,Z⟩,?_⟩
  ·intro g w' J;exact Qo (us:=ZY) U λb w5 hH G Y=>⟨hH,⟨b,_,U,LJ J.size G,Y⟩,λc gq=>by rw[Lb.1 (show c∈[b] from gq)];exact⟨G,Y.lt⟩⟩
  ·intro g w' J;exact Qo (us:=[Zw]) U λb w5 hH G Y=>⟨hH,⟨b,_,U,LJ J.size G,Y⟩,λc gq=>by rw[Lb.1 (show c∈[b] from gq)];exact⟨G,Y.lt⟩⟩
  rintro⟨b12,b13⟩ g wz kg ⟨gr,ht,h7,T1,T2,hO,hP⟩;simp only[]at gr ht h7 hO hP;refine pk<|Qj (us:=s.s.c.cells) hO U U U U h.st.c.ones λw8 he p0=>⟨kg.O he ht,?_⟩;refine pkl (hl:=by kernel_rfl)<|QA (u:=s.s.vp) (hP.J he (by simp only[oI];exact λe=>gr e.symm)) U U oe h.st.p.arr.one λw9 kh p2=>pe ?_;exact⟨⟨b12,b13⟩,oA,(kg.O he ht).O kh h7,ht,h7,T1,T2,p0.J kh (by simp only[oI];exact gr),p2⟩
 rintro⟨b12,b13⟩ gC wC ⟨h8,ht,h7,T12,T13,hO,hP⟩;simp only[]at ht h7 hO hP;have ki:=gp.I h8;refine Qm<|Qb<|Yb U<|Qs U ki U U<|x (ZC (l:=[]) (l':=[_,_]))<|Qa<|QB (us:=[[KZ ⟨b12,b13,s.s⟩]]) U U og oe ⟨rfl,rfl,Z⟩ λb107 wC1 hu hb107 p3=>?_;have kj:=(go.D h8).D hu;have zC1:=hu.size;refine Qa<|Za (news:=[KZ ⟨b12,b13,s.s⟩]) (L:=[]) (Qp h.ru kj) U U U (p3.at oe) (by simp[Value.oneCell']) oa oa λv16 wD kk h9 p4=>?_;have d2:s.b∉ob s.vu:=h.d2;have p5:=(ki.I hu).J h9 d2;refine Yb rfl<|Q0 U<|Qa<|QA (u:=v16) p5 U U (MD U) (Qt kk) λwE hQ p6=>xe ?_;have p7:Q7 wE.heap s.b TS [s.s.c.ve,s.s.c.vc,s.s.c.vr,s.s.c.vx,s.s.c.vk,s.s.vp,oF oG s.made,s.vr,v16]:=p6;have p8:=((gl (I::L) (λb G=>by
   rcases Li.1 G with rfl|G
   ·exact .inl (ov ho.size ha.size)
   exact .inl (ou (hL b G)))).I (hf.D hI)).I (h8.D hu)
 have subL:∀b∈s.own,b∈I::L:=λb G=>Lk _ (h.sub b G);have msb:s.b∈s.own:=Lt;have mvr:∀b∈ob s.vr,b∈s.own:=λb G=>Lk _ (Lc.2 (.inl G));have mvu:∀b∈ob s.vu,b∈s.own:=λb G=>Lk _ (Lc.2 (.inr G));have sDL:=h9.mono (L':=I::L) λb G=>subL b (mvu b G);have sEL:=hQ.mono (L':=I::L) λb G=>by rw[Lb.1 G];exact subL _ msb
 have p9:=(p8.st sDL).st sEL;have qc:CSz c9.V:=yp (by rw[hV];exact m2);refine Qe ?_;have qf:Q7 wE.heap b8 _ c9.cells:=((((g3.I hI).I h8).I hu).J h9 (λhm=>ou (h.lt _ (mvu _ hm)))).J hQ om;refine Qb<|Qb<|Q2 qf U U<|Qa<|xf<|(QdE p9 qc).mono ?_;rintro r19 wF ⟨hX,cm,rfl,ecm,kn⟩;have d1:s.b∉ob s.vr:=h.d1;have nown:∀b,w.heap.size<=b->b∉s.own:=λb O G=>ou (h.lt b G)
 have n4:=nown I ga;have hY:=nown h6 oa;have sE:O3 s.own wA wE:=((h8.D hu).any.Q (h9.mono mvu)).Q (hQ.mono λb G=>by rw[Lb.1 G];exact msb);have sF:=sE.D hX;have ql:=p7.I hX;refine Qb<|Yb U<|Q0 U<|Qa<|YM (us:=cm.cells) (cs':=[cm.ve,cm.vc,cm.vr,cm.vx,cm.vk,s.s.vp,oF oG s.made,s.vr,v16]) ql U U U (MD U) (kn [] oe).ones rfl λwG qo q0=>?_;refine Yb rfl<|Q0 U<|Qa<|QA (u:=vp) q0 U U (MD U) kf.arr.one λwH q1 q2=>xe ?_;have ko:Q7 wH.heap s.b TS [cm.ve,cm.vc,cm.vr,cm.vx,cm.vk,vp,oF oG s.made,s.vr,v16]:=q2;have gs:∀b∈[s.b],b∈s.own:=λb G=>by rw[Lb.1 G];exact msb
 have sFH:O3 [s.b] wF wH:=qo.Q q1;have sH:O3 s.own wA wH:=sF.Q (sFH.mono gs);have q3:=hi.J sH hY;have hk2:(Xs DC.2 (s.s.ps.map (·.pt)) ((s.us.length:Int)+1)).made.length=q.k2.length:=by rw[<-eq];rfl
 have hrl2:=hM.a2.le;refine Qd<|QR (O3 [] wH) [oD 0,oD 1,oD 2,oD 3,oD 4,oD 5,oD 6,oD 7,oD 8,oD 9,oE 10] mixed ol od (O3.C _ _) ?_;refine p Qy<|p (YO U)<|p (QP U)<|pq (λ_ J=>Qq (ko.I J) U U)<|p (QP U)<|pq (λ_ J=>Qq (q3.I J) U U) <|
  p (λ_=>Yo hM.a2 U)<|p (λ_=>XI U U ⟨oa,oa⟩)<|p (YO U)<|p (QP U) <|
  pkl (hl:=by kernel_rfl)<|QA (u:=oF oG (s.made+(q.k2.length:Int))) (ko.I (O3.C _ _)) U U (MD U) U λwI q4 q5=>pe ?_
 have kq:Q7 wI.heap s.b TS [cm.ve,cm.vc,cm.vr,cm.vx,cm.vk,vp,oF oG (s.made+(q.k2.length:Int)),s.vr,v16]:=q5;have sHI:O3 [s.b] wH wI:=(O3.C [] wH).any.Q q4;have sFI:=sFH.Q sHI;have sI:O3 s.own wA wI:=sF.Q (sFI.mono gs);have j1:=hi.J sI hY;have kr:∀b∈ob s.vr,b≠s.b:=λb G e=>d1 (e ▸ G);have j2:wI.ownsRow 0 88 3 s.vr s.rs.length (s.rs.flatMap Zr):=by
  refine Qf (Qp (Qf (Qf (Qp h.rr kj) h9 λb G hm=>h.d3 b G hm) hQ λb G hm=>kr b G (Lb.1 hm)) hX) sFI λb G hm=>kr b G (Lb.1 hm)
 have drI:O3 [] wI { wI with drawn:=wI.drawn+1 }:=O3.C _ _
 have n11r:h6∉ob s.vr:=λhm=>hY (mvr _ hm);refine Qd<|QR (O3 (ob s.vr) wI) [oD 0,oD 1,oD 2,oD 3,oD 4,oD 5,oE 6,oE 7,oD 8,oD 9,oE 10] mixed ol od (O3.C _ _) ?_;refine p Qy<|p Qy<|p (YO U)<|p (QP U)<|pq (λ_ J=>Qq (kq.J J d1) U U)<|pq (λ_ J=>Zx (j1.J J n11r) U U) <|
  pk<|QB (us:=[Zr q]) U U og (by exact(by decide:1*3<=1000000)) oA λb136 wJ hA hb136 j3=>⟨(drI.D hA).any,?_⟩
 refine pk<|Za (m:=1) (news:=Zr q) (L:=[]) (Qp j2 (drI.D hA)) U U U (j3.at oe) (Zj.all hM.ones) oa (Ln _) λv24 wK kt hZ za=>⟨(drI.D hA).any.Q hZ,?_⟩;have zb:Q7 wK.heap s.b TS _:=(kq.I (drI.D hA)).J hZ d1;refine p (YO U)<|p (QP U)<|pkl (hl:=by kernel_rfl)<|QA (u:=v24) zb U U (MD U) (Qt kt) λwN ku zv=>pe ?_;have sK:O3 s.own wA wK:=sI.Q ((drI.D hA).any.Q (hZ.mono mvr));have sN:O3 s.own wA wN:=sK.Q (ku.mono gs);have zN:=sN.size;have z0:=hi.J sN hY;have z2:=(hM.up (L':=I::L) λb G=>.inl (Lk _ G)).st (sN.mono subL);refine Qe<|Q2 z0 U U<|Qa<|xf<|(Qjn z2).mono ?_;rintro r26 wP ⟨kv,q',rfl,z3,kw⟩;have z4:=(hJ.J sN n4).I kv;have z5:=kw [I] (λb G=>by rw[Lb.1 G];have:=hJ.lt;omega);refine Qa<|Qj (us:=Zr q') z4 U U U U z5.ones λwM kx hB4M=>Qc<|Ql ⟨[.agg (Zr q').toArray,oF oG 0],⟨⟨_,U,Qn U (hB4M.at (L:=[]) oe).cells⟩,rfl,Z⟩,?_⟩;have kz:E=0:=H.D ke;have hfin:=Qjd (cm:=cm) (vp:=vp) (qs:=qs) (q:=q) (made:=s.made+(q.k2.length:Int)) (v16:=v16) (v24:=v24) h hL go ⟨ga,by have:=hJ.lt;exact this⟩ (Go.Lg.Ja.up kf λb G=>.inl G) (hM.up (L':=I::L) λb G=>.inl (Lk _ G))
  h8 ht h7 hO hP (hu.any.Q h9) kk (λb G=>(p4 b G).imp id λO=>LJ zC1 O) hQ hX kn sFI (drI.D hA) hZ kt za ku zv kv kx
 have hqN:∀N:LN,(∀b∈N,b<w.heap.size)->KO N wM.heap q':=λN hN=>((kw (I::N) (λb G=>by
  rcases Li.1 G with rfl|G
  ·have:=hJ.lt;omega
  have:=hN b G;omega)).st (kx.mono oe)).up λb G=>.inl (Lk _ G)
 refine⟨q',by rw[kz];rfl,hqN,λh0=>OU kz h0,λ_=>⟨?_,_,?_,?_,hfin⟩⟩
 ·rw[z3,eq,S]
 ·rfl
 rw[hC,<-eqs,<-eq,<-hV,<-ecm];unfold KI.sys;simp only[Og,oX,OI];rfl
end Go.Lg
