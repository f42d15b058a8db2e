/- Merged out of 71 texts. -/
import Derived.Test.YtjcgijbhaemldaaGreatDoorKad
import Derived.Shelf.Lay
import Derived.Sort.Grow
import Derived.Deep.Draws
import Derived.Sort.Statements
import Derived.Tactics2
import Derived.Laws.IdiomStrings
import Derived.Shelf.SortM.Plain
import Derived.Shelf.SortM.SortNone
import Derived.Shelf.SlicesE.Compact
import Derived.Shelf.SlicesE.DeleteFunc
import Derived.Ground.SlgmProg
import Derived.Ground.SlgnProg
import Derived.ChangeSame
import Derived.Carry
import Derived.OpenShut
import Derived.RowKit
import Derived.ChangeSlices
import Derived.WideShapes
import Derived.ProofKit
import Derived.ChangeArms
import Derived.Lib.LaidTab
import Derived.Stop.LaidErr
import Derived.MakeChecks
namespace Go.Proofs.YtjcgijbhaemldaaGreatDoor
open Go.Lg
def cnF (ord:LI) (j:Nat) (e:Ed):Ed:=((j:Int),e.2.1,(ord.idxOf e.2.2:Int))
def cnR (a:QD) (ord:LI) (j:Nat):List Ed:=(ZE a.ed (Zn ord j)).map (cnF ord j)
theorem QcG {l r:LI}{j:Nat}(h:j<l.length):Zn (l++r) j=Zn l j:=by unfold Zn;rw[LO];exact yz h
structure NuI (st:Int) (ord num:LI):Prop where
 nd:ord.Nodup
 bd:∀s∈ord,0≤s∧s<st
 nl:num.length=st.toNat
 nu:∀k,0≤k→k<st→Zn num k=if k∈ord then (ord.idxOf k:Int) else -1
theorem QdE {st:Int}{i:Nat}{c:Cs}(h:NuI st c.ord c.num) {e:Ed}(H:0≤e.2.2) (h1:e.2.2<st):NuI st (Zk i c e).ord (Zk i c e).num∧(∃r,(Zk i c e).ord=c.ord++r)∧(Zk i c e).mk'=c.mk'∧(Zk i c e).ed=c.ed++[cnF (Zk i c e).ord i e]∧e.2.2∈(Zk i c e).ord:=by
 have E:=h.nu e.2.2 H h1;have J:e.2.2.toNat<c.num.length:=by rw[h.nl];omega
 unfold Zk;by_cases hm:e.2.2∈c.ord
 ·rw[if_pos hm] at E;rw[if_neg (by rw[E];omega)];refine ⟨h,⟨[],by simp⟩,rfl,?_,hm⟩;simp only[cnF];rw[E]
 rw[if_neg hm] at E;rw[if_pos (by rw[E];decide)];have I:(c.ord++[e.2.2]).idxOf e.2.2=c.ord.length:=by rw[Mj,if_neg hm];simp
 refine ⟨⟨Ki h.nd hm,λs hs=>?_,by simp[h.nl],λk U k1=>?_⟩,⟨[e.2.2],rfl⟩,rfl,?_,by simp⟩
 ·rcases Lp.1 hs with hs | hs
  ·exact h.bd s hs
  simp only[List.mem_singleton] at hs;subst hs;exact ⟨H,h1⟩
 ·simp only[];by_cases ek:k=e.2.2
  ·subst ek;rw[if_pos (by simp),I];unfold Zn;simp[List.getD,List.getElem?_set_self J]
  have V:e.2.2.toNat≠k.toNat:=by omega
  have e1:Zn (c.num.set e.2.2.toNat c.ord.length) k=Zn c.num k:=by unfold Zn;simp[List.getD,List.getElem?_set_ne V]
  rw[e1,h.nu k U k1];by_cases hk:k∈c.ord
  ·rw[if_pos hk,if_pos (Lz _ hk),Mj,if_pos hk]
  rw[if_neg hk,if_neg (λY=>by
   rcases Lp.1 Y with h2 | h2
   ·exact hk h2
   simp only[List.mem_singleton] at h2;exact ek h2)]
 simp only[cnF];rw[I]
theorem zn {st:Int}{i:Nat}:∀(es:List Ed) (c:Cs),NuI st c.ord c.num→(∀e∈es,0≤e.2.2∧e.2.2<st)→NuI st (es.foldl (Zk i) c).ord (es.foldl (Zk i) c).num∧(∃r,(es.foldl (Zk i) c).ord=c.ord++r)∧(es.foldl (Zk i) c).mk'=c.mk' ∧
  (es.foldl (Zk i) c).ed=c.ed++es.map (cnF (es.foldl (Zk i) c).ord i)∧∀e∈es,e.2.2∈(es.foldl (Zk i) c).ord
 | [],c,h,_=>⟨h,⟨[],by simp⟩,rfl,by simp,λe he=>by cases he⟩
 | e::es,c,h,hb=>by
  obtain ⟨E,H⟩:=hb e Lm;obtain ⟨h1,⟨I,h2⟩,h3,h4,h5⟩:=QdE (i:=i) h E H;obtain ⟨k1,⟨r2,k2⟩,k3,J,U⟩:=zn (i:=i) es (Zk i c e) h1 (λd hd=>hb d (Lk _ hd));rw[LM];refine ⟨k1,⟨I++r2,by rw[k2,h2,LC]⟩,k3.trans h3,?_,λd hd=>?_⟩
  ·rw[J,h4,LC,L1];have:cnF (Zk i c e).ord i e=cnF (es.foldl (Zk i) (Zk i c e)).ord i e:=by
    unfold cnF;rw[k2,Mj,if_pos h5]
   rw[this];rfl
  rcases Lh.1 hd with rfl | hd
  ·rw[k2];exact Lz _ h5
  exact U d hd
structure CnG (a:QD) (i:Nat) (c:Cs):Prop where
 nu:NuI a.st c.ord c.num
 le:i≤c.ord.length
 hd:Zn c.ord 0=0∧0<c.ord.length
 mk2:c.mk'=((List.range' 0 i).filter λj:Nat=>decide (Zn c.ord j∈a.mr)).map λj:Nat=>(j:Int)
 ed:c.ed=(List.range' 0 i).flatMap (cnR a c.ord)
 cl:∀j,j<i→∀e∈ZE a.ed (Zn c.ord j),e.2.2∈c.ord
theorem Qmt {a:QD}{ord r:LI}{j:Nat}(hj:j<ord.length) (hc:∀e∈ZE a.ed (Zn ord j),e.2.2∈ord):cnR a (ord++r) j=cnR a ord j:=by
 unfold cnR;rw[QcG hj];refine MK λe he=>?_;unfold cnF;rw[Mj,if_pos (hc e he)]
theorem CnG.next {a:QD}(U:QM a) {i:Nat}{c:Cs}(h:CnG a i c) (hi:i<c.ord.length):CnG a (i+1) (qJ a i c):=by
 unfold qJ;have H:(Z0 a i c).ord=c.ord:=by unfold Z0;split <;> rfl
 have V:(Z0 a i c).num=c.num:=by unfold Z0;split <;> rfl
 have Y:(Z0 a i c).ed=c.ed:=by unfold Z0;split <;> rfl
 obtain ⟨k1,⟨r,k2⟩,k3,E,I⟩:=zn (st:=a.st) (i:=i) (ZE a.ed (Zn c.ord i)) (Z0 a i c) (by rw[H,V];exact h.nu) (λe he=>(U.ed e (Yy he).1).2.2.2);generalize (ZE a.ed (Zn c.ord i)).foldl (Zk i) (Z0 a i c)=d at k1 k2 k3 E I;rw[H] at k2;rw[Y] at E;have pre:∀j:Nat,j≤i→Zn d.ord j=Zn c.ord j:=λj hj=>by rw[k2];exact QcG (by omega)
 refine ⟨k1,by rw[k2];simp;omega,⟨by have:=pre 0 (by omega);rw[show ((0:Nat):Int)=0 from rfl] at this;rw[this];exact h.hd.1,by rw[k2];simp;omega⟩,?_,?_,λj hj=>?_⟩
 ·rw[k3,Mi,Mb,Ly,LR];have e1:((List.range' 0 i).filter λj:Nat=>decide (Zn d.ord j∈a.mr))=(List.range' 0 i).filter λj:Nat=>decide (Zn c.ord j∈a.mr):=by
   refine List.filter_congr λj hj=>?_;rw[L5] at hj;rw[pre j (by omega)]
  rw[e1];unfold Z0;by_cases hm:Zn c.ord i∈a.mr
  ·rw[if_pos hm];simp only[];rw[Ml,if_pos (by rw[pre i (Lv _)];exact decide_eq_true hm),Nj,h.mk2];rfl
  rw[if_neg hm];rw[Ml,if_neg (by rw[pre i (Lv _),decide_eq_false hm];simp),Nj,h.mk2];simp
 ·rw[E,Mi,LH,LR,h.ed];congr 1
  ·refine Jv λj hj=>?_;rw[L5] at hj;rw[k2];exact (Qmt (by omega) (h.cl j (by omega))).symm
  simp only[List.flatMap_cons,List.flatMap_nil,List.append_nil];unfold cnR;rw[pre i (Lv _)]
 by_cases e:j=i
 ·subst e;rw[pre j (Lv _)];exact I
 intro d' J;rw[pre j (by omega)] at J;rw[k2];exact Lz _ (h.cl j (by omega) d' J)
theorem ql {a:QD}(H:QM a):∀(f i:Nat) (c:Cs),CnG a i c→∃E,CnG a E (YY a f i c)∧((YY a f i c).ord.length=E∨E=i+f)
 | 0,i,c,h=>⟨i,h,.inr Z⟩
 | f+1,i,c,h=>by
  rw[YY];split
  ·rename_i hi;obtain ⟨E,h1,h2⟩:=ql H f (i+1) _ (h.next H hi);exact ⟨E,h1,by omega⟩
  exact ⟨i,h,.inl (by have:=h.le;omega)⟩
structure CnP (a:QD) (ord:LI):Prop where
 nd:ord.Nodup
 bd:∀s∈ord,0≤s∧s<a.st
 hd:Zn ord 0=0∧0<ord.length
 al:(ZJ a).al=a.al
 st:(ZJ a).st=(ord.length:Int)
 mk2:(ZJ a).mr=((List.range' 0 ord.length).filter λj:Nat=>decide (Zn ord j∈a.mr)).map λj:Nat=>(j:Int)
 ed:(ZJ a).ed=(List.range' 0 ord.length).flatMap (cnR a ord)
 cl:∀j,j<ord.length→∀e∈ZE a.ed (Zn ord j),e.2.2∈ord
theorem Qad {a:QD}(H:QM a) (h0:0<a.st):∃ord,CnP a ord:=by
 have I:0<a.st.toNat:=by omega
 have J:CnG a 0 (ZO a):=by
  refine ⟨⟨by simp[ZO],λs hs=>by simp[ZO] at hs;subst hs;omega,by simp[ZO],λk k0 k1=>?_⟩,Ln _,⟨by simp[ZO,Zn],by simp[ZO]⟩,by simp[ZO],by simp[ZO],λj hj=>by omega⟩;by_cases ek:k=0
  ·subst ek;rw[if_pos (by simp[ZO])];unfold Zn ZO;simp[List.getD,I]
  rw[if_neg (by simpa[ZO] using ek)];unfold ZO;have U:0≠k.toNat:=by omega
  have V:k.toNat<a.st.toNat:=by omega
  unfold Zn;rw[LA,MN U];simp[V]
 obtain ⟨Y,h1,h2⟩:=ql H a.st.toNat 0 (ZO a) J;have hb:(YY a a.st.toNat 0 (ZO a)).ord.length≤a.st.toNat:=pig _ _ h1.nu.nd (λx hx=>by have:=h1.nu.bd x hx;omega);have ha:Y=(YY a a.st.toNat 0 (ZO a)).ord.length:=by have:=h1.le;omega
 subst ha;have E:ZJ a=⟨a.al,((YY a a.st.toNat 0 (ZO a)).ord.length:Int),(YY a a.st.toNat 0 (ZO a)).mk',(YY a a.st.toNat 0 (ZO a)).ed⟩:=by unfold ZJ;rw[if_neg (by omega)]
 refine ⟨(YY a a.st.toNat 0 (ZO a)).ord,h1.nu.nd,h1.nu.bd,h1.hd,by rw[E],by rw[E],?_,?_,h1.cl⟩
 ·rw[E];exact h1.mk2
 rw[E];exact h1.ed
theorem QjG (es:List Ed) (s v:Int):eget es s v=eget (ZE es s) s v:=by
 induction es with
 | nil=>rfl
 | cons e es ih =>
  unfold ZE at *;rw[Ml];by_cases h:e.1=s
  ·rw[if_pos (by simpa using h),eget,eget,ih]
  rw[if_neg (by simpa using h),eget,if_neg (λc=>h c.1),ih]
theorem QjH {a:QD}{ord:LI}{j:Nat}(v:Int):eget (cnR a ord j) j v=(eget a.ed (Zn ord j) v).map λu=>(ord.idxOf u:Int):=by
 rw[QjG a.ed];unfold cnR;have key:∀(l:List Ed),(∀e∈l,e.1=Zn ord j)→eget (l.map (cnF ord j)) j v=(eget l (Zn ord j) v).map λu=>(ord.idxOf u:Int):=by
  intro l;induction l with
  | nil=>intro _;rfl
  | cons e l ih =>
   intro hl;rw[L1,eget,eget];have he:=hl e Lm;by_cases E:e.2.1=v
   ·rw[if_pos ⟨rfl,E⟩,if_pos ⟨he,E⟩];rfl
   rw[if_neg (λc=>E c.2),if_neg (λc=>E c.2)];exact ih (λd hd=>hl d (Lk _ hd))
 exact key _ (λe he=>(Yy he).2)
theorem Qei {a:QD}{ord:LI}{j i:Nat}(h:j≠i) (v:Int):eget (cnR a ord j) i v=none:=by
 refine Ka λe he h2=>?_;unfold cnR at he;obtain ⟨d,_,rfl⟩:=Lq.1 he;have:(j:Int)=i:=h2.1;omega
theorem CnP.step {a:QD}{ord:LI}(h:CnP a ord) {j:Nat}(hj:j<ord.length) (v:Int):eget (ZJ a).ed j v=(eget a.ed (Zn ord j) v).map λu=>(ord.idxOf u:Int):=by
 rw[h.ed];have key:∀n,j<n→eget ((List.range' 0 n).flatMap (cnR a ord)) j v=eget (cnR a ord j) j v:=by
  intro n;induction n with
  | zero=>intro h;omega
  | succ n ih =>
   intro H;rw[Mi,LH,LR,qy];simp only[List.flatMap_cons,List.flatMap_nil,List.append_nil];by_cases e:j=n
   ·subst e;have:eget ((List.range' 0 j).flatMap (cnR a ord)) j v=none:=Ka λd hd h2=>by
     obtain ⟨k,hk,E⟩:=MJ.1 hd;rw[L5] at hk;unfold cnR at E;obtain ⟨I,_,rfl⟩:=Lq.1 E;have:(k:Int)=j:=h2.1;omega
    rw[this]
   rw[ih (by omega),Qei (Ne.symm e)];cases eget (cnR a ord j) j v <;> rfl
 rw[key _ hj];exact QjH v
section
variable {p s:QD} {pn xn v:Int}
theorem QkS (E:v∈p.al) (h:eget p.ed pn v=none):Q5 v [p,s] [pn,xn]=none:=by rw[Q5,if_neg (λe=>e E),h]
theorem QkR (E:v∈p.al) {H:Int}(h:eget p.ed pn v=some H) (hs:v∈s.al) (h2:eget s.ed xn v=none):Q5 v [p,s] [pn,xn]=none:=by
 rw[Q5,if_neg (λe=>e E),h];simp only[];rw[Q5,if_neg (λe=>e hs),h2];rfl
theorem QkQ (I:v∈p.al) {E H:Int}(h:eget p.ed pn v=some E) (hs:v∈s.al) (h2:eget s.ed xn v=some H):Q5 v [p,s] [pn,xn]=some [E,H]:=by
 rw[Q5,if_neg (λe=>e I),h];simp only[];rw[Q5,if_neg (λe=>e hs),h2];rfl
end
section
variable {s:QD} {l:List V8} {n:Nat}
end
theorem QgZ {a:QD}(E:QM a):QM (ZJ a):=by
 have V:=E.st0;have h1:=E.st1;by_cases J:a.st=0
 ·unfold ZJ;rw[if_pos J];exact ⟨E.al,E.ali,by simp,by simp,by simp,by simp,by simp,by simp⟩
 obtain ⟨ord,h⟩:=Qad E (by omega);have hl:ord.length≤a.st.toNat:=pig _ _ h.nd (λx hx=>by have:=h.bd x hx;omega);refine ⟨by rw[h.al];exact E.al,by rw[h.al];exact E.ali,by rw[h.st];omega,by rw[h.st];omega,λs hs=>?_,?_,λe he=>?_,?_⟩
 ·rw[h.mk2] at hs;simp only[List.mem_map,List.mem_filter,List.mem_range'_1] at hs;obtain ⟨i,⟨hi,_⟩,rfl⟩:=hs;rw[h.st];omega
 ·rw[h.mk2];unfold Z8;rw[ME];refine List.Pairwise.sublist Np ?_;exact (Na (s:=0) (n:=ord.length)).imp (λh=>by omega)
 ·rw[h.ed] at he;obtain ⟨j,hj,hd⟩:=MJ.1 he;rw[L5] at hj;unfold cnR at hd;obtain ⟨d,H,rfl⟩:=Lq.1 hd;have hm:=h.cl j (by omega) d H;have:=LU hm;have U:=(E.ed d (Yy H).1).2.2.1;rw[h.st,h.al];unfold cnF;exact ⟨by simp only[];omega,by simp only[];omega,U,by simp only[];omega,by simp only[];omega⟩
 rw[h.ed];have key:∀n,((List.range' 0 n).flatMap (cnR a ord)).Pairwise λx y:Ed=>x.1<y.1∨(x.1=y.1∧x.2.1<y.2.1):=by
  intro n;induction n with
  | zero=>simp
  | succ n ih =>
   rw[Mi,LH,LR,MF];refine ⟨ih,?_,λx hx y hy=>?_⟩
   ·simp only[List.flatMap_cons,List.flatMap_nil,List.append_nil];unfold cnR;rw[ME];have h2:(ZE a.ed (Zn ord n)).Pairwise λx y:Ed=>x.1<y.1∨(x.1=y.1∧x.2.1<y.2.1):=List.Pairwise.sublist Np E.edi;refine List.Pairwise.imp_of_mem (λ{x y} hx hy Y=>?_) h2;have e1:=(Yy hx).2;have e2:=(Yy hy).2;right;exact ⟨Z,by show x.2.1<y.2.1;omega⟩
   obtain ⟨j,hj,I⟩:=MJ.1 hx;rw[L5] at hj;simp only[List.flatMap_cons,List.flatMap_nil,List.append_nil] at hy;unfold cnR at I hy;obtain ⟨d,_,rfl⟩:=Lq.1 I;obtain ⟨d',_,rfl⟩:=Lq.1 hy;left;show (j:Int)<(n:Int);omega
 exact key _
open Go.Proofs.Tryz
theorem QgJ {a:QD}(E:QM a):QM ⟨a.al,0,[],[]⟩ :=
 ⟨E.al,E.ali,MQ _,(by decide:(0:Int)≤4096),(λs hs=>by cases hs),List.Pairwise.nil,(λe he=>by cases he),List.Pairwise.nil⟩
theorem Ji {a:QD}(E:QM a) (lf:Lf):QM (Ja a lf):=by
 unfold Ja;split
 ·exact QgJ E
 exact QgZ (Xx E lf)
theorem zl {c:Q4}(h:suE c=0):QM (Jp c):=Ji (QhU h).1 _
theorem QiE {c:Q4}{m:YZ}(h:yX c m=0):QM (U8 c m):=by
 have h1:yX c m=if mcE c m≠0 then mcE c m else suE (Yb c m):=rfl
 rw[h1] at h;split at h
 ·rename_i h2;exact absurd h h2
 exact zl h
theorem Uk {c:Q4}:∀{l:List YZ},msL c l=0→∀m∈l,yX c m=0
 | [],_,m,hm=>by cases hm
 | x::l,h,m,hm=>by
  rw[Ul] at h;by_cases h1:yX c x≠0
  ·rw[if_pos h1] at h;exact absurd h h1
  rw[if_neg h1] at h;rcases Lh.1 hm with rfl | hm
  ·exact Lo.1 h1
  exact Uk h m hm
theorem YI {c:Q4}(h:KC c=0):∀a∈ZD c,QM a:=by
 rw[UY] at h;by_cases h1:Zf c≠0
 ·rw[if_pos h1] at h;exact absurd h h1
 rw[if_neg h1] at h;have H:=Yd (Lo.1 h1);have I:ZD c=(mods c).map (U8 c)++(rem c).map (coA c):=rfl;intro a ha;rw[I] at ha;rcases Lp.1 ha with ha | ha
 ·obtain ⟨m,hm,rfl⟩:=Lq.1 ha;exact QiE (Uk h m hm)
 obtain ⟨i,hi,rfl⟩:=Lq.1 ha;have J:=Kf i hi;have E:i.toNat<c.co.length:=by omega
 have e:coA c i=(c.co[i.toNat]'E).a:=by unfold coA;simp[List.getD,E]
 rw[e];exact H.co _ (Le E)
theorem QeQ (c:Q4):X2 c=if KC c≠0 then KC c else X9 (ZD c):=rfl
theorem XD {c:Q4}(h:X2 c=0):KC c=0∧X9 (ZD c)=0:=by
 rw[QeQ] at h;by_cases h1:KC c≠0
 ·rw[if_pos h1] at h;exact absurd h h1
 rw[if_neg h1] at h;exact ⟨Lo.1 h1,h⟩
theorem Qaw {l:List QD}(h:X9 l=0):sync l=some (UX l,XG l)∧JP l=0:=by
 unfold X9 at h;by_cases h1:JP l≠0
 ·rw[if_pos h1] at h;exact absurd h h1
 rw[if_neg h1] at h;refine ⟨?_,Lo.1 h1⟩;unfold UX XG;cases hs:sync l with
 | none=>rw[hs] at h;cases h
 | some z=>rfl
theorem ZX {c:Q4}(h:X2 c=0):ze (ZD c) (ZT c) (Y5 c)∧QM (ZT c):=by
 obtain ⟨h1,h2⟩:=XD h;have E:=YI h1;have hs:=(Yj E (Qaw h2).1).1;exact ⟨hs,ze.okay E hs⟩
structure TmV where
 vl:Value
 va:Value
 vm:Value
 ve:Value
 vt:Value
 A:QD
 ps:List AV
 qs:List TV
abbrev JH (t:TmV):LV:=[t.vl,t.va,.int .i64 t.A.st,t.vm,t.ve,t.vt]
structure yN (L:LN) (H:Array Obj) (t:TmV):Prop where
 l:Xf L H t.vl t.ps
 a:Zq L H t.va t.vm t.ve t.A
 q:JA L H t.vt t.qs
theorem yN.ext {L:LN}{w w':World}{t:TmV}(h:yN L w.heap t) (hs:Step [] w w'):yN L w'.heap t:=⟨h.l.ext hs,h.a.ext hs,h.q.ext hs⟩
theorem yN.st {L:LN}{w w':World}{t:TmV}(h:yN L w.heap t) (hs:Step L w w'):yN L w'.heap t:=⟨h.l.st hs,h.a.st hs,h.q.st hs⟩
theorem yN.up {L L':LN}{H:Array Obj}{t:TmV}(h:yN L H t) (E:∀b∈L',b∈L∨H.size≤b):yN L' H t:=⟨h.l.up E,h.a.up E,h.q.up E⟩
structure QpW (c:Q4) (t:TmV):Prop where
 A:t.A=ZT c
 l:t.ps.map (·.a)=ZD c
 q:t.qs.map (·.2)=Y5 c
instance:Bw prog 103 [nS,nS,.int .i64 0,nS,nS,nS] [(0,1),(1,4),(5,1)]:=⟨by kernel_rfl,by decide⟩
abbrev Qck:LV:=[nS,nS,.int .i64 0,nS,nS,nS]
set_option maxHeartbeats 4000000 in
theorem Up {L:LN}{w:World}{c:CL}(h0:ZS L w.heap c) (hk:Kb w 4096) :
  QG prog 33 [c.val] w λr w'=>Step [] w w'∧∃us,r=.tuple #[.agg us.toArray,.int .i64 (X2 c.cel)]∧us.length=6∧ZP us∧(X2 c.cel=0→∃t,us=JH t∧QpW c.cel t∧∀L:LN,(∀b∈L,b<w.heap.size)→yN L w'.heap t):=by
 have h:=h0.up (L':=[]) (by simp);have U:=QeQ c.cel;refine Zh (X2 c.cel) λE hE=>?_;rw[hE] at U ⊢;refine QG.of_W func33 Z ntmps33 results33 (by simp) ?_;refine Qc<|xl Z<|QR (us:=c.cells) Z λb1 w1 hl hM h1=>xl Z<|Qu (us:=Qck) Z λJ w2 ha hN hm=>Qf ?_;have hc:=hl.trans ha;have hO:=hl.size;have hP:=ha.size;have h2:=hm.lt
 refine Qc<|x (Qp (h1.ext ha) Z Z)<|xl Z<|xf<|(yO (h.ext hc) (hk.ext hc)).mono ?_;rintro r3 w3 ⟨hf,vl,rfl,hS,h3⟩;refine Qb<|x (Qj Z Z)<|x (Qj Z Z)<|x Qe<|Qf ?_;have hg:=hc.trans hf;have hT:=hf.size;have hn:=hm.ext hf;refine Qg<|Qc<|Qb<|x (Q8 Z Z)<|xe<|Q3 rfl (λV=>?_) (λV=>?_)
 ·rw[if_pos V] at U;subst U;refine Qc<|x (ZF [] La)<|Qb<|xl Z<|Qn (us:=Qck) hn Z Z Z Z ⟨Z,Z,Z,Z,Z,Z,La⟩ λw4 h4 h5=>Qf ?_;exact Ql ⟨[.agg Qck.toArray,.int .i64 (KC c.cel)],⟨⟨_,Z,Qw Z (h5.at (L:=[]) (by simp)).cells⟩,rfl,La⟩,hg.then1 h4 (by omega),Qck,rfl,rfl,⟨rfl,rfl,rfl,rfl,rfl,rfl,La⟩,λh0=>absurd h0 V⟩
 rw[if_neg V] at U;subst U;have ho:=Lo.1 V;obtain ⟨hr,ps,hh,hs⟩:=h3 ho;have h6:∀p∈ps,QM p.a:=λp hp=>YI ho p.a (by rw[←hh];exact LW hp);refine Qi<|Qc<|Qb<|xl Z<|xf<|(UQ (km:=4096) (hs [] (by simp)) (hk.ext hg) (by decide) (qU h6)).mono ?_;rintro r5 w5 ⟨ht,vA,vt,e,rfl,hR⟩;rw[hh] at hR;have he:=hR.e;subst he
 have h7:∃us,vA=.agg us.toArray∧us.length=4∧ZP us:=by
  by_cases he:X9 (ZD c.cel)=0
  ·exact V6 (hR.good he).1
  exact ⟨[nS,.int .i64 0,nS,nS],(hR.bad he).1,Z,Z,Z,Z,Z,La⟩
 have hu:vt.oneCell'=true:=by
  by_cases he:X9 (ZD c.cel)=0
  ·obtain ⟨qs,_,hq⟩:=(hR.good he).2.1;exact (hq [] (by simp)).arr.one
  rw[(hR.bad he).2];rfl
 obtain ⟨us,h8,h9,Y⟩:=h7;subst h8;obtain ⟨H,I,u2,u3,rfl⟩:∃H I u2 u3,us=[H,I,u2,u3]:=by
  match us,h9 with
  | [H,I,u2,u3],_=>exact ⟨H,I,u2,u3,Z⟩
 have hU:=ht.size;refine Qb<|x (Qj Z Z)<|x (Qj Z Z)<|x (Qj Z Z)<|xl Z<|Qu (us:=[nS,.int .i64 0,nS,nS]) Z λb6 w6 hB hC hD=>xl Z<|Qn (us:=[H,I,u2,u3]) hD Z Z Z Z Y λw7 hF hG =>
  x Qe<|Qf ?_
 have hi:Step [] w5 w7:=hB.then1 hF hC;have hj:=ht.trans hi;have hw:ZP [vl,H,I,u2,u3,vt]:=⟨hr,Y.1,Y.2.1,Y.2.2.1,Y.2.2.2.1,hu,La⟩;refine Qc<|Qb<|x (Qp hG Z Z)<|Qb<|x (ZF [(0,[vl]),(1,[H,I,u2,u3]),(2,[vt])] ⟨Jj hr,Z,Z,Z,Jj hu,Z,La⟩)<|Qb<|xl Z<|Qn (us:=[vl,H,I,u2,u3,vt]) (hn.ext hj) Z Z Z Z hw λw8 hy hH =>
  Qf<|Ql ⟨[.agg [vl,H,I,u2,u3,vt].toArray,.int .i64 (X9 (ZD c.cel))],⟨⟨_,Z,Qw Z (hH.at (L:=[]) (by simp)).cells⟩,rfl,La⟩,(hg.trans hj).then1 hy (by omega),[vl,H,I,u2,u3,vt],rfl,rfl,hw,λhe=>?_⟩
 obtain ⟨⟨va,vm,ve,hv,hA⟩,⟨qs,hI,hQ⟩,_⟩:=hR.good he;have hv':H=va∧I=.int .i64 (UX (ZD c.cel)).st∧u2=vm∧u3=ve:=by
  have e1:=Value.agg.inj hv;simpa using e1
 obtain ⟨rfl,rfl,rfl,rfl⟩:=hv';refine ⟨⟨vl,H,u2,u3,vt,ZT c.cel,ps,qs⟩,Z,⟨Z,hh,hI⟩,λL hL=>?_⟩;have hz:∀b∈J::L,b<w3.heap.size:=λb hb=>by
  rcases Lh.1 hb with rfl | hb
  ·omega
  have:=hL b hb;omega
 have hJ:∀b∈L,b<w2.heap.size:=λb hb=>by have:=hL b hb;omega
 have hK:∀b∈J::L,b<w2.heap.size:=λb hb=>by
  rcases Lh.1 hb with rfl | hb
  ·exact h2
  exact hJ b hb
 have t1:yN (J::L) w7.heap ⟨vl,H,u2,u3,vt,ZT c.cel,ps,qs⟩:=⟨((hs (J::L) hK).ext hj),(hA (J::L) hz).ext hi,(hQ (J::L) hz).ext hi⟩;exact (t1.st (hy.mono (by simp))).up (λb hb=>.inl (by simp[hb]))
theorem yc {A:QD}(E:QM A) {aa:List QD}{Q:List (LI)}(h:ze aa A Q) {u:LI}(I:gens A u=true):Qh1 A 0 u=0∧∃j:Nat,j<Q.length∧(flw A 0 u).1=(j:Int):=by
 obtain ⟨j,hj,H,_⟩:=QlZ E h I;have h1:=Qjj E u 0 (by rw[H]);have J:=h.st;refine ⟨?_,j,hj,by rw[H]⟩;have hck:cks A 0=0:=by
  unfold cks;rw[if_neg (by simpa using (Zv A).2 E),if_neg (by omega)]
 unfold Qh1;rw[if_neg (by simpa using hck),if_neg];intro h2;obtain ⟨e,he,h3⟩:=Mk.1 h2;exact of_decide_eq_true h3 (h1 e he)
theorem jN {w:World}{t:TmV}{c:Q4}{vw:Value}{u:LI}(V:yN [] w.heap t) (I:QpW c t) (he:X2 c=0) (hu:QL [] w.heap vw u) :
  QG prog 54 [.agg (JH t).toArray,vw] w λr w'=>Step [] w w'∧r=.tuple #[.int .i64 (if gens (ZT c) u=true then (flw (ZT c) 0 u).1 else 0),.bool (gens (ZT c) u)]:=by
 obtain ⟨hc,hf⟩:=ZX he;refine QG.of_W func54 Z ntmps54 results54 (by simp) ?_;refine Qc<|xl Z<|QR (us:=JH t) Z λb2 w1 J hj Y=>x Qe<|Qf<|Qg<|Qc<|x (Qa Z)<|x (ZI (us:=[t.va,.int .i64 t.A.st,t.vm,t.ve]) Y Z Z Z)<|Qb<|xl Z<|xf<|(QbE (V.a.ext J) (hu.ext J)).mono ?_;rintro r2 w2 ⟨rfl,ha⟩;refine Qb<|x (Qj Z Z)<|x (Qj Z Z)<|x Qe<|Qf ?_;have E:=J.trans ha;rw[←I.A]
 refine Qc<|Qb<|x (Zs Z)<|xe<|QW rfl (λU=>?_) (λU=>?_)
 ·have H:gens t.A u=false:=by simpa using U
  refine Qc<|x Qe<|Qf ?_;exact Ql ⟨[.int .i64 0,.bool false],⟨Z,Z,La⟩,E,by rw[H];rfl⟩
 have H:gens t.A u=true:=by simpa using U
 obtain ⟨hh,_⟩:=yc (A:=t.A) (by rw[I.A];exact hf) (by rw[I.A];exact hc) H;refine Qi<|Qc<|x (Qa Z)<|x (ZI (us:=[t.va,.int .i64 t.A.st,t.vm,t.ve]) (Y.ext ha) Z Z Z)<|Qb<|xl Z<|xf<|(QoO (V.a.ext E) (hu.ext E) 0).mono ?_;rintro r3 w3 ⟨hi,hb⟩;rw[if_neg (by simpa using hh)] at hb;subst hb;refine Qb<|x (Qj Z Z)<|x (Qj Z Z)<|x (Qj Z Z)<|x Qe<|x Qe<|Qf<|Qc<|Qb<|x Qe<|Qf ?_
 exact Ql ⟨[.int .i64 (flw t.A 0 u).1,.bool true],⟨Z,Z,La⟩,E.trans hi,by rw[H];rfl⟩
def pmE (c:Q4) (u:LI):Int:=if X2 c≠0 then X2 c else if gens (ZT c) u=true then 0 else 10
def pmL (c:Q4) (u:LI):LI:=enb (ZT c) (flw (ZT c) 0 u).1
theorem QbA {L:LN}{w:World}{c:CL}{vw:Value}{u:LI}(H:ZS L w.heap c) (ho:QL L w.heap vw u) (hq:Kb w 4096) :
  QG prog 16 [c.val,vw] w λr w'=>Step [] w w'∧∃v,r=.tuple #[v,.int .i64 (pmE c.cel u)]∧(pmE c.cel u≠0→v=Zg)∧(pmE c.cel u=0→Qs 3 w.heap.size w' v (pmL c.cel u)):=by
 have h:=H.up (L':=[]) (by simp);have hu:=ho.up (L':=[]) (by simp);have hp:pmE c.cel u=if X2 c.cel≠0 then X2 c.cel else if gens (ZT c.cel) u=true then 0 else 10:=rfl
 refine Zh (pmE c.cel u) λE hE=>?_;rw[hE] at hp ⊢;refine QG.of_W func16 Z ntmps16 results16 (by simp) ?_;refine Qc<|xl Z<|QR (us:=c.cells) Z λb2 w1 Y h9 hr=>x Qe<|Qf<|Qc<|x (Qp hr Z Z)<|xl Z<|xf<|(Up (h.ext Y) (hq.ext Y)).mono ?_;rintro r2 w2 ⟨hs,us,rfl,hv,hw,hy⟩
 refine Qb<|x (Qj Z Z)<|x (Qj Z Z)<|xl Z<|Qu (us:=Qck) Z λb6 w3 hz h1 h2=>xl Z<|Qn (us:=us) h2 Z Z hv Z hw λw4 h3 hh =>
  Qf ?_
 have hi:Step [] w2 w4:=hz.then1 h3 h1;have ha:=(Y.trans hs).trans hi;refine Qg<|Qc<|Qb<|x (Q8 Z Z)<|xe<|Q3 rfl (λI=>?_) (λI=>?_)
 ·rw[if_pos I] at hp;subst hp;refine Qc<|Qb<|x Qe<|Qf ?_;exact Ql ⟨[Zg,.int .i64 (X2 c.cel)],⟨Z,Z,La⟩,ha,Zg,Z,λ_=>Z,λH=>absurd H I⟩
 rw[if_neg I] at hp;have he:=Lo.1 I;obtain ⟨t,ht,J,hT⟩:=hy he;subst ht;have hb:yN [] w4.heap t:=(hT [] (by simp)).ext hi;refine Qi<|Qc<|x (Qp hh Z Z)<|Qb<|xl Z<|xf<|(jN hb J he (hu.ext ha)).mono ?_;rintro r5 w5 ⟨V,rfl⟩;refine Qb<|x (Qj Z Z)<|x (Qj Z Z)<|x Qe<|Qf ?_;have hc:=ha.trans V;have h4:=hc.size;refine Qg<|Qc<|Qb<|x (Zs Z)<|xe ?_
 refine QW rfl (λhf=>?_) (λhf=>?_)
 ·have U:gens (ZT c.cel) u=false:=by simpa using hf
  rw[U,if_neg (by decide)] at hp;subst hp;refine Qc<|x Qe<|Qf ?_;exact Ql ⟨[Zg,.int .i64 10],⟨Z,Z,La⟩,hc,Zg,Z,λ_=>Z,λH=>absurd H (by decide)⟩
 have U:gens (ZT c.cel) u=true:=by simpa using hf
 rw[if_pos U] at hp;subst hp;obtain ⟨hk,hl⟩:=ZX he;obtain ⟨_,j,hj,hA⟩:=yc hl hk U;have hB:=hk.st;have h5:cks (ZT c.cel) (flw (ZT c.cel) 0 u).1=0:=by
  unfold cks;rw[if_neg (by simpa using (Zv _).2 hl),if_neg (by omega)]
 refine Qi<|Qc<|x (Qa Z)<|x (ZI (us:=[t.va,.int .i64 t.A.st,t.vm,t.ve]) (hh.ext V) Z Z Z)<|Qb<|?_;have hm:=V4 (hb.a.ext V) (flw (ZT c.cel) 0 u).1;rw[J.A] at hm;have h6:(if gens (ZT c.cel) u=true then (flw (ZT c.cel) 0 u).1 else 0)=(flw (ZT c.cel) 0 u).1:=if_pos U
 rw[←J.A] at hm;have hen':QG prog 55 [.agg #[t.va,.int .i64 t.A.st,t.vm,t.ve],.int .i64 (if gens (ZT c.cel) u=true then (flw (ZT c.cel) 0 u).1 else 0)] w5 λr w'=>Step [] w5 w'∧∃v,r=.tuple #[v,.int .i64 0]∧Qs 3 w5.heap.size w' v (pmL c.cel u):=by
  rw[h6];refine (V4 (hb.a.ext V) (flw (ZT c.cel) 0 u).1).mono ?_;rintro r w' ⟨a1,v,a2,a3,a4⟩;have hn:cks t.A (flw (ZT c.cel) 0 u).1=0:=by rw[J.A];exact h5
  refine ⟨a1,v,by rw[a2,hn],?_⟩;have:=a4 hn;unfold pmL;rw[J.A] at this;exact this
 refine xl rfl<|xf<|hen'.mono ?_;rintro r6 w6 ⟨h7,v6,rfl,h8⟩;refine x (Qj Z Z)<|x (Qj Z Z)<|x Qe<|Qf ?_;exact Ql ⟨[v6,.int .i64 0],⟨Z,Z,La⟩,hc.trans h7,v6,Z,λH=>absurd Z H,λ_=>Zi h8 h4⟩
def mrT (c:Q4) (u:LI):LI:=(Y5 c).getD (flw (ZT c) 0 u).1.toNat []
def mrE (c:Q4) (u:LI) (e:Int):Int:=if X2 c≠0 then X2 c else if gens (ZT c) u=true then ckV (ZD c) (mrT c u) e else 10
def mrL (c:Q4) (u:LI) (e:Int):LI:=rfL (ZD c) (mrT c u) e
theorem Qa3 {L:LN}{w:World}{c:CL}{vw:Value}{u:LI}(H:ZS L w.heap c) (h1:QL L w.heap vw u) (e:Int) (h2:Kb w 4096) :
  QG prog 17 [c.val,vw,.int .i64 e] w λr w'=>Step [] w w'∧∃v,r=.tuple #[v,.int .i64 (mrE c.cel u e)]∧(mrE c.cel u e≠0→v=Zg)∧(mrE c.cel u e=0→Qs 3 w.heap.size w' v (mrL c.cel u e)):=by
 have h:=H.up (L':=[]) (by simp);have hu:=h1.up (L':=[]) (by simp);have hp:mrE c.cel u e=if X2 c.cel≠0 then X2 c.cel else if gens (ZT c.cel) u=true then ckV (ZD c.cel) (mrT c.cel u) e else 10:=rfl
 have h3:mrL c.cel u e=rfL (ZD c.cel) (mrT c.cel u) e:=rfl;rw[h3];refine Zh (mrE c.cel u e) λE hE=>?_;rw[hE] at hp ⊢;refine QG.of_W func17 Z ntmps17 results17 (by simp) ?_;refine Qc<|xl Z<|QR (us:=c.cells) Z λb2 w1 ha hL h4=>x Qe<|Qf<|Qc<|x (Qp h4 Z Z)<|xl Z<|xf<|(Up (h.ext ha) (h2.ext ha)).mono ?_;rintro r2 w2 ⟨h5,us,rfl,h6,h7,h8⟩
 refine Qb<|x (Qj Z Z)<|x (Qj Z Z)<|xl Z<|Qu (us:=Qck) Z λb6 w3 h9 hA hB=>xl Z<|Qn (us:=us) hB Z Z h6 Z h7 λw4 hC hl =>
  Qf ?_
 have hm:Step [] w2 w4:=h9.then1 hC hA;have hb:=(ha.trans h5).trans hm;refine Qg<|Qc<|Qb<|x (Q8 Z Z)<|xe<|Q3 rfl (λI=>?_) (λI=>?_)
 ·rw[if_pos I] at hp;subst hp;refine Qc<|Qb<|x Qe<|Qf ?_;exact Ql ⟨[Zg,.int .i64 (X2 c.cel)],⟨Z,Z,La⟩,hb,Zg,Z,λ_=>Z,λH=>absurd H I⟩
 rw[if_neg I] at hp;have he:=Lo.1 I;obtain ⟨t,ht,V,hT⟩:=h8 he;subst ht;have hn:yN [] w4.heap t:=(hT [] (by simp)).ext hm;refine Qi<|Qc<|x (Qp hl Z Z)<|Qb<|xl Z<|xf<|(jN hn V he (hu.ext hb)).mono ?_;rintro r5 Y ⟨hf,rfl⟩;refine Qb<|x (Qj Z Z)<|x (Qj Z Z)<|x Qe<|Qf ?_;have hh:=hb.trans hf;have hD:=hh.size;refine Qg<|Qc<|Qb<|x (Zs Z)<|xe ?_
 refine QW rfl (λhi=>?_) (λhi=>?_)
 ·have J:gens (ZT c.cel) u=false:=by simpa using hi
  rw[J,if_neg (by decide)] at hp;subst hp;refine Qc<|x Qe<|Qf ?_;exact Ql ⟨[Zg,.int .i64 10],⟨Z,Z,La⟩,hh,Zg,Z,λ_=>Z,λH=>absurd H (by decide)⟩
 have J:gens (ZT c.cel) u=true:=by simpa using hi
 rw[if_pos J] at hp;subst hp;obtain ⟨hF,hG⟩:=ZX he;obtain ⟨_,j,hj,ho⟩:=yc hG hF J;have hq:=hn.ext hf;have hr:=hl.ext hf;have U:j<t.qs.length:=by have:=congrArg List.length V.q;rw[Li] at this;omega
 have hH:(if gens (ZT c.cel) u=true then (flw (ZT c.cel) 0 u).1 else 0)=(j:Int):=by rw[if_pos J,ho]
 have hs:mrT c.cel u=(t.qs[j]'U).2:=by
  unfold mrT;rw[ho,←V.q];simp[List.getD,U]
 have hv:=Le U;refine Qi<|Qg<|QU (Step [] Y) [(0,true),(1,true),(2,true),(3,true),(4,true),(5,true),(6,true),(7,true),(8,false),(9,true),(10,true),(11,true),(12,true)] mixed (by rfl) (by kernel_rfl) (Step.drew _ _) ?_;refine p (λ_=>Qa Z)<|pq (λ_ hc=>Qd (hr.ext hc) Z Z)<|p (λ_=>Qa Z)<|pq (λ_ hc=>Qd (hr.ext hc) Z Z) <|
  p (λ_=>Qm)<|Go.Lg.pig Z (g:=Yt) (i:=j) (λ_=>Z) hq.q.arr Z (congrArg (Value.int .i64) hH) U λhM hw=>?_
 refine Zh (t.qs[j]'U) λtq hI=>?_;rw[hI] at hw hs hv;have hk:Step [] Y { Y with drawn:=Y.drawn+1 }:=Step.drew _ _
 have hy:=hq.ext hk;have hR:=QaX hy.l (hy.q.each tq hv) e;rw[V.l,←hs] at hR;refine pq (λ_ hc=>Qv (hw.st hc) Z)<|p (λ_=>Qm)<|pk<|xf<|hR.mono ?_;rintro r6 w6 ⟨hz,v6,rfl,hJ,hK⟩;refine ⟨hk.trans hz,?_⟩;refine p (λ_=>Qj Z Z)<|p (λ_=>Qj Z Z)<|p (λ_=>Qe)<|p (λ_=>Qe)<|pe ?_
 exact Ql ⟨[v6,.int .i64 (ckV (ZD c.cel) (mrT c.cel u) e)],⟨Z,Z,La⟩,(hh.trans hk).trans hz,v6,Z,hJ,λH=>Zi (hK H) hD⟩
theorem QlA {w:World}{va vm ve:Value}{n:Nat}(hn:n≤4096) :
  QG prog 37 [.agg #[va,.int .i64 n,vm,ve]] w λr w'=>Step [] w w'∧Qs 3 w.heap.size w' r (YP n):=by
  refine QG.of_W func37 Z ntmps37 results37 (by simp) ?_;refine Qc<|xl Z<|QR (us:=[va,.int .i64 n,vm,ve]) Z λb1 U V hj Y=>Qf<|Qc<|Qf<|Qg<|Qc<|x (Qa Z)<|x (Qd Y Z Z)<|Qb<|xe<|Qh<|Qz (α:=Nat×Value) [(3,4),(7,14)] (λz=>[(3,z.2),(7,.int .i64 z.1)]) (λz w'=>z.1≤n∧Step [] U w'∧Qs 3 U.heap.size w' z.2 (YP z.1)) (λz=>n - z.1) (by rfl) (0,nS) ⟨Z,Z,La⟩
   ⟨Ln _,Step.refl _ _,QP _ _ _ _⟩ ?_
  rintro ⟨k,v⟩ g w2 ⟨hk,H,E⟩;simp only[] at hk E;have hl:=KX k;have hm:=H.size;have ha:=V.size;refine Qc<|x (QA Z Z)<|xe<|Qg<|QC Z (λI=>?_) (λI=>?_)
  ·refine Qy ?_;have hc:k=n:=by have he:¬(k:Int)<(n:Int):=I;omega
   rw[hc] at E;refine Qc<|Qb<|Qf ?_;exact Ql ⟨[v],Lb,V.trans H,Zi E ha⟩
  have hf:k<n:=by have he:(k:Int)<(n:Int):=I;omega
  refine Qi<|Qg<|Qh<|Qc<|Qb<|Qf<|Qx<|Qb<|Qb<|xl Z<|QH (us:=[[.int .i64 k]]) Z Z (by decide) (by simp) ⟨rfl,rfl,La⟩ λho w3 J hp hg=>?_;have hq:=J.size;refine xl Z<|Q6 (news:=[.int .i64 k]) (L:=[]) (Qt E J) Z Z Z (hg.at (by simp)) (by simp[Value.oneCell']) (by omega) (by omega) λv4 w4 hh hi hr =>
   Qf ?_
  have hge:=Qq E;refine Qx<|QQ Z Z<|Qb<|xe<|⟨(k+1,v4),by simp only[];omega,⟨Z,Z,La⟩,hf,(H.trans J).then hi (λb hb=>.inr (hge b hb).1),?_⟩;simp only[];rw[U7];exact Qs.snoc hh
theorem Qhq {n k:Nat}(h:k<n):(KJ n).drop k=(k:Int)::(KJ n).drop (k+1):=by
 have hl:k<(KJ n).length:=by rw[Qar];exact h
 rw[LQ hl];congr 1;simp[KJ]
theorem QhW (c:Q4) (v:Int) (l:LI):shd c (v::l)=if 2≤(ownr c v).length then some (v,cget (ownr c v) 0,cget (ownr c v) 1) else shd c l:=rfl
def shR (c:Q4):Option (Int×Int×Int):=if Zf c≠0 then none else U0 c
set_option maxHeartbeats 4000000 in
theorem Qg4 {L:LN}{w:World}{c:CL}(h0:ZS L w.heap c) :
  QG prog 34 [c.val] w λr w'=>Step [] w w'∧r=.tuple #[.int .i64 (qI (shR c.cel)).1,.int .i64 (qI (shR c.cel)).2.1,.int .i64 (qI (shR c.cel)).2.2,.bool (shR c.cel).isSome,.int .i64 (Zf c.cel)]:=by
 have h:=h0.up (L':=[]) (by simp);have hsr:shR c.cel=if Zf c.cel≠0 then none else U0 c.cel:=rfl
 refine Zh (Zf c.cel) λE hE=>?_;refine Zh (shR c.cel) λS hS=>?_;rw[hS,hE] at hsr;rw[hS,hE];have hQ:=h.co.arr.le;have hR:=h.ev.arr.le;refine QG.of_W func34 Z ntmps34 results34 (by simp) ?_;refine Qc<|xl Z<|QR (us:=c.cells) Z λb1 w1 hu hT hv=>x Qe<|x Qe<|x Qe<|x Qe<|Qf<|Qg<|Qc<|x (Qp hv Z Z)<|xl Z<|xf<|(XB (h.ext hu)).mono ?_;rintro r2 w2 ⟨hw,hy⟩;rw[hE] at hw;subst hw;refine Qf ?_
 have hf:=hu.trans hy;have hz:=hv.ext hy;refine Qc<|Qb<|x (Q8 Z Z)<|xe<|Q3 rfl (λY=>?_) (λY=>?_)
 ·rw[if_pos Y] at hsr;subst hsr;refine Qc<|Qb<|x Qe<|x Qe<|x Qe<|x Qe<|Qf ?_;exact Ql ⟨[.int .i64 0,.int .i64 0,.int .i64 0,.bool false,.int .i64 E],⟨Z,Z,Z,Z,Z,La⟩,hf,Z⟩
 rw[if_neg Y] at hsr;have h1:E=0:=Lo.1 Y;have hU:c.cel.ev.length=c.ev.length:=rfl;have hD:U0 c.cel=shd c.cel (KJ c.ev.length):=rfl;rw[hD] at hsr;refine Qi<|Qg<|Qc<|x (Qa Z)<|x (Qd hz Z Z)<|x (Qr (h.ext hf).ev.arr Z)<|Qb<|xe ?_
 refine Qh<|Qz (α:=Nat) [(2,6),(8,11),(20,51)] (λz=>[(20,.int .i64 z)]) (λz w'=>z≤c.ev.length∧Step [] w2 w'∧shd c.cel ((KJ c.ev.length).drop z)=S) (λz=>c.ev.length - z) (by rfl) 0 Lb
  ⟨Ln _,Step.refl _ _,hsr.symm⟩ ?_
 rintro k g w3 ⟨hk,hg,H⟩;have hh:=hf.trans hg;have hF:=hz.ext hg;have h3:=h.ext hh;refine Qc<|x (QA Z Z)<|xe<|Qg<|QC Z (λhj=>?_) (λhj=>?_)
 ·refine Qy ?_;have hG:c.ev.length≤k:=by have hl:¬(k:Int)<(c.ev.length:Int):=hj;omega
  rw[Lx (by rw[Qar];exact hG)] at H;have hH:S=none:=H.symm;subst hH;refine Qc<|x Qe<|x Qe<|x Qe<|x Qe<|Qf ?_;exact Ql ⟨[.int .i64 0,.int .i64 0,.int .i64 0,.bool false,.int .i64 0],⟨Z,Z,Z,Z,Z,La⟩,hh,by rw[h1];rfl⟩
 have h5:k<c.ev.length:=by have hl:(k:Int)<(c.ev.length:Int):=hj;omega
 rw[Qhq h5,QhW] at H;refine Qi<|Qg<|Qh<|Qc<|Qb<|Qf<|Qc<|Qf<|Qg<|Qc<|x (Qa Z)<|x (Qd hF Z Z)<|x (Qr h3.co.arr Z)<|Qb<|xe ?_;have hm:ownr c.cel (k:Int)=ixs (λq:IV=>decide ((k:Int)∈q.p.a.al)) 0 c.co:=by
  show ixs (λx:Yo=>decide ((k:Int)∈x.a.al)) 0 (c.co.map (·.it))=_;generalize 0=i0;generalize c.co=l;induction l generalizing i0 with
  | nil=>rfl
  | cons a l ih=>rw[L1,ixs,ixs,ih (i0+1)];rfl
 rw[hm] at H;refine Qh<|Qz (α:=Nat×Value) [(9,11),(26,40)] (λz=>[(9,z.2),(26,.int .i64 z.1)]) (λz w'=>z.1≤c.co.length∧Step [] w3 w'∧Qs 3 w3.heap.size w' z.2 (ixs (λq:IV=>decide ((k:Int)∈q.p.a.al)) 0 (c.co.take z.1))) (λz=>c.co.length - z.1) (by rfl) (0,nS) ⟨Z,Z,La⟩
  ⟨Ln _,Step.refl _ _,QP _ _ _ _⟩ ?_
 rintro ⟨i,v⟩ g w4 ⟨hi,U,I⟩;simp only[] at hi I;have h6:=hh.trans U;have h4:=h.ext h6;have hV:=U.size;have hn:=Ut (λq:IV=>decide ((k:Int)∈q.p.a.al)) (c.co.take i) 0;rw[LD] at hn;refine Qc<|x (QA Z Z)<|xe<|Qg<|QC Z (λho=>?_) (λho=>?_)
 ·refine Qy ?_;have h7:c.co.length≤i:=by have hl:¬(i:Int)<(c.co.length:Int):=ho;omega
  rw[Ls h7] at I;rw[Ls h7] at hn;refine Zh (ixs (λq:IV=>decide ((k:Int)∈q.p.a.al)) 0 c.co) λow hm=>?_;rw[hm] at I hn H;have hA:QL [] w4.heap v ow:=Qs.ints I (by omega) (by simp);refine Qc<|Qb<|x (Qr hA Z)<|x (ZZ Z Z)<|xe<|Q3 Z (λhp=>?_) (λhp=>?_)
  ·have h2:2≤ow.length:=by have hI:(2:Int)≤(ow.length:Int):=hp;omega
   rw[if_pos h2] at H;subst H;have e0:cget ow 0=ow[0]'(by omega):=by unfold cget;simp[List.getD,show 0<ow.length by omega]
   have e1:cget ow 1=ow[1]'(by omega):=by unfold cget;simp[List.getD,show 1<ow.length by omega]
   refine Qg<|QU (Step [] w4) [(0,true),(1,true),(2,true),(3,true),(4,true),(5,true),(6,true),(7,true),(8,true),(9,true),(10,true),(11,true)] mixed (by rfl) (by kernel_rfl) (Step.drew _ _) ?_;refine p (λ_=>Qm)<|p (λ_=>Qm)<|pii (i:=0) Z hA Z Z (by omega) λhW h8=>?_;rw[←e0] at h8;refine pq (λ_ hc=>Qv (h8.st hc) Z) <|
    p (λ_=>Qm)<|pii (i:=1) Z hA Z Z (by omega) λhX h9=>?_
   rw[←e1] at h9;refine pq (λ_ hc=>Qv (h9.st hc) Z)<|p (λ_=>Qe) <|
    p (λ_=>Qe)<|p (λ_=>Qe)<|p (λ_=>Qe)<|p (λ_=>Qe)<|pe ?_
   exact Ql ⟨[.int .i64 k,.int .i64 (cget ow 0),.int .i64 (cget ow 1),.bool true,.int .i64 0],⟨Z,Z,Z,Z,Z,La⟩,h6.trans (Step.drew _ _),by rw[h1];rfl⟩
  have h2:¬2≤ow.length:=by have hI:¬(2:Int)≤(ow.length:Int):=hp;omega
  rw[if_neg h2] at H;refine Qi<|Qx<|QQ Z Z<|Qb<|xe ?_;exact ⟨k+1,by omega,Lb,h5,hg.trans U,H⟩
 have J:i<c.co.length:=by have hl:(i:Int)<(c.co.length:Int):=ho;omega
 have hB:=Le J;have V:=Qcz (λq:IV=>decide ((k:Int)∈q.p.a.al)) J;refine Qi<|Qg<|Qh<|Qc<|Qb<|xig (g:=Zm) (i:=i) X0 h4.co.arr Z Z J λhY hC=>?_;refine Zh (c.co[i]'J) λq hq=>?_;rw[hq] at hC hB V;have ha:=h4.co.each q hB;refine x (QJ hC Z Z)<|xl Z<|Qu (us:=[.string .empty,nS,.int .i64 0,nS,nS]) Z λb11 w5 hJ hK hr=>x Qe <|
  xl rfl<|Qn (us:=Zm q) hr Z Z Z Z ⟨Z,ha.al.one,Z,ha.mr.one,ha.ed.one,La⟩ λw6 hL hr=>xe ?_
 have he:Step [] w4 w6:=hJ.then1 hL hK;refine Qc<|x (Qa Z)<|x (Qa Z)<|x (Qd hr Z Z)<|Qb<|xl Z<|xf<|(YN (ha.al.ext he) (k:Int)).mono ?_;rintro r7 w7 ⟨rfl,rfl⟩;refine xe<|Q3 rfl (λhs=>?_) (λhs=>?_)
 ·rw[if_pos (decide_eq_true hs)] at V;refine Qx<|Qb<|Qb<|xl Z<|QH (us:=[[.int .i64 i]]) Z Z (by decide) (by simp) ⟨rfl,rfl,La⟩ λhZ w8 hM ga hN=>?_;have ht:=he.trans hM;have gb:=ht.size;refine xl Z<|Q6 (news:=[.int .i64 i]) (L:=[]) (Qt I ht) Z Z Z (hN.at (by simp)) (by simp[Value.oneCell']) (by omega) (by omega) λv9 w9 hO hP gc =>
   Qf ?_
  have hge:=Qq I;refine Qx<|QQ Z Z<|Qb<|xe<|⟨(i+1,v9),by simp only[];omega,⟨Z,Z,La⟩,J,(U.trans ht).then hP (λb hb=>.inr (hge b hb).1),?_⟩;simp only[];rw[V];exact Qs.snoc hO
 rw[if_neg (by simpa using hs),LS] at V;refine Qi<|Qx<|QQ Z Z<|Qb<|xe ?_;exact ⟨(i+1,v),by simp only[];omega,⟨Z,Z,La⟩,J,U.trans he,by simp only[];rw[V];exact Qt I he⟩
abbrev rp0:LV:=[.bool false,.int .i64 0,.int .i64 0,.int .i64 0,.bool false,nS,nS,.int .i64 0]
abbrev rpV (S:Option (Int×Int×Int)) (nc:Bool) (vw vs:Value) (st:Int):LV:=[.bool (!S.isSome),.int .i64 (qI S).1,.int .i64 (qI S).2.1,.int .i64 (qI S).2.2,.bool nc,vw,vs,.int .i64 st]
theorem rpA {c:Q4}{vw vs:Value}:rpV (U0 c) (decide ((Xo (ZT c)).length=0)) vw vs (ZT c).st=[.bool (VI c).ps,.int .i64 (VI c).ev,.int .i64 (VI c).f1,.int .i64 (VI c).f2,.bool (VI c).nc,vw,vs,.int .i64 (VI c).tg]:=by
 unfold VI rpV;cases U0 c <;> rfl
theorem yw {c:Q4}(h:X2 c=0):Zf c=0:=by
 have h1:=(XD h).1;rw[UY] at h1;by_cases h2:Zf c≠0
 ·rw[if_pos h2] at h1;exact absurd h1 h2
 exact Lo.1 h2
set_option maxRecDepth 4096 in
set_option maxHeartbeats 8000000 in
theorem qE {L:LN}{w:World}{c:CL}(h0:ZS L w.heap c) (g7:Kb w 4096) :
  QG prog 10 [c.val] w λr w'=>Step [] w w'∧∃us,r=.tuple #[.agg us.toArray,.int .i64 (X2 c.cel)]∧us.length=8∧ZP us ∧
   (X2 c.cel=0→∃vw vs,us=[.bool (VI c.cel).ps,.int .i64 (VI c.cel).ev,.int .i64 (VI c.cel).f1,.int .i64 (VI c.cel).f2,.bool (VI c.cel).nc,vw,vs,.int .i64 (VI c.cel).tg]∧Qs 3 w.heap.size w' vw (VI c.cel).wd∧Qs 3 w.heap.size w' vs (VI c.cel).sts)∧(X2 c.cel≠0→us=rp0):=by
 have h:=h0.up (L':=[]) (by simp);have g8:(VI c.cel).wd=Qh4 (ZT c.cel):=rfl;have g9:(VI c.cel).sts=(ZD c.cel).map (·.st):=rfl;rw[g8,g9];refine QG.of_W func10 Z ntmps10 results10 (by simp) ?_;refine Qc<|xl Z<|QR (us:=c.cells) Z λb1 w1 hK p7 hL=>xl Z<|Qu (us:=rp0) Z λb2 w2 ho p8 hM=>Qf ?_;have h4:=hK.trans ho;have p9:=hK.size;have qc:=ho.size;have qo:=hM.lt
 refine Qc<|x (Qp (hL.ext ho) Z Z)<|xl Z<|xf<|(Up (h.ext h4) (g7.ext h4)).mono ?_;rintro r3 w3 ⟨hN,us,rfl,ka,kb,kc⟩;refine Qb<|x (Qj Z Z)<|x (Qj Z Z)<|xl Z<|Qu (us:=Qck) Z λb4 w4 ke kf kg=>xl Z<|Qn (us:=us) kg Z Z ka Z kb λw5 kh hO =>
  Qf ?_
 have h5:Step [] w3 w5:=ke.then1 kh kf;have h6:=hN.trans h5;have h7:=h4.trans h6;have qr:=hN.size;have q0:=h5.size;have q4:=hO.lt;have hP:=hM.ext h6;refine Qg<|Qc<|Qb<|x (Q8 Z Z)<|xe<|Q3 rfl (λh8=>?_) (λh8=>?_)
 ·refine Qc<|x (QN La)<|Qb<|xl Z<|Qn (us:=rp0) hP Z Z Z Z ⟨Z,Z,Z,Z,Z,Z,Z,Z,La⟩ λw6 ki kj=>Qf ?_;exact Ql ⟨[.agg rp0.toArray,.int .i64 (X2 c.cel)],⟨⟨_,Z,Qw Z (kj.at (L:=[]) (by simp)).cells⟩,rfl,La⟩,h7.then1 ki (by omega),rp0,rfl,rfl,⟨rfl,rfl,rfl,rfl,rfl,rfl,rfl,rfl,La⟩,λh0=>absurd h0 h8,λ_=>rfl⟩
 have he:=Lo.1 h8;have hck:=yw he;have kk:shR c.cel=U0 c.cel:=by unfold shR;rw[if_neg (by simpa using hck)]
 obtain ⟨t,ht,hp,hT⟩:=kc he;subst ht;obtain ⟨kn,hr⟩:=ZX he;have ko:=hr.st0;have kp:=hr.st1;have kq:(ZD c.cel).map (·.st)=t.ps.map (λp=>p.a.st):=by rw[←hp.l,Mf];rfl
 rw[kq];have kr:yN [] w3.heap t:=hT [] (by simp);have hQ:yN [] w5.heap t:=kr.ext h5;rw[←hp.A] at kn hr ko kp;obtain ⟨n,hn⟩:∃n:Nat,t.A.st=n:=⟨t.A.st.toNat,by omega⟩;have hR:t.A.st.toNat=n:=by omega
 have hU:XM t.A=0:=(Zv _).2 hr;have q9:=hQ.l.arr.le;refine Qi<|Qc<|x (Qp ((hL.ext ho).ext h6) Z Z)<|xl Z<|xf<|(Qg4 (h.ext h7)).mono ?_;rintro r7 w7 ⟨hf,rfl⟩;rw[kk];refine Zh (U0 c.cel) λS hS=>?_;rw[hS];refine Qb<|x (Qj Z Z)<|x (Qj Z Z)<|x (Qj Z Z)<|x (Qj Z Z)<|x (Qj Z Z)<|x Qe <|
  x Qe<|x Qe<|x Qe<|Qf ?_
 have kt:=h7.trans hf;have hV:=hO.ext hf;have ku:=hP.ext hf;have j1:=hf.size;refine Qg<|Qc<|Qb<|x (Q8 Z Z)<|xe<|Q3 rfl (λhW=>?_) (λhW=>?_)
 ·exact absurd hck hW
 refine Qi<|Qc<|Qb<|x (Zs Z)<|x (Qa Z)<|x (Qa Z)<|x (Qd hV Z Z)<|x (QN ⟨Z,Z,Z,La⟩)<|xl Z<|Qu (us:=rp0) Z λb10 w9 kv hX kw =>
  xl rfl<|Qn (us:=[.bool (!S.isSome),.int .i64 0,.int .i64 0,.int .i64 0,.bool true,nS,nS,.int .i64 t.A.st]) kw Z Z Z Z ⟨Z,Z,Z,Z,Z,Z,Z,Z,La⟩ λhY kx hs=>xe ?_
 have hg:Step [] w7 hY:=kv.then1 kx hX;have kz:=kt.trans hg;have j2:=hg.size;have j3:=hs.lt;have k0:=hV.ext hg;have k4:=ku.ext hg;have h9:b2≠b10:=by omega
 have hA:b4≠b10:=by omega
 have hB:w.heap.size≤b10:=by omega
 refine QZ (α:=Unit) [(43,49)] (λz=>[]) (λz w'=>Step [b10] hY w'∧QT w'.heap b10 41 (rpV S true (nS) (nS) t.A.st)) (by rfl) ?_ ?_
 ·refine Qc<|Qb<|xe<|QW Z (λhZ=>?_) (λhZ=>?_)
  ·refine Qx<|Qb<|Qb<|Qb<|x (Qa Z)<|xl Z<|QF (j:=1) (u:=.int .i64 (qI S).1) hs Z Z (by simp) rfl λj4 k5 k6=>x (Qa rfl) <|
    xl rfl<|QF (j:=2) (u:=.int .i64 (qI S).2.1) k6 Z Z (by simp) rfl λza k7 k8=>x (Qa rfl)<|xl rfl<|QF (j:=3) (u:=.int .i64 (qI S).2.2) k8 rfl rfl (by simp) rfl λzb k9 ma =>
    xe ?_
   exact ⟨(),La,(k5.trans' k7).trans' k9,ma⟩
  refine Qi ?_;have mc:S=none:=by cases S with | none=>rfl | some z=>cases hZ
  exact ⟨(),La,Step.refl _ _,by rw[mc] at hs ⊢;exact hs⟩
 rintro z g E ⟨hh,mf⟩;have ga:Step [] w E:=kz.then1 hh hB;have zv:=hh.size;have gb:QT E.heap b4 103 (JH t):=k0.step hh (by simpa using hA);have mg:QT E.heap b2 41 rp0:=k4.step hh (by simpa using h9)
 have gc:yN [b10] E.heap t:=((((hQ.ext hf).up (L':=[b10]) (λb hb=>by simp only[List.mem_singleton] at hb;subst hb;exact .inr hX)).ext hg).st hh);refine Qg<|Qc<|x (Qa Z)<|x (Qd gb Z Z)<|x (Qr gc.l.arr Z)<|Qb<|xe ?_
 refine Qh<|Qz (α:=Nat×Value) [(12,12),(53,64)] (λz=>[(53,.int .i64 z.1)]) (λz w'=>z.1≤t.ps.length∧Step [b10] E w'∧QT w'.heap b10 41 (rpV S true (nS) z.2 t.A.st)∧Qs 3 E.heap.size w' z.2 ((t.ps.take z.1).map (λp=>p.a.st))) (λz=>t.ps.length - z.1) (by rfl) (0,nS) Lb
  ⟨Ln _,Step.refl _ _,mf,QP _ _ _ _⟩ ?_
 rintro ⟨k,vs⟩ g J ⟨hk,U,hu,V⟩;simp only[] at hk hu V;have mh:Step [] w J:=ga.then1 U hB;have z0:=U.size;have ge:QT J.heap b4 103 (JH t):=gb.step U (by simpa using hA);have mj:QT J.heap b2 41 rp0:=mg.step U (by simpa using h9);have hv:yN [b10] J.heap t:=gc.st U;have hC:=Qq V
 have z1:((t.ps.take k).map (λp=>p.a.st)).length=k:=by rw[Li,LD];omega
 refine Qc<|x (QA Z Z)<|xe<|Qg<|QC Z (λhD=>?_) (λhD=>?_)
 ·refine Qy ?_;have mo:t.ps.length≤k:=by have mq:¬(k:Int)<(t.ps.length:Int):=hD;omega
  rw[Ls mo] at V;have gg:yN [] J.heap t:=hv.up (by simp);refine Qc<|x (Qa Z)<|x (ZI (us:=[t.va,.int .i64 t.A.st,t.vm,t.ve]) ge Z Z Z)<|xl Z<|xf<|(yS gg.a).mono ?_;rintro z2 hw ⟨H,vc,rfl,gh⟩;rw[if_pos hU] at gh;refine Qb<|x (Qj Z Z)<|x (Qj Z Z)<|x Qe<|Qf ?_;have gi:=mh.trans H;have z3:=H.size;have gj:=ge.ext H
  have z4:=gg.ext H;have z5:(cor t.A).length≤4096:=by
   have:(cor t.A).length≤t.A.st.toNat:=by
    unfold cor VH;rw[Li];have:=My (λi=>decide (0≤cget (bwd t.A.st.toNat t.A.ed t.A.mr) i)) (List.range t.A.st.toNat);rw[M7] at this;exact this
   omega
  have ms:mrg (λp q=>p && !q) (YP n) (cor t.A)=Xo t.A:=by unfold Xo;rw[hR]
  have z9:=KX n;have mt:n≤4096:=by omega
  have gk:∀w:World,QG prog 37 [.agg #[t.va,.int .i64 t.A.st,t.vm,t.ve]] w λr w'=>Step [] w w'∧Qs 3 w.heap.size w' r (YP n):=by
   intro w;rw[hn];exact QlA mt
  refine QZ (α:=Bool×Value) [(15,15),(71,91)] (λz=>[]) (λz w'=>Step [b10] hw w'∧QT w'.heap b10 41 (rpV S z.1 z.2 vs t.A.st)∧z.1=decide ((Xo t.A).length=0)∧Qs 3 hw.heap.size w' z.2 (Qh4 t.A)) (by rfl) ?_ ?_
  ·refine Qc<|x (Qa Z)<|x (ZI (us:=[t.va,.int .i64 t.A.st,t.vm,t.ve]) gj Z Z Z)<|xl Z<|xf<|(gk hw).mono ?_;rintro r17 w17 ⟨hE,mu⟩;have hz17:=hE.size;refine Qb<|xl Z<|xf<|(Qdr (Qs.ints (L:=[]) mu (by omega) (by simp)) (Qs.ints (L:=[]) (Qt gh hE) (by omega) (by simp)) (by omega)).mono ?_;rintro gl mv ⟨gm,hy⟩;rw[ms] at hy;refine Qf ?_;have hi:=hE.trans gm
   have hz18:=gm.size;have gn:=(hu.ext H).ext hi;have mw:=gj.ext hi;have hbl:(Xo t.A).length≤4096:=by
    have h1:(Xo t.A).length≤n:=by
     have:=Qbd (S:=n) (λx hx=>by have:=((UO t.A x).1 hx).1;omega) (yH t.A);exact this
    omega
   have mx:QL [] mv.heap gl (Xo t.A):=Qs.ints hy (by omega) (by simp);refine Qc<|Qb<|x (Qr mx Z)<|x (ZY Z Z)<|xe<|QC Z (λhF=>?_) (λhF=>?_)
   ·have Y:(Xo t.A).length=0:=by have my:¬(0:Int)<((Xo t.A).length:Int):=hF;omega
    refine Qi<|⟨(true,nS),La,hi.any,gn,by rw[decide_eq_true Y],?_⟩;unfold Qh4;rw[if_pos Y];exact QP _ _ _ _
   have Y:¬(Xo t.A).length=0:=by have my:(0:Int)<((Xo t.A).length:Int):=hF;omega
   have mz:0<n:=by
    refine Nat.pos_of_ne_zero λe=>Y ?_;subst e;exact Nat.eq_zero_of_le_zero (Qbd (S:=0) (λx hx=>by have:=((UO t.A x).1 hx).1;omega) (yH t.A))
   refine Qc<|x (Qa Z)<|xl Z<|QF (j:=4) (u:=.bool false) gn Z Z (by simp) rfl λI hj m0=>xe ?_;have gq:QT I.heap b4 103 (JH t):=mw.step hj (by simpa using hA);have m1:yN [] I.heap t:=((hv.ext (H.trans hi)).st hj).up (by simp);have hge18:=Qq hy
   have m2:QL [] I.heap gl (Xo t.A):=(((Qs.ints (L:=[b10]) hy (by omega) (by simp only[List.mem_singleton];omega)).st hj)).up (by simp);have hz19:=hj.size;refine QU (Step [] I) [(0,true),(1,true),(2,true),(3,true),(4,true),(5,false),(6,false),(7,true),(8,true),(9,true),(10,true),(11,true),(12,false)] mixed (by rfl) (by kernel_rfl) (Step.drew _ _) ?_
   have m3:Step [] I { I with drawn:=I.drawn+1 }:=Step.drew _ _
   refine p (λ_=>Qa Z)<|pq (λ_ hc=>ZI (us:=[t.va,.int .i64 t.A.st,t.vm,t.ve]) (gq.ext hc) Z Z Z)<|p (λ_=>Qm)<|p (λ_=>Qa Z)<|pq (λ_ hc=>ZI (us:=[t.va,.int .i64 t.A.st,t.vm,t.ve]) (gq.ext hc) Z Z Z) <|
    pk<|xf<|(gk _).mono ?_
   rintro r20 w20 ⟨m4,m5⟩;have hm:=m3.trans m4;have hz20:=hm.size;refine ⟨hm,?_⟩;have m6:YV t.A.st none (YP n)=0:=Qeo (λx hx=>by have:=(KW n x).1 hx;omega) (Uj n);have m7:YV t.A.st none (Xo t.A)=0:=Qeo (λx hx=>by have:=((UO t.A x).1 hx).1;omega) (yH t.A)
   have hPath:=QmO (from0:=0) ((m1.a).ext hm) hU hn mz (m2.ext hm) (Qs.ints (L:=[]) m5 (by omega) (by simp)) m7 m6 ((KW n _).2 ⟨by omega,by omega⟩);refine pk<|xf<|hPath.mono ?_;rintro r21 w21 ⟨m8,vp,rfl,gr⟩;have hG:=hm.trans m8;refine ⟨hG,?_⟩;have m9:=m0.ext hG;refine p (λ_=>Qm)<|p (λ_=>Qj Z Z)<|p (λ_=>Qj Z Z)<|p (λ_=>Qj Z Z)<|p (λ_=>Qa Z) <|
    pkl (hl:=by kernel_rfl)<|QF (j:=5) (u:=vp) m9 Z Z (by simp) (QO gr) λw22 gs pa=>pe ?_
   refine ⟨(false,vp),La,((hi.any.trans' hj).trans hG).trans' gs,pa,by rw[decide_eq_false Y],?_⟩;unfold Qh4;rw[if_neg Y,hR];have gt:=Zi (base':=hw.heap.size) gr (by omega);exact Qk gt gs (λb hb=>by have:=(Qq gt b hb).1;simp only[List.mem_singleton];omega)
  rintro ⟨nc,vw⟩ g gu ⟨hz,gv,gx,h2⟩;simp only[] at gv gx h2;subst gx;have pc:Step [] w gu:=gi.then1 hz hB;have hz23:=hz.size;have pd:QT gu.heap b2 41 rp0:=(mj.ext H).step hz (by simpa using h9);have gy:=Qk (Qt V H) hz (λb hb=>by have:=(hC b hb).1;simp only[List.mem_singleton];omega)
  have gz:ZP (rpV S (decide ((Xo t.A).length=0)) vw vs t.A.st):=⟨Z,Z,Z,Z,Z,QO h2,QO V,Z,La⟩;refine Qc<|x (Qp gv Z Z)<|xl Z<|Qn (us:=rpV S (decide ((Xo t.A).length=0)) vw vs t.A.st) pd Z Z Z Z gz λw24 hH pf=>Qf ?_;have hl224:b2<E.heap.size:=by omega
  refine Ql ⟨[.agg (rpV S (decide ((Xo t.A).length=0)) vw vs t.A.st).toArray,.int .i64 0],⟨⟨_,Z,Qw Z (pf.at (L:=[]) (by simp)).cells⟩,rfl,La⟩,pc.then1 hH (by omega),rpV S (decide ((Xo t.A).length=0)) vw vs t.A.st,by rw[he];rfl,Z,gz,λ_=>⟨vw,vs,?_,?_,?_⟩,λh0=>absurd he h0⟩
  ·rw[←rpA,hS,hp.A]
  ·rw[←hp.A];have:=Qk h2 hH (λb hb=>by have:=(Qq h2 b hb).1;simp only[List.mem_singleton];omega);exact Zi this (by have:=gi.size;omega)
  have:=Qk gy hH (λb hb=>by have:=(Qq gy b hb).1;simp only[List.mem_singleton];omega);exact Zi this ga.size
 have ha:k<t.ps.length:=by have mq:(k:Int)<(t.ps.length:Int):=hD;omega
 have g0:t.ps.take (k+1)=t.ps.take k++[t.ps[k]'ha]:=Lj ha;have g1:=Le ha;refine Qi<|Qg<|Qh<|Qc<|xig (g:=Zc) (i:=k) JX hv.l.arr Z Z ha λa55 g2=>?_;refine Zh (t.ps[k]'ha) λq hq=>?_;rw[hq] at g2 g1 g0;have hI:=hv.l.each q g1
 refine x (QJ g2 Z Z)<|xl Z<|Qu (us:=[nS,.int .i64 0,nS,nS]) Z λb12 w25 pg ph pj=>xl Z<|Qn (us:=Zc q) pj Z Z Z Z ⟨hI.al.one,Z,hI.mr.one,hI.ed.one,La⟩ λpn po pp =>
  xe ?_
 have g3:Step [] J pn:=pg.then1 po ph;have pt:=hu.ext g3;refine Qx<|x (Qa Z)<|x (Qd pt Z Z)<|x (Qa Z)<|x (Qd pp Z Z)<|xl Z<|QH (us:=[[.int .i64 q.a.st]]) Z Z (by decide) (by simp) ⟨rfl,rfl,La⟩ λb61 w27 pu hb61 pw=>?_;have h3:=g3.trans pu;have hz27:=h3.size;have pz:b10∉ob vs:=λhb=>by have:=(hC b10 hb).1;omega
 refine xl rfl<|Q6 (news:=[.int .i64 q.a.st]) (L:=[]) (Qt V h3) Z Z Z (pw.at (by simp)) (by simp[Value.oneCell']) (by omega) (by omega) λg4 p0 hJ g5 hn28=>?_;have p4:=(hu.ext h3).step g5 pz;refine x (Qa Z)<|xl Z<|QF (j:=6) (u:=g4) p4 Z Z (by simp) (QO hJ) λw29 g6 p5 =>
  xe ?_
 refine Qx<|QQ Z Z<|Qb<|xe ?_;have p6:Step [b10] E p0:=(U.trans h3).then g5 (λb hb=>.inr (hC b hb).1);refine ⟨(k+1,g4),by simp only[];omega,Lb,ha,p6.trans' g6,p5,?_⟩;simp only[];rw[g0,Ly];have:=Qk hJ g6 (λb hb=>by have:=(Qq hJ b hb).1;simp only[List.mem_singleton];omega);exact Qs.snoc (n:=q.a.st) this
theorem QeL {L:LN}{w:World}{c:CL}(E:ZS L w.heap c) (H:Kb w 4096) :
  QG prog 10 [c.val] w λr w'=>Step [] w w'∧∃us,r=.tuple #[.agg us.toArray,.int .i64 (X2 c.cel)]∧us.length=8∧ZP us ∧
   (X2 c.cel=0→∃vw vs,us=[.bool (VI c.cel).ps,.int .i64 (VI c.cel).ev,.int .i64 (VI c.cel).f1,.int .i64 (VI c.cel).f2,.bool (VI c.cel).nc,vw,vs,.int .i64 (VI c.cel).tg]∧Qs 3 w.heap.size w' vw (VI c.cel).wd∧Qs 3 w.heap.size w' vs (VI c.cel).sts) :=
 (qE E H).mono λ_ _ ⟨h1,us,h2,h3,h4,h5,_⟩=>⟨h1,us,h2,h3,h4,h5⟩
end Go.Proofs.YtjcgijbhaemldaaGreatDoor
namespace Go.Lg
theorem Qb3 {κ:Type}[DecidableEq κ] {l:List κ}{s:κ}(h:s∉l):mput (l.map λs=>(s,Value.bool true)) s (.bool true)=(l++[s]).map λs=>(s,Value.bool true):=by
 induction l with
 | nil=>rfl
 | cons a l ih =>
  have h1:a≠s:=λe=>h (by subst e;exact Lm);show (if a=s then (a,Value.bool true)::(l.map λs=>(s,Value.bool true)) else (a,Value.bool true)::mput (l.map λs=>(s,Value.bool true)) s (.bool true))=_
  rw[if_neg h1,ih (λhm=>h (Lk _ hm))];rfl
theorem QhX {κ:Type}[DecidableEq κ] (l:List κ) (s:κ):mget (l.map λs=>(s,Value.bool true)) s=if s∈l then some (.bool true) else none:=by
 induction l with
 | nil=>rfl
 | cons a l ih =>
  show (if a=s then some (Value.bool true) else mget (l.map λs=>(s,Value.bool true)) s)=_
  rw[ih];by_cases h:a=s
  ·subst h;simp
  rw[if_neg h];have h':¬s=a:=λe=>h e.symm;simp[h']
section
variable {P:Program} {f:Fr} {w:World} {d:Option Nat} {ty:Nat} {ps:String} {af:Array Edge} {gd:Option (Nat×Bool)} {κ:Type} [DecidableEq κ]
theorem jB {t kt et:Nat}[hm:Mp P t kt et (.bool false)] {enc:κ→Value}[hk:Key P kt enc] {x y:Operand}{b:Nat}{l:List κ}{s:κ}(h:ZN enc w.heap b (l.map λs=>(s,Value.bool true))) (hx:ev f x=.map (some b)) (hy:ev f y=enc s) :
  (execOp (ev f) ⟨d,.lookup t x y false,ty,ps,af,gd⟩).run P w=.ok (.value (.bool (decide (s∈l)))) w:=by
 rw[J3 h hx hy,QhX];by_cases hs:s∈l <;> simp[hs]
end
end Go.Lg
namespace Go.Proofs.YtjcgijbhaemldaaGreatDoor
open Go.Proofs.Tryz
open Go.Lg
instance ayYv1:Ay prog 184 2 3 1:=⟨by kernel_rfl,by kernel_rfl⟩
def qk:List QD→Int
 | []=>0
 | a::l=>if XM a≠0 then XM a else qk l
def Qj0 (kd:Int) (l:List QD):Int:=if qk l≠0 then qk l else if kd≠1∧kd≠2 then 11 else 0
theorem QpQ (a b:QD) (kd:Int):Qj0 kd [a,b]=lgE a b kd:=by
 unfold Qj0 lgE qk;by_cases h1:XM a≠0
 ·simp only[if_pos h1]
 rw[if_neg h1,if_neg h1];unfold qk;by_cases h2:XM b≠0
 ·simp only[if_pos h2]
 rw[if_neg h2,if_neg h2];unfold qk;simp
theorem Qd9 {L:LN}{w:World}{v:Value}{ps:List AV}(h0:Xf L w.heap v ps) (kd:Int) :
  QG prog 84 [.int .i64 kd,v] w λr w'=>r=.int .i64 (Qj0 kd (ps.map (·.a)))∧Step [] w w':=by
 have h:=h0.up (L':=[]) (by simp);have hv:=h.arr.le;have H:Qj0 kd (ps.map (·.a))=if qk (ps.map (·.a))≠0 then qk (ps.map (·.a)) else if kd≠1∧kd≠2 then 11 else 0:=rfl
 refine Zh (Qj0 kd (ps.map (·.a))) λE hE=>?_;rw[hE] at H ⊢;refine QG.of_W func84 Z ntmps84 results84 (by simp) ?_;refine Qc<|Qf<|Qg<|Qc<|Qb<|x (Qr h.arr Z)<|Qb<|xe<|Qh<|Qz (α:=Nat) [(4,4),(6,7),(10,19)] (λz=>[(10,.int .i64 z)]) (λz w'=>z≤ps.length∧Step [] w w'∧qk ((ps.drop z).map (·.a))=qk (ps.map (·.a))) (λz=>ps.length - z) (by rfl) 0 Lb ⟨Ln _,Step.refl _ _,Z⟩ ?_
 rintro k g w1 ⟨hk,I,hk1⟩;refine Qc<|x (QA Z Z)<|xe<|Qg<|QC Z (λY=>?_) (λY=>?_)
 ·refine Qy ?_;have hj:ps.length≤k:=by have hl:¬(k:Int)<(ps.length:Int):=Y;omega
  rw[Lx hj] at hk1;have hz:qk (ps.map (·.a))=0:=hk1.symm;rw[if_neg (by simpa using hz)] at H;refine Qg<|QZ (α:=Bool) [(20,25)] (λz=>[(25,.bool z)]) (λz w'=>w'=w1∧z=decide (kd≠1∧kd≠2)) (by rfl) ?_ ?_
  ·refine Qx<|Qb<|xb (Q8 Z Z) (λha=>?_) (λha=>?_)
   ·refine Qb<|Qb<|x (Q8 Z Z)<|x (Qo Z)<|xe ?_;have hb:¬kd=1:=ha;exact ⟨decide (¬kd=2),Lb,Z,by simp[hb]⟩
   refine Qb<|xs Z<|xs Z<|x (Qo Z)<|xe ?_;have hb:kd=1:=Lo.1 ha;exact ⟨false,Lb,Z,by simp[hb]⟩
  rintro z g w2 ⟨rfl,he⟩;refine QW Z (λhc=>?_) (λhc=>?_)
  ·rw[if_pos (of_decide_eq_true (he.symm.trans hc))] at H;subst H;refine Qc<|Qf ?_;exact Ql ⟨[_],Lb,Z,I⟩
  rw[if_neg (of_decide_eq_false (he.symm.trans hc))] at H;subst H;refine Qi<|Qc<|Qf ?_;exact Ql ⟨[_],Lb,Z,I⟩
 have J:k<ps.length:=by have hl:(k:Int)<(ps.length:Int):=Y;omega
 have hf:=Le J;rw[LQ J,L1,qk] at hk1;refine Qi<|Qg<|Qh<|Qc<|xig (g:=Zc) (i:=k) JX (h.ext I).arr Z Z J λhw hg=>?_;refine Zh (ps[k]'J) λq hq=>?_;rw[hq] at hg hf hk1;have U:=(h.ext I).each q hf
 refine x (QJ hg Z Z)<|xl Z<|Qu (us:=[nS,.int .i64 0,nS,nS]) Z λb6 w3 hm hn ho=>xl Z<|Qn (us:=Zc q) ho Z Z Z Z ⟨U.al.one,Z,U.mr.one,U.ed.one,La⟩ λw4 hp hs =>
  xe ?_
 have hh:Step [] w1 w4:=hm.then1 hp hn;refine Qc<|x (Qp hs Z Z)<|xl Z<|xf<|(Xn (U.ext hh)).mono ?_;rintro r5 w5 ⟨rfl,ht⟩;refine Qf ?_;have hi:=(I.trans hh).trans ht;refine Qc<|Qb<|x (Q8 Z Z)<|xe<|Q3 rfl (λV=>?_) (λV=>?_)
 ·rw[if_pos V] at hk1;have hu:qk (ps.map (·.a))≠0:=by rw[←hk1];exact V
  rw[if_pos hu,←hk1] at H;subst H;refine Qc<|Qb<|Qf ?_;exact Ql ⟨[_],Lb,Z,hi⟩
 rw[if_neg V] at hk1;refine Qi<|Qx<|QQ Z Z<|Qb<|xe ?_;exact ⟨k+1,by omega,Lb,J,hi,hk1⟩
abbrev stI (l:LI):List (Int×Value):=l.map λs=>(s,Value.bool true)
structure Mch (H:Array Obj) (b m1 m2:Nat) (a:QD):Prop where
 B:QT H b 250 [.map (some m1),.map (some m2),.int .i64 (fst a)]
 e:ZN Z4 H m1 (Kx [] a.ed)
 m:ZN JV H m2 (stI a.mr)
theorem Mch.step {X:LN}{w w':World}{b E H:Nat}{a:QD}(h:Mch w.heap b E H a) (hs:Step X w w') (I:b∉X) (h1:E∉X) (h2:H∉X):Mch w'.heap b E H a:=⟨h.B.step hs I,h.e.step hs h1,h.m.step hs h2⟩
theorem Mch.ext {w w':World}{b E H:Nat}{a:QD}(h:Mch w.heap b E H a) (hs:Step [] w w'):Mch w'.heap b E H a:=h.step hs (by simp) (by simp) (by simp)
theorem jO {w:World}{b I J:Nat}{a:QD}(h:Mch w.heap b I J a) (U:QM a) (s v:Int) :
  QG prog 139 [.pointer (some ⟨b,0,none⟩),.int .i64 s,.int .i64 v] w λr w'=>r=.int .i64 (nxt a.ed s v)∧Step [] w w':=by
 have E:nxt a.ed s v=(if (eget a.ed s v).isSome=true then (eget a.ed s v).getD 0 else -1):=by rw[XR];cases eget a.ed s v <;> rfl
 refine QG.of_W func139 Z ntmps139 results139 (by simp) ?_;refine Qc<|Qf<|Qg<|Qc<|Qb<|x (QE Z)<|x (Qa Z)<|x (Qd h.B Z Z)<|Qb<|Qb<|x (QN ⟨Z,Z,La⟩)<|x (Qfb (s:=a) (q:=s) (v:=v) h.e U.edi Z Z) <|
  Qb<|x (Qj Z Z)<|x (Qj Z Z)<|x Qe<|Qf<|Qc<|Qb<|xe ?_
 refine Q3 rfl (λH=>?_) (λH=>?_)
 ·rw[if_pos H] at E;refine Qc<|Qb<|Qf ?_;exact Ql ⟨[_],Lb,by rw[E];rfl,Step.refl _ _⟩
 rw[if_neg H] at E;refine Qi<|Qc<|Qf ?_;exact Ql ⟨[_],Lb,by rw[E];rfl,Step.refl _ _⟩
theorem Qfz {w:World}{b J U:Nat}{a:QD}(h:Mch w.heap b J U a) (s kd:Int) :
  QG prog 89 [.pointer (some ⟨b,0,none⟩),.int .i64 s,.int .i64 kd] w λr w'=>r=.bool (Uq a kd s)∧Step [] w w':=by
 refine QG.of_W func89 Z ntmps89 results89 (by simp) ?_;refine Qc<|Qf<|QZ (α:=Bool) [(6,20)] (λz=>[(6,.bool z)]) (λz w'=>w'=w∧z=Uq a kd s) (by rfl) ?_ ?_
 ·refine Qx<|Qb<|xb (ZZ Z Z) (λE=>?_) (λE=>?_)
  ·have h9:0≤s:=E;refine Qb<|Qb<|xb (Zr Z Z) (λH=>?_) (λH=>?_)
   ·refine Qb<|xs Z<|xs Z<|xs Z<|xs Z<|xs Z<|xs Z<|x (Qo Z)<|x (Qo Z)<|Qf ?_;have I:kd=1:=H;exact ⟨true,Lb,Z,by simp[Uq,h9,I]⟩
   have I:¬kd=1:=H;refine Qb<|Qb<|x (QE Z)<|x (Qa Z)<|x (Qd h.B Z Z)<|Qb<|x (jB (s:=s) h.m Z Z)<|x (Qo Z)<|x (Qo Z) <|
    Qf ?_
   exact ⟨decide (s∈a.mr),Lb,Z,by simp[Uq,h9,I]⟩
  have h9:¬0≤s:=E;refine Qb<|xs Z<|xs Z<|xs Z<|xs Z<|xs Z<|xs Z<|xs Z<|xs Z<|xs Z<|xs Z<|x (Qo Z)<|x Qe <|
   xe ?_
  exact ⟨false,Lb,Z,by simp[Uq];omega⟩
 rintro z g V ⟨rfl,rfl⟩;exact Ql ⟨[_],Lb,Z,Step.refl _ _⟩
theorem QiV {w:World}{b10 J b11 U hf hg V hh hi:Nat}{a b:QD}{kd:Int}(hj:QT w.heap b10 180 [.pointer (some ⟨U,0,none⟩)]) (hk:QT w.heap b11 180 [.pointer (some ⟨V,0,none⟩)])
  (h5:QT w.heap J 3 [.int .i64 kd]) (ha:Mch w.heap U hf hg a) (hb:Mch w.heap V hh hi b) (s t:Int) :
  QG prog 88 [.agg #[.int .i64 s,.int .i64 t],.pointer (some ⟨b10,0,none⟩),.pointer (some ⟨J,0,none⟩),.pointer (some ⟨b11,0,none⟩)] w λr w'=>r=.bool (!(Uq a kd s == Uq b kd t))∧Step [] w w':=by
 refine QG.of_W func88 Z ntmps88 results88 (by simp) ?_;refine Qc<|xl Z<|QR (us:=[.int .i64 s,.int .i64 t]) Z λb4 H E hl Y=>Qf ?_;have hd:Step [] H { H with drawn:=H.drawn+1 }:=Step.drew _ _
 refine Qg<|QU (Step [] H) [(0,true),(1,true),(2,true),(3,true),(5,true),(6,true),(7,true),(8,true),(4,false),(9,false),(10,true),(11,true)] mixed (by rfl) (by kernel_rfl) (Step.drew _ _) ?_;refine pq (λ_ hc=>Qd ((hj.ext E).ext hc) Z Z)<|p (λ_=>Xi (i:=0) Z Z (by decide))<|pq (λ_ hc=>Qd (Y.ext hc) Z Z)<|pq (λ_ hc=>Qd ((h5.ext E).ext hc) Z Z)<|pq (λ_ hc=>Qd ((hk.ext E).ext hc) Z Z) <|
  p (λ_=>Xi (i:=1) Z Z (by decide))<|pq (λ_ hc=>Qd (Y.ext hc) Z Z)<|pq (λ_ hc=>Qd ((h5.ext E).ext hc) Z Z)<|pk<|xf<|(Qfz ((ha.ext E).ext hd) s kd).mono ?_
 rintro r2 w2 ⟨rfl,I⟩;refine ⟨hd.trans I,?_⟩;refine pk<|xf<|(Qfz (((hb.ext E).ext hd).ext I) t kd).mono ?_;rintro r3 w3 ⟨rfl,he⟩;refine ⟨(hd.trans I).trans he,?_⟩;refine p (λ_=>QdO Z Z)<|p (λ_=>Qe)<|pe ?_;exact Ql ⟨[_],Lb,Z,((E.trans hd).trans I).trans he⟩
set_option maxHeartbeats 4000000 in
theorem jP {w:World}{va vm ve:Value}{a:QD}(h:Zq [] w.heap va vm ve a) (ho:QM a) :
  QG prog 85 [.agg #[va,.int .i64 a.st,vm,ve]] w λr w'=>Step [] w w'∧∃b E H,r=.pointer (some ⟨b,0,none⟩)∧w.heap.size≤b∧w.heap.size≤E∧w.heap.size≤H∧Mch w'.heap b E H a:=by
 have gs:=h.ed.le;have gt:=h.mr.le;refine QG.of_W func85 Z ntmps85 results85 (by simp) ?_;refine Qc<|xl Z<|QR (us:=[va,.int .i64 a.st,vm,ve]) Z λb1 w1 hn gu h9=>Qf<|Qc<|xl Z<|Ya Z4 λE w2 hB gv hC=>xl Z<|Ya JV λH w3 hp gx hD=>x (QN ⟨Z,Z,Z,La⟩)<|xl Z<|QR (us:=[.map (some E),.map (some H),.int .i64 0]) Z λb11 J Y gy hq =>
  Qf ?_
 have gz:=hn.size;have g0:=hB.size;have g1:=hp.size;have g2:=Y.size;have g3:=hC.lt;have g4:=hD.lt;have g5:=hq.lt;have hr:=(hB.trans hp).trans Y;have ht:=h9.ext hr;have g6:=h9.lt;have hO:ZN Z4 J.heap E []:=((hC.step hp (by simp)).step Y (by simp));have hP:ZN JV J.heap H []:=hD.step Y (by simp)
 have hu:∀{b:Nat},b∈[b11,E,H]→w1.heap.size≤b:=λhb=>by simp only[List.mem_cons,List.not_mem_nil,or_false] at hb;omega
 have hE:b1∉[b11,E,H]:=λhb=>by have:=hu hb;omega
 have hQ:∀b∈[b11,E,H],w.heap.size≤b:=λb hb=>by have:=hu hb;omega
 have hA:∀{w':World},Step [b11,E,H] J w'→Zq [] w'.heap va vm ve a:=λhs =>
  ((((h.ext hn).up (L':=[b11,E,H]) (λb hb=>.inr (hu hb))).ext hr).st hs).up (by simp)
 have hR:∀b∈[b11],b∈[b11,E,H]:=λb hb=>by simp only[List.mem_singleton] at hb;simp[hb]
 have k1:∀b∈[E],b∈[b11,E,H]:=λb hb=>by simp only[List.mem_singleton] at hb;simp[hb]
 have k2:∀b∈[H],b∈[b11,E,H]:=λb hb=>by simp only[List.mem_singleton] at hb;simp[hb]
 refine QZ (α:=Unit) [(12,17)] (λz=>[]) (λz w'=>Step [b11] J w'∧QT w'.heap b11 250 [.map (some E),.map (some H),.int .i64 (fst a)]) (by rfl) ?_ ?_
 ·refine Qc<|x (Qa Z)<|x (Qd ht Z Z)<|x (Zr Z Z)<|xe<|Q3 Z (λhv=>?_) (λhv=>?_)
  ·have hf:fst a=-1:=by unfold fst;rw[if_pos hv]
   refine Qx<|Qb<|x (QE Z)<|x (Qa Z)<|xl Z<|QF (j:=2) (u:=.int .i64 (-1)) hq Z Z (by simp) rfl λw5 hS hT=>xe ?_;exact ⟨(),La,hS,by rw[hf];exact hT⟩
  have hf:fst a=0:=by unfold fst;rw[if_neg hv]
  refine Qi ?_;exact ⟨(),La,Step.refl _ _,by rw[hf];exact hq⟩
 rintro z g w6 ⟨ha,hU⟩;have hw:=ha.mono hR;have g7:=ha.size;have hV:ZN Z4 w6.heap E []:=hO.step ha (by simp only[List.mem_singleton];omega);have hW:ZN JV w6.heap H []:=hP.step ha (by simp only[List.mem_singleton];omega);have hX:=ht.step hw hE;have h6:=hA hw;refine Qg<|Qc<|x (Qa Z)<|x (Qd hX Z Z)<|x (Qr h6.ed Z)<|Qb<|xe ?_
 refine Qh<|Qz (α:=Nat) [(5,5),(21,36)] (λz=>[(21,.int .i64 z)]) (λz w'=>z≤a.ed.length∧Step [E] w6 w'∧ZN Z4 w'.heap E (Kx [] (a.ed.take z))) (λz=>a.ed.length - z) (by rfl) 0 Lb
  ⟨Ln _,Step.refl _ _,hV⟩ ?_
 rintro k g w7 ⟨hk,U,hy⟩;have hz:Step [b11,E,H] J w7:=hw.trans' (U.mono k1);have h7:=hA hz;have g8:=U.size;have hF:=hU.step U (by simp only[List.mem_singleton];omega);have hY:=hW.step U (by simp only[List.mem_singleton];omega);have hZ:=ht.step hz hE;refine Qc<|x (QA Z Z)<|xe<|Qg<|QC Z (λh0=>?_) (λh0=>?_)
 ·refine Qy ?_;have ga:a.ed.length≤k:=by have h1:¬(k:Int)<(a.ed.length:Int):=h0;omega
  rw[Ls ga] at hy;refine Qg<|Qc<|x (Qa Z)<|x (Qd hZ Z Z)<|x (Qr h7.mr Z)<|Qb<|xe<|Qh<|Qz (α:=Nat) [(7,7),(40,49)] (λz=>[(40,.int .i64 z)]) (λz w'=>z≤a.mr.length∧Step [H] w7 w'∧ZN JV w'.heap H (stI (a.mr.take z))) (λz=>a.mr.length - z) (by rfl) 0 Lb
   ⟨Ln _,Step.refl _ _,hY⟩ ?_
  rintro j g w8 ⟨hj,hg,h2⟩;have hG:Step [b11,E,H] J w8:=hz.trans' (hg.mono k2);have h8:=hA hG;have hH:=hF.step hg (by simp only[List.mem_singleton];omega);have gb:=hy.step hg (by simp only[List.mem_singleton];omega);refine Qc<|x (QA Z Z)<|xe<|Qg<|QC Z (λh3=>?_) (λh3=>?_)
  ·refine Qy ?_;have gc:a.mr.length≤j:=by have h1:¬(j:Int)<(a.mr.length:Int):=h3;omega
   rw[Ls gc] at h2;refine Qc<|Qb<|Qf ?_;exact Ql ⟨[.pointer (some ⟨b11,0,none⟩)],Lb,(hn.trans hr).then hG (λb hb=>.inr (hQ b hb)),b11,E,H,Z,by omega,by omega,by omega,hH,gb,h2⟩
  have I:j<a.mr.length:=by have h1:(j:Int)<(a.mr.length:Int):=h3;omega
  have hI:a.mr.take (j+1)=a.mr.take j++[a.mr[j]'I]:=Lj I;have hJ:(a.mr[j]'I)∉a.mr.take j:=by
   intro hm;obtain ⟨i,hi,e⟩:=LB hm;rw[Nb] at e;have ge:i<j:=by rw[LD] at hi;omega
   have:=Z8.get ho.mri I ge;omega
  refine Qi<|Qg<|Qh<|Qc<|xii (i:=j) h8.mr Z Z I λg9 hK=>?_;refine Zh (a.mr[j]'I) λs hs=>?_;rw[hs] at hK hI hJ;refine x (Qv hK Z)<|Qf<|Qx<|Qb<|x (QE Z)<|x (Qa Z)<|x (Qd hH Z Z)<|Qb<|xl Z<|Y1 (k:=s) h2 Z Z λw9 gg gh=>xe ?_;refine Qx<|QQ Z Z<|Qb<|xe<|⟨j+1,by omega,Lb,I,hg.trans' gg,?_⟩;rw[hI]
  have hL:ZN JV w9.heap H (mput ((a.mr.take j).map λs=>(s,Value.bool true)) s (.bool true)):=gh;rw[Qb3 hJ] at hL;exact hL
 have hh:k<a.ed.length:=by have h1:(k:Int)<(a.ed.length:Int):=h0;omega
 have hM:=yp (m:=[]) hh;refine Qi<|Qg<|Qh<|Qc<|xie (i:=k) h7.ed Z Z hh λka hN=>?_;refine Zh (a.ed[k]'hh) λe he=>?_;rw[he] at hN hM;refine x (QJ hN Z Z)<|xl Z<|Qu (us:=[.int .i64 0,.int .i64 0,.int .i64 0]) Z λb5 kb gi gj gk=>xl Z<|Qn (us:=QB e) gk Z Z Z Z ⟨Z,Z,Z,La⟩ λV gl h4 =>
  xe ?_
 have h5:Step [] w7 V:=gi.then1 gl gj;have gm:=hF.ext h5;have gn:ZN Z4 V.heap E (Kx [] (a.ed.take k)):=hy.step h5 (by simp);refine QU (Step [] V) [(0,true),(1,true),(2,true),(3,true),(4,true),(5,true),(6,true),(7,true),(8,true),(9,true),(10,true),(11,false)] mixed (by rfl) (by kernel_rfl) (Step.drew _ _) ?_
 refine p (λ_=>Qm)<|p (λ_=>QE Z)<|p (λ_=>Qa Z)<|pq (λ_ hc=>Qd (gm.ext hc) Z Z) <|
  p (λ_=>Qa Z)<|pq (λ_ hc=>Qd (h4.ext hc) Z Z)<|p (λ_=>Qa Z)<|pq (λ_ hc=>Qd (h4.ext hc) Z Z) <|
  p (λ_=>QN ⟨Z,Z,La⟩)<|p (λ_=>Qa Z)<|pq (λ_ hc=>Qd (h4.ext hc) Z Z)<|pkl (hl:=by kernel_rfl)<|Y1 (k:=(e.1,e.2.1)) (gn.step (Step.drew [] V) (by simp)) rfl rfl λkc gq gr =>
  pe ?_
 refine Qx<|QQ Z Z<|Qb<|xe<|⟨k+1,by omega,Lb,hh,((U.trans h5).trans (Step.drew [] V)).trans' gq,?_⟩;rw[hM];exact gr
theorem QgM (a b:Int) (v w:LI):QgN (a::v) (b::w)=if a=b then QgN v w else decide (a<b):=rfl
theorem QiM {L L':LN}{w:World}{v v':Value}{l l':LI}(h:QL L w.heap v l) (h':QL L' w.heap v' l') :
  QG prog 42 [v,v'] w λr w'=>r=.bool (less l l')∧Step [] w w':=by
 have ht:=h.le;have hu:=h'.le;have H:less l l'=if l.length≠l'.length then decide (l.length<l'.length) else QgN l l':=rfl
 refine Zh (less l l') λR hR=>?_;rw[hR] at H ⊢;have I:QL [] w.heap v l:=h.up (by simp);have U:QL [] w.heap v' l':=h'.up (by simp);refine QG.of_W func42 Z ntmps42 results42 (by simp) ?_;refine Qc<|Qf<|Qg<|Qc<|Qb<|x (Qr I Z)<|Qb<|x (Qr U Z)<|x (Q8 Z Z)<|xe<|Q3 rfl (λhb=>?_) (λhb=>?_)
 ·have hn:l.length≠l'.length:=λe=>hb (by rw[e]);rw[if_pos hn] at H;refine Qc<|Qb<|x (Qr I Z)<|Qb<|x (Qr U Z)<|x (QA Z Z)<|Qf<|Ql ⟨[_],Lb,?_,Step.refl _ _⟩;rw[H];have:decide ((l.length:Int)<(l'.length:Int))=decide (l.length<l'.length):=by rw[decide_eq_decide];omega
  show Value.bool (decide ((l.length:Int)<(l'.length:Int)))=_;rw[this]
 have ho:l.length=l'.length:=by
  have hv:(l.length:Int)=(l'.length:Int):=Lo.1 hb;omega
 rw[if_neg (by simpa using ho)] at H;refine Qi<|Qg<|Qc<|Qb<|x (Qr I Z)<|Qb<|xe<|Qh<|Qz (α:=Nat) [(4,5),(18,39)] (λz=>[(18,.int .i64 z)]) (λz w'=>z≤l.length∧Step [] w w'∧QgN (l.drop z) (l'.drop z)=R) (λz=>l.length - z) (by rfl) 0 Lb ⟨Ln _,Step.refl _ _,H.symm⟩ ?_;rintro k g E ⟨hk,V,hk1⟩;refine Qc<|x (QA Z Z)<|xe<|Qg<|QC Z (λhe=>?_) (λhe=>?_)
 ·refine Qy ?_;have hp:l.length≤k:=by have hq:¬(k:Int)<(l.length:Int):=he;omega
  rw[Lx hp] at hk1;have hs:R=false:=hk1.symm;refine Qc<|Qf ?_;exact Ql ⟨[_],Lb,by rw[hs];rfl,V⟩
 have J:k<l.length:=by have hq:(k:Int)<(l.length:Int):=he;omega
 have Y:k<l'.length:=by omega
 rw[LQ J,LQ Y,QgM] at hk1;refine Qi<|Qg<|Qh<|Qc<|Qb<|Qf<|Qg<|QU (Step [] E) [(0,true),(1,true),(2,true),(3,true),(4,true),(5,true),(6,true),(7,true),(8,true)] mixed (by rfl) (by kernel_rfl) (Step.drew _ _) ?_;refine p (λ_=>Qm)<|p (λ_=>Qm)<|pii (i:=k) Z (I.ext V) Z Z J λhw hg=>?_;refine Zh (l[k]'J) λx1 hh=>?_;rw[hh] at hg hk1
 refine pq (λ_ hc=>Qv (hg.st hc) Z) <|
  p (λ_=>Qm)<|p (λ_=>Qm)<|pii (i:=k) Z (U.ext V) Z Z Y λhy hi=>?_
 refine Zh (l'[k]'Y) λx2 hj=>?_;rw[hj] at hi hk1;refine pq (λ_ hc=>Qv (hi.st hc) Z)<|p (λ_=>Q8 Z Z)<|pe ?_;have hd:Step [] E { E with drawn:=E.drawn+1 }:=Step.drew _ _
 have ha:=V.trans hd;refine Q3 rfl (λhf=>?_) (λhf=>?_)
 ·rw[if_neg hf] at hk1;refine Qg<|QU (Step [] { E with drawn:=E.drawn+1 }) [(0,true),(1,true),(2,true),(3,true),(4,true),(5,true),(6,true),(7,true),(8,true),(9,true)] mixed (by rfl) (by kernel_rfl) (Step.drew _ _) ?_
  refine p (λ_=>Qm)<|p (λ_=>Qm)<|pii (i:=k) Z (I.ext ha) Z Z J λhz hl=>?_;rw[hh] at hl;refine pq (λ_ hc=>Qv (hl.st hc) Z) <|
   p (λ_=>Qm)<|p (λ_=>Qm)<|pii (i:=k) Z (U.ext ha) Z Z Y λh0 hm=>?_
  rw[hj] at hm;refine pq (λ_ hc=>Qv (hm.st hc) Z)<|p (λ_=>QA Z Z) <|
   p (λ_=>Qe)<|pe ?_
  exact Ql ⟨[.bool (decide (x1<x2))],Lb,by rw[←hk1];rfl,ha.trans (Step.drew _ _)⟩
 rw[if_pos (Lo.1 hf)] at hk1;refine Qi<|Qx<|QQ Z Z<|Qb<|xe ?_;exact ⟨k+1,by omega,Lb,J,ha,hk1⟩
end Go.Proofs.YtjcgijbhaemldaaGreatDoor
namespace Go.Lg
section
variable {P:Program} {n:Nat} {f:Fr} {w:World} {all:List Oper} {K:Fr→World→Prop}
def Qpi (all:List Oper) (pre:List (Nat×Bool)) (k:Nat) (t:Pt):Bool :=
 Region.noSelect all.toArray && (pre.length+(t.len+1) == all.length) && XI all.toArray pre (Array.replicate all.length false) && (Region.ready .any all.toArray (Zu pre (Array.replicate all.length false)) == [k]) && Qik all.toArray t ((Zu pre (Array.replicate all.length false)).setIfInBounds k true)
theorem QmL {Q:Exit→Fr→World→Prop}{id:Nat}(C:World→Prop) (pre:List (Nat×Bool)) (k:Nat) (t:Pt) (hm:P.follows .mixedOrders=true) (U:Xs n all=true) (hp:Qpi all pre k t=true)
  (hC:C { w with drawn:=w.drawn+1 }) (h:XP P all C (λf1 E=>Yi all f1 (QK all k)=true∧XO P (QK all k) f1 E λH w'=>C w'∧XT P all C (λf w=>Q .normal f w) t H w') pre f { w with drawn:=w.drawn+1 }):W P n (.region id all.toArray true) Q f w:=by
 simp only[Qpi,Bool.and_eq_true,beq_iff_eq] at hp;obtain ⟨⟨⟨⟨hs,hl⟩,hq⟩,I⟩,ht⟩:=hp;refine Xe C hm U ?_;have h1:=ZR (K:=λf w=>Q .normal f w) (m:=t.len+1) hs pre (Array.replicate all.length false) f _ hC hq
  (B:=λf1 E=>Yi all f1 (QK all k)=true∧XO P (QK all k) f1 E λH w'=>C w'∧XT P all C (λf w=>Q .normal f w) t H w')
  (λf1 J=>by
   refine Y7 (λV=>(by rw[V] at I;cases I)) ?_;rw[I];intro j hj o Y;have ha:j=k:=by simpa using hj
   subst ha;rw[Zd Y] at J;rw[J.1,cond_true];exact J.2.mono λv w' hx=>⟨.inr (.inr hx.1),V1 hs t _ _ _ (by simp[ZQ]) hx.1 ht hx.2⟩) h
 rw[hl] at h1;exact h1
end
end Go.Lg
namespace Go.Proofs.YtjcgijbhaemldaaGreatDoor
open Go.Lg
theorem At.sub {L:LN}{H:Array Obj}{a:Addr}{us:LV}(h:At L H a us) (n:Nat):At L H a (us.take n) :=
 ⟨λu hu=>h.out u (L2 hu),λu hu=>h.lt u (L2 hu),λj u hu=>by
  rw[Mo] at hu;split at hu
  ·exact h.cell j u hu
  cases hu⟩
abbrev Ys (p:Vs):LV:=[.int .i64 p.x,.int .i64 p.y,.int .i64 p.b,.int .i64 p.v]
theorem zg (p:Vs):(Ys p).length=4:=rfl
theorem Qiv:∀(es:List Ed) (s v:Int),(∀e∈es,0≤e.2.2)→-1≤nxt es s v
 | [],_,_,_=>MQ _
 | e::es,s,v,h=>by
  rw[nxt];split
  ·have:=h e Lm;omega
  exact Qiv es s v (λx hx=>h x (Lk _ hx))
theorem Qir {a:QD}(E:QM a) (s v:Int):-1≤nxt a.ed s v∧(nxt a.ed s v<a.st∨nxt a.ed s v=-1):=by
 have h1:=Qiv a.ed s v (λe he=>(E.ed e he).2.2.2.1);refine ⟨h1,?_⟩;by_cases h:nxt a.ed s v<0
 ·right;omega
 left;exact Qit E h
structure VsI (a b:QD) (V:List Vs):Prop where
 nd:(V.map Vs.ky).Nodup
 rg:∀p∈V,-1≤p.x∧(p.x<a.st∨p.x=-1)∧-1≤p.y∧(p.y<b.st∨p.y=-1)
 bk:∀(k:Nat) (h:k<V.length),V[k].b<(k:Int)
def cdV (m:Nat) (p:Int×Int):Int:=(p.1+1)*(m+1)+(p.2+1)
theorem QoA {n m:Nat}{x y:Int}(hx:-1≤x∧(x<n∨x=-1)) (hy:-1≤y∧(y<m∨y=-1)):0≤cdV m (x,y)∧cdV m (x,y)<(((n+1)*(m+1):Nat):Int):=by
 unfold cdV;obtain ⟨u,hu⟩:∃u:Nat,x+1=u:=⟨(x+1).toNat,by omega⟩;obtain ⟨v,E⟩:∃v:Nat,y+1=v:=⟨(y+1).toNat,by omega⟩;have H:u≤n:=by omega
 have I:v≤m:=by omega
 show 0≤(x+1)*((m:Int)+1)+(y+1)∧(x+1)*((m:Int)+1)+(y+1)<_;rw[hu,E];have h1:u*(m+1)+v<(n+1)*(m+1):=by
  have h2:u*(m+1)≤n*(m+1):=MW _ H;have h3:(n+1)*(m+1)=n*(m+1)+(m+1):=by rw[MB,M6]
  omega
 have e:((u:Int)*((m:Int)+1)+(v:Int))=((u*(m+1)+v:Nat):Int):=by push_cast;rfl
 rw[e];constructor <;> omega
theorem Qmx {m:Nat}{x y H E:Int}(hx:-1≤x) (ha:-1≤H) (hy:-1≤y∧(y<m∨y=-1)) (hb:-1≤E∧(E<m∨E=-1)) (h:cdV m (x,y)=cdV m (H,E)):(x,y)=(H,E):=by
 unfold cdV at h;have h':(x+1)*((m:Int)+1)+(y+1)=(H+1)*((m:Int)+1)+(E+1):=h;obtain ⟨u,hu⟩:∃u:Nat,x+1=u:=⟨(x+1).toNat,by omega⟩;obtain ⟨I,J⟩:∃I:Nat,H+1=I:=⟨(H+1).toNat,by omega⟩;obtain ⟨v,U⟩:∃v:Nat,y+1=v:=⟨(y+1).toNat,by omega⟩;obtain ⟨v',hv'⟩:∃v':Nat,E+1=v':=⟨(E+1).toNat,by omega⟩;rw[hu,J,U,hv'] at h';have h1:u*(m+1)+v=I*(m+1)+v':=by exact_mod_cast h'
 have V:v<m+1:=by omega
 have Y:v'<m+1:=by omega
 have e1:u=I:=by
  have a1:(u*(m+1)+v) / (m+1)=u:=by rw[Nat.mul_comm,Nat.mul_add_div (by omega),Nat.div_eq_of_lt V,M5]
  have a2:(I*(m+1)+v') / (m+1)=I:=by rw[Nat.mul_comm,Nat.mul_add_div (by omega),Nat.div_eq_of_lt Y,M5]
  rw[←a1,←a2,h1]
 subst e1;have e2:v=v':=by omega
 have:x=H∧y=E:=⟨by omega,by omega⟩;rw[this.1,this.2]
theorem VsI.len {a b:QD}(ha:QM a) (hb:QM b) {V:List Vs}(h:VsI a b V):V.length≤(a.st.toNat+1)*(b.st.toNat+1):=by
 have hc:=ha.st0;have he:=hb.st0;have h1:=pig ((a.st.toNat+1)*(b.st.toNat+1)) ((V.map Vs.ky).map (cdV b.st.toNat)) (by
  unfold List.Nodup;rw[ME];refine (List.Pairwise.imp_of_mem ?_ h.nd);intro p q hp hq H e;obtain ⟨I,J,rfl⟩:=Lq.1 hp;obtain ⟨U,Y,rfl⟩:=Lq.1 hq;have E:=h.rg I J;have r2:=h.rg U Y;exact H (Qmx E.1 r2.1 ⟨E.2.2.1,by omega⟩ ⟨r2.2.2.1,by omega⟩ e)) (λx hx=>by
  obtain ⟨k,hk,rfl⟩:=Lq.1 hx;obtain ⟨p,hp,rfl⟩:=Lq.1 hk;have E:=h.rg p hp;exact QoA ⟨E.1,by omega⟩ ⟨E.2.2.1,by omega⟩)
 simpa using h1
theorem Qod {V W:List Vs}{i:Nat}(h:i<V.length):gV (V++W) i=gV V i:=by unfold gV;simp[List.getD,List.getElem?_append_left h]
theorem Qee {V:List Vs}{i:Nat}(h:i<V.length):gV V i=V[i]'h:=by unfold gV;simp[List.getD,h]
theorem Qjg {a:QD}(E:QM a):-1≤fst a∧(fst a<a.st∨fst a=-1):=by
 have:=E.st0;unfold fst;split
 ·exact ⟨by omega,.inr Z⟩
 exact ⟨by omega,.inl (by omega)⟩
theorem VsI.one {a b:QD}(ha:QM a) (hb:QM b):VsI a b [⟨fst a,fst b,-1,0⟩]:=by
 have h1:=Qjg ha;have h2:=Qjg hb;refine ⟨by simp,λp hp=>?_,λk h=>?_⟩
 ·simp only[List.mem_singleton] at hp;subst hp;exact ⟨h1.1,h1.2,h2.1,h2.2⟩
 have hk:k=0:=by simpa using h
 subst hk;exact (by decide:(-1:Int)<0)
theorem VsI.add {a b:QD}(ha:QM a) (hb:QM b) {V:List Vs}(h:VsI a b V) {i:Nat}(hi:i<V.length) {p:Vs}{v:Int}(hk:(yY a b i p v).ky∉V.map Vs.ky):VsI a b (V++[yY a b i p v]):=by
 refine ⟨?_,λq hq=>?_,λk H=>?_⟩
 ·rw[Ly,Mu];refine ⟨h.nd,by simp,λx hx y hy e=>?_⟩;simp only[List.map_cons,List.map_nil,List.mem_singleton] at hy;subst hy;subst e;exact hk hx
 ·rcases Lp.1 hq with hq | hq
  ·exact h.rg q hq
  simp only[List.mem_singleton] at hq;subst hq;have E:=Qir ha p.x v;have r2:=Qir hb p.y v;exact ⟨E.1,E.2,r2.1,r2.2⟩
 rw[List.getElem_append];split
 ·rename_i h1;exact h.bk k h1
 have:V.length≤k:=by omega
 simp only[List.getElem_singleton,yY];omega
theorem Qcv (V:List Vs) (f k:Nat):lgW V (f+1) k=if 0≤(gV V k).b then (gV V k).v::lgW V f (gV V k).b.toNat else []:=rfl
open Go.Proofs.Tryz
instance:Bw prog 252 [.int .i64 0,.int .i64 0,.int .i64 0,.int .i64 0] [(0,2),(2,1),(3,1)]:=⟨by kernel_rfl,by decide⟩
abbrev stP (l:List (Int×Int)):List ((Int×Int)×Value):=l.map λs=>(s,Value.bool true)
abbrev VsO (base:Nat) (w:World) (v:Value) (l:List Vs):Prop:=w.ownsRow base 252 4 v l.length (l.flatMap Ys)
theorem VsO.snoc {base:Nat}{w:World}{v:Value}{l:List Vs}{p:Vs}(h:w.ownsRow base 252 4 v (l.length+1) (l.flatMap Ys++Ys p)):VsO base w v (l++[p]):=by
 unfold VsO;rw[Ll,LH];simpa using h
theorem Qls {p:Prop}{i:Decidable p}(h:(!@decide p i)=true):¬p:=by
 cases i with
 | isTrue hp=>cases h
 | isFalse hp=>exact hp
theorem QiC {p:Prop}{i:Decidable p}(h:(!@decide p i)=false):p:=by
 cases i with
 | isTrue hp=>exact hp
 | isFalse hp=>cases h
structure Qak (H:Array Obj) (m:Nat) (V:List Vs):Prop where
 h:∃K:List (Int×Int),ZN Z4 H m (stP K)∧∀k,k∈K↔k=(-1,-1)∨k∈V.map Vs.ky
theorem KS {H:Array Obj}{m:Nat}{K:List (Int×Int)}{k:Int×Int}(h:ZN Z4 H m (mput (stP K) k (.bool true))):∃K',ZN Z4 H m (stP K')∧∀x,x∈K'↔x=k∨x∈K:=by
 by_cases hk:k∈K
 ·refine ⟨K,?_,λx=>⟨.inr,λhx=>hx.elim (λe=>e ▸ hk) id⟩⟩;have key:∀K:List (Int×Int),k∈K→mput (stP K) k (.bool true)=stP K:=by
   intro K;induction K with
   | nil=>intro h;cases h
   | cons a K ih =>
    intro hm;show (if a=k then (a,Value.bool true)::stP K else (a,Value.bool true)::mput (stP K) k (.bool true))=_
    by_cases e:a=k
    ·rw[if_pos e];rfl
    rw[if_neg e,ih ((Lh.1 hm).resolve_left (λh=>e h.symm))];rfl
  rw[key K hk] at h;exact h
 refine ⟨K++[k],?_,λx=>by rw[Lp,Lc];exact Or.comm⟩;have:=Qb3 hk;rw[show mput (stP K) k (.bool true)=stP (K++[k]) from this] at h;exact h
theorem Qak.ext {w w':World}{m:Nat}{V:List Vs}(h:Qak w.heap m V) (hs:Step [] w w'):Qak w'.heap m V:=let ⟨K,h1,h2⟩:=h.h;⟨K,h1.step hs (by simp),h2⟩
theorem jQ (a b:QD) (i:Nat) (p:Vs) (V:List Vs) (v:Int):((yY a b i p v).ky≠(-1,-1)∧(yY a b i p v).ky∉V.map Vs.ky∧lgA a b i p V v=V++[yY a b i p v])∨(((yY a b i p v).ky=(-1,-1)∨(yY a b i p v).ky∈V.map Vs.ky)∧lgA a b i p V v=V):=by
 unfold lgA;by_cases h:(yY a b i p v).ky≠(-1,-1)∧(yY a b i p v).ky∉V.map Vs.ky
 ·exact .inl ⟨h.1,h.2,if_pos h⟩
 refine .inr ⟨?_,if_neg h⟩;by_cases h1:(yY a b i p v).ky=(-1,-1)
 ·exact .inl h1
 exact .inr (Lo.1 λh2=>h ⟨h1,h2⟩)
set_option maxRecDepth 4096 in
set_option maxHeartbeats 16000000 in
theorem Qgy {w:World}{vl:Value}{al:LI}{kf mv mw kg mx my:Nat}{a b:QD}{kd:Int}{g:Nat}{fn:Func}[Fu prog g fn] {cap:LV}(hV:QL [] w.heap vl al) (kh:Mch w.heap kf mv mw a) (ki:Mch w.heap kg mx my b) (ht:QM a) (hw:QM b)
  (hk:∀(s t:Int) (w1:World),Step [] w w1→QG prog g ([.agg #[.int .i64 s,.int .i64 t]]++cap) w1 λr w'=>r=.bool (!(Uq a kd s == Uq b kd t))∧Step [] w1 w') :
  QG prog 86 [vl,.pointer (some ⟨kf,0,none⟩),.pointer (some ⟨kg,0,none⟩),.func (.func g) #[] cap.toArray] w λr w'=>Step [] w w' ∧
   match lgL a b kd al ((a.st.toNat+1)*(b.st.toNat+1)+1) 0 [⟨fst a,fst b,-1,0⟩] with | none=>r=.tuple #[Zg,.bool false] | some u=>∃v,r=.tuple #[v,.bool true]∧Qs 3 w.heap.size w' v u:=by
 have hall:=hV.le;have ha1:=ht.st1;have hb1:=hw.st1;have mz:(a.st.toNat+1)*(b.st.toNat+1)≤4097*4097:=Nat.mul_le_mul (by omega) (by omega);refine Zh ((a.st.toNat+1)*(b.st.toNat+1)) λN hN=>?_;rw[hN] at mz ⊢;refine Zh (lgL a b kd al (N+1) 0 [⟨fst a,fst b,-1,0⟩]) λR hR=>?_;rw[hR];refine QG.of_W func86 Z ntmps86 results86 (by simp) ?_
 refine Qc<|x Qe<|Qf<|Qg<|QU (Step [] w) [(0,true),(1,true),(2,true),(3,true),(4,true),(5,true),(6,true),(7,true),(8,true),(9,false),(10,false)] mixed (by rfl) (by kernel_rfl) (Step.drew _ _) ?_;refine p (λ_=>Qm)<|p (λ_=>QE Z)<|p (λ_=>Qa Z)<|pq (λ_ hc=>Qd (kh.B.ext hc) Z Z)<|p (λ_=>Qm)<|p (λ_=>QE Z) <|
  p (λ_=>Qa Z)<|pq (λ_ hc=>Qd (ki.B.ext hc) Z Z)<|p (λ_=>QN ⟨Z,Z,La⟩)<|pk<|Qu (us:=[.int .i64 0,.int .i64 0]) Z λb10 w1 kj m0 m1=>⟨(Step.drew [] w).trans kj,?_⟩
 refine pkl (hl:=by kernel_rfl)<|Qn (us:=[.int .i64 (fst a),.int .i64 (fst b)]) m1 Z Z Z Z ⟨Z,Z,La⟩ λw2 m2 hW=>pe ?_;have m3:w.heap.size≤b10:=m0;have kk:Step [] w w2:=((Step.drew [] w).trans kj).then1 m2 m3;have hz02:=kk.size;have hl10:=hW.lt
 refine Qc<|x (Qp hW Z Z)<|x (ZF [(0,[.int .i64 (fst a),.int .i64 (fst b)]),(1,[.int .i64 (-1)]),(2,[.int .i64 0])] ⟨Z,Z,Z,Z,Z,Z,La⟩)<|xl Z<|QH (us:=[Ys ⟨fst a,fst b,-1,0⟩]) Z Z (by decide) (by simp) ⟨rfl,rfl,La⟩ λhE J hX hb29 kn =>
  Qf ?_
 have m4:=kk.trans hX;have hz3:=hX.size;have hl29:=kn.lt;have m5:=hW.ext hX;have m6:VsO w.heap.size J (.slice (some ⟨hE,0,none⟩) 1 1) [⟨fst a,fst b,-1,0⟩]:=kn.own (n:=1) (sz:=4) Z (by omega) (by omega);refine QZ (α:=Nat) [(30,33),(12,12)] (λz=>[(12,.map (some z))]) (λz w'=>Step [] J w'∧J.heap.size≤z∧Qak w'.heap z [⟨fst a,fst b,-1,0⟩]) (by rfl) ?_ ?_
 ·have hY:Step [] J { J with drawn:=J.drawn+1 }:=Step.drew _ _
  have ko:∀(k:Int×Int),k∈[⟨fst a,fst b,-1,0⟩].map Vs.ky↔k=(fst a,fst b):=λk=>by simp[Vs.ky]
  refine QmL (Step [] J) [(1,true),(3,true)] 0 (.fk [] 2 4 (.pl [(4,false),(5,true),(6,true)]) (.pl [(2,false),(5,true),(6,true)])) mixed (by rfl) (by kernel_rfl) (Step.drew _ _) ?_;refine pq (λ_ hc=>Qp (m5.ext hc) Z Z)<|p (λ_=>QN ⟨Z,Z,La⟩)<|pe ⟨Z,Ya Z4 λm w4 hh hm hM=>⟨hY.trans hh,tf<|pe ⟨⟨Z,?_⟩,Z,?_⟩⟩⟩
  ·have Y:J.heap.size≤m:=hm;refine Yz (k:=(fst a,fst b)) hM Z Z λw5 ha hZ=>?_;have ho:=(hY.trans hh).then1 ha Y;obtain ⟨K1,ga,gb⟩:=KS (K:=[]) hZ;refine ⟨ho,?_⟩;refine tp<|pk<|Yz (k:=(-1,-1)) ga Z Z λw6 E gc=>⟨ho.then1 E Y,?_⟩;refine p (λ_=>Qm)<|p (λ_=>Qe)<|pe ?_;obtain ⟨K2,ge,gg⟩:=KS gc;exact ⟨m,Lb,ho.then1 E Y,Y,⟨K2,ge,λk=>by rw[gg,gb,ko];simp⟩⟩
  have Y:J.heap.size≤m:=hm;refine Yz (k:=(-1,-1)) hM Z Z λw5 ha hZ=>?_;have ho:=(hY.trans hh).then1 ha Y;obtain ⟨K1,ga,gb⟩:=KS (K:=[]) hZ;refine ⟨ho,?_⟩;refine tp<|pk<|Yz (k:=(fst a,fst b)) ga Z Z λw6 E gc=>⟨ho.then1 E Y,?_⟩;refine p (λ_=>Qm)<|p (λ_=>Qe)<|pe ?_;obtain ⟨K2,ge,gg⟩:=KS gc
  exact ⟨m,Lb,ho.then1 E Y,Y,⟨K2,ge,λk=>by rw[gg,gb,ko];simp[or_comm]⟩⟩
 rintro m g0 w4 ⟨hh,hm4,m7⟩;have m8:=m4.trans hh;have hz4:=hh.size;have m9:w.heap.size≤m:=by omega
 have pa:m∉ob (.slice (some ⟨hE,0,none⟩) 1 1):=by
  intro h;have h':m∈[hE]:=h;simp only[List.mem_singleton] at h';omega
 refine Qg<|Qc<|Qf<|Qh<|Qz (α:=Nat×Value×List Vs×Nat) [(8,9),(11,11),(13,14),(16,17),(34,108)] (λz=>[(8,Zg),(11,z.2.1),(13,.int .i64 z.1)]) (λz w'=>z.1≤z.2.2.1.length∧Step [] w w'∧VsO w.heap.size w' z.2.1 z.2.2.1∧Qak w'.heap m z.2.2.1∧m∉ob z.2.1∧VsI a b z.2.2.1∧z.2.2.2+z.1=N+1∧lgL a b kd al z.2.2.2 z.1 z.2.2.1=R) (λz=>z.2.2.2) (by rfl) (0,.slice (some ⟨hE,0,none⟩) 1 1,[⟨fst a,fst b,-1,0⟩],N+1) ⟨Z,Z,Z,La⟩
  ⟨Ln _,m8,Qt m6 hh,m7,pa,VsI.one ht hw,Z,hR⟩ ?_
 rintro ⟨i,vV,V,f⟩ g1 w5 ⟨hi,ha,hF,kp,kq,hG,hf,I⟩;simp only[] at hi hF kp kq hG hf I;have hVlen:V.length≤N:=by rw[←hN];exact VsI.len ht hw hG
 have hge5:=Qq hF;have hz5:=ha.size;have gh:ZA [] w5.heap vV V.length 4 (V.flatMap Ys):=QX hF (by omega) (by simp);refine Qg<|Qc<|Qb<|Qb<|x (Qr gh Z)<|x (QA Z Z)<|xe<|QC rfl (λgi=>?_) (λgi=>?_)
 ·refine Qy ?_;have pc:¬i<V.length:=by have gj:¬(i:Int)<(V.length:Int):=gi;omega
  have pd:R=none:=by
   rw[←I];cases f with
   | zero=>rfl
   | succ f=>rw[lgL,if_neg pc]
  rw[pd];refine Qc<|x Qe<|Qf ?_;exact Ql ⟨[Zg,.bool false],⟨Z,Z,La⟩,ha,Z⟩
 have h7:i<V.length:=by have gj:(i:Int)<(V.length:Int):=gi;omega
 refine Exists.elim (show ∃f',f=f'+1 from ⟨f - 1,by omega⟩) λf' pf=>?_;rw[pf] at I;rw[lgL,if_pos h7] at I;have pg:=Qee h7;refine Qi<|Qg<|Qh<|Qg<|Qc<|Qb<|Qb<|Qb<|xig (g:=Ys) (i:=i) zg gh Z Z h7 λa43 gk=>?_;rw[←pg] at gk;refine Zh (gV V i) λpi kr=>?_;rw[kr] at gk I;refine x (Zj Z)<|x (QJ (us:=[.int .i64 pi.x,.int .i64 pi.y]) (At.sub (gk.from 0) 2) Z Z) <|
  xl rfl<|xc (first:=[]) (capt:=cap) Z<|(hk pi.x pi.y w5 ha).mono ?_
 rintro r6 w6 ⟨rfl,E⟩;refine xe ?_;have hH:=ha.trans E;have hz6:=E.size;have ph:=Qt hF E;have kt:=gh.ext E;refine QW rfl (λgl=>?_) (λgl=>?_)
 ·have hc:lgC a b kd pi=true:=gl;rw[if_pos hc] at I;rw[←I];refine Qg<|Qc<|Qb<|Qf<|Qh<|Qz (α:=Nat×Nat×Value×LI) [(8,8),(14,14),(48,66)] (λz=>[(8,z.2.2.1),(14,.int .i64 z.2.1)]) (λz w'=>z.2.1<V.length∧Step [] w6 w'∧Qs 3 w6.heap.size w' z.2.2.1 z.2.2.2∧z.2.2.2++lgW V z.1 z.2.1=lgW V (i+1) i∧z.2.1+1≤z.1∧z.2.2.2.length+z.1=i+1) (λz=>z.1) (by rfl) (i+1,i,Zg,[]) ⟨Z,Z,La⟩
   ⟨h7,Step.refl _ _,QP _ _ _ _,Z,Lv _,by simp⟩ ?_
  rintro ⟨fu,k,vo,wd⟩ g2 w7 ⟨hy,hI,hJ,he,pj,pn⟩;simp only[] at hy hJ he pj pn;have ku:=kt.ext hI;have gm:=Qee hy;have kv:=hG.bk k hy;have kw:=Qq hJ;have hz7:=hI.size;refine Exists.elim (show ∃gn,fu=gn+1 from ⟨fu - 1,by omega⟩) λgn po=>?_;rw[po] at he;rw[Qcv] at he;refine Qg<|Qc<|Qb<|Qb<|xig (g:=Ys) (i:=k) zg ku Z Z hy λa50 gq=>?_;rw[←gm] at gq kv
  refine Zh (gV V k) λH gr=>?_;rw[gr] at gq kv he;refine x (Zj Z)<|x (Qv (gq.fld 2 (.int .i64 H.b) Z) Z)<|x (ZZ Z Z)<|xe<|QC Z (λgs=>?_) (λgs=>?_)
  ·refine Qy ?_;have gt:¬0≤H.b:=gs;rw[if_neg gt,LS] at he;refine Qc<|Qb<|xl Z<|xf<|(yP hJ (by omega)).mono ?_;rintro r8 w8 ⟨kx,gu⟩;refine xe<|Qc<|Qb<|x Qe<|Qf ?_;rw[he] at kx;have pp:=hH.size;exact Ql ⟨[vo,.bool true],⟨Z,Z,La⟩,(hH.trans hI).then gu (λb hb=>.inr (by have:=(kw b hb).1;omega)),vo,Z,Zi kx pp⟩
  have gt:0≤H.b:=gs;rw[if_pos gt] at he;have pt:H.b=(H.b.toNat:Int):=by omega
  refine Qi<|Qg<|Qh<|Qx<|Qb<|Qb<|Qb<|xig (g:=Ys) (i:=k) zg ku Z Z hy λa62 kz=>?_;rw[←gm,gr] at kz;refine x (Zj Z)<|x (Qv (kz.fld 3 (.int .i64 H.v) Z) Z) <|
   xl rfl<|QH (us:=[[.int .i64 H.v]]) Z Z (by decide) (by simp) ⟨rfl,rfl,La⟩ λb65 w9 gv hb65 pu=>?_
  have hz9:=gv.size;refine xl Z<|Q6 (news:=[.int .i64 H.v]) (L:=[]) (Qt hJ gv) Z Z Z (pu.at (by simp)) (by simp[Value.oneCell']) (by omega) (by omega) λpw pz p0 p4 hn10 =>
   Qf ?_
  have k0:Step [] w6 pz:=(hI.trans gv).then p4 (λb hb=>.inr (kw b hb).1);have p5:=kt.ext k0;refine Qx<|Qb<|Qb<|xig (g:=Ys) (i:=k) zg p5 Z Z hy λa56 k4=>?_;rw[←gm,gr] at k4;refine x (Zj Z)<|x (Qv (k4.fld 2 (.int .i64 H.b) Z) Z)<|x Qe <|
   xe ?_
  refine ⟨(gn,H.b.toNat,pw,wd++[H.v]),by simp only[];omega,⟨Z,congrArg (Value.int .i64) pt,La⟩,by simp only[];omega,k0,Qs.snoc p0,?_,by simp only[];omega,by simp only[List.length_append,List.length_singleton];omega⟩;simp only[];rw[LC];exact he
 have hc:¬lgC a b kd pi=true:=by
  intro h;have p6:lgC a b kd pi=false:=gl;rw[p6] at h;cases h
 rw[if_neg hc] at I;refine Qi<|Qc<|Qb<|x (Qr (hV.ext hH) Z)<|Qb<|xe<|Qh<|Qz (α:=Nat×Value×List Vs) [(11,11),(16,17),(72,108)] (λz=>[(11,z.2.1),(72,.int .i64 z.1)]) (λz w'=>z.1≤al.length∧Step [] w w'∧VsO w.heap.size w' z.2.1 z.2.2∧Qak w'.heap m z.2.2∧m∉ob z.2.1∧VsI a b z.2.2∧z.2.2=(al.take z.1).foldl (lgA a b i pi) V∧∃W,z.2.2=V++W) (λz=>al.length - z.1) (by rfl) (0,vV,V) ⟨Z,Z,La⟩
  ⟨Ln _,hH,ph,kp.ext E,kq,hG,Z,[],by simp⟩ ?_
 rintro ⟨j,vU,U⟩ g3 hg ⟨hj,hp,hq,h8,hO,hA,hP,⟨W,hC⟩⟩;simp only[] at hj hq h8 hO hA hP hC;have hUlen:U.length≤N:=by rw[←hN];exact VsI.len ht hw hA
 have hUl:V.length≤U.length:=by rw[hC,Ll];omega
 have hr:i<U.length:=by omega
 have k5:=Qq hq;have hz11:=hp.size;refine Qc<|x (QA Z Z)<|xe<|Qg<|QC Z (λgx=>?_) (λgx=>?_)
 ·refine Qy ?_;have p7:al.length≤j:=by have gj:¬(j:Int)<(al.length:Int):=gx;omega
  rw[Ls p7] at hP;rw[←hP] at I;refine Qx<|Qb<|QQ Z Z<|Qf ?_;exact ⟨(i+1,vU,U,f'),by simp only[];omega,⟨Z,Z,Z,La⟩,hr,hp,hq,h8,hO,hA,by simp only[];omega,I⟩
 have hz:j<al.length:=by have gj:(j:Int)<(al.length:Int):=gx;omega
 have k6:al.take (j+1)=al.take j++[al[j]'hz]:=Lj hz;have p8:gV U i=pi:=by rw[hC,Qod h7];exact kr
 refine Qi<|Qg<|Qh<|Qc<|xii (i:=j) (hV.ext hp) Z Z hz λa74 k7=>?_;refine Zh (al[j]'hz) λv hv=>?_;rw[hv] at k7 k6;have hQ:(al.take (j+1)).foldl (lgA a b i pi) V=lgA a b i pi U v:=by rw[k6,Mv,←hP];rfl
 refine x (Qv k7 Z)<|Qf<|Exists.elim (U5 hq (by omega)) λg9 p9=>Exists.elim p9 λcap9 gy=>?_;have qc:ZA [] hg.heap vU U.length 4 (U.flatMap Ys):=QX hq (by omega) (by simp);have k8:At [] hg.heap ⟨g9,0+i*4,none⟩ (Ys pi):=by
  obtain ⟨a9,c9,e1,e2⟩:=ZA.at qc hr;rw[Ko Ys 4 zg U i hr,←Qee hr,p8] at e2;rw[gy] at e1;have e3:(⟨g9,0,none⟩:Addr)=a9:=by
   have:=Value.slice.inj e1;exact Option.some.inj this.1
  rw[←e3,YM] at e2;exact e2
 have qo:At [] hg.heap ⟨g9,0+i*4+0+0*1,none⟩ [.int .i64 pi.x]:=by
  have:=k8.fld 0 (.int .i64 pi.x) Z;rw[YM] at this;exact this
 have qr:At [] hg.heap ⟨g9,0+i*4+0+1*1,none⟩ [.int .i64 pi.y]:=by
  have:=k8.fld 1 (.int .i64 pi.y) Z;rw[YM] at this;exact this
 have q0:=kh.ext hp;have q4:=ki.ext hp;refine QZ (α:=Nat) [(76,94),(17,17)] (λz=>[(17,.pointer (some ⟨z,0,none⟩))]) (λz w'=>Step [] hg w'∧hg.heap.size≤z∧QT w'.heap z 184 [.int .i64 (nxt a.ed pi.x v),.int .i64 (nxt b.ed pi.y v)]) (by rfl) ?_ ?_
 ·refine Qah (α:=Unit) (Step [] hg) [(0,true),(1,true),(2,true),(3,true),(4,true),(5,true),(6,true),(7,true),(9,true),(10,true),(11,true),(12,true),(13,true),(14,true),(15,true),(16,true)] [(8,false),(17,false),(18,true)] 19 17 [(20,false)] []
   [(76,94)] [(84,84),(93,94)] (λ_=>[(94,.agg [.int .i64 (nxt a.ed pi.x v),.int .i64 (nxt b.ed pi.y v)].toArray)]) (λ_ _ _=>True)
   (λv w'=>∃b,v=.pointer (some ⟨b,0,none⟩)∧hg.heap.size≤b∧QT w'.heap b 184 [.int .i64 0,.int .i64 0]) mixed (by rfl) (by kernel_rfl) (by rfl) Z (Step.drew _ _) (by simp) ?_ ?_ ?_ ?_
  ·rintro v own wa wb ⟨b,rfl,hb,hB⟩ hs hn;exact ⟨b,Z,hb,hB.step hs (hn b (by simp[ow]))⟩
  ·intro z own wa wb h hs;trivial
  ·rintro z g5 own wz v5 _ q9 ⟨hS,rfl,gz,h0⟩ _;refine pkl (hl:=by kernel_rfl)<|Qn (us:=[.int .i64 (nxt a.ed pi.x v),.int .i64 (nxt b.ed pi.y v)]) h0 Z Z Z Z ⟨Z,Z,La⟩ λw8 gu j1=>pe ?_;exact ⟨hS,Lb,q9.then1 gu gz,gz,j1⟩
  refine p (λ_=>Qm)<|p (λ_=>Qm)<|p (λ_=>Qm)<|p (λ_=>QS (show ev _ _=_ from gy) Z hr)<|p (λ_=>Qa Z) <|
   p (λ_=>Xi (i:=0) Z Z (by decide))<|pq (λ_ hc=>Qv (qo.st hc) Z)<|p (λ_=>Qm)<|p (λ_=>Qm)<|p (λ_=>Qm)<|p (λ_=>Qm) <|
   p (λ_=>QS (show ev _ _=_ from gy) Z hr)<|p (λ_=>Qa Z)<|p (λ_=>Xi (i:=1) Z Z (by decide))<|pq (λ_ hc=>Qv (qr.st hc) Z) <|
   p (λ_=>Qm)<|pe ⟨λg6 wf k9=>Qu (us:=[.int .i64 0,.int .i64 0]) Z λb wf' ma mc mf=>⟨ma,k9.trans ma,⟨b,Z,LT k9.size mc,mf⟩,λx hx=>?_⟩,?_⟩
  ·have j2:x=b:=by
    have j3:x∈[b]:=hx;simpa using j3
   subst j2;exact ⟨mc,mf.lt⟩
  refine f2k λx1 p1 c1=>xf<|(jO (q0.ext c1) ht pi.x v).mono ?_;rintro r84 y1 ⟨rfl,mg⟩;refine ⟨c1.trans mg,[],mg,(λb hb=>by cases hb),?_⟩;refine f2k λx2 p2 c2=>xf<|(jO (q4.ext c2) hw pi.y v).mono ?_;rintro r93 y2 ⟨rfl,mh⟩;refine ⟨c2.trans mh,[],mh,(λb hb=>by cases hb),?_⟩;refine f2p (λ_=>QN ⟨Z,Z,La⟩)<|f2e ?_;exact ⟨(),Lb,La⟩
 rintro hS g7 hD ⟨h3,gz,h0⟩;have j4:=hp.trans h3;have hz12:=h3.size;have hl17:=h0.lt;refine Exists.elim (h8.ext h3).h λK za=>And.elim (λg4 g8=>?_) za;have hT:(yY a b i pi v).ky=(nxt a.ed pi.x v,nxt b.ed pi.y v):=rfl;refine Qc<|Qb<|x (Qp h0 Z Z)<|x (jB (s:=(nxt a.ed pi.x v,nxt b.ed pi.y v)) g4 Z Z)<|x (Zs Z)<|xe<|QW rfl (λka=>?_) (λka=>?_)
 ·have zb:(nxt a.ed pi.x v,nxt b.ed pi.y v)∉K:=Qls ka;have h4:=λh=>zb ((g8 _).2 h);rw[←hT] at h4;have kb:lgA a b i pi U v=U++[yY a b i pi v]:=by
   rcases jQ a b i pi U v with ⟨_,_,h⟩ | ⟨h,_⟩
   ·exact h
   exact absurd h h4
  rw[kb] at hQ;have mj:m∉ob vU:=hO;have mo:hS∉m::ob vU:=λhb=>by
   rcases Lh.1 hb with rfl | hb
   ·obtain ⟨K0,zv,_⟩:=h8.h;have:=zv.lt;omega
   have:=(k5 hS hb).2;omega
  have z0:m<hD.heap.size:=g4.lt;have h5:Step [] hD { hD with drawn:=hD.drawn+1 }:=Step.drew _ _
  refine QU (Step (m::ob vU) hD) [(0,true),(1,true),(2,true),(3,true),(4,true),(5,true),(6,true),(7,false),(8,false),(9,false),(10,true)] mixed (by rfl) (by kernel_rfl) (Step.drew _ _) ?_;refine p (λ_=>Qm)<|pq (λ_ hc=>Qp (h0.step hc mo) Z Z)<|p (λ_=>Qm)<|pq (λ_ hc=>Qp (h0.step hc mo) Z Z) <|
   p (λ_=>Qm)<|p (λ_=>Qm)<|p (λ_=>ZF [(0,[.int .i64 (nxt a.ed pi.x v),.int .i64 (nxt b.ed pi.y v)]),(1,[.int .i64 i]),(2,[.int .i64 v])] ⟨Z,Z,Z,Z,Z,Z,La⟩)<|pk<|QH (us:=[Ys (yY a b i pi v)]) Z Z (by decide) (by simp) ⟨rfl,rfl,La⟩ λb106 w13 h6 hb106 z1=>⟨(h5.trans h6).any,?_⟩
  have kc:=h3.trans (h5.trans h6);have hz13:=(h5.trans h6).size;refine pk<|Q6 (news:=Ys (yY a b i pi v)) (L:=[]) (Qt hq kc) Z Z Z (z1.at (by simp)) (λu hu=>by
   simp only[List.mem_cons,List.not_mem_nil,or_false] at hu;rcases hu with rfl | rfl | rfl | rfl <;> rfl) (by omega) (by have:=kc.size;omega) λmq ms z2 hU z3=>⟨(h5.trans h6).any.trans' (hU.mono (λb hb=>Lk _ hb)),?_⟩
  have z4:ZN Z4 ms.heap m (stP K):=(g4.step (h5.trans h6) (by simp)).step hU mj;refine pk<|Y1 (k:=(nxt a.ed pi.x v,nxt b.ed pi.y v)) z4 Z Z λw15 ke z5=>⟨((h5.trans h6).any.trans' (hU.mono (λb hb=>Lk _ hb))).trans' (ke.mono (by simp)),?_⟩;refine p (λ_=>Qe)<|pe ?_;refine Exists.elim (KS z5) λK' z9=>And.elim (λhM15' hKK'=>?_) z9
  have mt:m∉ob mq:=λhb=>by
   rcases z3 m hb with h9 | h9
   ·exact mj h9
   have:=z0;omega
  refine Qx<|QQ Z Z<|Qb<|xe ?_;have hs014:Step [] w ms:=(hp.trans kc).then hU (λb hb=>.inr (k5 b hb).1)
  refine ⟨(j+1,mq,U++[yY a b i pi v]),by simp only[];omega,⟨Z,Z,La⟩,hz,hs014.then1 ke m9,Qk (VsO.snoc z2) ke (λb hb mu=>by simp only[List.mem_singleton] at mu;subst mu;exact mt hb),⟨K',hM15',λk=>?_⟩,mt,VsI.add ht hw hA hr (λh=>h4 (.inr h)),hQ.symm,W++[yY a b i pi v],by rw[hC,LC]⟩;rw[hKK',g8,Ly,Lp];constructor
  ·rintro (h | h | h)
   ·exact .inr (.inr (by rw[h];simp[hT]))
   ·exact .inl h
   exact .inr (.inl h)
  rintro (h | h | h)
  ·exact .inr (.inl h)
  ·exact .inr (.inr h)
  exact .inl (by simpa[hT] using h)
 have hK:(nxt a.ed pi.x v,nxt b.ed pi.y v)∈K:=QiC ka;have h4:=(g8 _).1 hK;rw[←hT] at h4;have kb:lgA a b i pi U v=U:=by
  rcases jQ a b i pi U v with ⟨h1,h2,_⟩ | ⟨_,h⟩
  ·exact absurd h4 (λh=>h.elim h1 h2)
  exact h
 rw[kb] at hQ;refine Qi<|Qx<|QQ Z Z<|Qb<|xe ?_;exact ⟨(j+1,vU,U),by simp only[];omega,⟨Z,Z,La⟩,hz,j4,Qt hq h3,h8.ext h3,hO,hA,hQ.symm,W,hC⟩
def lgP (N:Nat) (a b:QD) (i:Nat) (v:Value) (w:World):Prop :=
 if i=1 then ∃b1 m1 m2,v=.pointer (some ⟨b1,0,none⟩)∧N≤b1∧N≤m1∧N≤m2∧Mch w.heap b1 m1 m2 a
 else if i=3 then ∃b1 m1 m2,v=.pointer (some ⟨b1,0,none⟩)∧N≤b1∧N≤m1∧N≤m2∧Mch w.heap b1 m1 m2 b
 else ∃bb,v=.pointer (some ⟨bb,0,none⟩)∧N≤bb∧QT w.heap bb 180 [.pointer none]
theorem QlH {N:Nat}{a b:QD}:∀i v w w',lgP N a b i v w→Step [] w w'→lgP N a b i v w':=by
 intro i v w w' h hs;unfold lgP at h ⊢;split
 ·rename_i h1;rw[if_pos h1] at h;obtain ⟨E,H,I,e,n1,J,U,V⟩:=h;exact ⟨E,H,I,e,n1,J,U,V.ext hs⟩
 rename_i h1;rw[if_neg h1] at h;split
 ·rename_i h2;rw[if_pos h2] at h;obtain ⟨E,H,I,e,n1,J,U,V⟩:=h;exact ⟨E,H,I,e,n1,J,U,V.ext hs⟩
 rename_i h2;rw[if_neg h2] at h;obtain ⟨bb,e,n1,Y⟩:=h;exact ⟨bb,e,n1,Y.ext hs⟩
theorem YL {κ:Type}{enc:κ→Value}{H:Array Obj}{b b' T:Nat}{m:List (κ×Value)}{cs:LV}(h:ZN enc H b m) (E:QT H b' T cs):b≠b':=by
 intro e;subst e;obtain ⟨es,c,h1,_⟩:=h;unfold QT at E;rw[h1] at E;cases E
structure LgZ where
 p1:Nat
 p2:Nat
 p3:Nat
 q1:Nat
 q2:Nat
 q3:Nat
 b10:Nat
 b11:Nat
set_option maxHeartbeats 8000000 in
theorem Qd8 {w:World}{va vm ve wa wm we:Value}{a b:QD}(hA:Zq [] w.heap va vm ve a) (H:Zq [] w.heap wa wm we b) (kd:Int) :
  QG prog 41 [.agg #[va,.int .i64 a.st,vm,ve],.agg #[wa,.int .i64 b.st,wm,we],.int .i64 kd] w λr w'=>Step [] w w'∧∃v e,r=.tuple #[v,.bool e,.int .i64 (lgE a b kd)] ∧
   (lgE a b kd=0→match lgq a b kd with | none=>v=Zg∧e=true | some u=>e=false∧Qs 3 w.heap.size w' v u):=by
 refine Zh (lgE a b kd) λE hE=>?_;refine Zh (lgq a b kd) λR hR=>?_;rw[hE,hR];have onesA:ZP [va,.int .i64 a.st,vm,ve]:=⟨hA.al.one,Z,hA.mr.one,hA.ed.one,La⟩;have onesB:ZP [wa,.int .i64 b.st,wm,we]:=⟨H.al.one,Z,H.mr.one,H.ed.one,La⟩;refine QG.of_W func41 Z ntmps41 results41 (by simp) ?_
 refine Qc<|xl Z<|QR (us:=[va,.int .i64 a.st,vm,ve]) Z λb3 w1 hJ ge hK=>xl Z<|QR (us:=[wa,.int .i64 b.st,wm,we]) Z λb4 w2 h4 gg hL=>xl Z<|QR (us:=[.int .i64 kd]) Z λb5 w3 ht gh h5=>x Qe <|
  x Qe<|Qf ?_
 have hN:=(hJ.trans h4).trans ht;have h6:=(hK.ext h4).ext ht;have h7:=hL.ext ht;refine Qg<|Qc<|x (Qd h5 Z Z)<|x (Qp h6 Z Z)<|x (Qp h7 Z Z)<|xl Z<|QH (us:=[[va,.int .i64 a.st,vm,ve],[wa,.int .i64 b.st,wm,we]]) Z Z (by decide) (by simp) ⟨rfl,rfl,rfl,rfl,La⟩ λhO w4 h8 gi hP=>?_;have hu:=hN.trans h8
 have hQ:Xf [] w4.heap (.slice (some ⟨hO,0,none⟩) 2 2) [⟨va,vm,ve,a⟩,⟨wa,wm,we,b⟩]:=⟨hP.arr (by simp) (n:=2) (cap:=2) (sz:=4) rfl (by omega) (Lv _),λp hp=>by
  simp only[List.mem_cons,List.not_mem_nil,or_false] at hp;rcases hp with rfl | rfl
  ·exact hA.ext hu
  exact H.ext hu⟩
 have hck:=Qd9 hQ kd;rw[show [(⟨va,vm,ve,a⟩:AV),⟨wa,wm,we,b⟩].map (·.a)=[a,b] from rfl,QpQ,hE] at hck;refine xl rfl<|xf<|hck.mono ?_;rintro r5 w5 ⟨rfl,hj⟩;refine Qf ?_;have hq:=hu.trans hj;have hv:=h8.trans hj;refine Qc<|Qb<|x (Q8 Z Z)<|xe<|Q3 rfl (λhw=>?_) (λhw=>?_)
 ·refine Qc<|Qb<|x Qe<|x Qe<|Qf ?_;exact Ql ⟨[Zg,.bool false,.int .i64 E],⟨Z,Z,Z,La⟩,hq,Zg,false,Z,λh0=>absurd h0 hw⟩
 have h9:E=0:=Lo.1 hw;have hk:QM a∧QM b:=by
  have h1:lgE a b kd=0:=hE.trans h9;unfold lgE at h1;by_cases h2:XM a≠0
  ·rw[if_pos h2] at h1;exact absurd h1 h2
  rw[if_neg h2] at h1;by_cases h3:XM b≠0
  ·rw[if_pos h3] at h1;exact absurd h1 h3
  exact ⟨(Zv a).1 (Lo.1 h2),(Zv b).1 (Lo.1 h3)⟩
 refine Qi ?_;have hC:=h6.ext hv;have hD:=h7.ext hv;have hT:=h5.ext hv;have hU:=hA.ext hq;have hV:=H.ext hq
 refine QZ (α:=LgZ) [(22,25),(10,11)] (λz=>[(10,.pointer (some ⟨z.b10,0,none⟩)),(11,.pointer (some ⟨z.b11,0,none⟩))]) (λz w'=>Step [] w5 w'∧Mch w'.heap z.p1 z.p2 z.p3 a∧Mch w'.heap z.q1 z.q2 z.q3 b∧QT w'.heap z.b10 180 [.pointer (some ⟨z.p1,0,none⟩)]∧QT w'.heap z.b11 180 [.pointer (some ⟨z.q1,0,none⟩)]) (by rfl) ?_ ?_
 ·refine Qgr (α:=LgZ) (Step [] w5) [(0,true),(2,true)] [1,3,4,5] [(6,false),(7,false)] [(23,23),(25,25),(10,11)] (lgP w5.heap.size a b)
   (λz=>[(23,.pointer (some ⟨z.p1,0,none⟩)),(25,.pointer (some ⟨z.q1,0,none⟩)),(10,.pointer (some ⟨z.b10,0,none⟩)),(11,.pointer (some ⟨z.b11,0,none⟩))])
   (λz w'=>Mch w'.heap z.p1 z.p2 z.p3 a∧Mch w'.heap z.q1 z.q2 z.q3 b∧QT w'.heap z.b10 180 [.pointer none]∧QT w'.heap z.b11 180 [.pointer none]∧(z.b10≠z.b11∧z.p1≠z.b10∧z.p1≠z.b11∧z.q1≠z.b10∧z.q1≠z.b11)∧w5.heap.size≤z.b10∧w5.heap.size≤z.b11)
   mixed (by rfl) (by kernel_rfl) (Step.drew _ _) (λ_ _ h1 h2=>h1.trans h2) QlH ?_ ?_
  ·rintro g w' ⟨⟨p1,p2,p3,e1,_,_,_,I⟩,⟨q1,q2,q3,e2,_,_,_,J⟩,⟨b10,e3,hn,U⟩,⟨b11,e4,hr,V⟩,_⟩ ho;refine ⟨⟨p1,p2,p3,q1,q2,q3,b10,b11⟩,⟨e1,e2,e3,e4,La⟩,I,J,U,V,?_,hn,hr⟩;have d1:=ho 4 (by simp) 5 (by simp) (by decide);have d2:=ho 1 (by simp) 4 (by simp) (by decide);have d3:=ho 1 (by simp) 5 (by simp) (by decide);have d4:=ho 3 (by simp) 4 (by simp) (by decide)
   have d5:=ho 3 (by simp) 5 (by simp) (by decide);rw[e3,e4] at d1;rw[e1,e3] at d2;rw[e1,e4] at d3;rw[e2,e3] at d4;rw[e2,e4] at d5;simp only[ow,List.mem_singleton,forall_eq] at d1 d2 d3 d4 d5;exact ⟨d1,d2,d3,d4,d5⟩
  refine pq (λ_ hc=>Qp (hC.ext hc) Z Z)<|pq (λ_ hc=>Qp (hD.ext hc) Z Z)<|pe ⟨⟨?_,?_,?_,?_,La⟩,?_⟩
  ·intro g w' hc;refine xf<|(jP (hU.ext hc) hk.1).mono ?_;rintro r5 w6 ⟨hf,b1,m1,m2,rfl,n1,n2,n3,hM⟩;have hz:=hc.size;exact ⟨hf,⟨b1,m1,m2,Z,LT hz n1,LT hz n2,LT hz n3,hM⟩,λc hg=>by rw[Lc.1 (show c∈[b1] from hg)];exact ⟨n1,hM.B.lt⟩⟩
  ·intro g w' hc;refine xf<|(jP (hV.ext hc) hk.2).mono ?_;rintro r5 w6 ⟨hf,b1,m1,m2,rfl,n1,n2,n3,hM⟩;have hz:=hc.size;exact ⟨hf,⟨b1,m1,m2,Z,LT hz n1,LT hz n2,LT hz n3,hM⟩,λc hg=>by rw[Lc.1 (show c∈[b1] from hg)];exact ⟨n1,hM.B.lt⟩⟩
  ·intro g w' hc;exact Qu (us:=[.pointer none]) Z λb w5 hj hb H=>⟨hj,⟨b,Z,LT hc.size hb,H⟩,λc hg=>by rw[Lc.1 (show c∈[b] from hg)];exact ⟨hb,H.lt⟩⟩
  ·intro g w' hc;exact Qu (us:=[.pointer none]) Z λb w5 hj hb H=>⟨hj,⟨b,Z,LT hc.size hb,H⟩,λc hg=>by rw[Lc.1 (show c∈[b] from hg)];exact ⟨hb,H.lt⟩⟩
  rintro ⟨p1,p2,p3,q1,q2,q3,b10,b11⟩ g w6 hF ⟨I,J,U,V,hh,hn,hr⟩;simp only[] at I J U V hh hn hr;have k1:=YL I.e U;have k2:=YL I.m U;have k3:=YL J.e U;have k4:=YL J.m U;have j1:=YL I.e V;have j2:=YL I.m V;have j3:=YL J.e V;have j4:=YL J.m V
  refine pk<|QF (u:=.pointer (some ⟨p1,0,none⟩)) U Z Z (by simp) rfl λw7 hi hW=>⟨hF.then1 hi hn,?_⟩;refine pkl (hl:=by kernel_rfl)<|QF (u:=.pointer (some ⟨q1,0,none⟩)) (V.step hi (by simp only[List.mem_singleton];exact λe=>hh.1 e.symm)) Z Z (by simp) rfl λw8 Y hX=>pe ?_;have s1:∀{x:Nat},x≠b10→x∉[b10]:=λh hm=>h (Lc.1 hm)
  have s2:∀{x:Nat},x≠b11→x∉[b11]:=λh hm=>h (Lc.1 hm);exact ⟨⟨p1,p2,p3,q1,q2,q3,b10,b11⟩,⟨Z,Z,La⟩,(hF.then1 hi hn).then1 Y hr,(I.step hi (s1 hh.2.1) (s1 k1) (s1 k2)).step Y (s2 hh.2.2.1) (s2 j1) (s2 j2),(J.step hi (s1 hh.2.2.2.1) (s1 k3) (s1 k4)).step Y (s2 hh.2.2.2.2) (s2 j3) (s2 j4),hW.step Y (s2 hh.1),hX⟩
 rintro ⟨p1,p2,p3,q1,q2,q3,b10,b11⟩ g w6 ⟨hf,I,J,U,V⟩;simp only[] at I J U V;have hs:=hq.trans hf;have gj:=hs.size;have hY:=hC.ext hf;have hZ:=hD.ext hf;have ga:=hT.ext hf;have hy:Step [] w6 { w6 with drawn:=w6.drawn+1 }:=Step.drew _ _
 have gk:=hA.al.le;have gl:=H.al.le;have gm:=hk.1.al_le;have gn:=hk.2.al_le;refine Qg<|QU (Step [] w6) [(0,true),(1,true),(2,true),(3,true),(5,true),(6,true),(7,true),(4,false),(8,false),(9,true),(10,true),(11,true),(12,true),(13,true)] mixed (by rfl) (by kernel_rfl) (Step.drew _ _) ?_
 refine p (λ_=>Qa Z)<|pq (λ_ hc=>Qd (hY.ext hc) Z Z)<|p (λ_=>Qa Z)<|pq (λ_ hc=>Qd (hZ.ext hc) Z Z) <|
  pq (λ_ hc=>Qd (U.ext hc) Z Z)<|pq (λ_ hc=>Qd (V.ext hc) Z Z)<|p (λ_=>Zo (l:=[]) (l':=[_,_,_])) <|
  pk<|xf<|(yM ((hA.al.ext hs).ext hy) ((H.al.ext hs).ext hy) (by omega)).mono ?_
 rintro r7 w7 ⟨hi,gb⟩;have ha:=hy.trans hi;have gq:=ha.size;refine ⟨ha,?_⟩;have gr:(mrg (· || ·) a.al b.al).length≤64:=by
  have:=Um (· || ·) a.al b.al;omega
 have hS:=Qgy (kd:=kd) (g:=88) (cap:=[.pointer (some ⟨b10,0,none⟩),.pointer (some ⟨b5,0,none⟩),.pointer (some ⟨b11,0,none⟩)]) (Qs.ints (L:=[]) gb (by omega) (by simp)) (I.ext ha) (J.ext ha) hk.1 hk.2
  (λs t w8 Y=>QiV ((U.ext ha).ext Y) ((V.ext ha).ext Y) ((ga.ext ha).ext Y) ((I.ext ha).ext Y) ((J.ext ha).ext Y) s t)
 have gc:lgL a b kd (mrg (· || ·) a.al b.al) ((a.st.toNat+1)*(b.st.toNat+1)+1) 0 [⟨fst a,fst b,-1,0⟩]=R:=hR;rw[gc] at hS;refine pk<|xf<|hS.mono ?_;rintro r8 w8 ⟨Y,hG⟩;have hH:=ha.trans Y;refine ⟨hH,?_⟩;have he:∃v e,r8=.tuple #[v,.bool e]∧(match R with | none=>v=Zg∧(!e)=true | some u=>(!e)=false∧Qs 3 w7.heap.size w8 v u):=by
  cases R with
  | none=>exact ⟨Zg,false,hG,Z,Z⟩
  | some u=>obtain ⟨v,h1,h2⟩:=hG;exact ⟨v,true,h1,Z,h2⟩
 refine Exists.elim he λv he=>Exists.elim he λe he=>And.elim (λhI he=>?_) he;refine p (λ_=>Qm)<|p (λ_=>Qj (show ev _ _=_ from hI) Z)<|p (λ_=>Qj (show ev _ _=_ from hI) Z)<|p (λ_=>Qe)<|p (λ_=>Qe)<|pe ?_;refine Qc<|Qb<|Qb<|x (Zs Z)<|x Qe<|x Qe<|Qf<|Ql ⟨[v,.bool (!e),.int .i64 0],⟨Z,Z,Z,La⟩,hs.trans hH,v,!e,by rw[h9];rfl,λ_=>?_⟩;cases R with
 | none=>exact he
 | some u=>exact ⟨he.1,Zi he.2 (by omega)⟩
theorem Qfx (V:List Vs):∀(f k:Nat),(lgW V f k).length≤f
 | 0,_=>Lv _
 | f+1,k=>by
  rw[Qcv];split
  ·have:=Qfx V f (gV V k).b.toNat;simp only[List.length_cons];omega
  exact Ln _
theorem Qfy {a b:QD}{kd:Int}{al:LI}:∀(f i:Nat) (V:List Vs) (u:LI),lgL a b kd al f i V=some u→u.length≤f+i
 | 0,_,_,_,h=>by cases h
 | f+1,i,V,u,h=>by
  rw[lgL] at h;split at h
  ·split at h
   ·have e:(lgW V (i+1) i).reverse=u:=Option.some.inj h;rw[←e,List.length_reverse];have:=Qfx V (i+1) i;omega
   have:=Qfy f (i+1) _ u h;omega
  cases h
theorem QlG {a b:QD}(ha:QM a) (hb:QM b) {kd:Int}{u:LI}(h:lgq a b kd=some u):u.length≤17000000:=by
 have h1:=Qfy _ _ _ _ h;have E:=ha.st1;have H:=hb.st1;have I:(a.st.toNat+1)*(b.st.toNat+1)≤4097*4097:=Nat.mul_le_mul (by omega) (by omega);omega
def cmK (a b:QD) (k:Nat):Option (LI):=(([1,2]:LI).take k).foldl (λz kd=>cm1 z (lgq a b kd)) none
theorem k12:∀{k:Nat}(h:k<[(1:Int),2].length),[(1:Int),2][k]'h=1∨[(1:Int),2][k]'h=2
 | 0,_=>.inl Z
 | 1,_=>.inr Z
 | k+2,h=>absurd h (by simp)
theorem QqD (a b:QD):cmK a b 2=cmW a b:=rfl
theorem zR {a b:QD}(ha:QM a) (hb:QM b) {kd:Int}(h:kd=1∨kd=2):lgE a b kd=0:=by
 unfold lgE;rw[if_neg (by simpa using (Zv a).2 ha),if_neg (by simpa using (Zv b).2 hb),if_neg (by omega)]
section
variable {aa:List QD} {P:LI→Prop} {B:Nat}
structure SyB (P:LI→Prop) (s:Sy):Prop where
 nd:s.tup.Nodup
 p:∀t∈s.tup,P t
theorem Qnr (U:B≤4096) (I:∀l:List (LI),l.Nodup→(∀t∈l,P t)→l.length≤B) {i:Nat}{t:LI}{v:Int}{z:Sy}(E:SyB P z) (J:∀u,Q5 v aa t=some u→P u) :
  ∃z',syE aa i t z v=some z'∧SyB P z':=by
 unfold syE;cases hs:Q5 v aa t with
 | none=>exact ⟨z,Z,E⟩
 | some u =>
  simp only[];by_cases hu:u∈z.tup
  ·rw[if_pos hu];exact ⟨_,Z,E.nd,E.p⟩
  have H:(z.tup++[u]).Nodup:=Ki E.nd hu;have hp:∀t∈z.tup++[u],P t:=λt ht=>by
   rcases Lp.1 ht with ht | ht
   ·exact E.p t ht
   rw[Lc.1 ht];exact J u hs
  have hc:=I _ H hp;rw[Ll,LG] at hc;rw[if_neg hu,if_neg (by omega)];exact ⟨_,Z,H,hp⟩
theorem QeX (H:B≤4096) (I:∀l:List (LI),l.Nodup→(∀t∈l,P t)→l.length≤B) {i:Nat}{t:LI}:∀(vs:LI) (z:Sy),SyB P z→(∀v∈vs,∀u,Q5 v aa t=some u→P u)→∃z',KP aa i t vs z=some z'∧SyB P z'
 | [],z,E,_=>⟨z,Z,E⟩
 | v::vs,z,E,J=>by
  obtain ⟨U,h1,h2⟩:=Qnr (i:=i) H I E (J v Lm);obtain ⟨V,h3,h4⟩:=QeX H I vs U h2 (λw Y=>J w (Lk _ Y));exact ⟨V,by rw[KP,h1];exact h3,h4⟩
theorem QhA (H:B≤4096) (I:∀l:List (LI),l.Nodup→(∀t∈l,P t)→l.length≤B) (J:∀t,P t→∀v∈evs aa,∀u,Q5 v aa t=some u→P u):∀(f i:Nat) (z:Sy),SyB P z→∃z',syL aa f i z=some z'
 | 0,_,z,_=>⟨z,Z⟩
 | f+1,i,z,E=>by
  rw[syL];split
  ·rename_i hi;have V:P (UT z i):=E.p _ (by unfold UT;simp[List.getD,hi]);have U:(ZB aa i (UT z i) z).tup=z.tup:=by unfold ZB;split <;> rfl
   obtain ⟨Y,h1,h2⟩:=QeX (i:=i) H I (evs aa) (ZB aa i (UT z i) z) ⟨by rw[U];exact E.nd,by rw[U];exact E.p⟩ (J _ V);obtain ⟨s2,h3⟩:=QhA H I J f (i+1) Y h2;exact ⟨s2,by rw[h1];exact h3⟩
  exact ⟨z,Z⟩
theorem Qav (E:B≤4096) (H:∀l:List (LI),l.Nodup→(∀t∈l,P t)→l.length≤B) (I:(∀a∈aa,a.st≠0)→P (List.replicate aa.length 0)) (J:∀t,P t→∀v∈evs aa,∀u,Q5 v aa t=some u→P u) :
  ∃z,sync aa=some z:=by
 unfold sync;split
 ·exact ⟨_,rfl⟩
 rename_i U;have h1:P (List.replicate aa.length 0):=I (λa ha e=>U ⟨a,ha,e⟩);obtain ⟨z,h2⟩:=QhA E H J 4096 0 (qG aa) ⟨by simp[qG],λt ht=>by simp[qG] at ht;subst ht;exact h1⟩;exact ⟨_,by rw[h2];rfl⟩
end
def K8 (k:Nat):LI→Int
 | []=>0
 | x::t=>x+(k:Int)*K8 k t
theorem Qbl {k:Nat}:∀{t:LI},(∀x∈t,0≤x∧x<(k:Int))→0≤K8 k t∧K8 k t<((k ^ t.length:Nat):Int)
 | [],_=>by simp[K8]
 | x::t,h=>by
  have hx:=h x Lm;obtain ⟨h1,h2⟩:=Qbl (t:=t) (λy hy=>h y (Lk _ hy));have hk:(0:Int)<(k:Int):=by omega
  rw[K8,LF,Nat.pow_succ];have h3:(k:Int)*K8 k t≤(k:Int)*(((k ^ t.length:Nat):Int) - 1):=Int.mul_le_mul_of_nonneg_left (by omega) (by omega);have h4:0≤(k:Int)*K8 k t:=Int.mul_nonneg (by omega) h1;rw[Int.mul_sub,Int.mul_one] at h3;have h5:((k ^ t.length*k:Nat):Int)=(k:Int)*((k ^ t.length:Nat):Int):=by rw[Int.natCast_mul,Int.mul_comm]
  rw[h5];exact ⟨by omega,by omega⟩
theorem yo {k:Nat}:∀{t u:LI},t.length=u.length→(∀x∈t,0≤x∧x<(k:Int))→(∀x∈u,0≤x∧x<(k:Int))→K8 k t=K8 k u→t=u
 | [],[],_,_,_,_=>rfl
 | [],_::_,h,_,_,_=>by cases h
 | _::_,[],h,_,_,_=>by cases h
 | x::t,y::u,hl,ht,hu,he=>by
  have hx:=ht x Lm;have hy:=hu y Lm;rw[K8,K8] at he;have H:(x+(k:Int)*K8 k t) % (k:Int)=x:=by rw[Int.add_mul_emod_self_left];exact Int.emod_eq_of_lt hx.1 hx.2
  have J:(y+(k:Int)*K8 k u) % (k:Int)=y:=by rw[Int.add_mul_emod_self_left];exact Int.emod_eq_of_lt hy.1 hy.2
  rw[he] at H;have I:x=y:=by omega
  subst I;have hm:(k:Int)*K8 k t=(k:Int)*K8 k u:=by omega
  have hk:(k:Int)≠0:=by omega
  have h2:=Int.eq_of_mul_eq_mul_left hk hm;rw[yo (by simpa using hl) (λz E=>ht z (Lk _ E)) (λz E=>hu z (Lk _ E)) h2]
theorem Qhy {aa:List QD}{k:Nat}(H:∀a∈aa,QM a) (hk:∀a∈aa,a.st≤(k:Int)) (J:k ^ aa.length≤4096):∃z,sync aa=some z:=by
 have E:∀t,Vt aa t→∀x∈t,0≤x∧x<(k:Int):=λt ht x hx=>by
  obtain ⟨i,hi,e⟩:=LB hx;have I:i<aa.length:=by rw[←ht.1];exact hi
  have h1:=ht.2 i hi I;have h2:=hk _ (Le I);rw[e] at h1;omega
 refine Qav (P:=Vt aa) J (λl U hp=>?_) (λV=>?_) (λt ht v _ u hu=>XQ H ht hu)
 ·have h1:(l.map (K8 k)).Nodup:=by
   unfold List.Nodup;rw[ME];refine List.Pairwise.imp_of_mem (λ{a b} ha hb Y e=>Y ?_) U;exact yo (by rw[(hp a ha).1,(hp b hb).1]) (E a (hp a ha)) (E b (hp b hb)) e
  have h2:=pig (k ^ aa.length) _ h1 (λu hu=>by
   obtain ⟨t,ht,rfl⟩:=Lq.1 hu;have h3:=Qbl (E t (hp t ht));rw[(hp t ht).1] at h3;exact h3)
  rw[Li] at h2;exact h2
 refine ⟨by simp,λi h h'=>?_⟩;have h1:=V _ (Le h');have h2:=(H _ (Le h')).st0;simp only[List.getElem_replicate];omega
theorem yy {o:LI}{i j:Nat}{v:Int}(h:i<o.length):cget (o.set i v) j=if j=i then v else cget o j:=by
 by_cases e:j=i
 ·rw[if_pos e,e];unfold cget;simp[List.getD,h]
 rw[if_neg e];unfold cget;simp[List.getD,List.getElem?_set_ne (Ne.symm e)]
theorem QcD {es:List Ed}{e:Ed}{s:Nat}(he:e∈es) (h:e.2.2=(s:Int)):e.1∈Zz es s:=by
 unfold Zz;exact Lq.2 ⟨e,LL.2 ⟨he,decide_eq_true h⟩,Z⟩
structure BwF (n:Nat) (s:Int) (ps:LI) (z z':LI×LI):Prop where
 ok:yT n z'.1 z'.2
 cnt:neg z'.1+z'.2.length=neg z.1+z.2.length
 s0:Qdq z'.1 z'.2
 ss:0≤cget z'.1 s.toNat
 a:∀p∈ps,0≤cget z'.1 p.toNat
 m:∀i,0≤cget z.1 i→0≤cget z'.1 i
 c:∀i:Nat,0≤cget z'.1 i→0≤cget z.1 i∨(i:Int)∈z'.2
 q:∀x∈z.2,x∈z'.2
theorem QpS {n:Nat}{s p:Int}{z:LI×LI}(h:yT n z.1 z.2) (I:0≤cget z.1 s.toNat) (hp:0≤p∧p<(n:Int)) :
  0≤cget (KE s z p).1 p.toNat∧(∀i,0≤cget z.1 i→0≤cget (KE s z p).1 i)∧(∀i:Nat,0≤cget (KE s z p).1 i→0≤cget z.1 i∨(i:Int)∈(KE s z p).2)∧∀x∈z.2,x∈(KE s z p).2:=by
 have E:p.toNat<z.1.length:=by have:=h.len;omega
 unfold KE;by_cases hc:cget z.1 p.toNat<0
 ·rw[if_pos hc];refine ⟨?_,λi hi=>?_,λi hi=>?_,λx hx=>Lz _ hx⟩
  ·show 0≤cget (z.1.set p.toNat _) p.toNat;rw[yy E,if_pos rfl];omega
  ·show 0≤cget (z.1.set p.toNat _) i;rw[yy E];split <;> omega
  have H:0≤cget (z.1.set p.toNat (cget z.1 s.toNat+1)) i:=hi;rw[yy E] at H;by_cases e:i=p.toNat
  ·refine .inr (L4 _ ?_);rw[Lc];omega
  rw[if_neg e] at H;exact .inl H
 rw[if_neg hc];exact ⟨by omega,λi h=>h,λi h=>.inl h,λx h=>h⟩
theorem bwF {n:Nat}{s:Int}(hs:0≤s∧s<(n:Int)):∀(ps:LI) (z:LI×LI),yT n z.1 z.2→Qdq z.1 z.2→0≤cget z.1 s.toNat→(∀p∈ps,0≤p∧p<(n:Int))→BwF n s ps z (ps.foldl (KE s) z)
 | [],z,h,H,E,_=>⟨h,Z,H,E,(λp hp=>(by cases hp)),λi h=>h,λi h=>.inl h,λx h=>h⟩
 | p::ps,z,h,H,E,I=>by
  have hp:=I p Lm;have h1:=Qeu h hs E hp;have h2:=yF h E hp H;have h3:=QpS h E hp;have ih:=bwF hs ps (KE s z p) h1.1 h2 h1.2.2 (λq hq=>I q (Lk _ hq));refine ⟨ih.ok,ih.cnt.trans h1.2.1,ih.s0,ih.ss,λq hq=>?_,λi hi=>ih.m i (h3.2.1 i hi),λi hi=>?_,λx hx=>ih.q x (h3.2.2.2 x hx)⟩
  ·rcases Lh.1 hq with rfl | hq
   ·exact ih.m _ h3.1
   exact ih.a q hq
  rcases ih.c i hi with h4 | h4
  ·rcases h3.2.2.1 i h4 with h5 | h5
   ·exact .inl h5
   exact .inr (ih.q _ h5)
  exact .inr h4
theorem Qgf {n:Nat}{es:List Ed}(J:∀e∈es,0≤e.1∧e.1<(n:Int)∧0≤e.2.2∧e.2.2<(n:Int)):∀(f:Nat) (o q:LI),yT n o q→Qdq o q→neg o+q.length≤f→(∀e∈es,0≤cget o e.2.2.toNat→0≤cget o e.1.toNat∨e.2.2∈q) →
  (∀e∈es,0≤cget (bwL es f o q) e.2.2.toNat→0≤cget (bwL es f o q) e.1.toNat)∧∀i,0≤cget o i→0≤cget (bwL es f o q) i
 | 0,o,q,_,_,U,H=>by
  have hq:q=[]:=Lt (by omega);subst hq;exact ⟨λe he h=>(H e he h).resolve_right (by simp),λi h=>h⟩
 | f+1,o,[],_,_,_,H=>⟨λe he h=>(H e he h).resolve_right (by simp),λi h=>h⟩
 | f+1,o,s::q,I,V,U,H=>by
  have hs:=I.q s Lm;have E:=bwF hs (Zz es s.toNat) (o,q) ⟨I.len,λx hx=>I.q x (Lk _ hx),I.le⟩ (λx hx=>V x (Lk _ hx)) (V s Lm) (λp hp=>by
   obtain ⟨e,he,h1,_⟩:=Xz hp;have:=J e he;omega)
  have hc:=E.cnt;simp only[List.length_cons] at U hc;have ih:=Qgf J f _ _ E.ok E.s0 (by omega) (λe he hx=>?_)
  ·rw[bwL];exact ⟨ih.1,λi hi=>ih.2 i (E.m i hi)⟩
  have Y:=J e he;by_cases e1:e.2.2=s
  ·exact .inl (E.a _ (QcD he (by rw[e1];omega)))
  rcases E.c _ hx with h1 | h1
  ·rcases H e he h1 with h2 | h2
   ·exact .inl (E.m _ h2)
   rcases Lh.1 h2 with h3 | h3
   ·exact absurd h3 e1
   exact .inr (E.q _ h3)
  rw[show ((e.2.2.toNat:Nat):Int)=e.2.2 by omega] at h1;exact .inr h1
theorem QmC {a:QD}(E:QM a) {n:Nat}(I:a.st=(n:Int)):(∀e∈a.ed,0≤cget (bwd n a.ed a.mr) e.2.2.toNat→0≤cget (bwd n a.ed a.mr) e.1.toNat)∧∀x∈a.mr,0≤cget (bwd n a.ed a.mr) x.toNat:=by
 have hb:∀x∈a.mr,0≤x∧x<(n:Int):=λx hx=>by have:=E.mr x hx;omega
 have H:=Qd0 (Vf n a.mr);rw[Yx] at H;have h:=Qgf (es:=a.ed) (λe he=>by have:=E.ed e he;omega) (n+a.mr.length) (Vf n a.mr) a.mr (Qev hb) (λx hx=>by rw[q8 (hb x hx) hx];exact MQ _) (by omega) (λe he hx=>.inr ?_)
 ·exact ⟨h.1,λx hx=>h.2 _ (by rw[q8 (hb x hx) hx];exact MQ _)⟩
 have J:=E.ed e he;have hl:e.2.2.toNat<(Vf n a.mr).length:=by rw[Yx];omega
 rw[←Q9 hl] at hx;have e1:((e.2.2.toNat:Nat):Int)=e.2.2:=by omega
 simp only[Vf,List.getElem_map,List.getElem_range,e1] at hx;split at hx
 ·assumption
 omega
theorem Qcb {a:QD}{ul:LI}:∀(f:Nat) (lf:Lf),Vc lf<f→(nxs a ul (KD a ul f lf)).length=0
 | 0,_,h=>by omega
 | f+1,lf,h=>by
  by_cases h1:(nxs a ul lf).length=0
  ·rw[KD,if_pos h1];exact h1
  rw[U2 h1];have:=zJ h1;exact Qcb f _ (by omega)
theorem Qh8 (a:QD) (ul:LI):(nxs a ul (YG a [] ul)).length=0:=by
 refine Qcb _ _ ?_;have h:=Qbp (lf0 a.st.toNat []);have:(lf0 a.st.toNat []).length=a.st.toNat:=by simp[lf0]
 omega
theorem Qbw {lf:Lf}:∀(l:LI) (i k:Nat),k<l.length→lf.getD (i+k) false=true→cget l k<0→((i+k:Nat):Int)∈Jz lf i l
 | [],_,k,h,_,_=>by simp at h
 | d::l,i,0,_,h1,h2=>by
  have h3:d<0:=h2;rw[Jz,if_pos ⟨by simpa using h1,h3⟩];simp
 | d::l,i,k+1,h,h1,h2=>by
  have h3:=Qbw l (i+1) k (by simpa using h) (by rw[show i+1+k=i+(k+1) by omega];exact h1) h2;rw[show i+1+k=i+(k+1) by omega] at h3;rw[Jz];split
  ·exact Lk _ h3
  exact h3
structure DsQ (a:QD) (lf:Lf) (z:LI×LI):Prop where
 q:∀k,(h:k<z.2.length)→lft lf (z.2[k]'h)=true∧(z.2[k]'h∈a.mr∨∃j,∃hj:j<z.2.length,j<k∧∃v,(z.2[k]'h,v,z.2[j]'hj)∈a.ed)
 r:∀i:Nat,0≤cget z.1 i→i<z.1.length→(i:Int)∈z.2
theorem DsQ.add {a:QD}{lf:Lf}{z:LI×LI}{x y:Int}{i:Nat}(h:DsQ a lf z) (hi:i<z.2.length) (hx:z.2[i]'hi=x) (hy:0≤y) (he:∃v,(y,v,x)∈a.ed) :
  DsQ a lf (Va lf x z y)∧∃U:i<(Va lf x z y).2.length,(Va lf x z y).2[i]'U=x:=by
 unfold Va;by_cases hc:lft lf y=true∧cget z.1 y.toNat<0
 ·rw[if_pos hc];refine ⟨⟨λk hk=>?_,λj hj I=>?_⟩,by simp;omega,by simp only[];rw[L7 hi];exact hx⟩
  ·simp only[List.length_append,List.length_singleton] at hk;by_cases e:k=z.2.length
   ·subst e;simp only[List.getElem_append_right (Nat.le_refl _),Nat.sub_self,List.getElem_cons_zero];refine ⟨hc.1,.inr ⟨i,by simp;omega,hi,?_⟩⟩;obtain ⟨v,E⟩:=he;exact ⟨v,by rw[L7 hi,hx];exact E⟩
   have J:k<z.2.length:=by omega
   simp only[List.getElem_append_left J];obtain ⟨h1,h2⟩:=h.q k J;refine ⟨h1,h2.imp id ?_⟩;rintro ⟨j,hj,V,v,E⟩;exact ⟨j,by simp;omega,V,v,by rw[L7 hj];exact E⟩
  simp only[List.length_set] at I;by_cases e:j=y.toNat
  ·refine L4 _ ?_;rw[Lc];omega
  refine Lz _ (h.r j ?_ I);have H:0≤cget (z.1.set y.toNat (cget z.1 x.toNat+1)) j:=hj;unfold cget at H ⊢;rw[LA,MN (Ne.symm e),←LA] at H;exact H
 rw[if_neg hc];exact ⟨h,hi,hx⟩
theorem DsQ.adds {a:QD}{lf:Lf}{x:Int}{i:Nat}:∀(E:LI) (z:LI×LI),DsQ a lf z→(hi:i<z.2.length)→z.2[i]'hi=x→(∀y∈E,0≤y∧∃v,(y,v,x)∈a.ed)→DsQ a lf (E.foldl (Va lf x) z)
 | [],_,h,_,_,_=>h
 | y::E,z,h,hi,hx,hy=>by
  have h1:=h.add hi hx (hy y Lm).1 (hy y Lm).2;obtain ⟨h2,H,I⟩:=h1;exact DsQ.adds E _ h2 H I (λq hq=>hy q (Lk _ hq))
theorem QfY {a:QD}(I:QM a) {lf:Lf}:∀(f i:Nat) (z:LI×LI),DsQ a lf z→(∀x∈z.2,0≤x)→DsQ a lf (q7 a.ed lf f i z)
 | 0,_,z,h,_=>h
 | f+1,i,z,h,J=>by
  rw[q7];split
  ·rename_i hi;have hx:z.2[i]'hi=cget z.2 i:=Q9 hi;have U:=J _ (Le hi);rw[hx] at U;refine QfY I f (i+1) _ (h.adds (i:=i) _ _ hi hx (λy hy=>?_)) (λx V=>?_)
   ·obtain ⟨e,he,h1,h2⟩:=Xz hy;have Y:=I.ed e he;rw[show (((cget z.2 i).toNat:Nat):Int)=cget z.2 i by omega] at h2;exact ⟨by omega,e.2.1,by rw[←h1,←h2];exact he⟩
   have key:∀(E:LI) (z:LI×LI),(∀y∈E,0≤y)→(∀x∈z.2,0≤x)→∀x∈(E.foldl (Va lf (cget z.2 i)) z).2,0≤x:=by
    intro E z;generalize cget z.2 i=x0;intro hy H;have k2:∀(E:LI) (z:LI×LI),(∀y∈E,0≤y)→(∀x∈z.2,0≤x)→∀x∈(E.foldl (Va lf x0) z).2,0≤x:=by
     intro E;induction E with
     | nil=>intro z _ H;exact H
     | cons y E ih =>
      intro z hy H;rw[LM];refine ih _ (λq hq=>hy q (Lk _ hq)) (λx hx=>?_);unfold Va at hx;split at hx
      ·rcases Lp.1 hx with hx | hx
       ·exact H x hx
       rw[Lc.1 hx];exact hy y Lm
      exact H x hx
    exact k2 E z hy H
   exact key _ z (λy hy=>by
    obtain ⟨e,he,h1,_⟩:=Xz hy;have:=(I.ed e he).1;omega) J x V
  exact h
theorem QjM {a:QD}(H:QM a) (lf:Lf):DsQ a lf (j6 a lf)∧∀x∈(j6 a lf).2,0≤x:=by
 rw[qg (λx hx=>(H.mr x hx).1)];refine ⟨⟨λk hk=>?_,λi hi E=>?_⟩,λx hx=>(H.mr x (LL.1 hx).1).1⟩
 ·have:=LL.1 (Le hk);exact ⟨this.2,.inl this.1⟩
 simp only[] at hi E;rw[←Q9 E] at hi;rw[Yx] at E;simp only[Vf,List.getElem_map,List.getElem_range] at hi;split at hi
 ·assumption
 omega
theorem Vz:∀{es:List Ed},(es.Pairwise λx y=>x.1<y.1∨(x.1=y.1∧x.2.1<y.2.1))→∀{s v t:Int},(s,v,t)∈es→eget es s v=some t
 | [],_,_,_,_,h=>by cases h
 | e::es,hp,s,v,t,h=>by
  simp only[List.pairwise_cons] at hp;rw[eget];rcases Lh.1 h with h | h
  ·rw[←h,if_pos ⟨rfl,rfl⟩]
  have h1:=hp.1 _ h;simp only[] at h1;rw[if_neg (by omega)];exact Vz hp.2 h
theorem Uw {ord:LI}{x:Int}(h:x∈ord):Zn ord ((ord.idxOf x:Nat):Int)=x:=by
 have hl:=LU h;unfold Zn;simp[List.getD,hl]
section
variable {A:QD} {lf:Lf} {ord:LI}
def PrT (lf:Lf) (ord:LI) (t:LI):Prop:=∃j:Nat,j<ord.length∧t=[Zn ord j,(j:Int)]∧lft lf (Zn ord j)=true
theorem jy (E:QM A) {s v p:Int}(h:(s,v,p)∈A.ed):eget (rstr A lf).ed s v=if lft lf p=true then some p else none:=by
 by_cases hl:lft lf p=true
 ·rw[if_pos hl];exact Vz (Xx E lf).edi (LL.2 ⟨h,hl⟩)
 rw[if_neg hl];refine Ka λe he hk=>hl ?_;have h1:=LL.1 he;have h2:=Vz E.edi h;have h3:eget A.ed e.1 e.2.1=some e.2.2:=Vz E.edi (s:=e.1) (v:=e.2.1) (t:=e.2.2) h1.1;rw[hk.1,hk.2,h2] at h3;rw[Option.some.inj h3];exact h1.2
theorem QeZ (E:QM A) (hc:CnP (rstr A lf) ord) {j:Nat}(hj:j<ord.length) {v p:Int}(h:(Zn ord j,v,p)∈A.ed) (hl:lft lf p=true) :
  Q5 v [A,ZJ (rstr A lf)] [Zn ord j,(j:Int)]=some [p,((ord.idxOf p:Nat):Int)]∧p∈ord:=by
 have H:v∈A.al:=(E.ed _ h).2.2.1;have I:v∈(ZJ (rstr A lf)).al:=by rw[hc.al];exact H
 have h1:=hc.step hj v;rw[jy E h,if_pos hl] at h1;refine ⟨QkQ H (Vz E.edi h) I h1,?_⟩;refine hc.cl j hj (Zn ord j,v,p) ?_;unfold ZE;exact LL.2 ⟨LL.2 ⟨h,hl⟩,decide_eq_true Z⟩
theorem Qnv (I:QM A) (hc:CnP (rstr A lf) ord) {j:Nat}(hj:j<ord.length) {v:Int}(E:v∈A.al) {u:LI}(hu:Q5 v [A,ZJ (rstr A lf)] [Zn ord j,(j:Int)]=some u):PrT lf ord u:=by
 have J:v∈(ZJ (rstr A lf)).al:=by rw[hc.al];exact E
 cases H:eget A.ed (Zn ord j) v with
 | none=>rw[QkS E H] at hu;cases hu
 | some p =>
  have hm:=ZV H;by_cases hl:lft lf p=true
  ·have h1:=QeZ I hc hj hm hl;rw[h1.1] at hu;cases hu
   exact ⟨ord.idxOf p,LU h1.2,by rw[Uw h1.2],by rw[Uw h1.2];exact hl⟩
  have h1:=hc.step hj v;rw[jy I hm,if_neg hl] at h1;rw[QkR E H J h1] at hu;cases hu
end
theorem QeS {aa:List QD}{C:QD}{Q:List (LI)}(hs:ze aa C Q) (I:QM C) (J:Par Q.length C.ed) {P:LI→Prop}(U:0<Q.length→P (List.replicate aa.length 0)) (V:∀t,P t→∀v∈evs aa,∀u,Q5 v aa t=some u→P u) :
  ∀(n j:Nat),j<n→j<Q.length→P (Q.getD j [])
 | 0,j,h,_=>by omega
 | n+1,j,h,hj=>by
  by_cases Y:j=0
  ·subst Y;rw[hs.hd hj];exact U hj
  obtain ⟨e,he,e2,e1⟩:=J j (by omega) hj;have ha:=I.ed e he;have hi:e.1.toNat<Q.length:=by omega
  have ih:=QeS hs I J U V n e.1.toNat (by omega) hi;have hg:eget C.ed e.1 e.2.1=some e.2.2:=Vz I.edi (s:=e.1) (v:=e.2.1) (t:=e.2.2) he;have E:=hs.step hi e.2.1;rw[show ((e.1.toNat:Nat):Int)=e.1 by omega,hg,e2] at E;by_cases H:e.2.1∈evs aa
  ·rw[if_pos H] at E;cases hu:Q5 e.2.1 aa (Q.getD e.1.toNat []) with
   | none=>rw[hu] at E;cases E
   | some u =>
    rw[hu] at E;have h2:(j:Int)=(Q.idxOf u:Int):=Option.some.inj E;have h3:=(hs.to hi H hu).2;rw[show Q.idxOf u=j by omega] at h3;rw[h3];exact V _ ih _ H u hu
  rw[if_neg H] at E;cases E
theorem Qll {a:QD}{ul:LI}{lf:Lf}(h:(nxs a ul lf).length=0):(Jz lf 0 (dsts a lf)).length=0:=by
 unfold nxs at h;by_cases h1:(lost a ul lf).length≠0
 ·rw[if_pos h1,Li] at h;exact absurd h h1
 rw[if_neg h1] at h;exact h
theorem Qga {A:QD}(E:QM A) (ul:LI):∃C Q,sync [A,X8 A [] ul]=some (C,Q)∧JP [A,X8 A [] ul]=0∧QM C∧((cor C).length:Int)=C.st:=by
 have hW:=Qll (Qh8 A ul);have hC:X8 A [] ul=Ja A (YG A [] ul):=rfl;rw[hC];generalize hX:YG A [] ul=lf at *;have hD:QM (Ja A lf):=Ji E lf;have H:∀a∈[A,Ja A lf],QM a:=λa ha=>by
  simp only[List.mem_cons,List.not_mem_nil,or_false] at ha;rcases ha with rfl | rfl
  ·exact E
  exact hD
 have hck:JP [A,Ja A lf]=0:=by
  unfold JP;rw[if_neg (by simp)];exact (Jw _).2 H
 by_cases U:A.st=0∨lft lf 0=false
 ·have hB:Ja A lf=⟨A.al,0,[],[]⟩:=by unfold Ja;rw[if_pos U]
  have hs:sync [A,Ja A lf]=some (⟨evs [A,Ja A lf],0,[],[]⟩,[]):=by
   unfold sync;rw[if_pos ⟨Ja A lf,by simp,by rw[hB]⟩]
  exact ⟨_,_,hs,hck,(Yj H hs).1.okay H,Z⟩
 have hY:A.st≠0:=λe=>U (.inl e);have hE:lft lf 0=true:=by
  cases h:lft lf 0 with
  | true=>rfl
  | false=>exact absurd (.inr h) U
 have hB:Ja A lf=ZJ (rstr A lf):=by unfold Ja;rw[if_neg U]
 rw[hB] at H hck ⊢;have hF:=Xx E lf;have st0:=E.st0;have hG:0<(rstr A lf).st:=by show 0<A.st;omega
 obtain ⟨ord,hc⟩:=Qad hF hG;have hZ:=E.st1;have hH:ord.length≤4096:=pig 4096 ord hc.nd (λx hx=>by have:=hc.bd x hx;have h2:x<A.st:=this.2;omega);have hI:∀v∈evs [A,ZJ (rstr A lf)],v∈A.al:=λv I=>by
  obtain ⟨a,ha,hx⟩:=(ZC H v).1 I;simp only[List.mem_cons,List.not_mem_nil,or_false] at ha;rcases ha with rfl | rfl
  ·exact hx
  rw[hc.al] at hx;exact hx
 have hr:PrT lf ord (List.replicate [A,ZJ (rstr A lf)].length 0):=⟨0,hc.hd.2,by
  have h1:=hc.hd.1;show [0,0]=[Zn ord ((0:Nat):Int),((0:Nat):Int)];rw[show Zn ord ((0:Nat):Int)=0 from h1];rfl,by rw[show Zn ord ((0:Nat):Int)=0 from hc.hd.1];exact hE⟩
 have hw:∀t,PrT lf ord t→∀v∈evs [A,ZJ (rstr A lf)],∀u,Q5 v [A,ZJ (rstr A lf)] t=some u→PrT lf ord u:=by
  rintro t ⟨j,hj,rfl,_⟩ v I u hu;exact Qnv E hc hj (hI v I) hu
 obtain ⟨⟨C,Q⟩,hs⟩:=Qav (P:=PrT lf ord) hH (λl hn hp=>by
  have h1:(l.map λt=>Zn t 1).Nodup:=by
   unfold List.Nodup;rw[ME];refine List.Pairwise.imp_of_mem (λ{x y} hx hy hJ e=>hJ ?_) hn;obtain ⟨i,_,rfl,_⟩:=hp x hx;obtain ⟨k,_,rfl,_⟩:=hp y hy;have e':(i:Int)=(k:Int):=e;have:i=k:=by omega
   rw[this]
  have h2:=pig ord.length _ h1 (λu hu=>by
   obtain ⟨t,ht,rfl⟩:=Lq.1 hu;obtain ⟨i,hi,rfl,_⟩:=hp t ht;show 0≤(i:Int)∧(i:Int)<_;omega)
  rw[Li] at h2;exact h2) (λ_=>hr) hw
 have J:=(Yj H hs).1;have he:=J.okay H;refine ⟨C,Q,hs,hck,he,?_⟩;have hK:=λj (hj:j<Q.length)=>QeS J he (Qhx hs) (λ_=>hr) hw (j+1) j (by omega) hj;have hL:=J.st;have h0:=QmC he (n:=Q.length) hL;obtain ⟨hM,hN⟩:=QjM E lf;have hq:=QfY E (lf:=lf) A.st.toNat 0 (j6 A lf) hM hN;have hf:dsts A lf=(q7 A.ed lf A.st.toNat 0 (j6 A lf)).1:=rfl
 refine Zh (q7 A.ed lf A.st.toNat 0 (j6 A lf)) λz hO=>?_;rw[hO] at hq hf;have hP:∀(m k:Nat),k<m→(hk:k<z.2.length)→∀i,i<Q.length→∀j:Nat,j<ord.length→Zn ord j=z.2[k]'hk→Q.getD i []=[Zn ord j,(j:Int)]→0≤cget (bwd Q.length C.ed C.mr) i:=by
  intro m;induction m with
  | zero=>intro k h;omega
  | succ m ih =>
   intro k ga hk i hi j hj hg V;obtain ⟨hl,hQ⟩:=hq.q k hk;rcases hQ with hm | ⟨j',hh,gb,v,I⟩
   ·have hR:(i:Int)∈C.mr:=by
     rw[J.mk2];refine Lq.2 ⟨i,LL.2 ⟨by rw[L5];omega,?_⟩,Z⟩;rw[V];have hb:(j:Int)∈(ZJ (rstr A lf)).mr:=by
      rw[hc.mk2];refine Lq.2 ⟨j,LL.2 ⟨by rw[L5];omega,decide_eq_true ?_⟩,Z⟩;show Zn ord j∈A.mr;rw[hg];exact hm
     have ha:Zn ord j∈A.mr:=by rw[hg];exact hm
     simp[Yp,ha,hb]
    have:=h0.2 _ hR;simpa using this
   have hS:=(hq.q j' hh).1;rw[←hg] at I;obtain ⟨h1,h2⟩:=QeZ E hc hj I hS;have h8:v∈evs [A,ZJ (rstr A lf)]:=(ZC H v).2 ⟨A,by simp,(E.ed _ I).2.2.1⟩;rw[←V] at h1;have h3:=J.to hi h8 h1;have h4:=J.step hi v;rw[if_pos h8,h1] at h4;have h5:=ZV h4;have h6:=ih j' (by omega) hh _ h3.1 (ord.idxOf (z.2[j']'hh)) (LU h2) (Uw h2) (by rw[h3.2,Uw h2])
   have h7:=h0.1 _ h5;simp only[Int.toNat_natCast] at h7;exact h7 h6
 have hT:∀i,i<Q.length→0≤cget (bwd Q.length C.ed C.mr) i:=by
  intro i hi;obtain ⟨j,hj,V,hl⟩:=hK i hi;have hb:=hc.bd (Zn ord j) (by
   unfold Zn;simp only[Int.toNat_natCast,List.getD_eq_getElem?_getD,List.getElem?_eq_getElem hj,Option.getD_some];exact Le hj)
  have gc:Zn ord j<A.st:=hb.2;have h9:(dsts A lf).length=A.st.toNat:=by
   have key:∀(f i:Nat) (z:LI×LI),(q7 A.ed lf f i z).1.length=z.1.length:=by
    intro f;induction f with
    | zero=>intro i z;rfl
    | succ f ih =>
     intro i z;rw[q7];split
     ·rw[ih];have k2:∀(x:Int) (Y:LI) (z:LI×LI),(Y.foldl (Va lf x) z).1.length=z.1.length:=by
       intro x Y;induction Y with
       | nil=>intro z;rfl
       | cons y Y ih2 =>
        intro z;rw[LM,ih2];unfold Va;split
        ·simp
        rfl
      exact k2 _ _ _
     rfl
   unfold dsts;rw[key,qg (λx hx=>(E.mr x hx).1)];exact Yx _ _
  have hA:0≤cget (dsts A lf) (Zn ord j).toNat:=by
   refine Decidable.byContradiction λhn=>?_;have:=Qbw (lf:=lf) (dsts A lf) 0 (Zn ord j).toNat (by rw[h9];omega) (by rw[LR];exact hl) (by omega);have:=List.length_pos_of_mem this;omega
  have ge:z.1.length=A.st.toNat:=by rw[←hf];exact h9
  rw[hf] at hA;have hm:=hq.r _ hA (by omega);rw[show (((Zn ord j).toNat:Nat):Int)=Zn ord j by omega] at hm;obtain ⟨k,hk,hU⟩:=LB hm;exact hP (k+1) k (by omega) hk i hi j hj hU.symm V
 have hV:cor C=VH (bwd Q.length C.ed C.mr) Q.length:=by unfold cor;rw[show C.st.toNat=Q.length by omega]
 rw[hV];unfold VH;rw[Li,Nm.2 (λi hi=>decide_eq_true (hT i (L8.1 hi))),M7];omega
theorem QfE {α:Type}(q:α→Bool):∀(l:List α) (i:Nat),(∀x∈ixs q i l,(i:Int)≤x∧x<(i:Int)+l.length)∧Z8 (ixs q i l)
 | [],i=>⟨λx h=>(by cases h),List.Pairwise.nil⟩
 | e::l,i=>by
  obtain ⟨h1,h2⟩:=QfE q l (i+1);rw[ixs];split
  ·refine ⟨λx hx=>?_,L3.2 ⟨λx hx=>by have:=h1 x hx;omega,h2⟩⟩;rcases Lh.1 hx with rfl | hx
   ·exact ⟨MQ _,by simp only[List.length_cons];omega⟩
   have:=h1 x hx;simp only[List.length_cons];omega
  exact ⟨λx hx=>by have:=h1 x hx;simp only[List.length_cons];omega,h2⟩
theorem Qf9 {c:Q4}(h:X2 c=0):Ub (ZT c) [] (unc c.ev)=0:=by
 have E:=(ZX h).2;have H:=Yd (yw h);have hi:=QfE (λe:VD=>!e.co) c.ev 0;have hl:=H.ev;unfold Ub;rw[if_neg (by simp[(Zv _).2 E]),if_neg (by simp[YV])];exact Qeo (λx hx=>by have:=hi.1 x hx;omega) hi.2
theorem QeJ {w:World}{vl:Value}{ps:List AV}(h:Xf [] w.heap vl ps) (ho:∀p∈ps,QM p.a) (he:Kb w 4096) :
  QG prog 40 [vl] w λr w'=>Step [] w w'∧∃va,r=.tuple #[va,.int .i64 (X9 (ps.map (·.a)))]∧(X9 (ps.map (·.a))≠0→va=zA)∧(X9 (ps.map (·.a))=0→JY w.heap.size w'.heap va (UX (ps.map (·.a)))):=by
 refine QG.of_W func40 Z ntmps40 results40 (by simp) ?_;refine Qc<|xl Z<|Qu (us:=Qlq) Z λb2 w1 E hf J=>Qf<|Qc<|Qb<|xl Z<|xf<|(UQ (km:=4096) (h.ext E) (he.ext E) (by decide) (qU ho)).mono ?_;rintro r2 w2 ⟨hh,vA,vt,c,rfl,hR⟩;have hc:=hR.e;have hg:=hR.good;have hb:=hR.bad;obtain ⟨a,xa,xm,H,qs,rfl,U,hr,_⟩:=hR.shape;have hi:=E.size;have hj:=J.lt
 refine Qb<|x (Qj Z Z)<|x (Qj Z Z)<|x (Qj Z Z)<|xl Z<|Qu (us:=Qlq) Z λb4 w3 hk hl hm=>xl Z<|Qn (us:=[xa,.int .i64 a.st,xm,H]) hm Z Z Z Z U λw4 hn hp =>
  x Qe<|Qf ?_
 have V:Step [] w2 w4:=hk.then1 hn hl;have Y:=hh.trans V;refine Qc<|x (Qp hp Z Z)<|Qb<|xl Z<|Qn (us:=[xa,.int .i64 a.st,xm,H]) (J.ext Y) Z Z Z Z U λw5 ha hq=>Qf<|Ql ⟨[.agg [xa,.int .i64 a.st,xm,H].toArray,.int .i64 c],⟨⟨_,Z,Qw Z (hq.at (L:=[]) (by simp)).cells⟩,rfl,La⟩,(E.trans Y).then1 ha hf,.agg #[xa,.int .i64 a.st,xm,H],?_,λI=>?_,λI=>?_⟩
 ·show Value.tuple _=Value.tuple _;rw[hc]
 ·exact (hb (by rw[hc];exact I)).1
 have h1:=(hg (by rw[hc];exact I)).1;exact (US (h1.ext V) hj ha).mono hi
end Go.Proofs.YtjcgijbhaemldaaGreatDoor
namespace Go.Lg
section
variable {P:Program} {ops:List Oper} {K:Fr→World→Prop} {f:Fr} {w:World} {d:Option Nat} {ty:Nat} {ps:String} {af:Array Edge} {gd:Option (Nat×Bool)} {l:List Oper} {t t':Nat} {x y:Operand} {k:IntKind} {a b:Int}
theorem QdP (hx:ev f x=.int k a) (hy:ev f y=.int k b) (h:a=b):(execOp (ev f) ⟨d,.binOp .neq t x y t',ty,ps,af,gd⟩).run P w=.ok (.value (.bool false)) w:=by
 rw[Q8 hx hy,decide_eq_false (λe=>e h)]
end
end Go.Lg
namespace Go.Proofs.YtjcgijbhaemldaaGreatDoor
open Go.Proofs.Tryz
open Go.Lg
theorem Qbs {c:Q4}(h:X2 c=0):X9 [ZT c,Ve c]=0∧QM (Ve c)∧QM (ccA c)∧((cor (ccA c)).length:Int)=(ccA c).st:=by
 have E:=(ZX h).2;obtain ⟨C,Q,h1,h2,h3,h4⟩:=Qga E (unc c.ev);have h5:sync [ZT c,Ve c]=some (C,Q):=h1;have h6:JP [ZT c,Ve c]=0:=h2;have H:ccA c=C:=by unfold ccA UX;rw[h5]
 refine ⟨?_,Ji E _,by rw[H];exact h3,by rw[H];exact h4⟩;unfold X9;rw[if_neg (by simpa using h6),h5]
theorem yr {w:World}{t:TmV}{c:CL}(ht:yN [] w.heap t) (hc:ZS [] w.heap c) (hA:t.A=ZT c.cel) (h0:X2 c.cel=0) :
  QG prog 39 [.agg (JH t).toArray,c.val] w λr w'=>Step [] w w'∧∃va,r=.tuple #[va,.int .i64 0]∧JY w.heap.size w'.heap va (Ve c.cel):=by
 have hb:=Yd (yw h0);have hk:Ub t.A [] (unc c.cel.ev)=0:=by rw[hA];exact Qf9 h0
 have hS:X8 t.A [] (unc c.cel.ev)=Ve c.cel:=by rw[hA];rfl
 refine QG.of_W func39 Z ntmps39 results39 (by simp) ?_;refine Qc<|xl Z<|QR (us:=JH t) Z λb2 w1 he hv hl=>xl Z<|QR (us:=c.cells) Z λb3 w2 U hw hm=>xl Z<|Qu (us:=Qlq) Z λb4 w3 V hy hf=>Qf ?_;have Y:=(he.trans U).trans V;have hz:=he.size;have h1:=U.size;have h2:=hf.lt;refine Qc<|x (Qa Z)<|x (Qd (hm.ext V) Z Z)<|xl Z<|xf<|(Qaj (hc.ev.ext Y)).mono ?_
 rintro r4 w4 ⟨I,vu,rfl,J⟩;rw[if_pos (show JD c.ev=0 from hb.e0)] at J;have J:Qs 3 w3.heap.size w4 vu (unc c.cel.ev):=J;have h3:=I.size;have hn:(unc c.cel.ev).length≤1099511627776:=LT (Ut _ c.cel.ev 0) hc.ev.arr.le;have hg:=Y.trans I;have hD:=jk (ht.a.ext hg) (Kj [] w4.heap) (Qs.ints (L:=[]) J hn (by simp));rw[hk,hS,if_pos rfl] at hD
 refine Qb<|x (Qj Z Z)<|x (Qj Z Z)<|x Qe<|Qf<|Qg<|Qc<|Qb<|x (QdP Z Z hb.e0)<|xe<|YT rfl<|Qi<|Qc<|x (Qa Z)<|x (ZI (us:=[t.va,.int .i64 t.A.st,t.vm,t.ve]) (hl.ext ((U.trans V).trans I)) Z Z Z)<|Qb<|xl Z<|xf<|hD.mono ?_;rintro r6 w6 ⟨hh,c0,c1,c2,c3,sa,sm,se,o,rfl,H,_,hi⟩;have E:=hi Z [] (by simp)
 refine Qb<|x (Qj Z Z)<|x (Qj Z Z)<|xl Z<|Qu (us:=X3 (nS) (nS) (nS) 0) Z λb8 w7 ho hp hq =>
  xl rfl<|Qn (us:=[c0,c1,c2,c3,sa,.int .i64 (Ve c.cel).st,sm,se,o]) hq Z Z Z Z ⟨H.1,H.2.1,H.2.2.1,H.2.2.2.1,E.al.one,Z,E.mr.one,E.ed.one,H.2.2.2.2.2.2.2.1,La⟩ λw8 hr hs =>
  Qf ?_
 have ha:Step [] w6 w8:=ho.then1 hr hp;refine Qc<|x (Qa Z)<|x (ZI (us:=[sa,.int .i64 (Ve c.cel).st,sm,se]) hs Z Z Z)<|Qb<|xl Z<|Qn (us:=[sa,.int .i64 (Ve c.cel).st,sm,se]) (hf.ext ((I.trans hh).trans ha)) Z Z Z Z ⟨E.al.one,Z,E.mr.one,E.ed.one,La⟩ λw9 hj hu=>x Qe <|
  xe ?_
 refine Ql ⟨[.agg [sa,.int .i64 (Ve c.cel).st,sm,se].toArray,.int .i64 0],⟨⟨_,Z,Qw Z (hu.at (L:=[]) (by simp)).cells⟩,rfl,La⟩,((hg.trans hh).trans ha).then1 hj (by omega),_,rfl,?_⟩;have hF:JY w4.heap.size w6.heap (.agg #[sa,.int .i64 (Ve c.cel).st,sm,se]) (Ve c.cel):=⟨sa,sm,se,Z,λL hL=>hi Z L hL⟩;exact (US (hF.ext ha) (by omega) hj).mono (by have:=Y.size;omega)
theorem QpA {w:World}{va vm ve va' vm' ve':Value}{a E:QD}{b:Nat}(H:QT w.heap b 50 ([Zc ⟨va,vm,ve,a⟩,Zc ⟨va',vm',ve',E⟩]:List (LV)).flatten) (h:Zq [] w.heap va vm ve a) (h':Zq [] w.heap va' vm' ve' E) :
  Xf [] w.heap (.slice (some ⟨b,0,none⟩) 2 2) [⟨va,vm,ve,a⟩,⟨va',vm',ve',E⟩] :=
 ⟨H.arr (by simp) rfl (by omega) (Lv 2),λp hp=>by
  rcases Lh.1 hp with rfl | hp
  ·exact h
  rw[Lc.1 hp];exact h'⟩
theorem Qpp {va vm ve va' vm' ve':Value}{a E:QD}(h:QM a) (h':QM E):∀p∈[(⟨va,vm,ve,a⟩:AV),⟨va',vm',ve',E⟩],QM p.a:=λp hp=>by
 rcases Lh.1 hp with rfl | hp
 ·exact h
 rw[Lc.1 hp];exact h'
theorem QjV (c:Q4) (fg:Bool):cmE c fg=if X2 c≠0 then X2 c else if suE c≠0 then suE c else lgE (own c fg) (Jp c) 1:=by
 unfold cmE;by_cases h:X2 c≠0
 ·rw[if_pos h,if_pos h]
 rw[if_neg h,if_neg h];have E:=Lo.1 h;have H:cdE c=0:=by unfold cdE;rw[if_neg h];exact Qf9 E
 have I:ccE c=0:=by unfold ccE;rw[if_neg (not_not_intro H)];exact (Qbs E).1
 rw[if_neg (show ¬(fg=true∧ccE c≠0) from λe=>e.2 I)]
set_option maxRecDepth 4096 in
set_option maxHeartbeats 8000000 in
theorem Vn (fg:Bool) {L:LN}{w:World}{c:CL}(V:ZS L w.heap c) (h4:Kb w 4096) :
  QG prog 11 [c.val,.bool fg] w λr w'=>Step [] w w'∧∃v e,r=.tuple #[v,.bool e,.int .i64 (cmE c.cel fg)]∧(cmE c.cel fg≠0→v=Zg∧e=false)∧(cmE c.cel fg=0→e=(cmW (own c.cel fg) (Jp c.cel)).isNone∧(cmW (own c.cel fg) (Jp c.cel)=none→v=Zg)∧∀u,cmW (own c.cel fg) (Jp c.cel)=some u→Qs 3 w.heap.size w' v u∧u.length≤17000000):=by
 have h:=V.up (L':=[]) (by simp);have hp:=QjV c.cel fg;refine Zh (cmE c.cel fg) λE hE=>?_;rw[hE] at hp ⊢;refine QG.of_W func11 Z ntmps11 results11 (by simp) ?_;refine Qc<|xl Z<|QR (us:=c.cells) Z λb2 w1 h5 m3 h6=>x Qe<|x Qe<|Qf<|Qc<|x (Qp h6 Z Z)<|xl Z<|xf<|(Up (h.ext h5) (h4.ext h5)).mono ?_;rintro r2 w2 ⟨g1,us,rfl,g2,g3,g4⟩
 refine Qb<|x (Qj Z Z)<|x (Qj Z Z)<|xl Z<|Qu (us:=Qck) Z λb7 w3 g5 g6 g7=>xl Z<|Qn (us:=us) g7 Z Z g2 Z g3 λw4 g8 h7 =>
  Qf ?_
 have hX:Step [] w2 w4:=g5.then1 g8 g6;have h8:=g1.trans hX;have hn:=h5.trans h8;refine Qg<|Qc<|Qb<|x (Q8 Z Z)<|xe<|Q3 rfl (λha=>?_) (λha=>?_)
 ·rw[if_pos ha] at hp;subst hp;refine Qc<|Qb<|x Qe<|x Qe<|Qf ?_;exact Ql ⟨[Zg,.bool false,.int .i64 (X2 c.cel)],⟨Z,Z,Z,La⟩,hn,Zg,false,Z,λ_=>⟨Z,Z⟩,λV=>absurd V ha⟩
 rw[if_neg ha] at hp;have he:=Lo.1 ha;obtain ⟨t,ht,hr,hT⟩:=g4 he;subst ht;have hs:yN [] w4.heap t:=(hT [] (by simp)).ext hX;obtain ⟨_,hY⟩:=ZX he;have h9:=Qbs he;have hA:QM (own c.cel fg):=by
  unfold own;split
  ·exact h9.2.2.1
  exact hY
 refine Qi<|Qc<|x (Qp (h6.ext h8) Z Z)<|xl Z<|xf<|(VM (h.ext hn) (h4.ext hn)).mono ?_;rintro r5 w5 ⟨g9,sa,sm,se,rfl,hB,_,ka⟩;refine Zh (if Xh c.cel=0 then (Jp c.cel).st else 0) λM hM=>?_
 rw[hM];refine Qb<|x (Qj Z Z)<|x (Qj Z Z)<|xl Z<|Qu (us:=[nS,.int .i64 0,nS,nS]) Z λb8 w6 kb kc ke=>xl Z<|Qn (us:=[sa,.int .i64 M,sm,se]) ke Z Z Z Z ⟨hB.1,Z,hB.2.1,hB.2.2.1,La⟩ λw7 kf hZ =>
  Qf ?_
 have ga:Step [] w5 w7:=kb.then1 kf kc;have Y:=g9.trans ga;have hD:=hn.trans Y;refine Qg<|Qc<|Qb<|x (Q8 Z Z)<|xe<|Q3 rfl (λhc=>?_) (λhc=>?_)
 ·rw[if_pos hc] at hp;subst hp;refine Qc<|Qb<|x Qe<|x Qe<|Qf ?_;exact Ql ⟨[Zg,.bool false,.int .i64 (suE c.cel)],⟨Z,Z,Z,La⟩,hD,Zg,false,Z,λ_=>⟨Z,Z⟩,λV=>absurd V hc⟩
 rw[if_neg hc] at hp;have hF:=Lo.1 hc;have hG:=zl hF;have gb:E=0:=hp.trans (zR hA hG (.inl Z));have kg:M=(Jp c.cel).st:=by rw[←hM,if_pos (show Xh c.cel=0 from hF)]
 have gc:Zq [] w7.heap sa sm se (Jp c.cel):=(ka hF [] (by simp)).ext ga;refine Qi<|Qc<|x (Qa Z)<|x (ZI (us:=[t.va,.int .i64 t.A.st,t.vm,t.ve]) (h7.ext Y) Z Z Z)<|xl Z<|Qu (us:=[nS,.int .i64 0,nS,nS]) Z λJ w8 kh ki kj=>xl Z<|Qn (us:=[t.va,.int .i64 t.A.st,t.vm,t.ve]) kj Z Z Z Z ⟨hs.a.al.one,Z,hs.a.mr.one,hs.a.ed.one,La⟩ λw9 kk hH =>
  xe ?_
 have U:Step [] w7 w9:=kh.then1 kk ki;have hI:=hD.trans U;have kn:=hZ.ext U;have hJ:yN [] w9.heap t:=(hs.ext Y).ext U;have m4:=gc.ext U;have m5:=hH.lt;have ko:b8∉[J]:=by have:=hZ.lt;simp only[List.mem_singleton];omega
 have kp:Zq [J] w9.heap sa sm se (Jp c.cel):=(gc.up (L':=[J]) (λb hb=>.inr (by simp only[List.mem_singleton] at hb;omega))).ext U;refine QZ (α:=Value×Value×Value) [(4,6),(10,11),(35,55)] (λz=>[(4,Zg)]) (λz w'=>Step [J] w9 w'∧QT w'.heap J 50 [z.1,.int .i64 (own c.cel fg).st,z.2.1,z.2.2]∧Zq [] w'.heap z.1 z.2.1 z.2.2 (own c.cel fg)) (by rfl) ?_ ?_
 ·refine Qc<|Qb<|xe<|QW Z (λhK=>?_) (λhK=>?_)
  rotate_left
  ·refine Qi ?_;have e:own c.cel fg=t.A:=by unfold own;rw[hK,hr.A];rfl
   rw[e];exact ⟨(t.va,t.vm,t.ve),Lb,Step.refl _ _,hH,hJ.a⟩
  have e:own c.cel fg=ccA c.cel:=by unfold own;rw[if_pos hK]
  rw[e];refine Qc<|x (Qp (h7.ext (Y.trans U)) Z Z)<|x (Qp (h6.ext ((h8.trans Y).trans U)) Z Z)<|xl Z<|xf<|(yr hJ (h.ext hI) hr.A he).mono ?_;rintro m6 kq ⟨kr,_,rfl,va,vm,ve,rfl,kt⟩;have hv:=kt [] (by simp)
  refine Qb<|x (Qj Z Z)<|x (Qj Z Z)<|xl Z<|Qu (us:=Qlq) Z λb10 m7 ku kv kw=>xl Z<|Qn (us:=[va,.int .i64 (Ve c.cel).st,vm,ve]) kw Z Z Z Z ⟨hv.al.one,Z,hv.mr.one,hv.ed.one,La⟩ λkx kz k0 =>
   Qf ?_
  have ge:Step [] kq kx:=ku.then1 kz kv;have gg:=kr.trans ge;refine Qg<|Qc<|Qb<|x (QdP Z Z Z)<|xe<|YT Z<|Qi ?_;have k4:=Qpp (va:=t.va) (vm:=t.vm) (ve:=t.ve) (va':=va) (vm':=vm) (ve':=ve) (a:=t.A) (by rw[hr.A];exact hY) h9.2.1
  refine Qc<|x (Qa Z)<|x (ZI (us:=[t.va,.int .i64 t.A.st,t.vm,t.ve]) (h7.ext ((Y.trans U).trans gg)) Z Z Z)<|x (Qp k0 Z Z)<|xl Z<|QH (us:=[Zc ⟨t.va,t.vm,t.ve,t.A⟩,Zc ⟨va,vm,ve,Ve c.cel⟩]) Z Z (by decide) (by exact (by decide:2*4≤1000000)) ⟨Z,Z,Z,Z,La⟩ λm8 m9 gh pa k5=>?_;have hf:=gg.trans gh;have k6:=hI.trans hf
  have hC:=QeJ (QpA k5 (hJ.a.ext hf) (hv.ext (ge.trans gh))) k4 (h4.ext k6);simp only[List.map_cons,List.map_nil,hr.A] at hC;rw[h9.1] at hC;refine xl Z<|xf<|hC.mono ?_;rintro pc k7 ⟨gi,vc,rfl,_,k8⟩;obtain ⟨ca,cm,ce,rfl,k9⟩:=k8 Z;have pd:=hf.size
  have hw:Zq [J] k7.heap ca cm ce (ccA c.cel):=k9 [J] (λb hb=>by simp only[List.mem_singleton] at hb;omega);refine Qb<|x (Qj Z Z)<|x (Qj Z Z)<|xl Z<|Qn (us:=[ca,.int .i64 (ccA c.cel).st,cm,ce]) (hH.ext (hf.trans gi)) Z Z Z Z ⟨hw.al.one,Z,hw.mr.one,hw.ed.one,La⟩ λpf gj ma=>Qf<|Qc<|Qb<|x (QdP Z Z Z)<|xe<|YT Z<|Qi ?_
  exact ⟨(ca,cm,ce),Lb,((hf.trans gi).any (L:=[J])).trans' gj,ma,(hw.st gj).up (λb hb=>(by cases hb))⟩
 rintro ⟨oa,om,oe⟩ g gk ⟨hL,gl,gm⟩;simp only[] at gl gm;have mc:Step [] w gk:=hI.then1 hL (by have:=hD.size;omega);have mf:=kn.step hL ko;have mg:Zq [] gk.heap sa sm se (Jp c.cel):=(kp.st hL).up (λb hb=>(by cases hb))
 refine Qc<|Qf<|Qg<|Qc<|xl Z<|QH (us:=[[.int .i64 1],[.int .i64 2]]) Z Z (by decide) (by simp) ⟨rfl,rfl,rfl,rfl,La⟩ λmh gn gq pg mj=>?_;have gr:QL [] gn.heap (.slice (some ⟨mh,0,none⟩) 2 2) [1,2]:=mj.arr (by simp) (n:=2) (cap:=2) (sz:=1) rfl (by omega) (Lv _);refine x (Qr gr Z)<|Qb<|xe ?_;have mo:=mc.trans gq
 refine Qh<|Qz (α:=Nat×Value×Option (LI)) [(4,6),(13,16),(58,84)] (λz=>[(4,z.2.1),(5,.bool z.2.2.isNone),(58,.int .i64 z.1)]) (λz w'=>z.1≤2∧Step [] gn w'∧z.2.2=cmK (own c.cel fg) (Jp c.cel) z.1∧(z.2.2=none→z.2.1=Zg)∧∀u,z.2.2=some u→Qs 3 w.heap.size w' z.2.1 u∧u.length≤17000000) (λz=>2 - z.1) (by rfl) (0,Zg,none) ⟨Z,Z,Z,La⟩
  ⟨Ln _,Step.refl _ _,Z,λ_=>Z,λu h=>by cases h⟩ ?_
 rintro ⟨k,v,o⟩ g hN ⟨hk,hg,ho,hh,hy⟩;simp only[] at hk ho hh hy;have hO:=mo.trans hg;have h1:=gq.trans hg;refine Qc<|x (QA Z Z)<|xe<|Qg<|QC Z (λhP=>?_) (λhP=>?_)
 ·refine Qy ?_;have mq:k=2:=by have ms:¬(k:Int)<(2:Nat):=hP;omega
  rw[mq,QqD] at ho;refine Qc<|Qb<|Qb<|x Qe<|x Qe<|Qf ?_;exact Ql ⟨[v,.bool o.isNone,.int .i64 0],⟨Z,Z,Z,La⟩,hO,v,o.isNone,by rw[gb];rfl,λV=>absurd gb V,λ_=>by rw[←ho];exact ⟨Z,hh,hy⟩⟩
 have I:k<[(1:Int),2].length:=by have ms:(k:Int)<(2:Nat):=hP;simp;omega
 have gs:=k12 I;have hi:cmK (own c.cel fg) (Jp c.cel) (k+1)=cm1 (cmK (own c.cel fg) (Jp c.cel) k) (lgq (own c.cel fg) (Jp c.cel) ([(1:Int),2][k]'I)):=by
  unfold cmK;rw[Lj I,Mv];rfl
 refine Qi<|Qg<|Qh<|Qc<|xii (i:=k) (gr.ext hg) Z Z I λph gt=>?_;refine Zh ([(1:Int),2][k]'I) λkd mt=>?_;rw[mt] at gt gs hi;refine x (Qv gt Z)<|Qf ?_;have mu:=Qd8 (gm.ext h1) (mg.ext h1) kd
 have hEq':QG prog 41 [.agg #[oa,.int .i64 (own c.cel fg).st,om,oe],.agg #[sa,.int .i64 M,sm,se],.int .i64 kd] hN λr w'=>Step [] hN w'∧∃v e,r=.tuple #[v,.bool e,.int .i64 0]∧(match lgq (own c.cel fg) (Jp c.cel) kd with | none=>v=Zg∧e=true | some u=>e=false∧Qs 3 hN.heap.size w' v u):=by
  rw[kg];refine mu.mono ?_;rintro r w' ⟨a1,v,e,a2,a3⟩;have hz:=zR hA hG gs;rw[hz] at a2;exact ⟨a1,v,e,a2,a3 hz⟩
 refine Qc<|x (Qp (gl.ext h1) Z Z)<|x (Qp (mf.ext h1) Z Z)<|Qb<|xl Z<|xf<|hEq'.mono ?_;rintro pj hj ⟨hQ,v',e',rfl,hm⟩;have pn:=hO.trans hQ;have mv:=hO.size;refine Qb<|x (Qj Z Z)<|x (Qj Z Z)<|x (Qj Z Z)<|x Qe<|x Qe<|Qf<|Qg<|Qc<|Qb<|x (Q8 Z Z)<|xe<|Q3 rfl (λgu=>?_) (λgu=>?_)
 ·exact absurd Z gu
 refine Qi<|Zh (lgq (own c.cel fg) (Jp c.cel) kd) λq hq=>?_;rw[hq] at hm hi;have gv:∀u,q=some u→u.length≤17000000:=λu hu=>QlG hA hG (hq.trans hu);have gx:e'=q.isNone:=by
  cases q with
  | none=>exact hm.2
  | some u=>exact hm.1
 have gy:∀u,q=some u→Qs 3 w.heap.size hj v' u:=λu hu=>by
  subst hu;exact Zi hm.2 mv
 have h2:∀u,o=some u→Qs 3 w.heap.size hj v u∧u.length≤17000000:=λu hu=>⟨Qt (hy u hu).1 hQ,(hy u hu).2⟩;rw[←ho] at hi;refine QZ (α:=Bool) [(73,82)] (λz=>[(82,.bool z)]) (λz w'=>Step [] hj w'∧(z=true→∃u,q=some u∧cm1 o q=some u)∧(z=false→cm1 o q=o)) (by rfl) ?_ ?_
 ·refine Qx<|Qb<|xB (Zs Z) (λhR=>?_) (λhR=>?_)
  ·have mw:q.isNone=false:=by rw[←gx];simpa using hR
   obtain ⟨u,hu⟩:∃u,q=some u:=by cases q with | none=>cases mw | some u=>exact ⟨u,rfl⟩
   refine Qb<|xB Qm (λhS=>?_) (λhS=>?_)
   ·have hh:o=none:=by cases o with | none=>rfl | some u=>cases hS
    refine Qb<|xs Z<|xs Z<|xs Z<|x (Qo Z)<|x (Qo Z)<|xe ?_;exact ⟨true,Lb,Step.refl _ _,λ_=>⟨u,hu,by rw[hh,hu];rfl⟩,(λh=>by cases h)⟩
   obtain ⟨H,h3⟩:∃H,o=some H:=by cases o with | none=>cases hS | some u=>exact ⟨u,rfl⟩
   have mx:QL [] hj.heap v' u:=Qs.ints (gy u hu) (by have:=gv u hu;omega) (by simp);have my:QL [] hj.heap v H:=Qs.ints (h2 H h3).1 (by have:=(h2 H h3).2;omega) (by simp);refine Qb<|Qb<|Qb<|xl Z<|xf<|(QiM mx my).mono ?_;rintro po pp ⟨rfl,mz⟩;refine x (Qo Z)<|x (Qo Z)<|xe<|⟨less u H,Lb,mz,λhl=>⟨u,hu,?_⟩,λhl=>?_⟩
   ·rw[hu,h3];show (if less u H=true then some u else some H)=_;rw[if_pos hl]
   rw[hu,h3];show (if less u H=true then some u else some H)=_;rw[if_neg (by rw[hl];simp)]
  have m0:q=none:=by
   have gz:e'=true:=by simpa using hR
   rw[gx] at gz;cases q with | none=>rfl | some u=>cases gz
  refine Qb<|xs Z<|xs Z<|xs Z<|xs Z<|xs Z<|xs Z<|x (Qo Z)<|xe ?_;exact ⟨false,Lb,Step.refl _ _,(λh=>by cases h),λ_=>by rw[m0];rfl⟩
 rintro zb g pt ⟨hU,m1,m2⟩;have g0:=hQ.trans hU;refine QW rfl (λhV=>?_) (λhV=>?_)
 ·obtain ⟨u,hu,hW⟩:=m1 hV;refine Qx<|Qb<|x Qe<|Qf<|Qx<|QQ Z Z<|Qb<|xe ?_;exact ⟨(k+1,v',some u),by simp only[];simp at I;omega,⟨Z,Z,Z,La⟩,by simp at I;omega,hg.trans g0,by simp only[];rw[hi,hW],(λh=>by cases h),λu' h'=>by
   have:u=u':=Option.some.inj h';subst this;exact ⟨Qt (gy u hu) hU,gv u hu⟩⟩
 have hW:=m2 hV;refine Qi<|Qx<|QQ Z Z<|Qb<|xe ?_;exact ⟨(k+1,v,o),by simp only[];simp at I;omega,⟨Z,Z,Z,La⟩,by simp at I;omega,hg.trans g0,by simp only[];rw[hi,hW],hh,λu' h'=>⟨Qt (h2 u' h').1 hU,(h2 u' h').2⟩⟩
theorem QeK {L:LN}{w:World}{c:CL}(E:ZS L w.heap c) (H:Kb w 4096) :
  QG prog 11 [c.val,.bool false] w λr w'=>Step [] w w'∧∃v e,r=.tuple #[v,.bool e,.int .i64 (cmE c.cel false)]∧(cmE c.cel false=0→e=(cmW (ZT c.cel) (Jp c.cel)).isNone) :=
 (Vn false E H).mono λ_ _ ⟨h1,v,e,h2,_,h3⟩=>⟨h1,v,e,h2,λh=>(h3 h).1⟩
theorem Xm:∀{es:List Ed},(es.Pairwise λx y=>x.1<y.1∨(x.1=y.1∧x.2.1<y.2.1))→∀{s v t:Int},(s,v,t)∈es→eget es s v=some t
 | [],_,_,_,_,h=>by cases h
 | e::es,hp,s,v,t,h=>by
  obtain ⟨h1,h2⟩:=L3.1 hp;rw[eget];rcases Lh.1 h with h | h
  ·subst h;rw[if_pos ⟨rfl,rfl⟩]
  have h3:=h1 _ h;rw[if_neg (λh4=>by have a1:e.1=s:=h4.1;have a2:e.2.1=v:=h4.2;simp only[] at h3;omega)];exact Xm h2 h
abbrev QgU (a:QD):Cs:=YY a a.st.toNat 0 (ZO a)
theorem cn0 {a:QD}(J:0<a.st):CnG a 0 (ZO a):=by
 have E:0<a.st.toNat:=by omega
 refine ⟨⟨by simp[ZO],λs hs=>by simp[ZO] at hs;subst hs;omega,by simp[ZO],λk U k1=>?_⟩,Ln _,⟨by simp[ZO,Zn],by simp[ZO]⟩,by simp[ZO],by simp[ZO],λj hj=>by omega⟩;by_cases ek:k=0
 ·subst ek;rw[if_pos (by simp[ZO])];unfold Zn ZO;simp[List.getD,E]
 rw[if_neg (by simpa[ZO] using ek)];unfold ZO;have H:0≠k.toNat:=by omega
 have I:k.toNat<a.st.toNat:=by omega
 unfold Zn;rw[LA,MN H];simp[I]
theorem Qos {a:QD}(H:QM a) (I:0<a.st):CnP a (QgU a).ord∧ZJ a=⟨a.al,((QgU a).ord.length:Int),(QgU a).mk',(QgU a).ed⟩∧(QgU a).ord.length≤a.st.toNat:=by
 obtain ⟨J,h1,h2⟩:=ql H a.st.toNat 0 (ZO a) (cn0 I);have U:(YY a a.st.toNat 0 (ZO a)).ord.length≤a.st.toNat:=pig _ _ h1.nu.nd (λx hx=>by have:=h1.nu.bd x hx;omega);have V:J=(YY a a.st.toNat 0 (ZO a)).ord.length:=by have:=h1.le;omega
 subst V;have E:ZJ a=⟨a.al,((YY a a.st.toNat 0 (ZO a)).ord.length:Int),(YY a a.st.toNat 0 (ZO a)).mk',(YY a a.st.toNat 0 (ZO a)).ed⟩:=by unfold ZJ;rw[if_neg (by omega)]
 refine ⟨⟨h1.nu.nd,h1.nu.bd,h1.hd,by rw[E],by rw[E],?_,?_,h1.cl⟩,E,U⟩
 ·rw[E];exact h1.mk2
 rw[E];exact h1.ed
theorem Qm2 {a:QD}{ul:LI}:∀(f:Nat) (lf:Lf),Vc lf<f→(nxs a ul (KD a ul f lf)).length=0
 | 0,_,h=>by omega
 | f+1,lf,h=>by
  by_cases h1:(nxs a ul lf).length=0
  ·rw[KD,if_pos h1];exact h1
  rw[U2 h1];have:=zJ h1;exact Qm2 f _ (by omega)
theorem Qh2 (a:QD) (fb ul:LI):(nxs a ul (YG a fb ul)).length=0:=by
 refine Qm2 _ _ ?_;have h:=Qbp (lf0 a.st.toNat fb);have:(lf0 a.st.toNat fb).length=a.st.toNat:=by unfold lf0;rw[UJ,Ng]
 omega
theorem QlI {l:Lf}{x s:Int}(h:lft (cut l x) s=true):lft l s=true∧x.toNat≠s.toNat:=by
 unfold lft cut at *;rw[LA,List.getElem?_set] at h;by_cases e:x.toNat=s.toNat
 ·rw[if_pos e] at h;split at h <;> simp at h
 rw[if_neg e,←LA] at h;exact ⟨h,e⟩
theorem zT {s:Int}:∀(xs:LI) (l:Lf),lft (xs.foldl cut l) s=true→lft l s=true∧∀x∈xs,x.toNat≠s.toNat
 | [],l,h=>⟨h,λx hx=>(by cases hx)⟩
 | x::xs,l,h=>by
  obtain ⟨h1,h2⟩:=zT xs (cut l x) h;obtain ⟨h3,h4⟩:=QlI h1;refine ⟨h3,λy hy=>?_⟩;rcases Lh.1 hy with e | hy
  ·rw[e];exact h4
  exact h2 y hy
theorem QfA {a:QD}{ul:LI}{s:Int}:∀(f:Nat) (l:Lf),lft (KD a ul f l) s=true→lft l s=true
 | 0,l,h=>h
 | f+1,l,h=>by
  rw[KD] at h;split at h
  ·exact h
  exact (zT _ _ (QfA f _ h)).1
theorem QiY {a:QD}{fb ul:LI}{s:Int}(h:lft (YG a fb ul) s=true):∀x∈fb,x.toNat≠s.toNat:=(zT fb _ (QfA _ _ h)).2
theorem QlD {ul:LI}{lf:Lf}{e:Ed}{out:List (Int×Int)}(h:out≠[]):Jf ul lf out e≠[]:=by
 unfold Jf;split
 ·exact h
 split
 ·exact h
 simp
theorem Qcr {ul:LI}{lf:Lf}:∀(l:List Ed) {out:List (Int×Int)},out≠[]→l.foldl (Jf ul lf) out≠[]
 | [],_,h=>h
 | _::l,_,h=>Qcr l (QlD h)
theorem Qcs {ul:LI}{lf:Lf}{e:Ed}(h1:lft lf e.1=true) (h2:lft lf e.2.2=false) (h3:e.2.1∈ul):∀(l:List Ed) (out:List (Int×Int)),e∈l→l.foldl (Jf ul lf) out≠[]
 | x::l,out,h=>by
  rcases Lh.1 h with e1 | h
  ·subst e1;refine Qcr l ?_;unfold Jf;rw[if_neg (by rw[h1,h2];simp[h3])];split
   ·rename_i h4;intro h5;rw[h5] at h4;cases h4
   simp
  exact Qcs h1 h2 h3 l _ h
theorem QfC {a:QD}{fb ul:LI}{e:Ed}(he:e∈a.ed) (h1:lft (YG a fb ul) e.1=true) (h3:e.2.1∈ul):lft (YG a fb ul) e.2.2=true:=by
 have E:=Qh2 a fb ul;cases h2:lft (YG a fb ul) e.2.2 with
 | true=>rfl
 | false =>
  have h4:lost a ul (YG a fb ul)≠[]:=Qcs h1 h2 h3 a.ed [] he;have h5:(lost a ul (YG a fb ul)).length≠0:=λh=>h4 (Lt h);unfold nxs at E;rw[if_pos h5,Li] at E;exact absurd E h5
def pst (v:Int) (a:QD) (x:Int):Option Int:=if v∈a.al then eget a.ed x v else some x
theorem Xw (v:Int) (a:QD) (aa:List QD) (x:Int) (t:LI):Q5 v (a::aa) (x::t)=(pst v a x).bind λy=>(Q5 v aa t).map (y::·):=by
 rw[Q5];unfold pst;by_cases h:v∈a.al
 ·rw[if_neg (not_not_intro h),if_pos h];cases eget a.ed x v <;> rfl
 rw[if_pos h,if_neg h];rfl
theorem YC (v:Int):∀(aa:List QD) (t u:LI),t.length=aa.length→(Q5 v aa t=some u↔u.length=aa.length∧∀i (h:i<aa.length),pst v (aa[i]'h) (cget t i)=some (cget u i))
 | [],[],u,_=>by
  show some []=some u↔_;constructor
  ·intro h;rw[←Option.some.inj h];exact ⟨Z,λi h=>absurd h (Me i)⟩
  rintro ⟨h,_⟩;rw[Lt h]
 | a::aa,x::t,u,hl=>by
  have H:t.length=aa.length:=by simpa using hl
  rw[Xw];constructor
  ·intro h;obtain ⟨y,h1,h2⟩:=L6.1 h;obtain ⟨E,h3,h4⟩:=LP.1 h2;subst h4;obtain ⟨h5,h6⟩:=(YC v aa t E H).1 h3;refine ⟨by simp[h5],λi hi=>?_⟩;cases i with
   | zero=>exact h1
   | succ i=>exact h6 i (by simpa using hi)
  rintro ⟨h1,h2⟩;cases u with
  | nil=>simp at h1
  | cons y E =>
   have h3:=h2 0 (by simp);have h4:Q5 v aa t=some E:=(YC v aa t E H).2 ⟨by simpa using h1,λi hi=>h2 (i+1) (by simpa using hi)⟩;have h5:pst v a x=some y:=h3;rw[h5,h4];rfl
theorem VR {v:Int}:∀{aa:List QD}{t:LI},t.length=aa.length→(∀i (h:i<aa.length),(pst v (aa[i]'h) (cget t i)).isSome=true)→∃u,Q5 v aa t=some u
 | [],[],_,_=>⟨[],Z⟩
 | a::aa,x::t,hl,h=>by
  obtain ⟨u,hu⟩:=VR (v:=v) (aa:=aa) (t:=t) (by simpa using hl) (λi hi=>h (i+1) (by simpa using hi));obtain ⟨y,hy⟩:=Mh.1 (h 0 (by simp));have E:pst v a x=some y:=hy;exact ⟨y::u,by rw[Xw,E,hu];rfl⟩
def nx (v:Int) (A:Nat→QD) (x:Nat→Int) (i:Nat):Int:=(pst v (A i) (x i)).getD 0
theorem Qa0 {v:Int}{A:Nat→QD}{x:Nat→Int}{i:Nat}(h:(pst v (A i) (x i)).isSome=true):pst v (A i) (x i)=some (nx v A x i):=by
 obtain ⟨y,hy⟩:=Mh.1 h;unfold nx;rw[hy];rfl
theorem UM {α:Type}{l:List α}{f:α→Int}{i:Nat}(h:i<l.length):cget (l.map f) i=f (l[i]'h):=by
 unfold cget;simp[List.getD,h]
theorem J0 {v:Int}{A:Nat→QD}{x:Nat→Int}{is:LN}{u:LI}(h:Q5 v (is.map A) (is.map x)=some u):u=is.map (nx v A x)∧∀i∈is,(pst v (A i) (x i)).isSome=true:=by
 obtain ⟨h1,h2⟩:=(YC v _ _ u (by simp)).1 h;rw[Li] at h1;have h3:∀k (hk:k<is.length),pst v (A (is[k]'hk)) (x (is[k]'hk))=some (cget u k):=λk hk=>by
  have h4:=h2 k (by simpa using hk);rw[UM hk,LJ] at h4;exact h4
 have h5:∀i∈is,(pst v (A i) (x i)).isSome=true:=λi hi=>by
  obtain ⟨k,hk,e⟩:=LB hi;rw[←e,h3 k hk];rfl
 refine ⟨LX (by simp[h1]) λk k1 k2=>?_,h5⟩;have hk:k<is.length:=by omega
 have h6:=h3 k hk;rw[Qa0 (h5 _ (Le hk))] at h6;rw[LJ,Q9 k1];exact (Option.some.inj h6).symm
theorem Y8 {v:Int}{A:Nat→QD}{x:Nat→Int}{is:LN}(h:∀i∈is,(pst v (A i) (x i)).isSome=true):Q5 v (is.map A) (is.map x)=some (is.map (nx v A x)):=by
 refine (YC v _ _ _ (by simp)).2 ⟨by simp,λk hk=>?_⟩;have E:k<is.length:=by simpa using hk
 rw[UM E,UM E,LJ];exact Qa0 (h _ (Le E))
theorem VS {v:Int}{aa:List QD}{t:LI}(hl:t.length=aa.length) (E:∀a∈aa,v∉a.al):Q5 v aa t=some t:=by
 refine (YC v _ _ _ hl).2 ⟨hl,λk hk=>?_⟩;unfold pst;rw[if_neg (E _ (Le hk))]
theorem QnG {v:Int}{a:QD}(E:QM a) {x y:Int}(H:0≤x∧x<a.st) (h:pst v a x=some y):0≤y∧y<a.st:=by
 unfold pst at h;split at h
 ·exact (E.ed _ (ZV h)).2.2.2
 rw[←Option.some.inj h];exact H
theorem ZM {l:List (LI)}{s:Nat}(h:s<l.length):l.getD s []=l[s]'h∧l.getD s []∈l:=by
 have e:l.getD s []=l[s]'h:=by simp[List.getD,h]
 exact ⟨e,by rw[e];exact Le h⟩
theorem jG {α:Type}{l:List α}(E:l.Nodup) {i j:Nat}(hi:i<l.length) (hj:j<l.length) (e:l[i]'hi=l[j]'hj):i=j:=by
 have h:=M0.1 E;rcases Nat.lt_trichotomy i j with h1 | h1 | h1
 ·exact absurd e (h i j hi hj h1)
 ·exact h1
 exact absurd e.symm (h j i hj hi h1)
def sord (B:QD) (lf:Lf):LI:=(QgU (rstr B lf)).ord
def X1 (B:QD) (Q:List (LI)) (lf:Lf) (q:LI) (y:Int):Prop :=
 ∃j s:Nat,y=(j:Int)∧j<(sord B lf).length∧Zn (sord B lf) j=(s:Int)∧s<Q.length∧lft lf s=true∧Q.getD s []=q
theorem YJ {B:QD}(E:QM B) (hp:0<B.st) (lf:Lf):CnP (rstr B lf) (sord B lf):=(Qos (Xx E lf) hp).1
theorem X1.uniq {aa:List QD}{B:QD}{Q:List (LI)}{lf:Lf}(hS:ze aa B Q) (J:QM B) (hp:0<B.st) {q:LI}{y E:Int}(h:X1 B Q lf q y) (h':X1 B Q lf q E):y=E:=by
 obtain ⟨j,s,e0,h1,h2,h3,_,h4⟩:=h;obtain ⟨U,V,Y,H,ha,I,_,hb⟩:=h';have es:s=V:=jG hS.nd h3 I (by rw[←(ZM h3).1,←(ZM I).1,h4,hb]);subst es;have ej:j=U:=jG (YJ J hp lf).nd h1 H (by
  rw[Q9 h1,Q9 H];exact h2.trans ha.symm)
 rw[e0,Y,ej]
theorem X1.step {aa:List QD}{B:QD}{Q:List (LI)}{lf:Lf}(ha:∀a∈aa,QM a) (hS:ze aa B Q) (I:QM B) (hp:0<B.st) {q:LI}{y J v:Int}(h:X1 B Q lf q y) (H:pst v (ZJ (rstr B lf)) y=some J) :
  ∃E,Q5 v aa q=some E∧X1 B Q lf E J:=by
 obtain ⟨j,s,e0,h1,h2,h3,h4,h5⟩:=h;have hC:=YJ I hp lf;have U:(ZJ (rstr B lf)).al=evs aa:=hC.al.trans hS.al;unfold pst at H;by_cases hm:v∈(ZJ (rstr B lf)).al
 ·have V:v∈evs aa:=by rw[←U];exact hm
  rw[if_pos hm,e0,hC.step h1 v,h2] at H;obtain ⟨u,hu,e1⟩:=LP.1 H;have Y:=ZV hu;obtain ⟨hf,hg⟩:=LL.1 (show ((s:Int),v,u)∈B.ed.filter λe=>lft lf e.2.2 from Y);have hb:=hS.step h3 v;rw[Xm I.edi hf,if_pos V,h5] at hb;obtain ⟨E,hq,e2⟩:=LP.1 hb.symm;have hc:=hS.to h3 V (u:=E) (by rw[h5];exact hq)
  have hh:u∈sord B lf:=hC.cl j h1 ((s:Int),v,u) (by
   rw[h2];unfold ZE;exact LL.2 ⟨Y,decide_eq_true Z⟩)
  have he:=LU hh;refine ⟨E,hq,(sord B lf).idxOf u,Q.idxOf E,e1.symm,he,?_,hc.1,by rw[e2];exact hg,hc.2⟩;rw[e2];show cget (sord B lf) ((sord B lf).idxOf u)=u;rw[←Q9 he,M4]
 rw[if_neg hm] at H;have hq:q∈Q:=by rw[←h5];exact (ZM h3).2
 exact ⟨q,VS (hS.v q hq).1 (λa hi hj=>hm (by rw[U];exact (ZC ha v).2 ⟨a,hi,hj⟩)),j,s,by rw[←e0];exact (Option.some.inj H).symm,h1,h2,h3,h4,h5⟩
theorem X1.init {aa:List QD}{B:QD}{Q:List (LI)}{lf:Lf}(hS:ze aa B Q) (H:QM B) (hp:0<B.st) (I:lft lf 0=true):X1 B Q lf (List.replicate aa.length 0) 0:=by
 have hC:=YJ H hp lf;have E:0<Q.length:=by have:=hS.st;omega
 exact ⟨0,0,Z,hC.hd.2,hC.hd.1,E,I,hS.hd E⟩
theorem X1.unc {aa:List QD}{B:QD}{Q:List (LI)}{fb ul:LI}(hS:ze aa B Q) (H:QM B) (hp:0<B.st) {q E:LI}{y v:Int}(h:X1 B Q (YG B fb ul) q y) (J:v∈evs aa) (U:v∈ul) (hq:Q5 v aa q=some E) :
  (eget (ZJ (rstr B (YG B fb ul))).ed y v).isSome=true:=by
 obtain ⟨j,s,e0,h1,h2,h3,h4,h5⟩:=h;have hC:=YJ H hp (YG B fb ul);have I:=hS.step h3 v;rw[if_pos J,h5,hq] at I;have he:=ZV (show eget B.ed (s:Int) v=some (Q.idxOf E:Int) from I);have hl:=QfC (fb:=fb) he h4 U;have V:((s:Int),v,(Q.idxOf E:Int))∈(rstr B (YG B fb ul)).ed:=LL.2 ⟨he,hl⟩;rw[e0,hC.step h1 v,h2,Xm (Xx H _).edi V];rfl
theorem KN {B:QD}{fb ul:LI}(h:(X8 B fb ul).st≠0):B.st≠0∧lft (YG B fb ul) 0=true∧X8 B fb ul=ZJ (rstr B (YG B fb ul)):=by
 unfold X8 Ja at *;split at h
 ·exact absurd Z h
 rename_i hc;rw[if_neg hc];refine ⟨λe=>hc (.inl e),?_,Z⟩;cases hl:lft (YG B fb ul) 0 with
 | true=>rfl
 | false=>exact absurd (.inr hl) hc
theorem QkO {P:LI→Prop}{aa:List QD}{i:Nat}{t:LI}{v:Int}{z H:Sy}(h:syE aa i t z v=some H) (E:∀t∈z.tup,P t) (I:∀u,Q5 v aa t=some u→P u):∀t∈H.tup,P t:=by
 unfold syE at h;cases hs:Q5 v aa t with
 | none=>rw[hs] at h;rw[←Option.some.inj h];exact E
 | some u =>
  rw[hs] at h;simp only[] at h;split at h
  ·rw[←Option.some.inj h];exact E
  split at h
  ·cases h
  rw[←Option.some.inj h];intro t ht;rcases Lp.1 ht with ht | ht
  ·exact E t ht
  rw[Lc.1 ht];exact I u hs
theorem QbW {P:LI→Prop}{aa:List QD}{i:Nat}{t:LI}:∀(vs:LI) (z E:Sy),KP aa i t vs z=some E→(∀t∈z.tup,P t)→(∀v∈vs,∀u,Q5 v aa t=some u→P u)→∀t∈E.tup,P t
 | [],z,E,h,H,_=>by rw[←Option.some.inj (show some z=some E from h)];exact H
 | v::vs,z,E,h,H,I=>by
  rw[KP] at h;obtain ⟨J,h1,h2⟩:=L6.1 h;exact QbW vs J E h2 (QkO h1 H (I v Lm)) (λw U=>I w (Lk _ U))
theorem QeU {P:LI→Prop}{aa:List QD}(I:∀t,P t→∀v∈evs aa,∀u,Q5 v aa t=some u→P u):∀(f i:Nat) (z E:Sy),syL aa f i z=some E→(∀t∈z.tup,P t)→∀t∈E.tup,P t
 | 0,_,z,E,h,H=>by rw[←Option.some.inj (show some z=some E from h)];exact H
 | f+1,i,z,E,h,H=>by
  rw[syL] at h;split at h
  ·rename_i hi;obtain ⟨J,h1,h2⟩:=L6.1 h;have U:(ZB aa i (UT z i) z).tup=z.tup:=by unfold ZB;split <;> rfl
   have hp:P (UT z i):=H _ (ZM hi).2;exact QeU I f (i+1) J E h2 (QbW _ _ _ h1 (by rw[U];exact H) (I _ hp))
  rw[←Option.some.inj h];exact H
theorem QbR {P:LI→Prop}{aa:List QD}{z:QD×List (LI)}(h:sync aa=some z) (E:P (List.replicate aa.length 0)) (H:∀t,P t→∀v∈evs aa,∀u,Q5 v aa t=some u→P u):∀t∈z.2,P t:=by
 unfold sync at h;split at h
 ·rw[←Option.some.inj h];intro t ht;cases ht
 obtain ⟨s,h1,h2⟩:=LP.1 h;rw[←h2];exact QeU H _ _ _ _ h1 (λt ht=>by rw[Lc.1 ht];exact E)
end Go.Proofs.YtjcgijbhaemldaaGreatDoor
namespace Go.Lg
section
variable {P:Program} {f:Fr} {w:World} {d:Option Nat} {ty:Nat} {ps:String} {af:Array Edge} {gd:Option (Nat×Bool)}
abbrev i2 (p:Int×Int):LV:=[.int .i64 p.1,.int .i64 p.2]
abbrev i5 (a:ByteArray) (b c e:Bool) (i:Int):LV:=[.string a,.bool b,.bool c,.bool e,.int .i64 i]
end
end Go.Lg
namespace Go.Proofs.YtjcgijbhaemldaaGreatDoor
open Go.Lg
open Go.Sort
end Go.Proofs.YtjcgijbhaemldaaGreatDoor
namespace Go.Lg
section
variable {P:Program} {f:Fr} {w:World} {d:Option Nat} {ty:Nat} {ps:String} {af:Array Edge} {gd:Option (Nat×Bool)}
theorem QdM {t E e bys:Nat}{z:Value}[h:Sl P t e 1 bys z] [he:Ik P e .u8] [hd:St P E] {x:Operand}{b T n cap:Nat}(H:QT w.heap b T [.int .u8 (n:Int)]) (J:n<256) (hx:ev f x=.slice (some ⟨b,0,none⟩) 1 cap) :
  (execOp (ev f) ⟨d,.convert t E x,ty,ps,af,gd⟩).run P w=.ok (.value (.string ⟨#[UInt8.ofNat n]⟩)) w:=by
 refine QaQ hx ?_;refine run_convert_bytes_back (P:=P) w t E e ⟨b,0,none⟩ cap [UInt8.ofNat n] h.u he.u hd.u (λj hj=>?_);have I:j=0:=by simp at hj;omega
 subst I;rw[Jm];have h1:(⟨b,0,none⟩:Addr).add 0=⟨b,0,none⟩:=rfl;rw[h1,H.cell];have h2:(UInt8.ofNat n).toNat=n:=by simp[UInt8.toNat_ofNat'];omega
 simp[h2]
end
end Go.Lg
namespace Go.Proofs.YtjcgijbhaemldaaGreatDoor
open Go.Lg
theorem K4 {N b:Nat}{w w':World}{v:Value}{l:List IV}(h:∀L:LN,(∀c∈L,c<N)→Xr L w.heap v l) (hb:b<N) (hs:Step [b] w w'):∀L:LN,(∀c∈L,c<N)→Xr L w'.heap v l:=λL E =>
 ((h (b::L) (λc hc=>(Lh.1 hc).elim (λe=>by omega) (E c))).st (hs.mono (by simp))).up (λc hc=>.inl (Lk _ hc))
theorem UD {N b:Nat}{w w':World}{v:Value}{l:List VD}(h:∀L:LN,(∀c∈L,c<N)→KI L w.heap v l) (hb:b<N) (hs:Step [b] w w'):∀L:LN,(∀c∈L,c<N)→KI L w'.heap v l:=λL E =>
 ((h (b::L) (λc hc=>(Lh.1 hc).elim (λe=>by omega) (E c))).st (hs.mono (by simp))).up (λc hc=>.inl (Lk _ hc))
theorem QkJ {N b:Nat}{w w':World}{v:Value}{l:List XV}(h:∀L:LN,(∀c∈L,c<N)→zc L w.heap v l) (hb:b<N) (hs:Step [b] w w'):∀L:LN,(∀c∈L,c<N)→zc L w'.heap v l:=λL E =>
 ((h (b::L) (λc hc=>(Lh.1 hc).elim (λe=>by omega) (E c))).st (hs.mono (by simp))).up (λc hc=>.inl (Lk _ hc))
theorem QjC (e:VD):∀u∈Zt e,u.oneCell'=true:=by
 intro y hy;simp only[Zt,List.mem_cons,List.not_mem_nil,or_false] at hy;rcases hy with rfl | rfl | rfl | rfl | rfl <;> rfl
theorem QfI {q:IV}(h1:q.p.va.oneCell'=true) (h2:q.p.vm.oneCell'=true) (h3:q.p.ve.oneCell'=true):∀u∈Zm q,u.oneCell'=true:=by
 intro y hy;simp only[Zm,List.mem_cons,List.not_mem_nil,or_false] at hy;rcases hy with rfl | rfl | rfl | rfl | rfl
 ·rfl
 ·exact h1
 ·rfl
 ·exact h2
 exact h3
theorem QcB {base N:Nat}{av:LN}{H:Array Obj}{q:IV}(h:∀L:LN,(∀b∈L,b<N)→Zq L H q.p.va q.p.vm q.p.ve q.p.a) (hb:base≤N) (I:∀b∈av,b<N):∀t∈QlV q,Z7 base av H t.1 t.2.1 t.2.2.1 t.2.2.2:=by
 intro t ht;simp only[List.mem_cons,List.not_mem_nil,or_false] at ht;rcases ht with rfl | rfl | rfl
 ·exact Z7.of_lt (λL E=>(h L E).al) hb I
 ·exact Z7.of_lt (λL E=>(h L E).mr) hb I
 exact Z7.of_lt (λL E=>(h L E).ed) hb I
theorem ZA.full {L:LN}{H:Array Obj}{v:Value}{n sz:Nat}{cs:LV}(h:ZA L H v n sz cs) (E:0<n):∃a cap,v=.slice (some a) n cap∧At L H a cs:=by
 rcases h.2.2 with ⟨_,h2⟩ | ⟨a,cap,h1,_,h3⟩
 ·omega
 exact ⟨a,cap,h1,h3⟩
structure y7 (base:Nat) (w:World) (vc va:Value) (co:List IV) (al:LI):Prop where
 c:w.ownsRow base 92 5 vc co.length (co.flatMap Zm)
 a:Qs 3 base w va al
 dj:Dj vc va
 each:∀q∈co,∀t∈QlV q,Z7 base (ob vc++ob va) w.heap t.1 t.2.1 t.2.2.1 t.2.2.2
section
variable {base:Nat} {w w':World} {vc va vc' va':Value} {co:List IV} {al:LI}
theorem y7.nil:y7 base w (nS) (nS) [] []:=⟨QP _ _ _ _,QP _ _ _ _,Dj.nil _,λq hq=>by cases hq⟩
theorem y7.ext (h:y7 base w vc va co al) (hs:Step [] w w'):y7 base w' vc va co al:=⟨Qt h.c hs,Qt h.a hs,h.dj,λq hq t ht=>(h.each q hq t ht).ext hs⟩
theorem y7.low {X:LN}(h:y7 base w vc va co al) (hs:Step X w w') (E:∀b∈X,b<base):y7 base w' vc va co al :=
 ⟨Qk h.c hs (λb hb hm=>by have:=(Qq h.c b hb).1;have:=E b hm;omega),Qk h.a hs (λb hb hm=>by have:=(Qq h.a b hb).1;have:=E b hm;omega),h.dj,λq hq t ht=>(h.each q hq t ht).low hs E⟩
theorem y7.avlt (h:y7 base w vc va co al):∀b∈ob vc++ob va,b<w.heap.size:=λb hb=>(Lp.1 hb).elim (Q2 h.c b) (Q2 h.a b)
theorem y7.setC {q:IV}(h:y7 base w vc va co al) (hq:∀t∈QlV q,Z7 base (ob vc++ob va) w.heap t.1 t.2.1 t.2.2.1 t.2.2.2) (U:w'.ownsRow base 92 5 vc' (co.length+1) (co.flatMap Zm++Zm q))
  (hs:Step (ob vc) w w') (E:∀b∈ob vc',b∈ob vc∨w.heap.size≤b):y7 base w' vc' va (co++[q]) al:=by
 have H:Step (ob vc++ob va) w w':=hs.mono (λb hb=>Lp.2 (.inl hb));have I:∀b∈ob vc'++ob va,b∈ob vc++ob va∨w.heap.size≤b:=λb hb=>by
  rcases Lp.1 hb with hb | hb
  ·exact (E b hb).imp (λh=>Lp.2 (.inl h)) id
  exact .inl (Lp.2 (.inr hb))
 refine ⟨?_,Qk h.a hs (λb hb V=>h.dj b V hb),λb hb J=>?_,λd hd t ht=>?_⟩
 ·rw[Ll,LH];simpa using U
 ·rcases E b hb with h1 | h1
  ·exact h.dj b h1 J
  have:=Q2 h.a b J;omega
 rcases Lp.1 hd with hd | hd
 ·exact (h.each d hd t ht).app H I
 simp only[List.mem_singleton] at hd;subst hd;exact (hq t ht).app H I
theorem y7.setA {H:LI}(h:y7 base w vc va co al) (J:Qs 3 base w' va' H) (hs:Step (ob va) w w') (I:∀b∈ob va',b∈ob va∨w.heap.size≤b):y7 base w' vc va' co H:=by
 have U:Step (ob vc++ob va) w w':=hs.mono (λb hb=>Lp.2 (.inr hb));have V:∀b∈ob vc++ob va',b∈ob vc++ob va∨w.heap.size≤b:=λb hb=>by
  rcases Lp.1 hb with hb | hb
  ·exact .inl (Lp.2 (.inl hb))
  exact (I b hb).imp (λh=>Lp.2 (.inr h)) id
 refine ⟨Qk h.c hs (λb hb E=>h.dj b hb E),J,λb hb E=>?_,λd hd t ht=>(h.each d hd t ht).app U V⟩;rcases I b E with h1 | h1
 ·exact h.dj b hb h1
 have:=Q2 h.c b hb;omega
theorem y7.itms {L:LN}(h:y7 base w vc va co al) (H:co.length≤1099511627776) (hm:∀q∈co,yW q.nm) (E:∀b∈L,b<base):Xr L w.heap vc co :=
 ⟨QX h.c H (λb hb I=>by have:=(Qq h.c b hb).1;have:=E b I;omega),λq hq=>⟨h.each q hq (q.p.va,q.p.a.al.length,1,q.p.a.al.map (.int .i64)) (by simp) L (λb hb=>.inl (E b hb)),h.each q hq (q.p.vm,q.p.a.mr.length,1,q.p.a.mr.map (.int .i64)) (by simp) L (λb hb=>.inl (E b hb)),h.each q hq (q.p.ve,q.p.a.ed.length,3,q.p.a.ed.flatMap QB) (by simp) L (λb hb=>.inl (E b hb))⟩,hm⟩
end
abbrev PtV:={r:LN // r.length=28∧∀n∈r,n<256}
abbrev YE (r:PtV):LV:=bys r.1
theorem QaS (r:PtV):(YE r).length=28:=by show (bys r.1).length=28;unfold bys;rw[Li,r.2.1]
structure LnV where
 ns:LN
 ct:Nat
 vr:Value
 rs:List PtV
 x0:Nat
 x1:Nat
 cl:Nat
abbrev Xl (l:LnV):LV:=bys l.ns++[.int .u8 (l.ct:Int),l.vr,.int .u8 (l.x0:Int),.int .u8 (l.x1:Int),.int .u8 (l.cl:Int)]
structure LnA (L:LN) (H:Array Obj) (l:LnV):Prop where
 n:l.ns.length=81
 b:∀n∈l.ns,n<256
 ct:l.ct<256
 x0:l.x0<256
 x1:l.x1<256
 cl:l.cl<256
 r:ZA L H l.vr l.rs.length 28 (l.rs.flatMap YE)
theorem YS (ns:LN):(bys ns).length=ns.length:=by rw[bys,Li]
theorem QiQ {l:LnV}(h:l.ns.length=81):(Xl l).length=86:=by rw[Xl,Ll,YS,h];rfl
theorem Qct {l:LnV}(h:l.ns.length=81) (j:Nat):(Xl l)[81+j]?=([.int .u8 (l.ct:Int),l.vr,.int .u8 (l.x0:Int),.int .u8 (l.x1:Int),.int .u8 (l.cl:Int)]:LV)[j]?:=by
 rw[Xl,Mw (by rw[YS];omega),YS,h,Ns]
def grN (ns:LN) (o:Nat):LN:=(ns.drop o).take 27
theorem Qob {ns:LN}{o:Nat}(h:o+27≤ns.length):(grN ns o).length=27:=by unfold grN;simp;omega
theorem QpF {ns:LN}{o:Nat}(h:∀n∈ns,n<256):∀n∈grN ns o,n<256:=QmA h o 27
theorem Qpz {l:LnV}{o:Nat}(j:Nat) (u:Value) (h:(bys (grN l.ns o))[j]?=some u):(Xl l)[o+j]?=some u:=by
 have h1:=Qmz (ns:=l.ns) (o:=o) (n:=27) j u h;have h2:=(Ma.1 h1).1;rw[Xl,L9 h2];exact h1
theorem Qde (ns:LN) (n:Nat):(bys ns).set 0 (.int .u8 (n:Int))=bys (ns.set 0 n):=by
 unfold bys;rw[Nu]
theorem Qe2 {ns:LN}{n:Nat}(h:∀m∈ns,m<256) (E:n<256):∀m∈ns.set 0 n,m<256:=λm hm=>by
 rcases Nh hm with h1 | rfl
 ·exact h m h1
 exact E
theorem Qb6 {ns:LN}{n:Nat}(h:0<ns.length):(ns.set 0 n).getD 0 0=n:=by simp[List.getD,h]
structure jl (a:QD):Prop where
 ok:QM a
 p:0<a.st
 s:a.st≤3
 c:∃a0:QD,QM a0∧0<a0.st∧a=YX a0
theorem Qda {a:QD}(E:QM a) (h:0<a.st):0<(YX a).st:=by
 have I:=(Uy E).1;show 0<((found a).length:Int);have H:(0:Int)∈found a:=by
  have key:∀(f i:Nat) (out:LI),(0:Int)∈out→(0:Int)∈jZ a f i out:=by
   intro f;induction f with
   | zero=>intro i out h;exact h
   | succ f ih =>
    intro i out h;rw[jZ];split
    ·exact ih _ _ (Qbi _ _ _ h)
    exact h
  refine key _ _ _ ?_;unfold fd0;rw[if_pos h];simp
 have:=List.length_pos_of_mem H;omega
theorem jl.of {a E:QD}{n:Nat}(H:QM E) (h1:0<E.st) (h2:E.st≤((1+n % 5:Nat):Int)) (h3:a=YX E) (I:n<3):jl a:=by
 have h4:=Qbu H;subst h3;exact ⟨h4.1,Qda H h1,by have:=h4.2.2;omega,E,H,h1,Z⟩
def QoW (N:Nat) (al:LI) (w:World) (p:AV):Prop:=(∀L:LN,(∀b∈L,b<N)→Zq L w.heap p.va p.vm p.ve p.a)∧jl p.a∧p.a.al=al
def Qkf (p:AV):Value:=.agg #[p.va,.int .i64 p.a.st,p.vm,p.ve]
def mkP (N:Nat) (c:Nat) (nm:ByteArray) (al:LI) (i:Nat) (v:Value) (w:World):Prop :=
 if i=5 then ∃b,v=.slice (some ⟨b,0,none⟩) 1 1∧QT w.heap b 5 [.int .u8 (c:Int)]
 else if i=6 then v=.string ⟨#[UInt8.ofNat c]⟩
 else if i=7 then v=.string nm
 else ∃p:AV,v=Qkf p∧QoW N al w p
theorem Qfo {N c:Nat}{nm:ByteArray}{al:LI}:∀i v w w',mkP N c nm al i v w→Step [] w w'→mkP N c nm al i v w':=by
 intro i v w w' h hs;unfold mkP at h ⊢;by_cases h5:i=5
 ·rw[if_pos h5] at h ⊢;obtain ⟨b,e,H⟩:=h;exact ⟨b,e,H.ext hs⟩
 rw[if_neg h5] at h ⊢;by_cases h6:i=6
 ·rw[if_pos h6] at h ⊢;exact h
 rw[if_neg h6] at h ⊢;by_cases E:i=7
 ·rw[if_pos E] at h ⊢;exact h
 rw[if_neg E] at h ⊢;obtain ⟨p,e,I,J⟩:=h;exact ⟨p,e,λL U=>(I L U).ext hs,J⟩
def yI (i:Nat):LI:=([0,1,2,3,4]:LI).take (2*i - 1)
def JT (i:Nat):LI:=match i with | 0=>[0] | 1=>[1,2] | _=>[3,4]
theorem Qkh:∀{i:Nat},i<3→yI (i+1)=yI i++JT i
 | 0,_=>rfl
 | 1,_=>rfl
 | 2,_=>rfl
 | i+3,h=>by omega
theorem Qby (i:Nat):Z8 (yI i):=List.Pairwise.sublist (List.take_sublist _ _) (by decide)
theorem QoM (i:Nat):∀e∈yI i,0≤e∧e<32:=λe he=>by
 have h:=L2 he;simp only[List.mem_cons,List.not_mem_nil,or_false] at h;omega
theorem Qgl (i:Nat):(yI i).length≤5:=by unfold yI;simp;omega
theorem QhZ:∀(i:Nat),Z8 (JT i)
 | 0=>by decide
 | 1=>by decide
 | _+2=>show Z8 [3,4] by decide
theorem Qk3:∀(i:Nat),∀e∈JT i,0≤e∧e<32
 | 0=>by decide
 | 1=>by decide
 | _+2=>show ∀e∈([3,4]:LI),0≤e∧e<32 by decide
theorem QhY:∀(i:Nat),0<(JT i).length∧(JT i).length≤2
 | 0=>by decide
 | 1=>by decide
 | _+2=>show 0<([3,4]:LI).length∧([3,4]:LI).length≤2 by decide
def nmI (c k:Nat):ByteArray:=⟨#[UInt8.ofNat c]⟩++⟨#[UInt8.ofNat (48+k)]⟩
theorem jF (c k:Nat):yW (nmI c k):=by
 show (ByteArray.mk _++ByteArray.mk _).size≤_;rw[ByteArray.size_append];show 1+1≤_;omega
def evL (f:Nat→Bool) (k:Nat):VD:=⟨⟨#[UInt8.ofNat (97+k)]⟩,f k,false,false,0⟩
def LnK (co:List Yo):Prop:=∀k (h:k<co.length),(co[k]'h).nm=nmI 109 k∧jl (co[k]'h).a∧(co[k]'h).a.al=JT k
theorem LnK.snoc {co:List Yo}{x:Yo}(h:LnK co) (h1:x.nm=nmI 109 co.length) (h2:jl x.a) (h3:x.a.al=JT co.length):LnK (co++[x]):=λk hk=>by
 by_cases hl:k<co.length
 ·rw[L7 hl];exact h k hl
 have e:k=co.length:=by rw[Ll,LG] at hk;omega
 subst e;rw[MH (Lv _)];simp only[Nat.sub_self,List.getElem_cons_zero];exact ⟨h1,h2,h3⟩
structure LnQ (n i:Nat) (rq:List Yo):Prop where
 each:∀x∈rq,(∃j,j<i∧x.nm=nmI 114 j)∧jl x.a∧x.a.al≠[]∧∀e∈x.a.al,e∈yI n
 nd:(rq.map (·.nm)).Nodup
theorem LnQ.nil (n:Nat):LnQ n 0 []:=⟨λx hx=>(by cases hx),MC⟩
theorem LnQ.le {n i j:Nat}{rq:List Yo}(h:LnQ n i rq) (E:i≤j):LnQ n j rq:=⟨λx hx=>let ⟨⟨k,h1,h2⟩,h3⟩:=h.each x hx;⟨⟨k,Mc h1 E,h2⟩,h3⟩,h.nd⟩
theorem Qlo:∀i j:Nat,i<3→j<3→nmI 114 i=nmI 114 j→i=j:=by
 intro i j hi hj h;have h2:i=0∨i=1∨i=2:=by omega
 have h3:j=0∨j=1∨j=2:=by omega
 rcases h2 with rfl | rfl | rfl <;> rcases h3 with rfl | rfl | rfl <;> first | rfl | exact absurd h (by decide)
theorem LnQ.snoc {n i:Nat}{rq:List Yo}{x:Yo}(h:LnQ n i rq) (hi:i<2) (h1:x.nm=nmI 114 i) (h2:jl x.a) (h3:x.a.al≠[]) (h4:∀e∈x.a.al,e∈yI n):LnQ n (i+1) (rq++[x]):=by
 refine ⟨λy hy=>?_,?_⟩
 ·rcases Lp.1 hy with hy | hy
  ·exact (h.le (Nat.le_succ i)).each y hy
  rw[Lc.1 hy];exact ⟨⟨i,Nat.lt_succ_self i,h1⟩,h2,h3,h4⟩
 rw[Ly,Mx,Mu];refine ⟨h.nd,by simp,λa ha b hb e=>?_⟩;obtain ⟨y,hy,rfl⟩:=Lq.1 ha;obtain ⟨⟨j,hj,h5⟩,_⟩:=h.each y hy;rw[Lc.1 hb,h1,h5] at e;have:=Qlo j i (by omega) (by omega) e;omega
structure LnC (k:Q4):Prop where
 ev:∃f,k.ev=(List.range 5).map (evL f)
 n:1≤k.co.length∧k.co.length≤3
 co:LnK k.co
 r:k.rq.length≤2
 rq:LnQ k.co.length 2 k.rq
 x:k.ex.length≤1
 ex:∀x∈k.ex,x.nm=⟨#[120]⟩∧x.ls≠[]∧YF (szs k.co) none x.ls=0
 cs:k.cs=[]
def LcK (sz:LI) (ls:List (Int×Int)):Prop:=∀k (h:k<ls.length),(ls[k]'h).1=(k:Int)∧0≤(ls[k]'h).2∧(ls[k]'h).2<cget sz k
theorem LcK.snoc {sz:LI}{ls:List (Int×Int)}{a b:Int}(h:LcK sz ls) (h1:a=(ls.length:Int)) (h2:0≤b) (h3:b<cget sz ls.length):LcK sz (ls++[(a,b)]):=λk hk=>by
 by_cases hl:k<ls.length
 ·rw[L7 hl];exact h k hl
 have e:k=ls.length:=by rw[Ll,LG] at hk;omega
 subst e;rw[MH (Lv _)];simp only[Nat.sub_self,List.getElem_cons_zero];exact ⟨h1,h2,h3⟩
theorem LcK.ck {sz:LI}{ls:List (Int×Int)}(h:LcK sz ls) (h2:ls.length=2) (hs:2≤sz.length):YF sz none ls=0∧ls≠[]:=by
 match ls,h2 with
 | [p,q],_ =>
  obtain ⟨a1,a2,a3⟩:=h 0 (by simp);obtain ⟨E,H,I⟩:=h 1 (by simp);simp only[List.getElem_cons_zero,List.getElem_cons_succ] at a1 a2 a3 E H I;refine ⟨?_,by simp⟩;rw[YF,if_neg (by rw[a1];omega),if_neg (by simp[zX]),if_neg (by rw[a1];simp only[Int.toNat_natCast];omega),YF,if_neg (by rw[E];omega),if_neg (by rw[a1,E];decide),if_neg (by rw[E];simp only[Int.toNat_natCast];omega),YF]
end Go.Proofs.YtjcgijbhaemldaaGreatDoor
namespace Go.Lg
open Go.RowKit
def JM (all:Array Oper) (dp:Nat→LN) (opn:LN) (rest:List (Nat×Bool)):Nat→Array Bool→Bool
 | 0,ls=>Y9 all rest ls && opn.all λi=>ls.getD i false
 | k+1,ls=>!(Region.ready .any all ls).isEmpty && (Region.ready .any all ls).all λi=>opn.contains i && (dp i).all (λj=>opn.contains j && ls.getD j false) && JM all dp opn rest k (ls.setIfInBounds i true)
def Qf0 (all:List Oper) (dp:Nat→LN) (pre:List (Nat×Bool)) (opn:LN) (rest:List (Nat×Bool)) (D:List (Nat×Nat)):Bool :=
 Region.noSelect all.toArray && (pre.length+(opn.length+rest.length) == all.length) && XI all.toArray pre (Array.replicate all.length false) && qu all D opn && JM all.toArray dp opn rest opn.length (Zu pre (Array.replicate all.length false))
  && opn.all λi=>!((Zu pre (Array.replicate all.length false)).getD i false)
section
variable {P:Program} {n:Nat} {f:Fr} {w:World} {all:List Oper} {C:World→Prop} {K:Fr→World→Prop}
theorem Qdm {α:Type}{D:List (Nat×Nat)}{dp:Nat→LN}{opn:LN}{rest:List (Nat×Bool)}{Φ:Nat→Value→World→Prop}{S:α→List (Nat×Value)}{I:α→World→Prop}{f1:Fr}(hs:Region.noSelect all.toArray=true) (ha:qu all D opn=true)
  (hm:∀w w',C w→Step [] w w'→C w') (stab:∀i v w w',Φ i v w→Step [] w w'→Φ i v w')
  (hn:∀(g:Fr) w,Fa (λi=>Φ i (sl (QK all i).dst g) w) opn→(∀i∈opn,∀j∈opn,i≠j→∀b∈ow (sl (QK all i).dst g),b∉ow (sl (QK all j).dst g))→∃z,Y4 g (S z)∧I z w)
  (spec:Fa (λi=>∀g w,C w→Fa (λj=>Φ j (sl (QK all j).dst (mix D f1 g)) w) (dp i)→XO P (QK all i) (mix D f1 g) w (λf' w'=>Step [] w w'∧Φ i (sl (QK all i).dst f') w'∧∀b∈ow (sl (QK all i).dst f'),w.heap.size≤b∧b<w'.heap.size)) opn)
  (fin:∀z g w,C w→I z w→XP P all C K rest (VP (S z) (mix D f1 g)) w) :
  ∀(k:Nat) (ls:Array Bool) (f:Fr) (w:World),ls.size=all.length→C w→JM all.toArray dp opn rest k ls=true→(∀t,Xp D t=false→f t=f1 t)→(∀i∈opn,ls.getD i false=true→Φ i (sl (QK all i).dst f) w) →
   (∀i∈opn,ls.getD i false=true→(∀b∈ow (sl (QK all i).dst f),b<w.heap.size)∧∀j∈opn,ls.getD j false=true→i≠j→∀b∈ow (sl (QK all i).dst f),b∉ow (sl (QK all j).dst f))→XA P all C K (k+rest.length) ls f w
 | 0,ls,f,w,hh,hC,hp,hf,hc,H=>by
  simp only[JM,Bool.and_eq_true,List.all_eq_true] at hp;obtain ⟨z,h1,h2⟩:=hn f w (Fa.of λi hi=>hc i hi (hp.2 i hi)) (λi hi j hj E=>(H i hi (hp.2 i hi)).2 j hj (hp.2 j hj) E);have h3:=fin z f w hC h2;rw[Xk hf,YB h1] at h3;rw[LR];exact Zy hs rest ls f w hh (.inl hC) hp.1 h3
 | k+1,ls,f,w,hh,hC,hp,hf,hc,H=>by
  simp only[JM,Bool.and_eq_true,List.all_eq_true,List.contains_iff_mem] at hp;obtain ⟨he,hp⟩:=hp;rw[Nat.add_right_comm];refine Y7 (λh0=>(by rw[h0] at he;cases he)) ?_;intro i hi o ho;obtain ⟨⟨hl,hq⟩,hy⟩:=hp i hi;obtain ⟨hg,d,hd,h4⟩:=(Yf ha).1 i hl;have h5:=(Yf ha).2;have hsp:=Fa.all spec i hl f w hC;rw[Xk hf] at hsp;have hsp:=hsp (Fa.of λj hj=>hc j (hq j hj).1 (hq j hj).2)
  have J:=Zd ho;rw[J] at hg hd hsp;rw[Ju hg,cond_true];refine hsp.mono λv w' hx=>?_;have hr:=hm w w' hC hx.1;have hz:=hx.1.size;have old:∀j∈opn,j≠i→sl (QK all j).dst (QV f o.dst v)=sl (QK all j).dst f:=λj hj E=>by
   obtain ⟨_,dj,hu,_⟩:=(Yf ha).1 j hj;have he:o.dst≠some dj:=λe=>h5 j hj i hl E (by rw[hu,J];exact e.symm);rw[hu];exact Z1 he v
  have lsj:∀j,j≠i→(ls.setIfInBounds i true).getD j false=true→ls.getD j false=true:=λj E h=>by rw[getD_set_ne false (Ne.symm E)] at h;exact h
  refine ⟨.inr (.inr hr),Qdm hs ha hm stab hn spec fin k _ _ _ (by simpa using hh) hr hy (λt ht=>?_) (λj hj Y=>?_) (λj hj Y=>⟨λb hb=>?_,λk hk hv hw b hb U=>?_⟩)⟩
  ·rw[Z1 (by rw[hd];intro e;cases e;rw[h4] at ht;cases ht)];exact hf t ht
  ·by_cases E:j=i
   ·subst E;have h2:=hx.2.1;rw[J];exact h2
   rw[old j hj E];exact stab _ _ _ _ (hc j hj (lsj j E Y)) hx.1
  ·by_cases E:j=i
   ·subst E;rw[J] at hb;exact (hx.2.2 b hb).2
   rw[old j hj E] at hb;have:=(H j hj (lsj j E Y)).1 b hb;omega
  by_cases E:j=i
  ·subst E;have V:k≠j:=Ne.symm hw;rw[old k hk V] at U;rw[J] at hb;have h1:=(H k hk (lsj k V hv)).1 b U;have h2:=(hx.2.2 b hb).1;omega
  rw[old j hj E] at hb;have h1:=(H j hj (lsj j E Y)).1 b hb;by_cases V:k=i
  ·subst V;rw[J] at U;have h2:=(hx.2.2 b U).1;omega
  rw[old k hk V] at U;exact (H j hj (lsj j E Y)).2 k hk (lsj k V hv) hw b hb U
theorem Qkl {α:Type}{Q:Exit→Fr→World→Prop}{id:Nat}(C:World→Prop) (pre:List (Nat×Bool)) (dp:Nat→LN) (opn:LN) (rest:List (Nat×Bool)) (D:List (Nat×Nat)) (Φ:Nat→Value→World→Prop) (S:α→List (Nat×Value)) (I:α→World→Prop)
  (hm:P.follows .mixedOrders=true) (U:Xs n all=true) (hp:Qf0 all dp pre opn rest D=true) (hC:C { w with drawn:=w.drawn+1 }) (V:∀w w',C w→Step [] w w'→C w') (stab:∀i v w w',Φ i v w→Step [] w w'→Φ i v w')
  (Y:∀(g:Fr) w,Fa (λi=>Φ i (sl (QK all i).dst g) w) opn→(∀i∈opn,∀j∈opn,i≠j→∀b∈ow (sl (QK all i).dst g),b∉ow (sl (QK all j).dst g))→∃z,Y4 g (S z)∧I z w)
  (h:XP P all C (λf1 _=>Fa (λi=>∀g w,C w→Fa (λj=>Φ j (sl (QK all j).dst (mix D f1 g)) w) (dp i)→XO P (QK all i) (mix D f1 g) w (λE w'=>Step [] w w'∧Φ i (sl (QK all i).dst E) w'∧∀b∈ow (sl (QK all i).dst E),w.heap.size≤b∧b<w'.heap.size)) opn ∧
   ∀z g w,C w→I z w→XP P all C (λf w=>Q .normal f w) rest (VP (S z) (mix D f1 g)) w) pre f { w with drawn:=w.drawn+1 }):W P n (.region id all.toArray true) Q f w:=by
 simp only[Qf0,Bool.and_eq_true,beq_iff_eq,List.all_eq_true,Bool.not_eq_true'] at hp;obtain ⟨⟨⟨⟨⟨hs,hl⟩,hq⟩,ha⟩,hb⟩,H⟩:=hp;refine Xe C hm U ?_;rw[←hl];have hc:(Array.replicate all.length false).size=all.length:=by simp
 have h1:=ZR (K:=λf w=>Q .normal f w) (m:=opn.length+rest.length) hs pre (Array.replicate all.length false) f _ hC hq (λf1 J=>Qdm (P:=P) (C:=C) hs ha V stab Y J.1 J.2 opn.length (Zu pre (Array.replicate all.length false)) f1 _ (by rw[ZQ];exact hc) hC hb (λ_ _=>Z) (λi hi ht=>by rw[H i hi] at ht;cases ht) (λi hi ht=>by rw[H i hi] at ht;cases ht)) h;rw[hl] at h1 ⊢;exact h1
end
section
variable {P:Program} {n:Nat} {f:Fr} {w:World} {all:List Oper} {C J:World→Prop} {K:Fr→World→Prop}
theorem Qdl {α:Type}{D:List (Nat×Nat)}{dp:Nat→LN}{opn:LN}{rest:List (Nat×Bool)}{Φ:Nat→Value→World→Prop}{S:α→List (Nat×Value)}{I:α→World→Prop}{f1:Fr}(hs:Region.noSelect all.toArray=true) (hc:qu all D opn=true)
  (hl:∀w,J w→C w) (hq:∀w w',J w→Step [] w w'→J w') (stab:∀i v w w',Φ i v w→Step [] w w'→Φ i v w')
  (hr:∀(g:Fr) w,Fa (λi=>Φ i (sl (QK all i).dst g) w) opn→(∀i∈opn,∀j∈opn,i≠j→∀b∈ow (sl (QK all i).dst g),b∉ow (sl (QK all j).dst g))→∃z,Y4 g (S z)∧I z w)
  (spec:Fa (λi=>∀g w,J w→Fa (λj=>Φ j (sl (QK all j).dst (mix D f1 g)) w) (dp i)→XO P (QK all i) (mix D f1 g) w (λf' w'=>Step [] w w'∧Φ i (sl (QK all i).dst f') w'∧∀b∈ow (sl (QK all i).dst f'),w.heap.size≤b∧b<w'.heap.size)) opn)
  (fin:∀z g w,J w→I z w→XP P all C K rest (VP (S z) (mix D f1 g)) w) :
  ∀(k:Nat) (ls:Array Bool) (f:Fr) (w:World),ls.size=all.length→J w→JM all.toArray dp opn rest k ls=true→(∀t,Xp D t=false→f t=f1 t)→(∀i∈opn,ls.getD i false=true→Φ i (sl (QK all i).dst f) w) →
   (∀i∈opn,ls.getD i false=true→(∀b∈ow (sl (QK all i).dst f),b<w.heap.size)∧∀j∈opn,ls.getD j false=true→i≠j→∀b∈ow (sl (QK all i).dst f),b∉ow (sl (QK all j).dst f))→XA P all C K (k+rest.length) ls f w
 | 0,ls,f,w,hm,hC,hp,hf,he,H=>by
  simp only[JM,Bool.and_eq_true,List.all_eq_true] at hp;obtain ⟨z,h1,h2⟩:=hr f w (Fa.of λi hi=>he i hi (hp.2 i hi)) (λi hi j hj E=>(H i hi (hp.2 i hi)).2 j hj (hp.2 j hj) E);have h3:=fin z f w hC h2;rw[Xk hf,YB h1] at h3;rw[LR];exact Zy hs rest ls f w hm (.inl (hl _ hC)) hp.1 h3
 | k+1,ls,f,w,hm,hC,hp,hf,he,H=>by
  simp only[JM,Bool.and_eq_true,List.all_eq_true,List.contains_iff_mem] at hp;obtain ⟨hh,hp⟩:=hp;rw[Nat.add_right_comm];refine Y7 (λh0=>(by rw[h0] at hh;cases hh)) ?_;intro i hi o ho;obtain ⟨⟨hn,hu⟩,h5⟩:=hp i hi;obtain ⟨hg,d,hd,h6⟩:=(Yf hc).1 i hn;have h7:=(Yf hc).2;have hsp:=Fa.all spec i hn f w hC;rw[Xk hf] at hsp;have hsp:=hsp (Fa.of λj hj=>he j (hu j hj).1 (hu j hj).2)
  have U:=Zd ho;rw[U] at hg hd hsp;rw[Ju hg,cond_true];refine hsp.mono λv w' hx=>?_;have hv:=hq w w' hC hx.1;have hz:=hx.1.size;have old:∀j∈opn,j≠i→sl (QK all j).dst (QV f o.dst v)=sl (QK all j).dst f:=λj hj E=>by
   obtain ⟨_,dj,hw,_⟩:=(Yf hc).1 j hj;have hh:o.dst≠some dj:=λe=>h7 j hj i hn E (by rw[hw,U];exact e.symm);rw[hw];exact Z1 hh v
  have lsj:∀j,j≠i→(ls.setIfInBounds i true).getD j false=true→ls.getD j false=true:=λj E h=>by rw[getD_set_ne false (Ne.symm E)] at h;exact h
  refine ⟨.inr (.inr (hl _ hv)),Qdl hs hc hl hq stab hr spec fin k _ _ _ (by simpa using hm) hv h5 (λt ht=>?_) (λj hj ha=>?_) (λj hj ha=>⟨λb hb=>?_,λk hk hy h4 b hb V=>?_⟩)⟩
  ·rw[Z1 (by rw[hd];intro e;cases e;rw[h6] at ht;cases ht)];exact hf t ht
  ·by_cases E:j=i
   ·subst E;have h2:=hx.2.1;rw[U];exact h2
   rw[old j hj E];exact stab _ _ _ _ (he j hj (lsj j E ha)) hx.1
  ·by_cases E:j=i
   ·subst E;rw[U] at hb;exact (hx.2.2 b hb).2
   rw[old j hj E] at hb;have:=(H j hj (lsj j E ha)).1 b hb;omega
  by_cases E:j=i
  ·subst E;have Y:k≠j:=Ne.symm h4;rw[old k hk Y] at V;rw[U] at hb;have h1:=(H k hk (lsj k Y hy)).1 b V;have h2:=(hx.2.2 b hb).1;omega
  rw[old j hj E] at hb;have h1:=(H j hj (lsj j E ha)).1 b hb;by_cases Y:k=i
  ·subst Y;rw[U] at V;have h2:=(hx.2.2 b V).1;omega
  rw[old k hk Y] at V;exact (H j hj (lsj j E ha)).2 k hk (lsj k Y hy) h4 b hb V
theorem Qdo {α:Type}{Q:Exit→Fr→World→Prop}{id:Nat}(C J:World→Prop) (pre:List (Nat×Bool)) (dp:Nat→LN) (opn:LN) (rest:List (Nat×Bool)) (D:List (Nat×Nat)) (Φ:Nat→Value→World→Prop) (S:α→List (Nat×Value)) (I:α→World→Prop)
  (hm:P.follows .mixedOrders=true) (Y:Xs n all=true) (hp:Qf0 all dp pre opn rest D=true) (hC:J { w with drawn:=w.drawn+1 }) (E:∀w,J w→C w) (ha:∀w w',J w→Step [] w w'→J w') (stab:∀i v w w',Φ i v w→Step [] w w'→Φ i v w')
  (hb:∀(g:Fr) w,Fa (λi=>Φ i (sl (QK all i).dst g) w) opn→(∀i∈opn,∀j∈opn,i≠j→∀b∈ow (sl (QK all i).dst g),b∉ow (sl (QK all j).dst g))→∃z,Y4 g (S z)∧I z w)
  (h:XP P all C (λf1 _=>Fa (λi=>∀g w,J w→Fa (λj=>Φ j (sl (QK all j).dst (mix D f1 g)) w) (dp i)→XO P (QK all i) (mix D f1 g) w (λH w'=>Step [] w w'∧Φ i (sl (QK all i).dst H) w'∧∀b∈ow (sl (QK all i).dst H),w.heap.size≤b∧b<w'.heap.size)) opn ∧
   ∀z g w,J w→I z w→XP P all C (λf w=>Q .normal f w) rest (VP (S z) (mix D f1 g)) w) pre f { w with drawn:=w.drawn+1 }):W P n (.region id all.toArray true) Q f w:=by
 simp only[Qf0,Bool.and_eq_true,beq_iff_eq,List.all_eq_true,Bool.not_eq_true'] at hp;obtain ⟨⟨⟨⟨⟨hs,hl⟩,hq⟩,hc⟩,he⟩,U⟩:=hp;refine Xe C hm Y ?_;rw[←hl];have hf:(Array.replicate all.length false).size=all.length:=by simp
 have h1:=ZR (K:=λf w=>Q .normal f w) (m:=opn.length+rest.length) hs pre (Array.replicate all.length false) f _ (E _ hC) hq (λf1 V=>Qdl (P:=P) (C:=C) hs hc E ha stab hb V.1 V.2 opn.length (Zu pre (Array.replicate all.length false)) f1 _ (by rw[ZQ];exact hf) hC he (λ_ _=>Z) (λi hi ht=>by rw[U i hi] at ht;cases ht) (λi hi ht=>by rw[U i hi] at ht;cases ht)) h;rw[hl] at h1 ⊢
 exact h1
end
end Go.Lg
namespace Go.Proofs.YtjcgijbhaemldaaGreatDoor
open Go.Proofs.Tryz
open Go.Lg
instance ayZi1:Ay prog 26 3 25 27:=⟨by kernel_rfl,by kernel_rfl⟩
instance ayZi2:Ay prog 28 2 5 1:=⟨by kernel_rfl,by kernel_rfl⟩
abbrev z27:LV:=List.replicate 27 (.int .u8 0)
theorem Qlh (p:Int×Int):∀u∈Zb p,u.oneCell'=true:=by
 intro y hy;simp only[Zb,List.mem_cons,List.not_mem_nil,or_false] at hy;rcases hy with rfl | rfl <;> rfl
set_option maxHeartbeats 16000000 in
theorem Qd4 {w:World}{l:LnV}(h:LnA [] w.heap l) :
  QG prog 9 [.agg (Xl l).toArray] w λr w'=>Step [] w w'∧∃k,QmV w.heap.size w'.heap r k∧LnC k:=by
 have hln:=QiQ h.n;have g81:=Qct h.n 0;have g82:=Qct h.n 1;have m5:=Qct h.n 2;have g84:=Qct h.n 3;have g85:=Qct h.n 4;have hct:=h.ct;have hcl:=h.cl;have hx0:=h.x0;have kh:=h.x1;have hrl:=h.r.le;refine Zh (1+l.ct % 3) λn hn=>?_;have hn3:1≤n∧n≤3:=by omega
 let fl:Nat→Bool:=λk=>decide (((l.cl / 2 ^ k &&& 1:Nat):Int)=1);refine QG.of_W func9 Z ntmps9 results9 (by simp) ?_;refine Qc<|xl Z<|QR (us:=Xl l) Z λb1 w1 m6 hb1 m7=>xl Z<|Qu (us:=Xj) Z λb2 w2 ki hb2 m8=>xe ?_;refine Qc<|xl Z<|Qu (us:=Xj) Z λE J gs hb3 m9=>xe ?_;have kj:=(m6.trans ki).trans gs;have hs13:=ki.trans gs;have hz1:=m6.size;have hz2:=ki.size;have hz3:=gs.size
 have hl1:=m7.lt;have hl2:=m8.lt;have hF:=m9.lt;have gt:=m7.ext hs13;have hB23:=m8.ext gs;have gu:b1∉[E]:=by simp only[List.mem_singleton];omega
 have n23:b2∉[E]:=by simp only[List.mem_singleton];omega
 have hR3:ZA [E] J.heap l.vr l.rs.length 28 (l.rs.flatMap YE):=(h.r.up (L':=[E]) (λb hb=>.inr (by simp only[List.mem_singleton] at hb;omega))).ext kj
 refine QZ (α:=Value×List VD) [(4,4),(15,35)] (λ_=>[]) (λz w'=>Step [E] J w'∧QT w'.heap E 37 [z.1,Zg,Zg,Zg,Zg]∧w'.ownsRow J.heap.size 89 5 z.1 z.2.length (z.2.flatMap Zt)∧z.2.length=5∧(∀e∈z.2,yW e.nm)∧z.2=(List.range 5).map (evL fl)) (by rfl) ?_ ?_
 ·refine Qc<|Qf<|Qh<|Qz (α:=Nat×Value×List VD) [(4,4),(15,35)] (λz=>[(4,.int .i64 z.1)]) (λz w'=>z.1≤5∧Step [E] J w'∧QT w'.heap E 37 [z.2.1,Zg,Zg,Zg,Zg]∧w'.ownsRow J.heap.size 89 5 z.2.1 z.2.2.length (z.2.2.flatMap Zt)∧z.2.2.length=z.1∧(∀e∈z.2.2,yW e.nm)∧z.2.2=(List.range z.1).map (evL fl)) (λz=>5 - z.1) (by rfl) (0,Zg,[]) Lb
   ⟨Ln _,Step.refl _ _,m9,QP _ _ _ _,Z,(λe he=>by cases he),rfl⟩ ?_
  rintro ⟨k,v,ev⟩ g w4 ⟨hk,hM,hN,hv,gv,ha,hO⟩;simp only[] at hk hN hv gv ha hO;have hz4:=hM.size;refine Qg<|Qc<|Qb<|x (QA Z Z)<|xe<|QC Z (λkk=>?_) (λkk=>?_)
  ·refine Qy ?_;have hke:k=5:=by have h17:¬(k:Int)<5:=kk;omega
   rw[hke] at hO;exact ⟨(v,ev),La,hM,hN,hv,by simp only[];omega,ha,hO⟩
  have hU:k<5:=by have h17:(k:Int)<5:=kk;omega
  refine Qi ?_;have hw:E∉ob v:=QY hv hF;have kn:b1∉ob v:=QY hv (by omega);have hB14:=gt.step hM gu;have hdv:l.cl / 2 ^ k<256:=Nw (Nat.div_le_self _ _) hcl;have ko:Step [] w4 { w4 with drawn:=w4.drawn+1 }:=Step.drew _ _
  refine Qg<|Qh<|QU (Step (ob v) w4) [(0,true),(1,true),(2,true),(3,true),(4,true),(7,true),(8,true),(9,true),(10,true),(11,true),(12,true),(5,false),(6,false),(13,true),(14,false),(15,false),(16,true),(17,false)] mixed (by rfl) (by kernel_rfl) (Step.drew _ _) ?_
  refine p (λ_=>Qa Z)<|pq (λ_ hc=>Qd (hN.step hc hw) Z Z)<|p (λ_=>Qm)<|p (λ_=>Xy (k':=.u8) Z ⟨by omega,by omega⟩)<|p (λ_=>JL Z Z ⟨by omega,by omega⟩) <|
   p (λ_=>Qa Z)<|pq (λ_ hc=>Qd (hB14.step hc kn) Z g85)<|p (λ_=>Qm)<|p (λ_=>zz (n:=k) Z Z (by show k≤8;omega))<|p (λ_=>QdS (a:=l.cl / 2 ^ k) (b:=1) (congrArg (Value.int .u8) (qP l.cl k)) Z hdv (by decide)) <|
   p (λ_=>Zr Z Z)<|pk<|QH (us:=[[.int .u8 ((97:Int)+(k:Int))]]) Z Z (by decide) (by simp) ⟨rfl,rfl,La⟩ λb24 w5 hV hb24 hB24=>⟨(ko.trans hV).any,?_⟩
  have e97:((97:Int)+(k:Int))=((97+k:Nat):Int):=by omega
  have hB24':QT w5.heap b24 5 [.int .u8 ((97+k:Nat):Int)]:=by rw[←e97];exact hB24
  refine pk<|xv (QdM (n:=97+k) hB24' (by omega) Z) ⟨(ko.trans hV).any,?_⟩;refine Zh (VD.mk ⟨#[UInt8.ofNat (97+k)]⟩ (decide (((l.cl / 2 ^ k &&& 1:Nat):Int)=1)) false false 0) λe he=>?_
  refine p (λ_=>QN ⟨Z,Z,La⟩)<|pk<|QH (us:=[Zt (VD.mk ⟨#[UInt8.ofNat (97+k)]⟩ (decide (((l.cl / 2 ^ k &&& 1:Nat):Int)=1)) false false 0)]) Z Z (by decide) (show 1*5≤1000000 by omega) ⟨Z,Z,La⟩ λb33 w6 ge hb33 pa=>?_;rw[he] at pa;have hW:=(ko.trans hV).trans ge;have hz46:=hW.size;refine ⟨hW.any,?_⟩
  refine pk<|Q6 (news:=Zt e) (L:=[]) (Qt hv hW) Z Z Z (pa.at (by simp)) (QjC e) (by omega) (by omega) λv7 w7 kp hG hn7=>⟨(hW.any (L:=ob v)).trans' hG,?_⟩;have hone:=QO kp;refine p (λ_=>Qa Z)<|pkl (hl:=by kernel_rfl)<|QF ((hN.ext hW).step hG hw) Z Z (by simp) hone λw8 hH gx=>pe ?_;have hge:=Qq hv;have hge7:∀b∈ob v7,J.heap.size≤b:=λb hb=>(Qq kp b hb).1
  refine Qx<|Qb<|QQ Z Z<|Qf<|⟨(k+1,v7,ev++[e]),by simp only[];omega,Lb,hU,((hM.trans hW).then hG (λb hb=>.inr (hge b hb).1)).trans' hH,gx,?_,by simp[gv],λd hd=>?_,?_⟩
  ·have h9:=Qk kp hH (λb hb=>by have:=hge7 b hb;simp only[List.mem_singleton];omega);simp only[List.length_append,List.flatMap_append];simpa using h9
  ·rcases Lp.1 hd with hd | hd
   ·exact ha d hd
   rw[Lc.1 hd,←he];exact Jk (by simp)
  show ev++[e]=(List.range (k+1)).map (evL fl);rw[List.range_succ,Ly,←hO,←he];rfl
 rintro ⟨ve,ev⟩ g4 w4 ⟨hM,hN,hv,gv,ha,hO⟩;simp only[] at hN hv gv ha hO;have hz4:=hM.size;have FE4:∀L:LN,(∀b∈L,b<J.heap.size)→KI L w4.heap ve ev:=λL H=>⟨QX hv (by omega) (λb hb gg=>by have:=(Qq hv b hb).1;have:=H b gg;omega),ha⟩
 refine Qc<|xl Z<|QH (us:=[[.int .i64 0]]) Z Z (by decide) (by simp) ⟨rfl,rfl,La⟩ λpc w5 hV hb36 pd=>xl rfl<|QH (us:=[[.int .i64 1],[.int .i64 2]]) rfl rfl (by decide) (by simp) ⟨rfl,rfl,rfl,rfl,La⟩ λpf w6 ge hb37 pg =>
  xl rfl<|QH (us:=[[.int .i64 3],[.int .i64 4]]) Z Z (by decide) (by simp) ⟨rfl,rfl,rfl,rfl,La⟩ λph w7 hG hb38 pj=>xl rfl<|QH (us:=[[.slice (some ⟨pc,0,none⟩) 1 1],[.slice (some ⟨pf,0,none⟩) 2 2],[.slice (some ⟨ph,0,none⟩) 2 2]]) rfl rfl (by decide) (by simp) ⟨rfl,rfl,rfl,rfl,rfl,rfl,La⟩ λpn w8 hH hb39 po =>
  Qf<|Qc<|Qf ?_
 have hz5:=hV.size;have hz6:=ge.size;have hz7:=hG.size;have hz8:=hH.size;have kq:=((hV.trans ge).trans hG).trans hH;have pp:=hM.trans kq;have kr:∃tl:List TV,tl.length=3∧(∀i (h:i<tl.length),∃tv,tl[i]'h=(tv,JT i))∧∀L:LN,(∀b∈L,b<w4.heap.size∨w8.heap.size≤b)→JA L w8.heap (.slice (some ⟨pn,0,none⟩) 3 3) tl:=by
  have k36:=pd.lt;have k37:=pg.lt;have k38:=pj.lt;have k39:=po.lt;refine ⟨[(.slice (some ⟨pc,0,none⟩) 1 1,JT 0),(.slice (some ⟨pf,0,none⟩) 2 2,JT 1),(.slice (some ⟨ph,0,none⟩) 2 2,JT 2)],Z,λi hi=>?_,λL H=>?_⟩
  ·have h3:i=0∨i=1∨i=2:=by have:i<3:=hi;omega
   rcases h3 with rfl | rfl | rfl
   ·exact ⟨_,Z⟩
   ·exact ⟨_,Z⟩
   exact ⟨_,Z⟩
  have nL:∀{b:Nat},w4.heap.size≤b→b<w8.heap.size→b∉L:=λh1 h2 hm=>by have:=H _ hm;omega
  refine ⟨po.arr (nL (by omega) k39) (n:=3) (cap:=3) (sz:=1) Z (by omega) (Lv _),λq hq=>?_⟩;simp only[List.mem_cons,List.not_mem_nil,or_false] at hq;rcases hq with rfl | rfl | rfl
  ·exact (((pd.ext ge).ext hG).ext hH).arr (nL (by omega) (by omega)) (n:=1) (cap:=1) (sz:=1) Z (by omega) (Lv _)
  ·exact ((pg.ext hG).ext hH).arr (nL (by omega) (by omega)) (n:=2) (cap:=2) (sz:=1) Z (by omega) (Lv _)
  exact (pj.ext hH).arr (nL (by omega) (by omega)) (n:=2) (cap:=2) (sz:=1) Z (by omega) (Lv _)
 obtain ⟨tl,htl3,htlq,kr⟩:=kr;refine QZ (α:=Value×Value×List IV) [(6,8),(40,80)] (λz=>[(6,z.2.1)]) (λz w'=>Step [E] w8 w'∧QT w'.heap E 37 [ve,z.1,Zg,Zg,Zg]∧y7 w8.heap.size w' z.1 z.2.1 z.2.2 (yI n)∧z.2.2.length=n∧LnK (z.2.2.map IV.it)) (by rfl) ?_ ?_
 ·refine Qc<|Qf<|Qh<|Qz (α:=Nat×Value×Value×List IV) [(6,8),(40,80)] (λz=>[(6,z.2.2.1),(7,.int .i64 z.1)]) (λz w'=>z.1≤n∧Step [E] w8 w'∧QT w'.heap E 37 [ve,z.2.1,Zg,Zg,Zg]∧y7 w8.heap.size w' z.2.1 z.2.2.1 z.2.2.2 (yI z.1)∧z.2.2.2.length=z.1∧LnK (z.2.2.2.map IV.it)) (λz=>n - z.1) (by rfl) (0,Zg,Zg,[]) ⟨Z,Z,La⟩
   ⟨Ln _,Step.refl _ _,hN.ext kq,y7.nil,Z,λk hk=>absurd hk (Me k)⟩ ?_
  rintro ⟨i,vc,va,co⟩ g w9 ⟨hi,h6,hX,hf,gh,kt⟩;simp only[] at hi hX hf gh kt;have hz9:=h6.size;have gy:Step [E] J w9:=pp.trans' h6;have pt:=gt.step gy gu;have g81':(Xl l)[81]?=some (.int .u8 (l.ct:Int)):=g81
  refine Qg<|Qc<|Qb<|x (Qa Z)<|x (Qd pt Z g81')<|x (zB (a:=(l.ct:Int)) (b:=3) Z Z (by omega) (by omega))<|x (Xy (k':=.i64) Z ⟨by omega,by omega⟩)<|QQ Z Z<|x (QA Z Z) <|
   xe ?_
  refine QC Z (λku=>?_) (λku=>?_)
  ·refine Qy ?_;have h47:¬(i:Int)<1+(l.ct:Int) % 3:=ku;have hie:i=n:=by omega
   rw[hie] at hf gh;exact ⟨(vc,va,co),Lb,h6,hX,hf,gh,kt⟩
  have h47:(i:Int)<1+(l.ct:Int) % 3:=ku;have hU:i<n:=by omega
  refine Qi ?_;have gz:(grN l.ns (0+0+i*27)).length=27:=Qob (by have:=h.n;omega);have kv:=QpF (o:=0+0+i*27) h.b;have pu:=λj u=>Qpz (l:=l) (o:=0+0+i*27) j u;refine Zh (grN l.ns (0+0+i*27)) λgr kw=>?_;rw[kw] at gz kv pu;have q0:=qm (ns:=gr) (j:=0) (by omega);have q0l:=Vw kv 0;refine Zh (gr.getD 0 0) λs0 kx=>?_;rw[kx] at q0 q0l
  refine Qg<|Qh<|Qc<|Qb<|x (Qa Z)<|x (Xi (i:=i) Z Z (by omega))<|x (QgE (us:=bys gr) pt Z (by rw[YS];exact gz) pu)<|xl Z<|Qu (us:=z27) Z λb8 hC hg pw gx=>xl Z<|Qn (us:=bys gr) gx Z Z (by rw[YS];exact gz) Z (yE gr) λhD h0 pz =>
   xe ?_
  have hs911:Step [] w9 hD:=hg.then1 h0 pw;refine Qc<|x (Qa Z)<|x (Qd pz Z q0)<|x (zB (a:=(s0:Int)) (b:=3) Z Z (by omega) (by omega))<|x (Qa Z)<|xl Z<|QF (u:=.int .u8 ((s0 % 3:Nat):Int)) pz Z (congrArg (Value.int .u8) (by omega:(s0:Int) % 3=((s0 % 3:Nat):Int))) (by rw[YS];omega) Z λI ho kz =>
   xe ?_
  rw[Qde] at kz;have hl8:=gx.lt;have gi:Step [] w9 I:=hs911.then1 ho pw;have hz912:=gi.size;have p0:=hg.size;have hz11:=h0.size;have p4:=hX.ext gi;have k0:=hf.ext gi;have hw:E∉ob vc:=QY k0.c (by omega);have hn8v:b8∉ob vc:=λhm=>by have:=Q2 hf.c b8 hm;omega
  have hP:(gr.set 0 (s0 % 3)).length=27:=by rw[MS];exact gz
  have gj:=Qe2 (n:=s0 % 3) kv (by omega);have gk:=Qb6 (ns:=gr) (n:=s0 % 3) (by omega);refine Zh (gr.set 0 (s0 % 3)) λk5 k6=>?_;rw[k6] at kz hP gj gk;have k7:JA (E::(ob vc++ob va)) I.heap (.slice (some ⟨pn,0,none⟩) 3 3) tl:=by
   have h1:=kr (E::(ob vc++ob va)) (λb hb=>by
    rcases Lh.1 hb with rfl | hb
    ·exact .inl (by omega)
    rcases Lp.1 hb with hb | hb
    ·exact .inr (Qq hf.c b hb).1
    exact .inr (Qq hf.a b hb).1)
   exact (h1.st (h6.mono (by simp))).ext gi
  have g0:i<tl.length:=by omega
  obtain ⟨tv,k8⟩:=htlq i g0;have k9:=Le g0;rw[k8] at k9;have hsI:=QhY i;have ma:(48:Int)+(i:Int)=((48+i:Nat):Int):=by omega
  refine QZ (α:=Value×List IV) [(57,74)] (λ_=>[]) (λz w'=>Step (E::ob vc) I w'∧QT w'.heap E 37 [ve,z.1,Zg,Zg,Zg]∧y7 w8.heap.size w' z.1 va z.2 (yI i)∧z.2.length=i+1∧LnK (z.2.map IV.it)) (by rfl) ?_ ?_
  ·refine Zh (⟨#[109]⟩++⟨#[UInt8.ofNat (48+i)]⟩:ByteArray) λnm ha=>?_;have hnmB:yW nm:=by rw[←ha];show (ByteArray.size _)≤_;rw[ByteArray.size_append];show 1+1≤_;omega
   refine Qdo (α:=AV) (Step (ob vc) I) (Step [] I) [(0,true),(1,true),(2,true),(3,true),(4,true),(8,true),(9,true),(10,true),(11,true),(12,true)] (λi=>if i=6 then [5] else if i=7 then [6] else []) [5,6,7,13] [(14,true),(15,false),(16,false),(17,true),(18,false)] [(62,64),(70,70)] (mkP I.heap.size (48+i) nm (JT i))
    (λz=>[(64,.string nm),(70,Qkf z)]) (λz w'=>QoW I.heap.size (JT i) w' z) mixed (by rfl) (by kernel_rfl) (Step.drew _ _) (λ_ h=>h.any) (λ_ _ h1 h2=>h1.trans h2) Qfo ?_ ?_
   ·rintro g w' ⟨_,_,h7,⟨q,e,hA⟩,_⟩ hdj;exact ⟨q,⟨h7,e,La⟩,hA⟩
   refine p (λ_=>Qa Z)<|pq (λ_ hc=>Qd (p4.step hc hw) Z Z)<|p (λ_=>Qm)<|p (λ_=>Xy (k':=.u8) Z ⟨by omega,by omega⟩)<|p (λ_=>JL Z Z ⟨by omega,by omega⟩) <|
    p (λ_=>Qm)<|p (λ_=>Qm)<|Go.Lg.pig (g:=Yt) (i:=i) Z (λ_=>Z) k7.arr Z Z g0 λa67 p5=>?_
   rw[k8] at p5;refine pq (λ_ hc=>Qv (p5.step hc (λb hb=>by simp[hb])) rfl)<|pq (λ_ hc=>Qp (kz.step hc hn8v) rfl (by rw[YS];exact hP))<|pe ⟨⟨?_,?_,?_,?_,La⟩,?_⟩
   ·intro g w' hc _;exact QH (us:=[[.int .u8 ((48:Int)+(i:Int))]]) Z Z (by decide) (by simp) ⟨rfl,rfl,La⟩ λb hj U hb hB=>⟨U,⟨b,rfl,by rw[←ma];exact hB⟩,λc V=>by rw[Lc.1 (show c∈[b] from V)];exact ⟨hb,hB.lt⟩⟩
   ·rintro g w' hc ⟨⟨b,e,hB⟩,_⟩;exact xv (QdM (n:=48+i) hB (by omega) e) ⟨Step.refl _ _,Z,λc V=>by cases V⟩
   ·rintro g w' hc ⟨e,_⟩;exact xv (Kg (a:=⟨#[109]⟩) (b:=⟨#[UInt8.ofNat (48+i)]⟩) Z e (by show 1+1≤1000000000;omega)) ⟨Step.refl _ _,congrArg Value.string ha,λc V=>by cases V⟩
   ·intro g w' hc _;have hz:=hc.size;have hi1:QL (E::(ob vc++ob va)) w'.heap tv (JT i):=(k7.each _ k9).ext hc;refine xf<|(jM (ns:=k5) hi1 (Qk3 i) (QhZ i) hP gj).mono ?_;rintro r hj ⟨U,a,⟨xa,xm,mc,rfl,hA⟩,hok,h5,mf,mg⟩;obtain ⟨a0,k1,k2,k3,k4⟩:=mg (by omega);rw[gk] at k3
    exact ⟨U,⟨⟨xa,xm,mc,a⟩,Z,λL H=>hA L (λb hb=>by have:=H b hb;omega),jl.of k1 k2 k3 k4 (by omega),mf⟩,λc V=>by cases V⟩
   rintro q g hj mh ⟨p6,hG13,hL13⟩;have p7:=mh.size;have hQ:=p6 [] (by simp);refine p (λ_=>ZF [(0,[.string nm]),(1,[q.va,.int .i64 q.a.st,q.vm,q.ve])] ⟨Z,Z,Z,Z,La⟩)<|pk<|QH (us:=[Zm ⟨nm,q⟩]) Z Z (by decide) (show 1*5≤1000000 by omega) ⟨Z,Z,La⟩ λb72 gl hp hb72 hB72=>⟨(mh.trans hp).any,?_⟩;have g1:=mh.trans hp;have hz14:=hp.size;have p8:=k0.ext g1
   refine pk<|Q6 (news:=Zm ⟨nm,q⟩) (L:=[]) p8.c Z Z Z (hB72.at (by simp)) (QfI hQ.al.one hQ.mr.one hQ.ed.one) (by omega) (by omega) λhI hY hr hh mj=>⟨(g1.any (L:=ob vc)).trans' hh,?_⟩;have hM15:=p8.setC (QcB (q:=⟨nm,q⟩) (N:=I.heap.size) (λL H=>(p6 L H).ext hp) (by omega) k0.avlt) hr hh mj
   refine p (λ_=>Qa Z)<|pkl (hl:=by kernel_rfl)<|QF ((p4.ext g1).step hh hw) Z Z (by simp) (QO hr) λht Y hJ=>pe ?_
   refine ⟨(hI,co++[⟨nm,q⟩]),La,((g1.any (L:=E::ob vc)).trans' (hh.mono (λb hb=>Lk _ hb))).trans' (Y.mono (by simp)),hJ,hM15.low Y (λb hb=>by rw[List.mem_singleton.1 hb];omega),by simp only[List.length_append,List.length_singleton];omega,?_⟩;show LnK ((co++[(⟨nm,q⟩:IV)]).map IV.it);rw[Ly,Mx]
   exact kt.snoc (by rw[Li,gh];exact ha.symm) hG13 (by rw[Li,gh];exact hL13)
  rintro ⟨vc2,co2⟩ g16 ht ⟨Y,hJ,g2,p9,qc⟩;simp only[] at hJ g2 p9 qc;have hz16:=Y.size;have hgeC:=Qq hf.c;have hgeA:=Qq hf.a;have hs816:Step [E] w8 ht:=(h6.trans gi).then Y (λb hb=>by
   rcases Lh.1 hb with rfl | hb
   ·exact .inl (by simp)
   exact .inr (hgeC b hb).1)
  have qo:=k7.st (Y.mono (L':=E::(ob vc++ob va)) (λb hb=>by
   rcases Lh.1 hb with rfl | hb
   ·simp
   simp[hb]))
  have hIt:QL (E::(ob vc++ob va)) ht.heap tv (JT i):=qo.each _ k9;obtain ⟨ta,tc,hte,hta⟩:=ZA.full hIt hsI.1;have hal5:=Qgl i;refine Qx<|Qb<|Qb<|Qb<|Go.Lg.xig (g:=Yt) (i:=i) (λ_=>Z) qo.arr Z Z g0 λa78 qr=>?_;rw[k8] at qr
  refine x (Qv qr Z)<|xl Z<|Q6 (news:=(JT i).map (.int .i64)) g2.a Z (show Go.Lg.ev _ _=_ from hte) (by simp) hta (by simp[Value.oneCell']) (by omega) (by omega) λq4 g3 ho17 hR hn17 =>
   Qf ?_
  have ho17':Qs 3 w8.heap.size g3 q4 (yI (i+1)):=by
   rw[Qkh (by omega)];unfold Qs;rw[Ll,Ly];exact ho17
  have hM17:=g2.setA ho17' hR hn17;refine Qx<|Qb<|QQ Z Z<|Qf ?_;exact ⟨(i+1,vc2,q4,co2),by simp only[];omega,⟨Z,Z,La⟩,hU,hs816.then hR (λb hb=>.inr (hgeA b hb).1),hJ.step hR (QY g2.a (by omega)),hM17,p9,qc⟩
 rintro ⟨vc,va,co⟩ g9 w9 ⟨h6,hX,hf,q9,mo⟩;simp only[] at hX hf q9 mo;have j1:∀q∈co,yW q.nm∧jl q.p.a:=λq hq=>by
  obtain ⟨k,hk,rfl⟩:=LB hq;have h9:=mo k (by rw[Li];exact hk);rw[LJ] at h9;exact ⟨by have h8:(co[k]'hk).nm=nmI 109 k:=h9.1;rw[h8];exact jF _ _,h9.2.1⟩
 have hz9:=h6.size;have gy:Step [E] J w9:=pp.trans' h6;have FE9:=UD (λL H=>(FE4 L H).ext kq) hF h6;have FI9:∀L:LN,(∀b∈L,b<J.heap.size)→Xr L w9.heap vc co:=λL H=>hf.itms (by omega) (λq hq=>(j1 q hq).1) (λb hb=>by have:=H b hb;omega);have hal5:=Qgl n
 refine QZ (α:=Value×List IV) [(9,11),(81,128)] (λ_=>[]) (λz w'=>Step [E] w9 w'∧QT w'.heap E 37 [ve,vc,z.1,Zg,Zg]∧IvP w9.heap.size w' z.1 z.2∧z.2.length≤2∧LnQ n 2 (z.2.map IV.it)) (by rfl) ?_ ?_
 ·refine Qc<|Qf<|Qh<|Qz (α:=Nat×Value×List IV) [(9,11),(81,128)] (λz=>[(9,.int .i64 z.1)]) (λz w'=>z.1≤2∧Step [E] w9 w'∧QT w'.heap E 37 [ve,vc,z.2.1,Zg,Zg]∧IvP w9.heap.size w' z.2.1 z.2.2∧z.2.2.length≤z.1∧LnQ n z.1 (z.2.2.map IV.it)) (λz=>2 - z.1) (by rfl) (0,Zg,[]) Lb
   ⟨Ln _,Step.refl _ _,hX,Jh.nil,Lv _,LnQ.nil n⟩ ?_
  rintro ⟨i,vr,rq⟩ g hC ⟨hi,hg,hu,h4,mq,hK⟩;simp only[] at hi hu h4 mq hK;have p0:=hg.size;have gm:Step [E] J hC:=gy.trans' hg;have hZ:=gt.step gm gu;have ms:=hR3.st gm;have mt:(Xl l)[82]?=some l.vr:=g82;refine Qg<|QZ (α:=Unit) [(81,89)] (λz=>[(89,.bool (decide (i<l.rs.length∧i<2)))]) (λz w'=>w'=hC) (by rfl) ?_ ?_
  ·refine Qx<|Qb<|x (Qa Z)<|x (Qd hZ Z mt)<|x (Qr ms Z)<|xb (QA Z Z) (λj2=>?_) (λj2=>?_)
   ·refine Qb<|Qb<|x (QA Z Z)<|x (Qo Z)<|xe<|⟨(),⟨congrArg Value.bool ?_,La⟩,Z⟩;exact decide_eq_decide.2 ⟨λe=>⟨by omega,by omega⟩,λe=>by omega⟩
   refine Qb<|xs Z<|xs Z<|x (Qo Z)<|xe ?_;exact ⟨(),⟨congrArg Value.bool (decide_eq_false (λe=>j2 (by omega))).symm,La⟩,Z⟩
  rintro _ g11 hD rfl;refine QC Z (λmu=>?_) (λmu=>?_)
  ·refine Qy ?_;exact ⟨(vr,rq),La,hg,hu,h4,by simp only[];omega,hK.le hi⟩
  have mv:i<l.rs.length:=mu.1;have hi2:i<2:=mu.2;refine Qi<|Qg<|Qh<|Qc<|x (Qa Z)<|x (Qd hZ Z mt)<|Qb<|Go.Lg.xig (g:=YE) (i:=i) QaS ms Z Z mv λa95 j3=>?_;refine Zh (l.rs[i]'mv) λpr j4=>?_;rw[j4] at j3;have g5:(pr.1.drop 1).length=27:=by rw[Ms,pr.2.1]
  have mw:∀n∈pr.1.drop 1,n<256:=λn hn=>pr.2.2 n (MO hn);have za:At [E] hD.heap (a95.add 1) (bys (pr.1.drop 1)):=by
   have h1:=j3.from 1;rw[show (YE pr).drop 1=bys (pr.1.drop 1) by simp[YE,bys]] at h1;exact h1
  have zb:=qm (ns:=pr.1) (j:=0) (by rw[pr.2.1];omega);have zv:=Vw pr.2.2 0;refine Zh (pr.1.getD 0 0) λm0 hm0=>?_;rw[hm0] at zb zv;refine Zh (pr.1.drop 1) λgr kw=>?_;rw[kw] at g5 mw za;have q0:=qm (ns:=gr) (j:=0) (by omega);have q0l:=Vw mw 0;refine Zh (gr.getD 0 0) λs0 kx=>?_;rw[kx] at q0 q0l
  refine x (Zj Z)<|x (QJ (us:=bys gr) za Z (by rw[YS];exact g5))<|xl Z<|Qu (us:=z27) Z λb10 I ho z0 z1=>xl Z<|Qn (us:=bys gr) z1 Z Z (by rw[YS];exact g5) Z (yE gr) λhj U z2 =>
   xe ?_
  have hs1113:Step [] hD hj:=ho.then1 U z0;refine Qc<|x (Qa Z)<|x (Qd z2 Z q0)<|x (zB (a:=(s0:Int)) (b:=3) Z Z (by omega) (by omega))<|x (Qa Z)<|xl Z<|QF (u:=.int .u8 ((s0 % 3:Nat):Int)) z2 Z (congrArg (Value.int .u8) (by omega:(s0:Int) % 3=((s0 % 3:Nat):Int))) (by rw[YS];omega) Z λgl hp mx =>
   xe ?_
  rw[Qde] at mx;have hl10:=z1.lt;have gn:Step [] hD gl:=hs1113.then1 hp z0;have hz12:=ho.size;have hz13':=U.size;have hz1114:=gn.size;have hP:(gr.set 0 (s0 % 3)).length=27:=by rw[MS];exact g5
  have gj:=Qe2 (n:=s0 % 3) mw (by omega);have gk:=Qb6 (ns:=gr) (n:=s0 % 3) (by omega);refine Zh (gr.set 0 (s0 % 3)) λk5 k6=>?_;rw[k6] at mx hP gj gk;have hva11:Qs 3 w8.heap.size hD va (yI n):=Qk hf.a hg (λb hb hm=>by rw[Lc.1 hm] at hb;exact QY hf.a (by omega) hb)
  refine Qc<|x (Qa Z)<|x (Qd (hZ.ext gn) Z mt)<|Qb<|Go.Lg.xig (g:=YE) (i:=i) QaS (ms.ext gn) Z Z mv λa105 z3=>?_;rw[j4] at z3;refine x (Zj Z)<|x (Qv (z3.fld 0 _ zb) Z)<|xl Z<|xf<|(Qeh m0 zv _).mono ?_;rintro hI hY ⟨hh,hr⟩;have hsk:=Jq m0 5;have hva15:QL [] hY.heap va (yI n):=(Qs.ints (L:=[]) (Qt hva11 (gn.trans hh)) (by omega) (by simp))
  refine Qb<|xl Z<|xf<|(QbD (Qs.ints (L:=[]) hr (by omega) (by simp)) hva15 (by omega)).mono ?_;rintro v16 ht ⟨Y,z4⟩;have z5:=qV (· && ·) _ (setK m0 5) (yI n) (Lv _) (J1 m0 5) (Qby n);have hml:=Um (· && ·) (setK m0 5) (yI n);have z9:∀e∈mrg (· && ·) (setK m0 5) (yI n),0≤e∧e<32:=λe he=>by
   have h1:=((Kl (keep:=(· && ·)) (J1 m0 5) (Qby n)) e).1 he;rcases h1.1 with h2 | h2
   ·have:=Qk0 m0 5 e h2;omega
   exact QoM n e h2
  have hm5:∀e∈mrg (· && ·) (setK m0 5) (yI n),e∈yI n:=λe he=>by
   have h2:=(((Kl (keep:=(· && ·)) (J1 m0 5) (Qby n)) e).1 he).2;rw[Lu] at h2;exact of_decide_eq_true h2.2
  refine Zh (mrg (· && ·) (setK m0 5) (yI n)) λst hst=>?_;rw[hst] at z4 z5 hml z9 hm5;refine Qf ?_;have my:=hh.trans Y;have ga:=gn.trans my;have hz1416:=my.size;have hz15:=hh.size;have hz16:=Y.size;have hI16:=Qs.ints (L:=[]) z4 (by omega) (by simp);refine Qc<|Qb<|x (Qr hI16 Z)<|x (ZY Z Z)<|xe<|QC Z (λmz=>?_) (λmz=>?_)
  ·refine Qi<|Qx<|Qb<|QQ Z Z<|Qf ?_;exact ⟨(i+1,vr,rq),by simp only[];omega,Lb,by simp only[];omega,hg.trans ga,hu.ext ga,h4.ext ga,by simp only[];omega,hK.le (Nat.le_succ i)⟩
  have hw:E∉ob vr:=QY h4.own (by omega);have hn10v:b10∉ob vr:=λhm=>by have:=Q2 h4.own b10 hm;omega
  have hge10:=Qq h4.own;have ma:(48:Int)+(i:Int)=((48+i:Nat):Int):=by omega
  have hB316:=hu.ext ga;have hB1016:=mx.ext my;refine Zh (⟨#[114]⟩++⟨#[UInt8.ofNat (48+i)]⟩:ByteArray) λnm ha=>?_;have hnmB:yW nm:=by rw[←ha];show (ByteArray.size _)≤_;rw[ByteArray.size_append];show 1+1≤_;omega
  have hR16:=h4.ext ga;refine Qdo (α:=AV) (Step (ob vr) ht) (Step [] ht) [(0,true),(1,true),(2,true),(3,true),(4,true),(8,true),(9,true)] (λi=>if i=6 then [5] else if i=7 then [6] else []) [5,6,7,10] [(11,true),(12,false),(13,false),(14,true),(15,false)] [(119,121),(124,124)] (mkP ht.heap.size (48+i) nm st)
   (λz=>[(121,.string nm),(124,Qkf z)]) (λz w'=>QoW ht.heap.size st w' z) mixed (by rfl) (by kernel_rfl) (Step.drew _ _) (λ_ h=>h.any) (λ_ _ h1 h2=>h1.trans h2) Qfo ?_ ?_
  ·rintro g w' ⟨_,_,h7,⟨q,e,hA⟩,_⟩ hdj;exact ⟨q,⟨h7,e,La⟩,hA⟩
  refine p (λ_=>Qa Z)<|pq (λ_ hc=>Qd (hB316.step hc hw) Z Z)<|p (λ_=>Qm)<|p (λ_=>Xy (k':=.u8) Z ⟨by omega,by omega⟩)<|p (λ_=>JL Z Z ⟨by omega,by omega⟩) <|
   p (λ_=>Qm)<|pq (λ_ hc=>Qp (hB1016.step hc hn10v) Z (by rw[YS];exact hP))<|pe ⟨⟨?_,?_,?_,?_,La⟩,?_⟩
  ·intro g w' hc _;exact QH (us:=[[.int .u8 ((48:Int)+(i:Int))]]) Z Z (by decide) (by simp) ⟨rfl,rfl,La⟩ λb g3 hR hb hB=>⟨hR,⟨b,rfl,by rw[←ma];exact hB⟩,λc V=>by rw[Lc.1 (show c∈[b] from V)];exact ⟨hb,hB.lt⟩⟩
  ·rintro g w' hc ⟨⟨b,e,hB⟩,_⟩;exact xv (QdM (n:=48+i) hB (by omega) e) ⟨Step.refl _ _,Z,λc V=>by cases V⟩
  ·rintro g w' hc ⟨e,_⟩;exact xv (Kg (a:=⟨#[114]⟩) (b:=⟨#[UInt8.ofNat (48+i)]⟩) Z e (by show 1+1≤1000000000;omega)) ⟨Step.refl _ _,congrArg Value.string ha,λc V=>by cases V⟩
  ·intro g w' hc _;have hz:=hc.size;refine xf<|(jM (ns:=k5) (hI16.ext hc) z9 z5 hP gj).mono ?_;rintro r g3 ⟨hR,a,⟨xa,xm,mc,rfl,hA⟩,hok,h5,mf,mg⟩;obtain ⟨a0,k1,k2,k3,k4⟩:=mg (by omega);rw[gk] at k3;exact ⟨hR,⟨⟨xa,xm,mc,a⟩,Z,λL H=>hA L (λb hb=>by have:=H b hb;omega),jl.of k1 k2 k3 k4 (by omega),mf⟩,λc V=>by cases V⟩
  rintro q g g3 m1 ⟨hA17,hG17,hL17⟩;have hz17:=m1.size;have hQ:=hA17 [] (by simp);refine p (λ_=>ZF [(0,[.string nm]),(1,[q.va,.int .i64 q.a.st,q.vm,q.ve])] ⟨Z,Z,Z,Z,La⟩)<|pk<|QH (us:=[Zm ⟨nm,q⟩]) Z Z (by decide) (show 1*5≤1000000 by omega) ⟨Z,Z,La⟩ λb126 w18 g6 hb126 hB126=>⟨(m1.trans g6).any,?_⟩;have g7:=m1.trans g6;have hz18:=g6.size;have hR18:=hR16.ext g7
  refine pk<|Q6 (news:=Zm ⟨nm,q⟩) (L:=[]) hR18.own Z Z Z (hB126.at (by simp)) (QfI hQ.al.one hQ.mr.one hQ.ed.one) (by omega) (by omega) λv19 w19 ho19 g8 hn19=>⟨(g7.any (L:=ob vr)).trans' g8,?_⟩;have hR19:=hR18.app3 (q:=⟨nm,q⟩) (QcB (q:=⟨nm,q⟩) (N:=ht.heap.size) (λL H=>(hA17 L H).ext g6) (by omega) (Q2 hR16.own)) ho19 g8 hn19
  refine p (λ_=>Qa Z)<|pkl (hl:=by kernel_rfl)<|QF ((hB316.ext g7).step g8 hw) Z Z (by simp) (QO ho19) λw20 hs20 hB20=>pe ?_
  refine Qx<|Qb<|QQ Z Z<|Qf<|⟨(i+1,v19,rq++[⟨nm,q⟩]),by simp only[];omega,Lb,by simp only[];omega,(((hg.trans ga).trans g7).then g8 (λb hb=>.inr (hge10 b hb).1)).trans' hs20,hB20,hR19.low hs20 (λb hb=>by rw[Lc.1 hb];omega),by simp only[List.length_append,List.length_singleton];omega,?_⟩;show LnQ n (i+1) ((rq++[(⟨nm,q⟩:IV)]).map IV.it)
  rw[Ly,Mx];exact hK.snoc hi2 ha.symm hG17 (λe=>by have e2:st=[]:=hL17.symm.trans e;rw[e2] at mz;exact absurd mz (by decide)) (λe he=>hm5 e (by have e3:e∈q.a.al:=he;rw[hL17] at e3;exact e3))
 rintro ⟨vr,rq⟩ g10 hC ⟨hg,hu,h4,mq,hK⟩;simp only[] at hu h4 mq hK;have hgq10:∀q∈rq,yW q.nm∧jl q.p.a:=λq hq=>by
  obtain ⟨⟨j,_,h8⟩,h9,_⟩:=hK.each q.it (LW hq);exact ⟨by rw[show q.nm=nmI 114 j from h8];exact jF _ _,h9⟩
 have p0:=hg.size;have gm:Step [E] J hC:=gy.trans' hg;have hZ:=gt.step gm gu;have FE10:=UD FE9 hF hg;have FI10:=K4 FI9 hF hg;have FR10:∀L:LN,(∀b∈L,b<J.heap.size)→Xr L hC.heap vr rq:=λL H=>h4.itms (by omega) (λq hq=>(hgq10 q hq).1) (λb hb=>by have:=H b hb;omega)
 refine QZ (α:=Value×List XV) [(12,14),(129,169)] (λ_=>[]) (λz w'=>Step [E] hC w'∧QT w'.heap E 37 [ve,vc,vr,z.1,Zg]∧(∀L:LN,(∀b∈L,b<J.heap.size)→zc L w'.heap z.1 z.2)∧z.2.length≤1∧∀q∈z.2,q.nm=⟨#[120]⟩∧q.ls≠[]∧YF (szs (co.map IV.it)) none q.ls=0) (by rfl) ?_ ?_
 ·refine Qc<|x (Qa Z)<|x (Qd hu Z Z)<|x (Qr (FI10 [] (by simp)).arr rfl)<|Qf<|Qc<|Qb<|x (ZY rfl rfl)<|xe<|QC Z (λh133=>?_) (λh133=>?_)
  ·refine Qi ?_;exact ⟨(Zg,[]),La,Step.refl _ _,hu,(λL H=>⟨ZA.nil _ _ 2,λq hq=>(by cases hq),λq hq=>(by cases hq)⟩),by decide,λq hq=>(by cases hq)⟩
  have hco2:2≤co.length:=by have h134:(1:Int)<(co.length:Int):=h133;omega
  refine Qc<|x (QN Lb)<|xl Z<|Qu (us:=[.string .empty,Zg]) Z λhE hD h0 hb13 ka=>xl Z<|Qn (us:=[.string ⟨#[120]⟩,Zg]) ka Z Z Z Z ⟨Z,Z,La⟩ λI ho hB1312 =>
   xe ?_
  have gq:Step [] hC I:=h0.then1 ho hb13;have hz1012:=gq.size;have hl13:=hB1312.lt;have n313:E∉[hE]:=by simp only[List.mem_singleton];omega
  have n113:b1∉[hE]:=by simp only[List.mem_singleton];omega
  refine QZ (α:=Value×List (Int×Int)) [(14,14),(135,158)] (λ_=>[]) (λz w'=>Step [hE] I w'∧QT w'.heap hE 99 [.string ⟨#[120]⟩,z.1]∧w'.ownsRow I.heap.size 101 2 z.1 z.2.length (z.2.flatMap Zb)∧z.2.length=2∧LcK (szs (co.map IV.it)) z.2) (by rfl) ?_ ?_
  ·refine Qc<|Qf<|Qh<|Qz (α:=Nat×Value×List (Int×Int)) [(14,14),(135,158)] (λz=>[(14,.int .i64 z.1)]) (λz w'=>z.1≤2∧Step [hE] I w'∧QT w'.heap hE 99 [.string ⟨#[120]⟩,z.2.1]∧w'.ownsRow I.heap.size 101 2 z.2.1 z.2.2.length (z.2.2.flatMap Zb)∧z.2.2.length=z.1∧LcK (szs (co.map IV.it)) z.2.2) (λz=>2 - z.1) (by rfl) (0,Zg,[]) Lb
    ⟨Ln _,Step.refl _ _,hB1312,QP _ _ _ _,Z,λk hk=>absurd hk (Me k)⟩ ?_
   rintro ⟨i,vl,ls⟩ g hj ⟨hi,U,hS,hs,hT,gb⟩;simp only[] at hi hS hs hT gb;have p7:=U.size;refine Qg<|Qc<|Qb<|x (QA Z Z)<|xe<|QC Z (λm2=>?_) (λm2=>?_)
   ·refine Qy ?_;exact ⟨(vl,ls),La,U,hS,hs,by simp only[];have h137:¬(i:Int)<2:=m2;omega,gb⟩
   have hU:i<2:=by have h137:(i:Int)<2:=m2;omega
   refine Qi ?_;have hgeL:=Qq hs;have hn13v:hE∉ob vl:=QY hs hl13;have hw:E∉ob vl:=QY hs (by omega);have kn:b1∉ob vl:=QY hs (by omega);have kb:=(hu.ext gq).step U n313;have m3:=(hZ.ext gq).step U n113;have m4:∃xi:Nat,xi<256∧(Xl l)[0+83+i*1]?=some (.int .u8 (xi:Int)):=by
    have h3:i=0∨i=1:=by omega
    rcases h3 with rfl | rfl
    ·exact ⟨l.x0,hx0,m5⟩
    exact ⟨l.x1,kh,g84⟩
   obtain ⟨xi,hxi,m4⟩:=m4;have kc:i<co.length:=by omega
   have hI13:Xr (ob vl) hj.heap vc co:=by
    have h1:Xr (hE::ob vl) I.heap vc co:=((FI10 [] (by simp)).up (L':=hE::ob vl) (λb hb=>by
     rcases Lh.1 hb with rfl | hb
     ·exact .inr (by have:=h0.size;omega)
     exact .inr (by have:=(hgeL b hb).1;omega))).ext gq
    exact (h1.st (U.mono (by simp))).up (λb hb=>.inl (Lk _ hb))
   have hqm:=Le kc;refine Zh (co[i]'kc) λq hq=>?_;rw[hq] at hqm;have hpos:=(j1 q hqm).2.p;have hszi:cget (szs (co.map IV.it)) i=q.p.a.st:=by
    rw[show szs (co.map IV.it)=co.map (·.p.a.st) by unfold szs;rw[Mf];rfl];unfold cget;rw[LA,Nk,LE kc,hq];rfl
   have hd13:Step [] hj { hj with drawn:=hj.drawn+1 }:=Step.drew _ _
   have hmod:0≤(xi:Int) % q.p.a.st:=Int.emod_nonneg _ (by omega);refine Qg<|Qh<|QU (Step (ob vl) hj) [(0,true),(1,true),(2,true),(3,true),(4,true),(5,true),(6,true),(7,true),(8,true),(9,true),(10,true),(11,true),(12,true),(13,true),(14,true),(15,true),(16,true),(17,false),(18,false),(19,true),(20,false)] mixed (by rfl) (by kernel_rfl) (Step.drew _ _) ?_
   refine p (λ_=>Qa Z)<|pq (λ_ hc=>Qd (hS.step hc hn13v) Z Z)<|p (λ_=>Qm)<|p (λ_=>Qm)<|p (λ_=>Qa Z) <|
    p (λ_=>Xi (i:=i) Z Z hU)<|pq (λ_ hc=>Qd (m3.step hc kn) Z m4)<|p (λ_=>Xy (k':=.i64) Z ⟨by omega,by omega⟩)<|p (λ_=>Qa Z)<|pq (λ_ hc=>Qd (kb.step hc hw) Z Z) <|
    p (λ_=>Qm)<|Go.Lg.pig (g:=Zm) (i:=i) Z X0 hI13.arr Z Z kc λa150 h150=>?_
   rw[hq] at h150;refine p (λ_=>Zj Z)<|p (λ_=>Zj Z)<|pq (λ_ hc=>Qv (((h150.from 1).fld 1 (.int .i64 q.p.a.st) Z).st hc) Z) <|
    p (λ_=>zB (a:=(xi:Int)) (b:=q.p.a.st) Z Z (by omega) hpos)<|p (λ_=>QN ⟨Z,Z,La⟩)<|pk<|QH (us:=[Zb ((i:Int),(xi:Int) % q.p.a.st)]) Z Z (by decide) (show 1*2≤1000000 by omega) ⟨Z,Z,La⟩ λb156 gl hp hb156 hB156=>?_
   have gc:=hd13.trans hp;have hz1314:=gc.size;refine ⟨gc.any,?_⟩;refine pk<|Q6 (news:=Zb ((i:Int),(xi:Int) % q.p.a.st)) (L:=[]) (Qt hs gc) Z Z Z (hB156.at (by simp)) (Qlh _) (by omega) (by omega) λhI hY hr hh mj=>⟨(gc.any (L:=ob vl)).trans' hh,?_⟩;have hge15:∀b∈ob hI,I.heap.size≤b:=λb hb=>(Qq hr b hb).1
   refine p (λ_=>Qa Z)<|pkl (hl:=by kernel_rfl)<|QF ((hS.ext gc).step hh hn13v) Z Z (by simp) (QO hr) λht Y hJ=>pe ?_
   refine Qx<|Qb<|QQ Z Z<|Qf<|⟨(i+1,hI,ls++[((i:Int),(xi:Int) % q.p.a.st)]),by simp only[];omega,Lb,hU,((U.trans gc).then hh (λb hb=>.inr (hgeL b hb).1)).trans' Y,hJ,?_,by simp[hT],gb.snoc (by rw[hT]) hmod (by rw[hT,hszi];exact Int.emod_lt_of_pos _ hpos)⟩;have h9:=Qk hr Y (λb hb=>by have:=hge15 b hb;simp only[List.mem_singleton];omega)
   simp only[List.length_append,List.flatMap_append];simpa using h9
  rintro ⟨vl,ls⟩ g13 hj ⟨U,hS,hs,hT,gb⟩;simp only[] at hS hs hT gb;have p7:=U.size;have ke:Step [] hC hj:=gq.then1 U hb13;have kb:=hu.ext ke;have m3:=hZ.ext ke;have hxx:=QO hs;refine Qc<|x (Qa Z)<|x (Xi (i:=0) Z Z (by decide))<|x (Qd m3 Z m5)<|x (zB (a:=(l.x0:Int)) (b:=4) Z Z (by omega) (by omega))<|x (Q8 Z Z)<|xe ?_
  refine QC Z (λh163=>?_) (λh163=>?_)
  ·refine Qi ?_;exact ⟨(Zg,[]),La,ke.any,kb,(λL H=>⟨ZA.nil _ _ 2,λq hq=>(by cases hq),λq hq=>(by cases hq)⟩),by decide,λq hq=>(by cases hq)⟩
  refine Qx<|x (Qa Z)<|x (Qd kb Z Z)<|x (Qp hS Z Z)<|xl Z<|QH (us:=[ZH ⟨⟨#[120]⟩,vl,ls⟩]) Z Z (by decide) (show 1*2≤1000000 by omega) ⟨Z,Z,La⟩ λb167 gl hp hb167 hB167=>?_;have hz14:=hp.size;refine xl Z<|Q6 (base:=hj.heap.size) (news:=ZH ⟨⟨#[120]⟩,vl,ls⟩) (L:=[]) (v:=Zg) (QP _ _ _ _) Z Z Z (hB167.at (by simp)) (Qan hxx) (by omega) (by omega) λhI hY hr hh mj=>?_
  have hs1415:Step [] gl hY:=hh;have hs1015:=(ke.trans hp).trans hs1415;refine x (Qa Z)<|xl Z<|QF (hu.ext hs1015) Z Z (by simp) (QO hr) λht Y hJ=>xe ?_;refine ⟨(hI,[⟨⟨#[120]⟩,vl,ls⟩]),La,(hs1015.any (L:=[E])).trans' Y,hJ,λL H=>?_,Lv 1,λq hq=>?_⟩
  rotate_left
  ·rw[Lc.1 hq];have h9:=gb.ck hT (by unfold szs;rw[Li,Li];exact hco2);exact ⟨Z,h9.2,h9.1⟩
  have hL2:∀b∈E::L,b<J.heap.size:=λb hb=>by
   rcases Lh.1 hb with rfl | hb
   ·exact hF
   exact H b hb
  have h1:zc (E::L) hY.heap hI [⟨⟨#[120]⟩,vl,ls⟩]:=by
   refine ⟨QX (n:=1) hr (by omega) (λb hb gg=>by have:=(Qq hr b hb).1;have:=hL2 b gg;omega),λq hq=>?_,λq hq=>?_⟩
   ·rw[Lc.1 hq];exact ((QX (L:=E::L) hs (by omega) (λb hb gg=>by have:=(Qq hs b hb).1;have:=hL2 b gg;omega)).ext hp).ext hs1415
   rw[Lc.1 hq];exact Jk (by decide)
  exact (h1.st (Y.mono (by simp))).up (λb hb=>.inl (Lk _ hb))
 rintro ⟨vx,qx⟩ g11 hD ⟨h0,ka,FX11,kh,hxs⟩;simp only[] at ka FX11 kh hxs;have FE11:=UD FE10 hF h0;have FI11:=K4 FI10 hF h0;have FR11:=K4 FR10 hF h0;have hs311:Step [E] J hD:=gm.trans' h0;have hB211:=hB23.step hs311 n23
 refine Qc<|x (Qp ka Z Z)<|xl Z<|Qn (us:=[ve,vc,vr,vx,Zg]) hB211 Z Z Z Z ⟨(FE11 [] (by simp)).arr.one,(FI11 [] (by simp)).arr.one,(FR11 [] (by simp)).arr.one,(FX11 [] (by simp)).arr.one,rfl,La⟩ λI ho hB12=>xe ?_;have kf:b2<J.heap.size:=by omega
 have FE12:=UD FE11 kf ho;have FI12:=K4 FI11 kf ho;have FR12:=K4 FR11 kf ho;have FX12:=QkJ FX11 kf ho;have hs012:Step [] w I:=(kj.then1 hs311 (by omega)).then1 ho (by omega);refine Ql ⟨[.agg [ve,vc,vr,vx,Zg].toArray],⟨⟨_,Z,Qw Z (hB12.at (L:=[]) (by simp)).cells⟩,La⟩,hs012,⟨ev,co.map IV.it,rq.map IV.it,qx.map XV.x,[]⟩,⟨⟨ve,vc,vr,vx,Zg,ev,co,rq,qx,[]⟩,rfl,rfl,λL H=>?_⟩,?_⟩
 ·have kg:∀b∈L,b<J.heap.size:=λb hb=>by have:=H b hb;have:=kj.size;omega
  exact ⟨FE12 L kg,FI12 L kg,FR12 L kg,FX12 L kg,⟨ZA.nil _ _ 3,λq hq=>(by cases hq),λq hq=>(by cases hq)⟩⟩
 refine ⟨⟨fl,hO⟩,by simp only[List.length_map];omega,mo,by simp only[List.length_map];omega,?_,by simp only[List.length_map];omega,λy hy=>?_,Z⟩
 ·show LnQ (co.map IV.it).length 2 (rq.map IV.it);rw[Li,q9];exact hK
 obtain ⟨q,hq,rfl⟩:=Lq.1 hy;exact hxs q hq
def nm1 (c k:Nat):ByteArray:=⟨#[UInt8.ofNat (c+k)]⟩
def XS (n m:Nat):LI:=(List.range n).map λk:Nat=>if k<m then (k:Int) else -1
theorem jU {m k:Nat}(h:k<m):Zn (YP m) (k:Int)=k:=by
 unfold Zn YP;simp[List.getD,h]
theorem QpD {fd out R:LI}{t:Int}(hp:fd=out++R) (hm:t∈out):z6 fd t=(out.idxOf t:Nat):=by
 subst hp;unfold z6;rw[if_pos (Lz _ hm),Mj,if_pos hm]
theorem Qn6 {fd out R:LI}{t:Int}(hp:fd=out++[t]++R) (hm:t∉out):z6 fd t=(out.length:Nat):=by
 subst hp;unfold z6;rw[if_pos (by simp),LC,Mj,if_neg hm];simp
theorem jT {n m k:Nat}(h:k<n):Zn (XS n m) (k:Int)=if k<m then (k:Int) else -1:=by
 unfold Zn XS;simp[List.getD,h]
theorem Qiy {n m:Nat}:(XS n m).set m (m:Int)=XS n (m+1):=by
 apply LX
 ·simp[XS]
 intro k h1 h2;have hk:k<n:=by simpa[XS] using h2
 rw[MU];by_cases e:m=k
 ·subst e;simp[XS]
 rw[if_neg e];simp only[XS,List.getElem_map,List.getElem_range];by_cases h3:k<m
 ·rw[if_pos h3,if_pos (by omega)]
 rw[if_neg h3,if_neg (by omega)]
theorem jD {R:Nat→List Ed}(hR:∀i,∀e∈R i,e.1=(i:Int)) (j:Nat):∀n,ZE ((List.range' 0 n).flatMap R) j=if j<n then R j else []
 | 0=>by simp[ZE]
 | n+1=>by
  have E:ZE (R n) j=if n=j then R n else []:=by
   unfold ZE;by_cases e:n=j
   ·rw[if_pos e];exact Nm.2 λx hx=>decide_eq_true (by rw[hR n x hx,e])
   rw[if_neg e];exact MI.2 λx hx=>by rw[decide_eq_true_eq,hR n x hx];omega
  rw[Mi,LH,LR];unfold ZE at E ⊢;rw[Mb];have ih:=jD hR j n;unfold ZE at ih;rw[ih];simp only[List.flatMap_cons,List.flatMap_nil,List.append_nil];rw[E];by_cases h1:j<n
  ·rw[if_pos h1,if_neg (by omega),if_pos (by omega),LS]
  rw[if_neg h1];by_cases h2:n=j
  ·subst h2;rw[if_pos rfl,if_pos (by omega),Mt]
  rw[if_neg h2,if_neg (by omega)];rfl
section
variable {a:QD}
theorem qZ {s:Int}:∀(vs:LI) (out:LI),∃r,vs.foldl (V7 a s) out=out++r
 | [],out=>⟨[],by simp⟩
 | v::vs,out=>by
  rw[LM];obtain ⟨r,E⟩:=qZ vs (V7 a s out v);rw[E];unfold V7;split
  ·exact ⟨[nxt a.ed s v]++r,by rw[LC]⟩
  exact ⟨r,Z⟩
theorem qY:∀(f i:Nat) (out:LI),∃r,jZ a f i out=out++r
 | 0,i,out=>⟨[],by simp[jZ]⟩
 | f+1,i,out=>by
  rw[jZ];split
  ·obtain ⟨r,E⟩:=qY f (i+1) (fdR a out (cget out i));obtain ⟨H,I⟩:=qZ (a:=a) (s:=cget out i) a.al out;refine ⟨H++r,?_⟩;rw[E];unfold fdR;rw[I,LC]
  exact ⟨[],by simp⟩
theorem qQ {fd:LI}{i:Nat}:∀(vs out:LI) (c:Cs),(∃r,fd=vs.foldl (V7 a (cget fd i)) out++r)→c.ord=YP out.length→c.num=XS fd.length out.length →
  (vs.filterMap (Kt a fd i)).foldl (Zk i) c=⟨YP (vs.foldl (V7 a (cget fd i)) out).length,XS fd.length (vs.foldl (V7 a (cget fd i)) out).length,c.mk',c.ed++vs.filterMap (Kt a fd i)⟩
 | [],out,c,_,h1,h2=>by
  obtain ⟨o,n,m,e⟩:=c;simp only[] at h1 h2;subst h1 h2;simp
 | v::vs,out,c,E,h1,h2=>by
  rw[LM] at E ⊢;obtain ⟨r,E⟩:=E;obtain ⟨r2,hb⟩:=qZ (a:=a) (s:=cget fd i) vs (V7 a (cget fd i) out v);have H:fd=V7 a (cget fd i) out v++(r2++r):=by rw[←LC,←hb];exact E
  by_cases J:0≤nxt a.ed (cget fd i) v
  ·have U:Kt a fd i v=some ((i:Int),v,z6 fd (nxt a.ed (cget fd i) v)):=by unfold Kt;rw[if_pos J]
   rw[Mz,U];simp only[];rw[LM];by_cases hm:nxt a.ed (cget fd i) v∈out
   ·have I:V7 a (cget fd i) out v=out:=by unfold V7;rw[if_neg (λh=>h.2 hm)]
    rw[I] at E H ⊢;have V:z6 fd (nxt a.ed (cget fd i) v)=(out.idxOf (nxt a.ed (cget fd i) v):Nat):=QpD H hm;have hc:=LU hm;have ha:out.length≤fd.length:=by rw[H];simp
    have Y:Zk i c ((i:Int),v,z6 fd (nxt a.ed (cget fd i) v))=⟨c.ord,c.num,c.mk',c.ed++[((i:Int),v,z6 fd (nxt a.ed (cget fd i) v))]⟩:=by
     unfold Zk;simp only[];rw[h2,V,jT (by omega),if_pos hc,if_neg (by omega)]
    rw[Y,qQ vs out ⟨c.ord,c.num,c.mk',c.ed++[((i:Int),v,z6 fd (nxt a.ed (cget fd i) v))]⟩ ⟨r,E⟩ h1 h2];simp only[List.append_assoc,List.singleton_append]
   have I:V7 a (cget fd i) out v=out++[nxt a.ed (cget fd i) v]:=by unfold V7;rw[if_pos ⟨J,hm⟩]
   rw[I] at E H ⊢;have V:z6 fd (nxt a.ed (cget fd i) v)=(out.length:Nat):=Qn6 H hm;have ha:out.length<fd.length:=by rw[H];simp
   have Y:Zk i c ((i:Int),v,z6 fd (nxt a.ed (cget fd i) v))=⟨YP (out.length+1),XS fd.length (out.length+1),c.mk',c.ed++[((i:Int),v,z6 fd (nxt a.ed (cget fd i) v))]⟩:=by
    unfold Zk;simp only[];rw[h1,h2,V,jT ha,if_neg (Nat.lt_irrefl _),if_pos (by omega),KX,U7];simp only[Int.toNat_natCast];rw[Qiy]
   rw[Y,qQ vs (out++[nxt a.ed (cget fd i) v]) _ ⟨r,E⟩ (by simp) (by simp)];simp only[List.append_assoc,List.singleton_append]
  have U:Kt a fd i v=none:=by unfold Kt;rw[if_neg J]
  have I:V7 a (cget fd i) out v=out:=by unfold V7;rw[if_neg (λh=>J h.1)]
  rw[I] at E ⊢;rw[Mz,U];exact qQ vs out c ⟨r,E⟩ h1 h2
theorem Qj8 (fd:LI) (i:Nat):YR a fd (i+1)=YR a fd i++(if cget fd i∈a.mr then [(i:Int)] else []):=by
 unfold YR;rw[Mi,Mb,Ly,LR];by_cases h:cget fd i∈a.mr <;> simp[h]
theorem Qka (fd:LI) (i:Nat):Xc a fd (i+1)=Xc a fd i++a.al.filterMap (Kt a fd i):=by
 unfold Xc;rw[Mi,LH,LR];simp
theorem Qdb {fd:LI}{i n:Nat}(h:i<n):(i:Int)∈YR a fd n↔cget fd i∈a.mr:=by
 unfold YR;simp only[List.mem_map,List.mem_filter,List.mem_range'_1,decide_eq_true_eq];constructor
 ·rintro ⟨k,⟨_,h2⟩,h3⟩;have:k=i:=by omega
  subst this;exact h2
 intro h2;exact ⟨i,⟨by omega,h2⟩,Z⟩
theorem Qj9 {fd:LI}(U:fd=found a) (hm:fd.length≤a.st.toNat):∀(f g i:Nat) (out:LI),i≤out.length→jZ a g i out=fd→i+g=a.st.toNat→fd.length≤i+f →
  YY (YX a) f i ⟨YP out.length,XS fd.length out.length,YR a fd i,Xc a fd i⟩=⟨YP fd.length,XS fd.length fd.length,YR a fd fd.length,Xc a fd fd.length⟩:=by
 have Y:(YX a).ed=Xc a fd fd.length:=by rw[U];rfl
 have ha:(YX a).mr=YR a fd fd.length:=by rw[U];rfl
 have done:∀(i:Nat) (out:LI),i≤out.length→out=fd→¬i<out.length→(⟨YP out.length,XS fd.length out.length,YR a fd i,Xc a fd i⟩:Cs)=⟨YP fd.length,XS fd.length fd.length,YR a fd fd.length,Xc a fd fd.length⟩:=by
  intro i out h1 h2 h3;have:i=fd.length:=by rw[←h2];omega
  rw[this,h2]
 intro f;induction f with
 | zero =>
  intro g i out h1 h2 h3 h4;obtain ⟨r,E⟩:=qY (a:=a) g i out;rw[h2] at E;have hl:fd.length=out.length+r.length:=by rw[E,Ll]
  have hb:r=[]:=Lt (by omega);rw[YY];exact done i out h1 (by rw[E,hb,LS]) (by omega)
 | succ f ih =>
  intro g i out h1 h2 h3 h4;obtain ⟨r,E⟩:=qY (a:=a) g i out;rw[h2] at E;have hl:fd.length=out.length+r.length:=by rw[E,Ll]
  rw[YY];simp only[KX];by_cases hi:i<out.length
  ·rw[if_pos hi];obtain ⟨H,rfl⟩:∃H,g=H+1:=⟨g - 1,by omega⟩;rw[jZ,if_pos hi] at h2;have hf:cget out i=cget fd i:=by
    rw[E];unfold cget;simp[List.getD,List.getElem?_append_left hi]
   rw[hf] at h2;have J:i<fd.length:=by omega
   have hg:ZE (YX a).ed (i:Int)=a.al.filterMap (Kt a fd i):=by
    rw[Y];unfold Xc;rw[jD (λj e he=>by
     obtain ⟨v,_,I⟩:=MD.1 he;unfold Kt at I;split at I
     ·cases I;rfl
     cases I),if_pos J]
   have hh:Z0 (YX a) i ⟨YP out.length,XS fd.length out.length,YR a fd i,Xc a fd i⟩=⟨YP out.length,XS fd.length out.length,YR a fd (i+1),Xc a fd i⟩:=by
    unfold Z0;simp only[];rw[jU hi,ha,Qj8];by_cases hc:cget fd i∈a.mr
    ·rw[if_pos ((Qdb J).2 hc),if_pos hc]
    rw[if_neg (λh=>hc ((Qdb J).1 h)),if_neg hc];simp
   have hj:qJ (YX a) i ⟨YP out.length,XS fd.length out.length,YR a fd i,Xc a fd i⟩=⟨YP (fdR a out (cget fd i)).length,XS fd.length (fdR a out (cget fd i)).length,YR a fd (i+1),Xc a fd (i+1)⟩:=by
    unfold qJ;rw[hh];simp only[];rw[jU hi,hg];obtain ⟨r3,V⟩:=qY (a:=a) H (i+1) (fdR a out (cget fd i));rw[h2] at V;rw[qQ a.al out ⟨YP out.length,XS fd.length out.length,YR a fd (i+1),Xc a fd i⟩ ⟨r3,V⟩ rfl rfl,Qka];rfl
   rw[hj];obtain ⟨r4,hk⟩:=qZ (a:=a) (s:=cget fd i) a.al out;exact ih H (i+1) _ (by unfold fdR;rw[hk,Ll];omega) h2 (by omega) (by omega)
  rw[if_neg hi];have h5:jZ a g i out=out:=by
   cases g with
   | zero=>rfl
   | succ g=>rw[jZ,if_neg hi]
  exact done i out h1 (h5.symm.trans h2) hi
theorem Qj7 (E:QM a) (H:0<a.st):ZJ (YX a)=YX a:=by
 have Y:=Qda E H;have J:=(Uy E).1.len E.st0;have ha:(YX a).st=((found a).length:Int):=rfl;have I:(YX a).st.toNat=(found a).length:=by omega
 have h:=Qj9 (a:=a) Z J (found a).length a.st.toNat 0 (fd0 a) (Ln _) Z (by omega) (by omega);have U:fd0 a=[0]:=by unfold fd0;rw[if_pos H]
 rw[U] at h;have V:ZO (YX a)=⟨YP 1,XS (found a).length 1,YR a (found a) 0,Xc a (found a) 0⟩:=by
  unfold ZO;rw[I];have e:(List.replicate (found a).length (-1:Int)).set 0 0=XS (found a).length 1:=by
   apply LX
   ·simp[XS]
   intro k h1 h2;rw[MU];simp only[XS,List.getElem_map,List.getElem_range,List.getElem_replicate];by_cases e:k=0
   ·subst e;simp
   rw[if_neg (by omega),if_neg (by omega)]
  rw[e];simp[YP,YR,Xc]
 unfold ZJ;rw[if_neg (by omega)];simp only[];rw[V,I];have h':YY (YX a) (found a).length 0 ⟨YP 1,XS (found a).length 1,YR a (found a) 0,Xc a (found a) 0⟩=⟨YP (found a).length,XS (found a).length (found a).length,YR a (found a) (found a).length,Xc a (found a) (found a).length⟩:=h;rw[h'];simp only[KX];rfl
theorem Qec (E:QM a) (H:0<a.st):K5 (YX a)=true:=by
 unfold K5;rw[Qj7 E H];simp[(Zv _).2 (Qbu E).1]
theorem jl.can {a:QD}(h:jl a):K5 a=true:=by
 obtain ⟨E,h1,h2,rfl⟩:=h.c;exact Qec h1 h2
end
structure Xv (c:Q4):Prop where
 ev:c.ev.length=5∧JD c.ev=0
 c0:c.co.length≠0
 c3:c.co.length≤3
 r2:c.rq.length≤2
 co:∀x∈c.co,Xq x.nm=true∧jl x.a∧∀e∈x.a.al,e<5
 rq:∀x∈c.rq,Xq x.nm=true∧jl x.a∧∀e∈x.a.al,∃y∈c.co,e∈y.a.al
 nd:(c.co.map (·.nm)++c.rq.map (·.nm)).Nodup
 x2:c.ex.length≤2
 ex:∀x∈c.ex,Xq x.nm=true∧x.ls≠[]∧YF (szs c.co) none x.ls=0
 xn:(c.ex.map (·.nm)).Nodup
 k1:c.cs.length≤1
 cs:∀x∈c.cs,Xq x.nm=true∧Xu (szs c.co) x=0
theorem QkL (n:Nat) (x:Int):x∈KJ n↔0≤x∧x<(n:Int):=KW n x
theorem QkM (n:Nat):Z8 (KJ n):=Uj n
theorem Qlw {a b:LI}(ia:Z8 a) (ib:Z8 b) (h:∀e∈a,e∈b):(mns a b).length=0:=by
 refine Nat.eq_zero_of_not_pos λhp=>?_;obtain ⟨x,hx⟩:=List.exists_mem_of_length_pos hp;have:=(Kl ia ib x).1 hx;by_cases h1:x∈a
 ·simp[h1,h x h1] at this
 simp[h1] at this
theorem Qf7 {nev:Nat}{amg:LI}{seen:List ByteArray}{x:Yo}(H:Xq x.nm=true) (hs:x.nm∉seen) (E:jl x.a) (he:∀e∈x.a.al,e<(nev:Int)) (hi:Z8 amg) (hm:∀e∈x.a.al,e∈amg):Yl nev amg seen x=0:=by
 have hp:=E.p;unfold Yl;rw[if_neg (by rw[H];decide),if_neg hs,if_neg (by simpa using (Zv _).2 E.ok),if_neg (by rw[E.can];decide),if_neg (by omega),if_neg,if_neg (by simpa using Qlw E.ok.ali hi hm)];intro h;obtain ⟨e,h1,h2⟩:=Mk.1 h;have:=he e h1;have:=of_decide_eq_true h2;omega
theorem Qf8 {nev:Nat}{al:LI}(I:Z8 al):∀(l:List Yo) (s:List ByteArray) (u:LI),Z8 u→(∀x∈l,Xq x.nm=true∧jl x.a∧∀e∈x.a.al,e<(nev:Int)∧e∈al)→(s++l.map (·.nm)).Nodup →
  ∃E,Yq nev al s u l=(0,s++l.map (·.nm),E)∧Z8 E∧∀e,e∈E↔e∈u∨∃y∈l,e∈y.a.al
 | [],s,u,hu,_,_=>⟨u,by simp[Yq],hu,by simp⟩
 | x::l,s,u,hu,hx,H=>by
  obtain ⟨h1,h2,h3⟩:=hx x Lm;have J:x.nm∉s:=by
   intro hm;rw[L1,Mu] at H;exact H.2.2 _ hm _ Lm Z
  have U:=Qf7 h1 J h2 (λe he=>(h3 e he).1) I (λe he=>(h3 e he).2);obtain ⟨E,k1,k2,k3⟩:=Qf8 I l (s++[x.nm]) (mrg (· || ·) u x.a.al) (qV _ _ _ _ (Lv _) hu h2.ok.ali) (λy hy=>hx y (Lk _ hy)) (by simpa using H);refine ⟨E,?_,k2,λe=>?_⟩
  ·rw[Yq,if_neg (by simpa using U),k1];simp
  rw[k3,Kl hu h2.ok.ali];constructor
  ·rintro (⟨h5 | h5,_⟩ | ⟨y,hy,h6⟩)
   ·exact .inl h5
   ·exact .inr ⟨x,Lm,h5⟩
   exact .inr ⟨y,Lk _ hy,h6⟩
  rintro (h5 | ⟨y,hy,h6⟩)
  ·exact .inl ⟨.inl h5,by simp[h5]⟩
  rcases Lh.1 hy with rfl | hy
  ·exact .inl ⟨.inr h6,by simp[h6]⟩
  exact .inr ⟨y,hy,h6⟩
theorem Qf6 {nev:Nat}{u:LI}(hu:Z8 u):∀(l:List Yo) (s:List ByteArray),(∀x∈l,Xq x.nm=true∧jl x.a∧∀e∈x.a.al,e<(nev:Int)∧e∈u)→(s++l.map (·.nm)).Nodup→Kc nev u s l=0
 | [],s,_,_=>rfl
 | x::l,s,hx,E=>by
  obtain ⟨h1,h2,h3⟩:=hx x Lm;have H:x.nm∉s:=by
   intro hm;rw[L1,Mu] at E;exact E.2.2 _ hm _ Lm Z
  have I:=Qf7 h1 H h2 (λe he=>(h3 e he).1) hu (λe he=>(h3 e he).2);rw[Kc,if_neg (by simpa using I)];exact Qf6 hu l (s++[x.nm]) (λy hy=>hx y (Lk _ hy)) (by simpa using E)
theorem j9 {sz:LI}:∀(l:List Exc) (s:List ByteArray),(∀x∈l,Xq x.nm=true∧x.ls≠[]∧YF sz none x.ls=0)→(s++l.map (·.nm)).Nodup→Yw sz s l=0
 | [],s,_,_=>rfl
 | x::l,s,hx,E=>by
  obtain ⟨h1,h2,h3⟩:=hx x Lm;have H:x.nm∉s:=by
   intro hm;rw[L1,Mu] at E;exact E.2.2 _ hm _ Lm Z
  have I:Vd s x.nm=0:=by unfold Vd;rw[if_neg (by rw[h1];decide),if_neg H]
  have hl:x.ls.length≠0:=λh=>h2 (Lt h);have J:JQ sz x.ls=0:=by unfold JQ;rw[if_neg hl];exact h3
  rw[Yw,if_neg (by simpa using I),if_neg (by simpa using J)];exact j9 l (s++[x.nm]) (λy hy=>hx y (Lk _ hy)) (by simpa using E)
theorem QiA:∀{k:Nat},k<5→Xq (nm1 97 k)=true
 | 0,_=>by decide
 | 1,_=>by decide
 | 2,_=>by decide
 | 3,_=>by decide
 | 4,_=>by decide
theorem Xv.ck {c:Q4}(h:Xv c):Zf c=0:=by
 have V:=h.c3;have Y:=h.r2;have H:c.ev.length=5:=h.ev.1;obtain ⟨u',k1,k2,k3⟩:=Qf8 (nev:=c.ev.length) (al:=KJ c.ev.length) (QkM _) c.co [] [] List.Pairwise.nil (λx hx=>by
  obtain ⟨h1,h2,h3⟩:=h.co x hx;refine ⟨h1,h2,λe he=>?_⟩;have:=h3 e he;have:=(h2.ok.al e he).1;rw[H,QkL];exact ⟨by omega,by omega,by omega⟩) (by
  have:=h.nd;rw[Mu] at this;simpa using this.1)
 have I:=Qf6 (nev:=c.ev.length) k2 c.rq (c.co.map (·.nm)) (λx hx=>by
  obtain ⟨h1,h2,h3⟩:=h.rq x hx;refine ⟨h1,h2,λe he=>?_⟩;obtain ⟨y,hy,h4⟩:=h3 e he;have:=(h.co y hy).2.2 e h4;exact ⟨by omega,(k3 e).2 (.inr ⟨y,hy,h4⟩)⟩) h.nd
 unfold Zf;rw[if_neg (not_not_intro h.ev.2),if_neg h.c0,if_neg (by omega),k1];simp only[List.nil_append];rw[if_neg (by simp),if_neg (by simpa using I)];unfold YW;have ha:(szs c.co).length=c.co.length:=by unfold szs;simp
 have hc:=h.x2;have hk1:=h.k1;have J:¬(szs c.co).any Ky=true:=by
  intro hb;obtain ⟨n,h1,h2⟩:=Mk.1 hb;unfold szs at h1;obtain ⟨x,hx,rfl⟩:=Lq.1 h1;have:=(h.co x hx).2.1;have h3:=this.p;have h4:=this.s;unfold Ky at h2;simp at h2;omega
 rw[if_neg (by omega),if_neg J,if_neg (by omega),if_neg (by simpa using j9 c.ex [] h.ex (by simpa using h.xn))];rcases E:c.cs with _ | ⟨x,l⟩
 ·rfl
 have hl:l=[]:=Lt (by rw[E,LF] at hk1;omega);obtain ⟨h1,h2⟩:=h.cs x (by rw[E];exact Lm);have U:Vd [] x.nm=0:=by unfold Vd;rw[if_neg (by rw[h1];decide),if_neg (by simp)]
 rw[hl,Xb,if_neg (by simpa using U),if_neg (by simpa using h2)];rfl
end Go.Proofs.YtjcgijbhaemldaaGreatDoor
namespace Go.Proofs
open Go.Shelf
end Go.Proofs
namespace Go.Proofs.YtjcgijbhaemldaaGreatDoor
open Go.Lg Go.Sort Go.Lib
end Go.Proofs.YtjcgijbhaemldaaGreatDoor
namespace Go.Lg
section
variable {P:Program} {f:Fr} {w:World} {d:Option Nat} {ty:Nat} {ps:String} {af:Array Edge} {gd:Option (Nat×Bool)}
end
end Go.Lg
namespace Go.Proofs.YtjcgijbhaemldaaGreatDoor
open Go.Lg Go.Sort
end Go.Proofs.YtjcgijbhaemldaaGreatDoor
namespace Go.Lg
section
variable {P:Program} {f:Fr} {w:World} {K:Fr→World→Prop} {d:Option Nat} {ty:Nat} {ps:String} {af:Array Edge} {gd:Option (Nat×Bool)}
end
end Go.Lg
namespace Go.Proofs.YtjcgijbhaemldaaGreatDoor
open Go.Lg
end Go.Proofs.YtjcgijbhaemldaaGreatDoor
namespace Go.Lg
section
variable {P:Program} {f:Fr} {w:World} {K:Fr→World→Prop} {d:Option Nat} {ty:Nat} {ps:String} {af:Array Edge} {gd:Option (Nat×Bool)}
end
end Go.Lg
namespace Go.Proofs.YtjcgijbhaemldaaGreatDoor
open Go.Lg
theorem yg {α:Type}{sz:Nat}{g:α→LV}(E:∀x,(g x).length=sz):∀l:List α,(l.flatMap g).length=l.length*sz
 | []=>by simp
 | a::l=>by rw[LY,Ll,yg E l,E a,LF,Nat.succ_mul];omega
theorem Qmu {sz:LI}:∀(ls:List (Int×Int)) (pr:Option Int),(∀b,pr=some b→∀p∈ls,b<p.1)→ls.Pairwise (λp q=>p.1<q.1)→(∀p∈ls,0≤p.1∧p.1<(sz.length:Int)∧0≤p.2∧p.2<cget sz p.1.toNat)→YF sz pr ls=0
 | [],_,_,_,_=>rfl
 | p::ls,pr,hp,hs,hb=>by
  obtain ⟨h1,h2,h3,h4⟩:=hb p Lm;obtain ⟨k1,k2⟩:=L3.1 hs;have hl:zX pr p.1=false:=by
   cases pr with
   | none=>rfl
   | some b=>have:=hp b Z p Lm;unfold zX;exact decide_eq_false (by omega)
  rw[YF,if_neg (by omega),if_neg (by rw[hl];decide),if_neg (by omega)];exact Qmu ls (some p.1) (λb hb' q hq=>by cases hb';exact k1 q hq) k2 (λq hq=>hb q (Lk _ hq))
section
variable {base:Nat} {w w':World} {vc va vc' va':Value} {co:List IV} {al:List VD}
end
end Go.Proofs.YtjcgijbhaemldaaGreatDoor
namespace Go.Lg
section
variable {P:Program} {f:Fr} {w:World} {d:Option Nat} {ty:Nat} {ps:String} {af:Array Edge} {gd:Option (Nat×Bool)}
abbrev i4 (p:Int×Int×Int×Int):LV:=[.int .i64 p.1,.int .i64 p.2.1,.int .i64 p.2.2.1,.int .i64 p.2.2.2]
end
end Go.Lg
namespace Go.Proofs.YtjcgijbhaemldaaGreatDoor
open Go.Lg
def enc (u:LI):Int:=u.foldl (λn e=>n*33+(e+1)) 0
def rn (a:QD) (x:Int) (u:LI):Int:=u.foldl (λs v=>nxt a.ed s v) x
theorem Qfl {a:QD}(E:QM a) (v:Int):nxt a.ed (-1) v=-1:=by
 rw[XR];cases H:eget a.ed (-1) v with
 | none=>rfl
 | some u=>have:=(E.ed _ (ZV H)).1;simp only[] at this;omega
def x0 (a:QD):Int:=if 0<a.st then 0 else -1
end Go.Proofs.YtjcgijbhaemldaaGreatDoor
namespace Go.Lg
section
variable {P:Program} {ops:List Oper} {K:Fr→World→Prop} {f:Fr} {w:World} {d:Option Nat} {ty:Nat} {ps:String} {af:Array Edge} {gd:Option (Nat×Bool)}
end
section
variable {P:Program} {ops:List Oper} {K:Fr→World→Prop} {f:Fr} {w:World} {d:Option Nat} {ty:Nat} {ps:String} {af:Array Edge} {gd:Option (Nat×Bool)} {C:World→Prop} {pl:List (Nat×Bool)} {i0:Nat}
end
end Go.Lg
namespace Go.Proofs.YtjcgijbhaemldaaGreatDoor
open Go.Lg
end Go.Proofs.YtjcgijbhaemldaaGreatDoor
namespace Go.Lg
end Go.Lg
namespace Go.Proofs.YtjcgijbhaemldaaGreatDoor
open Go.Lg
theorem YZ.eq_iff (a b:YZ):a=b↔a.kd=b.kd∧a.ix=b.ix∧a.co=b.co:=by
 cases a;cases b;simp
instance mdlDec (a b:YZ):Decidable (a=b):=decidable_of_iff _ (YZ.eq_iff a b).symm
theorem z8 {a b:LI}(ha:Z8 a) (hb:Z8 b) (h:∀x,x∈a↔x∈b):a=b:=by
 have na:a.Nodup:=List.Pairwise.imp (λh=>by omega) ha;have nb:b.Nodup:=List.Pairwise.imp (λh=>by omega) hb;exact List.Perm.eq_of_pairwise (le:=λx y:Int=>x<y) (λa b _ _ h1 h2=>by omega) ha hb ((List.perm_ext_iff_of_nodup na nb).2 h)
theorem KY {m n:Nat}{e:Int}:e∈setK m n↔∃k:Nat,k<n∧e=(k:Int)∧m.testBit k=true:=by
 unfold setK;rw[Lq];constructor
 ·rintro ⟨k,hk,rfl⟩;rw[LL,L5] at hk;refine ⟨k,by omega,Z,?_⟩;have:=of_decide_eq_true hk.2;rw[Nat.testBit_eq_decide_div_mod_eq];rw[Nat.and_one_is_mod] at this;exact decide_eq_true this
 rintro ⟨k,hk,rfl,ht⟩;refine ⟨k,?_,Z⟩;rw[LL,L5];refine ⟨by omega,decide_eq_true ?_⟩;rw[Nat.testBit_eq_decide_div_mod_eq] at ht;rw[Nat.and_one_is_mod];exact of_decide_eq_true ht
theorem QaY (b k j:Nat):(orB b k).testBit j=true↔b.testBit j=true∨k=j:=by
 unfold orB;rw[Nat.testBit_or,Nat.one_shiftLeft,Nat.testBit_two_pow,Bool.or_eq_true,decide_eq_true_iff]
theorem QdV (j:Nat):∀(ls:List (Int×Int)) (b:Nat),(ls.foldl (λb l=>orB b l.1.toNat) b).testBit j=true↔b.testBit j=true∨∃p∈ls,p.1.toNat=j
 | [],b=>by simp
 | p::ls,b=>by
  rw[LM,QdV j ls,QaY];simp only[List.mem_cons,exists_eq_or_imp];exact or_assoc
theorem Qfe {ls:List (Int×Int)}{n:Nat}(h:∀p∈ls,0≤p.1∧p.1<(n:Int)) (hi:Z8 (ls.map (·.1))):setK (jd ls) n=ls.map (·.1):=by
 refine z8 (J1 _ _) hi λx=>?_;rw[KY,Lq];unfold jd;constructor
 ·rintro ⟨k,hk,rfl,ht⟩;rw[QdV] at ht;rcases ht with ht | ⟨p,hp,E⟩
  ·simp at ht
  exact ⟨p,hp,by have:=h p hp;omega⟩
 rintro ⟨p,hp,rfl⟩;have:=h p hp;exact ⟨p.1.toNat,by omega,by omega,(QdV _ _ _).2 (.inr ⟨p,hp,Z⟩)⟩
theorem QdI (x:Yo) (j:Nat):∀(l:List Yo) (k b:Nat),(rqB x k b l).testBit j=true↔b.testBit j=true∨∃i,∃h:i<l.length,k+i=j∧((l[i]'h).a.al.any λe=>decide (e∈x.a.al))=true
 | [],k,b=>by simp[rqB]
 | y::l,k,b=>by
  rw[rqB,QdI x j l];constructor
  ·rintro (h | ⟨i,hi,h1,h2⟩)
   ·by_cases hy:(y.a.al.any λe=>decide (e∈x.a.al))=true
    ·rw[if_pos hy,QaY] at h;rcases h with h | h
     ·exact .inl h
     exact .inr ⟨0,by simp,by omega,hy⟩
    rw[if_neg hy] at h;exact .inl h
   exact .inr ⟨i+1,by simp;omega,by omega,h2⟩
  rintro (h | ⟨i,hi,h1,h2⟩)
  ·refine .inl ?_;by_cases hy:(y.a.al.any λe=>decide (e∈x.a.al))=true
   ·rw[if_pos hy,QaY];exact .inl h
   rw[if_neg hy];exact h
  cases i with
  | zero =>
  have h3:(y.a.al.any λe=>decide (e∈x.a.al))=true:=h2;refine .inl ?_;rw[if_pos h3,QaY];exact .inr (by omega)
  | succ i=>exact .inr ⟨i,by simpa using hi,by omega,h2⟩
def mts (a b:LI):Bool:=a.any λe=>decide (e∈b)
theorem Qcl (a b:LI):mts a b=mts b a:=by
 unfold mts;rw[Bool.eq_iff_iff,Mk,Mk];constructor <;> rintro ⟨e,h1,h2⟩ <;> exact ⟨e,of_decide_eq_true h2,decide_eq_true h1⟩
def lmR (co:List Yo):Nat→List Yo→List YZ
 | _,[]=>[]
 | i,x::l=>⟨1,i,ixs (λy:Yo=>mts x.a.al y.a.al) 0 co⟩::lmR co (i+1) l
def lmP (kd:Int):Nat→List (List (Int×Int))→List YZ
 | _,[]=>[]
 | i,x::l=>⟨kd,i,x.map (·.1)⟩::lmP kd (i+1) l
def lmd (c:Q4):List YZ:=lmR c.co 0 c.rq++(lmP 2 0 (c.ex.map (·.ls))++lmP 3 0 (c.cs.map (·.ts)))
theorem XK {α:Type}(q:α→Bool) (x:Int):∀(l:List α) (i:Nat),x∈ixs q i l↔∃k,∃h:k<l.length,x=((i+k:Nat):Int)∧q (l[k]'h)=true
 | [],i=>by simp[ixs]
 | y::l,i=>by
  rw[ixs];have ih:=XK q x l (i+1);constructor
  ·intro h;by_cases hy:q y=true
   ·rw[if_pos hy] at h;rcases Lh.1 h with h | h
    ·exact ⟨0,by simp,by rw[h];simp,hy⟩
    obtain ⟨k,hk,h1,h2⟩:=ih.1 h;exact ⟨k+1,by simp;omega,by rw[h1];congr 1;omega,h2⟩
   rw[if_neg hy] at h;obtain ⟨k,hk,h1,h2⟩:=ih.1 h;exact ⟨k+1,by simp;omega,by rw[h1];congr 1;omega,h2⟩
  rintro ⟨k,hk,h1,h2⟩;cases k with
  | zero =>
   have h3:q y=true:=h2;rw[if_pos h3];exact Lh.2 (.inl (by rw[h1];simp))
  | succ k =>
   have h3:=ih.2 ⟨k,by simpa using hk,by rw[h1];congr 1;omega,h2⟩;split
   ·exact Lk _ h3
   exact h3
theorem Uu {α:Type}(q:α→Bool):∀(l:List α) (i:Nat),Z8 (ixs q i l)
 | [],_=>List.Pairwise.nil
 | y::l,i=>by
  rw[ixs];split
  ·refine L3.2 ⟨λx hx=>?_,Uu q l (i+1)⟩;obtain ⟨k,_,h1,_⟩:=(XK q x l (i+1)).1 hx;omega
  exact Uu q l (i+1)
theorem Qk9 {x:Yo}{co:List Yo}{n:Nat}(E:co.length≤n):setK (rqB x 0 0 co) n=ixs (λy:Yo=>mts x.a.al y.a.al) 0 co:=by
 refine z8 (J1 _ _) (Uu _ _ _) λe=>?_;rw[KY,XK];constructor
 ·rintro ⟨k,hk,rfl,ht⟩;rw[QdI] at ht;rcases ht with ht | ⟨i,hi,h1,h2⟩
  ·simp at ht
  exact ⟨i,hi,by omega,by rw[Qcl];exact h2⟩
 rintro ⟨k,hk,rfl,h2⟩;exact ⟨k,by omega,by simp,(QdI _ _ _ _ _).2 (.inr ⟨k,hk,by omega,by rw[Qcl] at h2;exact h2⟩)⟩
theorem zM {kd:Int}{f:List (Int×Int)→Prop}(E:∀ls,f ls→setK (jd ls) 8=ls.map (·.1)):∀(l:List (List (Int×Int))) (i:Nat),(∀x∈l,f x)→JB kd i (l.map jd)=lmP kd i l
 | [],_,_=>rfl
 | x::l,i,h=>by
  rw[L1,JB,lmP,E x (h x Lm),zM E l (i+1) (λy hy=>h y (Lk _ hy))]
theorem Qco {co:List Yo}(E:co.length≤8):∀(l:List Yo) (i:Nat),JB 1 i (l.map λx=>rqB x 0 0 co)=lmR co i l
 | [],_=>rfl
 | x::l,i=>by
  rw[L1,JB,lmR,Qk9 E,Qco E l (i+1)]
theorem Xv.lmd {c:Q4}(h:Xv c):mods c=lmd c:=by
 have h3:=h.c3;have I:(szs c.co).length=c.co.length:=by unfold szs;rw[Li]
 unfold mods Proofs.YtjcgijbhaemldaaGreatDoor.lmd srR srX srC;rw[Qco (by omega)];have e1:c.ex.map (λx=>jd x.ls)=(c.ex.map (·.ls)).map jd:=by rw[Mf];rfl
 have e2:c.cs.map (λx=>jd x.ts)=(c.cs.map (·.ts)).map jd:=by rw[Mf];rfl
 rw[e1,e2,zM (f:=λls=>(∀p∈ls,0≤p.1∧p.1<(8:Int))∧Z8 (ls.map (·.1))) (λls E=>Qfe (n:=8) E.1 E.2) _ _ (λls H=>?_),zM (f:=λls=>(∀p∈ls,0≤p.1∧p.1<(8:Int))∧Z8 (ls.map (·.1))) (λls E=>Qfe (n:=8) E.1 E.2) _ _ (λls H=>?_)]
 ·obtain ⟨x,hx,rfl⟩:=Lq.1 H;have h1:=(h.cs x hx).2;have h2:Xt (szs c.co) none x.ts=0:=by
   unfold Xu at h1;split at h1
   ·cases h1
   split at h1
   ·rename_i h9;exact absurd h1 h9
   rename_i h9;exact Lo.1 h9
  have h4:=Kq _ _ _ h2;exact ⟨λp hp=>by have:=h4.1 p hp;omega,h4.2.1⟩
 obtain ⟨x,hx,rfl⟩:=Lq.1 H;have h4:=Kr _ _ _ (h.ex x hx).2.2;exact ⟨λp hp=>by have:=h4.1 p hp;omega,h4.2.1⟩
end Go.Proofs.YtjcgijbhaemldaaGreatDoor
namespace Go.Lg
open Go.ChangeShapes Go.WideShapes Go.RowKit
section
variable {H:Type} {enc:TypeId×Value→H} {P:Program}
theorem Qaa (hl:laidOutB P=true) {W W':World}(hS:Step [] W W') {sp:Nat→Bool}:∀{ts:List TypeId}{vs:LV}{ds:List (DataW H)}{ps:List MemPlace},
  (ts.all λt=>P.readableRec t && decide (t<P.types.size))=true→DataW.TrodAll enc P W 0 (λ_=>true) true ts vs ds ps→(∀x∈ps,x.block<W.heap.size)→(∀x∈ps,sp x.block=true)→DataW.TrodAll enc P W' 0 sp true ts vs ds ps
 | [],vs,ds,ps,_,h,_,_=>by
  obtain ⟨rfl,rfl,rfl⟩:=trodAll_nil h;exact trodAll_mk0
 | t::ts,vs,ds,ps,E,h,I,hsp=>by
  obtain ⟨v,J,d,ds1,a,b,rfl,rfl,rfl,h1,h2⟩:=trodAll_cons h;simp only[List.all_cons,Bool.and_eq_true,decide_eq_true_eq] at E;have hb:Below W.heap.size W W':=hS.below;refine trodAll_cons_mk (WideElems.Trod_stays hl E.1.1 E.1.2 h1 (λx hx=>hb.same (I x (Lz _ hx))) (λx hx=>hsp x (Lz _ hx))) ?_
  exact Qaa hl hS (by simpa using E.2) h2 (λx hx=>I x (L4 _ hx)) (λx hx=>hsp x (L4 _ hx))
theorem Qi0 {f:Func}{s:ChangeSpec}{apart fresh handsOn again:Bool}{W W':World}{args:Array Value}{ds gs:List (DataW H)}{before:List MemPlace}{tb:TypeId}
  (hl:laidOutB P=true) (hh:(f.params.toList.all λt=>P.readableRec t && decide (t<P.types.size))=true) (U:f.resultTypes=#[tb]) (V:P.underlying tb=some .bool) (Y:s.vars=[])
  (E:s.fn H (ds++gs)={ results:=[.lit (.bool true)],args:=ds })
  (I:DataW.Whole enc P f.params.toList s.vars apart W args.toList ds gs before) (hS:Step [] W W'):s.post enc P f apart fresh handsOn again W args (.bool true) W':=by
 have J:=I.lt;have hi:=I;obtain ⟨p,q,hA,hV,rfl,hz,hn⟩:=I;rw[Y] at hV;obtain ⟨rfl,rfl⟩:=trodVars_none hV;rw[LS] at *;have hc:∀sp:Nat→Bool,(∀x∈p,sp x.block=true)→DataW.TrodAll enc P W' 0 sp true f.params.toList args.toList ds p:=λsp hsp=>Qaa hl hS hh hA J hsp
 have he:∀(b:Nat) (sp:Nat→Bool) (hd:Bool),DataW.TrodAll enc P W' b sp hd f.resultTypes.toList ((Value.bool true).resultList f.resultTypes.size) [.lit (.bool true)] []:=λb sp hd=>by
  rw[U];exact trodAll_mk1 (shut_bool V true)
 have hb:Below W.heap.size W W':=hS.below;have hf:∀sp:Nat→Bool,DataW.TrodVars enc P W' sp s.vars ([]:List (DataW H)) []:=λsp=>by rw[Y];rfl
 have hj:(s.fn H ds).results=[.lit (.bool true)]:=by rw[E]
 have hk:(s.fn H ds).args=ds:=by rw[E]
 have hm:(s.fn H ds).vars=[]:=by rw[E]
 have ho:∀(j:Nat) (t:TypeId) (r:Value),f.resultTypes[j]?=some t→((Value.bool true).resultList f.resultTypes.size)[j]?=some r→Value.okWide P W' .any 0 t r:=ok_one U Z (okWide_bool_mk V true);refine ⟨ds,[],p,[],p,[],hi,?_,?_,?_,?_,λ_=>⟨ho,[.lit (.bool true)]++ds,[],([]++p)++[],⟨[]++p,[],?_,?_,Z,?_,?_⟩,?_⟩⟩
 ·rw[LS,hj];exact he _ _ _
 ·rw[LS,hk];exact hc _ (λx hx=>by simpa using J x hx)
 ·rw[LS,hm];exact hf _
 ·exact World.keptBut_mono (λ_ f=>f.elim) (hb.frame (λ_=>False))
 ·exact trodAll_append (hc _ (λ_ _=>Z)) (he _ _ _)
 ·exact hf _
 ·intro b off hp;have hg:MemPlace.cell b off∈p:=by simpa using hp
  rw[hb.frozen (p:=⟨b,off,none⟩) (J _ hg)];exact hz b off hg
 ·intro ha;have:=hn ha;simpa using this
 intro x hx _;simpa using hx
end
end Go.Lg
namespace Go.Proofs.YtjcgijbhaemldaaGreatDoor
open Go.ChangeShapes Go.WideShapes Go.RowKit Go.Lg
theorem Qes:∀(l:LV),(∀v∈l,∃n:Nat,v=.int .u8 (n:Int)∧n<256)→∃ns:LN,l=bys ns∧ns.length=l.length∧∀n∈ns,n<256
 | [],_=>⟨[],Z,Z,by simp⟩
 | v::l,h=>by
  obtain ⟨n,rfl,E⟩:=h v Lm;obtain ⟨ns,h1,h2,h3⟩:=Qes l (λv H=>h v (Lk _ H));refine ⟨n::ns,by rw[h1];rfl,by simp[h2],λm hm=>?_⟩;rcases Lh.1 hm with rfl | hm
  ·exact E
  exact h3 m hm
theorem Qnj {n:Int}(h:(Lit.int .u8 n).wf=true):∃m:Nat,n=m∧m<256:=by
 simp only[Lit.wf,Bool.and_eq_true,decide_eq_true_eq] at h;rw[show IntKind.u8.min=0 from rfl,show IntKind.u8.max=255 from rfl] at h;exact ⟨n.toNat,by omega,by omega⟩
open Go.Proofs.Tryz
theorem Qnz {w:World}{b:Nat}{s:TypeId×Nat}(h:w.shape? b=some s):b<w.heap.size:=by
 unfold World.shape? at h;cases hb:w.heap[b]? with
 | none=>simp[hb] at h
 | some o=>exact (LK.1 hb).1
theorem QlY {P:Program}{w:World}{base:Nat}{a:Addr}{e:TypeId}{n:Nat}(h:w.has P .any base a e n):a.block<w.heap.size:=by
 obtain ⟨_,_,row,cells,h1,_⟩:=h;exact Qnz h1
theorem QkY {P:Program}{w:World}{base:Nat}{t e:TypeId}{a:Addr}{n c:Nat}(ht:P.underlying t=some (.slice e)) (h:Cell.okWide P w .any base t (.slice (some a) n c)):a.block<w.heap.size:=by
 simp only[Cell.okWide,Cell.ok,ht] at h;exact QlY h.2.2
theorem QiO {α:Type}{p:Nat→α→Prop}:∀(n:Nat),(∀i,i<n→∃e,p i e)→∃l:List α,l.length=n∧∀i (h:i<l.length),p i (l[i]'h)
 | 0,_=>⟨[],Z,λi h=>by simp at h⟩
 | n+1,h=>by
  obtain ⟨l,h1,h2⟩:=QiO n (λi hi=>h i (by omega));obtain ⟨e,he⟩:=h n (by omega);refine ⟨l++[e],by simp[h1],λi hi=>?_⟩;by_cases E:i<l.length
  ·rw[L7 E];exact h2 i E
  have:i=n:=by simp at hi;omega
  subst this;rw[MH (by omega)];simpa[h1] using he
theorem zP {α:Type}{f:α→Option Value}:∀{L:List α}{l:LV},L.mapM f=some l→l.length=L.length∧∀(i:Nat) (a:α),L[i]?=some a→f a=l[i]?
 | [],l,h=>by
  simp at h;subst h;exact ⟨Z,λi a h=>by simp at h⟩
 | x::L,l,h=>by
  simp only[List.mapM_cons,Option.bind_eq_bind,Option.pure_def,Option.bind_eq_some_iff] at h;obtain ⟨v,E,I,h1,h2⟩:=h;cases h2
  obtain ⟨h3,h4⟩:=zP h1;refine ⟨by simp[h3],λi a hi=>?_⟩;cases i with
  | zero=>simp at hi;subst hi;simpa using E
  | succ i=>simpa using h4 i a (by simpa using hi)
def kT (P:Program) (k:IntKind):Nat→TypeId→Bool
 | 0,_=>false
 | m+1,t=>match P.underlying t with
  | some (.int k')=>k' == k
  | some (.array n e)=>kT P k m e && decide (0<P.cellsOf e) && decide (P.cellsOf t=n*P.cellsOf e)
  | some (.struct fs)=>(List.range (P.cellsOf t)).all λj=>fs.toList.any λf=>kT P k m f.type && decide (f.offset≤j∧j<f.offset+P.cellsOf f.type)
  | _=>false
theorem Qbo {cs:LV}{o n j:Nat}{c:Value}(h:cs[j]?=some c) (h1:o≤j) (h2:j<o+n):c∈(cs.drop o).take n:=by
 refine Mr (i:=j - o) ?_;rw[Mo,if_pos (by omega),M2,show o+(j - o)=j by omega];exact h
section
variable {H:Type} {enc:TypeId×Value→H} {P:Program} {W:World} {base b0:Nat} {sp:Nat→Bool} {held:Bool}
theorem Us {k:IntKind}:∀(m:Nat) {t:TypeId}{cs:LV}{fuel:Nat}{x:DataW H×List MemPlace},kT P k m t=true→DataW.trod enc P W b0 sp held fuel t cs=some x→∀c∈cs,∃n,c=.int k n∧(Lit.int k n).wf=true
 | 0,_,_,_,_,h,_,_,_=>by cases h
 | m+1,t,cs,fuel,x,h,I,c,hc=>by
  unfold kT at h;obtain ⟨j,hj,U⟩:=LB hc;have J:cs[j]?=some c:=by rw[LE hj,U]
  split at h
  ·rename_i k' hu;have hk:k'=k:=by simpa using h
   subst hk;obtain ⟨n,h1,_,h2⟩:=DataW.trod_int hu I;rw[h1] at hc;exact ⟨n,Lc.1 hc,h2⟩
  ·rename_i n e hu;simp only[Bool.and_eq_true,decide_eq_true_eq] at h;obtain ⟨⟨h1,h2⟩,h3⟩:=h;obtain ⟨xs,V,_,_,hl,Y,hx⟩:=DataW.trod_array hu I;have ha:=Nat.div_add_mod j (P.cellsOf e);have hm:=Nat.mod_lt j h2;have hi:j / P.cellsOf e<n:=by
    refine (Nat.div_lt_iff_lt_mul h2).2 ?_;omega
   have E:=hx (j / P.cellsOf e) hi;rw[LE (show j / P.cellsOf e<xs.length by omega)] at E;rw[Nat.mul_comm] at ha;exact Us m h1 E c (Qbo J (by omega) (by omega))
  ·rename_i fs hu;obtain ⟨xs,V,_,_,hl,Y,hx⟩:=DataW.trod_struct hu I;have h1:=LZ.1 h j (L8.2 (by omega));obtain ⟨f,hb,h2⟩:=Mk.1 h1;simp only[Bool.and_eq_true,decide_eq_true_eq] at h2;obtain ⟨i,hi,he⟩:=LB hb;have hg:i<fs.size:=by simpa using hi
   have hh:fs[i]?=some f:=by rw[Array.getElem?_eq_getElem hg,←he];simp
   have E:=hx i f hh;rw[LE (show i<xs.length by omega)] at E;exact Us m h2.1 E c (Qbo J h2.2.1 h2.2.2)
  cases h
theorem UB {k:IntKind}{m:Nat}{fs:Array Field}{cs:LV}{xs:List (DataW H×List MemPlace)}{J:Nat}(U:xs.length=fs.size)
  (hx:∀(i:Nat) (f:Field),fs[i]?=some f→DataW.trod enc P W b0 sp held J f.type ((cs.drop f.offset).take (P.cellsOf f.type))=xs[i]?) {i j:Nat} {f:Field} {c:Value} (E:fs[i]?=some f) (hk:kT P k m f.type=true) (h1:f.offset≤j) (h2:j<f.offset+P.cellsOf f.type) (hc:cs[j]?=some c) :
  ∃n,c=.int k n∧(Lit.int k n).wf=true:=by
 have I:=hx i f E;have hi:i<fs.size:=(LK.1 E).1;rw[LE (show i<xs.length by omega)] at I;exact Us m hk I c (Qbo hc h1 h2)
theorem UV {c:Value}(h:∃n,c=.int .u8 n∧(Lit.int .u8 n).wf=true):∃n:Nat,c=.int .u8 (n:Int)∧n<256:=by
 obtain ⟨n,rfl,h1⟩:=h;obtain ⟨m,rfl,h2⟩:=Qnj h1;exact ⟨m,Z,h2⟩
end
theorem Qps {P:Program}{W:World}{base:Nat}{ts:List TypeId}{cs:Array Value}(h:∀(i:Nat) (v:Value),cs[i]?=some v→∃u,ts[i % ts.length]?=some u∧Cell.okWide P W .any base u v) (i:Nat) (t:TypeId) (v:Value) (E:cs[i]?=some v) (ht:ts[i % ts.length]?=some t):Cell.okWide P W .any base t v:=by
 obtain ⟨u,hu,k⟩:=h i v E;rw[ht] at hu;cases hu
 exact k
theorem Qoi {H:Type}{enc:TypeId×Value→H}{P:Program}{W:World}{b0 m:Nat}{sp:Nat→Bool}{held:Bool}{fs:Array Field}{cs:LV}{xs:List (DataW H×List MemPlace)}
  (h:∀(i:Nat) (f:Field),fs[i]?=some f→DataW.trod enc P W b0 sp held m f.type ((cs.drop f.offset).take (P.cellsOf f.type))=xs[i]?) (i:Nat) {f:Field} {t o:Nat} {c:Value} (E:fs[i]?=some f) (ht:f.type=t) (I:f.offset=o) (hc:P.cellsOf t=1) (J:(cs.drop o).take 1=[c]) (hi:i<xs.length) :
  DataW.trod enc P W b0 sp held m t [c]=some (xs[i]'hi):=by
 have e:=h i f E;rw[ht,I,hc,J] at e;rw[e];simp[hi]
theorem Qpg {W:World}{l:List (String×DataW Unit)}{a b:String×DataW Unit}(hl:l=[a,b,("internal/strconv.uint64pow10",Lib.tabData .u64 Lib.pow10Tab)]) (h:laidMetH prog l W) (hp:(l.all λx=>x.2.handleName?.isNone)=true):Tb W:=by
 rw[Go.MakeChecks.laidMetH_plain _ _ _ hp,hl] at h;exact Lib.tabIs_of_head (n:=20) (g:=0) (by kernel_rfl) (t:=375) (by kernel_rfl) (by kernel_rfl) (e:=334) (by kernel_rfl) (by kernel_rfl) (by kernel_rfl) h.tail.tail
section
variable {H:Type} {enc:TypeId×Value→H} {P:Program} {W:World} {base b0:Nat} {sp:Nat→Bool} {held:Bool}
end
theorem Qft (co:List Yo):∀(l:List Yo) (i:Nat),(lmR co i l).length=l.length
 | [],_=>rfl
 | _::l,i=>by rw[lmR,LF,LF,Qft co l]
theorem Qa5 (kd:Int):∀(l:List (List (Int×Int))) (i:Nat),(lmP kd i l).length=l.length
 | [],_=>rfl
 | _::l,i=>by rw[lmP,LF,LF,Qa5 kd l]
theorem Un (kd:Int) (m:YZ):∀(l:LN) (i:Nat),m∈JB kd i l↔m.kd=kd∧(i:Int)≤m.ix∧m.ix<((i+l.length:Nat):Int)∧m.co=setK (l.getD (m.ix.toNat - i) 0) 8
 | [],i=>by simp[JB];intros;omega
 | b::l,i=>by
  rw[JB,Lh,Un kd m l (i+1),LF];constructor
  ·rintro (h | ⟨h1,h2,h3,h4⟩)
   ·subst h;refine ⟨Z,MQ _,by simp only[];omega,?_⟩;rw[show (Int.toNat (i:Int)) - i=0 by omega];rfl
   refine ⟨h1,by omega,by omega,?_⟩;rw[h4,show m.ix.toNat - i=m.ix.toNat - (i+1)+1 by omega];rfl
  rintro ⟨h1,h2,h3,h4⟩;by_cases e:m.ix=(i:Int)
  ·left;rw[show m.ix.toNat - i=0 by omega] at h4;obtain ⟨a,b',E⟩:=m;simp only[] at h1 e h4;subst h1;subst e;rw[h4];rfl
  right;refine ⟨h1,by omega,by omega,?_⟩;rw[h4,show m.ix.toNat - i=m.ix.toNat - (i+1)+1 by omega];rfl
theorem Qcm {c:Q4}{m:YZ}:m∈mods c↔(1≤m.kd∧m.kd≤3)∧(0≤m.ix∧m.ix<((srK c m.kd).length:Int))∧m.co=setK ((srK c m.kd).getD m.ix.toNat 0) 8:=by
 unfold mods;rw[Lp,Lp,Un,Un,Un];simp only[Nat.zero_add,Nat.sub_zero,Int.natCast_zero];unfold srK;by_cases h1:m.kd=1
 ·simp[h1,and_assoc]
 by_cases h2:m.kd=2
 ·simp[h2,and_assoc]
 by_cases h3:m.kd=3
 ·simp[h3,and_assoc]
 simp[h1,h2,h3]
 intros;omega
def lkE (c:Q4) (m:YZ):Int:=if m.kd<1∨3<m.kd then 11 else if m.ix<0∨((srK c m.kd).length:Int)≤m.ix then 10 else if m∈lmd c then 0 else 13
theorem QlF {c:Q4}(h:Xv c) (m:YZ):mdE c m=lkE c m:=by
 unfold mdE lkE;rw[if_neg (by rw[h.ck];decide)];split
 ·rfl
 split
 ·rfl
 rename_i h1 h2;have e:(m.co=setK ((srK c m.kd).getD m.ix.toNat 0) 8)↔m∈lmd c:=by
  rw[←h.lmd,Qcm];exact ⟨λh=>⟨by omega,by omega,h⟩,λh=>h.2.2⟩
 simp only[e]
theorem QlE {c:Q4}(h:Xv c) {m:YZ}(hm:m∈lmd c):mdE c m=0:=by
 rw[QlF h];have h1:=Qcm.1 (by rw[h.lmd];exact hm);unfold lkE;rw[if_neg (by omega),if_neg (by omega),if_pos hm]
def rmT (E:List YZ):Nat→LI
 | 0=>[]
 | n+1=>rmT E n++(if (E.any λm=>decide ((n:Int)∈m.co))=true then [] else [(n:Int)])
theorem qR (E:List YZ) (x:Int):∀n,x∈rmT E n↔(0≤x∧x<(n:Int))∧∀m∈E,x∉m.co
 | 0=>by simp[rmT];intros;omega
 | n+1=>by
  rw[rmT,Lp,qR E x n];split
  ·rename_i h;obtain ⟨m,hm,h1⟩:=Mk.1 h;have h2:=of_decide_eq_true h1;constructor
   ·rintro (⟨h3,h4⟩ | h3)
    ·exact ⟨by omega,h4⟩
    cases h3
   rintro ⟨h3,h4⟩;refine .inl ⟨?_,h4⟩;have:x≠(n:Int):=λe=>h4 m hm (by rw[e];exact h2);omega
  rename_i h;have h1:∀m∈E,(n:Int)∉m.co:=λm hm h2=>h (Mk.2 ⟨m,hm,decide_eq_true h2⟩);constructor
  ·rintro (⟨h3,h4⟩ | h3)
   ·exact ⟨by omega,h4⟩
   rw[Lc.1 h3];exact ⟨by omega,h1⟩
  rintro ⟨h3,h4⟩;by_cases e:x=(n:Int)
  ·exact .inr (Lc.2 e)
  exact .inl ⟨by omega,h4⟩
theorem QaF (E:List YZ):∀n,Z8 (rmT E n)
 | 0=>List.Pairwise.nil
 | n+1=>by
  rw[rmT];split
  ·rw[LS];exact QaF E n
  refine MF.2 ⟨QaF E n,M9 _ _,λa ha b hb=>?_⟩;have:=((qR E a n).1 ha).1;rw[Lc.1 hb];omega
theorem QaE (E:List YZ):∀n,(rmT E n).length≤n
 | 0=>Lv _
 | n+1=>by
  rw[rmT,Ll];have:=QaE E n;split <;> simp <;> omega
theorem QaK {j:Nat}(hj:j<16):∀(l:LN) (E:Nat),(l.foldl (λl b=>l &&& (65535 ^^^ b)) E).testBit j=true↔E.testBit j=true∧∀b∈l,b.testBit j=false
 | [],E=>by simp
 | b::l,E=>by
  rw[LM,QaK hj l,Nat.testBit_and,Nat.testBit_xor,show (65535:Nat)=2 ^ 16 - 1 from rfl,Nat.testBit_two_pow_sub_one,decide_eq_true hj,Lu,MX];constructor
  ·rintro ⟨⟨h1,h2⟩,h3⟩;exact ⟨h1,by simpa using h2,h3⟩
  rintro ⟨h1,h2,h3⟩;exact ⟨⟨h1,by simpa using h2⟩,h3⟩
theorem Qa1 {kd:Int}{m:YZ}:∀(l:LN) (i:Nat),m∈JB kd i l→∃b∈l,m.co=setK b 8
 | [],_,h=>by cases h
 | b::l,i,h=>by
  rw[JB] at h;rcases Lh.1 h with h | h
  ·subst h;exact ⟨b,Lm ..,Z⟩
  obtain ⟨b',h1,h2⟩:=Qa1 l (i+1) h;exact ⟨b',Lk _ h1,h2⟩
theorem qW {kd:Int}{b:Nat}:∀(l:LN) (i:Nat),b∈l→∃m∈JB kd i l,m.co=setK b 8
 | [],_,h=>by cases h
 | b'::l,i,h=>by
  rw[JB];rcases Lh.1 h with h | h
  ·subst h;exact ⟨_,Lm ..,Z⟩
  obtain ⟨m,h1,h2⟩:=qW (kd:=kd) l (i+1) h;exact ⟨m,Lk _ h1,h2⟩
theorem QnV {c:Q4}{m:YZ}(h:m∈mods c):∃b∈sets c,m.co=setK b 8:=by
 unfold mods at h;unfold sets;rcases Lp.1 h with h | h
 ·obtain ⟨b,h1,h2⟩:=Qa1 _ _ h;exact ⟨b,Lz _ h1,h2⟩
 rcases Lp.1 h with h | h
 ·obtain ⟨b,h1,h2⟩:=Qa1 _ _ h;exact ⟨b,L4 _ (Lz _ h1),h2⟩
 obtain ⟨b,h1,h2⟩:=Qa1 _ _ h;exact ⟨b,L4 _ (L4 _ h1),h2⟩
theorem Qlv {c:Q4}{b:Nat}(h:b∈sets c):∃m∈mods c,m.co=setK b 8:=by
 unfold sets at h;unfold mods;rcases Lp.1 h with h | h
 ·obtain ⟨m,h1,h2⟩:=qW (kd:=1) _ 0 h;exact ⟨m,Lz _ h1,h2⟩
 rcases Lp.1 h with h | h
 ·obtain ⟨m,h1,h2⟩:=qW (kd:=2) _ 0 h;exact ⟨m,L4 _ (Lz _ h1),h2⟩
 obtain ⟨m,h1,h2⟩:=qW (kd:=3) _ 0 h;exact ⟨m,L4 _ (L4 _ h1),h2⟩
theorem QaJ {c:Q4}(E:c.co.length≤8):rem c=rmT (mods c) c.co.length:=by
 refine z8 (J1 _ _) (QaF _ _) λx=>?_;unfold rem;rw[KY,qR];constructor
 ·rintro ⟨k,hk,rfl,ht⟩;unfold QaL at ht;rw[QaK (by omega),Nat.testBit_two_pow_sub_one,decide_eq_true_iff] at ht;refine ⟨by omega,λm hm hx=>?_⟩;obtain ⟨b,hb,e⟩:=QnV hm;rw[e,KY] at hx;obtain ⟨k',_,H,h1⟩:=hx;have e2:k'=k:=by omega
  subst e2;rw[ht.2 b hb] at h1;cases h1
 rintro ⟨h1,h2⟩;refine ⟨x.toNat,by omega,by omega,?_⟩;unfold QaL;rw[QaK (by omega),Nat.testBit_two_pow_sub_one,decide_eq_true_iff];refine ⟨by omega,λb hb=>?_⟩;obtain ⟨m,hm,e⟩:=Qlv hb;have h3:=h2 m hm;rw[e,KY] at h3;refine Bool.eq_false_iff.2 λh4=>h3 ⟨x.toNat,by omega,by omega,h4⟩
abbrev dI:Yo:=⟨.empty,⟨[],0,[],[]⟩⟩
theorem QiR (co:List Yo):∀(l:List Yo) (i k:Nat) (h:k<l.length),(⟨1,((i+k:Nat):Int),ixs (λy:Yo=>mts (l[k]'h).a.al y.a.al) 0 co⟩:YZ)∈lmR co i l
 | x::l,i,0,_=>by rw[lmR];exact Lm
 | x::l,i,k+1,h=>by
  rw[lmR];have h1:=QiR co l (i+1) k (by simpa using h);rw[show i+1+k=i+(k+1) by omega] at h1;exact Lk _ h1
theorem Qd6 (kd:Int):∀(l:List (List (Int×Int))) (i k:Nat) (h:k<l.length),(⟨kd,((i+k:Nat):Int),(l[k]'h).map (·.1)⟩:YZ)∈lmP kd i l
 | x::l,i,0,_=>by rw[lmP];exact Lm
 | x::l,i,k+1,h=>by
  rw[lmP];have h1:=Qd6 kd l (i+1) k (by simpa using h);rw[show i+1+k=i+(k+1) by omega] at h1;exact Lk _ h1
theorem QiS {co:List Yo}{m:YZ}:∀(l:List Yo) (i:Nat),m∈lmR co i l→∃k,∃h:k<l.length,m=⟨1,((i+k:Nat):Int),ixs (λy:Yo=>mts (l[k]'h).a.al y.a.al) 0 co⟩
 | x::l,i,h=>by
  rw[lmR] at h;rcases Lh.1 h with h | h
  ·exact ⟨0,by simp,h⟩
  obtain ⟨k,hk,e⟩:=QiS l (i+1) h;rw[show i+1+k=i+(k+1) by omega] at e;exact ⟨k+1,by simpa using hk,e⟩
theorem Qd7 {kd:Int}{m:YZ}:∀(l:List (List (Int×Int))) (i:Nat),m∈lmP kd i l→∃k,∃h:k<l.length,m=⟨kd,((i+k:Nat):Int),(l[k]'h).map (·.1)⟩
 | x::l,i,h=>by
  rw[lmP] at h;rcases Lh.1 h with h | h
  ·exact ⟨0,by simp,h⟩
  obtain ⟨k,hk,e⟩:=Qd7 l (i+1) h;rw[show i+1+k=i+(k+1) by omega] at e;exact ⟨k+1,by simpa using hk,e⟩
def jb (c:Q4) (k:Nat):YZ:=⟨1,(k:Int),ixs (λy:Yo=>mts (c.rq.getD k dI).a.al y.a.al) 0 c.co⟩
def K7 (c:Q4) (k:Nat):YZ:=⟨2,(k:Int),(c.ex.getD k ⟨.empty,[]⟩).ls.map (·.1)⟩
def VG (c:Q4) (k:Nat):YZ:=⟨3,(k:Int),(c.cs.getD k ⟨.empty,[],0⟩).ts.map (·.1)⟩
theorem ZG {α:Type}{l:List α}{k:Nat}(h:k<l.length) (d:α):l.getD k d=l[k]'h:=by simp[List.getD,h]
theorem Je {c:Q4}(h:Xv c) {m:YZ}(hm:m∈mods c):(∃k,k<c.rq.length∧m=jb c k)∨(∃k,k<c.ex.length∧m=K7 c k)∨∃k,k<c.cs.length∧m=VG c k:=by
 rw[h.lmd] at hm;unfold lmd at hm;rcases Lp.1 hm with hm | hm
 ·obtain ⟨k,hk,e⟩:=QiS _ _ hm;rw[LR] at e;exact .inl ⟨k,hk,by rw[e];unfold jb;rw[ZG hk]⟩
 rcases Lp.1 hm with hm | hm
 ·obtain ⟨k,hk,e⟩:=Qd7 _ _ hm;have E:k<c.ex.length:=by simpa using hk
  rw[LR,LJ] at e;exact .inr (.inl ⟨k,E,by rw[e];unfold K7;rw[ZG E]⟩)
 obtain ⟨k,hk,e⟩:=Qd7 _ _ hm;have E:k<c.cs.length:=by simpa using hk
 rw[LR,LJ] at e;exact .inr (.inr ⟨k,E,by rw[e];unfold VG;rw[ZG E]⟩)
theorem QnD {c:Q4}(h:Xv c) {k:Nat}(hk:k<c.rq.length):jb c k∈mods c:=by
 rw[h.lmd];have h1:=QiR c.co c.rq 0 k hk;rw[LR] at h1;unfold jb;rw[ZG hk];exact Lz _ h1
theorem Qjz {c:Q4}(h:Xv c) {k:Nat}(hk:k<c.ex.length):K7 c k∈mods c:=by
 rw[h.lmd];have h1:=Qd6 2 (c.ex.map (·.ls)) 0 k (by simpa using hk);rw[LR,LJ] at h1;unfold K7;rw[ZG hk];exact L4 _ (Lz _ h1)
theorem QjO {c:Q4}(h:Xv c) {k:Nat}(hk:k<c.cs.length):VG c k∈mods c:=by
 rw[h.lmd];have h1:=Qd6 3 (c.cs.map (·.ts)) 0 k (by simpa using hk);rw[LR,LJ] at h1;unfold VG;rw[ZG hk];exact L4 _ (L4 _ h1)
theorem QpP {sz:LI}{x:JF}(h:Xu sz x=0):x.ts.length≠0∧Xt sz none x.ts=0∧grt x.bd=false:=by
 unfold Xu at h;split at h
 ·cases h
 rename_i E;split at h
 ·rename_i h9;exact absurd h h9
 rename_i h9;split at h
 ·cases h
 rename_i H;exact ⟨E,Lo.1 h9,by cases I:grt x.bd with | true=>exact absurd I H | false=>rfl⟩
theorem qO (l:List Yo):(Proofs.YtjcgijbhaemldaaGreatDoor.szs l).length=l.length:=by unfold Proofs.YtjcgijbhaemldaaGreatDoor.szs;rw[Li]
theorem XJ {c:Q4}(h:Xv c) {m:YZ}(hm:m∈mods c):Z8 m.co∧∀i∈m.co,0≤i∧i<(c.co.length:Int):=by
 rcases Je h hm with ⟨k,hk,e⟩ | ⟨k,hk,e⟩ | ⟨k,hk,e⟩
 ·rw[e];refine ⟨Uu _ _ _,λi hi=>?_⟩;obtain ⟨j,hj,e1,_⟩:=(XK _ _ _ _).1 (show i∈ixs _ 0 c.co from hi);omega
 ·rw[e];have hx:=h.ex _ (Le hk);have h1:=Kr _ _ _ hx.2.2;unfold K7;rw[ZG hk];refine ⟨h1.2.1,λi hi=>?_⟩;obtain ⟨p,hp,rfl⟩:=Lq.1 hi;have:=h1.1 p hp;rw[qO] at this;exact this
 rw[e];have hx:=h.cs _ (Le hk);have h1:=Kq _ _ _ (QpP hx.2).2.1;unfold VG;rw[ZG hk];refine ⟨h1.2.1,λi hi=>?_⟩;obtain ⟨p,hp,rfl⟩:=Lq.1 hi;have:=h1.1 p hp;rw[qO] at this;omega
theorem QfM {pre r:LI}{x:Int}(h:(pre++x::r).Nodup):(pre++x::r).idxOf x=pre.length:=by
 have hx:x∉pre:=λhx=>(Mu.1 h).2.2 x hx x Lm Z;rw[Mj,if_neg hx];simp
theorem QiZ {pr:Option Int}{n:Int}(hp:∀y,pr=some y→y<n):¬zX pr n=true:=by
 intro E;cases H:pr with
 | none=>rw[H] at E;cases E
 | some y =>
  rw[H] at E;have h1:=hp y H;have h2:n≤y:=of_decide_eq_true (show decide (n≤y)=true from E);omega
theorem Qc3 {sz sz' co:LI}(I:co.Nodup) (U:sz'.length=co.length) (J:∀k,k<co.length→cget sz' k=cget sz (cget co k).toNat):∀(ls:List (Int×Int)) (pre:LI) (pr H:Option Int),co=pre++ls.map (·.1)→(∀y,H=some y→y<(pre.length:Int))→YF sz pr ls=0→YF sz' H (ixP co ls)=0
 | [],_,_,_,_,_,_=>rfl
 | l::ls,pre,pr,H,hc,hp,h=>by
  have E:co=pre++l.1::ls.map (·.1):=hc;have e1:co.idxOf l.1=pre.length:=by rw[E];exact QfM (by rw[←E];exact I)
  have V:pre.length<co.length:=by rw[E];simp
  have e2:cget co pre.length=l.1:=by rw[E];unfold cget;simp
  have Y:ixP co (l::ls)=(((pre.length:Nat):Int),l.2)::ixP co ls:=by rw[←e1];rfl
  rw[YF] at h;split at h
  ·cases h
  split at h
  ·cases h
  split at h
  ·cases h
  rename_i h3;have h4:=J pre.length V;rw[e2] at h4;rw[Y,YF];simp only[Int.toNat_natCast];rw[if_neg (by omega),if_neg (QiZ hp),if_neg (by rw[h4];exact h3)];exact Qc3 I U J ls (pre++[l.1]) _ _ (by rw[E,LC];rfl) (λy hy=>by rw[←Option.some.inj hy,Ll,LG];omega) h
theorem Qc0 {sz sz' co:LI}(I:co.Nodup) (J:sz'.length=co.length):∀(ls:List (Int×Int)) (pre:LI) (pr H:Option Int),co=pre++ls.map (·.1)→(∀y,H=some y→y<(pre.length:Int))→Xt sz pr ls=0→Xt sz' H (ixP co ls)=0
 | [],_,_,_,_,_,_=>rfl
 | l::ls,pre,pr,H,hc,hp,h=>by
  have E:co=pre++l.1::ls.map (·.1):=hc;have e1:co.idxOf l.1=pre.length:=by rw[E];exact QfM (by rw[←E];exact I)
  have V:pre.length<co.length:=by rw[E];simp
  have U:ixP co (l::ls)=(((pre.length:Nat):Int),l.2)::ixP co ls:=by rw[←e1];rfl
  rw[Xt] at h;split at h
  ·cases h
  split at h
  ·cases h
  split at h
  ·cases h
  rename_i h3;rw[U,Xt];simp only[];rw[if_neg (by omega),if_neg (QiZ hp),if_neg h3];exact Qc0 I J ls (pre++[l.1]) _ _ (by rw[E,LC];rfl) (λy hy=>by rw[←Option.some.inj hy,Ll,LG];omega) h
theorem QeR (l:List Yo) (i:Nat):cget (Proofs.YtjcgijbhaemldaaGreatDoor.szs l) i=(l.getD i dI).a.st:=by
 unfold cget Proofs.YtjcgijbhaemldaaGreatDoor.szs;rw[LA,Nk,LA];cases l[i]? <;> rfl
theorem Ks (l:List Yo) (ix:LI):(chs l ix).length=ix.length:=by unfold chs;rw[Li]
theorem Qov {l:List Yo}{ix:LI}{k:Nat}(h:k<ix.length):(chs l ix).getD k dI=l.getD (cget ix k).toNat dI:=by
 have h1:k<(chs l ix).length:=by rw[Ks];exact h
 rw[ZG h1,←Q9 h];show (ix.map λi:Int=>l.getD i.toNat dI)[k]'(by rw[Li];exact h)=_;rw[LJ]
theorem Qmv {l:List Yo}{ix:LI}:∀k,k<ix.length→cget (Proofs.YtjcgijbhaemldaaGreatDoor.szs (chs l ix)) k=cget (Proofs.YtjcgijbhaemldaaGreatDoor.szs l) (cget ix k).toNat:=λk hk=>by
 rw[QeR,QeR,Qov hk]
theorem Qj5 {l:List Yo}{ix:LI}(hb:∀i∈ix,0≤i∧i<(l.length:Int)) {x:Yo}(hx:x∈chs l ix):x∈l:=by
 unfold chs at hx;obtain ⟨i,hi,rfl⟩:=Lq.1 hx;have h1:=hb i hi;have h2:i.toNat<l.length:=by omega
 have e:l.getD i.toNat dI=l[i.toNat]'h2:=ZG h2 dI;rw[e];exact Le h2
theorem Qbc {l:LI}(h:Z8 l):l.Nodup:=List.Pairwise.imp (λh=>by omega) h
theorem Qou {l:List Yo}{ix:LI}(hi:Z8 ix) (hb:∀i∈ix,0≤i∧i<(l.length:Int)) (J:(l.map (·.nm)).Nodup):((chs l ix).map (·.nm)).Nodup:=by
 unfold chs;rw[Mf];unfold List.Nodup;rw[ME];refine List.Pairwise.imp_of_mem (λ{i j} h1 h2 U e=>U ?_) (Qbc hi);have V:=hb i h1;have Y:=hb j h2;have E:i.toNat<l.length:=by omega
 have H:j.toNat<l.length:=by omega
 have I:(l.getD i.toNat dI).nm=(l.getD j.toNat dI).nm:=e;rw[ZG E,ZG H] at I;have:=jG J (i:=i.toNat) (j:=j.toNat) (by simpa using E) (by simpa using H) (by rw[List.getElem_map,List.getElem_map];exact I);omega
theorem Qay {c:Q4}(h:Xv c) {co:LI}{rq:List Yo}{ex:List Exc}{cs:List JF}(hi:Z8 co) (hb:∀i∈co,0≤i∧i<(c.co.length:Int)) (J:co≠[]) (U:rq.length≤1)
  (E:∀x∈rq,x∈c.rq∧∀e∈x.a.al,∃y∈chs c.co co,e∈y.a.al) (V:ex.length≤1) (Y:∀x∈ex,Xq x.nm=true∧x.ls≠[]∧YF (Proofs.YtjcgijbhaemldaaGreatDoor.szs (chs c.co co)) none x.ls=0)
  (hk1:cs.length≤1) (hc:∀x∈cs,Xq x.nm=true∧Xu (Proofs.YtjcgijbhaemldaaGreatDoor.szs (chs c.co co)) x=0):Xv ⟨c.ev,chs c.co co,rq,ex,cs⟩:=by
 have H:=Mu.1 h.nd;have I:∀{α:Type} (l:List α),l.length≤1→l.Nodup:=λl hl=>by
  match l,hl with
  | [],_=>exact MC
  | [x],_=>simp
  | x::y::l,hl=>simp at hl
 have he:=pig c.co.length co (Qbc hi) hb;have h3:=h.c3;refine ⟨h.ev,?_,?_,?_,λx hx=>h.co x (Qj5 hb hx),λx hx=>?_,?_,?_,Y,I _ (by rw[Li];exact V),hk1,hc⟩
 ·show (chs c.co co).length≠0;rw[Ks];exact λe=>J (Lt e)
 ·show (chs c.co co).length≤3;rw[Ks];omega
 ·show rq.length≤2;omega
 ·have h4:=h.rq x (E x hx).1;exact ⟨h4.1,h4.2.1,(E x hx).2⟩
 ·show ((chs c.co co).map (·.nm)++rq.map (·.nm)).Nodup;refine Mu.2 ⟨Qou hi hb H.1,I _ (by rw[Li];exact U),λa ha b hb'=>?_⟩;obtain ⟨x,hx,rfl⟩:=Lq.1 ha;obtain ⟨y,hy,rfl⟩:=Lq.1 hb';exact H.2.2 _ (Lq.2 ⟨x,Qj5 hb hx,Z⟩) _ (Lq.2 ⟨y,(E y hy).1,Z⟩)
 show ex.length≤2;omega
theorem U4 (c:Q4) (k:Nat):prt (jb c k)=⟨(jb c k).co,[(k:Int)],[],[]⟩:=rfl
theorem QdT (c:Q4) (k:Nat):prt (K7 c k)=⟨(K7 c k).co,[],[(k:Int)],[]⟩:=rfl
theorem QdU (c:Q4) (k:Nat):prt (VG c k)=⟨(VG c k).co,[],[],[(k:Int)]⟩:=rfl
theorem zN (c:Q4) (k:Nat):Yb c (jb c k)=⟨c.ev,chs c.co (jb c k).co,[c.rq.getD k dI],[],[]⟩:=rfl
theorem jJ (c:Q4) (k:Nat):Yb c (K7 c k)=⟨c.ev,chs c.co (K7 c k).co,[],[⟨(c.ex.getD k ⟨.empty,[]⟩).nm,ixP (K7 c k).co (c.ex.getD k ⟨.empty,[]⟩).ls⟩],[]⟩:=rfl
theorem jK (c:Q4) (k:Nat):Yb c (VG c k)=⟨c.ev,chs c.co (VG c k).co,[],[],[⟨(c.cs.getD k ⟨.empty,[],0⟩).nm,ixP (VG c k).co (c.cs.getD k ⟨.empty,[],0⟩).ts,(c.cs.getD k ⟨.empty,[],0⟩).bd⟩]⟩:=rfl
theorem QfF (co:LI) (ls:List (Int×Int)):(ixP co ls).length=ls.length:=by unfold ixP;rw[Li]
theorem KZ {c:Q4}(h:Xv c) {m:YZ}(hm:m∈mods c) (E:m.co≠[]):Xv (Yb c m):=by
 obtain ⟨hi,hb⟩:=XJ h hm;rcases Je h hm with ⟨k,hk,e⟩ | ⟨k,hk,e⟩ | ⟨k,hk,e⟩
 ·subst e;rw[zN];refine Qay h hi hb E (Lv 1) (λx hx=>?_) (Ln _) nofun (Ln _) nofun;rw[Lc.1 hx,ZG hk];refine ⟨Le hk,λe he=>?_⟩;obtain ⟨y,hy,J⟩:=(h.rq _ (Le hk)).2.2 e he;obtain ⟨j,hj,rfl⟩:=LB hy;refine ⟨c.co[j]'hj,?_,J⟩;unfold chs
  refine Lq.2 ⟨(j:Int),(XK _ _ _ _).2 ⟨j,hj,by rw[LR],?_⟩,ZG hj dI⟩;rw[ZG hk];unfold mts;exact Mk.2 ⟨e,he,decide_eq_true J⟩
 ·subst e;rw[jJ];have hx:=h.ex _ (Le hk);refine Qay h hi hb E (Ln _) nofun (Lv 1) (λx H=>?_) (Ln _) nofun;rw[Lc.1 H,ZG hk]
  refine ⟨hx.1,λe=>hx.2.1 (Lt (by have h9:=congrArg List.length (show ixP (K7 c k).co (c.ex[k]'hk).ls=[] from e);rwa [QfF] at h9)),Qc3 (Qbc hi) (by rw[qO,Ks]) Qmv _ [] none none ?_ nofun hx.2.2⟩;unfold K7;rw[ZG hk];rfl
 subst e;rw[jK];have hx:=h.cs _ (Le hk);have I:=QpP hx.2;refine Qay h hi hb E (Ln _) nofun (Ln _) nofun (Lv 1) (λx H=>?_);rw[Lc.1 H,ZG hk];refine ⟨hx.1,?_⟩;have U:=Qc0 (sz':=Proofs.YtjcgijbhaemldaaGreatDoor.szs (chs c.co (VG c k).co)) (Qbc hi) (by rw[qO,Ks]) _ [] none none (by unfold VG;rw[ZG hk];rfl) nofun I.2.1;unfold Xu
 simp only[];rw[QfF,if_neg I.1,if_neg (not_not_intro U),if_neg (by rw[I.2.2];decide)]
theorem QiH {co:LI}{ls:List (Int×Int)}(h:co=ls.map (·.1)):mis co ls=false:=by
 unfold mis;rw[M8];intro l hl;have h1:l.1∈co:=by rw[h];exact Lq.2 ⟨l,hl,Z⟩
 simpa using h1
theorem Qbr {n:Int}{k:Nat}(h:(k:Int)<n):YV n none [(k:Int)]=0 :=
 (Z6 _ _ _).2 ⟨λx hx=>by rw[Lc.1 hx];omega,M9 ..,nofun⟩
theorem QnX {c:Q4}(h:Xv c) {m:YZ}(hm:m∈mods c):zr c (prt m)=Zf (Yb c m):=by
 obtain ⟨hi,hb⟩:=XJ h hm;have h1:YV c.co.length none (prt m).co=0:=(Z6 _ _ _).2 ⟨hb,hi,nofun⟩;have key:YV c.rq.length none (prt m).rq=0∧YV c.ex.length none (prt m).ex=0∧YV c.cs.length none (prt m).cs=0∧Qh0 c (prt m)=false:=by
  rcases Je h hm with ⟨k,hk,e⟩ | ⟨k,hk,e⟩ | ⟨k,hk,e⟩
  ·subst e;exact ⟨Qbr (by omega),Z,Z,Z⟩
  ·subst e;refine ⟨rfl,Qbr (by omega),Z,?_⟩;unfold Qh0;rw[QdT];simp only[List.any_cons,List.any_nil,Bool.or_false,Int.toNat_natCast];exact QiH Z
  subst e;refine ⟨rfl,Z,Qbr (by omega),?_⟩;unfold Qh0;rw[QdU];simp only[List.any_cons,List.any_nil,Bool.or_false,Bool.false_or,Int.toNat_natCast];exact QiH Z
 unfold zr;rw[if_neg (not_not_intro h.ck),if_neg (not_not_intro h1),if_neg (not_not_intro key.1),if_neg (not_not_intro key.2.1),if_neg (not_not_intro key.2.2.1),if_neg (by rw[key.2.2.2];decide)];rfl
theorem QnY {c:Q4}(h:Xv c) {m:YZ}(E:m.co=[]):Zf (Yb c m)=12:=by
 have e1:JD (Yb c m).ev=0:=h.ev.2;have e2:(Yb c m).co.length=0:=by
  show (chs c.co (prt m).co).length=0;rw[Ks];show m.co.length=0;rw[E];rfl
 unfold Zf;rw[if_neg (not_not_intro e1),if_pos e2]
theorem Zw {c:Q4}(h:Xv c):(∀a∈auts c.co++auts c.rq,jl a):=λa ha=>by
 rcases Lp.1 ha with ha | ha
 ·obtain ⟨x,hx,rfl⟩:=Lq.1 ha;exact (h.co x hx).2.1
 obtain ⟨x,hx,rfl⟩:=Lq.1 ha;exact (h.rq x hx).2.1
theorem Zx (l:List Yo):(auts l).length=l.length:=by unfold auts;rw[Li]
theorem QcH {aa:List QD}(h:∀a∈aa,jl a) (hl:aa.length≤5):JP aa=0∧∃z,sync aa=some z:=by
 refine ⟨?_,Qhy (k:=3) (λa ha=>(h a ha).ok) (λa ha=>(h a ha).s) ?_⟩
 ·unfold JP;rw[if_neg (by omega)];exact (Jw _).2 λa ha=>(h a ha).ok
 exact LT (Nat.pow_le_pow_right (by omega) hl) (by decide)
theorem UI {c:Q4}(h:Xv c):∃pl ps sa ts,sync (auts c.co)=some (pl,ps)∧sync (auts c.co++auts c.rq)=some (sa,ts)∧Xh c=0:=by
 have h3:=h.c3;have h2:=h.r2;have E:=Zw h;obtain ⟨k1,⟨pl,ps⟩,e1⟩:=QcH (aa:=auts c.co) (λa ha=>E a (Lz _ ha)) (by rw[Zx];omega);obtain ⟨k2,⟨sa,ts⟩,e2⟩:=QcH (aa:=auts c.co++auts c.rq) E (by rw[Ll,Zx,Zx];omega);refine ⟨pl,ps,sa,ts,e1,e2,?_⟩;unfold Xh;rw[if_neg (not_not_intro h.ck),if_neg (not_not_intro k1),e1];simp only[];rw[if_neg (not_not_intro k2),e2]
end Go.Proofs.YtjcgijbhaemldaaGreatDoor
