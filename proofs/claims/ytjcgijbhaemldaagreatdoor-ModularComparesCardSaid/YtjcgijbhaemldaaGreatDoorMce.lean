/- Merged out of 45 texts. -/
import Derived.Test.YtjcgijbhaemldaaGreatDoorMcd
import Derived.Shelf.Lay
import Derived.Sort.Grow
import Derived.Deep.Draws
import Derived.Sort.Statements
import Derived.Tactics2
import Derived.Laws.IdiomStrings
import Derived.Shelf.SortM.Plain
import Derived.Shelf.SortM.SortNone
import Derived.Shelf.SlicesE.Compact
import Derived.Shelf.SlicesE.DeleteFunc
import Derived.Ground.SlgmProg
import Derived.Ground.SlgnProg
import Derived.Ground.SlgfProg
namespace Go.Proofs.YtjcgijbhaemldaaGreatDoor
open Go.Lg
def cnF (ord:LI)(j:Nat)(e:Ed):Ed:=((j:Int),e.2.1,(ord.idxOf e.2.2:Int))
def j5 (a:QO)(ord:LI)(j:Nat):List Ed:=(ZC a.ed (Zr ord j)).map (cnF ord j)
theorem Qba {l r:LI}{j:Nat}(h:j<l.length):Zr (l++r) j=Zr l j:=by unfold Zr;rw[L9];exact zw h
structure NuI (st:Int)(ord num:LI):Prop where
 nd:ord.Nodup
 bd:∀s∈ord,0≤s∧s<st
 nl:num.length=st.toNat
 nu:∀k,0≤k→k<st→Zr num k=if k∈ord then(ord.idxOf k:Int)else -1
theorem Qb7 {st:Int}{i:Nat}{c:Cs}(h:NuI st c.ord c.num){e:Ed}(G:0≤e.2.2)(h1:e.2.2<st):NuI st (Zj i c e).ord (Zj i c e).num∧(∃r,(Zj i c e).ord=c.ord++r)∧(Zj i c e).mk'=c.mk'∧(Zj i c e).ed=c.ed++[cnF (Zj i c e).ord i e]∧e.2.2∈(Zj i c e).ord:=by
 have E:=h.nu e.2.2 G h1;have I:e.2.2.toNat<c.num.length:=by rw[h.nl];omega
 unfold Zj;by_cases hm:e.2.2∈c.ord
 ·rw[if_pos hm]at E;rw[if_neg (by rw[E];omega)];refine⟨h,⟨[],by simp⟩,rfl,?_,hm⟩;simp only[cnF];rw[E]
 rw[if_neg hm]at E;rw[if_pos (by rw[E];decide)];have H:(c.ord++[e.2.2]).idxOf e.2.2=c.ord.length:=by rw[Mm,if_neg hm];simp
 refine⟨⟨JN h.nd hm,λs hs=>?_,by simp[h.nl],λk J k1=>?_⟩,⟨[e.2.2],rfl⟩,rfl,?_,by simp⟩
 ·rcases Lq.1 hs with hs|hs
  ·exact h.bd s hs
  simp only[List.mem_singleton]at hs;subst hs;exact⟨G,h1⟩
 ·simp only[];by_cases ek:k=e.2.2
  ·subst ek;rw[if_pos (by simp),H];unfold Zr;simp[List.getD,List.getElem?_set_self I]
  have T:e.2.2.toNat≠k.toNat:=by omega
  have e1:Zr (c.num.set e.2.2.toNat c.ord.length) k=Zr c.num k:=by unfold Zr;simp[List.getD,List.getElem?_set_ne T]
  rw[e1,h.nu k J k1];by_cases hk:k∈c.ord
  ·rw[if_pos hk,if_pos (LQ _ hk),Mm,if_pos hk]
  rw[if_neg hk,if_neg (λU=>by
   rcases Lq.1 U with h2|h2
   ·exact hk h2
   simp only[List.mem_singleton]at h2;exact ek h2)]
 simp only[cnF];rw[H]
theorem qu {st:Int}{i:Nat}:∀(es:List Ed) (c:Cs),NuI st c.ord c.num→(∀e∈es,0≤e.2.2∧e.2.2<st)→NuI st (es.foldl (Zj i) c).ord (es.foldl (Zj i) c).num∧(∃r,(es.foldl (Zj i) c).ord=c.ord++r)∧(es.foldl (Zj i) c).mk'=c.mk' ∧
  (es.foldl (Zj i) c).ed=c.ed++es.map (cnF (es.foldl (Zj i) c).ord i)∧∀e∈es,e.2.2∈(es.foldl (Zj i) c).ord
 | [],c,h,_=>⟨h,⟨[],by simp⟩,rfl,by simp,λe he=>by cases he⟩
 | e::es,c,h,hb=>by
  obtain⟨E,G⟩:=hb e Lp;obtain⟨h1,⟨H,h2⟩,h3,h4,h5⟩:=Qb7 (i:=i) h E G;obtain⟨k1,⟨r2,k2⟩,k3,I,J⟩:=qu (i:=i) es (Zj i c e) h1 (λd hd=>hb d (Lk _ hd));rw[LM];refine⟨k1,⟨H++r2,by rw[k2,h2,LB]⟩,k3.trans h3,?_,λd hd=>?_⟩
  ·rw[I,h4,LB,LT];have:cnF (Zj i c e).ord i e=cnF (es.foldl (Zj i) (Zj i c e)).ord i e:=by
    unfold cnF;rw[k2,Mm,if_pos h5]
   rw[this];rfl
  rcases Lc.1 hd with rfl|hd
  ·rw[k2];exact LQ _ h5
  exact J d hd
structure CnG (a:QO)(i:Nat)(c:Cs):Prop where
 nu:NuI a.st c.ord c.num
 le:i≤c.ord.length
 hd:Zr c.ord 0=0∧0<c.ord.length
 mk2:c.mk'=((List.range' 0 i).filter λj:Nat=>decide (Zr c.ord j∈a.mr)).map λj:Nat=>(j:Int)
 ed:c.ed=(List.range' 0 i).flatMap (j5 a c.ord)
 cl:∀j,j<i→∀e∈ZC a.ed (Zr c.ord j),e.2.2∈c.ord
theorem Qkl {a:QO}{ord r:LI}{j:Nat}(hj:j<ord.length)(hc:∀e∈ZC a.ed (Zr ord j),e.2.2∈ord):j5 a (ord++r) j=j5 a ord j:=by
 unfold j5;rw[Qba hj];refine Nu λe he=>?_;unfold cnF;rw[Mm,if_pos (hc e he)]
theorem CnG.next {a:QO}(J:Q2 a){i:Nat}{c:Cs}(h:CnG a i c)(hi:i<c.ord.length):CnG a (i+1) (UW a i c):=by
 unfold UW;have G:(ZS a i c).ord=c.ord:=by unfold ZS;split <;> rfl
 have T:(ZS a i c).num=c.num:=by unfold ZS;split <;> rfl
 have U:(ZS a i c).ed=c.ed:=by unfold ZS;split <;> rfl
 obtain⟨k1,⟨r,k2⟩,k3,E,H⟩:=qu (st:=a.st) (i:=i) (ZC a.ed (Zr c.ord i)) (ZS a i c) (by rw[G,T];exact h.nu) (λe he=>(J.ed e (Ys he).1).2.2.2);generalize (ZC a.ed (Zr c.ord i)).foldl (Zj i) (ZS a i c)=d at k1 k2 k3 E H;rw[G]at k2;rw[U]at E;have pre:∀j:Nat,j≤i→Zr d.ord j=Zr c.ord j:=λj hj=>by rw[k2];exact Qba (by omega)
 refine⟨k1,by rw[k2];simp;omega,⟨by have:=pre 0 (by omega);rw[show((0:Nat):Int)=0 from rfl]at this;rw[this];exact h.hd.1,by rw[k2];simp;omega⟩,?_,?_,λj hj=>?_⟩
 ·rw[k3,Me,L2,Lv,LO];have e1:((List.range' 0 i).filter λj:Nat=>decide (Zr d.ord j∈a.mr))=(List.range' 0 i).filter λj:Nat=>decide (Zr c.ord j∈a.mr):=by
   refine List.filter_congr λj hj=>?_;rw[L7]at hj;rw[pre j (by omega)]
  rw[e1];unfold ZS;by_cases hm:Zr c.ord i∈a.mr
  ·rw[if_pos hm];simp only[];rw[Ma,if_pos (by rw[pre i (Lt _)];exact decide_eq_true hm),Np,h.mk2];rfl
  rw[if_neg hm];rw[Ma,if_neg (by rw[pre i (Lt _),decide_eq_false hm];simp),Np,h.mk2];simp
 ·rw[E,Me,LC,LO,h.ed];congr 1
  ·refine X2 λj hj=>?_;rw[L7]at hj;rw[k2];exact(Qkl (by omega) (h.cl j (by omega))).symm
  simp only[List.flatMap_cons,List.flatMap_nil,List.append_nil];unfold j5;rw[pre i (Lt _)]
 by_cases e:j=i
 ·subst e;rw[pre j (Lt _)];exact H
 intro V I;rw[pre j (by omega)]at I;rw[k2];exact LQ _ (h.cl j (by omega) V I)
theorem y7 {a:QO}(G:Q2 a):∀(f i:Nat) (c:Cs),CnG a i c→∃E,CnG a E (Xh a f i c)∧((Xh a f i c).ord.length=E∨E=i+f)
 | 0,i,c,h=>⟨i,h,.inr O⟩
 | f+1,i,c,h=>by
  rw[Xh];split
  ·rename_i hi;obtain⟨E,h1,h2⟩:=y7 G f (i+1) _ (h.next G hi);exact⟨E,h1,by omega⟩
  exact⟨i,h,.inl (by have:=h.le;omega)⟩
structure CnP (a:QO)(ord:LI):Prop where
 nd:ord.Nodup
 bd:∀s∈ord,0≤s∧s<a.st
 hd:Zr ord 0=0∧0<ord.length
 al:(YJ a).al=a.al
 st:(YJ a).st=(ord.length:Int)
 mk2:(YJ a).mr=((List.range' 0 ord.length).filter λj:Nat=>decide (Zr ord j∈a.mr)).map λj:Nat=>(j:Int)
 ed:(YJ a).ed=(List.range' 0 ord.length).flatMap (j5 a ord)
 cl:∀j,j<ord.length→∀e∈ZC a.ed (Zr ord j),e.2.2∈ord
theorem y9 {a:QO}(G:Q2 a)(Y:0<a.st):∃ord,CnP a ord:=by
 have H:0<a.st.toNat:=by omega
 have I:CnG a 0 (Yj a):=by
  refine⟨⟨by simp[Yj],λs hs=>by simp[Yj]at hs;subst hs;omega,by simp[Yj],λk k0 k1=>?_⟩,Ll _,⟨by simp[Yj,Zr],by simp[Yj]⟩,by simp[Yj],by simp[Yj],λj hj=>by omega⟩;by_cases ek:k=0
  ·subst ek;rw[if_pos (by simp[Yj])];unfold Zr Yj;simp[List.getD,H]
  rw[if_neg (by simpa[Yj]using ek)];unfold Yj;have J:0≠k.toNat:=by omega
  have T:k.toNat<a.st.toNat:=by omega
  unfold Zr;rw[MH,MR J];simp[T]
 obtain⟨U,h1,h2⟩:=y7 G a.st.toNat 0 (Yj a) I;have ha:(Xh a a.st.toNat 0 (Yj a)).ord.length≤a.st.toNat:=pig _ _ h1.nu.nd (λx hx=>by have:=h1.nu.bd x hx;omega);have V:U=(Xh a a.st.toNat 0 (Yj a)).ord.length:=by have:=h1.le;omega
 subst V;have E:YJ a=⟨a.al,((Xh a a.st.toNat 0 (Yj a)).ord.length:Int),(Xh a a.st.toNat 0 (Yj a)).mk',(Xh a a.st.toNat 0 (Yj a)).ed⟩:=by unfold YJ;rw[if_neg (by omega)]
 refine⟨(Xh a a.st.toNat 0 (Yj a)).ord,h1.nu.nd,h1.nu.bd,h1.hd,by rw[E],by rw[E],?_,?_,h1.cl⟩
 ·rw[E];exact h1.mk2
 rw[E];exact h1.ed
theorem Qhy (es:List Ed)(s v:Int):eget es s v=eget (ZC es s) s v:=by
 induction es with
 | nil=>rfl
 | cons e es ih =>
  unfold ZC at *;rw[Ma];by_cases h:e.1=s
  ·rw[if_pos (by simpa using h),eget,eget,ih]
  rw[if_neg (by simpa using h),eget,if_neg (λc=>h c.1),ih]
theorem Qhz {a:QO}{ord:LI}{j:Nat}(v:Int):eget (j5 a ord j) j v=(eget a.ed (Zr ord j) v).map λu=>(ord.idxOf u:Int):=by
 rw[Qhy a.ed];unfold j5;have key:∀(l:List Ed),(∀e∈l,e.1=Zr ord j)→eget (l.map (cnF ord j)) j v=(eget l (Zr ord j) v).map λu=>(ord.idxOf u:Int):=by
  intro l;induction l with
  | nil=>intro _;rfl
  | cons e l ih =>
   intro hl;rw[LT,eget,eget];have he:=hl e Lp;by_cases E:e.2.1=v
   ·rw[if_pos ⟨rfl,E⟩,if_pos ⟨he,E⟩];rfl
   rw[if_neg (λc=>E c.2),if_neg (λc=>E c.2)];exact ih (λd hd=>hl d (Lk _ hd))
 exact key _ (λe he=>(Ys he).2)
theorem QcB {a:QO}{ord:LI}{j i:Nat}(h:j≠i)(v:Int):eget (j5 a ord j) i v=none:=by
 refine JF λe he h2=>?_;unfold j5 at he;obtain⟨d,_,rfl⟩:=Lx.1 he;have:(j:Int)=i:=h2.1;omega
theorem CnP.step {a:QO}{ord:LI}(h:CnP a ord){j:Nat}(hj:j<ord.length)(v:Int):eget (YJ a).ed j v=(eget a.ed (Zr ord j) v).map λu=>(ord.idxOf u:Int):=by
 rw[h.ed];have key:∀n,j<n→eget ((List.range' 0 n).flatMap (j5 a ord)) j v=eget (j5 a ord j) j v:=by
  intro n;induction n with
  | zero=>intro h;omega
  | succ n ih =>
   intro G;rw[Me,LC,LO,UK];simp only[List.flatMap_cons,List.flatMap_nil,List.append_nil];by_cases e:j=n
   ·subst e;have:eget ((List.range' 0 j).flatMap (j5 a ord)) j v=none:=JF λd hd h2=>by
     obtain⟨k,hk,E⟩:=ME.1 hd;rw[L7]at hk;unfold j5 at E;obtain⟨H,_,rfl⟩:=Lx.1 E;have:(k:Int)=j:=h2.1;omega
    rw[this]
   rw[ih (by omega),QcB (Ne.symm e)];cases eget (j5 a ord j) j v <;> rfl
 rw[key _ hj];exact Qhz v
section
variable {p s:QO}{pn xn v:Int}
theorem QiU (E:v∈p.al)(h:eget p.ed pn v=none):Zz v [p,s] [pn,xn]=none:=by rw[Zz,if_neg (λe=>e E),h]
theorem QiT (E:v∈p.al){G:Int}(h:eget p.ed pn v=some G)(hs:v∈s.al)(h2:eget s.ed xn v=none):Zz v [p,s] [pn,xn]=none:=by
 rw[Zz,if_neg (λe=>e E),h];simp only[];rw[Zz,if_neg (λe=>e hs),h2];rfl
theorem QiS (H:v∈p.al){E G:Int}(h:eget p.ed pn v=some E)(hs:v∈s.al)(h2:eget s.ed xn v=some G):Zz v [p,s] [pn,xn]=some [E,G]:=by
 rw[Zz,if_neg (λe=>e H),h];simp only[];rw[Zz,if_neg (λe=>e hs),h2];rfl
end
section
variable {s:QO}{l:List VE}{n:Nat}
end
theorem Qfb {a:QO}(E:Q2 a):Q2 (YJ a):=by
 have T:=E.st0;have h1:=E.st1;by_cases I:a.st=0
 ·unfold YJ;rw[if_pos I];exact⟨E.al,E.ali,by simp,by simp,by simp,by simp,by simp,by simp⟩
 obtain⟨ord,h⟩:=y9 E (by omega);have hl:ord.length≤a.st.toNat:=pig _ _ h.nd (λx hx=>by have:=h.bd x hx;omega);refine⟨by rw[h.al];exact E.al,by rw[h.al];exact E.ali,by rw[h.st];omega,by rw[h.st];omega,λs hs=>?_,?_,λe he=>?_,?_⟩
 ·rw[h.mk2]at hs;simp only[List.mem_map,List.mem_filter,List.mem_range'_1]at hs;obtain⟨i,⟨hi,_⟩,rfl⟩:=hs;rw[h.st];omega
 ·rw[h.mk2];unfold Yn;rw[MM];refine List.Pairwise.sublist Nv ?_;exact(Na (s:=0) (n:=ord.length)).imp (λh=>by omega)
 ·rw[h.ed]at he;obtain⟨j,hj,hd⟩:=ME.1 he;rw[L7]at hj;unfold j5 at hd;obtain⟨d,G,rfl⟩:=Lx.1 hd;have hm:=h.cl j (by omega) d G;have:=Mj hm;have J:=(E.ed d (Ys G).1).2.2.1;rw[h.st,h.al];unfold cnF;exact⟨by simp only[];omega,by simp only[];omega,J,by simp only[];omega,by simp only[];omega⟩
 rw[h.ed];have key:∀n,((List.range' 0 n).flatMap (j5 a ord)).Pairwise λx y:Ed=>x.1<y.1∨(x.1=y.1∧x.2.1<y.2.1):=by
  intro n;induction n with
  | zero=>simp
  | succ n ih =>
   rw[Me,LC,LO,Mt];refine⟨ih,?_,λx hx y hy=>?_⟩
   ·simp only[List.flatMap_cons,List.flatMap_nil,List.append_nil];unfold j5;rw[MM];have h2:(ZC a.ed (Zr ord n)).Pairwise λx y:Ed=>x.1<y.1∨(x.1=y.1∧x.2.1<y.2.1):=List.Pairwise.sublist Nv E.edi;refine List.Pairwise.imp_of_mem (λ{x y} hx hy U=>?_) h2;have e1:=(Ys hx).2;have e2:=(Ys hy).2;right;exact⟨O,by show x.2.1<y.2.1;omega⟩
   obtain⟨j,hj,H⟩:=ME.1 hx;rw[L7]at hj;simp only[List.flatMap_cons,List.flatMap_nil,List.append_nil]at hy;unfold j5 at H hy;obtain⟨d,_,rfl⟩:=Lx.1 H;obtain⟨V,_,rfl⟩:=Lx.1 hy;left;show(j:Int)<(n:Int);omega
 exact key _
open Go.Proofs.Tryz
theorem QeQ {a:QO}(E:Q2 a):Q2 ⟨a.al,0,[],[]⟩:=
 ⟨E.al,E.ali,Nf _,(by decide:(0:Int)≤4096),(λs hs=>by cases hs),List.Pairwise.nil,(λe he=>by cases he),List.Pairwise.nil⟩
theorem Uk {a:QO}(E:Q2 a)(lf:Lf):Q2 (J5 a lf):=by
 unfold J5;split
 ·exact QeQ E
 exact Qfb (KM E lf)
theorem VH {c:ZA}(h:suE c=0):Q2 (K9 c):=Uk (QfV h).1 _
theorem QgE {c:ZA}{m:Mdl}(h:msE c m=0):Q2 (msA c m):=by
 have h1:msE c m=if mcE c m≠0 then mcE c m else suE (mcC c m):=rfl
 rw[h1]at h;split at h
 ·rename_i h2;exact absurd h h2
 exact VH h
theorem QaW {c:ZA}:∀{l:List Mdl},msL c l=0→∀m∈l,msE c m=0
 | [],_,m,hm=>by cases hm
 | x::l,h,m,hm=>by
  rw[QaX]at h;by_cases h1:msE c x≠0
  ·rw[if_pos h1]at h;exact absurd h h1
  rw[if_neg h1]at h;rcases Lc.1 hm with rfl|hm
  ·exact Lm.1 h1
  exact QaW h m hm
theorem qq {c:ZA}(h:VG c=0):∀a∈XX c,Q2 a:=by
 rw[Qb3]at h;by_cases h1:Zk c≠0
 ·rw[if_pos h1]at h;exact absurd h h1
 rw[if_neg h1]at h;have G:=ZX (Lm.1 h1);have H:XX c=(mods c).map (msA c)++(rem c).map (coA c):=rfl;intro a ha;rw[H]at ha;rcases Lq.1 ha with ha|ha
 ·obtain⟨m,hm,rfl⟩:=Lx.1 ha;exact QgE (QaW h m hm)
 obtain⟨i,hi,rfl⟩:=Lx.1 ha;have I:=Qga i hi;have E:i.toNat<c.co.length:=by omega
 have e:coA c i=(c.co[i.toNat]'E).a:=by unfold coA;simp[List.getD,E]
 rw[e];exact G.co _ (Li E)
theorem QfC (c:ZA):X7 c=if VG c≠0 then VG c else X8 (XX c):=rfl
theorem Qc7 {c:ZA}(h:X7 c=0):VG c=0∧X8 (XX c)=0:=by
 rw[QfC]at h;by_cases h1:VG c≠0
 ·rw[if_pos h1]at h;exact absurd h h1
 rw[if_neg h1]at h;exact⟨Lm.1 h1,h⟩
theorem QiO {l:List QO}(h:X8 l=0):sync l=some (syA l,syQ l)∧JJ l=0:=by
 unfold X8 at h;by_cases h1:JJ l≠0
 ·rw[if_pos h1]at h;exact absurd h h1
 rw[if_neg h1]at h;refine⟨?_,Lm.1 h1⟩;unfold syA syQ;cases hs:sync l with
 | none=>rw[hs]at h;cases h
 | some z=>rfl
theorem JK {c:ZA}(h:X7 c=0):SyP (XX c) (Xe c) (tgQ c)∧Q2 (Xe c):=by
 obtain⟨h1,h2⟩:=Qc7 h;have E:=qq h1;have hs:=(XN E (QiO h2).1).1;exact⟨hs,SyP.okay E hs⟩
structure TmV where
 vl:Value
 va:Value
 vm:Value
 ve:Value
 vt:Value
 A:QO
 ps:List AV
 qs:List TV
abbrev Jc (t:TmV):LV:=[t.vl,t.va,.int .i64 t.A.st,t.vm,t.ve,t.vt]
structure zL (L:LN)(H:Array Obj)(t:TmV):Prop where
 l:YX L H t.vl t.ps
 a:Zp L H t.va t.vm t.ve t.A
 q:X6 L H t.vt t.qs
theorem zL.ext {L:LN}{w w':World}{t:TmV}(h:zL L w.heap t)(hs:Step [] w w'):zL L w'.heap t:=⟨h.l.ext hs,h.a.ext hs,h.q.ext hs⟩
theorem zL.st {L:LN}{w w':World}{t:TmV}(h:zL L w.heap t)(hs:Step L w w'):zL L w'.heap t:=⟨h.l.st hs,h.a.st hs,h.q.st hs⟩
theorem zL.up {L L':LN}{H:Array Obj}{t:TmV}(h:zL L H t)(E:∀b∈L',b∈L∨H.size≤b):zL L' H t:=⟨h.l.up E,h.a.up E,h.q.up E⟩
structure Qnz (c:ZA)(t:TmV):Prop where
 A:t.A=Xe c
 l:t.ps.map (·.a)=XX c
 q:t.qs.map (·.2)=tgQ c
instance:Bw prog 103 [nS,nS,.int .i64 0,nS,nS,nS] [(0,1),(1,4),(5,1)]:=⟨by kernel_rfl,by decide⟩
abbrev QaV:LV:=[nS,nS,.int .i64 0,nS,nS,nS]
set_option maxHeartbeats 4000000 in
theorem VU {L:LN}{w:World}{c:CL}(V:ZJ L w.heap c)(hj:Kb w 4096):
  QE prog 33 [c.val] w λr w'=>Step [] w w'∧∃us,r=.tuple #[.agg us.toArray,.int .i64 (X7 c.cel)]∧us.length=6∧ZH us∧(X7 c.cel=0→∃t,us=Jc t∧Qnz c.cel t∧∀L:LN,(∀b∈L,b<w.heap.size)→zL L w'.heap t):=by
 have h:=V.up (L':=[]) (by simp);have J:=QfC c.cel;refine Zb (X7 c.cel) λE hE=>?_;rw[hE]at J ⊢;refine QE.of_W func33 O ntmps33 results33 (by simp) ?_;refine Qc<|xl O<|QQ (us:=c.cells) O λb1 w1 hk hK hz=>xl O<|Qu (us:=QaV) O λI w2 Y hM hl=>Qe ?_;have ha:=hk.trans Y;have hN:=hk.size;have hO:=Y.size;have h1:=hl.lt
 refine Qc<|x (Qn (hz.ext Y) O O)<|xl O<|xf<|(KC (h.ext ha) (hj.ext ha)).mono ?_;rintro r3 w3 ⟨hc,vl,rfl,hP,h2⟩;refine Qb<|x (Qj O O)<|x (Qj O O)<|x Qf<|Qe ?_;have hf:=ha.trans hc;have hS:=hc.size;have hm:=hl.ext hc;refine Qg<|Qc<|Qb<|x (Q7 O O)<|xe<|Q4 rfl (λT=>?_) (λT=>?_)
 ·rw[if_pos T]at J;subst J;refine Qc<|x (Zx [] Z)<|Qb<|xl O<|Qo (us:=QaV) hm O O O O ⟨O,O,O,O,O,O,Z⟩ λw4 h3 h4=>Qe ?_;exact Qk ⟨[.agg QaV.toArray,.int .i64 (VG c.cel)],⟨⟨_,O,Qw O (h4.at (L:=[]) (by simp)).cells⟩,rfl,Z⟩,hf.then1 h3 (by omega),QaV,rfl,rfl,⟨rfl,rfl,rfl,rfl,rfl,rfl,Z⟩,λV=>absurd V T⟩
 rw[if_neg T]at J;subst J;have hn:=Lm.1 T;obtain⟨ho,ps,hg,hr⟩:=h2 hn;have h5:∀p∈ps,Q2 p.a:=λp hp=>qq hn p.a (by rw[←hg];exact LL hp);refine Qi<|Qc<|Qb<|xl O<|xf<|(Ue (km:=4096) (hr [] (by simp)) (hj.ext hf) (by decide) (U6 h5)).mono ?_;rintro r5 w5 ⟨hs,vA,vt,e,rfl,hR⟩;rw[hg]at hR;have he:=hR.e;subst he
 have h6:∃us,vA=.agg us.toArray∧us.length=4∧ZH us:=by
  by_cases he:X8 (XX c.cel)=0
  ·exact Xk (hR.good he).1
  exact⟨[nS,.int .i64 0,nS,nS],(hR.bad he).1,O,O,O,O,O,Z⟩
 have ht:vt.oneCell'=true:=by
  by_cases he:X8 (XX c.cel)=0
  ·obtain⟨qs,_,hq⟩:=(hR.good he).2.1;exact(hq [] (by simp)).arr.one
  rw[(hR.bad he).2];rfl
 obtain⟨us,h7,h8,U⟩:=h6;subst h7;obtain⟨G,H,u2,u3,rfl⟩:∃G H u2 u3,us=[G,H,u2,u3]:=by
  match us,h8 with
  | [G,H,u2,u3],_=>exact⟨G,H,u2,u3,O⟩
 have hT:=hs.size;refine Qb<|x (Qj O O)<|x (Qj O O)<|x (Qj O O)<|xl O<|Qu (us:=[nS,.int .i64 0,nS,nS]) O λb6 w6 h9 hB hC=>xl O<|Qo (us:=[G,H,u2,u3]) hC O O O O U λw7 hD hF =>
  x Qf<|Qe ?_
 have hh:Step [] w5 w7:=h9.then1 hD hB;have hi:=hs.trans hh;have hu:ZH [vl,G,H,u2,u3,vt]:=⟨ho,U.1,U.2.1,U.2.2.1,U.2.2.2.1,ht,Z⟩;refine Qc<|Qb<|x (Qn hF O O)<|Qb<|x (Zx [(0,[vl]),(1,[G,H,u2,u3]),(2,[vt])] ⟨XQ ho,O,O,O,XQ ht,O,Z⟩)<|Qb<|xl O<|Qo (us:=[vl,G,H,u2,u3,vt]) (hm.ext hi) O O O O hu λw8 hw hG =>
  Qe<|Qk ⟨[.agg [vl,G,H,u2,u3,vt].toArray,.int .i64 (X8 (XX c.cel))],⟨⟨_,O,Qw O (hG.at (L:=[]) (by simp)).cells⟩,rfl,Z⟩,(hf.trans hi).then1 hw (by omega),[vl,G,H,u2,u3,vt],rfl,rfl,hu,λhe=>?_⟩
 obtain⟨⟨va,vm,ve,hv,hA⟩,⟨qs,hH,hQ⟩,_⟩:=hR.good he;have hv':G=va∧H=.int .i64 (syA (XX c.cel)).st∧u2=vm∧u3=ve:=by
  have e1:=Value.agg.inj hv;simpa using e1
 obtain⟨rfl,rfl,rfl,rfl⟩:=hv';refine⟨⟨vl,G,u2,u3,vt,Xe c.cel,ps,qs⟩,O,⟨O,hg,hH⟩,λL hL=>?_⟩;have hy:∀b∈I::L,b<w3.heap.size:=λb hb=>by
  rcases Lc.1 hb with rfl|hb
  ·omega
  have:=hL b hb;omega
 have hI:∀b∈L,b<w2.heap.size:=λb hb=>by have:=hL b hb;omega
 have hJ:∀b∈I::L,b<w2.heap.size:=λb hb=>by
  rcases Lc.1 hb with rfl|hb
  ·exact h1
  exact hI b hb
 have t1:zL (I::L) w7.heap ⟨vl,G,u2,u3,vt,Xe c.cel,ps,qs⟩:=⟨((hr (I::L) hJ).ext hi),(hA (I::L) hy).ext hh,(hQ (I::L) hy).ext hh⟩;exact(t1.st (hw.mono (by simp))).up (λb hb=>.inl (by simp[hb]))
theorem qZ {A:QO}(E:Q2 A){aa:List QO}{Q:List (LI)}(h:SyP aa A Q){u:LI}(H:gens A u=true):Qf3 A 0 u=0∧∃j:Nat,j<Q.length∧(flw A 0 u).1=(j:Int):=by
 obtain⟨j,hj,G,_⟩:=QjR E h H;have h1:=Qhc E u 0 (by rw[G]);have I:=h.st;refine⟨?_,j,hj,by rw[G]⟩;have hck:cks A 0=0:=by
  unfold cks;rw[if_neg (by simpa using(Zu A).2 E),if_neg (by omega)]
 unfold Qf3;rw[if_neg (by simpa using hck),if_neg];intro h2;obtain⟨e,he,h3⟩:=M6.1 h2;exact of_decide_eq_true h3 (h1 e he)
theorem yC {w:World}{t:TmV}{c:ZA}{vw:Value}{u:LI}(T:zL [] w.heap t)(H:Qnz c t)(he:X7 c=0)(hu:QH [] w.heap vw u):
  QE prog 54 [.agg (Jc t).toArray,vw] w λr w'=>Step [] w w'∧r=.tuple #[.int .i64 (if gens (Xe c) u=true then(flw (Xe c) 0 u).1 else 0),.bool (gens (Xe c) u)]:=by
 obtain⟨ha,hb⟩:=JK he;refine QE.of_W func54 O ntmps54 results54 (by simp) ?_;refine Qc<|xl O<|QQ (us:=Jc t) O λb2 w1 I hh U=>x Qf<|Qe<|Qg<|Qc<|x (Qa O)<|x (ZB (us:=[t.va,.int .i64 t.A.st,t.vm,t.ve]) U O O O)<|Qb<|xl O<|xf<|(Qaf (T.a.ext I) (hu.ext I)).mono ?_;rintro r2 w2 ⟨rfl,V⟩;refine Qb<|x (Qj O O)<|x (Qj O O)<|x Qf<|Qe ?_;have E:=I.trans V;rw[←H.A]
 refine Qc<|Qb<|x (Zq O)<|xe<|QY rfl (λJ=>?_) (λJ=>?_)
 ·have G:gens t.A u=false:=by simpa using J
  refine Qc<|x Qf<|Qe ?_;exact Qk ⟨[.int .i64 0,.bool false],⟨O,O,Z⟩,E,by rw[G];rfl⟩
 have G:gens t.A u=true:=by simpa using J
 obtain⟨hc,_⟩:=qZ (A:=t.A) (by rw[H.A];exact hb) (by rw[H.A];exact ha) G;refine Qi<|Qc<|x (Qa O)<|x (ZB (us:=[t.va,.int .i64 t.A.st,t.vm,t.ve]) (U.ext V) O O O)<|Qb<|xl O<|xf<|(Qmr (T.a.ext E) (hu.ext E) 0).mono ?_;rintro r3 w3 ⟨hf,Y⟩;rw[if_neg (by simpa using hc)]at Y;subst Y;refine Qb<|x (Qj O O)<|x (Qj O O)<|x (Qj O O)<|x Qf<|x Qf<|Qe<|Qc<|Qb<|x Qf<|Qe ?_
 exact Qk ⟨[.int .i64 (flw t.A 0 u).1,.bool true],⟨O,O,Z⟩,E.trans hf,by rw[G];rfl⟩
def pmE (c:ZA)(u:LI):Int:=if X7 c≠0 then X7 c else if gens (Xe c) u=true then 0 else 10
def pmL (c:ZA)(u:LI):LI:=enb (Xe c) (flw (Xe c) 0 u).1
theorem Qac {L:LN}{w:World}{c:CL}{vw:Value}{u:LI}(G:ZJ L w.heap c)(hm:QH L w.heap vw u)(hn:Kb w 4096):
  QE prog 16 [c.val,vw] w λr w'=>Step [] w w'∧∃v,r=.tuple #[v,.int .i64 (pmE c.cel u)]∧(pmE c.cel u≠0→v=Q0)∧(pmE c.cel u=0→Qt 3 w.heap.size w' v (pmL c.cel u)):=by
 have h:=G.up (L':=[]) (by simp);have hu:=hm.up (L':=[]) (by simp);have hp:pmE c.cel u=if X7 c.cel≠0 then X7 c.cel else if gens (Xe c.cel) u=true then 0 else 10:=rfl
 refine Zb (pmE c.cel u) λE hE=>?_;rw[hE]at hp ⊢;refine QE.of_W func16 O ntmps16 results16 (by simp) ?_;refine Qc<|xl O<|QQ (us:=c.cells) O λb2 w1 U h7 ho=>x Qf<|Qe<|Qc<|x (Qn ho O O)<|xl O<|xf<|(VU (h.ext U) (hn.ext U)).mono ?_;rintro r2 w2 ⟨hq,us,rfl,hr,hs,hv⟩
 refine Qb<|x (Qj O O)<|x (Qj O O)<|xl O<|Qu (us:=QaV) O λb6 w3 hw hy hz=>xl O<|Qo (us:=us) hz O O hr O hs λw4 h1 hc =>
  Qe ?_
 have hf:Step [] w2 w4:=hw.then1 h1 hy;have V:=(U.trans hq).trans hf;refine Qg<|Qc<|Qb<|x (Q7 O O)<|xe<|Q4 rfl (λH=>?_) (λH=>?_)
 ·rw[if_pos H]at hp;subst hp;refine Qc<|Qb<|x Qf<|Qe ?_;exact Qk ⟨[Q0,.int .i64 (X7 c.cel)],⟨O,O,Z⟩,V,Q0,O,λ_=>O,λG=>absurd G H⟩
 rw[if_neg H]at hp;have he:=Lm.1 H;obtain⟨t,ht,I,hT⟩:=hv he;subst ht;have Y:zL [] w4.heap t:=(hT [] (by simp)).ext hf;refine Qi<|Qc<|x (Qn hc O O)<|Qb<|xl O<|xf<|(yC Y I he (hu.ext V)).mono ?_;rintro r5 w5 ⟨T,rfl⟩;refine Qb<|x (Qj O O)<|x (Qj O O)<|x Qf<|Qe ?_;have ha:=V.trans T;have h2:=ha.size;refine Qg<|Qc<|Qb<|x (Zq O)<|xe ?_
 refine QY rfl (λhb=>?_) (λhb=>?_)
 ·have J:gens (Xe c.cel) u=false:=by simpa using hb
  rw[J,if_neg (by decide)]at hp;subst hp;refine Qc<|x Qf<|Qe ?_;exact Qk ⟨[Q0,.int .i64 10],⟨O,O,Z⟩,ha,Q0,O,λ_=>O,λG=>absurd G (by decide)⟩
 have J:gens (Xe c.cel) u=true:=by simpa using hb
 rw[if_pos J]at hp;subst hp;obtain⟨hh,hi⟩:=JK he;obtain⟨_,j,hj,h8⟩:=qZ hi hh J;have h9:=hh.st;have h3:cks (Xe c.cel) (flw (Xe c.cel) 0 u).1=0:=by
  unfold cks;rw[if_neg (by simpa using(Zu _).2 hi),if_neg (by omega)]
 refine Qi<|Qc<|x (Qa O)<|x (ZB (us:=[t.va,.int .i64 t.A.st,t.vm,t.ve]) (hc.ext T) O O O)<|Qb<|?_;have hk:=Vz (Y.a.ext T) (flw (Xe c.cel) 0 u).1;rw[I.A]at hk;have h4:(if gens (Xe c.cel) u=true then(flw (Xe c.cel) 0 u).1 else 0)=(flw (Xe c.cel) 0 u).1:=if_pos J
 rw[←I.A]at hk;have hen':QE prog 55 [.agg #[t.va,.int .i64 t.A.st,t.vm,t.ve],.int .i64 (if gens (Xe c.cel) u=true then(flw (Xe c.cel) 0 u).1 else 0)] w5 λr w'=>Step [] w5 w'∧∃v,r=.tuple #[v,.int .i64 0]∧Qt 3 w5.heap.size w' v (pmL c.cel u):=by
  rw[h4];refine(Vz (Y.a.ext T) (flw (Xe c.cel) 0 u).1).mono ?_;rintro r w' ⟨a1,v,a2,a3,a4⟩;have hl:cks t.A (flw (Xe c.cel) 0 u).1=0:=by rw[I.A];exact h3
  refine⟨a1,v,by rw[a2,hl],?_⟩;have:=a4 hl;unfold pmL;rw[I.A]at this;exact this
 refine xl rfl<|xf<|hen'.mono ?_;rintro r6 w6 ⟨h5,v6,rfl,h6⟩;refine x (Qj O O)<|x (Qj O O)<|x Qf<|Qe ?_;exact Qk ⟨[v6,.int .i64 0],⟨O,O,Z⟩,ha.trans h5,v6,O,λG=>absurd O G,λ_=>Zc h6 h2⟩
def mrT (c:ZA)(u:LI):LI:=(tgQ c).getD (flw (Xe c) 0 u).1.toNat []
def mrE (c:ZA)(u:LI)(e:Int):Int:=if X7 c≠0 then X7 c else if gens (Xe c) u=true then ckV (XX c) (mrT c u) e else 10
def mrL (c:ZA)(u:LI)(e:Int):LI:=rfL (XX c) (mrT c u) e
theorem jI {L:LN}{w:World}{c:CL}{vw:Value}{u:LI}(G:ZJ L w.heap c)(hy:QH L w.heap vw u)(e:Int)(hz:Kb w 4096):
  QE prog 17 [c.val,vw,.int .i64 e] w λr w'=>Step [] w w'∧∃v,r=.tuple #[v,.int .i64 (mrE c.cel u e)]∧(mrE c.cel u e≠0→v=Q0)∧(mrE c.cel u e=0→Qt 3 w.heap.size w' v (mrL c.cel u e)):=by
 have h:=G.up (L':=[]) (by simp);have hu:=hy.up (L':=[]) (by simp);have hp:mrE c.cel u e=if X7 c.cel≠0 then X7 c.cel else if gens (Xe c.cel) u=true then ckV (XX c.cel) (mrT c.cel u) e else 10:=rfl
 have h1:mrL c.cel u e=rfL (XX c.cel) (mrT c.cel u) e:=rfl;rw[h1];refine Zb (mrE c.cel u e) λE hE=>?_;rw[hE]at hp ⊢;refine QE.of_W func17 O ntmps17 results17 (by simp) ?_;refine Qc<|xl O<|QQ (us:=c.cells) O λb2 w1 V hJ h2=>x Qf<|Qe<|Qc<|x (Qn h2 O O)<|xl O<|xf<|(VU (h.ext V) (hz.ext V)).mono ?_;rintro r2 w2 ⟨h3,us,rfl,h4,h5,h6⟩
 refine Qb<|x (Qj O O)<|x (Qj O O)<|xl O<|Qu (us:=QaV) O λb6 w3 h7 h8 h9=>xl O<|Qo (us:=us) h9 O O h4 O h5 λw4 hA hi =>
  Qe ?_
 have hk:Step [] w2 w4:=h7.then1 hA h8;have Y:=(V.trans h3).trans hk;refine Qg<|Qc<|Qb<|x (Q7 O O)<|xe<|Q4 rfl (λH=>?_) (λH=>?_)
 ·rw[if_pos H]at hp;subst hp;refine Qc<|Qb<|x Qf<|Qe ?_;exact Qk ⟨[Q0,.int .i64 (X7 c.cel)],⟨O,O,Z⟩,Y,Q0,O,λ_=>O,λG=>absurd G H⟩
 rw[if_neg H]at hp;have he:=Lm.1 H;obtain⟨t,ht,T,hT⟩:=h6 he;subst ht;have hl:zL [] w4.heap t:=(hT [] (by simp)).ext hk;refine Qi<|Qc<|x (Qn hi O O)<|Qb<|xl O<|xf<|(yC hl T he (hu.ext Y)).mono ?_;rintro r5 U ⟨ha,rfl⟩;refine Qb<|x (Qj O O)<|x (Qj O O)<|x Qf<|Qe ?_;have hb:=Y.trans ha;have hB:=hb.size;refine Qg<|Qc<|Qb<|x (Zq O)<|xe ?_
 refine QY rfl (λhf=>?_) (λhf=>?_)
 ·have I:gens (Xe c.cel) u=false:=by simpa using hf
  rw[I,if_neg (by decide)]at hp;subst hp;refine Qc<|x Qf<|Qe ?_;exact Qk ⟨[Q0,.int .i64 10],⟨O,O,Z⟩,hb,Q0,O,λ_=>O,λG=>absurd G (by decide)⟩
 have I:gens (Xe c.cel) u=true:=by simpa using hf
 rw[if_pos I]at hp;subst hp;obtain⟨hC,hD⟩:=JK he;obtain⟨_,j,hj,hm⟩:=qZ hD hC I;have hn:=hl.ext ha;have ho:=hi.ext ha;have J:j<t.qs.length:=by have:=congrArg List.length T.q;rw[Lh]at this;omega
 have hF:(if gens (Xe c.cel) u=true then(flw (Xe c.cel) 0 u).1 else 0)=(j:Int):=by rw[if_pos I,hm]
 have hq:mrT c.cel u=(t.qs[j]'J).2:=by
  unfold mrT;rw[hm,←T.q];simp[List.getD,J]
 have hr:=Li J;refine Qi<|Qg<|QV (Step [] U) [(0,true),(1,true),(2,true),(3,true),(4,true),(5,true),(6,true),(7,true),(8,false),(9,true),(10,true),(11,true),(12,true)] mixed (by rfl) (by kernel_rfl) (Step.drew _ _) ?_;refine p (λ_=>Qa O)<|pq (λ_ hc=>Qd (ho.ext hc) O O)<|p (λ_=>Qa O)<|pq (λ_ hc=>Qd (ho.ext hc) O O) <|
  p (λ_=>Qm)<|Go.Lg.pig O (g:=Yf) (i:=j) (λ_=>O) hn.q.arr O (congrArg (Value.int .i64) hF) J λhK hs=>?_
 refine Zb (t.qs[j]'J) λtq hG=>?_;rw[hG]at hs hq hr;have hh:Step [] U { U with drawn:=U.drawn+1 }:=Step.drew _ _
 have hv:=hn.ext hh;have hR:=jE hv.l (hv.q.each tq hr) e;rw[T.l,←hq]at hR;refine pq (λ_ hc=>Qv (hs.st hc) O)<|p (λ_=>Qm)<|pk<|xf<|hR.mono ?_;rintro r6 w6 ⟨hw,v6,rfl,hH,hI⟩;refine⟨hh.trans hw,?_⟩;refine p (λ_=>Qj O O)<|p (λ_=>Qj O O)<|p (λ_=>Qf)<|p (λ_=>Qf)<|pe ?_
 exact Qk ⟨[v6,.int .i64 (ckV (XX c.cel) (mrT c.cel u) e)],⟨O,O,Z⟩,(hb.trans hh).trans hw,v6,O,hH,λG=>Zc (hI G) hB⟩
theorem Qjw {w:World}{va vm ve:Value}{n:Nat}(hn:n≤4096):
  QE prog 37 [.agg #[va,.int .i64 n,vm,ve]] w λr w'=>Step [] w w'∧Qt 3 w.heap.size w' r (Yz n):=by
  refine QE.of_W func37 O ntmps37 results37 (by simp) ?_;refine Qc<|xl O<|QQ (us:=[va,.int .i64 n,vm,ve]) O λb1 J T hh U=>Qe<|Qc<|Qe<|Qg<|Qc<|x (Qa O)<|x (Qd U O O)<|Qb<|xe<|Qh<|QA (α:=Nat×Value) [(3,4),(7,14)] (λz=>[(3,z.2),(7,.int .i64 z.1)]) (λz w'=>z.1≤n∧Step [] J w'∧Qt 3 J.heap.size w' z.2 (Yz z.1)) (λz=>n - z.1) (by rfl) (0,nS) ⟨O,O,Z⟩
   ⟨Ll _,Step.refl _ _,QP _ _ _ _⟩ ?_
  rintro⟨k,v⟩ g w2 ⟨hk,G,E⟩;simp only[]at hk E;have hl:=Kn k;have hi:=G.size;have V:=T.size;refine Qc<|x (Qz O O)<|xe<|Qg<|QC O (λH=>?_) (λH=>?_)
  ·refine Qy ?_;have Y:k=n:=by have ha:¬(k:Int)<(n:Int):=H;omega
   rw[Y]at E;refine Qc<|Qb<|Qe ?_;exact Qk ⟨[v],La,T.trans G,Zc E V⟩
  have hc:k<n:=by have ha:(k:Int)<(n:Int):=H;omega
  refine Qi<|Qg<|Qh<|Qc<|Qb<|Qe<|Qx<|Qb<|Qb<|xl O<|QF (us:=[[.int .i64 k]]) O O (by decide) (by simp) ⟨rfl,rfl,Z⟩ λhj w3 I hm he=>?_;have ho:=I.size;refine xl O<|Q5 (news:=[.int .i64 k]) (L:=[]) (Qs E I) O O O (he.at (by simp)) (by simp[Value.oneCell']) (by omega) (by omega) λv4 w4 hf hg hp =>
   Qe ?_
  have hge:=Qp E;refine Qx<|QM O O<|Qb<|xe<|⟨(k+1,v4),by simp only[];omega,⟨O,O,Z⟩,hc,(G.trans I).then hg (λb hb=>.inr (hge b hb).1),?_⟩;simp only[];rw[Ur];exact Qt.snoc hf
theorem Qfz {n k:Nat}(h:k<n):(Ka n).drop k=(k:Int)::(Ka n).drop (k+1):=by
 have hl:k<(Ka n).length:=by rw[jj];exact h
 rw[LE hl];congr 1;simp[Ka]
theorem QfZ (c:ZA)(v:Int)(l:LI):shd c (v::l)=if 2≤(ownr c v).length then some (v,cget (ownr c v) 0,cget (ownr c v) 1)else shd c l:=rfl
def shR (c:ZA):Option (Int×Int×Int):=if Zk c≠0 then none else qz c
set_option maxHeartbeats 4000000 in
theorem Qfi {L:LN}{w:World}{c:CL}(h0:ZJ L w.heap c):
  QE prog 34 [c.val] w λr w'=>Step [] w w'∧r=.tuple #[.int .i64 (UV (shR c.cel)).1,.int .i64 (UV (shR c.cel)).2.1,.int .i64 (UV (shR c.cel)).2.2,.bool (shR c.cel).isSome,.int .i64 (Zk c.cel)]:=by
 have h:=h0.up (L':=[]) (by simp);have hsr:shR c.cel=if Zk c.cel≠0 then none else qz c.cel:=rfl
 refine Zb (Zk c.cel) λE hE=>?_;refine Zb (shR c.cel) λS hS=>?_;rw[hS,hE]at hsr;rw[hS,hE];have hO:=h.co.arr.le;have hP:=h.ev.arr.le;refine QE.of_W func34 O ntmps34 results34 (by simp) ?_;refine Qc<|xl O<|QQ (us:=c.cells) O λb1 w1 hs hQ ht=>x Qf<|x Qf<|x Qf<|x Qf<|Qe<|Qg<|Qc<|x (Qn ht O O)<|xl O<|xf<|(Xi (h.ext hs)).mono ?_;rintro r2 w2 ⟨hu,hv⟩;rw[hE]at hu;subst hu;refine Qe ?_
 have ha:=hs.trans hv;have hw:=ht.ext hv;refine Qc<|Qb<|x (Q7 O O)<|xe<|Q4 rfl (λU=>?_) (λU=>?_)
 ·rw[if_pos U]at hsr;subst hsr;refine Qc<|Qb<|x Qf<|x Qf<|x Qf<|x Qf<|Qe ?_;exact Qk ⟨[.int .i64 0,.int .i64 0,.int .i64 0,.bool false,.int .i64 E],⟨O,O,O,O,O,Z⟩,ha,O⟩
 rw[if_neg U]at hsr;have hy:E=0:=Lm.1 U;have hR:c.cel.ev.length=c.ev.length:=rfl;have hB:qz c.cel=shd c.cel (Ka c.ev.length):=rfl;rw[hB]at hsr;refine Qi<|Qg<|Qc<|x (Qa O)<|x (Qd hw O O)<|x (Qr (h.ext ha).ev.arr O)<|Qb<|xe ?_
 refine Qh<|QA (α:=Nat) [(2,6),(8,11),(20,51)] (λz=>[(20,.int .i64 z)]) (λz w'=>z≤c.ev.length∧Step [] w2 w'∧shd c.cel ((Ka c.ev.length).drop z)=S) (λz=>c.ev.length - z) (by rfl) 0 La
  ⟨Ll _,Step.refl _ _,hsr.symm⟩ ?_
 rintro k g w3 ⟨hk,he,G⟩;have hf:=ha.trans he;have hC:=hw.ext he;have h3:=h.ext hf;refine Qc<|x (Qz O O)<|xe<|Qg<|QC O (λhg=>?_) (λhg=>?_)
 ·refine Qy ?_;have hD:c.ev.length≤k:=by have hh:¬(k:Int)<(c.ev.length:Int):=hg;omega
  rw[Ls (by rw[jj];exact hD)]at G;have hF:S=none:=G.symm;subst hF;refine Qc<|x Qf<|x Qf<|x Qf<|x Qf<|Qe ?_;exact Qk ⟨[.int .i64 0,.int .i64 0,.int .i64 0,.bool false,.int .i64 0],⟨O,O,O,O,O,Z⟩,hf,by rw[hy];rfl⟩
 have hz:k<c.ev.length:=by have hh:(k:Int)<(c.ev.length:Int):=hg;omega
 rw[Qfz hz,QfZ]at G;refine Qi<|Qg<|Qh<|Qc<|Qb<|Qe<|Qc<|Qe<|Qg<|Qc<|x (Qa O)<|x (Qd hC O O)<|x (Qr h3.co.arr O)<|Qb<|xe ?_;have hj:ownr c.cel (k:Int)=ixs (λq:IV=>decide ((k:Int)∈q.p.a.al)) 0 c.co:=by
  show ixs (λx:XC=>decide ((k:Int)∈x.a.al)) 0 (c.co.map (·.it))=_;generalize 0=i0;generalize c.co=l;induction l generalizing i0 with
  | nil=>rfl
  | cons a l ih=>rw[LT,ixs,ixs,ih (i0+1)];rfl
 rw[hj]at G;refine Qh<|QA (α:=Nat×Value) [(9,11),(26,40)] (λz=>[(9,z.2),(26,.int .i64 z.1)]) (λz w'=>z.1≤c.co.length∧Step [] w3 w'∧Qt 3 w3.heap.size w' z.2 (ixs (λq:IV=>decide ((k:Int)∈q.p.a.al)) 0 (c.co.take z.1))) (λz=>c.co.length - z.1) (by rfl) (0,nS) ⟨O,O,Z⟩
  ⟨Ll _,Step.refl _ _,QP _ _ _ _⟩ ?_
 rintro⟨i,v⟩ g w4 ⟨hi,J,H⟩;simp only[]at hi H;have h1:=hf.trans J;have h4:=h.ext h1;have hT:=J.size;have hl:=KQ (λq:IV=>decide ((k:Int)∈q.p.a.al)) (c.co.take i) 0;rw[Ly]at hl;refine Qc<|x (Qz O O)<|xe<|Qg<|QC O (λhm=>?_) (λhm=>?_)
 ·refine Qy ?_;have h5:c.co.length≤i:=by have hh:¬(i:Int)<(c.co.length:Int):=hm;omega
  rw[Ln h5]at H;rw[Ln h5]at hl;refine Zb (ixs (λq:IV=>decide ((k:Int)∈q.p.a.al)) 0 c.co) λow hj=>?_;rw[hj]at H hl G;have hA:QH [] w4.heap v ow:=Qt.ints H (by omega) (by simp);refine Qc<|Qb<|x (Qr hA O)<|x (ZN O O)<|xe<|Q4 O (λhn=>?_) (λhn=>?_)
  ·have h2:2≤ow.length:=by have hG:(2:Int)≤(ow.length:Int):=hn;omega
   rw[if_pos h2]at G;subst G;have e0:cget ow 0=ow[0]'(by omega):=by unfold cget;simp[List.getD,show 0<ow.length by omega]
   have e1:cget ow 1=ow[1]'(by omega):=by unfold cget;simp[List.getD,show 1<ow.length by omega]
   refine Qg<|QV (Step [] w4) [(0,true),(1,true),(2,true),(3,true),(4,true),(5,true),(6,true),(7,true),(8,true),(9,true),(10,true),(11,true)] mixed (by rfl) (by kernel_rfl) (Step.drew _ _) ?_;refine p (λ_=>Qm)<|p (λ_=>Qm)<|pii (i:=0) O hA O O (by omega) λhU h6=>?_;rw[←e0]at h6;refine pq (λ_ hc=>Qv (h6.st hc) O) <|
    p (λ_=>Qm)<|pii (i:=1) O hA O O (by omega) λhV h7=>?_
   rw[←e1]at h7;refine pq (λ_ hc=>Qv (h7.st hc) O)<|p (λ_=>Qf) <|
    p (λ_=>Qf)<|p (λ_=>Qf)<|p (λ_=>Qf)<|p (λ_=>Qf)<|pe ?_
   exact Qk ⟨[.int .i64 k,.int .i64 (cget ow 0),.int .i64 (cget ow 1),.bool true,.int .i64 0],⟨O,O,O,O,O,Z⟩,h1.trans (Step.drew _ _),by rw[hy];rfl⟩
  have h2:¬2≤ow.length:=by have hG:¬(2:Int)≤(ow.length:Int):=hn;omega
  rw[if_neg h2]at G;refine Qi<|Qx<|QM O O<|Qb<|xe ?_;exact⟨k+1,by omega,La,hz,he.trans J,G⟩
 have I:i<c.co.length:=by have hh:(i:Int)<(c.co.length:Int):=hm;omega
 have h8:=Li I;have T:=Qa5 (λq:IV=>decide ((k:Int)∈q.p.a.al)) I;refine Qi<|Qg<|Qh<|Qc<|Qb<|xig (g:=Zi) (i:=i) Xf h4.co.arr O O I λhW h9=>?_;refine Zb (c.co[i]'I) λq hq=>?_;rw[hq]at h9 h8 T;have V:=h4.co.each q h8;refine x (QI h9 O O)<|xl O<|Qu (us:=[.string .empty,nS,.int .i64 0,nS,nS]) O λb11 w5 hH hI ho=>x Qf <|
  xl rfl<|Qo (us:=Zi q) ho O O O O ⟨O,V.al.one,O,V.mr.one,V.ed.one,Z⟩ λw6 hJ ho=>xe ?_
 have Y:Step [] w4 w6:=hH.then1 hJ hI;refine Qc<|x (Qa O)<|x (Qa O)<|x (Qd ho O O)<|Qb<|xl O<|xf<|(Yb (V.al.ext Y) (k:Int)).mono ?_;rintro r7 w7 ⟨rfl,rfl⟩;refine xe<|Q4 rfl (λhp=>?_) (λhp=>?_)
 ·rw[if_pos (decide_eq_true hp)]at T;refine Qx<|Qb<|Qb<|xl O<|QF (us:=[[.int .i64 i]]) O O (by decide) (by simp) ⟨rfl,rfl,Z⟩ λhX w8 hK hY hL=>?_;have hr:=Y.trans hK;have hZ:=hr.size;refine xl O<|Q5 (news:=[.int .i64 i]) (L:=[]) (Qs H hr) O O O (hL.at (by simp)) (by simp[Value.oneCell']) (by omega) (by omega) λv9 w9 hM hN ga =>
   Qe ?_
  have hge:=Qp H;refine Qx<|QM O O<|Qb<|xe<|⟨(i+1,v9),by simp only[];omega,⟨O,O,Z⟩,I,(J.trans hr).then hN (λb hb=>.inr (hge b hb).1),?_⟩;simp only[];rw[T];exact Qt.snoc hM
 rw[if_neg (by simpa using hp),LK]at T;refine Qi<|Qx<|QM O O<|Qb<|xe ?_;exact⟨(i+1,v),by simp only[];omega,⟨O,O,Z⟩,I,J.trans Y,by simp only[];rw[T];exact Qs H Y⟩
abbrev rp0:LV:=[.bool false,.int .i64 0,.int .i64 0,.int .i64 0,.bool false,nS,nS,.int .i64 0]
abbrev rpV (S:Option (Int×Int×Int))(nc:Bool)(vw vs:Value)(st:Int):LV:=[.bool (!S.isSome),.int .i64 (UV S).1,.int .i64 (UV S).2.1,.int .i64 (UV S).2.2,.bool nc,vw,vs,.int .i64 st]
theorem rpA {c:ZA}{vw vs:Value}:rpV (qz c) (decide ((X5 (Xe c)).length=0)) vw vs (Xe c).st=[.bool (Vu c).ps,.int .i64 (Vu c).ev,.int .i64 (Vu c).f1,.int .i64 (Vu c).f2,.bool (Vu c).nc,vw,vs,.int .i64 (Vu c).tg]:=by
 unfold Vu rpV;cases qz c <;> rfl
theorem V9 {c:ZA}(h:X7 c=0):Zk c=0:=by
 have h1:=(Qc7 h).1;rw[Qb3]at h1;by_cases h2:Zk c≠0
 ·rw[if_pos h2]at h1;exact absurd h1 h2
 exact Lm.1 h2
set_option maxRecDepth 4096 in
set_option maxHeartbeats 8000000 in
theorem QbT {L:LN}{w:World}{c:CL}(Y:ZJ L w.heap c)(g5:Kb w 4096):
  QE prog 10 [c.val] w λr w'=>Step [] w w'∧∃us,r=.tuple #[.agg us.toArray,.int .i64 (X7 c.cel)]∧us.length=8∧ZH us ∧
   (X7 c.cel=0→∃vw vs,us=[.bool (Vu c.cel).ps,.int .i64 (Vu c.cel).ev,.int .i64 (Vu c.cel).f1,.int .i64 (Vu c.cel).f2,.bool (Vu c.cel).nc,vw,vs,.int .i64 (Vu c.cel).tg]∧Qt 3 w.heap.size w' vw (Vu c.cel).wd∧Qt 3 w.heap.size w' vs (Vu c.cel).sts)∧(X7 c.cel≠0→us=rp0):=by
 have h:=Y.up (L':=[]) (by simp);have g6:(Vu c.cel).wd=Qf5 (Xe c.cel):=rfl;have g7:(Vu c.cel).sts=(XX c.cel).map (·.st):=rfl;rw[g6,g7];refine QE.of_W func10 O ntmps10 results10 (by simp) ?_;refine Qc<|xl O<|QQ (us:=c.cells) O λb1 w1 hJ p5 hK=>xl O<|Qu (us:=rp0) O λb2 w2 hm p6 hL=>Qe ?_;have h3:=hJ.trans hm;have p7:=hJ.size;have p8:=hm.size;have p9:=hL.lt
 refine Qc<|x (Qn (hK.ext hm) O O)<|xl O<|xf<|(VU (h.ext h3) (g5.ext h3)).mono ?_;rintro r3 w3 ⟨hM,us,rfl,g8,g9,ka⟩;refine Qb<|x (Qj O O)<|x (Qj O O)<|xl O<|Qu (us:=QaV) O λb4 w4 kb kc ke=>xl O<|Qo (us:=us) ke O O g8 O g9 λw5 kf hN =>
  Qe ?_
 have h4:Step [] w3 w5:=kb.then1 kf kc;have h5:=hM.trans h4;have h6:=h3.trans h5;have qc:=hM.size;have qf:=h4.size;have ql:=hN.lt;have hO:=hL.ext h5;refine Qg<|Qc<|Qb<|x (Q7 O O)<|xe<|Q4 rfl (λh7=>?_) (λh7=>?_)
 ·refine Qc<|x (QN Z)<|Qb<|xl O<|Qo (us:=rp0) hO O O O O ⟨O,O,O,O,O,O,O,O,Z⟩ λw6 kg kh=>Qe ?_;exact Qk ⟨[.agg rp0.toArray,.int .i64 (X7 c.cel)],⟨⟨_,O,Qw O (kh.at (L:=[]) (by simp)).cells⟩,rfl,Z⟩,h6.then1 kg (by omega),rp0,rfl,rfl,⟨rfl,rfl,rfl,rfl,rfl,rfl,rfl,rfl,Z⟩,λY=>absurd Y h7,λ_=>rfl⟩
 have he:=Lm.1 h7;have hck:=V9 he;have ki:shR c.cel=qz c.cel:=by unfold shR;rw[if_neg (by simpa using hck)]
 obtain⟨t,ht,ho,hT⟩:=ka he;subst ht;obtain⟨kj,hp⟩:=JK he;have kk:=hp.st0;have kn:=hp.st1;have ko:(XX c.cel).map (·.st)=t.ps.map (λp=>p.a.st):=by rw[←ho.l,MG];rfl
 rw[ko];have kp:zL [] w3.heap t:=hT [] (by simp);have hP:zL [] w5.heap t:=kp.ext h4;rw[←ho.A]at kj hp kk kn;obtain⟨n,hn⟩:∃n:Nat,t.A.st=n:=⟨t.A.st.toNat,by omega⟩;have hQ:t.A.st.toNat=n:=by omega
 have hR:Xq t.A=0:=(Zu _).2 hp;have qo:=hP.l.arr.le;refine Qi<|Qc<|x (Qn ((hK.ext hm).ext h5) O O)<|xl O<|xf<|(Qfi (h.ext h6)).mono ?_;rintro r7 w7 ⟨ha,rfl⟩;rw[ki];refine Zb (qz c.cel) λS hS=>?_;rw[hS];refine Qb<|x (Qj O O)<|x (Qj O O)<|x (Qj O O)<|x (Qj O O)<|x (Qj O O)<|x Qf <|
  x Qf<|x Qf<|x Qf<|Qe ?_
 have kq:=h6.trans ha;have hU:=hN.ext ha;have kr:=hO.ext ha;have qr:=ha.size;refine Qg<|Qc<|Qb<|x (Q7 O O)<|xe<|Q4 rfl (λhV=>?_) (λhV=>?_)
 ·exact absurd hck hV
 refine Qi<|Qc<|Qb<|x (Zq O)<|x (Qa O)<|x (Qa O)<|x (Qd hU O O)<|x (QN ⟨O,O,O,Z⟩)<|xl O<|Qu (us:=rp0) O λb10 w9 kt hW ku =>
  xl rfl<|Qo (us:=[.bool (!S.isSome),.int .i64 0,.int .i64 0,.int .i64 0,.bool true,nS,nS,.int .i64 t.A.st]) ku O O O O ⟨O,O,O,O,O,O,O,O,Z⟩ λhX kv hr=>xe ?_
 have hf:Step [] w7 hX:=kt.then1 kv hW;have kw:=kq.trans hf;have q0:=hf.size;have q4:=hr.lt;have kx:=hU.ext hf;have kz:=kr.ext hf;have h8:b2≠b10:=by omega
 have h9:b4≠b10:=by omega
 have hA:w.heap.size≤b10:=by omega
 refine QX (α:=Unit) [(43,49)] (λz=>[]) (λz w'=>Step [b10] hX w'∧QT w'.heap b10 41 (rpV S true (nS) (nS) t.A.st)) (by rfl) ?_ ?_
 ·refine Qc<|Qb<|xe<|QY O (λhY=>?_) (λhY=>?_)
  ·refine Qx<|Qb<|Qb<|Qb<|x (Qa O)<|xl O<|QB (j:=1) (u:=.int .i64 (UV S).1) hr O O (by simp) rfl λq5 k0 k4=>x (Qa rfl) <|
    xl rfl<|QB (j:=2) (u:=.int .i64 (UV S).2.1) k4 O O (by simp) rfl λq9 k5 k6=>x (Qa rfl)<|xl rfl<|QB (j:=3) (u:=.int .i64 (UV S).2.2) k6 rfl rfl (by simp) rfl λj1 k7 k8 =>
    xe ?_
   exact⟨(),Z,(k0.trans' k5).trans' k7,k8⟩
  refine Qi ?_;have k9:S=none:=by cases S with|none=>rfl|some z=>cases hY
  exact⟨(),Z,Step.refl _ _,by rw[k9]at hr ⊢;exact hr⟩
 rintro z g E ⟨hg,ma⟩;have hZ:Step [] w E:=kw.then1 hg hA;have j2:=hg.size;have ga:QT E.heap b4 103 (Jc t):=kx.step hg (by simpa using h9);have mc:QT E.heap b2 41 rp0:=kz.step hg (by simpa using h8)
 have gb:zL [b10] E.heap t:=((((hP.ext ha).up (L':=[b10]) (λb hb=>by simp only[List.mem_singleton]at hb;subst hb;exact .inr hW)).ext hf).st hg);refine Qg<|Qc<|x (Qa O)<|x (Qd ga O O)<|x (Qr gb.l.arr O)<|Qb<|xe ?_
 refine Qh<|QA (α:=Nat×Value) [(12,12),(53,64)] (λz=>[(53,.int .i64 z.1)]) (λz w'=>z.1≤t.ps.length∧Step [b10] E w'∧QT w'.heap b10 41 (rpV S true (nS) z.2 t.A.st)∧Qt 3 E.heap.size w' z.2 ((t.ps.take z.1).map (λp=>p.a.st))) (λz=>t.ps.length - z.1) (by rfl) (0,nS) La
  ⟨Ll _,Step.refl _ _,ma,QP _ _ _ _⟩ ?_
 rintro⟨k,vs⟩ g I ⟨hk,J,hs,T⟩;simp only[]at hk hs T;have mf:Step [] w I:=hZ.then1 J hA;have j3:=J.size;have gc:QT I.heap b4 103 (Jc t):=ga.step J (by simpa using h9);have mg:QT I.heap b2 41 rp0:=mc.step J (by simpa using h8);have hu:zL [b10] I.heap t:=gb.st J;have hB:=Qp T
 have j4:((t.ps.take k).map (λp=>p.a.st)).length=k:=by rw[Lh,Ly];omega
 refine Qc<|x (Qz O O)<|xe<|Qg<|QC O (λhC=>?_) (λhC=>?_)
 ·refine Qy ?_;have mh:t.ps.length≤k:=by have mj:¬(k:Int)<(t.ps.length:Int):=hC;omega
  rw[Ln mh]at T;have ge:zL [] I.heap t:=hu.up (by simp);refine Qc<|x (Qa O)<|x (ZB (us:=[t.va,.int .i64 t.A.st,t.vm,t.ve]) gc O O O)<|xl O<|xf<|(zQ ge.a).mono ?_;rintro za hv ⟨G,vc,rfl,gg⟩;rw[if_pos hR]at gg;refine Qb<|x (Qj O O)<|x (Qj O O)<|x Qf<|Qe ?_;have gh:=mf.trans G;have zb:=G.size;have gi:=gc.ext G
  have zv:=ge.ext G;have z0:(cor t.A).length≤4096:=by
   have:(cor t.A).length≤t.A.st.toNat:=by
    unfold cor Vo;rw[Lh];have:=L3 (λi=>decide (0≤cget (bwd t.A.st.toNat t.A.ed t.A.mr) i)) (List.range t.A.st.toNat);rw[List.length_range]at this;exact this
   omega
  have mo:mrg (λp q=>p && !q) (Yz n) (cor t.A)=X5 t.A:=by unfold X5;rw[hQ]
  have z2:=Kn n;have mq:n≤4096:=by omega
  have gj:∀w:World,QE prog 37 [.agg #[t.va,.int .i64 t.A.st,t.vm,t.ve]] w λr w'=>Step [] w w'∧Qt 3 w.heap.size w' r (Yz n):=by
   intro w;rw[hn];exact Qjw mq
  refine QX (α:=Bool×Value) [(15,15),(71,91)] (λz=>[]) (λz w'=>Step [b10] hv w'∧QT w'.heap b10 41 (rpV S z.1 z.2 vs t.A.st)∧z.1=decide ((X5 t.A).length=0)∧Qt 3 hv.heap.size w' z.2 (Qf5 t.A)) (by rfl) ?_ ?_
  ·refine Qc<|x (Qa O)<|x (ZB (us:=[t.va,.int .i64 t.A.st,t.vm,t.ve]) gi O O O)<|xl O<|xf<|(gj hv).mono ?_;rintro z3 z4 ⟨hD,ms⟩;have z5:=hD.size;refine Qb<|xl O<|xf<|(QbQ (Qt.ints (L:=[]) ms (by omega) (by simp)) (Qt.ints (L:=[]) (Qs gg hD) (by omega) (by simp)) (by omega)).mono ?_;rintro gk mt ⟨gl,hw⟩;rw[mo]at hw;refine Qe ?_;have hh:=hD.trans gl
   have z9:=gl.size;have gm:=(hs.ext G).ext hh;have mu:=gi.ext hh;have hbl:(X5 t.A).length≤4096:=by
    have h1:(X5 t.A).length≤n:=by
     have:=jQ (S:=n) (λx hx=>by have:=((zE t.A x).1 hx).1;omega) (zF t.A);exact this
    omega
   have mv:QH [] mt.heap gk (X5 t.A):=Qt.ints hw (by omega) (by simp);refine Qc<|Qb<|x (Qr mv O)<|x (ZL O O)<|xe<|QC O (λhE=>?_) (λhE=>?_)
   ·have U:(X5 t.A).length=0:=by have mw:¬(0:Int)<((X5 t.A).length:Int):=hE;omega
    refine Qi<|⟨(true,nS),Z,hh.any,gm,by rw[decide_eq_true U],?_⟩;unfold Qf5;rw[if_pos U];exact QP _ _ _ _
   have U:¬(X5 t.A).length=0:=by have mw:(0:Int)<((X5 t.A).length:Int):=hE;omega
   have mx:0<n:=by
    refine Nat.pos_of_ne_zero λe=>U ?_;subst e;exact Nat.eq_zero_of_le_zero (jQ (S:=0) (λx hx=>by have:=((zE t.A x).1 hx).1;omega) (zF t.A))
   refine Qc<|x (Qa O)<|xl O<|QB (j:=4) (u:=.bool false) gm O O (by simp) rfl λH hi my=>xe ?_;have gn:QT H.heap b4 103 (Jc t):=mu.step hi (by simpa using h9);have mz:zL [] H.heap t:=((hu.ext (G.trans hh)).st hi).up (by simp);have hge18:=Qp hw
   have m0:QH [] H.heap gk (X5 t.A):=(((Qt.ints (L:=[b10]) hw (by omega) (by simp only[List.mem_singleton];omega)).st hi)).up (by simp);have hz19:=hi.size;refine QV (Step [] H) [(0,true),(1,true),(2,true),(3,true),(4,true),(5,false),(6,false),(7,true),(8,true),(9,true),(10,true),(11,true),(12,false)] mixed (by rfl) (by kernel_rfl) (Step.drew _ _) ?_
   have m1:Step [] H { H with drawn:=H.drawn+1 }:=Step.drew _ _
   refine p (λ_=>Qa O)<|pq (λ_ hc=>ZB (us:=[t.va,.int .i64 t.A.st,t.vm,t.ve]) (gn.ext hc) O O O)<|p (λ_=>Qm)<|p (λ_=>Qa O)<|pq (λ_ hc=>ZB (us:=[t.va,.int .i64 t.A.st,t.vm,t.ve]) (gn.ext hc) O O O) <|
    pk<|xf<|(gj _).mono ?_
   rintro r20 w20 ⟨m2,m3⟩;have hj:=m1.trans m2;have hz20:=hj.size;refine⟨hj,?_⟩;have m4:Y0 t.A.st none (Yz n)=0:=QcJ (λx hx=>by have:=(Km n x).1 hx;omega) (VR n);have m5:Y0 t.A.st none (X5 t.A)=0:=QcJ (λx hx=>by have:=((zE t.A x).1 hx).1;omega) (zF t.A)
   have hPath:=QkG (from0:=0) ((mz.a).ext hj) hR hn mx (m0.ext hj) (Qt.ints (L:=[]) m3 (by omega) (by simp)) m5 m4 ((Km n _).2 ⟨by omega,by omega⟩);refine pk<|xf<|hPath.mono ?_;rintro r21 w21 ⟨m6,vp,rfl,go⟩;have hF:=hj.trans m6;refine⟨hF,?_⟩;have m7:=my.ext hF;refine p (λ_=>Qm)<|p (λ_=>Qj O O)<|p (λ_=>Qj O O)<|p (λ_=>Qj O O)<|p (λ_=>Qa O) <|
    pkl (hl:=by kernel_rfl)<|QB (j:=5) (u:=vp) m7 O O (by simp) (QK go) λw22 gq m8=>pe ?_
   refine⟨(false,vp),Z,((hh.any.trans' hi).trans hF).trans' gq,m8,by rw[decide_eq_false U],?_⟩;unfold Qf5;rw[if_neg U,hQ];have gr:=Zc (base':=hv.heap.size) go (by omega);exact Ql gr gq (λb hb=>by have:=(Qp gr b hb).1;simp only[List.mem_singleton];omega)
  rintro⟨nc,vw⟩ g gs ⟨hy,gt,gu,hz⟩;simp only[]at gt gu hz;subst gu;have m9:Step [] w gs:=gh.then1 hy hA;have hz23:=hy.size;have pa:QT gs.heap b2 41 rp0:=(mg.ext G).step hy (by simpa using h8);have gv:=Ql (Qs T G) hy (λb hb=>by have:=(hB b hb).1;simp only[List.mem_singleton];omega)
  have gx:ZH (rpV S (decide ((X5 t.A).length=0)) vw vs t.A.st):=⟨O,O,O,O,O,QK hz,QK T,O,Z⟩;refine Qc<|x (Qn gt O O)<|xl O<|Qo (us:=rpV S (decide ((X5 t.A).length=0)) vw vs t.A.st) pa O O O O gx λw24 hG pc=>Qe ?_;have hl224:b2<E.heap.size:=by omega
  refine Qk ⟨[.agg (rpV S (decide ((X5 t.A).length=0)) vw vs t.A.st).toArray,.int .i64 0],⟨⟨_,O,Qw O (pc.at (L:=[]) (by simp)).cells⟩,rfl,Z⟩,m9.then1 hG (by omega),rpV S (decide ((X5 t.A).length=0)) vw vs t.A.st,by rw[he];rfl,O,gx,λ_=>⟨vw,vs,?_,?_,?_⟩,λY=>absurd he Y⟩
  ·rw[←rpA,hS,ho.A]
  ·rw[←ho.A];have:=Ql hz hG (λb hb=>by have:=(Qp hz b hb).1;simp only[List.mem_singleton];omega);exact Zc this (by have:=gh.size;omega)
  have:=Ql gv hG (λb hb=>by have:=(Qp gv b hb).1;simp only[List.mem_singleton];omega);exact Zc this hZ.size
 have V:k<t.ps.length:=by have mj:(k:Int)<(t.ps.length:Int):=hC;omega
 have gy:t.ps.take (k+1)=t.ps.take k++[t.ps[k]'V]:=Le V;have gz:=Li V;refine Qi<|Qg<|Qh<|Qc<|xig (g:=Za) (i:=k) Jr hu.l.arr O O V λa55 g0=>?_;refine Zb (t.ps[k]'V) λq hq=>?_;rw[hq]at g0 gz gy;have hH:=hu.l.each q gz
 refine x (QI g0 O O)<|xl O<|Qu (us:=[nS,.int .i64 0,nS,nS]) O λb12 w25 pd pf pg=>xl O<|Qo (us:=Za q) pg O O O O ⟨hH.al.one,O,hH.mr.one,hH.ed.one,Z⟩ λph pj pn =>
  xe ?_
 have g1:Step [] I ph:=pd.then1 pj pf;have po:=hs.ext g1;refine Qx<|x (Qa O)<|x (Qd po O O)<|x (Qa O)<|x (Qd pn O O)<|xl O<|QF (us:=[[.int .i64 q.a.st]]) O O (by decide) (by simp) ⟨rfl,rfl,Z⟩ λb61 w27 pp hb61 pt=>?_;have h2:=g1.trans pp;have hz27:=h2.size;have pu:b10∉ob vs:=λhb=>by have:=(hB b10 hb).1;omega
 refine xl rfl<|Q5 (news:=[.int .i64 q.a.st]) (L:=[]) (Qs T h2) O O O (pt.at (by simp)) (by simp[Value.oneCell']) (by omega) (by omega) λg2 pw hI g3 hn28=>?_;have pz:=(hs.ext h2).step g3 pu;refine x (Qa O)<|xl O<|QB (j:=6) (u:=g2) pz O O (by simp) (QK hI) λw29 g4 p0 =>
  xe ?_
 refine Qx<|QM O O<|Qb<|xe ?_;have p4:Step [b10] E pw:=(J.trans h2).then g3 (λb hb=>.inr (hB b hb).1);refine⟨(k+1,g2),by simp only[];omega,La,V,p4.trans' g4,p0,?_⟩;simp only[];rw[gy,Lv];have:=Ql hI g4 (λb hb=>by have:=(Qp hI b hb).1;simp only[List.mem_singleton];omega);exact Qt.snoc (n:=q.a.st) this
theorem Qc4 {L:LN}{w:World}{c:CL}(E:ZJ L w.heap c)(G:Kb w 4096):
  QE prog 10 [c.val] w λr w'=>Step [] w w'∧∃us,r=.tuple #[.agg us.toArray,.int .i64 (X7 c.cel)]∧us.length=8∧ZH us ∧
   (X7 c.cel=0→∃vw vs,us=[.bool (Vu c.cel).ps,.int .i64 (Vu c.cel).ev,.int .i64 (Vu c.cel).f1,.int .i64 (Vu c.cel).f2,.bool (Vu c.cel).nc,vw,vs,.int .i64 (Vu c.cel).tg]∧Qt 3 w.heap.size w' vw (Vu c.cel).wd∧Qt 3 w.heap.size w' vs (Vu c.cel).sts):=
 (QbT E G).mono λ_ _ ⟨h1,us,h2,h3,h4,h5,_⟩=>⟨h1,us,h2,h3,h4,h5⟩
end Go.Proofs.YtjcgijbhaemldaaGreatDoor
namespace Go.Lg
theorem QaD {κ:Type}[DecidableEq κ]{l:List κ}{s:κ}(h:s∉l):mput (l.map λs=>(s,Value.bool true)) s (.bool true)=(l++[s]).map λs=>(s,Value.bool true):=by
 induction l with
 | nil=>rfl
 | cons a l ih =>
  have h1:a≠s:=λe=>h (by subst e;exact Lp);show(if a=s then(a,Value.bool true)::(l.map λs=>(s,Value.bool true))else(a,Value.bool true)::mput (l.map λs=>(s,Value.bool true)) s (.bool true))=_
  rw[if_neg h1,ih (λhm=>h (Lk _ hm))];rfl
theorem Qf0 {κ:Type}[DecidableEq κ](l:List κ)(s:κ):mget (l.map λs=>(s,Value.bool true)) s=if s∈l then some (.bool true)else none:=by
 induction l with
 | nil=>rfl
 | cons a l ih =>
  show(if a=s then some (Value.bool true)else mget (l.map λs=>(s,Value.bool true)) s)=_
  rw[ih];by_cases h:a=s
  ·subst h;simp
  rw[if_neg h];have h':¬s=a:=λe=>h e.symm;simp[h']
section
variable {P:Program}{f:Fr}{w:World}{d:Option Nat}{ty:Nat}{ps:String}{af:Array Edge}{gd:Option (Nat×Bool)}{κ:Type}[DecidableEq κ]
theorem yu {t kt et:Nat}[hm:Mp P t kt et (.bool false)]{enc:κ→Value}[hk:Key P kt enc]{x y:Operand}{b:Nat}{l:List κ}{s:κ}(h:ZI enc w.heap b (l.map λs=>(s,Value.bool true)))(hx:ev f x=.map (some b))(hy:ev f y=enc s):
  (execOp (ev f) ⟨d,.lookup t x y false,ty,ps,af,gd⟩).run P w=.ok (.value (.bool (decide (s∈l)))) w:=by
 rw[Ju h hx hy,Qf0];by_cases hs:s∈l <;> simp[hs]
end
end Go.Lg
namespace Go.Proofs.YtjcgijbhaemldaaGreatDoor
open Go.Proofs.Tryz
open Go.Lg
instance ayYv1:Ay prog 184 2 3 1:=⟨by kernel_rfl,by kernel_rfl⟩
def UA:List QO→Int
 | []=>0
 | a::l=>if Xq a≠0 then Xq a else UA l
def QhP (kd:Int)(l:List QO):Int:=if UA l≠0 then UA l else if kd≠1∧kd≠2 then 11 else 0
theorem Qnr (a b:QO)(kd:Int):QhP kd [a,b]=lgE a b kd:=by
 unfold QhP lgE UA;by_cases h1:Xq a≠0
 ·simp only[if_pos h1]
 rw[if_neg h1,if_neg h1];unfold UA;by_cases h2:Xq b≠0
 ·simp only[if_pos h2]
 rw[if_neg h2,if_neg h2];unfold UA;simp
theorem Qcq {L:LN}{w:World}{v:Value}{ps:List AV}(h0:YX L w.heap v ps)(kd:Int):
  QE prog 84 [.int .i64 kd,v] w λr w'=>r=.int .i64 (QhP kd (ps.map (·.a)))∧Step [] w w':=by
 have h:=h0.up (L':=[]) (by simp);have ht:=h.arr.le;have G:QhP kd (ps.map (·.a))=if UA (ps.map (·.a))≠0 then UA (ps.map (·.a))else if kd≠1∧kd≠2 then 11 else 0:=rfl
 refine Zb (QhP kd (ps.map (·.a))) λE hE=>?_;rw[hE]at G ⊢;refine QE.of_W func84 O ntmps84 results84 (by simp) ?_;refine Qc<|Qe<|Qg<|Qc<|Qb<|x (Qr h.arr O)<|Qb<|xe<|Qh<|QA (α:=Nat) [(4,4),(6,7),(10,19)] (λz=>[(10,.int .i64 z)]) (λz w'=>z≤ps.length∧Step [] w w'∧UA ((ps.drop z).map (·.a))=UA (ps.map (·.a))) (λz=>ps.length - z) (by rfl) 0 La ⟨Ll _,Step.refl _ _,O⟩ ?_
 rintro k g w1 ⟨hk,H,hk1⟩;refine Qc<|x (Qz O O)<|xe<|Qg<|QC O (λU=>?_) (λU=>?_)
 ·refine Qy ?_;have hh:ps.length≤k:=by have hi:¬(k:Int)<(ps.length:Int):=U;omega
  rw[Ls hh]at hk1;have hz:UA (ps.map (·.a))=0:=hk1.symm;rw[if_neg (by simpa using hz)]at G;refine Qg<|QX (α:=Bool) [(20,25)] (λz=>[(25,.bool z)]) (λz w'=>w'=w1∧z=decide (kd≠1∧kd≠2)) (by rfl) ?_ ?_
  ·refine Qx<|Qb<|xb (Q7 O O) (λV=>?_) (λV=>?_)
   ·refine Qb<|Qb<|x (Q7 O O)<|x (Qq O)<|xe ?_;have Y:¬kd=1:=V;exact⟨decide (¬kd=2),La,O,by simp[Y]⟩
   refine Qb<|xs O<|xs O<|x (Qq O)<|xe ?_;have Y:kd=1:=Lm.1 V;exact⟨false,La,O,by simp[Y]⟩
  rintro z g w2 ⟨rfl,hb⟩;refine QY O (λha=>?_) (λha=>?_)
  ·rw[if_pos (of_decide_eq_true (hb.symm.trans ha))]at G;subst G;refine Qc<|Qe ?_;exact Qk ⟨[_],La,O,H⟩
  rw[if_neg (of_decide_eq_false (hb.symm.trans ha))]at G;subst G;refine Qi<|Qc<|Qe ?_;exact Qk ⟨[_],La,O,H⟩
 have I:k<ps.length:=by have hi:(k:Int)<(ps.length:Int):=U;omega
 have hc:=Li I;rw[LE I,LT,UA]at hk1;refine Qi<|Qg<|Qh<|Qc<|xig (g:=Za) (i:=k) Jr (h.ext H).arr O O I λhu he=>?_;refine Zb (ps[k]'I) λq hq=>?_;rw[hq]at he hc hk1;have J:=(h.ext H).each q hc
 refine x (QI he O O)<|xl O<|Qu (us:=[nS,.int .i64 0,nS,nS]) O λb6 w3 hj hl hm=>xl O<|Qo (us:=Za q) hm O O O O ⟨J.al.one,O,J.mr.one,J.ed.one,Z⟩ λw4 hn ho =>
  xe ?_
 have hf:Step [] w1 w4:=hj.then1 hn hl;refine Qc<|x (Qn ho O O)<|xl O<|xf<|(Y6 (J.ext hf)).mono ?_;rintro r5 w5 ⟨rfl,hp⟩;refine Qe ?_;have hg:=(H.trans hf).trans hp;refine Qc<|Qb<|x (Q7 O O)<|xe<|Q4 rfl (λT=>?_) (λT=>?_)
 ·rw[if_pos T]at hk1;have hs:UA (ps.map (·.a))≠0:=by rw[←hk1];exact T
  rw[if_pos hs,←hk1]at G;subst G;refine Qc<|Qb<|Qe ?_;exact Qk ⟨[_],La,O,hg⟩
 rw[if_neg T]at hk1;refine Qi<|Qx<|QM O O<|Qb<|xe ?_;exact⟨k+1,by omega,La,I,hg,hk1⟩
abbrev stI (l:LI):List (Int×Value):=l.map λs=>(s,Value.bool true)
structure Mch (H:Array Obj)(b m1 m2:Nat)(a:QO):Prop where
 B:QT H b 250 [.map (some m1),.map (some m2),.int .i64 (fst a)]
 e:ZI ZV H m1 (J0 [] a.ed)
 m:ZI Jp H m2 (stI a.mr)
theorem Mch.step {X:LN}{w w':World}{b E G:Nat}{a:QO}(h:Mch w.heap b E G a)(hs:Step X w w')(H:b∉X)(h1:E∉X)(h2:G∉X):Mch w'.heap b E G a:=⟨h.B.step hs H,h.e.step hs h1,h.m.step hs h2⟩
theorem Mch.ext {w w':World}{b E G:Nat}{a:QO}(h:Mch w.heap b E G a)(hs:Step [] w w'):Mch w'.heap b E G a:=h.step hs (by simp) (by simp) (by simp)
theorem yD {w:World}{b H I:Nat}{a:QO}(h:Mch w.heap b H I a)(J:Q2 a)(s v:Int):
  QE prog 139 [.pointer (some ⟨b,0,none⟩),.int .i64 s,.int .i64 v] w λr w'=>r=.int .i64 (nxt a.ed s v)∧Step [] w w':=by
 have E:nxt a.ed s v=(if(eget a.ed s v).isSome=true then(eget a.ed s v).getD 0 else -1):=by rw[VO];cases eget a.ed s v <;> rfl
 refine QE.of_W func139 O ntmps139 results139 (by simp) ?_;refine Qc<|Qe<|Qg<|Qc<|Qb<|x (QG O)<|x (Qa O)<|x (Qd h.B O O)<|Qb<|Qb<|x (QN ⟨O,O,Z⟩)<|x (Qdp (s:=a) (q:=s) (v:=v) h.e J.edi O O) <|
  Qb<|x (Qj O O)<|x (Qj O O)<|x Qf<|Qe<|Qc<|Qb<|xe ?_
 refine Q4 rfl (λG=>?_) (λG=>?_)
 ·rw[if_pos G]at E;refine Qc<|Qb<|Qe ?_;exact Qk ⟨[_],La,by rw[E];rfl,Step.refl _ _⟩
 rw[if_neg G]at E;refine Qi<|Qc<|Qe ?_;exact Qk ⟨[_],La,by rw[E];rfl,Step.refl _ _⟩
theorem QdJ {w:World}{b I J:Nat}{a:QO}(h:Mch w.heap b I J a)(s kd:Int):
  QE prog 89 [.pointer (some ⟨b,0,none⟩),.int .i64 s,.int .i64 kd] w λr w'=>r=.bool (qQ a kd s)∧Step [] w w':=by
 refine QE.of_W func89 O ntmps89 results89 (by simp) ?_;refine Qc<|Qe<|QX (α:=Bool) [(6,20)] (λz=>[(6,.bool z)]) (λz w'=>w'=w∧z=qQ a kd s) (by rfl) ?_ ?_
 ·refine Qx<|Qb<|xb (ZN O O) (λE=>?_) (λE=>?_)
  ·have h9:0≤s:=E;refine Qb<|Qb<|xb (Zl O O) (λG=>?_) (λG=>?_)
   ·refine Qb<|xs O<|xs O<|xs O<|xs O<|xs O<|xs O<|x (Qq O)<|x (Qq O)<|Qe ?_;have H:kd=1:=G;exact⟨true,La,O,by simp[qQ,h9,H]⟩
   have H:¬kd=1:=G;refine Qb<|Qb<|x (QG O)<|x (Qa O)<|x (Qd h.B O O)<|Qb<|x (yu (s:=s) h.m O O)<|x (Qq O)<|x (Qq O) <|
    Qe ?_
   exact⟨decide (s∈a.mr),La,O,by simp[qQ,h9,H]⟩
  have h9:¬0≤s:=E;refine Qb<|xs O<|xs O<|xs O<|xs O<|xs O<|xs O<|xs O<|xs O<|xs O<|xs O<|x (Qq O)<|x Qf <|
   xe ?_
  exact⟨false,La,O,by simp[qQ];omega⟩
 rintro z g T ⟨rfl,rfl⟩;exact Qk ⟨[_],La,O,Step.refl _ _⟩
theorem QgP {w:World}{b10 I b11 J Y he T hf hg:Nat}{a b:QO}{kd:Int}(hh:QT w.heap b10 180 [.pointer (some ⟨J,0,none⟩)])(hi:QT w.heap b11 180 [.pointer (some ⟨T,0,none⟩)])
  (h5:QT w.heap I 3 [.int .i64 kd]) (ha:Mch w.heap J Y he a) (hb:Mch w.heap T hf hg b) (s t:Int):
  QE prog 88 [.agg #[.int .i64 s,.int .i64 t],.pointer (some ⟨b10,0,none⟩),.pointer (some ⟨I,0,none⟩),.pointer (some ⟨b11,0,none⟩)] w λr w'=>r=.bool (!(qQ a kd s == qQ b kd t))∧Step [] w w':=by
 refine QE.of_W func88 O ntmps88 results88 (by simp) ?_;refine Qc<|xl O<|QQ (us:=[.int .i64 s,.int .i64 t]) O λb4 G E hj U=>Qe ?_;have hd:Step [] G { G with drawn:=G.drawn+1 }:=Step.drew _ _
 refine Qg<|QV (Step [] G) [(0,true),(1,true),(2,true),(3,true),(5,true),(6,true),(7,true),(8,true),(4,false),(9,false),(10,true),(11,true)] mixed (by rfl) (by kernel_rfl) (Step.drew _ _) ?_;refine pq (λ_ hc=>Qd ((hh.ext E).ext hc) O O)<|p (λ_=>Zw (i:=0) O O (by decide))<|pq (λ_ hc=>Qd (U.ext hc) O O)<|pq (λ_ hc=>Qd ((h5.ext E).ext hc) O O)<|pq (λ_ hc=>Qd ((hi.ext E).ext hc) O O) <|
  p (λ_=>Zw (i:=1) O O (by decide))<|pq (λ_ hc=>Qd (U.ext hc) O O)<|pq (λ_ hc=>Qd ((h5.ext E).ext hc) O O)<|pk<|xf<|(QdJ ((ha.ext E).ext hd) s kd).mono ?_
 rintro r2 w2 ⟨rfl,H⟩;refine⟨hd.trans H,?_⟩;refine pk<|xf<|(QdJ (((hb.ext E).ext hd).ext H) t kd).mono ?_;rintro r3 w3 ⟨rfl,V⟩;refine⟨(hd.trans H).trans V,?_⟩;refine p (λ_=>qH O O)<|p (λ_=>Qf)<|pe ?_;exact Qk ⟨[_],La,O,((E.trans hd).trans H).trans V⟩
set_option maxHeartbeats 4000000 in
theorem yE {w:World}{va vm ve:Value}{a:QO}(h:Zp [] w.heap va vm ve a)(ho:Q2 a):
  QE prog 85 [.agg #[va,.int .i64 a.st,vm,ve]] w λr w'=>Step [] w w'∧∃b E G,r=.pointer (some ⟨b,0,none⟩)∧w.heap.size≤b∧w.heap.size≤E∧w.heap.size≤G∧Mch w'.heap b E G a:=by
 have go:=h.ed.le;have gq:=h.mr.le;refine QE.of_W func85 O ntmps85 results85 (by simp) ?_;refine Qc<|xl O<|QQ (us:=[va,.int .i64 a.st,vm,ve]) O λb1 w1 hg gr h4=>Qe<|Qc<|xl O<|Z0 ZV λE w2 h5 gs h9=>xl O<|Z0 Jp λG w3 hh gt hB=>x (QN ⟨O,O,O,Z⟩)<|xl O<|QQ (us:=[.map (some E),.map (some G),.int .i64 0]) O λb11 I U gu hn =>
  Qe ?_
 have gv:=hg.size;have gx:=h5.size;have gy:=hh.size;have gz:=U.size;have g0:=h9.lt;have g1:=hB.lt;have g2:=hn.lt;have hp:=(h5.trans hh).trans U;have hq:=h4.ext hp;have g3:=h4.lt;have hM:ZI ZV I.heap E []:=((h9.step hh (by simp)).step U (by simp));have hN:ZI Jp I.heap G []:=hB.step U (by simp)
 have hr:∀{b:Nat},b∈[b11,E,G]→w1.heap.size≤b:=λhb=>by simp only[List.mem_cons,List.not_mem_nil,or_false]at hb;omega
 have hC:b1∉[b11,E,G]:=λhb=>by have:=hr hb;omega
 have hO:∀b∈[b11,E,G],w.heap.size≤b:=λb hb=>by have:=hr hb;omega
 have hA:∀{w':World},Step [b11,E,G] I w'→Zp [] w'.heap va vm ve a:=λhs =>
  ((((h.ext hg).up (L':=[b11,E,G]) (λb hb=>.inr (hr hb))).ext hp).st hs).up (by simp)
 have hP:∀b∈[b11],b∈[b11,E,G]:=λb hb=>by simp only[List.mem_singleton]at hb;simp[hb]
 have k1:∀b∈[E],b∈[b11,E,G]:=λb hb=>by simp only[List.mem_singleton]at hb;simp[hb]
 have k2:∀b∈[G],b∈[b11,E,G]:=λb hb=>by simp only[List.mem_singleton]at hb;simp[hb]
 refine QX (α:=Unit) [(12,17)] (λz=>[]) (λz w'=>Step [b11] I w'∧QT w'.heap b11 250 [.map (some E),.map (some G),.int .i64 (fst a)]) (by rfl) ?_ ?_
 ·refine Qc<|x (Qa O)<|x (Qd hq O O)<|x (Zl O O)<|xe<|Q4 O (λht=>?_) (λht=>?_)
  ·have hf:fst a=-1:=by unfold fst;rw[if_pos ht]
   refine Qx<|Qb<|x (QG O)<|x (Qa O)<|xl O<|QB (j:=2) (u:=.int .i64 (-1)) hn O O (by simp) rfl λw5 hQ hR=>xe ?_;exact⟨(),Z,hQ,by rw[hf];exact hR⟩
  have hf:fst a=0:=by unfold fst;rw[if_neg ht]
  refine Qi ?_;exact⟨(),Z,Step.refl _ _,by rw[hf];exact hn⟩
 rintro z g w6 ⟨V,hS⟩;have hu:=V.mono hP;have g4:=V.size;have hT:ZI ZV w6.heap E []:=hM.step V (by simp only[List.mem_singleton];omega);have hU:ZI Jp w6.heap G []:=hN.step V (by simp only[List.mem_singleton];omega);have hV:=hq.step hu hC;have h6:=hA hu;refine Qg<|Qc<|x (Qa O)<|x (Qd hV O O)<|x (Qr h6.ed O)<|Qb<|xe ?_
 refine Qh<|QA (α:=Nat) [(5,5),(21,36)] (λz=>[(21,.int .i64 z)]) (λz w'=>z≤a.ed.length∧Step [E] w6 w'∧ZI ZV w'.heap E (J0 [] (a.ed.take z))) (λz=>a.ed.length - z) (by rfl) 0 La
  ⟨Ll _,Step.refl _ _,hT⟩ ?_
 rintro k g w7 ⟨hk,J,hv⟩;have hw:Step [b11,E,G] I w7:=hu.trans' (J.mono k1);have h7:=hA hw;have g5:=J.size;have hD:=hS.step J (by simp only[List.mem_singleton];omega);have hW:=hU.step J (by simp only[List.mem_singleton];omega);have hX:=hq.step hw hC;refine Qc<|x (Qz O O)<|xe<|Qg<|QC O (λhy=>?_) (λhy=>?_)
 ·refine Qy ?_;have hY:a.ed.length≤k:=by have hz:¬(k:Int)<(a.ed.length:Int):=hy;omega
  rw[Ln hY]at hv;refine Qg<|Qc<|x (Qa O)<|x (Qd hX O O)<|x (Qr h7.mr O)<|Qb<|xe<|Qh<|QA (α:=Nat) [(7,7),(40,49)] (λz=>[(40,.int .i64 z)]) (λz w'=>z≤a.mr.length∧Step [G] w7 w'∧ZI Jp w'.heap G (stI (a.mr.take z))) (λz=>a.mr.length - z) (by rfl) 0 La
   ⟨Ll _,Step.refl _ _,hW⟩ ?_
  rintro j g w8 ⟨hj,Y,h0⟩;have hE:Step [b11,E,G] I w8:=hw.trans' (Y.mono k2);have h8:=hA hE;have hF:=hD.step Y (by simp only[List.mem_singleton];omega);have hZ:=hv.step Y (by simp only[List.mem_singleton];omega);refine Qc<|x (Qz O O)<|xe<|Qg<|QC O (λh1=>?_) (λh1=>?_)
  ·refine Qy ?_;have ga:a.mr.length≤j:=by have hz:¬(j:Int)<(a.mr.length:Int):=h1;omega
   rw[Ln ga]at h0;refine Qc<|Qb<|Qe ?_;exact Qk ⟨[.pointer (some ⟨b11,0,none⟩)],La,(hg.trans hp).then hE (λb hb=>.inr (hO b hb)),b11,E,G,O,by omega,by omega,by omega,hF,hZ,h0⟩
  have H:j<a.mr.length:=by have hz:(j:Int)<(a.mr.length:Int):=h1;omega
  have hG:a.mr.take (j+1)=a.mr.take j++[a.mr[j]'H]:=Le H;have hH:(a.mr[j]'H)∉a.mr.take j:=by
   intro hm;obtain⟨i,hi,e⟩:=LF hm;rw[MY]at e;have gb:i<j:=by rw[Ly]at hi;omega
   have:=Yn.get ho.mri H gb;omega
  refine Qi<|Qg<|Qh<|Qc<|xii (i:=j) h8.mr O O H λg6 hI=>?_;refine Zb (a.mr[j]'H) λs hs=>?_;rw[hs]at hI hG hH;refine x (Qv hI O)<|Qe<|Qx<|Qb<|x (QG O)<|x (Qa O)<|x (Qd hF O O)<|Qb<|xl O<|YI (k:=s) h0 O O λw9 gc ge=>xe ?_;refine Qx<|QM O O<|Qb<|xe<|⟨j+1,by omega,La,H,Y.trans' gc,?_⟩;rw[hG]
  have hJ:ZI Jp w9.heap G (mput ((a.mr.take j).map λs=>(s,Value.bool true)) s (.bool true)):=ge;rw[QaD hH]at hJ;exact hJ
 have ha:k<a.ed.length:=by have hz:(k:Int)<(a.ed.length:Int):=hy;omega
 have hK:=zj (m:=[]) ha;refine Qi<|Qg<|Qh<|Qc<|xie (i:=k) h7.ed O O ha λg7 hL=>?_;refine Zb (a.ed[k]'ha) λe he=>?_;rw[he]at hL hK;refine x (QI hL O O)<|xl O<|Qu (us:=[.int .i64 0,.int .i64 0,.int .i64 0]) O λb5 g8 gg gh gi=>xl O<|Qo (us:=QD e) gi O O O O ⟨O,O,O,Z⟩ λT gj h2 =>
  xe ?_
 have h3:Step [] w7 T:=gg.then1 gj gh;have gk:=hD.ext h3;have gl:ZI ZV T.heap E (J0 [] (a.ed.take k)):=hv.step h3 (by simp);refine QV (Step [] T) [(0,true),(1,true),(2,true),(3,true),(4,true),(5,true),(6,true),(7,true),(8,true),(9,true),(10,true),(11,false)] mixed (by rfl) (by kernel_rfl) (Step.drew _ _) ?_
 refine p (λ_=>Qm)<|p (λ_=>QG O)<|p (λ_=>Qa O)<|pq (λ_ hc=>Qd (gk.ext hc) O O) <|
  p (λ_=>Qa O)<|pq (λ_ hc=>Qd (h2.ext hc) O O)<|p (λ_=>Qa O)<|pq (λ_ hc=>Qd (h2.ext hc) O O) <|
  p (λ_=>QN ⟨O,O,Z⟩)<|p (λ_=>Qa O)<|pq (λ_ hc=>Qd (h2.ext hc) O O)<|pkl (hl:=by kernel_rfl)<|YI (k:=(e.1,e.2.1)) (gl.step (Step.drew [] T) (by simp)) rfl rfl λg9 gm gn =>
  pe ?_
 refine Qx<|QM O O<|Qb<|xe<|⟨k+1,by omega,La,ha,((J.trans h3).trans (Step.drew [] T)).trans' gm,?_⟩;rw[hK];exact gn
theorem QeU (a b:Int)(v w:LI):jJ (a::v) (b::w)=if a=b then jJ v w else decide (a<b):=rfl
theorem QgK {L L':LN}{w:World}{v v':Value}{l l':LI}(h:QH L w.heap v l)(h':QH L' w.heap v' l'):
  QE prog 42 [v,v'] w λr w'=>r=.bool (less l l')∧Step [] w w':=by
 have hq:=h.le;have hs:=h'.le;have G:less l l'=if l.length≠l'.length then decide (l.length<l'.length)else jJ l l':=rfl
 refine Zb (less l l') λR hR=>?_;rw[hR]at G ⊢;have H:QH [] w.heap v l:=h.up (by simp);have J:QH [] w.heap v' l':=h'.up (by simp);refine QE.of_W func42 O ntmps42 results42 (by simp) ?_;refine Qc<|Qe<|Qg<|Qc<|Qb<|x (Qr H O)<|Qb<|x (Qr J O)<|x (Q7 O O)<|xe<|Q4 rfl (λY=>?_) (λY=>?_)
 ·have hl:l.length≠l'.length:=λe=>Y (by rw[e]);rw[if_pos hl]at G;refine Qc<|Qb<|x (Qr H O)<|Qb<|x (Qr J O)<|x (Qz O O)<|Qe<|Qk ⟨[_],La,?_,Step.refl _ _⟩;rw[G];have:decide ((l.length:Int)<(l'.length:Int))=decide (l.length<l'.length):=by rw[decide_eq_decide];omega
  show Value.bool (decide ((l.length:Int)<(l'.length:Int)))=_;rw[this]
 have hm:l.length=l'.length:=by
  have ht:(l.length:Int)=(l'.length:Int):=Lm.1 Y;omega
 rw[if_neg (by simpa using hm)]at G;refine Qi<|Qg<|Qc<|Qb<|x (Qr H O)<|Qb<|xe<|Qh<|QA (α:=Nat) [(4,5),(18,39)] (λz=>[(18,.int .i64 z)]) (λz w'=>z≤l.length∧Step [] w w'∧jJ (l.drop z) (l'.drop z)=R) (λz=>l.length - z) (by rfl) 0 La ⟨Ll _,Step.refl _ _,G.symm⟩ ?_;rintro k g E ⟨hk,T,hk1⟩;refine Qc<|x (Qz O O)<|xe<|Qg<|QC O (λha=>?_) (λha=>?_)
 ·refine Qy ?_;have hn:l.length≤k:=by have ho:¬(k:Int)<(l.length:Int):=ha;omega
  rw[Ls hn]at hk1;have hp:R=false:=hk1.symm;refine Qc<|Qe ?_;exact Qk ⟨[_],La,by rw[hp];rfl,T⟩
 have I:k<l.length:=by have ho:(k:Int)<(l.length:Int):=ha;omega
 have U:k<l'.length:=by omega
 rw[LE I,LE U,QeU]at hk1;refine Qi<|Qg<|Qh<|Qc<|Qb<|Qe<|Qg<|QV (Step [] E) [(0,true),(1,true),(2,true),(3,true),(4,true),(5,true),(6,true),(7,true),(8,true)] mixed (by rfl) (by kernel_rfl) (Step.drew _ _) ?_;refine p (λ_=>Qm)<|p (λ_=>Qm)<|pii (i:=k) O (H.ext T) O O I λhu he=>?_;refine Zb (l[k]'I) λx1 hf=>?_;rw[hf]at he hk1
 refine pq (λ_ hc=>Qv (he.st hc) O) <|
  p (λ_=>Qm)<|p (λ_=>Qm)<|pii (i:=k) O (J.ext T) O O U λhv hg=>?_
 refine Zb (l'[k]'U) λx2 hh=>?_;rw[hh]at hg hk1;refine pq (λ_ hc=>Qv (hg.st hc) O)<|p (λ_=>Q7 O O)<|pe ?_;have hd:Step [] E { E with drawn:=E.drawn+1 }:=Step.drew _ _
 have V:=T.trans hd;refine Q4 rfl (λhb=>?_) (λhb=>?_)
 ·rw[if_neg hb]at hk1;refine Qg<|QV (Step [] { E with drawn:=E.drawn+1 }) [(0,true),(1,true),(2,true),(3,true),(4,true),(5,true),(6,true),(7,true),(8,true),(9,true)] mixed (by rfl) (by kernel_rfl) (Step.drew _ _) ?_
  refine p (λ_=>Qm)<|p (λ_=>Qm)<|pii (i:=k) O (H.ext V) O O I λhw hi=>?_;rw[hf]at hi;refine pq (λ_ hc=>Qv (hi.st hc) O) <|
   p (λ_=>Qm)<|p (λ_=>Qm)<|pii (i:=k) O (J.ext V) O O U λhy hj=>?_
  rw[hh]at hj;refine pq (λ_ hc=>Qv (hj.st hc) O)<|p (λ_=>Qz O O) <|
   p (λ_=>Qf)<|pe ?_
  exact Qk ⟨[.bool (decide (x1<x2))],La,by rw[←hk1];rfl,V.trans (Step.drew _ _)⟩
 rw[if_pos (Lm.1 hb)]at hk1;refine Qi<|Qx<|QM O O<|Qb<|xe ?_;exact⟨k+1,by omega,La,I,V,hk1⟩
end Go.Proofs.YtjcgijbhaemldaaGreatDoor
namespace Go.Lg
section
variable {P:Program}{n:Nat}{f:Fr}{w:World}{all:List Oper}{K:Fr→World→Prop}
def QmX (all:List Oper)(pre:List (Nat×Bool))(k:Nat)(t:Pt):Bool :=
 Region.noSelect all.toArray && (pre.length+(t.len+1) == all.length) && Xn all.toArray pre (Array.replicate all.length false) && (Region.ready .any all.toArray (Zt pre (Array.replicate all.length false)) == [k]) && Qgl all.toArray t ((Zt pre (Array.replicate all.length false)).setIfInBounds k true)
theorem QkD {Q:Exit→Fr→World→Prop}{id:Nat}(C:World→Prop)(pre:List (Nat×Bool))(k:Nat)(t:Pt)(hm:P.follows .mixedOrders=true)(J:Xb n all=true)(hp:QmX all pre k t=true)
  (hC:C { w with drawn:=w.drawn+1 }) (h:XP P all C (λf1 E=>Z6 all f1 (QL all k)=true∧XO P (QL all k) f1 E λG w'=>C w'∧XT P all C (λf w=>Q .normal f w) t G w') pre f { w with drawn:=w.drawn+1 }):W P n (.region id all.toArray true) Q f w:=by
 simp only[QmX,Bool.and_eq_true,beq_iff_eq]at hp;obtain⟨⟨⟨⟨hs,hl⟩,hq⟩,H⟩,ht⟩:=hp;refine YW C hm J ?_;have h1:=ZM (K:=λf w=>Q .normal f w) (m:=t.len+1) hs pre (Array.replicate all.length false) f _ hC hq
  (B:=λf1 E=>Z6 all f1 (QL all k)=true∧XO P (QL all k) f1 E λG w'=>C w'∧XT P all C (λf w=>Q .normal f w) t G w')
  (λf1 I=>by
   refine YP (λT=>(by rw[T]at H;cases H)) ?_;rw[H];intro j hj o U;have V:j=k:=by simpa using hj
   subst V;rw[Zd U]at I;rw[I.1,cond_true];exact I.2.mono λv w' hx=>⟨.inr (.inr hx.1),Vv hs t _ _ _ (by simp[ZK]) hx.1 ht hx.2⟩) h
 rw[hl]at h1;exact h1
end
end Go.Lg
namespace Go.Proofs.YtjcgijbhaemldaaGreatDoor
open Go.Lg
theorem At.sub {L:LN}{H:Array Obj}{a:Addr}{us:LV}(h:At L H a us)(n:Nat):At L H a (us.take n):=
 ⟨λu hu=>h.out u (LR hu),λu hu=>h.lt u (LR hu),λj u hu=>by
  rw[L1]at hu;split at hu
  ·exact h.cell j u hu
  cases hu⟩
abbrev Ye (p:Vs):LV:=[.int .i64 p.x,.int .i64 p.y,.int .i64 p.b,.int .i64 p.v]
theorem qp (p:Vs):(Ye p).length=4:=rfl
theorem Qgw:∀(es:List Ed) (s v:Int),(∀e∈es,0≤e.2.2)→-1≤nxt es s v
 | [],_,_,_=>Nf _
 | e::es,s,v,h=>by
  rw[nxt];split
  ·have:=h e Lp;omega
  exact Qgw es s v (λx hx=>h x (Lk _ hx))
theorem Qgs {a:QO}(E:Q2 a)(s v:Int):-1≤nxt a.ed s v∧(nxt a.ed s v<a.st∨nxt a.ed s v=-1):=by
 have h1:=Qgw a.ed s v (λe he=>(E.ed e he).2.2.2.1);refine⟨h1,?_⟩;by_cases h:nxt a.ed s v<0
 ·right;omega
 left;exact Qgu E h
structure VsI (a b:QO)(V:List Vs):Prop where
 nd:(V.map Vs.ky).Nodup
 rg:∀p∈V,-1≤p.x∧(p.x<a.st∨p.x=-1)∧-1≤p.y∧(p.y<b.st∨p.y=-1)
 bk:∀(k:Nat) (h:k<V.length),V[k].b<(k:Int)
def cdV (m:Nat)(p:Int×Int):Int:=(p.1+1)*(m+1)+(p.2+1)
theorem Qme {n m:Nat}{x y:Int}(hx:-1≤x∧(x<n∨x=-1))(hy:-1≤y∧(y<m∨y=-1)):0≤cdV m (x,y)∧cdV m (x,y)<(((n+1)*(m+1):Nat):Int):=by
 unfold cdV;obtain⟨u,hu⟩:∃u:Nat,x+1=u:=⟨(x+1).toNat,by omega⟩;obtain⟨v,E⟩:∃v:Nat,y+1=v:=⟨(y+1).toNat,by omega⟩;have G:u≤n:=by omega
 have H:v≤m:=by omega
 show 0≤(x+1)*((m:Int)+1)+(y+1)∧(x+1)*((m:Int)+1)+(y+1)<_;rw[hu,E];have h1:u*(m+1)+v<(n+1)*(m+1):=by
  have h2:u*(m+1)≤n*(m+1):=My _ G;have h3:(n+1)*(m+1)=n*(m+1)+(m+1):=by rw[Mk,M7]
  omega
 have e:((u:Int)*((m:Int)+1)+(v:Int))=((u*(m+1)+v:Nat):Int):=by push_cast;rfl
 rw[e];constructor <;> omega
theorem Qkq {m:Nat}{x y G E:Int}(hx:-1≤x)(V:-1≤G)(hy:-1≤y∧(y<m∨y=-1))(Y:-1≤E∧(E<m∨E=-1))(h:cdV m (x,y)=cdV m (G,E)):(x,y)=(G,E):=by
 unfold cdV at h;have h':(x+1)*((m:Int)+1)+(y+1)=(G+1)*((m:Int)+1)+(E+1):=h;obtain⟨u,hu⟩:∃u:Nat,x+1=u:=⟨(x+1).toNat,by omega⟩;obtain⟨H,I⟩:∃H:Nat,G+1=H:=⟨(G+1).toNat,by omega⟩;obtain⟨v,J⟩:∃v:Nat,y+1=v:=⟨(y+1).toNat,by omega⟩;obtain⟨v',hv'⟩:∃v':Nat,E+1=v':=⟨(E+1).toNat,by omega⟩;rw[hu,I,J,hv']at h';have h1:u*(m+1)+v=H*(m+1)+v':=by exact_mod_cast h'
 have T:v<m+1:=by omega
 have U:v'<m+1:=by omega
 have e1:u=H:=by
  have a1:(u*(m+1)+v) / (m+1)=u:=by rw[Nat.mul_comm,Nat.mul_add_div (by omega),Nat.div_eq_of_lt T,MP]
  have a2:(H*(m+1)+v') / (m+1)=H:=by rw[Nat.mul_comm,Nat.mul_add_div (by omega),Nat.div_eq_of_lt U,MP]
  rw[←a1,←a2,h1]
 subst e1;have e2:v=v':=by omega
 have:x=G∧y=E:=⟨by omega,by omega⟩;rw[this.1,this.2]
theorem VsI.len {a b:QO}(ha:Q2 a)(hb:Q2 b){V:List Vs}(h:VsI a b V):V.length≤(a.st.toNat+1)*(b.st.toNat+1):=by
 have U:=ha.st0;have Y:=hb.st0;have h1:=pig ((a.st.toNat+1)*(b.st.toNat+1)) ((V.map Vs.ky).map (cdV b.st.toNat)) (by
  unfold List.Nodup;rw[MM];refine(List.Pairwise.imp_of_mem ?_ h.nd);intro p q hp hq G e;obtain⟨H,I,rfl⟩:=Lx.1 hp;obtain⟨J,T,rfl⟩:=Lx.1 hq;have E:=h.rg H I;have r2:=h.rg J T;exact G (Qkq E.1 r2.1 ⟨E.2.2.1,by omega⟩ ⟨r2.2.2.1,by omega⟩ e)) (λx hx=>by
  obtain⟨k,hk,rfl⟩:=Lx.1 hx;obtain⟨p,hp,rfl⟩:=Lx.1 hk;have E:=h.rg p hp;exact Qme ⟨E.1,by omega⟩ ⟨E.2.2.1,by omega⟩)
 simpa using h1
theorem QlT {V W:List Vs}{i:Nat}(h:i<V.length):gV (V++W) i=gV V i:=by unfold gV;simp[List.getD,List.getElem?_append_left h]
theorem Qcw {V:List Vs}{i:Nat}(h:i<V.length):gV V i=V[i]'h:=by unfold gV;simp[List.getD,h]
theorem Qg9 {a:QO}(E:Q2 a):-1≤fst a∧(fst a<a.st∨fst a=-1):=by
 have:=E.st0;unfold fst;split
 ·exact⟨by omega,.inr O⟩
 exact⟨by omega,.inl (by omega)⟩
theorem VsI.one {a b:QO}(ha:Q2 a)(hb:Q2 b):VsI a b [⟨fst a,fst b,-1,0⟩]:=by
 have h1:=Qg9 ha;have h2:=Qg9 hb;refine⟨by simp,λp hp=>?_,λk h=>?_⟩
 ·simp only[List.mem_singleton]at hp;subst hp;exact⟨h1.1,h1.2,h2.1,h2.2⟩
 have hk:k=0:=by simpa using h
 subst hk;exact(by decide:(-1:Int)<0)
theorem VsI.add {a b:QO}(ha:Q2 a)(hb:Q2 b){V:List Vs}(h:VsI a b V){i:Nat}(hi:i<V.length){p:Vs}{v:Int}(hk:(yF a b i p v).ky∉V.map Vs.ky):VsI a b (V++[yF a b i p v]):=by
 refine⟨?_,λq hq=>?_,λk G=>?_⟩
 ·rw[Lv,Mx];refine⟨h.nd,by simp,λx hx y hy e=>?_⟩;simp only[List.map_cons,List.map_nil,List.mem_singleton]at hy;subst hy;subst e;exact hk hx
 ·rcases Lq.1 hq with hq|hq
  ·exact h.rg q hq
  simp only[List.mem_singleton]at hq;subst hq;have E:=Qgs ha p.x v;have r2:=Qgs hb p.y v;exact⟨E.1,E.2,r2.1,r2.2⟩
 rw[List.getElem_append];split
 ·rename_i h1;exact h.bk k h1
 have:V.length≤k:=by omega
 simp only[List.getElem_singleton,yF];omega
theorem Qa2 (V:List Vs)(f k:Nat):lgW V (f+1) k=if 0≤(gV V k).b then(gV V k).v::lgW V f (gV V k).b.toNat else[]:=rfl
open Go.Proofs.Tryz
instance:Bw prog 252 [.int .i64 0,.int .i64 0,.int .i64 0,.int .i64 0] [(0,2),(2,1),(3,1)]:=⟨by kernel_rfl,by decide⟩
abbrev stP (l:List (Int×Int)):List ((Int×Int)×Value):=l.map λs=>(s,Value.bool true)
abbrev VsO (base:Nat)(w:World)(v:Value)(l:List Vs):Prop:=w.ownsRow base 252 4 v l.length (l.flatMap Ye)
theorem VsO.snoc {base:Nat}{w:World}{v:Value}{l:List Vs}{p:Vs}(h:w.ownsRow base 252 4 v (l.length+1) (l.flatMap Ye++Ye p)):VsO base w v (l++[p]):=by
 unfold VsO;rw[Lj,LC];simpa using h
theorem Qjp {p:Prop}{i:Decidable p}(h:(!@decide p i)=true):¬p:=by
 cases i with
 | isTrue hp=>cases h
 | isFalse hp=>exact hp
theorem QgD {p:Prop}{i:Decidable p}(h:(!@decide p i)=false):p:=by
 cases i with
 | isTrue hp=>exact hp
 | isFalse hp=>cases h
structure jf (H:Array Obj)(m:Nat)(V:List Vs):Prop where
 h:∃K:List (Int×Int),ZI ZV H m (stP K)∧∀k,k∈K↔k=(-1,-1)∨k∈V.map Vs.ky
theorem Ki {H:Array Obj}{m:Nat}{K:List (Int×Int)}{k:Int×Int}(h:ZI ZV H m (mput (stP K) k (.bool true))):∃K',ZI ZV H m (stP K')∧∀x,x∈K'↔x=k∨x∈K:=by
 by_cases hk:k∈K
 ·refine⟨K,?_,λx=>⟨.inr,λhx=>hx.elim (λe=>e ▸ hk) id⟩⟩;have key:∀K:List (Int×Int),k∈K→mput (stP K) k (.bool true)=stP K:=by
   intro K;induction K with
   | nil=>intro h;cases h
   | cons a K ih =>
    intro hm;show(if a=k then(a,Value.bool true)::stP K else(a,Value.bool true)::mput (stP K) k (.bool true))=_
    by_cases e:a=k
    ·rw[if_pos e];rfl
    rw[if_neg e,ih ((Lc.1 hm).resolve_left (λh=>e h.symm))];rfl
  rw[key K hk]at h;exact h
 refine⟨K++[k],?_,λx=>by rw[Lq,Lb];exact Or.comm⟩;have:=QaD hk;rw[show mput (stP K) k (.bool true)=stP (K++[k]) from this]at h;exact h
theorem jf.ext {w w':World}{m:Nat}{V:List Vs}(h:jf w.heap m V)(hs:Step [] w w'):jf w'.heap m V:=let⟨K,h1,h2⟩:=h.h;⟨K,h1.step hs (by simp),h2⟩
theorem yG (a b:QO)(i:Nat)(p:Vs)(V:List Vs)(v:Int):((yF a b i p v).ky≠(-1,-1)∧(yF a b i p v).ky∉V.map Vs.ky∧lgA a b i p V v=V++[yF a b i p v])∨(((yF a b i p v).ky=(-1,-1)∨(yF a b i p v).ky∈V.map Vs.ky)∧lgA a b i p V v=V):=by
 unfold lgA;by_cases h:(yF a b i p v).ky≠(-1,-1)∧(yF a b i p v).ky∉V.map Vs.ky
 ·exact .inl ⟨h.1,h.2,if_pos h⟩
 refine .inr ⟨?_,if_neg h⟩;by_cases h1:(yF a b i p v).ky=(-1,-1)
 ·exact .inl h1
 exact .inr (Lm.1 λh2=>h ⟨h1,h2⟩)
set_option maxRecDepth 4096 in
set_option maxHeartbeats 16000000 in
theorem QeB {w:World}{vl:Value}{al:LI}{kb ms mt kc mu mv:Nat}{a b:QO}{kd:Int}{g:Nat}{fn:Func}[Fu prog g fn]{cap:LV}(hT:QH [] w.heap vl al)(ke:Mch w.heap kb ms mt a)(kf:Mch w.heap kc mu mv b)(hq:Q2 a)(hr:Q2 b)
  (hk:∀(s t:Int) (w1:World),Step [] w w1→QE prog g ([.agg #[.int .i64 s,.int .i64 t]]++cap) w1 λr w'=>r=.bool (!(qQ a kd s == qQ b kd t))∧Step [] w1 w'):
  QE prog 86 [vl,.pointer (some ⟨kb,0,none⟩),.pointer (some ⟨kc,0,none⟩),.func (.func g) #[] cap.toArray] w λr w'=>Step [] w w' ∧
   match lgL a b kd al ((a.st.toNat+1)*(b.st.toNat+1)+1) 0 [⟨fst a,fst b,-1,0⟩]with|none=>r=.tuple #[Q0,.bool false]|some u=>∃v,r=.tuple #[v,.bool true]∧Qt 3 w.heap.size w' v u:=by
 have z5:=hT.le;have z9:=hq.st1;have hb1:=hr.st1;have mw:(a.st.toNat+1)*(b.st.toNat+1)≤4097*4097:=Nat.mul_le_mul (by omega) (by omega);refine Zb ((a.st.toNat+1)*(b.st.toNat+1)) λN hN=>?_;rw[hN]at mw ⊢;refine Zb (lgL a b kd al (N+1) 0 [⟨fst a,fst b,-1,0⟩]) λR hR=>?_;rw[hR];refine QE.of_W func86 O ntmps86 results86 (by simp) ?_
 refine Qc<|x Qf<|Qe<|Qg<|QV (Step [] w) [(0,true),(1,true),(2,true),(3,true),(4,true),(5,true),(6,true),(7,true),(8,true),(9,false),(10,false)] mixed (by rfl) (by kernel_rfl) (Step.drew _ _) ?_;refine p (λ_=>Qm)<|p (λ_=>QG O)<|p (λ_=>Qa O)<|pq (λ_ hc=>Qd (ke.B.ext hc) O O)<|p (λ_=>Qm)<|p (λ_=>QG O) <|
  p (λ_=>Qa O)<|pq (λ_ hc=>Qd (kf.B.ext hc) O O)<|p (λ_=>QN ⟨O,O,Z⟩)<|pk<|Qu (us:=[.int .i64 0,.int .i64 0]) O λb10 w1 kg mx my=>⟨(Step.drew [] w).trans kg,?_⟩
 refine pkl (hl:=by kernel_rfl)<|Qo (us:=[.int .i64 (fst a),.int .i64 (fst b)]) my O O O O ⟨O,O,Z⟩ λw2 mz hU=>pe ?_;have m0:w.heap.size≤b10:=mx;have kh:Step [] w w2:=((Step.drew [] w).trans kg).then1 mz m0;have hz02:=kh.size;have hl10:=hU.lt
 refine Qc<|x (Qn hU O O)<|x (Zx [(0,[.int .i64 (fst a),.int .i64 (fst b)]),(1,[.int .i64 (-1)]),(2,[.int .i64 0])] ⟨O,O,O,O,O,O,Z⟩)<|xl O<|QF (us:=[Ye ⟨fst a,fst b,-1,0⟩]) O O (by decide) (by simp) ⟨rfl,rfl,Z⟩ λhC I hV hb29 ki =>
  Qe ?_
 have m1:=kh.trans hV;have hz3:=hV.size;have hl29:=ki.lt;have m2:=hU.ext hV;have m3:VsO w.heap.size I (.slice (some ⟨hC,0,none⟩) 1 1) [⟨fst a,fst b,-1,0⟩]:=ki.own (n:=1) (sz:=4) O (by omega) (by omega);refine QX (α:=Nat) [(30,33),(12,12)] (λz=>[(12,.map (some z))]) (λz w'=>Step [] I w'∧I.heap.size≤z∧jf w'.heap z [⟨fst a,fst b,-1,0⟩]) (by rfl) ?_ ?_
 ·have hW:Step [] I { I with drawn:=I.drawn+1 }:=Step.drew _ _
  have kj:∀(k:Int×Int),k∈[⟨fst a,fst b,-1,0⟩].map Vs.ky↔k=(fst a,fst b):=λk=>by simp[Vs.ky]
  refine QkD (Step [] I) [(1,true),(3,true)] 0 (.fk [] 2 4 (.pl [(4,false),(5,true),(6,true)]) (.pl [(2,false),(5,true),(6,true)])) mixed (by rfl) (by kernel_rfl) (Step.drew _ _) ?_;refine pq (λ_ hc=>Qn (m2.ext hc) O O)<|p (λ_=>QN ⟨O,O,Z⟩)<|pe ⟨O,Z0 ZV λm w4 he hm hM=>⟨hW.trans he,tf<|pe ⟨⟨O,?_⟩,O,?_⟩⟩⟩
  ·have J:I.heap.size≤m:=hm;refine Yi (k:=(fst a,fst b)) hM O O λw5 T hX=>?_;have hg:=(hW.trans he).then1 T J;obtain⟨K1,hY,hZ⟩:=Ki (K:=[]) hX;refine⟨hg,?_⟩;refine tp<|pk<|Yi (k:=(-1,-1)) hY O O λw6 E ga=>⟨hg.then1 E J,?_⟩;refine p (λ_=>Qm)<|p (λ_=>Qf)<|pe ?_;obtain⟨K2,gb,gc⟩:=Ki ga;exact⟨m,La,hg.then1 E J,J,⟨K2,gb,λk=>by rw[gc,hZ,kj];simp⟩⟩
  have J:I.heap.size≤m:=hm;refine Yi (k:=(-1,-1)) hM O O λw5 T hX=>?_;have hg:=(hW.trans he).then1 T J;obtain⟨K1,hY,hZ⟩:=Ki (K:=[]) hX;refine⟨hg,?_⟩;refine tp<|pk<|Yi (k:=(fst a,fst b)) hY O O λw6 E ga=>⟨hg.then1 E J,?_⟩;refine p (λ_=>Qm)<|p (λ_=>Qf)<|pe ?_;obtain⟨K2,gb,gc⟩:=Ki ga
  exact⟨m,La,hg.then1 E J,J,⟨K2,gb,λk=>by rw[gc,hZ,kj];simp[or_comm]⟩⟩
 rintro m g0 w4 ⟨he,hm4,m4⟩;have m5:=m1.trans he;have hz4:=he.size;have m6:w.heap.size≤m:=by omega
 have m7:m∉ob (.slice (some ⟨hC,0,none⟩) 1 1):=by
  intro h;have h':m∈[hC]:=h;simp only[List.mem_singleton]at h';omega
 refine Qg<|Qc<|Qe<|Qh<|QA (α:=Nat×Value×List Vs×Nat) [(8,9),(11,11),(13,14),(16,17),(34,108)] (λz=>[(8,Q0),(11,z.2.1),(13,.int .i64 z.1)]) (λz w'=>z.1≤z.2.2.1.length∧Step [] w w'∧VsO w.heap.size w' z.2.1 z.2.2.1∧jf w'.heap m z.2.2.1∧m∉ob z.2.1∧VsI a b z.2.2.1∧z.2.2.2+z.1=N+1∧lgL a b kd al z.2.2.2 z.1 z.2.2.1=R) (λz=>z.2.2.2) (by rfl) (0,.slice (some ⟨hC,0,none⟩) 1 1,[⟨fst a,fst b,-1,0⟩],N+1) ⟨O,O,O,Z⟩
  ⟨Ll _,m5,Qs m3 he,m4,m7,VsI.one hq hr,O,hR⟩ ?_
 rintro⟨i,vV,V,f⟩ g1 w5 ⟨hi,T,hD,kk,kn,hE,hf,H⟩;simp only[]at hi hD kk kn hE hf H;have hVlen:V.length≤N:=by rw[←hN];exact VsI.len hq hr hE
 have hge5:=Qp hD;have hz5:=T.size;have ge:Zv [] w5.heap vV V.length 4 (V.flatMap Ye):=QW hD (by omega) (by simp);refine Qg<|Qc<|Qb<|Qb<|x (Qr ge O)<|x (Qz O O)<|xe<|QC rfl (λgg=>?_) (λgg=>?_)
 ·refine Qy ?_;have m8:¬i<V.length:=by have gh:¬(i:Int)<(V.length:Int):=gg;omega
  have m9:R=none:=by
   rw[←H];cases f with
   | zero=>rfl
   | succ f=>rw[lgL,if_neg m8]
  rw[m9];refine Qc<|x Qf<|Qe ?_;exact Qk ⟨[Q0,.bool false],⟨O,O,Z⟩,T,O⟩
 have h5:i<V.length:=by have gh:(i:Int)<(V.length:Int):=gg;omega
 refine Exists.elim (show ∃f',f=f'+1 from⟨f - 1,by omega⟩) λf' pa=>?_;rw[pa]at H;rw[lgL,if_pos h5]at H;have pc:=Qcw h5;refine Qi<|Qg<|Qh<|Qg<|Qc<|Qb<|Qb<|Qb<|xig (g:=Ye) (i:=i) qp ge O O h5 λa43 gi=>?_;rw[←pc]at gi;refine Zb (gV V i) λpi ko=>?_;rw[ko]at gi H;refine x (Zg O)<|x (QI (us:=[.int .i64 pi.x,.int .i64 pi.y]) (At.sub (gi.from 0) 2) O O) <|
  xl rfl<|xc (first:=[]) (capt:=cap) O<|(hk pi.x pi.y w5 T).mono ?_
 rintro r6 w6 ⟨rfl,E⟩;refine xe ?_;have hF:=T.trans E;have hz6:=E.size;have pd:=Qs hD E;have kp:=ge.ext E;refine QY rfl (λgj=>?_) (λgj=>?_)
 ·have hc:lgC a b kd pi=true:=gj;rw[if_pos hc]at H;rw[←H];refine Qg<|Qc<|Qb<|Qe<|Qh<|QA (α:=Nat×Nat×Value×LI) [(8,8),(14,14),(48,66)] (λz=>[(8,z.2.2.1),(14,.int .i64 z.2.1)]) (λz w'=>z.2.1<V.length∧Step [] w6 w'∧Qt 3 w6.heap.size w' z.2.2.1 z.2.2.2∧z.2.2.2++lgW V z.1 z.2.1=lgW V (i+1) i∧z.2.1+1≤z.1∧z.2.2.2.length+z.1=i+1) (λz=>z.1) (by rfl) (i+1,i,Q0,[]) ⟨O,O,Z⟩
   ⟨h5,Step.refl _ _,QP _ _ _ _,O,Lt _,by simp⟩ ?_
  rintro⟨fu,k,vo,wd⟩ g2 w7 ⟨ht,hG,hH,Y,pf,pg⟩;simp only[]at ht hH Y pf pg;have kq:=kp.ext hG;have gk:=Qcw ht;have kr:=hE.bk k ht;have kt:=Qp hH;have hz7:=hG.size;refine Exists.elim (show ∃gl,fu=gl+1 from⟨fu - 1,by omega⟩) λgl ph=>?_;rw[ph]at Y;rw[Qa2]at Y;refine Qg<|Qc<|Qb<|Qb<|xig (g:=Ye) (i:=k) qp kq O O ht λa50 gm=>?_;rw[←gk]at gm kr
  refine Zb (gV V k) λG gn=>?_;rw[gn]at gm kr Y;refine x (Zg O)<|x (Qv (gm.fld 2 (.int .i64 G.b) O) O)<|x (ZN O O)<|xe<|QC O (λgo=>?_) (λgo=>?_)
  ·refine Qy ?_;have gq:¬0≤G.b:=go;rw[if_neg gq,LK]at Y;refine Qc<|Qb<|xl O<|xf<|(zM hH (by omega)).mono ?_;rintro r8 w8 ⟨ku,gr⟩;refine xe<|Qc<|Qb<|x Qf<|Qe ?_;rw[Y]at ku;have pj:=hF.size;exact Qk ⟨[vo,.bool true],⟨O,O,Z⟩,(hF.trans hG).then gr (λb hb=>.inr (by have:=(kt b hb).1;omega)),vo,O,Zc ku pj⟩
  have gq:0≤G.b:=go;rw[if_pos gq]at Y;have pn:G.b=(G.b.toNat:Int):=by omega
  refine Qi<|Qg<|Qh<|Qx<|Qb<|Qb<|Qb<|xig (g:=Ye) (i:=k) qp kq O O ht λa62 kv=>?_;rw[←gk,gn]at kv;refine x (Zg O)<|x (Qv (kv.fld 3 (.int .i64 G.v) O) O) <|
   xl rfl<|QF (us:=[[.int .i64 G.v]]) O O (by decide) (by simp) ⟨rfl,rfl,Z⟩ λb65 w9 gs hb65 po=>?_
  have hz9:=gs.size;refine xl O<|Q5 (news:=[.int .i64 G.v]) (L:=[]) (Qs hH gs) O O O (po.at (by simp)) (by simp[Value.oneCell']) (by omega) (by omega) λpp pt pu pw hn10 =>
   Qe ?_
  have kw:Step [] w6 pt:=(hG.trans gs).then pw (λb hb=>.inr (kt b hb).1);have pz:=kp.ext kw;refine Qx<|Qb<|Qb<|xig (g:=Ye) (i:=k) qp pz O O ht λa56 kx=>?_;rw[←gk,gn]at kx;refine x (Zg O)<|x (Qv (kx.fld 2 (.int .i64 G.b) O) O)<|x Qf <|
   xe ?_
  refine⟨(gl,G.b.toNat,pp,wd++[G.v]),by simp only[];omega,⟨O,congrArg (Value.int .i64) pn,Z⟩,by simp only[];omega,kw,Qt.snoc pu,?_,by simp only[];omega,by simp only[List.length_append,List.length_singleton];omega⟩;simp only[];rw[LB];exact Y
 have hc:¬lgC a b kd pi=true:=by
  intro h;have p0:lgC a b kd pi=false:=gj;rw[p0]at h;cases h
 rw[if_neg hc]at H;refine Qi<|Qc<|Qb<|x (Qr (hT.ext hF) O)<|Qb<|xe<|Qh<|QA (α:=Nat×Value×List Vs) [(11,11),(16,17),(72,108)] (λz=>[(11,z.2.1),(72,.int .i64 z.1)]) (λz w'=>z.1≤al.length∧Step [] w w'∧VsO w.heap.size w' z.2.1 z.2.2∧jf w'.heap m z.2.2∧m∉ob z.2.1∧VsI a b z.2.2∧z.2.2=(al.take z.1).foldl (lgA a b i pi) V∧∃W,z.2.2=V++W) (λz=>al.length - z.1) (by rfl) (0,vV,V) ⟨O,O,Z⟩
  ⟨Ll _,hF,pd,kk.ext E,kn,hE,O,[],by simp⟩ ?_
 rintro⟨j,vU,U⟩ g3 ha ⟨hj,hh,ho,h6,hI,h7,hJ,⟨W,h8⟩⟩;simp only[]at hj ho h6 hI h7 hJ h8;have hUlen:U.length≤N:=by rw[←hN];exact VsI.len hq hr h7
 have hUl:V.length≤U.length:=by rw[h8,Lj];omega
 have hp:i<U.length:=by omega
 have kz:=Qp ho;have hz11:=hh.size;refine Qc<|x (Qz O O)<|xe<|Qg<|QC O (λgt=>?_) (λgt=>?_)
 ·refine Qy ?_;have p4:al.length≤j:=by have gh:¬(j:Int)<(al.length:Int):=gt;omega
  rw[Ln p4]at hJ;rw[←hJ]at H;refine Qx<|Qb<|QM O O<|Qe ?_;exact⟨(i+1,vU,U,f'),by simp only[];omega,⟨O,O,O,Z⟩,hp,hh,ho,h6,hI,h7,by simp only[];omega,H⟩
 have hw:j<al.length:=by have gh:(j:Int)<(al.length:Int):=gt;omega
 have k0:al.take (j+1)=al.take j++[al[j]'hw]:=Le hw;have p5:gV U i=pi:=by rw[h8,QlT h5];exact ko
 refine Qi<|Qg<|Qh<|Qc<|xii (i:=j) (hT.ext hh) O O hw λa74 k4=>?_;refine Zb (al[j]'hw) λv hv=>?_;rw[hv]at k4 k0;have hO:(al.take (j+1)).foldl (lgA a b i pi) V=lgA a b i pi U v:=by rw[k0,Mn,←hJ];rfl
 refine x (Qv k4 O)<|Qe<|Exists.elim (Un ho (by omega)) λg9 p6=>Exists.elim p6 λcap9 gu=>?_;have p7:Zv [] ha.heap vU U.length 4 (U.flatMap Ye):=QW ho (by omega) (by simp);have k5:At [] ha.heap ⟨g9,0+i*4,none⟩ (Ye pi):=by
  obtain⟨a9,c9,e1,e2⟩:=Zv.at p7 hp;rw[Jl Ye 4 qp U i hp,←Qcw hp,p5]at e2;rw[gu]at e1;have e3:(⟨g9,0,none⟩:Addr)=a9:=by
   have:=Value.slice.inj e1;exact Option.some.inj this.1
  rw[←e3,Yu]at e2;exact e2
 have p8:At [] ha.heap ⟨g9,0+i*4+0+0*1,none⟩ [.int .i64 pi.x]:=by
  have:=k5.fld 0 (.int .i64 pi.x) O;rw[Yu]at this;exact this
 have p9:At [] ha.heap ⟨g9,0+i*4+0+1*1,none⟩ [.int .i64 pi.y]:=by
  have:=k5.fld 1 (.int .i64 pi.y) O;rw[Yu]at this;exact this
 have qc:=ke.ext hh;have qf:=kf.ext hh;refine QX (α:=Nat) [(76,94),(17,17)] (λz=>[(17,.pointer (some ⟨z,0,none⟩))]) (λz w'=>Step [] ha w'∧ha.heap.size≤z∧QT w'.heap z 184 [.int .i64 (nxt a.ed pi.x v),.int .i64 (nxt b.ed pi.y v)]) (by rfl) ?_ ?_
 ·refine jd (α:=Unit) (Step [] ha) [(0,true),(1,true),(2,true),(3,true),(4,true),(5,true),(6,true),(7,true),(9,true),(10,true),(11,true),(12,true),(13,true),(14,true),(15,true),(16,true)] [(8,false),(17,false),(18,true)] 19 17 [(20,false)] []
   [(76,94)] [(84,84),(93,94)] (λ_=>[(94,.agg [.int .i64 (nxt a.ed pi.x v),.int .i64 (nxt b.ed pi.y v)].toArray)]) (λ_ _ _=>True)
   (λv w'=>∃b,v=.pointer (some ⟨b,0,none⟩)∧ha.heap.size≤b∧QT w'.heap b 184 [.int .i64 0,.int .i64 0]) mixed (by rfl) (by kernel_rfl) (by rfl) O (Step.drew _ _) (by simp) ?_ ?_ ?_ ?_
  ·rintro v own wa wb ⟨b,rfl,hb,hB⟩ hs hn;exact⟨b,O,hb,hB.step hs (hn b (by simp[ow]))⟩
  ·intro z own wa wb h hs;trivial
  ·rintro z g5 own wz v5 _ ql ⟨hP,rfl,gv,hy⟩ _;refine pkl (hl:=by kernel_rfl)<|Qo (us:=[.int .i64 (nxt a.ed pi.x v),.int .i64 (nxt b.ed pi.y v)]) hy O O O O ⟨O,O,Z⟩ λw8 gr qo=>pe ?_;exact⟨hP,La,ql.then1 gr gv,gv,qo⟩
  refine p (λ_=>Qm)<|p (λ_=>Qm)<|p (λ_=>Qm)<|p (λ_=>QS (show ev _ _=_ from gu) O hp)<|p (λ_=>Qa O) <|
   p (λ_=>Zw (i:=0) O O (by decide))<|pq (λ_ hc=>Qv (p8.st hc) O)<|p (λ_=>Qm)<|p (λ_=>Qm)<|p (λ_=>Qm)<|p (λ_=>Qm) <|
   p (λ_=>QS (show ev _ _=_ from gu) O hp)<|p (λ_=>Qa O)<|p (λ_=>Zw (i:=1) O O (by decide))<|pq (λ_ hc=>Qv (p9.st hc) O) <|
   p (λ_=>Qm)<|pe ⟨λg6 wf k6=>Qu (us:=[.int .i64 0,.int .i64 0]) O λb wf' k7 k8 k9=>⟨k7,k6.trans k7,⟨b,O,LJ k6.size k8,k9⟩,λx hx=>?_⟩,?_⟩
  ·have qr:x=b:=by
    have q0:x∈[b]:=hx;simpa using q0
   subst qr;exact⟨k8,k9.lt⟩
  refine f2k λx1 p1 c1=>xf<|(yD (qc.ext c1) hq pi.x v).mono ?_;rintro r84 y1 ⟨rfl,ma⟩;refine⟨c1.trans ma,[],ma,(λb hb=>by cases hb),?_⟩;refine f2k λx2 p2 c2=>xf<|(yD (qf.ext c2) hr pi.y v).mono ?_;rintro r93 y2 ⟨rfl,mc⟩;refine⟨c2.trans mc,[],mc,(λb hb=>by cases hb),?_⟩;refine f2p (λ_=>QN ⟨O,O,Z⟩)<|f2e ?_;exact⟨(),La,Z⟩
 rintro hP g7 hA ⟨hz,gv,hy⟩;have q4:=hh.trans hz;have hz12:=hz.size;have hl17:=hy.lt;refine Exists.elim (h6.ext hz).h λK q5=>And.elim (λgx gy=>?_) q5;have hQ:(yF a b i pi v).ky=(nxt a.ed pi.x v,nxt b.ed pi.y v):=rfl;refine Qc<|Qb<|x (Qn hy O O)<|x (yu (s:=(nxt a.ed pi.x v,nxt b.ed pi.y v)) gx O O)<|x (Zq O)<|xe<|QY rfl (λgz=>?_) (λgz=>?_)
 ·have q9:(nxt a.ed pi.x v,nxt b.ed pi.y v)∉K:=Qjp gz;have h0:=λh=>q9 ((gy _).2 h);rw[←hQ]at h0;have g4:lgA a b i pi U v=U++[yF a b i pi v]:=by
   rcases yG a b i pi U v with⟨_,_,h⟩|⟨h,_⟩
   ·exact h
   exact absurd h h0
  rw[g4]at hO;have mf:m∉ob vU:=hI;have mg:hP∉m::ob vU:=λhb=>by
   rcases Lc.1 hb with rfl|hb
   ·obtain⟨K0,j1,_⟩:=h6.h;have:=j1.lt;omega
   have:=(kz hP hb).2;omega
  have j2:m<hA.heap.size:=gx.lt;have h3:Step [] hA { hA with drawn:=hA.drawn+1 }:=Step.drew _ _
  refine QV (Step (m::ob vU) hA) [(0,true),(1,true),(2,true),(3,true),(4,true),(5,true),(6,true),(7,false),(8,false),(9,false),(10,true)] mixed (by rfl) (by kernel_rfl) (Step.drew _ _) ?_;refine p (λ_=>Qm)<|pq (λ_ hc=>Qn (hy.step hc mg) O O)<|p (λ_=>Qm)<|pq (λ_ hc=>Qn (hy.step hc mg) O O) <|
   p (λ_=>Qm)<|p (λ_=>Qm)<|p (λ_=>Zx [(0,[.int .i64 (nxt a.ed pi.x v),.int .i64 (nxt b.ed pi.y v)]),(1,[.int .i64 i]),(2,[.int .i64 v])] ⟨O,O,O,O,O,O,Z⟩)<|pk<|QF (us:=[Ye (yF a b i pi v)]) O O (by decide) (by simp) ⟨rfl,rfl,Z⟩ λb106 w13 h4 hb106 j3=>⟨(h3.trans h4).any,?_⟩
  have g8:=hz.trans (h3.trans h4);have hz13:=(h3.trans h4).size;refine pk<|Q5 (news:=Ye (yF a b i pi v)) (L:=[]) (Qs ho g8) O O O (j3.at (by simp)) (λu hu=>by
   simp only[List.mem_cons,List.not_mem_nil,or_false]at hu;rcases hu with rfl|rfl|rfl|rfl <;> rfl) (by omega) (by have:=g8.size;omega) λmh mj j4 hS za=>⟨(h3.trans h4).any.trans' (hS.mono (λb hb=>Lk _ hb)),?_⟩
  have zb:ZI ZV mj.heap m (stP K):=(gx.step (h3.trans h4) (by simp)).step hS mf;refine pk<|YI (k:=(nxt a.ed pi.x v,nxt b.ed pi.y v)) zb O O λw15 ka zv=>⟨((h3.trans h4).any.trans' (hS.mono (λb hb=>Lk _ hb))).trans' (ka.mono (by simp)),?_⟩;refine p (λ_=>Qf)<|pe ?_;refine Exists.elim (Ki zv) λK' z0=>And.elim (λz2 z3=>?_) z0
  have mo:m∉ob mh:=λhb=>by
   rcases za m hb with h9|h9
   ·exact mf h9
   have:=j2;omega
  refine Qx<|QM O O<|Qb<|xe ?_;have z4:Step [] w mj:=(hh.trans g8).then hS (λb hb=>.inr (kz b hb).1)
  refine⟨(j+1,mh,U++[yF a b i pi v]),by simp only[];omega,⟨O,O,Z⟩,hw,z4.then1 ka m6,Ql (VsO.snoc j4) ka (λb hb mq=>by simp only[List.mem_singleton]at mq;subst mq;exact mo hb),⟨K',z2,λk=>?_⟩,mo,VsI.add hq hr h7 hp (λh=>h0 (.inr h)),hO.symm,W++[yF a b i pi v],by rw[h8,LB]⟩;rw[z3,gy,Lv,Lq];constructor
  ·rintro(h|h|h)
   ·exact .inr (.inr (by rw[h];simp[hQ]))
   ·exact .inl h
   exact .inr (.inl h)
  rintro(h|h|h)
  ·exact .inr (.inl h)
  ·exact .inr (.inr h)
  exact .inl (by simpa[hQ]using h)
 have hK:(nxt a.ed pi.x v,nxt b.ed pi.y v)∈K:=QgD gz;have h0:=(gy _).1 hK;rw[←hQ]at h0;have g4:lgA a b i pi U v=U:=by
  rcases yG a b i pi U v with⟨h1,h2,_⟩|⟨_,h⟩
  ·exact absurd h0 (λh=>h.elim h1 h2)
  exact h
 rw[g4]at hO;refine Qi<|Qx<|QM O O<|Qb<|xe ?_;exact⟨(j+1,vU,U),by simp only[];omega,⟨O,O,Z⟩,hw,q4,Qs ho hz,h6.ext hz,hI,h7,hO.symm,W,h8⟩
def lgP (N:Nat)(a b:QO)(i:Nat)(v:Value)(w:World):Prop :=
 if i=1 then ∃b1 m1 m2,v=.pointer (some ⟨b1,0,none⟩)∧N≤b1∧N≤m1∧N≤m2∧Mch w.heap b1 m1 m2 a
 else if i=3 then ∃b1 m1 m2,v=.pointer (some ⟨b1,0,none⟩)∧N≤b1∧N≤m1∧N≤m2∧Mch w.heap b1 m1 m2 b
 else ∃bb,v=.pointer (some ⟨bb,0,none⟩)∧N≤bb∧QT w.heap bb 180 [.pointer none]
theorem Qjy {N:Nat}{a b:QO}:∀i v w w',lgP N a b i v w→Step [] w w'→lgP N a b i v w':=by
 intro i v w w' h hs;unfold lgP at h ⊢;split
 ·rename_i h1;rw[if_pos h1]at h;obtain⟨E,G,H,e,n1,I,J,T⟩:=h;exact⟨E,G,H,e,n1,I,J,T.ext hs⟩
 rename_i h1;rw[if_neg h1]at h;split
 ·rename_i h2;rw[if_pos h2]at h;obtain⟨E,G,H,e,n1,I,J,T⟩:=h;exact⟨E,G,H,e,n1,I,J,T.ext hs⟩
 rename_i h2;rw[if_neg h2]at h;obtain⟨bb,e,n1,U⟩:=h;exact⟨bb,e,n1,U.ext hs⟩
theorem Yt {κ:Type}{enc:κ→Value}{H:Array Obj}{b G T:Nat}{m:List (κ×Value)}{cs:LV}(h:ZI enc H b m)(E:QT H G T cs):b≠G:=by
 intro e;subst e;obtain⟨es,c,h1,_⟩:=h;unfold QT at E;rw[h1]at E;cases E
structure LgZ where
 p1:Nat
 p2:Nat
 p3:Nat
 q1:Nat
 q2:Nat
 q3:Nat
 b10:Nat
 b11:Nat
set_option maxHeartbeats 8000000 in
theorem Vn {w:World}{va vm ve wa wm we:Value}{a b:QO}(hA:Zp [] w.heap va vm ve a)(G:Zp [] w.heap wa wm we b)(kd:Int):
  QE prog 41 [.agg #[va,.int .i64 a.st,vm,ve],.agg #[wa,.int .i64 b.st,wm,we],.int .i64 kd] w λr w'=>Step [] w w'∧∃v e,r=.tuple #[v,.bool e,.int .i64 (lgE a b kd)] ∧
   (lgE a b kd=0→match lgq a b kd with|none=>v=Q0∧e=true|some u=>e=false∧Qt 3 w.heap.size w' v u):=by
 refine Zb (lgE a b kd) λE hE=>?_;refine Zb (lgq a b kd) λR hR=>?_;rw[hE,hR];have onesA:ZH [va,.int .i64 a.st,vm,ve]:=⟨hA.al.one,O,hA.mr.one,hA.ed.one,Z⟩;have onesB:ZH [wa,.int .i64 b.st,wm,we]:=⟨G.al.one,O,G.mr.one,G.ed.one,Z⟩;refine QE.of_W func41 O ntmps41 results41 (by simp) ?_
 refine Qc<|xl O<|QQ (us:=[va,.int .i64 a.st,vm,ve]) O λb3 w1 hH gb hI=>xl O<|QQ (us:=[wa,.int .i64 b.st,wm,we]) O λb4 w2 hw gc hJ=>xl O<|QQ (us:=[.int .i64 kd]) O λb5 w3 hr ge hy=>x Qf <|
  x Qf<|Qe ?_
 have hK:=(hH.trans hw).trans hr;have h4:=(hI.ext hw).ext hr;have h5:=hJ.ext hr;refine Qg<|Qc<|x (Qd hy O O)<|x (Qn h4 O O)<|x (Qn h5 O O)<|xl O<|QF (us:=[[va,.int .i64 a.st,vm,ve],[wa,.int .i64 b.st,wm,we]]) O O (by decide) (by simp) ⟨rfl,rfl,rfl,rfl,Z⟩ λhL w4 h6 gg hN=>?_;have hs:=hK.trans h6
 have hO:YX [] w4.heap (.slice (some ⟨hL,0,none⟩) 2 2) [⟨va,vm,ve,a⟩,⟨wa,wm,we,b⟩]:=⟨hN.arr (by simp) (n:=2) (cap:=2) (sz:=4) rfl (by omega) (Lt _),λp hp=>by
  simp only[List.mem_cons,List.not_mem_nil,or_false]at hp;rcases hp with rfl|rfl
  ·exact hA.ext hs
  exact G.ext hs⟩
 have hck:=Qcq hO kd;rw[show[(⟨va,vm,ve,a⟩:AV),⟨wa,wm,we,b⟩].map (·.a)=[a,b] from rfl,Qnr,hE]at hck;refine xl rfl<|xf<|hck.mono ?_;rintro r5 w5 ⟨rfl,hh⟩;refine Qe ?_;have hn:=hs.trans hh;have ht:=h6.trans hh;refine Qc<|Qb<|x (Q7 O O)<|xe<|Q4 rfl (λhu=>?_) (λhu=>?_)
 ·refine Qc<|Qb<|x Qf<|x Qf<|Qe ?_;exact Qk ⟨[Q0,.bool false,.int .i64 E],⟨O,O,O,Z⟩,hn,Q0,false,O,λh0=>absurd h0 hu⟩
 have h7:E=0:=Lm.1 hu;have hi:Q2 a∧Q2 b:=by
  have h1:lgE a b kd=0:=hE.trans h7;unfold lgE at h1;by_cases h2:Xq a≠0
  ·rw[if_pos h2]at h1;exact absurd h1 h2
  rw[if_neg h2]at h1;by_cases h3:Xq b≠0
  ·rw[if_pos h3]at h1;exact absurd h1 h3
  exact⟨(Zu a).1 (Lm.1 h2),(Zu b).1 (Lm.1 h3)⟩
 refine Qi ?_;have h8:=h4.ext ht;have h9:=h5.ext ht;have hP:=hy.ext ht;have hQ:=hA.ext hn;have hT:=G.ext hn
 refine QX (α:=LgZ) [(22,25),(10,11)] (λz=>[(10,.pointer (some ⟨z.b10,0,none⟩)),(11,.pointer (some ⟨z.b11,0,none⟩))]) (λz w'=>Step [] w5 w'∧Mch w'.heap z.p1 z.p2 z.p3 a∧Mch w'.heap z.q1 z.q2 z.q3 b∧QT w'.heap z.b10 180 [.pointer (some ⟨z.p1,0,none⟩)]∧QT w'.heap z.b11 180 [.pointer (some ⟨z.q1,0,none⟩)]) (by rfl) ?_ ?_
 ·refine Qet (α:=LgZ) (Step [] w5) [(0,true),(2,true)] [1,3,4,5] [(6,false),(7,false)] [(23,23),(25,25),(10,11)] (lgP w5.heap.size a b)
   (λz=>[(23,.pointer (some ⟨z.p1,0,none⟩)),(25,.pointer (some ⟨z.q1,0,none⟩)),(10,.pointer (some ⟨z.b10,0,none⟩)),(11,.pointer (some ⟨z.b11,0,none⟩))])
   (λz w'=>Mch w'.heap z.p1 z.p2 z.p3 a∧Mch w'.heap z.q1 z.q2 z.q3 b∧QT w'.heap z.b10 180 [.pointer none]∧QT w'.heap z.b11 180 [.pointer none]∧(z.b10≠z.b11∧z.p1≠z.b10∧z.p1≠z.b11∧z.q1≠z.b10∧z.q1≠z.b11)∧w5.heap.size≤z.b10∧w5.heap.size≤z.b11)
   mixed (by rfl) (by kernel_rfl) (Step.drew _ _) (λ_ _ h1 h2=>h1.trans h2) Qjy ?_ ?_
  ·rintro g w' ⟨⟨p1,p2,p3,e1,_,_,_,H⟩,⟨q1,q2,q3,e2,_,_,_,I⟩,⟨b10,e3,hj,J⟩,⟨b11,e4,ho,T⟩,_⟩ hk;refine⟨⟨p1,p2,p3,q1,q2,q3,b10,b11⟩,⟨e1,e2,e3,e4,Z⟩,H,I,J,T,?_,hj,ho⟩;have d1:=hk 4 (by simp) 5 (by simp) (by decide);have d2:=hk 1 (by simp) 4 (by simp) (by decide);have d3:=hk 1 (by simp) 5 (by simp) (by decide);have d4:=hk 3 (by simp) 4 (by simp) (by decide)
   have d5:=hk 3 (by simp) 5 (by simp) (by decide);rw[e3,e4]at d1;rw[e1,e3]at d2;rw[e1,e4]at d3;rw[e2,e3]at d4;rw[e2,e4]at d5;simp only[ow,List.mem_singleton,forall_eq]at d1 d2 d3 d4 d5;exact⟨d1,d2,d3,d4,d5⟩
  refine pq (λ_ hc=>Qn (h8.ext hc) O O)<|pq (λ_ hc=>Qn (h9.ext hc) O O)<|pe ⟨⟨?_,?_,?_,?_,Z⟩,?_⟩
  ·intro g w' hc;refine xf<|(yE (hQ.ext hc) hi.1).mono ?_;rintro r5 w6 ⟨ha,b1,m1,m2,rfl,n1,n2,n3,hM⟩;have hz:=hc.size;exact⟨ha,⟨b1,m1,m2,O,LJ hz n1,LJ hz n2,LJ hz n3,hM⟩,λc he=>by rw[Lb.1 (show c∈[b1] from he)];exact⟨n1,hM.B.lt⟩⟩
  ·intro g w' hc;refine xf<|(yE (hT.ext hc) hi.2).mono ?_;rintro r5 w6 ⟨ha,b1,m1,m2,rfl,n1,n2,n3,hM⟩;have hz:=hc.size;exact⟨ha,⟨b1,m1,m2,O,LJ hz n1,LJ hz n2,LJ hz n3,hM⟩,λc he=>by rw[Lb.1 (show c∈[b1] from he)];exact⟨n1,hM.B.lt⟩⟩
  ·intro g w' hc;exact Qu (us:=[.pointer none]) O λb w5 hh hb G=>⟨hh,⟨b,O,LJ hc.size hb,G⟩,λc he=>by rw[Lb.1 (show c∈[b] from he)];exact⟨hb,G.lt⟩⟩
  ·intro g w' hc;exact Qu (us:=[.pointer none]) O λb w5 hh hb G=>⟨hh,⟨b,O,LJ hc.size hb,G⟩,λc he=>by rw[Lb.1 (show c∈[b] from he)];exact⟨hb,G.lt⟩⟩
  rintro⟨p1,p2,p3,q1,q2,q3,b10,b11⟩ g w6 hC ⟨H,I,J,T,hf,hj,ho⟩;simp only[]at H I J T hf hj ho;have k1:=Yt H.e J;have k2:=Yt H.m J;have k3:=Yt I.e J;have k4:=Yt I.m J;have j1:=Yt H.e T;have j2:=Yt H.m T;have j3:=Yt I.e T;have j4:=Yt I.m T
  refine pk<|QB (u:=.pointer (some ⟨p1,0,none⟩)) J O O (by simp) rfl λw7 hg hU=>⟨hC.then1 hg hj,?_⟩;refine pkl (hl:=by kernel_rfl)<|QB (u:=.pointer (some ⟨q1,0,none⟩)) (T.step hg (by simp only[List.mem_singleton];exact λe=>hf.1 e.symm)) O O (by simp) rfl λw8 U hV=>pe ?_;have s1:∀{x:Nat},x≠b10→x∉[b10]:=λh hm=>h (Lb.1 hm)
  have s2:∀{x:Nat},x≠b11→x∉[b11]:=λh hm=>h (Lb.1 hm);exact⟨⟨p1,p2,p3,q1,q2,q3,b10,b11⟩,⟨O,O,Z⟩,(hC.then1 hg hj).then1 U ho,(H.step hg (s1 hf.2.1) (s1 k1) (s1 k2)).step U (s2 hf.2.2.1) (s2 j1) (s2 j2),(I.step hg (s1 hf.2.2.2.1) (s1 k3) (s1 k4)).step U (s2 hf.2.2.2.2) (s2 j3) (s2 j4),hU.step U (s2 hf.1),hV⟩
 rintro⟨p1,p2,p3,q1,q2,q3,b10,b11⟩ g w6 ⟨ha,H,I,J,T⟩;simp only[]at H I J T;have hq:=hn.trans ha;have gh:=hq.size;have hW:=h8.ext ha;have hX:=h9.ext ha;have hY:=hP.ext ha;have hv:Step [] w6 { w6 with drawn:=w6.drawn+1 }:=Step.drew _ _
 have gi:=hA.al.le;have gj:=G.al.le;have gk:=hi.1.al_le;have gl:=hi.2.al_le;refine Qg<|QV (Step [] w6) [(0,true),(1,true),(2,true),(3,true),(5,true),(6,true),(7,true),(4,false),(8,false),(9,true),(10,true),(11,true),(12,true),(13,true)] mixed (by rfl) (by kernel_rfl) (Step.drew _ _) ?_
 refine p (λ_=>Qa O)<|pq (λ_ hc=>Qd (hW.ext hc) O O)<|p (λ_=>Qa O)<|pq (λ_ hc=>Qd (hX.ext hc) O O) <|
  pq (λ_ hc=>Qd (J.ext hc) O O)<|pq (λ_ hc=>Qd (T.ext hc) O O)<|p (λ_=>Zn (l:=[]) (l':=[_,_,_])) <|
  pk<|xf<|(zK ((hA.al.ext hq).ext hv) ((G.al.ext hq).ext hv) (by omega)).mono ?_
 rintro r7 w7 ⟨hg,hZ⟩;have V:=hv.trans hg;have gm:=V.size;refine⟨V,?_⟩;have gn:(mrg (· || ·) a.al b.al).length≤64:=by
  have:=VS (· || ·) a.al b.al;omega
 have hS:=QeB (kd:=kd) (g:=88) (cap:=[.pointer (some ⟨b10,0,none⟩),.pointer (some ⟨b5,0,none⟩),.pointer (some ⟨b11,0,none⟩)]) (Qt.ints (L:=[]) hZ (by omega) (by simp)) (H.ext V) (I.ext V) hi.1 hi.2
  (λs t w8 U=>QgP ((J.ext V).ext U) ((T.ext V).ext U) ((hY.ext V).ext U) ((H.ext V).ext U) ((I.ext V).ext U) s t)
 have ga:lgL a b kd (mrg (· || ·) a.al b.al) ((a.st.toNat+1)*(b.st.toNat+1)+1) 0 [⟨fst a,fst b,-1,0⟩]=R:=hR;rw[ga]at hS;refine pk<|xf<|hS.mono ?_;rintro r8 w8 ⟨U,hD⟩;have hF:=V.trans U;refine⟨hF,?_⟩;have Y:∃v e,r8=.tuple #[v,.bool e]∧(match R with|none=>v=Q0∧(!e)=true|some u=>(!e)=false∧Qt 3 w7.heap.size w8 v u):=by
  cases R with
  | none=>exact⟨Q0,false,hD,O,O⟩
  | some u=>obtain⟨v,h1,h2⟩:=hD;exact⟨v,true,h1,O,h2⟩
 refine Exists.elim Y λv Y=>Exists.elim Y λe Y=>And.elim (λhG Y=>?_) Y;refine p (λ_=>Qm)<|p (λ_=>Qj (show ev _ _=_ from hG) O)<|p (λ_=>Qj (show ev _ _=_ from hG) O)<|p (λ_=>Qf)<|p (λ_=>Qf)<|pe ?_;refine Qc<|Qb<|Qb<|x (Zq O)<|x Qf<|x Qf<|Qe<|Qk ⟨[v,.bool (!e),.int .i64 0],⟨O,O,O,Z⟩,hq.trans hF,v,!e,by rw[h7];rfl,λ_=>?_⟩;cases R with
 | none=>exact Y
 | some u=>exact⟨Y.1,Zc Y.2 (by omega)⟩
theorem QdH (V:List Vs):∀(f k:Nat),(lgW V f k).length≤f
 | 0,_=>Lt _
 | f+1,k=>by
  rw[Qa2];split
  ·have:=QdH V f (gV V k).b.toNat;simp only[List.length_cons];omega
  exact Ll _
theorem QdI {a b:QO}{kd:Int}{al:LI}:∀(f i:Nat) (V:List Vs) (u:LI),lgL a b kd al f i V=some u→u.length≤f+i
 | 0,_,_,_,h=>by cases h
 | f+1,i,V,u,h=>by
  rw[lgL]at h;split at h
  ·split at h
   ·have e:(lgW V (i+1) i).reverse=u:=Option.some.inj h;rw[←e,List.length_reverse];have:=QdH V (i+1) i;omega
   have:=QdI f (i+1) _ u h;omega
  cases h
theorem QdG {a b:QO}(ha:Q2 a)(hb:Q2 b){kd:Int}{u:LI}(h:lgq a b kd=some u):u.length≤17000000:=by
 have h1:=QdI _ _ _ _ h;have E:=ha.st1;have G:=hb.st1;have H:(a.st.toNat+1)*(b.st.toNat+1)≤4097*4097:=Nat.mul_le_mul (by omega) (by omega);omega
def cmK (a b:QO)(k:Nat):Option (LI):=(([1,2]:LI).take k).foldl (λz kd=>cm1 z (lgq a b kd)) none
theorem k12:∀{k:Nat}(h:k<[(1:Int),2].length),[(1:Int),2][k]'h=1∨[(1:Int),2][k]'h=2
 | 0,_=>.inl O
 | 1,_=>.inr O
 | k+2,h=>absurd h (by simp)
theorem Qoi (a b:QO):cmK a b 2=cmW a b:=rfl
theorem Kq {a b:QO}(ha:Q2 a)(hb:Q2 b){kd:Int}(h:kd=1∨kd=2):lgE a b kd=0:=by
 unfold lgE;rw[if_neg (by simpa using(Zu a).2 ha),if_neg (by simpa using(Zu b).2 hb),if_neg (by omega)]
def JT (a b:Int):Int:=if a<b then -1 else if b<a then 1 else 0
def scm:LI→LI→Int
 | [],[]=>0
 | [],_::_=>-1
 | _::_,[]=>1
 | a::v,b::w=>if JT a b≠0 then JT a b else scm v w
def orL:LI→Int
 | []=>0
 | a::l=>if a≠0 then a else orL l
def wcm (v w:LI):Int:=orL [JT v.length w.length,scm v w]
theorem QaG:∀{v w:LI},v.length=w.length→(scm w v<0↔jJ w v=true)
 | [],[],_=>by simp[scm,jJ]
 | a::v,b::w,h=>by
  have h':v.length=w.length:=by simpa using h
  rw[scm,jJ];unfold JT;by_cases h1:b<a
  ·rw[if_pos h1,if_pos (by decide),if_neg (by omega)];simp[h1]
  rw[if_neg h1];by_cases h2:a<b
  ·rw[if_pos h2,if_pos (by decide),if_neg (by omega)];simp[h1]
  rw[if_neg h2,if_neg (by decide),if_pos (by omega)];exact QaG h'
theorem Qn8 (a b:Int):orL [a,b]=if a≠0 then a else b:=by
 by_cases h:a≠0
 ·rw[orL,if_pos h,if_pos h]
 rw[orL,if_neg h,if_neg h,orL];split
 ·rfl
 rename_i h2;have h3:b=0:=Lm.1 h2;rw[h3];rfl
theorem Qfs (v w:LI):decide (wcm w v<0)=less w v:=by
 have h:wcm w v<0↔less w v=true:=by
  unfold wcm;rw[Qn8];unfold less;by_cases h1:w.length<v.length
  ·have e:JT (w.length:Int) (v.length:Int)=-1:=by unfold JT;rw[if_pos (by omega)]
   rw[e,if_pos (by decide),if_pos (by omega)];simp[h1]
  by_cases h2:v.length<w.length
  ·have e:JT (w.length:Int) (v.length:Int)=1:=by unfold JT;rw[if_neg (by omega),if_pos (by omega)]
   rw[e,if_pos (by decide),if_pos (by omega)];simp[h1]
  have e:JT (w.length:Int) (v.length:Int)=0:=by unfold JT;rw[if_neg (by omega),if_neg (by omega)]
  rw[e,if_neg (by decide),if_neg (by omega)];exact QaG (v:=v) (w:=w) (by omega)
 by_cases h1:less w v=true
 ·rw[h1];exact decide_eq_true (h.2 h1)
 rw[Bool.not_eq_true]at h1;rw[h1];exact decide_eq_false λh2=>by have:=h.1 h2;rw[h1]at this;cases this
theorem yI (n:Int)(w:World):QE prog 163 [.int .i64 n] w λr w'=>r=.bool false∧Step [] w w':=by
 refine QE.of_W func163 O ntmps163 results163 (by simp) ?_;refine Qc<|Qe<|Qc<|Qb<|Qb<|x (Q7 O O)<|Qe<|Qk ⟨[_],La,?_,Step.refl _ _⟩;exact congrArg Value.bool (decide_eq_false (by simp))
theorem Qd8 (a b:Int)(w:World):QE prog 123 [.int .i64 a,.int .i64 b] w λr w'=>r=.int .i64 (JT a b)∧Step [] w w':=by
 refine QE.of_W func123 O ntmps123 results123 (by simp) ?_;refine Qc<|Qe<|Qc<|Qb<|xl O<|xf<|(yI a w).mono ?_;rintro U I ⟨rfl,J⟩;refine Qe<|Qc<|Qb<|xl O<|xf<|(yI b I).mono ?_;rintro r2 V ⟨rfl,T⟩;refine Qe ?_;have G:=J.trans T;refine Qg<|Qc<|Qb<|xe<|ZO rfl<|Qi<|Qg<|Qc<|Qb<|xe<|ZO rfl<|Qi<|Qg<|Qc<|Qb<|Qb<|x (Qz O O)<|xe<|Q4 rfl (λE=>?_) (λE=>?_)
 ·refine Qc<|Qe ?_;exact Qk ⟨[_],La,congrArg (Value.int .i64) (show(-1:Int)=JT a b by unfold JT;rw[if_pos E]),G⟩
 refine Qi<|Qg<|Qc<|Qb<|Qb<|x (ZL O O)<|xe<|Q4 rfl (λH=>?_) (λH=>?_)
 ·refine Qc<|Qe ?_;exact Qk ⟨[_],La,congrArg (Value.int .i64) (show(1:Int)=JT a b by unfold JT;rw[if_neg E,if_pos H]),G⟩
 refine Qi<|Qc<|Qe ?_;exact Qk ⟨[_],La,congrArg (Value.int .i64) (show(0:Int)=JT a b by unfold JT;rw[if_neg E,if_neg H]),G⟩
theorem Qlx {L:LN}{w:World}{v:Value}{l:LI}(h:QH L w.heap v l):QE prog 122 [v] w λr w'=>r=.int .i64 (orL l)∧Step [] w w':=by
 have J:=h.le;refine QE.of_W func122 O ntmps122 results122 (by simp) ?_;refine Qc<|Qe<|Qc<|Qe<|Qg<|Qc<|Qb<|x (Qr h O)<|Qb<|xe<|Qh<|QA (α:=Nat) [(2,2),(5,5),(8,16)] (λz=>[(8,.int .i64 z)]) (λz w'=>z≤l.length∧w'=w∧orL (l.drop z)=orL l) (λz=>l.length - z) (by rfl) 0 La ⟨Ll _,O,O⟩ ?_;rintro k g T ⟨hk,rfl,hd⟩;refine Qc<|x (Qz O O)<|xe<|Qg<|QC O (λh9=>?_) (λh9=>?_)
 ·refine Qy ?_;have I:l.length≤k:=by have E:¬(k:Int)<(l.length:Int):=h9;omega
  rw[Ls I]at hd;refine Qc<|Qb<|Qe ?_;exact Qk ⟨[_],La,congrArg (Value.int .i64) hd,Step.refl _ _⟩
 have G:k<l.length:=by have E:(k:Int)<(l.length:Int):=h9;omega
 rw[LE G,orL]at hd;refine Qi<|Qg<|Qh<|Qc<|xii (i:=k) h O O G λU E=>x (Qv E O)<|Qe<|Qc<|Qb<|Qb<|x (Q7 O O)<|xe<|Q4 rfl (λH=>?_) (λH=>?_)
 ·rw[if_pos H]at hd;refine Qc<|Qb<|Qe ?_;exact Qk ⟨[_],La,congrArg (Value.int .i64) hd,Step.refl _ _⟩
 rw[if_neg H]at hd;refine Qi<|Qx<|QM O O<|Qb<|xe ?_;exact⟨k+1,by omega,La,G,O,hd⟩
theorem QaI {L L':LN}{w:World}{v v':Value}{l l':LI}(h:QH L w.heap v l)(h':QH L' w.heap v' l'):
  QE prog 124 [v,v'] w λr w'=>r=.int .i64 (scm l l')∧Step [] w w':=by
 have hh:=h.le;have hi:=h'.le;refine QE.of_W func124 O ntmps124 results124 (by simp) ?_;refine Qc<|Qe<|Qg<|Qc<|Qb<|x (Qr h O)<|Qb<|xe<|Qh<|QA (α:=Nat) [(4,8),(11,30)] (λz=>[(11,.int .i64 z)]) (λz w'=>z≤l.length∧z≤l'.length∧Step [] w w'∧scm (l.drop z) (l'.drop z)=scm l l') (λz=>l.length - z) (by rfl) 0 La ⟨Ll _,Ll _,Step.refl _ _,O⟩ ?_;rintro k g w1 ⟨hk,hj,E,hd⟩
 have h1:=h.ext E;have H:=h'.ext E;refine Qc<|x (Qz O O)<|xe<|Qg<|QC O (λI=>?_) (λI=>?_)
 ·refine Qy ?_;have ha:l.length≤k:=by have hb:¬(k:Int)<(l.length:Int):=I;omega
  rw[Ls ha]at hd;refine Qg<|Qc<|Qb<|x (Qr h1 O)<|Qb<|x (Qr H O)<|x (Qz O O)<|xe<|Q4 O (λJ=>?_) (λJ=>?_)
  ·have G:k<l'.length:=by have hc:(l.length:Int)<(l'.length:Int):=J;omega
   rw[LE G]at hd;refine Qc<|Qe ?_;exact Qk ⟨[_],La,congrArg (Value.int .i64) hd,E⟩
  have hge:l'.length≤k:=by have hc:¬(l.length:Int)<(l'.length:Int):=J;omega
  rw[Ls hge]at hd;refine Qi<|Qc<|Qe ?_;exact Qk ⟨[_],La,congrArg (Value.int .i64) hd,E⟩
 have G:k<l.length:=by have hb:(k:Int)<(l.length:Int):=I;omega
 rw[LE G]at hd;refine Qi<|Qg<|Qh<|Qc<|Qb<|xii (i:=k) h1 O O G λhl he=>x (Qv he O)<|x Qf<|Qe<|Qg<|Qc<|Qb<|Qb<|x (Qr H O)<|x (ZN O O)<|xe<|Q4 rfl (λT=>?_) (λT=>?_)
 ·have hge:l'.length≤k:=by have hf:(l'.length:Int)≤(k:Int):=T;omega
  rw[Ls hge]at hd;refine Qc<|Qe ?_;exact Qk ⟨[_],La,congrArg (Value.int .i64) hd,E⟩
 have U:k<l'.length:=by have hf:¬(l'.length:Int)≤(k:Int):=T;omega
 rw[LE U,scm]at hd;refine Qi<|Qc<|Qb<|Qb<|xii (i:=k) H O O U λhm hg=>x (Qv hg O)<|Qe<|Qc<|Qb<|Qb<|xl O<|xf<|(Qd8 _ _ w1).mono ?_;rintro r2 w2 ⟨rfl,Y⟩;refine Qe<|Qc<|Qb<|x (Q7 O O)<|xe<|Q4 rfl (λV=>?_) (λV=>?_)
 ·rw[if_pos V]at hd;refine Qc<|Qb<|Qe ?_;exact Qk ⟨[_],La,congrArg (Value.int .i64) hd,E.trans Y⟩
 rw[if_neg V]at hd;refine Qi<|Qx<|QM O O<|Qb<|xe ?_;exact⟨k+1,by omega,La,G,U,E.trans Y,hd⟩
theorem Qap {L L':LN}{w:World}{v v':Value}{l l':LI}(h:QH L w.heap v l)(h':QH L' w.heap v' l'):
  QE prog 67 [v,v'] w λr w'=>r=.int .i64 (wcm l l')∧Step [] w w':=by
 refine QE.of_W func67 O ntmps67 results67 (by simp) ?_;refine Qc<|Qe<|Qc<|Qb<|x (Qr h O)<|Qb<|x (Qr h' O)<|xl O<|xf<|(Qd8 _ _ w).mono ?_;rintro Y w1 ⟨rfl,E⟩;refine Qb<|Qb<|xl O<|xf<|(QaI (h.ext E) (h'.ext E)).mono ?_;rintro r2 w2 ⟨rfl,G⟩
 refine xl rfl<|QF (us:=[[.int .i64 (JT l.length l'.length)],[.int .i64 (scm l l')]]) O O (by decide) (by simp) ⟨rfl,rfl,rfl,rfl,Z⟩ λH I J ha T=>?_;have U:QH [] I.heap (.slice (some ⟨H,0,none⟩) 2 2) [JT l.length l'.length,scm l l']:=T.arr (by simp) rfl (by decide) (Lt 2);refine xl rfl<|xf<|(Qlx U).mono ?_;rintro r4 w4 ⟨rfl,V⟩;refine Qe ?_
 exact Qk ⟨[_],La,O,((E.trans G).trans J).trans V⟩
theorem Qe6 (a b:QO):(lgq a b 1=none→lgq a b 2=none→cmW a b=none)∧(lgq a b 1=none→∀u,lgq a b 2=some u→cmW a b=some u)∧(∀v,lgq a b 1=some v→lgq a b 2=none→cmW a b=some v) ∧
  ∀v u,lgq a b 1=some v→lgq a b 2=some u→cmW a b=if less u v=true then some u else some v:=by
 unfold cmW;refine⟨λh1 h2=>?_,λh1 u h2=>?_,λv h1 h2=>?_,λv u h1 h2=>?_⟩ <;> rw[h1,h2] <;> rfl
theorem Qe5 {w:World}{va vm ve wa wm we:Value}{a b:QO}(hA:Zp [] w.heap va vm ve a)(hB:Zp [] w.heap wa wm we b)(ha:Q2 a)(hb:Q2 b):
  QE prog 27 [.agg #[va,.int .i64 a.st,vm,ve],.agg #[wa,.int .i64 b.st,wm,we]] w λr w'=>Step [] w w'∧∃v,r=.tuple #[v,.bool (cmW a b).isNone]∧QH [] w'.heap v ((cmW a b).getD []):=by
 obtain⟨c1,c2,c3,c4⟩:=Qe6 a b;refine QE.of_W func27 O ntmps27 results27 (by simp) ?_;refine Qc<|xl O<|QQ (us:=[va,.int .i64 a.st,vm,ve]) O λb2 w1 hj hm hk=>xl O<|QQ (us:=[wa,.int .i64 b.st,wm,we]) O λb3 w2 he hn hf=>x Qf<|Qe ?_;have J:=hj.trans he;have hg:=hk.ext he;have e1:lgE a b 1=0:=Kq ha hb (.inl O);have e2:lgE a b 2=0:=Kq ha hb (.inr O)
 refine Qc<|x (Qn hg O O)<|x (Qn hf O O)<|xl O<|xf<|(Vn (hA.ext J) (hB.ext J) 1).mono ?_;rintro r3 w3 ⟨T,v3,q3,rfl,h3⟩;have h3:=h3 e1;rw[e1];refine Qb<|x (Qj O O)<|x (Qj O O)<|x (Qj O O)<|x Qf<|x Qf<|Qe ?_;have U:=J.trans T;refine Qc<|x (Qn (hg.ext T) O O)<|x (Qn (hf.ext T) O O)<|xl O<|xf<|(Vn (hA.ext U) (hB.ext U) 2).mono ?_;rintro r4 w4 ⟨hh,v4,q4,rfl,h4⟩
 have h4:=h4 e2;rw[e2];refine Qb<|x (Qj O O)<|x (Qj O O)<|x (Qj O O)<|x Qf<|x Qf<|Qe ?_;have G:=U.trans hh;have V:=λkd u (h:lgq a b kd=some u)=>QdG ha hb h;refine Qg<|Qh<|QX (α:=Unit) [(26,30)] (λz=>[(26,.bool (q3 && q4))]) (λz w'=>w'=w4) (by rfl) ?_ ?_
 ·refine Qx ?_;cases q3 with
  | true=>exact Qb<|Qb<|Qb<|x (Qq O)<|x Qf<|xe ⟨(),La,O⟩
  | false=>exact Qb<|Qb<|xs O<|x (Qq O)<|x Qf<|xe ⟨(),La,O⟩
 rintro⟨⟩ g H rfl;cases h5:lgq a b 1 with
 | none =>
  rw[h5]at h3;obtain⟨rfl,rfl⟩:=h3;cases E:lgq a b 2 with
  | none =>
   rw[E]at h4;obtain⟨rfl,rfl⟩:=h4;rw[c1 h5 E];refine Vx O ?_;refine Qc<|x Qf<|Qe ?_;exact Qk ⟨[_,_],⟨O,O,Z⟩,G,_,O,Zv.nil _ _ _⟩
  | some u =>
   rw[E]at h4;obtain⟨rfl,hu⟩:=h4;rw[c2 h5 u E];refine ZO O ?_;refine QX (α:=Unit) [(31,42)] (λz=>[(31,.bool true)]) (λz w'=>w'=H) (by rfl) ?_ ?_
   ·refine Qx ?_;exact Qb<|Qb<|xs O<|xs O<|xs O<|xs O<|xs O<|xs O<|xs O<|xs O<|x (Qq O)<|x Qf<|xe ⟨(),La,O⟩
   rintro⟨⟩ g w6 rfl;refine Vx O ?_;refine Qc<|Qb<|x Qf<|Qe ?_;exact Qk ⟨[_,_],⟨O,O,Z⟩,G,_,O,hu.ints (by have:=V 2 u E;show u.length≤_;omega) (by simp)⟩
 | some v =>
  rw[h5]at h3;obtain⟨rfl,hv⟩:=h3;have Y:QH [] H.heap v3 v:=(hv.ints (by have:=V 1 v h5;omega) (by simp)).ext hh;refine ZO O ?_;cases E:lgq a b 2 with
  | none =>
   rw[E]at h4;obtain⟨rfl,rfl⟩:=h4;rw[c3 v h5 E];refine QX (α:=Unit) [(31,42)] (λz=>[(31,.bool false)]) (λz w'=>w'=H) (by rfl) ?_ ?_
   ·refine Qx ?_;exact Qb<|Qb<|Qb<|x (Zq O)<|Qb<|xs O<|xs O<|xs O<|xs O<|x (Qq O)<|x (Qq O)<|x Qf<|xe ⟨(),La,O⟩
   rintro⟨⟩ g w6 rfl;refine ZO O<|Qi<|Qc<|Qb<|x Qf<|Qe ?_;exact Qk ⟨[_,_],⟨O,O,Z⟩,G,_,O,Y⟩
  | some u =>
   rw[E]at h4;obtain⟨rfl,hu⟩:=h4;have hi:QH [] H.heap v4 u:=hu.ints (by have:=V 2 u E;omega) (by simp);rw[c4 v u h5 E];refine QX (α:=Unit) [(31,42)] (λz=>[(31,.bool (less u v))]) (λz w'=>Step [] H w') (by rfl) ?_ ?_
   ·refine Qx<|Qb<|Qb<|Qb<|x (Zq O)<|Qb<|Qb<|Qb<|xl O<|xf<|(Qap hi Y).mono ?_;rintro r6 w6 ⟨rfl,hl⟩;refine x (Qz O O)<|x (Qq O)<|x (Qq O)<|Qe ?_;exact⟨(),⟨congrArg Value.bool (Qfs v u),Z⟩,hl⟩
   rintro⟨⟩ g w7 I;refine QY O (λhc=>?_) (λhc=>?_)
   ·rw[if_pos hc];refine Qc<|Qb<|x Qf<|Qe ?_;exact Qk ⟨[_,_],⟨O,O,Z⟩,G.trans I,_,O,hi.ext I⟩
   rw[if_neg (by rw[hc];decide)];refine Qi<|Qc<|Qb<|x Qf<|Qe ?_;exact Qk ⟨[_,_],⟨O,O,Z⟩,G.trans I,_,O,Y.ext I⟩
section
variable {aa:List QO}{P:LI→Prop}{B:Nat}
structure SyB (P:LI→Prop)(s:Sy):Prop where
 nd:s.tup.Nodup
 p:∀t∈s.tup,P t
theorem Qlh (J:B≤4096)(H:∀l:List (LI),l.Nodup→(∀t∈l,P t)→l.length≤B){i:Nat}{t:LI}{v:Int}{z:Sy}(E:SyB P z)(I:∀u,Zz v aa t=some u→P u):
  ∃z',syE aa i t z v=some z'∧SyB P z':=by
 unfold syE;cases hs:Zz v aa t with
 | none=>exact⟨z,O,E⟩
 | some u =>
  simp only[];by_cases hu:u∈z.tup
  ·rw[if_pos hu];exact⟨_,O,E.nd,E.p⟩
  have G:(z.tup++[u]).Nodup:=JN E.nd hu;have hp:∀t∈z.tup++[u],P t:=λt ht=>by
   rcases Lq.1 ht with ht|ht
   ·exact E.p t ht
   rw[Lb.1 ht];exact I u hs
  have hc:=H _ G hp;rw[Lj,LA]at hc;rw[if_neg hu,if_neg (by omega)];exact⟨_,O,G,hp⟩
theorem Qdd (G:B≤4096)(H:∀l:List (LI),l.Nodup→(∀t∈l,P t)→l.length≤B){i:Nat}{t:LI}:∀(vs:LI) (z:Sy),SyB P z→(∀v∈vs,∀u,Zz v aa t=some u→P u)→∃z',Vi aa i t vs z=some z'∧SyB P z'
 | [],z,E,_=>⟨z,O,E⟩
 | v::vs,z,E,I=>by
  obtain⟨J,h1,h2⟩:=Qlh (i:=i) G H E (I v Lp);obtain⟨T,h3,h4⟩:=Qdd G H vs J h2 (λw U=>I w (Lk _ U));exact⟨T,by rw[Vi,h1];exact h3,h4⟩
theorem QfG (G:B≤4096)(H:∀l:List (LI),l.Nodup→(∀t∈l,P t)→l.length≤B)(I:∀t,P t→∀v∈evs aa,∀u,Zz v aa t=some u→P u):∀(f i:Nat) (z:Sy),SyB P z→∃z',syL aa f i z=some z'
 | 0,_,z,_=>⟨z,O⟩
 | f+1,i,z,E=>by
  rw[syL];split
  ·rename_i hi;have T:P (UG z i):=E.p _ (by unfold UG;simp[List.getD,hi]);have J:(ZF aa i (UG z i) z).tup=z.tup:=by unfold ZF;split <;> rfl
   obtain⟨U,h1,h2⟩:=Qdd (i:=i) G H (evs aa) (ZF aa i (UG z i) z) ⟨by rw[J];exact E.nd,by rw[J];exact E.p⟩ (I _ T);obtain⟨V,h3⟩:=QfG G H I f (i+1) U h2;exact⟨V,by rw[h1];exact h3⟩
  exact⟨z,O⟩
theorem Qc9 (E:B≤4096)(G:∀l:List (LI),l.Nodup→(∀t∈l,P t)→l.length≤B)(H:(∀a∈aa,a.st≠0)→P (List.replicate aa.length 0))(I:∀t,P t→∀v∈evs aa,∀u,Zz v aa t=some u→P u):
  ∃z,sync aa=some z:=by
 unfold sync;split
 ·exact⟨_,rfl⟩
 rename_i J;have h1:P (List.replicate aa.length 0):=H (λa ha e=>J ⟨a,ha,e⟩);obtain⟨z,h2⟩:=QfG E G I 4096 0 (UT aa) ⟨by simp[UT],λt ht=>by simp[UT]at ht;subst ht;exact h1⟩;exact⟨_,by rw[h2];rfl⟩
end
def K6 (k:Nat):LI→Int
 | []=>0
 | x::t=>x+(k:Int)*K6 k t
theorem QdZ {k:Nat}:∀{t:LI},(∀x∈t,0≤x∧x<(k:Int))→0≤K6 k t∧K6 k t<((k ^ t.length:Nat):Int)
 | [],_=>by simp[K6]
 | x::t,h=>by
  have hx:=h x Lp;obtain⟨h1,h2⟩:=QdZ (t:=t) (λy hy=>h y (Lk _ hy));have hk:(0:Int)<(k:Int):=by omega
  rw[K6,LG,Nat.pow_succ];have h3:(k:Int)*K6 k t≤(k:Int)*(((k ^ t.length:Nat):Int) - 1):=Int.mul_le_mul_of_nonneg_left (by omega) (by omega);have h4:0≤(k:Int)*K6 k t:=Int.mul_nonneg (by omega) h1;rw[Int.mul_sub,Int.mul_one]at h3;have h5:((k ^ t.length*k:Nat):Int)=(k:Int)*((k ^ t.length:Nat):Int):=by rw[Int.natCast_mul,Int.mul_comm]
  rw[h5];exact⟨by omega,by omega⟩
theorem Qbj {k:Nat}:∀{t u:LI},t.length=u.length→(∀x∈t,0≤x∧x<(k:Int))→(∀x∈u,0≤x∧x<(k:Int))→K6 k t=K6 k u→t=u
 | [],[],_,_,_,_=>rfl
 | [],_::_,h,_,_,_=>by cases h
 | _::_,[],h,_,_,_=>by cases h
 | x::t,y::u,hl,ht,hu,he=>by
  have hx:=ht x Lp;have hy:=hu y Lp;rw[K6,K6]at he;have G:(x+(k:Int)*K6 k t) % (k:Int)=x:=by rw[Int.add_mul_emod_self_left];exact Int.emod_eq_of_lt hx.1 hx.2
  have I:(y+(k:Int)*K6 k u) % (k:Int)=y:=by rw[Int.add_mul_emod_self_left];exact Int.emod_eq_of_lt hy.1 hy.2
  rw[he]at G;have H:x=y:=by omega
  subst H;have hm:(k:Int)*K6 k t=(k:Int)*K6 k u:=by omega
  have hk:(k:Int)≠0:=by omega
  have h2:=Int.eq_of_mul_eq_mul_left hk hm;rw[Qbj (by simpa using hl) (λz E=>ht z (Lk _ E)) (λz E=>hu z (Lk _ E)) h2]
theorem QfE {aa:List QO}{k:Nat}(G:∀a∈aa,Q2 a)(hk:∀a∈aa,a.st≤(k:Int))(I:k ^ aa.length≤4096):∃z,sync aa=some z:=by
 have E:∀t,Vt aa t→∀x∈t,0≤x∧x<(k:Int):=λt ht x hx=>by
  obtain⟨i,hi,e⟩:=LF hx;have H:i<aa.length:=by rw[←ht.1];exact hi
  have h1:=ht.2 i hi H;have h2:=hk _ (Li H);rw[e]at h1;omega
 refine Qc9 (P:=Vt aa) I (λl J hp=>?_) (λT=>?_) (λt ht v _ u hu=>Xs G ht hu)
 ·have h1:(l.map (K6 k)).Nodup:=by
   unfold List.Nodup;rw[MM];refine List.Pairwise.imp_of_mem (λ{a b} ha hb U e=>U ?_) J;exact Qbj (by rw[(hp a ha).1,(hp b hb).1]) (E a (hp a ha)) (E b (hp b hb)) e
  have h2:=pig (k ^ aa.length) _ h1 (λu hu=>by
   obtain⟨t,ht,rfl⟩:=Lx.1 hu;have h3:=QdZ (E t (hp t ht));rw[(hp t ht).1]at h3;exact h3)
  rw[Lh]at h2;exact h2
 refine⟨by simp,λi h h'=>?_⟩;have h1:=T _ (Li h');have h2:=(G _ (Li h')).st0;simp only[List.getElem_replicate];omega
theorem zu {o:LI}{i j:Nat}{v:Int}(h:i<o.length):cget (o.set i v) j=if j=i then v else cget o j:=by
 by_cases e:j=i
 ·rw[if_pos e,e];unfold cget;simp[List.getD,h]
 rw[if_neg e];unfold cget;simp[List.getD,List.getElem?_set_ne (Ne.symm e)]
theorem Qg2 {es:List Ed}{e:Ed}{s:Nat}(he:e∈es)(h:e.2.2=(s:Int)):e.1∈ZE es s:=by
 unfold ZE;exact Lx.2 ⟨e,LP.2 ⟨he,decide_eq_true h⟩,O⟩
structure BwF (n:Nat)(s:Int)(ps:LI)(z z':LI×LI):Prop where
 ok:zR n z'.1 z'.2
 cnt:neg z'.1+z'.2.length=neg z.1+z.2.length
 s0:QbP z'.1 z'.2
 ss:0≤cget z'.1 s.toNat
 a:∀p∈ps,0≤cget z'.1 p.toNat
 m:∀i,0≤cget z.1 i→0≤cget z'.1 i
 c:∀i:Nat,0≤cget z'.1 i→0≤cget z.1 i∨(i:Int)∈z'.2
 q:∀x∈z.2,x∈z'.2
theorem Qnt {n:Nat}{s p:Int}{z:LI×LI}(h:zR n z.1 z.2)(H:0≤cget z.1 s.toNat)(hp:0≤p∧p<(n:Int)):
  0≤cget (VD s z p).1 p.toNat∧(∀i,0≤cget z.1 i→0≤cget (VD s z p).1 i)∧(∀i:Nat,0≤cget (VD s z p).1 i→0≤cget z.1 i∨(i:Int)∈(VD s z p).2)∧∀x∈z.2,x∈(VD s z p).2:=by
 have E:p.toNat<z.1.length:=by have:=h.len;omega
 unfold VD;by_cases hc:cget z.1 p.toNat<0
 ·rw[if_pos hc];refine⟨?_,λi hi=>?_,λi hi=>?_,λx hx=>LQ _ hx⟩
  ·show 0≤cget (z.1.set p.toNat _) p.toNat;rw[zu E,if_pos rfl];omega
  ·show 0≤cget (z.1.set p.toNat _) i;rw[zu E];split <;> omega
  have G:0≤cget (z.1.set p.toNat (cget z.1 s.toNat+1)) i:=hi;rw[zu E]at G;by_cases e:i=p.toNat
  ·refine .inr (M1 _ ?_);rw[Lb];omega
  rw[if_neg e]at G;exact .inl G
 rw[if_neg hc];exact⟨by omega,λi h=>h,λi h=>.inl h,λx h=>h⟩
theorem bwF {n:Nat}{s:Int}(hs:0≤s∧s<(n:Int)):∀(ps:LI) (z:LI×LI),zR n z.1 z.2→QbP z.1 z.2→0≤cget z.1 s.toNat→(∀p∈ps,0≤p∧p<(n:Int))→BwF n s ps z (ps.foldl (VD s) z)
 | [],z,h,G,E,_=>⟨h,O,G,E,(λp hp=>(by cases hp)),λi h=>h,λi h=>.inl h,λx h=>h⟩
 | p::ps,z,h,G,E,H=>by
  have hp:=H p Lp;have h1:=QcO h hs E hp;have h2:=zC h E hp G;have h3:=Qnt h E hp;have ih:=bwF hs ps (VD s z p) h1.1 h2 h1.2.2 (λq hq=>H q (Lk _ hq));refine⟨ih.ok,ih.cnt.trans h1.2.1,ih.s0,ih.ss,λq hq=>?_,λi hi=>ih.m i (h3.2.1 i hi),λi hi=>?_,λx hx=>ih.q x (h3.2.2.2 x hx)⟩
  ·rcases Lc.1 hq with rfl|hq
   ·exact ih.m _ h3.1
   exact ih.a q hq
  rcases ih.c i hi with h4|h4
  ·rcases h3.2.2.1 i h4 with h5|h5
   ·exact .inl h5
   exact .inr (ih.q _ h5)
  exact .inr h4
theorem Qei {n:Nat}{es:List Ed}(I:∀e∈es,0≤e.1∧e.1<(n:Int)∧0≤e.2.2∧e.2.2<(n:Int)):∀(f:Nat) (o q:LI),zR n o q→QbP o q→neg o+q.length≤f→(∀e∈es,0≤cget o e.2.2.toNat→0≤cget o e.1.toNat∨e.2.2∈q) →
  (∀e∈es,0≤cget (bwL es f o q) e.2.2.toNat→0≤cget (bwL es f o q) e.1.toNat)∧∀i,0≤cget o i→0≤cget (bwL es f o q) i
 | 0,o,q,_,_,J,G=>by
  have hq:q=[]:=Lr (by omega);subst hq;exact⟨λe he h=>(G e he h).resolve_right (by simp),λi h=>h⟩
 | f+1,o,[],_,_,_,G=>⟨λe he h=>(G e he h).resolve_right (by simp),λi h=>h⟩
 | f+1,o,s::q,H,T,J,G=>by
  have hs:=H.q s Lp;have E:=bwF hs (ZE es s.toNat) (o,q) ⟨H.len,λx hx=>H.q x (Lk _ hx),H.le⟩ (λx hx=>T x (Lk _ hx)) (T s Lp) (λp hp=>by
   obtain⟨e,he,h1,_⟩:=JC hp;have:=I e he;omega)
  have hc:=E.cnt;simp only[List.length_cons]at J hc;have ih:=Qei I f _ _ E.ok E.s0 (by omega) (λe he hx=>?_)
  ·rw[bwL];exact⟨ih.1,λi hi=>ih.2 i (E.m i hi)⟩
  have U:=I e he;by_cases e1:e.2.2=s
  ·exact .inl (E.a _ (Qg2 he (by rw[e1];omega)))
  rcases E.c _ hx with h1|h1
  ·rcases G e he h1 with h2|h2
   ·exact .inl (E.m _ h2)
   rcases Lc.1 h2 with h3|h3
   ·exact absurd h3 e1
   exact .inr (E.q _ h3)
  rw[show((e.2.2.toNat:Nat):Int)=e.2.2 by omega]at h1;exact .inr h1
theorem Qku {a:QO}(E:Q2 a){n:Nat}(H:a.st=(n:Int)):(∀e∈a.ed,0≤cget (bwd n a.ed a.mr) e.2.2.toNat→0≤cget (bwd n a.ed a.mr) e.1.toNat)∧∀x∈a.mr,0≤cget (bwd n a.ed a.mr) x.toNat:=by
 have hb:∀x∈a.mr,0≤x∧x<(n:Int):=λx hx=>by have:=E.mr x hx;omega
 have G:=Qcl (KY n a.mr);rw[Y7]at G;have h:=Qei (es:=a.ed) (λe he=>by have:=E.ed e he;omega) (n+a.mr.length) (KY n a.mr) a.mr (QcP hb) (λx hx=>by rw[qi (hb x hx) hx];exact Nf _) (by omega) (λe he hx=>.inr ?_)
 ·exact⟨h.1,λx hx=>h.2 _ (by rw[qi (hb x hx) hx];exact Nf _)⟩
 have I:=E.ed e he;have hl:e.2.2.toNat<(KY n a.mr).length:=by rw[Y7];omega
 rw[←Zm hl]at hx;have e1:((e.2.2.toNat:Nat):Int)=e.2.2:=by omega
 simp only[KY,List.getElem_map,List.getElem_range,e1]at hx;split at hx
 ·assumption
 omega
theorem QaM {a:QO}{ul:LI}:∀(f:Nat) (lf:Lf),K7 lf<f→(nxs a ul (UX a ul f lf)).length=0
 | 0,_,h=>by omega
 | f+1,lf,h=>by
  by_cases h1:(nxs a ul lf).length=0
  ·rw[UX,if_pos h1];exact h1
  rw[yr h1];have:=QaS h1;exact QaM f _ (by omega)
theorem Qf9 (a:QO)(ul:LI):(nxs a ul (QeF a [] ul)).length=0:=by
 refine QaM _ _ ?_;have h:=Qd5 (lf0 a.st.toNat []);have:(lf0 a.st.toNat []).length=a.st.toNat:=by simp[lf0]
 omega
theorem Qek {lf:Lf}:∀(l:LI) (i k:Nat),k<l.length→lf.getD (i+k) false=true→cget l k<0→((i+k:Nat):Int)∈JW lf i l
 | [],_,k,h,_,_=>by simp at h
 | d::l,i,0,_,h1,h2=>by
  have h3:d<0:=h2;rw[JW,if_pos ⟨by simpa using h1,h3⟩];simp
 | d::l,i,k+1,h,h1,h2=>by
  have h3:=Qek l (i+1) k (by simpa using h) (by rw[show i+1+k=i+(k+1) by omega];exact h1) h2;rw[show i+1+k=i+(k+1) by omega]at h3;rw[JW];split
  ·exact Lk _ h3
  exact h3
structure DsQ (a:QO)(lf:Lf)(z:LI×LI):Prop where
 q:∀k,(h:k<z.2.length)→lft lf (z.2[k]'h)=true∧(z.2[k]'h∈a.mr∨∃j,∃hj:j<z.2.length,j<k∧∃v,(z.2[k]'h,v,z.2[j]'hj)∈a.ed)
 r:∀i:Nat,0≤cget z.1 i→i<z.1.length→(i:Int)∈z.2
theorem DsQ.add {a:QO}{lf:Lf}{z:LI×LI}{x y:Int}{i:Nat}(h:DsQ a lf z)(hi:i<z.2.length)(hx:z.2[i]'hi=x)(hy:0≤y)(he:∃v,(y,v,x)∈a.ed):
  DsQ a lf (UY lf x z y)∧∃J:i<(UY lf x z y).2.length,(UY lf x z y).2[i]'J=x:=by
 unfold UY;by_cases hc:lft lf y=true∧cget z.1 y.toNat<0
 ·rw[if_pos hc];refine⟨⟨λk hk=>?_,λj hj H=>?_⟩,by simp;omega,by simp only[];rw[LX hi];exact hx⟩
  ·simp only[List.length_append,List.length_singleton]at hk;by_cases e:k=z.2.length
   ·subst e;simp only[List.getElem_append_right (Nat.le_refl _),Nat.sub_self,List.getElem_cons_zero];refine⟨hc.1,.inr ⟨i,by simp;omega,hi,?_⟩⟩;obtain⟨v,E⟩:=he;exact⟨v,by rw[LX hi,hx];exact E⟩
   have I:k<z.2.length:=by omega
   simp only[List.getElem_append_left I];obtain⟨h1,h2⟩:=h.q k I;refine⟨h1,h2.imp id ?_⟩;rintro⟨j,hj,T,v,E⟩;exact⟨j,by simp;omega,T,v,by rw[LX hj];exact E⟩
  simp only[List.length_set]at H;by_cases e:j=y.toNat
  ·refine M1 _ ?_;rw[Lb];omega
  refine LQ _ (h.r j ?_ H);have G:0≤cget (z.1.set y.toNat (cget z.1 x.toNat+1)) j:=hj;unfold cget at G ⊢;rw[MH,MR (Ne.symm e),←MH]at G;exact G
 rw[if_neg hc];exact⟨h,hi,hx⟩
theorem DsQ.adds {a:QO}{lf:Lf}{x:Int}{i:Nat}:∀(E:LI) (z:LI×LI),DsQ a lf z→(hi:i<z.2.length)→z.2[i]'hi=x→(∀y∈E,0≤y∧∃v,(y,v,x)∈a.ed)→DsQ a lf (E.foldl (UY lf x) z)
 | [],_,h,_,_,_=>h
 | y::E,z,h,hi,hx,hy=>by
  have h1:=h.add hi hx (hy y Lp).1 (hy y Lp).2;obtain⟨h2,G,H⟩:=h1;exact DsQ.adds E _ h2 G H (λq hq=>hy q (Lk _ hq))
theorem Qk3 {a:QO}(H:Q2 a){lf:Lf}:∀(f i:Nat) (z:LI×LI),DsQ a lf z→(∀x∈z.2,0≤x)→DsQ a lf (dsL a.ed lf f i z)
 | 0,_,z,h,_=>h
 | f+1,i,z,h,I=>by
  rw[dsL];split
  ·rename_i hi;have hx:z.2[i]'hi=cget z.2 i:=Zm hi;have J:=I _ (Li hi);rw[hx]at J;refine Qk3 H f (i+1) _ (h.adds (i:=i) _ _ hi hx (λy hy=>?_)) (λx T=>?_)
   ·obtain⟨e,he,h1,h2⟩:=JC hy;have U:=H.ed e he;rw[show(((cget z.2 i).toNat:Nat):Int)=cget z.2 i by omega]at h2;exact⟨by omega,e.2.1,by rw[←h1,←h2];exact he⟩
   have key:∀(E:LI) (z:LI×LI),(∀y∈E,0≤y)→(∀x∈z.2,0≤x)→∀x∈(E.foldl (UY lf (cget z.2 i)) z).2,0≤x:=by
    intro E z;generalize cget z.2 i=x0;intro hy G;have k2:∀(E:LI) (z:LI×LI),(∀y∈E,0≤y)→(∀x∈z.2,0≤x)→∀x∈(E.foldl (UY lf x0) z).2,0≤x:=by
     intro E;induction E with
     | nil=>intro z _ G;exact G
     | cons y E ih =>
      intro z hy G;rw[LM];refine ih _ (λq hq=>hy q (Lk _ hq)) (λx hx=>?_);unfold UY at hx;split at hx
      ·rcases Lq.1 hx with hx|hx
       ·exact G x hx
       rw[Lb.1 hx];exact hy y Lp
      exact G x hx
    exact k2 E z hy G
   exact key _ z (λy hy=>by
    obtain⟨e,he,h1,_⟩:=JC hy;have:=(H.ed e he).1;omega) I x T
  exact h
theorem Qnk {a:QO}(G:Q2 a)(lf:Lf):DsQ a lf (ds0 a lf)∧∀x∈(ds0 a lf).2,0≤x:=by
 rw[QcD (λx hx=>(G.mr x hx).1)];refine⟨⟨λk hk=>?_,λi hi E=>?_⟩,λx hx=>(G.mr x (LP.1 hx).1).1⟩
 ·have:=LP.1 (Li hk);exact⟨this.2,.inl this.1⟩
 simp only[]at hi E;rw[←Zm E]at hi;rw[Y7]at E;simp only[KY,List.getElem_map,List.getElem_range]at hi;split at hi
 ·assumption
 omega
theorem KW:∀{es:List Ed},(es.Pairwise λx y=>x.1<y.1∨(x.1=y.1∧x.2.1<y.2.1))→∀{s v t:Int},(s,v,t)∈es→eget es s v=some t
 | [],_,_,_,_,h=>by cases h
 | e::es,hp,s,v,t,h=>by
  simp only[List.pairwise_cons]at hp;rw[eget];rcases Lc.1 h with h|h
  ·rw[←h,if_pos ⟨rfl,rfl⟩]
  have h1:=hp.1 _ h;simp only[]at h1;rw[if_neg (by omega)];exact KW hp.2 h
theorem VY {ord:LI}{x:Int}(h:x∈ord):Zr ord ((ord.idxOf x:Nat):Int)=x:=by
 have hl:=Mj h;unfold Zr;simp[List.getD,hl]
section
variable {A:QO}{lf:Lf}{ord:LI}
def PrT (lf:Lf)(ord:LI)(t:LI):Prop:=∃j:Nat,j<ord.length∧t=[Zr ord j,(j:Int)]∧lft lf (Zr ord j)=true
theorem yp (E:Q2 A){s v p:Int}(h:(s,v,p)∈A.ed):eget (rstr A lf).ed s v=if lft lf p=true then some p else none:=by
 by_cases hl:lft lf p=true
 ·rw[if_pos hl];exact KW (KM E lf).edi (LP.2 ⟨h,hl⟩)
 rw[if_neg hl];refine JF λe he hk=>hl ?_;have h1:=LP.1 he;have h2:=KW E.edi h;have h3:eget A.ed e.1 e.2.1=some e.2.2:=KW E.edi (s:=e.1) (v:=e.2.1) (t:=e.2.2) h1.1;rw[hk.1,hk.2,h2]at h3;rw[Option.some.inj h3];exact h1.2
theorem Qdg (E:Q2 A)(hc:CnP (rstr A lf) ord){j:Nat}(hj:j<ord.length){v p:Int}(h:(Zr ord j,v,p)∈A.ed)(hl:lft lf p=true):
  Zz v [A,YJ (rstr A lf)] [Zr ord j,(j:Int)]=some [p,((ord.idxOf p:Nat):Int)]∧p∈ord:=by
 have G:v∈A.al:=(E.ed _ h).2.2.1;have H:v∈(YJ (rstr A lf)).al:=by rw[hc.al];exact G
 have h1:=hc.step hj v;rw[yp E h,if_pos hl]at h1;refine⟨QiS G (KW E.edi h) H h1,?_⟩;refine hc.cl j hj (Zr ord j,v,p) ?_;unfold ZC;exact LP.2 ⟨LP.2 ⟨h,hl⟩,decide_eq_true O⟩
theorem Qlk (H:Q2 A)(hc:CnP (rstr A lf) ord){j:Nat}(hj:j<ord.length){v:Int}(E:v∈A.al){u:LI}(hu:Zz v [A,YJ (rstr A lf)] [Zr ord j,(j:Int)]=some u):PrT lf ord u:=by
 have I:v∈(YJ (rstr A lf)).al:=by rw[hc.al];exact E
 cases G:eget A.ed (Zr ord j) v with
 | none=>rw[QiU E G]at hu;cases hu
 | some p =>
  have hm:=V5 G;by_cases hl:lft lf p=true
  ·have h1:=Qdg H hc hj hm hl;rw[h1.1]at hu;cases hu
   exact⟨ord.idxOf p,Mj h1.2,by rw[VY h1.2],by rw[VY h1.2];exact hl⟩
  have h1:=hc.step hj v;rw[yp H hm,if_neg hl]at h1;rw[QiT E G I h1]at hu;cases hu
end
theorem Qc8 {aa:List QO}{C:QO}{Q:List (LI)}(hs:SyP aa C Q)(H:Q2 C)(I:Par Q.length C.ed){P:LI→Prop}(J:0<Q.length→P (List.replicate aa.length 0))(T:∀t,P t→∀v∈evs aa,∀u,Zz v aa t=some u→P u):
  ∀(n j:Nat),j<n→j<Q.length→P (Q.getD j [])
 | 0,j,h,_=>by omega
 | n+1,j,h,hj=>by
  by_cases U:j=0
  ·subst U;rw[hs.hd hj];exact J hj
  obtain⟨e,he,e2,e1⟩:=I j (by omega) hj;have Y:=H.ed e he;have hi:e.1.toNat<Q.length:=by omega
  have ih:=Qc8 hs H I J T n e.1.toNat (by omega) hi;have V:eget C.ed e.1 e.2.1=some e.2.2:=KW H.edi (s:=e.1) (v:=e.2.1) (t:=e.2.2) he;have E:=hs.step hi e.2.1;rw[show((e.1.toNat:Nat):Int)=e.1 by omega,V,e2]at E;by_cases G:e.2.1∈evs aa
  ·rw[if_pos G]at E;cases hu:Zz e.2.1 aa (Q.getD e.1.toNat [])with
   | none=>rw[hu]at E;cases E
   | some u =>
    rw[hu]at E;have h2:(j:Int)=(Q.idxOf u:Int):=Option.some.inj E;have h3:=(hs.to hi G hu).2;rw[show Q.idxOf u=j by omega]at h3;rw[h3];exact T _ ih _ G u hu
  rw[if_neg G]at E;cases E
theorem Qjj {a:QO}{ul:LI}{lf:Lf}(h:(nxs a ul lf).length=0):(JW lf 0 (dsts a lf)).length=0:=by
 unfold nxs at h;by_cases h1:(lost a ul lf).length≠0
 ·rw[if_pos h1,Lh]at h;exact absurd h h1
 rw[if_neg h1]at h;exact h
theorem Qkp {A:QO}(E:Q2 A)(ul:LI):∃C Q,sync [A,J4 A [] ul]=some (C,Q)∧JJ [A,J4 A [] ul]=0∧Q2 C∧((cor C).length:Int)=C.st:=by
 have hV:=Qjj (Qf9 A ul);have hA:J4 A [] ul=J5 A (QeF A [] ul):=rfl;rw[hA];generalize hW:QeF A [] ul=lf at *;have hC:Q2 (J5 A lf):=Uk E lf;have G:∀a∈[A,J5 A lf],Q2 a:=λa ha=>by
  simp only[List.mem_cons,List.not_mem_nil,or_false]at ha;rcases ha with rfl|rfl
  ·exact E
  exact hC
 have hck:JJ [A,J5 A lf]=0:=by
  unfold JJ;rw[if_neg (by simp)];exact(KA _).2 G
 by_cases J:A.st=0∨lft lf 0=false
 ·have V:J5 A lf=⟨A.al,0,[],[]⟩:=by unfold J5;rw[if_pos J]
  have hs:sync [A,J5 A lf]=some (⟨evs [A,J5 A lf],0,[],[]⟩,[]):=by
   unfold sync;rw[if_pos ⟨J5 A lf,by simp,by rw[V]⟩]
  exact⟨_,_,hs,hck,(XN G hs).1.okay G,O⟩
 have hX:A.st≠0:=λe=>J (.inl e);have hD:lft lf 0=true:=by
  cases h:lft lf 0 with
  | true=>rfl
  | false=>exact absurd (.inr h) J
 have V:J5 A lf=YJ (rstr A lf):=by unfold J5;rw[if_neg J]
 rw[V]at G hck ⊢;have hE:=KM E lf;have st0:=E.st0;have hF:0<(rstr A lf).st:=by show 0<A.st;omega
 obtain⟨ord,hc⟩:=y9 hE hF;have hY:=E.st1;have hG:ord.length≤4096:=pig 4096 ord hc.nd (λx hx=>by have:=hc.bd x hx;have h2:x<A.st:=this.2;omega);have hH:∀v∈evs [A,YJ (rstr A lf)],v∈A.al:=λv H=>by
  obtain⟨a,ha,hx⟩:=(qe G v).1 H;simp only[List.mem_cons,List.not_mem_nil,or_false]at ha;rcases ha with rfl|rfl
  ·exact hx
  rw[hc.al]at hx;exact hx
 have hh:PrT lf ord (List.replicate [A,YJ (rstr A lf)].length 0):=⟨0,hc.hd.2,by
  have h1:=hc.hd.1;show[0,0]=[Zr ord ((0:Nat):Int),((0:Nat):Int)];rw[show Zr ord ((0:Nat):Int)=0 from h1];rfl,by rw[show Zr ord ((0:Nat):Int)=0 from hc.hd.1];exact hD⟩
 have hr:∀t,PrT lf ord t→∀v∈evs [A,YJ (rstr A lf)],∀u,Zz v [A,YJ (rstr A lf)] t=some u→PrT lf ord u:=by
  rintro t ⟨j,hj,rfl,_⟩ v H u hu;exact Qlk E hc hj (hH v H) hu
 obtain⟨⟨C,Q⟩,hs⟩:=Qc9 (P:=PrT lf ord) hG (λl hn hp=>by
  have h1:(l.map λt=>Zr t 1).Nodup:=by
   unfold List.Nodup;rw[MM];refine List.Pairwise.imp_of_mem (λ{x y} hx hy hI e=>hI ?_) hn;obtain⟨i,_,rfl,_⟩:=hp x hx;obtain⟨k,_,rfl,_⟩:=hp y hy;have e':(i:Int)=(k:Int):=e;have:i=k:=by omega
   rw[this]
  have h2:=pig ord.length _ h1 (λu hu=>by
   obtain⟨t,ht,rfl⟩:=Lx.1 hu;obtain⟨i,hi,rfl,_⟩:=hp t ht;show 0≤(i:Int)∧(i:Int)<_;omega)
  rw[Lh]at h2;exact h2) (λ_=>hh) hr
 have I:=(XN G hs).1;have Y:=I.okay G;refine⟨C,Q,hs,hck,Y,?_⟩;have hJ:=λj (hj:j<Q.length)=>Qc8 I Y (QfD hs) (λ_=>hh) hr (j+1) j (by omega) hj;have hK:=I.st;have hw:=Qku Y (n:=Q.length) hK;obtain⟨hL,hM⟩:=Qnk E lf;have hq:=Qk3 E (lf:=lf) A.st.toNat 0 (ds0 A lf) hL hM;have he:dsts A lf=(dsL A.ed lf A.st.toNat 0 (ds0 A lf)).1:=rfl
 refine Zb (dsL A.ed lf A.st.toNat 0 (ds0 A lf)) λz hN=>?_;rw[hN]at hq he;have hO:∀(m k:Nat),k<m→(hk:k<z.2.length)→∀i,i<Q.length→∀j:Nat,j<ord.length→Zr ord j=z.2[k]'hk→Q.getD i []=[Zr ord j,(j:Int)]→0≤cget (bwd Q.length C.ed C.mr) i:=by
  intro m;induction m with
  | zero=>intro k h;omega
  | succ m ih =>
   intro k hZ hk i hi j hj hf T;obtain⟨hl,hP⟩:=hq.q k hk;rcases hP with hm|⟨j',hg,ga,v,H⟩
   ·have hQ:(i:Int)∈C.mr:=by
     rw[I.mk2];refine Lx.2 ⟨i,LP.2 ⟨by rw[L7];omega,?_⟩,O⟩;rw[T];have hb:(j:Int)∈(YJ (rstr A lf)).mr:=by
      rw[hc.mk2];refine Lx.2 ⟨j,LP.2 ⟨by rw[L7];omega,decide_eq_true ?_⟩,O⟩;show Zr ord j∈A.mr;rw[hf];exact hm
     have ha:Zr ord j∈A.mr:=by rw[hf];exact hm
     simp[XD,ha,hb]
    have:=hw.2 _ hQ;simpa using this
   have hR:=(hq.q j' hg).1;rw[←hf]at H;obtain⟨h1,h2⟩:=Qdg E hc hj H hR;have h0:v∈evs [A,YJ (rstr A lf)]:=(qe G v).2 ⟨A,by simp,(E.ed _ H).2.2.1⟩;rw[←T]at h1;have h3:=I.to hi h0 h1;have h4:=I.step hi v;rw[if_pos h0,h1]at h4;have h5:=V5 h4;have h6:=ih j' (by omega) hg _ h3.1 (ord.idxOf (z.2[j']'hg)) (Mj h2) (VY h2) (by rw[h3.2,VY h2])
   have h7:=hw.1 _ h5;simp only[Int.toNat_natCast]at h7;exact h7 h6
 have hS:∀i,i<Q.length→0≤cget (bwd Q.length C.ed C.mr) i:=by
  intro i hi;obtain⟨j,hj,T,hl⟩:=hJ i hi;have hb:=hc.bd (Zr ord j) (by
   unfold Zr;simp only[Int.toNat_natCast,List.getD_eq_getElem?_getD,List.getElem?_eq_getElem hj,Option.getD_some];exact Li hj)
  have gb:Zr ord j<A.st:=hb.2;have h8:(dsts A lf).length=A.st.toNat:=by
   have key:∀(f i:Nat) (z:LI×LI),(dsL A.ed lf f i z).1.length=z.1.length:=by
    intro f;induction f with
    | zero=>intro i z;rfl
    | succ f ih =>
     intro i z;rw[dsL];split
     ·rw[ih];have k2:∀(x:Int) (U:LI) (z:LI×LI),(U.foldl (UY lf x) z).1.length=z.1.length:=by
       intro x U;induction U with
       | nil=>intro z;rfl
       | cons y U ih2 =>
        intro z;rw[LM,ih2];unfold UY;split
        ·simp
        rfl
      exact k2 _ _ _
     rfl
   unfold dsts;rw[key,QcD (λx hx=>(E.mr x hx).1)];exact Y7 _ _
  have h9:0≤cget (dsts A lf) (Zr ord j).toNat:=by
   refine Decidable.byContradiction λhn=>?_;have:=Qek (lf:=lf) (dsts A lf) 0 (Zr ord j).toNat (by rw[h8];omega) (by rw[LO];exact hl) (by omega);have:=List.length_pos_of_mem this;omega
  have gc:z.1.length=A.st.toNat:=by rw[←he];exact h8
  rw[he]at h9;have hm:=hq.r _ h9 (by omega);rw[show(((Zr ord j).toNat:Nat):Int)=Zr ord j by omega]at hm;obtain⟨k,hk,hT⟩:=LF hm;exact hO (k+1) k (by omega) hk i hi j hj hT.symm T
 have hU:cor C=Vo (bwd Q.length C.ed C.mr) Q.length:=by unfold cor;rw[show C.st.toNat=Q.length by omega]
 rw[hU];unfold Vo;rw[Lh,Nc.2 (λi hi=>decide_eq_true (hS i (MU.1 hi))),List.length_range];omega
theorem QdM {α:Type}(q:α→Bool):∀(l:List α) (i:Nat),(∀x∈ixs q i l,(i:Int)≤x∧x<(i:Int)+l.length)∧Yn (ixs q i l)
 | [],i=>⟨λx h=>(by cases h),List.Pairwise.nil⟩
 | e::l,i=>by
  obtain⟨h1,h2⟩:=QdM q l (i+1);rw[ixs];split
  ·refine⟨λx hx=>?_,LW.2 ⟨λx hx=>by have:=h1 x hx;omega,h2⟩⟩;rcases Lc.1 hx with rfl|hx
   ·exact⟨Nf _,by simp only[List.length_cons];omega⟩
   have:=h1 x hx;simp only[List.length_cons];omega
  exact⟨λx hx=>by have:=h1 x hx;simp only[List.length_cons];omega,h2⟩
theorem j6 {c:ZA}(h:X7 c=0):Vh (Xe c) [] (unc c.ev)=0:=by
 have E:=(JK h).2;have G:=ZX (V9 h);have hi:=QdM (λe:Kc=>!e.co) c.ev 0;have hl:=G.ev;unfold Vh;rw[if_neg (by simp[(Zu _).2 E]),if_neg (by simp[Y0])];exact QcJ (λx hx=>by have:=hi.1 x hx;omega) hi.2
theorem VB {w:World}{vl:Value}{ps:List AV}(h:YX [] w.heap vl ps)(Y:∀p∈ps,Q2 p.a)(ha:Kb w 4096):
  QE prog 40 [vl] w λr w'=>Step [] w w'∧∃va,r=.tuple #[va,.int .i64 (X8 (ps.map (·.a)))]∧(X8 (ps.map (·.a))≠0→va=zA)∧(X8 (ps.map (·.a))=0→Y2 w.heap.size w'.heap va (syA (ps.map (·.a)))):=by
 refine QE.of_W func40 O ntmps40 results40 (by simp) ?_;refine Qc<|xl O<|Qu (us:=VP) O λb2 w1 E he I=>Qe<|Qc<|Qb<|xl O<|xf<|(Ue (km:=4096) (h.ext E) (ha.ext E) (by decide) (U6 Y)).mono ?_;rintro r2 w2 ⟨hf,vA,vt,c,rfl,hR⟩;have hc:=hR.e;have hg:=hR.good;have hb:=hR.bad;obtain⟨a,xa,xm,G,qs,rfl,J,hq,_⟩:=hR.shape;have hh:=E.size;have hi:=I.lt
 refine Qb<|x (Qj O O)<|x (Qj O O)<|x (Qj O O)<|xl O<|Qu (us:=VP) O λb4 w3 hj hk hl=>xl O<|Qo (us:=[xa,.int .i64 a.st,xm,G]) hl O O O O J λw4 hm hn =>
  x Qf<|Qe ?_
 have T:Step [] w2 w4:=hj.then1 hm hk;have U:=hf.trans T;refine Qc<|x (Qn hn O O)<|Qb<|xl O<|Qo (us:=[xa,.int .i64 a.st,xm,G]) (I.ext U) O O O O J λw5 V hp=>Qe<|Qk ⟨[.agg [xa,.int .i64 a.st,xm,G].toArray,.int .i64 c],⟨⟨_,O,Qw O (hp.at (L:=[]) (by simp)).cells⟩,rfl,Z⟩,(E.trans U).then1 V he,.agg #[xa,.int .i64 a.st,xm,G],?_,λH=>?_,λH=>?_⟩
 ·show Value.tuple _=Value.tuple _;rw[hc]
 ·exact(hb (by rw[hc];exact H)).1
 have h1:=(hg (by rw[hc];exact H)).1;exact(Yl (h1.ext T) hi V).mono hh
theorem UQ {w:World}{c:CL}(h:ZJ [] w.heap c)(V:Kb w 4096):
  QE prog 23 [c.val] w λr w'=>Step [] w w'∧∃va,r=.tuple #[va,.int .i64 (X7 c.cel)]∧(X7 c.cel≠0→va=zA)∧(X7 c.cel=0→Y2 w.heap.size w'.heap va (Xe c.cel)):=by
 have G:=QfC c.cel;refine QE.of_W func23 O ntmps23 results23 (by simp) ?_;refine Qc<|xl O<|QQ (us:=c.cells) O λb1 w1 Y hu hk=>xl O<|Qu (us:=VP) O λb2 w2 ha hv J=>Qe ?_;have T:=Y.trans ha;have hw:=Y.size;have hy:=J.lt;refine Qc<|x (Qn (hk.ext ha) O O)<|xl O<|xf<|(KC (h.ext T) (V.ext T)).mono ?_;rintro r3 w3 ⟨I,vl,rfl,hz,hl⟩
 refine Qb<|x (Qj O O)<|x (Qj O O)<|x Qf<|Qe ?_;have U:=T.trans I;have h1:=I.size;refine Qg<|Qc<|Qb<|x (Q7 O O)<|xe<|Q4 rfl (λH=>?_) (λH=>?_)
 ·rw[if_pos H]at G;refine Qc<|x (QN Z)<|Qb<|xl O<|Qo (us:=VP) (J.ext I) O O O O ⟨O,O,O,O,Z⟩ λw4 hm hn=>Qe<|Qk ⟨[.agg VP.toArray,.int .i64 (VG c.cel)],⟨⟨_,O,Qw O (hn.at (L:=[]) (by simp)).cells⟩,rfl,Z⟩,U.then1 hm (by omega),zA,?_,λ_=>rfl,λE=>absurd E (by rw[G];exact H)⟩;show Value.tuple _=Value.tuple _;rw[G];rfl
 rw[if_neg H]at G;have hb:=Lm.1 H;obtain⟨h2,ps,hc,ho⟩:=hl hb;have hq:∀p∈ps,Q2 p.a:=λp hp=>qq hb p.a (by rw[←hc];exact LL hp);have hC:=VB (ho [] (by simp)) hq (V.ext U);rw[hc,←G]at hC;refine Qi<|Qc<|Qb<|xl O<|xf<|hC.mono ?_;rintro r5 w5 ⟨he,va,rfl,hf,hg⟩;have hr:∃us,va=.agg us.toArray∧us.length=4∧ZH us:=by
  by_cases E:X7 c.cel=0
  ·exact Xk (hg E)
  exact⟨VP,hf E,O,O,O,O,O,Z⟩
 obtain⟨us,hh,hi,hs⟩:=hr;refine x (Qj O O)<|x (Qj O O)<|xl O<|Qo (us:=us) (J.ext (I.trans he)) O (show Go.Lg.ev _ _=_ from hh) hi O hs λw6 hj ht=>Qe<|Qk ⟨[.agg us.toArray,.int .i64 (X7 c.cel)],⟨⟨_,O,Qw hi (ht.at (L:=[]) (by simp)).cells⟩,rfl,Z⟩,(U.trans he).then1 hj (by omega),va,?_,hf,λE=>?_⟩
 ·show Value.tuple _=Value.tuple _;rw[hh]
 exact(Yl (hg E) (by omega) hj).mono (by omega)
end Go.Proofs.YtjcgijbhaemldaaGreatDoor
namespace Go.Lg
section
variable {P:Program}{ops:List Oper}{K:Fr→World→Prop}{f:Fr}{w:World}{d:Option Nat}{ty:Nat}{ps:String}{af:Array Edge}{gd:Option (Nat×Bool)}{l:List Oper}{t t':Nat}{x y:Operand}{k:IntKind}{a b:Int}
theorem Vk (hx:ev f x=.int k a)(hy:ev f y=.int k b)(h:a=b):(execOp (ev f) ⟨d,.binOp .neq t x y t',ty,ps,af,gd⟩).run P w=.ok (.value (.bool false)) w:=by
 rw[Q7 hx hy,decide_eq_false (λe=>e h)]
end
end Go.Lg
namespace Go.Proofs.YtjcgijbhaemldaaGreatDoor
open Go.Proofs.Tryz
open Go.Lg
theorem qh {c:ZA}(h:X7 c=0):X8 [Xe c,UP c]=0∧Q2 (UP c)∧Q2 (ccA c)∧((cor (ccA c)).length:Int)=(ccA c).st:=by
 have E:=(JK h).2;obtain⟨C,Q,h1,h2,h3,h4⟩:=Qkp E (unc c.ev);have h5:sync [Xe c,UP c]=some (C,Q):=h1;have H:JJ [Xe c,UP c]=0:=h2;have G:ccA c=C:=by unfold ccA syA;rw[h5]
 refine⟨?_,Uk E _,by rw[G];exact h3,by rw[G];exact h4⟩;unfold X8;rw[if_neg (by simpa using H),h5]
def RA (N:Nat)(H:Array Obj)(v:Value)(e:Int)(a:QO):Prop:=(e≠0→v=zA)∧(e=0→Y2 N H v a)
theorem RA.shape {N:Nat}{H:Array Obj}{v:Value}{e:Int}{a:QO}(h:RA N H v e a):∃us,v=.agg us.toArray∧us.length=4∧ZH us:=by
 by_cases E:e=0
 ·exact Xk (h.2 E)
 exact⟨VP,h.1 E,O,O,O,O,O,Z⟩
theorem zm {w:World}{t:TmV}{c:CL}(ht:zL [] w.heap t)(hc:ZJ [] w.heap c)(hA:t.A=Xe c.cel)(h0:X7 c.cel=0):
  QE prog 39 [.agg (Jc t).toArray,c.val] w λr w'=>Step [] w w'∧∃va,r=.tuple #[va,.int .i64 0]∧Y2 w.heap.size w'.heap va (UP c.cel):=by
 have ha:=ZX (V9 h0);have hj:Vh t.A [] (unc c.cel.ev)=0:=by rw[hA];exact j6 h0
 have hS:J4 t.A [] (unc c.cel.ev)=UP c.cel:=by rw[hA];rfl
 refine QE.of_W func39 O ntmps39 results39 (by simp) ?_;refine Qc<|xl O<|QQ (us:=Jc t) O λb2 w1 hb hu hk=>xl O<|QQ (us:=c.cells) O λb3 w2 J hv hl=>xl O<|Qu (us:=VP) O λb4 w3 T hw he=>Qe ?_;have U:=(hb.trans J).trans T;have hy:=hb.size;have hz:=J.size;have h1:=he.lt;refine Qc<|x (Qa O)<|x (Qd (hl.ext T) O O)<|xl O<|xf<|(UD (hc.ev.ext U)).mono ?_
 rintro r4 V ⟨H,vu,rfl,I⟩;rw[if_pos (show XM c.ev=0 from ha.e0)]at I;have I:Qt 3 w3.heap.size V vu (unc c.cel.ev):=I;have h2:=H.size;have hm:(unc c.cel.ev).length≤1099511627776:=LJ (KQ _ c.cel.ev 0) hc.ev.arr.le;have hf:=U.trans H;have hD:=Vc (ht.a.ext hf) (XJ [] V.heap) (Qt.ints (L:=[]) I hm (by simp));rw[hj,hS,if_pos rfl]at hD
 refine Qb<|x (Qj O O)<|x (Qj O O)<|x Qf<|Qe<|Qg<|Qc<|Qb<|x (Vk O O ha.e0)<|xe<|ZO rfl<|Qi<|Qc<|x (Qa O)<|x (ZB (us:=[t.va,.int .i64 t.A.st,t.vm,t.ve]) (hk.ext ((J.trans T).trans H)) O O O)<|Qb<|xl O<|xf<|hD.mono ?_;rintro r6 w6 ⟨hg,c0,c1,c2,c3,sa,sm,se,o,rfl,G,_,hh⟩;have E:=hh O [] (by simp)
 refine Qb<|x (Qj O O)<|x (Qj O O)<|xl O<|Qu (us:=Xt (nS) (nS) (nS) 0) O λb8 w7 hn ho hp =>
  xl rfl<|Qo (us:=[c0,c1,c2,c3,sa,.int .i64 (UP c.cel).st,sm,se,o]) hp O O O O ⟨G.1,G.2.1,G.2.2.1,G.2.2.2.1,E.al.one,O,E.mr.one,E.ed.one,G.2.2.2.2.2.2.2.1,Z⟩ λw8 hq hr =>
  Qe ?_
 have Y:Step [] w6 w8:=hn.then1 hq ho;refine Qc<|x (Qa O)<|x (ZB (us:=[sa,.int .i64 (UP c.cel).st,sm,se]) hr O O O)<|Qb<|xl O<|Qo (us:=[sa,.int .i64 (UP c.cel).st,sm,se]) (he.ext ((H.trans hg).trans Y)) O O O O ⟨E.al.one,O,E.mr.one,E.ed.one,Z⟩ λw9 hi hs=>x Qf <|
  xe ?_
 refine Qk ⟨[.agg [sa,.int .i64 (UP c.cel).st,sm,se].toArray,.int .i64 0],⟨⟨_,O,Qw O (hs.at (L:=[]) (by simp)).cells⟩,rfl,Z⟩,((hf.trans hg).trans Y).then1 hi (by omega),_,rfl,?_⟩;have hF:Y2 V.heap.size w6.heap (.agg #[sa,.int .i64 (UP c.cel).st,sm,se]) (UP c.cel):=⟨sa,sm,se,O,λL hL=>hh O L hL⟩;exact(Yl (hF.ext Y) (by omega) hi).mono (by have:=U.size;omega)
theorem QkZ {w:World}{va vm ve va' vm' ve':Value}{a E:QO}{b:Nat}(G:QT w.heap b 50 ([Za ⟨va,vm,ve,a⟩,Za ⟨va',vm',ve',E⟩]:List (LV)).flatten)(h:Zp [] w.heap va vm ve a)(h':Zp [] w.heap va' vm' ve' E):
  YX [] w.heap (.slice (some ⟨b,0,none⟩) 2 2) [⟨va,vm,ve,a⟩,⟨va',vm',ve',E⟩]:=
 ⟨G.arr (by simp) rfl (by omega) (Lt 2),λp hp=>by
  rcases Lc.1 hp with rfl|hp
  ·exact h
  rw[Lb.1 hp];exact h'⟩
theorem QkU {va vm ve va' vm' ve':Value}{a E:QO}(h:Q2 a)(h':Q2 E):∀p∈[(⟨va,vm,ve,a⟩:AV),⟨va',vm',ve',E⟩],Q2 p.a:=λp hp=>by
 rcases Lc.1 hp with rfl|hp
 ·exact h
 rw[Lb.1 hp];exact h'
theorem QhK (c:ZA)(fg:Bool):cmE c fg=if X7 c≠0 then X7 c else if suE c≠0 then suE c else lgE (own c fg) (K9 c) 1:=by
 unfold cmE;by_cases h:X7 c≠0
 ·rw[if_pos h,if_pos h]
 rw[if_neg h,if_neg h];have E:=Lm.1 h;have G:cdE c=0:=by unfold cdE;rw[if_neg h];exact j6 E
 have H:ccE c=0:=by unfold ccE;rw[if_neg (not_not_intro G)];exact(qh E).1
 rw[if_neg (show ¬(fg=true∧ccE c≠0) from λe=>e.2 H)]
set_option maxRecDepth 4096 in
set_option maxHeartbeats 8000000 in
theorem UR (fg:Bool){L:LN}{w:World}{c:CL}(T:ZJ L w.heap c)(h2:Kb w 4096):
  QE prog 11 [c.val,.bool fg] w λr w'=>Step [] w w'∧∃v e,r=.tuple #[v,.bool e,.int .i64 (cmE c.cel fg)]∧(cmE c.cel fg≠0→v=Q0∧e=false)∧(cmE c.cel fg=0→e=(cmW (own c.cel fg) (K9 c.cel)).isNone∧(cmW (own c.cel fg) (K9 c.cel)=none→v=Q0)∧∀u,cmW (own c.cel fg) (K9 c.cel)=some u→Qt 3 w.heap.size w' v u∧u.length≤17000000):=by
 have h:=T.up (L':=[]) (by simp);have hp:=QhK c.cel fg;refine Zb (cmE c.cel fg) λE hE=>?_;rw[hE]at hp ⊢;refine QE.of_W func11 O ntmps11 results11 (by simp) ?_;refine Qc<|xl O<|QQ (us:=c.cells) O λb2 w1 h3 m0 h4=>x Qf<|x Qf<|Qe<|Qc<|x (Qn h4 O O)<|xl O<|xf<|(VU (h.ext h3) (h2.ext h3)).mono ?_;rintro r2 w2 ⟨gy,us,rfl,gz,g0,g1⟩
 refine Qb<|x (Qj O O)<|x (Qj O O)<|xl O<|Qu (us:=QaV) O λb7 w3 g2 g3 g4=>xl O<|Qo (us:=us) g4 O O gz O g0 λw4 g5 h5 =>
  Qe ?_
 have hV:Step [] w2 w4:=g2.then1 g5 g3;have h6:=gy.trans hV;have hi:=h3.trans h6;refine Qg<|Qc<|Qb<|x (Q7 O O)<|xe<|Q4 rfl (λV=>?_) (λV=>?_)
 ·rw[if_pos V]at hp;subst hp;refine Qc<|Qb<|x Qf<|x Qf<|Qe ?_;exact Qk ⟨[Q0,.bool false,.int .i64 (X7 c.cel)],⟨O,O,O,Z⟩,hi,Q0,false,O,λ_=>⟨O,O⟩,λT=>absurd T V⟩
 rw[if_neg V]at hp;have he:=Lm.1 V;obtain⟨t,ht,hj,hT⟩:=g1 he;subst ht;have hn:zL [] w4.heap t:=(hT [] (by simp)).ext hV;obtain⟨_,hW⟩:=JK he;have h7:=qh he;have h8:Q2 (own c.cel fg):=by
  unfold own;split
  ·exact h7.2.2.1
  exact hW
 refine Qi<|Qc<|x (Qn (h4.ext h6) O O)<|xl O<|xf<|(Js (h.ext hi) (h2.ext hi)).mono ?_;rintro r5 w5 ⟨g6,sa,sm,se,rfl,h9,_,g7⟩;refine Zb (if Y1 c.cel=0 then(K9 c.cel).st else 0) λM hM=>?_
 rw[hM];refine Qb<|x (Qj O O)<|x (Qj O O)<|xl O<|Qu (us:=[nS,.int .i64 0,nS,nS]) O λb8 w6 g8 g9 ka=>xl O<|Qo (us:=[sa,.int .i64 M,sm,se]) ka O O O O ⟨h9.1,O,h9.2.1,h9.2.2.1,Z⟩ λw7 kb hX =>
  Qe ?_
 have hY:Step [] w5 w7:=g8.then1 kb g9;have U:=g6.trans hY;have hA:=hi.trans U;refine Qg<|Qc<|Qb<|x (Q7 O O)<|xe<|Q4 rfl (λY=>?_) (λY=>?_)
 ·rw[if_pos Y]at hp;subst hp;refine Qc<|Qb<|x Qf<|x Qf<|Qe ?_;exact Qk ⟨[Q0,.bool false,.int .i64 (suE c.cel)],⟨O,O,O,Z⟩,hA,Q0,false,O,λ_=>⟨O,O⟩,λT=>absurd T Y⟩
 rw[if_neg Y]at hp;have hB:=Lm.1 Y;have hD:=VH hB;have hZ:E=0:=hp.trans (Kq h8 hD (.inl O));have kc:M=(K9 c.cel).st:=by rw[←hM,if_pos (show Y1 c.cel=0 from hB)]
 have ga:Zp [] w7.heap sa sm se (K9 c.cel):=(g7 hB [] (by simp)).ext hY;refine Qi<|Qc<|x (Qa O)<|x (ZB (us:=[t.va,.int .i64 t.A.st,t.vm,t.ve]) (h5.ext U) O O O)<|xl O<|Qu (us:=[nS,.int .i64 0,nS,nS]) O λI w8 ke kf kg=>xl O<|Qo (us:=[t.va,.int .i64 t.A.st,t.vm,t.ve]) kg O O O O ⟨hn.a.al.one,O,hn.a.mr.one,hn.a.ed.one,Z⟩ λw9 kh hF =>
  xe ?_
 have J:Step [] w7 w9:=ke.then1 kh kf;have hG:=hA.trans J;have ki:=hX.ext J;have hH:zL [] w9.heap t:=(hn.ext U).ext J;have m1:=ga.ext J;have m2:=hF.lt;have kj:b8∉[I]:=by have:=hX.lt;simp only[List.mem_singleton];omega
 have kk:Zp [I] w9.heap sa sm se (K9 c.cel):=(ga.up (L':=[I]) (λb hb=>.inr (by simp only[List.mem_singleton]at hb;omega))).ext J;refine QX (α:=Value×Value×Value) [(4,6),(10,11),(35,55)] (λz=>[(4,Q0)]) (λz w'=>Step [I] w9 w'∧QT w'.heap I 50 [z.1,.int .i64 (own c.cel fg).st,z.2.1,z.2.2]∧Zp [] w'.heap z.1 z.2.1 z.2.2 (own c.cel fg)) (by rfl) ?_ ?_
 ·refine Qc<|Qb<|xe<|QY O (λhI=>?_) (λhI=>?_)
  rotate_left
  ·refine Qi ?_;have e:own c.cel fg=t.A:=by unfold own;rw[hI,hj.A];rfl
   rw[e];exact⟨(t.va,t.vm,t.ve),La,Step.refl _ _,hF,hH.a⟩
  have e:own c.cel fg=ccA c.cel:=by unfold own;rw[if_pos hI]
  rw[e];refine Qc<|x (Qn (h5.ext (U.trans J)) O O)<|x (Qn (h4.ext ((h6.trans U).trans J)) O O)<|xl O<|xf<|(zm hH (h.ext hG) hj.A he).mono ?_;rintro m3 kn ⟨ko,_,rfl,va,vm,ve,rfl,kp⟩;have hr:=kp [] (by simp)
  refine Qb<|x (Qj O O)<|x (Qj O O)<|xl O<|Qu (us:=VP) O λb10 m4 kq kr kt=>xl O<|Qo (us:=[va,.int .i64 (UP c.cel).st,vm,ve]) kt O O O O ⟨hr.al.one,O,hr.mr.one,hr.ed.one,Z⟩ λku kv kw =>
   Qe ?_
  have gb:Step [] kn ku:=kq.then1 kv kr;have gc:=ko.trans gb;refine Qg<|Qc<|Qb<|x (Vk O O O)<|xe<|ZO O<|Qi ?_;have kx:=QkU (va:=t.va) (vm:=t.vm) (ve:=t.ve) (va':=va) (vm':=vm) (ve':=ve) (a:=t.A) (by rw[hj.A];exact hW) h7.2.1
  refine Qc<|x (Qa O)<|x (ZB (us:=[t.va,.int .i64 t.A.st,t.vm,t.ve]) (h5.ext ((U.trans J).trans gc)) O O O)<|x (Qn kw O O)<|xl O<|QF (us:=[Za ⟨t.va,t.vm,t.ve,t.A⟩,Za ⟨va,vm,ve,UP c.cel⟩]) O O (by decide) (by exact(by decide:2*4≤1000000)) ⟨O,O,O,O,Z⟩ λm5 m6 ge m7 kz=>?_;have ha:=gc.trans ge;have k0:=hG.trans ha
  have hC:=VB (QkZ kz (hH.a.ext ha) (hr.ext (gb.trans ge))) kx (h2.ext k0);simp only[List.map_cons,List.map_nil,hj.A]at hC;rw[h7.1]at hC;refine xl O<|xf<|hC.mono ?_;rintro m8 k4 ⟨gg,vc,rfl,_,k5⟩;obtain⟨ca,cm,ce,rfl,k6⟩:=k5 O;have m9:=ha.size
  have hs:Zp [I] k4.heap ca cm ce (ccA c.cel):=k6 [I] (λb hb=>by simp only[List.mem_singleton]at hb;omega);refine Qb<|x (Qj O O)<|x (Qj O O)<|xl O<|Qo (us:=[ca,.int .i64 (ccA c.cel).st,cm,ce]) (hF.ext (ha.trans gg)) O O O O ⟨hs.al.one,O,hs.mr.one,hs.ed.one,Z⟩ λpa gh k7=>Qe<|Qc<|Qb<|x (Vk O O O)<|xe<|ZO O<|Qi ?_
  exact⟨(ca,cm,ce),La,((ha.trans gg).any (L:=[I])).trans' gh,k7,(hs.st gh).up (λb hb=>(by cases hb))⟩
 rintro⟨oa,om,oe⟩ g gi ⟨hJ,gj,gk⟩;simp only[]at gj gk;have k8:Step [] w gi:=hG.then1 hJ (by have:=hA.size;omega);have k9:=ki.step hJ kj;have ma:Zp [] gi.heap sa sm se (K9 c.cel):=(kk.st hJ).up (λb hb=>(by cases hb))
 refine Qc<|Qe<|Qg<|Qc<|xl O<|QF (us:=[[.int .i64 1],[.int .i64 2]]) O O (by decide) (by simp) ⟨rfl,rfl,rfl,rfl,Z⟩ λmc gl gm pc mf=>?_;have gn:QH [] gl.heap (.slice (some ⟨mc,0,none⟩) 2 2) [1,2]:=mf.arr (by simp) (n:=2) (cap:=2) (sz:=1) rfl (by omega) (Lt _);refine x (Qr gn O)<|Qb<|xe ?_;have mg:=k8.trans gm
 refine Qh<|QA (α:=Nat×Value×Option (LI)) [(4,6),(13,16),(58,84)] (λz=>[(4,z.2.1),(5,.bool z.2.2.isNone),(58,.int .i64 z.1)]) (λz w'=>z.1≤2∧Step [] gl w'∧z.2.2=cmK (own c.cel fg) (K9 c.cel) z.1∧(z.2.2=none→z.2.1=Q0)∧∀u,z.2.2=some u→Qt 3 w.heap.size w' z.2.1 u∧u.length≤17000000) (λz=>2 - z.1) (by rfl) (0,Q0,none) ⟨O,O,O,Z⟩
  ⟨Ll _,Step.refl _ _,O,λ_=>O,λu h=>by cases h⟩ ?_
 rintro⟨k,v,o⟩ g hK ⟨hk,hc,ho,hf,hv⟩;simp only[]at hk ho hf hv;have hL:=mg.trans hc;have hw:=gm.trans hc;refine Qc<|x (Qz O O)<|xe<|Qg<|QC O (λhN=>?_) (λhN=>?_)
 ·refine Qy ?_;have mh:k=2:=by have mj:¬(k:Int)<(2:Nat):=hN;omega
  rw[mh,Qoi]at ho;refine Qc<|Qb<|Qb<|x Qf<|x Qf<|Qe ?_;exact Qk ⟨[v,.bool o.isNone,.int .i64 0],⟨O,O,O,Z⟩,hL,v,o.isNone,by rw[hZ];rfl,λT=>absurd hZ T,λ_=>by rw[←ho];exact⟨O,hf,hv⟩⟩
 have H:k<[(1:Int),2].length:=by have mj:(k:Int)<(2:Nat):=hN;simp;omega
 have go:=k12 H;have hg:cmK (own c.cel fg) (K9 c.cel) (k+1)=cm1 (cmK (own c.cel fg) (K9 c.cel) k) (lgq (own c.cel fg) (K9 c.cel) ([(1:Int),2][k]'H)):=by
  unfold cmK;rw[Le H,Mn];rfl
 refine Qi<|Qg<|Qh<|Qc<|xii (i:=k) (gn.ext hc) O O H λpd gq=>?_;refine Zb ([(1:Int),2][k]'H) λkd mo=>?_;rw[mo]at gq go hg;refine x (Qv gq O)<|Qe ?_;have mq:=Vn (gk.ext hw) (ma.ext hw) kd
 have hEq':QE prog 41 [.agg #[oa,.int .i64 (own c.cel fg).st,om,oe],.agg #[sa,.int .i64 M,sm,se],.int .i64 kd] hK λr w'=>Step [] hK w'∧∃v e,r=.tuple #[v,.bool e,.int .i64 0]∧(match lgq (own c.cel fg) (K9 c.cel) kd with|none=>v=Q0∧e=true|some u=>e=false∧Qt 3 hK.heap.size w' v u):=by
  rw[kc];refine mq.mono ?_;rintro r w' ⟨a1,v,e,a2,a3⟩;have hz:=Kq h8 hD go;rw[hz]at a2;exact⟨a1,v,e,a2,a3 hz⟩
 refine Qc<|x (Qn (gj.ext hw) O O)<|x (Qn (k9.ext hw) O O)<|Qb<|xl O<|xf<|hEq'.mono ?_;rintro pf hh ⟨hO,v',e',rfl,hm⟩;have pg:=hL.trans hO;have ms:=hL.size;refine Qb<|x (Qj O O)<|x (Qj O O)<|x (Qj O O)<|x Qf<|x Qf<|Qe<|Qg<|Qc<|Qb<|x (Q7 O O)<|xe<|Q4 rfl (λgr=>?_) (λgr=>?_)
 ·exact absurd O gr
 refine Qi<|Zb (lgq (own c.cel fg) (K9 c.cel) kd) λq hq=>?_;rw[hq]at hm hg;have gs:∀u,q=some u→u.length≤17000000:=λu hu=>QdG h8 hD (hq.trans hu);have gt:e'=q.isNone:=by
  cases q with
  | none=>exact hm.2
  | some u=>exact hm.1
 have gu:∀u,q=some u→Qt 3 w.heap.size hh v' u:=λu hu=>by
  subst hu;exact Zc hm.2 ms
 have hy:∀u,o=some u→Qt 3 w.heap.size hh v u∧u.length≤17000000:=λu hu=>⟨Qs (hv u hu).1 hO,(hv u hu).2⟩;rw[←ho]at hg;refine QX (α:=Bool) [(73,82)] (λz=>[(82,.bool z)]) (λz w'=>Step [] hh w'∧(z=true→∃u,q=some u∧cm1 o q=some u)∧(z=false→cm1 o q=o)) (by rfl) ?_ ?_
 ·refine Qx<|Qb<|xB (Zq O) (λhP=>?_) (λhP=>?_)
  ·have mt:q.isNone=false:=by rw[←gt];simpa using hP
   obtain⟨u,hu⟩:∃u,q=some u:=by cases q with|none=>cases mt|some u=>exact⟨u,rfl⟩
   refine Qb<|xB Qm (λhQ=>?_) (λhQ=>?_)
   ·have hf:o=none:=by cases o with|none=>rfl|some u=>cases hQ
    refine Qb<|xs O<|xs O<|xs O<|x (Qq O)<|x (Qq O)<|xe ?_;exact⟨true,La,Step.refl _ _,λ_=>⟨u,hu,by rw[hf,hu];rfl⟩,(λh=>by cases h)⟩
   obtain⟨G,h1⟩:∃G,o=some G:=by cases o with|none=>cases hQ|some u=>exact⟨u,rfl⟩
   have mu:QH [] hh.heap v' u:=Qt.ints (gu u hu) (by have:=gs u hu;omega) (by simp);have mv:QH [] hh.heap v G:=Qt.ints (hy G h1).1 (by have:=(hy G h1).2;omega) (by simp);refine Qb<|Qb<|Qb<|xl O<|xf<|(QgK mu mv).mono ?_;rintro ph pj ⟨rfl,mw⟩;refine x (Qq O)<|x (Qq O)<|xe<|⟨less u G,La,mw,λhl=>⟨u,hu,?_⟩,λhl=>?_⟩
   ·rw[hu,h1];show(if less u G=true then some u else some G)=_;rw[if_pos hl]
   rw[hu,h1];show(if less u G=true then some u else some G)=_;rw[if_neg (by rw[hl];simp)]
  have mx:q=none:=by
   have gv:e'=true:=by simpa using hP
   rw[gt]at gv;cases q with|none=>rfl|some u=>cases gv
  refine Qb<|xs O<|xs O<|xs O<|xs O<|xs O<|xs O<|x (Qq O)<|xe ?_;exact⟨false,La,Step.refl _ _,(λh=>by cases h),λ_=>by rw[mx];rfl⟩
 rintro zb g pn ⟨hR,my,mz⟩;have gx:=hO.trans hR;refine QY rfl (λhS=>?_) (λhS=>?_)
 ·obtain⟨u,hu,hU⟩:=my hS;refine Qx<|Qb<|x Qf<|Qe<|Qx<|QM O O<|Qb<|xe ?_;exact⟨(k+1,v',some u),by simp only[];simp at H;omega,⟨O,O,O,Z⟩,by simp at H;omega,hc.trans gx,by simp only[];rw[hg,hU],(λh=>by cases h),λu' h'=>by
   have:u=u':=Option.some.inj h';subst this;exact⟨Qs (gu u hu) hR,gs u hu⟩⟩
 have hU:=mz hS;refine Qi<|Qx<|QM O O<|Qb<|xe ?_;exact⟨(k+1,v,o),by simp only[];simp at H;omega,⟨O,O,O,Z⟩,by simp at H;omega,hc.trans gx,by simp only[];rw[hg,hU],hf,λu' h'=>⟨Qs (hy u' h').1 hR,(hy u' h').2⟩⟩
theorem Qc3 {L:LN}{w:World}{c:CL}(E:ZJ L w.heap c)(G:Kb w 4096):
  QE prog 11 [c.val,.bool false] w λr w'=>Step [] w w'∧∃v e,r=.tuple #[v,.bool e,.int .i64 (cmE c.cel false)]∧(cmE c.cel false=0→e=(cmW (Xe c.cel) (K9 c.cel)).isNone):=
 (UR false E G).mono λ_ _ ⟨h1,v,e,h2,_,h3⟩=>⟨h1,v,e,h2,λh=>(h3 h).1⟩
theorem Qmi {H:Array Obj}{b t:Nat}{us E:LV}{v:Value}(G:QT H b t us)(h:v=.agg us.toArray)(h':v=.agg E.toArray):QT H b t E:=by
 have h1:Value.agg us.toArray=.agg E.toArray:=h.symm.trans h';have h2:us=E:=by
  have h3:=Value.agg.inj h1;simpa using congrArg Array.toList h3
 rw[←h2];exact G
set_option maxHeartbeats 4000000 in
theorem z6 {w:World}{c:CL}(hc:ZJ [] w.heap c)(hq:Kb w 4096)(I:X7 c.cel=0):
  QE prog 26 [c.val] w λr w'=>Step [] w w'∧∃va vb,r=.tuple #[va,vb]∧Y2 w.heap.size w'.heap va (UP c.cel)∧Y2 w.heap.size w'.heap vb (ccA c.cel):=by
 have hE:=ZX (V9 I);have hG:Vh (Xe c.cel) [] (unc c.cel.ev)=0:=j6 I;have hS:J4 (Xe c.cel) [] (unc c.cel.ev)=UP c.cel:=rfl;have hr:=qh I;have hH:=(JK I).2;refine QE.of_W func26 O ntmps26 results26 (by simp) ?_;refine Qc<|xl O<|QQ (us:=c.cells) O λb1 w1 hs gm ht=>xl O<|Qu (us:=VP) O λb2 w2 ha gn hu=>xl O<|Qu (us:=VP) O λb3 w3 hb go hv=>xe ?_;have he:=(hs.trans ha).trans hb
 have gq:=hs.size;have gr:=ha.size;have gs:=hu.lt;have gt:=hv.lt;refine Qc<|x (Qn (ht.ext (ha.trans hb)) O O)<|xl O<|xf<|(UQ (hc.ext he) (hq.ext he)).mono ?_;rintro r4 w4 ⟨hf,vT,rfl,_,hI⟩;have hJ:=hI I;obtain⟨ta,tm,te,rfl,hT⟩:=hJ;have J:=hT [] (by simp)
 refine Qb<|x (Qj O O)<|x (Qj O O)<|xl O<|Qu (us:=VP) O λb4 w5 hK hM hN=>xl O<|Qo (us:=[ta,.int .i64 (Xe c.cel).st,tm,te]) hN O O O O ⟨J.al.one,O,J.mr.one,J.ed.one,Z⟩ λw6 hO hw =>
  Qe ?_
 have hg:Step [] w4 w6:=hK.then1 hO hM;have hm:=hf.trans hg;have hn:=he.trans hm;refine Qc<|x (Qa O)<|x (Qd (ht.ext ((ha.trans hb).trans hm)) O O)<|xl O<|xf<|(UD (hc.ev.ext hn)).mono ?_;rintro r7 w7 ⟨hh,vu,rfl,hU⟩;rw[if_pos (show XM c.ev=0 from hE.e0)]at hU;have hU:Qt 3 w6.heap.size w7 vu (unc c.cel.ev):=hU
 have hP:(unc c.cel.ev).length≤1099511627776:=LJ (KQ _ c.cel.ev 0) hc.ev.arr.le;have hy:=hg.trans hh;have hD:=Vc (J.ext hy) (XJ [] w7.heap) (Qt.ints (L:=[]) hU hP (by simp));rw[hG,hS,if_pos rfl]at hD;refine Qb<|x (Qj O O)<|x (Qj O O)<|x Qf<|Qe<|Qc<|x (Qn (hw.ext hh) O O)<|Qb<|xl O<|xf<|hD.mono ?_;rintro r8 w8 ⟨hz,c0,c1,c2,c3,sa,sm,se,o,rfl,T,_,h1⟩
 have E:=h1 O [] (by simp);refine Qb<|x (Qj O O)<|x (Qj O O)<|xl O<|Qu (us:=Xt (nS) (nS) (nS) 0) O λb8 w9 hQ hR hV =>
  xl rfl<|Qo (us:=[c0,c1,c2,c3,sa,.int .i64 (UP c.cel).st,sm,se,o]) hV O O O O ⟨T.1,T.2.1,T.2.2.1,T.2.2.2.1,E.al.one,O,E.mr.one,E.ed.one,T.2.2.2.2.2.2.2.1,Z⟩ λhW hY h2 =>
  Qe ?_
 have hi:Step [] w8 hW:=hQ.then1 hY hR;have hZ:=hz.trans hi;have U:=hh.trans hZ;have ga:=QkU (va:=ta) (vm:=tm) (ve:=te) (va':=sa) (vm':=sm) (ve':=se) hH hr.2.1
 refine Qc<|x (Qn (hw.ext U) O O)<|x (Qa O)<|x (ZB (us:=[sa,.int .i64 (UP c.cel).st,sm,se]) h2 O O O)<|xl O<|QF (us:=[Za ⟨ta,tm,te,Xe c.cel⟩,Za ⟨sa,sm,se,UP c.cel⟩]) O O (by decide) (by exact(by decide:2*4≤1000000)) ⟨O,O,O,O,Z⟩ λgu h3 G gv gb=>?_;have ho:=(hn.trans U).trans G
 have hC:=VB (QkZ gb (((J.ext hg).ext U).ext G) (E.ext (hi.trans G))) ga (hq.ext ho);simp only[List.map_cons,List.map_nil]at hC;rw[hr.1]at hC;refine xl rfl<|xf<|hC.mono ?_;rintro gx h4 ⟨hp,vc,rfl,_,gc⟩;have ge:Y2 h3.heap.size h4.heap vc (ccA c.cel):=gc O;obtain⟨xa,xm,V,rfl,hX⟩:=ge;have H:=hX [] (by simp)
 have h5:=((hg.trans U).trans G).trans hp;have h6:=G.trans hp;refine Qb<|x (Qj O O)<|x (Qj O O)<|xl O<|Qo (us:=[xa,.int .i64 (ccA c.cel).st,xm,V]) (hv.ext (hf.trans h5)) O O O O ⟨H.al.one,O,H.mr.one,H.ed.one,Z⟩ λh7 Y h8=>xe ?_;have gy:=hm.size;have gz:=U.size;have g0:=hi.size;have g1:=hh.size;have g2:=hy.size;have g3:=hz.size
 have g4:=hf.size;have g5:=he.size;have gg:b8∉[b3]:=by simp only[List.mem_singleton];omega
 have h9:b2∉[b3]:=by simp only[List.mem_singleton];omega
 have hA:b3∉[b2]:=by simp only[List.mem_singleton];omega
 have gh:=(h2.ext h6).step Y gg;have gi:=((hu.ext hb).ext (hf.trans h5)).step Y h9;refine Qg<|QV (Step [b2] h7) [(0,true),(1,true),(2,true),(3,false),(4,false)] mixed (by rfl) (by kernel_rfl) (Step.drew _ _) ?_
 refine p (λ_=>Qa O)<|pq (λ_ hc=>ZB (us:=[sa,.int .i64 (UP c.cel).st,sm,se]) (gh.step hc (by simp only[List.mem_singleton];omega)) O O O)<|pq (λ_ hc=>Qn (h8.step hc hA) O O) <|
  pk<|Qo (us:=[sa,.int .i64 (UP c.cel).st,sm,se]) (gi.ext (Step.drew _ _)) O O O O ⟨E.al.one,O,E.mr.one,E.ed.one,Z⟩ λgj hB gk=>⟨((Step.drew _ _).any).trans' hB,?_⟩
 have hj:Step [b2] h7 gj:=((Step.drew _ _).any).trans' hB;refine pkl (hl:=by kernel_rfl)<|Qo (us:=[xa,.int .i64 (ccA c.cel).st,xm,V]) (h8.step hj hA) O O O O ⟨H.al.one,O,H.mr.one,H.ed.one,Z⟩ λg6 hk gl=>pe ?_
 refine Qk ⟨[.agg [sa,.int .i64 (UP c.cel).st,sm,se].toArray,.agg [xa,.int .i64 (ccA c.cel).st,xm,V].toArray],⟨⟨_,O,Qw O ((gk.step hk h9).at (L:=[]) (by simp)).cells⟩,⟨_,rfl,Qw rfl (gl.at (L:=[]) (by simp)).cells⟩,Z⟩,(((ho.trans hp).then1 Y (by omega)).then1 hj (by omega)).then1 hk (by omega),_,_,rfl,?_,?_⟩
 ·have hF:Y2 w7.heap.size w8.heap (.agg #[sa,.int .i64 (UP c.cel).st,sm,se]) (UP c.cel):=⟨sa,sm,se,O,λL hL=>h1 O L hL⟩;exact(Yl (Yl (Yl (hF.ext (hi.trans h6)) (by omega) Y) (by omega) hj) (by omega) hk).mono (by omega)
 have hF:Y2 h3.heap.size h4.heap (.agg #[xa,.int .i64 (ccA c.cel).st,xm,V]) (ccA c.cel):=⟨xa,xm,V,O,hX⟩;have g7:=ho.size;have g8:=hn.size;have g9:=G.size;exact(Yl (Yl (Yl hF (by omega) Y) (by omega) hj) (by omega) hk).mono (by omega)
def pst (v:Int)(a:QO)(x:Int):Option Int:=if v∈a.al then eget a.ed x v else some x
def nx (v:Int)(A:Nat→QO)(x:Nat→Int)(i:Nat):Int:=(pst v (A i) (x i)).getD 0
end Go.Proofs.YtjcgijbhaemldaaGreatDoor
namespace Go.Lg
section
variable {P:Program}{f:Fr}{w:World}{d:Option Nat}{ty:Nat}{ps:String}{af:Array Edge}{gd:Option (Nat×Bool)}
abbrev i2 (p:Int×Int):LV:=[.int .i64 p.1,.int .i64 p.2]
abbrev i5 (a:ByteArray)(b c e:Bool)(i:Int):LV:=[.string a,.bool b,.bool c,.bool e,.int .i64 i]
end
end Go.Lg
namespace Go.Proofs.YtjcgijbhaemldaaGreatDoor
open Go.Lg
open Go.Sort
open Go.Proofs.Tryz
theorem VK (m:Nat)(hm:m<256)(w:World):QE prog 32 [.int .u8 m] w λr w'=>Step [] w w'∧Qt 3 w.heap.size w' r (setK m 5):=by
 refine QE.of_W func32 O ntmps32 results32 (by simp) ?_;refine Qc<|Qe<|Qc<|Qe<|Qg<|Qc<|Qe<|Qh<|QA (α:=Nat×Value) [(3,17)] (λz=>[(3,z.2),(4,.int .i64 z.1)]) (λz w'=>z.1≤5∧Step [] w w'∧Qt 3 w.heap.size w' z.2 (setK m z.1)) (λz=>5 - z.1) (by rfl) (0,nS) ⟨O,O,Z⟩
  ⟨Ll _,Step.refl _ _,QP _ _ _ _⟩ ?_
 rintro⟨k,v⟩ g w1 ⟨hk,G,E⟩;simp only[]at hk E;have hg:=YH m k;have hh:=G.size;refine Qg<|Qc<|Qb<|x (Qz O O)<|xe<|QC rfl (λU=>?_) (λU=>?_)
 ·refine Qy<|Qc<|Qb<|Qe ?_;have V:k=5:=by omega
  rw[V]at E;exact Qk ⟨[v],La,G,E⟩
 have J:k<5:=by omega
 have Y:m / 2 ^ k<256:=Nk (Nat.div_le_self _ _) hm;have H:=KL m k;refine Qi<|Qg<|Qh<|Qc<|Qb<|Qb<|x (UH (n:=k) O O (by show k≤8;omega))<|x (Vl (a:=m / 2 ^ k) (b:=1) (congrArg (Value.int .u8) (VJ m k)) O Y (by decide))<|x (Zl O O)<|xe<|QC rfl (λT=>?_) (λT=>?_)
 ·rw[if_neg (λe=>T (by rw[e];rfl))]at H;refine Qi<|Qx<|Qb<|QM O O<|Qe ?_;exact⟨(k+1,v),by simp only[];omega,⟨O,O,Z⟩,J,G,by simp only[];rw[H];exact E⟩
 rw[if_pos (by omega)]at H;refine Qx<|Qb<|Qb<|xl O<|QF (us:=[[.int .i64 k]]) O O (by decide) (by simp) ⟨rfl,rfl,Z⟩ λb15 w2 I hi ha=>?_;have hc:=Qs E I;have hj:=I.size;refine xl rfl<|Q5 (news:=[.int .i64 k]) (L:=[]) hc O O O (ha.at (by simp)) (by simp[Value.oneCell']) (by omega) (by omega) λv3 w3 he hf hl =>
  Qe ?_
 have hge:=Qp E;refine Qx<|Qb<|QM O O<|Qe<|⟨(k+1,v3),by simp only[];omega,⟨O,O,Z⟩,J,(G.trans I).then hf (λb hb=>.inr (hge b hb).1),?_⟩;simp only[];rw[H];exact Qt.snoc he
end Go.Proofs.YtjcgijbhaemldaaGreatDoor
namespace Go.Lg
section
variable {P:Program}{f:Fr}{w:World}{d:Option Nat}{ty:Nat}{ps:String}{af:Array Edge}{gd:Option (Nat×Bool)}
theorem jw {t E e bys:Nat}{z:Value}[h:Sl P t e 1 bys z][he:Ik P e .u8][hd:St P E]{x:Operand}{b T n cap:Nat}(G:QT w.heap b T [.int .u8 (n:Int)])(I:n<256)(hx:ev f x=.slice (some ⟨b,0,none⟩) 1 cap):
  (execOp (ev f) ⟨d,.convert t E x,ty,ps,af,gd⟩).run P w=.ok (.value (.string ⟨#[UInt8.ofNat n]⟩)) w:=by
 refine U4 hx ?_;refine run_convert_bytes_back (P:=P) w t E e ⟨b,0,none⟩ cap [UInt8.ofNat n] h.u he.u hd.u (λj hj=>?_);have H:j=0:=by simp at hj;omega
 subst H;rw[Xg];have h1:(⟨b,0,none⟩:Addr).add 0=⟨b,0,none⟩:=rfl;rw[h1,G.cell];have h2:(UInt8.ofNat n).toNat=n:=by simp[UInt8.toNat_ofNat'];omega
 simp[h2]
end
end Go.Lg
namespace Go.Proofs.YtjcgijbhaemldaaGreatDoor
open Go.Lg
theorem Kt {N b:Nat}{w w':World}{v:Value}{l:List IV}(h:∀L:LN,(∀c∈L,c<N)→Y9 L w.heap v l)(hb:b<N)(hs:Step [b] w w'):∀L:LN,(∀c∈L,c<N)→Y9 L w'.heap v l:=λL E =>
 ((h (b::L) (λc hc=>(Lc.1 hc).elim (λe=>by omega) (E c))).st (hs.mono (by simp))).up (λc hc=>.inl (Lk _ hc))
theorem V3 {N b:Nat}{w w':World}{v:Value}{l:List Kc}(h:∀L:LN,(∀c∈L,c<N)→J9 L w.heap v l)(hb:b<N)(hs:Step [b] w w'):∀L:LN,(∀c∈L,c<N)→J9 L w'.heap v l:=λL E =>
 ((h (b::L) (λc hc=>(Lc.1 hc).elim (λe=>by omega) (E c))).st (hs.mono (by simp))).up (λc hc=>.inl (Lk _ hc))
theorem QiK {N b:Nat}{w w':World}{v:Value}{l:List XV}(h:∀L:LN,(∀c∈L,c<N)→qj L w.heap v l)(hb:b<N)(hs:Step [b] w w'):∀L:LN,(∀c∈L,c<N)→qj L w'.heap v l:=λL E =>
 ((h (b::L) (λc hc=>(Lc.1 hc).elim (λe=>by omega) (E c))).st (hs.mono (by simp))).up (λc hc=>.inl (Lk _ hc))
theorem Qbg (e:Kc):∀u∈Zh e,u.oneCell'=true:=by
 intro y hy;simp only[Zh,List.mem_cons,List.not_mem_nil,or_false]at hy;rcases hy with rfl|rfl|rfl|rfl|rfl <;> rfl
theorem U9 {q:IV}(h1:q.p.va.oneCell'=true)(h2:q.p.vm.oneCell'=true)(h3:q.p.ve.oneCell'=true):∀u∈Zi q,u.oneCell'=true:=by
 intro y hy;simp only[Zi,List.mem_cons,List.not_mem_nil,or_false]at hy;rcases hy with rfl|rfl|rfl|rfl|rfl
 ·rfl
 ·exact h1
 ·rfl
 ·exact h2
 exact h3
theorem VW {base N:Nat}{av:LN}{H:Array Obj}{q:IV}(h:∀L:LN,(∀b∈L,b<N)→Zp L H q.p.va q.p.vm q.p.ve q.p.a)(hb:base≤N)(G:∀b∈av,b<N):∀t∈QjN q,ZY base av H t.1 t.2.1 t.2.2.1 t.2.2.2:=by
 intro t ht;simp only[List.mem_cons,List.not_mem_nil,or_false]at ht;rcases ht with rfl|rfl|rfl
 ·exact ZY.of_lt (λL E=>(h L E).al) hb G
 ·exact ZY.of_lt (λL E=>(h L E).mr) hb G
 exact ZY.of_lt (λL E=>(h L E).ed) hb G
theorem Zv.full {L:LN}{H:Array Obj}{v:Value}{n sz:Nat}{cs:LV}(h:Zv L H v n sz cs)(E:0<n):∃a cap,v=.slice (some a) n cap∧At L H a cs:=by
 rcases h.2.2 with⟨_,h2⟩|⟨a,cap,h1,_,h3⟩
 ·omega
 exact⟨a,cap,h1,h3⟩
structure Ug (base:Nat)(w:World)(vc va:Value)(co:List IV)(al:LI):Prop where
 c:w.ownsRow base 92 5 vc co.length (co.flatMap Zi)
 a:Qt 3 base w va al
 dj:Dj vc va
 each:∀q∈co,∀t∈QjN q,ZY base (ob vc++ob va) w.heap t.1 t.2.1 t.2.2.1 t.2.2.2
section
variable {base:Nat}{w w':World}{vc va vc' va':Value}{co:List IV}{al:LI}
theorem Ug.nil:Ug base w (nS) (nS) [] []:=⟨QP _ _ _ _,QP _ _ _ _,Dj.nil _,λq hq=>by cases hq⟩
theorem Ug.ext (h:Ug base w vc va co al)(hs:Step [] w w'):Ug base w' vc va co al:=⟨Qs h.c hs,Qs h.a hs,h.dj,λq hq t ht=>(h.each q hq t ht).ext hs⟩
theorem Ug.low {X:LN}(h:Ug base w vc va co al)(hs:Step X w w')(E:∀b∈X,b<base):Ug base w' vc va co al :=
 ⟨Ql h.c hs (λb hb hm=>by have:=(Qp h.c b hb).1;have:=E b hm;omega),Ql h.a hs (λb hb hm=>by have:=(Qp h.a b hb).1;have:=E b hm;omega),h.dj,λq hq t ht=>(h.each q hq t ht).low hs E⟩
theorem Ug.avlt (h:Ug base w vc va co al):∀b∈ob vc++ob va,b<w.heap.size:=λb hb=>(Lq.1 hb).elim (Q3 h.c b) (Q3 h.a b)
theorem Ug.setC {q:IV}(h:Ug base w vc va co al)(hq:∀t∈QjN q,ZY base (ob vc++ob va) w.heap t.1 t.2.1 t.2.2.1 t.2.2.2)(J:w'.ownsRow base 92 5 vc' (co.length+1) (co.flatMap Zi++Zi q))
  (hs:Step (ob vc) w w') (E:∀b∈ob vc',b∈ob vc∨w.heap.size≤b):Ug base w' vc' va (co++[q]) al:=by
 have G:Step (ob vc++ob va) w w':=hs.mono (λb hb=>Lq.2 (.inl hb));have H:∀b∈ob vc'++ob va,b∈ob vc++ob va∨w.heap.size≤b:=λb hb=>by
  rcases Lq.1 hb with hb|hb
  ·exact(E b hb).imp (λh=>Lq.2 (.inl h)) id
  exact .inl (Lq.2 (.inr hb))
 refine⟨?_,Ql h.a hs (λb hb T=>h.dj b T hb),λb hb I=>?_,λd hd t ht=>?_⟩
 ·rw[Lj,LC];simpa using J
 ·rcases E b hb with h1|h1
  ·exact h.dj b h1 I
  have:=Q3 h.a b I;omega
 rcases Lq.1 hd with hd|hd
 ·exact(h.each d hd t ht).app G H
 simp only[List.mem_singleton]at hd;subst hd;exact(hq t ht).app G H
theorem Ug.setA {G:LI}(h:Ug base w vc va co al)(I:Qt 3 base w' va' G)(hs:Step (ob va) w w')(H:∀b∈ob va',b∈ob va∨w.heap.size≤b):Ug base w' vc va' co G:=by
 have J:Step (ob vc++ob va) w w':=hs.mono (λb hb=>Lq.2 (.inr hb));have T:∀b∈ob vc++ob va',b∈ob vc++ob va∨w.heap.size≤b:=λb hb=>by
  rcases Lq.1 hb with hb|hb
  ·exact .inl (Lq.2 (.inl hb))
  exact(H b hb).imp (λh=>Lq.2 (.inr h)) id
 refine⟨Ql h.c hs (λb hb E=>h.dj b hb E),I,λb hb E=>?_,λd hd t ht=>(h.each d hd t ht).app J T⟩;rcases H b E with h1|h1
 ·exact h.dj b hb h1
 have:=Q3 h.c b hb;omega
theorem Ug.itms {L:LN}(h:Ug base w vc va co al)(G:co.length≤1099511627776)(hm:∀q∈co,Uq q.nm)(E:∀b∈L,b<base):Y9 L w.heap vc co :=
 ⟨QW h.c G (λb hb H=>by have:=(Qp h.c b hb).1;have:=E b H;omega),λq hq=>⟨h.each q hq (q.p.va,q.p.a.al.length,1,q.p.a.al.map (.int .i64)) (by simp) L (λb hb=>.inl (E b hb)),h.each q hq (q.p.vm,q.p.a.mr.length,1,q.p.a.mr.map (.int .i64)) (by simp) L (λb hb=>.inl (E b hb)),h.each q hq (q.p.ve,q.p.a.ed.length,3,q.p.a.ed.flatMap QD) (by simp) L (λb hb=>.inl (E b hb))⟩,hm⟩
end
abbrev PtV:={r:LN // r.length=28∧∀n∈r,n<256}
abbrev Yp (r:PtV):LV:=bys r.1
theorem jB (r:PtV):(Yp r).length=28:=by show(bys r.1).length=28;unfold bys;rw[Lh,r.2.1]
structure LnV where
 ns:LN
 ct:Nat
 vr:Value
 rs:List PtV
 x0:Nat
 x1:Nat
 cl:Nat
abbrev Y5 (l:LnV):LV:=bys l.ns++[.int .u8 (l.ct:Int),l.vr,.int .u8 (l.x0:Int),.int .u8 (l.x1:Int),.int .u8 (l.cl:Int)]
structure LnA (L:LN)(H:Array Obj)(l:LnV):Prop where
 n:l.ns.length=81
 b:∀n∈l.ns,n<256
 ct:l.ct<256
 x0:l.x0<256
 x1:l.x1<256
 cl:l.cl<256
 r:Zv L H l.vr l.rs.length 28 (l.rs.flatMap Yp)
theorem ZG (ns:LN):(bys ns).length=ns.length:=by rw[bys,Lh]
theorem QgN {l:LnV}(h:l.ns.length=81):(Y5 l).length=86:=by rw[Y5,Lj,ZG,h];rfl
theorem Qa1 {l:LnV}(h:l.ns.length=81)(j:Nat):(Y5 l)[81+j]?=([.int .u8 (l.ct:Int),l.vr,.int .u8 (l.x0:Int),.int .u8 (l.x1:Int),.int .u8 (l.cl:Int)]:LV)[j]?:=by
 rw[Y5,Mf (by rw[ZG];omega),ZG,h,Mv]
def grN (ns:LN)(o:Nat):LN:=(ns.drop o).take 27
theorem Qcv {ns:LN}{o:Nat}(h:o+27≤ns.length):(grN ns o).length=27:=by unfold grN;simp;omega
theorem Qg4 {ns:LN}{o:Nat}(h:∀n∈ns,n<256):∀n∈grN ns o,n<256:=Qks h o 27
theorem Qnd {l:LnV}{o:Nat}(j:Nat)(u:Value)(h:(bys (grN l.ns o))[j]?=some u):(Y5 l)[o+j]?=some u:=by
 have h1:=Qeg (ns:=l.ns) (o:=o) (n:=27) j u h;have h2:=(LS.1 h1).1;rw[Y5,LZ h2];exact h1
theorem zz (ns:LN)(n:Nat):(bys ns).set 0 (.int .u8 (n:Int))=bys (ns.set 0 n):=by
 unfold bys;rw[NC]
theorem jo {ns:LN}{n:Nat}(h:∀m∈ns,m<256)(E:n<256):∀m∈ns.set 0 n,m<256:=λm hm=>by
 rcases Nn hm with h1|rfl
 ·exact h m h1
 exact E
theorem qA {ns:LN}{n:Nat}(h:0<ns.length):(ns.set 0 n).getD 0 0=n:=by simp[List.getD,h]
structure zO (a:QO):Prop where
 ok:Q2 a
 p:0<a.st
 s:a.st≤3
 c:∃a0:QO,Q2 a0∧0<a0.st∧a=YF a0
theorem QbB {a:QO}(E:Q2 a)(h:0<a.st):0<(YF a).st:=by
 have H:=(V0 E).1;show 0<((found a).length:Int);have G:(0:Int)∈found a:=by
  have key:∀(f i:Nat) (out:LI),(0:Int)∈out→(0:Int)∈yS a f i out:=by
   intro f;induction f with
   | zero=>intro i out h;exact h
   | succ f ih =>
    intro i out h;rw[yS];split
    ·exact ih _ _ (jW _ _ _ h)
    exact h
  refine key _ _ _ ?_;unfold fd0;rw[if_pos h];simp
 have:=List.length_pos_of_mem G;omega
theorem zO.of {a E:QO}{n:Nat}(G:Q2 E)(h1:0<E.st)(h2:E.st≤((1+n % 5:Nat):Int))(h3:a=YF E)(H:n<3):zO a:=by
 have h4:=j8 G;subst h3;exact⟨h4.1,QbB G h1,by have:=h4.2.2;omega,E,G,h1,O⟩
def Qmz (N:Nat)(al:LI)(w:World)(p:AV):Prop:=(∀L:LN,(∀b∈L,b<N)→Zp L w.heap p.va p.vm p.ve p.a)∧zO p.a∧p.a.al=al
def Qh4 (p:AV):Value:=.agg #[p.va,.int .i64 p.a.st,p.vm,p.ve]
def mkP (N:Nat)(c:Nat)(nm:ByteArray)(al:LI)(i:Nat)(v:Value)(w:World):Prop :=
 if i=5 then ∃b,v=.slice (some ⟨b,0,none⟩) 1 1∧QT w.heap b 5 [.int .u8 (c:Int)]
 else if i=6 then v=.string ⟨#[UInt8.ofNat c]⟩
 else if i=7 then v=.string nm
 else ∃p:AV,v=Qh4 p∧Qmz N al w p
theorem QdB {N c:Nat}{nm:ByteArray}{al:LI}:∀i v w w',mkP N c nm al i v w→Step [] w w'→mkP N c nm al i v w':=by
 intro i v w w' h hs;unfold mkP at h ⊢;by_cases h5:i=5
 ·rw[if_pos h5]at h ⊢;obtain⟨b,e,H⟩:=h;exact⟨b,e,H.ext hs⟩
 rw[if_neg h5]at h ⊢;by_cases E:i=6
 ·rw[if_pos E]at h ⊢;exact h
 rw[if_neg E]at h ⊢;by_cases G:i=7
 ·rw[if_pos G]at h ⊢;exact h
 rw[if_neg G]at h ⊢;obtain⟨p,e,I,J⟩:=h;exact⟨p,e,λL T=>(I L T).ext hs,J⟩
def zH (i:Nat):LI:=([0,1,2,3,4]:LI).take (2*i - 1)
def J6 (i:Nat):LI:=match i with|0=>[0]|1=>[1,2]|_=>[3,4]
theorem Qh6:∀{i:Nat},i<3→zH (i+1)=zH i++J6 i
 | 0,_=>rfl
 | 1,_=>rfl
 | 2,_=>rfl
 | i+3,h=>by omega
theorem Qaa (i:Nat):Yn (zH i):=List.Pairwise.sublist (List.take_sublist _ _) (by decide)
theorem Qmo (i:Nat):∀e∈zH i,0≤e∧e<32:=λe he=>by
 have h:=LR he;simp only[List.mem_cons,List.not_mem_nil,or_false]at h;omega
theorem Qen (i:Nat):(zH i).length≤5:=by unfold zH;simp;omega
theorem Qf2:∀(i:Nat),Yn (J6 i)
 | 0=>by decide
 | 1=>by decide
 | _+2=>show Yn [3,4] by decide
theorem Qi2:∀(i:Nat),∀e∈J6 i,0≤e∧e<32
 | 0=>by decide
 | 1=>by decide
 | _+2=>show ∀e∈([3,4]:LI),0≤e∧e<32 by decide
theorem Qf1:∀(i:Nat),0<(J6 i).length∧(J6 i).length≤2
 | 0=>by decide
 | 1=>by decide
 | _+2=>show 0<([3,4]:LI).length∧([3,4]:LI).length≤2 by decide
def zZ (c k:Nat):ByteArray:=⟨#[UInt8.ofNat c]⟩++⟨#[UInt8.ofNat (48+k)]⟩
theorem Jz (c k:Nat):Uq (zZ c k):=by
 show(ByteArray.mk _++ByteArray.mk _).size≤_;rw[ByteArray.size_append];show 1+1≤_;omega
def evL (f:Nat→Bool)(k:Nat):Kc:=⟨⟨#[UInt8.ofNat (97+k)]⟩,f k,false,false,0⟩
def LnK (co:List XC):Prop:=∀k (h:k<co.length),(co[k]'h).nm=zZ 109 k∧zO (co[k]'h).a∧(co[k]'h).a.al=J6 k
theorem LnK.snoc {co:List XC}{x:XC}(h:LnK co)(h1:x.nm=zZ 109 co.length)(h2:zO x.a)(h3:x.a.al=J6 co.length):LnK (co++[x]):=λk hk=>by
 by_cases hl:k<co.length
 ·rw[LX hl];exact h k hl
 have e:k=co.length:=by rw[Lj,LA]at hk;omega
 subst e;rw[Mr (Lt _)];simp only[Nat.sub_self,List.getElem_cons_zero];exact⟨h1,h2,h3⟩
structure LnQ (n i:Nat)(rq:List XC):Prop where
 each:∀x∈rq,(∃j,j<i∧x.nm=zZ 114 j)∧zO x.a∧x.a.al≠[]∧∀e∈x.a.al,e∈zH n
 nd:(rq.map (·.nm)).Nodup
theorem LnQ.nil (n:Nat):LnQ n 0 []:=⟨λx hx=>(by cases hx),Mw⟩
theorem LnQ.le {n i j:Nat}{rq:List XC}(h:LnQ n i rq)(E:i≤j):LnQ n j rq:=⟨λx hx=>let⟨⟨k,h1,h2⟩,h3⟩:=h.each x hx;⟨⟨k,L4 h1 E,h2⟩,h3⟩,h.nd⟩
theorem Qjm:∀i j:Nat,i<3→j<3→zZ 114 i=zZ 114 j→i=j:=by
 intro i j hi hj h;have h2:i=0∨i=1∨i=2:=by omega
 have h3:j=0∨j=1∨j=2:=by omega
 rcases h2 with rfl|rfl|rfl <;> rcases h3 with rfl|rfl|rfl <;> first|rfl|exact absurd h (by decide)
theorem LnQ.snoc {n i:Nat}{rq:List XC}{x:XC}(h:LnQ n i rq)(hi:i<2)(h1:x.nm=zZ 114 i)(h2:zO x.a)(h3:x.a.al≠[])(h4:∀e∈x.a.al,e∈zH n):LnQ n (i+1) (rq++[x]):=by
 refine⟨λy hy=>?_,?_⟩
 ·rcases Lq.1 hy with hy|hy
  ·exact(h.le (Nat.le_succ i)).each y hy
  rw[Lb.1 hy];exact⟨⟨i,Nat.lt_succ_self i,h1⟩,h2,h3,h4⟩
 rw[Lv,Mo,Mx];refine⟨h.nd,by simp,λa ha b hb e=>?_⟩;obtain⟨y,hy,rfl⟩:=Lx.1 ha;obtain⟨⟨j,hj,h5⟩,_⟩:=h.each y hy;rw[Lb.1 hb,h1,h5]at e;have:=Qjm j i (by omega) (by omega) e;omega
structure LnC (k:ZA):Prop where
 ev:∃f,k.ev=(List.range 5).map (evL f)
 n:1≤k.co.length∧k.co.length≤3
 co:LnK k.co
 r:k.rq.length≤2
 rq:LnQ k.co.length 2 k.rq
 x:k.ex.length≤1
 ex:∀x∈k.ex,x.nm=⟨#[120]⟩∧x.ls≠[]∧Yq (szs k.co) none x.ls=0
 cs:k.cs=[]
def LcK (sz:LI)(ls:List (Int×Int)):Prop:=∀k (h:k<ls.length),(ls[k]'h).1=(k:Int)∧0≤(ls[k]'h).2∧(ls[k]'h).2<cget sz k
theorem LcK.snoc {sz:LI}{ls:List (Int×Int)}{a b:Int}(h:LcK sz ls)(h1:a=(ls.length:Int))(h2:0≤b)(h3:b<cget sz ls.length):LcK sz (ls++[(a,b)]):=λk hk=>by
 by_cases hl:k<ls.length
 ·rw[LX hl];exact h k hl
 have e:k=ls.length:=by rw[Lj,LA]at hk;omega
 subst e;rw[Mr (Lt _)];simp only[Nat.sub_self,List.getElem_cons_zero];exact⟨h1,h2,h3⟩
theorem LcK.ck {sz:LI}{ls:List (Int×Int)}(h:LcK sz ls)(h2:ls.length=2)(hs:2≤sz.length):Yq sz none ls=0∧ls≠[]:=by
 match ls,h2 with
 | [p,q],_ =>
  obtain⟨a1,a2,a3⟩:=h 0 (by simp);obtain⟨E,G,H⟩:=h 1 (by simp);simp only[List.getElem_cons_zero,List.getElem_cons_succ]at a1 a2 a3 E G H;refine⟨?_,by simp⟩;rw[Yq,if_neg (by rw[a1];omega),if_neg (by simp[U8]),if_neg (by rw[a1];simp only[Int.toNat_natCast];omega),Yq,if_neg (by rw[E];omega),if_neg (by rw[a1,E];decide),if_neg (by rw[E];simp only[Int.toNat_natCast];omega),Yq]
end Go.Proofs.YtjcgijbhaemldaaGreatDoor
namespace Go.Lg
open Go.RowKit
def Jh (all:Array Oper)(dp:Nat→LN)(opn:LN)(rest:List (Nat×Bool)):Nat→Array Bool→Bool
 | 0,ls=>YQ all rest ls && opn.all λi=>ls.getD i false
 | k+1,ls=>!(Region.ready .any all ls).isEmpty && (Region.ready .any all ls).all λi=>opn.contains i && (dp i).all (λj=>opn.contains j && ls.getD j false) && Jh all dp opn rest k (ls.setIfInBounds i true)
def Qd0 (all:List Oper)(dp:Nat→LN)(pre:List (Nat×Bool))(opn:LN)(rest:List (Nat×Bool))(D:List (Nat×Nat)):Bool :=
 Region.noSelect all.toArray && (pre.length+(opn.length+rest.length) == all.length) && Xn all.toArray pre (Array.replicate all.length false) && UI all D opn && Jh all.toArray dp opn rest opn.length (Zt pre (Array.replicate all.length false))
  && opn.all λi=>!((Zt pre (Array.replicate all.length false)).getD i false)
section
variable {P:Program}{n:Nat}{f:Fr}{w:World}{all:List Oper}{C:World→Prop}{K:Fr→World→Prop}
theorem QbL {α:Type}{D:List (Nat×Nat)}{dp:Nat→LN}{opn:LN}{rest:List (Nat×Bool)}{Φ:Nat→Value→World→Prop}{S:α→List (Nat×Value)}{I:α→World→Prop}{f1:Fr}(hs:Region.noSelect all.toArray=true)(V:UI all D opn=true)
  (hl:∀w w',C w→Step [] w w'→C w') (stab:∀i v w w',Φ i v w→Step [] w w'→Φ i v w')
  (hm:∀(g:Fr) w,Fa (λi=>Φ i (sl (QL all i).dst g) w) opn→(∀i∈opn,∀j∈opn,i≠j→∀b∈ow (sl (QL all i).dst g),b∉ow (sl (QL all j).dst g))→∃z,YL g (S z)∧I z w)
  (spec:Fa (λi=>∀g w,C w→Fa (λj=>Φ j (sl (QL all j).dst (mix D f1 g)) w) (dp i)→XO P (QL all i) (mix D f1 g) w (λf' w'=>Step [] w w'∧Φ i (sl (QL all i).dst f') w'∧∀b∈ow (sl (QL all i).dst f'),w.heap.size≤b∧b<w'.heap.size)) opn)
  (fin:∀z g w,C w→I z w→XP P all C K rest (Vg (S z) (mix D f1 g)) w):
  ∀(k:Nat) (ls:Array Bool) (f:Fr) (w:World),ls.size=all.length→C w→Jh all.toArray dp opn rest k ls=true→(∀t,Y8 D t=false→f t=f1 t)→(∀i∈opn,ls.getD i false=true→Φ i (sl (QL all i).dst f) w) →
   (∀i∈opn,ls.getD i false=true→(∀b∈ow (sl (QL all i).dst f),b<w.heap.size)∧∀j∈opn,ls.getD j false=true→i≠j→∀b∈ow (sl (QL all i).dst f),b∉ow (sl (QL all j).dst f))→XA P all C K (k+rest.length) ls f w
 | 0,ls,f,w,he,hC,hp,Y,ha,G=>by
  simp only[Jh,Bool.and_eq_true,List.all_eq_true]at hp;obtain⟨z,h1,h2⟩:=hm f w (Fa.of λi hi=>ha i hi (hp.2 i hi)) (λi hi j hj E=>(G i hi (hp.2 i hi)).2 j hj (hp.2 j hj) E);have h3:=fin z f w hC h2;rw[Y4 Y,Ym h1]at h3;rw[LO];exact Zy hs rest ls f w he (.inl hC) hp.1 h3
 | k+1,ls,f,w,he,hC,hp,Y,ha,G=>by
  simp only[Jh,Bool.and_eq_true,List.all_eq_true,List.contains_iff_mem]at hp;obtain⟨hc,hp⟩:=hp;rw[Nat.add_right_comm];refine YP (λh0=>(by rw[h0]at hc;cases hc)) ?_;intro i hi o ho;obtain⟨⟨hh,hn⟩,hw⟩:=hp i hi;obtain⟨hg,d,hd,hy⟩:=(Z3 V).1 i hh;have h4:=(Z3 V).2;have hsp:=Fa.all spec i hh f w hC;rw[Y4 Y]at hsp;have hsp:=hsp (Fa.of λj hj=>ha j (hn j hj).1 (hn j hj).2)
  have H:=Zd ho;rw[H]at hg hd hsp;rw[X1 hg,cond_true];refine hsp.mono λv w' hx=>?_;have hq:=hl w w' hC hx.1;have hz:=hx.1.size;have old:∀j∈opn,j≠i→sl (QL all j).dst (QZ f o.dst v)=sl (QL all j).dst f:=λj hj E=>by
   obtain⟨_,dj,hr,_⟩:=(Z3 V).1 j hj;have hc:o.dst≠some dj:=λe=>h4 j hj i hh E (by rw[hr,H];exact e.symm);rw[hr];exact ZT hc v
  have lsj:∀j,j≠i→(ls.setIfInBounds i true).getD j false=true→ls.getD j false=true:=λj E h=>by rw[getD_set_ne false (Ne.symm E)]at h;exact h
  refine⟨.inr (.inr hq),QbL hs V hl stab hm spec fin k _ _ _ (by simpa using he) hq hw (λt ht=>?_) (λj hj U=>?_) (λj hj U=>⟨λb hb=>?_,λk hk hu hv b hb J=>?_⟩)⟩
  ·rw[ZT (by rw[hd];intro e;cases e;rw[hy]at ht;cases ht)];exact Y t ht
  ·by_cases E:j=i
   ·subst E;have h2:=hx.2.1;rw[H];exact h2
   rw[old j hj E];exact stab _ _ _ _ (ha j hj (lsj j E U)) hx.1
  ·by_cases E:j=i
   ·subst E;rw[H]at hb;exact(hx.2.2 b hb).2
   rw[old j hj E]at hb;have:=(G j hj (lsj j E U)).1 b hb;omega
  by_cases E:j=i
  ·subst E;have T:k≠j:=Ne.symm hv;rw[old k hk T]at J;rw[H]at hb;have h1:=(G k hk (lsj k T hu)).1 b J;have h2:=(hx.2.2 b hb).1;omega
  rw[old j hj E]at hb;have h1:=(G j hj (lsj j E U)).1 b hb;by_cases T:k=i
  ·subst T;rw[H]at J;have h2:=(hx.2.2 b J).1;omega
  rw[old k hk T]at J;exact(G j hj (lsj j E U)).2 k hk (lsj k T hu) hv b hb J
theorem Qia {α:Type}{Q:Exit→Fr→World→Prop}{id:Nat}(C:World→Prop)(pre:List (Nat×Bool))(dp:Nat→LN)(opn:LN)(rest:List (Nat×Bool))(D:List (Nat×Nat))(Φ:Nat→Value→World→Prop)(S:α→List (Nat×Value))(I:α→World→Prop)
  (hm:P.follows .mixedOrders=true) (J:Xb n all=true) (hp:Qd0 all dp pre opn rest D=true) (hC:C { w with drawn:=w.drawn+1 }) (T:∀w w',C w→Step [] w w'→C w') (stab:∀i v w w',Φ i v w→Step [] w w'→Φ i v w')
  (U:∀(g:Fr) w,Fa (λi=>Φ i (sl (QL all i).dst g) w) opn→(∀i∈opn,∀j∈opn,i≠j→∀b∈ow (sl (QL all i).dst g),b∉ow (sl (QL all j).dst g))→∃z,YL g (S z)∧I z w)
  (h:XP P all C (λf1 _=>Fa (λi=>∀g w,C w→Fa (λj=>Φ j (sl (QL all j).dst (mix D f1 g)) w) (dp i)→XO P (QL all i) (mix D f1 g) w (λE w'=>Step [] w w'∧Φ i (sl (QL all i).dst E) w'∧∀b∈ow (sl (QL all i).dst E),w.heap.size≤b∧b<w'.heap.size)) opn ∧
   ∀z g w,C w→I z w→XP P all C (λf w=>Q .normal f w) rest (Vg (S z) (mix D f1 g)) w) pre f { w with drawn:=w.drawn+1 }):W P n (.region id all.toArray true) Q f w:=by
 simp only[Qd0,Bool.and_eq_true,beq_iff_eq,List.all_eq_true,Bool.not_eq_true']at hp;obtain⟨⟨⟨⟨⟨hs,hl⟩,hq⟩,V⟩,Y⟩,G⟩:=hp;refine YW C hm J ?_;rw[←hl];have ha:(Array.replicate all.length false).size=all.length:=by simp
 have h1:=ZM (K:=λf w=>Q .normal f w) (m:=opn.length+rest.length) hs pre (Array.replicate all.length false) f _ hC hq (λf1 H=>QbL (P:=P) (C:=C) hs V T stab U H.1 H.2 opn.length (Zt pre (Array.replicate all.length false)) f1 _ (by rw[ZK];exact ha) hC Y (λ_ _=>O) (λi hi ht=>by rw[G i hi]at ht;cases ht) (λi hi ht=>by rw[G i hi]at ht;cases ht)) h;rw[hl]at h1 ⊢;exact h1
end
section
variable {P:Program}{n:Nat}{f:Fr}{w:World}{all:List Oper}{C J:World→Prop}{K:Fr→World→Prop}
theorem QbK {α:Type}{D:List (Nat×Nat)}{dp:Nat→LN}{opn:LN}{rest:List (Nat×Bool)}{Φ:Nat→Value→World→Prop}{S:α→List (Nat×Value)}{I:α→World→Prop}{f1:Fr}(hs:Region.noSelect all.toArray=true)(Y:UI all D opn=true)
  (he:∀w,J w→C w) (hm:∀w w',J w→Step [] w w'→J w') (stab:∀i v w w',Φ i v w→Step [] w w'→Φ i v w')
  (hn:∀(g:Fr) w,Fa (λi=>Φ i (sl (QL all i).dst g) w) opn→(∀i∈opn,∀j∈opn,i≠j→∀b∈ow (sl (QL all i).dst g),b∉ow (sl (QL all j).dst g))→∃z,YL g (S z)∧I z w)
  (spec:Fa (λi=>∀g w,J w→Fa (λj=>Φ j (sl (QL all j).dst (mix D f1 g)) w) (dp i)→XO P (QL all i) (mix D f1 g) w (λf' w'=>Step [] w w'∧Φ i (sl (QL all i).dst f') w'∧∀b∈ow (sl (QL all i).dst f'),w.heap.size≤b∧b<w'.heap.size)) opn)
  (fin:∀z g w,J w→I z w→XP P all C K rest (Vg (S z) (mix D f1 g)) w):
  ∀(k:Nat) (ls:Array Bool) (f:Fr) (w:World),ls.size=all.length→J w→Jh all.toArray dp opn rest k ls=true→(∀t,Y8 D t=false→f t=f1 t)→(∀i∈opn,ls.getD i false=true→Φ i (sl (QL all i).dst f) w) →
   (∀i∈opn,ls.getD i false=true→(∀b∈ow (sl (QL all i).dst f),b<w.heap.size)∧∀j∈opn,ls.getD j false=true→i≠j→∀b∈ow (sl (QL all i).dst f),b∉ow (sl (QL all j).dst f))→XA P all C K (k+rest.length) ls f w
 | 0,ls,f,w,hh,hC,hp,hf,ha,G=>by
  simp only[Jh,Bool.and_eq_true,List.all_eq_true]at hp;obtain⟨z,h1,h2⟩:=hn f w (Fa.of λi hi=>ha i hi (hp.2 i hi)) (λi hi j hj E=>(G i hi (hp.2 i hi)).2 j hj (hp.2 j hj) E);have h3:=fin z f w hC h2;rw[Y4 hf,Ym h1]at h3;rw[LO];exact Zy hs rest ls f w hh (.inl (he _ hC)) hp.1 h3
 | k+1,ls,f,w,hh,hC,hp,hf,ha,G=>by
  simp only[Jh,Bool.and_eq_true,List.all_eq_true,List.contains_iff_mem]at hp;obtain⟨hc,hp⟩:=hp;rw[Nat.add_right_comm];refine YP (λh0=>(by rw[h0]at hc;cases hc)) ?_;intro i hi o ho;obtain⟨⟨hl,hq⟩,hy⟩:=hp i hi;obtain⟨hg,d,hd,h4⟩:=(Z3 Y).1 i hl;have h5:=(Z3 Y).2;have hsp:=Fa.all spec i hl f w hC;rw[Y4 hf]at hsp;have hsp:=hsp (Fa.of λj hj=>ha j (hq j hj).1 (hq j hj).2)
  have H:=Zd ho;rw[H]at hg hd hsp;rw[X1 hg,cond_true];refine hsp.mono λv w' hx=>?_;have hr:=hm w w' hC hx.1;have hz:=hx.1.size;have old:∀j∈opn,j≠i→sl (QL all j).dst (QZ f o.dst v)=sl (QL all j).dst f:=λj hj E=>by
   obtain⟨_,dj,hu,_⟩:=(Z3 Y).1 j hj;have hc:o.dst≠some dj:=λe=>h5 j hj i hl E (by rw[hu,H];exact e.symm);rw[hu];exact ZT hc v
  have lsj:∀j,j≠i→(ls.setIfInBounds i true).getD j false=true→ls.getD j false=true:=λj E h=>by rw[getD_set_ne false (Ne.symm E)]at h;exact h
  refine⟨.inr (.inr (he _ hr)),QbK hs Y he hm stab hn spec fin k _ _ _ (by simpa using hh) hr hy (λt ht=>?_) (λj hj V=>?_) (λj hj V=>⟨λb hb=>?_,λk hk hv hw b hb T=>?_⟩)⟩
  ·rw[ZT (by rw[hd];intro e;cases e;rw[h4]at ht;cases ht)];exact hf t ht
  ·by_cases E:j=i
   ·subst E;have h2:=hx.2.1;rw[H];exact h2
   rw[old j hj E];exact stab _ _ _ _ (ha j hj (lsj j E V)) hx.1
  ·by_cases E:j=i
   ·subst E;rw[H]at hb;exact(hx.2.2 b hb).2
   rw[old j hj E]at hb;have:=(G j hj (lsj j E V)).1 b hb;omega
  by_cases E:j=i
  ·subst E;have U:k≠j:=Ne.symm hw;rw[old k hk U]at T;rw[H]at hb;have h1:=(G k hk (lsj k U hv)).1 b T;have h2:=(hx.2.2 b hb).1;omega
  rw[old j hj E]at hb;have h1:=(G j hj (lsj j E V)).1 b hb;by_cases U:k=i
  ·subst U;rw[H]at T;have h2:=(hx.2.2 b T).1;omega
  rw[old k hk U]at T;exact(G j hj (lsj j E V)).2 k hk (lsj k U hv) hw b hb T
theorem QbN {α:Type}{Q:Exit→Fr→World→Prop}{id:Nat}(C J:World→Prop)(pre:List (Nat×Bool))(dp:Nat→LN)(opn:LN)(rest:List (Nat×Bool))(D:List (Nat×Nat))(Φ:Nat→Value→World→Prop)(S:α→List (Nat×Value))(I:α→World→Prop)
  (hm:P.follows .mixedOrders=true) (U:Xb n all=true) (hp:Qd0 all dp pre opn rest D=true) (hC:J { w with drawn:=w.drawn+1 }) (E:∀w,J w→C w) (V:∀w w',J w→Step [] w w'→J w') (stab:∀i v w w',Φ i v w→Step [] w w'→Φ i v w')
  (Y:∀(g:Fr) w,Fa (λi=>Φ i (sl (QL all i).dst g) w) opn→(∀i∈opn,∀j∈opn,i≠j→∀b∈ow (sl (QL all i).dst g),b∉ow (sl (QL all j).dst g))→∃z,YL g (S z)∧I z w)
  (h:XP P all C (λf1 _=>Fa (λi=>∀g w,J w→Fa (λj=>Φ j (sl (QL all j).dst (mix D f1 g)) w) (dp i)→XO P (QL all i) (mix D f1 g) w (λG w'=>Step [] w w'∧Φ i (sl (QL all i).dst G) w'∧∀b∈ow (sl (QL all i).dst G),w.heap.size≤b∧b<w'.heap.size)) opn ∧
   ∀z g w,J w→I z w→XP P all C (λf w=>Q .normal f w) rest (Vg (S z) (mix D f1 g)) w) pre f { w with drawn:=w.drawn+1 }):W P n (.region id all.toArray true) Q f w:=by
 simp only[Qd0,Bool.and_eq_true,beq_iff_eq,List.all_eq_true,Bool.not_eq_true']at hp;obtain⟨⟨⟨⟨⟨hs,hl⟩,hq⟩,ha⟩,hb⟩,H⟩:=hp;refine YW C hm U ?_;rw[←hl];have hc:(Array.replicate all.length false).size=all.length:=by simp
 have h1:=ZM (K:=λf w=>Q .normal f w) (m:=opn.length+rest.length) hs pre (Array.replicate all.length false) f _ (E _ hC) hq (λf1 T=>QbK (P:=P) (C:=C) hs ha E V stab Y T.1 T.2 opn.length (Zt pre (Array.replicate all.length false)) f1 _ (by rw[ZK];exact hc) hC hb (λ_ _=>O) (λi hi ht=>by rw[H i hi]at ht;cases ht) (λi hi ht=>by rw[H i hi]at ht;cases ht)) h;rw[hl]at h1 ⊢
 exact h1
end
end Go.Lg
namespace Go.Proofs.YtjcgijbhaemldaaGreatDoor
open Go.Proofs.Tryz
open Go.Lg
instance ayZi1:Ay prog 26 3 25 27:=⟨by kernel_rfl,by kernel_rfl⟩
instance ayZi2:Ay prog 28 2 5 1:=⟨by kernel_rfl,by kernel_rfl⟩
abbrev z27:LV:=List.replicate 27 (.int .u8 0)
theorem jF (p:Int×Int):∀u∈QU p,u.oneCell'=true:=by
 intro y hy;simp only[QU,List.mem_cons,List.not_mem_nil,or_false]at hy;rcases hy with rfl|rfl <;> rfl
set_option maxHeartbeats 16000000 in
theorem Qco {w:World}{l:LnV}(h:LnA [] w.heap l):
  QE prog 9 [.agg (Y5 l).toArray] w λr w'=>Step [] w w'∧∃k,Qiq w.heap.size w'.heap r k∧LnC k:=by
 have hln:=QgN h.n;have g81:=Qa1 h.n 0;have g82:=Qa1 h.n 1;have m2:=Qa1 h.n 2;have g84:=Qa1 h.n 3;have g85:=Qa1 h.n 4;have hct:=h.ct;have hcl:=h.cl;have hx0:=h.x0;have ke:=h.x1;have hrl:=h.r.le;refine Zb (1+l.ct % 3) λn hn=>?_;have hn3:1≤n∧n≤3:=by omega
 let fl:Nat→Bool:=λk=>decide (((l.cl / 2 ^ k &&& 1:Nat):Int)=1);refine QE.of_W func9 O ntmps9 results9 (by simp) ?_;refine Qc<|xl O<|QQ (us:=Y5 l) O λb1 w1 m3 hb1 m4=>xl O<|Qu (us:=YR) O λb2 w2 kf hb2 m5=>xe ?_;refine Qc<|xl O<|Qu (us:=YR) O λE I gn hb3 m6=>xe ?_;have kg:=(m3.trans kf).trans gn;have hs13:=kf.trans gn;have hz1:=m3.size;have hz2:=kf.size;have hz3:=gn.size
 have hl1:=m4.lt;have hl2:=m5.lt;have hD:=m6.lt;have go:=m4.ext hs13;have hB23:=m5.ext gn;have gq:b1∉[E]:=by simp only[List.mem_singleton];omega
 have n23:b2∉[E]:=by simp only[List.mem_singleton];omega
 have hR3:Zv [E] I.heap l.vr l.rs.length 28 (l.rs.flatMap Yp):=(h.r.up (L':=[E]) (λb hb=>.inr (by simp only[List.mem_singleton]at hb;omega))).ext kg
 refine QX (α:=Value×List Kc) [(4,4),(15,35)] (λ_=>[]) (λz w'=>Step [E] I w'∧QT w'.heap E 37 [z.1,Q0,Q0,Q0,Q0]∧w'.ownsRow I.heap.size 89 5 z.1 z.2.length (z.2.flatMap Zh)∧z.2.length=5∧(∀e∈z.2,Uq e.nm)∧z.2=(List.range 5).map (evL fl)) (by rfl) ?_ ?_
 ·refine Qc<|Qe<|Qh<|QA (α:=Nat×Value×List Kc) [(4,4),(15,35)] (λz=>[(4,.int .i64 z.1)]) (λz w'=>z.1≤5∧Step [E] I w'∧QT w'.heap E 37 [z.2.1,Q0,Q0,Q0,Q0]∧w'.ownsRow I.heap.size 89 5 z.2.1 z.2.2.length (z.2.2.flatMap Zh)∧z.2.2.length=z.1∧(∀e∈z.2.2,Uq e.nm)∧z.2.2=(List.range z.1).map (evL fl)) (λz=>5 - z.1) (by rfl) (0,Q0,[]) La
   ⟨Ll _,Step.refl _ _,m6,QP _ _ _ _,O,(λe he=>by cases he),rfl⟩ ?_
  rintro⟨k,v,ev⟩ g w4 ⟨hk,hJ,hK,ht,gs,V,hM⟩;simp only[]at hk hK ht gs V hM;have hz4:=hJ.size;refine Qg<|Qc<|Qb<|x (Qz O O)<|xe<|QC O (λkh=>?_) (λkh=>?_)
  ·refine Qy ?_;have hke:k=5:=by have h17:¬(k:Int)<5:=kh;omega
   rw[hke]at hM;exact⟨(v,ev),Z,hJ,hK,ht,by simp only[];omega,V,hM⟩
  have hS:k<5:=by have h17:(k:Int)<5:=kh;omega
  refine Qi ?_;have hu:E∉ob v:=QR ht hD;have ki:b1∉ob v:=QR ht (by omega);have hB14:=go.step hJ gq;have hdv:l.cl / 2 ^ k<256:=Nk (Nat.div_le_self _ _) hcl;have kj:Step [] w4 { w4 with drawn:=w4.drawn+1 }:=Step.drew _ _
  refine Qg<|Qh<|QV (Step (ob v) w4) [(0,true),(1,true),(2,true),(3,true),(4,true),(7,true),(8,true),(9,true),(10,true),(11,true),(12,true),(5,false),(6,false),(13,true),(14,false),(15,false),(16,true),(17,false)] mixed (by rfl) (by kernel_rfl) (Step.drew _ _) ?_
  refine p (λ_=>Qa O)<|pq (λ_ hc=>Qd (hK.step hc hu) O O)<|p (λ_=>Qm)<|p (λ_=>ZQ (k':=.u8) O ⟨by omega,by omega⟩)<|p (λ_=>Xa O O ⟨by omega,by omega⟩) <|
   p (λ_=>Qa O)<|pq (λ_ hc=>Qd (hB14.step hc ki) O g85)<|p (λ_=>Qm)<|p (λ_=>UH (n:=k) O O (by show k≤8;omega))<|p (λ_=>Vl (a:=l.cl / 2 ^ k) (b:=1) (congrArg (Value.int .u8) (VJ l.cl k)) O hdv (by decide)) <|
   p (λ_=>Zl O O)<|pk<|QF (us:=[[.int .u8 ((97:Int)+(k:Int))]]) O O (by decide) (by simp) ⟨rfl,rfl,Z⟩ λb24 w5 hT hb24 hB24=>⟨(kj.trans hT).any,?_⟩
  have e97:((97:Int)+(k:Int))=((97+k:Nat):Int):=by omega
  have hB24':QT w5.heap b24 5 [.int .u8 ((97+k:Nat):Int)]:=by rw[←e97];exact hB24
  refine pk<|xv (jw (n:=97+k) hB24' (by omega) O) ⟨(kj.trans hT).any,?_⟩;refine Zb (Kc.mk ⟨#[UInt8.ofNat (97+k)]⟩ (decide (((l.cl / 2 ^ k &&& 1:Nat):Int)=1)) false false 0) λe he=>?_;refine p (λ_=>QN ⟨O,O,Z⟩)<|pk<|QF (us:=[Zh (Kc.mk ⟨#[UInt8.ofNat (97+k)]⟩ (decide (((l.cl / 2 ^ k &&& 1:Nat):Int)=1)) false false 0)]) O O (by decide) (show 1*5≤1000000 by omega) ⟨O,O,Z⟩ λb33 w6 gb hb33 m7=>?_
  rw[he]at m7;have hU:=(kj.trans hT).trans gb;have hz46:=hU.size;refine⟨hU.any,?_⟩;refine pk<|Q5 (news:=Zh e) (L:=[]) (Qs ht hU) O O O (m7.at (by simp)) (Qbg e) (by omega) (by omega) λv7 w7 kk hE hn7=>⟨(hU.any (L:=ob v)).trans' hE,?_⟩;have hone:=QK kk;refine p (λ_=>Qa O)<|pkl (hl:=by kernel_rfl)<|QB ((hK.ext hU).step hE hu) O O (by simp) hone λw8 hF gt=>pe ?_
  have hge:=Qp ht;have hge7:∀b∈ob v7,I.heap.size≤b:=λb hb=>(Qp kk b hb).1;refine Qx<|Qb<|QM O O<|Qe<|⟨(k+1,v7,ev++[e]),by simp only[];omega,La,hS,((hJ.trans hU).then hE (λb hb=>.inr (hge b hb).1)).trans' hF,gt,?_,by simp[gs],λd hd=>?_,?_⟩
  ·have h9:=Ql kk hF (λb hb=>by have:=hge7 b hb;simp only[List.mem_singleton];omega);simp only[List.length_append,List.flatMap_append];simpa using h9
  ·rcases Lq.1 hd with hd|hd
   ·exact V d hd
   rw[Lb.1 hd,←he];exact YZ (by simp)
  show ev++[e]=(List.range (k+1)).map (evL fl);rw[ND,Lv,←hM,←he];rfl
 rintro⟨ve,ev⟩ g4 w4 ⟨hJ,hK,ht,gs,V,hM⟩;simp only[]at hK ht gs V hM;have hz4:=hJ.size;have FE4:∀L:LN,(∀b∈L,b<I.heap.size)→J9 L w4.heap ve ev:=λL G=>⟨QW ht (by omega) (λb hb gc=>by have:=(Qp ht b hb).1;have:=G b gc;omega),V⟩
 refine Qc<|xl O<|QF (us:=[[.int .i64 0]]) O O (by decide) (by simp) ⟨rfl,rfl,Z⟩ λm8 w5 hT hb36 m9=>xl rfl<|QF (us:=[[.int .i64 1],[.int .i64 2]]) rfl rfl (by decide) (by simp) ⟨rfl,rfl,rfl,rfl,Z⟩ λpa w6 gb hb37 pc =>
  xl rfl<|QF (us:=[[.int .i64 3],[.int .i64 4]]) O O (by decide) (by simp) ⟨rfl,rfl,rfl,rfl,Z⟩ λpd w7 hE hb38 pf=>xl rfl<|QF (us:=[[.slice (some ⟨m8,0,none⟩) 1 1],[.slice (some ⟨pa,0,none⟩) 2 2],[.slice (some ⟨pd,0,none⟩) 2 2]]) rfl rfl (by decide) (by simp) ⟨rfl,rfl,rfl,rfl,rfl,rfl,Z⟩ λpg w8 hF hb39 ph =>
  Qe<|Qc<|Qe ?_
 have hz5:=hT.size;have hz6:=gb.size;have hz7:=hE.size;have hz8:=hF.size;have kn:=((hT.trans gb).trans hE).trans hF;have pj:=hJ.trans kn;have ko:∃tl:List TV,tl.length=3∧(∀i (h:i<tl.length),∃tv,tl[i]'h=(tv,J6 i))∧∀L:LN,(∀b∈L,b<w4.heap.size∨w8.heap.size≤b)→X6 L w8.heap (.slice (some ⟨pg,0,none⟩) 3 3) tl:=by
  have k36:=m9.lt;have k37:=pc.lt;have k38:=pf.lt;have k39:=ph.lt;refine⟨[(.slice (some ⟨m8,0,none⟩) 1 1,J6 0),(.slice (some ⟨pa,0,none⟩) 2 2,J6 1),(.slice (some ⟨pd,0,none⟩) 2 2,J6 2)],O,λi hi=>?_,λL G=>?_⟩
  ·have h3:i=0∨i=1∨i=2:=by have:i<3:=hi;omega
   rcases h3 with rfl|rfl|rfl
   ·exact⟨_,O⟩
   ·exact⟨_,O⟩
   exact⟨_,O⟩
  have nL:∀{b:Nat},w4.heap.size≤b→b<w8.heap.size→b∉L:=λh1 h2 hm=>by have:=G _ hm;omega
  refine⟨ph.arr (nL (by omega) k39) (n:=3) (cap:=3) (sz:=1) O (by omega) (Lt _),λq hq=>?_⟩;simp only[List.mem_cons,List.not_mem_nil,or_false]at hq;rcases hq with rfl|rfl|rfl
  ·exact(((m9.ext gb).ext hE).ext hF).arr (nL (by omega) (by omega)) (n:=1) (cap:=1) (sz:=1) O (by omega) (Lt _)
  ·exact((pc.ext hE).ext hF).arr (nL (by omega) (by omega)) (n:=2) (cap:=2) (sz:=1) O (by omega) (Lt _)
  exact(pf.ext hF).arr (nL (by omega) (by omega)) (n:=2) (cap:=2) (sz:=1) O (by omega) (Lt _)
 obtain⟨tl,htl3,htlq,ko⟩:=ko;refine QX (α:=Value×Value×List IV) [(6,8),(40,80)] (λz=>[(6,z.2.1)]) (λz w'=>Step [E] w8 w'∧QT w'.heap E 37 [ve,z.1,Q0,Q0,Q0]∧Ug w8.heap.size w' z.1 z.2.1 z.2.2 (zH n)∧z.2.2.length=n∧LnK (z.2.2.map IV.it)) (by rfl) ?_ ?_
 ·refine Qc<|Qe<|Qh<|QA (α:=Nat×Value×Value×List IV) [(6,8),(40,80)] (λz=>[(6,z.2.2.1),(7,.int .i64 z.1)]) (λz w'=>z.1≤n∧Step [E] w8 w'∧QT w'.heap E 37 [ve,z.2.1,Q0,Q0,Q0]∧Ug w8.heap.size w' z.2.1 z.2.2.1 z.2.2.2 (zH z.1)∧z.2.2.2.length=z.1∧LnK (z.2.2.2.map IV.it)) (λz=>n - z.1) (by rfl) (0,Q0,Q0,[]) ⟨O,O,Z⟩
   ⟨Ll _,Step.refl _ _,hK.ext kn,Ug.nil,O,λk hk=>absurd hk (Nb k)⟩ ?_
  rintro⟨i,vc,va,co⟩ g w9 ⟨hi,h0,hV,Y,ge,kp⟩;simp only[]at hi hV Y ge kp;have hz9:=h0.size;have gu:Step [E] I w9:=pj.trans' h0;have pn:=go.step gu gq;have g81':(Y5 l)[81]?=some (.int .u8 (l.ct:Int)):=g81
  refine Qg<|Qc<|Qb<|x (Qa O)<|x (Qd pn O g81')<|x (JZ (a:=(l.ct:Int)) (b:=3) O O (by omega) (by omega))<|x (ZQ (k':=.i64) O ⟨by omega,by omega⟩)<|QM O O<|x (Qz O O) <|
   xe ?_
  refine QC O (λkq=>?_) (λkq=>?_)
  ·refine Qy ?_;have h47:¬(i:Int)<1+(l.ct:Int) % 3:=kq;have hie:i=n:=by omega
   rw[hie]at Y ge;exact⟨(vc,va,co),La,h0,hV,Y,ge,kp⟩
  have h47:(i:Int)<1+(l.ct:Int) % 3:=kq;have hS:i<n:=by omega
  refine Qi ?_;have gv:(grN l.ns (0+0+i*27)).length=27:=Qcv (by have:=h.n;omega);have kr:=Qg4 (o:=0+0+i*27) h.b;have po:=λj u=>Qnd (l:=l) (o:=0+0+i*27) j u;refine Zb (grN l.ns (0+0+i*27)) λgr kt=>?_;rw[kt]at gv kr po;have q0:=JV (ns:=gr) (j:=0) (by omega);have q0l:=YO kr 0;refine Zb (gr.getD 0 0) λs0 ku=>?_;rw[ku]at q0 q0l
  refine Qg<|Qh<|Qc<|Qb<|x (Qa O)<|x (Zw (i:=i) O O (by omega))<|x (KN (us:=bys gr) pn O (by rw[ZG];exact gv) po)<|xl O<|Qu (us:=z27) O λb8 h4 ha pp gt=>xl O<|Qo (us:=bys gr) gt O O (by rw[ZG];exact gv) O (Uc gr) λh6 hv pt =>
   xe ?_
  have hs911:Step [] w9 h6:=ha.then1 hv pp;refine Qc<|x (Qa O)<|x (Qd pt O q0)<|x (JZ (a:=(s0:Int)) (b:=3) O O (by omega) (by omega))<|x (Qa O)<|xl O<|QB (u:=.int .u8 ((s0 % 3:Nat):Int)) pt O (congrArg (Value.int .u8) (by omega:(s0:Int) % 3=((s0 % 3:Nat):Int))) (by rw[ZG];omega) O λH hh kv =>
   xe ?_
  rw[zz]at kv;have hl8:=gt.lt;have gg:Step [] w9 H:=hs911.then1 hh pp;have hz912:=gg.size;have pu:=ha.size;have hz11:=hv.size;have pw:=hV.ext gg;have kw:=Y.ext gg;have hu:E∉ob vc:=QR kw.c (by omega);have hn8v:b8∉ob vc:=λhm=>by have:=Q3 Y.c b8 hm;omega
  have hN:(gr.set 0 (s0 % 3)).length=27:=by rw[MD];exact gv
  have gh:=jo (n:=s0 % 3) kr (by omega);have gi:=qA (ns:=gr) (n:=s0 % 3) (by omega);refine Zb (gr.set 0 (s0 % 3)) λkx kz=>?_;rw[kz]at kv hN gh gi;have k0:X6 (E::(ob vc++ob va)) H.heap (.slice (some ⟨pg,0,none⟩) 3 3) tl:=by
   have h1:=ko (E::(ob vc++ob va)) (λb hb=>by
    rcases Lc.1 hb with rfl|hb
    ·exact .inl (by omega)
    rcases Lq.1 hb with hb|hb
    ·exact .inr (Qp Y.c b hb).1
    exact .inr (Qp Y.a b hb).1)
   exact(h1.st (h0.mono (by simp))).ext gg
  have gx:i<tl.length:=by omega
  obtain⟨tv,k5⟩:=htlq i gx;have k6:=Li gx;rw[k5]at k6;have hsI:=Qf1 i;have k7:(48:Int)+(i:Int)=((48+i:Nat):Int):=by omega
  refine QX (α:=Value×List IV) [(57,74)] (λ_=>[]) (λz w'=>Step (E::ob vc) H w'∧QT w'.heap E 37 [ve,z.1,Q0,Q0,Q0]∧Ug w8.heap.size w' z.1 va z.2 (zH i)∧z.2.length=i+1∧LnK (z.2.map IV.it)) (by rfl) ?_ ?_
  ·refine Zb (⟨#[109]⟩++⟨#[UInt8.ofNat (48+i)]⟩:ByteArray) λnm V=>?_;have hnmB:Uq nm:=by rw[←V];show(ByteArray.size _)≤_;rw[ByteArray.size_append];show 1+1≤_;omega
   refine QbN (α:=AV) (Step (ob vc) H) (Step [] H) [(0,true),(1,true),(2,true),(3,true),(4,true),(8,true),(9,true),(10,true),(11,true),(12,true)] (λi=>if i=6 then[5]else if i=7 then[6]else[]) [5,6,7,13] [(14,true),(15,false),(16,false),(17,true),(18,false)] [(62,64),(70,70)] (mkP H.heap.size (48+i) nm (J6 i))
    (λz=>[(64,.string nm),(70,Qh4 z)]) (λz w'=>Qmz H.heap.size (J6 i) w' z) mixed (by rfl) (by kernel_rfl) (Step.drew _ _) (λ_ h=>h.any) (λ_ _ h1 h2=>h1.trans h2) QdB ?_ ?_
   ·rintro g w' ⟨_,_,h7,⟨q,e,hA⟩,_⟩ hdj;exact⟨q,⟨h7,e,Z⟩,hA⟩
   refine p (λ_=>Qa O)<|pq (λ_ hc=>Qd (pw.step hc hu) O O)<|p (λ_=>Qm)<|p (λ_=>ZQ (k':=.u8) O ⟨by omega,by omega⟩)<|p (λ_=>Xa O O ⟨by omega,by omega⟩) <|
    p (λ_=>Qm)<|p (λ_=>Qm)<|Go.Lg.pig (g:=Yf) (i:=i) O (λ_=>O) k0.arr O O gx λa67 pz=>?_
   rw[k5]at pz;refine pq (λ_ hc=>Qv (pz.step hc (λb hb=>by simp[hb])) rfl)<|pq (λ_ hc=>Qn (kv.step hc hn8v) rfl (by rw[ZG];exact hN))<|pe ⟨⟨?_,?_,?_,?_,Z⟩,?_⟩
   ·intro g w' hc _;exact QF (us:=[[.int .u8 ((48:Int)+(i:Int))]]) O O (by decide) (by simp) ⟨rfl,rfl,Z⟩ λb hg J hb hB=>⟨J,⟨b,rfl,by rw[←k7];exact hB⟩,λc T=>by rw[Lb.1 (show c∈[b] from T)];exact⟨hb,hB.lt⟩⟩
   ·rintro g w' hc ⟨⟨b,e,hB⟩,_⟩;exact xv (jw (n:=48+i) hB (by omega) e) ⟨Step.refl _ _,O,λc T=>by cases T⟩
   ·rintro g w' hc ⟨e,_⟩;exact xv (Yx (a:=⟨#[109]⟩) (b:=⟨#[UInt8.ofNat (48+i)]⟩) O e (by show 1+1≤1000000000;omega)) ⟨Step.refl _ _,congrArg Value.string V,λc T=>by cases T⟩
   ·intro g w' hc _;have hz:=hc.size;have hi1:QH (E::(ob vc++ob va)) w'.heap tv (J6 i):=(k0.each _ k6).ext hc;refine xf<|(Us (ns:=kx) hi1 (Qi2 i) (Qf2 i) hN gh).mono ?_;rintro r hg ⟨J,a,⟨xa,xm,k8,rfl,hA⟩,hok,h5,k9,ma⟩;obtain⟨a0,k1,k2,k3,k4⟩:=ma (by omega);rw[gi]at k3
    exact⟨J,⟨⟨xa,xm,k8,a⟩,O,λL G=>hA L (λb hb=>by have:=G b hb;omega),zO.of k1 k2 k3 k4 (by omega),k9⟩,λc T=>by cases T⟩
   rintro q g hg mc ⟨p0,hG13,hL13⟩;have p4:=mc.size;have hO:=p0 [] (by simp);refine p (λ_=>Zx [(0,[.string nm]),(1,[q.va,.int .i64 q.a.st,q.vm,q.ve])] ⟨O,O,O,O,Z⟩)<|pk<|QF (us:=[Zi ⟨nm,q⟩]) O O (by decide) (show 1*5≤1000000 by omega) ⟨O,O,Z⟩ λb72 gj hj hb72 hB72=>⟨(mc.trans hj).any,?_⟩;have gy:=mc.trans hj;have hz14:=hj.size;have p5:=kw.ext gy
   refine pk<|Q5 (news:=Zi ⟨nm,q⟩) (L:=[]) p5.c O O O (hB72.at (by simp)) (U9 hO.al.one hO.mr.one hO.ed.one) (by omega) (by omega) λhG hW ho hf mf=>⟨(gy.any (L:=ob vc)).trans' hf,?_⟩;have hM15:=p5.setC (VW (q:=⟨nm,q⟩) (N:=H.heap.size) (λL G=>(p0 L G).ext hj) (by omega) kw.avlt) ho hf mf
   refine p (λ_=>Qa O)<|pkl (hl:=by kernel_rfl)<|QB ((pw.ext gy).step hf hu) O O (by simp) (QK ho) λhr U hH=>pe ?_
   refine⟨(hG,co++[⟨nm,q⟩]),Z,((gy.any (L:=E::ob vc)).trans' (hf.mono (λb hb=>Lk _ hb))).trans' (U.mono (by simp)),hH,hM15.low U (λb hb=>by rw[List.mem_singleton.1 hb];omega),by simp only[List.length_append,List.length_singleton];omega,?_⟩;show LnK ((co++[(⟨nm,q⟩:IV)]).map IV.it);rw[Lv,Mo]
   exact kp.snoc (by rw[Lh,ge];exact V.symm) hG13 (by rw[Lh,ge];exact hL13)
  rintro⟨vc2,co2⟩ g16 hr ⟨U,hH,gz,p6,p7⟩;simp only[]at hH gz p6 p7;have hz16:=U.size;have hgeC:=Qp Y.c;have hgeA:=Qp Y.a;have hs816:Step [E] w8 hr:=(h0.trans gg).then U (λb hb=>by
   rcases Lc.1 hb with rfl|hb
   ·exact .inl (by simp)
   exact .inr (hgeC b hb).1)
  have p8:=k0.st (U.mono (L':=E::(ob vc++ob va)) (λb hb=>by
   rcases Lc.1 hb with rfl|hb
   ·simp
   simp[hb]))
  have hIt:QH (E::(ob vc++ob va)) hr.heap tv (J6 i):=p8.each _ k6;obtain⟨ta,tc,hte,hta⟩:=Zv.full hIt hsI.1;have hal5:=Qen i;refine Qx<|Qb<|Qb<|Qb<|Go.Lg.xig (g:=Yf) (i:=i) (λ_=>O) p8.arr O O gx λa78 p9=>?_;rw[k5]at p9
  refine x (Qv p9 O)<|xl O<|Q5 (news:=(J6 i).map (.int .i64)) gz.a O (show Go.Lg.ev _ _=_ from hte) (by simp) hta (by simp[Value.oneCell']) (by omega) (by omega) λqc g0 ho17 hP hn17 =>
   Qe ?_
  have ho17':Qt 3 w8.heap.size g0 qc (zH (i+1)):=by
   rw[Qh6 (by omega)];unfold Qt;rw[Lj,Lv];exact ho17
  have hM17:=gz.setA ho17' hP hn17;refine Qx<|Qb<|QM O O<|Qe ?_;exact⟨(i+1,vc2,qc,co2),by simp only[];omega,⟨O,O,Z⟩,hS,hs816.then hP (λb hb=>.inr (hgeA b hb).1),hH.step hP (QR gz.a (by omega)),hM17,p6,p7⟩
 rintro⟨vc,va,co⟩ g9 w9 ⟨h0,hV,Y,qf,mg⟩;simp only[]at hV Y qf mg;have ql:∀q∈co,Uq q.nm∧zO q.p.a:=λq hq=>by
  obtain⟨k,hk,rfl⟩:=LF hq;have h9:=mg k (by rw[Lh];exact hk);rw[Ml]at h9;exact⟨by have h8:(co[k]'hk).nm=zZ 109 k:=h9.1;rw[h8];exact Jz _ _,h9.2.1⟩
 have hz9:=h0.size;have gu:Step [E] I w9:=pj.trans' h0;have FE9:=V3 (λL G=>(FE4 L G).ext kn) hD h0;have FI9:∀L:LN,(∀b∈L,b<I.heap.size)→Y9 L w9.heap vc co:=λL G=>Y.itms (by omega) (λq hq=>(ql q hq).1) (λb hb=>by have:=G b hb;omega);have hal5:=Qen n
 refine QX (α:=Value×List IV) [(9,11),(81,128)] (λ_=>[]) (λz w'=>Step [E] w9 w'∧QT w'.heap E 37 [ve,vc,z.1,Q0,Q0]∧IvP w9.heap.size w' z.1 z.2∧z.2.length≤2∧LnQ n 2 (z.2.map IV.it)) (by rfl) ?_ ?_
 ·refine Qc<|Qe<|Qh<|QA (α:=Nat×Value×List IV) [(9,11),(81,128)] (λz=>[(9,.int .i64 z.1)]) (λz w'=>z.1≤2∧Step [E] w9 w'∧QT w'.heap E 37 [ve,vc,z.2.1,Q0,Q0]∧IvP w9.heap.size w' z.2.1 z.2.2∧z.2.2.length≤z.1∧LnQ n z.1 (z.2.2.map IV.it)) (λz=>2 - z.1) (by rfl) (0,Q0,[]) La
   ⟨Ll _,Step.refl _ _,hV,Xj.nil,Lt _,LnQ.nil n⟩ ?_
  rintro⟨i,vr,rq⟩ g h4 ⟨hi,ha,hs,hw,mh,hI⟩;simp only[]at hi hs hw mh hI;have pu:=ha.size;have gk:Step [E] I h4:=gu.trans' ha;have hX:=go.step gk gq;have mj:=hR3.st gk;have mo:(Y5 l)[82]?=some l.vr:=g82;refine Qg<|QX (α:=Unit) [(81,89)] (λz=>[(89,.bool (decide (i<l.rs.length∧i<2)))]) (λz w'=>w'=h4) (by rfl) ?_ ?_
  ·refine Qx<|Qb<|x (Qa O)<|x (Qd hX O mo)<|x (Qr mj O)<|xb (Qz O O) (λqo=>?_) (λqo=>?_)
   ·refine Qb<|Qb<|x (Qz O O)<|x (Qq O)<|xe<|⟨(),⟨congrArg Value.bool ?_,Z⟩,O⟩;exact decide_eq_decide.2 ⟨λe=>⟨by omega,by omega⟩,λe=>by omega⟩
   refine Qb<|xs O<|xs O<|x (Qq O)<|xe ?_;exact⟨(),⟨congrArg Value.bool (decide_eq_false (λe=>qo (by omega))).symm,Z⟩,O⟩
  rintro _ g11 h6 rfl;refine QC O (λmq=>?_) (λmq=>?_)
  ·refine Qy ?_;exact⟨(vr,rq),Z,ha,hs,hw,by simp only[];omega,hI.le hi⟩
  have ms:i<l.rs.length:=mq.1;have hi2:i<2:=mq.2;refine Qi<|Qg<|Qh<|Qc<|x (Qa O)<|x (Qd hX O mo)<|Qb<|Go.Lg.xig (g:=Yp) (i:=i) jB mj O O ms λa95 qr=>?_;refine Zb (l.rs[i]'ms) λpr q4=>?_;rw[q4]at qr;have g1:(pr.1.drop 1).length=27:=by rw[L5,pr.2.1]
  have mt:∀n∈pr.1.drop 1,n<256:=λn hn=>pr.2.2 n (Mz hn);have q5:At [E] h6.heap (a95.add 1) (bys (pr.1.drop 1)):=by
   have h1:=qr.from 1;rw[show(Yp pr).drop 1=bys (pr.1.drop 1) by simp[Yp,bys]]at h1;exact h1
  have q9:=JV (ns:=pr.1) (j:=0) (by rw[pr.2.1];omega);have j1:=YO pr.2.2 0;refine Zb (pr.1.getD 0 0) λm0 hm0=>?_;rw[hm0]at q9 j1;refine Zb (pr.1.drop 1) λgr kt=>?_;rw[kt]at g1 mt q5;have q0:=JV (ns:=gr) (j:=0) (by omega);have q0l:=YO mt 0;refine Zb (gr.getD 0 0) λs0 ku=>?_;rw[ku]at q0 q0l
  refine x (Zg O)<|x (QI (us:=bys gr) q5 O (by rw[ZG];exact g1))<|xl O<|Qu (us:=z27) O λb10 H hh j2 j3=>xl O<|Qo (us:=bys gr) j3 O O (by rw[ZG];exact g1) O (Uc gr) λhg J j4 =>
   xe ?_
  have hs1113:Step [] h6 hg:=hh.then1 J j2;refine Qc<|x (Qa O)<|x (Qd j4 O q0)<|x (JZ (a:=(s0:Int)) (b:=3) O O (by omega) (by omega))<|x (Qa O)<|xl O<|QB (u:=.int .u8 ((s0 % 3:Nat):Int)) j4 O (congrArg (Value.int .u8) (by omega:(s0:Int) % 3=((s0 % 3:Nat):Int))) (by rw[ZG];omega) O λgj hj mu =>
   xe ?_
  rw[zz]at mu;have hl10:=j3.lt;have gl:Step [] h6 gj:=hs1113.then1 hj j2;have hz12:=hh.size;have hz13':=J.size;have hz1114:=gl.size;have hN:(gr.set 0 (s0 % 3)).length=27:=by rw[MD];exact g1
  have gh:=jo (n:=s0 % 3) mt (by omega);have gi:=qA (ns:=gr) (n:=s0 % 3) (by omega);refine Zb (gr.set 0 (s0 % 3)) λkx kz=>?_;rw[kz]at mu hN gh gi;have hva11:Qt 3 w8.heap.size h6 va (zH n):=Ql Y.a ha (λb hb hm=>by rw[Lb.1 hm]at hb;exact QR Y.a (by omega) hb)
  refine Qc<|x (Qa O)<|x (Qd (hX.ext gl) O mo)<|Qb<|Go.Lg.xig (g:=Yp) (i:=i) jB (mj.ext gl) O O ms λa105 za=>?_;rw[q4]at za;refine x (Zg O)<|x (Qv (za.fld 0 _ q9) O)<|xl O<|xf<|(QcA m0 j1 _).mono ?_;rintro hG hW ⟨hf,ho⟩;have hsk:=YH m0 5;have hva15:QH [] hW.heap va (zH n):=(Qt.ints (L:=[]) (Qs hva11 (gl.trans hf)) (by omega) (by simp))
  refine Qb<|xl O<|xf<|(Qae (Qt.ints (L:=[]) ho (by omega) (by simp)) hva15 (by omega)).mono ?_;rintro v16 hr ⟨U,zb⟩;have zv:=U7 (· && ·) _ (setK m0 5) (zH n) (Lt _) (Kj m0 5) (Qaa n);have hml:=VS (· && ·) (setK m0 5) (zH n);have z0:∀e∈mrg (· && ·) (setK m0 5) (zH n),0≤e∧e<32:=λe he=>by
   have h1:=((JP (keep:=(· && ·)) (Kj m0 5) (Qaa n)) e).1 he;rcases h1.1 with h2|h2
   ·have:=jn m0 5 e h2;omega
   exact Qmo n e h2
  have z2:∀e∈mrg (· && ·) (setK m0 5) (zH n),e∈zH n:=λe he=>by
   have h2:=(((JP (keep:=(· && ·)) (Kj m0 5) (Qaa n)) e).1 he).2;rw[Lu]at h2;exact of_decide_eq_true h2.2
  refine Zb (mrg (· && ·) (setK m0 5) (zH n)) λst hst=>?_;rw[hst]at zb zv hml z0 z2;refine Qe ?_;have mv:=hf.trans U;have hY:=gl.trans mv;have hz1416:=mv.size;have hz15:=hf.size;have hz16:=U.size;have z3:=Qt.ints (L:=[]) zb (by omega) (by simp);refine Qc<|Qb<|x (Qr z3 O)<|x (ZL O O)<|xe<|QC O (λmw=>?_) (λmw=>?_)
  ·refine Qi<|Qx<|Qb<|QM O O<|Qe ?_;exact⟨(i+1,vr,rq),by simp only[];omega,La,by simp only[];omega,ha.trans hY,hs.ext hY,hw.ext hY,by simp only[];omega,hI.le (Nat.le_succ i)⟩
  have hu:E∉ob vr:=QR hw.own (by omega);have hn10v:b10∉ob vr:=λhm=>by have:=Q3 hw.own b10 hm;omega
  have hge10:=Qp hw.own;have k7:(48:Int)+(i:Int)=((48+i:Nat):Int):=by omega
  have z4:=hs.ext hY;have hB1016:=mu.ext mv;refine Zb (⟨#[114]⟩++⟨#[UInt8.ofNat (48+i)]⟩:ByteArray) λnm V=>?_;have hnmB:Uq nm:=by rw[←V];show(ByteArray.size _)≤_;rw[ByteArray.size_append];show 1+1≤_;omega
  have z5:=hw.ext hY;refine QbN (α:=AV) (Step (ob vr) hr) (Step [] hr) [(0,true),(1,true),(2,true),(3,true),(4,true),(8,true),(9,true)] (λi=>if i=6 then[5]else if i=7 then[6]else[]) [5,6,7,10] [(11,true),(12,false),(13,false),(14,true),(15,false)] [(119,121),(124,124)] (mkP hr.heap.size (48+i) nm st)
   (λz=>[(121,.string nm),(124,Qh4 z)]) (λz w'=>Qmz hr.heap.size st w' z) mixed (by rfl) (by kernel_rfl) (Step.drew _ _) (λ_ h=>h.any) (λ_ _ h1 h2=>h1.trans h2) QdB ?_ ?_
  ·rintro g w' ⟨_,_,h7,⟨q,e,hA⟩,_⟩ hdj;exact⟨q,⟨h7,e,Z⟩,hA⟩
  refine p (λ_=>Qa O)<|pq (λ_ hc=>Qd (z4.step hc hu) O O)<|p (λ_=>Qm)<|p (λ_=>ZQ (k':=.u8) O ⟨by omega,by omega⟩)<|p (λ_=>Xa O O ⟨by omega,by omega⟩) <|
   p (λ_=>Qm)<|pq (λ_ hc=>Qn (hB1016.step hc hn10v) O (by rw[ZG];exact hN))<|pe ⟨⟨?_,?_,?_,?_,Z⟩,?_⟩
  ·intro g w' hc _;exact QF (us:=[[.int .u8 ((48:Int)+(i:Int))]]) O O (by decide) (by simp) ⟨rfl,rfl,Z⟩ λb g0 hP hb hB=>⟨hP,⟨b,rfl,by rw[←k7];exact hB⟩,λc T=>by rw[Lb.1 (show c∈[b] from T)];exact⟨hb,hB.lt⟩⟩
  ·rintro g w' hc ⟨⟨b,e,hB⟩,_⟩;exact xv (jw (n:=48+i) hB (by omega) e) ⟨Step.refl _ _,O,λc T=>by cases T⟩
  ·rintro g w' hc ⟨e,_⟩;exact xv (Yx (a:=⟨#[114]⟩) (b:=⟨#[UInt8.ofNat (48+i)]⟩) O e (by show 1+1≤1000000000;omega)) ⟨Step.refl _ _,congrArg Value.string V,λc T=>by cases T⟩
  ·intro g w' hc _;have hz:=hc.size;refine xf<|(Us (ns:=kx) (z3.ext hc) z0 zv hN gh).mono ?_;rintro r g0 ⟨hP,a,⟨xa,xm,k8,rfl,hA⟩,hok,h5,k9,ma⟩;obtain⟨a0,k1,k2,k3,k4⟩:=ma (by omega);rw[gi]at k3;exact⟨hP,⟨⟨xa,xm,k8,a⟩,O,λL G=>hA L (λb hb=>by have:=G b hb;omega),zO.of k1 k2 k3 k4 (by omega),k9⟩,λc T=>by cases T⟩
  rintro q g g0 mx ⟨z9,hG17,hL17⟩;have hz17:=mx.size;have hO:=z9 [] (by simp);refine p (λ_=>Zx [(0,[.string nm]),(1,[q.va,.int .i64 q.a.st,q.vm,q.ve])] ⟨O,O,O,O,Z⟩)<|pk<|QF (us:=[Zi ⟨nm,q⟩]) O O (by decide) (show 1*5≤1000000 by omega) ⟨O,O,Z⟩ λb126 w18 g2 hb126 hB126=>⟨(mx.trans g2).any,?_⟩;have g3:=mx.trans g2;have hz18:=g2.size;have hR18:=z5.ext g3
  refine pk<|Q5 (news:=Zi ⟨nm,q⟩) (L:=[]) hR18.own O O O (hB126.at (by simp)) (U9 hO.al.one hO.mr.one hO.ed.one) (by omega) (by omega) λv19 w19 ho19 g5 hn19=>⟨(g3.any (L:=ob vr)).trans' g5,?_⟩;have hR19:=hR18.app3 (q:=⟨nm,q⟩) (VW (q:=⟨nm,q⟩) (N:=hr.heap.size) (λL G=>(z9 L G).ext g2) (by omega) (Q3 z5.own)) ho19 g5 hn19
  refine p (λ_=>Qa O)<|pkl (hl:=by kernel_rfl)<|QB ((z4.ext g3).step g5 hu) O O (by simp) (QK ho19) λw20 hs20 hB20=>pe ?_
  refine Qx<|Qb<|QM O O<|Qe<|⟨(i+1,v19,rq++[⟨nm,q⟩]),by simp only[];omega,La,by simp only[];omega,(((ha.trans hY).trans g3).then g5 (λb hb=>.inr (hge10 b hb).1)).trans' hs20,hB20,hR19.low hs20 (λb hb=>by rw[Lb.1 hb];omega),by simp only[List.length_append,List.length_singleton];omega,?_⟩;show LnQ n (i+1) ((rq++[(⟨nm,q⟩:IV)]).map IV.it)
  rw[Lv,Mo];exact hI.snoc hi2 V.symm hG17 (λe=>by have e2:st=[]:=hL17.symm.trans e;rw[e2]at mw;exact absurd mw (by decide)) (λe he=>z2 e (by have e3:e∈q.a.al:=he;rw[hL17]at e3;exact e3))
 rintro⟨vr,rq⟩ g10 h4 ⟨ha,hs,hw,mh,hI⟩;simp only[]at hs hw mh hI;have hgq10:∀q∈rq,Uq q.nm∧zO q.p.a:=λq hq=>by
  obtain⟨⟨j,_,h8⟩,h9,_⟩:=hI.each q.it (LL hq);exact⟨by rw[show q.nm=zZ 114 j from h8];exact Jz _ _,h9⟩
 have pu:=ha.size;have gk:Step [E] I h4:=gu.trans' ha;have hX:=go.step gk gq;have FE10:=V3 FE9 hD ha;have FI10:=Kt FI9 hD ha;have FR10:∀L:LN,(∀b∈L,b<I.heap.size)→Y9 L h4.heap vr rq:=λL G=>hw.itms (by omega) (λq hq=>(hgq10 q hq).1) (λb hb=>by have:=G b hb;omega)
 refine QX (α:=Value×List XV) [(12,14),(129,169)] (λ_=>[]) (λz w'=>Step [E] h4 w'∧QT w'.heap E 37 [ve,vc,vr,z.1,Q0]∧(∀L:LN,(∀b∈L,b<I.heap.size)→qj L w'.heap z.1 z.2)∧z.2.length≤1∧∀q∈z.2,q.nm=⟨#[120]⟩∧q.ls≠[]∧Yq (szs (co.map IV.it)) none q.ls=0) (by rfl) ?_ ?_
 ·refine Qc<|x (Qa O)<|x (Qd hs O O)<|x (Qr (FI10 [] (by simp)).arr rfl)<|Qe<|Qc<|Qb<|x (ZL rfl rfl)<|xe<|QC O (λh133=>?_) (λh133=>?_)
  ·refine Qi ?_;exact⟨(Q0,[]),Z,Step.refl _ _,hs,(λL G=>⟨Zv.nil _ _ 2,λq hq=>(by cases hq),λq hq=>(by cases hq)⟩),by decide,λq hq=>(by cases hq)⟩
  have hco2:2≤co.length:=by have h134:(1:Int)<(co.length:Int):=h133;omega
  refine Qc<|x (QN La)<|xl O<|Qu (us:=[.string .empty,Q0]) O λhC h6 hv hb13 g6=>xl O<|Qo (us:=[.string ⟨#[120]⟩,Q0]) g6 O O O O ⟨O,O,Z⟩ λH hh hB1312 =>
   xe ?_
  have gm:Step [] h4 H:=hv.then1 hh hb13;have hz1012:=gm.size;have hl13:=hB1312.lt;have n313:E∉[hC]:=by simp only[List.mem_singleton];omega
  have n113:b1∉[hC]:=by simp only[List.mem_singleton];omega
  refine QX (α:=Value×List (Int×Int)) [(14,14),(135,158)] (λ_=>[]) (λz w'=>Step [hC] H w'∧QT w'.heap hC 99 [.string ⟨#[120]⟩,z.1]∧w'.ownsRow H.heap.size 101 2 z.1 z.2.length (z.2.flatMap QU)∧z.2.length=2∧LcK (szs (co.map IV.it)) z.2) (by rfl) ?_ ?_
  ·refine Qc<|Qe<|Qh<|QA (α:=Nat×Value×List (Int×Int)) [(14,14),(135,158)] (λz=>[(14,.int .i64 z.1)]) (λz w'=>z.1≤2∧Step [hC] H w'∧QT w'.heap hC 99 [.string ⟨#[120]⟩,z.2.1]∧w'.ownsRow H.heap.size 101 2 z.2.1 z.2.2.length (z.2.2.flatMap QU)∧z.2.2.length=z.1∧LcK (szs (co.map IV.it)) z.2.2) (λz=>2 - z.1) (by rfl) (0,Q0,[]) La
    ⟨Ll _,Step.refl _ _,hB1312,QP _ _ _ _,O,λk hk=>absurd hk (Nb k)⟩ ?_
   rintro⟨i,vl,ls⟩ g hg ⟨hi,J,hQ,hp,hR,hZ⟩;simp only[]at hi hQ hp hR hZ;have p4:=J.size;refine Qg<|Qc<|Qb<|x (Qz O O)<|xe<|QC O (λmy=>?_) (λmy=>?_)
   ·refine Qy ?_;exact⟨(vl,ls),Z,J,hQ,hp,by simp only[];have h137:¬(i:Int)<2:=my;omega,hZ⟩
   have hS:i<2:=by have h137:(i:Int)<2:=my;omega
   refine Qi ?_;have hgeL:=Qp hp;have hn13v:hC∉ob vl:=QR hp hl13;have hu:E∉ob vl:=QR hp (by omega);have ki:b1∉ob vl:=QR hp (by omega);have g7:=(hs.ext gm).step J n313;have mz:=(hX.ext gm).step J n113;have m1:∃xi:Nat,xi<256∧(Y5 l)[0+83+i*1]?=some (.int .u8 (xi:Int)):=by
    have h3:i=0∨i=1:=by omega
    rcases h3 with rfl|rfl
    ·exact⟨l.x0,hx0,m2⟩
    exact⟨l.x1,ke,g84⟩
   obtain⟨xi,hxi,m1⟩:=m1;have g8:i<co.length:=by omega
   have hI13:Y9 (ob vl) hg.heap vc co:=by
    have h1:Y9 (hC::ob vl) H.heap vc co:=((FI10 [] (by simp)).up (L':=hC::ob vl) (λb hb=>by
     rcases Lc.1 hb with rfl|hb
     ·exact .inr (by have:=hv.size;omega)
     exact .inr (by have:=(hgeL b hb).1;omega))).ext gm
    exact(h1.st (J.mono (by simp))).up (λb hb=>.inl (Lk _ hb))
   have hqm:=Li g8;refine Zb (co[i]'g8) λq hq=>?_;rw[hq]at hqm;have hpos:=(ql q hqm).2.p;have hszi:cget (szs (co.map IV.it)) i=q.p.a.st:=by
    rw[show szs (co.map IV.it)=co.map (·.p.a.st) by unfold szs;rw[MG];rfl];unfold cget;rw[MH,MW,Lz g8,hq];rfl
   have hd13:Step [] hg { hg with drawn:=hg.drawn+1 }:=Step.drew _ _
   have hmod:0≤(xi:Int) % q.p.a.st:=Int.emod_nonneg _ (by omega);refine Qg<|Qh<|QV (Step (ob vl) hg) [(0,true),(1,true),(2,true),(3,true),(4,true),(5,true),(6,true),(7,true),(8,true),(9,true),(10,true),(11,true),(12,true),(13,true),(14,true),(15,true),(16,true),(17,false),(18,false),(19,true),(20,false)] mixed (by rfl) (by kernel_rfl) (Step.drew _ _) ?_
   refine p (λ_=>Qa O)<|pq (λ_ hc=>Qd (hQ.step hc hn13v) O O)<|p (λ_=>Qm)<|p (λ_=>Qm)<|p (λ_=>Qa O) <|
    p (λ_=>Zw (i:=i) O O hS)<|pq (λ_ hc=>Qd (mz.step hc ki) O m1)<|p (λ_=>ZQ (k':=.i64) O ⟨by omega,by omega⟩)<|p (λ_=>Qa O)<|pq (λ_ hc=>Qd (g7.step hc hu) O O) <|
    p (λ_=>Qm)<|Go.Lg.pig (g:=Zi) (i:=i) O Xf hI13.arr O O g8 λa150 h150=>?_
   rw[hq]at h150;refine p (λ_=>Zg O)<|p (λ_=>Zg O)<|pq (λ_ hc=>Qv (((h150.from 1).fld 1 (.int .i64 q.p.a.st) O).st hc) O) <|
    p (λ_=>JZ (a:=(xi:Int)) (b:=q.p.a.st) O O (by omega) hpos)<|p (λ_=>QN ⟨O,O,Z⟩)<|pk<|QF (us:=[QU ((i:Int),(xi:Int) % q.p.a.st)]) O O (by decide) (show 1*2≤1000000 by omega) ⟨O,O,Z⟩ λb156 gj hj hb156 hB156=>?_
   have ga:=hd13.trans hj;have hz1314:=ga.size;refine⟨ga.any,?_⟩;refine pk<|Q5 (news:=QU ((i:Int),(xi:Int) % q.p.a.st)) (L:=[]) (Qs hp ga) O O O (hB156.at (by simp)) (jF _) (by omega) (by omega) λhG hW ho hf mf=>⟨(ga.any (L:=ob vl)).trans' hf,?_⟩;have hge15:∀b∈ob hG,H.heap.size≤b:=λb hb=>(Qp ho b hb).1
   refine p (λ_=>Qa O)<|pkl (hl:=by kernel_rfl)<|QB ((hQ.ext ga).step hf hn13v) O O (by simp) (QK ho) λhr U hH=>pe ?_
   refine Qx<|Qb<|QM O O<|Qe<|⟨(i+1,hG,ls++[((i:Int),(xi:Int) % q.p.a.st)]),by simp only[];omega,La,hS,((J.trans ga).then hf (λb hb=>.inr (hgeL b hb).1)).trans' U,hH,?_,by simp[hR],hZ.snoc (by rw[hR]) hmod (by rw[hR,hszi];exact Int.emod_lt_of_pos _ hpos)⟩;have h9:=Ql ho U (λb hb=>by have:=hge15 b hb;simp only[List.mem_singleton];omega)
   simp only[List.length_append,List.flatMap_append];simpa using h9
  rintro⟨vl,ls⟩ g13 hg ⟨J,hQ,hp,hR,hZ⟩;simp only[]at hQ hp hR hZ;have p4:=J.size;have ka:Step [] h4 hg:=gm.then1 J hb13;have g7:=hs.ext ka;have mz:=hX.ext ka;have hxx:=QK hp;refine Qc<|x (Qa O)<|x (Zw (i:=0) O O (by decide))<|x (Qd mz O m2)<|x (JZ (a:=(l.x0:Int)) (b:=4) O O (by omega) (by omega))<|x (Q7 O O)<|xe ?_
  refine QC O (λh163=>?_) (λh163=>?_)
  ·refine Qi ?_;exact⟨(Q0,[]),Z,ka.any,g7,(λL G=>⟨Zv.nil _ _ 2,λq hq=>(by cases hq),λq hq=>(by cases hq)⟩),by decide,λq hq=>(by cases hq)⟩
  refine Qx<|x (Qa O)<|x (Qd g7 O O)<|x (Qn hQ O O)<|xl O<|QF (us:=[Zs ⟨⟨#[120]⟩,vl,ls⟩]) O O (by decide) (show 1*2≤1000000 by omega) ⟨O,O,Z⟩ λb167 gj hj hb167 hB167=>?_;have hz14:=hj.size;refine xl O<|Q5 (base:=hg.heap.size) (news:=Zs ⟨⟨#[120]⟩,vl,ls⟩) (L:=[]) (v:=Q0) (QP _ _ _ _) O O O (hB167.at (by simp)) (U1 hxx) (by omega) (by omega) λhG hW ho hf mf=>?_
  have hs1415:Step [] gj hW:=hf;have hs1015:=(ka.trans hj).trans hs1415;refine x (Qa O)<|xl O<|QB (hs.ext hs1015) O O (by simp) (QK ho) λhr U hH=>xe ?_;refine⟨(hG,[⟨⟨#[120]⟩,vl,ls⟩]),Z,(hs1015.any (L:=[E])).trans' U,hH,λL G=>?_,Lt 1,λq hq=>?_⟩
  rotate_left
  ·rw[Lb.1 hq];have h9:=hZ.ck hR (by unfold szs;rw[Lh,Lh];exact hco2);exact⟨O,h9.2,h9.1⟩
  have hL2:∀b∈E::L,b<I.heap.size:=λb hb=>by
   rcases Lc.1 hb with rfl|hb
   ·exact hD
   exact G b hb
  have h1:qj (E::L) hW.heap hG [⟨⟨#[120]⟩,vl,ls⟩]:=by
   refine⟨QW (n:=1) ho (by omega) (λb hb gc=>by have:=(Qp ho b hb).1;have:=hL2 b gc;omega),λq hq=>?_,λq hq=>?_⟩
   ·rw[Lb.1 hq];exact((QW (L:=E::L) hp (by omega) (λb hb gc=>by have:=(Qp hp b hb).1;have:=hL2 b gc;omega)).ext hj).ext hs1415
   rw[Lb.1 hq];exact YZ (by decide)
  exact(h1.st (U.mono (by simp))).up (λb hb=>.inl (Lk _ hb))
 rintro⟨vx,qx⟩ g11 h6 ⟨hv,g6,FX11,ke,hxs⟩;simp only[]at g6 FX11 ke hxs;have FE11:=V3 FE10 hD hv;have FI11:=Kt FI10 hD hv;have FR11:=Kt FR10 hD hv;have hs311:Step [E] I h6:=gk.trans' hv;have hB211:=hB23.step hs311 n23
 refine Qc<|x (Qn g6 O O)<|xl O<|Qo (us:=[ve,vc,vr,vx,Q0]) hB211 O O O O ⟨(FE11 [] (by simp)).arr.one,(FI11 [] (by simp)).arr.one,(FR11 [] (by simp)).arr.one,(FX11 [] (by simp)).arr.one,rfl,Z⟩ λH hh hB12=>xe ?_;have kb:b2<I.heap.size:=by omega
 have FE12:=V3 FE11 kb hh;have FI12:=Kt FI11 kb hh;have FR12:=Kt FR11 kb hh;have FX12:=QiK FX11 kb hh;have hs012:Step [] w H:=(kg.then1 hs311 (by omega)).then1 hh (by omega);refine Qk ⟨[.agg [ve,vc,vr,vx,Q0].toArray],⟨⟨_,O,Qw O (hB12.at (L:=[]) (by simp)).cells⟩,Z⟩,hs012,⟨ev,co.map IV.it,rq.map IV.it,qx.map XV.x,[]⟩,⟨⟨ve,vc,vr,vx,Q0,ev,co,rq,qx,[]⟩,rfl,rfl,λL G=>?_⟩,?_⟩
 ·have kc:∀b∈L,b<I.heap.size:=λb hb=>by have:=G b hb;have:=kg.size;omega
  exact⟨FE12 L kc,FI12 L kc,FR12 L kc,FX12 L kc,⟨Zv.nil _ _ 3,λq hq=>(by cases hq),λq hq=>(by cases hq)⟩⟩
 refine⟨⟨fl,hM⟩,by simp only[List.length_map];omega,mg,by simp only[List.length_map];omega,?_,by simp only[List.length_map];omega,λy hy=>?_,O⟩
 ·show LnQ (co.map IV.it).length 2 (rq.map IV.it);rw[Lh,qf];exact hI
 obtain⟨q,hq,rfl⟩:=Lx.1 hy;exact hxs q hq
instance ayAv1:Ay prog 64 5 5 1:=⟨underlying64,by kernel_rfl⟩
def nm1 (c k:Nat):ByteArray:=⟨#[UInt8.ofNat (c+k)]⟩
def JS (k n:Nat):Kc:=if 48≤n∧n<52 then⟨nm1 97 k,false,false,false,(n:Int) - 47⟩else
 ⟨nm1 97 k,decide (((n &&& 1:Nat):Int)=1),decide (((n &&& 2:Nat):Int)=2),decide (((n &&& 4:Nat):Int)=4),0⟩
def X3 (ns:LN)(i:Nat):List Kc:=(List.range i).map λk=>JS k (ns.getD k 0)
theorem Qcz (ns:LN)(i:Nat):X3 ns (i+1)=X3 ns i++[JS i (ns.getD i 0)]:=by
 unfold X3;rw[ND,Lv];rfl
theorem KT (ns:LN)(i:Nat):(X3 ns i).length=i:=by unfold X3;simp
set_option maxHeartbeats 1000000 in
theorem QbS {w:World}{ns:LN}(hn:ns.length=5)(hb:∀n∈ns,n<256):
  QE prog 58 [.agg (bys ns).toArray] w λr w'=>Step [] w w'∧w'.ownsRow w.heap.size 89 5 r (X3 ns 5).length ((X3 ns 5).flatMap Zh):=by
 refine QE.of_W func58 O ntmps58 results58 (by simp) ?_;refine Qc<|xl O<|QQ (us:=bys ns) O λb1 w1 hj hJ hm=>Qe ?_;have hs:=hj.size;refine Qc<|Qe<|Qg<|Qc<|Qe<|Qh<|QA (α:=Nat×Value) [(3,53)] (λz=>[(3,z.2),(4,.int .i64 z.1)]) (λz w'=>z.1≤5∧Step [] w1 w'∧w'.ownsRow w1.heap.size 89 5 z.2 (X3 ns z.1).length ((X3 ns z.1).flatMap Zh)) (λz=>5 - z.1) (by rfl) (0,Q0) ⟨O,O,Z⟩
  ⟨Ll _,Step.refl _ _,QP _ _ _ _⟩ ?_
 rintro⟨k,v⟩ g w2 ⟨hk,U,J⟩;simp only[]at hk J;refine Qg<|Qc<|Qb<|x (Qz O O)<|xe<|QC rfl (λh7=>?_) (λh7=>?_)
 ·refine Qy ?_;have ht:k=5:=by have h8:¬(k:Int)<5:=h7;omega
  rw[ht]at J;refine Qc<|Qb<|Qe ?_;exact Qk ⟨[v],La,hj.trans U,Zc J hs⟩
 have E:k<5:=by have h8:(k:Int)<5:=h7;omega
 have q:=JV (ns:=ns) (j:=0+k*1) (by omega);have ql:=YO hb (0+k*1);have hu:ns.getD (0+k*1) 0=ns.getD k 0:=by rw[show 0+k*1=k by omega]
 rw[hu]at q ql;have ho:=Qcz ns k;have hK:=KT ns k;refine Zb (ns.getD k 0) λn hv=>?_;rw[hv]at q ql ho;have hw:=hm.ext U;refine Qi<|Qg<|Qh<|Qc<|Qb<|x (ZQ (k':=.u8) O ⟨by omega,by omega⟩)<|QM O O<|xl O<|QF (us:=[[.int .u8 ((97:Int)+(k:Int))]]) O O (by decide) (by simp) ⟨rfl,rfl,Z⟩ λhy w3 ha hL h0=>?_;have h1:((97:Int)+(k:Int))=((97+k:Nat):Int):=by omega
 have h2:QT w3.heap hy 5 [.int .u8 ((97+k:Nat):Int)]:=by rw[←h1];exact h0
 refine x (jw (n:=97+k) h2 (by omega) O)<|x (QN La)<|xl O<|Qu (us:=[.string ⟨#[]⟩,.bool false,.bool false,.bool false,.int .i64 0]) O λG w4 h3 hM h4=>xl O<|Qo (us:=Zh ⟨nm1 97 k,false,false,false,0⟩) h4 O O O O ⟨O,O,O,O,O,Z⟩ λw5 h5 hp =>
  xe ?_
 have he:Step [] w2 w5:=(ha.trans h3).then1 h5 (by have:=ha.size;omega);have H:=hw.ext he;have hN:=he.size;have hO:=ha.size;have hP:=hm.lt;have hQ:=U.size;have hf:b1∉[G]:=by simp only[List.mem_singleton];omega
 refine QX (α:=Unit) [(16,49)] (λ_=>[]) (λ_ w'=>Step [G] w5 w'∧QT w'.heap G 89 (Zh (JS k n))) (by rfl) ?_ ?_
 ·refine QX (α:=Bool) [(16,25)] (λz=>[(25,.bool z)]) (λz w'=>w'=w5∧(z=true↔48≤n∧n<52)) (by rfl) ?_ ?_
  ·refine Qx<|Qb<|x (Zw (i:=k) O O E)<|x (Qd H O q)<|xb (ZN O O) (λhg=>?_) (λhg=>?_)
   ·have hq:(48:Int)≤(n:Int):=hg;refine Qb<|Qb<|x (Zw (i:=k) O O E)<|x (Qd H O q)<|x (Qz O O)<|x (Qq O)<|xe<|⟨decide ((n:Int)<52),La,O,?_⟩;rw[decide_eq_true_eq];omega
   have hq:¬(48:Int)≤(n:Int):=hg;refine Qb<|xs O<|xs O<|xs O<|xs O<|x (Qq O)<|xe ?_;exact⟨false,La,O,⟨λh=>(by cases h),λh=>absurd (by omega) hq⟩⟩
  rintro z g6 I ⟨rfl,hz⟩;refine QY O (λV=>?_) (λV=>?_)
  ·have hc:=hz.1 V;refine Qx<|Qb<|x (Zw (i:=k) O O E)<|x (Qd H O q)<|x (ZQ (k':=.i64) O ⟨by omega,by omega⟩)<|x (Jf O O ⟨by omega,by omega⟩)<|x (Qa O)<|xl O<|QB hp O O (by simp) rfl λw7 T hh =>
    xe ?_
   refine⟨(),Z,T,?_⟩;unfold JS;rw[if_pos hc];exact hh
  have hc:¬(48≤n∧n<52):=λh=>by have:=hz.2 h;rw[this]at V;cases V
  have Y:Step [] I { I with drawn:=I.drawn+1 }:=Step.drew _ _
  refine QV (Step [G] I) [(0,true),(1,true),(2,true),(3,true),(4,true),(5,true),(6,true),(7,true),(8,true),(9,true),(10,true),(11,true),(12,true),(13,true),(14,true),(15,true),(16,false),(17,true),(18,false),(19,true),(20,false)] mixed (by rfl) (by kernel_rfl) (Step.drew _ _) ?_
  refine p (λ_=>Qm)<|p (λ_=>Zw (i:=k) O O E)<|pq (λ_ hc=>Qd (H.step hc hf) O q)<|p (λ_=>Vl (a:=n) (b:=1) O O ql (by decide))<|p (λ_=>Zl O O) <|
   p (λ_=>Qm)<|p (λ_=>Zw (i:=k) O O E)<|pq (λ_ hc=>Qd (H.step hc hf) O q)<|p (λ_=>Vl (a:=n) (b:=2) O O ql (by decide))<|p (λ_=>Zl O O) <|
   p (λ_=>Qm)<|p (λ_=>Zw (i:=k) O O E)<|pq (λ_ hc=>Qd (H.step hc hf) O q)<|p (λ_=>Vl (a:=n) (b:=4) O O ql (by decide))<|p (λ_=>Zl O O)<|?_
  refine p (λ_=>Qa O)<|pk<|QB (hp.ext Y) O O (by simp) rfl λw7 T hh=>⟨(Y.any (L:=[G])).trans' T,?_⟩;refine p (λ_=>Qa O)<|pk<|QB hh O O (by simp) rfl λw8 hr h6=>⟨((Y.any (L:=[G])).trans' T).trans' hr,?_⟩;refine p (λ_=>Qa O)<|pkl (hl:=by kernel_rfl)<|QB h6 O O (by simp) rfl λw9 h9 hA=>pe ?_;refine⟨(),Z,(((Y.any (L:=[G])).trans' T).trans' hr).trans' h9,?_⟩
  unfold JS;rw[if_neg hc];exact hA
 rintro _ g6 I ⟨hB,hC⟩;have hD:Step [] w2 I:=he.then1 hB (by omega);refine Qx<|Qb<|x (Qn hC O O)<|xl O<|QF (us:=[Zh (JS k n)]) O O (by decide) (show 1*5≤1000000 by omega) ⟨O,O,Z⟩ λhR hS hE hT hF=>?_;have hi:=hD.trans hE;have hU:=hi.size
 refine xl rfl<|Q5 (news:=Zh (JS k n)) (L:=[]) (Qs J hi) O O O (hF.at (by simp)) (Qbg _) (by omega) (by omega) λhG hV hH hI hW =>
  Qe<|Qx<|Qb<|QM O O<|Qe<|⟨(k+1,hG),by simp only[];omega,⟨O,O,Z⟩,E,(U.trans hi).then hI (λc hc=>.inr (Qp J c hc).1),?_⟩
 simp only[];rw[ho,Lj,LC];simpa using hH
def Xv (n m:Nat):LI:=(List.range n).map λk:Nat=>if k<m then(k:Int)else -1
theorem yM {m k:Nat}(h:k<m):Zr (Yz m) (k:Int)=k:=by
 unfold Zr Yz;simp[List.getD,h]
theorem Qnf {fd out R:LI}{t:Int}(hp:fd=out++R)(hm:t∈out):qU fd t=(out.idxOf t:Nat):=by
 subst hp;unfold qU;rw[if_pos (LQ _ hm),Mm,if_pos hm]
theorem QlO {fd out R:LI}{t:Int}(hp:fd=out++[t]++R)(hm:t∉out):qU fd t=(out.length:Nat):=by
 subst hp;unfold qU;rw[if_pos (by simp),LB,Mm,if_neg hm];simp
theorem yL {n m k:Nat}(h:k<n):Zr (Xv n m) (k:Int)=if k<m then(k:Int)else -1:=by
 unfold Zr Xv;simp[List.getD,h]
theorem Qgz {n m:Nat}:(Xv n m).set m (m:Int)=Xv n (m+1):=by
 apply LY
 ·simp[Xv]
 intro k h1 h2;have hk:k<n:=by simpa[Xv]using h2
 rw[MS];by_cases e:m=k
 ·subst e;simp[Xv]
 rw[if_neg e];simp only[Xv,List.getElem_map,List.getElem_range];by_cases h3:k<m
 ·rw[if_pos h3,if_pos (by omega)]
 rw[if_neg h3,if_neg (by omega)]
theorem yw {R:Nat→List Ed}(hR:∀i,∀e∈R i,e.1=(i:Int))(j:Nat):∀n,ZC ((List.range' 0 n).flatMap R) j=if j<n then R j else[]
 | 0=>by simp[ZC]
 | n+1=>by
  have E:ZC (R n) j=if n=j then R n else[]:=by
   unfold ZC;by_cases e:n=j
   ·rw[if_pos e];exact Nc.2 λx hx=>decide_eq_true (by rw[hR n x hx,e])
   rw[if_neg e];exact MC.2 λx hx=>by rw[decide_eq_true_eq,hR n x hx];omega
  rw[Me,LC,LO];unfold ZC at E ⊢;rw[L2];have ih:=yw hR j n;unfold ZC at ih;rw[ih];simp only[List.flatMap_cons,List.flatMap_nil,List.append_nil];rw[E];by_cases h1:j<n
  ·rw[if_pos h1,if_neg (by omega),if_pos (by omega),LK]
  rw[if_neg h1];by_cases h2:n=j
  ·subst h2;rw[if_pos rfl,if_pos (by omega),Mb]
  rw[if_neg h2,if_neg (by omega)];rfl
section
variable {a:QO}
theorem qd {s:Int}:∀(vs:LI) (out:LI),∃r,vs.foldl (VC a s) out=out++r
 | [],out=>⟨[],by simp⟩
 | v::vs,out=>by
  rw[LM];obtain⟨r,E⟩:=qd vs (VC a s out v);rw[E];unfold VC;split
  ·exact⟨[nxt a.ed s v]++r,by rw[LB]⟩
  exact⟨r,O⟩
theorem qb:∀(f i:Nat) (out:LI),∃r,yS a f i out=out++r
 | 0,i,out=>⟨[],by simp[yS]⟩
 | f+1,i,out=>by
  rw[yS];split
  ·obtain⟨r,E⟩:=qb f (i+1) (fdR a out (cget out i));obtain⟨G,H⟩:=qd (a:=a) (s:=cget out i) a.al out;refine⟨G++r,?_⟩;rw[E];unfold fdR;rw[H,LB]
  exact⟨[],by simp⟩
theorem U2 {fd:LI}{i:Nat}:∀(vs out:LI) (c:Cs),(∃r,fd=vs.foldl (VC a (cget fd i)) out++r)→c.ord=Yz out.length→c.num=Xv fd.length out.length →
  (vs.filterMap (JU a fd i)).foldl (Zj i) c=⟨Yz (vs.foldl (VC a (cget fd i)) out).length,Xv fd.length (vs.foldl (VC a (cget fd i)) out).length,c.mk',c.ed++vs.filterMap (JU a fd i)⟩
 | [],out,c,_,h1,h2=>by
  obtain⟨o,n,m,e⟩:=c;simp only[]at h1 h2;subst h1 h2;simp
 | v::vs,out,c,E,h1,h2=>by
  rw[LM]at E ⊢;obtain⟨r,E⟩:=E;obtain⟨r2,V⟩:=qd (a:=a) (s:=cget fd i) vs (VC a (cget fd i) out v);have G:fd=VC a (cget fd i) out v++(r2++r):=by rw[←LB,←V];exact E
  by_cases I:0≤nxt a.ed (cget fd i) v
  ·have J:JU a fd i v=some ((i:Int),v,qU fd (nxt a.ed (cget fd i) v)):=by unfold JU;rw[if_pos I]
   rw[Mq,J];simp only[];rw[LM];by_cases hm:nxt a.ed (cget fd i) v∈out
   ·have H:VC a (cget fd i) out v=out:=by unfold VC;rw[if_neg (λh=>h.2 hm)]
    rw[H]at E G ⊢;have hix:qU fd (nxt a.ed (cget fd i) v)=(out.idxOf (nxt a.ed (cget fd i) v):Nat):=Qnf G hm;have Y:=Mj hm;have U:out.length≤fd.length:=by rw[G];simp
    have T:Zj i c ((i:Int),v,qU fd (nxt a.ed (cget fd i) v))=⟨c.ord,c.num,c.mk',c.ed++[((i:Int),v,qU fd (nxt a.ed (cget fd i) v))]⟩:=by
     unfold Zj;simp only[];rw[h2,hix,yL (by omega),if_pos Y,if_neg (by omega)]
    rw[T,U2 vs out ⟨c.ord,c.num,c.mk',c.ed++[((i:Int),v,qU fd (nxt a.ed (cget fd i) v))]⟩ ⟨r,E⟩ h1 h2];simp only[List.append_assoc,List.singleton_append]
   have H:VC a (cget fd i) out v=out++[nxt a.ed (cget fd i) v]:=by unfold VC;rw[if_pos ⟨I,hm⟩]
   rw[H]at E G ⊢;have hix:qU fd (nxt a.ed (cget fd i) v)=(out.length:Nat):=QlO G hm;have U:out.length<fd.length:=by rw[G];simp
   have T:Zj i c ((i:Int),v,qU fd (nxt a.ed (cget fd i) v))=⟨Yz (out.length+1),Xv fd.length (out.length+1),c.mk',c.ed++[((i:Int),v,qU fd (nxt a.ed (cget fd i) v))]⟩:=by
    unfold Zj;simp only[];rw[h1,h2,hix,yL U,if_neg (Nat.lt_irrefl _),if_pos (by omega),Kn,Ur];simp only[Int.toNat_natCast];rw[Qgz]
   rw[T,U2 vs (out++[nxt a.ed (cget fd i) v]) _ ⟨r,E⟩ (by simp) (by simp)];simp only[List.append_assoc,List.singleton_append]
  have J:JU a fd i v=none:=by unfold JU;rw[if_neg I]
  have H:VC a (cget fd i) out v=out:=by unfold VC;rw[if_neg (λh=>I h.1)]
  rw[H]at E ⊢;rw[Mq,J];exact U2 vs out c ⟨r,E⟩ h1 h2
theorem QhW (fd:LI)(i:Nat):YB a fd (i+1)=YB a fd i++(if cget fd i∈a.mr then[(i:Int)]else[]):=by
 unfold YB;rw[Me,L2,Lv,LO];by_cases h:cget fd i∈a.mr <;> simp[h]
theorem QhY (fd:LI)(i:Nat):YU a fd (i+1)=YU a fd i++a.al.filterMap (JU a fd i):=by
 unfold YU;rw[Me,LC,LO];simp
theorem QbC {fd:LI}{i n:Nat}(h:i<n):(i:Int)∈YB a fd n↔cget fd i∈a.mr:=by
 unfold YB;simp only[List.mem_map,List.mem_filter,List.mem_range'_1,decide_eq_true_eq];constructor
 ·rintro⟨k,⟨_,h2⟩,h3⟩;have:k=i:=by omega
  subst this;exact h2
 intro h2;exact⟨i,⟨by omega,h2⟩,O⟩
theorem QhX {fd:LI}(J:fd=found a)(hj:fd.length≤a.st.toNat):∀(f g i:Nat) (out:LI),i≤out.length→yS a g i out=fd→i+g=a.st.toNat→fd.length≤i+f →
  Xh (YF a) f i ⟨Yz out.length,Xv fd.length out.length,YB a fd i,YU a fd i⟩=⟨Yz fd.length,Xv fd.length fd.length,YB a fd fd.length,YU a fd fd.length⟩:=by
 have U:(YF a).ed=YU a fd fd.length:=by rw[J];rfl
 have V:(YF a).mr=YB a fd fd.length:=by rw[J];rfl
 have done:∀(i:Nat) (out:LI),i≤out.length→out=fd→¬i<out.length→(⟨Yz out.length,Xv fd.length out.length,YB a fd i,YU a fd i⟩:Cs)=⟨Yz fd.length,Xv fd.length fd.length,YB a fd fd.length,YU a fd fd.length⟩:=by
  intro i out h1 h2 h3;have:i=fd.length:=by rw[←h2];omega
  rw[this,h2]
 intro f;induction f with
 | zero =>
  intro g i out h1 h2 h3 h4;obtain⟨r,E⟩:=qb (a:=a) g i out;rw[h2]at E;have hl:fd.length=out.length+r.length:=by rw[E,Lj]
  have Y:r=[]:=Lr (by omega);rw[Xh];exact done i out h1 (by rw[E,Y,LK]) (by omega)
 | succ f ih =>
  intro g i out h1 h2 h3 h4;obtain⟨r,E⟩:=qb (a:=a) g i out;rw[h2]at E;have hl:fd.length=out.length+r.length:=by rw[E,Lj]
  rw[Xh];simp only[Kn];by_cases hi:i<out.length
  ·rw[if_pos hi];obtain⟨G,rfl⟩:∃G,g=G+1:=⟨g - 1,by omega⟩;rw[yS,if_pos hi]at h2;have ha:cget out i=cget fd i:=by
    rw[E];unfold cget;simp[List.getD,List.getElem?_append_left hi]
   rw[ha]at h2;have I:i<fd.length:=by omega
   have hb:ZC (YF a).ed (i:Int)=a.al.filterMap (JU a fd i):=by
    rw[U];unfold YU;rw[yw (λj e he=>by
     obtain⟨v,_,H⟩:=MI.1 he;unfold JU at H;split at H
     ·cases H;rfl
     cases H),if_pos I]
   have hf:ZS (YF a) i ⟨Yz out.length,Xv fd.length out.length,YB a fd i,YU a fd i⟩=⟨Yz out.length,Xv fd.length out.length,YB a fd (i+1),YU a fd i⟩:=by
    unfold ZS;simp only[];rw[yM hi,V,QhW];by_cases hc:cget fd i∈a.mr
    ·rw[if_pos ((QbC I).2 hc),if_pos hc]
    rw[if_neg (λh=>hc ((QbC I).1 h)),if_neg hc];simp
   have hg:UW (YF a) i ⟨Yz out.length,Xv fd.length out.length,YB a fd i,YU a fd i⟩=⟨Yz (fdR a out (cget fd i)).length,Xv fd.length (fdR a out (cget fd i)).length,YB a fd (i+1),YU a fd (i+1)⟩:=by
    unfold UW;rw[hf];simp only[];rw[yM hi,hb];obtain⟨r3,T⟩:=qb (a:=a) G (i+1) (fdR a out (cget fd i));rw[h2]at T;rw[U2 a.al out ⟨Yz out.length,Xv fd.length out.length,YB a fd (i+1),YU a fd i⟩ ⟨r3,T⟩ rfl rfl,QhY];rfl
   rw[hg];obtain⟨r4,hh⟩:=qd (a:=a) (s:=cget fd i) a.al out;exact ih G (i+1) _ (by unfold fdR;rw[hh,Lj];omega) h2 (by omega) (by omega)
  rw[if_neg hi];have h5:yS a g i out=out:=by
   cases g with
   | zero=>rfl
   | succ g=>rw[yS,if_neg hi]
  exact done i out h1 (h5.symm.trans h2) hi
theorem QhV (E:Q2 a)(G:0<a.st):YJ (YF a)=YF a:=by
 have U:=QbB E G;have I:=(V0 E).1.len E.st0;have V:(YF a).st=((found a).length:Int):=rfl;have H:(YF a).st.toNat=(found a).length:=by omega
 have h:=QhX (a:=a) O I (found a).length a.st.toNat 0 (fd0 a) (Ll _) O (by omega) (by omega);have J:fd0 a=[0]:=by unfold fd0;rw[if_pos G]
 rw[J]at h;have T:Yj (YF a)=⟨Yz 1,Xv (found a).length 1,YB a (found a) 0,YU a (found a) 0⟩:=by
  unfold Yj;rw[H];have e:(List.replicate (found a).length (-1:Int)).set 0 0=Xv (found a).length 1:=by
   apply LY
   ·simp[Xv]
   intro k h1 h2;rw[MS];simp only[Xv,List.getElem_map,List.getElem_range,List.getElem_replicate];by_cases e:k=0
   ·subst e;simp
   rw[if_neg (by omega),if_neg (by omega)]
  rw[e];simp[Yz,YB,YU]
 unfold YJ;rw[if_neg (by omega)];simp only[];rw[T,H];have h':Xh (YF a) (found a).length 0 ⟨Yz 1,Xv (found a).length 1,YB a (found a) 0,YU a (found a) 0⟩=⟨Yz (found a).length,Xv (found a).length (found a).length,YB a (found a) (found a).length,YU a (found a) (found a).length⟩:=h;rw[h'];simp only[Kn];rfl
theorem Qct (E:Q2 a)(G:0<a.st):Ku (YF a)=true:=by
 unfold Ku;rw[QhV E G];simp[(Zu _).2 (j8 E).1]
theorem zO.can {a:QO}(h:zO a):Ku a=true:=by
 obtain⟨E,h1,h2,rfl⟩:=h.c;exact Qct h1 h2
end
structure D25 (c:ZA):Prop where
 ev:c.ev.length=5∧XM c.ev=0
 c0:c.co.length≠0
 c3:c.co.length≤3
 r2:c.rq.length≤2
 co:∀x∈c.co,YD x.nm=true∧zO x.a∧∀e∈x.a.al,e<5
 rq:∀x∈c.rq,YD x.nm=true∧zO x.a∧∀e∈x.a.al,∃y∈c.co,e∈y.a.al
 nd:(c.co.map (·.nm)++c.rq.map (·.nm)).Nodup
 x2:c.ex.length≤2
 ex:∀x∈c.ex,YD x.nm=true∧x.ls≠[]∧Yq (szs c.co) none x.ls=0
 xn:(c.ex.map (·.nm)).Nodup
 k1:c.cs.length≤1
 cs:∀x∈c.cs,YD x.nm=true∧Xd (szs c.co) x=0
theorem QiM (n:Nat)(x:Int):x∈Ka n↔0≤x∧x<(n:Int):=Km n x
theorem QiN (n:Nat):Yn (Ka n):=VR n
theorem Qjs {a b:LI}(ia:Yn a)(ib:Yn b)(h:∀e∈a,e∈b):(mns a b).length=0:=by
 refine Nat.eq_zero_of_not_pos λhp=>?_;obtain⟨x,hx⟩:=List.exists_mem_of_length_pos hp;have:=(JP ia ib x).1 hx;by_cases h1:x∈a
 ·simp[h1,h x h1]at this
 simp[h1]at this
theorem Qec {nev:Nat}{amg:LI}{seen:List ByteArray}{x:XC}(G:YD x.nm=true)(hs:x.nm∉seen)(E:zO x.a)(he:∀e∈x.a.al,e<(nev:Int))(hi:Yn amg)(hm:∀e∈x.a.al,e∈amg):Z8 nev amg seen x=0:=by
 have hp:=E.p;unfold Z8;rw[if_neg (by rw[G];decide),if_neg hs,if_neg (by simpa using(Zu _).2 E.ok),if_neg (by rw[E.can];decide),if_neg (by omega),if_neg,if_neg (by simpa using Qjs E.ok.ali hi hm)];intro h;obtain⟨e,h1,h2⟩:=M6.1 h;have:=he e h1;have:=of_decide_eq_true h2;omega
theorem Qed {nev:Nat}{al:LI}(I:Yn al):∀(l:List XC) (s:List ByteArray) (u:LI),Yn u→(∀x∈l,YD x.nm=true∧zO x.a∧∀e∈x.a.al,e<(nev:Int)∧e∈al)→(s++l.map (·.nm)).Nodup →
  ∃E,Yc nev al s u l=(0,s++l.map (·.nm),E)∧Yn E∧∀e,e∈E↔e∈u∨∃y∈l,e∈y.a.al
 | [],s,u,hu,_,_=>⟨u,by simp[Yc],hu,by simp⟩
 | x::l,s,u,hu,hx,H=>by
  obtain⟨h1,h2,h3⟩:=hx x Lp;have J:x.nm∉s:=by
   intro hm;rw[LT,Mx]at H;exact H.2.2 _ hm _ Lp O
  have T:=Qec h1 J h2 (λe he=>(h3 e he).1) I (λe he=>(h3 e he).2);obtain⟨E,k1,k2,k3⟩:=Qed I l (s++[x.nm]) (mrg (· || ·) u x.a.al) (U7 _ _ _ _ (Lt _) hu h2.ok.ali) (λy hy=>hx y (Lk _ hy)) (by simpa using H);refine⟨E,?_,k2,λe=>?_⟩
  ·rw[Yc,if_neg (by simpa using T),k1];simp
  rw[k3,JP hu h2.ok.ali];constructor
  ·rintro(⟨h5|h5,_⟩|⟨y,hy,G⟩)
   ·exact .inl h5
   ·exact .inr ⟨x,Lp,h5⟩
   exact .inr ⟨y,Lk _ hy,G⟩
  rintro(h5|⟨y,hy,G⟩)
  ·exact .inl ⟨.inl h5,by simp[h5]⟩
  rcases Lc.1 hy with rfl|hy
  ·exact .inl ⟨.inr G,by simp[G]⟩
  exact .inr ⟨y,hy,G⟩
theorem Qea {nev:Nat}{u:LI}(hu:Yn u):∀(l:List XC) (s:List ByteArray),(∀x∈l,YD x.nm=true∧zO x.a∧∀e∈x.a.al,e<(nev:Int)∧e∈u)→(s++l.map (·.nm)).Nodup→JG nev u s l=0
 | [],s,_,_=>rfl
 | x::l,s,hx,E=>by
  obtain⟨h1,h2,h3⟩:=hx x Lp;have G:x.nm∉s:=by
   intro hm;rw[LT,Mx]at E;exact E.2.2 _ hm _ Lp O
  have H:=Qec h1 G h2 (λe he=>(h3 e he).1) hu (λe he=>(h3 e he).2);rw[JG,if_neg (by simpa using H)];exact Qea hu l (s++[x.nm]) (λy hy=>hx y (Lk _ hy)) (by simpa using E)
theorem yX {sz:LI}:∀(l:List Exc) (s:List ByteArray),(∀x∈l,YD x.nm=true∧x.ls≠[]∧Yq sz none x.ls=0)→(s++l.map (·.nm)).Nodup→Yh sz s l=0
 | [],s,_,_=>rfl
 | x::l,s,hx,E=>by
  obtain⟨h1,h2,h3⟩:=hx x Lp;have G:x.nm∉s:=by
   intro hm;rw[LT,Mx]at E;exact E.2.2 _ hm _ Lp O
  have H:Kz s x.nm=0:=by unfold Kz;rw[if_neg (by rw[h1];decide),if_neg G]
  have hl:x.ls.length≠0:=λh=>h2 (Lr h);have I:Jn sz x.ls=0:=by unfold Jn;rw[if_neg hl];exact h3
  rw[Yh,if_neg (by simpa using H),if_neg (by simpa using I)];exact yX l (s++[x.nm]) (λy hy=>hx y (Lk _ hy)) (by simpa using E)
theorem QaU:∀{k:Nat},k<5→YD (nm1 97 k)=true
 | 0,_=>by decide
 | 1,_=>by decide
 | 2,_=>by decide
 | 3,_=>by decide
 | 4,_=>by decide
theorem V4 {seen:List ByteArray}{k n:Nat}(hk:k<5)(hs:nm1 97 k∉seen):Xc seen (JS k n)=0:=by
 have E:(JS k n).nm=nm1 97 k:=by unfold JS;split <;> rfl
 unfold Xc;rw[E,if_neg (by rw[QaU hk];decide),if_neg hs];unfold JS;by_cases h:48≤n∧n<52
 ·rw[if_pos h];simp only[];rw[if_neg (by omega),if_neg (by simp)]
 rw[if_neg h];simp only[];rw[if_neg (by omega),if_neg (by simp)]
theorem Qhw (ns:LN):XM (X3 ns 5)=0:=by
 have e:X3 ns 5=[JS 0 (ns.getD 0 0),JS 1 (ns.getD 1 0),JS 2 (ns.getD 2 0),JS 3 (ns.getD 3 0),JS 4 (ns.getD 4 0)]:=rfl;have E:∀k n,(JS k n).nm=nm1 97 k:=λk n=>by unfold JS;split <;> rfl
 unfold XM;rw[if_neg (by rw[KT];decide),e];simp only[V8,E];rw[V4 (by decide) (by decide),V4 (by decide) (by decide),V4 (by decide) (by decide),V4 (by decide) (by decide),V4 (by decide) (by decide)];simp
theorem D25.ck {c:ZA}(h:D25 c):Zk c=0:=by
 have T:=h.c3;have U:=h.r2;have G:c.ev.length=5:=h.ev.1;obtain⟨V,k1,k2,k3⟩:=Qed (nev:=c.ev.length) (al:=Ka c.ev.length) (QiN _) c.co [] [] List.Pairwise.nil (λx hx=>by
  obtain⟨h1,h2,h3⟩:=h.co x hx;refine⟨h1,h2,λe he=>?_⟩;have:=h3 e he;have:=(h2.ok.al e he).1;rw[G,QiM];exact⟨by omega,by omega,by omega⟩) (by
  have:=h.nd;rw[Mx]at this;simpa using this.1)
 have H:=Qea (nev:=c.ev.length) k2 c.rq (c.co.map (·.nm)) (λx hx=>by
  obtain⟨h1,h2,h3⟩:=h.rq x hx;refine⟨h1,h2,λe he=>?_⟩;obtain⟨y,hy,h4⟩:=h3 e he;have:=(h.co y hy).2.2 e h4;exact⟨by omega,(k3 e).2 (.inr ⟨y,hy,h4⟩)⟩) h.nd
 unfold Zk;rw[if_neg (not_not_intro h.ev.2),if_neg h.c0,if_neg (by omega),k1];simp only[List.nil_append];rw[if_neg (by simp),if_neg (by simpa using H)];unfold YE;have Y:(szs c.co).length=c.co.length:=by unfold szs;simp
 have ha:=h.x2;have hk1:=h.k1;have I:¬(szs c.co).any J1=true:=by
  intro hb;obtain⟨n,h1,h2⟩:=M6.1 hb;unfold szs at h1;obtain⟨x,hx,rfl⟩:=Lx.1 h1;have:=(h.co x hx).2.1;have h3:=this.p;have h4:=this.s;unfold J1 at h2;simp at h2;omega
 rw[if_neg (by omega),if_neg I,if_neg (by omega),if_neg (by simpa using yX c.ex [] h.ex (by simpa using h.xn))];rcases E:c.cs with _|⟨x,l⟩
 ·rfl
 have hl:l=[]:=Lr (by rw[E,LG]at hk1;omega);obtain⟨h1,h2⟩:=h.cs x (by rw[E];exact Lp);have J:Kz [] x.nm=0:=by unfold Kz;rw[if_neg (by rw[h1];decide),if_neg (by simp)]
 rw[hl,YT,if_neg (by simpa using J),if_neg (by simpa using h2)];rfl
end Go.Proofs.YtjcgijbhaemldaaGreatDoor
namespace Go.Proofs
open Go.Proofs.Tryz
open Go.Shelf
def Tryz.sortI_ren:Go.Shelf.Ren:=⟨λ|5=>109|8=>165|7=>164|19=>207|20=>208|10=>199|11=>200|12=>201|13=>202|14=>203|15=>204|16=>107|17=>205|18=>206|30=>230|31=>231|32=>232|33=>233|34=>234|35=>163|40=>246|n=>n,λ|23=>39|25=>3|3=>3|32=>218|22=>39|0=>0|44=>332|46=>334|4=>4|36=>326|35=>325|41=>141|5=>5|9=>9|53=>351|57=>355|63=>366|64=>284|n=>n,λ|n=>n⟩
theorem Tryz.sortI:Go.Proofs.SlLaysM.n5 prog Tryz.sortI_ren:={
 mixed:=by kernel_rfl
 f5:=⟨Tryz.f109.name,by decide,func109.trans (congrArg some (by kernel_rfl))⟩
 f7:=⟨Tryz.f164.name,by decide,func164.trans (congrArg some (by kernel_rfl))⟩
 f8:=func165.trans (congrArg some (by kernel_rfl))
 f10:=⟨Tryz.f199.name,by decide,func199.trans (congrArg some (by kernel_rfl))⟩
 f11:=⟨Tryz.f200.name,by decide,func200.trans (congrArg some (by kernel_rfl))⟩
 f12:=⟨Tryz.f201.name,by decide,func201.trans (congrArg some (by kernel_rfl))⟩
 f13:=⟨Tryz.f202.name,by decide,func202.trans (congrArg some (by kernel_rfl))⟩
 f14:=⟨Tryz.f203.name,by decide,func203.trans (congrArg some (by kernel_rfl))⟩
 f15:=⟨Tryz.f204.name,by decide,func204.trans (congrArg some (by kernel_rfl))⟩
 f16:=⟨Tryz.f107.name,by decide,func107.trans (congrArg some (by kernel_rfl))⟩
 f17:=⟨Tryz.f205.name,by decide,func205.trans (congrArg some (by kernel_rfl))⟩
 f18:=⟨Tryz.f206.name,by decide,func206.trans (congrArg some (by kernel_rfl))⟩
 f19:=func207.trans (congrArg some (by kernel_rfl))
 f20:=func208.trans (congrArg some (by kernel_rfl))
 f30:=⟨Tryz.f230.name,by decide,func230.trans (congrArg some (by kernel_rfl))⟩
 f31:=func231.trans (congrArg some (by kernel_rfl))
 f32:=func232.trans (congrArg some (by kernel_rfl))
 f33:=⟨Tryz.f233.name,by decide,func233.trans (congrArg some (by kernel_rfl))⟩
 f34:=⟨Tryz.f234.name,by decide,func234.trans (congrArg some (by kernel_rfl))⟩
 f35:=⟨Tryz.f163.name,by decide,func163.trans (congrArg some (by kernel_rfl))⟩
 f40:=⟨Tryz.f246.name,by decide,func246.trans (congrArg some (by kernel_rfl))⟩
 t0:=underlying0
 a0:=Tryz.isAgg0
 z0:=Tryz.sizeOf0
 v0:=Tryz.zeroValue0
 t3:=underlying3
 a3:=Tryz.isAgg3
 z3:=Tryz.sizeOf3
 v3:=Tryz.zeroValue3
 t4:=underlying4
 a4:=Tryz.isAgg4
 z4:=Tryz.sizeOf4
 v4:=Tryz.zeroValue4
 t5:=underlying5
 a5:=Tryz.isAgg5
 z5:=Tryz.sizeOf5
 v5:=Tryz.zeroValue5
 t9:=underlying9
 a9:=Tryz.isAgg9
 z9:=Tryz.sizeOf9
 v9:=Tryz.zeroValue9
 t22:=underlying39
 a22:=Tryz.isAgg39
 z22:=Tryz.sizeOf39
 v22:=Tryz.zeroValue39
 t23:=underlying39
 a23:=Tryz.isAgg39
 z23:=Tryz.sizeOf39
 v23:=Tryz.zeroValue39
 t25:=underlying3
 a25:=Tryz.isAgg3
 z25:=Tryz.sizeOf3
 v25:=Tryz.zeroValue3
 t32:=underlying218
 a32:=Tryz.isAgg218
 z32:=Tryz.sizeOf218
 v32:=Tryz.zeroValue218
 t35:=underlying325
 a35:=Tryz.isAgg325
 z35:=Tryz.sizeOf325
 v35:=Tryz.zeroValue325
 t36:=underlying326
 a36:=Tryz.isAgg326
 z36:=Tryz.sizeOf326
 v36:=Tryz.zeroValue326
 t41:=underlying141
 a41:=Tryz.isAgg141
 z41:=Tryz.sizeOf141
 v41:=Tryz.zeroValue141
 t44:=underlying332
 a44:=Tryz.isAgg332
 z44:=Tryz.sizeOf332
 v44:=Tryz.zeroValue332
 t46:=underlying334
 a46:=Tryz.isAgg334
 z46:=Tryz.sizeOf334
 v46:=Tryz.zeroValue334
 t53:=underlying351
 a53:=Tryz.isAgg351
 z53:=Tryz.sizeOf351
 v53:=Tryz.zeroValue351
 t57:=underlying355
 a57:=Tryz.isAgg355
 z57:=Tryz.sizeOf355
 v57:=Tryz.zeroValue355
 t63:=underlying366
 a63:=Tryz.isAgg366
 z63:=Tryz.sizeOf366
 v63:=Tryz.zeroValue366
 t64:=underlying284
 a64:=Tryz.isAgg284
 z64:=Tryz.sizeOf284
 v64:=Tryz.zeroValue284 }
def Tryz.cmpI_ren:Go.Shelf.Ren:=⟨λ|43=>110|n=>n,λ|22=>39|23=>3|3=>3|4=>4|0=>0|n=>n,λ|n=>n⟩
theorem Tryz.cmpI:Go.Proofs.SlLaysE.n43 prog Tryz.cmpI_ren:={
 mixed:=by kernel_rfl
 f43:=⟨Tryz.f110.name,by decide,func110.trans (congrArg some (by kernel_rfl))⟩
 t0:=underlying0
 a0:=Tryz.isAgg0
 z0:=Tryz.sizeOf0
 v0:=Tryz.zeroValue0
 t3:=underlying3
 a3:=Tryz.isAgg3
 z3:=Tryz.sizeOf3
 v3:=Tryz.zeroValue3
 t4:=underlying4
 a4:=Tryz.isAgg4
 z4:=Tryz.sizeOf4
 v4:=Tryz.zeroValue4
 t22:=underlying39
 a22:=Tryz.isAgg39
 z22:=Tryz.sizeOf39
 v22:=Tryz.zeroValue39
 a23:=Tryz.isAgg3
 z23:=Tryz.sizeOf3 }
def Tryz.delI_ren:Go.Shelf.Ren:=⟨λ|10=>61|6=>111|n=>n,λ|22=>39|23=>3|25=>149|3=>3|4=>4|0=>0|n=>n,λ|n=>n⟩
theorem Tryz.delI:Go.Proofs.SlLaysH.n10 prog Tryz.delI_ren:={
 mixed:=by kernel_rfl
 f6:=⟨Tryz.f111.name,by decide,func111.trans (congrArg some (by kernel_rfl))⟩
 f10:=⟨Tryz.f61.name,by decide,func61.trans (congrArg some (by kernel_rfl))⟩
 t0:=underlying0
 a0:=Tryz.isAgg0
 z0:=Tryz.sizeOf0
 v0:=Tryz.zeroValue0
 t3:=underlying3
 a3:=Tryz.isAgg3
 z3:=Tryz.sizeOf3
 v3:=Tryz.zeroValue3
 t4:=underlying4
 a4:=Tryz.isAgg4
 z4:=Tryz.sizeOf4
 v4:=Tryz.zeroValue4
 t22:=underlying39
 a22:=Tryz.isAgg39
 z22:=Tryz.sizeOf39
 v22:=Tryz.zeroValue39
 a23:=Tryz.isAgg3
 z23:=Tryz.sizeOf3
 t25:=underlying149
 a25:=Tryz.isAgg149
 z25:=Tryz.sizeOf149
 v25:=Tryz.zeroValue149 }
end Go.Proofs
namespace Go.Proofs.YtjcgijbhaemldaaGreatDoor
open Go.Proofs.Tryz
open Go.Lg Go.Sort Go.Lib
abbrev iC:Int→Value:=Value.int .i64
theorem Uo {e:Nat}{w:World}{l:LI}{g:Nat}{cur:Array Value}(E:w.heap[g]?=some (.cells cur e (0,0)))(G:cur.toList.take (l.length*1)=l.map iC):Holds iC w g 0 l.toArray:=by
 intro j hj;rw[L8]at hj;have h1:cur.toList[j]?=some (iC l[j]):=by
  have h2:(cur.toList.take (l.length*1))[j]?=(l.map iC)[j]?:=by rw[G]
  rw[L1,if_pos (by omega),MW,Lz hj]at h2;exact h2
 have h3:l.toArray[j]! = l[j]:=by simp[hj]
 constructor
 ·show(match w.heap[g]? with|some (.cells c _ _)=>if(none:Option _).isSome then none else c[0+j]?|_=>none)=_
  rw[E,h3];simp only[Nat.zero_add,Option.isSome_none,Bool.false_eq_true,if_false];rw[←M2,h1]
 show(match w.heap[g]? with|some (.cells _ _ (lo,hi))=>decide (lo≤0+j) && decide (0+j<hi)|_=>false)=false
 rw[E];simp
theorem jz {e base:Nat}{w:World}{g cap n k:Nat}{cur:Array Value}{os:Array Obj}{d:Array Int}(I:base≤g)(H:w.heap[g]?=some (.cells cur e (0,0)))(hb:d.size≤cap)(J:cap≤maxLen)(T:cur.size=cap*1)(hk:k≤d.size):
  Step [g] w (grow (putRow iC (Sort.ahead w n) g 0 d) os)∧Qt e base (grow (putRow iC (Sort.ahead w n) g 0 d) os) (.slice (some ⟨g,0,none⟩) k cap) (d.toList.take k):=by
 have U:g<w.heap.size:=(LD.1 H).1;have E:(grow (putRow iC (Sort.ahead w n) g 0 d) os).heap=w.heap.modify g (onCells (putCells iC 0 d))++os:=rfl;have V:(d.toList.take k).length=k:=by simp;omega
 refine⟨⟨O,O,O,?_,λi hi Y=>?_⟩,?_⟩
 ·rw[E,Array.size_append,MX];omega
 ·rw[E,MO,MX,if_pos hi,Nl,if_neg (λe=>Y (by simp[e]))]
 unfold Qt;rw[V];refine⟨by simp;omega,.inr ⟨g,cap,putCells iC 0 d cur,O,I,?_,by omega,J,by simp[putCells,T],?_⟩⟩
 ·rw[E,MO,MX,if_pos U,Nl,if_pos rfl,H];rfl
 apply Nq;intro j;rw[L1,MW,L1];by_cases hj:j<k
 ·rw[if_pos (by omega),if_pos hj];have ha:j<cur.size:=by omega
  have G:j<d.size:=by omega
  rw[M2,M2,ML G];simp only[putCells,Array.getElem?_mapIdx,Array.getElem?_eq_getElem ha,Option.map_some,Nat.zero_le,Nat.zero_add,true_and,if_pos G,Nat.sub_zero];rw[getElem!_pos d j G]
 rw[if_neg (by omega),if_neg hj];rfl
theorem Qez {w:World}{base:Nat}{v:Value}{l:LI}(h:Qt 3 base w v l)(hl:l.length≤1099511627776):
  QE prog 109 [v] w λ_ w'=>Step (ob v) w w'∧Qt 3 base w' v (l.mergeSort λx y=>decide (x≤y)):=by
 unfold QE;rcases h.2 with⟨rfl,H⟩|⟨g,cap,cur,rfl,I,E,ha,J,T,U⟩
 ·have V:l=[]:=Lr H;subst V;have hc:=AnyM.slices_Sort_int_none Tryz.sortI none 0 w;change Calls prog 109 _ _ _ at hc;refine Calls.mono hc λe w' he=>?_;obtain⟨rfl,rfl⟩:=he;exact⟨Step.refl _ _,by rw[List.mergeSort_nil];exact h⟩
 have Y:g<w.heap.size:=(LD.1 E).1;have hc:=AnyM.slices_Sort_int Tryz.sortI g 0 cap l w (Uo E U) Y (by omega);change Calls prog 109 _ _ _ at hc;refine Calls.mono hc λe w' he=>?_;obtain⟨rfl,n,os,rfl⟩:=he;have hp:=List.mergeSort_perm l (λx y=>decide (x≤y));have G:=hp.length_eq
 have:=jz (e:=3) (n:=n) (k:=l.length) (os:=os) (d:=(l.mergeSort λx y=>decide (x≤y)).toArray) I E (by simp;omega) J T (by simp);refine⟨this.1,?_⟩;have h2:=this.2;simp only[List.take_of_length_le (Nat.le_of_eq G)]at h2;unfold Qt at h2 ⊢;rw[G]at h2 ⊢;exact h2
theorem QfY {w:World}{base:Nat}{v:Value}{l:LI}(h:Qt 3 base w v l)(hl:l.length≤1099511627776):
  QE prog 109 [v] w λ_ w'=>Step (ob v) w w'∧∃l',l'.length=l.length∧(∀x,x∈l'↔x∈l)∧Qt 3 base w' v l' :=
 (Qez h hl).mono λ_ _ ⟨h1,h2⟩=>⟨h1,_,(List.mergeSort_perm l _).length_eq,λ_=>(List.mergeSort_perm l _).mem_iff,h2⟩
theorem Qd7 (l:LI):∀m,m≤l.length→∀x,x∈compactUpTo l.toArray m↔x∈l.take m
 | 0,_,x=>by simp[compactUpTo]
 | m+1,h,x=>by
  have ih:=Qd7 l m (by omega) x;have hm:m<l.length:=by omega
  have hx:l.toArray[m]! = l[m]:=by simp[hm]
  rw[compactUpTo_succ,Lq,ih,Le hm,Lq,hx,Lb];by_cases hk:keeps l.toArray m=true
  ·rw[if_pos hk,Lb]
  rw[if_neg hk];refine⟨λh=>.inl (h.resolve_right (by simp)),λh=>.inl (h.elim id λe=>?_)⟩;simp only[keeps,decide_eq_true_eq,not_or]at hk;have E:m≠0:=by simpa using hk.1
  have h1:l.toArray[m]! = l.toArray[m - 1]!:=by simpa using hk.2
  have h2:l.toArray[m - 1]! = l[m - 1]:=by simp[show m - 1<l.length by omega]
  rw[e,←hx,h1,h2];rw[List.mem_take_iff_getElem];exact⟨m - 1,by omega,O⟩
theorem Qkm {w:World}{base:Nat}{v:Value}{l:LI}(h:Qt 3 base w v l)(hl:l.length≤1099511627776):
  QE prog 110 [v] w λr w'=>Step (ob v) w w'∧∃l',l'.length≤l.length∧(∀x,x∈l'↔x∈l)∧Qt 3 base w' r l':=by
 rcases h.2 with⟨rfl,G⟩|⟨g,cap,cur,rfl,H,E,I,J,T,U⟩
 ·have V:l=[]:=Lr G;subst V;refine QE.of_W func110 O ntmps110 results110 (by simp) ?_;refine Qc<|Qe<|Qg<|Qc<|Qb<|x (qI O)<|x (Qz O O)<|xe<|Q4 O (λ_=>?_) (λY=>absurd (by decide) Y);refine Qc<|Qb<|Qe ?_;exact Qk ⟨[nS],La,Step.refl _ _,[],Lt _,λx=>Iff.rfl,h⟩
 unfold QE;have hc:=AnyE.slices_Compact Tryz.cmpI iC (λ_=>O) (.intD _ _ .i64) (.intD _ _ .i64) 0 (λw=>by kernel_rfl) g 0 cap l.toArray w (Uo E U) (by simp;omega) (by simpa using I);change Calls prog 110 _ _ _ at hc;rw[L8]at hc;refine Calls.mono hc λe w' he=>?_;obtain⟨rfl,q,rfl⟩:=he;have hm:=Qd7 l l.length (Lt _);rw[M5]at hm
 have ha:(compactUpTo l.toArray l.length).length≤l.length:=by
  unfold compactUpTo;rw[Lh];exact LJ (L3 _ _) (by simp)
 generalize compactUpTo l.toArray l.length=u at *;have:=jz (e:=3) (n:=q) (k:=u.length) (os:=#[]) (d:=(u++List.replicate (l.length - u.length) 0).toArray) H E (by simp;omega) J T (by simp);rw[grow_empty]at this;refine⟨this.1,u,ha,hm,?_⟩;have h2:=this.2;have h3:(u++List.replicate (l.length - u.length) 0).toArray.toList.take u.length=u:=by simp
 rw[h3]at h2;exact h2
theorem QbZ {w:World}{va vb:Value}{a b:LI}(ha:QH [] w.heap va a)(hb:QH [] w.heap vb b)(hl:a.length+b.length≤1000):
  QE prog 59 [va,vb] w λr w'=>Step [] w w'∧∃l,l.length≤a.length+b.length∧(∀x,x∈l↔x∈a∨x∈b)∧Qt 3 w.heap.size w' r l:=by
 refine QE.of_W func59 O ntmps59 results59 (by simp) ?_;refine Qc<|Qe<|Qc<|Qb<|xl O<|xf<|(Yv ha).mono ?_;rintro v1 w1 ⟨E,G⟩;have hk:=E.size;refine Qb<|xl O<|Qck G O (hb.ext E) O (qL b) (by omega) (by omega) λT H U V hm=>Qe ?_;have I:Qt 3 w.heap.size H T (a++b):=by
  unfold Qt;rw[Lj,Lv];exact U
 have Y:Step [] w H:=E.then V (λc hc=>.inr (Qp G c hc).1);have hn:(a++b).length=a.length+b.length:=Lj;refine Qc<|Qb<|xl O<|xf<|(QfY I (by omega)).mono ?_;rintro r3 w3 ⟨he,l3,ho,hf,J⟩;have hg:Step [] w w3:=Y.then he (λc hc=>.inr (Qp I c hc).1);refine xe<|Qc<|Qb<|xl O<|xf<|(Qkm J (by omega)).mono ?_;rintro r4 w4 ⟨hh,l4,hp,hi,hj⟩
 refine Qe ?_;exact Qk ⟨[_],La,hg.then hh (λc hc=>.inr (Qp J c hc).1),l4,by omega,λx=>by rw[hi,hf,Lq],hj⟩
theorem qY {w:World}{v:Value}{al:LI}{ns:LN}(h:QH [] w.heap v al)(hb:∀e∈al,0≤e∧e<32)(hi:Yn al)(hn:ns.length=27)(J:∀n∈ns,n<256):
  QE prog 60 [v,.agg (bys ns).toArray,.int .i64 3] w λr w'=>Step [] w w'∧∃a:QO,Y2 w.heap.size w'.heap r a∧zO a∧a.al=al:=by
 refine QE.of_W func60 O ntmps60 results60 (by simp) ?_;refine Qc<|xl O<|QQ (us:=bys ns) O λb4 w1 hh hj E=>xl O<|Qu (us:=[nS,.int .i64 0,nS,nS]) O λb6 w2 G hs T=>xe ?_;obtain⟨s0,hk⟩:∃s0,ns.getD 0 0=s0:=⟨_,O⟩;have U:ns[0]?=some s0:=by
  rw[←hk,MH,Lz (by omega)];rfl
 have ht:s0<256:=J s0 (Md U);have q0:(bys ns)[0]?=some (.int .u8 (s0:Int)):=by
  unfold bys;rw[MW,U];rfl
 have hl:=hh.trans G;have hu:=E.lt;have hw:=T.lt;refine Qc<|x (Qa O)<|x (Qd (E.ext G) O q0)<|Qb<|x (ZQ (k':=.u8) O ⟨by omega,by omega⟩)<|x (JZ (a:=(s0:Int)) (b:=3) O O (by omega) (by omega))<|x (Qa O)<|xl O<|QB (u:=.int .u8 ((s0 % 3:Nat):Int)) (E.ext G) O (congrArg (Value.int .u8) (by omega:(s0:Int) % 3=((s0 % 3:Nat):Int))) (by rw[ZG];omega) O λw3 H V =>
  xe ?_
 have I:Step [] w w3:=hl.then1 H hj;rw[zz]at V;have Y:(ns.set 0 (s0 % 3)).length=27:=by rw[MD];exact hn
 have ha:(ns.set 0 (s0 % 3)).getD 0 0=s0 % 3:=qA (by omega);refine Qc<|Qb<|x (Qn V O (by rw[ZG];exact Y))<|xl O<|xf<|(Us (h.ext I) hb hi Y (jo J (by omega))).mono ?_;rintro r4 w4 ⟨he,a,hA,hy,_,hm,hc⟩;obtain⟨a0,k0,k1,k2,k3⟩:=hc (by rw[ha];omega);rw[ha]at k2;obtain⟨us,hv,hf,ho⟩:=Xk hA
 have hp:QT w4.heap b6 50 [nS,.int .i64 0,nS,nS]:=(T.step H (by simp only[List.mem_singleton];omega)).ext he;have hq:=I.size;have hz:=H.size;refine xl rfl<|Qo (us:=us) hp O (show Go.Lg.ev _ _=_ from hv) hf O ho λw5 hg hr=>xe ?_
 refine Qk ⟨[.agg us.toArray],⟨⟨_,O,Qw hf (hr.at (L:=[]) (by simp)).cells⟩,Z⟩,(I.trans he).then1 hg (by omega),a,?_,zO.of k0 k1 k2 k3 (Nat.mod_lt _ (by decide)),hm⟩;show Y2 _ _ (.agg us.toArray) _;rw[←hv];exact(Yl hA (by omega) hg).mono hq
end Go.Proofs.YtjcgijbhaemldaaGreatDoor
namespace Go.Lg
section
variable {P:Program}{f:Fr}{w:World}{d:Option Nat}{ty:Nat}{ps:String}{af:Array Edge}{gd:Option (Nat×Bool)}
theorem Qcc {t E:Nat}{k:IntKind}[h:Ik P t k][h':St P E]{x:Operand}{n:Nat}{G:IntKind}(hx:ev f x=.int G n)(H:n<128):
  (execOp (ev f) ⟨d,.convert t E x,ty,ps,af,gd⟩).run P w=.ok (.value (.string ⟨#[UInt8.ofNat n]⟩)) w:=by
 refine U4 hx ?_;rw[run_convert_int_string w t E G n (by rw[h.u];rfl) h'.u];have I:Utf8.valid (n:Int)=true:=by
  unfold Utf8.valid;simp;omega
 unfold Utf8.encode;simp only[I,if_true,Int.toNat_natCast,H]
theorem Qge {t E:Nat}{x y:Operand}{k:IntKind}{a b:Int}(hx:ev f x=.int k a)(hy:ev f y=.int k b)(hb:b≠0):
  (execOp (ev f) ⟨d,.binOp .rem t x y E,ty,ps,af,gd⟩).run P w=.ok (.value (.int k (a.tmod b))) w:=by
 refine Xu hx hy ?_;simp[binOp,Op.intDiv,hb]
end
end Go.Lg
namespace Go.Proofs.YtjcgijbhaemldaaGreatDoor
open Go.Proofs.Tryz
open Go.Lg Go.Sort
theorem QlG {L:LN}{b T:Nat}{va:Value}{al:LI}(e:Int)(w:World)(E:QT w.heap b T [va])(G:QH L w.heap va al):
  QE prog 62 ([.int .i64 e]++[.pointer (some ⟨b,0,none⟩)]) w λr w'=>r=.bool (decide (e∉al))∧w'=w:=by
 refine QE.of_W func62 O ntmps62 results62 (by simp) ?_;refine Qc<|Qe<|Qc<|x (Qd E O O)<|Qb<|xl O<|xf<|(Yb G e).mono ?_;rintro H I ⟨rfl,rfl⟩;refine x (Zq O)<|Qe<|Qk ⟨[_],La,?_,O⟩;show Value.bool (!decide (e∈al))=_;rw[decide_not]
theorem yz {L:LN}{b T:Nat}{va:Value}{al:LI}(e:Int)(w:World)(E:QT w.heap b T [va])(G:QH L w.heap va al):
  FnGives prog 62 #[.pointer (some ⟨b,0,none⟩)] #[iC e] (.bool (decide (e∉al))) w:=by
 have h:=QlG e w E G;unfold QE at h;unfold FnGives;refine Calls.mono h λH w' he=>?_;cases H with
 | returned v =>
  obtain⟨rfl,rfl⟩:=he;exact⟨O,0,O⟩
 | _=>exact he.elim
theorem Qls {w:World}{g n:Nat}{os:Array Obj}{d:Array Int}:Step [g] w (grow (putRow iC (Sort.ahead w n) g 0 d) os):=by
 have E:(grow (putRow iC (Sort.ahead w n) g 0 d) os).heap=w.heap.modify g (onCells (putCells iC 0 d))++os:=rfl;refine⟨O,O,O,?_,λi hi G=>?_⟩
 ·rw[E,Array.size_append,MX];omega
 rw[E,MO,MX,if_pos hi,Nl,if_neg (λe=>G (by simp[e]))]
theorem Qkg {w:World}{base b T:Nat}{v va:Value}{l al:LI}(h:Qt 3 base w v l)(hl:l.length≤1099511627776)(G:QT w.heap b T [va])(hb:b∉ob v)(H:QH (ob v) w.heap va al):
  QE prog 61 [v,.func (.func 62) #[] #[.pointer (some ⟨b,0,none⟩)]] w λr w'=>Step (ob v) w w'∧Qt 3 base w' r (l.filter λx=>decide (x∈al)):=by
 have eg:∀args w,(callFunc 62 args).run prog w=.ok (.enter 62 args) w:=enters_of func62 (by kernel_rfl) O;rcases h.2 with⟨rfl,V⟩|⟨g,cap,cur,rfl,Y,I,ha,hh,hi,hj⟩
 ·have hm:l=[]:=Lr V;subst hm;refine QE.of_W func61 O ntmps61 results61 (by simp) ?_;refine Qc<|Qe<|Qc<|Qb<|Qb<|xl O<|xf<|(QgX (cap:=[.pointer (some ⟨b,0,none⟩)]) (q:=λ_=>true) (QH.fl (XJ [] w.heap)) (λe he=>by cases he)).mono ?_;rintro r1 w1 ⟨rfl,J⟩;refine Qe<|Qg<|Qc<|Qb<|x (Zl O O)<|xe<|Q4 O (λ_=>?_) (λh8=>absurd O h8);refine Qc<|Qb<|Qe ?_
  exact Qk ⟨[nS],La,J,Qs h J⟩
 unfold QE;have U:=λ(n:Nat) (os:Array Obj) (d:Array Int)=>Qls (w:=w) (g:=g) (n:=n) (os:=os) (d:=d);have hn:b∉[g]:=hb;have ho:QH [g] w.heap va al:=H;have hc:=AnyE.slices_DeleteFunc Tryz.delI iC (λ_=>O) (λx=>decide (x∉al)) 62 #[.pointer (some ⟨b,0,none⟩)] eg 0 (λw=>by kernel_rfl) g 0 cap l.toArray w
  (λW x E=>by
   have hs:Step [] w W:=⟨E.os,E.tape,E.output,E.size,λk hk _=>E.block k hk⟩;exact yz x W (G.ext hs) (H.ext hs))
  (λn os dk x _=>yz x _ (G.step (U n os dk) hn) (ho.st (U n os dk)))
  (Uo I hj) (by simp;omega) (by simpa using ha)
 change Calls prog 61 _ _ _ at hc;rw[L8]at hc;refine Calls.mono hc λe w' he=>?_;obtain⟨rfl,q,rfl⟩:=he;have hf:(l.toArray.toList.filter λx=>!decide (x∉al))=l.filter λx=>decide (x∈al):=by
  refine List.filter_congr λx _=>?_;by_cases hx:x∈al <;> simp[hx]
 rw[hf];have hp:=L3 (λx=>decide (x∈al)) l;generalize (l.filter λx=>decide (x∈al))=u at *;have:=jz (e:=3) (n:=q) (k:=u.length) (os:=#[]) (d:=(u++List.replicate (l.length - u.length) 0).toArray) Y I (by simp;omega) hh hi (by simp);rw[grow_empty]at this;refine⟨this.1,?_⟩;have h2:=this.2
 have h3:(u++List.replicate (l.length - u.length) 0).toArray.toList.take u.length=u:=by simp
 rw[h3]at h2;exact h2
end Go.Proofs.YtjcgijbhaemldaaGreatDoor
namespace Go.Lg
section
variable {P:Program}{f:Fr}{w:World}{K:Fr→World→Prop}{d:Option Nat}{ty:Nat}{ps:String}{af:Array Edge}{gd:Option (Nat×Bool)}
theorem Qjh {t e sz bys:Nat}{z:Value}[h:Sl P t e sz bys z](Y:∀u∈z.cells,u.oneCell'=true){s:Operand}{b o m c T:Nat}{cs:LV}(H:QT w.heap b T cs)(hs:∃E,ev f s=.slice (some ⟨b,E,none⟩) m c∧(0<m→E=o∧o+m*sz≤cs.length))
  (U:∀w' cs',Step [b] w w'→QT w'.heap b T cs'→cs'.length=cs.length→cs'.take o=cs.take o→K (QZ f d (.tuple #[])) w'):XO P ⟨d,.call ⟨.builtin .clear,#[s],#[t]⟩,ty,ps,af,gd⟩ f w K:=by
 obtain⟨E,hs,hm⟩:=hs;obtain⟨i,hi,hz,hc,_⟩:=Sl.info h;have ha:=h.zs;rcases Nat.eq_zero_or_pos m with rfl|hmp
 ·have I:(execOp (ev f) ⟨d,.call ⟨.builtin .clear,#[s],#[t]⟩,ty,ps,af,gd⟩).run P w=.ok (.value (.tuple #[])) w:=by
   simp[execOp,resolve,invoke,builtin,hs,Builtin.clear_,run_underlying h.u]
  exact xv I (U w cs (Step.refl _ _) H O O)
 obtain⟨rfl,he⟩:=hm hmp;have hb:(Builtin.zeroCells z.cells m).toList.length=m*sz:=by simp[Builtin.zeroCells,ha]
 have J:=run_storeCells_at P b E T (Builtin.zeroCells z.cells m).toList 0 cs.toArray w H (by simp only[List.size_toArray];omega) (λu hu=>by
  simp only[Builtin.zeroCells,Array.toList_map,List.mem_map]at hu;obtain⟨j,hj,rfl⟩:=hu;have hf:=h.pos;have V:j % z.cells.size<z.cells.size:=Nat.mod_lt _ (by omega);rw[getElem!_pos z.cells _ V];exact Y _ (Array.getElem_mem V))
 simp only[Nat.add_zero]at J;obtain⟨G,rfl⟩:∃G,m=G+1:=⟨m - 1,by omega⟩;have I:(execOp (ev f) ⟨d,.call ⟨.builtin .clear,#[s],#[t]⟩,ty,ps,af,gd⟩).run P w=.ok (.value (.tuple #[])) (w.setRow b ((cs.take E++(Builtin.zeroCells z.cells (G+1)).toList++cs.drop (E+(Builtin.zeroCells z.cells (G+1)).toList.length))).toArray):=by
  simp[execOp,resolve,invoke,builtin,hs,Builtin.clear_,run_underlying h.u,zeroValue,typeInfo,hi,hz]at J ⊢;simp[J]
 refine xv I (U _ _ (Step.setRow _ _ _) (JL H) ?_ ?_)
 ·simp only[List.length_append,List.length_take,List.length_drop,hb];omega
 rw[LB,List.take_append_of_le_length (by simp;omega),List.take_take,Nat.min_self]
theorem Kw {α:Type}{sz:Nat}{g:α→LV}(E:∀x,(g x).length=sz):∀(l:List α) (i:Nat) (u:α),i<l.length→(l.set i u).flatMap g=(l.flatMap g).take (i*sz)++g u++(l.flatMap g).drop (i*sz+sz)
 | [],i,u,h=>absurd h (by simp)
 | a::l,0,u,h=>by
  rw[List.set_cons_zero,LH,LH,Nat.zero_mul,Nj,Mb,LO,List.drop_append_of_le_length (by rw[E a];exact Lt _),Ls (by rw[E a];exact Lt _),Mb]
 | a::l,i+1,u,h=>by
  have h1:(i+1)*sz=(g a).length+i*sz:=by rw[E a,Nat.succ_mul];omega
  have h2:(i+1)*sz+sz=(g a).length+(i*sz+sz):=by omega
  have G:∀(F:LV) k,(g a++F).take ((g a).length+k)=g a++F.take k:=λF k=>by rw[Nw,Ln (l:=g a) (by omega),Mv]
  have H:∀(F:LV) k,(g a++F).drop ((g a).length+k)=F.drop k:=λF k=>by rw[List.drop_append,Ls (l:=g a) (by omega),Mb,Mv]
  rw[List.set_cons_succ,LH,LH,h2,h1,G,H,Kw E l i u (by simpa using h)];simp only[List.append_assoc]
theorem QeN {α:Type}{t sz:Nat}[h1:Ag P t sz]{g:α→LV}(E:∀x,(g x).length=sz){x y:Operand}{base e b cap i:Nat}{l:List α}{u:α}(h:w.ownsRow base e sz (.slice (some ⟨b,0,none⟩) l.length cap) l.length (l.flatMap g))(hx:ev f x=.pointer (some ⟨b,i*sz,none⟩))(hy:ev f y=.agg (g u).toArray)(hi:i<l.length)(hu:ZH (g u))
  (I:∀w',Step [b] w w'→w'.ownsRow base e sz (.slice (some ⟨b,0,none⟩) l.length cap) l.length ((l.set i u).flatMap g)→K (QZ f d undef) w'):XO P ⟨d,.store t x y,ty,ps,af,gd⟩ f w K:=by
 rcases h.2 with⟨e1,_⟩|⟨g',cap',cur,e1,J,T,G,U,V,Y⟩
 ·cases e1
 cases e1
 have hB:QT w.heap b e cur.toList:=T;have he:l.length*sz≤cap*sz:=My _ G;have ha:(i+1)*sz≤l.length*sz:=My _ hi;rw[Nat.succ_mul]at ha;have H:cur.toList.length=cap*sz:=by rw[Nt];exact V
 have hb:=h.1;refine Jy hB hx hy (E u) (by omega) hu O λw' hs hc=>I w' hs ⟨?_,.inr ⟨b,cap,_,O,J,hc,G,U,?_,?_⟩⟩
 ·rw[Kw E l i u hi];simp only[List.length_append,List.length_take,List.length_drop,E u,hb];omega
 ·simp only[List.size_toArray,List.length_append,List.length_take,List.length_drop,E u,H];omega
 have hX:(cur.toList.take (i*sz)++g u).length=i*sz+sz:=by simp only[List.length_append,List.length_take,E u,H];omega
 rw[Kw E l i u hi,←Y];show(cur.toList.take (i*sz)++g u++cur.toList.drop (i*sz+sz)).take (l.length*sz)=_;rw[Nw,Ln (by omega),hX,List.take_take,M0 (by omega),List.drop_take]
end
end Go.Lg
namespace Go.Proofs.YtjcgijbhaemldaaGreatDoor
open Go.Proofs.Tryz
open Go.Lg
theorem QgG (p:Int×Int)(w:World):QE prog 64 [.agg (QU p).toArray] w λr w'=>r=.bool (decide (p.2=0))∧Step [] w w':=by
 refine QE.of_W func64 O ntmps64 results64 (by simp) ?_;refine Qc<|xl O<|QQ (us:=QU p) O λH I E J G=>Qe<|Qc<|x (Qa O)<|x (Qd G O O)<|x (Zl O O)<|Qe ?_;exact Qk ⟨[_],La,O,E⟩
theorem QjM {gp:Nat}{fn:Func}[Fu prog gp fn]{cap:LV}{q:(Int×Int)→Bool}{L:LN}{w:World}{v:Value}{l:List (Int×Int)}(h:Zv L w.heap v l.length 2 (l.flatMap QU))
  (hk:∀e∈l,∀(G:World),Step [] w G→QE prog gp ([.agg (QU e).toArray]++cap) G λr w'=>r=.bool (q e)∧Step [] G w'):
  QE prog 112 [v,.func (.func gp) #[] cap.toArray] w λr w'=>r=.int .i64 (fix q 0 l)∧Step [] w w':=by
 have hb:=h.le;refine QE.of_W func112 O ntmps112 results112 (by simp) ?_;refine Qc<|Qe<|Qg<|Qc<|Qb<|x (Qr h O)<|Qb<|xe<|Qh<|QA (α:=Nat) [(4,5),(8,18)] (λz=>[(8,.int .i64 z)]) (λz w'=>z≤l.length∧Step [] w w'∧fix q z (l.drop z)=fix q 0 l) (λz=>l.length - z) (by rfl) 0 La
  ⟨Ll _,Step.refl _ _,O⟩ ?_
 rintro k g G ⟨hk1,H,E⟩;refine Qc<|x (Qz O O)<|xe<|Qg<|QC O (λh9=>?_) (λh9=>?_)
 ·refine Qy ?_;have Y:l.length≤k:=by have ha:¬(k:Int)<(l.length:Int):=h9;omega
  rw[Ls Y]at E;refine Qc<|Qe ?_;exact Qk ⟨[_],La,by rw[←E];rfl,H⟩
 have I:k<l.length:=by have ha:(k:Int)<(l.length:Int):=h9;omega
 rw[Q9 I,ZW]at E;have T:=Li I;refine Qi<|Qg<|Qh<|Qc<|Qb<|Qe<|Qc<|Qb<|Qb<|Qb<|xig Y3 (h.ext H) O O I λhc U=>?_;refine Zb (l[k]'I) λe he=>?_;rw[he]at U E T;refine x (QI U O O)<|xl O<|xc (first:=[]) (capt:=cap) O<|(hk e T G H).mono ?_;rintro r2 w2 ⟨rfl,V⟩;refine xe<|QY rfl (λJ=>?_) (λJ=>?_)
 ·rw[if_pos J]at E;refine Qc<|Qb<|Qe ?_;exact Qk ⟨[_],La,by rw[←E];rfl,H.trans V⟩
 rw[if_neg (by rw[J];decide)]at E;refine Qi<|Qx<|QM O O<|Qb<|xe ?_;exact⟨k+1,by omega,La,I,H.trans V,E⟩
end Go.Proofs.YtjcgijbhaemldaaGreatDoor
namespace Go.Lg
section
variable {P:Program}{f:Fr}{w:World}{K:Fr→World→Prop}{d:Option Nat}{ty:Nat}{ps:String}{af:Array Edge}{gd:Option (Nat×Bool)}
theorem QeG {t e sz bys:Nat}{z:Value}[h:Sl P t e sz bys z]{x E:Operand}{b n cap:Nat}{k:IntKind}{lo:Nat}(hx:ev f x=.slice (some ⟨b,0,none⟩) n cap)(hl:ev f E=.int k lo)(h1:lo≤n):
  (execOp (ev f) ⟨d,.slice t x (some E) none none,ty,ps,af,gd⟩).run P w=.ok (.value (.slice (some ⟨b,if cap=lo then 0 else lo*sz,none⟩) (n - lo) (cap - lo))) w:=by
 obtain⟨i,G,_,H,_⟩:=Sl.info h;have e2:(Instr.sliceBound (.int k lo) n .sliceB).run P w=.ok lo w:=ZU h1;by_cases I:cap=lo
 ·simp[execOp,hx,hl,Instr.sliceAt,Instr.slice,run_underlying h.u,Instr.sliceBounds,e2,sizeOf,typeInfo,G,H,I]
 simp[execOp,hx,hl,Instr.sliceAt,Instr.slice,run_underlying h.u,Instr.sliceBounds,e2,sizeOf,typeInfo,G,H,I,Addr.add];exact λe=>e.symm
theorem QeH {t e sz bys:Nat}{z:Value}[h:Sl P t e sz bys z]{x E:Operand}{b n cap:Nat}{k:IntKind}{hi:Nat}(hx:ev f x=.slice (some ⟨b,0,none⟩) n cap)(G:ev f E=.int k hi)(h1:hi≤cap):
  (execOp (ev f) ⟨d,.slice t x none (some E) none,ty,ps,af,gd⟩).run P w=.ok (.value (.slice (some ⟨b,0,none⟩) hi cap)) w:=by
 obtain⟨i,H,_,I,_⟩:=Sl.info h;have e2:(Instr.sliceBound (.int k hi) cap .sliceAcap).run P w=.ok hi w:=ZU h1;simp[execOp,hx,G,Instr.sliceAt,Instr.slice,run_underlying h.u,Instr.sliceBounds,e2,sizeOf,typeInfo,H,Addr.add]
end
end Go.Lg
namespace Go.Proofs.YtjcgijbhaemldaaGreatDoor
open Go.Proofs.Tryz
open Go.Lg
theorem yQ {α:Type}(q:α→Bool):∀(l:List α) (i:Nat),(fix q i l=-1∧∀x∈l,q x=false)∨∃k,k<l.length∧fix q i l=((i+k:Nat):Int)∧l.take k=(l.take (k+1)).filter λx=>!q x
 | [],i=>.inl ⟨O,λx h=>by cases h⟩
 | a::l,i=>by
  rw[ZW];by_cases h:q a=true
  ·rw[if_pos h];exact .inr ⟨0,by simp,by simp,by simp[h]⟩
  rw[if_neg h];have h':q a=false:=by simpa using h
  rcases yQ q l (i+1)with⟨h1,h2⟩|⟨k,h1,h2,h3⟩
  ·exact .inl ⟨h1,λx hx=>by rcases Lc.1 hx with rfl|hx;exact h';exact h2 x hx⟩
  exact .inr ⟨k+1,by simpa using h1,by rw[h2];congr 1;omega,by rw[MF,MF,Ma,if_pos (by simp[h']),←h3]⟩
theorem Qdu {w:World}{base e sz n b cap:Nat}{cs:LV}(h:w.ownsRow base e sz (.slice (some ⟨b,0,none⟩) n cap) n cs):n≤cap∧∃cur:LV,QT w.heap b e cur∧cur.length=cap*sz∧cur.take (n*sz)=cs:=by
 rcases h.2 with⟨e1,_⟩|⟨g',cap',cur,e1,J,E,G,T,H,I⟩
 ·cases e1
 cases e1
 exact⟨G,cur.toList,E,by rw[Nt];exact H,I⟩
theorem Qje {w w':World}{base e sz n b cap k:Nat}{cs E cur:LV}(h:w.ownsRow base e sz (.slice (some ⟨b,0,none⟩) n cap) n cs)(hk:k≤n)(G:QT w'.heap b e cur)(hl:cur.length=cap*sz)(ht:cur.take (k*sz)=E)(hc:E.length=k*sz):
  w'.ownsRow base e sz (.slice (some ⟨b,0,none⟩) k cap) k E:=by
 rcases h.2 with⟨e1,_⟩|⟨g',cap',cur',e1,H,J,T,I,U,V⟩
 ·cases e1
 cases e1
 exact⟨hc,.inr ⟨b,cap,cur.toArray,O,H,G,by omega,I,by rw[L8];exact hl,ht⟩⟩
theorem Kx {α:Type}{sz:Nat}{g:α→LV}(E:∀x,(g x).length=sz):∀l:List α,(l.flatMap g).length=l.length*sz
 | []=>by simp
 | a::l=>by rw[LH,Lj,Kx E l,E a,LG,Nat.succ_mul];omega
theorem Qdt:∀(l:List (Int×Int)) (k:Nat),(l.flatMap QU).take (k*2)=(l.take k).flatMap QU
 | [],k=>by simp
 | a::l,0=>by simp
 | a::l,k+1=>by
  rw[show(k+1)*2=k*2+2 by omega,LH,MF,LH,←Qdt l k];rfl
abbrev nzT (l:List (Int×Int)):List (Int×Int):=l.filter λp=>!decide (p.2=0)
set_option maxHeartbeats 1000000 in
theorem Qkf {w:World}{base:Nat}{v:Value}{l:List (Int×Int)}(h:w.ownsRow base 155 2 v l.length (l.flatMap QU))(hl:l.length≤1000):
  QE prog 63 [v,.func (.func 64) #[] #[]] w λr w'=>Step (ob v) w w'∧w'.ownsRow base 155 2 r (nzT l).length ((nzT l).flatMap QU):=by
 have hix:=QjM (cap:=[]) (q:=λp=>decide (p.2=0)) (QW (L:=[]) h (by omega) (by simp)) (λe _ U _=>QgG e U);have ho:=yQ (λp:Int×Int=>decide (p.2=0)) l 0;rcases h.2 with⟨rfl,V⟩|⟨g,cap,cur,rfl,hR,_⟩
 ·have h5:l=[]:=Lr V;subst h5;refine QE.of_W func63 O ntmps63 results63 (by simp) ?_;refine Qc<|Qe<|Qc<|Qb<|Qb<|xl O<|xf<|hix.mono ?_;rintro r1 U ⟨rfl,G⟩;refine Qe<|Qg<|Qc<|Qb<|x (Zl O O)<|xe<|Q4 O (λ_=>?_) (λh8=>absurd O h8);refine Qc<|Qb<|Qe ?_;exact Qk ⟨[nS],La,G,Qs h G⟩
 obtain⟨hS,_⟩:=Qdu h;refine QE.of_W func63 O ntmps63 results63 (by simp) ?_;refine Qc<|Qe<|Qc<|Qb<|Qb<|xl O<|xf<|hix.mono ?_;rintro r1 U ⟨rfl,G⟩;refine Qe<|Qg<|Qc<|Qb<|x (Zl O O)<|xe<|Q4 rfl (λY=>?_) (λY=>?_)
 ·have h6:nzT l=l:=Nc.2 λp hp=>by
   rcases ho with⟨_,h2⟩|⟨k,_,h2,_⟩
   ·have:=h2 p hp;simpa using this
   have hT:fix (λp:Int×Int=>decide (p.2=0)) 0 l=-1:=Y;omega
  refine Qc<|Qb<|Qe<|Qk ⟨[.slice (some ⟨g,0,none⟩) l.length cap],La,G.any,?_⟩;rw[h6];exact Qs h G
 refine Exists.elim (ho.resolve_left λa=>Y a.1) λT ha=>?_;have h7:=ha.1;have hq:fix (λp:Int×Int=>decide (p.2=0)) 0 l=(T:Int):=by have:=ha.2.1;omega
 have h9:=ha.2.2;refine Qi<|Qg<|Qc<|Qb<|x (Xa (a:=(T:Int)) (b:=1) (congrArg (Value.int .i64) hq) O ⟨by omega,by omega⟩)<|Qe<|Qh<|QA (α:=Nat×Nat×List (Int×Int)) [(5,7),(16,35)] (λz=>[(5,.int .i64 z.1),(6,.int .i64 z.2.1)])
  (λz w'=>z.1<z.2.1∧z.2.1≤l.length∧z.2.2.length=l.length∧z.2.2.take z.1=nzT (l.take z.2.1)∧z.2.2.drop z.2.1=l.drop z.2.1∧Step [g] w w'∧w'.ownsRow base 155 2 (.slice (some ⟨g,0,none⟩) z.2.2.length cap) z.2.2.length (z.2.2.flatMap QU))
  (λz=>l.length - z.2.1) (by rfl) (T,T+1,l) ⟨congrArg (Value.int .i64) hq,O,Z⟩
  ⟨Nat.lt_succ_self _,h7,O,h9,O,G.any,Qs h G⟩ ?_
 rintro⟨i,j,ts⟩ g2 w2 ⟨hB,hj,hb,H,hc,hr,I⟩;simp only[]at hB hj hb H hc I;refine Qg<|Qc<|Qb<|Qb<|x (qI O)<|x (Qz O O)<|xe<|QC rfl (λhf=>?_) (λhf=>?_)
 ·refine Qy ?_;have hC:j=l.length:=by have hD:¬(j:Int)<(l.length:Int):=hf;omega
  rw[hC,M5]at H;have hs:(nzT l).length=i:=by rw[←H,Ly];omega
  refine Exists.elim (Qdu I).2 λhU ht=>?_;have hE:=ht.1;have hF:=ht.2.2;refine Qc<|Qb<|Qb<|x (QeG (lo:=i) O O (by omega))<|xl O<|Qjh (m:=l.length - i) (o:=i*2) (λu hu=>by simp[Value.cells]at hu;rw[hu];rfl) hE ⟨_,O,λh=>⟨by rw[if_neg (by omega)],by omega⟩⟩ λw3 hV hg hG hW hH=>xe ?_
  refine Qc<|Qb<|Qb<|x (QeH (hi:=i) O O (by omega))<|Qe<|Qk ⟨[.slice (some ⟨g,0,none⟩) i cap],La,hr.trans' hg,?_⟩;rw[hs];refine Qje I (by omega) hG (by omega) ?_ ?_
  ·rw[hH,←H,←Qdt,←hF,List.take_take,M0 (by omega)]
  rw[Kx Y3,hs]
 have E:j<l.length:=by have hD:(j:Int)<(l.length:Int):=hf;omega
 have hh:j<ts.length:=by omega
 have hI:ts[j]'hh=l[j]'E:=by
  have h1:=congrArg (λz=>z[0]?) hc;simp only[List.getElem?_drop,Nat.add_zero,List.getElem?_eq_getElem hh,List.getElem?_eq_getElem E]at h1;exact Option.some.inj h1
 have hv:ts.drop (j+1)=l.drop (j+1):=by
  have h1:=congrArg (List.drop 1) hc
  rwa [Nx,Nx]at h1
 have J:nzT (l.take (j+1))=nzT (l.take j)++(if(l[j]'E).2=0 then[]else[l[j]'E]):=by
  unfold nzT;rw[Le E,L2];by_cases V:(l[j]'E).2=0 <;> simp[V]
 have hA:=QW (L:=[]) I (by omega) (by simp);rw[show Value.slice (some ⟨g,0,none⟩) ts.length cap=.slice (some ⟨g,0,none⟩) l.length cap from by rw[hb]]at hA;refine Qi<|Qg<|Qh<|Qc<|Qb<|Qb<|xig Y3 hA O O hh λhX hk=>?_;rw[hI]at hk;refine Zb (l[j]'E) λe he=>?_;rw[he]at hk J
 refine x (QI hk O O)<|xl O<|Qu (us:=[.int .i64 0,.int .i64 0]) O λb7 w3 hg hJ hK=>xl O<|Qo (us:=QU e) hK O O O O ⟨O,O,Z⟩ λw4 hL hw=>xe ?_;have hM:Step [] w2 w4:=hg.then1 hL hJ;refine Qc<|Qb<|x (Qn hw O O)<|xl O<|xc (first:=[]) (capt:=[]) O<|(QgG e w4).mono ?_;rintro r5 w5 ⟨rfl,hy⟩;refine x (Zq O)<|xe ?_;have hz:=hM.trans hy;have h3:=Qs I hz
 have h4:Step [g] w w5:=hr.trans hz.any;refine QY rfl (λhm=>?_) (λhm=>?_)
 ·have hn:¬e.2=0:=by simpa using hm
  rw[if_neg hn]at J;have hN:w5.ownsRow base 155 2 (.slice (some ⟨g,0,none⟩) ts.length cap) ts.length (ts.flatMap QU):=h3;refine Qc<|Qb<|Qb<|x (Qn (hw.ext hy) O O)<|x (QS (i:=i) O O (by omega))<|xl O<|QeN (u:=e) Y3 hN (congrArg (λn=>Value.pointer (some ⟨g,n,none⟩)) (LO (i*2))) O (by omega) ⟨O,O,Z⟩ λw6 hO hP =>
   xe ?_
  refine Qx<|Qb<|QM O O<|Qe<|Qx<|Qb<|QM O O<|Qe ?_;have hQ:(ts.set i e).length=ts.length:=MD;refine⟨(i+1,j+1,ts.set i e),by simp only[];omega,⟨O,O,Z⟩,by simp only[];omega,E,by simp only[];omega,?_,?_,h4.trans' hO,?_⟩
  ·simp only[];rw[J,←H,List.set_eq_take_append_cons_drop,if_pos (by omega),Nw,Ln (by rw[Ly];omega),Ly,M0 (by omega),Mv,MF,Nj]
  ·simp only[];rw[List.drop_set_of_lt (by omega),hv]
  simp only[];rw[hQ];exact hP
 have hn:e.2=0:=by simpa using hm
 rw[if_pos hn,LK]at J;refine Qi<|Qx<|Qb<|QM O O<|Qe ?_;exact⟨(i,j+1,ts),by simp only[];omega,⟨O,O,Z⟩,by simp only[];omega,E,hb,by rw[J];exact H,hv,h4,h3⟩
end Go.Proofs.YtjcgijbhaemldaaGreatDoor
