/- Merged out of 64 texts. -/
import Derived.Test.YtjcgijbhaemldaaGreatDoorMbd
import Derived.Shelf.Lay
import Derived.Sort.Grow
import Derived.Deep.Draws
import Derived.Sort.Statements
import Derived.Tactics2
import Derived.Laws.IdiomStrings
import Derived.Shelf.SortM.Plain
import Derived.Shelf.SortM.SortNone
import Derived.Shelf.SlicesE.Compact
import Derived.Shelf.SlicesE.DeleteFunc
import Derived.Ground.SlgmProg
import Derived.Ground.SlgnProg
import Derived.Ground.SlgfProg
import Derived.ChangeSame
import Derived.Carry
import Derived.OpenShut
import Derived.RowKit
import Derived.ChangeSlices
import Derived.WideShapes
import Derived.ProofKit
namespace Go.Proofs.YtjcgijbhaemldaaGreatDoor
open Go.Lg
def cnF (ord:LI)(j:Nat)(e:Ed):Ed:=((j:Int),e.2.1,(ord.idxOf e.2.2:Int))
def jg (a:QM)(ord:LI)(j:Nat):List Ed:=(ZI a.ed (Zr ord j)).map (cnF ord j)
theorem Qam {l r:LI}{j:Nat}(h:j<l.length):Zr (l++r) j=Zr l j:=by unfold Zr;rw[Mm];exact qI h
structure NuI (st:Int)(ord num:LI):Prop where
 nd:ord.Nodup
 bd:∀s∈ord,0≤s∧s<st
 nl:num.length=st.toNat
 nu:∀k,0≤k→k<st→Zr num k=if k∈ord then(ord.idxOf k:Int)else -1
theorem Qbc {st:Int}{i:Nat}{c:Cs}(h:NuI st c.ord c.num){e:Ed}(G:0≤e.2.2)(h1:e.2.2<st):NuI st (Zn i c e).ord (Zn i c e).num∧(∃r,(Zn i c e).ord=c.ord++r)∧(Zn i c e).mk'=c.mk'∧(Zn i c e).ed=c.ed++[cnF (Zn i c e).ord i e]∧e.2.2∈(Zn i c e).ord:=by
 have E:=h.nu e.2.2 G h1;have I:e.2.2.toNat<c.num.length:=by rw[h.nl];omega
 unfold Zn;by_cases hm:e.2.2∈c.ord
 ·rw[if_pos hm]at E;rw[if_neg (by rw[E];omega)];refine⟨h,⟨[],by simp⟩,rfl,?_,hm⟩;simp only[cnF];rw[E]
 rw[if_neg hm]at E;rw[if_pos (by rw[E];decide)];have H:(c.ord++[e.2.2]).idxOf e.2.2=c.ord.length:=by rw[Mr,if_neg hm];simp
 refine⟨⟨JC h.nd hm,λs hs=>?_,by simp[h.nl],λk J k1=>?_⟩,⟨[e.2.2],rfl⟩,rfl,?_,by simp⟩
 ·rcases Lp.1 hs with hs|hs
  ·exact h.bd s hs
  simp only[List.mem_singleton]at hs;subst hs;exact⟨G,h1⟩
 ·simp only[];by_cases ek:k=e.2.2
  ·subst ek;rw[if_pos (by simp),H];unfold Zr;simp[List.getD,List.getElem?_set_self I]
  have T:e.2.2.toNat≠k.toNat:=by omega
  have e1:Zr (c.num.set e.2.2.toNat c.ord.length) k=Zr c.num k:=by unfold Zr;simp[List.getD,List.getElem?_set_ne T]
  rw[e1,h.nu k J k1];by_cases hk:k∈c.ord
  ·rw[if_pos hk,if_pos (LS _ hk),Mr,if_pos hk]
  rw[if_neg hk,if_neg (λU=>by
   rcases Lp.1 U with h2|h2
   ·exact hk h2
   simp only[List.mem_singleton]at h2;exact ek h2)]
 simp only[cnF];rw[H]
theorem UK {st:Int}{i:Nat}:∀(es:List Ed) (c:Cs),NuI st c.ord c.num→(∀e∈es,0≤e.2.2∧e.2.2<st)→NuI st (es.foldl (Zn i) c).ord (es.foldl (Zn i) c).num∧(∃r,(es.foldl (Zn i) c).ord=c.ord++r)∧(es.foldl (Zn i) c).mk'=c.mk' ∧
  (es.foldl (Zn i) c).ed=c.ed++es.map (cnF (es.foldl (Zn i) c).ord i)∧∀e∈es,e.2.2∈(es.foldl (Zn i) c).ord
 | [],c,h,_=>⟨h,⟨[],by simp⟩,rfl,by simp,λe he=>by cases he⟩
 | e::es,c,h,hb=>by
  obtain⟨E,G⟩:=hb e Lr;obtain⟨h1,⟨H,h2⟩,h3,h4,h5⟩:=Qbc (i:=i) h E G;obtain⟨k1,⟨r2,k2⟩,k3,I,J⟩:=UK (i:=i) es (Zn i c e) h1 (λd hd=>hb d (Ln _ hd));rw[LM];refine⟨k1,⟨H++r2,by rw[k2,h2,LC]⟩,k3.trans h3,?_,λd hd=>?_⟩
  ·rw[I,h4,LC,LT];have:cnF (Zn i c e).ord i e=cnF (es.foldl (Zn i) (Zn i c e)).ord i e:=by
    unfold cnF;rw[k2,Mr,if_pos h5]
   rw[this];rfl
  rcases Lc.1 hd with rfl|hd
  ·rw[k2];exact LS _ h5
  exact J d hd
structure CnG (a:QM)(i:Nat)(c:Cs):Prop where
 nu:NuI a.st c.ord c.num
 le:i≤c.ord.length
 hd:Zr c.ord 0=0∧0<c.ord.length
 mk2:c.mk'=((List.range' 0 i).filter λj:Nat=>decide (Zr c.ord j∈a.mr)).map λj:Nat=>(j:Int)
 ed:c.ed=(List.range' 0 i).flatMap (jg a c.ord)
 cl:∀j,j<i→∀e∈ZI a.ed (Zr c.ord j),e.2.2∈c.ord
theorem Qi4 {a:QM}{ord r:LI}{j:Nat}(hj:j<ord.length)(hc:∀e∈ZI a.ed (Zr ord j),e.2.2∈ord):jg a (ord++r) j=jg a ord j:=by
 unfold jg;rw[Qam hj];refine Np λe he=>?_;unfold cnF;rw[Mr,if_pos (hc e he)]
theorem CnG.next {a:QM}(J:Q3 a){i:Nat}{c:Cs}(h:CnG a i c)(hi:i<c.ord.length):CnG a (i+1) (zh a i c):=by
 unfold zh;have G:(ZT a i c).ord=c.ord:=by unfold ZT;split <;> rfl
 have T:(ZT a i c).num=c.num:=by unfold ZT;split <;> rfl
 have U:(ZT a i c).ed=c.ed:=by unfold ZT;split <;> rfl
 obtain⟨k1,⟨r,k2⟩,k3,E,H⟩:=UK (st:=a.st) (i:=i) (ZI a.ed (Zr c.ord i)) (ZT a i c) (by rw[G,T];exact h.nu) (λe he=>(J.ed e (Yi he).1).2.2.2);generalize (ZI a.ed (Zr c.ord i)).foldl (Zn i) (ZT a i c)=d at k1 k2 k3 E H;rw[G]at k2;rw[U]at E;have pre:∀j:Nat,j≤i→Zr d.ord j=Zr c.ord j:=λj hj=>by rw[k2];exact Qam (by omega)
 refine⟨k1,by rw[k2];simp;omega,⟨by have:=pre 0 (by omega);rw[show((0:Nat):Int)=0 from rfl]at this;rw[this];exact h.hd.1,by rw[k2];simp;omega⟩,?_,?_,λj hj=>?_⟩
 ·rw[k3,Mu,L7,Lv,LQ];have e1:((List.range' 0 i).filter λj:Nat=>decide (Zr d.ord j∈a.mr))=(List.range' 0 i).filter λj:Nat=>decide (Zr c.ord j∈a.mr):=by
   refine List.filter_congr λj hj=>?_;rw[Mc]at hj;rw[pre j (by omega)]
  rw[e1];unfold ZT;by_cases hm:Zr c.ord i∈a.mr
  ·rw[if_pos hm];simp only[];rw[Md,if_pos (by rw[pre i (Lu _)];exact decide_eq_true hm),Nj,h.mk2];rfl
  rw[if_neg hm];rw[Md,if_neg (by rw[pre i (Lu _),decide_eq_false hm];simp),Nj,h.mk2];simp
 ·rw[E,Mu,LD,LQ,h.ed];congr 1
  ·refine XK λj hj=>?_;rw[Mc]at hj;rw[k2];exact(Qi4 (by omega) (h.cl j (by omega))).symm
  simp only[List.flatMap_cons,List.flatMap_nil,List.append_nil];unfold jg;rw[pre i (Lu _)]
 by_cases e:j=i
 ·subst e;rw[pre j (Lu _)];exact H
 intro V I;rw[pre j (by omega)]at I;rw[k2];exact LS _ (h.cl j (by omega) V I)
theorem yg {a:QM}(G:Q3 a):∀(f i:Nat) (c:Cs),CnG a i c→∃E,CnG a E (XR a f i c)∧((XR a f i c).ord.length=E∨E=i+f)
 | 0,i,c,h=>⟨i,h,.inr O⟩
 | f+1,i,c,h=>by
  rw[XR];split
  ·rename_i hi;obtain⟨E,h1,h2⟩:=yg G f (i+1) _ (h.next G hi);exact⟨E,h1,by omega⟩
  exact⟨i,h,.inl (by have:=h.le;omega)⟩
structure CnP (a:QM)(ord:LI):Prop where
 nd:ord.Nodup
 bd:∀s∈ord,0≤s∧s<a.st
 hd:Zr ord 0=0∧0<ord.length
 al:(YK a).al=a.al
 st:(YK a).st=(ord.length:Int)
 mk2:(YK a).mr=((List.range' 0 ord.length).filter λj:Nat=>decide (Zr ord j∈a.mr)).map λj:Nat=>(j:Int)
 ed:(YK a).ed=(List.range' 0 ord.length).flatMap (jg a ord)
 cl:∀j,j<ord.length→∀e∈ZI a.ed (Zr ord j),e.2.2∈ord
theorem yi {a:QM}(G:Q3 a)(Y:0<a.st):∃ord,CnP a ord:=by
 have H:0<a.st.toNat:=by omega
 have I:CnG a 0 (Yg a):=by
  refine⟨⟨by simp[Yg],λs hs=>by simp[Yg]at hs;subst hs;omega,by simp[Yg],λk k0 k1=>?_⟩,Lk _,⟨by simp[Yg,Zr],by simp[Yg]⟩,by simp[Yg],by simp[Yg],λj hj=>by omega⟩;by_cases ek:k=0
  ·subst ek;rw[if_pos (by simp[Yg])];unfold Zr Yg;simp[List.getD,H]
  rw[if_neg (by simpa[Yg]using ek)];unfold Yg;have J:0≠k.toNat:=by omega
  have T:k.toNat<a.st.toNat:=by omega
  unfold Zr;rw[MU,MR J];simp[T]
 obtain⟨U,h1,h2⟩:=yg G a.st.toNat 0 (Yg a) I;have ha:(XR a a.st.toNat 0 (Yg a)).ord.length≤a.st.toNat:=pig _ _ h1.nu.nd (λx hx=>by have:=h1.nu.bd x hx;omega);have V:U=(XR a a.st.toNat 0 (Yg a)).ord.length:=by have:=h1.le;omega
 subst V;have E:YK a=⟨a.al,((XR a a.st.toNat 0 (Yg a)).ord.length:Int),(XR a a.st.toNat 0 (Yg a)).mk',(XR a a.st.toNat 0 (Yg a)).ed⟩:=by unfold YK;rw[if_neg (by omega)]
 refine⟨(XR a a.st.toNat 0 (Yg a)).ord,h1.nu.nd,h1.nu.bd,h1.hd,by rw[E],by rw[E],?_,?_,h1.cl⟩
 ·rw[E];exact h1.mk2
 rw[E];exact h1.ed
theorem Qgr (es:List Ed)(s v:Int):eget es s v=eget (ZI es s) s v:=by
 induction es with
 | nil=>rfl
 | cons e es ih =>
  unfold ZI at *;rw[Md];by_cases h:e.1=s
  ·rw[if_pos (by simpa using h),eget,eget,ih]
  rw[if_neg (by simpa using h),eget,if_neg (λc=>h c.1),ih]
theorem Qgs {a:QM}{ord:LI}{j:Nat}(v:Int):eget (jg a ord j) j v=(eget a.ed (Zr ord j) v).map λu=>(ord.idxOf u:Int):=by
 rw[Qgr a.ed];unfold jg;have key:∀(l:List Ed),(∀e∈l,e.1=Zr ord j)→eget (l.map (cnF ord j)) j v=(eget l (Zr ord j) v).map λu=>(ord.idxOf u:Int):=by
  intro l;induction l with
  | nil=>intro _;rfl
  | cons e l ih =>
   intro hl;rw[LT,eget,eget];have he:=hl e Lr;by_cases E:e.2.1=v
   ·rw[if_pos ⟨rfl,E⟩,if_pos ⟨he,E⟩];rfl
   rw[if_neg (λc=>E c.2),if_neg (λc=>E c.2)];exact ih (λd hd=>hl d (Ln _ hd))
 exact key _ (λe he=>(Yi he).2)
theorem QbD {a:QM}{ord:LI}{j i:Nat}(h:j≠i)(v:Int):eget (jg a ord j) i v=none:=by
 refine Ju λe he h2=>?_;unfold jg at he;obtain⟨d,_,rfl⟩:=Ly.1 he;have:(j:Int)=i:=h2.1;omega
theorem CnP.step {a:QM}{ord:LI}(h:CnP a ord){j:Nat}(hj:j<ord.length)(v:Int):eget (YK a).ed j v=(eget a.ed (Zr ord j) v).map λu=>(ord.idxOf u:Int):=by
 rw[h.ed];have key:∀n,j<n→eget ((List.range' 0 n).flatMap (jg a ord)) j v=eget (jg a ord j) j v:=by
  intro n;induction n with
  | zero=>intro h;omega
  | succ n ih =>
   intro G;rw[Mu,LD,LQ,Ue];simp only[List.flatMap_cons,List.flatMap_nil,List.append_nil];by_cases e:j=n
   ·subst e;have:eget ((List.range' 0 j).flatMap (jg a ord)) j v=none:=Ju λd hd h2=>by
     obtain⟨k,hk,E⟩:=Mv.1 hd;rw[Mc]at hk;unfold jg at E;obtain⟨H,_,rfl⟩:=Ly.1 E;have:(k:Int)=j:=h2.1;omega
    rw[this]
   rw[ih (by omega),QbD (Ne.symm e)];cases eget (jg a ord j) j v <;> rfl
 rw[key _ hj];exact Qgs v
section
variable {p s:QM}{pn xn v:Int}
theorem QhG (E:v∈p.al)(h:eget p.ed pn v=none):Zt v [p,s] [pn,xn]=none:=by rw[Zt,if_neg (λe=>e E),h]
theorem QhF (E:v∈p.al){G:Int}(h:eget p.ed pn v=some G)(hs:v∈s.al)(h2:eget s.ed xn v=none):Zt v [p,s] [pn,xn]=none:=by
 rw[Zt,if_neg (λe=>e E),h];simp only[];rw[Zt,if_neg (λe=>e hs),h2];rfl
theorem QhE (H:v∈p.al){E G:Int}(h:eget p.ed pn v=some E)(hs:v∈s.al)(h2:eget s.ed xn v=some G):Zt v [p,s] [pn,xn]=some [E,G]:=by
 rw[Zt,if_neg (λe=>e H),h];simp only[];rw[Zt,if_neg (λe=>e hs),h2];rfl
end
section
variable {s:QM}{l:List K6}{n:Nat}
end
theorem Qd6 {a:QM}(E:Q3 a):Q3 (YK a):=by
 have T:=E.st0;have h1:=E.st1;by_cases I:a.st=0
 ·unfold YK;rw[if_pos I];exact⟨E.al,E.ali,by simp,by simp,by simp,by simp,by simp,by simp⟩
 obtain⟨ord,h⟩:=yi E (by omega);have hl:ord.length≤a.st.toNat:=pig _ _ h.nd (λx hx=>by have:=h.bd x hx;omega);refine⟨by rw[h.al];exact E.al,by rw[h.al];exact E.ali,by rw[h.st];omega,by rw[h.st];omega,λs hs=>?_,?_,λe he=>?_,?_⟩
 ·rw[h.mk2]at hs;simp only[List.mem_map,List.mem_filter,List.mem_range'_1]at hs;obtain⟨i,⟨hi,_⟩,rfl⟩:=hs;rw[h.st];omega
 ·rw[h.mk2];unfold Yy;rw[MW];refine List.Pairwise.sublist Nq ?_;exact(M9 (s:=0) (n:=ord.length)).imp (λh=>by omega)
 ·rw[h.ed]at he;obtain⟨j,hj,hd⟩:=Mv.1 he;rw[Mc]at hj;unfold jg at hd;obtain⟨d,G,rfl⟩:=Ly.1 hd;have hm:=h.cl j (by omega) d G;have:=Mo hm;have J:=(E.ed d (Yi G).1).2.2.1;rw[h.st,h.al];unfold cnF;exact⟨by simp only[];omega,by simp only[];omega,J,by simp only[];omega,by simp only[];omega⟩
 rw[h.ed];have key:∀n,((List.range' 0 n).flatMap (jg a ord)).Pairwise λx y:Ed=>x.1<y.1∨(x.1=y.1∧x.2.1<y.2.1):=by
  intro n;induction n with
  | zero=>simp
  | succ n ih =>
   rw[Mu,LD,LQ,Mn];refine⟨ih,?_,λx hx y hy=>?_⟩
   ·simp only[List.flatMap_cons,List.flatMap_nil,List.append_nil];unfold jg;rw[MW];have h2:(ZI a.ed (Zr ord n)).Pairwise λx y:Ed=>x.1<y.1∨(x.1=y.1∧x.2.1<y.2.1):=List.Pairwise.sublist Nq E.edi;refine List.Pairwise.imp_of_mem (λ{x y} hx hy U=>?_) h2;have e1:=(Yi hx).2;have e2:=(Yi hy).2;right;exact⟨O,by show x.2.1<y.2.1;omega⟩
   obtain⟨j,hj,H⟩:=Mv.1 hx;rw[Mc]at hj;simp only[List.flatMap_cons,List.flatMap_nil,List.append_nil]at hy;unfold jg at H hy;obtain⟨d,_,rfl⟩:=Ly.1 H;obtain⟨V,_,rfl⟩:=Ly.1 hy;left;show(j:Int)<(n:Int);omega
 exact key _
open Go.Proofs.Tryz
theorem QdL {a:QM}(E:Q3 a):Q3 ⟨a.al,0,[],[]⟩:=
 ⟨E.al,E.ali,Na _,(by decide:(0:Int)≤4096),(λs hs=>by cases hs),List.Pairwise.nil,(λe he=>by cases he),List.Pairwise.nil⟩
theorem VN {a:QM}(E:Q3 a)(lf:Lf):Q3 (JQ a lf):=by
 unfold JQ;split
 ·exact QdL E
 exact Qd6 (Kj E lf)
theorem jD {c:ZE}(h:suE c=0):Q3 (Va c):=VN (QeP h).1 _
theorem Qfx {c:ZE}{m:Mdl}(h:msE c m=0):Q3 (msA c m):=by
 have h1:msE c m=if mcE c m≠0 then mcE c m else suE (mcC c m):=rfl
 rw[h1]at h;split at h
 ·rename_i h2;exact absurd h h2
 exact jD h
theorem j6 {c:ZE}:∀{l:List Mdl},msL c l=0→∀m∈l,msE c m=0
 | [],_,m,hm=>by cases hm
 | x::l,h,m,hm=>by
  rw[j7]at h;by_cases h1:msE c x≠0
  ·rw[if_pos h1]at h;exact absurd h h1
  rw[if_neg h1]at h;rcases Lc.1 hm with rfl|hm
  ·exact Ll.1 h1
  exact j6 h m hm
theorem UI {c:ZE}(h:K9 c=0):∀a∈XD c,Q3 a:=by
 rw[Qa9]at h;by_cases h1:Zi c≠0
 ·rw[if_pos h1]at h;exact absurd h h1
 rw[if_neg h1]at h;have G:=ZX (Ll.1 h1);have H:XD c=(mods c).map (msA c)++(rem c).map (coA c):=rfl;intro a ha;rw[H]at ha;rcases Lp.1 ha with ha|ha
 ·obtain⟨m,hm,rfl⟩:=Ly.1 ha;exact Qfx (j6 h m hm)
 obtain⟨i,hi,rfl⟩:=Ly.1 ha;have I:=Qe5 i hi;have E:i.toNat<c.co.length:=by omega
 have e:coA c i=(c.co[i.toNat]'E).a:=by unfold coA;simp[List.getD,E]
 rw[e];exact G.co _ (Lh E)
theorem Qex (c:ZE):YU c=if K9 c≠0 then K9 c else XW (XD c):=rfl
theorem Qca {c:ZE}(h:YU c=0):K9 c=0∧XW (XD c)=0:=by
 rw[Qex]at h;by_cases h1:K9 c≠0
 ·rw[if_pos h1]at h;exact absurd h h1
 rw[if_neg h1]at h;exact⟨Ll.1 h1,h⟩
theorem QhA {l:List QM}(h:XW l=0):sync l=some (syA l,syQ l)∧JM l=0:=by
 unfold XW at h;by_cases h1:JM l≠0
 ·rw[if_pos h1]at h;exact absurd h h1
 rw[if_neg h1]at h;refine⟨?_,Ll.1 h1⟩;unfold syA syQ;cases hs:sync l with
 | none=>rw[hs]at h;cases h
 | some z=>rfl
theorem JW {c:ZE}(h:YU c=0):SyP (XD c) (Xg c) (tgQ c)∧Q3 (Xg c):=by
 obtain⟨h1,h2⟩:=Qca h;have E:=UI h1;have hs:=(Xu E (QhA h2).1).1;exact⟨hs,SyP.okay E hs⟩
structure TmV where
 vl:Value
 va:Value
 vm:Value
 ve:Value
 vt:Value
 A:QM
 ps:List AV
 qs:List TV
abbrev X0 (t:TmV):LV:=[t.vl,t.va,.int .i64 t.A.st,t.vm,t.ve,t.vt]
structure qT (L:LN)(H:Array Obj)(t:TmV):Prop where
 l:YH L H t.vl t.ps
 a:Zq L H t.va t.vm t.ve t.A
 q:Jg L H t.vt t.qs
theorem qT.ext {L:LN}{w w':World}{t:TmV}(h:qT L w.heap t)(hs:Step [] w w'):qT L w'.heap t:=⟨h.l.ext hs,h.a.ext hs,h.q.ext hs⟩
theorem qT.st {L:LN}{w w':World}{t:TmV}(h:qT L w.heap t)(hs:Step L w w'):qT L w'.heap t:=⟨h.l.st hs,h.a.st hs,h.q.st hs⟩
theorem qT.up {L L':LN}{H:Array Obj}{t:TmV}(h:qT L H t)(E:∀b∈L',b∈L∨H.size≤b):qT L' H t:=⟨h.l.up E,h.a.up E,h.q.up E⟩
structure Qma (c:ZE)(t:TmV):Prop where
 A:t.A=Xg c
 l:t.ps.map (·.a)=XD c
 q:t.qs.map (·.2)=tgQ c
instance:Bw prog 103 [nS,nS,.int .i64 0,nS,nS,nS] [(0,1),(1,4),(5,1)]:=⟨by kernel_rfl,by decide⟩
abbrev zj:LV:=[nS,nS,.int .i64 0,nS,nS,nS]
set_option maxHeartbeats 4000000 in
theorem Jp {L:LN}{w:World}{c:CL}(V:ZH L w.heap c)(hj:Kb w 4096):
  QE prog 33 [c.val] w λr w'=>Step [] w w'∧∃us,r=.tuple #[.agg us.toArray,.int .i64 (YU c.cel)]∧us.length=6∧ZF us∧(YU c.cel=0→∃t,us=X0 t∧Qma c.cel t∧∀L:LN,(∀b∈L,b<w.heap.size)→qT L w'.heap t):=by
 have h:=V.up (L':=[]) (by simp);have J:=Qex c.cel;refine Zb (YU c.cel) λE hE=>?_;rw[hE]at J ⊢;refine QE.of_W func33 O ntmps33 results33 (by simp) ?_;refine Qc<|xl O<|QP (us:=c.cells) O λb1 w1 hk hK hz=>xl O<|Qr (us:=zj) O λI w2 Y hM hl=>Qe ?_;have ha:=hk.trans Y;have hN:=hk.size;have hO:=Y.size;have h1:=hl.lt
 refine Qc<|x (Qo (hz.ext Y) O O)<|xl O<|xf<|(J9 (h.ext ha) (hj.ext ha)).mono ?_;rintro r3 w3 ⟨hc,vl,rfl,hP,h2⟩;refine Qb<|x (Qj O O)<|x (Qj O O)<|x Qf<|Qe ?_;have hf:=ha.trans hc;have hS:=hc.size;have hm:=hl.ext hc;refine Qg<|Qc<|Qb<|x (Q7 O O)<|xe<|Q2 rfl (λT=>?_) (λT=>?_)
 ·rw[if_pos T]at J;subst J;refine Qc<|x (Zz [] Z)<|Qb<|xl O<|Qm (us:=zj) hm O O O O ⟨O,O,O,O,O,O,Z⟩ λw4 h3 h4=>Qe ?_;exact Qk ⟨[.agg zj.toArray,.int .i64 (K9 c.cel)],⟨⟨_,O,Qv O (h4.at (L:=[]) (by simp)).cells⟩,rfl,Z⟩,hf.then1 h3 (by omega),zj,rfl,rfl,⟨rfl,rfl,rfl,rfl,rfl,rfl,Z⟩,λV=>absurd V T⟩
 rw[if_neg T]at J;subst J;have hn:=Ll.1 T;obtain⟨ho,ps,hg,hr⟩:=h2 hn;have h5:∀p∈ps,Q3 p.a:=λp hp=>UI hn p.a (by rw[←hg];exact LK hp);refine Qi<|Qc<|Qb<|xl O<|xf<|(VH (km:=4096) (hr [] (by simp)) (hj.ext hf) (by decide) (Uy h5)).mono ?_;rintro r5 w5 ⟨hs,vA,vt,e,rfl,hR⟩;rw[hg]at hR;have he:=hR.e;subst he
 have h6:∃us,vA=.agg us.toArray∧us.length=4∧ZF us:=by
  by_cases he:XW (XD c.cel)=0
  ·exact Yo (hR.good he).1
  exact⟨[nS,.int .i64 0,nS,nS],(hR.bad he).1,O,O,O,O,O,Z⟩
 have ht:vt.oneCell'=true:=by
  by_cases he:XW (XD c.cel)=0
  ·obtain⟨qs,_,hq⟩:=(hR.good he).2.1;exact(hq [] (by simp)).arr.one
  rw[(hR.bad he).2];rfl
 obtain⟨us,h7,h8,U⟩:=h6;subst h7;obtain⟨G,H,u2,u3,rfl⟩:∃G H u2 u3,us=[G,H,u2,u3]:=by
  match us,h8 with
  | [G,H,u2,u3],_=>exact⟨G,H,u2,u3,O⟩
 have hT:=hs.size;refine Qb<|x (Qj O O)<|x (Qj O O)<|x (Qj O O)<|xl O<|Qr (us:=[nS,.int .i64 0,nS,nS]) O λb6 w6 h9 hB hC=>xl O<|Qm (us:=[G,H,u2,u3]) hC O O O O U λw7 hD hF =>
  x Qf<|Qe ?_
 have hh:Step [] w5 w7:=h9.then1 hD hB;have hi:=hs.trans hh;have hu:ZF [vl,G,H,u2,u3,vt]:=⟨ho,U.1,U.2.1,U.2.2.1,U.2.2.2.1,ht,Z⟩;refine Qc<|Qb<|x (Qo hF O O)<|Qb<|x (Zz [(0,[vl]),(1,[G,H,u2,u3]),(2,[vt])] ⟨Xv ho,O,O,O,Xv ht,O,Z⟩)<|Qb<|xl O<|Qm (us:=[vl,G,H,u2,u3,vt]) (hm.ext hi) O O O O hu λw8 hw hG =>
  Qe<|Qk ⟨[.agg [vl,G,H,u2,u3,vt].toArray,.int .i64 (XW (XD c.cel))],⟨⟨_,O,Qv O (hG.at (L:=[]) (by simp)).cells⟩,rfl,Z⟩,(hf.trans hi).then1 hw (by omega),[vl,G,H,u2,u3,vt],rfl,rfl,hu,λhe=>?_⟩
 obtain⟨⟨va,vm,ve,hv,hA⟩,⟨qs,hH,hQ⟩,_⟩:=hR.good he;have hv':G=va∧H=.int .i64 (syA (XD c.cel)).st∧u2=vm∧u3=ve:=by
  have e1:=Value.agg.inj hv;simpa using e1
 obtain⟨rfl,rfl,rfl,rfl⟩:=hv';refine⟨⟨vl,G,u2,u3,vt,Xg c.cel,ps,qs⟩,O,⟨O,hg,hH⟩,λL hL=>?_⟩;have hy:∀b∈I::L,b<w3.heap.size:=λb hb=>by
  rcases Lc.1 hb with rfl|hb
  ·omega
  have:=hL b hb;omega
 have hI:∀b∈L,b<w2.heap.size:=λb hb=>by have:=hL b hb;omega
 have hJ:∀b∈I::L,b<w2.heap.size:=λb hb=>by
  rcases Lc.1 hb with rfl|hb
  ·exact h1
  exact hI b hb
 have t1:qT (I::L) w7.heap ⟨vl,G,u2,u3,vt,Xg c.cel,ps,qs⟩:=⟨((hr (I::L) hJ).ext hi),(hA (I::L) hy).ext hh,(hQ (I::L) hy).ext hh⟩;exact(t1.st (hw.mono (by simp))).up (λb hb=>.inl (by simp[hb]))
theorem qh {A:QM}(E:Q3 A){aa:List QM}{Q:List (LI)}(h:SyP aa A Q){u:LI}(H:gens A u=true):QeW A 0 u=0∧∃j:Nat,j<Q.length∧(flw A 0 u).1=(j:Int):=by
 obtain⟨j,hj,G,_⟩:=QiB E h H;have h1:=Qf7 E u 0 (by rw[G]);have I:=h.st;refine⟨?_,j,hj,by rw[G]⟩;have hck:cks A 0=0:=by
  unfold cks;rw[if_neg (by simpa using(Zw A).2 E),if_neg (by omega)]
 unfold QeW;rw[if_neg (by simpa using hck),if_neg];intro h2;obtain⟨e,he,h3⟩:=Nt.1 h2;exact of_decide_eq_true h3 (h1 e he)
theorem zR {w:World}{t:TmV}{c:ZE}{vw:Value}{u:LI}(T:qT [] w.heap t)(H:Qma c t)(he:YU c=0)(hu:QI [] w.heap vw u):
  QE prog 54 [.agg (X0 t).toArray,vw] w λr w'=>Step [] w w'∧r=.tuple #[.int .i64 (if gens (Xg c) u=true then(flw (Xg c) 0 u).1 else 0),.bool (gens (Xg c) u)]:=by
 obtain⟨ha,hb⟩:=JW he;refine QE.of_W func54 O ntmps54 results54 (by simp) ?_;refine Qc<|xl O<|QP (us:=X0 t) O λb2 w1 I hh U=>x Qf<|Qe<|Qg<|Qc<|x (Qa O)<|x (Zy (us:=[t.va,.int .i64 t.A.st,t.vm,t.ve]) U O O O)<|Qb<|xl O<|xf<|(jn (T.a.ext I) (hu.ext I)).mono ?_;rintro r2 w2 ⟨rfl,V⟩;refine Qb<|x (Qj O O)<|x (Qj O O)<|x Qf<|Qe ?_;have E:=I.trans V;rw[←H.A]
 refine Qc<|Qb<|x (Zp O)<|xe<|QX rfl (λJ=>?_) (λJ=>?_)
 ·have G:gens t.A u=false:=by simpa using J
  refine Qc<|x Qf<|Qe ?_;exact Qk ⟨[.int .i64 0,.bool false],⟨O,O,Z⟩,E,by rw[G];rfl⟩
 have G:gens t.A u=true:=by simpa using J
 obtain⟨hc,_⟩:=qh (A:=t.A) (by rw[H.A];exact hb) (by rw[H.A];exact ha) G;refine Qi<|Qc<|x (Qa O)<|x (Zy (us:=[t.va,.int .i64 t.A.st,t.vm,t.ve]) (U.ext V) O O O)<|Qb<|xl O<|xf<|(Qk9 (T.a.ext E) (hu.ext E) 0).mono ?_;rintro r3 w3 ⟨hf,Y⟩;rw[if_neg (by simpa using hc)]at Y;subst Y;refine Qb<|x (Qj O O)<|x (Qj O O)<|x (Qj O O)<|x Qf<|x Qf<|Qe<|Qc<|Qb<|x Qf<|Qe ?_
 exact Qk ⟨[.int .i64 (flw t.A 0 u).1,.bool true],⟨O,O,Z⟩,E.trans hf,by rw[G];rfl⟩
def pmE (c:ZE)(u:LI):Int:=if YU c≠0 then YU c else if gens (Xg c) u=true then 0 else 10
def pmL (c:ZE)(u:LI):LI:=enb (Xg c) (flw (Xg c) 0 u).1
theorem VJ {L:LN}{w:World}{c:CL}{vw:Value}{u:LI}(G:ZH L w.heap c)(hm:QI L w.heap vw u)(hn:Kb w 4096):
  QE prog 16 [c.val,vw] w λr w'=>Step [] w w'∧∃v,r=.tuple #[v,.int .i64 (pmE c.cel u)]∧(pmE c.cel u≠0→v=Zd)∧(pmE c.cel u=0→Qt 3 w.heap.size w' v (pmL c.cel u)):=by
 have h:=G.up (L':=[]) (by simp);have hu:=hm.up (L':=[]) (by simp);have hp:pmE c.cel u=if YU c.cel≠0 then YU c.cel else if gens (Xg c.cel) u=true then 0 else 10:=rfl
 refine Zb (pmE c.cel u) λE hE=>?_;rw[hE]at hp ⊢;refine QE.of_W func16 O ntmps16 results16 (by simp) ?_;refine Qc<|xl O<|QP (us:=c.cells) O λb2 w1 U h7 ho=>x Qf<|Qe<|Qc<|x (Qo ho O O)<|xl O<|xf<|(Jp (h.ext U) (hn.ext U)).mono ?_;rintro r2 w2 ⟨hq,us,rfl,hr,hs,hv⟩
 refine Qb<|x (Qj O O)<|x (Qj O O)<|xl O<|Qr (us:=zj) O λb6 w3 hw hy hz=>xl O<|Qm (us:=us) hz O O hr O hs λw4 h1 hc =>
  Qe ?_
 have hf:Step [] w2 w4:=hw.then1 h1 hy;have V:=(U.trans hq).trans hf;refine Qg<|Qc<|Qb<|x (Q7 O O)<|xe<|Q2 rfl (λH=>?_) (λH=>?_)
 ·rw[if_pos H]at hp;subst hp;refine Qc<|Qb<|x Qf<|Qe ?_;exact Qk ⟨[Zd,.int .i64 (YU c.cel)],⟨O,O,Z⟩,V,Zd,O,λ_=>O,λG=>absurd G H⟩
 rw[if_neg H]at hp;have he:=Ll.1 H;obtain⟨t,ht,I,hT⟩:=hv he;subst ht;have Y:qT [] w4.heap t:=(hT [] (by simp)).ext hf;refine Qi<|Qc<|x (Qo hc O O)<|Qb<|xl O<|xf<|(zR Y I he (hu.ext V)).mono ?_;rintro r5 w5 ⟨T,rfl⟩;refine Qb<|x (Qj O O)<|x (Qj O O)<|x Qf<|Qe ?_;have ha:=V.trans T;have h2:=ha.size;refine Qg<|Qc<|Qb<|x (Zp O)<|xe ?_
 refine QX rfl (λhb=>?_) (λhb=>?_)
 ·have J:gens (Xg c.cel) u=false:=by simpa using hb
  rw[J,if_neg (by decide)]at hp;subst hp;refine Qc<|x Qf<|Qe ?_;exact Qk ⟨[Zd,.int .i64 10],⟨O,O,Z⟩,ha,Zd,O,λ_=>O,λG=>absurd G (by decide)⟩
 have J:gens (Xg c.cel) u=true:=by simpa using hb
 rw[if_pos J]at hp;subst hp;obtain⟨hh,hi⟩:=JW he;obtain⟨_,j,hj,h8⟩:=qh hi hh J;have h9:=hh.st;have h3:cks (Xg c.cel) (flw (Xg c.cel) 0 u).1=0:=by
  unfold cks;rw[if_neg (by simpa using(Zw _).2 hi),if_neg (by omega)]
 refine Qi<|Qc<|x (Qa O)<|x (Zy (us:=[t.va,.int .i64 t.A.st,t.vm,t.ve]) (hc.ext T) O O O)<|Qb<|?_;have hk:=KY (Y.a.ext T) (flw (Xg c.cel) 0 u).1;rw[I.A]at hk;have h4:(if gens (Xg c.cel) u=true then(flw (Xg c.cel) 0 u).1 else 0)=(flw (Xg c.cel) 0 u).1:=if_pos J
 rw[←I.A]at hk;have hen':QE prog 55 [.agg #[t.va,.int .i64 t.A.st,t.vm,t.ve],.int .i64 (if gens (Xg c.cel) u=true then(flw (Xg c.cel) 0 u).1 else 0)] w5 λr w'=>Step [] w5 w'∧∃v,r=.tuple #[v,.int .i64 0]∧Qt 3 w5.heap.size w' v (pmL c.cel u):=by
  rw[h4];refine(KY (Y.a.ext T) (flw (Xg c.cel) 0 u).1).mono ?_;rintro r w' ⟨a1,v,a2,a3,a4⟩;have hl:cks t.A (flw (Xg c.cel) 0 u).1=0:=by rw[I.A];exact h3
  refine⟨a1,v,by rw[a2,hl],?_⟩;have:=a4 hl;unfold pmL;rw[I.A]at this;exact this
 refine xl rfl<|xf<|hen'.mono ?_;rintro r6 w6 ⟨h5,v6,rfl,h6⟩;refine x (Qj O O)<|x (Qj O O)<|x Qf<|Qe ?_;exact Qk ⟨[v6,.int .i64 0],⟨O,O,Z⟩,ha.trans h5,v6,O,λG=>absurd O G,λ_=>Za h6 h2⟩
def mrT (c:ZE)(u:LI):LI:=(tgQ c).getD (flw (Xg c) 0 u).1.toNat []
def mrE (c:ZE)(u:LI)(e:Int):Int:=if YU c≠0 then YU c else if gens (Xg c) u=true then ckV (XD c) (mrT c u) e else 10
def mrL (c:ZE)(u:LI)(e:Int):LI:=rfL (XD c) (mrT c u) e
theorem Vm {L:LN}{w:World}{c:CL}{vw:Value}{u:LI}(G:ZH L w.heap c)(hy:QI L w.heap vw u)(e:Int)(hz:Kb w 4096):
  QE prog 17 [c.val,vw,.int .i64 e] w λr w'=>Step [] w w'∧∃v,r=.tuple #[v,.int .i64 (mrE c.cel u e)]∧(mrE c.cel u e≠0→v=Zd)∧(mrE c.cel u e=0→Qt 3 w.heap.size w' v (mrL c.cel u e)):=by
 have h:=G.up (L':=[]) (by simp);have hu:=hy.up (L':=[]) (by simp);have hp:mrE c.cel u e=if YU c.cel≠0 then YU c.cel else if gens (Xg c.cel) u=true then ckV (XD c.cel) (mrT c.cel u) e else 10:=rfl
 have h1:mrL c.cel u e=rfL (XD c.cel) (mrT c.cel u) e:=rfl;rw[h1];refine Zb (mrE c.cel u e) λE hE=>?_;rw[hE]at hp ⊢;refine QE.of_W func17 O ntmps17 results17 (by simp) ?_;refine Qc<|xl O<|QP (us:=c.cells) O λb2 w1 V hJ h2=>x Qf<|Qe<|Qc<|x (Qo h2 O O)<|xl O<|xf<|(Jp (h.ext V) (hz.ext V)).mono ?_;rintro r2 w2 ⟨h3,us,rfl,h4,h5,h6⟩
 refine Qb<|x (Qj O O)<|x (Qj O O)<|xl O<|Qr (us:=zj) O λb6 w3 h7 h8 h9=>xl O<|Qm (us:=us) h9 O O h4 O h5 λw4 hA hi =>
  Qe ?_
 have hk:Step [] w2 w4:=h7.then1 hA h8;have Y:=(V.trans h3).trans hk;refine Qg<|Qc<|Qb<|x (Q7 O O)<|xe<|Q2 rfl (λH=>?_) (λH=>?_)
 ·rw[if_pos H]at hp;subst hp;refine Qc<|Qb<|x Qf<|Qe ?_;exact Qk ⟨[Zd,.int .i64 (YU c.cel)],⟨O,O,Z⟩,Y,Zd,O,λ_=>O,λG=>absurd G H⟩
 rw[if_neg H]at hp;have he:=Ll.1 H;obtain⟨t,ht,T,hT⟩:=h6 he;subst ht;have hl:qT [] w4.heap t:=(hT [] (by simp)).ext hk;refine Qi<|Qc<|x (Qo hi O O)<|Qb<|xl O<|xf<|(zR hl T he (hu.ext Y)).mono ?_;rintro r5 U ⟨ha,rfl⟩;refine Qb<|x (Qj O O)<|x (Qj O O)<|x Qf<|Qe ?_;have hb:=Y.trans ha;have hB:=hb.size;refine Qg<|Qc<|Qb<|x (Zp O)<|xe ?_
 refine QX rfl (λhf=>?_) (λhf=>?_)
 ·have I:gens (Xg c.cel) u=false:=by simpa using hf
  rw[I,if_neg (by decide)]at hp;subst hp;refine Qc<|x Qf<|Qe ?_;exact Qk ⟨[Zd,.int .i64 10],⟨O,O,Z⟩,hb,Zd,O,λ_=>O,λG=>absurd G (by decide)⟩
 have I:gens (Xg c.cel) u=true:=by simpa using hf
 rw[if_pos I]at hp;subst hp;obtain⟨hC,hD⟩:=JW he;obtain⟨_,j,hj,hm⟩:=qh hD hC I;have hn:=hl.ext ha;have ho:=hi.ext ha;have J:j<t.qs.length:=by have:=congrArg List.length T.q;rw[Li]at this;omega
 have hF:(if gens (Xg c.cel) u=true then(flw (Xg c.cel) 0 u).1 else 0)=(j:Int):=by rw[if_pos I,hm]
 have hq:mrT c.cel u=(t.qs[j]'J).2:=by
  unfold mrT;rw[hm,←T.q];simp[List.getD,J]
 have hr:=Lh J;refine Qi<|Qg<|QU (Step [] U) [(0,true),(1,true),(2,true),(3,true),(4,true),(5,true),(6,true),(7,true),(8,false),(9,true),(10,true),(11,true),(12,true)] mixed (by rfl) (by kernel_rfl) (Step.drew _ _) ?_;refine p (λ_=>Qa O)<|pq (λ_ hc=>Qd (ho.ext hc) O O)<|p (λ_=>Qa O)<|pq (λ_ hc=>Qd (ho.ext hc) O O) <|
  p (λ_=>Qn)<|Go.Lg.pig O (g:=Yq) (i:=j) (λ_=>O) hn.q.arr O (congrArg (Value.int .i64) hF) J λhK hs=>?_
 refine Zb (t.qs[j]'J) λtq hG=>?_;rw[hG]at hs hq hr;have hh:Step [] U { U with drawn:=U.drawn+1 }:=Step.drew _ _
 have hv:=hn.ext hh;have hR:=yP hv.l (hv.q.each tq hr) e;rw[T.l,←hq]at hR;refine pq (λ_ hc=>Qw (hs.st hc) O)<|p (λ_=>Qn)<|pk<|xf<|hR.mono ?_;rintro r6 w6 ⟨hw,v6,rfl,hH,hI⟩;refine⟨hh.trans hw,?_⟩;refine p (λ_=>Qj O O)<|p (λ_=>Qj O O)<|p (λ_=>Qf)<|p (λ_=>Qf)<|pe ?_
 exact Qk ⟨[v6,.int .i64 (ckV (XD c.cel) (mrT c.cel u) e)],⟨O,O,Z⟩,(hb.trans hh).trans hw,v6,O,hH,λG=>Za (hI G) hB⟩
theorem Qif {w:World}{va vm ve:Value}{n:Nat}(hn:n≤4096):
  QE prog 37 [.agg #[va,.int .i64 n,vm,ve]] w λr w'=>Step [] w w'∧Qt 3 w.heap.size w' r (Kx n):=by
  refine QE.of_W func37 O ntmps37 results37 (by simp) ?_;refine Qc<|xl O<|QP (us:=[va,.int .i64 n,vm,ve]) O λb1 J T hh U=>Qe<|Qc<|Qe<|Qg<|Qc<|x (Qa O)<|x (Qd U O O)<|Qb<|xe<|Qh<|Qz (α:=Nat×Value) [(3,4),(7,14)] (λz=>[(3,z.2),(7,.int .i64 z.1)]) (λz w'=>z.1≤n∧Step [] J w'∧Qt 3 J.heap.size w' z.2 (Kx z.1)) (λz=>n - z.1) (by rfl) (0,nS) ⟨O,O,Z⟩
   ⟨Lk _,Step.refl _ _,QQ _ _ _ _⟩ ?_
  rintro⟨k,v⟩ g w2 ⟨hk,G,E⟩;simp only[]at hk E;have hl:=j5 k;have hi:=G.size;have V:=T.size;refine Qc<|x (QA O O)<|xe<|Qg<|QD O (λH=>?_) (λH=>?_)
  ·refine Qy ?_;have Y:k=n:=by have ha:¬(k:Int)<(n:Int):=H;omega
   rw[Y]at E;refine Qc<|Qb<|Qe ?_;exact Qk ⟨[v],La,T.trans G,Za E V⟩
  have hc:k<n:=by have ha:(k:Int)<(n:Int):=H;omega
  refine Qi<|Qg<|Qh<|Qc<|Qb<|Qe<|Qx<|Qb<|Qb<|xl O<|QJ (us:=[[.int .i64 k]]) O O (by decide) (by simp) ⟨rfl,rfl,Z⟩ λhj w3 I hm he=>?_;have ho:=I.size;refine xl O<|Q5 (news:=[.int .i64 k]) (L:=[]) (Qs E I) O O O (he.at (by simp)) (by simp[Value.oneCell']) (by omega) (by omega) λv4 w4 hf hg hp =>
   Qe ?_
  have hge:=Qq E;refine Qx<|QN O O<|Qb<|xe<|⟨(k+1,v4),by simp only[];omega,⟨O,O,Z⟩,hc,(G.trans I).then hg (λb hb=>.inr (hge b hb).1),?_⟩;simp only[];rw[zM];exact Qt.snoc hf
theorem Qet {n k:Nat}(h:k<n):(Kw n).drop k=(k:Int)::(Kw n).drop (k+1):=by
 have hl:k<(Kw n).length:=by rw[yw];exact h
 rw[LH hl];congr 1;simp[Kw]
theorem QeT (c:ZE)(v:Int)(l:LI):shd c (v::l)=if 2≤(ownr c v).length then some (v,cget (ownr c v) 0,cget (ownr c v) 1)else shd c l:=rfl
def shR (c:ZE):Option (Int×Int×Int):=if Zi c≠0 then none else UO c
set_option maxHeartbeats 4000000 in
theorem Qec {L:LN}{w:World}{c:CL}(h0:ZH L w.heap c):
  QE prog 34 [c.val] w λr w'=>Step [] w w'∧r=.tuple #[.int .i64 (Up (shR c.cel)).1,.int .i64 (Up (shR c.cel)).2.1,.int .i64 (Up (shR c.cel)).2.2,.bool (shR c.cel).isSome,.int .i64 (Zi c.cel)]:=by
 have h:=h0.up (L':=[]) (by simp);have hsr:shR c.cel=if Zi c.cel≠0 then none else UO c.cel:=rfl
 refine Zb (Zi c.cel) λE hE=>?_;refine Zb (shR c.cel) λS hS=>?_;rw[hS,hE]at hsr;rw[hS,hE];have hO:=h.co.arr.le;have hP:=h.ev.arr.le;refine QE.of_W func34 O ntmps34 results34 (by simp) ?_;refine Qc<|xl O<|QP (us:=c.cells) O λb1 w1 hs hQ ht=>x Qf<|x Qf<|x Qf<|x Qf<|Qe<|Qg<|Qc<|x (Qo ht O O)<|xl O<|xf<|(Y1 (h.ext hs)).mono ?_;rintro r2 w2 ⟨hu,hv⟩;rw[hE]at hu;subst hu;refine Qe ?_
 have ha:=hs.trans hv;have hw:=ht.ext hv;refine Qc<|Qb<|x (Q7 O O)<|xe<|Q2 rfl (λU=>?_) (λU=>?_)
 ·rw[if_pos U]at hsr;subst hsr;refine Qc<|Qb<|x Qf<|x Qf<|x Qf<|x Qf<|Qe ?_;exact Qk ⟨[.int .i64 0,.int .i64 0,.int .i64 0,.bool false,.int .i64 E],⟨O,O,O,O,O,Z⟩,ha,O⟩
 rw[if_neg U]at hsr;have hy:E=0:=Ll.1 U;have hR:c.cel.ev.length=c.ev.length:=rfl;have hB:UO c.cel=shd c.cel (Kw c.ev.length):=rfl;rw[hB]at hsr;refine Qi<|Qg<|Qc<|x (Qa O)<|x (Qd hw O O)<|x (Qu (h.ext ha).ev.arr O)<|Qb<|xe ?_
 refine Qh<|Qz (α:=Nat) [(2,6),(8,11),(20,51)] (λz=>[(20,.int .i64 z)]) (λz w'=>z≤c.ev.length∧Step [] w2 w'∧shd c.cel ((Kw c.ev.length).drop z)=S) (λz=>c.ev.length - z) (by rfl) 0 La
  ⟨Lk _,Step.refl _ _,hsr.symm⟩ ?_
 rintro k g w3 ⟨hk,he,G⟩;have hf:=ha.trans he;have hC:=hw.ext he;have h3:=h.ext hf;refine Qc<|x (QA O O)<|xe<|Qg<|QD O (λhg=>?_) (λhg=>?_)
 ·refine Qy ?_;have hD:c.ev.length≤k:=by have hh:¬(k:Int)<(c.ev.length:Int):=hg;omega
  rw[Ls (by rw[yw];exact hD)]at G;have hF:S=none:=G.symm;subst hF;refine Qc<|x Qf<|x Qf<|x Qf<|x Qf<|Qe ?_;exact Qk ⟨[.int .i64 0,.int .i64 0,.int .i64 0,.bool false,.int .i64 0],⟨O,O,O,O,O,Z⟩,hf,by rw[hy];rfl⟩
 have hz:k<c.ev.length:=by have hh:(k:Int)<(c.ev.length:Int):=hg;omega
 rw[Qet hz,QeT]at G;refine Qi<|Qg<|Qh<|Qc<|Qb<|Qe<|Qc<|Qe<|Qg<|Qc<|x (Qa O)<|x (Qd hC O O)<|x (Qu h3.co.arr O)<|Qb<|xe ?_;have hj:ownr c.cel (k:Int)=ixs (λq:IV=>decide ((k:Int)∈q.p.a.al)) 0 c.co:=by
  show ixs (λx:Jz=>decide ((k:Int)∈x.a.al)) 0 (c.co.map (·.it))=_;generalize 0=i0;generalize c.co=l;induction l generalizing i0 with
  | nil=>rfl
  | cons a l ih=>rw[LT,ixs,ixs,ih (i0+1)];rfl
 rw[hj]at G;refine Qh<|Qz (α:=Nat×Value) [(9,11),(26,40)] (λz=>[(9,z.2),(26,.int .i64 z.1)]) (λz w'=>z.1≤c.co.length∧Step [] w3 w'∧Qt 3 w3.heap.size w' z.2 (ixs (λq:IV=>decide ((k:Int)∈q.p.a.al)) 0 (c.co.take z.1))) (λz=>c.co.length - z.1) (by rfl) (0,nS) ⟨O,O,Z⟩
  ⟨Lk _,Step.refl _ _,QQ _ _ _ _⟩ ?_
 rintro⟨i,v⟩ g w4 ⟨hi,J,H⟩;simp only[]at hi H;have h1:=hf.trans J;have h4:=h.ext h1;have hT:=J.size;have hl:=Vp (λq:IV=>decide ((k:Int)∈q.p.a.al)) (c.co.take i) 0;rw[Lx]at hl;refine Qc<|x (QA O O)<|xe<|Qg<|QD O (λhm=>?_) (λhm=>?_)
 ·refine Qy ?_;have h5:c.co.length≤i:=by have hh:¬(i:Int)<(c.co.length:Int):=hm;omega
  rw[Lm h5]at H;rw[Lm h5]at hl;refine Zb (ixs (λq:IV=>decide ((k:Int)∈q.p.a.al)) 0 c.co) λow hj=>?_;rw[hj]at H hl G;have hA:QI [] w4.heap v ow:=Qt.ints H (by omega) (by simp);refine Qc<|Qb<|x (Qu hA O)<|x (ZK O O)<|xe<|Q2 O (λhn=>?_) (λhn=>?_)
  ·have h2:2≤ow.length:=by have hG:(2:Int)≤(ow.length:Int):=hn;omega
   rw[if_pos h2]at G;subst G;have e0:cget ow 0=ow[0]'(by omega):=by unfold cget;simp[List.getD,show 0<ow.length by omega]
   have e1:cget ow 1=ow[1]'(by omega):=by unfold cget;simp[List.getD,show 1<ow.length by omega]
   refine Qg<|QU (Step [] w4) [(0,true),(1,true),(2,true),(3,true),(4,true),(5,true),(6,true),(7,true),(8,true),(9,true),(10,true),(11,true)] mixed (by rfl) (by kernel_rfl) (Step.drew _ _) ?_;refine p (λ_=>Qn)<|p (λ_=>Qn)<|pii (i:=0) O hA O O (by omega) λhU h6=>?_;rw[←e0]at h6;refine pq (λ_ hc=>Qw (h6.st hc) O) <|
    p (λ_=>Qn)<|pii (i:=1) O hA O O (by omega) λhV h7=>?_
   rw[←e1]at h7;refine pq (λ_ hc=>Qw (h7.st hc) O)<|p (λ_=>Qf) <|
    p (λ_=>Qf)<|p (λ_=>Qf)<|p (λ_=>Qf)<|p (λ_=>Qf)<|pe ?_
   exact Qk ⟨[.int .i64 k,.int .i64 (cget ow 0),.int .i64 (cget ow 1),.bool true,.int .i64 0],⟨O,O,O,O,O,Z⟩,h1.trans (Step.drew _ _),by rw[hy];rfl⟩
  have h2:¬2≤ow.length:=by have hG:¬(2:Int)≤(ow.length:Int):=hn;omega
  rw[if_neg h2]at G;refine Qi<|Qx<|QN O O<|Qb<|xe ?_;exact⟨k+1,by omega,La,hz,he.trans J,G⟩
 have I:i<c.co.length:=by have hh:(i:Int)<(c.co.length:Int):=hm;omega
 have h8:=Lh I;have T:=Qag (λq:IV=>decide ((k:Int)∈q.p.a.al)) I;refine Qi<|Qg<|Qh<|Qc<|Qb<|xig (g:=Zm) (i:=i) YZ h4.co.arr O O I λhW h9=>?_;refine Zb (c.co[i]'I) λq hq=>?_;rw[hq]at h9 h8 T;have V:=h4.co.each q h8;refine x (QG h9 O O)<|xl O<|Qr (us:=[.string .empty,nS,.int .i64 0,nS,nS]) O λb11 w5 hH hI ho=>x Qf <|
  xl rfl<|Qm (us:=Zm q) ho O O O O ⟨O,V.al.one,O,V.mr.one,V.ed.one,Z⟩ λw6 hJ ho=>xe ?_
 have Y:Step [] w4 w6:=hH.then1 hJ hI;refine Qc<|x (Qa O)<|x (Qa O)<|x (Qd ho O O)<|Qb<|xl O<|xf<|(Z7 (V.al.ext Y) (k:Int)).mono ?_;rintro r7 w7 ⟨rfl,rfl⟩;refine xe<|Q2 rfl (λhp=>?_) (λhp=>?_)
 ·rw[if_pos (decide_eq_true hp)]at T;refine Qx<|Qb<|Qb<|xl O<|QJ (us:=[[.int .i64 i]]) O O (by decide) (by simp) ⟨rfl,rfl,Z⟩ λhX w8 hK hY hL=>?_;have hr:=Y.trans hK;have hZ:=hr.size;refine xl O<|Q5 (news:=[.int .i64 i]) (L:=[]) (Qs H hr) O O O (hL.at (by simp)) (by simp[Value.oneCell']) (by omega) (by omega) λv9 w9 hM hN ga =>
   Qe ?_
  have hge:=Qq H;refine Qx<|QN O O<|Qb<|xe<|⟨(i+1,v9),by simp only[];omega,⟨O,O,Z⟩,I,(J.trans hr).then hN (λb hb=>.inr (hge b hb).1),?_⟩;simp only[];rw[T];exact Qt.snoc hM
 rw[if_neg (by simpa using hp),LL]at T;refine Qi<|Qx<|QN O O<|Qb<|xe ?_;exact⟨(i+1,v),by simp only[];omega,⟨O,O,Z⟩,I,J.trans Y,by simp only[];rw[T];exact Qs H Y⟩
abbrev rp0:LV:=[.bool false,.int .i64 0,.int .i64 0,.int .i64 0,.bool false,nS,nS,.int .i64 0]
abbrev rpV (S:Option (Int×Int×Int))(nc:Bool)(vw vs:Value)(st:Int):LV:=[.bool (!S.isSome),.int .i64 (Up S).1,.int .i64 (Up S).2.1,.int .i64 (Up S).2.2,.bool nc,vw,vs,.int .i64 st]
theorem rpA {c:ZE}{vw vs:Value}:rpV (UO c) (decide ((XS (Xg c)).length=0)) vw vs (Xg c).st=[.bool (KS c).ps,.int .i64 (KS c).ev,.int .i64 (KS c).f1,.int .i64 (KS c).f2,.bool (KS c).nc,vw,vs,.int .i64 (KS c).tg]:=by
 unfold KS rpV;cases UO c <;> rfl
theorem qF {c:ZE}(h:YU c=0):Zi c=0:=by
 have h1:=(Qca h).1;rw[Qa9]at h1;by_cases h2:Zi c≠0
 ·rw[if_pos h2]at h1;exact absurd h1 h2
 exact Ll.1 h2
set_option maxRecDepth 4096 in
set_option maxHeartbeats 8000000 in
theorem Ul {L:LN}{w:World}{c:CL}(Y:ZH L w.heap c)(g5:Kb w 4096):
  QE prog 10 [c.val] w λr w'=>Step [] w w'∧∃us,r=.tuple #[.agg us.toArray,.int .i64 (YU c.cel)]∧us.length=8∧ZF us ∧
   (YU c.cel=0→∃vw vs,us=[.bool (KS c.cel).ps,.int .i64 (KS c.cel).ev,.int .i64 (KS c.cel).f1,.int .i64 (KS c.cel).f2,.bool (KS c.cel).nc,vw,vs,.int .i64 (KS c.cel).tg]∧Qt 3 w.heap.size w' vw (KS c.cel).wd∧Qt 3 w.heap.size w' vs (KS c.cel).sts)∧(YU c.cel≠0→us=rp0):=by
 have h:=Y.up (L':=[]) (by simp);have g6:(KS c.cel).wd=QeY (Xg c.cel):=rfl;have g7:(KS c.cel).sts=(XD c.cel).map (·.st):=rfl;rw[g6,g7];refine QE.of_W func10 O ntmps10 results10 (by simp) ?_;refine Qc<|xl O<|QP (us:=c.cells) O λb1 w1 hJ p5 hK=>xl O<|Qr (us:=rp0) O λb2 w2 hm p6 hL=>Qe ?_;have h3:=hJ.trans hm;have p7:=hJ.size;have p8:=hm.size;have p9:=hL.lt
 refine Qc<|x (Qo (hK.ext hm) O O)<|xl O<|xf<|(Jp (h.ext h3) (g5.ext h3)).mono ?_;rintro r3 w3 ⟨hM,us,rfl,g8,g9,ka⟩;refine Qb<|x (Qj O O)<|x (Qj O O)<|xl O<|Qr (us:=zj) O λb4 w4 kb kc ke=>xl O<|Qm (us:=us) ke O O g8 O g9 λw5 kf hN =>
  Qe ?_
 have h4:Step [] w3 w5:=kb.then1 kf kc;have h5:=hM.trans h4;have h6:=h3.trans h5;have qc:=hM.size;have qf:=h4.size;have ql:=hN.lt;have hO:=hL.ext h5;refine Qg<|Qc<|Qb<|x (Q7 O O)<|xe<|Q2 rfl (λh7=>?_) (λh7=>?_)
 ·refine Qc<|x (QK Z)<|Qb<|xl O<|Qm (us:=rp0) hO O O O O ⟨O,O,O,O,O,O,O,O,Z⟩ λw6 kg kh=>Qe ?_;exact Qk ⟨[.agg rp0.toArray,.int .i64 (YU c.cel)],⟨⟨_,O,Qv O (kh.at (L:=[]) (by simp)).cells⟩,rfl,Z⟩,h6.then1 kg (by omega),rp0,rfl,rfl,⟨rfl,rfl,rfl,rfl,rfl,rfl,rfl,rfl,Z⟩,λY=>absurd Y h7,λ_=>rfl⟩
 have he:=Ll.1 h7;have hck:=qF he;have ki:shR c.cel=UO c.cel:=by unfold shR;rw[if_neg (by simpa using hck)]
 obtain⟨t,ht,ho,hT⟩:=ka he;subst ht;obtain⟨kj,hp⟩:=JW he;have kk:=hp.st0;have kn:=hp.st1;have ko:(XD c.cel).map (·.st)=t.ps.map (λp=>p.a.st):=by rw[←ho.l,MD];rfl
 rw[ko];have kp:qT [] w3.heap t:=hT [] (by simp);have hP:qT [] w5.heap t:=kp.ext h4;rw[←ho.A]at kj hp kk kn;obtain⟨n,hn⟩:∃n:Nat,t.A.st=n:=⟨t.A.st.toNat,by omega⟩;have hQ:t.A.st.toNat=n:=by omega
 have hR:Y6 t.A=0:=(Zw _).2 hp;have qo:=hP.l.arr.le;refine Qi<|Qc<|x (Qo ((hK.ext hm).ext h5) O O)<|xl O<|xf<|(Qec (h.ext h6)).mono ?_;rintro r7 w7 ⟨ha,rfl⟩;rw[ki];refine Zb (UO c.cel) λS hS=>?_;rw[hS];refine Qb<|x (Qj O O)<|x (Qj O O)<|x (Qj O O)<|x (Qj O O)<|x (Qj O O)<|x Qf <|
  x Qf<|x Qf<|x Qf<|Qe ?_
 have kq:=h6.trans ha;have hU:=hN.ext ha;have kr:=hO.ext ha;have qr:=ha.size;refine Qg<|Qc<|Qb<|x (Q7 O O)<|xe<|Q2 rfl (λhV=>?_) (λhV=>?_)
 ·exact absurd hck hV
 refine Qi<|Qc<|Qb<|x (Zp O)<|x (Qa O)<|x (Qa O)<|x (Qd hU O O)<|x (QK ⟨O,O,O,Z⟩)<|xl O<|Qr (us:=rp0) O λb10 w9 kt hW ku =>
  xl rfl<|Qm (us:=[.bool (!S.isSome),.int .i64 0,.int .i64 0,.int .i64 0,.bool true,nS,nS,.int .i64 t.A.st]) ku O O O O ⟨O,O,O,O,O,O,O,O,Z⟩ λhX kv hr=>xe ?_
 have hf:Step [] w7 hX:=kt.then1 kv hW;have kw:=kq.trans hf;have q0:=hf.size;have q4:=hr.lt;have kx:=hU.ext hf;have kz:=kr.ext hf;have h8:b2≠b10:=by omega
 have h9:b4≠b10:=by omega
 have hA:w.heap.size≤b10:=by omega
 refine QZ (α:=Unit) [(43,49)] (λz=>[]) (λz w'=>Step [b10] hX w'∧QS w'.heap b10 41 (rpV S true (nS) (nS) t.A.st)) (by rfl) ?_ ?_
 ·refine Qc<|Qb<|xe<|QX O (λhY=>?_) (λhY=>?_)
  ·refine Qx<|Qb<|Qb<|Qb<|x (Qa O)<|xl O<|QC (j:=1) (u:=.int .i64 (Up S).1) hr O O (by simp) rfl λq5 k0 k4=>x (Qa rfl) <|
    xl rfl<|QC (j:=2) (u:=.int .i64 (Up S).2.1) k4 O O (by simp) rfl λq9 k5 k6=>x (Qa rfl)<|xl rfl<|QC (j:=3) (u:=.int .i64 (Up S).2.2) k6 rfl rfl (by simp) rfl λj1 k7 k8 =>
    xe ?_
   exact⟨(),Z,(k0.trans' k5).trans' k7,k8⟩
  refine Qi ?_;have k9:S=none:=by cases S with|none=>rfl|some z=>cases hY
  exact⟨(),Z,Step.refl _ _,by rw[k9]at hr ⊢;exact hr⟩
 rintro z g E ⟨hg,ma⟩;have hZ:Step [] w E:=kw.then1 hg hA;have j2:=hg.size;have ga:QS E.heap b4 103 (X0 t):=kx.step hg (by simpa using h9);have mc:QS E.heap b2 41 rp0:=kz.step hg (by simpa using h8)
 have gb:qT [b10] E.heap t:=((((hP.ext ha).up (L':=[b10]) (λb hb=>by simp only[List.mem_singleton]at hb;subst hb;exact .inr hW)).ext hf).st hg);refine Qg<|Qc<|x (Qa O)<|x (Qd ga O O)<|x (Qu gb.l.arr O)<|Qb<|xe ?_
 refine Qh<|Qz (α:=Nat×Value) [(12,12),(53,64)] (λz=>[(53,.int .i64 z.1)]) (λz w'=>z.1≤t.ps.length∧Step [b10] E w'∧QS w'.heap b10 41 (rpV S true (nS) z.2 t.A.st)∧Qt 3 E.heap.size w' z.2 ((t.ps.take z.1).map (λp=>p.a.st))) (λz=>t.ps.length - z.1) (by rfl) (0,nS) La
  ⟨Lk _,Step.refl _ _,ma,QQ _ _ _ _⟩ ?_
 rintro⟨k,vs⟩ g I ⟨hk,J,hs,T⟩;simp only[]at hk hs T;have mf:Step [] w I:=hZ.then1 J hA;have j3:=J.size;have gc:QS I.heap b4 103 (X0 t):=ga.step J (by simpa using h9);have mg:QS I.heap b2 41 rp0:=mc.step J (by simpa using h8);have hu:qT [b10] I.heap t:=gb.st J;have hB:=Qq T
 have j4:((t.ps.take k).map (λp=>p.a.st)).length=k:=by rw[Li,Lx];omega
 refine Qc<|x (QA O O)<|xe<|Qg<|QD O (λhC=>?_) (λhC=>?_)
 ·refine Qy ?_;have mh:t.ps.length≤k:=by have mj:¬(k:Int)<(t.ps.length:Int):=hC;omega
  rw[Lm mh]at T;have ge:qT [] I.heap t:=hu.up (by simp);refine Qc<|x (Qa O)<|x (Zy (us:=[t.va,.int .i64 t.A.st,t.vm,t.ve]) gc O O O)<|xl O<|xf<|(qX ge.a).mono ?_;rintro za hv ⟨G,vc,rfl,gg⟩;rw[if_pos hR]at gg;refine Qb<|x (Qj O O)<|x (Qj O O)<|x Qf<|Qe ?_;have gh:=mf.trans G;have zb:=G.size;have gi:=gc.ext G
  have zv:=ge.ext G;have z0:(cor t.A).length≤4096:=by
   have:(cor t.A).length≤t.A.st.toNat:=by
    unfold cor KN;rw[Li];have:=LU (λi=>decide (0≤cget (bwd t.A.st.toNat t.A.ed t.A.mr) i)) (List.range t.A.st.toNat);rw[List.length_range]at this;exact this
   omega
  have mo:mrg (λp q=>p && !q) (Kx n) (cor t.A)=XS t.A:=by unfold XS;rw[hQ]
  have z2:=j5 n;have mq:n≤4096:=by omega
  have gj:∀w:World,QE prog 37 [.agg #[t.va,.int .i64 t.A.st,t.vm,t.ve]] w λr w'=>Step [] w w'∧Qt 3 w.heap.size w' r (Kx n):=by
   intro w;rw[hn];exact Qif mq
  refine QZ (α:=Bool×Value) [(15,15),(71,91)] (λz=>[]) (λz w'=>Step [b10] hv w'∧QS w'.heap b10 41 (rpV S z.1 z.2 vs t.A.st)∧z.1=decide ((XS t.A).length=0)∧Qt 3 hv.heap.size w' z.2 (QeY t.A)) (by rfl) ?_ ?_
  ·refine Qc<|x (Qa O)<|x (Zy (us:=[t.va,.int .i64 t.A.st,t.vm,t.ve]) gi O O O)<|xl O<|xf<|(gj hv).mono ?_;rintro z3 z4 ⟨hD,ms⟩;have z5:=hD.size;refine Qb<|xl O<|xf<|(QaV (Qt.ints (L:=[]) ms (by omega) (by simp)) (Qt.ints (L:=[]) (Qs gg hD) (by omega) (by simp)) (by omega)).mono ?_;rintro gk mt ⟨gl,hw⟩;rw[mo]at hw;refine Qe ?_;have hh:=hD.trans gl
   have z9:=gl.size;have gm:=(hs.ext G).ext hh;have mu:=gi.ext hh;have hbl:(XS t.A).length≤4096:=by
    have h1:(XS t.A).length≤n:=by
     have:=yZ (S:=n) (λx hx=>by have:=((qN t.A x).1 hx).1;omega) (qO t.A);exact this
    omega
   have mv:QI [] mt.heap gk (XS t.A):=Qt.ints hw (by omega) (by simp);refine Qc<|Qb<|x (Qu mv O)<|x (ZP O O)<|xe<|QD O (λhE=>?_) (λhE=>?_)
   ·have U:(XS t.A).length=0:=by have mw:¬(0:Int)<((XS t.A).length:Int):=hE;omega
    refine Qi<|⟨(true,nS),Z,hh.any,gm,by rw[decide_eq_true U],?_⟩;unfold QeY;rw[if_pos U];exact QQ _ _ _ _
   have U:¬(XS t.A).length=0:=by have mw:(0:Int)<((XS t.A).length:Int):=hE;omega
   have mx:0<n:=by
    refine Nat.pos_of_ne_zero λe=>U ?_;subst e;exact Nat.eq_zero_of_le_zero (yZ (S:=0) (λx hx=>by have:=((qN t.A x).1 hx).1;omega) (qO t.A))
   refine Qc<|x (Qa O)<|xl O<|QC (j:=4) (u:=.bool false) gm O O (by simp) rfl λH hi my=>xe ?_;have gn:QS H.heap b4 103 (X0 t):=mu.step hi (by simpa using h9);have mz:qT [] H.heap t:=((hu.ext (G.trans hh)).st hi).up (by simp);have hge18:=Qq hw
   have m0:QI [] H.heap gk (XS t.A):=(((Qt.ints (L:=[b10]) hw (by omega) (by simp only[List.mem_singleton];omega)).st hi)).up (by simp);have hz19:=hi.size;refine QU (Step [] H) [(0,true),(1,true),(2,true),(3,true),(4,true),(5,false),(6,false),(7,true),(8,true),(9,true),(10,true),(11,true),(12,false)] mixed (by rfl) (by kernel_rfl) (Step.drew _ _) ?_
   have m1:Step [] H { H with drawn:=H.drawn+1 }:=Step.drew _ _
   refine p (λ_=>Qa O)<|pq (λ_ hc=>Zy (us:=[t.va,.int .i64 t.A.st,t.vm,t.ve]) (gn.ext hc) O O O)<|p (λ_=>Qn)<|p (λ_=>Qa O)<|pq (λ_ hc=>Zy (us:=[t.va,.int .i64 t.A.st,t.vm,t.ve]) (gn.ext hc) O O O) <|
    pk<|xf<|(gj _).mono ?_
   rintro r20 w20 ⟨m2,m3⟩;have hj:=m1.trans m2;have hz20:=hj.size;refine⟨hj,?_⟩;have m4:YJ t.A.st none (Kx n)=0:=QbK (λx hx=>by have:=(Vk n x).1 hx;omega) (U2 n);have m5:YJ t.A.st none (XS t.A)=0:=QbK (λx hx=>by have:=((qN t.A x).1 hx).1;omega) (qO t.A)
   have hPath:=Qjp (from0:=0) ((mz.a).ext hj) hR hn mx (m0.ext hj) (Qt.ints (L:=[]) m3 (by omega) (by simp)) m5 m4 ((Vk n _).2 ⟨by omega,by omega⟩);refine pk<|xf<|hPath.mono ?_;rintro r21 w21 ⟨m6,vp,rfl,go⟩;have hF:=hj.trans m6;refine⟨hF,?_⟩;have m7:=my.ext hF;refine p (λ_=>Qn)<|p (λ_=>Qj O O)<|p (λ_=>Qj O O)<|p (λ_=>Qj O O)<|p (λ_=>Qa O) <|
    pkl (hl:=by kernel_rfl)<|QC (j:=5) (u:=vp) m7 O O (by simp) (QL go) λw22 gq m8=>pe ?_
   refine⟨(false,vp),Z,((hh.any.trans' hi).trans hF).trans' gq,m8,by rw[decide_eq_false U],?_⟩;unfold QeY;rw[if_neg U,hQ];have gr:=Za (base':=hv.heap.size) go (by omega);exact Ql gr gq (λb hb=>by have:=(Qq gr b hb).1;simp only[List.mem_singleton];omega)
  rintro⟨nc,vw⟩ g gs ⟨hy,gt,gu,hz⟩;simp only[]at gt gu hz;subst gu;have m9:Step [] w gs:=gh.then1 hy hA;have hz23:=hy.size;have pa:QS gs.heap b2 41 rp0:=(mg.ext G).step hy (by simpa using h8);have gv:=Ql (Qs T G) hy (λb hb=>by have:=(hB b hb).1;simp only[List.mem_singleton];omega)
  have gx:ZF (rpV S (decide ((XS t.A).length=0)) vw vs t.A.st):=⟨O,O,O,O,O,QL hz,QL T,O,Z⟩;refine Qc<|x (Qo gt O O)<|xl O<|Qm (us:=rpV S (decide ((XS t.A).length=0)) vw vs t.A.st) pa O O O O gx λw24 hG pc=>Qe ?_;have hl224:b2<E.heap.size:=by omega
  refine Qk ⟨[.agg (rpV S (decide ((XS t.A).length=0)) vw vs t.A.st).toArray,.int .i64 0],⟨⟨_,O,Qv O (pc.at (L:=[]) (by simp)).cells⟩,rfl,Z⟩,m9.then1 hG (by omega),rpV S (decide ((XS t.A).length=0)) vw vs t.A.st,by rw[he];rfl,O,gx,λ_=>⟨vw,vs,?_,?_,?_⟩,λY=>absurd he Y⟩
  ·rw[←rpA,hS,ho.A]
  ·rw[←ho.A];have:=Ql hz hG (λb hb=>by have:=(Qq hz b hb).1;simp only[List.mem_singleton];omega);exact Za this (by have:=gh.size;omega)
  have:=Ql gv hG (λb hb=>by have:=(Qq gv b hb).1;simp only[List.mem_singleton];omega);exact Za this hZ.size
 have V:k<t.ps.length:=by have mj:(k:Int)<(t.ps.length:Int):=hC;omega
 have gy:t.ps.take (k+1)=t.ps.take k++[t.ps[k]'V]:=Le V;have gz:=Lh V;refine Qi<|Qg<|Qh<|Qc<|xig (g:=Q9) (i:=k) Jf hu.l.arr O O V λa55 g0=>?_;refine Zb (t.ps[k]'V) λq hq=>?_;rw[hq]at g0 gz gy;have hH:=hu.l.each q gz
 refine x (QG g0 O O)<|xl O<|Qr (us:=[nS,.int .i64 0,nS,nS]) O λb12 w25 pd pf pg=>xl O<|Qm (us:=Q9 q) pg O O O O ⟨hH.al.one,O,hH.mr.one,hH.ed.one,Z⟩ λph pj pn =>
  xe ?_
 have g1:Step [] I ph:=pd.then1 pj pf;have po:=hs.ext g1;refine Qx<|x (Qa O)<|x (Qd po O O)<|x (Qa O)<|x (Qd pn O O)<|xl O<|QJ (us:=[[.int .i64 q.a.st]]) O O (by decide) (by simp) ⟨rfl,rfl,Z⟩ λb61 w27 pp hb61 pt=>?_;have h2:=g1.trans pp;have hz27:=h2.size;have pu:b10∉ob vs:=λhb=>by have:=(hB b10 hb).1;omega
 refine xl rfl<|Q5 (news:=[.int .i64 q.a.st]) (L:=[]) (Qs T h2) O O O (pt.at (by simp)) (by simp[Value.oneCell']) (by omega) (by omega) λg2 pw hI g3 hn28=>?_;have pz:=(hs.ext h2).step g3 pu;refine x (Qa O)<|xl O<|QC (j:=6) (u:=g2) pz O O (by simp) (QL hI) λw29 g4 p0 =>
  xe ?_
 refine Qx<|QN O O<|Qb<|xe ?_;have p4:Step [b10] E pw:=(J.trans h2).then g3 (λb hb=>.inr (hB b hb).1);refine⟨(k+1,g2),by simp only[];omega,La,V,p4.trans' g4,p0,?_⟩;simp only[];rw[gy,Lv];have:=Ql hI g4 (λb hb=>by have:=(Qq hI b hb).1;simp only[List.mem_singleton];omega);exact Qt.snoc (n:=q.a.st) this
theorem Qb7 {L:LN}{w:World}{c:CL}(E:ZH L w.heap c)(G:Kb w 4096):
  QE prog 10 [c.val] w λr w'=>Step [] w w'∧∃us,r=.tuple #[.agg us.toArray,.int .i64 (YU c.cel)]∧us.length=8∧ZF us ∧
   (YU c.cel=0→∃vw vs,us=[.bool (KS c.cel).ps,.int .i64 (KS c.cel).ev,.int .i64 (KS c.cel).f1,.int .i64 (KS c.cel).f2,.bool (KS c.cel).nc,vw,vs,.int .i64 (KS c.cel).tg]∧Qt 3 w.heap.size w' vw (KS c.cel).wd∧Qt 3 w.heap.size w' vs (KS c.cel).sts):=
 (Ul E G).mono λ_ _ ⟨h1,us,h2,h3,h4,h5,_⟩=>⟨h1,us,h2,h3,h4,h5⟩
end Go.Proofs.YtjcgijbhaemldaaGreatDoor
namespace Go.Lg
theorem jK {κ:Type}[DecidableEq κ]{l:List κ}{s:κ}(h:s∉l):mput (l.map λs=>(s,Value.bool true)) s (.bool true)=(l++[s]).map λs=>(s,Value.bool true):=by
 induction l with
 | nil=>rfl
 | cons a l ih =>
  have h1:a≠s:=λe=>h (by subst e;exact Lr);show(if a=s then(a,Value.bool true)::(l.map λs=>(s,Value.bool true))else(a,Value.bool true)::mput (l.map λs=>(s,Value.bool true)) s (.bool true))=_
  rw[if_neg h1,ih (λhm=>h (Ln _ hm))];rfl
theorem QeU {κ:Type}[DecidableEq κ](l:List κ)(s:κ):mget (l.map λs=>(s,Value.bool true)) s=if s∈l then some (.bool true)else none:=by
 induction l with
 | nil=>rfl
 | cons a l ih =>
  show(if a=s then some (Value.bool true)else mget (l.map λs=>(s,Value.bool true)) s)=_
  rw[ih];by_cases h:a=s
  ·subst h;simp
  rw[if_neg h];have h':¬s=a:=λe=>h e.symm;simp[h']
section
variable {P:Program}{f:Fr}{w:World}{d:Option Nat}{ty:Nat}{ps:String}{af:Array Edge}{gd:Option (Nat×Bool)}{κ:Type}[DecidableEq κ]
theorem zJ {t kt et:Nat}[hm:Mp P t kt et (.bool false)]{enc:κ→Value}[hk:Key P kt enc]{x y:Operand}{b:Nat}{l:List κ}{s:κ}(h:ZG enc w.heap b (l.map λs=>(s,Value.bool true)))(hx:ev f x=.map (some b))(hy:ev f y=enc s):
  (execOp (ev f) ⟨d,.lookup t x y false,ty,ps,af,gd⟩).run P w=.ok (.value (.bool (decide (s∈l)))) w:=by
 rw[Ji h hx hy,QeU];by_cases hs:s∈l <;> simp[hs]
end
end Go.Lg
namespace Go.Proofs.YtjcgijbhaemldaaGreatDoor
open Go.Proofs.Tryz
open Go.Lg
instance ayYv1:Ay prog 184 2 3 1:=⟨by kernel_rfl,by kernel_rfl⟩
def V4:List QM→Int
 | []=>0
 | a::l=>if Y6 a≠0 then Y6 a else V4 l
def QgH (kd:Int)(l:List QM):Int:=if V4 l≠0 then V4 l else if kd≠1∧kd≠2 then 11 else 0
theorem Ql3 (a b:QM)(kd:Int):QgH kd [a,b]=lgE a b kd:=by
 unfold QgH lgE V4;by_cases h1:Y6 a≠0
 ·simp only[if_pos h1]
 rw[if_neg h1,if_neg h1];unfold V4;by_cases h2:Y6 b≠0
 ·simp only[if_pos h2]
 rw[if_neg h2,if_neg h2];unfold V4;simp
theorem Qbv {L:LN}{w:World}{v:Value}{ps:List AV}(h0:YH L w.heap v ps)(kd:Int):
  QE prog 84 [.int .i64 kd,v] w λr w'=>r=.int .i64 (QgH kd (ps.map (·.a)))∧Step [] w w':=by
 have h:=h0.up (L':=[]) (by simp);have ht:=h.arr.le;have G:QgH kd (ps.map (·.a))=if V4 (ps.map (·.a))≠0 then V4 (ps.map (·.a))else if kd≠1∧kd≠2 then 11 else 0:=rfl
 refine Zb (QgH kd (ps.map (·.a))) λE hE=>?_;rw[hE]at G ⊢;refine QE.of_W func84 O ntmps84 results84 (by simp) ?_;refine Qc<|Qe<|Qg<|Qc<|Qb<|x (Qu h.arr O)<|Qb<|xe<|Qh<|Qz (α:=Nat) [(4,4),(6,7),(10,19)] (λz=>[(10,.int .i64 z)]) (λz w'=>z≤ps.length∧Step [] w w'∧V4 ((ps.drop z).map (·.a))=V4 (ps.map (·.a))) (λz=>ps.length - z) (by rfl) 0 La ⟨Lk _,Step.refl _ _,O⟩ ?_
 rintro k g w1 ⟨hk,H,hk1⟩;refine Qc<|x (QA O O)<|xe<|Qg<|QD O (λU=>?_) (λU=>?_)
 ·refine Qy ?_;have hh:ps.length≤k:=by have hi:¬(k:Int)<(ps.length:Int):=U;omega
  rw[Ls hh]at hk1;have hz:V4 (ps.map (·.a))=0:=hk1.symm;rw[if_neg (by simpa using hz)]at G;refine Qg<|QZ (α:=Bool) [(20,25)] (λz=>[(25,.bool z)]) (λz w'=>w'=w1∧z=decide (kd≠1∧kd≠2)) (by rfl) ?_ ?_
  ·refine Qx<|Qb<|xb (Q7 O O) (λV=>?_) (λV=>?_)
   ·refine Qb<|Qb<|x (Q7 O O)<|x (Qp O)<|xe ?_;have Y:¬kd=1:=V;exact⟨decide (¬kd=2),La,O,by simp[Y]⟩
   refine Qb<|xs O<|xs O<|x (Qp O)<|xe ?_;have Y:kd=1:=Ll.1 V;exact⟨false,La,O,by simp[Y]⟩
  rintro z g w2 ⟨rfl,hb⟩;refine QX O (λha=>?_) (λha=>?_)
  ·rw[if_pos (of_decide_eq_true (hb.symm.trans ha))]at G;subst G;refine Qc<|Qe ?_;exact Qk ⟨[_],La,O,H⟩
  rw[if_neg (of_decide_eq_false (hb.symm.trans ha))]at G;subst G;refine Qi<|Qc<|Qe ?_;exact Qk ⟨[_],La,O,H⟩
 have I:k<ps.length:=by have hi:(k:Int)<(ps.length:Int):=U;omega
 have hc:=Lh I;rw[LH I,LT,V4]at hk1;refine Qi<|Qg<|Qh<|Qc<|xig (g:=Q9) (i:=k) Jf (h.ext H).arr O O I λhu he=>?_;refine Zb (ps[k]'I) λq hq=>?_;rw[hq]at he hc hk1;have J:=(h.ext H).each q hc
 refine x (QG he O O)<|xl O<|Qr (us:=[nS,.int .i64 0,nS,nS]) O λb6 w3 hj hl hm=>xl O<|Qm (us:=Q9 q) hm O O O O ⟨J.al.one,O,J.mr.one,J.ed.one,Z⟩ λw4 hn ho =>
  xe ?_
 have hf:Step [] w1 w4:=hj.then1 hn hl;refine Qc<|x (Qo ho O O)<|xl O<|xf<|(YP (J.ext hf)).mono ?_;rintro r5 w5 ⟨rfl,hp⟩;refine Qe ?_;have hg:=(H.trans hf).trans hp;refine Qc<|Qb<|x (Q7 O O)<|xe<|Q2 rfl (λT=>?_) (λT=>?_)
 ·rw[if_pos T]at hk1;have hs:V4 (ps.map (·.a))≠0:=by rw[←hk1];exact T
  rw[if_pos hs,←hk1]at G;subst G;refine Qc<|Qb<|Qe ?_;exact Qk ⟨[_],La,O,hg⟩
 rw[if_neg T]at hk1;refine Qi<|Qx<|QN O O<|Qb<|xe ?_;exact⟨k+1,by omega,La,I,hg,hk1⟩
abbrev stI (l:LI):List (Int×Value):=l.map λs=>(s,Value.bool true)
structure jm (H:Array Obj)(b m1 m2:Nat)(a:QM):Prop where
 B:QS H b 250 [.map (some m1),.map (some m2),.int .i64 (fst a)]
 e:ZG ZQ H m1 (JL [] a.ed)
 m:ZG Jc H m2 (stI a.mr)
theorem jm.step {X:LN}{w w':World}{b E G:Nat}{a:QM}(h:jm w.heap b E G a)(hs:Step X w w')(H:b∉X)(h1:E∉X)(h2:G∉X):jm w'.heap b E G a:=⟨h.B.step hs H,h.e.step hs h1,h.m.step hs h2⟩
theorem jm.ext {w w':World}{b E G:Nat}{a:QM}(h:jm w.heap b E G a)(hs:Step [] w w'):jm w'.heap b E G a:=h.step hs (by simp) (by simp) (by simp)
theorem zS {w:World}{b H I:Nat}{a:QM}(h:jm w.heap b H I a)(J:Q3 a)(s v:Int):
  QE prog 139 [.pointer (some ⟨b,0,none⟩),.int .i64 s,.int .i64 v] w λr w'=>r=.int .i64 (nxt a.ed s v)∧Step [] w w':=by
 have E:nxt a.ed s v=(if(eget a.ed s v).isSome=true then(eget a.ed s v).getD 0 else -1):=by rw[Vi];cases eget a.ed s v <;> rfl
 refine QE.of_W func139 O ntmps139 results139 (by simp) ?_;refine Qc<|Qe<|Qg<|Qc<|Qb<|x (QF O)<|x (Qa O)<|x (Qd h.B O O)<|Qb<|Qb<|x (QK ⟨O,O,Z⟩)<|x (Qcs (s:=a) (q:=s) (v:=v) h.e J.edi O O) <|
  Qb<|x (Qj O O)<|x (Qj O O)<|x Qf<|Qe<|Qc<|Qb<|xe ?_
 refine Q2 rfl (λG=>?_) (λG=>?_)
 ·rw[if_pos G]at E;refine Qc<|Qb<|Qe ?_;exact Qk ⟨[_],La,by rw[E];rfl,Step.refl _ _⟩
 rw[if_neg G]at E;refine Qi<|Qc<|Qe ?_;exact Qk ⟨[_],La,by rw[E];rfl,Step.refl _ _⟩
theorem QcL {w:World}{b I J:Nat}{a:QM}(h:jm w.heap b I J a)(s kd:Int):
  QE prog 89 [.pointer (some ⟨b,0,none⟩),.int .i64 s,.int .i64 kd] w λr w'=>r=.bool (U6 a kd s)∧Step [] w w':=by
 refine QE.of_W func89 O ntmps89 results89 (by simp) ?_;refine Qc<|Qe<|QZ (α:=Bool) [(6,20)] (λz=>[(6,.bool z)]) (λz w'=>w'=w∧z=U6 a kd s) (by rfl) ?_ ?_
 ·refine Qx<|Qb<|xb (ZK O O) (λE=>?_) (λE=>?_)
  ·have h9:0≤s:=E;refine Qb<|Qb<|xb (Zc O O) (λG=>?_) (λG=>?_)
   ·refine Qb<|xs O<|xs O<|xs O<|xs O<|xs O<|xs O<|x (Qp O)<|x (Qp O)<|Qe ?_;have H:kd=1:=G;exact⟨true,La,O,by simp[U6,h9,H]⟩
   have H:¬kd=1:=G;refine Qb<|Qb<|x (QF O)<|x (Qa O)<|x (Qd h.B O O)<|Qb<|x (zJ (s:=s) h.m O O)<|x (Qp O)<|x (Qp O) <|
    Qe ?_
   exact⟨decide (s∈a.mr),La,O,by simp[U6,h9,H]⟩
  have h9:¬0≤s:=E;refine Qb<|xs O<|xs O<|xs O<|xs O<|xs O<|xs O<|xs O<|xs O<|xs O<|xs O<|x (Qp O)<|x Qf <|
   xe ?_
  exact⟨false,La,O,by simp[U6];omega⟩
 rintro z g T ⟨rfl,rfl⟩;exact Qk ⟨[_],La,O,Step.refl _ _⟩
theorem QfI {w:World}{b10 I b11 J Y he T hf hg:Nat}{a b:QM}{kd:Int}(hh:QS w.heap b10 180 [.pointer (some ⟨J,0,none⟩)])(hi:QS w.heap b11 180 [.pointer (some ⟨T,0,none⟩)])
  (h5:QS w.heap I 3 [.int .i64 kd]) (ha:jm w.heap J Y he a) (hb:jm w.heap T hf hg b) (s t:Int):
  QE prog 88 [.agg #[.int .i64 s,.int .i64 t],.pointer (some ⟨b10,0,none⟩),.pointer (some ⟨I,0,none⟩),.pointer (some ⟨b11,0,none⟩)] w λr w'=>r=.bool (!(U6 a kd s == U6 b kd t))∧Step [] w w':=by
 refine QE.of_W func88 O ntmps88 results88 (by simp) ?_;refine Qc<|xl O<|QP (us:=[.int .i64 s,.int .i64 t]) O λb4 G E hj U=>Qe ?_;have hd:Step [] G { G with drawn:=G.drawn+1 }:=Step.drew _ _
 refine Qg<|QU (Step [] G) [(0,true),(1,true),(2,true),(3,true),(5,true),(6,true),(7,true),(8,true),(4,false),(9,false),(10,true),(11,true)] mixed (by rfl) (by kernel_rfl) (Step.drew _ _) ?_;refine pq (λ_ hc=>Qd ((hh.ext E).ext hc) O O)<|p (λ_=>ZD (i:=0) O O (by decide))<|pq (λ_ hc=>Qd (U.ext hc) O O)<|pq (λ_ hc=>Qd ((h5.ext E).ext hc) O O)<|pq (λ_ hc=>Qd ((hi.ext E).ext hc) O O) <|
  p (λ_=>ZD (i:=1) O O (by decide))<|pq (λ_ hc=>Qd (U.ext hc) O O)<|pq (λ_ hc=>Qd ((h5.ext E).ext hc) O O)<|pk<|xf<|(QcL ((ha.ext E).ext hd) s kd).mono ?_
 rintro r2 w2 ⟨rfl,H⟩;refine⟨hd.trans H,?_⟩;refine pk<|xf<|(QcL (((hb.ext E).ext hd).ext H) t kd).mono ?_;rintro r3 w3 ⟨rfl,V⟩;refine⟨(hd.trans H).trans V,?_⟩;refine p (λ_=>Qbj O O)<|p (λ_=>Qf)<|pe ?_;exact Qk ⟨[_],La,O,((E.trans hd).trans H).trans V⟩
set_option maxHeartbeats 4000000 in
theorem zT {w:World}{va vm ve:Value}{a:QM}(h:Zq [] w.heap va vm ve a)(ho:Q3 a):
  QE prog 85 [.agg #[va,.int .i64 a.st,vm,ve]] w λr w'=>Step [] w w'∧∃b E G,r=.pointer (some ⟨b,0,none⟩)∧w.heap.size≤b∧w.heap.size≤E∧w.heap.size≤G∧jm w'.heap b E G a:=by
 have go:=h.ed.le;have gq:=h.mr.le;refine QE.of_W func85 O ntmps85 results85 (by simp) ?_;refine Qc<|xl O<|QP (us:=[va,.int .i64 a.st,vm,ve]) O λb1 w1 hg gr h4=>Qe<|Qc<|xl O<|ZV ZQ λE w2 h5 gs h9=>xl O<|ZV Jc λG w3 hh gt hB=>x (QK ⟨O,O,O,Z⟩)<|xl O<|QP (us:=[.map (some E),.map (some G),.int .i64 0]) O λb11 I U gu hn =>
  Qe ?_
 have gv:=hg.size;have gx:=h5.size;have gy:=hh.size;have gz:=U.size;have g0:=h9.lt;have g1:=hB.lt;have g2:=hn.lt;have hp:=(h5.trans hh).trans U;have hq:=h4.ext hp;have g3:=h4.lt;have hM:ZG ZQ I.heap E []:=((h9.step hh (by simp)).step U (by simp));have hN:ZG Jc I.heap G []:=hB.step U (by simp)
 have hr:∀{b:Nat},b∈[b11,E,G]→w1.heap.size≤b:=λhb=>by simp only[List.mem_cons,List.not_mem_nil,or_false]at hb;omega
 have hC:b1∉[b11,E,G]:=λhb=>by have:=hr hb;omega
 have hO:∀b∈[b11,E,G],w.heap.size≤b:=λb hb=>by have:=hr hb;omega
 have hA:∀{w':World},Step [b11,E,G] I w'→Zq [] w'.heap va vm ve a:=λhs =>
  ((((h.ext hg).up (L':=[b11,E,G]) (λb hb=>.inr (hr hb))).ext hp).st hs).up (by simp)
 have hP:∀b∈[b11],b∈[b11,E,G]:=λb hb=>by simp only[List.mem_singleton]at hb;simp[hb]
 have k1:∀b∈[E],b∈[b11,E,G]:=λb hb=>by simp only[List.mem_singleton]at hb;simp[hb]
 have k2:∀b∈[G],b∈[b11,E,G]:=λb hb=>by simp only[List.mem_singleton]at hb;simp[hb]
 refine QZ (α:=Unit) [(12,17)] (λz=>[]) (λz w'=>Step [b11] I w'∧QS w'.heap b11 250 [.map (some E),.map (some G),.int .i64 (fst a)]) (by rfl) ?_ ?_
 ·refine Qc<|x (Qa O)<|x (Qd hq O O)<|x (Zc O O)<|xe<|Q2 O (λht=>?_) (λht=>?_)
  ·have hf:fst a=-1:=by unfold fst;rw[if_pos ht]
   refine Qx<|Qb<|x (QF O)<|x (Qa O)<|xl O<|QC (j:=2) (u:=.int .i64 (-1)) hn O O (by simp) rfl λw5 hQ hR=>xe ?_;exact⟨(),Z,hQ,by rw[hf];exact hR⟩
  have hf:fst a=0:=by unfold fst;rw[if_neg ht]
  refine Qi ?_;exact⟨(),Z,Step.refl _ _,by rw[hf];exact hn⟩
 rintro z g w6 ⟨V,hS⟩;have hu:=V.mono hP;have g4:=V.size;have hT:ZG ZQ w6.heap E []:=hM.step V (by simp only[List.mem_singleton];omega);have hU:ZG Jc w6.heap G []:=hN.step V (by simp only[List.mem_singleton];omega);have hV:=hq.step hu hC;have h6:=hA hu;refine Qg<|Qc<|x (Qa O)<|x (Qd hV O O)<|x (Qu h6.ed O)<|Qb<|xe ?_
 refine Qh<|Qz (α:=Nat) [(5,5),(21,36)] (λz=>[(21,.int .i64 z)]) (λz w'=>z≤a.ed.length∧Step [E] w6 w'∧ZG ZQ w'.heap E (JL [] (a.ed.take z))) (λz=>a.ed.length - z) (by rfl) 0 La
  ⟨Lk _,Step.refl _ _,hT⟩ ?_
 rintro k g w7 ⟨hk,J,hv⟩;have hw:Step [b11,E,G] I w7:=hu.trans' (J.mono k1);have h7:=hA hw;have g5:=J.size;have hD:=hS.step J (by simp only[List.mem_singleton];omega);have hW:=hU.step J (by simp only[List.mem_singleton];omega);have hX:=hq.step hw hC;refine Qc<|x (QA O O)<|xe<|Qg<|QD O (λhy=>?_) (λhy=>?_)
 ·refine Qy ?_;have hY:a.ed.length≤k:=by have hz:¬(k:Int)<(a.ed.length:Int):=hy;omega
  rw[Lm hY]at hv;refine Qg<|Qc<|x (Qa O)<|x (Qd hX O O)<|x (Qu h7.mr O)<|Qb<|xe<|Qh<|Qz (α:=Nat) [(7,7),(40,49)] (λz=>[(40,.int .i64 z)]) (λz w'=>z≤a.mr.length∧Step [G] w7 w'∧ZG Jc w'.heap G (stI (a.mr.take z))) (λz=>a.mr.length - z) (by rfl) 0 La
   ⟨Lk _,Step.refl _ _,hW⟩ ?_
  rintro j g w8 ⟨hj,Y,h0⟩;have hE:Step [b11,E,G] I w8:=hw.trans' (Y.mono k2);have h8:=hA hE;have hF:=hD.step Y (by simp only[List.mem_singleton];omega);have hZ:=hv.step Y (by simp only[List.mem_singleton];omega);refine Qc<|x (QA O O)<|xe<|Qg<|QD O (λh1=>?_) (λh1=>?_)
  ·refine Qy ?_;have ga:a.mr.length≤j:=by have hz:¬(j:Int)<(a.mr.length:Int):=h1;omega
   rw[Lm ga]at h0;refine Qc<|Qb<|Qe ?_;exact Qk ⟨[.pointer (some ⟨b11,0,none⟩)],La,(hg.trans hp).then hE (λb hb=>.inr (hO b hb)),b11,E,G,O,by omega,by omega,by omega,hF,hZ,h0⟩
  have H:j<a.mr.length:=by have hz:(j:Int)<(a.mr.length:Int):=h1;omega
  have hG:a.mr.take (j+1)=a.mr.take j++[a.mr[j]'H]:=Le H;have hH:(a.mr[j]'H)∉a.mr.take j:=by
   intro hm;obtain⟨i,hi,e⟩:=LG hm;rw[M7]at e;have gb:i<j:=by rw[Lx]at hi;omega
   have:=Yy.get ho.mri H gb;omega
  refine Qi<|Qg<|Qh<|Qc<|xii (i:=j) h8.mr O O H λg6 hI=>?_;refine Zb (a.mr[j]'H) λs hs=>?_;rw[hs]at hI hG hH;refine x (Qw hI O)<|Qe<|Qx<|Qb<|x (QF O)<|x (Qa O)<|x (Qd hF O O)<|Qb<|xl O<|Yw (k:=s) h0 O O λw9 gc ge=>xe ?_;refine Qx<|QN O O<|Qb<|xe<|⟨j+1,by omega,La,H,Y.trans' gc,?_⟩;rw[hG]
  have hJ:ZG Jc w9.heap G (mput ((a.mr.take j).map λs=>(s,Value.bool true)) s (.bool true)):=ge;rw[jK hH]at hJ;exact hJ
 have ha:k<a.ed.length:=by have hz:(k:Int)<(a.ed.length:Int):=hy;omega
 have hK:=qw (m:=[]) ha;refine Qi<|Qg<|Qh<|Qc<|xie (i:=k) h7.ed O O ha λg7 hL=>?_;refine Zb (a.ed[k]'ha) λe he=>?_;rw[he]at hL hK;refine x (QG hL O O)<|xl O<|Qr (us:=[.int .i64 0,.int .i64 0,.int .i64 0]) O λb5 g8 gg gh gi=>xl O<|Qm (us:=QB e) gi O O O O ⟨O,O,O,Z⟩ λT gj h2 =>
  xe ?_
 have h3:Step [] w7 T:=gg.then1 gj gh;have gk:=hD.ext h3;have gl:ZG ZQ T.heap E (JL [] (a.ed.take k)):=hv.step h3 (by simp);refine QU (Step [] T) [(0,true),(1,true),(2,true),(3,true),(4,true),(5,true),(6,true),(7,true),(8,true),(9,true),(10,true),(11,false)] mixed (by rfl) (by kernel_rfl) (Step.drew _ _) ?_
 refine p (λ_=>Qn)<|p (λ_=>QF O)<|p (λ_=>Qa O)<|pq (λ_ hc=>Qd (gk.ext hc) O O) <|
  p (λ_=>Qa O)<|pq (λ_ hc=>Qd (h2.ext hc) O O)<|p (λ_=>Qa O)<|pq (λ_ hc=>Qd (h2.ext hc) O O) <|
  p (λ_=>QK ⟨O,O,Z⟩)<|p (λ_=>Qa O)<|pq (λ_ hc=>Qd (h2.ext hc) O O)<|pkl (hl:=by kernel_rfl)<|Yw (k:=(e.1,e.2.1)) (gl.step (Step.drew [] T) (by simp)) rfl rfl λg9 gm gn =>
  pe ?_
 refine Qx<|QN O O<|Qb<|xe<|⟨k+1,by omega,La,ha,((J.trans h3).trans (Step.drew [] T)).trans' gm,?_⟩;rw[hK];exact gn
theorem QdQ (a b:Int)(v w:LI):QdR (a::v) (b::w)=if a=b then QdR v w else decide (a<b):=rfl
theorem QfD {L L':LN}{w:World}{v v':Value}{l l':LI}(h:QI L w.heap v l)(h':QI L' w.heap v' l'):
  QE prog 42 [v,v'] w λr w'=>r=.bool (less l l')∧Step [] w w':=by
 have hq:=h.le;have hs:=h'.le;have G:less l l'=if l.length≠l'.length then decide (l.length<l'.length)else QdR l l':=rfl
 refine Zb (less l l') λR hR=>?_;rw[hR]at G ⊢;have H:QI [] w.heap v l:=h.up (by simp);have J:QI [] w.heap v' l':=h'.up (by simp);refine QE.of_W func42 O ntmps42 results42 (by simp) ?_;refine Qc<|Qe<|Qg<|Qc<|Qb<|x (Qu H O)<|Qb<|x (Qu J O)<|x (Q7 O O)<|xe<|Q2 rfl (λY=>?_) (λY=>?_)
 ·have hl:l.length≠l'.length:=λe=>Y (by rw[e]);rw[if_pos hl]at G;refine Qc<|Qb<|x (Qu H O)<|Qb<|x (Qu J O)<|x (QA O O)<|Qe<|Qk ⟨[_],La,?_,Step.refl _ _⟩;rw[G];have:decide ((l.length:Int)<(l'.length:Int))=decide (l.length<l'.length):=by rw[decide_eq_decide];omega
  show Value.bool (decide ((l.length:Int)<(l'.length:Int)))=_;rw[this]
 have hm:l.length=l'.length:=by
  have ht:(l.length:Int)=(l'.length:Int):=Ll.1 Y;omega
 rw[if_neg (by simpa using hm)]at G;refine Qi<|Qg<|Qc<|Qb<|x (Qu H O)<|Qb<|xe<|Qh<|Qz (α:=Nat) [(4,5),(18,39)] (λz=>[(18,.int .i64 z)]) (λz w'=>z≤l.length∧Step [] w w'∧QdR (l.drop z) (l'.drop z)=R) (λz=>l.length - z) (by rfl) 0 La ⟨Lk _,Step.refl _ _,G.symm⟩ ?_;rintro k g E ⟨hk,T,hk1⟩;refine Qc<|x (QA O O)<|xe<|Qg<|QD O (λha=>?_) (λha=>?_)
 ·refine Qy ?_;have hn:l.length≤k:=by have ho:¬(k:Int)<(l.length:Int):=ha;omega
  rw[Ls hn]at hk1;have hp:R=false:=hk1.symm;refine Qc<|Qe ?_;exact Qk ⟨[_],La,by rw[hp];rfl,T⟩
 have I:k<l.length:=by have ho:(k:Int)<(l.length:Int):=ha;omega
 have U:k<l'.length:=by omega
 rw[LH I,LH U,QdQ]at hk1;refine Qi<|Qg<|Qh<|Qc<|Qb<|Qe<|Qg<|QU (Step [] E) [(0,true),(1,true),(2,true),(3,true),(4,true),(5,true),(6,true),(7,true),(8,true)] mixed (by rfl) (by kernel_rfl) (Step.drew _ _) ?_;refine p (λ_=>Qn)<|p (λ_=>Qn)<|pii (i:=k) O (H.ext T) O O I λhu he=>?_;refine Zb (l[k]'I) λx1 hf=>?_;rw[hf]at he hk1
 refine pq (λ_ hc=>Qw (he.st hc) O) <|
  p (λ_=>Qn)<|p (λ_=>Qn)<|pii (i:=k) O (J.ext T) O O U λhv hg=>?_
 refine Zb (l'[k]'U) λx2 hh=>?_;rw[hh]at hg hk1;refine pq (λ_ hc=>Qw (hg.st hc) O)<|p (λ_=>Q7 O O)<|pe ?_;have hd:Step [] E { E with drawn:=E.drawn+1 }:=Step.drew _ _
 have V:=T.trans hd;refine Q2 rfl (λhb=>?_) (λhb=>?_)
 ·rw[if_neg hb]at hk1;refine Qg<|QU (Step [] { E with drawn:=E.drawn+1 }) [(0,true),(1,true),(2,true),(3,true),(4,true),(5,true),(6,true),(7,true),(8,true),(9,true)] mixed (by rfl) (by kernel_rfl) (Step.drew _ _) ?_
  refine p (λ_=>Qn)<|p (λ_=>Qn)<|pii (i:=k) O (H.ext V) O O I λhw hi=>?_;rw[hf]at hi;refine pq (λ_ hc=>Qw (hi.st hc) O) <|
   p (λ_=>Qn)<|p (λ_=>Qn)<|pii (i:=k) O (J.ext V) O O U λhy hj=>?_
  rw[hh]at hj;refine pq (λ_ hc=>Qw (hj.st hc) O)<|p (λ_=>QA O O) <|
   p (λ_=>Qf)<|pe ?_
  exact Qk ⟨[.bool (decide (x1<x2))],La,by rw[←hk1];rfl,V.trans (Step.drew _ _)⟩
 rw[if_pos (Ll.1 hb)]at hk1;refine Qi<|Qx<|QN O O<|Qb<|xe ?_;exact⟨k+1,by omega,La,I,V,hk1⟩
end Go.Proofs.YtjcgijbhaemldaaGreatDoor
namespace Go.Lg
section
variable {P:Program}{n:Nat}{f:Fr}{w:World}{all:List Oper}{K:Fr→World→Prop}
def QlA (all:List Oper)(pre:List (Nat×Bool))(k:Nat)(t:Pt):Bool :=
 Region.noSelect all.toArray && (pre.length+(t.len+1) == all.length) && Y4 all.toArray pre (Array.replicate all.length false) && (Region.ready .any all.toArray (Zs pre (Array.replicate all.length false)) == [k]) && Qff all.toArray t ((Zs pre (Array.replicate all.length false)).setIfInBounds k true)
theorem Qjm {Q:Exit→Fr→World→Prop}{id:Nat}(C:World→Prop)(pre:List (Nat×Bool))(k:Nat)(t:Pt)(hm:P.follows .mixedOrders=true)(J:Xa n all=true)(hp:QlA all pre k t=true)
  (hC:C { w with drawn:=w.drawn+1 }) (h:XP P all C (λf1 E=>Z2 all f1 (QO all k)=true∧XO P (QO all k) f1 E λG w'=>C w'∧XT P all C (λf w=>Q .normal f w) t G w') pre f { w with drawn:=w.drawn+1 }):W P n (.region id all.toArray true) Q f w:=by
 simp only[QlA,Bool.and_eq_true,beq_iff_eq]at hp;obtain⟨⟨⟨⟨hs,hl⟩,hq⟩,H⟩,ht⟩:=hp;refine Y2 C hm J ?_;have h1:=ZN (K:=λf w=>Q .normal f w) (m:=t.len+1) hs pre (Array.replicate all.length false) f _ hC hq
  (B:=λf1 E=>Z2 all f1 (QO all k)=true∧XO P (QO all k) f1 E λG w'=>C w'∧XT P all C (λf w=>Q .normal f w) t G w')
  (λf1 I=>by
   refine YS (λT=>(by rw[T]at H;cases H)) ?_;rw[H];intro j hj o U;have V:j=k:=by simpa using hj
   subst V;rw[Zg U]at I;rw[I.1,cond_true];exact I.2.mono λv w' hx=>⟨.inr (.inr hx.1),KT hs t _ _ _ (by simp[ZM]) hx.1 ht hx.2⟩) h
 rw[hl]at h1;exact h1
end
end Go.Lg
namespace Go.Proofs.YtjcgijbhaemldaaGreatDoor
open Go.Lg
theorem At.sub {L:LN}{H:Array Obj}{a:Addr}{us:LV}(h:At L H a us)(n:Nat):At L H a (us.take n):=
 ⟨λu hu=>h.out u (LO hu),λu hu=>h.lt u (LO hu),λj u hu=>by
  rw[LX]at hu;split at hu
  ·exact h.cell j u hu
  cases hu⟩
abbrev Z9 (p:Vs):LV:=[.int .i64 p.x,.int .i64 p.y,.int .i64 p.b,.int .i64 p.v]
theorem UH (p:Vs):(Z9 p).length=4:=rfl
theorem Qfq:∀(es:List Ed) (s v:Int),(∀e∈es,0≤e.2.2)→-1≤nxt es s v
 | [],_,_,_=>Na _
 | e::es,s,v,h=>by
  rw[nxt];split
  ·have:=h e Lr;omega
  exact Qfq es s v (λx hx=>h x (Ln _ hx))
theorem Qfm {a:QM}(E:Q3 a)(s v:Int):-1≤nxt a.ed s v∧(nxt a.ed s v<a.st∨nxt a.ed s v=-1):=by
 have h1:=Qfq a.ed s v (λe he=>(E.ed e he).2.2.2.1);refine⟨h1,?_⟩;by_cases h:nxt a.ed s v<0
 ·right;omega
 left;exact Qfo E h
structure VsI (a b:QM)(V:List Vs):Prop where
 nd:(V.map Vs.ky).Nodup
 rg:∀p∈V,-1≤p.x∧(p.x<a.st∨p.x=-1)∧-1≤p.y∧(p.y<b.st∨p.y=-1)
 bk:∀(k:Nat) (h:k<V.length),V[k].b<(k:Int)
def cdV (m:Nat)(p:Int×Int):Int:=(p.1+1)*(m+1)+(p.2+1)
theorem Qk1 {n m:Nat}{x y:Int}(hx:-1≤x∧(x<n∨x=-1))(hy:-1≤y∧(y<m∨y=-1)):0≤cdV m (x,y)∧cdV m (x,y)<(((n+1)*(m+1):Nat):Int):=by
 unfold cdV;obtain⟨u,hu⟩:∃u:Nat,x+1=u:=⟨(x+1).toNat,by omega⟩;obtain⟨v,E⟩:∃v:Nat,y+1=v:=⟨(y+1).toNat,by omega⟩;have G:u≤n:=by omega
 have H:v≤m:=by omega
 show 0≤(x+1)*((m:Int)+1)+(y+1)∧(x+1)*((m:Int)+1)+(y+1)<_;rw[hu,E];have h1:u*(m+1)+v<(n+1)*(m+1):=by
  have h2:u*(m+1)≤n*(m+1):=Ms _ G;have h3:(n+1)*(m+1)=n*(m+1)+(m+1):=by rw[Mh,M4]
  omega
 have e:((u:Int)*((m:Int)+1)+(v:Int))=((u*(m+1)+v:Nat):Int):=by push_cast;rfl
 rw[e];constructor <;> omega
theorem Qi8 {m:Nat}{x y G E:Int}(hx:-1≤x)(V:-1≤G)(hy:-1≤y∧(y<m∨y=-1))(Y:-1≤E∧(E<m∨E=-1))(h:cdV m (x,y)=cdV m (G,E)):(x,y)=(G,E):=by
 unfold cdV at h;have h':(x+1)*((m:Int)+1)+(y+1)=(G+1)*((m:Int)+1)+(E+1):=h;obtain⟨u,hu⟩:∃u:Nat,x+1=u:=⟨(x+1).toNat,by omega⟩;obtain⟨H,I⟩:∃H:Nat,G+1=H:=⟨(G+1).toNat,by omega⟩;obtain⟨v,J⟩:∃v:Nat,y+1=v:=⟨(y+1).toNat,by omega⟩;obtain⟨v',hv'⟩:∃v':Nat,E+1=v':=⟨(E+1).toNat,by omega⟩;rw[hu,I,J,hv']at h';have h1:u*(m+1)+v=H*(m+1)+v':=by exact_mod_cast h'
 have T:v<m+1:=by omega
 have U:v'<m+1:=by omega
 have e1:u=H:=by
  have a1:(u*(m+1)+v) / (m+1)=u:=by rw[Nat.mul_comm,Nat.mul_add_div (by omega),Nat.div_eq_of_lt T,MM]
  have a2:(H*(m+1)+v') / (m+1)=H:=by rw[Nat.mul_comm,Nat.mul_add_div (by omega),Nat.div_eq_of_lt U,MM]
  rw[←a1,←a2,h1]
 subst e1;have e2:v=v':=by omega
 have:x=G∧y=E:=⟨by omega,by omega⟩;rw[this.1,this.2]
theorem VsI.len {a b:QM}(ha:Q3 a)(hb:Q3 b){V:List Vs}(h:VsI a b V):V.length≤(a.st.toNat+1)*(b.st.toNat+1):=by
 have U:=ha.st0;have Y:=hb.st0;have h1:=pig ((a.st.toNat+1)*(b.st.toNat+1)) ((V.map Vs.ky).map (cdV b.st.toNat)) (by
  unfold List.Nodup;rw[MW];refine(List.Pairwise.imp_of_mem ?_ h.nd);intro p q hp hq G e;obtain⟨H,I,rfl⟩:=Ly.1 hp;obtain⟨J,T,rfl⟩:=Ly.1 hq;have E:=h.rg H I;have r2:=h.rg J T;exact G (Qi8 E.1 r2.1 ⟨E.2.2.1,by omega⟩ ⟨r2.2.2.1,by omega⟩ e)) (λx hx=>by
  obtain⟨k,hk,rfl⟩:=Ly.1 hx;obtain⟨p,hp,rfl⟩:=Ly.1 hk;have E:=h.rg p hp;exact Qk1 ⟨E.1,by omega⟩ ⟨E.2.2.1,by omega⟩)
 simpa using h1
theorem QkF {V W:List Vs}{i:Nat}(h:i<V.length):gV (V++W) i=gV V i:=by unfold gV;simp[List.getD,List.getElem?_append_left h]
theorem Qbz {V:List Vs}{i:Nat}(h:i<V.length):gV V i=V[i]'h:=by unfold gV;simp[List.getD,h]
theorem Qf4 {a:QM}(E:Q3 a):-1≤fst a∧(fst a<a.st∨fst a=-1):=by
 have:=E.st0;unfold fst;split
 ·exact⟨by omega,.inr O⟩
 exact⟨by omega,.inl (by omega)⟩
theorem VsI.one {a b:QM}(ha:Q3 a)(hb:Q3 b):VsI a b [⟨fst a,fst b,-1,0⟩]:=by
 have h1:=Qf4 ha;have h2:=Qf4 hb;refine⟨by simp,λp hp=>?_,λk h=>?_⟩
 ·simp only[List.mem_singleton]at hp;subst hp;exact⟨h1.1,h1.2,h2.1,h2.2⟩
 have hk:k=0:=by simpa using h
 subst hk;exact(by decide:(-1:Int)<0)
theorem VsI.add {a b:QM}(ha:Q3 a)(hb:Q3 b){V:List Vs}(h:VsI a b V){i:Nat}(hi:i<V.length){p:Vs}{v:Int}(hk:(zU a b i p v).ky∉V.map Vs.ky):VsI a b (V++[zU a b i p v]):=by
 refine⟨?_,λq hq=>?_,λk G=>?_⟩
 ·rw[Lv,List.nodup_append];refine⟨h.nd,by simp,λx hx y hy e=>?_⟩;simp only[List.map_cons,List.map_nil,List.mem_singleton]at hy;subst hy;subst e;exact hk hx
 ·rcases Lp.1 hq with hq|hq
  ·exact h.rg q hq
  simp only[List.mem_singleton]at hq;subst hq;have E:=Qfm ha p.x v;have r2:=Qfm hb p.y v;exact⟨E.1,E.2,r2.1,r2.2⟩
 rw[List.getElem_append];split
 ·rename_i h1;exact h.bk k h1
 have:V.length≤k:=by omega
 simp only[List.getElem_singleton,zU];omega
theorem Qac (V:List Vs)(f k:Nat):lgW V (f+1) k=if 0≤(gV V k).b then(gV V k).v::lgW V f (gV V k).b.toNat else[]:=rfl
open Go.Proofs.Tryz
instance:Bw prog 252 [.int .i64 0,.int .i64 0,.int .i64 0,.int .i64 0] [(0,2),(2,1),(3,1)]:=⟨by kernel_rfl,by decide⟩
abbrev stP (l:List (Int×Int)):List ((Int×Int)×Value):=l.map λs=>(s,Value.bool true)
abbrev VsO (base:Nat)(w:World)(v:Value)(l:List Vs):Prop:=w.ownsRow base 252 4 v l.length (l.flatMap Z9)
theorem VsO.snoc {base:Nat}{w:World}{v:Value}{l:List Vs}{p:Vs}(h:w.ownsRow base 252 4 v (l.length+1) (l.flatMap Z9++Z9 p)):VsO base w v (l++[p]):=by
 unfold VsO;rw[Lj,LD];simpa using h
theorem Qh9 {p:Prop}{i:Decidable p}(h:(!@decide p i)=true):¬p:=by
 cases i with
 | isTrue hp=>cases h
 | isFalse hp=>exact hp
theorem Qfw {p:Prop}{i:Decidable p}(h:(!@decide p i)=false):p:=by
 cases i with
 | isTrue hp=>exact hp
 | isFalse hp=>cases h
structure yq (H:Array Obj)(m:Nat)(V:List Vs):Prop where
 h:∃K:List (Int×Int),ZG ZQ H m (stP K)∧∀k,k∈K↔k=(-1,-1)∨k∈V.map Vs.ky
theorem JZ {H:Array Obj}{m:Nat}{K:List (Int×Int)}{k:Int×Int}(h:ZG ZQ H m (mput (stP K) k (.bool true))):∃K',ZG ZQ H m (stP K')∧∀x,x∈K'↔x=k∨x∈K:=by
 by_cases hk:k∈K
 ·refine⟨K,?_,λx=>⟨.inr,λhx=>hx.elim (λe=>e ▸ hk) id⟩⟩;have key:∀K:List (Int×Int),k∈K→mput (stP K) k (.bool true)=stP K:=by
   intro K;induction K with
   | nil=>intro h;cases h
   | cons a K ih =>
    intro hm;show(if a=k then(a,Value.bool true)::stP K else(a,Value.bool true)::mput (stP K) k (.bool true))=_
    by_cases e:a=k
    ·rw[if_pos e];rfl
    rw[if_neg e,ih ((Lc.1 hm).resolve_left (λh=>e h.symm))];rfl
  rw[key K hk]at h;exact h
 refine⟨K++[k],?_,λx=>by rw[Lp,Lb];exact Or.comm⟩;have:=jK hk;rw[show mput (stP K) k (.bool true)=stP (K++[k]) from this]at h;exact h
theorem yq.ext {w w':World}{m:Nat}{V:List Vs}(h:yq w.heap m V)(hs:Step [] w w'):yq w'.heap m V:=let⟨K,h1,h2⟩:=h.h;⟨K,h1.step hs (by simp),h2⟩
theorem zV (a b:QM)(i:Nat)(p:Vs)(V:List Vs)(v:Int):((zU a b i p v).ky≠(-1,-1)∧(zU a b i p v).ky∉V.map Vs.ky∧lgA a b i p V v=V++[zU a b i p v])∨(((zU a b i p v).ky=(-1,-1)∨(zU a b i p v).ky∈V.map Vs.ky)∧lgA a b i p V v=V):=by
 unfold lgA;by_cases h:(zU a b i p v).ky≠(-1,-1)∧(zU a b i p v).ky∉V.map Vs.ky
 ·exact .inl ⟨h.1,h.2,if_pos h⟩
 refine .inr ⟨?_,if_neg h⟩;by_cases h1:(zU a b i p v).ky=(-1,-1)
 ·exact .inl h1
 exact .inr (Ll.1 λh2=>h ⟨h1,h2⟩)
set_option maxRecDepth 4096 in
set_option maxHeartbeats 16000000 in
theorem Qdw {w:World}{vl:Value}{al:LI}{kb ms mt kc mu mv:Nat}{a b:QM}{kd:Int}{g:Nat}{fn:Func}[Fu prog g fn]{cap:LV}(hT:QI [] w.heap vl al)(ke:jm w.heap kb ms mt a)(kf:jm w.heap kc mu mv b)(hq:Q3 a)(hr:Q3 b)
  (hk:∀(s t:Int) (w1:World),Step [] w w1→QE prog g ([.agg #[.int .i64 s,.int .i64 t]]++cap) w1 λr w'=>r=.bool (!(U6 a kd s == U6 b kd t))∧Step [] w1 w'):
  QE prog 86 [vl,.pointer (some ⟨kb,0,none⟩),.pointer (some ⟨kc,0,none⟩),.func (.func g) #[] cap.toArray] w λr w'=>Step [] w w' ∧
   match lgL a b kd al ((a.st.toNat+1)*(b.st.toNat+1)+1) 0 [⟨fst a,fst b,-1,0⟩]with|none=>r=.tuple #[Zd,.bool false]|some u=>∃v,r=.tuple #[v,.bool true]∧Qt 3 w.heap.size w' v u:=by
 have z5:=hT.le;have z9:=hq.st1;have hb1:=hr.st1;have mw:(a.st.toNat+1)*(b.st.toNat+1)≤4097*4097:=Nat.mul_le_mul (by omega) (by omega);refine Zb ((a.st.toNat+1)*(b.st.toNat+1)) λN hN=>?_;rw[hN]at mw ⊢;refine Zb (lgL a b kd al (N+1) 0 [⟨fst a,fst b,-1,0⟩]) λR hR=>?_;rw[hR];refine QE.of_W func86 O ntmps86 results86 (by simp) ?_
 refine Qc<|x Qf<|Qe<|Qg<|QU (Step [] w) [(0,true),(1,true),(2,true),(3,true),(4,true),(5,true),(6,true),(7,true),(8,true),(9,false),(10,false)] mixed (by rfl) (by kernel_rfl) (Step.drew _ _) ?_;refine p (λ_=>Qn)<|p (λ_=>QF O)<|p (λ_=>Qa O)<|pq (λ_ hc=>Qd (ke.B.ext hc) O O)<|p (λ_=>Qn)<|p (λ_=>QF O) <|
  p (λ_=>Qa O)<|pq (λ_ hc=>Qd (kf.B.ext hc) O O)<|p (λ_=>QK ⟨O,O,Z⟩)<|pk<|Qr (us:=[.int .i64 0,.int .i64 0]) O λb10 w1 kg mx my=>⟨(Step.drew [] w).trans kg,?_⟩
 refine pkl (hl:=by kernel_rfl)<|Qm (us:=[.int .i64 (fst a),.int .i64 (fst b)]) my O O O O ⟨O,O,Z⟩ λw2 mz hU=>pe ?_;have m0:w.heap.size≤b10:=mx;have kh:Step [] w w2:=((Step.drew [] w).trans kg).then1 mz m0;have hz02:=kh.size;have hl10:=hU.lt
 refine Qc<|x (Qo hU O O)<|x (Zz [(0,[.int .i64 (fst a),.int .i64 (fst b)]),(1,[.int .i64 (-1)]),(2,[.int .i64 0])] ⟨O,O,O,O,O,O,Z⟩)<|xl O<|QJ (us:=[Z9 ⟨fst a,fst b,-1,0⟩]) O O (by decide) (by simp) ⟨rfl,rfl,Z⟩ λhC I hV hb29 ki =>
  Qe ?_
 have m1:=kh.trans hV;have hz3:=hV.size;have hl29:=ki.lt;have m2:=hU.ext hV;have m3:VsO w.heap.size I (.slice (some ⟨hC,0,none⟩) 1 1) [⟨fst a,fst b,-1,0⟩]:=ki.own (n:=1) (sz:=4) O (by omega) (by omega);refine QZ (α:=Nat) [(30,33),(12,12)] (λz=>[(12,.map (some z))]) (λz w'=>Step [] I w'∧I.heap.size≤z∧yq w'.heap z [⟨fst a,fst b,-1,0⟩]) (by rfl) ?_ ?_
 ·have hW:Step [] I { I with drawn:=I.drawn+1 }:=Step.drew _ _
  have kj:∀(k:Int×Int),k∈[⟨fst a,fst b,-1,0⟩].map Vs.ky↔k=(fst a,fst b):=λk=>by simp[Vs.ky]
  refine Qjm (Step [] I) [(1,true),(3,true)] 0 (.fk [] 2 4 (.pl [(4,false),(5,true),(6,true)]) (.pl [(2,false),(5,true),(6,true)])) mixed (by rfl) (by kernel_rfl) (Step.drew _ _) ?_;refine pq (λ_ hc=>Qo (m2.ext hc) O O)<|p (λ_=>QK ⟨O,O,Z⟩)<|pe ⟨O,ZV ZQ λm w4 he hm hM=>⟨hW.trans he,tf<|pe ⟨⟨O,?_⟩,O,?_⟩⟩⟩
  ·have J:I.heap.size≤m:=hm;refine Yb (k:=(fst a,fst b)) hM O O λw5 T hX=>?_;have hg:=(hW.trans he).then1 T J;obtain⟨K1,hY,hZ⟩:=JZ (K:=[]) hX;refine⟨hg,?_⟩;refine tp<|pk<|Yb (k:=(-1,-1)) hY O O λw6 E ga=>⟨hg.then1 E J,?_⟩;refine p (λ_=>Qn)<|p (λ_=>Qf)<|pe ?_;obtain⟨K2,gb,gc⟩:=JZ ga;exact⟨m,La,hg.then1 E J,J,⟨K2,gb,λk=>by rw[gc,hZ,kj];simp⟩⟩
  have J:I.heap.size≤m:=hm;refine Yb (k:=(-1,-1)) hM O O λw5 T hX=>?_;have hg:=(hW.trans he).then1 T J;obtain⟨K1,hY,hZ⟩:=JZ (K:=[]) hX;refine⟨hg,?_⟩;refine tp<|pk<|Yb (k:=(fst a,fst b)) hY O O λw6 E ga=>⟨hg.then1 E J,?_⟩;refine p (λ_=>Qn)<|p (λ_=>Qf)<|pe ?_;obtain⟨K2,gb,gc⟩:=JZ ga
  exact⟨m,La,hg.then1 E J,J,⟨K2,gb,λk=>by rw[gc,hZ,kj];simp[or_comm]⟩⟩
 rintro m g0 w4 ⟨he,hm4,m4⟩;have m5:=m1.trans he;have hz4:=he.size;have m6:w.heap.size≤m:=by omega
 have m7:m∉ob (.slice (some ⟨hC,0,none⟩) 1 1):=by
  intro h;have h':m∈[hC]:=h;simp only[List.mem_singleton]at h';omega
 refine Qg<|Qc<|Qe<|Qh<|Qz (α:=Nat×Value×List Vs×Nat) [(8,9),(11,11),(13,14),(16,17),(34,108)] (λz=>[(8,Zd),(11,z.2.1),(13,.int .i64 z.1)]) (λz w'=>z.1≤z.2.2.1.length∧Step [] w w'∧VsO w.heap.size w' z.2.1 z.2.2.1∧yq w'.heap m z.2.2.1∧m∉ob z.2.1∧VsI a b z.2.2.1∧z.2.2.2+z.1=N+1∧lgL a b kd al z.2.2.2 z.1 z.2.2.1=R) (λz=>z.2.2.2) (by rfl) (0,.slice (some ⟨hC,0,none⟩) 1 1,[⟨fst a,fst b,-1,0⟩],N+1) ⟨O,O,O,Z⟩
  ⟨Lk _,m5,Qs m3 he,m4,m7,VsI.one hq hr,O,hR⟩ ?_
 rintro⟨i,vV,V,f⟩ g1 w5 ⟨hi,T,hD,kk,kn,hE,hf,H⟩;simp only[]at hi hD kk kn hE hf H;have hVlen:V.length≤N:=by rw[←hN];exact VsI.len hq hr hE
 have hge5:=Qq hD;have hz5:=T.size;have ge:Zv [] w5.heap vV V.length 4 (V.flatMap Z9):=QV hD (by omega) (by simp);refine Qg<|Qc<|Qb<|Qb<|x (Qu ge O)<|x (QA O O)<|xe<|QD rfl (λgg=>?_) (λgg=>?_)
 ·refine Qy ?_;have m8:¬i<V.length:=by have gh:¬(i:Int)<(V.length:Int):=gg;omega
  have m9:R=none:=by
   rw[←H];cases f with
   | zero=>rfl
   | succ f=>rw[lgL,if_neg m8]
  rw[m9];refine Qc<|x Qf<|Qe ?_;exact Qk ⟨[Zd,.bool false],⟨O,O,Z⟩,T,O⟩
 have h5:i<V.length:=by have gh:(i:Int)<(V.length:Int):=gg;omega
 refine Exists.elim (show ∃f',f=f'+1 from⟨f - 1,by omega⟩) λf' pa=>?_;rw[pa]at H;rw[lgL,if_pos h5]at H;have pc:=Qbz h5;refine Qi<|Qg<|Qh<|Qg<|Qc<|Qb<|Qb<|Qb<|xig (g:=Z9) (i:=i) UH ge O O h5 λa43 gi=>?_;rw[←pc]at gi;refine Zb (gV V i) λpi ko=>?_;rw[ko]at gi H;refine x (Zk O)<|x (QG (us:=[.int .i64 pi.x,.int .i64 pi.y]) (At.sub (gi.from 0) 2) O O) <|
  xl rfl<|xc (first:=[]) (capt:=cap) O<|(hk pi.x pi.y w5 T).mono ?_
 rintro r6 w6 ⟨rfl,E⟩;refine xe ?_;have hF:=T.trans E;have hz6:=E.size;have pd:=Qs hD E;have kp:=ge.ext E;refine QX rfl (λgj=>?_) (λgj=>?_)
 ·have hc:lgC a b kd pi=true:=gj;rw[if_pos hc]at H;rw[←H];refine Qg<|Qc<|Qb<|Qe<|Qh<|Qz (α:=Nat×Nat×Value×LI) [(8,8),(14,14),(48,66)] (λz=>[(8,z.2.2.1),(14,.int .i64 z.2.1)]) (λz w'=>z.2.1<V.length∧Step [] w6 w'∧Qt 3 w6.heap.size w' z.2.2.1 z.2.2.2∧z.2.2.2++lgW V z.1 z.2.1=lgW V (i+1) i∧z.2.1+1≤z.1∧z.2.2.2.length+z.1=i+1) (λz=>z.1) (by rfl) (i+1,i,Zd,[]) ⟨O,O,Z⟩
   ⟨h5,Step.refl _ _,QQ _ _ _ _,O,Lu _,by simp⟩ ?_
  rintro⟨fu,k,vo,wd⟩ g2 w7 ⟨ht,hG,hH,Y,pf,pg⟩;simp only[]at ht hH Y pf pg;have kq:=kp.ext hG;have gk:=Qbz ht;have kr:=hE.bk k ht;have kt:=Qq hH;have hz7:=hG.size;refine Exists.elim (show ∃gl,fu=gl+1 from⟨fu - 1,by omega⟩) λgl ph=>?_;rw[ph]at Y;rw[Qac]at Y;refine Qg<|Qc<|Qb<|Qb<|xig (g:=Z9) (i:=k) UH kq O O ht λa50 gm=>?_;rw[←gk]at gm kr
  refine Zb (gV V k) λG gn=>?_;rw[gn]at gm kr Y;refine x (Zk O)<|x (Qw (gm.fld 2 (.int .i64 G.b) O) O)<|x (ZK O O)<|xe<|QD O (λgo=>?_) (λgo=>?_)
  ·refine Qy ?_;have gq:¬0≤G.b:=go;rw[if_neg gq,LL]at Y;refine Qc<|Qb<|xl O<|xf<|(qU hH (by omega)).mono ?_;rintro r8 w8 ⟨ku,gr⟩;refine xe<|Qc<|Qb<|x Qf<|Qe ?_;rw[Y]at ku;have pj:=hF.size;exact Qk ⟨[vo,.bool true],⟨O,O,Z⟩,(hF.trans hG).then gr (λb hb=>.inr (by have:=(kt b hb).1;omega)),vo,O,Za ku pj⟩
  have gq:0≤G.b:=go;rw[if_pos gq]at Y;have pn:G.b=(G.b.toNat:Int):=by omega
  refine Qi<|Qg<|Qh<|Qx<|Qb<|Qb<|Qb<|xig (g:=Z9) (i:=k) UH kq O O ht λa62 kv=>?_;rw[←gk,gn]at kv;refine x (Zk O)<|x (Qw (kv.fld 3 (.int .i64 G.v) O) O) <|
   xl rfl<|QJ (us:=[[.int .i64 G.v]]) O O (by decide) (by simp) ⟨rfl,rfl,Z⟩ λb65 w9 gs hb65 po=>?_
  have hz9:=gs.size;refine xl O<|Q5 (news:=[.int .i64 G.v]) (L:=[]) (Qs hH gs) O O O (po.at (by simp)) (by simp[Value.oneCell']) (by omega) (by omega) λpp pt pu pw hn10 =>
   Qe ?_
  have kw:Step [] w6 pt:=(hG.trans gs).then pw (λb hb=>.inr (kt b hb).1);have pz:=kp.ext kw;refine Qx<|Qb<|Qb<|xig (g:=Z9) (i:=k) UH pz O O ht λa56 kx=>?_;rw[←gk,gn]at kx;refine x (Zk O)<|x (Qw (kx.fld 2 (.int .i64 G.b) O) O)<|x Qf <|
   xe ?_
  refine⟨(gl,G.b.toNat,pp,wd++[G.v]),by simp only[];omega,⟨O,congrArg (Value.int .i64) pn,Z⟩,by simp only[];omega,kw,Qt.snoc pu,?_,by simp only[];omega,by simp only[List.length_append,List.length_singleton];omega⟩;simp only[];rw[LC];exact Y
 have hc:¬lgC a b kd pi=true:=by
  intro h;have p0:lgC a b kd pi=false:=gj;rw[p0]at h;cases h
 rw[if_neg hc]at H;refine Qi<|Qc<|Qb<|x (Qu (hT.ext hF) O)<|Qb<|xe<|Qh<|Qz (α:=Nat×Value×List Vs) [(11,11),(16,17),(72,108)] (λz=>[(11,z.2.1),(72,.int .i64 z.1)]) (λz w'=>z.1≤al.length∧Step [] w w'∧VsO w.heap.size w' z.2.1 z.2.2∧yq w'.heap m z.2.2∧m∉ob z.2.1∧VsI a b z.2.2∧z.2.2=(al.take z.1).foldl (lgA a b i pi) V∧∃W,z.2.2=V++W) (λz=>al.length - z.1) (by rfl) (0,vV,V) ⟨O,O,Z⟩
  ⟨Lk _,hF,pd,kk.ext E,kn,hE,O,[],by simp⟩ ?_
 rintro⟨j,vU,U⟩ g3 ha ⟨hj,hh,ho,h6,hI,h7,hJ,⟨W,h8⟩⟩;simp only[]at hj ho h6 hI h7 hJ h8;have hUlen:U.length≤N:=by rw[←hN];exact VsI.len hq hr h7
 have hUl:V.length≤U.length:=by rw[h8,Lj];omega
 have hp:i<U.length:=by omega
 have kz:=Qq ho;have hz11:=hh.size;refine Qc<|x (QA O O)<|xe<|Qg<|QD O (λgt=>?_) (λgt=>?_)
 ·refine Qy ?_;have p4:al.length≤j:=by have gh:¬(j:Int)<(al.length:Int):=gt;omega
  rw[Lm p4]at hJ;rw[←hJ]at H;refine Qx<|Qb<|QN O O<|Qe ?_;exact⟨(i+1,vU,U,f'),by simp only[];omega,⟨O,O,O,Z⟩,hp,hh,ho,h6,hI,h7,by simp only[];omega,H⟩
 have hw:j<al.length:=by have gh:(j:Int)<(al.length:Int):=gt;omega
 have k0:al.take (j+1)=al.take j++[al[j]'hw]:=Le hw;have p5:gV U i=pi:=by rw[h8,QkF h5];exact ko
 refine Qi<|Qg<|Qh<|Qc<|xii (i:=j) (hT.ext hh) O O hw λa74 k4=>?_;refine Zb (al[j]'hw) λv hv=>?_;rw[hv]at k4 k0;have hO:(al.take (j+1)).foldl (lgA a b i pi) V=lgA a b i pi U v:=by rw[k0,Mj,←hJ];rfl
 refine x (Qw k4 O)<|Qe<|Exists.elim (VS ho (by omega)) λg9 p6=>Exists.elim p6 λcap9 gu=>?_;have p7:Zv [] ha.heap vU U.length 4 (U.flatMap Z9):=QV ho (by omega) (by simp);have k5:At [] ha.heap ⟨g9,0+i*4,none⟩ (Z9 pi):=by
  obtain⟨a9,c9,e1,e2⟩:=Zv.at p7 hp;rw[JF Z9 4 UH U i hp,←Qbz hp,p5]at e2;rw[gu]at e1;have e3:(⟨g9,0,none⟩:Addr)=a9:=by
   have:=Value.slice.inj e1;exact Option.some.inj this.1
  rw[←e3,Yk]at e2;exact e2
 have p8:At [] ha.heap ⟨g9,0+i*4+0+0*1,none⟩ [.int .i64 pi.x]:=by
  have:=k5.fld 0 (.int .i64 pi.x) O;rw[Yk]at this;exact this
 have p9:At [] ha.heap ⟨g9,0+i*4+0+1*1,none⟩ [.int .i64 pi.y]:=by
  have:=k5.fld 1 (.int .i64 pi.y) O;rw[Yk]at this;exact this
 have qc:=ke.ext hh;have qf:=kf.ext hh;refine QZ (α:=Nat) [(76,94),(17,17)] (λz=>[(17,.pointer (some ⟨z,0,none⟩))]) (λz w'=>Step [] ha w'∧ha.heap.size≤z∧QS w'.heap z 184 [.int .i64 (nxt a.ed pi.x v),.int .i64 (nxt b.ed pi.y v)]) (by rfl) ?_ ?_
 ·refine yn (α:=Unit) (Step [] ha) [(0,true),(1,true),(2,true),(3,true),(4,true),(5,true),(6,true),(7,true),(9,true),(10,true),(11,true),(12,true),(13,true),(14,true),(15,true),(16,true)] [(8,false),(17,false),(18,true)] 19 17 [(20,false)] []
   [(76,94)] [(84,84),(93,94)] (λ_=>[(94,.agg [.int .i64 (nxt a.ed pi.x v),.int .i64 (nxt b.ed pi.y v)].toArray)]) (λ_ _ _=>True)
   (λv w'=>∃b,v=.pointer (some ⟨b,0,none⟩)∧ha.heap.size≤b∧QS w'.heap b 184 [.int .i64 0,.int .i64 0]) mixed (by rfl) (by kernel_rfl) (by rfl) O (Step.drew _ _) (by simp) ?_ ?_ ?_ ?_
  ·rintro v own wa wb ⟨b,rfl,hb,hB⟩ hs hn;exact⟨b,O,hb,hB.step hs (hn b (by simp[ow]))⟩
  ·intro z own wa wb h hs;trivial
  ·rintro z g5 own wz v5 _ ql ⟨hP,rfl,gv,hy⟩ _;refine pkl (hl:=by kernel_rfl)<|Qm (us:=[.int .i64 (nxt a.ed pi.x v),.int .i64 (nxt b.ed pi.y v)]) hy O O O O ⟨O,O,Z⟩ λw8 gr qo=>pe ?_;exact⟨hP,La,ql.then1 gr gv,gv,qo⟩
  refine p (λ_=>Qn)<|p (λ_=>Qn)<|p (λ_=>Qn)<|p (λ_=>QR (show ev _ _=_ from gu) O hp)<|p (λ_=>Qa O) <|
   p (λ_=>ZD (i:=0) O O (by decide))<|pq (λ_ hc=>Qw (p8.st hc) O)<|p (λ_=>Qn)<|p (λ_=>Qn)<|p (λ_=>Qn)<|p (λ_=>Qn) <|
   p (λ_=>QR (show ev _ _=_ from gu) O hp)<|p (λ_=>Qa O)<|p (λ_=>ZD (i:=1) O O (by decide))<|pq (λ_ hc=>Qw (p9.st hc) O) <|
   p (λ_=>Qn)<|pe ⟨λg6 wf k6=>Qr (us:=[.int .i64 0,.int .i64 0]) O λb wf' k7 k8 k9=>⟨k7,k6.trans k7,⟨b,O,LJ k6.size k8,k9⟩,λx hx=>?_⟩,?_⟩
  ·have qr:x=b:=by
    have q0:x∈[b]:=hx;simpa using q0
   subst qr;exact⟨k8,k9.lt⟩
  refine f2k λx1 p1 c1=>xf<|(zS (qc.ext c1) hq pi.x v).mono ?_;rintro r84 y1 ⟨rfl,ma⟩;refine⟨c1.trans ma,[],ma,(λb hb=>by cases hb),?_⟩;refine f2k λx2 p2 c2=>xf<|(zS (qf.ext c2) hr pi.y v).mono ?_;rintro r93 y2 ⟨rfl,mc⟩;refine⟨c2.trans mc,[],mc,(λb hb=>by cases hb),?_⟩;refine f2p (λ_=>QK ⟨O,O,Z⟩)<|f2e ?_;exact⟨(),La,Z⟩
 rintro hP g7 hA ⟨hz,gv,hy⟩;have q4:=hh.trans hz;have hz12:=hz.size;have hl17:=hy.lt;refine Exists.elim (h6.ext hz).h λK q5=>And.elim (λgx gy=>?_) q5;have hQ:(zU a b i pi v).ky=(nxt a.ed pi.x v,nxt b.ed pi.y v):=rfl;refine Qc<|Qb<|x (Qo hy O O)<|x (zJ (s:=(nxt a.ed pi.x v,nxt b.ed pi.y v)) gx O O)<|x (Zp O)<|xe<|QX rfl (λgz=>?_) (λgz=>?_)
 ·have q9:(nxt a.ed pi.x v,nxt b.ed pi.y v)∉K:=Qh9 gz;have h0:=λh=>q9 ((gy _).2 h);rw[←hQ]at h0;have g4:lgA a b i pi U v=U++[zU a b i pi v]:=by
   rcases zV a b i pi U v with⟨_,_,h⟩|⟨h,_⟩
   ·exact h
   exact absurd h h0
  rw[g4]at hO;have mf:m∉ob vU:=hI;have mg:hP∉m::ob vU:=λhb=>by
   rcases Lc.1 hb with rfl|hb
   ·obtain⟨K0,j1,_⟩:=h6.h;have:=j1.lt;omega
   have:=(kz hP hb).2;omega
  have j2:m<hA.heap.size:=gx.lt;have h3:Step [] hA { hA with drawn:=hA.drawn+1 }:=Step.drew _ _
  refine QU (Step (m::ob vU) hA) [(0,true),(1,true),(2,true),(3,true),(4,true),(5,true),(6,true),(7,false),(8,false),(9,false),(10,true)] mixed (by rfl) (by kernel_rfl) (Step.drew _ _) ?_;refine p (λ_=>Qn)<|pq (λ_ hc=>Qo (hy.step hc mg) O O)<|p (λ_=>Qn)<|pq (λ_ hc=>Qo (hy.step hc mg) O O) <|
   p (λ_=>Qn)<|p (λ_=>Qn)<|p (λ_=>Zz [(0,[.int .i64 (nxt a.ed pi.x v),.int .i64 (nxt b.ed pi.y v)]),(1,[.int .i64 i]),(2,[.int .i64 v])] ⟨O,O,O,O,O,O,Z⟩)<|pk<|QJ (us:=[Z9 (zU a b i pi v)]) O O (by decide) (by simp) ⟨rfl,rfl,Z⟩ λb106 w13 h4 hb106 j3=>⟨(h3.trans h4).any,?_⟩
  have g8:=hz.trans (h3.trans h4);have hz13:=(h3.trans h4).size;refine pk<|Q5 (news:=Z9 (zU a b i pi v)) (L:=[]) (Qs ho g8) O O O (j3.at (by simp)) (λu hu=>by
   simp only[List.mem_cons,List.not_mem_nil,or_false]at hu;rcases hu with rfl|rfl|rfl|rfl <;> rfl) (by omega) (by have:=g8.size;omega) λmh mj j4 hS za=>⟨(h3.trans h4).any.trans' (hS.mono (λb hb=>Ln _ hb)),?_⟩
  have zb:ZG ZQ mj.heap m (stP K):=(gx.step (h3.trans h4) (by simp)).step hS mf;refine pk<|Yw (k:=(nxt a.ed pi.x v,nxt b.ed pi.y v)) zb O O λw15 ka zv=>⟨((h3.trans h4).any.trans' (hS.mono (λb hb=>Ln _ hb))).trans' (ka.mono (by simp)),?_⟩;refine p (λ_=>Qf)<|pe ?_;refine Exists.elim (JZ zv) λK' z0=>And.elim (λz2 z3=>?_) z0
  have mo:m∉ob mh:=λhb=>by
   rcases za m hb with h9|h9
   ·exact mf h9
   have:=j2;omega
  refine Qx<|QN O O<|Qb<|xe ?_;have z4:Step [] w mj:=(hh.trans g8).then hS (λb hb=>.inr (kz b hb).1)
  refine⟨(j+1,mh,U++[zU a b i pi v]),by simp only[];omega,⟨O,O,Z⟩,hw,z4.then1 ka m6,Ql (VsO.snoc j4) ka (λb hb mq=>by simp only[List.mem_singleton]at mq;subst mq;exact mo hb),⟨K',z2,λk=>?_⟩,mo,VsI.add hq hr h7 hp (λh=>h0 (.inr h)),hO.symm,W++[zU a b i pi v],by rw[h8,LC]⟩;rw[z3,gy,Lv,Lp];constructor
  ·rintro(h|h|h)
   ·exact .inr (.inr (by rw[h];simp[hQ]))
   ·exact .inl h
   exact .inr (.inl h)
  rintro(h|h|h)
  ·exact .inr (.inl h)
  ·exact .inr (.inr h)
  exact .inl (by simpa[hQ]using h)
 have hK:(nxt a.ed pi.x v,nxt b.ed pi.y v)∈K:=Qfw gz;have h0:=(gy _).1 hK;rw[←hQ]at h0;have g4:lgA a b i pi U v=U:=by
  rcases zV a b i pi U v with⟨h1,h2,_⟩|⟨_,h⟩
  ·exact absurd h0 (λh=>h.elim h1 h2)
  exact h
 rw[g4]at hO;refine Qi<|Qx<|QN O O<|Qb<|xe ?_;exact⟨(j+1,vU,U),by simp only[];omega,⟨O,O,Z⟩,hw,q4,Qs ho hz,h6.ext hz,hI,h7,hO.symm,W,h8⟩
def lgP (N:Nat)(a b:QM)(i:Nat)(v:Value)(w:World):Prop :=
 if i=1 then ∃b1 m1 m2,v=.pointer (some ⟨b1,0,none⟩)∧N≤b1∧N≤m1∧N≤m2∧jm w.heap b1 m1 m2 a
 else if i=3 then ∃b1 m1 m2,v=.pointer (some ⟨b1,0,none⟩)∧N≤b1∧N≤m1∧N≤m2∧jm w.heap b1 m1 m2 b
 else ∃bb,v=.pointer (some ⟨bb,0,none⟩)∧N≤bb∧QS w.heap bb 180 [.pointer none]
theorem Qii {N:Nat}{a b:QM}:∀i v w w',lgP N a b i v w→Step [] w w'→lgP N a b i v w':=by
 intro i v w w' h hs;unfold lgP at h ⊢;split
 ·rename_i h1;rw[if_pos h1]at h;obtain⟨E,G,H,e,n1,I,J,T⟩:=h;exact⟨E,G,H,e,n1,I,J,T.ext hs⟩
 rename_i h1;rw[if_neg h1]at h;split
 ·rename_i h2;rw[if_pos h2]at h;obtain⟨E,G,H,e,n1,I,J,T⟩:=h;exact⟨E,G,H,e,n1,I,J,T.ext hs⟩
 rename_i h2;rw[if_neg h2]at h;obtain⟨bb,e,n1,U⟩:=h;exact⟨bb,e,n1,U.ext hs⟩
theorem Yj {κ:Type}{enc:κ→Value}{H:Array Obj}{b G T:Nat}{m:List (κ×Value)}{cs:LV}(h:ZG enc H b m)(E:QS H G T cs):b≠G:=by
 intro e;subst e;obtain⟨es,c,h1,_⟩:=h;unfold QS at E;rw[h1]at E;cases E
structure LgZ where
 p1:Nat
 p2:Nat
 p3:Nat
 q1:Nat
 q2:Nat
 q3:Nat
 b10:Nat
 b11:Nat
set_option maxHeartbeats 8000000 in
theorem Qbu {w:World}{va vm ve wa wm we:Value}{a b:QM}(hA:Zq [] w.heap va vm ve a)(G:Zq [] w.heap wa wm we b)(kd:Int):
  QE prog 41 [.agg #[va,.int .i64 a.st,vm,ve],.agg #[wa,.int .i64 b.st,wm,we],.int .i64 kd] w λr w'=>Step [] w w'∧∃v e,r=.tuple #[v,.bool e,.int .i64 (lgE a b kd)] ∧
   (lgE a b kd=0→match lgq a b kd with|none=>v=Zd∧e=true|some u=>e=false∧Qt 3 w.heap.size w' v u):=by
 refine Zb (lgE a b kd) λE hE=>?_;refine Zb (lgq a b kd) λR hR=>?_;rw[hE,hR];have onesA:ZF [va,.int .i64 a.st,vm,ve]:=⟨hA.al.one,O,hA.mr.one,hA.ed.one,Z⟩;have onesB:ZF [wa,.int .i64 b.st,wm,we]:=⟨G.al.one,O,G.mr.one,G.ed.one,Z⟩;refine QE.of_W func41 O ntmps41 results41 (by simp) ?_
 refine Qc<|xl O<|QP (us:=[va,.int .i64 a.st,vm,ve]) O λb3 w1 hH gb hI=>xl O<|QP (us:=[wa,.int .i64 b.st,wm,we]) O λb4 w2 hw gc hJ=>xl O<|QP (us:=[.int .i64 kd]) O λb5 w3 hr ge hy=>x Qf <|
  x Qf<|Qe ?_
 have hK:=(hH.trans hw).trans hr;have h4:=(hI.ext hw).ext hr;have h5:=hJ.ext hr;refine Qg<|Qc<|x (Qd hy O O)<|x (Qo h4 O O)<|x (Qo h5 O O)<|xl O<|QJ (us:=[[va,.int .i64 a.st,vm,ve],[wa,.int .i64 b.st,wm,we]]) O O (by decide) (by simp) ⟨rfl,rfl,rfl,rfl,Z⟩ λhL w4 h6 gg hN=>?_;have hs:=hK.trans h6
 have hO:YH [] w4.heap (.slice (some ⟨hL,0,none⟩) 2 2) [⟨va,vm,ve,a⟩,⟨wa,wm,we,b⟩]:=⟨hN.arr (by simp) (n:=2) (cap:=2) (sz:=4) rfl (by omega) (Lu _),λp hp=>by
  simp only[List.mem_cons,List.not_mem_nil,or_false]at hp;rcases hp with rfl|rfl
  ·exact hA.ext hs
  exact G.ext hs⟩
 have hck:=Qbv hO kd;rw[show[(⟨va,vm,ve,a⟩:AV),⟨wa,wm,we,b⟩].map (·.a)=[a,b] from rfl,Ql3,hE]at hck;refine xl rfl<|xf<|hck.mono ?_;rintro r5 w5 ⟨rfl,hh⟩;refine Qe ?_;have hn:=hs.trans hh;have ht:=h6.trans hh;refine Qc<|Qb<|x (Q7 O O)<|xe<|Q2 rfl (λhu=>?_) (λhu=>?_)
 ·refine Qc<|Qb<|x Qf<|x Qf<|Qe ?_;exact Qk ⟨[Zd,.bool false,.int .i64 E],⟨O,O,O,Z⟩,hn,Zd,false,O,λh0=>absurd h0 hu⟩
 have h7:E=0:=Ll.1 hu;have hi:Q3 a∧Q3 b:=by
  have h1:lgE a b kd=0:=hE.trans h7;unfold lgE at h1;by_cases h2:Y6 a≠0
  ·rw[if_pos h2]at h1;exact absurd h1 h2
  rw[if_neg h2]at h1;by_cases h3:Y6 b≠0
  ·rw[if_pos h3]at h1;exact absurd h1 h3
  exact⟨(Zw a).1 (Ll.1 h2),(Zw b).1 (Ll.1 h3)⟩
 refine Qi ?_;have h8:=h4.ext ht;have h9:=h5.ext ht;have hP:=hy.ext ht;have hQ:=hA.ext hn;have hT:=G.ext hn
 refine QZ (α:=LgZ) [(22,25),(10,11)] (λz=>[(10,.pointer (some ⟨z.b10,0,none⟩)),(11,.pointer (some ⟨z.b11,0,none⟩))]) (λz w'=>Step [] w5 w'∧jm w'.heap z.p1 z.p2 z.p3 a∧jm w'.heap z.q1 z.q2 z.q3 b∧QS w'.heap z.b10 180 [.pointer (some ⟨z.p1,0,none⟩)]∧QS w'.heap z.b11 180 [.pointer (some ⟨z.q1,0,none⟩)]) (by rfl) ?_ ?_
 ·refine Qdp (α:=LgZ) (Step [] w5) [(0,true),(2,true)] [1,3,4,5] [(6,false),(7,false)] [(23,23),(25,25),(10,11)] (lgP w5.heap.size a b)
   (λz=>[(23,.pointer (some ⟨z.p1,0,none⟩)),(25,.pointer (some ⟨z.q1,0,none⟩)),(10,.pointer (some ⟨z.b10,0,none⟩)),(11,.pointer (some ⟨z.b11,0,none⟩))])
   (λz w'=>jm w'.heap z.p1 z.p2 z.p3 a∧jm w'.heap z.q1 z.q2 z.q3 b∧QS w'.heap z.b10 180 [.pointer none]∧QS w'.heap z.b11 180 [.pointer none]∧(z.b10≠z.b11∧z.p1≠z.b10∧z.p1≠z.b11∧z.q1≠z.b10∧z.q1≠z.b11)∧w5.heap.size≤z.b10∧w5.heap.size≤z.b11)
   mixed (by rfl) (by kernel_rfl) (Step.drew _ _) (λ_ _ h1 h2=>h1.trans h2) Qii ?_ ?_
  ·rintro g w' ⟨⟨p1,p2,p3,e1,_,_,_,H⟩,⟨q1,q2,q3,e2,_,_,_,I⟩,⟨b10,e3,hj,J⟩,⟨b11,e4,ho,T⟩,_⟩ hk;refine⟨⟨p1,p2,p3,q1,q2,q3,b10,b11⟩,⟨e1,e2,e3,e4,Z⟩,H,I,J,T,?_,hj,ho⟩;have d1:=hk 4 (by simp) 5 (by simp) (by decide);have d2:=hk 1 (by simp) 4 (by simp) (by decide);have d3:=hk 1 (by simp) 5 (by simp) (by decide);have d4:=hk 3 (by simp) 4 (by simp) (by decide)
   have d5:=hk 3 (by simp) 5 (by simp) (by decide);rw[e3,e4]at d1;rw[e1,e3]at d2;rw[e1,e4]at d3;rw[e2,e3]at d4;rw[e2,e4]at d5;simp only[ow,List.mem_singleton,forall_eq]at d1 d2 d3 d4 d5;exact⟨d1,d2,d3,d4,d5⟩
  refine pq (λ_ hc=>Qo (h8.ext hc) O O)<|pq (λ_ hc=>Qo (h9.ext hc) O O)<|pe ⟨⟨?_,?_,?_,?_,Z⟩,?_⟩
  ·intro g w' hc;refine xf<|(zT (hQ.ext hc) hi.1).mono ?_;rintro r5 w6 ⟨ha,b1,m1,m2,rfl,n1,n2,n3,hM⟩;have hz:=hc.size;exact⟨ha,⟨b1,m1,m2,O,LJ hz n1,LJ hz n2,LJ hz n3,hM⟩,λc he=>by rw[Lb.1 (show c∈[b1] from he)];exact⟨n1,hM.B.lt⟩⟩
  ·intro g w' hc;refine xf<|(zT (hT.ext hc) hi.2).mono ?_;rintro r5 w6 ⟨ha,b1,m1,m2,rfl,n1,n2,n3,hM⟩;have hz:=hc.size;exact⟨ha,⟨b1,m1,m2,O,LJ hz n1,LJ hz n2,LJ hz n3,hM⟩,λc he=>by rw[Lb.1 (show c∈[b1] from he)];exact⟨n1,hM.B.lt⟩⟩
  ·intro g w' hc;exact Qr (us:=[.pointer none]) O λb w5 hh hb G=>⟨hh,⟨b,O,LJ hc.size hb,G⟩,λc he=>by rw[Lb.1 (show c∈[b] from he)];exact⟨hb,G.lt⟩⟩
  ·intro g w' hc;exact Qr (us:=[.pointer none]) O λb w5 hh hb G=>⟨hh,⟨b,O,LJ hc.size hb,G⟩,λc he=>by rw[Lb.1 (show c∈[b] from he)];exact⟨hb,G.lt⟩⟩
  rintro⟨p1,p2,p3,q1,q2,q3,b10,b11⟩ g w6 hC ⟨H,I,J,T,hf,hj,ho⟩;simp only[]at H I J T hf hj ho;have k1:=Yj H.e J;have k2:=Yj H.m J;have k3:=Yj I.e J;have k4:=Yj I.m J;have j1:=Yj H.e T;have j2:=Yj H.m T;have j3:=Yj I.e T;have j4:=Yj I.m T
  refine pk<|QC (u:=.pointer (some ⟨p1,0,none⟩)) J O O (by simp) rfl λw7 hg hU=>⟨hC.then1 hg hj,?_⟩;refine pkl (hl:=by kernel_rfl)<|QC (u:=.pointer (some ⟨q1,0,none⟩)) (T.step hg (by simp only[List.mem_singleton];exact λe=>hf.1 e.symm)) O O (by simp) rfl λw8 U hV=>pe ?_;have s1:∀{x:Nat},x≠b10→x∉[b10]:=λh hm=>h (Lb.1 hm)
  have s2:∀{x:Nat},x≠b11→x∉[b11]:=λh hm=>h (Lb.1 hm);exact⟨⟨p1,p2,p3,q1,q2,q3,b10,b11⟩,⟨O,O,Z⟩,(hC.then1 hg hj).then1 U ho,(H.step hg (s1 hf.2.1) (s1 k1) (s1 k2)).step U (s2 hf.2.2.1) (s2 j1) (s2 j2),(I.step hg (s1 hf.2.2.2.1) (s1 k3) (s1 k4)).step U (s2 hf.2.2.2.2) (s2 j3) (s2 j4),hU.step U (s2 hf.1),hV⟩
 rintro⟨p1,p2,p3,q1,q2,q3,b10,b11⟩ g w6 ⟨ha,H,I,J,T⟩;simp only[]at H I J T;have hq:=hn.trans ha;have gh:=hq.size;have hW:=h8.ext ha;have hX:=h9.ext ha;have hY:=hP.ext ha;have hv:Step [] w6 { w6 with drawn:=w6.drawn+1 }:=Step.drew _ _
 have gi:=hA.al.le;have gj:=G.al.le;have gk:=hi.1.al_le;have gl:=hi.2.al_le;refine Qg<|QU (Step [] w6) [(0,true),(1,true),(2,true),(3,true),(5,true),(6,true),(7,true),(4,false),(8,false),(9,true),(10,true),(11,true),(12,true),(13,true)] mixed (by rfl) (by kernel_rfl) (Step.drew _ _) ?_
 refine p (λ_=>Qa O)<|pq (λ_ hc=>Qd (hW.ext hc) O O)<|p (λ_=>Qa O)<|pq (λ_ hc=>Qd (hX.ext hc) O O) <|
  pq (λ_ hc=>Qd (J.ext hc) O O)<|pq (λ_ hc=>Qd (T.ext hc) O O)<|p (λ_=>Zj (l:=[]) (l':=[_,_,_])) <|
  pk<|xf<|(qS ((hA.al.ext hq).ext hv) ((G.al.ext hq).ext hv) (by omega)).mono ?_
 rintro r7 w7 ⟨hg,hZ⟩;have V:=hv.trans hg;have gm:=V.size;refine⟨V,?_⟩;have gn:(mrg (· || ·) a.al b.al).length≤64:=by
  have:=Uz (· || ·) a.al b.al;omega
 have hS:=Qdw (kd:=kd) (g:=88) (cap:=[.pointer (some ⟨b10,0,none⟩),.pointer (some ⟨b5,0,none⟩),.pointer (some ⟨b11,0,none⟩)]) (Qt.ints (L:=[]) hZ (by omega) (by simp)) (H.ext V) (I.ext V) hi.1 hi.2
  (λs t w8 U=>QfI ((J.ext V).ext U) ((T.ext V).ext U) ((hY.ext V).ext U) ((H.ext V).ext U) ((I.ext V).ext U) s t)
 have ga:lgL a b kd (mrg (· || ·) a.al b.al) ((a.st.toNat+1)*(b.st.toNat+1)+1) 0 [⟨fst a,fst b,-1,0⟩]=R:=hR;rw[ga]at hS;refine pk<|xf<|hS.mono ?_;rintro r8 w8 ⟨U,hD⟩;have hF:=V.trans U;refine⟨hF,?_⟩;have Y:∃v e,r8=.tuple #[v,.bool e]∧(match R with|none=>v=Zd∧(!e)=true|some u=>(!e)=false∧Qt 3 w7.heap.size w8 v u):=by
  cases R with
  | none=>exact⟨Zd,false,hD,O,O⟩
  | some u=>obtain⟨v,h1,h2⟩:=hD;exact⟨v,true,h1,O,h2⟩
 refine Exists.elim Y λv Y=>Exists.elim Y λe Y=>And.elim (λhG Y=>?_) Y;refine p (λ_=>Qn)<|p (λ_=>Qj (show ev _ _=_ from hG) O)<|p (λ_=>Qj (show ev _ _=_ from hG) O)<|p (λ_=>Qf)<|p (λ_=>Qf)<|pe ?_;refine Qc<|Qb<|Qb<|x (Zp O)<|x Qf<|x Qf<|Qe<|Qk ⟨[v,.bool (!e),.int .i64 0],⟨O,O,O,Z⟩,hq.trans hF,v,!e,by rw[h7];rfl,λ_=>?_⟩;cases R with
 | none=>exact Y
 | some u=>exact⟨Y.1,Za Y.2 (by omega)⟩
theorem QcJ (V:List Vs):∀(f k:Nat),(lgW V f k).length≤f
 | 0,_=>Lu _
 | f+1,k=>by
  rw[Qac];split
  ·have:=QcJ V f (gV V k).b.toNat;simp only[List.length_cons];omega
  exact Lk _
theorem QcK {a b:QM}{kd:Int}{al:LI}:∀(f i:Nat) (V:List Vs) (u:LI),lgL a b kd al f i V=some u→u.length≤f+i
 | 0,_,_,_,h=>by cases h
 | f+1,i,V,u,h=>by
  rw[lgL]at h;split at h
  ·split at h
   ·have e:(lgW V (i+1) i).reverse=u:=Option.some.inj h;rw[←e,List.length_reverse];have:=QcJ V (i+1) i;omega
   have:=QcK f (i+1) _ u h;omega
  cases h
theorem Qih {a b:QM}(ha:Q3 a)(hb:Q3 b){kd:Int}{u:LI}(h:lgq a b kd=some u):u.length≤17000000:=by
 have h1:=QcK _ _ _ _ h;have E:=ha.st1;have G:=hb.st1;have H:(a.st.toNat+1)*(b.st.toNat+1)≤4097*4097:=Nat.mul_le_mul (by omega) (by omega);omega
def cmK (a b:QM)(k:Nat):Option (LI):=(([1,2]:LI).take k).foldl (λz kd=>cm1 z (lgq a b kd)) none
theorem k12:∀{k:Nat}(h:k<[(1:Int),2].length),[(1:Int),2][k]'h=1∨[(1:Int),2][k]'h=2
 | 0,_=>.inl O
 | 1,_=>.inr O
 | k+2,h=>absurd h (by simp)
theorem QmU (a b:QM):cmK a b 2=cmW a b:=rfl
theorem Qad {a b:QM}(ha:Q3 a)(hb:Q3 b){kd:Int}(h:kd=1∨kd=2):lgE a b kd=0:=by
 unfold lgE;rw[if_neg (by simpa using(Zw a).2 ha),if_neg (by simpa using(Zw b).2 hb),if_neg (by omega)]
section
variable {aa:List QM}{P:LI→Prop}{B:Nat}
structure SyB (P:LI→Prop)(s:Sy):Prop where
 nd:s.tup.Nodup
 p:∀t∈s.tup,P t
theorem Qj1 (J:B≤4096)(H:∀l:List (LI),l.Nodup→(∀t∈l,P t)→l.length≤B){i:Nat}{t:LI}{v:Int}{z:Sy}(E:SyB P z)(I:∀u,Zt v aa t=some u→P u):
  ∃z',syE aa i t z v=some z'∧SyB P z':=by
 unfold syE;cases hs:Zt v aa t with
 | none=>exact⟨z,O,E⟩
 | some u =>
  simp only[];by_cases hu:u∈z.tup
  ·rw[if_pos hu];exact⟨_,O,E.nd,E.p⟩
  have G:(z.tup++[u]).Nodup:=JC E.nd hu;have hp:∀t∈z.tup++[u],P t:=λt ht=>by
   rcases Lp.1 ht with ht|ht
   ·exact E.p t ht
   rw[Lb.1 ht];exact I u hs
  have hc:=H _ G hp;rw[Lj,Lz]at hc;rw[if_neg hu,if_neg (by omega)];exact⟨_,O,G,hp⟩
theorem Qcf (G:B≤4096)(H:∀l:List (LI),l.Nodup→(∀t∈l,P t)→l.length≤B){i:Nat}{t:LI}:∀(vs:LI) (z:Sy),SyB P z→(∀v∈vs,∀u,Zt v aa t=some u→P u)→∃z',KK aa i t vs z=some z'∧SyB P z'
 | [],z,E,_=>⟨z,O,E⟩
 | v::vs,z,E,I=>by
  obtain⟨J,h1,h2⟩:=Qj1 (i:=i) G H E (I v Lr);obtain⟨T,h3,h4⟩:=Qcf G H vs J h2 (λw U=>I w (Ln _ U));exact⟨T,by rw[KK,h1];exact h3,h4⟩
theorem QeA (G:B≤4096)(H:∀l:List (LI),l.Nodup→(∀t∈l,P t)→l.length≤B)(I:∀t,P t→∀v∈evs aa,∀u,Zt v aa t=some u→P u):∀(f i:Nat) (z:Sy),SyB P z→∃z',jA aa f i z=some z'
 | 0,_,z,_=>⟨z,O⟩
 | f+1,i,z,E=>by
  rw[jA];split
  ·rename_i hi;have T:P (Ub z i):=E.p _ (by unfold Ub;simp[List.getD,hi]);have J:(ZC aa i (Ub z i) z).tup=z.tup:=by unfold ZC;split <;> rfl
   obtain⟨U,h1,h2⟩:=Qcf (i:=i) G H (evs aa) (ZC aa i (Ub z i) z) ⟨by rw[J];exact E.nd,by rw[J];exact E.p⟩ (I _ T);obtain⟨V,h3⟩:=QeA G H I f (i+1) U h2;exact⟨V,by rw[h1];exact h3⟩
  exact⟨z,O⟩
theorem Qhz (E:B≤4096)(G:∀l:List (LI),l.Nodup→(∀t∈l,P t)→l.length≤B)(H:(∀a∈aa,a.st≠0)→P (List.replicate aa.length 0))(I:∀t,P t→∀v∈evs aa,∀u,Zt v aa t=some u→P u):
  ∃z,sync aa=some z:=by
 unfold sync;split
 ·exact⟨_,rfl⟩
 rename_i J;have h1:P (List.replicate aa.length 0):=H (λa ha e=>J ⟨a,ha,e⟩);obtain⟨z,h2⟩:=QeA E G I 4096 0 (Un aa) ⟨by simp[Un],λt ht=>by simp[Un]at ht;subst ht;exact h1⟩;exact⟨_,by rw[h2];rfl⟩
end
theorem qH {o:LI}{i j:Nat}{v:Int}(h:i<o.length):cget (o.set i v) j=if j=i then v else cget o j:=by
 by_cases e:j=i
 ·rw[if_pos e,e];unfold cget;simp[List.getD,h]
 rw[if_neg e];unfold cget;simp[List.getD,List.getElem?_set_ne (Ne.symm e)]
theorem QfX {es:List Ed}{e:Ed}{s:Nat}(he:e∈es)(h:e.2.2=(s:Int)):e.1∈ZB es s:=by
 unfold ZB;exact Ly.2 ⟨e,LP.2 ⟨he,decide_eq_true h⟩,O⟩
structure BwF (n:Nat)(s:Int)(ps:LI)(z z':LI×LI):Prop where
 ok:q6 n z'.1 z'.2
 cnt:neg z'.1+z'.2.length=neg z.1+z.2.length
 s0:QaU z'.1 z'.2
 ss:0≤cget z'.1 s.toNat
 a:∀p∈ps,0≤cget z'.1 p.toNat
 m:∀i,0≤cget z.1 i→0≤cget z'.1 i
 c:∀i:Nat,0≤cget z'.1 i→0≤cget z.1 i∨(i:Int)∈z'.2
 q:∀x∈z.2,x∈z'.2
theorem Ql5 {n:Nat}{s p:Int}{z:LI×LI}(h:q6 n z.1 z.2)(H:0≤cget z.1 s.toNat)(hp:0≤p∧p<(n:Int)):
  0≤cget (K4 s z p).1 p.toNat∧(∀i,0≤cget z.1 i→0≤cget (K4 s z p).1 i)∧(∀i:Nat,0≤cget (K4 s z p).1 i→0≤cget z.1 i∨(i:Int)∈(K4 s z p).2)∧∀x∈z.2,x∈(K4 s z p).2:=by
 have E:p.toNat<z.1.length:=by have:=h.len;omega
 unfold K4;by_cases hc:cget z.1 p.toNat<0
 ·rw[if_pos hc];refine⟨?_,λi hi=>?_,λi hi=>?_,λx hx=>LS _ hx⟩
  ·show 0≤cget (z.1.set p.toNat _) p.toNat;rw[qH E,if_pos rfl];omega
  ·show 0≤cget (z.1.set p.toNat _) i;rw[qH E];split <;> omega
  have G:0≤cget (z.1.set p.toNat (cget z.1 s.toNat+1)) i:=hi;rw[qH E]at G;by_cases e:i=p.toNat
  ·refine .inr (MZ _ ?_);rw[Lb];omega
  rw[if_neg e]at G;exact .inl G
 rw[if_neg hc];exact⟨by omega,λi h=>h,λi h=>.inl h,λx h=>h⟩
theorem bwF {n:Nat}{s:Int}(hs:0≤s∧s<(n:Int)):∀(ps:LI) (z:LI×LI),q6 n z.1 z.2→QaU z.1 z.2→0≤cget z.1 s.toNat→(∀p∈ps,0≤p∧p<(n:Int))→BwF n s ps z (ps.foldl (K4 s) z)
 | [],z,h,G,E,_=>⟨h,O,G,E,(λp hp=>(by cases hp)),λi h=>h,λi h=>.inl h,λx h=>h⟩
 | p::ps,z,h,G,E,H=>by
  have hp:=H p Lr;have h1:=QbQ h hs E hp;have h2:=qL h E hp G;have h3:=Ql5 h E hp;have ih:=bwF hs ps (K4 s z p) h1.1 h2 h1.2.2 (λq hq=>H q (Ln _ hq));refine⟨ih.ok,ih.cnt.trans h1.2.1,ih.s0,ih.ss,λq hq=>?_,λi hi=>ih.m i (h3.2.1 i hi),λi hi=>?_,λx hx=>ih.q x (h3.2.2.2 x hx)⟩
  ·rcases Lc.1 hq with rfl|hq
   ·exact ih.m _ h3.1
   exact ih.a q hq
  rcases ih.c i hi with h4|h4
  ·rcases h3.2.2.1 i h4 with h5|h5
   ·exact .inl h5
   exact .inr (ih.q _ h5)
  exact .inr h4
theorem Qdf {n:Nat}{es:List Ed}(I:∀e∈es,0≤e.1∧e.1<(n:Int)∧0≤e.2.2∧e.2.2<(n:Int)):∀(f:Nat) (o q:LI),q6 n o q→QaU o q→neg o+q.length≤f→(∀e∈es,0≤cget o e.2.2.toNat→0≤cget o e.1.toNat∨e.2.2∈q) →
  (∀e∈es,0≤cget (bwL es f o q) e.2.2.toNat→0≤cget (bwL es f o q) e.1.toNat)∧∀i,0≤cget o i→0≤cget (bwL es f o q) i
 | 0,o,q,_,_,J,G=>by
  have hq:q=[]:=Lq (by omega);subst hq;exact⟨λe he h=>(G e he h).resolve_right (by simp),λi h=>h⟩
 | f+1,o,[],_,_,_,G=>⟨λe he h=>(G e he h).resolve_right (by simp),λi h=>h⟩
 | f+1,o,s::q,H,T,J,G=>by
  have hs:=H.q s Lr;have E:=bwF hs (ZB es s.toNat) (o,q) ⟨H.len,λx hx=>H.q x (Ln _ hx),H.le⟩ (λx hx=>T x (Ln _ hx)) (T s Lr) (λp hp=>by
   obtain⟨e,he,h1,_⟩:=Jq hp;have:=I e he;omega)
  have hc:=E.cnt;simp only[List.length_cons]at J hc;have ih:=Qdf I f _ _ E.ok E.s0 (by omega) (λe he hx=>?_)
  ·rw[bwL];exact⟨ih.1,λi hi=>ih.2 i (E.m i hi)⟩
  have U:=I e he;by_cases e1:e.2.2=s
  ·exact .inl (E.a _ (QfX he (by rw[e1];omega)))
  rcases E.c _ hx with h1|h1
  ·rcases G e he h1 with h2|h2
   ·exact .inl (E.m _ h2)
   rcases Lc.1 h2 with h3|h3
   ·exact absurd h3 e1
   exact .inr (E.q _ h3)
  rw[show((e.2.2.toNat:Nat):Int)=e.2.2 by omega]at h1;exact .inr h1
theorem Qjd {a:QM}(E:Q3 a){n:Nat}(H:a.st=(n:Int)):(∀e∈a.ed,0≤cget (bwd n a.ed a.mr) e.2.2.toNat→0≤cget (bwd n a.ed a.mr) e.1.toNat)∧∀x∈a.mr,0≤cget (bwd n a.ed a.mr) x.toNat:=by
 have hb:∀x∈a.mr,0≤x∧x<(n:Int):=λx hx=>by have:=E.mr x hx;omega
 have G:=Qbr (Ks n a.mr);rw[YR]at G;have h:=Qdf (es:=a.ed) (λe he=>by have:=E.ed e he;omega) (n+a.mr.length) (Ks n a.mr) a.mr (QbR hb) (λx hx=>by rw[UD (hb x hx) hx];exact Na _) (by omega) (λe he hx=>.inr ?_)
 ·exact⟨h.1,λx hx=>h.2 _ (by rw[UD (hb x hx) hx];exact Na _)⟩
 have I:=E.ed e he;have hl:e.2.2.toNat<(Ks n a.mr).length:=by rw[YR];omega
 rw[←Zh hl]at hx;have e1:((e.2.2.toNat:Nat):Int)=e.2.2:=by omega
 simp only[Ks,List.getElem_map,List.getElem_range,e1]at hx;split at hx
 ·assumption
 omega
theorem jS {a:QM}{ul:LI}:∀(f:Nat) (lf:Lf),Kz lf<f→(nxs a ul (Uq a ul f lf)).length=0
 | 0,_,h=>by omega
 | f+1,lf,h=>by
  by_cases h1:(nxs a ul lf).length=0
  ·rw[Uq,if_pos h1];exact h1
  rw[zG h1];have:=jZ h1;exact jS f _ (by omega)
theorem Qe3 (a:QM)(ul:LI):(nxs a ul (Qe4 a [] ul)).length=0:=by
 refine jS _ _ ?_;have h:=Qc5 (lf0 a.st.toNat []);have:(lf0 a.st.toNat []).length=a.st.toNat:=by simp[lf0]
 omega
theorem Qdh {lf:Lf}:∀(l:LI) (i k:Nat),k<l.length→lf.getD (i+k) false=true→cget l k<0→((i+k:Nat):Int)∈JI lf i l
 | [],_,k,h,_,_=>by simp at h
 | d::l,i,0,_,h1,h2=>by
  have h3:d<0:=h2;rw[JI,if_pos ⟨by simpa using h1,h3⟩];simp
 | d::l,i,k+1,h,h1,h2=>by
  have h3:=Qdh l (i+1) k (by simpa using h) (by rw[show i+1+k=i+(k+1) by omega];exact h1) h2;rw[show i+1+k=i+(k+1) by omega]at h3;rw[JI];split
  ·exact Ln _ h3
  exact h3
structure DsQ (a:QM)(lf:Lf)(z:LI×LI):Prop where
 q:∀k,(h:k<z.2.length)→lft lf (z.2[k]'h)=true∧(z.2[k]'h∈a.mr∨∃j,∃hj:j<z.2.length,j<k∧∃v,(z.2[k]'h,v,z.2[j]'hj)∈a.ed)
 r:∀i:Nat,0≤cget z.1 i→i<z.1.length→(i:Int)∈z.2
theorem DsQ.add {a:QM}{lf:Lf}{z:LI×LI}{x y:Int}{i:Nat}(h:DsQ a lf z)(hi:i<z.2.length)(hx:z.2[i]'hi=x)(hy:0≤y)(he:∃v,(y,v,x)∈a.ed):
  DsQ a lf (Ur lf x z y)∧∃J:i<(Ur lf x z y).2.length,(Ur lf x z y).2[i]'J=x:=by
 unfold Ur;by_cases hc:lft lf y=true∧cget z.1 y.toNat<0
 ·rw[if_pos hc];refine⟨⟨λk hk=>?_,λj hj H=>?_⟩,by simp;omega,by simp only[];rw[L5 hi];exact hx⟩
  ·simp only[List.length_append,List.length_singleton]at hk;by_cases e:k=z.2.length
   ·subst e;simp only[List.getElem_append_right (Nat.le_refl _),Nat.sub_self,List.getElem_cons_zero];refine⟨hc.1,.inr ⟨i,by simp;omega,hi,?_⟩⟩;obtain⟨v,E⟩:=he;exact⟨v,by rw[L5 hi,hx];exact E⟩
   have I:k<z.2.length:=by omega
   simp only[List.getElem_append_left I];obtain⟨h1,h2⟩:=h.q k I;refine⟨h1,h2.imp id ?_⟩;rintro⟨j,hj,T,v,E⟩;exact⟨j,by simp;omega,T,v,by rw[L5 hj];exact E⟩
  simp only[List.length_set]at H;by_cases e:j=y.toNat
  ·refine MZ _ ?_;rw[Lb];omega
  refine LS _ (h.r j ?_ H);have G:0≤cget (z.1.set y.toNat (cget z.1 x.toNat+1)) j:=hj;unfold cget at G ⊢;rw[MU,MR (Ne.symm e),←MU]at G;exact G
 rw[if_neg hc];exact⟨h,hi,hx⟩
theorem DsQ.adds {a:QM}{lf:Lf}{x:Int}{i:Nat}:∀(E:LI) (z:LI×LI),DsQ a lf z→(hi:i<z.2.length)→z.2[i]'hi=x→(∀y∈E,0≤y∧∃v,(y,v,x)∈a.ed)→DsQ a lf (E.foldl (Ur lf x) z)
 | [],_,h,_,_,_=>h
 | y::E,z,h,hi,hx,hy=>by
  have h1:=h.add hi hx (hy y Lr).1 (hy y Lr).2;obtain⟨h2,G,H⟩:=h1;exact DsQ.adds E _ h2 G H (λq hq=>hy q (Ln _ hq))
theorem QjN {a:QM}(H:Q3 a){lf:Lf}:∀(f i:Nat) (z:LI×LI),DsQ a lf z→(∀x∈z.2,0≤x)→DsQ a lf (dsL a.ed lf f i z)
 | 0,_,z,h,_=>h
 | f+1,i,z,h,I=>by
  rw[dsL];split
  ·rename_i hi;have hx:z.2[i]'hi=cget z.2 i:=Zh hi;have J:=I _ (Lh hi);rw[hx]at J;refine QjN H f (i+1) _ (h.adds (i:=i) _ _ hi hx (λy hy=>?_)) (λx T=>?_)
   ·obtain⟨e,he,h1,h2⟩:=Jq hy;have U:=H.ed e he;rw[show(((cget z.2 i).toNat:Nat):Int)=cget z.2 i by omega]at h2;exact⟨by omega,e.2.1,by rw[←h1,←h2];exact he⟩
   have key:∀(E:LI) (z:LI×LI),(∀y∈E,0≤y)→(∀x∈z.2,0≤x)→∀x∈(E.foldl (Ur lf (cget z.2 i)) z).2,0≤x:=by
    intro E z;generalize cget z.2 i=x0;intro hy G;have k2:∀(E:LI) (z:LI×LI),(∀y∈E,0≤y)→(∀x∈z.2,0≤x)→∀x∈(E.foldl (Ur lf x0) z).2,0≤x:=by
     intro E;induction E with
     | nil=>intro z _ G;exact G
     | cons y E ih =>
      intro z hy G;rw[LM];refine ih _ (λq hq=>hy q (Ln _ hq)) (λx hx=>?_);unfold Ur at hx;split at hx
      ·rcases Lp.1 hx with hx|hx
       ·exact G x hx
       rw[Lb.1 hx];exact hy y Lr
      exact G x hx
    exact k2 E z hy G
   exact key _ z (λy hy=>by
    obtain⟨e,he,h1,_⟩:=Jq hy;have:=(H.ed e he).1;omega) I x T
  exact h
theorem QlW {a:QM}(G:Q3 a)(lf:Lf):DsQ a lf (ds0 a lf)∧∀x∈(ds0 a lf).2,0≤x:=by
 rw[QbF (λx hx=>(G.mr x hx).1)];refine⟨⟨λk hk=>?_,λi hi E=>?_⟩,λx hx=>(G.mr x (LP.1 hx).1).1⟩
 ·have:=LP.1 (Lh hk);exact⟨this.2,.inl this.1⟩
 simp only[]at hi E;rw[←Zh E]at hi;rw[YR]at E;simp only[Ks,List.getElem_map,List.getElem_range]at hi;split at hi
 ·assumption
 omega
theorem Kq:∀{es:List Ed},(es.Pairwise λx y=>x.1<y.1∨(x.1=y.1∧x.2.1<y.2.1))→∀{s v t:Int},(s,v,t)∈es→eget es s v=some t
 | [],_,_,_,_,h=>by cases h
 | e::es,hp,s,v,t,h=>by
  simp only[List.pairwise_cons]at hp;rw[eget];rcases Lc.1 h with h|h
  ·rw[←h,if_pos ⟨rfl,rfl⟩]
  have h1:=hp.1 _ h;simp only[]at h1;rw[if_neg (by omega)];exact Kq hp.2 h
theorem Vr {ord:LI}{x:Int}(h:x∈ord):Zr ord ((ord.idxOf x:Nat):Int)=x:=by
 have hl:=Mo h;unfold Zr;simp[List.getD,hl]
section
variable {A:QM}{lf:Lf}{ord:LI}
def PrT (lf:Lf)(ord:LI)(t:LI):Prop:=∃j:Nat,j<ord.length∧t=[Zr ord j,(j:Int)]∧lft lf (Zr ord j)=true
theorem zE (E:Q3 A){s v p:Int}(h:(s,v,p)∈A.ed):eget (rstr A lf).ed s v=if lft lf p=true then some p else none:=by
 by_cases hl:lft lf p=true
 ·rw[if_pos hl];exact Kq (Kj E lf).edi (LP.2 ⟨h,hl⟩)
 rw[if_neg hl];refine Ju λe he hk=>hl ?_;have h1:=LP.1 he;have h2:=Kq E.edi h;have h3:eget A.ed e.1 e.2.1=some e.2.2:=Kq E.edi (s:=e.1) (v:=e.2.1) (t:=e.2.2) h1.1;rw[hk.1,hk.2,h2]at h3;rw[Option.some.inj h3];exact h1.2
theorem Qcj (E:Q3 A)(hc:CnP (rstr A lf) ord){j:Nat}(hj:j<ord.length){v p:Int}(h:(Zr ord j,v,p)∈A.ed)(hl:lft lf p=true):
  Zt v [A,YK (rstr A lf)] [Zr ord j,(j:Int)]=some [p,((ord.idxOf p:Nat):Int)]∧p∈ord:=by
 have G:v∈A.al:=(E.ed _ h).2.2.1;have H:v∈(YK (rstr A lf)).al:=by rw[hc.al];exact G
 have h1:=hc.step hj v;rw[zE E h,if_pos hl]at h1;refine⟨QhE G (Kq E.edi h) H h1,?_⟩;refine hc.cl j hj (Zr ord j,v,p) ?_;unfold ZI;exact LP.2 ⟨LP.2 ⟨h,hl⟩,decide_eq_true O⟩
theorem Qj4 (H:Q3 A)(hc:CnP (rstr A lf) ord){j:Nat}(hj:j<ord.length){v:Int}(E:v∈A.al){u:LI}(hu:Zt v [A,YK (rstr A lf)] [Zr ord j,(j:Int)]=some u):PrT lf ord u:=by
 have I:v∈(YK (rstr A lf)).al:=by rw[hc.al];exact E
 cases G:eget A.ed (Zr ord j) v with
 | none=>rw[QhG E G]at hu;cases hu
 | some p =>
  have hm:=VA G;by_cases hl:lft lf p=true
  ·have h1:=Qcj H hc hj hm hl;rw[h1.1]at hu;cases hu
   exact⟨ord.idxOf p,Mo h1.2,by rw[Vr h1.2],by rw[Vr h1.2];exact hl⟩
  have h1:=hc.step hj v;rw[zE H hm,if_neg hl]at h1;rw[QhF E G I h1]at hu;cases hu
end
theorem Qcb {aa:List QM}{C:QM}{Q:List (LI)}(hs:SyP aa C Q)(H:Q3 C)(I:Par Q.length C.ed){P:LI→Prop}(J:0<Q.length→P (List.replicate aa.length 0))(T:∀t,P t→∀v∈evs aa,∀u,Zt v aa t=some u→P u):
  ∀(n j:Nat),j<n→j<Q.length→P (Q.getD j [])
 | 0,j,h,_=>by omega
 | n+1,j,h,hj=>by
  by_cases U:j=0
  ·subst U;rw[hs.hd hj];exact J hj
  obtain⟨e,he,e2,e1⟩:=I j (by omega) hj;have Y:=H.ed e he;have hi:e.1.toNat<Q.length:=by omega
  have ih:=Qcb hs H I J T n e.1.toNat (by omega) hi;have V:eget C.ed e.1 e.2.1=some e.2.2:=Kq H.edi (s:=e.1) (v:=e.2.1) (t:=e.2.2) he;have E:=hs.step hi e.2.1;rw[show((e.1.toNat:Nat):Int)=e.1 by omega,V,e2]at E;by_cases G:e.2.1∈evs aa
  ·rw[if_pos G]at E;cases hu:Zt e.2.1 aa (Q.getD e.1.toNat [])with
   | none=>rw[hu]at E;cases E
   | some u =>
    rw[hu]at E;have h2:(j:Int)=(Q.idxOf u:Int):=Option.some.inj E;have h3:=(hs.to hi G hu).2;rw[show Q.idxOf u=j by omega]at h3;rw[h3];exact T _ ih _ G u hu
  rw[if_neg G]at E;cases E
theorem Qh5 {a:QM}{ul:LI}{lf:Lf}(h:(nxs a ul lf).length=0):(JI lf 0 (dsts a lf)).length=0:=by
 unfold nxs at h;by_cases h1:(lost a ul lf).length≠0
 ·rw[if_pos h1,Li]at h;exact absurd h h1
 rw[if_neg h1]at h;exact h
theorem Qi7 {A:QM}(E:Q3 A)(ul:LI):∃C Q,sync [A,JX A [] ul]=some (C,Q)∧JM [A,JX A [] ul]=0∧Q3 C∧((cor C).length:Int)=C.st:=by
 have hV:=Qh5 (Qe3 A ul);have hA:JX A [] ul=JQ A (Qe4 A [] ul):=rfl;rw[hA];generalize hW:Qe4 A [] ul=lf at *;have hC:Q3 (JQ A lf):=VN E lf;have G:∀a∈[A,JQ A lf],Q3 a:=λa ha=>by
  simp only[List.mem_cons,List.not_mem_nil,or_false]at ha;rcases ha with rfl|rfl
  ·exact E
  exact hC
 have hck:JM [A,JQ A lf]=0:=by
  unfold JM;rw[if_neg (by simp)];exact(VD _).2 G
 by_cases J:A.st=0∨lft lf 0=false
 ·have V:JQ A lf=⟨A.al,0,[],[]⟩:=by unfold JQ;rw[if_pos J]
  have hs:sync [A,JQ A lf]=some (⟨evs [A,JQ A lf],0,[],[]⟩,[]):=by
   unfold sync;rw[if_pos ⟨JQ A lf,by simp,by rw[V]⟩]
  exact⟨_,_,hs,hck,(Xu G hs).1.okay G,O⟩
 have hX:A.st≠0:=λe=>J (.inl e);have hD:lft lf 0=true:=by
  cases h:lft lf 0 with
  | true=>rfl
  | false=>exact absurd (.inr h) J
 have V:JQ A lf=YK (rstr A lf):=by unfold JQ;rw[if_neg J]
 rw[V]at G hck ⊢;have hE:=Kj E lf;have st0:=E.st0;have hF:0<(rstr A lf).st:=by show 0<A.st;omega
 obtain⟨ord,hc⟩:=yi hE hF;have hY:=E.st1;have hG:ord.length≤4096:=pig 4096 ord hc.nd (λx hx=>by have:=hc.bd x hx;have h2:x<A.st:=this.2;omega);have hH:∀v∈evs [A,YK (rstr A lf)],v∈A.al:=λv H=>by
  obtain⟨a,ha,hx⟩:=(UB G v).1 H;simp only[List.mem_cons,List.not_mem_nil,or_false]at ha;rcases ha with rfl|rfl
  ·exact hx
  rw[hc.al]at hx;exact hx
 have hh:PrT lf ord (List.replicate [A,YK (rstr A lf)].length 0):=⟨0,hc.hd.2,by
  have h1:=hc.hd.1;show[0,0]=[Zr ord ((0:Nat):Int),((0:Nat):Int)];rw[show Zr ord ((0:Nat):Int)=0 from h1];rfl,by rw[show Zr ord ((0:Nat):Int)=0 from hc.hd.1];exact hD⟩
 have hr:∀t,PrT lf ord t→∀v∈evs [A,YK (rstr A lf)],∀u,Zt v [A,YK (rstr A lf)] t=some u→PrT lf ord u:=by
  rintro t ⟨j,hj,rfl,_⟩ v H u hu;exact Qj4 E hc hj (hH v H) hu
 obtain⟨⟨C,Q⟩,hs⟩:=Qhz (P:=PrT lf ord) hG (λl hn hp=>by
  have h1:(l.map λt=>Zr t 1).Nodup:=by
   unfold List.Nodup;rw[MW];refine List.Pairwise.imp_of_mem (λ{x y} hx hy hI e=>hI ?_) hn;obtain⟨i,_,rfl,_⟩:=hp x hx;obtain⟨k,_,rfl,_⟩:=hp y hy;have e':(i:Int)=(k:Int):=e;have:i=k:=by omega
   rw[this]
  have h2:=pig ord.length _ h1 (λu hu=>by
   obtain⟨t,ht,rfl⟩:=Ly.1 hu;obtain⟨i,hi,rfl,_⟩:=hp t ht;show 0≤(i:Int)∧(i:Int)<_;omega)
  rw[Li]at h2;exact h2) (λ_=>hh) hr
 have I:=(Xu G hs).1;have Y:=I.okay G;refine⟨C,Q,hs,hck,Y,?_⟩;have hJ:=λj (hj:j<Q.length)=>Qcb I Y (Qey hs) (λ_=>hh) hr (j+1) j (by omega) hj;have hK:=I.st;have hw:=Qjd Y (n:=Q.length) hK;obtain⟨hL,hM⟩:=QlW E lf;have hq:=QjN E (lf:=lf) A.st.toNat 0 (ds0 A lf) hL hM;have he:dsts A lf=(dsL A.ed lf A.st.toNat 0 (ds0 A lf)).1:=rfl
 refine Zb (dsL A.ed lf A.st.toNat 0 (ds0 A lf)) λz hN=>?_;rw[hN]at hq he;have hO:∀(m k:Nat),k<m→(hk:k<z.2.length)→∀i,i<Q.length→∀j:Nat,j<ord.length→Zr ord j=z.2[k]'hk→Q.getD i []=[Zr ord j,(j:Int)]→0≤cget (bwd Q.length C.ed C.mr) i:=by
  intro m;induction m with
  | zero=>intro k h;omega
  | succ m ih =>
   intro k hZ hk i hi j hj hf T;obtain⟨hl,hP⟩:=hq.q k hk;rcases hP with hm|⟨j',hg,ga,v,H⟩
   ·have hQ:(i:Int)∈C.mr:=by
     rw[I.mk2];refine Ly.2 ⟨i,LP.2 ⟨by rw[Mc];omega,?_⟩,O⟩;rw[T];have hb:(j:Int)∈(YK (rstr A lf)).mr:=by
      rw[hc.mk2];refine Ly.2 ⟨j,LP.2 ⟨by rw[Mc];omega,decide_eq_true ?_⟩,O⟩;show Zr ord j∈A.mr;rw[hf];exact hm
     have ha:Zr ord j∈A.mr:=by rw[hf];exact hm
     simp[Xm,ha,hb]
    have:=hw.2 _ hQ;simpa using this
   have hR:=(hq.q j' hg).1;rw[←hf]at H;obtain⟨h1,h2⟩:=Qcj E hc hj H hR;have h0:v∈evs [A,YK (rstr A lf)]:=(UB G v).2 ⟨A,by simp,(E.ed _ H).2.2.1⟩;rw[←T]at h1;have h3:=I.to hi h0 h1;have h4:=I.step hi v;rw[if_pos h0,h1]at h4;have h5:=VA h4;have h6:=ih j' (by omega) hg _ h3.1 (ord.idxOf (z.2[j']'hg)) (Mo h2) (Vr h2) (by rw[h3.2,Vr h2])
   have h7:=hw.1 _ h5;simp only[Int.toNat_natCast]at h7;exact h7 h6
 have hS:∀i,i<Q.length→0≤cget (bwd Q.length C.ed C.mr) i:=by
  intro i hi;obtain⟨j,hj,T,hl⟩:=hJ i hi;have hb:=hc.bd (Zr ord j) (by
   unfold Zr;simp only[Int.toNat_natCast,List.getD_eq_getElem?_getD,List.getElem?_eq_getElem hj,Option.getD_some];exact Lh hj)
  have gb:Zr ord j<A.st:=hb.2;have h8:(dsts A lf).length=A.st.toNat:=by
   have key:∀(f i:Nat) (z:LI×LI),(dsL A.ed lf f i z).1.length=z.1.length:=by
    intro f;induction f with
    | zero=>intro i z;rfl
    | succ f ih =>
     intro i z;rw[dsL];split
     ·rw[ih];have k2:∀(x:Int) (U:LI) (z:LI×LI),(U.foldl (Ur lf x) z).1.length=z.1.length:=by
       intro x U;induction U with
       | nil=>intro z;rfl
       | cons y U ih2 =>
        intro z;rw[LM,ih2];unfold Ur;split
        ·simp
        rfl
      exact k2 _ _ _
     rfl
   unfold dsts;rw[key,QbF (λx hx=>(E.mr x hx).1)];exact YR _ _
  have h9:0≤cget (dsts A lf) (Zr ord j).toNat:=by
   refine Decidable.byContradiction λhn=>?_;have:=Qdh (lf:=lf) (dsts A lf) 0 (Zr ord j).toNat (by rw[h8];omega) (by rw[LQ];exact hl) (by omega);have:=List.length_pos_of_mem this;omega
  have gc:z.1.length=A.st.toNat:=by rw[←he];exact h8
  rw[he]at h9;have hm:=hq.r _ h9 (by omega);rw[show(((Zr ord j).toNat:Nat):Int)=Zr ord j by omega]at hm;obtain⟨k,hk,hT⟩:=LG hm;exact hO (k+1) k (by omega) hk i hi j hj hT.symm T
 have hU:cor C=KN (bwd Q.length C.ed C.mr) Q.length:=by unfold cor;rw[show C.st.toNat=Q.length by omega]
 rw[hU];unfold KN;rw[Li,Nm.2 (λi hi=>decide_eq_true (hS i (M2.1 hi))),List.length_range];omega
theorem QcO {α:Type}(q:α→Bool):∀(l:List α) (i:Nat),(∀x∈ixs q i l,(i:Int)≤x∧x<(i:Int)+l.length)∧Yy (ixs q i l)
 | [],i=>⟨λx h=>(by cases h),List.Pairwise.nil⟩
 | e::l,i=>by
  obtain⟨h1,h2⟩:=QcO q l (i+1);rw[ixs];split
  ·refine⟨λx hx=>?_,LR.2 ⟨λx hx=>by have:=h1 x hx;omega,h2⟩⟩;rcases Lc.1 hx with rfl|hx
   ·exact⟨Na _,by simp only[List.length_cons];omega⟩
   have:=h1 x hx;simp only[List.length_cons];omega
  exact⟨λx hx=>by have:=h1 x hx;simp only[List.length_cons];omega,h2⟩
theorem Qda {c:ZE}(h:YU c=0):K8 (Xg c) [] (unc c.ev)=0:=by
 have E:=(JW h).2;have G:=ZX (qF h);have hi:=QcO (λe:K5=>!e.co) c.ev 0;have hl:=G.ev;unfold K8;rw[if_neg (by simp[(Zw _).2 E]),if_neg (by simp[YJ])];exact QbK (λx hx=>by have:=hi.1 x hx;omega) hi.2
theorem K3 {w:World}{vl:Value}{ps:List AV}(h:YH [] w.heap vl ps)(Y:∀p∈ps,Q3 p.a)(ha:Kb w 4096):
  QE prog 40 [vl] w λr w'=>Step [] w w'∧∃va,r=.tuple #[va,.int .i64 (XW (ps.map (·.a)))]∧(XW (ps.map (·.a))≠0→va=zA)∧(XW (ps.map (·.a))=0→Xk w.heap.size w'.heap va (syA (ps.map (·.a)))):=by
 refine QE.of_W func40 O ntmps40 results40 (by simp) ?_;refine Qc<|xl O<|Qr (us:=Jm) O λb2 w1 E he I=>Qe<|Qc<|Qb<|xl O<|xf<|(VH (km:=4096) (h.ext E) (ha.ext E) (by decide) (Uy Y)).mono ?_;rintro r2 w2 ⟨hf,vA,vt,c,rfl,hR⟩;have hc:=hR.e;have hg:=hR.good;have hb:=hR.bad;obtain⟨a,xa,xm,G,qs,rfl,J,hq,_⟩:=hR.shape;have hh:=E.size;have hi:=I.lt
 refine Qb<|x (Qj O O)<|x (Qj O O)<|x (Qj O O)<|xl O<|Qr (us:=Jm) O λb4 w3 hj hk hl=>xl O<|Qm (us:=[xa,.int .i64 a.st,xm,G]) hl O O O O J λw4 hm hn =>
  x Qf<|Qe ?_
 have T:Step [] w2 w4:=hj.then1 hm hk;have U:=hf.trans T;refine Qc<|x (Qo hn O O)<|Qb<|xl O<|Qm (us:=[xa,.int .i64 a.st,xm,G]) (I.ext U) O O O O J λw5 V hp=>Qe<|Qk ⟨[.agg [xa,.int .i64 a.st,xm,G].toArray,.int .i64 c],⟨⟨_,O,Qv O (hp.at (L:=[]) (by simp)).cells⟩,rfl,Z⟩,(E.trans U).then1 V he,.agg #[xa,.int .i64 a.st,xm,G],?_,λH=>?_,λH=>?_⟩
 ·show Value.tuple _=Value.tuple _;rw[hc]
 ·exact(hb (by rw[hc];exact H)).1
 have h1:=(hg (by rw[hc];exact H)).1;exact(Xe (h1.ext T) hi V).mono hh
theorem QaT {w:World}{c:CL}(h:ZH [] w.heap c)(V:Kb w 4096):
  QE prog 23 [c.val] w λr w'=>Step [] w w'∧∃va,r=.tuple #[va,.int .i64 (YU c.cel)]∧(YU c.cel≠0→va=zA)∧(YU c.cel=0→Xk w.heap.size w'.heap va (Xg c.cel)):=by
 have G:=Qex c.cel;refine QE.of_W func23 O ntmps23 results23 (by simp) ?_;refine Qc<|xl O<|QP (us:=c.cells) O λb1 w1 Y hu hk=>xl O<|Qr (us:=Jm) O λb2 w2 ha hv J=>Qe ?_;have T:=Y.trans ha;have hw:=Y.size;have hy:=J.lt;refine Qc<|x (Qo (hk.ext ha) O O)<|xl O<|xf<|(J9 (h.ext T) (V.ext T)).mono ?_;rintro r3 w3 ⟨I,vl,rfl,hz,hl⟩
 refine Qb<|x (Qj O O)<|x (Qj O O)<|x Qf<|Qe ?_;have U:=T.trans I;have h1:=I.size;refine Qg<|Qc<|Qb<|x (Q7 O O)<|xe<|Q2 rfl (λH=>?_) (λH=>?_)
 ·rw[if_pos H]at G;refine Qc<|x (QK Z)<|Qb<|xl O<|Qm (us:=Jm) (J.ext I) O O O O ⟨O,O,O,O,Z⟩ λw4 hm hn=>Qe<|Qk ⟨[.agg Jm.toArray,.int .i64 (K9 c.cel)],⟨⟨_,O,Qv O (hn.at (L:=[]) (by simp)).cells⟩,rfl,Z⟩,U.then1 hm (by omega),zA,?_,λ_=>rfl,λE=>absurd E (by rw[G];exact H)⟩;show Value.tuple _=Value.tuple _;rw[G];rfl
 rw[if_neg H]at G;have hb:=Ll.1 H;obtain⟨h2,ps,hc,ho⟩:=hl hb;have hq:∀p∈ps,Q3 p.a:=λp hp=>UI hb p.a (by rw[←hc];exact LK hp);have hC:=K3 (ho [] (by simp)) hq (V.ext U);rw[hc,←G]at hC;refine Qi<|Qc<|Qb<|xl O<|xf<|hC.mono ?_;rintro r5 w5 ⟨he,va,rfl,hf,hg⟩;have hr:∃us,va=.agg us.toArray∧us.length=4∧ZF us:=by
  by_cases E:YU c.cel=0
  ·exact Yo (hg E)
  exact⟨Jm,hf E,O,O,O,O,O,Z⟩
 obtain⟨us,hh,hi,hs⟩:=hr;refine x (Qj O O)<|x (Qj O O)<|xl O<|Qm (us:=us) (J.ext (I.trans he)) O (show Go.Lg.ev _ _=_ from hh) hi O hs λw6 hj ht=>Qe<|Qk ⟨[.agg us.toArray,.int .i64 (YU c.cel)],⟨⟨_,O,Qv hi (ht.at (L:=[]) (by simp)).cells⟩,rfl,Z⟩,(U.trans he).then1 hj (by omega),va,?_,hf,λE=>?_⟩
 ·show Value.tuple _=Value.tuple _;rw[hh]
 exact(Xe (hg E) (by omega) hj).mono (by omega)
end Go.Proofs.YtjcgijbhaemldaaGreatDoor
namespace Go.Lg
section
variable {P:Program}{ops:List Oper}{K:Fr→World→Prop}{f:Fr}{w:World}{d:Option Nat}{ty:Nat}{ps:String}{af:Array Edge}{gd:Option (Nat×Bool)}{l:List Oper}{t t':Nat}{x y:Operand}{k:IntKind}{a b:Int}
theorem YB (hx:ev f x=.int k a)(hy:ev f y=.int k b)(h:a=b):(execOp (ev f) ⟨d,.binOp .eql t x y t',ty,ps,af,gd⟩).run P w=.ok (.value (.bool true)) w:=by
 rw[Zc hx hy,decide_eq_true h]
theorem yJ (hx:ev f x=.int k a)(hy:ev f y=.int k b)(h:a=b):(execOp (ev f) ⟨d,.binOp .neq t x y t',ty,ps,af,gd⟩).run P w=.ok (.value (.bool false)) w:=by
 rw[Q7 hx hy,decide_eq_false (λe=>e h)]
end
end Go.Lg
namespace Go.Proofs.YtjcgijbhaemldaaGreatDoor
open Go.Proofs.Tryz
open Go.Lg
theorem ji {c:ZE}(h:YU c=0):XW [Xg c,jh c]=0∧Q3 (jh c)∧Q3 (ccA c)∧((cor (ccA c)).length:Int)=(ccA c).st:=by
 have E:=(JW h).2;obtain⟨C,Q,h1,h2,h3,h4⟩:=Qi7 E (unc c.ev);have h5:sync [Xg c,jh c]=some (C,Q):=h1;have H:JM [Xg c,jh c]=0:=h2;have G:ccA c=C:=by unfold ccA syA;rw[h5]
 refine⟨?_,VN E _,by rw[G];exact h3,by rw[G];exact h4⟩;unfold XW;rw[if_neg (by simpa using H),h5]
def RA (N:Nat)(H:Array Obj)(v:Value)(e:Int)(a:QM):Prop:=(e≠0→v=zA)∧(e=0→Xk N H v a)
theorem RA.shape {N:Nat}{H:Array Obj}{v:Value}{e:Int}{a:QM}(h:RA N H v e a):∃us,v=.agg us.toArray∧us.length=4∧ZF us:=by
 by_cases E:e=0
 ·exact Yo (h.2 E)
 exact⟨Jm,h.1 E,O,O,O,O,O,Z⟩
theorem XN {w:World}{t:TmV}{c:CL}(ht:qT [] w.heap t)(hc:ZH [] w.heap c)(hA:t.A=Xg c.cel)(h0:YU c.cel=0):
  QE prog 39 [.agg (X0 t).toArray,c.val] w λr w'=>Step [] w w'∧∃va,r=.tuple #[va,.int .i64 0]∧Xk w.heap.size w'.heap va (jh c.cel):=by
 have ha:=ZX (qF h0);have hj:K8 t.A [] (unc c.cel.ev)=0:=by rw[hA];exact Qda h0
 have hS:JX t.A [] (unc c.cel.ev)=jh c.cel:=by rw[hA];rfl
 refine QE.of_W func39 O ntmps39 results39 (by simp) ?_;refine Qc<|xl O<|QP (us:=X0 t) O λb2 w1 hb hu hk=>xl O<|QP (us:=c.cells) O λb3 w2 J hv hl=>xl O<|Qr (us:=Jm) O λb4 w3 T hw he=>Qe ?_;have U:=(hb.trans J).trans T;have hy:=hb.size;have hz:=J.size;have h1:=he.lt;refine Qc<|x (Qa O)<|x (Qd (hl.ext T) O O)<|xl O<|xf<|(yp (hc.ev.ext U)).mono ?_
 rintro r4 V ⟨H,vu,rfl,I⟩;rw[if_pos (show Jd c.ev=0 from ha.e0)]at I;have I:Qt 3 w3.heap.size V vu (unc c.cel.ev):=I;have h2:=H.size;have hm:(unc c.cel.ev).length≤1099511627776:=LJ (Vp _ c.cel.ev 0) hc.ev.arr.le;have hf:=U.trans H;have hD:=zq (ht.a.ext hf) (X7 [] V.heap) (Qt.ints (L:=[]) I hm (by simp));rw[hj,hS,if_pos rfl]at hD
 refine Qb<|x (Qj O O)<|x (Qj O O)<|x Qf<|Qe<|Qg<|Qc<|Qb<|x (yJ O O ha.e0)<|xe<|Yf rfl<|Qi<|Qc<|x (Qa O)<|x (Zy (us:=[t.va,.int .i64 t.A.st,t.vm,t.ve]) (hk.ext ((J.trans T).trans H)) O O O)<|Qb<|xl O<|xf<|hD.mono ?_;rintro r6 w6 ⟨hg,c0,c1,c2,c3,sa,sm,se,o,rfl,G,_,hh⟩;have E:=hh O [] (by simp)
 refine Qb<|x (Qj O O)<|x (Qj O O)<|xl O<|Qr (us:=Xl (nS) (nS) (nS) 0) O λb8 w7 hn ho hp =>
  xl rfl<|Qm (us:=[c0,c1,c2,c3,sa,.int .i64 (jh c.cel).st,sm,se,o]) hp O O O O ⟨G.1,G.2.1,G.2.2.1,G.2.2.2.1,E.al.one,O,E.mr.one,E.ed.one,G.2.2.2.2.2.2.2.1,Z⟩ λw8 hq hr =>
  Qe ?_
 have Y:Step [] w6 w8:=hn.then1 hq ho;refine Qc<|x (Qa O)<|x (Zy (us:=[sa,.int .i64 (jh c.cel).st,sm,se]) hr O O O)<|Qb<|xl O<|Qm (us:=[sa,.int .i64 (jh c.cel).st,sm,se]) (he.ext ((H.trans hg).trans Y)) O O O O ⟨E.al.one,O,E.mr.one,E.ed.one,Z⟩ λw9 hi hs=>x Qf <|
  xe ?_
 refine Qk ⟨[.agg [sa,.int .i64 (jh c.cel).st,sm,se].toArray,.int .i64 0],⟨⟨_,O,Qv O (hs.at (L:=[]) (by simp)).cells⟩,rfl,Z⟩,((hf.trans hg).trans Y).then1 hi (by omega),_,rfl,?_⟩;have hF:Xk V.heap.size w6.heap (.agg #[sa,.int .i64 (jh c.cel).st,sm,se]) (jh c.cel):=⟨sa,sm,se,O,λL hL=>hh O L hL⟩;exact(Xe (hF.ext Y) (by omega) hi).mono (by have:=U.size;omega)
theorem qY {w:World}{c:CL}(hc:ZH [] w.heap c)(hh:Kb w 4096):
  QE prog 24 [c.val] w λr w'=>Step [] w w'∧∃va,r=.tuple #[va,.int .i64 (YU c.cel)]∧RA w.heap.size w'.heap va (YU c.cel) (jh c.cel):=by
 refine QE.of_W func24 O ntmps24 results24 (by simp) ?_;refine Qc<|xl O<|QP (us:=c.cells) O λb1 w1 Y hy ha=>xl O<|Qr (us:=Jm) O λb2 w2 J hz T=>Qe ?_;have U:=Y.trans J;have h0:=Y.size;have h1:=T.lt;refine Qc<|x (Qo (ha.ext J) O O)<|xl O<|xf<|(Jp (hc.ext U) (hh.ext U)).mono ?_;rintro r3 w3 ⟨G,us,rfl,hi,hj,hk⟩
 refine Qb<|x (Qj O O)<|x (Qj O O)<|xl O<|Qr (us:=zj) O λb4 w4 hl hm hn=>xl O<|Qm (us:=us) hn O O hi O hj λw5 ho hp =>
  Qe ?_
 have E:Step [] w3 w5:=hl.then1 ho hm;have H:=(U.trans G).trans E;have h2:=G.size;have h3:=E.size;refine Qg<|Qc<|Qb<|x (Q7 O O)<|xe<|Q2 rfl (λV=>?_) (λV=>?_)
 ·refine Qc<|x (QK Z)<|Qb<|xl O<|Qm (us:=Jm) (T.ext (G.trans E)) O O O O ⟨O,O,O,O,Z⟩ λw6 hq hr=>Qe ?_;exact Qk ⟨[.agg Jm.toArray,.int .i64 (YU c.cel)],⟨⟨_,O,Qv O (hr.at (L:=[]) (by simp)).cells⟩,rfl,Z⟩,H.then1 hq (by omega),_,rfl,λ_=>rfl,λh=>absurd h V⟩
 have I:YU c.cel=0:=Ll.1 V;obtain⟨t,rfl,hs,ht⟩:=hk I;refine Qi<|Qc<|x (Qo hp O O)<|x (Qo (ha.ext ((J.trans G).trans E)) O O)<|xl O<|xf<|(XN ((ht [] (by simp)).ext E) (hc.ext H) hs.A I).mono ?_;rintro r7 w7 ⟨hb,va,rfl,he⟩;obtain⟨us,hv,hf,hu⟩:=Yo he
 refine x (Qj O O)<|x (Qj O O)<|xl O<|Qm (us:=us) (T.ext ((G.trans E).trans hb)) O (show Go.Lg.ev _ _=_ from hv) hf O hu λw8 hg hw=>Qe<|Qk ⟨[.agg us.toArray,.int .i64 0],⟨⟨_,O,Qv hf (hw.at (L:=[]) (by simp)).cells⟩,rfl,Z⟩,(H.trans hb).then1 hg (by omega),va,?_,λh=>absurd I h,λ_=>?_⟩
 ·show Value.tuple _=Value.tuple _;rw[hv,I]
 exact(Xe he (by omega) hg).mono (by have:=H.size;omega)
theorem QjJ {w:World}{va vm ve va' vm' ve':Value}{a E:QM}{b:Nat}(G:QS w.heap b 50 ([Q9 ⟨va,vm,ve,a⟩,Q9 ⟨va',vm',ve',E⟩]:List (LV)).flatten)(h:Zq [] w.heap va vm ve a)(h':Zq [] w.heap va' vm' ve' E):
  YH [] w.heap (.slice (some ⟨b,0,none⟩) 2 2) [⟨va,vm,ve,a⟩,⟨va',vm',ve',E⟩]:=
 ⟨G.arr (by simp) rfl (by omega) (Lu 2),λp hp=>by
  rcases Lc.1 hp with rfl|hp
  ·exact h
  rw[Lb.1 hp];exact h'⟩
theorem QjE {va vm ve va' vm' ve':Value}{a E:QM}(h:Q3 a)(h':Q3 E):∀p∈[(⟨va,vm,ve,a⟩:AV),⟨va',vm',ve',E⟩],Q3 p.a:=λp hp=>by
 rcases Lc.1 hp with rfl|hp
 ·exact h
 rw[Lb.1 hp];exact h'
theorem qZ {w:World}{c:CL}(hc:ZH [] w.heap c)(hf:Kb w 4096):
  QE prog 25 [c.val] w λr w'=>Step [] w w'∧∃va,r=.tuple #[va,.int .i64 (YU c.cel)]∧RA w.heap.size w'.heap va (YU c.cel) (ccA c.cel):=by
 refine QE.of_W func25 O ntmps25 results25 (by simp) ?_;refine Qc<|xl O<|QP (us:=c.cells) O λb1 w1 hg hI hh=>xl O<|Qr (us:=Jm) O λb2 w2 T hJ U=>Qe ?_;have V:=hg.trans T;have hK:=hg.size;have hL:=U.lt;refine Qc<|x (Qo (hh.ext T) O O)<|xl O<|xf<|(Jp (hc.ext V) (hf.ext V)).mono ?_;rintro r3 w3 ⟨H,us,rfl,hs,ht,hu⟩
 refine Qb<|x (Qj O O)<|x (Qj O O)<|xl O<|Qr (us:=zj) O λb4 w4 hw hy hz=>xl O<|Qm (us:=us) hz O O hs O ht λw5 h0 hi =>
  Qe ?_
 have E:Step [] w3 w5:=hw.then1 h0 hy;have Y:=(V.trans H).trans E;have hM:=H.size;have hN:=E.size;refine Qg<|Qc<|Qb<|x (Q7 O O)<|xe<|Q2 rfl (λha=>?_) (λha=>?_)
 ·refine Qc<|x (QK Z)<|Qb<|xl O<|Qm (us:=Jm) (U.ext (H.trans E)) O O O O ⟨O,O,O,O,Z⟩ λw6 h1 h2=>Qe ?_;exact Qk ⟨[.agg Jm.toArray,.int .i64 (YU c.cel)],⟨⟨_,O,Qv O (h2.at (L:=[]) (by simp)).cells⟩,rfl,Z⟩,Y.then1 h1 (by omega),_,rfl,λ_=>rfl,λh=>absurd h ha⟩
 have G:YU c.cel=0:=Ll.1 ha;obtain⟨t,rfl,hb,h3⟩:=hu G;have hj:=ji G;have h4:=(JW G).2;have hk:=(h3 [] (by simp)).ext E;refine Qi<|Qc<|x (Qo hi O O)<|x (Qo (hh.ext ((T.trans H).trans E)) O O)<|xl O<|xf<|(XN hk (hc.ext Y) hb.A G).mono ?_;rintro r7 w7 ⟨h5,_,rfl,va,vm,ve,rfl,h6⟩;have I:=h6 [] (by simp)
 refine Qb<|x (Qj O O)<|x (Qj O O)<|xl O<|Qr (us:=Jm) O λb6 w8 h7 h8 h9=>xl O<|Qm (us:=[va,.int .i64 (jh c.cel).st,vm,ve]) h9 O O O O ⟨I.al.one,O,I.mr.one,I.ed.one,Z⟩ λw9 hA hB =>
  Qe ?_
 have hl:Step [] w7 w9:=h7.then1 hA h8;have hm:=h5.trans hl;refine Qg<|Qc<|Qb<|x (yJ O O O)<|xe<|Yf rfl<|Qi ?_;have hD:=QjE (va:=t.va) (vm:=t.vm) (ve:=t.ve) (va':=va) (vm':=vm) (ve':=ve) (a:=t.A) (by rw[hb.A];exact h4) hj.2.1
 refine Qc<|x (Qa O)<|x (Zy (us:=[t.va,.int .i64 t.A.st,t.vm,t.ve]) (hi.ext hm) O O O)<|x (Qo hB O O)<|xl O<|QJ (us:=[Q9 ⟨t.va,t.vm,t.ve,t.A⟩,Q9 ⟨va,vm,ve,jh c.cel⟩]) O O (by decide) (by exact(by decide:2*4≤1000000)) ⟨O,O,O,O,Z⟩ λhO hP hn hQ hE=>?_;have J:=hm.trans hn;have he:=Y.trans J
 have hC:=K3 (QjJ hE (hk.a.ext J) (I.ext (hl.trans hn))) hD (hf.ext he);simp only[List.map_cons,List.map_nil,hb.A]at hC;rw[hj.1]at hC;refine xl rfl<|xf<|hC.mono ?_;rintro hR hS ⟨ho,vc,rfl,_,hF⟩;have hp:=hF O;obtain⟨us,hv,hq,hG⟩:=Yo hp;have hT:=J.size
 refine x (Qj O O)<|x (Qj O O)<|xl O<|Qm (us:=us) (U.ext ((H.trans E).trans (J.trans ho))) O (show Go.Lg.ev _ _=_ from hv) hq O hG λhU hr hH=>Qe<|Qk ⟨[.agg us.toArray,.int .i64 0],⟨⟨_,O,Qv hq (hH.at (L:=[]) (by simp)).cells⟩,rfl,Z⟩,(he.trans ho).then1 hr (by omega),vc,?_,λh=>absurd G h,λ_=>?_⟩
 ·show Value.tuple _=Value.tuple _;rw[hv,G]
 exact(Xe hp (by omega) hr).mono (by have:=he.size;omega)
theorem QgC (c:ZE)(fg:Bool):cmE c fg=if YU c≠0 then YU c else if suE c≠0 then suE c else lgE (own c fg) (Va c) 1:=by
 unfold cmE;by_cases h:YU c≠0
 ·rw[if_pos h,if_pos h]
 rw[if_neg h,if_neg h];have E:=Ll.1 h;have G:cdE c=0:=by unfold cdE;rw[if_neg h];exact Qda E
 have H:ccE c=0:=by unfold ccE;rw[if_neg (not_not_intro G)];exact(ji E).1
 rw[if_neg (show ¬(fg=true∧ccE c≠0) from λe=>e.2 H)]
set_option maxRecDepth 4096 in
set_option maxHeartbeats 8000000 in
theorem Uk (fg:Bool){L:LN}{w:World}{c:CL}(T:ZH L w.heap c)(h2:Kb w 4096):
  QE prog 11 [c.val,.bool fg] w λr w'=>Step [] w w'∧∃v e,r=.tuple #[v,.bool e,.int .i64 (cmE c.cel fg)]∧(cmE c.cel fg≠0→v=Zd∧e=false)∧(cmE c.cel fg=0→e=(cmW (own c.cel fg) (Va c.cel)).isNone∧(cmW (own c.cel fg) (Va c.cel)=none→v=Zd)∧∀u,cmW (own c.cel fg) (Va c.cel)=some u→Qt 3 w.heap.size w' v u∧u.length≤17000000):=by
 have h:=T.up (L':=[]) (by simp);have hp:=QgC c.cel fg;refine Zb (cmE c.cel fg) λE hE=>?_;rw[hE]at hp ⊢;refine QE.of_W func11 O ntmps11 results11 (by simp) ?_;refine Qc<|xl O<|QP (us:=c.cells) O λb2 w1 h3 m0 h4=>x Qf<|x Qf<|Qe<|Qc<|x (Qo h4 O O)<|xl O<|xf<|(Jp (h.ext h3) (h2.ext h3)).mono ?_;rintro r2 w2 ⟨gy,us,rfl,gz,g0,g1⟩
 refine Qb<|x (Qj O O)<|x (Qj O O)<|xl O<|Qr (us:=zj) O λb7 w3 g2 g3 g4=>xl O<|Qm (us:=us) g4 O O gz O g0 λw4 g5 h5 =>
  Qe ?_
 have hV:Step [] w2 w4:=g2.then1 g5 g3;have h6:=gy.trans hV;have hi:=h3.trans h6;refine Qg<|Qc<|Qb<|x (Q7 O O)<|xe<|Q2 rfl (λV=>?_) (λV=>?_)
 ·rw[if_pos V]at hp;subst hp;refine Qc<|Qb<|x Qf<|x Qf<|Qe ?_;exact Qk ⟨[Zd,.bool false,.int .i64 (YU c.cel)],⟨O,O,O,Z⟩,hi,Zd,false,O,λ_=>⟨O,O⟩,λT=>absurd T V⟩
 rw[if_neg V]at hp;have he:=Ll.1 V;obtain⟨t,ht,hj,hT⟩:=g1 he;subst ht;have hn:qT [] w4.heap t:=(hT [] (by simp)).ext hV;obtain⟨_,hW⟩:=JW he;have h7:=ji he;have h8:Q3 (own c.cel fg):=by
  unfold own;split
  ·exact h7.2.2.1
  exact hW
 refine Qi<|Qc<|x (Qo (h4.ext h6) O O)<|xl O<|xf<|(KG (h.ext hi) (h2.ext hi)).mono ?_;rintro r5 w5 ⟨g6,sa,sm,se,rfl,h9,_,g7⟩;refine Zb (if YX c.cel=0 then(Va c.cel).st else 0) λM hM=>?_
 rw[hM];refine Qb<|x (Qj O O)<|x (Qj O O)<|xl O<|Qr (us:=[nS,.int .i64 0,nS,nS]) O λb8 w6 g8 g9 ka=>xl O<|Qm (us:=[sa,.int .i64 M,sm,se]) ka O O O O ⟨h9.1,O,h9.2.1,h9.2.2.1,Z⟩ λw7 kb hX =>
  Qe ?_
 have hY:Step [] w5 w7:=g8.then1 kb g9;have U:=g6.trans hY;have hA:=hi.trans U;refine Qg<|Qc<|Qb<|x (Q7 O O)<|xe<|Q2 rfl (λY=>?_) (λY=>?_)
 ·rw[if_pos Y]at hp;subst hp;refine Qc<|Qb<|x Qf<|x Qf<|Qe ?_;exact Qk ⟨[Zd,.bool false,.int .i64 (suE c.cel)],⟨O,O,O,Z⟩,hA,Zd,false,O,λ_=>⟨O,O⟩,λT=>absurd T Y⟩
 rw[if_neg Y]at hp;have hB:=Ll.1 Y;have hD:=jD hB;have hZ:E=0:=hp.trans (Qad h8 hD (.inl O));have kc:M=(Va c.cel).st:=by rw[←hM,if_pos (show YX c.cel=0 from hB)]
 have ga:Zq [] w7.heap sa sm se (Va c.cel):=(g7 hB [] (by simp)).ext hY;refine Qi<|Qc<|x (Qa O)<|x (Zy (us:=[t.va,.int .i64 t.A.st,t.vm,t.ve]) (h5.ext U) O O O)<|xl O<|Qr (us:=[nS,.int .i64 0,nS,nS]) O λI w8 ke kf kg=>xl O<|Qm (us:=[t.va,.int .i64 t.A.st,t.vm,t.ve]) kg O O O O ⟨hn.a.al.one,O,hn.a.mr.one,hn.a.ed.one,Z⟩ λw9 kh hF =>
  xe ?_
 have J:Step [] w7 w9:=ke.then1 kh kf;have hG:=hA.trans J;have ki:=hX.ext J;have hH:qT [] w9.heap t:=(hn.ext U).ext J;have m1:=ga.ext J;have m2:=hF.lt;have kj:b8∉[I]:=by have:=hX.lt;simp only[List.mem_singleton];omega
 have kk:Zq [I] w9.heap sa sm se (Va c.cel):=(ga.up (L':=[I]) (λb hb=>.inr (by simp only[List.mem_singleton]at hb;omega))).ext J;refine QZ (α:=Value×Value×Value) [(4,6),(10,11),(35,55)] (λz=>[(4,Zd)]) (λz w'=>Step [I] w9 w'∧QS w'.heap I 50 [z.1,.int .i64 (own c.cel fg).st,z.2.1,z.2.2]∧Zq [] w'.heap z.1 z.2.1 z.2.2 (own c.cel fg)) (by rfl) ?_ ?_
 ·refine Qc<|Qb<|xe<|QX O (λhI=>?_) (λhI=>?_)
  rotate_left
  ·refine Qi ?_;have e:own c.cel fg=t.A:=by unfold own;rw[hI,hj.A];rfl
   rw[e];exact⟨(t.va,t.vm,t.ve),La,Step.refl _ _,hF,hH.a⟩
  have e:own c.cel fg=ccA c.cel:=by unfold own;rw[if_pos hI]
  rw[e];refine Qc<|x (Qo (h5.ext (U.trans J)) O O)<|x (Qo (h4.ext ((h6.trans U).trans J)) O O)<|xl O<|xf<|(XN hH (h.ext hG) hj.A he).mono ?_;rintro m3 kn ⟨ko,_,rfl,va,vm,ve,rfl,kp⟩;have hr:=kp [] (by simp)
  refine Qb<|x (Qj O O)<|x (Qj O O)<|xl O<|Qr (us:=Jm) O λb10 m4 kq kr kt=>xl O<|Qm (us:=[va,.int .i64 (jh c.cel).st,vm,ve]) kt O O O O ⟨hr.al.one,O,hr.mr.one,hr.ed.one,Z⟩ λku kv kw =>
   Qe ?_
  have gb:Step [] kn ku:=kq.then1 kv kr;have gc:=ko.trans gb;refine Qg<|Qc<|Qb<|x (yJ O O O)<|xe<|Yf O<|Qi ?_;have kx:=QjE (va:=t.va) (vm:=t.vm) (ve:=t.ve) (va':=va) (vm':=vm) (ve':=ve) (a:=t.A) (by rw[hj.A];exact hW) h7.2.1
  refine Qc<|x (Qa O)<|x (Zy (us:=[t.va,.int .i64 t.A.st,t.vm,t.ve]) (h5.ext ((U.trans J).trans gc)) O O O)<|x (Qo kw O O)<|xl O<|QJ (us:=[Q9 ⟨t.va,t.vm,t.ve,t.A⟩,Q9 ⟨va,vm,ve,jh c.cel⟩]) O O (by decide) (by exact(by decide:2*4≤1000000)) ⟨O,O,O,O,Z⟩ λm5 m6 ge m7 kz=>?_;have ha:=gc.trans ge;have k0:=hG.trans ha
  have hC:=K3 (QjJ kz (hH.a.ext ha) (hr.ext (gb.trans ge))) kx (h2.ext k0);simp only[List.map_cons,List.map_nil,hj.A]at hC;rw[h7.1]at hC;refine xl O<|xf<|hC.mono ?_;rintro m8 k4 ⟨gg,vc,rfl,_,k5⟩;obtain⟨ca,cm,ce,rfl,k6⟩:=k5 O;have m9:=ha.size
  have hs:Zq [I] k4.heap ca cm ce (ccA c.cel):=k6 [I] (λb hb=>by simp only[List.mem_singleton]at hb;omega);refine Qb<|x (Qj O O)<|x (Qj O O)<|xl O<|Qm (us:=[ca,.int .i64 (ccA c.cel).st,cm,ce]) (hF.ext (ha.trans gg)) O O O O ⟨hs.al.one,O,hs.mr.one,hs.ed.one,Z⟩ λpa gh k7=>Qe<|Qc<|Qb<|x (yJ O O O)<|xe<|Yf O<|Qi ?_
  exact⟨(ca,cm,ce),La,((ha.trans gg).any (L:=[I])).trans' gh,k7,(hs.st gh).up (λb hb=>(by cases hb))⟩
 rintro⟨oa,om,oe⟩ g gi ⟨hJ,gj,gk⟩;simp only[]at gj gk;have k8:Step [] w gi:=hG.then1 hJ (by have:=hA.size;omega);have k9:=ki.step hJ kj;have ma:Zq [] gi.heap sa sm se (Va c.cel):=(kk.st hJ).up (λb hb=>(by cases hb))
 refine Qc<|Qe<|Qg<|Qc<|xl O<|QJ (us:=[[.int .i64 1],[.int .i64 2]]) O O (by decide) (by simp) ⟨rfl,rfl,rfl,rfl,Z⟩ λmc gl gm pc mf=>?_;have gn:QI [] gl.heap (.slice (some ⟨mc,0,none⟩) 2 2) [1,2]:=mf.arr (by simp) (n:=2) (cap:=2) (sz:=1) rfl (by omega) (Lu _);refine x (Qu gn O)<|Qb<|xe ?_;have mg:=k8.trans gm
 refine Qh<|Qz (α:=Nat×Value×Option (LI)) [(4,6),(13,16),(58,84)] (λz=>[(4,z.2.1),(5,.bool z.2.2.isNone),(58,.int .i64 z.1)]) (λz w'=>z.1≤2∧Step [] gl w'∧z.2.2=cmK (own c.cel fg) (Va c.cel) z.1∧(z.2.2=none→z.2.1=Zd)∧∀u,z.2.2=some u→Qt 3 w.heap.size w' z.2.1 u∧u.length≤17000000) (λz=>2 - z.1) (by rfl) (0,Zd,none) ⟨O,O,O,Z⟩
  ⟨Lk _,Step.refl _ _,O,λ_=>O,λu h=>by cases h⟩ ?_
 rintro⟨k,v,o⟩ g hK ⟨hk,hc,ho,hf,hv⟩;simp only[]at hk ho hf hv;have hL:=mg.trans hc;have hw:=gm.trans hc;refine Qc<|x (QA O O)<|xe<|Qg<|QD O (λhN=>?_) (λhN=>?_)
 ·refine Qy ?_;have mh:k=2:=by have mj:¬(k:Int)<(2:Nat):=hN;omega
  rw[mh,QmU]at ho;refine Qc<|Qb<|Qb<|x Qf<|x Qf<|Qe ?_;exact Qk ⟨[v,.bool o.isNone,.int .i64 0],⟨O,O,O,Z⟩,hL,v,o.isNone,by rw[hZ];rfl,λT=>absurd hZ T,λ_=>by rw[←ho];exact⟨O,hf,hv⟩⟩
 have H:k<[(1:Int),2].length:=by have mj:(k:Int)<(2:Nat):=hN;simp;omega
 have go:=k12 H;have hg:cmK (own c.cel fg) (Va c.cel) (k+1)=cm1 (cmK (own c.cel fg) (Va c.cel) k) (lgq (own c.cel fg) (Va c.cel) ([(1:Int),2][k]'H)):=by
  unfold cmK;rw[Le H,Mj];rfl
 refine Qi<|Qg<|Qh<|Qc<|xii (i:=k) (gn.ext hc) O O H λpd gq=>?_;refine Zb ([(1:Int),2][k]'H) λkd mo=>?_;rw[mo]at gq go hg;refine x (Qw gq O)<|Qe ?_;have mq:=Qbu (gk.ext hw) (ma.ext hw) kd
 have hEq':QE prog 41 [.agg #[oa,.int .i64 (own c.cel fg).st,om,oe],.agg #[sa,.int .i64 M,sm,se],.int .i64 kd] hK λr w'=>Step [] hK w'∧∃v e,r=.tuple #[v,.bool e,.int .i64 0]∧(match lgq (own c.cel fg) (Va c.cel) kd with|none=>v=Zd∧e=true|some u=>e=false∧Qt 3 hK.heap.size w' v u):=by
  rw[kc];refine mq.mono ?_;rintro r w' ⟨a1,v,e,a2,a3⟩;have hz:=Qad h8 hD go;rw[hz]at a2;exact⟨a1,v,e,a2,a3 hz⟩
 refine Qc<|x (Qo (gj.ext hw) O O)<|x (Qo (k9.ext hw) O O)<|Qb<|xl O<|xf<|hEq'.mono ?_;rintro pf hh ⟨hO,v',e',rfl,hm⟩;have pg:=hL.trans hO;have ms:=hL.size;refine Qb<|x (Qj O O)<|x (Qj O O)<|x (Qj O O)<|x Qf<|x Qf<|Qe<|Qg<|Qc<|Qb<|x (Q7 O O)<|xe<|Q2 rfl (λgr=>?_) (λgr=>?_)
 ·exact absurd O gr
 refine Qi<|Zb (lgq (own c.cel fg) (Va c.cel) kd) λq hq=>?_;rw[hq]at hm hg;have gs:∀u,q=some u→u.length≤17000000:=λu hu=>Qih h8 hD (hq.trans hu);have gt:e'=q.isNone:=by
  cases q with
  | none=>exact hm.2
  | some u=>exact hm.1
 have gu:∀u,q=some u→Qt 3 w.heap.size hh v' u:=λu hu=>by
  subst hu;exact Za hm.2 ms
 have hy:∀u,o=some u→Qt 3 w.heap.size hh v u∧u.length≤17000000:=λu hu=>⟨Qs (hv u hu).1 hO,(hv u hu).2⟩;rw[←ho]at hg;refine QZ (α:=Bool) [(73,82)] (λz=>[(82,.bool z)]) (λz w'=>Step [] hh w'∧(z=true→∃u,q=some u∧cm1 o q=some u)∧(z=false→cm1 o q=o)) (by rfl) ?_ ?_
 ·refine Qx<|Qb<|xB (Zp O) (λhP=>?_) (λhP=>?_)
  ·have mt:q.isNone=false:=by rw[←gt];simpa using hP
   obtain⟨u,hu⟩:∃u,q=some u:=by cases q with|none=>cases mt|some u=>exact⟨u,rfl⟩
   refine Qb<|xB Qn (λhQ=>?_) (λhQ=>?_)
   ·have hf:o=none:=by cases o with|none=>rfl|some u=>cases hQ
    refine Qb<|xs O<|xs O<|xs O<|x (Qp O)<|x (Qp O)<|xe ?_;exact⟨true,La,Step.refl _ _,λ_=>⟨u,hu,by rw[hf,hu];rfl⟩,(λh=>by cases h)⟩
   obtain⟨G,h1⟩:∃G,o=some G:=by cases o with|none=>cases hQ|some u=>exact⟨u,rfl⟩
   have mu:QI [] hh.heap v' u:=Qt.ints (gu u hu) (by have:=gs u hu;omega) (by simp);have mv:QI [] hh.heap v G:=Qt.ints (hy G h1).1 (by have:=(hy G h1).2;omega) (by simp);refine Qb<|Qb<|Qb<|xl O<|xf<|(QfD mu mv).mono ?_;rintro ph pj ⟨rfl,mw⟩;refine x (Qp O)<|x (Qp O)<|xe<|⟨less u G,La,mw,λhl=>⟨u,hu,?_⟩,λhl=>?_⟩
   ·rw[hu,h1];show(if less u G=true then some u else some G)=_;rw[if_pos hl]
   rw[hu,h1];show(if less u G=true then some u else some G)=_;rw[if_neg (by rw[hl];simp)]
  have mx:q=none:=by
   have gv:e'=true:=by simpa using hP
   rw[gt]at gv;cases q with|none=>rfl|some u=>cases gv
  refine Qb<|xs O<|xs O<|xs O<|xs O<|xs O<|xs O<|x (Qp O)<|xe ?_;exact⟨false,La,Step.refl _ _,(λh=>by cases h),λ_=>by rw[mx];rfl⟩
 rintro zb g pn ⟨hR,my,mz⟩;have gx:=hO.trans hR;refine QX rfl (λhS=>?_) (λhS=>?_)
 ·obtain⟨u,hu,hU⟩:=my hS;refine Qx<|Qb<|x Qf<|Qe<|Qx<|QN O O<|Qb<|xe ?_;exact⟨(k+1,v',some u),by simp only[];simp at H;omega,⟨O,O,O,Z⟩,by simp at H;omega,hc.trans gx,by simp only[];rw[hg,hU],(λh=>by cases h),λu' h'=>by
   have:u=u':=Option.some.inj h';subst this;exact⟨Qs (gu u hu) hR,gs u hu⟩⟩
 have hU:=mz hS;refine Qi<|Qx<|QN O O<|Qb<|xe ?_;exact⟨(k+1,v,o),by simp only[];simp at H;omega,⟨O,O,O,Z⟩,by simp at H;omega,hc.trans gx,by simp only[];rw[hg,hU],hf,λu' h'=>⟨Qs (hy u' h').1 hR,(hy u' h').2⟩⟩
theorem Qb6 {L:LN}{w:World}{c:CL}(E:ZH L w.heap c)(G:Kb w 4096):
  QE prog 11 [c.val,.bool false] w λr w'=>Step [] w w'∧∃v e,r=.tuple #[v,.bool e,.int .i64 (cmE c.cel false)]∧(cmE c.cel false=0→e=(cmW (Xg c.cel) (Va c.cel)).isNone):=
 (Uk false E G).mono λ_ _ ⟨h1,v,e,h2,_,h3⟩=>⟨h1,v,e,h2,λh=>(h3 h).1⟩
abbrev rpW (ps:Bool)(e f g:Int)(nc:Bool)(vw vs:Value)(st:Int):LV:=[.bool ps,.int .i64 e,.int .i64 f,.int .i64 g,.bool nc,vw,vs,.int .i64 st]
theorem Qdx {L1 L2 L3 L4:LN}{w:World}{ps nc:Bool}{e f g st:Int}{vw vs J T:Value}{wd sts:LI}(h1:QI L1 w.heap vw wd)(h2:QI L2 w.heap vs sts)(h3:QI L3 w.heap J wd)(h4:QI L4 w.heap T sts):
  QE prog 22 [.agg (rpW ps e f g nc vw vs st).toArray,.agg (rpW ps e f g nc J T st).toArray] w λr w'=>r=.bool true∧Step [] w w':=by
 refine QE.of_W func22 O ntmps22 results22 (by simp) ?_;refine Qc<|xl O<|QP (us:=rpW ps e f g nc vw vs st) O λb2 w1 hg hj hh=>xl O<|QP (us:=rpW ps e f g nc J T st) O λb3 w2 ha hk E=>Qe ?_;have I:=hg.trans ha;have G:=hh.ext ha;refine QZ (α:=Unit) [(4,58)] (λz=>[(4,.bool true)]) (λz w'=>Step [] w2 w') (by rfl) ?_ ?_
 ·refine Qx<|x (Qa O)<|x (Qd G O O)<|x (Qa O)<|x (Qd E O O)<|xB (UV O O) (λh9=>?_) (λh9=>absurd h9 (by simp));refine Qb<|x (Qa O)<|x (Qd G O O)<|x (Qa O)<|x (Qd E O O)<|xb (Zc O O) (λhb=>?_) (λhb=>absurd O hb);refine x (Qp O)<|Qb<|x (Qa O)<|x (Qd G O O)<|x (Qa O)<|x (Qd E O O)<|xb (Zc O O) (λhc=>?_) (λhc=>absurd O hc)
  refine x (Qp O)<|Qb<|x (Qa O)<|x (Qd G O O)<|x (Qa O)<|x (Qd E O O)<|xb (Zc O O) (λhe=>?_) (λhe=>absurd O he);refine x (Qp O)<|Qb<|x (Qa O)<|x (Qd G O O)<|x (Qa O)<|x (Qd E O O)<|xB (UV O O) (λhf=>?_) (λhf=>absurd hf (by simp));refine x (Qp O)<|Qb<|x (Qa O)<|x (Qd G O O)<|x (Qa O)<|x (Qd E O O)<|xl O<|xf<|(Ki (h1.ext I) (h3.ext I)).mono ?_;rintro r3 w3 ⟨U,H⟩
  replace U:r3=.bool true:=U.trans (congrArg Value.bool (decide_eq_true O));subst U;refine x (Qp O)<|Qb<|x (Qa O)<|x (Qd (G.ext H) O O)<|x (Qa O)<|x (Qd (E.ext H) O O)<|xl O<|xf<|(Ki ((h2.ext I).ext H) ((h4.ext I).ext H)).mono ?_;rintro r4 w4 ⟨V,Y⟩
  replace V:r4=.bool true:=V.trans (congrArg Value.bool (decide_eq_true O));subst V;refine x (Qp O)<|Qb<|x (Qa O)<|x (Qd ((G.ext H).ext Y) O O)<|x (Qa O)<|x (Qd ((E.ext H).ext Y) O O)<|x (Zc O O) <|
   x (Qp rfl)<|Qe ?_
  exact⟨(),⟨congrArg Value.bool (decide_eq_true O),Z⟩,H.trans Y⟩
 rintro⟨⟩ g5 w5 hi;exact Qk ⟨[.bool true],La,O,I.trans hi⟩
theorem QgT {H:Array Obj}{b t:Nat}{us E:LV}{v:Value}(G:QS H b t us)(h:v=.agg us.toArray)(h':v=.agg E.toArray):QS H b t E:=by
 have h1:Value.agg us.toArray=.agg E.toArray:=h.symm.trans h';have h2:us=E:=by
  have h3:=Value.agg.inj h1;simpa using congrArg Array.toList h3
 rw[←h2];exact G
end Go.Proofs.YtjcgijbhaemldaaGreatDoor
namespace Go.Lg
open Go.RowKit
def Vh (all:Array Oper)(dp:Nat→LN)(opn:LN)(rest:List (Nat×Bool)):Nat→Array Bool→Bool
 | 0,ls=>YC all rest ls && opn.all λi=>ls.getD i false
 | k+1,ls=>!(Region.ready .any all ls).isEmpty && (Region.ready .any all ls).all λi=>opn.contains i && (dp i).all (λj=>opn.contains j && ls.getD j false) && Vh all dp opn rest k (ls.setIfInBounds i true)
def QjO (all:List Oper)(dp:Nat→LN)(pre:List (Nat×Bool))(opn:LN)(rest:List (Nat×Bool))(D:List (Nat×Nat)):Bool :=
 Region.noSelect all.toArray && (pre.length+(opn.length+rest.length) == all.length) && Y4 all.toArray pre (Array.replicate all.length false) && UY all D opn && Vh all.toArray dp opn rest opn.length (Zs pre (Array.replicate all.length false))
  && opn.all λi=>!((Zs pre (Array.replicate all.length false)).getD i false)
section
variable {P:Program}{n:Nat}{f:Fr}{w:World}{all:List Oper}{C:World→Prop}{K:Fr→World→Prop}
theorem QaQ {α:Type}{D:List (Nat×Nat)}{dp:Nat→LN}{opn:LN}{rest:List (Nat×Bool)}{Φ:Nat→Value→World→Prop}{S:α→List (Nat×Value)}{I:α→World→Prop}{f1:Fr}(hs:Region.noSelect all.toArray=true)(V:UY all D opn=true)
  (hl:∀w w',C w→Step [] w w'→C w') (stab:∀i v w w',Φ i v w→Step [] w w'→Φ i v w')
  (hm:∀(g:Fr) w,Fa (λi=>Φ i (sl (QO all i).dst g) w) opn→(∀i∈opn,∀j∈opn,i≠j→∀b∈ow (sl (QO all i).dst g),b∉ow (sl (QO all j).dst g))→∃z,YT g (S z)∧I z w)
  (spec:Fa (λi=>∀g w,C w→Fa (λj=>Φ j (sl (QO all j).dst (mix D f1 g)) w) (dp i)→XO P (QO all i) (mix D f1 g) w (λf' w'=>Step [] w w'∧Φ i (sl (QO all i).dst f') w'∧∀b∈ow (sl (QO all i).dst f'),w.heap.size≤b∧b<w'.heap.size)) opn)
  (fin:∀z g w,C w→I z w→XP P all C K rest (VM (S z) (mix D f1 g)) w):
  ∀(k:Nat) (ls:Array Bool) (f:Fr) (w:World),ls.size=all.length→C w→Vh all.toArray dp opn rest k ls=true→(∀t,YY D t=false→f t=f1 t)→(∀i∈opn,ls.getD i false=true→Φ i (sl (QO all i).dst f) w) →
   (∀i∈opn,ls.getD i false=true→(∀b∈ow (sl (QO all i).dst f),b<w.heap.size)∧∀j∈opn,ls.getD j false=true→i≠j→∀b∈ow (sl (QO all i).dst f),b∉ow (sl (QO all j).dst f))→XA P all C K (k+rest.length) ls f w
 | 0,ls,f,w,he,hC,hp,Y,ha,G=>by
  simp only[Vh,Bool.and_eq_true,List.all_eq_true]at hp;obtain⟨z,h1,h2⟩:=hm f w (Fa.of λi hi=>ha i hi (hp.2 i hi)) (λi hi j hj E=>(G i hi (hp.2 i hi)).2 j hj (hp.2 j hj) E);have h3:=fin z f w hC h2;rw[Xi Y,Yp h1]at h3;rw[LQ];exact Zx hs rest ls f w he (.inl hC) hp.1 h3
 | k+1,ls,f,w,he,hC,hp,Y,ha,G=>by
  simp only[Vh,Bool.and_eq_true,List.all_eq_true,List.contains_iff_mem]at hp;obtain⟨hc,hp⟩:=hp;rw[Nat.add_right_comm];refine YS (λh0=>(by rw[h0]at hc;cases hc)) ?_;intro i hi o ho;obtain⟨⟨hh,hn⟩,hw⟩:=hp i hi;obtain⟨hg,d,hd,hy⟩:=(YD V).1 i hh;have h4:=(YD V).2;have hsp:=Fa.all spec i hh f w hC;rw[Xi Y]at hsp;have hsp:=hsp (Fa.of λj hj=>ha j (hn j hj).1 (hn j hj).2)
  have H:=Zg ho;rw[H]at hg hd hsp;rw[Js hg,cond_true];refine hsp.mono λv w' hx=>?_;have hq:=hl w w' hC hx.1;have hz:=hx.1.size;have old:∀j∈opn,j≠i→sl (QO all j).dst (QY f o.dst v)=sl (QO all j).dst f:=λj hj E=>by
   obtain⟨_,dj,hr,_⟩:=(YD V).1 j hj;have hc:o.dst≠some dj:=λe=>h4 j hj i hh E (by rw[hr,H];exact e.symm);rw[hr];exact Z3 hc v
  have lsj:∀j,j≠i→(ls.setIfInBounds i true).getD j false=true→ls.getD j false=true:=λj E h=>by rw[getD_set_ne false (Ne.symm E)]at h;exact h
  refine⟨.inr (.inr hq),QaQ hs V hl stab hm spec fin k _ _ _ (by simpa using he) hq hw (λt ht=>?_) (λj hj U=>?_) (λj hj U=>⟨λb hb=>?_,λk hk hu hv b hb J=>?_⟩)⟩
  ·rw[Z3 (by rw[hd];intro e;cases e;rw[hy]at ht;cases ht)];exact Y t ht
  ·by_cases E:j=i
   ·subst E;have h2:=hx.2.1;rw[H];exact h2
   rw[old j hj E];exact stab _ _ _ _ (ha j hj (lsj j E U)) hx.1
  ·by_cases E:j=i
   ·subst E;rw[H]at hb;exact(hx.2.2 b hb).2
   rw[old j hj E]at hb;have:=(G j hj (lsj j E U)).1 b hb;omega
  by_cases E:j=i
  ·subst E;have T:k≠j:=Ne.symm hv;rw[old k hk T]at J;rw[H]at hb;have h1:=(G k hk (lsj k T hu)).1 b J;have h2:=(hx.2.2 b hb).1;omega
  rw[old j hj E]at hb;have h1:=(G j hj (lsj j E U)).1 b hb;by_cases T:k=i
  ·subst T;rw[H]at J;have h2:=(hx.2.2 b J).1;omega
  rw[old k hk T]at J;exact(G j hj (lsj j E U)).2 k hk (lsj k T hu) hv b hb J
theorem QgZ {α:Type}{Q:Exit→Fr→World→Prop}{id:Nat}(C:World→Prop)(pre:List (Nat×Bool))(dp:Nat→LN)(opn:LN)(rest:List (Nat×Bool))(D:List (Nat×Nat))(Φ:Nat→Value→World→Prop)(S:α→List (Nat×Value))(I:α→World→Prop)
  (hm:P.follows .mixedOrders=true) (J:Xa n all=true) (hp:QjO all dp pre opn rest D=true) (hC:C { w with drawn:=w.drawn+1 }) (T:∀w w',C w→Step [] w w'→C w') (stab:∀i v w w',Φ i v w→Step [] w w'→Φ i v w')
  (U:∀(g:Fr) w,Fa (λi=>Φ i (sl (QO all i).dst g) w) opn→(∀i∈opn,∀j∈opn,i≠j→∀b∈ow (sl (QO all i).dst g),b∉ow (sl (QO all j).dst g))→∃z,YT g (S z)∧I z w)
  (h:XP P all C (λf1 _=>Fa (λi=>∀g w,C w→Fa (λj=>Φ j (sl (QO all j).dst (mix D f1 g)) w) (dp i)→XO P (QO all i) (mix D f1 g) w (λE w'=>Step [] w w'∧Φ i (sl (QO all i).dst E) w'∧∀b∈ow (sl (QO all i).dst E),w.heap.size≤b∧b<w'.heap.size)) opn ∧
   ∀z g w,C w→I z w→XP P all C (λf w=>Q .normal f w) rest (VM (S z) (mix D f1 g)) w) pre f { w with drawn:=w.drawn+1 }):W P n (.region id all.toArray true) Q f w:=by
 simp only[QjO,Bool.and_eq_true,beq_iff_eq,List.all_eq_true,Bool.not_eq_true']at hp;obtain⟨⟨⟨⟨⟨hs,hl⟩,hq⟩,V⟩,Y⟩,G⟩:=hp;refine Y2 C hm J ?_;rw[←hl];have ha:(Array.replicate all.length false).size=all.length:=by simp
 have h1:=ZN (K:=λf w=>Q .normal f w) (m:=opn.length+rest.length) hs pre (Array.replicate all.length false) f _ hC hq (λf1 H=>QaQ (P:=P) (C:=C) hs V T stab U H.1 H.2 opn.length (Zs pre (Array.replicate all.length false)) f1 _ (by rw[ZM];exact ha) hC Y (λ_ _=>O) (λi hi ht=>by rw[G i hi]at ht;cases ht) (λi hi ht=>by rw[G i hi]at ht;cases ht)) h;rw[hl]at h1 ⊢;exact h1
end
end Go.Lg
namespace Go.Proofs.YtjcgijbhaemldaaGreatDoor
open Go.Proofs.Tryz
open Go.Lg
abbrev jc (s:Int):QM:=⟨[s,s+1],2,[0],[(0,s,1),(1,s+1,0)]⟩
theorem QcY {w:World}{nm:ByteArray}{s:Int}(hs:0≤s∧s<100):
  QE prog 69 [.string nm,.int .i64 s] w λr w'=>Step [] w w'∧∃va vm ve,r=.agg #[.string nm,va,.int .i64 2,vm,ve]∧ZF [va,vm,ve]∧∀L:LN,(∀b∈L,b<w.heap.size)→Zq L w'.heap va vm ve (jc s):=by
 refine QE.of_W func69 O ntmps69 results69 (by simp) ?_;refine Qc<|xl O<|Qr (us:=[.string .empty,nS,.int .i64 0,nS,nS]) O λb4 w1 U hh V=>xe ?_;refine Qc<|Qb<|Qb<|Qb<|QN O O<|xl O<|QJ (us:=[[.int .i64 s],[.int .i64 (s+1)]]) O O (by decide) (by simp) ⟨rfl,rfl,rfl,rfl,Z⟩ λG w2 J hi Y =>
  xl rfl<|QJ (us:=[[.int .i64 0]]) O O (by decide) (by simp) ⟨rfl,rfl,Z⟩ λb10 w3 H hj ha=>Qb<|x (QK ⟨rfl,rfl,rfl,Z⟩) <|
  Qb<|QN rfl O<|x (QK ⟨O,O,O,Z⟩)<|xl O<|QJ (us:=[QB (0,s,1),QB (1,s+1,0)]) O O (by decide) (show 2*3≤1000000 by omega) ⟨O,O,O,O,Z⟩ λb16 w4 E hk hc =>
  x (QK ⟨rfl,O,O,O,Z⟩)<|x (Zz [(0,[.string nm]),(1,[.slice (some ⟨G,0,none⟩) 2 2,.int .i64 2,.slice (some ⟨b10,0,none⟩) 1 1,.slice (some ⟨b16,0,none⟩) 2 2])] ⟨O,O,O,O,Z⟩)<|xl O<|Qm (us:=[.string nm,.slice (some ⟨G,0,none⟩) 2 2,.int .i64 2,.slice (some ⟨b10,0,none⟩) 1 1,.slice (some ⟨b16,0,none⟩) 2 2]) (((V.ext J).ext H).ext E) O O O O ⟨O,O,O,O,O,Z⟩ λT I he =>
  xe ?_
 have hl:=U.size;have hn:=J.size;have ho:=H.size;have hp:=E.size;have hq:=V.lt;have hr:=Y.lt;have ht:=ha.lt
 refine Qk ⟨[.agg [.string nm,.slice (some ⟨G,0,none⟩) 2 2,.int .i64 2,.slice (some ⟨b10,0,none⟩) 1 1,.slice (some ⟨b16,0,none⟩) 2 2].toArray],⟨⟨_,O,Qv O (he.at (L:=[]) (by simp)).cells⟩,Z⟩,(((U.trans J).trans H).trans E).then1 I (by omega),_,_,_,rfl,⟨rfl,rfl,rfl,Z⟩,λL hL=>?_⟩
 have k9:QS T.heap G 3 [.int .i64 s,.int .i64 (s+1)]:=(((Y.ext H).ext E)).step I (by simp only[List.mem_singleton];omega);have hf:QS T.heap b10 3 [.int .i64 0]:=((ha.ext E)).step I (by simp only[List.mem_singleton];omega)
 have hg:QS T.heap b16 129 [.int .i64 0,.int .i64 s,.int .i64 1,.int .i64 1,.int .i64 (s+1),.int .i64 0]:=hc.step I (by simp only[List.mem_singleton];omega);have nL:∀{b:Nat},w.heap.size≤b→b∉L:=λhb hm=>by have:=hL _ hm;omega
 exact⟨k9.arr (nL (by omega)) (n:=2) (cap:=2) (sz:=1) O (by omega) (Lu _),hf.arr (nL (by omega)) (n:=1) (cap:=1) (sz:=1) O (by omega) (Lu _),hg.arr (nL (by omega)) (n:=2) (cap:=2) (sz:=3) O (by omega) (Lu _)⟩
abbrev fs1:ByteArray:=⟨#[111,110,101]⟩
abbrev fs2:ByteArray:=⟨#[116,119,111]⟩
abbrev fs3:ByteArray:=⟨#[98,117,102,102,101,114]⟩
abbrev fcE:List K5:=[⟨⟨#[97]⟩,true,false,false,0⟩,⟨⟨#[98]⟩,false,false,false,0⟩,⟨⟨#[99]⟩,true,false,false,0⟩,⟨⟨#[100]⟩,false,false,false,0⟩]
def Jt:ZE:=⟨fcE,[⟨fs1,jc 0⟩,⟨fs2,jc 2⟩],[⟨fs3,jc 1⟩],[],[]⟩
def fcP (N:Nat)(i:Nat)(v:Value)(w:World):Prop :=
 if i=4 then ∃b,v=.slice (some ⟨b,0,none⟩) 4 4∧N≤b∧QS w.heap b 89 (fcE.flatMap Zo)
 else if i=6 then ∃va vm ve,v=.agg #[.string fs1,va,.int .i64 2,vm,ve]∧ZF [va,vm,ve]∧∀L:LN,(∀b∈L,b<N)→Zq L w.heap va vm ve (jc 0)
 else if i=8 then ∃va vm ve,v=.agg #[.string fs2,va,.int .i64 2,vm,ve]∧ZF [va,vm,ve]∧∀L:LN,(∀b∈L,b<N)→Zq L w.heap va vm ve (jc 2)
 else if i=9 then KA N w.heap v [⟨fs1,jc 0⟩,⟨fs2,jc 2⟩]
 else KA N w.heap v [⟨fs3,jc 1⟩]
theorem KA.ext {N:Nat}{w w':World}{v:Value}{l:List Jz}(h:KA N w.heap v l)(hs:Step [] w w'):KA N w'.heap v l:=let⟨qs,h1,h2⟩:=h;⟨qs,h1,λL E=>(h2 L E).ext hs⟩
theorem QiH {N:Nat}:∀i v w w',fcP N i v w→Step [] w w'→fcP N i v w':=by
 intro i v w w' h hs;unfold fcP at h ⊢;by_cases h4:i=4
 ·rw[if_pos h4]at h ⊢;obtain⟨b,e,n,J⟩:=h;exact⟨b,e,n,J.ext hs⟩
 rw[if_neg h4]at h ⊢;by_cases H:i=6
 ·rw[if_pos H]at h ⊢;obtain⟨va,vm,ve,e,o,E⟩:=h;exact⟨va,vm,ve,e,o,λL G=>(E L G).ext hs⟩
 rw[if_neg H]at h ⊢;by_cases I:i=8
 ·rw[if_pos I]at h ⊢;obtain⟨va,vm,ve,e,o,E⟩:=h;exact⟨va,vm,ve,e,o,λL G=>(E L G).ext hs⟩
 rw[if_neg I]at h ⊢;by_cases h9:i=9
 ·rw[if_pos h9]at h ⊢;exact KA.ext h hs
 rw[if_neg h9]at h ⊢;exact KA.ext h hs
theorem KA.one {N:Nat}{H:Array Obj}{v:Value}{l:List Jz}(h:KA N H v l):v.oneCell'=true:=by
 obtain⟨qs,_,h2⟩:=h;exact(h2 [] (by simp)).arr.one
set_option maxHeartbeats 4000000 in
theorem JG (w:World):QE prog 29 [] w λr w'=>Step [] w w'∧Qjv w.heap.size w'.heap r Jt:=by
 refine QE.of_W func29 O ntmps29 results29 (by simp) ?_;refine Qc<|xl O<|Qr (us:=YN) O λV T hj h0 hk=>xe ?_;refine Qc<|Qe<|Qc<|xl O<|QJ (us:=[[.int .i64 1],[.int .i64 2]]) O O (by decide) (by simp) ⟨rfl,rfl,rfl,rfl,Z⟩ λY w2 hn hT hp=>xl rfl<|QJ (us:=[[.int .i64 0]]) rfl rfl (by decide) (by simp) ⟨rfl,rfl,Z⟩ λb4 w3 hh hU hr =>
  x (QK ⟨rfl,O,O,Z⟩)<|x (QK ⟨O,O,O,Z⟩)<|xl O<|QJ (us:=[QB (0,1,1),QB (1,2,0)]) O O (by decide) (show 2*3≤1000000 by omega) ⟨O,O,O,O,Z⟩ λb7 w4 ha hV h3 =>
  x (QK ⟨rfl,O,O,O,Z⟩)<|xl O<|Qr (us:=[nS,.int .i64 0,nS,nS]) O λb2 w5 h5 h6 h7=>xl O<|Qm (us:=[.slice (some ⟨Y,0,none⟩) 2 2,.int .i64 2,.slice (some ⟨b4,0,none⟩) 1 1,.slice (some ⟨b7,0,none⟩) 2 2]) h7 O O O O ⟨O,O,O,O,Z⟩ λw6 h8 hD =>
  xe ?_
 have hW:=hj.size;have hX:=hn.size;have hY:=hh.size;have hZ:=ha.size;have hE:=hk.lt;have ga:=hp.lt;have gb:=hr.lt;have hf:Step [] w4 w6:=h5.then1 h8 h6;have hi:=((hn.trans hh).trans ha).trans hf;have hs:=hj.trans hi;have gc:=hs.size;have ge:=hi.size;have hF:=hk.ext hi;have k3:=((hp.ext hh).ext ha).ext hf;have k4:=(hr.ext ha).ext hf
 have k7:=h3.ext hf;have hG:∀{L:LN},(∀b∈L,b<T.heap.size)→Zq L w6.heap (.slice (some ⟨Y,0,none⟩) 2 2) (.slice (some ⟨b4,0,none⟩) 1 1) (.slice (some ⟨b7,0,none⟩) 2 2) (jc 1):=λ{L} E=>by
  have nL:∀{b:Nat},T.heap.size≤b→b∉L:=λhb hm=>by have:=E _ hm;omega
  exact⟨k3.arr (nL (by omega)) (n:=2) (cap:=2) (sz:=1) O (by omega) (Lu _),k4.arr (nL (by omega)) (n:=1) (cap:=1) (sz:=1) O (by omega) (Lu _),k7.arr (nL (by omega)) (n:=2) (cap:=2) (sz:=3) O (by omega) (Lu _)⟩
 refine QZ (α:=CL) [(9,22)] (λz=>[]) (λz w'=>Step [] w w'∧QS w'.heap V 37 z.cells∧z.cel=Jt∧(∀L:LN,(∀b∈L,b<w.heap.size)→ZH L w'.heap z)) (by rfl) ?_ ?_
 ·refine QgZ (α:=Value×Value×Value) (Step [] w6) [(0,true),(1,true),(2,true),(3,true),(5,true),(7,true),(10,true),(11,true)] (λi=>if i=9 then[6,8]else[]) [4,6,8,9,12] [(13,true),(14,false)] [(13,13),(15,15),(17,18),(21,21)] (fcP T.heap.size)
   (λz=>[(13,z.1),(18,z.2.1),(21,z.2.2)])
   (λz w'=>(∃b,z.1=.slice (some ⟨b,0,none⟩) 4 4∧T.heap.size≤b∧QS w'.heap b 89 (fcE.flatMap Zo))∧KA T.heap.size w'.heap z.2.1 [⟨fs1,jc 0⟩,⟨fs2,jc 2⟩]∧KA T.heap.size w'.heap z.2.2 [⟨fs3,jc 1⟩])
   mixed (by rfl) (by kernel_rfl) (Step.drew _ _) (λ_ _ h1 h2=>h1.trans h2) QiH ?_ ?_
  ·rintro g w' ⟨h4,_,_,h9,U,_⟩ gg;exact⟨(g 13,g 18,g 21),⟨O,O,O,Z⟩,h4,h9,U⟩
  refine p (λ_=>QK ⟨O,O,Z⟩)<|p (λ_=>QK La)<|p (λ_=>QK ⟨O,O,Z⟩)<|p (λ_=>QK La) <|
   p (λ_=>Qn)<|p (λ_=>Qn)<|pq (λ_ hc=>Qo (hD.ext hc) O O)<|p (λ_=>Zz [(0,[.string fs3]),(1,[.slice (some ⟨Y,0,none⟩) 2 2,.int .i64 2,.slice (some ⟨b4,0,none⟩) 1 1,.slice (some ⟨b7,0,none⟩) 2 2])] ⟨O,O,O,O,Z⟩) <|
   pe ⟨⟨?_,?_,?_,?_,?_,Z⟩,?_⟩
  ·intro g w' hc _;have hz:=hc.size;exact QJ (us:=[Zo ⟨⟨#[97]⟩,true,false,false,0⟩,Zo ⟨⟨#[98]⟩,false,false,false,0⟩,Zo ⟨⟨#[99]⟩,true,false,false,0⟩,Zo ⟨⟨#[100]⟩,false,false,false,0⟩]) O O (by decide) (show 4*5≤1000000 by omega) ⟨O,O,O,O,O,O,O,O,Z⟩ λb w7 G hb H=>⟨G,⟨b,O,by omega,H⟩,λc J=>by rw[Lb.1 (show c∈[b] from J)];exact⟨hb,H.lt⟩⟩
  ·intro g w' hc _;have hz:=hc.size;refine xc (first:=[]) (capt:=[]) O<|(QcY (nm:=fs1) (s:=0) (by omega)).mono ?_;rintro r w7 ⟨G,va,vm,ve,rfl,ho,hA⟩;exact⟨G,⟨va,vm,ve,O,ho,λL E=>hA L (λb hb=>by have:=E b hb;omega)⟩,λc J=>by cases J⟩
  ·intro g w' hc _;have hz:=hc.size;refine xc (first:=[]) (capt:=[]) O<|(QcY (nm:=fs2) (s:=2) (by omega)).mono ?_;rintro r w7 ⟨G,va,vm,ve,rfl,ho,hA⟩;exact⟨G,⟨va,vm,ve,O,ho,λL E=>hA L (λb hb=>by have:=E b hb;omega)⟩,λc J=>by cases J⟩
  ·rintro g w' hc ⟨⟨va,vm,ve,e6,o6,hH⟩,⟨va',vm',ve',e8,o8,hI⟩,_⟩;have hz:=hc.size;refine QJ (us:=[Zm ⟨fs1,⟨va,vm,ve,jc 0⟩⟩,Zm ⟨fs2,⟨va',vm',ve',jc 2⟩⟩]) O O (by decide) (show 2*5≤1000000 by omega) ⟨congrArg Value.cells e6,O,congrArg Value.cells e8,O,Z⟩ λb w7 G hb H=>⟨G,?_,λc J=>by rw[Lb.1 (show c∈[b] from J)];exact⟨hb,H.lt⟩⟩
   refine⟨[⟨fs1,⟨va,vm,ve,jc 0⟩⟩,⟨fs2,⟨va',vm',ve',jc 2⟩⟩],O,λL E=>⟨H.arr (λhm=>by have:=E _ hm;omega) (n:=2) (cap:=2) (sz:=5) O (by omega) (Lu _),λq hq=>?_,λq hq=>?_⟩⟩
   ·simp only[List.mem_cons,List.not_mem_nil,or_false]at hq;rcases hq with rfl|rfl
    ·exact(hH L E).ext G
    exact(hI L E).ext G
   simp only[List.mem_cons,List.not_mem_nil,or_false]at hq;rcases hq with rfl|rfl
   ·exact Xw (by decide)
   exact Xw (by decide)
  ·intro g w' hc _;have hz:=hc.size;refine QJ (us:=[Zm ⟨fs3,⟨.slice (some ⟨Y,0,none⟩) 2 2,.slice (some ⟨b4,0,none⟩) 1 1,.slice (some ⟨b7,0,none⟩) 2 2,jc 1⟩⟩]) O O (by decide) (show 1*5≤1000000 by omega) ⟨O,O,Z⟩ λb w7 G hb H=>⟨G,?_,λc J=>by rw[Lb.1 (show c∈[b] from J)];exact⟨hb,H.lt⟩⟩
   refine⟨[⟨fs3,⟨.slice (some ⟨Y,0,none⟩) 2 2,.slice (some ⟨b4,0,none⟩) 1 1,.slice (some ⟨b7,0,none⟩) 2 2,jc 1⟩⟩],O,λL E=>⟨H.arr (λhm=>by have:=E _ hm;omega) (n:=1) (cap:=1) (sz:=5) O (by omega) (Lu _),λq hq=>?_,λq hq=>?_⟩⟩
   ·simp only[List.mem_singleton]at hq;subst hq;exact((hG E).ext hc).ext G
   simp only[List.mem_singleton]at hq;subst hq;exact Xw (by decide)
  rintro⟨v1,v2,v3⟩ g w9 ht ⟨⟨b,e,n,H⟩,h9,U⟩;simp only[]at e h9 U;subst e;have hJ:=hF.ext ht;refine p (λ_=>Zz [(0,[.slice (some ⟨b,0,none⟩) 4 4]),(1,[v2]),(2,[v3])] ⟨O,O,Xv (KA.one h9),O,Xv (KA.one U),O,Z⟩)<|pkl (hl:=by kernel_rfl)<|Qm (us:=[.slice (some ⟨b,0,none⟩) 4 4,v2,v3,nS,nS]) hJ O O O O ⟨O,KA.one h9,KA.one U,O,O,Z⟩ λhu hg hK=>pe ?_;obtain⟨q9,e9,hM⟩:=h9
  obtain⟨hv,hN,hO⟩:=U;refine⟨⟨.slice (some ⟨b,0,none⟩) 4 4,v2,v3,nS,nS,fcE,q9,hv,[],[]⟩,Z,(hs.trans ht).then1 hg h0,hK,?_,λL E=>?_⟩
  ·show ZE.mk fcE (q9.map IV.it) (hv.map IV.it) [] []=_;rw[e9,hN];rfl
  have hw:∀I∈V::L,I<T.heap.size:=λI hb'=>by
   rcases Lc.1 hb' with rfl|hb'
   ·exact hE
   have:=E I hb';omega
  have m1:∀I∈[V],I∈V::L:=λI hb'=>by simp only[List.mem_singleton]at hb';simp[hb']
  have hy:∀I∈L,I∈V::L∨hu.heap.size≤I:=λI hb'=>.inl (Ln _ hb');have hP:QS hu.heap b 89 (fcE.flatMap Zo):=H.step hg (by simp only[List.mem_singleton];omega)
  refine⟨⟨hP.arr (λhm=>by have:=E _ hm;omega) (n:=4) (cap:=4) (sz:=5) O (by omega) (Lu _),λe he=>?_⟩,((hM _ hw).st (hg.mono m1)).up hy,((hO _ hw).st (hg.mono m1)).up hy,⟨Zv.nil _ _ 2,λq hq=>(by cases hq),λq hq=>(by cases hq)⟩,⟨Zv.nil _ _ 3,λq hq=>(by cases hq),λq hq=>(by cases hq)⟩⟩;simp only[List.mem_cons,List.not_mem_nil,or_false]at he
  rcases he with rfl|rfl|rfl|rfl <;> exact Xw (by decide)
 rintro c g w9 ⟨hQ,hR,hS,hC⟩;refine Qk ⟨[_],⟨⟨_,O,Qv O (hR.at (L:=[]) (by simp)).cells⟩,Z⟩,hQ,c,rfl,hS,hC⟩
theorem QkN:YU Jt=0:=by kernel_rfl
theorem QkO:(KS Jt).ps=true:=by kernel_rfl
theorem QkP:(KS Jt).nc=true:=by kernel_rfl
theorem QiJ:(KS Jt).sts.length=1:=by kernel_rfl
theorem QiI:decide (1<(KS Jt).tg)=true:=by kernel_rfl
theorem QiL:pmE Jt [0,1]=0:=by kernel_rfl
theorem QiK:pmL Jt [0,1]=[2]:=by kernel_rfl
theorem QiN:mrE Jt [0,1] 0=0:=by kernel_rfl
theorem QiM:mrL Jt [0,1] 0=[0]:=by kernel_rfl
theorem QiP:cmE Jt false=0:=by kernel_rfl
theorem QiO:(cmW (Xg Jt) (Va Jt)).isNone=true:=by kernel_rfl
theorem Qgi {w:World}{c:CL}(hC:ZH [] w.heap c)(G:c.cel=Jt)(H:Kb w 4096):
  QE prog 10 [c.val] w λr w'=>Step [] w w'∧∃ev f1 f2 vw vs tg,r=.tuple #[.agg #[.bool true,.int .i64 ev,.int .i64 f1,.int .i64 f2,.bool true,vw,vs,.int .i64 tg],.int .i64 0]∧ZF [vw,vs]∧(∃s,QI [] w'.heap vs [s])∧1<tg:=by
 refine(Qb7 hC H).mono ?_;rintro r w' ⟨hs,us,rfl,_,U,I⟩;rw[G,QkN]at *;obtain⟨vw,vs,rfl,J,E⟩:=I O;rw[QkO,QkP]at *;have hl:=QiJ;obtain⟨s,T⟩:∃s,(KS Jt).sts=[s]:=by
  match (KS Jt).sts,hl with
  | [s],_=>exact⟨s,O⟩
 rw[T]at E;exact⟨hs,_,_,_,vw,vs,_,O,⟨QL J,QL E,Z⟩,⟨s,Qt.ints E (by simp) (by simp)⟩,of_decide_eq_true QiI⟩
theorem Qgg {w:World}{c:CL}{v:Value}(hC:ZH [] w.heap c)(E:c.cel=Jt)(G:QI [] w.heap v [0,1])(H:Kb w 4096):
  QE prog 16 [c.val,v] w λr w'=>Step [] w w'∧∃v',r=.tuple #[v',.int .i64 0]∧QI [] w'.heap v' [2]:=by
 refine(VJ hC G H).mono ?_;rintro r w' ⟨hs,v',rfl,_,I⟩;rw[E,QiL]at *;have h1:=I O;rw[QiK]at h1;exact⟨hs,v',O,Qt.ints h1 (by simp) (by simp)⟩
theorem Qgf {w:World}{c:CL}{v:Value}(hC:ZH [] w.heap c)(E:c.cel=Jt)(G:QI [] w.heap v [0,1])(H:Kb w 4096):
  QE prog 17 [c.val,v,.int .i64 0] w λr w'=>Step [] w w'∧∃v',r=.tuple #[v',.int .i64 0]∧QI [] w'.heap v' [0]:=by
 refine(Vm hC G 0 H).mono ?_;rintro r w' ⟨hs,v',rfl,_,I⟩;rw[E,QiN]at *;have h1:=I O;rw[QiM]at h1;exact⟨hs,v',O,Qt.ints h1 (by simp) (by simp)⟩
theorem Qgh {w:World}{c:CL}(hC:ZH [] w.heap c)(E:c.cel=Jt)(G:Kb w 4096):
  QE prog 11 [c.val,.bool false] w λr w'=>Step [] w w'∧∃v,r=.tuple #[v,.bool true,.int .i64 0]:=by
 refine(Qb6 hC G).mono ?_;rintro r w' ⟨hs,v,e,rfl,H⟩;rw[E,QiP]at *;have h1:=H O;rw[QiO]at h1;subst h1;exact⟨hs,v,O⟩
abbrev rpF (ev f1 f2:Int)(vw vs:Value)(tg:Int):LV:=[.bool true,.int .i64 ev,.int .i64 f1,.int .i64 f2,.bool true,vw,vs,.int .i64 tg]
set_option maxHeartbeats 4000000 in
theorem U9 {w:World}(E:Kb w 4096):QE prog 8 [] w λr w'=>r=.bool true∧Step [] w w':=by
 refine QE.of_W func8 O ntmps8 results8 (by simp) ?_;refine Qc<|Qe<|Qc<|xl O<|xf<|(JG w).mono ?_;rintro r1 w1 ⟨V,⟨c1,rfl,h0,h1⟩⟩;refine xl rfl<|xf<|(Qgi (h1 [] (by simp)) h0 (E.ext V)).mono ?_;rintro r2 w2 ⟨h2,ev,f1,f2,vw,vs,tg,rfl,Y,⟨s,h3⟩,h4⟩
 refine Qb<|x (Qj O O)<|x (Qj O O)<|xl O<|Qr (us:=rp0) O λb1 w3 h5 h6 h7=>xl O<|Qm (us:=rpF ev f1 f2 vw vs tg) h7 O O O O ⟨O,O,O,O,O,Y.1,Y.2.1,O,Z⟩ λw4 h8 h9 =>
  Qe ?_
 have ha:Step [] w2 w4:=h5.then1 h8 h6;have hb:=(V.trans h2).trans ha;refine Qc<|xl O<|xf<|(JG w4).mono ?_;rintro r5 w5 ⟨hc,⟨c5,rfl,hA,hB⟩⟩
 refine xl rfl<|QJ (us:=[[.int .i64 0],[.int .i64 1]]) O O (by decide) (by simp) ⟨rfl,rfl,rfl,rfl,Z⟩ λhV w6 I hW hC=>xl rfl<|xf<|(Qgg ((hB [] (by simp)).ext I) hA (hC.arr (by simp) (n:=2) (cap:=2) (sz:=1) rfl (by omega) (Lu _)) (((E.ext hb).ext hc).ext I)).mono ?_;rintro r7 w7 ⟨hD,v3,rfl,hE⟩;refine Qb<|x (Qj O O)<|x (Qj O O)<|x Qf<|Qe ?_
 have he:=(hc.trans I).trans hD;have hf:=hb.trans he;refine Qc<|xl O<|xf<|(JG w7).mono ?_;rintro r8 w8 ⟨hg,⟨c8,rfl,hF,hG⟩⟩
 refine xl rfl<|QJ (us:=[[.int .i64 0],[.int .i64 1]]) O O (by decide) (by simp) ⟨rfl,rfl,rfl,rfl,Z⟩ λhX w9 J hY hH=>xl rfl<|xf<|(Qgf ((hG [] (by simp)).ext J) hF (hH.arr (by simp) (n:=2) (cap:=2) (sz:=1) rfl (by omega) (Lu _)) (((E.ext hf).ext hg).ext J)).mono ?_;rintro hZ hI ⟨hJ,v5,rfl,hK⟩;refine Qb<|x (Qj O O)<|x (Qj O O)<|x Qf<|Qe ?_
 have T:=(hg.trans J).trans hJ;have hh:=hf.trans T;refine Qc<|xl O<|xf<|(JG hI).mono ?_;rintro ga gb ⟨hi,⟨gc,rfl,hL,hM⟩⟩;refine xl rfl<|xf<|(Qgh (hM [] (by simp)) hL ((E.ext hh).ext hi)).mono ?_;rintro ge hj ⟨hN,v7,rfl⟩;refine Qb<|x (Qj O O)<|x (Qj O O)<|x (Qj O O)<|x Qf<|x Qf<|Qe ?_;have G:=hi.trans hN;have hO:=hh.trans G
 have hk:=(he.trans T).trans G;have H:=h9.ext hk;have hP:QI [] hj.heap vs [s]:=(h3.ext ha).ext hk;have hl:=(hE.ext T).ext G;have hm:=hK.ext G;refine QZ (α:=Unit) [(0,0),(33,88)] (λz=>[(0,.bool true)]) (λz w'=>Step [] hj w') (by rfl) ?_ ?_
 ·refine Qx<|Qb<|xb (Zc O O) (λhn=>?_) (λhn=>absurd O hn);refine Qb<|x (Qa O)<|x (Qd (u:=.bool true) H O O)<|x (Qp O)<|Qb<|x (Qa O)<|x (Qd (u:=.bool true) H O O)<|x (Qp O)<|Qb<|x (Qa O)<|x (Qd H O O)<|x (Qu hP O)<|xb (Zc O O) (λhp=>?_) (λhp=>absurd O hp);refine x (Qp O)<|Qb<|x (Qa O)<|x (Qd H O O)<|xb (ZP O O) (λhq=>?_) (λhq=>absurd h4 hq)
  refine x (Qp O)<|Qb<|Qb<|xb (Zc O O) (λhr=>?_) (λhr=>absurd O hr);refine x (Qp O)<|Qb<|Qb<|xl O<|QJ (us:=[[.int .i64 2]]) O O (by decide) (by simp) ⟨rfl,rfl,Z⟩ λgg gh hs gi hQ=>xl rfl<|xf<|(Ki (hl.ext hs) (yU (L:=[]) hQ (by simp))).mono ?_;rintro gj gk ⟨rfl,hR⟩;have U:=hs.trans hR
  refine x (Qp O)<|Qb<|Qb<|x (Qu (hl.ext U) O)<|xb (Zc O O) (λht=>?_) (λht=>absurd O ht);refine x (Qp O)<|Qb<|Qb<|xb (Zc O O) (λhu=>?_) (λhu=>absurd O hu);refine x (Qp O)<|Qb<|Qb<|xl O<|QJ (us:=[[.int .i64 0]]) O O (by decide) (by simp) ⟨rfl,rfl,Z⟩ λgl gm hv gn hS=>xl rfl<|xf<|(Ki ((hm.ext U).ext hv) (yU (L:=[]) hS (by simp))).mono ?_;rintro go gq ⟨rfl,hT⟩
  have hw:=(U.trans hv).trans hT;refine x (Qp O)<|Qb<|Qb<|x (Qu (hm.ext hw) O)<|xb (Zc O O) (λhy=>?_) (λhy=>absurd O hy);refine x (Qp O)<|Qb<|Qb<|xb (Zc O O) (λhz=>?_) (λhz=>absurd O hz);refine x (Qp O)<|Qb<|Qb<|x (Qp O)<|Qe ?_;exact⟨(),La,hw⟩
 rintro z g gr hU;exact Qk ⟨[.bool true],La,O,hO.trans hU⟩
open Go.Sort
theorem Vc (m:Nat)(hm:m<256)(w:World):QE prog 32 [.int .u8 m] w λr w'=>Step [] w w'∧Qt 3 w.heap.size w' r (setK m 5):=by
 refine QE.of_W func32 O ntmps32 results32 (by simp) ?_;refine Qc<|Qe<|Qc<|Qe<|Qg<|Qc<|Qe<|Qh<|Qz (α:=Nat×Value) [(3,17)] (λz=>[(3,z.2),(4,.int .i64 z.1)]) (λz w'=>z.1≤5∧Step [] w w'∧Qt 3 w.heap.size w' z.2 (setK m z.1)) (λz=>5 - z.1) (by rfl) (0,nS) ⟨O,O,Z⟩
  ⟨Lk _,Step.refl _ _,QQ _ _ _ _⟩ ?_
 rintro⟨k,v⟩ g w1 ⟨hk,G,E⟩;simp only[]at hk E;have hg:=Y8 m k;have hh:=G.size;refine Qg<|Qc<|Qb<|x (QA O O)<|xe<|QD rfl (λU=>?_) (λU=>?_)
 ·refine Qy<|Qc<|Qb<|Qe ?_;have V:k=5:=by omega
  rw[V]at E;exact Qk ⟨[v],La,G,E⟩
 have J:k<5:=by omega
 have Y:m / 2 ^ k<256:=Nat.lt_of_le_of_lt (Nat.div_le_self _ _) hm;have H:=VP m k;refine Qi<|Qg<|Qh<|Qc<|Qb<|Qb<|x (zH (n:=k) O O (by show k≤8;omega))<|x (UW (a:=m / 2 ^ k) (b:=1) (congrArg (Value.int .u8) (yA m k)) O Y (by decide))<|x (Zc O O)<|xe<|QD rfl (λT=>?_) (λT=>?_)
 ·rw[if_neg (λe=>T (by rw[e];rfl))]at H;refine Qi<|Qx<|Qb<|QN O O<|Qe ?_;exact⟨(k+1,v),by simp only[];omega,⟨O,O,Z⟩,J,G,by simp only[];rw[H];exact E⟩
 rw[if_pos (by omega)]at H;refine Qx<|Qb<|Qb<|xl O<|QJ (us:=[[.int .i64 k]]) O O (by decide) (by simp) ⟨rfl,rfl,Z⟩ λb15 w2 I hi ha=>?_;have hc:=Qs E I;have hj:=I.size;refine xl rfl<|Q5 (news:=[.int .i64 k]) (L:=[]) hc O O O (ha.at (by simp)) (by simp[Value.oneCell']) (by omega) (by omega) λv3 w3 he hf hl =>
  Qe ?_
 have hge:=Qq E;refine Qx<|Qb<|QN O O<|Qe<|⟨(k+1,v3),by simp only[];omega,⟨O,O,Z⟩,J,(G.trans I).then hf (λb hb=>.inr (hge b hb).1),?_⟩;simp only[];rw[H];exact Qt.snoc he
end Go.Proofs.YtjcgijbhaemldaaGreatDoor
namespace Go.Lg
section
variable {P:Program}{f:Fr}{w:World}{d:Option Nat}{ty:Nat}{ps:String}{af:Array Edge}{gd:Option (Nat×Bool)}
theorem Qkb {t E e bys:Nat}{z:Value}[h:Sl P t e 1 bys z][he:Ik P e .u8][hd:St P E]{x:Operand}{b T n cap:Nat}(G:QS w.heap b T [.int .u8 (n:Int)])(I:n<256)(hx:ev f x=.slice (some ⟨b,0,none⟩) 1 cap):
  (execOp (ev f) ⟨d,.convert t E x,ty,ps,af,gd⟩).run P w=.ok (.value (.string ⟨#[UInt8.ofNat n]⟩)) w:=by
 refine Uw hx ?_;refine run_convert_bytes_back (P:=P) w t E e ⟨b,0,none⟩ cap [UInt8.ofNat n] h.u he.u hd.u (λj hj=>?_);have H:j=0:=by simp at hj;omega
 subst H;rw[Xz];have h1:(⟨b,0,none⟩:Addr).add 0=⟨b,0,none⟩:=rfl;rw[h1,G.cell];have h2:(UInt8.ofNat n).toNat=n:=by simp[UInt8.toNat_ofNat'];omega
 simp[h2]
end
end Go.Lg
namespace Go.Proofs.YtjcgijbhaemldaaGreatDoor
open Go.Lg
theorem Qgm (e:K5):∀u∈Zo e,u.oneCell'=true:=by
 intro y hy;simp only[Zo,List.mem_cons,List.not_mem_nil,or_false]at hy;rcases hy with rfl|rfl|rfl|rfl|rfl <;> rfl
theorem QcQ {q:IV}(h1:q.p.va.oneCell'=true)(h2:q.p.vm.oneCell'=true)(h3:q.p.ve.oneCell'=true):∀u∈Zm q,u.oneCell'=true:=by
 intro y hy;simp only[Zm,List.mem_cons,List.not_mem_nil,or_false]at hy;rcases hy with rfl|rfl|rfl|rfl|rfl
 ·rfl
 ·exact h1
 ·rfl
 ·exact h2
 exact h3
theorem Qai {base N:Nat}{av:LN}{H:Array Obj}{q:IV}(h:∀L:LN,(∀b∈L,b<N)→Zq L H q.p.va q.p.vm q.p.ve q.p.a)(hb:base≤N)(G:∀b∈av,b<N):∀t∈Qix q,ZS base av H t.1 t.2.1 t.2.2.1 t.2.2.2:=by
 intro t ht;simp only[List.mem_cons,List.not_mem_nil,or_false]at ht;rcases ht with rfl|rfl|rfl
 ·exact ZS.of_lt (λL E=>(h L E).al) hb G
 ·exact ZS.of_lt (λL E=>(h L E).mr) hb G
 exact ZS.of_lt (λL E=>(h L E).ed) hb G
structure Ut (base:Nat)(w:World)(vc va:Value)(co:List IV)(al:LI):Prop where
 c:w.ownsRow base 92 5 vc co.length (co.flatMap Zm)
 a:Qt 3 base w va al
 dj:Dj vc va
 each:∀q∈co,∀t∈Qix q,ZS base (ob vc++ob va) w.heap t.1 t.2.1 t.2.2.1 t.2.2.2
section
variable {base:Nat}{w w':World}{vc va vc' va':Value}{co:List IV}{al:LI}
theorem Ut.nil:Ut base w (nS) (nS) [] []:=⟨QQ _ _ _ _,QQ _ _ _ _,Dj.nil _,λq hq=>by cases hq⟩
theorem Ut.ext (h:Ut base w vc va co al)(hs:Step [] w w'):Ut base w' vc va co al:=⟨Qs h.c hs,Qs h.a hs,h.dj,λq hq t ht=>(h.each q hq t ht).ext hs⟩
theorem Ut.low {X:LN}(h:Ut base w vc va co al)(hs:Step X w w')(E:∀b∈X,b<base):Ut base w' vc va co al :=
 ⟨Ql h.c hs (λb hb hm=>by have:=(Qq h.c b hb).1;have:=E b hm;omega),Ql h.a hs (λb hb hm=>by have:=(Qq h.a b hb).1;have:=E b hm;omega),h.dj,λq hq t ht=>(h.each q hq t ht).low hs E⟩
theorem Ut.avlt (h:Ut base w vc va co al):∀b∈ob vc++ob va,b<w.heap.size:=λb hb=>(Lp.1 hb).elim (Q4 h.c b) (Q4 h.a b)
theorem Ut.setC {q:IV}(h:Ut base w vc va co al)(hq:∀t∈Qix q,ZS base (ob vc++ob va) w.heap t.1 t.2.1 t.2.2.1 t.2.2.2)(J:w'.ownsRow base 92 5 vc' (co.length+1) (co.flatMap Zm++Zm q))
  (hs:Step (ob vc) w w') (E:∀b∈ob vc',b∈ob vc∨w.heap.size≤b):Ut base w' vc' va (co++[q]) al:=by
 have G:Step (ob vc++ob va) w w':=hs.mono (λb hb=>Lp.2 (.inl hb));have H:∀b∈ob vc'++ob va,b∈ob vc++ob va∨w.heap.size≤b:=λb hb=>by
  rcases Lp.1 hb with hb|hb
  ·exact(E b hb).imp (λh=>Lp.2 (.inl h)) id
  exact .inl (Lp.2 (.inr hb))
 refine⟨?_,Ql h.a hs (λb hb T=>h.dj b T hb),λb hb I=>?_,λd hd t ht=>?_⟩
 ·rw[Lj,LD];simpa using J
 ·rcases E b hb with h1|h1
  ·exact h.dj b h1 I
  have:=Q4 h.a b I;omega
 rcases Lp.1 hd with hd|hd
 ·exact(h.each d hd t ht).app G H
 simp only[List.mem_singleton]at hd;subst hd;exact(hq t ht).app G H
theorem Ut.setA {G:LI}(h:Ut base w vc va co al)(I:Qt 3 base w' va' G)(hs:Step (ob va) w w')(H:∀b∈ob va',b∈ob va∨w.heap.size≤b):Ut base w' vc va' co G:=by
 have J:Step (ob vc++ob va) w w':=hs.mono (λb hb=>Lp.2 (.inr hb));have T:∀b∈ob vc++ob va',b∈ob vc++ob va∨w.heap.size≤b:=λb hb=>by
  rcases Lp.1 hb with hb|hb
  ·exact .inl (Lp.2 (.inl hb))
  exact(H b hb).imp (λh=>Lp.2 (.inr h)) id
 refine⟨Ql h.c hs (λb hb E=>h.dj b hb E),I,λb hb E=>?_,λd hd t ht=>(h.each d hd t ht).app J T⟩;rcases H b E with h1|h1
 ·exact h.dj b hb h1
 have:=Q4 h.c b hb;omega
theorem Ut.itms {L:LN}(h:Ut base w vc va co al)(G:co.length≤1099511627776)(hm:∀q∈co,zi q.nm)(E:∀b∈L,b<base):Xt L w.heap vc co :=
 ⟨QV h.c G (λb hb H=>by have:=(Qq h.c b hb).1;have:=E b H;omega),λq hq=>⟨h.each q hq (q.p.va,q.p.a.al.length,1,q.p.a.al.map (.int .i64)) (by simp) L (λb hb=>.inl (E b hb)),h.each q hq (q.p.vm,q.p.a.mr.length,1,q.p.a.mr.map (.int .i64)) (by simp) L (λb hb=>.inl (E b hb)),h.each q hq (q.p.ve,q.p.a.ed.length,3,q.p.a.ed.flatMap QB) (by simp) L (λb hb=>.inl (E b hb))⟩,hm⟩
end
theorem YQ (ns:LN):(bys ns).length=ns.length:=by rw[bys,Li]
def grN (ns:LN)(o:Nat):LN:=(ns.drop o).take 27
theorem QfZ {ns:LN}{o:Nat}(h:o+27≤ns.length):(grN ns o).length=27:=by unfold grN;simp;omega
theorem QjL {ns:LN}{o:Nat}(h:∀n∈ns,n<256):∀n∈grN ns o,n<256:=Qjb h o 27
theorem QgQ (ns:LN)(n:Nat):(bys ns).set 0 (.int .u8 (n:Int))=bys (ns.set 0 n):=by
 unfold bys;rw[Nw]
theorem QhO {ns:LN}{n:Nat}(h:∀m∈ns,m<256)(E:n<256):∀m∈ns.set 0 n,m<256:=λm hm=>by
 rcases Ni hm with h1|rfl
 ·exact h m h1
 exact E
theorem QeV {ns:LN}{n:Nat}(h:0<ns.length):(ns.set 0 n).getD 0 0=n:=by simp[List.getD,h]
structure GdA (a:QM):Prop where
 ok:Q3 a
 p:0<a.st
 s:a.st≤3
 c:∃a0:QM,Q3 a0∧0<a0.st∧a=Jv a0
theorem QgN {a:QM}(E:Q3 a)(h:0<a.st):0<(Jv a).st:=by
 have H:=(qk E).1;show 0<((found a).length:Int);have G:(0:Int)∈found a:=by
  have key:∀(f i:Nat) (out:LI),(0:Int)∈out→(0:Int)∈fdL a f i out:=by
   intro f;induction f with
   | zero=>intro i out h;exact h
   | succ f ih =>
    intro i out h;rw[fdL];split
    ·exact ih _ _ (jb _ _ _ h)
    exact h
  refine key _ _ _ ?_;unfold fd0;rw[if_pos h];simp
 have:=List.length_pos_of_mem G;omega
theorem GdA.of {a E:QM}{n:Nat}(G:Q3 E)(h1:0<E.st)(h2:E.st≤((1+n % 5:Nat):Int))(h3:a=Jv E)(H:n<3):GdA a:=by
 have h4:=Qdb G;subst h3;exact⟨h4.1,QgN G h1,by have:=h4.2.2;omega,E,G,h1,O⟩
def nmI (c k:Nat):ByteArray:=⟨#[UInt8.ofNat c]⟩++⟨#[UInt8.ofNat (48+k)]⟩
theorem VV (c k:Nat):zi (nmI c k):=by
 show(ByteArray.mk _++ByteArray.mk _).size≤_;rw[ByteArray.size_append];show 1+1≤_;omega
end Go.Proofs.YtjcgijbhaemldaaGreatDoor
namespace Go.Lg
open Go.RowKit
section
variable {P:Program}{n:Nat}{f:Fr}{w:World}{all:List Oper}{C J:World→Prop}{K:Fr→World→Prop}
end
end Go.Lg
namespace Go.Proofs.YtjcgijbhaemldaaGreatDoor
open Go.Proofs.Tryz
open Go.Lg
instance ayZi1:Ay prog 26 3 25 27:=⟨by kernel_rfl,by kernel_rfl⟩
theorem Qcx (p:Int×Int):∀u∈QT p,u.oneCell'=true:=by
 intro y hy;simp only[QT,List.mem_cons,List.not_mem_nil,or_false]at hy;rcases hy with rfl|rfl <;> rfl
instance ayAv1:Ay prog 64 5 5 1:=⟨underlying64,by kernel_rfl⟩
def nm1 (c k:Nat):ByteArray:=⟨#[UInt8.ofNat (c+k)]⟩
def JH (k n:Nat):K5:=if 48≤n∧n<52 then⟨nm1 97 k,false,false,false,(n:Int) - 47⟩else
 ⟨nm1 97 k,decide (((n &&& 1:Nat):Int)=1),decide (((n &&& 2:Nat):Int)=2),decide (((n &&& 4:Nat):Int)=4),0⟩
def XM (ns:LN)(i:Nat):List K5:=(List.range i).map λk=>JH k (ns.getD k 0)
theorem QbC (ns:LN)(i:Nat):XM ns (i+1)=XM ns i++[JH i (ns.getD i 0)]:=by
 unfold XM;rw[List.range_succ,Lv];rfl
theorem Ko (ns:LN)(i:Nat):(XM ns i).length=i:=by unfold XM;simp
set_option maxHeartbeats 1000000 in
theorem QaX {w:World}{ns:LN}(hn:ns.length=5)(hb:∀n∈ns,n<256):
  QE prog 58 [.agg (bys ns).toArray] w λr w'=>Step [] w w'∧w'.ownsRow w.heap.size 89 5 r (XM ns 5).length ((XM ns 5).flatMap Zo):=by
 refine QE.of_W func58 O ntmps58 results58 (by simp) ?_;refine Qc<|xl O<|QP (us:=bys ns) O λb1 w1 hj hJ hm=>Qe ?_;have hs:=hj.size;refine Qc<|Qe<|Qg<|Qc<|Qe<|Qh<|Qz (α:=Nat×Value) [(3,53)] (λz=>[(3,z.2),(4,.int .i64 z.1)]) (λz w'=>z.1≤5∧Step [] w1 w'∧w'.ownsRow w1.heap.size 89 5 z.2 (XM ns z.1).length ((XM ns z.1).flatMap Zo)) (λz=>5 - z.1) (by rfl) (0,Zd) ⟨O,O,Z⟩
  ⟨Lk _,Step.refl _ _,QQ _ _ _ _⟩ ?_
 rintro⟨k,v⟩ g w2 ⟨hk,U,J⟩;simp only[]at hk J;refine Qg<|Qc<|Qb<|x (QA O O)<|xe<|QD rfl (λh7=>?_) (λh7=>?_)
 ·refine Qy ?_;have ht:k=5:=by have h8:¬(k:Int)<5:=h7;omega
  rw[ht]at J;refine Qc<|Qb<|Qe ?_;exact Qk ⟨[v],La,hj.trans U,Za J hs⟩
 have E:k<5:=by have h8:(k:Int)<5:=h7;omega
 have q:=V6 (ns:=ns) (j:=0+k*1) (by omega);have ql:=Xs hb (0+k*1);have hu:ns.getD (0+k*1) 0=ns.getD k 0:=by rw[show 0+k*1=k by omega]
 rw[hu]at q ql;have ho:=QbC ns k;have hK:=Ko ns k;refine Zb (ns.getD k 0) λn hv=>?_;rw[hv]at q ql ho;have hw:=hm.ext U;refine Qi<|Qg<|Qh<|Qc<|Qb<|x (ZZ (k':=.u8) O ⟨by omega,by omega⟩)<|QN O O<|xl O<|QJ (us:=[[.int .u8 ((97:Int)+(k:Int))]]) O O (by decide) (by simp) ⟨rfl,rfl,Z⟩ λhy w3 ha hL h0=>?_;have h1:((97:Int)+(k:Int))=((97+k:Nat):Int):=by omega
 have h2:QS w3.heap hy 5 [.int .u8 ((97+k:Nat):Int)]:=by rw[←h1];exact h0
 refine x (Qkb (n:=97+k) h2 (by omega) O)<|x (QK La)<|xl O<|Qr (us:=[.string ⟨#[]⟩,.bool false,.bool false,.bool false,.int .i64 0]) O λG w4 h3 hM h4=>xl O<|Qm (us:=Zo ⟨nm1 97 k,false,false,false,0⟩) h4 O O O O ⟨O,O,O,O,O,Z⟩ λw5 h5 hp =>
  xe ?_
 have he:Step [] w2 w5:=(ha.trans h3).then1 h5 (by have:=ha.size;omega);have H:=hw.ext he;have hN:=he.size;have hO:=ha.size;have hP:=hm.lt;have hQ:=U.size;have hf:b1∉[G]:=by simp only[List.mem_singleton];omega
 refine QZ (α:=Unit) [(16,49)] (λ_=>[]) (λ_ w'=>Step [G] w5 w'∧QS w'.heap G 89 (Zo (JH k n))) (by rfl) ?_ ?_
 ·refine QZ (α:=Bool) [(16,25)] (λz=>[(25,.bool z)]) (λz w'=>w'=w5∧(z=true↔48≤n∧n<52)) (by rfl) ?_ ?_
  ·refine Qx<|Qb<|x (ZD (i:=k) O O E)<|x (Qd H O q)<|xb (ZK O O) (λhg=>?_) (λhg=>?_)
   ·have hq:(48:Int)≤(n:Int):=hg;refine Qb<|Qb<|x (ZD (i:=k) O O E)<|x (Qd H O q)<|x (QA O O)<|x (Qp O)<|xe<|⟨decide ((n:Int)<52),La,O,?_⟩;rw[decide_eq_true_eq];omega
   have hq:¬(48:Int)≤(n:Int):=hg;refine Qb<|xs O<|xs O<|xs O<|xs O<|x (Qp O)<|xe ?_;exact⟨false,La,O,⟨λh=>(by cases h),λh=>absurd (by omega) hq⟩⟩
  rintro z g6 I ⟨rfl,hz⟩;refine QX O (λV=>?_) (λV=>?_)
  ·have hc:=hz.1 V;refine Qx<|Qb<|x (ZD (i:=k) O O E)<|x (Qd H O q)<|x (ZZ (k':=.i64) O ⟨by omega,by omega⟩)<|x (X4 O O ⟨by omega,by omega⟩)<|x (Qa O)<|xl O<|QC hp O O (by simp) rfl λw7 T hh =>
    xe ?_
   refine⟨(),Z,T,?_⟩;unfold JH;rw[if_pos hc];exact hh
  have hc:¬(48≤n∧n<52):=λh=>by have:=hz.2 h;rw[this]at V;cases V
  have Y:Step [] I { I with drawn:=I.drawn+1 }:=Step.drew _ _
  refine QU (Step [G] I) [(0,true),(1,true),(2,true),(3,true),(4,true),(5,true),(6,true),(7,true),(8,true),(9,true),(10,true),(11,true),(12,true),(13,true),(14,true),(15,true),(16,false),(17,true),(18,false),(19,true),(20,false)] mixed (by rfl) (by kernel_rfl) (Step.drew _ _) ?_
  refine p (λ_=>Qn)<|p (λ_=>ZD (i:=k) O O E)<|pq (λ_ hc=>Qd (H.step hc hf) O q)<|p (λ_=>UW (a:=n) (b:=1) O O ql (by decide))<|p (λ_=>Zc O O) <|
   p (λ_=>Qn)<|p (λ_=>ZD (i:=k) O O E)<|pq (λ_ hc=>Qd (H.step hc hf) O q)<|p (λ_=>UW (a:=n) (b:=2) O O ql (by decide))<|p (λ_=>Zc O O) <|
   p (λ_=>Qn)<|p (λ_=>ZD (i:=k) O O E)<|pq (λ_ hc=>Qd (H.step hc hf) O q)<|p (λ_=>UW (a:=n) (b:=4) O O ql (by decide))<|p (λ_=>Zc O O)<|?_
  refine p (λ_=>Qa O)<|pk<|QC (hp.ext Y) O O (by simp) rfl λw7 T hh=>⟨(Y.any (L:=[G])).trans' T,?_⟩;refine p (λ_=>Qa O)<|pk<|QC hh O O (by simp) rfl λw8 hr h6=>⟨((Y.any (L:=[G])).trans' T).trans' hr,?_⟩;refine p (λ_=>Qa O)<|pkl (hl:=by kernel_rfl)<|QC h6 O O (by simp) rfl λw9 h9 hA=>pe ?_;refine⟨(),Z,(((Y.any (L:=[G])).trans' T).trans' hr).trans' h9,?_⟩
  unfold JH;rw[if_neg hc];exact hA
 rintro _ g6 I ⟨hB,hC⟩;have hD:Step [] w2 I:=he.then1 hB (by omega);refine Qx<|Qb<|x (Qo hC O O)<|xl O<|QJ (us:=[Zo (JH k n)]) O O (by decide) (show 1*5≤1000000 by omega) ⟨O,O,Z⟩ λhR hS hE hT hF=>?_;have hi:=hD.trans hE;have hU:=hi.size
 refine xl rfl<|Q5 (news:=Zo (JH k n)) (L:=[]) (Qs J hi) O O O (hF.at (by simp)) (Qgm _) (by omega) (by omega) λhG hV hH hI hW =>
  Qe<|Qx<|Qb<|QN O O<|Qe<|⟨(k+1,hG),by simp only[];omega,⟨O,O,Z⟩,E,(U.trans hi).then hI (λc hc=>.inr (Qq J c hc).1),?_⟩
 simp only[];rw[ho,Lj,LD];simpa using hH
section
variable {a:QM}
end
structure D25 (c:ZE):Prop where
 ev:c.ev.length=5∧Jd c.ev=0
 c0:c.co.length≠0
 c3:c.co.length≤3
 r2:c.rq.length≤2
 co:∀x∈c.co,Y0 x.nm=true∧GdA x.a∧∀e∈x.a.al,e<5
 rq:∀x∈c.rq,Y0 x.nm=true∧GdA x.a∧∀e∈x.a.al,∃y∈c.co,e∈y.a.al
 nd:(c.co.map (·.nm)++c.rq.map (·.nm)).Nodup
 x2:c.ex.length≤2
 ex:∀x∈c.ex,Y0 x.nm=true∧x.ls≠[]∧Xb (szs c.co) none x.ls=0
 xn:(c.ex.map (·.nm)).Nodup
 k1:c.cs.length≤1
 cs:∀x∈c.cs,Y0 x.nm=true∧YW (szs c.co) x=0
theorem Qfu:∀{k:Nat},k<5→Y0 (nm1 97 k)=true
 | 0,_=>by decide
 | 1,_=>by decide
 | 2,_=>by decide
 | 3,_=>by decide
 | 4,_=>by decide
theorem Vz {seen:List ByteArray}{k n:Nat}(hk:k<5)(hs:nm1 97 k∉seen):Xn seen (JH k n)=0:=by
 have E:(JH k n).nm=nm1 97 k:=by unfold JH;split <;> rfl
 unfold Xn;rw[E,if_neg (by rw[Qfu hk];decide),if_neg hs];unfold JH;by_cases h:48≤n∧n<52
 ·rw[if_pos h];simp only[];rw[if_neg (by omega),if_neg (by simp)]
 rw[if_neg h];simp only[];rw[if_neg (by omega),if_neg (by simp)]
theorem Qgp (ns:LN):Jd (XM ns 5)=0:=by
 have e:XM ns 5=[JH 0 (ns.getD 0 0),JH 1 (ns.getD 1 0),JH 2 (ns.getD 2 0),JH 3 (ns.getD 3 0),JH 4 (ns.getD 4 0)]:=rfl;have E:∀k n,(JH k n).nm=nm1 97 k:=λk n=>by unfold JH;split <;> rfl
 unfold Jd;rw[if_neg (by rw[Ko];decide),e];simp only[Ug,E];rw[Vz (by decide) (by decide),Vz (by decide) (by decide),Vz (by decide) (by decide),Vz (by decide) (by decide),Vz (by decide) (by decide)];simp
end Go.Proofs.YtjcgijbhaemldaaGreatDoor
namespace Go.Proofs
open Go.Proofs.Tryz
open Go.Shelf
def Tryz.sortI_ren:Go.Shelf.Ren:=⟨λ|5=>109|8=>165|7=>164|19=>207|20=>208|10=>199|11=>200|12=>201|13=>202|14=>203|15=>204|16=>107|17=>205|18=>206|30=>230|31=>231|32=>232|33=>233|34=>234|35=>163|40=>246|n=>n,λ|23=>39|25=>3|3=>3|32=>218|22=>39|0=>0|44=>332|46=>334|4=>4|36=>326|35=>325|41=>141|5=>5|9=>9|53=>351|57=>355|63=>366|64=>284|n=>n,λ|n=>n⟩
theorem Tryz.sortI:Go.Proofs.SlLaysM.n5 prog Tryz.sortI_ren:={
 mixed:=by kernel_rfl
 f5:=⟨Tryz.f109.name,by decide,func109.trans (congrArg some (by kernel_rfl))⟩
 f7:=⟨Tryz.f164.name,by decide,func164.trans (congrArg some (by kernel_rfl))⟩
 f8:=func165.trans (congrArg some (by kernel_rfl))
 f10:=⟨Tryz.f199.name,by decide,func199.trans (congrArg some (by kernel_rfl))⟩
 f11:=⟨Tryz.f200.name,by decide,func200.trans (congrArg some (by kernel_rfl))⟩
 f12:=⟨Tryz.f201.name,by decide,func201.trans (congrArg some (by kernel_rfl))⟩
 f13:=⟨Tryz.f202.name,by decide,func202.trans (congrArg some (by kernel_rfl))⟩
 f14:=⟨Tryz.f203.name,by decide,func203.trans (congrArg some (by kernel_rfl))⟩
 f15:=⟨Tryz.f204.name,by decide,func204.trans (congrArg some (by kernel_rfl))⟩
 f16:=⟨Tryz.f107.name,by decide,func107.trans (congrArg some (by kernel_rfl))⟩
 f17:=⟨Tryz.f205.name,by decide,func205.trans (congrArg some (by kernel_rfl))⟩
 f18:=⟨Tryz.f206.name,by decide,func206.trans (congrArg some (by kernel_rfl))⟩
 f19:=func207.trans (congrArg some (by kernel_rfl))
 f20:=func208.trans (congrArg some (by kernel_rfl))
 f30:=⟨Tryz.f230.name,by decide,func230.trans (congrArg some (by kernel_rfl))⟩
 f31:=func231.trans (congrArg some (by kernel_rfl))
 f32:=func232.trans (congrArg some (by kernel_rfl))
 f33:=⟨Tryz.f233.name,by decide,func233.trans (congrArg some (by kernel_rfl))⟩
 f34:=⟨Tryz.f234.name,by decide,func234.trans (congrArg some (by kernel_rfl))⟩
 f35:=⟨Tryz.f163.name,by decide,func163.trans (congrArg some (by kernel_rfl))⟩
 f40:=⟨Tryz.f246.name,by decide,func246.trans (congrArg some (by kernel_rfl))⟩
 t0:=underlying0
 a0:=Tryz.isAgg0
 z0:=Tryz.sizeOf0
 v0:=Tryz.zeroValue0
 t3:=underlying3
 a3:=Tryz.isAgg3
 z3:=Tryz.sizeOf3
 v3:=Tryz.zeroValue3
 t4:=underlying4
 a4:=Tryz.isAgg4
 z4:=Tryz.sizeOf4
 v4:=Tryz.zeroValue4
 t5:=underlying5
 a5:=Tryz.isAgg5
 z5:=Tryz.sizeOf5
 v5:=Tryz.zeroValue5
 t9:=underlying9
 a9:=Tryz.isAgg9
 z9:=Tryz.sizeOf9
 v9:=Tryz.zeroValue9
 t22:=underlying39
 a22:=Tryz.isAgg39
 z22:=Tryz.sizeOf39
 v22:=Tryz.zeroValue39
 t23:=underlying39
 a23:=Tryz.isAgg39
 z23:=Tryz.sizeOf39
 v23:=Tryz.zeroValue39
 t25:=underlying3
 a25:=Tryz.isAgg3
 z25:=Tryz.sizeOf3
 v25:=Tryz.zeroValue3
 t32:=underlying218
 a32:=Tryz.isAgg218
 z32:=Tryz.sizeOf218
 v32:=Tryz.zeroValue218
 t35:=underlying325
 a35:=Tryz.isAgg325
 z35:=Tryz.sizeOf325
 v35:=Tryz.zeroValue325
 t36:=underlying326
 a36:=Tryz.isAgg326
 z36:=Tryz.sizeOf326
 v36:=Tryz.zeroValue326
 t41:=underlying141
 a41:=Tryz.isAgg141
 z41:=Tryz.sizeOf141
 v41:=Tryz.zeroValue141
 t44:=underlying332
 a44:=Tryz.isAgg332
 z44:=Tryz.sizeOf332
 v44:=Tryz.zeroValue332
 t46:=underlying334
 a46:=Tryz.isAgg334
 z46:=Tryz.sizeOf334
 v46:=Tryz.zeroValue334
 t53:=underlying351
 a53:=Tryz.isAgg351
 z53:=Tryz.sizeOf351
 v53:=Tryz.zeroValue351
 t57:=underlying355
 a57:=Tryz.isAgg355
 z57:=Tryz.sizeOf355
 v57:=Tryz.zeroValue355
 t63:=underlying366
 a63:=Tryz.isAgg366
 z63:=Tryz.sizeOf366
 v63:=Tryz.zeroValue366
 t64:=underlying284
 a64:=Tryz.isAgg284
 z64:=Tryz.sizeOf284
 v64:=Tryz.zeroValue284 }
def Tryz.cmpI_ren:Go.Shelf.Ren:=⟨λ|43=>110|n=>n,λ|22=>39|23=>3|3=>3|4=>4|0=>0|n=>n,λ|n=>n⟩
theorem Tryz.cmpI:Go.Proofs.SlLaysE.n43 prog Tryz.cmpI_ren:={
 mixed:=by kernel_rfl
 f43:=⟨Tryz.f110.name,by decide,func110.trans (congrArg some (by kernel_rfl))⟩
 t0:=underlying0
 a0:=Tryz.isAgg0
 z0:=Tryz.sizeOf0
 v0:=Tryz.zeroValue0
 t3:=underlying3
 a3:=Tryz.isAgg3
 z3:=Tryz.sizeOf3
 v3:=Tryz.zeroValue3
 t4:=underlying4
 a4:=Tryz.isAgg4
 z4:=Tryz.sizeOf4
 v4:=Tryz.zeroValue4
 t22:=underlying39
 a22:=Tryz.isAgg39
 z22:=Tryz.sizeOf39
 v22:=Tryz.zeroValue39
 a23:=Tryz.isAgg3
 z23:=Tryz.sizeOf3 }
def Tryz.delI_ren:Go.Shelf.Ren:=⟨λ|10=>61|6=>111|n=>n,λ|22=>39|23=>3|25=>149|3=>3|4=>4|0=>0|n=>n,λ|n=>n⟩
theorem Tryz.delI:Go.Proofs.SlLaysH.n10 prog Tryz.delI_ren:={
 mixed:=by kernel_rfl
 f6:=⟨Tryz.f111.name,by decide,func111.trans (congrArg some (by kernel_rfl))⟩
 f10:=⟨Tryz.f61.name,by decide,func61.trans (congrArg some (by kernel_rfl))⟩
 t0:=underlying0
 a0:=Tryz.isAgg0
 z0:=Tryz.sizeOf0
 v0:=Tryz.zeroValue0
 t3:=underlying3
 a3:=Tryz.isAgg3
 z3:=Tryz.sizeOf3
 v3:=Tryz.zeroValue3
 t4:=underlying4
 a4:=Tryz.isAgg4
 z4:=Tryz.sizeOf4
 v4:=Tryz.zeroValue4
 t22:=underlying39
 a22:=Tryz.isAgg39
 z22:=Tryz.sizeOf39
 v22:=Tryz.zeroValue39
 a23:=Tryz.isAgg3
 z23:=Tryz.sizeOf3
 t25:=underlying149
 a25:=Tryz.isAgg149
 z25:=Tryz.sizeOf149
 v25:=Tryz.zeroValue149 }
end Go.Proofs
namespace Go.Proofs.YtjcgijbhaemldaaGreatDoor
open Go.Proofs.Tryz
open Go.Lg Go.Sort Go.Lib
abbrev iC:Int→Value:=Value.int .i64
theorem VT {e:Nat}{w:World}{l:LI}{g:Nat}{cur:Array Value}(E:w.heap[g]?=some (.cells cur e (0,0)))(G:cur.toList.take (l.length*1)=l.map iC):Holds iC w g 0 l.toArray:=by
 intro j hj;rw[L6]at hj;have h1:cur.toList[j]?=some (iC l[j]):=by
  have h2:(cur.toList.take (l.length*1))[j]?=(l.map iC)[j]?:=by rw[G]
  rw[LX,if_pos (by omega),M6,LA hj]at h2;exact h2
 have h3:l.toArray[j]! = l[j]:=by simp[hj]
 constructor
 ·show(match w.heap[g]? with|some (.cells c _ _)=>if(none:Option _).isSome then none else c[0+j]?|_=>none)=_
  rw[E,h3];simp only[Nat.zero_add,Option.isSome_none,Bool.false_eq_true,if_false];rw[←M0,h1]
 show(match w.heap[g]? with|some (.cells _ _ (lo,hi))=>decide (lo≤0+j) && decide (0+j<hi)|_=>false)=false
 rw[E];simp
theorem yL {e base:Nat}{w:World}{g cap n k:Nat}{cur:Array Value}{os:Array Obj}{d:Array Int}(I:base≤g)(H:w.heap[g]?=some (.cells cur e (0,0)))(hb:d.size≤cap)(J:cap≤maxLen)(T:cur.size=cap*1)(hk:k≤d.size):
  Step [g] w (grow (putRow iC (Sort.ahead w n) g 0 d) os)∧Qt e base (grow (putRow iC (Sort.ahead w n) g 0 d) os) (.slice (some ⟨g,0,none⟩) k cap) (d.toList.take k):=by
 have U:g<w.heap.size:=(LB.1 H).1;have E:(grow (putRow iC (Sort.ahead w n) g 0 d) os).heap=w.heap.modify g (onCells (putCells iC 0 d))++os:=rfl;have V:(d.toList.take k).length=k:=by simp;omega
 refine⟨⟨O,O,O,?_,λi hi Y=>?_⟩,?_⟩
 ·rw[E,Array.size_append,MX];omega
 ·rw[E,MK,MX,if_pos hi,Ng,if_neg (λe=>Y (by simp[e]))]
 unfold Qt;rw[V];refine⟨by simp;omega,.inr ⟨g,cap,putCells iC 0 d cur,O,I,?_,by omega,J,by simp[putCells,T],?_⟩⟩
 ·rw[E,MK,MX,if_pos U,Ng,if_pos rfl,H];rfl
 apply List.ext_getElem?;intro j;rw[LX,M6,LX];by_cases hj:j<k
 ·rw[if_pos (by omega),if_pos hj];have ha:j<cur.size:=by omega
  have G:j<d.size:=by omega
  rw[M0,M0,MI G];simp only[putCells,Array.getElem?_mapIdx,Array.getElem?_eq_getElem ha,Option.map_some,Nat.zero_le,Nat.zero_add,true_and,if_pos G,Nat.sub_zero];rw[getElem!_pos d j G]
 rw[if_neg (by omega),if_neg hj];rfl
theorem Qdu {w:World}{base:Nat}{v:Value}{l:LI}(h:Qt 3 base w v l)(hl:l.length≤1099511627776):
  QE prog 109 [v] w λ_ w'=>Step (ob v) w w'∧Qt 3 base w' v (l.mergeSort λx y=>decide (x≤y)):=by
 unfold QE;rcases h.2 with⟨rfl,H⟩|⟨g,cap,cur,rfl,I,E,ha,J,T,U⟩
 ·have V:l=[]:=Lq H;subst V;have hc:=AnyM.slices_Sort_int_none Tryz.sortI none 0 w;change Calls prog 109 _ _ _ at hc;refine Calls.mono hc λe w' he=>?_;obtain⟨rfl,rfl⟩:=he;exact⟨Step.refl _ _,by rw[List.mergeSort_nil];exact h⟩
 have Y:g<w.heap.size:=(LB.1 E).1;have hc:=AnyM.slices_Sort_int Tryz.sortI g 0 cap l w (VT E U) Y (by omega);change Calls prog 109 _ _ _ at hc;refine Calls.mono hc λe w' he=>?_;obtain⟨rfl,n,os,rfl⟩:=he;have hp:=List.mergeSort_perm l (λx y=>decide (x≤y));have G:=hp.length_eq
 have:=yL (e:=3) (n:=n) (k:=l.length) (os:=os) (d:=(l.mergeSort λx y=>decide (x≤y)).toArray) I E (by simp;omega) J T (by simp);refine⟨this.1,?_⟩;have h2:=this.2;simp only[List.take_of_length_le (Nat.le_of_eq G)]at h2;unfold Qt at h2 ⊢;rw[G]at h2 ⊢;exact h2
theorem QeS {w:World}{base:Nat}{v:Value}{l:LI}(h:Qt 3 base w v l)(hl:l.length≤1099511627776):
  QE prog 109 [v] w λ_ w'=>Step (ob v) w w'∧∃l',l'.length=l.length∧(∀x,x∈l'↔x∈l)∧Qt 3 base w' v l' :=
 (Qdu h hl).mono λ_ _ ⟨h1,h2⟩=>⟨h1,_,(List.mergeSort_perm l _).length_eq,λ_=>(List.mergeSort_perm l _).mem_iff,h2⟩
theorem Qc7 (l:LI):∀m,m≤l.length→∀x,x∈compactUpTo l.toArray m↔x∈l.take m
 | 0,_,x=>by simp[compactUpTo]
 | m+1,h,x=>by
  have ih:=Qc7 l m (by omega) x;have hm:m<l.length:=by omega
  have hx:l.toArray[m]! = l[m]:=by simp[hm]
  rw[compactUpTo_succ,Lp,ih,Le hm,Lp,hx,Lb];by_cases hk:keeps l.toArray m=true
  ·rw[if_pos hk,Lb]
  rw[if_neg hk];refine⟨λh=>.inl (h.resolve_right (by simp)),λh=>.inl (h.elim id λe=>?_)⟩;simp only[keeps,decide_eq_true_eq,not_or]at hk;have E:m≠0:=by simpa using hk.1
  have h1:l.toArray[m]! = l.toArray[m - 1]!:=by simpa using hk.2
  have h2:l.toArray[m - 1]! = l[m - 1]:=by simp[show m - 1<l.length by omega]
  rw[e,←hx,h1,h2];rw[List.mem_take_iff_getElem];exact⟨m - 1,by omega,O⟩
theorem Qi5 {w:World}{base:Nat}{v:Value}{l:LI}(h:Qt 3 base w v l)(hl:l.length≤1099511627776):
  QE prog 110 [v] w λr w'=>Step (ob v) w w'∧∃l',l'.length≤l.length∧(∀x,x∈l'↔x∈l)∧Qt 3 base w' r l':=by
 rcases h.2 with⟨rfl,G⟩|⟨g,cap,cur,rfl,H,E,I,J,T,U⟩
 ·have V:l=[]:=Lq G;subst V;refine QE.of_W func110 O ntmps110 results110 (by simp) ?_;refine Qc<|Qe<|Qg<|Qc<|Qb<|x (KC O)<|x (QA O O)<|xe<|Q2 O (λ_=>?_) (λY=>absurd (by decide) Y);refine Qc<|Qb<|Qe ?_;exact Qk ⟨[nS],La,Step.refl _ _,[],Lu _,λx=>Iff.rfl,h⟩
 unfold QE;have hc:=AnyE.slices_Compact Tryz.cmpI iC (λ_=>O) (.intD _ _ .i64) (.intD _ _ .i64) 0 (λw=>by kernel_rfl) g 0 cap l.toArray w (VT E U) (by simp;omega) (by simpa using I);change Calls prog 110 _ _ _ at hc;rw[L6]at hc;refine Calls.mono hc λe w' he=>?_;obtain⟨rfl,q,rfl⟩:=he;have hm:=Qc7 l l.length (Lu _);rw[M1]at hm
 have ha:(compactUpTo l.toArray l.length).length≤l.length:=by
  unfold compactUpTo;rw[Li];exact LJ (LU _ _) (by simp)
 generalize compactUpTo l.toArray l.length=u at *;have:=yL (e:=3) (n:=q) (k:=u.length) (os:=#[]) (d:=(u++List.replicate (l.length - u.length) 0).toArray) H E (by simp;omega) J T (by simp);rw[grow_empty]at this;refine⟨this.1,u,ha,hm,?_⟩;have h2:=this.2;have h3:(u++List.replicate (l.length - u.length) 0).toArray.toList.take u.length=u:=by simp
 rw[h3]at h2;exact h2
theorem Qa5 {w:World}{va vb:Value}{a b:LI}(ha:QI [] w.heap va a)(hb:QI [] w.heap vb b)(hl:a.length+b.length≤1000):
  QE prog 59 [va,vb] w λr w'=>Step [] w w'∧∃l,l.length≤a.length+b.length∧(∀x,x∈l↔x∈a∨x∈b)∧Qt 3 w.heap.size w' r l:=by
 refine QE.of_W func59 O ntmps59 results59 (by simp) ?_;refine Qc<|Qe<|Qc<|Qb<|xl O<|xf<|(Yl ha).mono ?_;rintro v1 w1 ⟨E,G⟩;have hk:=E.size;refine Qb<|xl O<|Qbq G O (hb.ext E) O (U0 b) (by omega) (by omega) λT H U V hm=>Qe ?_;have I:Qt 3 w.heap.size H T (a++b):=by
  unfold Qt;rw[Lj,Lv];exact U
 have Y:Step [] w H:=E.then V (λc hc=>.inr (Qq G c hc).1);have hn:(a++b).length=a.length+b.length:=Lj;refine Qc<|Qb<|xl O<|xf<|(QeS I (by omega)).mono ?_;rintro r3 w3 ⟨he,l3,ho,hf,J⟩;have hg:Step [] w w3:=Y.then he (λc hc=>.inr (Qq I c hc).1);refine xe<|Qc<|Qb<|xl O<|xf<|(Qi5 J (by omega)).mono ?_;rintro r4 w4 ⟨hh,l4,hp,hi,hj⟩
 refine Qe ?_;exact Qk ⟨[_],La,hg.then hh (λc hc=>.inr (Qq J c hc).1),l4,by omega,λx=>by rw[hi,hf,Lp],hj⟩
theorem qg {w:World}{v:Value}{al:LI}{ns:LN}(h:QI [] w.heap v al)(hb:∀e∈al,0≤e∧e<32)(hi:Yy al)(hn:ns.length=27)(J:∀n∈ns,n<256):
  QE prog 60 [v,.agg (bys ns).toArray,.int .i64 3] w λr w'=>Step [] w w'∧∃a:QM,Xk w.heap.size w'.heap r a∧GdA a∧a.al=al:=by
 refine QE.of_W func60 O ntmps60 results60 (by simp) ?_;refine Qc<|xl O<|QP (us:=bys ns) O λb4 w1 hh hj E=>xl O<|Qr (us:=[nS,.int .i64 0,nS,nS]) O λb6 w2 G hs T=>xe ?_;obtain⟨s0,hk⟩:∃s0,ns.getD 0 0=s0:=⟨_,O⟩;have U:ns[0]?=some s0:=by
  rw[←hk,MU,LA (by omega)];rfl
 have ht:s0<256:=J s0 (Mf U);have q0:(bys ns)[0]?=some (.int .u8 (s0:Int)):=by
  unfold bys;rw[M6,U];rfl
 have hl:=hh.trans G;have hu:=E.lt;have hw:=T.lt;refine Qc<|x (Qa O)<|x (Qd (E.ext G) O q0)<|Qb<|x (ZZ (k':=.u8) O ⟨by omega,by omega⟩)<|x (Ve (a:=(s0:Int)) (b:=3) O O (by omega) (by omega))<|x (Qa O)<|xl O<|QC (u:=.int .u8 ((s0 % 3:Nat):Int)) (E.ext G) O (congrArg (Value.int .u8) (by omega:(s0:Int) % 3=((s0 % 3:Nat):Int))) (by rw[YQ];omega) O λw3 H V =>
  xe ?_
 have I:Step [] w w3:=hl.then1 H hj;rw[QgQ]at V;have Y:(ns.set 0 (s0 % 3)).length=27:=by rw[ML];exact hn
 have ha:(ns.set 0 (s0 % 3)).getD 0 0=s0 % 3:=QeV (by omega);refine Qc<|Qb<|x (Qo V O (by rw[YQ];exact Y))<|xl O<|xf<|(QdN (h.ext I) hb hi Y (QhO J (by omega))).mono ?_;rintro r4 w4 ⟨he,a,hA,hy,_,hm,hc⟩;obtain⟨a0,k0,k1,k2,k3⟩:=hc (by rw[ha];omega);rw[ha]at k2;obtain⟨us,hv,hf,ho⟩:=Yo hA
 have hp:QS w4.heap b6 50 [nS,.int .i64 0,nS,nS]:=(T.step H (by simp only[List.mem_singleton];omega)).ext he;have hq:=I.size;have hz:=H.size;refine xl rfl<|Qm (us:=us) hp O (show Go.Lg.ev _ _=_ from hv) hf O ho λw5 hg hr=>xe ?_
 refine Qk ⟨[.agg us.toArray],⟨⟨_,O,Qv hf (hr.at (L:=[]) (by simp)).cells⟩,Z⟩,(I.trans he).then1 hg (by omega),a,?_,GdA.of k0 k1 k2 k3 (Nat.mod_lt _ (by decide)),hm⟩;show Xk _ _ (.agg us.toArray) _;rw[←hv];exact(Xe hA (by omega) hg).mono hq
end Go.Proofs.YtjcgijbhaemldaaGreatDoor
namespace Go.Lg
section
variable {P:Program}{f:Fr}{w:World}{d:Option Nat}{ty:Nat}{ps:String}{af:Array Edge}{gd:Option (Nat×Bool)}
theorem Qbh {t E:Nat}{k:IntKind}[h:Ik P t k][h':St P E]{x:Operand}{n:Nat}{G:IntKind}(hx:ev f x=.int G n)(H:n<128):
  (execOp (ev f) ⟨d,.convert t E x,ty,ps,af,gd⟩).run P w=.ok (.value (.string ⟨#[UInt8.ofNat n]⟩)) w:=by
 refine Uw hx ?_;rw[run_convert_int_string w t E G n (by rw[h.u];rfl) h'.u];have I:Utf8.valid (n:Int)=true:=by
  unfold Utf8.valid;simp;omega
 unfold Utf8.encode;simp only[I,if_true,Int.toNat_natCast,H]
theorem Qe8 {t E:Nat}{x y:Operand}{k:IntKind}{a b:Int}(hx:ev f x=.int k a)(hy:ev f y=.int k b)(hb:b≠0):
  (execOp (ev f) ⟨d,.binOp .rem t x y E,ty,ps,af,gd⟩).run P w=.ok (.value (.int k (a.tmod b))) w:=by
 refine YV hx hy ?_;simp[binOp,Op.intDiv,hb]
end
end Go.Lg
namespace Go.Proofs.YtjcgijbhaemldaaGreatDoor
open Go.Proofs.Tryz
open Go.Lg Go.Sort
theorem Qkt {L:LN}{b T:Nat}{va:Value}{al:LI}(e:Int)(w:World)(E:QS w.heap b T [va])(G:QI L w.heap va al):
  QE prog 62 ([.int .i64 e]++[.pointer (some ⟨b,0,none⟩)]) w λr w'=>r=.bool (decide (e∉al))∧w'=w:=by
 refine QE.of_W func62 O ntmps62 results62 (by simp) ?_;refine Qc<|Qe<|Qc<|x (Qd E O O)<|Qb<|xl O<|xf<|(Z7 G e).mono ?_;rintro H I ⟨rfl,rfl⟩;refine x (Zp O)<|Qe<|Qk ⟨[_],La,?_,O⟩;show Value.bool (!decide (e∈al))=_;rw[decide_not]
theorem zO {L:LN}{b T:Nat}{va:Value}{al:LI}(e:Int)(w:World)(E:QS w.heap b T [va])(G:QI L w.heap va al):
  FnGives prog 62 #[.pointer (some ⟨b,0,none⟩)] #[iC e] (.bool (decide (e∉al))) w:=by
 have h:=Qkt e w E G;unfold QE at h;unfold FnGives;refine Calls.mono h λH w' he=>?_;cases H with
 | returned v =>
  obtain⟨rfl,rfl⟩:=he;exact⟨O,0,O⟩
 | _=>exact he.elim
theorem Qke {w:World}{g n:Nat}{os:Array Obj}{d:Array Int}:Step [g] w (grow (putRow iC (Sort.ahead w n) g 0 d) os):=by
 have E:(grow (putRow iC (Sort.ahead w n) g 0 d) os).heap=w.heap.modify g (onCells (putCells iC 0 d))++os:=rfl;refine⟨O,O,O,?_,λi hi G=>?_⟩
 ·rw[E,Array.size_append,MX];omega
 rw[E,MK,MX,if_pos hi,Ng,if_neg (λe=>G (by simp[e]))]
theorem QiZ {w:World}{base b T:Nat}{v va:Value}{l al:LI}(h:Qt 3 base w v l)(hl:l.length≤1099511627776)(G:QS w.heap b T [va])(hb:b∉ob v)(H:QI (ob v) w.heap va al):
  QE prog 61 [v,.func (.func 62) #[] #[.pointer (some ⟨b,0,none⟩)]] w λr w'=>Step (ob v) w w'∧Qt 3 base w' r (l.filter λx=>decide (x∈al)):=by
 have eg:∀args w,(callFunc 62 args).run prog w=.ok (.enter 62 args) w:=enters_of func62 (by kernel_rfl) O;rcases h.2 with⟨rfl,V⟩|⟨g,cap,cur,rfl,Y,I,ha,hh,hi,hj⟩
 ·have hm:l=[]:=Lq V;subst hm;refine QE.of_W func61 O ntmps61 results61 (by simp) ?_;refine Qc<|Qe<|Qc<|Qb<|Qb<|xl O<|xf<|(QfS (cap:=[.pointer (some ⟨b,0,none⟩)]) (q:=λ_=>true) (QI.fl (X7 [] w.heap)) (λe he=>by cases he)).mono ?_;rintro r1 w1 ⟨rfl,J⟩;refine Qe<|Qg<|Qc<|Qb<|x (Zc O O)<|xe<|Q2 O (λ_=>?_) (λh8=>absurd O h8);refine Qc<|Qb<|Qe ?_
  exact Qk ⟨[nS],La,J,Qs h J⟩
 unfold QE;have U:=λ(n:Nat) (os:Array Obj) (d:Array Int)=>Qke (w:=w) (g:=g) (n:=n) (os:=os) (d:=d);have hn:b∉[g]:=hb;have ho:QI [g] w.heap va al:=H;have hc:=AnyE.slices_DeleteFunc Tryz.delI iC (λ_=>O) (λx=>decide (x∉al)) 62 #[.pointer (some ⟨b,0,none⟩)] eg 0 (λw=>by kernel_rfl) g 0 cap l.toArray w
  (λW x E=>by
   have hs:Step [] w W:=⟨E.os,E.tape,E.output,E.size,λk hk _=>E.block k hk⟩;exact zO x W (G.ext hs) (H.ext hs))
  (λn os dk x _=>zO x _ (G.step (U n os dk) hn) (ho.st (U n os dk)))
  (VT I hj) (by simp;omega) (by simpa using ha)
 change Calls prog 61 _ _ _ at hc;rw[L6]at hc;refine Calls.mono hc λe w' he=>?_;obtain⟨rfl,q,rfl⟩:=he;have hf:(l.toArray.toList.filter λx=>!decide (x∉al))=l.filter λx=>decide (x∈al):=by
  refine List.filter_congr λx _=>?_;by_cases hx:x∈al <;> simp[hx]
 rw[hf];have hp:=LU (λx=>decide (x∈al)) l;generalize (l.filter λx=>decide (x∈al))=u at *;have:=yL (e:=3) (n:=q) (k:=u.length) (os:=#[]) (d:=(u++List.replicate (l.length - u.length) 0).toArray) Y I (by simp;omega) hh hi (by simp);rw[grow_empty]at this;refine⟨this.1,?_⟩;have h2:=this.2
 have h3:(u++List.replicate (l.length - u.length) 0).toArray.toList.take u.length=u:=by simp
 rw[h3]at h2;exact h2
end Go.Proofs.YtjcgijbhaemldaaGreatDoor
namespace Go.Lg
section
variable {P:Program}{f:Fr}{w:World}{K:Fr→World→Prop}{d:Option Nat}{ty:Nat}{ps:String}{af:Array Edge}{gd:Option (Nat×Bool)}
theorem Qh3 {t e sz bys:Nat}{z:Value}[h:Sl P t e sz bys z](Y:∀u∈z.cells,u.oneCell'=true){s:Operand}{b o m c T:Nat}{cs:LV}(H:QS w.heap b T cs)(hs:∃E,ev f s=.slice (some ⟨b,E,none⟩) m c∧(0<m→E=o∧o+m*sz≤cs.length))
  (U:∀w' cs',Step [b] w w'→QS w'.heap b T cs'→cs'.length=cs.length→cs'.take o=cs.take o→K (QY f d (.tuple #[])) w'):XO P ⟨d,.call ⟨.builtin .clear,#[s],#[t]⟩,ty,ps,af,gd⟩ f w K:=by
 obtain⟨E,hs,hm⟩:=hs;obtain⟨i,hi,hz,hc,_⟩:=Sl.info h;have ha:=h.zs;rcases Nat.eq_zero_or_pos m with rfl|hmp
 ·have I:(execOp (ev f) ⟨d,.call ⟨.builtin .clear,#[s],#[t]⟩,ty,ps,af,gd⟩).run P w=.ok (.value (.tuple #[])) w:=by
   simp[execOp,resolve,invoke,builtin,hs,Builtin.clear_,run_underlying h.u]
  exact xv I (U w cs (Step.refl _ _) H O O)
 obtain⟨rfl,he⟩:=hm hmp;have hb:(Builtin.zeroCells z.cells m).toList.length=m*sz:=by simp[Builtin.zeroCells,ha]
 have J:=run_storeCells_at P b E T (Builtin.zeroCells z.cells m).toList 0 cs.toArray w H (by simp only[List.size_toArray];omega) (λu hu=>by
  simp only[Builtin.zeroCells,Array.toList_map,List.mem_map]at hu;obtain⟨j,hj,rfl⟩:=hu;have hf:=h.pos;have V:j % z.cells.size<z.cells.size:=Nat.mod_lt _ (by omega);rw[getElem!_pos z.cells _ V];exact Y _ (Array.getElem_mem V))
 simp only[Nat.add_zero]at J;obtain⟨G,rfl⟩:∃G,m=G+1:=⟨m - 1,by omega⟩;have I:(execOp (ev f) ⟨d,.call ⟨.builtin .clear,#[s],#[t]⟩,ty,ps,af,gd⟩).run P w=.ok (.value (.tuple #[])) (w.setRow b ((cs.take E++(Builtin.zeroCells z.cells (G+1)).toList++cs.drop (E+(Builtin.zeroCells z.cells (G+1)).toList.length))).toArray):=by
  simp[execOp,resolve,invoke,builtin,hs,Builtin.clear_,run_underlying h.u,zeroValue,typeInfo,hi,hz]at J ⊢;simp[J]
 refine xv I (U _ _ (Step.setRow _ _ _) (JA H) ?_ ?_)
 ·simp only[List.length_append,List.length_take,List.length_drop,hb];omega
 rw[LC,List.take_append_of_le_length (by simp;omega),List.take_take,Nat.min_self]
theorem J5 {α:Type}{sz:Nat}{g:α→LV}(E:∀x,(g x).length=sz):∀(l:List α) (i:Nat) (u:α),i<l.length→(l.set i u).flatMap g=(l.flatMap g).take (i*sz)++g u++(l.flatMap g).drop (i*sz+sz)
 | [],i,u,h=>absurd h (by simp)
 | a::l,0,u,h=>by
  rw[List.set_cons_zero,LF,LF,Nat.zero_mul,Nf,Mi,LQ,List.drop_append_of_le_length (by rw[E a];exact Lu _),Ls (by rw[E a];exact Lu _),Mi]
 | a::l,i+1,u,h=>by
  have h1:(i+1)*sz=(g a).length+i*sz:=by rw[E a,Nat.succ_mul];omega
  have h2:(i+1)*sz+sz=(g a).length+(i*sz+sz):=by omega
  have G:∀(F:LV) k,(g a++F).take ((g a).length+k)=g a++F.take k:=λF k=>by rw[Nr,Lm (l:=g a) (by omega),MT]
  have H:∀(F:LV) k,(g a++F).drop ((g a).length+k)=F.drop k:=λF k=>by rw[List.drop_append,Ls (l:=g a) (by omega),Mi,MT]
  rw[List.set_cons_succ,LF,LF,h2,h1,G,H,J5 E l i u (by simpa using h)];simp only[List.append_assoc]
theorem QdI {α:Type}{t sz:Nat}[h1:Ag P t sz]{g:α→LV}(E:∀x,(g x).length=sz){x y:Operand}{base e b cap i:Nat}{l:List α}{u:α}(h:w.ownsRow base e sz (.slice (some ⟨b,0,none⟩) l.length cap) l.length (l.flatMap g))(hx:ev f x=.pointer (some ⟨b,i*sz,none⟩))(hy:ev f y=.agg (g u).toArray)(hi:i<l.length)(hu:ZF (g u))
  (I:∀w',Step [b] w w'→w'.ownsRow base e sz (.slice (some ⟨b,0,none⟩) l.length cap) l.length ((l.set i u).flatMap g)→K (QY f d undef) w'):XO P ⟨d,.store t x y,ty,ps,af,gd⟩ f w K:=by
 rcases h.2 with⟨e1,_⟩|⟨g',cap',cur,e1,J,T,G,U,V,Y⟩
 ·cases e1
 cases e1
 have hB:QS w.heap b e cur.toList:=T;have he:l.length*sz≤cap*sz:=Ms _ G;have ha:(i+1)*sz≤l.length*sz:=Ms _ hi;rw[Nat.succ_mul]at ha;have H:cur.toList.length=cap*sz:=by rw[Nn];exact V
 have hb:=h.1;refine Jl hB hx hy (E u) (by omega) hu O λw' hs hc=>I w' hs ⟨?_,.inr ⟨b,cap,_,O,J,hc,G,U,?_,?_⟩⟩
 ·rw[J5 E l i u hi];simp only[List.length_append,List.length_take,List.length_drop,E u,hb];omega
 ·simp only[List.size_toArray,List.length_append,List.length_take,List.length_drop,E u,H];omega
 have hX:(cur.toList.take (i*sz)++g u).length=i*sz+sz:=by simp only[List.length_append,List.length_take,E u,H];omega
 rw[J5 E l i u hi,←Y];show(cur.toList.take (i*sz)++g u++cur.toList.drop (i*sz+sz)).take (l.length*sz)=_;rw[Nr,Lm (by omega),hX,List.take_take,MN (by omega),List.drop_take]
end
end Go.Lg
namespace Go.Proofs.YtjcgijbhaemldaaGreatDoor
open Go.Proofs.Tryz
open Go.Lg
theorem Qfz (p:Int×Int)(w:World):QE prog 64 [.agg (QT p).toArray] w λr w'=>r=.bool (decide (p.2=0))∧Step [] w w':=by
 refine QE.of_W func64 O ntmps64 results64 (by simp) ?_;refine Qc<|xl O<|QP (us:=QT p) O λH I E J G=>Qe<|Qc<|x (Qa O)<|x (Qd G O O)<|x (Zc O O)<|Qe ?_;exact Qk ⟨[_],La,O,E⟩
theorem Qiw {gp:Nat}{fn:Func}[Fu prog gp fn]{cap:LV}{q:(Int×Int)→Bool}{L:LN}{w:World}{v:Value}{l:List (Int×Int)}(h:Zv L w.heap v l.length 2 (l.flatMap QT))
  (hk:∀e∈l,∀(G:World),Step [] w G→QE prog gp ([.agg (QT e).toArray]++cap) G λr w'=>r=.bool (q e)∧Step [] G w'):
  QE prog 112 [v,.func (.func gp) #[] cap.toArray] w λr w'=>r=.int .i64 (fix q 0 l)∧Step [] w w':=by
 have hb:=h.le;refine QE.of_W func112 O ntmps112 results112 (by simp) ?_;refine Qc<|Qe<|Qg<|Qc<|Qb<|x (Qu h O)<|Qb<|xe<|Qh<|Qz (α:=Nat) [(4,5),(8,18)] (λz=>[(8,.int .i64 z)]) (λz w'=>z≤l.length∧Step [] w w'∧fix q z (l.drop z)=fix q 0 l) (λz=>l.length - z) (by rfl) 0 La
  ⟨Lk _,Step.refl _ _,O⟩ ?_
 rintro k g G ⟨hk1,H,E⟩;refine Qc<|x (QA O O)<|xe<|Qg<|QD O (λh9=>?_) (λh9=>?_)
 ·refine Qy ?_;have Y:l.length≤k:=by have ha:¬(k:Int)<(l.length:Int):=h9;omega
  rw[Ls Y]at E;refine Qc<|Qe ?_;exact Qk ⟨[_],La,by rw[←E];rfl,H⟩
 have I:k<l.length:=by have ha:(k:Int)<(l.length:Int):=h9;omega
 rw[Q6 I,ZR]at E;have T:=Lh I;refine Qi<|Qg<|Qh<|Qc<|Qb<|Qe<|Qc<|Qb<|Qb<|Qb<|xig YM (h.ext H) O O I λhc U=>?_;refine Zb (l[k]'I) λe he=>?_;rw[he]at U E T;refine x (QG U O O)<|xl O<|xc (first:=[]) (capt:=cap) O<|(hk e T G H).mono ?_;rintro r2 w2 ⟨rfl,V⟩;refine xe<|QX rfl (λJ=>?_) (λJ=>?_)
 ·rw[if_pos J]at E;refine Qc<|Qb<|Qe ?_;exact Qk ⟨[_],La,by rw[←E];rfl,H.trans V⟩
 rw[if_neg (by rw[J];decide)]at E;refine Qi<|Qx<|QN O O<|Qb<|xe ?_;exact⟨k+1,by omega,La,I,H.trans V,E⟩
end Go.Proofs.YtjcgijbhaemldaaGreatDoor
namespace Go.Lg
section
variable {P:Program}{f:Fr}{w:World}{K:Fr→World→Prop}{d:Option Nat}{ty:Nat}{ps:String}{af:Array Edge}{gd:Option (Nat×Bool)}
theorem QdB {t e sz bys:Nat}{z:Value}[h:Sl P t e sz bys z]{x E:Operand}{b n cap:Nat}{k:IntKind}{lo:Nat}(hx:ev f x=.slice (some ⟨b,0,none⟩) n cap)(hl:ev f E=.int k lo)(h1:lo≤n):
  (execOp (ev f) ⟨d,.slice t x (some E) none none,ty,ps,af,gd⟩).run P w=.ok (.value (.slice (some ⟨b,if cap=lo then 0 else lo*sz,none⟩) (n - lo) (cap - lo))) w:=by
 obtain⟨i,G,_,H,_⟩:=Sl.info h;have e2:(Instr.sliceBound (.int k lo) n .sliceB).run P w=.ok lo w:=ZO h1;by_cases I:cap=lo
 ·simp[execOp,hx,hl,Instr.sliceAt,Instr.slice,run_underlying h.u,Instr.sliceBounds,e2,sizeOf,typeInfo,G,H,I]
 simp[execOp,hx,hl,Instr.sliceAt,Instr.slice,run_underlying h.u,Instr.sliceBounds,e2,sizeOf,typeInfo,G,H,I,Addr.add];exact λe=>e.symm
theorem QdC {t e sz bys:Nat}{z:Value}[h:Sl P t e sz bys z]{x E:Operand}{b n cap:Nat}{k:IntKind}{hi:Nat}(hx:ev f x=.slice (some ⟨b,0,none⟩) n cap)(G:ev f E=.int k hi)(h1:hi≤cap):
  (execOp (ev f) ⟨d,.slice t x none (some E) none,ty,ps,af,gd⟩).run P w=.ok (.value (.slice (some ⟨b,0,none⟩) hi cap)) w:=by
 obtain⟨i,H,_,I,_⟩:=Sl.info h;have e2:(Instr.sliceBound (.int k hi) cap .sliceAcap).run P w=.ok hi w:=ZO h1;simp[execOp,hx,G,Instr.sliceAt,Instr.slice,run_underlying h.u,Instr.sliceBounds,e2,sizeOf,typeInfo,H,Addr.add]
end
end Go.Lg
namespace Go.Proofs.YtjcgijbhaemldaaGreatDoor
open Go.Proofs.Tryz
open Go.Lg
theorem z7 {α:Type}(q:α→Bool):∀(l:List α) (i:Nat),(fix q i l=-1∧∀x∈l,q x=false)∨∃k,k<l.length∧fix q i l=((i+k:Nat):Int)∧l.take k=(l.take (k+1)).filter λx=>!q x
 | [],i=>.inl ⟨O,λx h=>by cases h⟩
 | a::l,i=>by
  rw[ZR];by_cases h:q a=true
  ·rw[if_pos h];exact .inr ⟨0,by simp,by simp,by simp[h]⟩
  rw[if_neg h];have h':q a=false:=by simpa using h
  rcases z7 q l (i+1)with⟨h1,h2⟩|⟨k,h1,h2,h3⟩
  ·exact .inl ⟨h1,λx hx=>by rcases Lc.1 hx with rfl|hx;exact h';exact h2 x hx⟩
  exact .inr ⟨k+1,by simpa using h1,by rw[h2];congr 1;omega,by rw[Mw,Mw,Md,if_pos (by simp[h']),←h3]⟩
theorem Qcy {w:World}{base e sz n b cap:Nat}{cs:LV}(h:w.ownsRow base e sz (.slice (some ⟨b,0,none⟩) n cap) n cs):n≤cap∧∃cur:LV,QS w.heap b e cur∧cur.length=cap*sz∧cur.take (n*sz)=cs:=by
 rcases h.2 with⟨e1,_⟩|⟨g',cap',cur,e1,J,E,G,T,H,I⟩
 ·cases e1
 cases e1
 exact⟨G,cur.toList,E,by rw[Nn];exact H,I⟩
theorem Qh0 {w w':World}{base e sz n b cap k:Nat}{cs E cur:LV}(h:w.ownsRow base e sz (.slice (some ⟨b,0,none⟩) n cap) n cs)(hk:k≤n)(G:QS w'.heap b e cur)(hl:cur.length=cap*sz)(ht:cur.take (k*sz)=E)(hc:E.length=k*sz):
  w'.ownsRow base e sz (.slice (some ⟨b,0,none⟩) k cap) k E:=by
 rcases h.2 with⟨e1,_⟩|⟨g',cap',cur',e1,H,J,T,I,U,V⟩
 ·cases e1
 cases e1
 exact⟨hc,.inr ⟨b,cap,cur.toArray,O,H,G,by omega,I,by rw[L6];exact hl,ht⟩⟩
theorem Vy {α:Type}{sz:Nat}{g:α→LV}(E:∀x,(g x).length=sz):∀l:List α,(l.flatMap g).length=l.length*sz
 | []=>by simp
 | a::l=>by rw[LF,Lj,Vy E l,E a,LE,Nat.succ_mul];omega
theorem Qcw:∀(l:List (Int×Int)) (k:Nat),(l.flatMap QT).take (k*2)=(l.take k).flatMap QT
 | [],k=>by simp
 | a::l,0=>by simp
 | a::l,k+1=>by
  rw[show(k+1)*2=k*2+2 by omega,LF,Mw,LF,←Qcw l k];rfl
abbrev nzT (l:List (Int×Int)):List (Int×Int):=l.filter λp=>!decide (p.2=0)
set_option maxHeartbeats 1000000 in
theorem QiY {w:World}{base:Nat}{v:Value}{l:List (Int×Int)}(h:w.ownsRow base 155 2 v l.length (l.flatMap QT))(hl:l.length≤1000):
  QE prog 63 [v,.func (.func 64) #[] #[]] w λr w'=>Step (ob v) w w'∧w'.ownsRow base 155 2 r (nzT l).length ((nzT l).flatMap QT):=by
 have hix:=Qiw (cap:=[]) (q:=λp=>decide (p.2=0)) (QV (L:=[]) h (by omega) (by simp)) (λe _ U _=>Qfz e U);have ho:=z7 (λp:Int×Int=>decide (p.2=0)) l 0;rcases h.2 with⟨rfl,V⟩|⟨g,cap,cur,rfl,hR,_⟩
 ·have h5:l=[]:=Lq V;subst h5;refine QE.of_W func63 O ntmps63 results63 (by simp) ?_;refine Qc<|Qe<|Qc<|Qb<|Qb<|xl O<|xf<|hix.mono ?_;rintro r1 U ⟨rfl,G⟩;refine Qe<|Qg<|Qc<|Qb<|x (Zc O O)<|xe<|Q2 O (λ_=>?_) (λh8=>absurd O h8);refine Qc<|Qb<|Qe ?_;exact Qk ⟨[nS],La,G,Qs h G⟩
 obtain⟨hS,_⟩:=Qcy h;refine QE.of_W func63 O ntmps63 results63 (by simp) ?_;refine Qc<|Qe<|Qc<|Qb<|Qb<|xl O<|xf<|hix.mono ?_;rintro r1 U ⟨rfl,G⟩;refine Qe<|Qg<|Qc<|Qb<|x (Zc O O)<|xe<|Q2 rfl (λY=>?_) (λY=>?_)
 ·have h6:nzT l=l:=Nm.2 λp hp=>by
   rcases ho with⟨_,h2⟩|⟨k,_,h2,_⟩
   ·have:=h2 p hp;simpa using this
   have hT:fix (λp:Int×Int=>decide (p.2=0)) 0 l=-1:=Y;omega
  refine Qc<|Qb<|Qe<|Qk ⟨[.slice (some ⟨g,0,none⟩) l.length cap],La,G.any,?_⟩;rw[h6];exact Qs h G
 refine Exists.elim (ho.resolve_left λa=>Y a.1) λT ha=>?_;have h7:=ha.1;have hq:fix (λp:Int×Int=>decide (p.2=0)) 0 l=(T:Int):=by have:=ha.2.1;omega
 have h9:=ha.2.2;refine Qi<|Qg<|Qc<|Qb<|x (XG (a:=(T:Int)) (b:=1) (congrArg (Value.int .i64) hq) O ⟨by omega,by omega⟩)<|Qe<|Qh<|Qz (α:=Nat×Nat×List (Int×Int)) [(5,7),(16,35)] (λz=>[(5,.int .i64 z.1),(6,.int .i64 z.2.1)])
  (λz w'=>z.1<z.2.1∧z.2.1≤l.length∧z.2.2.length=l.length∧z.2.2.take z.1=nzT (l.take z.2.1)∧z.2.2.drop z.2.1=l.drop z.2.1∧Step [g] w w'∧w'.ownsRow base 155 2 (.slice (some ⟨g,0,none⟩) z.2.2.length cap) z.2.2.length (z.2.2.flatMap QT))
  (λz=>l.length - z.2.1) (by rfl) (T,T+1,l) ⟨congrArg (Value.int .i64) hq,O,Z⟩
  ⟨Nat.lt_succ_self _,h7,O,h9,O,G.any,Qs h G⟩ ?_
 rintro⟨i,j,ts⟩ g2 w2 ⟨hB,hj,hb,H,hc,hr,I⟩;simp only[]at hB hj hb H hc I;refine Qg<|Qc<|Qb<|Qb<|x (KC O)<|x (QA O O)<|xe<|QD rfl (λhf=>?_) (λhf=>?_)
 ·refine Qy ?_;have hC:j=l.length:=by have hD:¬(j:Int)<(l.length:Int):=hf;omega
  rw[hC,M1]at H;have hs:(nzT l).length=i:=by rw[←H,Lx];omega
  refine Exists.elim (Qcy I).2 λhU ht=>?_;have hE:=ht.1;have hF:=ht.2.2;refine Qc<|Qb<|Qb<|x (QdB (lo:=i) O O (by omega))<|xl O<|Qh3 (m:=l.length - i) (o:=i*2) (λu hu=>by simp[Value.cells]at hu;rw[hu];rfl) hE ⟨_,O,λh=>⟨by rw[if_neg (by omega)],by omega⟩⟩ λw3 hV hg hG hW hH=>xe ?_
  refine Qc<|Qb<|Qb<|x (QdC (hi:=i) O O (by omega))<|Qe<|Qk ⟨[.slice (some ⟨g,0,none⟩) i cap],La,hr.trans' hg,?_⟩;rw[hs];refine Qh0 I (by omega) hG (by omega) ?_ ?_
  ·rw[hH,←H,←Qcw,←hF,List.take_take,MN (by omega)]
  rw[Vy YM,hs]
 have E:j<l.length:=by have hD:(j:Int)<(l.length:Int):=hf;omega
 have hh:j<ts.length:=by omega
 have hI:ts[j]'hh=l[j]'E:=by
  have h1:=congrArg (λz=>z[0]?) hc;simp only[List.getElem?_drop,Nat.add_zero,List.getElem?_eq_getElem hh,List.getElem?_eq_getElem E]at h1;exact Option.some.inj h1
 have hv:ts.drop (j+1)=l.drop (j+1):=by
  have h1:=congrArg (List.drop 1) hc
  rwa [List.drop_drop,List.drop_drop]at h1
 have J:nzT (l.take (j+1))=nzT (l.take j)++(if(l[j]'E).2=0 then[]else[l[j]'E]):=by
  unfold nzT;rw[Le E,L7];by_cases V:(l[j]'E).2=0 <;> simp[V]
 have hA:=QV (L:=[]) I (by omega) (by simp);rw[show Value.slice (some ⟨g,0,none⟩) ts.length cap=.slice (some ⟨g,0,none⟩) l.length cap from by rw[hb]]at hA;refine Qi<|Qg<|Qh<|Qc<|Qb<|Qb<|xig YM hA O O hh λhX hk=>?_;rw[hI]at hk;refine Zb (l[j]'E) λe he=>?_;rw[he]at hk J
 refine x (QG hk O O)<|xl O<|Qr (us:=[.int .i64 0,.int .i64 0]) O λb7 w3 hg hJ hK=>xl O<|Qm (us:=QT e) hK O O O O ⟨O,O,Z⟩ λw4 hL hw=>xe ?_;have hM:Step [] w2 w4:=hg.then1 hL hJ;refine Qc<|Qb<|x (Qo hw O O)<|xl O<|xc (first:=[]) (capt:=[]) O<|(Qfz e w4).mono ?_;rintro r5 w5 ⟨rfl,hy⟩;refine x (Zp O)<|xe ?_;have hz:=hM.trans hy;have h3:=Qs I hz
 have h4:Step [g] w w5:=hr.trans hz.any;refine QX rfl (λhm=>?_) (λhm=>?_)
 ·have hn:¬e.2=0:=by simpa using hm
  rw[if_neg hn]at J;have hN:w5.ownsRow base 155 2 (.slice (some ⟨g,0,none⟩) ts.length cap) ts.length (ts.flatMap QT):=h3;refine Qc<|Qb<|Qb<|x (Qo (hw.ext hy) O O)<|x (QR (i:=i) O O (by omega))<|xl O<|QdI (u:=e) YM hN (congrArg (λn=>Value.pointer (some ⟨g,n,none⟩)) (LQ (i*2))) O (by omega) ⟨O,O,Z⟩ λw6 hO hP =>
   xe ?_
  refine Qx<|Qb<|QN O O<|Qe<|Qx<|Qb<|QN O O<|Qe ?_;have hQ:(ts.set i e).length=ts.length:=ML;refine⟨(i+1,j+1,ts.set i e),by simp only[];omega,⟨O,O,Z⟩,by simp only[];omega,E,by simp only[];omega,?_,?_,h4.trans' hO,?_⟩
  ·simp only[];rw[J,←H,List.set_eq_take_append_cons_drop,if_pos (by omega),Nr,Lm (by rw[Lx];omega),Lx,MN (by omega),MT,Mw,Nf]
  ·simp only[];rw[List.drop_set_of_lt (by omega),hv]
  simp only[];rw[hQ];exact hP
 have hn:e.2=0:=by simpa using hm
 rw[if_pos hn,LL]at J;refine Qi<|Qx<|Qb<|QN O O<|Qe ?_;exact⟨(i,j+1,ts),by simp only[];omega,⟨O,O,Z⟩,by simp only[];omega,E,hb,by rw[J];exact H,hv,h4,h3⟩
instance ayAz1:Ay prog 66 3 65 1:=⟨by kernel_rfl,by kernel_rfl⟩
instance ayAz2:Ay prog 67 2 65 1:=⟨by kernel_rfl,by kernel_rfl⟩
instance ayAz3:Ay prog 68 2 25 27:=⟨by kernel_rfl,by kernel_rfl⟩
instance ayAz4:Ay prog 71 3 70 1:=⟨by kernel_rfl,by kernel_rfl⟩
abbrev X4V:={r:LN // r.length=4∧∀n∈r,n<256}
abbrev Yz (r:X4V):LV:=bys r.1
theorem UG (r:X4V):(Yz r).length=4:=by show(bys r.1).length=4;unfold bys;rw[Li,r.2.1]
structure PlV where
 ns:LN
 vx:Value
 xs:List X4V
 f0:Int
 f1:Int
 f2:Int
 bd:Int
abbrev Ys (l:PlV):LV:=bys l.ns++[l.vx,.int .i8 l.f0,.int .i8 l.f1,.int .i8 l.f2,.int .i8 l.bd]
abbrev i8R (n:Int):Prop:=-128≤n∧n≤127
structure PlA (L:LN)(H:Array Obj)(l:PlV):Prop where
 n:l.ns.length=147
 b:∀n∈l.ns,n<256
 x:Zv L H l.vx l.xs.length 4 (l.xs.flatMap Yz)
 f0:i8R l.f0
 f1:i8R l.f1
 f2:i8R l.f2
 bd:i8R l.bd
theorem Qki {l:PlV}(h:l.ns.length=147):(Ys l).length=152:=by rw[Ys,Lj,YQ,h];rfl
theorem Qfi {l:PlV}(h:l.ns.length=147)(j:Nat):(Ys l)[147+j]?=([l.vx,.int .i8 l.f0,.int .i8 l.f1,.int .i8 l.f2,.int .i8 l.bd]:LV)[j]?:=by
 rw[Ys,Mq (by rw[YQ];omega),YQ,h,MT]
theorem Qcv {l:PlV}(h:l.ns.length=147){j:Nat}(hj:j<147):(Ys l)[j]?=some (.int .u8 ((l.ns.getD j 0:Nat):Int)):=by
 rw[Ys,Mb (by rw[YQ];omega)];exact V6 (by omega)
theorem Qbm {l:PlV}{o m:Nat}(j:Nat)(u:Value)(h:(bys ((l.ns.drop o).take m))[j]?=some u):(Ys l)[o+j]?=some u:=by
 have h1:=Qja (ns:=l.ns) (o:=o) (n:=m) j u h;have h2:=(LY.1 h1).1;rw[Ys,Mb h2];exact h1
theorem Qc9 {sz:LI}:∀(ls:List (Int×Int)) (pr:Option Int),(∀b,pr=some b→∀p∈ls,b<p.1)→ls.Pairwise (λp q=>p.1<q.1)→(∀p∈ls,0≤p.1∧p.1<(sz.length:Int)∧0≤p.2∧p.2<cget sz p.1.toNat)→Xb sz pr ls=0
 | [],_,_,_,_=>rfl
 | p::ls,pr,hp,hs,hb=>by
  obtain⟨h1,h2,h3,h4⟩:=hb p Lr;obtain⟨k1,k2⟩:=LR.1 hs;have hl:U8 pr p.1=false:=by
   cases pr with
   | none=>rfl
   | some b=>have:=hp b O p Lr;unfold U8;exact decide_eq_false (by omega)
  rw[Xb,if_neg (by omega),if_neg (by rw[hl];decide),if_neg (by omega)];exact Qc9 ls (some p.1) (λb hb' q hq=>by cases hb';exact k1 q hq) k2 (λq hq=>hb q (Ln _ hq))
theorem Qc8 {sz:LI}:∀(ls:List (Int×Int)) (pr:Option Int),(∀b,pr=some b→∀p∈ls,b<p.1)→ls.Pairwise (λp q=>p.1<q.1)→(∀p∈ls,0≤p.1∧p.1<(sz.length:Int)∧p.2≠0∧-65536≤p.2∧p.2≤65536)→Ja sz pr ls=0
 | [],_,_,_,_=>rfl
 | p::ls,pr,hp,hs,hb=>by
  obtain⟨h1,h2,h3,h4,h5⟩:=hb p Lr;obtain⟨k1,k2⟩:=LR.1 hs;have hl:U8 pr p.1=false:=by
   cases pr with
   | none=>rfl
   | some b=>have:=hp b O p Lr;unfold U8;exact decide_eq_false (by omega)
  have E:grt p.2=false:=by unfold grt;rw[decide_eq_false (by omega),decide_eq_false (by omega)];rfl
  rw[Ja,if_neg (by omega),if_neg (by rw[hl];decide),if_neg (by rw[E];simpa using h3)];exact Qc8 ls (some p.1) (λb hb' q hq=>by cases hb';exact k1 q hq) k2 (λq hq=>hb q (Ln _ hq))
theorem Qb9 (a:Int){b:Int}(h:0<b):-b<a.tmod b∧a.tmod b<b:=⟨Int.lt_tmod_of_pos a h,Int.tmod_lt_of_pos a h⟩
structure ItG (c:Nat)(k:Nat)(q:IV):Prop where
 nm:q.nm=⟨#[UInt8.ofNat c]⟩++⟨#[UInt8.ofNat (48+k)]⟩
 g:GdA q.p.a
 e:∀e∈q.p.a.al,e<5
theorem Qft (k:Nat)(h:k<3):Y0 (nmI 99 k)=true∧Y0 (nmI 114 k)=true∧Y0 (nmI 101 k)=true:=by
 match k,h with
 | 0,_=>decide
 | 1,_=>decide
 | 2,_=>decide
theorem QdK:∀n,n<4→∀m,m<3→((List.range n).map (nmI 99)++(List.range m).map (nmI 114)).Nodup:=by decide
theorem zW {c:Nat}{co:List IV}(h:∀k (hk:k<co.length),ItG c k (co[k]'hk)):(co.map IV.it).map (·.nm)=(List.range co.length).map (nmI c):=by
 apply Ma
 ·simp
 intro i h1 h2;simp only[List.getElem_map,List.getElem_range];exact(h i (by simpa using h1)).nm
theorem QkT {ns:LN}{co rq:List IV}{qx:List XV}{ks:List KV}{al:LI}(h1:1≤co.length)(h3:co.length≤3)(G:∀k (hk:k<co.length),ItG 99 k (co[k]'hk))(J:∀e,e∈al↔∃q∈co,e∈q.p.a.al)(ha:rq.length≤2)
  (H:∀k (hk:k<rq.length),ItG 114 k (rq[k]'hk)∧∀e∈(rq[k]'hk).p.a.al,e∈al) (hb:qx.length≤2) (T:(qx.map (·.nm)).Nodup) (U:∀q∈qx,(∃k,k<2∧q.nm=⟨#[101]⟩++⟨#[UInt8.ofNat (48+k)]⟩)∧q.ls≠[]∧q.ls.length≤3∧Xb (co.map (·.p.a.st)) none q.ls=0)
  (hc:ks.length≤1) (V:∀q∈ks,q.nm=⟨#[107]⟩∧YW (co.map (·.p.a.st)) q.k=0):D25 ⟨XM ns 5,co.map IV.it,rq.map IV.it,qx.map XV.x,ks.map KV.k⟩:=by
 have I:szs (co.map IV.it)=co.map (·.p.a.st):=by unfold szs;rw[MD];rfl
 refine⟨⟨Ko ns 5,Qgp ns⟩,by simp only[List.length_map];omega,by simp only[List.length_map];omega,by simp only[List.length_map];omega,λx hx=>?_,λx hx=>?_,?_,by simp only[List.length_map];omega,λx hx=>?_,?_,by simp only[List.length_map];omega,λx hx=>?_⟩
 ·obtain⟨q,hq,rfl⟩:=Ly.1 hx;obtain⟨k,hk,rfl⟩:=LG hq;have g:=G k hk;exact⟨by show Y0 (co[k]'hk).nm=true;rw[g.nm];exact(Qft k (by omega)).1,g.g,g.e⟩
 ·obtain⟨q,hq,rfl⟩:=Ly.1 hx;obtain⟨k,hk,rfl⟩:=LG hq;have g:=H k hk;refine⟨by show Y0 (rq[k]'hk).nm=true;rw[g.1.nm];exact(Qft k (by omega)).2.1,g.1.g,λe he=>?_⟩;obtain⟨y,hy,Y⟩:=(J e).1 (g.2 e he);exact⟨y.it,LK hy,Y⟩
 ·show((co.map IV.it).map (·.nm)++(rq.map IV.it).map (·.nm)).Nodup;rw[zW G,zW (λk hk=>(H k hk).1)];exact QdK _ (by omega) _ (by omega)
 ·obtain⟨q,hq,rfl⟩:=Ly.1 hx;obtain⟨⟨k,k1,k2⟩,E,_,g4⟩:=U q hq;refine⟨by show Y0 q.nm=true;rw[k2];exact(Qft k (by omega)).2.2,E,?_⟩;show Xb (szs (co.map IV.it)) none q.ls=0;rw[I];exact g4
 ·show((qx.map XV.x).map (·.nm)).Nodup;rw[MD];exact T
 obtain⟨q,hq,rfl⟩:=Ly.1 hx;obtain⟨g1,E⟩:=V q hq;refine⟨by show Y0 q.nm=true;rw[g1];decide,?_⟩;show YW (szs (co.map IV.it)) q.k=0;rw[I];exact E
def flk (l:PlV)(i:Nat):Int:=[l.f0,l.f1,l.f2].getD i 0
theorem QlJ {l:PlV}(h:l.ns.length=147){i:Nat}(hi:i<3):(Ys l)[0+148+i*1]?=some (.int .i8 (flk l i)):=by
 rw[show 0+148+i*1=147+(1+i) by omega,Qfi h]
 match i,hi with
 | 0,_=>rfl
 | 1,_=>rfl
 | 2,_=>rfl
theorem QlI {L:LN}{H:Array Obj}{l:PlV}(h:PlA L H l)(i:Nat)(hi:i<3):i8R (flk l i):=by
 match i,hi with
 | 0,_=>exact h.f0
 | 1,_=>exact h.f1
 | 2,_=>exact h.f2
theorem Qgo (ns:LN):∀e∈XM ns 5,zi e.nm:=λe he=>by
 unfold XM at he;obtain⟨k,_,rfl⟩:=Ly.1 he;unfold JH;split <;> exact Xw (by simp)
set_option maxRecDepth 100000 in
set_option maxHeartbeats 8000000 in
theorem QdO {w:World}{l:PlV}(h:PlA [] w.heap l):
  QE prog 20 [.agg (Ys l).toArray] w λr w'=>Step [] w w'∧∃k,Qjv w.heap.size w'.heap r k∧D25 k:=by
 refine Zb (1+l.ns.getD 5 0 % 3) λn hn=>?_;have hn3:1≤n∧n≤3:=by omega
 refine QE.of_W func20 O ntmps20 results20 (by simp) ?_;refine Qc<|xl O<|QP (us:=Ys l) O λb1 w1 hs1 hb1 m6=>xl O<|Qr (us:=YN) O λb2 w2 kv hb2 m7=>xe ?_;have m8:=hs1.trans kv;have hl1:=m6.lt;have hl2:=m7.lt;have gt:=m6.ext kv;have m9:((l.ns.drop 0).take 5).length=5:=by rw[Lx,L9,h.n];rfl
 have hflt:∀n∈(l.ns.drop 0).take 5,n<256:=λn hn=>h.b n (Mz (LO hn));refine Qc<|x (Qa O)<|x (VR (us:=bys ((l.ns.drop 0).take 5)) gt O (by rw[YQ];exact m9) (λj u hu=>Qbm (l:=l) (o:=0) (m:=5) j u hu))<|xl O<|xf<|(QaX (ns:=(l.ns.drop 0).take 5) m9 hflt).mono ?_;rintro ve w3 ⟨pa,gj⟩;refine Zb (XM ((l.ns.drop 0).take 5) 5) λev kg=>?_;rw[kg]at gj
 refine x (QK ⟨Zl gj,Z⟩)<|xl O<|Qr (us:=YN) O λE w4 hs4 hb3 hB3=>xl O<|Qm (us:=[ve,Zd,Zd,Zd,Zd]) hB3 O O O O ⟨QL gj,O,O,O,O,Z⟩ λw5 hs5 pc =>
  xe ?_
 have pd:Step [] w3 w5:=hs4.then1 hs5 hb3;refine Qc<|xl O<|Qr (us:=[Zd]) O λb4 w6 pf hb4 pg=>xe ?_;have ph:=pd.trans pf;have gu:=pa.trans ph;have H:=kv.trans gu;have hz3:=pa.size;have hz35:=pd.size;have hl3:=pc.lt;have hl4:=pg.lt;have kw:=gt.ext gu;have hB36:=pc.ext pf;have q5:=Qcv (l:=l) h.n (j:=5) (by omega);have q5l:=Xs h.b 5
 refine Zb (l.ns.getD 5 0) λcn hcn=>?_;rw[hcn]at q5 q5l hn
 refine Qc<|x (Qa O)<|x (Qd kw O q5)<|x (Ve (a:=(cn:Int)) (b:=3) O O (by omega) (by omega))<|x (ZZ (k':=.i64) O ⟨by omega,by omega⟩)<|QN O O<|Qe<|QZ (α:=Value×List IV×Value×LI) [(6,7),(26,55)] (λ_=>[]) (λz w'=>Step [E,b4] w6 w'∧QS w'.heap E 37 [ve,z.1,Zd,Zd,Zd]∧QS w'.heap b4 39 [z.2.2.1]∧Ut w6.heap.size w' z.1 z.2.2.1 z.2.1 z.2.2.2∧z.2.1.length=n∧(∀k (hk:k<z.2.1.length),ItG 99 k (z.2.1[k]'hk))∧z.2.2.2.length≤5*n∧∀e,e∈z.2.2.2↔∃q∈z.2.1,e∈q.p.a.al) (by rfl) ?_ ?_
 ·refine Qc<|Qb<|Qb<|xe<|Qh<|Qz (α:=Nat×Value×List IV×Value×LI) [(6,7),(27,55)] (λz=>[(27,.int .i64 z.1)])
   (λz w'=>z.1≤n∧Step [E,b4] w6 w'∧QS w'.heap E 37 [ve,z.2.1,Zd,Zd,Zd]∧QS w'.heap b4 39 [z.2.2.2.1]∧Ut w6.heap.size w' z.2.1 z.2.2.2.1 z.2.2.1 z.2.2.2.2∧z.2.2.1.length=z.1∧(∀k (hk:k<z.2.2.1.length),ItG 99 k (z.2.2.1[k]'hk))∧z.2.2.2.2.length≤5*z.1∧∀e,e∈z.2.2.2.2↔∃q∈z.2.2.1,e∈q.p.a.al)
   (λz=>n - z.1) (by rfl) (0,Zd,[],Zd,[]) La
   ⟨Lk _,Step.refl _ _,hB36,pg,Ut.nil,O,λk hk=>absurd hk (by simp),by simp,by simp⟩ ?_
  rintro⟨i,vc,co,va,al⟩ g7 w7 ⟨hi,h7,gk,hZ,hg,gv,hR,kx,gl⟩;simp only[]at hi gk hZ hg gv hR kx gl;refine Qc<|x (QA O O)<|xe<|Qg<|QD O (λkz=>?_) (λkz=>?_)
  ·refine Qy ?_;have k0:i=n:=by have h29:¬(i:Int)<1+(cn:Int) % 3:=kz;omega
   exact⟨(vc,co,va,al),Z,h7,gk,hZ,hg,by simp only[];omega,hR,by simp only[];omega,gl⟩
  have hy:i<n:=by have h29:(i:Int)<1+(cn:Int) % 3:=kz;omega
  have k4:b1∉[E,b4]:=by simp only[List.mem_cons,List.not_mem_nil,or_false];omega
  have hS:=kw.step h7 k4;have qs:=Qcv (l:=l) h.n (j:=0+6+i*1) (by omega);have qsl:=Xs h.b (0+6+i*1);refine Zb (l.ns.getD (0+6+i*1) 0) λm hm=>?_;rw[hm]at qs qsl;have k5:=Y8 m 5;have gx:=jN m 5;have ga:=Qcm m 5;refine Zb (setK m 5) λsk gy=>?_;rw[gy]at k5 gx ga
  refine Qi<|Qg<|Qh<|Qc<|Qb<|Qe<|Qc<|Qb<|x (Qa O)<|x (ZD (i:=i) O O (by omega))<|x (Qd hS O qs)<|xl O<|xf<|(Vc m qsl _).mono ?_;rintro vs w8 ⟨Y,kh⟩;rw[gy]at kh;refine Qe ?_;have pj:=Y.size;have h8:=hg.ext Y;have hI8:=Qt.ints (L:=[]) h8.a (by omega) (by simp);have hJ8:=Qt.ints (L:=[]) kh (by omega) (by simp)
  refine Qc<|x (Qd (hZ.ext Y) O O)<|Qb<|xl O<|xf<|(Qa5 hI8 hJ8 (by omega)).mono ?_;rintro pn w9 ⟨I,po,hal2,pp,gb⟩;have ki:=Y.trans I;have k6:=I.size;have hz7:=h7.size;refine xl O<|QC (hZ.ext ki) O O (by simp) (QL gb) λU hh hB410=>xe ?_;have hl36:E<w6.heap.size:=by omega
  have h0:Ut w6.heap.size w9 vc pn co po:=h8.setA (Za gb (by omega)) I.any (λb hb=>.inr (Qq gb b hb).1);have hj:=h0.low hh (λb hb=>by rw[Lb.1 hb];omega);have gz:QS U.heap E 37 [ve,vc,Zd,Zd,Zd]:=(gk.ext ki).step hh (by simp only[List.mem_singleton];omega);have k7:=(hS.ext ki).step hh (by simp only[List.mem_singleton];omega)
  have k8:QI [] U.heap vs sk:=Qt.ints (L:=[]) (Ql (Qs kh I) hh (λb hb hm=>by have:=(Qq kh b hb).1;rw[Lb.1 hm]at this;omega)) (by omega) (by simp);have hz10:=hh.size;have n3v:E∉ob vc:=QW hj.c (by omega);have n1v:b1∉ob vc:=QW hj.c (by omega);have gc:=QfZ (ns:=l.ns) (o:=0+9+i*27) (by have:=h.n;omega);have g0:=QjL (o:=0+9+i*27) h.b
  have g1:=λj u=>Qbm (l:=l) (o:=0+9+i*27) (m:=27) j u;refine Zb (grN l.ns (0+9+i*27)) λgr h4=>?_;have k9:∀j u,(bys gr)[j]?=some u→(Ys l)[0+9+i*27+j]?=some u:=by rw[←h4];exact g1
  rw[h4]at gc g0;have g2:Step [] U { U with drawn:=U.drawn+1 }:=Step.drew _ _
  have g3:(48:Int)+(i:Int)=((48+i:Nat):Int):=by omega
  refine Zb (⟨#[99]⟩++⟨#[UInt8.ofNat (48+i)]⟩:ByteArray) λnm hB=>?_;refine QU (Step (ob vc) U) [(0,true),(1,true),(2,true),(3,true),(4,true),(5,true),(6,true),(7,true),(8,true),(9,true),(10,true),(11,true),(12,false),(13,true),(14,false),(15,false),(16,true),(17,false)] mixed (by rfl) (by kernel_rfl) (Step.drew _ _) ?_
  refine p (λ_=>Qa O)<|pq (λ_ hc=>Qd (gz.step hc n3v) O O)<|p (λ_=>Qn)<|p (λ_=>XG O O ⟨by omega,by omega⟩)<|p (λ_=>ZZ (k':=.i32) O ⟨by omega,by omega⟩)<|p (λ_=>Qbh (n:=48+i) (congrArg (Value.int .i32) g3) (by omega)) <|
   p (λ_=>Xp (a:=⟨#[99]⟩) (b:=⟨#[UInt8.ofNat (48+i)]⟩) O O (by show 1+1≤1000000000;omega))<|p (λ_=>Qn)<|p (λ_=>Qn)<|p (λ_=>Qa O)<|p (λ_=>ZD (i:=i) O O (by omega))<|pq (λ_ hc=>VR (us:=bys gr) (k7.step hc n1v) O (by rw[YQ];exact gc) k9)<|?_
  refine pk<|xf<|(qg (k8.ext g2) (λe he=>by have:=ga e he;omega) gx gc g0).mono ?_;rintro r11 hf ⟨ge,a,⟨xa,xm,hz,rfl,hA⟩,hG,gm⟩;have hC:=g2.trans ge;have pt:=hC.size;have gg:=hA [] (by simp);refine⟨hC.any,?_⟩
  refine p (λ_=>Zz [(0,[.string nm]),(1,[xa,.int .i64 a.st,xm,hz])] ⟨congrArg (λb=>(Value.string b).cells) hB,O,O,O,Z⟩)<|pk<|QJ (us:=[Zm ⟨nm,⟨xa,xm,hz,a⟩⟩]) O O (by decide) (show 1*5≤1000000 by omega) ⟨O,O,Z⟩ λb14 hT V hb14 ma=>⟨(hC.trans V).any,?_⟩;have ho:=hC.trans V;have g4:=hj.ext ho
  refine pk<|Q5 (news:=Zm ⟨nm,⟨xa,xm,hz,a⟩⟩) (L:=[]) g4.c O O O (ma.at (by simp)) (QcQ gg.al.one gg.mr.one gg.ed.one) (by omega) (by have:=ho.size;omega) λmc hE g5 G mf=>⟨(ho.any (L:=ob vc)).trans' G,?_⟩;have mg:=g4.setC (Qai (q:=⟨nm,⟨xa,xm,hz,a⟩⟩) (N:=U.heap.size) (λL hL=>(hA L hL).ext V) (by omega) hj.avlt) g5 G mf
  refine p (λ_=>Qa O)<|pkl (hl:=by kernel_rfl)<|QC ((gz.ext ho).step G n3v) O O (by simp) (QL g5) λhH H hU=>pe ?_;have hge:=Qq hj.c;have n4v:b4∉ob vc:=QW hj.c (by omega);have hB416:=((hB410.ext ho).step G n4v).step H (by simp only[List.mem_singleton];omega);have hs710:Step [b4] w7 U:=ki.any.trans' hh
  have hs615:Step [E,b4] w6 hE:=((h7.trans' (hs710.mono (by simp))).trans ho.any).then G (λb hb=>.inr (hge b hb).1);refine Qx<|QN O O<|Qb<|xe ?_
  refine⟨(i+1,mc,co++[⟨nm,⟨xa,xm,hz,a⟩⟩],pn,po),by simp only[];omega,La,hy,hs615.trans' (H.mono (by simp)),hU,hB416,mg.low H (λb hb=>by rw[List.mem_singleton.1 hb];omega),by simp only[List.length_append,List.length_singleton];omega,λk hk=>?_,by simp only[];omega,λe=>?_⟩
  ·simp only[]at hk ⊢;by_cases ha:k<co.length
   ·rw[L5 ha];exact hR k ha
   have g6:k=i:=by simp only[List.length_append,List.length_singleton]at hk;omega
   subst g6;rw[MH (by omega)];simp only[gv,Nat.sub_self,List.getElem_cons_zero];exact⟨hB.symm,hG,λe he=>by rw[gm]at he;exact(ga e he).2⟩
  simp only[]at pp ⊢;rw[pp,gl];constructor
  ·rintro(⟨q,hq,he⟩|he)
   ·exact⟨q,LS _ hq,he⟩
   exact⟨_,MZ _ (Lb.2 O),by rw[gm];exact he⟩
  rintro⟨q,hq,he⟩;rcases Lp.1 hq with hq|hq
  ·exact .inl ⟨q,hq,he⟩
  rw[Lb.1 hq,gm]at he;exact .inr he
 rintro⟨vc,co,va,al⟩ g7 w7 ⟨h7,gk,hZ,hg,gv,hR,kx,gl⟩;simp only[]at gk hZ hg gv hR kx gl;have hz7:=h7.size;have k4:b1∉[E,b4]:=by simp only[List.mem_cons,List.not_mem_nil,or_false];omega
 have hS:=kw.step h7 k4;have mh:b1∉[E]:=by simp only[List.mem_singleton];omega
 have n43:b4∉[E]:=by simp only[List.mem_singleton];omega
 have pu:=Qcv (l:=l) h.n (j:=90) (by omega);have q90l:=Xs h.b 90;refine Zb (l.ns.getD 90 0) λrn hrn=>?_;rw[hrn]at pu q90l;refine Zb (rn % 3) λr hr=>?_;refine QZ (α:=Value×List IV) [(8,9),(56,87)] (λ_=>[]) (λz w'=>Step [E] w7 w'∧QS w'.heap E 37 [ve,vc,z.1,Zd,Zd]∧Ut w7.heap.size w' z.1 Zd z.2 []∧z.2.length=r∧∀k (hk:k<z.2.length),ItG 114 k (z.2[k]'hk)∧∀e∈(z.2[k]'hk).p.a.al,e∈al) (by rfl) ?_ ?_
 ·refine Qc<|x (Qa O)<|x (Qd hS O pu)<|x (Ve (a:=(rn:Int)) (b:=3) O O (by omega) (by omega))<|x (ZZ (k':=.i64) O ⟨by omega,by omega⟩)<|Qb<|xe<|Qh<|Qz (α:=Nat×Value×List IV) [(8,9),(60,87)] (λz=>[(60,.int .i64 z.1)])
   (λz w'=>z.1≤r∧Step [E] w7 w'∧QS w'.heap E 37 [ve,vc,z.2.1,Zd,Zd]∧Ut w7.heap.size w' z.2.1 Zd z.2.2 []∧z.2.2.length=z.1∧∀k (hk:k<z.2.2.length),ItG 114 k (z.2.2[k]'hk)∧∀e∈(z.2.2[k]'hk).p.a.al,e∈al)
   (λz=>r - z.1) (by rfl) (0,Zd,[]) La
   ⟨Lk _,Step.refl _ _,gk,Ut.nil,O,λk hk=>absurd hk (by simp)⟩ ?_
  rintro⟨i,vr,rq⟩ g8 w8 ⟨hi,Y,gn,h8,kj,h4⟩;simp only[]at hi gn h8 kj h4;refine Qc<|x (QA O O)<|xe<|Qg<|QD O (λmj=>?_) (λmj=>?_)
  ·refine Qy ?_;have k0:i=r:=by have h62:¬(i:Int)<(rn:Int) % 3:=mj;omega
   exact⟨(vr,rq),Z,Y,gn,h8,by simp only[];omega,h4⟩
  have hy:i<r:=by have h62:(i:Int)<(rn:Int) % 3:=mj;omega
  have ka:=hS.step Y mh;have hB48:=hZ.step Y n43;have qs:=Qcv (l:=l) h.n (j:=0+91+i*1) (by omega);have qsl:=Xs h.b (0+91+i*1);refine Zb (l.ns.getD (0+91+i*1) 0) λm hm=>?_;rw[hm]at qs qsl;have k5:=Y8 m 5;have gx:=jN m 5;have ga:=Qcm m 5;refine Zb (setK m 5) λsk gy=>?_;rw[gy]at k5 gx ga
  refine Qi<|Qg<|Qh<|Qc<|Qb<|Qe<|Qc<|Qb<|x (Qa O)<|x (ZD (i:=i) O O (by omega))<|x (Qd ka O qs)<|xl O<|xf<|(Vc m qsl _).mono ?_;rintro vs w9 ⟨I,gb⟩;rw[gy]at gb;have pj:=Y.size;have k6:=I.size;have hva8:=Qs (Ql hg.a Y (λb hb hm=>by rw[Lb.1 hm]at hb;exact QW hg.a (by omega) hb)) I;have g1:=Qq gb;have hlv:=Q4 hg.a
  have hD:=QiZ gb (by omega) (hB48.ext I) (λhm=>by have:=(g1 b4 hm).1;omega) (QV hva8 (by omega) (λb hb hbs=>by have:=(g1 b hbs).1;have:=hlv b hb;omega));refine x (Zj (l:=[]) (l':=[_]))<|xl O<|xf<|hD.mono ?_;rintro vd U ⟨hh,pw⟩;have pz:Yy (sk.filter λx=>decide (x∈al)):=List.Pairwise.filter _ gx;have hFL:=LU (λx=>decide (x∈al)) sk
  have kk:∀e∈sk.filter λx=>decide (x∈al),e∈sk∧e∈al:=λe he=>by
   have:=LP.1 he;exact⟨this.1,of_decide_eq_true this.2⟩
  refine Zb (sk.filter λx=>decide (x∈al)) λF hF=>?_;rw[hF]at pw pz hFL kk;refine Qe ?_;have kb:Step [] w8 U:=I.then hh (λb hb=>.inr (g1 b hb).1);have hz10:=kb.size;have hj:=h8.ext kb;have gz:=gn.ext kb;have k7:=ka.ext kb;have k8:QI [] U.heap vd F:=Qt.ints (L:=[]) pw (by omega) (by simp);have n3v:E∉ob vr:=QW hj.c (by omega)
  have n1v:b1∉ob vr:=QW hj.c (by omega);have gc:=QfZ (ns:=l.ns) (o:=0+93+i*27) (by have:=h.n;omega);have g0:=QjL (o:=0+93+i*27) h.b;have k9:=λj u=>Qbm (l:=l) (o:=0+93+i*27) (m:=27) j u;refine Zb (grN l.ns (0+93+i*27)) λgr p0=>?_;have hgs2:∀j u,(bys gr)[j]?=some u→(Ys l)[0+93+i*27+j]?=some u:=by rw[←p0];exact k9
  rw[p0]at gc g0;have g2:Step [] U { U with drawn:=U.drawn+1 }:=Step.drew _ _
  have g3:(48:Int)+(i:Int)=((48+i:Nat):Int):=by omega
  refine Zb (⟨#[114]⟩++⟨#[UInt8.ofNat (48+i)]⟩:ByteArray) λnm hB=>?_;refine QU (Step (ob vr) U) [(0,true),(1,true),(2,true),(3,true),(4,true),(5,true),(6,true),(7,true),(8,true),(9,true),(10,true),(11,true),(12,false),(13,true),(14,false),(15,false),(16,true),(17,false)] mixed (by rfl) (by kernel_rfl) (Step.drew _ _) ?_
  refine p (λ_=>Qa O)<|pq (λ_ hc=>Qd (gz.step hc n3v) O O)<|p (λ_=>Qn)<|p (λ_=>XG O O ⟨by omega,by omega⟩)<|p (λ_=>ZZ (k':=.i32) O ⟨by omega,by omega⟩)<|p (λ_=>Qbh (n:=48+i) (congrArg (Value.int .i32) g3) (by omega)) <|
   p (λ_=>Xp (a:=⟨#[114]⟩) (b:=⟨#[UInt8.ofNat (48+i)]⟩) O O (by show 1+1≤1000000000;omega))<|p (λ_=>Qn)<|p (λ_=>Qn)<|p (λ_=>Qa O)<|p (λ_=>ZD (i:=i) O O (by omega))<|pq (λ_ hc=>VR (us:=bys gr) (k7.step hc n1v) O (by rw[YQ];exact gc) hgs2)<|?_
  refine pk<|xf<|(qg (k8.ext g2) (λe he=>by have:=ga e (kk e he).1;omega) pz gc g0).mono ?_;rintro r11 hf ⟨ge,a,⟨xa,xm,hz,rfl,hA⟩,hG,gm⟩;have hC:=g2.trans ge;have pt:=hC.size;have gg:=hA [] (by simp);refine⟨hC.any,?_⟩
  refine p (λ_=>Zz [(0,[.string nm]),(1,[xa,.int .i64 a.st,xm,hz])] ⟨congrArg (λb=>(Value.string b).cells) hB,O,O,O,Z⟩)<|pk<|QJ (us:=[Zm ⟨nm,⟨xa,xm,hz,a⟩⟩]) O O (by decide) (show 1*5≤1000000 by omega) ⟨O,O,Z⟩ λb14 hT V hb14 ma=>⟨(hC.trans V).any,?_⟩;have ho:=hC.trans V;have g4:=hj.ext ho
  refine pk<|Q5 (news:=Zm ⟨nm,⟨xa,xm,hz,a⟩⟩) (L:=[]) g4.c O O O (ma.at (by simp)) (QcQ gg.al.one gg.mr.one gg.ed.one) (by omega) (by have:=ho.size;omega) λmc hE g5 G mf=>⟨(ho.any (L:=ob vr)).trans' G,?_⟩;have mg:=g4.setC (Qai (q:=⟨nm,⟨xa,xm,hz,a⟩⟩) (N:=U.heap.size) (λL hL=>(hA L hL).ext V) (by omega) hj.avlt) g5 G mf
  refine p (λ_=>Qa O)<|pkl (hl:=by kernel_rfl)<|QC ((gz.ext ho).step G n3v) O O (by simp) (QL g5) λhH H hU=>pe ?_;have hge:=Qq hj.c;have hs715:Step [E] w7 hE:=((Y.trans kb.any).trans ho.any).then G (λb hb=>.inr (hge b hb).1);refine Qx<|QN O O<|Qb<|xe ?_
  refine⟨(i+1,mc,rq++[⟨nm,⟨xa,xm,hz,a⟩⟩]),by simp only[];omega,La,hy,hs715.trans' H,hU,mg.low H (λb hb=>by rw[Lb.1 hb];omega),by simp only[List.length_append,List.length_singleton];omega,λk hk=>?_⟩;simp only[]at hk ⊢;by_cases ha:k<rq.length
  ·rw[L5 ha];exact h4 k ha
  have g6:k=i:=by simp only[List.length_append,List.length_singleton]at hk;omega
  subst g6;rw[MH (by omega)];simp only[kj,Nat.sub_self,List.getElem_cons_zero];exact⟨⟨hB.symm,hG,λe he=>by rw[gm]at he;exact(ga e (kk e he).1).2⟩,λe he=>by rw[gm]at he;exact(kk e he).2⟩
 rintro⟨vr,rq⟩ g8 w8 ⟨Y,gn,h8,kj,h4⟩;simp only[]at gn h8 kj h4;have pj:=Y.size;have ka:=hS.step Y mh;have g147:=Qfi (l:=l) h.n 0;have hX6:Zv [E,b4] w6.heap l.vx l.xs.length 4 (l.xs.flatMap Yz):=((h.x.up (L':=[E,b4]) (λb hb=>.inr (by simp only[List.mem_cons,List.not_mem_nil,or_false]at hb;omega))).ext m8).ext gu
 have p4:Zv [E] w8.heap l.vx l.xs.length 4 (l.xs.flatMap Yz):=((hX6.st h7).up (L':=[E]) (λb hb=>.inl (by simp only[List.mem_singleton]at hb;simp[hb]))).st Y
 refine QZ (α:=Value×List XV) [(10,14),(88,151)] (λ_=>[]) (λz w'=>Step [E] w8 w'∧QS w'.heap E 37 [ve,vc,vr,z.1,Zd]∧Xd Zu 2 99 (λq=>[(q.v,q.ls.length,2,q.ls.flatMap QT)]) w8.heap.size w' z.1 z.2∧z.2.length≤2∧(z.2.map (·.nm)).Nodup∧∀q∈z.2,(∃k,k<2∧q.nm=⟨#[101]⟩++⟨#[UInt8.ofNat (48+k)]⟩)∧q.ls≠[]∧q.ls.length≤3∧Xb (co.map (·.p.a.st)) none q.ls=0) (by rfl) ?_ ?_
 ·refine Qc<|x (Qa O)<|x (Qd ka O g147)<|x (Qu p4 O)<|Qb<|xe<|Qh<|Qz (α:=Nat×Value×List XV) [(10,14),(91,151)] (λz=>[(91,.int .i64 z.1)])
   (λz w'=>z.1≤l.xs.length∧z.1≤2∧Step [E] w8 w'∧QS w'.heap E 37 [ve,vc,vr,z.2.1,Zd]∧Xd Zu 2 99 (λq=>[(q.v,q.ls.length,2,q.ls.flatMap QT)]) w8.heap.size w' z.2.1 z.2.2∧z.2.2.length≤z.1∧(z.2.2.map (·.nm)).Nodup∧∀q∈z.2.2,(∃k,k<z.1∧q.nm=⟨#[101]⟩++⟨#[UInt8.ofNat (48+k)]⟩)∧q.ls≠[]∧q.ls.length≤3∧Xb (co.map (·.p.a.st)) none q.ls=0)
   (λz=>l.xs.length - z.1) (by rfl) (0,Zd,[]) La
   ⟨Lk _,Lk _,Step.refl _ _,gn,Xd.nil,Lu _,List.Pairwise.nil,λq hq=>by cases hq⟩ ?_
  rintro⟨i,vx,qx⟩ g9 w9 ⟨hi,hi2,I,hV,h0,kn,hW,hI⟩;simp only[]at hi hi2 hV h0 kn hW hI;have p5:(∀q∈qx,(∃k,k<2∧q.nm=⟨#[101]⟩++⟨#[UInt8.ofNat (48+k)]⟩)∧q.ls≠[]∧q.ls.length≤3∧Xb (co.map (·.p.a.st)) none q.ls=0):=λq hq=>by
   obtain⟨⟨k,k1,k2⟩,h2⟩:=hI q hq;exact⟨⟨k,by omega,k2⟩,h2⟩
  refine Qc<|x (QA O O)<|xe<|Qg<|QD O (λp6=>?_) (λp6=>?_)
  ·refine Qy ?_;exact⟨(vx,qx),Z,I,hV,h0,by simp only[];omega,hW,p5⟩
  have hy:i<l.xs.length:=by have h93:(i:Int)<(l.xs.length:Int):=p6;omega
  have hX9:=p4.st I;refine Qi<|Qg<|Qh<|Qc<|Qb<|xig UG hX9 O O hy λa94 p7=>?_;refine Zb (l.xs[i]'hy) λxr hxr=>?_;rw[hxr]at p7;refine x (QG p7 O (UG xr))<|xl O<|Qr (us:=[.int .u8 0,.int .u8 0,.int .u8 0,.int .u8 0]) O λb11 U hh hb11 hB11=>x Qf<|xl O<|Qm (us:=Yz xr) hB11 O O (UG xr) O (QaJ xr.1) λhf ge p8=>xe ?_;have h5:Step [] w9 hf:=hh.then1 ge hb11
  refine Qg<|Qc<|Qb<|x (Zc O O)<|xe<|Q2 O (λp9=>?_) (λp9=>?_)
  ·refine Qy ?_;exact⟨(vx,qx),Z,I.trans h5.any,hV.ext h5,h0.ext h5,by simp only[];omega,hW,p5⟩
  have hi3:i<2:=by have h98:¬(i:Int)=2:=p9;omega
  have g3:(48:Int)+(i:Int)=((48+i:Nat):Int):=by omega
  have pt:=h5.size;have hl11:=p8.lt;refine Zb (⟨#[101]⟩++⟨#[UInt8.ofNat (48+i)]⟩:ByteArray) λnm hB=>?_;refine Qi<|Qc<|Qb<|QN O O<|x (ZZ (k':=.i32) O ⟨by omega,by omega⟩)<|x (Qbh (n:=48+i) (congrArg (Value.int .i32) g3) (by omega))<|x (Xp (a:=⟨#[101]⟩) (b:=⟨#[UInt8.ofNat (48+i)]⟩) O O (by show 1+1≤1000000000;omega))<|x (QK La) <|
   xl rfl<|Qr (us:=[.string .empty,Zd]) O λhJ hT V qc gt=>xl O<|Qm (us:=[.string nm,Zd]) gt O (show Go.Lg.ev _ _=_ from congrArg (λs=>Value.agg #[.string s,Zd]) hB) O O ⟨O,O,Z⟩ λhK hM hB1213=>xe ?_
  have ko:Step [] hf hK:=V.then1 hM qc;have mo:=h5.trans ko;have hz1113:=ko.size;have k6:=I.size;have hltC:=Q4 hg.c;have nc3:E∉ob vc:=QW hg.c (by omega);have ql:∀b∈ob vc,b∉[E]:=λb hb hm=>by rw[Lb.1 hm]at hb;exact nc3 hb
  have hC13:=Qs (Ql (Ql hg.c Y ql) I ql) mo;have mq:=hV.ext mo;have hB1113:=p8.ext ko;have hl12:=gt.lt;have qo:E∉[hJ]:=by simp only[List.mem_singleton];omega
  have n1112:b11∉[hJ]:=by simp only[List.mem_singleton];omega
  have qr:=QV (L:=[hJ]) hC13 (by omega) (λb hb hm=>by rw[Lb.1 hm]at hb;have:=hltC hJ hb;omega)
  refine QZ (α:=Value×List (Int×Int)) [(13,14),(104,140)] (λ_=>[]) (λz w'=>Step [hJ] hK w'∧QS w'.heap hJ 99 [.string nm,z.1]∧w'.ownsRow hK.heap.size 101 2 z.1 z.2.length (z.2.flatMap QT)∧z.2.length≤co.length∧z.2.Pairwise (λp q=>p.1<q.1)∧∀p∈z.2,0≤p.1∧p.1<(co.length:Int)∧0≤p.2∧p.2<cget (co.map (·.p.a.st)) p.1.toNat) (by rfl) ?_ ?_
  ·refine Qc<|x (Qa O)<|x (Qd mq O O)<|x (Qu qr O)<|Qb<|xe<|Qh<|Qz (α:=Nat×Value×List (Int×Int)) [(13,14),(107,140)] (λz=>[(107,.int .i64 z.1)])
    (λz w'=>z.1≤co.length∧Step [hJ] hK w'∧QS w'.heap hJ 99 [.string nm,z.2.1]∧w'.ownsRow hK.heap.size 101 2 z.2.1 z.2.2.length (z.2.2.flatMap QT)∧z.2.2.length≤z.1∧z.2.2.Pairwise (λp q=>p.1<q.1)∧∀p∈z.2.2,0≤p.1∧p.1<(z.1:Int)∧0≤p.2∧p.2<cget (co.map (·.p.a.st)) p.1.toNat)
    (λz=>co.length - z.1) (by rfl) (0,Zd,[]) La
    ⟨Lk _,Step.refl _ _,hB1213,QQ _ _ _ _,Lu _,List.Pairwise.nil,λp hp=>by cases hp⟩ ?_
   rintro⟨k,vl,ls⟩ g14 h6 ⟨hk,J,hN,T,ms,gh,hO⟩;simp only[]at hk hN T ms gh hO;refine Qc<|x (QA O O)<|xe<|Qg<|QD O (λmt=>?_) (λmt=>?_)
   ·refine Qy ?_;have g6:k=co.length:=by have h109:¬(k:Int)<(co.length:Int):=mt;omega
    rw[g6]at hO;exact⟨(vl,ls),Z,J,hN,T,by simp only[];omega,gh,hO⟩
   have ha:k<co.length:=by have h109:(k:Int)<(co.length:Int):=mt;omega
   have hAC14:=qr.st J;have hX:=mq.step J qo;have q0:=hB1113.step J n1112;refine Qi<|Qg<|Qh<|Qc<|Qb<|Qe<|Qc<|x (Qa O)<|x (Qd hX O O)<|Qb<|xig YZ hAC14 O O ha λa113 q4=>?_;refine Zb (co[k]'ha) λq hq=>?_;rw[hq]at q4;refine x (Zk O)<|x (Zk O)<|x (Qw ((q4.from 1).fld 1 (.int .i64 q.p.a.st) O) O)<|Qe ?_;have mu:=(hR k ha).g;rw[hq]at mu;have hqp:=mu.p
   have hqs:=mu.s;have mv:=V6 (ns:=xr.1) (j:=0+k*1) (by rw[xr.2.1];omega);have qx0l:=Xs xr.2.2 (0+k*1);refine Zb (xr.1.getD (0+k*1) 0) λxk hxk=>?_;rw[hxk]at mv qx0l;have hmod:0≤(xk:Int) % (q.p.a.st+2):=Int.emod_nonneg _ (by omega)
   refine Qc<|Qb<|x (ZD (i:=k) O O (by omega))<|x (Qd q0 O mv)<|x (ZZ (k':=.i64) O ⟨by omega,by omega⟩)<|Qb<|QN O O<|x (Ve (a:=(xk:Int)) (b:=q.p.a.st+2) O O (by omega) (by omega))<|Qb<|x (QA O O)<|xe ?_;have hgeL:=Qq T;have q9:=J.size;have j1:=hM.size;have j2:hJ∉ob vl:=QW T (by omega);have hn11v:b11∉ob vl:=QW T (by omega)
   have hcget:cget (co.map (·.p.a.st)) k=q.p.a.st:=by
    unfold cget;simp[List.getD,List.getElem?_map,List.getElem?_eq_getElem ha,hq]
   refine QD O (λh125=>?_) (λh125=>?_)
   ·refine Qi<|Qx<|QN O O<|Qb<|xe ?_;exact⟨(k+1,vl,ls),by simp only[];omega,La,ha,J,hN,T,by simp only[];omega,gh,λp hp=>by have:=hO p hp;simp only[];omega⟩
   have hd14:Step [] h6 { h6 with drawn:=h6.drawn+1 }:=Step.drew _ _
   refine Zb ((xk:Int) % (q.p.a.st+2)) λst hst=>?_;refine QU (Step (ob vl) h6) [(0,true),(1,true),(2,true),(3,true),(4,true),(5,true),(6,true),(7,true),(8,true),(9,true),(10,true),(11,false),(12,false),(13,true),(14,false)] mixed (by rfl) (by kernel_rfl) (Step.drew _ _) ?_
   refine p (λ_=>Qa O)<|pq (λ_ hc=>Qd (hN.step hc j2) O O)<|p (λ_=>Qn)<|p (λ_=>Qn)<|p (λ_=>ZD (i:=k) O O (by omega))<|pq (λ_ hc=>Qd (q0.step hc hn11v) O mv)<|p (λ_=>ZZ (k':=.i64) O ⟨by omega,by omega⟩)<|p (λ_=>Qn)<|p (λ_=>XG O O ⟨by omega,by omega⟩) <|
    p (λ_=>Ve (a:=(xk:Int)) (b:=q.p.a.st+2) O O (by omega) (by omega))<|p (λ_=>QK ⟨O,O,Z⟩)<|pk<|QJ (us:=[QT ((k:Int),(xk:Int) % (q.p.a.st+2))]) O O (by decide) (show 1*2≤1000000 by omega) ⟨O,O,Z⟩ λb137 hE G hb137 hB137=>?_
   have go:=hd14.trans G;have hz1415:=go.size;refine⟨go.any,?_⟩;refine pk<|Q5 (news:=QT ((k:Int),(xk:Int) % (q.p.a.st+2))) (L:=[]) (Qs T go) O O O (hB137.at (by simp)) (Qcx _) (by omega) (by omega) λkp hH gq H j3=>⟨(go.any (L:=ob vl)).trans' H,?_⟩;have hge16:∀b∈ob kp,hK.heap.size≤b:=λb hb=>(Qq gq b hb).1
   refine p (λ_=>Qa O)<|pkl (hl:=by kernel_rfl)<|QC ((hN.ext go).step H j2) O O (by simp) (QL gq) λmw hv hS=>pe ?_;refine Qx<|QN O O<|Qb<|xe ?_
   refine⟨(k+1,kp,ls++[((k:Int),(xk:Int) % (q.p.a.st+2))]),by simp only[];omega,La,ha,((J.trans go.any).then H (λb hb=>.inr (hgeL b hb).1)).trans' hv,hS,?_,by simp only[List.length_append,List.length_singleton];omega,?_,λp hp=>?_⟩
   ·have h9:=Ql gq hv (λb hb=>by have:=hge16 b hb;simp only[List.mem_singleton];omega);simp only[List.length_append,List.flatMap_append];simpa using h9
   ·simp only[];rw[Mn];exact⟨gh,Ns _ _,λp hp p' mx=>by rw[Lb.1 mx];have:=hO p hp;simp only[];omega⟩
   simp only[]at hp ⊢;rcases Lp.1 hp with hp|hp
   ·have:=hO p hp;omega
   rw[Lb.1 hp];simp only[Int.toNat_natCast];rw[hcget];omega
  rintro⟨vl,ls⟩ g14 h6 ⟨J,hN,T,ms,gh,hO⟩;simp only[]at hN T ms gh hO;have q9:=J.size;have j1:=hM.size;have hY:Step [] w9 h6:=mo.then1 J (by omega);have hX:=mq.step J qo;have kq:=h0.ext hY;refine Qc<|x (Qa O)<|x (Qd hN O O)<|x (Qu (QV (L:=[]) T (by omega) (by simp)) rfl)<|x (ZP rfl rfl)<|xe<|QD O (λj4=>?_) (λj4=>?_)
  ·refine Qi<|Qx<|QN O O<|Qb<|xe<|⟨(i+1,vx,qx),by simp only[];omega,La,hy,by simp only[];omega,I.trans hY.any,hX,kq,by simp only[];omega,hW,λq hq=>?_⟩;obtain⟨⟨k,k1,k2⟩,h2⟩:=hI q hq;exact⟨⟨k,by simp only[];omega,k2⟩,h2⟩
  have za:(0:Int)<(ls.length:Int):=j4;have hxx:=QL T;refine Qx<|x (Qa O)<|x (Qd hX O O)<|x (Qo hN O O)<|xl O<|QJ (us:=[Zu ⟨nm,vl,ls⟩]) O O (by decide) (show 1*2≤1000000 by omega) ⟨O,O,Z⟩ λb148 hE G hb148 hB148=>?_
  refine xl O<|Q5 (news:=Zu ⟨nm,vl,ls⟩) (L:=[]) (Qs kq.own G) O O O (hB148.at (by simp)) (yt hxx) (by omega) (by have:=hY.size;have:=G.size;omega) λkp hH gq H j3=>?_;have hs1115:Step [] hf hE:=(ko.then1 J qc).trans G
  have hM16:=(h0.ext h5).app hs1115 (q:=⟨nm,vl,ls⟩) (λt ht=>by rw[Lb.1 ht];exact⟨hK.heap.size,101,Qs T G,by show ls.length≤_;omega,hz1113⟩) (by omega) gq H j3;have hgeX:=Qq kq.own;have n3x:E∉ob vx:=QW kq.own (by omega);refine x (Qa O)<|xl O<|QC ((hX.ext G).step H n3x) O O (by simp) (QL gq) λmw hv hB317=>xe ?_;refine Qx<|QN O O<|Qb<|xe ?_
  have kr:Step [E] w8 hH:=((I.trans hY.any).trans G.any).then H (λb hb=>.inr (hgeX b hb).1);refine⟨(i+1,kp,qx++[⟨nm,vl,ls⟩]),by simp only[];omega,La,hy,by simp only[];omega,kr.trans' hv,hB317,hM16.low hv (λb hb=>by rw[Lb.1 hb];omega),by simp only[List.length_append,List.length_singleton];omega,?_,λq hq=>?_⟩
  ·simp only[List.map_append,List.map_cons,List.map_nil];rw[List.nodup_append];refine⟨hW,by simp,λs hs s' hs' e=>?_⟩;obtain⟨q,hq,rfl⟩:=Ly.1 hs;obtain⟨⟨k,k1,k2⟩,_⟩:=hI q hq;have hk0:k=0:=by omega
   have hi1:i=1:=by omega
   rw[Lb.1 hs',k2,←hB,hk0,hi1]at e;exact absurd e (by decide)
  rcases Lp.1 hq with hq|hq
  ·obtain⟨⟨k,k1,k2⟩,h2⟩:=hI q hq;exact⟨⟨k,by simp only[];omega,k2⟩,h2⟩
  rw[Lb.1 hq];refine⟨⟨i,Nat.lt_succ_self _,hB.symm⟩,λe=>by rw[show ls=[] from e]at za;exact absurd za (by decide),by show ls.length≤3;omega,Qc9 ls none (λb hb=>by cases hb) gh (λp hp=>?_)⟩;rw[Li];exact hO p hp
 rintro⟨vx,qx⟩ g9 w9 ⟨I,hV,h0,kn,hW,hI⟩;simp only[]at hV h0 kn hW hI;have k6:=I.size;have zb:=ka.step I mh;have g151:=Qfi (l:=l) h.n 4;have hbd:=h.bd;have hbdb:=Qb9 l.bd (b:=8) (by decide);refine Zb (l.bd.tmod 8) λbd zv=>?_;rw[zv]at hbdb
 refine Qc<|x (Qa O)<|x (Qd zb O g151)<|x (ZZ (k':=.i64) O ⟨by omega,by omega⟩)<|x (Qe8 O O (by decide))<|x (QK ⟨O,O,Z⟩)<|xl O<|Qr (us:=[.string .empty,Zd,.int .i64 0]) O λb15 U hh my mz =>
  xl rfl<|Qm (us:=[.string ⟨#[107]⟩,Zd,.int .i64 bd]) mz O (show Go.Lg.ev _ _=_ from congrArg (λn=>Value.agg #[.string ⟨#[107]⟩,Zd,.int .i64 n]) zv) O O ⟨O,O,O,Z⟩ λhf ge z0=>xe ?_
 have h5:Step [] w9 hf:=hh.then1 ge my;have hB111:=zb.ext h5;have hB311:=hV.ext h5;have n115:b1∉[b15]:=by simp only[List.mem_singleton];omega
 have n315:E∉[b15]:=by simp only[List.mem_singleton];omega
 have hl15:=z0.lt;refine QZ (α:=Value×List (Int×Int)) [(16,16),(157,179)] (λ_=>[]) (λz w'=>Step [b15] hf w'∧QS w'.heap b15 153 [.string ⟨#[107]⟩,z.1,.int .i64 bd]∧w'.ownsRow hf.heap.size 155 2 z.1 z.2.length (z.2.flatMap QT)∧z.2.length≤n∧z.2.Pairwise (λp q=>p.1<q.1)∧∀p∈z.2,0≤p.1∧p.1<(n:Int)∧-4<p.2∧p.2<4) (by rfl) ?_ ?_
 ·refine Qc<|Qb<|Qb<|xe<|Qh<|Qz (α:=Nat×Value×List (Int×Int)) [(16,16),(158,179)] (λz=>[(158,.int .i64 z.1)])
   (λz w'=>z.1≤n∧Step [b15] hf w'∧QS w'.heap b15 153 [.string ⟨#[107]⟩,z.2.1,.int .i64 bd]∧w'.ownsRow hf.heap.size 155 2 z.2.1 z.2.2.length (z.2.2.flatMap QT)∧z.2.2.length≤z.1∧z.2.2.Pairwise (λp q=>p.1<q.1)∧∀p∈z.2.2,0≤p.1∧p.1<(z.1:Int)∧-4<p.2∧p.2<4)
   (λz=>n - z.1) (by rfl) (0,Zd,[]) La
   ⟨Lk _,Step.refl _ _,z0,QQ _ _ _ _,Lu _,List.Pairwise.nil,λp hp=>by cases hp⟩ ?_
  rintro⟨i,vt,ts⟩ g12 hT ⟨hi,V,hP,hw,kc,gi,hQ⟩;simp only[]at hi hP hw kc gi hQ;refine Qc<|x (QA O O)<|xe<|Qg<|QD O (λm0=>?_) (λm0=>?_)
  ·refine Qy ?_;have k0:i=n:=by have h160:¬(i:Int)<1+(cn:Int) % 3:=m0;omega
   rw[k0]at kc hQ;exact⟨(vt,ts),Z,V,hP,hw,kc,gi,hQ⟩
  have hy:i<n:=by have h160:(i:Int)<1+(cn:Int) % 3:=m0;omega
  have z2:=hB111.step V n115;have qf:=QlJ (l:=l) h.n (i:=i) (by omega);have qfb:=QlI h i (by omega);refine Zb (flk l i) λfk hfk=>?_;rw[hfk]at qf qfb;refine Qi<|Qg<|Qh<|Qc<|Qb<|Qe<|Qc<|Qb<|x (Qa O)<|x (ZD (i:=i) O O (by omega))<|x (Qd z2 O qf)<|x (Q7 O O)<|xe<|QD O (λh165=>?_) (λh165=>?_)
  ·refine Qi<|Qx<|QN O O<|Qb<|xe ?_;exact⟨(i+1,vt,ts),by simp only[];omega,La,hy,V,hP,hw,by simp only[];omega,gi,λp hp=>by have:=hQ p hp;simp only[];omega⟩
  have hmd:=Qb9 fk (b:=4) (by decide);have hd12:Step [] hT { hT with drawn:=hT.drawn+1 }:=Step.drew _ _
  have hz12:=V.size;have hgeT:=Qq hw;have z3:b15∉ob vt:=QW hw (by omega);have hn1v:b1∉ob vt:=QW hw (by omega);refine QU (Step (ob vt) hT) [(0,true),(1,true),(2,true),(3,true),(4,true),(5,true),(6,true),(7,true),(8,true),(9,true),(10,false),(11,false),(12,true),(13,false)] mixed (by rfl) (by kernel_rfl) (Step.drew _ _) ?_
  refine p (λ_=>Qa O)<|pq (λ_ hc=>Qd (hP.step hc z3) O O)<|p (λ_=>Qn)<|p (λ_=>Qn)<|p (λ_=>Qa O)<|p (λ_=>ZD (i:=i) O O (by omega))<|pq (λ_ hc=>Qd (z2.step hc hn1v) O qf)<|p (λ_=>ZZ (k':=.i64) O ⟨by omega,by omega⟩) <|
   p (λ_=>Qe8 O O (by decide))<|p (λ_=>QK ⟨O,O,Z⟩)<|pk<|QJ (us:=[QT ((i:Int),fk.tmod 4)]) O O (by decide) (show 1*2≤1000000 by omega) ⟨O,O,Z⟩ λb176 hK hM hb176 hB176=>?_
  have gs:=hd12.trans hM;have hz1213:=gs.size;refine⟨gs.any,?_⟩;refine pk<|Q5 (news:=QT ((i:Int),fk.tmod 4)) (L:=[]) (Qs hw gs) O O O (hB176.at (by simp)) (Qcx _) (by omega) (by omega) λz4 h6 T J hn14=>⟨(gs.any (L:=ob vt)).trans' J,?_⟩;have hge14:∀b∈ob z4,hf.heap.size≤b:=λb hb=>(Qq T b hb).1
  refine p (λ_=>Qa O)<|pkl (hl:=by kernel_rfl)<|QC ((hP.ext gs).step J z3) O O (by simp) (QL T) λhE G mz=>pe ?_;refine Qx<|QN O O<|Qb<|xe<|⟨(i+1,z4,ts++[((i:Int),fk.tmod 4)]),by simp only[];omega,La,hy,((V.trans gs.any).then J (λb hb=>.inr (hgeT b hb).1)).trans' G,mz,?_,by simp only[List.length_append,List.length_singleton];omega,?_,λp hp=>?_⟩
  ·have h9:=Ql T G (λb hb=>by have:=hge14 b hb;simp only[List.mem_singleton];omega);simp only[List.length_append,List.flatMap_append];simpa using h9
  ·simp only[];rw[Mn];exact⟨gi,Ns _ _,λp hp p' mx=>by rw[Lb.1 mx];have:=hQ p hp;simp only[];omega⟩
  simp only[]at hp ⊢;rcases Lp.1 hp with hp|hp
  ·have:=hQ p hp;omega
  rw[Lb.1 hp];simp only[];omega
 rintro⟨vt,ts⟩ g12 hT ⟨V,hP,hw,kc,gi,hQ⟩;simp only[]at hP hw kc gi hQ;have hz12:=V.size;have hgT:=Qq hw;refine Qc<|x (Qa O)<|x (Qd hP O O)<|xl O<|xf<|(QiY hw (by omega)).mono ?_;rintro vu hK ⟨hM,kt⟩;have z5:(nzT ts).Pairwise (λp q=>p.1<q.1):=List.Pairwise.filter _ gi;have hul:=LU (λp:Int×Int=>!decide (p.2=0)) ts
 have z9:∀p∈nzT ts,0≤p.1∧p.1<(n:Int)∧p.2≠0∧-65536≤p.2∧p.2≤65536:=λp hp=>by
  have h1:=LP.1 hp;have h2:=hQ p h1.1;have h3:¬p.2=0:=by simpa using h1.2
  omega
 refine Zb (nzT ts) λus hus=>?_;have hul':us.length≤3:=by rw[←hus];exact LJ hul (by omega)
 rw[hus]at kt z5 z9;have n15t:b15∉ob vt:=QW hw (by omega);refine x (Qa O)<|xl O<|QC (hP.step hM n15t) O O (by simp) (QL kt) λh6 J hB1514=>xe ?_;have hY:Step [] w9 h6:=(((h5.then1 V my).then hM (λb hb=>.inr (by have:=(hgT b hb).1;omega)))).then1 J my;have j1:=hM.size;have q9:=J.size;have hgU:=Qq kt
 have T:=Ql kt J (λb hb=>by have:=(hgU b hb).1;simp only[List.mem_singleton];omega);have hX:=hV.ext hY;refine QZ (α:=Value×List KV) [(184,190)] (λ_=>[]) (λz w'=>Step [E] h6 w'∧QS w'.heap E 37 [ve,vc,vr,vx,z.1]∧z.2.length≤1∧(∀q∈z.2,q.nm=⟨#[107]⟩∧YW (co.map (·.p.a.st)) q.k=0)∧∀L:LN,(∀b∈L,b<w6.heap.size)→zc L w'.heap z.1 z.2) (by rfl) ?_ ?_
 ·refine Qc<|x (Qa O)<|x (Qd hB1514 O O)<|x (Qu (QV (L:=[]) T (by omega) (by simp)) rfl)<|x (ZP rfl rfl)<|xe<|QD O (λh187=>?_) (λh187=>?_)
  ·refine Qi ?_;exact⟨(Zd,[]),Z,Step.refl _ _,hX,by decide,λq hq=>(by cases hq),λL _=>⟨Zv.nil _ _ 3,λq hq=>(by cases hq),λq hq=>(by cases hq)⟩⟩
  refine Qx<|x (Qo hB1514 O O)<|xl O<|QJ (us:=[ZA ⟨⟨#[107]⟩,vu,us,bd⟩]) O O (by decide) (show 1*3≤1000000 by omega) ⟨O,O,Z⟩ λb189 hE G hb189 hB189=>?_;refine x (Qa O)<|xl O<|QC (hX.ext G) O O (by simp) rfl λhH H hU=>xe ?_;refine⟨(_,[⟨⟨#[107]⟩,vu,us,bd⟩]),Z,G.any.trans' H,hU,Lu _,λq hq=>?_,λL hL=>?_⟩
  ·rw[Lb.1 hq];refine⟨rfl,?_⟩;have hgr0:grt bd=false:=by unfold grt;rw[decide_eq_false (by omega),decide_eq_false (by omega)];rfl
   have hct:=Qc8 (sz:=co.map (·.p.a.st)) us none (λb hb=>by cases hb) z5 (λp hp=>by rw[Li,gv];exact z9 p hp);show YW _ ⟨_,us,bd⟩=0;unfold YW;rw[if_neg (by simp only[];omega),if_neg (by rw[hct];decide),if_neg (by simp only[];rw[hgr0];decide)]
  have ku:∀b∈E::L,b<hf.heap.size:=λb hb=>by
   rcases Lc.1 hb with rfl|hb
   ·omega
   have:=hL b hb;omega
  have h1:zc (E::L) hE.heap (.slice (some ⟨b189,0,none⟩) 1 1) [⟨⟨#[107]⟩,vu,us,bd⟩]:=by
   refine⟨hB189.arr (λhb=>by have:=ku _ hb;omega) O (by decide) (Lu _),λq hq=>?_,λq hq=>?_⟩
   ·rw[Lb.1 hq];exact(QV (L:=E::L) T (by omega) (λb hb ke=>by have:=(hgU b hb).1;have:=ku b ke;omega)).ext G
   rw[Lb.1 hq];exact Xw (by decide)
  exact(h1.st (H.mono (by simp))).up (λb hb=>.inl (Ln _ hb))
 rintro⟨vk,ks⟩ g16 hH ⟨H,hU,ha,hgk,m1⟩;simp only[]at hU ha hgk m1;have hge3:=Qq gj;have hlt3:=Q4 gj;have kr:Step [E] w8 hH:=(I.trans hY.any).trans' H;have hs716:Step [E] w7 hH:=Y.trans' kr;have m2:Step [E,b4] w6 hH:=h7.trans' (hs716.mono (by simp));have m3:∀b∈[E],b<w6.heap.size:=λb hb=>by rw[Lb.1 hb];omega
 have hE16:=Ql (Qs gj ph) m2 (λb hb hm=>by have:=hlt3 b hb;simp only[List.mem_cons,List.not_mem_nil,or_false]at hm;omega);have hC16:=hg.low hs716 m3;have hR16:=h8.low kr (λb hb=>by have:=m3 b hb;omega);have hX16:=(h0.ext hY).low H (λb hb=>by have:=m3 b hb;omega);have n23:b2∉[E]:=by simp only[List.mem_singleton];omega
 have n234:b2∉[E,b4]:=by simp only[List.mem_cons,List.not_mem_nil,or_false];omega
 have hB216:=(m7.ext gu).step m2 n234;refine Qc<|x (Qo hU O O)<|xl O<|Qm (us:=[ve,vc,vr,vx,vk]) hB216 O O O O ⟨QL hE16,QL hC16.c,QL hR16.c,QL hX16.own,(m1 [] (by simp)).arr.one,Z⟩ λmw hv hB217=>xe ?_;have m4:∀b∈[b2],b<w6.heap.size:=λb hb=>by rw[Lb.1 hb];omega
 have lo2':∀b∈[b2],b<w2.heap.size:=λb hb=>by rw[Lb.1 hb];omega
 have hE17:=Ql hE16 hv (λb hb hm=>by have:=(hge3 b hb).1;have:=lo2' b hm;omega);have hC17:=hC16.low hv m4;have hR17:=hR16.low hv (λb hb=>by have:=m4 b hb;omega);have m5:=hX16.low hv (λb hb=>by have:=m4 b hb;omega);have hs017:Step [] w mw:=((m8.trans gu).then m2 (λb hb=>.inr (by simp only[List.mem_cons,List.not_mem_nil,or_false]at hb;omega))).then1 hv (by omega)
 have hcon:∀q∈co,zi q.nm:=λq hq=>by
  obtain⟨k,hk,rfl⟩:=LG hq;rw[(hR k hk).nm];exact VV 99 k
 have hrqn:∀q∈rq,zi q.nm:=λq hq=>by
  obtain⟨k,hk,rfl⟩:=LG hq;rw[(h4 k hk).1.nm];exact VV 114 k
 have hxnm:∀q∈qx,zi q.nm:=λq hq=>by
  obtain⟨⟨k,_,k2⟩,_⟩:=hI q hq;rw[k2];exact VV 101 k
 have hevn:∀e∈ev,zi e.nm:=λe he=>Qgo _ e (by rw[kg];exact he);have hevl:ev.length=5:=by rw[←kg];exact Ko _ _
 refine Qk ⟨[.agg [ve,vc,vr,vx,vk].toArray],⟨⟨_,O,Qv O (hB217.at (L:=[]) (by simp)).cells⟩,Z⟩,hs017,⟨ev,co.map IV.it,rq.map IV.it,qx.map XV.x,ks.map KV.k⟩,⟨⟨ve,vc,vr,vx,vk,ev,co,rq,qx,ks⟩,rfl,rfl,λL hL=>?_⟩,?_⟩
 ·have ku:∀b∈L,b<w2.heap.size:=λb hb=>by have:=hL b hb;omega
  have hLn:b2∉L:=λhm=>by have:=hL b2 hm;omega
  have kf:∀b∈b2::L,b<w6.heap.size:=λb hb=>by
   rcases Lc.1 hb with rfl|hb
   ·omega
   have:=hL b hb;omega
  refine⟨⟨QV hE17 (by show ev.length≤_;omega) (λb hb ke=>by have:=(hge3 b hb).1;have:=ku b ke;omega),hevn⟩,hC17.itms (by omega) hcon (λb hb=>by have:=kf b (Ln _ hb);omega),hR17.itms (by omega) hrqn (λb hb=>by have:=kf b (Ln _ hb);omega),⟨QV m5.own (by show qx.length≤_;omega) (λb hb ke=>by have:=(Qq m5.own b hb).1;have:=kf b (Ln _ ke);omega),λq hq=>?_,hxnm⟩,?_⟩
  ·exact m5.each q hq _ (Lb.2 O) L (λb hb=>.inl (by have:=kf b (Ln _ hb);omega))
  exact((m1 (b2::L) kf).st (hv.mono (by simp))).up (λb hb=>.inl (Ln _ hb))
 rw[←kg];exact QkT (by omega) (by omega) hR gl (by omega) h4 kn hW hI ha hgk
section
variable {base:Nat}{w w':World}{vc va vc' va':Value}{co:List IV}{al:List K5}
end
end Go.Proofs.YtjcgijbhaemldaaGreatDoor
namespace Go.Lg
section
variable {P:Program}{f:Fr}{w:World}{d:Option Nat}{ty:Nat}{ps:String}{af:Array Edge}{gd:Option (Nat×Bool)}
abbrev i4 (p:Int×Int×Int×Int):LV:=[.int .i64 p.1,.int .i64 p.2.1,.int .i64 p.2.2.1,.int .i64 p.2.2.2]
end
end Go.Lg
namespace Go.Proofs.YtjcgijbhaemldaaGreatDoor
open Go.Lg
def enc (u:LI):Int:=u.foldl (λn e=>n*33+(e+1)) 0
def rn (a:QM)(x:Int)(u:LI):Int:=u.foldl (λs v=>nxt a.ed s v) x
def x0 (a:QM):Int:=if 0<a.st then 0 else -1
end Go.Proofs.YtjcgijbhaemldaaGreatDoor
namespace Go.Lg
section
variable {P:Program}{ops:List Oper}{K:Fr→World→Prop}{f:Fr}{w:World}{d:Option Nat}{ty:Nat}{ps:String}{af:Array Edge}{gd:Option (Nat×Bool)}
end
section
variable {P:Program}{ops:List Oper}{K:Fr→World→Prop}{f:Fr}{w:World}{d:Option Nat}{ty:Nat}{ps:String}{af:Array Edge}{gd:Option (Nat×Bool)}{C:World→Prop}{pl:List (Nat×Bool)}{i0:Nat}
end
end Go.Lg
namespace Go.Proofs.YtjcgijbhaemldaaGreatDoor
open Go.Lg
end Go.Proofs.YtjcgijbhaemldaaGreatDoor
namespace Go.Lg
end Go.Lg
namespace Go.Proofs.YtjcgijbhaemldaaGreatDoor
open Go.Lg
end Go.Proofs.YtjcgijbhaemldaaGreatDoor
namespace Go.Lg
open Go.ChangeShapes Go.WideShapes Go.RowKit
section
variable {H:Type}{enc:TypeId×Value→H}{P:Program}
theorem ye (hl:laidOutB P=true){W W':World}(hS:Step [] W W'){sp:Nat→Bool}:∀{ts:List TypeId}{vs:LV}{ds:List (DataW H)}{ps:List MemPlace},
  (ts.all λt=>P.readableRec t && decide (t<P.types.size))=true→DataW.TrodAll enc P W 0 (λ_=>true) true ts vs ds ps→(∀x∈ps,x.block<W.heap.size)→(∀x∈ps,sp x.block=true)→DataW.TrodAll enc P W' 0 sp true ts vs ds ps
 | [],vs,ds,ps,_,h,_,_=>by
  obtain⟨rfl,rfl,rfl⟩:=trodAll_nil h;exact trodAll_mk0
 | t::ts,vs,ds,ps,E,h,G,hsp=>by
  obtain⟨v,I,d,js,a,b,rfl,rfl,rfl,h1,h2⟩:=trodAll_cons h;simp only[List.all_cons,Bool.and_eq_true,decide_eq_true_eq]at E;have hb:Below W.heap.size W W':=hS.below;refine trodAll_cons_mk (WideElems.Trod_stays hl E.1.1 E.1.2 h1 (λx hx=>hb.same (G x (LS _ hx))) (λx hx=>hsp x (LS _ hx))) ?_
  exact ye hl hS (by simpa using E.2) h2 (λx hx=>G x (MZ _ hx)) (λx hx=>hsp x (MZ _ hx))
theorem QfK {f:Func}{s:ChangeSpec}{apart fresh handsOn again:Bool}{W W':World}{args:Array Value}{ds gs:List (DataW H)}{before:List MemPlace}{tb:TypeId}
  (hl:laidOutB P=true) (hg:(f.params.toList.all λt=>P.readableRec t && decide (t<P.types.size))=true) (J:f.resultTypes=#[tb]) (T:P.underlying tb=some .bool) (U:s.vars=[])
  (E:s.fn H (ds++gs)={ results:=[.lit (.bool true)],args:=ds })
  (G:DataW.Whole enc P f.params.toList s.vars apart W args.toList ds gs before) (hS:Step [] W W'):s.post enc P f apart fresh handsOn again W args (.bool true) W':=by
 have I:=G.lt;have hh:=G;obtain⟨p,q,hA,V,rfl,hz,hn⟩:=G;rw[U]at V;obtain⟨rfl,rfl⟩:=trodVars_none V;rw[LL]at *;have Y:∀sp:Nat→Bool,(∀x∈p,sp x.block=true)→DataW.TrodAll enc P W' 0 sp true f.params.toList args.toList ds p:=λsp hsp=>ye hl hS hg hA I hsp
 have hc:∀(b:Nat) (sp:Nat→Bool) (hd:Bool),DataW.TrodAll enc P W' b sp hd f.resultTypes.toList ((Value.bool true).resultList f.resultTypes.size) [.lit (.bool true)] []:=λb sp hd=>by
  rw[J];exact trodAll_mk1 (shut_bool T true)
 have hb:Below W.heap.size W W':=hS.below;have he:∀sp:Nat→Bool,DataW.TrodVars enc P W' sp s.vars ([]:List (DataW H)) []:=λsp=>by rw[U];rfl
 have hi:(s.fn H ds).results=[.lit (.bool true)]:=by rw[E]
 have hj:(s.fn H ds).args=ds:=by rw[E]
 have hk:(s.fn H ds).vars=[]:=by rw[E]
 have hm:∀(j:Nat) (t:TypeId) (r:Value),f.resultTypes[j]?=some t→((Value.bool true).resultList f.resultTypes.size)[j]?=some r→Value.okWide P W' .any 0 t r:=ok_one J O (okWide_bool_mk T true);refine⟨ds,[],p,[],p,[],hh,?_,?_,?_,?_,λ_=>⟨hm,[.lit (.bool true)]++ds,[],([]++p)++[],⟨[]++p,[],?_,?_,O,?_,?_⟩,?_⟩⟩
 ·rw[LL,hi];exact hc _ _ _
 ·rw[LL,hj];exact Y _ (λx hx=>by simpa using I x hx)
 ·rw[LL,hk];exact he _
 ·exact World.keptBut_mono (λ_ f=>f.elim) (hb.frame (λ_=>False))
 ·exact trodAll_append (Y _ (λ_ _=>O)) (hc _ _ _)
 ·exact he _
 ·intro b off hp;have hf:MemPlace.cell b off∈p:=by simpa using hp
  rw[hb.frozen (p:=⟨b,off,none⟩) (I _ hf)];exact hz b off hf
 ·intro ha;have:=hn ha;simpa using this
 intro x hx _;simpa using hx
end
end Go.Lg
namespace Go.Proofs.YtjcgijbhaemldaaGreatDoor
open Go.ChangeShapes Go.WideShapes Go.RowKit Go.Lg
theorem QbO:∀(l:LV),(∀v∈l,∃n:Nat,v=.int .u8 (n:Int)∧n<256)→∃ns:LN,l=bys ns∧ns.length=l.length∧∀n∈ns,n<256
 | [],_=>⟨[],O,O,by simp⟩
 | v::l,h=>by
  obtain⟨n,rfl,E⟩:=h v Lr;obtain⟨ns,h1,h2,h3⟩:=QbO l (λv G=>h v (Ln _ G));refine⟨n::ns,by rw[h1];rfl,by simp[h2],λm hm=>?_⟩;rcases Lc.1 hm with rfl|hm
  ·exact E
  exact h3 m hm
theorem QjY {n:Int}(h:(Lit.int .u8 n).wf=true):∃m:Nat,n=m∧m<256:=by
 simp only[Lit.wf,Bool.and_eq_true,decide_eq_true_eq]at h;rw[show IntKind.u8.min=0 from rfl,show IntKind.u8.max=255 from rfl]at h;exact⟨n.toNat,by omega,by omega⟩
end Go.Proofs.YtjcgijbhaemldaaGreatDoor
