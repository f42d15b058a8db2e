/- Merged out of 16 texts. -/
import Derived.Test.YtgmifemhkjdblaaGreatDoorKge
import Derived.Test.YtgmifemhkjdblaaGreatDoorKgb
import Derived.Laws.IdiomStrings
import Derived.Test.YtgmifemhkjdblaaGreatDoorRows
import Derived.JoinedOf
import Derived.RowKit
import Derived.ProofKit
import Derived.Test.YtgmifemhkjdblaaGreatDoorKga
import Derived.ChangeSame
import Derived.Carry
import Derived.OpenShut
import Derived.ChangeSlices
import Derived.WideShapes
import Derived.ChangeArms
import Derived.Lib.LaidTab
import Derived.Stop.LaidErr
import Derived.MakeChecks
namespace Go.Proofs.YtgmifemhkjdblaaGreatDoor
open Go.Lg
theorem QbR (V:List Vs):∀(f k:Nat),(lgW V f k).length≤f
 | 0,_=>Nat.le_refl _
 | f+1,k=>by
  rw[jm]
  split
  ·have:=QbR V f (gV V k).b.toNat
   simp only[List.length_cons];omega
  ·exact Nat.zero_le _
theorem QbS {a b:QN}{kd:Int}{al:LI}:∀(f i:Nat) (V:List Vs) (u:LI),lgL a b kd al f i V=some u→u.length≤f+i
 | 0,_,_,_,h=>by cases h
 | f+1,i,V,u,h=>by
  rw[lgL] at h
  split at h
  ·split at h
   ·have e:(lgW V (i+1) i).reverse=u:=Option.some.inj h
    rw[←e,List.length_reverse]
    have:=QbR V (i+1) i;omega
   ·have:=QbS f (i+1) _ u h;omega
  ·cases h
theorem Qg4 {a b:QN}(ha:Q5 a) (hb:Q5 b) {kd:Int}{u:LI}(h:lgq a b kd=some u):u.length≤17000000:=by
 have h1:=QbS _ _ _ _ h
 have ha1:=ha.st1
 have hb1:=hb.st1
 have hNle:(a.st.toNat+1)*(b.st.toNat+1)≤4097*4097:=Nat.mul_le_mul (by omega) (by omega)
 omega
def cmK (a b:QN) (k:Nat):Option (LI):=(([1,2]:LI).take k).foldl (fun z kd=>cm1 z (lgq a b kd)) none
theorem k12:∀{k:Nat}(h:k<[(1:Int),2].length),[(1:Int),2][k]'h=1∨[(1:Int),2][k]'h=2
 | 0,_=>.inl rfl
 | 1,_=>.inr rfl
 | k+2,h=>absurd h (by simp)
theorem Qli (a b:QN):cmK a b 2=cmW a b:=rfl
theorem jn {a b:QN}(ha:Q5 a) (hb:Q5 b) {kd:Int}(h:kd=1∨kd=2):lgE a b kd=0:=by
 unfold lgE
 rw[if_neg (by simpa using (Zt a).2 ha),if_neg (by simpa using (Zt b).2 hb),if_neg (by omega)]
theorem Qc3 (c:Zx):cmE c false=if Jy c≠0 then Jy c else if suE c≠0 then suE c else lgE (YV c) (VZ c) 1:=by
 unfold cmE own
 simp
set_option maxRecDepth 4096 in
set_option maxHeartbeats 8000000 in
theorem Qbm {L:LN}{w:World}{c:CL}(h0:ZL L w.heap c) (hkb:Kb w 4096) :
  QI Tryz.prog 32 [c.val,.bool false] w fun r w'=>Step [] w w'∧∃v e,r=.tuple #[v,.bool e,.int .i64 (cmE c.cel false)]∧(cmE c.cel false=0→e=(cmW (YV c.cel) (VZ c.cel)).isNone):=by
 have h:=h0.up (L':=[]) (by simp)
 have hp:=Qc3 c.cel
 refine Zd (cmE c.cel false) fun E hE=>?_
 rw[hE] at hp ⊢
 refine QI.of_W Tryz.func32 rfl Tryz.ntmps32 Tryz.results32 (by simp) ?_
 refine Qc<|xl rfl<|QR (us:=c.cells) rfl fun b2 w1 hs1 hb2 hB2=>x Qe<|x Qe<|Qf ?_
 refine Qc<|x (Qp hB2 rfl rfl)<|xl rfl<|xf<|(KW (h.ext hs1) (hkb.ext hs1)).mono ?_
 rintro r2 w2 ⟨hs2,us,rfl,hul,huo,hgood⟩
 refine Qb<|x (Qj rfl rfl)<|x (Qj rfl rfl)<|xl rfl<|Qu (us:=je) rfl fun b7 w3 hs3 hb7 hB7=>xl rfl<|Qq (us:=us) hB7 rfl rfl hul rfl huo fun w4 hs4 hB74 =>
  Qf ?_
 have hs24:Step [] w2 w4:=hs3.then1 hs4 hb7
 have hs14:=hs2.trans hs24
 have hs04:=hs1.trans hs14
 refine Qg<|Qc<|Qb<|x (Q6 rfl rfl)<|xe ?_
 refine Q3 rfl (fun h23=>?_) (fun h23=>?_)
 ·rw[if_pos h23] at hp
  subst hp
  refine Qc<|Qb<|x Qe<|x Qe<|Qf ?_
  exact Ql ⟨[Zc,.bool false,.int .i64 (Jy c.cel)],⟨rfl,rfl,rfl,trivial⟩,hs04,Zc,false,rfl,fun h0=>absurd h0 h23⟩
 rw[if_neg h23] at hp
 have he:=Decidable.not_not.1 h23
 obtain ⟨t,ht,hok,hT⟩:=hgood he
 subst ht
 have hT4:qp [] w4.heap t:=(hT [] (by simp)).ext hs24
 obtain ⟨_,hoA⟩:=Kp he
 refine Qi ?_
 refine Qc<|x (Qp (hB2.ext hs14) rfl rfl)<|xl rfl<|xf<|(Kk (h.ext hs04) (hkb.ext hs04)).mono ?_
 rintro r5 w5 ⟨hs5,sa,sm,se,rfl,hone,_,hgood5⟩
 refine Zd (if Y0 c.cel=0 then (VZ c.cel).st else 0) fun M hM=>?_
 rw[hM]
 refine Qb<|x (Qj rfl rfl)<|x (Qj rfl rfl)<|xl rfl<|Qu (us:=[nS,.int .i64 0,nS,nS]) rfl fun b8 w6 hs6 hb8 hB8=>xl rfl<|Qq (us:=[sa,.int .i64 M,sm,se]) hB8 rfl rfl rfl rfl ⟨hone.1,rfl,hone.2.1,hone.2.2.1,trivial⟩ fun w7 hs7 hB87 =>
  Qf ?_
 have hs57:Step [] w5 w7:=hs6.then1 hs7 hb8
 have hs47:=hs5.trans hs57
 have hs07:=hs04.trans hs47
 refine Qg<|Qc<|Qb<|x (Q6 rfl rfl)<|xe ?_
 refine Q3 rfl (fun h31=>?_) (fun h31=>?_)
 ·rw[if_pos h31] at hp
  subst hp
  refine Qc<|Qb<|x Qe<|x Qe<|Qf ?_
  exact Ql ⟨[Zc,.bool false,.int .i64 (suE c.cel)],⟨rfl,rfl,rfl,trivial⟩,hs07,Zc,false,rfl,fun h0=>absurd h0 h31⟩
 rw[if_neg h31] at hp
 have hsu:=Decidable.not_not.1 h31
 have hoS:=yK hsu
 have hE0:E=0:=hp.trans (jn hoA hoS (.inl rfl))
 have hMs:M=(VZ c.cel).st:=by rw[←hM,if_pos (show Y0 c.cel=0 from hsu)]
 have hS7:Zq [] w7.heap sa sm se (VZ c.cel):=(hgood5 hsu [] (by simp)).ext hs57
 refine Qi ?_
 refine Qc<|x (Qa rfl)<|x (ZC (us:=[t.va,.int .i64 t.A.st,t.vm,t.ve]) (hB74.ext hs47) rfl rfl rfl)<|xl rfl<|Qu (us:=[nS,.int .i64 0,nS,nS]) rfl fun b9 w8 hs8 hb9 hB9=>xl rfl<|Qq (us:=[t.va,.int .i64 t.A.st,t.vm,t.ve]) hB9 rfl rfl rfl rfl ⟨hT4.a.al.one,rfl,hT4.a.mr.one,hT4.a.ed.one,trivial⟩ fun w9 hs9 hB99 =>
  xe ?_
 have hs79:Step [] w7 w9:=hs8.then1 hs9 hb9
 have hs09:=hs07.trans hs79
 have hB89:=hB87.ext hs79
 have hT9:qp [] w9.heap t:=(hT4.ext hs47).ext hs79
 have hS9:=hS7.ext hs79
 refine QV (α:=Unit) [(4,6),(10,11),(35,55)] (fun z=>[(4,Zc)]) (fun z w'=>w'=w9) (by rfl) ?_ ?_
 ·refine Qc<|Qb<|xe ?_
  refine Yz rfl ?_
  refine Qi ?_
  exact ⟨(),⟨rfl,trivial⟩,rfl⟩
 rintro z g w16 hw16
 subst hw16
 refine Qc<|Qf ?_
 refine Qg<|Qc<|xl rfl<|QG (us:=[[.int .i64 1],[.int .i64 2]]) rfl rfl (by decide) (by simp) ⟨rfl,rfl,rfl,rfl,trivial⟩ fun b56 w17 hs17 hb56 hB56=>?_
 have hI56:QL [] w17.heap (.slice (some ⟨b56,0,none⟩) 2 2) [1,2]:=hB56.arr (by simp) (n:=2) (cap:=2) (sz:=1) rfl (by omega) (Nat.le_refl _)
 refine x (Qr hI56 rfl)<|Qb<|xe ?_
 have hs017:=hs09.trans hs17
 refine Qh<|QA (α:=Nat×Value×Option (LI)) [(4,6),(13,16),(58,84)] (fun z=>[(4,z.2.1),(5,.bool z.2.2.isNone),(58,.int .i64 z.1)]) (fun z w'=>z.1≤2∧Step [] w17 w'∧z.2.2=cmK (YV c.cel) (VZ c.cel) z.1∧∀u,z.2.2=some u→Qs 3 w.heap.size w' z.2.1 u∧u.length≤17000000) (fun z=>2 - z.1) (by rfl) (0,Zc,none) ⟨rfl,rfl,rfl,trivial⟩
  ⟨Nat.zero_le _,Step.refl _ _,rfl,fun u h=>by cases h⟩ ?_
 rintro ⟨k,v,o⟩ g w18 ⟨hk,hs18,ho,hov⟩
 simp only[] at hk ho hov
 have hs018:=hs017.trans hs18
 have hs918:=hs17.trans hs18
 refine Qc<|x (QB rfl rfl)<|xe ?_
 refine Qg<|QD rfl (fun h59=>?_) (fun h59=>?_)
 ·refine Qy ?_
  have hke:k=2:=by have h16:¬(k:Int)<(2:Nat):=h59;omega
  rw[hke,Qli] at ho
  refine Qc<|Qb<|Qb<|x Qe<|x Qe<|Qf ?_
  exact Ql ⟨[v,.bool o.isNone,.int .i64 0],⟨rfl,rfl,rfl,trivial⟩,hs018,v,o.isNone,by rw[hE0];rfl,fun _=>by rw[ho]⟩
 have hlt:k<[(1:Int),2].length:=by have h16:(k:Int)<(2:Nat):=h59;simp;omega
 have hkd:=k12 hlt
 have hsuc:cmK (YV c.cel) (VZ c.cel) (k+1)=cm1 (cmK (YV c.cel) (VZ c.cel) k) (lgq (YV c.cel) (VZ c.cel) ([(1:Int),2][k]'hlt)):=by
  unfold cmK
  rw[List.take_succ_eq_append_getElem hlt,List.foldl_append];rfl
 refine Qi ?_
 refine Qg<|Qh<|Qc<|xii (i:=k) (hI56.ext hs18) rfl rfl hlt fun a60 h60=>?_
 refine Zd ([(1:Int),2][k]'hlt) fun kd hkd'=>?_
 rw[hkd'] at h60 hkd hsuc
 refine x (Qv h60 rfl)<|Qf ?_
 have hEq:=QaP (hT9.a.ext hs918) (hS9.ext hs918) kd
 rw[hok.A] at hEq
 have hEq':QI Tryz.prog 82 [.agg #[t.va,.int .i64 t.A.st,t.vm,t.ve],.agg #[sa,.int .i64 M,sm,se],.int .i64 kd] w18 fun r w'=>Step [] w18 w'∧∃v e,r=.tuple #[v,.bool e,.int .i64 0]∧(match lgq (YV c.cel) (VZ c.cel) kd with | none=>v=Zc∧e=true | some u=>e=false∧Qs 3 w18.heap.size w' v u):=by
  rw[hMs,hok.A]
  refine hEq.mono ?_
  rintro r w' ⟨a1,v,e,a2,a3⟩
  have hz:=jn hoA hoS hkd
  rw[hz] at a2
  exact ⟨a1,v,e,a2,a3 hz⟩
 refine Qc<|x (Qp (hB99.ext hs918) rfl rfl)<|x (Qp (hB89.ext hs918) rfl rfl)<|Qb<|xl rfl<|xf<|hEq'.mono ?_
 rintro r19 w19 ⟨hs19,v',e',rfl,hm⟩
 have hs019:=hs018.trans hs19
 have hz018:=hs018.size
 refine Qb<|x (Qj rfl rfl)<|x (Qj rfl rfl)<|x (Qj rfl rfl)<|x Qe<|x Qe<|Qf ?_
 refine Qg<|Qc<|Qb<|x (Q6 rfl rfl)<|xe ?_
 refine Q3 rfl (fun h71=>?_) (fun h71=>?_)
 ·exact absurd rfl h71
 refine Qi ?_
 refine Zd (lgq (YV c.cel) (VZ c.cel) kd) fun q hq=>?_
 rw[hq] at hm hsuc
 have hql:∀u,q=some u→u.length≤17000000:=fun u hu=>Qg4 hoA hoS (hq.trans hu)
 have hqe:e'=q.isNone:=by
  cases q with
  | none=>exact hm.2
  | some u=>exact hm.1
 have hqv:∀u,q=some u→Qs 3 w.heap.size w19 v' u:=fun u hu=>by
  subst hu;exact Zb hm.2 hz018
 have hov19:∀u,o=some u→Qs 3 w.heap.size w19 v u∧u.length≤17000000:=fun u hu=>⟨Qt (hov u hu).1 hs19,(hov u hu).2⟩
 rw[←ho] at hsuc
 refine QV (α:=Bool) [(73,82)] (fun z=>[(82,.bool z)]) (fun z w'=>Step [] w19 w'∧(z=true→∃u,q=some u∧cm1 o q=some u)∧(z=false→cm1 o q=o)) (by rfl) ?_ ?_
 ·refine Qw<|Qb<|xB (Zm rfl) (fun h74=>?_) (fun h74=>?_)
  ·have hqs:q.isNone=false:=by rw[←hqe];simpa using h74
   obtain ⟨u,hu⟩:∃u,q=some u:=by cases q with | none=>cases hqs | some u=>exact ⟨u,rfl⟩
   refine Qb<|xB Qm (fun h76=>?_) (fun h76=>?_)
   ·have hon:o=none:=by cases o with | none=>rfl | some u=>cases h76
    refine Qb<|xs rfl<|xs rfl<|xs rfl<|x (Qn rfl)<|x (Qn rfl)<|xe ?_
    exact ⟨true,⟨rfl,trivial⟩,Step.refl _ _,fun _=>⟨u,hu,by rw[hon,hu];rfl⟩,(fun h=>by cases h)⟩
   obtain ⟨u0,hu0⟩:∃u0,o=some u0:=by cases o with | none=>cases h76 | some u=>exact ⟨u,rfl⟩
   have hI1:QL [] w19.heap v' u:=Qs.ints (hqv u hu) (by have:=hql u hu;omega) (by simp)
   have hI2:QL [] w19.heap v u0:=Qs.ints (hov19 u0 hu0).1 (by have:=(hov19 u0 hu0).2;omega) (by simp)
   refine Qb<|Qb<|Qb<|xl rfl<|xf<|(QeD hI1 hI2).mono ?_
   rintro r20 w20 ⟨rfl,hs20⟩
   refine x (Qn rfl)<|x (Qn rfl)<|xe ?_
   refine ⟨less u u0,⟨rfl,trivial⟩,hs20,fun hl=>⟨u,hu,?_⟩,fun hl=>?_⟩
   ·rw[hu,hu0];show (if less u u0=true then some u else some u0)=_;rw[if_pos hl]
   ·rw[hu,hu0];show (if less u u0=true then some u else some u0)=_;rw[if_neg (by rw[hl];simp)]
  have hqn:q=none:=by
   have h75:e'=true:=by simpa using h74
   rw[hqe] at h75
   cases q with | none=>rfl | some u=>cases h75
  refine Qb<|xs rfl<|xs rfl<|xs rfl<|xs rfl<|xs rfl<|xs rfl<|x (Qn rfl)<|xe ?_
  exact ⟨false,⟨rfl,trivial⟩,Step.refl _ _,(fun h=>by cases h),fun _=>by rw[hqn];rfl⟩
 rintro zb g w21 ⟨hs21,hzt,hzf⟩
 have hs1821:=hs19.trans hs21
 refine QW rfl (fun h82=>?_) (fun h82=>?_)
 ·obtain ⟨u,hu,hcm⟩:=hzt h82
  refine Qw<|Qb<|x Qe<|Qf ?_
  refine Qw<|x (Qx rfl rfl ⟨by omega,by omega⟩)<|Qb<|xe ?_
  exact ⟨(k+1,v',some u),by simp only[];simp at hlt;omega,⟨rfl,rfl,rfl,trivial⟩,by simp at hlt;omega,hs18.trans hs1821,by simp only[];rw[hsuc,hcm],fun u' h'=>by
   have:u=u':=Option.some.inj h'
   subst this
   exact ⟨Qt (hqv u hu) hs21,hql u hu⟩⟩
 have hcm:=hzf h82
 refine Qi ?_
 refine Qw<|x (Qx rfl rfl ⟨by omega,by omega⟩)<|Qb<|xe ?_
 exact ⟨(k+1,v,o),by simp only[];simp at hlt;omega,⟨rfl,rfl,rfl,trivial⟩,by simp at hlt;omega,hs18.trans hs1821,by simp only[];rw[hsuc,hcm],fun u' h'=>⟨Qt (hov19 u' h').1 hs21,(hov19 u' h').2⟩⟩
abbrev yp (s:Int):QN:=⟨[s,s+1],2,[0],[(0,s,1),(1,s+1,0)]⟩
theorem Qb3 {w:World}{nm:ByteArray}{s:Int}(hs:0≤s∧s<100) :
  QI Tryz.prog 86 [.string nm,.int .i64 s] w fun r w'=>Step [] w w'∧∃va vm ve,r=.agg #[.string nm,va,.int .i64 2,vm,ve]∧ZE [va,vm,ve]∧∀L:LN,(∀b∈L,b<w.heap.size)→Zq L w'.heap va vm ve (yp s):=by
 refine QI.of_W Tryz.func86 rfl Tryz.ntmps86 Tryz.results86 (by simp) ?_
 refine Qc<|xl rfl<|Qu (us:=[.string .empty,nS,.int .i64 0,nS,nS]) rfl fun b4 w1 hs1 hb4 hB4=>xe ?_
 refine Qc<|Qb<|Qb<|Qb<|x (Qx rfl rfl ⟨by omega,by omega⟩)<|xl rfl<|QG (us:=[[.int .i64 s],[.int .i64 (s+1)]]) rfl rfl (by decide) (by simp) ⟨rfl,rfl,rfl,rfl,trivial⟩ fun b9 w2 hs2 hb9 hB9 =>
  xl rfl<|QG (us:=[[.int .i64 0]]) rfl rfl (by decide) (by simp) ⟨rfl,rfl,trivial⟩ fun b10 w3 hs3 hb10 hB10=>Qb<|x (QM ⟨rfl,rfl,rfl,trivial⟩) <|
  Qb<|x (Qx rfl rfl ⟨by omega,by omega⟩)<|x (QM ⟨rfl,rfl,rfl,trivial⟩)<|xl rfl<|QG (us:=[QC (0,s,1),QC (1,s+1,0)]) rfl rfl (by decide) (show 2*3≤1000000 by omega) ⟨rfl,rfl,rfl,rfl,trivial⟩ fun b16 w4 hs4 hb16 hB16 =>
  x (QM ⟨rfl,rfl,rfl,rfl,trivial⟩)<|x (Zv [(0,[.string nm]),(1,[.slice (some ⟨b9,0,none⟩) 2 2,.int .i64 2,.slice (some ⟨b10,0,none⟩) 1 1,.slice (some ⟨b16,0,none⟩) 2 2])] ⟨rfl,rfl,rfl,rfl,trivial⟩)<|xl rfl<|Qq (us:=[.string nm,.slice (some ⟨b9,0,none⟩) 2 2,.int .i64 2,.slice (some ⟨b10,0,none⟩) 1 1,.slice (some ⟨b16,0,none⟩) 2 2]) (((hB4.ext hs2).ext hs3).ext hs4) rfl rfl rfl rfl ⟨rfl,rfl,rfl,rfl,rfl,trivial⟩ fun w5 hs5 hB45 =>
  xe ?_
 have hz1:=hs1.size
 have hz2:=hs2.size
 have hz3:=hs3.size
 have hz4:=hs4.size
 have hl4:=hB4.lt
 have hl9:=hB9.lt
 have hl10:=hB10.lt
 refine Ql ⟨[.agg [.string nm,.slice (some ⟨b9,0,none⟩) 2 2,.int .i64 2,.slice (some ⟨b10,0,none⟩) 1 1,.slice (some ⟨b16,0,none⟩) 2 2].toArray],⟨⟨_,rfl,Qz rfl (hB45.at (L:=[]) (by simp)).cells⟩,trivial⟩,(((hs1.trans hs2).trans hs3).trans hs4).then1 hs5 (by omega),_,_,_,rfl,⟨rfl,rfl,rfl,trivial⟩,fun L hL=>?_⟩
 have k9:QS w5.heap b9 3 [.int .i64 s,.int .i64 (s+1)]:=(((hB9.ext hs3).ext hs4)).step hs5 (by simp only[List.mem_singleton];omega)
 have k10:QS w5.heap b10 3 [.int .i64 0]:=((hB10.ext hs4)).step hs5 (by simp only[List.mem_singleton];omega)
 have k16:QS w5.heap b16 126 [.int .i64 0,.int .i64 s,.int .i64 1,.int .i64 1,.int .i64 (s+1),.int .i64 0]:=hB16.step hs5 (by simp only[List.mem_singleton];omega)
 have nL:∀{b:Nat},w.heap.size≤b→b∉L:=fun hb hm=>by have:=hL _ hm;omega
 exact ⟨k9.arr (nL (by omega)) (n:=2) (cap:=2) (sz:=1) rfl (by omega) (Nat.le_refl _),k10.arr (nL (by omega)) (n:=1) (cap:=1) (sz:=1) rfl (by omega) (Nat.le_refl _),k16.arr (nL (by omega)) (n:=2) (cap:=2) (sz:=3) rfl (by omega) (Nat.le_refl _)⟩
abbrev fs1:ByteArray:=⟨#[111,110,101]⟩
abbrev fs2:ByteArray:=⟨#[116,119,111]⟩
abbrev fs3:ByteArray:=⟨#[98,117,102,102,101,114]⟩
abbrev fcE:List KE:=[⟨⟨#[97]⟩,true,false,false,0⟩,⟨⟨#[98]⟩,false,false,false,0⟩,⟨⟨#[99]⟩,true,false,false,0⟩,⟨⟨#[100]⟩,false,false,false,0⟩]
def X0:Zx:=⟨fcE,[⟨fs1,yp 0⟩,⟨fs2,yp 2⟩],[⟨fs3,yp 1⟩],[],[]⟩
def fcP (N:Nat) (i:Nat) (v:Value) (w:World):Prop :=
 if i=4 then ∃b,v=.slice (some ⟨b,0,none⟩) 4 4∧N≤b∧QS w.heap b 97 (fcE.flatMap Zo)
 else if i=6 then ∃va vm ve,v=.agg #[.string fs1,va,.int .i64 2,vm,ve]∧ZE [va,vm,ve]∧∀L:LN,(∀b∈L,b<N)→Zq L w.heap va vm ve (yp 0)
 else if i=8 then ∃va vm ve,v=.agg #[.string fs2,va,.int .i64 2,vm,ve]∧ZE [va,vm,ve]∧∀L:LN,(∀b∈L,b<N)→Zq L w.heap va vm ve (yp 2)
 else if i=9 then Kg N w.heap v [⟨fs1,yp 0⟩,⟨fs2,yp 2⟩]
 else Kg N w.heap v [⟨fs3,yp 1⟩]
theorem Kg.ext {N:Nat}{w w':World}{v:Value}{l:List X4}(h:Kg N w.heap v l) (hs:Step [] w w'):Kg N w'.heap v l:=let ⟨qs,h1,h2⟩:=h;⟨qs,h1,fun L hL=>(h2 L hL).ext hs⟩
theorem Qhu {N:Nat}:∀i v w w',fcP N i v w→Step [] w w'→fcP N i v w':=by
 intro i v w w' h hs
 unfold fcP at h ⊢
 by_cases h4:i=4
 ·rw[if_pos h4] at h ⊢
  obtain ⟨b,e,n,hB⟩:=h
  exact ⟨b,e,n,hB.ext hs⟩
 rw[if_neg h4] at h ⊢
 by_cases h6:i=6
 ·rw[if_pos h6] at h ⊢
  obtain ⟨va,vm,ve,e,o,hA⟩:=h
  exact ⟨va,vm,ve,e,o,fun L hL=>(hA L hL).ext hs⟩
 rw[if_neg h6] at h ⊢
 by_cases h8:i=8
 ·rw[if_pos h8] at h ⊢
  obtain ⟨va,vm,ve,e,o,hA⟩:=h
  exact ⟨va,vm,ve,e,o,fun L hL=>(hA L hL).ext hs⟩
 rw[if_neg h8] at h ⊢
 by_cases h9:i=9
 ·rw[if_pos h9] at h ⊢;exact Kg.ext h hs
 rw[if_neg h9] at h ⊢;exact Kg.ext h hs
theorem Xg {a:Array UInt8}(h:a.size≤100):VV ⟨a⟩:=by
 show a.size≤_
 omega
theorem Kg.one {N:Nat}{H:Array Obj}{v:Value}{l:List X4}(h:Kg N H v l):v.oneCell'=true:=by
 obtain ⟨qs,_,h2⟩:=h
 exact (h2 [] (by simp)).arr.one
set_option maxHeartbeats 4000000 in
theorem Jd (w:World):QI Tryz.prog 35 [] w fun r w'=>Step [] w w'∧Qii w.heap.size w'.heap r X0:=by
 refine QI.of_W Tryz.func35 rfl Tryz.ntmps35 Tryz.results35 (by simp) ?_
 refine Qc<|xl rfl<|Qu (us:=YK) rfl fun b0 w1 hs1 hb0 hB0=>xe ?_
 refine Qc<|Qf ?_
 refine Qc<|xl rfl<|QG (us:=[[.int .i64 1],[.int .i64 2]]) rfl rfl (by decide) (by simp) ⟨rfl,rfl,rfl,rfl,trivial⟩ fun b3 w2 hs2 hb3 hB3=>xl rfl<|QG (us:=[[.int .i64 0]]) rfl rfl (by decide) (by simp) ⟨rfl,rfl,trivial⟩ fun b4 w3 hs3 hb4 hB4 =>
  x (QM ⟨rfl,rfl,rfl,trivial⟩)<|x (QM ⟨rfl,rfl,rfl,trivial⟩)<|xl rfl<|QG (us:=[QC (0,1,1),QC (1,2,0)]) rfl rfl (by decide) (show 2*3≤1000000 by omega) ⟨rfl,rfl,rfl,rfl,trivial⟩ fun b7 w4 hs4 hb7 hB7 =>
  x (QM ⟨rfl,rfl,rfl,rfl,trivial⟩)<|xl rfl<|Qu (us:=[nS,.int .i64 0,nS,nS]) rfl fun b2 w5 hs5 hb2 hB2=>xl rfl<|Qq (us:=[.slice (some ⟨b3,0,none⟩) 2 2,.int .i64 2,.slice (some ⟨b4,0,none⟩) 1 1,.slice (some ⟨b7,0,none⟩) 2 2]) hB2 rfl rfl rfl rfl ⟨rfl,rfl,rfl,rfl,trivial⟩ fun w6 hs6 hB26 =>
  xe ?_
 have hz1:=hs1.size
 have hz2:=hs2.size
 have hz3:=hs3.size
 have hz4:=hs4.size
 have hl0:=hB0.lt
 have hl3:=hB3.lt
 have hl4:=hB4.lt
 have hs46:Step [] w4 w6:=hs5.then1 hs6 hb2
 have hs16:=((hs2.trans hs3).trans hs4).trans hs46
 have hs06:=hs1.trans hs16
 have hz06:=hs06.size
 have hz16:=hs16.size
 have hB06:=hB0.ext hs16
 have k3:=((hB3.ext hs3).ext hs4).ext hs46
 have k4:=(hB4.ext hs4).ext hs46
 have k7:=hB7.ext hs46
 have hA6:∀{L:LN},(∀b∈L,b<w1.heap.size)→Zq L w6.heap (.slice (some ⟨b3,0,none⟩) 2 2) (.slice (some ⟨b4,0,none⟩) 1 1) (.slice (some ⟨b7,0,none⟩) 2 2) (yp 1):=fun {L} hL=>by
  have nL:∀{b:Nat},w1.heap.size≤b→b∉L:=fun hb hm=>by have:=hL _ hm;omega
  exact ⟨k3.arr (nL (by omega)) (n:=2) (cap:=2) (sz:=1) rfl (by omega) (Nat.le_refl _),k4.arr (nL (by omega)) (n:=1) (cap:=1) (sz:=1) rfl (by omega) (Nat.le_refl _),k7.arr (nL (by omega)) (n:=2) (cap:=2) (sz:=3) rfl (by omega) (Nat.le_refl _)⟩
 refine QV (α:=CL) [(9,22)] (fun z=>[]) (fun z w'=>Step [] w w'∧QS w'.heap b0 38 z.cells∧z.cel=X0∧(∀L:LN,(∀b∈L,b<w.heap.size)→ZL L w'.heap z)) (by rfl) ?_ ?_
 ·refine QfU (α:=Value×Value×Value) (Step [] w6) [(0,true),(1,true),(2,true),(3,true),(5,true),(7,true),(10,true),(11,true)] (fun i=>if i=9 then [6,8] else []) [4,6,8,9,12] [(13,true),(14,false)] [(13,13),(15,15),(17,18),(21,21)] (fcP w1.heap.size)
   (fun z=>[(13,z.1),(18,z.2.1),(21,z.2.2)])
   (fun z w'=>(∃b,z.1=.slice (some ⟨b,0,none⟩) 4 4∧w1.heap.size≤b∧QS w'.heap b 97 (fcE.flatMap Zo))∧Kg w1.heap.size w'.heap z.2.1 [⟨fs1,yp 0⟩,⟨fs2,yp 2⟩]∧Kg w1.heap.size w'.heap z.2.2 [⟨fs3,yp 1⟩])
   Tryz.mixed (by rfl) (by kernel_rfl) (Step.drew _ _) (fun _ _ h1 h2=>h1.trans h2) Qhu ?_ ?_
  ·rintro g w' ⟨h4,_,_,h9,h12,_⟩ hdj
   exact ⟨(g 13,g 18,g 21),⟨rfl,rfl,rfl,trivial⟩,h4,h9,h12⟩
  ·refine p (fun _=>QM ⟨rfl,rfl,trivial⟩)<|p (fun _=>QM ⟨rfl,trivial⟩)<|p (fun _=>QM ⟨rfl,rfl,trivial⟩)<|p (fun _=>QM ⟨rfl,trivial⟩) <|
    p (fun _=>Qm)<|p (fun _=>Qm)<|pq (fun _ hc=>Qp (hB26.ext hc) rfl rfl)<|p (fun _=>Zv [(0,[.string fs3]),(1,[.slice (some ⟨b3,0,none⟩) 2 2,.int .i64 2,.slice (some ⟨b4,0,none⟩) 1 1,.slice (some ⟨b7,0,none⟩) 2 2])] ⟨rfl,rfl,rfl,rfl,trivial⟩) <|
    pe ⟨⟨?_,?_,?_,?_,?_,trivial⟩,?_⟩
   ·intro g w' hc _
    have hz:=hc.size
    exact QG (us:=[Zo ⟨⟨#[97]⟩,true,false,false,0⟩,Zo ⟨⟨#[98]⟩,false,false,false,0⟩,Zo ⟨⟨#[99]⟩,true,false,false,0⟩,Zo ⟨⟨#[100]⟩,false,false,false,0⟩]) rfl rfl (by decide) (show 4*5≤1000000 by omega) ⟨rfl,rfl,rfl,rfl,rfl,rfl,rfl,rfl,trivial⟩ fun b w7 hs7 hb hB=>⟨hs7,⟨b,rfl,by omega,hB⟩,fun c hc'=>by rw[List.mem_singleton.1 (show c∈[b] from hc')];exact ⟨hb,hB.lt⟩⟩
   ·intro g w' hc _
    have hz:=hc.size
    refine xc (first:=[]) (capt:=[]) rfl<|(Qb3 (nm:=fs1) (s:=0) (by omega)).mono ?_
    rintro r w7 ⟨hs7,va,vm,ve,rfl,ho,hA⟩
    exact ⟨hs7,⟨va,vm,ve,rfl,ho,fun L hL=>hA L (fun b hb=>by have:=hL b hb;omega)⟩,fun c hc'=>by cases hc'⟩
   ·intro g w' hc _
    have hz:=hc.size
    refine xc (first:=[]) (capt:=[]) rfl<|(Qb3 (nm:=fs2) (s:=2) (by omega)).mono ?_
    rintro r w7 ⟨hs7,va,vm,ve,rfl,ho,hA⟩
    exact ⟨hs7,⟨va,vm,ve,rfl,ho,fun L hL=>hA L (fun b hb=>by have:=hL b hb;omega)⟩,fun c hc'=>by cases hc'⟩
   ·rintro g w' hc ⟨⟨va,vm,ve,e6,o6,hA6'⟩,⟨va',vm',ve',e8,o8,hA8'⟩,_⟩
    have hz:=hc.size
    refine QG (us:=[Zh ⟨fs1,⟨va,vm,ve,yp 0⟩⟩,Zh ⟨fs2,⟨va',vm',ve',yp 2⟩⟩]) rfl rfl (by decide) (show 2*5≤1000000 by omega) ⟨congrArg Value.cells e6,rfl,congrArg Value.cells e8,rfl,trivial⟩ fun b w7 hs7 hb hB=>⟨hs7,?_,fun c hc'=>by rw[List.mem_singleton.1 (show c∈[b] from hc')];exact ⟨hb,hB.lt⟩⟩
    refine ⟨[⟨fs1,⟨va,vm,ve,yp 0⟩⟩,⟨fs2,⟨va',vm',ve',yp 2⟩⟩],rfl,fun L hL=>⟨hB.arr (fun hm=>by have:=hL _ hm;omega) (n:=2) (cap:=2) (sz:=5) rfl (by omega) (Nat.le_refl _),fun q hq=>?_,fun q hq=>?_⟩⟩
    ·simp only[List.mem_cons,List.not_mem_nil,or_false] at hq
     rcases hq with rfl | rfl
     ·exact (hA6' L hL).ext hs7
     ·exact (hA8' L hL).ext hs7
    ·simp only[List.mem_cons,List.not_mem_nil,or_false] at hq
     rcases hq with rfl | rfl
     ·exact Xg (by decide)
     ·exact Xg (by decide)
   ·intro g w' hc _
    have hz:=hc.size
    refine QG (us:=[Zh ⟨fs3,⟨.slice (some ⟨b3,0,none⟩) 2 2,.slice (some ⟨b4,0,none⟩) 1 1,.slice (some ⟨b7,0,none⟩) 2 2,yp 1⟩⟩]) rfl rfl (by decide) (show 1*5≤1000000 by omega) ⟨rfl,rfl,trivial⟩ fun b w7 hs7 hb hB=>⟨hs7,?_,fun c hc'=>by rw[List.mem_singleton.1 (show c∈[b] from hc')];exact ⟨hb,hB.lt⟩⟩
    refine ⟨[⟨fs3,⟨.slice (some ⟨b3,0,none⟩) 2 2,.slice (some ⟨b4,0,none⟩) 1 1,.slice (some ⟨b7,0,none⟩) 2 2,yp 1⟩⟩],rfl,fun L hL=>⟨hB.arr (fun hm=>by have:=hL _ hm;omega) (n:=1) (cap:=1) (sz:=5) rfl (by omega) (Nat.le_refl _),fun q hq=>?_,fun q hq=>?_⟩⟩
    ·simp only[List.mem_singleton] at hq
     subst hq
     exact ((hA6 hL).ext hc).ext hs7
    ·simp only[List.mem_singleton] at hq
     subst hq
     exact Xg (by decide)
   rintro ⟨v1,v2,v3⟩ g w9 hc9 ⟨⟨b,e,n,hB⟩,h9,h12⟩
   simp only[] at e h9 h12
   subst e
   have hB09:=hB06.ext hc9
   refine p (fun _=>Zv [(0,[.slice (some ⟨b,0,none⟩) 4 4]),(1,[v2]),(2,[v3])] ⟨rfl,rfl,Xf (Kg.one h9),rfl,Xf (Kg.one h12),rfl,trivial⟩)<|pkl (hl:=by kernel_rfl)<|Qq (us:=[.slice (some ⟨b,0,none⟩) 4 4,v2,v3,nS,nS]) hB09 rfl rfl rfl rfl ⟨rfl,Kg.one h9,Kg.one h12,rfl,rfl,trivial⟩ fun w10 hs10 hB10=>pe ?_
   obtain ⟨q9,e9,hI9⟩:=h9
   obtain ⟨q12,e12,hI12⟩:=h12
   refine ⟨⟨.slice (some ⟨b,0,none⟩) 4 4,v2,v3,nS,nS,fcE,q9,q12,[],[]⟩,trivial,(hs06.trans hc9).then1 hs10 hb0,hB10,?_,fun L hL=>?_⟩
   ·show Zx.mk fcE (q9.map IV.it) (q12.map IV.it) [] []=_
    rw[e9,e12];rfl
   ·have hL1:∀b'∈b0::L,b'<w1.heap.size:=fun b' hb'=>by
     rcases List.mem_cons.1 hb' with rfl | hb'
     ·exact hl0
     ·have:=hL b' hb';omega
    have m1:∀b'∈[b0],b'∈b0::L:=fun b' hb'=>by simp only[List.mem_singleton] at hb';simp[hb']
    have up1:∀b'∈L,b'∈b0::L∨w10.heap.size≤b':=fun b' hb'=>.inl (List.mem_cons_of_mem _ hb')
    have hB':QS w10.heap b 97 (fcE.flatMap Zo):=hB.step hs10 (by simp only[List.mem_singleton];omega)
    refine ⟨⟨hB'.arr (fun hm=>by have:=hL _ hm;omega) (n:=4) (cap:=4) (sz:=5) rfl (by omega) (Nat.le_refl _),fun e he=>?_⟩,((hI9 _ hL1).st (hs10.mono m1)).up up1,((hI12 _ hL1).st (hs10.mono m1)).up up1,⟨Zs.nil _ _ 2,fun q hq=>(by cases hq),fun q hq=>(by cases hq)⟩,⟨Zs.nil _ _ 3,fun q hq=>(by cases hq),fun q hq=>(by cases hq)⟩⟩
    simp only[List.mem_cons,List.not_mem_nil,or_false] at he
    rcases he with rfl | rfl | rfl | rfl <;> exact Xg (by decide)
 rintro c g w9 ⟨hs9,hB9,hcel,hC⟩
 refine Ql ⟨[_],⟨⟨_,rfl,Qz rfl (hB9.at (L:=[]) (by simp)).cells⟩,trivial⟩,hs9,c,rfl,hcel,hC⟩
theorem Qjd:Jy X0=0:=by kernel_rfl
theorem Qje:(qa X0).ps=true:=by kernel_rfl
theorem Qjf:(qa X0).nc=true:=by kernel_rfl
theorem Qhw:(qa X0).sts.length=1:=by kernel_rfl
theorem Qhv:decide (1<(qa X0).tg)=true:=by kernel_rfl
theorem Qhy:pmE X0 [0,1]=0:=by kernel_rfl
theorem Qhx:pmL X0 [0,1]=[2]:=by kernel_rfl
theorem QhA:mrE X0 [0,1] 0=0:=by kernel_rfl
theorem Qhz:mrL X0 [0,1] 0=[0]:=by kernel_rfl
theorem QhC:cmE X0 false=0:=by kernel_rfl
theorem QhB:(cmW (YV X0) (VZ X0)).isNone=true:=by kernel_rfl
theorem Qfi {w:World}{c:CL}(hC:ZL [] w.heap c) (hcel:c.cel=X0) (hkb:Kb w 4096) :
  QI Tryz.prog 20 [c.val] w fun r w'=>Step [] w w'∧∃ev f1 f2 vw vs tg,r=.tuple #[.agg #[.bool true,.int .i64 ev,.int .i64 f1,.int .i64 f2,.bool true,vw,vs,.int .i64 tg],.int .i64 0]∧ZE [vw,vs]∧(∃s,QL [] w'.heap vs [s])∧1<tg:=by
 refine (Qbo hC hkb).mono ?_
 rintro r w' ⟨hs,us,rfl,_,ho,hg⟩
 rw[hcel,Qjd] at *
 obtain ⟨vw,vs,rfl,hw,hv⟩:=hg rfl
 rw[Qje,Qjf] at *
 have hl:=Qhw
 obtain ⟨s,hs1⟩:∃s,(qa X0).sts=[s]:=by
  match (qa X0).sts,hl with
  | [s],_=>exact ⟨s,rfl⟩
 rw[hs1] at hv
 exact ⟨hs,_,_,_,vw,vs,_,rfl,⟨QP hw,QP hv,trivial⟩,⟨s,Qs.ints hv (by simp) (by simp)⟩,of_decide_eq_true Qhv⟩
theorem Qfg {w:World}{c:CL}{v:Value}(hC:ZL [] w.heap c) (hcel:c.cel=X0) (hv:QL [] w.heap v [0,1]) (hkb:Kb w 4096) :
  QI Tryz.prog 11 [c.val,v] w fun r w'=>Step [] w w'∧∃v',r=.tuple #[v',.int .i64 0]∧QL [] w'.heap v' [2]:=by
 refine (Vi hC hv hkb).mono ?_
 rintro r w' ⟨hs,v',rfl,_,hg⟩
 rw[hcel,Qhy] at *
 have h1:=hg rfl
 rw[Qhx] at h1
 exact ⟨hs,v',rfl,Qs.ints h1 (by simp) (by simp)⟩
theorem Qff {w:World}{c:CL}{v:Value}(hC:ZL [] w.heap c) (hcel:c.cel=X0) (hv:QL [] w.heap v [0,1]) (hkb:Kb w 4096) :
  QI Tryz.prog 12 [c.val,v,.int .i64 0] w fun r w'=>Step [] w w'∧∃v',r=.tuple #[v',.int .i64 0]∧QL [] w'.heap v' [0]:=by
 refine (KU hC hv 0 hkb).mono ?_
 rintro r w' ⟨hs,v',rfl,_,hg⟩
 rw[hcel,QhA] at *
 have h1:=hg rfl
 rw[Qhz] at h1
 exact ⟨hs,v',rfl,Qs.ints h1 (by simp) (by simp)⟩
theorem Qfh {w:World}{c:CL}(hC:ZL [] w.heap c) (hcel:c.cel=X0) (hkb:Kb w 4096) :
  QI Tryz.prog 32 [c.val,.bool false] w fun r w'=>Step [] w w'∧∃v,r=.tuple #[v,.bool true,.int .i64 0]:=by
 refine (Qbm hC hkb).mono ?_
 rintro r w' ⟨hs,v,e,rfl,hg⟩
 rw[hcel,QhC] at *
 have h1:=hg rfl
 rw[QhB] at h1
 subst h1
 exact ⟨hs,v,rfl⟩
abbrev rpF (ev f1 f2:Int) (vw vs:Value) (tg:Int):LV:=[.bool true,.int .i64 ev,.int .i64 f1,.int .i64 f2,.bool true,vw,vs,.int .i64 tg]
set_option maxHeartbeats 4000000 in
theorem UD {w:World}(hkb:Kb w 4096):QI Tryz.prog 9 [] w fun r w'=>r=.bool true∧Step [] w w':=by
 refine QI.of_W Tryz.func9 rfl Tryz.ntmps9 Tryz.results9 (by simp) ?_
 refine Qc<|Qf ?_
 refine Qc<|xl rfl<|xf<|(Jd w).mono ?_
 rintro r1 w1 ⟨hs1,⟨c1,rfl,hc1,hC1⟩⟩
 refine xl rfl<|xf<|(Qfi (hC1 [] (by simp)) hc1 (hkb.ext hs1)).mono ?_
 rintro r2 w2 ⟨hs2,ev,f1,f2,vw,vs,tg,rfl,ho,⟨s,hvs⟩,htg⟩
 refine Qb<|x (Qj rfl rfl)<|x (Qj rfl rfl)<|xl rfl<|Qu (us:=rp0) rfl fun b1 w3 hs3 hb1 hB1=>xl rfl<|Qq (us:=rpF ev f1 f2 vw vs tg) hB1 rfl rfl rfl rfl ⟨rfl,rfl,rfl,rfl,rfl,ho.1,ho.2.1,rfl,trivial⟩ fun w4 hs4 hB14 =>
  Qf ?_
 have hs24:Step [] w2 w4:=hs3.then1 hs4 hb1
 have hs04:=(hs1.trans hs2).trans hs24
 refine Qc<|xl rfl<|xf<|(Jd w4).mono ?_
 rintro r5 w5 ⟨hs5,⟨c5,rfl,hc5,hC5⟩⟩
 refine xl rfl<|QG (us:=[[.int .i64 0],[.int .i64 1]]) rfl rfl (by decide) (by simp) ⟨rfl,rfl,rfl,rfl,trivial⟩ fun b17 w6 hs6 hb17 hB17=>xl rfl<|xf<|(Qfg ((hC5 [] (by simp)).ext hs6) hc5 (hB17.arr (by simp) (n:=2) (cap:=2) (sz:=1) rfl (by omega) (Nat.le_refl _)) (((hkb.ext hs04).ext hs5).ext hs6)).mono ?_
 rintro r7 w7 ⟨hs7,v3,rfl,hv3⟩
 refine Qb<|x (Qj rfl rfl)<|x (Qj rfl rfl)<|x Qe<|Qf ?_
 have hs47:=(hs5.trans hs6).trans hs7
 have hs07:=hs04.trans hs47
 refine Qc<|xl rfl<|xf<|(Jd w7).mono ?_
 rintro r8 w8 ⟨hs8,⟨c8,rfl,hc8,hC8⟩⟩
 refine xl rfl<|QG (us:=[[.int .i64 0],[.int .i64 1]]) rfl rfl (by decide) (by simp) ⟨rfl,rfl,rfl,rfl,trivial⟩ fun b23 w9 hs9 hb23 hB23=>xl rfl<|xf<|(Qff ((hC8 [] (by simp)).ext hs9) hc8 (hB23.arr (by simp) (n:=2) (cap:=2) (sz:=1) rfl (by omega) (Nat.le_refl _)) (((hkb.ext hs07).ext hs8).ext hs9)).mono ?_
 rintro r10 w10 ⟨hs10,v5,rfl,hv5⟩
 refine Qb<|x (Qj rfl rfl)<|x (Qj rfl rfl)<|x Qe<|Qf ?_
 have hs710:=(hs8.trans hs9).trans hs10
 have hs010:=hs07.trans hs710
 refine Qc<|xl rfl<|xf<|(Jd w10).mono ?_
 rintro r11 w11 ⟨hs11,⟨c11,rfl,hc11,hC11⟩⟩
 refine xl rfl<|xf<|(Qfh (hC11 [] (by simp)) hc11 ((hkb.ext hs010).ext hs11)).mono ?_
 rintro r12 w12 ⟨hs12,v7,rfl⟩
 refine Qb<|x (Qj rfl rfl)<|x (Qj rfl rfl)<|x (Qj rfl rfl)<|x Qe<|x Qe<|Qf ?_
 have hs1012:=hs11.trans hs12
 have hs012:=hs010.trans hs1012
 have hs412:=(hs47.trans hs710).trans hs1012
 have hB112:=hB14.ext hs412
 have hvs12:QL [] w12.heap vs [s]:=(hvs.ext hs24).ext hs412
 have hv312:=(hv3.ext hs710).ext hs1012
 have hv512:=hv5.ext hs1012
 refine QV (α:=Unit) [(0,0),(33,88)] (fun z=>[(0,.bool true)]) (fun z w'=>Step [] w12 w') (by rfl) ?_ ?_
 ·refine Qw<|Qb<|xb (Zn rfl rfl) (fun h34=>?_) (fun h34=>absurd rfl h34)
  refine Qb<|x (Qa rfl)<|x (Qd (u:=.bool true) hB112 rfl rfl)<|x (Qn rfl)<|Qb<|x (Qa rfl)<|x (Qd (u:=.bool true) hB112 rfl rfl)<|x (Qn rfl)<|Qb<|x (Qa rfl)<|x (Qd hB112 rfl rfl)<|x (Qr hvs12 rfl)<|xb (Zn rfl rfl) (fun h47=>?_) (fun h47=>absurd rfl h47)
  refine x (Qn rfl)<|Qb<|x (Qa rfl)<|x (Qd hB112 rfl rfl)<|xb (ZI rfl rfl) (fun h52=>?_) (fun h52=>absurd htg h52)
  refine x (Qn rfl)<|Qb<|Qb<|xb (Zn rfl rfl) (fun h56=>?_) (fun h56=>absurd rfl h56)
  refine x (Qn rfl)<|Qb<|Qb<|xl rfl<|QG (us:=[[.int .i64 2]]) rfl rfl (by decide) (by simp) ⟨rfl,rfl,trivial⟩ fun b60 w13 hs13 hb60 hB60=>xl rfl<|xf<|(JW (hv312.ext hs13) (yc (L:=[]) hB60 (by simp))).mono ?_
  rintro r14 w14 ⟨rfl,hs14⟩
  have hs1214:=hs13.trans hs14
  refine x (Qn rfl)<|Qb<|Qb<|x (Qr (hv312.ext hs1214) rfl)<|xb (Zn rfl rfl) (fun h66=>?_) (fun h66=>absurd rfl h66)
  refine x (Qn rfl)<|Qb<|Qb<|xb (Zn rfl rfl) (fun h70=>?_) (fun h70=>absurd rfl h70)
  refine x (Qn rfl)<|Qb<|Qb<|xl rfl<|QG (us:=[[.int .i64 0]]) rfl rfl (by decide) (by simp) ⟨rfl,rfl,trivial⟩ fun b74 w15 hs15 hb74 hB74=>xl rfl<|xf<|(JW ((hv512.ext hs1214).ext hs15) (yc (L:=[]) hB74 (by simp))).mono ?_
  rintro r16 w16 ⟨rfl,hs16⟩
  have hs1216:=(hs1214.trans hs15).trans hs16
  refine x (Qn rfl)<|Qb<|Qb<|x (Qr (hv512.ext hs1216) rfl)<|xb (Zn rfl rfl) (fun h80=>?_) (fun h80=>absurd rfl h80)
  refine x (Qn rfl)<|Qb<|Qb<|xb (Zn rfl rfl) (fun h84=>?_) (fun h84=>absurd rfl h84)
  refine x (Qn rfl)<|Qb<|Qb<|x (Qn rfl)<|Qf ?_
  exact ⟨(),⟨rfl,trivial⟩,hs1216⟩
 rintro z g w17 hs17
 exact Ql ⟨[.bool true],⟨rfl,trivial⟩,rfl,hs012.trans hs17⟩
end Go.Proofs.YtgmifemhkjdblaaGreatDoor
namespace Go.Lg
section
variable {P:Program} {f:Fr} {w:World} {d:Option Nat} {ty:Nat} {ps:String} {af:Array Edge} {gd:Option (Nat×Bool)}
theorem QaB {t t' e bys:Nat}{z:Value}[h:Sl P t e 1 bys z] [he:Ik P e .u8] [hd:St P t'] {x:Operand}{b T n cap:Nat}(hB:QS w.heap b T [.int .u8 (n:Int)]) (hn:n<256) (hx:ev f x=.slice (some ⟨b,0,none⟩) 1 cap) :
  (execOp (ev f) ⟨d,.convert t t' x,ty,ps,af,gd⟩).run P w=.ok (.value (.string ⟨#[UInt8.ofNat n]⟩)) w:=by
 refine zY hx ?_
 refine run_convert_bytes_back (P:=P) w t t' e ⟨b,0,none⟩ cap [UInt8.ofNat n] h.u he.u hd.u (fun j hj=>?_)
 have hj0:j=0:=by simp at hj;omega
 subst hj0
 rw[YS]
 have h1:(⟨b,0,none⟩:Addr).add 0=⟨b,0,none⟩:=rfl
 rw[h1,hB.cell]
 have h2:(UInt8.ofNat n).toNat=n:=by simp[UInt8.toNat_ofNat'];omega
 simp[h2]
end
end Go.Lg
namespace Go.Proofs.YtgmifemhkjdblaaGreatDoor
open Go.Lg
theorem JH {N b:Nat}{w w':World}{v:Value}{l:List IV}(h:∀L:LN,(∀c∈L,c<N)→YP L w.heap v l) (hb:b<N) (hs:Step [b] w w'):∀L:LN,(∀c∈L,c<N)→YP L w'.heap v l:=fun L hL =>
 ((h (b::L) (fun c hc=>(List.mem_cons.1 hc).elim (fun e=>by omega) (hL c))).st (hs.mono (by simp))).up (fun c hc=>.inl (List.mem_cons_of_mem _ hc))
theorem K7 {N b:Nat}{w w':World}{v:Value}{l:List KE}(h:∀L:LN,(∀c∈L,c<N)→Jt L w.heap v l) (hb:b<N) (hs:Step [b] w w'):∀L:LN,(∀c∈L,c<N)→Jt L w'.heap v l:=fun L hL =>
 ((h (b::L) (fun c hc=>(List.mem_cons.1 hc).elim (fun e=>by omega) (hL c))).st (hs.mono (by simp))).up (fun c hc=>.inl (List.mem_cons_of_mem _ hc))
theorem Qgr {N b:Nat}{w w':World}{v:Value}{l:List XV}(h:∀L:LN,(∀c∈L,c<N)→V9 L w.heap v l) (hb:b<N) (hs:Step [b] w w'):∀L:LN,(∀c∈L,c<N)→V9 L w'.heap v l:=fun L hL =>
 ((h (b::L) (fun c hc=>(List.mem_cons.1 hc).elim (fun e=>by omega) (hL c))).st (hs.mono (by simp))).up (fun c hc=>.inl (List.mem_cons_of_mem _ hc))
theorem Qfm (e:KE):∀u∈Zo e,u.oneCell'=true:=by
 intro y hy
 simp only[Zo,List.mem_cons,List.not_mem_nil,or_false] at hy
 rcases hy with rfl | rfl | rfl | rfl | rfl <;> rfl
theorem QbX {q:IV}(h1:q.p.va.oneCell'=true) (h2:q.p.vm.oneCell'=true) (h3:q.p.ve.oneCell'=true):∀u∈Zh q,u.oneCell'=true:=by
 intro y hy
 simp only[Zh,List.mem_cons,List.not_mem_nil,or_false] at hy
 rcases hy with rfl | rfl | rfl | rfl | rfl
 ·rfl
 ·exact h1
 ·rfl
 ·exact h2
 ·exact h3
theorem js {base N:Nat}{av:LN}{H:Array Obj}{q:IV}(h:∀L:LN,(∀b∈L,b<N)→Zq L H q.p.va q.p.vm q.p.ve q.p.a) (hb:base≤N) (hav:∀b∈av,b<N):∀t∈Qhk q,ZO base av H t.1 t.2.1 t.2.2.1 t.2.2.2:=by
 intro t ht
 simp only[List.mem_cons,List.not_mem_nil,or_false] at ht
 rcases ht with rfl | rfl | rfl
 ·exact ZO.of_lt (fun L hL=>(h L hL).al) hb hav
 ·exact ZO.of_lt (fun L hL=>(h L hL).mr) hb hav
 ·exact ZO.of_lt (fun L hL=>(h L hL).ed) hb hav
theorem Zs.full {L:LN}{H:Array Obj}{v:Value}{n sz:Nat}{cs:LV}(h:Zs L H v n sz cs) (hn:0<n):∃a cap,v=.slice (some a) n cap∧At L H a cs:=by
 rcases h.2.2 with ⟨_,h2⟩ | ⟨a,cap,h1,_,h3⟩
 ·omega
 ·exact ⟨a,cap,h1,h3⟩
structure qq (base:Nat) (w:World) (vc va:Value) (co:List IV) (al:LI):Prop where
 c:w.ownsRow base 100 5 vc co.length (co.flatMap Zh)
 a:Qs 3 base w va al
 dj:Dj vc va
 each:∀q∈co,∀t∈Qhk q,ZO base (ob vc++ob va) w.heap t.1 t.2.1 t.2.2.1 t.2.2.2
section
variable {base:Nat} {w w':World} {vc va vc' va':Value} {co:List IV} {al:LI}
theorem qq.nil:qq base w (nS) (nS) [] []:=⟨QO _ _ _ _,QO _ _ _ _,Dj.nil _,fun q hq=>by cases hq⟩
theorem qq.ext (h:qq base w vc va co al) (hs:Step [] w w'):qq base w' vc va co al:=⟨Qt h.c hs,Qt h.a hs,h.dj,fun q hq t ht=>(h.each q hq t ht).ext hs⟩
theorem qq.low {X:LN}(h:qq base w vc va co al) (hs:Step X w w') (hX:∀b∈X,b<base):qq base w' vc va co al :=
 ⟨Qk h.c hs (fun b hb hm=>by have:=(Qo h.c b hb).1;have:=hX b hm;omega),Qk h.a hs (fun b hb hm=>by have:=(Qo h.a b hb).1;have:=hX b hm;omega),h.dj,fun q hq t ht=>(h.each q hq t ht).low hs hX⟩
theorem qq.avlt (h:qq base w vc va co al):∀b∈ob vc++ob va,b<w.heap.size:=fun b hb=>(List.mem_append.1 hb).elim (Q0 h.c b) (Q0 h.a b)
theorem qq.setC {q:IV}(h:qq base w vc va co al) (hq:∀t∈Qhk q,ZO base (ob vc++ob va) w.heap t.1 t.2.1 t.2.2.1 t.2.2.2) (ho:w'.ownsRow base 100 5 vc' (co.length+1) (co.flatMap Zh++Zh q))
  (hs:Step (ob vc) w w') (hn:∀b∈ob vc',b∈ob vc∨w.heap.size≤b):qq base w' vc' va (co++[q]) al:=by
 have hs2:Step (ob vc++ob va) w w':=hs.mono (fun b hb=>List.mem_append.2 (.inl hb))
 have hn2:∀b∈ob vc'++ob va,b∈ob vc++ob va∨w.heap.size≤b:=fun b hb=>by
  rcases List.mem_append.1 hb with hb | hb
  ·exact (hn b hb).imp (fun h=>List.mem_append.2 (.inl h)) id
  ·exact .inl (List.mem_append.2 (.inr hb))
 refine ⟨?_,Qk h.a hs (fun b hb hbc=>h.dj b hbc hb),fun b hb hba=>?_,fun d hd t ht=>?_⟩
 ·rw[List.length_append,List.flatMap_append];simpa using ho
 ·rcases hn b hb with h1 | h1
  ·exact h.dj b h1 hba
  ·have:=Q0 h.a b hba;omega
 ·rcases List.mem_append.1 hd with hd | hd
  ·exact (h.each d hd t ht).app hs2 hn2
  ·simp only[List.mem_singleton] at hd;subst hd
   exact (hq t ht).app hs2 hn2
theorem qq.setA {al':LI}(h:qq base w vc va co al) (ho:Qs 3 base w' va' al') (hs:Step (ob va) w w') (hn:∀b∈ob va',b∈ob va∨w.heap.size≤b):qq base w' vc va' co al':=by
 have hs2:Step (ob vc++ob va) w w':=hs.mono (fun b hb=>List.mem_append.2 (.inr hb))
 have hn2:∀b∈ob vc++ob va',b∈ob vc++ob va∨w.heap.size≤b:=fun b hb=>by
  rcases List.mem_append.1 hb with hb | hb
  ·exact .inl (List.mem_append.2 (.inl hb))
  ·exact (hn b hb).imp (fun h=>List.mem_append.2 (.inr h)) id
 refine ⟨Qk h.c hs (fun b hb hba=>h.dj b hb hba),ho,fun b hb hba=>?_,fun d hd t ht=>(h.each d hd t ht).app hs2 hn2⟩
 rcases hn b hba with h1 | h1
 ·exact h.dj b hb h1
 ·have:=Q0 h.c b hb;omega
theorem qq.itms {L:LN}(h:qq base w vc va co al) (hn:co.length≤1099511627776) (hm:∀q∈co,VV q.nm) (hL:∀b∈L,b<base):YP L w.heap vc co :=
 ⟨QX h.c hn (fun b hb hbL=>by have:=(Qo h.c b hb).1;have:=hL b hbL;omega),fun q hq=>⟨h.each q hq (q.p.va,q.p.a.al.length,1,q.p.a.al.map (.int .i64)) (by simp) L (fun b hb=>.inl (hL b hb)),h.each q hq (q.p.vm,q.p.a.mr.length,1,q.p.a.mr.map (.int .i64)) (by simp) L (fun b hb=>.inl (hL b hb)),h.each q hq (q.p.ve,q.p.a.ed.length,3,q.p.a.ed.flatMap QC) (by simp) L (fun b hb=>.inl (hL b hb))⟩,hm⟩
end
abbrev PtV:={r:LN // r.length=28∧∀n∈r,n<256}
abbrev Ye (r:PtV):LV:=bys r.1
theorem z1 (r:PtV):(Ye r).length=28:=by show (bys r.1).length=28;unfold bys;rw[List.length_map,r.2.1]
structure LnV where
 ns:LN
 ct:Nat
 vr:Value
 rs:List PtV
 x0:Nat
 x1:Nat
 cl:Nat
abbrev YM (l:LnV):LV:=bys l.ns++[.int .u8 (l.ct:Int),l.vr,.int .u8 (l.x0:Int),.int .u8 (l.x1:Int),.int .u8 (l.cl:Int)]
structure LnA (L:LN) (H:Array Obj) (l:LnV):Prop where
 n:l.ns.length=81
 b:∀n∈l.ns,n<256
 ct:l.ct<256
 x0:l.x0<256
 x1:l.x1<256
 cl:l.cl<256
 r:Zs L H l.vr l.rs.length 28 (l.rs.flatMap Ye)
theorem Yf (ns:LN):(bys ns).length=ns.length:=by rw[bys,List.length_map]
theorem QeH {l:LnV}(h:l.ns.length=81):(YM l).length=86:=by rw[YM,List.length_append,Yf,h];rfl
theorem jl {l:LnV}(h:l.ns.length=81) (j:Nat):(YM l)[81+j]?=([.int .u8 (l.ct:Int),l.vr,.int .u8 (l.x0:Int),.int .u8 (l.x1:Int),.int .u8 (l.cl:Int)]:LV)[j]?:=by
 rw[YM,List.getElem?_append_right (by rw[Yf];omega),Yf,h,Nat.add_sub_cancel_left]
def grN (ns:LN) (o:Nat):LN:=(ns.drop o).take 27
theorem Qi3 {ns:LN}{o:Nat}(h:o+27≤ns.length):(grN ns o).length=27:=by unfold grN;simp;omega
theorem Qkp {ns:LN}{o:Nat}(h:∀n∈ns,n<256):∀n∈grN ns o,n<256:=QhY h o 27
theorem Qkm {l:LnV}{o:Nat}(j:Nat) (u:Value) (h:(bys (grN l.ns o))[j]?=some u):(YM l)[o+j]?=some u:=by
 have h1:=QhX (ns:=l.ns) (o:=o) (n:=27) j u h
 have h2:=(List.getElem?_eq_some_iff.1 h1).1
 rw[YM,List.getElem?_append_left h2]
 exact h1
theorem jV (ns:LN) (n:Nat):(bys ns).set 0 (.int .u8 (n:Int))=bys (ns.set 0 n):=by
 unfold bys;rw[List.map_set]
theorem Qbw {ns:LN}{n:Nat}(h:∀m∈ns,m<256) (hn:n<256):∀m∈ns.set 0 n,m<256:=fun m hm=>by
 rcases List.mem_or_eq_of_mem_set hm with h1 | rfl
 ·exact h m h1
 ·exact hn
theorem yV {ns:LN}{n:Nat}(h:0<ns.length):(ns.set 0 n).getD 0 0=n:=by simp[List.getD,h]
structure GdA (a:QN):Prop where
 ok:Q5 a
 p:0<a.st
 s:a.st≤3
 c:∃a0:QN,Q5 a0∧0<a0.st∧a=X1 a0
theorem QfI {a:QN}(ho:Q5 a) (h:0<a.st):0<(X1 a).st:=by
 have hf:=(UK ho).1
 show 0<((found a).length:Int)
 have h0:(0:Int)∈found a:=by
  have key:∀(f i:Nat) (out:LI),(0:Int)∈out→(0:Int)∈fdL a f i out:=by
   intro f
   induction f with
   | zero=>intro i out h;exact h
   | succ f ih =>
    intro i out h
    rw[fdL]
    split
    ·exact ih _ _ (yo _ _ _ h)
    ·exact h
  refine key _ _ _ ?_
  unfold fd0;rw[if_pos h];simp
 have:=List.length_pos_of_mem h0
 omega
theorem GdA.of {a a0:QN}{n:Nat}(h0:Q5 a0) (h1:0<a0.st) (h2:a0.st≤((1+n % 5:Nat):Int)) (h3:a=X1 a0) (hn:n<3):GdA a:=by
 have h4:=Qcd h0
 subst h3
 exact ⟨h4.1,QfI h0 h1,by have:=h4.2.2;omega,a0,h0,h1,rfl⟩
def QjJ (N:Nat) (w:World) (p:AV):Prop:=(∀L:LN,(∀b∈L,b<N)→Zq L w.heap p.va p.vm p.ve p.a)∧GdA p.a
def QfO (p:AV):Value:=.agg #[p.va,.int .i64 p.a.st,p.vm,p.ve]
def mkP (N:Nat) (c:Nat) (nm:ByteArray) (i:Nat) (v:Value) (w:World):Prop :=
 if i=5 then ∃b,v=.slice (some ⟨b,0,none⟩) 1 1∧QS w.heap b 5 [.int .u8 (c:Int)]
 else if i=6 then v=.string ⟨#[UInt8.ofNat c]⟩
 else if i=7 then v=.string nm
 else ∃p:AV,v=QfO p∧QjJ N w p
theorem QbN {N c:Nat}{nm:ByteArray}:∀i v w w',mkP N c nm i v w→Step [] w w'→mkP N c nm i v w':=by
 intro i v w w' h hs
 unfold mkP at h ⊢
 by_cases h5:i=5
 ·rw[if_pos h5] at h ⊢
  obtain ⟨b,e,hB⟩:=h
  exact ⟨b,e,hB.ext hs⟩
 rw[if_neg h5] at h ⊢
 by_cases h6:i=6
 ·rw[if_pos h6] at h ⊢;exact h
 rw[if_neg h6] at h ⊢
 by_cases h7:i=7
 ·rw[if_pos h7] at h ⊢;exact h
 rw[if_neg h7] at h ⊢
 obtain ⟨p,e,hA,hG⟩:=h
 exact ⟨p,e,fun L hL=>(hA L hL).ext hs,hG⟩
def al5 (i:Nat):LI:=([0,1,2,3,4]:LI).take (2*i - 1)
def VS (i:Nat):LI:=match i with | 0=>[0] | 1=>[1,2] | _=>[3,4]
theorem QfQ:∀{i:Nat},i<3→al5 (i+1)=al5 i++VS i
 | 0,_=>rfl
 | 1,_=>rfl
 | 2,_=>rfl
 | i+3,h=>by omega
theorem Qcm (i:Nat):Yh (al5 i):=List.Pairwise.sublist (List.take_sublist _ _) (by decide)
theorem QjB (i:Nat):∀e∈al5 i,0≤e∧e<32:=fun e he=>by
 have h:=List.mem_of_mem_take he
 simp only[List.mem_cons,List.not_mem_nil,or_false] at h
 omega
theorem Qcl (i:Nat):(al5 i).length≤5:=by unfold al5;simp;omega
theorem QdZ:∀(i:Nat),Yh (VS i)
 | 0=>by decide
 | 1=>by decide
 | _+2=>show Yh [3,4] by decide
theorem QgD:∀(i:Nat),∀e∈VS i,0≤e∧e<32
 | 0=>by decide
 | 1=>by decide
 | _+2=>show ∀e∈([3,4]:LI),0≤e∧e<32 by decide
theorem QdY:∀(i:Nat),0<(VS i).length∧(VS i).length≤2
 | 0=>by decide
 | 1=>by decide
 | _+2=>show 0<([3,4]:LI).length∧([3,4]:LI).length≤2 by decide
structure Sml (k:Zx):Prop where
 c:k.co.length≤3
 r:k.rq.length≤2
 co:∀q∈k.co,GdA q.a
 rq:∀q∈k.rq,GdA q.a
end Go.Proofs.YtgmifemhkjdblaaGreatDoor
namespace Go.Lg
open Go.RowKit
section
variable {P:Program} {n:Nat} {f:Fr} {w:World} {all:List Oper} {C J:World→Prop} {K:Fr→World→Prop}
theorem j7 {α:Type}{D:List (Nat×Nat)}{dp:Nat→LN}{opn:LN}{rest:List (Nat×Bool)}{Φ:Nat→Value→World→Prop}{S:α→List (Nat×Value)}{I:α→World→Prop}{f1:Fr}(hs:Region.noSelect all.toArray=true) (hop:VK all D opn=true)
  (hJC:∀w,J w→C w) (hCs:∀w w',J w→Step [] w w'→J w') (stab:∀i v w w',Φ i v w→Step [] w w'→Φ i v w')
  (hconv:∀(g:Fr) w,Fa (fun i=>Φ i (sl (QK all i).dst g) w) opn→(∀i∈opn,∀j∈opn,i≠j→∀b∈ow (sl (QK all i).dst g),b∉ow (sl (QK all j).dst g))→∃z,Yw g (S z)∧I z w)
  (spec:Fa (fun i=>∀g w,J w→Fa (fun j=>Φ j (sl (QK all j).dst (mix D f1 g)) w) (dp i)→XO P (QK all i) (mix D f1 g) w (fun f' w'=>Step [] w w'∧Φ i (sl (QK all i).dst f') w'∧∀b∈ow (sl (QK all i).dst f'),w.heap.size≤b∧b<w'.heap.size)) opn)
  (fin:∀z g w,J w→I z w→XP P all C K rest (Ko (S z) (mix D f1 g)) w) :
  ∀(k:Nat) (ls:Array Bool) (f:Fr) (w:World),ls.size=all.length→J w→XB all.toArray dp opn rest k ls=true→(∀t,YO D t=false→f t=f1 t)→(∀i∈opn,ls.getD i false=true→Φ i (sl (QK all i).dst f) w) →
   (∀i∈opn,ls.getD i false=true→(∀b∈ow (sl (QK all i).dst f),b<w.heap.size)∧∀j∈opn,ls.getD j false=true→i≠j→∀b∈ow (sl (QK all i).dst f),b∉ow (sl (QK all j).dst f))→XA P all C K (k+rest.length) ls f w
 | 0,ls,f,w,hsz,hC,hp,hf,hphi,hdj=>by
  simp only[XB,Bool.and_eq_true,List.all_eq_true] at hp
  obtain ⟨z,h1,h2⟩:=hconv f w (Fa.of fun i hi=>hphi i hi (hp.2 i hi)) (fun i hi j hj hij=>(hdj i hi (hp.2 i hi)).2 j hj (hp.2 j hj) hij)
  have h3:=fin z f w hC h2
  rw[YL hf,Yc h1] at h3
  rw[Nat.zero_add]
  exact Zr hs rest ls f w hsz (.inl (hJC _ hC)) hp.1 h3
 | k+1,ls,f,w,hsz,hC,hp,hf,hphi,hdj=>by
  simp only[XB,Bool.and_eq_true,List.all_eq_true,List.contains_iff_mem] at hp
  obtain ⟨hne,hp⟩:=hp
  rw[Nat.add_right_comm]
  refine Yy (fun h0=>(by rw[h0] at hne;cases hne)) ?_
  intro i hi o ho
  obtain ⟨⟨hio,hdp⟩,hgo⟩:=hp i hi
  obtain ⟨hg,d,hd,hdD⟩:=(ZV hop).1 i hio
  have hdis:=(ZV hop).2
  have hsp:=Fa.all spec i hio f w hC
  rw[YL hf] at hsp
  have hsp:=hsp (Fa.of fun j hj=>hphi j (hdp j hj).1 (hdp j hj).2)
  have hoi:=Q9 ho
  rw[hoi] at hg hd hsp
  rw[Xo hg,cond_true]
  refine hsp.mono fun v w' hx=>?_
  have hC':=hCs w w' hC hx.1
  have hz:=hx.1.size
  have old:∀j∈opn,j≠i→sl (QK all j).dst (QU f o.dst v)=sl (QK all j).dst f:=fun j hj hij=>by
   obtain ⟨_,dj,hdj',_⟩:=(ZV hop).1 j hj
   have hne:o.dst≠some dj:=fun e=>hdis j hj i hio hij (by rw[hdj',hoi];exact e.symm)
   rw[hdj']
   exact ZK hne v
  have lsj:∀j,j≠i→(ls.setIfInBounds i true).getD j false=true→ls.getD j false=true:=fun j hij h=>by rw[getD_set_ne false (Ne.symm hij)] at h;exact h
  refine ⟨.inr (.inr (hJC _ hC')),j7 hs hop hJC hCs stab hconv spec fin k _ _ _ (by simpa using hsz) hC' hgo (fun t ht=>?_) (fun j hj hlj=>?_) (fun j hj hlj=>⟨fun b hb=>?_,fun k hk hlk hjk b hb hbk=>?_⟩)⟩
  ·rw[ZK (by rw[hd];intro e;cases e;rw[hdD] at ht;cases ht)];exact hf t ht
  ·by_cases hij:j=i
   ·subst hij
    have h2:=hx.2.1
    rw[hoi];exact h2
   ·rw[old j hj hij]
    exact stab _ _ _ _ (hphi j hj (lsj j hij hlj)) hx.1
  ·by_cases hij:j=i
   ·subst hij
    rw[hoi] at hb
    exact (hx.2.2 b hb).2
   ·rw[old j hj hij] at hb
    have:=(hdj j hj (lsj j hij hlj)).1 b hb
    omega
  ·by_cases hij:j=i
   ·subst hij
    have hki:k≠j:=Ne.symm hjk
    rw[old k hk hki] at hbk
    rw[hoi] at hb
    have h1:=(hdj k hk (lsj k hki hlk)).1 b hbk
    have h2:=(hx.2.2 b hb).1
    omega
   ·rw[old j hj hij] at hb
    have h1:=(hdj j hj (lsj j hij hlj)).1 b hb
    by_cases hki:k=i
    ·subst hki
     rw[hoi] at hbk
     have h2:=(hx.2.2 b hbk).1
     omega
    ·rw[old k hk hki] at hbk
     exact (hdj j hj (lsj j hij hlj)).2 k hk (lsj k hki hlk) hjk b hb hbk
theorem Qaa {α:Type}{Q:Exit→Fr→World→Prop}{id:Nat}(C J:World→Prop) (pre:List (Nat×Bool)) (dp:Nat→LN) (opn:LN) (rest:List (Nat×Bool)) (D:List (Nat×Nat)) (Φ:Nat→Value→World→Prop) (S:α→List (Nat×Value)) (I:α→World→Prop)
  (hm:P.follows .mixedOrders=true) (hn:YQ n all=true) (hp:Qb8 all dp pre opn rest D=true) (hC:J { w with drawn:=w.drawn+1 }) (hJC:∀w,J w→C w) (hCs:∀w w',J w→Step [] w w'→J w') (stab:∀i v w w',Φ i v w→Step [] w w'→Φ i v w')
  (hconv:∀(g:Fr) w,Fa (fun i=>Φ i (sl (QK all i).dst g) w) opn→(∀i∈opn,∀j∈opn,i≠j→∀b∈ow (sl (QK all i).dst g),b∉ow (sl (QK all j).dst g))→∃z,Yw g (S z)∧I z w)
  (h:XP P all C (fun f1 _=>Fa (fun i=>∀g w,J w→Fa (fun j=>Φ j (sl (QK all j).dst (mix D f1 g)) w) (dp i)→XO P (QK all i) (mix D f1 g) w (fun f' w'=>Step [] w w'∧Φ i (sl (QK all i).dst f') w'∧∀b∈ow (sl (QK all i).dst f'),w.heap.size≤b∧b<w'.heap.size)) opn ∧
   ∀z g w,J w→I z w→XP P all C (fun f w=>Q .normal f w) rest (Ko (S z) (mix D f1 g)) w) pre f { w with drawn:=w.drawn+1 }):W P n (.region id all.toArray true) Q f w:=by
 simp only[Qb8,Bool.and_eq_true,beq_iff_eq,List.all_eq_true,Bool.not_eq_true'] at hp
 obtain ⟨⟨⟨⟨⟨hs,hl⟩,hq⟩,hop⟩,hgo⟩,hun⟩:=hp
 refine YF C hm hn ?_
 rw[←hl]
 have hsz:(Array.replicate all.length false).size=all.length:=by simp
 have h1:=ZD (K:=fun f w=>Q .normal f w) (m:=opn.length+rest.length) hs pre (Array.replicate all.length false) f _ (hJC _ hC) hq (fun f1 hB=>j7 (P:=P) (C:=C) hs hop hJC hCs stab hconv hB.1 hB.2 opn.length (Zp pre (Array.replicate all.length false)) f1 _ (by rw[ZB];exact hsz) hC hgo (fun _ _=>rfl) (fun i hi ht=>by rw[hun i hi] at ht;cases ht) (fun i hi ht=>by rw[hun i hi] at ht;cases ht)) h
 rw[hl] at h1 ⊢
 exact h1
end
end Go.Lg
namespace Go.Proofs.YtgmifemhkjdblaaGreatDoor
open Go.Lg
instance:Ay Tryz.prog 26 3 25 27:=⟨by kernel_rfl,by kernel_rfl⟩
instance:Ay Tryz.prog 28 2 5 1:=⟨by kernel_rfl,by kernel_rfl⟩
abbrev z27:LV:=List.replicate 27 (.int .u8 0)
theorem QgQ (p:Int×Int):∀u∈Q8 p,u.oneCell'=true:=by
 intro y hy
 simp only[Q8,List.mem_cons,List.not_mem_nil,or_false] at hy
 rcases hy with rfl | rfl <;> rfl
set_option maxHeartbeats 16000000 in
theorem QcR {w:World}{l:LnV}(h:LnA [] w.heap l) :
  QI Tryz.prog 10 [.agg (YM l).toArray] w fun r w'=>Step [] w w'∧∃k,Qii w.heap.size w'.heap r k∧Sml k:=by
 have hln:=QeH h.n
 have g81:=jl h.n 0
 have g82:=jl h.n 1
 have g83:=jl h.n 2
 have g84:=jl h.n 3
 have g85:=jl h.n 4
 have hct:=h.ct
 have hcl:=h.cl
 have hx0:=h.x0
 have hx1:=h.x1
 have hrl:=h.r.le
 refine Zd (1+l.ct % 3) fun n hn=>?_
 have hn3:1≤n∧n≤3:=by omega
 refine QI.of_W Tryz.func10 rfl Tryz.ntmps10 Tryz.results10 (by simp) ?_
 refine Qc<|xl rfl<|QR (us:=YM l) rfl fun b1 w1 hs1 hb1 hB1=>xl rfl<|Qu (us:=YK) rfl fun b2 w2 hs2 hb2 hB2=>xe ?_
 refine Qc<|xl rfl<|Qu (us:=YK) rfl fun b3 w3 hs3 hb3 hB3=>xe ?_
 have hs03:=(hs1.trans hs2).trans hs3
 have hs13:=hs2.trans hs3
 have hz1:=hs1.size
 have hz2:=hs2.size
 have hz3:=hs3.size
 have hl1:=hB1.lt
 have hl2:=hB2.lt
 have hl3:=hB3.lt
 have hB13:=hB1.ext hs13
 have hB23:=hB2.ext hs3
 have n13:b1∉[b3]:=by simp only[List.mem_singleton];omega
 have n23:b2∉[b3]:=by simp only[List.mem_singleton];omega
 have hR3:Zs [b3] w3.heap l.vr l.rs.length 28 (l.rs.flatMap Ye):=(h.r.up (L':=[b3]) (fun b hb=>.inr (by simp only[List.mem_singleton] at hb;omega))).ext hs03
 refine QV (α:=Value×List KE) [(4,4),(15,35)] (fun _=>[]) (fun z w'=>Step [b3] w3 w'∧QS w'.heap b3 38 [z.1,Zc,Zc,Zc,Zc]∧w'.ownsRow w3.heap.size 97 5 z.1 z.2.length (z.2.flatMap Zo)∧z.2.length=5∧∀e∈z.2,VV e.nm) (by rfl) ?_ ?_
 ·refine Qc<|Qf ?_
  refine Qh<|QA (α:=Nat×Value×List KE) [(4,4),(15,35)] (fun z=>[(4,.int .i64 z.1)]) (fun z w'=>z.1≤5∧Step [b3] w3 w'∧QS w'.heap b3 38 [z.2.1,Zc,Zc,Zc,Zc]∧w'.ownsRow w3.heap.size 97 5 z.2.1 z.2.2.length (z.2.2.flatMap Zo)∧z.2.2.length=z.1∧∀e∈z.2.2,VV e.nm) (fun z=>5 - z.1) (by rfl) (0,Zc,[]) ⟨rfl,trivial⟩
   ⟨Nat.zero_le _,Step.refl _ _,hB3,QO _ _ _ _,rfl,fun e he=>by cases he⟩ ?_
  rintro ⟨k,v,ev⟩ g w4 ⟨hk,hs4,hB4,ho4,hevl,hnm⟩
  simp only[] at hk hB4 ho4 hevl hnm
  have hz4:=hs4.size
  refine Qg<|Qc<|Qb<|x (QB rfl rfl)<|xe ?_
  refine QD rfl (fun h16=>?_) (fun h16=>?_)
  ·refine Qy ?_
   have hke:k=5:=by have h17:¬(k:Int)<5:=h16;omega
   exact ⟨(v,ev),trivial,hs4,hB4,ho4,by simp only[];omega,hnm⟩
  have hlt:k<5:=by have h17:(k:Int)<5:=h16;omega
  refine Qi ?_
  have hn3v:b3∉ob v:=QY ho4 hl3
  have hn1v:b1∉ob v:=QY ho4 (by omega)
  have hB14:=hB13.step hs4 n13
  have hdv:l.cl / 2 ^ k<256:=Nat.lt_of_le_of_lt (Nat.div_le_self _ _) hcl
  have hd4:Step [] w4 { w4 with drawn:=w4.drawn+1 }:=Step.drew _ _
  refine Qg<|Qh<|QT (Step (ob v) w4) [(0,true),(1,true),(2,true),(3,true),(4,true),(7,true),(8,true),(9,true),(10,true),(11,true),(12,true),(5,false),(6,false),(13,true),(14,false),(15,false),(16,true),(17,false)] Tryz.mixed (by rfl) (by kernel_rfl) (Step.drew _ _) ?_
  refine p (fun _=>Qa rfl)<|pq (fun _ hc=>Qd (hB4.step hc hn3v) rfl rfl)<|p (fun _=>Qm)<|p (fun _=>YJ (k':=.u8) rfl ⟨by omega,by omega⟩)<|p (fun _=>Qx rfl rfl ⟨by omega,by omega⟩) <|
   p (fun _=>Qa rfl)<|pq (fun _ hc=>Qd (hB14.step hc hn1v) rfl g85)<|p (fun _=>Qm)<|p (fun _=>Uq (n:=k) rfl rfl (by show k≤8;omega))<|p (fun _=>QaG (a:=l.cl / 2 ^ k) (b:=1) (congrArg (Value.int .u8) (V0 l.cl k)) rfl hdv (by decide)) <|
   p (fun _=>Zn rfl rfl)<|pk<|QG (us:=[[.int .u8 ((97:Int)+(k:Int))]]) rfl rfl (by decide) (by simp) ⟨rfl,rfl,trivial⟩ fun b24 w5 hs5 hb24 hB24=>⟨(hd4.trans hs5).any,?_⟩
  have e97:((97:Int)+(k:Int))=((97+k:Nat):Int):=by omega
  have hB24':QS w5.heap b24 5 [.int .u8 ((97+k:Nat):Int)]:=by rw[←e97];exact hB24
  refine pk<|xv (QaB (n:=97+k) hB24' (by omega) rfl) ⟨(hd4.trans hs5).any,?_⟩
  refine Zd (KE.mk ⟨#[UInt8.ofNat (97+k)]⟩ (decide (((l.cl / 2 ^ k &&& 1:Nat):Int)=1)) false false 0) fun e he=>?_
  refine p (fun _=>QM ⟨rfl,rfl,trivial⟩)<|pk<|QG (us:=[Zo (KE.mk ⟨#[UInt8.ofNat (97+k)]⟩ (decide (((l.cl / 2 ^ k &&& 1:Nat):Int)=1)) false false 0)]) rfl rfl (by decide) (show 1*5≤1000000 by omega) ⟨rfl,rfl,trivial⟩ fun b33 w6 hs6 hb33 hB33=>?_
  rw[he] at hB33
  have hs46:=(hd4.trans hs5).trans hs6
  have hz46:=hs46.size
  refine ⟨hs46.any,?_⟩
  refine pk<|Q2 (news:=Zo e) (L:=[]) (Qt ho4 hs46) rfl rfl rfl (hB33.at (by simp)) (Qfm e) (by omega) (by omega) fun v7 w7 ho7 hs7 hn7=>⟨(hs46.any (L:=ob v)).trans' hs7,?_⟩
  have hone:=QP ho7
  refine p (fun _=>Qa rfl)<|pkl (hl:=by kernel_rfl)<|QF ((hB4.ext hs46).step hs7 hn3v) rfl rfl (by simp) hone fun w8 hs8 hB8=>pe ?_
  have hge:=Qo ho4
  have hge7:∀b∈ob v7,w3.heap.size≤b:=fun b hb=>(Qo ho7 b hb).1
  refine Qw<|Qb<|x (Qx rfl rfl ⟨by omega,by omega⟩)<|Qf ?_
  refine ⟨(k+1,v7,ev++[e]),by simp only[];omega,⟨rfl,trivial⟩,hlt,((hs4.trans hs46).then hs7 (fun b hb=>.inr (hge b hb).1)).trans' hs8,hB8,?_,by simp[hevl],fun d hd=>?_⟩
  ·have h9:=Qk ho7 hs8 (fun b hb=>by have:=hge7 b hb;simp only[List.mem_singleton];omega)
   simp only[List.length_append,List.flatMap_append]
   simpa using h9
  ·rcases List.mem_append.1 hd with hd | hd
   ·exact hnm d hd
   ·rw[List.mem_singleton.1 hd,←he];exact Xg (by simp)
 rintro ⟨ve,ev⟩ g4 w4 ⟨hs4,hB4,ho4,hevl,hnm⟩
 simp only[] at hB4 ho4 hevl hnm
 have hz4:=hs4.size
 have FE4:∀L:LN,(∀b∈L,b<w3.heap.size)→Jt L w4.heap ve ev:=fun L hL=>⟨QX ho4 (by omega) (fun b hb hbL=>by have:=(Qo ho4 b hb).1;have:=hL b hbL;omega),hnm⟩
 refine Qc<|xl rfl<|QG (us:=[[.int .i64 0]]) rfl rfl (by decide) (by simp) ⟨rfl,rfl,trivial⟩ fun b36 w5 hs5 hb36 hB36=>xl rfl<|QG (us:=[[.int .i64 1],[.int .i64 2]]) rfl rfl (by decide) (by simp) ⟨rfl,rfl,rfl,rfl,trivial⟩ fun b37 w6 hs6 hb37 hB37 =>
  xl rfl<|QG (us:=[[.int .i64 3],[.int .i64 4]]) rfl rfl (by decide) (by simp) ⟨rfl,rfl,rfl,rfl,trivial⟩ fun b38 w7 hs7 hb38 hB38=>xl rfl<|QG (us:=[[.slice (some ⟨b36,0,none⟩) 1 1],[.slice (some ⟨b37,0,none⟩) 2 2],[.slice (some ⟨b38,0,none⟩) 2 2]]) rfl rfl (by decide) (by simp) ⟨rfl,rfl,rfl,rfl,rfl,rfl,trivial⟩ fun b39 w8 hs8 hb39 hB39 =>
  Qf ?_
 refine Qc<|Qf ?_
 have hz5:=hs5.size
 have hz6:=hs6.size
 have hz7:=hs7.size
 have hz8:=hs8.size
 have hs48:=((hs5.trans hs6).trans hs7).trans hs8
 have hs38:=hs4.trans hs48
 have hT8:∃tl:List TV,tl.length=3∧(∀i (h:i<tl.length),∃tv,tl[i]'h=(tv,VS i))∧∀L:LN,(∀b∈L,b<w4.heap.size∨w8.heap.size≤b)→Xd L w8.heap (.slice (some ⟨b39,0,none⟩) 3 3) tl:=by
  have k36:=hB36.lt
  have k37:=hB37.lt
  have k38:=hB38.lt
  have k39:=hB39.lt
  refine ⟨[(.slice (some ⟨b36,0,none⟩) 1 1,VS 0),(.slice (some ⟨b37,0,none⟩) 2 2,VS 1),(.slice (some ⟨b38,0,none⟩) 2 2,VS 2)],rfl,fun i hi=>?_,fun L hL=>?_⟩
  ·have h3:i=0∨i=1∨i=2:=by have:i<3:=hi;omega
   rcases h3 with rfl | rfl | rfl
   ·exact ⟨_,rfl⟩
   ·exact ⟨_,rfl⟩
   ·exact ⟨_,rfl⟩
  have nL:∀{b:Nat},w4.heap.size≤b→b<w8.heap.size→b∉L:=fun h1 h2 hm=>by have:=hL _ hm;omega
  refine ⟨hB39.arr (nL (by omega) k39) (n:=3) (cap:=3) (sz:=1) rfl (by omega) (Nat.le_refl _),fun q hq=>?_⟩
  simp only[List.mem_cons,List.not_mem_nil,or_false] at hq
  rcases hq with rfl | rfl | rfl
  ·exact (((hB36.ext hs6).ext hs7).ext hs8).arr (nL (by omega) (by omega)) (n:=1) (cap:=1) (sz:=1) rfl (by omega) (Nat.le_refl _)
  ·exact ((hB37.ext hs7).ext hs8).arr (nL (by omega) (by omega)) (n:=2) (cap:=2) (sz:=1) rfl (by omega) (Nat.le_refl _)
  ·exact (hB38.ext hs8).arr (nL (by omega) (by omega)) (n:=2) (cap:=2) (sz:=1) rfl (by omega) (Nat.le_refl _)
 obtain ⟨tl,htl3,htlq,hT8⟩:=hT8
 refine QV (α:=Value×Value×List IV) [(6,8),(40,80)] (fun z=>[(6,z.2.1)]) (fun z w'=>Step [b3] w8 w'∧QS w'.heap b3 38 [ve,z.1,Zc,Zc,Zc]∧qq w8.heap.size w' z.1 z.2.1 z.2.2 (al5 n)∧z.2.2.length=n∧∀q∈z.2.2,VV q.nm∧GdA q.p.a) (by rfl) ?_ ?_
 ·refine Qc<|Qf ?_
  refine Qh<|QA (α:=Nat×Value×Value×List IV) [(6,8),(40,80)] (fun z=>[(6,z.2.2.1),(7,.int .i64 z.1)]) (fun z w'=>z.1≤n∧Step [b3] w8 w'∧QS w'.heap b3 38 [ve,z.2.1,Zc,Zc,Zc]∧qq w8.heap.size w' z.2.1 z.2.2.1 z.2.2.2 (al5 z.1)∧z.2.2.2.length=z.1∧∀q∈z.2.2.2,VV q.nm∧GdA q.p.a) (fun z=>n - z.1) (by rfl) (0,Zc,Zc,[]) ⟨rfl,rfl,trivial⟩
   ⟨Nat.zero_le _,Step.refl _ _,hB4.ext hs48,qq.nil,rfl,fun q hq=>by cases hq⟩ ?_
  rintro ⟨i,vc,va,co⟩ g w9 ⟨hi,hs9,hB9,hM9,hcol,hgd⟩
  simp only[] at hi hB9 hM9 hcol hgd
  have hz9:=hs9.size
  have hs39:Step [b3] w3 w9:=hs38.trans' hs9
  have hB19:=hB13.step hs39 n13
  have g81':(YM l)[81]?=some (.int .u8 (l.ct:Int)):=g81
  refine Qg<|Qc<|Qb<|x (Qa rfl)<|x (Qd hB19 rfl g81')<|x (VJ (a:=(l.ct:Int)) (b:=3) rfl rfl (by omega) (by omega))<|x (YJ (k':=.i64) rfl ⟨by omega,by omega⟩)<|x (Qx rfl rfl ⟨by omega,by omega⟩)<|x (QB rfl rfl) <|
   xe ?_
  refine QD rfl (fun h46=>?_) (fun h46=>?_)
  ·refine Qy ?_
   have h47:¬(i:Int)<1+(l.ct:Int) % 3:=h46
   have hie:i=n:=by omega
   rw[hie] at hM9 hcol
   exact ⟨(vc,va,co),⟨rfl,trivial⟩,hs9,hB9,hM9,hcol,hgd⟩
  have h47:(i:Int)<1+(l.ct:Int) % 3:=h46
  have hlt:i<n:=by omega
  refine Qi ?_
  have hgl:(grN l.ns (0+0+i*27)).length=27:=Qi3 (by have:=h.n;omega)
  have hglt:=Qkp (o:=0+0+i*27) h.b
  have hgs:=fun j u=>Qkm (l:=l) (o:=0+0+i*27) j u
  refine Zd (grN l.ns (0+0+i*27)) fun gr hgr=>?_
  rw[hgr] at hgl hglt hgs
  have q0:=JO (ns:=gr) (j:=0) (by omega)
  have q0l:=Jb hglt 0
  refine Zd (gr.getD 0 0) fun s0 hs0=>?_
  rw[hs0] at q0 q0l
  refine Qg<|Qh<|Qc<|Qb<|x (Qa rfl)<|x (YI (i:=i) rfl rfl (by omega))<|x (QcJ (us:=bys gr) hB19 rfl (by rw[Yf];exact hgl) hgs)<|xl rfl<|Qu (us:=z27) rfl fun b8 w10 hs10 hb8 hB8=>xl rfl<|Qq (us:=bys gr) hB8 rfl rfl (by rw[Yf];exact hgl) rfl (U6 gr) fun w11 hs11 hB811 =>
   xe ?_
  have hs911:Step [] w9 w11:=hs10.then1 hs11 hb8
  refine Qc<|x (Qa rfl)<|x (Qd hB811 rfl q0)<|x (VJ (a:=(s0:Int)) (b:=3) rfl rfl (by omega) (by omega))<|x (Qa rfl)<|xl rfl<|QF (u:=.int .u8 ((s0 % 3:Nat):Int)) hB811 rfl (congrArg (Value.int .u8) (by omega:(s0:Int) % 3=((s0 % 3:Nat):Int))) (by rw[Yf];omega) rfl fun w12 hs12 hB812 =>
   xe ?_
  rw[jV] at hB812
  have hl8:=hB8.lt
  have hs912:Step [] w9 w12:=hs911.then1 hs12 hb8
  have hz912:=hs912.size
  have hz10:=hs10.size
  have hz11:=hs11.size
  have hB912:=hB9.ext hs912
  have hM12:=hM9.ext hs912
  have hn3v:b3∉ob vc:=QY hM12.c (by omega)
  have hn8v:b8∉ob vc:=fun hm=>by have:=Q0 hM9.c b8 hm;omega
  have hl12:(gr.set 0 (s0 % 3)).length=27:=by rw[List.length_set];exact hgl
  have hlt12:=Qbw (n:=s0 % 3) hglt (by omega)
  have hg012:=yV (ns:=gr) (n:=s0 % 3) (by omega)
  refine Zd (gr.set 0 (s0 % 3)) fun gr2 hgr2=>?_
  rw[hgr2] at hB812 hl12 hlt12 hg012
  have hT12:Xd (b3::(ob vc++ob va)) w12.heap (.slice (some ⟨b39,0,none⟩) 3 3) tl:=by
   have h1:=hT8 (b3::(ob vc++ob va)) (fun b hb=>by
    rcases List.mem_cons.1 hb with rfl | hb
    ·exact .inl (by omega)
    ·rcases List.mem_append.1 hb with hb | hb
     ·exact .inr (Qo hM9.c b hb).1
     ·exact .inr (Qo hM9.a b hb).1)
   exact (h1.st (hs9.mono (by simp))).ext hs912
  have hti:i<tl.length:=by omega
  obtain ⟨tv,htv⟩:=htlq i hti
  have htm:=List.getElem_mem hti
  rw[htv] at htm
  have hsI:=QdY i
  have hu8:(48:Int)+(i:Int)=((48+i:Nat):Int):=by omega
  refine QV (α:=Value×List IV) [(57,74)] (fun _=>[]) (fun z w'=>Step (b3::ob vc) w12 w'∧QS w'.heap b3 38 [ve,z.1,Zc,Zc,Zc]∧qq w8.heap.size w' z.1 va z.2 (al5 i)∧z.2.length=i+1∧∀q∈z.2,VV q.nm∧GdA q.p.a) (by rfl) ?_ ?_
  ·refine Zd (⟨#[109]⟩++⟨#[UInt8.ofNat (48+i)]⟩:ByteArray) fun nm hnm=>?_
   have hnmB:VV nm:=by rw[←hnm];show (ByteArray.size _)≤_;rw[ByteArray.size_append];show 1+1≤_;omega
   refine Qaa (α:=AV) (Step (ob vc) w12) (Step [] w12) [(0,true),(1,true),(2,true),(3,true),(4,true),(8,true),(9,true),(10,true),(11,true),(12,true)] (fun i=>if i=6 then [5] else if i=7 then [6] else []) [5,6,7,13] [(14,true),(15,false),(16,false),(17,true),(18,false)] [(62,64),(70,70)] (mkP w12.heap.size (48+i) nm)
    (fun z=>[(64,.string nm),(70,QfO z)]) (fun z w'=>QjJ w12.heap.size w' z) Tryz.mixed (by rfl) (by kernel_rfl) (Step.drew _ _) (fun _ h=>h.any) (fun _ _ h1 h2=>h1.trans h2) QbN ?_ ?_
   ·rintro g w' ⟨_,_,h7,⟨q,e,hA⟩,_⟩ hdj
    exact ⟨q,⟨h7,e,trivial⟩,hA⟩
   refine p (fun _=>Qa rfl)<|pq (fun _ hc=>Qd (hB912.step hc hn3v) rfl rfl)<|p (fun _=>Qm)<|p (fun _=>YJ (k':=.u8) rfl ⟨by omega,by omega⟩)<|p (fun _=>Qx rfl rfl ⟨by omega,by omega⟩) <|
    p (fun _=>Qm)<|p (fun _=>Qm)<|Go.Lg.pig (g:=ZY) (i:=i) rfl (fun _=>rfl) hT12.arr rfl rfl hti fun a67 h67=>?_
   rw[htv] at h67
   refine pq (fun _ hc=>Qv (h67.step hc (fun b hb=>by simp[hb])) rfl)<|pq (fun _ hc=>Qp (hB812.step hc hn8v) rfl (by rw[Yf];exact hl12))<|pe ⟨⟨?_,?_,?_,?_,trivial⟩,?_⟩
   ·intro g w' hc _
    exact QG (us:=[[.int .u8 ((48:Int)+(i:Int))]]) rfl rfl (by decide) (by simp) ⟨rfl,rfl,trivial⟩ fun b w13 hs13' hb hB=>⟨hs13',⟨b,rfl,by rw[←hu8];exact hB⟩,fun c hc'=>by rw[List.mem_singleton.1 (show c∈[b] from hc')];exact ⟨hb,hB.lt⟩⟩
   ·rintro g w' hc ⟨⟨b,e,hB⟩,_⟩
    exact xv (QaB (n:=48+i) hB (by omega) e) ⟨Step.refl _ _,rfl,fun c hc'=>by cases hc'⟩
   ·rintro g w' hc ⟨e,_⟩
    exact xv (X5 (a:=⟨#[109]⟩) (b:=⟨#[UInt8.ofNat (48+i)]⟩) rfl e (by show 1+1≤1000000000;omega)) ⟨Step.refl _ _,congrArg Value.string hnm,fun c hc'=>by cases hc'⟩
   ·intro g w' hc _
    have hz:=hc.size
    have hi1:QL (b3::(ob vc++ob va)) w'.heap tv (VS i):=(hT12.each _ htm).ext hc
    refine xf<|(q7 (ns:=gr2) hi1 (QgD i) (QdZ i) hl12 hlt12).mono ?_
    rintro r w13 ⟨hs13',a,⟨xa,xm,xe',rfl,hA⟩,hok,h5,hal,hcan⟩
    obtain ⟨a0,k1,k2,k3,k4⟩:=hcan (by omega)
    rw[hg012] at k3
    exact ⟨hs13',⟨⟨xa,xm,xe',a⟩,rfl,fun L hL=>hA L (fun b hb=>by have:=hL b hb;omega),GdA.of k1 k2 k3 k4 (by omega)⟩,fun c hc'=>by cases hc'⟩
   rintro q g w13 hc13 ⟨hA13,hG13⟩
   have hz13:=hc13.size
   have hA0:=hA13 [] (by simp)
   refine p (fun _=>Zv [(0,[.string nm]),(1,[q.va,.int .i64 q.a.st,q.vm,q.ve])] ⟨rfl,rfl,rfl,rfl,trivial⟩)<|pk<|QG (us:=[Zh ⟨nm,q⟩]) rfl rfl (by decide) (show 1*5≤1000000 by omega) ⟨rfl,rfl,trivial⟩ fun b72 w14 hs14 hb72 hB72=>⟨(hc13.trans hs14).any,?_⟩
   have hc14:=hc13.trans hs14
   have hz14:=hs14.size
   have hM14:=hM12.ext hc14
   refine pk<|Q2 (news:=Zh ⟨nm,q⟩) (L:=[]) hM14.c rfl rfl rfl (hB72.at (by simp)) (QbX hA0.al.one hA0.mr.one hA0.ed.one) (by omega) (by omega) fun v15 w15 ho15 hs15 hn15=>⟨(hc14.any (L:=ob vc)).trans' hs15,?_⟩
   have hM15:=hM14.setC (js (q:=⟨nm,q⟩) (N:=w12.heap.size) (fun L hL=>(hA13 L hL).ext hs14) (by omega) hM12.avlt) ho15 hs15 hn15
   refine p (fun _=>Qa rfl)<|pkl (hl:=by kernel_rfl)<|QF ((hB912.ext hc14).step hs15 hn3v) rfl rfl (by simp) (QP ho15) fun w16 hs16 hB16=>pe ?_
   refine ⟨(v15,co++[⟨nm,q⟩]),trivial,((hc14.any (L:=b3::ob vc)).trans' (hs15.mono (fun b hb=>List.mem_cons_of_mem _ hb))).trans' (hs16.mono (by simp)),hB16,hM15.low hs16 (fun b hb=>by rw[List.mem_singleton.1 hb];omega),by simp only[List.length_append,List.length_singleton];omega,fun d hd=>?_⟩
   rcases List.mem_append.1 hd with hd | hd
   ·exact hgd d hd
   ·rw[List.mem_singleton.1 hd];exact ⟨hnmB,hG13⟩
  rintro ⟨vc2,co2⟩ g16 w16 ⟨hs16,hB16,hM16,hcol16,hgd16⟩
  simp only[] at hB16 hM16 hcol16 hgd16
  have hz16:=hs16.size
  have hgeC:=Qo hM9.c
  have hgeA:=Qo hM9.a
  have hs816:Step [b3] w8 w16:=(hs9.trans hs912).then hs16 (fun b hb=>by
   rcases List.mem_cons.1 hb with rfl | hb
   ·exact .inl (by simp)
   ·exact .inr (hgeC b hb).1)
  have hT16:=hT12.st (hs16.mono (L':=b3::(ob vc++ob va)) (fun b hb=>by
   rcases List.mem_cons.1 hb with rfl | hb
   ·simp
   ·simp[hb]))
  have hIt:QL (b3::(ob vc++ob va)) w16.heap tv (VS i):=hT16.each _ htm
  obtain ⟨ta,tc,hte,hta⟩:=Zs.full hIt hsI.1
  have hal5:=Qcl i
  refine Qw<|Qb<|Qb<|Qb<|Go.Lg.xig (g:=ZY) (i:=i) (fun _=>rfl) hT16.arr rfl rfl hti fun a78 h78=>?_
  rw[htv] at h78
  refine x (Qv h78 rfl)<|xl rfl<|Q2 (news:=(VS i).map (.int .i64)) hM16.a rfl (show Go.Lg.ev _ _=_ from hte) (by simp) hta (by simp[Value.oneCell']) (by omega) (by omega) fun v17 w17 ho17 hs17 hn17 =>
   Qf ?_
  have ho17':Qs 3 w8.heap.size w17 v17 (al5 (i+1)):=by
   rw[QfQ (by omega)]
   unfold Qs
   rw[List.length_append,List.map_append]
   exact ho17
  have hM17:=hM16.setA ho17' hs17 hn17
  refine Qw<|Qb<|x (Qx rfl rfl ⟨by omega,by omega⟩)<|Qf ?_
  exact ⟨(i+1,vc2,v17,co2),by simp only[];omega,⟨rfl,rfl,trivial⟩,hlt,hs816.then hs17 (fun b hb=>.inr (hgeA b hb).1),hB16.step hs17 (QY hM16.a (by omega)),hM17,hcol16,hgd16⟩
 rintro ⟨vc,va,co⟩ g9 w9 ⟨hs9,hB9,hM9,hcol9,hgd9⟩
 simp only[] at hB9 hM9 hcol9 hgd9
 have hz9:=hs9.size
 have hs39:Step [b3] w3 w9:=hs38.trans' hs9
 have FE9:=K7 (fun L hL=>(FE4 L hL).ext hs48) hl3 hs9
 have FI9:∀L:LN,(∀b∈L,b<w3.heap.size)→YP L w9.heap vc co:=fun L hL=>hM9.itms (by omega) (fun q hq=>(hgd9 q hq).1) (fun b hb=>by have:=hL b hb;omega)
 have hal5:=Qcl n
 refine QV (α:=Value×List IV) [(9,11),(81,128)] (fun _=>[]) (fun z w'=>Step [b3] w9 w'∧QS w'.heap b3 38 [ve,vc,z.1,Zc,Zc]∧IvP w9.heap.size w' z.1 z.2∧z.2.length≤2∧∀q∈z.2,VV q.nm∧GdA q.p.a) (by rfl) ?_ ?_
 ·refine Qc<|Qf ?_
  refine Qh<|QA (α:=Nat×Value×List IV) [(9,11),(81,128)] (fun z=>[(9,.int .i64 z.1)]) (fun z w'=>z.1≤2∧Step [b3] w9 w'∧QS w'.heap b3 38 [ve,vc,z.2.1,Zc,Zc]∧IvP w9.heap.size w' z.2.1 z.2.2∧z.2.2.length≤z.1∧∀q∈z.2.2,VV q.nm∧GdA q.p.a) (fun z=>2 - z.1) (by rfl) (0,Zc,[]) ⟨rfl,trivial⟩
   ⟨Nat.zero_le _,Step.refl _ _,hB9,Xe.nil,Nat.le_refl _,fun q hq=>by cases hq⟩ ?_
  rintro ⟨i,vr,rq⟩ g w10 ⟨hi,hs10,hB10,hM10,hrl10,hgd10⟩
  simp only[] at hi hB10 hM10 hrl10 hgd10
  have hz10:=hs10.size
  have hs310:Step [b3] w3 w10:=hs39.trans' hs10
  have hB110:=hB13.step hs310 n13
  have hR10:=hR3.st hs310
  have g82':(YM l)[82]?=some l.vr:=g82
  refine Qg<|QV (α:=Unit) [(81,89)] (fun z=>[(89,.bool (decide (i<l.rs.length∧i<2)))]) (fun z w'=>w'=w10) (by rfl) ?_ ?_
  ·refine Qw<|Qb<|x (Qa rfl)<|x (Qd hB110 rfl g82')<|x (Qr hR10 rfl)<|xb (QB rfl rfl) (fun h85=>?_) (fun h85=>?_)
   ·refine Qb<|Qb<|x (QB rfl rfl)<|x (Qn rfl)<|xe ?_
    refine ⟨(),⟨congrArg Value.bool ?_,trivial⟩,rfl⟩
    exact decide_eq_decide.2 ⟨fun e=>⟨by omega,by omega⟩,fun e=>by omega⟩
   refine Qb<|xs rfl<|xs rfl<|x (Qn rfl)<|xe ?_
   exact ⟨(),⟨congrArg Value.bool (decide_eq_false (fun e=>h85 (by omega))).symm,trivial⟩,rfl⟩
  rintro _ g11 w11 rfl
  refine QD rfl (fun h89=>?_) (fun h89=>?_)
  ·refine Qy ?_
   exact ⟨(vr,rq),trivial,hs10,hB10,hM10,by simp only[];omega,hgd10⟩
  have hir:i<l.rs.length:=h89.1
  have hi2:i<2:=h89.2
  refine Qi ?_
  refine Qg<|Qh<|Qc<|x (Qa rfl)<|x (Qd hB110 rfl g82')<|Qb<|Go.Lg.xig (g:=Ye) (i:=i) z1 hR10 rfl rfl hir fun a95 h95=>?_
  refine Zd (l.rs[i]'hir) fun pr hpr=>?_
  rw[hpr] at h95
  have hpl:(pr.1.drop 1).length=27:=by rw[List.length_drop,pr.2.1]
  have hplt:∀n∈pr.1.drop 1,n<256:=fun n hn=>pr.2.2 n (List.mem_of_mem_drop hn)
  have h95':At [b3] w11.heap (a95.add 1) (bys (pr.1.drop 1)):=by
   have h1:=h95.from 1
   rw[show (Ye pr).drop 1=bys (pr.1.drop 1) by simp[Ye,bys]] at h1
   exact h1
  have hp0:=JO (ns:=pr.1) (j:=0) (by rw[pr.2.1];omega)
  have hp0l:=Jb pr.2.2 0
  refine Zd (pr.1.getD 0 0) fun m0 hm0=>?_
  rw[hm0] at hp0 hp0l
  refine Zd (pr.1.drop 1) fun gr hgr=>?_
  rw[hgr] at hpl hplt h95'
  have q0:=JO (ns:=gr) (j:=0) (by omega)
  have q0l:=Jb hplt 0
  refine Zd (gr.getD 0 0) fun s0 hs0=>?_
  rw[hs0] at q0 q0l
  refine x (Zf rfl)<|x (QJ (us:=bys gr) h95' rfl (by rw[Yf];exact hpl))<|xl rfl<|Qu (us:=z27) rfl fun b10 w12 hs12 hb10 hB10'=>xl rfl<|Qq (us:=bys gr) hB10' rfl rfl (by rw[Yf];exact hpl) rfl (U6 gr) fun w13 hs13' hB1013 =>
   xe ?_
  have hs1113:Step [] w11 w13:=hs12.then1 hs13' hb10
  refine Qc<|x (Qa rfl)<|x (Qd hB1013 rfl q0)<|x (VJ (a:=(s0:Int)) (b:=3) rfl rfl (by omega) (by omega))<|x (Qa rfl)<|xl rfl<|QF (u:=.int .u8 ((s0 % 3:Nat):Int)) hB1013 rfl (congrArg (Value.int .u8) (by omega:(s0:Int) % 3=((s0 % 3:Nat):Int))) (by rw[Yf];omega) rfl fun w14 hs14 hB1014 =>
   xe ?_
  rw[jV] at hB1014
  have hl10:=hB10'.lt
  have hs1114:Step [] w11 w14:=hs1113.then1 hs14 hb10
  have hz12:=hs12.size
  have hz13':=hs13'.size
  have hz1114:=hs1114.size
  have hl12:(gr.set 0 (s0 % 3)).length=27:=by rw[List.length_set];exact hpl
  have hlt12:=Qbw (n:=s0 % 3) hplt (by omega)
  have hg012:=yV (ns:=gr) (n:=s0 % 3) (by omega)
  refine Zd (gr.set 0 (s0 % 3)) fun gr2 hgr2=>?_
  rw[hgr2] at hB1014 hl12 hlt12 hg012
  have hva11:Qs 3 w8.heap.size w11 va (al5 n):=Qk hM9.a hs10 (fun b hb hm=>by rw[List.mem_singleton.1 hm] at hb;exact QY hM9.a (by omega) hb)
  refine Qc<|x (Qa rfl)<|x (Qd (hB110.ext hs1114) rfl g82')<|Qb<|Go.Lg.xig (g:=Ye) (i:=i) z1 (hR10.ext hs1114) rfl rfl hir fun a105 h105=>?_
  rw[hpr] at h105
  refine x (Zf rfl)<|x (Qv (h105.fld 0 _ hp0) rfl)<|xl rfl<|xf<|(QaW m0 hp0l _).mono ?_
  rintro v15 w15 ⟨hs15,ho15⟩
  have hsk:=Xk m0 5
  have hva15:QL [] w15.heap va (al5 n):=(Qs.ints (L:=[]) (Qt hva11 (hs1114.trans hs15)) (by omega) (by simp))
  refine Qb<|xl rfl<|xf<|(yy (Qs.ints (L:=[]) ho15 (by omega) (by simp)) hva15 (by omega)).mono ?_
  rintro v16 w16 ⟨hs16,ho16⟩
  have hmi:=z8 (· && ·) _ (setK m0 5) (al5 n) (Nat.le_refl _) (yU m0 5) (Qcm n)
  have hml:=KS (· && ·) (setK m0 5) (al5 n)
  have hmb:∀e∈mrg (· && ·) (setK m0 5) (al5 n),0≤e∧e<32:=fun e he=>by
   have h1:=((V5 (keep:=(· && ·)) (yU m0 5) (Qcm n)) e).1 he
   rcases h1.1 with h2 | h2
   ·have:=QgC m0 5 e h2;omega
   ·exact QjB n e h2
  refine Zd (mrg (· && ·) (setK m0 5) (al5 n)) fun st hst=>?_
  rw[hst] at ho16 hmi hml hmb
  refine Qf ?_
  have hs1416:=hs15.trans hs16
  have hs1116:=hs1114.trans hs1416
  have hz1416:=hs1416.size
  have hz15:=hs15.size
  have hz16:=hs16.size
  have hI16:=Qs.ints (L:=[]) ho16 (by omega) (by simp)
  refine Qc<|Qb<|x (Qr hI16 rfl)<|x (ZI rfl rfl)<|xe ?_
  refine QD rfl (fun h113=>?_) (fun h113=>?_)
  ·refine Qi ?_
   refine Qw<|Qb<|x (Qx rfl rfl ⟨by omega,by omega⟩)<|Qf ?_
   exact ⟨(i+1,vr,rq),by simp only[];omega,⟨rfl,trivial⟩,by simp only[];omega,hs10.trans hs1116,hB10.ext hs1116,hM10.ext hs1116,by simp only[];omega,hgd10⟩
  have hn3v:b3∉ob vr:=QY hM10.own (by omega)
  have hn10v:b10∉ob vr:=fun hm=>by have:=Q0 hM10.own b10 hm;omega
  have hge10:=Qo hM10.own
  have hu8:(48:Int)+(i:Int)=((48+i:Nat):Int):=by omega
  have hB316:=hB10.ext hs1116
  have hB1016:=hB1014.ext hs1416
  refine Zd (⟨#[114]⟩++⟨#[UInt8.ofNat (48+i)]⟩:ByteArray) fun nm hnm=>?_
  have hnmB:VV nm:=by rw[←hnm];show (ByteArray.size _)≤_;rw[ByteArray.size_append];show 1+1≤_;omega
  have hR16:=hM10.ext hs1116
  refine Qaa (α:=AV) (Step (ob vr) w16) (Step [] w16) [(0,true),(1,true),(2,true),(3,true),(4,true),(8,true),(9,true)] (fun i=>if i=6 then [5] else if i=7 then [6] else []) [5,6,7,10] [(11,true),(12,false),(13,false),(14,true),(15,false)] [(119,121),(124,124)] (mkP w16.heap.size (48+i) nm)
   (fun z=>[(121,.string nm),(124,QfO z)]) (fun z w'=>QjJ w16.heap.size w' z) Tryz.mixed (by rfl) (by kernel_rfl) (Step.drew _ _) (fun _ h=>h.any) (fun _ _ h1 h2=>h1.trans h2) QbN ?_ ?_
  ·rintro g w' ⟨_,_,h7,⟨q,e,hA⟩,_⟩ hdj
   exact ⟨q,⟨h7,e,trivial⟩,hA⟩
  refine p (fun _=>Qa rfl)<|pq (fun _ hc=>Qd (hB316.step hc hn3v) rfl rfl)<|p (fun _=>Qm)<|p (fun _=>YJ (k':=.u8) rfl ⟨by omega,by omega⟩)<|p (fun _=>Qx rfl rfl ⟨by omega,by omega⟩) <|
   p (fun _=>Qm)<|pq (fun _ hc=>Qp (hB1016.step hc hn10v) rfl (by rw[Yf];exact hl12))<|pe ⟨⟨?_,?_,?_,?_,trivial⟩,?_⟩
  ·intro g w' hc _
   exact QG (us:=[[.int .u8 ((48:Int)+(i:Int))]]) rfl rfl (by decide) (by simp) ⟨rfl,rfl,trivial⟩ fun b w17 hs17 hb hB=>⟨hs17,⟨b,rfl,by rw[←hu8];exact hB⟩,fun c hc'=>by rw[List.mem_singleton.1 (show c∈[b] from hc')];exact ⟨hb,hB.lt⟩⟩
  ·rintro g w' hc ⟨⟨b,e,hB⟩,_⟩
   exact xv (QaB (n:=48+i) hB (by omega) e) ⟨Step.refl _ _,rfl,fun c hc'=>by cases hc'⟩
  ·rintro g w' hc ⟨e,_⟩
   exact xv (X5 (a:=⟨#[114]⟩) (b:=⟨#[UInt8.ofNat (48+i)]⟩) rfl e (by show 1+1≤1000000000;omega)) ⟨Step.refl _ _,congrArg Value.string hnm,fun c hc'=>by cases hc'⟩
  ·intro g w' hc _
   have hz:=hc.size
   refine xf<|(q7 (ns:=gr2) (hI16.ext hc) hmb hmi hl12 hlt12).mono ?_
   rintro r w17 ⟨hs17,a,⟨xa,xm,xe',rfl,hA⟩,hok,h5,hal,hcan⟩
   obtain ⟨a0,k1,k2,k3,k4⟩:=hcan (by omega)
   rw[hg012] at k3
   exact ⟨hs17,⟨⟨xa,xm,xe',a⟩,rfl,fun L hL=>hA L (fun b hb=>by have:=hL b hb;omega),GdA.of k1 k2 k3 k4 (by omega)⟩,fun c hc'=>by cases hc'⟩
  rintro q g w17 hc17 ⟨hA17,hG17⟩
  have hz17:=hc17.size
  have hA0:=hA17 [] (by simp)
  refine p (fun _=>Zv [(0,[.string nm]),(1,[q.va,.int .i64 q.a.st,q.vm,q.ve])] ⟨rfl,rfl,rfl,rfl,trivial⟩)<|pk<|QG (us:=[Zh ⟨nm,q⟩]) rfl rfl (by decide) (show 1*5≤1000000 by omega) ⟨rfl,rfl,trivial⟩ fun b126 w18 hs18 hb126 hB126=>⟨(hc17.trans hs18).any,?_⟩
  have hc18:=hc17.trans hs18
  have hz18:=hs18.size
  have hR18:=hR16.ext hc18
  refine pk<|Q2 (news:=Zh ⟨nm,q⟩) (L:=[]) hR18.own rfl rfl rfl (hB126.at (by simp)) (QbX hA0.al.one hA0.mr.one hA0.ed.one) (by omega) (by omega) fun v19 w19 ho19 hs19 hn19=>⟨(hc18.any (L:=ob vr)).trans' hs19,?_⟩
  have hR19:=hR18.app3 (q:=⟨nm,q⟩) (js (q:=⟨nm,q⟩) (N:=w16.heap.size) (fun L hL=>(hA17 L hL).ext hs18) (by omega) (Q0 hR16.own)) ho19 hs19 hn19
  refine p (fun _=>Qa rfl)<|pkl (hl:=by kernel_rfl)<|QF ((hB316.ext hc18).step hs19 hn3v) rfl rfl (by simp) (QP ho19) fun w20 hs20 hB20=>pe ?_
  refine Qw<|Qb<|x (Qx rfl rfl ⟨by omega,by omega⟩)<|Qf ?_
  refine ⟨(i+1,v19,rq++[⟨nm,q⟩]),by simp only[];omega,⟨rfl,trivial⟩,by simp only[];omega,(((hs10.trans hs1116).trans hc18).then hs19 (fun b hb=>.inr (hge10 b hb).1)).trans' hs20,hB20,hR19.low hs20 (fun b hb=>by rw[List.mem_singleton.1 hb];omega),by simp only[List.length_append,List.length_singleton];omega,fun d hd=>?_⟩
  rcases List.mem_append.1 hd with hd | hd
  ·exact hgd10 d hd
  ·rw[List.mem_singleton.1 hd];exact ⟨hnmB,hG17⟩
 rintro ⟨vr,rq⟩ g10 w10 ⟨hs10,hB10,hM10,hrl10,hgd10⟩
 simp only[] at hB10 hM10 hrl10 hgd10
 have hz10:=hs10.size
 have hs310:Step [b3] w3 w10:=hs39.trans' hs10
 have hB110:=hB13.step hs310 n13
 have FE10:=K7 FE9 hl3 hs10
 have FI10:=JH FI9 hl3 hs10
 have FR10:∀L:LN,(∀b∈L,b<w3.heap.size)→YP L w10.heap vr rq:=fun L hL=>hM10.itms (by omega) (fun q hq=>(hgd10 q hq).1) (fun b hb=>by have:=hL b hb;omega)
 refine QV (α:=Value×List XV) [(12,14),(129,169)] (fun _=>[]) (fun z w'=>Step [b3] w10 w'∧QS w'.heap b3 38 [ve,vc,vr,z.1,Zc]∧∀L:LN,(∀b∈L,b<w3.heap.size)→V9 L w'.heap z.1 z.2) (by rfl) ?_ ?_
 ·refine Qc<|x (Qa rfl)<|x (Qd hB10 rfl rfl)<|x (Qr (FI10 [] (by simp)).arr rfl)<|Qf ?_
  refine Qc<|Qb<|x (ZI rfl rfl)<|xe ?_
  refine QD rfl (fun h133=>?_) (fun h133=>?_)
  ·refine Qi ?_
   exact ⟨(Zc,[]),trivial,Step.refl _ _,hB10,fun L hL=>⟨Zs.nil _ _ 2,fun q hq=>(by cases hq),fun q hq=>(by cases hq)⟩⟩
  have hco2:2≤co.length:=by have h134:(1:Int)<(co.length:Int):=h133;omega
  refine Qc<|x (QM ⟨rfl,trivial⟩)<|xl rfl<|Qu (us:=[.string .empty,Zc]) rfl fun b13 w11 hs11 hb13 hB11=>xl rfl<|Qq (us:=[.string ⟨#[120]⟩,Zc]) hB11 rfl rfl rfl rfl ⟨rfl,rfl,trivial⟩ fun w12 hs12 hB1312 =>
   xe ?_
  have hs1012:Step [] w10 w12:=hs11.then1 hs12 hb13
  have hz1012:=hs1012.size
  have hl13:=hB1312.lt
  have n313:b3∉[b13]:=by simp only[List.mem_singleton];omega
  have n113:b1∉[b13]:=by simp only[List.mem_singleton];omega
  refine QV (α:=Value×List (Int×Int)) [(14,14),(135,158)] (fun _=>[]) (fun z w'=>Step [b13] w12 w'∧QS w'.heap b13 107 [.string ⟨#[120]⟩,z.1]∧w'.ownsRow w12.heap.size 109 2 z.1 z.2.length (z.2.flatMap Q8)∧z.2.length≤2) (by rfl) ?_ ?_
  ·refine Qc<|Qf ?_
   refine Qh<|QA (α:=Nat×Value×List (Int×Int)) [(14,14),(135,158)] (fun z=>[(14,.int .i64 z.1)]) (fun z w'=>z.1≤2∧Step [b13] w12 w'∧QS w'.heap b13 107 [.string ⟨#[120]⟩,z.2.1]∧w'.ownsRow w12.heap.size 109 2 z.2.1 z.2.2.length (z.2.2.flatMap Q8)∧z.2.2.length=z.1) (fun z=>2 - z.1) (by rfl) (0,Zc,[]) ⟨rfl,trivial⟩
    ⟨Nat.zero_le _,Step.refl _ _,hB1312,QO _ _ _ _,rfl⟩ ?_
   rintro ⟨i,vl,ls⟩ g w13 ⟨hi,hs13',hB1313,ho13,hll⟩
   simp only[] at hi hB1313 ho13 hll
   have hz13:=hs13'.size
   refine Qg<|Qc<|Qb<|x (QB rfl rfl)<|xe ?_
   refine QD rfl (fun h136=>?_) (fun h136=>?_)
   ·refine Qy ?_
    exact ⟨(vl,ls),trivial,hs13',hB1313,ho13,by simp only[];omega⟩
   have hlt:i<2:=by have h137:(i:Int)<2:=h136;omega
   refine Qi ?_
   have hgeL:=Qo ho13
   have hn13v:b13∉ob vl:=QY ho13 hl13
   have hn3v:b3∉ob vl:=QY ho13 (by omega)
   have hn1v:b1∉ob vl:=QY ho13 (by omega)
   have hB313:=(hB10.ext hs1012).step hs13' n313
   have hB113:=(hB110.ext hs1012).step hs13' n113
   have hgx:∃xi:Nat,xi<256∧(YM l)[0+83+i*1]?=some (.int .u8 (xi:Int)):=by
    have h3:i=0∨i=1:=by omega
    rcases h3 with rfl | rfl
    ·exact ⟨l.x0,hx0,g83⟩
    ·exact ⟨l.x1,hx1,g84⟩
   obtain ⟨xi,hxi,hgx⟩:=hgx
   have hic:i<co.length:=by omega
   have hI13:YP (ob vl) w13.heap vc co:=by
    have h1:YP (b13::ob vl) w12.heap vc co:=((FI10 [] (by simp)).up (L':=b13::ob vl) (fun b hb=>by
     rcases List.mem_cons.1 hb with rfl | hb
     ·exact .inr (by have:=hs11.size;omega)
     ·exact .inr (by have:=(hgeL b hb).1;omega))).ext hs1012
    exact (h1.st (hs13'.mono (by simp))).up (fun b hb=>.inl (List.mem_cons_of_mem _ hb))
   have hqm:=List.getElem_mem hic
   refine Zd (co[i]'hic) fun q hq=>?_
   rw[hq] at hqm
   have hpos:=(hgd9 q hqm).2.p
   have hd13:Step [] w13 { w13 with drawn:=w13.drawn+1 }:=Step.drew _ _
   have hmod:0≤(xi:Int) % q.p.a.st:=Int.emod_nonneg _ (by omega)
   refine Qg<|Qh<|QT (Step (ob vl) w13) [(0,true),(1,true),(2,true),(3,true),(4,true),(5,true),(6,true),(7,true),(8,true),(9,true),(10,true),(11,true),(12,true),(13,true),(14,true),(15,true),(16,true),(17,false),(18,false),(19,true),(20,false)] Tryz.mixed (by rfl) (by kernel_rfl) (Step.drew _ _) ?_
   refine p (fun _=>Qa rfl)<|pq (fun _ hc=>Qd (hB1313.step hc hn13v) rfl rfl)<|p (fun _=>Qm)<|p (fun _=>Qm)<|p (fun _=>Qa rfl) <|
    p (fun _=>YI (i:=i) rfl rfl hlt)<|pq (fun _ hc=>Qd (hB113.step hc hn1v) rfl hgx)<|p (fun _=>YJ (k':=.i64) rfl ⟨by omega,by omega⟩)<|p (fun _=>Qa rfl)<|pq (fun _ hc=>Qd (hB313.step hc hn3v) rfl rfl) <|
    p (fun _=>Qm)<|Go.Lg.pig (g:=Zh) (i:=i) rfl Y6 hI13.arr rfl rfl hic fun a150 h150=>?_
   rw[hq] at h150
   refine p (fun _=>Zf rfl)<|p (fun _=>Zf rfl)<|pq (fun _ hc=>Qv (((h150.from 1).fld 1 (.int .i64 q.p.a.st) rfl).st hc) rfl) <|
    p (fun _=>VJ (a:=(xi:Int)) (b:=q.p.a.st) rfl rfl (by omega) hpos)<|p (fun _=>QM ⟨rfl,rfl,trivial⟩)<|pk<|QG (us:=[Q8 ((i:Int),(xi:Int) % q.p.a.st)]) rfl rfl (by decide) (show 1*2≤1000000 by omega) ⟨rfl,rfl,trivial⟩ fun b156 w14 hs14 hb156 hB156=>?_
   have hs1314:=hd13.trans hs14
   have hz1314:=hs1314.size
   refine ⟨hs1314.any,?_⟩
   refine pk<|Q2 (news:=Q8 ((i:Int),(xi:Int) % q.p.a.st)) (L:=[]) (Qt ho13 hs1314) rfl rfl rfl (hB156.at (by simp)) (QgQ _) (by omega) (by omega) fun v15 w15 ho15 hs15 hn15=>⟨(hs1314.any (L:=ob vl)).trans' hs15,?_⟩
   have hge15:∀b∈ob v15,w12.heap.size≤b:=fun b hb=>(Qo ho15 b hb).1
   refine p (fun _=>Qa rfl)<|pkl (hl:=by kernel_rfl)<|QF ((hB1313.ext hs1314).step hs15 hn13v) rfl rfl (by simp) (QP ho15) fun w16 hs16 hB16=>pe ?_
   refine Qw<|Qb<|x (Qx rfl rfl ⟨by omega,by omega⟩)<|Qf ?_
   refine ⟨(i+1,v15,ls++[((i:Int),(xi:Int) % q.p.a.st)]),by simp only[];omega,⟨rfl,trivial⟩,hlt,((hs13'.trans hs1314).then hs15 (fun b hb=>.inr (hgeL b hb).1)).trans' hs16,hB16,?_,by simp[hll]⟩
   have h9:=Qk ho15 hs16 (fun b hb=>by have:=hge15 b hb;simp only[List.mem_singleton];omega)
   simp only[List.length_append,List.flatMap_append]
   simpa using h9
  rintro ⟨vl,ls⟩ g13 w13 ⟨hs13',hB1313,ho13,hll⟩
  simp only[] at hB1313 ho13 hll
  have hz13:=hs13'.size
  have hs1013:Step [] w10 w13:=hs1012.then1 hs13' hb13
  have hB313:=hB10.ext hs1013
  have hB113:=hB110.ext hs1013
  have hxx:=QP ho13
  refine Qc<|x (Qa rfl)<|x (YI (i:=0) rfl rfl (by decide))<|x (Qd hB113 rfl g83)<|x (VJ (a:=(l.x0:Int)) (b:=4) rfl rfl (by omega) (by omega))<|x (Q6 rfl rfl)<|xe ?_
  refine QD rfl (fun h163=>?_) (fun h163=>?_)
  ·refine Qi ?_
   exact ⟨(Zc,[]),trivial,hs1013.any,hB313,fun L hL=>⟨Zs.nil _ _ 2,fun q hq=>(by cases hq),fun q hq=>(by cases hq)⟩⟩
  refine Qw<|x (Qa rfl)<|x (Qd hB313 rfl rfl)<|x (Qp hB1313 rfl rfl)<|xl rfl<|QG (us:=[Zu ⟨⟨#[120]⟩,vl,ls⟩]) rfl rfl (by decide) (show 1*2≤1000000 by omega) ⟨rfl,rfl,trivial⟩ fun b167 w14 hs14 hb167 hB167=>?_
  have hz14:=hs14.size
  refine xl rfl<|Q2 (base:=w13.heap.size) (news:=Zu ⟨⟨#[120]⟩,vl,ls⟩) (L:=[]) (v:=Zc) (QO _ _ _ _) rfl rfl rfl (hB167.at (by simp)) (zH hxx) (by omega) (by omega) fun v15 w15 ho15 hs15 hn15=>?_
  have hs1415:Step [] w14 w15:=hs15
  have hs1015:=(hs1013.trans hs14).trans hs1415
  refine x (Qa rfl)<|xl rfl<|QF (hB10.ext hs1015) rfl rfl (by simp) (QP ho15) fun w16 hs16 hB16=>xe ?_
  refine ⟨(v15,[⟨⟨#[120]⟩,vl,ls⟩]),trivial,(hs1015.any (L:=[b3])).trans' hs16,hB16,fun L hL=>?_⟩
  have hL2:∀b∈b3::L,b<w3.heap.size:=fun b hb=>by
   rcases List.mem_cons.1 hb with rfl | hb
   ·exact hl3
   ·exact hL b hb
  have h1:V9 (b3::L) w15.heap v15 [⟨⟨#[120]⟩,vl,ls⟩]:=by
   refine ⟨QX (n:=1) ho15 (by omega) (fun b hb hbL=>by have:=(Qo ho15 b hb).1;have:=hL2 b hbL;omega),fun q hq=>?_,fun q hq=>?_⟩
   ·rw[List.mem_singleton.1 hq]
    exact ((QX (L:=b3::L) ho13 (by omega) (fun b hb hbL=>by have:=(Qo ho13 b hb).1;have:=hL2 b hbL;omega)).ext hs14).ext hs1415
   ·rw[List.mem_singleton.1 hq];exact Xg (by decide)
  exact (h1.st (hs16.mono (by simp))).up (fun b hb=>.inl (List.mem_cons_of_mem _ hb))
 rintro ⟨vx,qx⟩ g11 w11 ⟨hs11,hB11,FX11⟩
 simp only[] at hB11 FX11
 have FE11:=K7 FE10 hl3 hs11
 have FI11:=JH FI10 hl3 hs11
 have FR11:=JH FR10 hl3 hs11
 have hs311:Step [b3] w3 w11:=hs310.trans' hs11
 have hB211:=hB23.step hs311 n23
 refine Qc<|x (Qp hB11 rfl rfl)<|xl rfl<|Qq (us:=[ve,vc,vr,vx,Zc]) hB211 rfl rfl rfl rfl ⟨(FE11 [] (by simp)).arr.one,(FI11 [] (by simp)).arr.one,(FR11 [] (by simp)).arr.one,(FX11 [] (by simp)).arr.one,rfl,trivial⟩ fun w12 hs12 hB12=>xe ?_
 have hl2':b2<w3.heap.size:=by omega
 have FE12:=K7 FE11 hl2' hs12
 have FI12:=JH FI11 hl2' hs12
 have FR12:=JH FR11 hl2' hs12
 have FX12:=Qgr FX11 hl2' hs12
 have hs012:Step [] w w12:=(hs03.then1 hs311 (by omega)).then1 hs12 (by omega)
 refine Ql ⟨[.agg [ve,vc,vr,vx,Zc].toArray],⟨⟨_,rfl,Qz rfl (hB12.at (L:=[]) (by simp)).cells⟩,trivial⟩,hs012,⟨ev,co.map IV.it,rq.map IV.it,qx.map XV.x,[]⟩,⟨⟨ve,vc,vr,vx,Zc,ev,co,rq,qx,[]⟩,rfl,rfl,fun L hL=>?_⟩,?_⟩
 ·have hL3:∀b∈L,b<w3.heap.size:=fun b hb=>by have:=hL b hb;have:=hs03.size;omega
  exact ⟨FE12 L hL3,FI12 L hL3,FR12 L hL3,FX12 L hL3,⟨Zs.nil _ _ 3,fun q hq=>(by cases hq),fun q hq=>(by cases hq)⟩⟩
 ·refine ⟨by simp only[List.length_map];omega,by simp only[List.length_map];omega,fun q hq=>?_,fun q hq=>?_⟩
  ·obtain ⟨q',hq',rfl⟩:=List.mem_map.1 hq
   exact (hgd9 q' hq').2
  ·obtain ⟨q',hq',rfl⟩:=List.mem_map.1 hq
   exact (hgd10 q' hq').2
end Go.Proofs.YtgmifemhkjdblaaGreatDoor
namespace Go.Lg
section
variable {P:Program} {ops:List Oper} {K:Fr→World→Prop} {f:Fr} {w:World} {d:Option Nat} {ty:Nat} {ps:String} {af:Array Edge} {gd:Option (Nat×Bool)} {l:List Oper} {t t':Nat} {x y:Operand} {k:IntKind} {a b:Int}
theorem Us (hx:ev f x=.int k a) (hy:ev f y=.int k b) (h:a=b):(execOp (ev f) ⟨d,.binOp .eql t x y t',ty,ps,af,gd⟩).run P w=.ok (.value (.bool true)) w:=by
 rw[Zn hx hy,decide_eq_true h]
theorem QiL (hx:ev f x=.int k a) (hy:ev f y=.int k b) (h:a=b):(execOp (ev f) ⟨d,.binOp .neq t x y t',ty,ps,af,gd⟩).run P w=.ok (.value (.bool false)) w:=by
 rw[Q6 hx hy,decide_eq_false (fun e=>e h)]
theorem Qea (hx:ev f x=.int k a) (hy:ev f y=.int k b) (h:a≠b):(execOp (ev f) ⟨d,.binOp .neq t x y t',ty,ps,af,gd⟩).run P w=.ok (.value (.bool true)) w:=by
 rw[Q6 hx hy,decide_eq_true h]
theorem xat {t e bys:Nat}{z:Value}[Sl P t e 1 bys z] {L:LN}{us:LV}{u:Value}{ad:Addr}{n c i:Nat}{kk:IntKind}(h:At L w.heap ad us) (hv:ev f x=.slice (some ad) n c) (hy:ev f y=.int kk (i:Int)) (hi:i<n) (hu:us[i]?=some u)
  (hK:∀a',At L w.heap a' [u]→XL P ops K l (QU f d (.pointer (some a'))) w) (hg:ZZ ops f ⟨d,.indexAddr t x y,ty,ps,af,gd⟩=true:=by rfl):XL P ops K (⟨d,.indexAddr t x y,ty,ps,af,gd⟩::l) f w:=by
 refine xl hg (xv (YX hv hy (by omega) (by omega)) (hK _ ?_))
 have h1:=h.fld i u hu
 simpa using h1
end
end Go.Lg
namespace Go.Proofs.YtgmifemhkjdblaaGreatDoor
open Go.Lg
structure LwV where
 ns:LN
 ct:Nat
 ad:Option Addr
 n:Nat
 cp:Nat
 x0:Nat
 x1:Nat
 cl:Nat
abbrev X8 (l:LwV):LV:=bys l.ns++[.int .u8 (l.ct:Int),.slice l.ad l.n l.cp,.int .u8 (l.x0:Int),.int .u8 (l.x1:Int),.int .u8 (l.cl:Int)]
structure LwA (w:World) (l:LwV):Prop where
 n:l.ns.length=81
 b:∀n∈l.ns,n<256
 ct:l.ct<256
 x0:l.x0<256
 x1:l.x1<256
 cl:l.cl<256
 r:l.n≤3→∃rs:List PtV,rs.length=l.n∧Zs [] w.heap (.slice l.ad l.n l.cp) l.n 28 (rs.flatMap Ye)
def LwV.ln (l:LwV) (rs:List PtV):LnV:=⟨l.ns,l.ct,.slice l.ad l.n l.cp,rs,l.x0,l.x1,l.cl⟩
theorem LwA.ln {w w':World}{l:LwV}(h:LwA w l) (hs:Step [] w w') (hn:l.n≤3):∃rs,LnA [] w'.heap (l.ln rs):=by
 obtain ⟨rs,h1,h2⟩:=h.r hn
 exact ⟨rs,h.n,h.b,h.ct,h.x0,h.x1,h.cl,by show Zs _ _ _ rs.length 28 _;rw[h1];exact h2.ext hs⟩
theorem Qkl {l:LwV}(h:l.ns.length=81):(X8 l)[82]?=some (.slice l.ad l.n l.cp):=by
 show (X8 l)[81+1]?=_
 rw[X8,List.getElem?_append_right (by rw[Yf];omega),Yf,h,Nat.add_sub_cancel_left];rfl
def ByA (w:World) (v:Value):Prop:=∃a n c,v=.slice a n c∧∃bs:LN,bs.length=n∧(∀b∈bs,b<256)∧(0<n→∃ad,a=some ad∧At [] w.heap ad (bys bs))
def Qal (bs:LN) (i:Nat):LI:=(bs.take i).map fun b:Nat=>((b % 5:Nat):Int)
theorem Qcu {bs:LN}{i:Nat}(h:i<bs.length):Qal bs (i+1)=Qal bs i++[((bs.getD i 0 % 5:Nat):Int)]:=by
 unfold Qal
 rw[List.take_succ_eq_append_getElem h,List.map_append,List.map_cons,List.map_nil,List.getD_eq_getElem?_getD,List.getElem?_eq_getElem h];rfl
theorem Qdt {bs:LN}{i:Nat}(h:i≤bs.length):(Qal bs i).length=i:=by unfold Qal;simp;omega
theorem QhK {a:QN}(ho:Q5 a) (x:Int):(enb a x).length≤32:=by
 rw[QaX ho]
 exact Nat.le_trans (List.length_filter_le _ _) ho.al_le
set_option maxRecDepth 100000 in
set_option maxHeartbeats 8000000 in
theorem qB {w:World}{l:LwV}{vb:Value}(hl:LwA w l) (hb:ByA w vb) (e:Int) (hkb:Kb w 4096) :
  QI Tryz.prog 3 [.agg (X8 l).toArray,vb,.int .i64 e] w fun r w'=>r=.bool true∧Step [] w w':=by
 obtain ⟨ba,bn,bc,rfl,bs,hbl,hb256,hbat⟩:=hb
 have g82:=Qkl hl.n
 refine QI.of_W Tryz.func3 rfl Tryz.ntmps3 Tryz.results3 (by simp) ?_
 refine Qc<|xl rfl<|QR (us:=X8 l) rfl fun b3 w1 hs1 hb3 hB3=>Qf ?_
 refine Qg<|QV (α:=Bool) [(28,35)] (fun z=>[(35,.bool z)]) (fun z w'=>Step [] w1 w'∧(z=false→l.n≤3)) (by rfl) ?_ ?_
 ·refine Qw<|xl rfl<|xf<|(UD (hkb.ext hs1)).mono ?_
  rintro r2 w2 ⟨rfl,hs2⟩
  refine x (Zm rfl)<|Qb<|x (Qa rfl)<|x (Qd (hB3.ext hs2) rfl g82)<|x (QbE rfl)<|x (ZI rfl rfl)<|x (Qn rfl)<|xe ?_
  refine ⟨decide ((3:Int)<(l.n:Int)),⟨rfl,trivial⟩,hs2,fun h=>?_⟩
  have:=of_decide_eq_false h
  omega
 rintro z g w2 ⟨hs2,hz⟩
 have hs02:=hs1.trans hs2
 refine QW rfl (fun h35=>?_) (fun h35=>?_)
 ·refine Qc<|xl rfl<|xf<|(UD (hkb.ext hs02)).mono ?_
  rintro r3 w3 ⟨rfl,hs3⟩
  refine Qf ?_
  exact Ql ⟨[_],⟨rfl,trivial⟩,rfl,hs02.trans hs3⟩
 refine Qi ?_
 obtain ⟨rs,hln⟩:=hl.ln hs02 (hz h35)
 refine Qc<|x (Qp (hB3.ext hs2) rfl (QeH (l:=l.ln rs) hl.n))<|xl rfl<|xf<|(QcR hln).mono ?_
 rintro r3 w3 ⟨hs3,_,⟨c,rfl,rfl,hC⟩,hsml⟩
 have hC3:=hC [] (by simp)
 refine xl rfl<|Qu (us:=YK) rfl fun b7 w4 hs4 hb7 hB7=>xl rfl<|Qq (us:=c.cells) hB7 rfl rfl rfl rfl ⟨hC3.ev.arr.one,hC3.co.arr.one,hC3.rq.arr.one,hC3.ex.arr.one,hC3.cs.arr.one,trivial⟩ fun w5 hs5 hB75=>xe ?_
 have hs35:Step [] w3 w5:=hs4.then1 hs5 hb7
 have hs05:=(hs02.trans hs3).trans hs35
 have hC5:=hC3.ext hs35
 have hkb5:=hkb.ext hs05
 refine Qc<|Qf ?_
 refine QV (α:=Value×LI) [(8,9),(39,57)] (fun z=>[(8,z.1)]) (fun z w'=>Step [] w5 w'∧Qs 3 w5.heap.size w' z.1 z.2∧z.2.length≤6) (by rfl) ?_ ?_
 ·refine Qc<|Qf ?_
  refine Qh<|QA (α:=Nat×Value) [(8,9),(39,57)] (fun z=>[(8,z.2),(9,.int .i64 z.1)]) (fun z w'=>z.1≤6∧z.1≤bs.length∧Step [] w5 w'∧Qs 3 w5.heap.size w' z.2 (Qal bs z.1)) (fun z=>6 - z.1) (by rfl) (0,Zc) ⟨rfl,rfl,trivial⟩
   ⟨Nat.zero_le _,Nat.zero_le _,Step.refl _ _,QO _ _ _ _⟩ ?_
  rintro ⟨i,v⟩ g w6 ⟨hi,hib,hs6,ho6⟩
  simp only[] at hi hib ho6
  have hwl:=Qdt hib
  refine Qg<|QV (α:=Unit) [(39,46)] (fun z=>[(46,.bool (decide (i<bn∧i<6)))]) (fun z w'=>w'=w6) (by rfl) ?_ ?_
  ·refine Qw<|Qb<|Qb<|x (QbE rfl)<|xb (QB rfl rfl) (fun h85=>?_) (fun h85=>?_)
   ·refine Qb<|Qb<|x (QB rfl rfl)<|x (Qn rfl)<|xe ?_
    refine ⟨(),⟨congrArg Value.bool ?_,trivial⟩,rfl⟩
    exact decide_eq_decide.2 ⟨fun e=>⟨by omega,by omega⟩,fun e=>by omega⟩
   refine Qb<|xs rfl<|xs rfl<|x (Qn rfl)<|xe ?_
   exact ⟨(),⟨congrArg Value.bool (decide_eq_false (fun e=>h85 (by omega))).symm,trivial⟩,rfl⟩
  rintro _ g7 w7 rfl
  refine QD rfl (fun h46=>?_) (fun h46=>?_)
  ·refine Qy ?_
   exact ⟨(v,Qal bs i),⟨rfl,trivial⟩,hs6,ho6,by simp only[];omega⟩
  have hi1:i<bn:=h46.1
  have hi2:i<6:=h46.2
  have hil:i<bs.length:=by omega
  obtain ⟨ad,hae,hat⟩:=hbat (by omega)
  have hu:=JO (ns:=bs) (j:=i) hil
  have hul:=Jb hb256 i
  have hws:=Qcu hil
  refine Zd (bs.getD i 0) fun m hm=>?_
  rw[hm] at hu hul hws
  refine Qi ?_
  have hat7:=(hat.ext hs05).ext hs6
  refine Qg<|Qh<|Qw<|Qb<|Qb<|Qb<|xat hat7 (show Go.Lg.ev _ _=_ from congrArg (fun a=>Value.slice a bn bc) hae) rfl hi1 hu fun a52 h52=>?_
  refine x (Qv h52 rfl)<|x (VJ (a:=(m:Int)) (b:=5) rfl rfl (by omega) (by omega))<|x (YJ (k':=.i64) rfl ⟨by omega,by omega⟩)<|xl rfl<|QG (us:=[[.int .i64 ((m:Int) % 5)]]) rfl rfl (by decide) (by simp) ⟨rfl,rfl,trivial⟩ fun b56 w8 hs8 hb56 hB56=>?_
  have hz8:=hs8.size
  have hz6:=hs6.size
  refine xl rfl<|Q2 (news:=[.int .i64 ((m:Int) % 5)]) (L:=[]) (Qt ho6 hs8) rfl rfl rfl (hB56.at (by simp)) (by simp[Value.oneCell']) (by omega) (by omega) fun v9 w9 ho9 hs9 hn9 =>
   Qf ?_
  have hge:=Qo ho6
  refine Qw<|Qb<|x (Qx rfl rfl ⟨by omega,by omega⟩)<|Qf ?_
  refine ⟨(i+1,v9),by simp only[];omega,⟨rfl,rfl,trivial⟩,hi2,hil,(hs6.trans hs8).then hs9 (fun b hb=>.inr (hge b hb).1),?_⟩
  simp only[]
  rw[hws]
  exact Qs.snoc ho9
 rintro ⟨vw,u⟩ g6 w6 ⟨hs6,ho6,hul⟩
 simp only[] at ho6 hul
 have hs06:=hs05.trans hs6
 have hC6:=hC5.ext hs6
 have hB76:=hB75.ext hs6
 have hu6:QL [] w6.heap vw u:=Qs.ints ho6 (by omega) (by simp)
 refine Qc<|x (Qp hB76 rfl rfl)<|Qb<|xl rfl<|xf<|(Vi hC6 hu6 (hkb5.ext hs6)).mono ?_
 rintro r7 w7 ⟨hs7,von,rfl,hbad7,hgood7⟩
 refine Qb<|x (Qj rfl rfl)<|x (Qj rfl rfl)<|x Qe<|Qf ?_
 refine Qc<|x (Qp (hB76.ext hs7) rfl rfl)<|Qb<|Qb<|xl rfl<|xf<|(KU (hC6.ext hs7) (hu6.ext hs7) e ((hkb5.ext hs6).ext hs7)).mono ?_
 rintro r8 w8 ⟨hs8,voff,rfl,hbad8,hgood8⟩
 refine Qb<|x (Qj rfl rfl)<|x (Qj rfl rfl)<|x Qe<|Qf ?_
 have hs68:=hs7.trans hs8
 refine Qc<|x (Qp (hB76.ext hs68) rfl rfl)<|xl rfl<|xf<|(JQ (hC6.ext hs68) ((hkb5.ext hs6).ext hs68)).mono ?_
 rintro r9 w9 ⟨hs9,vl,rfl,hbad9,hgood9⟩
 refine Qb<|x (Qj rfl rfl)<|x (Qj rfl rfl)<|x Qe<|Qf ?_
 have hs69:=hs68.trans hs9
 have hps:∃ps:List AV,YG [] w9.heap vl ps∧(∀p∈ps,Q5 p.a)∧(Kc c.cel=0→ps.map (·.a)=YA c.cel):=by
  by_cases h0:Kc c.cel=0
  ·obtain ⟨_,ps,hp,hA⟩:=hgood9 h0
   exact ⟨ps,hA [] (by simp),fun p hp'=>Ue h0 p.a (by rw[←hp];exact List.mem_map_of_mem hp'),fun _=>hp⟩
  ·refine ⟨[],?_,(fun p hp=>(by cases hp)),fun h=>absurd h h0⟩
   rw[hbad9 h0]
   exact ⟨Zs.nil _ _ 4,fun p hp=>(by cases hp)⟩
 obtain ⟨ps,hpA,hpO,hpE⟩:=hps
 have htg:=QdD c.cel
 refine Qc<|Qb<|xl rfl<|xf<|(Vg (km:=4096) hpA ((hkb5.ext hs6).ext hs69) (by decide) (V3 hpO)).mono ?_
 rintro r10 w10 ⟨hs10,vA,vt,e10,rfl,hR⟩
 obtain ⟨aS,xa,xm,xe',qs,rfl,hones,hvt1,hsh⟩:=hR.shape
 have he10:=hR.e
 refine Qb<|x (Qj rfl rfl)<|x (Qj rfl rfl)<|x (Qj rfl rfl)<|xl rfl<|Qu (us:=[nS,.int .i64 0,nS,nS]) rfl fun b16 w11 hs11 hb16 hB16=>xl rfl<|Qq (us:=[xa,.int .i64 aS.st,xm,xe']) hB16 rfl rfl rfl rfl hones fun w12 hs12 hB1612 =>
  x Qe<|Qf ?_
 have hs1012:Step [] w10 w12:=hs11.then1 hs12 hb16
 have hs612:=(hs69.trans hs10).trans hs1012
 have hpm:pmE c.cel u=if Jy c.cel≠0 then Jy c.cel else if gens (YV c.cel) u=true then 0 else 10:=rfl
 have hmr:mrE c.cel u e=if Jy c.cel≠0 then Jy c.cel else if gens (YV c.cel) u=true then ckV (YA c.cel) (mrT c.cel u) e else 10:=rfl
 refine Qg<|QV (α:=Unit) [(82,87)] (fun _=>[(87,.bool (decide (Jy c.cel≠0)))]) (fun _ w'=>w'=w12) (by rfl) ?_ ?_
 ·refine Qw<|Qb<|xb (Q6 rfl rfl) (fun h83=>?_) (fun h83=>?_)
  ·refine Qb<|xs rfl<|xs rfl<|x (Qn rfl)<|xe ?_
   refine ⟨(),⟨congrArg Value.bool (decide_eq_true ?_).symm,trivial⟩,rfl⟩
   rw[htg,if_pos h83];exact h83
  refine Qb<|Qb<|x (Q6 rfl rfl)<|x (Qn rfl)<|xe ?_
  refine ⟨(),⟨congrArg Value.bool (decide_eq_decide.2 ?_),trivial⟩,rfl⟩
  have h0:Kc c.cel=0:=Decidable.not_not.1 h83
  rw[htg,if_neg h83,he10,hpE h0]
 rintro _ g13 w13 rfl
 refine Q3 rfl (fun h87=>?_) (fun h87=>?_)
 ·rw[if_pos h87] at hpm hmr
  refine QV (α:=Unit) [(6,6),(88,93)] (fun _=>[(6,.bool true)]) (fun _ w'=>w'=w13) (by rfl) ?_ ?_
  ·refine Qw<|Qb<|x (Qea rfl rfl (by rw[hpm];exact h87))<|Qb<|Qb<|x (Qea rfl rfl (by rw[hmr];exact h87))<|x (Qn rfl)<|Qf ?_
   exact ⟨(),⟨rfl,trivial⟩,rfl⟩
  rintro _ g14 w14 rfl
  exact Ql ⟨[.bool true],⟨rfl,trivial⟩,rfl,hs06.trans hs612⟩
 rw[if_neg h87] at hpm hmr
 have htg0:Jy c.cel=0:=Decidable.not_not.1 h87
 have hsv0:=(VY htg0).1
 have hsy0:=(VY htg0).2
 have hsyP:=(Kp htg0).1
 have hokA:=(Kp htg0).2
 have he0:e10=0:=by rw[he10,hpE hsv0];exact hsy0
 have hsync:=(hsh he0).1
 have hck:=(hsh he0).2.1
 have hA10:=((hsh he0).2.2 [] (by simp)).1
 have hT10:=((hsh he0).2.2 [] (by simp)).2
 rw[hpE hsv0] at hsync hck
 have hsync2:=(Qbq hsy0).1
 rw[hsync] at hsync2
 have hpair:=Option.some.inj hsync2
 have haS:aS=YV c.cel:=congrArg Prod.fst hpair
 have hqS:qs.map (·.2)=tgQ c.cel:=congrArg Prod.snd hpair
 rw[←haS] at hpm hmr hokA hsyP
 have hA12:=hA10.ext hs1012
 have hu12:=hu6.ext hs612
 have hN6:w6.heap.size≤w7.heap.size:=hs7.size
 have hmt:mrT c.cel u=(tgQ c.cel).getD (flw aS 0 u).1.toNat []:=by unfold mrT;rw[haS]
 have hpl:pmL c.cel u=enb aS (flw aS 0 u).1:=by unfold pmL;rw[haS]
 refine Qi ?_
 refine Qc<|x (Qp hB1612 rfl rfl)<|Qb<|xl rfl<|xf<|(Vj hA12 hu12).mono ?_
 rintro r14 w14 ⟨rfl,hs14⟩
 refine Qb<|x (Qj rfl rfl)<|x (Qj rfl rfl)<|x Qe<|Qf ?_
 refine Qg<|Qc<|Qb<|x (Zm rfl)<|xe ?_
 refine QW rfl (fun h101=>?_) (fun h101=>?_)
 ·have hg:gens aS u=false:=by simpa using h101
  rw[hg,if_neg (by decide)] at hpm hmr
  have hv1:von=nS:=hbad7 (by rw[hpm];decide)
  have hv2:voff=nS:=hbad8 (by rw[hmr];decide)
  refine Qc<|Qb<|x (Qr (Zs.nil [] #[] 1) (show Go.Lg.ev _ _=_ from hv1)) ?_
  refine x (Us rfl rfl rfl) ?_
  refine Qb<|x Qm ?_
  refine x (Us rfl rfl hpm) ?_
  refine x (Qn rfl)<|Qb<|x Qm ?_
  refine x (Qr (Zs.nil [] #[] 1) (show Go.Lg.ev _ _=_ from hv2)) ?_
  refine x (Us rfl rfl rfl) ?_
  refine x (Qn rfl) <|
   Qb<|Qb<|x (Us rfl rfl hmr)<|x (Qn rfl)<|Qf ?_
  exact Ql ⟨[.bool true],⟨rfl,trivial⟩,rfl,(hs06.trans hs612).trans hs14⟩
 have hg:gens aS u=true:=by simpa using h101
 rw[if_pos hg] at hpm hmr
 have hrun:=(JJ hokA hsyP hg).1
 refine Exists.elim (JJ hokA hsyP hg).2 fun j hjj=>?_
 have hj:=hjj.1
 have hfj:=hjj.2
 have hst:=hsyP.st
 have hs614:=hs612.trans hs14
 refine Qi ?_
 refine Qc<|x (Qp (hB1612.ext hs14) rfl rfl)<|Qb<|xl rfl<|xf<|(QfY (hA12.ext hs14) (hu12.ext hs14) 0).mono ?_
 rintro r15 w15 ⟨hs15,hr15⟩
 rw[if_neg (by simpa using hrun)] at hr15
 subst hr15
 refine Qb<|x (Qj rfl rfl)<|x (Qj rfl rfl)<|x (Qj rfl rfl)<|x Qe<|x Qe<|Qf ?_
 have hs1215:=hs14.trans hs15
 have hcks:cks aS (flw aS 0 u).1=0:=by
  unfold cks
  rw[if_neg (by simpa using (Zt _).2 hokA),if_neg (by omega)]
 refine Qc<|x (Qp (hB1612.ext hs1215) rfl rfl)<|Qb<|xl rfl<|xf<|(Jg (hA12.ext hs1215) (flw aS 0 u).1).mono ?_
 rintro r16 w16 ⟨hs16,v16,rfl,_,hgood16⟩
 have ho16:=hgood16 hcks
 have hel:=QhK hokA (flw aS 0 u).1
 refine Qb<|x (Qj rfl rfl)<|x (Qj rfl rfl)<|x Qe<|Qf ?_
 have hs1216:=hs1215.trans hs16
 have hs716:=(((hs8.trans hs9).trans hs10).trans hs1012).trans hs1216
 have hs816:=((hs9.trans hs10).trans hs1012).trans hs1216
 have ho7:=hgood7 hpm
 rw[hpl] at ho7
 have hI7:QL [] w16.heap von (enb aS (flw aS 0 u).1):=(Qs.ints ho7 (by omega) (by simp)).ext hs716
 refine Qg<|QV (α:=Unit) [(131,138)] (fun _=>[(138,.bool false)]) (fun _ w'=>Step [] w16 w') (by rfl) ?_ ?_
 ·refine Qw<|Qb<|Qb<|xl rfl<|xf<|(JW hI7 (Qs.ints (L:=[]) ho16 (by omega) (by simp))).mono ?_
  rintro r17 w17 ⟨hr17,hs17⟩
  rw[decide_eq_true rfl] at hr17
  subst hr17
  refine x (Zm rfl)<|Qb<|Qb<|x (QiL rfl rfl hpm)<|x (Qn rfl)<|xe ?_
  exact ⟨(),⟨rfl,trivial⟩,hs17⟩
 rintro _ g17 w17 hs17
 refine Yz rfl<|Qi ?_
 have hs1217:=hs1216.trans hs17
 have hqj:j<qs.length:=by have:=congrArg List.length hqS;rw[List.length_map] at this;omega
 have hT17:Xd [] w17.heap vt qs:=(hT10.ext hs1012).ext hs1217
 have hmt2:mrT c.cel u=(qs[j]'hqj).2:=by
  rw[hmt,hfj,←hqS]
  simp[List.getD,hqj]
 have hmem:=List.getElem_mem hqj
 refine Zd (qs[j]'hqj) fun tq htq=>?_
 rw[htq] at hmt2 hmem
 have hpA17:YG [] w17.heap vl ps:=((hpA.ext hs10).ext hs1012).ext hs1217
 have hR17:=KP hpA17 (hT17.each tq hmem) e
 rw[hpE hsv0,←hmt2] at hR17
 refine Qc<|Qb<|Qb<|Qb<|Go.Lg.xig (g:=ZY) (i:=j) (fun _=>rfl) hT17.arr rfl (congrArg (Value.int .i64) hfj) hqj fun a143 h143=>?_
 rw[htq] at h143
 refine x (Qv h143 rfl)<|Qb<|xl rfl<|xf<|hR17.mono ?_
 rintro r18 w18 ⟨hs18,v18,rfl,hbad18,hgood18⟩
 refine Qb<|x (Qj rfl rfl)<|x (Qj rfl rfl)<|x Qe<|Qf ?_
 have hs1218:=hs1217.trans hs18
 have hs818:=hs816.trans (hs17.trans hs18)
 have hfin:∃l1,QL [] w18.heap voff l1∧QL [] w18.heap v18 l1:=by
  by_cases hc0:ckV (YA c.cel) (mrT c.cel u) e=0
  ·have h1:=hgood8 (hmr.trans hc0)
   have h2:=hgood18 hc0
   have h3:(rfL (YA c.cel) (mrT c.cel u) e).length≤12:=by
    have h4:=Qbz (YA c.cel) (mrT c.cel u) e (YA c.cel).length
    have h5:(YA c.cel).length≤12:=by
     unfold JM at hck
     split at hck
     ·cases hck
     ·omega
    show (rfN _ _ _ _).length≤12
    omega
   have h6:mrL c.cel u e=rfL (YA c.cel) (mrT c.cel u) e:=rfl
   rw[h6] at h1
   exact ⟨_,(Qs.ints (L:=[]) h1 (by omega) (by simp)).ext hs818,Qs.ints (L:=[]) h2 (by omega) (by simp)⟩
  ·have h1:=hbad8 (by rw[hmr];exact hc0)
   have h2:=hbad18 hc0
   rw[h1,h2]
   exact ⟨[],XC _ _,XC _ _⟩
 refine Exists.elim hfin fun l1 hll=>?_
 have hl1:=hll.1
 have hl2:=hll.2
 refine Qc<|Qb<|Qb<|xl rfl<|xf<|(JW hl1 hl2).mono ?_
 rintro r19 w19 ⟨hr19,hs19⟩
 rw[decide_eq_true rfl] at hr19
 subst hr19
 refine Qb<|Qb<|Qb<|x (Us rfl rfl hmr)<|x (Qn rfl)<|Qf ?_
 exact Ql ⟨[.bool true],⟨rfl,trivial⟩,rfl,((hs06.trans hs612).trans hs1218).trans hs19⟩
open Go.RowKit
theorem YE {a b:Bool}(h1:a=true) (h2:b=true):(a && b)=true:=by rw[h1,h2];rfl
theorem yh {P:Program} {f:FuncId} {fn:Func} {s:ChangeSpec} {c:OpenClaim} (h1:(c.wf (OpenSpec.ofChange s))=true) (h2:(laidOutB P)=true) (h3:(mapsRowed P)=true) (h4:(fn.params.all (P.readableRec ·))=true) (h5:(namedTie P c.named s.vars)=true) (h6:((c.stops == []))=true) (h7:((P.stops == []))=true) (h8:((c.knobs == []))=true) (h9:((P.stopKnobs == []))=true) (h10:((c.inPlace == P.inPlace f))=true) (h11:((c.unfollowed == P.unfollowed f))=true) (h12:((c.recurses == P.recurses f))=true) (h13:((c.named == P.varsNamed f))=true) (h14:((c.maps == (fn.params.toList++s.plain.varTypes P).any (P.mapsRec ·)))=true) (h15:((c.ifaces == (fn.params.toList++s.plain.varTypes P).any (P.ifacesRec ·)))=true) (h16:((c.mapsOut == P.mapsAmong fn.resultTypes.toList))=true) (h17:((c.loops == (fn.params.toList++s.plain.varTypes P).any (P.loopsFrom ·)))=true) (h18:((c.wideKeys == (fn.params.toList++s.plain.varTypes P++fn.resultTypes.toList).any (P.wideKeysFrom ·)))=true) (h19:(s.vars.all (P.varReadable ·))=true) (h20:(fn.resultTypes.all (fun t=>P.readableRec t && decide (t<P.types.size)))=true) (h21:((c.ifacesOut == fn.resultTypes.toList.any (P.ifacesRec ·)))=true) (h22:((c.loopsOut == fn.resultTypes.toList.any (P.loopsFrom ·)))=true) (h23:((c.plainKeys == P.plainKeys))=true) (h24:(c.shortTexts.isNone)=true) (h25:(P.stopsHeard)=true) (h26:(P.mayEnter)=true) (h27:((c.lifted == P.liftsFinal))=true) (h28:((P.make == some c.make))=true) (h29:((c.kinds == (if c.domain.isEmpty then [] else fn.params.toList.map fun t=>match P.underlying t with | some (.int k)=>some k | _=>none)))=true) (h30:((c.pinned == c.pinnedBy))=true) (h31:((c.veiled == (fn.params.toList++s.plain.varTypes P++fn.resultTypes.toList).any (P.veiledRec ·)))=true) (h32:(c.veiledFits P fn.params.toList (fn.params.toList++s.plain.varTypes P++fn.resultTypes.toList))=true):joinedFacts P f fn s c=true:=by
 unfold joinedFacts
 exact (YE (YE (YE (YE (YE (YE (YE (YE (YE (YE (YE (YE (YE (YE (YE (YE (YE (YE (YE (YE (YE (YE (YE (YE (YE (YE (YE (YE (YE (YE (YE h1 h2) h3) h4) h5) h6) h7) h8) h9) h10) h11) h12) h13) h14) h15) h16) h17) h18) h19) h20) h21) h22) h23) h24) h25) h26) h27) h28) h29) h30) h31) h32)
theorem UE:laidOutB Tryz.prog=true:=by kernel_rfl
theorem QeN:mapsRowed Tryz.prog=true:=by kernel_rfl
theorem QeP:Tryz.prog.stopsHeard=true:=by kernel_rfl
theorem QeQ:Tryz.prog.mayEnter=true:=by kernel_rfl
theorem QeO:(false == Tryz.prog.liftsFinal)=true:=by kernel_rfl
theorem Qhc:(Tryz.prog.make == some Make.cut)=true:=by kernel_rfl
theorem Qhg:(Rows.modularPermitsRow.inPlace == Tryz.prog.inPlace 3)=true:=by kernel_rfl
theorem Qhf:(Rows.modularPermitsRow.unfollowed == Tryz.prog.unfollowed 3)=true:=by kernel_rfl
theorem Qhe:(Rows.modularPermitsRow.recurses == Tryz.prog.recurses 3)=true:=by kernel_rfl
theorem Qhd:(Rows.modularPermitsRow.named == Tryz.prog.varsNamed 3)=true:=by kernel_rfl
end Go.Proofs.YtgmifemhkjdblaaGreatDoor
namespace Go.Lg
open Go.ChangeShapes Go.WideShapes Go.RowKit
section
variable {H:Type} {enc:TypeId×Value→H} {P:Program}
theorem zt (hl:laidOutB P=true) {W W':World}(hS:Step [] W W') {sp:Nat→Bool}:∀{ts:List TypeId}{vs:LV}{ds:List (DataW H)}{ps:List MemPlace},
  (ts.all fun t=>P.readableRec t && decide (t<P.types.size))=true→DataW.TrodAll enc P W 0 (fun _=>true) true ts vs ds ps→(∀x∈ps,x.block<W.heap.size)→(∀x∈ps,sp x.block=true)→DataW.TrodAll enc P W' 0 sp true ts vs ds ps
 | [],vs,ds,ps,_,h,_,_=>by
  obtain ⟨rfl,rfl,rfl⟩:=trodAll_nil h
  exact trodAll_mk0
 | t::ts,vs,ds,ps,hr,h,hlt,hsp=>by
  obtain ⟨v,vs1,d,yC,a,b,rfl,rfl,rfl,h1,h2⟩:=trodAll_cons h
  simp only[List.all_cons,Bool.and_eq_true,decide_eq_true_eq] at hr
  have hb:Below W.heap.size W W':=hS.below
  refine trodAll_cons_mk (WideElems.Trod_stays hl hr.1.1 hr.1.2 h1 (fun x hx=>hb.same (hlt x (List.mem_append_left _ hx))) (fun x hx=>hsp x (List.mem_append_left _ hx))) ?_
  exact zt hl hS (by simpa using hr.2) h2 (fun x hx=>hlt x (List.mem_append_right _ hx)) (fun x hx=>hsp x (List.mem_append_right _ hx))
theorem QeL {f:Func}{s:ChangeSpec}{apart fresh handsOn again:Bool}{W W':World}{args:Array Value}{ds gs:List (DataW H)}{before:List MemPlace}{tb:TypeId}
  (hl:laidOutB P=true) (hread:(f.params.toList.all fun t=>P.readableRec t && decide (t<P.types.size))=true) (hrt:f.resultTypes=#[tb]) (htb:P.underlying tb=some .bool) (hvr:s.vars=[])
  (hfn:s.fn H (ds++gs)={ results:=[.lit (.bool true)],args:=ds })
  (hW:DataW.Whole enc P f.params.toList s.vars apart W args.toList ds gs before) (hS:Step [] W W'):s.post enc P f apart fresh handsOn again W args (.bool true) W':=by
 have hlt:=hW.lt
 have hW':=hW
 obtain ⟨p,q,hA,hV,rfl,hz,hn⟩:=hW
 rw[hvr] at hV
 obtain ⟨rfl,rfl⟩:=trodVars_none hV
 rw[List.append_nil] at *
 have hargs:∀sp:Nat→Bool,(∀x∈p,sp x.block=true)→DataW.TrodAll enc P W' 0 sp true f.params.toList args.toList ds p:=fun sp hsp=>zt hl hS hread hA hlt hsp
 have hres:∀(b:Nat) (sp:Nat→Bool) (hd:Bool),DataW.TrodAll enc P W' b sp hd f.resultTypes.toList ((Value.bool true).resultList f.resultTypes.size) [.lit (.bool true)] []:=fun b sp hd=>by
  rw[hrt];exact trodAll_mk1 (shut_bool htb true)
 have hb:Below W.heap.size W W':=hS.below
 have hvars:∀sp:Nat→Bool,DataW.TrodVars enc P W' sp s.vars ([]:List (DataW H)) []:=fun sp=>by rw[hvr];rfl
 have hfn1:(s.fn H ds).results=[.lit (.bool true)]:=by rw[hfn]
 have hfn2:(s.fn H ds).args=ds:=by rw[hfn]
 have hfn3:(s.fn H ds).vars=[]:=by rw[hfn]
 have hok:∀(j:Nat) (t:TypeId) (r:Value),f.resultTypes[j]?=some t→((Value.bool true).resultList f.resultTypes.size)[j]?=some r→Value.okWide P W' .any 0 t r:=ok_one hrt rfl (okWide_bool_mk htb true)
 refine ⟨ds,[],p,[],p,[],hW',?_,?_,?_,?_,fun _=>⟨hok,[.lit (.bool true)]++ds,[],([]++p)++[],⟨[]++p,[],?_,?_,rfl,?_,?_⟩,?_⟩⟩
 ·rw[List.append_nil,hfn1];exact hres _ _ _
 ·rw[List.append_nil,hfn2];exact hargs _ (fun x hx=>by simpa using hlt x hx)
 ·rw[List.append_nil,hfn3];exact hvars _
 ·exact World.keptBut_mono (fun _ f=>f.elim) (hb.frame (fun _=>False))
 ·exact trodAll_append (hargs _ (fun _ _=>rfl)) (hres _ _ _)
 ·exact hvars _
 ·intro b off hp
  have hp':MemPlace.cell b off∈p:=by simpa using hp
  rw[hb.frozen (p:=⟨b,off,none⟩) (hlt _ hp')]
  exact hz b off hp'
 ·intro ha
  have:=hn ha
  simpa using this
 ·intro x hx _
  simpa using hx
end
end Go.Lg
namespace Go.Proofs.YtgmifemhkjdblaaGreatDoor
open Go.ChangeShapes Go.WideShapes Go.RowKit Go.Lg
theorem Qa7:∀(l:LV),(∀v∈l,∃n:Nat,v=.int .u8 (n:Int)∧n<256)→∃ns:LN,l=bys ns∧ns.length=l.length∧∀n∈ns,n<256
 | [],_=>⟨[],rfl,rfl,by simp⟩
 | v::l,h=>by
  obtain ⟨n,rfl,hn⟩:=h v List.mem_cons_self
  obtain ⟨ns,h1,h2,h3⟩:=Qa7 l (fun v hv=>h v (List.mem_cons_of_mem _ hv))
  refine ⟨n::ns,by rw[h1];rfl,by simp[h2],fun m hm=>?_⟩
  rcases List.mem_cons.1 hm with rfl | hm
  ·exact hn
  ·exact h3 m hm
theorem At.of_cell {w:World}{a:Addr}{u:Value}(h:w.cell? a=some u):At [] w.heap a [u]:=by
 have hc:cel w.heap a=some u:=h
 refine ⟨by simp,?_,fun j v hv=>?_⟩
 ·unfold cel at hc
  cases hb:w.heap[a.block]? with
  | none=>rw[hb] at hc;cases hc
  | some o=>exact (Array.getElem?_eq_some_iff.1 hb).1
 ·cases j with
  | zero=>simp at hv;subst hv;rw[show a.add 0=a by simp[Addr.add]];exact hc
  | succ j=>simp at hv
theorem Qan {n:Int}(h:(Lit.int .u8 n).wf=true):∃m:Nat,n=m∧m<256:=by
 simp only[Lit.wf,Bool.and_eq_true,decide_eq_true_eq] at h
 rw[show IntKind.u8.min=0 from rfl,show IntKind.u8.max=255 from rfl] at h
 exact ⟨n.toNat,by omega,by omega⟩
theorem jU {H:Type}{enc:TypeId×Value→H}{P:Program}{W:World}{base:Nat}{sp:Nat→Bool}{held:Bool}{t e:TypeId}{ad:Option Addr}{nb cb:Nat}{d:DataW H}{ps:List MemPlace}(ht:P.underlying t=some (.slice e)) (he:P.underlying e=some (.int .u8)) (hc:P.cellsOf e=1)
  (h:DataW.Trod enc P W base sp held t (.slice ad nb cb) d ps) (m:Nat) :
  ∃ms:LN,ms.length=min nb m∧(∀k (hk:k<ms.length),∃a,ad=some a∧At [] W.heap (a.add (k*1)) [.int .u8 ((ms[k]'hk:Nat):Int)])∧∀n∈ms,n<256:=by
 obtain ⟨fuel,hf⟩:=h
 rcases open_ints ht he hc hf with ⟨hcs,_⟩ | ⟨a,len,cap,zs,hcs,_,hl,_,hz,_,hcell,hwz⟩
 ·simp[Value.cells] at hcs
  obtain ⟨rfl,rfl,rfl⟩:=hcs
  exact ⟨[],by simp,fun k hk=>by simp at hk,by simp⟩
 ·simp[Value.cells] at hcs
  obtain ⟨rfl,rfl,rfl⟩:=hcs
  have hzl:nb≤zs.length:=by rw[hz];split <;> omega
  have hget:∀k,k<min nb m→∃n:Nat,zs.getD k 0=(n:Int)∧n<256:=fun k hk=>Qan (hwz _ (by simp[List.getD,show k<zs.length by omega]))
  refine ⟨(zs.take (min nb m)).map Int.toNat,by simp;omega,fun k hk=>⟨a,rfl,?_⟩,fun n hn=>?_⟩
  ·have hk':k<min nb m:=by simp at hk;omega
   obtain ⟨n,hn,_⟩:=hget k hk'
   have h1:=hcell k (by omega)
   rw[hn] at h1
   have e1:(((zs.take (min nb m)).map Int.toNat)[k]'hk:Nat)=n:=by
    rw[List.getElem_map,List.getElem_take]
    have:zs[k]'(by omega)=zs.getD k 0:=by simp[List.getD,show k<zs.length by omega]
    rw[this,hn];rfl
   rw[e1,Nat.mul_one]
   exact At.of_cell h1
  ·obtain ⟨z,hz',rfl⟩:=List.mem_map.1 hn
   obtain ⟨n,rfl,hn2⟩:=Qan (hwz z (List.mem_of_mem_take hz'))
   simpa using hn2
theorem QiH {w:World}{b:Nat}{s:TypeId×Nat}(h:w.shape? b=some s):b<w.heap.size:=by
 unfold World.shape? at h
 cases hb:w.heap[b]? with
 | none=>simp[hb] at h
 | some o=>exact (Array.getElem?_eq_some_iff.1 hb).1
theorem Qhn {P:Program}{w:World}{base:Nat}{a:Addr}{e:TypeId}{n:Nat}(h:w.has P .any base a e n):a.block<w.heap.size:=by
 obtain ⟨_,_,row,cells,h1,_⟩:=h
 exact QiH h1
theorem QgA {P:Program}{w:World}{base:Nat}{t e:TypeId}{a:Addr}{n c:Nat}(ht:P.underlying t=some (.slice e)) (h:Cell.okWide P w .any base t (.slice (some a) n c)):a.block<w.heap.size:=by
 simp only[Cell.okWide,Cell.ok,ht] at h
 exact Qhn h.2.2
theorem QeF {α:Type}{p:Nat→α→Prop}:∀(n:Nat),(∀i,i<n→∃e,p i e)→∃l:List α,l.length=n∧∀i (h:i<l.length),p i (l[i]'h)
 | 0,_=>⟨[],rfl,fun i h=>by simp at h⟩
 | n+1,h=>by
  obtain ⟨l,h1,h2⟩:=QeF n (fun i hi=>h i (by omega))
  obtain ⟨e,he⟩:=h n (by omega)
  refine ⟨l++[e],by simp[h1],fun i hi=>?_⟩
  by_cases hil:i<l.length
  ·rw[List.getElem_append_left hil];exact h2 i hil
  ·have:i=n:=by simp at hi;omega
   subst this
   rw[List.getElem_append_right (by omega)]
   simpa[h1] using he
theorem Uz {α:Type}{f:α→Option Value}:∀{L:List α}{l:LV},L.mapM f=some l→l.length=L.length∧∀(i:Nat) (a:α),L[i]?=some a→f a=l[i]?
 | [],l,h=>by
  simp at h
  subst h
  exact ⟨rfl,fun i a h=>by simp at h⟩
 | x::L,l,h=>by
  simp only[List.mapM_cons,Option.bind_eq_bind,Option.pure_def,Option.bind_eq_some_iff] at h
  obtain ⟨v,hv,l1,h1,h2⟩:=h
  cases h2
  obtain ⟨h3,h4⟩:=Uz h1
  refine ⟨by simp[h3],fun i a hi=>?_⟩
  cases i with
  | zero=>simp at hi;subst hi;simpa using hv
  | succ i=>simpa using h4 i a (by simpa using hi)
def kT (P:Program) (k:IntKind):Nat→TypeId→Bool
 | 0,_=>false
 | m+1,t=>match P.underlying t with
  | some (.int k')=>k' == k
  | some (.array n e)=>kT P k m e && decide (0<P.cellsOf e) && decide (P.cellsOf t=n*P.cellsOf e)
  | some (.struct fs)=>(List.range (P.cellsOf t)).all fun j=>fs.toList.any fun f=>kT P k m f.type && decide (f.offset≤j∧j<f.offset+P.cellsOf f.type)
  | _=>false
theorem yt {cs:LV}{o n j:Nat}{c:Value}(h:cs[j]?=some c) (h1:o≤j) (h2:j<o+n):c∈(cs.drop o).take n:=by
 refine List.mem_of_getElem? (i:=j - o) ?_
 rw[List.getElem?_take,if_pos (by omega),List.getElem?_drop,show o+(j - o)=j by omega]
 exact h
section
variable {H:Type} {enc:TypeId×Value→H} {P:Program} {W:World} {base b0:Nat} {sp:Nat→Bool} {held:Bool}
theorem KY {k:IntKind}:∀(m:Nat) {t:TypeId}{cs:LV}{fuel:Nat}{x:DataW H×List MemPlace},kT P k m t=true→DataW.trod enc P W b0 sp held fuel t cs=some x→∀c∈cs,∃n,c=.int k n∧(Lit.int k n).wf=true
 | 0,_,_,_,_,h,_,_,_=>by cases h
 | m+1,t,cs,fuel,x,h,hf,c,hc=>by
  unfold kT at h
  obtain ⟨j,hj,hjc⟩:=List.getElem_of_mem hc
  have hj':cs[j]?=some c:=by rw[List.getElem?_eq_getElem hj,hjc]
  split at h
  ·rename_i k' hu
   have hk:k'=k:=by simpa using h
   subst hk
   obtain ⟨n,h1,_,h2⟩:=DataW.trod_int hu hf
   rw[h1] at hc
   exact ⟨n,List.mem_singleton.1 hc,h2⟩
  ·rename_i n e hu
   simp only[Bool.and_eq_true,decide_eq_true_eq] at h
   obtain ⟨⟨h1,h2⟩,h3⟩:=h
   obtain ⟨xs,m',_,_,hl,hxl,hx⟩:=DataW.trod_array hu hf
   have hdiv:=Nat.div_add_mod j (P.cellsOf e)
   have hmod:=Nat.mod_lt j h2
   have hi:j / P.cellsOf e<n:=by
    refine (Nat.div_lt_iff_lt_mul h2).2 ?_
    omega
   have hxi:=hx (j / P.cellsOf e) hi
   rw[List.getElem?_eq_getElem (show j / P.cellsOf e<xs.length by omega)] at hxi
   rw[Nat.mul_comm] at hdiv
   exact KY m h1 hxi c (yt hj' (by omega) (by omega))
  ·rename_i fs hu
   obtain ⟨xs,m',_,_,hl,hxl,hx⟩:=DataW.trod_struct hu hf
   have h1:=List.all_eq_true.1 h j (List.mem_range.2 (by omega))
   obtain ⟨f,hfm,h2⟩:=List.any_eq_true.1 h1
   simp only[Bool.and_eq_true,decide_eq_true_eq] at h2
   obtain ⟨i,hi,hif⟩:=List.getElem_of_mem hfm
   have hi2:i<fs.size:=by simpa using hi
   have hfi:fs[i]?=some f:=by rw[Array.getElem?_eq_getElem hi2,←hif];simp
   have hxi:=hx i f hfi
   rw[List.getElem?_eq_getElem (show i<xs.length by omega)] at hxi
   exact KY m h2.1 hxi c (yt hj' h2.2.1 h2.2.2)
  ·cases h
theorem K6 {k:IntKind}{m:Nat}{fs:Array Field}{cs:LV}{xs:List (DataW H×List MemPlace)}{m':Nat}(hxl:xs.length=fs.size)
  (hx:∀(i:Nat) (f:Field),fs[i]?=some f→DataW.trod enc P W b0 sp held m' f.type ((cs.drop f.offset).take (P.cellsOf f.type))=xs[i]?) {i j:Nat} {f:Field} {c:Value} (hf:fs[i]?=some f) (hk:kT P k m f.type=true) (h1:f.offset≤j) (h2:j<f.offset+P.cellsOf f.type) (hc:cs[j]?=some c) :
  ∃n,c=.int k n∧(Lit.int k n).wf=true:=by
 have hxi:=hx i f hf
 have hi:i<fs.size:=(Array.getElem?_eq_some_iff.1 hf).1
 rw[List.getElem?_eq_getElem (show i<xs.length by omega)] at hxi
 exact KY m hk hxi c (yt hc h1 h2)
theorem Vm {c:Value}(h:∃n,c=.int .u8 n∧(Lit.int .u8 n).wf=true):∃n:Nat,c=.int .u8 (n:Int)∧n<256:=by
 obtain ⟨n,rfl,h1⟩:=h
 obtain ⟨m,rfl,h2⟩:=Qan h1
 exact ⟨m,rfl,h2⟩
theorem Qjz {t e:TypeId}{c:Value}{fuel:Nat}{x:DataW H×List MemPlace}(ht:P.underlying t=some (.slice e)) (he:kT P .u8 5 e=true) (hc:P.cellsOf e=28)
  (hok:Cell.okWide P W .any base t c) (htr:DataW.trod enc P W b0 sp held fuel t [c]=some x):∃a n cp,c=.slice a n cp∧(n≤12→∃u:List PtV,u.length=n∧Zs [] W.heap (.slice a n cp) n 28 (u.flatMap Ye)):=by
 rcases DataW.trod_slice ht htr with ⟨hcs,_⟩ | ⟨a,len,cap,elems,rest,m,_,hcs,_,_,hl,_,hel,hread,_,_⟩
 ·simp at hcs
  subst hcs
  exact ⟨none,0,0,rfl,fun _=>⟨[],rfl,Zs.nil _ _ _⟩⟩
 ·simp at hcs
  subst hcs
  refine ⟨some a,len,cap,rfl,fun h12=>?_⟩
  have each:∀i,i<len→∃d:PtV,∀r v,(Ye d)[r]?=some v→W.cell? (a.add (i*28+r))=some v:=by
   intro i hi
   have hr:=hread i hi
   rw[hc,List.getElem?_eq_getElem (show i<elems.length by omega)] at hr
   obtain ⟨cs,hcs,htd⟩:=Option.bind_eq_some_iff.1 hr
   have hall:=KY 5 he htd
   obtain ⟨ns,h1,h2,h3⟩:=Qa7 cs (fun v hv=>Vm (hall v hv))
   unfold World.cells? at hcs
   split at hcs
   ·have hlen:cs.length=28:=by
     simpa using (Uz hcs).1
    refine ⟨⟨ns,by omega,h3⟩,fun r v hv=>?_⟩
    have hv':cs[r]?=some v:=by rw[h1];exact hv
    have hrl:r<28:=by have:=(List.getElem?_eq_some_iff.1 hv').1;omega
    have h4:=(Uz hcs).2 r r (by simp[hrl])
    rw[Lg.Addr.add_add,hv'] at h4
    exact h4
   ·cases hcs
  obtain ⟨u,hul,hu⟩:=QeF len each
  refine ⟨u,hul,?_⟩
  have hfl:(u.flatMap Ye).length=u.length*28:=Qe6 Ye 28 z1 u
  refine ⟨by rw[hfl,hul],by omega,.inr ⟨a,cap,rfl,by omega,by simp,QgA ht hok,fun j v hv=>?_⟩⟩
  have hj:j<u.length*28:=by
   rw[←hfl]
   exact (List.getElem?_eq_some_iff.1 hv).1
  have hi:j / 28<u.length:=by omega
  have hat:=Jc Ye 28 z1 u (j / 28) hi
  have hjr:j=j / 28*28+j % 28:=by omega
  have h3:(Ye (u[j / 28]'hi))[j % 28]?=some v:=by
   rw[←hat,List.getElem?_take,if_pos (Nat.mod_lt _ (by omega)),List.getElem?_drop,←hjr];exact hv
  rw[←YS]
  have:=hu (j / 28) hi (j % 28) v h3
  rw[←hjr] at this
  exact this
end
theorem Qkh {P:Program}{W:World}{base:Nat}{ts:List TypeId}{cs:Array Value}(h:∀(i:Nat) (v:Value),cs[i]?=some v→∃u,ts[i % ts.length]?=some u∧Cell.okWide P W .any base u v) (i:Nat) (t:TypeId) (v:Value) (hv:cs[i]?=some v) (ht:ts[i % ts.length]?=some t):Cell.okWide P W .any base t v:=by
 obtain ⟨u,hu,k⟩:=h i v hv
 rw[ht] at hu
 cases hu
 exact k
theorem Qja {H:Type}{enc:TypeId×Value→H}{P:Program}{W:World}{b0 m:Nat}{sp:Nat→Bool}{held:Bool}{fs:Array Field}{cs:LV}{xs:List (DataW H×List MemPlace)}
  (h:∀(i:Nat) (f:Field),fs[i]?=some f→DataW.trod enc P W b0 sp held m f.type ((cs.drop f.offset).take (P.cellsOf f.type))=xs[i]?) (i:Nat) {f:Field} {t o:Nat} {c:Value} (hf:fs[i]?=some f) (ht:f.type=t) (ho:f.offset=o) (hc:P.cellsOf t=1) (hcs:(cs.drop o).take 1=[c]) (hi:i<xs.length) :
  DataW.trod enc P W b0 sp held m t [c]=some (xs[i]'hi):=by
 have e:=h i f hf
 rw[ht,ho,hc,hcs] at e
 rw[e];simp[hi]
section
variable {H:Type} {enc:TypeId×Value→H} {P:Program} {W:World} {base b0:Nat} {sp:Nat→Bool} {held:Bool}
theorem Qdc {v:Value}{d:DataW H}{ps:List MemPlace}{t tp te:Nat}{f0 f1 f2 f3 f4:Field}(hu:P.underlying t=some (.struct #[f0,f1,f2,f3,f4])) (hts':(P.cellTypes P.depth t).map (fun ts=>(ts.length,ts[82]?))=some (86,some tp)) (hc:P.cellsOf t=86)
  (h2t:f2.type=tp) (o0:f0.offset=0) (o1:f1.offset=81) (o2:f2.offset=82) (o3:f3.offset=83) (o4:f4.offset=85) (c0:P.cellsOf f0.type=81) (c1:P.cellsOf f1.type=1) (c2:P.cellsOf tp=1) (c3:P.cellsOf f3.type=2) (c4:P.cellsOf f4.type=1)
  (k0:kT P .u8 5 f0.type=true) (k1:kT P .u8 5 f1.type=true) (k3:kT P .u8 5 f3.type=true) (k4:kT P .u8 5 f4.type=true) (hup:P.underlying tp=some (.slice te)) (hke:kT P .u8 5 te=true) (hce:P.cellsOf te=28)
  (hval:Value.okWide P W .any base t v) (h:DataW.Trod enc P W b0 sp held t v d ps):∃l:LwV,v=.agg (X8 l).toArray∧LwA W l:=by
 simp only[Value.okWide,hu] at hval
 obtain ⟨cs,rfl,hsz,ts,hts,_,hcell⟩:=hval
 rw[hts] at hts'
 have hpr:=Option.some.inj hts'
 have htl:ts.length=86:=congrArg Prod.fst hpr
 have ht82:ts[82]?=some tp:=congrArg Prod.snd hpr
 rw[hc] at hsz
 obtain ⟨l⟩:=cs
 have hl:l.length=86:=hsz
 obtain ⟨fuel,hf⟩:=h
 obtain ⟨xs,m,_,_,_,hxl,hfld⟩:=DataW.trod_struct hu hf
 have hf':∀(i:Nat) (f:Field),(#[f0,f1,f2,f3,f4]:Array Field)[i]?=some f→DataW.trod enc P W b0 sp held m f.type ((l.drop f.offset).take (P.cellsOf f.type))=xs[i]?:=hfld
 have hxl5:xs.length=5:=hxl
 have g0:∀c∈l.take 81,∃n:Nat,c=.int .u8 (n:Int)∧n<256:=fun c hm=>by
  obtain ⟨j,hj,hjc⟩:=List.getElem_of_mem hm
  have hj2:j<81:=by simp at hj;omega
  have hjc':l[j]?=some c:=by
   rw[List.getElem_take] at hjc
   rw[List.getElem?_eq_getElem (by omega),hjc]
  exact Vm (K6 hxl hf' (i:=0) (f:=f0) rfl k0 (by omega) (by omega) hjc')
 obtain ⟨ns,e1,e2,e3⟩:=Qa7 _ g0
 have hnl:ns.length=81:=by rw[e2];simp;omega
 have at5:∀j,j<86→∃c,l[j]?=some c:=fun j hj=>⟨l[j]'(by omega),List.getElem?_eq_getElem (by omega)⟩
 obtain ⟨x81,q81⟩:=at5 81 (by omega)
 obtain ⟨x82,q82⟩:=at5 82 (by omega)
 obtain ⟨x83,q83⟩:=at5 83 (by omega)
 obtain ⟨x84,q84⟩:=at5 84 (by omega)
 obtain ⟨x85,q85⟩:=at5 85 (by omega)
 have hld:l.drop 81=[x81,x82,x83,x84,x85]:=by
  apply List.ext_getElem?
  intro i
  rw[List.getElem?_drop]
  match i with
  | 0=>exact q81
  | 1=>exact q82
  | 2=>exact q83
  | 3=>exact q84
  | 4=>exact q85
  | i+5=>rw[List.getElem?_eq_none (by omega)];rfl
 obtain ⟨ct,rfl,hct⟩:=Vm (K6 hxl hf' (i:=1) (f:=f1) rfl k1 (by omega) (by omega) q81)
 obtain ⟨y0,rfl,hy0⟩:=Vm (K6 hxl hf' (i:=3) (f:=f3) rfl k3 (by omega) (by omega) q83)
 obtain ⟨y1,rfl,hy1⟩:=Vm (K6 hxl hf' (i:=3) (f:=f3) rfl k3 (by omega) (by omega) q84)
 obtain ⟨cl,rfl,hcl⟩:=Vm (K6 hxl hf' (i:=4) (f:=f4) rfl k4 (by omega) (by omega) q85)
 have w82:=Qkh hcell 82 tp x82 (by simpa using q82) (by rw[htl];exact ht82)
 have t82:=Qja (c:=x82) hf' 2 rfl h2t o2 c2 (by rw[←List.drop_drop (i:=1) (j:=81),hld];rfl) (by omega)
 obtain ⟨a,n,cp,rfl,hP⟩:=Qjz hup hke hce w82 t82
 refine ⟨⟨ns,ct,a,n,cp,y0,y1,cl⟩,?_,hnl,e3,hct,hy0,hy1,hcl,fun h3=>hP (by have h4:n≤3:=h3;omega)⟩
 show Value.agg l.toArray=.agg (bys ns++_).toArray
 rw[←e1,←hld,List.take_append_drop]
theorem Qdd {t e:TypeId}{ad:Option Addr}{nb cb:Nat}{d:DataW H}{ps:List MemPlace}(ht:P.underlying t=some (.slice e)) (he:P.underlying e=some (.int .u8)) (hc:P.cellsOf e=1)
  (h:DataW.Trod enc P W b0 sp held t (.slice ad nb cb) d ps):ByA W (.slice ad nb cb):=by
 obtain ⟨ms,h1,h2,h3⟩:=jU ht he hc h nb
 rw[Nat.min_self] at h1
 refine ⟨ad,nb,cb,rfl,ms,h1,h3,fun h0=>?_⟩
 obtain ⟨a,ha,hA⟩:=h2 0 (by omega)
 refine ⟨a,ha,?_,?_,fun j u hu=>?_⟩
 ·simp
 ·have:=hA.lt;rw[ZT] at this;exact this
 ·have hj:j<ms.length:=by have:=(List.getElem?_eq_some_iff.1 hu).1;rw[Yf] at this;exact this
  obtain ⟨a',ha',hA'⟩:=h2 j hj
  rw[ha] at ha'
  cases ha'
  have h4:=hA'.one
  rw[YS,Nat.mul_one] at h4
  rw[h4]
  rw[JO hj] at hu
  rw[←hu]
  simp[List.getD,hj]
end
set_option maxRecDepth 100000 in
theorem QkD {H:Type}{enc:TypeId×Value→H}{W:World}{base b0:Nat}{sp:Nat→Bool}{held:Bool}{v:Value}{d:DataW H}{ps:List MemPlace}(hval:Value.okWide Tryz.prog W .any base 30 v) (h:DataW.Trod enc Tryz.prog W b0 sp held 30 v d ps) :
  ∃l:LwV,v=.agg (X8 l).toArray∧LwA W l :=
 Qdc Tryz.underlying30 (tp:=27) (by kernel_rfl) (by kernel_rfl) rfl rfl rfl rfl rfl rfl (by kernel_rfl) (by kernel_rfl) (by kernel_rfl) (by kernel_rfl) (by kernel_rfl) (by kernel_rfl) (by kernel_rfl) (by kernel_rfl) (by kernel_rfl) Tryz.underlying27 (by kernel_rfl) (by kernel_rfl) hval h
theorem Qj5 {W:World}{l:List (String×DataW Unit)}{a b:String×DataW Unit}(hl:l=[a,b,("internal/strconv.uint64pow10",Lib.tabData .u64 Lib.pow10Tab)]) (h:laidMetH Tryz.prog l W) (hp:(l.all fun x=>x.2.handleName?.isNone)=true):Tb W:=by
 rw[Go.MakeChecks.laidMetH_plain _ _ _ hp,hl] at h
 exact Lib.tabIs_of_head (n:=20) (g:=0) (by kernel_rfl) (t:=362) (by kernel_rfl) (by kernel_rfl) (e:=331) (by kernel_rfl) (by kernel_rfl) (by kernel_rfl) h.tail.tail
end Go.Proofs.YtgmifemhkjdblaaGreatDoor
