/- Merged out of 19 texts. -/
import Derived.Test.YtgmifemhkjdblaaGreatDoorKhe
import Derived.Test.YtgmifemhkjdblaaGreatDoorKhc
import Derived.Test.YtgmifemhkjdblaaGreatDoorKhb
import Derived.Laws.IdiomStrings
import Derived.Test.YtgmifemhkjdblaaGreatDoorRows
import Derived.JoinedOf
import Derived.RowKit
import Derived.ProofKit
import Derived.Test.YtgmifemhkjdblaaGreatDoorKha
import Derived.ChangeSame
import Derived.Carry
import Derived.OpenShut
import Derived.ChangeSlices
import Derived.WideShapes
import Derived.ChangeArms
import Derived.Lib.LaidTab
import Derived.Stop.LaidErr
import Derived.MakeChecks
namespace Go.Proofs.YtgmifemhkjdblaaGreatDoor
open Go.Lg
def lgP (N:Nat) (a b:QM) (i:Nat) (v:Value) (w:World):Prop :=
 if i=1 then ∃b1 m1 m2,v=.pointer (some ⟨b1,0,none⟩)∧N≤b1∧N≤m1∧N≤m2∧yL w.heap b1 m1 m2 a
 else if i=3 then ∃b1 m1 m2,v=.pointer (some ⟨b1,0,none⟩)∧N≤b1∧N≤m1∧N≤m2∧yL w.heap b1 m1 m2 b
 else ∃bb,v=.pointer (some ⟨bb,0,none⟩)∧N≤bb∧QS w.heap bb 236 [.pointer none]
theorem Qhu {N:Nat}{a b:QM}:∀i v w w',lgP N a b i v w→Step [] w w'→lgP N a b i v w':=by
 intro i v w w' h hs
 unfold lgP at h ⊢
 split
 ·rename_i h1;rw[if_pos h1] at h
  obtain ⟨b1,m1,m2,e,n1,n2,n3,hM⟩:=h
  exact ⟨b1,m1,m2,e,n1,n2,n3,hM.ext hs⟩
 ·rename_i h1;rw[if_neg h1] at h
  split
  ·rename_i h2;rw[if_pos h2] at h
   obtain ⟨b1,m1,m2,e,n1,n2,n3,hM⟩:=h
   exact ⟨b1,m1,m2,e,n1,n2,n3,hM.ext hs⟩
  ·rename_i h2;rw[if_neg h2] at h
   obtain ⟨bb,e,n1,hB⟩:=h
   exact ⟨bb,e,n1,hB.ext hs⟩
theorem Yl {κ:Type}{enc:κ→Value}{H:Array Obj}{b b' T:Nat}{m:List (κ×Value)}{cs:LV}(h:ZA enc H b m) (hB:QS H b' T cs):b≠b':=by
 intro e
 subst e
 obtain ⟨es,c,h1,_⟩:=h
 unfold QS at hB
 rw[h1] at hB
 cases hB
structure LgZ where
 p1:Nat
 p2:Nat
 p3:Nat
 q1:Nat
 q2:Nat
 q3:Nat
 b10:Nat
 b11:Nat
set_option maxHeartbeats 8000000 in
theorem Qa9 {w:World}{va vm ve wa wm we:Value}{a b:QM}(hA:Zp [] w.heap va vm ve a) (hB:Zp [] w.heap wa wm we b) (kd:Int) :
  QG Tryz.prog 82 [.agg #[va,.int .i64 a.st,vm,ve],.agg #[wa,.int .i64 b.st,wm,we],.int .i64 kd] w fun r w'=>Step [] w w'∧∃v e,r=.tuple #[v,.bool e,.int .i64 (lgE a b kd)] ∧
   (lgE a b kd=0→match lgq a b kd with | none=>v=Za∧e=true | some u=>e=false∧Qs 3 w.heap.size w' v u):=by
 refine Zf (lgE a b kd) fun E hE=>?_
 refine Zf (lgq a b kd) fun R hR=>?_
 rw[hE,hR]
 have onesA:ZB [va,.int .i64 a.st,vm,ve]:=⟨hA.al.one,rfl,hA.mr.one,hA.ed.one,trivial⟩
 have onesB:ZB [wa,.int .i64 b.st,wm,we]:=⟨hB.al.one,rfl,hB.mr.one,hB.ed.one,trivial⟩
 refine QG.of_W Tryz.func82 rfl Tryz.ntmps82 Tryz.results82 (by simp) ?_
 refine Qc<|xl rfl<|QR (us:=[va,.int .i64 a.st,vm,ve]) rfl fun b3 w1 hs1 hb3 hB3=>xl rfl<|QR (us:=[wa,.int .i64 b.st,wm,we]) rfl fun b4 w2 hs2 hb4 hB4=>xl rfl<|QR (us:=[.int .i64 kd]) rfl fun b5 w3 hs3 hb5 hB5=>x Qe <|
  x Qe<|Qf ?_
 have hs03:=(hs1.trans hs2).trans hs3
 have hB33:=(hB3.ext hs2).ext hs3
 have hB43:=hB4.ext hs3
 refine Qg<|Qc<|x (Qd hB5 rfl rfl)<|x (Qq hB33 rfl rfl)<|x (Qq hB43 rfl rfl)<|xl rfl<|QI (us:=[[va,.int .i64 a.st,vm,ve],[wa,.int .i64 b.st,wm,we]]) rfl rfl (by decide) (by simp) ⟨rfl,rfl,rfl,rfl,trivial⟩ fun b17 w4 hs4 hb17 hB17=>?_
 have hs04:=hs03.trans hs4
 have hAu:YJ [] w4.heap (.slice (some ⟨b17,0,none⟩) 2 2) [⟨va,vm,ve,a⟩,⟨wa,wm,we,b⟩]:=⟨hB17.arr (by simp) (n:=2) (cap:=2) (sz:=4) rfl (by omega) (Nat.le_refl _),fun p hp=>by
  simp only[List.mem_cons,List.not_mem_nil,or_false] at hp
  rcases hp with rfl | rfl
  ·exact hA.ext hs04
  ·exact hB.ext hs04⟩
 have hck:=Qba hAu kd
 rw[show [(⟨va,vm,ve,a⟩:AV),⟨wa,wm,we,b⟩].map (·.a)=[a,b] from rfl,QkV,hE] at hck
 refine xl rfl<|xf<|hck.mono ?_
 rintro r5 w5 ⟨rfl,hs5⟩
 refine Qf ?_
 have hs05:=hs04.trans hs5
 have hs35:=hs4.trans hs5
 refine Qc<|Qb<|x (Q6 rfl rfl)<|xe ?_
 refine Q3 rfl (fun h20=>?_) (fun h20=>?_)
 ·refine Qc<|Qb<|x Qe<|x Qe<|Qf ?_
  exact Ql ⟨[Za,.bool false,.int .i64 E],⟨rfl,rfl,rfl,trivial⟩,hs05,Za,false,rfl,fun h0=>absurd h0 h20⟩
 have hE0:E=0:=Decidable.not_not.1 h20
 have hok:Q4 a∧Q4 b:=by
  have h1:lgE a b kd=0:=hE.trans hE0
  unfold lgE at h1
  by_cases h2:Y8 a≠0
  ·rw[if_pos h2] at h1;exact absurd h1 h2
  ·rw[if_neg h2] at h1
   by_cases h3:Y8 b≠0
   ·rw[if_pos h3] at h1;exact absurd h1 h3
   ·exact ⟨(Zt a).1 (Decidable.not_not.1 h2),(Zt b).1 (Decidable.not_not.1 h3)⟩
 refine Qi ?_
 have hB35:=hB33.ext hs35
 have hB45:=hB43.ext hs35
 have hB55:=hB5.ext hs35
 have hA5:=hA.ext hs05
 have hB5':=hB.ext hs05
 refine QV (α:=LgZ) [(22,25),(10,11)] (fun z=>[(10,.pointer (some ⟨z.b10,0,none⟩)),(11,.pointer (some ⟨z.b11,0,none⟩))]) (fun z w'=>Step [] w5 w'∧yL w'.heap z.p1 z.p2 z.p3 a∧yL w'.heap z.q1 z.q2 z.q3 b∧QS w'.heap z.b10 236 [.pointer (some ⟨z.p1,0,none⟩)]∧QS w'.heap z.b11 236 [.pointer (some ⟨z.q1,0,none⟩)]) (by rfl) ?_ ?_
 ·refine QcS (α:=LgZ) (Step [] w5) [(0,true),(2,true)] [1,3,4,5] [(6,false),(7,false)] [(23,23),(25,25),(10,11)] (lgP w5.heap.size a b)
   (fun z=>[(23,.pointer (some ⟨z.p1,0,none⟩)),(25,.pointer (some ⟨z.q1,0,none⟩)),(10,.pointer (some ⟨z.b10,0,none⟩)),(11,.pointer (some ⟨z.b11,0,none⟩))])
   (fun z w'=>yL w'.heap z.p1 z.p2 z.p3 a∧yL w'.heap z.q1 z.q2 z.q3 b∧QS w'.heap z.b10 236 [.pointer none]∧QS w'.heap z.b11 236 [.pointer none]∧(z.b10≠z.b11∧z.p1≠z.b10∧z.p1≠z.b11∧z.q1≠z.b10∧z.q1≠z.b11)∧w5.heap.size≤z.b10∧w5.heap.size≤z.b11)
   Tryz.mixed (by rfl) (by kernel_rfl) (Step.drew _ _) (fun _ _ h1 h2=>h1.trans h2) Qhu ?_ ?_
  ·rintro g w' ⟨⟨p1,p2,p3,e1,_,_,_,hMa⟩,⟨q1,q2,q3,e2,_,_,_,hMb⟩,⟨b10,e3,h10,hb10⟩,⟨b11,e4,h11,hb11⟩,_⟩ hdj
   refine ⟨⟨p1,p2,p3,q1,q2,q3,b10,b11⟩,⟨e1,e2,e3,e4,trivial⟩,hMa,hMb,hb10,hb11,?_,h10,h11⟩
   have d1:=hdj 4 (by simp) 5 (by simp) (by decide)
   have d2:=hdj 1 (by simp) 4 (by simp) (by decide)
   have d3:=hdj 1 (by simp) 5 (by simp) (by decide)
   have d4:=hdj 3 (by simp) 4 (by simp) (by decide)
   have d5:=hdj 3 (by simp) 5 (by simp) (by decide)
   rw[e3,e4] at d1
   rw[e1,e3] at d2
   rw[e1,e4] at d3
   rw[e2,e3] at d4
   rw[e2,e4] at d5
   simp only[ow,List.mem_singleton,forall_eq] at d1 d2 d3 d4 d5
   exact ⟨d1,d2,d3,d4,d5⟩
  ·refine pq (fun _ hc=>Qq (hB35.ext hc) rfl rfl)<|pq (fun _ hc=>Qq (hB45.ext hc) rfl rfl)<|pe ⟨⟨?_,?_,?_,?_,trivial⟩,?_⟩
   ·intro g w' hc
    refine xf<|(zi (hA5.ext hc) hok.1).mono ?_
    rintro r5 w6 ⟨hs6,b1,m1,m2,rfl,n1,n2,n3,hM⟩
    have hz:=hc.size
    exact ⟨hs6,⟨b1,m1,m2,rfl,Nat.le_trans hz n1,Nat.le_trans hz n2,Nat.le_trans hz n3,hM⟩,fun c hc'=>by rw[List.mem_singleton.1 (show c∈[b1] from hc')];exact ⟨n1,hM.B.lt⟩⟩
   ·intro g w' hc
    refine xf<|(zi (hB5'.ext hc) hok.2).mono ?_
    rintro r5 w6 ⟨hs6,b1,m1,m2,rfl,n1,n2,n3,hM⟩
    have hz:=hc.size
    exact ⟨hs6,⟨b1,m1,m2,rfl,Nat.le_trans hz n1,Nat.le_trans hz n2,Nat.le_trans hz n3,hM⟩,fun c hc'=>by rw[List.mem_singleton.1 (show c∈[b1] from hc')];exact ⟨n1,hM.B.lt⟩⟩
   ·intro g w' hc
    exact Qu (us:=[.pointer none]) rfl fun b w5 hs5 hb hB=>⟨hs5,⟨b,rfl,Nat.le_trans hc.size hb,hB⟩,fun c hc'=>by rw[List.mem_singleton.1 (show c∈[b] from hc')];exact ⟨hb,hB.lt⟩⟩
   ·intro g w' hc
    exact Qu (us:=[.pointer none]) rfl fun b w5 hs5 hb hB=>⟨hs5,⟨b,rfl,Nat.le_trans hc.size hb,hB⟩,fun c hc'=>by rw[List.mem_singleton.1 (show c∈[b] from hc')];exact ⟨hb,hB.lt⟩⟩
   rintro ⟨p1,p2,p3,q1,q2,q3,b10,b11⟩ g w6 hc6 ⟨hMa,hMb,hb10,hb11,hne,h10,h11⟩
   simp only[] at hMa hMb hb10 hb11 hne h10 h11
   have k1:=Yl hMa.e hb10
   have k2:=Yl hMa.m hb10
   have k3:=Yl hMb.e hb10
   have k4:=Yl hMb.m hb10
   have j1:=Yl hMa.e hb11
   have j2:=Yl hMa.m hb11
   have j3:=Yl hMb.e hb11
   have j4:=Yl hMb.m hb11
   refine pk<|QF (u:=.pointer (some ⟨p1,0,none⟩)) hb10 rfl rfl (by simp) rfl fun w7 hs7 hb10'=>⟨hc6.then1 hs7 h10,?_⟩
   refine pkl (hl:=by kernel_rfl)<|QF (u:=.pointer (some ⟨q1,0,none⟩)) (hb11.step hs7 (by simp only[List.mem_singleton];exact fun e=>hne.1 e.symm)) rfl rfl (by simp) rfl fun w8 hs8 hb11'=>pe ?_
   have s1:∀{x:Nat},x≠b10→x∉[b10]:=fun h hm=>h (List.mem_singleton.1 hm)
   have s2:∀{x:Nat},x≠b11→x∉[b11]:=fun h hm=>h (List.mem_singleton.1 hm)
   exact ⟨⟨p1,p2,p3,q1,q2,q3,b10,b11⟩,⟨rfl,rfl,trivial⟩,(hc6.then1 hs7 h10).then1 hs8 h11,(hMa.step hs7 (s1 hne.2.1) (s1 k1) (s1 k2)).step hs8 (s2 hne.2.2.1) (s2 j1) (s2 j2),(hMb.step hs7 (s1 hne.2.2.2.1) (s1 k3) (s1 k4)).step hs8 (s2 hne.2.2.2.2) (s2 j3) (s2 j4),hb10'.step hs8 (s2 hne.1),hb11'⟩
 rintro ⟨p1,p2,p3,q1,q2,q3,b10,b11⟩ g w6 ⟨hs6,hMa,hMb,hb10,hb11⟩
 simp only[] at hMa hMb hb10 hb11
 have hs06:=hs05.trans hs6
 have hz06:=hs06.size
 have hB36:=hB35.ext hs6
 have hB46:=hB45.ext hs6
 have hB56:=hB55.ext hs6
 have hd6:Step [] w6 { w6 with drawn:=w6.drawn+1 }:=Step.drew _ _
 have hal:=hA.al.le
 have hbl:=hB.al.le
 have ha32:=hok.1.al_le
 have hb32:=hok.2.al_le
 refine Qg<|QT (Step [] w6) [(0,true),(1,true),(2,true),(3,true),(5,true),(6,true),(7,true),(4,false),(8,false),(9,true),(10,true),(11,true),(12,true),(13,true)] Tryz.mixed (by rfl) (by kernel_rfl) (Step.drew _ _) ?_
 refine p (fun _=>Qa rfl)<|pq (fun _ hc=>Qd (hB36.ext hc) rfl rfl)<|p (fun _=>Qa rfl)<|pq (fun _ hc=>Qd (hB46.ext hc) rfl rfl) <|
  pq (fun _ hc=>Qd (hb10.ext hc) rfl rfl)<|pq (fun _ hc=>Qd (hb11.ext hc) rfl rfl)<|p (fun _=>Zj (l:=[]) (l':=[_,_,_])) <|
  pk<|xf<|(qh ((hA.al.ext hs06).ext hd6) ((hB.al.ext hs06).ext hd6) (by omega)).mono ?_
 rintro r7 w7 ⟨hs7,ho7⟩
 have hs67:=hd6.trans hs7
 have hz67:=hs67.size
 refine ⟨hs67,?_⟩
 have hul:(mrg (· || ·) a.al b.al).length≤64:=by
  have:=KX (· || ·) a.al b.al
  omega
 have hS:=Qc0 (kd:=kd) (g:=134) (cap:=[.pointer (some ⟨b10,0,none⟩),.pointer (some ⟨b5,0,none⟩),.pointer (some ⟨b11,0,none⟩)]) (Qs.ints (L:=[]) ho7 (by omega) (by simp)) (hMa.ext hs67) (hMb.ext hs67) hok.1 hok.2
  (fun s t w8 hs8=>Qe9 ((hb10.ext hs67).ext hs8) ((hb11.ext hs67).ext hs8) ((hB56.ext hs67).ext hs8) ((hMa.ext hs67).ext hs8) ((hMb.ext hs67).ext hs8) s t)
 have hlq:lgL a b kd (mrg (· || ·) a.al b.al) ((a.st.toNat+1)*(b.st.toNat+1)+1) 0 [⟨fst a,fst b,-1,0⟩]=R:=hR
 rw[hlq] at hS
 refine pk<|xf<|hS.mono ?_
 rintro r8 w8 ⟨hs8,hr8⟩
 have hs68:=hs67.trans hs8
 refine ⟨hs68,?_⟩
 have hsh:∃v e,r8=.tuple #[v,.bool e]∧(match R with | none=>v=Za∧(!e)=true | some u=>(!e)=false∧Qs 3 w7.heap.size w8 v u):=by
  cases R with
  | none=>exact ⟨Za,false,hr8,rfl,rfl⟩
  | some u=>obtain ⟨v,h1,h2⟩:=hr8;exact ⟨v,true,h1,rfl,h2⟩
 refine Exists.elim hsh fun v hsh=>Exists.elim hsh fun e hsh=>And.elim (fun hre hsh=>?_) hsh
 refine p (fun _=>Qm)<|p (fun _=>Qj (show ev _ _=_ from hre) rfl)<|p (fun _=>Qj (show ev _ _=_ from hre) rfl)<|p (fun _=>Qe)<|p (fun _=>Qe)<|pe ?_
 refine Qc<|Qb<|Qb<|x (Zo rfl)<|x Qe<|x Qe<|Qf ?_
 refine Ql ⟨[v,.bool (!e),.int .i64 0],⟨rfl,rfl,rfl,trivial⟩,hs06.trans hs68,v,!e,by rw[hE0];rfl,fun _=>?_⟩
 cases R with
 | none=>exact hsh
 | some u=>exact ⟨hsh.1,Zc hsh.2 (by omega)⟩
theorem Qcd (V:List Vs):∀(f k:Nat),(lgW V f k).length≤f
 | 0,_=>Nat.le_refl _
 | f+1,k=>by
  rw[jE]
  split
  ·have:=Qcd V f (gV V k).b.toNat
   simp only[List.length_cons];omega
  ·exact Nat.zero_le _
theorem Qce {a b:QM}{kd:Int}{al:LI}:∀(f i:Nat) (V:List Vs) (u:LI),lgL a b kd al f i V=some u→u.length≤f+i
 | 0,_,_,_,h=>by cases h
 | f+1,i,V,u,h=>by
  rw[lgL] at h
  split at h
  ·split at h
   ·have e:(lgW V (i+1) i).reverse=u:=Option.some.inj h
    rw[←e,List.length_reverse]
    have:=Qcd V (i+1) i;omega
   ·have:=Qce f (i+1) _ u h;omega
  ·cases h
theorem Qht {a b:QM}(ha:Q4 a) (hb:Q4 b) {kd:Int}{u:LI}(h:lgq a b kd=some u):u.length≤17000000:=by
 have h1:=Qce _ _ _ _ h
 have ha1:=ha.st1
 have hb1:=hb.st1
 have hNle:(a.st.toNat+1)*(b.st.toNat+1)≤4097*4097:=Nat.mul_le_mul (by omega) (by omega)
 omega
def cmK (a b:QM) (k:Nat):Option (LI):=(([1,2]:LI).take k).foldl (fun z kd=>cm1 z (lgq a b kd)) none
theorem k12:∀{k:Nat}(h:k<[(1:Int),2].length),[(1:Int),2][k]'h=1∨[(1:Int),2][k]'h=2
 | 0,_=>.inl rfl
 | 1,_=>.inr rfl
 | k+2,h=>absurd h (by simp)
theorem QlG (a b:QM):cmK a b 2=cmW a b:=rfl
theorem jF {a b:QM}(ha:Q4 a) (hb:Q4 b) {kd:Int}(h:kd=1∨kd=2):lgE a b kd=0:=by
 unfold lgE
 rw[if_neg (by simpa using (Zt a).2 ha),if_neg (by simpa using (Zt b).2 hb),if_neg (by omega)]
theorem Qds (c:Zy):cmE c false=if XW c≠0 then XW c else if suE c≠0 then suE c else lgE (Z7 c) (V2 c) 1:=by
 unfold cmE own
 simp
set_option maxRecDepth 4096 in
set_option maxHeartbeats 8000000 in
theorem QbI {L:LN}{w:World}{c:CL}(h0:ZI L w.heap c) (hkb:Kb w 4096) :
  QG Tryz.prog 32 [c.val,.bool false] w fun r w'=>Step [] w w'∧∃v e,r=.tuple #[v,.bool e,.int .i64 (cmE c.cel false)]∧(cmE c.cel false=0→e=(cmW (Z7 c.cel) (V2 c.cel)).isNone):=by
 have h:=h0.up (L':=[]) (by simp)
 have hp:=Qds c.cel
 refine Zf (cmE c.cel false) fun E hE=>?_
 rw[hE] at hp ⊢
 refine QG.of_W Tryz.func32 rfl Tryz.ntmps32 Tryz.results32 (by simp) ?_
 refine Qc<|xl rfl<|QR (us:=c.cells) rfl fun b2 w1 hs1 hb2 hB2=>x Qe<|x Qe<|Qf ?_
 refine Qc<|x (Qq hB2 rfl rfl)<|xl rfl<|xf<|(KZ (h.ext hs1) (hkb.ext hs1)).mono ?_
 rintro r2 w2 ⟨hs2,us,rfl,hul,huo,hgood⟩
 refine Qb<|x (Qj rfl rfl)<|x (Qj rfl rfl)<|xl rfl<|Qu (us:=jw) rfl fun b7 w3 hs3 hb7 hB7=>xl rfl<|Qo (us:=us) hB7 rfl rfl hul rfl huo fun w4 hs4 hB74 =>
  Qf ?_
 have hs24:Step [] w2 w4:=hs3.then1 hs4 hb7
 have hs14:=hs2.trans hs24
 have hs04:=hs1.trans hs14
 refine Qg<|Qc<|Qb<|x (Q6 rfl rfl)<|xe ?_
 refine Q3 rfl (fun h23=>?_) (fun h23=>?_)
 ·rw[if_pos h23] at hp
  subst hp
  refine Qc<|Qb<|x Qe<|x Qe<|Qf ?_
  exact Ql ⟨[Za,.bool false,.int .i64 (XW c.cel)],⟨rfl,rfl,rfl,trivial⟩,hs04,Za,false,rfl,fun h0=>absurd h0 h23⟩
 rw[if_neg h23] at hp
 have he:=Decidable.not_not.1 h23
 obtain ⟨t,ht,hok,hT⟩:=hgood he
 subst ht
 have hT4:qw [] w4.heap t:=(hT [] (by simp)).ext hs24
 obtain ⟨_,hoA⟩:=Ku he
 refine Qi ?_
 refine Qc<|x (Qq (hB2.ext hs14) rfl rfl)<|xl rfl<|xf<|(Kp (h.ext hs04) (hkb.ext hs04)).mono ?_
 rintro r5 w5 ⟨hs5,sa,sm,se,rfl,hone,_,hgood5⟩
 refine Zf (if Y0 c.cel=0 then (V2 c.cel).st else 0) fun M hM=>?_
 rw[hM]
 refine Qb<|x (Qj rfl rfl)<|x (Qj rfl rfl)<|xl rfl<|Qu (us:=[nS,.int .i64 0,nS,nS]) rfl fun b8 w6 hs6 hb8 hB8=>xl rfl<|Qo (us:=[sa,.int .i64 M,sm,se]) hB8 rfl rfl rfl rfl ⟨hone.1,rfl,hone.2.1,hone.2.2.1,trivial⟩ fun w7 hs7 hB87 =>
  Qf ?_
 have hs57:Step [] w5 w7:=hs6.then1 hs7 hb8
 have hs47:=hs5.trans hs57
 have hs07:=hs04.trans hs47
 refine Qg<|Qc<|Qb<|x (Q6 rfl rfl)<|xe ?_
 refine Q3 rfl (fun h31=>?_) (fun h31=>?_)
 ·rw[if_pos h31] at hp
  subst hp
  refine Qc<|Qb<|x Qe<|x Qe<|Qf ?_
  exact Ql ⟨[Za,.bool false,.int .i64 (suE c.cel)],⟨rfl,rfl,rfl,trivial⟩,hs07,Za,false,rfl,fun h0=>absurd h0 h31⟩
 rw[if_neg h31] at hp
 have hsu:=Decidable.not_not.1 h31
 have hoS:=y8 hsu
 have hE0:E=0:=hp.trans (jF hoA hoS (.inl rfl))
 have hMs:M=(V2 c.cel).st:=by rw[←hM,if_pos (show Y0 c.cel=0 from hsu)]
 have hS7:Zp [] w7.heap sa sm se (V2 c.cel):=(hgood5 hsu [] (by simp)).ext hs57
 refine Qi ?_
 refine Qc<|x (Qa rfl)<|x (ZE (us:=[t.va,.int .i64 t.A.st,t.vm,t.ve]) (hB74.ext hs47) rfl rfl rfl)<|xl rfl<|Qu (us:=[nS,.int .i64 0,nS,nS]) rfl fun b9 w8 hs8 hb9 hB9=>xl rfl<|Qo (us:=[t.va,.int .i64 t.A.st,t.vm,t.ve]) hB9 rfl rfl rfl rfl ⟨hT4.a.al.one,rfl,hT4.a.mr.one,hT4.a.ed.one,trivial⟩ fun w9 hs9 hB99 =>
  xe ?_
 have hs79:Step [] w7 w9:=hs8.then1 hs9 hb9
 have hs09:=hs07.trans hs79
 have hB89:=hB87.ext hs79
 have hT9:qw [] w9.heap t:=(hT4.ext hs47).ext hs79
 have hS9:=hS7.ext hs79
 refine QV (α:=Unit) [(4,6),(10,11),(35,55)] (fun z=>[(4,Za)]) (fun z w'=>w'=w9) (by rfl) ?_ ?_
 ·refine Qc<|Qb<|xe ?_
  refine ZZ rfl ?_
  refine Qi ?_
  exact ⟨(),⟨rfl,trivial⟩,rfl⟩
 rintro z g w16 hw16
 subst hw16
 refine Qc<|Qf ?_
 refine Qg<|Qc<|xl rfl<|QI (us:=[[.int .i64 1],[.int .i64 2]]) rfl rfl (by decide) (by simp) ⟨rfl,rfl,rfl,rfl,trivial⟩ fun b56 w17 hs17 hb56 hB56=>?_
 have hI56:QL [] w17.heap (.slice (some ⟨b56,0,none⟩) 2 2) [1,2]:=hB56.arr (by simp) (n:=2) (cap:=2) (sz:=1) rfl (by omega) (Nat.le_refl _)
 refine x (Qr hI56 rfl)<|Qb<|xe ?_
 have hs017:=hs09.trans hs17
 refine Qh<|QA (α:=Nat×Value×Option (LI)) [(4,6),(13,16),(58,84)] (fun z=>[(4,z.2.1),(5,.bool z.2.2.isNone),(58,.int .i64 z.1)]) (fun z w'=>z.1≤2∧Step [] w17 w'∧z.2.2=cmK (Z7 c.cel) (V2 c.cel) z.1∧∀u,z.2.2=some u→Qs 3 w.heap.size w' z.2.1 u∧u.length≤17000000) (fun z=>2 - z.1) (by rfl) (0,Za,none) ⟨rfl,rfl,rfl,trivial⟩
  ⟨Nat.zero_le _,Step.refl _ _,rfl,fun u h=>by cases h⟩ ?_
 rintro ⟨k,v,o⟩ g w18 ⟨hk,hs18,ho,hov⟩
 simp only[] at hk ho hov
 have hs018:=hs017.trans hs18
 have hs918:=hs17.trans hs18
 refine Qc<|x (QB rfl rfl)<|xe ?_
 refine Qg<|QD rfl (fun h59=>?_) (fun h59=>?_)
 ·refine Qz ?_
  have hke:k=2:=by have h16:¬(k:Int)<(2:Nat):=h59;omega
  rw[hke,QlG] at ho
  refine Qc<|Qb<|Qb<|x Qe<|x Qe<|Qf ?_
  exact Ql ⟨[v,.bool o.isNone,.int .i64 0],⟨rfl,rfl,rfl,trivial⟩,hs018,v,o.isNone,by rw[hE0];rfl,fun _=>by rw[ho]⟩
 have hlt:k<[(1:Int),2].length:=by have h16:(k:Int)<(2:Nat):=h59;simp;omega
 have hkd:=k12 hlt
 have hsuc:cmK (Z7 c.cel) (V2 c.cel) (k+1)=cm1 (cmK (Z7 c.cel) (V2 c.cel) k) (lgq (Z7 c.cel) (V2 c.cel) ([(1:Int),2][k]'hlt)):=by
  unfold cmK
  rw[List.take_succ_eq_append_getElem hlt,List.foldl_append];rfl
 refine Qi ?_
 refine Qg<|Qh<|Qc<|xii (i:=k) (hI56.ext hs18) rfl rfl hlt fun a60 h60=>?_
 refine Zf ([(1:Int),2][k]'hlt) fun kd hkd'=>?_
 rw[hkd'] at h60 hkd hsuc
 refine x (Qv h60 rfl)<|Qf ?_
 have hEq:=Qa9 (hT9.a.ext hs918) (hS9.ext hs918) kd
 rw[hok.A] at hEq
 have hEq':QG Tryz.prog 82 [.agg #[t.va,.int .i64 t.A.st,t.vm,t.ve],.agg #[sa,.int .i64 M,sm,se],.int .i64 kd] w18 fun r w'=>Step [] w18 w'∧∃v e,r=.tuple #[v,.bool e,.int .i64 0]∧(match lgq (Z7 c.cel) (V2 c.cel) kd with | none=>v=Za∧e=true | some u=>e=false∧Qs 3 w18.heap.size w' v u):=by
  rw[hMs,hok.A]
  refine hEq.mono ?_
  rintro r w' ⟨a1,v,e,a2,a3⟩
  have hz:=jF hoA hoS hkd
  rw[hz] at a2
  exact ⟨a1,v,e,a2,a3 hz⟩
 refine Qc<|x (Qq (hB99.ext hs918) rfl rfl)<|x (Qq (hB89.ext hs918) rfl rfl)<|Qb<|xl rfl<|xf<|hEq'.mono ?_
 rintro r19 w19 ⟨hs19,v',e',rfl,hm⟩
 have hs019:=hs018.trans hs19
 have hz018:=hs018.size
 refine Qb<|x (Qj rfl rfl)<|x (Qj rfl rfl)<|x (Qj rfl rfl)<|x Qe<|x Qe<|Qf ?_
 refine Qg<|Qc<|Qb<|x (Q6 rfl rfl)<|xe ?_
 refine Q3 rfl (fun h71=>?_) (fun h71=>?_)
 ·exact absurd rfl h71
 refine Qi ?_
 refine Zf (lgq (Z7 c.cel) (V2 c.cel) kd) fun q hq=>?_
 rw[hq] at hm hsuc
 have hql:∀u,q=some u→u.length≤17000000:=fun u hu=>Qht hoA hoS (hq.trans hu)
 have hqe:e'=q.isNone:=by
  cases q with
  | none=>exact hm.2
  | some u=>exact hm.1
 have hqv:∀u,q=some u→Qs 3 w.heap.size w19 v' u:=fun u hu=>by
  subst hu;exact Zc hm.2 hz018
 have hov19:∀u,o=some u→Qs 3 w.heap.size w19 v u∧u.length≤17000000:=fun u hu=>⟨Qt (hov u hu).1 hs19,(hov u hu).2⟩
 rw[←ho] at hsuc
 refine QV (α:=Bool) [(73,82)] (fun z=>[(82,.bool z)]) (fun z w'=>Step [] w19 w'∧(z=true→∃u,q=some u∧cm1 o q=some u)∧(z=false→cm1 o q=o)) (by rfl) ?_ ?_
 ·refine Qw<|Qb<|xB (Zo rfl) (fun h74=>?_) (fun h74=>?_)
  ·have hqs:q.isNone=false:=by rw[←hqe];simpa using h74
   obtain ⟨u,hu⟩:∃u,q=some u:=by cases q with | none=>cases hqs | some u=>exact ⟨u,rfl⟩
   refine Qb<|xB Qm (fun h76=>?_) (fun h76=>?_)
   ·have hon:o=none:=by cases o with | none=>rfl | some u=>cases h76
    refine Qb<|xs rfl<|xs rfl<|xs rfl<|x (Qn rfl)<|x (Qn rfl)<|xe ?_
    exact ⟨true,⟨rfl,trivial⟩,Step.refl _ _,fun _=>⟨u,hu,by rw[hon,hu];rfl⟩,(fun h=>by cases h)⟩
   obtain ⟨u0,hu0⟩:∃u0,o=some u0:=by cases o with | none=>cases h76 | some u=>exact ⟨u,rfl⟩
   have hI1:QL [] w19.heap v' u:=Qs.ints (hqv u hu) (by have:=hql u hu;omega) (by simp)
   have hI2:QL [] w19.heap v u0:=Qs.ints (hov19 u0 hu0).1 (by have:=(hov19 u0 hu0).2;omega) (by simp)
   refine Qb<|Qb<|Qb<|xl rfl<|xf<|(Qe3 hI1 hI2).mono ?_
   rintro r20 w20 ⟨rfl,hs20⟩
   refine x (Qn rfl)<|x (Qn rfl)<|xe ?_
   refine ⟨less u u0,⟨rfl,trivial⟩,hs20,fun hl=>⟨u,hu,?_⟩,fun hl=>?_⟩
   ·rw[hu,hu0];show (if less u u0=true then some u else some u0)=_;rw[if_pos hl]
   ·rw[hu,hu0];show (if less u u0=true then some u else some u0)=_;rw[if_neg (by rw[hl];simp)]
  have hqn:q=none:=by
   have h75:e'=true:=by simpa using h74
   rw[hqe] at h75
   cases q with | none=>rfl | some u=>cases h75
  refine Qb<|xs rfl<|xs rfl<|xs rfl<|xs rfl<|xs rfl<|xs rfl<|x (Qn rfl)<|xe ?_
  exact ⟨false,⟨rfl,trivial⟩,Step.refl _ _,(fun h=>by cases h),fun _=>by rw[hqn];rfl⟩
 rintro zb g w21 ⟨hs21,hzt,hzf⟩
 have hs1821:=hs19.trans hs21
 refine QW rfl (fun h82=>?_) (fun h82=>?_)
 ·obtain ⟨u,hu,hcm⟩:=hzt h82
  refine Qw<|Qb<|x Qe<|Qf ?_
  refine Qw<|x (Qy rfl rfl ⟨by omega,by omega⟩)<|Qb<|xe ?_
  exact ⟨(k+1,v',some u),by simp only[];simp at hlt;omega,⟨rfl,rfl,rfl,trivial⟩,by simp at hlt;omega,hs18.trans hs1821,by simp only[];rw[hsuc,hcm],fun u' h'=>by
   have:u=u':=Option.some.inj h'
   subst this
   exact ⟨Qt (hqv u hu) hs21,hql u hu⟩⟩
 have hcm:=hzf h82
 refine Qi ?_
 refine Qw<|x (Qy rfl rfl ⟨by omega,by omega⟩)<|Qb<|xe ?_
 exact ⟨(k+1,v,o),by simp only[];simp at hlt;omega,⟨rfl,rfl,rfl,trivial⟩,by simp at hlt;omega,hs18.trans hs1821,by simp only[];rw[hsuc,hcm],fun u' h'=>⟨Qt (hov19 u' h').1 hs21,(hov19 u' h').2⟩⟩
abbrev yC (s:Int):QM:=⟨[s,s+1],2,[0],[(0,s,1),(1,s+1,0)]⟩
theorem Qcr {w:World}{nm:ByteArray}{s:Int}(hs:0≤s∧s<100) :
  QG Tryz.prog 86 [.string nm,.int .i64 s] w fun r w'=>Step [] w w'∧∃va vm ve,r=.agg #[.string nm,va,.int .i64 2,vm,ve]∧ZB [va,vm,ve]∧∀L:LN,(∀b∈L,b<w.heap.size)→Zp L w'.heap va vm ve (yC s):=by
 refine QG.of_W Tryz.func86 rfl Tryz.ntmps86 Tryz.results86 (by simp) ?_
 refine Qc<|xl rfl<|Qu (us:=[.string .empty,nS,.int .i64 0,nS,nS]) rfl fun b4 w1 hs1 hb4 hB4=>xe ?_
 refine Qc<|Qb<|Qb<|Qb<|x (Qy rfl rfl ⟨by omega,by omega⟩)<|xl rfl<|QI (us:=[[.int .i64 s],[.int .i64 (s+1)]]) rfl rfl (by decide) (by simp) ⟨rfl,rfl,rfl,rfl,trivial⟩ fun b9 w2 hs2 hb9 hB9 =>
  xl rfl<|QI (us:=[[.int .i64 0]]) rfl rfl (by decide) (by simp) ⟨rfl,rfl,trivial⟩ fun b10 w3 hs3 hb10 hB10=>Qb<|x (QN ⟨rfl,rfl,rfl,trivial⟩) <|
  Qb<|x (Qy rfl rfl ⟨by omega,by omega⟩)<|x (QN ⟨rfl,rfl,rfl,trivial⟩)<|xl rfl<|QI (us:=[QC (0,s,1),QC (1,s+1,0)]) rfl rfl (by decide) (show 2*3≤1000000 by omega) ⟨rfl,rfl,rfl,rfl,trivial⟩ fun b16 w4 hs4 hb16 hB16 =>
  x (QN ⟨rfl,rfl,rfl,rfl,trivial⟩)<|x (Zw [(0,[.string nm]),(1,[.slice (some ⟨b9,0,none⟩) 2 2,.int .i64 2,.slice (some ⟨b10,0,none⟩) 1 1,.slice (some ⟨b16,0,none⟩) 2 2])] ⟨rfl,rfl,rfl,rfl,trivial⟩)<|xl rfl<|Qo (us:=[.string nm,.slice (some ⟨b9,0,none⟩) 2 2,.int .i64 2,.slice (some ⟨b10,0,none⟩) 1 1,.slice (some ⟨b16,0,none⟩) 2 2]) (((hB4.ext hs2).ext hs3).ext hs4) rfl rfl rfl rfl ⟨rfl,rfl,rfl,rfl,rfl,trivial⟩ fun w5 hs5 hB45 =>
  xe ?_
 have hz1:=hs1.size
 have hz2:=hs2.size
 have hz3:=hs3.size
 have hz4:=hs4.size
 have hl4:=hB4.lt
 have hl9:=hB9.lt
 have hl10:=hB10.lt
 refine Ql ⟨[.agg [.string nm,.slice (some ⟨b9,0,none⟩) 2 2,.int .i64 2,.slice (some ⟨b10,0,none⟩) 1 1,.slice (some ⟨b16,0,none⟩) 2 2].toArray],⟨⟨_,rfl,Qx rfl (hB45.at (L:=[]) (by simp)).cells⟩,trivial⟩,(((hs1.trans hs2).trans hs3).trans hs4).then1 hs5 (by omega),_,_,_,rfl,⟨rfl,rfl,rfl,trivial⟩,fun L hL=>?_⟩
 have k9:QS w5.heap b9 3 [.int .i64 s,.int .i64 (s+1)]:=(((hB9.ext hs3).ext hs4)).step hs5 (by simp only[List.mem_singleton];omega)
 have k10:QS w5.heap b10 3 [.int .i64 0]:=((hB10.ext hs4)).step hs5 (by simp only[List.mem_singleton];omega)
 have k16:QS w5.heap b16 126 [.int .i64 0,.int .i64 s,.int .i64 1,.int .i64 1,.int .i64 (s+1),.int .i64 0]:=hB16.step hs5 (by simp only[List.mem_singleton];omega)
 have nL:∀{b:Nat},w.heap.size≤b→b∉L:=fun hb hm=>by have:=hL _ hm;omega
 exact ⟨k9.arr (nL (by omega)) (n:=2) (cap:=2) (sz:=1) rfl (by omega) (Nat.le_refl _),k10.arr (nL (by omega)) (n:=1) (cap:=1) (sz:=1) rfl (by omega) (Nat.le_refl _),k16.arr (nL (by omega)) (n:=2) (cap:=2) (sz:=3) rfl (by omega) (Nat.le_refl _)⟩
abbrev fs1:ByteArray:=⟨#[111,110,101]⟩
abbrev fs2:ByteArray:=⟨#[116,119,111]⟩
abbrev fs3:ByteArray:=⟨#[98,117,102,102,101,114]⟩
abbrev fcE:List KK:=[⟨⟨#[97]⟩,true,false,false,0⟩,⟨⟨#[98]⟩,false,false,false,0⟩,⟨⟨#[99]⟩,true,false,false,0⟩,⟨⟨#[100]⟩,false,false,false,0⟩]
def X5:Zy:=⟨fcE,[⟨fs1,yC 0⟩,⟨fs2,yC 2⟩],[⟨fs3,yC 1⟩],[],[]⟩
def fcP (N:Nat) (i:Nat) (v:Value) (w:World):Prop :=
 if i=4 then ∃b,v=.slice (some ⟨b,0,none⟩) 4 4∧N≤b∧QS w.heap b 97 (fcE.flatMap Zn)
 else if i=6 then ∃va vm ve,v=.agg #[.string fs1,va,.int .i64 2,vm,ve]∧ZB [va,vm,ve]∧∀L:LN,(∀b∈L,b<N)→Zp L w.heap va vm ve (yC 0)
 else if i=8 then ∃va vm ve,v=.agg #[.string fs2,va,.int .i64 2,vm,ve]∧ZB [va,vm,ve]∧∀L:LN,(∀b∈L,b<N)→Zp L w.heap va vm ve (yC 2)
 else if i=9 then Kl N w.heap v [⟨fs1,yC 0⟩,⟨fs2,yC 2⟩]
 else Kl N w.heap v [⟨fs3,yC 1⟩]
theorem Kl.ext {N:Nat}{w w':World}{v:Value}{l:List Jb}(h:Kl N w.heap v l) (hs:Step [] w w'):Kl N w'.heap v l:=let ⟨qs,h1,h2⟩:=h;⟨qs,h1,fun L hL=>(h2 L hL).ext hs⟩
theorem QhR {N:Nat}:∀i v w w',fcP N i v w→Step [] w w'→fcP N i v w':=by
 intro i v w w' h hs
 unfold fcP at h ⊢
 by_cases h4:i=4
 ·rw[if_pos h4] at h ⊢
  obtain ⟨b,e,n,hB⟩:=h
  exact ⟨b,e,n,hB.ext hs⟩
 rw[if_neg h4] at h ⊢
 by_cases h6:i=6
 ·rw[if_pos h6] at h ⊢
  obtain ⟨va,vm,ve,e,o,hA⟩:=h
  exact ⟨va,vm,ve,e,o,fun L hL=>(hA L hL).ext hs⟩
 rw[if_neg h6] at h ⊢
 by_cases h8:i=8
 ·rw[if_pos h8] at h ⊢
  obtain ⟨va,vm,ve,e,o,hA⟩:=h
  exact ⟨va,vm,ve,e,o,fun L hL=>(hA L hL).ext hs⟩
 rw[if_neg h8] at h ⊢
 by_cases h9:i=9
 ·rw[if_pos h9] at h ⊢;exact Kl.ext h hs
 rw[if_neg h9] at h ⊢;exact Kl.ext h hs
theorem Xg {a:Array UInt8}(h:a.size≤100):VZ ⟨a⟩:=by
 show a.size≤_
 omega
theorem Kl.one {N:Nat}{H:Array Obj}{v:Value}{l:List Jb}(h:Kl N H v l):v.oneCell'=true:=by
 obtain ⟨qs,_,h2⟩:=h
 exact (h2 [] (by simp)).arr.one
set_option maxHeartbeats 4000000 in
theorem Jj (w:World):QG Tryz.prog 35 [] w fun r w'=>Step [] w w'∧QiB w.heap.size w'.heap r X5:=by
 refine QG.of_W Tryz.func35 rfl Tryz.ntmps35 Tryz.results35 (by simp) ?_
 refine Qc<|xl rfl<|Qu (us:=YL) rfl fun b0 w1 hs1 hb0 hB0=>xe ?_
 refine Qc<|Qf ?_
 refine Qc<|xl rfl<|QI (us:=[[.int .i64 1],[.int .i64 2]]) rfl rfl (by decide) (by simp) ⟨rfl,rfl,rfl,rfl,trivial⟩ fun b3 w2 hs2 hb3 hB3=>xl rfl<|QI (us:=[[.int .i64 0]]) rfl rfl (by decide) (by simp) ⟨rfl,rfl,trivial⟩ fun b4 w3 hs3 hb4 hB4 =>
  x (QN ⟨rfl,rfl,rfl,trivial⟩)<|x (QN ⟨rfl,rfl,rfl,trivial⟩)<|xl rfl<|QI (us:=[QC (0,1,1),QC (1,2,0)]) rfl rfl (by decide) (show 2*3≤1000000 by omega) ⟨rfl,rfl,rfl,rfl,trivial⟩ fun b7 w4 hs4 hb7 hB7 =>
  x (QN ⟨rfl,rfl,rfl,rfl,trivial⟩)<|xl rfl<|Qu (us:=[nS,.int .i64 0,nS,nS]) rfl fun b2 w5 hs5 hb2 hB2=>xl rfl<|Qo (us:=[.slice (some ⟨b3,0,none⟩) 2 2,.int .i64 2,.slice (some ⟨b4,0,none⟩) 1 1,.slice (some ⟨b7,0,none⟩) 2 2]) hB2 rfl rfl rfl rfl ⟨rfl,rfl,rfl,rfl,trivial⟩ fun w6 hs6 hB26 =>
  xe ?_
 have hz1:=hs1.size
 have hz2:=hs2.size
 have hz3:=hs3.size
 have hz4:=hs4.size
 have hl0:=hB0.lt
 have hl3:=hB3.lt
 have hl4:=hB4.lt
 have hs46:Step [] w4 w6:=hs5.then1 hs6 hb2
 have hs16:=((hs2.trans hs3).trans hs4).trans hs46
 have hs06:=hs1.trans hs16
 have hz06:=hs06.size
 have hz16:=hs16.size
 have hB06:=hB0.ext hs16
 have k3:=((hB3.ext hs3).ext hs4).ext hs46
 have k4:=(hB4.ext hs4).ext hs46
 have k7:=hB7.ext hs46
 have hA6:∀{L:LN},(∀b∈L,b<w1.heap.size)→Zp L w6.heap (.slice (some ⟨b3,0,none⟩) 2 2) (.slice (some ⟨b4,0,none⟩) 1 1) (.slice (some ⟨b7,0,none⟩) 2 2) (yC 1):=fun {L} hL=>by
  have nL:∀{b:Nat},w1.heap.size≤b→b∉L:=fun hb hm=>by have:=hL _ hm;omega
  exact ⟨k3.arr (nL (by omega)) (n:=2) (cap:=2) (sz:=1) rfl (by omega) (Nat.le_refl _),k4.arr (nL (by omega)) (n:=1) (cap:=1) (sz:=1) rfl (by omega) (Nat.le_refl _),k7.arr (nL (by omega)) (n:=2) (cap:=2) (sz:=3) rfl (by omega) (Nat.le_refl _)⟩
 refine QV (α:=CL) [(9,22)] (fun z=>[]) (fun z w'=>Step [] w w'∧QS w'.heap b0 38 z.cells∧z.cel=X5∧(∀L:LN,(∀b∈L,b<w.heap.size)→ZI L w'.heap z)) (by rfl) ?_ ?_
 ·refine Qgj (α:=Value×Value×Value) (Step [] w6) [(0,true),(1,true),(2,true),(3,true),(5,true),(7,true),(10,true),(11,true)] (fun i=>if i=9 then [6,8] else []) [4,6,8,9,12] [(13,true),(14,false)] [(13,13),(15,15),(17,18),(21,21)] (fcP w1.heap.size)
   (fun z=>[(13,z.1),(18,z.2.1),(21,z.2.2)])
   (fun z w'=>(∃b,z.1=.slice (some ⟨b,0,none⟩) 4 4∧w1.heap.size≤b∧QS w'.heap b 97 (fcE.flatMap Zn))∧Kl w1.heap.size w'.heap z.2.1 [⟨fs1,yC 0⟩,⟨fs2,yC 2⟩]∧Kl w1.heap.size w'.heap z.2.2 [⟨fs3,yC 1⟩])
   Tryz.mixed (by rfl) (by kernel_rfl) (Step.drew _ _) (fun _ _ h1 h2=>h1.trans h2) QhR ?_ ?_
  ·rintro g w' ⟨h4,_,_,h9,h12,_⟩ hdj
   exact ⟨(g 13,g 18,g 21),⟨rfl,rfl,rfl,trivial⟩,h4,h9,h12⟩
  ·refine p (fun _=>QN ⟨rfl,rfl,trivial⟩)<|p (fun _=>QN ⟨rfl,trivial⟩)<|p (fun _=>QN ⟨rfl,rfl,trivial⟩)<|p (fun _=>QN ⟨rfl,trivial⟩) <|
    p (fun _=>Qm)<|p (fun _=>Qm)<|pq (fun _ hc=>Qq (hB26.ext hc) rfl rfl)<|p (fun _=>Zw [(0,[.string fs3]),(1,[.slice (some ⟨b3,0,none⟩) 2 2,.int .i64 2,.slice (some ⟨b4,0,none⟩) 1 1,.slice (some ⟨b7,0,none⟩) 2 2])] ⟨rfl,rfl,rfl,rfl,trivial⟩) <|
    pe ⟨⟨?_,?_,?_,?_,?_,trivial⟩,?_⟩
   ·intro g w' hc _
    have hz:=hc.size
    exact QI (us:=[Zn ⟨⟨#[97]⟩,true,false,false,0⟩,Zn ⟨⟨#[98]⟩,false,false,false,0⟩,Zn ⟨⟨#[99]⟩,true,false,false,0⟩,Zn ⟨⟨#[100]⟩,false,false,false,0⟩]) rfl rfl (by decide) (show 4*5≤1000000 by omega) ⟨rfl,rfl,rfl,rfl,rfl,rfl,rfl,rfl,trivial⟩ fun b w7 hs7 hb hB=>⟨hs7,⟨b,rfl,by omega,hB⟩,fun c hc'=>by rw[List.mem_singleton.1 (show c∈[b] from hc')];exact ⟨hb,hB.lt⟩⟩
   ·intro g w' hc _
    have hz:=hc.size
    refine xc (first:=[]) (capt:=[]) rfl<|(Qcr (nm:=fs1) (s:=0) (by omega)).mono ?_
    rintro r w7 ⟨hs7,va,vm,ve,rfl,ho,hA⟩
    exact ⟨hs7,⟨va,vm,ve,rfl,ho,fun L hL=>hA L (fun b hb=>by have:=hL b hb;omega)⟩,fun c hc'=>by cases hc'⟩
   ·intro g w' hc _
    have hz:=hc.size
    refine xc (first:=[]) (capt:=[]) rfl<|(Qcr (nm:=fs2) (s:=2) (by omega)).mono ?_
    rintro r w7 ⟨hs7,va,vm,ve,rfl,ho,hA⟩
    exact ⟨hs7,⟨va,vm,ve,rfl,ho,fun L hL=>hA L (fun b hb=>by have:=hL b hb;omega)⟩,fun c hc'=>by cases hc'⟩
   ·rintro g w' hc ⟨⟨va,vm,ve,e6,o6,hA6'⟩,⟨va',vm',ve',e8,o8,hA8'⟩,_⟩
    have hz:=hc.size
    refine QI (us:=[Zh ⟨fs1,⟨va,vm,ve,yC 0⟩⟩,Zh ⟨fs2,⟨va',vm',ve',yC 2⟩⟩]) rfl rfl (by decide) (show 2*5≤1000000 by omega) ⟨congrArg Value.cells e6,rfl,congrArg Value.cells e8,rfl,trivial⟩ fun b w7 hs7 hb hB=>⟨hs7,?_,fun c hc'=>by rw[List.mem_singleton.1 (show c∈[b] from hc')];exact ⟨hb,hB.lt⟩⟩
    refine ⟨[⟨fs1,⟨va,vm,ve,yC 0⟩⟩,⟨fs2,⟨va',vm',ve',yC 2⟩⟩],rfl,fun L hL=>⟨hB.arr (fun hm=>by have:=hL _ hm;omega) (n:=2) (cap:=2) (sz:=5) rfl (by omega) (Nat.le_refl _),fun q hq=>?_,fun q hq=>?_⟩⟩
    ·simp only[List.mem_cons,List.not_mem_nil,or_false] at hq
     rcases hq with rfl | rfl
     ·exact (hA6' L hL).ext hs7
     ·exact (hA8' L hL).ext hs7
    ·simp only[List.mem_cons,List.not_mem_nil,or_false] at hq
     rcases hq with rfl | rfl
     ·exact Xg (by decide)
     ·exact Xg (by decide)
   ·intro g w' hc _
    have hz:=hc.size
    refine QI (us:=[Zh ⟨fs3,⟨.slice (some ⟨b3,0,none⟩) 2 2,.slice (some ⟨b4,0,none⟩) 1 1,.slice (some ⟨b7,0,none⟩) 2 2,yC 1⟩⟩]) rfl rfl (by decide) (show 1*5≤1000000 by omega) ⟨rfl,rfl,trivial⟩ fun b w7 hs7 hb hB=>⟨hs7,?_,fun c hc'=>by rw[List.mem_singleton.1 (show c∈[b] from hc')];exact ⟨hb,hB.lt⟩⟩
    refine ⟨[⟨fs3,⟨.slice (some ⟨b3,0,none⟩) 2 2,.slice (some ⟨b4,0,none⟩) 1 1,.slice (some ⟨b7,0,none⟩) 2 2,yC 1⟩⟩],rfl,fun L hL=>⟨hB.arr (fun hm=>by have:=hL _ hm;omega) (n:=1) (cap:=1) (sz:=5) rfl (by omega) (Nat.le_refl _),fun q hq=>?_,fun q hq=>?_⟩⟩
    ·simp only[List.mem_singleton] at hq
     subst hq
     exact ((hA6 hL).ext hc).ext hs7
    ·simp only[List.mem_singleton] at hq
     subst hq
     exact Xg (by decide)
   rintro ⟨v1,v2,v3⟩ g w9 hc9 ⟨⟨b,e,n,hB⟩,h9,h12⟩
   simp only[] at e h9 h12
   subst e
   have hB09:=hB06.ext hc9
   refine p (fun _=>Zw [(0,[.slice (some ⟨b,0,none⟩) 4 4]),(1,[v2]),(2,[v3])] ⟨rfl,rfl,Xf (Kl.one h9),rfl,Xf (Kl.one h12),rfl,trivial⟩)<|pkl (hl:=by kernel_rfl)<|Qo (us:=[.slice (some ⟨b,0,none⟩) 4 4,v2,v3,nS,nS]) hB09 rfl rfl rfl rfl ⟨rfl,Kl.one h9,Kl.one h12,rfl,rfl,trivial⟩ fun w10 hs10 hB10=>pe ?_
   obtain ⟨q9,e9,hI9⟩:=h9
   obtain ⟨q12,e12,hI12⟩:=h12
   refine ⟨⟨.slice (some ⟨b,0,none⟩) 4 4,v2,v3,nS,nS,fcE,q9,q12,[],[]⟩,trivial,(hs06.trans hc9).then1 hs10 hb0,hB10,?_,fun L hL=>?_⟩
   ·show Zy.mk fcE (q9.map IV.it) (q12.map IV.it) [] []=_
    rw[e9,e12];rfl
   ·have hL1:∀b'∈b0::L,b'<w1.heap.size:=fun b' hb'=>by
     rcases List.mem_cons.1 hb' with rfl | hb'
     ·exact hl0
     ·have:=hL b' hb';omega
    have m1:∀b'∈[b0],b'∈b0::L:=fun b' hb'=>by simp only[List.mem_singleton] at hb';simp[hb']
    have up1:∀b'∈L,b'∈b0::L∨w10.heap.size≤b':=fun b' hb'=>.inl (List.mem_cons_of_mem _ hb')
    have hB':QS w10.heap b 97 (fcE.flatMap Zn):=hB.step hs10 (by simp only[List.mem_singleton];omega)
    refine ⟨⟨hB'.arr (fun hm=>by have:=hL _ hm;omega) (n:=4) (cap:=4) (sz:=5) rfl (by omega) (Nat.le_refl _),fun e he=>?_⟩,((hI9 _ hL1).st (hs10.mono m1)).up up1,((hI12 _ hL1).st (hs10.mono m1)).up up1,⟨Zs.nil _ _ 2,fun q hq=>(by cases hq),fun q hq=>(by cases hq)⟩,⟨Zs.nil _ _ 3,fun q hq=>(by cases hq),fun q hq=>(by cases hq)⟩⟩
    simp only[List.mem_cons,List.not_mem_nil,or_false] at he
    rcases he with rfl | rfl | rfl | rfl <;> exact Xg (by decide)
 rintro c g w9 ⟨hs9,hB9,hcel,hC⟩
 refine Ql ⟨[_],⟨⟨_,rfl,Qx rfl (hB9.at (L:=[]) (by simp)).cells⟩,trivial⟩,hs9,c,rfl,hcel,hC⟩
theorem Qjv:XW X5=0:=by kernel_rfl
theorem Qjw:(Ja X5).ps=true:=by kernel_rfl
theorem Qjx:(Ja X5).nc=true:=by kernel_rfl
theorem QhT:(Ja X5).sts.length=1:=by kernel_rfl
theorem QhS:decide (1<(Ja X5).tg)=true:=by kernel_rfl
theorem QhV:pmE X5 [0,1]=0:=by kernel_rfl
theorem QhU:pmL X5 [0,1]=[2]:=by kernel_rfl
theorem QhX:mrE X5 [0,1] 0=0:=by kernel_rfl
theorem QhW:mrL X5 [0,1] 0=[0]:=by kernel_rfl
theorem QhZ:cmE X5 false=0:=by kernel_rfl
theorem QhY:(cmW (Z7 X5) (V2 X5)).isNone=true:=by kernel_rfl
theorem QfG {w:World}{c:CL}(hC:ZI [] w.heap c) (hcel:c.cel=X5) (hkb:Kb w 4096) :
  QG Tryz.prog 20 [c.val] w fun r w'=>Step [] w w'∧∃ev f1 f2 vw vs tg,r=.tuple #[.agg #[.bool true,.int .i64 ev,.int .i64 f1,.int .i64 f2,.bool true,vw,vs,.int .i64 tg],.int .i64 0]∧ZB [vw,vs]∧(∃s,QL [] w'.heap vs [s])∧1<tg:=by
 refine (QbK hC hkb).mono ?_
 rintro r w' ⟨hs,us,rfl,_,ho,hg⟩
 rw[hcel,Qjv] at *
 obtain ⟨vw,vs,rfl,hw,hv⟩:=hg rfl
 rw[Qjw,Qjx] at *
 have hl:=QhT
 obtain ⟨s,hs1⟩:∃s,(Ja X5).sts=[s]:=by
  match (Ja X5).sts,hl with
  | [s],_=>exact ⟨s,rfl⟩
 rw[hs1] at hv
 exact ⟨hs,_,_,_,vw,vs,_,rfl,⟨QO hw,QO hv,trivial⟩,⟨s,Qs.ints hv (by simp) (by simp)⟩,of_decide_eq_true QhS⟩
theorem QfE {w:World}{c:CL}{v:Value}(hC:ZI [] w.heap c) (hcel:c.cel=X5) (hv:QL [] w.heap v [0,1]) (hkb:Kb w 4096) :
  QG Tryz.prog 11 [c.val,v] w fun r w'=>Step [] w w'∧∃v',r=.tuple #[v',.int .i64 0]∧QL [] w'.heap v' [2]:=by
 refine (yK hC hv hkb).mono ?_
 rintro r w' ⟨hs,v',rfl,_,hg⟩
 rw[hcel,QhV] at *
 have h1:=hg rfl
 rw[QhU] at h1
 exact ⟨hs,v',rfl,Qs.ints h1 (by simp) (by simp)⟩
theorem QfD {w:World}{c:CL}{v:Value}(hC:ZI [] w.heap c) (hcel:c.cel=X5) (hv:QL [] w.heap v [0,1]) (hkb:Kb w 4096) :
  QG Tryz.prog 12 [c.val,v,.int .i64 0] w fun r w'=>Step [] w w'∧∃v',r=.tuple #[v',.int .i64 0]∧QL [] w'.heap v' [0]:=by
 refine (yk hC hv 0 hkb).mono ?_
 rintro r w' ⟨hs,v',rfl,_,hg⟩
 rw[hcel,QhX] at *
 have h1:=hg rfl
 rw[QhW] at h1
 exact ⟨hs,v',rfl,Qs.ints h1 (by simp) (by simp)⟩
theorem QfF {w:World}{c:CL}(hC:ZI [] w.heap c) (hcel:c.cel=X5) (hkb:Kb w 4096) :
  QG Tryz.prog 32 [c.val,.bool false] w fun r w'=>Step [] w w'∧∃v,r=.tuple #[v,.bool true,.int .i64 0]:=by
 refine (QbI hC hkb).mono ?_
 rintro r w' ⟨hs,v,e,rfl,hg⟩
 rw[hcel,QhZ] at *
 have h1:=hg rfl
 rw[QhY] at h1
 subst h1
 exact ⟨hs,v,rfl⟩
abbrev rpF (ev f1 f2:Int) (vw vs:Value) (tg:Int):LV:=[.bool true,.int .i64 ev,.int .i64 f1,.int .i64 f2,.bool true,vw,vs,.int .i64 tg]
set_option maxHeartbeats 4000000 in
theorem UG {w:World}(hkb:Kb w 4096):QG Tryz.prog 9 [] w fun r w'=>r=.bool true∧Step [] w w':=by
 refine QG.of_W Tryz.func9 rfl Tryz.ntmps9 Tryz.results9 (by simp) ?_
 refine Qc<|Qf ?_
 refine Qc<|xl rfl<|xf<|(Jj w).mono ?_
 rintro r1 w1 ⟨hs1,⟨c1,rfl,hc1,hC1⟩⟩
 refine xl rfl<|xf<|(QfG (hC1 [] (by simp)) hc1 (hkb.ext hs1)).mono ?_
 rintro r2 w2 ⟨hs2,ev,f1,f2,vw,vs,tg,rfl,ho,⟨s,hvs⟩,htg⟩
 refine Qb<|x (Qj rfl rfl)<|x (Qj rfl rfl)<|xl rfl<|Qu (us:=rp0) rfl fun b1 w3 hs3 hb1 hB1=>xl rfl<|Qo (us:=rpF ev f1 f2 vw vs tg) hB1 rfl rfl rfl rfl ⟨rfl,rfl,rfl,rfl,rfl,ho.1,ho.2.1,rfl,trivial⟩ fun w4 hs4 hB14 =>
  Qf ?_
 have hs24:Step [] w2 w4:=hs3.then1 hs4 hb1
 have hs04:=(hs1.trans hs2).trans hs24
 refine Qc<|xl rfl<|xf<|(Jj w4).mono ?_
 rintro r5 w5 ⟨hs5,⟨c5,rfl,hc5,hC5⟩⟩
 refine xl rfl<|QI (us:=[[.int .i64 0],[.int .i64 1]]) rfl rfl (by decide) (by simp) ⟨rfl,rfl,rfl,rfl,trivial⟩ fun b17 w6 hs6 hb17 hB17=>xl rfl<|xf<|(QfE ((hC5 [] (by simp)).ext hs6) hc5 (hB17.arr (by simp) (n:=2) (cap:=2) (sz:=1) rfl (by omega) (Nat.le_refl _)) (((hkb.ext hs04).ext hs5).ext hs6)).mono ?_
 rintro r7 w7 ⟨hs7,v3,rfl,hv3⟩
 refine Qb<|x (Qj rfl rfl)<|x (Qj rfl rfl)<|x Qe<|Qf ?_
 have hs47:=(hs5.trans hs6).trans hs7
 have hs07:=hs04.trans hs47
 refine Qc<|xl rfl<|xf<|(Jj w7).mono ?_
 rintro r8 w8 ⟨hs8,⟨c8,rfl,hc8,hC8⟩⟩
 refine xl rfl<|QI (us:=[[.int .i64 0],[.int .i64 1]]) rfl rfl (by decide) (by simp) ⟨rfl,rfl,rfl,rfl,trivial⟩ fun b23 w9 hs9 hb23 hB23=>xl rfl<|xf<|(QfD ((hC8 [] (by simp)).ext hs9) hc8 (hB23.arr (by simp) (n:=2) (cap:=2) (sz:=1) rfl (by omega) (Nat.le_refl _)) (((hkb.ext hs07).ext hs8).ext hs9)).mono ?_
 rintro r10 w10 ⟨hs10,v5,rfl,hv5⟩
 refine Qb<|x (Qj rfl rfl)<|x (Qj rfl rfl)<|x Qe<|Qf ?_
 have hs710:=(hs8.trans hs9).trans hs10
 have hs010:=hs07.trans hs710
 refine Qc<|xl rfl<|xf<|(Jj w10).mono ?_
 rintro r11 w11 ⟨hs11,⟨c11,rfl,hc11,hC11⟩⟩
 refine xl rfl<|xf<|(QfF (hC11 [] (by simp)) hc11 ((hkb.ext hs010).ext hs11)).mono ?_
 rintro r12 w12 ⟨hs12,v7,rfl⟩
 refine Qb<|x (Qj rfl rfl)<|x (Qj rfl rfl)<|x (Qj rfl rfl)<|x Qe<|x Qe<|Qf ?_
 have hs1012:=hs11.trans hs12
 have hs012:=hs010.trans hs1012
 have hs412:=(hs47.trans hs710).trans hs1012
 have hB112:=hB14.ext hs412
 have hvs12:QL [] w12.heap vs [s]:=(hvs.ext hs24).ext hs412
 have hv312:=(hv3.ext hs710).ext hs1012
 have hv512:=hv5.ext hs1012
 refine QV (α:=Unit) [(0,0),(33,88)] (fun z=>[(0,.bool true)]) (fun z w'=>Step [] w12 w') (by rfl) ?_ ?_
 ·refine Qw<|Qb<|xb (Zm rfl rfl) (fun h34=>?_) (fun h34=>absurd rfl h34)
  refine Qb<|x (Qa rfl)<|x (Qd (u:=.bool true) hB112 rfl rfl)<|x (Qn rfl)<|Qb<|x (Qa rfl)<|x (Qd (u:=.bool true) hB112 rfl rfl)<|x (Qn rfl)<|Qb<|x (Qa rfl)<|x (Qd hB112 rfl rfl)<|x (Qr hvs12 rfl)<|xb (Zm rfl rfl) (fun h47=>?_) (fun h47=>absurd rfl h47)
  refine x (Qn rfl)<|Qb<|x (Qa rfl)<|x (Qd hB112 rfl rfl)<|xb (ZK rfl rfl) (fun h52=>?_) (fun h52=>absurd htg h52)
  refine x (Qn rfl)<|Qb<|Qb<|xb (Zm rfl rfl) (fun h56=>?_) (fun h56=>absurd rfl h56)
  refine x (Qn rfl)<|Qb<|Qb<|xl rfl<|QI (us:=[[.int .i64 2]]) rfl rfl (by decide) (by simp) ⟨rfl,rfl,trivial⟩ fun b60 w13 hs13 hb60 hB60=>xl rfl<|xf<|(qO (hv312.ext hs13) (ym (L:=[]) hB60 (by simp))).mono ?_
  rintro r14 w14 ⟨rfl,hs14⟩
  have hs1214:=hs13.trans hs14
  refine x (Qn rfl)<|Qb<|Qb<|x (Qr (hv312.ext hs1214) rfl)<|xb (Zm rfl rfl) (fun h66=>?_) (fun h66=>absurd rfl h66)
  refine x (Qn rfl)<|Qb<|Qb<|xb (Zm rfl rfl) (fun h70=>?_) (fun h70=>absurd rfl h70)
  refine x (Qn rfl)<|Qb<|Qb<|xl rfl<|QI (us:=[[.int .i64 0]]) rfl rfl (by decide) (by simp) ⟨rfl,rfl,trivial⟩ fun b74 w15 hs15 hb74 hB74=>xl rfl<|xf<|(qO ((hv512.ext hs1214).ext hs15) (ym (L:=[]) hB74 (by simp))).mono ?_
  rintro r16 w16 ⟨rfl,hs16⟩
  have hs1216:=(hs1214.trans hs15).trans hs16
  refine x (Qn rfl)<|Qb<|Qb<|x (Qr (hv512.ext hs1216) rfl)<|xb (Zm rfl rfl) (fun h80=>?_) (fun h80=>absurd rfl h80)
  refine x (Qn rfl)<|Qb<|Qb<|xb (Zm rfl rfl) (fun h84=>?_) (fun h84=>absurd rfl h84)
  refine x (Qn rfl)<|Qb<|Qb<|x (Qn rfl)<|Qf ?_
  exact ⟨(),⟨rfl,trivial⟩,hs1216⟩
 rintro z g w17 hs17
 exact Ql ⟨[.bool true],⟨rfl,trivial⟩,rfl,hs012.trans hs17⟩
end Go.Proofs.YtgmifemhkjdblaaGreatDoor
namespace Go.Lg
section
variable {P:Program} {f:Fr} {w:World} {d:Option Nat} {ty:Nat} {ps:String} {af:Array Edge} {gd:Option (Nat×Bool)}
theorem QaU {t t' e bys:Nat}{z:Value}[h:Sl P t e 1 bys z] [he:Ik P e .u8] [hd:St P t'] {x:Operand}{b T n cap:Nat}(hB:QS w.heap b T [.int .u8 (n:Int)]) (hn:n<256) (hx:ev f x=.slice (some ⟨b,0,none⟩) 1 cap) :
  (execOp (ev f) ⟨d,.convert t t' x,ty,ps,af,gd⟩).run P w=.ok (.value (.string ⟨#[UInt8.ofNat n]⟩)) w:=by
 refine yc hx ?_
 refine run_convert_bytes_back (P:=P) w t t' e ⟨b,0,none⟩ cap [UInt8.ofNat n] h.u he.u hd.u (fun j hj=>?_)
 have hj0:j=0:=by simp at hj;omega
 subst hj0
 rw[Xi]
 have h1:(⟨b,0,none⟩:Addr).add 0=⟨b,0,none⟩:=rfl
 rw[h1,hB.cell]
 have h2:(UInt8.ofNat n).toNat=n:=by simp[UInt8.toNat_ofNat'];omega
 simp[h2]
end
end Go.Lg
namespace Go.Proofs.YtgmifemhkjdblaaGreatDoor
open Go.Lg
theorem JN {N b:Nat}{w w':World}{v:Value}{l:List IV}(h:∀L:LN,(∀c∈L,c<N)→YR L w.heap v l) (hb:b<N) (hs:Step [b] w w'):∀L:LN,(∀c∈L,c<N)→YR L w'.heap v l:=fun L hL =>
 ((h (b::L) (fun c hc=>(List.mem_cons.1 hc).elim (fun e=>by omega) (hL c))).st (hs.mono (by simp))).up (fun c hc=>.inl (List.mem_cons_of_mem _ hc))
theorem Va {N b:Nat}{w w':World}{v:Value}{l:List KK}(h:∀L:LN,(∀c∈L,c<N)→Jz L w.heap v l) (hb:b<N) (hs:Step [b] w w'):∀L:LN,(∀c∈L,c<N)→Jz L w'.heap v l:=fun L hL =>
 ((h (b::L) (fun c hc=>(List.mem_cons.1 hc).elim (fun e=>by omega) (hL c))).st (hs.mono (by simp))).up (fun c hc=>.inl (List.mem_cons_of_mem _ hc))
theorem QgP {N b:Nat}{w w':World}{v:Value}{l:List XV}(h:∀L:LN,(∀c∈L,c<N)→Ud L w.heap v l) (hb:b<N) (hs:Step [b] w w'):∀L:LN,(∀c∈L,c<N)→Ud L w'.heap v l:=fun L hL =>
 ((h (b::L) (fun c hc=>(List.mem_cons.1 hc).elim (fun e=>by omega) (hL c))).st (hs.mono (by simp))).up (fun c hc=>.inl (List.mem_cons_of_mem _ hc))
theorem QfK (e:KK):∀u∈Zn e,u.oneCell'=true:=by
 intro y hy
 simp only[Zn,List.mem_cons,List.not_mem_nil,or_false] at hy
 rcases hy with rfl | rfl | rfl | rfl | rfl <;> rfl
theorem Qcj {q:IV}(h1:q.p.va.oneCell'=true) (h2:q.p.vm.oneCell'=true) (h3:q.p.ve.oneCell'=true):∀u∈Zh q,u.oneCell'=true:=by
 intro y hy
 simp only[Zh,List.mem_cons,List.not_mem_nil,or_false] at hy
 rcases hy with rfl | rfl | rfl | rfl | rfl
 ·rfl
 ·exact h1
 ·rfl
 ·exact h2
 ·exact h3
theorem jK {base N:Nat}{av:LN}{H:Array Obj}{q:IV}(h:∀L:LN,(∀b∈L,b<N)→Zp L H q.p.va q.p.vm q.p.ve q.p.a) (hb:base≤N) (hav:∀b∈av,b<N):∀t∈QhJ q,ZO base av H t.1 t.2.1 t.2.2.1 t.2.2.2:=by
 intro t ht
 simp only[List.mem_cons,List.not_mem_nil,or_false] at ht
 rcases ht with rfl | rfl | rfl
 ·exact ZO.of_lt (fun L hL=>(h L hL).al) hb hav
 ·exact ZO.of_lt (fun L hL=>(h L hL).mr) hb hav
 ·exact ZO.of_lt (fun L hL=>(h L hL).ed) hb hav
theorem Zs.full {L:LN}{H:Array Obj}{v:Value}{n sz:Nat}{cs:LV}(h:Zs L H v n sz cs) (hn:0<n):∃a cap,v=.slice (some a) n cap∧At L H a cs:=by
 rcases h.2.2 with ⟨_,h2⟩ | ⟨a,cap,h1,_,h3⟩
 ·omega
 ·exact ⟨a,cap,h1,h3⟩
structure qy (base:Nat) (w:World) (vc va:Value) (co:List IV) (al:LI):Prop where
 c:w.ownsRow base 100 5 vc co.length (co.flatMap Zh)
 a:Qs 3 base w va al
 dj:Dj vc va
 each:∀q∈co,∀t∈QhJ q,ZO base (ob vc++ob va) w.heap t.1 t.2.1 t.2.2.1 t.2.2.2
section
variable {base:Nat} {w w':World} {vc va vc' va':Value} {co:List IV} {al:LI}
theorem qy.nil:qy base w (nS) (nS) [] []:=⟨QP _ _ _ _,QP _ _ _ _,Dj.nil _,fun q hq=>by cases hq⟩
theorem qy.ext (h:qy base w vc va co al) (hs:Step [] w w'):qy base w' vc va co al:=⟨Qt h.c hs,Qt h.a hs,h.dj,fun q hq t ht=>(h.each q hq t ht).ext hs⟩
theorem qy.low {X:LN}(h:qy base w vc va co al) (hs:Step X w w') (hX:∀b∈X,b<base):qy base w' vc va co al :=
 ⟨Qk h.c hs (fun b hb hm=>by have:=(Qp h.c b hb).1;have:=hX b hm;omega),Qk h.a hs (fun b hb hm=>by have:=(Qp h.a b hb).1;have:=hX b hm;omega),h.dj,fun q hq t ht=>(h.each q hq t ht).low hs hX⟩
theorem qy.avlt (h:qy base w vc va co al):∀b∈ob vc++ob va,b<w.heap.size:=fun b hb=>(List.mem_append.1 hb).elim (Q0 h.c b) (Q0 h.a b)
theorem qy.setC {q:IV}(h:qy base w vc va co al) (hq:∀t∈QhJ q,ZO base (ob vc++ob va) w.heap t.1 t.2.1 t.2.2.1 t.2.2.2) (ho:w'.ownsRow base 100 5 vc' (co.length+1) (co.flatMap Zh++Zh q))
  (hs:Step (ob vc) w w') (hn:∀b∈ob vc',b∈ob vc∨w.heap.size≤b):qy base w' vc' va (co++[q]) al:=by
 have hs2:Step (ob vc++ob va) w w':=hs.mono (fun b hb=>List.mem_append.2 (.inl hb))
 have hn2:∀b∈ob vc'++ob va,b∈ob vc++ob va∨w.heap.size≤b:=fun b hb=>by
  rcases List.mem_append.1 hb with hb | hb
  ·exact (hn b hb).imp (fun h=>List.mem_append.2 (.inl h)) id
  ·exact .inl (List.mem_append.2 (.inr hb))
 refine ⟨?_,Qk h.a hs (fun b hb hbc=>h.dj b hbc hb),fun b hb hba=>?_,fun d hd t ht=>?_⟩
 ·rw[List.length_append,List.flatMap_append];simpa using ho
 ·rcases hn b hb with h1 | h1
  ·exact h.dj b h1 hba
  ·have:=Q0 h.a b hba;omega
 ·rcases List.mem_append.1 hd with hd | hd
  ·exact (h.each d hd t ht).app hs2 hn2
  ·simp only[List.mem_singleton] at hd;subst hd
   exact (hq t ht).app hs2 hn2
theorem qy.setA {al':LI}(h:qy base w vc va co al) (ho:Qs 3 base w' va' al') (hs:Step (ob va) w w') (hn:∀b∈ob va',b∈ob va∨w.heap.size≤b):qy base w' vc va' co al':=by
 have hs2:Step (ob vc++ob va) w w':=hs.mono (fun b hb=>List.mem_append.2 (.inr hb))
 have hn2:∀b∈ob vc++ob va',b∈ob vc++ob va∨w.heap.size≤b:=fun b hb=>by
  rcases List.mem_append.1 hb with hb | hb
  ·exact .inl (List.mem_append.2 (.inl hb))
  ·exact (hn b hb).imp (fun h=>List.mem_append.2 (.inr h)) id
 refine ⟨Qk h.c hs (fun b hb hba=>h.dj b hb hba),ho,fun b hb hba=>?_,fun d hd t ht=>(h.each d hd t ht).app hs2 hn2⟩
 rcases hn b hba with h1 | h1
 ·exact h.dj b hb h1
 ·have:=Q0 h.c b hb;omega
theorem qy.itms {L:LN}(h:qy base w vc va co al) (hn:co.length≤1099511627776) (hm:∀q∈co,VZ q.nm) (hL:∀b∈L,b<base):YR L w.heap vc co :=
 ⟨QX h.c hn (fun b hb hbL=>by have:=(Qp h.c b hb).1;have:=hL b hbL;omega),fun q hq=>⟨h.each q hq (q.p.va,q.p.a.al.length,1,q.p.a.al.map (.int .i64)) (by simp) L (fun b hb=>.inl (hL b hb)),h.each q hq (q.p.vm,q.p.a.mr.length,1,q.p.a.mr.map (.int .i64)) (by simp) L (fun b hb=>.inl (hL b hb)),h.each q hq (q.p.ve,q.p.a.ed.length,3,q.p.a.ed.flatMap QC) (by simp) L (fun b hb=>.inl (hL b hb))⟩,hm⟩
end
abbrev PtV:={r:LN // r.length=28∧∀n∈r,n<256}
abbrev Yg (r:PtV):LV:=bys r.1
theorem ye (r:PtV):(Yg r).length=28:=by show (bys r.1).length=28;unfold bys;rw[List.length_map,r.2.1]
structure LnV where
 ns:LN
 ct:Nat
 vr:Value
 rs:List PtV
 x0:Nat
 x1:Nat
 cl:Nat
abbrev YN (l:LnV):LV:=bys l.ns++[.int .u8 (l.ct:Int),l.vr,.int .u8 (l.x0:Int),.int .u8 (l.x1:Int),.int .u8 (l.cl:Int)]
structure LnA (L:LN) (H:Array Obj) (l:LnV):Prop where
 n:l.ns.length=81
 b:∀n∈l.ns,n<256
 ct:l.ct<256
 x0:l.x0<256
 x1:l.x1<256
 cl:l.cl<256
 r:Zs L H l.vr l.rs.length 28 (l.rs.flatMap Yg)
theorem Ys (ns:LN):(bys ns).length=ns.length:=by rw[bys,List.length_map]
theorem Qe7 {l:LnV}(h:l.ns.length=81):(YN l).length=86:=by rw[YN,List.length_append,Ys,h];rfl
theorem jD {l:LnV}(h:l.ns.length=81) (j:Nat):(YN l)[81+j]?=([.int .u8 (l.ct:Int),l.vr,.int .u8 (l.x0:Int),.int .u8 (l.x1:Int),.int .u8 (l.cl:Int)]:LV)[j]?:=by
 rw[YN,List.getElem?_append_right (by rw[Ys];omega),Ys,h,Nat.add_sub_cancel_left]
def grN (ns:LN) (o:Nat):LN:=(ns.drop o).take 27
theorem Qjl {ns:LN}{o:Nat}(h:o+27≤ns.length):(grN ns o).length=27:=by unfold grN;simp;omega
theorem QkK {ns:LN}{o:Nat}(h:∀n∈ns,n<256):∀n∈grN ns o,n<256:=Qii h o 27
theorem QkH {l:LnV}{o:Nat}(j:Nat) (u:Value) (h:(bys (grN l.ns o))[j]?=some u):(YN l)[o+j]?=some u:=by
 have h1:=Qih (ns:=l.ns) (o:=o) (n:=27) j u h
 have h2:=(List.getElem?_eq_some_iff.1 h1).1
 rw[YN,List.getElem?_append_left h2]
 exact h1
theorem Qai (ns:LN) (n:Nat):(bys ns).set 0 (.int .u8 (n:Int))=bys (ns.set 0 n):=by
 unfold bys;rw[List.map_set]
theorem QbT {ns:LN}{n:Nat}(h:∀m∈ns,m<256) (hn:n<256):∀m∈ns.set 0 n,m<256:=fun m hm=>by
 rcases List.mem_or_eq_of_mem_set hm with h1 | rfl
 ·exact h m h1
 ·exact hn
theorem jj {ns:LN}{n:Nat}(h:0<ns.length):(ns.set 0 n).getD 0 0=n:=by simp[List.getD,h]
structure GdA (a:QM):Prop where
 ok:Q4 a
 p:0<a.st
 s:a.st≤3
 c:∃a0:QM,Q4 a0∧0<a0.st∧a=X6 a0
theorem Qf6 {a:QM}(ho:Q4 a) (h:0<a.st):0<(X6 a).st:=by
 have hf:=(UP ho).1
 show 0<((found a).length:Int)
 have h0:(0:Int)∈found a:=by
  have key:∀(f i:Nat) (out:LI),(0:Int)∈out→(0:Int)∈fdL a f i out:=by
   intro f
   induction f with
   | zero=>intro i out h;exact h
   | succ f ih =>
    intro i out h
    rw[fdL]
    split
    ·exact ih _ _ (yB _ _ _ h)
    ·exact h
  refine key _ _ _ ?_
  unfold fd0;rw[if_pos h];simp
 have:=List.length_pos_of_mem h0
 omega
theorem GdA.of {a a0:QM}{n:Nat}(h0:Q4 a0) (h1:0<a0.st) (h2:a0.st≤((1+n % 5:Nat):Int)) (h3:a=X6 a0) (hn:n<3):GdA a:=by
 have h4:=QcC h0
 subst h3
 exact ⟨h4.1,Qf6 h0 h1,by have:=h4.2.2;omega,a0,h0,h1,rfl⟩
def Qj1 (N:Nat) (w:World) (p:AV):Prop:=(∀L:LN,(∀b∈L,b<N)→Zp L w.heap p.va p.vm p.ve p.a)∧GdA p.a
def Qgd (p:AV):Value:=.agg #[p.va,.int .i64 p.a.st,p.vm,p.ve]
def mkP (N:Nat) (c:Nat) (nm:ByteArray) (i:Nat) (v:Value) (w:World):Prop :=
 if i=5 then ∃b,v=.slice (some ⟨b,0,none⟩) 1 1∧QS w.heap b 5 [.int .u8 (c:Int)]
 else if i=6 then v=.string ⟨#[UInt8.ofNat c]⟩
 else if i=7 then v=.string nm
 else ∃p:AV,v=Qgd p∧Qj1 N w p
theorem Qb9 {N c:Nat}{nm:ByteArray}:∀i v w w',mkP N c nm i v w→Step [] w w'→mkP N c nm i v w':=by
 intro i v w w' h hs
 unfold mkP at h ⊢
 by_cases h5:i=5
 ·rw[if_pos h5] at h ⊢
  obtain ⟨b,e,hB⟩:=h
  exact ⟨b,e,hB.ext hs⟩
 rw[if_neg h5] at h ⊢
 by_cases h6:i=6
 ·rw[if_pos h6] at h ⊢;exact h
 rw[if_neg h6] at h ⊢
 by_cases h7:i=7
 ·rw[if_pos h7] at h ⊢;exact h
 rw[if_neg h7] at h ⊢
 obtain ⟨p,e,hA,hG⟩:=h
 exact ⟨p,e,fun L hL=>(hA L hL).ext hs,hG⟩
def al5 (i:Nat):LI:=([0,1,2,3,4]:LI).take (2*i - 1)
def VW (i:Nat):LI:=match i with | 0=>[0] | 1=>[1,2] | _=>[3,4]
theorem Qgf:∀{i:Nat},i<3→al5 (i+1)=al5 i++VW i
 | 0,_=>rfl
 | 1,_=>rfl
 | 2,_=>rfl
 | i+3,h=>by omega
theorem QcL (i:Nat):Yu (al5 i):=List.Pairwise.sublist (List.take_sublist _ _) (by decide)
theorem QjT (i:Nat):∀e∈al5 i,0≤e∧e<32:=fun e he=>by
 have h:=List.mem_of_mem_take he
 simp only[List.mem_cons,List.not_mem_nil,or_false] at h
 omega
theorem QcK (i:Nat):(al5 i).length≤5:=by unfold al5;simp;omega
theorem Qen:∀(i:Nat),Yu (VW i)
 | 0=>by decide
 | 1=>by decide
 | _+2=>show Yu [3,4] by decide
theorem Qg2:∀(i:Nat),∀e∈VW i,0≤e∧e<32
 | 0=>by decide
 | 1=>by decide
 | _+2=>show ∀e∈([3,4]:LI),0≤e∧e<32 by decide
theorem Qem:∀(i:Nat),0<(VW i).length∧(VW i).length≤2
 | 0=>by decide
 | 1=>by decide
 | _+2=>show 0<([3,4]:LI).length∧([3,4]:LI).length≤2 by decide
structure Sml (k:Zy):Prop where
 c:k.co.length≤3
 r:k.rq.length≤2
 co:∀q∈k.co,GdA q.a
 rq:∀q∈k.rq,GdA q.a
end Go.Proofs.YtgmifemhkjdblaaGreatDoor
namespace Go.Lg
open Go.RowKit
section
variable {P:Program} {n:Nat} {f:Fr} {w:World} {all:List Oper} {C J:World→Prop} {K:Fr→World→Prop}
theorem Qar {α:Type}{D:List (Nat×Nat)}{dp:Nat→LN}{opn:LN}{rest:List (Nat×Bool)}{Φ:Nat→Value→World→Prop}{S:α→List (Nat×Value)}{I:α→World→Prop}{f1:Fr}(hs:Region.noSelect all.toArray=true) (hop:VN all D opn=true)
  (hJC:∀w,J w→C w) (hCs:∀w w',J w→Step [] w w'→J w') (stab:∀i v w w',Φ i v w→Step [] w w'→Φ i v w')
  (hconv:∀(g:Fr) w,Fa (fun i=>Φ i (sl (QJ all i).dst g) w) opn→(∀i∈opn,∀j∈opn,i≠j→∀b∈ow (sl (QJ all i).dst g),b∉ow (sl (QJ all j).dst g))→∃z,Yz g (S z)∧I z w)
  (spec:Fa (fun i=>∀g w,J w→Fa (fun j=>Φ j (sl (QJ all j).dst (mix D f1 g)) w) (dp i)→XO P (QJ all i) (mix D f1 g) w (fun f' w'=>Step [] w w'∧Φ i (sl (QJ all i).dst f') w'∧∀b∈ow (sl (QJ all i).dst f'),w.heap.size≤b∧b<w'.heap.size)) opn)
  (fin:∀z g w,J w→I z w→XP P all C K rest (Kt (S z) (mix D f1 g)) w) :
  ∀(k:Nat) (ls:Array Bool) (f:Fr) (w:World),ls.size=all.length→J w→XG all.toArray dp opn rest k ls=true→(∀t,YQ D t=false→f t=f1 t)→(∀i∈opn,ls.getD i false=true→Φ i (sl (QJ all i).dst f) w) →
   (∀i∈opn,ls.getD i false=true→(∀b∈ow (sl (QJ all i).dst f),b<w.heap.size)∧∀j∈opn,ls.getD j false=true→i≠j→∀b∈ow (sl (QJ all i).dst f),b∉ow (sl (QJ all j).dst f))→XA P all C K (k+rest.length) ls f w
 | 0,ls,f,w,hsz,hC,hp,hf,hphi,hdj=>by
  simp only[XG,Bool.and_eq_true,List.all_eq_true] at hp
  obtain ⟨z,h1,h2⟩:=hconv f w (Fa.of fun i hi=>hphi i hi (hp.2 i hi)) (fun i hi j hj hij=>(hdj i hi (hp.2 i hi)).2 j hj (hp.2 j hj) hij)
  have h3:=fin z f w hC h2
  rw[YM hf,Ye h1] at h3
  rw[Nat.zero_add]
  exact Zr hs rest ls f w hsz (.inl (hJC _ hC)) hp.1 h3
 | k+1,ls,f,w,hsz,hC,hp,hf,hphi,hdj=>by
  simp only[XG,Bool.and_eq_true,List.all_eq_true,List.contains_iff_mem] at hp
  obtain ⟨hne,hp⟩:=hp
  rw[Nat.add_right_comm]
  refine YB (fun h0=>(by rw[h0] at hne;cases hne)) ?_
  intro i hi o ho
  obtain ⟨⟨hio,hdp⟩,hgo⟩:=hp i hi
  obtain ⟨hg,d,hd,hdD⟩:=(ZU hop).1 i hio
  have hdis:=(ZU hop).2
  have hsp:=Fa.all spec i hio f w hC
  rw[YM hf] at hsp
  have hsp:=hsp (Fa.of fun j hj=>hphi j (hdp j hj).1 (hdp j hj).2)
  have hoi:=Q9 ho
  rw[hoi] at hg hd hsp
  rw[Xq hg,cond_true]
  refine hsp.mono fun v w' hx=>?_
  have hC':=hCs w w' hC hx.1
  have hz:=hx.1.size
  have old:∀j∈opn,j≠i→sl (QJ all j).dst (QU f o.dst v)=sl (QJ all j).dst f:=fun j hj hij=>by
   obtain ⟨_,dj,hdj',_⟩:=(ZU hop).1 j hj
   have hne:o.dst≠some dj:=fun e=>hdis j hj i hio hij (by rw[hdj',hoi];exact e.symm)
   rw[hdj']
   exact ZL hne v
  have lsj:∀j,j≠i→(ls.setIfInBounds i true).getD j false=true→ls.getD j false=true:=fun j hij h=>by rw[getD_set_ne false (Ne.symm hij)] at h;exact h
  refine ⟨.inr (.inr (hJC _ hC')),Qar hs hop hJC hCs stab hconv spec fin k _ _ _ (by simpa using hsz) hC' hgo (fun t ht=>?_) (fun j hj hlj=>?_) (fun j hj hlj=>⟨fun b hb=>?_,fun k hk hlk hjk b hb hbk=>?_⟩)⟩
  ·rw[ZL (by rw[hd];intro e;cases e;rw[hdD] at ht;cases ht)];exact hf t ht
  ·by_cases hij:j=i
   ·subst hij
    have h2:=hx.2.1
    rw[hoi];exact h2
   ·rw[old j hj hij]
    exact stab _ _ _ _ (hphi j hj (lsj j hij hlj)) hx.1
  ·by_cases hij:j=i
   ·subst hij
    rw[hoi] at hb
    exact (hx.2.2 b hb).2
   ·rw[old j hj hij] at hb
    have:=(hdj j hj (lsj j hij hlj)).1 b hb
    omega
  ·by_cases hij:j=i
   ·subst hij
    have hki:k≠j:=Ne.symm hjk
    rw[old k hk hki] at hbk
    rw[hoi] at hb
    have h1:=(hdj k hk (lsj k hki hlk)).1 b hbk
    have h2:=(hx.2.2 b hb).1
    omega
   ·rw[old j hj hij] at hb
    have h1:=(hdj j hj (lsj j hij hlj)).1 b hb
    by_cases hki:k=i
    ·subst hki
     rw[hoi] at hbk
     have h2:=(hx.2.2 b hbk).1
     omega
    ·rw[old k hk hki] at hbk
     exact (hdj j hj (lsj j hij hlj)).2 k hk (lsj k hki hlk) hjk b hb hbk
theorem Qau {α:Type}{Q:Exit→Fr→World→Prop}{id:Nat}(C J:World→Prop) (pre:List (Nat×Bool)) (dp:Nat→LN) (opn:LN) (rest:List (Nat×Bool)) (D:List (Nat×Nat)) (Φ:Nat→Value→World→Prop) (S:α→List (Nat×Value)) (I:α→World→Prop)
  (hm:P.follows .mixedOrders=true) (hn:YS n all=true) (hp:Qcx all dp pre opn rest D=true) (hC:J { w with drawn:=w.drawn+1 }) (hJC:∀w,J w→C w) (hCs:∀w w',J w→Step [] w w'→J w') (stab:∀i v w w',Φ i v w→Step [] w w'→Φ i v w')
  (hconv:∀(g:Fr) w,Fa (fun i=>Φ i (sl (QJ all i).dst g) w) opn→(∀i∈opn,∀j∈opn,i≠j→∀b∈ow (sl (QJ all i).dst g),b∉ow (sl (QJ all j).dst g))→∃z,Yz g (S z)∧I z w)
  (h:XP P all C (fun f1 _=>Fa (fun i=>∀g w,J w→Fa (fun j=>Φ j (sl (QJ all j).dst (mix D f1 g)) w) (dp i)→XO P (QJ all i) (mix D f1 g) w (fun f' w'=>Step [] w w'∧Φ i (sl (QJ all i).dst f') w'∧∀b∈ow (sl (QJ all i).dst f'),w.heap.size≤b∧b<w'.heap.size)) opn ∧
   ∀z g w,J w→I z w→XP P all C (fun f w=>Q .normal f w) rest (Kt (S z) (mix D f1 g)) w) pre f { w with drawn:=w.drawn+1 }):W P n (.region id all.toArray true) Q f w:=by
 simp only[Qcx,Bool.and_eq_true,beq_iff_eq,List.all_eq_true,Bool.not_eq_true'] at hp
 obtain ⟨⟨⟨⟨⟨hs,hl⟩,hq⟩,hop⟩,hgo⟩,hun⟩:=hp
 refine YH C hm hn ?_
 rw[←hl]
 have hsz:(Array.replicate all.length false).size=all.length:=by simp
 have h1:=ZF (K:=fun f w=>Q .normal f w) (m:=opn.length+rest.length) hs pre (Array.replicate all.length false) f _ (hJC _ hC) hq (fun f1 hB=>Qar (P:=P) (C:=C) hs hop hJC hCs stab hconv hB.1 hB.2 opn.length (Zq pre (Array.replicate all.length false)) f1 _ (by rw[ZD];exact hsz) hC hgo (fun _ _=>rfl) (fun i hi ht=>by rw[hun i hi] at ht;cases ht) (fun i hi ht=>by rw[hun i hi] at ht;cases ht)) h
 rw[hl] at h1 ⊢
 exact h1
end
end Go.Lg
namespace Go.Proofs.YtgmifemhkjdblaaGreatDoor
open Go.Lg
instance:Ay Tryz.prog 26 3 25 27:=⟨by kernel_rfl,by kernel_rfl⟩
instance:Ay Tryz.prog 28 2 5 1:=⟨by kernel_rfl,by kernel_rfl⟩
abbrev z27:LV:=List.replicate 27 (.int .u8 0)
theorem Qhf (p:Int×Int):∀u∈Q8 p,u.oneCell'=true:=by
 intro y hy
 simp only[Q8,List.mem_cons,List.not_mem_nil,or_false] at hy
 rcases hy with rfl | rfl <;> rfl
set_option maxHeartbeats 16000000 in
theorem Qdg {w:World}{l:LnV}(h:LnA [] w.heap l) :
  QG Tryz.prog 10 [.agg (YN l).toArray] w fun r w'=>Step [] w w'∧∃k,QiB w.heap.size w'.heap r k∧Sml k:=by
 have hln:=Qe7 h.n
 have g81:=jD h.n 0
 have g82:=jD h.n 1
 have g83:=jD h.n 2
 have g84:=jD h.n 3
 have g85:=jD h.n 4
 have hct:=h.ct
 have hcl:=h.cl
 have hx0:=h.x0
 have hx1:=h.x1
 have hrl:=h.r.le
 refine Zf (1+l.ct % 3) fun n hn=>?_
 have hn3:1≤n∧n≤3:=by omega
 refine QG.of_W Tryz.func10 rfl Tryz.ntmps10 Tryz.results10 (by simp) ?_
 refine Qc<|xl rfl<|QR (us:=YN l) rfl fun b1 w1 hs1 hb1 hB1=>xl rfl<|Qu (us:=YL) rfl fun b2 w2 hs2 hb2 hB2=>xe ?_
 refine Qc<|xl rfl<|Qu (us:=YL) rfl fun b3 w3 hs3 hb3 hB3=>xe ?_
 have hs03:=(hs1.trans hs2).trans hs3
 have hs13:=hs2.trans hs3
 have hz1:=hs1.size
 have hz2:=hs2.size
 have hz3:=hs3.size
 have hl1:=hB1.lt
 have hl2:=hB2.lt
 have hl3:=hB3.lt
 have hB13:=hB1.ext hs13
 have hB23:=hB2.ext hs3
 have n13:b1∉[b3]:=by simp only[List.mem_singleton];omega
 have n23:b2∉[b3]:=by simp only[List.mem_singleton];omega
 have hR3:Zs [b3] w3.heap l.vr l.rs.length 28 (l.rs.flatMap Yg):=(h.r.up (L':=[b3]) (fun b hb=>.inr (by simp only[List.mem_singleton] at hb;omega))).ext hs03
 refine QV (α:=Value×List KK) [(4,4),(15,35)] (fun _=>[]) (fun z w'=>Step [b3] w3 w'∧QS w'.heap b3 38 [z.1,Za,Za,Za,Za]∧w'.ownsRow w3.heap.size 97 5 z.1 z.2.length (z.2.flatMap Zn)∧z.2.length=5∧∀e∈z.2,VZ e.nm) (by rfl) ?_ ?_
 ·refine Qc<|Qf ?_
  refine Qh<|QA (α:=Nat×Value×List KK) [(4,4),(15,35)] (fun z=>[(4,.int .i64 z.1)]) (fun z w'=>z.1≤5∧Step [b3] w3 w'∧QS w'.heap b3 38 [z.2.1,Za,Za,Za,Za]∧w'.ownsRow w3.heap.size 97 5 z.2.1 z.2.2.length (z.2.2.flatMap Zn)∧z.2.2.length=z.1∧∀e∈z.2.2,VZ e.nm) (fun z=>5 - z.1) (by rfl) (0,Za,[]) ⟨rfl,trivial⟩
   ⟨Nat.zero_le _,Step.refl _ _,hB3,QP _ _ _ _,rfl,fun e he=>by cases he⟩ ?_
  rintro ⟨k,v,ev⟩ g w4 ⟨hk,hs4,hB4,ho4,hevl,hnm⟩
  simp only[] at hk hB4 ho4 hevl hnm
  have hz4:=hs4.size
  refine Qg<|Qc<|Qb<|x (QB rfl rfl)<|xe ?_
  refine QD rfl (fun h16=>?_) (fun h16=>?_)
  ·refine Qz ?_
   have hke:k=5:=by have h17:¬(k:Int)<5:=h16;omega
   exact ⟨(v,ev),trivial,hs4,hB4,ho4,by simp only[];omega,hnm⟩
  have hlt:k<5:=by have h17:(k:Int)<5:=h16;omega
  refine Qi ?_
  have hn3v:b3∉ob v:=QY ho4 hl3
  have hn1v:b1∉ob v:=QY ho4 (by omega)
  have hB14:=hB13.step hs4 n13
  have hdv:l.cl / 2 ^ k<256:=Nat.lt_of_le_of_lt (Nat.div_le_self _ _) hcl
  have hd4:Step [] w4 { w4 with drawn:=w4.drawn+1 }:=Step.drew _ _
  refine Qg<|Qh<|QT (Step (ob v) w4) [(0,true),(1,true),(2,true),(3,true),(4,true),(7,true),(8,true),(9,true),(10,true),(11,true),(12,true),(5,false),(6,false),(13,true),(14,false),(15,false),(16,true),(17,false)] Tryz.mixed (by rfl) (by kernel_rfl) (Step.drew _ _) ?_
  refine p (fun _=>Qa rfl)<|pq (fun _ hc=>Qd (hB4.step hc hn3v) rfl rfl)<|p (fun _=>Qm)<|p (fun _=>YU (k':=.u8) rfl ⟨by omega,by omega⟩)<|p (fun _=>Qy rfl rfl ⟨by omega,by omega⟩) <|
   p (fun _=>Qa rfl)<|pq (fun _ hc=>Qd (hB14.step hc hn1v) rfl g85)<|p (fun _=>Qm)<|p (fun _=>Ut (n:=k) rfl rfl (by show k≤8;omega))<|p (fun _=>Qa0 (a:=l.cl / 2 ^ k) (b:=1) (congrArg (Value.int .u8) (V3 l.cl k)) rfl hdv (by decide)) <|
   p (fun _=>Zm rfl rfl)<|pk<|QI (us:=[[.int .u8 ((97:Int)+(k:Int))]]) rfl rfl (by decide) (by simp) ⟨rfl,rfl,trivial⟩ fun b24 w5 hs5 hb24 hB24=>⟨(hd4.trans hs5).any,?_⟩
  have e97:((97:Int)+(k:Int))=((97+k:Nat):Int):=by omega
  have hB24':QS w5.heap b24 5 [.int .u8 ((97+k:Nat):Int)]:=by rw[←e97];exact hB24
  refine pk<|xv (QaU (n:=97+k) hB24' (by omega) rfl) ⟨(hd4.trans hs5).any,?_⟩
  refine Zf (KK.mk ⟨#[UInt8.ofNat (97+k)]⟩ (decide (((l.cl / 2 ^ k &&& 1:Nat):Int)=1)) false false 0) fun e he=>?_
  refine p (fun _=>QN ⟨rfl,rfl,trivial⟩)<|pk<|QI (us:=[Zn (KK.mk ⟨#[UInt8.ofNat (97+k)]⟩ (decide (((l.cl / 2 ^ k &&& 1:Nat):Int)=1)) false false 0)]) rfl rfl (by decide) (show 1*5≤1000000 by omega) ⟨rfl,rfl,trivial⟩ fun b33 w6 hs6 hb33 hB33=>?_
  rw[he] at hB33
  have hs46:=(hd4.trans hs5).trans hs6
  have hz46:=hs46.size
  refine ⟨hs46.any,?_⟩
  refine pk<|Q2 (news:=Zn e) (L:=[]) (Qt ho4 hs46) rfl rfl rfl (hB33.at (by simp)) (QfK e) (by omega) (by omega) fun v7 w7 ho7 hs7 hn7=>⟨(hs46.any (L:=ob v)).trans' hs7,?_⟩
  have hone:=QO ho7
  refine p (fun _=>Qa rfl)<|pkl (hl:=by kernel_rfl)<|QF ((hB4.ext hs46).step hs7 hn3v) rfl rfl (by simp) hone fun w8 hs8 hB8=>pe ?_
  have hge:=Qp ho4
  have hge7:∀b∈ob v7,w3.heap.size≤b:=fun b hb=>(Qp ho7 b hb).1
  refine Qw<|Qb<|x (Qy rfl rfl ⟨by omega,by omega⟩)<|Qf ?_
  refine ⟨(k+1,v7,ev++[e]),by simp only[];omega,⟨rfl,trivial⟩,hlt,((hs4.trans hs46).then hs7 (fun b hb=>.inr (hge b hb).1)).trans' hs8,hB8,?_,by simp[hevl],fun d hd=>?_⟩
  ·have h9:=Qk ho7 hs8 (fun b hb=>by have:=hge7 b hb;simp only[List.mem_singleton];omega)
   simp only[List.length_append,List.flatMap_append]
   simpa using h9
  ·rcases List.mem_append.1 hd with hd | hd
   ·exact hnm d hd
   ·rw[List.mem_singleton.1 hd,←he];exact Xg (by simp)
 rintro ⟨ve,ev⟩ g4 w4 ⟨hs4,hB4,ho4,hevl,hnm⟩
 simp only[] at hB4 ho4 hevl hnm
 have hz4:=hs4.size
 have FE4:∀L:LN,(∀b∈L,b<w3.heap.size)→Jz L w4.heap ve ev:=fun L hL=>⟨QX ho4 (by omega) (fun b hb hbL=>by have:=(Qp ho4 b hb).1;have:=hL b hbL;omega),hnm⟩
 refine Qc<|xl rfl<|QI (us:=[[.int .i64 0]]) rfl rfl (by decide) (by simp) ⟨rfl,rfl,trivial⟩ fun b36 w5 hs5 hb36 hB36=>xl rfl<|QI (us:=[[.int .i64 1],[.int .i64 2]]) rfl rfl (by decide) (by simp) ⟨rfl,rfl,rfl,rfl,trivial⟩ fun b37 w6 hs6 hb37 hB37 =>
  xl rfl<|QI (us:=[[.int .i64 3],[.int .i64 4]]) rfl rfl (by decide) (by simp) ⟨rfl,rfl,rfl,rfl,trivial⟩ fun b38 w7 hs7 hb38 hB38=>xl rfl<|QI (us:=[[.slice (some ⟨b36,0,none⟩) 1 1],[.slice (some ⟨b37,0,none⟩) 2 2],[.slice (some ⟨b38,0,none⟩) 2 2]]) rfl rfl (by decide) (by simp) ⟨rfl,rfl,rfl,rfl,rfl,rfl,trivial⟩ fun b39 w8 hs8 hb39 hB39 =>
  Qf ?_
 refine Qc<|Qf ?_
 have hz5:=hs5.size
 have hz6:=hs6.size
 have hz7:=hs7.size
 have hz8:=hs8.size
 have hs48:=((hs5.trans hs6).trans hs7).trans hs8
 have hs38:=hs4.trans hs48
 have hT8:∃tl:List TV,tl.length=3∧(∀i (h:i<tl.length),∃tv,tl[i]'h=(tv,VW i))∧∀L:LN,(∀b∈L,b<w4.heap.size∨w8.heap.size≤b)→Xv L w8.heap (.slice (some ⟨b39,0,none⟩) 3 3) tl:=by
  have k36:=hB36.lt
  have k37:=hB37.lt
  have k38:=hB38.lt
  have k39:=hB39.lt
  refine ⟨[(.slice (some ⟨b36,0,none⟩) 1 1,VW 0),(.slice (some ⟨b37,0,none⟩) 2 2,VW 1),(.slice (some ⟨b38,0,none⟩) 2 2,VW 2)],rfl,fun i hi=>?_,fun L hL=>?_⟩
  ·have h3:i=0∨i=1∨i=2:=by have:i<3:=hi;omega
   rcases h3 with rfl | rfl | rfl
   ·exact ⟨_,rfl⟩
   ·exact ⟨_,rfl⟩
   ·exact ⟨_,rfl⟩
  have nL:∀{b:Nat},w4.heap.size≤b→b<w8.heap.size→b∉L:=fun h1 h2 hm=>by have:=hL _ hm;omega
  refine ⟨hB39.arr (nL (by omega) k39) (n:=3) (cap:=3) (sz:=1) rfl (by omega) (Nat.le_refl _),fun q hq=>?_⟩
  simp only[List.mem_cons,List.not_mem_nil,or_false] at hq
  rcases hq with rfl | rfl | rfl
  ·exact (((hB36.ext hs6).ext hs7).ext hs8).arr (nL (by omega) (by omega)) (n:=1) (cap:=1) (sz:=1) rfl (by omega) (Nat.le_refl _)
  ·exact ((hB37.ext hs7).ext hs8).arr (nL (by omega) (by omega)) (n:=2) (cap:=2) (sz:=1) rfl (by omega) (Nat.le_refl _)
  ·exact (hB38.ext hs8).arr (nL (by omega) (by omega)) (n:=2) (cap:=2) (sz:=1) rfl (by omega) (Nat.le_refl _)
 obtain ⟨tl,htl3,htlq,hT8⟩:=hT8
 refine QV (α:=Value×Value×List IV) [(6,8),(40,80)] (fun z=>[(6,z.2.1)]) (fun z w'=>Step [b3] w8 w'∧QS w'.heap b3 38 [ve,z.1,Za,Za,Za]∧qy w8.heap.size w' z.1 z.2.1 z.2.2 (al5 n)∧z.2.2.length=n∧∀q∈z.2.2,VZ q.nm∧GdA q.p.a) (by rfl) ?_ ?_
 ·refine Qc<|Qf ?_
  refine Qh<|QA (α:=Nat×Value×Value×List IV) [(6,8),(40,80)] (fun z=>[(6,z.2.2.1),(7,.int .i64 z.1)]) (fun z w'=>z.1≤n∧Step [b3] w8 w'∧QS w'.heap b3 38 [ve,z.2.1,Za,Za,Za]∧qy w8.heap.size w' z.2.1 z.2.2.1 z.2.2.2 (al5 z.1)∧z.2.2.2.length=z.1∧∀q∈z.2.2.2,VZ q.nm∧GdA q.p.a) (fun z=>n - z.1) (by rfl) (0,Za,Za,[]) ⟨rfl,rfl,trivial⟩
   ⟨Nat.zero_le _,Step.refl _ _,hB4.ext hs48,qy.nil,rfl,fun q hq=>by cases hq⟩ ?_
  rintro ⟨i,vc,va,co⟩ g w9 ⟨hi,hs9,hB9,hM9,hcol,hgd⟩
  simp only[] at hi hB9 hM9 hcol hgd
  have hz9:=hs9.size
  have hs39:Step [b3] w3 w9:=hs38.trans' hs9
  have hB19:=hB13.step hs39 n13
  have g81':(YN l)[81]?=some (.int .u8 (l.ct:Int)):=g81
  refine Qg<|Qc<|Qb<|x (Qa rfl)<|x (Qd hB19 rfl g81')<|x (Uu (a:=(l.ct:Int)) (b:=3) rfl rfl (by omega) (by omega))<|x (YU (k':=.i64) rfl ⟨by omega,by omega⟩)<|x (Qy rfl rfl ⟨by omega,by omega⟩)<|x (QB rfl rfl) <|
   xe ?_
  refine QD rfl (fun h46=>?_) (fun h46=>?_)
  ·refine Qz ?_
   have h47:¬(i:Int)<1+(l.ct:Int) % 3:=h46
   have hie:i=n:=by omega
   rw[hie] at hM9 hcol
   exact ⟨(vc,va,co),⟨rfl,trivial⟩,hs9,hB9,hM9,hcol,hgd⟩
  have h47:(i:Int)<1+(l.ct:Int) % 3:=h46
  have hlt:i<n:=by omega
  refine Qi ?_
  have hgl:(grN l.ns (0+0+i*27)).length=27:=Qjl (by have:=h.n;omega)
  have hglt:=QkK (o:=0+0+i*27) h.b
  have hgs:=fun j u=>QkH (l:=l) (o:=0+0+i*27) j u
  refine Zf (grN l.ns (0+0+i*27)) fun gr hgr=>?_
  rw[hgr] at hgl hglt hgs
  have q0:=VI (ns:=gr) (j:=0) (by omega)
  have q0l:=J7 hglt 0
  refine Zf (gr.getD 0 0) fun s0 hs0=>?_
  rw[hs0] at q0 q0l
  refine Qg<|Qh<|Qc<|Qb<|x (Qa rfl)<|x (YK (i:=i) rfl rfl (by omega))<|x (Qc8 (us:=bys gr) hB19 rfl (by rw[Ys];exact hgl) hgs)<|xl rfl<|Qu (us:=z27) rfl fun b8 w10 hs10 hb8 hB8=>xl rfl<|Qo (us:=bys gr) hB8 rfl rfl (by rw[Ys];exact hgl) rfl (qa gr) fun w11 hs11 hB811 =>
   xe ?_
  have hs911:Step [] w9 w11:=hs10.then1 hs11 hb8
  refine Qc<|x (Qa rfl)<|x (Qd hB811 rfl q0)<|x (Uu (a:=(s0:Int)) (b:=3) rfl rfl (by omega) (by omega))<|x (Qa rfl)<|xl rfl<|QF (u:=.int .u8 ((s0 % 3:Nat):Int)) hB811 rfl (congrArg (Value.int .u8) (by omega:(s0:Int) % 3=((s0 % 3:Nat):Int))) (by rw[Ys];omega) rfl fun w12 hs12 hB812 =>
   xe ?_
  rw[Qai] at hB812
  have hl8:=hB8.lt
  have hs912:Step [] w9 w12:=hs911.then1 hs12 hb8
  have hz912:=hs912.size
  have hz10:=hs10.size
  have hz11:=hs11.size
  have hB912:=hB9.ext hs912
  have hM12:=hM9.ext hs912
  have hn3v:b3∉ob vc:=QY hM12.c (by omega)
  have hn8v:b8∉ob vc:=fun hm=>by have:=Q0 hM9.c b8 hm;omega
  have hl12:(gr.set 0 (s0 % 3)).length=27:=by rw[List.length_set];exact hgl
  have hlt12:=QbT (n:=s0 % 3) hglt (by omega)
  have hg012:=jj (ns:=gr) (n:=s0 % 3) (by omega)
  refine Zf (gr.set 0 (s0 % 3)) fun gr2 hgr2=>?_
  rw[hgr2] at hB812 hl12 hlt12 hg012
  have hT12:Xv (b3::(ob vc++ob va)) w12.heap (.slice (some ⟨b39,0,none⟩) 3 3) tl:=by
   have h1:=hT8 (b3::(ob vc++ob va)) (fun b hb=>by
    rcases List.mem_cons.1 hb with rfl | hb
    ·exact .inl (by omega)
    ·rcases List.mem_append.1 hb with hb | hb
     ·exact .inr (Qp hM9.c b hb).1
     ·exact .inr (Qp hM9.a b hb).1)
   exact (h1.st (hs9.mono (by simp))).ext hs912
  have hti:i<tl.length:=by omega
  obtain ⟨tv,htv⟩:=htlq i hti
  have htm:=List.getElem_mem hti
  rw[htv] at htm
  have hsI:=Qem i
  have hu8:(48:Int)+(i:Int)=((48+i:Nat):Int):=by omega
  refine QV (α:=Value×List IV) [(57,74)] (fun _=>[]) (fun z w'=>Step (b3::ob vc) w12 w'∧QS w'.heap b3 38 [ve,z.1,Za,Za,Za]∧qy w8.heap.size w' z.1 va z.2 (al5 i)∧z.2.length=i+1∧∀q∈z.2,VZ q.nm∧GdA q.p.a) (by rfl) ?_ ?_
  ·refine Zf (⟨#[109]⟩++⟨#[UInt8.ofNat (48+i)]⟩:ByteArray) fun nm hnm=>?_
   have hnmB:VZ nm:=by rw[←hnm];show (ByteArray.size _)≤_;rw[ByteArray.size_append];show 1+1≤_;omega
   refine Qau (α:=AV) (Step (ob vc) w12) (Step [] w12) [(0,true),(1,true),(2,true),(3,true),(4,true),(8,true),(9,true),(10,true),(11,true),(12,true)] (fun i=>if i=6 then [5] else if i=7 then [6] else []) [5,6,7,13] [(14,true),(15,false),(16,false),(17,true),(18,false)] [(62,64),(70,70)] (mkP w12.heap.size (48+i) nm)
    (fun z=>[(64,.string nm),(70,Qgd z)]) (fun z w'=>Qj1 w12.heap.size w' z) Tryz.mixed (by rfl) (by kernel_rfl) (Step.drew _ _) (fun _ h=>h.any) (fun _ _ h1 h2=>h1.trans h2) Qb9 ?_ ?_
   ·rintro g w' ⟨_,_,h7,⟨q,e,hA⟩,_⟩ hdj
    exact ⟨q,⟨h7,e,trivial⟩,hA⟩
   refine p (fun _=>Qa rfl)<|pq (fun _ hc=>Qd (hB912.step hc hn3v) rfl rfl)<|p (fun _=>Qm)<|p (fun _=>YU (k':=.u8) rfl ⟨by omega,by omega⟩)<|p (fun _=>Qy rfl rfl ⟨by omega,by omega⟩) <|
    p (fun _=>Qm)<|p (fun _=>Qm)<|Go.Lg.pig (g:=Z5) (i:=i) rfl (fun _=>rfl) hT12.arr rfl rfl hti fun a67 h67=>?_
   rw[htv] at h67
   refine pq (fun _ hc=>Qv (h67.step hc (fun b hb=>by simp[hb])) rfl)<|pq (fun _ hc=>Qq (hB812.step hc hn8v) rfl (by rw[Ys];exact hl12))<|pe ⟨⟨?_,?_,?_,?_,trivial⟩,?_⟩
   ·intro g w' hc _
    exact QI (us:=[[.int .u8 ((48:Int)+(i:Int))]]) rfl rfl (by decide) (by simp) ⟨rfl,rfl,trivial⟩ fun b w13 hs13' hb hB=>⟨hs13',⟨b,rfl,by rw[←hu8];exact hB⟩,fun c hc'=>by rw[List.mem_singleton.1 (show c∈[b] from hc')];exact ⟨hb,hB.lt⟩⟩
   ·rintro g w' hc ⟨⟨b,e,hB⟩,_⟩
    exact xv (QaU (n:=48+i) hB (by omega) e) ⟨Step.refl _ _,rfl,fun c hc'=>by cases hc'⟩
   ·rintro g w' hc ⟨e,_⟩
    exact xv (Jc (a:=⟨#[109]⟩) (b:=⟨#[UInt8.ofNat (48+i)]⟩) rfl e (by show 1+1≤1000000000;omega)) ⟨Step.refl _ _,congrArg Value.string hnm,fun c hc'=>by cases hc'⟩
   ·intro g w' hc _
    have hz:=hc.size
    have hi1:QL (b3::(ob vc++ob va)) w'.heap tv (VW i):=(hT12.each _ htm).ext hc
    refine xf<|(zf (ns:=gr2) hi1 (Qg2 i) (Qen i) hl12 hlt12).mono ?_
    rintro r w13 ⟨hs13',a,⟨xa,xm,xe',rfl,hA⟩,hok,h5,hal,hcan⟩
    obtain ⟨a0,k1,k2,k3,k4⟩:=hcan (by omega)
    rw[hg012] at k3
    exact ⟨hs13',⟨⟨xa,xm,xe',a⟩,rfl,fun L hL=>hA L (fun b hb=>by have:=hL b hb;omega),GdA.of k1 k2 k3 k4 (by omega)⟩,fun c hc'=>by cases hc'⟩
   rintro q g w13 hc13 ⟨hA13,hG13⟩
   have hz13:=hc13.size
   have hA0:=hA13 [] (by simp)
   refine p (fun _=>Zw [(0,[.string nm]),(1,[q.va,.int .i64 q.a.st,q.vm,q.ve])] ⟨rfl,rfl,rfl,rfl,trivial⟩)<|pk<|QI (us:=[Zh ⟨nm,q⟩]) rfl rfl (by decide) (show 1*5≤1000000 by omega) ⟨rfl,rfl,trivial⟩ fun b72 w14 hs14 hb72 hB72=>⟨(hc13.trans hs14).any,?_⟩
   have hc14:=hc13.trans hs14
   have hz14:=hs14.size
   have hM14:=hM12.ext hc14
   refine pk<|Q2 (news:=Zh ⟨nm,q⟩) (L:=[]) hM14.c rfl rfl rfl (hB72.at (by simp)) (Qcj hA0.al.one hA0.mr.one hA0.ed.one) (by omega) (by omega) fun v15 w15 ho15 hs15 hn15=>⟨(hc14.any (L:=ob vc)).trans' hs15,?_⟩
   have hM15:=hM14.setC (jK (q:=⟨nm,q⟩) (N:=w12.heap.size) (fun L hL=>(hA13 L hL).ext hs14) (by omega) hM12.avlt) ho15 hs15 hn15
   refine p (fun _=>Qa rfl)<|pkl (hl:=by kernel_rfl)<|QF ((hB912.ext hc14).step hs15 hn3v) rfl rfl (by simp) (QO ho15) fun w16 hs16 hB16=>pe ?_
   refine ⟨(v15,co++[⟨nm,q⟩]),trivial,((hc14.any (L:=b3::ob vc)).trans' (hs15.mono (fun b hb=>List.mem_cons_of_mem _ hb))).trans' (hs16.mono (by simp)),hB16,hM15.low hs16 (fun b hb=>by rw[List.mem_singleton.1 hb];omega),by simp only[List.length_append,List.length_singleton];omega,fun d hd=>?_⟩
   rcases List.mem_append.1 hd with hd | hd
   ·exact hgd d hd
   ·rw[List.mem_singleton.1 hd];exact ⟨hnmB,hG13⟩
  rintro ⟨vc2,co2⟩ g16 w16 ⟨hs16,hB16,hM16,hcol16,hgd16⟩
  simp only[] at hB16 hM16 hcol16 hgd16
  have hz16:=hs16.size
  have hgeC:=Qp hM9.c
  have hgeA:=Qp hM9.a
  have hs816:Step [b3] w8 w16:=(hs9.trans hs912).then hs16 (fun b hb=>by
   rcases List.mem_cons.1 hb with rfl | hb
   ·exact .inl (by simp)
   ·exact .inr (hgeC b hb).1)
  have hT16:=hT12.st (hs16.mono (L':=b3::(ob vc++ob va)) (fun b hb=>by
   rcases List.mem_cons.1 hb with rfl | hb
   ·simp
   ·simp[hb]))
  have hIt:QL (b3::(ob vc++ob va)) w16.heap tv (VW i):=hT16.each _ htm
  obtain ⟨ta,tc,hte,hta⟩:=Zs.full hIt hsI.1
  have hal5:=QcK i
  refine Qw<|Qb<|Qb<|Qb<|Go.Lg.xig (g:=Z5) (i:=i) (fun _=>rfl) hT16.arr rfl rfl hti fun a78 h78=>?_
  rw[htv] at h78
  refine x (Qv h78 rfl)<|xl rfl<|Q2 (news:=(VW i).map (.int .i64)) hM16.a rfl (show Go.Lg.ev _ _=_ from hte) (by simp) hta (by simp[Value.oneCell']) (by omega) (by omega) fun v17 w17 ho17 hs17 hn17 =>
   Qf ?_
  have ho17':Qs 3 w8.heap.size w17 v17 (al5 (i+1)):=by
   rw[Qgf (by omega)]
   unfold Qs
   rw[List.length_append,List.map_append]
   exact ho17
  have hM17:=hM16.setA ho17' hs17 hn17
  refine Qw<|Qb<|x (Qy rfl rfl ⟨by omega,by omega⟩)<|Qf ?_
  exact ⟨(i+1,vc2,v17,co2),by simp only[];omega,⟨rfl,rfl,trivial⟩,hlt,hs816.then hs17 (fun b hb=>.inr (hgeA b hb).1),hB16.step hs17 (QY hM16.a (by omega)),hM17,hcol16,hgd16⟩
 rintro ⟨vc,va,co⟩ g9 w9 ⟨hs9,hB9,hM9,hcol9,hgd9⟩
 simp only[] at hB9 hM9 hcol9 hgd9
 have hz9:=hs9.size
 have hs39:Step [b3] w3 w9:=hs38.trans' hs9
 have FE9:=Va (fun L hL=>(FE4 L hL).ext hs48) hl3 hs9
 have FI9:∀L:LN,(∀b∈L,b<w3.heap.size)→YR L w9.heap vc co:=fun L hL=>hM9.itms (by omega) (fun q hq=>(hgd9 q hq).1) (fun b hb=>by have:=hL b hb;omega)
 have hal5:=QcK n
 refine QV (α:=Value×List IV) [(9,11),(81,128)] (fun _=>[]) (fun z w'=>Step [b3] w9 w'∧QS w'.heap b3 38 [ve,vc,z.1,Za,Za]∧IvP w9.heap.size w' z.1 z.2∧z.2.length≤2∧∀q∈z.2,VZ q.nm∧GdA q.p.a) (by rfl) ?_ ?_
 ·refine Qc<|Qf ?_
  refine Qh<|QA (α:=Nat×Value×List IV) [(9,11),(81,128)] (fun z=>[(9,.int .i64 z.1)]) (fun z w'=>z.1≤2∧Step [b3] w9 w'∧QS w'.heap b3 38 [ve,vc,z.2.1,Za,Za]∧IvP w9.heap.size w' z.2.1 z.2.2∧z.2.2.length≤z.1∧∀q∈z.2.2,VZ q.nm∧GdA q.p.a) (fun z=>2 - z.1) (by rfl) (0,Za,[]) ⟨rfl,trivial⟩
   ⟨Nat.zero_le _,Step.refl _ _,hB9,Xe.nil,Nat.le_refl _,fun q hq=>by cases hq⟩ ?_
  rintro ⟨i,vr,rq⟩ g w10 ⟨hi,hs10,hB10,hM10,hrl10,hgd10⟩
  simp only[] at hi hB10 hM10 hrl10 hgd10
  have hz10:=hs10.size
  have hs310:Step [b3] w3 w10:=hs39.trans' hs10
  have hB110:=hB13.step hs310 n13
  have hR10:=hR3.st hs310
  have g82':(YN l)[82]?=some l.vr:=g82
  refine Qg<|QV (α:=Unit) [(81,89)] (fun z=>[(89,.bool (decide (i<l.rs.length∧i<2)))]) (fun z w'=>w'=w10) (by rfl) ?_ ?_
  ·refine Qw<|Qb<|x (Qa rfl)<|x (Qd hB110 rfl g82')<|x (Qr hR10 rfl)<|xb (QB rfl rfl) (fun h85=>?_) (fun h85=>?_)
   ·refine Qb<|Qb<|x (QB rfl rfl)<|x (Qn rfl)<|xe ?_
    refine ⟨(),⟨congrArg Value.bool ?_,trivial⟩,rfl⟩
    exact decide_eq_decide.2 ⟨fun e=>⟨by omega,by omega⟩,fun e=>by omega⟩
   refine Qb<|xs rfl<|xs rfl<|x (Qn rfl)<|xe ?_
   exact ⟨(),⟨congrArg Value.bool (decide_eq_false (fun e=>h85 (by omega))).symm,trivial⟩,rfl⟩
  rintro _ g11 w11 rfl
  refine QD rfl (fun h89=>?_) (fun h89=>?_)
  ·refine Qz ?_
   exact ⟨(vr,rq),trivial,hs10,hB10,hM10,by simp only[];omega,hgd10⟩
  have hir:i<l.rs.length:=h89.1
  have hi2:i<2:=h89.2
  refine Qi ?_
  refine Qg<|Qh<|Qc<|x (Qa rfl)<|x (Qd hB110 rfl g82')<|Qb<|Go.Lg.xig (g:=Yg) (i:=i) ye hR10 rfl rfl hir fun a95 h95=>?_
  refine Zf (l.rs[i]'hir) fun pr hpr=>?_
  rw[hpr] at h95
  have hpl:(pr.1.drop 1).length=27:=by rw[List.length_drop,pr.2.1]
  have hplt:∀n∈pr.1.drop 1,n<256:=fun n hn=>pr.2.2 n (List.mem_of_mem_drop hn)
  have h95':At [b3] w11.heap (a95.add 1) (bys (pr.1.drop 1)):=by
   have h1:=h95.from 1
   rw[show (Yg pr).drop 1=bys (pr.1.drop 1) by simp[Yg,bys]] at h1
   exact h1
  have hp0:=VI (ns:=pr.1) (j:=0) (by rw[pr.2.1];omega)
  have hp0l:=J7 pr.2.2 0
  refine Zf (pr.1.getD 0 0) fun m0 hm0=>?_
  rw[hm0] at hp0 hp0l
  refine Zf (pr.1.drop 1) fun gr hgr=>?_
  rw[hgr] at hpl hplt h95'
  have q0:=VI (ns:=gr) (j:=0) (by omega)
  have q0l:=J7 hplt 0
  refine Zf (gr.getD 0 0) fun s0 hs0=>?_
  rw[hs0] at q0 q0l
  refine x (Zd rfl)<|x (QK (us:=bys gr) h95' rfl (by rw[Ys];exact hpl))<|xl rfl<|Qu (us:=z27) rfl fun b10 w12 hs12 hb10 hB10'=>xl rfl<|Qo (us:=bys gr) hB10' rfl rfl (by rw[Ys];exact hpl) rfl (qa gr) fun w13 hs13' hB1013 =>
   xe ?_
  have hs1113:Step [] w11 w13:=hs12.then1 hs13' hb10
  refine Qc<|x (Qa rfl)<|x (Qd hB1013 rfl q0)<|x (Uu (a:=(s0:Int)) (b:=3) rfl rfl (by omega) (by omega))<|x (Qa rfl)<|xl rfl<|QF (u:=.int .u8 ((s0 % 3:Nat):Int)) hB1013 rfl (congrArg (Value.int .u8) (by omega:(s0:Int) % 3=((s0 % 3:Nat):Int))) (by rw[Ys];omega) rfl fun w14 hs14 hB1014 =>
   xe ?_
  rw[Qai] at hB1014
  have hl10:=hB10'.lt
  have hs1114:Step [] w11 w14:=hs1113.then1 hs14 hb10
  have hz12:=hs12.size
  have hz13':=hs13'.size
  have hz1114:=hs1114.size
  have hl12:(gr.set 0 (s0 % 3)).length=27:=by rw[List.length_set];exact hpl
  have hlt12:=QbT (n:=s0 % 3) hplt (by omega)
  have hg012:=jj (ns:=gr) (n:=s0 % 3) (by omega)
  refine Zf (gr.set 0 (s0 % 3)) fun gr2 hgr2=>?_
  rw[hgr2] at hB1014 hl12 hlt12 hg012
  have hva11:Qs 3 w8.heap.size w11 va (al5 n):=Qk hM9.a hs10 (fun b hb hm=>by rw[List.mem_singleton.1 hm] at hb;exact QY hM9.a (by omega) hb)
  refine Qc<|x (Qa rfl)<|x (Qd (hB110.ext hs1114) rfl g82')<|Qb<|Go.Lg.xig (g:=Yg) (i:=i) ye (hR10.ext hs1114) rfl rfl hir fun a105 h105=>?_
  rw[hpr] at h105
  refine x (Zd rfl)<|x (Qv (h105.fld 0 _ hp0) rfl)<|xl rfl<|xf<|(Qbh m0 hp0l _).mono ?_
  rintro v15 w15 ⟨hs15,ho15⟩
  have hsk:=Xm m0 5
  have hva15:QL [] w15.heap va (al5 n):=(Qs.ints (L:=[]) (Qt hva11 (hs1114.trans hs15)) (by omega) (by simp))
  refine Qb<|xl rfl<|xf<|(yM (Qs.ints (L:=[]) ho15 (by omega) (by simp)) hva15 (by omega)).mono ?_
  rintro v16 w16 ⟨hs16,ho16⟩
  have hmi:=yi (· && ·) _ (setK m0 5) (al5 n) (Nat.le_refl _) (ji m0 5) (QcL n)
  have hml:=KX (· && ·) (setK m0 5) (al5 n)
  have hmb:∀e∈mrg (· && ·) (setK m0 5) (al5 n),0≤e∧e<32:=fun e he=>by
   have h1:=((V8 (keep:=(· && ·)) (ji m0 5) (QcL n)) e).1 he
   rcases h1.1 with h2 | h2
   ·have:=Qg1 m0 5 e h2;omega
   ·exact QjT n e h2
  refine Zf (mrg (· && ·) (setK m0 5) (al5 n)) fun st hst=>?_
  rw[hst] at ho16 hmi hml hmb
  refine Qf ?_
  have hs1416:=hs15.trans hs16
  have hs1116:=hs1114.trans hs1416
  have hz1416:=hs1416.size
  have hz15:=hs15.size
  have hz16:=hs16.size
  have hI16:=Qs.ints (L:=[]) ho16 (by omega) (by simp)
  refine Qc<|Qb<|x (Qr hI16 rfl)<|x (ZK rfl rfl)<|xe ?_
  refine QD rfl (fun h113=>?_) (fun h113=>?_)
  ·refine Qi ?_
   refine Qw<|Qb<|x (Qy rfl rfl ⟨by omega,by omega⟩)<|Qf ?_
   exact ⟨(i+1,vr,rq),by simp only[];omega,⟨rfl,trivial⟩,by simp only[];omega,hs10.trans hs1116,hB10.ext hs1116,hM10.ext hs1116,by simp only[];omega,hgd10⟩
  have hn3v:b3∉ob vr:=QY hM10.own (by omega)
  have hn10v:b10∉ob vr:=fun hm=>by have:=Q0 hM10.own b10 hm;omega
  have hge10:=Qp hM10.own
  have hu8:(48:Int)+(i:Int)=((48+i:Nat):Int):=by omega
  have hB316:=hB10.ext hs1116
  have hB1016:=hB1014.ext hs1416
  refine Zf (⟨#[114]⟩++⟨#[UInt8.ofNat (48+i)]⟩:ByteArray) fun nm hnm=>?_
  have hnmB:VZ nm:=by rw[←hnm];show (ByteArray.size _)≤_;rw[ByteArray.size_append];show 1+1≤_;omega
  have hR16:=hM10.ext hs1116
  refine Qau (α:=AV) (Step (ob vr) w16) (Step [] w16) [(0,true),(1,true),(2,true),(3,true),(4,true),(8,true),(9,true)] (fun i=>if i=6 then [5] else if i=7 then [6] else []) [5,6,7,10] [(11,true),(12,false),(13,false),(14,true),(15,false)] [(119,121),(124,124)] (mkP w16.heap.size (48+i) nm)
   (fun z=>[(121,.string nm),(124,Qgd z)]) (fun z w'=>Qj1 w16.heap.size w' z) Tryz.mixed (by rfl) (by kernel_rfl) (Step.drew _ _) (fun _ h=>h.any) (fun _ _ h1 h2=>h1.trans h2) Qb9 ?_ ?_
  ·rintro g w' ⟨_,_,h7,⟨q,e,hA⟩,_⟩ hdj
   exact ⟨q,⟨h7,e,trivial⟩,hA⟩
  refine p (fun _=>Qa rfl)<|pq (fun _ hc=>Qd (hB316.step hc hn3v) rfl rfl)<|p (fun _=>Qm)<|p (fun _=>YU (k':=.u8) rfl ⟨by omega,by omega⟩)<|p (fun _=>Qy rfl rfl ⟨by omega,by omega⟩) <|
   p (fun _=>Qm)<|pq (fun _ hc=>Qq (hB1016.step hc hn10v) rfl (by rw[Ys];exact hl12))<|pe ⟨⟨?_,?_,?_,?_,trivial⟩,?_⟩
  ·intro g w' hc _
   exact QI (us:=[[.int .u8 ((48:Int)+(i:Int))]]) rfl rfl (by decide) (by simp) ⟨rfl,rfl,trivial⟩ fun b w17 hs17 hb hB=>⟨hs17,⟨b,rfl,by rw[←hu8];exact hB⟩,fun c hc'=>by rw[List.mem_singleton.1 (show c∈[b] from hc')];exact ⟨hb,hB.lt⟩⟩
  ·rintro g w' hc ⟨⟨b,e,hB⟩,_⟩
   exact xv (QaU (n:=48+i) hB (by omega) e) ⟨Step.refl _ _,rfl,fun c hc'=>by cases hc'⟩
  ·rintro g w' hc ⟨e,_⟩
   exact xv (Jc (a:=⟨#[114]⟩) (b:=⟨#[UInt8.ofNat (48+i)]⟩) rfl e (by show 1+1≤1000000000;omega)) ⟨Step.refl _ _,congrArg Value.string hnm,fun c hc'=>by cases hc'⟩
  ·intro g w' hc _
   have hz:=hc.size
   refine xf<|(zf (ns:=gr2) (hI16.ext hc) hmb hmi hl12 hlt12).mono ?_
   rintro r w17 ⟨hs17,a,⟨xa,xm,xe',rfl,hA⟩,hok,h5,hal,hcan⟩
   obtain ⟨a0,k1,k2,k3,k4⟩:=hcan (by omega)
   rw[hg012] at k3
   exact ⟨hs17,⟨⟨xa,xm,xe',a⟩,rfl,fun L hL=>hA L (fun b hb=>by have:=hL b hb;omega),GdA.of k1 k2 k3 k4 (by omega)⟩,fun c hc'=>by cases hc'⟩
  rintro q g w17 hc17 ⟨hA17,hG17⟩
  have hz17:=hc17.size
  have hA0:=hA17 [] (by simp)
  refine p (fun _=>Zw [(0,[.string nm]),(1,[q.va,.int .i64 q.a.st,q.vm,q.ve])] ⟨rfl,rfl,rfl,rfl,trivial⟩)<|pk<|QI (us:=[Zh ⟨nm,q⟩]) rfl rfl (by decide) (show 1*5≤1000000 by omega) ⟨rfl,rfl,trivial⟩ fun b126 w18 hs18 hb126 hB126=>⟨(hc17.trans hs18).any,?_⟩
  have hc18:=hc17.trans hs18
  have hz18:=hs18.size
  have hR18:=hR16.ext hc18
  refine pk<|Q2 (news:=Zh ⟨nm,q⟩) (L:=[]) hR18.own rfl rfl rfl (hB126.at (by simp)) (Qcj hA0.al.one hA0.mr.one hA0.ed.one) (by omega) (by omega) fun v19 w19 ho19 hs19 hn19=>⟨(hc18.any (L:=ob vr)).trans' hs19,?_⟩
  have hR19:=hR18.app3 (q:=⟨nm,q⟩) (jK (q:=⟨nm,q⟩) (N:=w16.heap.size) (fun L hL=>(hA17 L hL).ext hs18) (by omega) (Q0 hR16.own)) ho19 hs19 hn19
  refine p (fun _=>Qa rfl)<|pkl (hl:=by kernel_rfl)<|QF ((hB316.ext hc18).step hs19 hn3v) rfl rfl (by simp) (QO ho19) fun w20 hs20 hB20=>pe ?_
  refine Qw<|Qb<|x (Qy rfl rfl ⟨by omega,by omega⟩)<|Qf ?_
  refine ⟨(i+1,v19,rq++[⟨nm,q⟩]),by simp only[];omega,⟨rfl,trivial⟩,by simp only[];omega,(((hs10.trans hs1116).trans hc18).then hs19 (fun b hb=>.inr (hge10 b hb).1)).trans' hs20,hB20,hR19.low hs20 (fun b hb=>by rw[List.mem_singleton.1 hb];omega),by simp only[List.length_append,List.length_singleton];omega,fun d hd=>?_⟩
  rcases List.mem_append.1 hd with hd | hd
  ·exact hgd10 d hd
  ·rw[List.mem_singleton.1 hd];exact ⟨hnmB,hG17⟩
 rintro ⟨vr,rq⟩ g10 w10 ⟨hs10,hB10,hM10,hrl10,hgd10⟩
 simp only[] at hB10 hM10 hrl10 hgd10
 have hz10:=hs10.size
 have hs310:Step [b3] w3 w10:=hs39.trans' hs10
 have hB110:=hB13.step hs310 n13
 have FE10:=Va FE9 hl3 hs10
 have FI10:=JN FI9 hl3 hs10
 have FR10:∀L:LN,(∀b∈L,b<w3.heap.size)→YR L w10.heap vr rq:=fun L hL=>hM10.itms (by omega) (fun q hq=>(hgd10 q hq).1) (fun b hb=>by have:=hL b hb;omega)
 refine QV (α:=Value×List XV) [(12,14),(129,169)] (fun _=>[]) (fun z w'=>Step [b3] w10 w'∧QS w'.heap b3 38 [ve,vc,vr,z.1,Za]∧∀L:LN,(∀b∈L,b<w3.heap.size)→Ud L w'.heap z.1 z.2) (by rfl) ?_ ?_
 ·refine Qc<|x (Qa rfl)<|x (Qd hB10 rfl rfl)<|x (Qr (FI10 [] (by simp)).arr rfl)<|Qf ?_
  refine Qc<|Qb<|x (ZK rfl rfl)<|xe ?_
  refine QD rfl (fun h133=>?_) (fun h133=>?_)
  ·refine Qi ?_
   exact ⟨(Za,[]),trivial,Step.refl _ _,hB10,fun L hL=>⟨Zs.nil _ _ 2,fun q hq=>(by cases hq),fun q hq=>(by cases hq)⟩⟩
  have hco2:2≤co.length:=by have h134:(1:Int)<(co.length:Int):=h133;omega
  refine Qc<|x (QN ⟨rfl,trivial⟩)<|xl rfl<|Qu (us:=[.string .empty,Za]) rfl fun b13 w11 hs11 hb13 hB11=>xl rfl<|Qo (us:=[.string ⟨#[120]⟩,Za]) hB11 rfl rfl rfl rfl ⟨rfl,rfl,trivial⟩ fun w12 hs12 hB1312 =>
   xe ?_
  have hs1012:Step [] w10 w12:=hs11.then1 hs12 hb13
  have hz1012:=hs1012.size
  have hl13:=hB1312.lt
  have n313:b3∉[b13]:=by simp only[List.mem_singleton];omega
  have n113:b1∉[b13]:=by simp only[List.mem_singleton];omega
  refine QV (α:=Value×List (Int×Int)) [(14,14),(135,158)] (fun _=>[]) (fun z w'=>Step [b13] w12 w'∧QS w'.heap b13 107 [.string ⟨#[120]⟩,z.1]∧w'.ownsRow w12.heap.size 109 2 z.1 z.2.length (z.2.flatMap Q8)∧z.2.length≤2) (by rfl) ?_ ?_
  ·refine Qc<|Qf ?_
   refine Qh<|QA (α:=Nat×Value×List (Int×Int)) [(14,14),(135,158)] (fun z=>[(14,.int .i64 z.1)]) (fun z w'=>z.1≤2∧Step [b13] w12 w'∧QS w'.heap b13 107 [.string ⟨#[120]⟩,z.2.1]∧w'.ownsRow w12.heap.size 109 2 z.2.1 z.2.2.length (z.2.2.flatMap Q8)∧z.2.2.length=z.1) (fun z=>2 - z.1) (by rfl) (0,Za,[]) ⟨rfl,trivial⟩
    ⟨Nat.zero_le _,Step.refl _ _,hB1312,QP _ _ _ _,rfl⟩ ?_
   rintro ⟨i,vl,ls⟩ g w13 ⟨hi,hs13',hB1313,ho13,hll⟩
   simp only[] at hi hB1313 ho13 hll
   have hz13:=hs13'.size
   refine Qg<|Qc<|Qb<|x (QB rfl rfl)<|xe ?_
   refine QD rfl (fun h136=>?_) (fun h136=>?_)
   ·refine Qz ?_
    exact ⟨(vl,ls),trivial,hs13',hB1313,ho13,by simp only[];omega⟩
   have hlt:i<2:=by have h137:(i:Int)<2:=h136;omega
   refine Qi ?_
   have hgeL:=Qp ho13
   have hn13v:b13∉ob vl:=QY ho13 hl13
   have hn3v:b3∉ob vl:=QY ho13 (by omega)
   have hn1v:b1∉ob vl:=QY ho13 (by omega)
   have hB313:=(hB10.ext hs1012).step hs13' n313
   have hB113:=(hB110.ext hs1012).step hs13' n113
   have hgx:∃xi:Nat,xi<256∧(YN l)[0+83+i*1]?=some (.int .u8 (xi:Int)):=by
    have h3:i=0∨i=1:=by omega
    rcases h3 with rfl | rfl
    ·exact ⟨l.x0,hx0,g83⟩
    ·exact ⟨l.x1,hx1,g84⟩
   obtain ⟨xi,hxi,hgx⟩:=hgx
   have hic:i<co.length:=by omega
   have hI13:YR (ob vl) w13.heap vc co:=by
    have h1:YR (b13::ob vl) w12.heap vc co:=((FI10 [] (by simp)).up (L':=b13::ob vl) (fun b hb=>by
     rcases List.mem_cons.1 hb with rfl | hb
     ·exact .inr (by have:=hs11.size;omega)
     ·exact .inr (by have:=(hgeL b hb).1;omega))).ext hs1012
    exact (h1.st (hs13'.mono (by simp))).up (fun b hb=>.inl (List.mem_cons_of_mem _ hb))
   have hqm:=List.getElem_mem hic
   refine Zf (co[i]'hic) fun q hq=>?_
   rw[hq] at hqm
   have hpos:=(hgd9 q hqm).2.p
   have hd13:Step [] w13 { w13 with drawn:=w13.drawn+1 }:=Step.drew _ _
   have hmod:0≤(xi:Int) % q.p.a.st:=Int.emod_nonneg _ (by omega)
   refine Qg<|Qh<|QT (Step (ob vl) w13) [(0,true),(1,true),(2,true),(3,true),(4,true),(5,true),(6,true),(7,true),(8,true),(9,true),(10,true),(11,true),(12,true),(13,true),(14,true),(15,true),(16,true),(17,false),(18,false),(19,true),(20,false)] Tryz.mixed (by rfl) (by kernel_rfl) (Step.drew _ _) ?_
   refine p (fun _=>Qa rfl)<|pq (fun _ hc=>Qd (hB1313.step hc hn13v) rfl rfl)<|p (fun _=>Qm)<|p (fun _=>Qm)<|p (fun _=>Qa rfl) <|
    p (fun _=>YK (i:=i) rfl rfl hlt)<|pq (fun _ hc=>Qd (hB113.step hc hn1v) rfl hgx)<|p (fun _=>YU (k':=.i64) rfl ⟨by omega,by omega⟩)<|p (fun _=>Qa rfl)<|pq (fun _ hc=>Qd (hB313.step hc hn3v) rfl rfl) <|
    p (fun _=>Qm)<|Go.Lg.pig (g:=Zh) (i:=i) rfl Y6 hI13.arr rfl rfl hic fun a150 h150=>?_
   rw[hq] at h150
   refine p (fun _=>Zd rfl)<|p (fun _=>Zd rfl)<|pq (fun _ hc=>Qv (((h150.from 1).fld 1 (.int .i64 q.p.a.st) rfl).st hc) rfl) <|
    p (fun _=>Uu (a:=(xi:Int)) (b:=q.p.a.st) rfl rfl (by omega) hpos)<|p (fun _=>QN ⟨rfl,rfl,trivial⟩)<|pk<|QI (us:=[Q8 ((i:Int),(xi:Int) % q.p.a.st)]) rfl rfl (by decide) (show 1*2≤1000000 by omega) ⟨rfl,rfl,trivial⟩ fun b156 w14 hs14 hb156 hB156=>?_
   have hs1314:=hd13.trans hs14
   have hz1314:=hs1314.size
   refine ⟨hs1314.any,?_⟩
   refine pk<|Q2 (news:=Q8 ((i:Int),(xi:Int) % q.p.a.st)) (L:=[]) (Qt ho13 hs1314) rfl rfl rfl (hB156.at (by simp)) (Qhf _) (by omega) (by omega) fun v15 w15 ho15 hs15 hn15=>⟨(hs1314.any (L:=ob vl)).trans' hs15,?_⟩
   have hge15:∀b∈ob v15,w12.heap.size≤b:=fun b hb=>(Qp ho15 b hb).1
   refine p (fun _=>Qa rfl)<|pkl (hl:=by kernel_rfl)<|QF ((hB1313.ext hs1314).step hs15 hn13v) rfl rfl (by simp) (QO ho15) fun w16 hs16 hB16=>pe ?_
   refine Qw<|Qb<|x (Qy rfl rfl ⟨by omega,by omega⟩)<|Qf ?_
   refine ⟨(i+1,v15,ls++[((i:Int),(xi:Int) % q.p.a.st)]),by simp only[];omega,⟨rfl,trivial⟩,hlt,((hs13'.trans hs1314).then hs15 (fun b hb=>.inr (hgeL b hb).1)).trans' hs16,hB16,?_,by simp[hll]⟩
   have h9:=Qk ho15 hs16 (fun b hb=>by have:=hge15 b hb;simp only[List.mem_singleton];omega)
   simp only[List.length_append,List.flatMap_append]
   simpa using h9
  rintro ⟨vl,ls⟩ g13 w13 ⟨hs13',hB1313,ho13,hll⟩
  simp only[] at hB1313 ho13 hll
  have hz13:=hs13'.size
  have hs1013:Step [] w10 w13:=hs1012.then1 hs13' hb13
  have hB313:=hB10.ext hs1013
  have hB113:=hB110.ext hs1013
  have hxx:=QO ho13
  refine Qc<|x (Qa rfl)<|x (YK (i:=0) rfl rfl (by decide))<|x (Qd hB113 rfl g83)<|x (Uu (a:=(l.x0:Int)) (b:=4) rfl rfl (by omega) (by omega))<|x (Q6 rfl rfl)<|xe ?_
  refine QD rfl (fun h163=>?_) (fun h163=>?_)
  ·refine Qi ?_
   exact ⟨(Za,[]),trivial,hs1013.any,hB313,fun L hL=>⟨Zs.nil _ _ 2,fun q hq=>(by cases hq),fun q hq=>(by cases hq)⟩⟩
  refine Qw<|x (Qa rfl)<|x (Qd hB313 rfl rfl)<|x (Qq hB1313 rfl rfl)<|xl rfl<|QI (us:=[Zu ⟨⟨#[120]⟩,vl,ls⟩]) rfl rfl (by decide) (show 1*2≤1000000 by omega) ⟨rfl,rfl,trivial⟩ fun b167 w14 hs14 hb167 hB167=>?_
  have hz14:=hs14.size
  refine xl rfl<|Q2 (base:=w13.heap.size) (news:=Zu ⟨⟨#[120]⟩,vl,ls⟩) (L:=[]) (v:=Za) (QP _ _ _ _) rfl rfl rfl (hB167.at (by simp)) (zN hxx) (by omega) (by omega) fun v15 w15 ho15 hs15 hn15=>?_
  have hs1415:Step [] w14 w15:=hs15
  have hs1015:=(hs1013.trans hs14).trans hs1415
  refine x (Qa rfl)<|xl rfl<|QF (hB10.ext hs1015) rfl rfl (by simp) (QO ho15) fun w16 hs16 hB16=>xe ?_
  refine ⟨(v15,[⟨⟨#[120]⟩,vl,ls⟩]),trivial,(hs1015.any (L:=[b3])).trans' hs16,hB16,fun L hL=>?_⟩
  have hL2:∀b∈b3::L,b<w3.heap.size:=fun b hb=>by
   rcases List.mem_cons.1 hb with rfl | hb
   ·exact hl3
   ·exact hL b hb
  have h1:Ud (b3::L) w15.heap v15 [⟨⟨#[120]⟩,vl,ls⟩]:=by
   refine ⟨QX (n:=1) ho15 (by omega) (fun b hb hbL=>by have:=(Qp ho15 b hb).1;have:=hL2 b hbL;omega),fun q hq=>?_,fun q hq=>?_⟩
   ·rw[List.mem_singleton.1 hq]
    exact ((QX (L:=b3::L) ho13 (by omega) (fun b hb hbL=>by have:=(Qp ho13 b hb).1;have:=hL2 b hbL;omega)).ext hs14).ext hs1415
   ·rw[List.mem_singleton.1 hq];exact Xg (by decide)
  exact (h1.st (hs16.mono (by simp))).up (fun b hb=>.inl (List.mem_cons_of_mem _ hb))
 rintro ⟨vx,qx⟩ g11 w11 ⟨hs11,hB11,FX11⟩
 simp only[] at hB11 FX11
 have FE11:=Va FE10 hl3 hs11
 have FI11:=JN FI10 hl3 hs11
 have FR11:=JN FR10 hl3 hs11
 have hs311:Step [b3] w3 w11:=hs310.trans' hs11
 have hB211:=hB23.step hs311 n23
 refine Qc<|x (Qq hB11 rfl rfl)<|xl rfl<|Qo (us:=[ve,vc,vr,vx,Za]) hB211 rfl rfl rfl rfl ⟨(FE11 [] (by simp)).arr.one,(FI11 [] (by simp)).arr.one,(FR11 [] (by simp)).arr.one,(FX11 [] (by simp)).arr.one,rfl,trivial⟩ fun w12 hs12 hB12=>xe ?_
 have hl2':b2<w3.heap.size:=by omega
 have FE12:=Va FE11 hl2' hs12
 have FI12:=JN FI11 hl2' hs12
 have FR12:=JN FR11 hl2' hs12
 have FX12:=QgP FX11 hl2' hs12
 have hs012:Step [] w w12:=(hs03.then1 hs311 (by omega)).then1 hs12 (by omega)
 refine Ql ⟨[.agg [ve,vc,vr,vx,Za].toArray],⟨⟨_,rfl,Qx rfl (hB12.at (L:=[]) (by simp)).cells⟩,trivial⟩,hs012,⟨ev,co.map IV.it,rq.map IV.it,qx.map XV.x,[]⟩,⟨⟨ve,vc,vr,vx,Za,ev,co,rq,qx,[]⟩,rfl,rfl,fun L hL=>?_⟩,?_⟩
 ·have hL3:∀b∈L,b<w3.heap.size:=fun b hb=>by have:=hL b hb;have:=hs03.size;omega
  exact ⟨FE12 L hL3,FI12 L hL3,FR12 L hL3,FX12 L hL3,⟨Zs.nil _ _ 3,fun q hq=>(by cases hq),fun q hq=>(by cases hq)⟩⟩
 ·refine ⟨by simp only[List.length_map];omega,by simp only[List.length_map];omega,fun q hq=>?_,fun q hq=>?_⟩
  ·obtain ⟨q',hq',rfl⟩:=List.mem_map.1 hq
   exact (hgd9 q' hq').2
  ·obtain ⟨q',hq',rfl⟩:=List.mem_map.1 hq
   exact (hgd10 q' hq').2
end Go.Proofs.YtgmifemhkjdblaaGreatDoor
namespace Go.Lg
section
variable {P:Program} {ops:List Oper} {K:Fr→World→Prop} {f:Fr} {w:World} {d:Option Nat} {ty:Nat} {ps:String} {af:Array Edge} {gd:Option (Nat×Bool)} {l:List Oper} {t t':Nat} {x y:Operand} {k:IntKind} {a b:Int}
theorem QaY (hx:ev f x=.int k a) (hy:ev f y=.int k b) (h:a=b):(execOp (ev f) ⟨d,.binOp .eql t x y t',ty,ps,af,gd⟩).run P w=.ok (.value (.bool true)) w:=by
 rw[Zm hx hy,decide_eq_true h]
theorem Vv (hx:ev f x=.int k a) (hy:ev f y=.int k b) (h:a=b):(execOp (ev f) ⟨d,.binOp .neq t x y t',ty,ps,af,gd⟩).run P w=.ok (.value (.bool false)) w:=by
 rw[Q6 hx hy,decide_eq_false (fun e=>e h)]
end
end Go.Lg
namespace Go.Proofs.YtgmifemhkjdblaaGreatDoor
open Go.Lg
structure LwV where
 ns:LN
 ct:Nat
 ad:Option Addr
 n:Nat
 cp:Nat
 x0:Nat
 x1:Nat
 cl:Nat
abbrev Jf (l:LwV):LV:=bys l.ns++[.int .u8 (l.ct:Int),.slice l.ad l.n l.cp,.int .u8 (l.x0:Int),.int .u8 (l.x1:Int),.int .u8 (l.cl:Int)]
structure LwA (w:World) (l:LwV):Prop where
 n:l.ns.length=81
 b:∀n∈l.ns,n<256
 ct:l.ct<256
 x0:l.x0<256
 x1:l.x1<256
 cl:l.cl<256
 r:l.n≤3→∃rs:List PtV,rs.length=l.n∧Zs [] w.heap (.slice l.ad l.n l.cp) l.n 28 (rs.flatMap Yg)
def LwV.ln (l:LwV) (rs:List PtV):LnV:=⟨l.ns,l.ct,.slice l.ad l.n l.cp,rs,l.x0,l.x1,l.cl⟩
theorem LwA.ln {w w':World}{l:LwV}(h:LwA w l) (hs:Step [] w w') (hn:l.n≤3):∃rs,LnA [] w'.heap (l.ln rs):=by
 obtain ⟨rs,h1,h2⟩:=h.r hn
 exact ⟨rs,h.n,h.b,h.ct,h.x0,h.x1,h.cl,by show Zs _ _ _ rs.length 28 _;rw[h1];exact h2.ext hs⟩
theorem QkG {l:LwV}(h:l.ns.length=81):(Jf l)[82]?=some (.slice l.ad l.n l.cp):=by
 show (Jf l)[81+1]?=_
 rw[Jf,List.getElem?_append_right (by rw[Ys];omega),Ys,h,Nat.add_sub_cancel_left];rfl
abbrev Qa5:LV:=[nS,.int .i64 0,nS,nS]
theorem QbH {w:World}{vl:Value}{ps:List AV}(h:YJ [] w.heap vl ps) (ho:∀p∈ps,Q4 p.a) (hkb:Kb w 4096) :
  QG Tryz.prog 67 [vl] w fun r w'=>Step [] w w'∧∃va,r=.tuple #[va,.int .i64 (XX (ps.map (·.a)))]∧(XX (ps.map (·.a))≠0→va=zA)∧(XX (ps.map (·.a))=0→X9 w.heap.size w'.heap va (syA (ps.map (·.a)))):=by
 refine QG.of_W Tryz.func67 rfl Tryz.ntmps67 Tryz.results67 (by simp) ?_
 refine Qc<|xl rfl<|Qu (us:=Qa5) rfl fun b2 w1 hs1 hb2 hB2=>Qf ?_
 refine Qc<|Qb<|xl rfl<|xf<|(Vj (km:=4096) (h.ext hs1) (hkb.ext hs1) (by decide) (V6 ho)).mono ?_
 rintro r2 w2 ⟨hs2,vA,vt,c,rfl,hR⟩
 have hc:=hR.e
 have hg:=hR.good
 have hb:=hR.bad
 obtain ⟨a,xa,xm,xe',qs,rfl,hones,hvt1,_⟩:=hR.shape
 have hz1:=hs1.size
 have hz2:=hs2.size
 have hl2:=hB2.lt
 refine Qb<|x (Qj rfl rfl)<|x (Qj rfl rfl)<|x (Qj rfl rfl)<|xl rfl<|Qu (us:=Qa5) rfl fun b4 w3 hs3 hb4 hB4=>xl rfl<|Qo (us:=[xa,.int .i64 a.st,xm,xe']) hB4 rfl rfl rfl rfl hones fun w4 hs4 hB44 =>
  x Qe<|Qf ?_
 have hs24:Step [] w2 w4:=hs3.then1 hs4 hb4
 have hs14:=hs2.trans hs24
 refine Qc<|x (Qq hB44 rfl rfl)<|Qb<|xl rfl<|Qo (us:=[xa,.int .i64 a.st,xm,xe']) (hB2.ext hs14) rfl rfl rfl rfl hones fun w5 hs5 hB25=>Qf ?_
 refine Ql ⟨[.agg [xa,.int .i64 a.st,xm,xe'].toArray,.int .i64 c],⟨⟨_,rfl,Qx rfl (hB25.at (L:=[]) (by simp)).cells⟩,rfl,trivial⟩,(hs1.trans hs14).then1 hs5 hb2,.agg #[xa,.int .i64 a.st,xm,xe'],?_,fun h0=>?_,fun h0=>?_⟩
 ·show Value.tuple _=Value.tuple _
  rw[hc]
 ·exact (hb (by rw[hc];exact h0)).1
 ·have h1:=(hg (by rw[hc];exact h0)).1
  exact (Vl (h1.ext hs24) hl2 hs5).mono hz1
theorem Qaw {w:World}{c:CL}(h:ZI [] w.heap c) (hkb:Kb w 4096) :
  QG Tryz.prog 21 [c.val] w fun r w'=>Step [] w w'∧∃va,r=.tuple #[va,.int .i64 (XW c.cel)]∧(XW c.cel≠0→va=zA)∧(XW c.cel=0→X9 w.heap.size w'.heap va (Z7 c.cel)):=by
 have htg:=Qd0 c.cel
 refine QG.of_W Tryz.func21 rfl Tryz.ntmps21 Tryz.results21 (by simp) ?_
 refine Qc<|xl rfl<|QR (us:=c.cells) rfl fun b1 w1 hs1 hb1 hB1=>xl rfl<|Qu (us:=Qa5) rfl fun b2 w2 hs2 hb2 hB2=>Qf ?_
 have hs02:=hs1.trans hs2
 have hz02:=hs02.size
 have hz1:=hs1.size
 have hl2:=hB2.lt
 refine Qc<|x (Qq (hB1.ext hs2) rfl rfl)<|xl rfl<|xf<|(JU (h.ext hs02) (hkb.ext hs02)).mono ?_
 rintro r3 w3 ⟨hs3,vl,rfl,hbad,hgood⟩
 refine Qb<|x (Qj rfl rfl)<|x (Qj rfl rfl)<|x Qe<|Qf ?_
 have hs03:=hs02.trans hs3
 have hz3:=hs3.size
 refine Qg<|Qc<|Qb<|x (Q6 rfl rfl)<|xe ?_
 refine Q3 rfl (fun h12=>?_) (fun h12=>?_)
 ·rw[if_pos h12] at htg
  refine Qc<|x (QN trivial)<|Qb<|xl rfl<|Qo (us:=Qa5) (hB2.ext hs3) rfl rfl rfl rfl ⟨rfl,rfl,rfl,rfl,trivial⟩ fun w4 hs4 hB24=>Qf ?_
  refine Ql ⟨[.agg Qa5.toArray,.int .i64 (KQ c.cel)],⟨⟨_,rfl,Qx rfl (hB24.at (L:=[]) (by simp)).cells⟩,rfl,trivial⟩,hs03.then1 hs4 (by omega),zA,?_,fun _=>rfl,fun h0=>absurd h0 (by rw[htg];exact h12)⟩
  show Value.tuple _=Value.tuple _
  rw[htg];rfl
 rw[if_neg h12] at htg
 have hsv:=Decidable.not_not.1 h12
 obtain ⟨hv1,ps,hps,hpA⟩:=hgood hsv
 have hok:∀p∈ps,Q4 p.a:=fun p hp=>Uh hsv p.a (by rw[←hps];exact List.mem_map_of_mem hp)
 have hC:=QbH (hpA [] (by simp)) hok (hkb.ext hs03)
 rw[hps,←htg] at hC
 refine Qi ?_
 refine Qc<|Qb<|xl rfl<|xf<|hC.mono ?_
 rintro r5 w5 ⟨hs5,va,rfl,hb5,hg5⟩
 have hus:∃us,va=.agg us.toArray∧us.length=4∧ZB us:=by
  by_cases h0:XW c.cel=0
  ·exact Jn (hg5 h0)
  ·exact ⟨Qa5,hb5 h0,rfl,rfl,rfl,rfl,rfl,trivial⟩
 obtain ⟨us,hva,husl,huso⟩:=hus
 refine x (Qj rfl rfl)<|x (Qj rfl rfl)<|xl rfl<|Qo (us:=us) (hB2.ext (hs3.trans hs5)) rfl (show Go.Lg.ev _ _=_ from hva) husl rfl huso fun w6 hs6 hB26=>Qf ?_
 refine Ql ⟨[.agg us.toArray,.int .i64 (XW c.cel)],⟨⟨_,rfl,Qx husl (hB26.at (L:=[]) (by simp)).cells⟩,rfl,trivial⟩,(hs03.trans hs5).then1 hs6 (by omega),va,?_,hb5,fun h0=>?_⟩
 ·show Value.tuple _=Value.tuple _
  rw[hva]
 ·exact (Vl (hg5 h0) (by omega) hs6).mono (by omega)
end Go.Proofs.YtgmifemhkjdblaaGreatDoor
namespace Go.Lg
section
variable {P:Program} {ops:List Oper} {K:Fr→World→Prop} {f:Fr} {w:World} {d:Option Nat} {ty:Nat} {ps:String} {af:Array Edge} {gd:Option (Nat×Bool)} {t t':Nat} {x y:Operand} {k:IntKind} {a b:Int}
theorem Qew (hx:ev f x=.int k a) (hy:ev f y=.int k b) (h:¬a<b):(execOp (ev f) ⟨d,.binOp .lss t x y t',ty,ps,af,gd⟩).run P w=.ok (.value (.bool false)) w:=by
 rw[QB hx hy,decide_eq_false h]
theorem QeC (hx:ev f x=.int k a) (hy:ev f y=.int k b) (h:¬b≤a):(execOp (ev f) ⟨d,.binOp .geq t x y t',ty,ps,af,gd⟩).run P w=.ok (.value (.bool false)) w:=by
 rw[ZH hx hy,decide_eq_false h]
theorem Qls {C:World→Prop}{pl:List (Nat×Bool)}{i0:Nat}{t e sz bys:Nat}{z:Value}{x y2:Operand}{L:LN}{v:Value}{n:Nat}{cs:LV}{H:Array Obj}{k:IntKind}{hi:Nat}[h:Sl P t e sz bys z]
  (ho:QJ ops i0=⟨d,.slice t x none (some y2) none,ty,ps,af,gd⟩) (hA:Zs L H v n sz cs) (hx:ev f x=v) (hh:ev f y2=.int k hi) (h1:hi≤n)
  (hK:∀v',Zs L H v' hi sz (cs.take (hi*sz))→XP P ops C K pl (QU f d v') w)
  (hg:ZY ops f (QJ ops i0)=true:=by rfl):XP P ops C K ((i0,true)::pl) f w:=by
 obtain ⟨v',h3,h4⟩:=jp (P:=P) (d:=d) (ty:=ty) (ps:=ps) (af:=af) (gd:=gd) (t:=t) hA hx hh h1
 exact Lg.p (fun w'=>by rw[ho];exact h4 w') (by rw[ho];exact hK v' h3) hg
end
end Go.Lg
namespace Go.Proofs.YtgmifemhkjdblaaGreatDoor
open Go.Lg
theorem yQ {w:World}{va vm ve vt:Value}{a:QM}{n:Nat}{tg:LI}(h:Zp [] w.heap va vm ve a) (ho:Q4 a) (hn:a.st=(n:Int)) (ht:QL [] w.heap vt tg) (htb:∀s∈tg,0≤s∧s<a.st) (hti:Yu tg) (htl:tg.length≤4096) :
  QG Tryz.prog 22 [.agg #[va,.int .i64 a.st,vm,ve],vt] w fun r w'=>Step [] w w'∧∃v,r=.tuple #[v,.int .i64 0]∧QL [] w'.heap v (bwd n a.ed tg):=by
 have hck:=(Zt a).2 ho
 have hel:=ho.ed_le
 have hst1:=ho.st1
 refine QG.of_W Tryz.func22 rfl Tryz.ntmps22 Tryz.results22 (by simp) ?_
 refine Qc<|xl rfl<|QR (us:=[va,.int .i64 a.st,vm,ve]) rfl fun b2 w1 hs1 hb2 hB2=>x Qe<|Qf ?_
 refine Qg<|Qc<|x (Qq hB2 rfl rfl)<|xl rfl<|xf<|(YP (h.ext hs1)).mono ?_
 rintro r2 w2 ⟨rfl,hs2⟩
 refine Qf ?_
 refine Qc<|Qb<|x (Vv rfl rfl hck)<|xe ?_
 refine ZZ rfl<|Qi ?_
 have hs12:=hs1.trans hs2
 refine Qg<|Qc<|x (Qq (hB2.ext hs2) rfl rfl)<|Qb<|xl rfl<|xf<|(JS (va:=va) (vm:=vm) (ve:=ve) (a:=a) (ht.ext hs12)).mono ?_
 rintro r3 w3 ⟨rfl,hs3⟩
 refine Qf ?_
 refine Qc<|Qb<|x (Vv rfl rfl (Qbo htb hti))<|xe ?_
 refine ZZ rfl<|Qi ?_
 have hs13:=hs12.trans hs3
 have hA3:=h.ext hs13
 refine Qc<|x (Qq (hB2.ext (hs2.trans hs3)) rfl rfl)<|xl rfl<|xf<|(JJ hA3 hn hst1 (fun e he=>⟨(ho.ed e he).1,(ho.ed e he).2.1⟩)).mono ?_
 rintro r4 w4 ⟨hs4,bF,rfl,_,_⟩
 refine Qb<|xl rfl<|xf<|(VT (hA3.ext hs4) hn hst1 (fun e he=>⟨(ho.ed e he).1,(ho.ed e he).2.1,(ho.ed e he).2.2.2⟩) (by omega) ((ht.ext hs13).ext hs4) htb htl).mono ?_
 rintro r5 w5 ⟨hs5,bO,rfl,hbO,hBO⟩
 refine x Qe<|Qf ?_
 have hdl:=yH n a.ed tg
 refine Ql ⟨[.slice (some ⟨bO,0,none⟩) n n,.int .i64 0],⟨rfl,rfl,trivial⟩,(hs13.trans hs4).trans hs5,_,rfl,?_⟩
 have:=hBO.arr (L:=[]) (by simp) (n:=n) (cap:=n) (sz:=1) (by simp[hdl]) (by omega) (Nat.le_refl _)
 unfold QL
 rw[hdl];exact this
theorem Qcp {a:QM}(ho:Q4 a):∀(u:LI) (s:Int),0≤s∧s<a.st→0≤(flw a s u).1∧(flw a s u).1<a.st
 | [],s,h=>h
 | v::u,s,h=>by
  rw[flw]
  split
  ·exact h
  ·rename_i h0
   have hm:=ho.ed _ (V7 (es:=a.ed) (s:=s) (v:=v) (by omega))
   exact Qcp ho u _ hm.2.2.2
theorem Qgb {A:QM}{n:Nat}(hn:A.st=(n:Int)) {x:Int}(h0:0≤x) (h1:x<A.st):x∈Yi A↔cget (bwd n A.ed A.mr) x.toNat<0:=by
 have hnt:A.st.toNat=n:=by omega
 rw[Xu,hnt]
 have hc:x∈cor A↔0≤cget (bwd n A.ed A.mr) x.toNat:=by
  unfold cor Vc
  rw[hnt]
  constructor
  ·intro h
   obtain ⟨i,hi,he⟩:=List.mem_map.1 h
   have h2:=(List.mem_filter.1 hi).2
   rw[←he]
   simpa using h2
  ·intro h
   refine List.mem_map.2 ⟨x.toNat,List.mem_filter.2 ⟨List.mem_range.2 (by omega),by simpa using h⟩,by omega⟩
 rw[hc]
 constructor
 ·rintro ⟨_,h2⟩;omega
 ·intro h2;exact ⟨⟨h0,by omega⟩,by omega⟩
theorem Qil {A:QM}{n:Nat}(hn:A.st=(n:Int)):(Yi A).length=0↔∀j,j<n→0≤cget (bwd n A.ed A.mr) j:=by
 constructor
 ·intro h j hj
  refine Decidable.byContradiction fun hc=>?_
  have h1:=(Qgb hn (x:=(j:Int)) (by omega) (by omega)).2 (by simpa using hc)
  have:=List.length_pos_of_mem h1
  omega
 ·intro h
  refine Nat.eq_zero_of_not_pos fun hp=>?_
  obtain ⟨x,hx⟩:=List.exists_mem_of_length_pos hp
  have hb:=((Xu A x).1 hx).1
  have h1:=(Qgb hn hb.1 (by omega)).1 hx
  have:=h x.toNat (by omega)
  omega
theorem QdQ (st:List Ed):∀(f k:Nat),(wrd st f k).length≤f
 | 0,_=>Nat.le_refl _
 | f+1,k=>by
  rw[wrd]
  split
  ·have:=QdQ st f (gE st k).2.1.toNat
   simp only[List.length_cons];omega
  ·simp
theorem Qb2 {wt:Int→Bool}{pm:Ed→Bool}{es:List Ed}:∀(f i:Nat) (st:List Ed),(JG wt pm es f i st).1.length≤i+f
 | 0,_,_=>by simp[JG]
 | f+1,i,st=>by
  rw[JG]
  split
  ·split
   ·have:=QdQ st (i+1) i
    simp only[List.length_reverse];omega
   ·have:=Qb2 (wt:=wt) (pm:=pm) (es:=es) f (i+1) ((Zv es (gE st i).1).foldl (YG pm i) st)
    omega
  ·simp
theorem Qg8 (A:QM) (h:A.st≤4096):(Y1 A).length≤4097:=by
 unfold Y1
 split
 ·simp
 ·have:=Qb2 (wt:=fun s=>decide (s∈Yi A)) (pm:=fun e=>decide (e.2.2∈X1 A.st.toNat)) (es:=A.ed) (A.st.toNat+1) 0 [(((0:Nat):Int),-1,-1)]
  show (pth _ _ _ _ _).1.length≤4097
  unfold pth
  omega
theorem qW {A:QM}(ho:Q4 A) (hst:0<A.st) {u:LI}(h:(flw A 0 u).2=u.length):QaQ A 0 u=0:=by
 have h1:=Qbe ho u 0 h
 have hck:cks A 0=0:=by
  unfold cks
  rw[if_neg (by simpa using (Zt A).2 ho),if_neg (by omega)]
 unfold QaQ
 rw[if_neg (by simpa using hck),if_neg]
 intro h2
 obtain ⟨e,he,h3⟩:=List.any_eq_true.1 h2
 exact of_decide_eq_true h3 (h1 e he)
set_option maxRecDepth 100000 in
set_option maxHeartbeats 8000000 in
theorem yp {w:World}{l:LwV}(hl:LwA w l) (hkb:Kb w 4096) :
  QG Tryz.prog 4 [.agg (Jf l).toArray] w fun r w'=>r=.bool true∧Step [] w w':=by
 have g82:=QkG hl.n
 refine QG.of_W Tryz.func4 rfl Tryz.ntmps4 Tryz.results4 (by simp) ?_
 refine Qc<|xl rfl<|QR (us:=Jf l) rfl fun b1 w1 hs1 hb1 hB1=>Qf ?_
 refine Qg<|QV (α:=Bool) [(19,26)] (fun z=>[(26,.bool z)]) (fun z w'=>Step [] w1 w'∧(z=false→l.n≤3)) (by rfl) ?_ ?_
 ·refine Qw<|xl rfl<|xf<|(UG (hkb.ext hs1)).mono ?_
  rintro r2 w2 ⟨rfl,hs2⟩
  refine x (Zo rfl)<|Qb<|x (Qa rfl)<|x (Qd (hB1.ext hs2) rfl g82)<|x (Qez rfl)<|x (ZK rfl rfl)<|x (Qn rfl)<|xe ?_
  refine ⟨decide ((3:Int)<(l.n:Int)),⟨rfl,trivial⟩,hs2,fun h=>?_⟩
  have:=of_decide_eq_false h
  omega
 rintro z g w2 ⟨hs2,hz⟩
 have hs02:=hs1.trans hs2
 refine QW rfl (fun h26=>?_) (fun h26=>?_)
 ·refine Qc<|xl rfl<|xf<|(UG (hkb.ext hs02)).mono ?_
  rintro r3 w3 ⟨rfl,hs3⟩
  refine Qf ?_
  exact Ql ⟨[_],⟨rfl,trivial⟩,rfl,hs02.trans hs3⟩
 refine Qi ?_
 refine Exists.elim (hl.ln hs02 (hz h26)) fun rs hln=>?_
 refine Qc<|x (Qq (hB1.ext hs2) rfl (Qe7 (l:=l.ln rs) hl.n))<|xl rfl<|xf<|(Qdg hln).mono ?_
 rintro r3 w3 ⟨hs3,_,⟨c,rfl,rfl,hC⟩,hsml⟩
 have hC3:=hC [] (by simp)
 refine xl rfl<|Qu (us:=YL) rfl fun b3 w4 hs4 hb3 hB3=>xl rfl<|Qo (us:=c.cells) hB3 rfl rfl rfl rfl ⟨hC3.ev.arr.one,hC3.co.arr.one,hC3.rq.arr.one,hC3.ex.arr.one,hC3.cs.arr.one,trivial⟩ fun w5 hs5 hB35=>xe ?_
 have hs35:Step [] w3 w5:=hs4.then1 hs5 hb3
 have hs05:=(hs02.trans hs3).trans hs35
 have hC5:=hC3.ext hs35
 have hkb5:=hkb.ext hs05
 refine Qc<|x (Qq hB35 rfl rfl)<|xl rfl<|xf<|(VU hC5 hkb5).mono ?_
 rintro r6 w6 ⟨hs6,us,rfl,hul,huo,hgood,hbad⟩
 refine Qb<|x (Qj rfl rfl)<|x (Qj rfl rfl)<|xl rfl<|Qu (us:=rp0) rfl fun b4 w7 hs7 hb4 hB4=>xl rfl<|Qo (us:=us) hB4 rfl rfl hul rfl huo fun w8 hs8 hB48 =>
  Qf ?_
 have hs68:Step [] w6 w8:=hs7.then1 hs8 hb4
 have hs58:=hs6.trans hs68
 refine Qc<|x (Qq (hB35.ext hs58) rfl rfl)<|xl rfl<|xf<|(Qaw (hC5.ext hs58) (hkb5.ext hs58)).mono ?_
 rintro r9 w9 ⟨hs9,va,rfl,hbadT,hgoodT⟩
 have hva:∃xa xm xe' st,va=.agg [xa,.int .i64 st,xm,xe'].toArray∧ZB [xa,.int .i64 st,xm,xe']∧(XW c.cel=0→st=(Z7 c.cel).st∧Zp [] w9.heap xa xm xe' (Z7 c.cel)):=by
  by_cases h0:XW c.cel=0
  ·obtain ⟨xa,xm,xe',h1,h2⟩:=hgoodT h0
   have h3:=h2 [] (by simp)
   exact ⟨xa,xm,xe',(Z7 c.cel).st,h1,⟨h3.al.one,rfl,h3.mr.one,h3.ed.one,trivial⟩,fun _=>⟨rfl,h3⟩⟩
  ·exact ⟨Za,Za,Za,0,hbadT h0,⟨rfl,rfl,rfl,rfl,trivial⟩,fun h=>absurd h h0⟩
 refine Exists.elim hva fun xa hva=>Exists.elim hva fun xm hva=>Exists.elim hva fun xe' hva=>Exists.elim hva fun st hva=>?_
 have hva1:=hva.1
 have hgd:=hva.2.2
 refine Qb<|x (Qj rfl rfl)<|x (Qj rfl rfl)<|xl rfl<|Qu (us:=Qa5) rfl fun b6 w10 hs10 hb6 hB6=>xl rfl<|Qo (us:=[xa,.int .i64 st,xm,xe']) hB6 rfl (show Go.Lg.ev _ _=_ from hva1) rfl rfl hva.2.1 fun w11 hs11 hB611 =>
  Qf ?_
 have hs911:Step [] w9 w11:=hs10.then1 hs11 hb6
 have hs811:=hs9.trans hs911
 have hs511:=hs58.trans hs811
 refine Qg<|QV (α:=Unit) [(40,45)] (fun _=>[(45,.bool (decide (XW c.cel≠0)))]) (fun _ w'=>w'=w11) (by rfl) ?_ ?_
 ·refine Qw<|Qb<|xb (Q6 rfl rfl) (fun h41=>?_) (fun h41=>?_)
  ·refine Qb<|xs rfl<|xs rfl<|x (Qn rfl)<|xe ?_
   exact ⟨(),⟨congrArg Value.bool (decide_eq_true h41).symm,trivial⟩,rfl⟩
  refine Qb<|Qb<|x (Q6 rfl rfl)<|x (Qn rfl)<|xe ?_
  exact ⟨(),⟨rfl,trivial⟩,rfl⟩
 rintro _ g12 w12 rfl
 refine Q3 rfl (fun h45=>?_) (fun h45=>?_)
 ·refine Qc<|Qb<|Qb<|x (QaY rfl rfl rfl)<|Qf ?_
  exact Ql ⟨[.bool true],⟨rfl,trivial⟩,rfl,hs05.trans hs511⟩
 have htg:XW c.cel=0:=Decidable.not_not.1 h45
 refine Qi ?_
 have hst:=(hgd htg).1
 have hA9:=(hgd htg).2
 have hok:=(Ku htg).2
 have hsP:=(Ku htg).1
 have hsync:=(QbM (zS htg).2).1
 refine exN hok.st0 fun n hn=>?_
 rw[hst] at hB611
 have hA12:=hA9.ext hs911
 refine Exists.elim (hgood htg) fun vw hg2=>Exists.elim hg2 fun vs hg2=>?_
 have hue:=hg2.1
 have hW6:=hg2.2.1
 have hB412:QS w12.heap b4 63 [.bool (Ja c.cel).ps,.int .i64 (Ja c.cel).ev,.int .i64 (Ja c.cel).f1,.int .i64 (Ja c.cel).f2,.bool (Ja c.cel).nc,vw,vs,.int .i64 (Ja c.cel).tg]:=by rw[←hue];exact hB48.ext hs811
 have hnc:(Ja c.cel).nc=decide ((Yi (Z7 c.cel)).length=0):=rfl
 have htgs:(Ja c.cel).tg=(Z7 c.cel).st:=rfl
 have hwd:(Ja c.cel).wd=Y1 (Z7 c.cel):=rfl
 rw[hwd] at hW6
 have hst1:=hok.st1
 have hmrl:=hok.mr_le
 have hD:=yQ hA12 hok hn hA12.mr hok.mr hok.mri (by omega)
 rw[←hst] at hD
 rw[←hst] at hB611
 refine Qc<|x (Qq hB611 rfl rfl)<|x (Qa rfl)<|x (Qd hB611 rfl rfl)<|xl rfl<|xf<|hD.mono ?_
 rintro r13 w13 ⟨hs13,vd,rfl,hD13⟩
 refine Qb<|x (Qj rfl rfl)<|x (Qj rfl rfl)<|x Qe<|Qf ?_
 have hB613:=hB611.ext hs13
 have hB413:=hB412.ext hs13
 have hdl:=yH n (Z7 c.cel).ed (Z7 c.cel).mr
 have hbn:=Qil hn
 refine Qg<|QV (α:=Unit) [(56,64)] (fun _=>[(64,.bool false)]) (fun _ w'=>w'=w13) (by rfl) ?_ ?_
 ·refine Qw<|Qb<|x (Vv rfl rfl rfl)<|Qb<|x (Qa rfl)<|x (Qd hB413 rfl rfl)<|x (Qa rfl)<|x (Qd hB613 rfl rfl)<|x (Vv rfl rfl (by rw[htgs,hst]))<|x (Qn rfl)<|xe ?_
  exact ⟨(),⟨rfl,trivial⟩,rfl⟩
 rintro _ g14 w14 rfl
 refine ZZ rfl<|Qi ?_
 refine Zf (bwd n (Z7 c.cel).ed (Z7 c.cel).mr) fun D hDe=>?_
 have hbD:=fun x h0 h1=>Qgb hn (x:=x) h0 h1
 rw[hDe] at hD13 hdl hbn hbD
 have hs514:=hs511.trans hs13
 refine Qc<|Qf ?_
 refine QV (α:=Nat) [(10,11),(65,77)] (fun z=>[(10,.int .i64 z)]) (fun z w'=>w'=w14∧(z=0↔∀j,j<n→0≤cget D j)) (by rfl) ?_ ?_
 ·refine Qc<|Qf ?_
  refine Qh<|QA (α:=Nat×Nat) [(10,11),(65,77)] (fun z=>[(10,.int .i64 z.2),(11,.int .i64 z.1)]) (fun z w'=>z.1≤n∧z.2≤z.1∧w'=w14∧(z.2=0↔∀j,j<z.1→0≤cget D j)) (fun z=>n - z.1) (by rfl) (0,0) ⟨rfl,rfl,trivial⟩
   ⟨Nat.zero_le _,Nat.zero_le _,rfl,by simp⟩ ?_
  rintro ⟨i,q⟩ g15 w15 ⟨hi,hq,rfl,hiff⟩
  simp only[] at hi hq hiff
  refine Qg<|Qc<|Qb<|Qb<|x (Qr hD13 rfl)<|x (QB rfl rfl)<|xe ?_
  refine QD rfl (fun h68=>?_) (fun h68=>?_)
  ·refine Qz ?_
   have h69:¬(i:Int)<(D.length:Int):=h68
   have hie:i=n:=by omega
   rw[hie] at hiff
   exact ⟨q,⟨rfl,trivial⟩,rfl,hiff⟩
  have h69:(i:Int)<(D.length:Int):=h68
  have hil:i<D.length:=by omega
  refine Qi ?_
  refine Qg<|Qh<|Qc<|Qb<|Qb<|xic (i:=i) hD13 rfl rfl hil fun a73 h73=>x (Qv h73 rfl)<|x (QB rfl rfl)<|xe ?_
  refine QD rfl (fun h75=>?_) (fun h75=>?_)
  ·refine Qi ?_
   refine Qw<|Qb<|x (Qy rfl rfl ⟨by omega,by omega⟩)<|Qf ?_
   refine ⟨(i+1,q),by simp only[];omega,⟨rfl,rfl,trivial⟩,by simp only[];omega,by simp only[];omega,rfl,?_⟩
   simp only[]
   rw[hiff]
   refine ⟨fun h j hj=>?_,fun h j hj=>h j (by omega)⟩
   by_cases e:j=i
   ·subst e;exact Int.not_lt.1 h75
   ·exact h j (by omega)
  refine Qw<|Qb<|x (Qy rfl rfl ⟨by omega,by omega⟩)<|Qf ?_
  refine Qw<|Qb<|x (Qy rfl rfl ⟨by omega,by omega⟩)<|Qf ?_
  refine ⟨(i+1,q+1),by simp only[];omega,⟨rfl,rfl,trivial⟩,by simp only[];omega,by simp only[];omega,rfl,?_⟩
  simp only[]
  refine ⟨fun h=>by omega,fun h=>?_⟩
  have:=h i (by omega)
  have h76:cget D i<0:=h75
  omega
 rintro q g15 w15 ⟨rfl,hq⟩
 have hW15:Qs 3 w5.heap.size w6 vw (Y1 (Z7 c.cel)):=hW6
 refine Qg<|Qc<|x (Qa rfl)<|x (Qd hB413 rfl rfl)<|xe ?_
 refine QW rfl (fun h79=>?_) (fun h79=>?_)
 ·have hb0:(Yi (Z7 c.cel)).length=0:=of_decide_eq_true (hnc.symm.trans h79)
  have hw0:Y1 (Z7 c.cel)=[]:=by unfold Y1;rw[if_pos hb0]
  rw[hw0] at hW15
  have hq0:q=0:=hq.2 (hbn.1 hb0)
  refine Qc<|Qb<|x (QaY rfl rfl (by rw[hq0];rfl))<|Qb<|x (Qa rfl)<|x (Qd hB413 rfl rfl)<|x (Qr (Qs.ints (L:=[]) hW15 (by simp) (by simp)) rfl)<|x (QaY rfl rfl rfl)<|x (Qn rfl)<|Qf ?_
  exact Ql ⟨[.bool true],⟨rfl,trivial⟩,rfl,hs05.trans hs514⟩
 have hb0:(Yi (Z7 c.cel)).length≠0:=of_decide_eq_false (hnc.symm.trans h79)
 refine Qi ?_
 have hQst:=hsP.st
 refine Exists.elim (QeF hok hsync hQst hb0) fun s hword=>?_
 have hsb:=hword.1
 have hto:=hword.2.1
 have hpre:=hword.2.2
 have hsr:=((Xu _ s).1 hsb).1
 refine exN hsr.1 fun j hj=>?_
 have hstp:0<(Z7 c.cel).st:=by omega
 have hDj:cget D j<0:=by
  have:=(hbD s hsr.1 (by omega)).1 hsb
  rw[hj] at this
  simpa using this
 have hrun:=qW hok hstp (u:=Y1 (Z7 c.cel)) (by rw[hto])
 have hwl:=Qg8 (Z7 c.cel) hst1
 have hW14:QL [] w15.heap vw (Y1 (Z7 c.cel)):=(Qs.ints hW15 (by omega) (by simp)).ext (((hs68.trans hs811).trans hs13))
 have hA15:=hA12.ext hs13
 have hR:=QbA hA15 hW14 0
 rw[←hst] at hR
 refine Qc<|x (Qq hB613 rfl rfl)<|x (Qa rfl)<|x (Qd hB413 rfl rfl)<|xl rfl<|xf<|hR.mono ?_
 rintro r16 w16 ⟨hs16,hr16⟩
 rw[if_neg (by simpa using hrun),hto] at hr16
 subst hr16
 refine Qb<|x (Qj rfl rfl)<|x (Qj rfl rfl)<|x (Qj rfl rfl)<|x Qe<|x Qe<|Qf ?_
 have hB416:=hB413.ext hs16
 have hB616:=hB613.ext hs16
 have hD16:=hD13.ext hs16
 have hW16:=hW14.ext hs16
 have hjl:j<D.length:=by omega
 refine Qg<|QV (α:=Unit) [(96,121)] (fun _=>[(121,.bool false)]) (fun _ w'=>w'=w16) (by rfl) ?_ ?_
 ·refine Qw<|Qb<|x (Vv rfl rfl rfl)<|Qb<|Qb<|x (Qa rfl)<|x (Qd hB416 rfl rfl)<|x (Qr hW16 rfl)<|x (Vv rfl rfl rfl)<|x (Qn rfl) ?_
  refine Qb<|Qb<|x (Qew rfl rfl (by omega))<|x (Qn rfl)<|Qb<|Qb<|Qb<|x (Qr hD16 rfl)<|x (QeC rfl rfl (by omega))<|x (Qn rfl) ?_
  refine Qb<|Qb<|Qb<|xic (i:=j) hD16 rfl (congrArg (Value.int .i64) hj) hjl fun a118 h118=>x (Qv h118 rfl)<|x (QeC rfl rfl (by omega))<|x (Qn rfl)<|xe ?_
  exact ⟨(),⟨rfl,trivial⟩,rfl⟩
 rintro _ g17 w17 rfl
 refine ZZ rfl<|Qi ?_
 have hs517:=hs514.trans hs16
 refine Qg<|Qc<|Qf ?_
 refine Qh<|QA (α:=Nat) [(2,2),(15,18),(122,143)] (fun z=>[(15,.int .i64 z)]) (fun z w'=>z≤(Y1 (Z7 c.cel)).length∧Step [] w17 w') (fun z=>(Y1 (Z7 c.cel)).length - z) (by rfl) 0 ⟨rfl,trivial⟩
  ⟨Nat.zero_le _,Step.refl _ _⟩ ?_
 rintro k g18 w18 ⟨hk,hs18⟩
 have hB418:=hB416.ext hs18
 have hB618:=hB616.ext hs18
 have hW18:=hW16.ext hs18
 have hA18:=(hA15.ext hs16).ext hs18
 refine Qg<|Qc<|Qb<|x (Qa rfl)<|x (Qd hB418 rfl rfl)<|x (Qr hW18 rfl)<|x (QB rfl rfl)<|xe ?_
 refine QD rfl (fun h126=>?_) (fun h126=>?_)
 ·refine Qz ?_
  refine Qc<|Qf ?_
  exact Ql ⟨[.bool true],⟨rfl,trivial⟩,rfl,(hs05.trans hs517).trans hs18⟩
 have hlt:k<(Y1 (Z7 c.cel)).length:=by have h127:(k:Int)<((Y1 (Z7 c.cel)).length:Int):=h126;omega
 refine Qi ?_
 refine Exists.elim (hpre k hlt) fun s' hs'=>?_
 have hnb:=hs'.1
 have hto2:=hs'.2
 have hrg:=Qcp hok ((Y1 (Z7 c.cel)).take k) 0 ⟨Int.le_refl _,hstp⟩
 rw[hto2] at hrg
 have hrg2:0≤s'∧s'<(Z7 c.cel).st:=hrg
 have hrg0:=hrg2.1
 have hrg1:=hrg2.2
 refine exN hrg0 fun j2 hj2=>?_
 have hDj2:¬cget D j2<0:=by
  have:=(hbD s' hrg0 hrg1)
  rw[hj2] at this
  intro hc
  exact hnb (by rw[hj2];exact this.2 (by simpa using hc))
 have hrun2:=qW hok hstp (u:=(Y1 (Z7 c.cel)).take k) (by rw[hto2];simp;omega)
 have hd18:Step [] w18 { w18 with drawn:=w18.drawn+1 }:=Step.drew _ _
 refine Qg<|Qh<|Qg<|QT (Step [] w18) [(0,true),(1,true),(2,true),(3,true),(4,true),(5,false),(6,true),(7,true),(8,true),(9,true),(10,true),(11,true),(12,true)] Tryz.mixed (by rfl) (by kernel_rfl) (Step.drew _ _) ?_
 refine pq (fun _ hc=>Qq (hB618.ext hc) rfl rfl)<|p (fun _=>Qa rfl)<|pq (fun _ hc=>Qd (hB418.ext hc) rfl rfl)<|p (fun _=>Qm)<|Qls rfl hW18 rfl rfl hk fun vp hvp=>?_
 have hvp':QL [] w18.heap vp ((Y1 (Z7 c.cel)).take k):=by
  unfold QL
  rw[List.length_take,Nat.min_eq_left hk,List.map_take]
  simpa using hvp
 have hR2:=QbA (hA18.ext hd18) (hvp'.ext hd18) 0
 rw[←hst] at hR2
 refine pk<|xf<|hR2.mono ?_
 rintro r19 w19 ⟨hs19,hr19⟩
 rw[if_neg (by simpa using hrun2),hto2] at hr19
 subst hr19
 have hs1819:=hd18.trans hs19
 refine ⟨hs1819,p (fun _=>Qm)<|p (fun _=>Qj rfl rfl)<|p (fun _=>Qj rfl rfl)<|p (fun _=>Qj rfl rfl)<|p (fun _=>Qe)<|p (fun _=>Qe)<|p (fun _=>Qe)<|pe ?_⟩
 have hD19:=(hD16.ext hs18).ext hs1819
 have hj2l:j2<D.length:=by omega
 refine Qc<|Qb<|Qb<|xic (i:=j2) hD19 rfl (congrArg (Value.int .i64) hj2) hj2l fun a141 h141=>x (Qv h141 rfl)<|x (Qew rfl rfl hDj2)<|xe ?_
 refine ZZ rfl<|Qi ?_
 refine Qw<|Qb<|x (Qy rfl rfl ⟨by omega,by omega⟩)<|Qf ?_
 exact ⟨k+1,by omega,⟨rfl,trivial⟩,hlt,hs18.trans hs1819⟩
open Go.RowKit
theorem YF {a b:Bool}(h1:a=true) (h2:b=true):(a && b)=true:=by rw[h1,h2];rfl
theorem yt {P:Program} {f:FuncId} {fn:Func} {s:ChangeSpec} {c:OpenClaim} (h1:(c.wf (OpenSpec.ofChange s))=true) (h2:(laidOutB P)=true) (h3:(mapsRowed P)=true) (h4:(fn.params.all (P.readableRec ·))=true) (h5:(namedTie P c.named s.vars)=true) (h6:((c.stops == []))=true) (h7:((P.stops == []))=true) (h8:((c.knobs == []))=true) (h9:((P.stopKnobs == []))=true) (h10:((c.inPlace == P.inPlace f))=true) (h11:((c.unfollowed == P.unfollowed f))=true) (h12:((c.recurses == P.recurses f))=true) (h13:((c.named == P.varsNamed f))=true) (h14:((c.maps == (fn.params.toList++s.plain.varTypes P).any (P.mapsRec ·)))=true) (h15:((c.ifaces == (fn.params.toList++s.plain.varTypes P).any (P.ifacesRec ·)))=true) (h16:((c.mapsOut == P.mapsAmong fn.resultTypes.toList))=true) (h17:((c.loops == (fn.params.toList++s.plain.varTypes P).any (P.loopsFrom ·)))=true) (h18:((c.wideKeys == (fn.params.toList++s.plain.varTypes P++fn.resultTypes.toList).any (P.wideKeysFrom ·)))=true) (h19:(s.vars.all (P.varReadable ·))=true) (h20:(fn.resultTypes.all (fun t=>P.readableRec t && decide (t<P.types.size)))=true) (h21:((c.ifacesOut == fn.resultTypes.toList.any (P.ifacesRec ·)))=true) (h22:((c.loopsOut == fn.resultTypes.toList.any (P.loopsFrom ·)))=true) (h23:((c.plainKeys == P.plainKeys))=true) (h24:(c.shortTexts.isNone)=true) (h25:(P.stopsHeard)=true) (h26:(P.mayEnter)=true) (h27:((c.lifted == P.liftsFinal))=true) (h28:((P.make == some c.make))=true) (h29:((c.kinds == (if c.domain.isEmpty then [] else fn.params.toList.map fun t=>match P.underlying t with | some (.int k)=>some k | _=>none)))=true) (h30:((c.pinned == c.pinnedBy))=true) (h31:((c.veiled == (fn.params.toList++s.plain.varTypes P++fn.resultTypes.toList).any (P.veiledRec ·)))=true) (h32:(c.veiledFits P fn.params.toList (fn.params.toList++s.plain.varTypes P++fn.resultTypes.toList))=true):joinedFacts P f fn s c=true:=by
 unfold joinedFacts
 exact (YF (YF (YF (YF (YF (YF (YF (YF (YF (YF (YF (YF (YF (YF (YF (YF (YF (YF (YF (YF (YF (YF (YF (YF (YF (YF (YF (YF (YF (YF (YF h1 h2) h3) h4) h5) h6) h7) h8) h9) h10) h11) h12) h13) h14) h15) h16) h17) h18) h19) h20) h21) h22) h23) h24) h25) h26) h27) h28) h29) h30) h31) h32)
theorem UH:laidOutB Tryz.prog=true:=by kernel_rfl
theorem Qfd:mapsRowed Tryz.prog=true:=by kernel_rfl
theorem Qff:Tryz.prog.stopsHeard=true:=by kernel_rfl
theorem Qfg:Tryz.prog.mayEnter=true:=by kernel_rfl
theorem Qfe:(false == Tryz.prog.liftsFinal)=true:=by kernel_rfl
theorem QhB:(Tryz.prog.make == some Make.cut)=true:=by kernel_rfl
theorem QhF:(Rows.modularBlocksRow.inPlace == Tryz.prog.inPlace 4)=true:=by kernel_rfl
theorem QhE:(Rows.modularBlocksRow.unfollowed == Tryz.prog.unfollowed 4)=true:=by kernel_rfl
theorem QhD:(Rows.modularBlocksRow.recurses == Tryz.prog.recurses 4)=true:=by kernel_rfl
theorem QhC:(Rows.modularBlocksRow.named == Tryz.prog.varsNamed 4)=true:=by kernel_rfl
end Go.Proofs.YtgmifemhkjdblaaGreatDoor
namespace Go.Lg
open Go.ChangeShapes Go.WideShapes Go.RowKit
section
variable {H:Type} {enc:TypeId×Value→H} {P:Program}
theorem zz (hl:laidOutB P=true) {W W':World}(hS:Step [] W W') {sp:Nat→Bool}:∀{ts:List TypeId}{vs:LV}{ds:List (DataW H)}{ps:List MemPlace},
  (ts.all fun t=>P.readableRec t && decide (t<P.types.size))=true→DataW.TrodAll enc P W 0 (fun _=>true) true ts vs ds ps→(∀x∈ps,x.block<W.heap.size)→(∀x∈ps,sp x.block=true)→DataW.TrodAll enc P W' 0 sp true ts vs ds ps
 | [],vs,ds,ps,_,h,_,_=>by
  obtain ⟨rfl,rfl,rfl⟩:=trodAll_nil h
  exact trodAll_mk0
 | t::ts,vs,ds,ps,hr,h,hlt,hsp=>by
  obtain ⟨v,vs1,d,yS,a,b,rfl,rfl,rfl,h1,h2⟩:=trodAll_cons h
  simp only[List.all_cons,Bool.and_eq_true,decide_eq_true_eq] at hr
  have hb:Below W.heap.size W W':=hS.below
  refine trodAll_cons_mk (WideElems.Trod_stays hl hr.1.1 hr.1.2 h1 (fun x hx=>hb.same (hlt x (List.mem_append_left _ hx))) (fun x hx=>hsp x (List.mem_append_left _ hx))) ?_
  exact zz hl hS (by simpa using hr.2) h2 (fun x hx=>hlt x (List.mem_append_right _ hx)) (fun x hx=>hsp x (List.mem_append_right _ hx))
theorem Qfb {f:Func}{s:ChangeSpec}{apart fresh handsOn again:Bool}{W W':World}{args:Array Value}{ds gs:List (DataW H)}{before:List MemPlace}{tb:TypeId}
  (hl:laidOutB P=true) (hread:(f.params.toList.all fun t=>P.readableRec t && decide (t<P.types.size))=true) (hrt:f.resultTypes=#[tb]) (htb:P.underlying tb=some .bool) (hvr:s.vars=[])
  (hfn:s.fn H (ds++gs)={ results:=[.lit (.bool true)],args:=ds })
  (hW:DataW.Whole enc P f.params.toList s.vars apart W args.toList ds gs before) (hS:Step [] W W'):s.post enc P f apart fresh handsOn again W args (.bool true) W':=by
 have hlt:=hW.lt
 have hW':=hW
 obtain ⟨p,q,hA,hV,rfl,hz,hn⟩:=hW
 rw[hvr] at hV
 obtain ⟨rfl,rfl⟩:=trodVars_none hV
 rw[List.append_nil] at *
 have hargs:∀sp:Nat→Bool,(∀x∈p,sp x.block=true)→DataW.TrodAll enc P W' 0 sp true f.params.toList args.toList ds p:=fun sp hsp=>zz hl hS hread hA hlt hsp
 have hres:∀(b:Nat) (sp:Nat→Bool) (hd:Bool),DataW.TrodAll enc P W' b sp hd f.resultTypes.toList ((Value.bool true).resultList f.resultTypes.size) [.lit (.bool true)] []:=fun b sp hd=>by
  rw[hrt];exact trodAll_mk1 (shut_bool htb true)
 have hb:Below W.heap.size W W':=hS.below
 have hvars:∀sp:Nat→Bool,DataW.TrodVars enc P W' sp s.vars ([]:List (DataW H)) []:=fun sp=>by rw[hvr];rfl
 have hfn1:(s.fn H ds).results=[.lit (.bool true)]:=by rw[hfn]
 have hfn2:(s.fn H ds).args=ds:=by rw[hfn]
 have hfn3:(s.fn H ds).vars=[]:=by rw[hfn]
 have hok:∀(j:Nat) (t:TypeId) (r:Value),f.resultTypes[j]?=some t→((Value.bool true).resultList f.resultTypes.size)[j]?=some r→Value.okWide P W' .any 0 t r:=ok_one hrt rfl (okWide_bool_mk htb true)
 refine ⟨ds,[],p,[],p,[],hW',?_,?_,?_,?_,fun _=>⟨hok,[.lit (.bool true)]++ds,[],([]++p)++[],⟨[]++p,[],?_,?_,rfl,?_,?_⟩,?_⟩⟩
 ·rw[List.append_nil,hfn1];exact hres _ _ _
 ·rw[List.append_nil,hfn2];exact hargs _ (fun x hx=>by simpa using hlt x hx)
 ·rw[List.append_nil,hfn3];exact hvars _
 ·exact World.keptBut_mono (fun _ f=>f.elim) (hb.frame (fun _=>False))
 ·exact trodAll_append (hargs _ (fun _ _=>rfl)) (hres _ _ _)
 ·exact hvars _
 ·intro b off hp
  have hp':MemPlace.cell b off∈p:=by simpa using hp
  rw[hb.frozen (p:=⟨b,off,none⟩) (hlt _ hp')]
  exact hz b off hp'
 ·intro ha
  have:=hn ha
  simpa using this
 ·intro x hx _
  simpa using hx
end
end Go.Lg
namespace Go.Proofs.YtgmifemhkjdblaaGreatDoor
open Go.ChangeShapes Go.WideShapes Go.RowKit Go.Lg
theorem Qbs:∀(l:LV),(∀v∈l,∃n:Nat,v=.int .u8 (n:Int)∧n<256)→∃ns:LN,l=bys ns∧ns.length=l.length∧∀n∈ns,n<256
 | [],_=>⟨[],rfl,rfl,by simp⟩
 | v::l,h=>by
  obtain ⟨n,rfl,hn⟩:=h v List.mem_cons_self
  obtain ⟨ns,h1,h2,h3⟩:=Qbs l (fun v hv=>h v (List.mem_cons_of_mem _ hv))
  refine ⟨n::ns,by rw[h1];rfl,by simp[h2],fun m hm=>?_⟩
  rcases List.mem_cons.1 hm with rfl | hm
  ·exact hn
  ·exact h3 m hm
theorem QiU {n:Int}(h:(Lit.int .u8 n).wf=true):∃m:Nat,n=m∧m<256:=by
 simp only[Lit.wf,Bool.and_eq_true,decide_eq_true_eq] at h
 rw[show IntKind.u8.min=0 from rfl,show IntKind.u8.max=255 from rfl] at h
 exact ⟨n.toNat,by omega,by omega⟩
theorem Qi2 {w:World}{b:Nat}{s:TypeId×Nat}(h:w.shape? b=some s):b<w.heap.size:=by
 unfold World.shape? at h
 cases hb:w.heap[b]? with
 | none=>simp[hb] at h
 | some o=>exact (Array.getElem?_eq_some_iff.1 hb).1
theorem QhM {P:Program}{w:World}{base:Nat}{a:Addr}{e:TypeId}{n:Nat}(h:w.has P .any base a e n):a.block<w.heap.size:=by
 obtain ⟨_,_,row,cells,h1,_⟩:=h
 exact Qi2 h1
theorem QgZ {P:Program}{w:World}{base:Nat}{t e:TypeId}{a:Addr}{n c:Nat}(ht:P.underlying t=some (.slice e)) (h:Cell.okWide P w .any base t (.slice (some a) n c)):a.block<w.heap.size:=by
 simp only[Cell.okWide,Cell.ok,ht] at h
 exact QhM h.2.2
theorem Qe5 {α:Type}{p:Nat→α→Prop}:∀(n:Nat),(∀i,i<n→∃e,p i e)→∃l:List α,l.length=n∧∀i (h:i<l.length),p i (l[i]'h)
 | 0,_=>⟨[],rfl,fun i h=>by simp at h⟩
 | n+1,h=>by
  obtain ⟨l,h1,h2⟩:=Qe5 n (fun i hi=>h i (by omega))
  obtain ⟨e,he⟩:=h n (by omega)
  refine ⟨l++[e],by simp[h1],fun i hi=>?_⟩
  by_cases hil:i<l.length
  ·rw[List.getElem_append_left hil];exact h2 i hil
  ·have:i=n:=by simp at hi;omega
   subst this
   rw[List.getElem_append_right (by omega)]
   simpa[h1] using he
theorem UC {α:Type}{f:α→Option Value}:∀{L:List α}{l:LV},L.mapM f=some l→l.length=L.length∧∀(i:Nat) (a:α),L[i]?=some a→f a=l[i]?
 | [],l,h=>by
  simp at h
  subst h
  exact ⟨rfl,fun i a h=>by simp at h⟩
 | x::L,l,h=>by
  simp only[List.mapM_cons,Option.bind_eq_bind,Option.pure_def,Option.bind_eq_some_iff] at h
  obtain ⟨v,hv,l1,h1,h2⟩:=h
  cases h2
  obtain ⟨h3,h4⟩:=UC h1
  refine ⟨by simp[h3],fun i a hi=>?_⟩
  cases i with
  | zero=>simp at hi;subst hi;simpa using hv
  | succ i=>simpa using h4 i a (by simpa using hi)
def kT (P:Program) (k:IntKind):Nat→TypeId→Bool
 | 0,_=>false
 | m+1,t=>match P.underlying t with
  | some (.int k')=>k' == k
  | some (.array n e)=>kT P k m e && decide (0<P.cellsOf e) && decide (P.cellsOf t=n*P.cellsOf e)
  | some (.struct fs)=>(List.range (P.cellsOf t)).all fun j=>fs.toList.any fun f=>kT P k m f.type && decide (f.offset≤j∧j<f.offset+P.cellsOf f.type)
  | _=>false
theorem yF {cs:LV}{o n j:Nat}{c:Value}(h:cs[j]?=some c) (h1:o≤j) (h2:j<o+n):c∈(cs.drop o).take n:=by
 refine List.mem_of_getElem? (i:=j - o) ?_
 rw[List.getElem?_take,if_pos (by omega),List.getElem?_drop,show o+(j - o)=j by omega]
 exact h
section
variable {H:Type} {enc:TypeId×Value→H} {P:Program} {W:World} {base b0:Nat} {sp:Nat→Bool} {held:Bool}
theorem K4 {k:IntKind}:∀(m:Nat) {t:TypeId}{cs:LV}{fuel:Nat}{x:DataW H×List MemPlace},kT P k m t=true→DataW.trod enc P W b0 sp held fuel t cs=some x→∀c∈cs,∃n,c=.int k n∧(Lit.int k n).wf=true
 | 0,_,_,_,_,h,_,_,_=>by cases h
 | m+1,t,cs,fuel,x,h,hf,c,hc=>by
  unfold kT at h
  obtain ⟨j,hj,hjc⟩:=List.getElem_of_mem hc
  have hj':cs[j]?=some c:=by rw[List.getElem?_eq_getElem hj,hjc]
  split at h
  ·rename_i k' hu
   have hk:k'=k:=by simpa using h
   subst hk
   obtain ⟨n,h1,_,h2⟩:=DataW.trod_int hu hf
   rw[h1] at hc
   exact ⟨n,List.mem_singleton.1 hc,h2⟩
  ·rename_i n e hu
   simp only[Bool.and_eq_true,decide_eq_true_eq] at h
   obtain ⟨⟨h1,h2⟩,h3⟩:=h
   obtain ⟨xs,m',_,_,hl,hxl,hx⟩:=DataW.trod_array hu hf
   have hdiv:=Nat.div_add_mod j (P.cellsOf e)
   have hmod:=Nat.mod_lt j h2
   have hi:j / P.cellsOf e<n:=by
    refine (Nat.div_lt_iff_lt_mul h2).2 ?_
    omega
   have hxi:=hx (j / P.cellsOf e) hi
   rw[List.getElem?_eq_getElem (show j / P.cellsOf e<xs.length by omega)] at hxi
   rw[Nat.mul_comm] at hdiv
   exact K4 m h1 hxi c (yF hj' (by omega) (by omega))
  ·rename_i fs hu
   obtain ⟨xs,m',_,_,hl,hxl,hx⟩:=DataW.trod_struct hu hf
   have h1:=List.all_eq_true.1 h j (List.mem_range.2 (by omega))
   obtain ⟨f,hfm,h2⟩:=List.any_eq_true.1 h1
   simp only[Bool.and_eq_true,decide_eq_true_eq] at h2
   obtain ⟨i,hi,hif⟩:=List.getElem_of_mem hfm
   have hi2:i<fs.size:=by simpa using hi
   have hfi:fs[i]?=some f:=by rw[Array.getElem?_eq_getElem hi2,←hif];simp
   have hxi:=hx i f hfi
   rw[List.getElem?_eq_getElem (show i<xs.length by omega)] at hxi
   exact K4 m h2.1 hxi c (yF hj' h2.2.1 h2.2.2)
  ·cases h
theorem K9 {k:IntKind}{m:Nat}{fs:Array Field}{cs:LV}{xs:List (DataW H×List MemPlace)}{m':Nat}(hxl:xs.length=fs.size)
  (hx:∀(i:Nat) (f:Field),fs[i]?=some f→DataW.trod enc P W b0 sp held m' f.type ((cs.drop f.offset).take (P.cellsOf f.type))=xs[i]?) {i j:Nat} {f:Field} {c:Value} (hf:fs[i]?=some f) (hk:kT P k m f.type=true) (h1:f.offset≤j) (h2:j<f.offset+P.cellsOf f.type) (hc:cs[j]?=some c) :
  ∃n,c=.int k n∧(Lit.int k n).wf=true:=by
 have hxi:=hx i f hf
 have hi:i<fs.size:=(Array.getElem?_eq_some_iff.1 hf).1
 rw[List.getElem?_eq_getElem (show i<xs.length by omega)] at hxi
 exact K4 m hk hxi c (yF hc h1 h2)
theorem Vo {c:Value}(h:∃n,c=.int .u8 n∧(Lit.int .u8 n).wf=true):∃n:Nat,c=.int .u8 (n:Int)∧n<256:=by
 obtain ⟨n,rfl,h1⟩:=h
 obtain ⟨m,rfl,h2⟩:=QiU h1
 exact ⟨m,rfl,h2⟩
theorem QjR {t e:TypeId}{c:Value}{fuel:Nat}{x:DataW H×List MemPlace}(ht:P.underlying t=some (.slice e)) (he:kT P .u8 5 e=true) (hc:P.cellsOf e=28)
  (hok:Cell.okWide P W .any base t c) (htr:DataW.trod enc P W b0 sp held fuel t [c]=some x):∃a n cp,c=.slice a n cp∧(n≤12→∃u:List PtV,u.length=n∧Zs [] W.heap (.slice a n cp) n 28 (u.flatMap Yg)):=by
 rcases DataW.trod_slice ht htr with ⟨hcs,_⟩ | ⟨a,len,cap,elems,rest,m,_,hcs,_,_,hl,_,hel,hread,_,_⟩
 ·simp at hcs
  subst hcs
  exact ⟨none,0,0,rfl,fun _=>⟨[],rfl,Zs.nil _ _ _⟩⟩
 ·simp at hcs
  subst hcs
  refine ⟨some a,len,cap,rfl,fun h12=>?_⟩
  have each:∀i,i<len→∃d:PtV,∀r v,(Yg d)[r]?=some v→W.cell? (a.add (i*28+r))=some v:=by
   intro i hi
   have hr:=hread i hi
   rw[hc,List.getElem?_eq_getElem (show i<elems.length by omega)] at hr
   obtain ⟨cs,hcs,htd⟩:=Option.bind_eq_some_iff.1 hr
   have hall:=K4 5 he htd
   obtain ⟨ns,h1,h2,h3⟩:=Qbs cs (fun v hv=>Vo (hall v hv))
   unfold World.cells? at hcs
   split at hcs
   ·have hlen:cs.length=28:=by
     simpa using (UC hcs).1
    refine ⟨⟨ns,by omega,h3⟩,fun r v hv=>?_⟩
    have hv':cs[r]?=some v:=by rw[h1];exact hv
    have hrl:r<28:=by have:=(List.getElem?_eq_some_iff.1 hv').1;omega
    have h4:=(UC hcs).2 r r (by simp[hrl])
    rw[Lg.Addr.add_add,hv'] at h4
    exact h4
   ·cases hcs
  obtain ⟨u,hul,hu⟩:=Qe5 len each
  refine ⟨u,hul,?_⟩
  have hfl:(u.flatMap Yg).length=u.length*28:=Qfu Yg 28 ye u
  refine ⟨by rw[hfl,hul],by omega,.inr ⟨a,cap,rfl,by omega,by simp,QgZ ht hok,fun j v hv=>?_⟩⟩
  have hj:j<u.length*28:=by
   rw[←hfl]
   exact (List.getElem?_eq_some_iff.1 hv).1
  have hi:j / 28<u.length:=by omega
  have hat:=Ji Yg 28 ye u (j / 28) hi
  have hjr:j=j / 28*28+j % 28:=by omega
  have h3:(Yg (u[j / 28]'hi))[j % 28]?=some v:=by
   rw[←hat,List.getElem?_take,if_pos (Nat.mod_lt _ (by omega)),List.getElem?_drop,←hjr];exact hv
  rw[←Xi]
  have:=hu (j / 28) hi (j % 28) v h3
  rw[←hjr] at this
  exact this
end
theorem QkC {P:Program}{W:World}{base:Nat}{ts:List TypeId}{cs:Array Value}(h:∀(i:Nat) (v:Value),cs[i]?=some v→∃u,ts[i % ts.length]?=some u∧Cell.okWide P W .any base u v) (i:Nat) (t:TypeId) (v:Value) (hv:cs[i]?=some v) (ht:ts[i % ts.length]?=some t):Cell.okWide P W .any base t v:=by
 obtain ⟨u,hu,k⟩:=h i v hv
 rw[ht] at hu
 cases hu
 exact k
theorem Qjs {H:Type}{enc:TypeId×Value→H}{P:Program}{W:World}{b0 m:Nat}{sp:Nat→Bool}{held:Bool}{fs:Array Field}{cs:LV}{xs:List (DataW H×List MemPlace)}
  (h:∀(i:Nat) (f:Field),fs[i]?=some f→DataW.trod enc P W b0 sp held m f.type ((cs.drop f.offset).take (P.cellsOf f.type))=xs[i]?) (i:Nat) {f:Field} {t o:Nat} {c:Value} (hf:fs[i]?=some f) (ht:f.type=t) (ho:f.offset=o) (hc:P.cellsOf t=1) (hcs:(cs.drop o).take 1=[c]) (hi:i<xs.length) :
  DataW.trod enc P W b0 sp held m t [c]=some (xs[i]'hi):=by
 have e:=h i f hf
 rw[ht,ho,hc,hcs] at e
 rw[e];simp[hi]
section
variable {H:Type} {enc:TypeId×Value→H} {P:Program} {W:World} {base b0:Nat} {sp:Nat→Bool} {held:Bool}
theorem QdA {v:Value}{d:DataW H}{ps:List MemPlace}{t tp te:Nat}{f0 f1 f2 f3 f4:Field}(hu:P.underlying t=some (.struct #[f0,f1,f2,f3,f4])) (hts':(P.cellTypes P.depth t).map (fun ts=>(ts.length,ts[82]?))=some (86,some tp)) (hc:P.cellsOf t=86)
  (h2t:f2.type=tp) (o0:f0.offset=0) (o1:f1.offset=81) (o2:f2.offset=82) (o3:f3.offset=83) (o4:f4.offset=85) (c0:P.cellsOf f0.type=81) (c1:P.cellsOf f1.type=1) (c2:P.cellsOf tp=1) (c3:P.cellsOf f3.type=2) (c4:P.cellsOf f4.type=1)
  (k0:kT P .u8 5 f0.type=true) (k1:kT P .u8 5 f1.type=true) (k3:kT P .u8 5 f3.type=true) (k4:kT P .u8 5 f4.type=true) (hup:P.underlying tp=some (.slice te)) (hke:kT P .u8 5 te=true) (hce:P.cellsOf te=28)
  (hval:Value.okWide P W .any base t v) (h:DataW.Trod enc P W b0 sp held t v d ps):∃l:LwV,v=.agg (Jf l).toArray∧LwA W l:=by
 simp only[Value.okWide,hu] at hval
 obtain ⟨cs,rfl,hsz,ts,hts,_,hcell⟩:=hval
 rw[hts] at hts'
 have hpr:=Option.some.inj hts'
 have htl:ts.length=86:=congrArg Prod.fst hpr
 have ht82:ts[82]?=some tp:=congrArg Prod.snd hpr
 rw[hc] at hsz
 obtain ⟨l⟩:=cs
 have hl:l.length=86:=hsz
 obtain ⟨fuel,hf⟩:=h
 obtain ⟨xs,m,_,_,_,hxl,hfld⟩:=DataW.trod_struct hu hf
 have hf':∀(i:Nat) (f:Field),(#[f0,f1,f2,f3,f4]:Array Field)[i]?=some f→DataW.trod enc P W b0 sp held m f.type ((l.drop f.offset).take (P.cellsOf f.type))=xs[i]?:=hfld
 have hxl5:xs.length=5:=hxl
 have g0:∀c∈l.take 81,∃n:Nat,c=.int .u8 (n:Int)∧n<256:=fun c hm=>by
  obtain ⟨j,hj,hjc⟩:=List.getElem_of_mem hm
  have hj2:j<81:=by simp at hj;omega
  have hjc':l[j]?=some c:=by
   rw[List.getElem_take] at hjc
   rw[List.getElem?_eq_getElem (by omega),hjc]
  exact Vo (K9 hxl hf' (i:=0) (f:=f0) rfl k0 (by omega) (by omega) hjc')
 obtain ⟨ns,e1,e2,e3⟩:=Qbs _ g0
 have hnl:ns.length=81:=by rw[e2];simp;omega
 have at5:∀j,j<86→∃c,l[j]?=some c:=fun j hj=>⟨l[j]'(by omega),List.getElem?_eq_getElem (by omega)⟩
 obtain ⟨x81,q81⟩:=at5 81 (by omega)
 obtain ⟨x82,q82⟩:=at5 82 (by omega)
 obtain ⟨x83,q83⟩:=at5 83 (by omega)
 obtain ⟨x84,q84⟩:=at5 84 (by omega)
 obtain ⟨x85,q85⟩:=at5 85 (by omega)
 have hld:l.drop 81=[x81,x82,x83,x84,x85]:=by
  apply List.ext_getElem?
  intro i
  rw[List.getElem?_drop]
  match i with
  | 0=>exact q81
  | 1=>exact q82
  | 2=>exact q83
  | 3=>exact q84
  | 4=>exact q85
  | i+5=>rw[List.getElem?_eq_none (by omega)];rfl
 obtain ⟨ct,rfl,hct⟩:=Vo (K9 hxl hf' (i:=1) (f:=f1) rfl k1 (by omega) (by omega) q81)
 obtain ⟨y0,rfl,hy0⟩:=Vo (K9 hxl hf' (i:=3) (f:=f3) rfl k3 (by omega) (by omega) q83)
 obtain ⟨y1,rfl,hy1⟩:=Vo (K9 hxl hf' (i:=3) (f:=f3) rfl k3 (by omega) (by omega) q84)
 obtain ⟨cl,rfl,hcl⟩:=Vo (K9 hxl hf' (i:=4) (f:=f4) rfl k4 (by omega) (by omega) q85)
 have w82:=QkC hcell 82 tp x82 (by simpa using q82) (by rw[htl];exact ht82)
 have t82:=Qjs (c:=x82) hf' 2 rfl h2t o2 c2 (by rw[←List.drop_drop (i:=1) (j:=81),hld];rfl) (by omega)
 obtain ⟨a,n,cp,rfl,hP⟩:=QjR hup hke hce w82 t82
 refine ⟨⟨ns,ct,a,n,cp,y0,y1,cl⟩,?_,hnl,e3,hct,hy0,hy1,hcl,fun h3=>hP (by have h4:n≤3:=h3;omega)⟩
 show Value.agg l.toArray=.agg (bys ns++_).toArray
 rw[←e1,←hld,List.take_append_drop]
end
set_option maxRecDepth 100000 in
theorem QkY {H:Type}{enc:TypeId×Value→H}{W:World}{base b0:Nat}{sp:Nat→Bool}{held:Bool}{v:Value}{d:DataW H}{ps:List MemPlace}(hval:Value.okWide Tryz.prog W .any base 30 v) (h:DataW.Trod enc Tryz.prog W b0 sp held 30 v d ps) :
  ∃l:LwV,v=.agg (Jf l).toArray∧LwA W l :=
 QdA Tryz.underlying30 (tp:=27) (by kernel_rfl) (by kernel_rfl) rfl rfl rfl rfl rfl rfl (by kernel_rfl) (by kernel_rfl) (by kernel_rfl) (by kernel_rfl) (by kernel_rfl) (by kernel_rfl) (by kernel_rfl) (by kernel_rfl) (by kernel_rfl) Tryz.underlying27 (by kernel_rfl) (by kernel_rfl) hval h
theorem Qkp {W:World}{l:List (String×DataW Unit)}{a b:String×DataW Unit}(hl:l=[a,b,("internal/strconv.uint64pow10",Lib.tabData .u64 Lib.pow10Tab)]) (h:laidMetH Tryz.prog l W) (hp:(l.all fun x=>x.2.handleName?.isNone)=true):Tb W:=by
 rw[Go.MakeChecks.laidMetH_plain _ _ _ hp,hl] at h
 exact Lib.tabIs_of_head (n:=20) (g:=0) (by kernel_rfl) (t:=362) (by kernel_rfl) (by kernel_rfl) (e:=331) (by kernel_rfl) (by kernel_rfl) (by kernel_rfl) h.tail.tail
end Go.Proofs.YtgmifemhkjdblaaGreatDoor
