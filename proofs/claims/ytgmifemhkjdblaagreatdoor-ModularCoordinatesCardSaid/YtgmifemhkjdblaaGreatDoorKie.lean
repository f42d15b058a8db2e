/- Merged out of 34 texts. -/
import Derived.Test.YtgmifemhkjdblaaGreatDoorKid
import Derived.Test.YtgmifemhkjdblaaGreatDoorKib
import Derived.Test.YtgmifemhkjdblaaGreatDoorKic
namespace Go.Proofs.YtgmifemhkjdblaaGreatDoor
open Tryz
open Go.Lg
def Kw (co:LI) (ls:List (Int×Int)):List (Int×Int):=ls.map λl=>((lwB co l.1:Int),l.2)
theorem Qcz {co:LI}(hi:Yt co) {ls:List (Int×Int)}(h:mis co ls=false):Kw co ls=ixP co ls:=by
 unfold Kw ixP
 refine List.map_congr_left λl hl=>?_
 unfold mis at h
 have h1:=List.any_eq_false.1 h l hl
 have hm:l.1∈co:=by simpa using h1
 rw[Qcq hi hm]
abbrev exG (c:ZB) (i:Int):Exc:=c.ex.getD i.toNat ⟨.empty,[]⟩
abbrev csG (c:ZB) (i:Int):X5:=c.cs.getD i.toNat ⟨.empty,[],0⟩
def exB (c:ZB) (co ix:LI):List Exc:=ix.map λi=>⟨(exG c i).nm,Kw co (exG c i).ls⟩
def csB (c:ZB) (co ix:LI):List X5:=ix.map λi=>⟨(csG c i).nm,Kw co (csG c i).ts,(csG c i).bd⟩
def exM (c:ZB) (co ix:LI):Bool:=ix.any λi=>mis co (exG c i).ls
def csM (c:ZB) (co ix:LI):Bool:=ix.any λi=>mis co (csG c i).ts
theorem Qhl (c:ZB) (p:Prt):QkO c p=(exM c p.co p.ex || csM c p.co p.cs):=rfl
theorem Qim {c:ZB}{p:Prt}(hi:Yt p.co) (h:exM c p.co p.ex=false):exB c p.co p.ex=Qhk c p:=by
 unfold exB Qhk
 refine List.map_congr_left λi hi'=>?_
 rw[Qcz hi (by have:=List.any_eq_false.1 h i hi';simpa using this)]
theorem Qiq {c:ZB}{p:Prt}(hi:Yt p.co) (h:csM c p.co p.cs=false):csB c p.co p.cs=Qhm c p:=by
 unfold csB Qhm
 refine List.map_congr_left λi hi'=>?_
 rw[Qcz hi (by have:=List.any_eq_false.1 h i hi';simpa using this)]
def ck4:List (Value×LI×Int)→Int
 | []=>0
 | (_,s,n)::l=>if YK n none s≠0 then YK n none s else ck4 l
abbrev skC (x:Value×LI×Int):LV:=[x.1,.int .i64 x.2.2]
theorem Qjr (x:Value×LI×Int):(skC x).length=2:=rfl
theorem Qaz:∀{l:List (Value×LI×Int)},ck4 l=0→∀x∈l,YK x.2.2 none x.2.1=0
 | [],_,x,hx=>by cases hx
 | (v,s,n)::l,h,x,hx=>by
  rw[ck4] at h
  by_cases h1:YK n none s≠0
  ·rw[if_pos h1] at h;exact absurd h h1
  ·rw[if_neg h1] at h
   rcases List.mem_cons.1 hx with rfl | hx
   ·exact Decidable.not_not.1 h1
   ·exact Qaz h x hx
theorem ZY.app2 {α:Type}{g:α→LV}{sz T:Nat}{p:α→Value×Nat×Nat×LV}{base N e:Nat}{w7 w8:World}{v v8:Value}{l:List α}{q:α}(h:ZY g sz T p base w7 v l)
  (hq:w7.ownsRow N e (p q).2.2.1 (p q).1 (p q).2.1 (p q).2.2.2) (hqn:(p q).2.1≤1099511627776) (hb:base≤N) (hav:∀b∈ob v,b<N)
  (ho:w8.ownsRow base T sz v8 (l.length+1) (l.flatMap g++g q)) (hs8:Step (ob v) w7 w8) (hn:∀b∈ob v8,b∈ob v∨w7.heap.size≤b):ZY g sz T p base w8 v8 (l++[q]):=by
 refine ⟨?_,λd hd=>?_⟩
 ·rw[List.length_append,List.flatMap_append];simpa using ho
 ·rcases List.mem_append.1 hd with hd | hd
  ·exact (h.each d hd).app hs8 hn
  ·simp only[List.mem_singleton] at hd;subst hd
   exact (ZQ.of_own hq hqn hb hav).app hs8 hn
instance:Bw prog 38 [nS,nS,nS,nS,nS] [(0,1),(1,1),(2,1),(3,1),(4,1)]:=⟨by kernel_rfl,by decide⟩
abbrev YN:LV:=[nS,nS,nS,nS,nS]
theorem Xl {v:Value}(h:v.oneCell'=true):v.cells=[v].toArray:=by
 cases v <;> first | rfl | cases h
def rgB (N M:Nat):LN:=(List.range M).filter λb=>decide (N≤b)
theorem XX {N M b:Nat}:b∈rgB N M↔N≤b∧b<M:=by
 unfold rgB
 rw[List.mem_filter,List.mem_range,decide_eq_true_iff]
 exact And.comm
theorem Qfu {N M:Nat}{w':World}{v:Value}{qs:List IV}(h:∀L:LN,(∀b∈L,b<N)→YU L w'.heap v qs) (hM:w'.heap.size=M) {L:LN}(hL:∀b∈L,b∉rgB N M):YU L w'.heap v qs:=by
 refine (h (L.filter λb=>decide (b<N)) (λb hb=>by have:=(List.mem_filter.1 hb).2;exact of_decide_eq_true this)).up (λb hb=>?_)
 by_cases hbN:b<N
 ·exact .inl (List.mem_filter.2 ⟨hb,decide_eq_true hbN⟩)
 ·refine .inr ?_
  have:=hL b hb
  rw[XX] at this
  omega
structure EiA (L:LN) (H:Array Obj) (z:Value×Value×Value) (ev:List KA) (qc qr:List IV):Prop where
 ev:JK L H z.1 ev
 co:YU L H z.2.1 qc
 rq:YU L H z.2.2 qr
theorem EiA.ext {L:LN}{w w':World}{z:Value×Value×Value}{ev:List KA}{qc qr:List IV}(h:EiA L w.heap z ev qc qr) (hs:Step [] w w'):EiA L w'.heap z ev qc qr:=⟨h.ev.ext hs,h.co.ext hs,h.rq.ext hs⟩
theorem EiA.st {L:LN}{w w':World}{z:Value×Value×Value}{ev:List KA}{qc qr:List IV}(h:EiA L w.heap z ev qc qr) (hs:Step L w w'):EiA L w'.heap z ev qc qr:=⟨h.ev.st hs,h.co.st hs,h.rq.st hs⟩
theorem EiA.up {L L':LN}{H:Array Obj}{z:Value×Value×Value}{ev:List KA}{qc qr:List IV}(h:EiA L H z ev qc qr) (hL:∀b∈L',b∈L∨H.size≤b):EiA L' H z ev qc qr:=⟨h.ev.up hL,h.co.up hL,h.rq.up hL⟩
set_option maxRecDepth 4096 in
set_option maxHeartbeats 16000000 in
theorem QbD {L:LN}{w:World}{c:CL}{v0 v1 v2 v3:Value}{p:Prt}(h0:ZH L w.heap c) (hc0:QL L w.heap v0 p.co) (hr0:QL L w.heap v1 p.rq) (hx0:QL L w.heap v2 p.ex) (hk0:QL L w.heap v3 p.cs) :
  QG prog 152 [c.val,.agg #[v0,v1,v2,v3]] w λr w'=>Step [] w w'∧∃us,r=.tuple #[.agg us.toArray,.int .i64 (yn c.cel p)]∧us.length=5∧ZD us∧(yn c.cel p≠0→us=YN)∧(yn c.cel p=0→QiV w.heap.size w'.heap (.agg us.toArray) (Qdc c.cel p)):=by
 have h:=h0.up (L':=[]) (by simp)
 have hc:=hc0.up (L':=[]) (by simp)
 have hr:=hr0.up (L':=[]) (by simp)
 have hx:=hx0.up (L':=[]) (by simp)
 have hk:=hk0.up (L':=[]) (by simp)
 have hsel:yn c.cel p=if Zh c.cel≠0 then Zh c.cel else if ck4 [(v0,p.co,(c.co.length:Int)),(v1,p.rq,(c.rq.length:Int)),(v2,p.ex,(c.ex.length:Int)),(v3,p.cs,(c.cs.length:Int))]≠0 then ck4 [(v0,p.co,(c.co.length:Int)),(v1,p.rq,(c.rq.length:Int)),(v2,p.ex,(c.ex.length:Int)),(v3,p.cs,(c.cs.length:Int))]
   else if (exM c.cel p.co p.ex || csM c.cel p.co p.cs)=true then 13 else Zh (Qdc c.cel p):=by
  have e1:c.cel.co.length=c.co.length:=List.length_map ..
  have e2:c.cel.rq.length=c.rq.length:=List.length_map ..
  have e3:c.cel.ex.length=c.ex.length:=List.length_map ..
  have e4:c.cel.cs.length=c.cs.length:=List.length_map ..
  unfold yn
  rw[e1,e2,e3,e4,Qhl]
  simp only[ck4]
  by_cases q0:Zh c.cel≠0
  ·rw[if_pos q0,if_pos q0]
  rw[if_neg q0,if_neg q0]
  by_cases q1:YK (c.co.length:Int) none p.co≠0
  ·simp only[if_pos q1]
  simp only[if_neg q1]
  by_cases q2:YK (c.rq.length:Int) none p.rq≠0
  ·simp only[if_pos q2]
  simp only[if_neg q2]
  by_cases q3:YK (c.ex.length:Int) none p.ex≠0
  ·simp only[if_pos q3]
  simp only[if_neg q3]
  by_cases q4:YK (c.cs.length:Int) none p.cs≠0
  ·simp only[if_pos q4]
  simp only[if_neg q4]
  simp
 refine Zc (yn c.cel p) λE hE=>?_
 rw[hE] at hsel ⊢
 refine Zc [(v0,p.co,(c.co.length:Int)),(v1,p.rq,(c.rq.length:Int)),(v2,p.ex,(c.ex.length:Int)),(v3,p.cs,(c.cs.length:Int))] λl4 hl4=>?_
 rw[hl4] at hsel
 have hl4n:l4.length=4:=by rw[←hl4];rfl
 have hl4i:∀x∈l4,QL [] w.heap x.1 x.2.1:=by
  rw[←hl4]
  intro x hm
  simp only[List.mem_cons,List.not_mem_nil,or_false] at hm
  rcases hm with rfl | rfl | rfl | rfl
  ·exact hc
  ·exact hr
  ·exact hx
  ·exact hk
 have hl4z:ck4 l4=0→YK (c.co.length:Int) none p.co=0∧YK (c.rq.length:Int) none p.rq=0∧YK (c.ex.length:Int) none p.ex=0∧YK (c.cs.length:Int) none p.cs=0:=by
  intro h0
  have h1:=Qaz h0
  rw[←hl4] at h1
  exact ⟨h1 (v0,p.co,_) (by simp),h1 (v1,p.rq,_) (by simp),h1 (v2,p.ex,_) (by simp),h1 (v3,p.cs,_) (by simp)⟩
 have hcl:=hc.le
 have hrl:=hr.le
 have hxl:=hx.le
 have hkl:=hk.le
 have hexl:=h.ex.arr.le
 have hcsl:=h.cs.arr.le
 refine QG.of_W func152 rfl ntmps152 results152 (by simp) ?_
 refine Qc<|xl rfl<|QQ (us:=c.cells) rfl λb2 w1 hs1 hb2 hB2=>xl rfl<|QQ (us:=[v0,v1,v2,v3]) rfl λb3 w2 hs2 hb3 hB3=>xl rfl<|Qr (us:=YN) rfl λb4 w3 hs3 hb4 hB4=>Qf ?_
 have hz1:=hs1.size
 have hz2:=hs2.size
 have hz3:=hs3.size
 have hl2:=hB2.lt
 have hl3:=hB3.lt
 have hl4':=hB4.lt
 have hs03:=(hs1.trans hs2).trans hs3
 refine Qg<|Qc<|x (Qn ((hB2.ext hs2).ext hs3) rfl rfl)<|xl rfl<|xf<|(YY (h.ext hs03)).mono ?_
 rintro r4 w4 ⟨rfl,hs4⟩
 refine Qf ?_
 have hs04:=hs03.trans hs4
 have hz4:=hs4.size
 have hB24:=((hB2.ext hs2).ext hs3).ext hs4
 have hB34:=(hB3.ext hs3).ext hs4
 have hB44:=hB4.ext hs4
 refine Qc<|Qb<|x (Q4 rfl rfl)<|xe ?_
 refine Q3 rfl (λh27=>?_) (λh27=>?_)
 ·rw[if_pos h27] at hsel
  subst hsel
  refine Qc<|x (QN trivial)<|Qb<|xl rfl<|Ql (us:=YN) hB44 rfl rfl rfl rfl ⟨rfl,rfl,rfl,rfl,rfl,trivial⟩ λw5 hs5 hB45=>Qf ?_
  exact Qk ⟨[.agg YN.toArray,.int .i64 (Zh c.cel)],⟨⟨_,rfl,Qv rfl (hB45.at (L:=[]) (by simp)).cells⟩,rfl,trivial⟩,hs04.then1 hs5 (by omega),YN,rfl,rfl,⟨rfl,rfl,rfl,rfl,rfl,trivial⟩,λ_=>rfl,λh0=>absurd h0 h27⟩
 rw[if_neg h27] at hsel
 refine Qi ?_
 have h4:=h.ext hs04
 refine Qg<|Qc<|x (Qa rfl)<|x (Qd hB34 rfl rfl)<|x (Qa rfl)<|x (Qd hB24 rfl rfl)<|x (Qs h4.co.arr rfl)<|x (QN ⟨hc.cells,rfl,trivial⟩) <|
  x (Qa rfl)<|x (Qd hB34 rfl rfl)<|x (Qa rfl)<|x (Qd hB24 rfl rfl)<|x (Qs h4.rq.arr rfl)<|x (QN ⟨hr.cells,rfl,trivial⟩) <|
  x (Qa rfl)<|x (Qd hB34 rfl rfl)<|x (Qa rfl)<|x (Qd hB24 rfl rfl)<|x (Qs h4.ex.arr rfl)<|x (QN ⟨hx.cells,rfl,trivial⟩) <|
  x (Qa rfl)<|x (Qd hB34 rfl rfl)<|x (Qa rfl)<|x (Qd hB24 rfl rfl)<|x (Qs h4.cs.arr rfl)<|x (QN ⟨hk.cells,rfl,trivial⟩) <|
  xl rfl<|QH (us:=[skC (v0,p.co,(c.co.length:Int)),skC (v1,p.rq,(c.rq.length:Int)),skC (v2,p.ex,(c.ex.length:Int)),skC (v3,p.cs,(c.cs.length:Int))]) rfl rfl (by decide) (by simp) ⟨rfl,rfl,rfl,rfl,rfl,rfl,rfl,rfl,trivial⟩ λb54 w6 hs6 hb54 hB54=>?_
 have hA54:Zw [] w6.heap (.slice (some ⟨b54,0,none⟩) 4 4) l4.length 2 (l4.flatMap skC):=by
  have:=hB54.arr (L:=[]) (by simp) (n:=4) (cap:=4) (sz:=2) (by rfl) (by omega) (Nat.le_refl _)
  rw[hl4n,←hl4];exact this
 refine x (Qs hA54 rfl)<|Qb<|xe ?_
 have hs06:=hs04.trans hs6
 have hz6:=hs6.size
 refine Qh<|QA (α:=Nat) [(5,5),(8,9),(56,69)] (λz=>[(56,.int .i64 z)]) (λz w'=>z≤l4.length∧Step [] w6 w'∧ck4 (l4.drop z)=ck4 l4) (λz=>l4.length - z) (by rfl) 0 ⟨rfl,trivial⟩ ⟨Nat.zero_le _,Step.refl _ _,rfl⟩ ?_
 rintro k g w7 ⟨hkl4,hs67,hck⟩
 have hs07:=hs06.trans hs67
 have hz7:=hs67.size
 refine Qc<|x (QB rfl rfl)<|xe ?_
 refine Qg<|QD rfl (λh57=>?_) (λh57=>?_)
 ·refine Qz ?_
  have hke:l4.length≤k:=by have h16:¬(k:Int)<(l4.length:Int):=h57;omega
  rw[List.drop_of_length_le hke] at hck
  have hck0:ck4 l4=0:=hck.symm
  rw[if_neg (λh0=>h0 hck0)] at hsel
  obtain ⟨zco,zrq,zex,zcs⟩:=hl4z hck0
  have hco:=(Z1 _ _ _).1 zco
  have hrq:=(Z1 _ _ _).1 zrq
  have hexz:=(Z1 _ _ _).1 zex
  have hcsz:=(Z1 _ _ _).1 zcs
  have h7:=h.ext hs07
  have hB27:QS w7.heap b2 38 c.cells:=(hB24.ext hs6).ext hs67
  have hB37:QS w7.heap b3 256 [v0,v1,v2,v3]:=(hB34.ext hs6).ext hs67
  have hB47:QS w7.heap b4 38 YN:=(hB44.ext hs6).ext hs67
  have hsd:Step [] w7 { w7 with drawn:=w7.drawn+1 }:=Step.drew _ _
  refine QW (α:=Nat×(Value×Value×Value)×List IV×List IV) [(70,83),(10,10)] (λz=>[(10,.pointer (some ⟨z.1,0,none⟩))]) (λz w'=>Step [] w7 w'∧w7.heap.size≤z.1∧QS w'.heap z.1 38 [z.2.1.1,z.2.1.2.1,z.2.1.2.2,nS,nS] ∧
   z.2.2.1.map IV.it=chs c.cel.co p.co∧z.2.2.2.map IV.it=chs c.cel.rq p.rq∧ZD [z.2.1.1,z.2.1.2.1,z.2.1.2.2]∧∀L:LN,(∀b∈L,b<w7.heap.size∨b=z.1)→EiA L w'.heap z.2.1 c.ev z.2.2.1 z.2.2.2) (by rfl) ?_ ?_
  ·refine z7 (α:=(Value×Value×Value)×List IV×List IV) (Step [] w7) [(0,true),(1,true),(3,true),(4,true),(5,true),(6,true),(8,true),(9,true),(10,true),(11,true)] [(2,false),(7,false),(12,false),(13,true)] 14 10 [(15,false)] []
    [(70,83)] [(72,72),(77,77),(82,83)] (λz=>[(83,.agg [z.1.1,z.1.2.1,z.1.2.2,nS,nS].toArray)])
    (λz own w'=>(∀b∈own,w7.heap.size≤b)∧z.2.1.map IV.it=chs c.cel.co p.co∧z.2.2.map IV.it=chs c.cel.rq p.rq∧ZD [z.1.1,z.1.2.1,z.1.2.2]∧∀L:LN,(∀b∈L,b∉own)→EiA L w'.heap z.1 c.ev z.2.1 z.2.2)
    (λv w'=>∃b,v=.pointer (some ⟨b,0,none⟩)∧w7.heap.size≤b∧QS w'.heap b 38 YN) mixed (by rfl) (by kernel_rfl) (by rfl) rfl hsd (by simp) ?_ ?_ ?_ ?_
   ·rintro v own wa wb ⟨b,rfl,hb,hB⟩ hs hn
    exact ⟨b,rfl,hb,hB.step hs (hn b (by simp[ow]))⟩
   ·rintro z own wa wb ⟨h1,h2,h3,h4,h5⟩ hs
    exact ⟨h1,h2,h3,h4,λL hL=>(h5 L hL).ext hs⟩
   ·rintro ⟨zv,qc,qr⟩ g own wz v ⟨i1,i2,i3,i4,i5⟩ hCz ⟨b10,rfl,hb10,hB10⟩ hbo
    simp only[] at i2 i3 i4 i5
    have hb10o:=(hbo b10 (by simp[ow])).1
    refine pkl (hl:=by kernel_rfl)<|Ql (us:=[zv.1,zv.2.1,zv.2.2,nS,nS]) hB10 rfl rfl rfl rfl ⟨i4.1,i4.2.1,i4.2.2.1,rfl,rfl,trivial⟩ λw8 hs8 hB108=>pe ?_
    refine ⟨(b10,zv,qc,qr),⟨rfl,trivial⟩,hCz.then1 hs8 hb10,hb10,hB108,i2,i3,i4,λL hL=>?_⟩
    have h1:=i5 (b10::L) (λb hb=>by
     rcases List.mem_cons.1 hb with rfl | hb
     ·exact hb10o
     ·rcases hL b hb with h2 | h2
      ·exact λh3=>by have:=i1 b h3;omega
      ·subst h2;exact hb10o)
    exact (h1.st (hs8.mono (by simp))).up (λb hb=>.inl (by simp[hb]))
   refine Go.Lg.p (λ_=>Qa rfl)<|pq (λ_ hc=>Qd (hB27.ext hc) rfl rfl)<|Go.Lg.p (λ_=>Qa rfl)<|pq (λ_ hc=>Qd (hB27.ext hc) rfl rfl) <|
    Go.Lg.p (λ_=>Qa rfl)<|pq (λ_ hc=>Qd (hB37.ext hc) rfl rfl)<|Go.Lg.p (λ_=>Qa rfl)<|pq (λ_ hc=>Qd (hB27.ext hc) rfl rfl) <|
    Go.Lg.p (λ_=>Qa rfl)<|pq (λ_ hc=>Qd (hB37.ext hc) rfl rfl)<|pe ⟨λg wf hCf=>Qr (us:=YN) rfl λb wf' hsf hbf hBf=>⟨hsf,hCf.trans hsf,⟨b,rfl,Nat.le_trans hCf.size hbf,hBf⟩,λx hx=>?_⟩,?_⟩
   ·have hxe:x=b:=by
     have hx':x∈[b]:=hx
     simpa using hx'
    subst hxe
    exact ⟨hbf,hBf.lt⟩
   refine f2k λx1 p1 c1=>xf<|(Qbx (h7.ev.ext c1).arr).mono ?_
   rintro r72 y1 ⟨hs1',ho1⟩
   refine ⟨c1.trans hs1',rgB x1.heap.size y1.heap.size,hs1'.any,λb hb=>.inr (XX.1 hb),?_⟩
   refine f2k λx2 p2 c2=>xf<|(qy (h7.co.ext c2) (hc.ext (hs07.trans c2)) (λi hi=>hco.1 i hi)).mono ?_
   rintro r77 y2 ⟨hs2',⟨qc,hqc,hqcI⟩,ho2⟩
   refine ⟨c2.trans hs2',rgB x1.heap.size y1.heap.size++rgB x2.heap.size y2.heap.size,hs2'.any,λb hb=>(List.mem_append.1 hb).imp id λhb=>XX.1 hb,?_⟩
   refine f2k λx3 p3 c3=>xf<|(qy (h7.rq.ext c3) (hr.ext (hs07.trans c3)) (λi hi=>hrq.1 i hi)).mono ?_
   rintro r82 y3 ⟨hs3',⟨qr,hqr,hqrI⟩,ho3⟩
   refine ⟨c3.trans hs3',(rgB x1.heap.size y1.heap.size++rgB x2.heap.size y2.heap.size)++rgB x3.heap.size y3.heap.size,hs3'.any,λb hb=>(List.mem_append.1 hb).imp id λhb=>XX.1 hb,?_⟩
   refine f2p (λ_=>Zx [(0,[r72]),(1,[r77]),(2,[r82])] ⟨Zl ho1,rfl,Xl ho2,rfl,Xl ho3,rfl,trivial⟩)<|f2e ?_
   refine ⟨((r72,r77,r82),qc,qr),⟨rfl,trivial⟩,λb hb=>?_,hqc,hqr,⟨QO ho1,ho2,ho3,trivial⟩,λL hL=>?_⟩
   ·have e1:=c1.size
    have e2:=c2.size
    have e3:=c3.size
    rcases List.mem_append.1 hb with hb | hb
    ·rcases List.mem_append.1 hb with hb | hb
     ·have:=XX.1 hb;omega
     ·have:=XX.1 hb;omega
    ·have:=XX.1 hb;omega
   ·have hL1:∀b∈L,b∉rgB x1.heap.size y1.heap.size:=λb hb hm=>hL b hb (by simp[hm])
    have hL2:∀b∈L,b∉rgB x2.heap.size y2.heap.size:=λb hb hm=>hL b hb (by simp[hm])
    have hL3:∀b∈L,b∉rgB x3.heap.size y3.heap.size:=λb hb hm=>hL b hb (by simp[hm])
    have hev1:JK L y1.heap r72 c.ev:=⟨QV ho1 h.ev.arr.le (λb hb hm=>hL1 b hm (XX.2 (Qq ho1 b hb))),h.ev.nm⟩
    exact ⟨(((hev1.ext p2).ext hs2').ext p3).ext hs3',((Qfu hqcI rfl hL2).ext p3).ext hs3',Qfu hqrI rfl hL3⟩
  rintro ⟨b10,zv,qc,qr⟩ g wc ⟨hsc,hb10,hB10c,hqc,hqr,hone,hEi⟩
  simp only[] at hb10 hB10c hqc hqr hone hEi
  have hl10:=hB10c.lt
  have hzc:=hsc.size
  refine Qc<|xl rfl<|Qr (us:=[.bool false]) rfl λb11 w8 hs8 hb11 hB11=>xl rfl<|QF (j:=0) (u:=.bool false) hB11 rfl rfl (by simp) rfl λw9 hs9 hB119=>xe ?_
  have hsc9:Step [] wc w9:=hs8.then1 hs9 hb11
  have hs79:=hsc.trans hsc9
  have hs09:=hs07.trans hs79
  have hz9:=hsc9.size
  have hl11:=hB119.lt
  have hB109:=hB10c.ext hsc9
  have hB29:=hB27.ext hs79
  have hB39:=hB37.ext hs79
  have hB49:=hB47.ext hs79
  have h9:=h.ext hs09
  have hn10:b10≠b11:=by omega
  have hup:∀b∈[b10,b11],w.heap.size≤b:=λb hb=>by simp only[List.mem_cons,List.not_mem_nil,or_false] at hb;omega
  have hlt9:∀b∈[b10,b11],b<w9.heap.size:=λb hb=>by simp only[List.mem_cons,List.not_mem_nil,or_false] at hb;omega
  have hn2:b2∉[b10,b11]:=λhb=>by simp only[List.mem_cons,List.not_mem_nil,or_false] at hb;omega
  have hn3:b3∉[b10,b11]:=λhb=>by simp only[List.mem_cons,List.not_mem_nil,or_false] at hb;omega
  have hn4:b4∉[b10,b11]:=λhb=>by simp only[List.mem_cons,List.not_mem_nil,or_false] at hb;omega
  have hm10:∀b∈[b10],b∈[b10,b11]:=λb hb=>by simp only[List.mem_singleton] at hb;simp[hb]
  have hm11:∀b∈[b11],b∈[b10,b11]:=λb hb=>by simp only[List.mem_singleton] at hb;simp[hb]
  have ho1:=hone.1
  have ho2:=hone.2.1
  have ho3:=hone.2.2.1
  refine Qc<|x (Zk (l:=[]) (l':=[_,_]))<|Qf<|Qg<|Qc<|x (Qa rfl)<|x (Qd hB39 rfl rfl)<|x (Qs (hx.ext hs09) rfl)<|Qb<|xe ?_
  refine Qh<|QA (α:=Nat×Bool×Value×List XV) [(14,15),(17,17),(88,129)] (λz=>[(88,.int .i64 z.1)]) (λz w'=>z.1≤p.ex.length∧Step [b10,b11] w9 w'∧QS w'.heap b10 38 [zv.1,zv.2.1,zv.2.2,z.2.2.1,nS]∧QS w'.heap b11 4 [.bool z.2.1] ∧
   XvN w9.heap.size w' z.2.2.1 z.2.2.2∧z.2.2.2.map (·.x)=exB c.cel p.co (p.ex.take z.1)∧z.2.1=exM c.cel p.co (p.ex.take z.1)∧∀q∈z.2.2.2,Uj q.nm) (λz=>p.ex.length - z.1) (by rfl) (0,false,nS,[]) ⟨rfl,trivial⟩
   ⟨Nat.zero_le _,Step.refl _ _,hB109,hB119,ZY.nil,rfl,rfl,λq hq=>by cases hq⟩ ?_
  rintro ⟨k,mi,vx,qx⟩ g w10 ⟨hk10,hs910,hB1010,hB1110,hX10,hx10,hmi,hnx⟩
  simp only[] at hk10 hB1010 hB1110 hX10 hx10 hmi hnx
  have hs010:Step [] w w10:=hs09.then hs910 (λb hb=>.inr (hup b hb))
  have h10:=h.ext hs010
  have hB210:=hB29.step hs910 hn2
  have hB310:=hB39.step hs910 hn3
  have hB410:=hB49.step hs910 hn4
  have hz10:=hs910.size
  have hqxl:qx.length=k:=by have:=congrArg List.length hx10;unfold exB at this;rw[List.length_map,List.length_map,List.length_take] at this;omega
  refine Qc<|x (QB rfl rfl)<|xe ?_
  refine Qg<|QD rfl (λh89=>?_) (λh89=>?_)
  ·refine Qz ?_
   have hke2:p.ex.length≤k:=by have h16:¬(k:Int)<(p.ex.length:Int):=h89;omega
   rw[List.take_of_length_le hke2] at hx10 hmi
   have hlt10:∀b∈[b10,b11],b<w10.heap.size:=λb hb=>by have:=hlt9 b hb;omega
   refine Qg<|Qc<|x (Qa rfl)<|x (Qd hB310 rfl rfl)<|x (Qs (hk.ext hs010) rfl)<|Qb<|xe ?_
   refine Qh<|QA (α:=Nat×Bool×Value×List KV) [(19,20),(22,22),(133,180)] (λz=>[(133,.int .i64 z.1)]) (λz w'=>z.1≤p.cs.length∧Step [b10,b11] w10 w'∧QS w'.heap b10 38 [zv.1,zv.2.1,zv.2.2,vx,z.2.2.1]∧QS w'.heap b11 4 [.bool z.2.1] ∧
    KvN w10.heap.size w' z.2.2.1 z.2.2.2∧z.2.2.2.map (·.k)=csB c.cel p.co (p.cs.take z.1)∧z.2.1=(mi || csM c.cel p.co (p.cs.take z.1))∧∀q∈z.2.2.2,Uj q.nm) (λz=>p.cs.length - z.1) (by rfl) (0,mi,nS,[]) ⟨rfl,trivial⟩
    ⟨Nat.zero_le _,Step.refl _ _,hB1010,hB1110,ZY.nil,rfl,by simp[csM],λq hq=>by cases hq⟩ ?_
   rintro ⟨k,mk,vk,kx⟩ g u10 ⟨hkk10,ks910,kB1010,kB1110,kX10,hxk10,hmk,hnk⟩
   simp only[] at hkk10 kB1010 kB1110 kX10 hxk10 hmk hnk
   have ks010:Step [] w u10:=hs010.then ks910 (λb hb=>.inr (hup b hb))
   have k10:=h.ext ks010
   have kB210:=hB210.step ks910 hn2
   have kB310:=hB310.step ks910 hn3
   have kB410:=hB410.step ks910 hn4
   have kz10:=ks910.size
   have hkxl:kx.length=k:=by have:=congrArg List.length hxk10;unfold csB at this;rw[List.length_map,List.length_map,List.length_take] at this;omega
   refine Qc<|x (QB rfl rfl)<|xe ?_
   refine Qg<|QD rfl (λh89=>?_) (λh89=>?_)
   ·refine Qz ?_
    have hke2:p.cs.length≤k:=by have h16:¬(k:Int)<(p.cs.length:Int):=h89;omega
    rw[List.take_of_length_le hke2] at hxk10 hmk
    have hmm:mk=(exM c.cel p.co p.ex || csM c.cel p.co p.cs):=by rw[hmk,hmi]
    rw[←hmm] at hsel
    have kXu:XvN w9.heap.size u10 vx qx:=ZY.low hX10 ks910 hlt9
    refine Qg<|Qc<|x (Qd kB1110 rfl rfl)<|xe ?_
    refine QY rfl (λh181=>?_) (λh181=>?_)
    ·rw[if_pos h181] at hsel
     subst hsel
     refine Qc<|x (QN trivial)<|xl rfl<|Ql (us:=YN) kB410 rfl rfl rfl rfl ⟨rfl,rfl,rfl,rfl,rfl,trivial⟩ λu11 ks11 kB411=>Qf ?_
     exact Qk ⟨[.agg YN.toArray,.int .i64 13],⟨⟨_,rfl,Qv rfl (kB411.at (L:=[]) (by simp)).cells⟩,rfl,trivial⟩,ks010.then1 ks11 (by omega),YN,rfl,rfl,⟨rfl,rfl,rfl,rfl,rfl,trivial⟩,λ_=>rfl,λh0=>absurd h0 (by decide)⟩
    rw[if_neg (by rw[h181];simp)] at hsel
    refine Qi ?_
    have hmf:(exM c.cel p.co p.ex || csM c.cel p.co p.cs)=false:=by rw[←hmm];exact h181
    have hmf2:=Bool.or_eq_false_iff.1 hmf
    have hE1:qx.map (·.x)=Qhk c.cel p:=hx10.trans (Qim hco.2.1 hmf2.1)
    have hE2:kx.map (·.k)=Qhm c.cel p:=hxk10.trans (Qiq hco.2.1 hmf2.2)
    have hcel:(CL.mk zv.1 zv.2.1 zv.2.2 vx vk c.ev qc qr qx kx).cel=Qdc c.cel p:=by
     show ZB.mk c.ev (qc.map IV.it) (qr.map IV.it) (qx.map (·.x)) (kx.map (·.k))=ZB.mk c.cel.ev _ _ _ _
     rw[hqc,hqr,hE1,hE2];rfl
    have hCu:∀L:LN,(∀b∈L,b<w.heap.size)→ZH (b4::L) u10.heap (CL.mk zv.1 zv.2.1 zv.2.2 vx vk c.ev qc qr qx kx):=by
     intro L hL
     have e1:=hEi (b4::b10::L) (λb hb=>by
      rcases List.mem_cons.1 hb with rfl | hb
      ·exact .inl (by omega)
      ·rcases List.mem_cons.1 hb with rfl | hb
       ·exact .inr rfl
       ·have:=hL b hb;exact .inl (by omega))
     have e2:EiA (b11::b4::b10::L) wc.heap zv c.ev qc qr:=e1.up (λb hb=>by
      rcases List.mem_cons.1 hb with rfl | hb
      ·exact .inr hb11
      ·exact .inl hb)
     have hm2:∀b∈[b10,b11],b∈b11::b4::b10::L:=λb hb=>by
      simp only[List.mem_cons,List.not_mem_nil,or_false] at hb
      rcases hb with rfl | rfl <;> simp
     have e3:=((e2.ext hsc9).st (hs910.mono hm2)).st (ks910.mono hm2)
     have e4:EiA (b4::L) u10.heap zv c.ev qc qr:=e3.up (λb hb=>by
      rcases List.mem_cons.1 hb with rfl | hb
      ·exact .inl (by simp)
      ·exact .inl (by simp[hb]))
     have hqx40:qx.length≤1099511627776:=by omega
     have hkx40:kx.length≤1099511627776:=by omega
     have hLt9:∀b∈b4::L,b<w9.heap.size:=λb hb=>by
      rcases List.mem_cons.1 hb with rfl | hb
      ·omega
      ·have:=hL b hb;omega
     have hLt10:∀b∈b4::L,b<w10.heap.size:=λb hb=>by have:=hLt9 b hb;omega
     exact ⟨e4.ev,e4.co,e4.rq,⟨ZY.arr kXu hqx40 hLt9,λq hq=>kXu.each q hq _ (λb hb=>.inl (hLt9 b hb)),hnx⟩,⟨ZY.arr kX10 hkx40 hLt10,λq hq=>kX10.each q hq _ (λb hb=>.inl (hLt10 b hb)),hnk⟩⟩
    rw[←hcel] at hsel
    subst hsel
    refine Qg<|Qc<|x (Qn kB1010 rfl rfl)<|xl rfl<|xf<|(YY (hCu [] (by simp))).mono ?_
    rintro r12 u12 ⟨rfl,ks12⟩
    refine Qf ?_
    have ks012:=ks010.trans ks12
    have kB412:=kB410.ext ks12
    refine Qc<|Qb<|x (Q4 rfl rfl)<|xe ?_
    refine Q3 rfl (λh186=>?_) (λh186=>?_)
    ·refine Qc<|x (QN trivial)<|Qb<|xl rfl<|Ql (us:=YN) kB412 rfl rfl rfl rfl ⟨rfl,rfl,rfl,rfl,rfl,trivial⟩ λu13 ks13 kB413=>Qf ?_
     exact Qk ⟨[.agg YN.toArray,.int .i64 (Zh (CL.mk zv.1 zv.2.1 zv.2.2 vx vk c.ev qc qr qx kx).cel)],⟨⟨_,rfl,Qv rfl (kB413.at (L:=[]) (by simp)).cells⟩,rfl,trivial⟩,ks012.then1 ks13 (by omega),YN,rfl,rfl,⟨rfl,rfl,rfl,rfl,rfl,trivial⟩,λ_=>rfl,λh0=>absurd h0 h186⟩
    refine Qi ?_
    have hone5:ZD [zv.1,zv.2.1,zv.2.2,vx,vk]:=⟨ho1,ho2,ho3,QO kXu.own,QO kX10.own,trivial⟩
    refine Qc<|x (Qn (kB1010.ext ks12) rfl rfl)<|xl rfl<|Ql (us:=[zv.1,zv.2.1,zv.2.2,vx,vk]) kB412 rfl rfl rfl rfl hone5 λu13 ks13 kB413=>Qf<|Qk ⟨[.agg [zv.1,zv.2.1,zv.2.2,vx,vk].toArray,.int .i64 0],⟨⟨_,rfl,Qv rfl (kB413.at (L:=[]) (by simp)).cells⟩,rfl,trivial⟩,ks012.then1 ks13 (by omega),[zv.1,zv.2.1,zv.2.2,vx,vk],?_,rfl,hone5,λh0=>absurd h0 h186,λ_=>⟨(CL.mk zv.1 zv.2.1 zv.2.2 vx vk c.ev qc qr qx kx),rfl,hcel,λL hL=>?_⟩⟩
    ·have h0:Zh (CL.mk zv.1 zv.2.1 zv.2.2 vx vk c.ev qc qr qx kx).cel=0:=Decidable.not_not.1 h186
     rw[h0];rfl
    ·exact ((((hCu L hL).ext ks12).st (ks13.mono (by simp)))).up (λb hb=>.inl (by simp[hb]))
   refine Qi ?_
   have hltE:k<p.cs.length:=by have h16:(k:Int)<(p.cs.length:Int):=h89;omega
   have htkE:p.cs.take (k+1)=p.cs.take k++[p.cs[k]'hltE]:=List.take_succ_eq_append_getElem hltE
   have hiE:=hcsz.1 _ (List.getElem_mem hltE)
   refine Zc (p.cs[k]'hltE) λi hii=>?_
   rw[hii] at htkE hiE
   have hin:i=(i.toNat:Int):=by omega
   have hil:i.toNat<c.cs.length:=by omega
   have hmemE:=List.getElem_mem hil
   have hgE:csG c.cel i=(c.cs[i.toNat]'hil).k:=by
    show (c.cs.map (·.k)).getD i.toNat ⟨.empty,[],0⟩=_
    simp[List.getD,hil]
   refine Zc (c.cs[i.toNat]'hil) λq hq=>?_
   rw[hq] at hmemE hgE
   have hqA:=k10.cs.each q hmemE
   have hqn:=k10.cs.nm q hmemE
   have hql:=hqA.le
   have hcsB:csB c.cel p.co (p.cs.take (k+1))=csB c.cel p.co (p.cs.take k)++[⟨q.nm,Kw p.co q.ts,q.bd⟩]:=by
    rw[htkE];unfold csB;rw[List.map_append,List.map_singleton,hgE];rfl
   have hcsM:csM c.cel p.co (p.cs.take (k+1))=(csM c.cel p.co (p.cs.take k) || mis p.co q.ts):=by
    rw[htkE];unfold csM;rw[List.any_append,List.any_cons,List.any_nil,Bool.or_false,hgE];rfl
   refine Qg<|Qh<|Qc<|xii (i:=k) (hk.ext ks010) rfl rfl hltE λa90 h90=>?_
   rw[hii] at h90
   refine x (Qw h90 rfl)<|Qf<|Qg<|QT (Step [] u10) [(0,true),(1,true),(2,true),(3,true),(4,true),(5,true),(6,true),(7,true),(8,true),(9,true),(10,true),(11,true),(12,true),(13,false),(14,false)] mixed (by rfl) (by kernel_rfl) (Step.drew _ _) ?_
   refine Go.Lg.p (λ_=>Qa rfl)<|pq (λ_ hc=>Qd (kB210.ext hc) rfl rfl)<|Go.Lg.p (λ_=>Qo)<|Go.Lg.pig (g:=ZC) (i:=i.toNat) rfl Jq k10.cs.arr rfl (congrArg (Value.int .i64) hin) hil λa140 h140=>?_
   rw[hq] at h140
   refine Go.Lg.p (λ_=>Zd rfl)<|pq (λ_ hc=>Qw ((h140.fld 0 (.string q.nm) rfl).st hc) rfl)<|Go.Lg.p (λ_=>Qa rfl)<|pq (λ_ hc=>Qd (kB210.ext hc) rfl rfl)<|Go.Lg.p (λ_=>Qo)<|Go.Lg.pig (g:=ZC) (i:=i.toNat) rfl Jq k10.cs.arr rfl (congrArg (Value.int .i64) hin) hil λa146 h146=>?_
   rw[hq] at h146
   refine Go.Lg.p (λ_=>Zd rfl)<|pq (λ_ hc=>Qw ((h146.fld 2 (.int .i64 q.bd) rfl).st hc) rfl)<|Go.Lg.p (λ_=>QN ⟨rfl,rfl,trivial⟩)<|pk<|Qr (us:=[.string .empty,nS,.int .i64 0]) rfl λb20 u11 ks11 hb15 kB15=>⟨(Step.drew [] u10).trans ks11,?_⟩
   refine pkl (hl:=by kernel_rfl)<|Ql (us:=[.string q.nm,nS,.int .i64 q.bd]) kB15 rfl rfl rfl rfl ⟨rfl,rfl,rfl,trivial⟩ λu12 ks12 kB15=>pe ?_
   have hb15:u10.heap.size≤b20:=hb15
   have ks1012:Step [] u10 u12:=((Step.drew [] u10).trans ks11).then1 ks12 hb15
   have ks012:=ks010.trans ks1012
   have k12:=h.ext ks012
   have kB212:=kB210.ext ks1012
   have kz12:=ks1012.size
   have hl15:=kB15.lt
   have hqA12:=hqA.ext ks1012
   refine Qg<|Qc<|x (Qa rfl)<|x (Qd kB212 rfl rfl)<|Qb<|xig (g:=ZC) (i:=i.toNat) Jq k12.cs.arr rfl (congrArg (Value.int .i64) hin) hil λa102 h102=>?_
   rw[hq] at h102
   refine x (Zd rfl)<|x (Qw (h102.fld 1 q.v rfl) rfl)<|x (Qs hqA12 rfl)<|Qb<|xe ?_
   have hup15:∀b∈[b20,b11],w.heap.size≤b:=λb hb=>by simp only[List.mem_cons,List.not_mem_nil,or_false] at hb;omega
   have hn153:b3∉[b20,b11]:=λhb=>by simp only[List.mem_cons,List.not_mem_nil,or_false] at hb;omega
   have hn1510:b10∉[b20,b11]:=λhb=>by simp only[List.mem_cons,List.not_mem_nil,or_false] at hb;omega
   refine Qh<|QA (α:=Nat×Bool×Value) [(22,22),(157,173)] (λz=>[(157,.int .i64 z.1)]) (λz w'=>z.1≤q.ts.length∧Step [b20,b11] u12 w'∧QS w'.heap b20 173 [.string q.nm,z.2.2,.int .i64 q.bd]∧QS w'.heap b11 4 [.bool z.2.1] ∧
    w'.ownsRow u12.heap.size 175 2 z.2.2 z.1 ((Kw p.co (q.ts.take z.1)).flatMap Q9)∧z.2.1=(mk || mis p.co (q.ts.take z.1))) (λz=>q.ts.length - z.1) (by rfl) (0,mk,nS) ⟨rfl,trivial⟩
    ⟨Nat.zero_le _,Step.refl _ _,kB15,kB1110.ext ks1012,QP _ _ _ _,by simp[mis]⟩ ?_
   rintro ⟨j,mj,vl⟩ g u13 ⟨hj,ks1213,kB1513,kB1113,kO13,hmj⟩
   simp only[] at hj kB1513 kB1113 kO13 hmj
   have ks013:Step [] w u13:=ks012.then ks1213 (λb hb=>.inr (hup15 b hb))
   have kz13:=ks1213.size
   have hOge:=Qq kO13
   refine Qc<|x (QB rfl rfl)<|xe ?_
   refine Qg<|QD rfl (λh107=>?_) (λh107=>?_)
   ·refine Qz ?_
    have hje:j=q.ts.length:=by have h16:¬(j:Int)<(q.ts.length:Int):=h107;omega
    rw[hje,List.take_length] at kO13
    rw[hje,List.take_length] at hmj
    have ks1013:Step [b11] u10 u13:=(ks1012.any (L:=[b11])).then ks1213 (λb hb=>by
     simp only[List.mem_cons,List.not_mem_nil,or_false] at hb
     rcases hb with rfl | rfl
     ·exact .inr hb15
     ·exact .inl (by simp))
    have kB1013:=kB1010.step ks1013 (by simpa using hn10)
    have kX13:KvN w10.heap.size u13 vk kx:=ZY.low kX10 ks1013 (λb hb=>hlt10 b (hm11 b hb))
    have kXge:=Qq kX10.own
    have hixl:(Kw p.co q.ts).length=q.ts.length:=List.length_map ..
    refine Qx<|x (Qa rfl)<|x (Qd kB1013 rfl rfl)<|x (Qn kB1513 rfl rfl)<|xl rfl<|QH (us:=[ZC ⟨q.nm,vl,Kw p.co q.ts,q.bd⟩]) rfl rfl (by decide) (by simp) ⟨rfl,rfl,trivial⟩ λb126 u14 ks14 hb126 kB126 =>
     xl rfl<|Q5 (news:=ZC ⟨q.nm,vl,Kw p.co q.ts,q.bd⟩) (L:=[]) (Qu kX13.own ks14) rfl rfl rfl (kB126.at (by simp)) (Qcx (q:=⟨q.nm,vl,Kw p.co q.ts,q.bd⟩) (QO kO13)) (by omega) (by have:=ks14.size;omega) λv15 u15 ho15 ks15 hn15=>?_
    have kz14:=ks14.size
    have kX15:KvN w10.heap.size u15 v15 (kx++[⟨q.nm,vl,Kw p.co q.ts,q.bd⟩]):=ZY.app2 (N:=u12.heap.size) (kX13.ext ks14) (by show u14.ownsRow _ _ 2 vl (Kw p.co q.ts).length _;rw[hixl];exact Qu kO13 ks14) (by show (Kw p.co q.ts).length≤_;omega) (by omega) (λb hb=>by have:=kXge b hb;omega) ho15 ks15 hn15
    have hb10x:b10∉ob vk:=λhm=>by have:=(kXge b10 hm).1;omega
    have hb11x:b11∉ob vk:=λhm=>by have:=(kXge b11 hm).1;omega
    have ks915:Step [b10,b11] w10 u15:=((ks910.trans' (ks1013.mono hm11)).trans ks14).then ks15 (λb hb=>.inr (kXge b hb).1)
    have kB1015:=(kB1013.ext ks14).step ks15 hb10x
    have kB1115:=(kB1113.ext ks14).step ks15 hb11x
    refine x (Qa rfl)<|xl rfl<|QF (j:=4) (u:=v15) kB1015 rfl rfl (by simp) (QO ho15) λu16 ks16 kB1016=>xe ?_
    refine Qx<|x (Qy rfl rfl ⟨by omega,by omega⟩)<|Qb<|xe ?_
    refine ⟨(k+1,mj,v15,kx++[⟨q.nm,vl,Kw p.co q.ts,q.bd⟩]),by simp only[];omega,⟨rfl,trivial⟩,hltE,ks915.trans' (ks16.mono hm10),kB1016,kB1115.step ks16 (by simp only[List.mem_singleton];omega),ZY.low kX15 ks16 (λb hb=>hlt10 b (hm10 b hb)),?_,?_,?_⟩
    ·simp only[]
     rw[hcsB,List.map_append,hxk10];rfl
    ·simp only[]
     rw[hcsM,hmj,hmk,Bool.or_assoc]
    ·intro q' hq'
     rcases List.mem_append.1 hq' with h9' | h9'
     ·exact hnk q' h9'
     ·simp only[List.mem_singleton] at h9';subst h9';exact hqn
   refine Qi ?_
   have hltL:j<q.ts.length:=by have h16:(j:Int)<(q.ts.length:Int):=h107;omega
   have htkL:q.ts.take (j+1)=q.ts.take j++[q.ts[j]'hltL]:=List.take_succ_eq_append_getElem hltL
   have ks1013:Step [b11] u10 u13:=(ks1012.any (L:=[b11])).then ks1213 (λb hb=>by
    simp only[List.mem_cons,List.not_mem_nil,or_false] at hb
    rcases hb with rfl | rfl
    ·exact .inr hb15
    ·exact .inl (by simp))
   have hqA13:P2s [] u13.heap q.v q.ts:=(h.ext ks013).cs.each q hmemE
   refine Qg<|Qh<|Qc<|xig (g:=Q9) X1 hqA13 rfl rfl hltL λa108 h108=>?_
   refine Zc (q.ts[j]'hltL) λlc hlc=>?_
   rw[hlc] at h108 htkL
   have hixt:Kw p.co (q.ts.take (j+1))=Kw p.co (q.ts.take j)++[((lwB p.co lc.1:Int),lc.2)]:=by
    rw[htkL];unfold Kw;rw[List.map_append];rfl
   have hmst:mis p.co (q.ts.take (j+1))=(mis p.co (q.ts.take j) || !decide (lc.1∈p.co)):=by
    rw[htkL];unfold mis;rw[List.any_append];simp
   refine x (QJ h108 rfl rfl)<|xl rfl<|Qr (us:=[.int .i64 0,.int .i64 0]) rfl λb22 u14 ks14 hb17 kB17=>xl rfl<|Ql (us:=Q9 lc) kB17 rfl rfl rfl rfl ⟨rfl,rfl,trivial⟩ λu15 ks15 kB17=>xe ?_
   have ks1315:Step [] u13 u15:=ks14.then1 ks15 hb17
   have ks015:=ks013.trans ks1315
   have kz15:=ks1315.size
   have kB1515:=kB1513.ext ks1315
   have kB1115:=kB1113.ext ks1315
   have kB315:QS u15.heap b3 256 [v0,v1,v2,v3]:=(((kB310.ext ks1012).step ks1213 hn153)).ext ks1315
   have hb15l:b20∉b11::ob vl:=λhb=>by
    rcases List.mem_cons.1 hb with rfl | hb
    ·omega
    ·have:=(hOge b20 hb).1;omega
   have hb17l:b22∉b11::ob vl:=λhb=>by
    rcases List.mem_cons.1 hb with rfl | hb
    ·omega
    ·have:=(hOge b22 hb).2;omega
   have hb11l:b11∉ob vl:=λhb=>by have:=(hOge b11 hb).1;omega
   have hb15v:b20∉ob vl:=λhb=>hb15l (List.mem_cons_of_mem _ hb)
   refine QT (Step (b11::ob vl) u15) [(0,true),(1,true),(2,true),(3,true),(4,true),(6,true),(7,true),(5,false),(8,true),(9,false),(10,false),(11,true),(12,false)] mixed (by rfl) (by kernel_rfl) (Step.drew _ _) ?_
   have kd15:Step [] u15 { u15 with drawn:=u15.drawn+1 }:=Step.drew _ _
   have hzd:({ u15 with drawn:=u15.drawn+1 }:World).heap.size=u15.heap.size:=rfl
   refine Go.Lg.p (λ_=>Qa rfl)<|pq (λ_ hc=>Qd (kB1515.step hc hb15l) rfl rfl)<|Go.Lg.p (λ_=>Qo)<|Go.Lg.p (λ_=>Qa rfl)<|pq (λ_ hc=>Qd (kB17.step hc hb17l) rfl rfl) <|
    Go.Lg.p (λ_=>Qa rfl)<|pq (λ_ hc=>Qd (kB17.step hc hb17l) rfl rfl)<|pk<|xc (first:=[]) (capt:=[.pointer (some ⟨b3,0,none⟩),.pointer (some ⟨b11,0,none⟩)]) rfl<|(zp (kB315.ext kd15) (kB1115.ext kd15) (hc.ext (ks015.trans kd15)) hco.2.1 lc.1).mono ?_
   rintro r16 u16 ⟨ks16,rfl,kB1116⟩
   have ks1516:=kd15.any.trans' ks16
   have kz16:=ks1516.size
   have hm11l:∀b∈[b11],b∈b11::ob vl:=λb hb=>by simp only[List.mem_singleton] at hb;simp[hb]
   refine ⟨ks1516.mono hm11l,?_⟩
   refine Go.Lg.p (λ_=>QN ⟨rfl,rfl,trivial⟩)<|pk<|QH (us:=[Q9 ((lwB p.co lc.1:Int),lc.2)]) rfl rfl (by decide) (by simp) ⟨rfl,rfl,trivial⟩ λb119 u17 ks17 hb119 hB1110=>⟨(ks1516.trans ks17).mono hm11l,?_⟩
   have ks1517:=ks1516.trans ks17
   have kO17:u17.ownsRow u12.heap.size 175 2 vl j ((Kw p.co (q.ts.take j)).flatMap Q9):=Qm (Qu kO13 ks1315) ks1517 (λb hb hm=>by simp only[List.mem_singleton] at hm;subst hm;exact hb11l hb)
   have kz17:=ks1517.size
   refine pk<|Q5 (news:=Q9 ((lwB p.co lc.1:Int),lc.2)) (L:=[]) kO17 rfl rfl rfl (hB1110.at (by simp)) (λu hu=>by
    simp only[List.mem_cons,List.not_mem_nil,or_false] at hu
    rcases hu with rfl | rfl <;> rfl) (by omega) (by omega) λv18 u18 ho18 ks18 hn18=>⟨(ks1517.mono hm11l).trans' (ks18.mono (λb hb=>List.mem_cons_of_mem _ hb)),?_⟩
   have kB1518:=((kB1515.step ks1517 (by simp only[List.mem_singleton];omega))).step ks18 hb15v
   have kB1118:=(kB1116.ext ks17).step ks18 hb11l
   refine Go.Lg.p (λ_=>Qa rfl)<|pkl (hl:=by kernel_rfl)<|QF (j:=1) (u:=v18) kB1518 rfl rfl (by simp) (QO ho18) λu19 ks19 kB1519=>pe ?_
   refine Qx<|x (Qy rfl rfl ⟨by omega,by omega⟩)<|Qb<|xe ?_
   have hm1511:∀b∈[b11],b∈[b20,b11]:=λb hb=>by simp only[List.mem_singleton] at hb;simp[hb]
   have hm1515:∀b∈[b20],b∈[b20,b11]:=λb hb=>by simp only[List.mem_singleton] at hb;simp[hb]
   have ks1218:Step [b20,b11] u12 u18:=((ks1213.trans ks1315).trans' (ks1517.mono hm1511)).then ks18 (λb hb=>.inr (hOge b hb).1)
   refine ⟨(j+1,mj || !decide (lc.1∈p.co),v18),by simp only[];omega,⟨rfl,trivial⟩,hltL,ks1218.trans' (ks19.mono hm1515),kB1519,kB1118.step ks19 (by simp only[List.mem_singleton];omega),?_,?_⟩
   ·simp only[]
    rw[hixt,List.flatMap_append]
    have:=Qm ho18 ks19 (λb hb=>by
     simp only[List.mem_singleton]
     have:=(Qq ho18 b hb).1
     omega)
    simpa using this
   ·simp only[]
    rw[hmst,hmj,Bool.or_assoc]
  refine Qi ?_
  have hltE:k<p.ex.length:=by have h16:(k:Int)<(p.ex.length:Int):=h89;omega
  have htkE:p.ex.take (k+1)=p.ex.take k++[p.ex[k]'hltE]:=List.take_succ_eq_append_getElem hltE
  have hiE:=hexz.1 _ (List.getElem_mem hltE)
  refine Zc (p.ex[k]'hltE) λi hii=>?_
  rw[hii] at htkE hiE
  have hin:i=(i.toNat:Int):=by omega
  have hil:i.toNat<c.ex.length:=by omega
  have hmemE:=List.getElem_mem hil
  have hgE:exG c.cel i=(c.ex[i.toNat]'hil).x:=by
   show (c.ex.map (·.x)).getD i.toNat ⟨.empty,[]⟩=_
   simp[List.getD,hil]
  refine Zc (c.ex[i.toNat]'hil) λq hq=>?_
  rw[hq] at hmemE hgE
  have hqA:=h10.ex.each q hmemE
  have hqn:=h10.ex.nm q hmemE
  have hql:=hqA.le
  have hexB:exB c.cel p.co (p.ex.take (k+1))=exB c.cel p.co (p.ex.take k)++[⟨q.nm,Kw p.co q.ls⟩]:=by
   rw[htkE];unfold exB;rw[List.map_append,List.map_singleton,hgE];rfl
  have hexM:exM c.cel p.co (p.ex.take (k+1))=(exM c.cel p.co (p.ex.take k) || mis p.co q.ls):=by
   rw[htkE];unfold exM;rw[List.any_append,List.any_cons,List.any_nil,Bool.or_false,hgE];rfl
  refine Qg<|Qh<|Qc<|xii (i:=k) (hx.ext hs010) rfl rfl hltE λa90 h90=>?_
  rw[hii] at h90
  refine x (Qw h90 rfl)<|Qf<|Qc<|x (Qa rfl)<|x (Qd hB210 rfl rfl)<|Qb<|xig (g:=Zy) (i:=i.toNat) JL h10.ex.arr rfl (congrArg (Value.int .i64) hin) hil λa95 h95=>?_
  rw[hq] at h95
  refine x (Zd rfl)<|x (Qw (h95.fld 0 (.string q.nm) rfl) rfl)<|x (QN ⟨rfl,trivial⟩)<|xl rfl<|Qr (us:=[.string .empty,nS]) rfl λb15 w11 hs11 hb15 hB15 =>
   xl rfl<|Ql (us:=[.string q.nm,nS]) hB15 rfl rfl rfl rfl ⟨rfl,rfl,trivial⟩ λw12 hs12 hB15=>xe ?_
  have hs1012:Step [] w10 w12:=hs11.then1 hs12 hb15
  have hs012:=hs010.trans hs1012
  have h12:=h.ext hs012
  have hB212:=hB210.ext hs1012
  have hz12:=hs1012.size
  have hl15:=hB15.lt
  have hqA12:=hqA.ext hs1012
  refine Qg<|Qc<|x (Qa rfl)<|x (Qd hB212 rfl rfl)<|Qb<|xig (g:=Zy) (i:=i.toNat) JL h12.ex.arr rfl (congrArg (Value.int .i64) hin) hil λa102 h102=>?_
  rw[hq] at h102
  refine x (Zd rfl)<|x (Qw (h102.fld 1 q.v rfl) rfl)<|x (Qs hqA12 rfl)<|Qb<|xe ?_
  have hup15:∀b∈[b15,b11],w.heap.size≤b:=λb hb=>by simp only[List.mem_cons,List.not_mem_nil,or_false] at hb;omega
  have hn153:b3∉[b15,b11]:=λhb=>by simp only[List.mem_cons,List.not_mem_nil,or_false] at hb;omega
  have hn1510:b10∉[b15,b11]:=λhb=>by simp only[List.mem_cons,List.not_mem_nil,or_false] at hb;omega
  refine Qh<|QA (α:=Nat×Bool×Value) [(17,17),(106,122)] (λz=>[(106,.int .i64 z.1)]) (λz w'=>z.1≤q.ls.length∧Step [b15,b11] w12 w'∧QS w'.heap b15 107 [.string q.nm,z.2.2]∧QS w'.heap b11 4 [.bool z.2.1] ∧
   w'.ownsRow w12.heap.size 109 2 z.2.2 z.1 ((Kw p.co (q.ls.take z.1)).flatMap Q9)∧z.2.1=(mi || mis p.co (q.ls.take z.1))) (λz=>q.ls.length - z.1) (by rfl) (0,mi,nS) ⟨rfl,trivial⟩
   ⟨Nat.zero_le _,Step.refl _ _,hB15,hB1110.ext hs1012,QP _ _ _ _,by simp[mis]⟩ ?_
  rintro ⟨j,mj,vl⟩ g w13 ⟨hj,hs1213,hB1513,hB1113,hO13,hmj⟩
  simp only[] at hj hB1513 hB1113 hO13 hmj
  have hs013:Step [] w w13:=hs012.then hs1213 (λb hb=>.inr (hup15 b hb))
  have hz13:=hs1213.size
  have hOge:=Qq hO13
  refine Qc<|x (QB rfl rfl)<|xe ?_
  refine Qg<|QD rfl (λh107=>?_) (λh107=>?_)
  ·refine Qz ?_
   have hje:j=q.ls.length:=by have h16:¬(j:Int)<(q.ls.length:Int):=h107;omega
   rw[hje,List.take_length] at hO13
   rw[hje,List.take_length] at hmj
   have hs1013:Step [b11] w10 w13:=(hs1012.any (L:=[b11])).then hs1213 (λb hb=>by
    simp only[List.mem_cons,List.not_mem_nil,or_false] at hb
    rcases hb with rfl | rfl
    ·exact .inr hb15
    ·exact .inl (by simp))
   have hB1013:=hB1010.step hs1013 (by simpa using hn10)
   have hX13:XvN w9.heap.size w13 vx qx:=ZY.low hX10 hs1013 (λb hb=>hlt9 b (hm11 b hb))
   have hXge:=Qq hX10.own
   have hixl:(Kw p.co q.ls).length=q.ls.length:=List.length_map ..
   refine Qx<|x (Qa rfl)<|x (Qd hB1013 rfl rfl)<|x (Qn hB1513 rfl rfl)<|xl rfl<|QH (us:=[Zy ⟨q.nm,vl,Kw p.co q.ls⟩]) rfl rfl (by decide) (by simp) ⟨rfl,rfl,trivial⟩ λb126 w14 hs14 hb126 hB126 =>
    xl rfl<|Q5 (news:=Zy ⟨q.nm,vl,Kw p.co q.ls⟩) (L:=[]) (Qu hX13.own hs14) rfl rfl rfl (hB126.at (by simp)) (yf (q:=⟨q.nm,vl,Kw p.co q.ls⟩) (QO hO13)) (by omega) (by have:=hs14.size;omega) λv15 w15 ho15 hs15 hn15=>?_
   have hz14:=hs14.size
   have hX15:XvN w9.heap.size w15 v15 (qx++[⟨q.nm,vl,Kw p.co q.ls⟩]):=ZY.app2 (N:=w12.heap.size) (hX13.ext hs14) (by show w14.ownsRow _ _ 2 vl (Kw p.co q.ls).length _;rw[hixl];exact Qu hO13 hs14) (by show (Kw p.co q.ls).length≤_;omega) (by omega) (λb hb=>by have:=hXge b hb;omega) ho15 hs15 hn15
   have hb10x:b10∉ob vx:=λhm=>by have:=(hXge b10 hm).1;omega
   have hb11x:b11∉ob vx:=λhm=>by have:=(hXge b11 hm).1;omega
   have hs915:Step [b10,b11] w9 w15:=((hs910.trans' (hs1013.mono hm11)).trans hs14).then hs15 (λb hb=>.inr (hXge b hb).1)
   have hB1015:=(hB1013.ext hs14).step hs15 hb10x
   have hB1115:=(hB1113.ext hs14).step hs15 hb11x
   refine x (Qa rfl)<|xl rfl<|QF (j:=3) (u:=v15) hB1015 rfl rfl (by simp) (QO ho15) λw16 hs16 hB1016=>xe ?_
   refine Qx<|x (Qy rfl rfl ⟨by omega,by omega⟩)<|Qb<|xe ?_
   refine ⟨(k+1,mj,v15,qx++[⟨q.nm,vl,Kw p.co q.ls⟩]),by simp only[];omega,⟨rfl,trivial⟩,hltE,hs915.trans' (hs16.mono hm10),hB1016,hB1115.step hs16 (by simp only[List.mem_singleton];omega),ZY.low hX15 hs16 (λb hb=>hlt9 b (hm10 b hb)),?_,?_,?_⟩
   ·simp only[]
    rw[hexB,List.map_append,hx10];rfl
   ·simp only[]
    rw[hexM,hmj,hmi]
   ·intro q' hq'
    rcases List.mem_append.1 hq' with h9' | h9'
    ·exact hnx q' h9'
    ·simp only[List.mem_singleton] at h9';subst h9';exact hqn
  refine Qi ?_
  have hltL:j<q.ls.length:=by have h16:(j:Int)<(q.ls.length:Int):=h107;omega
  have htkL:q.ls.take (j+1)=q.ls.take j++[q.ls[j]'hltL]:=List.take_succ_eq_append_getElem hltL
  have hs1013:Step [b11] w10 w13:=(hs1012.any (L:=[b11])).then hs1213 (λb hb=>by
   simp only[List.mem_cons,List.not_mem_nil,or_false] at hb
   rcases hb with rfl | rfl
   ·exact .inr hb15
   ·exact .inl (by simp))
  have hqA13:P2s [] w13.heap q.v q.ls:=(h.ext hs013).ex.each q hmemE
  refine Qg<|Qh<|Qc<|xig (g:=Q9) X1 hqA13 rfl rfl hltL λa108 h108=>?_
  refine Zc (q.ls[j]'hltL) λlc hlc=>?_
  rw[hlc] at h108 htkL
  have hixt:Kw p.co (q.ls.take (j+1))=Kw p.co (q.ls.take j)++[((lwB p.co lc.1:Int),lc.2)]:=by
   rw[htkL];unfold Kw;rw[List.map_append];rfl
  have hmst:mis p.co (q.ls.take (j+1))=(mis p.co (q.ls.take j) || !decide (lc.1∈p.co)):=by
   rw[htkL];unfold mis;rw[List.any_append];simp
  refine x (QJ h108 rfl rfl)<|xl rfl<|Qr (us:=[.int .i64 0,.int .i64 0]) rfl λb17 w14 hs14 hb17 hB17=>xl rfl<|Ql (us:=Q9 lc) hB17 rfl rfl rfl rfl ⟨rfl,rfl,trivial⟩ λw15 hs15 hB17=>xe ?_
  have hs1315:Step [] w13 w15:=hs14.then1 hs15 hb17
  have hs015:=hs013.trans hs1315
  have hz15:=hs1315.size
  have hB1515:=hB1513.ext hs1315
  have hB1115:=hB1113.ext hs1315
  have hB315:QS w15.heap b3 256 [v0,v1,v2,v3]:=(((hB310.ext hs1012).step hs1213 hn153)).ext hs1315
  have hb15l:b15∉b11::ob vl:=λhb=>by
   rcases List.mem_cons.1 hb with rfl | hb
   ·omega
   ·have:=(hOge b15 hb).1;omega
  have hb17l:b17∉b11::ob vl:=λhb=>by
   rcases List.mem_cons.1 hb with rfl | hb
   ·omega
   ·have:=(hOge b17 hb).2;omega
  have hb11l:b11∉ob vl:=λhb=>by have:=(hOge b11 hb).1;omega
  have hb15v:b15∉ob vl:=λhb=>hb15l (List.mem_cons_of_mem _ hb)
  refine QT (Step (b11::ob vl) w15) [(0,true),(1,true),(2,true),(3,true),(4,true),(6,true),(7,true),(5,false),(8,true),(9,false),(10,false),(11,true),(12,false)] mixed (by rfl) (by kernel_rfl) (Step.drew _ _) ?_
  have hd15:Step [] w15 { w15 with drawn:=w15.drawn+1 }:=Step.drew _ _
  have hzd:({ w15 with drawn:=w15.drawn+1 }:World).heap.size=w15.heap.size:=rfl
  refine Go.Lg.p (λ_=>Qa rfl)<|pq (λ_ hc=>Qd (hB1515.step hc hb15l) rfl rfl)<|Go.Lg.p (λ_=>Qo)<|Go.Lg.p (λ_=>Qa rfl)<|pq (λ_ hc=>Qd (hB17.step hc hb17l) rfl rfl) <|
   Go.Lg.p (λ_=>Qa rfl)<|pq (λ_ hc=>Qd (hB17.step hc hb17l) rfl rfl)<|pk<|xc (first:=[]) (capt:=[.pointer (some ⟨b3,0,none⟩),.pointer (some ⟨b11,0,none⟩)]) rfl<|(zp (hB315.ext hd15) (hB1115.ext hd15) (hc.ext (hs015.trans hd15)) hco.2.1 lc.1).mono ?_
  rintro r16 w16 ⟨hs16,rfl,hB1116⟩
  have hs1516:=hd15.any.trans' hs16
  have hz16:=hs1516.size
  have hm11l:∀b∈[b11],b∈b11::ob vl:=λb hb=>by simp only[List.mem_singleton] at hb;simp[hb]
  refine ⟨hs1516.mono hm11l,?_⟩
  refine Go.Lg.p (λ_=>QN ⟨rfl,rfl,trivial⟩)<|pk<|QH (us:=[Q9 ((lwB p.co lc.1:Int),lc.2)]) rfl rfl (by decide) (by simp) ⟨rfl,rfl,trivial⟩ λb119 w17 hs17 hb119 hB119=>⟨(hs1516.trans hs17).mono hm11l,?_⟩
  have hs1517:=hs1516.trans hs17
  have hO17:w17.ownsRow w12.heap.size 109 2 vl j ((Kw p.co (q.ls.take j)).flatMap Q9):=Qm (Qu hO13 hs1315) hs1517 (λb hb hm=>by simp only[List.mem_singleton] at hm;subst hm;exact hb11l hb)
  have hz17:=hs1517.size
  refine pk<|Q5 (news:=Q9 ((lwB p.co lc.1:Int),lc.2)) (L:=[]) hO17 rfl rfl rfl (hB119.at (by simp)) (λu hu=>by
   simp only[List.mem_cons,List.not_mem_nil,or_false] at hu
   rcases hu with rfl | rfl <;> rfl) (by omega) (by omega) λv18 w18 ho18 hs18 hn18=>⟨(hs1517.mono hm11l).trans' (hs18.mono (λb hb=>List.mem_cons_of_mem _ hb)),?_⟩
  have hB1518:=((hB1515.step hs1517 (by simp only[List.mem_singleton];omega))).step hs18 hb15v
  have hB1118:=(hB1116.ext hs17).step hs18 hb11l
  refine Go.Lg.p (λ_=>Qa rfl)<|pkl (hl:=by kernel_rfl)<|QF (j:=1) (u:=v18) hB1518 rfl rfl (by simp) (QO ho18) λw19 hs19 hB1519=>pe ?_
  refine Qx<|x (Qy rfl rfl ⟨by omega,by omega⟩)<|Qb<|xe ?_
  have hm1511:∀b∈[b11],b∈[b15,b11]:=λb hb=>by simp only[List.mem_singleton] at hb;simp[hb]
  have hm1515:∀b∈[b15],b∈[b15,b11]:=λb hb=>by simp only[List.mem_singleton] at hb;simp[hb]
  have hs1218:Step [b15,b11] w12 w18:=((hs1213.trans hs1315).trans' (hs1517.mono hm1511)).then hs18 (λb hb=>.inr (hOge b hb).1)
  refine ⟨(j+1,mj || !decide (lc.1∈p.co),v18),by simp only[];omega,⟨rfl,trivial⟩,hltL,hs1218.trans' (hs19.mono hm1515),hB1519,hB1118.step hs19 (by simp only[List.mem_singleton];omega),?_,?_⟩
  ·simp only[]
   rw[hixt,List.flatMap_append]
   have:=Qm ho18 hs19 (λb hb=>by
    simp only[List.mem_singleton]
    have:=(Qq ho18 b hb).1
    omega)
   simpa using this
  ·simp only[]
   rw[hmst,hmj,Bool.or_assoc]
 refine Qi ?_
 have hlt:k<l4.length:=by have h16:(k:Int)<(l4.length:Int):=h57;omega
 have hmem:=List.getElem_mem hlt
 have hdr:l4.drop k=l4[k]'hlt::l4.drop (k+1):=List.drop_eq_getElem_cons hlt
 refine Qg<|Qh<|Qc<|xig (g:=skC) Qjr (hA54.ext hs67) rfl rfl hlt λa58 h58=>?_
 refine Zc (l4[k]'hlt) λq hq=>?_
 rw[hq] at h58 hmem hdr
 have hqi:=hl4i q hmem
 rw[hdr,show q=(q.1,q.2.1,q.2.2) from rfl,ck4] at hck
 refine x (QJ h58 rfl rfl)<|xl rfl<|Qr (us:=[nS,.int .i64 0]) rfl λb8 w8 hs8 hb8 hB8=>xl rfl<|Ql (us:=skC q) hB8 rfl rfl rfl rfl ⟨hqi.one,rfl,trivial⟩ λw9 hs9 hB8=>xe ?_
 have hs79:Step [] w7 w9:=hs8.then1 hs9 hb8
 have hs09:=hs07.trans hs79
 refine Qc<|x (Qa rfl)<|x (Qd hB8 rfl rfl)<|x (Qa rfl)<|x (Qd hB8 rfl rfl)<|xl rfl<|xf<|(J7 (hqi.ext hs09) q.2.2).mono ?_
 rintro r10 w10 ⟨rfl,rfl⟩
 refine Qf<|Qc<|Qb<|x (Q4 rfl rfl)<|xe ?_
 refine Q3 rfl (λh66=>?_) (λh66=>?_)
 ·rw[if_pos h66] at hck
  have hne:ck4 l4≠0:=by rw[←hck];exact h66
  rw[if_pos hne,←hck] at hsel
  subst hsel
  have hB410:QS w10.heap b4 38 YN:=((hB44.ext hs6).ext hs67).ext hs79
  refine Qc<|x (QN trivial)<|Qb<|xl rfl<|Ql (us:=YN) hB410 rfl rfl rfl rfl ⟨rfl,rfl,rfl,rfl,rfl,trivial⟩ λw11 hs11 hB411=>Qf ?_
  exact Qk ⟨[.agg YN.toArray,.int .i64 (YK q.2.2 none q.2.1)],⟨⟨_,rfl,Qv rfl (hB411.at (L:=[]) (by simp)).cells⟩,rfl,trivial⟩,hs09.then1 hs11 (by omega),YN,rfl,rfl,⟨rfl,rfl,rfl,rfl,rfl,trivial⟩,λ_=>rfl,λh0=>absurd h0 h66⟩
 rw[if_neg h66] at hck
 refine Qi<|Qx<|x (Qy rfl rfl ⟨by omega,by omega⟩)<|Qb<|xe ?_
 exact ⟨k+1,by omega,⟨rfl,trivial⟩,hlt,hs67.trans hs79,hck⟩
theorem jA (n:Nat):(1:Int)*(2:Int) ^ n=((1 <<< n:Nat):Int):=by
 rw[Nat.shiftLeft_eq,Nat.one_mul,Int.one_mul,Int.natCast_pow];rfl
theorem JO {n:Nat}(h:n<16):1 <<< n<65536:=by
 rw[Nat.shiftLeft_eq,Nat.one_mul]
 exact Nat.pow_lt_pow_right (by decide) h
theorem Qbh {b k:Nat}(hb:b<65536) (hk:k<16):orB b k<65536:=Qcj hb (JO hk)
theorem Qh1 {n:Nat}(h:n<16):inK .u16 ((1:Int)*(2:Int) ^ n):=by
 rw[jA]
 have h1:=JO h
 generalize 1 <<< n=m at h1
 exact ⟨by omega,by omega⟩
theorem QeA {x:Jj}:∀(l:List Jj) (k b:Nat),b<65536→k+l.length≤16→rqB x k b l<65536
 | [],_,_,hb,_=>hb
 | y::l,k,b,hb,hk=>by
  rw[rqB]
  refine QeA l _ _ ?_ (by simp at hk;omega)
  by_cases h:(y.a.al.any λe=>decide (e∈x.a.al))=true
  ·rw[if_pos h];exact Qbh hb (by simp at hk;omega)
  ·rw[if_neg h];exact hb
theorem jN (ls:List (Int×Int)) (l:Int×Int):prB (ls++[l])=orB (prB ls) l.1.toNat:=by
 unfold prB;rw[List.foldl_append];rfl
theorem yA:∀(ls:List (Int×Int)),(∀l∈ls,0≤l.1∧l.1<16)→prB ls<65536:=by
 intro ls
 unfold prB
 have key:∀(ls:List (Int×Int)) (b:Nat),b<65536→(∀l∈ls,0≤l.1∧l.1<16)→ls.foldl (λb l=>orB b l.1.toNat) b<65536:=by
  intro ls
  induction ls with
  | nil=>intro b hb _;exact hb
  | cons l ls ih =>
   intro b hb h
   exact ih _ (Qbh hb (by have:=h l List.mem_cons_self;omega)) (λl' hl=>h l' (List.mem_cons_of_mem _ hl))
 exact key ls 0 (by decide)
theorem yK (m:Nat) (hm:m<65536) (w:World):QG prog 93 [.int .u16 m] w λr w'=>Step [] w w'∧Qt 3 w.heap.size w' r (setK m 8):=by
 refine QG.of_W func93 rfl ntmps93 results93 (by simp) ?_
 refine Qc<|Qf<|Qc<|Qf<|Qg<|Qc<|Qb<|xe ?_
 refine Qh<|QA (α:=Nat×Value) [(3,17)] (λz=>[(3,z.2),(5,.int .i64 z.1)]) (λz w'=>z.1≤8∧Step [] w w'∧Qt 3 w.heap.size w' z.2 (setK m z.1)) (λz=>8 - z.1) (by rfl) (0,nS) ⟨rfl,rfl,trivial⟩
  ⟨Nat.zero_le _,Step.refl _ _,QP _ _ _ _⟩ ?_
 rintro ⟨k,v⟩ g w1 ⟨hk,hs1,ho1⟩
 simp only[] at hk ho1
 have hlen:=Xs m k
 have hz1:=hs1.size
 refine Qc<|x (QB rfl rfl)<|xe ?_
 refine Qg<|QD rfl (λh6=>?_) (λh6=>?_)
 ·refine Qz ?_
  refine Qc<|Qb<|Qf ?_
  have hke:k=8:=by omega
  rw[hke] at ho1
  exact Qk ⟨[v],⟨rfl,trivial⟩,hs1,ho1⟩
 have hlt:k<8:=by omega
 have hdv:m / 2 ^ k<65536:=Nat.lt_of_le_of_lt (Nat.div_le_self _ _) hm
 have hsucc:=VI m k
 refine Qi<|Qg<|Qh<|Qc<|Qb<|Qf<|Qc<|Qb<|Qb<|x (UN (n:=k) rfl rfl (by show k≤16;omega))<|x (Qhs (a:=m / 2 ^ k) (b:=1) (congrArg (Value.int .u16) (Uo m k)) rfl hdv (by decide))<|x (Zn rfl rfl)<|xe ?_
 refine QD rfl (λh12=>?_) (λh12=>?_)
 ·rw[if_neg (λe=>h12 (by rw[e];rfl))] at hsucc
  refine Qi<|Qx<|x (Qy rfl rfl ⟨by omega,by omega⟩)<|Qb<|xe ?_
  exact ⟨(k+1,v),by simp only[];omega,⟨rfl,rfl,trivial⟩,hlt,hs1,by simp only[];rw[hsucc];exact ho1⟩
 rw[if_pos (by omega)] at hsucc
 refine Qx<|Qb<|Qb<|xl rfl<|QH (us:=[[.int .i64 k]]) rfl rfl (by decide) (by simp) ⟨rfl,rfl,trivial⟩ λb15 w2 hs2 hb15 hB15=>?_
 have ho2:=Qu ho1 hs2
 have hz2:=hs2.size
 refine xl rfl<|Q5 (news:=[.int .i64 k]) (L:=[]) ho2 rfl rfl rfl (hB15.at (by simp)) (by simp[Value.oneCell']) (by omega) (by omega) λv3 w3 ho3 hs3 hn3 =>
  Qf ?_
 have hge:=Qq ho1
 refine Qx<|x (Qy rfl rfl ⟨by omega,by omega⟩)<|Qb<|xe ?_
 refine ⟨(k+1,v3),by simp only[];omega,⟨rfl,rfl,trivial⟩,hlt,(hs1.trans hs2).then hs3 (λb hb=>.inr (hge b hb).1),?_⟩
 simp only[]
 rw[hsucc];exact Qt.snoc ho3
theorem Qen {w:World}{c:CL}{b1 b2 i:Nat}(hB1:QS w.heap b1 38 c.cells) (hB2:QS w.heap b2 3 [.int .i64 i]) (hc:ZH [] w.heap c) {q:IV}(hi:c.rq[i]?=some q) (e:Int) :
  QG prog 148 [.int .i64 e,.pointer (some ⟨b1,0,none⟩),.pointer (some ⟨b2,0,none⟩)] w λr w'=>r=.bool (decide (e∈q.p.a.al))∧Step [] w w':=by
 obtain ⟨hlt,hq⟩:=List.getElem?_eq_some_iff.1 hi
 have hqA:=hc.rq.each q (hq ▸ List.getElem_mem hlt)
 refine QG.of_W func148 rfl ntmps148 results148 (by simp) ?_
 refine Qc<|Qf<|Qc<|x (Qa rfl)<|x (Qd hB1 rfl rfl)<|x (Qd hB2 rfl rfl)<|xig (g:=Zi) (i:=i) Xb hc.rq.arr rfl rfl hlt λa8 h8=>?_
 rw[hq] at h8
 refine x (Zd rfl)<|x (Zd rfl)<|x (Qw ((h8.fld 1 q.p.va rfl)) rfl)<|Qb<|xl rfl<|xf<|(Yl hqA.al e).mono ?_
 rintro r1 w1 ⟨rfl,rfl⟩
 refine Qf ?_
 exact Qk ⟨[_],⟨rfl,trivial⟩,rfl,Step.refl _ _⟩
theorem Qhd {w:World}{c:CL}{b1 i:Nat}(hB1:QS w.heap b1 38 c.cells) (hc:ZH [] w.heap c) (h8:c.co.length≤8) {q:IV}(hi:c.rq[i]?=some q) :
  QG prog 147 [.int .i64 i,.pointer (some ⟨b1,0,none⟩)] w λr w'=>r=.int .u16 (rqB q.it 0 0 c.cel.co)∧Step [] w w':=by
 refine QG.of_W func147 rfl ntmps147 results147 (by simp) ?_
 refine Qc<|xl rfl<|QQ (us:=[.int .i64 i]) rfl λb2 w1 hs1 hb2 hB2=>Qf<|Qc<|Qf<|Qg<|Qc<|x (Qa rfl)<|x (Qd (hB1.ext hs1) rfl rfl)<|x (Qs (hc.ext hs1).co.arr rfl)<|Qb<|xe ?_
 refine Qh<|QA (α:=Nat×Nat) [(4,6),(10,24)] (λz=>[(4,.int .u16 z.2),(10,.int .i64 z.1)]) (λz w'=>z.1≤c.co.length∧Step [] w1 w'∧z.2<65536∧rqB q.it z.1 z.2 ((c.co.drop z.1).map (·.it))=rqB q.it 0 0 c.cel.co) (λz=>c.co.length - z.1) (by rfl) (0,0) ⟨rfl,rfl,trivial⟩
  ⟨Nat.zero_le _,Step.refl _ _,by decide,rfl⟩ ?_
 rintro ⟨k,b⟩ g w2 ⟨hk,hs2,hb,hr⟩
 simp only[] at hk hb hr
 have hs02:=hs1.trans hs2
 have h2:=hc.ext hs02
 refine Qc<|x (QB rfl rfl)<|xe ?_
 refine Qg<|QD rfl (λh11=>?_) (λh11=>?_)
 ·refine Qz ?_
  have hke:c.co.length≤k:=by have h16:¬(k:Int)<(c.co.length:Int):=h11;omega
  rw[List.drop_of_length_le hke] at hr
  have hr':b=rqB q.it 0 0 c.cel.co:=hr
  refine Qc<|Qb<|Qf ?_
  exact Qk ⟨[.int .u16 b],⟨rfl,trivial⟩,by rw[hr'];rfl,hs02⟩
 have hlt:k<c.co.length:=by have h16:(k:Int)<(c.co.length:Int):=h11;omega
 have hmem:=List.getElem_mem hlt
 rw[XY hlt,rqB] at hr
 refine Qi<|Qg<|Qh<|Qc<|Qb<|xig (g:=Zi) (i:=k) Xb h2.co.arr rfl rfl hlt λa13 h13=>?_
 refine Zc (c.co[k]'hlt) λy hy=>?_
 rw[hy] at h13 hmem hr
 have hyA:=h2.co.each y hmem
 refine x (QJ h13 rfl rfl)<|xl rfl<|Qr (us:=[.string .empty,nS,.int .i64 0,nS,nS]) rfl λb6 w3 hs3 hb6 hB6=>x Qe <|
  xl rfl<|Ql (us:=Zi y) hB6 rfl rfl rfl rfl ⟨rfl,hyA.al.one,rfl,hyA.mr.one,hyA.ed.one,trivial⟩ λw4 hs4 hB6=>xe ?_
 have hs24:Step [] w2 w4:=hs3.then1 hs4 hb6
 have hs04:=hs02.trans hs24
 refine Qc<|x (Qa rfl)<|x (Qa rfl)<|x (Qd hB6 rfl rfl)<|x (Zk (l:=[]) (l':=[_,_]))<|xl rfl<|xf<|(QcP (q:=λe=>decide (e∈q.p.a.al)) (cap:=[.pointer (some ⟨b1,0,none⟩),.pointer (some ⟨b2,0,none⟩)]) (hyA.al.ext hs24)
  (λe w5 hs5=>Qen ((hB1.ext hs04).ext hs5) ((hB2.ext (hs2.trans hs24)).ext hs5) ((hc.ext hs04).ext hs5) hi e)).mono ?_
 rintro r5 w5 ⟨rfl,hs5⟩
 refine xe ?_
 refine QY rfl (λh19=>?_) (λh19=>?_)
 ·rw[if_pos (by exact h19)] at hr
  refine Qx<|Qb<|Qb<|x (Qcf (n:=k) rfl rfl (by show k≤16;omega) (Qh1 (by omega)))<|x (Qbb (a:=b) (b:=1 <<< k) rfl (congrArg (Value.int .u16) (jA k)) hb (JO (by omega)))<|Qf<|Qx<|x (Qy rfl rfl ⟨by omega,by omega⟩)<|Qb<|xe ?_
  exact ⟨(k+1,orB b k),by simp only[];omega,⟨rfl,rfl,trivial⟩,hlt,(hs2.trans hs24).trans hs5,Qbh hb (by omega),hr⟩
 rw[if_neg (by intro h0;have h19':(y.p.a.al.any λe=>decide (e∈q.p.a.al))=false:=h19;have h0':(y.p.a.al.any λe=>decide (e∈q.p.a.al))=true:=h0;rw[h19'] at h0';cases h0')] at hr
 refine Qi<|Qx<|x (Qy rfl rfl ⟨by omega,by omega⟩)<|Qb<|xe ?_
 exact ⟨(k+1,b),by simp only[];omega,⟨rfl,rfl,trivial⟩,hlt,(hs2.trans hs24).trans hs5,hb,hr⟩
theorem Qhc {w:World}{c:CL}{b1 i:Nat}(hB1:QS w.heap b1 38 c.cells) (hc:ZH [] w.heap c) {q:XV}(hi:c.ex[i]?=some q) (hm:∀l∈q.ls,0≤l.1∧l.1<16) :
  QG prog 149 [.int .i64 i,.pointer (some ⟨b1,0,none⟩)] w λr w'=>r=.int .u16 (prB q.ls)∧Step [] w w':=by
 obtain ⟨hlt,hq⟩:=List.getElem?_eq_some_iff.1 hi
 have hqA:=hc.ex.each q (hq ▸ List.getElem_mem hlt)
 have hql:=hqA.le
 refine QG.of_W func149 rfl ntmps149 results149 (by simp) ?_
 refine Qc<|Qf<|Qc<|Qf<|Qg<|Qc<|x (Qa rfl)<|x (Qd hB1 rfl rfl)<|Qb<|xig (g:=Zy) (i:=i) JL hc.ex.arr rfl rfl hlt λa10 h10=>?_
 rw[hq] at h10
 refine x (Zd rfl)<|x (Qw (h10.fld 1 q.v rfl) rfl)<|x (Qs hqA rfl)<|Qb<|xe ?_
 refine Qh<|QA (α:=Nat×Nat) [(4,4),(6,6),(14,23)] (λz=>[(4,.int .u16 z.2),(14,.int .i64 z.1)]) (λz w'=>z.1≤q.ls.length∧Step [] w w'∧z.2=prB (q.ls.take z.1)) (λz=>q.ls.length - z.1) (by rfl) (0,0) ⟨rfl,rfl,trivial⟩
  ⟨Nat.zero_le _,Step.refl _ _,rfl⟩ ?_
 rintro ⟨k,b⟩ g w1 ⟨hk,hs1,hb⟩
 simp only[] at hk hb
 have hlb:b<65536:=by rw[hb];exact yA _ (λl hl=>hm l (List.mem_of_mem_take hl))
 refine Qc<|x (QB rfl rfl)<|xe ?_
 refine Qg<|QD rfl (λh15=>?_) (λh15=>?_)
 ·refine Qz ?_
  have hke:q.ls.length≤k:=by have h16:¬(k:Int)<(q.ls.length:Int):=h15;omega
  rw[List.take_of_length_le hke] at hb
  refine Qc<|Qb<|Qf ?_
  exact Qk ⟨[.int .u16 b],⟨rfl,trivial⟩,by rw[hb];rfl,hs1⟩
 have hltL:k<q.ls.length:=by have h16:(k:Int)<(q.ls.length:Int):=h15;omega
 have htk:q.ls.take (k+1)=q.ls.take k++[q.ls[k]'hltL]:=List.take_succ_eq_append_getElem hltL
 have hml:=hm _ (List.getElem_mem hltL)
 refine Qi<|Qg<|Qh<|Qc<|xig (g:=Q9) X1 (hqA.ext hs1) rfl rfl hltL λa16 h16=>?_
 refine Zc (q.ls[k]'hltL) λl hl=>?_
 rw[hl] at h16 htk hml
 have hln:l.1=(l.1.toNat:Int):=by omega
 have hl16:l.1.toNat<16:=by omega
 refine x (QJ h16 rfl rfl)<|xl rfl<|Qr (us:=[.int .i64 0,.int .i64 0]) rfl λb6 w2 hs2 hb6 hB6=>xl rfl<|Ql (us:=Q9 l) hB6 rfl rfl rfl rfl ⟨rfl,rfl,trivial⟩ λw3 hs3 hB6 =>
  xe ?_
 have hs13:Step [] w1 w3:=hs2.then1 hs3 hb6
 refine Qx<|Qb<|x (Qa rfl)<|x (Qd hB6 rfl rfl)<|x (Qcf (n:=l.1.toNat) rfl (congrArg (Value.int .i64) hln) (by show l.1.toNat≤16;omega) (Qh1 hl16))<|x (Qbb (a:=b) (b:=1 <<< l.1.toNat) rfl (congrArg (Value.int .u16) (jA _)) hlb (JO hl16))<|Qf<|Qx<|x (Qy rfl rfl ⟨by omega,by omega⟩)<|Qb<|xe ?_
 exact ⟨(k+1,orB b l.1.toNat),by simp only[];omega,⟨rfl,rfl,trivial⟩,hltL,hs1.trans hs13,by simp only[];rw[htk,jN,hb]⟩
theorem Qhb {w:World}{c:CL}{b1 i:Nat}(hB1:QS w.heap b1 38 c.cells) (hc:ZH [] w.heap c) {q:KV}(hi:c.cs[i]?=some q) (hm:∀l∈q.ts,0≤l.1∧l.1<16) :
  QG prog 150 [.int .i64 i,.pointer (some ⟨b1,0,none⟩)] w λr w'=>r=.int .u16 (prB q.ts)∧Step [] w w':=by
 obtain ⟨hlt,hq⟩:=List.getElem?_eq_some_iff.1 hi
 have hqA:=hc.cs.each q (hq ▸ List.getElem_mem hlt)
 have hql:=hqA.le
 refine QG.of_W func150 rfl ntmps150 results150 (by simp) ?_
 refine Qc<|Qf<|Qc<|Qf<|Qg<|Qc<|x (Qa rfl)<|x (Qd hB1 rfl rfl)<|Qb<|xig (g:=ZC) (i:=i) Jq hc.cs.arr rfl rfl hlt λa10 h10=>?_
 rw[hq] at h10
 refine x (Zd rfl)<|x (Qw (h10.fld 1 q.v rfl) rfl)<|x (Qs hqA rfl)<|Qb<|xe ?_
 refine Qh<|QA (α:=Nat×Nat) [(4,4),(6,6),(14,23)] (λz=>[(4,.int .u16 z.2),(14,.int .i64 z.1)]) (λz w'=>z.1≤q.ts.length∧Step [] w w'∧z.2=prB (q.ts.take z.1)) (λz=>q.ts.length - z.1) (by rfl) (0,0) ⟨rfl,rfl,trivial⟩
  ⟨Nat.zero_le _,Step.refl _ _,rfl⟩ ?_
 rintro ⟨k,b⟩ g w1 ⟨hk,hs1,hb⟩
 simp only[] at hk hb
 have hlb:b<65536:=by rw[hb];exact yA _ (λl hl=>hm l (List.mem_of_mem_take hl))
 refine Qc<|x (QB rfl rfl)<|xe ?_
 refine Qg<|QD rfl (λh15=>?_) (λh15=>?_)
 ·refine Qz ?_
  have hke:q.ts.length≤k:=by have h16:¬(k:Int)<(q.ts.length:Int):=h15;omega
  rw[List.take_of_length_le hke] at hb
  refine Qc<|Qb<|Qf ?_
  exact Qk ⟨[.int .u16 b],⟨rfl,trivial⟩,by rw[hb];rfl,hs1⟩
 have hltL:k<q.ts.length:=by have h16:(k:Int)<(q.ts.length:Int):=h15;omega
 have htk:q.ts.take (k+1)=q.ts.take k++[q.ts[k]'hltL]:=List.take_succ_eq_append_getElem hltL
 have hml:=hm _ (List.getElem_mem hltL)
 refine Qi<|Qg<|Qh<|Qc<|xig (g:=Q9) X1 (hqA.ext hs1) rfl rfl hltL λa16 h16=>?_
 refine Zc (q.ts[k]'hltL) λl hl=>?_
 rw[hl] at h16 htk hml
 have hln:l.1=(l.1.toNat:Int):=by omega
 have hl16:l.1.toNat<16:=by omega
 refine x (QJ h16 rfl rfl)<|xl rfl<|Qr (us:=[.int .i64 0,.int .i64 0]) rfl λb6 w2 hs2 hb6 hB6=>xl rfl<|Ql (us:=Q9 l) hB6 rfl rfl rfl rfl ⟨rfl,rfl,trivial⟩ λw3 hs3 hB6 =>
  xe ?_
 have hs13:Step [] w1 w3:=hs2.then1 hs3 hb6
 refine Qx<|Qb<|x (Qa rfl)<|x (Qd hB6 rfl rfl)<|x (Qcf (n:=l.1.toNat) rfl (congrArg (Value.int .i64) hln) (by show l.1.toNat≤16;omega) (Qh1 hl16))<|x (Qbb (a:=b) (b:=1 <<< l.1.toNat) rfl (congrArg (Value.int .u16) (jA _)) hlb (JO hl16))<|Qf<|Qx<|x (Qy rfl rfl ⟨by omega,by omega⟩)<|Qb<|xe ?_
 exact ⟨(k+1,orB b l.1.toNat),by simp only[];omega,⟨rfl,rfl,trivial⟩,hltL,hs1.trans hs13,by simp only[];rw[htk,jN,hb]⟩
end Go.Proofs.YtgmifemhkjdblaaGreatDoor
namespace Go.Lg
theorem xcG {P:Program}{f:Fr}{w:World}{K:Fr→World→Prop}{d:Option Nat}{ty:Nat}{ps:String}{af:Array Edge}{gd:Option (Nat×Bool)}{x:Operand}{l:List Operand}{at_:Array Nat}
  {g:Nat} {first capt:LV} (hg:∃fn,Fu P g fn) (hx:ev f x=.func (.func g) first.toArray capt.toArray) (h:QG P g (first++l.map (ev f)++capt) w λv w'=>K (QU f d v) w') :
  XO P ⟨d,.call ⟨.value x,l.toArray,at_⟩,ty,ps,af,gd⟩ f w K:=by
 obtain ⟨fn,hF⟩:=hg
 exact xc (fn:=fn) hx h
end Go.Lg
namespace Go.Proofs.YtgmifemhkjdblaaGreatDoor
open Tryz
open Go.Lg
def gK (m:Nat):Nat:=if m=0 then 147 else if m=1 then 149 else 150
theorem QfB (m:Nat):∃fn,Fu prog (gK m) fn:=by
 unfold gK
 split
 ·exact ⟨_,inferInstance⟩
 ·split
  ·exact ⟨_,inferInstance⟩
  ·exact ⟨_,inferInstance⟩
abbrev Xf (c:ZB) (m:Nat):LN:=srK c ((m:Int)+1)
theorem Qeq (c:ZB):Xf c 0=srR c:=rfl
theorem Qep (c:ZB):Xf c 1=srX c:=rfl
theorem Qeo (c:ZB):Xf c 2=srC c:=rfl
structure Ul (c:ZB):Prop where
 c8:c.co.length≤8
 r:c.rq.length≤32
 x:c.ex.length≤32
 k:c.cs.length≤32
 xl:∀e∈c.ex,∀l∈e.ls,0≤l.1∧l.1<16
 kl:∀e∈c.cs,∀l∈e.ts,0≤l.1∧l.1<16
theorem QgK.sr {c:ZB}(h:QgK c):Ul c:=by
 have h1:=Ua h.cd
 have h2:(szs c.co).length=c.co.length:=List.length_map ..
 have h8:=h.c8
 have hr:=h.cr
 refine ⟨h8,by omega,h1.xl,h1.kl,λe he l hl=>?_,λe he l hl=>?_⟩
 ·have:=h1.x e he l hl;omega
 ·have:=(h1.k e he).1 l hl;omega
theorem K6 {c:ZB}(h:Ul c) {m:Nat}(hm:m<3):(Xf c m).length≤32:=by
 have h1:=h.r
 have h2:=h.x
 have h3:=h.k
 rcases m with _ | _ | _ | m
 ·rw[Qeq];unfold srR;rw[List.length_map];exact h1
 ·rw[Qep];unfold srX;rw[List.length_map];exact h2
 ·rw[Qeo];unfold srC;rw[List.length_map];exact h3
 ·omega
theorem UF {c:ZB}(h:Ul c) {m:Nat}(hm:m<3):∀b∈Xf c m,b<65536:=by
 have h8:=h.c8
 rcases m with _ | _ | _ | m
 ·rw[Qeq];unfold srR
  intro b hb
  obtain ⟨x,_,rfl⟩:=List.mem_map.1 hb
  exact QeA _ _ _ (by decide) (by omega)
 ·rw[Qep];unfold srX
  intro b hb
  obtain ⟨x,hx,rfl⟩:=List.mem_map.1 hb
  exact yA _ (h.xl x hx)
 ·rw[Qeo];unfold srC
  intro b hb
  obtain ⟨x,hx,rfl⟩:=List.mem_map.1 hb
  exact yA _ (h.kl x hx)
 ·omega
abbrev ji (b1:Nat) (c:ZB) (m:Nat):LV:=[.int .i64 ((m:Int)+1),.int .i64 (Xf c m).length,.func (.func (gK m)) #[] #[.pointer (some ⟨b1,0,none⟩)]]
theorem UE (b1:Nat) (c:ZB) (m:Nat):(ji b1 c m).length=3:=rfl
theorem Qa6 {w:World}{c:CL}{b1 m i:Nat}(hB1:QS w.heap b1 38 c.cells) (hc:ZH [] w.heap c) (hok:Ul c.cel) (hm:m<3) (hi:i<(Xf c.cel m).length) :
  QG prog (gK m) [.int .i64 i,.pointer (some ⟨b1,0,none⟩)] w λr w'=>r=.int .u16 ((Xf c.cel m)[i]'hi:Nat)∧Step [] w w':=by
 rcases m with _ | _ | _ | m
 ·have hl:(Xf c.cel 0).length=c.rq.length:=by rw[Qeq];unfold srR;rw[List.length_map];exact List.length_map ..
  have hi':i<c.rq.length:=Nat.lt_of_lt_of_eq hi hl
  have e:(Xf c.cel 0)[i]'hi=rqB (c.rq[i]'hi').it 0 0 c.cel.co:=by
   show (srR c.cel)[i]'_=_
   simp[srR,CL.cel]
  rw[e]
  have h8:c.co.length≤8:=by have:=hok.c8;rw[show c.cel.co.length=c.co.length from List.length_map ..] at this;exact this
  exact Qhd hB1 hc h8 (List.getElem?_eq_getElem hi')
 ·have hl:(Xf c.cel 1).length=c.ex.length:=by rw[Qep];unfold srX;rw[List.length_map];exact List.length_map ..
  have hi':i<c.ex.length:=Nat.lt_of_lt_of_eq hi hl
  have e:(Xf c.cel 1)[i]'hi=prB (c.ex[i]'hi').ls:=by
   show (srX c.cel)[i]'_=_
   simp[srX,CL.cel,XV.x]
  rw[e]
  exact Qhc hB1 hc (List.getElem?_eq_getElem hi') (λl hl=>hok.xl (c.ex[i]'hi').x (List.mem_map_of_mem (List.getElem_mem hi')) l hl)
 ·have hl:(Xf c.cel 2).length=c.cs.length:=by rw[Qeo];unfold srC;rw[List.length_map];exact List.length_map ..
  have hi':i<c.cs.length:=Nat.lt_of_lt_of_eq hi hl
  have e:(Xf c.cel 2)[i]'hi=prB (c.cs[i]'hi').ts:=by
   show (srC c.cel)[i]'_=_
   simp[srC,CL.cel,KV.k]
  rw[e]
  exact Qhb hB1 hc (List.getElem?_eq_getElem hi') (λl hl=>hok.kl (c.cs[i]'hi').k (List.mem_map_of_mem (List.getElem_mem hi')) l hl)
 ·omega
structure Ql7 (N:Nat) (w:World) (c:CL) (r:Value) (b1 b:Nat):Prop where
 r:r=.slice (some ⟨b,0,none⟩) 3 3
 n1:N≤b1
 n:N≤b
 B1:QS w.heap b1 38 c.cells
 B:QS w.heap b 195 ([0,1,2].flatMap (ji b1 c.cel))
theorem KI {L:LN}{w:World}{c:CL}(h0:ZH L w.heap c) :
  QG prog 92 [c.val] w λr w'=>Step [] w w'∧∃b1 b,Ql7 w.heap.size w' c r b1 b:=by
 have h:=h0.up (L':=[]) (by simp)
 have e0:(Xf c.cel 0).length=c.rq.length:=by rw[Qeq];unfold srR;rw[List.length_map];exact List.length_map ..
 have e1:(Xf c.cel 1).length=c.ex.length:=by rw[Qep];unfold srX;rw[List.length_map];exact List.length_map ..
 have e2:(Xf c.cel 2).length=c.cs.length:=by rw[Qeo];unfold srC;rw[List.length_map];exact List.length_map ..
 refine QG.of_W func92 rfl ntmps92 results92 (by simp) ?_
 refine Qc<|xl rfl<|QQ (us:=c.cells) rfl λb1 w1 hs1 hb1 hB1=>Qf ?_
 have h1:=h.ext hs1
 refine Qc<|x (Qa rfl)<|x (Qd hB1 rfl rfl)<|x (Qs h1.rq.arr rfl)<|x (Zk (l:=[]) (l':=[_]))<|x (QN ⟨rfl,rfl,rfl,trivial⟩)<|x (Qa rfl) <|
  x (Qd hB1 rfl rfl)<|x (Qs h1.ex.arr rfl)<|x (Zk (l:=[]) (l':=[_]))<|x (QN ⟨rfl,rfl,rfl,trivial⟩)<|x (Qa rfl)<|x (Qd hB1 rfl rfl) <|
  x (Qs h1.cs.arr rfl)<|x (Zk (l:=[]) (l':=[_]))<|x (QN ⟨rfl,rfl,rfl,trivial⟩) <|
  xl rfl<|QH (us:=[[.int .i64 1,.int .i64 c.rq.length,.func (.func 147) #[] #[.pointer (some ⟨b1,0,none⟩)]],[.int .i64 2,.int .i64 c.ex.length,.func (.func 149) #[] #[.pointer (some ⟨b1,0,none⟩)]],[.int .i64 3,.int .i64 c.cs.length,.func (.func 150) #[] #[.pointer (some ⟨b1,0,none⟩)]]]) rfl rfl (by decide) (by simp) ⟨rfl,rfl,rfl,rfl,rfl,rfl,trivial⟩ λb18 w2 hs2 hb18 hB18 =>
  Qf ?_
 have hz1:=hs1.size
 have hz2:=hs2.size
 refine Qk ⟨[_],⟨rfl,trivial⟩,hs1.trans hs2,b1,b18,rfl,hb1,by omega,hB1.ext hs2,?_⟩
 have e:[0,1,2].flatMap (ji b1 c.cel)=[.int .i64 1,.int .i64 c.rq.length,.func (.func 147) #[] #[.pointer (some ⟨b1,0,none⟩)],.int .i64 2,.int .i64 c.ex.length,.func (.func 149) #[] #[.pointer (some ⟨b1,0,none⟩)],.int .i64 3,.int .i64 c.cs.length,.func (.func 150) #[] #[.pointer (some ⟨b1,0,none⟩)]]:=by
  simp only[List.flatMap_cons,List.flatMap_nil,ji,e0,e1,e2]
  rfl
 rw[e];exact hB18
def srP (c:ZB):Nat→LN
 | 0=>[]
 | m+1=>srP c m++Xf c m
theorem jz (c:ZB):srP c 3=sets c:=by
 simp only[srP,Qeq,Qep,Qeo,sets,List.nil_append,List.append_assoc]
theorem yl {c:ZB}(h:Ul c):∀m,m≤3→(srP c m).length≤32*m
 | 0,_=>Nat.zero_le _
 | m+1,hm=>by
  have h1:=yl h m (by omega)
  have h2:=K6 h (show m<3 by omega)
  rw[srP,List.length_append];omega
abbrev Qd9 (l:LN):LV:=l.map λb=>.int .u16 (b:Nat)
abbrev qR (base:Nat) (w:World) (v:Value) (l:LN):Prop:=w.ownsRow base 197 1 v l.length (Qd9 l)
theorem qR.snoc {base:Nat}{w:World}{v:Value}{l:LN}{b:Nat}(h:w.ownsRow base 197 1 v (l.length+1) (Qd9 l++[.int .u16 (b:Nat)])):qR base w v (l++[b]):=by
 unfold qR Qd9
 rw[List.length_append,List.map_append];exact h
set_option maxHeartbeats 4000000 in
theorem Qhh {L:LN}{w:World}{c:CL}(h0:ZH L w.heap c) (hok:Ul c.cel) :
  QG prog 95 [c.val] w λr w'=>Step [] w w'∧qR w.heap.size w' r (sets c.cel):=by
 have h:=h0.up (L':=[]) (by simp)
 refine QG.of_W func95 rfl ntmps95 results95 (by simp) ?_
 refine Qc<|xl rfl<|QQ (us:=c.cells) rfl λb1 w1 hs1 hb1 hB1=>Qf<|Qc<|Qf<|Qg<|Qc<|x (Qn hB1 rfl rfl)<|xl rfl<|xf<|(KI (h.ext hs1)).mono ?_
 rintro r2 w2 ⟨hs2,c1,bs,hS⟩
 have hrS:=hS.r
 subst hrS
 have hs02:=hs1.trans hs2
 have hz1:=hs1.size
 have hz2:=hs2.size
 have hlb:=hS.B.lt
 have hlc:=hS.B1.lt
 have hA:∀{w':World},Step [] w2 w'→Zw [] w'.heap (.slice (some ⟨bs,0,none⟩) 3 3) [0,1,2].length 3 ([0,1,2].flatMap (ji c1 c.cel)):=λhs =>
  (hS.B.ext hs).arr (by simp) (n:=3) (cap:=3) (sz:=3) (by rfl) (by omega) (Nat.le_refl _)
 refine x (Qs (hA (Step.refl _ _)) rfl)<|Qb<|xe ?_
 refine Qh<|QA (α:=Nat×Value) [(3,3),(5,6),(10,27)] (λz=>[(3,z.2),(10,.int .i64 z.1)]) (λz w'=>z.1≤3∧Step [] w2 w'∧qR w2.heap.size w' z.2 (srP c.cel z.1)) (λz=>3 - z.1) (by rfl) (0,nS) ⟨rfl,rfl,trivial⟩
  ⟨Nat.zero_le _,Step.refl _ _,QP _ _ _ _⟩ ?_
 rintro ⟨m,v⟩ g w3 ⟨hm,hs3,ho3⟩
 simp only[] at hm ho3
 have hpl:=yl hok m hm
 refine Qc<|x (QB rfl rfl)<|xe ?_
 refine Qg<|QD rfl (λh11=>?_) (λh11=>?_)
 ·refine Qz ?_
  have hme:m=3:=by have h16:¬(m:Int)<(3:Nat):=h11;omega
  rw[hme,jz] at ho3
  refine Qc<|Qb<|Qf ?_
  exact Qk ⟨[v],⟨rfl,trivial⟩,hs02.trans hs3,Zb ho3 hs02.size⟩
 have hm3:m<3:=by have h16:(m:Int)<(3:Nat):=h11;omega
 have hgl:=K6 hok hm3
 refine Qi ?_
 have hz3:=hs3.size
 have hge:=Qq ho3
 have hgm:([0,1,2]:LN)[m]'hm3=m:=by rcases m with _ | _ | _ | m <;> first | rfl | omega
 refine Qg<|Qh<|Qc<|xig (g:=ji c1 c.cel) (i:=m) (UE c1 c.cel) (hA hs3) rfl rfl hm3 λa12 h12=>?_
 rw[hgm] at h12
 refine x (QJ h12 rfl rfl)<|xl rfl<|Qr (us:=[.int .i64 0,.int .i64 0,.nilFunc]) rfl λb5 w4 hs4 hb5 hB5=>xl rfl<|Ql (us:=ji c1 c.cel m) hB5 rfl rfl rfl rfl ⟨rfl,rfl,rfl,trivial⟩ λw5 hs5 hB5 =>
  xe ?_
 have hs35:Step [] w3 w5:=hs4.then1 hs5 hb5
 have hz35:=hs35.size
 refine Qc<|x (Qa rfl)<|x (Qd hB5 rfl rfl)<|Qb<|xe ?_
 refine Qh<|QA (α:=Nat×Value) [(3,3),(6,6),(16,26)] (λz=>[(3,z.2),(16,.int .i64 z.1)]) (λz w'=>z.1≤(Xf c.cel m).length∧Step (ob v) w5 w'∧qR w2.heap.size w' z.2 (srP c.cel m++(Xf c.cel m).take z.1)∧∀b∈ob z.2,b∈ob v∨w5.heap.size≤b) (λz=>(Xf c.cel m).length - z.1) (by rfl) (0,v) ⟨rfl,rfl,trivial⟩
  ⟨Nat.zero_le _,Step.refl _ _,by simp only[List.take_zero,List.append_nil];exact Qu ho3 hs35,λb hb=>.inl hb⟩ ?_
 rintro ⟨i,vi⟩ g w6 ⟨hi,hs6,ho6,hn6⟩
 simp only[] at hi ho6 hn6
 have hz6:=hs6.size
 have hge6:=Qq ho6
 have hs26:Step [] w2 w6:=(hs3.trans hs35).then hs6 (λb hb=>.inr (hge b hb).1)
 have hb5v:b5∉ob v:=λhb=>by have:=(hge b5 hb).2;omega
 have hB56:=hB5.step hs6 hb5v
 have h6:=h.ext (hs02.trans hs26)
 have hB16:QS w6.heap c1 38 c.cells:=hS.B1.ext hs26
 refine Qc<|x (QB rfl rfl)<|xe ?_
 refine Qg<|QD rfl (λh17=>?_) (λh17=>?_)
 ·refine Qz ?_
  have hie:(Xf c.cel m).length≤i:=by have h16:¬(i:Int)<((Xf c.cel m).length:Int):=h17;omega
  rw[List.take_of_length_le hie] at ho6
  refine Qx<|x (Qy rfl rfl ⟨by omega,by omega⟩)<|Qb<|xe ?_
  exact ⟨(m+1,vi),by simp only[];omega,⟨rfl,rfl,trivial⟩,hm3,hs26,ho6⟩
 have hlt:i<(Xf c.cel m).length:=by have h16:(i:Int)<((Xf c.cel m).length:Int):=h17;omega
 have htk:(Xf c.cel m).take (i+1)=(Xf c.cel m).take i++[(Xf c.cel m)[i]'hlt]:=List.take_succ_eq_append_getElem hlt
 have hln:(srP c.cel m++(Xf c.cel m).take i).length≤200:=by rw[List.length_append,List.length_take];omega
 refine Qi<|Qg<|Qh<|Qc<|Qb<|Qf<|Qx<|Qb<|x (Qa rfl)<|x (Qd hB56 rfl rfl)<|Qb<|xl rfl<|xcG (first:=[]) (capt:=[.pointer (some ⟨c1,0,none⟩)]) (QfB m) rfl<|(Qa6 hB16 h6 hok hm3 hlt).mono ?_
 rintro r7 w7 ⟨rfl,hs7⟩
 refine Zc ((Xf c.cel m)[i]'hlt) λbv hbv=>?_
 rw[hbv] at htk ⊢
 refine xl rfl<|QH (us:=[[.int .u16 (bv:Nat)]]) rfl rfl (by decide) (by simp) ⟨rfl,rfl,trivial⟩ λb24 w8 hs8 hb24 hB24=>?_
 have hs68:=hs7.trans hs8
 have hz68:=hs68.size
 refine xl rfl<|Q5 (news:=[.int .u16 (bv:Nat)]) (L:=[]) (Qu ho6 hs68) rfl rfl rfl (hB24.at (by simp)) (by simp[Value.oneCell']) (by omega) (by omega) λv9 w9 ho9 hs9 hn9 =>
  Qf<|Qx<|x (Qy rfl rfl ⟨by omega,by omega⟩)<|Qb<|xe ?_
 refine ⟨(i+1,v9),by simp only[];omega,⟨rfl,rfl,trivial⟩,hlt,(hs6.trans hs68).then hs9 hn6,?_,λb hb=>?_⟩
 ·simp only[]
  rw[htk,←List.append_assoc]
  exact qR.snoc ho9
 ·rcases hn9 b hb with h9 | h9
  ·exact hn6 b h9
  ·exact .inr (by omega)
structure MV where
 kd:Int
 ix:Int
 v:Value
 co:LI
def MV.m (q:MV):Mdl:=⟨q.kd,q.ix,q.co⟩
abbrev Yp (q:MV):LV:=[.int .i64 q.kd,.int .i64 q.ix,q.v]
theorem QjD (q:MV):(Yp q).length=3:=rfl
abbrev mvP (q:MV):Value×Nat×Nat×LV:=(q.v,q.co.length,1,q.co.map (.int .i64))
abbrev MvN (base:Nat) (w:World) (v:Value) (l:List MV):Prop:=ZY Yp 3 120 mvP base w v l
theorem QhD {q:MV}(h:q.v.oneCell'=true):∀u∈Yp q,u.oneCell'=true:=by
 intro u hu
 simp only[Yp,List.mem_cons,List.not_mem_nil,or_false] at hu
 rcases hu with rfl | rfl | rfl
 ·rfl
 ·rfl
 ·exact h
theorem Ve (k:Int):∀(l:LN) (i:Nat),(UV k i l).length=l.length
 | [],_=>rfl
 | _::l,i=>by rw[UV,List.length_cons,Ve k l,List.length_cons]
theorem zC (k:Int):∀(l:LN) (i j:Nat) (h:j<l.length),(UV k i l).take (j+1)=(UV k i l).take j++[⟨k,((i+j:Nat):Int),setK (l[j]'h) 8⟩]
 | [],_,j,h=>absurd h (Nat.not_lt_zero _)
 | b::l,i,0,h=>by rw[UV];rfl
 | b::l,i,j+1,h=>by
  rw[UV,List.take_succ_cons,List.take_succ_cons,zC k l (i+1) j (by simpa using h),List.cons_append]
  have e:((i+1+j:Nat):Int)=((i+(j+1):Nat):Int):=by omega
  rw[e];rfl
abbrev mdG (c:ZB) (m:Nat):List Mdl:=UV ((m:Int)+1) 0 (Xf c m)
def mdP (c:ZB):Nat→List Mdl
 | 0=>[]
 | m+1=>mdP c m++mdG c m
theorem jX (c:ZB):mdP c 3=mods c:=by
 simp only[mdP,mods,List.nil_append,List.append_assoc]
 rfl
theorem yG {c:ZB}(h:Ul c):∀m,m≤3→(mdP c m).length≤32*m
 | 0,_=>Nat.zero_le _
 | m+1,hm=>by
  have h1:=yG h m (by omega)
  have h2:=K6 h (show m<3 by omega)
  rw[mdP,List.length_append,Ve];omega
set_option maxHeartbeats 4000000 in
theorem QbR {L:LN}{w:World}{c:CL}(h0:ZH L w.heap c) :
  QG prog 41 [c.val] w λr w'=>Step [] w w'∧∃v l,r=.tuple #[v,.int .i64 (Zh c.cel)]∧MvN w.heap.size w' v l∧(Zh c.cel≠0→v=nS∧l=[])∧(Zh c.cel=0→l.map MV.m=mods c.cel):=by
 have h:=h0.up (L':=[]) (by simp)
 refine Zc (Zh c.cel) λE hE=>?_
 rw[hE]
 refine QG.of_W func41 rfl ntmps41 results41 (by simp) ?_
 refine Qc<|xl rfl<|QQ (us:=c.cells) rfl λb1 w1 hs1 hb1 hB1=>x Qe<|Qf<|Qg<|Qc<|x (Qn hB1 rfl rfl)<|xl rfl<|xf<|(YY (h.ext hs1)).mono ?_
 rintro rc wc ⟨hrc,hsc⟩
 rw[hE] at hrc
 subst hrc
 have hB1c:=hB1.ext hsc
 have hs0c:=hs1.trans hsc
 refine Qf<|Qc<|Qb<|x (Q4 rfl rfl)<|xe ?_
 refine Q3 rfl (λh12=>?_) (λh12=>?_)
 ·refine Qc<|Qb<|x Qe<|Qf ?_
  exact Qk ⟨[nS,.int .i64 E],⟨rfl,rfl,trivial⟩,hs0c,nS,[],rfl,ZY.nil,λ_=>⟨rfl,rfl⟩,λh0=>absurd h0 h12⟩
 have hE0:E=0:=Decidable.not_not.1 h12
 have hok:Ul c.cel:=(ZP (hE.trans hE0)).sr
 refine Qi<|Qc<|Qf<|Qg<|Qc<|x (Qn hB1c rfl rfl)<|xl rfl<|xf<|(KI (h.ext hs0c)).mono ?_
 rintro r2 w2 ⟨hs2,c1,bs,hS⟩
 have hrS:=hS.r
 subst hrS
 have hs02:=hs0c.trans hs2
 have hz1:=hs0c.size
 have hz2:=hs2.size
 have hlb:=hS.B.lt
 have hlc:=hS.B1.lt
 have hA:∀{w':World},Step [] w2 w'→Zw [] w'.heap (.slice (some ⟨bs,0,none⟩) 3 3) [0,1,2].length 3 ([0,1,2].flatMap (ji c1 c.cel)):=λhs =>
  (hS.B.ext hs).arr (by simp) (n:=3) (cap:=3) (sz:=3) (by rfl) (by omega) (Nat.le_refl _)
 refine x (Qs (hA (Step.refl _ _)) rfl)<|Qb<|xe ?_
 refine Qh<|QA (α:=Nat×Value×List MV) [(5,5),(7,8),(17,39)] (λz=>[(5,z.2.1),(17,.int .i64 z.1)]) (λz w'=>z.1≤3∧Step [] w2 w'∧MvN w2.heap.size w' z.2.1 z.2.2∧z.2.2.map MV.m=mdP c.cel z.1) (λz=>3 - z.1) (by rfl) (0,nS,[]) ⟨rfl,rfl,trivial⟩
  ⟨Nat.zero_le _,Step.refl _ _,ZY.nil,rfl⟩ ?_
 rintro ⟨m,v,l⟩ g w3 ⟨hm,hs3,ho3,hl3⟩
 simp only[] at hm ho3 hl3
 have hpl:=yG hok m hm
 have hll:l.length=(mdP c.cel m).length:=by rw[←hl3,List.length_map]
 refine Qc<|x (QB rfl rfl)<|xe ?_
 refine Qg<|QD rfl (λh11=>?_) (λh11=>?_)
 ·refine Qz ?_
  have hme:m=3:=by have h16:¬(m:Int)<(3:Nat):=h11;omega
  rw[hme,jX] at hl3
  refine Qc<|Qb<|x Qe<|Qf ?_
  have hz02:=hs02.size
  exact Qk ⟨[v,.int .i64 0],⟨rfl,rfl,trivial⟩,hs02.trans hs3,v,l,by rw[hE0];rfl,⟨Zb ho3.own hz02,λq hq L hL=>ho3.each q hq L (λb hb=>(hL b hb).imp (λh=>by omega) id)⟩,λh0=>absurd hE0 h0,λ_=>hl3⟩
 have hm3:m<3:=by have h16:(m:Int)<(3:Nat):=h11;omega
 have hgl:=K6 hok hm3
 refine Qi ?_
 have hz3:=hs3.size
 have hge:=Qq ho3.own
 have hgm:([0,1,2]:LN)[m]'hm3=m:=by rcases m with _ | _ | _ | m <;> first | rfl | omega
 refine Qg<|Qh<|Qc<|xig (g:=ji c1 c.cel) (i:=m) (UE c1 c.cel) (hA hs3) rfl rfl hm3 λa12 h12=>?_
 rw[hgm] at h12
 refine x (QJ h12 rfl rfl)<|xl rfl<|Qr (us:=[.int .i64 0,.int .i64 0,.nilFunc]) rfl λb7 w4 hs4 hb7 hB7=>xl rfl<|Ql (us:=ji c1 c.cel m) hB7 rfl rfl rfl rfl ⟨rfl,rfl,rfl,trivial⟩ λw5 hs5 hB7 =>
  xe ?_
 have hs35:Step [] w3 w5:=hs4.then1 hs5 hb7
 have hz35:=hs35.size
 refine Qc<|x (Qa rfl)<|x (Qd hB7 rfl rfl)<|Qb<|xe ?_
 refine Qh<|QA (α:=Nat×Value×List MV) [(5,5),(8,8),(23,38)] (λz=>[(5,z.2.1),(23,.int .i64 z.1)]) (λz w'=>z.1≤(Xf c.cel m).length∧Step (ob v) w5 w'∧MvN w2.heap.size w' z.2.1 z.2.2∧z.2.2.map MV.m=mdP c.cel m++(mdG c.cel m).take z.1∧∀b∈ob z.2.1,b∈ob v∨w5.heap.size≤b) (λz=>(Xf c.cel m).length - z.1) (by rfl) (0,v,l) ⟨rfl,rfl,trivial⟩
  ⟨Nat.zero_le _,Step.refl _ _,ho3.ext hs35,by simp only[List.take_zero,List.append_nil];exact hl3,λb hb=>.inl hb⟩ ?_
 rintro ⟨i,vi,li⟩ g w6 ⟨hi,hs6,ho6,hl6,hn6⟩
 simp only[] at hi ho6 hl6 hn6
 have hz6:=hs6.size
 have hge6:=Qq ho6.own
 have hs26:Step [] w2 w6:=(hs3.trans hs35).then hs6 (λb hb=>.inr (hge b hb).1)
 have hb7v:b7∉ob v:=λhb=>by have:=(hge b7 hb).2;omega
 have hB76:=hB7.step hs6 hb7v
 have h6:=h.ext (hs02.trans hs26)
 have hB16:QS w6.heap c1 38 c.cells:=hS.B1.ext hs26
 have hlil:li.length≤200:=by
  have e1:=congrArg List.length hl6
  rw[List.length_map,List.length_append,List.length_take] at e1
  have e2:(mdG c.cel m).length=(Xf c.cel m).length:=Ve _ _ _
  omega
 refine Qc<|x (QB rfl rfl)<|xe ?_
 refine Qg<|QD rfl (λh17=>?_) (λh17=>?_)
 ·refine Qz ?_
  have hie:(Xf c.cel m).length≤i:=by have h16:¬(i:Int)<((Xf c.cel m).length:Int):=h17;omega
  rw[List.take_of_length_le (by rw[Ve];exact hie)] at hl6
  refine Qx<|x (Qy rfl rfl ⟨by omega,by omega⟩)<|Qb<|xe ?_
  exact ⟨(m+1,vi,li),by simp only[];omega,⟨rfl,rfl,trivial⟩,hm3,hs26,ho6,hl6⟩
 have hlt:i<(Xf c.cel m).length:=by have h16:(i:Int)<((Xf c.cel m).length:Int):=h17;omega
 have htk:(mdG c.cel m).take (i+1)=(mdG c.cel m).take i++[⟨(m:Int)+1,((0+i:Nat):Int),setK ((Xf c.cel m)[i]'hlt) 8⟩]:=zC _ _ _ _ hlt
 rw[Nat.zero_add] at htk
 have hbl:=UF hok hm3 _ (List.getElem_mem hlt)
 refine Qi<|Qg<|Qh<|Qc<|Qb<|Qf ?_
 have hb7i:b7∉ob vi:=λhb=>by
  rcases hn6 b7 hb with h9 | h9
  ·exact hb7v h9
  ·have:=hB7.lt;omega
 have hd6:Step [] w6 { w6 with drawn:=w6.drawn+1 }:=Step.drew _ _
 have hzd:({ w6 with drawn:=w6.drawn+1 }:World).heap.size=w6.heap.size:=rfl
 refine QT (Step (ob vi) w6) [(0,true),(1,true),(2,true),(3,true),(4,true),(5,true),(6,true),(7,false),(8,false),(9,true),(10,false),(11,false),(12,true)] mixed (by rfl) (by kernel_rfl) (Step.drew _ _) ?_
 refine p (λ_=>Qo)<|p (λ_=>Qa rfl)<|pq (λ_ hc=>Qd (hB76.step hc hb7i) rfl rfl)<|p (λ_=>Qo)<|p (λ_=>Qa rfl) <|
  pq (λ_ hc=>Qd (hB76.step hc hb7i) rfl rfl)<|p (λ_=>Qo)<|pk<|xcG (first:=[]) (capt:=[.pointer (some ⟨c1,0,none⟩)]) (QfB m) rfl<|(Qa6 (hB16.ext hd6) (h6.ext hd6) hok hm3 hlt).mono ?_
 rintro r8 w8 ⟨rfl,hs8⟩
 refine Zc ((Xf c.cel m)[i]'hlt) λbv hbv=>?_
 rw[hbv] at htk hbl ⊢
 have hs68:=hd6.trans hs8
 refine ⟨hs68.any,?_⟩
 refine pk<|xf<|(yK bv hbl w8).mono ?_
 rintro r9 w9 ⟨hs9,ho9⟩
 have hs69:=hs68.trans hs9
 have hz68:=hs68.size
 have hz69:=hs69.size
 refine ⟨hs69.any,?_⟩
 refine p (λ_=>QN ⟨rfl,rfl,Zl ho9,trivial⟩)<|pk<|QH (us:=[Yp ⟨(m:Int)+1,i,r9,setK bv 8⟩]) rfl rfl (by decide) (by simp) ⟨rfl,rfl,trivial⟩ λb36 w10 hs10 hb36 hB36=>⟨(hs69.trans hs10).any,?_⟩
 have hs610:=hs69.trans hs10
 have hz610:=hs610.size
 have hz10:=hs10.size
 refine pk<|Q5 (news:=Yp ⟨(m:Int)+1,i,r9,setK bv 8⟩) (L:=[]) (Qu ho6.own hs610) rfl rfl rfl (hB36.at (by simp)) (QhD (q:=⟨(m:Int)+1,i,r9,setK bv 8⟩) (QO ho9)) (by omega) (by omega) λv11 w11 ho11 hs11 hn11=>⟨hs610.any.trans' hs11,?_⟩
 refine p (λ_=>Qe)<|pe ?_
 have hkl:=Xs bv 8
 have ho11':MvN w2.heap.size w11 v11 (li++[⟨(m:Int)+1,i,r9,setK bv 8⟩]):=ZY.app2 (N:=w8.heap.size) (ho6.ext hs610) (Qu ho9 hs10) (by show (setK bv 8).length≤_;omega) (by have:=hs26.size;omega) (λb hb=>by have:=hge6 b hb;omega) ho11 hs11 hn11
 refine Qx<|x (Qy rfl rfl ⟨by omega,by omega⟩)<|Qb<|xe ?_
 refine ⟨(i+1,v11,li++[⟨(m:Int)+1,i,r9,setK bv 8⟩]),by simp only[];omega,⟨rfl,rfl,trivial⟩,hlt,(hs6.trans hs610).then hs11 hn6,ho11',?_,λb hb=>?_⟩
 ·simp only[]
  rw[htk,List.map_append,hl6,List.append_assoc];rfl
 ·rcases hn11 b hb with h9 | h9
  ·exact hn6 b h9
  ·exact .inr (by omega)
theorem QlS {n:Nat}(h:n≤8):2 ^ n≤256:=Nat.pow_le_pow_right (by decide) h
set_option maxHeartbeats 4000000 in
theorem jb {L:LN}{w:World}{c:CL}(h0:ZH L w.heap c) :
  QG prog 43 [c.val] w λr w'=>Step [] w w'∧∃v,r=.tuple #[v,.int .i64 (Zh c.cel)]∧(Zh c.cel≠0→v=nS)∧(Zh c.cel=0→Qt 3 w.heap.size w' v (rem c.cel)):=by
 have h:=h0.up (L':=[]) (by simp)
 refine Zc (Zh c.cel) λE hE=>?_
 rw[hE]
 refine QG.of_W func43 rfl ntmps43 results43 (by simp) ?_
 refine Qc<|xl rfl<|QQ (us:=c.cells) rfl λb1 w1 hs1 hb1 hB1=>x Qe<|Qf<|Qg<|Qc<|x (Qn hB1 rfl rfl)<|xl rfl<|xf<|(YY (h.ext hs1)).mono ?_
 rintro rc wc ⟨hrc,hsc⟩
 rw[hE] at hrc
 subst hrc
 have hB1c:=hB1.ext hsc
 have hs0c:=hs1.trans hsc
 refine Qf<|Qc<|Qb<|x (Q4 rfl rfl)<|xe ?_
 refine Q3 rfl (λh12=>?_) (λh12=>?_)
 ·refine Qc<|Qb<|x Qe<|Qf ?_
  exact Qk ⟨[nS,.int .i64 E],⟨rfl,rfl,trivial⟩,hs0c,nS,rfl,λ_=>rfl,λh0=>absurd h0 h12⟩
 have hE0:E=0:=Decidable.not_not.1 h12
 have hok:Ul c.cel:=(ZP (hE.trans hE0)).sr
 have hcc:c.cel.co.length=c.co.length:=List.length_map ..
 have h8:c.co.length≤8:=by have:=hok.c8;omega
 have hp8:=QlS h8
 have hp1:0<2 ^ c.co.length:=Nat.pow_pos (by decide)
 have he:(1:Int)*(2:Int) ^ c.co.length - 1=((2 ^ c.co.length - 1:Nat):Int):=by
  rw[jA,Nat.shiftLeft_eq,Nat.one_mul];omega
 have hin:inK .u16 ((1:Int)*(2:Int) ^ c.co.length - 1):=by rw[he];exact ⟨by omega,by omega⟩
 have hb0:2 ^ c.co.length - 1<65536:=by omega
 have hsl:=yl hok 3 (by omega)
 rw[jz] at hsl
 have hrb:Qa7 c.cel=(sets c.cel).foldl (λl b=>l &&& (65535 ^^^ b)) (2 ^ c.co.length - 1):=by unfold Qa7;rw[hcc]
 have hbl:∀b∈sets c.cel,b<65536:=by
  intro b hb
  unfold sets at hb
  rcases List.mem_append.1 hb with hb | hb
  ·exact UF hok (m:=0) (by omega) b hb
  ·rcases List.mem_append.1 hb with hb | hb
   ·exact UF hok (m:=1) (by omega) b hb
   ·exact UF hok (m:=2) (by omega) b hb
 refine Zc (2 ^ c.co.length - 1) λb0 hb0'=>?_
 rw[hb0'] at he hrb hb0
 have hc':=h.ext hs0c
 refine Qi<|Qc<|x (Qa rfl)<|x (Qd hB1c rfl rfl)<|x (Qs hc'.co.arr rfl)<|x (Qcf (n:=c.co.length) rfl rfl (by show c.co.length≤16;omega) (Qh1 (by omega)))<|x (X6 rfl rfl hin)<|Qf<|Qg<|Qc<|x (Qn hB1c rfl rfl)<|xl rfl<|xf<|(Qhh hc' hok).mono ?_
 rintro r2 w2 ⟨hs2,ho2⟩
 have hA:Zw [] w2.heap r2 (sets c.cel).length 1 (Qd9 (sets c.cel)):=QV ho2 (by omega) (by simp)
 have hA':Zw [] w2.heap r2 (sets c.cel).length 1 ((sets c.cel).flatMap λb=>[.int .u16 (b:Nat)]):=by
  have e:(sets c.cel).flatMap (λb=>[Value.int .u16 (b:Nat)])=Qd9 (sets c.cel):=by
   generalize sets c.cel=l
   induction l with
   | nil=>rfl
   | cons a l ih=>rw[List.flatMap_cons,ih];rfl
  rw[e];exact hA
 refine x (Qs hA rfl)<|Qb<|xe ?_
 refine Qh<|QA (α:=Nat×Nat) [(5,5),(7,7),(21,28)] (λz=>[(5,.int .u16 z.2),(21,.int .i64 z.1)]) (λz w'=>z.1≤(sets c.cel).length∧Step [] w2 w'∧z.2<65536∧((sets c.cel).drop z.1).foldl (λl b=>l &&& (65535 ^^^ b)) z.2=Qa7 c.cel) (λz=>(sets c.cel).length - z.1) (by rfl) (0,b0) ⟨congrArg (Value.int .u16) he,rfl,trivial⟩
  ⟨Nat.zero_le _,Step.refl _ _,hb0,hrb.symm⟩ ?_
 rintro ⟨k,b⟩ g w3 ⟨hk,hs3,hb,hr⟩
 simp only[] at hk hb hr
 have hs03:=(hs0c.trans hs2).trans hs3
 refine Qc<|x (QB rfl rfl)<|xe ?_
 refine Qg<|QD rfl (λh11=>?_) (λh11=>?_)
 ·refine Qz ?_
  have hke:(sets c.cel).length≤k:=by have h16:¬(k:Int)<((sets c.cel).length:Int):=h11;omega
  rw[List.drop_of_length_le hke] at hr
  have hr':b=Qa7 c.cel:=hr
  refine Qc<|Qb<|xl rfl<|xf<|(yK b hb w3).mono ?_
  rintro r4 w4 ⟨hs4,ho4⟩
  refine x Qe<|Qf ?_
  rw[hr'] at ho4
  exact Qk ⟨[r4,.int .i64 0],⟨rfl,rfl,trivial⟩,hs03.trans hs4,r4,by rw[hE0];rfl,λh0=>absurd hE0 h0,λ_=>Zb ho4 hs03.size⟩
 have hlt:k<(sets c.cel).length:=by have h16:(k:Int)<((sets c.cel).length:Int):=h11;omega
 have hbk:=hbl _ (List.getElem_mem hlt)
 rw[List.drop_eq_getElem_cons hlt,List.foldl_cons] at hr
 refine Qi<|Qg<|Qh<|Qc<|xig (g:=λb:Nat=>[.int .u16 (b:Nat)]) (i:=k) (λ_=>rfl) (hA'.ext hs3) rfl rfl hlt λa23 h23=>?_
 refine Zc ((sets c.cel)[k]'hlt) λy hy=>?_
 rw[hy] at h23 hbk hr
 refine x (Qw h23 rfl)<|Qf<|Qx<|Qb<|Qb<|x (Qbe (a:=b) (b:=y) rfl rfl hb hbk)<|Qf<|Qx<|x (Qy rfl rfl ⟨by omega,by omega⟩)<|Qb<|xe ?_
 exact ⟨(k+1,b &&& (65535 ^^^ y)),by simp only[];omega,⟨rfl,rfl,trivial⟩,hlt,hs3,Nat.lt_of_le_of_lt Nat.and_le_left hb,hr⟩
theorem QhW {L:LN}{w:World}{v:Value}{b1:Nat}{c:ZB}{es:LN}{g:Nat}{fn:Func}[Fu prog g fn] {cap:LV}{q:Nat→Bool}(h:Zw L w.heap v es.length 3 (es.flatMap (ji b1 c)))
  (hk:∀(m:Nat) (w1:World),Step [] w w1→QG prog g ([.agg (ji b1 c m).toArray]++cap) w1 λr w'=>r=.bool (q m)∧Step [] w1 w') :
  QG prog 189 [v,.func (.func g) #[] cap.toArray] w λr w'=>Step [] w w'∧∃i:Int,r=.int .i64 i∧((i=-1∧∀m∈es,q m=false)∨∃k:Nat,∃m,es[k]?=some m∧i=(k:Int)∧q m=true):=by
 have hle:=h.le
 refine QG.of_W func189 rfl ntmps189 results189 (by simp) ?_
 refine Qc<|Qf<|Qg<|Qc<|Qb<|x (Qs h rfl)<|Qb<|xe ?_
 refine Qh<|QA (α:=Nat) [(4,5),(8,18)] (λz=>[(8,.int .i64 z)]) (λz w'=>z≤es.length∧Step [] w w'∧∀m∈es.take z,q m=false) (λz=>es.length - z) (by rfl) 0 ⟨rfl,trivial⟩ ⟨Nat.zero_le _,Step.refl _ _,λm hm=>by simp at hm⟩ ?_
 rintro k g' w1 ⟨hk',hs1,hq1⟩
 refine Qc<|x (QB rfl rfl)<|xe ?_
 refine Qg<|QD rfl (λh9=>?_) (λh9=>?_)
 ·refine Qz ?_
  have hke:es.length≤k:=by have h16:¬(k:Int)<(es.length:Int):=h9;omega
  rw[List.take_of_length_le hke] at hq1
  refine Qc<|Qf ?_
  exact Qk ⟨[.int .i64 (-1)],⟨rfl,trivial⟩,hs1,-1,rfl,.inl ⟨rfl,hq1⟩⟩
 have hlt:k<es.length:=by have h16:(k:Int)<(es.length:Int):=h9;omega
 have htk:es.take (k+1)=es.take k++[es[k]'hlt]:=List.take_succ_eq_append_getElem hlt
 have hget:es[k]?=some (es[k]'hlt):=List.getElem?_eq_getElem hlt
 refine Qi<|Qg<|Qh<|Qc<|Qb<|Qf<|Qc<|Qb<|Qb<|Qb<|xig (g:=ji b1 c) (i:=k) (UE b1 c) (h.ext hs1) rfl rfl hlt λa14 h14=>?_
 refine Zc (es[k]'hlt) λm hm=>?_
 rw[hm] at h14 htk hget
 refine x (QJ h14 rfl rfl)<|xl rfl<|xc (first:=[]) (capt:=cap) rfl<|(hk m w1 hs1).mono ?_
 rintro r2 w2 ⟨rfl,hs2⟩
 refine xe ?_
 refine QY rfl (λh16=>?_) (λh16=>?_)
 ·refine Qc<|Qb<|Qf ?_
  exact Qk ⟨[.int .i64 k],⟨rfl,trivial⟩,hs1.trans hs2,k,rfl,.inr ⟨k,m,hget,rfl,h16⟩⟩
 refine Qi<|Qx<|x (Qy rfl rfl ⟨by omega,by omega⟩)<|Qb<|xe ?_
 refine ⟨k+1,by omega,⟨rfl,trivial⟩,hlt,hs1.trans hs2,λm' hm'=>?_⟩
 rw[htk] at hm'
 rcases List.mem_append.1 hm' with h1 | h1
 ·exact hq1 m' h1
 ·simp only[List.mem_singleton] at h1;subst h1;exact h16
theorem Qiv {w:World}{b1 b3 m:Nat}{c:ZB}{q:MV}(hB:QS w.heap b3 120 (Yp q)) :
  QG prog 190 [.agg (ji b1 c m).toArray,.pointer (some ⟨b3,0,none⟩)] w λr w'=>r=.bool (decide ((m:Int)+1=q.kd))∧Step [] w w':=by
 refine QG.of_W func190 rfl ntmps190 results190 (by simp) ?_
 refine Qc<|xl rfl<|QQ (us:=ji b1 c m) rfl λb2 w1 hs1 hb2 hB2=>Qf<|Qc<|x (Qa rfl)<|x (Qd hB2 rfl rfl)<|x (Qa rfl)<|x (Qd (hB.ext hs1) rfl rfl)<|x (Zn rfl rfl)<|Qf ?_
 exact Qk ⟨[_],⟨rfl,trivial⟩,rfl,hs1⟩
set_option maxHeartbeats 4000000 in
theorem Qds {L:LN}{w:World}{c:CL}{q:MV}(h0:ZH L w.heap c) (hm0:QL L w.heap q.v q.co) :
  QG prog 151 [c.val,.agg #[.int .i64 q.kd,.int .i64 q.ix,q.v]] w λr w'=>r=.int .i64 (mdE c.cel q.m)∧Step [] w w':=by
 have h:=h0.up (L':=[]) (by simp)
 have hm:=hm0.up (L':=[]) (by simp)
 have hr:mdE c.cel q.m=if Zh c.cel≠0 then Zh c.cel else if q.kd<1∨3<q.kd then 11 else if q.ix<0∨((srK c.cel q.kd).length:Int)≤q.ix then 10 else if q.co=setK ((srK c.cel q.kd).getD q.ix.toNat 0) 8 then 0 else 13:=rfl
 refine Zc (mdE c.cel q.m) λE hE=>?_
 rw[hE] at hr ⊢
 refine QG.of_W func151 rfl ntmps151 results151 (by simp) ?_
 refine Qc<|xl rfl<|QQ (us:=c.cells) rfl λb2 w1 hs1 hb2 hB2=>xl rfl<|QQ (us:=Yp q) rfl λb3 w2 hs2 hb3 hB3=>Qf ?_
 have hs02:=hs1.trans hs2
 refine Qg<|Qc<|x (Qn (hB2.ext hs2) rfl rfl)<|xl rfl<|xf<|(YY (h.ext hs02)).mono ?_
 rintro r3 w3 ⟨rfl,hs3⟩
 refine Qf ?_
 have hs03:=hs02.trans hs3
 have hB23:=(hB2.ext hs2).ext hs3
 have hB33:=hB3.ext hs3
 refine Qc<|Qb<|x (Q4 rfl rfl)<|xe ?_
 refine Q3 rfl (λh11=>?_) (λh11=>?_)
 ·rw[if_pos h11] at hr
  subst hr
  refine Qc<|Qb<|Qf ?_
  exact Qk ⟨[_],⟨rfl,trivial⟩,rfl,hs03⟩
 rw[if_neg h11] at hr
 have hok:Ul c.cel:=(ZP (Decidable.not_not.1 h11)).sr
 refine Qi<|Qc<|x (Qn hB23 rfl rfl)<|xl rfl<|xf<|(KI (h.ext hs03)).mono ?_
 rintro r4 w4 ⟨hs4,c1,bs,hS⟩
 have hrS:=hS.r
 subst hrS
 refine Qf ?_
 have hs04:=hs03.trans hs4
 have hB34:=hB33.ext hs4
 have hA:Zw [] w4.heap (.slice (some ⟨bs,0,none⟩) 3 3) [0,1,2].length 3 ([0,1,2].flatMap (ji c1 c.cel)):=hS.B.arr (by simp) (n:=3) (cap:=3) (sz:=3) (by rfl) (by omega) (Nat.le_refl _)
 refine Qc<|Qb<|x (Zk (l:=[]) (l':=[_]))<|xl rfl<|xf<|(QhW (q:=λm=>decide ((m:Int)+1=q.kd)) (cap:=[.pointer (some ⟨b3,0,none⟩)]) hA (λm w5 hs5=>Qiv (hB34.ext hs5))).mono ?_
 rintro r5 w5 ⟨hs5,i,rfl,hi⟩
 refine Qf ?_
 have hs05:=hs04.trans hs5
 have hB35:=hB34.ext hs5
 have hA5:=hA.ext hs5
 have hB15:QS w5.heap c1 38 c.cells:=hS.B1.ext hs5
 refine Qg<|Qh<|Qc<|Qb<|x (QB rfl rfl)<|Qf<|Q3 rfl (λh18=>?_) (λh18=>?_)
 ·have hkd:q.kd<1∨3<q.kd:=by
   rcases hi with ⟨_,hi⟩ | ⟨k,m,_,hi,_⟩
   ·have e0:=of_decide_eq_false (hi 0 (by simp))
    have e1:=of_decide_eq_false (hi 1 (by simp))
    have e2:=of_decide_eq_false (hi 2 (by simp))
    omega
   ·have h19:i<0:=h18
    omega
  rw[if_pos hkd] at hr
  subst hr
  refine Qc<|Qf ?_
  exact Qk ⟨[_],⟨rfl,trivial⟩,rfl,hs05⟩
 obtain ⟨m,hm3,him,hkd⟩:∃m:Nat,m<3∧i=(m:Int)∧q.kd=(m:Int)+1:=by
  rcases hi with ⟨hi,_⟩ | ⟨k,m,hk,hi,hq⟩
  ·exact absurd (by rw[hi];decide:i<0) h18
  ·have hq':=of_decide_eq_true hq
   obtain ⟨hk3,hk⟩:=List.getElem?_eq_some_iff.1 hk
   have hk3':k<3:=hk3
   have hmk:m=k:=by rcases k with _ | _ | _ | k <;> first | exact hk.symm | omega
   exact ⟨k,hk3',hi,by omega⟩
 subst him
 rw[if_neg (by omega),show srK c.cel q.kd=Xf c.cel m by rw[hkd]] at hr
 have hgl:=K6 hok hm3
 have hgm:([0,1,2]:LN)[m]'hm3=m:=by rcases m with _ | _ | _ | m <;> first | rfl | omega
 refine QW (α:=Bool) [(21,34)] (λz=>[(21,.bool z)]) (λz w'=>Step [] w5 w'∧z=decide (q.ix<0∨((Xf c.cel m).length:Int)≤q.ix)) (by rfl) ?_ ?_
 ·refine QT (Step [] w5) [(0,true),(1,true),(2,true),(3,true),(4,true),(5,true),(6,true),(7,true),(8,true),(9,true),(10,true),(11,true),(12,true),(13,true)] mixed (by rfl) (by kernel_rfl) (Step.drew _ _) ?_
  refine p (λ_=>Qa rfl)<|pq (λ_ hc=>Qd (hB35.ext hc) rfl rfl)<|pb (λ_=>QB rfl rfl) (λh24=>?_) (λh24=>?_)
  ·refine p (λ_=>Qo)<|ps<|ps<|ps<|ps<|ps<|ps<|ps<|ps<|p (λ_=>Qp rfl)<|p (λ_=>Qe)<|pe ?_
   have h25:q.ix<0:=h24
   exact ⟨true,⟨rfl,trivial⟩,Step.drew _ _,by rw[decide_eq_true (.inl h25)]⟩
  refine p (λ_=>Qo)<|p (λ_=>Qa rfl)<|pq (λ_ hc=>Qd (hB35.ext hc) rfl rfl)<|p (λ_=>Qo)<|p (λ_=>Qo) <|
   Go.Lg.pig (g:=ji c1 c.cel) (i:=m) rfl (UE c1 c.cel) hA5 rfl rfl hm3 λa30 h30=>?_
  rw[hgm] at h30
  refine p (λ_=>Zd rfl)<|pq (λ_ hc=>Qw ((h30.fld 1 (.int .i64 (Xf c.cel m).length) rfl).st hc) rfl)<|p (λ_=>ZM rfl rfl) <|
   p (λ_=>Qp rfl)<|p (λ_=>Qe)<|pe ?_
  have h25:¬q.ix<0:=h24
  refine ⟨decide (((Xf c.cel m).length:Int)≤q.ix),⟨rfl,trivial⟩,Step.drew _ _,?_⟩
  rw[decide_eq_decide]
  exact ⟨.inr,λh=>h.resolve_left h25⟩
 rintro z g w6 ⟨hs6,hz⟩
 have hs06:=hs05.trans hs6
 refine QY rfl (λh21=>?_) (λh21=>?_)
 ·rw[if_pos (of_decide_eq_true (hz.symm.trans h21))] at hr
  subst hr
  refine Qc<|Qf ?_
  exact Qk ⟨[_],⟨rfl,trivial⟩,rfl,hs06⟩
 have hnix:=of_decide_eq_false (hz.symm.trans h21)
 rw[if_neg hnix] at hr
 have hixn:q.ix=(q.ix.toNat:Int):=by omega
 have hixl:q.ix.toNat<(Xf c.cel m).length:=by omega
 have hgd:(Xf c.cel m).getD q.ix.toNat 0=(Xf c.cel m)[q.ix.toNat]'hixl:=by simp[List.getD,hixl]
 have hbl:=UF hok hm3 _ (List.getElem_mem hixl)
 rw[hgd] at hr
 have hB36:=hB35.ext hs6
 have hA6:=hA5.ext hs6
 have hd6:Step [] w6 { w6 with drawn:=w6.drawn+1 }:=Step.drew _ _
 have hs06d:=hs06.trans hd6
 have hcallA:∀{w':World},Step [] w6 w'→QG prog (gK m) [.int .i64 q.ix,.pointer (some ⟨c1,0,none⟩)] w' λr w''=>r=.int .u16 ((Xf c.cel m)[q.ix.toNat]'hixl:Nat)∧Step [] w' w'':=by
  intro w' hs
  have:=Qa6 ((hB15.ext hs6).ext hs) ((h.ext hs06).ext hs) hok hm3 hixl
  rw[←hixn] at this
  exact this
 refine Qg<|QT (Step [] w6) [(0,true),(1,true),(2,true),(3,true),(4,true),(5,true),(6,true),(7,true),(8,true),(9,false),(10,false),(11,false),(12,true),(13,true)] mixed (by rfl) (by kernel_rfl) (Step.drew _ _) ?_
 refine p (λ_=>Qa rfl)<|pq (λ_ hc=>Qd (hB36.ext hc) rfl rfl)<|p (λ_=>Qo)<|p (λ_=>Qo)<|Go.Lg.pig (g:=ji c1 c.cel) (i:=m) rfl (UE c1 c.cel) hA6 rfl rfl hm3 λa40 h40=>?_
 rw[hgm] at h40
 refine p (λ_=>Zd rfl)<|pq (λ_ hc=>Qw ((h40.fld 2 (.func (.func (gK m)) #[] #[.pointer (some ⟨c1,0,none⟩)]) rfl).st hc) rfl)<|p (λ_=>Qa rfl)<|pq (λ_ hc=>Qd (hB36.ext hc) rfl rfl) <|
  pk<|xcG (first:=[]) (capt:=[.pointer (some ⟨c1,0,none⟩)]) (QfB m) rfl<|(hcallA hd6).mono ?_
 rintro r7 w7 ⟨rfl,hs7⟩
 refine Zc ((Xf c.cel m)[q.ix.toNat]'hixl) λbv hbv=>?_
 rw[hbv] at hr hbl ⊢
 have hs67:=hd6.trans hs7
 refine ⟨hs67,?_⟩
 refine pk<|xf<|(yK bv hbl w7).mono ?_
 rintro r8 w8 ⟨hs8,ho8⟩
 have hs68:=hs67.trans hs8
 refine ⟨hs68,?_⟩
 have hkl:=Xs bv 8
 refine pk<|xf<|(Kh (hm.ext (hs06.trans hs68)) (Qt.ints (L:=[]) ho8 (by omega) (by simp))).mono ?_
 rintro r9 w9 ⟨rfl,hs9⟩
 refine ⟨hs68.trans hs9,?_⟩
 refine p (λ_=>Zp rfl)<|p (λ_=>Qe)<|pe ?_
 have hs09:=(hs06.trans hs68).trans hs9
 refine QY rfl (λh35=>?_) (λh35=>?_)
 ·have hne:¬q.co=setK bv 8:=by
   intro e
   have h36:(!decide (q.co=setK bv 8))=true:=h35
   rw[decide_eq_true e] at h36;cases h36
  rw[if_neg hne] at hr
  subst hr
  refine Qc<|Qf ?_
  exact Qk ⟨[_],⟨rfl,trivial⟩,rfl,hs09⟩
 have heq:q.co=setK bv 8:=by
  refine Decidable.byContradiction λe=>?_
  have h36:(!decide (q.co=setK bv 8))=false:=h35
  rw[decide_eq_false e] at h36;cases h36
 rw[if_pos heq] at hr
 subst hr
 refine Qi<|Qc<|Qf ?_
 exact Qk ⟨[_],⟨rfl,trivial⟩,rfl,hs09⟩
theorem XW (L:LN) (H:Array Obj):QL L H (nS) []:=Zw.nil L H 1
theorem yJ {L:LN}{H:Array Obj}{b T:Nat}{n:Int}(h:QS H b T [.int .i64 n]) (hb:b∉L):QL L H (.slice (some ⟨b,0,none⟩) 1 1) [n] :=
 h.arr hb (n:=1) (cap:=1) (sz:=1) rfl (by omega) (Nat.le_refl _)
set_option maxHeartbeats 4000000 in
theorem Qff {L:LN}{w:World}{c:CL}{q:MV}(h0:ZH L w.heap c) (hm0:QL L w.heap q.v q.co) :
  QG prog 94 [c.val,.agg #[.int .i64 q.kd,.int .i64 q.ix,q.v]] w λr w'=>Step [] w w'∧∃us,r=.tuple #[.agg us.toArray,.int .i64 (mcE c.cel q.m)]∧us.length=5∧ZD us∧(mcE c.cel q.m≠0→us=YN)∧(mcE c.cel q.m=0→QiV w.heap.size w'.heap (.agg us.toArray) (mcC c.cel q.m)):=by
 have h:=h0.up (L':=[]) (by simp)
 have hm:=hm0.up (L':=[]) (by simp)
 have hr:mcE c.cel q.m=if mdE c.cel q.m≠0 then mdE c.cel q.m else yn c.cel (prt q.m):=rfl
 have hcc:mcC c.cel q.m=Qdc c.cel (prt q.m):=rfl
 rw[hcc]
 refine Zc (mcE c.cel q.m) λE hE=>?_
 rw[hE] at hr ⊢
 refine QG.of_W func94 rfl ntmps94 results94 (by simp) ?_
 refine Qc<|xl rfl<|QQ (us:=c.cells) rfl λb2 w1 hs1 hb2 hB2=>xl rfl<|QQ (us:=Yp q) rfl λb3 w2 hs2 hb3 hB3=>xl rfl<|Qr (us:=YN) rfl λb4 w3 hs3 hb4 hB4=>Qf ?_
 have hs03:=(hs1.trans hs2).trans hs3
 have hz1:=hs1.size
 have hz2:=hs2.size
 have hz3:=hs3.size
 have hl4:=hB4.lt
 refine Qg<|Qc<|x (Qn ((hB2.ext hs2).ext hs3) rfl rfl)<|x (Qn (hB3.ext hs3) rfl rfl)<|xl rfl<|xf<|(Qds (h.ext hs03) (hm.ext hs03)).mono ?_
 rintro r4 w4 ⟨rfl,hs4⟩
 refine Qf ?_
 have hs04:=hs03.trans hs4
 have hz4:=hs4.size
 have hB24:=((hB2.ext hs2).ext hs3).ext hs4
 have hB34:=(hB3.ext hs3).ext hs4
 have hB44:=hB4.ext hs4
 refine Qc<|Qb<|x (Q4 rfl rfl)<|xe ?_
 refine Q3 rfl (λh13=>?_) (λh13=>?_)
 ·rw[if_pos h13] at hr
  subst hr
  refine Qc<|x (QN trivial)<|Qb<|xl rfl<|Ql (us:=YN) hB44 rfl rfl rfl rfl ⟨rfl,rfl,rfl,rfl,rfl,trivial⟩ λw5 hs5 hB45=>Qf ?_
  exact Qk ⟨[.agg YN.toArray,.int .i64 (mdE c.cel q.m)],⟨⟨_,rfl,Qv rfl (hB45.at (L:=[]) (by simp)).cells⟩,rfl,trivial⟩,hs04.then1 hs5 (by omega),YN,rfl,rfl,⟨rfl,rfl,rfl,rfl,rfl,trivial⟩,λ_=>rfl,λh0=>absurd h0 h13⟩
 rw[if_neg h13] at hr
 subst hr
 refine Qi<|Qc<|x (Qa rfl)<|x (Qd hB34 rfl rfl)<|x (QN ⟨hm.cells,trivial⟩)<|xl rfl<|Qr (us:=[nS,nS,nS,nS]) rfl λb7 w6 hs6 hb7 hB7=>xl rfl<|Ql (us:=[q.v,nS,nS,nS]) hB7 rfl rfl rfl rfl ⟨hm.one,rfl,rfl,rfl,trivial⟩ λw7 hs7 hB77 =>
  xe ?_
 have hs47:Step [] w4 w7:=hs6.then1 hs7 hb7
 have hz47:=hs47.size
 have hl7:=hB77.lt
 refine Qc<|x (Qa rfl)<|x (Qd (hB34.ext hs47) rfl rfl)<|xl rfl<|QH (us:=[[.int .i64 q.ix]]) rfl rfl (by decide) (by simp) ⟨rfl,rfl,trivial⟩ λb21 w8 hs8 hb21 hB21 =>
  Qf ?_
 have hs48:=hs47.trans hs8
 have hs08:=hs04.trans hs48
 have hz8:=hs8.size
 have hB78:=hB77.ext hs8
 have hb7u:w.heap.size≤b7:=by omega
 refine QW (α:=Value×Value×Value) [(22,33)] (λ_=>[]) (λz w'=>Step [b7] w8 w'∧QS w'.heap b7 256 [q.v,z.1,z.2.1,z.2.2]∧QL [] w'.heap z.1 (prt q.m).rq∧QL [] w'.heap z.2.1 (prt q.m).ex∧QL [] w'.heap z.2.2 (prt q.m).cs) (by rfl) ?_ ?_
 ·have hlit:∀{w':World},Step [b7] w8 w'→QL [] w'.heap (.slice (some ⟨b21,0,none⟩) 1 1) [q.ix]:=λhs=>yJ (hB21.step hs (by simp only[List.mem_singleton];omega)) (by simp)
  refine Qc<|x (Qa rfl)<|x (Qd (hB34.ext hs48) rfl rfl)<|xe ?_
  refine Qh<|Qc<|x (Zn rfl rfl)<|Qf<|Q3 rfl (λh26=>?_) (λh26=>?_)
  ·have hk1:q.kd=1:=h26
   refine Qx<|Qb<|x (Qa rfl)<|xl rfl<|QF (j:=1) (u:=.slice (some ⟨b21,0,none⟩) 1 1) hB78 rfl rfl (by simp) rfl λw9 hs9 hB79=>xe ?_
   refine ⟨(.slice (some ⟨b21,0,none⟩) 1 1,nS,nS),trivial,hs9,hB79,?_,?_,?_⟩
   ·show QL _ _ _ (if q.kd=1 then [q.ix] else []);rw[if_pos hk1];exact hlit hs9
   ·show QL _ _ _ (if q.kd=2 then [q.ix] else []);rw[if_neg (by omega)];exact XW _ _
   ·show QL _ _ _ (if q.kd≠1∧q.kd≠2 then [q.ix] else []);rw[if_neg (by omega)];exact XW _ _
  have hk1:¬q.kd=1:=h26
  refine Qc<|x (Zn rfl rfl)<|Qf<|Q3 rfl (λh30=>?_) (λh30=>?_)
  ·have hk2:q.kd=2:=h30
   refine Qx<|Qb<|x (Qa rfl)<|xl rfl<|QF (j:=2) (u:=.slice (some ⟨b21,0,none⟩) 1 1) hB78 rfl rfl (by simp) rfl λw9 hs9 hB79=>xe ?_
   refine ⟨(nS,.slice (some ⟨b21,0,none⟩) 1 1,nS),trivial,hs9,hB79,?_,?_,?_⟩
   ·show QL _ _ _ (if q.kd=1 then [q.ix] else []);rw[if_neg hk1];exact XW _ _
   ·show QL _ _ _ (if q.kd=2 then [q.ix] else []);rw[if_pos hk2];exact hlit hs9
   ·show QL _ _ _ (if q.kd≠1∧q.kd≠2 then [q.ix] else []);rw[if_neg (by omega)];exact XW _ _
  have hk2:¬q.kd=2:=h30
  refine Qx<|Qb<|x (Qa rfl)<|xl rfl<|QF (j:=3) (u:=.slice (some ⟨b21,0,none⟩) 1 1) hB78 rfl rfl (by simp) rfl λw9 hs9 hB79=>xe ?_
  refine ⟨(nS,nS,.slice (some ⟨b21,0,none⟩) 1 1),trivial,hs9,hB79,?_,?_,?_⟩
  ·show QL _ _ _ (if q.kd=1 then [q.ix] else []);rw[if_neg hk1];exact XW _ _
  ·show QL _ _ _ (if q.kd=2 then [q.ix] else []);rw[if_neg hk2];exact XW _ _
  ·show QL _ _ _ (if q.kd≠1∧q.kd≠2 then [q.ix] else []);rw[if_pos ⟨hk1,hk2⟩];exact hlit hs9
 rintro ⟨v1,v2,v3⟩ g w9 ⟨hs9,hB79,hI1,hI2,hI3⟩
 simp only[] at hB79 hI1 hI2 hI3
 have hs09:Step [] w w9:=hs08.then1 hs9 hb7u
 have hz9:=hs9.size
 have hB29:QS w9.heap b2 38 c.cells:=(hB24.ext hs48).step hs9 (by have:=hB2.lt;simp only[List.mem_singleton];omega)
 have hB49:QS w9.heap b4 38 YN:=(hB44.ext hs48).step hs9 (by simp only[List.mem_singleton];omega)
 refine Qc<|x (Qn hB29 rfl rfl)<|x (Qn hB79 rfl rfl)<|xl rfl<|xf<|(QbD (p:=prt q.m) (h.ext hs09) (hm.ext hs09) hI1 hI2 hI3).mono ?_
 rintro r10 w10 ⟨hs10,us,rfl,hul,huo,hbad,hgood⟩
 have hz10:=hs10.size
 refine x (Qj rfl rfl)<|x (Qj rfl rfl)<|xl rfl<|Ql (us:=us) (hB49.ext hs10) rfl rfl hul rfl huo λw11 hs11 hB411=>Qf<|Qk ⟨[.agg us.toArray,.int .i64 (yn c.cel (prt q.m))],⟨⟨_,rfl,Qv hul (hB411.at (L:=[]) (by simp)).cells⟩,rfl,trivial⟩,(hs09.trans hs10).then1 hs11 (by omega),us,rfl,hul,huo,hbad,λe=>?_⟩
 obtain ⟨cl,e1,e2,e3⟩:=hgood e
 refine ⟨cl,e1,e2,λL hL=>?_⟩
 have h1:=e3 (b4::L) (λb hb=>by
  rcases List.mem_cons.1 hb with rfl | hb
  ·omega
  ·have:=hL b hb;have:=hs09.size;omega)
 exact (h1.st (hs11.mono (by simp))).up (λb hb=>.inl (by simp[hb]))
set_option maxHeartbeats 4000000 in
theorem QhH {L:LN}{w:World}{c:CL}{q:MV}(h0:ZH L w.heap c) (hm0:QL L w.heap q.v q.co) (hkb:Kb w 4096) :
  QG prog 42 [c.val,.agg #[.int .i64 q.kd,.int .i64 q.ix,q.v]] w λr w'=>Step [] w w'∧∃sa st sm se,r=.tuple #[.agg #[sa,.int .i64 st,sm,se],.int .i64 (msE c.cel q.m)]∧ZD [sa,sm,se] ∧
   (msE c.cel q.m=0→st=(msA c.cel q.m).st∧∀L:LN,(∀b∈L,b<w.heap.size)→Zm L w'.heap sa sm se (msA c.cel q.m)):=by
 have h:=h0.up (L':=[]) (by simp)
 have hm:=hm0.up (L':=[]) (by simp)
 have hr:msE c.cel q.m=if mcE c.cel q.m≠0 then mcE c.cel q.m else suE (mcC c.cel q.m):=rfl
 have hcc:msA c.cel q.m=Un (mcC c.cel q.m):=rfl
 rw[hcc]
 refine Zc (msE c.cel q.m) λE hE=>?_
 rw[hE] at hr ⊢
 refine QG.of_W func42 rfl ntmps42 results42 (by simp) ?_
 refine Qc<|xl rfl<|QQ (us:=c.cells) rfl λb2 w1 hs1 hb2 hB2=>xl rfl<|QQ (us:=Yp q) rfl λb3 w2 hs2 hb3 hB3=>xl rfl<|Qr (us:=[nS,.int .i64 0,nS,nS]) rfl λb4 w3 hs3 hb4 hB4=>Qf ?_
 have hs03:=(hs1.trans hs2).trans hs3
 have hz1:=hs1.size
 have hz2:=hs2.size
 have hz3:=hs3.size
 have hl4:=hB4.lt
 refine Qc<|x (Qn ((hB2.ext hs2).ext hs3) rfl rfl)<|x (Qn (hB3.ext hs3) rfl rfl)<|xl rfl<|xf<|(Qff (h.ext hs03) (hm.ext hs03)).mono ?_
 rintro r4 w4 ⟨hs4,us,rfl,hul,huo,hbad,hgood⟩
 have hz4:=hs4.size
 have hs04:=hs03.trans hs4
 refine Qb<|x (Qj rfl rfl)<|x (Qj rfl rfl)<|xl rfl<|Qr (us:=YN) rfl λb6 w5 hs5 hb6 hB6=>xl rfl<|Ql (us:=us) hB6 rfl rfl hul rfl huo λw6 hs6 hB66 =>
  Qf ?_
 have hs46:Step [] w4 w6:=hs5.then1 hs6 hb6
 have hs06:=hs04.trans hs46
 have hz46:=hs46.size
 have hB46:=(hB4.ext hs4).ext hs46
 refine Qg<|Qc<|Qb<|x (Q4 rfl rfl)<|xe ?_
 refine Q3 rfl (λh15=>?_) (λh15=>?_)
 ·rw[if_pos h15] at hr
  subst hr
  refine Qc<|x (QN trivial)<|Qb<|xl rfl<|Ql (us:=[nS,.int .i64 0,nS,nS]) hB46 rfl rfl rfl rfl ⟨rfl,rfl,rfl,rfl,trivial⟩ λw7 hs7 hB47=>Qf ?_
  exact Qk ⟨[.agg [nS,.int .i64 0,nS,nS].toArray,.int .i64 (mcE c.cel q.m)],⟨⟨_,rfl,Qv rfl (hB47.at (L:=[]) (by simp)).cells⟩,rfl,trivial⟩,hs06.then1 hs7 (by omega),nS,0,nS,nS,rfl,⟨rfl,rfl,rfl,trivial⟩,λh0=>absurd h0 h15⟩
 rw[if_neg h15] at hr
 subst hr
 obtain ⟨cl,hv,hcel,hCA⟩:=hgood (Decidable.not_not.1 h15)
 have hCA6:ZH [] w6.heap cl:=(hCA [] (by simp)).ext hs46
 have hsup:=Kz hCA6 (hkb.ext hs06)
 rw[hcel] at hsup
 have hsup1:∀R,QG prog 33 [cl.val] w6 R→QG prog 33 [.agg us.toArray] w6 R:=λR hR=>by rw[hv];exact hR
 have hsup':=hsup1 _ hsup
 refine Qi<|Qc<|x (Qn hB66 rfl hul)<|xl rfl<|xf<|hsup'.mono ?_
 rintro r8 w8 ⟨hs8,sa,sm,se,rfl,hone,_,hgood8⟩
 refine Zc (if Y4 (mcC c.cel q.m)=0 then (Un (mcC c.cel q.m)).st else 0) λN hN=>?_
 rw[hN]
 have hz8:=hs8.size
 refine x (Qj rfl rfl)<|x (Qj rfl rfl)<|xl rfl<|Ql (us:=[sa,.int .i64 N,sm,se]) (hB46.ext hs8) rfl rfl rfl rfl ⟨hone.1,rfl,hone.2.1,hone.2.2.1,trivial⟩ λw9 hs9 hB49=>Qf<|Qk ⟨[.agg [sa,.int .i64 N,sm,se].toArray,.int .i64 (suE (mcC c.cel q.m))],⟨⟨_,rfl,Qv rfl (hB49.at (L:=[]) (by simp)).cells⟩,rfl,trivial⟩,(hs06.trans hs8).then1 hs9 (by omega),sa,N,sm,se,rfl,hone,λe=>⟨?_,λL hL=>?_⟩⟩
 ·have e':Y4 (mcC c.cel q.m)=0:=e
  rw[if_pos e'] at hN
  exact hN.symm
 have h1:=hgood8 e (b4::L) (λb hb=>by
  rcases List.mem_cons.1 hb with rfl | hb
  ·omega
  ·have:=hL b hb;have:=hs06.size;omega)
 exact (h1.st (hs9.mono (by simp))).up (λb hb=>.inl (by simp[hb]))
theorem ZQ.of_lt {base N:Nat}{av:LN}{H:Array Obj}{v:Value}{n sz:Nat}{cs:LV}(h:∀L:LN,(∀b∈L,b<N)→Zw L H v n sz cs) (hb:base≤N) (hav:∀b∈av,b<N):ZQ base av H v n sz cs:=λL hL =>
 h L (λb hbL=>(hL b hbL).elim (λh=>by omega) (hav b))
theorem Xj.app3 {α:Type}{g:α→LV}{sz T:Nat}{ps:α→List (Value×Nat×Nat×LV)}{base:Nat}{w7 w8:World}{v v8:Value}{l:List α}{q:α}(h:Xj g sz T ps base w7 v l)
  (hq:∀t∈ps q,ZQ base (ob v) w7.heap t.1 t.2.1 t.2.2.1 t.2.2.2)
  (ho:w8.ownsRow base T sz v8 (l.length+1) (l.flatMap g++g q)) (hs8:Step (ob v) w7 w8) (hn:∀b∈ob v8,b∈ob v∨w7.heap.size≤b):Xj g sz T ps base w8 v8 (l++[q]):=by
 refine ⟨?_,λd hd t ht=>?_⟩
 ·rw[List.length_append,List.flatMap_append];simpa using ho
 ·rcases List.mem_append.1 hd with hd | hd
  ·exact (h.each d hd t ht).app hs8 hn
  ·simp only[List.mem_singleton] at hd;subst hd
   exact (hq t ht).app hs8 hn
abbrev Qlj (p:AV):List (Value×Nat×Nat×LV):=[(p.va,p.a.al.length,1,p.a.al.map (.int .i64)),(p.vm,p.a.mr.length,1,p.a.mr.map (.int .i64)),(p.ve,p.a.ed.length,3,p.a.ed.flatMap QC)]
abbrev AvP (base:Nat) (w:World) (v:Value) (l:List AV):Prop:=Xj Q7 4 50 Qlj base w v l
theorem AvP.auts {base:Nat}{w:World}{v:Value}{l:List AV}{L:LN}(h:AvP base w v l) (hn:l.length≤1099511627776) (hL:∀b∈L,b<base):YG L w.heap v l :=
 ⟨QV h.own hn (λb hb hbL=>by have:=(Qq h.own b hb).1;have:=hL b hbL;omega),λp hp=>⟨h.each p hp (p.va,p.a.al.length,1,p.a.al.map (.int .i64)) (by simp) L (λb hb=>.inl (hL b hb)),h.each p hp (p.vm,p.a.mr.length,1,p.a.mr.map (.int .i64)) (by simp) L (λb hb=>.inl (hL b hb)),h.each p hp (p.ve,p.a.ed.length,3,p.a.ed.flatMap QC) (by simp) L (λb hb=>.inl (hL b hb))⟩⟩
def Qls (N:Nat) (H:Array Obj) (v:Value) (l:List QM):Prop:=∃ps:List AV,ps.map (·.a)=l∧∀L:LN,(∀b∈L,b<N)→YG L H v ps
theorem Qgt {p:AV}(h1:p.va.oneCell'=true) (h2:p.vm.oneCell'=true) (h3:p.ve.oneCell'=true):∀u∈Q7 p,u.oneCell'=true:=by
 intro u hu
 simp only[Q7,List.mem_cons,List.not_mem_nil,or_false] at hu
 rcases hu with rfl | rfl | rfl | rfl
 ·exact h1
 ·rfl
 ·exact h2
 ·exact h3
theorem Zm.parts {base N:Nat}{av:LN}{H:Array Obj}{p:AV}(h:∀L:LN,(∀b∈L,b<N)→Zm L H p.va p.vm p.ve p.a) (hb:base≤N) (hav:∀b∈av,b<N):∀t∈Qlj p,ZQ base av H t.1 t.2.1 t.2.2.1 t.2.2.2:=by
 intro t ht
 simp only[List.mem_cons,List.not_mem_nil,or_false] at ht
 rcases ht with rfl | rfl | rfl
 ·exact ZQ.of_lt (λL hL=>(h L hL).al) hb hav
 ·exact ZQ.of_lt (λL hL=>(h L hL).mr) hb hav
 ·exact ZQ.of_lt (λL hL=>(h L hL).ed) hb hav
theorem Qe9 {c:ZB}(h:Ul c):(mods c).length≤96:=by have:=yG h 3 (by omega);rw[jX] at this;omega
theorem Qcd:∀(l:LN) (b:Nat),l.foldl (λl b=>l &&& (65535 ^^^ b)) b≤b
 | [],_=>Nat.le_refl _
 | _::l,_=>Nat.le_trans (Qcd l _) Nat.and_le_left
theorem QeH {c:ZB}:∀i∈rem c,0≤i∧i<(c.co.length:Int):=by
 intro i hi
 unfold rem setK at hi
 obtain ⟨j,hj,rfl⟩:=List.mem_map.1 hi
 have h1:=(List.mem_filter.1 hj).2
 have h2:=of_decide_eq_true h1
 refine ⟨by omega,?_⟩
 refine Decidable.byContradiction λhn=>?_
 have hn':c.co.length≤j:=by omega
 have hle:Qa7 c≤2 ^ c.co.length - 1:=Qcd _ _
 have hp:0<2 ^ c.co.length:=Nat.pow_pos (by decide)
 have hpj:2 ^ c.co.length≤2 ^ j:=Nat.pow_le_pow_right (by decide) hn'
 have h0:Qa7 c / 2 ^ j=0:=Nat.div_eq_of_lt (by omega)
 rw[h0] at h2
 cases h2
theorem Qa2 (c:ZB):K5 c=if Zh c≠0 then Zh c else msL c (mods c):=rfl
theorem jV (c:ZB) (m:Mdl) (l:List Mdl):msL c (m::l)=if msE c m≠0 then msE c m else msL c l:=rfl
abbrev coA (c:ZB) (i:Int):QM:=(c.co.getD i.toNat ⟨.empty,⟨[],0,[],[]⟩⟩).a
set_option maxRecDepth 4096 in
set_option maxHeartbeats 8000000 in
theorem J0 {L:LN}{w:World}{c:CL}(h0:ZH L w.heap c) (hkb:Kb w 4096) :
  QG prog 13 [c.val] w λr w'=>Step [] w w'∧∃v,r=.tuple #[v,.int .i64 (K5 c.cel)]∧(K5 c.cel≠0→v=nS)∧(K5 c.cel=0→v.oneCell'=true∧Qls w.heap.size w'.heap v (Xr c.cel)):=by
 have h:=h0.up (L':=[]) (by simp)
 have hsv:=Qa2 c.cel
 have hsl:Xr c.cel=(mods c.cel).map (msA c.cel)++(rem c.cel).map (coA c.cel):=rfl
 refine Zc (K5 c.cel) λE hE=>?_
 rw[hE] at hsv ⊢
 refine QG.of_W func13 rfl ntmps13 results13 (by simp) ?_
 refine Qc<|xl rfl<|QQ (us:=c.cells) rfl λb1 w1 hs1 hb1 hB1=>x Qe<|Qf<|Qc<|x (Qn hB1 rfl rfl)<|xl rfl<|xf<|(QbR (h.ext hs1)).mono ?_
 rintro r2 w2 ⟨hs2,vM,lM,rfl,hM,hMbad,hMgood⟩
 have hs02:=hs1.trans hs2
 have hz1:=hs1.size
 have hz2:=hs2.size
 refine Qb<|x (Qj rfl rfl)<|x (Qj rfl rfl)<|x Qe<|Qf<|Qg<|Qc<|Qb<|x (Q4 rfl rfl)<|xe ?_
 refine Q3 rfl (λh21=>?_) (λh21=>?_)
 ·rw[if_pos h21] at hsv
  subst hsv
  refine Qc<|Qb<|x Qe<|Qf ?_
  exact Qk ⟨[nS,.int .i64 (Zh c.cel)],⟨rfl,rfl,trivial⟩,hs02,nS,rfl,λ_=>rfl,λh0=>absurd h0 h21⟩
 rw[if_neg h21] at hsv
 have hck:=Decidable.not_not.1 h21
 have hok:Ul c.cel:=(ZP hck).sr
 have hMm:=hMgood hck
 have hMl:lM.length≤96:=by have:=Qe9 hok;rw[←hMm,List.length_map] at this;exact this
 have hMA:Zw [] w2.heap vM lM.length 3 (lM.flatMap Yp):=hM.arr (by omega) (by simp)
 have hrl:(rem c.cel).length≤8:=Xs _ _
 have hB12:=hB1.ext hs2
 refine Qi<|Qc<|Qf<|Qg<|Qc<|Qb<|x (Qs hMA rfl)<|Qb<|xe ?_
 refine Qh<|QA (α:=Nat×Value×List AV) [(2,3),(6,6),(8,10),(25,42)] (λz=>[(6,z.2.1),(25,.int .i64 z.1)]) (λz w'=>z.1≤lM.length∧Step [] w2 w'∧AvP w2.heap.size w' z.2.1 z.2.2∧z.2.2.map (·.a)=(lM.take z.1).map (λq=>msA c.cel q.m)∧msL c.cel ((lM.drop z.1).map MV.m)=E) (λz=>lM.length - z.1) (by rfl) (0,nS,[]) ⟨rfl,rfl,trivial⟩
  ⟨Nat.zero_le _,Step.refl _ _,Xj.nil,rfl,by rw[List.drop_zero,hMm];exact hsv.symm⟩ ?_
 rintro ⟨k,v,l⟩ g w3 ⟨hk,hs3,hV3,hl3,hE3⟩
 simp only[] at hk hV3 hl3 hE3
 have hs03:=hs02.trans hs3
 have hz3:=hs3.size
 have hll:l.length=k:=by have:=congrArg List.length hl3;rw[List.length_map,List.length_map,List.length_take] at this;omega
 have hB13:=hB12.ext hs3
 have h3:=h.ext hs03
 refine Qc<|x (QB rfl rfl)<|xe ?_
 refine Qg<|QD rfl (λh26=>?_) (λh26=>?_)
 ·refine Qz ?_
  have hke:lM.length≤k:=by have h16:¬(k:Int)<(lM.length:Int):=h26;omega
  rw[List.take_of_length_le hke] at hl3
  rw[List.drop_of_length_le hke] at hE3
  have hE0:E=0:=hE3.symm
  have hl3':l.map (·.a)=(mods c.cel).map (msA c.cel):=by rw[hl3,←hMm,List.map_map];rfl
  refine Qc<|x (Qn hB13 rfl rfl)<|xl rfl<|xf<|(jb h3).mono ?_
  rintro r4 w4 ⟨hs4,vR,rfl,_,hRgood⟩
  have hR:=hRgood hck
  have hs04:=hs03.trans hs4
  have hz4:=hs4.size
  refine Qb<|x (Qj rfl rfl)<|x (Qj rfl rfl)<|x Qe<|Qf<|Qg<|Qc<|Qb<|x (Q4 rfl rfl)<|xe ?_
  refine Q3 rfl (λh49=>?_) (λh49=>?_)
  ·exact absurd hck h49
  refine Qi ?_
  have hRA:QL [] w4.heap vR (rem c.cel):=Qt.ints hR (by omega) (by simp)
  refine Qg<|Qc<|Qb<|x (Qs hRA rfl)<|Qb<|xe ?_
  refine Qh<|QA (α:=Nat×Value×List AV) [(6,6),(13,14),(53,78)] (λz=>[(6,z.2.1),(53,.int .i64 z.1)]) (λz w'=>z.1≤(rem c.cel).length∧Step (ob v) w4 w'∧AvP w2.heap.size w' z.2.1 z.2.2∧z.2.2.map (·.a)=(mods c.cel).map (msA c.cel)++((rem c.cel).take z.1).map (coA c.cel)∧∀b∈ob z.2.1,b∈ob v∨w4.heap.size≤b) (λz=>(rem c.cel).length - z.1) (by rfl) (0,v,l) ⟨rfl,rfl,trivial⟩
   ⟨Nat.zero_le _,Step.refl _ _,Xj.ext hV3 hs4,by simp only[List.take_zero,List.map_nil,List.append_nil];exact hl3',λb hb=>.inl hb⟩ ?_
  rintro ⟨j,vj,lj⟩ g w5 ⟨hj,hs5,hV5,hl5,hn5⟩
  simp only[] at hj hV5 hl5 hn5
  have hvge:=Qq hV3.own
  have hvge5:=Qq hV5.own
  have hs05:Step [] w w5:=hs04.then hs5 (λb hb=>.inr (by have:=(hvge b hb).1;omega))
  have h5:=h.ext hs05
  have hz5:=hs5.size
  have hljl:lj.length≤200:=by
   have e1:=congrArg List.length hl5
   rw[List.length_map,List.length_append,List.length_map,List.length_map,List.length_take,←hMm,List.length_map] at e1
   omega
  have hB15:QS w5.heap b1 38 c.cells:=(hB13.ext hs4).step hs5 (λhb=>by have:=(hvge b1 hb).1;have:=hB12.lt;omega)
  have hRA5:QL [] w5.heap vR (rem c.cel):=(((Qt.ints hR (by omega) (L:=ob v) (λb hb=>(hvge b hb).2)).st hs5)).up (by simp)
  refine Qc<|x (QB rfl rfl)<|xe ?_
  refine Qg<|QD rfl (λh54=>?_) (λh54=>?_)
  ·refine Qz ?_
   have hje:(rem c.cel).length≤j:=by have h16:¬(j:Int)<((rem c.cel).length:Int):=h54;omega
   rw[List.take_of_length_le hje,←hsl] at hl5
   refine Qc<|Qb<|x Qe<|Qf ?_
   exact Qk ⟨[vj,.int .i64 0],⟨rfl,rfl,trivial⟩,hs05,vj,by rw[hE0];rfl,λh0=>absurd hE0 h0,λ_=>⟨QO hV5.own,lj,hl5,λL hL=>AvP.auts hV5 (by omega) (λb hb=>by have:=hL b hb;omega)⟩⟩
  have hltR:j<(rem c.cel).length:=by have h16:(j:Int)<((rem c.cel).length:Int):=h54;omega
  have htkR:(rem c.cel).take (j+1)=(rem c.cel).take j++[(rem c.cel)[j]'hltR]:=List.take_succ_eq_append_getElem hltR
  have hig:=QeH _ (List.getElem_mem hltR)
  refine Qi<|Qg<|Qh<|Qc<|xii (i:=j) hRA5 rfl rfl hltR λa55 h55=>?_
  refine Zc ((rem c.cel)[j]'hltR) λi hi=>?_
  rw[hi] at h55 htkR hig
  have hcl:c.cel.co.length=c.co.length:=List.length_map ..
  rw[hcl] at hig
  have hin:i=(i.toNat:Int):=by omega
  have hil:i.toNat<c.co.length:=by omega
  have hmem:=List.getElem_mem hil
  have hco:coA c.cel i=(c.co[i.toNat]'hil).p.a:=by
   show ((c.co.map IV.it).getD i.toNat _).a=_
   simp[List.getD,hil,IV.it]
  refine x (Qw h55 rfl)<|Qf<|Qc<|x (Qa rfl)<|x (Qd hB15 rfl rfl)<|Qb<|xig (g:=Zi) (i:=i.toNat) Xb h5.co.arr rfl (congrArg (Value.int .i64) hin) hil λa60 h60=>?_
  refine Zc (c.co[i.toNat]'hil) λq hq=>?_
  rw[hq] at h60 hmem hco
  have hqA:=h5.co.each q hmem
  refine x (Zd rfl)<|x (QJ (us:=[q.p.va,.int .i64 q.p.a.st,q.p.vm,q.p.ve]) (h60.from 1) rfl rfl)<|xl rfl<|Qr (us:=[nS,.int .i64 0,nS,nS]) rfl λb14 w6 hs6 hb14 hB14 =>
   xl rfl<|Ql (us:=[q.p.va,.int .i64 q.p.a.st,q.p.vm,q.p.ve]) hB14 rfl rfl rfl rfl ⟨hqA.al.one,rfl,hqA.mr.one,hqA.ed.one,trivial⟩ λw7 hs7 hB14=>xe ?_
  have hs57:Step [] w5 w7:=hs6.then1 hs7 hb14
  have hd7:Step [] w7 { w7 with drawn:=w7.drawn+1 }:=Step.drew _ _
  have hz57:=hs57.size
  have hb14v:b14∉ob vj:=λhm=>by have:=(hvge5 b14 hm).2;omega
  have hqA7:=hqA.ext hs57
  refine QT (Step (ob vj) w7) [(0,true),(1,true),(2,true),(4,true),(5,true),(6,true),(7,true),(9,true),(10,true),(3,false),(8,false),(11,false),(12,true),(13,false),(14,false),(15,true)] mixed (by rfl) (by kernel_rfl) (Step.drew _ _) ?_
  refine p (λ_=>Qo)<|p (λ_=>Qa rfl)<|pq (λ_ hc=>Qd (hB14.step hc hb14v) rfl rfl)<|p (λ_=>Qa rfl)<|pq (λ_ hc=>Qd (hB14.step hc hb14v) rfl rfl) <|
   p (λ_=>Qa rfl)<|pq (λ_ hc=>Qd (hB14.step hc hb14v) rfl rfl)<|p (λ_=>Qa rfl)<|pq (λ_ hc=>Qd (hB14.step hc hb14v) rfl rfl) <|
   pk<|xf<|(Yw (hqA7.al.ext hd7)).mono ?_
  rintro r8 w8 ⟨hs8,ho8⟩
  refine ⟨(hd7.trans hs8).any,?_⟩
  refine pk<|xf<|(Yw ((hqA7.mr.ext hd7).ext hs8)).mono ?_
  rintro r9 w9 ⟨hs9,ho9⟩
  refine ⟨((hd7.trans hs8).trans hs9).any,?_⟩
  refine pk<|xf<|(qk (((hqA7.ed.ext hd7).ext hs8).ext hs9)).mono ?_
  rintro r10 w10 ⟨hs10,ho10⟩
  have hs710:=((hd7.trans hs8).trans hs9).trans hs10
  refine ⟨hs710.any,?_⟩
  refine p (λ_=>QN ⟨Zl ho8,rfl,Zl ho9,Zl ho10,trivial⟩)<|pk<|QH (us:=[Q7 ⟨r8,r9,r10,q.p.a⟩]) rfl rfl (by decide) (by simp) ⟨rfl,rfl,trivial⟩ λb76 w11 hs11 hb76 hB76=>⟨(hs710.trans hs11).any,?_⟩
  have hs511:=(hs57.trans hs710).trans hs11
  have hz511:=hs511.size
  have hz8:=hs8.size
  have hz9:=hs9.size
  have hzd:({ w7 with drawn:=w7.drawn+1 }:World).heap.size=w7.heap.size:=rfl
  refine pk<|Q5 (news:=Q7 ⟨r8,r9,r10,q.p.a⟩) (L:=[]) (Qu hV5.own hs511) rfl rfl rfl (hB76.at (by simp)) (Qgt (p:=⟨r8,r9,r10,q.p.a⟩) (QO ho8) (QO ho9) (QO ho10)) (by omega) (by omega) λv12 w12 ho12 hs12 hn12=>⟨(hs710.trans hs11).any.trans' hs12,?_⟩
  refine p (λ_=>Qe)<|pe ?_
  have hvl:∀b∈ob vj,b<w7.heap.size:=λb hb=>by have:=(hvge5 b hb).2;omega
  have hV12:AvP w2.heap.size w12 v12 (lj++[⟨r8,r9,r10,q.p.a⟩]):=Xj.app3 (Xj.ext hV5 hs511) (λt ht=>by
   simp only[List.mem_cons,List.not_mem_nil,or_false] at ht
   rcases ht with rfl | rfl | rfl
   ·exact ZQ.of_own (Qu (Qu (Qu ho8 hs9) hs10) hs11) hqA.al.le (by omega) (λb hb=>by have:=hvl b hb;omega)
   ·exact ZQ.of_own (Qu (Qu ho9 hs10) hs11) hqA.mr.le (by omega) (λb hb=>by have:=hvl b hb;omega)
   ·exact ZQ.of_own (Qu ho10 hs11) hqA.ed.le (by omega) (λb hb=>by have:=hvl b hb;omega)) ho12 hs12 hn12
  refine Qx<|x (Qy rfl rfl ⟨by omega,by omega⟩)<|Qb<|xe ?_
  refine ⟨(j+1,v12,lj++[⟨r8,r9,r10,q.p.a⟩]),by simp only[];omega,⟨rfl,rfl,trivial⟩,hltR,(hs5.trans hs511).then hs12 hn5,hV12,?_,λb hb=>?_⟩
  ·simp only[]
   rw[htkR,List.map_append,hl5,List.map_append,List.append_assoc,List.map_singleton,List.map_singleton,hco]
  ·rcases hn12 b hb with h9 | h9
   ·exact hn5 b h9
   ·exact .inr (by omega)
 have hlt:k<lM.length:=by have h16:(k:Int)<(lM.length:Int):=h26;omega
 have htk:lM.take (k+1)=lM.take k++[lM[k]'hlt]:=List.take_succ_eq_append_getElem hlt
 have hmem:=List.getElem_mem hlt
 rw[List.drop_eq_getElem_cons hlt,List.map_cons,jV] at hE3
 have hM3:=ZY.ext hM hs3
 have hMA3:=hMA.ext hs3
 refine Qi<|Qg<|Qh<|Qc<|xig (g:=Yp) (i:=k) QjD hMA3 rfl rfl hlt λa27 h27=>?_
 refine Zc (lM[k]'hlt) λq hq=>?_
 rw[hq] at h27 htk hmem hE3
 have hqI:QL [] w3.heap q.v q.co:=hM3.each q hmem [] (by simp)
 refine x (QJ h27 rfl rfl)<|xl rfl<|Qr (us:=[.int .i64 0,.int .i64 0,nS]) rfl λb8 w13 hs13 hb8 hB8=>xl rfl<|Ql (us:=Yp q) hB8 rfl rfl rfl rfl ⟨rfl,rfl,hqI.one,trivial⟩ λw14 hs14 hB8 =>
  xe ?_
 have hs314:Step [] w3 w14:=hs13.then1 hs14 hb8
 have hs014:=hs03.trans hs314
 have hz314:=hs314.size
 refine Qc<|x (Qn (hB13.ext hs314) rfl rfl)<|x (Qn hB8 rfl rfl)<|xl rfl<|xf<|(QhH (q:=q) (h.ext hs014) (hqI.ext hs314) (hkb.ext hs014)).mono ?_
 rintro r15 w15 ⟨hs15,sa,st,sm,se,rfl,hone,hgood⟩
 refine Qb<|x (Qj rfl rfl)<|x (Qj rfl rfl)<|xl rfl<|Qr (us:=[nS,.int .i64 0,nS,nS]) rfl λb9 w16 hs16 hb9 hB9=>xl rfl<|Ql (us:=[sa,.int .i64 st,sm,se]) hB9 rfl rfl rfl rfl ⟨hone.1,rfl,hone.2.1,hone.2.2.1,trivial⟩ λw17 hs17 hB9 =>
  Qf ?_
 have hs1517:Step [] w15 w17:=hs16.then1 hs17 hb9
 have hs317:=(hs314.trans hs15).trans hs1517
 refine Qg<|Qc<|Qb<|x (Q4 rfl rfl)<|xe ?_
 refine Q3 rfl (λh36=>?_) (λh36=>?_)
 ·rw[if_pos h36] at hE3
  subst hE3
  refine Qc<|Qb<|x Qe<|Qf ?_
  exact Qk ⟨[nS,.int .i64 (msE c.cel q.m)],⟨rfl,rfl,trivial⟩,hs03.trans hs317,nS,rfl,λ_=>rfl,λh0=>absurd h0 h36⟩
 rw[if_neg h36] at hE3
 obtain ⟨hst,hA⟩:=hgood (Decidable.not_not.1 h36)
 subst hst
 have hge:=Qq hV3.own
 refine Qi<|Qx<|Qb<|x (Qn hB9 rfl rfl)<|xl rfl<|QH (us:=[Q7 ⟨sa,sm,se,msA c.cel q.m⟩]) rfl rfl (by decide) (by simp) ⟨rfl,rfl,trivial⟩ λb40 w18 hs18 hb40 hB40=>?_
 have hs318:=hs317.trans hs18
 have hz318:=hs318.size
 refine xl rfl<|Q5 (news:=Q7 ⟨sa,sm,se,msA c.cel q.m⟩) (L:=[]) (Qu hV3.own hs318) rfl rfl rfl (hB40.at (by simp)) (Qgt (p:=⟨sa,sm,se,msA c.cel q.m⟩) hone.1 hone.2.1 hone.2.2.1) (by omega) (by omega) λv19 w19 ho19 hs19 hn19 =>
  Qf ?_
 have hV19:AvP w2.heap.size w19 v19 (l++[⟨sa,sm,se,msA c.cel q.m⟩]):=Xj.app3 (Xj.ext hV3 hs318) (Zm.parts (N:=w14.heap.size) (p:=⟨sa,sm,se,msA c.cel q.m⟩) (λL hL=>((hA L hL).ext hs1517).ext hs18) (by omega) (λb hb=>by have:=(hge b hb).2;omega)) ho19 hs19 hn19
 refine Qx<|x (Qy rfl rfl ⟨by omega,by omega⟩)<|Qb<|xe ?_
 refine ⟨(k+1,v19,l++[⟨sa,sm,se,msA c.cel q.m⟩]),by simp only[];omega,⟨rfl,rfl,trivial⟩,hlt,(hs3.trans hs318).then hs19 (λb hb=>.inr (hge b hb).1),hV19,?_,hE3⟩
 simp only[]
 rw[htk,List.map_append,hl3,List.map_append];rfl
abbrev gtA (aa:List QM) (i:Nat):QM:=aa.getD i ⟨[],0,[],[]⟩
def rfP (aa:List QM) (t:LI) (v:Int) (i:Nat):Bool:=!(eget (gtA aa i).ed (cget t i) v).isSome && decide (v∈(gtA aa i).al)
def rfN (aa:List QM) (t:LI) (v:Int) (n:Nat):LI:=((List.range n).filter (rfP aa t v)).map λi:Nat=>(i:Int)
def rfL (aa:List QM) (t:LI) (v:Int):LI:=rfN aa t v aa.length
theorem QeE (aa:List QM) (t:LI) (v:Int) (n:Nat):rfN aa t v (n+1)=rfN aa t v n++if rfP aa t v n=true then [(n:Int)] else []:=by
 unfold rfN
 rw[List.range_succ,List.filter_append,List.map_append]
 congr 1
 by_cases h:rfP aa t v n=true
 ·rw[if_pos h];simp[h]
 ·rw[if_neg h];simp[h]
theorem Qhr (aa:List QM) (t:LI) (v:Int) (n:Nat):(rfN aa t v n).length≤n:=by
 unfold rfN;rw[List.length_map];have:=List.length_filter_le (rfP aa t v) (List.range n);rw[List.length_range] at this;exact this
set_option maxHeartbeats 4000000 in
theorem yC {w:World}{v vt:Value}{ps:List AV}{ts:LI}(h:YG [] w.heap v ps) (ht:QL [] w.heap vt ts) (e:Int) :
  QG prog 19 [v,vt,.int .i64 e] w λr w'=>Step [] w w'∧∃vr,r=.tuple #[vr,.int .i64 (ckV (ps.map (·.a)) ts e)]∧(ckV (ps.map (·.a)) ts e≠0→vr=Zf)∧(ckV (ps.map (·.a)) ts e=0→Qt 3 w.heap.size w' vr (rfL (ps.map (·.a)) ts e)):=by
 refine Zc (ckV (ps.map (·.a)) ts e) λE hE=>?_
 rw[hE]
 refine QG.of_W func19 rfl ntmps19 results19 (by simp) ?_
 refine Qc<|x Qe<|Qf<|Qg<|Qc<|Qb<|Qb<|Qb<|xl rfl<|xf<|(q8 h ht e).mono ?_
 rintro r1 w1 ⟨hr1,hs1⟩
 rw[hE] at hr1
 subst hr1
 refine Qf<|Qc<|Qb<|x (Q4 rfl rfl)<|xe ?_
 refine Q3 rfl (λh20=>?_) (λh20=>?_)
 ·refine Qc<|Qb<|x Qe<|Qf ?_
  exact Qk ⟨[Zf,.int .i64 E],⟨rfl,rfl,trivial⟩,hs1,Zf,rfl,λ_=>rfl,λe=>absurd e h20⟩
 have hE0:E=0:=Decidable.not_not.1 h20
 have hc:ckV (ps.map (·.a)) ts e=0:=hE.trans hE0
 have hct:ckT (ps.map (·.a)) ts=0:=by
  unfold ckV at hc
  split at hc
  ·rename_i h1;exact absurd hc h1
  ·rename_i h1;exact Decidable.not_not.1 h1
 obtain ⟨h1,h2,h3⟩:=Qat hct
 rw[List.length_map] at h1
 have hl:ts.length=ps.length:=by have:=h3.1;rw[List.length_map] at this;exact this
 refine Qi<|Qc<|Qb<|xl rfl<|xf<|(Qck (h.ext hs1) h1 (λp hp=>(h2 p.a (List.mem_map_of_mem hp)).al_le) (by simp)).mono ?_
 rintro r2 w2 ⟨hs2,ve,vs,ms,rfl,hM,hveO⟩
 have hs02:=hs1.trans hs2
 have hvs:=hM.sl.one
 refine xl rfl<|Qr (us:=[nS,nS,nS]) rfl λb9 w3 hs3 hb9 hB9=>xl rfl<|Ql (us:=[v,ve,vs]) hB9 rfl rfl rfl rfl ⟨h.arr.one,QO hveO,hvs,trivial⟩ λw4 hs4 hB94=>xe ?_
 have hs24:Step [] w2 w4:=hs3.then1 hs4 hb9
 have hs04:=hs02.trans hs24
 have hz04:=hs04.size
 have hz24:=hs24.size
 refine Qc<|Qf<|Qg<|Qc<|Qb<|x (Qs (h.ext hs04).arr rfl)<|Qb<|xe ?_
 refine Qh<|QA (α:=Nat×Value) [(10,14),(26,58)] (λz=>[(10,z.2),(26,.int .i64 z.1)]) (λz w'=>z.1≤ps.length∧Step [] w4 w'∧Qt 3 w4.heap.size w' z.2 (rfN (ps.map (·.a)) ts e z.1)) (λz=>ps.length - z.1) (by rfl) (0,nS) ⟨rfl,rfl,trivial⟩
  ⟨Nat.zero_le _,Step.refl _ _,QP _ _ _ _⟩ ?_
 rintro ⟨k,vo⟩ g w5 ⟨hk,hs5,ho5⟩
 simp only[] at hk ho5
 have hs05:=hs04.trans hs5
 have hlo:=Qhr (ps.map (·.a)) ts e k
 have hz5:=hs5.size
 refine Qc<|x (QB rfl rfl)<|xe ?_
 refine Qg<|QD rfl (λh27=>?_) (λh27=>?_)
 ·refine Qz ?_
  have hke:k=ps.length:=by have h16:¬(k:Int)<(ps.length:Int):=h27;omega
  have hfin:rfN (ps.map (·.a)) ts e k=rfL (ps.map (·.a)) ts e:=by unfold rfL;rw[List.length_map,hke]
  rw[hfin] at ho5
  refine Qc<|Qb<|x Qe<|Qf ?_
  exact Qk ⟨[vo,.int .i64 0],⟨rfl,rfl,trivial⟩,hs05,vo,by rw[hE0];rfl,λe=>absurd hE0 e,λ_=>Zb ho5 hz04⟩
 have hlt:k<ps.length:=by have h16:(k:Int)<(ps.length:Int):=h27;omega
 have hlt':k<ts.length:=by omega
 have hltm:k<ms.length:=by rw[hM.ml];exact hlt
 have hM5:=(hM.ext hs24).ext hs5
 obtain ⟨hmk,_⟩:=hM5.mp k hltm hlt
 have hmem:=List.getElem_mem hlt
 have hgk:gtA (ps.map (·.a)) k=(ps[k]'hlt).a:=by unfold gtA;simp[List.getD,hlt]
 have hgt:cget ts k=ts[k]'hlt':=by unfold cget;simp[List.getD,hlt']
 have hsucc:=QeE (ps.map (·.a)) ts e k
 have hP:rfP (ps.map (·.a)) ts e k=(!(eget (ps[k]'hlt).a.ed (ts[k]'hlt') e).isSome && decide (e∈(ps[k]'hlt).a.al)):=by unfold rfP;rw[hgk,hgt]
 rw[hP] at hsucc
 have h5:=h.ext hs05
 refine Qi<|Qg<|Qh<|Qc<|Qb<|xig (g:=Q7) (i:=k) X4 h5.arr rfl rfl hlt λa29 h29=>?_
 refine Zc (ps[k]'hlt) λq hq=>?_
 refine Zc (ts[k]'hlt') λtk htk=>?_
 rw[hq] at h29 hmem hmk hsucc
 rw[htk] at hsucc
 have hqA:=h5.each q hmem
 have hqo:=h2 q.a (List.mem_map_of_mem hmem)
 refine x (QJ h29 rfl rfl)<|xl rfl<|Qr (us:=[nS,.int .i64 0,nS,nS]) rfl λb12 w6 hs6 hb12 hB12=>x Qe <|
  xl rfl<|Ql (us:=Q7 q) hB12 rfl rfl rfl rfl ⟨hqA.al.one,rfl,hqA.mr.one,hqA.ed.one,trivial⟩ λw7 hs7 hB127=>xe ?_
 have hs57:Step [] w5 w7:=hs6.then1 hs7 hb12
 have hB97:=(hB94.ext hs5).ext hs57
 have hM7:=hM5.ext hs57
 have hmk7:=hmk.ext hs57
 refine Qg<|QT (Step [] w7) [(0,true),(1,true),(2,true),(3,true),(4,true),(5,true),(6,true),(7,true),(8,true),(9,true),(10,true),(11,true),(12,true),(13,true),(14,true),(15,true),(16,true)] mixed (by rfl) (by kernel_rfl) (Step.drew _ _) ?_
 refine p (λ_=>Qa rfl)<|pq (λ_ hc=>Qd (hB97.ext hc) rfl rfl)<|p (λ_=>Qo)<|Go.Lg.pig rfl (g:=jY) (λ_=>rfl) hM7.sl rfl rfl hltm λa35 h35 =>
  pq (λ_ hc=>Qw (h35.ext hc) rfl)<|p (λ_=>Qo)<|p (λ_=>Qo)<|pii rfl ((ht.ext hs05).ext hs57) rfl rfl hlt' λa39 h39=>?_
 rw[htk] at h39
 refine pq (λ_ hc=>Qw (h39.ext hc) rfl) <|
  p (λ_=>Qo)<|p (λ_=>QN ⟨rfl,rfl,trivial⟩)<|pq (λ_ hc=>Qcg (s:=q.a) (q:=tk) (v:=e) (hmk7.ext hc) hqo.edi rfl rfl)<|p (λ_=>Qo)<|p (λ_=>Qj rfl rfl) <|
  p (λ_=>Qj rfl rfl)<|p (λ_=>Qe)<|p (λ_=>Qe)<|pe ?_
 have hd7:Step [] w7 { w7 with drawn:=w7.drawn+1 }:=Step.drew _ _
 have hs57d:=hs57.trans hd7
 refine QW (α:=Bool) [(46,53)] (λz=>[(53,.bool z)]) (λz w'=>Step [] w5 w'∧z=(!(eget q.a.ed tk e).isSome && decide (e∈q.a.al))) (by rfl) ?_ ?_
 ·refine Qx<|Qb<|xB (Zp rfl) (λh47=>?_) (λh47=>?_)
  ·refine Qb<|x (Qa rfl)<|x (Qd (hB127.ext hd7) rfl rfl)<|Qb<|xl rfl<|xf<|(Yx ((hqA.al.ext hs57d)) hqo.ali e).mono ?_
   rintro r8 w8 ⟨rfl,rfl⟩
   refine x (Qp rfl)<|xe ?_
   refine ⟨decide (e∈q.a.al),⟨rfl,trivial⟩,hs57d,?_⟩
   have h48:(!decide ((eget q.a.ed tk e).isSome=true))=true:=h47
   have h49:(eget q.a.ed tk e).isSome=false:=by simpa using h48
   rw[h49];rfl
  refine Qb<|xs rfl<|xs rfl<|xs rfl<|xs rfl<|x (Qp rfl)<|xe ?_
  refine ⟨false,⟨rfl,trivial⟩,hs57d,?_⟩
  have h48:(!decide ((eget q.a.ed tk e).isSome=true))=false:=h47
  have h49:(eget q.a.ed tk e).isSome=true:=by simpa using h48
  rw[h49];rfl
 rintro z g w9 ⟨hs9,hz⟩
 rw[←hz] at hsucc
 refine QY rfl (λh53=>?_) (λh53=>?_)
 ·rw[if_pos h53] at hsucc
  refine Qx<|Qb<|Qb<|xl rfl<|QH (us:=[[.int .i64 k]]) rfl rfl (by decide) (by simp) ⟨rfl,rfl,trivial⟩ λb56 w10 hs10 hb56 hB56=>?_
  have hs510:=hs9.trans hs10
  have hz510:=hs510.size
  refine xl rfl<|Q5 (news:=[.int .i64 k]) (L:=[]) (Qu ho5 hs510) rfl rfl rfl (hB56.at (by simp)) (by simp[Value.oneCell']) (by omega) (by omega) λv11 w11 ho11 hs11 hn11 =>
   Qf<|Qx<|x (Qy rfl rfl ⟨by omega,by omega⟩)<|Qb<|xe ?_
  have hge:=Qq ho5
  refine ⟨(k+1,v11),by simp only[];omega,⟨rfl,rfl,trivial⟩,hlt,(hs5.trans hs510).then hs11 (λb hb=>.inr (hge b hb).1),?_⟩
  simp only[]
  rw[hsucc];exact Qt.snoc ho11
 rw[if_neg (by rw[h53];simp),List.append_nil] at hsucc
 refine Qi<|Qx<|x (Qy rfl rfl ⟨by omega,by omega⟩)<|Qb<|xe ?_
 exact ⟨(k+1,vo),by simp only[];omega,⟨rfl,rfl,trivial⟩,hlt,hs5.trans hs9,by simp only[];rw[hsucc];exact Qu ho5 hs9⟩
section
variable {s:QM} {l:List K3} {n:Nat}
end
section
variable {s:QM} {l:List K3} {n:Nat}
end
section
variable {s:QM} {l:List K3} {n:Nat}
end
section
variable {p s:QM} {pairs:List (LI)}
end
section
variable {s:QM} {l:List K3} {n:Nat}
end
section
variable {s:QM} {l:List K3} {n:Nat} {nm:LI}
end
def cnF (ord:LI) (j:Nat) (e:Ed):Ed:=((j:Int),e.2.1,(ord.idxOf e.2.2:Int))
def y7 (a:QM) (ord:LI) (j:Nat):List Ed:=(ZF a.ed (Zq ord j)).map (cnF ord j)
theorem Qae {l r:LI}{j:Nat}(h:j<l.length):Zq (l++r) j=Zq l j:=by unfold Zq;rw[Int.toNat_natCast];exact qv h
structure NuI (st:Int) (ord num:LI):Prop where
 nd:ord.Nodup
 bd:∀s∈ord,0≤s∧s<st
 nl:num.length=st.toNat
 nu:∀k,0≤k→k<st→Zq num k=if k∈ord then (ord.idxOf k:Int) else -1
theorem Qa5 {st:Int}{i:Nat}{c:Cs}(h:NuI st c.ord c.num) {e:Ed}(h0:0≤e.2.2) (h1:e.2.2<st):NuI st (Zj i c e).ord (Zj i c e).num∧(∃r,(Zj i c e).ord=c.ord++r)∧(Zj i c e).mk'=c.mk'∧(Zj i c e).ed=c.ed++[cnF (Zj i c e).ord i e]∧e.2.2∈(Zj i c e).ord:=by
 have hn:=h.nu e.2.2 h0 h1
 have hlt:e.2.2.toNat<c.num.length:=by rw[h.nl];omega
 unfold Zj
 by_cases hm:e.2.2∈c.ord
 ·rw[if_pos hm] at hn
  rw[if_neg (by rw[hn];omega)]
  refine ⟨h,⟨[],by simp⟩,rfl,?_,hm⟩
  simp only[cnF]
  rw[hn]
 ·rw[if_neg hm] at hn
  rw[if_pos (by rw[hn];decide)]
  have hidx:(c.ord++[e.2.2]).idxOf e.2.2=c.ord.length:=by rw[List.idxOf_append,if_neg hm];simp
  refine ⟨⟨Jn h.nd hm,λs hs=>?_,by simp[h.nl],λk k0 k1=>?_⟩,⟨[e.2.2],rfl⟩,rfl,?_,by simp⟩
  ·rcases List.mem_append.1 hs with hs | hs
   ·exact h.bd s hs
   ·simp only[List.mem_singleton] at hs;subst hs;exact ⟨h0,h1⟩
  ·simp only[]
   by_cases ek:k=e.2.2
   ·subst ek
    rw[if_pos (by simp),hidx]
    unfold Zq
    simp[List.getD,List.getElem?_set_self hlt]
   ·have hne:e.2.2.toNat≠k.toNat:=by omega
    have e1:Zq (c.num.set e.2.2.toNat c.ord.length) k=Zq c.num k:=by unfold Zq;simp[List.getD,List.getElem?_set_ne hne]
    rw[e1,h.nu k k0 k1]
    by_cases hk:k∈c.ord
    ·rw[if_pos hk,if_pos (List.mem_append_left _ hk),List.idxOf_append,if_pos hk]
    ·rw[if_neg hk,if_neg (λhmm=>by
      rcases List.mem_append.1 hmm with h2 | h2
      ·exact hk h2
      ·simp only[List.mem_singleton] at h2;exact ek h2)]
  ·simp only[cnF]
   rw[hidx]
theorem UD {st:Int}{i:Nat}:∀(es:List Ed) (c:Cs),NuI st c.ord c.num→(∀e∈es,0≤e.2.2∧e.2.2<st)→NuI st (es.foldl (Zj i) c).ord (es.foldl (Zj i) c).num∧(∃r,(es.foldl (Zj i) c).ord=c.ord++r)∧(es.foldl (Zj i) c).mk'=c.mk' ∧
  (es.foldl (Zj i) c).ed=c.ed++es.map (cnF (es.foldl (Zj i) c).ord i)∧∀e∈es,e.2.2∈(es.foldl (Zj i) c).ord
 | [],c,h,_=>⟨h,⟨[],by simp⟩,rfl,by simp,λe he=>by cases he⟩
 | e::es,c,h,hb=>by
  obtain ⟨b0,b1⟩:=hb e List.mem_cons_self
  obtain ⟨h1,⟨r1,h2⟩,h3,h4,h5⟩:=Qa5 (i:=i) h b0 b1
  obtain ⟨k1,⟨r2,k2⟩,k3,k4,k5⟩:=UD (i:=i) es (Zj i c e) h1 (λd hd=>hb d (List.mem_cons_of_mem _ hd))
  rw[List.foldl_cons]
  refine ⟨k1,⟨r1++r2,by rw[k2,h2,List.append_assoc]⟩,k3.trans h3,?_,λd hd=>?_⟩
  ·rw[k4,h4,List.append_assoc,List.map_cons]
   have:cnF (Zj i c e).ord i e=cnF (es.foldl (Zj i) (Zj i c e)).ord i e:=by
    unfold cnF
    rw[k2,List.idxOf_append,if_pos h5]
   rw[this];rfl
  ·rcases List.mem_cons.1 hd with rfl | hd
   ·rw[k2];exact List.mem_append_left _ h5
   ·exact k5 d hd
structure CnG (a:QM) (i:Nat) (c:Cs):Prop where
 nu:NuI a.st c.ord c.num
 le:i≤c.ord.length
 hd:Zq c.ord 0=0∧0<c.ord.length
 mk2:c.mk'=((List.range' 0 i).filter λj:Nat=>decide (Zq c.ord j∈a.mr)).map λj:Nat=>(j:Int)
 ed:c.ed=(List.range' 0 i).flatMap (y7 a c.ord)
 cl:∀j,j<i→∀e∈ZF a.ed (Zq c.ord j),e.2.2∈c.ord
theorem Qiu {a:QM}{ord r:LI}{j:Nat}(hj:j<ord.length) (hc:∀e∈ZF a.ed (Zq ord j),e.2.2∈ord):y7 a (ord++r) j=y7 a ord j:=by
 unfold y7
 rw[Qae hj]
 refine List.map_congr_left λe he=>?_
 unfold cnF
 rw[List.idxOf_append,if_pos (hc e he)]
theorem CnG.next {a:QM}(ho:Q2 a) {i:Nat}{c:Cs}(h:CnG a i c) (hi:i<c.ord.length):CnG a (i+1) (qY a i c):=by
 unfold qY
 have hmo:(ZR a i c).ord=c.ord:=by unfold ZR;split <;> rfl
 have hmn:(ZR a i c).num=c.num:=by unfold ZR;split <;> rfl
 have hme:(ZR a i c).ed=c.ed:=by unfold ZR;split <;> rfl
 obtain ⟨k1,⟨r,k2⟩,k3,k4,k5⟩:=UD (st:=a.st) (i:=i) (ZF a.ed (Zq c.ord i)) (ZR a i c) (by rw[hmo,hmn];exact h.nu) (λe he=>(ho.ed e (Yi he).1).2.2.2)
 generalize (ZF a.ed (Zq c.ord i)).foldl (Zj i) (ZR a i c)=d at k1 k2 k3 k4 k5
 rw[hmo] at k2
 rw[hme] at k4
 have pre:∀j:Nat,j≤i→Zq d.ord j=Zq c.ord j:=λj hj=>by rw[k2];exact Qae (by omega)
 refine ⟨k1,by rw[k2];simp;omega,⟨by have:=pre 0 (by omega);rw[show ((0:Nat):Int)=0 from rfl] at this;rw[this];exact h.hd.1,by rw[k2];simp;omega⟩,?_,?_,λj hj=>?_⟩
 ·rw[k3,List.range'_1_concat,List.filter_append,List.map_append,Nat.zero_add]
  have e1:((List.range' 0 i).filter λj:Nat=>decide (Zq d.ord j∈a.mr))=(List.range' 0 i).filter λj:Nat=>decide (Zq c.ord j∈a.mr):=by
   refine List.filter_congr λj hj=>?_
   rw[List.mem_range'_1] at hj
   rw[pre j (by omega)]
  rw[e1]
  unfold ZR
  by_cases hm:Zq c.ord i∈a.mr
  ·rw[if_pos hm]
   simp only[]
   rw[List.filter_cons,if_pos (by rw[pre i (Nat.le_refl _)];exact decide_eq_true hm),List.filter_nil,h.mk2];rfl
  ·rw[if_neg hm]
   rw[List.filter_cons,if_neg (by rw[pre i (Nat.le_refl _),decide_eq_false hm];simp),List.filter_nil,h.mk2];simp
 ·rw[k4,List.range'_1_concat,List.flatMap_append,Nat.zero_add,h.ed]
  congr 1
  ·refine Xy λj hj=>?_
   rw[List.mem_range'_1] at hj
   rw[k2]
   exact (Qiu (by omega) (h.cl j (by omega))).symm
  ·simp only[List.flatMap_cons,List.flatMap_nil,List.append_nil]
   unfold y7
   rw[pre i (Nat.le_refl _)]
 ·by_cases e:j=i
  ·subst e;rw[pre j (Nat.le_refl _)];exact k5
  ·intro d' hd'
   rw[pre j (by omega)] at hd'
   rw[k2];exact List.mem_append_left _ (h.cl j (by omega) d' hd')
theorem zW {a:QM}(ho:Q2 a):∀(f i:Nat) (c:Cs),CnG a i c→∃i',CnG a i' (XB a f i c)∧((XB a f i c).ord.length=i'∨i'=i+f)
 | 0,i,c,h=>⟨i,h,.inr rfl⟩
 | f+1,i,c,h=>by
  rw[XB]
  split
  ·rename_i hi
   obtain ⟨i',h1,h2⟩:=zW ho f (i+1) _ (h.next ho hi)
   exact ⟨i',h1,by omega⟩
  ·exact ⟨i,h,.inl (by have:=h.le;omega)⟩
structure CnP (a:QM) (ord:LI):Prop where
 nd:ord.Nodup
 bd:∀s∈ord,0≤s∧s<a.st
 hd:Zq ord 0=0∧0<ord.length
 al:(YL a).al=a.al
 st:(YL a).st=(ord.length:Int)
 mk2:(YL a).mr=((List.range' 0 ord.length).filter λj:Nat=>decide (Zq ord j∈a.mr)).map λj:Nat=>(j:Int)
 ed:(YL a).ed=(List.range' 0 ord.length).flatMap (y7 a ord)
 cl:∀j,j<ord.length→∀e∈ZF a.ed (Zq ord j),e.2.2∈ord
theorem zY {a:QM}(ho:Q2 a) (h0:0<a.st):∃ord,CnP a ord:=by
 have hpos:0<a.st.toNat:=by omega
 have hI:CnG a 0 (Yf a):=by
  refine ⟨⟨by simp[Yf],λs hs=>by simp[Yf] at hs;subst hs;omega,by simp[Yf],λk k0 k1=>?_⟩,Nat.zero_le _,⟨by simp[Yf,Zq],by simp[Yf]⟩,by simp[Yf],by simp[Yf],λj hj=>by omega⟩
  by_cases ek:k=0
  ·subst ek
   rw[if_pos (by simp[Yf])]
   unfold Zq Yf
   simp[List.getD,hpos]
  ·rw[if_neg (by simpa[Yf] using ek)]
   unfold Yf
   have hne:0≠k.toNat:=by omega
   have hlt:k.toNat<a.st.toNat:=by omega
   unfold Zq
   rw[List.getD_eq_getElem?_getD,List.getElem?_set_ne hne]
   simp[hlt]
 obtain ⟨i',h1,h2⟩:=zW ho a.st.toNat 0 (Yf a) hI
 have hlen:(XB a a.st.toNat 0 (Yf a)).ord.length≤a.st.toNat:=pig _ _ h1.nu.nd (λx hx=>by have:=h1.nu.bd x hx;omega)
 have hi':i'=(XB a a.st.toNat 0 (Yf a)).ord.length:=by have:=h1.le;omega
 subst hi'
 have hcan:YL a=⟨a.al,((XB a a.st.toNat 0 (Yf a)).ord.length:Int),(XB a a.st.toNat 0 (Yf a)).mk',(XB a a.st.toNat 0 (Yf a)).ed⟩:=by unfold YL;rw[if_neg (by omega)]
 refine ⟨(XB a a.st.toNat 0 (Yf a)).ord,h1.nu.nd,h1.nu.bd,h1.hd,by rw[hcan],by rw[hcan],?_,?_,h1.cl⟩
 ·rw[hcan];exact h1.mk2
 ·rw[hcan];exact h1.ed
theorem Qf1 (es:List Ed) (s v:Int):eget es s v=eget (ZF es s) s v:=by
 induction es with
 | nil=>rfl
 | cons e es ih =>
  unfold ZF at *
  rw[List.filter_cons]
  by_cases h:e.1=s
  ·rw[if_pos (by simpa using h),eget,eget,ih]
  ·rw[if_neg (by simpa using h),eget,if_neg (λc=>h c.1),ih]
theorem Qf2 {a:QM}{ord:LI}{j:Nat}(v:Int):eget (y7 a ord j) j v=(eget a.ed (Zq ord j) v).map λu=>(ord.idxOf u:Int):=by
 rw[Qf1 a.ed]
 unfold y7
 have key:∀(l:List Ed),(∀e∈l,e.1=Zq ord j)→eget (l.map (cnF ord j)) j v=(eget l (Zq ord j) v).map λu=>(ord.idxOf u:Int):=by
  intro l
  induction l with
  | nil=>intro _;rfl
  | cons e l ih =>
   intro hl
   rw[List.map_cons,eget,eget]
   have he:=hl e List.mem_cons_self
   by_cases hv:e.2.1=v
   ·rw[if_pos ⟨rfl,hv⟩,if_pos ⟨he,hv⟩];rfl
   ·rw[if_neg (λc=>hv c.2),if_neg (λc=>hv c.2)]
    exact ih (λd hd=>hl d (List.mem_cons_of_mem _ hd))
 exact key _ (λe he=>(Yi he).2)
theorem Qbt {a:QM}{ord:LI}{j i:Nat}(h:j≠i) (v:Int):eget (y7 a ord j) i v=none:=by
 refine Jf λe he h2=>?_
 unfold y7 at he
 obtain ⟨d,_,rfl⟩:=List.mem_map.1 he
 have:(j:Int)=i:=h2.1
 omega
theorem CnP.step {a:QM}{ord:LI}(h:CnP a ord) {j:Nat}(hj:j<ord.length) (v:Int):eget (YL a).ed j v=(eget a.ed (Zq ord j) v).map λu=>(ord.idxOf u:Int):=by
 rw[h.ed]
 have key:∀n,j<n→eget ((List.range' 0 n).flatMap (y7 a ord)) j v=eget (y7 a ord j) j v:=by
  intro n
  induction n with
  | zero=>intro h;omega
  | succ n ih =>
   intro hn
   rw[List.range'_1_concat,List.flatMap_append,Nat.zero_add,V7]
   simp only[List.flatMap_cons,List.flatMap_nil,List.append_nil]
   by_cases e:j=n
   ·subst e
    have:eget ((List.range' 0 j).flatMap (y7 a ord)) j v=none:=Jf λd hd h2=>by
     obtain ⟨k,hk,hd2⟩:=List.mem_flatMap.1 hd
     rw[List.mem_range'_1] at hk
     unfold y7 at hd2
     obtain ⟨d',_,rfl⟩:=List.mem_map.1 hd2
     have:(k:Int)=j:=h2.1
     omega
    rw[this]
   ·rw[ih (by omega),Qbt (Ne.symm e)]
    cases eget (y7 a ord j) j v <;> rfl
 rw[key _ hj]
 exact Qf2 v
section
variable {p s:QM} {pn xn v:Int}
theorem Qha (hv:v∈p.al) (h:eget p.ed pn v=none):Zu v [p,s] [pn,xn]=none:=by rw[Zu,if_neg (λe=>e hv),h]
theorem Qg9 (hv:v∈p.al) {p':Int}(h:eget p.ed pn v=some p') (hs:v∈s.al) (h2:eget s.ed xn v=none):Zu v [p,s] [pn,xn]=none:=by
 rw[Zu,if_neg (λe=>e hv),h];simp only[];rw[Zu,if_neg (λe=>e hs),h2];rfl
theorem Qg8 (hv:v∈p.al) {p' x':Int}(h:eget p.ed pn v=some p') (hs:v∈s.al) (h2:eget s.ed xn v=some x'):Zu v [p,s] [pn,xn]=some [p',x']:=by
 rw[Zu,if_neg (λe=>e hv),h];simp only[];rw[Zu,if_neg (λe=>e hs),h2];rfl
end
section
variable {s:QM} {l:List K3} {n:Nat}
end
theorem QdK {a:QM}(ho:Q2 a):Q2 (YL a):=by
 have h0:=ho.st0
 have h1:=ho.st1
 by_cases hz:a.st=0
 ·unfold YL
  rw[if_pos hz]
  exact ⟨ho.al,ho.ali,by simp,by simp,by simp,by simp,by simp,by simp⟩
 ·obtain ⟨ord,h⟩:=zY ho (by omega)
  have hl:ord.length≤a.st.toNat:=pig _ _ h.nd (λx hx=>by have:=h.bd x hx;omega)
  refine ⟨by rw[h.al];exact ho.al,by rw[h.al];exact ho.ali,by rw[h.st];omega,by rw[h.st];omega,λs hs=>?_,?_,λe he=>?_,?_⟩
  ·rw[h.mk2] at hs
   simp only[List.mem_map,List.mem_filter,List.mem_range'_1] at hs
   obtain ⟨i,⟨hi,_⟩,rfl⟩:=hs
   rw[h.st];omega
  ·rw[h.mk2]
   unfold Yt
   rw[List.pairwise_map]
   refine List.Pairwise.sublist List.filter_sublist ?_
   exact (List.pairwise_lt_range' (s:=0) (n:=ord.length)).imp (λh=>by omega)
  ·rw[h.ed] at he
   obtain ⟨j,hj,hd⟩:=List.mem_flatMap.1 he
   rw[List.mem_range'_1] at hj
   unfold y7 at hd
   obtain ⟨d,hd2,rfl⟩:=List.mem_map.1 hd
   have hm:=h.cl j (by omega) d hd2
   have:=List.idxOf_lt_length_of_mem hm
   have hda:=(ho.ed d (Yi hd2).1).2.2.1
   rw[h.st,h.al]
   unfold cnF
   exact ⟨by simp only[];omega,by simp only[];omega,hda,by simp only[];omega,by simp only[];omega⟩
  ·rw[h.ed]
   have key:∀n,((List.range' 0 n).flatMap (y7 a ord)).Pairwise λx y:Ed=>x.1<y.1∨(x.1=y.1∧x.2.1<y.2.1):=by
    intro n
    induction n with
    | zero=>simp
    | succ n ih =>
     rw[List.range'_1_concat,List.flatMap_append,Nat.zero_add,List.pairwise_append]
     refine ⟨ih,?_,λx hx y hy=>?_⟩
     ·simp only[List.flatMap_cons,List.flatMap_nil,List.append_nil]
      unfold y7
      rw[List.pairwise_map]
      have h2:(ZF a.ed (Zq ord n)).Pairwise λx y:Ed=>x.1<y.1∨(x.1=y.1∧x.2.1<y.2.1):=List.Pairwise.sublist List.filter_sublist ho.edi
      refine List.Pairwise.imp_of_mem (λ{x y} hx hy hxy=>?_) h2
      have e1:=(Yi hx).2
      have e2:=(Yi hy).2
      right
      exact ⟨rfl,by show x.2.1<y.2.1;omega⟩
     ·obtain ⟨j,hj,hx2⟩:=List.mem_flatMap.1 hx
      rw[List.mem_range'_1] at hj
      simp only[List.flatMap_cons,List.flatMap_nil,List.append_nil] at hy
      unfold y7 at hx2 hy
      obtain ⟨d,_,rfl⟩:=List.mem_map.1 hx2
      obtain ⟨d',_,rfl⟩:=List.mem_map.1 hy
      left
      show (j:Int)<(n:Int)
      omega
   exact key _
theorem Qdo {a:QM}(ho:Q2 a):Q2 ⟨a.al,0,[],[]⟩ :=
 ⟨ho.al,ho.ali,Int.le_refl _,(by decide:(0:Int)≤4096),(λs hs=>by cases hs),List.Pairwise.nil,(λe he=>by cases he),List.Pairwise.nil⟩
theorem VG {a:QM}(ho:Q2 a) (lf:Lf):Q2 (JH a lf):=by
 unfold JH
 split
 ·exact Qdo ho
 ·exact QdK (J8 ho lf)
theorem ju {c:ZB}(h:suE c=0):Q2 (Un c):=VG (Qes h).1 _
theorem Qe8 {c:ZB}{m:Mdl}(h:msE c m=0):Q2 (msA c m):=by
 have h1:msE c m=if mcE c m≠0 then mcE c m else suE (mcC c m):=rfl
 rw[h1] at h
 split at h
 ·rename_i h2;exact absurd h h2
 ·exact ju h
theorem jU {c:ZB}:∀{l:List Mdl},msL c l=0→∀m∈l,msE c m=0
 | [],_,m,hm=>by cases hm
 | x::l,h,m,hm=>by
  rw[jV] at h
  by_cases h1:msE c x≠0
  ·rw[if_pos h1] at h;exact absurd h h1
  ·rw[if_neg h1] at h
   rcases List.mem_cons.1 hm with rfl | hm
   ·exact Decidable.not_not.1 h1
   ·exact jU h m hm
theorem UB {c:ZB}(h:K5 c=0):∀a∈Xr c,Q2 a:=by
 rw[Qa2] at h
 by_cases h1:Zh c≠0
 ·rw[if_pos h1] at h;exact absurd h h1
 rw[if_neg h1] at h
 have hok:=ZP (Decidable.not_not.1 h1)
 have hsl:Xr c=(mods c).map (msA c)++(rem c).map (coA c):=rfl
 intro a ha
 rw[hsl] at ha
 rcases List.mem_append.1 ha with ha | ha
 ·obtain ⟨m,hm,rfl⟩:=List.mem_map.1 ha
  exact Qe8 (jU h m hm)
 ·obtain ⟨i,hi,rfl⟩:=List.mem_map.1 ha
  have hr:=QeH i hi
  have hil:i.toNat<c.co.length:=by omega
  have e:coA c i=(c.co[i.toNat]'hil).a:=by unfold coA;simp[List.getD,hil]
  rw[e]
  exact hok.co _ (List.getElem_mem hil)
theorem Qea (c:ZB):Y9 c=if K5 c≠0 then K5 c else XG (Xr c):=rfl
theorem QbY {c:ZB}(h:Y9 c=0):K5 c=0∧XG (Xr c)=0:=by
 rw[Qea] at h
 by_cases h1:K5 c≠0
 ·rw[if_pos h1] at h;exact absurd h h1
 ·rw[if_neg h1] at h;exact ⟨Decidable.not_not.1 h1,h⟩
theorem Qg4 {l:List QM}(h:XG l=0):sync l=some (syA l,syQ l)∧JB l=0:=by
 unfold XG at h
 by_cases h1:JB l≠0
 ·rw[if_pos h1] at h;exact absurd h h1
 ·rw[if_neg h1] at h
  refine ⟨?_,Decidable.not_not.1 h1⟩
  unfold syA syQ
  cases hs:sync l with
  | none=>rw[hs] at h;cases h
  | some z=>rfl
theorem Jk {c:ZB}(h:Y9 c=0):SyP (Xr c) (YI c) (tgQ c)∧Q2 (YI c):=by
 obtain ⟨h1,h2⟩:=QbY h
 have ho:=UB h1
 have hs:=(Xk ho (Qg4 h2).1).1
 exact ⟨hs,SyP.okay ho hs⟩
structure TmV where
 vl:Value
 va:Value
 vm:Value
 ve:Value
 vt:Value
 A:QM
 ps:List AV
 qs:List TV
abbrev XK (t:TmV):LV:=[t.vl,t.va,.int .i64 t.A.st,t.vm,t.ve,t.vt]
structure qI (L:LN) (H:Array Obj) (t:TmV):Prop where
 l:YG L H t.vl t.ps
 a:Zm L H t.va t.vm t.ve t.A
 q:XD L H t.vt t.qs
theorem qI.ext {L:LN}{w w':World}{t:TmV}(h:qI L w.heap t) (hs:Step [] w w'):qI L w'.heap t:=⟨h.l.ext hs,h.a.ext hs,h.q.ext hs⟩
theorem qI.st {L:LN}{w w':World}{t:TmV}(h:qI L w.heap t) (hs:Step L w w'):qI L w'.heap t:=⟨h.l.st hs,h.a.st hs,h.q.st hs⟩
theorem qI.up {L L':LN}{H:Array Obj}{t:TmV}(h:qI L H t) (hL:∀b∈L',b∈L∨H.size≤b):qI L' H t:=⟨h.l.up hL,h.a.up hL,h.q.up hL⟩
structure Qll (c:ZB) (t:TmV):Prop where
 A:t.A=YI c
 l:t.ps.map (·.a)=Xr c
 q:t.qs.map (·.2)=tgQ c
instance:Bw prog 111 [nS,nS,.int .i64 0,nS,nS,nS] [(0,1),(1,4),(5,1)]:=⟨by kernel_rfl,by decide⟩
abbrev qZ:LV:=[nS,nS,.int .i64 0,nS,nS,nS]
set_option maxHeartbeats 4000000 in
theorem Jb {L:LN}{w:World}{c:CL}(h0:ZH L w.heap c) (hkb:Kb w 4096) :
  QG prog 39 [c.val] w λr w'=>Step [] w w'∧∃us,r=.tuple #[.agg us.toArray,.int .i64 (Y9 c.cel)]∧us.length=6∧ZD us∧(Y9 c.cel=0→∃t,us=XK t∧Qll c.cel t∧∀L:LN,(∀b∈L,b<w.heap.size)→qI L w'.heap t):=by
 have h:=h0.up (L':=[]) (by simp)
 have htg:=Qea c.cel
 refine Zc (Y9 c.cel) λE hE=>?_
 rw[hE] at htg ⊢
 refine QG.of_W func39 rfl ntmps39 results39 (by simp) ?_
 refine Qc<|xl rfl<|QQ (us:=c.cells) rfl λb1 w1 hs1 hb1 hB1=>xl rfl<|Qr (us:=qZ) rfl λb2 w2 hs2 hb2 hB2=>Qf ?_
 have hs02:=hs1.trans hs2
 have hz1:=hs1.size
 have hz2:=hs2.size
 have hl2:=hB2.lt
 refine Qc<|x (Qn (hB1.ext hs2) rfl rfl)<|xl rfl<|xf<|(J0 (h.ext hs02) (hkb.ext hs02)).mono ?_
 rintro r3 w3 ⟨hs3,vl,rfl,hbad,hgood⟩
 refine Qb<|x (Qj rfl rfl)<|x (Qj rfl rfl)<|x Qe<|Qf ?_
 have hs03:=hs02.trans hs3
 have hz3:=hs3.size
 have hB23:=hB2.ext hs3
 refine Qg<|Qc<|Qb<|x (Q4 rfl rfl)<|xe ?_
 refine Q3 rfl (λh14=>?_) (λh14=>?_)
 ·rw[if_pos h14] at htg
  subst htg
  refine Qc<|x (Zx [] trivial)<|Qb<|xl rfl<|Ql (us:=qZ) hB23 rfl rfl rfl rfl ⟨rfl,rfl,rfl,rfl,rfl,rfl,trivial⟩ λw4 hs4 hB24=>Qf ?_
  exact Qk ⟨[.agg qZ.toArray,.int .i64 (K5 c.cel)],⟨⟨_,rfl,Qv rfl (hB24.at (L:=[]) (by simp)).cells⟩,rfl,trivial⟩,hs03.then1 hs4 (by omega),qZ,rfl,rfl,⟨rfl,rfl,rfl,rfl,rfl,rfl,trivial⟩,λh0=>absurd h0 h14⟩
 rw[if_neg h14] at htg
 subst htg
 have hsv:=Decidable.not_not.1 h14
 obtain ⟨hv1,ps,hps,hpA⟩:=hgood hsv
 have hok:∀p∈ps,Q2 p.a:=λp hp=>UB hsv p.a (by rw[←hps];exact List.mem_map_of_mem hp)
 refine Qi<|Qc<|Qb<|xl rfl<|xf<|(VA (km:=4096) (hpA [] (by simp)) (hkb.ext hs03) (by decide) (Ur hok)).mono ?_
 rintro r5 w5 ⟨hs5,vA,vt,e,rfl,hR⟩
 rw[hps] at hR
 have he:=hR.e
 subst he
 have hsh:∃us,vA=.agg us.toArray∧us.length=4∧ZD us:=by
  by_cases he:XG (Xr c.cel)=0
  ·exact YH (hR.good he).1
  ·exact ⟨[nS,.int .i64 0,nS,nS],(hR.bad he).1,rfl,rfl,rfl,rfl,rfl,trivial⟩
 have hvt:vt.oneCell'=true:=by
  by_cases he:XG (Xr c.cel)=0
  ·obtain ⟨qs,_,hq⟩:=(hR.good he).2.1
   exact (hq [] (by simp)).arr.one
  ·rw[(hR.bad he).2];rfl
 obtain ⟨us,hva,hul,huo⟩:=hsh
 subst hva
 obtain ⟨u0,u1,u2,u3,rfl⟩:∃u0 u1 u2 u3,us=[u0,u1,u2,u3]:=by
  match us,hul with
  | [u0,u1,u2,u3],_=>exact ⟨u0,u1,u2,u3,rfl⟩
 have hz5:=hs5.size
 refine Qb<|x (Qj rfl rfl)<|x (Qj rfl rfl)<|x (Qj rfl rfl)<|xl rfl<|Qr (us:=[nS,.int .i64 0,nS,nS]) rfl λb6 w6 hs6 hb6 hB6=>xl rfl<|Ql (us:=[u0,u1,u2,u3]) hB6 rfl rfl rfl rfl huo λw7 hs7 hB67 =>
  x Qe<|Qf ?_
 have hs57:Step [] w5 w7:=hs6.then1 hs7 hb6
 have hs37:=hs5.trans hs57
 have hones:ZD [vl,u0,u1,u2,u3,vt]:=⟨hv1,huo.1,huo.2.1,huo.2.2.1,huo.2.2.2.1,hvt,trivial⟩
 refine Qc<|Qb<|x (Qn hB67 rfl rfl)<|Qb<|x (Zx [(0,[vl]),(1,[u0,u1,u2,u3]),(2,[vt])] ⟨Xl hv1,rfl,rfl,rfl,Xl hvt,rfl,trivial⟩)<|Qb<|xl rfl<|Ql (us:=[vl,u0,u1,u2,u3,vt]) (hB23.ext hs37) rfl rfl rfl rfl hones λw8 hs8 hB28 =>
  Qf<|Qk ⟨[.agg [vl,u0,u1,u2,u3,vt].toArray,.int .i64 (XG (Xr c.cel))],⟨⟨_,rfl,Qv rfl (hB28.at (L:=[]) (by simp)).cells⟩,rfl,trivial⟩,(hs03.trans hs37).then1 hs8 (by omega),[vl,u0,u1,u2,u3,vt],rfl,rfl,hones,λhe=>?_⟩
 obtain ⟨⟨va,vm,ve,hv,hA⟩,⟨qs,hqs,hQ⟩,_⟩:=hR.good he
 have hv':u0=va∧u1=.int .i64 (syA (Xr c.cel)).st∧u2=vm∧u3=ve:=by
  have e1:=Value.agg.inj hv
  simpa using e1
 obtain ⟨rfl,rfl,rfl,rfl⟩:=hv'
 refine ⟨⟨vl,u0,u2,u3,vt,YI c.cel,ps,qs⟩,rfl,⟨rfl,hps,hqs⟩,λL hL=>?_⟩
 have hL2:∀b∈b2::L,b<w3.heap.size:=λb hb=>by
  rcases List.mem_cons.1 hb with rfl | hb
  ·omega
  ·have:=hL b hb;omega
 have hL3:∀b∈L,b<w2.heap.size:=λb hb=>by have:=hL b hb;omega
 have hL2':∀b∈b2::L,b<w2.heap.size:=λb hb=>by
  rcases List.mem_cons.1 hb with rfl | hb
  ·exact hl2
  ·exact hL3 b hb
 have t1:qI (b2::L) w7.heap ⟨vl,u0,u2,u3,vt,YI c.cel,ps,qs⟩:=⟨((hpA (b2::L) hL2').ext hs37),(hA (b2::L) hL2).ext hs57,(hQ (b2::L) hL2).ext hs57⟩
 exact (t1.st (hs8.mono (by simp))).up (λb hb=>.inl (by simp[hb]))
theorem U5 {A:QM}(ho:Q2 A) {aa:List QM}{Q:List (LI)}(h:SyP aa A Q) {u:LI}(hg:gens A u=true):Qez A 0 u=0∧∃j:Nat,j<Q.length∧(flw A 0 u).1=(j:Int):=by
 obtain ⟨j,hj,hf,_⟩:=Qh3 ho h hg
 have h1:=QfH ho u 0 (by rw[hf])
 have hst:=h.st
 refine ⟨?_,j,hj,by rw[hf]⟩
 have hck:cks A 0=0:=by
  unfold cks
  rw[if_neg (by simpa using (Zs A).2 ho),if_neg (by omega)]
 unfold Qez
 rw[if_neg (by simpa using hck),if_neg]
 intro h2
 obtain ⟨e,he,h3⟩:=List.any_eq_true.1 h2
 exact of_decide_eq_true h3 (h1 e he)
theorem zF {w:World}{t:TmV}{c:ZB}{vw:Value}{u:LI}(hT:qI [] w.heap t) (hok:Qll c t) (he:Y9 c=0) (hu:QL [] w.heap vw u) :
  QG prog 40 [.agg (XK t).toArray,vw] w λr w'=>Step [] w w'∧r=.tuple #[.int .i64 (if gens (YI c) u=true then (flw (YI c) 0 u).1 else 0),.bool (gens (YI c) u)]:=by
 obtain ⟨hsy,hoA⟩:=Jk he
 refine QG.of_W func40 rfl ntmps40 results40 (by simp) ?_
 refine Qc<|xl rfl<|QQ (us:=XK t) rfl λb2 w1 hs1 hb2 hB2=>x Qe<|Qf<|Qg<|Qc<|x (Qa rfl)<|x (Zv (us:=[t.va,.int .i64 t.A.st,t.vm,t.ve]) hB2 rfl rfl rfl)<|Qb<|xl rfl<|xf<|(jf (hT.a.ext hs1) (hu.ext hs1)).mono ?_
 rintro r2 w2 ⟨rfl,hs2⟩
 refine Qb<|x (Qj rfl rfl)<|x (Qj rfl rfl)<|x Qe<|Qf ?_
 have hs02:=hs1.trans hs2
 rw[←hok.A]
 refine Qc<|Qb<|x (Zp rfl)<|xe ?_
 refine QY rfl (λh19=>?_) (λh19=>?_)
 ·have hg:gens t.A u=false:=by simpa using h19
  refine Qc<|x Qe<|Qf ?_
  exact Qk ⟨[.int .i64 0,.bool false],⟨rfl,rfl,trivial⟩,hs02,by rw[hg];rfl⟩
 have hg:gens t.A u=true:=by simpa using h19
 obtain ⟨hrun,_⟩:=U5 (A:=t.A) (by rw[hok.A];exact hoA) (by rw[hok.A];exact hsy) hg
 refine Qi<|Qc<|x (Qa rfl)<|x (Zv (us:=[t.va,.int .i64 t.A.st,t.vm,t.ve]) (hB2.ext hs2) rfl rfl rfl)<|Qb<|xl rfl<|xf<|(Qki (hT.a.ext hs02) (hu.ext hs02) 0).mono ?_
 rintro r3 w3 ⟨hs3,hr3⟩
 rw[if_neg (by simpa using hrun)] at hr3
 subst hr3
 refine Qb<|x (Qj rfl rfl)<|x (Qj rfl rfl)<|x (Qj rfl rfl)<|x Qe<|x Qe<|Qf<|Qc<|Qb<|x Qe<|Qf ?_
 exact Qk ⟨[.int .i64 (flw t.A 0 u).1,.bool true],⟨rfl,rfl,trivial⟩,hs02.trans hs3,by rw[hg];rfl⟩
def pmE (c:ZB) (u:LI):Int:=if Y9 c≠0 then Y9 c else if gens (YI c) u=true then 0 else 10
def pmL (c:ZB) (u:LI):LI:=enb (YI c) (flw (YI c) 0 u).1
theorem jc {L:LN}{w:World}{c:CL}{vw:Value}{u:LI}(h0:ZH L w.heap c) (hu0:QL L w.heap vw u) (hkb:Kb w 4096) :
  QG prog 11 [c.val,vw] w λr w'=>Step [] w w'∧∃v,r=.tuple #[v,.int .i64 (pmE c.cel u)]∧(pmE c.cel u≠0→v=Zf)∧(pmE c.cel u=0→Qt 3 w.heap.size w' v (pmL c.cel u)):=by
 have h:=h0.up (L':=[]) (by simp)
 have hu:=hu0.up (L':=[]) (by simp)
 have hp:pmE c.cel u=if Y9 c.cel≠0 then Y9 c.cel else if gens (YI c.cel) u=true then 0 else 10:=rfl
 refine Zc (pmE c.cel u) λE hE=>?_
 rw[hE] at hp ⊢
 refine QG.of_W func11 rfl ntmps11 results11 (by simp) ?_
 refine Qc<|xl rfl<|QQ (us:=c.cells) rfl λb2 w1 hs1 hb2 hB2=>x Qe<|Qf<|Qc<|x (Qn hB2 rfl rfl)<|xl rfl<|xf<|(Jb (h.ext hs1) (hkb.ext hs1)).mono ?_
 rintro r2 w2 ⟨hs2,us,rfl,hul,huo,hgood⟩
 refine Qb<|x (Qj rfl rfl)<|x (Qj rfl rfl)<|xl rfl<|Qr (us:=qZ) rfl λb6 w3 hs3 hb6 hB6=>xl rfl<|Ql (us:=us) hB6 rfl rfl hul rfl huo λw4 hs4 hB64 =>
  Qf ?_
 have hs24:Step [] w2 w4:=hs3.then1 hs4 hb6
 have hs04:=(hs1.trans hs2).trans hs24
 refine Qg<|Qc<|Qb<|x (Q4 rfl rfl)<|xe ?_
 refine Q3 rfl (λh16=>?_) (λh16=>?_)
 ·rw[if_pos h16] at hp
  subst hp
  refine Qc<|Qb<|x Qe<|Qf ?_
  exact Qk ⟨[Zf,.int .i64 (Y9 c.cel)],⟨rfl,rfl,trivial⟩,hs04,Zf,rfl,λ_=>rfl,λh0=>absurd h0 h16⟩
 rw[if_neg h16] at hp
 have he:=Decidable.not_not.1 h16
 obtain ⟨t,ht,hok,hT⟩:=hgood he
 subst ht
 have hT4:qI [] w4.heap t:=(hT [] (by simp)).ext hs24
 refine Qi<|Qc<|x (Qn hB64 rfl rfl)<|Qb<|xl rfl<|xf<|(zF hT4 hok he (hu.ext hs04)).mono ?_
 rintro r5 w5 ⟨hs5,rfl⟩
 refine Qb<|x (Qj rfl rfl)<|x (Qj rfl rfl)<|x Qe<|Qf ?_
 have hs05:=hs04.trans hs5
 have hz05:=hs05.size
 refine Qg<|Qc<|Qb<|x (Zp rfl)<|xe ?_
 refine QY rfl (λh25=>?_) (λh25=>?_)
 ·have hg:gens (YI c.cel) u=false:=by simpa using h25
  rw[hg,if_neg (by decide)] at hp
  subst hp
  refine Qc<|x Qe<|Qf ?_
  exact Qk ⟨[Zf,.int .i64 10],⟨rfl,rfl,trivial⟩,hs05,Zf,rfl,λ_=>rfl,λh0=>absurd h0 (by decide)⟩
 have hg:gens (YI c.cel) u=true:=by simpa using h25
 rw[if_pos hg] at hp
 subst hp
 obtain ⟨hsy,hoA⟩:=Jk he
 obtain ⟨_,j,hj,hfj⟩:=U5 hoA hsy hg
 have hst:=hsy.st
 have hcks:cks (YI c.cel) (flw (YI c.cel) 0 u).1=0:=by
  unfold cks
  rw[if_neg (by simpa using (Zs _).2 hoA),if_neg (by omega)]
 refine Qi<|Qc<|x (Qa rfl)<|x (Zv (us:=[t.va,.int .i64 t.A.st,t.vm,t.ve]) (hB64.ext hs5) rfl rfl rfl)<|Qb<|?_
 have hen:=KW (hT4.a.ext hs5) (flw (YI c.cel) 0 u).1
 rw[hok.A] at hen
 have hift:(if gens (YI c.cel) u=true then (flw (YI c.cel) 0 u).1 else 0)=(flw (YI c.cel) 0 u).1:=if_pos hg
 rw[←hok.A] at hen
 have hen':QG prog 17 [.agg #[t.va,.int .i64 t.A.st,t.vm,t.ve],.int .i64 (if gens (YI c.cel) u=true then (flw (YI c.cel) 0 u).1 else 0)] w5 λr w'=>Step [] w5 w'∧∃v,r=.tuple #[v,.int .i64 0]∧Qt 3 w5.heap.size w' v (pmL c.cel u):=by
  rw[hift]
  refine (KW (hT4.a.ext hs5) (flw (YI c.cel) 0 u).1).mono ?_
  rintro r w' ⟨a1,v,a2,a3,a4⟩
  have hcks':cks t.A (flw (YI c.cel) 0 u).1=0:=by rw[hok.A];exact hcks
  refine ⟨a1,v,by rw[a2,hcks'],?_⟩
  have:=a4 hcks'
  unfold pmL
  rw[hok.A] at this
  exact this
 refine xl rfl<|xf<|hen'.mono ?_
 rintro r6 w6 ⟨hs6,v6,rfl,ho6⟩
 refine x (Qj rfl rfl)<|x (Qj rfl rfl)<|x Qe<|Qf ?_
 exact Qk ⟨[v6,.int .i64 0],⟨rfl,rfl,trivial⟩,hs05.trans hs6,v6,rfl,λh0=>absurd rfl h0,λ_=>Zb ho6 hz05⟩
def mrT (c:ZB) (u:LI):LI:=(tgQ c).getD (flw (YI c) 0 u).1.toNat []
def mrE (c:ZB) (u:LI) (e:Int):Int:=if Y9 c≠0 then Y9 c else if gens (YI c) u=true then ckV (Xr c) (mrT c u) e else 10
def mrL (c:ZB) (u:LI) (e:Int):LI:=rfL (Xr c) (mrT c u) e
theorem yH {L:LN}{w:World}{c:CL}{vw:Value}{u:LI}(h0:ZH L w.heap c) (hu0:QL L w.heap vw u) (e:Int) (hkb:Kb w 4096) :
  QG prog 12 [c.val,vw,.int .i64 e] w λr w'=>Step [] w w'∧∃v,r=.tuple #[v,.int .i64 (mrE c.cel u e)]∧(mrE c.cel u e≠0→v=Zf)∧(mrE c.cel u e=0→Qt 3 w.heap.size w' v (mrL c.cel u e)):=by
 have h:=h0.up (L':=[]) (by simp)
 have hu:=hu0.up (L':=[]) (by simp)
 have hp:mrE c.cel u e=if Y9 c.cel≠0 then Y9 c.cel else if gens (YI c.cel) u=true then ckV (Xr c.cel) (mrT c.cel u) e else 10:=rfl
 have hml:mrL c.cel u e=rfL (Xr c.cel) (mrT c.cel u) e:=rfl
 rw[hml]
 refine Zc (mrE c.cel u e) λE hE=>?_
 rw[hE] at hp ⊢
 refine QG.of_W func12 rfl ntmps12 results12 (by simp) ?_
 refine Qc<|xl rfl<|QQ (us:=c.cells) rfl λb2 w1 hs1 hb2 hB2=>x Qe<|Qf<|Qc<|x (Qn hB2 rfl rfl)<|xl rfl<|xf<|(Jb (h.ext hs1) (hkb.ext hs1)).mono ?_
 rintro r2 w2 ⟨hs2,us,rfl,hul,huo,hgood⟩
 refine Qb<|x (Qj rfl rfl)<|x (Qj rfl rfl)<|xl rfl<|Qr (us:=qZ) rfl λb6 w3 hs3 hb6 hB6=>xl rfl<|Ql (us:=us) hB6 rfl rfl hul rfl huo λw4 hs4 hB64 =>
  Qf ?_
 have hs24:Step [] w2 w4:=hs3.then1 hs4 hb6
 have hs04:=(hs1.trans hs2).trans hs24
 refine Qg<|Qc<|Qb<|x (Q4 rfl rfl)<|xe ?_
 refine Q3 rfl (λh16=>?_) (λh16=>?_)
 ·rw[if_pos h16] at hp
  subst hp
  refine Qc<|Qb<|x Qe<|Qf ?_
  exact Qk ⟨[Zf,.int .i64 (Y9 c.cel)],⟨rfl,rfl,trivial⟩,hs04,Zf,rfl,λ_=>rfl,λh0=>absurd h0 h16⟩
 rw[if_neg h16] at hp
 have he:=Decidable.not_not.1 h16
 obtain ⟨t,ht,hok,hT⟩:=hgood he
 subst ht
 have hT4:qI [] w4.heap t:=(hT [] (by simp)).ext hs24
 refine Qi<|Qc<|x (Qn hB64 rfl rfl)<|Qb<|xl rfl<|xf<|(zF hT4 hok he (hu.ext hs04)).mono ?_
 rintro r5 w5 ⟨hs5,rfl⟩
 refine Qb<|x (Qj rfl rfl)<|x (Qj rfl rfl)<|x Qe<|Qf ?_
 have hs05:=hs04.trans hs5
 have hz05:=hs05.size
 refine Qg<|Qc<|Qb<|x (Zp rfl)<|xe ?_
 refine QY rfl (λh25=>?_) (λh25=>?_)
 ·have hg:gens (YI c.cel) u=false:=by simpa using h25
  rw[hg,if_neg (by decide)] at hp
  subst hp
  refine Qc<|x Qe<|Qf ?_
  exact Qk ⟨[Zf,.int .i64 10],⟨rfl,rfl,trivial⟩,hs05,Zf,rfl,λ_=>rfl,λh0=>absurd h0 (by decide)⟩
 have hg:gens (YI c.cel) u=true:=by simpa using h25
 rw[if_pos hg] at hp
 subst hp
 obtain ⟨hsy,hoA⟩:=Jk he
 obtain ⟨_,j,hj,hfj⟩:=U5 hoA hsy hg
 have hT5:=hT4.ext hs5
 have hB65:=hB64.ext hs5
 have hqj:j<t.qs.length:=by have:=congrArg List.length hok.q;rw[List.length_map] at this;omega
 have hift:(if gens (YI c.cel) u=true then (flw (YI c.cel) 0 u).1 else 0)=(j:Int):=by rw[if_pos hg,hfj]
 have hmt:mrT c.cel u=(t.qs[j]'hqj).2:=by
  unfold mrT
  rw[hfj,←hok.q]
  simp[List.getD,hqj]
 have hmem:=List.getElem_mem hqj
 refine Qi<|Qg<|QT (Step [] w5) [(0,true),(1,true),(2,true),(3,true),(4,true),(5,true),(6,true),(7,true),(8,false),(9,true),(10,true),(11,true),(12,true)] mixed (by rfl) (by kernel_rfl) (Step.drew _ _) ?_
 refine p (λ_=>Qa rfl)<|pq (λ_ hc=>Qd (hB65.ext hc) rfl rfl)<|p (λ_=>Qa rfl)<|pq (λ_ hc=>Qd (hB65.ext hc) rfl rfl) <|
  p (λ_=>Qo)<|Go.Lg.pig rfl (g:=Z7) (i:=j) (λ_=>rfl) hT5.q.arr rfl (congrArg (Value.int .i64) hift) hqj λa33 h33=>?_
 refine Zc (t.qs[j]'hqj) λtq htq=>?_
 rw[htq] at h33 hmt hmem
 have hd5:Step [] w5 { w5 with drawn:=w5.drawn+1 }:=Step.drew _ _
 have hTd:=hT5.ext hd5
 have hR:=yC hTd.l (hTd.q.each tq hmem) e
 rw[hok.l,←hmt] at hR
 refine pq (λ_ hc=>Qw (h33.st hc) rfl)<|p (λ_=>Qo)<|pk<|xf<|hR.mono ?_
 rintro r6 w6 ⟨hs6,v6,rfl,hbad6,hgood6⟩
 refine ⟨hd5.trans hs6,?_⟩
 refine p (λ_=>Qj rfl rfl)<|p (λ_=>Qj rfl rfl)<|p (λ_=>Qe)<|p (λ_=>Qe)<|pe ?_
 exact Qk ⟨[v6,.int .i64 (ckV (Xr c.cel) (mrT c.cel u) e)],⟨rfl,rfl,trivial⟩,(hs05.trans hd5).trans hs6,v6,rfl,hbad6,λh0=>Zb (hgood6 h0) hz05⟩
theorem QhI {w:World}{va vm ve:Value}{n:Nat}(hn:n≤4096) :
  QG prog 65 [.agg #[va,.int .i64 n,vm,ve]] w λr w'=>Step [] w w'∧Qt 3 w.heap.size w' r (Kq n):=by
  refine QG.of_W func65 rfl ntmps65 results65 (by simp) ?_
  refine Qc<|xl rfl<|QQ (us:=[va,.int .i64 n,vm,ve]) rfl λb1 w1 hs1 hb1 hB1=>Qf<|Qc<|Qf<|Qg<|Qc<|x (Qa rfl)<|x (Qd hB1 rfl rfl)<|Qb<|xe ?_
  refine Qh<|QA (α:=Nat×Value) [(3,4),(7,14)] (λz=>[(3,z.2),(7,.int .i64 z.1)]) (λz w'=>z.1≤n∧Step [] w1 w'∧Qt 3 w1.heap.size w' z.2 (Kq z.1)) (λz=>n - z.1) (by rfl) (0,nS) ⟨rfl,rfl,trivial⟩
   ⟨Nat.zero_le _,Step.refl _ _,QP _ _ _ _⟩ ?_
  rintro ⟨k,v⟩ g w2 ⟨hk,hs2,ho2⟩
  simp only[] at hk ho2
  have hl:=jT k
  have hz2:=hs2.size
  have hz1:=hs1.size
  refine Qc<|x (QB rfl rfl)<|xe ?_
  refine Qg<|QD rfl (λh8=>?_) (λh8=>?_)
  ·refine Qz ?_
   have hke:k=n:=by have h16:¬(k:Int)<(n:Int):=h8;omega
   rw[hke] at ho2
   refine Qc<|Qb<|Qf ?_
   exact Qk ⟨[v],⟨rfl,trivial⟩,hs1.trans hs2,Zb ho2 hz1⟩
  have hlt:k<n:=by have h16:(k:Int)<(n:Int):=h8;omega
  refine Qi<|Qg<|Qh<|Qc<|Qb<|Qf<|Qx<|Qb<|Qb<|xl rfl<|QH (us:=[[.int .i64 k]]) rfl rfl (by decide) (by simp) ⟨rfl,rfl,trivial⟩ λb12 w3 hs3 hb12 hB12=>?_
  have hz3:=hs3.size
  refine xl rfl<|Q5 (news:=[.int .i64 k]) (L:=[]) (Qu ho2 hs3) rfl rfl rfl (hB12.at (by simp)) (by simp[Value.oneCell']) (by omega) (by omega) λv4 w4 ho4 hs4 hn4 =>
   Qf ?_
  have hge:=Qq ho2
  refine Qx<|x (Qy rfl rfl ⟨by omega,by omega⟩)<|Qb<|xe ?_
  refine ⟨(k+1,v4),by simp only[];omega,⟨rfl,rfl,trivial⟩,hlt,(hs2.trans hs3).then hs4 (λb hb=>.inr (hge b hb).1),?_⟩
  simp only[]
  rw[zz];exact Qt.snoc ho4
theorem Qd7 {n k:Nat}(h:k<n):(Kp n).drop k=(k:Int)::(Kp n).drop (k+1):=by
 have hl:k<(Kp n).length:=by rw[yi];exact h
 rw[List.drop_eq_getElem_cons hl]
 congr 1
 simp[Kp]
theorem Qev (c:ZB) (v:Int) (l:LI):shd c (v::l)=if 2≤(ownr c v).length then some (v,cget (ownr c v) 0,cget (ownr c v) 1) else shd c l:=rfl
def shR (c:ZB):Option (Int×Int×Int):=if Zh c≠0 then none else UH c
set_option maxHeartbeats 4000000 in
theorem QdQ {L:LN}{w:World}{c:CL}(h0:ZH L w.heap c) :
  QG prog 63 [c.val] w λr w'=>Step [] w w'∧r=.tuple #[.int .i64 (Uh (shR c.cel)).1,.int .i64 (Uh (shR c.cel)).2.1,.int .i64 (Uh (shR c.cel)).2.2,.bool (shR c.cel).isSome,.int .i64 (Zh c.cel)]:=by
 have h:=h0.up (L':=[]) (by simp)
 have hsr:shR c.cel=if Zh c.cel≠0 then none else UH c.cel:=rfl
 refine Zc (Zh c.cel) λE hE=>?_
 refine Zc (shR c.cel) λS hS=>?_
 rw[hS,hE] at hsr
 rw[hS,hE]
 have hcl:=h.co.arr.le
 have hel:=h.ev.arr.le
 refine QG.of_W func63 rfl ntmps63 results63 (by simp) ?_
 refine Qc<|xl rfl<|QQ (us:=c.cells) rfl λb1 w1 hs1 hb1 hB1=>x Qe<|x Qe<|x Qe<|x Qe<|Qf<|Qg<|Qc<|x (Qn hB1 rfl rfl)<|xl rfl<|xf<|(YY (h.ext hs1)).mono ?_
 rintro r2 w2 ⟨hr2,hs2⟩
 rw[hE] at hr2
 subst hr2
 refine Qf ?_
 have hs02:=hs1.trans hs2
 have hB12:=hB1.ext hs2
 refine Qc<|Qb<|x (Q4 rfl rfl)<|xe ?_
 refine Q3 rfl (λh15=>?_) (λh15=>?_)
 ·rw[if_pos h15] at hsr
  subst hsr
  refine Qc<|Qb<|x Qe<|x Qe<|x Qe<|x Qe<|Qf ?_
  exact Qk ⟨[.int .i64 0,.int .i64 0,.int .i64 0,.bool false,.int .i64 E],⟨rfl,rfl,rfl,rfl,rfl,trivial⟩,hs02,rfl⟩
 rw[if_neg h15] at hsr
 have hE0:E=0:=Decidable.not_not.1 h15
 have hev:c.cel.ev.length=c.ev.length:=rfl
 have hsd:UH c.cel=shd c.cel (Kp c.ev.length):=rfl
 rw[hsd] at hsr
 refine Qi<|Qg<|Qc<|x (Qa rfl)<|x (Qd hB12 rfl rfl)<|x (Qs (h.ext hs02).ev.arr rfl)<|Qb<|xe ?_
 refine Qh<|QA (α:=Nat) [(2,6),(8,11),(20,51)] (λz=>[(20,.int .i64 z)]) (λz w'=>z≤c.ev.length∧Step [] w2 w'∧shd c.cel ((Kp c.ev.length).drop z)=S) (λz=>c.ev.length - z) (by rfl) 0 ⟨rfl,trivial⟩
  ⟨Nat.zero_le _,Step.refl _ _,hsr.symm⟩ ?_
 rintro k g w3 ⟨hk,hs3,hS3⟩
 have hs03:=hs02.trans hs3
 have hB13:=hB12.ext hs3
 have h3:=h.ext hs03
 refine Qc<|x (QB rfl rfl)<|xe ?_
 refine Qg<|QD rfl (λh21=>?_) (λh21=>?_)
 ·refine Qz ?_
  have hke:c.ev.length≤k:=by have h16:¬(k:Int)<(c.ev.length:Int):=h21;omega
  rw[List.drop_of_length_le (by rw[yi];exact hke)] at hS3
  have hS0:S=none:=hS3.symm
  subst hS0
  refine Qc<|x Qe<|x Qe<|x Qe<|x Qe<|Qf ?_
  exact Qk ⟨[.int .i64 0,.int .i64 0,.int .i64 0,.bool false,.int .i64 0],⟨rfl,rfl,rfl,rfl,rfl,trivial⟩,hs03,by rw[hE0];rfl⟩
 have hlt:k<c.ev.length:=by have h16:(k:Int)<(c.ev.length:Int):=h21;omega
 rw[Qd7 hlt,Qev] at hS3
 refine Qi<|Qg<|Qh<|Qc<|Qb<|Qf<|Qc<|Qf<|Qg<|Qc<|x (Qa rfl)<|x (Qd hB13 rfl rfl)<|x (Qs h3.co.arr rfl)<|Qb<|xe ?_
 have how:ownr c.cel (k:Int)=ixs (λq:IV=>decide ((k:Int)∈q.p.a.al)) 0 c.co:=by
  show ixs (λx:Jj=>decide ((k:Int)∈x.a.al)) 0 (c.co.map (·.it))=_
  generalize 0=i0
  generalize c.co=l
  induction l generalizing i0 with
  | nil=>rfl
  | cons a l ih=>rw[List.map_cons,ixs,ixs,ih (i0+1)];rfl
 rw[how] at hS3
 refine Qh<|QA (α:=Nat×Value) [(9,11),(26,40)] (λz=>[(9,z.2),(26,.int .i64 z.1)]) (λz w'=>z.1≤c.co.length∧Step [] w3 w'∧Qt 3 w3.heap.size w' z.2 (ixs (λq:IV=>decide ((k:Int)∈q.p.a.al)) 0 (c.co.take z.1))) (λz=>c.co.length - z.1) (by rfl) (0,nS) ⟨rfl,rfl,trivial⟩
  ⟨Nat.zero_le _,Step.refl _ _,QP _ _ _ _⟩ ?_
 rintro ⟨i,v⟩ g w4 ⟨hi,hs4,ho4⟩
 simp only[] at hi ho4
 have hs04:=hs03.trans hs4
 have h4:=h.ext hs04
 have hz4:=hs4.size
 have hlen:=Kd (λq:IV=>decide ((k:Int)∈q.p.a.al)) (c.co.take i) 0
 rw[List.length_take] at hlen
 refine Qc<|x (QB rfl rfl)<|xe ?_
 refine Qg<|QD rfl (λh27=>?_) (λh27=>?_)
 ·refine Qz ?_
  have hie:c.co.length≤i:=by have h16:¬(i:Int)<(c.co.length:Int):=h27;omega
  rw[List.take_of_length_le hie] at ho4
  rw[List.take_of_length_le hie] at hlen
  refine Zc (ixs (λq:IV=>decide ((k:Int)∈q.p.a.al)) 0 c.co) λow how=>?_
  rw[how] at ho4 hlen hS3
  have hA:QL [] w4.heap v ow:=Qt.ints ho4 (by omega) (by simp)
  refine Qc<|Qb<|x (Qs hA rfl)<|x (ZM rfl rfl)<|xe ?_
  refine Q3 rfl (λh43=>?_) (λh43=>?_)
  ·have h2:2≤ow.length:=by have h44:(2:Int)≤(ow.length:Int):=h43;omega
   rw[if_pos h2] at hS3
   subst hS3
   have e0:cget ow 0=ow[0]'(by omega):=by unfold cget;simp[List.getD,show 0<ow.length by omega]
   have e1:cget ow 1=ow[1]'(by omega):=by unfold cget;simp[List.getD,show 1<ow.length by omega]
   refine Qg<|QT (Step [] w4) [(0,true),(1,true),(2,true),(3,true),(4,true),(5,true),(6,true),(7,true),(8,true),(9,true),(10,true),(11,true)] mixed (by rfl) (by kernel_rfl) (Step.drew _ _) ?_
   refine p (λ_=>Qo)<|p (λ_=>Qo)<|pii (i:=0) rfl hA rfl rfl (by omega) λa46 h46=>?_
   rw[←e0] at h46
   refine pq (λ_ hc=>Qw (h46.st hc) rfl) <|
    p (λ_=>Qo)<|pii (i:=1) rfl hA rfl rfl (by omega) λa49 h49=>?_
   rw[←e1] at h49
   refine pq (λ_ hc=>Qw (h49.st hc) rfl)<|p (λ_=>Qe) <|
    p (λ_=>Qe)<|p (λ_=>Qe)<|p (λ_=>Qe)<|p (λ_=>Qe)<|pe ?_
   exact Qk ⟨[.int .i64 k,.int .i64 (cget ow 0),.int .i64 (cget ow 1),.bool true,.int .i64 0],⟨rfl,rfl,rfl,rfl,rfl,trivial⟩,hs04.trans (Step.drew _ _),by rw[hE0];rfl⟩
  have h2:¬2≤ow.length:=by have h44:¬(2:Int)≤(ow.length:Int):=h43;omega
  rw[if_neg h2] at hS3
  refine Qi<|Qx<|x (Qy rfl rfl ⟨by omega,by omega⟩)<|Qb<|xe ?_
  exact ⟨k+1,by omega,⟨rfl,trivial⟩,hlt,hs3.trans hs4,hS3⟩
 have hlti:i<c.co.length:=by have h16:(i:Int)<(c.co.length:Int):=h27;omega
 have hmem:=List.getElem_mem hlti
 have hsucc:=j8 (λq:IV=>decide ((k:Int)∈q.p.a.al)) hlti
 refine Qi<|Qg<|Qh<|Qc<|Qb<|xig (g:=Zi) (i:=i) Xb h4.co.arr rfl rfl hlti λa29 h29=>?_
 refine Zc (c.co[i]'hlti) λq hq=>?_
 rw[hq] at h29 hmem hsucc
 have hqA:=h4.co.each q hmem
 refine x (QJ h29 rfl rfl)<|xl rfl<|Qr (us:=[.string .empty,nS,.int .i64 0,nS,nS]) rfl λb11 w5 hs5 hb11 hB11=>x Qe <|
  xl rfl<|Ql (us:=Zi q) hB11 rfl rfl rfl rfl ⟨rfl,hqA.al.one,rfl,hqA.mr.one,hqA.ed.one,trivial⟩ λw6 hs6 hB11=>xe ?_
 have hs46:Step [] w4 w6:=hs5.then1 hs6 hb11
 refine Qc<|x (Qa rfl)<|x (Qa rfl)<|x (Qd hB11 rfl rfl)<|Qb<|xl rfl<|xf<|(Yl (hqA.al.ext hs46) (k:Int)).mono ?_
 rintro r7 w7 ⟨rfl,rfl⟩
 refine xe ?_
 refine Q3 rfl (λh35=>?_) (λh35=>?_)
 ·rw[if_pos (decide_eq_true h35)] at hsucc
  refine Qx<|Qb<|Qb<|xl rfl<|QH (us:=[[.int .i64 i]]) rfl rfl (by decide) (by simp) ⟨rfl,rfl,trivial⟩ λb38 w8 hs8 hb38 hB38=>?_
  have hs48:=hs46.trans hs8
  have hz48:=hs48.size
  refine xl rfl<|Q5 (news:=[.int .i64 i]) (L:=[]) (Qu ho4 hs48) rfl rfl rfl (hB38.at (by simp)) (by simp[Value.oneCell']) (by omega) (by omega) λv9 w9 ho9 hs9 hn9 =>
   Qf ?_
  have hge:=Qq ho4
  refine Qx<|x (Qy rfl rfl ⟨by omega,by omega⟩)<|Qb<|xe ?_
  refine ⟨(i+1,v9),by simp only[];omega,⟨rfl,rfl,trivial⟩,hlti,(hs4.trans hs48).then hs9 (λb hb=>.inr (hge b hb).1),?_⟩
  simp only[]
  rw[hsucc];exact Qt.snoc ho9
 rw[if_neg (by simpa using h35),List.append_nil] at hsucc
 refine Qi<|Qx<|x (Qy rfl rfl ⟨by omega,by omega⟩)<|Qb<|xe ?_
 exact ⟨(i+1,v),by simp only[];omega,⟨rfl,rfl,trivial⟩,hlti,hs4.trans hs46,by simp only[];rw[hsucc];exact Qu ho4 hs46⟩
abbrev rp0:LV:=[.bool false,.int .i64 0,.int .i64 0,.int .i64 0,.bool false,nS,nS,.int .i64 0]
abbrev rpV (S:Option (Int×Int×Int)) (nc:Bool) (vw vs:Value) (st:Int):LV:=[.bool (!S.isSome),.int .i64 (Uh S).1,.int .i64 (Uh S).2.1,.int .i64 (Uh S).2.2,.bool nc,vw,vs,.int .i64 st]
theorem rpA {c:ZB}{vw vs:Value}:rpV (UH c) (decide ((XC (YI c)).length=0)) vw vs (YI c).st=[.bool (KR c).ps,.int .i64 (KR c).ev,.int .i64 (KR c).f1,.int .i64 (KR c).f2,.bool (KR c).nc,vw,vs,.int .i64 (KR c).tg]:=by
 unfold KR rpV
 cases UH c <;> rfl
theorem Vw {c:ZB}(h:Y9 c=0):Zh c=0:=by
 have h1:=(QbY h).1
 rw[Qa2] at h1
 by_cases h2:Zh c≠0
 ·rw[if_pos h2] at h1;exact absurd h1 h2
 ·exact Decidable.not_not.1 h2
set_option maxRecDepth 4096 in
set_option maxHeartbeats 8000000 in
theorem QaQ {L:LN}{w:World}{c:CL}(h0:ZH L w.heap c) (hkb:Kb w 4096) :
  QG prog 20 [c.val] w λr w'=>Step [] w w'∧∃us,r=.tuple #[.agg us.toArray,.int .i64 (Y9 c.cel)]∧us.length=8∧ZD us ∧
   (Y9 c.cel=0→∃vw vs,us=[.bool (KR c.cel).ps,.int .i64 (KR c.cel).ev,.int .i64 (KR c.cel).f1,.int .i64 (KR c.cel).f2,.bool (KR c.cel).nc,vw,vs,.int .i64 (KR c.cel).tg]∧Qt 3 w.heap.size w' vw (KR c.cel).wd∧Qt 3 w.heap.size w' vs (KR c.cel).sts)∧(Y9 c.cel≠0→us=rp0):=by
 have h:=h0.up (L':=[]) (by simp)
 have hwd:(KR c.cel).wd=QeB (YI c.cel):=rfl
 have hsts:(KR c.cel).sts=(Xr c.cel).map (·.st):=rfl
 rw[hwd,hsts]
 refine QG.of_W func20 rfl ntmps20 results20 (by simp) ?_
 refine Qc<|xl rfl<|QQ (us:=c.cells) rfl λb1 w1 hs1 hb1 hB1=>xl rfl<|Qr (us:=rp0) rfl λb2 w2 hs2 hb2 hB2=>Qf ?_
 have hs02:=hs1.trans hs2
 have hz1:=hs1.size
 have hz2:=hs2.size
 have hl2:=hB2.lt
 refine Qc<|x (Qn (hB1.ext hs2) rfl rfl)<|xl rfl<|xf<|(Jb (h.ext hs02) (hkb.ext hs02)).mono ?_
 rintro r3 w3 ⟨hs3,us,rfl,hul,huo,hgood⟩
 refine Qb<|x (Qj rfl rfl)<|x (Qj rfl rfl)<|xl rfl<|Qr (us:=qZ) rfl λb4 w4 hs4 hb4 hB4=>xl rfl<|Ql (us:=us) hB4 rfl rfl hul rfl huo λw5 hs5 hB45 =>
  Qf ?_
 have hs35:Step [] w3 w5:=hs4.then1 hs5 hb4
 have hs25:=hs3.trans hs35
 have hs05:=hs02.trans hs25
 have hz3:=hs3.size
 have hz5:=hs35.size
 have hl4:=hB45.lt
 have hB25:=hB2.ext hs25
 refine Qg<|Qc<|Qb<|x (Q4 rfl rfl)<|xe ?_
 refine Q3 rfl (λh22=>?_) (λh22=>?_)
 ·refine Qc<|x (QN trivial)<|Qb<|xl rfl<|Ql (us:=rp0) hB25 rfl rfl rfl rfl ⟨rfl,rfl,rfl,rfl,rfl,rfl,rfl,rfl,trivial⟩ λw6 hs6 hB26=>Qf ?_
  exact Qk ⟨[.agg rp0.toArray,.int .i64 (Y9 c.cel)],⟨⟨_,rfl,Qv rfl (hB26.at (L:=[]) (by simp)).cells⟩,rfl,trivial⟩,hs05.then1 hs6 (by omega),rp0,rfl,rfl,⟨rfl,rfl,rfl,rfl,rfl,rfl,rfl,rfl,trivial⟩,λh0=>absurd h0 h22,λ_=>rfl⟩
 have he:=Decidable.not_not.1 h22
 have hck:=Vw he
 have hshR:shR c.cel=UH c.cel:=by unfold shR;rw[if_neg (by simpa using hck)]
 obtain ⟨t,ht,hok,hT⟩:=hgood he
 subst ht
 obtain ⟨hsy,hoA⟩:=Jk he
 have hst0:=hoA.st0
 have hst1:=hoA.st1
 have hsl:(Xr c.cel).map (·.st)=t.ps.map (λp=>p.a.st):=by rw[←hok.l,List.map_map];rfl
 rw[hsl]
 have hT3:qI [] w3.heap t:=hT [] (by simp)
 have hT5:qI [] w5.heap t:=hT3.ext hs35
 rw[←hok.A] at hsy hoA hst0 hst1
 obtain ⟨n,hn⟩:∃n:Nat,t.A.st=n:=⟨t.A.st.toNat,by omega⟩
 have hnt:t.A.st.toNat=n:=by omega
 have hckA:Y2 t.A=0:=(Zs _).2 hoA
 have hpl:=hT5.l.arr.le
 refine Qi<|Qc<|x (Qn ((hB1.ext hs2).ext hs25) rfl rfl)<|xl rfl<|xf<|(QdQ (h.ext hs05)).mono ?_
 rintro r7 w7 ⟨hs7,rfl⟩
 rw[hshR]
 refine Zc (UH c.cel) λS hS=>?_
 rw[hS]
 refine Qb<|x (Qj rfl rfl)<|x (Qj rfl rfl)<|x (Qj rfl rfl)<|x (Qj rfl rfl)<|x (Qj rfl rfl)<|x Qe <|
  x Qe<|x Qe<|x Qe<|Qf ?_
 have hs07:=hs05.trans hs7
 have hB47:=hB45.ext hs7
 have hB27:=hB25.ext hs7
 have hz7:=hs7.size
 refine Qg<|Qc<|Qb<|x (Q4 rfl rfl)<|xe ?_
 refine Q3 rfl (λh34=>?_) (λh34=>?_)
 ·exact absurd hck h34
 refine Qi<|Qc<|Qb<|x (Zp rfl)<|x (Qa rfl)<|x (Qa rfl)<|x (Qd hB47 rfl rfl)<|x (QN ⟨rfl,rfl,rfl,trivial⟩)<|xl rfl<|Qr (us:=rp0) rfl λb10 w9 hs9 hb10 hB10 =>
  xl rfl<|Ql (us:=[.bool (!S.isSome),.int .i64 0,.int .i64 0,.int .i64 0,.bool true,nS,nS,.int .i64 t.A.st]) hB10 rfl rfl rfl rfl ⟨rfl,rfl,rfl,rfl,rfl,rfl,rfl,rfl,trivial⟩ λw10 hs10 hB1010=>xe ?_
 have hs710:Step [] w7 w10:=hs9.then1 hs10 hb10
 have hs010:=hs07.trans hs710
 have hz710:=hs710.size
 have hl10:=hB1010.lt
 have hB410:=hB47.ext hs710
 have hB210:=hB27.ext hs710
 have hn24:b2≠b10:=by omega
 have hn44:b4≠b10:=by omega
 have hu10:w.heap.size≤b10:=by omega
 refine QW (α:=Unit) [(43,49)] (λz=>[]) (λz w'=>Step [b10] w10 w'∧QS w'.heap b10 63 (rpV S true (nS) (nS) t.A.st)) (by rfl) ?_ ?_
 ·refine Qc<|Qb<|xe ?_
  refine QY rfl (λh43=>?_) (λh43=>?_)
  ·refine Qx<|Qb<|Qb<|Qb<|x (Qa rfl)<|xl rfl<|QF (j:=1) (u:=.int .i64 (Uh S).1) hB1010 rfl rfl (by simp) rfl λw11 hs11 hB1011=>x (Qa rfl) <|
    xl rfl<|QF (j:=2) (u:=.int .i64 (Uh S).2.1) hB1011 rfl rfl (by simp) rfl λw12 hs12 hB1012=>x (Qa rfl)<|xl rfl<|QF (j:=3) (u:=.int .i64 (Uh S).2.2) hB1012 rfl rfl (by simp) rfl λw13 hs13 hB1013 =>
    xe ?_
   exact ⟨(),trivial,(hs11.trans' hs12).trans' hs13,hB1013⟩
  refine Qi ?_
  have hSn:S=none:=by cases S with | none=>rfl | some z=>cases h43
  exact ⟨(),trivial,Step.refl _ _,by rw[hSn] at hB1010 ⊢;exact hB1010⟩
 rintro z g w14 ⟨hs14,hB1014⟩
 have hs014:Step [] w w14:=hs010.then1 hs14 hu10
 have hz14:=hs14.size
 have hB414:QS w14.heap b4 111 (XK t):=hB410.step hs14 (by simpa using hn44)
 have hB214:QS w14.heap b2 63 rp0:=hB210.step hs14 (by simpa using hn24)
 have hT10:qI [b10] w14.heap t:=((((hT5.ext hs7).up (L':=[b10]) (λb hb=>by simp only[List.mem_singleton] at hb;subst hb;exact .inr hb10)).ext hs710).st hs14)
 refine Qg<|Qc<|x (Qa rfl)<|x (Qd hB414 rfl rfl)<|x (Qs hT10.l.arr rfl)<|Qb<|xe ?_
 refine Qh<|QA (α:=Nat×Value) [(12,12),(53,64)] (λz=>[(53,.int .i64 z.1)]) (λz w'=>z.1≤t.ps.length∧Step [b10] w14 w'∧QS w'.heap b10 63 (rpV S true (nS) z.2 t.A.st)∧Qt 3 w14.heap.size w' z.2 ((t.ps.take z.1).map (λp=>p.a.st))) (λz=>t.ps.length - z.1) (by rfl) (0,nS) ⟨rfl,trivial⟩
  ⟨Nat.zero_le _,Step.refl _ _,hB1014,QP _ _ _ _⟩ ?_
 rintro ⟨k,vs⟩ g w15 ⟨hk,hs15,hB1015,ho15⟩
 simp only[] at hk hB1015 ho15
 have hs015:Step [] w w15:=hs014.then1 hs15 hu10
 have hz15:=hs15.size
 have hB415:QS w15.heap b4 111 (XK t):=hB414.step hs15 (by simpa using hn44)
 have hB215:QS w15.heap b2 63 rp0:=hB214.step hs15 (by simpa using hn24)
 have hT15:qI [b10] w15.heap t:=hT10.st hs15
 have hge15:=Qq ho15
 have hlk:((t.ps.take k).map (λp=>p.a.st)).length=k:=by rw[List.length_map,List.length_take];omega
 refine Qc<|x (QB rfl rfl)<|xe ?_
 refine Qg<|QD rfl (λh54=>?_) (λh54=>?_)
 ·refine Qz ?_
  have hke:t.ps.length≤k:=by have h16:¬(k:Int)<(t.ps.length:Int):=h54;omega
  rw[List.take_of_length_le hke] at ho15
  have hTn:qI [] w15.heap t:=hT15.up (by simp)
  refine Qc<|x (Qa rfl)<|x (Zv (us:=[t.va,.int .i64 t.A.st,t.vm,t.ve]) hB415 rfl rfl rfl)<|xl rfl<|xf<|(J6 hTn.a).mono ?_
  rintro r16 w16 ⟨hs16,vc,rfl,hoc⟩
  rw[if_pos hckA] at hoc
  refine Qb<|x (Qj rfl rfl)<|x (Qj rfl rfl)<|x Qe<|Qf ?_
  have hs016:=hs015.trans hs16
  have hz16:=hs16.size
  have hB416:=hB415.ext hs16
  have hTn16:=hTn.ext hs16
  have hcorl:(cor t.A).length≤4096:=by
   have:(cor t.A).length≤t.A.st.toNat:=by
    unfold cor KM
    rw[List.length_map]
    have:=List.length_filter_le (λi=>decide (0≤cget (bwd t.A.st.toNat t.A.ed t.A.mr) i)) (List.range t.A.st.toNat)
    rw[List.length_range] at this;exact this
   omega
  have hblk:mrg (λp q=>p && !q) (Kq n) (cor t.A)=XC t.A:=by unfold XC;rw[hnt]
  have hnl:=jT n
  have hn40:n≤4096:=by omega
  have hmall:∀w:World,QG prog 65 [.agg #[t.va,.int .i64 t.A.st,t.vm,t.ve]] w λr w'=>Step [] w w'∧Qt 3 w.heap.size w' r (Kq n):=by
   intro w;rw[hn];exact QhI hn40
  refine QW (α:=Bool×Value) [(15,15),(71,91)] (λz=>[]) (λz w'=>Step [b10] w16 w'∧QS w'.heap b10 63 (rpV S z.1 z.2 vs t.A.st)∧z.1=decide ((XC t.A).length=0)∧Qt 3 w16.heap.size w' z.2 (QeB t.A)) (by rfl) ?_ ?_
  ·refine Qc<|x (Qa rfl)<|x (Zv (us:=[t.va,.int .i64 t.A.st,t.vm,t.ve]) hB416 rfl rfl rfl)<|xl rfl<|xf<|(hmall w16).mono ?_
   rintro r17 w17 ⟨hs17,ho17⟩
   have hz17:=hs17.size
   refine Qb<|xl rfl<|xf<|(QaO (Qt.ints (L:=[]) ho17 (by omega) (by simp)) (Qt.ints (L:=[]) (Qu hoc hs17) (by omega) (by simp)) (by omega)).mono ?_
   rintro r18 w18 ⟨hs18,ho18⟩
   rw[hblk] at ho18
   refine Qf ?_
   have hs1618:=hs17.trans hs18
   have hz18:=hs18.size
   have hB1018:=(hB1015.ext hs16).ext hs1618
   have hB418:=hB416.ext hs1618
   have hbl:(XC t.A).length≤4096:=by
    have h1:(XC t.A).length≤n:=by
     have:=yP (S:=n) (λx hx=>by have:=((qC t.A x).1 hx).1;omega) (qD t.A)
     exact this
    omega
   have hA18:QL [] w18.heap r18 (XC t.A):=Qt.ints ho18 (by omega) (by simp)
   refine Qc<|Qb<|x (Qs hA18 rfl)<|x (ZL rfl rfl)<|xe ?_
   refine QD rfl (λh78=>?_) (λh78=>?_)
   ·have hb0:(XC t.A).length=0:=by have h79:¬(0:Int)<((XC t.A).length:Int):=h78;omega
    refine Qi<|⟨(true,nS),trivial,hs1618.any,hB1018,by rw[decide_eq_true hb0],?_⟩
    unfold QeB
    rw[if_pos hb0];exact QP _ _ _ _
   have hb0:¬(XC t.A).length=0:=by have h79:(0:Int)<((XC t.A).length:Int):=h78;omega
   have hn0:0<n:=by
    refine Nat.pos_of_ne_zero λe=>hb0 ?_
    subst e
    exact Nat.eq_zero_of_le_zero (yP (S:=0) (λx hx=>by have:=((qC t.A x).1 hx).1;omega) (qD t.A))
   refine Qc<|x (Qa rfl)<|xl rfl<|QF (j:=4) (u:=.bool false) hB1018 rfl rfl (by simp) rfl λw19 hs19 hB1019=>xe ?_
   have hB419:QS w19.heap b4 111 (XK t):=hB418.step hs19 (by simpa using hn44)
   have hT19:qI [] w19.heap t:=((hT15.ext (hs16.trans hs1618)).st hs19).up (by simp)
   have hge18:=Qq ho18
   have hA19:QL [] w19.heap r18 (XC t.A):=(((Qt.ints (L:=[b10]) ho18 (by omega) (by simp only[List.mem_singleton];omega)).st hs19)).up (by simp)
   have hz19:=hs19.size
   refine QT (Step [] w19) [(0,true),(1,true),(2,true),(3,true),(4,true),(5,false),(6,false),(7,true),(8,true),(9,true),(10,true),(11,true),(12,false)] mixed (by rfl) (by kernel_rfl) (Step.drew _ _) ?_
   have hd19:Step [] w19 { w19 with drawn:=w19.drawn+1 }:=Step.drew _ _
   refine p (λ_=>Qa rfl)<|pq (λ_ hc=>Zv (us:=[t.va,.int .i64 t.A.st,t.vm,t.ve]) (hB419.ext hc) rfl rfl rfl)<|p (λ_=>Qo)<|p (λ_=>Qa rfl)<|pq (λ_ hc=>Zv (us:=[t.va,.int .i64 t.A.st,t.vm,t.ve]) (hB419.ext hc) rfl rfl rfl) <|
    pk<|xf<|(hmall _).mono ?_
   rintro r20 w20 ⟨hs20,ho20⟩
   have hs1920:=hd19.trans hs20
   have hz20:=hs1920.size
   refine ⟨hs1920,?_⟩
   have hnin:YK t.A.st none (Kq n)=0:=QbA (λx hx=>by have:=(Vc n x).1 hx;omega) (UT n)
   have hbin:YK t.A.st none (XC t.A)=0:=QbA (λx hx=>by have:=((qC t.A x).1 hx).1;omega) (qD t.A)
   have hPath:=QiO (from0:=0) ((hT19.a).ext hs1920) hckA hn hn0 (hA19.ext hs1920) (Qt.ints (L:=[]) ho20 (by omega) (by simp)) hbin hnin ((Vc n _).2 ⟨by omega,by omega⟩)
   refine pk<|xf<|hPath.mono ?_
   rintro r21 w21 ⟨hs21,vp,rfl,hop⟩
   have hs1921:=hs1920.trans hs21
   refine ⟨hs1921,?_⟩
   have hB1021:=hB1019.ext hs1921
   refine p (λ_=>Qo)<|p (λ_=>Qj rfl rfl)<|p (λ_=>Qj rfl rfl)<|p (λ_=>Qj rfl rfl)<|p (λ_=>Qa rfl) <|
    pkl (hl:=by kernel_rfl)<|QF (j:=5) (u:=vp) hB1021 rfl rfl (by simp) (QO hop) λw22 hs22 hB1022=>pe ?_
   refine ⟨(false,vp),trivial,((hs1618.any.trans' hs19).trans hs1921).trans' hs22,hB1022,by rw[decide_eq_false hb0],?_⟩
   unfold QeB
   rw[if_neg hb0,hnt]
   have hop2:=Zb (base':=w16.heap.size) hop (by omega)
   exact Qm hop2 hs22 (λb hb=>by have:=(Qq hop2 b hb).1;simp only[List.mem_singleton];omega)
  rintro ⟨nc,vw⟩ g w23 ⟨hs23,hB1023,hnc,how⟩
  simp only[] at hB1023 hnc how
  subst hnc
  have hs023:Step [] w w23:=hs016.then1 hs23 hu10
  have hz23:=hs23.size
  have hB223:QS w23.heap b2 63 rp0:=(hB215.ext hs16).step hs23 (by simpa using hn24)
  have hos23:=Qm (Qu ho15 hs16) hs23 (λb hb=>by have:=(hge15 b hb).1;simp only[List.mem_singleton];omega)
  have hones:ZD (rpV S (decide ((XC t.A).length=0)) vw vs t.A.st):=⟨rfl,rfl,rfl,rfl,rfl,QO how,QO ho15,rfl,trivial⟩
  refine Qc<|x (Qn hB1023 rfl rfl)<|xl rfl<|Ql (us:=rpV S (decide ((XC t.A).length=0)) vw vs t.A.st) hB223 rfl rfl rfl rfl hones λw24 hs24 hB224=>Qf ?_
  have hl224:b2<w14.heap.size:=by omega
  refine Qk ⟨[.agg (rpV S (decide ((XC t.A).length=0)) vw vs t.A.st).toArray,.int .i64 0],⟨⟨_,rfl,Qv rfl (hB224.at (L:=[]) (by simp)).cells⟩,rfl,trivial⟩,hs023.then1 hs24 (by omega),rpV S (decide ((XC t.A).length=0)) vw vs t.A.st,by rw[he];rfl,rfl,hones,λ_=>⟨vw,vs,?_,?_,?_⟩,λh0=>absurd he h0⟩
  ·rw[←rpA,hS,hok.A]
  ·rw[←hok.A]
   have:=Qm how hs24 (λb hb=>by have:=(Qq how b hb).1;simp only[List.mem_singleton];omega)
   exact Zb this (by have:=hs016.size;omega)
  ·have:=Qm hos23 hs24 (λb hb=>by have:=(Qq hos23 b hb).1;simp only[List.mem_singleton];omega)
   exact Zb this hs014.size
 have hlt:k<t.ps.length:=by have h16:(k:Int)<(t.ps.length:Int):=h54;omega
 have htk:t.ps.take (k+1)=t.ps.take k++[t.ps[k]'hlt]:=List.take_succ_eq_append_getElem hlt
 have hmem:=List.getElem_mem hlt
 refine Qi<|Qg<|Qh<|Qc<|xig (g:=Q7) (i:=k) X4 hT15.l.arr rfl rfl hlt λa55 h55=>?_
 refine Zc (t.ps[k]'hlt) λq hq=>?_
 rw[hq] at h55 hmem htk
 have hqA:=hT15.l.each q hmem
 refine x (QJ h55 rfl rfl)<|xl rfl<|Qr (us:=[nS,.int .i64 0,nS,nS]) rfl λb12 w25 hs25' hb12 hB12=>xl rfl<|Ql (us:=Q7 q) hB12 rfl rfl rfl rfl ⟨hqA.al.one,rfl,hqA.mr.one,hqA.ed.one,trivial⟩ λw26 hs26 hB1226 =>
  xe ?_
 have hs1526:Step [] w15 w26:=hs25'.then1 hs26 hb12
 have hB1026:=hB1015.ext hs1526
 refine Qx<|x (Qa rfl)<|x (Qd hB1026 rfl rfl)<|x (Qa rfl)<|x (Qd hB1226 rfl rfl)<|xl rfl<|QH (us:=[[.int .i64 q.a.st]]) rfl rfl (by decide) (by simp) ⟨rfl,rfl,trivial⟩ λb61 w27 hs27 hb61 hB61=>?_
 have hs1527:=hs1526.trans hs27
 have hz27:=hs1527.size
 have hb10v:b10∉ob vs:=λhb=>by have:=(hge15 b10 hb).1;omega
 refine xl rfl<|Q5 (news:=[.int .i64 q.a.st]) (L:=[]) (Qu ho15 hs1527) rfl rfl rfl (hB61.at (by simp)) (by simp[Value.oneCell']) (by omega) (by omega) λv28 w28 ho28 hs28 hn28=>?_
 have hB1028:=(hB1015.ext hs1527).step hs28 hb10v
 refine x (Qa rfl)<|xl rfl<|QF (j:=6) (u:=v28) hB1028 rfl rfl (by simp) (QO ho28) λw29 hs29 hB1029 =>
  xe ?_
 refine Qx<|x (Qy rfl rfl ⟨by omega,by omega⟩)<|Qb<|xe ?_
 have hs1428:Step [b10] w14 w28:=(hs15.trans hs1527).then hs28 (λb hb=>.inr (hge15 b hb).1)
 refine ⟨(k+1,v28),by simp only[];omega,⟨rfl,trivial⟩,hlt,hs1428.trans' hs29,hB1029,?_⟩
 simp only[]
 rw[htk,List.map_append]
 have:=Qm ho28 hs29 (λb hb=>by have:=(Qq ho28 b hb).1;simp only[List.mem_singleton];omega)
 exact Qt.snoc (n:=q.a.st) this
theorem QbW {L:LN}{w:World}{c:CL}(h0:ZH L w.heap c) (hkb:Kb w 4096) :
  QG prog 20 [c.val] w λr w'=>Step [] w w'∧∃us,r=.tuple #[.agg us.toArray,.int .i64 (Y9 c.cel)]∧us.length=8∧ZD us ∧
   (Y9 c.cel=0→∃vw vs,us=[.bool (KR c.cel).ps,.int .i64 (KR c.cel).ev,.int .i64 (KR c.cel).f1,.int .i64 (KR c.cel).f2,.bool (KR c.cel).nc,vw,vs,.int .i64 (KR c.cel).tg]∧Qt 3 w.heap.size w' vw (KR c.cel).wd∧Qt 3 w.heap.size w' vs (KR c.cel).sts) :=
 (QaQ h0 hkb).mono λ_ _ ⟨h1,us,h2,h3,h4,h5,_⟩=>⟨h1,us,h2,h3,h4,h5⟩
theorem Ki:∀{es:List Ed},(es.Pairwise λx y=>x.1<y.1∨(x.1=y.1∧x.2.1<y.2.1))→∀{s v t:Int},(s,v,t)∈es→eget es s v=some t
 | [],_,_,_,_,h=>by cases h
 | e::es,hp,s,v,t,h=>by
  simp only[List.pairwise_cons] at hp
  rw[eget]
  rcases List.mem_cons.1 h with h | h
  ·rw[←h,if_pos ⟨rfl,rfl⟩]
  ·have h1:=hp.1 _ h
   simp only[] at h1
   rw[if_neg (by omega)]
   exact Ki hp.2 h
end Go.Proofs.YtgmifemhkjdblaaGreatDoor
namespace Go.Lg
open Go.RowKit
def XS (all:Array Oper) (dp:Nat→LN) (opn:LN) (rest:List (Nat×Bool)):Nat→Array Bool→Bool
 | 0,ls=>YB all rest ls && opn.all λi=>ls.getD i false
 | k+1,ls=>!(Region.ready .any all ls).isEmpty && (Region.ready .any all ls).all λi=>opn.contains i && (dp i).all (λj=>opn.contains j && ls.getD j false) && XS all dp opn rest k (ls.setIfInBounds i true)
def QcK (all:List Oper) (dp:Nat→LN) (pre:List (Nat×Bool)) (opn:LN) (rest:List (Nat×Bool)) (D:List (Nat×Nat)):Bool :=
 Region.noSelect all.toArray && (pre.length+(opn.length+rest.length) == all.length) && Y1 all.toArray pre (Array.replicate all.length false) && V4 all D opn && XS all.toArray dp opn rest opn.length (Zr pre (Array.replicate all.length false))
  && opn.all λi=>!((Zr pre (Array.replicate all.length false)).getD i false)
section
variable {P:Program} {n:Nat} {f:Fr} {w:World} {all:List Oper} {C:World→Prop} {K:Fr→World→Prop}
theorem QaJ {α:Type}{D:List (Nat×Nat)}{dp:Nat→LN}{opn:LN}{rest:List (Nat×Bool)}{Φ:Nat→Value→World→Prop}{S:α→List (Nat×Value)}{I:α→World→Prop}{f1:Fr}(hs:Region.noSelect all.toArray=true) (hop:V4 all D opn=true)
  (hCs:∀w w',C w→Step [] w w'→C w') (stab:∀i v w w',Φ i v w→Step [] w w'→Φ i v w')
  (hconv:∀(g:Fr) w,Fa (λi=>Φ i (sl (QK all i).dst g) w) opn→(∀i∈opn,∀j∈opn,i≠j→∀b∈ow (sl (QK all i).dst g),b∉ow (sl (QK all j).dst g))→∃z,Yy g (S z)∧I z w)
  (spec:Fa (λi=>∀g w,C w→Fa (λj=>Φ j (sl (QK all j).dst (mix D f1 g)) w) (dp i)→XO P (QK all i) (mix D f1 g) w (λf' w'=>Step [] w w'∧Φ i (sl (QK all i).dst f') w'∧∀b∈ow (sl (QK all i).dst f'),w.heap.size≤b∧b<w'.heap.size)) opn)
  (fin:∀z g w,C w→I z w→XP P all C K rest (KE (S z) (mix D f1 g)) w) :
  ∀(k:Nat) (ls:Array Bool) (f:Fr) (w:World),ls.size=all.length→C w→XS all.toArray dp opn rest k ls=true→(∀t,YT D t=false→f t=f1 t)→(∀i∈opn,ls.getD i false=true→Φ i (sl (QK all i).dst f) w) →
   (∀i∈opn,ls.getD i false=true→(∀b∈ow (sl (QK all i).dst f),b<w.heap.size)∧∀j∈opn,ls.getD j false=true→i≠j→∀b∈ow (sl (QK all i).dst f),b∉ow (sl (QK all j).dst f))→XA P all C K (k+rest.length) ls f w
 | 0,ls,f,w,hsz,hC,hp,hf,hphi,hdj=>by
  simp only[XS,Bool.and_eq_true,List.all_eq_true] at hp
  obtain ⟨z,h1,h2⟩:=hconv f w (Fa.of λi hi=>hphi i hi (hp.2 i hi)) (λi hi j hj hij=>(hdj i hi (hp.2 i hi)).2 j hj (hp.2 j hj) hij)
  have h3:=fin z f w hC h2
  rw[YO hf,Yc h1] at h3
  rw[Nat.zero_add]
  exact Zt hs rest ls f w hsz (.inl hC) hp.1 h3
 | k+1,ls,f,w,hsz,hC,hp,hf,hphi,hdj=>by
  simp only[XS,Bool.and_eq_true,List.all_eq_true,List.contains_iff_mem] at hp
  obtain ⟨hne,hp⟩:=hp
  rw[Nat.add_right_comm]
  refine YA (λh0=>(by rw[h0] at hne;cases hne)) ?_
  intro i hi o ho
  obtain ⟨⟨hio,hdp⟩,hgo⟩:=hp i hi
  obtain ⟨hg,d,hd,hdD⟩:=(ZW hop).1 i hio
  have hdis:=(ZW hop).2
  have hsp:=Fa.all spec i hio f w hC
  rw[YO hf] at hsp
  have hsp:=hsp (Fa.of λj hj=>hphi j (hdp j hj).1 (hdp j hj).2)
  have hoi:=Za ho
  rw[hoi] at hg hd hsp
  rw[Xx hg,cond_true]
  refine hsp.mono λv w' hx=>?_
  have hC':=hCs w w' hC hx.1
  have hz:=hx.1.size
  have old:∀j∈opn,j≠i→sl (QK all j).dst (QU f o.dst v)=sl (QK all j).dst f:=λj hj hij=>by
   obtain ⟨_,dj,hdj',_⟩:=(ZW hop).1 j hj
   have hne:o.dst≠some dj:=λe=>hdis j hj i hio hij (by rw[hdj',hoi];exact e.symm)
   rw[hdj']
   exact ZN hne v
  have lsj:∀j,j≠i→(ls.setIfInBounds i true).getD j false=true→ls.getD j false=true:=λj hij h=>by rw[getD_set_ne false (Ne.symm hij)] at h;exact h
  refine ⟨.inr (.inr hC'),QaJ hs hop hCs stab hconv spec fin k _ _ _ (by simpa using hsz) hC' hgo (λt ht=>?_) (λj hj hlj=>?_) (λj hj hlj=>⟨λb hb=>?_,λk hk hlk hjk b hb hbk=>?_⟩)⟩
  ·rw[ZN (by rw[hd];intro e;cases e;rw[hdD] at ht;cases ht)];exact hf t ht
  ·by_cases hij:j=i
   ·subst hij
    have h2:=hx.2.1
    rw[hoi];exact h2
   ·rw[old j hj hij]
    exact stab _ _ _ _ (hphi j hj (lsj j hij hlj)) hx.1
  ·by_cases hij:j=i
   ·subst hij
    rw[hoi] at hb
    exact (hx.2.2 b hb).2
   ·rw[old j hj hij] at hb
    have:=(hdj j hj (lsj j hij hlj)).1 b hb
    omega
  ·by_cases hij:j=i
   ·subst hij
    have hki:k≠j:=Ne.symm hjk
    rw[old k hk hki] at hbk
    rw[hoi] at hb
    have h1:=(hdj k hk (lsj k hki hlk)).1 b hbk
    have h2:=(hx.2.2 b hb).1
    omega
   ·rw[old j hj hij] at hb
    have h1:=(hdj j hj (lsj j hij hlj)).1 b hb
    by_cases hki:k=i
    ·subst hki
     rw[hoi] at hbk
     have h2:=(hx.2.2 b hbk).1
     omega
    ·rw[old k hk hki] at hbk
     exact (hdj j hj (lsj j hij hlj)).2 k hk (lsj k hki hlk) hjk b hb hbk
theorem Qgy {α:Type}{Q:Exit→Fr→World→Prop}{id:Nat}(C:World→Prop) (pre:List (Nat×Bool)) (dp:Nat→LN) (opn:LN) (rest:List (Nat×Bool)) (D:List (Nat×Nat)) (Φ:Nat→Value→World→Prop) (S:α→List (Nat×Value)) (I:α→World→Prop)
  (hm:P.follows .mixedOrders=true) (hn:YW n all=true) (hp:QcK all dp pre opn rest D=true) (hC:C { w with drawn:=w.drawn+1 }) (hCs:∀w w',C w→Step [] w w'→C w') (stab:∀i v w w',Φ i v w→Step [] w w'→Φ i v w')
  (hconv:∀(g:Fr) w,Fa (λi=>Φ i (sl (QK all i).dst g) w) opn→(∀i∈opn,∀j∈opn,i≠j→∀b∈ow (sl (QK all i).dst g),b∉ow (sl (QK all j).dst g))→∃z,Yy g (S z)∧I z w)
  (h:XP P all C (λf1 _=>Fa (λi=>∀g w,C w→Fa (λj=>Φ j (sl (QK all j).dst (mix D f1 g)) w) (dp i)→XO P (QK all i) (mix D f1 g) w (λf' w'=>Step [] w w'∧Φ i (sl (QK all i).dst f') w'∧∀b∈ow (sl (QK all i).dst f'),w.heap.size≤b∧b<w'.heap.size)) opn ∧
   ∀z g w,C w→I z w→XP P all C (λf w=>Q .normal f w) rest (KE (S z) (mix D f1 g)) w) pre f { w with drawn:=w.drawn+1 }):W P n (.region id all.toArray true) Q f w:=by
 simp only[QcK,Bool.and_eq_true,beq_iff_eq,List.all_eq_true,Bool.not_eq_true'] at hp
 obtain ⟨⟨⟨⟨⟨hs,hl⟩,hq⟩,hop⟩,hgo⟩,hun⟩:=hp
 refine YF C hm hn ?_
 rw[←hl]
 have hsz:(Array.replicate all.length false).size=all.length:=by simp
 have h1:=ZI (K:=λf w=>Q .normal f w) (m:=opn.length+rest.length) hs pre (Array.replicate all.length false) f _ hC hq (λf1 hB=>QaJ (P:=P) (C:=C) hs hop hCs stab hconv hB.1 hB.2 opn.length (Zr pre (Array.replicate all.length false)) f1 _ (by rw[ZG];exact hsz) hC hgo (λ_ _=>rfl) (λi hi ht=>by rw[hun i hi] at ht;cases ht) (λi hi ht=>by rw[hun i hi] at ht;cases ht)) h
 rw[hl] at h1 ⊢
 exact h1
end
theorem jB {κ:Type}[DecidableEq κ] {l:List κ}{s:κ}(h:s∉l):mput (l.map λs=>(s,Value.bool true)) s (.bool true)=(l++[s]).map λs=>(s,Value.bool true):=by
 induction l with
 | nil=>rfl
 | cons a l ih =>
  have h1:a≠s:=λe=>h (by subst e;exact List.mem_cons_self)
  show (if a=s then (a,Value.bool true)::(l.map λs=>(s,Value.bool true)) else (a,Value.bool true)::mput (l.map λs=>(s,Value.bool true)) s (.bool true))=_
  rw[if_neg h1,ih (λhm=>h (List.mem_cons_of_mem _ hm))];rfl
theorem Qew {κ:Type}[DecidableEq κ] (l:List κ) (s:κ):mget (l.map λs=>(s,Value.bool true)) s=if s∈l then some (.bool true) else none:=by
 induction l with
 | nil=>rfl
 | cons a l ih =>
  show (if a=s then some (Value.bool true) else mget (l.map λs=>(s,Value.bool true)) s)=_
  rw[ih]
  by_cases h:a=s
  ·subst h;simp
  ·rw[if_neg h]
   have h':¬s=a:=λe=>h e.symm
   simp[h']
section
variable {P:Program} {f:Fr} {w:World} {d:Option Nat} {ty:Nat} {ps:String} {af:Array Edge} {gd:Option (Nat×Bool)} {κ:Type} [DecidableEq κ]
theorem zw {t kt et:Nat}[hm:Mp P t kt et (.bool false)] {enc:κ→Value}[hk:Key P kt enc] {x y:Operand}{b:Nat}{l:List κ}{s:κ}(h:ZE enc w.heap b (l.map λs=>(s,Value.bool true))) (hx:ev f x=.map (some b)) (hy:ev f y=enc s) :
  (execOp (ev f) ⟨d,.lookup t x y false,ty,ps,af,gd⟩).run P w=.ok (.value (.bool (decide (s∈l)))) w:=by
 rw[X7 h hx hy,Qew]
 by_cases hs:s∈l <;> simp[hs]
end
end Go.Lg
namespace Go.Proofs.YtgmifemhkjdblaaGreatDoor
open Tryz
open Go.Lg
instance:Ay prog 239 2 3 1:=⟨by kernel_rfl,by kernel_rfl⟩
def VV:List QM→Int
 | []=>0
 | a::l=>if Y2 a≠0 then Y2 a else VV l
def Qgg (kd:Int) (l:List QM):Int:=if VV l≠0 then VV l else if kd≠1∧kd≠2 then 11 else 0
theorem Qlg (a b:QM) (kd:Int):Qgg kd [a,b]=lgE a b kd:=by
 unfold Qgg lgE VV
 by_cases h1:Y2 a≠0
 ·simp only[if_pos h1]
 ·rw[if_neg h1,if_neg h1]
  unfold VV
  by_cases h2:Y2 b≠0
  ·simp only[if_pos h2]
  ·rw[if_neg h2,if_neg h2]
   unfold VV
   simp
theorem Qbm {L:LN}{w:World}{v:Value}{ps:List AV}(h0:YG L w.heap v ps) (kd:Int) :
  QG prog 130 [.int .i64 kd,v] w λr w'=>r=.int .i64 (Qgg kd (ps.map (·.a)))∧Step [] w w':=by
 have h:=h0.up (L':=[]) (by simp)
 have hle:=h.arr.le
 have hr:Qgg kd (ps.map (·.a))=if VV (ps.map (·.a))≠0 then VV (ps.map (·.a)) else if kd≠1∧kd≠2 then 11 else 0:=rfl
 refine Zc (Qgg kd (ps.map (·.a))) λE hE=>?_
 rw[hE] at hr ⊢
 refine QG.of_W func130 rfl ntmps130 results130 (by simp) ?_
 refine Qc<|Qf<|Qg<|Qc<|Qb<|x (Qs h.arr rfl)<|Qb<|xe ?_
 refine Qh<|QA (α:=Nat) [(4,4),(6,7),(10,19)] (λz=>[(10,.int .i64 z)]) (λz w'=>z≤ps.length∧Step [] w w'∧VV ((ps.drop z).map (·.a))=VV (ps.map (·.a))) (λz=>ps.length - z) (by rfl) 0 ⟨rfl,trivial⟩ ⟨Nat.zero_le _,Step.refl _ _,rfl⟩ ?_
 rintro k g w1 ⟨hk,hs1,hk1⟩
 refine Qc<|x (QB rfl rfl)<|xe ?_
 refine Qg<|QD rfl (λh11=>?_) (λh11=>?_)
 ·refine Qz ?_
  have hke:ps.length≤k:=by have h16:¬(k:Int)<(ps.length:Int):=h11;omega
  rw[List.drop_of_length_le hke] at hk1
  have hz:VV (ps.map (·.a))=0:=hk1.symm
  rw[if_neg (by simpa using hz)] at hr
  refine Qg<|QW (α:=Bool) [(20,25)] (λz=>[(25,.bool z)]) (λz w'=>w'=w1∧z=decide (kd≠1∧kd≠2)) (by rfl) ?_ ?_
  ·refine Qx<|Qb<|xb (Q4 rfl rfl) (λh21=>?_) (λh21=>?_)
   ·refine Qb<|Qb<|x (Q4 rfl rfl)<|x (Qp rfl)<|xe ?_
    have h22:¬kd=1:=h21
    exact ⟨decide (¬kd=2),⟨rfl,trivial⟩,rfl,by simp[h22]⟩
   refine Qb<|xs rfl<|xs rfl<|x (Qp rfl)<|xe ?_
   have h22:kd=1:=Decidable.not_not.1 h21
   exact ⟨false,⟨rfl,trivial⟩,rfl,by simp[h22]⟩
  rintro z g w2 ⟨rfl,hz2⟩
  refine QY rfl (λh25=>?_) (λh25=>?_)
  ·rw[if_pos (of_decide_eq_true (hz2.symm.trans h25))] at hr
   subst hr
   refine Qc<|Qf ?_
   exact Qk ⟨[_],⟨rfl,trivial⟩,rfl,hs1⟩
  rw[if_neg (of_decide_eq_false (hz2.symm.trans h25))] at hr
  subst hr
  refine Qi<|Qc<|Qf ?_
  exact Qk ⟨[_],⟨rfl,trivial⟩,rfl,hs1⟩
 have hlt:k<ps.length:=by have h16:(k:Int)<(ps.length:Int):=h11;omega
 have hmem:=List.getElem_mem hlt
 rw[List.drop_eq_getElem_cons hlt,List.map_cons,VV] at hk1
 refine Qi<|Qg<|Qh<|Qc<|xig (g:=Q7) (i:=k) X4 (h.ext hs1).arr rfl rfl hlt λa12 h12=>?_
 refine Zc (ps[k]'hlt) λq hq=>?_
 rw[hq] at h12 hmem hk1
 have hqA:=(h.ext hs1).each q hmem
 refine x (QJ h12 rfl rfl)<|xl rfl<|Qr (us:=[nS,.int .i64 0,nS,nS]) rfl λb6 w3 hs3 hb6 hB6=>xl rfl<|Ql (us:=Q7 q) hB6 rfl rfl rfl rfl ⟨hqA.al.one,rfl,hqA.mr.one,hqA.ed.one,trivial⟩ λw4 hs4 hB64 =>
  xe ?_
 have hs14:Step [] w1 w4:=hs3.then1 hs4 hb6
 refine Qc<|x (Qn hB64 rfl rfl)<|xl rfl<|xf<|(YR (hqA.ext hs14)).mono ?_
 rintro r5 w5 ⟨rfl,hs5⟩
 refine Qf ?_
 have hs05:=(hs1.trans hs14).trans hs5
 refine Qc<|Qb<|x (Q4 rfl rfl)<|xe ?_
 refine Q3 rfl (λh17=>?_) (λh17=>?_)
 ·rw[if_pos h17] at hk1
  have hne:VV (ps.map (·.a))≠0:=by rw[←hk1];exact h17
  rw[if_pos hne,←hk1] at hr
  subst hr
  refine Qc<|Qb<|Qf ?_
  exact Qk ⟨[_],⟨rfl,trivial⟩,rfl,hs05⟩
 rw[if_neg h17] at hk1
 refine Qi<|Qx<|x (Qy rfl rfl ⟨by omega,by omega⟩)<|Qb<|xe ?_
 exact ⟨k+1,by omega,⟨rfl,trivial⟩,hlt,hs05,hk1⟩
abbrev stI (l:LI):List (Int×Value):=l.map λs=>(s,Value.bool true)
structure jd (H:Array Obj) (b m1 m2:Nat) (a:QM):Prop where
 B:QS H b 284 [.map (some m1),.map (some m2),.int .i64 (fst a)]
 e:ZE ZO H m1 (Jz [] a.ed)
 m:ZE X2 H m2 (stI a.mr)
theorem jd.step {X:LN}{w w':World}{b m1 m2:Nat}{a:QM}(h:jd w.heap b m1 m2 a) (hs:Step X w w') (h0:b∉X) (h1:m1∉X) (h2:m2∉X):jd w'.heap b m1 m2 a:=⟨h.B.step hs h0,h.e.step hs h1,h.m.step hs h2⟩
theorem jd.ext {w w':World}{b m1 m2:Nat}{a:QM}(h:jd w.heap b m1 m2 a) (hs:Step [] w w'):jd w'.heap b m1 m2 a:=h.step hs (by simp) (by simp) (by simp)
theorem zG {w:World}{b m1 m2:Nat}{a:QM}(h:jd w.heap b m1 m2 a) (ho:Q2 a) (s v:Int) :
  QG prog 171 [.pointer (some ⟨b,0,none⟩),.int .i64 s,.int .i64 v] w λr w'=>r=.int .i64 (nxt a.ed s v)∧Step [] w w':=by
 have hn:nxt a.ed s v=(if (eget a.ed s v).isSome=true then (eget a.ed s v).getD 0 else -1):=by rw[Va];cases eget a.ed s v <;> rfl
 refine QG.of_W func171 rfl ntmps171 results171 (by simp) ?_
 refine Qc<|Qf<|Qg<|Qc<|Qb<|x (QE rfl)<|x (Qa rfl)<|x (Qd h.B rfl rfl)<|Qb<|Qb<|x (QN ⟨rfl,rfl,trivial⟩)<|x (Qcg (s:=a) (q:=s) (v:=v) h.e ho.edi rfl rfl) <|
  Qb<|x (Qj rfl rfl)<|x (Qj rfl rfl)<|x Qe<|Qf<|Qc<|Qb<|xe ?_
 refine Q3 rfl (λh20=>?_) (λh20=>?_)
 ·rw[if_pos h20] at hn
  refine Qc<|Qb<|Qf ?_
  exact Qk ⟨[_],⟨rfl,trivial⟩,by rw[hn];rfl,Step.refl _ _⟩
 rw[if_neg h20] at hn
 refine Qi<|Qc<|Qf ?_
 exact Qk ⟨[_],⟨rfl,trivial⟩,by rw[hn];rfl,Step.refl _ _⟩
theorem Qcv {w:World}{b m1 m2:Nat}{a:QM}(h:jd w.heap b m1 m2 a) (s kd:Int) :
  QG prog 135 [.pointer (some ⟨b,0,none⟩),.int .i64 s,.int .i64 kd] w λr w'=>r=.bool (UY a kd s)∧Step [] w w':=by
 refine QG.of_W func135 rfl ntmps135 results135 (by simp) ?_
 refine Qc<|Qf<|QW (α:=Bool) [(6,20)] (λz=>[(6,.bool z)]) (λz w'=>w'=w∧z=UY a kd s) (by rfl) ?_ ?_
 ·refine Qx<|Qb<|xb (ZM rfl rfl) (λh8=>?_) (λh8=>?_)
  ·have h9:0≤s:=h8
   refine Qb<|Qb<|xb (Zn rfl rfl) (λh11=>?_) (λh11=>?_)
   ·refine Qb<|xs rfl<|xs rfl<|xs rfl<|xs rfl<|xs rfl<|xs rfl<|x (Qp rfl)<|x (Qp rfl)<|Qf ?_
    have h12:kd=1:=h11
    exact ⟨true,⟨rfl,trivial⟩,rfl,by simp[UY,h9,h12]⟩
   have h12:¬kd=1:=h11
   refine Qb<|Qb<|x (QE rfl)<|x (Qa rfl)<|x (Qd h.B rfl rfl)<|Qb<|x (zw (s:=s) h.m rfl rfl)<|x (Qp rfl)<|x (Qp rfl) <|
    Qf ?_
   exact ⟨decide (s∈a.mr),⟨rfl,trivial⟩,rfl,by simp[UY,h9,h12]⟩
  have h9:¬0≤s:=h8
  refine Qb<|xs rfl<|xs rfl<|xs rfl<|xs rfl<|xs rfl<|xs rfl<|xs rfl<|xs rfl<|xs rfl<|xs rfl<|x (Qp rfl)<|x Qe <|
   xe ?_
  exact ⟨false,⟨rfl,trivial⟩,rfl,by simp[UY];omega⟩
 rintro z g w1 ⟨rfl,rfl⟩
 exact Qk ⟨[_],⟨rfl,trivial⟩,rfl,Step.refl _ _⟩
theorem Qfk {w:World}{b10 b5 b11 ba1 ba2 ba3 bb1 bb2 bb3:Nat}{a b:QM}{kd:Int}(h10:QS w.heap b10 236 [.pointer (some ⟨ba1,0,none⟩)]) (h11:QS w.heap b11 236 [.pointer (some ⟨bb1,0,none⟩)])
  (h5:QS w.heap b5 3 [.int .i64 kd]) (ha:jd w.heap ba1 ba2 ba3 a) (hb:jd w.heap bb1 bb2 bb3 b) (s t:Int) :
  QG prog 134 [.agg #[.int .i64 s,.int .i64 t],.pointer (some ⟨b10,0,none⟩),.pointer (some ⟨b5,0,none⟩),.pointer (some ⟨b11,0,none⟩)] w λr w'=>r=.bool (!(UY a kd s == UY b kd t))∧Step [] w w':=by
 refine QG.of_W func134 rfl ntmps134 results134 (by simp) ?_
 refine Qc<|xl rfl<|QQ (us:=[.int .i64 s,.int .i64 t]) rfl λb4 w1 hs1 hb4 hB4=>Qf ?_
 have hd:Step [] w1 { w1 with drawn:=w1.drawn+1 }:=Step.drew _ _
 refine Qg<|QT (Step [] w1) [(0,true),(1,true),(2,true),(3,true),(5,true),(6,true),(7,true),(8,true),(4,false),(9,false),(10,true),(11,true)] mixed (by rfl) (by kernel_rfl) (Step.drew _ _) ?_
 refine pq (λ_ hc=>Qd ((h10.ext hs1).ext hc) rfl rfl)<|p (λ_=>YM (i:=0) rfl rfl (by decide))<|pq (λ_ hc=>Qd (hB4.ext hc) rfl rfl)<|pq (λ_ hc=>Qd ((h5.ext hs1).ext hc) rfl rfl)<|pq (λ_ hc=>Qd ((h11.ext hs1).ext hc) rfl rfl) <|
  p (λ_=>YM (i:=1) rfl rfl (by decide))<|pq (λ_ hc=>Qd (hB4.ext hc) rfl rfl)<|pq (λ_ hc=>Qd ((h5.ext hs1).ext hc) rfl rfl)<|pk<|xf<|(Qcv ((ha.ext hs1).ext hd) s kd).mono ?_
 rintro r2 w2 ⟨rfl,hs2⟩
 refine ⟨hd.trans hs2,?_⟩
 refine pk<|xf<|(Qcv (((hb.ext hs1).ext hd).ext hs2) t kd).mono ?_
 rintro r3 w3 ⟨rfl,hs3⟩
 refine ⟨(hd.trans hs2).trans hs3,?_⟩
 refine p (λ_=>Qbc rfl rfl)<|p (λ_=>Qe)<|pe ?_
 exact Qk ⟨[_],⟨rfl,trivial⟩,rfl,((hs1.trans hd).trans hs2).trans hs3⟩
set_option maxHeartbeats 4000000 in
theorem zH {w:World}{va vm ve:Value}{a:QM}(h:Zm [] w.heap va vm ve a) (ho:Q2 a) :
  QG prog 131 [.agg #[va,.int .i64 a.st,vm,ve]] w λr w'=>Step [] w w'∧∃b m1 m2,r=.pointer (some ⟨b,0,none⟩)∧w.heap.size≤b∧w.heap.size≤m1∧w.heap.size≤m2∧jd w'.heap b m1 m2 a:=by
 have hel:=h.ed.le
 have hml:=h.mr.le
 refine QG.of_W func131 rfl ntmps131 results131 (by simp) ?_
 refine Qc<|xl rfl<|QQ (us:=[va,.int .i64 a.st,vm,ve]) rfl λb1 w1 hs1 hb1 hB1=>Qf<|Qc<|xl rfl<|ZU ZO λm1 w2 hs2 hm1 hM1=>xl rfl<|ZU X2 λm2 w3 hs3 hm2 hM2=>x (QN ⟨rfl,rfl,rfl,trivial⟩)<|xl rfl<|QQ (us:=[.map (some m1),.map (some m2),.int .i64 0]) rfl λb11 w4 hs4 hb11 hB11 =>
  Qf ?_
 have hz1:=hs1.size
 have hz2:=hs2.size
 have hz3:=hs3.size
 have hz4:=hs4.size
 have hl1:=hM1.lt
 have hl2:=hM2.lt
 have hl11:=hB11.lt
 have hs14:=(hs2.trans hs3).trans hs4
 have hB14:=hB1.ext hs14
 have hlb1:=hB1.lt
 have hM14:ZE ZO w4.heap m1 []:=((hM1.step hs3 (by simp)).step hs4 (by simp))
 have hM24:ZE X2 w4.heap m2 []:=hM2.step hs4 (by simp)
 have hst:∀{b:Nat},b∈[b11,m1,m2]→w1.heap.size≤b:=λhb=>by simp only[List.mem_cons,List.not_mem_nil,or_false] at hb;omega
 have hn1:b1∉[b11,m1,m2]:=λhb=>by have:=hst hb;omega
 have hup:∀b∈[b11,m1,m2],w.heap.size≤b:=λb hb=>by have:=hst hb;omega
 have hA:∀{w':World},Step [b11,m1,m2] w4 w'→Zm [] w'.heap va vm ve a:=λhs =>
  ((((h.ext hs1).up (L':=[b11,m1,m2]) (λb hb=>.inr (hst hb))).ext hs14).st hs).up (by simp)
 have k11:∀b∈[b11],b∈[b11,m1,m2]:=λb hb=>by simp only[List.mem_singleton] at hb;simp[hb]
 have k1:∀b∈[m1],b∈[b11,m1,m2]:=λb hb=>by simp only[List.mem_singleton] at hb;simp[hb]
 have k2:∀b∈[m2],b∈[b11,m1,m2]:=λb hb=>by simp only[List.mem_singleton] at hb;simp[hb]
 refine QW (α:=Unit) [(12,17)] (λz=>[]) (λz w'=>Step [b11] w4 w'∧QS w'.heap b11 284 [.map (some m1),.map (some m2),.int .i64 (fst a)]) (by rfl) ?_ ?_
 ·refine Qc<|x (Qa rfl)<|x (Qd hB14 rfl rfl)<|x (Zn rfl rfl)<|xe ?_
  refine Q3 rfl (λh14=>?_) (λh14=>?_)
  ·have hf:fst a=-1:=by unfold fst;rw[if_pos h14]
   refine Qx<|Qb<|x (QE rfl)<|x (Qa rfl)<|xl rfl<|QF (j:=2) (u:=.int .i64 (-1)) hB11 rfl rfl (by simp) rfl λw5 hs5 hB115=>xe ?_
   exact ⟨(),trivial,hs5,by rw[hf];exact hB115⟩
  have hf:fst a=0:=by unfold fst;rw[if_neg h14]
  refine Qi ?_
  exact ⟨(),trivial,Step.refl _ _,by rw[hf];exact hB11⟩
 rintro z g w6 ⟨hs6,hB116⟩
 have hs6':=hs6.mono k11
 have hz6:=hs6.size
 have hM16:ZE ZO w6.heap m1 []:=hM14.step hs6 (by simp only[List.mem_singleton];omega)
 have hM26:ZE X2 w6.heap m2 []:=hM24.step hs6 (by simp only[List.mem_singleton];omega)
 have hB16:=hB14.step hs6' hn1
 have h6:=hA hs6'
 refine Qg<|Qc<|x (Qa rfl)<|x (Qd hB16 rfl rfl)<|x (Qs h6.ed rfl)<|Qb<|xe ?_
 refine Qh<|QA (α:=Nat) [(5,5),(21,36)] (λz=>[(21,.int .i64 z)]) (λz w'=>z≤a.ed.length∧Step [m1] w6 w'∧ZE ZO w'.heap m1 (Jz [] (a.ed.take z))) (λz=>a.ed.length - z) (by rfl) 0 ⟨rfl,trivial⟩
  ⟨Nat.zero_le _,Step.refl _ _,hM16⟩ ?_
 rintro k g w7 ⟨hk,hs7,hM17⟩
 have hs47:Step [b11,m1,m2] w4 w7:=hs6'.trans' (hs7.mono k1)
 have h7:=hA hs47
 have hz7:=hs7.size
 have hB117:=hB116.step hs7 (by simp only[List.mem_singleton];omega)
 have hM27:=hM26.step hs7 (by simp only[List.mem_singleton];omega)
 have hB17:=hB14.step hs47 hn1
 refine Qc<|x (QB rfl rfl)<|xe ?_
 refine Qg<|QD rfl (λh22=>?_) (λh22=>?_)
 ·refine Qz ?_
  have hke:a.ed.length≤k:=by have h16:¬(k:Int)<(a.ed.length:Int):=h22;omega
  rw[List.take_of_length_le hke] at hM17
  refine Qg<|Qc<|x (Qa rfl)<|x (Qd hB17 rfl rfl)<|x (Qs h7.mr rfl)<|Qb<|xe ?_
  refine Qh<|QA (α:=Nat) [(7,7),(40,49)] (λz=>[(40,.int .i64 z)]) (λz w'=>z≤a.mr.length∧Step [m2] w7 w'∧ZE X2 w'.heap m2 (stI (a.mr.take z))) (λz=>a.mr.length - z) (by rfl) 0 ⟨rfl,trivial⟩
   ⟨Nat.zero_le _,Step.refl _ _,hM27⟩ ?_
  rintro j g w8 ⟨hj,hs8,hM28⟩
  have hs48:Step [b11,m1,m2] w4 w8:=hs47.trans' (hs8.mono k2)
  have h8:=hA hs48
  have hB118:=hB117.step hs8 (by simp only[List.mem_singleton];omega)
  have hM18:=hM17.step hs8 (by simp only[List.mem_singleton];omega)
  refine Qc<|x (QB rfl rfl)<|xe ?_
  refine Qg<|QD rfl (λh41=>?_) (λh41=>?_)
  ·refine Qz ?_
   have hje:a.mr.length≤j:=by have h16:¬(j:Int)<(a.mr.length:Int):=h41;omega
   rw[List.take_of_length_le hje] at hM28
   refine Qc<|Qb<|Qf ?_
   exact Qk ⟨[.pointer (some ⟨b11,0,none⟩)],⟨rfl,trivial⟩,(hs1.trans hs14).then hs48 (λb hb=>.inr (hup b hb)),b11,m1,m2,rfl,by omega,by omega,by omega,hB118,hM18,hM28⟩
  have hltj:j<a.mr.length:=by have h16:(j:Int)<(a.mr.length:Int):=h41;omega
  have htj:a.mr.take (j+1)=a.mr.take j++[a.mr[j]'hltj]:=List.take_succ_eq_append_getElem hltj
  have hnj:(a.mr[j]'hltj)∉a.mr.take j:=by
   intro hm
   obtain ⟨i,hi,e⟩:=List.getElem_of_mem hm
   rw[List.getElem_take] at e
   have hi':i<j:=by rw[List.length_take] at hi;omega
   have:=Yt.get ho.mri hltj hi'
   omega
  refine Qi<|Qg<|Qh<|Qc<|xii (i:=j) h8.mr rfl rfl hltj λa42 h42=>?_
  refine Zc (a.mr[j]'hltj) λs hs=>?_
  rw[hs] at h42 htj hnj
  refine x (Qw h42 rfl)<|Qf<|Qx<|Qb<|x (QE rfl)<|x (Qa rfl)<|x (Qd hB118 rfl rfl)<|Qb<|xl rfl<|Yv (k:=s) hM28 rfl rfl λw9 hs9 hM29=>xe ?_
  refine Qx<|x (Qy rfl rfl ⟨by omega,by omega⟩)<|Qb<|xe ?_
  refine ⟨j+1,by omega,⟨rfl,trivial⟩,hltj,hs8.trans' hs9,?_⟩
  rw[htj]
  have hM29':ZE X2 w9.heap m2 (mput ((a.mr.take j).map λs=>(s,Value.bool true)) s (.bool true)):=hM29
  rw[jB hnj] at hM29'
  exact hM29'
 have hlt:k<a.ed.length:=by have h16:(k:Int)<(a.ed.length:Int):=h22;omega
 have hsn:=qh (m:=[]) hlt
 refine Qi<|Qg<|Qh<|Qc<|xie (i:=k) h7.ed rfl rfl hlt λa23 h23=>?_
 refine Zc (a.ed[k]'hlt) λe he=>?_
 rw[he] at h23 hsn
 refine x (QJ h23 rfl rfl)<|xl rfl<|Qr (us:=[.int .i64 0,.int .i64 0,.int .i64 0]) rfl λb5 w10 hs10 hb5 hB5=>xl rfl<|Ql (us:=QC e) hB5 rfl rfl rfl rfl ⟨rfl,rfl,rfl,trivial⟩ λw11 hs11 hB511 =>
  xe ?_
 have hs711:Step [] w7 w11:=hs10.then1 hs11 hb5
 have hB1111:=hB117.ext hs711
 have hM111:ZE ZO w11.heap m1 (Jz [] (a.ed.take k)):=hM17.step hs711 (by simp)
 refine QT (Step [] w11) [(0,true),(1,true),(2,true),(3,true),(4,true),(5,true),(6,true),(7,true),(8,true),(9,true),(10,true),(11,false)] mixed (by rfl) (by kernel_rfl) (Step.drew _ _) ?_
 refine p (λ_=>Qo)<|p (λ_=>QE rfl)<|p (λ_=>Qa rfl)<|pq (λ_ hc=>Qd (hB1111.ext hc) rfl rfl) <|
  p (λ_=>Qa rfl)<|pq (λ_ hc=>Qd (hB511.ext hc) rfl rfl)<|p (λ_=>Qa rfl)<|pq (λ_ hc=>Qd (hB511.ext hc) rfl rfl) <|
  p (λ_=>QN ⟨rfl,rfl,trivial⟩)<|p (λ_=>Qa rfl)<|pq (λ_ hc=>Qd (hB511.ext hc) rfl rfl)<|pkl (hl:=by kernel_rfl)<|Yv (k:=(e.1,e.2.1)) (hM111.step (Step.drew [] w11) (by simp)) rfl rfl λw12 hs12 hM112 =>
  pe ?_
 refine Qx<|x (Qy rfl rfl ⟨by omega,by omega⟩)<|Qb<|xe ?_
 refine ⟨k+1,by omega,⟨rfl,trivial⟩,hlt,((hs7.trans hs711).trans (Step.drew [] w11)).trans' hs12,?_⟩
 rw[hsn];exact hM112
theorem Qdt (a b:Int) (v w:LI):Qdu (a::v) (b::w)=if a=b then Qdu v w else decide (a<b):=rfl
theorem Qfe {L L':LN}{w:World}{v v':Value}{l l':LI}(h:QL L w.heap v l) (h':QL L' w.heap v' l') :
  QG prog 83 [v,v'] w λr w'=>r=.bool (less l l')∧Step [] w w':=by
 have hle:=h.le
 have hle':=h'.le
 have hr:less l l'=if l.length≠l'.length then decide (l.length<l'.length) else Qdu l l':=rfl
 refine Zc (less l l') λR hR=>?_
 rw[hR] at hr ⊢
 have g1:QL [] w.heap v l:=h.up (by simp)
 have g2:QL [] w.heap v' l':=h'.up (by simp)
 refine QG.of_W func83 rfl ntmps83 results83 (by simp) ?_
 refine Qc<|Qf<|Qg<|Qc<|Qb<|x (Qs g1 rfl)<|Qb<|x (Qs g2 rfl)<|x (Q4 rfl rfl)<|xe ?_
 refine Q3 rfl (λh10=>?_) (λh10=>?_)
 ·have hne:l.length≠l'.length:=λe=>h10 (by rw[e])
  rw[if_pos hne] at hr
  refine Qc<|Qb<|x (Qs g1 rfl)<|Qb<|x (Qs g2 rfl)<|x (QB rfl rfl)<|Qf<|Qk ⟨[_],⟨rfl,trivial⟩,?_,Step.refl _ _⟩
  rw[hr]
  have:decide ((l.length:Int)<(l'.length:Int))=decide (l.length<l'.length):=by rw[decide_eq_decide];omega
  show Value.bool (decide ((l.length:Int)<(l'.length:Int)))=_
  rw[this]
 have heq:l.length=l'.length:=by
  have h11:(l.length:Int)=(l'.length:Int):=Decidable.not_not.1 h10
  omega
 rw[if_neg (by simpa using heq)] at hr
 refine Qi<|Qg<|Qc<|Qb<|x (Qs g1 rfl)<|Qb<|xe ?_
 refine Qh<|QA (α:=Nat) [(4,5),(18,39)] (λz=>[(18,.int .i64 z)]) (λz w'=>z≤l.length∧Step [] w w'∧Qdu (l.drop z) (l'.drop z)=R) (λz=>l.length - z) (by rfl) 0 ⟨rfl,trivial⟩ ⟨Nat.zero_le _,Step.refl _ _,hr.symm⟩ ?_
 rintro k g w1 ⟨hk,hs1,hk1⟩
 refine Qc<|x (QB rfl rfl)<|xe ?_
 refine Qg<|QD rfl (λh19=>?_) (λh19=>?_)
 ·refine Qz ?_
  have hke:l.length≤k:=by have h16:¬(k:Int)<(l.length:Int):=h19;omega
  rw[List.drop_of_length_le hke] at hk1
  have hR0:R=false:=hk1.symm
  refine Qc<|Qf ?_
  exact Qk ⟨[_],⟨rfl,trivial⟩,by rw[hR0];rfl,hs1⟩
 have hlt:k<l.length:=by have h16:(k:Int)<(l.length:Int):=h19;omega
 have hlt':k<l'.length:=by omega
 rw[List.drop_eq_getElem_cons hlt,List.drop_eq_getElem_cons hlt',Qdt] at hk1
 refine Qi<|Qg<|Qh<|Qc<|Qb<|Qf<|Qg<|QT (Step [] w1) [(0,true),(1,true),(2,true),(3,true),(4,true),(5,true),(6,true),(7,true),(8,true)] mixed (by rfl) (by kernel_rfl) (Step.drew _ _) ?_
 refine p (λ_=>Qo)<|p (λ_=>Qo)<|pii (i:=k) rfl (g1.ext hs1) rfl rfl hlt λa23 h23=>?_
 refine Zc (l[k]'hlt) λx1 hx1=>?_
 rw[hx1] at h23 hk1
 refine pq (λ_ hc=>Qw (h23.st hc) rfl) <|
  p (λ_=>Qo)<|p (λ_=>Qo)<|pii (i:=k) rfl (g2.ext hs1) rfl rfl hlt' λa27 h27=>?_
 refine Zc (l'[k]'hlt') λx2 hx2=>?_
 rw[hx2] at h27 hk1
 refine pq (λ_ hc=>Qw (h27.st hc) rfl)<|p (λ_=>Q4 rfl rfl)<|pe ?_
 have hd:Step [] w1 { w1 with drawn:=w1.drawn+1 }:=Step.drew _ _
 have hs1d:=hs1.trans hd
 refine Q3 rfl (λh29=>?_) (λh29=>?_)
 ·rw[if_neg h29] at hk1
  refine Qg<|QT (Step [] { w1 with drawn:=w1.drawn+1 }) [(0,true),(1,true),(2,true),(3,true),(4,true),(5,true),(6,true),(7,true),(8,true),(9,true)] mixed (by rfl) (by kernel_rfl) (Step.drew _ _) ?_
  refine p (λ_=>Qo)<|p (λ_=>Qo)<|pii (i:=k) rfl (g1.ext hs1d) rfl rfl hlt λa32 h32=>?_
  rw[hx1] at h32
  refine pq (λ_ hc=>Qw (h32.st hc) rfl) <|
   p (λ_=>Qo)<|p (λ_=>Qo)<|pii (i:=k) rfl (g2.ext hs1d) rfl rfl hlt' λa36 h36=>?_
  rw[hx2] at h36
  refine pq (λ_ hc=>Qw (h36.st hc) rfl)<|p (λ_=>QB rfl rfl) <|
   p (λ_=>Qe)<|pe ?_
  exact Qk ⟨[.bool (decide (x1<x2))],⟨rfl,trivial⟩,by rw[←hk1];rfl,hs1d.trans (Step.drew _ _)⟩
 rw[if_pos (Decidable.not_not.1 h29)] at hk1
 refine Qi<|Qx<|x (Qy rfl rfl ⟨by omega,by omega⟩)<|Qb<|xe ?_
 exact ⟨k+1,by omega,⟨rfl,trivial⟩,hlt,hs1d,hk1⟩
end Go.Proofs.YtgmifemhkjdblaaGreatDoor
namespace Go.Lg
section
variable {P:Program} {n:Nat} {f:Fr} {w:World} {all:List Oper} {K:Fr→World→Prop}
def QkN (all:List Oper) (pre:List (Nat×Bool)) (k:Nat) (t:Pt):Bool :=
 Region.noSelect all.toArray && (pre.length+(t.len+1) == all.length) && Y1 all.toArray pre (Array.replicate all.length false) && (Region.ready .any all.toArray (Zr pre (Array.replicate all.length false)) == [k]) && QeT all.toArray t ((Zr pre (Array.replicate all.length false)).setIfInBounds k true)
theorem QiL {Q:Exit→Fr→World→Prop}{id:Nat}(C:World→Prop) (pre:List (Nat×Bool)) (k:Nat) (t:Pt) (hm:P.follows .mixedOrders=true) (hn:YW n all=true) (hp:QkN all pre k t=true)
  (hC:C { w with drawn:=w.drawn+1 }) (h:XP P all C (λf1 w1=>ZZ all f1 (QK all k)=true∧XO P (QK all k) f1 w1 λf' w'=>C w'∧XT P all C (λf w=>Q .normal f w) t f' w') pre f { w with drawn:=w.drawn+1 }):W P n (.region id all.toArray true) Q f w:=by
 simp only[QkN,Bool.and_eq_true,beq_iff_eq] at hp
 obtain ⟨⟨⟨⟨hs,hl⟩,hq⟩,hr⟩,ht⟩:=hp
 refine YF C hm hn ?_
 have h1:=ZI (K:=λf w=>Q .normal f w) (m:=t.len+1) hs pre (Array.replicate all.length false) f _ hC hq
  (B:=λf1 w1=>ZZ all f1 (QK all k)=true∧XO P (QK all k) f1 w1 λf' w'=>C w'∧XT P all C (λf w=>Q .normal f w) t f' w')
  (λf1 hB=>by
   refine YA (λh0=>(by rw[h0] at hr;cases hr)) ?_
   rw[hr]
   intro j hj o ho
   have hjk:j=k:=by simpa using hj
   subst hjk
   rw[Za ho] at hB
   rw[hB.1,cond_true]
   exact hB.2.mono λv w' hx=>⟨.inr (.inr hx.1),KS hs t _ _ _ (by simp[ZG]) hx.1 ht hx.2⟩) h
 rw[hl] at h1
 exact h1
end
end Go.Lg
namespace Go.Proofs.YtgmifemhkjdblaaGreatDoor
open Go.Lg
theorem At.sub {L:LN}{H:Array Obj}{a:Addr}{us:LV}(h:At L H a us) (n:Nat):At L H a (us.take n) :=
 ⟨h.out,h.lt,λj u hu=>by
  rw[List.getElem?_take] at hu
  split at hu
  ·exact h.cell j u hu
  ·cases hu⟩
abbrev Z6 (p:Vs):LV:=[.int .i64 p.x,.int .i64 p.y,.int .i64 p.b,.int .i64 p.v]
theorem UA (p:Vs):(Z6 p).length=4:=rfl
theorem Qe3:∀(es:List Ed) (s v:Int),(∀e∈es,0≤e.2.2)→-1≤nxt es s v
 | [],_,_,_=>Int.le_refl _
 | e::es,s,v,h=>by
  rw[nxt]
  split
  ·have:=h e List.mem_cons_self;omega
  ·exact Qe3 es s v (λx hx=>h x (List.mem_cons_of_mem _ hx))
theorem QeZ {a:QM}(ho:Q2 a) (s v:Int):-1≤nxt a.ed s v∧(nxt a.ed s v<a.st∨nxt a.ed s v=-1):=by
 have h1:=Qe3 a.ed s v (λe he=>(ho.ed e he).2.2.2.1)
 refine ⟨h1,?_⟩
 by_cases h:nxt a.ed s v<0
 ·right;omega
 ·left;exact Qe1 ho h
structure VsI (a b:QM) (V:List Vs):Prop where
 nd:(V.map Vs.ky).Nodup
 rg:∀p∈V,-1≤p.x∧(p.x<a.st∨p.x=-1)∧-1≤p.y∧(p.y<b.st∨p.y=-1)
 bk:∀(k:Nat) (h:k<V.length),V[k].b<(k:Int)
def cdV (m:Nat) (p:Int×Int):Int:=(p.1+1)*(m+1)+(p.2+1)
theorem Qj8 {n m:Nat}{x y:Int}(hx:-1≤x∧(x<n∨x=-1)) (hy:-1≤y∧(y<m∨y=-1)):0≤cdV m (x,y)∧cdV m (x,y)<(((n+1)*(m+1):Nat):Int):=by
 unfold cdV
 obtain ⟨u,hu⟩:∃u:Nat,x+1=u:=⟨(x+1).toNat,by omega⟩
 obtain ⟨v,hv⟩:∃v:Nat,y+1=v:=⟨(y+1).toNat,by omega⟩
 have hu1:u≤n:=by omega
 have hv1:v≤m:=by omega
 show 0≤(x+1)*((m:Int)+1)+(y+1)∧(x+1)*((m:Int)+1)+(y+1)<_
 rw[hu,hv]
 have h1:u*(m+1)+v<(n+1)*(m+1):=by
  have h2:u*(m+1)≤n*(m+1):=Nat.mul_le_mul_right _ hu1
  have h3:(n+1)*(m+1)=n*(m+1)+(m+1):=by rw[Nat.add_mul,Nat.one_mul]
  omega
 have e:((u:Int)*((m:Int)+1)+(v:Int))=((u*(m+1)+v:Nat):Int):=by push_cast;rfl
 rw[e]
 constructor <;> omega
theorem Qix {m:Nat}{x y x' y':Int}(hx:-1≤x) (hx':-1≤x') (hy:-1≤y∧(y<m∨y=-1)) (hy':-1≤y'∧(y'<m∨y'=-1)) (h:cdV m (x,y)=cdV m (x',y')):(x,y)=(x',y'):=by
 unfold cdV at h
 have h':(x+1)*((m:Int)+1)+(y+1)=(x'+1)*((m:Int)+1)+(y'+1):=h
 obtain ⟨u,hu⟩:∃u:Nat,x+1=u:=⟨(x+1).toNat,by omega⟩
 obtain ⟨u',hu'⟩:∃u':Nat,x'+1=u':=⟨(x'+1).toNat,by omega⟩
 obtain ⟨v,hv⟩:∃v:Nat,y+1=v:=⟨(y+1).toNat,by omega⟩
 obtain ⟨v',hv'⟩:∃v':Nat,y'+1=v':=⟨(y'+1).toNat,by omega⟩
 rw[hu,hu',hv,hv'] at h'
 have h1:u*(m+1)+v=u'*(m+1)+v':=by exact_mod_cast h'
 have hvm:v<m+1:=by omega
 have hvm':v'<m+1:=by omega
 have e1:u=u':=by
  have a1:(u*(m+1)+v) / (m+1)=u:=by rw[Nat.mul_comm,Nat.mul_add_div (by omega),Nat.div_eq_of_lt hvm,Nat.add_zero]
  have a2:(u'*(m+1)+v') / (m+1)=u':=by rw[Nat.mul_comm,Nat.mul_add_div (by omega),Nat.div_eq_of_lt hvm',Nat.add_zero]
  rw[←a1,←a2,h1]
 subst e1
 have e2:v=v':=by omega
 have:x=x'∧y=y':=⟨by omega,by omega⟩
 rw[this.1,this.2]
theorem VsI.len {a b:QM}(ha:Q2 a) (hb:Q2 b) {V:List Vs}(h:VsI a b V):V.length≤(a.st.toNat+1)*(b.st.toNat+1):=by
 have ha0:=ha.st0
 have hb0:=hb.st0
 have h1:=pig ((a.st.toNat+1)*(b.st.toNat+1)) ((V.map Vs.ky).map (cdV b.st.toNat)) (by
  unfold List.Nodup
  rw[List.pairwise_map]
  refine (List.Pairwise.imp_of_mem ?_ h.nd)
  intro p q hp hq hne e
  obtain ⟨p',hp',rfl⟩:=List.mem_map.1 hp
  obtain ⟨q',hq',rfl⟩:=List.mem_map.1 hq
  have r1:=h.rg p' hp'
  have r2:=h.rg q' hq'
  exact hne (Qix r1.1 r2.1 ⟨r1.2.2.1,by omega⟩ ⟨r2.2.2.1,by omega⟩ e)) (λx hx=>by
  obtain ⟨k,hk,rfl⟩:=List.mem_map.1 hx
  obtain ⟨p,hp,rfl⟩:=List.mem_map.1 hk
  have r1:=h.rg p hp
  exact Qj8 ⟨r1.1,by omega⟩ ⟨r1.2.2.1,by omega⟩)
 simpa using h1
theorem QjN {V W:List Vs}{i:Nat}(h:i<V.length):gV (V++W) i=gV V i:=by unfold gV;simp[List.getD,List.getElem?_append_left h]
theorem Qbp {V:List Vs}{i:Nat}(h:i<V.length):gV V i=V[i]'h:=by unfold gV;simp[List.getD,h]
theorem QfE {a:QM}(ho:Q2 a):-1≤fst a∧(fst a<a.st∨fst a=-1):=by
 have:=ho.st0
 unfold fst
 split
 ·exact ⟨by omega,.inr rfl⟩
 ·exact ⟨by omega,.inl (by omega)⟩
theorem VsI.one {a b:QM}(ha:Q2 a) (hb:Q2 b):VsI a b [⟨fst a,fst b,-1,0⟩]:=by
 have h1:=QfE ha
 have h2:=QfE hb
 refine ⟨by simp,λp hp=>?_,λk h=>?_⟩
 ·simp only[List.mem_singleton] at hp;subst hp;exact ⟨h1.1,h1.2,h2.1,h2.2⟩
 ·have hk:k=0:=by simpa using h
  subst hk;exact (by decide:(-1:Int)<0)
theorem VsI.add {a b:QM}(ha:Q2 a) (hb:Q2 b) {V:List Vs}(h:VsI a b V) {i:Nat}(hi:i<V.length) {p:Vs}{v:Int}(hk:(zI a b i p v).ky∉V.map Vs.ky):VsI a b (V++[zI a b i p v]):=by
 refine ⟨?_,λq hq=>?_,λk hk'=>?_⟩
 ·rw[List.map_append,List.nodup_append]
  refine ⟨h.nd,by simp,λx hx y hy e=>?_⟩
  simp only[List.map_cons,List.map_nil,List.mem_singleton] at hy
  subst hy;subst e;exact hk hx
 ·rcases List.mem_append.1 hq with hq | hq
  ·exact h.rg q hq
  ·simp only[List.mem_singleton] at hq;subst hq
   have r1:=QeZ ha p.x v
   have r2:=QeZ hb p.y v
   exact ⟨r1.1,r1.2,r2.1,r2.2⟩
 ·rw[List.getElem_append]
  split
  ·rename_i h1;exact h.bk k h1
  ·have:V.length≤k:=by omega
   simp only[List.getElem_singleton,zI]
   omega
theorem j0 (V:List Vs) (f k:Nat):lgW V (f+1) k=if 0≤(gV V k).b then (gV V k).v::lgW V f (gV V k).b.toNat else []:=rfl
open Tryz
instance:Bw prog 286 [.int .i64 0,.int .i64 0,.int .i64 0,.int .i64 0] [(0,2),(2,1),(3,1)]:=⟨by kernel_rfl,by decide⟩
abbrev stP (l:List (Int×Int)):List ((Int×Int)×Value):=l.map λs=>(s,Value.bool true)
abbrev VsO (base:Nat) (w:World) (v:Value) (l:List Vs):Prop:=w.ownsRow base 286 4 v l.length (l.flatMap Z6)
theorem VsO.snoc {base:Nat}{w:World}{v:Value}{l:List Vs}{p:Vs}(h:w.ownsRow base 286 4 v (l.length+1) (l.flatMap Z6++Z6 p)):VsO base w v (l++[p]):=by
 unfold VsO
 rw[List.length_append,List.flatMap_append];simpa using h
theorem QhC {p:Prop}{i:Decidable p}(h:(!@decide p i)=true):¬p:=by
 cases i with
 | isTrue hp=>cases h
 | isFalse hp=>exact hp
theorem Qe7 {p:Prop}{i:Decidable p}(h:(!@decide p i)=false):p:=by
 cases i with
 | isTrue hp=>exact hp
 | isFalse hp=>cases h
structure yb (H:Array Obj) (m:Nat) (V:List Vs):Prop where
 h:∃K:List (Int×Int),ZE ZO H m (stP K)∧∀k,k∈K↔k=(-1,-1)∨k∈V.map Vs.ky
theorem JP {H:Array Obj}{m:Nat}{K:List (Int×Int)}{k:Int×Int}(h:ZE ZO H m (mput (stP K) k (.bool true))):∃K',ZE ZO H m (stP K')∧∀x,x∈K'↔x=k∨x∈K:=by
 by_cases hk:k∈K
 ·refine ⟨K,?_,λx=>⟨.inr,λhx=>hx.elim (λe=>e ▸ hk) id⟩⟩
  have key:∀K:List (Int×Int),k∈K→mput (stP K) k (.bool true)=stP K:=by
   intro K
   induction K with
   | nil=>intro h;cases h
   | cons a K ih =>
    intro hm
    show (if a=k then (a,Value.bool true)::stP K else (a,Value.bool true)::mput (stP K) k (.bool true))=_
    by_cases e:a=k
    ·rw[if_pos e];rfl
    ·rw[if_neg e,ih ((List.mem_cons.1 hm).resolve_left (λh=>e h.symm))];rfl
  rw[key K hk] at h;exact h
 ·refine ⟨K++[k],?_,λx=>by rw[List.mem_append,List.mem_singleton];exact Or.comm⟩
  have:=jB hk
  rw[show mput (stP K) k (.bool true)=stP (K++[k]) from this] at h;exact h
theorem yb.ext {w w':World}{m:Nat}{V:List Vs}(h:yb w.heap m V) (hs:Step [] w w'):yb w'.heap m V:=let ⟨K,h1,h2⟩:=h.h;⟨K,h1.step hs (by simp),h2⟩
theorem zJ (a b:QM) (i:Nat) (p:Vs) (V:List Vs) (v:Int):((zI a b i p v).ky≠(-1,-1)∧(zI a b i p v).ky∉V.map Vs.ky∧lgA a b i p V v=V++[zI a b i p v])∨(((zI a b i p v).ky=(-1,-1)∨(zI a b i p v).ky∈V.map Vs.ky)∧lgA a b i p V v=V):=by
 unfold lgA
 by_cases h:(zI a b i p v).ky≠(-1,-1)∧(zI a b i p v).ky∉V.map Vs.ky
 ·exact .inl ⟨h.1,h.2,if_pos h⟩
 ·refine .inr ⟨?_,if_neg h⟩
  by_cases h1:(zI a b i p v).ky=(-1,-1)
  ·exact .inl h1
  ·exact .inr (Decidable.not_not.1 λh2=>h ⟨h1,h2⟩)
set_option maxRecDepth 4096 in
set_option maxHeartbeats 16000000 in
theorem Qdd {w:World}{vl:Value}{al:LI}{ba1 ba2 ba3 bb1 bb2 bb3:Nat}{a b:QM}{kd:Int}{g:Nat}{fn:Func}[Fu prog g fn] {cap:LV}(hal:QL [] w.heap vl al) (hMa:jd w.heap ba1 ba2 ba3 a) (hMb:jd w.heap bb1 bb2 bb3 b) (hoa:Q2 a) (hob:Q2 b)
  (hk:∀(s t:Int) (w1:World),Step [] w w1→QG prog g ([.agg #[.int .i64 s,.int .i64 t]]++cap) w1 λr w'=>r=.bool (!(UY a kd s == UY b kd t))∧Step [] w1 w') :
  QG prog 132 [vl,.pointer (some ⟨ba1,0,none⟩),.pointer (some ⟨bb1,0,none⟩),.func (.func g) #[] cap.toArray] w λr w'=>Step [] w w' ∧
   match lgL a b kd al ((a.st.toNat+1)*(b.st.toNat+1)+1) 0 [⟨fst a,fst b,-1,0⟩] with | none=>r=.tuple #[Zf,.bool false] | some u=>∃v,r=.tuple #[v,.bool true]∧Qt 3 w.heap.size w' v u:=by
 have hall:=hal.le
 have ha1:=hoa.st1
 have hb1:=hob.st1
 have hNle:(a.st.toNat+1)*(b.st.toNat+1)≤4097*4097:=Nat.mul_le_mul (by omega) (by omega)
 refine Zc ((a.st.toNat+1)*(b.st.toNat+1)) λN hN=>?_
 rw[hN] at hNle ⊢
 refine Zc (lgL a b kd al (N+1) 0 [⟨fst a,fst b,-1,0⟩]) λR hR=>?_
 rw[hR]
 refine QG.of_W func132 rfl ntmps132 results132 (by simp) ?_
 refine Qc<|x Qe<|Qf<|Qg<|QT (Step [] w) [(0,true),(1,true),(2,true),(3,true),(4,true),(5,true),(6,true),(7,true),(8,true),(9,false),(10,false)] mixed (by rfl) (by kernel_rfl) (Step.drew _ _) ?_
 refine p (λ_=>Qo)<|p (λ_=>QE rfl)<|p (λ_=>Qa rfl)<|pq (λ_ hc=>Qd (hMa.B.ext hc) rfl rfl)<|p (λ_=>Qo)<|p (λ_=>QE rfl) <|
  p (λ_=>Qa rfl)<|pq (λ_ hc=>Qd (hMb.B.ext hc) rfl rfl)<|p (λ_=>QN ⟨rfl,rfl,trivial⟩)<|pk<|Qr (us:=[.int .i64 0,.int .i64 0]) rfl λb10 w1 hs1 hb10 hB10=>⟨(Step.drew [] w).trans hs1,?_⟩
 refine pkl (hl:=by kernel_rfl)<|Ql (us:=[.int .i64 (fst a),.int .i64 (fst b)]) hB10 rfl rfl rfl rfl ⟨rfl,rfl,trivial⟩ λw2 hs2 hB102=>pe ?_
 have hb10':w.heap.size≤b10:=hb10
 have hs02:Step [] w w2:=((Step.drew [] w).trans hs1).then1 hs2 hb10'
 have hz02:=hs02.size
 have hl10:=hB102.lt
 refine Qc<|x (Qn hB102 rfl rfl)<|x (Zx [(0,[.int .i64 (fst a),.int .i64 (fst b)]),(1,[.int .i64 (-1)]),(2,[.int .i64 0])] ⟨rfl,rfl,rfl,rfl,rfl,rfl,trivial⟩)<|xl rfl<|QH (us:=[Z6 ⟨fst a,fst b,-1,0⟩]) rfl rfl (by decide) (by simp) ⟨rfl,rfl,trivial⟩ λb29 w3 hs3 hb29 hB29 =>
  Qf ?_
 have hs03:=hs02.trans hs3
 have hz3:=hs3.size
 have hl29:=hB29.lt
 have hB103:=hB102.ext hs3
 have hV3:VsO w.heap.size w3 (.slice (some ⟨b29,0,none⟩) 1 1) [⟨fst a,fst b,-1,0⟩]:=hB29.own (n:=1) (sz:=4) rfl (by omega) (by omega)
 refine QW (α:=Nat) [(30,33),(12,12)] (λz=>[(12,.map (some z))]) (λz w'=>Step [] w3 w'∧w3.heap.size≤z∧yb w'.heap z [⟨fst a,fst b,-1,0⟩]) (by rfl) ?_ ?_
 ·have hd3:Step [] w3 { w3 with drawn:=w3.drawn+1 }:=Step.drew _ _
  have hkm:∀(k:Int×Int),k∈[⟨fst a,fst b,-1,0⟩].map Vs.ky↔k=(fst a,fst b):=λk=>by simp[Vs.ky]
  refine QiL (Step [] w3) [(1,true),(3,true)] 0 (.fk [] 2 4 (.pl [(4,false),(5,true),(6,true)]) (.pl [(2,false),(5,true),(6,true)])) mixed (by rfl) (by kernel_rfl) (Step.drew _ _) ?_
  refine pq (λ_ hc=>Qn (hB103.ext hc) rfl rfl)<|p (λ_=>QN ⟨rfl,rfl,trivial⟩)<|pe ⟨rfl,ZU ZO λm w4 hs4 hm hM=>⟨hd3.trans hs4,tf<|pe ⟨⟨rfl,?_⟩,rfl,?_⟩⟩⟩
  ·have hm':w3.heap.size≤m:=hm
   refine Z9 (k:=(fst a,fst b)) hM rfl rfl λw5 hs5 hM5=>?_
   have hs35:=(hd3.trans hs4).then1 hs5 hm'
   obtain ⟨K1,hM5',hK1⟩:=JP (K:=[]) hM5
   refine ⟨hs35,?_⟩
   refine tp<|pk<|Z9 (k:=(-1,-1)) hM5' rfl rfl λw6 hs6 hM6=>⟨hs35.then1 hs6 hm',?_⟩
   refine p (λ_=>Qo)<|p (λ_=>Qe)<|pe ?_
   obtain ⟨K2,hM6',hK2⟩:=JP hM6
   exact ⟨m,⟨rfl,trivial⟩,hs35.then1 hs6 hm',hm',⟨K2,hM6',λk=>by rw[hK2,hK1,hkm];simp⟩⟩
  ·have hm':w3.heap.size≤m:=hm
   refine Z9 (k:=(-1,-1)) hM rfl rfl λw5 hs5 hM5=>?_
   have hs35:=(hd3.trans hs4).then1 hs5 hm'
   obtain ⟨K1,hM5',hK1⟩:=JP (K:=[]) hM5
   refine ⟨hs35,?_⟩
   refine tp<|pk<|Z9 (k:=(fst a,fst b)) hM5' rfl rfl λw6 hs6 hM6=>⟨hs35.then1 hs6 hm',?_⟩
   refine p (λ_=>Qo)<|p (λ_=>Qe)<|pe ?_
   obtain ⟨K2,hM6',hK2⟩:=JP hM6
   exact ⟨m,⟨rfl,trivial⟩,hs35.then1 hs6 hm',hm',⟨K2,hM6',λk=>by rw[hK2,hK1,hkm];simp[or_comm]⟩⟩
 rintro m g0 w4 ⟨hs4,hm4,hK4⟩
 have hs04:=hs03.trans hs4
 have hz4:=hs4.size
 have hmw:w.heap.size≤m:=by omega
 have hmob:m∉ob (.slice (some ⟨b29,0,none⟩) 1 1):=by
  intro h
  have h':m∈[b29]:=h
  simp only[List.mem_singleton] at h'
  omega
 refine Qg<|Qc<|Qf<|Qh<|QA (α:=Nat×Value×List Vs×Nat) [(8,9),(11,11),(13,14),(16,17),(34,108)] (λz=>[(8,Zf),(11,z.2.1),(13,.int .i64 z.1)]) (λz w'=>z.1≤z.2.2.1.length∧Step [] w w'∧VsO w.heap.size w' z.2.1 z.2.2.1∧yb w'.heap m z.2.2.1∧m∉ob z.2.1∧VsI a b z.2.2.1∧z.2.2.2+z.1=N+1∧lgL a b kd al z.2.2.2 z.1 z.2.2.1=R) (λz=>z.2.2.2) (by rfl) (0,.slice (some ⟨b29,0,none⟩) 1 1,[⟨fst a,fst b,-1,0⟩],N+1) ⟨rfl,rfl,rfl,trivial⟩
  ⟨Nat.zero_le _,hs04,Qu hV3 hs4,hK4,hmob,VsI.one hoa hob,rfl,hR⟩ ?_
 rintro ⟨i,vV,V,f⟩ g1 w5 ⟨hi,hs5,hV5,hK5,hmV,hVI,hf,hL⟩
 simp only[] at hi hV5 hK5 hmV hVI hf hL
 have hVlen:V.length≤N:=by rw[←hN];exact VsI.len hoa hob hVI
 have hge5:=Qq hV5
 have hz5:=hs5.size
 have hVA:Zw [] w5.heap vV V.length 4 (V.flatMap Z6):=QV hV5 (by omega) (by simp)
 refine Qg<|Qc<|Qb<|Qb<|x (Qs hVA rfl)<|x (QB rfl rfl)<|xe ?_
 refine QD rfl (λh37=>?_) (λh37=>?_)
 ·refine Qz ?_
  have hie:¬i<V.length:=by have h16:¬(i:Int)<(V.length:Int):=h37;omega
  have hR0:R=none:=by
   rw[←hL]
   cases f with
   | zero=>rfl
   | succ f=>rw[lgL,if_neg hie]
  rw[hR0]
  refine Qc<|x Qe<|Qf ?_
  exact Qk ⟨[Zf,.bool false],⟨rfl,rfl,trivial⟩,hs5,rfl⟩
 have hlt:i<V.length:=by have h16:(i:Int)<(V.length:Int):=h37;omega
 refine Exists.elim (show ∃f',f=f'+1 from ⟨f - 1,by omega⟩) λf' hff=>?_
 rw[hff] at hL
 rw[lgL,if_pos hlt] at hL
 have hgi:=Qbp hlt
 refine Qi<|Qg<|Qh<|Qg<|Qc<|Qb<|Qb<|Qb<|xig (g:=Z6) (i:=i) UA hVA rfl rfl hlt λa43 h43=>?_
 rw[←hgi] at h43
 refine Zc (gV V i) λpi hpi=>?_
 rw[hpi] at h43 hL
 refine x (Zd rfl)<|x (QJ (us:=[.int .i64 pi.x,.int .i64 pi.y]) (At.sub (h43.from 0) 2) rfl rfl) <|
  xl rfl<|xc (first:=[]) (capt:=cap) rfl<|(hk pi.x pi.y w5 hs5).mono ?_
 rintro r6 w6 ⟨rfl,hs6⟩
 refine xe ?_
 have hs06:=hs5.trans hs6
 have hz6:=hs6.size
 have hV6:=Qu hV5 hs6
 have hVA6:=hVA.ext hs6
 refine QY rfl (λh46=>?_) (λh46=>?_)
 ·have hc:lgC a b kd pi=true:=h46
  rw[if_pos hc] at hL
  rw[←hL]
  refine Qg<|Qc<|Qb<|Qf<|Qh<|QA (α:=Nat×Nat×Value×LI) [(8,8),(14,14),(48,66)] (λz=>[(8,z.2.2.1),(14,.int .i64 z.2.1)]) (λz w'=>z.2.1<V.length∧Step [] w6 w'∧Qt 3 w6.heap.size w' z.2.2.1 z.2.2.2∧z.2.2.2++lgW V z.1 z.2.1=lgW V (i+1) i∧z.2.1+1≤z.1∧z.2.2.2.length+z.1=i+1) (λz=>z.1) (by rfl) (i+1,i,Zf,[]) ⟨rfl,rfl,trivial⟩
   ⟨hlt,Step.refl _ _,QP _ _ _ _,rfl,Nat.le_refl _,by simp⟩ ?_
  rintro ⟨fu,k,vo,wd⟩ g2 w7 ⟨hkV,hs7,ho7,hw7,hfu,hwl⟩
  simp only[] at hkV ho7 hw7 hfu hwl
  have hVA7:=hVA6.ext hs7
  have hgk:=Qbp hkV
  have hbk:=hVI.bk k hkV
  have hge7:=Qq ho7
  have hz7:=hs7.size
  refine Exists.elim (show ∃fu',fu=fu'+1 from ⟨fu - 1,by omega⟩) λfu' hff2=>?_
  rw[hff2] at hw7
  rw[j0] at hw7
  refine Qg<|Qc<|Qb<|Qb<|xig (g:=Z6) (i:=k) UA hVA7 rfl rfl hkV λa50 h50=>?_
  rw[←hgk] at h50 hbk
  refine Zc (gV V k) λpq' hpq=>?_
  rw[hpq] at h50 hbk hw7
  refine x (Zd rfl)<|x (Qw (h50.fld 2 (.int .i64 pq'.b) rfl) rfl)<|x (ZM rfl rfl)<|xe ?_
  refine QD rfl (λh53=>?_) (λh53=>?_)
  ·refine Qz ?_
   have hb0:¬0≤pq'.b:=h53
   rw[if_neg hb0,List.append_nil] at hw7
   refine Qc<|Qb<|xl rfl<|xf<|(qK ho7 (by omega)).mono ?_
   rintro r8 w8 ⟨ho8,hs8⟩
   refine xe ?_
   refine Qc<|Qb<|x Qe<|Qf ?_
   rw[hw7] at ho8
   have hz06:=hs06.size
   exact Qk ⟨[vo,.bool true],⟨rfl,rfl,trivial⟩,(hs06.trans hs7).then hs8 (λb hb=>.inr (by have:=(hge7 b hb).1;omega)),vo,rfl,Zb ho8 hz06⟩
  have hb0:0≤pq'.b:=h53
  rw[if_pos hb0] at hw7
  have hbn:pq'.b=(pq'.b.toNat:Int):=by omega
  refine Qi<|Qg<|Qh<|Qx<|Qb<|Qb<|Qb<|xig (g:=Z6) (i:=k) UA hVA7 rfl rfl hkV λa62 h62=>?_
  rw[←hgk,hpq] at h62
  refine x (Zd rfl)<|x (Qw (h62.fld 3 (.int .i64 pq'.v) rfl) rfl) <|
   xl rfl<|QH (us:=[[.int .i64 pq'.v]]) rfl rfl (by decide) (by simp) ⟨rfl,rfl,trivial⟩ λb65 w9 hs9 hb65 hB65=>?_
  have hz9:=hs9.size
  refine xl rfl<|Q5 (news:=[.int .i64 pq'.v]) (L:=[]) (Qu ho7 hs9) rfl rfl rfl (hB65.at (by simp)) (by simp[Value.oneCell']) (by omega) (by omega) λv10 w10 ho10 hs10 hn10 =>
   Qf ?_
  have hs610:Step [] w6 w10:=(hs7.trans hs9).then hs10 (λb hb=>.inr (hge7 b hb).1)
  have hVA10:=hVA6.ext hs610
  refine Qx<|Qb<|Qb<|xig (g:=Z6) (i:=k) UA hVA10 rfl rfl hkV λa56 h56=>?_
  rw[←hgk,hpq] at h56
  refine x (Zd rfl)<|x (Qw (h56.fld 2 (.int .i64 pq'.b) rfl) rfl)<|x Qe <|
   xe ?_
  refine ⟨(fu',pq'.b.toNat,v10,wd++[pq'.v]),by simp only[];omega,⟨rfl,congrArg (Value.int .i64) hbn,trivial⟩,by simp only[];omega,hs610,Qt.snoc ho10,?_,by simp only[];omega,by simp only[List.length_append,List.length_singleton];omega⟩
  simp only[]
  rw[List.append_assoc];exact hw7
 have hc:¬lgC a b kd pi=true:=by
  intro h
  have h46':lgC a b kd pi=false:=h46
  rw[h46'] at h;cases h
 rw[if_neg hc] at hL
 refine Qi<|Qc<|Qb<|x (Qs (hal.ext hs06) rfl)<|Qb<|xe ?_
 refine Qh<|QA (α:=Nat×Value×List Vs) [(11,11),(16,17),(72,108)] (λz=>[(11,z.2.1),(72,.int .i64 z.1)]) (λz w'=>z.1≤al.length∧Step [] w w'∧VsO w.heap.size w' z.2.1 z.2.2∧yb w'.heap m z.2.2∧m∉ob z.2.1∧VsI a b z.2.2∧z.2.2=(al.take z.1).foldl (lgA a b i pi) V∧∃W,z.2.2=V++W) (λz=>al.length - z.1) (by rfl) (0,vV,V) ⟨rfl,rfl,trivial⟩
  ⟨Nat.zero_le _,hs06,hV6,hK5.ext hs6,hmV,hVI,rfl,[],by simp⟩ ?_
 rintro ⟨j,vU,U⟩ g3 w11 ⟨hj,hs11,hU11,hK11,hmU,hUI,hUf,⟨W,hUW⟩⟩
 simp only[] at hj hU11 hK11 hmU hUI hUf hUW
 have hUlen:U.length≤N:=by rw[←hN];exact VsI.len hoa hob hUI
 have hUl:V.length≤U.length:=by rw[hUW,List.length_append];omega
 have hiU:i<U.length:=by omega
 have hgeU:=Qq hU11
 have hz11:=hs11.size
 refine Qc<|x (QB rfl rfl)<|xe ?_
 refine Qg<|QD rfl (λh73=>?_) (λh73=>?_)
 ·refine Qz ?_
  have hje:al.length≤j:=by have h16:¬(j:Int)<(al.length:Int):=h73;omega
  rw[List.take_of_length_le hje] at hUf
  rw[←hUf] at hL
  refine Qx<|Qb<|x (Qy rfl rfl ⟨by omega,by omega⟩)<|Qf ?_
  exact ⟨(i+1,vU,U,f'),by simp only[];omega,⟨rfl,rfl,rfl,trivial⟩,hiU,hs11,hU11,hK11,hmU,hUI,by simp only[];omega,hL⟩
 have hltA:j<al.length:=by have h16:(j:Int)<(al.length:Int):=h73;omega
 have htj:al.take (j+1)=al.take j++[al[j]'hltA]:=List.take_succ_eq_append_getElem hltA
 have hgU:gV U i=pi:=by rw[hUW,QjN hlt];exact hpi
 refine Qi<|Qg<|Qh<|Qc<|xii (i:=j) (hal.ext hs11) rfl rfl hltA λa74 h74=>?_
 refine Zc (al[j]'hltA) λv hv=>?_
 rw[hv] at h74 htj
 have hUf':(al.take (j+1)).foldl (lgA a b i pi) V=lgA a b i pi U v:=by rw[htj,List.foldl_append,←hUf];rfl
 refine x (Qw h74 rfl)<|Qf<|Exists.elim (VL hU11 (by omega)) λg9 hg9=>Exists.elim hg9 λcap9 hvU=>?_
 have hUA:Zw [] w11.heap vU U.length 4 (U.flatMap Z6):=QV hU11 (by omega) (by simp)
 have hat:At [] w11.heap ⟨g9,0+i*4,none⟩ (Z6 pi):=by
  obtain ⟨a9,c9,e1,e2⟩:=Zw.at hUA hiU
  rw[Jr Z6 4 UA U i hiU,←Qbp hiU,hgU] at e2
  rw[hvU] at e1
  have e3:(⟨g9,0,none⟩:Addr)=a9:=by
   have:=Value.slice.inj e1
   exact Option.some.inj this.1
  rw[←e3,Yk] at e2
  exact e2
 have hat0:At [] w11.heap ⟨g9,0+i*4+0+0*1,none⟩ [.int .i64 pi.x]:=by
  have:=hat.fld 0 (.int .i64 pi.x) rfl
  rw[Yk] at this;exact this
 have hat1:At [] w11.heap ⟨g9,0+i*4+0+1*1,none⟩ [.int .i64 pi.y]:=by
  have:=hat.fld 1 (.int .i64 pi.y) rfl
  rw[Yk] at this;exact this
 have hMa11:=hMa.ext hs11
 have hMb11:=hMb.ext hs11
 refine QW (α:=Nat) [(76,94),(17,17)] (λz=>[(17,.pointer (some ⟨z,0,none⟩))]) (λz w'=>Step [] w11 w'∧w11.heap.size≤z∧QS w'.heap z 239 [.int .i64 (nxt a.ed pi.x v),.int .i64 (nxt b.ed pi.y v)]) (by rfl) ?_ ?_
 ·refine z7 (α:=Unit) (Step [] w11) [(0,true),(1,true),(2,true),(3,true),(4,true),(5,true),(6,true),(7,true),(9,true),(10,true),(11,true),(12,true),(13,true),(14,true),(15,true),(16,true)] [(8,false),(17,false),(18,true)] 19 17 [(20,false)] []
   [(76,94)] [(84,84),(93,94)] (λ_=>[(94,.agg [.int .i64 (nxt a.ed pi.x v),.int .i64 (nxt b.ed pi.y v)].toArray)]) (λ_ _ _=>True)
   (λv w'=>∃b,v=.pointer (some ⟨b,0,none⟩)∧w11.heap.size≤b∧QS w'.heap b 239 [.int .i64 0,.int .i64 0]) mixed (by rfl) (by kernel_rfl) (by rfl) rfl (Step.drew _ _) (by simp) ?_ ?_ ?_ ?_
  ·rintro v own wa wb ⟨b,rfl,hb,hB⟩ hs hn
   exact ⟨b,rfl,hb,hB.step hs (hn b (by simp[ow]))⟩
  ·intro z own wa wb h hs
   trivial
  ·rintro z g5 own wz v5 _ hCz ⟨b17,rfl,hb17,hB17⟩ _
   refine pkl (hl:=by kernel_rfl)<|Ql (us:=[.int .i64 (nxt a.ed pi.x v),.int .i64 (nxt b.ed pi.y v)]) hB17 rfl rfl rfl rfl ⟨rfl,rfl,trivial⟩ λw8 hs8 hB178=>pe ?_
   exact ⟨b17,⟨rfl,trivial⟩,hCz.then1 hs8 hb17,hb17,hB178⟩
  refine p (λ_=>Qo)<|p (λ_=>Qo)<|p (λ_=>Qo)<|p (λ_=>QR (show ev _ _=_ from hvU) rfl hiU)<|p (λ_=>Qa rfl) <|
   p (λ_=>YM (i:=0) rfl rfl (by decide))<|pq (λ_ hc=>Qw (hat0.st hc) rfl)<|p (λ_=>Qo)<|p (λ_=>Qo)<|p (λ_=>Qo)<|p (λ_=>Qo) <|
   p (λ_=>QR (show ev _ _=_ from hvU) rfl hiU)<|p (λ_=>Qa rfl)<|p (λ_=>YM (i:=1) rfl rfl (by decide))<|pq (λ_ hc=>Qw (hat1.st hc) rfl) <|
   p (λ_=>Qo)<|pe ⟨λg6 wf hCf=>Qr (us:=[.int .i64 0,.int .i64 0]) rfl λb wf' hsf hbf hBf=>⟨hsf,hCf.trans hsf,⟨b,rfl,Nat.le_trans hCf.size hbf,hBf⟩,λx hx=>?_⟩,?_⟩
  ·have hxe:x=b:=by
    have hx':x∈[b]:=hx
    simpa using hx'
   subst hxe
   exact ⟨hbf,hBf.lt⟩
  refine f2k λx1 p1 c1=>xf<|(zG (hMa11.ext c1) hoa pi.x v).mono ?_
  rintro r84 y1 ⟨rfl,hs1'⟩
  refine ⟨c1.trans hs1',[],hs1',(λb hb=>by cases hb),?_⟩
  refine f2k λx2 p2 c2=>xf<|(zG (hMb11.ext c2) hob pi.y v).mono ?_
  rintro r93 y2 ⟨rfl,hs2'⟩
  refine ⟨c2.trans hs2',[],hs2',(λb hb=>by cases hb),?_⟩
  refine f2p (λ_=>QN ⟨rfl,rfl,trivial⟩)<|f2e ?_
  exact ⟨(),⟨rfl,trivial⟩,trivial⟩
 rintro b17 g7 w12 ⟨hs12,hb17,hB17⟩
 have hs012:=hs11.trans hs12
 have hz12:=hs12.size
 have hl17:=hB17.lt
 refine Exists.elim (hK11.ext hs12).h λK hKKK=>And.elim (λhMK hKK=>?_) hKKK
 have hky:(zI a b i pi v).ky=(nxt a.ed pi.x v,nxt b.ed pi.y v):=rfl
 refine Qc<|Qb<|x (Qn hB17 rfl rfl)<|x (zw (s:=(nxt a.ed pi.x v,nxt b.ed pi.y v)) hMK rfl rfl)<|x (Zp rfl)<|xe ?_
 refine QY rfl (λh98=>?_) (λh98=>?_)
 ·have hnK:(nxt a.ed pi.x v,nxt b.ed pi.y v)∉K:=QhC h98
  have hnn:=λh=>hnK ((hKK _).2 h)
  rw[←hky] at hnn
  have hadd:lgA a b i pi U v=U++[zI a b i pi v]:=by
   rcases zJ a b i pi U v with ⟨_,_,h⟩ | ⟨h,_⟩
   ·exact h
   ·exact absurd h hnn
  rw[hadd] at hUf'
  have hmb:m∉ob vU:=hmU
  have hb17l:b17∉m::ob vU:=λhb=>by
   rcases List.mem_cons.1 hb with rfl | hb
   ·obtain ⟨K0,hM0,_⟩:=hK11.h
    have:=hM0.lt;omega
   ·have:=(hgeU b17 hb).2;omega
  have hm12:m<w12.heap.size:=hMK.lt
  have hd12:Step [] w12 { w12 with drawn:=w12.drawn+1 }:=Step.drew _ _
  refine QT (Step (m::ob vU) w12) [(0,true),(1,true),(2,true),(3,true),(4,true),(5,true),(6,true),(7,false),(8,false),(9,false),(10,true)] mixed (by rfl) (by kernel_rfl) (Step.drew _ _) ?_
  refine p (λ_=>Qo)<|pq (λ_ hc=>Qn (hB17.step hc hb17l) rfl rfl)<|p (λ_=>Qo)<|pq (λ_ hc=>Qn (hB17.step hc hb17l) rfl rfl) <|
   p (λ_=>Qo)<|p (λ_=>Qo)<|p (λ_=>Zx [(0,[.int .i64 (nxt a.ed pi.x v),.int .i64 (nxt b.ed pi.y v)]),(1,[.int .i64 i]),(2,[.int .i64 v])] ⟨rfl,rfl,rfl,rfl,rfl,rfl,trivial⟩)<|pk<|QH (us:=[Z6 (zI a b i pi v)]) rfl rfl (by decide) (by simp) ⟨rfl,rfl,trivial⟩ λb106 w13 hs13 hb106 hB106=>⟨(hd12.trans hs13).any,?_⟩
  have hs1113:=hs12.trans (hd12.trans hs13)
  have hz13:=(hd12.trans hs13).size
  refine pk<|Q5 (news:=Z6 (zI a b i pi v)) (L:=[]) (Qu hU11 hs1113) rfl rfl rfl (hB106.at (by simp)) (λu hu=>by
   simp only[List.mem_cons,List.not_mem_nil,or_false] at hu
   rcases hu with rfl | rfl | rfl | rfl <;> rfl) (by omega) (by have:=hs1113.size;omega) λv14 w14 ho14 hs14 hn14=>⟨(hd12.trans hs13).any.trans' (hs14.mono (λb hb=>List.mem_cons_of_mem _ hb)),?_⟩
  have hM14:ZE ZO w14.heap m (stP K):=(hMK.step (hd12.trans hs13) (by simp)).step hs14 hmb
  refine pk<|Yv (k:=(nxt a.ed pi.x v,nxt b.ed pi.y v)) hM14 rfl rfl λw15 hs15 hM15=>⟨((hd12.trans hs13).any.trans' (hs14.mono (λb hb=>List.mem_cons_of_mem _ hb))).trans' (hs15.mono (by simp)),?_⟩
  refine p (λ_=>Qe)<|pe ?_
  refine Exists.elim (JP hM15) λK' hKKK'=>And.elim (λhM15' hKK'=>?_) hKKK'
  have hm14:m∉ob v14:=λhb=>by
   rcases hn14 m hb with h9 | h9
   ·exact hmb h9
   ·have:=hm12;omega
  refine Qx<|x (Qy rfl rfl ⟨by omega,by omega⟩)<|Qb<|xe ?_
  have hs014:Step [] w w14:=(hs11.trans hs1113).then hs14 (λb hb=>.inr (hgeU b hb).1)
  refine ⟨(j+1,v14,U++[zI a b i pi v]),by simp only[];omega,⟨rfl,rfl,trivial⟩,hltA,hs014.then1 hs15 hmw,Qm (VsO.snoc ho14) hs15 (λb hb hmm=>by simp only[List.mem_singleton] at hmm;subst hmm;exact hm14 hb),⟨K',hM15',λk=>?_⟩,hm14,VsI.add hoa hob hUI hiU (λh=>hnn (.inr h)),hUf'.symm,W++[zI a b i pi v],by rw[hUW,List.append_assoc]⟩
  rw[hKK',hKK,List.map_append,List.mem_append]
  constructor
  ·rintro (h | h | h)
   ·exact .inr (.inr (by rw[h];simp[hky]))
   ·exact .inl h
   ·exact .inr (.inl h)
  ·rintro (h | h | h)
   ·exact .inr (.inl h)
   ·exact .inr (.inr h)
   ·exact .inl (by simpa[hky] using h)
 have hK:(nxt a.ed pi.x v,nxt b.ed pi.y v)∈K:=Qe7 h98
 have hnn:=(hKK _).1 hK
 rw[←hky] at hnn
 have hadd:lgA a b i pi U v=U:=by
  rcases zJ a b i pi U v with ⟨h1,h2,_⟩ | ⟨_,h⟩
  ·exact absurd hnn (λh=>h.elim h1 h2)
  ·exact h
 rw[hadd] at hUf'
 refine Qi<|Qx<|x (Qy rfl rfl ⟨by omega,by omega⟩)<|Qb<|xe ?_
 exact ⟨(j+1,vU,U),by simp only[];omega,⟨rfl,rfl,trivial⟩,hltA,hs012,Qu hU11 hs12,hK11.ext hs12,hmU,hUI,hUf'.symm,W,hUW⟩
def lgP (N:Nat) (a b:QM) (i:Nat) (v:Value) (w:World):Prop :=
 if i=1 then ∃b1 m1 m2,v=.pointer (some ⟨b1,0,none⟩)∧N≤b1∧N≤m1∧N≤m2∧jd w.heap b1 m1 m2 a
 else if i=3 then ∃b1 m1 m2,v=.pointer (some ⟨b1,0,none⟩)∧N≤b1∧N≤m1∧N≤m2∧jd w.heap b1 m1 m2 b
 else ∃bb,v=.pointer (some ⟨bb,0,none⟩)∧N≤bb∧QS w.heap bb 236 [.pointer none]
theorem QhL {N:Nat}{a b:QM}:∀i v w w',lgP N a b i v w→Step [] w w'→lgP N a b i v w':=by
 intro i v w w' h hs
 unfold lgP at h ⊢
 split
 ·rename_i h1;rw[if_pos h1] at h
  obtain ⟨b1,m1,m2,e,n1,n2,n3,hM⟩:=h
  exact ⟨b1,m1,m2,e,n1,n2,n3,hM.ext hs⟩
 ·rename_i h1;rw[if_neg h1] at h
  split
  ·rename_i h2;rw[if_pos h2] at h
   obtain ⟨b1,m1,m2,e,n1,n2,n3,hM⟩:=h
   exact ⟨b1,m1,m2,e,n1,n2,n3,hM.ext hs⟩
  ·rename_i h2;rw[if_neg h2] at h
   obtain ⟨bb,e,n1,hB⟩:=h
   exact ⟨bb,e,n1,hB.ext hs⟩
theorem Yj {κ:Type}{enc:κ→Value}{H:Array Obj}{b b' T:Nat}{m:List (κ×Value)}{cs:LV}(h:ZE enc H b m) (hB:QS H b' T cs):b≠b':=by
 intro e
 subst e
 obtain ⟨es,c,h1,_⟩:=h
 unfold QS at hB
 rw[h1] at hB
 cases hB
structure LgZ where
 p1:Nat
 p2:Nat
 p3:Nat
 q1:Nat
 q2:Nat
 q3:Nat
 b10:Nat
 b11:Nat
set_option maxHeartbeats 8000000 in
theorem Qbl {w:World}{va vm ve wa wm we:Value}{a b:QM}(hA:Zm [] w.heap va vm ve a) (hB:Zm [] w.heap wa wm we b) (kd:Int) :
  QG prog 82 [.agg #[va,.int .i64 a.st,vm,ve],.agg #[wa,.int .i64 b.st,wm,we],.int .i64 kd] w λr w'=>Step [] w w'∧∃v e,r=.tuple #[v,.bool e,.int .i64 (lgE a b kd)] ∧
   (lgE a b kd=0→match lgq a b kd with | none=>v=Zf∧e=true | some u=>e=false∧Qt 3 w.heap.size w' v u):=by
 refine Zc (lgE a b kd) λE hE=>?_
 refine Zc (lgq a b kd) λR hR=>?_
 rw[hE,hR]
 have onesA:ZD [va,.int .i64 a.st,vm,ve]:=⟨hA.al.one,rfl,hA.mr.one,hA.ed.one,trivial⟩
 have onesB:ZD [wa,.int .i64 b.st,wm,we]:=⟨hB.al.one,rfl,hB.mr.one,hB.ed.one,trivial⟩
 refine QG.of_W func82 rfl ntmps82 results82 (by simp) ?_
 refine Qc<|xl rfl<|QQ (us:=[va,.int .i64 a.st,vm,ve]) rfl λb3 w1 hs1 hb3 hB3=>xl rfl<|QQ (us:=[wa,.int .i64 b.st,wm,we]) rfl λb4 w2 hs2 hb4 hB4=>xl rfl<|QQ (us:=[.int .i64 kd]) rfl λb5 w3 hs3 hb5 hB5=>x Qe <|
  x Qe<|Qf ?_
 have hs03:=(hs1.trans hs2).trans hs3
 have hB33:=(hB3.ext hs2).ext hs3
 have hB43:=hB4.ext hs3
 refine Qg<|Qc<|x (Qd hB5 rfl rfl)<|x (Qn hB33 rfl rfl)<|x (Qn hB43 rfl rfl)<|xl rfl<|QH (us:=[[va,.int .i64 a.st,vm,ve],[wa,.int .i64 b.st,wm,we]]) rfl rfl (by decide) (by simp) ⟨rfl,rfl,rfl,rfl,trivial⟩ λb17 w4 hs4 hb17 hB17=>?_
 have hs04:=hs03.trans hs4
 have hAu:YG [] w4.heap (.slice (some ⟨b17,0,none⟩) 2 2) [⟨va,vm,ve,a⟩,⟨wa,wm,we,b⟩]:=⟨hB17.arr (by simp) (n:=2) (cap:=2) (sz:=4) rfl (by omega) (Nat.le_refl _),λp hp=>by
  simp only[List.mem_cons,List.not_mem_nil,or_false] at hp
  rcases hp with rfl | rfl
  ·exact hA.ext hs04
  ·exact hB.ext hs04⟩
 have hck:=Qbm hAu kd
 rw[show [(⟨va,vm,ve,a⟩:AV),⟨wa,wm,we,b⟩].map (·.a)=[a,b] from rfl,Qlg,hE] at hck
 refine xl rfl<|xf<|hck.mono ?_
 rintro r5 w5 ⟨rfl,hs5⟩
 refine Qf ?_
 have hs05:=hs04.trans hs5
 have hs35:=hs4.trans hs5
 refine Qc<|Qb<|x (Q4 rfl rfl)<|xe ?_
 refine Q3 rfl (λh20=>?_) (λh20=>?_)
 ·refine Qc<|Qb<|x Qe<|x Qe<|Qf ?_
  exact Qk ⟨[Zf,.bool false,.int .i64 E],⟨rfl,rfl,rfl,trivial⟩,hs05,Zf,false,rfl,λh0=>absurd h0 h20⟩
 have hE0:E=0:=Decidable.not_not.1 h20
 have hok:Q2 a∧Q2 b:=by
  have h1:lgE a b kd=0:=hE.trans hE0
  unfold lgE at h1
  by_cases h2:Y2 a≠0
  ·rw[if_pos h2] at h1;exact absurd h1 h2
  ·rw[if_neg h2] at h1
   by_cases h3:Y2 b≠0
   ·rw[if_pos h3] at h1;exact absurd h1 h3
   ·exact ⟨(Zs a).1 (Decidable.not_not.1 h2),(Zs b).1 (Decidable.not_not.1 h3)⟩
 refine Qi ?_
 have hB35:=hB33.ext hs35
 have hB45:=hB43.ext hs35
 have hB55:=hB5.ext hs35
 have hA5:=hA.ext hs05
 have hB5':=hB.ext hs05
 refine QW (α:=LgZ) [(22,25),(10,11)] (λz=>[(10,.pointer (some ⟨z.b10,0,none⟩)),(11,.pointer (some ⟨z.b11,0,none⟩))]) (λz w'=>Step [] w5 w'∧jd w'.heap z.p1 z.p2 z.p3 a∧jd w'.heap z.q1 z.q2 z.q3 b∧QS w'.heap z.b10 236 [.pointer (some ⟨z.p1,0,none⟩)]∧QS w'.heap z.b11 236 [.pointer (some ⟨z.q1,0,none⟩)]) (by rfl) ?_ ?_
 ·refine Qc7 (α:=LgZ) (Step [] w5) [(0,true),(2,true)] [1,3,4,5] [(6,false),(7,false)] [(23,23),(25,25),(10,11)] (lgP w5.heap.size a b)
   (λz=>[(23,.pointer (some ⟨z.p1,0,none⟩)),(25,.pointer (some ⟨z.q1,0,none⟩)),(10,.pointer (some ⟨z.b10,0,none⟩)),(11,.pointer (some ⟨z.b11,0,none⟩))])
   (λz w'=>jd w'.heap z.p1 z.p2 z.p3 a∧jd w'.heap z.q1 z.q2 z.q3 b∧QS w'.heap z.b10 236 [.pointer none]∧QS w'.heap z.b11 236 [.pointer none]∧(z.b10≠z.b11∧z.p1≠z.b10∧z.p1≠z.b11∧z.q1≠z.b10∧z.q1≠z.b11)∧w5.heap.size≤z.b10∧w5.heap.size≤z.b11)
   mixed (by rfl) (by kernel_rfl) (Step.drew _ _) (λ_ _ h1 h2=>h1.trans h2) QhL ?_ ?_
  ·rintro g w' ⟨⟨p1,p2,p3,e1,_,_,_,hMa⟩,⟨q1,q2,q3,e2,_,_,_,hMb⟩,⟨b10,e3,h10,hb10⟩,⟨b11,e4,h11,hb11⟩,_⟩ hdj
   refine ⟨⟨p1,p2,p3,q1,q2,q3,b10,b11⟩,⟨e1,e2,e3,e4,trivial⟩,hMa,hMb,hb10,hb11,?_,h10,h11⟩
   have d1:=hdj 4 (by simp) 5 (by simp) (by decide)
   have d2:=hdj 1 (by simp) 4 (by simp) (by decide)
   have d3:=hdj 1 (by simp) 5 (by simp) (by decide)
   have d4:=hdj 3 (by simp) 4 (by simp) (by decide)
   have d5:=hdj 3 (by simp) 5 (by simp) (by decide)
   rw[e3,e4] at d1
   rw[e1,e3] at d2
   rw[e1,e4] at d3
   rw[e2,e3] at d4
   rw[e2,e4] at d5
   simp only[ow,List.mem_singleton,forall_eq] at d1 d2 d3 d4 d5
   exact ⟨d1,d2,d3,d4,d5⟩
  ·refine pq (λ_ hc=>Qn (hB35.ext hc) rfl rfl)<|pq (λ_ hc=>Qn (hB45.ext hc) rfl rfl)<|pe ⟨⟨?_,?_,?_,?_,trivial⟩,?_⟩
   ·intro g w' hc
    refine xf<|(zH (hA5.ext hc) hok.1).mono ?_
    rintro r5 w6 ⟨hs6,b1,m1,m2,rfl,n1,n2,n3,hM⟩
    have hz:=hc.size
    exact ⟨hs6,⟨b1,m1,m2,rfl,Nat.le_trans hz n1,Nat.le_trans hz n2,Nat.le_trans hz n3,hM⟩,λc hc'=>by rw[List.mem_singleton.1 (show c∈[b1] from hc')];exact ⟨n1,hM.B.lt⟩⟩
   ·intro g w' hc
    refine xf<|(zH (hB5'.ext hc) hok.2).mono ?_
    rintro r5 w6 ⟨hs6,b1,m1,m2,rfl,n1,n2,n3,hM⟩
    have hz:=hc.size
    exact ⟨hs6,⟨b1,m1,m2,rfl,Nat.le_trans hz n1,Nat.le_trans hz n2,Nat.le_trans hz n3,hM⟩,λc hc'=>by rw[List.mem_singleton.1 (show c∈[b1] from hc')];exact ⟨n1,hM.B.lt⟩⟩
   ·intro g w' hc
    exact Qr (us:=[.pointer none]) rfl λb w5 hs5 hb hB=>⟨hs5,⟨b,rfl,Nat.le_trans hc.size hb,hB⟩,λc hc'=>by rw[List.mem_singleton.1 (show c∈[b] from hc')];exact ⟨hb,hB.lt⟩⟩
   ·intro g w' hc
    exact Qr (us:=[.pointer none]) rfl λb w5 hs5 hb hB=>⟨hs5,⟨b,rfl,Nat.le_trans hc.size hb,hB⟩,λc hc'=>by rw[List.mem_singleton.1 (show c∈[b] from hc')];exact ⟨hb,hB.lt⟩⟩
   rintro ⟨p1,p2,p3,q1,q2,q3,b10,b11⟩ g w6 hc6 ⟨hMa,hMb,hb10,hb11,hne,h10,h11⟩
   simp only[] at hMa hMb hb10 hb11 hne h10 h11
   have k1:=Yj hMa.e hb10
   have k2:=Yj hMa.m hb10
   have k3:=Yj hMb.e hb10
   have k4:=Yj hMb.m hb10
   have j1:=Yj hMa.e hb11
   have j2:=Yj hMa.m hb11
   have j3:=Yj hMb.e hb11
   have j4:=Yj hMb.m hb11
   refine pk<|QF (u:=.pointer (some ⟨p1,0,none⟩)) hb10 rfl rfl (by simp) rfl λw7 hs7 hb10'=>⟨hc6.then1 hs7 h10,?_⟩
   refine pkl (hl:=by kernel_rfl)<|QF (u:=.pointer (some ⟨q1,0,none⟩)) (hb11.step hs7 (by simp only[List.mem_singleton];exact λe=>hne.1 e.symm)) rfl rfl (by simp) rfl λw8 hs8 hb11'=>pe ?_
   have s1:∀{x:Nat},x≠b10→x∉[b10]:=λh hm=>h (List.mem_singleton.1 hm)
   have s2:∀{x:Nat},x≠b11→x∉[b11]:=λh hm=>h (List.mem_singleton.1 hm)
   exact ⟨⟨p1,p2,p3,q1,q2,q3,b10,b11⟩,⟨rfl,rfl,trivial⟩,(hc6.then1 hs7 h10).then1 hs8 h11,(hMa.step hs7 (s1 hne.2.1) (s1 k1) (s1 k2)).step hs8 (s2 hne.2.2.1) (s2 j1) (s2 j2),(hMb.step hs7 (s1 hne.2.2.2.1) (s1 k3) (s1 k4)).step hs8 (s2 hne.2.2.2.2) (s2 j3) (s2 j4),hb10'.step hs8 (s2 hne.1),hb11'⟩
 rintro ⟨p1,p2,p3,q1,q2,q3,b10,b11⟩ g w6 ⟨hs6,hMa,hMb,hb10,hb11⟩
 simp only[] at hMa hMb hb10 hb11
 have hs06:=hs05.trans hs6
 have hz06:=hs06.size
 have hB36:=hB35.ext hs6
 have hB46:=hB45.ext hs6
 have hB56:=hB55.ext hs6
 have hd6:Step [] w6 { w6 with drawn:=w6.drawn+1 }:=Step.drew _ _
 have hal:=hA.al.le
 have hbl:=hB.al.le
 have ha32:=hok.1.al_le
 have hb32:=hok.2.al_le
 refine Qg<|QT (Step [] w6) [(0,true),(1,true),(2,true),(3,true),(5,true),(6,true),(7,true),(4,false),(8,false),(9,true),(10,true),(11,true),(12,true),(13,true)] mixed (by rfl) (by kernel_rfl) (Step.drew _ _) ?_
 refine p (λ_=>Qa rfl)<|pq (λ_ hc=>Qd (hB36.ext hc) rfl rfl)<|p (λ_=>Qa rfl)<|pq (λ_ hc=>Qd (hB46.ext hc) rfl rfl) <|
  pq (λ_ hc=>Qd (hb10.ext hc) rfl rfl)<|pq (λ_ hc=>Qd (hb11.ext hc) rfl rfl)<|p (λ_=>Zk (l:=[]) (l':=[_,_,_])) <|
  pk<|xf<|(qH ((hA.al.ext hs06).ext hd6) ((hB.al.ext hs06).ext hd6) (by omega)).mono ?_
 rintro r7 w7 ⟨hs7,ho7⟩
 have hs67:=hd6.trans hs7
 have hz67:=hs67.size
 refine ⟨hs67,?_⟩
 have hul:(mrg (· || ·) a.al b.al).length≤64:=by
  have:=Vd (· || ·) a.al b.al
  omega
 have hS:=Qdd (kd:=kd) (g:=134) (cap:=[.pointer (some ⟨b10,0,none⟩),.pointer (some ⟨b5,0,none⟩),.pointer (some ⟨b11,0,none⟩)]) (Qt.ints (L:=[]) ho7 (by omega) (by simp)) (hMa.ext hs67) (hMb.ext hs67) hok.1 hok.2
  (λs t w8 hs8=>Qfk ((hb10.ext hs67).ext hs8) ((hb11.ext hs67).ext hs8) ((hB56.ext hs67).ext hs8) ((hMa.ext hs67).ext hs8) ((hMb.ext hs67).ext hs8) s t)
 have hlq:lgL a b kd (mrg (· || ·) a.al b.al) ((a.st.toNat+1)*(b.st.toNat+1)+1) 0 [⟨fst a,fst b,-1,0⟩]=R:=hR
 rw[hlq] at hS
 refine pk<|xf<|hS.mono ?_
 rintro r8 w8 ⟨hs8,hr8⟩
 have hs68:=hs67.trans hs8
 refine ⟨hs68,?_⟩
 have hsh:∃v e,r8=.tuple #[v,.bool e]∧(match R with | none=>v=Zf∧(!e)=true | some u=>(!e)=false∧Qt 3 w7.heap.size w8 v u):=by
  cases R with
  | none=>exact ⟨Zf,false,hr8,rfl,rfl⟩
  | some u=>obtain ⟨v,h1,h2⟩:=hr8;exact ⟨v,true,h1,rfl,h2⟩
 refine Exists.elim hsh λv hsh=>Exists.elim hsh λe hsh=>And.elim (λhre hsh=>?_) hsh
 refine p (λ_=>Qo)<|p (λ_=>Qj (show ev _ _=_ from hre) rfl)<|p (λ_=>Qj (show ev _ _=_ from hre) rfl)<|p (λ_=>Qe)<|p (λ_=>Qe)<|pe ?_
 refine Qc<|Qb<|Qb<|x (Zp rfl)<|x Qe<|x Qe<|Qf<|Qk ⟨[v,.bool (!e),.int .i64 0],⟨rfl,rfl,rfl,trivial⟩,hs06.trans hs68,v,!e,by rw[hE0];rfl,λ_=>?_⟩
 cases R with
 | none=>exact hsh
 | some u=>exact ⟨hsh.1,Zb hsh.2 (by omega)⟩
theorem Qct (V:List Vs):∀(f k:Nat),(lgW V f k).length≤f
 | 0,_=>Nat.le_refl _
 | f+1,k=>by
  rw[j0]
  split
  ·have:=Qct V f (gV V k).b.toNat
   simp only[List.length_cons];omega
  ·exact Nat.zero_le _
theorem Qcu {a b:QM}{kd:Int}{al:LI}:∀(f i:Nat) (V:List Vs) (u:LI),lgL a b kd al f i V=some u→u.length≤f+i
 | 0,_,_,_,h=>by cases h
 | f+1,i,V,u,h=>by
  rw[lgL] at h
  split at h
  ·split at h
   ·have e:(lgW V (i+1) i).reverse=u:=Option.some.inj h
    rw[←e,List.length_reverse]
    have:=Qct V (i+1) i;omega
   ·have:=Qcu f (i+1) _ u h;omega
  ·cases h
theorem QhK {a b:QM}(ha:Q2 a) (hb:Q2 b) {kd:Int}{u:LI}(h:lgq a b kd=some u):u.length≤17000000:=by
 have h1:=Qcu _ _ _ _ h
 have ha1:=ha.st1
 have hb1:=hb.st1
 have hNle:(a.st.toNat+1)*(b.st.toNat+1)≤4097*4097:=Nat.mul_le_mul (by omega) (by omega)
 omega
def cmK (a b:QM) (k:Nat):Option (LI):=(([1,2]:LI).take k).foldl (λz kd=>cm1 z (lgq a b kd)) none
theorem k12:∀{k:Nat}(h:k<[(1:Int),2].length),[(1:Int),2][k]'h=1∨[(1:Int),2][k]'h=2
 | 0,_=>.inl rfl
 | 1,_=>.inr rfl
 | k+2,h=>absurd h (by simp)
theorem Ql3 (a b:QM):cmK a b 2=cmW a b:=rfl
theorem j5 {a b:QM}(ha:Q2 a) (hb:Q2 b) {kd:Int}(h:kd=1∨kd=2):lgE a b kd=0:=by
 unfold lgE
 rw[if_neg (by simpa using (Zs a).2 ha),if_neg (by simpa using (Zs b).2 hb),if_neg (by omega)]
theorem QdF (c:ZB):cmE c false=if Y9 c≠0 then Y9 c else if suE c≠0 then suE c else lgE (YI c) (Un c) 1:=by
 unfold cmE own
 simp
set_option maxRecDepth 4096 in
set_option maxHeartbeats 8000000 in
theorem QbV {L:LN}{w:World}{c:CL}(h0:ZH L w.heap c) (hkb:Kb w 4096) :
  QG prog 32 [c.val,.bool false] w λr w'=>Step [] w w'∧∃v e,r=.tuple #[v,.bool e,.int .i64 (cmE c.cel false)]∧(cmE c.cel false=0→e=(cmW (YI c.cel) (Un c.cel)).isNone):=by
 have h:=h0.up (L':=[]) (by simp)
 have hp:=QdF c.cel
 refine Zc (cmE c.cel false) λE hE=>?_
 rw[hE] at hp ⊢
 refine QG.of_W func32 rfl ntmps32 results32 (by simp) ?_
 refine Qc<|xl rfl<|QQ (us:=c.cells) rfl λb2 w1 hs1 hb2 hB2=>x Qe<|x Qe<|Qf<|Qc<|x (Qn hB2 rfl rfl)<|xl rfl<|xf<|(Jb (h.ext hs1) (hkb.ext hs1)).mono ?_
 rintro r2 w2 ⟨hs2,us,rfl,hul,huo,hgood⟩
 refine Qb<|x (Qj rfl rfl)<|x (Qj rfl rfl)<|xl rfl<|Qr (us:=qZ) rfl λb7 w3 hs3 hb7 hB7=>xl rfl<|Ql (us:=us) hB7 rfl rfl hul rfl huo λw4 hs4 hB74 =>
  Qf ?_
 have hs24:Step [] w2 w4:=hs3.then1 hs4 hb7
 have hs14:=hs2.trans hs24
 have hs04:=hs1.trans hs14
 refine Qg<|Qc<|Qb<|x (Q4 rfl rfl)<|xe ?_
 refine Q3 rfl (λh23=>?_) (λh23=>?_)
 ·rw[if_pos h23] at hp
  subst hp
  refine Qc<|Qb<|x Qe<|x Qe<|Qf ?_
  exact Qk ⟨[Zf,.bool false,.int .i64 (Y9 c.cel)],⟨rfl,rfl,rfl,trivial⟩,hs04,Zf,false,rfl,λh0=>absurd h0 h23⟩
 rw[if_neg h23] at hp
 have he:=Decidable.not_not.1 h23
 obtain ⟨t,ht,hok,hT⟩:=hgood he
 subst ht
 have hT4:qI [] w4.heap t:=(hT [] (by simp)).ext hs24
 obtain ⟨_,hoA⟩:=Jk he
 refine Qi<|Qc<|x (Qn (hB2.ext hs14) rfl rfl)<|xl rfl<|xf<|(Kz (h.ext hs04) (hkb.ext hs04)).mono ?_
 rintro r5 w5 ⟨hs5,sa,sm,se,rfl,hone,_,hgood5⟩
 refine Zc (if Y4 c.cel=0 then (Un c.cel).st else 0) λM hM=>?_
 rw[hM]
 refine Qb<|x (Qj rfl rfl)<|x (Qj rfl rfl)<|xl rfl<|Qr (us:=[nS,.int .i64 0,nS,nS]) rfl λb8 w6 hs6 hb8 hB8=>xl rfl<|Ql (us:=[sa,.int .i64 M,sm,se]) hB8 rfl rfl rfl rfl ⟨hone.1,rfl,hone.2.1,hone.2.2.1,trivial⟩ λw7 hs7 hB87 =>
  Qf ?_
 have hs57:Step [] w5 w7:=hs6.then1 hs7 hb8
 have hs47:=hs5.trans hs57
 have hs07:=hs04.trans hs47
 refine Qg<|Qc<|Qb<|x (Q4 rfl rfl)<|xe ?_
 refine Q3 rfl (λh31=>?_) (λh31=>?_)
 ·rw[if_pos h31] at hp
  subst hp
  refine Qc<|Qb<|x Qe<|x Qe<|Qf ?_
  exact Qk ⟨[Zf,.bool false,.int .i64 (suE c.cel)],⟨rfl,rfl,rfl,trivial⟩,hs07,Zf,false,rfl,λh0=>absurd h0 h31⟩
 rw[if_neg h31] at hp
 have hsu:=Decidable.not_not.1 h31
 have hoS:=ju hsu
 have hE0:E=0:=hp.trans (j5 hoA hoS (.inl rfl))
 have hMs:M=(Un c.cel).st:=by rw[←hM,if_pos (show Y4 c.cel=0 from hsu)]
 have hS7:Zm [] w7.heap sa sm se (Un c.cel):=(hgood5 hsu [] (by simp)).ext hs57
 refine Qi<|Qc<|x (Qa rfl)<|x (Zv (us:=[t.va,.int .i64 t.A.st,t.vm,t.ve]) (hB74.ext hs47) rfl rfl rfl)<|xl rfl<|Qr (us:=[nS,.int .i64 0,nS,nS]) rfl λb9 w8 hs8 hb9 hB9=>xl rfl<|Ql (us:=[t.va,.int .i64 t.A.st,t.vm,t.ve]) hB9 rfl rfl rfl rfl ⟨hT4.a.al.one,rfl,hT4.a.mr.one,hT4.a.ed.one,trivial⟩ λw9 hs9 hB99 =>
  xe ?_
 have hs79:Step [] w7 w9:=hs8.then1 hs9 hb9
 have hs09:=hs07.trans hs79
 have hB89:=hB87.ext hs79
 have hT9:qI [] w9.heap t:=(hT4.ext hs47).ext hs79
 have hS9:=hS7.ext hs79
 refine QW (α:=Unit) [(4,6),(10,11),(35,55)] (λz=>[(4,Zf)]) (λz w'=>w'=w9) (by rfl) ?_ ?_
 ·refine Qc<|Qb<|xe ?_
  refine Yr rfl ?_
  refine Qi ?_
  exact ⟨(),⟨rfl,trivial⟩,rfl⟩
 rintro z g w16 hw16
 subst hw16
 refine Qc<|Qf<|Qg<|Qc<|xl rfl<|QH (us:=[[.int .i64 1],[.int .i64 2]]) rfl rfl (by decide) (by simp) ⟨rfl,rfl,rfl,rfl,trivial⟩ λb56 w17 hs17 hb56 hB56=>?_
 have hI56:QL [] w17.heap (.slice (some ⟨b56,0,none⟩) 2 2) [1,2]:=hB56.arr (by simp) (n:=2) (cap:=2) (sz:=1) rfl (by omega) (Nat.le_refl _)
 refine x (Qs hI56 rfl)<|Qb<|xe ?_
 have hs017:=hs09.trans hs17
 refine Qh<|QA (α:=Nat×Value×Option (LI)) [(4,6),(13,16),(58,84)] (λz=>[(4,z.2.1),(5,.bool z.2.2.isNone),(58,.int .i64 z.1)]) (λz w'=>z.1≤2∧Step [] w17 w'∧z.2.2=cmK (YI c.cel) (Un c.cel) z.1∧∀u,z.2.2=some u→Qt 3 w.heap.size w' z.2.1 u∧u.length≤17000000) (λz=>2 - z.1) (by rfl) (0,Zf,none) ⟨rfl,rfl,rfl,trivial⟩
  ⟨Nat.zero_le _,Step.refl _ _,rfl,λu h=>by cases h⟩ ?_
 rintro ⟨k,v,o⟩ g w18 ⟨hk,hs18,ho,hov⟩
 simp only[] at hk ho hov
 have hs018:=hs017.trans hs18
 have hs918:=hs17.trans hs18
 refine Qc<|x (QB rfl rfl)<|xe ?_
 refine Qg<|QD rfl (λh59=>?_) (λh59=>?_)
 ·refine Qz ?_
  have hke:k=2:=by have h16:¬(k:Int)<(2:Nat):=h59;omega
  rw[hke,Ql3] at ho
  refine Qc<|Qb<|Qb<|x Qe<|x Qe<|Qf ?_
  exact Qk ⟨[v,.bool o.isNone,.int .i64 0],⟨rfl,rfl,rfl,trivial⟩,hs018,v,o.isNone,by rw[hE0];rfl,λ_=>by rw[ho]⟩
 have hlt:k<[(1:Int),2].length:=by have h16:(k:Int)<(2:Nat):=h59;simp;omega
 have hkd:=k12 hlt
 have hsuc:cmK (YI c.cel) (Un c.cel) (k+1)=cm1 (cmK (YI c.cel) (Un c.cel) k) (lgq (YI c.cel) (Un c.cel) ([(1:Int),2][k]'hlt)):=by
  unfold cmK
  rw[List.take_succ_eq_append_getElem hlt,List.foldl_append];rfl
 refine Qi<|Qg<|Qh<|Qc<|xii (i:=k) (hI56.ext hs18) rfl rfl hlt λa60 h60=>?_
 refine Zc ([(1:Int),2][k]'hlt) λkd hkd'=>?_
 rw[hkd'] at h60 hkd hsuc
 refine x (Qw h60 rfl)<|Qf ?_
 have hEq:=Qbl (hT9.a.ext hs918) (hS9.ext hs918) kd
 rw[hok.A] at hEq
 have hEq':QG prog 82 [.agg #[t.va,.int .i64 t.A.st,t.vm,t.ve],.agg #[sa,.int .i64 M,sm,se],.int .i64 kd] w18 λr w'=>Step [] w18 w'∧∃v e,r=.tuple #[v,.bool e,.int .i64 0]∧(match lgq (YI c.cel) (Un c.cel) kd with | none=>v=Zf∧e=true | some u=>e=false∧Qt 3 w18.heap.size w' v u):=by
  rw[hMs,hok.A]
  refine hEq.mono ?_
  rintro r w' ⟨a1,v,e,a2,a3⟩
  have hz:=j5 hoA hoS hkd
  rw[hz] at a2
  exact ⟨a1,v,e,a2,a3 hz⟩
 refine Qc<|x (Qn (hB99.ext hs918) rfl rfl)<|x (Qn (hB89.ext hs918) rfl rfl)<|Qb<|xl rfl<|xf<|hEq'.mono ?_
 rintro r19 w19 ⟨hs19,v',e',rfl,hm⟩
 have hs019:=hs018.trans hs19
 have hz018:=hs018.size
 refine Qb<|x (Qj rfl rfl)<|x (Qj rfl rfl)<|x (Qj rfl rfl)<|x Qe<|x Qe<|Qf<|Qg<|Qc<|Qb<|x (Q4 rfl rfl)<|xe ?_
 refine Q3 rfl (λh71=>?_) (λh71=>?_)
 ·exact absurd rfl h71
 refine Qi<|Zc (lgq (YI c.cel) (Un c.cel) kd) λq hq=>?_
 rw[hq] at hm hsuc
 have hql:∀u,q=some u→u.length≤17000000:=λu hu=>QhK hoA hoS (hq.trans hu)
 have hqe:e'=q.isNone:=by
  cases q with
  | none=>exact hm.2
  | some u=>exact hm.1
 have hqv:∀u,q=some u→Qt 3 w.heap.size w19 v' u:=λu hu=>by
  subst hu;exact Zb hm.2 hz018
 have hov19:∀u,o=some u→Qt 3 w.heap.size w19 v u∧u.length≤17000000:=λu hu=>⟨Qu (hov u hu).1 hs19,(hov u hu).2⟩
 rw[←ho] at hsuc
 refine QW (α:=Bool) [(73,82)] (λz=>[(82,.bool z)]) (λz w'=>Step [] w19 w'∧(z=true→∃u,q=some u∧cm1 o q=some u)∧(z=false→cm1 o q=o)) (by rfl) ?_ ?_
 ·refine Qx<|Qb<|xB (Zp rfl) (λh74=>?_) (λh74=>?_)
  ·have hqs:q.isNone=false:=by rw[←hqe];simpa using h74
   obtain ⟨u,hu⟩:∃u,q=some u:=by cases q with | none=>cases hqs | some u=>exact ⟨u,rfl⟩
   refine Qb<|xB Qo (λh76=>?_) (λh76=>?_)
   ·have hon:o=none:=by cases o with | none=>rfl | some u=>cases h76
    refine Qb<|xs rfl<|xs rfl<|xs rfl<|x (Qp rfl)<|x (Qp rfl)<|xe ?_
    exact ⟨true,⟨rfl,trivial⟩,Step.refl _ _,λ_=>⟨u,hu,by rw[hon,hu];rfl⟩,(λh=>by cases h)⟩
   obtain ⟨u0,hu0⟩:∃u0,o=some u0:=by cases o with | none=>cases h76 | some u=>exact ⟨u,rfl⟩
   have hI1:QL [] w19.heap v' u:=Qt.ints (hqv u hu) (by have:=hql u hu;omega) (by simp)
   have hI2:QL [] w19.heap v u0:=Qt.ints (hov19 u0 hu0).1 (by have:=(hov19 u0 hu0).2;omega) (by simp)
   refine Qb<|Qb<|Qb<|xl rfl<|xf<|(Qfe hI1 hI2).mono ?_
   rintro r20 w20 ⟨rfl,hs20⟩
   refine x (Qp rfl)<|x (Qp rfl)<|xe ?_
   refine ⟨less u u0,⟨rfl,trivial⟩,hs20,λhl=>⟨u,hu,?_⟩,λhl=>?_⟩
   ·rw[hu,hu0];show (if less u u0=true then some u else some u0)=_;rw[if_pos hl]
   ·rw[hu,hu0];show (if less u u0=true then some u else some u0)=_;rw[if_neg (by rw[hl];simp)]
  have hqn:q=none:=by
   have h75:e'=true:=by simpa using h74
   rw[hqe] at h75
   cases q with | none=>rfl | some u=>cases h75
  refine Qb<|xs rfl<|xs rfl<|xs rfl<|xs rfl<|xs rfl<|xs rfl<|x (Qp rfl)<|xe ?_
  exact ⟨false,⟨rfl,trivial⟩,Step.refl _ _,(λh=>by cases h),λ_=>by rw[hqn];rfl⟩
 rintro zb g w21 ⟨hs21,hzt,hzf⟩
 have hs1821:=hs19.trans hs21
 refine QY rfl (λh82=>?_) (λh82=>?_)
 ·obtain ⟨u,hu,hcm⟩:=hzt h82
  refine Qx<|Qb<|x Qe<|Qf<|Qx<|x (Qy rfl rfl ⟨by omega,by omega⟩)<|Qb<|xe ?_
  exact ⟨(k+1,v',some u),by simp only[];simp at hlt;omega,⟨rfl,rfl,rfl,trivial⟩,by simp at hlt;omega,hs18.trans hs1821,by simp only[];rw[hsuc,hcm],λu' h'=>by
   have:u=u':=Option.some.inj h'
   subst this
   exact ⟨Qu (hqv u hu) hs21,hql u hu⟩⟩
 have hcm:=hzf h82
 refine Qi<|Qx<|x (Qy rfl rfl ⟨by omega,by omega⟩)<|Qb<|xe ?_
 exact ⟨(k+1,v,o),by simp only[];simp at hlt;omega,⟨rfl,rfl,rfl,trivial⟩,by simp at hlt;omega,hs18.trans hs1821,by simp only[];rw[hsuc,hcm],λu' h'=>⟨Qu (hov19 u' h').1 hs21,(hov19 u' h').2⟩⟩
abbrev yW (s:Int):QM:=⟨[s,s+1],2,[0],[(0,s,1),(1,s+1,0)]⟩
theorem QcG {w:World}{nm:ByteArray}{s:Int}(hs:0≤s∧s<100) :
  QG prog 86 [.string nm,.int .i64 s] w λr w'=>Step [] w w'∧∃va vm ve,r=.agg #[.string nm,va,.int .i64 2,vm,ve]∧ZD [va,vm,ve]∧∀L:LN,(∀b∈L,b<w.heap.size)→Zm L w'.heap va vm ve (yW s):=by
 refine QG.of_W func86 rfl ntmps86 results86 (by simp) ?_
 refine Qc<|xl rfl<|Qr (us:=[.string .empty,nS,.int .i64 0,nS,nS]) rfl λb4 w1 hs1 hb4 hB4=>xe ?_
 refine Qc<|Qb<|Qb<|Qb<|x (Qy rfl rfl ⟨by omega,by omega⟩)<|xl rfl<|QH (us:=[[.int .i64 s],[.int .i64 (s+1)]]) rfl rfl (by decide) (by simp) ⟨rfl,rfl,rfl,rfl,trivial⟩ λb9 w2 hs2 hb9 hB9 =>
  xl rfl<|QH (us:=[[.int .i64 0]]) rfl rfl (by decide) (by simp) ⟨rfl,rfl,trivial⟩ λb10 w3 hs3 hb10 hB10=>Qb<|x (QN ⟨rfl,rfl,rfl,trivial⟩) <|
  Qb<|x (Qy rfl rfl ⟨by omega,by omega⟩)<|x (QN ⟨rfl,rfl,rfl,trivial⟩)<|xl rfl<|QH (us:=[QC (0,s,1),QC (1,s+1,0)]) rfl rfl (by decide) (show 2*3≤1000000 by omega) ⟨rfl,rfl,rfl,rfl,trivial⟩ λb16 w4 hs4 hb16 hB16 =>
  x (QN ⟨rfl,rfl,rfl,rfl,trivial⟩)<|x (Zx [(0,[.string nm]),(1,[.slice (some ⟨b9,0,none⟩) 2 2,.int .i64 2,.slice (some ⟨b10,0,none⟩) 1 1,.slice (some ⟨b16,0,none⟩) 2 2])] ⟨rfl,rfl,rfl,rfl,trivial⟩)<|xl rfl<|Ql (us:=[.string nm,.slice (some ⟨b9,0,none⟩) 2 2,.int .i64 2,.slice (some ⟨b10,0,none⟩) 1 1,.slice (some ⟨b16,0,none⟩) 2 2]) (((hB4.ext hs2).ext hs3).ext hs4) rfl rfl rfl rfl ⟨rfl,rfl,rfl,rfl,rfl,trivial⟩ λw5 hs5 hB45 =>
  xe ?_
 have hz1:=hs1.size
 have hz2:=hs2.size
 have hz3:=hs3.size
 have hz4:=hs4.size
 have hl4:=hB4.lt
 have hl9:=hB9.lt
 have hl10:=hB10.lt
 refine Qk ⟨[.agg [.string nm,.slice (some ⟨b9,0,none⟩) 2 2,.int .i64 2,.slice (some ⟨b10,0,none⟩) 1 1,.slice (some ⟨b16,0,none⟩) 2 2].toArray],⟨⟨_,rfl,Qv rfl (hB45.at (L:=[]) (by simp)).cells⟩,trivial⟩,(((hs1.trans hs2).trans hs3).trans hs4).then1 hs5 (by omega),_,_,_,rfl,⟨rfl,rfl,rfl,trivial⟩,λL hL=>?_⟩
 have k9:QS w5.heap b9 3 [.int .i64 s,.int .i64 (s+1)]:=(((hB9.ext hs3).ext hs4)).step hs5 (by simp only[List.mem_singleton];omega)
 have k10:QS w5.heap b10 3 [.int .i64 0]:=((hB10.ext hs4)).step hs5 (by simp only[List.mem_singleton];omega)
 have k16:QS w5.heap b16 126 [.int .i64 0,.int .i64 s,.int .i64 1,.int .i64 1,.int .i64 (s+1),.int .i64 0]:=hB16.step hs5 (by simp only[List.mem_singleton];omega)
 have nL:∀{b:Nat},w.heap.size≤b→b∉L:=λhb hm=>by have:=hL _ hm;omega
 exact ⟨k9.arr (nL (by omega)) (n:=2) (cap:=2) (sz:=1) rfl (by omega) (Nat.le_refl _),k10.arr (nL (by omega)) (n:=1) (cap:=1) (sz:=1) rfl (by omega) (Nat.le_refl _),k16.arr (nL (by omega)) (n:=2) (cap:=2) (sz:=3) rfl (by omega) (Nat.le_refl _)⟩
abbrev fs1:ByteArray:=⟨#[111,110,101]⟩
abbrev fs2:ByteArray:=⟨#[116,119,111]⟩
abbrev fs3:ByteArray:=⟨#[98,117,102,102,101,114]⟩
abbrev fcE:List KA:=[⟨⟨#[97]⟩,true,false,false,0⟩,⟨⟨#[98]⟩,false,false,false,0⟩,⟨⟨#[99]⟩,true,false,false,0⟩,⟨⟨#[100]⟩,false,false,false,0⟩]
def Je:ZB:=⟨fcE,[⟨fs1,yW 0⟩,⟨fs2,yW 2⟩],[⟨fs3,yW 1⟩],[],[]⟩
def fcP (N:Nat) (i:Nat) (v:Value) (w:World):Prop :=
 if i=4 then ∃b,v=.slice (some ⟨b,0,none⟩) 4 4∧N≤b∧QS w.heap b 97 (fcE.flatMap Zo)
 else if i=6 then ∃va vm ve,v=.agg #[.string fs1,va,.int .i64 2,vm,ve]∧ZD [va,vm,ve]∧∀L:LN,(∀b∈L,b<N)→Zm L w.heap va vm ve (yW 0)
 else if i=8 then ∃va vm ve,v=.agg #[.string fs2,va,.int .i64 2,vm,ve]∧ZD [va,vm,ve]∧∀L:LN,(∀b∈L,b<N)→Zm L w.heap va vm ve (yW 2)
 else if i=9 then Ku N w.heap v [⟨fs1,yW 0⟩,⟨fs2,yW 2⟩]
 else Ku N w.heap v [⟨fs3,yW 1⟩]
theorem Ku.ext {N:Nat}{w w':World}{v:Value}{l:List Jj}(h:Ku N w.heap v l) (hs:Step [] w w'):Ku N w'.heap v l:=let ⟨qs,h1,h2⟩:=h;⟨qs,h1,λL hL=>(h2 L hL).ext hs⟩
theorem Qh9 {N:Nat}:∀i v w w',fcP N i v w→Step [] w w'→fcP N i v w':=by
 intro i v w w' h hs
 unfold fcP at h ⊢
 by_cases h4:i=4
 ·rw[if_pos h4] at h ⊢
  obtain ⟨b,e,n,hB⟩:=h
  exact ⟨b,e,n,hB.ext hs⟩
 rw[if_neg h4] at h ⊢
 by_cases h6:i=6
 ·rw[if_pos h6] at h ⊢
  obtain ⟨va,vm,ve,e,o,hA⟩:=h
  exact ⟨va,vm,ve,e,o,λL hL=>(hA L hL).ext hs⟩
 rw[if_neg h6] at h ⊢
 by_cases h8:i=8
 ·rw[if_pos h8] at h ⊢
  obtain ⟨va,vm,ve,e,o,hA⟩:=h
  exact ⟨va,vm,ve,e,o,λL hL=>(hA L hL).ext hs⟩
 rw[if_neg h8] at h ⊢
 by_cases h9:i=9
 ·rw[if_pos h9] at h ⊢;exact Ku.ext h hs
 rw[if_neg h9] at h ⊢;exact Ku.ext h hs
theorem Xm {a:Array UInt8}(h:a.size≤100):Uj ⟨a⟩:=by
 show a.size≤_
 omega
theorem Ku.one {N:Nat}{H:Array Obj}{v:Value}{l:List Jj}(h:Ku N H v l):v.oneCell'=true:=by
 obtain ⟨qs,_,h2⟩:=h
 exact (h2 [] (by simp)).arr.one
set_option maxHeartbeats 4000000 in
theorem Js (w:World):QG prog 35 [] w λr w'=>Step [] w w'∧QiV w.heap.size w'.heap r Je:=by
 refine QG.of_W func35 rfl ntmps35 results35 (by simp) ?_
 refine Qc<|xl rfl<|Qr (us:=YN) rfl λb0 w1 hs1 hb0 hB0=>xe ?_
 refine Qc<|Qf<|Qc<|xl rfl<|QH (us:=[[.int .i64 1],[.int .i64 2]]) rfl rfl (by decide) (by simp) ⟨rfl,rfl,rfl,rfl,trivial⟩ λb3 w2 hs2 hb3 hB3=>xl rfl<|QH (us:=[[.int .i64 0]]) rfl rfl (by decide) (by simp) ⟨rfl,rfl,trivial⟩ λb4 w3 hs3 hb4 hB4 =>
  x (QN ⟨rfl,rfl,rfl,trivial⟩)<|x (QN ⟨rfl,rfl,rfl,trivial⟩)<|xl rfl<|QH (us:=[QC (0,1,1),QC (1,2,0)]) rfl rfl (by decide) (show 2*3≤1000000 by omega) ⟨rfl,rfl,rfl,rfl,trivial⟩ λb7 w4 hs4 hb7 hB7 =>
  x (QN ⟨rfl,rfl,rfl,rfl,trivial⟩)<|xl rfl<|Qr (us:=[nS,.int .i64 0,nS,nS]) rfl λb2 w5 hs5 hb2 hB2=>xl rfl<|Ql (us:=[.slice (some ⟨b3,0,none⟩) 2 2,.int .i64 2,.slice (some ⟨b4,0,none⟩) 1 1,.slice (some ⟨b7,0,none⟩) 2 2]) hB2 rfl rfl rfl rfl ⟨rfl,rfl,rfl,rfl,trivial⟩ λw6 hs6 hB26 =>
  xe ?_
 have hz1:=hs1.size
 have hz2:=hs2.size
 have hz3:=hs3.size
 have hz4:=hs4.size
 have hl0:=hB0.lt
 have hl3:=hB3.lt
 have hl4:=hB4.lt
 have hs46:Step [] w4 w6:=hs5.then1 hs6 hb2
 have hs16:=((hs2.trans hs3).trans hs4).trans hs46
 have hs06:=hs1.trans hs16
 have hz06:=hs06.size
 have hz16:=hs16.size
 have hB06:=hB0.ext hs16
 have k3:=((hB3.ext hs3).ext hs4).ext hs46
 have k4:=(hB4.ext hs4).ext hs46
 have k7:=hB7.ext hs46
 have hA6:∀{L:LN},(∀b∈L,b<w1.heap.size)→Zm L w6.heap (.slice (some ⟨b3,0,none⟩) 2 2) (.slice (some ⟨b4,0,none⟩) 1 1) (.slice (some ⟨b7,0,none⟩) 2 2) (yW 1):=λ{L} hL=>by
  have nL:∀{b:Nat},w1.heap.size≤b→b∉L:=λhb hm=>by have:=hL _ hm;omega
  exact ⟨k3.arr (nL (by omega)) (n:=2) (cap:=2) (sz:=1) rfl (by omega) (Nat.le_refl _),k4.arr (nL (by omega)) (n:=1) (cap:=1) (sz:=1) rfl (by omega) (Nat.le_refl _),k7.arr (nL (by omega)) (n:=2) (cap:=2) (sz:=3) rfl (by omega) (Nat.le_refl _)⟩
 refine QW (α:=CL) [(9,22)] (λz=>[]) (λz w'=>Step [] w w'∧QS w'.heap b0 38 z.cells∧z.cel=Je∧(∀L:LN,(∀b∈L,b<w.heap.size)→ZH L w'.heap z)) (by rfl) ?_ ?_
 ·refine Qgy (α:=Value×Value×Value) (Step [] w6) [(0,true),(1,true),(2,true),(3,true),(5,true),(7,true),(10,true),(11,true)] (λi=>if i=9 then [6,8] else []) [4,6,8,9,12] [(13,true),(14,false)] [(13,13),(15,15),(17,18),(21,21)] (fcP w1.heap.size)
   (λz=>[(13,z.1),(18,z.2.1),(21,z.2.2)])
   (λz w'=>(∃b,z.1=.slice (some ⟨b,0,none⟩) 4 4∧w1.heap.size≤b∧QS w'.heap b 97 (fcE.flatMap Zo))∧Ku w1.heap.size w'.heap z.2.1 [⟨fs1,yW 0⟩,⟨fs2,yW 2⟩]∧Ku w1.heap.size w'.heap z.2.2 [⟨fs3,yW 1⟩])
   mixed (by rfl) (by kernel_rfl) (Step.drew _ _) (λ_ _ h1 h2=>h1.trans h2) Qh9 ?_ ?_
  ·rintro g w' ⟨h4,_,_,h9,h12,_⟩ hdj
   exact ⟨(g 13,g 18,g 21),⟨rfl,rfl,rfl,trivial⟩,h4,h9,h12⟩
  ·refine p (λ_=>QN ⟨rfl,rfl,trivial⟩)<|p (λ_=>QN ⟨rfl,trivial⟩)<|p (λ_=>QN ⟨rfl,rfl,trivial⟩)<|p (λ_=>QN ⟨rfl,trivial⟩) <|
    p (λ_=>Qo)<|p (λ_=>Qo)<|pq (λ_ hc=>Qn (hB26.ext hc) rfl rfl)<|p (λ_=>Zx [(0,[.string fs3]),(1,[.slice (some ⟨b3,0,none⟩) 2 2,.int .i64 2,.slice (some ⟨b4,0,none⟩) 1 1,.slice (some ⟨b7,0,none⟩) 2 2])] ⟨rfl,rfl,rfl,rfl,trivial⟩) <|
    pe ⟨⟨?_,?_,?_,?_,?_,trivial⟩,?_⟩
   ·intro g w' hc _
    have hz:=hc.size
    exact QH (us:=[Zo ⟨⟨#[97]⟩,true,false,false,0⟩,Zo ⟨⟨#[98]⟩,false,false,false,0⟩,Zo ⟨⟨#[99]⟩,true,false,false,0⟩,Zo ⟨⟨#[100]⟩,false,false,false,0⟩]) rfl rfl (by decide) (show 4*5≤1000000 by omega) ⟨rfl,rfl,rfl,rfl,rfl,rfl,rfl,rfl,trivial⟩ λb w7 hs7 hb hB=>⟨hs7,⟨b,rfl,by omega,hB⟩,λc hc'=>by rw[List.mem_singleton.1 (show c∈[b] from hc')];exact ⟨hb,hB.lt⟩⟩
   ·intro g w' hc _
    have hz:=hc.size
    refine xc (first:=[]) (capt:=[]) rfl<|(QcG (nm:=fs1) (s:=0) (by omega)).mono ?_
    rintro r w7 ⟨hs7,va,vm,ve,rfl,ho,hA⟩
    exact ⟨hs7,⟨va,vm,ve,rfl,ho,λL hL=>hA L (λb hb=>by have:=hL b hb;omega)⟩,λc hc'=>by cases hc'⟩
   ·intro g w' hc _
    have hz:=hc.size
    refine xc (first:=[]) (capt:=[]) rfl<|(QcG (nm:=fs2) (s:=2) (by omega)).mono ?_
    rintro r w7 ⟨hs7,va,vm,ve,rfl,ho,hA⟩
    exact ⟨hs7,⟨va,vm,ve,rfl,ho,λL hL=>hA L (λb hb=>by have:=hL b hb;omega)⟩,λc hc'=>by cases hc'⟩
   ·rintro g w' hc ⟨⟨va,vm,ve,e6,o6,hA6'⟩,⟨va',vm',ve',e8,o8,hA8'⟩,_⟩
    have hz:=hc.size
    refine QH (us:=[Zi ⟨fs1,⟨va,vm,ve,yW 0⟩⟩,Zi ⟨fs2,⟨va',vm',ve',yW 2⟩⟩]) rfl rfl (by decide) (show 2*5≤1000000 by omega) ⟨congrArg Value.cells e6,rfl,congrArg Value.cells e8,rfl,trivial⟩ λb w7 hs7 hb hB=>⟨hs7,?_,λc hc'=>by rw[List.mem_singleton.1 (show c∈[b] from hc')];exact ⟨hb,hB.lt⟩⟩
    refine ⟨[⟨fs1,⟨va,vm,ve,yW 0⟩⟩,⟨fs2,⟨va',vm',ve',yW 2⟩⟩],rfl,λL hL=>⟨hB.arr (λhm=>by have:=hL _ hm;omega) (n:=2) (cap:=2) (sz:=5) rfl (by omega) (Nat.le_refl _),λq hq=>?_,λq hq=>?_⟩⟩
    ·simp only[List.mem_cons,List.not_mem_nil,or_false] at hq
     rcases hq with rfl | rfl
     ·exact (hA6' L hL).ext hs7
     ·exact (hA8' L hL).ext hs7
    ·simp only[List.mem_cons,List.not_mem_nil,or_false] at hq
     rcases hq with rfl | rfl
     ·exact Xm (by decide)
     ·exact Xm (by decide)
   ·intro g w' hc _
    have hz:=hc.size
    refine QH (us:=[Zi ⟨fs3,⟨.slice (some ⟨b3,0,none⟩) 2 2,.slice (some ⟨b4,0,none⟩) 1 1,.slice (some ⟨b7,0,none⟩) 2 2,yW 1⟩⟩]) rfl rfl (by decide) (show 1*5≤1000000 by omega) ⟨rfl,rfl,trivial⟩ λb w7 hs7 hb hB=>⟨hs7,?_,λc hc'=>by rw[List.mem_singleton.1 (show c∈[b] from hc')];exact ⟨hb,hB.lt⟩⟩
    refine ⟨[⟨fs3,⟨.slice (some ⟨b3,0,none⟩) 2 2,.slice (some ⟨b4,0,none⟩) 1 1,.slice (some ⟨b7,0,none⟩) 2 2,yW 1⟩⟩],rfl,λL hL=>⟨hB.arr (λhm=>by have:=hL _ hm;omega) (n:=1) (cap:=1) (sz:=5) rfl (by omega) (Nat.le_refl _),λq hq=>?_,λq hq=>?_⟩⟩
    ·simp only[List.mem_singleton] at hq
     subst hq
     exact ((hA6 hL).ext hc).ext hs7
    ·simp only[List.mem_singleton] at hq
     subst hq
     exact Xm (by decide)
   rintro ⟨v1,v2,v3⟩ g w9 hc9 ⟨⟨b,e,n,hB⟩,h9,h12⟩
   simp only[] at e h9 h12
   subst e
   have hB09:=hB06.ext hc9
   refine p (λ_=>Zx [(0,[.slice (some ⟨b,0,none⟩) 4 4]),(1,[v2]),(2,[v3])] ⟨rfl,rfl,Xl (Ku.one h9),rfl,Xl (Ku.one h12),rfl,trivial⟩)<|pkl (hl:=by kernel_rfl)<|Ql (us:=[.slice (some ⟨b,0,none⟩) 4 4,v2,v3,nS,nS]) hB09 rfl rfl rfl rfl ⟨rfl,Ku.one h9,Ku.one h12,rfl,rfl,trivial⟩ λw10 hs10 hB10=>pe ?_
   obtain ⟨q9,e9,hI9⟩:=h9
   obtain ⟨q12,e12,hI12⟩:=h12
   refine ⟨⟨.slice (some ⟨b,0,none⟩) 4 4,v2,v3,nS,nS,fcE,q9,q12,[],[]⟩,trivial,(hs06.trans hc9).then1 hs10 hb0,hB10,?_,λL hL=>?_⟩
   ·show ZB.mk fcE (q9.map IV.it) (q12.map IV.it) [] []=_
    rw[e9,e12];rfl
   ·have hL1:∀b'∈b0::L,b'<w1.heap.size:=λb' hb'=>by
     rcases List.mem_cons.1 hb' with rfl | hb'
     ·exact hl0
     ·have:=hL b' hb';omega
    have m1:∀b'∈[b0],b'∈b0::L:=λb' hb'=>by simp only[List.mem_singleton] at hb';simp[hb']
    have up1:∀b'∈L,b'∈b0::L∨w10.heap.size≤b':=λb' hb'=>.inl (List.mem_cons_of_mem _ hb')
    have hB':QS w10.heap b 97 (fcE.flatMap Zo):=hB.step hs10 (by simp only[List.mem_singleton];omega)
    refine ⟨⟨hB'.arr (λhm=>by have:=hL _ hm;omega) (n:=4) (cap:=4) (sz:=5) rfl (by omega) (Nat.le_refl _),λe he=>?_⟩,((hI9 _ hL1).st (hs10.mono m1)).up up1,((hI12 _ hL1).st (hs10.mono m1)).up up1,⟨Zw.nil _ _ 2,λq hq=>(by cases hq),λq hq=>(by cases hq)⟩,⟨Zw.nil _ _ 3,λq hq=>(by cases hq),λq hq=>(by cases hq)⟩⟩
    simp only[List.mem_cons,List.not_mem_nil,or_false] at he
    rcases he with rfl | rfl | rfl | rfl <;> exact Xm (by decide)
 rintro c g w9 ⟨hs9,hB9,hcel,hC⟩
 refine Qk ⟨[_],⟨⟨_,rfl,Qv rfl (hB9.at (L:=[]) (by simp)).cells⟩,trivial⟩,hs9,c,rfl,hcel,hC⟩
theorem QjV:Y9 Je=0:=by kernel_rfl
theorem QjW:(KR Je).ps=true:=by kernel_rfl
theorem QjX:(KR Je).nc=true:=by kernel_rfl
theorem Qib:(KR Je).sts.length=1:=by kernel_rfl
theorem Qia:decide (1<(KR Je).tg)=true:=by kernel_rfl
theorem Qid:pmE Je [0,1]=0:=by kernel_rfl
theorem Qic:pmL Je [0,1]=[2]:=by kernel_rfl
theorem Qif:mrE Je [0,1] 0=0:=by kernel_rfl
theorem Qie:mrL Je [0,1] 0=[0]:=by kernel_rfl
theorem Qih:cmE Je false=0:=by kernel_rfl
theorem Qig:(cmW (YI Je) (Un Je)).isNone=true:=by kernel_rfl
theorem QfU {w:World}{c:CL}(hC:ZH [] w.heap c) (hcel:c.cel=Je) (hkb:Kb w 4096) :
  QG prog 20 [c.val] w λr w'=>Step [] w w'∧∃ev f1 f2 vw vs tg,r=.tuple #[.agg #[.bool true,.int .i64 ev,.int .i64 f1,.int .i64 f2,.bool true,vw,vs,.int .i64 tg],.int .i64 0]∧ZD [vw,vs]∧(∃s,QL [] w'.heap vs [s])∧1<tg:=by
 refine (QbW hC hkb).mono ?_
 rintro r w' ⟨hs,us,rfl,_,ho,hg⟩
 rw[hcel,QjV] at *
 obtain ⟨vw,vs,rfl,hw,hv⟩:=hg rfl
 rw[QjW,QjX] at *
 have hl:=Qib
 obtain ⟨s,hs1⟩:∃s,(KR Je).sts=[s]:=by
  match (KR Je).sts,hl with
  | [s],_=>exact ⟨s,rfl⟩
 rw[hs1] at hv
 exact ⟨hs,_,_,_,vw,vs,_,rfl,⟨QO hw,QO hv,trivial⟩,⟨s,Qt.ints hv (by simp) (by simp)⟩,of_decide_eq_true Qia⟩
theorem QfS {w:World}{c:CL}{v:Value}(hC:ZH [] w.heap c) (hcel:c.cel=Je) (hv:QL [] w.heap v [0,1]) (hkb:Kb w 4096) :
  QG prog 11 [c.val,v] w λr w'=>Step [] w w'∧∃v',r=.tuple #[v',.int .i64 0]∧QL [] w'.heap v' [2]:=by
 refine (jc hC hv hkb).mono ?_
 rintro r w' ⟨hs,v',rfl,_,hg⟩
 rw[hcel,Qid] at *
 have h1:=hg rfl
 rw[Qic] at h1
 exact ⟨hs,v',rfl,Qt.ints h1 (by simp) (by simp)⟩
theorem QfR {w:World}{c:CL}{v:Value}(hC:ZH [] w.heap c) (hcel:c.cel=Je) (hv:QL [] w.heap v [0,1]) (hkb:Kb w 4096) :
  QG prog 12 [c.val,v,.int .i64 0] w λr w'=>Step [] w w'∧∃v',r=.tuple #[v',.int .i64 0]∧QL [] w'.heap v' [0]:=by
 refine (yH hC hv 0 hkb).mono ?_
 rintro r w' ⟨hs,v',rfl,_,hg⟩
 rw[hcel,Qif] at *
 have h1:=hg rfl
 rw[Qie] at h1
 exact ⟨hs,v',rfl,Qt.ints h1 (by simp) (by simp)⟩
theorem QfT {w:World}{c:CL}(hC:ZH [] w.heap c) (hcel:c.cel=Je) (hkb:Kb w 4096) :
  QG prog 32 [c.val,.bool false] w λr w'=>Step [] w w'∧∃v,r=.tuple #[v,.bool true,.int .i64 0]:=by
 refine (QbV hC hkb).mono ?_
 rintro r w' ⟨hs,v,e,rfl,hg⟩
 rw[hcel,Qih] at *
 have h1:=hg rfl
 rw[Qig] at h1
 subst h1
 exact ⟨hs,v,rfl⟩
abbrev rpF (ev f1 f2:Int) (vw vs:Value) (tg:Int):LV:=[.bool true,.int .i64 ev,.int .i64 f1,.int .i64 f2,.bool true,vw,vs,.int .i64 tg]
set_option maxHeartbeats 4000000 in
theorem U0 {w:World}(hkb:Kb w 4096):QG prog 9 [] w λr w'=>r=.bool true∧Step [] w w':=by
 refine QG.of_W func9 rfl ntmps9 results9 (by simp) ?_
 refine Qc<|Qf<|Qc<|xl rfl<|xf<|(Js w).mono ?_
 rintro r1 w1 ⟨hs1,⟨c1,rfl,hc1,hC1⟩⟩
 refine xl rfl<|xf<|(QfU (hC1 [] (by simp)) hc1 (hkb.ext hs1)).mono ?_
 rintro r2 w2 ⟨hs2,ev,f1,f2,vw,vs,tg,rfl,ho,⟨s,hvs⟩,htg⟩
 refine Qb<|x (Qj rfl rfl)<|x (Qj rfl rfl)<|xl rfl<|Qr (us:=rp0) rfl λb1 w3 hs3 hb1 hB1=>xl rfl<|Ql (us:=rpF ev f1 f2 vw vs tg) hB1 rfl rfl rfl rfl ⟨rfl,rfl,rfl,rfl,rfl,ho.1,ho.2.1,rfl,trivial⟩ λw4 hs4 hB14 =>
  Qf ?_
 have hs24:Step [] w2 w4:=hs3.then1 hs4 hb1
 have hs04:=(hs1.trans hs2).trans hs24
 refine Qc<|xl rfl<|xf<|(Js w4).mono ?_
 rintro r5 w5 ⟨hs5,⟨c5,rfl,hc5,hC5⟩⟩
 refine xl rfl<|QH (us:=[[.int .i64 0],[.int .i64 1]]) rfl rfl (by decide) (by simp) ⟨rfl,rfl,rfl,rfl,trivial⟩ λb17 w6 hs6 hb17 hB17=>xl rfl<|xf<|(QfS ((hC5 [] (by simp)).ext hs6) hc5 (hB17.arr (by simp) (n:=2) (cap:=2) (sz:=1) rfl (by omega) (Nat.le_refl _)) (((hkb.ext hs04).ext hs5).ext hs6)).mono ?_
 rintro r7 w7 ⟨hs7,v3,rfl,hv3⟩
 refine Qb<|x (Qj rfl rfl)<|x (Qj rfl rfl)<|x Qe<|Qf ?_
 have hs47:=(hs5.trans hs6).trans hs7
 have hs07:=hs04.trans hs47
 refine Qc<|xl rfl<|xf<|(Js w7).mono ?_
 rintro r8 w8 ⟨hs8,⟨c8,rfl,hc8,hC8⟩⟩
 refine xl rfl<|QH (us:=[[.int .i64 0],[.int .i64 1]]) rfl rfl (by decide) (by simp) ⟨rfl,rfl,rfl,rfl,trivial⟩ λb23 w9 hs9 hb23 hB23=>xl rfl<|xf<|(QfR ((hC8 [] (by simp)).ext hs9) hc8 (hB23.arr (by simp) (n:=2) (cap:=2) (sz:=1) rfl (by omega) (Nat.le_refl _)) (((hkb.ext hs07).ext hs8).ext hs9)).mono ?_
 rintro r10 w10 ⟨hs10,v5,rfl,hv5⟩
 refine Qb<|x (Qj rfl rfl)<|x (Qj rfl rfl)<|x Qe<|Qf ?_
 have hs710:=(hs8.trans hs9).trans hs10
 have hs010:=hs07.trans hs710
 refine Qc<|xl rfl<|xf<|(Js w10).mono ?_
 rintro r11 w11 ⟨hs11,⟨c11,rfl,hc11,hC11⟩⟩
 refine xl rfl<|xf<|(QfT (hC11 [] (by simp)) hc11 ((hkb.ext hs010).ext hs11)).mono ?_
 rintro r12 w12 ⟨hs12,v7,rfl⟩
 refine Qb<|x (Qj rfl rfl)<|x (Qj rfl rfl)<|x (Qj rfl rfl)<|x Qe<|x Qe<|Qf ?_
 have hs1012:=hs11.trans hs12
 have hs012:=hs010.trans hs1012
 have hs412:=(hs47.trans hs710).trans hs1012
 have hB112:=hB14.ext hs412
 have hvs12:QL [] w12.heap vs [s]:=(hvs.ext hs24).ext hs412
 have hv312:=(hv3.ext hs710).ext hs1012
 have hv512:=hv5.ext hs1012
 refine QW (α:=Unit) [(0,0),(33,88)] (λz=>[(0,.bool true)]) (λz w'=>Step [] w12 w') (by rfl) ?_ ?_
 ·refine Qx<|Qb<|xb (Zn rfl rfl) (λh34=>?_) (λh34=>absurd rfl h34)
  refine Qb<|x (Qa rfl)<|x (Qd (u:=.bool true) hB112 rfl rfl)<|x (Qp rfl)<|Qb<|x (Qa rfl)<|x (Qd (u:=.bool true) hB112 rfl rfl)<|x (Qp rfl)<|Qb<|x (Qa rfl)<|x (Qd hB112 rfl rfl)<|x (Qs hvs12 rfl)<|xb (Zn rfl rfl) (λh47=>?_) (λh47=>absurd rfl h47)
  refine x (Qp rfl)<|Qb<|x (Qa rfl)<|x (Qd hB112 rfl rfl)<|xb (ZL rfl rfl) (λh52=>?_) (λh52=>absurd htg h52)
  refine x (Qp rfl)<|Qb<|Qb<|xb (Zn rfl rfl) (λh56=>?_) (λh56=>absurd rfl h56)
  refine x (Qp rfl)<|Qb<|Qb<|xl rfl<|QH (us:=[[.int .i64 2]]) rfl rfl (by decide) (by simp) ⟨rfl,rfl,trivial⟩ λb60 w13 hs13 hb60 hB60=>xl rfl<|xf<|(zi (hv312.ext hs13) (yJ (L:=[]) hB60 (by simp))).mono ?_
  rintro r14 w14 ⟨rfl,hs14⟩
  have hs1214:=hs13.trans hs14
  refine x (Qp rfl)<|Qb<|Qb<|x (Qs (hv312.ext hs1214) rfl)<|xb (Zn rfl rfl) (λh66=>?_) (λh66=>absurd rfl h66)
  refine x (Qp rfl)<|Qb<|Qb<|xb (Zn rfl rfl) (λh70=>?_) (λh70=>absurd rfl h70)
  refine x (Qp rfl)<|Qb<|Qb<|xl rfl<|QH (us:=[[.int .i64 0]]) rfl rfl (by decide) (by simp) ⟨rfl,rfl,trivial⟩ λb74 w15 hs15 hb74 hB74=>xl rfl<|xf<|(zi ((hv512.ext hs1214).ext hs15) (yJ (L:=[]) hB74 (by simp))).mono ?_
  rintro r16 w16 ⟨rfl,hs16⟩
  have hs1216:=(hs1214.trans hs15).trans hs16
  refine x (Qp rfl)<|Qb<|Qb<|x (Qs (hv512.ext hs1216) rfl)<|xb (Zn rfl rfl) (λh80=>?_) (λh80=>absurd rfl h80)
  refine x (Qp rfl)<|Qb<|Qb<|xb (Zn rfl rfl) (λh84=>?_) (λh84=>absurd rfl h84)
  refine x (Qp rfl)<|Qb<|Qb<|x (Qp rfl)<|Qf ?_
  exact ⟨(),⟨rfl,trivial⟩,hs1216⟩
 rintro z g w17 hs17
 exact Qk ⟨[.bool true],⟨rfl,trivial⟩,rfl,hs012.trans hs17⟩
end Go.Proofs.YtgmifemhkjdblaaGreatDoor
