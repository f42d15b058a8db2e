/- Merged out of 32 texts. -/
import Derived.Test.YtdffckgdcegpaaaGreatDoorKkc
import Derived.Test.YtdffckgdcegpaaaGreatDoorKkd
import Derived.Test.YtdffckgdcegpaaaGreatDoorKkb
import Derived.Shelf.SlSortCmp.NoneTotal
import Derived.Ground.SlsfProg
import Derived.Test.YtdffckgdcegpaaaGreatDoorProg
import Derived.Tactics
namespace Go.Proofs.YtdffckgdcegpaaaGreatDoor
open Go.Proofs.Tryz
open Go.Lg
def J2 (co:LI) (ls:List (Int×Int)):List (Int×Int):=ls.map λl=>((lwB co l.1:Int),l.2)
theorem Qbq {co:LI}(hi:Yf co) {ls:List (Int×Int)}(h:mis co ls=false):J2 co ls=ixP co ls:=by
 unfold J2 ixP
 refine List.map_congr_left λl hl=>?_
 unfold mis at h
 have h1:=List.any_eq_false.1 h l hl
 have hm:l.1∈co:=by simpa using h1
 rw[Qbl hi hm]
abbrev exG (c:Zu) (i:Int):yf:=c.ex.getD i.toNat ⟨.empty,[]⟩
abbrev csG (c:Zu) (i:Int):Xb:=c.cs.getD i.toNat ⟨.empty,[],0⟩
def exB (c:Zu) (co ix:LI):List yf:=ix.map λi=>⟨(exG c i).nm,J2 co (exG c i).ls⟩
def csB (c:Zu) (co ix:LI):List Xb:=ix.map λi=>⟨(csG c i).nm,J2 co (csG c i).ts,(csG c i).bd⟩
def exM (c:Zu) (co ix:LI):Bool:=ix.any λi=>mis co (exG c i).ls
def csM (c:Zu) (co ix:LI):Bool:=ix.any λi=>mis co (csG c i).ts
theorem Qgn (c:Zu) (p:Prt):QjJ c p=(exM c p.co p.ex || csM c p.co p.cs):=rfl
theorem Qhe {c:Zu}{p:Prt}(hi:Yf p.co) (h:exM c p.co p.ex=false):exB c p.co p.ex=Qgm c p:=by
 unfold exB Qgm
 refine List.map_congr_left λi hi'=>?_
 rw[Qbq hi (by have:=List.any_eq_false.1 h i hi';simpa using this)]
theorem Qhl {c:Zu}{p:Prt}(hi:Yf p.co) (h:csM c p.co p.cs=false):csB c p.co p.cs=Qgo c p:=by
 unfold csB Qgo
 refine List.map_congr_left λi hi'=>?_
 rw[Qbq hi (by have:=List.any_eq_false.1 h i hi';simpa using this)]
def ck4:List (Value×LI×Int)→Int
 | []=>0
 | (_,s,n)::l=>if Xq n none s≠0 then Xq n none s else ck4 l
abbrev skC (x:Value×LI×Int):LV:=[x.1,.int .i64 x.2.2]
theorem Qid (x:Value×LI×Int):(skC x).length=2:=rfl
theorem jo:∀{l:List (Value×LI×Int)},ck4 l=0→∀x∈l,Xq x.2.2 none x.2.1=0
 | [],_,x,hx=>by cases hx
 | (v,s,n)::l,h,x,hx=>by
  rw[ck4] at h
  by_cases h1:Xq n none s≠0
  ·rw[if_pos h1] at h;exact absurd h h1
  ·rw[if_neg h1] at h
   rcases List.mem_cons.1 hx with rfl | hx
   ·exact Decidable.not_not.1 h1
   ·exact jo h x hx
theorem ZM.app2 {α:Type}{g:α→LV}{sz T:Nat}{p:α→Value×Nat×Nat×LV}{base N e:Nat}{w7 w8:World}{v v8:Value}{l:List α}{q:α}(h:ZM g sz T p base w7 v l)
  (hq:w7.ownsRow N e (p q).2.2.1 (p q).1 (p q).2.1 (p q).2.2.2) (hqn:(p q).2.1≤1099511627776) (hb:base≤N) (hav:∀b∈ob v,b<N)
  (ho:w8.ownsRow base T sz v8 (l.length+1) (l.flatMap g++g q)) (hs8:Step (ob v) w7 w8) (hn:∀b∈ob v8,b∈ob v∨w7.heap.size≤b):ZM g sz T p base w8 v8 (l++[q]):=by
 refine ⟨?_,λd hd=>?_⟩
 ·rw[List.length_append,List.flatMap_append];simpa using ho
 ·rcases List.mem_append.1 hd with hd | hd
  ·exact (h.each d hd).app hs8 hn
  ·simp only[List.mem_singleton] at hd;subst hd
   exact (ZE.of_own hq hqn hb hav).app hs8 hn
instance:Bw prog 47 [nS,nS,nS,nS,nS] [(0,1),(1,1),(2,1),(3,1),(4,1)]:=⟨by kernel_rfl,by decide⟩
theorem qC {v:Value}(h:v.oneCell'=true):v.cells=[v].toArray:=by
 cases v <;> first | rfl | cases h
theorem QeD {N M:Nat}{w':World}{v:Value}{qs:List IV}(h:∀L:LN,(∀b∈L,b<N)→YZ L w'.heap v qs) (hM:w'.heap.size=M) {L:LN}(hL:∀b∈L,b∉jX N M):YZ L w'.heap v qs:=by
 refine (h (L.filter λb=>decide (b<N)) (λb hb=>by have:=(List.mem_filter.1 hb).2;exact of_decide_eq_true this)).up (λb hb=>?_)
 by_cases hbN:b<N
 ·exact .inl (List.mem_filter.2 ⟨hb,decide_eq_true hbN⟩)
 ·refine .inr ?_
  have:=hL b hb
  rw[Yl] at this
  omega
structure EiA (L:LN) (H:Array Obj) (z:Value×Value×Value) (ev:List J0) (qc qr:List IV):Prop where
 ev:Kr L H z.1 ev
 co:YZ L H z.2.1 qc
 rq:YZ L H z.2.2 qr
theorem EiA.ext {L:LN}{w w':World}{z:Value×Value×Value}{ev:List J0}{qc qr:List IV}(h:EiA L w.heap z ev qc qr) (hs:Step [] w w'):EiA L w'.heap z ev qc qr:=⟨h.ev.ext hs,h.co.ext hs,h.rq.ext hs⟩
theorem EiA.st {L:LN}{w w':World}{z:Value×Value×Value}{ev:List J0}{qc qr:List IV}(h:EiA L w.heap z ev qc qr) (hs:Step L w w'):EiA L w'.heap z ev qc qr:=⟨h.ev.st hs,h.co.st hs,h.rq.st hs⟩
theorem EiA.up {L L':LN}{H:Array Obj}{z:Value×Value×Value}{ev:List J0}{qc qr:List IV}(h:EiA L H z ev qc qr) (hL:∀b∈L',b∈L∨H.size≤b):EiA L' H z ev qc qr:=⟨h.ev.up hL,h.co.up hL,h.rq.up hL⟩
set_option maxRecDepth 4096 in
set_option maxHeartbeats 16000000 in
theorem Qaw {L:LN}{w:World}{c:CL}{v0 v1 v2 v3:Value}{p:Prt}(h0:Zv L w.heap c) (hc0:QM L w.heap v0 p.co) (hr0:QM L w.heap v1 p.rq) (hx0:QM L w.heap v2 p.ex) (hk0:QM L w.heap v3 p.cs) :
  QL prog 33 [c.val,.agg #[v0,v1,v2,v3]] w λr w'=>Step [] w w'∧∃us,r=.tuple #[.agg us.toArray,.int .i64 (zh c.cel p)]∧us.length=5∧ZL us∧(zh c.cel p≠0→us=ZW)∧(zh c.cel p=0→QfU w.heap.size w'.heap (.agg us.toArray) (Qb8 c.cel p)):=by
 have h:=h0.up (L':=[]) (by simp)
 have hc:=hc0.up (L':=[]) (by simp)
 have hr:=hr0.up (L':=[]) (by simp)
 have hx:=hx0.up (L':=[]) (by simp)
 have hk:=hk0.up (L':=[]) (by simp)
 have hsel:zh c.cel p=if Zd c.cel≠0 then Zd c.cel else if ck4 [(v0,p.co,(c.co.length:Int)),(v1,p.rq,(c.rq.length:Int)),(v2,p.ex,(c.ex.length:Int)),(v3,p.cs,(c.cs.length:Int))]≠0 then ck4 [(v0,p.co,(c.co.length:Int)),(v1,p.rq,(c.rq.length:Int)),(v2,p.ex,(c.ex.length:Int)),(v3,p.cs,(c.cs.length:Int))]
   else if (exM c.cel p.co p.ex || csM c.cel p.co p.cs)=true then 13 else Zd (Qb8 c.cel p):=by
  have e1:c.cel.co.length=c.co.length:=List.length_map ..
  have e2:c.cel.rq.length=c.rq.length:=List.length_map ..
  have e3:c.cel.ex.length=c.ex.length:=List.length_map ..
  have e4:c.cel.cs.length=c.cs.length:=List.length_map ..
  unfold zh
  rw[e1,e2,e3,e4,Qgn]
  simp only[ck4]
  by_cases q0:Zd c.cel≠0
  ·rw[if_pos q0,if_pos q0]
  rw[if_neg q0,if_neg q0]
  by_cases q1:Xq (c.co.length:Int) none p.co≠0
  ·simp only[if_pos q1]
  simp only[if_neg q1]
  by_cases q2:Xq (c.rq.length:Int) none p.rq≠0
  ·simp only[if_pos q2]
  simp only[if_neg q2]
  by_cases q3:Xq (c.ex.length:Int) none p.ex≠0
  ·simp only[if_pos q3]
  simp only[if_neg q3]
  by_cases q4:Xq (c.cs.length:Int) none p.cs≠0
  ·simp only[if_pos q4]
  simp only[if_neg q4]
  simp
 refine Q8 (zh c.cel p) λE hE=>?_
 rw[hE] at hsel ⊢
 refine Q8 [(v0,p.co,(c.co.length:Int)),(v1,p.rq,(c.rq.length:Int)),(v2,p.ex,(c.ex.length:Int)),(v3,p.cs,(c.cs.length:Int))] λl4 hl4=>?_
 rw[hl4] at hsel
 have hl4n:l4.length=4:=by rw[←hl4];rfl
 have hl4i:∀x∈l4,QM [] w.heap x.1 x.2.1:=by
  rw[←hl4]
  intro x hm
  simp only[List.mem_cons,List.not_mem_nil,or_false] at hm
  rcases hm with rfl | rfl | rfl | rfl
  ·exact hc
  ·exact hr
  ·exact hx
  ·exact hk
 have hl4z:ck4 l4=0→Xq (c.co.length:Int) none p.co=0∧Xq (c.rq.length:Int) none p.rq=0∧Xq (c.ex.length:Int) none p.ex=0∧Xq (c.cs.length:Int) none p.cs=0:=by
  intro h0
  have h1:=jo h0
  rw[←hl4] at h1
  exact ⟨h1 (v0,p.co,_) (by simp),h1 (v1,p.rq,_) (by simp),h1 (v2,p.ex,_) (by simp),h1 (v3,p.cs,_) (by simp)⟩
 have hcl:=hc.le
 have hrl:=hr.le
 have hxl:=hx.le
 have hkl:=hk.le
 have hexl:=h.ex.arr.le
 have hcsl:=h.cs.arr.le
 refine QL.of_W func33 rfl ntmps33 results33 (by simp) ?_
 refine Qc<|xl rfl<|QR (us:=c.cells) rfl λb2 w1 hs1 hb2 hB2=>xl rfl<|QR (us:=[v0,v1,v2,v3]) rfl λb3 w2 hs2 hb3 hB3=>xl rfl<|Qu (us:=ZW) rfl λb4 w3 hs3 hb4 hB4=>Qe ?_
 have hz1:=hs1.size
 have hz2:=hs2.size
 have hz3:=hs3.size
 have hl2:=hB2.lt
 have hl3:=hB3.lt
 have hl4':=hB4.lt
 have hs03:=(hs1.trans hs2).trans hs3
 refine Qf<|Qc<|x (Qr ((hB2.ext hs2).ext hs3) rfl rfl)<|xl rfl<|xf<|(YM (h.ext hs03)).mono ?_
 rintro r4 w4 ⟨rfl,hs4⟩
 refine Qe ?_
 have hs04:=hs03.trans hs4
 have hz4:=hs4.size
 have hB24:=((hB2.ext hs2).ext hs3).ext hs4
 have hB34:=(hB3.ext hs3).ext hs4
 have hB44:=hB4.ext hs4
 refine Qc<|Qb<|x (Q9 rfl rfl)<|xe ?_
 refine Q6 rfl (λh27=>?_) (λh27=>?_)
 ·rw[if_pos h27] at hsel
  subst hsel
  refine Qc<|x (QE trivial)<|Qb<|xl rfl<|Qo (us:=ZW) hB44 rfl rfl rfl rfl ⟨rfl,rfl,rfl,rfl,rfl,trivial⟩ λw5 hs5 hB45=>Qe ?_
  exact Qm ⟨[.agg ZW.toArray,.int .i64 (Zd c.cel)],⟨⟨_,rfl,QA rfl (hB45.at (L:=[]) (by simp)).cells⟩,rfl,trivial⟩,hs04.then1 hs5 (by omega),ZW,rfl,rfl,⟨rfl,rfl,rfl,rfl,rfl,trivial⟩,λ_=>rfl,λh0=>absurd h0 h27⟩
 rw[if_neg h27] at hsel
 refine Qi ?_
 have h4:=h.ext hs04
 refine Qf<|Qc<|x (Qa rfl)<|x (Qd hB34 rfl rfl)<|x (Qa rfl)<|x (Qd hB24 rfl rfl)<|x (Qs h4.co.arr rfl)<|x (QE ⟨hc.cells,rfl,trivial⟩) <|
  x (Qa rfl)<|x (Qd hB34 rfl rfl)<|x (Qa rfl)<|x (Qd hB24 rfl rfl)<|x (Qs h4.rq.arr rfl)<|x (QE ⟨hr.cells,rfl,trivial⟩) <|
  x (Qa rfl)<|x (Qd hB34 rfl rfl)<|x (Qa rfl)<|x (Qd hB24 rfl rfl)<|x (Qs h4.ex.arr rfl)<|x (QE ⟨hx.cells,rfl,trivial⟩) <|
  x (Qa rfl)<|x (Qd hB34 rfl rfl)<|x (Qa rfl)<|x (Qd hB24 rfl rfl)<|x (Qs h4.cs.arr rfl)<|x (QE ⟨hk.cells,rfl,trivial⟩) <|
  xl rfl<|QD (us:=[skC (v0,p.co,(c.co.length:Int)),skC (v1,p.rq,(c.rq.length:Int)),skC (v2,p.ex,(c.ex.length:Int)),skC (v3,p.cs,(c.cs.length:Int))]) rfl rfl (by decide) (by simp) ⟨rfl,rfl,rfl,rfl,rfl,rfl,rfl,rfl,trivial⟩ λb54 w6 hs6 hb54 hB54=>?_
 have hA54:Zo [] w6.heap (.slice (some ⟨b54,0,none⟩) 4 4) l4.length 2 (l4.flatMap skC):=by
  have:=hB54.arr (L:=[]) (by simp) (n:=4) (cap:=4) (sz:=2) (by rfl) (by omega) (Nat.le_refl _)
  rw[hl4n,←hl4];exact this
 refine x (Qs hA54 rfl)<|Qb<|xe ?_
 have hs06:=hs04.trans hs6
 have hz6:=hs6.size
 refine Qg<|QC (α:=Nat) [(5,5),(8,9),(56,69)] (λz=>[(56,.int .i64 z)]) (λz w'=>z≤l4.length∧Step [] w6 w'∧ck4 (l4.drop z)=ck4 l4) (λz=>l4.length - z) (by rfl) 0 ⟨rfl,trivial⟩ ⟨Nat.zero_le _,Step.refl _ _,rfl⟩ ?_
 rintro k g w7 ⟨hkl4,hs67,hck⟩
 have hs07:=hs06.trans hs67
 have hz7:=hs67.size
 refine Qc<|x (QB rfl rfl)<|xe ?_
 refine Qf<|QH rfl (λh57=>?_) (λh57=>?_)
 ·refine Qz ?_
  have hke:l4.length≤k:=by have h16:¬(k:Int)<(l4.length:Int):=h57;omega
  rw[List.drop_of_length_le hke] at hck
  have hck0:ck4 l4=0:=hck.symm
  rw[if_neg (λh0=>h0 hck0)] at hsel
  obtain ⟨zco,zrq,zex,zcs⟩:=hl4z hck0
  have hco:=(YF _ _ _).1 zco
  have hrq:=(YF _ _ _).1 zrq
  have hexz:=(YF _ _ _).1 zex
  have hcsz:=(YF _ _ _).1 zcs
  have h7:=h.ext hs07
  have hB27:Q0 w7.heap b2 47 c.cells:=(hB24.ext hs6).ext hs67
  have hB37:Q0 w7.heap b3 95 [v0,v1,v2,v3]:=(hB34.ext hs6).ext hs67
  have hB47:Q0 w7.heap b4 47 ZW:=(hB44.ext hs6).ext hs67
  have hsd:Step [] w7 { w7 with drawn:=w7.drawn+1 }:=Step.drew _ _
  refine QV (α:=Nat×(Value×Value×Value)×List IV×List IV) [(70,83),(10,10)] (λz=>[(10,.pointer (some ⟨z.1,0,none⟩))]) (λz w'=>Step [] w7 w'∧w7.heap.size≤z.1∧Q0 w'.heap z.1 47 [z.2.1.1,z.2.1.2.1,z.2.1.2.2,nS,nS] ∧
   z.2.2.1.map IV.it=chs c.cel.co p.co∧z.2.2.2.map IV.it=chs c.cel.rq p.rq∧ZL [z.2.1.1,z.2.1.2.1,z.2.1.2.2]∧∀L:LN,(∀b∈L,b<w7.heap.size∨b=z.1)→EiA L w'.heap z.2.1 c.ev z.2.2.1 z.2.2.2) (by rfl) ?_ ?_
  ·refine qX (α:=(Value×Value×Value)×List IV×List IV) (Step [] w7) [(0,true),(1,true),(3,true),(4,true),(5,true),(6,true),(8,true),(9,true),(10,true),(11,true)] [(2,false),(7,false),(12,false),(13,true)] 14 10 [(15,false)] []
    [(70,83)] [(72,72),(77,77),(82,83)] (λz=>[(83,.agg [z.1.1,z.1.2.1,z.1.2.2,nS,nS].toArray)])
    (λz own w'=>(∀b∈own,w7.heap.size≤b)∧z.2.1.map IV.it=chs c.cel.co p.co∧z.2.2.map IV.it=chs c.cel.rq p.rq∧ZL [z.1.1,z.1.2.1,z.1.2.2]∧∀L:LN,(∀b∈L,b∉own)→EiA L w'.heap z.1 c.ev z.2.1 z.2.2)
    (λv w'=>∃b,v=.pointer (some ⟨b,0,none⟩)∧w7.heap.size≤b∧Q0 w'.heap b 47 ZW) mixed (by rfl) (by kernel_rfl) (by rfl) rfl hsd (by simp) ?_ ?_ ?_ ?_
   ·rintro v own wa wb ⟨b,rfl,hb,hB⟩ hs hn
    exact ⟨b,rfl,hb,hB.step hs (hn b (by simp[ow]))⟩
   ·rintro z own wa wb ⟨h1,h2,h3,h4,h5⟩ hs
    exact ⟨h1,h2,h3,h4,λL hL=>(h5 L hL).ext hs⟩
   ·rintro ⟨zv,qc,qr⟩ g own wz v ⟨i1,i2,i3,i4,i5⟩ hCz ⟨b10,rfl,hb10,hB10⟩ hbo
    simp only[] at i2 i3 i4 i5
    have hb10o:=(hbo b10 (by simp[ow])).1
    refine pkl (hl:=by kernel_rfl)<|Qo (us:=[zv.1,zv.2.1,zv.2.2,nS,nS]) hB10 rfl rfl rfl rfl ⟨i4.1,i4.2.1,i4.2.2.1,rfl,rfl,trivial⟩ λw8 hs8 hB108=>pe ?_
    refine ⟨(b10,zv,qc,qr),⟨rfl,trivial⟩,hCz.then1 hs8 hb10,hb10,hB108,i2,i3,i4,λL hL=>?_⟩
    have h1:=i5 (b10::L) (λb hb=>by
     rcases List.mem_cons.1 hb with rfl | hb
     ·exact hb10o
     ·rcases hL b hb with h2 | h2
      ·exact λh3=>by have:=i1 b h3;omega
      ·subst h2;exact hb10o)
    exact (h1.st (hs8.mono (by simp))).up (λb hb=>.inl (by simp[hb]))
   refine Go.Lg.p (λ_=>Qa rfl)<|pq (λ_ hc=>Qd (hB27.ext hc) rfl rfl)<|Go.Lg.p (λ_=>Qa rfl)<|pq (λ_ hc=>Qd (hB27.ext hc) rfl rfl) <|
    Go.Lg.p (λ_=>Qa rfl)<|pq (λ_ hc=>Qd (hB37.ext hc) rfl rfl)<|Go.Lg.p (λ_=>Qa rfl)<|pq (λ_ hc=>Qd (hB27.ext hc) rfl rfl) <|
    Go.Lg.p (λ_=>Qa rfl)<|pq (λ_ hc=>Qd (hB37.ext hc) rfl rfl)<|pe ⟨λg wf hCf=>Qu (us:=ZW) rfl λb wf' hsf hbf hBf=>⟨hsf,hCf.trans hsf,⟨b,rfl,Nat.le_trans hCf.size hbf,hBf⟩,λx hx=>?_⟩,?_⟩
   ·have hxe:x=b:=by
     have hx':x∈[b]:=hx
     simpa using hx'
    subst hxe
    exact ⟨hbf,hBf.lt⟩
   refine f2k λx1 p1 c1=>xf<|(Qas (h7.ev.ext c1).arr).mono ?_
   rintro r72 y1 ⟨hs1',ho1⟩
   refine ⟨c1.trans hs1',jX x1.heap.size y1.heap.size,hs1'.any,λb hb=>.inr (Yl.1 hb),?_⟩
   refine f2k λx2 p2 c2=>xf<|(UM (h7.co.ext c2) (hc.ext (hs07.trans c2)) (λi hi=>hco.1 i hi)).mono ?_
   rintro r77 y2 ⟨hs2',⟨qc,hqc,hqcI⟩,ho2⟩
   refine ⟨c2.trans hs2',jX x1.heap.size y1.heap.size++jX x2.heap.size y2.heap.size,hs2'.any,λb hb=>(List.mem_append.1 hb).imp id λhb=>Yl.1 hb,?_⟩
   refine f2k λx3 p3 c3=>xf<|(UM (h7.rq.ext c3) (hr.ext (hs07.trans c3)) (λi hi=>hrq.1 i hi)).mono ?_
   rintro r82 y3 ⟨hs3',⟨qr,hqr,hqrI⟩,ho3⟩
   refine ⟨c3.trans hs3',(jX x1.heap.size y1.heap.size++jX x2.heap.size y2.heap.size)++jX x3.heap.size y3.heap.size,hs3'.any,λb hb=>(List.mem_append.1 hb).imp id λhb=>Yl.1 hb,?_⟩
   refine f2p (λ_=>ZQ [(0,[r72]),(1,[r77]),(2,[r82])] ⟨Q3 ho1,rfl,qC ho2,rfl,qC ho3,rfl,trivial⟩)<|f2e ?_
   refine ⟨((r72,r77,r82),qc,qr),⟨rfl,trivial⟩,λb hb=>?_,hqc,hqr,⟨QF ho1,ho2,ho3,trivial⟩,λL hL=>?_⟩
   ·have e1:=c1.size
    have e2:=c2.size
    have e3:=c3.size
    rcases List.mem_append.1 hb with hb | hb
    ·rcases List.mem_append.1 hb with hb | hb
     ·have:=Yl.1 hb;omega
     ·have:=Yl.1 hb;omega
    ·have:=Yl.1 hb;omega
   ·have hL1:∀b∈L,b∉jX x1.heap.size y1.heap.size:=λb hb hm=>hL b hb (by simp[hm])
    have hL2:∀b∈L,b∉jX x2.heap.size y2.heap.size:=λb hb hm=>hL b hb (by simp[hm])
    have hL3:∀b∈L,b∉jX x3.heap.size y3.heap.size:=λb hb hm=>hL b hb (by simp[hm])
    have hev1:Kr L y1.heap r72 c.ev:=⟨QS ho1 h.ev.arr.le (λb hb hm=>hL1 b hm (Yl.2 (Qk ho1 b hb))),h.ev.nm⟩
    exact ⟨(((hev1.ext p2).ext hs2').ext p3).ext hs3',((QeD hqcI rfl hL2).ext p3).ext hs3',QeD hqrI rfl hL3⟩
  rintro ⟨b10,zv,qc,qr⟩ g wc ⟨hsc,hb10,hB10c,hqc,hqr,hone,hEi⟩
  simp only[] at hb10 hB10c hqc hqr hone hEi
  have hl10:=hB10c.lt
  have hzc:=hsc.size
  refine Qc<|xl rfl<|Qu (us:=[.bool false]) rfl λb11 w8 hs8 hb11 hB11=>xl rfl<|QG (j:=0) (u:=.bool false) hB11 rfl rfl (by simp) rfl λw9 hs9 hB119=>xe ?_
  have hsc9:Step [] wc w9:=hs8.then1 hs9 hb11
  have hs79:=hsc.trans hsc9
  have hs09:=hs07.trans hs79
  have hz9:=hsc9.size
  have hl11:=hB119.lt
  have hB109:=hB10c.ext hsc9
  have hB29:=hB27.ext hs79
  have hB39:=hB37.ext hs79
  have hB49:=hB47.ext hs79
  have h9:=h.ext hs09
  have hn10:b10≠b11:=by omega
  have hup:∀b∈[b10,b11],w.heap.size≤b:=λb hb=>by simp only[List.mem_cons,List.not_mem_nil,or_false] at hb;omega
  have hlt9:∀b∈[b10,b11],b<w9.heap.size:=λb hb=>by simp only[List.mem_cons,List.not_mem_nil,or_false] at hb;omega
  have hn2:b2∉[b10,b11]:=λhb=>by simp only[List.mem_cons,List.not_mem_nil,or_false] at hb;omega
  have hn3:b3∉[b10,b11]:=λhb=>by simp only[List.mem_cons,List.not_mem_nil,or_false] at hb;omega
  have hn4:b4∉[b10,b11]:=λhb=>by simp only[List.mem_cons,List.not_mem_nil,or_false] at hb;omega
  have hm10:∀b∈[b10],b∈[b10,b11]:=λb hb=>by simp only[List.mem_singleton] at hb;simp[hb]
  have hm11:∀b∈[b11],b∈[b10,b11]:=λb hb=>by simp only[List.mem_singleton] at hb;simp[hb]
  have ho1:=hone.1
  have ho2:=hone.2.1
  have ho3:=hone.2.2.1
  refine Qc<|x (Zl (l:=[]) (l':=[_,_]))<|Qe<|Qf<|Qc<|x (Qa rfl)<|x (Qd hB39 rfl rfl)<|x (Qs (hx.ext hs09) rfl)<|Qb<|xe ?_
  refine Qg<|QC (α:=Nat×Bool×Value×List XV) [(14,15),(17,17),(88,129)] (λz=>[(88,.int .i64 z.1)]) (λz w'=>z.1≤p.ex.length∧Step [b10,b11] w9 w'∧Q0 w'.heap b10 47 [zv.1,zv.2.1,zv.2.2,z.2.2.1,nS]∧Q0 w'.heap b11 4 [.bool z.2.1] ∧
   XvN w9.heap.size w' z.2.2.1 z.2.2.2∧z.2.2.2.map (·.x)=exB c.cel p.co (p.ex.take z.1)∧z.2.1=exM c.cel p.co (p.ex.take z.1)∧∀q∈z.2.2.2,VN q.nm) (λz=>p.ex.length - z.1) (by rfl) (0,false,nS,[]) ⟨rfl,trivial⟩
   ⟨Nat.zero_le _,Step.refl _ _,hB109,hB119,ZM.nil,rfl,rfl,λq hq=>by cases hq⟩ ?_
  rintro ⟨k,mi,vx,qx⟩ g w10 ⟨hk10,hs910,hB1010,hB1110,hX10,hx10,hmi,hnx⟩
  simp only[] at hk10 hB1010 hB1110 hX10 hx10 hmi hnx
  have hs010:Step [] w w10:=hs09.then hs910 (λb hb=>.inr (hup b hb))
  have h10:=h.ext hs010
  have hB210:=hB29.step hs910 hn2
  have hB310:=hB39.step hs910 hn3
  have hB410:=hB49.step hs910 hn4
  have hz10:=hs910.size
  have hqxl:qx.length=k:=by have:=congrArg List.length hx10;unfold exB at this;rw[List.length_map,List.length_map,List.length_take] at this;omega
  refine Qc<|x (QB rfl rfl)<|xe ?_
  refine Qf<|QH rfl (λh89=>?_) (λh89=>?_)
  ·refine Qz ?_
   have hke2:p.ex.length≤k:=by have h16:¬(k:Int)<(p.ex.length:Int):=h89;omega
   rw[List.take_of_length_le hke2] at hx10 hmi
   have hlt10:∀b∈[b10,b11],b<w10.heap.size:=λb hb=>by have:=hlt9 b hb;omega
   refine Qf<|Qc<|x (Qa rfl)<|x (Qd hB310 rfl rfl)<|x (Qs (hk.ext hs010) rfl)<|Qb<|xe ?_
   refine Qg<|QC (α:=Nat×Bool×Value×List KV) [(19,20),(22,22),(133,180)] (λz=>[(133,.int .i64 z.1)]) (λz w'=>z.1≤p.cs.length∧Step [b10,b11] w10 w'∧Q0 w'.heap b10 47 [zv.1,zv.2.1,zv.2.2,vx,z.2.2.1]∧Q0 w'.heap b11 4 [.bool z.2.1] ∧
    KvN w10.heap.size w' z.2.2.1 z.2.2.2∧z.2.2.2.map (·.k)=csB c.cel p.co (p.cs.take z.1)∧z.2.1=(mi || csM c.cel p.co (p.cs.take z.1))∧∀q∈z.2.2.2,VN q.nm) (λz=>p.cs.length - z.1) (by rfl) (0,mi,nS,[]) ⟨rfl,trivial⟩
    ⟨Nat.zero_le _,Step.refl _ _,hB1010,hB1110,ZM.nil,rfl,by simp[csM],λq hq=>by cases hq⟩ ?_
   rintro ⟨k,mk,vk,kx⟩ g u10 ⟨hkk10,ks910,kB1010,kB1110,kX10,hxk10,hmk,hnk⟩
   simp only[] at hkk10 kB1010 kB1110 kX10 hxk10 hmk hnk
   have ks010:Step [] w u10:=hs010.then ks910 (λb hb=>.inr (hup b hb))
   have k10:=h.ext ks010
   have kB210:=hB210.step ks910 hn2
   have kB310:=hB310.step ks910 hn3
   have kB410:=hB410.step ks910 hn4
   have kz10:=ks910.size
   have hkxl:kx.length=k:=by have:=congrArg List.length hxk10;unfold csB at this;rw[List.length_map,List.length_map,List.length_take] at this;omega
   refine Qc<|x (QB rfl rfl)<|xe ?_
   refine Qf<|QH rfl (λh89=>?_) (λh89=>?_)
   ·refine Qz ?_
    have hke2:p.cs.length≤k:=by have h16:¬(k:Int)<(p.cs.length:Int):=h89;omega
    rw[List.take_of_length_le hke2] at hxk10 hmk
    have hmm:mk=(exM c.cel p.co p.ex || csM c.cel p.co p.cs):=by rw[hmk,hmi]
    rw[←hmm] at hsel
    have kXu:XvN w9.heap.size u10 vx qx:=ZM.low hX10 ks910 hlt9
    refine Qf<|Qc<|x (Qd kB1110 rfl rfl)<|xe ?_
    refine Q2 rfl (λh181=>?_) (λh181=>?_)
    ·rw[if_pos h181] at hsel
     subst hsel
     refine Qc<|x (QE trivial)<|xl rfl<|Qo (us:=ZW) kB410 rfl rfl rfl rfl ⟨rfl,rfl,rfl,rfl,rfl,trivial⟩ λu11 ks11 kB411=>Qe ?_
     exact Qm ⟨[.agg ZW.toArray,.int .i64 13],⟨⟨_,rfl,QA rfl (kB411.at (L:=[]) (by simp)).cells⟩,rfl,trivial⟩,ks010.then1 ks11 (by omega),ZW,rfl,rfl,⟨rfl,rfl,rfl,rfl,rfl,trivial⟩,λ_=>rfl,λh0=>absurd h0 (by decide)⟩
    rw[if_neg (by rw[h181];simp)] at hsel
    refine Qi ?_
    have hmf:(exM c.cel p.co p.ex || csM c.cel p.co p.cs)=false:=by rw[←hmm];exact h181
    have hmf2:=Bool.or_eq_false_iff.1 hmf
    have hE1:qx.map (·.x)=Qgm c.cel p:=hx10.trans (Qhe hco.2.1 hmf2.1)
    have hE2:kx.map (·.k)=Qgo c.cel p:=hxk10.trans (Qhl hco.2.1 hmf2.2)
    have hcel:(CL.mk zv.1 zv.2.1 zv.2.2 vx vk c.ev qc qr qx kx).cel=Qb8 c.cel p:=by
     show Zu.mk c.ev (qc.map IV.it) (qr.map IV.it) (qx.map (·.x)) (kx.map (·.k))=Zu.mk c.cel.ev _ _ _ _
     rw[hqc,hqr,hE1,hE2];rfl
    have hCu:∀L:LN,(∀b∈L,b<w.heap.size)→Zv (b4::L) u10.heap (CL.mk zv.1 zv.2.1 zv.2.2 vx vk c.ev qc qr qx kx):=by
     intro L hL
     have e1:=hEi (b4::b10::L) (λb hb=>by
      rcases List.mem_cons.1 hb with rfl | hb
      ·exact .inl (by omega)
      ·rcases List.mem_cons.1 hb with rfl | hb
       ·exact .inr rfl
       ·have:=hL b hb;exact .inl (by omega))
     have e2:EiA (b11::b4::b10::L) wc.heap zv c.ev qc qr:=e1.up (λb hb=>by
      rcases List.mem_cons.1 hb with rfl | hb
      ·exact .inr hb11
      ·exact .inl hb)
     have hm2:∀b∈[b10,b11],b∈b11::b4::b10::L:=λb hb=>by
      simp only[List.mem_cons,List.not_mem_nil,or_false] at hb
      rcases hb with rfl | rfl <;> simp
     have e3:=((e2.ext hsc9).st (hs910.mono hm2)).st (ks910.mono hm2)
     have e4:EiA (b4::L) u10.heap zv c.ev qc qr:=e3.up (λb hb=>by
      rcases List.mem_cons.1 hb with rfl | hb
      ·exact .inl (by simp)
      ·exact .inl (by simp[hb]))
     have hqx40:qx.length≤1099511627776:=by omega
     have hkx40:kx.length≤1099511627776:=by omega
     have hLt9:∀b∈b4::L,b<w9.heap.size:=λb hb=>by
      rcases List.mem_cons.1 hb with rfl | hb
      ·omega
      ·have:=hL b hb;omega
     have hLt10:∀b∈b4::L,b<w10.heap.size:=λb hb=>by have:=hLt9 b hb;omega
     exact ⟨e4.ev,e4.co,e4.rq,⟨ZM.arr kXu hqx40 hLt9,λq hq=>kXu.each q hq _ (λb hb=>.inl (hLt9 b hb)),hnx⟩,⟨ZM.arr kX10 hkx40 hLt10,λq hq=>kX10.each q hq _ (λb hb=>.inl (hLt10 b hb)),hnk⟩⟩
    rw[←hcel] at hsel
    subst hsel
    refine Qf<|Qc<|x (Qr kB1010 rfl rfl)<|xl rfl<|xf<|(YM (hCu [] (by simp))).mono ?_
    rintro r12 u12 ⟨rfl,ks12⟩
    refine Qe ?_
    have ks012:=ks010.trans ks12
    have kB412:=kB410.ext ks12
    refine Qc<|Qb<|x (Q9 rfl rfl)<|xe ?_
    refine Q6 rfl (λh186=>?_) (λh186=>?_)
    ·refine Qc<|x (QE trivial)<|Qb<|xl rfl<|Qo (us:=ZW) kB412 rfl rfl rfl rfl ⟨rfl,rfl,rfl,rfl,rfl,trivial⟩ λu13 ks13 kB413=>Qe ?_
     exact Qm ⟨[.agg ZW.toArray,.int .i64 (Zd (CL.mk zv.1 zv.2.1 zv.2.2 vx vk c.ev qc qr qx kx).cel)],⟨⟨_,rfl,QA rfl (kB413.at (L:=[]) (by simp)).cells⟩,rfl,trivial⟩,ks012.then1 ks13 (by omega),ZW,rfl,rfl,⟨rfl,rfl,rfl,rfl,rfl,trivial⟩,λ_=>rfl,λh0=>absurd h0 h186⟩
    refine Qi ?_
    have hone5:ZL [zv.1,zv.2.1,zv.2.2,vx,vk]:=⟨ho1,ho2,ho3,QF kXu.own,QF kX10.own,trivial⟩
    refine Qc<|x (Qr (kB1010.ext ks12) rfl rfl)<|xl rfl<|Qo (us:=[zv.1,zv.2.1,zv.2.2,vx,vk]) kB412 rfl rfl rfl rfl hone5 λu13 ks13 kB413=>Qe<|Qm ⟨[.agg [zv.1,zv.2.1,zv.2.2,vx,vk].toArray,.int .i64 0],⟨⟨_,rfl,QA rfl (kB413.at (L:=[]) (by simp)).cells⟩,rfl,trivial⟩,ks012.then1 ks13 (by omega),[zv.1,zv.2.1,zv.2.2,vx,vk],?_,rfl,hone5,λh0=>absurd h0 h186,λ_=>⟨(CL.mk zv.1 zv.2.1 zv.2.2 vx vk c.ev qc qr qx kx),rfl,hcel,λL hL=>?_⟩⟩
    ·have h0:Zd (CL.mk zv.1 zv.2.1 zv.2.2 vx vk c.ev qc qr qx kx).cel=0:=Decidable.not_not.1 h186
     rw[h0];rfl
    ·exact ((((hCu L hL).ext ks12).st (ks13.mono (by simp)))).up (λb hb=>.inl (by simp[hb]))
   refine Qi ?_
   have hltE:k<p.cs.length:=by have h16:(k:Int)<(p.cs.length:Int):=h89;omega
   have htkE:p.cs.take (k+1)=p.cs.take k++[p.cs[k]'hltE]:=List.take_succ_eq_append_getElem hltE
   have hiE:=hcsz.1 _ (List.getElem_mem hltE)
   refine Q8 (p.cs[k]'hltE) λi hii=>?_
   rw[hii] at htkE hiE
   have hin:i=(i.toNat:Int):=by omega
   have hil:i.toNat<c.cs.length:=by omega
   have hmemE:=List.getElem_mem hil
   have hgE:csG c.cel i=(c.cs[i.toNat]'hil).k:=by
    show (c.cs.map (·.k)).getD i.toNat ⟨.empty,[],0⟩=_
    simp[List.getD,hil]
   refine Q8 (c.cs[i.toNat]'hil) λq hq=>?_
   rw[hq] at hmemE hgE
   have hqA:=k10.cs.each q hmemE
   have hqn:=k10.cs.nm q hmemE
   have hql:=hqA.le
   have hcsB:csB c.cel p.co (p.cs.take (k+1))=csB c.cel p.co (p.cs.take k)++[⟨q.nm,J2 p.co q.ts,q.bd⟩]:=by
    rw[htkE];unfold csB;rw[List.map_append,List.map_singleton,hgE];rfl
   have hcsM:csM c.cel p.co (p.cs.take (k+1))=(csM c.cel p.co (p.cs.take k) || mis p.co q.ts):=by
    rw[htkE];unfold csM;rw[List.any_append,List.any_cons,List.any_nil,Bool.or_false,hgE];rfl
   refine Qf<|Qg<|Qc<|xii (i:=k) (hk.ext ks010) rfl rfl hltE λa90 h90=>?_
   rw[hii] at h90
   refine x (Qv h90 rfl)<|Qe<|Qf<|QU (Step [] u10) [(0,true),(1,true),(2,true),(3,true),(4,true),(5,true),(6,true),(7,true),(8,true),(9,true),(10,true),(11,true),(12,true),(13,false),(14,false)] mixed (by rfl) (by kernel_rfl) (Step.drew _ _) ?_
   refine Go.Lg.p (λ_=>Qa rfl)<|pq (λ_ hc=>Qd (kB210.ext hc) rfl rfl)<|Go.Lg.p (λ_=>Qn)<|Go.Lg.pig (g:=Zs) (i:=i.toNat) rfl Xh k10.cs.arr rfl (congrArg (Value.int .i64) hin) hil λa140 h140=>?_
   rw[hq] at h140
   refine Go.Lg.p (λ_=>Q7 rfl)<|pq (λ_ hc=>Qv ((h140.fld 0 (.string q.nm) rfl).st hc) rfl)<|Go.Lg.p (λ_=>Qa rfl)<|pq (λ_ hc=>Qd (kB210.ext hc) rfl rfl)<|Go.Lg.p (λ_=>Qn)<|Go.Lg.pig (g:=Zs) (i:=i.toNat) rfl Xh k10.cs.arr rfl (congrArg (Value.int .i64) hin) hil λa146 h146=>?_
   rw[hq] at h146
   refine Go.Lg.p (λ_=>Q7 rfl)<|pq (λ_ hc=>Qv ((h146.fld 2 (.int .i64 q.bd) rfl).st hc) rfl)<|Go.Lg.p (λ_=>QE ⟨rfl,rfl,trivial⟩)<|pk<|Qu (us:=[.string .empty,nS,.int .i64 0]) rfl λb20 u11 ks11 hb15 kB15=>⟨(Step.drew [] u10).trans ks11,?_⟩
   refine pkl (hl:=by kernel_rfl)<|Qo (us:=[.string q.nm,nS,.int .i64 q.bd]) kB15 rfl rfl rfl rfl ⟨rfl,rfl,rfl,trivial⟩ λu12 ks12 kB15=>pe ?_
   have hb15:u10.heap.size≤b20:=hb15
   have ks1012:Step [] u10 u12:=((Step.drew [] u10).trans ks11).then1 ks12 hb15
   have ks012:=ks010.trans ks1012
   have k12:=h.ext ks012
   have kB212:=kB210.ext ks1012
   have kz12:=ks1012.size
   have hl15:=kB15.lt
   have hqA12:=hqA.ext ks1012
   refine Qf<|Qc<|x (Qa rfl)<|x (Qd kB212 rfl rfl)<|Qb<|xig (g:=Zs) (i:=i.toNat) Xh k12.cs.arr rfl (congrArg (Value.int .i64) hin) hil λa102 h102=>?_
   rw[hq] at h102
   refine x (Q7 rfl)<|x (Qv (h102.fld 1 q.v rfl) rfl)<|x (Qs hqA12 rfl)<|Qb<|xe ?_
   have hup15:∀b∈[b20,b11],w.heap.size≤b:=λb hb=>by simp only[List.mem_cons,List.not_mem_nil,or_false] at hb;omega
   have hn153:b3∉[b20,b11]:=λhb=>by simp only[List.mem_cons,List.not_mem_nil,or_false] at hb;omega
   have hn1510:b10∉[b20,b11]:=λhb=>by simp only[List.mem_cons,List.not_mem_nil,or_false] at hb;omega
   refine Qg<|QC (α:=Nat×Bool×Value) [(22,22),(157,173)] (λz=>[(157,.int .i64 z.1)]) (λz w'=>z.1≤q.ts.length∧Step [b20,b11] u12 w'∧Q0 w'.heap b20 127 [.string q.nm,z.2.2,.int .i64 q.bd]∧Q0 w'.heap b11 4 [.bool z.2.1] ∧
    w'.ownsRow u12.heap.size 129 2 z.2.2 z.1 ((J2 p.co (q.ts.take z.1)).flatMap QP)∧z.2.1=(mk || mis p.co (q.ts.take z.1))) (λz=>q.ts.length - z.1) (by rfl) (0,mk,nS) ⟨rfl,trivial⟩
    ⟨Nat.zero_le _,Step.refl _ _,kB15,kB1110.ext ks1012,QO _ _ _ _,by simp[mis]⟩ ?_
   rintro ⟨j,mj,vl⟩ g u13 ⟨hj,ks1213,kB1513,kB1113,kO13,hmj⟩
   simp only[] at hj kB1513 kB1113 kO13 hmj
   have ks013:Step [] w u13:=ks012.then ks1213 (λb hb=>.inr (hup15 b hb))
   have kz13:=ks1213.size
   have hOge:=Qk kO13
   refine Qc<|x (QB rfl rfl)<|xe ?_
   refine Qf<|QH rfl (λh107=>?_) (λh107=>?_)
   ·refine Qz ?_
    have hje:j=q.ts.length:=by have h16:¬(j:Int)<(q.ts.length:Int):=h107;omega
    rw[hje,List.take_length] at kO13
    rw[hje,List.take_length] at hmj
    have ks1013:Step [b11] u10 u13:=(ks1012.any (L:=[b11])).then ks1213 (λb hb=>by
     simp only[List.mem_cons,List.not_mem_nil,or_false] at hb
     rcases hb with rfl | rfl
     ·exact .inr hb15
     ·exact .inl (by simp))
    have kB1013:=kB1010.step ks1013 (by simpa using hn10)
    have kX13:KvN w10.heap.size u13 vk kx:=ZM.low kX10 ks1013 (λb hb=>hlt10 b (hm11 b hb))
    have kXge:=Qk kX10.own
    have hixl:(J2 p.co q.ts).length=q.ts.length:=List.length_map ..
    refine Qw<|x (Qa rfl)<|x (Qd kB1013 rfl rfl)<|x (Qr kB1513 rfl rfl)<|xl rfl<|QD (us:=[Zs ⟨q.nm,vl,J2 p.co q.ts,q.bd⟩]) rfl rfl (by decide) (by simp) ⟨rfl,rfl,trivial⟩ λb126 u14 ks14 hb126 kB126 =>
     xl rfl<|QY (news:=Zs ⟨q.nm,vl,J2 p.co q.ts,q.bd⟩) (L:=[]) (Qq kX13.own ks14) rfl rfl rfl (kB126.at (by simp)) (Qbp (q:=⟨q.nm,vl,J2 p.co q.ts,q.bd⟩) (QF kO13)) (by omega) (by have:=ks14.size;omega) λv15 u15 ho15 ks15 hn15=>?_
    have kz14:=ks14.size
    have kX15:KvN w10.heap.size u15 v15 (kx++[⟨q.nm,vl,J2 p.co q.ts,q.bd⟩]):=ZM.app2 (N:=u12.heap.size) (kX13.ext ks14) (by show u14.ownsRow _ _ 2 vl (J2 p.co q.ts).length _;rw[hixl];exact Qq kO13 ks14) (by show (J2 p.co q.ts).length≤_;omega) (by omega) (λb hb=>by have:=kXge b hb;omega) ho15 ks15 hn15
    have hb10x:b10∉ob vk:=λhm=>by have:=(kXge b10 hm).1;omega
    have hb11x:b11∉ob vk:=λhm=>by have:=(kXge b11 hm).1;omega
    have ks915:Step [b10,b11] w10 u15:=((ks910.trans' (ks1013.mono hm11)).trans ks14).then ks15 (λb hb=>.inr (kXge b hb).1)
    have kB1015:=(kB1013.ext ks14).step ks15 hb10x
    have kB1115:=(kB1113.ext ks14).step ks15 hb11x
    refine x (Qa rfl)<|xl rfl<|QG (j:=4) (u:=v15) kB1015 rfl rfl (by simp) (QF ho15) λu16 ks16 kB1016=>xe ?_
    refine Qw<|x (Qx rfl rfl ⟨by omega,by omega⟩)<|Qb<|xe ?_
    refine ⟨(k+1,mj,v15,kx++[⟨q.nm,vl,J2 p.co q.ts,q.bd⟩]),by simp only[];omega,⟨rfl,trivial⟩,hltE,ks915.trans' (ks16.mono hm10),kB1016,kB1115.step ks16 (by simp only[List.mem_singleton];omega),ZM.low kX15 ks16 (λb hb=>hlt10 b (hm10 b hb)),?_,?_,?_⟩
    ·simp only[]
     rw[hcsB,List.map_append,hxk10];rfl
    ·simp only[]
     rw[hcsM,hmj,hmk,Bool.or_assoc]
    ·intro q' hq'
     rcases List.mem_append.1 hq' with h9' | h9'
     ·exact hnk q' h9'
     ·simp only[List.mem_singleton] at h9';subst h9';exact hqn
   refine Qi ?_
   have hltL:j<q.ts.length:=by have h16:(j:Int)<(q.ts.length:Int):=h107;omega
   have htkL:q.ts.take (j+1)=q.ts.take j++[q.ts[j]'hltL]:=List.take_succ_eq_append_getElem hltL
   have ks1013:Step [b11] u10 u13:=(ks1012.any (L:=[b11])).then ks1213 (λb hb=>by
    simp only[List.mem_cons,List.not_mem_nil,or_false] at hb
    rcases hb with rfl | rfl
    ·exact .inr hb15
    ·exact .inl (by simp))
   have hqA13:P2s [] u13.heap q.v q.ts:=(h.ext ks013).cs.each q hmemE
   refine Qf<|Qg<|Qc<|xig (g:=QP) Yo hqA13 rfl rfl hltL λa108 h108=>?_
   refine Q8 (q.ts[j]'hltL) λlc hlc=>?_
   rw[hlc] at h108 htkL
   have hixt:J2 p.co (q.ts.take (j+1))=J2 p.co (q.ts.take j)++[((lwB p.co lc.1:Int),lc.2)]:=by
    rw[htkL];unfold J2;rw[List.map_append];rfl
   have hmst:mis p.co (q.ts.take (j+1))=(mis p.co (q.ts.take j) || !decide (lc.1∈p.co)):=by
    rw[htkL];unfold mis;rw[List.any_append];simp
   refine x (QJ h108 rfl rfl)<|xl rfl<|Qu (us:=[.int .i64 0,.int .i64 0]) rfl λb22 u14 ks14 hb17 kB17=>xl rfl<|Qo (us:=QP lc) kB17 rfl rfl rfl rfl ⟨rfl,rfl,trivial⟩ λu15 ks15 kB17=>xe ?_
   have ks1315:Step [] u13 u15:=ks14.then1 ks15 hb17
   have ks015:=ks013.trans ks1315
   have kz15:=ks1315.size
   have kB1515:=kB1513.ext ks1315
   have kB1115:=kB1113.ext ks1315
   have kB315:Q0 u15.heap b3 95 [v0,v1,v2,v3]:=(((kB310.ext ks1012).step ks1213 hn153)).ext ks1315
   have hb15l:b20∉b11::ob vl:=λhb=>by
    rcases List.mem_cons.1 hb with rfl | hb
    ·omega
    ·have:=(hOge b20 hb).1;omega
   have hb17l:b22∉b11::ob vl:=λhb=>by
    rcases List.mem_cons.1 hb with rfl | hb
    ·omega
    ·have:=(hOge b22 hb).2;omega
   have hb11l:b11∉ob vl:=λhb=>by have:=(hOge b11 hb).1;omega
   have hb15v:b20∉ob vl:=λhb=>hb15l (List.mem_cons_of_mem _ hb)
   refine QU (Step (b11::ob vl) u15) [(0,true),(1,true),(2,true),(3,true),(4,true),(6,true),(7,true),(5,false),(8,true),(9,false),(10,false),(11,true),(12,false)] mixed (by rfl) (by kernel_rfl) (Step.drew _ _) ?_
   have kd15:Step [] u15 { u15 with drawn:=u15.drawn+1 }:=Step.drew _ _
   have hzd:({ u15 with drawn:=u15.drawn+1 }:World).heap.size=u15.heap.size:=rfl
   refine Go.Lg.p (λ_=>Qa rfl)<|pq (λ_ hc=>Qd (kB1515.step hc hb15l) rfl rfl)<|Go.Lg.p (λ_=>Qn)<|Go.Lg.p (λ_=>Qa rfl)<|pq (λ_ hc=>Qd (kB17.step hc hb17l) rfl rfl) <|
    Go.Lg.p (λ_=>Qa rfl)<|pq (λ_ hc=>Qd (kB17.step hc hb17l) rfl rfl)<|pk<|xc (first:=[]) (capt:=[.pointer (some ⟨b3,0,none⟩),.pointer (some ⟨b11,0,none⟩)]) rfl<|(qw (kB315.ext kd15) (kB1115.ext kd15) (hc.ext (ks015.trans kd15)) hco.2.1 lc.1).mono ?_
   rintro r16 u16 ⟨ks16,rfl,kB1116⟩
   have ks1516:=kd15.any.trans' ks16
   have kz16:=ks1516.size
   have hm11l:∀b∈[b11],b∈b11::ob vl:=λb hb=>by simp only[List.mem_singleton] at hb;simp[hb]
   refine ⟨ks1516.mono hm11l,?_⟩
   refine Go.Lg.p (λ_=>QE ⟨rfl,rfl,trivial⟩)<|pk<|QD (us:=[QP ((lwB p.co lc.1:Int),lc.2)]) rfl rfl (by decide) (by simp) ⟨rfl,rfl,trivial⟩ λb119 u17 ks17 hb119 hB1110=>⟨(ks1516.trans ks17).mono hm11l,?_⟩
   have ks1517:=ks1516.trans ks17
   have kO17:u17.ownsRow u12.heap.size 129 2 vl j ((J2 p.co (q.ts.take j)).flatMap QP):=Qj (Qq kO13 ks1315) ks1517 (λb hb hm=>by simp only[List.mem_singleton] at hm;subst hm;exact hb11l hb)
   have kz17:=ks1517.size
   refine pk<|QY (news:=QP ((lwB p.co lc.1:Int),lc.2)) (L:=[]) kO17 rfl rfl rfl (hB1110.at (by simp)) (λu hu=>by
    simp only[List.mem_cons,List.not_mem_nil,or_false] at hu
    rcases hu with rfl | rfl <;> rfl) (by omega) (by omega) λv18 u18 ho18 ks18 hn18=>⟨(ks1517.mono hm11l).trans' (ks18.mono (λb hb=>List.mem_cons_of_mem _ hb)),?_⟩
   have kB1518:=((kB1515.step ks1517 (by simp only[List.mem_singleton];omega))).step ks18 hb15v
   have kB1118:=(kB1116.ext ks17).step ks18 hb11l
   refine Go.Lg.p (λ_=>Qa rfl)<|pkl (hl:=by kernel_rfl)<|QG (j:=1) (u:=v18) kB1518 rfl rfl (by simp) (QF ho18) λu19 ks19 kB1519=>pe ?_
   refine Qw<|x (Qx rfl rfl ⟨by omega,by omega⟩)<|Qb<|xe ?_
   have hm1511:∀b∈[b11],b∈[b20,b11]:=λb hb=>by simp only[List.mem_singleton] at hb;simp[hb]
   have hm1515:∀b∈[b20],b∈[b20,b11]:=λb hb=>by simp only[List.mem_singleton] at hb;simp[hb]
   have ks1218:Step [b20,b11] u12 u18:=((ks1213.trans ks1315).trans' (ks1517.mono hm1511)).then ks18 (λb hb=>.inr (hOge b hb).1)
   refine ⟨(j+1,mj || !decide (lc.1∈p.co),v18),by simp only[];omega,⟨rfl,trivial⟩,hltL,ks1218.trans' (ks19.mono hm1515),kB1519,kB1118.step ks19 (by simp only[List.mem_singleton];omega),?_,?_⟩
   ·simp only[]
    rw[hixt,List.flatMap_append]
    have:=Qj ho18 ks19 (λb hb=>by
     simp only[List.mem_singleton]
     have:=(Qk ho18 b hb).1
     omega)
    simpa using this
   ·simp only[]
    rw[hmst,hmj,Bool.or_assoc]
  refine Qi ?_
  have hltE:k<p.ex.length:=by have h16:(k:Int)<(p.ex.length:Int):=h89;omega
  have htkE:p.ex.take (k+1)=p.ex.take k++[p.ex[k]'hltE]:=List.take_succ_eq_append_getElem hltE
  have hiE:=hexz.1 _ (List.getElem_mem hltE)
  refine Q8 (p.ex[k]'hltE) λi hii=>?_
  rw[hii] at htkE hiE
  have hin:i=(i.toNat:Int):=by omega
  have hil:i.toNat<c.ex.length:=by omega
  have hmemE:=List.getElem_mem hil
  have hgE:exG c.cel i=(c.ex[i.toNat]'hil).x:=by
   show (c.ex.map (·.x)).getD i.toNat ⟨.empty,[]⟩=_
   simp[List.getD,hil]
  refine Q8 (c.ex[i.toNat]'hil) λq hq=>?_
  rw[hq] at hmemE hgE
  have hqA:=h10.ex.each q hmemE
  have hqn:=h10.ex.nm q hmemE
  have hql:=hqA.le
  have hexB:exB c.cel p.co (p.ex.take (k+1))=exB c.cel p.co (p.ex.take k)++[⟨q.nm,J2 p.co q.ls⟩]:=by
   rw[htkE];unfold exB;rw[List.map_append,List.map_singleton,hgE];rfl
  have hexM:exM c.cel p.co (p.ex.take (k+1))=(exM c.cel p.co (p.ex.take k) || mis p.co q.ls):=by
   rw[htkE];unfold exM;rw[List.any_append,List.any_cons,List.any_nil,Bool.or_false,hgE];rfl
  refine Qf<|Qg<|Qc<|xii (i:=k) (hx.ext hs010) rfl rfl hltE λa90 h90=>?_
  rw[hii] at h90
  refine x (Qv h90 rfl)<|Qe<|Qc<|x (Qa rfl)<|x (Qd hB210 rfl rfl)<|Qb<|xig (g:=Zq) (i:=i.toNat) XK h10.ex.arr rfl (congrArg (Value.int .i64) hin) hil λa95 h95=>?_
  rw[hq] at h95
  refine x (Q7 rfl)<|x (Qv (h95.fld 0 (.string q.nm) rfl) rfl)<|x (QE ⟨rfl,trivial⟩)<|xl rfl<|Qu (us:=[.string .empty,nS]) rfl λb15 w11 hs11 hb15 hB15 =>
   xl rfl<|Qo (us:=[.string q.nm,nS]) hB15 rfl rfl rfl rfl ⟨rfl,rfl,trivial⟩ λw12 hs12 hB15=>xe ?_
  have hs1012:Step [] w10 w12:=hs11.then1 hs12 hb15
  have hs012:=hs010.trans hs1012
  have h12:=h.ext hs012
  have hB212:=hB210.ext hs1012
  have hz12:=hs1012.size
  have hl15:=hB15.lt
  have hqA12:=hqA.ext hs1012
  refine Qf<|Qc<|x (Qa rfl)<|x (Qd hB212 rfl rfl)<|Qb<|xig (g:=Zq) (i:=i.toNat) XK h12.ex.arr rfl (congrArg (Value.int .i64) hin) hil λa102 h102=>?_
  rw[hq] at h102
  refine x (Q7 rfl)<|x (Qv (h102.fld 1 q.v rfl) rfl)<|x (Qs hqA12 rfl)<|Qb<|xe ?_
  have hup15:∀b∈[b15,b11],w.heap.size≤b:=λb hb=>by simp only[List.mem_cons,List.not_mem_nil,or_false] at hb;omega
  have hn153:b3∉[b15,b11]:=λhb=>by simp only[List.mem_cons,List.not_mem_nil,or_false] at hb;omega
  have hn1510:b10∉[b15,b11]:=λhb=>by simp only[List.mem_cons,List.not_mem_nil,or_false] at hb;omega
  refine Qg<|QC (α:=Nat×Bool×Value) [(17,17),(106,122)] (λz=>[(106,.int .i64 z.1)]) (λz w'=>z.1≤q.ls.length∧Step [b15,b11] w12 w'∧Q0 w'.heap b15 122 [.string q.nm,z.2.2]∧Q0 w'.heap b11 4 [.bool z.2.1] ∧
   w'.ownsRow w12.heap.size 124 2 z.2.2 z.1 ((J2 p.co (q.ls.take z.1)).flatMap QP)∧z.2.1=(mi || mis p.co (q.ls.take z.1))) (λz=>q.ls.length - z.1) (by rfl) (0,mi,nS) ⟨rfl,trivial⟩
   ⟨Nat.zero_le _,Step.refl _ _,hB15,hB1110.ext hs1012,QO _ _ _ _,by simp[mis]⟩ ?_
  rintro ⟨j,mj,vl⟩ g w13 ⟨hj,hs1213,hB1513,hB1113,hO13,hmj⟩
  simp only[] at hj hB1513 hB1113 hO13 hmj
  have hs013:Step [] w w13:=hs012.then hs1213 (λb hb=>.inr (hup15 b hb))
  have hz13:=hs1213.size
  have hOge:=Qk hO13
  refine Qc<|x (QB rfl rfl)<|xe ?_
  refine Qf<|QH rfl (λh107=>?_) (λh107=>?_)
  ·refine Qz ?_
   have hje:j=q.ls.length:=by have h16:¬(j:Int)<(q.ls.length:Int):=h107;omega
   rw[hje,List.take_length] at hO13
   rw[hje,List.take_length] at hmj
   have hs1013:Step [b11] w10 w13:=(hs1012.any (L:=[b11])).then hs1213 (λb hb=>by
    simp only[List.mem_cons,List.not_mem_nil,or_false] at hb
    rcases hb with rfl | rfl
    ·exact .inr hb15
    ·exact .inl (by simp))
   have hB1013:=hB1010.step hs1013 (by simpa using hn10)
   have hX13:XvN w9.heap.size w13 vx qx:=ZM.low hX10 hs1013 (λb hb=>hlt9 b (hm11 b hb))
   have hXge:=Qk hX10.own
   have hixl:(J2 p.co q.ls).length=q.ls.length:=List.length_map ..
   refine Qw<|x (Qa rfl)<|x (Qd hB1013 rfl rfl)<|x (Qr hB1513 rfl rfl)<|xl rfl<|QD (us:=[Zq ⟨q.nm,vl,J2 p.co q.ls⟩]) rfl rfl (by decide) (by simp) ⟨rfl,rfl,trivial⟩ λb126 w14 hs14 hb126 hB126 =>
    xl rfl<|QY (news:=Zq ⟨q.nm,vl,J2 p.co q.ls⟩) (L:=[]) (Qq hX13.own hs14) rfl rfl rfl (hB126.at (by simp)) (q8 (q:=⟨q.nm,vl,J2 p.co q.ls⟩) (QF hO13)) (by omega) (by have:=hs14.size;omega) λv15 w15 ho15 hs15 hn15=>?_
   have hz14:=hs14.size
   have hX15:XvN w9.heap.size w15 v15 (qx++[⟨q.nm,vl,J2 p.co q.ls⟩]):=ZM.app2 (N:=w12.heap.size) (hX13.ext hs14) (by show w14.ownsRow _ _ 2 vl (J2 p.co q.ls).length _;rw[hixl];exact Qq hO13 hs14) (by show (J2 p.co q.ls).length≤_;omega) (by omega) (λb hb=>by have:=hXge b hb;omega) ho15 hs15 hn15
   have hb10x:b10∉ob vx:=λhm=>by have:=(hXge b10 hm).1;omega
   have hb11x:b11∉ob vx:=λhm=>by have:=(hXge b11 hm).1;omega
   have hs915:Step [b10,b11] w9 w15:=((hs910.trans' (hs1013.mono hm11)).trans hs14).then hs15 (λb hb=>.inr (hXge b hb).1)
   have hB1015:=(hB1013.ext hs14).step hs15 hb10x
   have hB1115:=(hB1113.ext hs14).step hs15 hb11x
   refine x (Qa rfl)<|xl rfl<|QG (j:=3) (u:=v15) hB1015 rfl rfl (by simp) (QF ho15) λw16 hs16 hB1016=>xe ?_
   refine Qw<|x (Qx rfl rfl ⟨by omega,by omega⟩)<|Qb<|xe ?_
   refine ⟨(k+1,mj,v15,qx++[⟨q.nm,vl,J2 p.co q.ls⟩]),by simp only[];omega,⟨rfl,trivial⟩,hltE,hs915.trans' (hs16.mono hm10),hB1016,hB1115.step hs16 (by simp only[List.mem_singleton];omega),ZM.low hX15 hs16 (λb hb=>hlt9 b (hm10 b hb)),?_,?_,?_⟩
   ·simp only[]
    rw[hexB,List.map_append,hx10];rfl
   ·simp only[]
    rw[hexM,hmj,hmi]
   ·intro q' hq'
    rcases List.mem_append.1 hq' with h9' | h9'
    ·exact hnx q' h9'
    ·simp only[List.mem_singleton] at h9';subst h9';exact hqn
  refine Qi ?_
  have hltL:j<q.ls.length:=by have h16:(j:Int)<(q.ls.length:Int):=h107;omega
  have htkL:q.ls.take (j+1)=q.ls.take j++[q.ls[j]'hltL]:=List.take_succ_eq_append_getElem hltL
  have hs1013:Step [b11] w10 w13:=(hs1012.any (L:=[b11])).then hs1213 (λb hb=>by
   simp only[List.mem_cons,List.not_mem_nil,or_false] at hb
   rcases hb with rfl | rfl
   ·exact .inr hb15
   ·exact .inl (by simp))
  have hqA13:P2s [] w13.heap q.v q.ls:=(h.ext hs013).ex.each q hmemE
  refine Qf<|Qg<|Qc<|xig (g:=QP) Yo hqA13 rfl rfl hltL λa108 h108=>?_
  refine Q8 (q.ls[j]'hltL) λlc hlc=>?_
  rw[hlc] at h108 htkL
  have hixt:J2 p.co (q.ls.take (j+1))=J2 p.co (q.ls.take j)++[((lwB p.co lc.1:Int),lc.2)]:=by
   rw[htkL];unfold J2;rw[List.map_append];rfl
  have hmst:mis p.co (q.ls.take (j+1))=(mis p.co (q.ls.take j) || !decide (lc.1∈p.co)):=by
   rw[htkL];unfold mis;rw[List.any_append];simp
  refine x (QJ h108 rfl rfl)<|xl rfl<|Qu (us:=[.int .i64 0,.int .i64 0]) rfl λb17 w14 hs14 hb17 hB17=>xl rfl<|Qo (us:=QP lc) hB17 rfl rfl rfl rfl ⟨rfl,rfl,trivial⟩ λw15 hs15 hB17=>xe ?_
  have hs1315:Step [] w13 w15:=hs14.then1 hs15 hb17
  have hs015:=hs013.trans hs1315
  have hz15:=hs1315.size
  have hB1515:=hB1513.ext hs1315
  have hB1115:=hB1113.ext hs1315
  have hB315:Q0 w15.heap b3 95 [v0,v1,v2,v3]:=(((hB310.ext hs1012).step hs1213 hn153)).ext hs1315
  have hb15l:b15∉b11::ob vl:=λhb=>by
   rcases List.mem_cons.1 hb with rfl | hb
   ·omega
   ·have:=(hOge b15 hb).1;omega
  have hb17l:b17∉b11::ob vl:=λhb=>by
   rcases List.mem_cons.1 hb with rfl | hb
   ·omega
   ·have:=(hOge b17 hb).2;omega
  have hb11l:b11∉ob vl:=λhb=>by have:=(hOge b11 hb).1;omega
  have hb15v:b15∉ob vl:=λhb=>hb15l (List.mem_cons_of_mem _ hb)
  refine QU (Step (b11::ob vl) w15) [(0,true),(1,true),(2,true),(3,true),(4,true),(6,true),(7,true),(5,false),(8,true),(9,false),(10,false),(11,true),(12,false)] mixed (by rfl) (by kernel_rfl) (Step.drew _ _) ?_
  have hd15:Step [] w15 { w15 with drawn:=w15.drawn+1 }:=Step.drew _ _
  have hzd:({ w15 with drawn:=w15.drawn+1 }:World).heap.size=w15.heap.size:=rfl
  refine Go.Lg.p (λ_=>Qa rfl)<|pq (λ_ hc=>Qd (hB1515.step hc hb15l) rfl rfl)<|Go.Lg.p (λ_=>Qn)<|Go.Lg.p (λ_=>Qa rfl)<|pq (λ_ hc=>Qd (hB17.step hc hb17l) rfl rfl) <|
   Go.Lg.p (λ_=>Qa rfl)<|pq (λ_ hc=>Qd (hB17.step hc hb17l) rfl rfl)<|pk<|xc (first:=[]) (capt:=[.pointer (some ⟨b3,0,none⟩),.pointer (some ⟨b11,0,none⟩)]) rfl<|(qw (hB315.ext hd15) (hB1115.ext hd15) (hc.ext (hs015.trans hd15)) hco.2.1 lc.1).mono ?_
  rintro r16 w16 ⟨hs16,rfl,hB1116⟩
  have hs1516:=hd15.any.trans' hs16
  have hz16:=hs1516.size
  have hm11l:∀b∈[b11],b∈b11::ob vl:=λb hb=>by simp only[List.mem_singleton] at hb;simp[hb]
  refine ⟨hs1516.mono hm11l,?_⟩
  refine Go.Lg.p (λ_=>QE ⟨rfl,rfl,trivial⟩)<|pk<|QD (us:=[QP ((lwB p.co lc.1:Int),lc.2)]) rfl rfl (by decide) (by simp) ⟨rfl,rfl,trivial⟩ λb119 w17 hs17 hb119 hB119=>⟨(hs1516.trans hs17).mono hm11l,?_⟩
  have hs1517:=hs1516.trans hs17
  have hO17:w17.ownsRow w12.heap.size 124 2 vl j ((J2 p.co (q.ls.take j)).flatMap QP):=Qj (Qq hO13 hs1315) hs1517 (λb hb hm=>by simp only[List.mem_singleton] at hm;subst hm;exact hb11l hb)
  have hz17:=hs1517.size
  refine pk<|QY (news:=QP ((lwB p.co lc.1:Int),lc.2)) (L:=[]) hO17 rfl rfl rfl (hB119.at (by simp)) (λu hu=>by
   simp only[List.mem_cons,List.not_mem_nil,or_false] at hu
   rcases hu with rfl | rfl <;> rfl) (by omega) (by omega) λv18 w18 ho18 hs18 hn18=>⟨(hs1517.mono hm11l).trans' (hs18.mono (λb hb=>List.mem_cons_of_mem _ hb)),?_⟩
  have hB1518:=((hB1515.step hs1517 (by simp only[List.mem_singleton];omega))).step hs18 hb15v
  have hB1118:=(hB1116.ext hs17).step hs18 hb11l
  refine Go.Lg.p (λ_=>Qa rfl)<|pkl (hl:=by kernel_rfl)<|QG (j:=1) (u:=v18) hB1518 rfl rfl (by simp) (QF ho18) λw19 hs19 hB1519=>pe ?_
  refine Qw<|x (Qx rfl rfl ⟨by omega,by omega⟩)<|Qb<|xe ?_
  have hm1511:∀b∈[b11],b∈[b15,b11]:=λb hb=>by simp only[List.mem_singleton] at hb;simp[hb]
  have hm1515:∀b∈[b15],b∈[b15,b11]:=λb hb=>by simp only[List.mem_singleton] at hb;simp[hb]
  have hs1218:Step [b15,b11] w12 w18:=((hs1213.trans hs1315).trans' (hs1517.mono hm1511)).then hs18 (λb hb=>.inr (hOge b hb).1)
  refine ⟨(j+1,mj || !decide (lc.1∈p.co),v18),by simp only[];omega,⟨rfl,trivial⟩,hltL,hs1218.trans' (hs19.mono hm1515),hB1519,hB1118.step hs19 (by simp only[List.mem_singleton];omega),?_,?_⟩
  ·simp only[]
   rw[hixt,List.flatMap_append]
   have:=Qj ho18 hs19 (λb hb=>by
    simp only[List.mem_singleton]
    have:=(Qk ho18 b hb).1
    omega)
   simpa using this
  ·simp only[]
   rw[hmst,hmj,Bool.or_assoc]
 refine Qi ?_
 have hlt:k<l4.length:=by have h16:(k:Int)<(l4.length:Int):=h57;omega
 have hmem:=List.getElem_mem hlt
 have hdr:l4.drop k=l4[k]'hlt::l4.drop (k+1):=List.drop_eq_getElem_cons hlt
 refine Qf<|Qg<|Qc<|xig (g:=skC) Qid (hA54.ext hs67) rfl rfl hlt λa58 h58=>?_
 refine Q8 (l4[k]'hlt) λq hq=>?_
 rw[hq] at h58 hmem hdr
 have hqi:=hl4i q hmem
 rw[hdr,show q=(q.1,q.2.1,q.2.2) from rfl,ck4] at hck
 refine x (QJ h58 rfl rfl)<|xl rfl<|Qu (us:=[nS,.int .i64 0]) rfl λb8 w8 hs8 hb8 hB8=>xl rfl<|Qo (us:=skC q) hB8 rfl rfl rfl rfl ⟨hqi.one,rfl,trivial⟩ λw9 hs9 hB8=>xe ?_
 have hs79:Step [] w7 w9:=hs8.then1 hs9 hb8
 have hs09:=hs07.trans hs79
 refine Qc<|x (Qa rfl)<|x (Qd hB8 rfl rfl)<|x (Qa rfl)<|x (Qd hB8 rfl rfl)<|xl rfl<|xf<|(jF (hqi.ext hs09) q.2.2).mono ?_
 rintro r10 w10 ⟨rfl,rfl⟩
 refine Qe<|Qc<|Qb<|x (Q9 rfl rfl)<|xe ?_
 refine Q6 rfl (λh66=>?_) (λh66=>?_)
 ·rw[if_pos h66] at hck
  have hne:ck4 l4≠0:=by rw[←hck];exact h66
  rw[if_pos hne,←hck] at hsel
  subst hsel
  have hB410:Q0 w10.heap b4 47 ZW:=((hB44.ext hs6).ext hs67).ext hs79
  refine Qc<|x (QE trivial)<|Qb<|xl rfl<|Qo (us:=ZW) hB410 rfl rfl rfl rfl ⟨rfl,rfl,rfl,rfl,rfl,trivial⟩ λw11 hs11 hB411=>Qe ?_
  exact Qm ⟨[.agg ZW.toArray,.int .i64 (Xq q.2.2 none q.2.1)],⟨⟨_,rfl,QA rfl (hB411.at (L:=[]) (by simp)).cells⟩,rfl,trivial⟩,hs09.then1 hs11 (by omega),ZW,rfl,rfl,⟨rfl,rfl,rfl,rfl,rfl,trivial⟩,λ_=>rfl,λh0=>absurd h0 h66⟩
 rw[if_neg h66] at hck
 refine Qi<|Qw<|x (Qx rfl rfl ⟨by omega,by omega⟩)<|Qb<|xe ?_
 exact ⟨k+1,by omega,⟨rfl,trivial⟩,hlt,hs67.trans hs79,hck⟩
theorem yt (n:Nat):(1:Int)*(2:Int) ^ n=((1 <<< n:Nat):Int):=by
 rw[Nat.shiftLeft_eq,Nat.one_mul,Int.one_mul,Int.natCast_pow];rfl
theorem Jw {n:Nat}(h:n<16):1 <<< n<65536:=by
 rw[Nat.shiftLeft_eq,Nat.one_mul]
 exact Nat.pow_lt_pow_right (by decide) h
theorem j5 {b k:Nat}(hb:b<65536) (hk:k<16):orB b k<65536:=Qa6 hb (Jw hk)
theorem Qg6 {n:Nat}(h:n<16):inK .u16 ((1:Int)*(2:Int) ^ n):=by
 rw[yt]
 have h1:=Jw h
 generalize 1 <<< n=m at h1
 exact ⟨by omega,by omega⟩
theorem QdB {x:YC}:∀(l:List YC) (k b:Nat),b<65536→k+l.length≤16→jV x k b l<65536
 | [],_,_,hb,_=>hb
 | y::l,k,b,hb,hk=>by
  rw[jV]
  refine QdB l _ _ ?_ (by simp at hk;omega)
  by_cases h:(y.a.al.any λe=>decide (e∈x.a.al))=true
  ·rw[if_pos h];exact j5 hb (by simp at hk;omega)
  ·rw[if_neg h];exact hb
theorem yB (ls:List (Int×Int)) (l:Int×Int):U6 (ls++[l])=orB (U6 ls) l.1.toNat:=by
 unfold U6;rw[List.foldl_append];rfl
theorem zp:∀(ls:List (Int×Int)),(∀l∈ls,0≤l.1∧l.1<16)→U6 ls<65536:=by
 intro ls
 unfold U6
 have key:∀(ls:List (Int×Int)) (b:Nat),b<65536→(∀l∈ls,0≤l.1∧l.1<16)→ls.foldl (λb l=>orB b l.1.toNat) b<65536:=by
  intro ls
  induction ls with
  | nil=>intro b hb _;exact hb
  | cons l ls ih =>
   intro b hb h
   exact ih _ (j5 hb (by have:=h l List.mem_cons_self;omega)) (λl' hl=>h l' (List.mem_cons_of_mem _ hl))
 exact key ls 0 (by decide)
theorem zG (m:Nat) (hm:m<65536) (w:World):QL prog 65 [.int .u16 m] w λr w'=>Step [] w w'∧Qt 3 w.heap.size w' r (setK m 8):=by
 refine QL.of_W func65 rfl ntmps65 results65 (by simp) ?_
 refine Qc<|Qe<|Qc<|Qe<|Qf<|Qc<|Qb<|xe ?_
 refine Qg<|QC (α:=Nat×Value) [(3,17)] (λz=>[(3,z.2),(5,.int .i64 z.1)]) (λz w'=>z.1≤8∧Step [] w w'∧Qt 3 w.heap.size w' z.2 (setK m z.1)) (λz=>8 - z.1) (by rfl) (0,nS) ⟨rfl,rfl,trivial⟩
  ⟨Nat.zero_le _,Step.refl _ _,QO _ _ _ _⟩ ?_
 rintro ⟨k,v⟩ g w1 ⟨hk,hs1,ho1⟩
 simp only[] at hk ho1
 have hlen:=YP m k
 have hz1:=hs1.size
 refine Qc<|x (QB rfl rfl)<|xe ?_
 refine Qf<|QH rfl (λh6=>?_) (λh6=>?_)
 ·refine Qz ?_
  refine Qc<|Qb<|Qe ?_
  have hke:k=8:=by omega
  rw[hke] at ho1
  exact Qm ⟨[v],⟨rfl,trivial⟩,hs1,ho1⟩
 have hlt:k<8:=by omega
 have hdv:m / 2 ^ k<65536:=Nat.lt_of_le_of_lt (Nat.div_le_self _ _) hm
 have hsucc:=Ve m k
 refine Qi<|Qf<|Qg<|Qc<|Qb<|Qe<|Qc<|Qb<|Qb<|x (qz (n:=k) rfl rfl (by show k≤16;omega))<|x (Qgw (a:=m / 2 ^ k) (b:=1) (congrArg (Value.int .u16) (zg m k)) rfl hdv (by decide))<|x (Q5 rfl rfl)<|xe ?_
 refine QH rfl (λh12=>?_) (λh12=>?_)
 ·rw[if_neg (λe=>h12 (by rw[e];rfl))] at hsucc
  refine Qi<|Qw<|x (Qx rfl rfl ⟨by omega,by omega⟩)<|Qb<|xe ?_
  exact ⟨(k+1,v),by simp only[];omega,⟨rfl,rfl,trivial⟩,hlt,hs1,by simp only[];rw[hsucc];exact ho1⟩
 rw[if_pos (by omega)] at hsucc
 refine Qw<|Qb<|Qb<|xl rfl<|QD (us:=[[.int .i64 k]]) rfl rfl (by decide) (by simp) ⟨rfl,rfl,trivial⟩ λb15 w2 hs2 hb15 hB15=>?_
 have ho2:=Qq ho1 hs2
 have hz2:=hs2.size
 refine xl rfl<|QY (news:=[.int .i64 k]) (L:=[]) ho2 rfl rfl rfl (hB15.at (by simp)) (by simp[Value.oneCell']) (by omega) (by omega) λv3 w3 ho3 hs3 hn3 =>
  Qe ?_
 have hge:=Qk ho1
 refine Qw<|x (Qx rfl rfl ⟨by omega,by omega⟩)<|Qb<|xe ?_
 refine ⟨(k+1,v3),by simp only[];omega,⟨rfl,rfl,trivial⟩,hlt,(hs1.trans hs2).then hs3 (λb hb=>.inr (hge b hb).1),?_⟩
 simp only[]
 rw[hsucc];exact Qt.snoc ho3
theorem Qds {w:World}{c:CL}{b1 b2 i:Nat}(hB1:Q0 w.heap b1 47 c.cells) (hB2:Q0 w.heap b2 3 [.int .i64 i]) (hc:Zv [] w.heap c) {q:IV}(hi:c.rq[i]?=some q) (e:Int) :
  QL prog 136 [.int .i64 e,.pointer (some ⟨b1,0,none⟩),.pointer (some ⟨b2,0,none⟩)] w λr w'=>r=.bool (decide (e∈q.p.a.al))∧Step [] w w':=by
 obtain ⟨hlt,hq⟩:=List.getElem?_eq_some_iff.1 hi
 have hqA:=hc.rq.each q (hq ▸ List.getElem_mem hlt)
 refine QL.of_W func136 rfl ntmps136 results136 (by simp) ?_
 refine Qc<|Qe<|Qc<|x (Qa rfl)<|x (Qd hB1 rfl rfl)<|x (Qd hB2 rfl rfl)<|xig (g:=Za) (i:=i) YE hc.rq.arr rfl rfl hlt λa8 h8=>?_
 rw[hq] at h8
 refine x (Q7 rfl)<|x (Q7 rfl)<|x (Qv ((h8.fld 1 q.p.va rfl)) rfl)<|Qb<|xl rfl<|xf<|(ZG hqA.al e).mono ?_
 rintro r1 w1 ⟨rfl,rfl⟩
 refine Qe ?_
 exact Qm ⟨[_],⟨rfl,trivial⟩,rfl,Step.refl _ _⟩
theorem Qgg {w:World}{c:CL}{b1 i:Nat}(hB1:Q0 w.heap b1 47 c.cells) (hc:Zv [] w.heap c) (h8:c.co.length≤8) {q:IV}(hi:c.rq[i]?=some q) :
  QL prog 134 [.int .i64 i,.pointer (some ⟨b1,0,none⟩)] w λr w'=>r=.int .u16 (jV q.it 0 0 c.cel.co)∧Step [] w w':=by
 refine QL.of_W func134 rfl ntmps134 results134 (by simp) ?_
 refine Qc<|xl rfl<|QR (us:=[.int .i64 i]) rfl λb2 w1 hs1 hb2 hB2=>Qe<|Qc<|Qe<|Qf<|Qc<|x (Qa rfl)<|x (Qd (hB1.ext hs1) rfl rfl)<|x (Qs (hc.ext hs1).co.arr rfl)<|Qb<|xe ?_
 refine Qg<|QC (α:=Nat×Nat) [(4,6),(10,24)] (λz=>[(4,.int .u16 z.2),(10,.int .i64 z.1)]) (λz w'=>z.1≤c.co.length∧Step [] w1 w'∧z.2<65536∧jV q.it z.1 z.2 ((c.co.drop z.1).map (·.it))=jV q.it 0 0 c.cel.co) (λz=>c.co.length - z.1) (by rfl) (0,0) ⟨rfl,rfl,trivial⟩
  ⟨Nat.zero_le _,Step.refl _ _,by decide,rfl⟩ ?_
 rintro ⟨k,b⟩ g w2 ⟨hk,hs2,hb,hr⟩
 simp only[] at hk hb hr
 have hs02:=hs1.trans hs2
 have h2:=hc.ext hs02
 refine Qc<|x (QB rfl rfl)<|xe ?_
 refine Qf<|QH rfl (λh11=>?_) (λh11=>?_)
 ·refine Qz ?_
  have hke:c.co.length≤k:=by have h16:¬(k:Int)<(c.co.length:Int):=h11;omega
  rw[List.drop_of_length_le hke] at hr
  have hr':b=jV q.it 0 0 c.cel.co:=hr
  refine Qc<|Qb<|Qe ?_
  exact Qm ⟨[.int .u16 b],⟨rfl,trivial⟩,by rw[hr'];rfl,hs02⟩
 have hlt:k<c.co.length:=by have h16:(k:Int)<(c.co.length:Int):=h11;omega
 have hmem:=List.getElem_mem hlt
 rw[XB hlt,jV] at hr
 refine Qi<|Qf<|Qg<|Qc<|Qb<|xig (g:=Za) (i:=k) YE h2.co.arr rfl rfl hlt λa13 h13=>?_
 refine Q8 (c.co[k]'hlt) λy hy=>?_
 rw[hy] at h13 hmem hr
 have hyA:=h2.co.each y hmem
 refine x (QJ h13 rfl rfl)<|xl rfl<|Qu (us:=[.string .empty,nS,.int .i64 0,nS,nS]) rfl λb6 w3 hs3 hb6 hB6=>x Qh <|
  xl rfl<|Qo (us:=Za y) hB6 rfl rfl rfl rfl ⟨rfl,hyA.al.one,rfl,hyA.mr.one,hyA.ed.one,trivial⟩ λw4 hs4 hB6=>xe ?_
 have hs24:Step [] w2 w4:=hs3.then1 hs4 hb6
 have hs04:=hs02.trans hs24
 refine Qc<|x (Qa rfl)<|x (Qa rfl)<|x (Qd hB6 rfl rfl)<|x (Zl (l:=[]) (l':=[_,_]))<|xl rfl<|xf<|(QbE (q:=λe=>decide (e∈q.p.a.al)) (cap:=[.pointer (some ⟨b1,0,none⟩),.pointer (some ⟨b2,0,none⟩)]) (hyA.al.ext hs24)
  (λe w5 hs5=>Qds ((hB1.ext hs04).ext hs5) ((hB2.ext (hs2.trans hs24)).ext hs5) ((hc.ext hs04).ext hs5) hi e)).mono ?_
 rintro r5 w5 ⟨rfl,hs5⟩
 refine xe ?_
 refine Q2 rfl (λh19=>?_) (λh19=>?_)
 ·rw[if_pos (by exact h19)] at hr
  refine Qw<|Qb<|Qb<|x (QaY (n:=k) rfl rfl (by show k≤16;omega) (Qg6 (by omega)))<|x (j0 (a:=b) (b:=1 <<< k) rfl (congrArg (Value.int .u16) (yt k)) hb (Jw (by omega)))<|Qe<|Qw<|x (Qx rfl rfl ⟨by omega,by omega⟩)<|Qb<|xe ?_
  exact ⟨(k+1,orB b k),by simp only[];omega,⟨rfl,rfl,trivial⟩,hlt,(hs2.trans hs24).trans hs5,j5 hb (by omega),hr⟩
 rw[if_neg (by intro h0;have h19':(y.p.a.al.any λe=>decide (e∈q.p.a.al))=false:=h19;have h0':(y.p.a.al.any λe=>decide (e∈q.p.a.al))=true:=h0;rw[h19'] at h0';cases h0')] at hr
 refine Qi<|Qw<|x (Qx rfl rfl ⟨by omega,by omega⟩)<|Qb<|xe ?_
 exact ⟨(k+1,b),by simp only[];omega,⟨rfl,rfl,trivial⟩,hlt,(hs2.trans hs24).trans hs5,hb,hr⟩
theorem Qgf {w:World}{c:CL}{b1 i:Nat}(hB1:Q0 w.heap b1 47 c.cells) (hc:Zv [] w.heap c) {q:XV}(hi:c.ex[i]?=some q) (hm:∀l∈q.ls,0≤l.1∧l.1<16) :
  QL prog 137 [.int .i64 i,.pointer (some ⟨b1,0,none⟩)] w λr w'=>r=.int .u16 (U6 q.ls)∧Step [] w w':=by
 obtain ⟨hlt,hq⟩:=List.getElem?_eq_some_iff.1 hi
 have hqA:=hc.ex.each q (hq ▸ List.getElem_mem hlt)
 have hql:=hqA.le
 refine QL.of_W func137 rfl ntmps137 results137 (by simp) ?_
 refine Qc<|Qe<|Qc<|Qe<|Qf<|Qc<|x (Qa rfl)<|x (Qd hB1 rfl rfl)<|Qb<|xig (g:=Zq) (i:=i) XK hc.ex.arr rfl rfl hlt λa10 h10=>?_
 rw[hq] at h10
 refine x (Q7 rfl)<|x (Qv (h10.fld 1 q.v rfl) rfl)<|x (Qs hqA rfl)<|Qb<|xe ?_
 refine Qg<|QC (α:=Nat×Nat) [(4,4),(6,6),(14,23)] (λz=>[(4,.int .u16 z.2),(14,.int .i64 z.1)]) (λz w'=>z.1≤q.ls.length∧Step [] w w'∧z.2=U6 (q.ls.take z.1)) (λz=>q.ls.length - z.1) (by rfl) (0,0) ⟨rfl,rfl,trivial⟩
  ⟨Nat.zero_le _,Step.refl _ _,rfl⟩ ?_
 rintro ⟨k,b⟩ g w1 ⟨hk,hs1,hb⟩
 simp only[] at hk hb
 have hlb:b<65536:=by rw[hb];exact zp _ (λl hl=>hm l (List.mem_of_mem_take hl))
 refine Qc<|x (QB rfl rfl)<|xe ?_
 refine Qf<|QH rfl (λh15=>?_) (λh15=>?_)
 ·refine Qz ?_
  have hke:q.ls.length≤k:=by have h16:¬(k:Int)<(q.ls.length:Int):=h15;omega
  rw[List.take_of_length_le hke] at hb
  refine Qc<|Qb<|Qe ?_
  exact Qm ⟨[.int .u16 b],⟨rfl,trivial⟩,by rw[hb];rfl,hs1⟩
 have hltL:k<q.ls.length:=by have h16:(k:Int)<(q.ls.length:Int):=h15;omega
 have htk:q.ls.take (k+1)=q.ls.take k++[q.ls[k]'hltL]:=List.take_succ_eq_append_getElem hltL
 have hml:=hm _ (List.getElem_mem hltL)
 refine Qi<|Qf<|Qg<|Qc<|xig (g:=QP) Yo (hqA.ext hs1) rfl rfl hltL λa16 h16=>?_
 refine Q8 (q.ls[k]'hltL) λl hl=>?_
 rw[hl] at h16 htk hml
 have hln:l.1=(l.1.toNat:Int):=by omega
 have hl16:l.1.toNat<16:=by omega
 refine x (QJ h16 rfl rfl)<|xl rfl<|Qu (us:=[.int .i64 0,.int .i64 0]) rfl λb6 w2 hs2 hb6 hB6=>xl rfl<|Qo (us:=QP l) hB6 rfl rfl rfl rfl ⟨rfl,rfl,trivial⟩ λw3 hs3 hB6 =>
  xe ?_
 have hs13:Step [] w1 w3:=hs2.then1 hs3 hb6
 refine Qw<|Qb<|x (Qa rfl)<|x (Qd hB6 rfl rfl)<|x (QaY (n:=l.1.toNat) rfl (congrArg (Value.int .i64) hln) (by show l.1.toNat≤16;omega) (Qg6 hl16))<|x (j0 (a:=b) (b:=1 <<< l.1.toNat) rfl (congrArg (Value.int .u16) (yt _)) hlb (Jw hl16))<|Qe<|Qw<|x (Qx rfl rfl ⟨by omega,by omega⟩)<|Qb<|xe ?_
 exact ⟨(k+1,orB b l.1.toNat),by simp only[];omega,⟨rfl,rfl,trivial⟩,hltL,hs1.trans hs13,by simp only[];rw[htk,yB,hb]⟩
theorem Qge {w:World}{c:CL}{b1 i:Nat}(hB1:Q0 w.heap b1 47 c.cells) (hc:Zv [] w.heap c) {q:KV}(hi:c.cs[i]?=some q) (hm:∀l∈q.ts,0≤l.1∧l.1<16) :
  QL prog 138 [.int .i64 i,.pointer (some ⟨b1,0,none⟩)] w λr w'=>r=.int .u16 (U6 q.ts)∧Step [] w w':=by
 obtain ⟨hlt,hq⟩:=List.getElem?_eq_some_iff.1 hi
 have hqA:=hc.cs.each q (hq ▸ List.getElem_mem hlt)
 have hql:=hqA.le
 refine QL.of_W func138 rfl ntmps138 results138 (by simp) ?_
 refine Qc<|Qe<|Qc<|Qe<|Qf<|Qc<|x (Qa rfl)<|x (Qd hB1 rfl rfl)<|Qb<|xig (g:=Zs) (i:=i) Xh hc.cs.arr rfl rfl hlt λa10 h10=>?_
 rw[hq] at h10
 refine x (Q7 rfl)<|x (Qv (h10.fld 1 q.v rfl) rfl)<|x (Qs hqA rfl)<|Qb<|xe ?_
 refine Qg<|QC (α:=Nat×Nat) [(4,4),(6,6),(14,23)] (λz=>[(4,.int .u16 z.2),(14,.int .i64 z.1)]) (λz w'=>z.1≤q.ts.length∧Step [] w w'∧z.2=U6 (q.ts.take z.1)) (λz=>q.ts.length - z.1) (by rfl) (0,0) ⟨rfl,rfl,trivial⟩
  ⟨Nat.zero_le _,Step.refl _ _,rfl⟩ ?_
 rintro ⟨k,b⟩ g w1 ⟨hk,hs1,hb⟩
 simp only[] at hk hb
 have hlb:b<65536:=by rw[hb];exact zp _ (λl hl=>hm l (List.mem_of_mem_take hl))
 refine Qc<|x (QB rfl rfl)<|xe ?_
 refine Qf<|QH rfl (λh15=>?_) (λh15=>?_)
 ·refine Qz ?_
  have hke:q.ts.length≤k:=by have h16:¬(k:Int)<(q.ts.length:Int):=h15;omega
  rw[List.take_of_length_le hke] at hb
  refine Qc<|Qb<|Qe ?_
  exact Qm ⟨[.int .u16 b],⟨rfl,trivial⟩,by rw[hb];rfl,hs1⟩
 have hltL:k<q.ts.length:=by have h16:(k:Int)<(q.ts.length:Int):=h15;omega
 have htk:q.ts.take (k+1)=q.ts.take k++[q.ts[k]'hltL]:=List.take_succ_eq_append_getElem hltL
 have hml:=hm _ (List.getElem_mem hltL)
 refine Qi<|Qf<|Qg<|Qc<|xig (g:=QP) Yo (hqA.ext hs1) rfl rfl hltL λa16 h16=>?_
 refine Q8 (q.ts[k]'hltL) λl hl=>?_
 rw[hl] at h16 htk hml
 have hln:l.1=(l.1.toNat:Int):=by omega
 have hl16:l.1.toNat<16:=by omega
 refine x (QJ h16 rfl rfl)<|xl rfl<|Qu (us:=[.int .i64 0,.int .i64 0]) rfl λb6 w2 hs2 hb6 hB6=>xl rfl<|Qo (us:=QP l) hB6 rfl rfl rfl rfl ⟨rfl,rfl,trivial⟩ λw3 hs3 hB6 =>
  xe ?_
 have hs13:Step [] w1 w3:=hs2.then1 hs3 hb6
 refine Qw<|Qb<|x (Qa rfl)<|x (Qd hB6 rfl rfl)<|x (QaY (n:=l.1.toNat) rfl (congrArg (Value.int .i64) hln) (by show l.1.toNat≤16;omega) (Qg6 hl16))<|x (j0 (a:=b) (b:=1 <<< l.1.toNat) rfl (congrArg (Value.int .u16) (yt _)) hlb (Jw hl16))<|Qe<|Qw<|x (Qx rfl rfl ⟨by omega,by omega⟩)<|Qb<|xe ?_
 exact ⟨(k+1,orB b l.1.toNat),by simp only[];omega,⟨rfl,rfl,trivial⟩,hltL,hs1.trans hs13,by simp only[];rw[htk,yB,hb]⟩
end Go.Proofs.YtdffckgdcegpaaaGreatDoor
namespace Go.Lg
theorem xcG {P:Program}{f:Fr}{w:World}{K:Fr→World→Prop}{d:Option Nat}{ty:Nat}{ps:String}{af:Array Edge}{gd:Option (Nat×Bool)}{x:Operand}{l:List Operand}{at_:Array Nat}
  {g:Nat} {first capt:LV} (hg:∃fn,Fu P g fn) (hx:ev f x=.func (.func g) first.toArray capt.toArray) (h:QL P g (first++l.map (ev f)++capt) w λv w'=>K (QX f d v) w') :
  XO P ⟨d,.call ⟨.value x,l.toArray,at_⟩,ty,ps,af,gd⟩ f w K:=by
 obtain ⟨fn,hF⟩:=hg
 exact xc (fn:=fn) hx h
end Go.Lg
namespace Go.Proofs.YtdffckgdcegpaaaGreatDoor
open Go.Proofs.Tryz
open Go.Lg
def gK (m:Nat):Nat:=if m=0 then 134 else if m=1 then 137 else 138
theorem QeL (m:Nat):∃fn,Fu prog (gK m) fn:=by
 unfold gK
 split
 ·exact ⟨_,inferInstance⟩
 ·split
  ·exact ⟨_,inferInstance⟩
  ·exact ⟨_,inferInstance⟩
abbrev Y3 (c:Zu) (m:Nat):LN:=jP c ((m:Int)+1)
theorem Qdv (c:Zu):Y3 c 0=srR c:=rfl
theorem Qdu (c:Zu):Y3 c 1=srX c:=rfl
theorem Qdt (c:Zu):Y3 c 2=srC c:=rfl
structure VQ (c:Zu):Prop where
 c8:c.co.length≤8
 r:c.rq.length≤32
 x:c.ex.length≤32
 k:c.cs.length≤32
 xl:∀e∈c.ex,∀l∈e.ls,0≤l.1∧l.1<16
 kl:∀e∈c.cs,∀l∈e.ts,0≤l.1∧l.1<16
theorem QfT.sr {c:Zu}(h:QfT c):VQ c:=by
 have h1:=VH h.cd
 have h2:(szs c.co).length=c.co.length:=List.length_map ..
 have h8:=h.c8
 have hr:=h.cr
 refine ⟨h8,by omega,h1.xl,h1.kl,λe he l hl=>?_,λe he l hl=>?_⟩
 ·have:=h1.x e he l hl;omega
 ·have:=(h1.k e he).1 l hl;omega
theorem Kx {c:Zu}(h:VQ c) {m:Nat}(hm:m<3):(Y3 c m).length≤32:=by
 have h1:=h.r
 have h2:=h.x
 have h3:=h.k
 rcases m with _ | _ | _ | m
 ·rw[Qdv];unfold srR;rw[List.length_map];exact h1
 ·rw[Qdu];unfold srX;rw[List.length_map];exact h2
 ·rw[Qdt];unfold srC;rw[List.length_map];exact h3
 ·omega
theorem Ua {c:Zu}(h:VQ c) {m:Nat}(hm:m<3):∀b∈Y3 c m,b<65536:=by
 have h8:=h.c8
 rcases m with _ | _ | _ | m
 ·rw[Qdv];unfold srR
  intro b hb
  obtain ⟨x,_,rfl⟩:=List.mem_map.1 hb
  exact QdB _ _ _ (by decide) (by omega)
 ·rw[Qdu];unfold srX
  intro b hb
  obtain ⟨x,hx,rfl⟩:=List.mem_map.1 hb
  exact zp _ (h.xl x hx)
 ·rw[Qdt];unfold srC
  intro b hb
  obtain ⟨x,hx,rfl⟩:=List.mem_map.1 hb
  exact zp _ (h.kl x hx)
 ·omega
abbrev yb (b1:Nat) (c:Zu) (m:Nat):LV:=[.int .i64 ((m:Int)+1),.int .i64 (Y3 c m).length,.func (.func (gK m)) #[] #[.pointer (some ⟨b1,0,none⟩)]]
theorem V9 (b1:Nat) (c:Zu) (m:Nat):(yb b1 c m).length=3:=rfl
theorem jO {w:World}{c:CL}{b1 m i:Nat}(hB1:Q0 w.heap b1 47 c.cells) (hc:Zv [] w.heap c) (hok:VQ c.cel) (hm:m<3) (hi:i<(Y3 c.cel m).length) :
  QL prog (gK m) [.int .i64 i,.pointer (some ⟨b1,0,none⟩)] w λr w'=>r=.int .u16 ((Y3 c.cel m)[i]'hi:Nat)∧Step [] w w':=by
 rcases m with _ | _ | _ | m
 ·have hl:(Y3 c.cel 0).length=c.rq.length:=by rw[Qdv];unfold srR;rw[List.length_map];exact List.length_map ..
  have hi':i<c.rq.length:=Nat.lt_of_lt_of_eq hi hl
  have e:(Y3 c.cel 0)[i]'hi=jV (c.rq[i]'hi').it 0 0 c.cel.co:=by
   show (srR c.cel)[i]'_=_
   simp[srR,CL.cel]
  rw[e]
  have h8:c.co.length≤8:=by have:=hok.c8;rw[show c.cel.co.length=c.co.length from List.length_map ..] at this;exact this
  exact Qgg hB1 hc h8 (List.getElem?_eq_getElem hi')
 ·have hl:(Y3 c.cel 1).length=c.ex.length:=by rw[Qdu];unfold srX;rw[List.length_map];exact List.length_map ..
  have hi':i<c.ex.length:=Nat.lt_of_lt_of_eq hi hl
  have e:(Y3 c.cel 1)[i]'hi=U6 (c.ex[i]'hi').ls:=by
   show (srX c.cel)[i]'_=_
   simp[srX,CL.cel,XV.x]
  rw[e]
  exact Qgf hB1 hc (List.getElem?_eq_getElem hi') (λl hl=>hok.xl (c.ex[i]'hi').x (List.mem_map_of_mem (List.getElem_mem hi')) l hl)
 ·have hl:(Y3 c.cel 2).length=c.cs.length:=by rw[Qdt];unfold srC;rw[List.length_map];exact List.length_map ..
  have hi':i<c.cs.length:=Nat.lt_of_lt_of_eq hi hl
  have e:(Y3 c.cel 2)[i]'hi=U6 (c.cs[i]'hi').ts:=by
   show (srC c.cel)[i]'_=_
   simp[srC,CL.cel,KV.k]
  rw[e]
  exact Qge hB1 hc (List.getElem?_eq_getElem hi') (λl hl=>hok.kl (c.cs[i]'hi').k (List.mem_map_of_mem (List.getElem_mem hi')) l hl)
 ·omega
structure Qk1 (N:Nat) (w:World) (c:CL) (r:Value) (b1 b:Nat):Prop where
 r:r=.slice (some ⟨b,0,none⟩) 3 3
 n1:N≤b1
 n:N≤b
 B1:Q0 w.heap b1 47 c.cells
 B:Q0 w.heap b 137 ([0,1,2].flatMap (yb b1 c.cel))
theorem J9 {L:LN}{w:World}{c:CL}(h0:Zv L w.heap c) :
  QL prog 61 [c.val] w λr w'=>Step [] w w'∧∃b1 b,Qk1 w.heap.size w' c r b1 b:=by
 have h:=h0.up (L':=[]) (by simp)
 have e0:(Y3 c.cel 0).length=c.rq.length:=by rw[Qdv];unfold srR;rw[List.length_map];exact List.length_map ..
 have e1:(Y3 c.cel 1).length=c.ex.length:=by rw[Qdu];unfold srX;rw[List.length_map];exact List.length_map ..
 have e2:(Y3 c.cel 2).length=c.cs.length:=by rw[Qdt];unfold srC;rw[List.length_map];exact List.length_map ..
 refine QL.of_W func61 rfl ntmps61 results61 (by simp) ?_
 refine Qc<|xl rfl<|QR (us:=c.cells) rfl λb1 w1 hs1 hb1 hB1=>Qe ?_
 have h1:=h.ext hs1
 refine Qc<|x (Qa rfl)<|x (Qd hB1 rfl rfl)<|x (Qs h1.rq.arr rfl)<|x (Zl (l:=[]) (l':=[_]))<|x (QE ⟨rfl,rfl,rfl,trivial⟩)<|x (Qa rfl) <|
  x (Qd hB1 rfl rfl)<|x (Qs h1.ex.arr rfl)<|x (Zl (l:=[]) (l':=[_]))<|x (QE ⟨rfl,rfl,rfl,trivial⟩)<|x (Qa rfl)<|x (Qd hB1 rfl rfl) <|
  x (Qs h1.cs.arr rfl)<|x (Zl (l:=[]) (l':=[_]))<|x (QE ⟨rfl,rfl,rfl,trivial⟩) <|
  xl rfl<|QD (us:=[[.int .i64 1,.int .i64 c.rq.length,.func (.func 134) #[] #[.pointer (some ⟨b1,0,none⟩)]],[.int .i64 2,.int .i64 c.ex.length,.func (.func 137) #[] #[.pointer (some ⟨b1,0,none⟩)]],[.int .i64 3,.int .i64 c.cs.length,.func (.func 138) #[] #[.pointer (some ⟨b1,0,none⟩)]]]) rfl rfl (by decide) (by simp) ⟨rfl,rfl,rfl,rfl,rfl,rfl,trivial⟩ λb18 w2 hs2 hb18 hB18 =>
  Qe ?_
 have hz1:=hs1.size
 have hz2:=hs2.size
 refine Qm ⟨[_],⟨rfl,trivial⟩,hs1.trans hs2,b1,b18,rfl,hb1,by omega,hB1.ext hs2,?_⟩
 have e:[0,1,2].flatMap (yb b1 c.cel)=[.int .i64 1,.int .i64 c.rq.length,.func (.func 134) #[] #[.pointer (some ⟨b1,0,none⟩)],.int .i64 2,.int .i64 c.ex.length,.func (.func 137) #[] #[.pointer (some ⟨b1,0,none⟩)],.int .i64 3,.int .i64 c.cs.length,.func (.func 138) #[] #[.pointer (some ⟨b1,0,none⟩)]]:=by
  simp only[List.flatMap_cons,List.flatMap_nil,yb,e0,e1,e2]
  rfl
 rw[e];exact hB18
def srP (c:Zu):Nat→LN
 | 0=>[]
 | m+1=>srP c m++Y3 c m
theorem yq (c:Zu):srP c 3=sets c:=by
 simp only[srP,Qdv,Qdu,Qdt,sets,List.nil_append,List.append_assoc]
theorem ze {c:Zu}(h:VQ c):∀m,m≤3→(srP c m).length≤32*m
 | 0,_=>Nat.zero_le _
 | m+1,hm=>by
  have h1:=ze h m (by omega)
  have h2:=Kx h (show m<3 by omega)
  rw[srP,List.length_append];omega
abbrev Qdg (l:LN):LV:=l.map λb=>.int .u16 (b:Nat)
abbrev UY (base:Nat) (w:World) (v:Value) (l:LN):Prop:=w.ownsRow base 140 1 v l.length (Qdg l)
theorem UY.snoc {base:Nat}{w:World}{v:Value}{l:LN}{b:Nat}(h:w.ownsRow base 140 1 v (l.length+1) (Qdg l++[.int .u16 (b:Nat)])):UY base w v (l++[b]):=by
 unfold UY Qdg
 rw[List.length_append,List.map_append];exact h
set_option maxHeartbeats 4000000 in
theorem Qgk {L:LN}{w:World}{c:CL}(h0:Zv L w.heap c) (hok:VQ c.cel) :
  QL prog 99 [c.val] w λr w'=>Step [] w w'∧UY w.heap.size w' r (sets c.cel):=by
 have h:=h0.up (L':=[]) (by simp)
 refine QL.of_W func99 rfl ntmps99 results99 (by simp) ?_
 refine Qc<|xl rfl<|QR (us:=c.cells) rfl λb1 w1 hs1 hb1 hB1=>Qe<|Qc<|Qe<|Qf<|Qc<|x (Qr hB1 rfl rfl)<|xl rfl<|xf<|(J9 (h.ext hs1)).mono ?_
 rintro r2 w2 ⟨hs2,c1,bs,hS⟩
 have hrS:=hS.r
 subst hrS
 have hs02:=hs1.trans hs2
 have hz1:=hs1.size
 have hz2:=hs2.size
 have hlb:=hS.B.lt
 have hlc:=hS.B1.lt
 have hA:∀{w':World},Step [] w2 w'→Zo [] w'.heap (.slice (some ⟨bs,0,none⟩) 3 3) [0,1,2].length 3 ([0,1,2].flatMap (yb c1 c.cel)):=λhs =>
  (hS.B.ext hs).arr (by simp) (n:=3) (cap:=3) (sz:=3) (by rfl) (by omega) (Nat.le_refl _)
 refine x (Qs (hA (Step.refl _ _)) rfl)<|Qb<|xe ?_
 refine Qg<|QC (α:=Nat×Value) [(3,3),(5,6),(10,27)] (λz=>[(3,z.2),(10,.int .i64 z.1)]) (λz w'=>z.1≤3∧Step [] w2 w'∧UY w2.heap.size w' z.2 (srP c.cel z.1)) (λz=>3 - z.1) (by rfl) (0,nS) ⟨rfl,rfl,trivial⟩
  ⟨Nat.zero_le _,Step.refl _ _,QO _ _ _ _⟩ ?_
 rintro ⟨m,v⟩ g w3 ⟨hm,hs3,ho3⟩
 simp only[] at hm ho3
 have hpl:=ze hok m hm
 refine Qc<|x (QB rfl rfl)<|xe ?_
 refine Qf<|QH rfl (λh11=>?_) (λh11=>?_)
 ·refine Qz ?_
  have hme:m=3:=by have h16:¬(m:Int)<(3:Nat):=h11;omega
  rw[hme,yq] at ho3
  refine Qc<|Qb<|Qe ?_
  exact Qm ⟨[v],⟨rfl,trivial⟩,hs02.trans hs3,Zi ho3 hs02.size⟩
 have hm3:m<3:=by have h16:(m:Int)<(3:Nat):=h11;omega
 have hgl:=Kx hok hm3
 refine Qi ?_
 have hz3:=hs3.size
 have hge:=Qk ho3
 have hgm:([0,1,2]:LN)[m]'hm3=m:=by rcases m with _ | _ | _ | m <;> first | rfl | omega
 refine Qf<|Qg<|Qc<|xig (g:=yb c1 c.cel) (i:=m) (V9 c1 c.cel) (hA hs3) rfl rfl hm3 λa12 h12=>?_
 rw[hgm] at h12
 refine x (QJ h12 rfl rfl)<|xl rfl<|Qu (us:=[.int .i64 0,.int .i64 0,.nilFunc]) rfl λb5 w4 hs4 hb5 hB5=>xl rfl<|Qo (us:=yb c1 c.cel m) hB5 rfl rfl rfl rfl ⟨rfl,rfl,rfl,trivial⟩ λw5 hs5 hB5 =>
  xe ?_
 have hs35:Step [] w3 w5:=hs4.then1 hs5 hb5
 have hz35:=hs35.size
 refine Qc<|x (Qa rfl)<|x (Qd hB5 rfl rfl)<|Qb<|xe ?_
 refine Qg<|QC (α:=Nat×Value) [(3,3),(6,6),(16,26)] (λz=>[(3,z.2),(16,.int .i64 z.1)]) (λz w'=>z.1≤(Y3 c.cel m).length∧Step (ob v) w5 w'∧UY w2.heap.size w' z.2 (srP c.cel m++(Y3 c.cel m).take z.1)∧∀b∈ob z.2,b∈ob v∨w5.heap.size≤b) (λz=>(Y3 c.cel m).length - z.1) (by rfl) (0,v) ⟨rfl,rfl,trivial⟩
  ⟨Nat.zero_le _,Step.refl _ _,by simp only[List.take_zero,List.append_nil];exact Qq ho3 hs35,λb hb=>.inl hb⟩ ?_
 rintro ⟨i,vi⟩ g w6 ⟨hi,hs6,ho6,hn6⟩
 simp only[] at hi ho6 hn6
 have hz6:=hs6.size
 have hge6:=Qk ho6
 have hs26:Step [] w2 w6:=(hs3.trans hs35).then hs6 (λb hb=>.inr (hge b hb).1)
 have hb5v:b5∉ob v:=λhb=>by have:=(hge b5 hb).2;omega
 have hB56:=hB5.step hs6 hb5v
 have h6:=h.ext (hs02.trans hs26)
 have hB16:Q0 w6.heap c1 47 c.cells:=hS.B1.ext hs26
 refine Qc<|x (QB rfl rfl)<|xe ?_
 refine Qf<|QH rfl (λh17=>?_) (λh17=>?_)
 ·refine Qz ?_
  have hie:(Y3 c.cel m).length≤i:=by have h16:¬(i:Int)<((Y3 c.cel m).length:Int):=h17;omega
  rw[List.take_of_length_le hie] at ho6
  refine Qw<|x (Qx rfl rfl ⟨by omega,by omega⟩)<|Qb<|xe ?_
  exact ⟨(m+1,vi),by simp only[];omega,⟨rfl,rfl,trivial⟩,hm3,hs26,ho6⟩
 have hlt:i<(Y3 c.cel m).length:=by have h16:(i:Int)<((Y3 c.cel m).length:Int):=h17;omega
 have htk:(Y3 c.cel m).take (i+1)=(Y3 c.cel m).take i++[(Y3 c.cel m)[i]'hlt]:=List.take_succ_eq_append_getElem hlt
 have hln:(srP c.cel m++(Y3 c.cel m).take i).length≤200:=by rw[List.length_append,List.length_take];omega
 refine Qi<|Qf<|Qg<|Qc<|Qb<|Qe<|Qw<|Qb<|x (Qa rfl)<|x (Qd hB56 rfl rfl)<|Qb<|xl rfl<|xcG (first:=[]) (capt:=[.pointer (some ⟨c1,0,none⟩)]) (QeL m) rfl<|(jO hB16 h6 hok hm3 hlt).mono ?_
 rintro r7 w7 ⟨rfl,hs7⟩
 refine Q8 ((Y3 c.cel m)[i]'hlt) λbv hbv=>?_
 rw[hbv] at htk ⊢
 refine xl rfl<|QD (us:=[[.int .u16 (bv:Nat)]]) rfl rfl (by decide) (by simp) ⟨rfl,rfl,trivial⟩ λb24 w8 hs8 hb24 hB24=>?_
 have hs68:=hs7.trans hs8
 have hz68:=hs68.size
 refine xl rfl<|QY (news:=[.int .u16 (bv:Nat)]) (L:=[]) (Qq ho6 hs68) rfl rfl rfl (hB24.at (by simp)) (by simp[Value.oneCell']) (by omega) (by omega) λv9 w9 ho9 hs9 hn9 =>
  Qe<|Qw<|x (Qx rfl rfl ⟨by omega,by omega⟩)<|Qb<|xe ?_
 refine ⟨(i+1,v9),by simp only[];omega,⟨rfl,rfl,trivial⟩,hlt,(hs6.trans hs68).then hs9 hn6,?_,λb hb=>?_⟩
 ·simp only[]
  rw[htk,←List.append_assoc]
  exact UY.snoc ho9
 ·rcases hn9 b hb with h9 | h9
  ·exact hn6 b h9
  ·exact .inr (by omega)
structure MV where
 kd:Int
 ix:Int
 v:Value
 co:LI
def MV.m (q:MV):Jt:=⟨q.kd,q.ix,q.co⟩
abbrev Zn (q:MV):LV:=[.int .i64 q.kd,.int .i64 q.ix,q.v]
theorem zz (q:MV):(Zn q).length=3:=rfl
abbrev mvP (q:MV):Value×Nat×Nat×LV:=(q.v,q.co.length,1,q.co.map (.int .i64))
abbrev MvN (base:Nat) (w:World) (v:Value) (l:List MV):Prop:=ZM Zn 3 39 mvP base w v l
theorem V0 {q:MV}(h:q.v.oneCell'=true):∀u∈Zn q,u.oneCell'=true:=by
 intro u hu
 simp only[Zn,List.mem_cons,List.not_mem_nil,or_false] at hu
 rcases hu with rfl | rfl | rfl
 ·rfl
 ·rfl
 ·exact h
theorem KL (k:Int):∀(l:LN) (i:Nat),(Jn k i l).length=l.length
 | [],_=>rfl
 | _::l,i=>by rw[Jn,List.length_cons,KL k l,List.length_cons]
theorem qG (k:Int):∀(l:LN) (i j:Nat) (h:j<l.length),(Jn k i l).take (j+1)=(Jn k i l).take j++[⟨k,((i+j:Nat):Int),setK (l[j]'h) 8⟩]
 | [],_,j,h=>absurd h (Nat.not_lt_zero _)
 | b::l,i,0,h=>by rw[Jn];rfl
 | b::l,i,j+1,h=>by
  rw[Jn,List.take_succ_cons,List.take_succ_cons,qG k l (i+1) j (by simpa using h),List.cons_append]
  have e:((i+1+j:Nat):Int)=((i+(j+1):Nat):Int):=by omega
  rw[e];rfl
abbrev mdG (c:Zu) (m:Nat):List Jt:=Jn ((m:Int)+1) 0 (Y3 c m)
def mdP (c:Zu):Nat→List Jt
 | 0=>[]
 | m+1=>mdP c m++mdG c m
theorem yN (c:Zu):mdP c 3=mods c:=by
 simp only[mdP,mods,List.nil_append,List.append_assoc]
 rfl
theorem zE {c:Zu}(h:VQ c):∀m,m≤3→(mdP c m).length≤32*m
 | 0,_=>Nat.zero_le _
 | m+1,hm=>by
  have h1:=zE h m (by omega)
  have h2:=Kx h (show m<3 by omega)
  rw[mdP,List.length_append,KL];omega
set_option maxHeartbeats 4000000 in
theorem US {L:LN}{w:World}{c:CL}(h0:Zv L w.heap c) :
  QL prog 31 [c.val] w λr w'=>Step [] w w'∧∃v l,r=.tuple #[v,.int .i64 (Zd c.cel)]∧MvN w.heap.size w' v l∧(Zd c.cel≠0→v=nS∧l=[])∧(Zd c.cel=0→l.map MV.m=mods c.cel):=by
 have h:=h0.up (L':=[]) (by simp)
 refine Q8 (Zd c.cel) λE hE=>?_
 rw[hE]
 refine QL.of_W func31 rfl ntmps31 results31 (by simp) ?_
 refine Qc<|xl rfl<|QR (us:=c.cells) rfl λb1 w1 hs1 hb1 hB1=>x Qh<|Qe<|Qf<|Qc<|x (Qr hB1 rfl rfl)<|xl rfl<|xf<|(YM (h.ext hs1)).mono ?_
 rintro rc wc ⟨hrc,hsc⟩
 rw[hE] at hrc
 subst hrc
 have hB1c:=hB1.ext hsc
 have hs0c:=hs1.trans hsc
 refine Qe<|Qc<|Qb<|x (Q9 rfl rfl)<|xe ?_
 refine Q6 rfl (λh12=>?_) (λh12=>?_)
 ·refine Qc<|Qb<|x Qh<|Qe ?_
  exact Qm ⟨[nS,.int .i64 E],⟨rfl,rfl,trivial⟩,hs0c,nS,[],rfl,ZM.nil,λ_=>⟨rfl,rfl⟩,λh0=>absurd h0 h12⟩
 have hE0:E=0:=Decidable.not_not.1 h12
 have hok:VQ c.cel:=(ZS (hE.trans hE0)).sr
 refine Qi<|Qc<|Qe<|Qf<|Qc<|x (Qr hB1c rfl rfl)<|xl rfl<|xf<|(J9 (h.ext hs0c)).mono ?_
 rintro r2 w2 ⟨hs2,c1,bs,hS⟩
 have hrS:=hS.r
 subst hrS
 have hs02:=hs0c.trans hs2
 have hz1:=hs0c.size
 have hz2:=hs2.size
 have hlb:=hS.B.lt
 have hlc:=hS.B1.lt
 have hA:∀{w':World},Step [] w2 w'→Zo [] w'.heap (.slice (some ⟨bs,0,none⟩) 3 3) [0,1,2].length 3 ([0,1,2].flatMap (yb c1 c.cel)):=λhs =>
  (hS.B.ext hs).arr (by simp) (n:=3) (cap:=3) (sz:=3) (by rfl) (by omega) (Nat.le_refl _)
 refine x (Qs (hA (Step.refl _ _)) rfl)<|Qb<|xe ?_
 refine Qg<|QC (α:=Nat×Value×List MV) [(5,5),(7,8),(17,39)] (λz=>[(5,z.2.1),(17,.int .i64 z.1)]) (λz w'=>z.1≤3∧Step [] w2 w'∧MvN w2.heap.size w' z.2.1 z.2.2∧z.2.2.map MV.m=mdP c.cel z.1) (λz=>3 - z.1) (by rfl) (0,nS,[]) ⟨rfl,rfl,trivial⟩
  ⟨Nat.zero_le _,Step.refl _ _,ZM.nil,rfl⟩ ?_
 rintro ⟨m,v,l⟩ g w3 ⟨hm,hs3,ho3,hl3⟩
 simp only[] at hm ho3 hl3
 have hpl:=zE hok m hm
 have hll:l.length=(mdP c.cel m).length:=by rw[←hl3,List.length_map]
 refine Qc<|x (QB rfl rfl)<|xe ?_
 refine Qf<|QH rfl (λh11=>?_) (λh11=>?_)
 ·refine Qz ?_
  have hme:m=3:=by have h16:¬(m:Int)<(3:Nat):=h11;omega
  rw[hme,yN] at hl3
  refine Qc<|Qb<|x Qh<|Qe ?_
  have hz02:=hs02.size
  exact Qm ⟨[v,.int .i64 0],⟨rfl,rfl,trivial⟩,hs02.trans hs3,v,l,by rw[hE0];rfl,⟨Zi ho3.own hz02,λq hq L hL=>ho3.each q hq L (λb hb=>(hL b hb).imp (λh=>by omega) id)⟩,λh0=>absurd hE0 h0,λ_=>hl3⟩
 have hm3:m<3:=by have h16:(m:Int)<(3:Nat):=h11;omega
 have hgl:=Kx hok hm3
 refine Qi ?_
 have hz3:=hs3.size
 have hge:=Qk ho3.own
 have hgm:([0,1,2]:LN)[m]'hm3=m:=by rcases m with _ | _ | _ | m <;> first | rfl | omega
 refine Qf<|Qg<|Qc<|xig (g:=yb c1 c.cel) (i:=m) (V9 c1 c.cel) (hA hs3) rfl rfl hm3 λa12 h12=>?_
 rw[hgm] at h12
 refine x (QJ h12 rfl rfl)<|xl rfl<|Qu (us:=[.int .i64 0,.int .i64 0,.nilFunc]) rfl λb7 w4 hs4 hb7 hB7=>xl rfl<|Qo (us:=yb c1 c.cel m) hB7 rfl rfl rfl rfl ⟨rfl,rfl,rfl,trivial⟩ λw5 hs5 hB7 =>
  xe ?_
 have hs35:Step [] w3 w5:=hs4.then1 hs5 hb7
 have hz35:=hs35.size
 refine Qc<|x (Qa rfl)<|x (Qd hB7 rfl rfl)<|Qb<|xe ?_
 refine Qg<|QC (α:=Nat×Value×List MV) [(5,5),(8,8),(23,38)] (λz=>[(5,z.2.1),(23,.int .i64 z.1)]) (λz w'=>z.1≤(Y3 c.cel m).length∧Step (ob v) w5 w'∧MvN w2.heap.size w' z.2.1 z.2.2∧z.2.2.map MV.m=mdP c.cel m++(mdG c.cel m).take z.1∧∀b∈ob z.2.1,b∈ob v∨w5.heap.size≤b) (λz=>(Y3 c.cel m).length - z.1) (by rfl) (0,v,l) ⟨rfl,rfl,trivial⟩
  ⟨Nat.zero_le _,Step.refl _ _,ho3.ext hs35,by simp only[List.take_zero,List.append_nil];exact hl3,λb hb=>.inl hb⟩ ?_
 rintro ⟨i,vi,li⟩ g w6 ⟨hi,hs6,ho6,hl6,hn6⟩
 simp only[] at hi ho6 hl6 hn6
 have hz6:=hs6.size
 have hge6:=Qk ho6.own
 have hs26:Step [] w2 w6:=(hs3.trans hs35).then hs6 (λb hb=>.inr (hge b hb).1)
 have hb7v:b7∉ob v:=λhb=>by have:=(hge b7 hb).2;omega
 have hB76:=hB7.step hs6 hb7v
 have h6:=h.ext (hs02.trans hs26)
 have hB16:Q0 w6.heap c1 47 c.cells:=hS.B1.ext hs26
 have hlil:li.length≤200:=by
  have e1:=congrArg List.length hl6
  rw[List.length_map,List.length_append,List.length_take] at e1
  have e2:(mdG c.cel m).length=(Y3 c.cel m).length:=KL _ _ _
  omega
 refine Qc<|x (QB rfl rfl)<|xe ?_
 refine Qf<|QH rfl (λh17=>?_) (λh17=>?_)
 ·refine Qz ?_
  have hie:(Y3 c.cel m).length≤i:=by have h16:¬(i:Int)<((Y3 c.cel m).length:Int):=h17;omega
  rw[List.take_of_length_le (by rw[KL];exact hie)] at hl6
  refine Qw<|x (Qx rfl rfl ⟨by omega,by omega⟩)<|Qb<|xe ?_
  exact ⟨(m+1,vi,li),by simp only[];omega,⟨rfl,rfl,trivial⟩,hm3,hs26,ho6,hl6⟩
 have hlt:i<(Y3 c.cel m).length:=by have h16:(i:Int)<((Y3 c.cel m).length:Int):=h17;omega
 have htk:(mdG c.cel m).take (i+1)=(mdG c.cel m).take i++[⟨(m:Int)+1,((0+i:Nat):Int),setK ((Y3 c.cel m)[i]'hlt) 8⟩]:=qG _ _ _ _ hlt
 rw[Nat.zero_add] at htk
 have hbl:=Ua hok hm3 _ (List.getElem_mem hlt)
 refine Qi<|Qf<|Qg<|Qc<|Qb<|Qe ?_
 have hb7i:b7∉ob vi:=λhb=>by
  rcases hn6 b7 hb with h9 | h9
  ·exact hb7v h9
  ·have:=hB7.lt;omega
 have hd6:Step [] w6 { w6 with drawn:=w6.drawn+1 }:=Step.drew _ _
 have hzd:({ w6 with drawn:=w6.drawn+1 }:World).heap.size=w6.heap.size:=rfl
 refine QU (Step (ob vi) w6) [(0,true),(1,true),(2,true),(3,true),(4,true),(5,true),(6,true),(7,false),(8,false),(9,true),(10,false),(11,false),(12,true)] mixed (by rfl) (by kernel_rfl) (Step.drew _ _) ?_
 refine p (λ_=>Qn)<|p (λ_=>Qa rfl)<|pq (λ_ hc=>Qd (hB76.step hc hb7i) rfl rfl)<|p (λ_=>Qn)<|p (λ_=>Qa rfl) <|
  pq (λ_ hc=>Qd (hB76.step hc hb7i) rfl rfl)<|p (λ_=>Qn)<|pk<|xcG (first:=[]) (capt:=[.pointer (some ⟨c1,0,none⟩)]) (QeL m) rfl<|(jO (hB16.ext hd6) (h6.ext hd6) hok hm3 hlt).mono ?_
 rintro r8 w8 ⟨rfl,hs8⟩
 refine Q8 ((Y3 c.cel m)[i]'hlt) λbv hbv=>?_
 rw[hbv] at htk hbl ⊢
 have hs68:=hd6.trans hs8
 refine ⟨hs68.any,?_⟩
 refine pk<|xf<|(zG bv hbl w8).mono ?_
 rintro r9 w9 ⟨hs9,ho9⟩
 have hs69:=hs68.trans hs9
 have hz68:=hs68.size
 have hz69:=hs69.size
 refine ⟨hs69.any,?_⟩
 refine p (λ_=>QE ⟨rfl,rfl,Q3 ho9,trivial⟩)<|pk<|QD (us:=[Zn ⟨(m:Int)+1,i,r9,setK bv 8⟩]) rfl rfl (by decide) (by simp) ⟨rfl,rfl,trivial⟩ λb36 w10 hs10 hb36 hB36=>⟨(hs69.trans hs10).any,?_⟩
 have hs610:=hs69.trans hs10
 have hz610:=hs610.size
 have hz10:=hs10.size
 refine pk<|QY (news:=Zn ⟨(m:Int)+1,i,r9,setK bv 8⟩) (L:=[]) (Qq ho6.own hs610) rfl rfl rfl (hB36.at (by simp)) (V0 (q:=⟨(m:Int)+1,i,r9,setK bv 8⟩) (QF ho9)) (by omega) (by omega) λv11 w11 ho11 hs11 hn11=>⟨hs610.any.trans' hs11,?_⟩
 refine p (λ_=>Qh)<|pe ?_
 have hkl:=YP bv 8
 have ho11':MvN w2.heap.size w11 v11 (li++[⟨(m:Int)+1,i,r9,setK bv 8⟩]):=ZM.app2 (N:=w8.heap.size) (ho6.ext hs610) (Qq ho9 hs10) (by show (setK bv 8).length≤_;omega) (by have:=hs26.size;omega) (λb hb=>by have:=hge6 b hb;omega) ho11 hs11 hn11
 refine Qw<|x (Qx rfl rfl ⟨by omega,by omega⟩)<|Qb<|xe ?_
 refine ⟨(i+1,v11,li++[⟨(m:Int)+1,i,r9,setK bv 8⟩]),by simp only[];omega,⟨rfl,rfl,trivial⟩,hlt,(hs6.trans hs610).then hs11 hn6,ho11',?_,λb hb=>?_⟩
 ·simp only[]
  rw[htk,List.map_append,hl6,List.append_assoc];rfl
 ·rcases hn11 b hb with h9 | h9
  ·exact hn6 b h9
  ·exact .inr (by omega)
theorem QkM {n:Nat}(h:n≤8):2 ^ n≤256:=Nat.pow_le_pow_right (by decide) h
set_option maxHeartbeats 4000000 in
theorem K8 {L:LN}{w:World}{c:CL}(h0:Zv L w.heap c) :
  QL prog 38 [c.val] w λr w'=>Step [] w w'∧∃v,r=.tuple #[v,.int .i64 (Zd c.cel)]∧(Zd c.cel≠0→v=nS)∧(Zd c.cel=0→Qt 3 w.heap.size w' v (rem c.cel)):=by
 have h:=h0.up (L':=[]) (by simp)
 refine Q8 (Zd c.cel) λE hE=>?_
 rw[hE]
 refine QL.of_W func38 rfl ntmps38 results38 (by simp) ?_
 refine Qc<|xl rfl<|QR (us:=c.cells) rfl λb1 w1 hs1 hb1 hB1=>x Qh<|Qe<|Qf<|Qc<|x (Qr hB1 rfl rfl)<|xl rfl<|xf<|(YM (h.ext hs1)).mono ?_
 rintro rc wc ⟨hrc,hsc⟩
 rw[hE] at hrc
 subst hrc
 have hB1c:=hB1.ext hsc
 have hs0c:=hs1.trans hsc
 refine Qe<|Qc<|Qb<|x (Q9 rfl rfl)<|xe ?_
 refine Q6 rfl (λh12=>?_) (λh12=>?_)
 ·refine Qc<|Qb<|x Qh<|Qe ?_
  exact Qm ⟨[nS,.int .i64 E],⟨rfl,rfl,trivial⟩,hs0c,nS,rfl,λ_=>rfl,λh0=>absurd h0 h12⟩
 have hE0:E=0:=Decidable.not_not.1 h12
 have hok:VQ c.cel:=(ZS (hE.trans hE0)).sr
 have hcc:c.cel.co.length=c.co.length:=List.length_map ..
 have h8:c.co.length≤8:=by have:=hok.c8;omega
 have hp8:=QkM h8
 have hp1:0<2 ^ c.co.length:=Nat.pow_pos (by decide)
 have he:(1:Int)*(2:Int) ^ c.co.length - 1=((2 ^ c.co.length - 1:Nat):Int):=by
  rw[yt,Nat.shiftLeft_eq,Nat.one_mul];omega
 have hin:inK .u16 ((1:Int)*(2:Int) ^ c.co.length - 1):=by rw[he];exact ⟨by omega,by omega⟩
 have hb0:2 ^ c.co.length - 1<65536:=by omega
 have hsl:=ze hok 3 (by omega)
 rw[yq] at hsl
 have hrb:jY c.cel=(sets c.cel).foldl (λl b=>l &&& (65535 ^^^ b)) (2 ^ c.co.length - 1):=by unfold jY;rw[hcc]
 have hbl:∀b∈sets c.cel,b<65536:=by
  intro b hb
  unfold sets at hb
  rcases List.mem_append.1 hb with hb | hb
  ·exact Ua hok (m:=0) (by omega) b hb
  ·rcases List.mem_append.1 hb with hb | hb
   ·exact Ua hok (m:=1) (by omega) b hb
   ·exact Ua hok (m:=2) (by omega) b hb
 refine Q8 (2 ^ c.co.length - 1) λb0 hb0'=>?_
 rw[hb0'] at he hrb hb0
 have hc':=h.ext hs0c
 refine Qi<|Qc<|x (Qa rfl)<|x (Qd hB1c rfl rfl)<|x (Qs hc'.co.arr rfl)<|x (QaY (n:=c.co.length) rfl rfl (by show c.co.length≤16;omega) (Qg6 (by omega)))<|x (Jl rfl rfl hin)<|Qe<|Qf<|Qc<|x (Qr hB1c rfl rfl)<|xl rfl<|xf<|(Qgk hc' hok).mono ?_
 rintro r2 w2 ⟨hs2,ho2⟩
 have hA:Zo [] w2.heap r2 (sets c.cel).length 1 (Qdg (sets c.cel)):=QS ho2 (by omega) (by simp)
 have hA':Zo [] w2.heap r2 (sets c.cel).length 1 ((sets c.cel).flatMap λb=>[.int .u16 (b:Nat)]):=by
  have e:(sets c.cel).flatMap (λb=>[Value.int .u16 (b:Nat)])=Qdg (sets c.cel):=by
   generalize sets c.cel=l
   induction l with
   | nil=>rfl
   | cons a l ih=>rw[List.flatMap_cons,ih];rfl
  rw[e];exact hA
 refine x (Qs hA rfl)<|Qb<|xe ?_
 refine Qg<|QC (α:=Nat×Nat) [(5,5),(7,7),(21,28)] (λz=>[(5,.int .u16 z.2),(21,.int .i64 z.1)]) (λz w'=>z.1≤(sets c.cel).length∧Step [] w2 w'∧z.2<65536∧((sets c.cel).drop z.1).foldl (λl b=>l &&& (65535 ^^^ b)) z.2=jY c.cel) (λz=>(sets c.cel).length - z.1) (by rfl) (0,b0) ⟨congrArg (Value.int .u16) he,rfl,trivial⟩
  ⟨Nat.zero_le _,Step.refl _ _,hb0,hrb.symm⟩ ?_
 rintro ⟨k,b⟩ g w3 ⟨hk,hs3,hb,hr⟩
 simp only[] at hk hb hr
 have hs03:=(hs0c.trans hs2).trans hs3
 refine Qc<|x (QB rfl rfl)<|xe ?_
 refine Qf<|QH rfl (λh11=>?_) (λh11=>?_)
 ·refine Qz ?_
  have hke:(sets c.cel).length≤k:=by have h16:¬(k:Int)<((sets c.cel).length:Int):=h11;omega
  rw[List.drop_of_length_le hke] at hr
  have hr':b=jY c.cel:=hr
  refine Qc<|Qb<|xl rfl<|xf<|(zG b hb w3).mono ?_
  rintro r4 w4 ⟨hs4,ho4⟩
  refine x Qh<|Qe ?_
  rw[hr'] at ho4
  exact Qm ⟨[r4,.int .i64 0],⟨rfl,rfl,trivial⟩,hs03.trans hs4,r4,by rw[hE0];rfl,λh0=>absurd hE0 h0,λ_=>Zi ho4 hs03.size⟩
 have hlt:k<(sets c.cel).length:=by have h16:(k:Int)<((sets c.cel).length:Int):=h11;omega
 have hbk:=hbl _ (List.getElem_mem hlt)
 rw[List.drop_eq_getElem_cons hlt,List.foldl_cons] at hr
 refine Qi<|Qf<|Qg<|Qc<|xig (g:=λb:Nat=>[.int .u16 (b:Nat)]) (i:=k) (λ_=>rfl) (hA'.ext hs3) rfl rfl hlt λa23 h23=>?_
 refine Q8 ((sets c.cel)[k]'hlt) λy hy=>?_
 rw[hy] at h23 hbk hr
 refine x (Qv h23 rfl)<|Qe<|Qw<|Qb<|Qb<|x (j2 (a:=b) (b:=y) rfl rfl hb hbk)<|Qe<|Qw<|x (Qx rfl rfl ⟨by omega,by omega⟩)<|Qb<|xe ?_
 exact ⟨(k+1,b &&& (65535 ^^^ y)),by simp only[];omega,⟨rfl,rfl,trivial⟩,hlt,hs3,Nat.lt_of_le_of_lt Nat.and_le_left hb,hr⟩
theorem Qg0 {L:LN}{w:World}{v:Value}{b1:Nat}{c:Zu}{es:LN}{g:Nat}{fn:Func}[Fu prog g fn] {cap:LV}{q:Nat→Bool}(h:Zo L w.heap v es.length 3 (es.flatMap (yb b1 c)))
  (hk:∀(m:Nat) (w1:World),Step [] w w1→QL prog g ([.agg (yb b1 c m).toArray]++cap) w1 λr w'=>r=.bool (q m)∧Step [] w1 w') :
  QL prog 62 [v,.func (.func g) #[] cap.toArray] w λr w'=>Step [] w w'∧∃i:Int,r=.int .i64 i∧((i=-1∧∀m∈es,q m=false)∨∃k:Nat,∃m,es[k]?=some m∧i=(k:Int)∧q m=true):=by
 have hle:=h.le
 refine QL.of_W func62 rfl ntmps62 results62 (by simp) ?_
 refine Qc<|Qe<|Qf<|Qc<|Qb<|x (Qs h rfl)<|Qb<|xe ?_
 refine Qg<|QC (α:=Nat) [(4,5),(8,18)] (λz=>[(8,.int .i64 z)]) (λz w'=>z≤es.length∧Step [] w w'∧∀m∈es.take z,q m=false) (λz=>es.length - z) (by rfl) 0 ⟨rfl,trivial⟩ ⟨Nat.zero_le _,Step.refl _ _,λm hm=>by simp at hm⟩ ?_
 rintro k g' w1 ⟨hk',hs1,hq1⟩
 refine Qc<|x (QB rfl rfl)<|xe ?_
 refine Qf<|QH rfl (λh9=>?_) (λh9=>?_)
 ·refine Qz ?_
  have hke:es.length≤k:=by have h16:¬(k:Int)<(es.length:Int):=h9;omega
  rw[List.take_of_length_le hke] at hq1
  refine Qc<|Qe ?_
  exact Qm ⟨[.int .i64 (-1)],⟨rfl,trivial⟩,hs1,-1,rfl,.inl ⟨rfl,hq1⟩⟩
 have hlt:k<es.length:=by have h16:(k:Int)<(es.length:Int):=h9;omega
 have htk:es.take (k+1)=es.take k++[es[k]'hlt]:=List.take_succ_eq_append_getElem hlt
 have hget:es[k]?=some (es[k]'hlt):=List.getElem?_eq_getElem hlt
 refine Qi<|Qf<|Qg<|Qc<|Qb<|Qe<|Qc<|Qb<|Qb<|Qb<|xig (g:=yb b1 c) (i:=k) (V9 b1 c) (h.ext hs1) rfl rfl hlt λa14 h14=>?_
 refine Q8 (es[k]'hlt) λm hm=>?_
 rw[hm] at h14 htk hget
 refine x (QJ h14 rfl rfl)<|xl rfl<|xc (first:=[]) (capt:=cap) rfl<|(hk m w1 hs1).mono ?_
 rintro r2 w2 ⟨rfl,hs2⟩
 refine xe ?_
 refine Q2 rfl (λh16=>?_) (λh16=>?_)
 ·refine Qc<|Qb<|Qe ?_
  exact Qm ⟨[.int .i64 k],⟨rfl,trivial⟩,hs1.trans hs2,k,rfl,.inr ⟨k,m,hget,rfl,h16⟩⟩
 refine Qi<|Qw<|x (Qx rfl rfl ⟨by omega,by omega⟩)<|Qb<|xe ?_
 refine ⟨k+1,by omega,⟨rfl,trivial⟩,hlt,hs1.trans hs2,λm' hm'=>?_⟩
 rw[htk] at hm'
 rcases List.mem_append.1 hm' with h1 | h1
 ·exact hq1 m' h1
 ·simp only[List.mem_singleton] at h1;subst h1;exact h16
theorem Qhu {w:World}{b1 b3 m:Nat}{c:Zu}{q:MV}(hB:Q0 w.heap b3 39 (Zn q)) :
  QL prog 63 [.agg (yb b1 c m).toArray,.pointer (some ⟨b3,0,none⟩)] w λr w'=>r=.bool (decide ((m:Int)+1=q.kd))∧Step [] w w':=by
 refine QL.of_W func63 rfl ntmps63 results63 (by simp) ?_
 refine Qc<|xl rfl<|QR (us:=yb b1 c m) rfl λb2 w1 hs1 hb2 hB2=>Qe<|Qc<|x (Qa rfl)<|x (Qd hB2 rfl rfl)<|x (Qa rfl)<|x (Qd (hB.ext hs1) rfl rfl)<|x (Q5 rfl rfl)<|Qe ?_
 exact Qm ⟨[_],⟨rfl,trivial⟩,rfl,hs1⟩
set_option maxHeartbeats 4000000 in
theorem qH {L:LN}{w:World}{c:CL}{q:MV}(h0:Zv L w.heap c) (hm0:QM L w.heap q.v q.co) :
  QL prog 17 [c.val,.agg #[.int .i64 q.kd,.int .i64 q.ix,q.v]] w λr w'=>r=.int .i64 (mdE c.cel q.m)∧Step [] w w':=by
 have h:=h0.up (L':=[]) (by simp)
 have hm:=hm0.up (L':=[]) (by simp)
 have hr:mdE c.cel q.m=if Zd c.cel≠0 then Zd c.cel else if q.kd<1∨3<q.kd then 11 else if q.ix<0∨((jP c.cel q.kd).length:Int)≤q.ix then 10 else if q.co=setK ((jP c.cel q.kd).getD q.ix.toNat 0) 8 then 0 else 13:=rfl
 refine Q8 (mdE c.cel q.m) λE hE=>?_
 rw[hE] at hr ⊢
 refine QL.of_W func17 rfl ntmps17 results17 (by simp) ?_
 refine Qc<|xl rfl<|QR (us:=c.cells) rfl λb2 w1 hs1 hb2 hB2=>xl rfl<|QR (us:=Zn q) rfl λb3 w2 hs2 hb3 hB3=>Qe ?_
 have hs02:=hs1.trans hs2
 refine Qf<|Qc<|x (Qr (hB2.ext hs2) rfl rfl)<|xl rfl<|xf<|(YM (h.ext hs02)).mono ?_
 rintro r3 w3 ⟨rfl,hs3⟩
 refine Qe ?_
 have hs03:=hs02.trans hs3
 have hB23:=(hB2.ext hs2).ext hs3
 have hB33:=hB3.ext hs3
 refine Qc<|Qb<|x (Q9 rfl rfl)<|xe ?_
 refine Q6 rfl (λh11=>?_) (λh11=>?_)
 ·rw[if_pos h11] at hr
  subst hr
  refine Qc<|Qb<|Qe ?_
  exact Qm ⟨[_],⟨rfl,trivial⟩,rfl,hs03⟩
 rw[if_neg h11] at hr
 have hok:VQ c.cel:=(ZS (Decidable.not_not.1 h11)).sr
 refine Qi<|Qc<|x (Qr hB23 rfl rfl)<|xl rfl<|xf<|(J9 (h.ext hs03)).mono ?_
 rintro r4 w4 ⟨hs4,c1,bs,hS⟩
 have hrS:=hS.r
 subst hrS
 refine Qe ?_
 have hs04:=hs03.trans hs4
 have hB34:=hB33.ext hs4
 have hA:Zo [] w4.heap (.slice (some ⟨bs,0,none⟩) 3 3) [0,1,2].length 3 ([0,1,2].flatMap (yb c1 c.cel)):=hS.B.arr (by simp) (n:=3) (cap:=3) (sz:=3) (by rfl) (by omega) (Nat.le_refl _)
 refine Qc<|Qb<|x (Zl (l:=[]) (l':=[_]))<|xl rfl<|xf<|(Qg0 (q:=λm=>decide ((m:Int)+1=q.kd)) (cap:=[.pointer (some ⟨b3,0,none⟩)]) hA (λm w5 hs5=>Qhu (hB34.ext hs5))).mono ?_
 rintro r5 w5 ⟨hs5,i,rfl,hi⟩
 refine Qe ?_
 have hs05:=hs04.trans hs5
 have hB35:=hB34.ext hs5
 have hA5:=hA.ext hs5
 have hB15:Q0 w5.heap c1 47 c.cells:=hS.B1.ext hs5
 refine Qf<|Qg<|Qc<|Qb<|x (QB rfl rfl)<|Qe<|Q6 rfl (λh18=>?_) (λh18=>?_)
 ·have hkd:q.kd<1∨3<q.kd:=by
   rcases hi with ⟨_,hi⟩ | ⟨k,m,_,hi,_⟩
   ·have e0:=of_decide_eq_false (hi 0 (by simp))
    have e1:=of_decide_eq_false (hi 1 (by simp))
    have e2:=of_decide_eq_false (hi 2 (by simp))
    omega
   ·have h19:i<0:=h18
    omega
  rw[if_pos hkd] at hr
  subst hr
  refine Qc<|Qe ?_
  exact Qm ⟨[_],⟨rfl,trivial⟩,rfl,hs05⟩
 obtain ⟨m,hm3,him,hkd⟩:∃m:Nat,m<3∧i=(m:Int)∧q.kd=(m:Int)+1:=by
  rcases hi with ⟨hi,_⟩ | ⟨k,m,hk,hi,hq⟩
  ·exact absurd (by rw[hi];decide:i<0) h18
  ·have hq':=of_decide_eq_true hq
   obtain ⟨hk3,hk⟩:=List.getElem?_eq_some_iff.1 hk
   have hk3':k<3:=hk3
   have hmk:m=k:=by rcases k with _ | _ | _ | k <;> first | exact hk.symm | omega
   exact ⟨k,hk3',hi,by omega⟩
 subst him
 rw[if_neg (by omega),show jP c.cel q.kd=Y3 c.cel m by rw[hkd]] at hr
 have hgl:=Kx hok hm3
 have hgm:([0,1,2]:LN)[m]'hm3=m:=by rcases m with _ | _ | _ | m <;> first | rfl | omega
 refine QV (α:=Bool) [(21,34)] (λz=>[(21,.bool z)]) (λz w'=>Step [] w5 w'∧z=decide (q.ix<0∨((Y3 c.cel m).length:Int)≤q.ix)) (by rfl) ?_ ?_
 ·refine QU (Step [] w5) [(0,true),(1,true),(2,true),(3,true),(4,true),(5,true),(6,true),(7,true),(8,true),(9,true),(10,true),(11,true),(12,true),(13,true)] mixed (by rfl) (by kernel_rfl) (Step.drew _ _) ?_
  refine p (λ_=>Qa rfl)<|pq (λ_ hc=>Qd (hB35.ext hc) rfl rfl)<|pb (λ_=>QB rfl rfl) (λh24=>?_) (λh24=>?_)
  ·refine p (λ_=>Qn)<|ps<|ps<|ps<|ps<|ps<|ps<|ps<|ps<|p (λ_=>Ql rfl)<|p (λ_=>Qh)<|pe ?_
   have h25:q.ix<0:=h24
   exact ⟨true,⟨rfl,trivial⟩,Step.drew _ _,by rw[decide_eq_true (.inl h25)]⟩
  refine p (λ_=>Qn)<|p (λ_=>Qa rfl)<|pq (λ_ hc=>Qd (hB35.ext hc) rfl rfl)<|p (λ_=>Qn)<|p (λ_=>Qn) <|
   Go.Lg.pig (g:=yb c1 c.cel) (i:=m) rfl (V9 c1 c.cel) hA5 rfl rfl hm3 λa30 h30=>?_
  rw[hgm] at h30
  refine p (λ_=>Q7 rfl)<|pq (λ_ hc=>Qv ((h30.fld 1 (.int .i64 (Y3 c.cel m).length) rfl).st hc) rfl)<|p (λ_=>ZN rfl rfl) <|
   p (λ_=>Ql rfl)<|p (λ_=>Qh)<|pe ?_
  have h25:¬q.ix<0:=h24
  refine ⟨decide (((Y3 c.cel m).length:Int)≤q.ix),⟨rfl,trivial⟩,Step.drew _ _,?_⟩
  rw[decide_eq_decide]
  exact ⟨.inr,λh=>h.resolve_left h25⟩
 rintro z g w6 ⟨hs6,hz⟩
 have hs06:=hs05.trans hs6
 refine Q2 rfl (λh21=>?_) (λh21=>?_)
 ·rw[if_pos (of_decide_eq_true (hz.symm.trans h21))] at hr
  subst hr
  refine Qc<|Qe ?_
  exact Qm ⟨[_],⟨rfl,trivial⟩,rfl,hs06⟩
 have hnix:=of_decide_eq_false (hz.symm.trans h21)
 rw[if_neg hnix] at hr
 have hixn:q.ix=(q.ix.toNat:Int):=by omega
 have hixl:q.ix.toNat<(Y3 c.cel m).length:=by omega
 have hgd:(Y3 c.cel m).getD q.ix.toNat 0=(Y3 c.cel m)[q.ix.toNat]'hixl:=by simp[List.getD,hixl]
 have hbl:=Ua hok hm3 _ (List.getElem_mem hixl)
 rw[hgd] at hr
 have hB36:=hB35.ext hs6
 have hA6:=hA5.ext hs6
 have hd6:Step [] w6 { w6 with drawn:=w6.drawn+1 }:=Step.drew _ _
 have hs06d:=hs06.trans hd6
 have hcallA:∀{w':World},Step [] w6 w'→QL prog (gK m) [.int .i64 q.ix,.pointer (some ⟨c1,0,none⟩)] w' λr w''=>r=.int .u16 ((Y3 c.cel m)[q.ix.toNat]'hixl:Nat)∧Step [] w' w'':=by
  intro w' hs
  have:=jO ((hB15.ext hs6).ext hs) ((h.ext hs06).ext hs) hok hm3 hixl
  rw[←hixn] at this
  exact this
 refine Qf<|QU (Step [] w6) [(0,true),(1,true),(2,true),(3,true),(4,true),(5,true),(6,true),(7,true),(8,true),(9,false),(10,false),(11,false),(12,true),(13,true)] mixed (by rfl) (by kernel_rfl) (Step.drew _ _) ?_
 refine p (λ_=>Qa rfl)<|pq (λ_ hc=>Qd (hB36.ext hc) rfl rfl)<|p (λ_=>Qn)<|p (λ_=>Qn)<|Go.Lg.pig (g:=yb c1 c.cel) (i:=m) rfl (V9 c1 c.cel) hA6 rfl rfl hm3 λa40 h40=>?_
 rw[hgm] at h40
 refine p (λ_=>Q7 rfl)<|pq (λ_ hc=>Qv ((h40.fld 2 (.func (.func (gK m)) #[] #[.pointer (some ⟨c1,0,none⟩)]) rfl).st hc) rfl)<|p (λ_=>Qa rfl)<|pq (λ_ hc=>Qd (hB36.ext hc) rfl rfl) <|
  pk<|xcG (first:=[]) (capt:=[.pointer (some ⟨c1,0,none⟩)]) (QeL m) rfl<|(hcallA hd6).mono ?_
 rintro r7 w7 ⟨rfl,hs7⟩
 refine Q8 ((Y3 c.cel m)[q.ix.toNat]'hixl) λbv hbv=>?_
 rw[hbv] at hr hbl ⊢
 have hs67:=hd6.trans hs7
 refine ⟨hs67,?_⟩
 refine pk<|xf<|(zG bv hbl w7).mono ?_
 rintro r8 w8 ⟨hs8,ho8⟩
 have hs68:=hs67.trans hs8
 refine ⟨hs68,?_⟩
 have hkl:=YP bv 8
 refine pk<|xf<|(JW (hm.ext (hs06.trans hs68)) (Qt.ints (L:=[]) ho8 (by omega) (by simp))).mono ?_
 rintro r9 w9 ⟨rfl,hs9⟩
 refine ⟨hs68.trans hs9,?_⟩
 refine p (λ_=>Zp rfl)<|p (λ_=>Qh)<|pe ?_
 have hs09:=(hs06.trans hs68).trans hs9
 refine Q2 rfl (λh35=>?_) (λh35=>?_)
 ·have hne:¬q.co=setK bv 8:=by
   intro e
   have h36:(!decide (q.co=setK bv 8))=true:=h35
   rw[decide_eq_true e] at h36;cases h36
  rw[if_neg hne] at hr
  subst hr
  refine Qc<|Qe ?_
  exact Qm ⟨[_],⟨rfl,trivial⟩,rfl,hs09⟩
 have heq:q.co=setK bv 8:=by
  refine Decidable.byContradiction λe=>?_
  have h36:(!decide (q.co=setK bv 8))=false:=h35
  rw[decide_eq_false e] at h36;cases h36
 rw[if_pos heq] at hr
 subst hr
 refine Qi<|Qc<|Qe ?_
 exact Qm ⟨[_],⟨rfl,trivial⟩,rfl,hs09⟩
end Go.Proofs.YtdffckgdcegpaaaGreatDoor
namespace Go.Proofs
open Go.Proofs.Tryz
open Go.Shelf
def Tryz.sortRm_ren:Go.Shelf.Ren:=⟨λ| 6=>215 | 15=>176 | 14=>266 | 28=>229 | 29=>230 | 20=>288 | 21=>289 | 22=>290 | 23=>291 | 24=>292 | 25=>293 | 26=>294 | 27=>295 | 46=>313 | 47=>268 | 48=>269 | 49=>314 | 50=>315 | 57=>322 | n=>n,λ| 22=>166 | 24=>320 | 25=>326 | 3=>3 | 39=>269 | 0=>0 | 53=>338 | 55=>340 | 4=>4 | 46=>332 | 45=>331 | 50=>178 | 5=>5 | 9=>9 | 66=>372 | 70=>376 | 76=>401 | 77=>381 | n=>n,λ| n=>n⟩
theorem Tryz.sortRm:Go.Proofs.SlLaysF0.n6 prog Tryz.sortRm_ren:={
 mixed:=by kernel_rfl
 f6:=⟨Tryz.f215.name,by decide,func215.trans (congrArg some (by kernel_rfl))⟩
 f14:=⟨Tryz.f266.name,by decide,func266.trans (congrArg some (by kernel_rfl))⟩
 f15:=func176.trans (congrArg some (by kernel_rfl))
 f20:=⟨Tryz.f288.name,by decide,func288.trans (congrArg some (by kernel_rfl))⟩
 f21:=⟨Tryz.f289.name,by decide,func289.trans (congrArg some (by kernel_rfl))⟩
 f22:=⟨Tryz.f290.name,by decide,func290.trans (congrArg some (by kernel_rfl))⟩
 f23:=⟨Tryz.f291.name,by decide,func291.trans (congrArg some (by kernel_rfl))⟩
 f24:=⟨Tryz.f292.name,by decide,func292.trans (congrArg some (by kernel_rfl))⟩
 f25:=⟨Tryz.f293.name,by decide,func293.trans (congrArg some (by kernel_rfl))⟩
 f26:=⟨Tryz.f294.name,by decide,func294.trans (congrArg some (by kernel_rfl))⟩
 f27:=⟨Tryz.f295.name,by decide,func295.trans (congrArg some (by kernel_rfl))⟩
 f28:=func229.trans (congrArg some (by kernel_rfl))
 f29:=func230.trans (congrArg some (by kernel_rfl))
 f46:=⟨Tryz.f313.name,by decide,func313.trans (congrArg some (by kernel_rfl))⟩
 f47:=func268.trans (congrArg some (by kernel_rfl))
 f48:=func269.trans (congrArg some (by kernel_rfl))
 f49:=⟨Tryz.f314.name,by decide,func314.trans (congrArg some (by kernel_rfl))⟩
 f50:=⟨Tryz.f315.name,by decide,func315.trans (congrArg some (by kernel_rfl))⟩
 f57:=⟨Tryz.f322.name,by decide,func322.trans (congrArg some (by kernel_rfl))⟩
 t0:=underlying0
 a0:=Tryz.isAgg0
 z0:=Tryz.sizeOf0
 v0:=Tryz.zeroValue0
 t3:=underlying3
 a3:=Tryz.isAgg3
 z3:=Tryz.sizeOf3
 v3:=Tryz.zeroValue3
 t4:=underlying4
 a4:=Tryz.isAgg4
 z4:=Tryz.sizeOf4
 v4:=Tryz.zeroValue4
 t5:=underlying5
 a5:=Tryz.isAgg5
 z5:=Tryz.sizeOf5
 v5:=Tryz.zeroValue5
 t9:=underlying9
 a9:=Tryz.isAgg9
 z9:=Tryz.sizeOf9
 v9:=Tryz.zeroValue9
 t22:=underlying166
 a22:=Tryz.isAgg166
 z22:=Tryz.sizeOf166
 v22:=Tryz.zeroValue166
 t25:=underlying326
 a25:=Tryz.isAgg326
 z25:=Tryz.sizeOf326
 v25:=Tryz.zeroValue326
 t39:=underlying269
 a39:=Tryz.isAgg269
 z39:=Tryz.sizeOf269
 v39:=Tryz.zeroValue269
 t45:=underlying331
 a45:=Tryz.isAgg331
 z45:=Tryz.sizeOf331
 v45:=Tryz.zeroValue331
 t46:=underlying332
 a46:=Tryz.isAgg332
 z46:=Tryz.sizeOf332
 v46:=Tryz.zeroValue332
 t50:=underlying178
 a50:=Tryz.isAgg178
 z50:=Tryz.sizeOf178
 v50:=Tryz.zeroValue178
 t53:=underlying338
 a53:=Tryz.isAgg338
 z53:=Tryz.sizeOf338
 v53:=Tryz.zeroValue338
 t55:=underlying340
 a55:=Tryz.isAgg340
 z55:=Tryz.sizeOf340
 v55:=Tryz.zeroValue340
 t66:=underlying372
 a66:=Tryz.isAgg372
 z66:=Tryz.sizeOf372
 v66:=Tryz.zeroValue372
 t70:=underlying376
 a70:=Tryz.isAgg376
 z70:=Tryz.sizeOf376
 v70:=Tryz.zeroValue376
 t76:=underlying401
 a76:=Tryz.isAgg401
 z76:=Tryz.sizeOf401
 v76:=Tryz.zeroValue401
 t77:=underlying381
 a77:=Tryz.isAgg381
 z77:=Tryz.sizeOf381
 v77:=Tryz.zeroValue381 }
end Go.Proofs
namespace Go.Proofs.YtdffckgdcegpaaaGreatDoor
open Go.Lg
theorem QiZ (lf:Lf) (x:Int) (z:LI×LI) (y:Int):dsE lf x z y=if lft lf y=true then bwE x z y else z:=by
 unfold dsE bwE
 by_cases h:lft lf y=true <;> by_cases h2:cget z.1 y.toNat<0 <;> simp[h,h2]
structure DsI (n:Nat) (z:LI×LI):Prop where
 ok:QfV n z.1 z.2
 cnt:neg z.1+z.2.length=n
 s0:Qjm z.1 z.2
theorem DsI.le {n:Nat}{z:LI×LI}(h:DsI n z):z.2.length≤n:=by have:=h.cnt;omega
theorem Qfe {n:Nat}{lf:Lf}{x y:Int}{z:LI×LI}(h:DsI n z) (hx:0≤x∧x<(n:Int)) (hx0:0≤cget z.1 x.toNat) (hy:0≤y∧y<(n:Int)) :
  DsI n (dsE lf x z y)∧0≤cget (dsE lf x z y).1 x.toNat:=by
 rw[QiZ]
 split
 ·obtain ⟨h1,h2,h3⟩:=Qje h.ok hx hx0 hy
  exact ⟨⟨h1,by have:=h.cnt;omega,Qfx h.ok hx0 hy h.s0⟩,h3⟩
 ·exact ⟨h,hx0⟩
theorem Qhi (lf:Lf) (x:Int) (z:LI×LI) (y:Int):∃r,(dsE lf x z y).2=z.2++r:=by
 unfold dsE;split
 ·exact ⟨[y],rfl⟩
 ·exact ⟨[],by simp⟩
theorem Qhh {n:Nat}{lf:Lf}{x:Int}(hx:0≤x∧x<(n:Int)):∀(l:LI) (z:LI×LI),DsI n z→0≤cget z.1 x.toNat→(∀y∈l,0≤y∧y<(n:Int)) →
  DsI n (l.foldl (dsE lf x) z)∧∃r,(l.foldl (dsE lf x) z).2=z.2++r
 | [],z,h,_,_=>⟨h,[],by simp⟩
 | y::l,z,h,h0,hl=>by
  obtain ⟨h1,h2⟩:=Qfe (lf:=lf) h hx h0 (hl y List.mem_cons_self)
  obtain ⟨h3,r2,h4⟩:=Qhh hx l _ h1 h2 (λy hy=>hl y (List.mem_cons_of_mem _ hy))
  obtain ⟨r1,h5⟩:=Qhi lf x z y
  exact ⟨h3,r1++r2,by rw[List.foldl_cons,h4,h5,List.append_assoc]⟩
theorem Qfd {es:List Ed}{lf:Lf}{f i:Nat}{z:LI×LI}(h:¬i<z.2.length):dsL es lf f i z=z:=by
 cases f with
 | zero=>rfl
 | succ f=>rw[dsL,if_neg h]
theorem QbN {n:Nat}{l:LI}{x:Int}(h0:0≤x):(VP n l).set x.toNat 0=VP n (l++[x]):=by
 apply List.ext_getElem
 ·simp[VP]
 ·intro i h2 h3
  rw[List.getElem_set]
  by_cases e:x.toNat=i
  ·have:(i:Int)=x:=by omega
   rw[if_pos e];simp[VP,this]
  ·have:(i:Int)≠x:=by omega
   rw[if_neg e];simp[VP,this]
theorem je {a:QT}{lf:Lf}(hm:∀x∈a.mr,0≤x) (k:Nat):(a.mr.take k).foldl (yc lf) (List.replicate a.st.toNat (-1),[])=(VP a.st.toNat ((a.mr.take k).filter (lft lf)),(a.mr.take k).filter (lft lf)):=by
 induction k with
 | zero =>
  simp only[List.take_zero,List.foldl_nil,List.filter_nil]
  congr 1
  apply List.ext_getElem
  ·simp[VP]
  ·intro i h1 h2;simp[VP]
 | succ k ih =>
  by_cases hk:k<a.mr.length
  ·rw[List.take_succ_eq_append_getElem hk,List.foldl_append,ih,List.filter_append]
   simp only[List.foldl_cons,List.foldl_nil,yc]
   by_cases hl:lft lf (a.mr[k]'hk)=true
   ·rw[if_pos hl,QbN (hm _ (List.getElem_mem hk))]
    simp[hl]
   ·rw[if_neg hl]
    simp[hl]
  ·have e:a.mr.take (k+1)=a.mr.take k:=by rw[List.take_of_length_le (by omega),List.take_of_length_le (by omega)]
   rw[e];exact ih
theorem Qi1 {a:QT}{lf:Lf}(hm:∀x∈a.mr,0≤x):ds0 a lf=(VP a.st.toNat (a.mr.filter (lft lf)),a.mr.filter (lft lf)):=by
 have:=je (lf:=lf) hm a.mr.length
 rw[List.take_length] at this
 exact this
theorem QgG {n:Nat}(l:LI) (hn:l.Nodup) (hb:∀x∈l,0≤x∧x<(n:Int)):neg (VP n l)+l.length=n:=by
 have key:∀k,k≤l.length→neg (VP n (l.take k))+k=n:=by
  intro k
  induction k with
  | zero =>
   intro _
   have e:VP n (l.take 0)=List.replicate n (-1):=by
    apply List.ext_getElem
    ·simp[VP]
    ·intro i h1 h2;simp[VP]
   rw[e]
   unfold neg
   simp
  | succ k ih =>
   intro hk
   have h1:=ih (by omega)
   have hx:=hb _ (List.getElem_mem (show k<l.length by omega))
   rw[List.take_succ_eq_append_getElem (show k<l.length by omega),←QbN hx.1]
   have hxl:(l[k]'(by omega)).toNat<(VP n (l.take k)).length:=by rw[K5];omega
   have hng:=KJ (VP n (l.take k)) (l[k]'(by omega)).toNat 0 hxl (by
    have e:(((l[k]'(by omega)).toNat:Nat):Int)=l[k]'(by omega):=by omega
    have hnm:(l[k]'(by omega))∉l.take k:=λh=>by
     obtain ⟨j,hj,he⟩:=List.getElem_of_mem h
     rw[List.getElem_take] at he
     have hj':j<k:=by simp at hj;omega
     have:=(List.pairwise_iff_getElem.1 hn) j k (by omega) (by omega) hj'
     exact this he
    simp[VP,e,hnm]) (Int.le_refl _)
   omega
 have:=key l.length (Nat.le_refl _)
 rwa [List.take_length] at this
theorem Qi0 {a:QT}{lf:Lf}{n:Nat}(ho:Zm a) (hn:a.st=(n:Int)):DsI n (ds0 a lf):=by
 have hb:∀x∈a.mr.filter (lft lf),0≤x∧x<(n:Int):=λx hx=>by rw[←hn];exact ho.mr x (List.mem_filter.1 hx).1
 have e:a.st.toNat=n:=by omega
 rw[Qi1 (λx hx=>(ho.mr x hx).1),e]
 refine ⟨Qjf hb,QgG _ ((ho.mri.imp (λh=>by omega)).filter _) hb,λx hx=>?_⟩
 rw[Qhx (hb x hx) hx];exact Int.le_refl _
def Kf (l:Lf):Nat:=l.countP (· == true)
theorem Qho (l:Lf):Kf l≤l.length:=List.countP_le_length
theorem QbB (l:Lf) (s:Int):(cut l s).length=l.length:=by simp[cut]
theorem UI:∀(xs:LI) (l:Lf),(xs.foldl cut l).length=l.length
 | [],_=>rfl
 | x::xs,l=>by rw[List.foldl_cons,UI xs,QbB]
theorem QbC:∀(l:Lf) (i:Nat),Kf (l.set i false)+(if l.getD i false=true then 1 else 0)=Kf l
 | [],i=>by simp[Kf]
 | b::l,0=>by cases b <;> simp[Kf]
 | b::l,i+1=>by
  have ih:=QbC l i
  unfold Kf at *
  simp only[List.set_cons_succ,List.countP_cons,List.getD_cons_succ]
  omega
theorem QbD (l:Lf) (s:Int):Kf (cut l s)+(if lft l s=true then 1 else 0)=Kf l:=QbC l s.toNat
theorem jg:∀(xs:LI) (l:Lf),Kf (xs.foldl cut l)≤Kf l
 | [],_=>Nat.le_refl _
 | x::xs,l=>by
  have h1:=jg xs (cut l x)
  have h2:=QbD l x
  rw[List.foldl_cons];omega
theorem Qfh {xs:LI}{l:Lf}(h:0<xs.length) (h0:∀x∈xs,lft l x=true):Kf (xs.foldl cut l)<Kf l:=by
 cases xs with
 | nil=>simp at h
 | cons x xs =>
  have h1:=jg xs (cut l x)
  have h2:=QbD l x
  rw[if_pos (h0 x List.mem_cons_self)] at h2
  rw[List.foldl_cons];omega
def QfO (a:QT) (lf:Lf) (out:List (Int×Int)):Prop:=∀p∈out,lft lf p.1=true∧∃e∈a.ed,e.1=p.1∧e.2.1=p.2
theorem QgJ {a:QT}{ul:LI}{lf:Lf}{out:List (Int×Int)}{e:Ed}(h:QfO a lf out) (he:e∈a.ed):QfO a lf (JB ul lf out e)∧(JB ul lf out e).length≤out.length+1:=by
 unfold JB
 split
 ·exact ⟨h,by omega⟩
 ·rename_i hc
  split
  ·exact ⟨h,by omega⟩
  ·refine ⟨λp hp=>?_,by simp⟩
   simp only[List.mem_append,List.mem_singleton] at hp
   rcases hp with hp | rfl
   ·exact h p hp
   ·exact ⟨by cases hl:lft lf e.1 with | true=>rfl | false=>exact absurd (.inl hl) hc,e,he,rfl,rfl⟩
theorem Uq {a:QT}{ul:LI}{lf:Lf}:∀(l:List Ed) (out:List (Int×Int)),(∀e∈l,e∈a.ed)→QfO a lf out→QfO a lf (l.foldl (JB ul lf) out)∧(l.foldl (JB ul lf) out).length≤out.length+l.length
 | [],out,_,h=>⟨h,by simp⟩
 | e::l,out,hl,h=>by
  obtain ⟨h1,h2⟩:=QgJ (ul:=ul) h (hl e List.mem_cons_self)
  obtain ⟨h3,h4⟩:=Uq l _ (λe he=>hl e (List.mem_cons_of_mem _ he)) h1
  exact ⟨h3,by rw[List.foldl_cons,List.length_cons];omega⟩
theorem zF (a:QT) (ul:LI) (lf:Lf):QfO a lf (lost a ul lf)∧(lost a ul lf).length≤a.ed.length:=by
 have:=Uq (ul:=ul) (lf:=lf) a.ed [] (λ_ h=>h) (λp hp=>by cases hp)
 unfold lost
 simpa using this
theorem K6 (lf:Lf):∀(l:LI) (i:Nat),(∀x∈Kl lf i l,lft lf x=true∧(i:Int)≤x∧x<(i:Int)+l.length)∧(Kl lf i l).length≤l.length
 | [],i=>⟨λx hx=>(by cases hx),Nat.le_refl _⟩
 | d::l,i=>by
  obtain ⟨h1,h2⟩:=K6 lf l (i+1)
  unfold Kl
  split
  ·rename_i hc
   refine ⟨λx hx=>?_,by simp;omega⟩
   rcases List.mem_cons.1 hx with rfl | hx
   ·exact ⟨by unfold lft;simpa using hc.1,Int.le_refl _,by simp;omega⟩
   ·have:=h1 x hx
    exact ⟨this.1,by omega,by simp only[List.length_cons];omega⟩
  ·refine ⟨λx hx=>?_,by simp;omega⟩
   have:=h1 x hx
   exact ⟨this.1,by omega,by simp only[List.length_cons];omega⟩
theorem Qd4 {a:QT}{ul:LI}{lf:Lf}(x:Int) (hx:x∈nxs a ul lf):lft lf x=true:=by
 unfold nxs at hx
 split at hx
 ·obtain ⟨p,hp,rfl⟩:=List.mem_map.1 hx
  exact ((zF a ul lf).1 p hp).1
 ·exact ((K6 lf (dsts a lf) 0).1 x hx).1
theorem Qce {a:QT}{ul:LI}{f:Nat}{lf:Lf}(h:(nxs a ul lf).length=0):U5 a ul f lf=lf:=by
 cases f with
 | zero=>rfl
 | succ f=>rw[U5,if_pos h]
theorem Qcd {a:QT}{ul:LI}{f:Nat}{lf:Lf}(h:(nxs a ul lf).length≠0):U5 a ul (f+1) lf=U5 a ul f ((nxs a ul lf).foldl cut lf):=by rw[U5,if_neg h]
theorem Qd5 {a:QT}{ul:LI}{lf:Lf}(h:(nxs a ul lf).length≠0):Kf ((nxs a ul lf).foldl cut lf)<Kf lf:=Qfh (by omega) (λx hx=>Qd4 x hx)
theorem Qb9 {a:QT}(h:Zm a) (lf:Lf):Zm (rstr a lf) :=
 ⟨h.al,h.ali,h.st0,h.st1,h.mr,h.mri,λe he=>h.ed e (List.mem_filter.1 he).1,h.edi.filter _⟩
def fst (a:QT):Int:=if a.st=0 then -1 else 0
def Qik (s:Option (Int×Int×Int)):Int×Int×Int:=s.getD (0,0,0)
def cdA (c:Zu):QT:=zd (tgA c) [] (unc c.ev)
def ccA (c:Zu):QT:=syA [tgA c,cdA c]
def own (c:Zu) (k:Bool):QT:=if k=true then ccA c else tgA c
end Go.Proofs.YtdffckgdcegpaaaGreatDoor
namespace Go.Lg
section
variable {P:Program} {K:Fr→World→Prop} {f:Fr} {w:World} {d:Option Nat} {ty:Nat} {ps:String} {af:Array Edge} {gd:Option (Nat×Bool)}
theorem Ul {t:Nat}[h1:XI P t] {x y:Operand}{b T i:Nat}{l:List Bool}{u:Bool}(hB:Q0 w.heap b T (l.map Value.bool)) (hx:ev f x=.pointer (some ⟨b,0+i*1,none⟩)) (hy:ev f y=.bool u) (hi:i<l.length)
  (hK:∀w',Step [b] w w'→Q0 w'.heap b T ((l.set i u).map Value.bool)→K (QX f d undef) w'):XO P ⟨d,.store t x y,ty,ps,af,gd⟩ f w K:=by
 refine QG hB hx hy (by simpa using hi) rfl λw' hs hB'=>hK w' hs ?_
 rw[List.map_set]
 simpa using hB'
theorem Xz {t:Nat}[XI P t] {x:Operand}{b T i:Nat}{l:List Bool}(h:Q0 w.heap b T (l.map Value.bool)) (hx:ev f x=.pointer (some ⟨b,0+i*1,none⟩)) (hi:i<l.length) :
  (execOp (ev f) ⟨d,.load t x,ty,ps,af,gd⟩).run P w=.ok (.value (.bool (l[i]'hi))) w:=Qd h hx (by simp[hi])
variable {ops:List Oper} {C:World→Prop} {pl:List (Nat×Bool)} {i:Nat}
theorem pqB {b:Bool}(hr:∀w',C w'→(execOp (ev f) (Q4 ops i)).run P w'=.ok (.value (.bool b)) w') (ht:b=true→XP P ops C K pl (QX f (Q4 ops i).dst (.bool true)) w) (hf:b=false→XP P ops C K pl (QX f (Q4 ops i).dst (.bool false)) w)
  (hd:UZ (Q4 ops i)=true:=by rfl) (hg:Z9 ops f (Q4 ops i)=true:=by rfl):XP P ops C K ((i,true)::pl) f w:=by
 cases hb:b with
 | true=>rw[hb] at hr;exact pq hr (ht hb) hd hg
 | false=>rw[hb] at hr;exact pq hr (hf hb) hd hg
end
end Go.Lg
namespace Go.Proofs.YtdffckgdcegpaaaGreatDoor
open Go.Proofs.Tryz
open Go.Lg
def bA (n:Nat) (g:Nat→Bool):List Bool:=(List.range n).map g
theorem Qji (n:Nat) (g:Nat→Bool):(bA n g).length=n:=by simp[bA]
theorem Qjh {n i:Nat}{g g':Nat→Bool}{u:Bool}(hu:u=g' i) (h:∀j,j<n→j≠i→g' j=g j):(bA n g).set i u=bA n g':=by
 apply List.ext_getElem
 ·simp[bA]
 ·intro k h1 h2
  rw[List.getElem_set]
  have hk:k<n:=by simpa[bA] using h2
  by_cases e:i=k
  ·rw[if_pos e,hu,e];simp[bA]
  ·rw[if_neg e]
   have:=h k hk (λe'=>e e'.symm)
   simp[bA,this]
theorem QbO (n:Nat):(List.replicate n (Value.bool false).cells.toList).flatten=(bA n (λi=>decide (i<0))).map Value.bool:=by
 apply List.ext_getElem
 ·simp[Value.cells,bA]
 ·intro i h1 h2
  simp[Value.cells,bA]
theorem Vm {l:Lf}{s:Int}(h:s.toNat<l.length):l[s.toNat]'h=lft l s:=by unfold lft;simp[List.getD,h]
theorem QgM (n:Nat) (fb:LI):(lf0 n fb).length=n:=by unfold lf0;rw[UI];simp
instance:Bw prog 324 [nS,.int .i64 0,nS,nS,nS,.map none,nS] [(0,4),(4,1),(5,1),(6,1)]:=⟨by kernel_rfl,by decide⟩
structure Pz where
 va:Value
 vm:Value
 ve:Value
 a:QT
 vu:Value
 unc:LI
 mb:Nat
 mm:List (Int×Value)
 bl:Nat
 n:Nat
 rv:Nat→Value
abbrev Pz.cells (p:Pz):LV:=[p.va,.int .i64 p.a.st,p.vm,p.ve,p.vu,.map (some p.mb),.slice (some ⟨p.bl,0,none⟩) p.n p.n]
structure ye (L:LN) (H:Array Obj) (bp:Nat) (p:Pz):Prop where
 B:Q0 H bp 324 p.cells
 bL:bp∉L
 a:Zr L H p.va p.vm p.ve p.a
 u:QM L H p.vu p.unc
 M:ZZ Kd H p.mb p.mm
 mL:p.mb∉L
 g:∀s,s<p.n→(match mget p.mm ((s:Nat):Int) with | some u=>u | none=>nS)=p.rv s
 R:∀s,s<p.n→QM L H (p.rv s) (Yi p.a.ed s)
theorem ye.ext {L:LN}{w w':World}{bp:Nat}{p:Pz}(h:ye L w.heap bp p) (hs:Step [] w w'):ye L w'.heap bp p:=⟨h.B.ext hs,h.bL,h.a.ext hs,h.u.ext hs,h.M.ext hs,h.mL,h.g,λs hs'=>(h.R s hs').ext hs⟩
theorem ye.st {L:LN}{w w':World}{bp:Nat}{p:Pz}(h:ye L w.heap bp p) (hs:Step L w w'):ye L w'.heap bp p:=⟨h.B.step hs h.bL,h.bL,h.a.st hs,h.u.st hs,h.M.step hs h.mL,h.mL,h.g,λs hs'=>(h.R s hs').st hs⟩
theorem ye.up {L L':LN}{H:Array Obj}{bp:Nat}{p:Pz}(h:ye L H bp p) (hL:∀b∈L',b∈L∨H.size≤b):ye L' H bp p :=
 ⟨h.B,λhm=>by rcases hL _ hm with h1 | h1;exact h.bL h1;have:=h.B.lt;omega,h.a.up hL,h.u.up hL,h.M,λhm=>by rcases hL _ hm with h1 | h1;exact h.mL h1;have:=h.M.lt;omega,h.g,λs hs'=>(h.R s hs').up hL⟩
structure PzQ (p:Pz):Prop where
 ok:Zm p.a
 n:p.a.st=(p.n:Int)
set_option maxHeartbeats 4000000 in
theorem Qdr {w:World}{va vm ve vr vu:Value}{a:QT}{rm unc:LI}{n:Nat}(h:Zr [] w.heap va vm ve a) (hok:Zm a) (hn:a.st=(n:Int)) (hr:QM [] w.heap vr rm) (hrb:∀x∈rm,0≤x∧x<a.st) (hu:QM [] w.heap vu unc) :
  QL prog 213 [.agg #[va,.int .i64 a.st,vm,ve],vr,vu] w λr w'=>Step [] w w'∧∃bp p,r=.pointer (some ⟨bp,0,none⟩)∧p.a=a∧p.unc=unc∧p.n=n∧w.heap.size≤p.bl∧ye [p.bl] w'.heap bp p∧Q0 w'.heap p.bl 4 ((lf0 n rm).map Value.bool):=by
 have hst1:=hok.st1
 have hed:=hok.ed
 have hel:=hok.ed_le
 have hrl:=hr.le
 refine QL.of_W func213 rfl ntmps213 results213 (by simp) ?_
 refine Qc<|xl rfl<|QR (us:=[va,.int .i64 a.st,vm,ve]) rfl λb3 w1 hs1 hb3 hB3=>Qe ?_
 have hl3:=hB3.lt
 have hz1:=hs1.size
 refine QV (α:=Nat×Nat×Nat) [(7,7),(13,20)] (λz=>[(7,.pointer (some ⟨z.1,0,none⟩))]) (λz w'=>Step [] w1 w'∧Q0 w'.heap z.1 324 [va,.int .i64 a.st,vm,ve,vu,.map (some z.2.1),.slice (some ⟨z.2.2,0,none⟩) n n] ∧
  ZZ Kd w'.heap z.2.1 []∧Q0 w'.heap z.2.2 4 ((bA n (λi=>decide (i<0))).map Value.bool)∧w1.heap.size≤z.1∧w1.heap.size≤z.2.1∧w1.heap.size≤z.2.2∧z.1≠z.2.1∧z.1≠z.2.2∧z.2.1≠z.2.2) (by rfl) ?_ ?_
 ·have hd0:Step [] w1 { w1 with drawn:=w1.drawn+1 }:=Step.drew _ _
  refine QhD (Step [] w1) [(0,true),(1,true),(3,true),(4,true)] 2 5 [(5,false),(6,true),(7,false),(8,true)] [(2,false),(6,true),(7,false),(8,true)] mixed (by rfl) (by kernel_rfl) (Step.drew _ _) ?_
  refine pq (λ_ hc=>Qr (hB3.ext hc) rfl rfl)<|p (λ_=>Qn)<|p (λ_=>Qa rfl)<|pq (λ_ hc=>Qd (hB3.ext hc) rfl rfl)<|pe ⟨⟨rfl,?_⟩,rfl,?_⟩
  ·refine Yk Kd λbm w2 hs2 hbm hM2=>⟨hd0.trans hs2,?_⟩
   refine pk<|Vj (n:=n) (congrArg (Value.int .i64) hn) (congrArg (Value.int .i64) hn) (by omega) λbl w3 hs3 hbl hB=>⟨(hd0.trans hs2).trans hs3,?_⟩
   rw[QbO] at hB
   refine p (λ_=>ZQ [(0,[va,.int .i64 a.st,vm,ve]),(1,[vu]),(2,[.map (some bm)]),(3,[.slice (some ⟨bl,0,none⟩) n n])] ⟨rfl,rfl,hu.cells,rfl,rfl,rfl,rfl,rfl,trivial⟩)<|pk <|
    QR (us:=[va,.int .i64 a.st,vm,ve,vu,.map (some bm),.slice (some ⟨bl,0,none⟩) n n]) rfl λbp w4 hs4 hbp hBp=>⟨((hd0.trans hs2).trans hs3).trans hs4,?_⟩
   refine p (λ_=>Qh)<|pe ?_
   have hl2:=hM2.lt
   have hl4:=hB.lt
   have hz2:=hs2.size
   have hz3:=hs3.size
   have hzd:({ w1 with drawn:=w1.drawn+1 }:World).heap.size=w1.heap.size:=rfl
   exact ⟨(bp,bm,bl),⟨rfl,trivial⟩,((hd0.trans hs2).trans hs3).trans hs4,hBp,(hM2.ext hs3).ext hs4,hB.ext hs4,by simp only[];omega,by simp only[];omega,by simp only[];omega,by simp only[];omega,by simp only[];omega,by simp only[];omega⟩
  ·refine Vj (n:=n) (congrArg (Value.int .i64) hn) (congrArg (Value.int .i64) hn) (by omega) λbl w2 hs2 hbl hB=>⟨hd0.trans hs2,?_⟩
   rw[QbO] at hB
   refine pk<|Yk Kd λbm w3 hs3 hbm hM3=>⟨(hd0.trans hs2).trans hs3,?_⟩
   refine p (λ_=>ZQ [(0,[va,.int .i64 a.st,vm,ve]),(1,[vu]),(2,[.map (some bm)]),(3,[.slice (some ⟨bl,0,none⟩) n n])] ⟨rfl,rfl,hu.cells,rfl,rfl,rfl,rfl,rfl,trivial⟩)<|pk <|
    QR (us:=[va,.int .i64 a.st,vm,ve,vu,.map (some bm),.slice (some ⟨bl,0,none⟩) n n]) rfl λbp w4 hs4 hbp hBp=>⟨((hd0.trans hs2).trans hs3).trans hs4,?_⟩
   refine p (λ_=>Qh)<|pe ?_
   have hl2:=hM3.lt
   have hl4:=hB.lt
   have hz2:=hs2.size
   have hz3:=hs3.size
   have hzd:({ w1 with drawn:=w1.drawn+1 }:World).heap.size=w1.heap.size:=rfl
   exact ⟨(bp,bm,bl),⟨rfl,trivial⟩,((hd0.trans hs2).trans hs3).trans hs4,hBp,hM3.ext hs4,(hB.ext hs3).ext hs4,by simp only[];omega,by simp only[];omega,by simp only[];omega,by simp only[];omega,by simp only[];omega,by simp only[];omega⟩
 rintro ⟨bp,bm,bl⟩ g w4 ⟨hs4,hBp,hM4,hBl,hbp,hbm,hbl,hpm,hpl,hml⟩
 simp only[] at hBp hM4 hBl hbp hbm hbl hpm hpl hml
 have hlp:=hBp.lt
 have hlm:=hM4.lt
 have hll:=hBl.lt
 have hs04:=hs1.trans hs4
 have hz4:=hs4.size
 have hpL:bp∉[bl]:=by simpa using hpl
 have hmL:bm∉[bl]:=by simpa using hml
 have h4:=h.ext hs04
 have hr4:=hr.ext hs04
 refine Qf<|Qc<|Qb<|x (QI rfl)<|x (Qa rfl)<|x (Qd hBp rfl rfl)<|x (Qs (L:=[]) (hBl.arr (by simp) (n:=n) (cap:=n) (sz:=1) (by simp[bA]) (by omega) (Nat.le_refl _)) rfl)<|Qb<|xe ?_
 refine Qg<|QC (α:=Nat) [(8,8),(26,35)] (λz=>[(26,.int .i64 z)]) (λz w'=>z≤n∧Step [bl] w4 w'∧Q0 w'.heap bl 4 ((bA n (λi=>decide (i<z))).map Value.bool)) (λz=>n - z) (by rfl) 0 ⟨rfl,trivial⟩ ⟨Nat.zero_le _,Step.refl _ _,hBl⟩ ?_
 rintro k g w5 ⟨hk,hs5,hBl5⟩
 refine Qc<|x (QB rfl rfl)<|xe ?_
 refine Qf<|QH rfl (λh27=>?_) (λh27=>?_)
 ·refine Qz ?_
  have hkn:k=n:=by have h28:¬(k:Int)<(n:Int):=h27;omega
  have hall:bA n (λi=>decide (i<k))=(rm.take 0).foldl cut (List.replicate n true):=by
   apply List.ext_getElem
   ·simp[bA]
   ·intro i h1 h2
    have:i<n:=by simpa[bA] using h1
    simp[bA];omega
  rw[hall] at hBl5
  have hup:∀b∈[bl],b<w1.heap.size→b∈([]:LN):=λb hb hlt=>by simp only[List.mem_singleton] at hb;omega
  have h1r:QM [bl] w1.heap vr rm:=(hr.ext hs1).up (λb hb=>.inr (by simp only[List.mem_singleton] at hb;omega))
  have h1u:QM [bl] w1.heap vu unc:=(hu.ext hs1).up (λb hb=>.inr (by simp only[List.mem_singleton] at hb;omega))
  have h1a:Zr [bl] w1.heap va vm ve a:=(h.ext hs1).up (λb hb=>.inr (by simp only[List.mem_singleton] at hb;omega))
  have hbp5:=hBp.step hs5 hpL
  have hM5:=hM4.step hs5 hmL
  refine Qf<|Qc<|Qb<|x (Qs ((h1r.ext hs4).st hs5) rfl)<|Qb<|xe ?_
  refine Qg<|QC (α:=Nat) [(10,10),(38,48)] (λz=>[(38,.int .i64 z)]) (λz w'=>z≤rm.length∧Step [bl] w4 w'∧Q0 w'.heap bl 4 (((rm.take z).foldl cut (List.replicate n true)).map Value.bool)) (λz=>rm.length - z) (by rfl) 0 ⟨rfl,trivial⟩ ⟨Nat.zero_le _,hs5,hBl5⟩ ?_
  rintro j g w6 ⟨hj,hs6,hBl6⟩
  refine Qc<|x (QB rfl rfl)<|xe ?_
  refine Qf<|QH rfl (λh39=>?_) (λh39=>?_)
  ·refine Qz ?_
   have hje:rm.length≤j:=by have h40:¬(j:Int)<(rm.length:Int):=h39;omega
   rw[List.take_of_length_le hje] at hBl6
   have hbp6:=hBp.step hs6 hpL
   have hM6:=hM4.step hs6 hmL
   have hl6:=hBl6.lt
   refine Qf<|Qc<|x (Qa rfl)<|x (Qd ((hB3.ext hs4).step hs6 (by simp only[List.mem_singleton];omega)) rfl rfl)<|x (Qs ((h1a.ext hs4).st hs6).ed rfl)<|Qb<|xe ?_
   have hz6:=hs6.size
   refine Qg<|QC (α:=Nat×(Nat→Value)×List (Int×Value)) [(12,12),(52,73)] (λz=>[(52,.int .i64 z.1)]) (λz w'=>z.1≤a.ed.length∧Step [bm] w6 w'∧ZZ Kd w'.heap bm z.2.2∧J3 w6.heap.size w' n z.2.1 (Yi (a.ed.take z.1))∧∀s,s<n→(match mget z.2.2 ((s:Nat):Int) with | some u=>u | none=>nS)=z.2.1 s) (λz=>a.ed.length - z.1) (by rfl) (0,λ_=>nS,[]) ⟨rfl,trivial⟩
    ⟨Nat.zero_le _,Step.refl _ _,hM6,⟨λi _=>QO _ _ _ _,λi j _ _ _=>Dj.nil _⟩,λs _=>rfl⟩ ?_
   rintro ⟨i,rv,m⟩ g w7 ⟨hi,hs7,hM7,hR7,hg7⟩
   simp only[] at hi hM7 hR7 hg7
   have hz7:=hs7.size
   have hpm7:bp∉[bm]:=by simpa using hpm
   have hlm7:bl∉[bm]:=by simpa using Ne.symm hml
   refine Qc<|x (QB rfl rfl)<|xe ?_
   refine Qf<|QH rfl (λh53=>?_) (λh53=>?_)
   ·refine Qz ?_
    have hie:a.ed.length≤i:=by have h54:¬(i:Int)<(a.ed.length:Int):=h53;omega
    rw[List.take_of_length_le hie] at hR7
    refine Qc<|Qb<|Qe ?_
    have hlow:∀b,b<w4.heap.size→b<w6.heap.size:=λb hb=>by omega
    refine Qm ⟨[_],⟨rfl,trivial⟩,(hs04.then1 hs6 (by omega)).then1 hs7 (by omega),bp,⟨va,vm,ve,a,vu,unc,bm,m,bl,n,rv⟩,rfl,rfl,rfl,rfl,by simp only[];omega,⟨hbp6.step hs7 hpm7,hpL,?_,?_,hM7,hmL,hg7,λs hs=>QS (hR7.own s hs) (Nat.le_trans (Vn a.ed s) (by omega)) (λb hb hm=>?_)⟩,hBl6.step hs7 hlm7⟩
    ·have h9:Zr [bl,bm] w7.heap va vm ve a:=((((h.ext hs1).up (L':=[bl,bm]) (λb hb=>.inr (by simp only[List.mem_cons,List.not_mem_nil,or_false] at hb;omega))).ext hs4).st (hs6.mono (by simp))).st (hs7.mono (by simp))
     exact h9.up (by simp)
    ·have h9:QM [bl,bm] w7.heap vu unc:=((((hu.ext hs1).up (L':=[bl,bm]) (λb hb=>.inr (by simp only[List.mem_cons,List.not_mem_nil,or_false] at hb;omega))).ext hs4).st (hs6.mono (by simp))).st (hs7.mono (by simp))
     exact h9.up (by simp)
    ·have:=(Qk (hR7.own s hs) b hb).1
     simp only[List.mem_singleton] at hm
     omega
   refine Qi ?_
   have hlt:i<a.ed.length:=by have h54:(i:Int)<(a.ed.length:Int):=h53;omega
   have htk:a.ed.take (i+1)=a.ed.take i++[a.ed[i]'hlt]:=List.take_succ_eq_append_getElem hlt
   have hei:=hed _ (List.getElem_mem hlt)
   refine Q8 (a.ed[i]'hlt) λe he=>?_
   rw[he] at htk hei
   have hto:e.2.2=(e.2.2.toNat:Int):=by omega
   have htn:e.2.2.toNat<n:=by omega
   have hil:=Vn (a.ed.take i) e.2.2.toNat
   rw[List.length_take] at hil
   have hsn:=Qah (a.ed.take i) e hei.2.2.2.1
   have hE7:UX [bl,bm] w7.heap ve a.ed:=((((h.ed.ext hs1).up (L':=[bl,bm]) (λb hb=>.inr (by simp only[List.mem_cons,List.not_mem_nil,or_false] at hb;omega))).ext hs4).st (hs6.mono (by simp))).st (hs7.mono (by simp))
   refine Qf<|Qg<|Qc<|xie hE7 rfl rfl hlt λa54 h54=>?_
   rw[he] at h54
   refine x (QJ h54 rfl rfl)<|xl rfl<|Qu (us:=[.int .i64 0,.int .i64 0,.int .i64 0]) rfl λb12 w8 hs8 hb12 hB12=>xl rfl<|Qo (us:=Qy e) hB12 rfl rfl rfl rfl ⟨rfl,rfl,rfl,trivial⟩ λw9 hs9 hB12'=>xe ?_
   have hs79:Step [] w7 w9:=hs8.then1 hs9 hb12
   have hz9:=hs79.size
   have hR9:=hR7.ext hs79
   have hrow:=hR9.own _ htn
   have hIn:∀b∈ob (rv e.2.2.toNat),w6.heap.size≤b∧b<w7.heap.size:=λb hb=>⟨(Qk (hR7.own _ htn) b hb).1,QQ (hR7.own _ htn) b hb⟩
   have hpn:bp∉ob (rv e.2.2.toNat):=λhb=>by have:=hIn _ hb;omega
   have hmn:bm∉ob (rv e.2.2.toNat):=λhb=>by have:=hIn _ hb;omega
   have h12n:b12∉ob (rv e.2.2.toNat):=λhb=>by have:=hIn _ hb;omega
   have hbp9:=((hbp6.step hs7 hpm7).ext hs79)
   have hM9:=hM7.ext hs79
   have hlk:=hg7 e.2.2.toNat htn
   rw[←hto] at hlk
   refine QU (Step (ob (rv e.2.2.toNat)) w9) [(0,true),(1,true),(2,true),(3,true),(4,true),(5,true),(6,true),(7,true),(8,true),(9,true),(10,true),(11,true),(12,true),(13,true),(14,true),(15,false),(16,false),(17,false)] mixed (by rfl) (by kernel_rfl) (Step.drew _ _) ?_
   refine p (λ_=>Qn)<|p (λ_=>QI rfl)<|p (λ_=>Qa rfl)<|pq (λ_ hc=>Qd (hbp9.step hc hpn) rfl rfl) <|
    p (λ_=>Qa rfl)<|pq (λ_ hc=>Qd (hB12'.step hc h12n) rfl rfl)<|p (λ_=>Qn)<|p (λ_=>QI rfl)<|p (λ_=>Qa rfl) <|
    pq (λ_ hc=>Qd (hbp9.step hc hpn) rfl rfl)<|p (λ_=>Qa rfl)<|pq (λ_ hc=>Qd (hB12'.step hc h12n) rfl rfl) <|
    pq (λ_ hc=>(XR (k:=e.2.2) (hM9.step hc hmn) rfl rfl).trans (congrArg (λv=>Result.ok (Next.value v) _) hlk))<|p (λ_=>Qa rfl)<|pq (λ_ hc=>Qd (hB12'.step hc h12n) rfl rfl) <|
    pk<|QD (us:=[[.int .i64 e.1]]) rfl rfl (by decide) (by simp) ⟨rfl,rfl,trivial⟩ λb71 w10 hs10 hb71 hB71=>⟨(Step.drew _ _).trans hs10,?_⟩
   have hs910:Step [] w9 w10:=(Step.drew _ _).trans hs10
   have hz10:=hs910.size
   refine pk<|QY (m:=1) (news:=[.int .i64 e.1]) (Qq hrow hs910) rfl rfl rfl (hB71.at (L:=[]) (by simp)) (by simp[Value.oneCell']) (by omega) (by omega) λvr' w11 ho11 hs11 hn11=>⟨hs910.any.trans' hs11,?_⟩
   have hM11:=(hM9.ext hs910).step hs11 hmn
   refine pkl (hl:=by kernel_rfl)<|Xe (k:=e.2.2) hM11 rfl rfl λw12 hs12 hM12=>pe ?_
   have hvn:∀b∈ob vr',b∈ob (rv e.2.2.toNat)∨w9.heap.size≤b:=λb hb=>(hn11 b hb).imp id (λh=>by omega)
   have hR11:=hR9.app htn (Qt.snoc ho11) (hs910.any.trans' hs11) hvn
   have hR12:=hR11.step hs12 (λi hi b hb=>by have:=(Qk (hR11.own i hi) b hb).1;simp only[List.mem_singleton];omega)
   have hfe:J7 (Yi (a.ed.take i)) e.2.2.toNat (Yi (a.ed.take i) e.2.2.toNat++[e.1])=Yi (a.ed.take (i+1)):=by rw[htk];exact funext hsn
   rw[hfe] at hR12
   refine Qw<|x (Qx rfl rfl ⟨by omega,by omega⟩)<|Qb<|xe ?_
   refine ⟨(i+1,J7 rv e.2.2.toNat vr',mput m e.2.2 vr'),by simp only[];omega,⟨rfl,trivial⟩,hlt,?_,hM12,hR12,λs hs=>?_⟩
   ·exact (((hs7.trans hs79).trans hs910).then hs11 (λb hb=>.inr (hIn b hb).1)).trans' hs12
   ·simp only[]
    rw[X0]
    by_cases hse:s=e.2.2.toNat
    ·subst hse
     rw[if_pos hto,ZP]
    ·rw[if_neg (by omega),Yb _ _ hse]
     exact hg7 s hs
  refine Qi ?_
  have hjlt:j<rm.length:=by have h40:(j:Int)<(rm.length:Int):=h39;omega
  have hxj:=hrb _ (List.getElem_mem hjlt)
  have htk:rm.take (j+1)=rm.take j++[rm[j]'hjlt]:=List.take_succ_eq_append_getElem hjlt
  refine Q8 (rm[j]'hjlt) λs hs=>?_
  rw[hs] at hxj htk
  have hsn:s=(s.toNat:Int):=by omega
  have hlen:((rm.take j).foldl cut (List.replicate n true)).length=n:=by rw[UI];simp
  refine Qf<|Qg<|Qc<|xii (i:=j) ((h1r.ext hs4).st hs6) rfl rfl hjlt λa40 h40=>?_
  rw[hs] at h40
  refine x (Qv h40 rfl)<|Qe<|Qw<|Qb<|x (QI rfl)<|x (Qa rfl)<|x (Qd (hBp.step hs6 hpL) rfl rfl)<|Qb<|x (Zf (i:=s.toNat) rfl (congrArg (Value.int .i64) hsn) (by omega)) <|
   xl rfl<|Ul (i:=s.toNat) hBl6 rfl rfl (by omega) λw7 hs7 hBl7=>xe ?_
  refine Qw<|x (Qx rfl rfl ⟨by omega,by omega⟩)<|Qb<|xe ?_
  refine ⟨j+1,by omega,⟨rfl,trivial⟩,hjlt,hs6.trans' hs7,?_⟩
  rw[htk,List.foldl_append]
  exact hBl7
 refine Qi ?_
 have hlt:k<n:=by have h28:(k:Int)<(n:Int):=h27;omega
 have hbp5:=hBp.step hs5 hpL
 refine Qf<|Qg<|Qc<|Qb<|Qe<|Qw<|Qb<|x (QI rfl)<|x (Qa rfl)<|x (Qd hbp5 rfl rfl)<|Qb<|x (Zf (i:=k) rfl rfl (by omega)) <|
  xl rfl<|Ul (i:=k) hBl5 rfl rfl (by rw[Qji];exact hlt) λw6 hs6 hBl6=>xe ?_
 have hst:(bA n (λi=>decide (i<k))).set k true=bA n (λi=>decide (i<k+1)):=Qjh (by simp) (λi _ hi=>by
  by_cases e:i<k
  ·simp[e];omega
  ·simp[e];omega)
 rw[hst] at hBl6
 refine Qw<|x (Qx rfl rfl ⟨by omega,by omega⟩)<|Qb<|xe ?_
 exact ⟨k+1,by omega,⟨rfl,trivial⟩,hlt,hs5.trans' hs6,hBl6⟩
theorem UL {l r:LI}{i:Nat}(h:i<l.length):cget (l++r) i=cget l i:=by
 unfold cget;simp[List.getD,List.getElem?_append_left h]
set_option maxHeartbeats 4000000 in
theorem K1 {w:World}{bp:Nat}{q:Pz}{lf:Lf}(hA:ye [] w.heap bp q) (hq:PzQ q) (hB:Q0 w.heap q.bl 4 (lf.map Value.bool)) (hl:lf.length=q.n) :
  QL prog 217 [.pointer (some ⟨bp,0,none⟩)] w λr w'=>Step [] w w'∧∃b,r=.slice (some ⟨b,0,none⟩) q.n q.n∧w.heap.size≤b∧Q0 w'.heap b 3 ((dsts q.a lf).map (Value.int .i64))∧(dsts q.a lf).length=q.n:=by
 have hn:=hq.n
 have hst1:=hq.ok.st1
 have hmr:=hq.ok.mr
 have hml:=hq.ok.mr_le
 have hel:=hq.ok.ed_le
 have hnt:q.a.st.toNat=q.n:=by omega
 have hd0:=Qi0 (lf:=lf) hq.ok hn
 have hdt:(dsL q.a.ed lf q.n 0 (ds0 q.a lf)).1=dsts q.a lf:=by unfold dsts;rw[hnt]
 refine Q8 (dsts q.a lf) λDD hDD=>?_
 rw[hDD] at hdt ⊢
 refine QL.of_W func217 rfl ntmps217 results217 (by simp) ?_
 refine Qc<|Qe<|Qc<|Qb<|x (QI rfl)<|x (Qa rfl)<|x (Qa rfl)<|x (Qd hA.B rfl rfl)<|xl rfl<|Vj (n:=q.n) (congrArg (Value.int .i64) hn) (congrArg (Value.int .i64) hn) (by omega) λbO w1 hs1 hbO hBO=>Qe ?_
 rw[Qcw] at hBO
 refine Qf<|Qc<|Qb<|x (Qs (L:=[]) (hBO.arr (by simp) (n:=q.n) (cap:=q.n) (sz:=1) (by simp[gA]) (by omega) (Nat.le_refl _)) rfl)<|Qb<|xe ?_
 refine Qg<|QC (α:=Nat) [(4,4),(19,25)] (λz=>[(19,.int .i64 z)]) (λz w'=>z≤q.n∧Step [] w w'∧Q0 w'.heap bO 3 ((gA q.n (λj=>if j<z then -1 else 0)).map (Value.int .i64))) (λz=>q.n - z) (by rfl) 0 ⟨rfl,trivial⟩ ⟨Nat.zero_le _,hs1,hBO⟩ ?_
 rintro j g w2 ⟨hj,hs2,hBO2⟩
 refine Qc<|x (QB rfl rfl)<|xe ?_
 refine Qf<|QH rfl (λh20=>?_) (λh20=>?_)
 ·refine Qz ?_
  have hjn:j=q.n:=by have h21:¬(j:Int)<(q.n:Int):=h20;omega
  have hg0:gA q.n (λi=>if i<j then -1 else 0)=((q.a.mr.take 0).foldl (yc lf) (List.replicate q.n (-1),[])).1:=by
   apply List.ext_getElem
   ·simp[gA]
   ·intro i h1 h2
    have:i<q.n:=by simpa[gA] using h1
    simp[gA];omega
  rw[hg0] at hBO2
  refine Qc<|Qe<|Qf<|Qc<|Qb<|x (QI rfl)<|x (Qa rfl)<|x (Qa rfl)<|x (Qd (hA.ext hs2).B rfl rfl)<|x (Qs (hA.ext hs2).a.mr rfl)<|Qb<|xe ?_
  refine Qg<|QC (α:=Nat×Value) [(5,5),(7,7),(32,50)] (λz=>[(5,z.2),(32,.int .i64 z.1)]) (λz w'=>z.1≤q.a.mr.length∧Step [] w w'∧w2.heap.size≤w'.heap.size∧Q0 w'.heap bO 3 (((q.a.mr.take z.1).foldl (yc lf) (List.replicate q.n (-1),[])).1.map (Value.int .i64)) ∧
   Qt 3 w2.heap.size w' z.2 ((q.a.mr.take z.1).foldl (yc lf) (List.replicate q.n (-1),[])).2) (λz=>q.a.mr.length - z.1) (by rfl) (0,nS) ⟨rfl,rfl,trivial⟩ ⟨Nat.zero_le _,hs2,Nat.le_refl _,hBO2,QO _ _ _ _⟩ ?_
  rintro ⟨k,vl⟩ g w3 ⟨hk,hs3,hz3,hBO3,hO3⟩
  simp only[] at hk hBO3 hO3
  have htk0:=je (lf:=lf) (λx hx=>(hmr x hx).1) k
  rw[hnt] at htk0
  have hbo:=hBO3.lt
  refine Qc<|x (QB rfl rfl)<|xe ?_
  refine Qf<|QH rfl (λh33=>?_) (λh33=>?_)
  ·refine Qz ?_
   have hke:q.a.mr.length≤k:=by have h34:¬(k:Int)<(q.a.mr.length:Int):=h33;omega
   have e0:(q.a.mr.take k).foldl (yc lf) (List.replicate q.n (-1),[])=ds0 q.a lf:=by rw[List.take_of_length_le hke];unfold ds0;rw[hnt]
   rw[e0] at hBO3 hO3
   have hbO2:bO<w2.heap.size:=hBO2.lt
   refine Qf<|Qc<|Qe<|Qg<|QC (α:=Nat×Nat×Value×LI×LI) [(5,5),(8,8),(10,10),(51,100)] (λz=>[(5,z.2.2.1),(8,.int .i64 z.2.1)])
    (λz w'=>Step [] w w'∧w2.heap.size≤w'.heap.size∧Q0 w'.heap bO 3 (z.2.2.2.1.map (Value.int .i64))∧Qt 3 w2.heap.size w' z.2.2.1 z.2.2.2.2∧DsI q.n z.2.2.2∧z.1+z.2.1=q.n∧(dsL q.a.ed lf z.1 z.2.1 z.2.2.2).1=DD) (λz=>q.n - z.2.1) (by rfl) (q.n,0,vl,(ds0 q.a lf).1,(ds0 q.a lf).2) ⟨rfl,rfl,trivial⟩
    ⟨hs3,hz3,hBO3,hO3,hd0,rfl,hdt⟩ ?_
   rintro ⟨f,i,vl,o,l⟩ g w4 ⟨hs4,hz4,hBO4,hO4,hI4,hfi,hres⟩
   simp only[] at hz4 hBO4 hO4 hI4 hfi hres
   have hll:=hI4.le
   have hol:=hI4.ok.len
   simp only[] at hll hol
   have hA4:=hA.ext hs4
   refine Qf<|Qc<|Qb<|Qb<|x (Qs (L:=[]) (QS hO4 (by omega) (by simp)) rfl)<|x (QB rfl rfl)<|xe ?_
   refine QH rfl (λh54=>?_) (λh54=>?_)
   ·refine Qz ?_
    have hie:¬i<l.length:=by have h55:¬(i:Int)<(l.length:Int):=h54;omega
    rw[Qfd hie] at hres
    simp only[] at hres
    subst hres
    refine Qc<|Qb<|Qe ?_
    exact Qm ⟨[.slice (some ⟨bO,0,none⟩) q.n q.n],⟨rfl,trivial⟩,hs4,bO,rfl,hbO,hBO4,hol⟩
   refine Qi ?_
   have hil:i<l.length:=by have h55:(i:Int)<(l.length:Int):=h54;omega
   refine Exists.elim (Nat.exists_eq_succ_of_ne_zero (show f≠0 by omega)) λf' hfe=>?_
   subst hfe
   rw[dsL,if_pos hil] at hres
   have hli:=Zg hil
   have hsr:=hI4.ok.q _ (X3 hil)
   have hs0:=hI4.s0 _ (X3 hil)
   refine Q8 (cget l i) λs hs=>?_
   rw[hs] at hres hsr hli
   simp only[] at hsr hs0
   rw[hs] at hs0
   have hsn:s=(s.toNat:Int):=by omega
   have hlk:=hA4.g s.toNat (by omega)
   rw[←hsn] at hlk
   have hRw:=hA4.R s.toNat (by omega)
   have hil2:=Vn q.a.ed s.toNat
   refine Qf<|Qg<|Qf<|QU (Step [] w4) [(0,true),(1,true),(2,true),(3,true),(4,true),(5,true),(6,true),(7,true),(8,true),(9,true),(10,true)] mixed (by rfl) (by kernel_rfl) (Step.drew _ _) ?_
   refine p (λ_=>Qn)<|p (λ_=>QI rfl)<|p (λ_=>Qa rfl)<|pq (λ_ hc=>Qd (hA4.B.ext hc) rfl rfl)<|p (λ_=>Qn)<|p (λ_=>Qn) <|
    pii (i:=i) rfl (QS (L:=[]) hO4 (by omega) (by simp)) rfl rfl hil λa63 h63=>?_
   rw[hli] at h63
   refine pq (λ_ hc=>Qv (h63.ext hc) rfl)<|pq (λ_ hc=>(XR (k:=s) (hA4.M.ext hc) rfl rfl).trans (congrArg (λv=>Result.ok (Next.value v) _) hlk))<|p (λ_=>Qs hRw rfl)<|p (λ_=>Qn)<|pe ?_
   have hd4:Step [] w4 { w4 with drawn:=w4.drawn+1 }:=Step.drew _ _
   refine Qg<|QC (α:=Nat×Value×LI×LI) [(5,5),(10,10),(67,100)] (λz=>[(5,z.2.1),(67,.int .i64 z.1)])
    (λz w'=>z.1≤(Yi q.a.ed s.toNat).length∧Step [] w w'∧w2.heap.size≤w'.heap.size∧Q0 w'.heap bO 3 (z.2.2.1.map (Value.int .i64))∧Qt 3 w2.heap.size w' z.2.1 z.2.2.2∧DsI q.n z.2.2∧0≤cget z.2.2.1 s.toNat∧i<z.2.2.2.length∧cget z.2.2.2 i=s ∧
     ((Yi q.a.ed s.toNat).drop z.1).foldl (dsE lf s) z.2.2=(Yi q.a.ed s.toNat).foldl (dsE lf s) (o,l)) (λz=>(Yi q.a.ed s.toNat).length - z.1) (by rfl) (0,vl,o,l) ⟨rfl,rfl,trivial⟩
    ⟨Nat.zero_le _,hs4.trans hd4,Nat.le_trans hz4 hd4.size,hBO4.ext hd4,Qq hO4 hd4,hI4,hs0,hil,hs,rfl⟩ ?_
   rintro ⟨m,vl2,o2,l2⟩ g w5 ⟨hm,hs5,hz5,hBO5,hO5,hI5,hos5,hil5,hci5,hfo⟩
   simp only[] at hm hz5 hBO5 hO5 hI5 hos5 hil5 hci5 hfo
   have hA5:=hA.ext hs5
   have hll5:=hI5.le
   have hol5:=hI5.ok.len
   simp only[] at hll5 hol5
   refine Qc<|x (QB rfl rfl)<|xe ?_
   refine Qf<|QH rfl (λh68=>?_) (λh68=>?_)
   ·refine Qz ?_
    have hme:(Yi q.a.ed s.toNat).length≤m:=by have h69:¬(m:Int)<((Yi q.a.ed s.toNat).length:Int):=h68;omega
    rw[List.drop_of_length_le hme] at hfo
    simp only[List.foldl_nil] at hfo
    rw[←hfo] at hres
    refine Qw<|Qb<|x (Qx rfl rfl ⟨by omega,by omega⟩)<|Qe ?_
    exact ⟨(f',i+1,vl2,o2,l2),by simp only[];omega,⟨rfl,rfl,trivial⟩,hs5,hz5,hBO5,hO5,hI5,by simp only[];omega,hres⟩
   refine Qi ?_
   have hmlt:m<(Yi q.a.ed s.toNat).length:=by have h69:(m:Int)<((Yi q.a.ed s.toNat).length:Int):=h68;omega
   have hpm:=Qcx (List.getElem_mem hmlt)
   have hdr:=QW hmlt
   rw[hdr,List.foldl_cons] at hfo
   refine Q8 ((Yi q.a.ed s.toNat)[m]'hmlt) λy hy=>?_
   rw[hy] at hpm hfo
   have hyb:0≤y∧y<(q.n:Int):=by
    obtain ⟨e,he,h1,_⟩:=hpm
    have:=hq.ok.ed e he
    omega
   have hyn:y=(y.toNat:Int):=by omega
   have hyl:y.toNat<o2.length:=by omega
   have hsl:s.toNat<o2.length:=by omega
   have hvs:=hI5.ok.le _ (X3 hsl)
   simp only[] at hvs
   have hE:=Qfe (lf:=lf) hI5 hsr hos5 hyb
   have hlft:=Vm (l:=lf) (s:=y) (by omega)
   have hngl:=Qea o2
   refine Qf<|Qg<|Qc<|xii (i:=m) ((hA5.R s.toNat (by omega))) rfl rfl hmlt λa69 h69=>?_
   rw[hy] at h69
   refine x (Qv h69 rfl)<|Qe<|QV (α:=Bool) [(71,84)] (λz=>[(84,.bool z)]) (λz w'=>w'=w5∧z=(lft lf y && decide (cget o2 y.toNat<0))) (by rfl) ?_ ?_
   ·refine Qw ?_
    have hld:∀{P:Prop},(∀b,lft lf y=b→P)→P:=λh=>h _ rfl
    refine Qb<|x (QI rfl)<|x (Qa rfl)<|x (Qd hA5.B rfl rfl)<|Qb<|x (Zf (i:=y.toNat) rfl (congrArg (Value.int .i64) hyn) (by omega))<|x (Xz (i:=y.toNat) (hB.ext hs5) rfl (by omega))<|?_
    rw[hlft]
    cases lft lf y with
    | true =>
     refine Qb<|Qb<|Qb<|x (Zf (i:=y.toNat) rfl (congrArg (Value.int .i64) hyn) (by omega))<|x (VX (i:=y.toNat) hBO5 rfl hyl)<|x (QB rfl rfl)<|x (Ql rfl)<|xe ?_
     exact ⟨_,⟨rfl,trivial⟩,rfl,by rw[Zg hyl];rfl⟩
    | false =>
     refine Qb<|xs rfl<|xs rfl<|xs rfl<|xs rfl<|xs rfl<|x (Ql rfl)<|xe ?_
     exact ⟨_,⟨rfl,trivial⟩,rfl,rfl⟩
   rintro z g w5' ⟨rfl,rfl⟩
   refine Q2 rfl (λh84=>?_) (λh84=>?_)
   ·rw[Bool.and_eq_true,decide_eq_true_eq] at h84
    have hEq:dsE lf s (o2,l2) y=(o2.set y.toNat (cget o2 s.toNat+1),l2++[y]):=by unfold dsE;rw[if_pos h84]
    rw[hEq] at hfo hE
    have hcs:=Zg hsl
    have hci:=Zg hil5
    rw[hci5] at hci
    refine Qc<|Qb<|Qb<|Qb<|Qb<|Qb<|xii (i:=i) (QS (L:=[]) hO5 (by omega) (by simp)) rfl rfl hil5 λa90 h90=>?_
    rw[hci] at h90
    refine x (Qv h90 rfl)<|x (Zf (i:=s.toNat) rfl (congrArg (Value.int .i64) hsn) (by omega))<|x (VX (i:=s.toNat) hBO5 rfl hsl)<|x (Qx rfl rfl ⟨by omega,by omega⟩) <|
     x (Zf (i:=y.toNat) rfl (congrArg (Value.int .i64) hyn) (by omega))<|xl rfl<|XX (i:=y.toNat) hBO5 rfl rfl hyl λw6 hs6 hBO6=>xe ?_
    rw[hcs] at hBO6
    have hz6:=hs6.size
    have hnO:∀b∈ob vl2,b∉[bO]:=λb hb=>by have:=Qk hO5 b hb;simp only[List.mem_singleton];omega
    have hO6:Qt 3 w2.heap.size w6 vl2 l2:=Qj hO5 hs6 hnO
    have hs06:Step [] w w6:=hs5.then1 hs6 hbO
    refine Qw<|Qb<|Qb<|xl rfl<|QD (us:=[[.int .i64 y]]) rfl rfl (by decide) (by simp) ⟨rfl,rfl,trivial⟩ λb98 w7 hs7 hb98 hB98=>xl rfl<|QY (m:=1) (news:=[.int .i64 y]) (Qq hO6 hs7) rfl rfl rfl (hB98.at (L:=[]) (by simp)) (by simp[Value.oneCell']) (by omega) (by have:=hs7.size;omega) λvl3 w8 hO8 hs8 hn8 =>
     Qe ?_
    have hz7:=hs7.size
    have hz8:=hs8.size
    refine Qw<|x (Qx rfl rfl ⟨by omega,by omega⟩)<|Qb<|xe ?_
    refine ⟨(m+1,vl3,_,l2++[y]),by simp only[];omega,⟨rfl,rfl,trivial⟩,hmlt,(hs06.trans hs7).then hs8 (λb hb=>.inr (by have:=Qk hO6 b hb;have:=hs1.size;have:=hs2.size;omega)),by omega,(hBO6.ext hs7).step hs8 (λhb=>by have:=Qk hO6 _ hb;omega),Qt.snoc hO8,hE.1,hE.2,by simp only[List.length_append];omega,by rw[UL hil5];exact hci5,hfo⟩
   ·have hEq:dsE lf s (o2,l2) y=(o2,l2):=by
     unfold dsE;rw[if_neg]
     intro hc
     rw[hc.1,decide_eq_true hc.2] at h84
     cases h84
    rw[hEq] at hfo
    refine Qi<|Qw<|x (Qx rfl rfl ⟨by omega,by omega⟩)<|Qb<|xe ?_
    exact ⟨(m+1,vl2,o2,l2),by simp only[];omega,⟨rfl,rfl,trivial⟩,hmlt,hs5,hz5,hBO5,hO5,hI5,hos5,hil5,hci5,hfo⟩
  refine Qi ?_
  have hklt:k<q.a.mr.length:=by have h34:(k:Int)<(q.a.mr.length:Int):=h33;omega
  have hxk:=hmr _ (List.getElem_mem hklt)
  have htk:q.a.mr.take (k+1)=q.a.mr.take k++[q.a.mr[k]'hklt]:=List.take_succ_eq_append_getElem hklt
  have hfol:(q.a.mr.take (k+1)).foldl (yc lf) (List.replicate q.n (-1),[])=yc lf ((q.a.mr.take k).foldl (yc lf) (List.replicate q.n (-1),[])) (q.a.mr[k]'hklt):=by rw[htk,List.foldl_append];rfl
  have hzlen:((q.a.mr.take k).foldl (yc lf) (List.replicate q.n (-1),[])).1.length=q.n∧((q.a.mr.take k).foldl (yc lf) (List.replicate q.n (-1),[])).2.length≤q.a.mr.length:=by
   rw[htk0]
   exact ⟨K5 _ _,Nat.le_trans (List.length_filter_le _ _) (by rw[List.length_take];omega)⟩
  refine Q8 ((q.a.mr.take k).foldl (yc lf) (List.replicate q.n (-1),[])) λz hz=>?_
  rw[hz] at hBO3 hO3 hfol hzlen
  refine Q8 (q.a.mr[k]'hklt) λy hy=>?_
  rw[hy] at hxk hfol
  have hyn:y=(y.toNat:Int):=by omega
  have hyl:y.toNat<z.1.length:=by omega
  have hlft:=Vm (l:=lf) (s:=y) (by omega)
  have hA3:=hA.ext hs3
  refine Qf<|Qg<|Qc<|xii (i:=k) hA3.a.mr rfl rfl hklt λa34 h34=>?_
  rw[hy] at h34
  refine x (Qv h34 rfl)<|Qe<|Qc<|Qb<|x (QI rfl)<|x (Qa rfl)<|x (Qd hA3.B rfl rfl)<|Qb<|x (Zf (i:=y.toNat) rfl (congrArg (Value.int .i64) hyn) (by omega))<|x (Xz (i:=y.toNat) (hB.ext hs3) rfl (by omega))<|xe ?_
  rw[hlft]
  refine Q2 rfl (λh42=>?_) (λh42=>?_)
  ·have e1:yc lf z y=(z.1.set y.toNat 0,z.2++[y]):=by unfold yc;rw[if_pos h42]
   rw[e1] at hfol
   refine Qc<|Qb<|Qb<|x (Zf (i:=y.toNat) rfl (congrArg (Value.int .i64) hyn) (by omega))<|xl rfl<|XX (i:=y.toNat) hBO3 rfl rfl hyl λw4 hs4 hBO4=>xe ?_
   have hz4:=hs4.size
   have hbO2:bO<w2.heap.size:=hBO2.lt
   have hO4:Qt 3 w2.heap.size w4 vl z.2:=Qj hO3 hs4 (λb hb=>by have:=Qk hO3 b hb;simp only[List.mem_singleton];omega)
   refine Qw<|Qb<|Qb<|xl rfl<|QD (us:=[[.int .i64 y]]) rfl rfl (by decide) (by simp) ⟨rfl,rfl,trivial⟩ λb48 w5 hs5 hb48 hB48=>xl rfl<|QY (m:=1) (news:=[.int .i64 y]) (Qq hO4 hs5) rfl rfl rfl (hB48.at (L:=[]) (by simp)) (by simp[Value.oneCell']) (by omega) (by have:=hs5.size;omega) λvl3 w6 hO6 hs6 hn6 =>
    Qe ?_
   have hz5:=hs5.size
   have hz6:=hs6.size
   refine Qw<|x (Qx rfl rfl ⟨by omega,by omega⟩)<|Qb<|xe ?_
   refine ⟨(k+1,vl3),by simp only[];omega,⟨rfl,rfl,trivial⟩,hklt,((hs3.then1 hs4 hbO).trans hs5).then hs6 (λb hb=>.inr (by have:=Qk hO4 b hb;have:=hs2.size;omega)),by omega,?_,?_⟩
   ·simp only[];rw[hfol]
    exact (hBO4.ext hs5).step hs6 (λhb=>by have:=Qk hO4 _ hb;omega)
   ·simp only[];rw[hfol]
    exact Qt.snoc hO6
  ·have e1:yc lf z y=z:=by unfold yc;rw[if_neg (by rw[h42];decide)]
   rw[e1] at hfol
   refine Qi<|Qw<|x (Qx rfl rfl ⟨by omega,by omega⟩)<|Qb<|xe ?_
   exact ⟨(k+1,vl),by simp only[];omega,⟨rfl,rfl,trivial⟩,hklt,hs3,hz3,by simp only[];rw[hfol];exact hBO3,by simp only[];rw[hfol];exact hO3⟩
 refine Qi ?_
 have hjn:j<q.n:=by have h21:(j:Int)<(q.n:Int):=h20;omega
 refine Qf<|Qg<|Qc<|Qb<|Qe<|Qw ?_
 have hst:(gA q.n (λi=>if i<j then -1 else 0)).set j (-1)=gA q.n (λi=>if i<j+1 then -1 else 0):=QiQ (by rw[if_pos (by omega)]) (λi _ hi=>by
  by_cases e:i<j
  ·rw[if_pos e,if_pos (by omega)]
  ·rw[if_neg e,if_neg (by omega)])
 refine Qb<|Qb<|x (Zf (i:=j) rfl rfl (by omega))<|xl rfl<|QdZ (i:=j) hBO2 rfl rfl hjn hst λw6 hs6 hBO6=>xe ?_
 refine Qw<|x (Qx rfl rfl ⟨by omega,by omega⟩)<|Qb<|xe ?_
 exact ⟨j+1,by omega,⟨rfl,trivial⟩,hjn,hs2.then1 hs6 hbO,hBO6⟩
abbrev yy (rk rs:Int) (x:Int×Int):LV:=[.int .i64 x.1,.int .i64 rk,.int .i64 rs,.int .i64 x.2]
theorem QaW (rk rs:Int) (x:Int×Int):(yy rk rs x).length=4:=rfl
abbrev RmO (base:Nat) (w:World) (v:Value) (rk rs:Int) (l:List (Int×Int)):Prop:=w.ownsRow base 320 4 v l.length (l.flatMap (yy rk rs))
theorem RmO.snoc {base:Nat}{w:World}{v:Value}{rk rs:Int}{l:List (Int×Int)}{x:Int×Int}(h:w.ownsRow base 320 4 v (l.length+1) (l.flatMap (yy rk rs)++yy rk rs x)):RmO base w v rk rs (l++[x]):=by
 unfold RmO
 rw[List.length_append,List.flatMap_append];simpa using h
theorem Qem {a:QT}{ul:LI}{lf:Lf}{k:Nat}(h:k<a.ed.length):(a.ed.take (k+1)).foldl (JB ul lf) []=JB ul lf ((a.ed.take k).foldl (JB ul lf) []) (a.ed[k]'h):=by
 rw[List.take_succ_eq_append_getElem h,List.foldl_append];rfl
set_option maxHeartbeats 4000000 in
theorem QdV {w:World}{bp:Nat}{q:Pz}{lf:Lf}(hA:ye [] w.heap bp q) (hq:PzQ q) (hB:Q0 w.heap q.bl 4 (lf.map Value.bool)) (hl:lf.length=q.n) (rk:Int) :
  QL prog 264 [.pointer (some ⟨bp,0,none⟩),.int .i64 rk] w λr w'=>Step [] w w'∧RmO w.heap.size w' r rk 2 (lost q.a q.unc lf):=by
 have hn:=hq.n
 have hst1:=hq.ok.st1
 have hel:=hq.ok.ed_le
 refine QL.of_W func264 rfl ntmps264 results264 (by simp) ?_
 refine Qc<|Qe<|Qc<|Qe<|Qf<|Qc<|Qb<|x (QI rfl)<|x (Qa rfl)<|x (Qa rfl)<|x (Qd hA.B rfl rfl)<|x (Qs hA.a.ed rfl)<|Qb<|xe ?_
 refine Qg<|QC (α:=Nat×Value) [(5,5),(7,8),(15,72)] (λz=>[(5,z.2),(15,.int .i64 z.1)]) (λz w'=>z.1≤q.a.ed.length∧Step [] w w'∧RmO w.heap.size w' z.2 rk 2 ((q.a.ed.take z.1).foldl (JB q.unc lf) [])) (λz=>q.a.ed.length - z.1) (by rfl) (0,nS) ⟨rfl,rfl,trivial⟩ ⟨Nat.zero_le _,Step.refl _ _,QO _ _ _ _⟩ ?_
 rintro ⟨k,vo⟩ g w1 ⟨hk,hs1,hO1⟩
 simp only[] at hk hO1
 have hol:=(Uq (a:=q.a) (ul:=q.unc) (lf:=lf) (q.a.ed.take k) [] (λe he=>List.mem_of_mem_take he) (λp hp=>by cases hp)).2
 rw[List.length_take] at hol
 refine Qc<|x (QB rfl rfl)<|xe ?_
 refine Qf<|QH rfl (λh16=>?_) (λh16=>?_)
 ·refine Qz ?_
  have hke:q.a.ed.length≤k:=by have h17:¬(k:Int)<(q.a.ed.length:Int):=h16;omega
  rw[List.take_of_length_le hke] at hO1
  refine Qc<|Qb<|Qe ?_
  exact Qm ⟨[_],⟨rfl,trivial⟩,hs1,hO1⟩
 refine Qi ?_
 have hlt:k<q.a.ed.length:=by have h17:(k:Int)<(q.a.ed.length:Int):=h16;omega
 have hek:=hq.ok.ed _ (List.getElem_mem hlt)
 have htk:=Qem (ul:=q.unc) (lf:=lf) hlt
 refine Q8 ((q.a.ed.take k).foldl (JB q.unc lf) []) λout hout=>?_
 rw[hout] at hO1 htk hol
 refine Q8 (q.a.ed[k]'hlt) λe he=>?_
 rw[he] at hek htk
 simp only[List.length_nil] at hol
 have hfn:e.1=(e.1.toNat:Int):=by omega
 have htn:e.2.2=(e.2.2.toNat:Int):=by omega
 have hlf:=Vm (l:=lf) (s:=e.1) (by omega)
 have hlt2:=Vm (l:=lf) (s:=e.2.2) (by omega)
 have hA1:=hA.ext hs1
 refine Qf<|Qg<|Qc<|xie hA1.a.ed rfl rfl hlt λa17 h17=>?_
 rw[he] at h17
 refine x (QJ h17 rfl rfl)<|xl rfl<|Qu (us:=[.int .i64 0,.int .i64 0,.int .i64 0]) rfl λb7 w2 hs2 hb7 hB7=>xl rfl<|Qo (us:=Qy e) hB7 rfl rfl rfl rfl ⟨rfl,rfl,rfl,trivial⟩ λw3 hs3 hB7'=>xe ?_
 have hs13:Step [] w1 w3:=hs2.then1 hs3 hb7
 have hs03:=hs1.trans hs13
 have hA3:=hA.ext hs03
 have hB3:=hB.ext hs03
 have hO3:=Qq hO1 hs13
 refine Qf<|QV (α:=Bool) [(19,47)] (λz=>[(47,.bool z)]) (λz w'=>Step [] w3 w'∧(z=true↔(lft lf e.1=false∨lft lf e.2.2=true∨e.2.1∉q.unc))) (by rfl) ?_ ?_
 ·refine QU (Step [] w3) [(0,true),(1,true),(2,true),(3,true),(4,true),(5,true),(6,true),(7,true),(8,true),(9,true),(10,true),(11,true),(12,true),(13,true),(14,true),(15,true),(16,true),(17,true),(18,true),(19,true),(20,true),(21,true),(22,true),(23,true),(24,true),(25,true),(26,false),(27,true),(28,true)] mixed (by rfl) (by kernel_rfl) (Step.drew _ _) ?_
  refine p (λ_=>Qn)<|p (λ_=>QI rfl)<|p (λ_=>Qa rfl)<|pq (λ_ hc=>Qd (hA3.B.ext hc) rfl rfl)<|p (λ_=>Qa rfl)<|pq (λ_ hc=>Qd (hB7'.ext hc) rfl rfl) <|
   p (λ_=>Zf (i:=e.1.toNat) rfl (congrArg (Value.int .i64) hfn) (by omega))<|pq (v:=.bool (lft lf e.1)) (λ_ hc=>(Xz (i:=e.1.toNat) (hB3.ext hc) rfl (by omega)).trans (by rw[hlf]))<|pB (λ_=>Zp rfl) (λh27=>?_) (λh27=>?_)
  ·refine p (λ_=>Qn)<|ps<|ps<|ps<|ps<|ps<|ps<|ps<|ps<|p (λ_=>Ql rfl)<|p (λ_=>Qn)<|ps<|ps<|ps<|ps<|ps<|ps<|ps<|ps<|p (λ_=>Ql rfl)<|pe ?_
   exact ⟨_,⟨rfl,trivial⟩,Step.drew _ _,by simp at h27;simp[h27]⟩
  refine p (λ_=>Qn)<|p (λ_=>Qn)<|p (λ_=>QI rfl)<|p (λ_=>Qa rfl)<|pq (λ_ hc=>Qd (hA3.B.ext hc) rfl rfl)<|p (λ_=>Qa rfl)<|pq (λ_ hc=>Qd (hB7'.ext hc) rfl rfl) <|
   p (λ_=>Zf (i:=e.2.2.toNat) rfl (congrArg (Value.int .i64) htn) (by omega))<|?_
  refine pqB (b:=lft lf e.2.2) (λ_ hc=>(Xz (i:=e.2.2.toNat) (hB3.ext hc) rfl (by omega)).trans (by rw[hlt2])) (λh36=>?_) (λh36=>?_)
  ·refine p (λ_=>Ql rfl)<|p (λ_=>Qn)<|ps<|ps<|ps<|ps<|ps<|ps<|ps<|ps<|p (λ_=>Ql rfl)<|pe ?_
   exact ⟨_,⟨rfl,trivial⟩,Step.drew _ _,by simp[h36]⟩
  refine p (λ_=>Ql rfl)<|p (λ_=>Qn)<|p (λ_=>Qn)<|p (λ_=>QI rfl)<|p (λ_=>Qa rfl)<|pq (λ_ hc=>Qd (hA3.B.ext hc) rfl rfl) <|
   p (λ_=>Qa rfl)<|pq (λ_ hc=>Qd (hB7'.ext hc) rfl rfl)<|pk<|xf<|(ZG (hA3.u.ext (Step.drew _ _)) e.2.1).mono ?_
  rintro r4 w4 ⟨rfl,rfl⟩
  refine ⟨Step.drew _ _,?_⟩
  refine p (λ_=>Uh rfl)<|p (λ_=>Ql rfl)<|pe ?_
  exact ⟨_,⟨rfl,trivial⟩,Step.drew _ _,by simp at h27;simp[h27,h36]⟩
 rintro z g w4 ⟨hs4,hz⟩
 have hs04:=hs03.trans hs4
 have hO4:=Qq hO3 hs4
 have hB7:=hB7'.ext hs4
 refine Q2 rfl (λh47=>?_) (λh47=>?_)
 ·refine Qz ?_
  have e1:JB q.unc lf out e=out:=by unfold JB;rw[if_pos (hz.1 h47)]
  rw[e1] at htk
  refine Qw<|x (Qx rfl rfl ⟨by omega,by omega⟩)<|Qb<|xe ?_
  exact ⟨(k+1,vo),by simp only[];omega,⟨rfl,rfl,trivial⟩,hlt,hs04,by simp only[];rw[htk];exact hO4⟩
 refine Qi ?_
 have hzn:¬(lft lf e.1=false∨lft lf e.2.2=true∨e.2.1∉q.unc):=λh=>by rw[hz.2 h] at h47;cases h47
 have hArr:Zo [] w4.heap vo out.length 4 (out.flatMap (yy rk 2)):=QS hO4 (by omega) (by simp)
 refine Qf<|Qc<|Qb<|x (Qs hArr rfl)<|Qe<|QV (α:=Bool) [(50,62)] (λz=>[(62,.bool z)]) (λz w'=>Step [] w4 w'∧(z=true↔out.getLast?.map (·.1)=some e.1)) (by rfl) ?_ ?_
 ·refine QU (Step [] w4) [(0,true),(1,true),(2,true),(3,true),(4,true),(5,true),(6,true),(7,true),(8,true),(9,true),(10,true),(11,true),(12,true)] mixed (by rfl) (by kernel_rfl) (Step.drew _ _) ?_
  refine p (λ_=>Qn)<|pb (λ_=>ZF rfl rfl) (λh51=>?_) (λh51=>?_)
  ·have hpos:0<out.length:=by have h52:(0:Int)<(out.length:Int):=h51;omega
   have hlast:out.getLast?=some (out[out.length - 1]'(by omega)):=by rw[List.getLast?_eq_getElem?,List.getElem?_eq_getElem]
   refine Q8 (out[out.length - 1]'(by omega)) λy hy=>?_
   rw[hy] at hlast
   refine p (λ_=>Qn)<|p (λ_=>Qn)<|p (λ_=>Qn)<|p (λ_=>Jl rfl rfl ⟨by omega,by omega⟩)<|Go.Lg.pig (g:=yy rk 2) (i:=out.length - 1) rfl (QaW rk 2) hArr rfl (congrArg (Value.int .i64) (show (out.length:Int) - 1=((out.length - 1:Nat):Int) by omega)) (by omega) λa56 h56=>?_
   rw[hy] at h56
   refine p (λ_=>Q7 rfl)<|pq (λ_ hc=>Qv ((h56.fld 0 (.int .i64 y.1) rfl).ext hc) rfl)<|p (λ_=>Qa rfl)<|pq (λ_ hc=>Qd (hB7.ext hc) rfl rfl) <|
    p (λ_=>Q5 rfl rfl)<|p (λ_=>Ql rfl)<|pe ?_
   exact ⟨_,⟨rfl,trivial⟩,Step.drew _ _,by rw[hlast];simp⟩
  have h0:out=[]:=List.eq_nil_of_length_eq_zero (by have h52:¬(0:Int)<(out.length:Int):=h51;omega)
  refine p (λ_=>Qn)<|ps<|ps<|ps<|ps<|ps<|ps<|ps<|ps<|ps<|p (λ_=>Ql rfl)<|pe ?_
  exact ⟨_,⟨rfl,trivial⟩,Step.drew _ _,by simp[h0]⟩
 rintro z2 g w5 ⟨hs5,hz2⟩
 have hs05:=hs04.trans hs5
 have hO5:=Qq hO4 hs5
 have hB7:=hB7.ext hs5
 refine Q2 rfl (λh62=>?_) (λh62=>?_)
 ·refine Qz ?_
  have e1:JB q.unc lf out e=out:=by unfold JB;rw[if_neg hzn,if_pos (hz2.1 h62)]
  rw[e1] at htk
  refine Qw<|x (Qx rfl rfl ⟨by omega,by omega⟩)<|Qb<|xe ?_
  exact ⟨(k+1,vo),by simp only[];omega,⟨rfl,rfl,trivial⟩,hlt,hs05,by simp only[];rw[htk];exact hO5⟩
 refine Qi ?_
 have hzn2:¬out.getLast?.map (·.1)=some e.1:=λh=>by rw[hz2.2 h] at h62;cases h62
 have e1:JB q.unc lf out e=out++[(e.1,e.2.1)]:=by unfold JB;rw[if_neg hzn,if_neg hzn2]
 rw[e1] at htk
 refine Qw<|Qb<|x (Qa rfl)<|x (Qd hB7 rfl rfl)<|Qb<|x (Qa rfl)<|x (Qd hB7 rfl rfl)<|x (QE ⟨rfl,rfl,rfl,rfl,trivial⟩) <|
  xl rfl<|QD (us:=[yy rk 2 (e.1,e.2.1)]) rfl rfl (by decide) (by simp) ⟨rfl,rfl,trivial⟩ λb70 w6 hs6 hb70 hB70 =>
  xl rfl<|QY (m:=1) (news:=yy rk 2 (e.1,e.2.1)) (Qq hO5 hs6) rfl rfl rfl (hB70.at (L:=[]) (by simp)) (by simp[Value.oneCell']) (by omega) (by have:=hs05.size;have:=hs6.size;omega) λvo2 w7 hO7 hs7 hn7=>Qe<|Qw<|x (Qx rfl rfl ⟨by omega,by omega⟩)<|Qb<|xe ?_
 exact ⟨(k+1,vo2),by simp only[];omega,⟨rfl,rfl,trivial⟩,hlt,(hs05.trans hs6).then hs7 (λb hb=>.inr (Qk hO5 b hb).1),by simp only[];rw[htk];exact RmO.snoc hO7⟩
theorem qW (lf:Lf) (d:Int):∀(l:LI) (i:Nat),Kl lf i (l++[d])=Kl lf i l++if lf.getD (i+l.length) false=true∧d<0 then [((i+l.length:Nat):Int)] else []
 | [],i=>by
  simp only[List.nil_append,Kl,List.length_nil,Nat.add_zero]
 | a::l,i=>by
  have ih:=qW lf d l (i+1)
  rw[show i+1+l.length=i+(a::l).length by simp;omega] at ih
  simp only[List.cons_append,Kl,ih]
  by_cases h:lf.getD i false=true∧a<0
  ·rw[if_pos h,if_pos h,List.cons_append]
  ·rw[if_neg h,if_neg h]
abbrev blP (l:LI):List (Int×Int):=l.map λs=>(s,-1)
set_option maxHeartbeats 4000000 in
theorem yD {w:World}{bp:Nat}{q:Pz}{lf:Lf}(hA:ye [] w.heap bp q) (hq:PzQ q) (hB:Q0 w.heap q.bl 4 (lf.map Value.bool)) (hl:lf.length=q.n) (rk:Int) :
  QL prog 265 [.pointer (some ⟨bp,0,none⟩),.int .i64 rk] w λr w'=>Step [] w w'∧RmO w.heap.size w' r rk 3 (blP (Kl lf 0 (dsts q.a lf)))∧(Kl lf 0 (dsts q.a lf)).length≤q.n:=by
 have hn:=hq.n
 have hst1:=hq.ok.st1
 refine QL.of_W func265 rfl ntmps265 results265 (by simp) ?_
 refine Qc<|Qe<|Qc<|Qe<|Qf<|Qc<|Qb<|xl rfl<|xf<|(K1 hA hq hB hl).mono ?_
 rintro r1 w1 ⟨hs1,b,rfl,hb,hD1,hDl⟩
 refine Q8 (dsts q.a lf) λD hD=>?_
 rw[hD] at hD1 hDl ⊢
 have hArr:QM [] w1.heap (.slice (some ⟨b,0,none⟩) q.n q.n) D:=by
  have h:=hD1.arr (L:=[]) (by simp) (n:=q.n) (cap:=q.n) (sz:=1) (by simp[hDl]) (by omega) (Nat.le_refl _)
  unfold QM;rw[hDl];exact h
 refine x (Qs hArr rfl)<|Qb<|xe ?_
 refine Qg<|QC (α:=Nat×Value) [(5,7),(11,33)] (λz=>[(5,z.2),(11,.int .i64 z.1)]) (λz w'=>z.1≤D.length∧Step [] w1 w'∧RmO w1.heap.size w' z.2 rk 3 (blP (Kl lf 0 (D.take z.1)))) (λz=>D.length - z.1) (by rfl) (0,nS) ⟨rfl,rfl,trivial⟩ ⟨Nat.zero_le _,Step.refl _ _,QO _ _ _ _⟩ ?_
 rintro ⟨k,vo⟩ g w2 ⟨hk,hs2,hO2⟩
 simp only[] at hk hO2
 have hbl:=(K6 lf (D.take k) 0).2
 rw[List.length_take] at hbl
 have hs02:=hs1.trans hs2
 refine Qc<|x (QB rfl rfl)<|xe ?_
 refine Qf<|QH rfl (λh12=>?_) (λh12=>?_)
 ·refine Qz ?_
  have hke:D.length≤k:=by have h13:¬(k:Int)<(D.length:Int):=h12;omega
  rw[List.take_of_length_le hke] at hO2
  refine Qc<|Qb<|Qe ?_
  exact Qm ⟨[_],⟨rfl,trivial⟩,hs02,Zi hO2 hs1.size,by have:=(K6 lf D 0).2;omega⟩
 refine Qi ?_
 have hlt:k<D.length:=by have h13:(k:Int)<(D.length:Int):=h12;omega
 have htk:D.take (k+1)=D.take k++[D[k]'hlt]:=List.take_succ_eq_append_getElem hlt
 have hsn:=qW lf (D[k]'hlt) (D.take k) 0
 rw[←htk,List.length_take,Nat.zero_add,Nat.min_eq_left (by omega)] at hsn
 refine Q8 (D[k]'hlt) λd hd=>?_
 rw[hd] at hsn
 refine Q8 (Kl lf 0 (D.take k)) λout hout=>?_
 rw[hout] at hsn hO2 hbl
 have hkl:k<lf.length:=by omega
 have hlf:lf[k]'hkl=lf.getD k false:=by simp[List.getD,hkl]
 have hA2:=hA.ext hs02
 refine Qf<|Qg<|Qc<|Qb<|xii (i:=k) (hArr.ext hs2) rfl rfl hlt λa14 h14=>?_
 rw[hd] at h14
 refine x (Qv h14 rfl)<|x Qh<|Qe<|QV (α:=Bool) [(16,26)] (λz=>[(26,.bool z)]) (λz w'=>w'=w2∧(z=true↔lf.getD k false=true∧d<0)) (by rfl) ?_ ?_
 ·refine Qw<|Qb<|x (QI rfl)<|x (Qa rfl)<|x (Qd hA2.B rfl rfl)<|Qb<|x (Zf (i:=k) rfl rfl (by omega))<|xB (b:=lf.getD k false) ((Xz (i:=k) (hB.ext hs02) rfl hkl).trans (by rw[hlf])) (λh22=>?_) (λh22=>?_)
  ·refine Qb<|Qb<|x (QB rfl rfl)<|x (Ql rfl)<|xe ?_
   exact ⟨_,⟨rfl,trivial⟩,rfl,by rw[h22];simp⟩
  refine Qb<|xs rfl<|xs rfl<|x (Ql rfl)<|xe ?_
  exact ⟨_,⟨rfl,trivial⟩,rfl,by rw[h22];simp⟩
 rintro z g w3 ⟨rfl,hz⟩
 refine Q2 rfl (λh26=>?_) (λh26=>?_)
 ·rw[if_pos (hz.1 h26)] at hsn
  refine Qw<|Qb<|Qb<|Qb<|x (QE ⟨rfl,rfl,rfl,rfl,trivial⟩)<|xl rfl<|QD (us:=[yy rk 3 ((k:Int),-1)]) rfl rfl (by decide) (by simp) ⟨rfl,rfl,trivial⟩ λb31 w4 hs4 hb31 hB31 =>
   xl rfl<|QY (m:=1) (news:=yy rk 3 ((k:Int),-1)) (Qq hO2 hs4) rfl rfl rfl (hB31.at (L:=[]) (by simp)) (by simp[Value.oneCell']) (by rw[List.length_map];omega) (by have:=hs2.size;have:=hs4.size;omega) λvo2 w5 hO5 hs5 hn5=>Qe<|Qw<|x (Qx rfl rfl ⟨by omega,by omega⟩)<|Qb<|xe ?_
  refine ⟨(k+1,vo2),by simp only[];omega,⟨rfl,rfl,trivial⟩,hlt,(hs2.trans hs4).then hs5 (λb hb=>.inr (Qk hO2 b hb).1),?_⟩
  simp only[]
  rw[hsn,show blP (out++[(k:Int)])=blP out++[((k:Int),-1)] by simp]
  exact RmO.snoc hO5
 ·rw[if_neg (λh=>by rw[hz.2 h] at h26;cases h26),List.append_nil] at hsn
  refine Qi<|Qw<|x (Qx rfl rfl ⟨by omega,by omega⟩)<|Qb<|xe ?_
  exact ⟨(k+1,vo),by simp only[];omega,⟨rfl,rfl,trivial⟩,hlt,hs2,by simp only[];rw[hsn];exact hO2⟩
theorem QdU {w:World}{bp:Nat}{q:Pz}{lf:Lf}(hA:ye [] w.heap bp q) (hq:PzQ q) (hB:Q0 w.heap q.bl 4 (lf.map Value.bool)) (hl:lf.length=q.n) (rk:Int) :
  QL prog 214 [.pointer (some ⟨bp,0,none⟩),.int .i64 rk,.bool true] w λr w'=>Step [] w w'∧∃rs l,RmO w.heap.size w' r rk rs l∧l.map (·.1)=nxs q.a q.unc lf∧l.length≤1000000:=by
 have hll:=(zF q.a q.unc lf).2
 have hel:=hq.ok.ed_le
 have hn:=hq.n
 have hst1:=hq.ok.st1
 have hnx:nxs q.a q.unc lf=if (lost q.a q.unc lf).length≠0 then (lost q.a q.unc lf).map (·.1) else Kl lf 0 (dsts q.a lf):=rfl
 refine QL.of_W func214 rfl ntmps214 results214 (by simp) ?_
 refine Qc<|Qe<|Qf<|Qc<|Qb<|Qb<|xl rfl<|xf<|(QdV hA hq hB hl rk).mono ?_
 rintro r1 w1 ⟨hs1,hO1⟩
 refine Q8 (lost q.a q.unc lf) λL hL=>?_
 rw[hL] at hO1 hnx hll
 refine Qe<|QV (α:=Bool) [(11,17)] (λz=>[(17,.bool z)]) (λz w'=>w'=w1∧(z=true↔L.length≠0)) (by rfl) ?_ ?_
 ·refine Qw<|Qb<|x (Qs (L:=[]) (QS hO1 (by omega) (by simp)) rfl)<|xb (ZF rfl rfl) (λh13=>?_) (λh13=>?_)
  ·refine Qb<|xs rfl<|xs rfl<|x (Ql rfl)<|xe ?_
   exact ⟨_,⟨rfl,trivial⟩,rfl,by have h14:(0:Int)<(L.length:Int):=h13;simp;intro e;subst e;simp at h14⟩
  refine Qb<|Qb<|x (Zp rfl)<|x (Ql rfl)<|xe ?_
  have h14:¬(0:Int)<(L.length:Int):=h13
  have h15:L.length=0:=by omega
  exact ⟨_,⟨rfl,trivial⟩,rfl,by rw[h15];simp⟩
 rintro z g w2 ⟨rfl,hz⟩
 refine Q2 rfl (λh17=>?_) (λh17=>?_)
 ·rw[if_pos (hz.1 h17)] at hnx
  refine Qc<|Qb<|Qe ?_
  exact Qm ⟨[_],⟨rfl,trivial⟩,hs1,2,L,hO1,hnx.symm,by omega⟩
 rw[if_neg (λh=>by rw[hz.2 h] at h17;cases h17)] at hnx
 refine Qi<|Qc<|Qb<|Qb<|xl rfl<|xf<|(yD (hA.ext hs1) hq (hB.ext hs1) hl rk).mono ?_
 rintro r3 w3 ⟨hs3,hO3,hbl⟩
 refine Qe<|Qm ⟨[_],⟨rfl,trivial⟩,hs1.trans hs3,3,_,Zi hO3 hs1.size,?_,?_⟩
 ·rw[hnx,List.map_map];exact List.map_id _
 ·rw[List.length_map];omega
structure JM (base:Nat) (w:World) (n:Nat) (f:Nat→Value) (g:Nat→List Ed):Prop where
 own:∀i,i<n→Z0 144 base w (f i) (g i)
 dj:∀i j,i<n→j<n→i≠j→Dj (f i) (f j)
theorem JM.app {base n i:Nat}{w w':World}{f:Nat→Value}{g:Nat→List Ed}{v':Value}{l:List Ed}(h:JM base w n f g) (hi:i<n) (ho:Z0 144 base w' v' l) (hs:Step (ob (f i)) w w')
  (hn:∀b∈ob v',b∈ob (f i)∨w.heap.size≤b):JM base w' n (J7 f i v') (J7 g i l):=by
 refine ⟨λj hj=>?_,λj k hj hk hjk=>?_⟩
 ·by_cases e:j=i
  ·subst e;rw[ZP,ZP];exact ho
  ·rw[Yb _ _ e,Yb _ _ e]
   exact Qj (h.own j hj) hs (h.dj j i hj hi e)
 ·have key:∀j,j<n→j≠i→Dj v' (f j):=λj hj e b hb hbj=>by
   rcases hn b hb with h1 | h1
   ·exact h.dj i j hi hj (Ne.symm e) b h1 hbj
   ·have:=QQ (h.own j hj) b hbj;omega
  by_cases e1:j=i
  ·subst e1
   rw[ZP,Yb _ _ (Ne.symm hjk)]
   exact key k hk (Ne.symm hjk)
  ·rw[Yb _ _ e1]
   by_cases e2:k=i
   ·subst e2;rw[ZP];exact (key j hj e1).symm
   ·rw[Yb _ _ e2];exact h.dj j k hj hk hjk
theorem JM.step {base n:Nat}{X:LN}{w w':World}{f:Nat→Value}{g:Nat→List Ed}(h:JM base w n f g) (hs:Step X w w') (hX:∀i,i<n→∀b∈ob (f i),b∉X):JM base w' n f g :=
 ⟨λi hi=>Qj (h.own i hi) hs (hX i hi),h.dj⟩
theorem JM.ext {base n:Nat}{w w':World}{f:Nat→Value}{g:Nat→List Ed}(h:JM base w n f g) (hs:Step [] w w'):JM base w' n f g:=h.step hs (λ_ _ _ _=>by simp)
def U3 (es:List Ed) (s:Nat):List Ed:=ZH es (s:Int)
theorem Qca (es:List Ed) (e:Ed) (h0:0≤e.1):J7 (U3 es) e.1.toNat (U3 es e.1.toNat++[e])=U3 (es++[e]):=by
 funext s
 unfold U3 ZH
 rw[List.filter_append]
 by_cases h:s=e.1.toNat
 ·subst h
  rw[ZP]
  have:e.1=(e.1.toNat:Int):=by omega
  simp[←this]
 ·rw[Yb _ _ h]
  have:¬e.1=(s:Int):=by omega
  simp[this]
theorem yx (es:List Ed) (s:Nat):(U3 es s).length≤es.length:=Jy es _
def QaF (num:LI) (m:List (Int×Value)):Prop:=∀s:Nat,s<num.length→mget m (s:Int)=if cget num s<0 then none else some (.int .i64 (cget num s))
theorem JT (l:LI) (k:Int):Y7 l k=cget l k.toNat:=rfl
structure Jr (b4 mb:Nat) (r2:Value) (wS:World) (c:Cs) (m:List (Int×Value)) (vo vk ve:Value) (w:World):Prop where
 st:Step [b4,mb] wS w
 B4:Q0 w.heap b4 58 [r2,.int .i64 0,vk,ve]
 M:ZZ Kd w.heap mb m
 nm:QaF c.num m
 o:Qt 3 wS.heap.size w vo c.ord
 k:Qt 3 wS.heap.size w vk c.mk'
 e:Z0 144 wS.heap.size w ve c.ed
 d1:Dj vo vk
 d2:Dj vo ve
 d3:Dj vk ve
section
variable {b4 mb:Nat} {r2:Value} {wS:World} {c:Cs} {m:List (Int×Value)} {vo vk ve:Value} {w w' w'':World}
theorem Jr.ext (h:Jr b4 mb r2 wS c m vo vk ve w) (hs:Step [] w w'):Jr b4 mb r2 wS c m vo vk ve w' :=
 ⟨h.st.trans hs,h.B4.ext hs,h.M.ext hs,h.nm,Qq h.o hs,Qq h.k hs,Qq h.e hs,h.d1,h.d2,h.d3⟩
theorem Jr.setK (h:Jr b4 mb r2 wS c m vo vk ve w) (l4:b4<wS.heap.size) (lm:mb<wS.heap.size) (ne:mb≠b4) {vk':Value}{l:LI}(hs:Step (ob vk) w w') (hk':Qt 3 wS.heap.size w' vk' l)
  (hn:∀b∈ob vk',b∈ob vk∨w.heap.size≤b) (hs2:Step [b4] w' w'') (hB:Q0 w''.heap b4 58 [r2,.int .i64 0,vk',ve]):Jr b4 mb r2 wS ⟨c.ord,c.num,l,c.ed⟩ m vo vk' ve w'' :=
 ⟨(h.st.then hs (λb hb=>.inr (Qk h.k b hb).1)).then hs2 (λb hb=>.inl (by simp at hb;simp[hb])),hB,(h.M.step hs (QN h.k lm)).step hs2 (by simpa using ne),h.nm,
  Qj (Qj h.o hs h.d1) hs2 (λb hb=>by have:=(Qk h.o b hb).1;simp;omega),Qj hk' hs2 (λb hb=>by have:=(Qk hk' b hb).1;simp;omega),
  Qj (Qj h.e hs h.d3.symm) hs2 (λb hb=>by have:=(Qk h.e b hb).1;simp;omega),h.d1.grow hn (QQ h.o),h.d2,(h.d3.symm.grow hn (QQ h.e)).symm⟩
theorem Jr.setE (h:Jr b4 mb r2 wS c m vo vk ve w) (l4:b4<wS.heap.size) (lm:mb<wS.heap.size) (ne:mb≠b4) {ve':Value}{l:List Ed}(hs:Step (ob ve) w w') (hk':Z0 144 wS.heap.size w' ve' l)
  (hn:∀b∈ob ve',b∈ob ve∨w.heap.size≤b) (hs2:Step [b4] w' w'') (hB:Q0 w''.heap b4 58 [r2,.int .i64 0,vk,ve']):Jr b4 mb r2 wS ⟨c.ord,c.num,c.mk',l⟩ m vo vk ve' w'' :=
 ⟨(h.st.then hs (λb hb=>.inr (Qk h.e b hb).1)).then hs2 (λb hb=>.inl (by simp at hb;simp[hb])),hB,(h.M.step hs (QN h.e lm)).step hs2 (by simpa using ne),h.nm,
  Qj (Qj h.o hs h.d2) hs2 (λb hb=>by have:=(Qk h.o b hb).1;simp;omega),Qj (Qj h.k hs h.d3) hs2 (λb hb=>by have:=(Qk h.k b hb).1;simp;omega),
  Qj hk' hs2 (λb hb=>by have:=(Qk hk' b hb).1;simp;omega),h.d1,h.d2.grow hn (QQ h.o),h.d3.grow hn (QQ h.k)⟩
theorem Jr.setN (h:Jr b4 mb r2 wS c m vo vk ve w) (lm:mb<wS.heap.size) (ne:mb≠b4) {l:LI}{m':List (Int×Value)}(hs2:Step [mb] w w') (hM:ZZ Kd w'.heap mb m') (hm:QaF l m'):Jr b4 mb r2 wS ⟨c.ord,l,c.mk',c.ed⟩ m' vo vk ve w' :=
 ⟨h.st.then hs2 (λb hb=>.inl (by simp at hb;simp[hb])),h.B4.step hs2 (by simpa using ne.symm),hM,hm,Qj h.o hs2 (λb hb=>by have:=(Qk h.o b hb).1;simp;omega),
  Qj h.k hs2 (λb hb=>by have:=(Qk h.k b hb).1;simp;omega),Qj h.e hs2 (λb hb=>by have:=(Qk h.e b hb).1;simp;omega),h.d1,h.d2,h.d3⟩
theorem Jr.setO (h:Jr b4 mb r2 wS c m vo vk ve w) (l4:b4<wS.heap.size) (lm:mb<wS.heap.size) {vo':Value}{l:LI}(hs:Step (ob vo) w w') (hk':Qt 3 wS.heap.size w' vo' l)
  (hn:∀b∈ob vo',b∈ob vo∨w.heap.size≤b):Jr b4 mb r2 wS ⟨l,c.num,c.mk',c.ed⟩ m vo' vk ve w' :=
 ⟨h.st.then hs (λb hb=>.inr (Qk h.o b hb).1),h.B4.step hs (QN h.o l4),h.M.step hs (QN h.o lm),h.nm,hk',Qj h.k hs h.d1.symm,Qj h.e hs h.d2.symm,
  (h.d1.symm.grow hn (QQ h.k)).symm,(h.d2.symm.grow hn (QQ h.e)).symm,h.d3⟩
end
theorem QaF.set {num:LI}{m:List (Int×Value)}(h:QaF num m) {k:Nat}(hk:k<num.length) {v:Int}(hv:0≤v):QaF (num.set k v) (mput m (k:Int) (.int .i64 v)):=by
 intro s hs
 rw[List.length_set] at hs
 rw[X0]
 by_cases e:s=k
 ·subst e
  have:cget (num.set s v) s=v:=by unfold cget;simp[List.getD,hk]
  rw[if_pos rfl,this,if_neg (by omega)]
 ·rw[if_neg (by omega)]
  have:cget (num.set k v) s=cget num s:=by unfold cget;simp[List.getD,List.getElem?_set_ne (Ne.symm e)]
  rw[this];exact h s hs
theorem yo (i:Nat) (c:Cs) (m:LI) (e:Ed):Zt i ⟨c.ord,c.num,m,c.ed⟩ e=⟨(Zt i c e).ord,(Zt i c e).num,m,(Zt i c e).ed⟩∧(Zt i c e).mk'=c.mk':=by
 unfold Zt
 split <;> exact ⟨rfl,rfl⟩
theorem zQ (i:Nat):∀(l:List Ed) (c:Cs) (m:LI),l.foldl (Zt i) ⟨c.ord,c.num,m,c.ed⟩=⟨(l.foldl (Zt i) c).ord,(l.foldl (Zt i) c).num,m,(l.foldl (Zt i) c).ed⟩∧(l.foldl (Zt i) c).mk'=c.mk'
 | [],c,m=>⟨rfl,rfl⟩
 | e::l,c,m=>by
  have h1:=yo i c m e
  have h2:=zQ i l (Zt i c e) m
  rw[List.foldl_cons,List.foldl_cons,h1.1,h2.1]
  exact ⟨rfl,h2.2.trans h1.2⟩
theorem qp (i:Nat) (c:Cs) (e:Ed):∃r,(Zt i c e).ord=c.ord++r:=by
 unfold Zt;split
 ·exact ⟨_,rfl⟩
 ·exact ⟨[],by simp⟩
theorem yW (i:Nat):∀(l:List Ed) (c:Cs),∃r,(l.foldl (Zt i) c).ord=c.ord++r
 | [],c=>⟨[],by simp⟩
 | e::l,c=>by
  obtain ⟨r1,h1⟩:=qp i c e
  obtain ⟨r2,h2⟩:=yW i l (Zt i c e)
  exact ⟨r1++r2,by rw[List.foldl_cons,h2,h1,List.append_assoc]⟩
theorem Qcb {a:QT}{i:Nat}{c:Cs}(hi:i<c.ord.length):U4 a i c=Yh a i ((ZH a.ed (cget c.ord i)).foldl (Zt i) c):=by
 unfold U4
 rw[JT,Int.toNat_natCast]
 obtain ⟨r,hr⟩:=yW i (ZH a.ed (cget c.ord i)) c
 have hm:=(zQ i (ZH a.ed (cget c.ord i)) c c.mk').2
 unfold Yh
 have hg:Y7 ((ZH a.ed (cget c.ord i)).foldl (Zt i) c).ord (i:Int)=Y7 c.ord (i:Int):=by
  rw[JT,JT,hr]
  simp only[Int.toNat_natCast]
  exact UL hi
 rw[hg]
 split
 ·rw[(zQ i _ c _).1,hm]
 ·rfl
set_option maxHeartbeats 8000000 in
theorem Uk {w:World}{bp:Nat}{q:Pz}{lf:Lf}(hA:ye [] w.heap bp q) (hq:PzQ q) (hB:Q0 w.heap q.bl 4 (lf.map Value.bool)) (hl:lf.length=q.n) :
  QL prog 218 [.pointer (some ⟨bp,0,none⟩)] w λr w'=>Step [] w w'∧∃v o,r=.tuple #[v,o]∧Xo w.heap.size w'.heap v (Qdq q.a lf)∧o.oneCell'=true:=by
 have hn:=hq.n
 have hst1:=hq.ok.st1
 have hel:=hq.ok.ed_le
 have hml:=hq.ok.mr_le
 have hok:=Qb9 hq.ok lf
 have hsup:Qdq q.a lf=if q.a.st=0∨lft lf 0=false then ⟨q.a.al,0,[],[]⟩ else Jq (rstr q.a lf):=rfl
 refine Q8 (Qdq q.a lf) λSA hSA=>?_
 rw[hSA] at hsup ⊢
 refine QL.of_W func218 rfl ntmps218 results218 (by simp) ?_
 refine Qc<|xl rfl<|Qu (us:=[nS,.int .i64 0,nS,nS]) rfl λb2 w1 hs1 hb2 hB2=>Qe ?_
 have hz1:=hs1.size
 have hl2:=hB2.lt
 have hA1:=hA.ext hs1
 refine Qc<|Qb<|x (QI rfl)<|x (Qa rfl)<|x (Qa rfl)<|x (Qd hA1.B rfl rfl)<|xl rfl<|xf<|(ZR hA1.a.al).mono ?_
 rintro r2 w2 ⟨hs2,hr2⟩
 have hz2:=hs2.size
 have hr2I:=Qt.ints (L:=[]) hr2 hA.a.al.le (by simp)
 refine x (QE ⟨hr2I.cells,trivial⟩)<|xl rfl<|Qu (us:=[nS,.int .i64 0,nS,nS]) rfl λb4 w3 hs3 hb4 hB4 =>
  xl rfl<|Qo (us:=[r2,.int .i64 0,nS,nS]) hB4 rfl rfl rfl rfl ⟨hr2I.one,rfl,rfl,rfl,trivial⟩ λw4 hs4 hB4=>xe ?_
 have hs24:Step [] w2 w4:=hs3.then1 hs4 hb4
 have hs12:=hs1.trans hs2
 have hs04:=hs12.trans hs24
 have hl4:=hB4.lt
 have hz24:=hs24.size
 have hA4:=hA.ext hs04
 have hr2lt:∀b∈ob r2,b<w2.heap.size:=QQ hr2
 refine Qf<|QV (α:=Bool) [(22,36)] (λz=>[(36,.bool z)]) (λz w'=>w'=w4∧(z=true↔(q.a.st=0∨lft lf 0=false))) (by rfl) ?_ ?_
 ·refine Qw<|Qb<|x (QI rfl)<|x (Qa rfl)<|x (Qa rfl)<|x (Qd hA4.B rfl rfl)<|xb (Q5 rfl rfl) (λh27=>?_) (λh27=>?_)
  ·refine Qb<|xs rfl<|xs rfl<|xs rfl<|xs rfl<|xs rfl<|xs rfl<|xs rfl<|x (Ql rfl)<|xe ?_
   exact ⟨_,⟨rfl,trivial⟩,rfl,by simp[h27]⟩
  have hn0:(0:Int).toNat<lf.length:=by
   have:0<q.n:=by omega
   simp;omega
  have hlf:=Vm (l:=lf) (s:=0) hn0
  refine Qb<|Qb<|x (QI rfl)<|x (Qa rfl)<|x (Qd hA4.B rfl rfl)<|x (Zf (i:=0) rfl rfl (by simp at hn0;omega))<|x (v:=.bool (lft lf 0)) ((Xz (i:=0) (hB.ext hs04) rfl hn0).trans (by rw[←hlf];rfl))<|x (Zp rfl)<|x (Ql rfl)<|xe ?_
  exact ⟨_,⟨rfl,trivial⟩,rfl,by simp[h27]⟩
 rintro z g w4 ⟨rfl,hz⟩
 refine Q2 rfl (λh36=>?_) (λh36=>?_)
 ·rw[if_pos (hz.1 h36)] at hsup
  subst hsup
  refine Qc<|x (Qr hB4 rfl rfl)<|xl rfl<|Qo (us:=[r2,.int .i64 0,nS,nS]) ((hB2.ext hs2).ext hs24) rfl rfl rfl rfl ⟨hr2I.one,rfl,rfl,rfl,trivial⟩ λw6 hs6 hB2=>Qe<|Qm ⟨[.agg #[r2,.int .i64 0,nS,nS],nS],⟨⟨_,rfl,QA rfl (hB2.at (L:=[]) (by simp)).cells⟩,rfl,trivial⟩,hs04.then1 hs6 (by omega),_,_,rfl,?_,rfl⟩
  have hr6:=Qj (Qq hr2 hs24) hs6 (λb hb=>by have:=(Qk hr2 b hb).1;simp;omega)
  exact ⟨r2,_,_,rfl,λL' hL'=>⟨Qt.ints hr6 hA.a.al.le (λb hb=>by have:=hL' b hb;omega),Zo.nil _ _ _,Zo.nil _ _ _⟩⟩
 have hnz:¬(q.a.st=0∨lft lf 0=false):=λh=>by rw[hz.2 h] at h36;cases h36
 rw[if_neg hnz] at hsup
 have hpos:0<q.a.st:=by have:=hq.ok.st0;omega
 have hnt:(rstr q.a lf).st.toNat=q.n:=by show q.a.st.toNat=q.n;omega
 unfold Jq at hsup
 rw[if_neg (show ¬(rstr q.a lf).st=0 from λh=>hnz (.inl h)),hnt] at hsup
 simp only[] at hsup
 refine Qi<|Qc<|Qb<|x (QI rfl)<|x (Qa rfl)<|x (Qa rfl)<|x (Qd hA4.B rfl rfl)<|xl rfl<|Vj (n:=q.n) (congrArg (Value.int .i64) hn) (congrArg (Value.int .i64) hn) (by omega) λbE w6 hs6 hbE hBE=>Qe ?_
 rw[QdC] at hBE
 have hz6:=hs6.size
 have hlE:=hBE.lt
 have hs06:=hs04.trans hs6
 have hA6:=hA.ext hs06
 refine Qf<|Qc<|Qb<|x (QI rfl)<|x (Qa rfl)<|x (Qa rfl)<|x (Qd hA6.B rfl rfl)<|x (Qs hA6.a.ed rfl)<|Qb<|xe ?_
 refine Qg<|QC (α:=Nat×(Nat→Value)) [(7,7),(50,74)] (λz=>[(50,.int .i64 z.1)]) (λz w'=>z.1≤q.a.ed.length∧Step [bE] w6 w'∧Q0 w'.heap bE 56 ((List.range q.n).map z.2)∧JM w6.heap.size w' q.n z.2 (U3 ((q.a.ed.take z.1).filter λe=>lft lf e.2.2))) (λz=>q.a.ed.length - z.1) (by rfl) (0,λ_=>nS) ⟨rfl,trivial⟩
  ⟨Nat.zero_le _,Step.refl _ _,hBE,⟨λi _=>QO _ _ _ _,λi j _ _ _=>Dj.nil _⟩⟩ ?_
 rintro ⟨k,rv⟩ g w7 ⟨hk,hs7,hBE7,hR7⟩
 simp only[] at hk hBE7 hR7
 have hs67:Step [] w4 w7:=hs6.then1 hs7 hbE
 have hs07:=hs04.trans hs67
 have hz7:=hs7.size
 have hA7:=hA.ext hs07
 refine Qc<|x (QB rfl rfl)<|xe ?_
 refine Qf<|QH rfl (λh51=>?_) (λh51=>?_)
 ·refine Qz ?_
  have hke:q.a.ed.length≤k:=by have h52:¬(k:Int)<(q.a.ed.length:Int):=h51;omega
  rw[List.take_of_length_le hke] at hR7
  have hR7:JM w6.heap.size w7 q.n rv (U3 (rstr q.a lf).ed):=hR7
  have hrl:(rstr q.a lf).ed.length≤q.a.ed.length:=List.length_filter_le _ _
  refine Qc<|xl rfl<|Yk Kd λmb w8 hs8 hmb hM8=>xl rfl<|YR (k:=(0:Int)) hM8 rfl rfl λw9 hs9 hM9=>Qb<|Qe ?_
  have hs79:Step [] w7 w9:=hs8.then1 hs9 hmb
  have hz9:=hs79.size
  have hlm:=hM9.lt
  refine Qc<|xl rfl<|QD (us:=[[.int .i64 0]]) rfl rfl (by decide) (by simp) ⟨rfl,rfl,trivial⟩ λb77 w10 hs10 hb77 hB77=>Qe<|Qf<|Qc<|Qe ?_
  have hne:mb≠b4:=by omega
  have hl4S:b4<w9.heap.size:=by omega
  have hs09:=hs07.trans hs79
  have hup:∀b∈[b4,mb],w2.heap.size≤b:=λb hb=>by simp only[List.mem_cons,List.not_mem_nil,or_false] at hb;omega
  have hAS:ye [b4,mb] w9.heap bp q:=((hA.ext hs12).up (λb hb=>.inr (hup b hb))).ext (hs24.trans (hs67.trans hs79))
  have hBS:Q0 w9.heap q.bl 4 (lf.map Value.bool):=hB.ext hs09
  have hlw:=hB.lt
  have hRS:∀s,s<q.n→UX [b4,mb] w9.heap (rv s) (U3 (rstr q.a lf).ed s):=λs hs=>QS (Qq (hR7.own s hs) hs79) (by have:=yx (rstr q.a lf).ed s;omega) (λb hb hm=>by
   have h1:=(Qk (hR7.own s hs) b hb).1
   have h2:=QQ (hR7.own s hs) b hb
   simp only[List.mem_cons,List.not_mem_nil,or_false] at hm
   omega)
  have hBE9:=hBE7.ext hs79
  have hbn:∀b,b<w2.heap.size→b∉[b4,mb]:=λb hb hm=>by have:=hup b hm;omega
  have hEn:bE∉[b4,mb]:=by simp only[List.mem_cons,List.not_mem_nil,or_false];omega
  have hblw:q.bl<w2.heap.size:=by omega
  have hBl9:q.bl∉[b4,mb]:=hbn _ hblw
  have hB4S:Q0 w9.heap b4 58 [r2,.int .i64 0,nS,nS]:=((hB4.ext hs67)).ext hs79
  have hB2S:Q0 w9.heap b2 58 [nS,.int .i64 0,nS,nS]:=((hB2.ext hs2).ext hs24).ext (hs67.trans hs79)
  have hr2S:=Qq hr2 (hs24.trans (hs67.trans hs79))
  have ho10:Qt 3 w9.heap.size w10 (.slice (some ⟨b77,0,none⟩) 1 1) [0]:=hB77.own (n:=1) (sz:=1) rfl (by omega) (by omega)
  have hnm0:QaF (Jg (rstr q.a lf)).num (mput [] (0:Int) (.int .i64 0)):=by
   have h0:QaF (List.replicate q.n (-1)) ([]:List (Int×Value)):=λs hs=>by
    have hs':s<q.n:=by simpa using hs
    have:cget (List.replicate q.n (-1)) s=-1:=by unfold cget;simp[List.getD,hs']
    rw[this];rfl
   have h1:=h0.set (k:=0) (by simp;omega) (v:=0) (Int.le_refl _)
   unfold Jg
   rw[hnt]
   exact h1
  have hbound:∀e∈(rstr q.a lf).ed,0≤e.1∧e.1<q.a.st∧0≤e.2.2∧e.2.2<q.a.st:=λe he=>by have:=hok.ed e he;exact ⟨this.1,this.2.1,this.2.2.2.1,this.2.2.2.2⟩
  have hc0:Ks q.a.st (Jg (rstr q.a lf)):=QbM (a:=rstr q.a lf) hpos
  have hmr:(rstr q.a lf).mr=q.a.mr:=rfl
  refine Q8 (rstr q.a lf) λR hR=>?_
  rw[hR] at hsup hRS hnm0 hbound hc0 hmr hrl
  have hRal:R.al=q.a.al:=by rw[←hR];rfl
  have hnN:q.a.st.toNat=q.n:=by omega
  refine Qg<|QC (α:=Nat×Cs×List (Int×Value)×Value×Value×Value) [(9,10),(12,14),(78,142)] (λz=>[(9,z.2.2.2.1),(10,.int .i64 z.1)])
   (λz w'=>Jr b4 mb r2 w9 z.2.1 z.2.2.1 z.2.2.2.1 z.2.2.2.2.1 z.2.2.2.2.2 w'∧z.1≤z.2.1.ord.length∧Ks q.a.st z.2.1∧z.2.1.mk'.length≤z.1∧z.2.1.ed.length≤z.1*131072∧Jp R (q.n - z.1) z.1 z.2.1=Jp R q.n 0 (Jg R)) (λz=>q.n - z.1) (by rfl)
   (0,Jg R,mput [] (0:Int) (.int .i64 0),.slice (some ⟨b77,0,none⟩) 1 1,nS,nS) ⟨rfl,rfl,trivial⟩
   ⟨⟨hs10.any,hB4S.ext hs10,hM9.ext hs10,hnm0,ho10,QO _ _ _ _,QO _ _ _ _,Dj.nil' _,Dj.nil' _,Dj.nil' _⟩,Nat.zero_le _,hc0,Nat.zero_le _,Nat.zero_le _,rfl⟩ ?_
  rintro ⟨i,c,m,vo,vk,ve⟩ g w11 ⟨hI,hi,hc,hmk,hed,hcan⟩
  simp only[] at hI hi hc hmk hed hcan
  have hcle:=hc.le
  have hoA:=Qt.ints (L:=[]) hI.o (by omega) (by simp)
  refine Qf<|Qc<|Qb<|Qb<|x (Qs hoA rfl)<|x (QB rfl rfl)<|xe ?_
  refine QH rfl (λh81=>?_) (λh81=>?_)
  ·refine Qz ?_
   have hend:c=Jp R q.n 0 (Jg R):=by rw[←hcan,qT (by omega)]
   refine Qc<|Qb<|x (Qs hoA rfl)<|x (Qa rfl)<|xl rfl<|QG hI.B4 rfl rfl (by simp) rfl λw12 hs12 hB12=>xe ?_
   have hkA:=Qt.ints (L:=[]) hI.k (by omega) (by simp)
   have heA:=Z0.eds (L:=[]) hI.e (by have:=hc.el;omega) (by simp)
   refine Qc<|x (Qr hB12 rfl rfl)<|Qb<|xl rfl<|Qo (us:=[r2,.int .i64 c.ord.length,vk,ve]) ((hB2S.step hI.st (hbn _ (by omega))).step hs12 (by simp;omega)) rfl rfl rfl rfl ⟨hr2I.one,rfl,hkA.one,heA.one,trivial⟩ λw13 hs13 hB13=>Qe ?_
   have hE1:Step [b4,mb] w9 w12:=hI.st.then hs12 (λb hb=>.inl (by simp at hb;simp[hb]))
   have hfin:Step [] w w13:=(hs09.then hE1 (λb hb=>.inr (by have:=hup b hb;omega))).then1 hs13 (by omega)
   refine Qm ⟨[.agg #[r2,.int .i64 c.ord.length,vk,ve],vo],⟨⟨_,rfl,QA rfl (hB13.at (L:=[]) (by simp)).cells⟩,rfl,trivial⟩,hfin,_,_,rfl,?_,hoA.one⟩
   rw[←hend] at hsup
   subst hsup
   have k1:=Qj (Qj hI.k hs12 (λb hb=>by have:=(Qk hI.k b hb).1;simp;omega)) hs13 (λb hb=>by have:=(Qk hI.k b hb).1;simp;omega)
   have k2:=Qj (Qj hI.e hs12 (λb hb=>by have:=(Qk hI.e b hb).1;simp;omega)) hs13 (λb hb=>by have:=(Qk hI.e b hb).1;simp;omega)
   have k3:=Qj (Qj hr2S hE1 (λb hb=>hbn b (hr2lt b hb))) hs13 (λb hb=>by have:=(Qk hr2 b hb).1;simp;omega)
   exact ⟨r2,vk,ve,rfl,λL' hL'=>⟨by rw[hRal];exact Qt.ints k3 hA.a.al.le (λb hb=>by have:=hL' b hb;omega),Qt.ints k1 (by show c.mk'.length≤_;omega) (λb hb=>by have:=hL' b hb;omega),Z0.eds k2 (by show c.ed.length≤_;have:=hc.el;omega) (λb hb=>by have:=hL' b hb;omega)⟩⟩
  have hlt:i<c.ord.length:=by omega
  refine Qi ?_
  have hgi:=Zg hlt
  have hsr:=hc.ord _ (X3 hlt)
  have hlate:=Qcb (a:=R) hlt
  refine Q8 (cget c.ord i) λs0 hs0=>?_
  rw[hs0] at hgi hsr hlate
  have hsn:s0=(s0.toNat:Int):=by omega
  have hst:s0.toNat<q.n:=by omega
  have hos0:U3 R.ed s0.toNat=ZH R.ed s0:=by unfold U3;rw[←hsn]
  have hRow:=hRS s0.toNat hst
  rw[hos0] at hRow
  have hosl:=Jy R.ed s0
  have hosm:∀e∈ZH R.ed s0,0≤e.2.2∧e.2.2<q.a.st:=λe he=>⟨(hbound e (ZJ he).1).2.2.1,(hbound e (ZJ he).1).2.2.2⟩
  refine Q8 (ZH R.ed s0) λos hos=>?_
  rw[hos] at hRow hosl hosm hlate
  refine Qf<|Qg<|Qf<|Qc<|Qb<|Qb<|Qb<|xii (i:=i) hoA rfl rfl hlt λa87 h87=>?_
  rw[hgi] at h87
  refine x (Qv h87 rfl)<|x (Zf (i:=s0.toNat) rfl (congrArg (Value.int .i64) hsn) hst)<|x (Qd (u:=rv s0.toNat) (hBE9.step hI.st hEn) rfl (yw hst))<|x (Qs (hRow.st hI.st) rfl)<|Qb<|xe ?_
  refine Qg<|QC (α:=Nat×Cs×List (Int×Value)×Value×Value) [(9,9),(12,14),(92,126)] (λz=>[(9,z.2.2.2.1),(92,.int .i64 z.1)])
   (λz w'=>Jr b4 mb r2 w9 z.2.1 z.2.2.1 z.2.2.2.1 vk z.2.2.2.2 w'∧z.1≤os.length∧Ks q.a.st z.2.1∧z.2.1.mk'=c.mk'∧z.2.1.ed.length=c.ed.length+z.1∧(∃r,z.2.1.ord=c.ord++r)∧(os.drop z.1).foldl (Zt i) z.2.1=os.foldl (Zt i) c) (λz=>os.length - z.1) (by rfl) (0,c,m,vo,ve) ⟨rfl,rfl,trivial⟩
   ⟨hI,Nat.zero_le _,hc,rfl,rfl,⟨[],by simp⟩,rfl⟩ ?_
  rintro ⟨k4,d,m4,vo4,ve4⟩ g w12 ⟨hI4,hk4,hc4,hm4,he4,ho4,hf4⟩
  simp only[] at hI4 hk4 hc4 hm4 he4 ho4 hf4
  have hcle4:=hc4.le
  have hoA4:=Qt.ints (L:=[]) hI4.o (by omega) (by simp)
  have hil4:i<d.ord.length:=by obtain ⟨r,hr⟩:=ho4;rw[hr,List.length_append];omega
  have hgi4:cget d.ord i=s0:=by obtain ⟨r,hr⟩:=ho4;rw[hr,UL hlt];exact hs0
  refine Qc<|x (QB rfl rfl)<|xe ?_
  refine Qf<|QH rfl (λh93=>?_) (λh93=>?_)
  ·refine Qz ?_
   rw[List.drop_of_length_le (by omega),List.foldl_nil] at hf4
   rw[←hf4] at hlate
   have hAw:=hAS.st hI4.st
   have hg4:d.ord[i]'hil4=s0:=by rw[Zg hil4];exact hgi4
   have hmkC:Yh R i d=if s0∈q.a.mr then ⟨d.ord,d.num,d.mk'++[(i:Int)],d.ed⟩ else d:=by
    unfold Yh
    rw[JT,Int.toNat_natCast,hgi4,hmr]
   rw[hmkC] at hlate
   have hcanS:Jp R (q.n - (i+1)) (i+1) (U4 R i c)=Jp R q.n 0 (Jg R):=by
    rw[←hcan]
    obtain ⟨t,ht⟩:∃t,q.n - i=t+1:=⟨q.n - i - 1,by omega⟩
    rw[ht,Jp,if_pos hlt,show q.n - (i+1)=t by omega]
   have hm4l:=congrArg List.length hm4
   refine Qf<|QU (Step [] w12) [(0,true),(1,true),(2,true),(3,true),(4,true),(5,true),(6,true),(7,true),(8,true),(9,false)] mixed (by rfl) (by kernel_rfl) (Step.drew _ _) ?_
   refine p (λ_=>Qn)<|p (λ_=>QI rfl)<|p (λ_=>Qa rfl)<|p (λ_=>Qa rfl)<|pq (λ_ hc=>Qd (hAw.B.ext hc) rfl rfl)<|p (λ_=>Qn) <|
    p (λ_=>Qn)<|pii (i:=i) rfl hoA4 rfl rfl hil4 λa134 h134=>?_
   rw[hg4] at h134
   refine pq (λ_ hc=>Qv (h134.ext hc) rfl)<|pk<|xf<|(ZG (hAw.a.mr.ext (Step.drew _ _)) s0).mono ?_
   rintro r16 w16 ⟨rfl,rfl⟩
   refine ⟨Step.drew _ _,pe ?_⟩
   have hI5:=hI4.ext (Step.drew [] w12)
   refine QH rfl (λh136=>?_) (λh136=>?_)
   ·rw[if_neg h136] at hlate
    refine Qi<|Qw<|Qb<|x (Qx rfl rfl ⟨by omega,by omega⟩)<|Qe ?_
    rw[hlate] at hcanS
    exact ⟨(i+1,d,m4,vo4,vk,ve4),by simp only[];omega,⟨rfl,rfl,trivial⟩,hI5,by simp only[];omega,hc4,by simp only[];omega,by simp only[];omega,hcanS⟩
   rw[if_pos h136] at hlate
   refine Qw<|x (Qa rfl)<|x (Qd hI5.B4 rfl rfl)<|Qb<|xl rfl<|QD (us:=[[.int .i64 i]]) rfl rfl (by decide) (by simp) ⟨rfl,rfl,trivial⟩ λb140 w17 hs17 hb140 hB140=>?_
   have hI17:=hI5.ext hs17
   refine xl rfl<|QY (news:=[.int .i64 i]) (L:=[]) hI17.k rfl rfl rfl (hB140.at (by simp)) (by simp[Value.oneCell']) (by omega) hI17.st.size λv18 w18 ho18 hs18 hn18=>?_
   have hk18:Qt 3 w9.heap.size w18 v18 (d.mk'++[(i:Int)]):=Qt.snoc ho18
   refine x (Qa rfl)<|xl rfl<|QG (hI17.B4.step hs18 (QN hI17.k hl4S)) rfl rfl (by simp) (QF ho18) λw19 hs19 hB19=>xe ?_
   have hI19:=hI17.setK hl4S hlm hne hs18 hk18 hn18 hs19 hB19
   refine Qw<|Qb<|x (Qx rfl rfl ⟨by omega,by omega⟩)<|Qe ?_
   rw[hlate] at hcanS
   exact ⟨(i+1,⟨d.ord,d.num,d.mk'++[(i:Int)],d.ed⟩,m4,vo4,v18,ve4),by simp only[];omega,⟨rfl,rfl,trivial⟩,hI19,by simp only[];omega,⟨hc4.nl,hc4.sum,hc4.ord,hc4.num,hc4.el⟩,by simp only[List.length_append,List.length_singleton];omega,by simp only[];omega,hcanS⟩
  refine Qi ?_
  have hlt4:k4<os.length:=by omega
  have hdr:=QW hlt4
  rw[hdr,List.foldl_cons] at hf4
  have hto:=hosm _ (List.getElem_mem hlt4)
  refine Q8 (os[k4]'hlt4) λe he=>?_
  rw[he] at hf4 hto
  have htn:e.2.2=(e.2.2.toNat:Int):=by omega
  have hqd:e.2.2.toNat<d.num.length:=by rw[hc4.nl];omega
  have hlk:=hI4.nm e.2.2.toNat hqd
  rw[←htn] at hlk
  have hnumL:Y7 d.num e.2.2=cget d.num e.2.2.toNat:=rfl
  refine Qf<|Qg<|Qc<|xie (hRow.st hI4.st) rfl rfl hlt4 λa94 h94=>?_
  rw[he] at h94
  refine x (QJ h94 rfl rfl)<|xl rfl<|Qu (us:=[.int .i64 0,.int .i64 0,.int .i64 0]) rfl λb12 w20 hs20 hb12 hB12=>xl rfl<|Qo (us:=Qy e) hB12 rfl rfl rfl rfl ⟨rfl,rfl,rfl,trivial⟩ λw21 hs21 hB12=>xe ?_
  have hS21:Step [] w12 w21:=hs20.then1 hs21 hb12
  have hI5:=hI4.ext hS21
  have hl12:=hB12.lt
  have hz21:=hS21.size
  have hIz:=hI4.st.size
  have hc5:Ks q.a.st (Zt i d e):=yn hc4 hto.1 hto.2 (by have:=hc4.el;omega)
  have hd2:Zt i d e=⟨(ZO d e).ord,(ZO d e).num,(ZO d e).mk',(ZO d e).ed++[((i:Int),e.2.1,Y7 (ZO d e).num e.2.2)]⟩:=V8 hqd
  have hordl:=hc5.le
  refine QV (α:=Value) [(13,14),(96,102)] (λz=>[(13,.int .i64 (if cget d.num e.2.2.toNat<0 then 0 else cget d.num e.2.2.toNat)),(14,.bool (!decide (cget d.num e.2.2.toNat<0)))]) (λz w'=>w'=w21) (by rfl) ?_ ?_
  ·refine Qw<|Qb<|x (Qa rfl)<|x (Qd hB12 rfl rfl)<|x (v:=.tuple #[.int .i64 (if cget d.num e.2.2.toNat<0 then 0 else cget d.num e.2.2.toNat),.bool (!decide (cget d.num e.2.2.toNat<0))]) ((KE (k:=e.2.2) hI5.M rfl rfl).trans (congrArg (λv=>Result.ok (Next.value v) _) ?_))<|Qb<|x (Qp rfl rfl)<|x (Qp rfl rfl)<|x Qh<|Qe ?_
   ·rw[hlk]
    by_cases hneg:cget d.num e.2.2.toNat<0
    ·simp[hneg]
    ·simp[hneg]
   ·exact ⟨.bool true,⟨rfl,rfl,trivial⟩,rfl⟩
  rintro z5 g w21 rfl
  refine QV (α:=Value×List (Int×Value)×Int) [(9,9),(13,13),(103,115)] (λz=>[(9,z.1),(13,.int .i64 z.2.2)]) (λz w'=>cget (ZO d e).num e.2.2.toNat=z.2.2∧Jr b4 mb r2 w9 (ZO d e) z.2.1 z.1 vk ve4 w'∧Q0 w'.heap b12 144 (Qy e)∧w21.heap.size≤w'.heap.size) (by rfl) ?_ ?_
  ·refine Qc<|Qb<|x (Zp rfl)<|xe ?_
   refine Q2 rfl (λh104=>?_) (λh104=>?_)
   ·have hneg:cget d.num e.2.2.toNat<0:=by simpa using h104
    have hnC:ZO d e=⟨d.ord++[e.2.2],d.num.set e.2.2.toNat d.ord.length,d.mk',d.ed⟩:=by unfold ZO;rw[hnumL,if_pos hneg]
    have hcg:cget (ZO d e).num e.2.2.toNat=(d.ord.length:Int):=by rw[hnC];unfold cget;simp[List.getD,hqd]
    refine Qc<|Qb<|x (Qs (Qt.ints (L:=[]) hI5.o (by omega) (by simp)) rfl)<|Qe<|Qc<|Qb<|x (Qa rfl)<|x (Qd hB12 rfl rfl)<|Qb<|xl rfl<|Xe (k:=e.2.2) hI5.M rfl rfl λw22 hs22 hM22=>xe ?_
    have hnm6:=hI5.nm.set hqd (v:=(d.ord.length:Int)) (by omega)
    rw[←htn] at hnm6
    have hI6:=hI5.setN hlm hne hs22 hM22 hnm6
    have hB12':=hB12.step hs22 (by simp;omega)
    refine Qw<|Qb<|x (Qa rfl)<|x (Qd hB12' rfl rfl)<|xl rfl<|QD (us:=[[.int .i64 e.2.2]]) rfl rfl (by decide) (by simp) ⟨rfl,rfl,trivial⟩ λb114 w23 hs23 hb114 hB114=>?_
    have hI7:=hI6.ext hs23
    refine xl rfl<|QY (news:=[.int .i64 e.2.2]) (L:=[]) hI7.o rfl rfl rfl (hB114.at (by simp)) (by simp[Value.oneCell']) (by show d.ord.length+1≤_;omega) hI7.st.size λv24 w24 ho24 hs24 hn24=>Qe ?_
    have hk24:Qt 3 w9.heap.size w24 v24 (d.ord++[e.2.2]):=Qt.snoc ho24
    have hb12o:b12∉ob vo4:=λhb=>by have:=QQ hI4.o b12 hb;omega
    have hI8:=hI7.setO hl4S hlm hs24 hk24 hn24
    have:=hs22.size
    have:=hs23.size
    have:=hs24.size
    refine ⟨(v24,mput m4 e.2.2 (.int .i64 d.ord.length),(d.ord.length:Int)),⟨rfl,rfl,trivial⟩,hcg,?_,(hB12'.ext hs23).step hs24 hb12o,by omega⟩
    simp only[]
    rw[hnC]
    exact hI8
   ·have hneg:¬cget d.num e.2.2.toNat<0:=by simpa using h104
    have hnC:ZO d e=d:=by unfold ZO;rw[hnumL,if_neg hneg]
    have hel:(if cget d.num e.2.2.toNat<0 then 0 else cget d.num e.2.2.toNat)=cget (ZO d e).num e.2.2.toNat:=by rw[hnC,if_neg hneg]
    refine Qi<|⟨(vo4,m4,if cget d.num e.2.2.toNat<0 then 0 else cget d.num e.2.2.toNat),⟨rfl,rfl,trivial⟩,hel.symm,?_,hB12,Nat.le_refl _⟩
    rw[hnC];exact hI5
  rintro ⟨vo5,m5,tn⟩ g w25 ⟨htnn,hI8,hB12',hz25⟩
  simp only[] at hI8 htnn
  have hnl:(ZO d e).num.length=d.num.length:=Qbb d e
  have hedn:(ZO d e).ed=d.ed:=by unfold ZO;split <;> rfl
  have hgN:Y7 (ZO d e).num e.2.2=cget (ZO d e).num e.2.2.toNat:=rfl
  rw[hgN,hedn,htnn] at hd2
  have heN:Z0 144 w9.heap.size w25 ve4 d.ed:=by have:=hI8.e;rw[hedn] at this;exact this
  refine Qw<|x (Qa rfl)<|x (Qd hI8.B4 rfl rfl)<|Qb<|x (Qa rfl)<|x (Qd hB12' rfl rfl)<|Qb<|x (QE ⟨rfl,rfl,rfl,trivial⟩) <|
   xl rfl<|QD (us:=[Qy ((i:Int),e.2.1,tn)]) rfl rfl (by decide) (by exact (by decide:1*3≤1000000)) ⟨rfl,rfl,trivial⟩ λb123 w26 hs26 hb123 hB123=>?_
  have hI9:=hI8.ext hs26
  refine xl rfl<|QY (m:=1) (news:=Qy ((i:Int),e.2.1,tn)) (L:=[]) (Qq heN hs26) rfl rfl rfl (hB123.at (by simp)) (λu hu=>by simp only[Qy,List.mem_cons,List.not_mem_nil,or_false] at hu;rcases hu with rfl | rfl | rfl <;> rfl) (by have:=hc4.el;omega) hI9.st.size λv27 w27 ho27 hs27 hn27=>?_
  have hk27:Z0 144 w9.heap.size w27 v27 (d.ed++[((i:Int),e.2.1,tn)]):=Z0.snoc ho27
  refine x (Qa rfl)<|xl rfl<|QG (hI9.B4.step hs27 (QN hI9.e hl4S)) rfl rfl (by simp) (QF ho27) λw28 hs28 hB28=>xe ?_
  have hIA:=hI9.setE hl4S hlm hne hs27 hk27 hn27 hs28 hB28
  rw[←hd2] at hIA
  refine Qw<|x (Qx rfl rfl ⟨by omega,by omega⟩)<|Qb<|xe ?_
  refine ⟨(k4+1,Zt i d e,m5,vo5,v27),by simp only[];omega,⟨rfl,rfl,trivial⟩,hIA,by simp only[];omega,hc5,?_,?_,?_,hf4⟩
  ·simp only[];rw[←hm4];exact (yo i d [] e).2
  ·simp only[];rw[yp,he4];omega
  ·simp only[]
   obtain ⟨r1,h1⟩:=qp i d e
   obtain ⟨r2',h2⟩:=ho4
   exact ⟨r2'++r1,by rw[h1,h2,List.append_assoc]⟩
 refine Qi ?_
 have hlt:k<q.a.ed.length:=by have h52:(k:Int)<(q.a.ed.length:Int):=h51;omega
 have hek:=hq.ok.ed _ (List.getElem_mem hlt)
 have htk:q.a.ed.take (k+1)=q.a.ed.take k++[q.a.ed[k]'hlt]:=List.take_succ_eq_append_getElem hlt
 have hfl:(q.a.ed.take (k+1)).filter (λe=>lft lf e.2.2)=(q.a.ed.take k).filter (λe=>lft lf e.2.2)++if lft lf (q.a.ed[k]'hlt).2.2=true then [q.a.ed[k]'hlt] else []:=by
  rw[htk,List.filter_append]
  congr 1
  by_cases h:lft lf (q.a.ed[k]'hlt).2.2=true
  ·simp[h]
  ·simp[h]
 have hfll:((q.a.ed.take k).filter (λe=>lft lf e.2.2)).length≤k:=Nat.le_trans (List.length_filter_le _ _) (by rw[List.length_take];omega)
 refine Q8 ((q.a.ed.take k).filter (λe=>lft lf e.2.2)) λkept hkept=>?_
 rw[hkept] at hfl hR7 hfll
 refine Q8 (q.a.ed[k]'hlt) λe he=>?_
 rw[he] at hek hfl
 have hfn:e.1=(e.1.toNat:Int):=by omega
 have htn:e.2.2=(e.2.2.toNat:Int):=by omega
 have hlf:=Vm (l:=lf) (s:=e.2.2) (by omega)
 have hrn:e.1.toNat<q.n:=by omega
 refine Qf<|Qg<|Qc<|xie hA7.a.ed rfl rfl hlt λa52 h52=>?_
 rw[he] at h52
 refine x (QJ h52 rfl rfl)<|xl rfl<|Qu (us:=[.int .i64 0,.int .i64 0,.int .i64 0]) rfl λb7 w8 hs8 hb7 hB7=>xl rfl<|Qo (us:=Qy e) hB7 rfl rfl rfl rfl ⟨rfl,rfl,rfl,trivial⟩ λw9 hs9 hB7=>xe ?_
 have hs79:Step [] w7 w9:=hs8.then1 hs9 hb7
 have hz9:=hs79.size
 have hA9:=hA7.ext hs79
 have hB9:=hB.ext (hs07.trans hs79)
 have hR9:=hR7.ext hs79
 have hBE9:=hBE7.ext hs79
 refine Qf<|QU (Step [] w9) [(0,true),(1,true),(2,true),(3,true),(4,true),(5,true),(6,true),(7,true)] mixed (by rfl) (by kernel_rfl) (Step.drew _ _) ?_
 refine p (λ_=>Qn)<|p (λ_=>QI rfl)<|p (λ_=>Qa rfl)<|pq (λ_ hc=>Qd (hA9.B.ext hc) rfl rfl)<|p (λ_=>Qa rfl)<|pq (λ_ hc=>Qd (hB7.ext hc) rfl rfl) <|
  p (λ_=>Zf (i:=e.2.2.toNat) rfl (congrArg (Value.int .i64) htn) (by omega))<|pq (v:=.bool (lft lf e.2.2)) (λ_ hc=>(Xz (i:=e.2.2.toNat) (hB9.ext hc) rfl (by omega)).trans (by rw[hlf]))<|pe ?_
 have hd9:Step [] w9 { w9 with drawn:=w9.drawn+1 }:=Step.drew _ _
 refine Q2 rfl (λh61=>?_) (λh61=>?_)
 ·rw[if_pos h61] at hfl
  have hrow:=hR9.own _ hrn
  have hIn:∀b∈ob (rv e.1.toNat),w6.heap.size≤b∧b<w7.heap.size:=λb hb=>⟨(Qk (hR7.own _ hrn) b hb).1,QQ (hR7.own _ hrn) b hb⟩
  have hbEn:bE∉ob (rv e.1.toNat):=λhb=>by have:=hIn _ hb;omega
  have hb7n:b7∉ob (rv e.1.toNat):=λhb=>by have:=hIn _ hb;omega
  have hrl:=yx kept e.1.toNat
  refine QU (Step (ob (rv e.1.toNat)) w9) [(0,true),(1,true),(2,true),(3,true),(4,true),(5,true),(6,true),(7,true),(8,true),(9,false),(10,false),(11,true),(12,false)] mixed (by rfl) (by kernel_rfl) (hd9.any.trans' (Step.drew _ _)) ?_
  refine p (λ_=>Qn)<|p (λ_=>Qa rfl)<|pq (λ_ hc=>Qd (hB7.step hc hb7n) rfl rfl)<|p (λ_=>Qn)<|p (λ_=>Qa rfl) <|
   pq (λ_ hc=>Qd (hB7.step hc hb7n) rfl rfl)<|p (λ_=>Zf (i:=e.1.toNat) rfl (congrArg (Value.int .i64) hfn) hrn)<|pq (λ_ hc=>Qd (u:=rv e.1.toNat) (hBE9.step hc hbEn) rfl (yw hrn)) <|
   pq (λ_ hc=>Qr (hB7.step hc hb7n) rfl rfl)<|pk<|QD (us:=[Qy e]) rfl rfl (by decide) (by exact (by decide:1*3≤1000000)) ⟨rfl,rfl,trivial⟩ λb71 w10 hs10 hb71 hB71=>⟨(hd9.any.trans' (Step.drew _ _)).trans' hs10.any,?_⟩
  have hs910:Step [] w9 w10:=(hd9.trans (Step.drew _ _)).trans hs10
  have hz10:=hs910.size
  refine pk<|QY (m:=1) (news:=Qy e) (L:=[]) (Qq hrow hs910) rfl rfl rfl (hB71.at (by simp)) (λu hu=>by simp only[Qy,List.mem_cons,List.not_mem_nil,or_false] at hu;rcases hu with rfl | rfl | rfl <;> rfl) (by omega) (by omega) λvr w11 ho11 hs11 hn11=>⟨hs910.any.trans' hs11,?_⟩
  have hBE11:=(hBE9.ext hs910).step hs11 hbEn
  have hlen:((List.range q.n).map rv).length=q.n:=by simp
  refine p (λ_=>Zf (i:=e.1.toNat) rfl (congrArg (Value.int .i64) hfn) hrn)<|pkl (hl:=by kernel_rfl)<|QG (j:=0+e.1.toNat*1) (u:=vr) hBE11 rfl rfl (by rw[hlen];omega) (QF ho11) λw12 hs12 hBE12=>pe ?_
  have hb12:Q0 w12.heap bE 56 ((List.range q.n).map (J7 rv e.1.toNat vr)):=by
   have e1:=Qdb id q.n rv e.1.toNat vr
   simp only[id] at e1
   rw[←e1]
   simpa using hBE12
  have hvn:∀b∈ob vr,b∈ob (rv e.1.toNat)∨w9.heap.size≤b:=λb hb=>(hn11 b hb).imp id (λh=>by omega)
  have hR11:=hR9.app hrn (Z0.snoc ho11) (hs910.any.trans' hs11) hvn
  have hR12:=hR11.step hs12 (λi hi b hb=>by have:=(Qk (hR11.own i hi) b hb).1;simp only[List.mem_singleton];omega)
  rw[Qca kept e hek.1,←hfl] at hR12
  refine Qw<|x (Qx rfl rfl ⟨by omega,by omega⟩)<|Qb<|xe ?_
  exact ⟨(k+1,J7 rv e.1.toNat vr),by simp only[];omega,⟨rfl,trivial⟩,hlt,(((hs7.trans hs79).trans hs910).then hs11 (λb hb=>.inr (hIn b hb).1)).trans' hs12,hb12,hR12⟩
 ·rw[if_neg (by rw[h61];decide),List.append_nil] at hfl
  refine Qi<|Qw<|x (Qx rfl rfl ⟨by omega,by omega⟩)<|Qb<|xe ?_
  exact ⟨(k+1,rv),by simp only[];omega,⟨rfl,trivial⟩,hlt,(hs7.trans hs79).trans hd9,(hBE9.ext hd9),by simp only[];rw[hfl];exact hR9.ext hd9⟩
open Go.Sort
abbrev Rz:={ x:Int×Int×Int×Int // 0≤x.1∧x.1<4096 }
instance:Inhabited Rz:=⟨⟨(0,0,0,0),by decide⟩⟩
abbrev Ub (x:Rz):LV:=[.int .i64 x.1.1,.int .i64 x.1.2.1,.int .i64 x.1.2.2.1,.int .i64 x.1.2.2.2]
abbrev RzO (base:Nat) (w:World) (v:Value) (l:List Rz):Prop:=w.ownsRow base 320 4 v l.length (l.flatMap Ub)
set_option maxHeartbeats 1000000 in
theorem Qkc (x y:Rz) (W:World):Calls prog 216 #[.agg (Ub x).toArray,.agg (Ub y).toArray] W λe w'=>e=.returned (.int .i64 (x.1.1 - y.1.1))∧∃q os',w'=grow (W.drewN q) os':=by
 have hw:IntKind.i64.wrap (x.1.1 - y.1.1)=x.1.1 - y.1.1:=Ya ⟨by have:=x.2;have:=y.2;omega,by have:=x.2;have:=y.2;omega⟩
 go_enter func216,ntmps216
 go_wp2
 go_ret
 exact ⟨by rw[←hw];rfl,0,_,by rw[alloc_eq_grow,alloc_eq_grow,grow_grow];rfl⟩
theorem zj (x:Rz):(Ub x).length=4:=rfl
theorem zi:∀l:List Rz,(l.flatMap Ub).length=l.length*4
 | []=>rfl
 | x::l=>by rw[List.flatMap_cons,List.length_append,zi l,zj,List.length_cons];omega
theorem QaV {l:List Rz}{j:Nat}(hj:j<l.length*4):(l.flatMap Ub)[j]?=some ((flatK Ub 4 l.toArray)[j]!):=by
 have h1:j / 4<l.length:=Nat.div_lt_of_lt_mul (by omega)
 have h2:j % 4<4:=Nat.mod_lt _ (by decide)
 rw[get_flatK _ _ _ _ (by simpa using hj)]
 have h3:=XC Ub 4 zj l (j / 4) h1
 have h4:(l.flatMap Ub)[j]?=(Ub (l[j / 4]'h1))[j % 4]?:=by
  rw[←h3,List.getElem?_take,if_pos h2,List.getElem?_drop]
  congr 1;omega
 rw[h4]
 have h5:(l.toArray)[j / 4]! = l[j / 4]'h1:=by simp[h1]
 rw[h5]
 have h6:j % 4<(Ub (l[j / 4]'h1)).length:=h2
 exact (List.getElem?_eq_getElem h6).trans (congrArg some (getElem!_pos (Ub (l[j / 4]'h1)) (j % 4) h6).symm)
theorem Qij:SWO (ltOf λx y:Rz=>x.1.1 - y.1.1) where
 irrefl x:=by unfold ltOf;simp
 trans x y z h1 h2:=by unfold ltOf at *;simp at *;omega
 ntrans x y z h1 h2:=by unfold ltOf at *;simp at *;omega
set_option maxHeartbeats 1000000 in
theorem Qb6 {w:World}{base:Nat}{v:Value}{l:List Rz}(h:RzO base w v l) (hl:l.length≤1099511627776) :
  QL prog 215 [v,.func (.func 216) #[] #[]] w λ_ w'=>Step (ob v) w w'∧∃l',l'.length=l.length∧RzO base w' v l':=by
 unfold QL
 rcases h.2 with ⟨rfl,h0⟩ | ⟨g,cap,cur,rfl,hbg,hg,hnc,hcm,hcs,htk⟩
 ·have hl0:l=[]:=List.eq_nil_of_length_eq_zero h0
  subst hl0
  have hc:=AnyF.slices_SortFunc_none Tryz.sortRm none 0 (.func (.func 216) #[] #[]) w
  change Calls prog 215 _ _ _ at hc
  refine Calls.mono hc λe w' he=>?_
  obtain ⟨rfl,rfl⟩:=he
  exact ⟨Step.refl _ _,[],rfl,h⟩
 ·have hlt:g<w.heap.size:=(Array.getElem?_eq_some_iff.1 hg).1
  have hcl:l.length*4≤cur.size:=by rw[hcs];exact Nat.mul_le_mul_right _ hnc
  have hH:HoldsK Ub 4 w g 0 l.toArray:=by
   intro j hj
   rw[size_flatK,List.size_toArray] at hj
   have h1:=QaV hj
   rw[←htk,List.getElem?_take,if_pos hj] at h1
   constructor
   ·show (match w.heap[g]? with | some (.cells c _ _)=>if (none:Option _).isSome then none else c[0+j]? | _=>none)=_
    rw[hg]
    simp only[Nat.zero_add,Option.isSome_none,Bool.false_eq_true,if_false]
    rw[←Array.getElem?_toList,h1];rfl
   ·show (match w.heap[g]? with | some (.cells _ _ (lo,hi))=>decide (lo≤0+j) && decide (0+j<hi) | _=>false)=false
    rw[hg];simp
  have eg:∀args w,(callFunc 216 args).run prog w=.ok (.enter 216 args) w:=enters_of func216 (by kernel_rfl) rfl
  have hc:=AnyQ.slices_SortFunc Tryz.sortRm 4 Tryz.isAgg320 Tryz.sizeOf320 Ub zj (λx v hv=>by simp at hv;rcases hv with rfl | rfl | rfl | rfl <;> rfl) (λx y=>x.1.1 - y.1.1) Qij 216 #[] g 0 cap l.toArray w eg (λm os dk _ x y=>Qkc x y _) hH hlt (by simp;omega)
  change Calls prog 215 _ _ _ at hc
  rw[List.size_toArray] at hc
  refine Calls.mono hc λe w' he=>?_
  obtain ⟨rfl,d',n,os,hp,_,rfl⟩:=he
  have hsz:d'.size=l.length:=by have:=hp.1;simpa using this
  have hhp:(sortWorldK Ub 4 w g 0 n d' os).heap=w.heap.modify g (onCells (putCells id 0 (flatK Ub 4 d')))++os:=rfl
  refine ⟨⟨rfl,rfl,rfl,?_,λk hk hn=>?_⟩,d'.toList,by simpa using hsz,?_⟩
  ·rw[hhp,Array.size_append,Array.size_modify];omega
  ·rw[hhp,Array.getElem?_append,Array.size_modify,if_pos hk,Array.getElem?_modify,if_neg (λe=>hn (by simp[ob,e]))]
  ·refine ⟨zi _,.inr ⟨g,cap,putCells id 0 (flatK Ub 4 d') cur,by simp[hsz],hbg,?_,by simp[hsz];exact hnc,hcm,by simp[putCells,hcs],?_⟩⟩
   ·rw[hhp,Array.getElem?_append,Array.size_modify,if_pos hlt,Array.getElem?_modify,if_pos rfl,hg];rfl
   ·apply List.ext_getElem?
    intro j
    rw[List.getElem?_take]
    by_cases hj:j<d'.toList.length*4
    ·rw[if_pos hj,QaV hj,Array.getElem?_toList]
     have hjc:j<cur.size:=by simp[hsz] at hj;omega
     have hjf:j<(flatK Ub 4 d').size:=by simpa using hj
     simp only[putCells,Array.getElem?_mapIdx,Array.getElem?_eq_getElem hjc,Option.map_some,Nat.zero_le,Nat.zero_add,true_and,if_pos hjf,Nat.sub_zero,id]
    ·rw[if_neg hj,List.getElem?_eq_none]
     rw[zi];omega
theorem Qiu {a:QT}{ul:LI}{lf:Lf}{n:Nat}(ho:Zm a) (hn:a.st=(n:Int)) (hl:lf.length=n):∀x∈nxs a ul lf,0≤x∧x<(n:Int):=λx hx=>by
 have h1:=Qd4 x hx
 have h2:x.toNat<n:=by
  refine Decidable.byContradiction λh=>?_
  unfold lft at h1
  simp[List.getD,List.getElem?_eq_none (show lf.length≤x.toNat by omega)] at h1
 unfold nxs at hx
 split at hx
 ·obtain ⟨p,hp,rfl⟩:=List.mem_map.1 hx
  obtain ⟨_,e,he,h3,_⟩:=(zF a ul lf).1 p hp
  have:=ho.ed e he
  omega
 ·have:=((K6 lf (dsts a lf) 0).1 x hx).2
  omega
theorem QhN {rk rs:Int}:∀(l:List (Int×Int)),(∀x∈l.map (·.1),0≤x∧x<4096)→∃lz:List Rz,lz.flatMap Ub=l.flatMap (yy rk rs)∧lz.length=l.length
 | [],_=>⟨[],rfl,rfl⟩
 | x::l,h=>by
  obtain ⟨lz,h1,h2⟩:=QhN l (λy hy=>h y (List.mem_cons_of_mem _ hy))
  exact ⟨⟨(x.1,rk,rs,x.2),h x.1 List.mem_cons_self⟩::lz,by rw[List.flatMap_cons,List.flatMap_cons,h1],by simp[h2]⟩
theorem Qa7:∀l:List Rz,∀u∈l.flatMap Ub,u.oneCell'=true
 | [],u,h=>by cases h
 | x::l,u,h=>by
  rw[List.flatMap_cons,List.mem_append] at h
  rcases h with h | h
  ·simp only[Ub,List.mem_cons,List.not_mem_nil,or_false] at h
   rcases h with rfl | rfl | rfl | rfl <;> rfl
  ·exact Qa7 l u h
theorem RzO.snoc {base:Nat}{w:World}{v:Value}{l m:List Rz}(h:w.ownsRow base 320 4 v (l.length+m.length) (l.flatMap Ub++m.flatMap Ub)):RzO base w v (l++m):=by
 unfold RzO
 rw[List.length_append,List.flatMap_append];exact h
abbrev Jk (k d r:Value) (n:Int):LV:=[k,d,r,.int .i64 n,nS,.int .i64 0,nS,nS,nS]
structure ReI (b10:Nat) (q:Pz) (wB:World) (lf:Lf) (rn:Int) (vr:Value) (lz:List Rz) (w:World):Prop where
 st:Step [b10,q.bl] wB w
 B10:Q0 w.heap b10 170 (Jk (nS) (nS) vr rn)
 R:RzO wB.heap.size w vr lz
 F:Q0 w.heap q.bl 4 (lf.map Value.bool)
 n:lf.length=q.n
section
variable {b10:Nat} {q:Pz} {wB w w' w'':World} {lf:Lf} {rn:Int} {vr:Value} {lz:List Rz}
theorem ReI.ext (h:ReI b10 q wB lf rn vr lz w) (hs:Step [] w w'):ReI b10 q wB lf rn vr lz w':=⟨h.st.trans hs,h.B10.ext hs,Qq h.R hs,h.F.ext hs,h.n⟩
theorem ReI.cut (h:ReI b10 q wB lf rn vr lz w) (l:q.bl<wB.heap.size) (ne:b10≠q.bl) (hs:Step [q.bl] w w') {lf':Lf}(hF:Q0 w'.heap q.bl 4 (lf'.map Value.bool)) (hn:lf'.length=q.n):ReI b10 q wB lf' rn vr lz w' :=
 ⟨h.st.then hs (λb hb=>.inl (by simp only[List.mem_singleton] at hb;simp[hb])),h.B10.step hs (by simpa using ne),Qj h.R hs (λb hb=>by have:=(Qk h.R b hb).1;simp only[List.mem_singleton];omega),hF,hn⟩
theorem ReI.app (h:ReI b10 q wB lf rn vr lz w) (l:q.bl<wB.heap.size) (l10:b10<wB.heap.size) (ne:b10≠q.bl) {vr':Value}{lz':List Rz}{rn':Int}(hs:Step (ob vr) w w') (hR:RzO wB.heap.size w' vr' lz') (hs2:Step [b10] w' w'')
  (hB:Q0 w''.heap b10 170 (Jk (nS) (nS) vr' rn')):ReI b10 q wB lf rn' vr' lz' w'':=by
 have hge:=Qk h.R
 exact ⟨(h.st.then hs (λb hb=>.inr (hge b hb).1)).then hs2 (λb hb=>.inl (by simp only[List.mem_singleton] at hb;simp[hb])),hB,Qj hR hs2 (λb hb=>by have:=(Qk hR b hb).1;simp only[List.mem_singleton];omega),
  (h.F.step hs (λhb=>by have:=(hge _ hb).1;omega)).step hs2 (by simpa using ne.symm),h.n⟩
theorem ReI.rounds (h:ReI b10 q wB lf rn vr lz w) (l10:b10<wB.heap.size) (ne:b10≠q.bl) {rn':Int}(hs2:Step [b10] w w') (hB:Q0 w'.heap b10 170 (Jk (nS) (nS) vr rn')):ReI b10 q wB lf rn' vr lz w' :=
 ⟨h.st.then hs2 (λb hb=>.inl (by simp only[List.mem_singleton] at hb;simp[hb])),hB,Qj h.R hs2 (λb hb=>by have:=(Qk h.R b hb).1;simp only[List.mem_singleton];omega),h.F.step hs2 (by simpa using ne.symm),h.n⟩
end
set_option maxHeartbeats 8000000 in
theorem Qcc {w:World}{va vm ve vf vu:Value}{a:QT}{forb unc:LI}(h:Zr [] w.heap va vm ve a) (hok:Zm a) (hf:QM [] w.heap vf forb) (hfb:∀x∈forb,0≤x∧x<a.st) (hfl:forb.length≤4096) (hu:QM [] w.heap vu unc) :
  QL prog 159 [.agg #[va,.int .i64 a.st,vm,ve],vf,vu,.bool true] w λr w'=>Step [] w w'∧∃c0 c1 c2 c3 sa sm se o,r=.agg #[c0,c1,c2,c3,sa,.int .i64 (zd a forb unc).st,sm,se,o] ∧
   ZL [c0,c1,c2,c3,o]∧∀L:LN,(∀b∈L,b<w.heap.size)→Zr L w'.heap sa sm se (zd a forb unc):=by
 have hst0:=hok.st0
 have hst1:=hok.st1
 obtain ⟨n,hn⟩:∃n:Nat,a.st=n:=⟨a.st.toNat,by omega⟩
 have hnt:a.st.toNat=n:=by omega
 have hsy:zd a forb unc=Qdq a (U5 a unc (n+1) (lf0 n forb)):=by unfold zd QjL;rw[hnt]
 refine Q8 (zd a forb unc) λSA hSA=>?_
 rw[hSA] at hsy ⊢
 refine QL.of_W func159 rfl ntmps159 results159 (by simp) ?_
 refine Qc<|xl rfl<|QR (us:=[va,.int .i64 a.st,vm,ve]) rfl λb4 w1 hs1 hb4 hB4=>xl rfl<|Qu (us:=Jk (nS) (nS) (nS) 0) rfl λb8 w2 hs2 hb8 hB8=>xe ?_
 have hs02:=hs1.trans hs2
 have hl8:=hB8.lt
 have hz1:=hs1.size
 have hz2:=hs2.size
 refine Qc<|x (Qr (hB4.ext hs2) rfl rfl)<|Qb<|Qb<|xl rfl<|xf<|(Qdr (h.ext hs02) hok hn (hf.ext hs02) hfb (hu.ext hs02)).mono ?_
 rintro r3 w3 ⟨hs3,bp,q,rfl,hqa,hqu,hqn,hbl,hP,hF⟩
 refine Qe ?_
 subst hqa hqu hqn
 have hq:PzQ q:=⟨hok,hn⟩
 have hs03:=hs02.trans hs3
 have hz3:=hs3.size
 have hlF:=hF.lt
 refine Qc<|xl rfl<|Qu (us:=Jk (nS) (nS) (nS) 0) rfl λb10 w4 hs4 hb10 hB10=>xe ?_
 have hs04:=hs03.trans hs4
 have hz4:=hs4.size
 have hl10:=hB10.lt
 have hne:b10≠q.bl:=by omega
 have hlb:q.bl<w4.heap.size:=by omega
 have hP0:ye [b10,q.bl] w4.heap bp q:=(hP.up (λb hb=>by
  simp only[List.mem_cons,List.not_mem_nil,or_false] at hb
  rcases hb with rfl | rfl
  ·exact .inr hb10
  ·exact .inl (by simp))).ext hs4
 have hlfl:=QgM q.n forb
 have hPz:∀{w'},Step [b10,q.bl] w4 w'→ye [] w'.heap bp q:=λhs=>(hP0.st hs).up (by simp)
 refine Qf<|Qc<|Qb<|x (Qs (hf.ext hs04) rfl)<|Qb<|xe ?_
 refine Qg<|QC (α:=Nat×Int×Value×List Rz) [(12,12),(25,39)] (λz=>[(25,.int .i64 z.1)]) (λz w'=>z.1≤forb.length∧ReI b10 q w4 (lf0 q.n forb) z.2.1 z.2.2.1 z.2.2.2 w'∧z.2.2.2.length=z.1∧(z.2.1=0∨z.2.1=1)) (λz=>forb.length - z.1) (by rfl) (0,0,nS,[]) ⟨rfl,trivial⟩
  ⟨Nat.zero_le _,⟨Step.refl _ _,hB10,QO _ _ _ _,hF.ext hs4,hlfl⟩,rfl,.inl rfl⟩ ?_
 rintro ⟨k,rn,vr,lz⟩ g w5 ⟨hk,hI,hlz,hrn⟩
 simp only[] at hk hI hlz hrn
 have hf5:QM [] w5.heap vf forb:=((hf.up (L':=[b10,q.bl]) (λb hb=>by
  simp only[List.mem_cons,List.not_mem_nil,or_false] at hb
  exact .inr (by omega))).ext hs04 |>.st hI.st).up (by simp)
 refine Qc<|x (QB rfl rfl)<|xe ?_
 refine Qf<|QH rfl (λh26=>?_) (λh26=>?_)
 ·refine Qz ?_
  have hcl:=Qho (lf0 q.n forb)
  refine Qf<|Qc<|Qe<|Qg<|QC (α:=Nat×Nat×Int×Value×List Rz×Lf) [(13,14),(16,16),(40,71)] (λz=>[(13,.int .i64 z.2.1)])
   (λz w'=>ReI b10 q w4 z.2.2.2.2.2 z.2.2.1 z.2.2.2.1 z.2.2.2.2.1 w'∧z.2.1+z.1=q.n+3∧z.2.2.2.2.1.length≤4096+z.2.1*1000000∧U5 q.a q.unc z.1 z.2.2.2.2.2=U5 q.a q.unc (q.n+1) (lf0 q.n forb)∧Kf z.2.2.2.2.2+1≤z.1) (λz=>z.1) (by rfl)
   (q.n+1,2,rn,vr,lz,lf0 q.n forb) ⟨rfl,trivial⟩ ⟨hI,by simp only[];omega,by simp only[];omega,rfl,by simp only[];omega⟩ ?_
  rintro ⟨f,rank,rn,vr,lz,lf⟩ g w6 ⟨hI,hrk,hlz,hres,hcn⟩
  simp only[] at hI hrk hlz hres hcn
  refine Qf<|Qg<|Qc<|Qb<|Qb<|Qb<|xl rfl<|xf<|(QdU (hPz hI.st) hq hI.F hI.n rank).mono ?_
  rintro r7 w7 ⟨hs7,rs,l,hO7,hl7,hll7⟩
  refine Qe ?_
  have hI7:=hI.ext hs7
  have hlA:Zo [] w7.heap r7 l.length 4 (l.flatMap (yy rank rs)):=QS hO7 (by omega) (by simp)
  have hnl:(nxs q.a q.unc lf).length=l.length:=by rw[←hl7,List.length_map]
  have hrg:=Qiu (ul:=q.unc) hok hn hI.n
  rw[←hl7] at hrg
  refine Qf<|Qc<|Qb<|x (Qs hlA rfl)<|x (Q5 rfl rfl)<|xe ?_
  refine Q6 rfl (λh48=>?_) (λh48=>?_)
  ·refine Qz ?_
   have hl0:l.length=0:=by have h49:(l.length:Int)=0:=h48;omega
   rw[Qce (by rw[hnl];exact hl0)] at hres
   rw[←hres] at hsy
   refine Qc<|x (Qa rfl)<|x (Qa rfl)<|x (Qd hI7.B10 rfl rfl)<|xl rfl<|xf<|(Qb6 hI7.R (by omega)).mono ?_
   rintro r8 w8 ⟨hs8,lz8,_,hR8⟩
   refine xe ?_
   have hge:=Qk hI7.R
   have hst8:Step [b10,q.bl] w4 w8:=hI7.st.then hs8 (λb hb=>.inr (hge b hb).1)
   have hB8':Q0 w8.heap b10 170 (Jk (nS) (nS) vr rn):=hI7.B10.step hs8 (λhb=>by have:=(hge _ hb).1;omega)
   have hF8:Q0 w8.heap q.bl 4 (lf.map Value.bool):=hI7.F.step hs8 (λhb=>by have:=(hge _ hb).1;omega)
   have hvr:=QF hR8
   have hz8:=hst8.size
   refine Qf<|Qc<|Qb<|xl rfl<|xf<|(K1 (hPz hst8) hq hF8 hI7.n).mono ?_
   rintro r9 w9 ⟨hs9,bD,rfl,hbD,hD9,hDl⟩
   refine Q8 (dsts q.a lf) λD hD=>?_
   rw[hD] at hD9 hDl
   have hDA:QM [b10] w9.heap (.slice (some ⟨bD,0,none⟩) q.n q.n) D:=by
    have h1:=hD9.arr (L:=[b10]) (by simp only[List.mem_singleton];omega) (n:=q.n) (cap:=q.n) (sz:=1) (by simp[hDl]) (by omega) (Nat.le_refl _)
    unfold QM;rw[hDl];exact h1
   have hst9:=hst8.trans hs9
   have hz9:=hs9.size
   have hF9:=hF8.ext hs9
   refine x (Qs hDA rfl)<|Qb<|xe ?_
   refine Qg<|QC (α:=Nat×Value×Value×LI×LI) [(17,18),(79,107)] (λz=>[(79,.int .i64 z.1)])
    (λz w'=>z.1≤D.length∧Step [b10] w9 w'∧Q0 w'.heap b10 170 (Jk z.2.1 z.2.2.1 vr rn)∧Qt 3 w9.heap.size w' z.2.1 z.2.2.2.1∧Qt 3 w9.heap.size w' z.2.2.1 z.2.2.2.2∧Dj z.2.1 z.2.2.1∧z.2.2.2.1.length≤z.1∧z.2.2.2.2.length≤z.1) (λz=>D.length - z.1) (by rfl) (0,nS,nS,[],[]) ⟨rfl,trivial⟩
    ⟨Nat.zero_le _,Step.refl _ _,hB8'.ext hs9,QO _ _ _ _,QO _ _ _ _,Dj.nil' _,Nat.le_refl _,Nat.le_refl _⟩ ?_
   rintro ⟨i,vk,vd,lk,ld⟩ g w10 ⟨hi,hs10,hB10',hK,hDd,hdj,hlk,hld⟩
   simp only[] at hi hB10' hK hDd hdj hlk hld
   have hz10:=hs10.size
   have hst10:Step [b10,q.bl] w4 w10:=hst9.then hs10 (λb hb=>.inl (by simp only[List.mem_singleton] at hb;simp[hb]))
   have hF10:Q0 w10.heap q.bl 4 (lf.map Value.bool):=hF9.step hs10 (by simpa using hne.symm)
   refine Qc<|x (QB rfl rfl)<|xe ?_
   refine Qf<|QH rfl (λh80=>?_) (λh80=>?_)
   ·refine Qz ?_
    refine Qc<|Qb<|xl rfl<|xf<|(Uk (hPz hst10) hq hF10 hI7.n).mono ?_
    rintro r11 w11 ⟨hs11,_,o,rfl,⟨sa,sm,se,rfl,hSA11⟩,ho1⟩
    rw[←hsy] at hSA11
    have hS0:=hSA11 [] (by simp)
    have hz11:=hs11.size
    refine Qb<|x (Qp rfl rfl)<|x (Qp rfl rfl)<|x (Qa rfl)<|xl rfl<|XW (us:=[sa,.int .i64 SA.st,sm,se]) (hB10'.ext hs11) rfl (by rw[←hsy];rfl) rfl (by simp) ⟨hS0.al.one,rfl,hS0.mr.one,hS0.ed.one,trivial⟩ rfl λw12 hs12 hB12 =>
     x (Qa rfl)<|xl rfl<|QG (j:=8) (u:=o) hB12 rfl rfl (by simp) ho1 λw13 hs13 hB13=>xe ?_
    have hb8n:b8∉[b10,q.bl]:=by simp only[List.mem_cons,List.not_mem_nil,or_false];omega
    have hb810:b8∉[b10]:=by simp only[List.mem_singleton];omega
    have hB8f:=(((((hB8.ext (hs3.trans hs4)).step hst10 hb8n).ext hs11).step hs12 hb810).step hs13 hb810)
    refine Qc<|x (Qr hB13 rfl rfl)<|xl rfl<|Qo (us:=[vk,vd,vr,.int .i64 rn,sa,.int .i64 SA.st,sm,se,o]) hB8f rfl rfl rfl rfl ⟨QF hK,QF hDd,hvr,rfl,hS0.al.one,rfl,hS0.mr.one,hS0.ed.one,ho1,trivial⟩ λw14 hs14 hB14=>xe ?_
    have hup:∀b∈[b10,q.bl],w.heap.size≤b:=λb hb=>by simp only[List.mem_cons,List.not_mem_nil,or_false] at hb;omega
    have hfin:Step [] w w14:=((((hs04.then hst10 (λb hb=>.inr (hup b hb))).trans hs11).then1 hs12 (by omega)).then1 hs13 (by omega)).then1 hs14 (by omega)
    refine Qm ⟨[.agg [vk,vd,vr,.int .i64 rn,sa,.int .i64 SA.st,sm,se,o].toArray],⟨⟨_,rfl,QA rfl (hB14.at (L:=[]) (by simp)).cells⟩,trivial⟩,hfin,vk,vd,vr,.int .i64 rn,sa,sm,se,o,rfl,⟨QF hK,QF hDd,hvr,rfl,ho1,trivial⟩,λL hL=>?_⟩
    have h1:=hSA11 (b10::b8::L) (λb hb=>by
     simp only[List.mem_cons] at hb
     rcases hb with rfl | rfl | hb
     ·omega
     ·omega
     ·have:=hL b hb;omega)
    have h2:=((h1.st (hs12.mono (by simp))).st (hs13.mono (by simp))).st (hs14.mono (by simp))
    exact h2.up (λb hb=>.inl (by simp[hb]))
   refine Qi ?_
   have hilt:i<D.length:=by have h81:(i:Int)<(D.length:Int):=h80;omega
   have hil:i<lf.length:=by rw[hI7.n,←hDl];exact hilt
   have hlf:lf[i]'hil=lf.getD i false:=by simp[List.getD,hil]
   refine Qf<|Qg<|Qc<|Qb<|xii (i:=i) (hDA.st hs10) rfl rfl hilt λa82 h82=>?_
   refine Q8 (D[i]'hilt) λd hd=>?_
   rw[hd] at h82
   refine x (Qv h82 rfl)<|x Qh<|Qe<|Qc<|Qb<|x (QI rfl)<|x (Qa rfl)<|x (Qd (hPz hst10).B rfl rfl)<|Qb<|x (Zf (i:=i) rfl rfl (by omega))<|x (v:=.bool (lf.getD i false)) ((Xz (i:=i) hF10 rfl hil).trans (by rw[hlf]))<|xe ?_
   refine Q2 rfl (λh90=>?_) (λh90=>?_)
   ·have hb10k:∀{v:Value} {l:LI} {w':World},Qt 3 w9.heap.size w' v l→b10∉ob v:=λho hm=>by have:=(Qk ho b10 hm).1;omega
    refine Qc<|x (Qa rfl)<|x (Qa rfl)<|x (Qd hB10' rfl rfl)<|Qb<|xl rfl<|QD (us:=[[.int .i64 i]]) rfl rfl (by decide) (by simp) ⟨rfl,rfl,trivial⟩ λb95 y1 hy1 hb95 hB95=>xl rfl<|QY (m:=1) (news:=[.int .i64 i]) (L:=[]) (Qq hK hy1) rfl rfl rfl (hB95.at (by simp)) (by simp[Value.oneCell']) (by omega) (by have:=hy1.size;omega) λvk2 y2 hoy2 hy2 hn2 =>
     x (Qa rfl)<|x (Qa rfl)<|xl rfl<|QG (j:=0) (u:=vk2) ((hB10'.ext hy1).step hy2 (hb10k hK)) rfl rfl (by simp) (QF hoy2) λy3 hy3 hB3=>xe ?_
    have hK2:Qt 3 w9.heap.size y2 vk2 (lk++[(i:Int)]):=Qt.snoc hoy2
    have hzy1:=hy1.size
    have hzy2:=hy2.size
    have hzy3:=hy3.size
    have hD2:Qt 3 w9.heap.size y2 vd ld:=Qj (Qq hDd hy1) hy2 (λb hb hm=>hdj b hm hb)
    have hdj2:Dj vk2 vd:=λb hb hm=>by
     rcases hn2 b hb with h1 | h1
     ·exact hdj b h1 hm
     ·have:=QQ hDd b hm;omega
    have hs3':∀{v:Value} {l:LI},Qt 3 w9.heap.size y2 v l→Qt 3 w9.heap.size y3 v l:=λho=>Qj ho hy3 (λb hb hm=>by simp only[List.mem_singleton] at hm;subst hm;exact hb10k ho hb)
    have hK3:=hs3' hK2
    have hD3:=hs3' hD2
    have hs913:Step [b10] w9 y3:=(((hs10.trans hy1).then hy2 (λb hb=>.inr (Qk hK b hb).1))).trans' hy3
    refine Qw<|x (Qa rfl)<|x (Qa rfl)<|x (Qd hB3 rfl rfl)<|Qb<|xl rfl<|QD (us:=[[.int .i64 d]]) rfl rfl (by decide) (by simp) ⟨rfl,rfl,trivial⟩ λb103 y4 hy4 hb103 hB103=>xl rfl<|QY (m:=1) (news:=[.int .i64 d]) (L:=[]) (Qq hD3 hy4) rfl rfl rfl (hB103.at (by simp)) (by simp[Value.oneCell']) (by omega) (by have:=hy4.size;omega) λvd2 y5 hoy5 hy5 hn5 =>
     x (Qa rfl)<|x (Qa rfl)<|xl rfl<|QG (j:=1) (u:=vd2) ((hB3.ext hy4).step hy5 (hb10k hD3)) rfl rfl (by simp) (QF hoy5) λy6 hy6 hB6=>xe ?_
    have hD5:Qt 3 w9.heap.size y5 vd2 (ld++[d]):=Qt.snoc hoy5
    have hK5:Qt 3 w9.heap.size y5 vk2 (lk++[(i:Int)]):=Qj (Qq hK3 hy4) hy5 (λb hb hm=>hdj2 b hb hm)
    have hzy4:=hy4.size
    refine Qw<|x (Qx rfl rfl ⟨by omega,by omega⟩)<|Qb<|xe ?_
    refine ⟨(i+1,vk2,vd2,_,_),by simp only[];omega,⟨rfl,trivial⟩,hilt,(((hs913.trans hy4).then hy5 (λb hb=>.inr (Qk hD3 b hb).1))).trans' hy6,hB6,Qj hK5 hy6 (λb hb hm=>by simp only[List.mem_singleton] at hm;subst hm;exact hb10k hK5 hb),Qj hD5 hy6 (λb hb hm=>by simp only[List.mem_singleton] at hm;subst hm;exact hb10k hD5 hb),λb hb hm=>?_,by simp only[List.length_append,List.length_singleton];omega,by simp only[List.length_append,List.length_singleton];omega⟩
    rcases hn5 b hm with h1 | h1
    ·exact hdj2 b hb h1
    ·have:=QQ hK3 b hb;omega
   ·refine Qi<|Qw<|x (Qx rfl rfl ⟨by omega,by omega⟩)<|Qb<|xe ?_
    exact ⟨(i+1,vk,vd,lk,ld),by simp only[];omega,⟨rfl,trivial⟩,hilt,hs10,hB10',hK,hDd,hdj,by simp only[];omega,by simp only[];omega⟩
  refine Qi ?_
  have hl0:¬l.length=0:=λe=>h48 (by show (l.length:Int)=0;omega)
  have hnl0:(nxs q.a q.unc lf).length≠0:=by rw[hnl];exact hl0
  have hless:=Qd5 hnl0
  refine Exists.elim (Nat.exists_eq_succ_of_ne_zero (show f≠0 by omega)) λf' hfe=>?_
  subst hfe
  rw[Qcd hnl0,←hl7] at hres
  rw[←hl7] at hless
  refine Exists.elim (QhN (rk:=(rank:Int)) (rs:=rs) l (λx hx=>by have:=hrg x hx;omega)) λln hln=>?_
  have hz67:=hs7.size
  refine Qf<|Qc<|Qb<|x (Qs hlA rfl)<|Qb<|xe ?_
  refine Qg<|QC (α:=Nat) [(16,16),(51,62)] (λz=>[(51,.int .i64 z)]) (λz w'=>z≤l.length∧Step [q.bl] w7 w'∧ReI b10 q w4 (((l.take z).map (·.1)).foldl cut lf) rn vr lz w') (λz=>l.length - z) (by rfl) 0 ⟨rfl,trivial⟩ ⟨Nat.zero_le _,Step.refl _ _,hI7⟩ ?_
  rintro j g w8 ⟨hj,hs8,hI8⟩
  have hrn:∀b∈ob r7,b≠q.bl:=λb hb e=>by have:=(Qk hO7 b hb).1;have:=hI.st.size;omega
  have hO8:RmO w6.heap.size w8 r7 rank rs l:=Qj hO7 hs8 (λb hb hm=>hrn b hb (by simpa using hm))
  have hlA8:Zo [q.bl] w8.heap r7 l.length 4 (l.flatMap (yy rank rs)):=QS hO8 (by omega) (λb hb hm=>hrn b hb (by simpa using hm))
  refine Qc<|x (QB rfl rfl)<|xe ?_
  refine Qf<|QH rfl (λh52=>?_) (λh52=>?_)
  ·refine Qz ?_
   have hje:l.length≤j:=by have h53:¬(j:Int)<(l.length:Int):=h52;omega
   rw[List.take_of_length_le hje] at hI8
   obtain ⟨ad,cap7,hr7,_,hAt7⟩:∃ad cap,r7=.slice (some ad) l.length cap∧l.length≤cap∧At [q.bl] w8.heap ad (l.flatMap (yy rank rs)):=by
    rcases hlA8.2.2 with ⟨_,h0⟩ | h1
    ·exact absurd h0 hl0
    ·exact h1
   have hlnl:ln.length*4=l.length*4:=by rw[hln.2]
   refine Qc<|x (Qa rfl)<|x (Qa rfl)<|x (Qd hI8.B10 rfl rfl)<|Qb<|xl rfl<|QY (m:=l.length) (news:=l.flatMap (yy rank rs)) (L:=[q.bl]) hI8.R rfl hr7 (by rw[←hln.1,zi,hln.2]) hAt7 (by rw[←hln.1];exact Qa7 ln) (by omega) hI8.st.size λv22 w22 ho22 hs22 hn22 =>
    x (Qa rfl)<|x (Qa rfl)<|xl rfl<|QG (j:=2) (u:=v22) (hI8.B10.step hs22 (λhb=>by have:=(Qk hI8.R _ hb).1;omega)) rfl rfl (by simp) (QF ho22) λw23 hs23 hB23=>xe ?_
   have hR22:RzO w4.heap.size w22 v22 (lz++ln):=RzO.snoc (by rw[hln.1,hln.2];exact ho22)
   have hI23:=hI8.app hlb hl10 hne hs22 hR22 hs23 hB23
   refine Qw<|Qb<|x (Qa rfl)<|xl rfl<|QG (j:=3) (u:=.int .i64 rank) hI23.B10 rfl rfl (by simp) rfl λw24 hs24 hB24=>xe ?_
   have hI24:=hI23.rounds hl10 hne hs24 hB24
   have hra:(-9223372036854775808:Int)≤(rank:Int)+1:=by omega
   have hrb:(rank:Int)+1≤9223372036854775807:=by omega
   refine Qw<|Qb<|x (Qx rfl rfl ⟨hra,hrb⟩)<|Qe ?_
   exact ⟨(f',rank+1,(rank:Int),v22,lz++ln,(l.map (·.1)).foldl cut lf),by simp only[];omega,⟨rfl,trivial⟩,hI24,by simp only[];omega,by simp only[List.length_append];omega,hres,by simp only[];omega⟩
  refine Qi ?_
  have hjlt:j<l.length:=by have h53:(j:Int)<(l.length:Int):=h52;omega
  have htk:l.take (j+1)=l.take j++[l[j]'hjlt]:=List.take_succ_eq_append_getElem hjlt
  have hfo:((l.take (j+1)).map (·.1)).foldl cut lf=cut (((l.take j).map (·.1)).foldl cut lf) (l[j]'hjlt).1:=by rw[htk,List.map_append,List.foldl_append];rfl
  have hxr:=hrg (l[j]'hjlt).1 (List.mem_map_of_mem (List.getElem_mem hjlt))
  refine Q8 (l[j]'hjlt) λy hy=>?_
  rw[hy] at hfo hxr
  have hyn:y.1=(y.1.toNat:Int):=by omega
  refine Qf<|Qg<|Qc<|xig (g:=yy rank rs) (i:=j) (QaW rank rs) hlA8 rfl rfl hjlt λa53 h53=>?_
  rw[hy] at h53
  refine x (QJ h53 rfl rfl)<|xl rfl<|Qu (us:=[.int .i64 0,.int .i64 0,.int .i64 0,.int .i64 0]) rfl λb16 w9 hs9 hb16 hB16=>xl rfl<|Qo (us:=yy rank rs y) hB16 rfl rfl rfl rfl ⟨rfl,rfl,rfl,rfl,trivial⟩ λw10 hs10 hB16=>xe ?_
  have hs810:Step [] w8 w10:=hs9.then1 hs10 hb16
  have hI10:=hI8.ext hs810
  have hnn:=hI8.n
  refine QU (Step [] w10) [(0,true),(1,true),(2,true),(3,true),(4,true),(5,true),(6,true),(7,false)] mixed (by rfl) (by kernel_rfl) (Step.drew _ _) ?_
  refine p (λ_=>Qn)<|p (λ_=>QI rfl)<|p (λ_=>Qa rfl)<|pq (λ_ hc=>Qd ((hPz hI10.st).B.ext hc) rfl rfl)<|p (λ_=>Qa rfl)<|pq (λ_ hc=>Qd (hB16.ext hc) rfl rfl) <|
   p (λ_=>Zf (i:=y.1.toNat) rfl (congrArg (Value.int .i64) hyn) (by omega))<|pkl (hl:=by kernel_rfl)<|Ul (i:=y.1.toNat) (hI10.F.ext (Step.drew _ _)) rfl rfl (by omega) λw11 hs11 hF11=>pe ?_
  refine Qw<|x (Qx rfl rfl ⟨by omega,by omega⟩)<|Qb<|xe ?_
  refine ⟨j+1,by omega,⟨rfl,trivial⟩,hjlt,((hs8.trans hs810).trans (Step.drew _ _)).trans' hs11,?_⟩
  rw[hfo]
  exact (hI10.ext (Step.drew _ _)).cut hlb hne hs11 hF11 (by rw[QbB];exact hnn)
 refine Qi ?_
 have hklt:k<forb.length:=by have h27:(k:Int)<(forb.length:Int):=h26;omega
 have hxk:=hfb _ (List.getElem_mem hklt)
 refine Q8 (forb[k]'hklt) λy hy=>?_
 rw[hy] at hxk
 refine Qf<|Qg<|Qc<|xii (i:=k) hf5 rfl rfl hklt λa27 h27=>?_
 rw[hy] at h27
 refine x (Qv h27 rfl)<|Qe<|Qc<|x (Qa rfl)<|x (Qa rfl)<|x (Qd hI.B10 rfl rfl)<|Qb<|x (QE ⟨rfl,rfl,rfl,rfl,trivial⟩)<|xl rfl<|QD (us:=[[.int .i64 y,.int .i64 1,.int .i64 1,.int .i64 (-1)]]) rfl rfl (by decide) (by simp) ⟨rfl,rfl,trivial⟩ λb34 w6 hs6 hb34 hB34=>?_
 have hI6:=hI.ext hs6
 refine xl rfl<|QY (m:=1) (news:=[.int .i64 y,.int .i64 1,.int .i64 1,.int .i64 (-1)]) (L:=[]) hI6.R rfl rfl rfl (hB34.at (by simp)) (by simp[Value.oneCell']) (by omega) hI6.st.size λv7 w7 ho7 hs7 hn7 =>
  x (Qa rfl)<|x (Qa rfl)<|xl rfl<|QG (j:=2) (u:=v7) (hI6.B10.step hs7 (λhb=>by have:=(Qk hI6.R _ hb).1;omega)) rfl rfl (by simp) (QF ho7) λw8 hs8 hB8'=>xe ?_
 have hR7:RzO w4.heap.size w7 v7 (lz++[⟨(y,1,1,-1),by simp only[];omega⟩]):=RzO.snoc ho7
 have hI8:=hI6.app hlb hl10 hne hs7 hR7 hs8 hB8'
 refine Qw<|x (Qa rfl)<|xl rfl<|QG (j:=3) (u:=.int .i64 1) hI8.B10 rfl rfl (by simp) rfl λw9 hs9 hB9=>xe ?_
 have hI9:=hI8.rounds hl10 hne hs9 hB9
 refine Qw<|x (Qx rfl rfl ⟨by omega,by omega⟩)<|Qb<|xe ?_
 exact ⟨(k+1,1,v7,_),by simp only[];omega,⟨rfl,trivial⟩,hklt,hI9,by simp only[List.length_append,List.length_singleton];omega,.inr rfl⟩
instance:Bw prog 170 (Jk (nS) (nS) (nS) 0) [(0,3),(3,1),(4,4),(8,1)]:=⟨by kernel_rfl,by decide⟩
theorem Qic {c:Zu}{pl:QT}{ps:List (LI)}{l:List (LI)}:∀r∈spF c pl ps l,0≤r.st∧r.st<(l.length:Int):=λr hr=>by
 unfold spF at hr
 obtain ⟨⟨t,i⟩,hp,h1⟩:=List.mem_filterMap.1 hr
 have hi:=List.snd_lt_add_of_mem_zipIdx hp
 simp only[Nat.zero_add] at hi
 have h2:r.st=(i:Int):=by
  simp only[] at h1
  unfold rsn at h1
  split at h1
  ·cases h1;rfl
  ·split at h1
   ·cases h1;rfl
   ·cases h1
 omega
theorem Qia {c:Zu}(h:Yv c=0):Zm (spc c).a∧(∀x∈fbs (spc c),0≤x∧x<(spc c).a.st)∧(fbs (spc c)).length≤4096∧(spc c).fb.length≤4096∧Jc c.ev=0:=by
 unfold Yv at h
 by_cases h1:Zd c≠0
 ·rw[if_pos h1] at h;exact absurd h h1
 rw[if_neg h1] at h
 have hck:Zd c=0:=Decidable.not_not.1 h1
 have hok:=ZS hck
 by_cases h2:K9 (auts c.co)≠0
 ·rw[if_pos h2] at h;exact absurd h h2
 rw[if_neg h2] at h
 cases hs:sync (auts c.co) with
 | none=>rw[hs] at h;cases h
 | some z =>
  rw[hs] at h
  simp only[] at h
  by_cases h3:K9 (auts c.co++auts c.rq)≠0
  ·rw[if_pos h3] at h;exact absurd h h3
  rw[if_neg h3] at h
  cases hs2:sync (auts c.co++auts c.rq) with
  | none=>rw[hs2] at h;cases h
  | some y =>
   have ho:∀a∈auts c.co++auts c.rq,Zm a:=λa ha=>by
    rcases List.mem_append.1 ha with ha | ha
    ·exact Yd hok.co a ha
    ·exact Yd hok.rq a ha
   have hsp:=(Y9 ho (A:=y.1) (Q:=y.2) hs2).1
   have he:=jQ (c:=c) (pl:=z.1) (ps:=z.2) (sa:=y.1) (ts:=y.2) hs hs2
   have hl:=QaS c z.1 z.2 y.2
   have hle:=hsp.le
   rw[he]
   unfold fbs
   refine ⟨hsp.okay ho,λx hx=>?_,by rw[List.length_map];simp only[];omega,by simp only[];omega,hok.e0⟩
   obtain ⟨r,hr,rfl⟩:=List.mem_map.1 hx
   have:=Qic r hr
   rw[hsp.st];exact this
theorem st4 (r:Rsn):(Zw r).length=4:=rfl
set_option maxHeartbeats 4000000 in
theorem jL {L:LN}{w:World}{c:CL}(h0:Zv L w.heap c) (hkb:Kb w 4096) :
  QL prog 79 [c.val] w λr w'=>Step [] w w'∧∃us c0 c1 c2 c3 sa sm se o,r=.tuple #[.agg us.toArray,.agg #[c0,c1,c2,c3,sa,.int .i64 (if Yv c.cel=0 then (suA c.cel).st else 0),sm,se,o],.int .i64 (Yv c.cel)]∧us.length=8∧ZL us∧ZL [c0,c1,c2,c3,sa,sm,se,o] ∧
   (Yv c.cel≠0→sa=nS∧sm=nS∧se=nS)∧(Yv c.cel=0→∀L:LN,(∀b∈L,b<w.heap.size)→Zr L w'.heap sa sm se (suA c.cel)):=by
 have h:=h0.up (L':=[]) (by simp)
 have hsu:suA c.cel=zd (spc c.cel).a (fbs (spc c.cel)) (unc c.cel.ev):=rfl
 have hev:c.cel.ev=c.ev:=rfl
 have hsk:=Qia (c:=c.cel)
 refine Q8 (suA c.cel) λSA hSA=>?_
 rw[hSA] at hsu ⊢
 have hsp0:=Kp (h.ext (Step.refl [] w)) hkb
 refine Q8 (Yv c.cel) λE hE=>?_
 rw[hE] at hsk ⊢
 refine Q8 (spc c.cel) λS hS=>?_
 rw[hS] at hsk hsu
 rw[hev] at hsk hsu
 refine QL.of_W func79 rfl ntmps79 results79 (by simp) ?_
 refine Qc<|xl rfl<|QR (us:=c.cells) rfl λb1 w1 hs1 hb1 hB1=>xl rfl<|Qu (us:=[nS,.int .i64 0,nS,nS,nS,nS,nS,nS]) rfl λb2 w2 hs2 hb2 hB2=>xl rfl<|Qu (us:=Jk (nS) (nS) (nS) 0) rfl λb3 w3 hs3 hb3 hB3=>Qe ?_
 have hs03:=(hs1.trans hs2).trans hs3
 have hz1:=hs1.size
 have hz2:=hs2.size
 have hz3:=hs3.size
 have hl2:=hB2.lt
 have hl3:=hB3.lt
 have hsp:=Kp (h.ext hs03) (hkb.ext hs03)
 rw[hE,hS] at hsp
 refine Qc<|x (Qr ((hB1.ext hs2).ext hs3) rfl rfl)<|xl rfl<|xf<|hsp.mono ?_
 rintro r4 w4 ⟨hs4,v,rfl,⟨us,rfl,hul,huo⟩,hF⟩
 have hz4:=hs4.size
 refine Qb<|x (Qp rfl rfl)<|x (Qp rfl rfl)<|xl rfl<|Qu (us:=[nS,.int .i64 0,nS,nS,nS,nS,nS,nS]) rfl λb5 w5 hs5 hb5 hB5=>xl rfl<|Qo (us:=us) hB5 rfl rfl hul rfl huo λw6 hs6 hB5=>Qe ?_
 have hs46:Step [] w4 w6:=hs5.then1 hs6 hb5
 have hz46:=hs46.size
 have hs06:=(hs03.trans hs4).trans hs46
 have hB2':=(hB2.ext (hs3.trans hs4)).ext hs46
 have hB3':=(hB3.ext hs4).ext hs46
 have hl5:=hB5.lt
 refine Qf<|Qc<|Qb<|x (Q9 rfl rfl)<|xe ?_
 refine Q6 rfl (λh17=>?_) (λh17=>?_)
 ·refine Qc<|x (ZQ [] trivial)<|x (ZQ [] trivial)<|Qb<|xl rfl<|Qo (us:=[nS,.int .i64 0,nS,nS,nS,nS,nS,nS]) hB2' rfl rfl rfl rfl ⟨rfl,rfl,rfl,rfl,rfl,rfl,rfl,rfl,trivial⟩ λw7 hs7 hB2'' =>
   xl rfl<|Qo (us:=Jk (nS) (nS) (nS) 0) (hB3'.step hs7 (by simp only[List.mem_singleton];omega)) rfl rfl rfl rfl ⟨rfl,rfl,rfl,rfl,rfl,rfl,rfl,rfl,rfl,trivial⟩ λw8 hs8 hB3''=>Qe<|Qm ⟨[.agg [nS,.int .i64 0,nS,nS,nS,nS,nS,nS].toArray,.agg (Jk (nS) (nS) (nS) 0).toArray,.int .i64 E],⟨⟨_,rfl,QA rfl ((hB2''.step hs8 (by simp only[List.mem_singleton];omega)).at (L:=[]) (by simp)).cells⟩,⟨_,rfl,QA rfl (hB3''.at (L:=[]) (by simp)).cells⟩,rfl,trivial⟩,(hs06.then1 hs7 (by omega)).then1 hs8 (by omega),[nS,.int .i64 0,nS,nS,nS,nS,nS,nS],nS,nS,nS,.int .i64 0,nS,nS,nS,nS,by rw[if_neg h17];rfl,rfl,⟨rfl,rfl,rfl,rfl,rfl,rfl,rfl,rfl,trivial⟩,⟨rfl,rfl,rfl,rfl,rfl,rfl,rfl,rfl,trivial⟩,λ_=>⟨rfl,rfl,rfl⟩,λe=>absurd e h17⟩
 have hE0:E=0:=Decidable.not_not.1 h17
 obtain ⟨hSok,hSf,hSl,hSl2,hevk⟩:=hsk hE0
 obtain ⟨va,vm,ve,v1,v2,v3,v4,cos,rqs,hve,_,_,hSL⟩:=hF hE0
 have hue:us=[va,.int .i64 S.a.st,vm,ve,v1,v2,v3,v4]:=by
  have h1:=congrArg (λv=>match v with | Value.agg a=>a.toList | _=>[]) hve
  simpa using h1
 subst hue
 have hS6:=(hSL [] (by simp))
 have hA6:=hS6.1.ext hs46
 have hfb6:=hS6.2.2.2.2.ext hs46
 refine Qi<|Qc<|Qe<|Qf<|Qc<|x (Qa rfl)<|x (Qd hB5 rfl rfl)<|x (Qs hfb6 rfl)<|Qb<|xe ?_
 refine Qg<|QC (α:=Nat×Value) [(7,7),(9,9),(24,33)] (λz=>[(7,z.2),(24,.int .i64 z.1)]) (λz w'=>z.1≤S.fb.length∧Step [] w6 w'∧Qt 3 w6.heap.size w' z.2 ((S.fb.take z.1).map (·.st))) (λz=>S.fb.length - z.1) (by rfl) (0,nS) ⟨rfl,rfl,trivial⟩ ⟨Nat.zero_le _,Step.refl _ _,QO _ _ _ _⟩ ?_
 rintro ⟨k,vf⟩ g w7 ⟨hk,hs7,hO7⟩
 simp only[] at hk hO7
 refine Qc<|x (QB rfl rfl)<|xe ?_
 refine Qf<|QH rfl (λh25=>?_) (λh25=>?_)
 ·refine Qz ?_
  have hke:S.fb.length≤k:=by have h26:¬(k:Int)<(S.fb.length:Int):=h25;omega
  rw[List.take_of_length_le hke] at hO7
  have hO7:Qt 3 w6.heap.size w7 vf (fbs S):=hO7
  have hs07:=hs06.trans hs7
  have hz7:=hs7.size
  refine Qc<|x (Qa rfl)<|x (Qd ((hB1.ext (hs2.trans hs3)).ext ((hs4.trans hs46).trans hs7)) rfl rfl)<|xl rfl<|xf<|(QcV (h.ev.ext hs07)).mono ?_
  rintro r10 w10 ⟨hs10,vu,rfl,hU⟩
  rw[if_pos hevk] at hU
  refine Qb<|x (Qp rfl rfl)<|x (Qp rfl rfl)<|x Qh<|Qe<|Qf<|Qc<|Qb<|x (Q9 rfl rfl)<|xe ?_
  refine Q6 rfl (λh41=>absurd hevk h41) (λ_=>?_)
  refine Qi ?_
  have hul:(unc c.ev).length≤1099511627776:=Nat.le_trans (KP _ c.ev 0) h.ev.arr.le
  have hs710:=hs7.trans hs10
  have hA10:=hA6.ext hs710
  have hd10:Step [] w10 { w10 with drawn:=w10.drawn+1 }:=Step.drew _ _
  have hB5':=hB5.ext hs710
  have hb52:b5∉[b2]:=by simp only[List.mem_singleton];omega
  have hz710:=hs710.size
  refine Qf<|QU (Step [b2] w10) [(0,true),(1,true),(2,true),(3,true),(4,true),(5,false),(6,false),(7,false),(8,true)] mixed (by rfl) (by kernel_rfl) (Step.drew _ _) ?_
  refine pq (λ_ hc=>Qr (hB5'.step hc hb52) rfl rfl)<|p (λ_=>Qa rfl)<|pq (λ_ hc=>Ys (us:=[va,.int .i64 S.a.st,vm,ve]) (hB5'.step hc hb52) rfl rfl rfl) <|
   p (λ_=>Qn)<|p (λ_=>Qn)<|pk<|xf<|(Qcc (hA10.ext hd10) hSok (((Qt.ints (L:=[]) hO7 (by omega) (by simp)).ext hs10).ext hd10) hSf hSl ((Qt.ints (L:=[]) hU hul (by simp)).ext hd10)).mono ?_
  rintro r13 w13 ⟨hs13,c0,c1,c2,c3,sa,sm,se,o,rfl,hones,hSA13⟩
  have hs1013:=hd10.trans hs13
  have hz13:=hs1013.size
  refine ⟨hs1013.any,?_⟩
  have hse:zd S.a (fbs S) (unc c.ev)=SA:=hsu.symm
  rw[hse] at hSA13
  have hS0:=hSA13 [] (by simp)
  refine pk<|Qo (us:=[va,.int .i64 S.a.st,vm,ve,v1,v2,v3,v4]) ((hB2'.ext hs710).ext hs1013) rfl rfl rfl rfl huo λw14 hs14 hB2=>⟨hs1013.any.trans' hs14,?_⟩
  refine pkl (hl:=by kernel_rfl)<|Qo (us:=[c0,c1,c2,c3,sa,.int .i64 SA.st,sm,se,o]) (((hB3'.ext hs710).ext hs1013).step hs14 (by simp only[List.mem_singleton];omega)) rfl (by rw[←hse];rfl) rfl rfl ⟨hones.1,hones.2.1,hones.2.2.1,hones.2.2.2.1,hS0.al.one,rfl,hS0.mr.one,hS0.ed.one,hones.2.2.2.2.1,trivial⟩ λw15 hs15 hB3=>p (λ_=>Qh)<|pe ?_
  have hb23:b2∉[b3]:=by simp only[List.mem_singleton];omega
  refine Qm ⟨[.agg [va,.int .i64 S.a.st,vm,ve,v1,v2,v3,v4].toArray,.agg [c0,c1,c2,c3,sa,.int .i64 SA.st,sm,se,o].toArray,.int .i64 0],⟨⟨_,rfl,QA rfl ((hB2.step hs15 hb23).at (L:=[]) (by simp)).cells⟩,⟨_,rfl,QA rfl (hB3.at (L:=[]) (by simp)).cells⟩,rfl,trivial⟩,
   (((hs06.trans hs710).trans hs1013).then1 hs14 (by omega)).then1 hs15 (by omega),_,c0,c1,c2,c3,sa,sm,se,o,by rw[hE0,if_pos rfl];rfl,rfl,huo,⟨hones.1,hones.2.1,hones.2.2.1,hones.2.2.2.1,hS0.al.one,hS0.mr.one,hS0.ed.one,hones.2.2.2.2.1,trivial⟩,λe=>absurd hE0 e,λ_ L hL=>?_⟩
  have hz06:=hs06.size
  have h1:=hSA13 (b2::b3::L) (λb hb=>by
   have hzd:({ w10 with drawn:=w10.drawn+1 }:World).heap.size=w10.heap.size:=rfl
   simp only[List.mem_cons] at hb
   rcases hb with rfl | rfl | hb
   ·omega
   ·omega
   ·have:=hL b hb;omega)
  exact ((h1.st (hs14.mono (by simp))).st (hs15.mono (by simp))).up (λb hb=>.inl (by simp[hb]))
 refine Qi ?_
 have hlt:k<S.fb.length:=by have h26:(k:Int)<(S.fb.length:Int):=h25;omega
 have htk:S.fb.take (k+1)=S.fb.take k++[S.fb[k]'hlt]:=List.take_succ_eq_append_getElem hlt
 have hml:((S.fb.take k).map (·.st)).length=k:=by rw[List.length_map,List.length_take];omega
 refine Q8 (S.fb[k]'hlt) λr hr=>?_
 rw[hr] at htk
 refine Qf<|Qg<|Qc<|xig (g:=Zw) (i:=k) st4 (hfb6.ext hs7) rfl rfl hlt λa26 h26=>?_
 rw[hr] at h26
 refine x (QJ h26 rfl rfl)<|xl rfl<|Qu (us:=[.int .i64 0,.int .i64 0,.int .i64 0,.int .i64 0]) rfl λb9 w8 hs8 hb9 hB9=>xl rfl<|Qo (us:=Zw r) hB9 rfl rfl rfl rfl ⟨rfl,rfl,rfl,rfl,trivial⟩ λw9 hs9 hB9=>xe ?_
 have hs79:Step [] w7 w9:=hs8.then1 hs9 hb9
 have hz79:=hs79.size
 have hz7:=hs7.size
 refine Qw<|Qb<|x (Qa rfl)<|x (Qd hB9 rfl rfl)<|xl rfl<|QD (us:=[[.int .i64 r.st]]) rfl rfl (by decide) (by simp) ⟨rfl,rfl,trivial⟩ λb31 w10 hs10 hb31 hB31 =>
  xl rfl<|QY (m:=1) (news:=[.int .i64 r.st]) (L:=[]) (Qq hO7 (hs79.trans hs10)) rfl rfl rfl (hB31.at (by simp)) (by simp[Value.oneCell']) (by omega) (by have:=hs10.size;omega) λv19 w11 ho11 hs11 hn11=>Qe<|Qw<|x (Qx rfl rfl ⟨by omega,by omega⟩)<|Qb<|xe ?_
 refine ⟨(k+1,v19),by simp only[];omega,⟨rfl,rfl,trivial⟩,hlt,((hs7.trans hs79).trans hs10).then hs11 (λb hb=>.inr (Qk hO7 b hb).1),?_⟩
 simp only[]
 rw[htk,List.map_append]
 exact Qt.snoc ho11
theorem qb {L:LN}{w:World}{c:CL}(h0:Zv L w.heap c) (hkb:Kb w 4096) :
  QL prog 32 [c.val] w λr w'=>Step [] w w'∧∃sa sm se,r=.tuple #[.agg #[sa,.int .i64 (if Yv c.cel=0 then (suA c.cel).st else 0),sm,se],.int .i64 (suE c.cel)]∧ZL [sa,sm,se] ∧
   (suE c.cel≠0→sa=nS∧sm=nS∧se=nS)∧(suE c.cel=0→∀L:LN,(∀b∈L,b<w.heap.size)→Zr L w'.heap sa sm se (suA c.cel)):=by
 have h:=h0.up (L':=[]) (by simp)
 have hsu:suE c.cel=Yv c.cel:=rfl
 rw[hsu]
 refine QL.of_W func32 rfl ntmps32 results32 (by simp) ?_
 refine Qc<|xl rfl<|QR (us:=c.cells) rfl λb1 w1 hs1 hb1 hB1=>xl rfl<|Qu (us:=[nS,.int .i64 0,nS,nS]) rfl λb2 w2 hs2 hb2 hB2=>Qe ?_
 have hs02:=hs1.trans hs2
 have hz1:=hs1.size
 have hz2:=hs2.size
 have hl2:=hB2.lt
 refine Qc<|x (Qr (hB1.ext hs2) rfl rfl)<|xl rfl<|xf<|(jL (h.ext hs02) (hkb.ext hs02)).mono ?_
 rintro r3 w3 ⟨hs3,us,c0,c1,c2,c3,sa,sm,se,o,rfl,hul,huo,hones,hbad,hgood⟩
 refine Q8 (if Yv c.cel=0 then (suA c.cel).st else 0) λN hN=>?_
 rw[hN]
 have hz3:=hs3.size
 refine Qb<|x (Qp rfl rfl)<|x (Qp rfl rfl)<|x (Qp rfl rfl)<|xl rfl<|Qu (us:=[nS,.int .i64 0,nS,nS,nS,nS,nS,nS]) rfl λb4 w4 hs4 hb4 hB4=>xl rfl<|Qu (us:=Jk (nS) (nS) (nS) 0) rfl λb5 w5 hs5 hb5 hB5 =>
  xl rfl<|Qo (us:=us) (hB4.ext hs5) rfl rfl hul rfl huo λw6 hs6 hB4'=>xl rfl<|Qo (us:=[c0,c1,c2,c3,sa,.int .i64 N,sm,se,o]) (hB5.step hs6 (by have:=hB4.lt;simp only[List.mem_singleton];omega)) rfl rfl rfl rfl ⟨hones.1,hones.2.1,hones.2.2.1,hones.2.2.2.1,hones.2.2.2.2.1,rfl,hones.2.2.2.2.2.1,hones.2.2.2.2.2.2.1,hones.2.2.2.2.2.2.2.1,trivial⟩ λw7 hs7 hB5'=>Qe ?_
 have hl4:=hB4.lt
 have hz4:=hs4.size
 have hz5:=hs5.size
 have hs37:Step [] w3 w7:=((hs4.trans hs5).then1 hs6 (by omega)).then1 hs7 (by omega)
 have hz37:=hs37.size
 refine Qc<|x (Qa rfl)<|x (Ys (us:=[sa,.int .i64 N,sm,se]) hB5' rfl rfl rfl)<|Qb<|xl rfl<|Qo (us:=[sa,.int .i64 N,sm,se]) ((hB2.ext hs3).ext hs37) rfl rfl rfl rfl ⟨hones.2.2.2.2.1,rfl,hones.2.2.2.2.2.1,hones.2.2.2.2.2.2.1,trivial⟩ λw8 hs8 hB2=>Qe<|Qm ⟨[.agg [sa,.int .i64 N,sm,se].toArray,.int .i64 (Yv c.cel)],⟨⟨_,rfl,QA rfl (hB2.at (L:=[]) (by simp)).cells⟩,rfl,trivial⟩,((hs02.trans hs3).trans hs37).then1 hs8 (by omega),sa,sm,se,rfl,⟨hones.2.2.2.2.1,hones.2.2.2.2.2.1,hones.2.2.2.2.2.2.1,trivial⟩,hbad,λe L hL=>?_⟩
 have h1:=hgood e (b2::L) (λb hb=>by
  simp only[List.mem_cons] at hb
  rcases hb with rfl | hb
  ·omega
  ·have:=hL b hb;omega)
 exact ((h1.ext hs37).st (hs8.mono (by simp))).up (λb hb=>.inl (by simp[hb]))
theorem QgL {L:LN}{H:Array Obj}{b T:Nat}{n:Int}(h:Q0 H b T [.int .i64 n]) (hb:b∉L):QM L H (.slice (some ⟨b,0,none⟩) 1 1) [n] :=
 h.arr hb (n:=1) (cap:=1) (sz:=1) rfl (by omega) (Nat.le_refl _)
set_option maxHeartbeats 4000000 in
theorem yO {L:LN}{w:World}{c:CL}{q:MV}(h0:Zv L w.heap c) (hm0:QM L w.heap q.v q.co) :
  QL prog 18 [c.val,.agg #[.int .i64 q.kd,.int .i64 q.ix,q.v]] w λr w'=>Step [] w w'∧∃us,r=.tuple #[.agg us.toArray,.int .i64 (mcE c.cel q.m)]∧us.length=5∧ZL us∧(mcE c.cel q.m≠0→us=ZW)∧(mcE c.cel q.m=0→QfU w.heap.size w'.heap (.agg us.toArray) (mcC c.cel q.m)):=by
 have h:=h0.up (L':=[]) (by simp)
 have hm:=hm0.up (L':=[]) (by simp)
 have hr:mcE c.cel q.m=if mdE c.cel q.m≠0 then mdE c.cel q.m else zh c.cel (prt q.m):=rfl
 have hcc:mcC c.cel q.m=Qb8 c.cel (prt q.m):=rfl
 rw[hcc]
 refine Q8 (mcE c.cel q.m) λE hE=>?_
 rw[hE] at hr ⊢
 refine QL.of_W func18 rfl ntmps18 results18 (by simp) ?_
 refine Qc<|xl rfl<|QR (us:=c.cells) rfl λb2 w1 hs1 hb2 hB2=>xl rfl<|QR (us:=Zn q) rfl λb3 w2 hs2 hb3 hB3=>xl rfl<|Qu (us:=ZW) rfl λb4 w3 hs3 hb4 hB4=>Qe ?_
 have hs03:=(hs1.trans hs2).trans hs3
 have hz1:=hs1.size
 have hz2:=hs2.size
 have hz3:=hs3.size
 have hl4:=hB4.lt
 refine Qf<|Qc<|x (Qr ((hB2.ext hs2).ext hs3) rfl rfl)<|x (Qr (hB3.ext hs3) rfl rfl)<|xl rfl<|xf<|(qH (h.ext hs03) (hm.ext hs03)).mono ?_
 rintro r4 w4 ⟨rfl,hs4⟩
 refine Qe ?_
 have hs04:=hs03.trans hs4
 have hz4:=hs4.size
 have hB24:=((hB2.ext hs2).ext hs3).ext hs4
 have hB34:=(hB3.ext hs3).ext hs4
 have hB44:=hB4.ext hs4
 refine Qc<|Qb<|x (Q9 rfl rfl)<|xe ?_
 refine Q6 rfl (λh13=>?_) (λh13=>?_)
 ·rw[if_pos h13] at hr
  subst hr
  refine Qc<|x (QE trivial)<|Qb<|xl rfl<|Qo (us:=ZW) hB44 rfl rfl rfl rfl ⟨rfl,rfl,rfl,rfl,rfl,trivial⟩ λw5 hs5 hB45=>Qe ?_
  exact Qm ⟨[.agg ZW.toArray,.int .i64 (mdE c.cel q.m)],⟨⟨_,rfl,QA rfl (hB45.at (L:=[]) (by simp)).cells⟩,rfl,trivial⟩,hs04.then1 hs5 (by omega),ZW,rfl,rfl,⟨rfl,rfl,rfl,rfl,rfl,trivial⟩,λ_=>rfl,λh0=>absurd h0 h13⟩
 rw[if_neg h13] at hr
 subst hr
 refine Qi<|Qc<|x (Qa rfl)<|x (Qd hB34 rfl rfl)<|x (QE ⟨hm.cells,trivial⟩)<|xl rfl<|Qu (us:=[nS,nS,nS,nS]) rfl λb7 w6 hs6 hb7 hB7=>xl rfl<|Qo (us:=[q.v,nS,nS,nS]) hB7 rfl rfl rfl rfl ⟨hm.one,rfl,rfl,rfl,trivial⟩ λw7 hs7 hB77 =>
  xe ?_
 have hs47:Step [] w4 w7:=hs6.then1 hs7 hb7
 have hz47:=hs47.size
 have hl7:=hB77.lt
 refine Qc<|x (Qa rfl)<|x (Qd (hB34.ext hs47) rfl rfl)<|xl rfl<|QD (us:=[[.int .i64 q.ix]]) rfl rfl (by decide) (by simp) ⟨rfl,rfl,trivial⟩ λb21 w8 hs8 hb21 hB21 =>
  Qe ?_
 have hs48:=hs47.trans hs8
 have hs08:=hs04.trans hs48
 have hz8:=hs8.size
 have hB78:=hB77.ext hs8
 have hb7u:w.heap.size≤b7:=by omega
 refine QV (α:=Value×Value×Value) [(22,33)] (λ_=>[]) (λz w'=>Step [b7] w8 w'∧Q0 w'.heap b7 95 [q.v,z.1,z.2.1,z.2.2]∧QM [] w'.heap z.1 (prt q.m).rq∧QM [] w'.heap z.2.1 (prt q.m).ex∧QM [] w'.heap z.2.2 (prt q.m).cs) (by rfl) ?_ ?_
 ·have hlit:∀{w':World},Step [b7] w8 w'→QM [] w'.heap (.slice (some ⟨b21,0,none⟩) 1 1) [q.ix]:=λhs=>QgL (hB21.step hs (by simp only[List.mem_singleton];omega)) (by simp)
  refine Qc<|x (Qa rfl)<|x (Qd (hB34.ext hs48) rfl rfl)<|xe ?_
  refine Qg<|Qc<|x (Q5 rfl rfl)<|Qe<|Q6 rfl (λh26=>?_) (λh26=>?_)
  ·have hk1:q.kd=1:=h26
   refine Qw<|Qb<|x (Qa rfl)<|xl rfl<|QG (j:=1) (u:=.slice (some ⟨b21,0,none⟩) 1 1) hB78 rfl rfl (by simp) rfl λw9 hs9 hB79=>xe ?_
   refine ⟨(.slice (some ⟨b21,0,none⟩) 1 1,nS,nS),trivial,hs9,hB79,?_,?_,?_⟩
   ·show QM _ _ _ (if q.kd=1 then [q.ix] else []);rw[if_pos hk1];exact hlit hs9
   ·show QM _ _ _ (if q.kd=2 then [q.ix] else []);rw[if_neg (by omega)];exact X9 _ _
   ·show QM _ _ _ (if q.kd≠1∧q.kd≠2 then [q.ix] else []);rw[if_neg (by omega)];exact X9 _ _
  have hk1:¬q.kd=1:=h26
  refine Qc<|x (Q5 rfl rfl)<|Qe<|Q6 rfl (λh30=>?_) (λh30=>?_)
  ·have hk2:q.kd=2:=h30
   refine Qw<|Qb<|x (Qa rfl)<|xl rfl<|QG (j:=2) (u:=.slice (some ⟨b21,0,none⟩) 1 1) hB78 rfl rfl (by simp) rfl λw9 hs9 hB79=>xe ?_
   refine ⟨(nS,.slice (some ⟨b21,0,none⟩) 1 1,nS),trivial,hs9,hB79,?_,?_,?_⟩
   ·show QM _ _ _ (if q.kd=1 then [q.ix] else []);rw[if_neg hk1];exact X9 _ _
   ·show QM _ _ _ (if q.kd=2 then [q.ix] else []);rw[if_pos hk2];exact hlit hs9
   ·show QM _ _ _ (if q.kd≠1∧q.kd≠2 then [q.ix] else []);rw[if_neg (by omega)];exact X9 _ _
  have hk2:¬q.kd=2:=h30
  refine Qw<|Qb<|x (Qa rfl)<|xl rfl<|QG (j:=3) (u:=.slice (some ⟨b21,0,none⟩) 1 1) hB78 rfl rfl (by simp) rfl λw9 hs9 hB79=>xe ?_
  refine ⟨(nS,nS,.slice (some ⟨b21,0,none⟩) 1 1),trivial,hs9,hB79,?_,?_,?_⟩
  ·show QM _ _ _ (if q.kd=1 then [q.ix] else []);rw[if_neg hk1];exact X9 _ _
  ·show QM _ _ _ (if q.kd=2 then [q.ix] else []);rw[if_neg hk2];exact X9 _ _
  ·show QM _ _ _ (if q.kd≠1∧q.kd≠2 then [q.ix] else []);rw[if_pos ⟨hk1,hk2⟩];exact hlit hs9
 rintro ⟨v1,v2,v3⟩ g w9 ⟨hs9,hB79,hI1,hI2,hI3⟩
 simp only[] at hB79 hI1 hI2 hI3
 have hs09:Step [] w w9:=hs08.then1 hs9 hb7u
 have hz9:=hs9.size
 have hB29:Q0 w9.heap b2 47 c.cells:=(hB24.ext hs48).step hs9 (by have:=hB2.lt;simp only[List.mem_singleton];omega)
 have hB49:Q0 w9.heap b4 47 ZW:=(hB44.ext hs48).step hs9 (by simp only[List.mem_singleton];omega)
 refine Qc<|x (Qr hB29 rfl rfl)<|x (Qr hB79 rfl rfl)<|xl rfl<|xf<|(Qaw (p:=prt q.m) (h.ext hs09) (hm.ext hs09) hI1 hI2 hI3).mono ?_
 rintro r10 w10 ⟨hs10,us,rfl,hul,huo,hbad,hgood⟩
 have hz10:=hs10.size
 refine x (Qp rfl rfl)<|x (Qp rfl rfl)<|xl rfl<|Qo (us:=us) (hB49.ext hs10) rfl rfl hul rfl huo λw11 hs11 hB411=>Qe<|Qm ⟨[.agg us.toArray,.int .i64 (zh c.cel (prt q.m))],⟨⟨_,rfl,QA hul (hB411.at (L:=[]) (by simp)).cells⟩,rfl,trivial⟩,(hs09.trans hs10).then1 hs11 (by omega),us,rfl,hul,huo,hbad,λe=>?_⟩
 obtain ⟨cl,e1,e2,e3⟩:=hgood e
 refine ⟨cl,e1,e2,λL hL=>?_⟩
 have h1:=e3 (b4::L) (λb hb=>by
  rcases List.mem_cons.1 hb with rfl | hb
  ·omega
  ·have:=hL b hb;have:=hs09.size;omega)
 exact (h1.st (hs11.mono (by simp))).up (λb hb=>.inl (by simp[hb]))
set_option maxHeartbeats 4000000 in
theorem Qbj {L:LN}{w:World}{c:CL}{q:MV}(h0:Zv L w.heap c) (hm0:QM L w.heap q.v q.co) (hkb:Kb w 4096) :
  QL prog 19 [c.val,.agg #[.int .i64 q.kd,.int .i64 q.ix,q.v]] w λr w'=>Step [] w w'∧∃sa st sm se,r=.tuple #[.agg #[sa,.int .i64 st,sm,se],.int .i64 (msE c.cel q.m)]∧ZL [sa,sm,se] ∧
   (msE c.cel q.m=0→st=(msA c.cel q.m).st∧∀L:LN,(∀b∈L,b<w.heap.size)→Zr L w'.heap sa sm se (msA c.cel q.m))∧(msE c.cel q.m≠0→st=0):=by
 have h:=h0.up (L':=[]) (by simp)
 have hm:=hm0.up (L':=[]) (by simp)
 have hr:msE c.cel q.m=if mcE c.cel q.m≠0 then mcE c.cel q.m else suE (mcC c.cel q.m):=rfl
 have hcc:msA c.cel q.m=suA (mcC c.cel q.m):=rfl
 rw[hcc]
 refine Q8 (msE c.cel q.m) λE hE=>?_
 rw[hE] at hr ⊢
 refine QL.of_W func19 rfl ntmps19 results19 (by simp) ?_
 refine Qc<|xl rfl<|QR (us:=c.cells) rfl λb2 w1 hs1 hb2 hB2=>xl rfl<|QR (us:=Zn q) rfl λb3 w2 hs2 hb3 hB3=>xl rfl<|Qu (us:=[nS,.int .i64 0,nS,nS]) rfl λb4 w3 hs3 hb4 hB4=>Qe ?_
 have hs03:=(hs1.trans hs2).trans hs3
 have hz1:=hs1.size
 have hz2:=hs2.size
 have hz3:=hs3.size
 have hl4:=hB4.lt
 refine Qc<|x (Qr ((hB2.ext hs2).ext hs3) rfl rfl)<|x (Qr (hB3.ext hs3) rfl rfl)<|xl rfl<|xf<|(yO (h.ext hs03) (hm.ext hs03)).mono ?_
 rintro r4 w4 ⟨hs4,us,rfl,hul,huo,hbad,hgood⟩
 have hz4:=hs4.size
 have hs04:=hs03.trans hs4
 refine Qb<|x (Qp rfl rfl)<|x (Qp rfl rfl)<|xl rfl<|Qu (us:=ZW) rfl λb6 w5 hs5 hb6 hB6=>xl rfl<|Qo (us:=us) hB6 rfl rfl hul rfl huo λw6 hs6 hB66 =>
  Qe ?_
 have hs46:Step [] w4 w6:=hs5.then1 hs6 hb6
 have hs06:=hs04.trans hs46
 have hz46:=hs46.size
 have hB46:=(hB4.ext hs4).ext hs46
 refine Qf<|Qc<|Qb<|x (Q9 rfl rfl)<|xe ?_
 refine Q6 rfl (λh15=>?_) (λh15=>?_)
 ·rw[if_pos h15] at hr
  subst hr
  refine Qc<|x (QE trivial)<|Qb<|xl rfl<|Qo (us:=[nS,.int .i64 0,nS,nS]) hB46 rfl rfl rfl rfl ⟨rfl,rfl,rfl,rfl,trivial⟩ λw7 hs7 hB47=>Qe ?_
  exact Qm ⟨[.agg [nS,.int .i64 0,nS,nS].toArray,.int .i64 (mcE c.cel q.m)],⟨⟨_,rfl,QA rfl (hB47.at (L:=[]) (by simp)).cells⟩,rfl,trivial⟩,hs06.then1 hs7 (by omega),nS,0,nS,nS,rfl,⟨rfl,rfl,rfl,trivial⟩,λh0=>absurd h0 h15,λ_=>rfl⟩
 rw[if_neg h15] at hr
 subst hr
 obtain ⟨cl,hv,hcel,hCA⟩:=hgood (Decidable.not_not.1 h15)
 have hCA6:Zv [] w6.heap cl:=(hCA [] (by simp)).ext hs46
 have hsup:=qb hCA6 (hkb.ext hs06)
 rw[hcel] at hsup
 have hsup1:∀R,QL prog 32 [cl.val] w6 R→QL prog 32 [.agg us.toArray] w6 R:=λR hR=>by rw[hv];exact hR
 have hsup':=hsup1 _ hsup
 refine Qi<|Qc<|x (Qr hB66 rfl hul)<|xl rfl<|xf<|hsup'.mono ?_
 rintro r8 w8 ⟨hs8,sa,sm,se,rfl,hone,_,hgood8⟩
 refine Q8 (if Yv (mcC c.cel q.m)=0 then (suA (mcC c.cel q.m)).st else 0) λN hN=>?_
 rw[hN]
 have hz8:=hs8.size
 refine x (Qp rfl rfl)<|x (Qp rfl rfl)<|xl rfl<|Qo (us:=[sa,.int .i64 N,sm,se]) (hB46.ext hs8) rfl rfl rfl rfl ⟨hone.1,rfl,hone.2.1,hone.2.2.1,trivial⟩ λw9 hs9 hB49=>Qe<|Qm ⟨[.agg [sa,.int .i64 N,sm,se].toArray,.int .i64 (suE (mcC c.cel q.m))],⟨⟨_,rfl,QA rfl (hB49.at (L:=[]) (by simp)).cells⟩,rfl,trivial⟩,(hs06.trans hs8).then1 hs9 (by omega),sa,N,sm,se,rfl,hone,λe=>⟨?_,λL hL=>?_⟩,λe=>?_⟩
 ·have e':Yv (mcC c.cel q.m)=0:=e
  rw[if_pos e'] at hN
  exact hN.symm
 ·have h1:=hgood8 e (b4::L) (λb hb=>by
   rcases List.mem_cons.1 hb with rfl | hb
   ·omega
   ·have:=hL b hb;have:=hs06.size;omega)
  exact (h1.st (hs9.mono (by simp))).up (λb hb=>.inl (by simp[hb]))
 ·have e':¬Yv (mcC c.cel q.m)=0:=e
  rw[if_neg e'] at hN
  exact hN.symm
theorem YW.app3 {α:Type}{g:α→LV}{sz T:Nat}{ps:α→List (Value×Nat×Nat×LV)}{base:Nat}{w7 w8:World}{v v8:Value}{l:List α}{q:α}(h:YW g sz T ps base w7 v l)
  (hq:∀t∈ps q,ZE base (ob v) w7.heap t.1 t.2.1 t.2.2.1 t.2.2.2)
  (ho:w8.ownsRow base T sz v8 (l.length+1) (l.flatMap g++g q)) (hs8:Step (ob v) w7 w8) (hn:∀b∈ob v8,b∈ob v∨w7.heap.size≤b):YW g sz T ps base w8 v8 (l++[q]):=by
 refine ⟨?_,λd hd t ht=>?_⟩
 ·rw[List.length_append,List.flatMap_append];simpa using ho
 ·rcases List.mem_append.1 hd with hd | hd
  ·exact (h.each d hd t ht).app hs8 hn
  ·simp only[List.mem_singleton] at hd;subst hd
   exact (hq t ht).app hs8 hn
abbrev Qkj (p:AV):List (Value×Nat×Nat×LV):=[(p.va,p.a.al.length,1,p.a.al.map (.int .i64)),(p.vm,p.a.mr.length,1,p.a.mr.map (.int .i64)),(p.ve,p.a.ed.length,3,p.a.ed.flatMap Qy)]
abbrev AvP (base:Nat) (w:World) (v:Value) (l:List AV):Prop:=YW Zh 4 58 Qkj base w v l
theorem AvP.auts {base:Nat}{w:World}{v:Value}{l:List AV}{L:LN}(h:AvP base w v l) (hn:l.length≤1099511627776) (hL:∀b∈L,b<base):Xu L w.heap v l :=
 ⟨QS h.own hn (λb hb hbL=>by have:=(Qk h.own b hb).1;have:=hL b hbL;omega),λp hp=>⟨h.each p hp (p.va,p.a.al.length,1,p.a.al.map (.int .i64)) (by simp) L (λb hb=>.inl (hL b hb)),h.each p hp (p.vm,p.a.mr.length,1,p.a.mr.map (.int .i64)) (by simp) L (λb hb=>.inl (hL b hb)),h.each p hp (p.ve,p.a.ed.length,3,p.a.ed.flatMap Qy) (by simp) L (λb hb=>.inl (hL b hb))⟩⟩
def Qks (N:Nat) (H:Array Obj) (v:Value) (l:List QT):Prop:=∃ps:List AV,ps.map (·.a)=l∧∀L:LN,(∀b∈L,b<N)→Xu L H v ps
theorem QfB {p:AV}(h1:p.va.oneCell'=true) (h2:p.vm.oneCell'=true) (h3:p.ve.oneCell'=true):∀u∈Zh p,u.oneCell'=true:=by
 intro u hu
 simp only[Zh,List.mem_cons,List.not_mem_nil,or_false] at hu
 rcases hu with rfl | rfl | rfl | rfl
 ·exact h1
 ·rfl
 ·exact h2
 ·exact h3
theorem Zr.parts {base N:Nat}{av:LN}{H:Array Obj}{p:AV}(h:∀L:LN,(∀b∈L,b<N)→Zr L H p.va p.vm p.ve p.a) (hb:base≤N) (hav:∀b∈av,b<N):∀t∈Qkj p,ZE base av H t.1 t.2.1 t.2.2.1 t.2.2.2:=by
 intro t ht
 simp only[List.mem_cons,List.not_mem_nil,or_false] at ht
 rcases ht with rfl | rfl | rfl
 ·exact ZE.of_lt (λL hL=>(h L hL).al) hb hav
 ·exact ZE.of_lt (λL hL=>(h L hL).mr) hb hav
 ·exact ZE.of_lt (λL hL=>(h L hL).ed) hb hav
theorem Qed {c:Zu}(h:VQ c):(mods c).length≤96:=by have:=zE h 3 (by omega);rw[yN] at this;omega
theorem QaX:∀(l:LN) (b:Nat),l.foldl (λl b=>l &&& (65535 ^^^ b)) b≤b
 | [],_=>Nat.le_refl _
 | _::l,_=>Nat.le_trans (QaX l _) Nat.and_le_left
theorem Qim {c:Zu}:∀i∈rem c,0≤i∧i<(c.co.length:Int):=by
 intro i hi
 unfold rem setK at hi
 obtain ⟨j,hj,rfl⟩:=List.mem_map.1 hi
 have h1:=(List.mem_filter.1 hj).2
 have h2:=of_decide_eq_true h1
 refine ⟨by omega,?_⟩
 refine Decidable.byContradiction λhn=>?_
 have hn':c.co.length≤j:=by omega
 have hle:jY c≤2 ^ c.co.length - 1:=QaX _ _
 have hp:0<2 ^ c.co.length:=Nat.pow_pos (by decide)
 have hpj:2 ^ c.co.length≤2 ^ j:=Nat.pow_le_pow_right (by decide) hn'
 have h0:jY c / 2 ^ j=0:=Nat.div_eq_of_lt (by omega)
 rw[h0] at h2
 cases h2
theorem Qh7 (c:Zu):QbZ c=if Zd c≠0 then Zd c else msL c (mods c):=rfl
theorem Qec (c:Zu) (m:Jt) (l:List Jt):msL c (m::l)=if msE c m≠0 then msE c m else msL c l:=rfl
abbrev coA (c:Zu) (i:Int):QT:=(c.co.getD i.toNat ⟨.empty,⟨[],0,[],[]⟩⟩).a
set_option maxRecDepth 4096 in
set_option maxHeartbeats 8000000 in
theorem UR {L:LN}{w:World}{c:CL}(h0:Zv L w.heap c) (hkb:Kb w 4096) :
  QL prog 22 [c.val] w λr w'=>Step [] w w'∧∃v,r=.tuple #[v,.int .i64 (QbZ c.cel)]∧(QbZ c.cel≠0→v=nS)∧(QbZ c.cel=0→v.oneCell'=true∧Qks w.heap.size w'.heap v (Qdp c.cel)):=by
 have h:=h0.up (L':=[]) (by simp)
 have hsv:=Qh7 c.cel
 have hsl:Qdp c.cel=(mods c.cel).map (msA c.cel)++(rem c.cel).map (coA c.cel):=rfl
 refine Q8 (QbZ c.cel) λE hE=>?_
 rw[hE] at hsv ⊢
 refine QL.of_W func22 rfl ntmps22 results22 (by simp) ?_
 refine Qc<|xl rfl<|QR (us:=c.cells) rfl λb1 w1 hs1 hb1 hB1=>x Qh<|Qe<|Qc<|x (Qr hB1 rfl rfl)<|xl rfl<|xf<|(US (h.ext hs1)).mono ?_
 rintro r2 w2 ⟨hs2,vM,lM,rfl,hM,hMbad,hMgood⟩
 have hs02:=hs1.trans hs2
 have hz1:=hs1.size
 have hz2:=hs2.size
 refine Qb<|x (Qp rfl rfl)<|x (Qp rfl rfl)<|x Qh<|Qe<|Qf<|Qc<|Qb<|x (Q9 rfl rfl)<|xe ?_
 refine Q6 rfl (λh21=>?_) (λh21=>?_)
 ·rw[if_pos h21] at hsv
  subst hsv
  refine Qc<|Qb<|x Qh<|Qe ?_
  exact Qm ⟨[nS,.int .i64 (Zd c.cel)],⟨rfl,rfl,trivial⟩,hs02,nS,rfl,λ_=>rfl,λh0=>absurd h0 h21⟩
 rw[if_neg h21] at hsv
 have hck:=Decidable.not_not.1 h21
 have hok:VQ c.cel:=(ZS hck).sr
 have hMm:=hMgood hck
 have hMl:lM.length≤96:=by have:=Qed hok;rw[←hMm,List.length_map] at this;exact this
 have hMA:Zo [] w2.heap vM lM.length 3 (lM.flatMap Zn):=hM.arr (by omega) (by simp)
 have hrl:(rem c.cel).length≤8:=YP _ _
 have hB12:=hB1.ext hs2
 refine Qi<|Qc<|Qe<|Qf<|Qc<|Qb<|x (Qs hMA rfl)<|Qb<|xe ?_
 refine Qg<|QC (α:=Nat×Value×List AV) [(2,3),(6,6),(8,10),(25,42)] (λz=>[(6,z.2.1),(25,.int .i64 z.1)]) (λz w'=>z.1≤lM.length∧Step [] w2 w'∧AvP w2.heap.size w' z.2.1 z.2.2∧z.2.2.map (·.a)=(lM.take z.1).map (λq=>msA c.cel q.m)∧msL c.cel ((lM.drop z.1).map MV.m)=E) (λz=>lM.length - z.1) (by rfl) (0,nS,[]) ⟨rfl,rfl,trivial⟩
  ⟨Nat.zero_le _,Step.refl _ _,YW.nil,rfl,by rw[List.drop_zero,hMm];exact hsv.symm⟩ ?_
 rintro ⟨k,v,l⟩ g w3 ⟨hk,hs3,hV3,hl3,hE3⟩
 simp only[] at hk hV3 hl3 hE3
 have hs03:=hs02.trans hs3
 have hz3:=hs3.size
 have hll:l.length=k:=by have:=congrArg List.length hl3;rw[List.length_map,List.length_map,List.length_take] at this;omega
 have hB13:=hB12.ext hs3
 have h3:=h.ext hs03
 refine Qc<|x (QB rfl rfl)<|xe ?_
 refine Qf<|QH rfl (λh26=>?_) (λh26=>?_)
 ·refine Qz ?_
  have hke:lM.length≤k:=by have h16:¬(k:Int)<(lM.length:Int):=h26;omega
  rw[List.take_of_length_le hke] at hl3
  rw[List.drop_of_length_le hke] at hE3
  have hE0:E=0:=hE3.symm
  have hl3':l.map (·.a)=(mods c.cel).map (msA c.cel):=by rw[hl3,←hMm,List.map_map];rfl
  refine Qc<|x (Qr hB13 rfl rfl)<|xl rfl<|xf<|(K8 h3).mono ?_
  rintro r4 w4 ⟨hs4,vR,rfl,_,hRgood⟩
  have hR:=hRgood hck
  have hs04:=hs03.trans hs4
  have hz4:=hs4.size
  refine Qb<|x (Qp rfl rfl)<|x (Qp rfl rfl)<|x Qh<|Qe<|Qf<|Qc<|Qb<|x (Q9 rfl rfl)<|xe ?_
  refine Q6 rfl (λh49=>?_) (λh49=>?_)
  ·exact absurd hck h49
  refine Qi ?_
  have hRA:QM [] w4.heap vR (rem c.cel):=Qt.ints hR (by omega) (by simp)
  refine Qf<|Qc<|Qb<|x (Qs hRA rfl)<|Qb<|xe ?_
  refine Qg<|QC (α:=Nat×Value×List AV) [(6,6),(13,14),(53,78)] (λz=>[(6,z.2.1),(53,.int .i64 z.1)]) (λz w'=>z.1≤(rem c.cel).length∧Step (ob v) w4 w'∧AvP w2.heap.size w' z.2.1 z.2.2∧z.2.2.map (·.a)=(mods c.cel).map (msA c.cel)++((rem c.cel).take z.1).map (coA c.cel)∧∀b∈ob z.2.1,b∈ob v∨w4.heap.size≤b) (λz=>(rem c.cel).length - z.1) (by rfl) (0,v,l) ⟨rfl,rfl,trivial⟩
   ⟨Nat.zero_le _,Step.refl _ _,YW.ext hV3 hs4,by simp only[List.take_zero,List.map_nil,List.append_nil];exact hl3',λb hb=>.inl hb⟩ ?_
  rintro ⟨j,vj,lj⟩ g w5 ⟨hj,hs5,hV5,hl5,hn5⟩
  simp only[] at hj hV5 hl5 hn5
  have hvge:=Qk hV3.own
  have hvge5:=Qk hV5.own
  have hs05:Step [] w w5:=hs04.then hs5 (λb hb=>.inr (by have:=(hvge b hb).1;omega))
  have h5:=h.ext hs05
  have hz5:=hs5.size
  have hljl:lj.length≤200:=by
   have e1:=congrArg List.length hl5
   rw[List.length_map,List.length_append,List.length_map,List.length_map,List.length_take,←hMm,List.length_map] at e1
   omega
  have hB15:Q0 w5.heap b1 47 c.cells:=(hB13.ext hs4).step hs5 (λhb=>by have:=(hvge b1 hb).1;have:=hB12.lt;omega)
  have hRA5:QM [] w5.heap vR (rem c.cel):=(((Qt.ints hR (by omega) (L:=ob v) (λb hb=>(hvge b hb).2)).st hs5)).up (by simp)
  refine Qc<|x (QB rfl rfl)<|xe ?_
  refine Qf<|QH rfl (λh54=>?_) (λh54=>?_)
  ·refine Qz ?_
   have hje:(rem c.cel).length≤j:=by have h16:¬(j:Int)<((rem c.cel).length:Int):=h54;omega
   rw[List.take_of_length_le hje,←hsl] at hl5
   refine Qc<|Qb<|x Qh<|Qe ?_
   exact Qm ⟨[vj,.int .i64 0],⟨rfl,rfl,trivial⟩,hs05,vj,by rw[hE0];rfl,λh0=>absurd hE0 h0,λ_=>⟨QF hV5.own,lj,hl5,λL hL=>AvP.auts hV5 (by omega) (λb hb=>by have:=hL b hb;omega)⟩⟩
  have hltR:j<(rem c.cel).length:=by have h16:(j:Int)<((rem c.cel).length:Int):=h54;omega
  have htkR:(rem c.cel).take (j+1)=(rem c.cel).take j++[(rem c.cel)[j]'hltR]:=List.take_succ_eq_append_getElem hltR
  have hig:=Qim _ (List.getElem_mem hltR)
  refine Qi<|Qf<|Qg<|Qc<|xii (i:=j) hRA5 rfl rfl hltR λa55 h55=>?_
  refine Q8 ((rem c.cel)[j]'hltR) λi hi=>?_
  rw[hi] at h55 htkR hig
  have hcl:c.cel.co.length=c.co.length:=List.length_map ..
  rw[hcl] at hig
  have hin:i=(i.toNat:Int):=by omega
  have hil:i.toNat<c.co.length:=by omega
  have hmem:=List.getElem_mem hil
  have hco:coA c.cel i=(c.co[i.toNat]'hil).p.a:=by
   show ((c.co.map IV.it).getD i.toNat _).a=_
   simp[List.getD,hil,IV.it]
  refine x (Qv h55 rfl)<|Qe<|Qc<|x (Qa rfl)<|x (Qd hB15 rfl rfl)<|Qb<|xig (g:=Za) (i:=i.toNat) YE h5.co.arr rfl (congrArg (Value.int .i64) hin) hil λa60 h60=>?_
  refine Q8 (c.co[i.toNat]'hil) λq hq=>?_
  rw[hq] at h60 hmem hco
  have hqA:=h5.co.each q hmem
  refine x (Q7 rfl)<|x (QJ (us:=[q.p.va,.int .i64 q.p.a.st,q.p.vm,q.p.ve]) (h60.from 1) rfl rfl)<|xl rfl<|Qu (us:=[nS,.int .i64 0,nS,nS]) rfl λb14 w6 hs6 hb14 hB14 =>
   xl rfl<|Qo (us:=[q.p.va,.int .i64 q.p.a.st,q.p.vm,q.p.ve]) hB14 rfl rfl rfl rfl ⟨hqA.al.one,rfl,hqA.mr.one,hqA.ed.one,trivial⟩ λw7 hs7 hB14=>xe ?_
  have hs57:Step [] w5 w7:=hs6.then1 hs7 hb14
  have hd7:Step [] w7 { w7 with drawn:=w7.drawn+1 }:=Step.drew _ _
  have hz57:=hs57.size
  have hb14v:b14∉ob vj:=λhm=>by have:=(hvge5 b14 hm).2;omega
  have hqA7:=hqA.ext hs57
  refine QU (Step (ob vj) w7) [(0,true),(1,true),(2,true),(4,true),(5,true),(6,true),(7,true),(9,true),(10,true),(3,false),(8,false),(11,false),(12,true),(13,false),(14,false),(15,true)] mixed (by rfl) (by kernel_rfl) (Step.drew _ _) ?_
  refine p (λ_=>Qn)<|p (λ_=>Qa rfl)<|pq (λ_ hc=>Qd (hB14.step hc hb14v) rfl rfl)<|p (λ_=>Qa rfl)<|pq (λ_ hc=>Qd (hB14.step hc hb14v) rfl rfl) <|
   p (λ_=>Qa rfl)<|pq (λ_ hc=>Qd (hB14.step hc hb14v) rfl rfl)<|p (λ_=>Qa rfl)<|pq (λ_ hc=>Qd (hB14.step hc hb14v) rfl rfl) <|
   pk<|xf<|(ZR (hqA7.al.ext hd7)).mono ?_
  rintro r8 w8 ⟨hs8,ho8⟩
  refine ⟨(hd7.trans hs8).any,?_⟩
  refine pk<|xf<|(ZR ((hqA7.mr.ext hd7).ext hs8)).mono ?_
  rintro r9 w9 ⟨hs9,ho9⟩
  refine ⟨((hd7.trans hs8).trans hs9).any,?_⟩
  refine pk<|xf<|(Kg (((hqA7.ed.ext hd7).ext hs8).ext hs9)).mono ?_
  rintro r10 w10 ⟨hs10,ho10⟩
  have hs710:=((hd7.trans hs8).trans hs9).trans hs10
  refine ⟨hs710.any,?_⟩
  refine p (λ_=>QE ⟨Q3 ho8,rfl,Q3 ho9,Q3 ho10,trivial⟩)<|pk<|QD (us:=[Zh ⟨r8,r9,r10,q.p.a⟩]) rfl rfl (by decide) (by simp) ⟨rfl,rfl,trivial⟩ λb76 w11 hs11 hb76 hB76=>⟨(hs710.trans hs11).any,?_⟩
  have hs511:=(hs57.trans hs710).trans hs11
  have hz511:=hs511.size
  have hz8:=hs8.size
  have hz9:=hs9.size
  have hzd:({ w7 with drawn:=w7.drawn+1 }:World).heap.size=w7.heap.size:=rfl
  refine pk<|QY (news:=Zh ⟨r8,r9,r10,q.p.a⟩) (L:=[]) (Qq hV5.own hs511) rfl rfl rfl (hB76.at (by simp)) (QfB (p:=⟨r8,r9,r10,q.p.a⟩) (QF ho8) (QF ho9) (QF ho10)) (by omega) (by omega) λv12 w12 ho12 hs12 hn12=>⟨(hs710.trans hs11).any.trans' hs12,?_⟩
  refine p (λ_=>Qh)<|pe ?_
  have hvl:∀b∈ob vj,b<w7.heap.size:=λb hb=>by have:=(hvge5 b hb).2;omega
  have hV12:AvP w2.heap.size w12 v12 (lj++[⟨r8,r9,r10,q.p.a⟩]):=YW.app3 (YW.ext hV5 hs511) (λt ht=>by
   simp only[List.mem_cons,List.not_mem_nil,or_false] at ht
   rcases ht with rfl | rfl | rfl
   ·exact ZE.of_own (Qq (Qq (Qq ho8 hs9) hs10) hs11) hqA.al.le (by omega) (λb hb=>by have:=hvl b hb;omega)
   ·exact ZE.of_own (Qq (Qq ho9 hs10) hs11) hqA.mr.le (by omega) (λb hb=>by have:=hvl b hb;omega)
   ·exact ZE.of_own (Qq ho10 hs11) hqA.ed.le (by omega) (λb hb=>by have:=hvl b hb;omega)) ho12 hs12 hn12
  refine Qw<|x (Qx rfl rfl ⟨by omega,by omega⟩)<|Qb<|xe ?_
  refine ⟨(j+1,v12,lj++[⟨r8,r9,r10,q.p.a⟩]),by simp only[];omega,⟨rfl,rfl,trivial⟩,hltR,(hs5.trans hs511).then hs12 hn5,hV12,?_,λb hb=>?_⟩
  ·simp only[]
   rw[htkR,List.map_append,hl5,List.map_append,List.append_assoc,List.map_singleton,List.map_singleton,hco]
  ·rcases hn12 b hb with h9 | h9
   ·exact hn5 b h9
   ·exact .inr (by omega)
 have hlt:k<lM.length:=by have h16:(k:Int)<(lM.length:Int):=h26;omega
 have htk:lM.take (k+1)=lM.take k++[lM[k]'hlt]:=List.take_succ_eq_append_getElem hlt
 have hmem:=List.getElem_mem hlt
 rw[List.drop_eq_getElem_cons hlt,List.map_cons,Qec] at hE3
 have hM3:=ZM.ext hM hs3
 have hMA3:=hMA.ext hs3
 refine Qi<|Qf<|Qg<|Qc<|xig (g:=Zn) (i:=k) zz hMA3 rfl rfl hlt λa27 h27=>?_
 refine Q8 (lM[k]'hlt) λq hq=>?_
 rw[hq] at h27 htk hmem hE3
 have hqI:QM [] w3.heap q.v q.co:=hM3.each q hmem [] (by simp)
 refine x (QJ h27 rfl rfl)<|xl rfl<|Qu (us:=[.int .i64 0,.int .i64 0,nS]) rfl λb8 w13 hs13 hb8 hB8=>xl rfl<|Qo (us:=Zn q) hB8 rfl rfl rfl rfl ⟨rfl,rfl,hqI.one,trivial⟩ λw14 hs14 hB8 =>
  xe ?_
 have hs314:Step [] w3 w14:=hs13.then1 hs14 hb8
 have hs014:=hs03.trans hs314
 have hz314:=hs314.size
 refine Qc<|x (Qr (hB13.ext hs314) rfl rfl)<|x (Qr hB8 rfl rfl)<|xl rfl<|xf<|(Qbj (q:=q) (h.ext hs014) (hqI.ext hs314) (hkb.ext hs014)).mono ?_
 rintro r15 w15 ⟨hs15,sa,st,sm,se,rfl,hone,hgood,_⟩
 refine Qb<|x (Qp rfl rfl)<|x (Qp rfl rfl)<|xl rfl<|Qu (us:=[nS,.int .i64 0,nS,nS]) rfl λb9 w16 hs16 hb9 hB9=>xl rfl<|Qo (us:=[sa,.int .i64 st,sm,se]) hB9 rfl rfl rfl rfl ⟨hone.1,rfl,hone.2.1,hone.2.2.1,trivial⟩ λw17 hs17 hB9 =>
  Qe ?_
 have hs1517:Step [] w15 w17:=hs16.then1 hs17 hb9
 have hs317:=(hs314.trans hs15).trans hs1517
 refine Qf<|Qc<|Qb<|x (Q9 rfl rfl)<|xe ?_
 refine Q6 rfl (λh36=>?_) (λh36=>?_)
 ·rw[if_pos h36] at hE3
  subst hE3
  refine Qc<|Qb<|x Qh<|Qe ?_
  exact Qm ⟨[nS,.int .i64 (msE c.cel q.m)],⟨rfl,rfl,trivial⟩,hs03.trans hs317,nS,rfl,λ_=>rfl,λh0=>absurd h0 h36⟩
 rw[if_neg h36] at hE3
 obtain ⟨hst,hA⟩:=hgood (Decidable.not_not.1 h36)
 subst hst
 have hge:=Qk hV3.own
 refine Qi<|Qw<|Qb<|x (Qr hB9 rfl rfl)<|xl rfl<|QD (us:=[Zh ⟨sa,sm,se,msA c.cel q.m⟩]) rfl rfl (by decide) (by simp) ⟨rfl,rfl,trivial⟩ λb40 w18 hs18 hb40 hB40=>?_
 have hs318:=hs317.trans hs18
 have hz318:=hs318.size
 refine xl rfl<|QY (news:=Zh ⟨sa,sm,se,msA c.cel q.m⟩) (L:=[]) (Qq hV3.own hs318) rfl rfl rfl (hB40.at (by simp)) (QfB (p:=⟨sa,sm,se,msA c.cel q.m⟩) hone.1 hone.2.1 hone.2.2.1) (by omega) (by omega) λv19 w19 ho19 hs19 hn19 =>
  Qe ?_
 have hV19:AvP w2.heap.size w19 v19 (l++[⟨sa,sm,se,msA c.cel q.m⟩]):=YW.app3 (YW.ext hV3 hs318) (Zr.parts (N:=w14.heap.size) (p:=⟨sa,sm,se,msA c.cel q.m⟩) (λL hL=>((hA L hL).ext hs1517).ext hs18) (by omega) (λb hb=>by have:=(hge b hb).2;omega)) ho19 hs19 hn19
 refine Qw<|x (Qx rfl rfl ⟨by omega,by omega⟩)<|Qb<|xe ?_
 refine ⟨(k+1,v19,l++[⟨sa,sm,se,msA c.cel q.m⟩]),by simp only[];omega,⟨rfl,rfl,trivial⟩,hlt,(hs3.trans hs318).then hs19 (λb hb=>.inr (hge b hb).1),hV19,?_,hE3⟩
 simp only[]
 rw[htk,List.map_append,hl3,List.map_append];rfl
section
variable {s:QT} {l:List Ku} {n:Nat}
end
section
variable {s:QT} {l:List Ku} {n:Nat}
end
section
variable {s:QT} {l:List Ku} {n:Nat}
end
section
variable {p s:QT} {pairs:List (LI)}
end
section
variable {s:QT} {l:List Ku} {n:Nat}
end
section
variable {s:QT} {l:List Ku} {n:Nat} {nm:LI}
end
section
variable {p s:QT} {pn xn v:Int}
end
section
variable {s:QT} {l:List Ku} {n:Nat}
end
theorem Qdd {n k:Nat}(h:k<n):(Js n).drop k=(k:Int)::(Js n).drop (k+1):=by
 have hl:k<(Js n).length:=by rw[zc];exact h
 rw[List.drop_eq_getElem_cons hl]
 congr 1
 simp[Js]
theorem Qdy (c:Zu) (v:Int) (l:LI):shd c (v::l)=if 2≤(ownr c v).length then some (v,cget (ownr c v) 0,cget (ownr c v) 1) else shd c l:=rfl
def shR (c:Zu):Option (Int×Int×Int):=if Zd c≠0 then none else Qif c
set_option maxHeartbeats 4000000 in
theorem QcU {L:LN}{w:World}{c:CL}(h0:Zv L w.heap c) :
  QL prog 20 [c.val] w λr w'=>Step [] w w'∧r=.tuple #[.int .i64 (Qik (shR c.cel)).1,.int .i64 (Qik (shR c.cel)).2.1,.int .i64 (Qik (shR c.cel)).2.2,.bool (shR c.cel).isSome,.int .i64 (Zd c.cel)]:=by
 have h:=h0.up (L':=[]) (by simp)
 have hsr:shR c.cel=if Zd c.cel≠0 then none else Qif c.cel:=rfl
 refine Q8 (Zd c.cel) λE hE=>?_
 refine Q8 (shR c.cel) λS hS=>?_
 rw[hS,hE] at hsr
 rw[hS,hE]
 have hcl:=h.co.arr.le
 have hel:=h.ev.arr.le
 refine QL.of_W func20 rfl ntmps20 results20 (by simp) ?_
 refine Qc<|xl rfl<|QR (us:=c.cells) rfl λb1 w1 hs1 hb1 hB1=>x Qh<|x Qh<|x Qh<|x Qh<|Qe<|Qf<|Qc<|x (Qr hB1 rfl rfl)<|xl rfl<|xf<|(YM (h.ext hs1)).mono ?_
 rintro r2 w2 ⟨hr2,hs2⟩
 rw[hE] at hr2
 subst hr2
 refine Qe ?_
 have hs02:=hs1.trans hs2
 have hB12:=hB1.ext hs2
 refine Qc<|Qb<|x (Q9 rfl rfl)<|xe ?_
 refine Q6 rfl (λh15=>?_) (λh15=>?_)
 ·rw[if_pos h15] at hsr
  subst hsr
  refine Qc<|Qb<|x Qh<|x Qh<|x Qh<|x Qh<|Qe ?_
  exact Qm ⟨[.int .i64 0,.int .i64 0,.int .i64 0,.bool false,.int .i64 E],⟨rfl,rfl,rfl,rfl,rfl,trivial⟩,hs02,rfl⟩
 rw[if_neg h15] at hsr
 have hE0:E=0:=Decidable.not_not.1 h15
 have hev:c.cel.ev.length=c.ev.length:=rfl
 have hsd:Qif c.cel=shd c.cel (Js c.ev.length):=rfl
 rw[hsd] at hsr
 refine Qi<|Qf<|Qc<|x (Qa rfl)<|x (Qd hB12 rfl rfl)<|x (Qs (h.ext hs02).ev.arr rfl)<|Qb<|xe ?_
 refine Qg<|QC (α:=Nat) [(2,6),(8,11),(20,51)] (λz=>[(20,.int .i64 z)]) (λz w'=>z≤c.ev.length∧Step [] w2 w'∧shd c.cel ((Js c.ev.length).drop z)=S) (λz=>c.ev.length - z) (by rfl) 0 ⟨rfl,trivial⟩
  ⟨Nat.zero_le _,Step.refl _ _,hsr.symm⟩ ?_
 rintro k g w3 ⟨hk,hs3,hS3⟩
 have hs03:=hs02.trans hs3
 have hB13:=hB12.ext hs3
 have h3:=h.ext hs03
 refine Qc<|x (QB rfl rfl)<|xe ?_
 refine Qf<|QH rfl (λh21=>?_) (λh21=>?_)
 ·refine Qz ?_
  have hke:c.ev.length≤k:=by have h16:¬(k:Int)<(c.ev.length:Int):=h21;omega
  rw[List.drop_of_length_le (by rw[zc];exact hke)] at hS3
  have hS0:S=none:=hS3.symm
  subst hS0
  refine Qc<|x Qh<|x Qh<|x Qh<|x Qh<|Qe ?_
  exact Qm ⟨[.int .i64 0,.int .i64 0,.int .i64 0,.bool false,.int .i64 0],⟨rfl,rfl,rfl,rfl,rfl,trivial⟩,hs03,by rw[hE0];rfl⟩
 have hlt:k<c.ev.length:=by have h16:(k:Int)<(c.ev.length:Int):=h21;omega
 rw[Qdd hlt,Qdy] at hS3
 refine Qi<|Qf<|Qg<|Qc<|Qb<|Qe<|Qc<|Qe<|Qf<|Qc<|x (Qa rfl)<|x (Qd hB13 rfl rfl)<|x (Qs h3.co.arr rfl)<|Qb<|xe ?_
 have how:ownr c.cel (k:Int)=ixs (λq:IV=>decide ((k:Int)∈q.p.a.al)) 0 c.co:=by
  show ixs (λx:YC=>decide ((k:Int)∈x.a.al)) 0 (c.co.map (·.it))=_
  generalize 0=i0
  generalize c.co=l
  induction l generalizing i0 with
  | nil=>rfl
  | cons a l ih=>rw[List.map_cons,ixs,ixs,ih (i0+1)];rfl
 rw[how] at hS3
 refine Qg<|QC (α:=Nat×Value) [(9,11),(26,40)] (λz=>[(9,z.2),(26,.int .i64 z.1)]) (λz w'=>z.1≤c.co.length∧Step [] w3 w'∧Qt 3 w3.heap.size w' z.2 (ixs (λq:IV=>decide ((k:Int)∈q.p.a.al)) 0 (c.co.take z.1))) (λz=>c.co.length - z.1) (by rfl) (0,nS) ⟨rfl,rfl,trivial⟩
  ⟨Nat.zero_le _,Step.refl _ _,QO _ _ _ _⟩ ?_
 rintro ⟨i,v⟩ g w4 ⟨hi,hs4,ho4⟩
 simp only[] at hi ho4
 have hs04:=hs03.trans hs4
 have h4:=h.ext hs04
 have hz4:=hs4.size
 have hlen:=KP (λq:IV=>decide ((k:Int)∈q.p.a.al)) (c.co.take i) 0
 rw[List.length_take] at hlen
 refine Qc<|x (QB rfl rfl)<|xe ?_
 refine Qf<|QH rfl (λh27=>?_) (λh27=>?_)
 ·refine Qz ?_
  have hie:c.co.length≤i:=by have h16:¬(i:Int)<(c.co.length:Int):=h27;omega
  rw[List.take_of_length_le hie] at ho4
  rw[List.take_of_length_le hie] at hlen
  refine Q8 (ixs (λq:IV=>decide ((k:Int)∈q.p.a.al)) 0 c.co) λow how=>?_
  rw[how] at ho4 hlen hS3
  have hA:QM [] w4.heap v ow:=Qt.ints ho4 (by omega) (by simp)
  refine Qc<|Qb<|x (Qs hA rfl)<|x (ZN rfl rfl)<|xe ?_
  refine Q6 rfl (λh43=>?_) (λh43=>?_)
  ·have h2:2≤ow.length:=by have h44:(2:Int)≤(ow.length:Int):=h43;omega
   rw[if_pos h2] at hS3
   subst hS3
   have e0:cget ow 0=ow[0]'(by omega):=by unfold cget;simp[List.getD,show 0<ow.length by omega]
   have e1:cget ow 1=ow[1]'(by omega):=by unfold cget;simp[List.getD,show 1<ow.length by omega]
   refine Qf<|QU (Step [] w4) [(0,true),(1,true),(2,true),(3,true),(4,true),(5,true),(6,true),(7,true),(8,true),(9,true),(10,true),(11,true)] mixed (by rfl) (by kernel_rfl) (Step.drew _ _) ?_
   refine p (λ_=>Qn)<|p (λ_=>Qn)<|pii (i:=0) rfl hA rfl rfl (by omega) λa46 h46=>?_
   rw[←e0] at h46
   refine pq (λ_ hc=>Qv (h46.st hc) rfl) <|
    p (λ_=>Qn)<|pii (i:=1) rfl hA rfl rfl (by omega) λa49 h49=>?_
   rw[←e1] at h49
   refine pq (λ_ hc=>Qv (h49.st hc) rfl)<|p (λ_=>Qh) <|
    p (λ_=>Qh)<|p (λ_=>Qh)<|p (λ_=>Qh)<|p (λ_=>Qh)<|pe ?_
   exact Qm ⟨[.int .i64 k,.int .i64 (cget ow 0),.int .i64 (cget ow 1),.bool true,.int .i64 0],⟨rfl,rfl,rfl,rfl,rfl,trivial⟩,hs04.trans (Step.drew _ _),by rw[hE0];rfl⟩
  have h2:¬2≤ow.length:=by have h44:¬(2:Int)≤(ow.length:Int):=h43;omega
  rw[if_neg h2] at hS3
  refine Qi<|Qw<|x (Qx rfl rfl ⟨by omega,by omega⟩)<|Qb<|xe ?_
  exact ⟨k+1,by omega,⟨rfl,trivial⟩,hlt,hs3.trans hs4,hS3⟩
 have hlti:i<c.co.length:=by have h16:(i:Int)<(c.co.length:Int):=h27;omega
 have hmem:=List.getElem_mem hlti
 have hsucc:=Uv (λq:IV=>decide ((k:Int)∈q.p.a.al)) hlti
 refine Qi<|Qf<|Qg<|Qc<|Qb<|xig (g:=Za) (i:=i) YE h4.co.arr rfl rfl hlti λa29 h29=>?_
 refine Q8 (c.co[i]'hlti) λq hq=>?_
 rw[hq] at h29 hmem hsucc
 have hqA:=h4.co.each q hmem
 refine x (QJ h29 rfl rfl)<|xl rfl<|Qu (us:=[.string .empty,nS,.int .i64 0,nS,nS]) rfl λb11 w5 hs5 hb11 hB11=>x Qh <|
  xl rfl<|Qo (us:=Za q) hB11 rfl rfl rfl rfl ⟨rfl,hqA.al.one,rfl,hqA.mr.one,hqA.ed.one,trivial⟩ λw6 hs6 hB11=>xe ?_
 have hs46:Step [] w4 w6:=hs5.then1 hs6 hb11
 refine Qc<|x (Qa rfl)<|x (Qa rfl)<|x (Qd hB11 rfl rfl)<|Qb<|xl rfl<|xf<|(ZG (hqA.al.ext hs46) (k:Int)).mono ?_
 rintro r7 w7 ⟨rfl,rfl⟩
 refine xe ?_
 refine Q6 rfl (λh35=>?_) (λh35=>?_)
 ·rw[if_pos (decide_eq_true h35)] at hsucc
  refine Qw<|Qb<|Qb<|xl rfl<|QD (us:=[[.int .i64 i]]) rfl rfl (by decide) (by simp) ⟨rfl,rfl,trivial⟩ λb38 w8 hs8 hb38 hB38=>?_
  have hs48:=hs46.trans hs8
  have hz48:=hs48.size
  refine xl rfl<|QY (news:=[.int .i64 i]) (L:=[]) (Qq ho4 hs48) rfl rfl rfl (hB38.at (by simp)) (by simp[Value.oneCell']) (by omega) (by omega) λv9 w9 ho9 hs9 hn9 =>
   Qe ?_
  have hge:=Qk ho4
  refine Qw<|x (Qx rfl rfl ⟨by omega,by omega⟩)<|Qb<|xe ?_
  refine ⟨(i+1,v9),by simp only[];omega,⟨rfl,rfl,trivial⟩,hlti,(hs4.trans hs48).then hs9 (λb hb=>.inr (hge b hb).1),?_⟩
  simp only[]
  rw[hsucc];exact Qt.snoc ho9
 rw[if_neg (by simpa using h35),List.append_nil] at hsucc
 refine Qi<|Qw<|x (Qx rfl rfl ⟨by omega,by omega⟩)<|Qb<|xe ?_
 exact ⟨(i+1,v),by simp only[];omega,⟨rfl,rfl,trivial⟩,hlti,hs4.trans hs46,by simp only[];rw[hsucc];exact Qq ho4 hs46⟩
theorem QaH {w:World}(hkb:Kb w 4096):QL prog 50 [] w λr w'=>r=.bool true∧Step [] w w':=by
 refine QL.of_W func50 rfl ntmps50 results50 (by simp) ?_
 refine Qc<|Qe<|QV (α:=Unit) [(0,4)] (λz=>[(0,.bool true)]) (λz w'=>Step [] w w') (by rfl) ?_ ?_
 ·refine Qw<|xl rfl<|xf<|(Qad hkb).mono ?_
  rintro r1 w1 ⟨rfl,hs1⟩
  refine Qb<|xl rfl<|xf<|(QcY w1).mono ?_
  rintro r2 w2 ⟨rfl,hs2⟩
  refine x (Ql rfl)<|Qe ?_
  exact ⟨(),⟨rfl,trivial⟩,hs1.trans hs2⟩
 rintro z g w3 hs3
 exact Qm ⟨[.bool true],⟨rfl,trivial⟩,rfl,hs3⟩
theorem Jt.eq_iff (a b:Jt):a=b↔a.kd=b.kd∧a.ix=b.ix∧a.co=b.co:=by
 cases a;cases b;simp
instance mdlDec (a b:Jt):Decidable (a=b):=decidable_of_iff _ (Jt.eq_iff a b).symm
theorem Ke {L L':LN}{w:World}{q q':MV}(h:QM L w.heap q.v q.co) (h':QM L' w.heap q'.v q'.co):QL prog 16 [.agg (Zn q).toArray,.agg (Zn q').toArray] w λr w'=>r=.bool (decide (q.m=q'.m))∧Step [] w w':=by
 refine QL.of_W func16 rfl ntmps16 results16 (by simp) ?_
 refine Qc<|xl rfl<|QR (us:=Zn q) rfl λb2 w1 hs1 hb2 hB2=>xl rfl<|QR (us:=Zn q') rfl λb3 w2 hs2 hb3 hB3=>Qe ?_
 have hs02:=hs1.trans hs2
 have hB22:=hB2.ext hs2
 refine QV (α:=Bool) [(4,23)] (λz=>[(4,.bool z)]) (λz w'=>Step [] w w'∧z=decide (q.m=q'.m)) (by rfl) ?_ ?_
 ·refine Qw<|x (Qa rfl)<|x (Qd hB22 rfl rfl)<|x (Qa rfl)<|x (Qd hB3 rfl rfl)<|xb (Q5 rfl rfl) (λh9=>?_) (λh9=>?_)
  ·refine Qb<|x (Qa rfl)<|x (Qd hB22 rfl rfl)<|x (Qa rfl)<|x (Qd hB3 rfl rfl)<|xb (Q5 rfl rfl) (λh15=>?_) (λh15=>?_)
   ·refine x (Ql rfl)<|Qb<|x (Qa rfl)<|x (Qd hB22 rfl rfl)<|x (Qa rfl)<|x (Qd hB3 rfl rfl)<|xl rfl<|xf<|(qy (h.ext hs02) (h'.ext hs02)).mono ?_
    rintro r3 w3 ⟨rfl,hs3⟩
    refine x (Ql rfl)<|Qe<|⟨_,⟨rfl,trivial⟩,hs02.trans hs3,?_⟩
    refine decide_eq_decide.2 ?_
    rw[Jt.eq_iff]
    exact ⟨λe=>⟨h9,h15,e⟩,λe=>e.2.2⟩
   refine x (Ql rfl)<|Qb<|xs rfl<|xs rfl<|xs rfl<|xs rfl<|xs rfl<|x (Ql rfl)<|Qe<|⟨false,⟨rfl,trivial⟩,hs02,(decide_eq_false λe=>h15 ?_).symm⟩
   exact congrArg Jt.ix e
  refine Qb<|xs rfl<|xs rfl<|xs rfl<|xs rfl<|xs rfl<|x (Ql rfl)<|Qb<|xs rfl<|xs rfl<|xs rfl<|xs rfl<|xs rfl<|x (Ql rfl)<|Qe<|⟨false,⟨rfl,trivial⟩,hs02,(decide_eq_false λe=>h9 ?_).symm⟩
  exact congrArg Jt.kd e
 rintro z g w4 ⟨hs4,hz⟩
 exact Qm ⟨[.bool z],⟨rfl,trivial⟩,by rw[←hz];rfl,hs4⟩
def XY:ByteArray:=⟨#[98,117,102,102,101,114]⟩
def KQ:YC:=⟨XY,⟨[1,2],2,[0,1],[(0,1,1),(1,2,0)]⟩⟩
def QgT:Zu:={ mzC 3 with rq:=[KQ],ex:=[Qe5 1 2] }
def Qae:Zu:={ QgT with ex:=[] }
theorem Qes:Zd QgT=0:=by kernel_rfl
theorem Qer:mods QgT=[⟨1,0,[0,1]⟩,⟨2,0,[1,2]⟩]:=by kernel_rfl
theorem zK:Zd Qae=0:=by kernel_rfl
theorem Qet:rem Qae=[2]:=by kernel_rfl
theorem Qev:QbZ Qae=0:=by kernel_rfl
theorem Qeu:(Qdp Qae).length=2:=by kernel_rfl
theorem QgR:((Qdp Qae).map (·.st)).getD 1 0=2:=by kernel_rfl
theorem QgS:shR Qae=none:=by kernel_rfl
set_option maxHeartbeats 4000000 in
theorem KZ (w:World):QL prog 126 [] w λr w'=>Step [] w w'∧QfU w.heap.size w'.heap r QgT:=by
 refine QL.of_W func126 rfl ntmps126 results126 (by simp) ?_
 refine Qc<|xl rfl<|Qu (us:=ZW) rfl λb0 w1 hs1 hb0 hB0=>xe ?_
 refine Qc<|xl rfl<|xf<|(XJ 3 (by decide) w1).mono ?_
 rintro r2 w2 ⟨hs2,c1,rfl,hc1,hC1⟩
 refine xl rfl<|Qu (us:=ZW) rfl λb1 w3 hs3 hb1 hB1=>xl rfl<|Qo (us:=c1.cells) hB1 rfl rfl rfl rfl (hC1 [] (by simp)).ones λw4 hs4 hB14=>xe ?_
 have hs24:Step [] w2 w4:=hs3.then1 hs4 hb1
 have hz1:=hs1.size
 have hz2:=hs2.size
 have hz24:=hs24.size
 have hl0:=hB0.lt
 have hl1:=hB14.lt
 refine Qc<|xl rfl<|QD (us:=[[.int .i64 1],[.int .i64 2]]) rfl rfl (by decide) (by simp) ⟨rfl,rfl,rfl,rfl,trivial⟩ λb3 w5 hs5 hb3 hB3=>xl rfl<|QD (us:=[[.int .i64 0],[.int .i64 1]]) rfl rfl (by decide) (by simp) ⟨rfl,rfl,rfl,rfl,trivial⟩ λb4 w6 hs6 hb4 hB4 =>
  x (QE ⟨rfl,rfl,rfl,trivial⟩)<|x (QE ⟨rfl,rfl,rfl,trivial⟩)<|xl rfl<|QD (us:=[Qy (0,1,1),Qy (1,2,0)]) rfl rfl (by decide) (by exact (by decide:2*3≤1000000)) ⟨rfl,rfl,rfl,rfl,trivial⟩ λb7 w7 hs7 hb7 hB7=>?_
 have hs47:=(hs5.trans hs6).trans hs7
 refine x (QE ⟨rfl,rfl,rfl,rfl,trivial⟩)<|x (ZQ [(0,[.string XY]),(1,[.slice (some ⟨b3,0,none⟩) 2 2,.int .i64 2,.slice (some ⟨b4,0,none⟩) 2 2,.slice (some ⟨b7,0,none⟩) 2 2])] ⟨rfl,rfl,rfl,rfl,trivial⟩) <|
  xl rfl<|QD (us:=[[.string XY,.slice (some ⟨b3,0,none⟩) 2 2,.int .i64 2,.slice (some ⟨b4,0,none⟩) 2 2,.slice (some ⟨b7,0,none⟩) 2 2]]) rfl rfl (by decide) (by exact (by decide:1*5≤1000000)) ⟨rfl,rfl,trivial⟩ λb10 w8 hs8 hb10 hB10=>?_
 have hs48:=hs47.trans hs8
 refine x (Qa rfl)<|xl rfl<|QG (j:=2) (u:=.slice (some ⟨b10,0,none⟩) 1 1) (hB14.ext hs48) rfl rfl (by simp) rfl λw9 hs9 hB19=>xe ?_
 refine Qc<|x (QE ⟨rfl,rfl,trivial⟩)<|x (QE ⟨rfl,rfl,trivial⟩)<|xl rfl<|QD (us:=[QP (1,1),QP (2,1)]) rfl rfl (by decide) (by exact (by decide:2*2≤1000000)) ⟨rfl,rfl,rfl,rfl,trivial⟩ λb14 w10 hs10 hb14 hB14'=>x (QE ⟨rfl,rfl,trivial⟩) <|
  xl rfl<|QD (us:=[[.string Jz,.slice (some ⟨b14,0,none⟩) 2 2]]) rfl rfl (by decide) (by exact (by decide:1*2≤1000000)) ⟨rfl,rfl,trivial⟩ λb16 w11 hs11 hb16 hB16=>?_
 have hs911:=hs10.trans hs11
 refine x (Qa rfl)<|xl rfl<|QG (j:=3) (u:=.slice (some ⟨b16,0,none⟩) 1 1) (hB19.ext hs911) rfl rfl (by simp) rfl λw12 hs12 hB112=>xe ?_
 have hz5:=hs5.size
 have hz6:=hs6.size
 have hz7:=hs7.size
 have hz8:=hs8.size
 have hz9:=hs9.size
 have hz10:=hs10.size
 have hz11:=hs11.size
 have hs412:Step [b1] w4 w12:=((hs48.any.trans' hs9).trans hs911.any).trans' hs12
 have n01:b0∉[b1]:=by simp only[List.mem_singleton];omega
 have hB012:=((hB0.ext hs2).ext hs24).step hs412 n01
 have hone:ZL [c1.ve,c1.vc,.slice (some ⟨b10,0,none⟩) 1 1,.slice (some ⟨b16,0,none⟩) 1 1,c1.vk]:=by
  have h9:=(hC1 [] (by simp)).ones
  exact ⟨h9.1,h9.2.1,rfl,rfl,h9.2.2.2.2.1,trivial⟩
 refine Qc<|x (Qr hB112 rfl rfl)<|xl rfl<|Qo (us:=[c1.ve,c1.vc,.slice (some ⟨b10,0,none⟩) 1 1,.slice (some ⟨b16,0,none⟩) 1 1,c1.vk]) hB012 rfl rfl rfl rfl hone λw13 hs13 hB013=>xe ?_
 have hq:=CL.cel_ex (CL.cel_rq hc1 (.slice (some ⟨b10,0,none⟩) 1 1) [⟨XY,⟨.slice (some ⟨b3,0,none⟩) 2 2,.slice (some ⟨b4,0,none⟩) 2 2,.slice (some ⟨b7,0,none⟩) 2 2,KQ.a⟩⟩]) (.slice (some ⟨b16,0,none⟩) 1 1) [⟨Jz,.slice (some ⟨b14,0,none⟩) 2 2,[(1,1),(2,1)]⟩]
 refine Qm ⟨[.agg [c1.ve,c1.vc,.slice (some ⟨b10,0,none⟩) 1 1,.slice (some ⟨b16,0,none⟩) 1 1,c1.vk].toArray],⟨⟨_,rfl,QA rfl (hB013.at (L:=[]) (by simp)).cells⟩,trivial⟩,(((hs1.trans hs2).trans hs24).then1 hs412 (by omega)).then1 hs13 (by omega),_,rfl,hq,λL hL=>?_⟩
 have hL1:∀b∈b0::L,b<w1.heap.size:=λb hb=>by
  rcases List.mem_cons.1 hb with rfl | hb
  ·exact hl0
  ·have:=hL b hb;omega
 have hL4:∀b∈b1::b0::L,b<w4.heap.size:=λb hb=>by
  rcases List.mem_cons.1 hb with rfl | hb
  ·exact hl1
  ·have:=hL1 b hb;omega
 have h2:=(hC1 (b0::L) hL1).up (L':=b1::b0::L) (λb hb=>by
  rcases List.mem_cons.1 hb with rfl | hb
  ·exact .inr hb1
  ·exact .inl hb)
 have h12:=(h2.ext hs24).st (hs412.mono (by simp))
 have nB:∀b,w4.heap.size≤b→b∉b1::b0::L:=λb hb hm=>by have:=hL4 b hm;omega
 have hI:YZ (b1::b0::L) w8.heap (.slice (some ⟨b10,0,none⟩) 1 1) [⟨XY,⟨.slice (some ⟨b3,0,none⟩) 2 2,.slice (some ⟨b4,0,none⟩) 2 2,.slice (some ⟨b7,0,none⟩) 2 2,KQ.a⟩⟩]:=by
  refine ⟨hB10.arr (nB _ (by omega)) (n:=1) (cap:=1) (sz:=5) rfl (by decide) (Nat.le_refl _),λq hq=>?_,λq hq=>?_⟩
  ·rw[List.mem_singleton.1 hq]
   exact ⟨(((hB3.ext hs6).ext hs7).ext hs8).arr (nB _ (by omega)) (n:=2) (cap:=2) (sz:=1) rfl (by decide) (Nat.le_refl _),((hB4.ext hs7).ext hs8).arr (nB _ (by omega)) (n:=2) (cap:=2) (sz:=1) rfl (by decide) (Nat.le_refl _),(hB7.ext hs8).arr (nB _ (by omega)) (n:=2) (cap:=2) (sz:=3) rfl (by decide) (Nat.le_refl _)⟩
  ·rw[List.mem_singleton.1 hq];exact YL (by decide)
 have hX:U0 (b1::b0::L) w11.heap (.slice (some ⟨b16,0,none⟩) 1 1) [⟨Jz,.slice (some ⟨b14,0,none⟩) 2 2,[(1,1),(2,1)]⟩]:=by
  refine ⟨hB16.arr (nB _ (by omega)) (n:=1) (cap:=1) (sz:=2) rfl (by decide) (Nat.le_refl _),λq hq=>?_,λq hq=>?_⟩
  ·rw[List.mem_singleton.1 hq]
   exact (hB14'.ext hs11).arr (nB _ (by omega)) (n:=2) (cap:=2) (sz:=2) rfl (by decide) (Nat.le_refl _)
  ·rw[List.mem_singleton.1 hq];exact YL (by decide)
 have h13:Zv (b1::b0::L) w12.heap (CL.mk c1.ve c1.vc (.slice (some ⟨b10,0,none⟩) 1 1) (.slice (some ⟨b16,0,none⟩) 1 1) c1.vk c1.ev c1.co [⟨XY,⟨.slice (some ⟨b3,0,none⟩) 2 2,.slice (some ⟨b4,0,none⟩) 2 2,.slice (some ⟨b7,0,none⟩) 2 2,KQ.a⟩⟩] [⟨Jz,.slice (some ⟨b14,0,none⟩) 2 2,[(1,1),(2,1)]⟩] c1.cs) :=
  ⟨h12.ev,h12.co,((hI.st (hs9.mono (by simp))).ext hs911).st (hs12.mono (by simp)),hX.st (hs12.mono (by simp)),h12.cs⟩
 exact (h13.st (hs13.mono (by simp))).up (λb hb=>.inl (List.mem_cons_of_mem _ (List.mem_cons_of_mem _ hb)))
theorem yT {a b:LI}(ha:Yf a) (hb:Yf b) (h:∀x,x∈a↔x∈b):a=b:=by
 have na:a.Nodup:=List.Pairwise.imp (λh=>by omega) ha
 have nb:b.Nodup:=List.Pairwise.imp (λh=>by omega) hb
 exact List.Perm.eq_of_pairwise (le:=λx y:Int=>x<y) (λa b _ _ h1 h2=>by omega) ha hb ((List.perm_ext_iff_of_nodup na nb).2 h)
theorem yK {m n:Nat}{e:Int}:e∈setK m n↔∃k:Nat,k<n∧e=(k:Int)∧m.testBit k=true:=by
 unfold setK
 rw[List.mem_map]
 constructor
 ·rintro ⟨k,hk,rfl⟩
  rw[List.mem_filter,List.mem_range'_1] at hk
  refine ⟨k,by omega,rfl,?_⟩
  have:=of_decide_eq_true hk.2
  rw[Nat.testBit_eq_decide_div_mod_eq]
  rw[Nat.and_one_is_mod] at this
  exact decide_eq_true this
 ·rintro ⟨k,hk,rfl,ht⟩
  refine ⟨k,?_,rfl⟩
  rw[List.mem_filter,List.mem_range'_1]
  refine ⟨by omega,decide_eq_true ?_⟩
  rw[Nat.testBit_eq_decide_div_mod_eq] at ht
  rw[Nat.and_one_is_mod]
  exact of_decide_eq_true ht
theorem zt (b k j:Nat):(orB b k).testBit j=true↔b.testBit j=true∨k=j:=by
 unfold orB
 rw[Nat.testBit_or,Nat.one_shiftLeft,Nat.testBit_two_pow,Bool.or_eq_true,decide_eq_true_iff]
theorem j3 (j:Nat):∀(ls:List (Int×Int)) (b:Nat),(ls.foldl (λb l=>orB b l.1.toNat) b).testBit j=true↔b.testBit j=true∨∃p∈ls,p.1.toNat=j
 | [],b=>by simp
 | p::ls,b=>by
  rw[List.foldl_cons,j3 j ls,zt]
  simp only[List.mem_cons,exists_eq_or_imp]
  exact or_assoc
theorem Qa0 {ls:List (Int×Int)}{n:Nat}(h:∀p∈ls,0≤p.1∧p.1<(n:Int)) (hi:Yf (ls.map (·.1))):setK (U6 ls) n=ls.map (·.1):=by
 refine yT (Ky _ _) hi λx=>?_
 rw[yK,List.mem_map]
 unfold U6
 constructor
 ·rintro ⟨k,hk,rfl,ht⟩
  rw[j3] at ht
  rcases ht with ht | ⟨p,hp,hpk⟩
  ·simp at ht
  ·exact ⟨p,hp,by have:=h p hp;omega⟩
 ·rintro ⟨p,hp,rfl⟩
  have:=h p hp
  exact ⟨p.1.toNat,by omega,by omega,(j3 _ _ _).2 (.inr ⟨p,hp,rfl⟩)⟩
theorem jU (x:YC) (j:Nat):∀(l:List YC) (k b:Nat),(jV x k b l).testBit j=true↔b.testBit j=true∨∃i,∃h:i<l.length,k+i=j∧((l[i]'h).a.al.any λe=>decide (e∈x.a.al))=true
 | [],k,b=>by simp[jV]
 | y::l,k,b=>by
  rw[jV,jU x j l]
  constructor
  ·rintro (h | ⟨i,hi,h1,h2⟩)
   ·by_cases hy:(y.a.al.any λe=>decide (e∈x.a.al))=true
    ·rw[if_pos hy,zt] at h
     rcases h with h | h
     ·exact .inl h
     ·exact .inr ⟨0,by simp,by omega,hy⟩
    ·rw[if_neg hy] at h;exact .inl h
   ·exact .inr ⟨i+1,by simp;omega,by omega,h2⟩
  ·rintro (h | ⟨i,hi,h1,h2⟩)
   ·refine .inl ?_
    by_cases hy:(y.a.al.any λe=>decide (e∈x.a.al))=true
    ·rw[if_pos hy,zt];exact .inl h
    ·rw[if_neg hy];exact h
   ·cases i with
    | zero =>
    have h3:(y.a.al.any λe=>decide (e∈x.a.al))=true:=h2
    refine .inl ?_;rw[if_pos h3,zt];exact .inr (by omega)
    | succ i=>exact .inr ⟨i,by simpa using hi,by omega,h2⟩
def mts (a b:LI):Bool:=a.any λe=>decide (e∈b)
theorem yI (a b:LI):mts a b=mts b a:=by
 unfold mts
 rw[Bool.eq_iff_iff,List.any_eq_true,List.any_eq_true]
 constructor <;> rintro ⟨e,h1,h2⟩ <;> exact ⟨e,of_decide_eq_true h2,decide_eq_true h1⟩
def lmR (co:List YC):Nat→List YC→List Jt
 | _,[]=>[]
 | i,x::l=>⟨1,i,ixs (λy:YC=>mts x.a.al y.a.al) 0 co⟩::lmR co (i+1) l
def lmP (kd:Int):Nat→List (List (Int×Int))→List Jt
 | _,[]=>[]
 | i,x::l=>⟨kd,i,x.map (·.1)⟩::lmP kd (i+1) l
def lmd (c:Zu):List Jt:=lmR c.co 0 c.rq++(lmP 2 0 (c.ex.map (·.ls))++lmP 3 0 (c.cs.map (·.ts)))
theorem zD {α:Type}(q:α→Bool) (x:Int):∀(l:List α) (i:Nat),x∈ixs q i l↔∃k,∃h:k<l.length,x=((i+k:Nat):Int)∧q (l[k]'h)=true
 | [],i=>by simp[ixs]
 | y::l,i=>by
  rw[ixs]
  have ih:=zD q x l (i+1)
  constructor
  ·intro h
   by_cases hy:q y=true
   ·rw[if_pos hy] at h
    rcases List.mem_cons.1 h with h | h
    ·exact ⟨0,by simp,by rw[h];simp,hy⟩
    ·obtain ⟨k,hk,h1,h2⟩:=ih.1 h
     exact ⟨k+1,by simp;omega,by rw[h1];congr 1;omega,h2⟩
   ·rw[if_neg hy] at h
    obtain ⟨k,hk,h1,h2⟩:=ih.1 h
    exact ⟨k+1,by simp;omega,by rw[h1];congr 1;omega,h2⟩
  ·rintro ⟨k,hk,h1,h2⟩
   cases k with
   | zero =>
    have h3:q y=true:=h2
    rw[if_pos h3];exact List.mem_cons.2 (.inl (by rw[h1];simp))
   | succ k =>
    have h3:=ih.2 ⟨k,by simpa using hk,by rw[h1];congr 1;omega,h2⟩
    split
    ·exact List.mem_cons_of_mem _ h3
    ·exact h3
theorem zM {α:Type}(q:α→Bool):∀(l:List α) (i:Nat),Yf (ixs q i l)
 | [],_=>List.Pairwise.nil
 | y::l,i=>by
  rw[ixs]
  split
  ·refine List.pairwise_cons.2 ⟨λx hx=>?_,zM q l (i+1)⟩
   obtain ⟨k,_,h1,_⟩:=(zD q x l (i+1)).1 hx
   omega
  ·exact zM q l (i+1)
theorem Qgr {x:YC}{co:List YC}{n:Nat}(hn:co.length≤n):setK (jV x 0 0 co) n=ixs (λy:YC=>mts x.a.al y.a.al) 0 co:=by
 refine yT (Ky _ _) (zM _ _ _) λe=>?_
 rw[yK,zD]
 constructor
 ·rintro ⟨k,hk,rfl,ht⟩
  rw[jU] at ht
  rcases ht with ht | ⟨i,hi,h1,h2⟩
  ·simp at ht
  ·exact ⟨i,hi,by omega,by rw[yI];exact h2⟩
 ·rintro ⟨k,hk,rfl,h2⟩
  exact ⟨k,by omega,by simp,(jU _ _ _ _ _).2 (.inr ⟨k,hk,by omega,by rw[yI] at h2;exact h2⟩)⟩
theorem Uo {kd:Int}{f:List (Int×Int)→Prop}(hf:∀ls,f ls→setK (U6 ls) 8=ls.map (·.1)):∀(l:List (List (Int×Int))) (i:Nat),(∀x∈l,f x)→Jn kd i (l.map U6)=lmP kd i l
 | [],_,_=>rfl
 | x::l,i,h=>by
  rw[List.map_cons,Jn,lmP,hf x (h x List.mem_cons_self),Uo hf l (i+1) (λy hy=>h y (List.mem_cons_of_mem _ hy))]
theorem yM {co:List YC}(hn:co.length≤8):∀(l:List YC) (i:Nat),Jn 1 i (l.map λx=>jV x 0 0 co)=lmR co i l
 | [],_=>rfl
 | x::l,i=>by
  rw[List.map_cons,Jn,lmR,Qgr hn,yM hn l (i+1)]
theorem D25.lmd {c:Zu}(h:D25 c):mods c=lmd c:=by
 have h3:=h.c3
 have hz:(szs c.co).length=c.co.length:=by unfold szs;rw[List.length_map]
 unfold mods Proofs.YtdffckgdcegpaaaGreatDoor.lmd srR srX srC
 rw[yM (by omega)]
 have e1:c.ex.map (λx=>U6 x.ls)=(c.ex.map (·.ls)).map U6:=by rw[List.map_map];rfl
 have e2:c.cs.map (λx=>U6 x.ts)=(c.cs.map (·.ts)).map U6:=by rw[List.map_map];rfl
 rw[e1,e2,Uo (f:=λls=>(∀p∈ls,0≤p.1∧p.1<(8:Int))∧Yf (ls.map (·.1))) (λls hf=>Qa0 (n:=8) hf.1 hf.2) _ _ (λls hls=>?_),Uo (f:=λls=>(∀p∈ls,0≤p.1∧p.1<(8:Int))∧Yf (ls.map (·.1))) (λls hf=>Qa0 (n:=8) hf.1 hf.2) _ _ (λls hls=>?_)]
 ·obtain ⟨x,hx,rfl⟩:=List.mem_map.1 hls
  have h1:=(h.cs x hx).2
  have h2:Xk (szs c.co) none x.ts=0:=by
   unfold YG at h1
   split at h1
   ·cases h1
   ·split at h1
    ·rename_i h9;exact absurd h1 h9
    ·rename_i h9;exact Decidable.not_not.1 h9
  have h4:=Kh _ _ _ h2
  exact ⟨λp hp=>by have:=h4.1 p hp;omega,h4.2.1⟩
 ·obtain ⟨x,hx,rfl⟩:=List.mem_map.1 hls
  have h4:=Ki _ _ _ (h.ex x hx).2.2
  exact ⟨λp hp=>by have:=h4.1 p hp;omega,h4.2.1⟩
end Go.Proofs.YtdffckgdcegpaaaGreatDoor
