/- Merged out of 32 texts. -/
import Derived.Test.YtdffckgdcegpaaaGreatDoorKlc
import Derived.Shelf.SlSortCmp.NoneTotal
import Derived.Tactics
import Derived.Sort.Grow
import Derived.Deep.Draws
import Derived.Sort.Statements
import Derived.Shelf.Lay
import Derived.Tactics2
import Derived.Laws.IdiomStrings
import Derived.Shelf.SortM.Plain
import Derived.Shelf.SortM.SortNone
import Derived.Shelf.SlicesE.Compact
import Derived.Shelf.SlicesE.DeleteFunc
import Derived.Ground.SlgmProg
import Derived.Ground.SlgnProg
import Derived.Ground.SlgfProg
namespace Go.Proofs.YtdffckgdcegpaaaGreatDoor
open Go.Proofs.Tryz
open Go.Lg
def J5 (co:LI) (ls:List (Int×Int)):List (Int×Int):=ls.map λl=>((lwB co l.1:Int),l.2)
theorem QbC {co:LI}(hi:Yi co) {ls:List (Int×Int)}(h:mis co ls=false):J5 co ls=ixP co ls:=by
 unfold J5 ixP
 refine List.map_congr_left λl hl=>?_
 unfold mis at h
 have h1:=List.any_eq_false.1 h l hl
 have hm:l.1∈co:=by simpa using h1
 rw[Qbx hi hm]
abbrev exG (c:Zv) (i:Int):zg:=c.ex.getD i.toNat ⟨.empty,[]⟩
abbrev csG (c:Zv) (i:Int):Y3:=c.cs.getD i.toNat ⟨.empty,[],0⟩
def exB (c:Zv) (co ix:LI):List zg:=ix.map λi=>⟨(exG c i).nm,J5 co (exG c i).ls⟩
def csB (c:Zv) (co ix:LI):List Y3:=ix.map λi=>⟨(csG c i).nm,J5 co (csG c i).ts,(csG c i).bd⟩
def exM (c:Zv) (co ix:LI):Bool:=ix.any λi=>mis co (exG c i).ls
def csM (c:Zv) (co ix:LI):Bool:=ix.any λi=>mis co (csG c i).ts
theorem QgF (c:Zv) (p:Prt):Qj8 c p=(exM c p.co p.ex || csM c p.co p.cs):=rfl
theorem Qhx {c:Zv}{p:Prt}(hi:Yi p.co) (h:exM c p.co p.ex=false):exB c p.co p.ex=QgE c p:=by
 unfold exB QgE
 refine List.map_congr_left λi hi'=>?_
 rw[QbC hi (by have:=List.any_eq_false.1 h i hi';simpa using this)]
theorem QhI {c:Zv}{p:Prt}(hi:Yi p.co) (h:csM c p.co p.cs=false):csB c p.co p.cs=QgG c p:=by
 unfold csB QgG
 refine List.map_congr_left λi hi'=>?_
 rw[QbC hi (by have:=List.any_eq_false.1 h i hi';simpa using this)]
def ck4:List (Value×LI×Int)→Int
 | []=>0
 | (_,s,n)::l=>if Xt n none s≠0 then Xt n none s else ck4 l
abbrev skC (x:Value×LI×Int):LV:=[x.1,.int .i64 x.2.2]
theorem QiB (x:Value×LI×Int):(skC x).length=2:=rfl
theorem jC:∀{l:List (Value×LI×Int)},ck4 l=0→∀x∈l,Xt x.2.2 none x.2.1=0
 | [],_,x,hx=>by cases hx
 | (v,s,n)::l,h,x,hx=>by
  rw[ck4] at h
  by_cases h1:Xt n none s≠0
  ·rw[if_pos h1] at h;exact absurd h h1
  ·rw[if_neg h1] at h
   rcases List.mem_cons.1 hx with rfl | hx
   ·exact Decidable.not_not.1 h1
   ·exact jC h x hx
theorem ZN.app2 {α:Type}{g:α→LV}{sz T:Nat}{p:α→Value×Nat×Nat×LV}{base N e:Nat}{w7 w8:World}{v v8:Value}{l:List α}{q:α}(h:ZN g sz T p base w7 v l)
  (hq:w7.ownsRow N e (p q).2.2.1 (p q).1 (p q).2.1 (p q).2.2.2) (hqn:(p q).2.1≤1099511627776) (hb:base≤N) (hav:∀b∈ob v,b<N)
  (ho:w8.ownsRow base T sz v8 (l.length+1) (l.flatMap g++g q)) (hs8:Step (ob v) w7 w8) (hn:∀b∈ob v8,b∈ob v∨w7.heap.size≤b):ZN g sz T p base w8 v8 (l++[q]):=by
 refine ⟨?_,λd hd=>?_⟩
 ·rw[List.length_append,List.flatMap_append];simpa using ho
 ·rcases List.mem_append.1 hd with hd | hd
  ·exact (h.each d hd).app hs8 hn
  ·simp only[List.mem_singleton] at hd;subst hd
   exact (ZH.of_own hq hqn hb hav).app hs8 hn
instance:Bw prog 47 [nS,nS,nS,nS,nS] [(0,1),(1,1),(2,1),(3,1),(4,1)]:=⟨by kernel_rfl,by decide⟩
theorem Vq {v:Value}(h:v.oneCell'=true):v.cells=[v].toArray:=by
 cases v <;> first | rfl | cases h
theorem QeX {N M:Nat}{w':World}{v:Value}{qs:List IV}(h:∀L:LN,(∀b∈L,b<N)→Y2 L w'.heap v qs) (hM:w'.heap.size=M) {L:LN}(hL:∀b∈L,b∉yI N M):Y2 L w'.heap v qs:=by
 refine (h (L.filter λb=>decide (b<N)) (λb hb=>by have:=(List.mem_filter.1 hb).2;exact of_decide_eq_true this)).up (λb hb=>?_)
 by_cases hbN:b<N
 ·exact .inl (List.mem_filter.2 ⟨hb,decide_eq_true hbN⟩)
 ·refine .inr ?_
  have:=hL b hb
  rw[ZT] at this
  omega
structure EiA (L:LN) (H:Array Obj) (z:Value×Value×Value) (ev:List J3) (qc qr:List IV):Prop where
 ev:Kv L H z.1 ev
 co:Y2 L H z.2.1 qc
 rq:Y2 L H z.2.2 qr
theorem EiA.ext {L:LN}{w w':World}{z:Value×Value×Value}{ev:List J3}{qc qr:List IV}(h:EiA L w.heap z ev qc qr) (hs:Step [] w w'):EiA L w'.heap z ev qc qr:=⟨h.ev.ext hs,h.co.ext hs,h.rq.ext hs⟩
theorem EiA.st {L:LN}{w w':World}{z:Value×Value×Value}{ev:List J3}{qc qr:List IV}(h:EiA L w.heap z ev qc qr) (hs:Step L w w'):EiA L w'.heap z ev qc qr:=⟨h.ev.st hs,h.co.st hs,h.rq.st hs⟩
theorem EiA.up {L L':LN}{H:Array Obj}{z:Value×Value×Value}{ev:List J3}{qc qr:List IV}(h:EiA L H z ev qc qr) (hL:∀b∈L',b∈L∨H.size≤b):EiA L' H z ev qc qr:=⟨h.ev.up hL,h.co.up hL,h.rq.up hL⟩
set_option maxRecDepth 4096 in
set_option maxHeartbeats 16000000 in
theorem UW {L:LN}{w:World}{c:CL}{v0 v1 v2 v3:Value}{p:Prt}(h0:Zu L w.heap c) (hc0:QL L w.heap v0 p.co) (hr0:QL L w.heap v1 p.rq) (hx0:QL L w.heap v2 p.ex) (hk0:QL L w.heap v3 p.cs) :
  QJ prog 33 [c.val,.agg #[v0,v1,v2,v3]] w λr w'=>Step [] w w'∧∃us,r=.tuple #[.agg us.toArray,.int .i64 (Vl c.cel p)]∧us.length=5∧Zw us∧(Vl c.cel p≠0→us=Z3)∧(Vl c.cel p=0→Qdd w.heap.size w'.heap (.agg us.toArray) (Kf c.cel p)):=by
 have h:=h0.up (L':=[]) (by simp)
 have hc:=hc0.up (L':=[]) (by simp)
 have hr:=hr0.up (L':=[]) (by simp)
 have hx:=hx0.up (L':=[]) (by simp)
 have hk:=hk0.up (L':=[]) (by simp)
 have hsel:Vl c.cel p=if Zi c.cel≠0 then Zi c.cel else if ck4 [(v0,p.co,(c.co.length:Int)),(v1,p.rq,(c.rq.length:Int)),(v2,p.ex,(c.ex.length:Int)),(v3,p.cs,(c.cs.length:Int))]≠0 then ck4 [(v0,p.co,(c.co.length:Int)),(v1,p.rq,(c.rq.length:Int)),(v2,p.ex,(c.ex.length:Int)),(v3,p.cs,(c.cs.length:Int))]
   else if (exM c.cel p.co p.ex || csM c.cel p.co p.cs)=true then 13 else Zi (Kf c.cel p):=by
  have e1:c.cel.co.length=c.co.length:=List.length_map ..
  have e2:c.cel.rq.length=c.rq.length:=List.length_map ..
  have e3:c.cel.ex.length=c.ex.length:=List.length_map ..
  have e4:c.cel.cs.length=c.cs.length:=List.length_map ..
  unfold Vl
  rw[e1,e2,e3,e4,QgF]
  simp only[ck4]
  by_cases q0:Zi c.cel≠0
  ·rw[if_pos q0,if_pos q0]
  rw[if_neg q0,if_neg q0]
  by_cases q1:Xt (c.co.length:Int) none p.co≠0
  ·simp only[if_pos q1]
  simp only[if_neg q1]
  by_cases q2:Xt (c.rq.length:Int) none p.rq≠0
  ·simp only[if_pos q2]
  simp only[if_neg q2]
  by_cases q3:Xt (c.ex.length:Int) none p.ex≠0
  ·simp only[if_pos q3]
  simp only[if_neg q3]
  by_cases q4:Xt (c.cs.length:Int) none p.cs≠0
  ·simp only[if_pos q4]
  simp only[if_neg q4]
  simp
 refine Zd (Vl c.cel p) λE hE=>?_
 rw[hE] at hsel ⊢
 refine Zd [(v0,p.co,(c.co.length:Int)),(v1,p.rq,(c.rq.length:Int)),(v2,p.ex,(c.ex.length:Int)),(v3,p.cs,(c.cs.length:Int))] λl4 hl4=>?_
 rw[hl4] at hsel
 have hl4n:l4.length=4:=by rw[←hl4];rfl
 have hl4i:∀x∈l4,QL [] w.heap x.1 x.2.1:=by
  rw[←hl4]
  intro x hm
  simp only[List.mem_cons,List.not_mem_nil,or_false] at hm
  rcases hm with rfl | rfl | rfl | rfl
  ·exact hc
  ·exact hr
  ·exact hx
  ·exact hk
 have hl4z:ck4 l4=0→Xt (c.co.length:Int) none p.co=0∧Xt (c.rq.length:Int) none p.rq=0∧Xt (c.ex.length:Int) none p.ex=0∧Xt (c.cs.length:Int) none p.cs=0:=by
  intro h0
  have h1:=jC h0
  rw[←hl4] at h1
  exact ⟨h1 (v0,p.co,_) (by simp),h1 (v1,p.rq,_) (by simp),h1 (v2,p.ex,_) (by simp),h1 (v3,p.cs,_) (by simp)⟩
 have hcl:=hc.le
 have hrl:=hr.le
 have hxl:=hx.le
 have hkl:=hk.le
 have hexl:=h.ex.arr.le
 have hcsl:=h.cs.arr.le
 refine QJ.of_W func33 rfl ntmps33 results33 (by simp) ?_
 refine Qc<|xl rfl<|QQ (us:=c.cells) rfl λb2 w1 hs1 hb2 hB2=>xl rfl<|QQ (us:=[v0,v1,v2,v3]) rfl λb3 w2 hs2 hb3 hB3=>xl rfl<|Qt (us:=Z3) rfl λb4 w3 hs3 hb4 hB4=>Qe ?_
 have hz1:=hs1.size
 have hz2:=hs2.size
 have hz3:=hs3.size
 have hl2:=hB2.lt
 have hl3:=hB3.lt
 have hl4':=hB4.lt
 have hs03:=(hs1.trans hs2).trans hs3
 refine Qf<|Qc<|x (Qq ((hB2.ext hs2).ext hs3) rfl rfl)<|xl rfl<|xf<|(YO (h.ext hs03)).mono ?_
 rintro r4 w4 ⟨rfl,hs4⟩
 refine Qe ?_
 have hs04:=hs03.trans hs4
 have hz4:=hs4.size
 have hB24:=((hB2.ext hs2).ext hs3).ext hs4
 have hB34:=(hB3.ext hs3).ext hs4
 have hB44:=hB4.ext hs4
 refine Qc<|Qb<|x (Q8 rfl rfl)<|xe ?_
 refine Q4 rfl (λh27=>?_) (λh27=>?_)
 ·rw[if_pos h27] at hsel
  subst hsel
  refine Qc<|x (QE trivial)<|Qb<|xl rfl<|Qn (us:=Z3) hB44 rfl rfl rfl rfl ⟨rfl,rfl,rfl,rfl,rfl,trivial⟩ λw5 hs5 hB45=>Qe ?_
  exact Ql ⟨[.agg Z3.toArray,.int .i64 (Zi c.cel)],⟨⟨_,rfl,Qz rfl (hB45.at (L:=[]) (by simp)).cells⟩,rfl,trivial⟩,hs04.then1 hs5 (by omega),Z3,rfl,rfl,⟨rfl,rfl,rfl,rfl,rfl,trivial⟩,λ_=>rfl,λh0=>absurd h0 h27⟩
 rw[if_neg h27] at hsel
 refine Qi ?_
 have h4:=h.ext hs04
 refine Qf<|Qc<|x (Qa rfl)<|x (Qd hB34 rfl rfl)<|x (Qa rfl)<|x (Qd hB24 rfl rfl)<|x (Qr h4.co.arr rfl)<|x (QE ⟨hc.cells,rfl,trivial⟩) <|
  x (Qa rfl)<|x (Qd hB34 rfl rfl)<|x (Qa rfl)<|x (Qd hB24 rfl rfl)<|x (Qr h4.rq.arr rfl)<|x (QE ⟨hr.cells,rfl,trivial⟩) <|
  x (Qa rfl)<|x (Qd hB34 rfl rfl)<|x (Qa rfl)<|x (Qd hB24 rfl rfl)<|x (Qr h4.ex.arr rfl)<|x (QE ⟨hx.cells,rfl,trivial⟩) <|
  x (Qa rfl)<|x (Qd hB34 rfl rfl)<|x (Qa rfl)<|x (Qd hB24 rfl rfl)<|x (Qr h4.cs.arr rfl)<|x (QE ⟨hk.cells,rfl,trivial⟩) <|
  xl rfl<|QD (us:=[skC (v0,p.co,(c.co.length:Int)),skC (v1,p.rq,(c.rq.length:Int)),skC (v2,p.ex,(c.ex.length:Int)),skC (v3,p.cs,(c.cs.length:Int))]) rfl rfl (by decide) (by simp) ⟨rfl,rfl,rfl,rfl,rfl,rfl,rfl,rfl,trivial⟩ λb54 w6 hs6 hb54 hB54=>?_
 have hA54:Zj [] w6.heap (.slice (some ⟨b54,0,none⟩) 4 4) l4.length 2 (l4.flatMap skC):=by
  have:=hB54.arr (L:=[]) (by simp) (n:=4) (cap:=4) (sz:=2) (by rfl) (by omega) (Nat.le_refl _)
  rw[hl4n,←hl4];exact this
 refine x (Qr hA54 rfl)<|Qb<|xe ?_
 have hs06:=hs04.trans hs6
 have hz6:=hs6.size
 refine Qg<|QA (α:=Nat) [(5,5),(8,9),(56,69)] (λz=>[(56,.int .i64 z)]) (λz w'=>z≤l4.length∧Step [] w6 w'∧ck4 (l4.drop z)=ck4 l4) (λz=>l4.length - z) (by rfl) 0 ⟨rfl,trivial⟩ ⟨Nat.zero_le _,Step.refl _ _,rfl⟩ ?_
 rintro k g w7 ⟨hkl4,hs67,hck⟩
 have hs07:=hs06.trans hs67
 have hz7:=hs67.size
 refine Qc<|x (QB rfl rfl)<|xe ?_
 refine Qf<|QG rfl (λh57=>?_) (λh57=>?_)
 ·refine Qx ?_
  have hke:l4.length≤k:=by have h16:¬(k:Int)<(l4.length:Int):=h57;omega
  rw[List.drop_of_length_le hke] at hck
  have hck0:ck4 l4=0:=hck.symm
  rw[if_neg (λh0=>h0 hck0)] at hsel
  obtain ⟨zco,zrq,zex,zcs⟩:=hl4z hck0
  have hco:=(YG _ _ _).1 zco
  have hrq:=(YG _ _ _).1 zrq
  have hexz:=(YG _ _ _).1 zex
  have hcsz:=(YG _ _ _).1 zcs
  have h7:=h.ext hs07
  have hB27:Q2 w7.heap b2 47 c.cells:=(hB24.ext hs6).ext hs67
  have hB37:Q2 w7.heap b3 95 [v0,v1,v2,v3]:=(hB34.ext hs6).ext hs67
  have hB47:Q2 w7.heap b4 47 Z3:=(hB44.ext hs6).ext hs67
  have hsd:Step [] w7 { w7 with drawn:=w7.drawn+1 }:=Step.drew _ _
  refine QU (α:=Nat×(Value×Value×Value)×List IV×List IV) [(70,83),(10,10)] (λz=>[(10,.pointer (some ⟨z.1,0,none⟩))]) (λz w'=>Step [] w7 w'∧w7.heap.size≤z.1∧Q2 w'.heap z.1 47 [z.2.1.1,z.2.1.2.1,z.2.1.2.2,nS,nS] ∧
   z.2.2.1.map IV.it=chs c.cel.co p.co∧z.2.2.2.map IV.it=chs c.cel.rq p.rq∧Zw [z.2.1.1,z.2.1.2.1,z.2.1.2.2]∧∀L:LN,(∀b∈L,b<w7.heap.size∨b=z.1)→EiA L w'.heap z.2.1 c.ev z.2.2.1 z.2.2.2) (by rfl) ?_ ?_
  ·refine VF (α:=(Value×Value×Value)×List IV×List IV) (Step [] w7) [(0,true),(1,true),(3,true),(4,true),(5,true),(6,true),(8,true),(9,true),(10,true),(11,true)] [(2,false),(7,false),(12,false),(13,true)] 14 10 [(15,false)] []
    [(70,83)] [(72,72),(77,77),(82,83)] (λz=>[(83,.agg [z.1.1,z.1.2.1,z.1.2.2,nS,nS].toArray)])
    (λz own w'=>(∀b∈own,w7.heap.size≤b)∧z.2.1.map IV.it=chs c.cel.co p.co∧z.2.2.map IV.it=chs c.cel.rq p.rq∧Zw [z.1.1,z.1.2.1,z.1.2.2]∧∀L:LN,(∀b∈L,b∉own)→EiA L w'.heap z.1 c.ev z.2.1 z.2.2)
    (λv w'=>∃b,v=.pointer (some ⟨b,0,none⟩)∧w7.heap.size≤b∧Q2 w'.heap b 47 Z3) mixed (by rfl) (by kernel_rfl) (by rfl) rfl hsd (by simp) ?_ ?_ ?_ ?_
   ·rintro v own wa wb ⟨b,rfl,hb,hB⟩ hs hn
    exact ⟨b,rfl,hb,hB.step hs (hn b (by simp[ow]))⟩
   ·rintro z own wa wb ⟨h1,h2,h3,h4,h5⟩ hs
    exact ⟨h1,h2,h3,h4,λL hL=>(h5 L hL).ext hs⟩
   ·rintro ⟨zv,qc,qr⟩ g own wz v ⟨i1,i2,i3,i4,i5⟩ hCz ⟨b10,rfl,hb10,hB10⟩ hbo
    simp only[] at i2 i3 i4 i5
    have hb10o:=(hbo b10 (by simp[ow])).1
    refine pkl (hl:=by kernel_rfl)<|Qn (us:=[zv.1,zv.2.1,zv.2.2,nS,nS]) hB10 rfl rfl rfl rfl ⟨i4.1,i4.2.1,i4.2.2.1,rfl,rfl,trivial⟩ λw8 hs8 hB108=>pe ?_
    refine ⟨(b10,zv,qc,qr),⟨rfl,trivial⟩,hCz.then1 hs8 hb10,hb10,hB108,i2,i3,i4,λL hL=>?_⟩
    have h1:=i5 (b10::L) (λb hb=>by
     rcases List.mem_cons.1 hb with rfl | hb
     ·exact hb10o
     ·rcases hL b hb with h2 | h2
      ·exact λh3=>by have:=i1 b h3;omega
      ·subst h2;exact hb10o)
    exact (h1.st (hs8.mono (by simp))).up (λb hb=>.inl (by simp[hb]))
   refine Go.Lg.p (λ_=>Qa rfl)<|pq (λ_ hc=>Qd (hB27.ext hc) rfl rfl)<|Go.Lg.p (λ_=>Qa rfl)<|pq (λ_ hc=>Qd (hB27.ext hc) rfl rfl) <|
    Go.Lg.p (λ_=>Qa rfl)<|pq (λ_ hc=>Qd (hB37.ext hc) rfl rfl)<|Go.Lg.p (λ_=>Qa rfl)<|pq (λ_ hc=>Qd (hB27.ext hc) rfl rfl) <|
    Go.Lg.p (λ_=>Qa rfl)<|pq (λ_ hc=>Qd (hB37.ext hc) rfl rfl)<|pe ⟨λg wf hCf=>Qt (us:=Z3) rfl λb wf' hsf hbf hBf=>⟨hsf,hCf.trans hsf,⟨b,rfl,Nat.le_trans hCf.size hbf,hBf⟩,λx hx=>?_⟩,?_⟩
   ·have hxe:x=b:=by
     have hx':x∈[b]:=hx
     simpa using hx'
    subst hxe
    exact ⟨hbf,hBf.lt⟩
   refine f2k λx1 p1 c1=>xf<|(QaK (h7.ev.ext c1).arr).mono ?_
   rintro r72 y1 ⟨hs1',ho1⟩
   refine ⟨c1.trans hs1',yI x1.heap.size y1.heap.size,hs1'.any,λb hb=>.inr (ZT.1 hb),?_⟩
   refine f2k λx2 p2 c2=>xf<|(UX (h7.co.ext c2) (hc.ext (hs07.trans c2)) (λi hi=>hco.1 i hi)).mono ?_
   rintro r77 y2 ⟨hs2',⟨qc,hqc,hqcI⟩,ho2⟩
   refine ⟨c2.trans hs2',yI x1.heap.size y1.heap.size++yI x2.heap.size y2.heap.size,hs2'.any,λb hb=>(List.mem_append.1 hb).imp id λhb=>ZT.1 hb,?_⟩
   refine f2k λx3 p3 c3=>xf<|(UX (h7.rq.ext c3) (hr.ext (hs07.trans c3)) (λi hi=>hrq.1 i hi)).mono ?_
   rintro r82 y3 ⟨hs3',⟨qr,hqr,hqrI⟩,ho3⟩
   refine ⟨c3.trans hs3',(yI x1.heap.size y1.heap.size++yI x2.heap.size y2.heap.size)++yI x3.heap.size y3.heap.size,hs3'.any,λb hb=>(List.mem_append.1 hb).imp id λhb=>ZT.1 hb,?_⟩
   refine f2p (λ_=>ZS [(0,[r72]),(1,[r77]),(2,[r82])] ⟨Q3 ho1,rfl,Vq ho2,rfl,Vq ho3,rfl,trivial⟩)<|f2e ?_
   refine ⟨((r72,r77,r82),qc,qr),⟨rfl,trivial⟩,λb hb=>?_,hqc,hqr,⟨QH ho1,ho2,ho3,trivial⟩,λL hL=>?_⟩
   ·have e1:=c1.size
    have e2:=c2.size
    have e3:=c3.size
    rcases List.mem_append.1 hb with hb | hb
    ·rcases List.mem_append.1 hb with hb | hb
     ·have:=ZT.1 hb;omega
     ·have:=ZT.1 hb;omega
    ·have:=ZT.1 hb;omega
   ·have hL1:∀b∈L,b∉yI x1.heap.size y1.heap.size:=λb hb hm=>hL b hb (by simp[hm])
    have hL2:∀b∈L,b∉yI x2.heap.size y2.heap.size:=λb hb hm=>hL b hb (by simp[hm])
    have hL3:∀b∈L,b∉yI x3.heap.size y3.heap.size:=λb hb hm=>hL b hb (by simp[hm])
    have hev1:Kv L y1.heap r72 c.ev:=⟨QT ho1 h.ev.arr.le (λb hb hm=>hL1 b hm (ZT.2 (Qk ho1 b hb))),h.ev.nm⟩
    exact ⟨(((hev1.ext p2).ext hs2').ext p3).ext hs3',((QeX hqcI rfl hL2).ext p3).ext hs3',QeX hqrI rfl hL3⟩
  rintro ⟨b10,zv,qc,qr⟩ g wc ⟨hsc,hb10,hB10c,hqc,hqr,hone,hEi⟩
  simp only[] at hb10 hB10c hqc hqr hone hEi
  have hl10:=hB10c.lt
  have hzc:=hsc.size
  refine Qc<|xl rfl<|Qt (us:=[.bool false]) rfl λb11 w8 hs8 hb11 hB11=>xl rfl<|QF (j:=0) (u:=.bool false) hB11 rfl rfl (by simp) rfl λw9 hs9 hB119=>xe ?_
  have hsc9:Step [] wc w9:=hs8.then1 hs9 hb11
  have hs79:=hsc.trans hsc9
  have hs09:=hs07.trans hs79
  have hz9:=hsc9.size
  have hl11:=hB119.lt
  have hB109:=hB10c.ext hsc9
  have hB29:=hB27.ext hs79
  have hB39:=hB37.ext hs79
  have hB49:=hB47.ext hs79
  have h9:=h.ext hs09
  have hn10:b10≠b11:=by omega
  have hup:∀b∈[b10,b11],w.heap.size≤b:=λb hb=>by simp only[List.mem_cons,List.not_mem_nil,or_false] at hb;omega
  have hlt9:∀b∈[b10,b11],b<w9.heap.size:=λb hb=>by simp only[List.mem_cons,List.not_mem_nil,or_false] at hb;omega
  have hn2:b2∉[b10,b11]:=λhb=>by simp only[List.mem_cons,List.not_mem_nil,or_false] at hb;omega
  have hn3:b3∉[b10,b11]:=λhb=>by simp only[List.mem_cons,List.not_mem_nil,or_false] at hb;omega
  have hn4:b4∉[b10,b11]:=λhb=>by simp only[List.mem_cons,List.not_mem_nil,or_false] at hb;omega
  have hm10:∀b∈[b10],b∈[b10,b11]:=λb hb=>by simp only[List.mem_singleton] at hb;simp[hb]
  have hm11:∀b∈[b11],b∈[b10,b11]:=λb hb=>by simp only[List.mem_singleton] at hb;simp[hb]
  have ho1:=hone.1
  have ho2:=hone.2.1
  have ho3:=hone.2.2.1
  refine Qc<|x (Zr (l:=[]) (l':=[_,_]))<|Qe<|Qf<|Qc<|x (Qa rfl)<|x (Qd hB39 rfl rfl)<|x (Qr (hx.ext hs09) rfl)<|Qb<|xe ?_
  refine Qg<|QA (α:=Nat×Bool×Value×List XV) [(14,15),(17,17),(88,129)] (λz=>[(88,.int .i64 z.1)]) (λz w'=>z.1≤p.ex.length∧Step [b10,b11] w9 w'∧Q2 w'.heap b10 47 [zv.1,zv.2.1,zv.2.2,z.2.2.1,nS]∧Q2 w'.heap b11 4 [.bool z.2.1] ∧
   XvN w9.heap.size w' z.2.2.1 z.2.2.2∧z.2.2.2.map (·.x)=exB c.cel p.co (p.ex.take z.1)∧z.2.1=exM c.cel p.co (p.ex.take z.1)∧∀q∈z.2.2.2,VW q.nm) (λz=>p.ex.length - z.1) (by rfl) (0,false,nS,[]) ⟨rfl,trivial⟩
   ⟨Nat.zero_le _,Step.refl _ _,hB109,hB119,ZN.nil,rfl,rfl,λq hq=>by cases hq⟩ ?_
  rintro ⟨k,mi,vx,qx⟩ g w10 ⟨hk10,hs910,hB1010,hB1110,hX10,hx10,hmi,hnx⟩
  simp only[] at hk10 hB1010 hB1110 hX10 hx10 hmi hnx
  have hs010:Step [] w w10:=hs09.then hs910 (λb hb=>.inr (hup b hb))
  have h10:=h.ext hs010
  have hB210:=hB29.step hs910 hn2
  have hB310:=hB39.step hs910 hn3
  have hB410:=hB49.step hs910 hn4
  have hz10:=hs910.size
  have hqxl:qx.length=k:=by have:=congrArg List.length hx10;unfold exB at this;rw[List.length_map,List.length_map,List.length_take] at this;omega
  refine Qc<|x (QB rfl rfl)<|xe ?_
  refine Qf<|QG rfl (λh89=>?_) (λh89=>?_)
  ·refine Qx ?_
   have hke2:p.ex.length≤k:=by have h16:¬(k:Int)<(p.ex.length:Int):=h89;omega
   rw[List.take_of_length_le hke2] at hx10 hmi
   have hlt10:∀b∈[b10,b11],b<w10.heap.size:=λb hb=>by have:=hlt9 b hb;omega
   refine Qf<|Qc<|x (Qa rfl)<|x (Qd hB310 rfl rfl)<|x (Qr (hk.ext hs010) rfl)<|Qb<|xe ?_
   refine Qg<|QA (α:=Nat×Bool×Value×List KV) [(19,20),(22,22),(133,180)] (λz=>[(133,.int .i64 z.1)]) (λz w'=>z.1≤p.cs.length∧Step [b10,b11] w10 w'∧Q2 w'.heap b10 47 [zv.1,zv.2.1,zv.2.2,vx,z.2.2.1]∧Q2 w'.heap b11 4 [.bool z.2.1] ∧
    KvN w10.heap.size w' z.2.2.1 z.2.2.2∧z.2.2.2.map (·.k)=csB c.cel p.co (p.cs.take z.1)∧z.2.1=(mi || csM c.cel p.co (p.cs.take z.1))∧∀q∈z.2.2.2,VW q.nm) (λz=>p.cs.length - z.1) (by rfl) (0,mi,nS,[]) ⟨rfl,trivial⟩
    ⟨Nat.zero_le _,Step.refl _ _,hB1010,hB1110,ZN.nil,rfl,by simp[csM],λq hq=>by cases hq⟩ ?_
   rintro ⟨k,mk,vk,kx⟩ g u10 ⟨hkk10,ks910,kB1010,kB1110,kX10,hxk10,hmk,hnk⟩
   simp only[] at hkk10 kB1010 kB1110 kX10 hxk10 hmk hnk
   have ks010:Step [] w u10:=hs010.then ks910 (λb hb=>.inr (hup b hb))
   have k10:=h.ext ks010
   have kB210:=hB210.step ks910 hn2
   have kB310:=hB310.step ks910 hn3
   have kB410:=hB410.step ks910 hn4
   have kz10:=ks910.size
   have hkxl:kx.length=k:=by have:=congrArg List.length hxk10;unfold csB at this;rw[List.length_map,List.length_map,List.length_take] at this;omega
   refine Qc<|x (QB rfl rfl)<|xe ?_
   refine Qf<|QG rfl (λh89=>?_) (λh89=>?_)
   ·refine Qx ?_
    have hke2:p.cs.length≤k:=by have h16:¬(k:Int)<(p.cs.length:Int):=h89;omega
    rw[List.take_of_length_le hke2] at hxk10 hmk
    have hmm:mk=(exM c.cel p.co p.ex || csM c.cel p.co p.cs):=by rw[hmk,hmi]
    rw[←hmm] at hsel
    have kXu:XvN w9.heap.size u10 vx qx:=ZN.low hX10 ks910 hlt9
    refine Qf<|Qc<|x (Qd kB1110 rfl rfl)<|xe ?_
    refine Q5 rfl (λh181=>?_) (λh181=>?_)
    ·rw[if_pos h181] at hsel
     subst hsel
     refine Qc<|x (QE trivial)<|xl rfl<|Qn (us:=Z3) kB410 rfl rfl rfl rfl ⟨rfl,rfl,rfl,rfl,rfl,trivial⟩ λu11 ks11 kB411=>Qe ?_
     exact Ql ⟨[.agg Z3.toArray,.int .i64 13],⟨⟨_,rfl,Qz rfl (kB411.at (L:=[]) (by simp)).cells⟩,rfl,trivial⟩,ks010.then1 ks11 (by omega),Z3,rfl,rfl,⟨rfl,rfl,rfl,rfl,rfl,trivial⟩,λ_=>rfl,λh0=>absurd h0 (by decide)⟩
    rw[if_neg (by rw[h181];simp)] at hsel
    refine Qi ?_
    have hmf:(exM c.cel p.co p.ex || csM c.cel p.co p.cs)=false:=by rw[←hmm];exact h181
    have hmf2:=Bool.or_eq_false_iff.1 hmf
    have hE1:qx.map (·.x)=QgE c.cel p:=hx10.trans (Qhx hco.2.1 hmf2.1)
    have hE2:kx.map (·.k)=QgG c.cel p:=hxk10.trans (QhI hco.2.1 hmf2.2)
    have hcel:(CL.mk zv.1 zv.2.1 zv.2.2 vx vk c.ev qc qr qx kx).cel=Kf c.cel p:=by
     show Zv.mk c.ev (qc.map IV.it) (qr.map IV.it) (qx.map (·.x)) (kx.map (·.k))=Zv.mk c.cel.ev _ _ _ _
     rw[hqc,hqr,hE1,hE2];rfl
    have hCu:∀L:LN,(∀b∈L,b<w.heap.size)→Zu (b4::L) u10.heap (CL.mk zv.1 zv.2.1 zv.2.2 vx vk c.ev qc qr qx kx):=by
     intro L hL
     have e1:=hEi (b4::b10::L) (λb hb=>by
      rcases List.mem_cons.1 hb with rfl | hb
      ·exact .inl (by omega)
      ·rcases List.mem_cons.1 hb with rfl | hb
       ·exact .inr rfl
       ·have:=hL b hb;exact .inl (by omega))
     have e2:EiA (b11::b4::b10::L) wc.heap zv c.ev qc qr:=e1.up (λb hb=>by
      rcases List.mem_cons.1 hb with rfl | hb
      ·exact .inr hb11
      ·exact .inl hb)
     have hm2:∀b∈[b10,b11],b∈b11::b4::b10::L:=λb hb=>by
      simp only[List.mem_cons,List.not_mem_nil,or_false] at hb
      rcases hb with rfl | rfl <;> simp
     have e3:=((e2.ext hsc9).st (hs910.mono hm2)).st (ks910.mono hm2)
     have e4:EiA (b4::L) u10.heap zv c.ev qc qr:=e3.up (λb hb=>by
      rcases List.mem_cons.1 hb with rfl | hb
      ·exact .inl (by simp)
      ·exact .inl (by simp[hb]))
     have hqx40:qx.length≤1099511627776:=by omega
     have hkx40:kx.length≤1099511627776:=by omega
     have hLt9:∀b∈b4::L,b<w9.heap.size:=λb hb=>by
      rcases List.mem_cons.1 hb with rfl | hb
      ·omega
      ·have:=hL b hb;omega
     have hLt10:∀b∈b4::L,b<w10.heap.size:=λb hb=>by have:=hLt9 b hb;omega
     exact ⟨e4.ev,e4.co,e4.rq,⟨ZN.arr kXu hqx40 hLt9,λq hq=>kXu.each q hq _ (λb hb=>.inl (hLt9 b hb)),hnx⟩,⟨ZN.arr kX10 hkx40 hLt10,λq hq=>kX10.each q hq _ (λb hb=>.inl (hLt10 b hb)),hnk⟩⟩
    rw[←hcel] at hsel
    subst hsel
    refine Qf<|Qc<|x (Qq kB1010 rfl rfl)<|xl rfl<|xf<|(YO (hCu [] (by simp))).mono ?_
    rintro r12 u12 ⟨rfl,ks12⟩
    refine Qe ?_
    have ks012:=ks010.trans ks12
    have kB412:=kB410.ext ks12
    refine Qc<|Qb<|x (Q8 rfl rfl)<|xe ?_
    refine Q4 rfl (λh186=>?_) (λh186=>?_)
    ·refine Qc<|x (QE trivial)<|Qb<|xl rfl<|Qn (us:=Z3) kB412 rfl rfl rfl rfl ⟨rfl,rfl,rfl,rfl,rfl,trivial⟩ λu13 ks13 kB413=>Qe ?_
     exact Ql ⟨[.agg Z3.toArray,.int .i64 (Zi (CL.mk zv.1 zv.2.1 zv.2.2 vx vk c.ev qc qr qx kx).cel)],⟨⟨_,rfl,Qz rfl (kB413.at (L:=[]) (by simp)).cells⟩,rfl,trivial⟩,ks012.then1 ks13 (by omega),Z3,rfl,rfl,⟨rfl,rfl,rfl,rfl,rfl,trivial⟩,λ_=>rfl,λh0=>absurd h0 h186⟩
    refine Qi ?_
    have hone5:Zw [zv.1,zv.2.1,zv.2.2,vx,vk]:=⟨ho1,ho2,ho3,QH kXu.own,QH kX10.own,trivial⟩
    refine Qc<|x (Qq (kB1010.ext ks12) rfl rfl)<|xl rfl<|Qn (us:=[zv.1,zv.2.1,zv.2.2,vx,vk]) kB412 rfl rfl rfl rfl hone5 λu13 ks13 kB413=>Qe<|Ql ⟨[.agg [zv.1,zv.2.1,zv.2.2,vx,vk].toArray,.int .i64 0],⟨⟨_,rfl,Qz rfl (kB413.at (L:=[]) (by simp)).cells⟩,rfl,trivial⟩,ks012.then1 ks13 (by omega),[zv.1,zv.2.1,zv.2.2,vx,vk],?_,rfl,hone5,λh0=>absurd h0 h186,λ_=>⟨(CL.mk zv.1 zv.2.1 zv.2.2 vx vk c.ev qc qr qx kx),rfl,hcel,λL hL=>?_⟩⟩
    ·have h0:Zi (CL.mk zv.1 zv.2.1 zv.2.2 vx vk c.ev qc qr qx kx).cel=0:=Decidable.not_not.1 h186
     rw[h0];rfl
    ·exact ((((hCu L hL).ext ks12).st (ks13.mono (by simp)))).up (λb hb=>.inl (by simp[hb]))
   refine Qi ?_
   have hltE:k<p.cs.length:=by have h16:(k:Int)<(p.cs.length:Int):=h89;omega
   have htkE:p.cs.take (k+1)=p.cs.take k++[p.cs[k]'hltE]:=List.take_succ_eq_append_getElem hltE
   have hiE:=hcsz.1 _ (List.getElem_mem hltE)
   refine Zd (p.cs[k]'hltE) λi hii=>?_
   rw[hii] at htkE hiE
   have hin:i=(i.toNat:Int):=by omega
   have hil:i.toNat<c.cs.length:=by omega
   have hmemE:=List.getElem_mem hil
   have hgE:csG c.cel i=(c.cs[i.toNat]'hil).k:=by
    show (c.cs.map (·.k)).getD i.toNat ⟨.empty,[],0⟩=_
    simp[List.getD,hil]
   refine Zd (c.cs[i.toNat]'hil) λq hq=>?_
   rw[hq] at hmemE hgE
   have hqA:=k10.cs.each q hmemE
   have hqn:=k10.cs.nm q hmemE
   have hql:=hqA.le
   have hcsB:csB c.cel p.co (p.cs.take (k+1))=csB c.cel p.co (p.cs.take k)++[⟨q.nm,J5 p.co q.ts,q.bd⟩]:=by
    rw[htkE];unfold csB;rw[List.map_append,List.map_singleton,hgE];rfl
   have hcsM:csM c.cel p.co (p.cs.take (k+1))=(csM c.cel p.co (p.cs.take k) || mis p.co q.ts):=by
    rw[htkE];unfold csM;rw[List.any_append,List.any_cons,List.any_nil,Bool.or_false,hgE];rfl
   refine Qf<|Qg<|Qc<|xii (i:=k) (hk.ext ks010) rfl rfl hltE λa90 h90=>?_
   rw[hii] at h90
   refine x (Qv h90 rfl)<|Qe<|Qf<|QS (Step [] u10) [(0,true),(1,true),(2,true),(3,true),(4,true),(5,true),(6,true),(7,true),(8,true),(9,true),(10,true),(11,true),(12,true),(13,false),(14,false)] mixed (by rfl) (by kernel_rfl) (Step.drew _ _) ?_
   refine Go.Lg.p (λ_=>Qa rfl)<|pq (λ_ hc=>Qd (kB210.ext hc) rfl rfl)<|Go.Lg.p (λ_=>Qo)<|Go.Lg.pig (g:=Za) (i:=i.toNat) rfl YN k10.cs.arr rfl (congrArg (Value.int .i64) hin) hil λa140 h140=>?_
   rw[hq] at h140
   refine Go.Lg.p (λ_=>Zc rfl)<|pq (λ_ hc=>Qv ((h140.fld 0 (.string q.nm) rfl).st hc) rfl)<|Go.Lg.p (λ_=>Qa rfl)<|pq (λ_ hc=>Qd (kB210.ext hc) rfl rfl)<|Go.Lg.p (λ_=>Qo)<|Go.Lg.pig (g:=Za) (i:=i.toNat) rfl YN k10.cs.arr rfl (congrArg (Value.int .i64) hin) hil λa146 h146=>?_
   rw[hq] at h146
   refine Go.Lg.p (λ_=>Zc rfl)<|pq (λ_ hc=>Qv ((h146.fld 2 (.int .i64 q.bd) rfl).st hc) rfl)<|Go.Lg.p (λ_=>QE ⟨rfl,rfl,trivial⟩)<|pk<|Qt (us:=[.string .empty,nS,.int .i64 0]) rfl λb20 u11 ks11 hb15 kB15=>⟨(Step.drew [] u10).trans ks11,?_⟩
   refine pkl (hl:=by kernel_rfl)<|Qn (us:=[.string q.nm,nS,.int .i64 q.bd]) kB15 rfl rfl rfl rfl ⟨rfl,rfl,rfl,trivial⟩ λu12 ks12 kB15=>pe ?_
   have hb15:u10.heap.size≤b20:=hb15
   have ks1012:Step [] u10 u12:=((Step.drew [] u10).trans ks11).then1 ks12 hb15
   have ks012:=ks010.trans ks1012
   have k12:=h.ext ks012
   have kB212:=kB210.ext ks1012
   have kz12:=ks1012.size
   have hl15:=kB15.lt
   have hqA12:=hqA.ext ks1012
   refine Qf<|Qc<|x (Qa rfl)<|x (Qd kB212 rfl rfl)<|Qb<|xig (g:=Za) (i:=i.toNat) YN k12.cs.arr rfl (congrArg (Value.int .i64) hin) hil λa102 h102=>?_
   rw[hq] at h102
   refine x (Zc rfl)<|x (Qv (h102.fld 1 q.v rfl) rfl)<|x (Qr hqA12 rfl)<|Qb<|xe ?_
   have hup15:∀b∈[b20,b11],w.heap.size≤b:=λb hb=>by simp only[List.mem_cons,List.not_mem_nil,or_false] at hb;omega
   have hn153:b3∉[b20,b11]:=λhb=>by simp only[List.mem_cons,List.not_mem_nil,or_false] at hb;omega
   have hn1510:b10∉[b20,b11]:=λhb=>by simp only[List.mem_cons,List.not_mem_nil,or_false] at hb;omega
   refine Qg<|QA (α:=Nat×Bool×Value) [(22,22),(157,173)] (λz=>[(157,.int .i64 z.1)]) (λz w'=>z.1≤q.ts.length∧Step [b20,b11] u12 w'∧Q2 w'.heap b20 127 [.string q.nm,z.2.2,.int .i64 q.bd]∧Q2 w'.heap b11 4 [.bool z.2.1] ∧
    w'.ownsRow u12.heap.size 129 2 z.2.2 z.1 ((J5 p.co (q.ts.take z.1)).flatMap QN)∧z.2.1=(mk || mis p.co (q.ts.take z.1))) (λz=>q.ts.length - z.1) (by rfl) (0,mk,nS) ⟨rfl,trivial⟩
    ⟨Nat.zero_le _,Step.refl _ _,kB15,kB1110.ext ks1012,QP _ _ _ _,by simp[mis]⟩ ?_
   rintro ⟨j,mj,vl⟩ g u13 ⟨hj,ks1213,kB1513,kB1113,kO13,hmj⟩
   simp only[] at hj kB1513 kB1113 kO13 hmj
   have ks013:Step [] w u13:=ks012.then ks1213 (λb hb=>.inr (hup15 b hb))
   have kz13:=ks1213.size
   have hOge:=Qk kO13
   refine Qc<|x (QB rfl rfl)<|xe ?_
   refine Qf<|QG rfl (λh107=>?_) (λh107=>?_)
   ·refine Qx ?_
    have hje:j=q.ts.length:=by have h16:¬(j:Int)<(q.ts.length:Int):=h107;omega
    rw[hje,List.take_length] at kO13
    rw[hje,List.take_length] at hmj
    have ks1013:Step [b11] u10 u13:=(ks1012.any (L:=[b11])).then ks1213 (λb hb=>by
     simp only[List.mem_cons,List.not_mem_nil,or_false] at hb
     rcases hb with rfl | rfl
     ·exact .inr hb15
     ·exact .inl (by simp))
    have kB1013:=kB1010.step ks1013 (by simpa using hn10)
    have kX13:KvN w10.heap.size u13 vk kx:=ZN.low kX10 ks1013 (λb hb=>hlt10 b (hm11 b hb))
    have kXge:=Qk kX10.own
    have hixl:(J5 p.co q.ts).length=q.ts.length:=List.length_map ..
    refine Qw<|x (Qa rfl)<|x (Qd kB1013 rfl rfl)<|x (Qq kB1513 rfl rfl)<|xl rfl<|QD (us:=[Za ⟨q.nm,vl,J5 p.co q.ts,q.bd⟩]) rfl rfl (by decide) (by simp) ⟨rfl,rfl,trivial⟩ λb126 u14 ks14 hb126 kB126 =>
     xl rfl<|QZ (news:=Za ⟨q.nm,vl,J5 p.co q.ts,q.bd⟩) (L:=[]) (Qs kX13.own ks14) rfl rfl rfl (kB126.at (by simp)) (QbB (q:=⟨q.nm,vl,J5 p.co q.ts,q.bd⟩) (QH kO13)) (by omega) (by have:=ks14.size;omega) λv15 u15 ho15 ks15 hn15=>?_
    have kz14:=ks14.size
    have kX15:KvN w10.heap.size u15 v15 (kx++[⟨q.nm,vl,J5 p.co q.ts,q.bd⟩]):=ZN.app2 (N:=u12.heap.size) (kX13.ext ks14) (by show u14.ownsRow _ _ 2 vl (J5 p.co q.ts).length _;rw[hixl];exact Qs kO13 ks14) (by show (J5 p.co q.ts).length≤_;omega) (by omega) (λb hb=>by have:=kXge b hb;omega) ho15 ks15 hn15
    have hb10x:b10∉ob vk:=λhm=>by have:=(kXge b10 hm).1;omega
    have hb11x:b11∉ob vk:=λhm=>by have:=(kXge b11 hm).1;omega
    have ks915:Step [b10,b11] w10 u15:=((ks910.trans' (ks1013.mono hm11)).trans ks14).then ks15 (λb hb=>.inr (kXge b hb).1)
    have kB1015:=(kB1013.ext ks14).step ks15 hb10x
    have kB1115:=(kB1113.ext ks14).step ks15 hb11x
    refine x (Qa rfl)<|xl rfl<|QF (j:=4) (u:=v15) kB1015 rfl rfl (by simp) (QH ho15) λu16 ks16 kB1016=>xe ?_
    refine Qw<|QO rfl rfl<|Qb<|xe ?_
    refine ⟨(k+1,mj,v15,kx++[⟨q.nm,vl,J5 p.co q.ts,q.bd⟩]),by simp only[];omega,⟨rfl,trivial⟩,hltE,ks915.trans' (ks16.mono hm10),kB1016,kB1115.step ks16 (by simp only[List.mem_singleton];omega),ZN.low kX15 ks16 (λb hb=>hlt10 b (hm10 b hb)),?_,?_,?_⟩
    ·simp only[]
     rw[hcsB,List.map_append,hxk10];rfl
    ·simp only[]
     rw[hcsM,hmj,hmk,Bool.or_assoc]
    ·intro q' hq'
     rcases List.mem_append.1 hq' with h9' | h9'
     ·exact hnk q' h9'
     ·simp only[List.mem_singleton] at h9';subst h9';exact hqn
   refine Qi ?_
   have hltL:j<q.ts.length:=by have h16:(j:Int)<(q.ts.length:Int):=h107;omega
   have htkL:q.ts.take (j+1)=q.ts.take j++[q.ts[j]'hltL]:=List.take_succ_eq_append_getElem hltL
   have ks1013:Step [b11] u10 u13:=(ks1012.any (L:=[b11])).then ks1213 (λb hb=>by
    simp only[List.mem_cons,List.not_mem_nil,or_false] at hb
    rcases hb with rfl | rfl
    ·exact .inr hb15
    ·exact .inl (by simp))
   have hqA13:jQ [] u13.heap q.v q.ts:=(h.ext ks013).cs.each q hmemE
   refine Qf<|Qg<|Qc<|xig (g:=QN) ZZ hqA13 rfl rfl hltL λa108 h108=>?_
   refine Zd (q.ts[j]'hltL) λlc hlc=>?_
   rw[hlc] at h108 htkL
   have hixt:J5 p.co (q.ts.take (j+1))=J5 p.co (q.ts.take j)++[((lwB p.co lc.1:Int),lc.2)]:=by
    rw[htkL];unfold J5;rw[List.map_append];rfl
   have hmst:mis p.co (q.ts.take (j+1))=(mis p.co (q.ts.take j) || !decide (lc.1∈p.co)):=by
    rw[htkL];unfold mis;rw[List.any_append];simp
   refine x (QC h108 rfl rfl)<|xl rfl<|Qt (us:=[.int .i64 0,.int .i64 0]) rfl λb22 u14 ks14 hb17 kB17=>xl rfl<|Qn (us:=QN lc) kB17 rfl rfl rfl rfl ⟨rfl,rfl,trivial⟩ λu15 ks15 kB17=>xe ?_
   have ks1315:Step [] u13 u15:=ks14.then1 ks15 hb17
   have ks015:=ks013.trans ks1315
   have kz15:=ks1315.size
   have kB1515:=kB1513.ext ks1315
   have kB1115:=kB1113.ext ks1315
   have kB315:Q2 u15.heap b3 95 [v0,v1,v2,v3]:=(((kB310.ext ks1012).step ks1213 hn153)).ext ks1315
   have hb15l:b20∉b11::ob vl:=λhb=>by
    rcases List.mem_cons.1 hb with rfl | hb
    ·omega
    ·have:=(hOge b20 hb).1;omega
   have hb17l:b22∉b11::ob vl:=λhb=>by
    rcases List.mem_cons.1 hb with rfl | hb
    ·omega
    ·have:=(hOge b22 hb).2;omega
   have hb11l:b11∉ob vl:=λhb=>by have:=(hOge b11 hb).1;omega
   have hb15v:b20∉ob vl:=λhb=>hb15l (List.mem_cons_of_mem _ hb)
   refine QS (Step (b11::ob vl) u15) [(0,true),(1,true),(2,true),(3,true),(4,true),(6,true),(7,true),(5,false),(8,true),(9,false),(10,false),(11,true),(12,false)] mixed (by rfl) (by kernel_rfl) (Step.drew _ _) ?_
   have kd15:Step [] u15 { u15 with drawn:=u15.drawn+1 }:=Step.drew _ _
   have hzd:({ u15 with drawn:=u15.drawn+1 }:World).heap.size=u15.heap.size:=rfl
   refine Go.Lg.p (λ_=>Qa rfl)<|pq (λ_ hc=>Qd (kB1515.step hc hb15l) rfl rfl)<|Go.Lg.p (λ_=>Qo)<|Go.Lg.p (λ_=>Qa rfl)<|pq (λ_ hc=>Qd (kB17.step hc hb17l) rfl rfl) <|
    Go.Lg.p (λ_=>Qa rfl)<|pq (λ_ hc=>Qd (kB17.step hc hb17l) rfl rfl)<|pk<|xc (first:=[]) (capt:=[.pointer (some ⟨b3,0,none⟩),.pointer (some ⟨b11,0,none⟩)]) rfl<|(qI (kB315.ext kd15) (kB1115.ext kd15) (hc.ext (ks015.trans kd15)) hco.2.1 lc.1).mono ?_
   rintro r16 u16 ⟨ks16,rfl,kB1116⟩
   have ks1516:=kd15.any.trans' ks16
   have kz16:=ks1516.size
   have hm11l:∀b∈[b11],b∈b11::ob vl:=λb hb=>by simp only[List.mem_singleton] at hb;simp[hb]
   refine ⟨ks1516.mono hm11l,?_⟩
   refine Go.Lg.p (λ_=>QE ⟨rfl,rfl,trivial⟩)<|pk<|QD (us:=[QN ((lwB p.co lc.1:Int),lc.2)]) rfl rfl (by decide) (by simp) ⟨rfl,rfl,trivial⟩ λb119 u17 ks17 hb119 hB1110=>⟨(ks1516.trans ks17).mono hm11l,?_⟩
   have ks1517:=ks1516.trans ks17
   have kO17:u17.ownsRow u12.heap.size 129 2 vl j ((J5 p.co (q.ts.take j)).flatMap QN):=Qj (Qs kO13 ks1315) ks1517 (λb hb hm=>by simp only[List.mem_singleton] at hm;subst hm;exact hb11l hb)
   have kz17:=ks1517.size
   refine pk<|QZ (news:=QN ((lwB p.co lc.1:Int),lc.2)) (L:=[]) kO17 rfl rfl rfl (hB1110.at (by simp)) (λu hu=>by
    simp only[List.mem_cons,List.not_mem_nil,or_false] at hu
    rcases hu with rfl | rfl <;> rfl) (by omega) (by omega) λv18 u18 ho18 ks18 hn18=>⟨(ks1517.mono hm11l).trans' (ks18.mono (λb hb=>List.mem_cons_of_mem _ hb)),?_⟩
   have kB1518:=((kB1515.step ks1517 (by simp only[List.mem_singleton];omega))).step ks18 hb15v
   have kB1118:=(kB1116.ext ks17).step ks18 hb11l
   refine Go.Lg.p (λ_=>Qa rfl)<|pkl (hl:=by kernel_rfl)<|QF (j:=1) (u:=v18) kB1518 rfl rfl (by simp) (QH ho18) λu19 ks19 kB1519=>pe ?_
   refine Qw<|QO rfl rfl<|Qb<|xe ?_
   have hm1511:∀b∈[b11],b∈[b20,b11]:=λb hb=>by simp only[List.mem_singleton] at hb;simp[hb]
   have hm1515:∀b∈[b20],b∈[b20,b11]:=λb hb=>by simp only[List.mem_singleton] at hb;simp[hb]
   have ks1218:Step [b20,b11] u12 u18:=((ks1213.trans ks1315).trans' (ks1517.mono hm1511)).then ks18 (λb hb=>.inr (hOge b hb).1)
   refine ⟨(j+1,mj || !decide (lc.1∈p.co),v18),by simp only[];omega,⟨rfl,trivial⟩,hltL,ks1218.trans' (ks19.mono hm1515),kB1519,kB1118.step ks19 (by simp only[List.mem_singleton];omega),?_,?_⟩
   ·simp only[]
    rw[hixt,List.flatMap_append]
    have:=Qj ho18 ks19 (λb hb=>by
     simp only[List.mem_singleton]
     have:=(Qk ho18 b hb).1
     omega)
    simpa using this
   ·simp only[]
    rw[hmst,hmj,Bool.or_assoc]
  refine Qi ?_
  have hltE:k<p.ex.length:=by have h16:(k:Int)<(p.ex.length:Int):=h89;omega
  have htkE:p.ex.take (k+1)=p.ex.take k++[p.ex[k]'hltE]:=List.take_succ_eq_append_getElem hltE
  have hiE:=hexz.1 _ (List.getElem_mem hltE)
  refine Zd (p.ex[k]'hltE) λi hii=>?_
  rw[hii] at htkE hiE
  have hin:i=(i.toNat:Int):=by omega
  have hil:i.toNat<c.ex.length:=by omega
  have hmemE:=List.getElem_mem hil
  have hgE:exG c.cel i=(c.ex[i.toNat]'hil).x:=by
   show (c.ex.map (·.x)).getD i.toNat ⟨.empty,[]⟩=_
   simp[List.getD,hil]
  refine Zd (c.ex[i.toNat]'hil) λq hq=>?_
  rw[hq] at hmemE hgE
  have hqA:=h10.ex.each q hmemE
  have hqn:=h10.ex.nm q hmemE
  have hql:=hqA.le
  have hexB:exB c.cel p.co (p.ex.take (k+1))=exB c.cel p.co (p.ex.take k)++[⟨q.nm,J5 p.co q.ls⟩]:=by
   rw[htkE];unfold exB;rw[List.map_append,List.map_singleton,hgE];rfl
  have hexM:exM c.cel p.co (p.ex.take (k+1))=(exM c.cel p.co (p.ex.take k) || mis p.co q.ls):=by
   rw[htkE];unfold exM;rw[List.any_append,List.any_cons,List.any_nil,Bool.or_false,hgE];rfl
  refine Qf<|Qg<|Qc<|xii (i:=k) (hx.ext hs010) rfl rfl hltE λa90 h90=>?_
  rw[hii] at h90
  refine x (Qv h90 rfl)<|Qe<|Qc<|x (Qa rfl)<|x (Qd hB210 rfl rfl)<|Qb<|xig (g:=Q9) (i:=i.toNat) YZ h10.ex.arr rfl (congrArg (Value.int .i64) hin) hil λa95 h95=>?_
  rw[hq] at h95
  refine x (Zc rfl)<|x (Qv (h95.fld 0 (.string q.nm) rfl) rfl)<|x (QE ⟨rfl,trivial⟩)<|xl rfl<|Qt (us:=[.string .empty,nS]) rfl λb15 w11 hs11 hb15 hB15 =>
   xl rfl<|Qn (us:=[.string q.nm,nS]) hB15 rfl rfl rfl rfl ⟨rfl,rfl,trivial⟩ λw12 hs12 hB15=>xe ?_
  have hs1012:Step [] w10 w12:=hs11.then1 hs12 hb15
  have hs012:=hs010.trans hs1012
  have h12:=h.ext hs012
  have hB212:=hB210.ext hs1012
  have hz12:=hs1012.size
  have hl15:=hB15.lt
  have hqA12:=hqA.ext hs1012
  refine Qf<|Qc<|x (Qa rfl)<|x (Qd hB212 rfl rfl)<|Qb<|xig (g:=Q9) (i:=i.toNat) YZ h12.ex.arr rfl (congrArg (Value.int .i64) hin) hil λa102 h102=>?_
  rw[hq] at h102
  refine x (Zc rfl)<|x (Qv (h102.fld 1 q.v rfl) rfl)<|x (Qr hqA12 rfl)<|Qb<|xe ?_
  have hup15:∀b∈[b15,b11],w.heap.size≤b:=λb hb=>by simp only[List.mem_cons,List.not_mem_nil,or_false] at hb;omega
  have hn153:b3∉[b15,b11]:=λhb=>by simp only[List.mem_cons,List.not_mem_nil,or_false] at hb;omega
  have hn1510:b10∉[b15,b11]:=λhb=>by simp only[List.mem_cons,List.not_mem_nil,or_false] at hb;omega
  refine Qg<|QA (α:=Nat×Bool×Value) [(17,17),(106,122)] (λz=>[(106,.int .i64 z.1)]) (λz w'=>z.1≤q.ls.length∧Step [b15,b11] w12 w'∧Q2 w'.heap b15 122 [.string q.nm,z.2.2]∧Q2 w'.heap b11 4 [.bool z.2.1] ∧
   w'.ownsRow w12.heap.size 124 2 z.2.2 z.1 ((J5 p.co (q.ls.take z.1)).flatMap QN)∧z.2.1=(mi || mis p.co (q.ls.take z.1))) (λz=>q.ls.length - z.1) (by rfl) (0,mi,nS) ⟨rfl,trivial⟩
   ⟨Nat.zero_le _,Step.refl _ _,hB15,hB1110.ext hs1012,QP _ _ _ _,by simp[mis]⟩ ?_
  rintro ⟨j,mj,vl⟩ g w13 ⟨hj,hs1213,hB1513,hB1113,hO13,hmj⟩
  simp only[] at hj hB1513 hB1113 hO13 hmj
  have hs013:Step [] w w13:=hs012.then hs1213 (λb hb=>.inr (hup15 b hb))
  have hz13:=hs1213.size
  have hOge:=Qk hO13
  refine Qc<|x (QB rfl rfl)<|xe ?_
  refine Qf<|QG rfl (λh107=>?_) (λh107=>?_)
  ·refine Qx ?_
   have hje:j=q.ls.length:=by have h16:¬(j:Int)<(q.ls.length:Int):=h107;omega
   rw[hje,List.take_length] at hO13
   rw[hje,List.take_length] at hmj
   have hs1013:Step [b11] w10 w13:=(hs1012.any (L:=[b11])).then hs1213 (λb hb=>by
    simp only[List.mem_cons,List.not_mem_nil,or_false] at hb
    rcases hb with rfl | rfl
    ·exact .inr hb15
    ·exact .inl (by simp))
   have hB1013:=hB1010.step hs1013 (by simpa using hn10)
   have hX13:XvN w9.heap.size w13 vx qx:=ZN.low hX10 hs1013 (λb hb=>hlt9 b (hm11 b hb))
   have hXge:=Qk hX10.own
   have hixl:(J5 p.co q.ls).length=q.ls.length:=List.length_map ..
   refine Qw<|x (Qa rfl)<|x (Qd hB1013 rfl rfl)<|x (Qq hB1513 rfl rfl)<|xl rfl<|QD (us:=[Q9 ⟨q.nm,vl,J5 p.co q.ls⟩]) rfl rfl (by decide) (by simp) ⟨rfl,rfl,trivial⟩ λb126 w14 hs14 hb126 hB126 =>
    xl rfl<|QZ (news:=Q9 ⟨q.nm,vl,J5 p.co q.ls⟩) (L:=[]) (Qs hX13.own hs14) rfl rfl rfl (hB126.at (by simp)) (zi (q:=⟨q.nm,vl,J5 p.co q.ls⟩) (QH hO13)) (by omega) (by have:=hs14.size;omega) λv15 w15 ho15 hs15 hn15=>?_
   have hz14:=hs14.size
   have hX15:XvN w9.heap.size w15 v15 (qx++[⟨q.nm,vl,J5 p.co q.ls⟩]):=ZN.app2 (N:=w12.heap.size) (hX13.ext hs14) (by show w14.ownsRow _ _ 2 vl (J5 p.co q.ls).length _;rw[hixl];exact Qs hO13 hs14) (by show (J5 p.co q.ls).length≤_;omega) (by omega) (λb hb=>by have:=hXge b hb;omega) ho15 hs15 hn15
   have hb10x:b10∉ob vx:=λhm=>by have:=(hXge b10 hm).1;omega
   have hb11x:b11∉ob vx:=λhm=>by have:=(hXge b11 hm).1;omega
   have hs915:Step [b10,b11] w9 w15:=((hs910.trans' (hs1013.mono hm11)).trans hs14).then hs15 (λb hb=>.inr (hXge b hb).1)
   have hB1015:=(hB1013.ext hs14).step hs15 hb10x
   have hB1115:=(hB1113.ext hs14).step hs15 hb11x
   refine x (Qa rfl)<|xl rfl<|QF (j:=3) (u:=v15) hB1015 rfl rfl (by simp) (QH ho15) λw16 hs16 hB1016=>xe ?_
   refine Qw<|QO rfl rfl<|Qb<|xe ?_
   refine ⟨(k+1,mj,v15,qx++[⟨q.nm,vl,J5 p.co q.ls⟩]),by simp only[];omega,⟨rfl,trivial⟩,hltE,hs915.trans' (hs16.mono hm10),hB1016,hB1115.step hs16 (by simp only[List.mem_singleton];omega),ZN.low hX15 hs16 (λb hb=>hlt9 b (hm10 b hb)),?_,?_,?_⟩
   ·simp only[]
    rw[hexB,List.map_append,hx10];rfl
   ·simp only[]
    rw[hexM,hmj,hmi]
   ·intro q' hq'
    rcases List.mem_append.1 hq' with h9' | h9'
    ·exact hnx q' h9'
    ·simp only[List.mem_singleton] at h9';subst h9';exact hqn
  refine Qi ?_
  have hltL:j<q.ls.length:=by have h16:(j:Int)<(q.ls.length:Int):=h107;omega
  have htkL:q.ls.take (j+1)=q.ls.take j++[q.ls[j]'hltL]:=List.take_succ_eq_append_getElem hltL
  have hs1013:Step [b11] w10 w13:=(hs1012.any (L:=[b11])).then hs1213 (λb hb=>by
   simp only[List.mem_cons,List.not_mem_nil,or_false] at hb
   rcases hb with rfl | rfl
   ·exact .inr hb15
   ·exact .inl (by simp))
  have hqA13:jQ [] w13.heap q.v q.ls:=(h.ext hs013).ex.each q hmemE
  refine Qf<|Qg<|Qc<|xig (g:=QN) ZZ hqA13 rfl rfl hltL λa108 h108=>?_
  refine Zd (q.ls[j]'hltL) λlc hlc=>?_
  rw[hlc] at h108 htkL
  have hixt:J5 p.co (q.ls.take (j+1))=J5 p.co (q.ls.take j)++[((lwB p.co lc.1:Int),lc.2)]:=by
   rw[htkL];unfold J5;rw[List.map_append];rfl
  have hmst:mis p.co (q.ls.take (j+1))=(mis p.co (q.ls.take j) || !decide (lc.1∈p.co)):=by
   rw[htkL];unfold mis;rw[List.any_append];simp
  refine x (QC h108 rfl rfl)<|xl rfl<|Qt (us:=[.int .i64 0,.int .i64 0]) rfl λb17 w14 hs14 hb17 hB17=>xl rfl<|Qn (us:=QN lc) hB17 rfl rfl rfl rfl ⟨rfl,rfl,trivial⟩ λw15 hs15 hB17=>xe ?_
  have hs1315:Step [] w13 w15:=hs14.then1 hs15 hb17
  have hs015:=hs013.trans hs1315
  have hz15:=hs1315.size
  have hB1515:=hB1513.ext hs1315
  have hB1115:=hB1113.ext hs1315
  have hB315:Q2 w15.heap b3 95 [v0,v1,v2,v3]:=(((hB310.ext hs1012).step hs1213 hn153)).ext hs1315
  have hb15l:b15∉b11::ob vl:=λhb=>by
   rcases List.mem_cons.1 hb with rfl | hb
   ·omega
   ·have:=(hOge b15 hb).1;omega
  have hb17l:b17∉b11::ob vl:=λhb=>by
   rcases List.mem_cons.1 hb with rfl | hb
   ·omega
   ·have:=(hOge b17 hb).2;omega
  have hb11l:b11∉ob vl:=λhb=>by have:=(hOge b11 hb).1;omega
  have hb15v:b15∉ob vl:=λhb=>hb15l (List.mem_cons_of_mem _ hb)
  refine QS (Step (b11::ob vl) w15) [(0,true),(1,true),(2,true),(3,true),(4,true),(6,true),(7,true),(5,false),(8,true),(9,false),(10,false),(11,true),(12,false)] mixed (by rfl) (by kernel_rfl) (Step.drew _ _) ?_
  have hd15:Step [] w15 { w15 with drawn:=w15.drawn+1 }:=Step.drew _ _
  have hzd:({ w15 with drawn:=w15.drawn+1 }:World).heap.size=w15.heap.size:=rfl
  refine Go.Lg.p (λ_=>Qa rfl)<|pq (λ_ hc=>Qd (hB1515.step hc hb15l) rfl rfl)<|Go.Lg.p (λ_=>Qo)<|Go.Lg.p (λ_=>Qa rfl)<|pq (λ_ hc=>Qd (hB17.step hc hb17l) rfl rfl) <|
   Go.Lg.p (λ_=>Qa rfl)<|pq (λ_ hc=>Qd (hB17.step hc hb17l) rfl rfl)<|pk<|xc (first:=[]) (capt:=[.pointer (some ⟨b3,0,none⟩),.pointer (some ⟨b11,0,none⟩)]) rfl<|(qI (hB315.ext hd15) (hB1115.ext hd15) (hc.ext (hs015.trans hd15)) hco.2.1 lc.1).mono ?_
  rintro r16 w16 ⟨hs16,rfl,hB1116⟩
  have hs1516:=hd15.any.trans' hs16
  have hz16:=hs1516.size
  have hm11l:∀b∈[b11],b∈b11::ob vl:=λb hb=>by simp only[List.mem_singleton] at hb;simp[hb]
  refine ⟨hs1516.mono hm11l,?_⟩
  refine Go.Lg.p (λ_=>QE ⟨rfl,rfl,trivial⟩)<|pk<|QD (us:=[QN ((lwB p.co lc.1:Int),lc.2)]) rfl rfl (by decide) (by simp) ⟨rfl,rfl,trivial⟩ λb119 w17 hs17 hb119 hB119=>⟨(hs1516.trans hs17).mono hm11l,?_⟩
  have hs1517:=hs1516.trans hs17
  have hO17:w17.ownsRow w12.heap.size 124 2 vl j ((J5 p.co (q.ls.take j)).flatMap QN):=Qj (Qs hO13 hs1315) hs1517 (λb hb hm=>by simp only[List.mem_singleton] at hm;subst hm;exact hb11l hb)
  have hz17:=hs1517.size
  refine pk<|QZ (news:=QN ((lwB p.co lc.1:Int),lc.2)) (L:=[]) hO17 rfl rfl rfl (hB119.at (by simp)) (λu hu=>by
   simp only[List.mem_cons,List.not_mem_nil,or_false] at hu
   rcases hu with rfl | rfl <;> rfl) (by omega) (by omega) λv18 w18 ho18 hs18 hn18=>⟨(hs1517.mono hm11l).trans' (hs18.mono (λb hb=>List.mem_cons_of_mem _ hb)),?_⟩
  have hB1518:=((hB1515.step hs1517 (by simp only[List.mem_singleton];omega))).step hs18 hb15v
  have hB1118:=(hB1116.ext hs17).step hs18 hb11l
  refine Go.Lg.p (λ_=>Qa rfl)<|pkl (hl:=by kernel_rfl)<|QF (j:=1) (u:=v18) hB1518 rfl rfl (by simp) (QH ho18) λw19 hs19 hB1519=>pe ?_
  refine Qw<|QO rfl rfl<|Qb<|xe ?_
  have hm1511:∀b∈[b11],b∈[b15,b11]:=λb hb=>by simp only[List.mem_singleton] at hb;simp[hb]
  have hm1515:∀b∈[b15],b∈[b15,b11]:=λb hb=>by simp only[List.mem_singleton] at hb;simp[hb]
  have hs1218:Step [b15,b11] w12 w18:=((hs1213.trans hs1315).trans' (hs1517.mono hm1511)).then hs18 (λb hb=>.inr (hOge b hb).1)
  refine ⟨(j+1,mj || !decide (lc.1∈p.co),v18),by simp only[];omega,⟨rfl,trivial⟩,hltL,hs1218.trans' (hs19.mono hm1515),hB1519,hB1118.step hs19 (by simp only[List.mem_singleton];omega),?_,?_⟩
  ·simp only[]
   rw[hixt,List.flatMap_append]
   have:=Qj ho18 hs19 (λb hb=>by
    simp only[List.mem_singleton]
    have:=(Qk ho18 b hb).1
    omega)
   simpa using this
  ·simp only[]
   rw[hmst,hmj,Bool.or_assoc]
 refine Qi ?_
 have hlt:k<l4.length:=by have h16:(k:Int)<(l4.length:Int):=h57;omega
 have hmem:=List.getElem_mem hlt
 have hdr:l4.drop k=l4[k]'hlt::l4.drop (k+1):=List.drop_eq_getElem_cons hlt
 refine Qf<|Qg<|Qc<|xig (g:=skC) QiB (hA54.ext hs67) rfl rfl hlt λa58 h58=>?_
 refine Zd (l4[k]'hlt) λq hq=>?_
 rw[hq] at h58 hmem hdr
 have hqi:=hl4i q hmem
 rw[hdr,show q=(q.1,q.2.1,q.2.2) from rfl,ck4] at hck
 refine x (QC h58 rfl rfl)<|xl rfl<|Qt (us:=[nS,.int .i64 0]) rfl λb8 w8 hs8 hb8 hB8=>xl rfl<|Qn (us:=skC q) hB8 rfl rfl rfl rfl ⟨hqi.one,rfl,trivial⟩ λw9 hs9 hB8=>xe ?_
 have hs79:Step [] w7 w9:=hs8.then1 hs9 hb8
 have hs09:=hs07.trans hs79
 refine Qc<|x (Qa rfl)<|x (Qd hB8 rfl rfl)<|x (Qa rfl)<|x (Qd hB8 rfl rfl)<|xl rfl<|xf<|(jU (hqi.ext hs09) q.2.2).mono ?_
 rintro r10 w10 ⟨rfl,rfl⟩
 refine Qe<|Qc<|Qb<|x (Q8 rfl rfl)<|xe ?_
 refine Q4 rfl (λh66=>?_) (λh66=>?_)
 ·rw[if_pos h66] at hck
  have hne:ck4 l4≠0:=by rw[←hck];exact h66
  rw[if_pos hne,←hck] at hsel
  subst hsel
  have hB410:Q2 w10.heap b4 47 Z3:=((hB44.ext hs6).ext hs67).ext hs79
  refine Qc<|x (QE trivial)<|Qb<|xl rfl<|Qn (us:=Z3) hB410 rfl rfl rfl rfl ⟨rfl,rfl,rfl,rfl,rfl,trivial⟩ λw11 hs11 hB411=>Qe ?_
  exact Ql ⟨[.agg Z3.toArray,.int .i64 (Xt q.2.2 none q.2.1)],⟨⟨_,rfl,Qz rfl (hB411.at (L:=[]) (by simp)).cells⟩,rfl,trivial⟩,hs09.then1 hs11 (by omega),Z3,rfl,rfl,⟨rfl,rfl,rfl,rfl,rfl,trivial⟩,λ_=>rfl,λh0=>absurd h0 h66⟩
 rw[if_neg h66] at hck
 refine Qi<|Qw<|QO rfl rfl<|Qb<|xe ?_
 exact ⟨k+1,by omega,⟨rfl,trivial⟩,hlt,hs67.trans hs79,hck⟩
theorem yC (n:Nat):(1:Int)*(2:Int) ^ n=((1 <<< n:Nat):Int):=by
 rw[Nat.shiftLeft_eq,Nat.one_mul,Int.one_mul,Int.natCast_pow];rfl
theorem JA {n:Nat}(h:n<16):1 <<< n<65536:=by
 rw[Nat.shiftLeft_eq,Nat.one_mul]
 exact Nat.pow_lt_pow_right (by decide) h
theorem Qai {b k:Nat}(hb:b<65536) (hk:k<16):orB b k<65536:=Qbm hb (JA hk)
theorem Qhp {n:Nat}(h:n<16):inK .u16 ((1:Int)*(2:Int) ^ n):=by
 rw[yC]
 have h1:=JA h
 generalize 1 <<< n=m at h1
 exact ⟨by omega,by omega⟩
theorem QdW {x:YE}:∀(l:List YE) (k b:Nat),b<65536→k+l.length≤16→j9 x k b l<65536
 | [],_,_,hb,_=>hb
 | y::l,k,b,hb,hk=>by
  rw[j9]
  refine QdW l _ _ ?_ (by simp at hk;omega)
  by_cases h:(y.a.al.any λe=>decide (e∈x.a.al))=true
  ·rw[if_pos h];exact Qai hb (by simp at hk;omega)
  ·rw[if_neg h];exact hb
theorem yN (ls:List (Int×Int)) (l:Int×Int):qk (ls++[l])=orB (qk ls) l.1.toNat:=by
 unfold qk;rw[List.foldl_append];rfl
theorem zC:∀(ls:List (Int×Int)),(∀l∈ls,0≤l.1∧l.1<16)→qk ls<65536:=by
 intro ls
 unfold qk
 have key:∀(ls:List (Int×Int)) (b:Nat),b<65536→(∀l∈ls,0≤l.1∧l.1<16)→ls.foldl (λb l=>orB b l.1.toNat) b<65536:=by
  intro ls
  induction ls with
  | nil=>intro b hb _;exact hb
  | cons l ls ih =>
   intro b hb h
   exact ih _ (Qai hb (by have:=h l List.mem_cons_self;omega)) (λl' hl=>h l' (List.mem_cons_of_mem _ hl))
 exact key ls 0 (by decide)
theorem zS (m:Nat) (hm:m<65536) (w:World):QJ prog 65 [.int .u16 m] w λr w'=>Step [] w w'∧Qu 3 w.heap.size w' r (setK m 8):=by
 refine QJ.of_W func65 rfl ntmps65 results65 (by simp) ?_
 refine Qc<|Qe<|Qc<|Qe<|Qf<|Qc<|Qb<|xe ?_
 refine Qg<|QA (α:=Nat×Value) [(3,17)] (λz=>[(3,z.2),(5,.int .i64 z.1)]) (λz w'=>z.1≤8∧Step [] w w'∧Qu 3 w.heap.size w' z.2 (setK m z.1)) (λz=>8 - z.1) (by rfl) (0,nS) ⟨rfl,rfl,trivial⟩
  ⟨Nat.zero_le _,Step.refl _ _,QP _ _ _ _⟩ ?_
 rintro ⟨k,v⟩ g w1 ⟨hk,hs1,ho1⟩
 simp only[] at hk ho1
 have hlen:=YR m k
 have hz1:=hs1.size
 refine Qc<|x (QB rfl rfl)<|xe ?_
 refine Qf<|QG rfl (λh6=>?_) (λh6=>?_)
 ·refine Qx ?_
  refine Qc<|Qb<|Qe ?_
  have hke:k=8:=by omega
  rw[hke] at ho1
  exact Ql ⟨[v],⟨rfl,trivial⟩,hs1,ho1⟩
 have hlt:k<8:=by omega
 have hdv:m / 2 ^ k<65536:=Nat.lt_of_le_of_lt (Nat.div_le_self _ _) hm
 have hsucc:=Vk m k
 refine Qi<|Qf<|Qg<|Qc<|Qb<|Qe<|Qc<|Qb<|Qb<|x (qK (n:=k) rfl rfl (by show k≤16;omega))<|x (QgO (a:=m / 2 ^ k) (b:=1) (congrArg (Value.int .u16) (zq m k)) rfl hdv (by decide))<|x (Q7 rfl rfl)<|xe ?_
 refine QG rfl (λh12=>?_) (λh12=>?_)
 ·rw[if_neg (λe=>h12 (by rw[e];rfl))] at hsucc
  refine Qi<|Qw<|QO rfl rfl<|Qb<|xe ?_
  exact ⟨(k+1,v),by simp only[];omega,⟨rfl,rfl,trivial⟩,hlt,hs1,by simp only[];rw[hsucc];exact ho1⟩
 rw[if_pos (by omega)] at hsucc
 refine Qw<|Qb<|Qb<|xl rfl<|QD (us:=[[.int .i64 k]]) rfl rfl (by decide) (by simp) ⟨rfl,rfl,trivial⟩ λb15 w2 hs2 hb15 hB15=>?_
 have ho2:=Qs ho1 hs2
 have hz2:=hs2.size
 refine xl rfl<|QZ (news:=[.int .i64 k]) (L:=[]) ho2 rfl rfl rfl (hB15.at (by simp)) (by simp[Value.oneCell']) (by omega) (by omega) λv3 w3 ho3 hs3 hn3 =>
  Qe ?_
 have hge:=Qk ho1
 refine Qw<|QO rfl rfl<|Qb<|xe ?_
 refine ⟨(k+1,v3),by simp only[];omega,⟨rfl,rfl,trivial⟩,hlt,(hs1.trans hs2).then hs3 (λb hb=>.inr (hge b hb).1),?_⟩
 simp only[]
 rw[hsucc];exact Qu.snoc ho3
theorem QdJ {w:World}{c:CL}{b1 b2 i:Nat}(hB1:Q2 w.heap b1 47 c.cells) (hB2:Q2 w.heap b2 3 [.int .i64 i]) (hc:Zu [] w.heap c) {q:IV}(hi:c.rq[i]?=some q) (e:Int) :
  QJ prog 136 [.int .i64 e,.pointer (some ⟨b1,0,none⟩),.pointer (some ⟨b2,0,none⟩)] w λr w'=>r=.bool (decide (e∈q.p.a.al))∧Step [] w w':=by
 obtain ⟨hlt,hq⟩:=List.getElem?_eq_some_iff.1 hi
 have hqA:=hc.rq.each q (hq ▸ List.getElem_mem hlt)
 refine QJ.of_W func136 rfl ntmps136 results136 (by simp) ?_
 refine Qc<|Qe<|Qc<|x (Qa rfl)<|x (Qd hB1 rfl rfl)<|x (Qd hB2 rfl rfl)<|xig (g:=QW) (i:=i) Yq hc.rq.arr rfl rfl hlt λa8 h8=>?_
 rw[hq] at h8
 refine x (Zc rfl)<|x (Zc rfl)<|x (Qv ((h8.fld 1 q.p.va rfl)) rfl)<|Qb<|xl rfl<|xf<|(ZI hqA.al e).mono ?_
 rintro r1 w1 ⟨rfl,rfl⟩
 refine Qe ?_
 exact Ql ⟨[_],⟨rfl,trivial⟩,rfl,Step.refl _ _⟩
theorem Qgx {w:World}{c:CL}{b1 i:Nat}(hB1:Q2 w.heap b1 47 c.cells) (hc:Zu [] w.heap c) (h8:c.co.length≤8) {q:IV}(hi:c.rq[i]?=some q) :
  QJ prog 134 [.int .i64 i,.pointer (some ⟨b1,0,none⟩)] w λr w'=>r=.int .u16 (j9 q.it 0 0 c.cel.co)∧Step [] w w':=by
 refine QJ.of_W func134 rfl ntmps134 results134 (by simp) ?_
 refine Qc<|xl rfl<|QQ (us:=[.int .i64 i]) rfl λb2 w1 hs1 hb2 hB2=>Qe<|Qc<|Qe<|Qf<|Qc<|x (Qa rfl)<|x (Qd (hB1.ext hs1) rfl rfl)<|x (Qr (hc.ext hs1).co.arr rfl)<|Qb<|xe ?_
 refine Qg<|QA (α:=Nat×Nat) [(4,6),(10,24)] (λz=>[(4,.int .u16 z.2),(10,.int .i64 z.1)]) (λz w'=>z.1≤c.co.length∧Step [] w1 w'∧z.2<65536∧j9 q.it z.1 z.2 ((c.co.drop z.1).map (·.it))=j9 q.it 0 0 c.cel.co) (λz=>c.co.length - z.1) (by rfl) (0,0) ⟨rfl,rfl,trivial⟩
  ⟨Nat.zero_le _,Step.refl _ _,by decide,rfl⟩ ?_
 rintro ⟨k,b⟩ g w2 ⟨hk,hs2,hb,hr⟩
 simp only[] at hk hb hr
 have hs02:=hs1.trans hs2
 have h2:=hc.ext hs02
 refine Qc<|x (QB rfl rfl)<|xe ?_
 refine Qf<|QG rfl (λh11=>?_) (λh11=>?_)
 ·refine Qx ?_
  have hke:c.co.length≤k:=by have h16:¬(k:Int)<(c.co.length:Int):=h11;omega
  rw[List.drop_of_length_le hke] at hr
  have hr':b=j9 q.it 0 0 c.cel.co:=hr
  refine Qc<|Qb<|Qe ?_
  exact Ql ⟨[.int .u16 b],⟨rfl,trivial⟩,by rw[hr'];rfl,hs02⟩
 have hlt:k<c.co.length:=by have h16:(k:Int)<(c.co.length:Int):=h11;omega
 have hmem:=List.getElem_mem hlt
 rw[XG hlt,j9] at hr
 refine Qi<|Qf<|Qg<|Qc<|Qb<|xig (g:=QW) (i:=k) Yq h2.co.arr rfl rfl hlt λa13 h13=>?_
 refine Zd (c.co[k]'hlt) λy hy=>?_
 rw[hy] at h13 hmem hr
 have hyA:=h2.co.each y hmem
 refine x (QC h13 rfl rfl)<|xl rfl<|Qt (us:=[.string .empty,nS,.int .i64 0,nS,nS]) rfl λb6 w3 hs3 hb6 hB6=>x Qh <|
  xl rfl<|Qn (us:=QW y) hB6 rfl rfl rfl rfl ⟨rfl,hyA.al.one,rfl,hyA.mr.one,hyA.ed.one,trivial⟩ λw4 hs4 hB6=>xe ?_
 have hs24:Step [] w2 w4:=hs3.then1 hs4 hb6
 have hs04:=hs02.trans hs24
 refine Qc<|x (Qa rfl)<|x (Qa rfl)<|x (Qd hB6 rfl rfl)<|x (Zr (l:=[]) (l':=[_,_]))<|xl rfl<|xf<|(QbT (q:=λe=>decide (e∈q.p.a.al)) (cap:=[.pointer (some ⟨b1,0,none⟩),.pointer (some ⟨b2,0,none⟩)]) (hyA.al.ext hs24)
  (λe w5 hs5=>QdJ ((hB1.ext hs04).ext hs5) ((hB2.ext (hs2.trans hs24)).ext hs5) ((hc.ext hs04).ext hs5) hi e)).mono ?_
 rintro r5 w5 ⟨rfl,hs5⟩
 refine xe ?_
 refine Q5 rfl (λh19=>?_) (λh19=>?_)
 ·rw[if_pos (by exact h19)] at hr
  refine Qw<|Qb<|Qb<|x (Qbe (n:=k) rfl rfl (by show k≤16;omega) (Qhp (by omega)))<|x (Qad (a:=b) (b:=1 <<< k) rfl (congrArg (Value.int .u16) (yC k)) hb (JA (by omega)))<|Qe<|Qw<|QO rfl rfl<|Qb<|xe ?_
  exact ⟨(k+1,orB b k),by simp only[];omega,⟨rfl,rfl,trivial⟩,hlt,(hs2.trans hs24).trans hs5,Qai hb (by omega),hr⟩
 rw[if_neg (by intro h0;have h19':(y.p.a.al.any λe=>decide (e∈q.p.a.al))=false:=h19;have h0':(y.p.a.al.any λe=>decide (e∈q.p.a.al))=true:=h0;rw[h19'] at h0';cases h0')] at hr
 refine Qi<|Qw<|QO rfl rfl<|Qb<|xe ?_
 exact ⟨(k+1,b),by simp only[];omega,⟨rfl,rfl,trivial⟩,hlt,(hs2.trans hs24).trans hs5,hb,hr⟩
theorem Qgw {w:World}{c:CL}{b1 i:Nat}(hB1:Q2 w.heap b1 47 c.cells) (hc:Zu [] w.heap c) {q:XV}(hi:c.ex[i]?=some q) (hm:∀l∈q.ls,0≤l.1∧l.1<16) :
  QJ prog 137 [.int .i64 i,.pointer (some ⟨b1,0,none⟩)] w λr w'=>r=.int .u16 (qk q.ls)∧Step [] w w':=by
 obtain ⟨hlt,hq⟩:=List.getElem?_eq_some_iff.1 hi
 have hqA:=hc.ex.each q (hq ▸ List.getElem_mem hlt)
 have hql:=hqA.le
 refine QJ.of_W func137 rfl ntmps137 results137 (by simp) ?_
 refine Qc<|Qe<|Qc<|Qe<|Qf<|Qc<|x (Qa rfl)<|x (Qd hB1 rfl rfl)<|Qb<|xig (g:=Q9) (i:=i) YZ hc.ex.arr rfl rfl hlt λa10 h10=>?_
 rw[hq] at h10
 refine x (Zc rfl)<|x (Qv (h10.fld 1 q.v rfl) rfl)<|x (Qr hqA rfl)<|Qb<|xe ?_
 refine Qg<|QA (α:=Nat×Nat) [(4,4),(6,6),(14,23)] (λz=>[(4,.int .u16 z.2),(14,.int .i64 z.1)]) (λz w'=>z.1≤q.ls.length∧Step [] w w'∧z.2=qk (q.ls.take z.1)) (λz=>q.ls.length - z.1) (by rfl) (0,0) ⟨rfl,rfl,trivial⟩
  ⟨Nat.zero_le _,Step.refl _ _,rfl⟩ ?_
 rintro ⟨k,b⟩ g w1 ⟨hk,hs1,hb⟩
 simp only[] at hk hb
 have hlb:b<65536:=by rw[hb];exact zC _ (λl hl=>hm l (List.mem_of_mem_take hl))
 refine Qc<|x (QB rfl rfl)<|xe ?_
 refine Qf<|QG rfl (λh15=>?_) (λh15=>?_)
 ·refine Qx ?_
  have hke:q.ls.length≤k:=by have h16:¬(k:Int)<(q.ls.length:Int):=h15;omega
  rw[List.take_of_length_le hke] at hb
  refine Qc<|Qb<|Qe ?_
  exact Ql ⟨[.int .u16 b],⟨rfl,trivial⟩,by rw[hb];rfl,hs1⟩
 have hltL:k<q.ls.length:=by have h16:(k:Int)<(q.ls.length:Int):=h15;omega
 have htk:q.ls.take (k+1)=q.ls.take k++[q.ls[k]'hltL]:=List.take_succ_eq_append_getElem hltL
 have hml:=hm _ (List.getElem_mem hltL)
 refine Qi<|Qf<|Qg<|Qc<|xig (g:=QN) ZZ (hqA.ext hs1) rfl rfl hltL λa16 h16=>?_
 refine Zd (q.ls[k]'hltL) λl hl=>?_
 rw[hl] at h16 htk hml
 have hln:l.1=(l.1.toNat:Int):=by omega
 have hl16:l.1.toNat<16:=by omega
 refine x (QC h16 rfl rfl)<|xl rfl<|Qt (us:=[.int .i64 0,.int .i64 0]) rfl λb6 w2 hs2 hb6 hB6=>xl rfl<|Qn (us:=QN l) hB6 rfl rfl rfl rfl ⟨rfl,rfl,trivial⟩ λw3 hs3 hB6 =>
  xe ?_
 have hs13:Step [] w1 w3:=hs2.then1 hs3 hb6
 refine Qw<|Qb<|x (Qa rfl)<|x (Qd hB6 rfl rfl)<|x (Qbe (n:=l.1.toNat) rfl (congrArg (Value.int .i64) hln) (by show l.1.toNat≤16;omega) (Qhp hl16))<|x (Qad (a:=b) (b:=1 <<< l.1.toNat) rfl (congrArg (Value.int .u16) (yC _)) hlb (JA hl16))<|Qe<|Qw<|QO rfl rfl<|Qb<|xe ?_
 exact ⟨(k+1,orB b l.1.toNat),by simp only[];omega,⟨rfl,rfl,trivial⟩,hltL,hs1.trans hs13,by simp only[];rw[htk,yN,hb]⟩
theorem Qgv {w:World}{c:CL}{b1 i:Nat}(hB1:Q2 w.heap b1 47 c.cells) (hc:Zu [] w.heap c) {q:KV}(hi:c.cs[i]?=some q) (hm:∀l∈q.ts,0≤l.1∧l.1<16) :
  QJ prog 138 [.int .i64 i,.pointer (some ⟨b1,0,none⟩)] w λr w'=>r=.int .u16 (qk q.ts)∧Step [] w w':=by
 obtain ⟨hlt,hq⟩:=List.getElem?_eq_some_iff.1 hi
 have hqA:=hc.cs.each q (hq ▸ List.getElem_mem hlt)
 have hql:=hqA.le
 refine QJ.of_W func138 rfl ntmps138 results138 (by simp) ?_
 refine Qc<|Qe<|Qc<|Qe<|Qf<|Qc<|x (Qa rfl)<|x (Qd hB1 rfl rfl)<|Qb<|xig (g:=Za) (i:=i) YN hc.cs.arr rfl rfl hlt λa10 h10=>?_
 rw[hq] at h10
 refine x (Zc rfl)<|x (Qv (h10.fld 1 q.v rfl) rfl)<|x (Qr hqA rfl)<|Qb<|xe ?_
 refine Qg<|QA (α:=Nat×Nat) [(4,4),(6,6),(14,23)] (λz=>[(4,.int .u16 z.2),(14,.int .i64 z.1)]) (λz w'=>z.1≤q.ts.length∧Step [] w w'∧z.2=qk (q.ts.take z.1)) (λz=>q.ts.length - z.1) (by rfl) (0,0) ⟨rfl,rfl,trivial⟩
  ⟨Nat.zero_le _,Step.refl _ _,rfl⟩ ?_
 rintro ⟨k,b⟩ g w1 ⟨hk,hs1,hb⟩
 simp only[] at hk hb
 have hlb:b<65536:=by rw[hb];exact zC _ (λl hl=>hm l (List.mem_of_mem_take hl))
 refine Qc<|x (QB rfl rfl)<|xe ?_
 refine Qf<|QG rfl (λh15=>?_) (λh15=>?_)
 ·refine Qx ?_
  have hke:q.ts.length≤k:=by have h16:¬(k:Int)<(q.ts.length:Int):=h15;omega
  rw[List.take_of_length_le hke] at hb
  refine Qc<|Qb<|Qe ?_
  exact Ql ⟨[.int .u16 b],⟨rfl,trivial⟩,by rw[hb];rfl,hs1⟩
 have hltL:k<q.ts.length:=by have h16:(k:Int)<(q.ts.length:Int):=h15;omega
 have htk:q.ts.take (k+1)=q.ts.take k++[q.ts[k]'hltL]:=List.take_succ_eq_append_getElem hltL
 have hml:=hm _ (List.getElem_mem hltL)
 refine Qi<|Qf<|Qg<|Qc<|xig (g:=QN) ZZ (hqA.ext hs1) rfl rfl hltL λa16 h16=>?_
 refine Zd (q.ts[k]'hltL) λl hl=>?_
 rw[hl] at h16 htk hml
 have hln:l.1=(l.1.toNat:Int):=by omega
 have hl16:l.1.toNat<16:=by omega
 refine x (QC h16 rfl rfl)<|xl rfl<|Qt (us:=[.int .i64 0,.int .i64 0]) rfl λb6 w2 hs2 hb6 hB6=>xl rfl<|Qn (us:=QN l) hB6 rfl rfl rfl rfl ⟨rfl,rfl,trivial⟩ λw3 hs3 hB6 =>
  xe ?_
 have hs13:Step [] w1 w3:=hs2.then1 hs3 hb6
 refine Qw<|Qb<|x (Qa rfl)<|x (Qd hB6 rfl rfl)<|x (Qbe (n:=l.1.toNat) rfl (congrArg (Value.int .i64) hln) (by show l.1.toNat≤16;omega) (Qhp hl16))<|x (Qad (a:=b) (b:=1 <<< l.1.toNat) rfl (congrArg (Value.int .u16) (yC _)) hlb (JA hl16))<|Qe<|Qw<|QO rfl rfl<|Qb<|xe ?_
 exact ⟨(k+1,orB b l.1.toNat),by simp only[];omega,⟨rfl,rfl,trivial⟩,hltL,hs1.trans hs13,by simp only[];rw[htk,yN,hb]⟩
end Go.Proofs.YtdffckgdcegpaaaGreatDoor
namespace Go.Lg
theorem xcG {P:Program}{f:Fr}{w:World}{K:Fr→World→Prop}{d:Option Nat}{ty:Nat}{ps:String}{af:Array Edge}{gd:Option (Nat×Bool)}{x:Operand}{l:List Operand}{at_:Array Nat}
  {g:Nat} {first capt:LV} (hg:∃fn,Fu P g fn) (hx:ev f x=.func (.func g) first.toArray capt.toArray) (h:QJ P g (first++l.map (ev f)++capt) w λv w'=>K (QY f d v) w') :
  XO P ⟨d,.call ⟨.value x,l.toArray,at_⟩,ty,ps,af,gd⟩ f w K:=by
 obtain ⟨fn,hF⟩:=hg
 exact xc (fn:=fn) hx h
end Go.Lg
namespace Go.Proofs.YtdffckgdcegpaaaGreatDoor
open Go.Proofs.Tryz
open Go.Lg
def gK (m:Nat):Nat:=if m=0 then 134 else if m=1 then 137 else 138
theorem Qe5 (m:Nat):∃fn,Fu prog (gK m) fn:=by
 unfold gK
 split
 ·exact ⟨_,inferInstance⟩
 ·split
  ·exact ⟨_,inferInstance⟩
  ·exact ⟨_,inferInstance⟩
abbrev Y7 (c:Zv) (m:Nat):LN:=srK c ((m:Int)+1)
theorem QdP (c:Zv):Y7 c 0=srR c:=rfl
theorem QdO (c:Zv):Y7 c 1=srX c:=rfl
theorem QdN (c:Zv):Y7 c 2=srC c:=rfl
structure V0 (c:Zv):Prop where
 c8:c.co.length≤8
 r:c.rq.length≤32
 x:c.ex.length≤32
 k:c.cs.length≤32
 xl:∀e∈c.ex,∀l∈e.ls,0≤l.1∧l.1<16
 kl:∀e∈c.cs,∀l∈e.ts,0≤l.1∧l.1<16
theorem Qgc.sr {c:Zv}(h:Qgc c):V0 c:=by
 have h1:=VQ h.cd
 have h2:(szs c.co).length=c.co.length:=List.length_map ..
 have h8:=h.c8
 have hr:=h.cr
 refine ⟨h8,by omega,h1.xl,h1.kl,λe he l hl=>?_,λe he l hl=>?_⟩
 ·have:=h1.x e he l hl;omega
 ·have:=(h1.k e he).1 l hl;omega
theorem KC {c:Zv}(h:V0 c) {m:Nat}(hm:m<3):(Y7 c m).length≤32:=by
 have h1:=h.r
 have h2:=h.x
 have h3:=h.k
 rcases m with _ | _ | _ | m
 ·rw[QdP];unfold srR;rw[List.length_map];exact h1
 ·rw[QdO];unfold srX;rw[List.length_map];exact h2
 ·rw[QdN];unfold srC;rw[List.length_map];exact h3
 ·omega
theorem Uk {c:Zv}(h:V0 c) {m:Nat}(hm:m<3):∀b∈Y7 c m,b<65536:=by
 have h8:=h.c8
 rcases m with _ | _ | _ | m
 ·rw[QdP];unfold srR
  intro b hb
  obtain ⟨x,_,rfl⟩:=List.mem_map.1 hb
  exact QdW _ _ _ (by decide) (by omega)
 ·rw[QdO];unfold srX
  intro b hb
  obtain ⟨x,hx,rfl⟩:=List.mem_map.1 hb
  exact zC _ (h.xl x hx)
 ·rw[QdN];unfold srC
  intro b hb
  obtain ⟨x,hx,rfl⟩:=List.mem_map.1 hb
  exact zC _ (h.kl x hx)
 ·omega
abbrev yl (b1:Nat) (c:Zv) (m:Nat):LV:=[.int .i64 ((m:Int)+1),.int .i64 (Y7 c m).length,.func (.func (gK m)) #[] #[.pointer (some ⟨b1,0,none⟩)]]
theorem Uj (b1:Nat) (c:Zv) (m:Nat):(yl b1 c m).length=3:=rfl
theorem j3 {w:World}{c:CL}{b1 m i:Nat}(hB1:Q2 w.heap b1 47 c.cells) (hc:Zu [] w.heap c) (hok:V0 c.cel) (hm:m<3) (hi:i<(Y7 c.cel m).length) :
  QJ prog (gK m) [.int .i64 i,.pointer (some ⟨b1,0,none⟩)] w λr w'=>r=.int .u16 ((Y7 c.cel m)[i]'hi:Nat)∧Step [] w w':=by
 rcases m with _ | _ | _ | m
 ·have hl:(Y7 c.cel 0).length=c.rq.length:=by rw[QdP];unfold srR;rw[List.length_map];exact List.length_map ..
  have hi':i<c.rq.length:=Nat.lt_of_lt_of_eq hi hl
  have e:(Y7 c.cel 0)[i]'hi=j9 (c.rq[i]'hi').it 0 0 c.cel.co:=by
   show (srR c.cel)[i]'_=_
   simp[srR,CL.cel]
  rw[e]
  have h8:c.co.length≤8:=by have:=hok.c8;rw[show c.cel.co.length=c.co.length from List.length_map ..] at this;exact this
  exact Qgx hB1 hc h8 (List.getElem?_eq_getElem hi')
 ·have hl:(Y7 c.cel 1).length=c.ex.length:=by rw[QdO];unfold srX;rw[List.length_map];exact List.length_map ..
  have hi':i<c.ex.length:=Nat.lt_of_lt_of_eq hi hl
  have e:(Y7 c.cel 1)[i]'hi=qk (c.ex[i]'hi').ls:=by
   show (srX c.cel)[i]'_=_
   simp[srX,CL.cel,XV.x]
  rw[e]
  exact Qgw hB1 hc (List.getElem?_eq_getElem hi') (λl hl=>hok.xl (c.ex[i]'hi').x (List.mem_map_of_mem (List.getElem_mem hi')) l hl)
 ·have hl:(Y7 c.cel 2).length=c.cs.length:=by rw[QdN];unfold srC;rw[List.length_map];exact List.length_map ..
  have hi':i<c.cs.length:=Nat.lt_of_lt_of_eq hi hl
  have e:(Y7 c.cel 2)[i]'hi=qk (c.cs[i]'hi').ts:=by
   show (srC c.cel)[i]'_=_
   simp[srC,CL.cel,KV.k]
  rw[e]
  exact Qgv hB1 hc (List.getElem?_eq_getElem hi') (λl hl=>hok.kl (c.cs[i]'hi').k (List.mem_map_of_mem (List.getElem_mem hi')) l hl)
 ·omega
structure Qlq (N:Nat) (w:World) (c:CL) (r:Value) (b1 b:Nat):Prop where
 r:r=.slice (some ⟨b,0,none⟩) 3 3
 n1:N≤b1
 n:N≤b
 B1:Q2 w.heap b1 47 c.cells
 B:Q2 w.heap b 137 ([0,1,2].flatMap (yl b1 c.cel))
theorem Ke {L:LN}{w:World}{c:CL}(h0:Zu L w.heap c) :
  QJ prog 61 [c.val] w λr w'=>Step [] w w'∧∃b1 b,Qlq w.heap.size w' c r b1 b:=by
 have h:=h0.up (L':=[]) (by simp)
 have e0:(Y7 c.cel 0).length=c.rq.length:=by rw[QdP];unfold srR;rw[List.length_map];exact List.length_map ..
 have e1:(Y7 c.cel 1).length=c.ex.length:=by rw[QdO];unfold srX;rw[List.length_map];exact List.length_map ..
 have e2:(Y7 c.cel 2).length=c.cs.length:=by rw[QdN];unfold srC;rw[List.length_map];exact List.length_map ..
 refine QJ.of_W func61 rfl ntmps61 results61 (by simp) ?_
 refine Qc<|xl rfl<|QQ (us:=c.cells) rfl λb1 w1 hs1 hb1 hB1=>Qe ?_
 have h1:=h.ext hs1
 refine Qc<|x (Qa rfl)<|x (Qd hB1 rfl rfl)<|x (Qr h1.rq.arr rfl)<|x (Zr (l:=[]) (l':=[_]))<|x (QE ⟨rfl,rfl,rfl,trivial⟩)<|x (Qa rfl) <|
  x (Qd hB1 rfl rfl)<|x (Qr h1.ex.arr rfl)<|x (Zr (l:=[]) (l':=[_]))<|x (QE ⟨rfl,rfl,rfl,trivial⟩)<|x (Qa rfl)<|x (Qd hB1 rfl rfl) <|
  x (Qr h1.cs.arr rfl)<|x (Zr (l:=[]) (l':=[_]))<|x (QE ⟨rfl,rfl,rfl,trivial⟩) <|
  xl rfl<|QD (us:=[[.int .i64 1,.int .i64 c.rq.length,.func (.func 134) #[] #[.pointer (some ⟨b1,0,none⟩)]],[.int .i64 2,.int .i64 c.ex.length,.func (.func 137) #[] #[.pointer (some ⟨b1,0,none⟩)]],[.int .i64 3,.int .i64 c.cs.length,.func (.func 138) #[] #[.pointer (some ⟨b1,0,none⟩)]]]) rfl rfl (by decide) (by simp) ⟨rfl,rfl,rfl,rfl,rfl,rfl,trivial⟩ λb18 w2 hs2 hb18 hB18 =>
  Qe ?_
 have hz1:=hs1.size
 have hz2:=hs2.size
 refine Ql ⟨[_],⟨rfl,trivial⟩,hs1.trans hs2,b1,b18,rfl,hb1,by omega,hB1.ext hs2,?_⟩
 have e:[0,1,2].flatMap (yl b1 c.cel)=[.int .i64 1,.int .i64 c.rq.length,.func (.func 134) #[] #[.pointer (some ⟨b1,0,none⟩)],.int .i64 2,.int .i64 c.ex.length,.func (.func 137) #[] #[.pointer (some ⟨b1,0,none⟩)],.int .i64 3,.int .i64 c.cs.length,.func (.func 138) #[] #[.pointer (some ⟨b1,0,none⟩)]]:=by
  simp only[List.flatMap_cons,List.flatMap_nil,yl,e0,e1,e2]
  rfl
 rw[e];exact hB18
def srP (c:Zv):Nat→LN
 | 0=>[]
 | m+1=>srP c m++Y7 c m
theorem yA (c:Zv):srP c 3=sets c:=by
 simp only[srP,QdP,QdO,QdN,sets,List.nil_append,List.append_assoc]
theorem zn {c:Zv}(h:V0 c):∀m,m≤3→(srP c m).length≤32*m
 | 0,_=>Nat.zero_le _
 | m+1,hm=>by
  have h1:=zn h m (by omega)
  have h2:=KC h (show m<3 by omega)
  rw[srP,List.length_append];omega
abbrev Qdx (l:LN):LV:=l.map λb=>.int .u16 (b:Nat)
abbrev qa (base:Nat) (w:World) (v:Value) (l:LN):Prop:=w.ownsRow base 140 1 v l.length (Qdx l)
theorem qa.snoc {base:Nat}{w:World}{v:Value}{l:LN}{b:Nat}(h:w.ownsRow base 140 1 v (l.length+1) (Qdx l++[.int .u16 (b:Nat)])):qa base w v (l++[b]):=by
 unfold qa Qdx
 rw[List.length_append,List.map_append];exact h
set_option maxHeartbeats 4000000 in
theorem QgC {L:LN}{w:World}{c:CL}(h0:Zu L w.heap c) (hok:V0 c.cel) :
  QJ prog 99 [c.val] w λr w'=>Step [] w w'∧qa w.heap.size w' r (sets c.cel):=by
 have h:=h0.up (L':=[]) (by simp)
 refine QJ.of_W func99 rfl ntmps99 results99 (by simp) ?_
 refine Qc<|xl rfl<|QQ (us:=c.cells) rfl λb1 w1 hs1 hb1 hB1=>Qe<|Qc<|Qe<|Qf<|Qc<|x (Qq hB1 rfl rfl)<|xl rfl<|xf<|(Ke (h.ext hs1)).mono ?_
 rintro r2 w2 ⟨hs2,c1,bs,hS⟩
 have hrS:=hS.r
 subst hrS
 have hs02:=hs1.trans hs2
 have hz1:=hs1.size
 have hz2:=hs2.size
 have hlb:=hS.B.lt
 have hlc:=hS.B1.lt
 have hA:∀{w':World},Step [] w2 w'→Zj [] w'.heap (.slice (some ⟨bs,0,none⟩) 3 3) [0,1,2].length 3 ([0,1,2].flatMap (yl c1 c.cel)):=λhs =>
  (hS.B.ext hs).arr (by simp) (n:=3) (cap:=3) (sz:=3) (by rfl) (by omega) (Nat.le_refl _)
 refine x (Qr (hA (Step.refl _ _)) rfl)<|Qb<|xe ?_
 refine Qg<|QA (α:=Nat×Value) [(3,3),(5,6),(10,27)] (λz=>[(3,z.2),(10,.int .i64 z.1)]) (λz w'=>z.1≤3∧Step [] w2 w'∧qa w2.heap.size w' z.2 (srP c.cel z.1)) (λz=>3 - z.1) (by rfl) (0,nS) ⟨rfl,rfl,trivial⟩
  ⟨Nat.zero_le _,Step.refl _ _,QP _ _ _ _⟩ ?_
 rintro ⟨m,v⟩ g w3 ⟨hm,hs3,ho3⟩
 simp only[] at hm ho3
 have hpl:=zn hok m hm
 refine Qc<|x (QB rfl rfl)<|xe ?_
 refine Qf<|QG rfl (λh11=>?_) (λh11=>?_)
 ·refine Qx ?_
  have hme:m=3:=by have h16:¬(m:Int)<(3:Nat):=h11;omega
  rw[hme,yA] at ho3
  refine Qc<|Qb<|Qe ?_
  exact Ql ⟨[v],⟨rfl,trivial⟩,hs02.trans hs3,Zo ho3 hs02.size⟩
 have hm3:m<3:=by have h16:(m:Int)<(3:Nat):=h11;omega
 have hgl:=KC hok hm3
 refine Qi ?_
 have hz3:=hs3.size
 have hge:=Qk ho3
 have hgm:([0,1,2]:LN)[m]'hm3=m:=by rcases m with _ | _ | _ | m <;> first | rfl | omega
 refine Qf<|Qg<|Qc<|xig (g:=yl c1 c.cel) (i:=m) (Uj c1 c.cel) (hA hs3) rfl rfl hm3 λa12 h12=>?_
 rw[hgm] at h12
 refine x (QC h12 rfl rfl)<|xl rfl<|Qt (us:=[.int .i64 0,.int .i64 0,.nilFunc]) rfl λb5 w4 hs4 hb5 hB5=>xl rfl<|Qn (us:=yl c1 c.cel m) hB5 rfl rfl rfl rfl ⟨rfl,rfl,rfl,trivial⟩ λw5 hs5 hB5 =>
  xe ?_
 have hs35:Step [] w3 w5:=hs4.then1 hs5 hb5
 have hz35:=hs35.size
 refine Qc<|x (Qa rfl)<|x (Qd hB5 rfl rfl)<|Qb<|xe ?_
 refine Qg<|QA (α:=Nat×Value) [(3,3),(6,6),(16,26)] (λz=>[(3,z.2),(16,.int .i64 z.1)]) (λz w'=>z.1≤(Y7 c.cel m).length∧Step (ob v) w5 w'∧qa w2.heap.size w' z.2 (srP c.cel m++(Y7 c.cel m).take z.1)∧∀b∈ob z.2,b∈ob v∨w5.heap.size≤b) (λz=>(Y7 c.cel m).length - z.1) (by rfl) (0,v) ⟨rfl,rfl,trivial⟩
  ⟨Nat.zero_le _,Step.refl _ _,by simp only[List.take_zero,List.append_nil];exact Qs ho3 hs35,λb hb=>.inl hb⟩ ?_
 rintro ⟨i,vi⟩ g w6 ⟨hi,hs6,ho6,hn6⟩
 simp only[] at hi ho6 hn6
 have hz6:=hs6.size
 have hge6:=Qk ho6
 have hs26:Step [] w2 w6:=(hs3.trans hs35).then hs6 (λb hb=>.inr (hge b hb).1)
 have hb5v:b5∉ob v:=λhb=>by have:=(hge b5 hb).2;omega
 have hB56:=hB5.step hs6 hb5v
 have h6:=h.ext (hs02.trans hs26)
 have hB16:Q2 w6.heap c1 47 c.cells:=hS.B1.ext hs26
 refine Qc<|x (QB rfl rfl)<|xe ?_
 refine Qf<|QG rfl (λh17=>?_) (λh17=>?_)
 ·refine Qx ?_
  have hie:(Y7 c.cel m).length≤i:=by have h16:¬(i:Int)<((Y7 c.cel m).length:Int):=h17;omega
  rw[List.take_of_length_le hie] at ho6
  refine Qw<|QO rfl rfl<|Qb<|xe ?_
  exact ⟨(m+1,vi),by simp only[];omega,⟨rfl,rfl,trivial⟩,hm3,hs26,ho6⟩
 have hlt:i<(Y7 c.cel m).length:=by have h16:(i:Int)<((Y7 c.cel m).length:Int):=h17;omega
 have htk:(Y7 c.cel m).take (i+1)=(Y7 c.cel m).take i++[(Y7 c.cel m)[i]'hlt]:=List.take_succ_eq_append_getElem hlt
 have hln:(srP c.cel m++(Y7 c.cel m).take i).length≤200:=by rw[List.length_append,List.length_take];omega
 refine Qi<|Qf<|Qg<|Qc<|Qb<|Qe<|Qw<|Qb<|x (Qa rfl)<|x (Qd hB56 rfl rfl)<|Qb<|xl rfl<|xcG (first:=[]) (capt:=[.pointer (some ⟨c1,0,none⟩)]) (Qe5 m) rfl<|(j3 hB16 h6 hok hm3 hlt).mono ?_
 rintro r7 w7 ⟨rfl,hs7⟩
 refine Zd ((Y7 c.cel m)[i]'hlt) λbv hbv=>?_
 rw[hbv] at htk ⊢
 refine xl rfl<|QD (us:=[[.int .u16 (bv:Nat)]]) rfl rfl (by decide) (by simp) ⟨rfl,rfl,trivial⟩ λb24 w8 hs8 hb24 hB24=>?_
 have hs68:=hs7.trans hs8
 have hz68:=hs68.size
 refine xl rfl<|QZ (news:=[.int .u16 (bv:Nat)]) (L:=[]) (Qs ho6 hs68) rfl rfl rfl (hB24.at (by simp)) (by simp[Value.oneCell']) (by omega) (by omega) λv9 w9 ho9 hs9 hn9 =>
  Qe<|Qw<|QO rfl rfl<|Qb<|xe ?_
 refine ⟨(i+1,v9),by simp only[];omega,⟨rfl,rfl,trivial⟩,hlt,(hs6.trans hs68).then hs9 hn6,?_,λb hb=>?_⟩
 ·simp only[]
  rw[htk,←List.append_assoc]
  exact qa.snoc ho9
 ·rcases hn9 b hb with h9 | h9
  ·exact hn6 b h9
  ·exact .inr (by omega)
structure MV where
 kd:Int
 ix:Int
 v:Value
 co:LI
def MV.m (q:MV):Ky:=⟨q.kd,q.ix,q.co⟩
abbrev Zp (q:MV):LV:=[.int .i64 q.kd,.int .i64 q.ix,q.v]
theorem zK (q:MV):(Zp q).length=3:=rfl
abbrev mvP (q:MV):Value×Nat×Nat×LV:=(q.v,q.co.length,1,q.co.map (.int .i64))
abbrev MvN (base:Nat) (w:World) (v:Value) (l:List MV):Prop:=ZN Zp 3 39 mvP base w v l
theorem Ua {q:MV}(h:q.v.oneCell'=true):∀u∈Zp q,u.oneCell'=true:=by
 intro u hu
 simp only[Zp,List.mem_cons,List.not_mem_nil,or_false] at hu
 rcases hu with rfl | rfl | rfl
 ·rfl
 ·rfl
 ·exact h
theorem KQ (k:Int):∀(l:LN) (i:Nat),(Jr k i l).length=l.length
 | [],_=>rfl
 | _::l,i=>by rw[Jr,List.length_cons,KQ k l,List.length_cons]
theorem qQ (k:Int):∀(l:LN) (i j:Nat) (h:j<l.length),(Jr k i l).take (j+1)=(Jr k i l).take j++[⟨k,((i+j:Nat):Int),setK (l[j]'h) 8⟩]
 | [],_,j,h=>absurd h (Nat.not_lt_zero _)
 | b::l,i,0,h=>by rw[Jr];rfl
 | b::l,i,j+1,h=>by
  rw[Jr,List.take_succ_cons,List.take_succ_cons,qQ k l (i+1) j (by simpa using h),List.cons_append]
  have e:((i+1+j:Nat):Int)=((i+(j+1):Nat):Int):=by omega
  rw[e];rfl
abbrev mdG (c:Zv) (m:Nat):List Ky:=Jr ((m:Int)+1) 0 (Y7 c m)
def mdP (c:Zv):Nat→List Ky
 | 0=>[]
 | m+1=>mdP c m++mdG c m
theorem y0 (c:Zv):mdP c 3=mods c:=by
 simp only[mdP,mods,List.nil_append,List.append_assoc]
 rfl
theorem zO {c:Zv}(h:V0 c):∀m,m≤3→(mdP c m).length≤32*m
 | 0,_=>Nat.zero_le _
 | m+1,hm=>by
  have h1:=zO h m (by omega)
  have h2:=KC h (show m<3 by omega)
  rw[mdP,List.length_append,KQ];omega
set_option maxHeartbeats 4000000 in
theorem U3 {L:LN}{w:World}{c:CL}(h0:Zu L w.heap c) :
  QJ prog 31 [c.val] w λr w'=>Step [] w w'∧∃v l,r=.tuple #[v,.int .i64 (Zi c.cel)]∧MvN w.heap.size w' v l∧(Zi c.cel≠0→v=nS∧l=[])∧(Zi c.cel=0→l.map MV.m=mods c.cel):=by
 have h:=h0.up (L':=[]) (by simp)
 refine Zd (Zi c.cel) λE hE=>?_
 rw[hE]
 refine QJ.of_W func31 rfl ntmps31 results31 (by simp) ?_
 refine Qc<|xl rfl<|QQ (us:=c.cells) rfl λb1 w1 hs1 hb1 hB1=>x Qh<|Qe<|Qf<|Qc<|x (Qq hB1 rfl rfl)<|xl rfl<|xf<|(YO (h.ext hs1)).mono ?_
 rintro rc wc ⟨hrc,hsc⟩
 rw[hE] at hrc
 subst hrc
 have hB1c:=hB1.ext hsc
 have hs0c:=hs1.trans hsc
 refine Qe<|Qc<|Qb<|x (Q8 rfl rfl)<|xe ?_
 refine Q4 rfl (λh12=>?_) (λh12=>?_)
 ·refine Qc<|Qb<|x Qh<|Qe ?_
  exact Ql ⟨[nS,.int .i64 E],⟨rfl,rfl,trivial⟩,hs0c,nS,[],rfl,ZN.nil,λ_=>⟨rfl,rfl⟩,λh0=>absurd h0 h12⟩
 have hE0:E=0:=Decidable.not_not.1 h12
 have hok:V0 c.cel:=(ZV (hE.trans hE0)).sr
 refine Qi<|Qc<|Qe<|Qf<|Qc<|x (Qq hB1c rfl rfl)<|xl rfl<|xf<|(Ke (h.ext hs0c)).mono ?_
 rintro r2 w2 ⟨hs2,c1,bs,hS⟩
 have hrS:=hS.r
 subst hrS
 have hs02:=hs0c.trans hs2
 have hz1:=hs0c.size
 have hz2:=hs2.size
 have hlb:=hS.B.lt
 have hlc:=hS.B1.lt
 have hA:∀{w':World},Step [] w2 w'→Zj [] w'.heap (.slice (some ⟨bs,0,none⟩) 3 3) [0,1,2].length 3 ([0,1,2].flatMap (yl c1 c.cel)):=λhs =>
  (hS.B.ext hs).arr (by simp) (n:=3) (cap:=3) (sz:=3) (by rfl) (by omega) (Nat.le_refl _)
 refine x (Qr (hA (Step.refl _ _)) rfl)<|Qb<|xe ?_
 refine Qg<|QA (α:=Nat×Value×List MV) [(5,5),(7,8),(17,39)] (λz=>[(5,z.2.1),(17,.int .i64 z.1)]) (λz w'=>z.1≤3∧Step [] w2 w'∧MvN w2.heap.size w' z.2.1 z.2.2∧z.2.2.map MV.m=mdP c.cel z.1) (λz=>3 - z.1) (by rfl) (0,nS,[]) ⟨rfl,rfl,trivial⟩
  ⟨Nat.zero_le _,Step.refl _ _,ZN.nil,rfl⟩ ?_
 rintro ⟨m,v,l⟩ g w3 ⟨hm,hs3,ho3,hl3⟩
 simp only[] at hm ho3 hl3
 have hpl:=zO hok m hm
 have hll:l.length=(mdP c.cel m).length:=by rw[←hl3,List.length_map]
 refine Qc<|x (QB rfl rfl)<|xe ?_
 refine Qf<|QG rfl (λh11=>?_) (λh11=>?_)
 ·refine Qx ?_
  have hme:m=3:=by have h16:¬(m:Int)<(3:Nat):=h11;omega
  rw[hme,y0] at hl3
  refine Qc<|Qb<|x Qh<|Qe ?_
  have hz02:=hs02.size
  exact Ql ⟨[v,.int .i64 0],⟨rfl,rfl,trivial⟩,hs02.trans hs3,v,l,by rw[hE0];rfl,⟨Zo ho3.own hz02,λq hq L hL=>ho3.each q hq L (λb hb=>(hL b hb).imp (λh=>by omega) id)⟩,λh0=>absurd hE0 h0,λ_=>hl3⟩
 have hm3:m<3:=by have h16:(m:Int)<(3:Nat):=h11;omega
 have hgl:=KC hok hm3
 refine Qi ?_
 have hz3:=hs3.size
 have hge:=Qk ho3.own
 have hgm:([0,1,2]:LN)[m]'hm3=m:=by rcases m with _ | _ | _ | m <;> first | rfl | omega
 refine Qf<|Qg<|Qc<|xig (g:=yl c1 c.cel) (i:=m) (Uj c1 c.cel) (hA hs3) rfl rfl hm3 λa12 h12=>?_
 rw[hgm] at h12
 refine x (QC h12 rfl rfl)<|xl rfl<|Qt (us:=[.int .i64 0,.int .i64 0,.nilFunc]) rfl λb7 w4 hs4 hb7 hB7=>xl rfl<|Qn (us:=yl c1 c.cel m) hB7 rfl rfl rfl rfl ⟨rfl,rfl,rfl,trivial⟩ λw5 hs5 hB7 =>
  xe ?_
 have hs35:Step [] w3 w5:=hs4.then1 hs5 hb7
 have hz35:=hs35.size
 refine Qc<|x (Qa rfl)<|x (Qd hB7 rfl rfl)<|Qb<|xe ?_
 refine Qg<|QA (α:=Nat×Value×List MV) [(5,5),(8,8),(23,38)] (λz=>[(5,z.2.1),(23,.int .i64 z.1)]) (λz w'=>z.1≤(Y7 c.cel m).length∧Step (ob v) w5 w'∧MvN w2.heap.size w' z.2.1 z.2.2∧z.2.2.map MV.m=mdP c.cel m++(mdG c.cel m).take z.1∧∀b∈ob z.2.1,b∈ob v∨w5.heap.size≤b) (λz=>(Y7 c.cel m).length - z.1) (by rfl) (0,v,l) ⟨rfl,rfl,trivial⟩
  ⟨Nat.zero_le _,Step.refl _ _,ho3.ext hs35,by simp only[List.take_zero,List.append_nil];exact hl3,λb hb=>.inl hb⟩ ?_
 rintro ⟨i,vi,li⟩ g w6 ⟨hi,hs6,ho6,hl6,hn6⟩
 simp only[] at hi ho6 hl6 hn6
 have hz6:=hs6.size
 have hge6:=Qk ho6.own
 have hs26:Step [] w2 w6:=(hs3.trans hs35).then hs6 (λb hb=>.inr (hge b hb).1)
 have hb7v:b7∉ob v:=λhb=>by have:=(hge b7 hb).2;omega
 have hB76:=hB7.step hs6 hb7v
 have h6:=h.ext (hs02.trans hs26)
 have hB16:Q2 w6.heap c1 47 c.cells:=hS.B1.ext hs26
 have hlil:li.length≤200:=by
  have e1:=congrArg List.length hl6
  rw[List.length_map,List.length_append,List.length_take] at e1
  have e2:(mdG c.cel m).length=(Y7 c.cel m).length:=KQ _ _ _
  omega
 refine Qc<|x (QB rfl rfl)<|xe ?_
 refine Qf<|QG rfl (λh17=>?_) (λh17=>?_)
 ·refine Qx ?_
  have hie:(Y7 c.cel m).length≤i:=by have h16:¬(i:Int)<((Y7 c.cel m).length:Int):=h17;omega
  rw[List.take_of_length_le (by rw[KQ];exact hie)] at hl6
  refine Qw<|QO rfl rfl<|Qb<|xe ?_
  exact ⟨(m+1,vi,li),by simp only[];omega,⟨rfl,rfl,trivial⟩,hm3,hs26,ho6,hl6⟩
 have hlt:i<(Y7 c.cel m).length:=by have h16:(i:Int)<((Y7 c.cel m).length:Int):=h17;omega
 have htk:(mdG c.cel m).take (i+1)=(mdG c.cel m).take i++[⟨(m:Int)+1,((0+i:Nat):Int),setK ((Y7 c.cel m)[i]'hlt) 8⟩]:=qQ _ _ _ _ hlt
 rw[Nat.zero_add] at htk
 have hbl:=Uk hok hm3 _ (List.getElem_mem hlt)
 refine Qi<|Qf<|Qg<|Qc<|Qb<|Qe ?_
 have hb7i:b7∉ob vi:=λhb=>by
  rcases hn6 b7 hb with h9 | h9
  ·exact hb7v h9
  ·have:=hB7.lt;omega
 have hd6:Step [] w6 { w6 with drawn:=w6.drawn+1 }:=Step.drew _ _
 have hzd:({ w6 with drawn:=w6.drawn+1 }:World).heap.size=w6.heap.size:=rfl
 refine QS (Step (ob vi) w6) [(0,true),(1,true),(2,true),(3,true),(4,true),(5,true),(6,true),(7,false),(8,false),(9,true),(10,false),(11,false),(12,true)] mixed (by rfl) (by kernel_rfl) (Step.drew _ _) ?_
 refine p (λ_=>Qo)<|p (λ_=>Qa rfl)<|pq (λ_ hc=>Qd (hB76.step hc hb7i) rfl rfl)<|p (λ_=>Qo)<|p (λ_=>Qa rfl) <|
  pq (λ_ hc=>Qd (hB76.step hc hb7i) rfl rfl)<|p (λ_=>Qo)<|pk<|xcG (first:=[]) (capt:=[.pointer (some ⟨c1,0,none⟩)]) (Qe5 m) rfl<|(j3 (hB16.ext hd6) (h6.ext hd6) hok hm3 hlt).mono ?_
 rintro r8 w8 ⟨rfl,hs8⟩
 refine Zd ((Y7 c.cel m)[i]'hlt) λbv hbv=>?_
 rw[hbv] at htk hbl ⊢
 have hs68:=hd6.trans hs8
 refine ⟨hs68.any,?_⟩
 refine pk<|xf<|(zS bv hbl w8).mono ?_
 rintro r9 w9 ⟨hs9,ho9⟩
 have hs69:=hs68.trans hs9
 have hz68:=hs68.size
 have hz69:=hs69.size
 refine ⟨hs69.any,?_⟩
 refine p (λ_=>QE ⟨rfl,rfl,Q3 ho9,trivial⟩)<|pk<|QD (us:=[Zp ⟨(m:Int)+1,i,r9,setK bv 8⟩]) rfl rfl (by decide) (by simp) ⟨rfl,rfl,trivial⟩ λb36 w10 hs10 hb36 hB36=>⟨(hs69.trans hs10).any,?_⟩
 have hs610:=hs69.trans hs10
 have hz610:=hs610.size
 have hz10:=hs10.size
 refine pk<|QZ (news:=Zp ⟨(m:Int)+1,i,r9,setK bv 8⟩) (L:=[]) (Qs ho6.own hs610) rfl rfl rfl (hB36.at (by simp)) (Ua (q:=⟨(m:Int)+1,i,r9,setK bv 8⟩) (QH ho9)) (by omega) (by omega) λv11 w11 ho11 hs11 hn11=>⟨hs610.any.trans' hs11,?_⟩
 refine p (λ_=>Qh)<|pe ?_
 have hkl:=YR bv 8
 have ho11':MvN w2.heap.size w11 v11 (li++[⟨(m:Int)+1,i,r9,setK bv 8⟩]):=ZN.app2 (N:=w8.heap.size) (ho6.ext hs610) (Qs ho9 hs10) (by show (setK bv 8).length≤_;omega) (by have:=hs26.size;omega) (λb hb=>by have:=hge6 b hb;omega) ho11 hs11 hn11
 refine Qw<|QO rfl rfl<|Qb<|xe ?_
 refine ⟨(i+1,v11,li++[⟨(m:Int)+1,i,r9,setK bv 8⟩]),by simp only[];omega,⟨rfl,rfl,trivial⟩,hlt,(hs6.trans hs610).then hs11 hn6,ho11',?_,λb hb=>?_⟩
 ·simp only[]
  rw[htk,List.map_append,hl6,List.append_assoc];rfl
 ·rcases hn11 b hb with h9 | h9
  ·exact hn6 b h9
  ·exact .inr (by omega)
theorem Qk9 {n:Nat}(h:n≤8):2 ^ n≤256:=Nat.pow_le_pow_right (by decide) h
set_option maxHeartbeats 4000000 in
theorem Ve {L:LN}{w:World}{c:CL}(h0:Zu L w.heap c) :
  QJ prog 38 [c.val] w λr w'=>Step [] w w'∧∃v,r=.tuple #[v,.int .i64 (Zi c.cel)]∧(Zi c.cel≠0→v=nS)∧(Zi c.cel=0→Qu 3 w.heap.size w' v (rem c.cel)):=by
 have h:=h0.up (L':=[]) (by simp)
 refine Zd (Zi c.cel) λE hE=>?_
 rw[hE]
 refine QJ.of_W func38 rfl ntmps38 results38 (by simp) ?_
 refine Qc<|xl rfl<|QQ (us:=c.cells) rfl λb1 w1 hs1 hb1 hB1=>x Qh<|Qe<|Qf<|Qc<|x (Qq hB1 rfl rfl)<|xl rfl<|xf<|(YO (h.ext hs1)).mono ?_
 rintro rc wc ⟨hrc,hsc⟩
 rw[hE] at hrc
 subst hrc
 have hB1c:=hB1.ext hsc
 have hs0c:=hs1.trans hsc
 refine Qe<|Qc<|Qb<|x (Q8 rfl rfl)<|xe ?_
 refine Q4 rfl (λh12=>?_) (λh12=>?_)
 ·refine Qc<|Qb<|x Qh<|Qe ?_
  exact Ql ⟨[nS,.int .i64 E],⟨rfl,rfl,trivial⟩,hs0c,nS,rfl,λ_=>rfl,λh0=>absurd h0 h12⟩
 have hE0:E=0:=Decidable.not_not.1 h12
 have hok:V0 c.cel:=(ZV (hE.trans hE0)).sr
 have hcc:c.cel.co.length=c.co.length:=List.length_map ..
 have h8:c.co.length≤8:=by have:=hok.c8;omega
 have hp8:=Qk9 h8
 have hp1:0<2 ^ c.co.length:=Nat.pow_pos (by decide)
 have he:(1:Int)*(2:Int) ^ c.co.length - 1=((2 ^ c.co.length - 1:Nat):Int):=by
  rw[yC,Nat.shiftLeft_eq,Nat.one_mul];omega
 have hin:inK .u16 ((1:Int)*(2:Int) ^ c.co.length - 1):=by rw[he];exact ⟨by omega,by omega⟩
 have hb0:2 ^ c.co.length - 1<65536:=by omega
 have hsl:=zn hok 3 (by omega)
 rw[yA] at hsl
 have hrb:Qab c.cel=(sets c.cel).foldl (λl b=>l &&& (65535 ^^^ b)) (2 ^ c.co.length - 1):=by unfold Qab;rw[hcc]
 have hbl:∀b∈sets c.cel,b<65536:=by
  intro b hb
  unfold sets at hb
  rcases List.mem_append.1 hb with hb | hb
  ·exact Uk hok (m:=0) (by omega) b hb
  ·rcases List.mem_append.1 hb with hb | hb
   ·exact Uk hok (m:=1) (by omega) b hb
   ·exact Uk hok (m:=2) (by omega) b hb
 refine Zd (2 ^ c.co.length - 1) λb0 hb0'=>?_
 rw[hb0'] at he hrb hb0
 have hc':=h.ext hs0c
 refine Qi<|Qc<|x (Qa rfl)<|x (Qd hB1c rfl rfl)<|x (Qr hc'.co.arr rfl)<|x (Qbe (n:=c.co.length) rfl rfl (by show c.co.length≤16;omega) (Qhp (by omega)))<|x (Jp rfl rfl hin)<|Qe<|Qf<|Qc<|x (Qq hB1c rfl rfl)<|xl rfl<|xf<|(QgC hc' hok).mono ?_
 rintro r2 w2 ⟨hs2,ho2⟩
 have hA:Zj [] w2.heap r2 (sets c.cel).length 1 (Qdx (sets c.cel)):=QT ho2 (by omega) (by simp)
 have hA':Zj [] w2.heap r2 (sets c.cel).length 1 ((sets c.cel).flatMap λb=>[.int .u16 (b:Nat)]):=by
  have e:(sets c.cel).flatMap (λb=>[Value.int .u16 (b:Nat)])=Qdx (sets c.cel):=by
   generalize sets c.cel=l
   induction l with
   | nil=>rfl
   | cons a l ih=>rw[List.flatMap_cons,ih];rfl
  rw[e];exact hA
 refine x (Qr hA rfl)<|Qb<|xe ?_
 refine Qg<|QA (α:=Nat×Nat) [(5,5),(7,7),(21,28)] (λz=>[(5,.int .u16 z.2),(21,.int .i64 z.1)]) (λz w'=>z.1≤(sets c.cel).length∧Step [] w2 w'∧z.2<65536∧((sets c.cel).drop z.1).foldl (λl b=>l &&& (65535 ^^^ b)) z.2=Qab c.cel) (λz=>(sets c.cel).length - z.1) (by rfl) (0,b0) ⟨congrArg (Value.int .u16) he,rfl,trivial⟩
  ⟨Nat.zero_le _,Step.refl _ _,hb0,hrb.symm⟩ ?_
 rintro ⟨k,b⟩ g w3 ⟨hk,hs3,hb,hr⟩
 simp only[] at hk hb hr
 have hs03:=(hs0c.trans hs2).trans hs3
 refine Qc<|x (QB rfl rfl)<|xe ?_
 refine Qf<|QG rfl (λh11=>?_) (λh11=>?_)
 ·refine Qx ?_
  have hke:(sets c.cel).length≤k:=by have h16:¬(k:Int)<((sets c.cel).length:Int):=h11;omega
  rw[List.drop_of_length_le hke] at hr
  have hr':b=Qab c.cel:=hr
  refine Qc<|Qb<|xl rfl<|xf<|(zS b hb w3).mono ?_
  rintro r4 w4 ⟨hs4,ho4⟩
  refine x Qh<|Qe ?_
  rw[hr'] at ho4
  exact Ql ⟨[r4,.int .i64 0],⟨rfl,rfl,trivial⟩,hs03.trans hs4,r4,by rw[hE0];rfl,λh0=>absurd hE0 h0,λ_=>Zo ho4 hs03.size⟩
 have hlt:k<(sets c.cel).length:=by have h16:(k:Int)<((sets c.cel).length:Int):=h11;omega
 have hbk:=hbl _ (List.getElem_mem hlt)
 rw[List.drop_eq_getElem_cons hlt,List.foldl_cons] at hr
 refine Qi<|Qf<|Qg<|Qc<|xig (g:=λb:Nat=>[.int .u16 (b:Nat)]) (i:=k) (λ_=>rfl) (hA'.ext hs3) rfl rfl hlt λa23 h23=>?_
 refine Zd ((sets c.cel)[k]'hlt) λy hy=>?_
 rw[hy] at h23 hbk hr
 refine x (Qv h23 rfl)<|Qe<|Qw<|Qb<|Qb<|x (Qaf (a:=b) (b:=y) rfl rfl hb hbk)<|Qe<|Qw<|QO rfl rfl<|Qb<|xe ?_
 exact ⟨(k+1,b &&& (65535 ^^^ y)),by simp only[];omega,⟨rfl,rfl,trivial⟩,hlt,hs3,Nat.lt_of_le_of_lt Nat.and_le_left hb,hr⟩
theorem Qhj {L:LN}{w:World}{v:Value}{b1:Nat}{c:Zv}{es:LN}{g:Nat}{fn:Func}[Fu prog g fn] {cap:LV}{q:Nat→Bool}(h:Zj L w.heap v es.length 3 (es.flatMap (yl b1 c)))
  (hk:∀(m:Nat) (w1:World),Step [] w w1→QJ prog g ([.agg (yl b1 c m).toArray]++cap) w1 λr w'=>r=.bool (q m)∧Step [] w1 w') :
  QJ prog 62 [v,.func (.func g) #[] cap.toArray] w λr w'=>Step [] w w'∧∃i:Int,r=.int .i64 i∧((i=-1∧∀m∈es,q m=false)∨∃k:Nat,∃m,es[k]?=some m∧i=(k:Int)∧q m=true):=by
 have hle:=h.le
 refine QJ.of_W func62 rfl ntmps62 results62 (by simp) ?_
 refine Qc<|Qe<|Qf<|Qc<|Qb<|x (Qr h rfl)<|Qb<|xe ?_
 refine Qg<|QA (α:=Nat) [(4,5),(8,18)] (λz=>[(8,.int .i64 z)]) (λz w'=>z≤es.length∧Step [] w w'∧∀m∈es.take z,q m=false) (λz=>es.length - z) (by rfl) 0 ⟨rfl,trivial⟩ ⟨Nat.zero_le _,Step.refl _ _,λm hm=>by simp at hm⟩ ?_
 rintro k g' w1 ⟨hk',hs1,hq1⟩
 refine Qc<|x (QB rfl rfl)<|xe ?_
 refine Qf<|QG rfl (λh9=>?_) (λh9=>?_)
 ·refine Qx ?_
  have hke:es.length≤k:=by have h16:¬(k:Int)<(es.length:Int):=h9;omega
  rw[List.take_of_length_le hke] at hq1
  refine Qc<|Qe ?_
  exact Ql ⟨[.int .i64 (-1)],⟨rfl,trivial⟩,hs1,-1,rfl,.inl ⟨rfl,hq1⟩⟩
 have hlt:k<es.length:=by have h16:(k:Int)<(es.length:Int):=h9;omega
 have htk:es.take (k+1)=es.take k++[es[k]'hlt]:=List.take_succ_eq_append_getElem hlt
 have hget:es[k]?=some (es[k]'hlt):=List.getElem?_eq_getElem hlt
 refine Qi<|Qf<|Qg<|Qc<|Qb<|Qe<|Qc<|Qb<|Qb<|Qb<|xig (g:=yl b1 c) (i:=k) (Uj b1 c) (h.ext hs1) rfl rfl hlt λa14 h14=>?_
 refine Zd (es[k]'hlt) λm hm=>?_
 rw[hm] at h14 htk hget
 refine x (QC h14 rfl rfl)<|xl rfl<|xc (first:=[]) (capt:=cap) rfl<|(hk m w1 hs1).mono ?_
 rintro r2 w2 ⟨rfl,hs2⟩
 refine xe ?_
 refine Q5 rfl (λh16=>?_) (λh16=>?_)
 ·refine Qc<|Qb<|Qe ?_
  exact Ql ⟨[.int .i64 k],⟨rfl,trivial⟩,hs1.trans hs2,k,rfl,.inr ⟨k,m,hget,rfl,h16⟩⟩
 refine Qi<|Qw<|QO rfl rfl<|Qb<|xe ?_
 refine ⟨k+1,by omega,⟨rfl,trivial⟩,hlt,hs1.trans hs2,λm' hm'=>?_⟩
 rw[htk] at hm'
 rcases List.mem_append.1 hm' with h1 | h1
 ·exact hq1 m' h1
 ·simp only[List.mem_singleton] at h1;subst h1;exact h16
theorem QhR {w:World}{b1 b3 m:Nat}{c:Zv}{q:MV}(hB:Q2 w.heap b3 39 (Zp q)) :
  QJ prog 63 [.agg (yl b1 c m).toArray,.pointer (some ⟨b3,0,none⟩)] w λr w'=>r=.bool (decide ((m:Int)+1=q.kd))∧Step [] w w':=by
 refine QJ.of_W func63 rfl ntmps63 results63 (by simp) ?_
 refine Qc<|xl rfl<|QQ (us:=yl b1 c m) rfl λb2 w1 hs1 hb2 hB2=>Qe<|Qc<|x (Qa rfl)<|x (Qd hB2 rfl rfl)<|x (Qa rfl)<|x (Qd (hB.ext hs1) rfl rfl)<|x (Q7 rfl rfl)<|Qe ?_
 exact Ql ⟨[_],⟨rfl,trivial⟩,rfl,hs1⟩
set_option maxHeartbeats 4000000 in
theorem QcG {L:LN}{w:World}{c:CL}{q:MV}(h0:Zu L w.heap c) (hm0:QL L w.heap q.v q.co) :
  QJ prog 17 [c.val,.agg #[.int .i64 q.kd,.int .i64 q.ix,q.v]] w λr w'=>r=.int .i64 (mdE c.cel q.m)∧Step [] w w':=by
 have h:=h0.up (L':=[]) (by simp)
 have hm:=hm0.up (L':=[]) (by simp)
 have hr:mdE c.cel q.m=if Zi c.cel≠0 then Zi c.cel else if q.kd<1∨3<q.kd then 11 else if q.ix<0∨((srK c.cel q.kd).length:Int)≤q.ix then 10 else if q.co=setK ((srK c.cel q.kd).getD q.ix.toNat 0) 8 then 0 else 13:=rfl
 refine Zd (mdE c.cel q.m) λE hE=>?_
 rw[hE] at hr ⊢
 refine QJ.of_W func17 rfl ntmps17 results17 (by simp) ?_
 refine Qc<|xl rfl<|QQ (us:=c.cells) rfl λb2 w1 hs1 hb2 hB2=>xl rfl<|QQ (us:=Zp q) rfl λb3 w2 hs2 hb3 hB3=>Qe ?_
 have hs02:=hs1.trans hs2
 refine Qf<|Qc<|x (Qq (hB2.ext hs2) rfl rfl)<|xl rfl<|xf<|(YO (h.ext hs02)).mono ?_
 rintro r3 w3 ⟨rfl,hs3⟩
 refine Qe ?_
 have hs03:=hs02.trans hs3
 have hB23:=(hB2.ext hs2).ext hs3
 have hB33:=hB3.ext hs3
 refine Qc<|Qb<|x (Q8 rfl rfl)<|xe ?_
 refine Q4 rfl (λh11=>?_) (λh11=>?_)
 ·rw[if_pos h11] at hr
  subst hr
  refine Qc<|Qb<|Qe ?_
  exact Ql ⟨[_],⟨rfl,trivial⟩,rfl,hs03⟩
 rw[if_neg h11] at hr
 have hok:V0 c.cel:=(ZV (Decidable.not_not.1 h11)).sr
 refine Qi<|Qc<|x (Qq hB23 rfl rfl)<|xl rfl<|xf<|(Ke (h.ext hs03)).mono ?_
 rintro r4 w4 ⟨hs4,c1,bs,hS⟩
 have hrS:=hS.r
 subst hrS
 refine Qe ?_
 have hs04:=hs03.trans hs4
 have hB34:=hB33.ext hs4
 have hA:Zj [] w4.heap (.slice (some ⟨bs,0,none⟩) 3 3) [0,1,2].length 3 ([0,1,2].flatMap (yl c1 c.cel)):=hS.B.arr (by simp) (n:=3) (cap:=3) (sz:=3) (by rfl) (by omega) (Nat.le_refl _)
 refine Qc<|Qb<|x (Zr (l:=[]) (l':=[_]))<|xl rfl<|xf<|(Qhj (q:=λm=>decide ((m:Int)+1=q.kd)) (cap:=[.pointer (some ⟨b3,0,none⟩)]) hA (λm w5 hs5=>QhR (hB34.ext hs5))).mono ?_
 rintro r5 w5 ⟨hs5,i,rfl,hi⟩
 refine Qe ?_
 have hs05:=hs04.trans hs5
 have hB35:=hB34.ext hs5
 have hA5:=hA.ext hs5
 have hB15:Q2 w5.heap c1 47 c.cells:=hS.B1.ext hs5
 refine Qf<|Qg<|Qc<|Qb<|x (QB rfl rfl)<|Qe<|Q4 rfl (λh18=>?_) (λh18=>?_)
 ·have hkd:q.kd<1∨3<q.kd:=by
   rcases hi with ⟨_,hi⟩ | ⟨k,m,_,hi,_⟩
   ·have e0:=of_decide_eq_false (hi 0 (by simp))
    have e1:=of_decide_eq_false (hi 1 (by simp))
    have e2:=of_decide_eq_false (hi 2 (by simp))
    omega
   ·have h19:i<0:=h18
    omega
  rw[if_pos hkd] at hr
  subst hr
  refine Qc<|Qe ?_
  exact Ql ⟨[_],⟨rfl,trivial⟩,rfl,hs05⟩
 obtain ⟨m,hm3,him,hkd⟩:∃m:Nat,m<3∧i=(m:Int)∧q.kd=(m:Int)+1:=by
  rcases hi with ⟨hi,_⟩ | ⟨k,m,hk,hi,hq⟩
  ·exact absurd (by rw[hi];decide:i<0) h18
  ·have hq':=of_decide_eq_true hq
   obtain ⟨hk3,hk⟩:=List.getElem?_eq_some_iff.1 hk
   have hk3':k<3:=hk3
   have hmk:m=k:=by rcases k with _ | _ | _ | k <;> first | exact hk.symm | omega
   exact ⟨k,hk3',hi,by omega⟩
 subst him
 rw[if_neg (by omega),show srK c.cel q.kd=Y7 c.cel m by rw[hkd]] at hr
 have hgl:=KC hok hm3
 have hgm:([0,1,2]:LN)[m]'hm3=m:=by rcases m with _ | _ | _ | m <;> first | rfl | omega
 refine QU (α:=Bool) [(21,34)] (λz=>[(21,.bool z)]) (λz w'=>Step [] w5 w'∧z=decide (q.ix<0∨((Y7 c.cel m).length:Int)≤q.ix)) (by rfl) ?_ ?_
 ·refine QS (Step [] w5) [(0,true),(1,true),(2,true),(3,true),(4,true),(5,true),(6,true),(7,true),(8,true),(9,true),(10,true),(11,true),(12,true),(13,true)] mixed (by rfl) (by kernel_rfl) (Step.drew _ _) ?_
  refine p (λ_=>Qa rfl)<|pq (λ_ hc=>Qd (hB35.ext hc) rfl rfl)<|pb (λ_=>QB rfl rfl) (λh24=>?_) (λh24=>?_)
  ·refine p (λ_=>Qo)<|ps<|ps<|ps<|ps<|ps<|ps<|ps<|ps<|p (λ_=>Qm rfl)<|p (λ_=>Qh)<|pe ?_
   have h25:q.ix<0:=h24
   exact ⟨true,⟨rfl,trivial⟩,Step.drew _ _,by rw[decide_eq_true (.inl h25)]⟩
  refine p (λ_=>Qo)<|p (λ_=>Qa rfl)<|pq (λ_ hc=>Qd (hB35.ext hc) rfl rfl)<|p (λ_=>Qo)<|p (λ_=>Qo) <|
   Go.Lg.pig (g:=yl c1 c.cel) (i:=m) rfl (Uj c1 c.cel) hA5 rfl rfl hm3 λa30 h30=>?_
  rw[hgm] at h30
  refine p (λ_=>Zc rfl)<|pq (λ_ hc=>Qv ((h30.fld 1 (.int .i64 (Y7 c.cel m).length) rfl).st hc) rfl)<|p (λ_=>ZR rfl rfl) <|
   p (λ_=>Qm rfl)<|p (λ_=>Qh)<|pe ?_
  have h25:¬q.ix<0:=h24
  refine ⟨decide (((Y7 c.cel m).length:Int)≤q.ix),⟨rfl,trivial⟩,Step.drew _ _,?_⟩
  rw[decide_eq_decide]
  exact ⟨.inr,λh=>h.resolve_left h25⟩
 rintro z g w6 ⟨hs6,hz⟩
 have hs06:=hs05.trans hs6
 refine Q5 rfl (λh21=>?_) (λh21=>?_)
 ·rw[if_pos (of_decide_eq_true (hz.symm.trans h21))] at hr
  subst hr
  refine Qc<|Qe ?_
  exact Ql ⟨[_],⟨rfl,trivial⟩,rfl,hs06⟩
 have hnix:=of_decide_eq_false (hz.symm.trans h21)
 rw[if_neg hnix] at hr
 have hixn:q.ix=(q.ix.toNat:Int):=by omega
 have hixl:q.ix.toNat<(Y7 c.cel m).length:=by omega
 have hgd:(Y7 c.cel m).getD q.ix.toNat 0=(Y7 c.cel m)[q.ix.toNat]'hixl:=by simp[List.getD,hixl]
 have hbl:=Uk hok hm3 _ (List.getElem_mem hixl)
 rw[hgd] at hr
 have hB36:=hB35.ext hs6
 have hA6:=hA5.ext hs6
 have hd6:Step [] w6 { w6 with drawn:=w6.drawn+1 }:=Step.drew _ _
 have hs06d:=hs06.trans hd6
 have hcallA:∀{w':World},Step [] w6 w'→QJ prog (gK m) [.int .i64 q.ix,.pointer (some ⟨c1,0,none⟩)] w' λr w''=>r=.int .u16 ((Y7 c.cel m)[q.ix.toNat]'hixl:Nat)∧Step [] w' w'':=by
  intro w' hs
  have:=j3 ((hB15.ext hs6).ext hs) ((h.ext hs06).ext hs) hok hm3 hixl
  rw[←hixn] at this
  exact this
 refine Qf<|QS (Step [] w6) [(0,true),(1,true),(2,true),(3,true),(4,true),(5,true),(6,true),(7,true),(8,true),(9,false),(10,false),(11,false),(12,true),(13,true)] mixed (by rfl) (by kernel_rfl) (Step.drew _ _) ?_
 refine p (λ_=>Qa rfl)<|pq (λ_ hc=>Qd (hB36.ext hc) rfl rfl)<|p (λ_=>Qo)<|p (λ_=>Qo)<|Go.Lg.pig (g:=yl c1 c.cel) (i:=m) rfl (Uj c1 c.cel) hA6 rfl rfl hm3 λa40 h40=>?_
 rw[hgm] at h40
 refine p (λ_=>Zc rfl)<|pq (λ_ hc=>Qv ((h40.fld 2 (.func (.func (gK m)) #[] #[.pointer (some ⟨c1,0,none⟩)]) rfl).st hc) rfl)<|p (λ_=>Qa rfl)<|pq (λ_ hc=>Qd (hB36.ext hc) rfl rfl) <|
  pk<|xcG (first:=[]) (capt:=[.pointer (some ⟨c1,0,none⟩)]) (Qe5 m) rfl<|(hcallA hd6).mono ?_
 rintro r7 w7 ⟨rfl,hs7⟩
 refine Zd ((Y7 c.cel m)[q.ix.toNat]'hixl) λbv hbv=>?_
 rw[hbv] at hr hbl ⊢
 have hs67:=hd6.trans hs7
 refine ⟨hs67,?_⟩
 refine pk<|xf<|(zS bv hbl w7).mono ?_
 rintro r8 w8 ⟨hs8,ho8⟩
 have hs68:=hs67.trans hs8
 refine ⟨hs68,?_⟩
 have hkl:=YR bv 8
 refine pk<|xf<|(JZ (hm.ext (hs06.trans hs68)) (Qu.ints (L:=[]) ho8 (by omega) (by simp))).mono ?_
 rintro r9 w9 ⟨rfl,hs9⟩
 refine ⟨hs68.trans hs9,?_⟩
 refine p (λ_=>Zn rfl)<|p (λ_=>Qh)<|pe ?_
 have hs09:=(hs06.trans hs68).trans hs9
 refine Q5 rfl (λh35=>?_) (λh35=>?_)
 ·have hne:¬q.co=setK bv 8:=by
   intro e
   have h36:(!decide (q.co=setK bv 8))=true:=h35
   rw[decide_eq_true e] at h36;cases h36
  rw[if_neg hne] at hr
  subst hr
  refine Qc<|Qe ?_
  exact Ql ⟨[_],⟨rfl,trivial⟩,rfl,hs09⟩
 have heq:q.co=setK bv 8:=by
  refine Decidable.byContradiction λe=>?_
  have h36:(!decide (q.co=setK bv 8))=false:=h35
  rw[decide_eq_false e] at h36;cases h36
 rw[if_pos heq] at hr
 subst hr
 refine Qi<|Qc<|Qe ?_
 exact Ql ⟨[_],⟨rfl,trivial⟩,rfl,hs09⟩
end Go.Proofs.YtdffckgdcegpaaaGreatDoor
namespace Go.Lg
section
variable {P:Program} {f:Fr} {w:World} {d:Option Nat} {ty:Nat} {ps:String} {af:Array Edge} {gd:Option (Nat×Bool)}
def Slf (P:Program) (t:Nat) (v:Value):Prop:=(∀w,(isAgg t).run P w=.ok false w)∧∀m w,(Op.equalIn (m+1) t v v).run P w=.ok true w
theorem zp {t:Nat}{n:Int}(h:P.underlying t=some (.int .i64)):Slf P t (.int .i64 n):=⟨λw=>by simp[isAgg,run_underlying h],λm w=>by simp[Op.equalIn,run_underlying h]⟩
theorem QgA {t:Nat}{n:ByteArray}(h:P.underlying t=some .string):Slf P t (.string n):=⟨λw=>by simp[isAgg,run_underlying h],λm w=>by simp[Op.equalIn,run_underlying h]⟩
theorem Ul {t:Nat}{n:Bool}(h:P.underlying t=some .bool):Slf P t (.bool n):=⟨λw=>by simp[isAgg,run_underlying h],λm w=>by simp[Op.equalIn,run_underlying h]⟩
theorem Xg {t k:Nat}{v:Value}{l:LV}(h:Slf P t v) (hk:l[k]?=some v) (w:World):(part t l.toArray k).run P w=.ok v w:=by
 have e:l.toArray[k]?=some v:=by simpa using hk
 simp[part,h.1 w,e]
class S2 (P:Program) (t:Nat):Prop where
 u:∃f0 f1,P.underlying t=some (.struct #[f0,f1])∧f0.name ≠ "_" ∧ f1.name ≠ "_" ∧ f0.offset=0∧f1.offset=1∧P.underlying f0.type=some (.int .i64)∧P.underlying f1.type=some (.int .i64)
 s:P.stoodInHeld t=false
 g:P.eqGuardType P.depth t=false
abbrev i2 (p:Int×Int):LV:=[.int .i64 p.1,.int .i64 p.2]
theorem zx {t:Nat}[h:S2 P t] (w:World) (p:Int×Int):(Op.equal t (.agg (i2 p).toArray) (.agg (i2 p).toArray)).run P w=.ok true w:=by
 obtain ⟨a,b⟩:=p
 obtain ⟨f0,f1,hu,n0,n1,o0,o1,u0,u1⟩:=h.u
 have s0:Slf P f0.type (.int .i64 a):=zp u0
 have s1:Slf P f1.type (.int .i64 b):=zp u1
 have key:∀m,(Op.equalIn (m+2) t (.agg (i2 (a,b)).toArray) (.agg (i2 (a,b)).toArray)).run P w=.ok true w:=by
  intro m
  have p0:=λw=>Xg s0 (l:=i2 (a,b)) (k:=0) rfl w
  have p1:=λw=>Xg s1 (l:=i2 (a,b)) (k:=1) rfl w
  unfold Op.equalIn
  simp only[Sem.run_bind,run_underlying hu,Result.andThen_ok]
  simp[h.s,n0,n1,o0,o1,p0,p1,s0.2,s1.2] at p0 p1 ⊢
 exact key 9998
theorem yK {t t':Nat}[h:S2 P t] {x y:Operand}{p:Int×Int}(hx:ev f x=.agg (i2 p).toArray) (hy:ev f y=.agg (i2 p).toArray) :
  (execOp (ev f) ⟨d,.binOp .neq t x y t',ty,ps,af,gd⟩).run P w=.ok (.value (.bool false)) w:=by
 have hg:(eqGuard .neq t x y (.agg (i2 p).toArray) (.agg (i2 p).toArray)).run P w=.ok () w:=by simp[eqGuard,h.g]
 simp only[execOp,hx,hy,Sem.run_bind,hg,Result.andThen_ok,binOp,zx,Sem.run_pure]
 rfl
class S5 (P:Program) (t:Nat):Prop where
 u:∃f0 f1 f2 f3 f4,P.underlying t=some (.struct #[f0,f1,f2,f3,f4])∧(f0.name ≠ "_" ∧ f1.name ≠ "_" ∧ f2.name ≠ "_" ∧ f3.name ≠ "_" ∧ f4.name ≠ "_")∧(f0.offset=0∧f1.offset=1∧f2.offset=2∧f3.offset=3∧f4.offset=4) ∧
  P.underlying f0.type=some .string∧P.underlying f1.type=some .bool∧P.underlying f2.type=some .bool∧P.underlying f3.type=some .bool∧P.underlying f4.type=some (.int .i64)
 s:P.stoodInHeld t=false
 g:P.eqGuardType P.depth t=false
abbrev i5 (a:ByteArray) (b c e:Bool) (i:Int):LV:=[.string a,.bool b,.bool c,.bool e,.int .i64 i]
theorem zu {t:Nat}[h:S5 P t] (w:World) (a:ByteArray) (b c e:Bool) (i:Int):(Op.equal t (.agg (i5 a b c e i).toArray) (.agg (i5 a b c e i).toArray)).run P w=.ok true w:=by
 obtain ⟨f0,f1,f2,f3,f4,hu,⟨n0,n1,n2,n3,n4⟩,⟨o0,o1,o2,o3,o4⟩,u0,u1,u2,u3,u4⟩:=h.u
 have s0:Slf P f0.type (.string a):=QgA u0
 have s1:Slf P f1.type (.bool b):=Ul u1
 have s2:Slf P f2.type (.bool c):=Ul u2
 have s3:Slf P f3.type (.bool e):=Ul u3
 have s4:Slf P f4.type (.int .i64 i):=zp u4
 have key:∀m,(Op.equalIn (m+2) t (.agg (i5 a b c e i).toArray) (.agg (i5 a b c e i).toArray)).run P w=.ok true w:=by
  intro m
  have p0:=λw=>Xg s0 (l:=i5 a b c e i) (k:=0) rfl w
  have p1:=λw=>Xg s1 (l:=i5 a b c e i) (k:=1) rfl w
  have p2:=λw=>Xg s2 (l:=i5 a b c e i) (k:=2) rfl w
  have p3:=λw=>Xg s3 (l:=i5 a b c e i) (k:=3) rfl w
  have p4:=λw=>Xg s4 (l:=i5 a b c e i) (k:=4) rfl w
  unfold Op.equalIn
  simp only[Sem.run_bind,run_underlying hu,Result.andThen_ok]
  simp[h.s,n0,n1,n2,n3,n4,o0,o1,o2,o3,o4] at p0 p1 p2 p3 p4 ⊢
  simp[p0,p1,p2,p3,p4,s0.2,s1.2,s2.2,s3.2,s4.2]
 exact key 9998
theorem Qd4 {t t':Nat}[h:S5 P t] {x y:Operand}{a:ByteArray}{b c e:Bool}{i:Int}(hx:ev f x=.agg (i5 a b c e i).toArray) (hy:ev f y=.agg (i5 a b c e i).toArray) :
  (execOp (ev f) ⟨d,.binOp .neq t x y t',ty,ps,af,gd⟩).run P w=.ok (.value (.bool false)) w:=by
 have hg:(eqGuard .neq t x y (.agg (i5 a b c e i).toArray) (.agg (i5 a b c e i).toArray)).run P w=.ok () w:=by simp[eqGuard,h.g]
 simp only[execOp,hx,hy,Sem.run_bind,hg,Result.andThen_ok,binOp,zu,Sem.run_pure]
 rfl
end
end Go.Lg
namespace Go.Proofs.YtdffckgdcegpaaaGreatDoor
open Go.Proofs.Tryz
open Go.Lg
instance s2Loc:S2 prog 124:=⟨⟨_,_,underlying124,by decide,by decide,rfl,rfl,underlying3,underlying3⟩,by kernel_rfl,by kernel_rfl⟩
instance s2Trm:S2 prog 129:=⟨⟨_,_,underlying129,by decide,by decide,rfl,rfl,underlying3,underlying3⟩,by kernel_rfl,by kernel_rfl⟩
instance s5Evt:S5 prog 87:=⟨⟨_,_,_,_,_,underlying87,by decide,by decide,underlying9,underlying4,underlying4,underlying4,underlying3⟩,by kernel_rfl,by kernel_rfl⟩
theorem QaE {L L':LN}{w:World}{v v':Value}{l:List J3}(h:Zj L w.heap v l.length 5 (l.flatMap Zf)) (h':Zj L' w.heap v' l.length 5 (l.flatMap Zf)) :
  QJ prog 86 [v,v'] w λr w'=>r=.bool true∧Step [] w w':=by
 have hle:=h.le
 refine QJ.of_W func86 rfl ntmps86 results86 (by simp) ?_
 refine Qc<|Qe<|Qf<|Qc<|Qb<|x (Qr h rfl)<|Qb<|x (Qr h' rfl)<|x (Q8 rfl rfl)<|xe ?_
 refine Q4 rfl (λh10=>absurd rfl h10) (λh10=>?_)
 refine Qi<|Qf<|Qc<|Qb<|x (Qr h rfl)<|Qb<|xe ?_
 refine Qg<|QA (α:=Nat) [(4,5),(13,25)] (λk=>[(13,.int .i64 k)]) (λk w'=>Step [] w w'∧k≤l.length) (λk=>l.length - k) (by rfl) 0 ⟨rfl,trivial⟩ ⟨Step.refl _ _,Nat.zero_le _⟩ ?_
 rintro k g w1 ⟨hs,hk⟩
 replace h:=h.ext hs
 replace h':=h'.ext hs
 refine Qc<|x (QB rfl rfl)<|xe ?_
 refine Qf<|QG rfl (λh14=>?_) (λh14=>?_)
 ·refine Qx ?_
  refine Qc<|Qe ?_
  exact Ql ⟨[.bool true],⟨rfl,trivial⟩,rfl,hs⟩
 have hlt:k<l.length:=by omega
 refine Qi<|Qf<|Qg<|Qc<|Qb<|Qe<|Qf<|QS (Step [] w1) [(0,true),(1,true),(2,true),(3,true),(4,true),(5,true),(6,true),(7,true),(8,true)] mixed (by rfl) (by kernel_rfl) (Step.drew _ _) ?_
 refine p (λ_=>Qo)<|p (λ_=>Qo)<|Lg.pig (g:=Zf) (i:=k) rfl K5 h rfl rfl hlt λa18 h18=>pq (λ_ hc=>QC (h18.ext hc) rfl rfl) <|
  p (λ_=>Qo)<|p (λ_=>Qo)<|Lg.pig (g:=Zf) (i:=k) rfl K5 h' rfl rfl hlt λa22 h22=>pq (λ_ hc=>QC (h22.ext hc) rfl rfl)<|p (λ_=>Qd4 (a:=(l[k]'hlt).nm) (b:=(l[k]'hlt).co) (c:=(l[k]'hlt).ob) (e:=(l[k]'hlt).fo) (i:=(l[k]'hlt).fl) rfl rfl)<|pe ?_
 have hs':=hs.trans (Step.drew [] w1)
 refine Zy rfl ?_
 refine Qi<|Qw<|QO rfl rfl<|Qb<|xe ?_
 exact ⟨k+1,by omega,⟨rfl,trivial⟩,hs',by omega⟩
theorem QaD {L L':LN}{w:World}{v v':Value}{l:List (Int×Int)}(h:Zj L w.heap v l.length 2 (l.flatMap QN)) (h':Zj L' w.heap v' l.length 2 (l.flatMap QN)) :
  QJ prog 90 [v,v'] w λr w'=>r=.bool true∧Step [] w w':=by
 have hle:=h.le
 refine QJ.of_W func90 rfl ntmps90 results90 (by simp) ?_
 refine Qc<|Qe<|Qf<|Qc<|Qb<|x (Qr h rfl)<|Qb<|x (Qr h' rfl)<|x (Q8 rfl rfl)<|xe ?_
 refine Q4 rfl (λh10=>absurd rfl h10) (λh10=>?_)
 refine Qi<|Qf<|Qc<|Qb<|x (Qr h rfl)<|Qb<|xe ?_
 refine Qg<|QA (α:=Nat) [(4,5),(13,25)] (λk=>[(13,.int .i64 k)]) (λk w'=>Step [] w w'∧k≤l.length) (λk=>l.length - k) (by rfl) 0 ⟨rfl,trivial⟩ ⟨Step.refl _ _,Nat.zero_le _⟩ ?_
 rintro k g w1 ⟨hs,hk⟩
 replace h:=h.ext hs
 replace h':=h'.ext hs
 refine Qc<|x (QB rfl rfl)<|xe ?_
 refine Qf<|QG rfl (λh14=>?_) (λh14=>?_)
 ·refine Qx ?_
  refine Qc<|Qe ?_
  exact Ql ⟨[.bool true],⟨rfl,trivial⟩,rfl,hs⟩
 have hlt:k<l.length:=by omega
 refine Qi<|Qf<|Qg<|Qc<|Qb<|Qe<|Qf<|QS (Step [] w1) [(0,true),(1,true),(2,true),(3,true),(4,true),(5,true),(6,true),(7,true),(8,true)] mixed (by rfl) (by kernel_rfl) (Step.drew _ _) ?_
 refine p (λ_=>Qo)<|p (λ_=>Qo)<|Lg.pig (g:=QN) (i:=k) rfl ZZ h rfl rfl hlt λa18 h18=>pq (λ_ hc=>QC (h18.ext hc) rfl rfl) <|
  p (λ_=>Qo)<|p (λ_=>Qo)<|Lg.pig (g:=QN) (i:=k) rfl ZZ h' rfl rfl hlt λa22 h22=>pq (λ_ hc=>QC (h22.ext hc) rfl rfl)<|p (λ_=>yK (p:=l[k]'hlt) rfl rfl)<|pe ?_
 have hs':=hs.trans (Step.drew [] w1)
 refine Zy rfl ?_
 refine Qi<|Qw<|QO rfl rfl<|Qb<|xe ?_
 exact ⟨k+1,by omega,⟨rfl,trivial⟩,hs',by omega⟩
theorem QaC {L L':LN}{w:World}{v v':Value}{l:List (Int×Int)}(h:Zj L w.heap v l.length 2 (l.flatMap QN)) (h':Zj L' w.heap v' l.length 2 (l.flatMap QN)) :
  QJ prog 93 [v,v'] w λr w'=>r=.bool true∧Step [] w w':=by
 have hle:=h.le
 refine QJ.of_W func93 rfl ntmps93 results93 (by simp) ?_
 refine Qc<|Qe<|Qf<|Qc<|Qb<|x (Qr h rfl)<|Qb<|x (Qr h' rfl)<|x (Q8 rfl rfl)<|xe ?_
 refine Q4 rfl (λh10=>absurd rfl h10) (λh10=>?_)
 refine Qi<|Qf<|Qc<|Qb<|x (Qr h rfl)<|Qb<|xe ?_
 refine Qg<|QA (α:=Nat) [(4,5),(13,25)] (λk=>[(13,.int .i64 k)]) (λk w'=>Step [] w w'∧k≤l.length) (λk=>l.length - k) (by rfl) 0 ⟨rfl,trivial⟩ ⟨Step.refl _ _,Nat.zero_le _⟩ ?_
 rintro k g w1 ⟨hs,hk⟩
 replace h:=h.ext hs
 replace h':=h'.ext hs
 refine Qc<|x (QB rfl rfl)<|xe ?_
 refine Qf<|QG rfl (λh14=>?_) (λh14=>?_)
 ·refine Qx ?_
  refine Qc<|Qe ?_
  exact Ql ⟨[.bool true],⟨rfl,trivial⟩,rfl,hs⟩
 have hlt:k<l.length:=by omega
 refine Qi<|Qf<|Qg<|Qc<|Qb<|Qe<|Qf<|QS (Step [] w1) [(0,true),(1,true),(2,true),(3,true),(4,true),(5,true),(6,true),(7,true),(8,true)] mixed (by rfl) (by kernel_rfl) (Step.drew _ _) ?_
 refine p (λ_=>Qo)<|p (λ_=>Qo)<|Lg.pig (g:=QN) (i:=k) rfl ZZ h rfl rfl hlt λa18 h18=>pq (λ_ hc=>QC (h18.ext hc) rfl rfl) <|
  p (λ_=>Qo)<|p (λ_=>Qo)<|Lg.pig (g:=QN) (i:=k) rfl ZZ h' rfl rfl hlt λa22 h22=>pq (λ_ hc=>QC (h22.ext hc) rfl rfl)<|p (λ_=>yK (p:=l[k]'hlt) rfl rfl)<|pe ?_
 have hs':=hs.trans (Step.drew [] w1)
 refine Zy rfl ?_
 refine Qi<|Qw<|QO rfl rfl<|Qb<|xe ?_
 exact ⟨k+1,by omega,⟨rfl,trivial⟩,hs',by omega⟩
theorem QbO {L L':LN}{w:World}{v v':Value}{l l':List IV}{gf:Nat}{fn:Func}[Fu prog gf fn] (hn:l.length=l'.length) (h:Zj L w.heap v l.length 5 (l.flatMap QW)) (h':Zj L' w.heap v' l'.length 5 (l'.flatMap QW))
  (h1:∀q∈l,Zw (QW q)) (h1':∀q∈l',Zw (QW q)) (hk:∀(k:Nat) (h:k<l.length) (h':k<l'.length) (w1:World),Step [] w w1→QJ prog gf [.agg (QW (l[k]'h)).toArray,.agg (QW (l'[k]'h')).toArray] w1 λr w'=>r=.bool true∧Step [] w1 w') :
  QJ prog 87 [v,v',.func (.func gf) #[] #[]] w λr w'=>r=.bool true∧Step [] w w':=by
 have hle:=h.le
 refine QJ.of_W func87 rfl ntmps87 results87 (by simp) ?_
 refine Qc<|Qe<|Qf<|Qc<|Qb<|x (Qr h rfl)<|Qb<|x (Qr h' rfl)<|x (Q8 rfl rfl)<|xe ?_
 refine Q4 rfl (λh10=>absurd (show (l.length:Int)=(l'.length:Int) by omega) h10) (λh10=>?_)
 refine Qi<|Qf<|Qc<|Qb<|x (Qr h rfl)<|Qb<|xe ?_
 refine Qg<|QA (α:=Nat) [(6,9),(17,31)] (λk=>[(17,.int .i64 k)]) (λk w'=>Step [] w w'∧k≤l.length) (λk=>l.length - k) (by rfl) 0 ⟨rfl,trivial⟩ ⟨Step.refl _ _,Nat.zero_le _⟩ ?_
 rintro k g w1 ⟨hs,hk1⟩
 refine Qc<|x (QB rfl rfl)<|xe ?_
 refine Qf<|QG rfl (λh14=>?_) (λh14=>?_)
 ·refine Qx ?_
  refine Qc<|Qe ?_
  exact Ql ⟨[.bool true],⟨rfl,trivial⟩,rfl,hs⟩
 have hlt:k<l.length:=by omega
 have hlt':k<l'.length:=by omega
 have hkk:=hk k hlt hlt'
 have hm:=h1 _ (List.getElem_mem hlt)
 have hm':=h1' _ (List.getElem_mem hlt')
 refine Qi<|Qf<|Qg<|Qc<|Qb<|xig (g:=QW) (i:=k) Yq (h.ext hs) rfl rfl hlt λa20 h20=>?_
 refine Zd (l[k]'hlt) λq hq=>?_
 rw[hq] at h20 hkk hm
 refine x (QC h20 rfl rfl)<|xl rfl<|Qt (us:=[.string .empty,nS,.int .i64 0,nS,nS]) rfl λb8 w2 hs2 hb8 hB8=>x Qh<|xl rfl<|Qn (us:=QW q) hB8 rfl rfl rfl rfl hm λw3 hs3 hB83=>xe ?_
 have hs13:Step [] w1 w3:=hs2.then1 hs3 hb8
 refine Qc<|Qb<|Qb<|xig (g:=QW) (i:=k) Yq ((h'.ext hs).ext hs13) rfl rfl hlt' λa24 h24=>?_
 refine Zd (l'[k]'hlt') λq' hq'=>?_
 rw[hq'] at h24 hkk hm'
 refine x (QC h24 rfl rfl)<|xl rfl<|Qt (us:=[.string .empty,nS,.int .i64 0,nS,nS]) rfl λb9 w4 hs4 hb9 hB9=>xl rfl<|Qn (us:=QW q') hB9 rfl rfl rfl rfl hm' λw5 hs5 hB95=>xe ?_
 have hs35:Step [] w3 w5:=hs4.then1 hs5 hb9
 refine Qc<|Qb<|x (Qq (hB83.ext hs35) rfl rfl)<|x (Qq hB95 rfl rfl)<|xl rfl<|xc (first:=[]) (capt:=[]) rfl<|(hkk w5 ((hs.trans hs13).trans hs35)).mono ?_
 rintro r6 w6 ⟨rfl,hs6⟩
 refine x (Zn rfl)<|xe ?_
 refine Zy rfl ?_
 refine Qi<|Qw<|QO rfl rfl<|Qb<|xe ?_
 exact ⟨k+1,by omega,⟨rfl,trivial⟩,((hs.trans hs13).trans hs35).trans hs6,by omega⟩
theorem QhA {L L':LN}{w:World}{v v':Value}{l l':List XV}{gf:Nat}{fn:Func}[Fu prog gf fn] (hn:l.length=l'.length) (h:Zj L w.heap v l.length 2 (l.flatMap Q9)) (h':Zj L' w.heap v' l'.length 2 (l'.flatMap Q9))
  (h1:∀q∈l,Zw (Q9 q)) (h1':∀q∈l',Zw (Q9 q)) (hk:∀(k:Nat) (h:k<l.length) (h':k<l'.length) (w1:World),Step [] w w1→QJ prog gf [.agg (Q9 (l[k]'h)).toArray,.agg (Q9 (l'[k]'h')).toArray] w1 λr w'=>r=.bool true∧Step [] w1 w') :
  QJ prog 88 [v,v',.func (.func gf) #[] #[]] w λr w'=>r=.bool true∧Step [] w w':=by
 have hle:=h.le
 refine QJ.of_W func88 rfl ntmps88 results88 (by simp) ?_
 refine Qc<|Qe<|Qf<|Qc<|Qb<|x (Qr h rfl)<|Qb<|x (Qr h' rfl)<|x (Q8 rfl rfl)<|xe ?_
 refine Q4 rfl (λh10=>absurd (show (l.length:Int)=(l'.length:Int) by omega) h10) (λh10=>?_)
 refine Qi<|Qf<|Qc<|Qb<|x (Qr h rfl)<|Qb<|xe ?_
 refine Qg<|QA (α:=Nat) [(6,9),(17,31)] (λk=>[(17,.int .i64 k)]) (λk w'=>Step [] w w'∧k≤l.length) (λk=>l.length - k) (by rfl) 0 ⟨rfl,trivial⟩ ⟨Step.refl _ _,Nat.zero_le _⟩ ?_
 rintro k g w1 ⟨hs,hk1⟩
 refine Qc<|x (QB rfl rfl)<|xe ?_
 refine Qf<|QG rfl (λh14=>?_) (λh14=>?_)
 ·refine Qx ?_
  refine Qc<|Qe ?_
  exact Ql ⟨[.bool true],⟨rfl,trivial⟩,rfl,hs⟩
 have hlt:k<l.length:=by omega
 have hlt':k<l'.length:=by omega
 have hkk:=hk k hlt hlt'
 have hm:=h1 _ (List.getElem_mem hlt)
 have hm':=h1' _ (List.getElem_mem hlt')
 refine Qi<|Qf<|Qg<|Qc<|Qb<|xig (g:=Q9) (i:=k) YZ (h.ext hs) rfl rfl hlt λa20 h20=>?_
 refine Zd (l[k]'hlt) λq hq=>?_
 rw[hq] at h20 hkk hm
 refine x (QC h20 rfl rfl)<|xl rfl<|Qt (us:=[.string .empty,nS]) rfl λb8 w2 hs2 hb8 hB8=>x Qh<|xl rfl<|Qn (us:=Q9 q) hB8 rfl rfl rfl rfl hm λw3 hs3 hB83=>xe ?_
 have hs13:Step [] w1 w3:=hs2.then1 hs3 hb8
 refine Qc<|Qb<|Qb<|xig (g:=Q9) (i:=k) YZ ((h'.ext hs).ext hs13) rfl rfl hlt' λa24 h24=>?_
 refine Zd (l'[k]'hlt') λq' hq'=>?_
 rw[hq'] at h24 hkk hm'
 refine x (QC h24 rfl rfl)<|xl rfl<|Qt (us:=[.string .empty,nS]) rfl λb9 w4 hs4 hb9 hB9=>xl rfl<|Qn (us:=Q9 q') hB9 rfl rfl rfl rfl hm' λw5 hs5 hB95=>xe ?_
 have hs35:Step [] w3 w5:=hs4.then1 hs5 hb9
 refine Qc<|Qb<|x (Qq (hB83.ext hs35) rfl rfl)<|x (Qq hB95 rfl rfl)<|xl rfl<|xc (first:=[]) (capt:=[]) rfl<|(hkk w5 ((hs.trans hs13).trans hs35)).mono ?_
 rintro r6 w6 ⟨rfl,hs6⟩
 refine x (Zn rfl)<|xe ?_
 refine Zy rfl ?_
 refine Qi<|Qw<|QO rfl rfl<|Qb<|xe ?_
 exact ⟨k+1,by omega,⟨rfl,trivial⟩,((hs.trans hs13).trans hs35).trans hs6,by omega⟩
theorem QhB {L L':LN}{w:World}{v v':Value}{l l':List KV}{gf:Nat}{fn:Func}[Fu prog gf fn] (hn:l.length=l'.length) (h:Zj L w.heap v l.length 3 (l.flatMap Za)) (h':Zj L' w.heap v' l'.length 3 (l'.flatMap Za))
  (h1:∀q∈l,Zw (Za q)) (h1':∀q∈l',Zw (Za q)) (hk:∀(k:Nat) (h:k<l.length) (h':k<l'.length) (w1:World),Step [] w w1→QJ prog gf [.agg (Za (l[k]'h)).toArray,.agg (Za (l'[k]'h')).toArray] w1 λr w'=>r=.bool true∧Step [] w1 w') :
  QJ prog 91 [v,v',.func (.func gf) #[] #[]] w λr w'=>r=.bool true∧Step [] w w':=by
 have hle:=h.le
 refine QJ.of_W func91 rfl ntmps91 results91 (by simp) ?_
 refine Qc<|Qe<|Qf<|Qc<|Qb<|x (Qr h rfl)<|Qb<|x (Qr h' rfl)<|x (Q8 rfl rfl)<|xe ?_
 refine Q4 rfl (λh10=>absurd (show (l.length:Int)=(l'.length:Int) by omega) h10) (λh10=>?_)
 refine Qi<|Qf<|Qc<|Qb<|x (Qr h rfl)<|Qb<|xe ?_
 refine Qg<|QA (α:=Nat) [(6,9),(17,31)] (λk=>[(17,.int .i64 k)]) (λk w'=>Step [] w w'∧k≤l.length) (λk=>l.length - k) (by rfl) 0 ⟨rfl,trivial⟩ ⟨Step.refl _ _,Nat.zero_le _⟩ ?_
 rintro k g w1 ⟨hs,hk1⟩
 refine Qc<|x (QB rfl rfl)<|xe ?_
 refine Qf<|QG rfl (λh14=>?_) (λh14=>?_)
 ·refine Qx ?_
  refine Qc<|Qe ?_
  exact Ql ⟨[.bool true],⟨rfl,trivial⟩,rfl,hs⟩
 have hlt:k<l.length:=by omega
 have hlt':k<l'.length:=by omega
 have hkk:=hk k hlt hlt'
 have hm:=h1 _ (List.getElem_mem hlt)
 have hm':=h1' _ (List.getElem_mem hlt')
 refine Qi<|Qf<|Qg<|Qc<|Qb<|xig (g:=Za) (i:=k) YN (h.ext hs) rfl rfl hlt λa20 h20=>?_
 refine Zd (l[k]'hlt) λq hq=>?_
 rw[hq] at h20 hkk hm
 refine x (QC h20 rfl rfl)<|xl rfl<|Qt (us:=[.string .empty,nS,.int .i64 0]) rfl λb8 w2 hs2 hb8 hB8=>x Qh<|xl rfl<|Qn (us:=Za q) hB8 rfl rfl rfl rfl hm λw3 hs3 hB83=>xe ?_
 have hs13:Step [] w1 w3:=hs2.then1 hs3 hb8
 refine Qc<|Qb<|Qb<|xig (g:=Za) (i:=k) YN ((h'.ext hs).ext hs13) rfl rfl hlt' λa24 h24=>?_
 refine Zd (l'[k]'hlt') λq' hq'=>?_
 rw[hq'] at h24 hkk hm'
 refine x (QC h24 rfl rfl)<|xl rfl<|Qt (us:=[.string .empty,nS,.int .i64 0]) rfl λb9 w4 hs4 hb9 hB9=>xl rfl<|Qn (us:=Za q') hB9 rfl rfl rfl rfl hm' λw5 hs5 hB95=>xe ?_
 have hs35:Step [] w3 w5:=hs4.then1 hs5 hb9
 refine Qc<|Qb<|x (Qq (hB83.ext hs35) rfl rfl)<|x (Qq hB95 rfl rfl)<|xl rfl<|xc (first:=[]) (capt:=[]) rfl<|(hkk w5 ((hs.trans hs13).trans hs35)).mono ?_
 rintro r6 w6 ⟨rfl,hs6⟩
 refine x (Zn rfl)<|xe ?_
 refine Zy rfl ?_
 refine Qi<|Qw<|QO rfl rfl<|Qb<|xe ?_
 exact ⟨k+1,by omega,⟨rfl,trivial⟩,((hs.trans hs13).trans hs35).trans hs6,by omega⟩
theorem QbP {w:World}{q q':IV}(h:Zt [] w.heap q.p.va q.p.vm q.p.ve q.p.a) (h':Zt [] w.heap q'.p.va q'.p.vm q'.p.ve q'.p.a) (he:q.it=q'.it) :
  QJ prog 85 [.agg (QW q).toArray,.agg (QW q').toArray] w λr w'=>r=.bool true∧Step [] w w':=by
 have hnm:q.nm=q'.nm:=congrArg YE.nm he
 have ha:q.p.a=q'.p.a:=congrArg YE.a he
 refine QJ.of_W func85 rfl ntmps85 results85 (by simp) ?_
 refine Qc<|xl rfl<|QQ (us:=QW q) rfl λb2 w1 hs1 hb2 hB2=>xl rfl<|QQ (us:=QW q') rfl λb3 w2 hs2 hb3 hB3=>Qe ?_
 have hs:=hs1.trans hs2
 refine Qc<|x (Qa rfl)<|x (Qd (hB2.ext hs2) rfl rfl)<|x (Qa rfl)<|x (Qd hB3 rfl rfl)<|xb (Y9 rfl rfl) (λh9=>?_) (λh9=>absurd hnm h9)
 refine Qb<|x (Qa rfl)<|x (QC (((hB2.ext hs2).at (L:=[]) (by simp)).from 1) rfl rfl)<|x (Qa rfl)<|x (QC ((hB3.at (L:=[]) (by simp)).from 1) rfl rfl)<|xl rfl<|xf<|(U8 (h.ext hs) (h'.ext hs)).mono ?_
 rintro r4 w4 ⟨hr4,hs4⟩
 replace hr4:r4=.bool true:=hr4.trans (congrArg Value.bool (decide_eq_true (by rw[ha];exact ⟨rfl,rfl,rfl,rfl⟩)))
 subst hr4
 refine x (Qm rfl)<|Qe ?_
 exact Ql ⟨[.bool true],⟨rfl,trivial⟩,rfl,hs.trans hs4⟩
theorem QhD {w:World}{q q':XV}(h:jQ [] w.heap q.v q.ls) (h':jQ [] w.heap q'.v q'.ls) (he:q.x=q'.x) :
  QJ prog 89 [.agg (Q9 q).toArray,.agg (Q9 q').toArray] w λr w'=>r=.bool true∧Step [] w w':=by
 have hnm:q.nm=q'.nm:=congrArg zg.nm he
 have ha:q.ls=q'.ls:=congrArg zg.ls he
 rw[←ha] at h'
 have h1:=h.one
 have h1':=h'.one
 refine QJ.of_W func89 rfl ntmps89 results89 (by simp) ?_
 refine Qc<|xl rfl<|QQ (us:=Q9 q) rfl λb2 w1 hs1 hb2 hB2=>xl rfl<|QQ (us:=Q9 q') rfl λb3 w2 hs2 hb3 hB3=>Qe ?_
 have hs:=hs1.trans hs2
 refine Qc<|x (Qa rfl)<|x (Qd (hB2.ext hs2) rfl rfl)<|x (Qa rfl)<|x (Qd hB3 rfl rfl)<|xb (Y9 rfl rfl) (λh9=>?_) (λh9=>absurd hnm h9)
 refine Qb<|x (Qa rfl)<|x (Qd (hB2.ext hs2) rfl rfl)<|x (Qa rfl)<|x (Qd hB3 rfl rfl)<|xl rfl<|xf<|(QaD (h.ext hs) (h'.ext hs)).mono ?_
 rintro r4 w4 ⟨rfl,hs4⟩
 refine x (Qm rfl)<|Qe ?_
 exact Ql ⟨[.bool true],⟨rfl,trivial⟩,rfl,hs.trans hs4⟩
theorem QhC {w:World}{q q':KV}(h:jQ [] w.heap q.v q.ts) (h':jQ [] w.heap q'.v q'.ts) (he:q.k=q'.k) :
  QJ prog 92 [.agg (Za q).toArray,.agg (Za q').toArray] w λr w'=>r=.bool true∧Step [] w w':=by
 have hnm:q.nm=q'.nm:=congrArg Y3.nm he
 have ha:q.ts=q'.ts:=congrArg Y3.ts he
 have hbd:q.bd=q'.bd:=congrArg Y3.bd he
 rw[←ha] at h'
 have h1:=h.one
 have h1':=h'.one
 refine QJ.of_W func92 rfl ntmps92 results92 (by simp) ?_
 refine Qc<|xl rfl<|QQ (us:=Za q) rfl λb2 w1 hs1 hb2 hB2=>xl rfl<|QQ (us:=Za q') rfl λb3 w2 hs2 hb3 hB3=>Qe ?_
 have hs:=hs1.trans hs2
 refine Qc<|x (Qa rfl)<|x (Qd (hB2.ext hs2) rfl rfl)<|x (Qa rfl)<|x (Qd hB3 rfl rfl)<|xb (Y9 rfl rfl) (λh9=>?_) (λh9=>absurd hnm h9)
 refine Qb<|x (Qa rfl)<|x (Qd (hB2.ext hs2) rfl rfl)<|x (Qa rfl)<|x (Qd hB3 rfl rfl)<|xb (Q7 rfl rfl) (λh15=>?_) (λh15=>absurd hbd h15)
 refine x (Qm rfl)<|Qb<|x (Qa rfl)<|x (Qd (hB2.ext hs2) rfl rfl)<|x (Qa rfl)<|x (Qd hB3 rfl rfl)<|xl rfl<|xf<|(QaC (h.ext hs) (h'.ext hs)).mono ?_
 rintro r4 w4 ⟨rfl,hs4⟩
 refine x (Qm rfl)<|Qe ?_
 exact Ql ⟨[.bool true],⟨rfl,trivial⟩,rfl,hs.trans hs4⟩
theorem zQ {α β:Type}{f:α→β}{l l':List α}(h:l.map f=l'.map f) (k:Nat) (h1:k<l.length) (h2:k<l'.length):f (l[k]'h1)=f (l'[k]'h2):=by
 have e:(l.map f)[k]?=(l'.map f)[k]?:=by rw[h]
 rw[List.getElem?_map,List.getElem?_map,List.getElem?_eq_getElem h1,List.getElem?_eq_getElem h2] at e
 exact Option.some.inj e
theorem zP {α β:Type}{f:α→β}{l l':List α}(h:l.map f=l'.map f):l.length=l'.length:=by
 have e:=congrArg List.length h
 rwa [List.length_map,List.length_map] at e
theorem Qc1 {L L':LN}{w:World}{c c':CL}(h0:Zu L w.heap c) (h0':Zu L' w.heap c') (he:c.cel=c'.cel) :
  QJ prog 35 [c.val,c'.val] w λr w'=>r=.bool true∧Step [] w w':=by
 have h:=h0.up (L':=[]) (by simp)
 have h':=h0'.up (L':=[]) (by simp)
 have eev:c'.ev=c.ev:=(congrArg Zv.ev he).symm
 have eco:c.co.map (·.it)=c'.co.map (·.it):=congrArg Zv.co he
 have erq:c.rq.map (·.it)=c'.rq.map (·.it):=congrArg Zv.rq he
 have eex:c.ex.map (·.x)=c'.ex.map (·.x):=congrArg Zv.ex he
 have ecs:c.cs.map (·.k)=c'.cs.map (·.k):=congrArg Zv.cs he
 have hev:Zj [] w.heap c'.ve c.ev.length 5 (c.ev.flatMap Zf):=by have:=h'.ev.arr;rwa [eev] at this
 have hiv:∀{c:CL},Zu [] w.heap c→(∀q∈c.co,Zw (QW q))∧∀q∈c.rq,Zw (QW q):=λhc=>⟨λq hq=>⟨rfl,(hc.co.each q hq).al.one,rfl,(hc.co.each q hq).mr.one,(hc.co.each q hq).ed.one,trivial⟩,λq hq=>⟨rfl,(hc.rq.each q hq).al.one,rfl,(hc.rq.each q hq).mr.one,(hc.rq.each q hq).ed.one,trivial⟩⟩
 have hxv:∀{c:CL},Zu [] w.heap c→∀q∈c.ex,Zw (Q9 q):=λhc q hq=>⟨rfl,(hc.ex.each q hq).one,trivial⟩
 have hkv:∀{c:CL},Zu [] w.heap c→∀q∈c.cs,Zw (Za q):=λhc q hq=>⟨rfl,(hc.cs.each q hq).one,rfl,trivial⟩
 refine QJ.of_W func35 rfl ntmps35 results35 (by simp) ?_
 refine Qc<|xl rfl<|QQ (us:=c.cells) rfl λb2 w1 hs1 hb2 hB2=>xl rfl<|QQ (us:=c'.cells) rfl λb3 w2 hs2 hb3 hB3=>Qe ?_
 have hs:=hs1.trans hs2
 have hBb:=hB2.ext hs2
 refine Qc<|Qe<|Qc<|x (Qa rfl)<|x (Qd hBb rfl rfl)<|x (Qa rfl)<|x (Qd hB3 rfl rfl)<|xl rfl<|xf<|(QaE (h.ev.arr.ext hs) (hev.ext hs)).mono ?_
 rintro r1 w3 ⟨rfl,hs3⟩
 have hs03:=hs.trans hs3
 refine Qb<|x (Qa rfl)<|x (Qd (hBb.ext hs3) rfl rfl)<|x (Qa rfl)<|x (Qd (hB3.ext hs3) rfl rfl)<|Qb<|xl rfl<|xf<|(QbO (gf:=85) (zP eco) (h.co.arr.ext hs03) (h'.co.arr.ext hs03) (hiv h).1 (hiv h').1
  (λk hk hk' w' hs'=>QbP (((h.co.each _ (List.getElem_mem hk)).ext hs03).ext hs') (((h'.co.each _ (List.getElem_mem hk')).ext hs03).ext hs') (zQ eco k hk hk'))).mono ?_
 rintro r2 w4 ⟨rfl,hs4⟩
 have hs24:=hs3.trans hs4
 have hs04:=hs.trans hs24
 refine x (Qm rfl)<|Qb<|x (Qa rfl)<|x (Qd (hBb.ext hs24) rfl rfl)<|x (Qa rfl)<|x (Qd (hB3.ext hs24) rfl rfl)<|Qb<|xl rfl<|xf<|(QbO (gf:=85) (zP erq) (h.rq.arr.ext hs04) (h'.rq.arr.ext hs04) (hiv h).2 (hiv h').2
  (λk hk hk' w' hs'=>QbP (((h.rq.each _ (List.getElem_mem hk)).ext hs04).ext hs') (((h'.rq.each _ (List.getElem_mem hk')).ext hs04).ext hs') (zQ erq k hk hk'))).mono ?_
 rintro r3 w5 ⟨rfl,hs5⟩
 have hs25:=hs24.trans hs5
 have hs05:=hs.trans hs25
 refine x (Qm rfl)<|Qb<|x (Qa rfl)<|x (Qd (hBb.ext hs25) rfl rfl)<|x (Qa rfl)<|x (Qd (hB3.ext hs25) rfl rfl)<|xl rfl<|xf<|(QhA (gf:=89) (zP eex) (h.ex.arr.ext hs05) (h'.ex.arr.ext hs05) (hxv h) (hxv h')
  (λk hk hk' w' hs'=>QhD (((h.ex.each _ (List.getElem_mem hk)).ext hs05).ext hs') (((h'.ex.each _ (List.getElem_mem hk')).ext hs05).ext hs') (zQ eex k hk hk'))).mono ?_
 rintro r4 w6 ⟨rfl,hs6⟩
 have hs26:=hs25.trans hs6
 have hs06:=hs.trans hs26
 refine x (Qm rfl)<|Qb<|x (Qa rfl)<|x (Qd (hBb.ext hs26) rfl rfl)<|x (Qa rfl)<|x (Qd (hB3.ext hs26) rfl rfl)<|xl rfl<|xf<|(QhB (gf:=92) (zP ecs) (h.cs.arr.ext hs06) (h'.cs.arr.ext hs06) (hkv h) (hkv h')
  (λk hk hk' w' hs'=>QhC (((h.cs.each _ (List.getElem_mem hk)).ext hs06).ext hs') (((h'.cs.each _ (List.getElem_mem hk')).ext hs06).ext hs') (zQ ecs k hk hk'))).mono ?_
 rintro r5 w7 ⟨rfl,hs7⟩
 refine x (Qm rfl)<|Qe ?_
 exact Ql ⟨[.bool true],⟨rfl,trivial⟩,rfl,hs06.trans hs7⟩
end Go.Proofs.YtdffckgdcegpaaaGreatDoor
namespace Go.Proofs
open Go.Proofs.Tryz
open Go.Shelf
def Tryz.sortEd_ren:Go.Shelf.Ren:=⟨λ| 6=>245 | 15=>176 | 14=>277 | 28=>229 | 29=>230 | 20=>298 | 21=>299 | 22=>300 | 23=>301 | 24=>302 | 25=>303 | 26=>304 | 27=>305 | 46=>316 | 47=>268 | 48=>269 | 49=>317 | 50=>318 | 57=>323 | n=>n,λ| 22=>56 | 24=>144 | 25=>356 | 3=>3 | 39=>269 | 0=>0 | 53=>338 | 55=>340 | 4=>4 | 46=>332 | 45=>331 | 50=>178 | 5=>5 | 9=>9 | 66=>372 | 70=>376 | 76=>401 | 77=>381 | n=>n,λ| n=>n⟩
theorem Tryz.sortEd:Go.Proofs.SlLaysF0.n6 prog Tryz.sortEd_ren:={
 mixed:=by kernel_rfl
 f6:=⟨Tryz.f245.name,by decide,func245.trans (congrArg some (by kernel_rfl))⟩
 f14:=⟨Tryz.f277.name,by decide,func277.trans (congrArg some (by kernel_rfl))⟩
 f15:=func176.trans (congrArg some (by kernel_rfl))
 f20:=⟨Tryz.f298.name,by decide,func298.trans (congrArg some (by kernel_rfl))⟩
 f21:=⟨Tryz.f299.name,by decide,func299.trans (congrArg some (by kernel_rfl))⟩
 f22:=⟨Tryz.f300.name,by decide,func300.trans (congrArg some (by kernel_rfl))⟩
 f23:=⟨Tryz.f301.name,by decide,func301.trans (congrArg some (by kernel_rfl))⟩
 f24:=⟨Tryz.f302.name,by decide,func302.trans (congrArg some (by kernel_rfl))⟩
 f25:=⟨Tryz.f303.name,by decide,func303.trans (congrArg some (by kernel_rfl))⟩
 f26:=⟨Tryz.f304.name,by decide,func304.trans (congrArg some (by kernel_rfl))⟩
 f27:=⟨Tryz.f305.name,by decide,func305.trans (congrArg some (by kernel_rfl))⟩
 f28:=func229.trans (congrArg some (by kernel_rfl))
 f29:=func230.trans (congrArg some (by kernel_rfl))
 f46:=⟨Tryz.f316.name,by decide,func316.trans (congrArg some (by kernel_rfl))⟩
 f47:=func268.trans (congrArg some (by kernel_rfl))
 f48:=func269.trans (congrArg some (by kernel_rfl))
 f49:=⟨Tryz.f317.name,by decide,func317.trans (congrArg some (by kernel_rfl))⟩
 f50:=⟨Tryz.f318.name,by decide,func318.trans (congrArg some (by kernel_rfl))⟩
 f57:=⟨Tryz.f323.name,by decide,func323.trans (congrArg some (by kernel_rfl))⟩
 t0:=underlying0
 a0:=Tryz.isAgg0
 z0:=Tryz.sizeOf0
 v0:=Tryz.zeroValue0
 t3:=underlying3
 a3:=Tryz.isAgg3
 z3:=Tryz.sizeOf3
 v3:=Tryz.zeroValue3
 t4:=underlying4
 a4:=Tryz.isAgg4
 z4:=Tryz.sizeOf4
 v4:=Tryz.zeroValue4
 t5:=underlying5
 a5:=Tryz.isAgg5
 z5:=Tryz.sizeOf5
 v5:=Tryz.zeroValue5
 t9:=underlying9
 a9:=Tryz.isAgg9
 z9:=Tryz.sizeOf9
 v9:=Tryz.zeroValue9
 t22:=underlying56
 a22:=Tryz.isAgg56
 z22:=Tryz.sizeOf56
 v22:=Tryz.zeroValue56
 t25:=underlying356
 a25:=Tryz.isAgg356
 z25:=Tryz.sizeOf356
 v25:=Tryz.zeroValue356
 t39:=underlying269
 a39:=Tryz.isAgg269
 z39:=Tryz.sizeOf269
 v39:=Tryz.zeroValue269
 t45:=underlying331
 a45:=Tryz.isAgg331
 z45:=Tryz.sizeOf331
 v45:=Tryz.zeroValue331
 t46:=underlying332
 a46:=Tryz.isAgg332
 z46:=Tryz.sizeOf332
 v46:=Tryz.zeroValue332
 t50:=underlying178
 a50:=Tryz.isAgg178
 z50:=Tryz.sizeOf178
 v50:=Tryz.zeroValue178
 t53:=underlying338
 a53:=Tryz.isAgg338
 z53:=Tryz.sizeOf338
 v53:=Tryz.zeroValue338
 t55:=underlying340
 a55:=Tryz.isAgg340
 z55:=Tryz.sizeOf340
 v55:=Tryz.zeroValue340
 t66:=underlying372
 a66:=Tryz.isAgg372
 z66:=Tryz.sizeOf372
 v66:=Tryz.zeroValue372
 t70:=underlying376
 a70:=Tryz.isAgg376
 z70:=Tryz.sizeOf376
 v70:=Tryz.zeroValue376
 t76:=underlying401
 a76:=Tryz.isAgg401
 z76:=Tryz.sizeOf401
 v76:=Tryz.zeroValue401
 t77:=underlying381
 a77:=Tryz.isAgg381
 z77:=Tryz.sizeOf381
 v77:=Tryz.zeroValue381 }
end Go.Proofs
namespace Go.Proofs.YtdffckgdcegpaaaGreatDoor
open Go.Proofs.Tryz
open Go.Lg Go.Sort
abbrev Ez:={ x:Ed // (0≤x.1∧x.1<1099511627776)∧0≤x.2.1∧x.2.1<1099511627776 }
instance:Inhabited Ez:=⟨⟨(0,0,0),by decide⟩⟩
abbrev VY (x:Ez):LV:=[.int .i64 x.1.1,.int .i64 x.1.2.1,.int .i64 x.1.2.2]
abbrev EzO (base:Nat) (w:World) (v:Value) (l:List Ez):Prop:=w.ownsRow base 144 3 v l.length (l.flatMap VY)
def ecf (x y:Ez):Int:=if x.1.1=y.1.1 then x.1.2.1 - y.1.2.1 else x.1.1 - y.1.1
set_option maxHeartbeats 1000000 in
theorem QkD (x y:Ez) (W:World):Calls prog 308 #[.agg (VY x).toArray,.agg (VY y).toArray] W λe w'=>e=.returned (.int .i64 (ecf x y))∧∃q os',w'=grow (W.drewN q) os':=by
 have hw:IntKind.i64.wrap (x.1.1 - y.1.1)=x.1.1 - y.1.1:=Ye ⟨by have:=x.2;have:=y.2;omega,by have:=x.2;have:=y.2;omega⟩
 have hw2:IntKind.i64.wrap (x.1.2.1 - y.1.2.1)=x.1.2.1 - y.1.2.1:=Ye ⟨by have:=x.2;have:=y.2;omega,by have:=x.2;have:=y.2;omega⟩
 go_enter func308,ntmps308
 go_wp2
 ·go_ret
  rename_i h
  exact ⟨by rw[ecf,if_neg (by simpa using h)];rfl,0,_,by rw[alloc_eq_grow,alloc_eq_grow,grow_grow];rfl⟩
 ·go_ret
  rename_i h
  exact ⟨by rw[ecf,if_pos (by simpa using h)];rfl,0,_,by rw[alloc_eq_grow,alloc_eq_grow,grow_grow];rfl⟩
set_option maxHeartbeats 1000000 in
theorem QkE (x y:Ez) (W:World):Calls prog 246 #[.agg (VY x).toArray,.agg (VY y).toArray] W λe w'=>e=.returned (.int .i64 (ecf x y))∧∃q os',w'=grow (W.drewN q) os':=by
 have hw:IntKind.i64.wrap (x.1.1 - y.1.1)=x.1.1 - y.1.1:=Ye ⟨by have:=x.2;have:=y.2;omega,by have:=x.2;have:=y.2;omega⟩
 have hw2:IntKind.i64.wrap (x.1.2.1 - y.1.2.1)=x.1.2.1 - y.1.2.1:=Ye ⟨by have:=x.2;have:=y.2;omega,by have:=x.2;have:=y.2;omega⟩
 go_enter func246,ntmps246
 go_wp2
 ·go_ret
  rename_i h
  exact ⟨by rw[ecf,if_neg (by simpa using h)];rfl,0,_,by rw[alloc_eq_grow,alloc_eq_grow,grow_grow];rfl⟩
 ·go_ret
  rename_i h
  exact ⟨by rw[ecf,if_pos (by simpa using h)];rfl,0,_,by rw[alloc_eq_grow,alloc_eq_grow,grow_grow];rfl⟩
theorem ya (x:Ez):(VY x).length=3:=rfl
theorem Qaz:∀l:List Ez,(l.flatMap VY).length=l.length*3
 | []=>rfl
 | x::l=>by rw[List.flatMap_cons,List.length_append,Qaz l,ya,List.length_cons];omega
theorem QbL {l:List Ez}{j:Nat}(hj:j<l.length*3):(l.flatMap VY)[j]?=some ((flatK VY 3 l.toArray)[j]!):=by
 have h1:j / 3<l.length:=Nat.div_lt_of_lt_mul (by omega)
 have h2:j % 3<3:=Nat.mod_lt _ (by decide)
 rw[get_flatK _ _ _ _ (by simpa using hj)]
 have h3:=XH VY 3 ya l (j / 3) h1
 have h4:(l.flatMap VY)[j]?=(VY (l[j / 3]'h1))[j % 3]?:=by
  rw[←h3,List.getElem?_take,if_pos h2,List.getElem?_drop]
  congr 1;omega
 rw[h4]
 have h5:(l.toArray)[j / 3]! = l[j / 3]'h1:=by simp[h1]
 rw[h5]
 have h6:j % 3<(VY (l[j / 3]'h1)).length:=h2
 exact (List.getElem?_eq_getElem h6).trans (congrArg some (getElem!_pos (VY (l[j / 3]'h1)) (j % 3) h6).symm)
theorem Qfv (x y:Ez):ltOf ecf x y=true↔x.1.1<y.1.1∨x.1.1=y.1.1∧x.1.2.1<y.1.2.1:=by
 unfold ltOf ecf
 rw[decide_eq_true_iff]
 split <;> omega
theorem yc (x y:Ez):ltOf ecf x y=false↔y.1.1<x.1.1∨y.1.1=x.1.1∧y.1.2.1≤x.1.2.1:=by
 rw[←Bool.not_eq_true,Qfv];omega
theorem Qjk:SWO (ltOf ecf) where
 irrefl x:=by rw[yc];omega
 trans x y z h1 h2:=by rw[Qfv] at *;omega
 ntrans x y z h1 h2:=by rw[yc] at *;omega
theorem QgP {α:Type}[Inhabited α] {lt:α→α→Bool}{d d':Array α}(hP:PermIn 0 d.size d d') (hSo:SortedIn lt 0 d.size d'):d'.toList.Perm d.toList∧d'.toList.Pairwise (λx y=>lt y x=false):=by
 obtain ⟨hsz,_,hperm⟩:=hP
 have e1:d'.extract 0 d.size=d':=by rw[←hsz];exact Array.extract_size
 rw[e1,Array.extract_size] at hperm
 refine ⟨hperm,?_⟩
 rw[List.pairwise_iff_getElem]
 intro i j hi hj hij
 have hi':i<d'.size:=by simpa using hi
 have hj':j<d'.size:=by simpa using hj
 have:=hSo i j (Nat.zero_le _) hij (by omega)
 rw[getElem!_pos d' j hj',getElem!_pos d' i hi'] at this
 simpa using this
set_option maxHeartbeats 1000000 in
theorem j6 {g:Nat}(eg:∀args w,(callFunc g args).run prog w=.ok (.enter g args) w) (hcmp:∀(x y:Ez) (W:World),Calls prog g #[.agg (VY x).toArray,.agg (VY y).toArray] W λe w'=>e=.returned (.int .i64 (ecf x y))∧∃q os',w'=grow (W.drewN q) os')
  {w:World} {base:Nat} {v:Value} {l:List Ez} (h:EzO base w v l) (hl:l.length≤1099511627776) :
  QJ prog 245 [v,.func (.func g) #[] #[]] w λ_ w'=>Step (ob v) w w'∧∃l':List Ez,l'.Perm l∧l'.Pairwise (λx y=>ltOf ecf y x=false)∧EzO base w' v l':=by
 unfold QJ
 rcases h.2 with ⟨rfl,h0⟩ | ⟨gb,cap,cur,rfl,hbg,hg,hnc,hcm,hcs,htk⟩
 ·have hl0:l=[]:=List.eq_nil_of_length_eq_zero h0
  subst hl0
  have hc:=AnyF.slices_SortFunc_none Tryz.sortEd none 0 (.func (.func g) #[] #[]) w
  change Calls prog 245 _ _ _ at hc
  refine Calls.mono hc λe w' he=>?_
  obtain ⟨rfl,rfl⟩:=he
  exact ⟨Step.refl _ _,[],List.Perm.refl _,List.Pairwise.nil,h⟩
 ·have hlt:gb<w.heap.size:=(Array.getElem?_eq_some_iff.1 hg).1
  have hcl:l.length*3≤cur.size:=by rw[hcs];exact Nat.mul_le_mul_right _ hnc
  have hH:HoldsK VY 3 w gb 0 l.toArray:=by
   intro j hj
   rw[size_flatK,List.size_toArray] at hj
   have h1:=QbL hj
   rw[←htk,List.getElem?_take,if_pos hj] at h1
   constructor
   ·show (match w.heap[gb]? with | some (.cells c _ _)=>if (none:Option _).isSome then none else c[0+j]? | _=>none)=_
    rw[hg]
    simp only[Nat.zero_add,Option.isSome_none,Bool.false_eq_true,if_false]
    rw[←Array.getElem?_toList,h1];rfl
   ·show (match w.heap[gb]? with | some (.cells _ _ (lo,hi))=>decide (lo≤0+j) && decide (0+j<hi) | _=>false)=false
    rw[hg];simp
  have hc:=AnyQ.slices_SortFunc Tryz.sortEd 3 Tryz.isAgg144 Tryz.sizeOf144 VY ya (λx v hv=>by simp at hv;rcases hv with rfl | rfl | rfl <;> rfl) ecf Qjk g #[] gb 0 cap l.toArray w eg (λm os dk _ x y=>hcmp x y _) hH hlt (by simp;omega)
  change Calls prog 245 _ _ _ at hc
  rw[List.size_toArray] at hc
  refine Calls.mono hc λe w' he=>?_
  obtain ⟨rfl,d',n,os,hp,hso,rfl⟩:=he
  have hsz:d'.size=l.length:=by have:=hp.1;simpa using this
  have hperm:=QgP (d:=l.toArray) (by rw[List.size_toArray];exact hp) (by rw[List.size_toArray];exact hso)
  have hhp:(sortWorldK VY 3 w gb 0 n d' os).heap=w.heap.modify gb (onCells (putCells id 0 (flatK VY 3 d')))++os:=rfl
  refine ⟨⟨rfl,rfl,rfl,?_,λk hk hn=>?_⟩,d'.toList,hperm.1,hperm.2,?_⟩
  ·rw[hhp,Array.size_append,Array.size_modify];omega
  ·rw[hhp,Array.getElem?_append,Array.size_modify,if_pos hk,Array.getElem?_modify,if_neg (λe=>hn (by simp[ob,e]))]
  ·refine ⟨Qaz _,.inr ⟨gb,cap,putCells id 0 (flatK VY 3 d') cur,by simp[hsz],hbg,?_,by simp[hsz];exact hnc,hcm,by simp[putCells,hcs],?_⟩⟩
   ·rw[hhp,Array.getElem?_append,Array.size_modify,if_pos hlt,Array.getElem?_modify,if_pos rfl,hg];rfl
   ·apply List.ext_getElem?
    intro j
    rw[List.getElem?_take]
    by_cases hj:j<d'.toList.length*3
    ·rw[if_pos hj,QbL hj,Array.getElem?_toList]
     have hjc:j<cur.size:=by simp[hsz] at hj;omega
     have hjf:j<(flatK VY 3 d').size:=by simpa using hj
     simp only[putCells,Array.getElem?_mapIdx,Array.getElem?_eq_getElem hjc,Option.map_some,Nat.zero_le,Nat.zero_add,true_and,if_pos hjf,Nat.sub_zero,id]
    ·rw[if_neg hj,List.getElem?_eq_none]
     rw[Qaz];omega
theorem Qfl:∀l:List Ez,(l.map (·.1)).flatMap Qy=l.flatMap VY
 | []=>rfl
 | x::l=>by rw[List.map_cons,List.flatMap_cons,List.flatMap_cons,Qfl l];rfl
theorem QbK:∀l:List Ed,(∀e∈l,(0≤e.1∧e.1<1099511627776)∧0≤e.2.1∧e.2.1<1099511627776)→∃zs:List Ez,zs.map (·.1)=l
 | [],_=>⟨[],rfl⟩
 | e::l,h=>by
  obtain ⟨zs,h1⟩:=QbK l (λd hd=>h d (List.mem_cons_of_mem _ hd))
  exact ⟨⟨e,h e List.mem_cons_self⟩::zs,by rw[List.map_cons,h1]⟩
abbrev jq (x y:Ed):Prop:=x.1<y.1∨x.1=y.1∧x.2.1≤y.2.1
theorem qG {g:Nat}(eg:∀args w,(callFunc g args).run prog w=.ok (.enter g args) w) (hcmp:∀(x y:Ez) (W:World),Calls prog g #[.agg (VY x).toArray,.agg (VY y).toArray] W λe w'=>e=.returned (.int .i64 (ecf x y))∧∃q os',w'=grow (W.drewN q) os')
  {w:World} {base:Nat} {v:Value} {l:List Ed} (h:w.ownsRow base 144 3 v l.length (l.flatMap Qy)) (hl:l.length≤1099511627776) (hb:∀e∈l,(0≤e.1∧e.1<1099511627776)∧0≤e.2.1∧e.2.1<1099511627776) :
  QJ prog 245 [v,.func (.func g) #[] #[]] w λ_ w'=>Step (ob v) w w'∧∃l':List Ed,l'.Perm l∧l'.Pairwise jq∧w'.ownsRow base 144 3 v l'.length (l'.flatMap Qy):=by
 obtain ⟨zs,rfl⟩:=QbK l hb
 rw[List.length_map] at hl
 rw[List.length_map,Qfl] at h
 refine (j6 eg hcmp h hl).mono λ_ _ ⟨h1,l',h2,h3,h4⟩=>⟨h1,l'.map (·.1),h2.map _,?_,by rw[List.length_map,Qfl];exact h4⟩
 rw[List.pairwise_map]
 refine h3.imp λ{x y} hxy=>?_
 have:=(yc y x).1 hxy
 exact this
theorem zo {w:World}{base:Nat}{v:Value}{l:List Ed}(h:w.ownsRow base 144 3 v l.length (l.flatMap Qy)) (hl:l.length≤1099511627776) (hb:∀e∈l,(0≤e.1∧e.1<1099511627776)∧0≤e.2.1∧e.2.1<1099511627776) :
  QJ prog 282 [v] w λ_ w'=>Step (ob v) w w'∧∃l':List Ed,l'.Perm l∧l'.Pairwise jq∧w'.ownsRow base 144 3 v l'.length (l'.flatMap Qy):=by
 refine QJ.of_W func282 rfl ntmps282 results282 (by simp) ?_
 refine Qw<|Qb<|xl rfl<|xf<|(qG (enters_of func308 (by kernel_rfl) rfl) QkD h hl hb).mono ?_
 rintro r1 w1 h1
 refine xe ?_
 exact ⟨[],trivial,h1⟩
theorem Qck {w:World}{base:Nat}{v:Value}{l:List Ed}(h:w.ownsRow base 144 3 v l.length (l.flatMap Qy)) (hl:l.length≤1099511627776) (hb:∀e∈l,(0≤e.1∧e.1<1099511627776)∧0≤e.2.1∧e.2.1<1099511627776) :
  QJ prog 245 [v,.func (.func 246) #[] #[]] w λ_ w'=>Step (ob v) w w'∧∃l':List Ed,l'.Perm l∧l'.Pairwise jq∧w'.ownsRow base 144 3 v l'.length (l'.flatMap Qy) :=
 qG (enters_of func246 (by kernel_rfl) rfl) QkE h hl hb
def cmF (c:Zv) (l:List (LI)):LI:=l.zipIdx.filterMap λp=>if (KA c.ex c.cs p.1).2.2=true then some (p.2:Int) else none
theorem QfB {c:Zv}{l:List (LI)}{k:Nat}(h:k<l.length):cmF c (l.take (k+1))=cmF c (l.take k)++(if (KA c.ex c.cs (l[k]'h)).2.2=true then [(k:Int)] else []):=by
 unfold cmF
 rw[List.take_succ_eq_append_getElem h,List.zipIdx_append,List.filterMap_append]
 have e:0+(l.take k).length=k:=by rw[List.length_take];omega
 rw[e]
 simp only[List.zipIdx_cons,List.zipIdx_nil,List.filterMap_cons,List.filterMap_nil]
 by_cases hv:(KA c.ex c.cs (l[k]'h)).2.2=true
 ·rw[if_pos hv,if_pos hv]
 ·rw[if_neg hv,if_neg hv]
theorem QhQ (c:Zv) (l:List (LI)):(cmF c l).length≤l.length:=by
 unfold cmF
 refine Nat.le_trans (List.length_filterMap_le _ _) ?_
 rw[List.length_zipIdx];exact Nat.le_refl _
def QbV (c:Zv):Bool:=match sync (auts c.co),sync (auts c.co++auts c.rq) with
 | some (pa,ps),some (_,ts)=>ts.all λt=>decide ((wrf c.rq (t.drop c.co.length) (enb pa (plx ps (t.take c.co.length)))).length≤1)
 | _,_=>false
def cmB (c:Zv):LI:=match sync (auts c.co++auts c.rq) with
 | some (sa,ts)=>cmF c (ts.map (·.take c.co.length))++[sa.st]
 | none=>[]
structure jV (b2 base:Nat) (W:World) (xa:Value) (st:Int) (xm vb ve:Value) (bad:LI) (es:List Ed):Prop where
 B:Q2 W.heap b2 58 [xa,.int .i64 st,xm,ve]
 b:Qu 3 base W vb bad
 e:W.ownsRow base 144 3 ve es.length (es.flatMap Qy)
 dj:Dj vb ve
 bd:∀e∈es,(0≤e.1∧e.1<1099511627776)∧0≤e.2.1∧e.2.1<1099511627776
theorem jV.ext {b2 base:Nat}{W W':World}{xa:Value}{st:Int}{xm vb ve:Value}{bad:LI}{es:List Ed}(h:jV b2 base W xa st xm vb ve bad es) (hs:Step [] W W'):jV b2 base W' xa st xm vb ve bad es :=
 ⟨h.B.ext hs,Qs h.b hs,Qs h.e hs,h.dj,h.bd⟩
theorem jV.addB {b2 base:Nat}{W W':World}{xa:Value}{st:Int}{xm vb vb' ve:Value}{bad bad':LI}{es:List Ed}(h:jV b2 base W xa st xm vb ve bad es) (hb:b2<base) (hs:Step (ob vb) W W') (ho:Qu 3 base W' vb' bad') (hn:∀b∈ob vb',b∈ob vb∨W.heap.size≤b):jV b2 base W' xa st xm vb' ve bad' es :=
 ⟨h.B.step hs (QM h.b hb),ho,Qj h.e hs (λb hb hm=>h.dj b hm hb),λb hbv hbe=>(hn b hbv).elim (λh1=>h.dj b h1 hbe) (λh1=>by have:=QR h.e b hbe;omega),h.bd⟩
theorem jV.addE {b2 base:Nat}{W W1 W':World}{xa:Value}{st:Int}{xm vb ve ve':Value}{bad:LI}{es:List Ed}{e:Ed}(h:jV b2 base W xa st xm vb ve bad es) (hb:b2<base) (hs:Step (ob ve) W W1) (ho:W1.ownsRow base 144 3 ve' (es.length+1) (es.flatMap Qy++Qy e)) (hn:∀b∈ob ve',b∈ob ve∨W.heap.size≤b)
  (hs2:Step [b2] W1 W') (hB:Q2 W'.heap b2 58 [xa,.int .i64 st,xm,ve']) (he:(0≤e.1∧e.1<1099511627776)∧0≤e.2.1∧e.2.1<1099511627776):jV b2 base W' xa st xm vb ve' bad (es++[e]):=by
 have hge:=Qk ho
 refine ⟨hB,Qj (Qj h.b hs (λb hb hm=>h.dj b hb hm)) hs2 (λb hb' hm=>by have:=(Qk h.b b hb').1;rw[List.mem_singleton.1 hm] at this;omega),?_,λb hbv hbe=>(hn b hbe).elim (λh1=>h.dj b hbv h1) (λh1=>by have:=QR h.b b hbv;omega),λd hd=>?_⟩
 ·have h9:=Qj ho hs2 (λb hb' hm=>by have:=(hge b hb').1;rw[List.mem_singleton.1 hm] at this;omega)
  rw[List.length_append,List.flatMap_append]
  simpa using h9
 ·rcases List.mem_append.1 hd with hd | hd
  ·exact h.bd d hd
  ·rw[List.mem_singleton.1 hd];exact he
theorem jV.stb {b2 base B:Nat}{xa:Value}{st:Int}{xm vb ve:Value}{bad:LI}{es:List Ed}:ZW B (λW=>jV b2 base W xa st xm vb ve bad es) :=
 λW W' X h hs hX=>⟨ZW.blk W W' X h.B hs hX,ZW.row W W' X h.b hs hX,ZW.row W W' X h.e hs hX,h.dj,h.bd⟩
set_option maxHeartbeats 40000000 in
theorem jT {w:World}{c:CL}(h0:Zu [] w.heap c) (hkb:Kb w 4096) (hE0:Yu c.cel=0) (hst:(spc c.cel).a.st<4096) (h1:QbV c.cel=true) :
  QJ prog 197 [c.val] w λr w'=>Step [] w w'∧∃xa xm xe vb,r=.tuple #[.agg #[xa,.int .i64 ((spc c.cel).a.st+1),xm,xe],vb,.int .i64 0]∧Zw [xa,xm,xe]∧Qu 3 w.heap.size w' vb (cmB c.cel):=by
 refine QJ.of_G 20 func197 rfl ntmps197 results197 (by simp) ?_
 refine Q0<|QK (by rfl) (by rfl) ?_
 refine xl rfl<|QQ (us:=c.cells) rfl λb1 w1 hs1 hb1 hB1=>xl rfl<|Qt (us:=VX) rfl λb2 w2 hs2 hb2 hB2=>x Qh<|Qe ?_
 have hs02:=hs1.trans hs2
 have hz1:=hs1.size
 have hz2:=hs2.size
 have hl1:=hB1.lt
 have hl2:=hB2.lt
 have hB12:=hB1.ext hs2
 have hc2:Zu [b2] w2.heap c:=(h0.up (L':=[b2]) (λb hb=>.inr (by rw[List.mem_singleton.1 hb];omega))).ext hs02
 refine Q0<|QK (by rfl) (by rfl) ?_
 refine x (Qq hB12 rfl rfl)<|xl rfl<|xf<|(jH (h0.ext hs02) (hkb.ext hs02)).mono ?_
 rintro r3 w3 ⟨hs3,vp,rfl,_,hgood⟩
 obtain ⟨b,q,rfl,rfl,hQ,_,hF3⟩:=hgood hE0
 rw[hE0]
 have hs03:=hs02.trans hs3
 have hA3:Xw [b2] b w3.heap q:=(hF3 [b2] (λx hx=>by rw[List.mem_singleton.1 hx];exact hl2)).2 hc2
 have hsp:=j4 hQ.p hQ.s
 have hst':q.s.a.st<4096:=by rw[hsp] at hst;exact hst
 have hcb:cmB q.c.cel=cmF q.c.cel ((q.ts.map (·.2)).map (·.take q.c.cel.co.length))++[q.s.a.st]:=by unfold cmB;rw[hQ.s]
 have hone:∀t∈q.ts.map (·.2),(wrf q.c.cel.rq (t.drop q.c.cel.co.length) (enb q.p.a (plx (q.qs.map (·.2)) (t.take q.c.cel.co.length)))).length≤1:=λt ht=>by
  unfold QbV at h1
  rw[hQ.p,hQ.s] at h1
  exact of_decide_eq_true (List.all_eq_true.1 h1 t ht)
 have hsa:(spc q.c.cel).a.st=q.s.a.st:=by rw[hsp]
 rw[hsa,hcb]
 refine Qb<|x (Qp rfl rfl)<|x (Qp rfl rfl)<|x Qh<|Qe<|Q0<|Q0<|QK (by rfl) (by rfl) ?_
 refine Qb<|x (Q8 rfl rfl)<|xe ?_
 refine J2 rfl<|Yb ?_
 refine Q0<|QK (by rfl) (by rfl) ?_
 refine Qb<|x (QI rfl)<|x (Qa rfl)<|x (Qa rfl)<|x (Qd hA3.B rfl rfl)<|xl rfl<|Qt (us:=[.int .i64 0]) rfl λb6 w4 hs4 hb6 hB6=>xl rfl<|QF (j:=0) (u:=.int .i64 q.s.a.st) hB6 rfl rfl (by simp) rfl λw5 hs5 hB65=>xe ?_
 have hs35:Step [] w3 w5:=hs4.then1 hs5 hb6
 have hA5:=hA3.ext hs35
 have hz3:=hs3.size
 have hz35:=hs35.size
 have hl6:=hB65.lt
 have hB25:Q2 w5.heap b2 58 VX:=(hB2.ext hs3).ext hs35
 have hB65':Q2 w5.heap b6 3 [.int .i64 q.s.a.st]:=hB65
 have hst0:0≤q.s.a.st:=by
  have:=(Xe (λa ha=>by
   rcases List.mem_append.1 ha with ha | ha
   ·exact Yh (ZV hQ.ok).co a ha
   ·exact Yh (ZV hQ.ok).rq a ha) hQ.s).1.st
  omega
 refine Q0<|Q0<|QK (by rfl) (by rfl) ?_
 refine x (Qd hB65' rfl rfl)<|x (ZR rfl rfl)<|xe ?_
 refine Qh4 rfl (λh32=>absurd (show q.s.a.st≥4096 from h32) (by omega)) (λh32=>?_)
 refine Yb ?_
 have hd5:Step [] w5 { w5 with drawn:=w5.drawn+1 }:=Step.drew _ _
 refine Q0<|U7 (Step [] w5) [(0,true),(1,true),(2,true),(3,true),(4,true),(6,true),(7,true),(8,true),(9,true),(10,true),(11,true),(12,true),(14,true),(15,true),(16,true),(17,true),(18,true),(5,false),(13,false),(19,false),(20,true),(21,false)] mixed (by rfl) (by rfl) (by kernel_rfl) hd5 ?_
 refine p (λ_=>Qo)<|p (λ_=>QI rfl)<|p (λ_=>Qa rfl)<|p (λ_=>Qa rfl)<|pq (λ_ hc=>Qd (hA5.B.ext hc) rfl rfl)<|pq (λ_ hc=>Qd (hB65'.ext hc) rfl rfl)<|p (λ_=>XY rfl rfl ⟨by omega,by omega⟩)<|p (λ_=>Qo)<|p (λ_=>QI rfl)<|p (λ_=>Qa rfl)<|p (λ_=>Qa rfl) <|
  pq (λ_ hc=>Qd (hA5.B.ext hc) rfl rfl)<|p (λ_=>Qo)<|p (λ_=>QI rfl)<|p (λ_=>Qa rfl)<|p (λ_=>Qa rfl)<|pq (λ_ hc=>Qd (hA5.B.ext hc) rfl rfl)<|pk<|xf<|(ZU (hA5.s.al.ext hd5)).mono ?_
 rintro xa w6 ⟨hs6,ho6⟩
 have hc6:=hd5.trans hs6
 refine ⟨hc6,?_⟩
 refine pk<|xf<|(ZU (hA5.s.mr.ext hc6)).mono ?_
 rintro xm w7 ⟨hs7,ho7⟩
 have hc7:=hc6.trans hs7
 refine ⟨hc7,?_⟩
 refine pk<|xf<|(Kk (hA5.s.ed.ext hc7)).mono ?_
 rintro xe0 w8 ⟨hs8,ho8⟩
 have hc8:=hc7.trans hs8
 refine ⟨hc8,?_⟩
 refine p (λ_=>QE ⟨Q3 ho6,rfl,Q3 ho7,Q3 ho8,trivial⟩)<|pkl (hl:=by kernel_rfl)<|Qn (us:=[xa,.int .i64 (q.s.a.st+1),xm,xe0]) (hB25.ext hc8) rfl rfl rfl rfl ⟨QH ho6,rfl,QH ho7,QH ho8,trivial⟩ λw9 hs9 hB29=>pe ?_
 have hs59:Step [b2] w5 w9:=hc8.any.trans' hs9
 have hz7:=hc7.size
 have hz59:=hs59.size
 have hb2w:b2<w5.heap.size:=by omega
 have hA9:=hA5.st hs59
 have hxo:Zw [xa,xm]:=⟨QH ho6,QH ho7,trivial⟩
 have hE9:w9.ownsRow w5.heap.size 144 3 xe0 q.s.a.ed.length (q.s.a.ed.flatMap Qy):=Qj (Zo ho8 (by omega)) hs9 (λb hb hm=>by have:=(Qk ho8 b hb).1;rw[List.mem_singleton.1 hm] at this;omega)
 have hok:=ZV hQ.ok
 have hoks:∀a∈auts q.c.cel.co++auts q.c.cel.rq,Zs a:=λa ha=>by
  rcases List.mem_append.1 ha with ha | ha
  ·exact Yh hok.co a ha
  ·exact Yh hok.rq a ha
 have hsao:=(Xe hoks hQ.s).1.okay hoks
 have hbd0:∀e∈q.s.a.ed,(0≤e.1∧e.1<1099511627776)∧0≤e.2.1∧e.2.1<1099511627776:=λe he=>by
  have h1:=hsao.ed e he
  have h2:=hsao.al _ h1.2.2.1
  omega
 have hI9:jV b2 w5.heap.size w9 xa (q.s.a.st+1) xm Zb xe0 [] q.s.a.ed:=⟨hB29,QP _ _ _ _,hE9,λb hb=>(by cases hb),hbd0⟩
 have hedl:=hsao.ed_le
 have hQv:=V4 hoks hQ.s
 have hVt:=hQv.1
 have hTl:=hQv.2
 simp only[] at hVt hTl
 have hckc:=hok.c8
 have hcel:q.c.cel.co.length=q.c.co.length:=List.length_map ..
 have hrel:q.c.cel.rq.length=q.c.rq.length:=List.length_map ..
 have hcr:=hok.cr
 have hal:(auts q.c.cel.co++auts q.c.cel.rq).length=q.c.co.length+q.c.rq.length:=by rw[List.length_append];unfold auts;rw[List.length_map,List.length_map,hcel,hrel]
 refine Q0<|Q0<|QK (by rfl) (by rfl) ?_
 refine Qb<|x (QI rfl)<|x (Qa rfl)<|x (Qd hA9.B rfl rfl)<|x (Qr hA9.ts.arr rfl)<|Qb<|xe ?_
 refine Zd ((q.ts.map (·.2)).map (·.take q.c.cel.co.length)) λtcs htcs=>?_
 rw[htcs]
 have htcl:tcs.length=q.ts.length:=by rw[←htcs,List.length_map,List.length_map]
 have hTn:q.ts.length≤4096:=by have h2:=(Xe hoks hQ.s).1.st;have h3:(q.ts.map (·.2)).length=q.ts.length:=List.length_map ..;omega
 refine ZC<|VJ (α:=Nat×Value×Value×List Ed) [(3,3),(7,16),(60,109)] (λz=>[(3,z.2.1),(60,.int .i64 z.1)])
  (λz ds W'=>z.1≤q.ts.length∧Step [b2] w5 W'∧Vg w5.heap.size W'.heap.size ds W'∧jV b2 w5.heap.size W' xa (q.s.a.st+1) xm z.2.1 z.2.2.1 (cmF q.c.cel (tcs.take z.1)) z.2.2.2∧z.2.2.2.length≤131072+z.1)
  (λz=>q.ts.length - z.1) (by rfl) (0,Zb,xe0,q.s.a.ed) ⟨rfl,rfl,trivial⟩ ⟨Nat.zero_le _,hs59,⟨List.nodup_nil,λD hD=>by cases hD⟩,hI9,hedl⟩ ?_
 rintro ⟨k,vb,ve,es⟩ g ds w10 ⟨hk,hs10,hD10,hI10,hel⟩
 simp only[] at hk hI10 hel
 have hz10:=hs10.size
 have hcl:=QhQ q.c.cel (tcs.take k)
 rw[List.length_take] at hcl
 refine Q0<|QK (by rfl) (by rfl) ?_
 refine x (QB rfl rfl)<|xe ?_
 refine Q0<|zf rfl (λh61=>?_) (λh61=>?_)
 ·refine JS ?_
  have hke:q.ts.length≤k:=by have h62:¬(k:Int)<(q.ts.length:Int):=h61;omega
  rw[List.take_of_length_le (by omega)] at hI10 hcl
  refine Zd (cmF q.c.cel tcs) λbad hbad=>?_
  rw[hbad] at hI10 hcl
  have hn2e:b2∉ob ve:=QM hI10.e hb2w
  have hn2b:b2∉ob vb:=QM hI10.b hb2w
  have hn62:b6∉[b2]:=by simp only[List.mem_singleton];omega
  have hn6e:b6∉ob ve:=QM hI10.e hl6
  have hn6b:b6∉ob vb:=QM hI10.b hl6
  refine Q0<|QK (by rfl) (by rfl) ?_
  refine x (Qa rfl)<|x (Qd hI10.B rfl rfl)<|xl rfl<|xf<|(Qck hI10.e (by omega) hI10.bd).mono ?_
  rintro r11 w11 ⟨hs11,es',hp,_,ho11⟩
  refine xe ?_
  have hB11:=hI10.B.step hs11 hn2e
  have hB611:=(hB65'.step hs10 hn62).step hs11 hn6e
  have hb11:=Qj hI10.b hs11 (λb hb hm=>hI10.dj b hb hm)
  have hz11:=hs11.size
  have hgeE:=Qk hI10.e
  have hgeB:=Qk hb11
  have hD11:Vg w5.heap.size w10.heap.size ds w11:=hD10.step hs11 (Go.Lg.Q3 hI10.e)
  have hD0:Step (ob vb) w11 { w11 with drawn:=w11.drawn+1 }:=Step.drew _ _
  refine Q0<|U7 (λw'=>Step (b2::ob vb) w11 w'∧Q2 w'.heap b2 58 [xa,.int .i64 (q.s.a.st+1),xm,ve]∧Q2 w'.heap b6 3 [.int .i64 q.s.a.st]) [(0,true),(1,true),(2,true),(3,false),(4,false),(5,false),(6,true),(7,true)] mixed (by rfl) (by rfl) (by kernel_rfl) ⟨Step.drew _ _,hB11.ext (Step.drew _ _),hB611.ext (Step.drew _ _)⟩ ?_
  refine pq (λ_ hc=>Qq hc.2.1 rfl rfl)<|p (λ_=>Qo)<|pq (λ_ hc=>Qd hc.2.2 rfl rfl)<|pk<|QD (us:=[[.int .i64 q.s.a.st]]) rfl rfl (by decide) (by simp) ⟨rfl,rfl,trivial⟩ λb116 w12 hs12 hb116 hB116=>?_
  have hs1112:=(Step.drew [] w11).trans hs12
  have hz12:=hs1112.size
  refine ⟨⟨hs1112.any,hB11.ext hs1112,hB611.ext hs1112⟩,?_⟩
  refine pk<|QZ (m:=1) (news:=[.int .i64 q.s.a.st]) (L:=[]) (Qs hb11 hs1112) rfl rfl rfl (hB116.at (by simp)) (by simp[Value.oneCell']) (by omega) (by omega) λvb2 w13 ho13 hs13 hn13=>?_
  have hs1113:Step (ob vb) w11 w13:=hs1112.any.trans' hs13
  have hB13:=hB11.step hs1113 hn2b
  have hB613:=hB611.step hs1113 hn6b
  refine ⟨⟨hs1113.mono (λb hb=>List.mem_cons_of_mem _ hb),hB13,hB613⟩,?_⟩
  refine pk<|Qn (us:=[xa,.int .i64 (q.s.a.st+1),xm,ve]) hB13 rfl rfl rfl rfl ⟨hxo.1,rfl,hxo.2.1,QH hI10.e,trivial⟩ λw14 hs14 hB14=>?_
  have hs1114:Step (b2::ob vb) w11 w14:=(hs1113.mono (λb hb=>List.mem_cons_of_mem _ hb)).trans' (hs14.mono (by simp))
  refine ⟨⟨hs1114,hB14,hB613.step hs14 hn62⟩,?_⟩
  refine p (λ_=>Qh)<|p (λ_=>Qh)<|pe ?_
  have ho13':=Qj ho13 hs14 (λb hb hm=>by have:=(Qk ho13 b hb).1;rw[List.mem_singleton.1 hm] at this;omega)
  have hD14:Vg w5.heap.size w10.heap.size ds w14:=hD11.step hs1114 (λb hb=>by
   rcases List.mem_cons.1 hb with rfl | hb
   ·exact hB11.cells
   ·exact Go.Lg.Q3 hb11 b hb)
  have hb2d:b2∉ds:=λhm=>by have:=(hD14.2 b2 hm).1;omega
  have hs514:Step [] w w14:=(((hs03.trans hs35).then1 hs10 (by omega)).then hs11 (λb hb=>.inr (by have:=(hgeE b hb).1;have:=hs03.size;omega))).then hs1114 (λb hb=>.inr (by
   rcases List.mem_cons.1 hb with rfl | hb
   ·omega
   ·have:=(hgeB b hb).1;have:=hs03.size;omega))
  refine JR ⟨λD hD=>(hD14.2 D hD).2.2,hD14.1,[.agg [xa,.int .i64 (q.s.a.st+1),xm,ve].toArray,vb2,.int .i64 0],λW' hW'=>?_⟩
  refine ⟨⟨⟨_,rfl,Qz rfl ((hB14.step hW' hb2d).at (L:=[]) (by simp)).cells⟩,rfl,rfl,trivial⟩,hs514.then hW' (λD hD=>.inr (by have:=(hD14.2 D hD).1;have:=hs03.size;omega)),xa,xm,ve,vb2,rfl,⟨hxo.1,hxo.2.1,QH hI10.e,trivial⟩,?_⟩
  have h9:=Qu.snoc ho13'
  have h10:=Qj h9 hW' (λb hb hm=>by
   obtain ⟨o,g1,g2⟩:=Go.Lg.Q3 h9 b hb
   rw[(hD14.2 b hm).2.2] at g1
   cases g1
   cases g2)
  rw[←hbad] at h10
  exact Zo h10 (by have:=hs03.size;omega)
 have hlt:k<q.ts.length:=by have h62:(k:Int)<(q.ts.length:Int):=h61;omega
 have hltc:k<tcs.length:=by omega
 have htk:=QfB (c:=q.c.cel) hltc
 have htck:tcs[k]'hltc=(q.ts[k]'hlt).2.take q.c.cel.co.length:=by subst htcs;simp
 have hmem:=List.getElem_mem hlt
 have hVk:=hVt _ (List.mem_map_of_mem (f:=(·.2)) hmem)
 have honek:=hone _ (List.mem_map_of_mem (f:=(·.2)) hmem)
 rw[htck] at htk
 refine Zd (cmF q.c.cel (tcs.take k)) λbad hbad=>?_
 rw[hbad] at hI10 hcl htk
 refine Zd (ob vb++ob ve) λav hav=>?_
 have hgeB:=Qk hI10.b
 have hgeE:=Qk hI10.e
 have havlt:∀x∈av,w5.heap.size≤x∧x<w10.heap.size:=λx hx=>by
  rw[←hav] at hx
  exact (List.mem_append.1 hx).elim (hgeB x) (hgeE x)
 have hAv:Xw (b2::av) b w5.heap q:=hA5.up (λx hx=>by
  rcases List.mem_cons.1 hx with rfl | hx
  ·exact .inl List.mem_cons_self
  ·exact .inr (havlt x hx).1)
 have hA10:Xw (b2::av) b w10.heap q:=hAv.st (hs10.mono (by simp))
 refine Zd (cmF q.c.cel (tcs.take (k+1))) λbad2 hbad2=>?_
 rw[hbad2] at htk
 refine Yb ?_
 refine Qcb (α:=Value×Value×List Ed) [(3,3),(7,16),(61,109)] (λz=>[(3,z.1),(60,.int .i64 k)]) (λz ds' W'=>Step [b2] w5 W'∧Vg w5.heap.size W'.heap.size ds' W'∧jV b2 w5.heap.size W' xa (q.s.a.st+1) xm z.1 z.2.1 bad2 z.2.2∧z.2.2.length≤131072+(k+1)) (by rfl) ?_ ?_
 rotate_left
 ·rintro ⟨vb',ve',es'⟩ g ds' W ⟨hsW,hDW,hIW,hlW⟩
  refine QK (by rfl) (by rfl) ?_
  refine QO rfl rfl<|Qb<|xe ?_
  exact ⟨(k+1,vb',ve',es'),by simp only[];omega,⟨rfl,rfl,trivial⟩,hlt,hsW,hDW,by simp only[];rw[hbad2];exact hIW,hlW⟩
 refine ZC<|Q0<|QK (by rfl) (by rfl) ?_
 refine Qb<|xig (g:=Z7) Kd hA10.ts.arr rfl rfl hlt λa63 h63=>?_
 refine Zd (q.ts[k]'hlt) λt ht=>?_
 rw[ht] at h63 hmem hVk honek htk
 have htI:=hA10.ts.each t hmem
 have htl:t.2.length=q.c.co.length+q.c.rq.length:=by rw[hVk.1,hal]
 refine x (Qv h63 rfl)<|xl rfl<|Qt (us:=[.int .i64 0]) rfl λb7 w11 hs11 hb7 hB7=>xl rfl<|QF (j:=0) (u:=.int .i64 k) hB7 rfl rfl (by simp) rfl λw12 hs12 hB712=>Qe ?_
 have hs1012:Step [] w10 w12:=hs11.then1 hs12 hb7
 have hB712':Q2 w12.heap b7 3 [.int .i64 k]:=hB712
 refine Q0<|QK (by rfl) (by rfl) ?_
 refine Qb<|Qb<|xl rfl<|xf<|(yB (hA10.ext hs1012) (htI.ext hs1012) (by omega)).mono ?_
 rintro r13 w13 ⟨hs13,v9,v10,rfl,hI9',hI10'⟩
 refine Qb<|x (Qp rfl rfl)<|x (Qp rfl rfl)<|x Qh<|Qe ?_
 have hs1013:=hs1012.trans hs13
 have hA13:=hA10.ext hs1013
 rw[hcel] at honek htk
 refine Zd (t.2.take q.c.co.length) λtc htc=>?_
 refine Zd (t.2.drop q.c.co.length) λtr htr=>?_
 rw[htc] at hI9' honek htk
 rw[htr] at hI10' honek
 have htcl2:tc.length=q.c.co.length:=by rw[←htc,List.length_take];omega
 have hbdt:=hVk.bd (m:=4096) (λa ha=>(hoks a ha).st1)
 have hbdc:∀x∈tc,0≤x∧x<4096:=λx hx=>hbdt x (List.mem_of_mem_take (by rw[htc];exact hx))
 have hVc:Vt (auts q.c.cel.co) tc:=by
  have h1:=hVk.take
  rw[show (auts q.c.cel.co).length=q.c.co.length by unfold auts;rw[List.length_map];exact hcel,htc] at h1
  exact h1
 have hVr:Vt (auts q.c.cel.rq) tr:=by
  have h1:=hVk.drop
  rw[show (auts q.c.cel.co).length=q.c.co.length by unfold auts;rw[List.length_map];exact hcel,htr] at h1
  exact h1
 have hA130:Xw [] b w13.heap q:=hA13.up (by simp)
 have hvo:=VS hA130.k1 hA130.k2 hA130.k3 (hI9'.up (L':=[]) (by simp)) (by rw[hQ.ex,hQ.cs];exact hok.cd) hVc.tpOk
 rw[hQ.ex,hQ.cs] at hvo
 refine Zd (KA q.c.cel.ex q.c.cel.cs tc) λV hV=>?_
 rw[hV] at hvo htk
 have hI13:=hI10.ext hs1013
 have hz13:=hs1013.size
 have hl7:=hB712'.lt
 have hB713:=hB712'.ext hs13
 refine Qcb (α:=Value) [(3,3),(11,14),(71,86)] (λz=>[(3,z)]) (λz ds' W=>ds'=ds∧Step (ob vb) w13 W∧Qu 3 w5.heap.size W z bad2∧∀x∈ob z,x∈ob vb∨w13.heap.size≤x) (by rfl) ?_ ?_
 ·refine Q0<|QK (by rfl) (by rfl) ?_
  refine Qb<|x (QI rfl)<|x (Qa rfl)<|x (Yv (us:=[q.vs,q.vx,q.vk]) hA130.B rfl rfl rfl)<|Qb<|xl rfl<|xf<|hvo.mono ?_
  rintro r14 w14 ⟨hs14,rfl⟩
  refine Qb<|x (Qp rfl rfl)<|x (Qp rfl rfl)<|x (Qp rfl rfl)<|x (Qp rfl rfl)<|x Qh<|x Qh<|x Qh<|Qe<|Q0<|QK (by rfl) (by rfl) ?_
  refine Qb<|xe ?_
  have hb14:=Qs hI13.b hs14
  refine Ku rfl (λh82=>?_) (λh82=>?_)
  ·rw[if_pos h82] at htk
   refine QK (by rfl) (by rfl) ?_
   refine Qb<|x (Qd (hB713.ext hs14) rfl rfl)<|xl rfl<|QD (us:=[[.int .i64 k]]) rfl rfl (by decide) (by simp) ⟨rfl,rfl,trivial⟩ λb85 y1 hy1 hb85 hB85=>?_
   have zy1:=hy1.size
   have hz14:=hs14.size
   refine xl rfl<|QZ (m:=1) (news:=[.int .i64 k]) (L:=[]) (Qs hb14 hy1) rfl rfl rfl (hB85.at (by simp)) (by simp[Value.oneCell']) (by omega) (by omega) λz y2 ho2 hy2 hn2=>Qe ?_
   exact ⟨z,⟨rfl,trivial⟩,rfl,(hs14.trans hy1).any.trans' hy2,by rw[htk];exact Qu.snoc ho2,λx hx=>(hn2 x hx).imp id (λh=>by omega)⟩
  ·rw[if_neg (by rw[h82];decide),List.append_nil] at htk
   refine Yb ?_
   exact ⟨vb,⟨rfl,trivial⟩,rfl,hs14.any,by rw[htk];exact hb14,λx hx=>.inl hx⟩
 rintro vb' g ds' w14 ⟨rfl,hs14,hbO,hbn⟩
 have hI14:=hI13.addB hb2w hs14 hbO hbn
 have hz14:=hs14.size
 have hvbav:∀x∈ob vb,x∈b2::av:=λx hx=>List.mem_cons_of_mem _ (by rw[←hav];exact List.mem_append.2 (.inl hx))
 have hveav:∀x∈b2::ob ve,x∈b2::av:=λx hx=>by
  rcases List.mem_cons.1 hx with rfl | hx
  ·exact List.mem_cons_self
  ·exact List.mem_cons_of_mem _ (by rw[←hav];exact List.mem_append.2 (.inr hx))
 have hA14:=hA13.st (hs14.mono hvbav)
 have hI9a:=hI9'.st (hs14.mono hvbav)
 have hI10a:=hI10'.st (hs14.mono hvbav)
 have hs514:Step [b2] w5 w14:=(hs10.trans hs1013.any).then hs14 (λx hx=>.inr (hgeB x hx).1)
 have hs014:Step [] w w14:=(hs03.trans hs35).then1 hs514 (by omega)
 have hn7b:b7∉ob vb:=λhm=>by have:=(hgeB b7 hm).2;omega
 have hn62:b6∉[b2]:=by simp only[List.mem_singleton];omega
 have hB714:=hB713.step hs14 hn7b
 have hB614:=hB65'.step hs514 hn62
 have hD14:Vg w5.heap.size w10.heap.size ds' w14:=(hD10.ext hs1013).step hs14 (Go.Lg.Q3 hI13.b)
 refine Q0<|U7 (Step [] w14) [(0,true),(1,true),(2,true),(3,true),(4,true),(5,false),(6,true),(7,true)] mixed (by rfl) (by rfl) (by kernel_rfl) (Step.drew _ _) ?_
 refine p (λ_=>Qo)<|p (λ_=>QI rfl)<|p (λ_=>Qa rfl)<|pq (λ_ hc=>Qd (hA14.B.ext hc) rfl rfl)<|p (λ_=>Qo)<|pk<|xf<|(yg (hI9a.ext (Step.drew _ _)) ((hkb.ext hs014).ext (Step.drew _ _)) hbdc (by omega)).mono ?_
 rintro r15 w15 ⟨rfl,hs15⟩
 have hs1415:=(Step.drew [] w14).trans hs15
 refine ⟨hs1415,?_⟩
 have hplx:(match mget q.mm (Js tc) with | some u=>u | none=>.int .i64 0)=Value.int .i64 (plx (q.qs.map (·.2)) tc):=by
  rw[hQ.m tc htcl2 (λx hx=>(hbdc x hx).1)]
  unfold plx
  by_cases hm:tc∈q.qs.map (·.2)
  ·rw[if_pos hm,if_pos hm]
  ·rw[if_neg hm,if_neg hm]
 have hpo:=yO hQ.ok hQ.p
 have hpr:=Qec hpo.2.2.1 tc
 refine Zd (plx (q.qs.map (·.2)) tc) λpi hpi=>?_
 rw[hpi] at hplx honek hpr
 rw[←hpo.2.1] at hpr
 have hckp:cks q.p.a pi=0:=by
  unfold cks
  rw[if_neg (by rw[(ZE q.p.a).2 hpo.1];decide),if_neg (by omega)]
 refine pq (λ_ hc=>(XW (k:=Js tc) (hA14.m.ext hc) rfl rfl).trans (congrArg (λv=>Result.ok (Next.value v) _) hplx))<|p (λ_=>Qh)<|pe ?_
 refine Q0<|QK (by rfl) (by rfl) ?_
 refine Qb<|Qb<|Qb<|xl rfl<|xf<|(VK (b:=b) (st:=pi) (vr:=v10) hI10a.cells).mono ?_
 rintro r16 w16 ⟨hs16,c1,c2,c3,rfl,hc1,hc2,hc3,hR1,hR2,hR3⟩
 refine xe ?_
 have hs1416:=hs1415.trans hs16
 have hz1415:=hs1415.size
 have hz16:=hs1416.size
 have hI16:=hI14.ext hs1416
 have hD16:=hD14.ext hs1416
 have hB716:=hB714.ext hs1416
 have hB616:=hB614.ext hs1416
 have hs516:Step [b2] w5 w16:=hs514.trans hs1416.any
 refine Zd (wrf q.c.cel.rq tr (enb q.p.a pi)) λfl hfl=>?_
 rw[hfl] at honek
 have hlow:∀x∈b2::ob ve,x<w14.heap.size:=λx hx=>by
  rcases List.mem_cons.1 hx with rfl | hx
  ·omega
  ·have:=(hgeE x hx).2;omega
 have hSt16:Xw (b2::ob ve) b w16.heap q:=(hA14.ext hs1416).up (λx hx=>.inl (hveav x hx))
 have hIr16:QL (b2::ob ve) w16.heap v10 tr:=(hI10a.ext hs1416).up (λx hx=>.inl (hveav x hx))
 have hEv:∀p∈fl,0≤p.1∧p.1<32:=λp hp=>by
  rw[←hfl] at hp
  have g1:=(V3.1 hp).1
  unfold enb at g1
  obtain ⟨e,he,g2⟩:=List.mem_map.1 g1
  have g3:=hpo.1.al _ (hpo.1.ed e (ZL he).1).2.2.1
  rw[g2] at g3
  exact g3
 have hn7L:b7∉b2::ob ve:=λhm=>by
  rcases List.mem_cons.1 hm with g1 | g1
  ·omega
  ·have:=(hgeE b7 g1).2;omega
 have hn6L:b6∉b2::ob ve:=λhm=>by
  rcases List.mem_cons.1 hm with g1 | g1
  ·omega
  ·have:=(hgeE b6 g1).1;omega
 have hn2e:b2∉ob ve:=QM hI10.e hb2w
 have hb016:w5.heap.size≤w16.heap.size:=by omega
 have hel2:es.length+1≤1099511627776:=by omega
 have hkb2:(0:Int)≤(k:Int)∧(k:Int)<1099511627776:=by omega
 refine ZC<|jR (α:={ x:Int×Int // x∈fl }) (b2::ob ve) (by omega) (capt:=[.pointer (some ⟨c1,0,none⟩),.pointer (some ⟨c2,0,none⟩),.pointer (some ⟨c3,0,none⟩)]) rfl (encs:=λx=>[.int .i64 x.1.1,.int .i64 x.1.2]) (by decide) (λ_=>rfl)
  (KI hR1 hR2 hR3 (λhm=>by have:=hlow _ hm;omega) (λhm=>by have:=hlow _ hm;omega) (λx hx=>by have:=hlow _ hx;omega) hSt16 hIr16 (λx hx=>hok.rq x.it (List.mem_map_of_mem hx)) hVr hckp rfl hfl)
  (λpre W=>∃ve' es',Step (b2::ob ve) w16 W∧jV b2 w5.heap.size W xa (q.s.a.st+1) xm vb' ve' bad2 es'∧(pre=[]→ve'=ve∧es'=es)∧es'.length≤es.length+pre.length)
  (λpre=>ZW.ex λve'=>ZW.ex λes'=>(ZW.step (Nat.le_refl _)).and (jV.stb.and ((ZW.pure _).and (ZW.pure _))))
  (λ_ _ _=>False) (λ_ _=>ZW.pure _)
  ⟨ve,es,Step.refl _ _,hI16,λ_=>⟨rfl,rfl⟩,Nat.le_refl _⟩
  (λf x f' W=>f'=upd (upd (upd f 98 (.int .i64 x.1.1)) 99 (.int .i64 x.1.2)) 16 (.int .i64 x.1.1)) (λx f'=>ZW.pure _) ?_ ?_ ?_ ?_
 ·rintro l pre ⟨⟨e,i⟩,he⟩ W hW
  refine QK (by rfl) (by rfl) ?_
  refine Qe ?_
  exact ⟨rfl,Jm.refl _ _ _,Lg.Y3.refl _ _,hW,rfl⟩
 ·rintro l pre ⟨⟨e,i⟩,he⟩ f' W ⟨ve',es',hst,hCI,hpre,hlen⟩ rfl hN
  have hp0:pre=[]:=List.eq_nil_of_length_eq_zero (Nat.lt_one_iff.1 (Nat.lt_of_lt_of_le hN honek))
  have hv1:=(hpre hp0).1
  have hv2:=(hpre hp0).2
  rw[hv1,hv2] at hCI
  have hzW:=hst.size
  have hee:=hEv _ he
  simp only[] at hee
  refine ZC<|QK (by rfl) (by rfl) ?_
  refine x (Qa rfl)<|x (Qd hCI.B rfl rfl)<|x (Qd (hB716.step hst hn7L) rfl rfl)<|Qb<|x (Qd (hB616.step hst hn6L) rfl rfl)<|x (QE ⟨rfl,rfl,rfl,trivial⟩)<|xl rfl<|QD (us:=[Qy ((k:Int),e,q.s.a.st)]) rfl rfl (by decide) (by exact (by decide:1*3≤1000000)) ⟨rfl,rfl,trivial⟩ λb106 y1 hy1 hb106 hB106=>?_
  have zy1:=hy1.size
  refine xl rfl<|QZ (m:=1) (news:=Qy ((k:Int),e,q.s.a.st)) (L:=[]) (Qs hCI.e hy1) rfl rfl rfl (hB106.at (by simp)) (by simp[Qy,Value.oneCell']) hel2 (by omega) λu y2 ho2 hy2 hn2=>?_
  refine x (Qa rfl)<|xl rfl<|QF (u:=u) ((hCI.B.ext hy1).step hy2 hn2e) rfl rfl (by simp) (QH ho2) λy3 hy3 hB3=>xe ?_
  have hWy:Step (b2::ob ve) W y3:=(hy1.any.trans' (hy2.mono λx hx=>List.mem_cons_of_mem _ hx)).trans' (hy3.mono (by simp))
  have hnw:∀x∈ob u,x∈ob ve∨W.heap.size≤x:=λx hx=>(hn2 x hx).imp id (λh=>by omega)
  refine ⟨Jm.step hWy hzW (λx hx=>⟨.inl hx,?_⟩),Lg.Y3.step hWy,u,es++[((k:Int),e,q.s.a.st)],hst.trans' hWy,hCI.addE hb2w (hy1.any.trans' hy2) ho2 hnw hy3 hB3 ⟨hkb2,by simp only[];omega⟩,λh=>absurd h (by simp),by simp only[List.length_append,List.length_singleton];omega⟩
  rcases List.mem_cons.1 hx with rfl | hx
  ·exact hCI.B.cells
  ·exact Go.Lg.Q3 hCI.e x hx
 ·rintro D xs W hD hxs ⟨ve',es',hst,hCI,_,hlen⟩ hdD
  have hxl:xs.length=fl.length:=by have g1:=congrArg List.length hxs;rw[List.length_map] at g1;exact g1
  have hzW:=hst.size
  refine ⟨(vb',ve',es'),⟨rfl,rfl,trivial⟩,hs516.then hst (λx hx=>?_),((hD16.step hst (λx hx=>?_)).up (by omega)).cons (by omega) (show w16.heap.size≤D from hD) hdD,hCI,by simp only[];omega⟩
  ·rcases List.mem_cons.1 hx with rfl | hx
   ·exact .inl List.mem_cons_self
   ·exact .inr (hgeE x hx).1
  ·rcases List.mem_cons.1 hx with rfl | hx
   ·exact hI16.B.cells
   ·exact Go.Lg.Q3 hI16.e x hx
 ·rintro D e pre W hD hSp hF
  exact hF.elim
theorem KE (m:Nat) (hm:m<256) (w:World):QJ prog 52 [.int .u8 m] w λr w'=>Step [] w w'∧Qu 3 w.heap.size w' r (setK m 5):=by
 refine QJ.of_W func52 rfl ntmps52 results52 (by simp) ?_
 refine Qc<|Qe<|Qc<|Qe<|Qf<|Qc<|Qe<|Qg<|QA (α:=Nat×Value) [(3,17)] (λz=>[(3,z.2),(4,.int .i64 z.1)]) (λz w'=>z.1≤5∧Step [] w w'∧Qu 3 w.heap.size w' z.2 (setK m z.1)) (λz=>5 - z.1) (by rfl) (0,nS) ⟨rfl,rfl,trivial⟩
  ⟨Nat.zero_le _,Step.refl _ _,QP _ _ _ _⟩ ?_
 rintro ⟨k,v⟩ g w1 ⟨hk,hs1,ho1⟩
 simp only[] at hk ho1
 have hlen:=YR m k
 have hz1:=hs1.size
 refine Qf<|Qc<|Qb<|x (QB rfl rfl)<|xe ?_
 refine QG rfl (λh6=>?_) (λh6=>?_)
 ·refine Qx ?_
  refine Qc<|Qb<|Qe ?_
  have hke:k=5:=by omega
  rw[hke] at ho1
  exact Ql ⟨[v],⟨rfl,trivial⟩,hs1,ho1⟩
 have hlt:k<5:=by omega
 have hdv:m / 2 ^ k<256:=Nat.lt_of_le_of_lt (Nat.div_le_self _ _) hm
 have hsucc:=Vk m k
 refine Qi<|Qf<|Qg<|Qc<|Qb<|Qb<|x (qK (n:=k) rfl rfl (by show k≤8;omega))<|x (Ut (a:=m / 2 ^ k) (b:=1) (congrArg (Value.int .u8) (zq m k)) rfl hdv (by decide))<|x (Q7 rfl rfl)<|xe ?_
 refine QG rfl (λh12=>?_) (λh12=>?_)
 ·rw[if_neg (λe=>h12 (by rw[e];rfl))] at hsucc
  refine Qi<|Qw<|Qb<|QO rfl rfl<|Qe ?_
  exact ⟨(k+1,v),by simp only[];omega,⟨rfl,rfl,trivial⟩,hlt,hs1,by simp only[];rw[hsucc];exact ho1⟩
 rw[if_pos (by omega)] at hsucc
 refine Qw<|Qb<|Qb<|xl rfl<|QD (us:=[[.int .i64 k]]) rfl rfl (by decide) (by simp) ⟨rfl,rfl,trivial⟩ λb15 w2 hs2 hb15 hB15=>?_
 have ho2:=Qs ho1 hs2
 have hz2:=hs2.size
 refine xl rfl<|QZ (news:=[.int .i64 k]) (L:=[]) ho2 rfl rfl rfl (hB15.at (by simp)) (by simp[Value.oneCell']) (by omega) (by omega) λv3 w3 ho3 hs3 hn3 =>
  Qe ?_
 have hge:=Qk ho1
 refine Qw<|Qb<|QO rfl rfl<|Qe<|⟨(k+1,v3),by simp only[];omega,⟨rfl,rfl,trivial⟩,hlt,(hs1.trans hs2).then hs3 (λb hb=>.inr (hge b hb).1),?_⟩
 simp only[]
 rw[hsucc];exact Qu.snoc ho3
end Go.Proofs.YtdffckgdcegpaaaGreatDoor
namespace Go.Lg
section
variable {P:Program} {f:Fr} {w:World} {d:Option Nat} {ty:Nat} {ps:String} {af:Array Edge} {gd:Option (Nat×Bool)}
theorem QiN {t t' e bys:Nat}{z:Value}[h:Sl P t e 1 bys z] [he:Ik P e .u8] [hd:St P t'] {x:Operand}{b T n cap:Nat}(hB:Q2 w.heap b T [.int .u8 (n:Int)]) (hn:n<256) (hx:ev f x=.slice (some ⟨b,0,none⟩) 1 cap) :
  (execOp (ev f) ⟨d,.convert t t' x,ty,ps,af,gd⟩).run P w=.ok (.value (.string ⟨#[UInt8.ofNat n]⟩)) w:=by
 refine V8 hx ?_
 refine run_convert_bytes_back (P:=P) w t t' e ⟨b,0,none⟩ cap [UInt8.ofNat n] h.u he.u hd.u (λj hj=>?_)
 have hj0:j=0:=by simp at hj;omega
 subst hj0
 rw[X7]
 have h1:(⟨b,0,none⟩:Addr).add 0=⟨b,0,none⟩:=rfl
 rw[h1,hB.cell]
 have h2:(UInt8.ofNat n).toNat=n:=by simp[UInt8.toNat_ofNat'];omega
 simp[h2]
end
end Go.Lg
namespace Go.Proofs.YtdffckgdcegpaaaGreatDoor
open Go.Lg
theorem jk (e:J3):∀u∈Zf e,u.oneCell'=true:=by
 intro y hy
 simp only[Zf,List.mem_cons,List.not_mem_nil,or_false] at hy
 rcases hy with rfl | rfl | rfl | rfl | rfl <;> rfl
theorem zY {q:IV}(h1:q.p.va.oneCell'=true) (h2:q.p.vm.oneCell'=true) (h3:q.p.ve.oneCell'=true):∀u∈QW q,u.oneCell'=true:=by
 intro y hy
 simp only[QW,List.mem_cons,List.not_mem_nil,or_false] at hy
 rcases hy with rfl | rfl | rfl | rfl | rfl
 ·rfl
 ·exact h1
 ·rfl
 ·exact h2
 ·exact h3
theorem UG {base N:Nat}{av:LN}{H:Array Obj}{q:IV}(h:∀L:LN,(∀b∈L,b<N)→Zt L H q.p.va q.p.vm q.p.ve q.p.a) (hb:base≤N) (hav:∀b∈av,b<N):∀t∈QcI q,ZH base av H t.1 t.2.1 t.2.2.1 t.2.2.2:=by
 intro t ht
 simp only[List.mem_cons,List.not_mem_nil,or_false] at ht
 rcases ht with rfl | rfl | rfl
 ·exact ZH.of_lt (λL hL=>(h L hL).al) hb hav
 ·exact ZH.of_lt (λL hL=>(h L hL).mr) hb hav
 ·exact ZH.of_lt (λL hL=>(h L hL).ed) hb hav
structure V1 (base:Nat) (w:World) (vc va:Value) (co:List IV) (al:LI):Prop where
 c:w.ownsRow base 66 5 vc co.length (co.flatMap QW)
 a:Qu 3 base w va al
 dj:Dj vc va
 each:∀q∈co,∀t∈QcI q,ZH base (ob vc++ob va) w.heap t.1 t.2.1 t.2.2.1 t.2.2.2
section
variable {base:Nat} {w w':World} {vc va vc' va':Value} {co:List IV} {al:LI}
theorem V1.nil:V1 base w (nS) (nS) [] []:=⟨QP _ _ _ _,QP _ _ _ _,Dj.nil _,λq hq=>by cases hq⟩
theorem V1.ext (h:V1 base w vc va co al) (hs:Step [] w w'):V1 base w' vc va co al:=⟨Qs h.c hs,Qs h.a hs,h.dj,λq hq t ht=>(h.each q hq t ht).ext hs⟩
theorem V1.low {X:LN}(h:V1 base w vc va co al) (hs:Step X w w') (hX:∀b∈X,b<base):V1 base w' vc va co al :=
 ⟨Qj h.c hs (λb hb hm=>by have:=(Qk h.c b hb).1;have:=hX b hm;omega),Qj h.a hs (λb hb hm=>by have:=(Qk h.a b hb).1;have:=hX b hm;omega),h.dj,λq hq t ht=>(h.each q hq t ht).low hs hX⟩
theorem V1.avlt (h:V1 base w vc va co al):∀b∈ob vc++ob va,b<w.heap.size:=λb hb=>(List.mem_append.1 hb).elim (QR h.c b) (QR h.a b)
theorem V1.setC {q:IV}(h:V1 base w vc va co al) (hq:∀t∈QcI q,ZH base (ob vc++ob va) w.heap t.1 t.2.1 t.2.2.1 t.2.2.2) (ho:w'.ownsRow base 66 5 vc' (co.length+1) (co.flatMap QW++QW q))
  (hs:Step (ob vc) w w') (hn:∀b∈ob vc',b∈ob vc∨w.heap.size≤b):V1 base w' vc' va (co++[q]) al:=by
 have hs2:Step (ob vc++ob va) w w':=hs.mono (λb hb=>List.mem_append.2 (.inl hb))
 have hn2:∀b∈ob vc'++ob va,b∈ob vc++ob va∨w.heap.size≤b:=λb hb=>by
  rcases List.mem_append.1 hb with hb | hb
  ·exact (hn b hb).imp (λh=>List.mem_append.2 (.inl h)) id
  ·exact .inl (List.mem_append.2 (.inr hb))
 refine ⟨?_,Qj h.a hs (λb hb hbc=>h.dj b hbc hb),λb hb hba=>?_,λd hd t ht=>?_⟩
 ·rw[List.length_append,List.flatMap_append];simpa using ho
 ·rcases hn b hb with h1 | h1
  ·exact h.dj b h1 hba
  ·have:=QR h.a b hba;omega
 ·rcases List.mem_append.1 hd with hd | hd
  ·exact (h.each d hd t ht).app hs2 hn2
  ·simp only[List.mem_singleton] at hd;subst hd
   exact (hq t ht).app hs2 hn2
theorem V1.setA {al':LI}(h:V1 base w vc va co al) (ho:Qu 3 base w' va' al') (hs:Step (ob va) w w') (hn:∀b∈ob va',b∈ob va∨w.heap.size≤b):V1 base w' vc va' co al':=by
 have hs2:Step (ob vc++ob va) w w':=hs.mono (λb hb=>List.mem_append.2 (.inr hb))
 have hn2:∀b∈ob vc++ob va',b∈ob vc++ob va∨w.heap.size≤b:=λb hb=>by
  rcases List.mem_append.1 hb with hb | hb
  ·exact .inl (List.mem_append.2 (.inl hb))
  ·exact (hn b hb).imp (λh=>List.mem_append.2 (.inr h)) id
 refine ⟨Qj h.c hs (λb hb hba=>h.dj b hb hba),ho,λb hb hba=>?_,λd hd t ht=>(h.each d hd t ht).app hs2 hn2⟩
 rcases hn b hba with h1 | h1
 ·exact h.dj b hb h1
 ·have:=QR h.c b hb;omega
theorem V1.itms {L:LN}(h:V1 base w vc va co al) (hn:co.length≤1099511627776) (hm:∀q∈co,VW q.nm) (hL:∀b∈L,b<base):Y2 L w.heap vc co :=
 ⟨QT h.c hn (λb hb hbL=>by have:=(Qk h.c b hb).1;have:=hL b hbL;omega),λq hq=>⟨h.each q hq (q.p.va,q.p.a.al.length,1,q.p.a.al.map (.int .i64)) (by simp) L (λb hb=>.inl (hL b hb)),h.each q hq (q.p.vm,q.p.a.mr.length,1,q.p.a.mr.map (.int .i64)) (by simp) L (λb hb=>.inl (hL b hb)),h.each q hq (q.p.ve,q.p.a.ed.length,3,q.p.a.ed.flatMap Qy) (by simp) L (λb hb=>.inl (hL b hb))⟩,hm⟩
end
theorem YI (ns:LN):(bys ns).length=ns.length:=by rw[bys,List.length_map]
def grN (ns:LN) (o:Nat):LN:=(ns.drop o).take 27
theorem Qe4 {ns:LN}{o:Nat}(h:o+27≤ns.length):(grN ns o).length=27:=by unfold grN;simp;omega
theorem Qif {ns:LN}{o:Nat}(h:∀n∈ns,n<256):∀n∈grN ns o,n<256:=QhT h o 27
theorem QfP (ns:LN) (n:Nat):(bys ns).set 0 (.int .u8 (n:Int))=bys (ns.set 0 n):=by
 unfold bys;rw[List.map_set]
theorem QgD {ns:LN}{n:Nat}(h:∀m∈ns,m<256) (hn:n<256):∀m∈ns.set 0 n,m<256:=λm hm=>by
 rcases List.mem_or_eq_of_mem_set hm with h1 | rfl
 ·exact h m h1
 ·exact hn
theorem QdU {ns:LN}{n:Nat}(h:0<ns.length):(ns.set 0 n).getD 0 0=n:=by simp[List.getD,h]
structure GdA (a:QV):Prop where
 ok:Zs a
 p:0<a.st
 s:a.st≤3
 c:∃a0:QV,Zs a0∧0<a0.st∧a=Ys a0
theorem jE {a:QV}(ho:Zs a) (h:0<a.st):0<(Ys a).st:=by
 have hf:=(K0 ho).1
 show 0<((found a).length:Int)
 have h0:(0:Int)∈found a:=by
  have key:∀(f i:Nat) (out:LI),(0:Int)∈out→(0:Int)∈qW a f i out:=by
   intro f
   induction f with
   | zero=>intro i out h;exact h
   | succ f ih =>
    intro i out h
    rw[qW]
    split
    ·exact ih _ _ (z8 _ _ _ h)
    ·exact h
  refine key _ _ _ ?_
  unfold fd0;rw[if_pos h];simp
 have:=List.length_pos_of_mem h0
 omega
theorem GdA.of {a a0:QV}{n:Nat}(h0:Zs a0) (h1:0<a0.st) (h2:a0.st≤((1+n % 5:Nat):Int)) (h3:a=Ys a0) (hn:n<3):GdA a:=by
 have h4:=yf h0
 subst h3
 exact ⟨h4.1,jE h0 h1,by have:=h4.2.2;omega,a0,h0,h1,rfl⟩
end Go.Proofs.YtdffckgdcegpaaaGreatDoor
namespace Go.Lg
open Go.RowKit
section
variable {P:Program} {n:Nat} {f:Fr} {w:World} {all:List Oper} {C:World→Prop} {K:Fr→World→Prop}
end
section
variable {P:Program} {n:Nat} {f:Fr} {w:World} {all:List Oper} {C J:World→Prop} {K:Fr→World→Prop}
end
end Go.Lg
namespace Go.Proofs.YtdffckgdcegpaaaGreatDoor
open Go.Proofs.Tryz
open Go.Lg
instance ayZi1:Ay prog 29 3 28 27:=⟨by kernel_rfl,by kernel_rfl⟩
theorem Qbk (p:Int×Int):∀u∈QN p,u.oneCell'=true:=by
 intro y hy
 simp only[QN,List.mem_cons,List.not_mem_nil,or_false] at hy
 rcases hy with rfl | rfl <;> rfl
instance ayAv1:Ay prog 23 5 5 1:=⟨underlying23,by kernel_rfl⟩
def nm1 (c k:Nat):ByteArray:=⟨#[UInt8.ofNat (c+k)]⟩
def Jf (k n:Nat):J3:=if 48≤n∧n<52 then ⟨nm1 97 k,false,false,false,(n:Int) - 47⟩ else
 ⟨nm1 97 k,decide (((n &&& 1:Nat):Int)=1),decide (((n &&& 2:Nat):Int)=2),decide (((n &&& 4:Nat):Int)=4),0⟩
def Y5 (ns:LN) (i:Nat):List J3:=(List.range i).map λk=>Jf k (ns.getD k 0)
theorem QaB (ns:LN) (i:Nat):Y5 ns (i+1)=Y5 ns i++[Jf i (ns.getD i 0)]:=by
 unfold Y5;rw[List.range_succ,List.map_append];rfl
theorem JY (ns:LN) (i:Nat):(Y5 ns i).length=i:=by unfold Y5;simp
set_option maxHeartbeats 1000000 in
theorem jS {w:World}{ns:LN}(hn:ns.length=5) (hb:∀n∈ns,n<256) :
  QJ prog 51 [.agg (bys ns).toArray] w λr w'=>Step [] w w'∧w'.ownsRow w.heap.size 87 5 r (Y5 ns 5).length ((Y5 ns 5).flatMap Zf):=by
 refine QJ.of_W func51 rfl ntmps51 results51 (by simp) ?_
 refine Qc<|xl rfl<|QQ (us:=bys ns) rfl λb1 w1 hs1 hb1 hB1=>Qe ?_
 have hz1:=hs1.size
 refine Qc<|Qe<|Qf<|Qc<|Qe<|Qg<|QA (α:=Nat×Value) [(3,53)] (λz=>[(3,z.2),(4,.int .i64 z.1)]) (λz w'=>z.1≤5∧Step [] w1 w'∧w'.ownsRow w1.heap.size 87 5 z.2 (Y5 ns z.1).length ((Y5 ns z.1).flatMap Zf)) (λz=>5 - z.1) (by rfl) (0,Zb) ⟨rfl,rfl,trivial⟩
  ⟨Nat.zero_le _,Step.refl _ _,QP _ _ _ _⟩ ?_
 rintro ⟨k,v⟩ g w2 ⟨hk,hs2,ho2⟩
 simp only[] at hk ho2
 refine Qf<|Qc<|Qb<|x (QB rfl rfl)<|xe ?_
 refine QG rfl (λh7=>?_) (λh7=>?_)
 ·refine Qx ?_
  have hke:k=5:=by have h8:¬(k:Int)<5:=h7;omega
  rw[hke] at ho2
  refine Qc<|Qb<|Qe ?_
  exact Ql ⟨[v],⟨rfl,trivial⟩,hs1.trans hs2,Zo ho2 hz1⟩
 have hlt:k<5:=by have h8:(k:Int)<5:=h7;omega
 have q:=VD (ns:=ns) (j:=0+k*1) (by omega)
 have ql:=Xd hb (0+k*1)
 have hnk:ns.getD (0+k*1) 0=ns.getD k 0:=by rw[show 0+k*1=k by omega]
 rw[hnk] at q ql
 have hsu:=QaB ns k
 have hle:=JY ns k
 refine Zd (ns.getD k 0) λn hnn=>?_
 rw[hnn] at q ql hsu
 have hB12:=hB1.ext hs2
 refine Qi<|Qf<|Qg<|Qc<|Qb<|x (ZK (k':=.u8) rfl ⟨by omega,by omega⟩)<|QO rfl rfl<|xl rfl<|QD (us:=[[.int .u8 ((97:Int)+(k:Int))]]) rfl rfl (by decide) (by simp) ⟨rfl,rfl,trivial⟩ λb13 w3 hs3 hb13 hB13=>?_
 have e97:((97:Int)+(k:Int))=((97+k:Nat):Int):=by omega
 have hB13':Q2 w3.heap b13 5 [.int .u8 ((97+k:Nat):Int)]:=by rw[←e97];exact hB13
 refine x (QiN (n:=97+k) hB13' (by omega) rfl)<|x (QE ⟨rfl,trivial⟩)<|xl rfl<|Qt (us:=[.string ⟨#[]⟩,.bool false,.bool false,.bool false,.int .i64 0]) rfl λb5 w4 hs4 hb5 hB5=>xl rfl<|Qn (us:=Zf ⟨nm1 97 k,false,false,false,0⟩) hB5 rfl rfl rfl rfl ⟨rfl,rfl,rfl,rfl,rfl,trivial⟩ λw5 hs5 hB55 =>
  xe ?_
 have hs25:Step [] w2 w5:=(hs3.trans hs4).then1 hs5 (by have:=hs3.size;omega)
 have hB15:=hB12.ext hs25
 have hz25:=hs25.size
 have hz3:=hs3.size
 have hl1:=hB1.lt
 have hz2:=hs2.size
 have n15:b1∉[b5]:=by simp only[List.mem_singleton];omega
 refine QU (α:=Unit) [(16,49)] (λ_=>[]) (λ_ w'=>Step [b5] w5 w'∧Q2 w'.heap b5 87 (Zf (Jf k n))) (by rfl) ?_ ?_
 ·refine QU (α:=Bool) [(16,25)] (λz=>[(25,.bool z)]) (λz w'=>w'=w5∧(z=true↔48≤n∧n<52)) (by rfl) ?_ ?_
  ·refine Qw<|Qb<|x (ZD (i:=k) rfl rfl hlt)<|x (Qd hB15 rfl q)<|xb (ZR rfl rfl) (λh19=>?_) (λh19=>?_)
   ·have h20:(48:Int)≤(n:Int):=h19
    refine Qb<|Qb<|x (ZD (i:=k) rfl rfl hlt)<|x (Qd hB15 rfl q)<|x (QB rfl rfl)<|x (Qm rfl)<|xe ?_
    refine ⟨decide ((n:Int)<52),⟨rfl,trivial⟩,rfl,?_⟩
    rw[decide_eq_true_eq];omega
   have h20:¬(48:Int)≤(n:Int):=h19
   refine Qb<|xs rfl<|xs rfl<|xs rfl<|xs rfl<|x (Qm rfl)<|xe ?_
   exact ⟨false,⟨rfl,trivial⟩,rfl,⟨λh=>(by cases h),λh=>absurd (by omega) h20⟩⟩
  rintro z g6 w6 ⟨rfl,hz⟩
  refine Q5 rfl (λh25=>?_) (λh25=>?_)
  ·have hc:=hz.1 h25
   refine Qw<|Qb<|x (ZD (i:=k) rfl rfl hlt)<|x (Qd hB15 rfl q)<|x (ZK (k':=.i64) rfl ⟨by omega,by omega⟩)<|x (Jp rfl rfl ⟨by omega,by omega⟩)<|x (Qa rfl)<|xl rfl<|QF hB55 rfl rfl (by simp) rfl λw7 hs7 hB57 =>
    xe ?_
   refine ⟨(),trivial,hs7,?_⟩
   unfold Jf
   rw[if_pos hc]
   exact hB57
  have hc:¬(48≤n∧n<52):=λh=>by have:=hz.2 h;rw[this] at h25;cases h25
  have hd5:Step [] w6 { w6 with drawn:=w6.drawn+1 }:=Step.drew _ _
  refine QS (Step [b5] w6) [(0,true),(1,true),(2,true),(3,true),(4,true),(5,true),(6,true),(7,true),(8,true),(9,true),(10,true),(11,true),(12,true),(13,true),(14,true),(15,true),(16,false),(17,true),(18,false),(19,true),(20,false)] mixed (by rfl) (by kernel_rfl) (Step.drew _ _) ?_
  refine p (λ_=>Qo)<|p (λ_=>ZD (i:=k) rfl rfl hlt)<|pq (λ_ hc=>Qd (hB15.step hc n15) rfl q)<|p (λ_=>Ut (a:=n) (b:=1) rfl rfl ql (by decide))<|p (λ_=>Q7 rfl rfl) <|
   p (λ_=>Qo)<|p (λ_=>ZD (i:=k) rfl rfl hlt)<|pq (λ_ hc=>Qd (hB15.step hc n15) rfl q)<|p (λ_=>Ut (a:=n) (b:=2) rfl rfl ql (by decide))<|p (λ_=>Q7 rfl rfl) <|
   p (λ_=>Qo)<|p (λ_=>ZD (i:=k) rfl rfl hlt)<|pq (λ_ hc=>Qd (hB15.step hc n15) rfl q)<|p (λ_=>Ut (a:=n) (b:=4) rfl rfl ql (by decide))<|p (λ_=>Q7 rfl rfl)<|?_
  refine p (λ_=>Qa rfl)<|pk<|QF (hB55.ext hd5) rfl rfl (by simp) rfl λw7 hs7 hB57=>⟨(hd5.any (L:=[b5])).trans' hs7,?_⟩
  refine p (λ_=>Qa rfl)<|pk<|QF hB57 rfl rfl (by simp) rfl λw8 hs8 hB58=>⟨((hd5.any (L:=[b5])).trans' hs7).trans' hs8,?_⟩
  refine p (λ_=>Qa rfl)<|pkl (hl:=by kernel_rfl)<|QF hB58 rfl rfl (by simp) rfl λw9 hs9 hB59=>pe ?_
  refine ⟨(),trivial,(((hd5.any (L:=[b5])).trans' hs7).trans' hs8).trans' hs9,?_⟩
  unfold Jf
  rw[if_neg hc]
  exact hB59
 rintro _ g6 w6 ⟨hs6,hB56⟩
 have hs26:Step [] w2 w6:=hs25.then1 hs6 (by omega)
 refine Qw<|Qb<|x (Qq hB56 rfl rfl)<|xl rfl<|QD (us:=[Zf (Jf k n)]) rfl rfl (by decide) (show 1*5≤1000000 by omega) ⟨rfl,rfl,trivial⟩ λb52 w12 hs12 hb52 hB52=>?_
 have hs212:=hs26.trans hs12
 have hz212:=hs212.size
 refine xl rfl<|QZ (news:=Zf (Jf k n)) (L:=[]) (Qs ho2 hs212) rfl rfl rfl (hB52.at (by simp)) (jk _) (by omega) (by omega) λv13 w13 ho13 hs13 hn13 =>
  Qe<|Qw<|Qb<|QO rfl rfl<|Qe<|⟨(k+1,v13),by simp only[];omega,⟨rfl,rfl,trivial⟩,hlt,(hs2.trans hs212).then hs13 (λc hc=>.inr (Qk ho2 c hc).1),?_⟩
 simp only[]
 rw[hsu,List.length_append,List.flatMap_append]
 simpa using ho13
def YV (k:Nat):LI:=(List.range k).map λi:Nat=>(i:Int)
theorem Uw (k:Nat):(YV k).length=k:=by simp[YV]
theorem qN (k:Nat):YV (k+1)=YV k++[(k:Int)]:=by unfold YV;rw[List.range_succ,List.map_append];rfl
theorem yR (k:Nat) (x:Int):x∈YV k↔0≤x∧x<(k:Int):=by
 unfold YV
 simp only[List.mem_map,List.mem_range]
 constructor
 ·rintro ⟨i,hi,rfl⟩;omega
 ·intro h;exact ⟨x.toNat,by omega,by omega⟩
theorem Qex (k:Nat):Yi (YV k):=by
 induction k with
 | zero=>exact List.Pairwise.nil
 | succ k ih =>
  rw[qN]
  refine List.pairwise_append.2 ⟨ih,List.pairwise_singleton _ _,λx hx y hy=>?_⟩
  have:=(yR k x).1 hx
  simp at hy;omega
def YU (n m:Nat):LI:=(List.range n).map λk:Nat=>if k<m then (k:Int) else -1
theorem qT {m k:Nat}(h:k<m):Xc (YV m) (k:Int)=k:=by
 unfold Xc YV
 simp[List.getD,h]
theorem Qkt {fd out R:LI}{t:Int}(hp:fd=out++R) (hm:t∈out):UF fd t=(out.idxOf t:Nat):=by
 subst hp
 unfold UF
 rw[if_pos (List.mem_append_left _ hm),List.idxOf_append,if_pos hm]
theorem Qi9 {fd out R:LI}{t:Int}(hp:fd=out++[t]++R) (hm:t∉out):UF fd t=(out.length:Nat):=by
 subst hp
 unfold UF
 rw[if_pos (by simp),List.append_assoc,List.idxOf_append,if_neg hm]
 simp
theorem qS {n m k:Nat}(h:k<n):Xc (YU n m) (k:Int)=if k<m then (k:Int) else -1:=by
 unfold Xc YU
 simp[List.getD,h]
theorem Qer {n m:Nat}:(YU n m).set m (m:Int)=YU n (m+1):=by
 apply List.ext_getElem
 ·simp[YU]
 ·intro k h1 h2
  have hk:k<n:=by simpa[YU] using h2
  rw[List.getElem_set]
  by_cases e:m=k
  ·subst e;simp[YU]
  ·rw[if_neg e]
   simp only[YU,List.getElem_map,List.getElem_range]
   by_cases h3:k<m
   ·rw[if_pos h3,if_pos (by omega)]
   ·rw[if_neg h3,if_neg (by omega)]
theorem qM {R:Nat→List Ed}(hR:∀i,∀e∈R i,e.1=(i:Int)) (j:Nat):∀n,ZJ ((List.range' 0 n).flatMap R) j=if j<n then R j else []
 | 0=>by simp[ZJ]
 | n+1=>by
  have hn:ZJ (R n) j=if n=j then R n else []:=by
   unfold ZJ
   by_cases e:n=j
   ·rw[if_pos e];exact List.filter_eq_self.2 λx hx=>decide_eq_true (by rw[hR n x hx,e])
   ·rw[if_neg e];exact List.filter_eq_nil_iff.2 λx hx=>by rw[decide_eq_true_eq,hR n x hx];omega
  rw[List.range'_1_concat,List.flatMap_append,Nat.zero_add]
  unfold ZJ at hn ⊢
  rw[List.filter_append]
  have ih:=qM hR j n
  unfold ZJ at ih
  rw[ih]
  simp only[List.flatMap_cons,List.flatMap_nil,List.append_nil]
  rw[hn]
  by_cases h1:j<n
  ·rw[if_pos h1,if_neg (by omega),if_pos (by omega),List.append_nil]
  ·rw[if_neg h1]
   by_cases h2:n=j
   ·subst h2;rw[if_pos rfl,if_pos (by omega),List.nil_append]
   ·rw[if_neg h2,if_neg (by omega)];rfl
section
variable {a:QV}
theorem Ud {s:Int}:∀(vs:LI) (out:LI),∃r,vs.foldl (Kx a s) out=out++r
 | [],out=>⟨[],by simp⟩
 | v::vs,out=>by
  rw[List.foldl_cons]
  obtain ⟨r,hr⟩:=Ud vs (Kx a s out v)
  rw[hr]
  unfold Kx
  split
  ·exact ⟨[nxt a.ed s v]++r,by rw[List.append_assoc]⟩
  ·exact ⟨r,rfl⟩
theorem Uc:∀(f i:Nat) (out:LI),∃r,qW a f i out=out++r
 | 0,i,out=>⟨[],by simp[qW]⟩
 | f+1,i,out=>by
  rw[qW]
  split
  ·obtain ⟨r,hr⟩:=Uc f (i+1) (fdR a out (cget out i))
   obtain ⟨r',hr'⟩:=Ud (a:=a) (s:=cget out i) a.al out
   refine ⟨r'++r,?_⟩
   rw[hr]
   unfold fdR
   rw[hr',List.append_assoc]
  ·exact ⟨[],by simp⟩
theorem V5 {fd:LI}{i:Nat}:∀(vs out:LI) (c:Cs),(∃r,fd=vs.foldl (Kx a (cget fd i)) out++r)→c.ord=YV out.length→c.num=YU fd.length out.length →
  (vs.filterMap (Jj a fd i)).foldl (Zx i) c=⟨YV (vs.foldl (Kx a (cget fd i)) out).length,YU fd.length (vs.foldl (Kx a (cget fd i)) out).length,c.mk',c.ed++vs.filterMap (Jj a fd i)⟩
 | [],out,c,_,h1,h2=>by
  obtain ⟨o,n,m,e⟩:=c
  simp only[] at h1 h2
  subst h1 h2
  simp
 | v::vs,out,c,hr,h1,h2=>by
  rw[List.foldl_cons] at hr ⊢
  obtain ⟨r,hr⟩:=hr
  obtain ⟨r2,hr2⟩:=Ud (a:=a) (s:=cget fd i) vs (Kx a (cget fd i) out v)
  have hpre:fd=Kx a (cget fd i) out v++(r2++r):=by rw[←List.append_assoc,←hr2];exact hr
  by_cases h0:0≤nxt a.ed (cget fd i) v
  ·have hcf:Jj a fd i v=some ((i:Int),v,UF fd (nxt a.ed (cget fd i) v)):=by unfold Jj;rw[if_pos h0]
   rw[List.filterMap_cons,hcf]
   simp only[]
   rw[List.foldl_cons]
   by_cases hm:nxt a.ed (cget fd i) v∈out
   ·have hfe:Kx a (cget fd i) out v=out:=by unfold Kx;rw[if_neg (λh=>h.2 hm)]
    rw[hfe] at hr hpre ⊢
    have hix:UF fd (nxt a.ed (cget fd i) v)=(out.idxOf (nxt a.ed (cget fd i) v):Nat):=Qkt hpre hm
    have hlt:=List.idxOf_lt_length_of_mem hm
    have hle:out.length≤fd.length:=by rw[hpre];simp
    have hst:Zx i c ((i:Int),v,UF fd (nxt a.ed (cget fd i) v))=⟨c.ord,c.num,c.mk',c.ed++[((i:Int),v,UF fd (nxt a.ed (cget fd i) v))]⟩:=by
     unfold Zx
     simp only[]
     rw[h2,hix,qS (by omega),if_pos hlt,if_neg (by omega)]
    rw[hst,V5 vs out ⟨c.ord,c.num,c.mk',c.ed++[((i:Int),v,UF fd (nxt a.ed (cget fd i) v))]⟩ ⟨r,hr⟩ h1 h2]
    simp only[List.append_assoc,List.singleton_append]
   ·have hfe:Kx a (cget fd i) out v=out++[nxt a.ed (cget fd i) v]:=by unfold Kx;rw[if_pos ⟨h0,hm⟩]
    rw[hfe] at hr hpre ⊢
    have hix:UF fd (nxt a.ed (cget fd i) v)=(out.length:Nat):=Qi9 hpre hm
    have hle:out.length<fd.length:=by rw[hpre];simp
    have hst:Zx i c ((i:Int),v,UF fd (nxt a.ed (cget fd i) v))=⟨YV (out.length+1),YU fd.length (out.length+1),c.mk',c.ed++[((i:Int),v,UF fd (nxt a.ed (cget fd i) v))]⟩:=by
     unfold Zx
     simp only[]
     rw[h1,h2,hix,qS hle,if_neg (Nat.lt_irrefl _),if_pos (by omega),Uw,qN]
     simp only[Int.toNat_natCast]
     rw[Qer]
    rw[hst,V5 vs (out++[nxt a.ed (cget fd i) v]) _ ⟨r,hr⟩ (by simp) (by simp)]
    simp only[List.append_assoc,List.singleton_append]
  ·have hcf:Jj a fd i v=none:=by unfold Jj;rw[if_neg h0]
   have hfe:Kx a (cget fd i) out v=out:=by unfold Kx;rw[if_neg (λh=>h0 h.1)]
   rw[hfe] at hr ⊢
   rw[List.filterMap_cons,hcf]
   exact V5 vs out c ⟨r,hr⟩ h1 h2
theorem QfL (fd:LI) (i:Nat):Yo a fd (i+1)=Yo a fd i++(if cget fd i∈a.mr then [(i:Int)] else []):=by
 unfold Yo
 rw[List.range'_1_concat,List.filter_append,List.map_append,Nat.zero_add]
 by_cases h:cget fd i∈a.mr <;> simp[h]
theorem QfN (fd:LI) (i:Nat):YB a fd (i+1)=YB a fd i++a.al.filterMap (Jj a fd i):=by
 unfold YB
 rw[List.range'_1_concat,List.flatMap_append,Nat.zero_add]
 simp
theorem jF {fd:LI}{i n:Nat}(h:i<n):(i:Int)∈Yo a fd n↔cget fd i∈a.mr:=by
 unfold Yo
 simp only[List.mem_map,List.mem_filter,List.mem_range'_1,decide_eq_true_eq]
 constructor
 ·rintro ⟨k,⟨_,h2⟩,h3⟩
  have:k=i:=by omega
  subst this;exact h2
 ·intro h2;exact ⟨i,⟨by omega,h2⟩,rfl⟩
theorem QfM {fd:LI}(hfd:fd=found a) (hle:fd.length≤a.st.toNat):∀(f g i:Nat) (out:LI),i≤out.length→qW a g i out=fd→i+g=a.st.toNat→fd.length≤i+f →
  Jt (Ys a) f i ⟨YV out.length,YU fd.length out.length,Yo a fd i,YB a fd i⟩=⟨YV fd.length,YU fd.length fd.length,Yo a fd fd.length,YB a fd fd.length⟩:=by
 have hbe:(Ys a).ed=YB a fd fd.length:=by rw[hfd];rfl
 have hbm:(Ys a).mr=Yo a fd fd.length:=by rw[hfd];rfl
 have done:∀(i:Nat) (out:LI),i≤out.length→out=fd→¬i<out.length→(⟨YV out.length,YU fd.length out.length,Yo a fd i,YB a fd i⟩:Cs)=⟨YV fd.length,YU fd.length fd.length,Yo a fd fd.length,YB a fd fd.length⟩:=by
  intro i out h1 h2 h3
  have:i=fd.length:=by rw[←h2];omega
  rw[this,h2]
 intro f
 induction f with
 | zero =>
  intro g i out h1 h2 h3 h4
  obtain ⟨r,hr⟩:=Uc (a:=a) g i out
  rw[h2] at hr
  have hl:fd.length=out.length+r.length:=by rw[hr,List.length_append]
  have hr0:r=[]:=List.eq_nil_of_length_eq_zero (by omega)
  rw[Jt]
  exact done i out h1 (by rw[hr,hr0,List.append_nil]) (by omega)
 | succ f ih =>
  intro g i out h1 h2 h3 h4
  obtain ⟨r,hr⟩:=Uc (a:=a) g i out
  rw[h2] at hr
  have hl:fd.length=out.length+r.length:=by rw[hr,List.length_append]
  rw[Jt]
  simp only[Uw]
  by_cases hi:i<out.length
  ·rw[if_pos hi]
   obtain ⟨g',rfl⟩:∃g',g=g'+1:=⟨g - 1,by omega⟩
   rw[qW,if_pos hi] at h2
   have hcg:cget out i=cget fd i:=by
    rw[hr];unfold cget
    simp[List.getD,List.getElem?_append_left hi]
   rw[hcg] at h2
   have hin:i<fd.length:=by omega
   have hrow:ZJ (Ys a).ed (i:Int)=a.al.filterMap (Jj a fd i):=by
    rw[hbe]
    unfold YB
    rw[qM (λj e he=>by
     obtain ⟨v,_,hv⟩:=List.mem_filterMap.1 he
     unfold Jj at hv
     split at hv
     ·cases hv;rfl
     ·cases hv),if_pos hin]
   have hmk:Yk (Ys a) i ⟨YV out.length,YU fd.length out.length,Yo a fd i,YB a fd i⟩=⟨YV out.length,YU fd.length out.length,Yo a fd (i+1),YB a fd i⟩:=by
    unfold Yk
    simp only[]
    rw[qT hi,hbm,QfL]
    by_cases hc:cget fd i∈a.mr
    ·rw[if_pos ((jF hin).2 hc),if_pos hc]
    ·rw[if_neg (λh=>hc ((jF hin).1 h)),if_neg hc];simp
   have hrw:qi (Ys a) i ⟨YV out.length,YU fd.length out.length,Yo a fd i,YB a fd i⟩=⟨YV (fdR a out (cget fd i)).length,YU fd.length (fdR a out (cget fd i)).length,Yo a fd (i+1),YB a fd (i+1)⟩:=by
    unfold qi
    rw[hmk]
    simp only[]
    rw[qT hi,hrow]
    obtain ⟨r3,hr3⟩:=Uc (a:=a) g' (i+1) (fdR a out (cget fd i))
    rw[h2] at hr3
    rw[V5 a.al out ⟨YV out.length,YU fd.length out.length,Yo a fd (i+1),YB a fd i⟩ ⟨r3,hr3⟩ rfl rfl,QfN]
    rfl
   rw[hrw]
   obtain ⟨r4,hr4⟩:=Ud (a:=a) (s:=cget fd i) a.al out
   exact ih g' (i+1) _ (by unfold fdR;rw[hr4,List.length_append];omega) h2 (by omega) (by omega)
  ·rw[if_neg hi]
   have h5:qW a g i out=out:=by
    cases g with
    | zero=>rfl
    | succ g=>rw[qW,if_neg hi]
   exact done i out h1 (h5.symm.trans h2) hi
theorem QfK (ho:Zs a) (h0:0<a.st):Ju (Ys a)=Ys a:=by
 have hpos:=jE ho h0
 have hfl:=(K0 ho).1.len ho.st0
 have hst:(Ys a).st=((found a).length:Int):=rfl
 have hsn:(Ys a).st.toNat=(found a).length:=by omega
 have hfp:0<(found a).length:=by omega
 have h:=QfM (a:=a) rfl hfl (found a).length a.st.toNat 0 (fd0 a) (Nat.zero_le _) rfl (by omega) (by omega)
 have hf0:fd0 a=[0]:=by unfold fd0;rw[if_pos h0]
 rw[hf0] at h
 have hc0:Jk (Ys a)=⟨YV 1,YU (found a).length 1,Yo a (found a) 0,YB a (found a) 0⟩:=by
  unfold Jk
  rw[hsn]
  have e:(List.replicate (found a).length (-1:Int)).set 0 0=YU (found a).length 1:=by
   apply List.ext_getElem
   ·simp[YU]
   ·intro k h1 h2
    rw[List.getElem_set]
    simp only[YU,List.getElem_map,List.getElem_range,List.getElem_replicate]
    by_cases e:k=0
    ·subst e;simp
    ·rw[if_neg (by omega),if_neg (by omega)]
  rw[e]
  simp[YV,Yo,YB]
 unfold Ju
 rw[if_neg (by omega)]
 simp only[]
 rw[hc0,hsn]
 have h':Jt (Ys a) (found a).length 0 ⟨YV 1,YU (found a).length 1,Yo a (found a) 0,YB a (found a) 0⟩=⟨YV (found a).length,YU (found a).length (found a).length,Yo a (found a) (found a).length,YB a (found a) (found a).length⟩:=h
 rw[h']
 simp only[Uw]
 rfl
theorem Qav (ho:Zs a) (h0:0<a.st):JH (Ys a)=true:=by
 unfold JH
 rw[QfK ho h0]
 simp[(ZE _).2 (yf ho).1]
theorem GdA.can {a:QV}(h:GdA a):JH a=true:=by
 obtain ⟨a0,h1,h2,rfl⟩:=h.c
 exact Qav h1 h2
end
structure D25 (c:Zv):Prop where
 ev:∃ns:LN,ns.length=5∧c.ev=Y5 ns 5
 c0:c.co.length≠0
 c3:c.co.length≤3
 r2:c.rq.length≤2
 co:∀x∈c.co,Yy x.nm=true∧GdA x.a∧∀e∈x.a.al,e<5
 rq:∀x∈c.rq,Yy x.nm=true∧GdA x.a∧∀e∈x.a.al,∃y∈c.co,e∈y.a.al
 nd:(c.co.map (·.nm)++c.rq.map (·.nm)).Nodup
 x2:c.ex.length≤2
 ex:∀x∈c.ex,Yy x.nm=true∧x.ls≠[]∧YJ (szs c.co) none x.ls=0
 xn:(c.ex.map (·.nm)).Nodup
 k1:c.cs.length≤1
 cs:∀x∈c.cs,Yy x.nm=true∧YH (szs c.co) x=0
theorem Qgq (n:Nat) (x:Int):x∈Jw n↔0≤x∧x<(n:Int):=yR n x
theorem Qgr (n:Nat):Yi (Jw n):=Qex n
theorem Qg0 {a b:LI}(ia:Yi a) (ib:Yi b) (h:∀e∈a,e∈b):(mns a b).length=0:=by
 refine Nat.eq_zero_of_not_pos λhp=>?_
 obtain ⟨x,hx⟩:=List.exists_mem_of_length_pos hp
 have:=(Ub ia ib x).1 hx
 by_cases h1:x∈a
 ·simp[h1,h x h1] at this
 ·simp[h1] at this
theorem QbZ {nev:Nat}{amg:LI}{seen:List ByteArray}{x:YE}(hn:Yy x.nm=true) (hs:x.nm∉seen) (hg:GdA x.a) (he:∀e∈x.a.al,e<(nev:Int)) (hi:Yi amg) (hm:∀e∈x.a.al,e∈amg):Z0 nev amg seen x=0:=by
 have hp:=hg.p
 unfold Z0
 rw[if_neg (by rw[hn];decide),if_neg hs,if_neg (by simpa using (ZE _).2 hg.ok),if_neg (by rw[hg.can];decide),if_neg (by omega),if_neg,if_neg (by simpa using Qg0 hg.ok.ali hi hm)]
 intro h
 obtain ⟨e,h1,h2⟩:=List.any_eq_true.1 h
 have:=he e h1
 have:=of_decide_eq_true h2
 omega
theorem Qb0 {nev:Nat}{al:LI}(hal:Yi al):∀(l:List YE) (s:List ByteArray) (u:LI),Yi u→(∀x∈l,Yy x.nm=true∧GdA x.a∧∀e∈x.a.al,e<(nev:Int)∧e∈al)→(s++l.map (·.nm)).Nodup →
  ∃u',Z5 nev al s u l=(0,s++l.map (·.nm),u')∧Yi u'∧∀e,e∈u'↔e∈u∨∃y∈l,e∈y.a.al
 | [],s,u,hu,_,_=>⟨u,by simp[Z5],hu,by simp⟩
 | x::l,s,u,hu,hx,hn=>by
  obtain ⟨h1,h2,h3⟩:=hx x List.mem_cons_self
  have hsn:x.nm∉s:=by
   intro hm
   rw[List.map_cons,List.nodup_append] at hn
   exact hn.2.2 _ hm _ List.mem_cons_self rfl
  have hz:=QbZ h1 hsn h2 (λe he=>(h3 e he).1) hal (λe he=>(h3 e he).2)
  obtain ⟨u',k1,k2,k3⟩:=Qb0 hal l (s++[x.nm]) (mrg (· || ·) u x.a.al) (Qbu _ _ _ _ (Nat.le_refl _) hu h2.ok.ali) (λy hy=>hx y (List.mem_cons_of_mem _ hy)) (by simpa using hn)
  refine ⟨u',?_,k2,λe=>?_⟩
  ·rw[Z5,if_neg (by simpa using hz),k1];simp
  ·rw[k3,Ub hu h2.ok.ali]
   constructor
   ·rintro (⟨h5 | h5,_⟩ | ⟨y,hy,h6⟩)
    ·exact .inl h5
    ·exact .inr ⟨x,List.mem_cons_self,h5⟩
    ·exact .inr ⟨y,List.mem_cons_of_mem _ hy,h6⟩
   ·rintro (h5 | ⟨y,hy,h6⟩)
    ·exact .inl ⟨.inl h5,by simp[h5]⟩
    ·rcases List.mem_cons.1 hy with rfl | hy
     ·exact .inl ⟨.inr h6,by simp[h6]⟩
     ·exact .inr ⟨y,hy,h6⟩
theorem QbX {nev:Nat}{u:LI}(hu:Yi u):∀(l:List YE) (s:List ByteArray),(∀x∈l,Yy x.nm=true∧GdA x.a∧∀e∈x.a.al,e<(nev:Int)∧e∈u)→(s++l.map (·.nm)).Nodup→X5 nev u s l=0
 | [],s,_,_=>rfl
 | x::l,s,hx,hn=>by
  obtain ⟨h1,h2,h3⟩:=hx x List.mem_cons_self
  have hsn:x.nm∉s:=by
   intro hm
   rw[List.map_cons,List.nodup_append] at hn
   exact hn.2.2 _ hm _ List.mem_cons_self rfl
  have hz:=QbZ h1 hsn h2 (λe he=>(h3 e he).1) hu (λe he=>(h3 e he).2)
  rw[X5,if_neg (by simpa using hz)]
  exact QbX hu l (s++[x.nm]) (λy hy=>hx y (List.mem_cons_of_mem _ hy)) (by simpa using hn)
theorem qZ {sz:LI}:∀(l:List zg) (s:List ByteArray),(∀x∈l,Yy x.nm=true∧x.ls≠[]∧YJ sz none x.ls=0)→(s++l.map (·.nm)).Nodup→Ya sz s l=0
 | [],s,_,_=>rfl
 | x::l,s,hx,hn=>by
  obtain ⟨h1,h2,h3⟩:=hx x List.mem_cons_self
  have hsn:x.nm∉s:=by
   intro hm
   rw[List.map_cons,List.nodup_append] at hn
   exact hn.2.2 _ hm _ List.mem_cons_self rfl
  have hz:JN s x.nm=0:=by unfold JN;rw[if_neg (by rw[h1];decide),if_neg hsn]
  have hl:x.ls.length≠0:=λh=>h2 (List.eq_nil_of_length_eq_zero h)
  have hz2:XK sz x.ls=0:=by unfold XK;rw[if_neg hl];exact h3
  rw[Ya,if_neg (by simpa using hz),if_neg (by simpa using hz2)]
  exact qZ l (s++[x.nm]) (λy hy=>hx y (List.mem_cons_of_mem _ hy)) (by simpa using hn)
theorem Qet:∀{k:Nat},k<5→Yy (nm1 97 k)=true
 | 0,_=>by decide
 | 1,_=>by decide
 | 2,_=>by decide
 | 3,_=>by decide
 | 4,_=>by decide
theorem K6 {seen:List ByteArray}{k n:Nat}(hk:k<5) (hs:nm1 97 k∉seen):Y6 seen (Jf k n)=0:=by
 have hnm:(Jf k n).nm=nm1 97 k:=by unfold Jf;split <;> rfl
 unfold Y6
 rw[hnm,if_neg (by rw[Qet hk];decide),if_neg hs]
 unfold Jf
 by_cases h:48≤n∧n<52
 ·rw[if_pos h]
  simp only[]
  rw[if_neg (by omega),if_neg (by simp)]
 ·rw[if_neg h]
  simp only[]
  rw[if_neg (by omega),if_neg (by simp)]
theorem Qft (ns:LN):Jg (Y5 ns 5)=0:=by
 have e:Y5 ns 5=[Jf 0 (ns.getD 0 0),Jf 1 (ns.getD 1 0),Jf 2 (ns.getD 2 0),Jf 3 (ns.getD 3 0),Jf 4 (ns.getD 4 0)]:=rfl
 have hnm:∀k n,(Jf k n).nm=nm1 97 k:=λk n=>by unfold Jf;split <;> rfl
 unfold Jg
 rw[if_neg (by rw[JY];decide),e]
 simp only[VO,hnm]
 rw[K6 (by decide) (by decide),K6 (by decide) (by decide),K6 (by decide) (by decide),K6 (by decide) (by decide),K6 (by decide) (by decide)]
 simp
theorem D25.ck {c:Zv}(h:D25 c):Zi c=0:=by
 obtain ⟨ns,_,hev⟩:=h.ev
 have hc3:=h.c3
 have hr2:=h.r2
 have hel:c.ev.length=5:=by rw[hev,JY]
 obtain ⟨u',k1,k2,k3⟩:=Qb0 (nev:=c.ev.length) (al:=Jw c.ev.length) (Qgr _) c.co [] [] List.Pairwise.nil (λx hx=>by
  obtain ⟨h1,h2,h3⟩:=h.co x hx
  refine ⟨h1,h2,λe he=>?_⟩
  have:=h3 e he
  have:=(h2.ok.al e he).1
  rw[hel,Qgq]
  exact ⟨by omega,by omega,by omega⟩) (by
  have:=h.nd
  rw[List.nodup_append] at this
  simpa using this.1)
 have hrq:=QbX (nev:=c.ev.length) k2 c.rq (c.co.map (·.nm)) (λx hx=>by
  obtain ⟨h1,h2,h3⟩:=h.rq x hx
  refine ⟨h1,h2,λe he=>?_⟩
  obtain ⟨y,hy,h4⟩:=h3 e he
  have:=(h.co y hy).2.2 e h4
  exact ⟨by omega,(k3 e).2 (.inr ⟨y,hy,h4⟩)⟩) h.nd
 unfold Zi
 rw[if_neg (by rw[hev];simpa using Qft ns),if_neg h.c0,if_neg (by omega),k1]
 simp only[List.nil_append]
 rw[if_neg (by simp),if_neg (by simpa using hrq)]
 unfold Yr
 have hsl:(szs c.co).length=c.co.length:=by unfold szs;simp
 have hx2:=h.x2
 have hk1:=h.k1
 have hbad:¬(szs c.co).any Jq=true:=by
  intro hb
  obtain ⟨n,h1,h2⟩:=List.any_eq_true.1 hb
  unfold szs at h1
  obtain ⟨x,hx,rfl⟩:=List.mem_map.1 h1
  have:=(h.co x hx).2.1
  have h3:=this.p
  have h4:=this.s
  unfold Jq at h2
  simp at h2
  omega
 rw[if_neg (by omega),if_neg hbad,if_neg (by omega),if_neg (by simpa using qZ c.ex [] h.ex (by simpa using h.xn))]
 rcases hcs:c.cs with _ | ⟨x,l⟩
 ·rfl
 ·have hl:l=[]:=List.eq_nil_of_length_eq_zero (by rw[hcs,List.length_cons] at hk1;omega)
  obtain ⟨h1,h2⟩:=h.cs x (by rw[hcs];exact List.mem_cons_self)
  have hz:JN [] x.nm=0:=by unfold JN;rw[if_neg (by rw[h1];decide),if_neg (by simp)]
  rw[hl,YA,if_neg (by simpa using hz),if_neg (by simpa using h2)]
  rfl
end Go.Proofs.YtdffckgdcegpaaaGreatDoor
namespace Go.Proofs
open Go.Proofs.Tryz
open Go.Shelf
def Tryz.sortI_ren:Go.Shelf.Ren:=⟨λ| 5=>101 | 8=>176 | 7=>175 | 19=>229 | 20=>230 | 10=>221 | 11=>222 | 12=>223 | 13=>224 | 14=>225 | 15=>226 | 16=>160 | 17=>227 | 18=>228 | 30=>267 | 31=>268 | 32=>269 | 33=>270 | 34=>271 | 35=>219 | 40=>296 | n=>n,λ| 23=>37 | 25=>3 | 3=>3 | 32=>269 | 22=>37 | 0=>0 | 44=>338 | 46=>340 | 4=>4 | 36=>332 | 35=>331 | 41=>178 | 5=>5 | 9=>9 | 53=>372 | 57=>376 | 63=>401 | 64=>381 | n=>n,λ| n=>n⟩
theorem Tryz.sortI:Go.Proofs.SlLaysM.n5 prog Tryz.sortI_ren:={
 mixed:=by kernel_rfl
 f5:=⟨Tryz.f101.name,by decide,func101.trans (congrArg some (by kernel_rfl))⟩
 f7:=⟨Tryz.f175.name,by decide,func175.trans (congrArg some (by kernel_rfl))⟩
 f8:=func176.trans (congrArg some (by kernel_rfl))
 f10:=⟨Tryz.f221.name,by decide,func221.trans (congrArg some (by kernel_rfl))⟩
 f11:=⟨Tryz.f222.name,by decide,func222.trans (congrArg some (by kernel_rfl))⟩
 f12:=⟨Tryz.f223.name,by decide,func223.trans (congrArg some (by kernel_rfl))⟩
 f13:=⟨Tryz.f224.name,by decide,func224.trans (congrArg some (by kernel_rfl))⟩
 f14:=⟨Tryz.f225.name,by decide,func225.trans (congrArg some (by kernel_rfl))⟩
 f15:=⟨Tryz.f226.name,by decide,func226.trans (congrArg some (by kernel_rfl))⟩
 f16:=⟨Tryz.f160.name,by decide,func160.trans (congrArg some (by kernel_rfl))⟩
 f17:=⟨Tryz.f227.name,by decide,func227.trans (congrArg some (by kernel_rfl))⟩
 f18:=⟨Tryz.f228.name,by decide,func228.trans (congrArg some (by kernel_rfl))⟩
 f19:=func229.trans (congrArg some (by kernel_rfl))
 f20:=func230.trans (congrArg some (by kernel_rfl))
 f30:=⟨Tryz.f267.name,by decide,func267.trans (congrArg some (by kernel_rfl))⟩
 f31:=func268.trans (congrArg some (by kernel_rfl))
 f32:=func269.trans (congrArg some (by kernel_rfl))
 f33:=⟨Tryz.f270.name,by decide,func270.trans (congrArg some (by kernel_rfl))⟩
 f34:=⟨Tryz.f271.name,by decide,func271.trans (congrArg some (by kernel_rfl))⟩
 f35:=⟨Tryz.f219.name,by decide,func219.trans (congrArg some (by kernel_rfl))⟩
 f40:=⟨Tryz.f296.name,by decide,func296.trans (congrArg some (by kernel_rfl))⟩
 t0:=underlying0
 a0:=Tryz.isAgg0
 z0:=Tryz.sizeOf0
 v0:=Tryz.zeroValue0
 t3:=underlying3
 a3:=Tryz.isAgg3
 z3:=Tryz.sizeOf3
 v3:=Tryz.zeroValue3
 t4:=underlying4
 a4:=Tryz.isAgg4
 z4:=Tryz.sizeOf4
 v4:=Tryz.zeroValue4
 t5:=underlying5
 a5:=Tryz.isAgg5
 z5:=Tryz.sizeOf5
 v5:=Tryz.zeroValue5
 t9:=underlying9
 a9:=Tryz.isAgg9
 z9:=Tryz.sizeOf9
 v9:=Tryz.zeroValue9
 t22:=underlying37
 a22:=Tryz.isAgg37
 z22:=Tryz.sizeOf37
 v22:=Tryz.zeroValue37
 t23:=underlying37
 a23:=Tryz.isAgg37
 z23:=Tryz.sizeOf37
 v23:=Tryz.zeroValue37
 t25:=underlying3
 a25:=Tryz.isAgg3
 z25:=Tryz.sizeOf3
 v25:=Tryz.zeroValue3
 t32:=underlying269
 a32:=Tryz.isAgg269
 z32:=Tryz.sizeOf269
 v32:=Tryz.zeroValue269
 t35:=underlying331
 a35:=Tryz.isAgg331
 z35:=Tryz.sizeOf331
 v35:=Tryz.zeroValue331
 t36:=underlying332
 a36:=Tryz.isAgg332
 z36:=Tryz.sizeOf332
 v36:=Tryz.zeroValue332
 t41:=underlying178
 a41:=Tryz.isAgg178
 z41:=Tryz.sizeOf178
 v41:=Tryz.zeroValue178
 t44:=underlying338
 a44:=Tryz.isAgg338
 z44:=Tryz.sizeOf338
 v44:=Tryz.zeroValue338
 t46:=underlying340
 a46:=Tryz.isAgg340
 z46:=Tryz.sizeOf340
 v46:=Tryz.zeroValue340
 t53:=underlying372
 a53:=Tryz.isAgg372
 z53:=Tryz.sizeOf372
 v53:=Tryz.zeroValue372
 t57:=underlying376
 a57:=Tryz.isAgg376
 z57:=Tryz.sizeOf376
 v57:=Tryz.zeroValue376
 t63:=underlying401
 a63:=Tryz.isAgg401
 z63:=Tryz.sizeOf401
 v63:=Tryz.zeroValue401
 t64:=underlying381
 a64:=Tryz.isAgg381
 z64:=Tryz.sizeOf381
 v64:=Tryz.zeroValue381 }
def Tryz.cmpI_ren:Go.Shelf.Ren:=⟨λ| 43=>129 | n=>n,λ| 22=>37 | 23=>3 | 3=>3 | 4=>4 | 0=>0 | n=>n,λ| n=>n⟩
theorem Tryz.cmpI:Go.Proofs.SlLaysE.n43 prog Tryz.cmpI_ren:={
 mixed:=by kernel_rfl
 f43:=⟨Tryz.f129.name,by decide,func129.trans (congrArg some (by kernel_rfl))⟩
 t0:=underlying0
 a0:=Tryz.isAgg0
 z0:=Tryz.sizeOf0
 v0:=Tryz.zeroValue0
 t3:=underlying3
 a3:=Tryz.isAgg3
 z3:=Tryz.sizeOf3
 v3:=Tryz.zeroValue3
 t4:=underlying4
 a4:=Tryz.isAgg4
 z4:=Tryz.sizeOf4
 v4:=Tryz.zeroValue4
 t22:=underlying37
 a22:=Tryz.isAgg37
 z22:=Tryz.sizeOf37
 v22:=Tryz.zeroValue37
 a23:=Tryz.isAgg3
 z23:=Tryz.sizeOf3 }
def Tryz.delI_ren:Go.Shelf.Ren:=⟨λ| 10=>55 | 6=>131 | n=>n,λ| 22=>37 | 23=>3 | 25=>118 | 3=>3 | 4=>4 | 0=>0 | n=>n,λ| n=>n⟩
theorem Tryz.delI:Go.Proofs.SlLaysH.n10 prog Tryz.delI_ren:={
 mixed:=by kernel_rfl
 f6:=⟨Tryz.f131.name,by decide,func131.trans (congrArg some (by kernel_rfl))⟩
 f10:=⟨Tryz.f55.name,by decide,func55.trans (congrArg some (by kernel_rfl))⟩
 t0:=underlying0
 a0:=Tryz.isAgg0
 z0:=Tryz.sizeOf0
 v0:=Tryz.zeroValue0
 t3:=underlying3
 a3:=Tryz.isAgg3
 z3:=Tryz.sizeOf3
 v3:=Tryz.zeroValue3
 t4:=underlying4
 a4:=Tryz.isAgg4
 z4:=Tryz.sizeOf4
 v4:=Tryz.zeroValue4
 t22:=underlying37
 a22:=Tryz.isAgg37
 z22:=Tryz.sizeOf37
 v22:=Tryz.zeroValue37
 a23:=Tryz.isAgg3
 z23:=Tryz.sizeOf3
 t25:=underlying118
 a25:=Tryz.isAgg118
 z25:=Tryz.sizeOf118
 v25:=Tryz.zeroValue118 }
end Go.Proofs
namespace Go.Proofs.YtdffckgdcegpaaaGreatDoor
open Go.Proofs.Tryz
open Go.Lg Go.Sort Go.Lib
abbrev iC:Int→Value:=Value.int .i64
theorem Vp {e:Nat}{w:World}{l:LI}{g:Nat}{cur:Array Value}(hg:w.heap[g]?=some (.cells cur e (0,0))) (htk:cur.toList.take (l.length*1)=l.map iC):Holds iC w g 0 l.toArray:=by
 intro j hj
 rw[List.size_toArray] at hj
 have h1:cur.toList[j]?=some (iC l[j]):=by
  have h2:(cur.toList.take (l.length*1))[j]?=(l.map iC)[j]?:=by rw[htk]
  rw[List.getElem?_take,if_pos (by omega),List.getElem?_map,List.getElem?_eq_getElem hj] at h2
  exact h2
 have h3:l.toArray[j]! = l[j]:=by simp[hj]
 constructor
 ·show (match w.heap[g]? with | some (.cells c _ _)=>if (none:Option _).isSome then none else c[0+j]? | _=>none)=_
  rw[hg,h3]
  simp only[Nat.zero_add,Option.isSome_none,Bool.false_eq_true,if_false]
  rw[←Array.getElem?_toList,h1]
 ·show (match w.heap[g]? with | some (.cells _ _ (lo,hi))=>decide (lo≤0+j) && decide (0+j<hi) | _=>false)=false
  rw[hg];simp
theorem zz {e base:Nat}{w:World}{g cap n k:Nat}{cur:Array Value}{os:Array Obj}{d:Array Int}(hbg:base≤g) (hg:w.heap[g]?=some (.cells cur e (0,0))) (hdc:d.size≤cap) (hcm:cap≤maxLen) (hcs:cur.size=cap*1) (hk:k≤d.size) :
  Step [g] w (grow (putRow iC (Sort.ahead w n) g 0 d) os)∧Qu e base (grow (putRow iC (Sort.ahead w n) g 0 d) os) (.slice (some ⟨g,0,none⟩) k cap) (d.toList.take k):=by
 have hlt:g<w.heap.size:=(Array.getElem?_eq_some_iff.1 hg).1
 have hhp:(grow (putRow iC (Sort.ahead w n) g 0 d) os).heap=w.heap.modify g (onCells (putCells iC 0 d))++os:=rfl
 have hlk:(d.toList.take k).length=k:=by simp;omega
 refine ⟨⟨rfl,rfl,rfl,?_,λi hi hn=>?_⟩,?_⟩
 ·rw[hhp,Array.size_append,Array.size_modify];omega
 ·rw[hhp,Array.getElem?_append,Array.size_modify,if_pos hi,Array.getElem?_modify,if_neg (λe=>hn (by simp[e]))]
 ·unfold Qu
  rw[hlk]
  refine ⟨by simp;omega,.inr ⟨g,cap,putCells iC 0 d cur,rfl,hbg,?_,by omega,hcm,by simp[putCells,hcs],?_⟩⟩
  ·rw[hhp,Array.getElem?_append,Array.size_modify,if_pos hlt,Array.getElem?_modify,if_pos rfl,hg];rfl
  ·apply List.ext_getElem?
   intro j
   rw[List.getElem?_take,List.getElem?_map,List.getElem?_take]
   by_cases hj:j<k
   ·rw[if_pos (by omega),if_pos hj]
    have hjc:j<cur.size:=by omega
    have hjd:j<d.size:=by omega
    rw[Array.getElem?_toList,Array.getElem?_toList,Array.getElem?_eq_getElem hjd]
    simp only[putCells,Array.getElem?_mapIdx,Array.getElem?_eq_getElem hjc,Option.map_some,Nat.zero_le,Nat.zero_add,true_and,if_pos hjd,Nat.sub_zero]
    rw[getElem!_pos d j hjd]
   ·rw[if_neg (by omega),if_neg hj];rfl
theorem qF {w:World}{base:Nat}{v:Value}{l:LI}(h:Qu 3 base w v l) (hl:l.length≤1099511627776) :
  QJ prog 101 [v] w λ_ w'=>Step (ob v) w w'∧Qu 3 base w' v (l.mergeSort λx y=>decide (x≤y)):=by
 unfold QJ
 rcases h.2 with ⟨rfl,h0⟩ | ⟨g,cap,cur,rfl,hbg,hg,hnc,hcm,hcs,htk⟩
 ·have hl0:l=[]:=List.eq_nil_of_length_eq_zero h0
  subst hl0
  have hc:=AnyM.slices_Sort_int_none Tryz.sortI none 0 w
  change Calls prog 101 _ _ _ at hc
  refine Calls.mono hc λe w' he=>?_
  obtain ⟨rfl,rfl⟩:=he
  exact ⟨Step.refl _ _,by rw[List.mergeSort_nil];exact h⟩
 ·have hlt:g<w.heap.size:=(Array.getElem?_eq_some_iff.1 hg).1
  have hc:=AnyM.slices_Sort_int Tryz.sortI g 0 cap l w (Vp hg htk) hlt (by omega)
  change Calls prog 101 _ _ _ at hc
  refine Calls.mono hc λe w' he=>?_
  obtain ⟨rfl,n,os,rfl⟩:=he
  have hp:=List.mergeSort_perm l (λx y=>decide (x≤y))
  have hlen:=hp.length_eq
  have:=zz (e:=3) (n:=n) (k:=l.length) (os:=os) (d:=(l.mergeSort λx y=>decide (x≤y)).toArray) hbg hg (by simp;omega) hcm hcs (by simp)
  refine ⟨this.1,?_⟩
  have h2:=this.2
  simp only[List.take_of_length_le (Nat.le_of_eq hlen)] at h2
  unfold Qu at h2 ⊢
  rw[hlen] at h2 ⊢
  exact h2
theorem QdS {w:World}{base:Nat}{v:Value}{l:LI}(h:Qu 3 base w v l) (hl:l.length≤1099511627776) :
  QJ prog 101 [v] w λ_ w'=>Step (ob v) w w'∧∃l',l'.length=l.length∧(∀x,x∈l'↔x∈l)∧Qu 3 base w' v l' :=
 (qF h hl).mono λ_ _ ⟨h1,h2⟩=>⟨h1,_,(List.mergeSort_perm l _).length_eq,λ_=>(List.mergeSort_perm l _).mem_iff,h2⟩
theorem QbU (l:LI):∀m,m≤l.length→∀x,x∈compactUpTo l.toArray m↔x∈l.take m
 | 0,_,x=>by simp[compactUpTo]
 | m+1,h,x=>by
  have ih:=QbU l m (by omega) x
  have hm:m<l.length:=by omega
  have hx:l.toArray[m]! = l[m]:=by simp[hm]
  rw[compactUpTo_succ,List.mem_append,ih,List.take_succ_eq_append_getElem hm,List.mem_append,hx,List.mem_singleton]
  by_cases hk:keeps l.toArray m=true
  ·rw[if_pos hk,List.mem_singleton]
  ·rw[if_neg hk]
   refine ⟨λh=>.inl (h.resolve_right (by simp)),λh=>.inl (h.elim id λe=>?_)⟩
   simp only[keeps,decide_eq_true_eq,not_or] at hk
   have h0:m≠0:=by simpa using hk.1
   have h1:l.toArray[m]! = l.toArray[m - 1]!:=by simpa using hk.2
   have h2:l.toArray[m - 1]! = l[m - 1]:=by simp[show m - 1<l.length by omega]
   rw[e,←hx,h1,h2]
   rw[List.mem_take_iff_getElem]
   exact ⟨m - 1,by omega,rfl⟩
theorem QhP {w:World}{base:Nat}{v:Value}{l:LI}(h:Qu 3 base w v l) (hl:l.length≤1099511627776) :
  QJ prog 129 [v] w λr w'=>Step (ob v) w w'∧∃l',l'.length≤l.length∧(∀x,x∈l'↔x∈l)∧Qu 3 base w' r l':=by
 rcases h.2 with ⟨rfl,h0⟩ | ⟨g,cap,cur,rfl,hbg,hg,hnc,hcm,hcs,htk⟩
 ·have hl0:l=[]:=List.eq_nil_of_length_eq_zero h0
  subst hl0
  refine QJ.of_W func129 rfl ntmps129 results129 (by simp) ?_
  refine Qc<|Qe<|Qf<|Qc<|Qb<|x (yM rfl)<|x (QB rfl rfl)<|xe ?_
  refine Q4 rfl (λ_=>?_) (λh8=>absurd (by decide) h8)
  refine Qc<|Qb<|Qe ?_
  exact Ql ⟨[nS],⟨rfl,trivial⟩,Step.refl _ _,[],Nat.le_refl _,λx=>Iff.rfl,h⟩
 ·unfold QJ
  have hc:=AnyE.slices_Compact Tryz.cmpI iC (λ_=>rfl) (.intD _ _ .i64) (.intD _ _ .i64) 0 (λw=>by kernel_rfl) g 0 cap l.toArray w (Vp hg htk) (by simp;omega) (by simpa using hnc)
  change Calls prog 129 _ _ _ at hc
  rw[List.size_toArray] at hc
  refine Calls.mono hc λe w' he=>?_
  obtain ⟨rfl,q,rfl⟩:=he
  have hm:=QbU l l.length (Nat.le_refl _)
  rw[List.take_length] at hm
  have hle:(compactUpTo l.toArray l.length).length≤l.length:=by
   unfold compactUpTo
   rw[List.length_map]
   exact Nat.le_trans (List.length_filter_le _ _) (by simp)
  generalize compactUpTo l.toArray l.length=u at *
  have:=zz (e:=3) (n:=q) (k:=u.length) (os:=#[]) (d:=(u++List.replicate (l.length - u.length) 0).toArray) hbg hg (by simp;omega) hcm hcs (by simp)
  rw[grow_empty] at this
  refine ⟨this.1,u,hle,hm,?_⟩
  have h2:=this.2
  have h3:(u++List.replicate (l.length - u.length) 0).toArray.toList.take u.length=u:=by simp
  rw[h3] at h2
  exact h2
theorem jY {w:World}{va vb:Value}{a b:LI}(ha:QL [] w.heap va a) (hb:QL [] w.heap vb b) (hl:a.length+b.length≤1000) :
  QJ prog 53 [va,vb] w λr w'=>Step [] w w'∧∃l,l.length≤a.length+b.length∧(∀x,x∈l↔x∈a∨x∈b)∧Qu 3 w.heap.size w' r l:=by
 refine QJ.of_W func53 rfl ntmps53 results53 (by simp) ?_
 refine Qc<|Qe<|Qc<|Qb<|xl rfl<|xf<|(ZU ha).mono ?_
 rintro v1 w1 ⟨hs1,ho1⟩
 have hz1:=hs1.size
 refine Qb<|xl rfl<|zH ho1 rfl (hb.ext hs1) rfl (KM b) (by omega) (by omega) λv2 w2 ho2 hs2 hn2=>Qe ?_
 have ho2':Qu 3 w.heap.size w2 v2 (a++b):=by
  unfold Qu
  rw[List.length_append,List.map_append]
  exact ho2
 have hs02:Step [] w w2:=hs1.then hs2 (λc hc=>.inr (Qk ho1 c hc).1)
 have hlen:(a++b).length=a.length+b.length:=List.length_append
 refine Qc<|Qb<|xl rfl<|xf<|(QdS ho2' (by omega)).mono ?_
 rintro r3 w3 ⟨hs3,l3,hl3,hm3,ho3⟩
 have hs03:Step [] w w3:=hs02.then hs3 (λc hc=>.inr (Qk ho2' c hc).1)
 refine xe ?_
 refine Qc<|Qb<|xl rfl<|xf<|(QhP ho3 (by omega)).mono ?_
 rintro r4 w4 ⟨hs4,l4,hl4,hm4,ho4⟩
 refine Qe ?_
 exact Ql ⟨[_],⟨rfl,trivial⟩,hs03.then hs4 (λc hc=>.inr (Qk ho3 c hc).1),l4,by omega,λx=>by rw[hm4,hm3,List.mem_append],ho4⟩
theorem UJ {w:World}{v:Value}{al:LI}{ns:LN}(h:QL [] w.heap v al) (hb:∀e∈al,0≤e∧e<32) (hi:Yi al) (hn:ns.length=27) (hns:∀n∈ns,n<256) :
  QJ prog 54 [v,.agg (bys ns).toArray,.int .i64 3] w λr w'=>Step [] w w'∧∃a:QV,Xr w.heap.size w'.heap r a∧GdA a∧a.al=al:=by
 refine QJ.of_W func54 rfl ntmps54 results54 (by simp) ?_
 refine Qc<|xl rfl<|QQ (us:=bys ns) rfl λb4 w1 hs1 hb4 hB4=>xl rfl<|Qt (us:=[nS,.int .i64 0,nS,nS]) rfl λb6 w2 hs2 hb6 hB6=>xe ?_
 obtain ⟨s0,hs0⟩:∃s0,ns.getD 0 0=s0:=⟨_,rfl⟩
 have hs0':ns[0]?=some s0:=by
  rw[←hs0,List.getD_eq_getElem?_getD,List.getElem?_eq_getElem (by omega)];rfl
 have hs0b:s0<256:=hns s0 (List.mem_of_getElem? hs0')
 have q0:(bys ns)[0]?=some (.int .u8 (s0:Int)):=by
  unfold bys;rw[List.getElem?_map,hs0'];rfl
 have hs02:=hs1.trans hs2
 have hz1:=hs1.size
 have hl4:=hB4.lt
 have hl6:=hB6.lt
 refine Qc<|x (Qa rfl)<|x (Qd (hB4.ext hs2) rfl q0)<|Qb<|x (ZK (k':=.u8) rfl ⟨by omega,by omega⟩)<|x (Ur (a:=(s0:Int)) (b:=3) rfl rfl (by omega) (by omega))<|x (Qa rfl)<|xl rfl<|QF (u:=.int .u8 ((s0 % 3:Nat):Int)) (hB4.ext hs2) rfl (congrArg (Value.int .u8) (by omega:(s0:Int) % 3=((s0 % 3:Nat):Int))) (by rw[YI];omega) rfl λw3 hs3 hB43 =>
  xe ?_
 have hs03:Step [] w w3:=hs02.then1 hs3 hb4
 rw[QfP] at hB43
 have hl':(ns.set 0 (s0 % 3)).length=27:=by rw[List.length_set];exact hn
 have hg':(ns.set 0 (s0 % 3)).getD 0 0=s0 % 3:=QdU (by omega)
 refine Qc<|Qb<|x (Qq hB43 rfl (by rw[YI];exact hl'))<|xl rfl<|xf<|(QcE (h.ext hs03) hb hi hl' (QgD hns (by omega))).mono ?_
 rintro r4 w4 ⟨hs4,a,hA,hok,_,hal,hc⟩
 obtain ⟨a0,k0,k1,k2,k3⟩:=hc (by rw[hg'];omega)
 rw[hg'] at k2
 obtain ⟨us,hv,husl,huso⟩:=Xq hA
 have hB64:Q2 w4.heap b6 58 [nS,.int .i64 0,nS,nS]:=(hB6.step hs3 (by simp only[List.mem_singleton];omega)).ext hs4
 have hz3:=hs03.size
 have hz2:=hs02.size
 have hz33:=hs3.size
 refine xl rfl<|Qn (us:=us) hB64 rfl (show Go.Lg.ev _ _=_ from hv) husl rfl huso λw5 hs5 hB65=>xe ?_
 refine Ql ⟨[.agg us.toArray],⟨⟨_,rfl,Qz husl (hB65.at (L:=[]) (by simp)).cells⟩,trivial⟩,(hs03.trans hs4).then1 hs5 (by omega),a,?_,GdA.of k0 k1 k2 k3 (Nat.mod_lt _ (by decide)),hal⟩
 show Xr _ _ (.agg us.toArray) _
 rw[←hv]
 exact (Ja hA (by omega) hs5).mono hz3
end Go.Proofs.YtdffckgdcegpaaaGreatDoor
namespace Go.Lg
section
variable {P:Program} {f:Fr} {w:World} {d:Option Nat} {ty:Nat} {ps:String} {af:Array Edge} {gd:Option (Nat×Bool)}
theorem Vn {t t':Nat}{k:IntKind}[h:Ik P t k] [h':St P t'] {x:Operand}{n:Nat}{k0:IntKind}(hx:ev f x=.int k0 n) (hn:n<128) :
  (execOp (ev f) ⟨d,.convert t t' x,ty,ps,af,gd⟩).run P w=.ok (.value (.string ⟨#[UInt8.ofNat n]⟩)) w:=by
 refine V8 hx ?_
 rw[run_convert_int_string w t t' k0 n (by rw[h.u];rfl) h'.u]
 have hv:Utf8.valid (n:Int)=true:=by
  unfold Utf8.valid
  simp
  omega
 unfold Utf8.encode
 simp only[hv,if_true,Int.toNat_natCast,hn]
theorem Qd3 {t t':Nat}{x y:Operand}{k:IntKind}{a b:Int}(hx:ev f x=.int k a) (hy:ev f y=.int k b) (hb:b≠0) :
  (execOp (ev f) ⟨d,.binOp .rem t x y t',ty,ps,af,gd⟩).run P w=.ok (.value (.int k (a.tmod b))) w:=by
 refine YS hx hy ?_
 simp[binOp,Op.intDiv,hb]
end
end Go.Lg
namespace Go.Proofs.YtdffckgdcegpaaaGreatDoor
open Go.Proofs.Tryz
open Go.Lg Go.Sort
theorem QiZ {L:LN}{b T:Nat}{va:Value}{al:LI}(e:Int) (w:World) (hB:Q2 w.heap b T [va]) (hA:QL L w.heap va al) :
  QJ prog 56 ([.int .i64 e]++[.pointer (some ⟨b,0,none⟩)]) w λr w'=>r=.bool (decide (e∉al))∧w'=w:=by
 refine QJ.of_W func56 rfl ntmps56 results56 (by simp) ?_
 refine Qc<|Qe<|Qc<|x (Qd hB rfl rfl)<|Qb<|xl rfl<|xf<|(ZI hA e).mono ?_
 rintro r1 w1 ⟨rfl,rfl⟩
 refine x (Zn rfl)<|Qe<|Ql ⟨[_],⟨rfl,trivial⟩,?_,rfl⟩
 show Value.bool (!decide (e∈al))=_
 rw[decide_not]
theorem qP {L:LN}{b T:Nat}{va:Value}{al:LI}(e:Int) (w:World) (hB:Q2 w.heap b T [va]) (hA:QL L w.heap va al) :
  FnGives prog 56 #[.pointer (some ⟨b,0,none⟩)] #[iC e] (.bool (decide (e∉al))) w:=by
 have h:=QiZ e w hB hA
 unfold QJ at h
 unfold FnGives
 refine Calls.mono h λe' w' he=>?_
 cases e' with
 | returned v =>
  obtain ⟨rfl,rfl⟩:=he
  exact ⟨rfl,0,rfl⟩
 | _=>exact he.elim
theorem QiO {w:World}{g n:Nat}{os:Array Obj}{d:Array Int}:Step [g] w (grow (putRow iC (Sort.ahead w n) g 0 d) os):=by
 have hhp:(grow (putRow iC (Sort.ahead w n) g 0 d) os).heap=w.heap.modify g (onCells (putCells iC 0 d))++os:=rfl
 refine ⟨rfl,rfl,rfl,?_,λi hi hn=>?_⟩
 ·rw[hhp,Array.size_append,Array.size_modify];omega
 ·rw[hhp,Array.getElem?_append,Array.size_modify,if_pos hi,Array.getElem?_modify,if_neg (λe=>hn (by simp[e]))]
theorem QhH {w:World}{base b T:Nat}{v va:Value}{l al:LI}(h:Qu 3 base w v l) (hl:l.length≤1099511627776) (hB:Q2 w.heap b T [va]) (hb:b∉ob v) (hA:QL (ob v) w.heap va al) :
  QJ prog 55 [v,.func (.func 56) #[] #[.pointer (some ⟨b,0,none⟩)]] w λr w'=>Step (ob v) w w'∧Qu 3 base w' r (l.filter λx=>decide (x∈al)):=by
 have eg:∀args w,(callFunc 56 args).run prog w=.ok (.enter 56 args) w:=enters_of func56 (by kernel_rfl) rfl
 rcases h.2 with ⟨rfl,h0⟩ | ⟨g,cap,cur,rfl,hbg,hg,hnc,hcm,hcs,htk⟩
 ·have hl0:l=[]:=List.eq_nil_of_length_eq_zero h0
  subst hl0
  refine QJ.of_W func55 rfl ntmps55 results55 (by simp) ?_
  refine Qc<|Qe<|Qc<|Qb<|Qb<|xl rfl<|xf<|(QeW (cap:=[.pointer (some ⟨b,0,none⟩)]) (q:=λ_=>true) (QL.fl (Jd [] w.heap)) (λe he=>by cases he)).mono ?_
  rintro r1 w1 ⟨rfl,hs1⟩
  refine Qe<|Qf<|Qc<|Qb<|x (Q7 rfl rfl)<|xe ?_
  refine Q4 rfl (λ_=>?_) (λh8=>absurd rfl h8)
  refine Qc<|Qb<|Qe ?_
  exact Ql ⟨[nS],⟨rfl,trivial⟩,hs1,Qs h hs1⟩
 ·unfold QJ
  have hst:=λ(n:Nat) (os:Array Obj) (d:Array Int)=>QiO (w:=w) (g:=g) (n:=n) (os:=os) (d:=d)
  have hbg':b∉[g]:=hb
  have hA':QL [g] w.heap va al:=hA
  have hc:=AnyE.slices_DeleteFunc Tryz.delI iC (λ_=>rfl) (λx=>decide (x∉al)) 56 #[.pointer (some ⟨b,0,none⟩)] eg 0 (λw=>by kernel_rfl) g 0 cap l.toArray w
   (λW x hW=>by
    have hs:Step [] w W:=⟨hW.os,hW.tape,hW.output,hW.size,λk hk _=>hW.block k hk⟩
    exact qP x W (hB.ext hs) (hA.ext hs))
   (λn os dk x _=>qP x _ (hB.step (hst n os dk) hbg') (hA'.st (hst n os dk)))
   (Vp hg htk) (by simp;omega) (by simpa using hnc)
  change Calls prog 55 _ _ _ at hc
  rw[List.size_toArray] at hc
  refine Calls.mono hc λe w' he=>?_
  obtain ⟨rfl,q,rfl⟩:=he
  have hf:(l.toArray.toList.filter λx=>!decide (x∉al))=l.filter λx=>decide (x∈al):=by
   refine List.filter_congr λx _=>?_
   by_cases hx:x∈al <;> simp[hx]
  rw[hf]
  have hle:=List.length_filter_le (λx=>decide (x∈al)) l
  generalize (l.filter λx=>decide (x∈al))=u at *
  have:=zz (e:=3) (n:=q) (k:=u.length) (os:=#[]) (d:=(u++List.replicate (l.length - u.length) 0).toArray) hbg hg (by simp;omega) hcm hcs (by simp)
  rw[grow_empty] at this
  refine ⟨this.1,?_⟩
  have h2:=this.2
  have h3:(u++List.replicate (l.length - u.length) 0).toArray.toList.take u.length=u:=by simp
  rw[h3] at h2
  exact h2
end Go.Proofs.YtdffckgdcegpaaaGreatDoor
namespace Go.Lg
section
variable {P:Program} {f:Fr} {w:World} {K:Fr→World→Prop} {d:Option Nat} {ty:Nat} {ps:String} {af:Array Edge} {gd:Option (Nat×Bool)}
theorem QgV {t e sz bys:Nat}{z:Value}[h:Sl P t e sz bys z] (hz1:∀u∈z.cells,u.oneCell'=true) {s:Operand}{b o m c T:Nat}{cs:LV}(hB:Q2 w.heap b T cs) (hs:∃o',ev f s=.slice (some ⟨b,o',none⟩) m c∧(0<m→o'=o∧o+m*sz≤cs.length))
  (hK:∀w' cs',Step [b] w w'→Q2 w'.heap b T cs'→cs'.length=cs.length→cs'.take o=cs.take o→K (QY f d (.tuple #[])) w'):XO P ⟨d,.call ⟨.builtin .clear,#[s],#[t]⟩,ty,ps,af,gd⟩ f w K:=by
 obtain ⟨o',hs,hm⟩:=hs
 obtain ⟨i,hi,hz,hsz,_⟩:=Sl.info h
 have hzs:=h.zs
 rcases Nat.eq_zero_or_pos m with rfl | hmp
 ·have hr:(execOp (ev f) ⟨d,.call ⟨.builtin .clear,#[s],#[t]⟩,ty,ps,af,gd⟩).run P w=.ok (.value (.tuple #[])) w:=by
   simp[execOp,resolve,invoke,builtin,hs,Builtin.clear_,run_underlying h.u]
  exact xv hr (hK w cs (Step.refl _ _) hB rfl rfl)
 ·obtain ⟨rfl,hle⟩:=hm hmp
  have hlen:(Builtin.zeroCells z.cells m).toList.length=m*sz:=by simp[Builtin.zeroCells,hzs]
  have hst:=run_storeCells_at P b o' T (Builtin.zeroCells z.cells m).toList 0 cs.toArray w hB (by simp only[List.size_toArray];omega) (λu hu=>by
   simp only[Builtin.zeroCells,Array.toList_map,List.mem_map] at hu
   obtain ⟨j,hj,rfl⟩:=hu
   have hpos:=h.pos
   have hjl:j % z.cells.size<z.cells.size:=Nat.mod_lt _ (by omega)
   rw[getElem!_pos z.cells _ hjl]
   exact hz1 _ (Array.getElem_mem hjl))
  simp only[Nat.add_zero] at hst
  obtain ⟨m',rfl⟩:∃m',m=m'+1:=⟨m - 1,by omega⟩
  have hr:(execOp (ev f) ⟨d,.call ⟨.builtin .clear,#[s],#[t]⟩,ty,ps,af,gd⟩).run P w=.ok (.value (.tuple #[])) (w.setRow b ((cs.take o'++(Builtin.zeroCells z.cells (m'+1)).toList++cs.drop (o'+(Builtin.zeroCells z.cells (m'+1)).toList.length))).toArray):=by
   simp[execOp,resolve,invoke,builtin,hs,Builtin.clear_,run_underlying h.u,zeroValue,typeInfo,hi,hz] at hst ⊢
   simp[hst]
  refine xv hr (hK _ _ (Step.setRow _ _ _) (Jb hB) ?_ ?_)
  ·simp only[List.length_append,List.length_take,List.length_drop,hlen];omega
  ·rw[List.append_assoc,List.take_append_of_le_length (by simp;omega),List.take_take,Nat.min_self]
theorem JJ {α:Type}{sz:Nat}{g:α→LV}(hg:∀x,(g x).length=sz):∀(l:List α) (i:Nat) (u:α),i<l.length→(l.set i u).flatMap g=(l.flatMap g).take (i*sz)++g u++(l.flatMap g).drop (i*sz+sz)
 | [],i,u,h=>absurd h (by simp)
 | a::l,0,u,h=>by
  rw[List.set_cons_zero,List.flatMap_cons,List.flatMap_cons,Nat.zero_mul,List.take_zero,List.nil_append,Nat.zero_add,List.drop_append_of_le_length (by rw[hg a];exact Nat.le_refl _),List.drop_of_length_le (by rw[hg a];exact Nat.le_refl _),List.nil_append]
 | a::l,i+1,u,h=>by
  have h1:(i+1)*sz=(g a).length+i*sz:=by rw[hg a,Nat.succ_mul];omega
  have h2:(i+1)*sz+sz=(g a).length+(i*sz+sz):=by omega
  have t1:∀(F:LV) k,(g a++F).take ((g a).length+k)=g a++F.take k:=λF k=>by rw[List.take_append,List.take_of_length_le (l:=g a) (by omega),Nat.add_sub_cancel_left]
  have t2:∀(F:LV) k,(g a++F).drop ((g a).length+k)=F.drop k:=λF k=>by rw[List.drop_append,List.drop_of_length_le (l:=g a) (by omega),List.nil_append,Nat.add_sub_cancel_left]
  rw[List.set_cons_succ,List.flatMap_cons,List.flatMap_cons,h2,h1,t1,t2,JJ hg l i u (by simpa using h)]
  simp only[List.append_assoc]
theorem Qcy {α:Type}{t sz:Nat}[h1:Ag P t sz] {g:α→LV}(hg:∀x,(g x).length=sz) {x y:Operand}{base e b cap i:Nat}{l:List α}{u:α}(h:w.ownsRow base e sz (.slice (some ⟨b,0,none⟩) l.length cap) l.length (l.flatMap g)) (hx:ev f x=.pointer (some ⟨b,i*sz,none⟩)) (hy:ev f y=.agg (g u).toArray) (hi:i<l.length) (hu:Zw (g u))
  (hK:∀w',Step [b] w w'→w'.ownsRow base e sz (.slice (some ⟨b,0,none⟩) l.length cap) l.length ((l.set i u).flatMap g)→K (QY f d undef) w'):XO P ⟨d,.store t x y,ty,ps,af,gd⟩ f w K:=by
 rcases h.2 with ⟨e1,_⟩ | ⟨g',cap',cur,e1,hbg,hg',hnc,hcm,hcs,htk⟩
 ·cases e1
 cases e1
 have hB:Q2 w.heap b e cur.toList:=hg'
 have hlc:l.length*sz≤cap*sz:=Nat.mul_le_mul_right _ hnc
 have hil:(i+1)*sz≤l.length*sz:=Nat.mul_le_mul_right _ hi
 rw[Nat.succ_mul] at hil
 have hcl:cur.toList.length=cap*sz:=by rw[Array.length_toList];exact hcs
 have hfl:=h.1
 refine XZ hB hx hy (hg u) (by omega) hu rfl λw' hs hB'=>hK w' hs ⟨?_,.inr ⟨b,cap,_,rfl,hbg,hB',hnc,hcm,?_,?_⟩⟩
 ·rw[JJ hg l i u hi]
  simp only[List.length_append,List.length_take,List.length_drop,hg u,hfl];omega
 ·simp only[List.size_toArray,List.length_append,List.length_take,List.length_drop,hg u,hcl];omega
 ·have hX:(cur.toList.take (i*sz)++g u).length=i*sz+sz:=by simp only[List.length_append,List.length_take,hg u,hcl];omega
  rw[JJ hg l i u hi,←htk]
  show (cur.toList.take (i*sz)++g u++cur.toList.drop (i*sz+sz)).take (l.length*sz)=_
  rw[List.take_append,List.take_of_length_le (by omega),hX,List.take_take,Nat.min_eq_left (by omega),List.drop_take]
end
end Go.Lg
namespace Go.Proofs.YtdffckgdcegpaaaGreatDoor
open Go.Proofs.Tryz
open Go.Lg
theorem QeA (p:Int×Int) (w:World):QJ prog 59 [.agg (QN p).toArray] w λr w'=>r=.bool (decide (p.2=0))∧Step [] w w':=by
 refine QJ.of_W func59 rfl ntmps59 results59 (by simp) ?_
 refine Qc<|xl rfl<|QQ (us:=QN p) rfl λb1 w1 hs1 hb1 hB1=>Qe<|Qc<|x (Qa rfl)<|x (Qd hB1 rfl rfl)<|x (Q7 rfl rfl)<|Qe ?_
 exact Ql ⟨[_],⟨rfl,trivial⟩,rfl,hs1⟩
theorem Qhm {gp:Nat}{fn:Func}[Fu prog gp fn] {cap:LV}{q:(Int×Int)→Bool}{L:LN}{w:World}{v:Value}{l:List (Int×Int)}(h:Zj L w.heap v l.length 2 (l.flatMap QN))
  (hk:∀e∈l,∀(w1:World),Step [] w w1→QJ prog gp ([.agg (QN e).toArray]++cap) w1 λr w'=>r=.bool (q e)∧Step [] w1 w') :
  QJ prog 133 [v,.func (.func gp) #[] cap.toArray] w λr w'=>r=.int .i64 (fix q 0 l)∧Step [] w w':=by
 have hle:=h.le
 refine QJ.of_W func133 rfl ntmps133 results133 (by simp) ?_
 refine Qc<|Qe<|Qf<|Qc<|Qb<|x (Qr h rfl)<|Qb<|xe ?_
 refine Qg<|QA (α:=Nat) [(4,5),(8,18)] (λz=>[(8,.int .i64 z)]) (λz w'=>z≤l.length∧Step [] w w'∧fix q z (l.drop z)=fix q 0 l) (λz=>l.length - z) (by rfl) 0 ⟨rfl,trivial⟩
  ⟨Nat.zero_le _,Step.refl _ _,rfl⟩ ?_
 rintro k g w1 ⟨hk1,hs1,hfx⟩
 refine Qc<|x (QB rfl rfl)<|xe ?_
 refine Qf<|QG rfl (λh9=>?_) (λh9=>?_)
 ·refine Qx ?_
  have hke:l.length≤k:=by have h10:¬(k:Int)<(l.length:Int):=h9;omega
  rw[List.drop_of_length_le hke] at hfx
  refine Qc<|Qe ?_
  exact Ql ⟨[_],⟨rfl,trivial⟩,by rw[←hfx];rfl,hs1⟩
 have hlt:k<l.length:=by have h10:(k:Int)<(l.length:Int):=h9;omega
 rw[QX hlt,ZM] at hfx
 have hmem:=List.getElem_mem hlt
 refine Qi<|Qf<|Qg<|Qc<|Qb<|Qe<|Qc<|Qb<|Qb<|Qb<|xig ZZ (h.ext hs1) rfl rfl hlt λa14 h14=>?_
 refine Zd (l[k]'hlt) λe he=>?_
 rw[he] at h14 hfx hmem
 refine x (QC h14 rfl rfl)<|xl rfl<|xc (first:=[]) (capt:=cap) rfl<|(hk e hmem w1 hs1).mono ?_
 rintro r2 w2 ⟨rfl,hs2⟩
 refine xe ?_
 refine Q5 rfl (λh16=>?_) (λh16=>?_)
 ·rw[if_pos h16] at hfx
  refine Qc<|Qb<|Qe ?_
  exact Ql ⟨[_],⟨rfl,trivial⟩,by rw[←hfx];rfl,hs1.trans hs2⟩
 rw[if_neg (by rw[h16];decide)] at hfx
 refine Qi<|Qw<|QO rfl rfl<|Qb<|xe ?_
 exact ⟨k+1,by omega,⟨rfl,trivial⟩,hlt,hs1.trans hs2,hfx⟩
end Go.Proofs.YtdffckgdcegpaaaGreatDoor
namespace Go.Lg
section
variable {P:Program} {f:Fr} {w:World} {K:Fr→World→Prop} {d:Option Nat} {ty:Nat} {ps:String} {af:Array Edge} {gd:Option (Nat×Bool)}
theorem Qcr {t e sz bys:Nat}{z:Value}[h:Sl P t e sz bys z] {x y1:Operand}{b n cap:Nat}{k:IntKind}{lo:Nat}(hx:ev f x=.slice (some ⟨b,0,none⟩) n cap) (hl:ev f y1=.int k lo) (h1:lo≤n) :
  (execOp (ev f) ⟨d,.slice t x (some y1) none none,ty,ps,af,gd⟩).run P w=.ok (.value (.slice (some ⟨b,if cap=lo then 0 else lo*sz,none⟩) (n - lo) (cap - lo))) w:=by
 obtain ⟨i,hi',_,hsz,_⟩:=Sl.info h
 have e2:(Instr.sliceBound (.int k lo) n .sliceB).run P w=.ok lo w:=ZY h1
 by_cases hcl:cap=lo
 ·simp[execOp,hx,hl,Instr.sliceAt,Instr.slice,run_underlying h.u,Instr.sliceBounds,e2,sizeOf,typeInfo,hi',hsz,hcl]
 ·simp[execOp,hx,hl,Instr.sliceAt,Instr.slice,run_underlying h.u,Instr.sliceBounds,e2,sizeOf,typeInfo,hi',hsz,hcl,Addr.add]
  exact λe=>e.symm
theorem Qcs {t e sz bys:Nat}{z:Value}[h:Sl P t e sz bys z] {x y2:Operand}{b n cap:Nat}{k:IntKind}{hi:Nat}(hx:ev f x=.slice (some ⟨b,0,none⟩) n cap) (hh:ev f y2=.int k hi) (h1:hi≤cap) :
  (execOp (ev f) ⟨d,.slice t x none (some y2) none,ty,ps,af,gd⟩).run P w=.ok (.value (.slice (some ⟨b,0,none⟩) hi cap)) w:=by
 obtain ⟨i,hi',_,hsz,_⟩:=Sl.info h
 have e2:(Instr.sliceBound (.int k hi) cap .sliceAcap).run P w=.ok hi w:=ZY h1
 simp[execOp,hx,hh,Instr.sliceAt,Instr.slice,run_underlying h.u,Instr.sliceBounds,e2,sizeOf,typeInfo,hi',Addr.add]
end
end Go.Lg
namespace Go.Proofs.YtdffckgdcegpaaaGreatDoor
open Go.Proofs.Tryz
open Go.Lg
theorem qU {α:Type}(q:α→Bool):∀(l:List α) (i:Nat),(fix q i l=-1∧∀x∈l,q x=false)∨∃k,k<l.length∧fix q i l=((i+k:Nat):Int)∧l.take k=(l.take (k+1)).filter λx=>!q x
 | [],i=>.inl ⟨rfl,λx h=>by cases h⟩
 | a::l,i=>by
  rw[ZM]
  by_cases h:q a=true
  ·rw[if_pos h]
   exact .inr ⟨0,by simp,by simp,by simp[h]⟩
  ·rw[if_neg h]
   have h':q a=false:=by simpa using h
   rcases qU q l (i+1) with ⟨h1,h2⟩ | ⟨k,h1,h2,h3⟩
   ·exact .inl ⟨h1,λx hx=>by rcases List.mem_cons.1 hx with rfl | hx;exact h';exact h2 x hx⟩
   ·exact .inr ⟨k+1,by simpa using h1,by rw[h2];congr 1;omega,by rw[List.take_succ_cons,List.take_succ_cons,List.filter_cons,if_pos (by simp[h']),←h3]⟩
theorem Qbl {w:World}{base e sz n b cap:Nat}{cs:LV}(h:w.ownsRow base e sz (.slice (some ⟨b,0,none⟩) n cap) n cs):n≤cap∧∃cur:LV,Q2 w.heap b e cur∧cur.length=cap*sz∧cur.take (n*sz)=cs:=by
 rcases h.2 with ⟨e1,_⟩ | ⟨g',cap',cur,e1,hbg,hg',hnc,hcm,hcs,htk⟩
 ·cases e1
 cases e1
 exact ⟨hnc,cur.toList,hg',by rw[Array.length_toList];exact hcs,htk⟩
theorem QgQ {w w':World}{base e sz n b cap k:Nat}{cs cs' cur:LV}(h:w.ownsRow base e sz (.slice (some ⟨b,0,none⟩) n cap) n cs) (hk:k≤n) (hB:Q2 w'.heap b e cur) (hl:cur.length=cap*sz) (ht:cur.take (k*sz)=cs') (hc:cs'.length=k*sz) :
  w'.ownsRow base e sz (.slice (some ⟨b,0,none⟩) k cap) k cs':=by
 rcases h.2 with ⟨e1,_⟩ | ⟨g',cap',cur',e1,hbg,hg',hnc,hcm,hcs,htk⟩
 ·cases e1
 cases e1
 exact ⟨hc,.inr ⟨b,cap,cur.toArray,rfl,hbg,hB,by omega,hcm,by rw[List.size_toArray];exact hl,ht⟩⟩
theorem JK {α:Type}{sz:Nat}{g:α→LV}(hg:∀x,(g x).length=sz):∀l:List α,(l.flatMap g).length=l.length*sz
 | []=>by simp
 | a::l=>by rw[List.flatMap_cons,List.length_append,JK hg l,hg a,List.length_cons,Nat.succ_mul];omega
theorem Qbj:∀(l:List (Int×Int)) (k:Nat),(l.flatMap QN).take (k*2)=(l.take k).flatMap QN
 | [],k=>by simp
 | a::l,0=>by simp
 | a::l,k+1=>by
  rw[show (k+1)*2=k*2+2 by omega,List.flatMap_cons,List.take_succ_cons,List.flatMap_cons,←Qbj l k]
  rfl
abbrev nzT (l:List (Int×Int)):List (Int×Int):=l.filter λp=>!decide (p.2=0)
set_option maxHeartbeats 1000000 in
theorem QhG {w:World}{base:Nat}{v:Value}{l:List (Int×Int)}(h:w.ownsRow base 129 2 v l.length (l.flatMap QN)) (hl:l.length≤1000) :
  QJ prog 58 [v,.func (.func 59) #[] #[]] w λr w'=>Step (ob v) w w'∧w'.ownsRow base 129 2 r (nzT l).length ((nzT l).flatMap QN):=by
 have hix:=Qhm (cap:=[]) (q:=λp=>decide (p.2=0)) (QT (L:=[]) h (by omega) (by simp)) (λe _ w1 _=>QeA e w1)
 have hfs:=qU (λp:Int×Int=>decide (p.2=0)) l 0
 rcases h.2 with ⟨rfl,h0⟩ | ⟨g,cap,cur,rfl,hbg,_⟩
 ·have hl0:l=[]:=List.eq_nil_of_length_eq_zero h0
  subst hl0
  refine QJ.of_W func58 rfl ntmps58 results58 (by simp) ?_
  refine Qc<|Qe<|Qc<|Qb<|Qb<|xl rfl<|xf<|hix.mono ?_
  rintro r1 w1 ⟨rfl,hs1⟩
  refine Qe<|Qf<|Qc<|Qb<|x (Q7 rfl rfl)<|xe ?_
  refine Q4 rfl (λ_=>?_) (λh8=>absurd rfl h8)
  refine Qc<|Qb<|Qe ?_
  exact Ql ⟨[nS],⟨rfl,trivial⟩,hs1,Qs h hs1⟩
 obtain ⟨hnc,_⟩:=Qbl h
 refine QJ.of_W func58 rfl ntmps58 results58 (by simp) ?_
 refine Qc<|Qe<|Qc<|Qb<|Qb<|xl rfl<|xf<|hix.mono ?_
 rintro r1 w1 ⟨rfl,hs1⟩
 refine Qe<|Qf<|Qc<|Qb<|x (Q7 rfl rfl)<|xe ?_
 refine Q4 rfl (λh12=>?_) (λh12=>?_)
 ·have hall:nzT l=l:=List.filter_eq_self.2 λp hp=>by
   rcases hfs with ⟨_,h2⟩ | ⟨k,_,h2,_⟩
   ·have:=h2 p hp;simpa using this
   ·have h13:fix (λp:Int×Int=>decide (p.2=0)) 0 l=-1:=h12
    omega
  refine Qc<|Qb<|Qe<|Ql ⟨[.slice (some ⟨g,0,none⟩) l.length cap],⟨rfl,trivial⟩,hs1.any,?_⟩
  rw[hall]
  exact Qs h hs1
 refine Exists.elim (hfs.resolve_left λa=>h12 a.1) λi0 hi0=>?_
 have hi1:=hi0.1
 have hi2:fix (λp:Int×Int=>decide (p.2=0)) 0 l=(i0:Int):=by have:=hi0.2.1;omega
 have hi3:=hi0.2.2
 refine Qi<|Qf<|Qc<|Qb<|x (XY (a:=(i0:Int)) (b:=1) (congrArg (Value.int .i64) hi2) rfl ⟨by omega,by omega⟩)<|Qe<|Qg<|QA (α:=Nat×Nat×List (Int×Int)) [(5,7),(16,35)] (λz=>[(5,.int .i64 z.1),(6,.int .i64 z.2.1)])
  (λz w'=>z.1<z.2.1∧z.2.1≤l.length∧z.2.2.length=l.length∧z.2.2.take z.1=nzT (l.take z.2.1)∧z.2.2.drop z.2.1=l.drop z.2.1∧Step [g] w w'∧w'.ownsRow base 129 2 (.slice (some ⟨g,0,none⟩) z.2.2.length cap) z.2.2.length (z.2.2.flatMap QN))
  (λz=>l.length - z.2.1) (by rfl) (i0,i0+1,l) ⟨congrArg (Value.int .i64) hi2,rfl,trivial⟩
  ⟨Nat.lt_succ_self _,hi1,rfl,hi3,rfl,hs1.any,Qs h hs1⟩ ?_
 rintro ⟨i,j,ts⟩ g2 w2 ⟨hij,hj,htl,ht1,ht2,hs2,ho2⟩
 simp only[] at hij hj htl ht1 ht2 ho2
 refine Qf<|Qc<|Qb<|Qb<|x (yM rfl)<|x (QB rfl rfl)<|xe ?_
 refine QG rfl (λh19=>?_) (λh19=>?_)
 ·refine Qx ?_
  have hje:j=l.length:=by have h20:¬(j:Int)<(l.length:Int):=h19;omega
  rw[hje,List.take_length] at ht1
  have hil:(nzT l).length=i:=by rw[←ht1,List.length_take];omega
  refine Exists.elim (Qbl ho2).2 λcur2 hc2=>?_
  have hB2:=hc2.1
  have hl2:=hc2.2.1
  have hk2:=hc2.2.2
  refine Qc<|Qb<|Qb<|x (Qcr (lo:=i) rfl rfl (by omega))<|xl rfl<|QgV (m:=l.length - i) (o:=i*2) (λu hu=>by simp[Value.cells] at hu;rw[hu];rfl) hB2 ⟨_,rfl,λh=>⟨by rw[if_neg (by omega)],by omega⟩⟩ λw3 cs3 hs3 hB3 hl3 ht3=>xe ?_
  refine Qc<|Qb<|Qb<|x (Qcs (hi:=i) rfl rfl (by omega))<|Qe<|Ql ⟨[.slice (some ⟨g,0,none⟩) i cap],⟨rfl,trivial⟩,hs2.trans' hs3,?_⟩
  rw[hil]
  refine QgQ ho2 (by omega) hB3 (by omega) ?_ ?_
  ·rw[ht3,←ht1,←Qbj,←hk2,List.take_take,Nat.min_eq_left (by omega)]
  ·rw[JK ZZ,hil]
 have hlt:j<l.length:=by have h20:(j:Int)<(l.length:Int):=h19;omega
 have hltT:j<ts.length:=by omega
 have hel:ts[j]'hltT=l[j]'hlt:=by
  have h1:=congrArg (λz=>z[0]?) ht2
  simp only[List.getElem?_drop,Nat.add_zero,List.getElem?_eq_getElem hltT,List.getElem?_eq_getElem hlt] at h1
  exact Option.some.inj h1
 have hdr:ts.drop (j+1)=l.drop (j+1):=by
  have h1:=congrArg (List.drop 1) ht2
  rwa [List.drop_drop,List.drop_drop] at h1
 have hnz:nzT (l.take (j+1))=nzT (l.take j)++(if (l[j]'hlt).2=0 then [] else [l[j]'hlt]):=by
  unfold nzT
  rw[List.take_succ_eq_append_getElem hlt,List.filter_append]
  by_cases h0:(l[j]'hlt).2=0 <;> simp[h0]
 have hA:=QT (L:=[]) ho2 (by omega) (by simp)
 rw[show Value.slice (some ⟨g,0,none⟩) ts.length cap=.slice (some ⟨g,0,none⟩) l.length cap from by rw[htl]] at hA
 refine Qi<|Qf<|Qg<|Qc<|Qb<|Qb<|xig ZZ hA rfl rfl hltT λa24 h24=>?_
 rw[hel] at h24
 refine Zd (l[j]'hlt) λe he=>?_
 rw[he] at h24 hnz
 refine x (QC h24 rfl rfl)<|xl rfl<|Qt (us:=[.int .i64 0,.int .i64 0]) rfl λb7 w3 hs3 hb7 hB7=>xl rfl<|Qn (us:=QN e) hB7 rfl rfl rfl rfl ⟨rfl,rfl,trivial⟩ λw4 hs4 hB74=>xe ?_
 have hs24:Step [] w2 w4:=hs3.then1 hs4 hb7
 refine Qc<|Qb<|x (Qq hB74 rfl rfl)<|xl rfl<|xc (first:=[]) (capt:=[]) rfl<|(QeA e w4).mono ?_
 rintro r5 w5 ⟨rfl,hs5⟩
 refine x (Zn rfl)<|xe ?_
 have hs25:=hs24.trans hs5
 have ho5:=Qs ho2 hs25
 have hs05:Step [g] w w5:=hs2.trans hs25.any
 refine Q5 rfl (λh29=>?_) (λh29=>?_)
 ·have hne:¬e.2=0:=by simpa using h29
  rw[if_neg hne] at hnz
  have ho5':w5.ownsRow base 129 2 (.slice (some ⟨g,0,none⟩) ts.length cap) ts.length (ts.flatMap QN):=ho5
  refine Qc<|Qb<|Qb<|x (Qq (hB74.ext hs5) rfl rfl)<|x (Zk (i:=i) rfl rfl (by omega))<|xl rfl<|Qcy (u:=e) ZZ ho5' (congrArg (λn=>Value.pointer (some ⟨g,n,none⟩)) (Nat.zero_add (i*2))) rfl (by omega) ⟨rfl,rfl,trivial⟩ λw6 hs6 ho6 =>
   xe ?_
  refine Qw<|Qb<|QO rfl rfl<|Qe<|Qw<|Qb<|QO rfl rfl<|Qe ?_
  have hsl:(ts.set i e).length=ts.length:=List.length_set
  refine ⟨(i+1,j+1,ts.set i e),by simp only[];omega,⟨rfl,rfl,trivial⟩,by simp only[];omega,hlt,by simp only[];omega,?_,?_,hs05.trans' hs6,?_⟩
  ·simp only[]
   rw[hnz,←ht1,List.set_eq_take_append_cons_drop,if_pos (by omega),List.take_append,List.take_of_length_le (by rw[List.length_take];omega),List.length_take,Nat.min_eq_left (by omega),Nat.add_sub_cancel_left,List.take_succ_cons,List.take_zero]
  ·simp only[]
   rw[List.drop_set_of_lt (by omega),hdr]
  ·simp only[]
   rw[hsl]
   exact ho6
 have hne:e.2=0:=by simpa using h29
 rw[if_pos hne,List.append_nil] at hnz
 refine Qi<|Qw<|Qb<|QO rfl rfl<|Qe ?_
 exact ⟨(i,j+1,ts),by simp only[];omega,⟨rfl,rfl,trivial⟩,by simp only[];omega,hlt,htl,by rw[hnz];exact ht1,hdr,hs05,ho5⟩
instance ayAz1:Ay prog 25 3 24 1:=⟨by kernel_rfl,by kernel_rfl⟩
instance ayAz2:Ay prog 30 2 24 1:=⟨by kernel_rfl,by kernel_rfl⟩
instance ayAz3:Ay prog 31 2 28 27:=⟨by kernel_rfl,by kernel_rfl⟩
instance ayAz4:Ay prog 34 3 33 1:=⟨by kernel_rfl,by kernel_rfl⟩
abbrev X4V:={r:LN // r.length=4∧∀n∈r,n<256}
abbrev Yw (r:X4V):LV:=bys r.1
theorem Ug (r:X4V):(Yw r).length=4:=by show (bys r.1).length=4;unfold bys;rw[List.length_map,r.2.1]
structure PlV where
 ns:LN
 vx:Value
 xs:List X4V
 f0:Int
 f1:Int
 f2:Int
 bd:Int
abbrev Ym (l:PlV):LV:=bys l.ns++[l.vx,.int .i8 l.f0,.int .i8 l.f1,.int .i8 l.f2,.int .i8 l.bd]
abbrev i8R (n:Int):Prop:=-128≤n∧n≤127
structure PlA (L:LN) (H:Array Obj) (l:PlV):Prop where
 n:l.ns.length=147
 b:∀n∈l.ns,n<256
 x:Zj L H l.vx l.xs.length 4 (l.xs.flatMap Yw)
 f0:i8R l.f0
 f1:i8R l.f1
 f2:i8R l.f2
 bd:i8R l.bd
theorem Qed {l:PlV}(h:l.ns.length=147):(Ym l).length=152:=by rw[Ym,List.length_append,YI,h];rfl
theorem Qee {l:PlV}(h:l.ns.length=147) (j:Nat):(Ym l)[147+j]?=([l.vx,.int .i8 l.f0,.int .i8 l.f1,.int .i8 l.f2,.int .i8 l.bd]:LV)[j]?:=by
 rw[Ym,List.getElem?_append_right (by rw[YI];omega),YI,h,Nat.add_sub_cancel_left]
theorem Qbh {l:PlV}(h:l.ns.length=147) {j:Nat}(hj:j<147):(Ym l)[j]?=some (.int .u8 ((l.ns.getD j 0:Nat):Int)):=by
 rw[Ym,List.getElem?_append_left (by rw[YI];omega)]
 exact VD (by omega)
theorem Qah {l:PlV}{o m:Nat}(j:Nat) (u:Value) (h:(bys ((l.ns.drop o).take m))[j]?=some u):(Ym l)[o+j]?=some u:=by
 have h1:=QhS (ns:=l.ns) (o:=o) (n:=m) j u h
 have h2:=(List.getElem?_eq_some_iff.1 h1).1
 rw[Ym,List.getElem?_append_left h2]
 exact h1
theorem QbY {sz:LI}:∀(ls:List (Int×Int)) (pr:Option Int),(∀b,pr=some b→∀p∈ls,b<p.1)→ls.Pairwise (λp q=>p.1<q.1)→(∀p∈ls,0≤p.1∧p.1<(sz.length:Int)∧0≤p.2∧p.2<cget sz p.1.toNat)→YJ sz pr ls=0
 | [],_,_,_,_=>rfl
 | p::ls,pr,hp,hs,hb=>by
  obtain ⟨h1,h2,h3,h4⟩:=hb p List.mem_cons_self
  obtain ⟨k1,k2⟩:=List.pairwise_cons.1 hs
  have hl:UC pr p.1=false:=by
   cases pr with
   | none=>rfl
   | some b=>have:=hp b rfl p List.mem_cons_self;unfold UC;exact decide_eq_false (by omega)
  rw[YJ,if_neg (by omega),if_neg (by rw[hl];decide),if_neg (by omega)]
  exact QbY ls (some p.1) (λb hb' q hq=>by cases hb';exact k1 q hq) k2 (λq hq=>hb q (List.mem_cons_of_mem _ hq))
theorem QbW {sz:LI}:∀(ls:List (Int×Int)) (pr:Option Int),(∀b,pr=some b→∀p∈ls,b<p.1)→ls.Pairwise (λp q=>p.1<q.1)→(∀p∈ls,0≤p.1∧p.1<(sz.length:Int)∧p.2≠0∧-65536≤p.2∧p.2≤65536)→Xn sz pr ls=0
 | [],_,_,_,_=>rfl
 | p::ls,pr,hp,hs,hb=>by
  obtain ⟨h1,h2,h3,h4,h5⟩:=hb p List.mem_cons_self
  obtain ⟨k1,k2⟩:=List.pairwise_cons.1 hs
  have hl:UC pr p.1=false:=by
   cases pr with
   | none=>rfl
   | some b=>have:=hp b rfl p List.mem_cons_self;unfold UC;exact decide_eq_false (by omega)
  have hg:grt p.2=false:=by unfold grt;rw[decide_eq_false (by omega),decide_eq_false (by omega)];rfl
  rw[Xn,if_neg (by omega),if_neg (by rw[hl];decide),if_neg (by rw[hg];simpa using h3)]
  exact QbW ls (some p.1) (λb hb' q hq=>by cases hb';exact k1 q hq) k2 (λq hq=>hb q (List.mem_cons_of_mem _ hq))
theorem Qa4 (a:Int) {b:Int}(h:0<b):-b<a.tmod b∧a.tmod b<b:=⟨Int.lt_tmod_of_pos a h,Int.tmod_lt_of_pos a h⟩
structure ItG (c:Nat) (k:Nat) (q:IV):Prop where
 nm:q.nm=⟨#[UInt8.ofNat c]⟩++⟨#[UInt8.ofNat (48+k)]⟩
 g:GdA q.p.a
 e:∀e∈q.p.a.al,e<5
def nmI (c k:Nat):ByteArray:=⟨#[UInt8.ofNat c]⟩++⟨#[UInt8.ofNat (48+k)]⟩
theorem Qes (k:Nat) (h:k<3):Yy (nmI 99 k)=true∧Yy (nmI 114 k)=true∧Yy (nmI 101 k)=true:=by
 match k,h with
 | 0,_=>decide
 | 1,_=>decide
 | 2,_=>decide
theorem Vu (c k:Nat):VW (nmI c k):=by
 show (ByteArray.mk _++ByteArray.mk _).size≤_
 rw[ByteArray.size_append]
 show 1+1≤_
 omega
theorem QcA:∀n,n<4→∀m,m<3→((List.range n).map (nmI 99)++(List.range m).map (nmI 114)).Nodup:=by decide
theorem qR {c:Nat}{co:List IV}(h:∀k (hk:k<co.length),ItG c k (co[k]'hk)):(co.map IV.it).map (·.nm)=(List.range co.length).map (nmI c):=by
 apply List.ext_getElem
 ·simp
 ·intro i h1 h2
  simp only[List.getElem_map,List.getElem_range]
  exact (h i (by simpa using h1)).nm
theorem Qjs {ns:LN}{co rq:List IV}{qx:List XV}{ks:List KV}{al:LI}(hns:ns.length=5) (h1:1≤co.length) (h3:co.length≤3) (hgd:∀k (hk:k<co.length),ItG 99 k (co[k]'hk)) (halm:∀e,e∈al↔∃q∈co,e∈q.p.a.al) (hrl:rq.length≤2)
  (hgr:∀k (hk:k<rq.length),ItG 114 k (rq[k]'hk)∧∀e∈(rq[k]'hk).p.a.al,e∈al) (hxl:qx.length≤2) (hxn:(qx.map (·.nm)).Nodup) (hgx:∀q∈qx,(∃k,k<2∧q.nm=⟨#[101]⟩++⟨#[UInt8.ofNat (48+k)]⟩)∧q.ls≠[]∧q.ls.length≤3∧YJ (co.map (·.p.a.st)) none q.ls=0)
  (hkl:ks.length≤1) (hgk:∀q∈ks,q.nm=⟨#[107]⟩∧YH (co.map (·.p.a.st)) q.k=0):D25 ⟨Y5 ns 5,co.map IV.it,rq.map IV.it,qx.map XV.x,ks.map KV.k⟩:=by
 have hsz:szs (co.map IV.it)=co.map (·.p.a.st):=by unfold szs;rw[List.map_map];rfl
 refine ⟨⟨ns,hns,rfl⟩,by simp only[List.length_map];omega,by simp only[List.length_map];omega,by simp only[List.length_map];omega,λx hx=>?_,λx hx=>?_,?_,by simp only[List.length_map];omega,λx hx=>?_,?_,by simp only[List.length_map];omega,λx hx=>?_⟩
 ·obtain ⟨q,hq,rfl⟩:=List.mem_map.1 hx
  obtain ⟨k,hk,rfl⟩:=List.getElem_of_mem hq
  have g:=hgd k hk
  exact ⟨by show Yy (co[k]'hk).nm=true;rw[g.nm];exact (Qes k (by omega)).1,g.g,g.e⟩
 ·obtain ⟨q,hq,rfl⟩:=List.mem_map.1 hx
  obtain ⟨k,hk,rfl⟩:=List.getElem_of_mem hq
  have g:=hgr k hk
  refine ⟨by show Yy (rq[k]'hk).nm=true;rw[g.1.nm];exact (Qes k (by omega)).2.1,g.1.g,λe he=>?_⟩
  obtain ⟨y,hy,hye⟩:=(halm e).1 (g.2 e he)
  exact ⟨y.it,List.mem_map_of_mem hy,hye⟩
 ·show ((co.map IV.it).map (·.nm)++(rq.map IV.it).map (·.nm)).Nodup
  rw[qR hgd,qR (λk hk=>(hgr k hk).1)]
  exact QcA _ (by omega) _ (by omega)
 ·obtain ⟨q,hq,rfl⟩:=List.mem_map.1 hx
  obtain ⟨⟨k,k1,k2⟩,g2,_,g4⟩:=hgx q hq
  refine ⟨by show Yy q.nm=true;rw[k2];exact (Qes k (by omega)).2.2,g2,?_⟩
  show YJ (szs (co.map IV.it)) none q.ls=0
  rw[hsz];exact g4
 ·show ((qx.map XV.x).map (·.nm)).Nodup
  rw[List.map_map];exact hxn
 ·obtain ⟨q,hq,rfl⟩:=List.mem_map.1 hx
  obtain ⟨g1,g2⟩:=hgk q hq
  refine ⟨by show Yy q.nm=true;rw[g1];decide,?_⟩
  show YH (szs (co.map IV.it)) q.k=0
  rw[hsz];exact g2
def flk (l:PlV) (i:Nat):Int:=[l.f0,l.f1,l.f2].getD i 0
theorem Qkf {l:PlV}(h:l.ns.length=147) {i:Nat}(hi:i<3):(Ym l)[0+148+i*1]?=some (.int .i8 (flk l i)):=by
 rw[show 0+148+i*1=147+(1+i) by omega,Qee h]
 match i,hi with
 | 0,_=>rfl
 | 1,_=>rfl
 | 2,_=>rfl
theorem Qke {L:LN}{H:Array Obj}{l:PlV}(h:PlA L H l) (i:Nat) (hi:i<3):i8R (flk l i):=by
 match i,hi with
 | 0,_=>exact h.f0
 | 1,_=>exact h.f1
 | 2,_=>exact h.f2
theorem Qfs (ns:LN):∀e∈Y5 ns 5,VW e.nm:=λe he=>by
 unfold Y5 at he
 obtain ⟨k,_,rfl⟩:=List.mem_map.1 he
 unfold Jf
 split <;> exact YM (by simp)
set_option maxRecDepth 100000 in
set_option maxHeartbeats 8000000 in
theorem QcF {w:World}{l:PlV}(h:PlA [] w.heap l) :
  QJ prog 14 [.agg (Ym l).toArray] w λr w'=>Step [] w w'∧∃k,Qdd w.heap.size w'.heap r k∧D25 k:=by
 have hpl:=Qed h.n
 refine Zd (1+l.ns.getD 5 0 % 3) λn hn=>?_
 have hn3:1≤n∧n≤3:=by omega
 refine QJ.of_W func14 rfl ntmps14 results14 (by simp) ?_
 refine Qc<|xl rfl<|QQ (us:=Ym l) rfl λb1 w1 hs1 hb1 hB1=>xl rfl<|Qt (us:=Z3) rfl λb2 w2 hs2 hb2 hB2=>xe ?_
 have hs02:=hs1.trans hs2
 have hz1:=hs1.size
 have hz2:=hs2.size
 have hl1:=hB1.lt
 have hl2:=hB2.lt
 have hB12:=hB1.ext hs2
 have hfl:((l.ns.drop 0).take 5).length=5:=by rw[List.length_take,List.length_drop,h.n];rfl
 have hflt:∀n∈(l.ns.drop 0).take 5,n<256:=λn hn=>h.b n (List.mem_of_mem_drop (List.mem_of_mem_take hn))
 refine Qc<|x (Qa rfl)<|x (Vo (us:=bys ((l.ns.drop 0).take 5)) hB12 rfl (by rw[YI];exact hfl) (λj u hu=>Qah (l:=l) (o:=0) (m:=5) j u hu))<|xl rfl<|xf<|(jS (ns:=(l.ns.drop 0).take 5) hfl hflt).mono ?_
 rintro ve w3 ⟨hs3,ho3⟩
 refine Zd (Y5 ((l.ns.drop 0).take 5) 5) λev hev=>?_
 rw[hev] at ho3
 refine x (QE ⟨Q3 ho3,trivial⟩)<|xl rfl<|Qt (us:=Z3) rfl λb3 w4 hs4 hb3 hB3=>xl rfl<|Qn (us:=[ve,Zb,Zb,Zb,Zb]) hB3 rfl rfl rfl rfl ⟨QH ho3,rfl,rfl,rfl,rfl,trivial⟩ λw5 hs5 hB35 =>
  xe ?_
 have hs35:Step [] w3 w5:=hs4.then1 hs5 hb3
 refine Qc<|xl rfl<|Qt (us:=[Zb]) rfl λb4 w6 hs6 hb4 hB4=>xe ?_
 have hs36:=hs35.trans hs6
 have hs26:=hs3.trans hs36
 have hs16:=hs2.trans hs26
 have hz3:=hs3.size
 have hz35:=hs35.size
 have hz4:=hs4.size
 have hz6:=hs6.size
 have hl3:=hB35.lt
 have hl4:=hB4.lt
 have hB16:=hB12.ext hs26
 have hB36:=hB35.ext hs6
 have q5:=Qbh (l:=l) h.n (j:=5) (by omega)
 have q5l:=Xd h.b 5
 refine Zd (l.ns.getD 5 0) λcn hcn=>?_
 rw[hcn] at q5 q5l hn
 refine Qc<|x (Qa rfl)<|x (Qd hB16 rfl q5)<|x (Ur (a:=(cn:Int)) (b:=3) rfl rfl (by omega) (by omega))<|x (ZK (k':=.i64) rfl ⟨by omega,by omega⟩)<|QO rfl rfl<|Qe ?_
 have hnn:(1:Int)+(cn:Int) % 3=(n:Int):=by omega
 refine QU (α:=Value×List IV×Value×LI) [(6,7),(26,55)] (λ_=>[]) (λz w'=>Step [b3,b4] w6 w'∧Q2 w'.heap b3 47 [ve,z.1,Zb,Zb,Zb]∧Q2 w'.heap b4 37 [z.2.2.1]∧V1 w6.heap.size w' z.1 z.2.2.1 z.2.1 z.2.2.2∧z.2.1.length=n∧(∀k (hk:k<z.2.1.length),ItG 99 k (z.2.1[k]'hk))∧z.2.2.2.length≤5*n∧∀e,e∈z.2.2.2↔∃q∈z.2.1,e∈q.p.a.al) (by rfl) ?_ ?_
 ·refine Qc<|Qb<|Qb<|xe ?_
  refine Qg<|QA (α:=Nat×Value×List IV×Value×LI) [(6,7),(27,55)] (λz=>[(27,.int .i64 z.1)])
   (λz w'=>z.1≤n∧Step [b3,b4] w6 w'∧Q2 w'.heap b3 47 [ve,z.2.1,Zb,Zb,Zb]∧Q2 w'.heap b4 37 [z.2.2.2.1]∧V1 w6.heap.size w' z.2.1 z.2.2.2.1 z.2.2.1 z.2.2.2.2∧z.2.2.1.length=z.1∧(∀k (hk:k<z.2.2.1.length),ItG 99 k (z.2.2.1[k]'hk))∧z.2.2.2.2.length≤5*z.1∧∀e,e∈z.2.2.2.2↔∃q∈z.2.2.1,e∈q.p.a.al)
   (λz=>n - z.1) (by rfl) (0,Zb,[],Zb,[]) ⟨rfl,trivial⟩
   ⟨Nat.zero_le _,Step.refl _ _,hB36,hB4,V1.nil,rfl,λk hk=>absurd hk (by simp),by simp,by simp⟩ ?_
  rintro ⟨i,vc,co,va,al⟩ g7 w7 ⟨hi,hs7,hB37,hB47,hM7,hcol,hgd,hall,halm⟩
  simp only[] at hi hB37 hB47 hM7 hcol hgd hall halm
  refine Qc<|x (QB rfl rfl)<|xe ?_
  refine Qf<|QG rfl (λh28=>?_) (λh28=>?_)
  ·refine Qx ?_
   have hin:i=n:=by have h29:¬(i:Int)<1+(cn:Int) % 3:=h28;omega
   exact ⟨(vc,co,va,al),trivial,hs7,hB37,hB47,hM7,by simp only[];omega,hgd,by simp only[];omega,halm⟩
  have hlt:i<n:=by have h29:(i:Int)<1+(cn:Int) % 3:=h28;omega
  have n134:b1∉[b3,b4]:=by simp only[List.mem_cons,List.not_mem_nil,or_false];omega
  have hB17:=hB16.step hs7 n134
  have qs:=Qbh (l:=l) h.n (j:=0+6+i*1) (by omega)
  have qsl:=Xd h.b (0+6+i*1)
  refine Zd (l.ns.getD (0+6+i*1) 0) λm hm=>?_
  rw[hm] at qs qsl
  have hsk:=YR m 5
  have hsI:=KD m 5
  have hsB:=Qba m 5
  refine Zd (setK m 5) λsk hske=>?_
  rw[hske] at hsk hsI hsB
  refine Qi<|Qf<|Qg<|Qc<|Qb<|Qe<|Qc<|Qb<|x (Qa rfl)<|x (ZD (i:=i) rfl rfl (by omega))<|x (Qd hB17 rfl qs)<|xl rfl<|xf<|(KE m qsl _).mono ?_
  rintro vs w8 ⟨hs8,ho8⟩
  rw[hske] at ho8
  refine Qe ?_
  have hz8:=hs8.size
  have hM8:=hM7.ext hs8
  have hI8:=Qu.ints (L:=[]) hM8.a (by omega) (by simp)
  have hJ8:=Qu.ints (L:=[]) ho8 (by omega) (by simp)
  refine Qc<|x (Qd (hB47.ext hs8) rfl rfl)<|Qb<|xl rfl<|xf<|(jY hI8 hJ8 (by omega)).mono ?_
  rintro va2 w9 ⟨hs9,al2,hal2,hmem2,ho9⟩
  have hs89:=hs8.trans hs9
  have hz9:=hs9.size
  have hz7:=hs7.size
  refine xl rfl<|QF (hB47.ext hs89) rfl rfl (by simp) (QH ho9) λw10 hs10 hB410=>xe ?_
  have hl36:b3<w6.heap.size:=by omega
  have hM9:V1 w6.heap.size w9 vc va2 co al2:=hM8.setA (Zo ho9 (by omega)) hs9.any (λb hb=>.inr (Qk ho9 b hb).1)
  have hM10:=hM9.low hs10 (λb hb=>by rw[List.mem_singleton.1 hb];omega)
  have hB310:Q2 w10.heap b3 47 [ve,vc,Zb,Zb,Zb]:=(hB37.ext hs89).step hs10 (by simp only[List.mem_singleton];omega)
  have hB110:=(hB17.ext hs89).step hs10 (by simp only[List.mem_singleton];omega)
  have hJ10:QL [] w10.heap vs sk:=Qu.ints (L:=[]) (Qj (Qs ho8 hs9) hs10 (λb hb hm=>by have:=(Qk ho8 b hb).1;rw[List.mem_singleton.1 hm] at this;omega)) (by omega) (by simp)
  have hz10:=hs10.size
  have n3v:b3∉ob vc:=QM hM10.c (by omega)
  have n1v:b1∉ob vc:=QM hM10.c (by omega)
  have hgl:=Qe4 (ns:=l.ns) (o:=0+9+i*27) (by have:=h.n;omega)
  have hglt:=Qif (o:=0+9+i*27) h.b
  have hgs:=λj u=>Qah (l:=l) (o:=0+9+i*27) (m:=27) j u
  refine Zd (grN l.ns (0+9+i*27)) λgr hgr=>?_
  have hgs':∀j u,(bys gr)[j]?=some u→(Ym l)[0+9+i*27+j]?=some u:=by rw[←hgr];exact hgs
  rw[hgr] at hgl hglt
  have hd10:Step [] w10 { w10 with drawn:=w10.drawn+1 }:=Step.drew _ _
  have hu8:(48:Int)+(i:Int)=((48+i:Nat):Int):=by omega
  refine Zd (⟨#[99]⟩++⟨#[UInt8.ofNat (48+i)]⟩:ByteArray) λnm hnm=>?_
  refine QS (Step (ob vc) w10) [(0,true),(1,true),(2,true),(3,true),(4,true),(5,true),(6,true),(7,true),(8,true),(9,true),(10,true),(11,true),(12,false),(13,true),(14,false),(15,false),(16,true),(17,false)] mixed (by rfl) (by kernel_rfl) (Step.drew _ _) ?_
  refine p (λ_=>Qa rfl)<|pq (λ_ hc=>Qd (hB310.step hc n3v) rfl rfl)<|p (λ_=>Qo)<|p (λ_=>XY rfl rfl ⟨by omega,by omega⟩)<|p (λ_=>ZK (k':=.i32) rfl ⟨by omega,by omega⟩)<|p (λ_=>Vn (n:=48+i) (congrArg (Value.int .i32) hu8) (by omega)) <|
   p (λ_=>Z8 (a:=⟨#[99]⟩) (b:=⟨#[UInt8.ofNat (48+i)]⟩) rfl rfl (by show 1+1≤1000000000;omega))<|p (λ_=>Qo)<|p (λ_=>Qo)<|p (λ_=>Qa rfl)<|p (λ_=>ZD (i:=i) rfl rfl (by omega))<|pq (λ_ hc=>Vo (us:=bys gr) (hB110.step hc n1v) rfl (by rw[YI];exact hgl) hgs')<|?_
  refine pk<|xf<|(UJ (hJ10.ext hd10) (λe he=>by have:=hsB e he;omega) hsI hgl hglt).mono ?_
  rintro r11 w11 ⟨hs11,a,⟨xa,xm,xe',rfl,hA⟩,hG,hal⟩
  have hc11:=hd10.trans hs11
  have hz11:=hc11.size
  have hA0:=hA [] (by simp)
  refine ⟨hc11.any,?_⟩
  refine p (λ_=>ZS [(0,[.string nm]),(1,[xa,.int .i64 a.st,xm,xe'])] ⟨congrArg (λb=>(Value.string b).cells) hnm,rfl,rfl,rfl,trivial⟩)<|pk<|QD (us:=[QW ⟨nm,⟨xa,xm,xe',a⟩⟩]) rfl rfl (by decide) (show 1*5≤1000000 by omega) ⟨rfl,rfl,trivial⟩ λb14 w12 hs12 hb14 hB14=>⟨(hc11.trans hs12).any,?_⟩
  have hc12:=hc11.trans hs12
  have hM12:=hM10.ext hc12
  refine pk<|QZ (news:=QW ⟨nm,⟨xa,xm,xe',a⟩⟩) (L:=[]) hM12.c rfl rfl rfl (hB14.at (by simp)) (zY hA0.al.one hA0.mr.one hA0.ed.one) (by omega) (by have:=hc12.size;omega) λv15 w15 ho15 hs15 hn15=>⟨(hc12.any (L:=ob vc)).trans' hs15,?_⟩
  have hM15:=hM12.setC (UG (q:=⟨nm,⟨xa,xm,xe',a⟩⟩) (N:=w10.heap.size) (λL hL=>(hA L hL).ext hs12) (by omega) hM10.avlt) ho15 hs15 hn15
  refine p (λ_=>Qa rfl)<|pkl (hl:=by kernel_rfl)<|QF ((hB310.ext hc12).step hs15 n3v) rfl rfl (by simp) (QH ho15) λw16 hs16 hB316=>pe ?_
  have hge:=Qk hM10.c
  have n4v:b4∉ob vc:=QM hM10.c (by omega)
  have hB416:=((hB410.ext hc12).step hs15 n4v).step hs16 (by simp only[List.mem_singleton];omega)
  have hs710:Step [b4] w7 w10:=hs89.any.trans' hs10
  have hs615:Step [b3,b4] w6 w15:=((hs7.trans' (hs710.mono (by simp))).trans hc12.any).then hs15 (λb hb=>.inr (hge b hb).1)
  refine Qw<|QO rfl rfl<|Qb<|xe ?_
  refine ⟨(i+1,v15,co++[⟨nm,⟨xa,xm,xe',a⟩⟩],va2,al2),by simp only[];omega,⟨rfl,trivial⟩,hlt,hs615.trans' (hs16.mono (by simp)),hB316,hB416,hM15.low hs16 (λb hb=>by rw[List.mem_singleton.1 hb];omega),by simp only[List.length_append,List.length_singleton];omega,λk hk=>?_,by simp only[];omega,λe=>?_⟩
  ·simp only[] at hk ⊢
   by_cases hkl:k<co.length
   ·rw[List.getElem_append_left hkl];exact hgd k hkl
   ·have hke:k=i:=by simp only[List.length_append,List.length_singleton] at hk;omega
    subst hke
    rw[List.getElem_append_right (by omega)]
    simp only[hcol,Nat.sub_self,List.getElem_cons_zero]
    exact ⟨hnm.symm,hG,λe he=>by rw[hal] at he;exact (hsB e he).2⟩
  ·simp only[] at hmem2 ⊢
   rw[hmem2,halm]
   constructor
   ·rintro (⟨q,hq,he⟩ | he)
    ·exact ⟨q,List.mem_append_left _ hq,he⟩
    ·exact ⟨_,List.mem_append_right _ (List.mem_singleton.2 rfl),by rw[hal];exact he⟩
   ·rintro ⟨q,hq,he⟩
    rcases List.mem_append.1 hq with hq | hq
    ·exact .inl ⟨q,hq,he⟩
    ·rw[List.mem_singleton.1 hq,hal] at he;exact .inr he
 rintro ⟨vc,co,va,al⟩ g7 w7 ⟨hs7,hB37,hB47,hM7,hcol,hgd,hall,halm⟩
 simp only[] at hB37 hB47 hM7 hcol hgd hall halm
 have hz7:=hs7.size
 have n134:b1∉[b3,b4]:=by simp only[List.mem_cons,List.not_mem_nil,or_false];omega
 have hB17:=hB16.step hs7 n134
 have n13:b1∉[b3]:=by simp only[List.mem_singleton];omega
 have n43:b4∉[b3]:=by simp only[List.mem_singleton];omega
 have q90:=Qbh (l:=l) h.n (j:=90) (by omega)
 have q90l:=Xd h.b 90
 refine Zd (l.ns.getD 90 0) λrn hrn=>?_
 rw[hrn] at q90 q90l
 refine Zd (rn % 3) λr hr=>?_
 have hr2:r≤2:=by omega
 refine QU (α:=Value×List IV) [(8,9),(56,87)] (λ_=>[]) (λz w'=>Step [b3] w7 w'∧Q2 w'.heap b3 47 [ve,vc,z.1,Zb,Zb]∧V1 w7.heap.size w' z.1 Zb z.2 []∧z.2.length=r∧∀k (hk:k<z.2.length),ItG 114 k (z.2[k]'hk)∧∀e∈(z.2[k]'hk).p.a.al,e∈al) (by rfl) ?_ ?_
 ·refine Qc<|x (Qa rfl)<|x (Qd hB17 rfl q90)<|x (Ur (a:=(rn:Int)) (b:=3) rfl rfl (by omega) (by omega))<|x (ZK (k':=.i64) rfl ⟨by omega,by omega⟩)<|Qb<|xe ?_
  refine Qg<|QA (α:=Nat×Value×List IV) [(8,9),(60,87)] (λz=>[(60,.int .i64 z.1)])
   (λz w'=>z.1≤r∧Step [b3] w7 w'∧Q2 w'.heap b3 47 [ve,vc,z.2.1,Zb,Zb]∧V1 w7.heap.size w' z.2.1 Zb z.2.2 []∧z.2.2.length=z.1∧∀k (hk:k<z.2.2.length),ItG 114 k (z.2.2[k]'hk)∧∀e∈(z.2.2[k]'hk).p.a.al,e∈al)
   (λz=>r - z.1) (by rfl) (0,Zb,[]) ⟨rfl,trivial⟩
   ⟨Nat.zero_le _,Step.refl _ _,hB37,V1.nil,rfl,λk hk=>absurd hk (by simp)⟩ ?_
  rintro ⟨i,vr,rq⟩ g8 w8 ⟨hi,hs8,hB38,hM8,hrl,hgr⟩
  simp only[] at hi hB38 hM8 hrl hgr
  refine Qc<|x (QB rfl rfl)<|xe ?_
  refine Qf<|QG rfl (λh61=>?_) (λh61=>?_)
  ·refine Qx ?_
   have hin:i=r:=by have h62:¬(i:Int)<(rn:Int) % 3:=h61;omega
   exact ⟨(vr,rq),trivial,hs8,hB38,hM8,by simp only[];omega,hgr⟩
  have hlt:i<r:=by have h62:(i:Int)<(rn:Int) % 3:=h61;omega
  have hB18:=hB17.step hs8 n13
  have hB48:=hB47.step hs8 n43
  have qs:=Qbh (l:=l) h.n (j:=0+91+i*1) (by omega)
  have qsl:=Xd h.b (0+91+i*1)
  refine Zd (l.ns.getD (0+91+i*1) 0) λm hm=>?_
  rw[hm] at qs qsl
  have hsk:=YR m 5
  have hsI:=KD m 5
  have hsB:=Qba m 5
  refine Zd (setK m 5) λsk hske=>?_
  rw[hske] at hsk hsI hsB
  refine Qi<|Qf<|Qg<|Qc<|Qb<|Qe<|Qc<|Qb<|x (Qa rfl)<|x (ZD (i:=i) rfl rfl (by omega))<|x (Qd hB18 rfl qs)<|xl rfl<|xf<|(KE m qsl _).mono ?_
  rintro vs w9 ⟨hs9,ho9⟩
  rw[hske] at ho9
  have hz8:=hs8.size
  have hz9:=hs9.size
  have hva8:=Qs (Qj hM7.a hs8 (λb hb hm=>by rw[List.mem_singleton.1 hm] at hb;exact QM hM7.a (by omega) hb)) hs9
  have hgs:=Qk ho9
  have hlv:=QR hM7.a
  have hD:=QhH ho9 (by omega) (hB48.ext hs9) (λhm=>by have:=(hgs b4 hm).1;omega) (QT hva8 (by omega) (λb hb hbs=>by have:=(hgs b hbs).1;have:=hlv b hb;omega))
  refine x (Zr (l:=[]) (l':=[_]))<|xl rfl<|xf<|hD.mono ?_
  rintro vd w10 ⟨hs10,ho10⟩
  have hFI:Yi (sk.filter λx=>decide (x∈al)):=List.Pairwise.filter _ hsI
  have hFL:=List.length_filter_le (λx=>decide (x∈al)) sk
  have hFB:∀e∈sk.filter λx=>decide (x∈al),e∈sk∧e∈al:=λe he=>by
   have:=List.mem_filter.1 he
   exact ⟨this.1,of_decide_eq_true this.2⟩
  refine Zd (sk.filter λx=>decide (x∈al)) λF hF=>?_
  rw[hF] at ho10 hFI hFL hFB
  refine Qe ?_
  have hs810:Step [] w8 w10:=hs9.then hs10 (λb hb=>.inr (hgs b hb).1)
  have hz10:=hs810.size
  have hM10:=hM8.ext hs810
  have hB310:=hB38.ext hs810
  have hB110:=hB18.ext hs810
  have hJ10:QL [] w10.heap vd F:=Qu.ints (L:=[]) ho10 (by omega) (by simp)
  have n3v:b3∉ob vr:=QM hM10.c (by omega)
  have n1v:b1∉ob vr:=QM hM10.c (by omega)
  have hgl:=Qe4 (ns:=l.ns) (o:=0+93+i*27) (by have:=h.n;omega)
  have hglt:=Qif (o:=0+93+i*27) h.b
  have hgs':=λj u=>Qah (l:=l) (o:=0+93+i*27) (m:=27) j u
  refine Zd (grN l.ns (0+93+i*27)) λgr hgr'=>?_
  have hgs2:∀j u,(bys gr)[j]?=some u→(Ym l)[0+93+i*27+j]?=some u:=by rw[←hgr'];exact hgs'
  rw[hgr'] at hgl hglt
  have hd10:Step [] w10 { w10 with drawn:=w10.drawn+1 }:=Step.drew _ _
  have hu8:(48:Int)+(i:Int)=((48+i:Nat):Int):=by omega
  refine Zd (⟨#[114]⟩++⟨#[UInt8.ofNat (48+i)]⟩:ByteArray) λnm hnm=>?_
  refine QS (Step (ob vr) w10) [(0,true),(1,true),(2,true),(3,true),(4,true),(5,true),(6,true),(7,true),(8,true),(9,true),(10,true),(11,true),(12,false),(13,true),(14,false),(15,false),(16,true),(17,false)] mixed (by rfl) (by kernel_rfl) (Step.drew _ _) ?_
  refine p (λ_=>Qa rfl)<|pq (λ_ hc=>Qd (hB310.step hc n3v) rfl rfl)<|p (λ_=>Qo)<|p (λ_=>XY rfl rfl ⟨by omega,by omega⟩)<|p (λ_=>ZK (k':=.i32) rfl ⟨by omega,by omega⟩)<|p (λ_=>Vn (n:=48+i) (congrArg (Value.int .i32) hu8) (by omega)) <|
   p (λ_=>Z8 (a:=⟨#[114]⟩) (b:=⟨#[UInt8.ofNat (48+i)]⟩) rfl rfl (by show 1+1≤1000000000;omega))<|p (λ_=>Qo)<|p (λ_=>Qo)<|p (λ_=>Qa rfl)<|p (λ_=>ZD (i:=i) rfl rfl (by omega))<|pq (λ_ hc=>Vo (us:=bys gr) (hB110.step hc n1v) rfl (by rw[YI];exact hgl) hgs2)<|?_
  refine pk<|xf<|(UJ (hJ10.ext hd10) (λe he=>by have:=hsB e (hFB e he).1;omega) hFI hgl hglt).mono ?_
  rintro r11 w11 ⟨hs11,a,⟨xa,xm,xe',rfl,hA⟩,hG,hal⟩
  have hc11:=hd10.trans hs11
  have hz11:=hc11.size
  have hA0:=hA [] (by simp)
  refine ⟨hc11.any,?_⟩
  refine p (λ_=>ZS [(0,[.string nm]),(1,[xa,.int .i64 a.st,xm,xe'])] ⟨congrArg (λb=>(Value.string b).cells) hnm,rfl,rfl,rfl,trivial⟩)<|pk<|QD (us:=[QW ⟨nm,⟨xa,xm,xe',a⟩⟩]) rfl rfl (by decide) (show 1*5≤1000000 by omega) ⟨rfl,rfl,trivial⟩ λb14 w12 hs12 hb14 hB14=>⟨(hc11.trans hs12).any,?_⟩
  have hc12:=hc11.trans hs12
  have hM12:=hM10.ext hc12
  refine pk<|QZ (news:=QW ⟨nm,⟨xa,xm,xe',a⟩⟩) (L:=[]) hM12.c rfl rfl rfl (hB14.at (by simp)) (zY hA0.al.one hA0.mr.one hA0.ed.one) (by omega) (by have:=hc12.size;omega) λv15 w15 ho15 hs15 hn15=>⟨(hc12.any (L:=ob vr)).trans' hs15,?_⟩
  have hM15:=hM12.setC (UG (q:=⟨nm,⟨xa,xm,xe',a⟩⟩) (N:=w10.heap.size) (λL hL=>(hA L hL).ext hs12) (by omega) hM10.avlt) ho15 hs15 hn15
  refine p (λ_=>Qa rfl)<|pkl (hl:=by kernel_rfl)<|QF ((hB310.ext hc12).step hs15 n3v) rfl rfl (by simp) (QH ho15) λw16 hs16 hB316=>pe ?_
  have hge:=Qk hM10.c
  have hs715:Step [b3] w7 w15:=((hs8.trans hs810.any).trans hc12.any).then hs15 (λb hb=>.inr (hge b hb).1)
  refine Qw<|QO rfl rfl<|Qb<|xe ?_
  refine ⟨(i+1,v15,rq++[⟨nm,⟨xa,xm,xe',a⟩⟩]),by simp only[];omega,⟨rfl,trivial⟩,hlt,hs715.trans' hs16,hB316,hM15.low hs16 (λb hb=>by rw[List.mem_singleton.1 hb];omega),by simp only[List.length_append,List.length_singleton];omega,λk hk=>?_⟩
  simp only[] at hk ⊢
  by_cases hkl:k<rq.length
  ·rw[List.getElem_append_left hkl];exact hgr k hkl
  ·have hke:k=i:=by simp only[List.length_append,List.length_singleton] at hk;omega
   subst hke
   rw[List.getElem_append_right (by omega)]
   simp only[hrl,Nat.sub_self,List.getElem_cons_zero]
   exact ⟨⟨hnm.symm,hG,λe he=>by rw[hal] at he;exact (hsB e (hFB e he).1).2⟩,λe he=>by rw[hal] at he;exact (hFB e he).2⟩
 rintro ⟨vr,rq⟩ g8 w8 ⟨hs8,hB38,hM8,hrl,hgr⟩
 simp only[] at hB38 hM8 hrl hgr
 have hz8:=hs8.size
 have hB18:=hB17.step hs8 n13
 have g147:=Qee (l:=l) h.n 0
 have hX6:Zj [b3,b4] w6.heap l.vx l.xs.length 4 (l.xs.flatMap Yw):=((h.x.up (L':=[b3,b4]) (λb hb=>.inr (by simp only[List.mem_cons,List.not_mem_nil,or_false] at hb;omega))).ext hs02).ext hs26
 have hX8:Zj [b3] w8.heap l.vx l.xs.length 4 (l.xs.flatMap Yw):=((hX6.st hs7).up (L':=[b3]) (λb hb=>.inl (by simp only[List.mem_singleton] at hb;simp[hb]))).st hs8
 refine QU (α:=Value×List XV) [(10,14),(88,151)] (λ_=>[]) (λz w'=>Step [b3] w8 w'∧Q2 w'.heap b3 47 [ve,vc,vr,z.1,Zb]∧YY Q9 2 122 (λq=>[(q.v,q.ls.length,2,q.ls.flatMap QN)]) w8.heap.size w' z.1 z.2∧z.2.length≤2∧(z.2.map (·.nm)).Nodup∧∀q∈z.2,(∃k,k<2∧q.nm=⟨#[101]⟩++⟨#[UInt8.ofNat (48+k)]⟩)∧q.ls≠[]∧q.ls.length≤3∧YJ (co.map (·.p.a.st)) none q.ls=0) (by rfl) ?_ ?_
 ·refine Qc<|x (Qa rfl)<|x (Qd hB18 rfl g147)<|x (Qr hX8 rfl)<|Qb<|xe ?_
  refine Qg<|QA (α:=Nat×Value×List XV) [(10,14),(91,151)] (λz=>[(91,.int .i64 z.1)])
   (λz w'=>z.1≤l.xs.length∧z.1≤2∧Step [b3] w8 w'∧Q2 w'.heap b3 47 [ve,vc,vr,z.2.1,Zb]∧YY Q9 2 122 (λq=>[(q.v,q.ls.length,2,q.ls.flatMap QN)]) w8.heap.size w' z.2.1 z.2.2∧z.2.2.length≤z.1∧(z.2.2.map (·.nm)).Nodup∧∀q∈z.2.2,(∃k,k<z.1∧q.nm=⟨#[101]⟩++⟨#[UInt8.ofNat (48+k)]⟩)∧q.ls≠[]∧q.ls.length≤3∧YJ (co.map (·.p.a.st)) none q.ls=0)
   (λz=>l.xs.length - z.1) (by rfl) (0,Zb,[]) ⟨rfl,trivial⟩
   ⟨Nat.zero_le _,Nat.zero_le _,Step.refl _ _,hB38,YY.nil,Nat.le_refl _,List.Pairwise.nil,λq hq=>by cases hq⟩ ?_
  rintro ⟨i,vx,qx⟩ g9 w9 ⟨hi,hi2,hs9,hB39,hM9,hxl,hxn,hgx⟩
  simp only[] at hi hi2 hB39 hM9 hxl hxn hgx
  have hfin:(∀q∈qx,(∃k,k<2∧q.nm=⟨#[101]⟩++⟨#[UInt8.ofNat (48+k)]⟩)∧q.ls≠[]∧q.ls.length≤3∧YJ (co.map (·.p.a.st)) none q.ls=0):=λq hq=>by
   obtain ⟨⟨k,k1,k2⟩,h2⟩:=hgx q hq
   exact ⟨⟨k,by omega,k2⟩,h2⟩
  refine Qc<|x (QB rfl rfl)<|xe ?_
  refine Qf<|QG rfl (λh92=>?_) (λh92=>?_)
  ·refine Qx ?_
   exact ⟨(vx,qx),trivial,hs9,hB39,hM9,by simp only[];omega,hxn,hfin⟩
  have hlt:i<l.xs.length:=by have h93:(i:Int)<(l.xs.length:Int):=h92;omega
  have hX9:=hX8.st hs9
  refine Qi<|Qf<|Qg<|Qc<|Qb<|xig Ug hX9 rfl rfl hlt λa94 h94=>?_
  refine Zd (l.xs[i]'hlt) λxr hxr=>?_
  rw[hxr] at h94
  refine x (QC h94 rfl (Ug xr))<|xl rfl<|Qt (us:=[.int .u8 0,.int .u8 0,.int .u8 0,.int .u8 0]) rfl λb11 w10 hs10 hb11 hB11=>x Qh<|xl rfl<|Qn (us:=Yw xr) hB11 rfl rfl (Ug xr) rfl (jI xr.1) λw11 hs11 hB1111=>xe ?_
  have hs911:Step [] w9 w11:=hs10.then1 hs11 hb11
  refine Qf<|Qc<|Qb<|x (Q7 rfl rfl)<|xe ?_
  refine Q4 rfl (λh97=>?_) (λh97=>?_)
  ·refine Qx ?_
   exact ⟨(vx,qx),trivial,hs9.trans hs911.any,hB39.ext hs911,hM9.ext hs911,by simp only[];omega,hxn,hfin⟩
  have hi3:i<2:=by have h98:¬(i:Int)=2:=h97;omega
  have hu8:(48:Int)+(i:Int)=((48+i:Nat):Int):=by omega
  have hz11:=hs911.size
  have hl11:=hB1111.lt
  refine Zd (⟨#[101]⟩++⟨#[UInt8.ofNat (48+i)]⟩:ByteArray) λnm hnm=>?_
  refine Qi<|Qc<|Qb<|QO rfl rfl<|x (ZK (k':=.i32) rfl ⟨by omega,by omega⟩)<|x (Vn (n:=48+i) (congrArg (Value.int .i32) hu8) (by omega))<|x (Z8 (a:=⟨#[101]⟩) (b:=⟨#[UInt8.ofNat (48+i)]⟩) rfl rfl (by show 1+1≤1000000000;omega))<|x (QE ⟨rfl,trivial⟩) <|
   xl rfl<|Qt (us:=[.string .empty,Zb]) rfl λb12 w12 hs12 hb12 hB12=>xl rfl<|Qn (us:=[.string nm,Zb]) hB12 rfl (show Go.Lg.ev _ _=_ from congrArg (λs=>Value.agg #[.string s,Zb]) hnm) rfl rfl ⟨rfl,rfl,trivial⟩ λw13 hs13 hB1213=>xe ?_
  have hs1113:Step [] w11 w13:=hs12.then1 hs13 hb12
  have hs913:=hs911.trans hs1113
  have hz1113:=hs1113.size
  have hz913:=hs913.size
  have hz9:=hs9.size
  have hgeC:=Qk hM7.c
  have hltC:=QR hM7.c
  have nc3:b3∉ob vc:=QM hM7.c (by omega)
  have hno3:∀b∈ob vc,b∉[b3]:=λb hb hm=>by rw[List.mem_singleton.1 hm] at hb;exact nc3 hb
  have hC13:=Qs (Qj (Qj hM7.c hs8 hno3) hs9 hno3) hs913
  have hB313:=hB39.ext hs913
  have hB1113:=hB1111.ext hs1113
  have hl12:=hB12.lt
  have n312:b3∉[b12]:=by simp only[List.mem_singleton];omega
  have n1112:b11∉[b12]:=by simp only[List.mem_singleton];omega
  have hAC13:=QT (L:=[b12]) hC13 (by omega) (λb hb hm=>by rw[List.mem_singleton.1 hm] at hb;have:=hltC b12 hb;omega)
  refine QU (α:=Value×List (Int×Int)) [(13,14),(104,140)] (λ_=>[]) (λz w'=>Step [b12] w13 w'∧Q2 w'.heap b12 122 [.string nm,z.1]∧w'.ownsRow w13.heap.size 124 2 z.1 z.2.length (z.2.flatMap QN)∧z.2.length≤co.length∧z.2.Pairwise (λp q=>p.1<q.1)∧∀p∈z.2,0≤p.1∧p.1<(co.length:Int)∧0≤p.2∧p.2<cget (co.map (·.p.a.st)) p.1.toNat) (by rfl) ?_ ?_
  ·refine Qc<|x (Qa rfl)<|x (Qd hB313 rfl rfl)<|x (Qr hAC13 rfl)<|Qb<|xe ?_
   refine Qg<|QA (α:=Nat×Value×List (Int×Int)) [(13,14),(107,140)] (λz=>[(107,.int .i64 z.1)])
    (λz w'=>z.1≤co.length∧Step [b12] w13 w'∧Q2 w'.heap b12 122 [.string nm,z.2.1]∧w'.ownsRow w13.heap.size 124 2 z.2.1 z.2.2.length (z.2.2.flatMap QN)∧z.2.2.length≤z.1∧z.2.2.Pairwise (λp q=>p.1<q.1)∧∀p∈z.2.2,0≤p.1∧p.1<(z.1:Int)∧0≤p.2∧p.2<cget (co.map (·.p.a.st)) p.1.toNat)
    (λz=>co.length - z.1) (by rfl) (0,Zb,[]) ⟨rfl,trivial⟩
    ⟨Nat.zero_le _,Step.refl _ _,hB1213,QP _ _ _ _,Nat.le_refl _,List.Pairwise.nil,λp hp=>by cases hp⟩ ?_
   rintro ⟨k,vl,ls⟩ g14 w14 ⟨hk,hs14,hB1214,ho14,hll,hlp,hlb⟩
   simp only[] at hk hB1214 ho14 hll hlp hlb
   refine Qc<|x (QB rfl rfl)<|xe ?_
   refine Qf<|QG rfl (λh108=>?_) (λh108=>?_)
   ·refine Qx ?_
    have hke:k=co.length:=by have h109:¬(k:Int)<(co.length:Int):=h108;omega
    rw[hke] at hlb
    exact ⟨(vl,ls),trivial,hs14,hB1214,ho14,by simp only[];omega,hlp,hlb⟩
   have hkl:k<co.length:=by have h109:(k:Int)<(co.length:Int):=h108;omega
   have hAC14:=hAC13.st hs14
   have hB314:=hB313.step hs14 n312
   have hB1114:=hB1113.step hs14 n1112
   refine Qi<|Qf<|Qg<|Qc<|Qb<|Qe<|Qc<|x (Qa rfl)<|x (Qd hB314 rfl rfl)<|Qb<|xig Yq hAC14 rfl rfl hkl λa113 h113=>?_
   refine Zd (co[k]'hkl) λq hq=>?_
   rw[hq] at h113
   refine x (Zc rfl)<|x (Zc rfl)<|x (Qv ((h113.from 1).fld 1 (.int .i64 q.p.a.st) rfl) rfl)<|Qe ?_
   have hqg:=(hgd k hkl).g
   rw[hq] at hqg
   have hqp:=hqg.p
   have hqs:=hqg.s
   have qx0:=VD (ns:=xr.1) (j:=0+k*1) (by rw[xr.2.1];omega)
   have qx0l:=Xd xr.2.2 (0+k*1)
   refine Zd (xr.1.getD (0+k*1) 0) λxk hxk=>?_
   rw[hxk] at qx0 qx0l
   have hmod:0≤(xk:Int) % (q.p.a.st+2):=Int.emod_nonneg _ (by omega)
   refine Qc<|Qb<|x (ZD (i:=k) rfl rfl (by omega))<|x (Qd hB1114 rfl qx0)<|x (ZK (k':=.i64) rfl ⟨by omega,by omega⟩)<|Qb<|QO rfl rfl<|x (Ur (a:=(xk:Int)) (b:=q.p.a.st+2) rfl rfl (by omega) (by omega))<|Qb<|x (QB rfl rfl)<|xe ?_
   have hgeL:=Qk ho14
   have hz14:=hs14.size
   have hz13:=hs13.size
   have hn12v:b12∉ob vl:=QM ho14 (by omega)
   have hn11v:b11∉ob vl:=QM ho14 (by omega)
   have hcget:cget (co.map (·.p.a.st)) k=q.p.a.st:=by
    unfold cget
    simp[List.getD,List.getElem?_map,List.getElem?_eq_getElem hkl,hq]
   refine QG rfl (λh125=>?_) (λh125=>?_)
   ·refine Qi<|Qw<|QO rfl rfl<|Qb<|xe ?_
    exact ⟨(k+1,vl,ls),by simp only[];omega,⟨rfl,trivial⟩,hkl,hs14,hB1214,ho14,by simp only[];omega,hlp,λp hp=>by have:=hlb p hp;simp only[];omega⟩
   have h126:(xk:Int) % (q.p.a.st+2)<q.p.a.st:=h125
   have hd14:Step [] w14 { w14 with drawn:=w14.drawn+1 }:=Step.drew _ _
   refine Zd ((xk:Int) % (q.p.a.st+2)) λst hst=>?_
   refine QS (Step (ob vl) w14) [(0,true),(1,true),(2,true),(3,true),(4,true),(5,true),(6,true),(7,true),(8,true),(9,true),(10,true),(11,false),(12,false),(13,true),(14,false)] mixed (by rfl) (by kernel_rfl) (Step.drew _ _) ?_
   refine p (λ_=>Qa rfl)<|pq (λ_ hc=>Qd (hB1214.step hc hn12v) rfl rfl)<|p (λ_=>Qo)<|p (λ_=>Qo)<|p (λ_=>ZD (i:=k) rfl rfl (by omega))<|pq (λ_ hc=>Qd (hB1114.step hc hn11v) rfl qx0)<|p (λ_=>ZK (k':=.i64) rfl ⟨by omega,by omega⟩)<|p (λ_=>Qo)<|p (λ_=>XY rfl rfl ⟨by omega,by omega⟩) <|
    p (λ_=>Ur (a:=(xk:Int)) (b:=q.p.a.st+2) rfl rfl (by omega) (by omega))<|p (λ_=>QE ⟨rfl,rfl,trivial⟩)<|pk<|QD (us:=[QN ((k:Int),(xk:Int) % (q.p.a.st+2))]) rfl rfl (by decide) (show 1*2≤1000000 by omega) ⟨rfl,rfl,trivial⟩ λb137 w15 hs15 hb137 hB137=>?_
   have hs1415:=hd14.trans hs15
   have hz1415:=hs1415.size
   refine ⟨hs1415.any,?_⟩
   refine pk<|QZ (news:=QN ((k:Int),(xk:Int) % (q.p.a.st+2))) (L:=[]) (Qs ho14 hs1415) rfl rfl rfl (hB137.at (by simp)) (Qbk _) (by omega) (by omega) λv16 w16 ho16 hs16 hn16=>⟨(hs1415.any (L:=ob vl)).trans' hs16,?_⟩
   have hge16:∀b∈ob v16,w13.heap.size≤b:=λb hb=>(Qk ho16 b hb).1
   refine p (λ_=>Qa rfl)<|pkl (hl:=by kernel_rfl)<|QF ((hB1214.ext hs1415).step hs16 hn12v) rfl rfl (by simp) (QH ho16) λw17 hs17 hB17=>pe ?_
   refine Qw<|QO rfl rfl<|Qb<|xe ?_
   refine ⟨(k+1,v16,ls++[((k:Int),(xk:Int) % (q.p.a.st+2))]),by simp only[];omega,⟨rfl,trivial⟩,hkl,((hs14.trans hs1415.any).then hs16 (λb hb=>.inr (hgeL b hb).1)).trans' hs17,hB17,?_,by simp only[List.length_append,List.length_singleton];omega,?_,λp hp=>?_⟩
   ·have h9:=Qj ho16 hs17 (λb hb=>by have:=hge16 b hb;simp only[List.mem_singleton];omega)
    simp only[List.length_append,List.flatMap_append]
    simpa using h9
   ·simp only[]
    rw[List.pairwise_append]
    exact ⟨hlp,List.pairwise_singleton _ _,λp hp p' hp'=>by rw[List.mem_singleton.1 hp'];have:=hlb p hp;simp only[];omega⟩
   ·simp only[] at hp ⊢
    rcases List.mem_append.1 hp with hp | hp
    ·have:=hlb p hp;omega
    ·rw[List.mem_singleton.1 hp]
     simp only[Int.toNat_natCast]
     rw[hcget]
     omega
  rintro ⟨vl,ls⟩ g14 w14 ⟨hs14,hB1214,ho14,hll,hlp,hlb⟩
  simp only[] at hB1214 ho14 hll hlp hlb
  have hz14:=hs14.size
  have hz13:=hs13.size
  have hs914:Step [] w9 w14:=hs913.then1 hs14 (by omega)
  have hB314:=hB313.step hs14 n312
  have hM14:=hM9.ext hs914
  refine Qc<|x (Qa rfl)<|x (Qd hB1214 rfl rfl)<|x (Qr (QT (L:=[]) ho14 (by omega) (by simp)) rfl)<|x (ZO rfl rfl)<|xe ?_
  refine QG rfl (λh144=>?_) (λh144=>?_)
  ·refine Qi<|Qw<|QO rfl rfl<|Qb<|xe ?_
   refine ⟨(i+1,vx,qx),by simp only[];omega,⟨rfl,trivial⟩,hlt,by simp only[];omega,hs9.trans hs914.any,hB314,hM14,by simp only[];omega,hxn,λq hq=>?_⟩
   obtain ⟨⟨k,k1,k2⟩,h2⟩:=hgx q hq
   exact ⟨⟨k,by simp only[];omega,k2⟩,h2⟩
  have h145:(0:Int)<(ls.length:Int):=h144
  have hxx:=QH ho14
  refine Qw<|x (Qa rfl)<|x (Qd hB314 rfl rfl)<|x (Qq hB1214 rfl rfl)<|xl rfl<|QD (us:=[Q9 ⟨nm,vl,ls⟩]) rfl rfl (by decide) (show 1*2≤1000000 by omega) ⟨rfl,rfl,trivial⟩ λb148 w15 hs15 hb148 hB148=>?_
  refine xl rfl<|QZ (news:=Q9 ⟨nm,vl,ls⟩) (L:=[]) (Qs hM14.own hs15) rfl rfl rfl (hB148.at (by simp)) (zi hxx) (by omega) (by have:=hs914.size;have:=hs15.size;omega) λv16 w16 ho16 hs16 hn16=>?_
  have hs1115:Step [] w11 w15:=(hs1113.then1 hs14 hb12).trans hs15
  have hM16:=(hM9.ext hs911).app hs1115 (q:=⟨nm,vl,ls⟩) (λt ht=>by rw[List.mem_singleton.1 ht];exact ⟨w13.heap.size,124,Qs ho14 hs15,by show ls.length≤_;omega,hz1113⟩) (by omega) ho16 hs16 hn16
  have hgeX:=Qk hM14.own
  have n3x:b3∉ob vx:=QM hM14.own (by omega)
  refine x (Qa rfl)<|xl rfl<|QF ((hB314.ext hs15).step hs16 n3x) rfl rfl (by simp) (QH ho16) λw17 hs17 hB317=>xe ?_
  refine Qw<|QO rfl rfl<|Qb<|xe ?_
  have hs816:Step [b3] w8 w16:=((hs9.trans hs914.any).trans hs15.any).then hs16 (λb hb=>.inr (hgeX b hb).1)
  refine ⟨(i+1,v16,qx++[⟨nm,vl,ls⟩]),by simp only[];omega,⟨rfl,trivial⟩,hlt,by simp only[];omega,hs816.trans' hs17,hB317,hM16.low hs17 (λb hb=>by rw[List.mem_singleton.1 hb];omega),by simp only[List.length_append,List.length_singleton];omega,?_,λq hq=>?_⟩
  ·simp only[List.map_append,List.map_cons,List.map_nil]
   rw[List.nodup_append]
   refine ⟨hxn,by simp,λs hs s' hs' e=>?_⟩
   obtain ⟨q,hq,rfl⟩:=List.mem_map.1 hs
   obtain ⟨⟨k,k1,k2⟩,_⟩:=hgx q hq
   have hk0:k=0:=by omega
   have hi1:i=1:=by omega
   rw[List.mem_singleton.1 hs',k2,←hnm,hk0,hi1] at e
   exact absurd e (by decide)
  ·rcases List.mem_append.1 hq with hq | hq
   ·obtain ⟨⟨k,k1,k2⟩,h2⟩:=hgx q hq
    exact ⟨⟨k,by simp only[];omega,k2⟩,h2⟩
   ·rw[List.mem_singleton.1 hq]
    refine ⟨⟨i,Nat.lt_succ_self _,hnm.symm⟩,λe=>by rw[show ls=[] from e] at h145;exact absurd h145 (by decide),by show ls.length≤3;omega,QbY ls none (λb hb=>by cases hb) hlp (λp hp=>?_)⟩
    rw[List.length_map]
    exact hlb p hp
 rintro ⟨vx,qx⟩ g9 w9 ⟨hs9,hB39,hM9,hxl,hxn,hgx⟩
 simp only[] at hB39 hM9 hxl hxn hgx
 have hz9:=hs9.size
 have hB19:=hB18.step hs9 n13
 have g151:=Qee (l:=l) h.n 4
 have hbd:=h.bd
 have hbdb:=Qa4 l.bd (b:=8) (by decide)
 refine Zd (l.bd.tmod 8) λbd hbde=>?_
 rw[hbde] at hbdb
 have hbd8:-7≤bd∧bd≤7:=by omega
 refine Qc<|x (Qa rfl)<|x (Qd hB19 rfl g151)<|x (ZK (k':=.i64) rfl ⟨by omega,by omega⟩)<|x (Qd3 rfl rfl (by decide))<|x (QE ⟨rfl,rfl,trivial⟩)<|xl rfl<|Qt (us:=[.string .empty,Zb,.int .i64 0]) rfl λb15 w10 hs10 hb15 hB15 =>
  xl rfl<|Qn (us:=[.string ⟨#[107]⟩,Zb,.int .i64 bd]) hB15 rfl (show Go.Lg.ev _ _=_ from congrArg (λn=>Value.agg #[.string ⟨#[107]⟩,Zb,.int .i64 n]) hbde) rfl rfl ⟨rfl,rfl,rfl,trivial⟩ λw11 hs11 hB1511=>xe ?_
 have hs911:Step [] w9 w11:=hs10.then1 hs11 hb15
 have hz911:=hs911.size
 have hB111:=hB19.ext hs911
 have hB311:=hB39.ext hs911
 have n115:b1∉[b15]:=by simp only[List.mem_singleton];omega
 have n315:b3∉[b15]:=by simp only[List.mem_singleton];omega
 have hl15:=hB1511.lt
 refine QU (α:=Value×List (Int×Int)) [(16,16),(157,179)] (λ_=>[]) (λz w'=>Step [b15] w11 w'∧Q2 w'.heap b15 127 [.string ⟨#[107]⟩,z.1,.int .i64 bd]∧w'.ownsRow w11.heap.size 129 2 z.1 z.2.length (z.2.flatMap QN)∧z.2.length≤n∧z.2.Pairwise (λp q=>p.1<q.1)∧∀p∈z.2,0≤p.1∧p.1<(n:Int)∧-4<p.2∧p.2<4) (by rfl) ?_ ?_
 ·refine Qc<|Qb<|Qb<|xe ?_
  refine Qg<|QA (α:=Nat×Value×List (Int×Int)) [(16,16),(158,179)] (λz=>[(158,.int .i64 z.1)])
   (λz w'=>z.1≤n∧Step [b15] w11 w'∧Q2 w'.heap b15 127 [.string ⟨#[107]⟩,z.2.1,.int .i64 bd]∧w'.ownsRow w11.heap.size 129 2 z.2.1 z.2.2.length (z.2.2.flatMap QN)∧z.2.2.length≤z.1∧z.2.2.Pairwise (λp q=>p.1<q.1)∧∀p∈z.2.2,0≤p.1∧p.1<(z.1:Int)∧-4<p.2∧p.2<4)
   (λz=>n - z.1) (by rfl) (0,Zb,[]) ⟨rfl,trivial⟩
   ⟨Nat.zero_le _,Step.refl _ _,hB1511,QP _ _ _ _,Nat.le_refl _,List.Pairwise.nil,λp hp=>by cases hp⟩ ?_
  rintro ⟨i,vt,ts⟩ g12 w12 ⟨hi,hs12,hB1512,ho12,htl,htp,htb⟩
  simp only[] at hi hB1512 ho12 htl htp htb
  refine Qc<|x (QB rfl rfl)<|xe ?_
  refine Qf<|QG rfl (λh159=>?_) (λh159=>?_)
  ·refine Qx ?_
   have hin:i=n:=by have h160:¬(i:Int)<1+(cn:Int) % 3:=h159;omega
   rw[hin] at htl htb
   exact ⟨(vt,ts),trivial,hs12,hB1512,ho12,htl,htp,htb⟩
  have hlt:i<n:=by have h160:(i:Int)<1+(cn:Int) % 3:=h159;omega
  have hB112:=hB111.step hs12 n115
  have qf:=Qkf (l:=l) h.n (i:=i) (by omega)
  have qfb:=Qke h i (by omega)
  refine Zd (flk l i) λfk hfk=>?_
  rw[hfk] at qf qfb
  refine Qi<|Qf<|Qg<|Qc<|Qb<|Qe<|Qc<|Qb<|x (Qa rfl)<|x (ZD (i:=i) rfl rfl (by omega))<|x (Qd hB112 rfl qf)<|x (Q8 rfl rfl)<|xe ?_
  refine QG rfl (λh165=>?_) (λh165=>?_)
  ·refine Qi<|Qw<|QO rfl rfl<|Qb<|xe ?_
   exact ⟨(i+1,vt,ts),by simp only[];omega,⟨rfl,trivial⟩,hlt,hs12,hB1512,ho12,by simp only[];omega,htp,λp hp=>by have:=htb p hp;simp only[];omega⟩
  have hmd:=Qa4 fk (b:=4) (by decide)
  have hd12:Step [] w12 { w12 with drawn:=w12.drawn+1 }:=Step.drew _ _
  have hz12:=hs12.size
  have hgeT:=Qk ho12
  have hn15v:b15∉ob vt:=QM ho12 (by omega)
  have hn1v:b1∉ob vt:=QM ho12 (by omega)
  refine QS (Step (ob vt) w12) [(0,true),(1,true),(2,true),(3,true),(4,true),(5,true),(6,true),(7,true),(8,true),(9,true),(10,false),(11,false),(12,true),(13,false)] mixed (by rfl) (by kernel_rfl) (Step.drew _ _) ?_
  refine p (λ_=>Qa rfl)<|pq (λ_ hc=>Qd (hB1512.step hc hn15v) rfl rfl)<|p (λ_=>Qo)<|p (λ_=>Qo)<|p (λ_=>Qa rfl)<|p (λ_=>ZD (i:=i) rfl rfl (by omega))<|pq (λ_ hc=>Qd (hB112.step hc hn1v) rfl qf)<|p (λ_=>ZK (k':=.i64) rfl ⟨by omega,by omega⟩) <|
   p (λ_=>Qd3 rfl rfl (by decide))<|p (λ_=>QE ⟨rfl,rfl,trivial⟩)<|pk<|QD (us:=[QN ((i:Int),fk.tmod 4)]) rfl rfl (by decide) (show 1*2≤1000000 by omega) ⟨rfl,rfl,trivial⟩ λb176 w13 hs13 hb176 hB176=>?_
  have hs1213:=hd12.trans hs13
  have hz1213:=hs1213.size
  refine ⟨hs1213.any,?_⟩
  refine pk<|QZ (news:=QN ((i:Int),fk.tmod 4)) (L:=[]) (Qs ho12 hs1213) rfl rfl rfl (hB176.at (by simp)) (Qbk _) (by omega) (by omega) λv14 w14 ho14 hs14 hn14=>⟨(hs1213.any (L:=ob vt)).trans' hs14,?_⟩
  have hge14:∀b∈ob v14,w11.heap.size≤b:=λb hb=>(Qk ho14 b hb).1
  refine p (λ_=>Qa rfl)<|pkl (hl:=by kernel_rfl)<|QF ((hB1512.ext hs1213).step hs14 hn15v) rfl rfl (by simp) (QH ho14) λw15 hs15 hB15=>pe ?_
  refine Qw<|QO rfl rfl<|Qb<|xe ?_
  refine ⟨(i+1,v14,ts++[((i:Int),fk.tmod 4)]),by simp only[];omega,⟨rfl,trivial⟩,hlt,((hs12.trans hs1213.any).then hs14 (λb hb=>.inr (hgeT b hb).1)).trans' hs15,hB15,?_,by simp only[List.length_append,List.length_singleton];omega,?_,λp hp=>?_⟩
  ·have h9:=Qj ho14 hs15 (λb hb=>by have:=hge14 b hb;simp only[List.mem_singleton];omega)
   simp only[List.length_append,List.flatMap_append]
   simpa using h9
  ·simp only[]
   rw[List.pairwise_append]
   exact ⟨htp,List.pairwise_singleton _ _,λp hp p' hp'=>by rw[List.mem_singleton.1 hp'];have:=htb p hp;simp only[];omega⟩
  ·simp only[] at hp ⊢
   rcases List.mem_append.1 hp with hp | hp
   ·have:=htb p hp;omega
   ·rw[List.mem_singleton.1 hp]
    simp only[]
    omega
 rintro ⟨vt,ts⟩ g12 w12 ⟨hs12,hB1512,ho12,htl,htp,htb⟩
 simp only[] at hB1512 ho12 htl htp htb
 have hz12:=hs12.size
 have hgT:=Qk ho12
 refine Qc<|x (Qa rfl)<|x (Qd hB1512 rfl rfl)<|xl rfl<|xf<|(QhG ho12 (by omega)).mono ?_
 rintro vu w13 ⟨hs13,ho13⟩
 have hup:(nzT ts).Pairwise (λp q=>p.1<q.1):=List.Pairwise.filter _ htp
 have hul:=List.length_filter_le (λp:Int×Int=>!decide (p.2=0)) ts
 have hub:∀p∈nzT ts,0≤p.1∧p.1<(n:Int)∧p.2≠0∧-65536≤p.2∧p.2≤65536:=λp hp=>by
  have h1:=List.mem_filter.1 hp
  have h2:=htb p h1.1
  have h3:¬p.2=0:=by simpa using h1.2
  omega
 refine Zd (nzT ts) λus hus=>?_
 have hul':us.length≤3:=by rw[←hus];exact Nat.le_trans hul (by omega)
 rw[hus] at ho13 hup hub
 have n15t:b15∉ob vt:=QM ho12 (by omega)
 refine x (Qa rfl)<|xl rfl<|QF (hB1512.step hs13 n15t) rfl rfl (by simp) (QH ho13) λw14 hs14 hB1514=>xe ?_
 have hs914:Step [] w9 w14:=(((hs911.then1 hs12 hb15).then hs13 (λb hb=>.inr (by have:=(hgT b hb).1;omega)))).then1 hs14 hb15
 have hz914:=hs914.size
 have hz13:=hs13.size
 have hz14:=hs14.size
 have hgU:=Qk ho13
 have ho14:=Qj ho13 hs14 (λb hb=>by have:=(hgU b hb).1;simp only[List.mem_singleton];omega)
 have hB314:=hB39.ext hs914
 refine QU (α:=Value×List KV) [(184,190)] (λ_=>[]) (λz w'=>Step [b3] w14 w'∧Q2 w'.heap b3 47 [ve,vc,vr,vx,z.1]∧z.2.length≤1∧(∀q∈z.2,q.nm=⟨#[107]⟩∧YH (co.map (·.p.a.st)) q.k=0)∧∀L:LN,(∀b∈L,b<w6.heap.size)→U5 L w'.heap z.1 z.2) (by rfl) ?_ ?_
 ·refine Qc<|x (Qa rfl)<|x (Qd hB1514 rfl rfl)<|x (Qr (QT (L:=[]) ho14 (by omega) (by simp)) rfl)<|x (ZO rfl rfl)<|xe ?_
  refine QG rfl (λh187=>?_) (λh187=>?_)
  ·refine Qi ?_
   exact ⟨(Zb,[]),trivial,Step.refl _ _,hB314,by decide,λq hq=>(by cases hq),λL _=>⟨Zj.nil _ _ 3,λq hq=>(by cases hq),λq hq=>(by cases hq)⟩⟩
  have h188:(0:Int)<(us.length:Int):=h187
  have huo:=QH ho14
  refine Qw<|x (Qq hB1514 rfl rfl)<|xl rfl<|QD (us:=[Za ⟨⟨#[107]⟩,vu,us,bd⟩]) rfl rfl (by decide) (show 1*3≤1000000 by omega) ⟨rfl,rfl,trivial⟩ λb189 w15 hs15 hb189 hB189=>?_
  have hz15:=hs15.size
  refine x (Qa rfl)<|xl rfl<|QF (hB314.ext hs15) rfl rfl (by simp) rfl λw16 hs16 hB316=>xe ?_
  refine ⟨(_,[⟨⟨#[107]⟩,vu,us,bd⟩]),trivial,hs15.any.trans' hs16,hB316,Nat.le_refl _,λq hq=>?_,λL hL=>?_⟩
  ·rw[List.mem_singleton.1 hq]
   refine ⟨rfl,?_⟩
   have hgr0:grt bd=false:=by unfold grt;rw[decide_eq_false (by omega),decide_eq_false (by omega)];rfl
   have hct:=QbW (sz:=co.map (·.p.a.st)) us none (λb hb=>by cases hb) hup (λp hp=>by rw[List.length_map,hcol];exact hub p hp)
   show YH _ ⟨_,us,bd⟩=0
   unfold YH
   rw[if_neg (by simp only[];omega),if_neg (by rw[hct];decide),if_neg (by simp only[];rw[hgr0];decide)]
  ·have hL2:∀b∈b3::L,b<w11.heap.size:=λb hb=>by
    rcases List.mem_cons.1 hb with rfl | hb
    ·omega
    ·have:=hL b hb;omega
   have h1:U5 (b3::L) w15.heap (.slice (some ⟨b189,0,none⟩) 1 1) [⟨⟨#[107]⟩,vu,us,bd⟩]:=by
    refine ⟨hB189.arr (λhb=>by have:=hL2 _ hb;omega) rfl (by decide) (Nat.le_refl _),λq hq=>?_,λq hq=>?_⟩
    ·rw[List.mem_singleton.1 hq]
     exact (QT (L:=b3::L) ho14 (by omega) (λb hb hbL=>by have:=(hgU b hb).1;have:=hL2 b hbL;omega)).ext hs15
    ·rw[List.mem_singleton.1 hq];exact YM (by decide)
   exact (h1.st (hs16.mono (by simp))).up (λb hb=>.inl (List.mem_cons_of_mem _ hb))
 rintro ⟨vk,ks⟩ g16 w16 ⟨hs16,hB316,hkl,hgk,hK16⟩
 simp only[] at hB316 hkl hgk hK16
 have hz16:=hs16.size
 have hge3:=Qk ho3
 have hlt3:=QR ho3
 have hs816:Step [b3] w8 w16:=(hs9.trans hs914.any).trans' hs16
 have hs716:Step [b3] w7 w16:=hs8.trans' hs816
 have hs616:Step [b3,b4] w6 w16:=hs7.trans' (hs716.mono (by simp))
 have lo3:∀b∈[b3],b<w6.heap.size:=λb hb=>by rw[List.mem_singleton.1 hb];omega
 have hE16:=Qj (Qs ho3 hs36) hs616 (λb hb hm=>by have:=hlt3 b hb;simp only[List.mem_cons,List.not_mem_nil,or_false] at hm;omega)
 have hC16:=hM7.low hs716 lo3
 have hR16:=hM8.low hs816 (λb hb=>by have:=lo3 b hb;omega)
 have hX16:=(hM9.ext hs914).low hs16 (λb hb=>by have:=lo3 b hb;omega)
 have n23:b2∉[b3]:=by simp only[List.mem_singleton];omega
 have n234:b2∉[b3,b4]:=by simp only[List.mem_cons,List.not_mem_nil,or_false];omega
 have hB216:=(hB2.ext hs26).step hs616 n234
 refine Qc<|x (Qq hB316 rfl rfl)<|xl rfl<|Qn (us:=[ve,vc,vr,vx,vk]) hB216 rfl rfl rfl rfl ⟨QH hE16,QH hC16.c,QH hR16.c,QH hX16.own,(hK16 [] (by simp)).arr.one,trivial⟩ λw17 hs17 hB217=>xe ?_
 have lo2:∀b∈[b2],b<w6.heap.size:=λb hb=>by rw[List.mem_singleton.1 hb];omega
 have lo2':∀b∈[b2],b<w2.heap.size:=λb hb=>by rw[List.mem_singleton.1 hb];omega
 have hE17:=Qj hE16 hs17 (λb hb hm=>by have:=(hge3 b hb).1;have:=lo2' b hm;omega)
 have hC17:=hC16.low hs17 lo2
 have hR17:=hR16.low hs17 (λb hb=>by have:=lo2 b hb;omega)
 have hX17:=hX16.low hs17 (λb hb=>by have:=lo2 b hb;omega)
 have hs017:Step [] w w17:=((hs02.trans hs26).then hs616 (λb hb=>.inr (by simp only[List.mem_cons,List.not_mem_nil,or_false] at hb;omega))).then1 hs17 (by omega)
 have hcon:∀q∈co,VW q.nm:=λq hq=>by
  obtain ⟨k,hk,rfl⟩:=List.getElem_of_mem hq
  rw[(hgd k hk).nm];exact Vu 99 k
 have hrqn:∀q∈rq,VW q.nm:=λq hq=>by
  obtain ⟨k,hk,rfl⟩:=List.getElem_of_mem hq
  rw[(hgr k hk).1.nm];exact Vu 114 k
 have hxnm:∀q∈qx,VW q.nm:=λq hq=>by
  obtain ⟨⟨k,_,k2⟩,_⟩:=hgx q hq
  rw[k2];exact Vu 101 k
 have hevn:∀e∈ev,VW e.nm:=λe he=>Qfs _ e (by rw[hev];exact he)
 have hevl:ev.length=5:=by rw[←hev];exact JY _ _
 refine Ql ⟨[.agg [ve,vc,vr,vx,vk].toArray],⟨⟨_,rfl,Qz rfl (hB217.at (L:=[]) (by simp)).cells⟩,trivial⟩,hs017,⟨ev,co.map IV.it,rq.map IV.it,qx.map XV.x,ks.map KV.k⟩,⟨⟨ve,vc,vr,vx,vk,ev,co,rq,qx,ks⟩,rfl,rfl,λL hL=>?_⟩,?_⟩
 ·have hL2:∀b∈L,b<w2.heap.size:=λb hb=>by have:=hL b hb;omega
  have hLn:b2∉L:=λhm=>by have:=hL b2 hm;omega
  have hL6:∀b∈b2::L,b<w6.heap.size:=λb hb=>by
   rcases List.mem_cons.1 hb with rfl | hb
   ·omega
   ·have:=hL b hb;omega
  refine ⟨⟨QT hE17 (by show ev.length≤_;omega) (λb hb hbL=>by have:=(hge3 b hb).1;have:=hL2 b hbL;omega),hevn⟩,hC17.itms (by omega) hcon (λb hb=>by have:=hL6 b (List.mem_cons_of_mem _ hb);omega),hR17.itms (by omega) hrqn (λb hb=>by have:=hL6 b (List.mem_cons_of_mem _ hb);omega),⟨QT hX17.own (by show qx.length≤_;omega) (λb hb hbL=>by have:=(Qk hX17.own b hb).1;have:=hL6 b (List.mem_cons_of_mem _ hbL);omega),λq hq=>?_,hxnm⟩,?_⟩
  ·exact hX17.each q hq _ (List.mem_singleton.2 rfl) L (λb hb=>.inl (by have:=hL6 b (List.mem_cons_of_mem _ hb);omega))
  ·exact ((hK16 (b2::L) hL6).st (hs17.mono (by simp))).up (λb hb=>.inl (List.mem_cons_of_mem _ hb))
 ·rw[←hev]
  exact Qjs hfl (by omega) (by omega) hgd halm (by omega) hgr hxl hxn hgx hkl hgk
end Go.Proofs.YtdffckgdcegpaaaGreatDoor
