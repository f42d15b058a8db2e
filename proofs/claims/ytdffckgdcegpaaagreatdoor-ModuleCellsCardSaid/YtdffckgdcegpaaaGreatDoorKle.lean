/- Merged out of 36 texts. -/
import Derived.Test.YtdffckgdcegpaaaGreatDoorKld
namespace Go.Proofs.YtdffckgdcegpaaaGreatDoor
open Go.Proofs.Tryz
open Go.Lg
structure qt (base:Nat) (w:World) (vc va:Value) (co:List IV) (al:List J3):Prop where
 c:w.ownsRow base 66 5 vc co.length (co.flatMap QW)
 a:w.ownsRow base 87 5 va al.length (al.flatMap Zf)
 dj:Dj vc va
 each:∀q∈co,∀t∈QcI q,ZH base (ob vc++ob va) w.heap t.1 t.2.1 t.2.2.1 t.2.2.2
section
variable {base:Nat} {w w':World} {vc va vc' va':Value} {co:List IV} {al:List J3}
theorem qt.nil:qt base w (nS) (nS) [] []:=⟨QP _ _ _ _,QP _ _ _ _,Dj.nil _,λq hq=>by cases hq⟩
theorem qt.ext (h:qt base w vc va co al) (hs:Step [] w w'):qt base w' vc va co al:=⟨Qs h.c hs,Qs h.a hs,h.dj,λq hq t ht=>(h.each q hq t ht).ext hs⟩
theorem qt.low {X:LN}(h:qt base w vc va co al) (hs:Step X w w') (hX:∀b∈X,b<base):qt base w' vc va co al :=
 ⟨Qj h.c hs (λb hb hm=>by have:=(Qk h.c b hb).1;have:=hX b hm;omega),Qj h.a hs (λb hb hm=>by have:=(Qk h.a b hb).1;have:=hX b hm;omega),h.dj,λq hq t ht=>(h.each q hq t ht).low hs hX⟩
theorem qt.avlt (h:qt base w vc va co al):∀b∈ob vc++ob va,b<w.heap.size:=λb hb=>(List.mem_append.1 hb).elim (QR h.c b) (QR h.a b)
theorem qt.setC {q:IV}(h:qt base w vc va co al) (hq:∀t∈QcI q,ZH base (ob vc++ob va) w.heap t.1 t.2.1 t.2.2.1 t.2.2.2) (ho:w'.ownsRow base 66 5 vc' (co.length+1) (co.flatMap QW++QW q))
  (hs:Step (ob vc) w w') (hn:∀b∈ob vc',b∈ob vc∨w.heap.size≤b):qt base w' vc' va (co++[q]) al:=by
 have hs2:Step (ob vc++ob va) w w':=hs.mono (λb hb=>List.mem_append.2 (.inl hb))
 have hn2:∀b∈ob vc'++ob va,b∈ob vc++ob va∨w.heap.size≤b:=λb hb=>by
  rcases List.mem_append.1 hb with hb | hb
  ·exact (hn b hb).imp (λh=>List.mem_append.2 (.inl h)) id
  ·exact .inl (List.mem_append.2 (.inr hb))
 refine ⟨?_,Qj h.a hs (λb hb hbc=>h.dj b hbc hb),λb hb hba=>?_,λd hd t ht=>?_⟩
 ·rw[List.length_append,List.flatMap_append];simpa using ho
 ·rcases hn b hb with h1 | h1
  ·exact h.dj b h1 hba
  ·have:=QR h.a b hba;omega
 ·rcases List.mem_append.1 hd with hd | hd
  ·exact (h.each d hd t ht).app hs2 hn2
  ·simp only[List.mem_singleton] at hd;subst hd
   exact (hq t ht).app hs2 hn2
theorem qt.setA {al':List J3}(h:qt base w vc va co al) (ho:w'.ownsRow base 87 5 va' al'.length (al'.flatMap Zf)) (hs:Step (ob va) w w') (hn:∀b∈ob va',b∈ob va∨w.heap.size≤b):qt base w' vc va' co al':=by
 have hs2:Step (ob vc++ob va) w w':=hs.mono (λb hb=>List.mem_append.2 (.inr hb))
 have hn2:∀b∈ob vc++ob va',b∈ob vc++ob va∨w.heap.size≤b:=λb hb=>by
  rcases List.mem_append.1 hb with hb | hb
  ·exact .inl (List.mem_append.2 (.inl hb))
  ·exact (hn b hb).imp (λh=>List.mem_append.2 (.inr h)) id
 refine ⟨Qj h.c hs (λb hb hba=>h.dj b hb hba),ho,λb hb hba=>?_,λd hd t ht=>(h.each d hd t ht).app hs2 hn2⟩
 rcases hn b hba with h1 | h1
 ·exact h.dj b hb h1
 ·have:=QR h.c b hb;omega
theorem qt.itms {L:LN}(h:qt base w vc va co al) (hn:co.length≤1099511627776) (hm:∀q∈co,VW q.nm) (hL:∀b∈L,b<base):Y2 L w.heap vc co :=
 ⟨QT h.c hn (λb hb hbL=>by have:=(Qk h.c b hb).1;have:=hL b hbL;omega),λq hq=>⟨h.each q hq (q.p.va,q.p.a.al.length,1,q.p.a.al.map (.int .i64)) (by simp) L (λb hb=>.inl (hL b hb)),h.each q hq (q.p.vm,q.p.a.mr.length,1,q.p.a.mr.map (.int .i64)) (by simp) L (λb hb=>.inl (hL b hb)),h.each q hq (q.p.ve,q.p.a.ed.length,3,q.p.a.ed.flatMap Qy) (by simp) L (λb hb=>.inl (hL b hb))⟩,hm⟩
end
def mzA (s f:Int):QV:=⟨[s,f],2,[0],[(0,s,1),(1,f,0)]⟩
set_option maxHeartbeats 1000000 in
theorem QaX (nm:ByteArray) (s f:Int) (w:World):QJ prog 244 [.string nm,.int .i64 s,.int .i64 f] w λr w'=>Step [] w w'∧∃xa xm xe,r=.agg #[.string nm,xa,.int .i64 2,xm,xe]∧Zw [xa,xm,xe]∧∀L:LN,(∀b∈L,b<w.heap.size)→Zt L w'.heap xa xm xe (mzA s f):=by
 refine QJ.of_W func244 rfl ntmps244 results244 (by simp) ?_
 refine Qc<|xl rfl<|Qt (us:=[.string .empty,nS,.int .i64 0,nS,nS]) rfl λb6 w1 hs1 hb6 hB6=>xe ?_
 have hl6:=hB6.lt
 refine Qc<|Qb<|Qb<|xl rfl<|QD (us:=[[.int .i64 s],[.int .i64 f]]) rfl rfl (by decide) (by simp) ⟨rfl,rfl,rfl,rfl,trivial⟩ λb10 w2 hs2 hb10 hB10=>xl rfl<|QD (us:=[[.int .i64 0]]) rfl rfl (by decide) (by simp) ⟨rfl,rfl,trivial⟩ λb11 w3 hs3 hb11 hB11 =>
  Qb<|x (QE ⟨rfl,rfl,rfl,trivial⟩)<|Qb<|x (QE ⟨rfl,rfl,rfl,trivial⟩)<|xl rfl<|QD (us:=[Qy (0,s,1),Qy (1,f,0)]) rfl rfl (by decide) (by exact (by decide:2*3≤1000000)) ⟨rfl,rfl,rfl,rfl,trivial⟩ λb16 w4 hs4 hb16 hB16=>?_
 have hs14:=(hs2.trans hs3).trans hs4
 have hs04:=hs1.trans hs14
 have hz1:=hs1.size
 have hz2:=hs2.size
 have hz3:=hs3.size
 have hz4:=hs4.size
 have hF:Xr w1.heap.size w4.heap (.agg #[.slice (some ⟨b10,0,none⟩) 2 2,.int .i64 2,.slice (some ⟨b11,0,none⟩) 1 1,.slice (some ⟨b16,0,none⟩) 2 2]) (mzA s f) :=
  zh (a:=mzA s f) ((hB10.ext hs3).ext hs4) (hB11.ext hs4) hB16 (by omega) (by omega) (by omega) rfl rfl rfl (by decide) (by decide) (by decide)
 refine x (QE ⟨rfl,rfl,rfl,rfl,trivial⟩)<|xl rfl<|Qt (us:=VX) rfl λb7 w5 hs5 hb7 hB7=>xl rfl<|Qn (us:=[.slice (some ⟨b10,0,none⟩) 2 2,.int .i64 2,.slice (some ⟨b11,0,none⟩) 1 1,.slice (some ⟨b16,0,none⟩) 2 2]) hB7 rfl rfl rfl rfl ⟨rfl,rfl,rfl,rfl,trivial⟩ λw6 hs6 hB76=>xe ?_
 have hs46:Step [] w4 w6:=hs5.then1 hs6 hb7
 refine Qc<|Qb<|x (Qq hB76 rfl rfl)<|x (ZS [(0,[.string nm]),(1,[.slice (some ⟨b10,0,none⟩) 2 2,.int .i64 2,.slice (some ⟨b11,0,none⟩) 1 1,.slice (some ⟨b16,0,none⟩) 2 2])] ⟨rfl,rfl,rfl,rfl,trivial⟩) <|
  xl rfl<|Qn (us:=[.string nm,.slice (some ⟨b10,0,none⟩) 2 2,.int .i64 2,.slice (some ⟨b11,0,none⟩) 1 1,.slice (some ⟨b16,0,none⟩) 2 2]) ((hB6.ext hs14).ext hs46) rfl rfl rfl rfl ⟨rfl,rfl,rfl,rfl,rfl,trivial⟩ λw7 hs7 hB67=>xe ?_
 obtain ⟨xa,xm,xe',hxe,hA⟩:=hF
 have hinj:=congrArg (λv=>match v with | Value.agg cs=>cs.toList | _=>[]) hxe
 simp only[List.cons.injEq,and_true] at hinj
 obtain ⟨rfl,_,rfl,rfl⟩:=hinj
 refine Ql ⟨[.agg [.string nm,.slice (some ⟨b10,0,none⟩) 2 2,.int .i64 2,.slice (some ⟨b11,0,none⟩) 1 1,.slice (some ⟨b16,0,none⟩) 2 2].toArray],⟨⟨_,rfl,Qz rfl (hB67.at (L:=[]) (by simp)).cells⟩,trivial⟩,(hs04.trans hs46).then1 hs7 hb6,_,_,_,rfl,⟨rfl,rfl,rfl,trivial⟩,λL hL=>?_⟩
 have h1:=(hA (b6::L) (λb hb=>by
  rcases List.mem_cons.1 hb with rfl | hb
  ·exact hl6
  ·have:=hL b hb;omega)).ext hs46
 exact (h1.st (hs7.mono (by simp))).up (λb hb=>.inl (List.mem_cons_of_mem _ hb))
def nmZ (p:Array UInt8) (i:Nat):ByteArray:=⟨p⟩++⟨#[UInt8.ofNat (97+i)]⟩
abbrev Qef:Array UInt8:=#[115,116,97,114,116]
abbrev Qbi:Array UInt8:=#[102,105,110,105,115,104]
abbrev Xh:Array UInt8:=#[109,97,99,104,105,110,101]
def yS (i:Nat):List J3:=[⟨nmZ Qef i,true,true,false,0⟩,⟨nmZ Qbi i,false,true,false,0⟩]
def mzE (c:Nat):List J3:=(List.range c).flatMap yS
def Qkj (i:Nat):YE:=⟨nmZ Xh i,mzA (2*(i:Int)) (2*(i:Int)+1)⟩
def mzC (c:Nat):Zv:=⟨mzE c,(List.range c).map Qkj,[],[],[]⟩
theorem Vs (p:Array UInt8) (i:Nat) (h:p.size≤10):VW (nmZ p i):=by
 show (ByteArray.mk _++ByteArray.mk _).size≤_
 rw[ByteArray.size_append]
 show p.size+1≤_
 omega
theorem QiX (c:Nat):∀e∈mzE c,VW e.nm:=λe he=>by
 unfold mzE at he
 obtain ⟨i,_,hi⟩:=List.mem_flatMap.1 he
 simp only[yS,List.mem_cons,List.not_mem_nil,or_false] at hi
 rcases hi with rfl | rfl
 ·exact Vs _ _ (by decide)
 ·exact Vs _ _ (by decide)
theorem yT (c:Nat):mzE (c+1)=mzE c++yS c:=by unfold mzE;rw[List.range_succ,List.flatMap_append];simp
theorem Qbt:∀c,(mzE c).length=2*c
 | 0=>rfl
 | c+1=>by rw[yT,List.length_append,Qbt c];show 2*c+2=_;omega
theorem QcB (i:Nat):∀u∈(yS i).flatMap Zf,u.oneCell'=true:=λu hu=>by
 obtain ⟨e,_,he⟩:=List.mem_flatMap.1 hu
 exact jk e u he
set_option maxHeartbeats 8000000 in
theorem XN (c:Nat) (hc4:c≤4) (w:World):QJ prog 196 [.int .i64 c] w λr w'=>Step [] w w'∧Qdd w.heap.size w'.heap r (mzC c):=by
 refine QJ.of_W func196 rfl ntmps196 results196 (by simp) ?_
 refine Qc<|xl rfl<|Qt (us:=Z3) rfl λb2 w1 hs1 hb2 hB2=>xe ?_
 refine Qc<|xl rfl<|Qt (us:=Z3) rfl λb3 w2 hs2 hb3 hB3=>xe ?_
 have hs02:=hs1.trans hs2
 have hz1:=hs1.size
 have hz2:=hs2.size
 have hl2:=hB2.lt
 have hl3:=hB3.lt
 have hB22:=hB2.ext hs2
 refine Qf<|Qc<|Qb<|Qb<|xe ?_
 refine Qg<|QA (α:=Nat×Value×List J3×Value×List IV) [(4,4),(6,42)] (λz=>[(6,.int .i64 z.1)])
  (λz w'=>z.1≤c∧Step [b3] w2 w'∧Q2 w'.heap b3 47 [z.2.1,z.2.2.2.1,Zb,Zb,Zb]∧qt w2.heap.size w' z.2.2.2.1 z.2.1 z.2.2.2.2 z.2.2.1∧z.2.2.1=mzE z.1∧z.2.2.2.2.map IV.it=(List.range z.1).map Qkj∧∀q∈z.2.2.2.2,VW q.nm)
  (λz=>c - z.1) (by rfl) (0,Zb,[],Zb,[]) ⟨rfl,trivial⟩ ⟨Nat.zero_le _,Step.refl _ _,hB3,qt.nil,rfl,rfl,λq hq=>by cases hq⟩ ?_
 rintro ⟨i,ve,ev,vc,co⟩ g3 w3 ⟨hi,hs3,hB33,hM3,hev,hco,hnm⟩
 simp only[] at hi hB33 hM3 hev hco hnm
 have hz3:=hs3.size
 have hevl:ev.length=2*i:=by rw[hev];exact Qbt i
 have hcol:co.length=i:=by have:=congrArg List.length hco;simpa using this
 refine Qc<|x (QB rfl rfl)<|xe ?_
 refine Qf<|QG rfl (λh7=>?_) (λh7=>?_)
 ·refine Qx ?_
  have hie:i=c:=by have h8:¬(i:Int)<(c:Int):=h7;omega
  rw[hie] at hev hco
  have n23:b2∉[b3]:=by simp only[List.mem_singleton];omega
  have hB23:=hB22.step hs3 n23
  refine Qc<|x (Qq hB33 rfl rfl)<|xl rfl<|Qn (us:=[ve,vc,Zb,Zb,Zb]) hB23 rfl rfl rfl rfl ⟨QH hM3.a,QH hM3.c,rfl,rfl,rfl,trivial⟩ λw4 hs4 hB4=>xe ?_
  have lo2:∀b∈[b2],b<w2.heap.size:=λb hb=>by rw[List.mem_singleton.1 hb];omega
  have hM4:=hM3.low hs4 lo2
  refine Ql ⟨[.agg [ve,vc,Zb,Zb,Zb].toArray],⟨⟨_,rfl,Qz rfl (hB4.at (L:=[]) (by simp)).cells⟩,trivial⟩,(hs02.then1 hs3 (by omega)).then1 hs4 (by omega),⟨ve,vc,Zb,Zb,Zb,ev,co,[],[],[]⟩,rfl,?_,λL hL=>?_⟩
  ·show (⟨ev,co.map IV.it,[],[],[]⟩:Zv)=mzC c
   rw[hev,hco];rfl
  ·have hL2:∀b∈L,b<w2.heap.size:=λb hb=>by have:=hL b hb;omega
   exact ⟨⟨QT hM4.a (by show ev.length≤_;omega) (λb hb hbL=>by have:=(Qk hM4.a b hb).1;have:=hL2 b hbL;omega),λe he=>QiX c e (by rw[←hev];exact he)⟩,hM4.itms (by omega) hnm hL2,⟨Zj.nil _ _ 5,λq hq=>(by cases hq),λq hq=>(by cases hq)⟩,⟨Zj.nil _ _ 2,λq hq=>(by cases hq),λq hq=>(by cases hq)⟩,⟨Zj.nil _ _ 3,λq hq=>(by cases hq),λq hq=>(by cases hq)⟩⟩
 have hlt:i<c:=by have h8:(i:Int)<(c:Int):=h7;omega
 have hu:(97:Int)+(i:Int)=((97+i:Nat):Int):=by omega
 refine Qi<|Qf<|Qg<|Qc<|Qb<|Qe<|Qc<|x (Qa rfl)<|x (Qd hB33 rfl rfl)<|Qb<|QO rfl rfl<|x (ZK (k':=.i32) rfl ⟨by omega,by omega⟩)<|x (Vn (n:=97+i) (congrArg (Value.int .i32) hu) (by omega))<|x (Z8 (a:=⟨Qef⟩) (b:=⟨#[UInt8.ofNat (97+i)]⟩) rfl rfl (by show 5+1≤1000000000;omega))<|x (QE ⟨rfl,rfl,rfl,trivial⟩) <|
  Qb<|QO rfl rfl<|x (ZK (k':=.i32) rfl ⟨by omega,by omega⟩)<|x (Vn (n:=97+i) (congrArg (Value.int .i32) hu) (by omega))<|x (Z8 (a:=⟨Qbi⟩) (b:=⟨#[UInt8.ofNat (97+i)]⟩) rfl rfl (by show 6+1≤1000000000;omega))<|x (QE ⟨rfl,rfl,trivial⟩) <|
  xl rfl<|QD (us:=(yS i).map Zf) rfl rfl (by decide) (by exact (by decide:2*5≤1000000)) ⟨rfl,rfl,rfl,rfl,trivial⟩ λb23 w4 hs4 hb23 hB23=>?_
 have hz4:=hs4.size
 have hn3e:b3∉ob ve:=QM hM3.a hl3
 have hn3c:b3∉ob vc:=QM hM3.c hl3
 have hge:=Qk hM3.a
 have hgc:=Qk hM3.c
 refine xl rfl<|QZ (m:=2) (news:=(yS i).flatMap Zf) (L:=[]) (Qs hM3.a hs4) rfl rfl rfl (hB23.at (by simp)) (QcB i) (by omega) (by omega) λve2 w5 ho5 hs5 hn5=>?_
 refine x (Qa rfl)<|xl rfl<|QF (j:=0) (u:=ve2) ((hB33.ext hs4).step hs5 hn3e) rfl rfl (by simp) (QH ho5) λw6 hs6 hB36=>xe ?_
 have hM5:qt w2.heap.size w5 vc ve2 co (ev++yS i):=(hM3.ext hs4).setA (by rw[List.length_append,List.flatMap_append];exact ho5) hs5 hn5
 have lo3:∀b∈[b3],b<w2.heap.size:=λb hb=>by rw[List.mem_singleton.1 hb];exact hl3
 have hM6:=hM5.low hs6 lo3
 have hs26:Step [b3] w2 w6:=((hs3.trans hs4.any).then hs5 (λb hb=>.inr (hge b hb).1)).trans' hs6
 have hz26:=hs26.size
 have hd6:Step [] w6 { w6 with drawn:=w6.drawn+1 }:=Step.drew _ _
 refine QS (Step (ob vc) w6) [(0,true),(1,true),(2,true),(3,true),(4,true),(5,true),(6,true),(7,true),(8,true),(9,true),(10,true),(11,true),(12,false),(13,false),(14,false),(15,true),(16,false)] mixed (by rfl) (by kernel_rfl) (Step.drew _ _) ?_
 refine p (λ_=>Qa rfl)<|pq (λ_ hc=>Qd (hB36.step hc hn3c) rfl rfl)<|p (λ_=>Qo)<|p (λ_=>XY rfl rfl ⟨by omega,by omega⟩)<|p (λ_=>ZK (k':=.i32) rfl ⟨by omega,by omega⟩)<|p (λ_=>Vn (n:=97+i) (congrArg (Value.int .i32) hu) (by omega)) <|
  p (λ_=>Z8 (a:=⟨Xh⟩) (b:=⟨#[UInt8.ofNat (97+i)]⟩) rfl rfl (by show 7+1≤1000000000;omega))<|p (λ_=>Qo)<|p (λ_=>Qd6 rfl rfl ⟨by omega,by omega⟩)<|p (λ_=>Qo)<|p (λ_=>Qd6 rfl rfl ⟨by omega,by omega⟩)<|p (λ_=>XY rfl rfl ⟨by omega,by omega⟩) <|
  pk<|xf<|(QaX (nmZ Xh i) (2*(i:Int)) (2*(i:Int)+1) _).mono ?_
 rintro r7 w7 ⟨hs7,xa,xm,xe',rfl,hone,hA⟩
 have hc7:=hd6.trans hs7
 refine ⟨hc7.any,?_⟩
 refine pk<|QD (us:=[QW ⟨nmZ Xh i,⟨xa,xm,xe',mzA (2*(i:Int)) (2*(i:Int)+1)⟩⟩]) rfl rfl (by decide) (show 1*5≤1000000 by omega) ⟨rfl,rfl,trivial⟩ λb39 w8 hs8 hb39 hB39=>⟨(hc7.trans hs8).any,?_⟩
 have hc8:=hc7.trans hs8
 have hM8:=hM6.ext hc8
 refine pk<|QZ (news:=QW ⟨nmZ Xh i,⟨xa,xm,xe',mzA (2*(i:Int)) (2*(i:Int)+1)⟩⟩) (L:=[]) hM8.c rfl rfl rfl (hB39.at (by simp)) (zY hone.1 hone.2.1 hone.2.2.1) (by omega) (by have:=hc8.size;omega) λvc2 w9 ho9 hs9 hn9=>⟨(hc8.any (L:=ob vc)).trans' hs9,?_⟩
 have hM9:=hM8.setC (UG (q:=⟨nmZ Xh i,⟨xa,xm,xe',mzA (2*(i:Int)) (2*(i:Int)+1)⟩⟩) (N:=w6.heap.size) (λL hL=>(hA L hL).ext hs8) (by omega) hM6.avlt) ho9 hs9 hn9
 refine p (λ_=>Qa rfl)<|pkl (hl:=by kernel_rfl)<|QF (j:=1) (u:=vc2) ((hB36.ext hc8).step hs9 hn3c) rfl rfl (by simp) (QH ho9) λw10 hs10 hB310=>pe ?_
 refine Qw<|QO rfl rfl<|Qb<|xe ?_
 refine ⟨(i+1,ve2,ev++yS i,vc2,co++[⟨nmZ Xh i,⟨xa,xm,xe',mzA (2*(i:Int)) (2*(i:Int)+1)⟩⟩]),by simp only[];omega,⟨rfl,trivial⟩,hlt,((hs26.trans hc8.any).then hs9 (λb hb=>.inr (hgc b hb).1)).trans' hs10,hB310,hM9.low hs10 lo3,?_,?_,λq hq=>?_⟩
 ·simp only[]
  rw[yT,hev]
 ·simp only[]
  rw[List.map_append,hco,List.range_succ,List.map_append];rfl
 ·rcases List.mem_append.1 hq with hq | hq
  ·exact hnm q hq
  ·rw[List.mem_singleton.1 hq];exact Vs _ _ (by decide)
end Go.Proofs.YtdffckgdcegpaaaGreatDoor
namespace Go.Lg
section
variable {P:Program} {f:Fr} {w:World} {d:Option Nat} {ty:Nat} {ps:String} {af:Array Edge} {gd:Option (Nat×Bool)}
abbrev i4 (p:Int×Int×Int×Int):LV:=[.int .i64 p.1,.int .i64 p.2.1,.int .i64 p.2.2.1,.int .i64 p.2.2.2]
class S4 (P:Program) (t:Nat):Prop where
 u:∃f0 f1 f2 f3,P.underlying t=some (.struct #[f0,f1,f2,f3])∧f0.name ≠ "_" ∧ f1.name ≠ "_" ∧ f2.name ≠ "_" ∧ f3.name ≠ "_" ∧ f0.offset=0∧f1.offset=1∧f2.offset=2∧f3.offset=3 ∧
  P.underlying f0.type=some (.int .i64)∧P.underlying f1.type=some (.int .i64)∧P.underlying f2.type=some (.int .i64)∧P.underlying f3.type=some (.int .i64)
 s:P.stoodInHeld t=false
 g:P.eqGuardType P.depth t=false
theorem zw {t:Nat}[h:S4 P t] (w:World) (p:Int×Int×Int×Int):(Op.equal t (.agg (i4 p).toArray) (.agg (i4 p).toArray)).run P w=.ok true w:=by
 obtain ⟨a,b,c,e⟩:=p
 obtain ⟨f0,f1,f2,f3,hu,n0,n1,n2,n3,o0,o1,o2,o3,u0,u1,u2,u3⟩:=h.u
 have hag:∀e w,P.underlying e=some (.int .i64)→(isAgg e).run P w=.ok false w:=λe w he=>by simp[isAgg,run_underlying he]
 have hp:∀e (x y z u:Int) (w:World),P.underlying e=some (.int .i64)→(part e #[.int .i64 x,.int .i64 y,.int .i64 z,.int .i64 u] 0).run P w=.ok (.int .i64 x) w:=λe x y z u w he=>by simp[part,hag e w he]
 have hp1:∀e (x y z u:Int) (w:World),P.underlying e=some (.int .i64)→(part e #[.int .i64 x,.int .i64 y,.int .i64 z,.int .i64 u] 1).run P w=.ok (.int .i64 y) w:=λe x y z u w he=>by simp[part,hag e w he]
 have hp2:∀e (x y z u:Int) (w:World),P.underlying e=some (.int .i64)→(part e #[.int .i64 x,.int .i64 y,.int .i64 z,.int .i64 u] 2).run P w=.ok (.int .i64 z) w:=λe x y z u w he=>by simp[part,hag e w he]
 have hp3:∀e (x y z u:Int) (w:World),P.underlying e=some (.int .i64)→(part e #[.int .i64 x,.int .i64 y,.int .i64 z,.int .i64 u] 3).run P w=.ok (.int .i64 u) w:=λe x y z u w he=>by simp[part,hag e w he]
 have heq:∀e (m:Nat) (x y:Int) (w:World),P.underlying e=some (.int .i64)→(Op.equalIn (m+1) e (.int .i64 x) (.int .i64 y)).run P w=.ok (x == y) w:=λe m x y w he=>by simp[Op.equalIn,run_underlying he]
 have key:∀m,(Op.equalIn (m+2) t (.agg (i4 (a,b,c,e)).toArray) (.agg (i4 (a,b,c,e)).toArray)).run P w=.ok true w:=by
  intro m
  simp only[i4]
  unfold Op.equalIn
  simp only[Sem.run_bind,run_underlying hu,Result.andThen_ok]
  simp[h.s,n0,n1,n2,n3,o0,o1,o2,o3,hp _ _ _ _ _ _ u0,hp1 _ _ _ _ _ _ u1,hp2 _ _ _ _ _ _ u2,hp3 _ _ _ _ _ _ u3,heq _ _ _ _ _ u0,heq _ _ _ _ _ u1,heq _ _ _ _ _ u2,heq _ _ _ _ _ u3]
 exact key 9998
theorem Qd5 {t t':Nat}[h:S4 P t] {x y:Operand}{p:Int×Int×Int×Int}(hx:ev f x=.agg (i4 p).toArray) (hy:ev f y=.agg (i4 p).toArray) :
  (execOp (ev f) ⟨d,.binOp .neq t x y t',ty,ps,af,gd⟩).run P w=.ok (.value (.bool false)) w:=by
 have hg:(eqGuard .neq t x y (.agg (i4 p).toArray) (.agg (i4 p).toArray)).run P w=.ok () w:=by simp[eqGuard,h.g]
 simp only[execOp,hx,hy,Sem.run_bind,hg,Result.andThen_ok,binOp,zw,Sem.run_pure]
 rfl
end
end Go.Lg
namespace Go.Proofs.YtdffckgdcegpaaaGreatDoor
open Go.Proofs.Tryz
open Go.Lg
instance s4Rsn:S4 prog 83:=⟨⟨_,_,_,_,underlying83,by decide,by decide,by decide,by decide,rfl,rfl,rfl,rfl,underlying3,underlying3,underlying3,underlying3⟩,by kernel_rfl,by kernel_rfl⟩
theorem Vy {L L':LN}{w:World}{v v':Value}{l:List Rsn}(h:Zj L w.heap v l.length 4 (l.flatMap Zz)) (h':Zj L' w.heap v' l.length 4 (l.flatMap Zz)) :
  QJ prog 198 [v,v'] w λr w'=>r=.bool true∧Step [] w w':=by
 have hle:=h.le
 refine QJ.of_W func198 rfl ntmps198 results198 (by simp) ?_
 refine Qc<|Qe<|Qf<|Qc<|Qb<|x (Qr h rfl)<|Qb<|x (Qr h' rfl)<|x (Q8 rfl rfl)<|xe ?_
 refine Q4 rfl (λh10=>absurd rfl h10) (λh10=>?_)
 refine Qi<|Qf<|Qc<|Qb<|x (Qr h rfl)<|Qb<|xe ?_
 refine Qg<|QA (α:=Nat) [(4,5),(13,25)] (λk=>[(13,.int .i64 k)]) (λk w'=>Step [] w w'∧k≤l.length) (λk=>l.length - k) (by rfl) 0 ⟨rfl,trivial⟩ ⟨Step.refl _ _,Nat.zero_le _⟩ ?_
 rintro k g w1 ⟨hs,hk⟩
 replace h:=h.ext hs
 replace h':=h'.ext hs
 refine Qc<|x (QB rfl rfl)<|xe ?_
 refine Qf<|QG rfl (λh14=>?_) (λh14=>?_)
 ·refine Qx ?_
  refine Qc<|Qe ?_
  exact Ql ⟨[.bool true],⟨rfl,trivial⟩,rfl,hs⟩
 have hlt:k<l.length:=by omega
 refine Qi<|Qf<|Qg<|Qc<|Qb<|Qe<|Qf<|QS (Step [] w1) [(0,true),(1,true),(2,true),(3,true),(4,true),(5,true),(6,true),(7,true),(8,true)] mixed (by rfl) (by kernel_rfl) (Step.drew _ _) ?_
 refine p (λ_=>Qo)<|p (λ_=>Qo)<|Lg.pig (g:=Zz) (i:=k) rfl QdV h rfl rfl hlt λa18 h18=>pq (λ_ hc=>QC (h18.ext hc) rfl rfl) <|
  p (λ_=>Qo)<|p (λ_=>Qo)<|Lg.pig (g:=Zz) (i:=k) rfl QdV h' rfl rfl hlt λa22 h22=>pq (λ_ hc=>QC (h22.ext hc) rfl rfl)<|p (λ_=>Qd5 (p:=((l[k]'hlt).st,(l[k]'hlt).kd,(l[k]'hlt).ix,(l[k]'hlt).ev)) rfl rfl)<|pe ?_
 have hs':=hs.trans (Step.drew [] w1)
 refine Zy rfl ?_
 refine Qi<|Qw<|QO rfl rfl<|Qb<|xe ?_
 exact ⟨k+1,by omega,⟨rfl,trivial⟩,hs',by omega⟩
def KN:ByteArray:=⟨#[110,101,118,101,114]⟩
def JC:ByteArray:=⟨#[98,111,116,104]⟩
def zJ:ByteArray:=⟨#[109,111,115,116]⟩
def zZ:YE:=⟨KN,⟨[1],1,[0],[]⟩⟩
def Qfo (i j:Int):zg:=⟨JC,[(i,1),(j,1)]⟩
def Qjv:Y3:=⟨zJ,[(0,1),(1,1)],1⟩
def k1C:Zv:={ mzC 1 with rq:=[zZ] }
def k2C:Zv:={ mzC 2 with ex:=[Qfo 0 1] }
def k3C:Zv:={ mzC 2 with cs:=[Qjv] }
theorem Qkr:Yu k1C=0:=by kernel_rfl
theorem Qkq:(spc k1C).fb=[⟨1,3,0,1⟩]:=by kernel_rfl
theorem Qie:(spc k1C).a.st=2:=by kernel_rfl
theorem Qi1:QbV k1C=true:=by kernel_rfl
theorem Qi2:cmB k1C=[2]:=by kernel_rfl
theorem Qlg:Yu k2C=0:=by kernel_rfl
theorem Qko:(spc k2C).fb=[⟨3,1,0,-1⟩]:=by kernel_rfl
theorem Qkn:(spc k2C).a.st=4:=by kernel_rfl
theorem Qlf:Yu k3C=0:=by kernel_rfl
theorem Qkm:(spc k3C).fb=[⟨3,2,0,-1⟩]:=by kernel_rfl
theorem Qcc {w:World}{v:Value}(hv:v.cells=[v].toArray):QJ prog 281 [v] w λr w'=>Step [] w w'∧∃b,r=.func (.func 307) #[] #[.pointer (some ⟨b,0,none⟩)]∧w.heap.size≤b∧Q2 w'.heap b 37 [v]:=by
 refine QJ.of_W func281 rfl ntmps281 results281 (by simp) ?_
 refine Qc<|xl rfl<|QQ (us:=[v]) hv λb1 w1 hs1 hb1 hB1=>Qe<|Qc<|x Zr<|Qe ?_
 exact Ql ⟨[_],⟨rfl,trivial⟩,hs1,b1,rfl,hb1,hB1⟩
theorem yr {L:LN}{w:World}{b1 m:Nat}{v:Value}{es:LI}(hB1:Q2 w.heap b1 37 [v]) (hE:QL L w.heap v es) :
  SeqStopsK (fen none) m prog 307 [.pointer (some ⟨b1,0,none⟩)].toArray (λx:Int=>#[.int .i64 x]) (Lw w.heap.size L) (λys=>ys=es) (λ_=>True) (es.length+1) w:=by
 intro l J Jx W hbel hJ hJx hY h0
 have hwW:Step [] w W:=Step.of_below hbel
 have hle:=hE.le
 have ab:∀{ys:LI} {W1 W2:World},J ys W1→Step [] W1 W2→J ys W2:=λ{ys W1 W2} hj hst=>hJ ys W1 W2 none hj ⟨hst.os,hst.tape,hst.output,hst.size,λk hk _=>hst.block k hk (by simp)⟩ (λr e=>by cases e)
 have key:QJ prog 307 [.func (.yield l) #[] #[],.pointer (some ⟨b1,0,none⟩)] W (λ_ W'=>(∃ys,ys=es∧J ys W')∨(∃pre,True∧Jx pre W')):=by
  refine QJ.of_G m func307 rfl ntmps307 results307 (by simp) ?_
  have hB1':=hB1.ext hwW
  refine Q0<|QK (by rfl) (by rfl) ?_
  refine x (Qd hB1' rfl rfl)<|x (Qr (hE.ext hwW) rfl)<|Qb<|xe ?_
  refine ZC<|VJ (α:=Nat) [(4,4),(7,15)] (λk=>[(7,.int .i64 k)]) (λk ds W'=>ds=[]∧k≤es.length∧Step L w W'∧J (es.take k) W') (λk=>es.length - k) (by rfl) 0 ⟨rfl,trivial⟩
   ⟨rfl,Nat.zero_le _,hwW.any,h0⟩ ?_
  rintro k g ds w1 ⟨rfl,hk,hs1,hJ1⟩
  refine Q0<|QK (by rfl) (by rfl) ?_
  refine x (QB rfl rfl)<|xe ?_
  refine Q0<|zf rfl (λh8=>?_) (λh8=>?_)
  ·refine JS ?_
   have hke:es.length≤k:=by have h9:¬(k:Int)<(es.length:Int):=h8;omega
   rw[List.take_of_length_le hke] at hJ1
   exact ⟨λ_ h=>(by cases h),List.nodup_nil,[],λW' hW'=>⟨trivial,.inl ⟨es,rfl,ab hJ1 hW'⟩⟩⟩
  refine Yb ?_
  have hlt:k<es.length:=by have h9:(k:Int)<(es.length:Int):=h8;omega
  have htk:es.take (k+1)=es.take k++[es[k]'hlt]:=List.take_succ_eq_append_getElem hlt
  have htl:(es.take k).length=k:=by rw[List.length_take];omega
  refine Q0<|ZC<|Q0<|QK (by rfl) (by rfl) ?_
  refine xii (i:=k) (hE.st hs1) rfl rfl hlt λa9 h9=>x (Qv h9 rfl)<|Qe<|Q0<|J1 (by rfl) ?_
  refine Xu.pre2 ?_
  refine Qb<|Qb<|xe ?_
  refine xy (l:=l) rfl (hY (es.take k) (es[k]'hlt) w1 hJ1 (by omega)) λen W3 hen=>Or.elim hen (λh1=>⟨.bool true,h1.1,?_⟩) (λh1=>⟨.bool false,h1.1,?_⟩)
  ·refine Xu.of_XL<|x (Zn rfl)<|xe ?_
   refine J2 rfl<|Yb ?_
   refine QK (by rfl) (by rfl) ?_
   refine QO rfl rfl<|Qb<|xe ?_
   exact ⟨k+1,by omega,⟨rfl,trivial⟩,rfl,hlt,hs1.lw h1.2.2,by rw[htk];exact h1.2.1⟩
  ·refine Xu.of_XL<|x (Zn rfl)<|xe ?_
   refine yi rfl ?_
   refine JR ⟨λ_ h=>(by cases h),List.nodup_nil,[],λW' hW'=>⟨trivial,.inr ⟨es.take k++[es[k]'hlt],trivial,?_⟩⟩⟩
   exact hJx _ W3 W' none h1.2 ⟨hW'.os,hW'.tape,hW'.output,hW'.size,λk hk _=>hW'.block k hk (by simp)⟩ (λr e=>by cases e)
 refine (callsIn_wide (n:=m)).2 ?_
 have ea:(#[.func (.yield l) #[] #[]]++[.pointer (some ⟨b1,0,none⟩)].toArray:Array Value)=[.func (.yield l) #[] #[],.pointer (some ⟨b1,0,none⟩)].toArray:=by simp
 rw[ea]
 unfold QJ at key
 refine Calls.mono key λe w' he=>?_
 cases e with
 | returned v=>exact ⟨⟨v,rfl⟩,he⟩
 | panicked c=>exact he.elim
 | outgrown=>exact he.elim
set_option maxHeartbeats 1000000 in
theorem Qc4 {w:World}{b1:Nat}{v:Value}{es:LI}(hB1:Q2 w.heap b1 37 [v]) (hE:QL [] w.heap v es) (hl:es.length≤1000) :
  QJ prog 319 [Zb,.func (.func 307) #[] #[.pointer (some ⟨b1,0,none⟩)]] w λr w'=>Step [] w w'∧Qu 3 w.heap.size w' r es:=by
 refine QJ.of_G 20 func319 rfl ntmps319 results319 (by simp) ?_
 refine Q0<|QK (by rfl) (by rfl) ?_
 refine xl rfl<|QQ (us:=[Zb]) rfl λb2 w1 hs1 hb2 hB2=>Qe ?_
 have hz1:=hs1.size
 have hl2:=hB2.lt
 refine Q0<|Q0<|QK (by rfl) (by rfl) ?_
 refine Qb<|xe ?_
 refine ZC<|Qh3 (α:=Int) [b2] (by omega) (capt:=[.pointer (some ⟨b1,0,none⟩)]) rfl (enc:=λx=>.int .i64 x) (by decide)
  (yr (hB1.ext hs1) ((hE.up (L':=[b2]) (λb hb=>.inr (by rw[List.mem_singleton.1 hb];exact hb2))).ext hs1))
  (λpre W=>∃vo,Step [b2] w1 W∧Q2 W.heap b2 37 [vo]∧Qu 3 w1.heap.size W vo pre)
  (λpre=>ZW.ex λvo=>(ZW.step (Nat.le_refl _)).and (ZW.blk.and ZW.row))
  ⟨Zb,Step.refl _ _,hB2,QP _ _ _ _⟩
  (λf x f' W=>f'=upd (upd f 7 (.int .i64 x)) 5 (.int .i64 x)) (λx f'=>ZW.pure _) ?_ ?_ ?_
 ·rintro l pre e W ⟨vo,hst,hBo,hO⟩
  refine QK (by rfl) (by rfl) ?_
  refine Qe ?_
  exact ⟨rfl,Jm.refl _ _ _,⟨vo,hst,hBo,hO⟩,rfl⟩
 ·rintro l pre e f' W ⟨vo,hst,hBo,hO⟩ rfl hN
  have hn2:b2∉ob vo:=QM hO (by omega)
  have hge:=Qk hO
  have hzW:=hst.size
  refine ZC<|QK (by rfl) (by rfl) ?_
  refine x (Qd hBo rfl rfl)<|Qb<|xl rfl<|QD (us:=[[.int .i64 e]]) rfl rfl (by decide) (by simp) ⟨rfl,rfl,trivial⟩ λb10 w2 hs2 hb10 hB10=>?_
  refine xl rfl<|QZ (m:=1) (news:=[.int .i64 e]) (Qs hO hs2) rfl rfl rfl (hB10.at (L:=[]) (by simp)) (by simp[Value.oneCell']) (by omega) (by have:=hs2.size;omega) λv3 w3 ho3 hs3 hn3=>?_
  refine xl rfl<|QF (u:=v3) ((hBo.ext hs2).step hs3 hn2) rfl rfl (by simp) (QH ho3) λw4 hs4 hB4=>xe ?_
  have hz2:=hs2.size
  have hcell:=Q3 (Qs hO hs2)
  have hlt3:=QR hO
  refine ⟨((Jm.ext hs2 hzW).trans (Jm.step hs3 (by omega) (λb hb=>⟨.inr (hge b hb).1,Go.Lg.Q3 (Qs hO hs2) b hb⟩))).trans (Jm.blk hs4 (by have:=hs3.size;omega) ((hBo.ext hs2).step hs3 hn2) (.inl List.mem_cons_self)),v3,((hst.trans hs2.any).then hs3 (λb hb=>.inr (hge b hb).1)).trans' hs4,hB4,?_⟩
  have h9:=Qj ho3 hs4 (λb hb=>by have:=(Qk ho3 b hb).1;simp only[List.mem_singleton];omega)
  exact Qu.snoc h9
 ·rintro D xs W hD rfl ⟨vo,hst,hBo,hO⟩ hdD
  refine Q0<|QK (by rfl) (by rfl) ?_
  refine x (Qd hBo rfl rfl)<|Qe<|JR ⟨λD' hD'=>by rw[List.mem_singleton.1 hD'];exact hdD,List.pairwise_singleton _ _,[vo],λW' hW'=>⟨⟨rfl,trivial⟩,(hs1.then1 hst hb2).then hW' (λb hb=>.inr (by rw[List.mem_singleton.1 hb];omega)),?_⟩⟩
  refine Zo (Qj hO hW' (λb hb hm=>?_)) (by omega)
  rw[List.mem_singleton.1 hm] at hb
  obtain ⟨o,h1,h2⟩:=Go.Lg.Q3 hO _ hb
  rw[hdD] at h1
  cases h1
  cases h2
theorem QaJ {w:World}{b1:Nat}{v:Value}{es:LI}(hB1:Q2 w.heap b1 37 [v]) (hE:QL [] w.heap v es) (hl:es.length≤1000) :
  QJ prog 306 [.func (.func 307) #[] #[.pointer (some ⟨b1,0,none⟩)]] w λr w'=>Step [] w w'∧Qu 3 w.heap.size w' r es:=by
 refine QJ.of_W func306 rfl ntmps306 results306 (by simp) ?_
 refine Qc<|Qe<|Qc<|Qb<|xl rfl<|xf<|(Qc4 hB1 hE hl).mono ?_
 rintro v1 w1 ⟨hs1,ho1⟩
 refine Qe ?_
 exact Ql ⟨[v1],⟨rfl,trivial⟩,hs1,ho1⟩
theorem Qci {w:World}{b1:Nat}{v:Value}{es:LI}(hB1:Q2 w.heap b1 37 [v]) (hE:QL [] w.heap v es) (hl:es.length≤1000) :
  QJ prog 280 [.func (.func 307) #[] #[.pointer (some ⟨b1,0,none⟩)]] w λr w'=>Step [] w w'∧Qu 3 w.heap.size w' r (es.mergeSort λx y=>decide (x≤y)):=by
 refine QJ.of_W func280 rfl ntmps280 results280 (by simp) ?_
 refine Qc<|Qe<|Qc<|Qb<|xl rfl<|xf<|(QaJ hB1 hE hl).mono ?_
 rintro v1 w1 ⟨hs1,ho1⟩
 refine Qe<|Qc<|Qb<|xl rfl<|xf<|(qF ho1 (by omega)).mono ?_
 rintro r2 w2 ⟨hs2,ho2⟩
 refine xe ?_
 refine Qc<|Qb<|Qe ?_
 exact Ql ⟨[v1],⟨rfl,trivial⟩,hs1.then hs2 (λb hb=>.inr (Qk ho1 b hb).1),ho2⟩
theorem Qe2:∀{l:LI}{k:Nat}(h:k<l.length) {n:Int},l[k]'h=n→n∉l.take k→l.idxOf n=k
 | [],_,h,_,_,_=>by simp at h
 | a::l,0,_,n,e,_=>by
  have e2:a=n:=e
  rw[e2,List.idxOf_cons_self]
 | a::l,k+1,h,n,e,hn=>by
  have hne:a≠n:=λe2=>hn (by rw[List.take_succ_cons,e2];exact List.mem_cons_self)
  rw[List.idxOf_cons,show (a == n)=false by simpa using hne]
  show List.idxOf n l+1=k+1
  have:=Qe2 (l:=l) (k:=k) (by simpa using h) (by simpa using e) (λhm=>hn (by rw[List.take_succ_cons];exact List.mem_cons_of_mem _ hm))
  omega
theorem Qjd {L:LN}{w:World}{v:Value}{l:LI}(h:QL L w.heap v l) {n:Int}(hn:n∈l) :
  QJ prog 132 [v,.int .i64 n] w λr w'=>w'=w∧r=.int .i64 (l.idxOf n:Nat):=by
 have hle:=h.le
 refine QJ.of_W func132 rfl ntmps132 results132 (by simp) ?_
 refine Qc<|Qe<|Qf<|Qc<|Qb<|x (Qr h rfl)<|Qb<|xe ?_
 refine Qg<|QA (α:=Nat) [(4,5),(8,18)] (λk=>[(8,.int .i64 k)]) (λk w'=>w'=w∧k≤l.length∧n∉l.take k) (λk=>l.length - k) (by rfl) 0 ⟨rfl,trivial⟩ ⟨rfl,Nat.zero_le _,by simp⟩ ?_
 rintro k g w1 ⟨rfl,hk,hm⟩
 refine Qc<|x (QB rfl rfl)<|xe ?_
 refine Qf<|QG rfl (λh9=>?_) (λh9=>?_)
 ·exfalso
  rw[List.take_of_length_le (by omega)] at hm
  exact hm hn
 have hlt:k<l.length:=by omega
 refine Qi<|Qf<|Qg<|Qc<|Qb<|Qe<|Qc<|Qb<|Qb<|Qb<|xii h rfl rfl hlt λa14 h14=>x (Qv h14 rfl)<|x (Q7 rfl rfl)<|xe ?_
 refine Q4 rfl (λh16=>?_) (λh16=>?_)
 ·refine Qc<|Qb<|Qe ?_
  exact Ql ⟨[.int .i64 k],⟨rfl,trivial⟩,rfl,congrArg (λm:Nat=>Value.int .i64 m) (Qe2 hlt (Eq.symm h16) hm).symm⟩
 refine Qi<|Qw<|QO rfl rfl<|Qb<|xe ?_
 refine ⟨k+1,by omega,⟨rfl,trivial⟩,rfl,by omega,?_⟩
 rw[List.take_succ_eq_append_getElem hlt,List.mem_append,List.mem_singleton]
 exact λh=>h.elim hm h16
def rlE (a:QV) (to:LI):List Ed:=a.ed.map λe=>(e.1,cget to (a.al.idxOf e.2.1),e.2.2)
set_option maxHeartbeats 8000000 in
theorem QaU {w:World}{va vm ve vt:Value}{a:QV}{to sa:LI}{se:List Ed}(h:Zt [] w.heap va vm ve a) (hck:Jh a=0) (ho:Zs a) (ht:QL [] w.heap vt to) (htl:to.length=a.al.length) (htb:∀e∈to,0≤e∧e<32) (htn:to.Nodup)
  (hsa:to.mergeSort (λx y=>decide (x≤y))=sa) (hse:∀l',l'.Perm (rlE a to)→l'.Pairwise jq→l'=se) (hok:Zs ⟨sa,a.st,a.mr,se⟩) :
  QJ prog 250 [.agg #[va,.int .i64 a.st,vm,ve],vt] w λr w'=>Step [] w w'∧∃v,r=.tuple #[v,.int .i64 0]∧Xr w.heap.size w'.heap v (Ju ⟨sa,a.st,a.mr,se⟩):=by
 have hst0:=ho.st0
 have hst1:=ho.st1
 have hall:=ho.al_le
 refine QJ.of_W func250 rfl ntmps250 results250 (by simp) ?_
 refine Qc<|xl rfl<|QQ (us:=[va,.int .i64 a.st,vm,ve]) rfl λb2 w1 hs1 hb2 hB2=>xl rfl<|Qt (us:=VX) rfl λb4 w2 hs2 hb4 hB4=>Qe ?_
 have hs02:=hs1.trans hs2
 have hz1:=hs1.size
 have hz2:=hs2.size
 have hl4:=hB4.lt
 have hB22:=hB2.ext hs2
 refine Qf<|Qc<|x (Qq hB22 rfl rfl)<|xl rfl<|xf<|(Xo (h.ext hs02)).mono ?_
 rintro r3 w3 ⟨hr3,hs3⟩
 rw[hck] at hr3
 subst hr3
 have hs03:=hs02.trans hs3
 have hz3:=hs3.size
 have hB23:=hB22.ext hs3
 have hB43:=hB4.ext hs3
 refine Qe<|Qc<|Qb<|x (Q8 rfl rfl)<|xe ?_
 refine Zy rfl ?_
 refine Qi ?_
 have hA3:=h.ext hs03
 have hT3:=ht.ext hs03
 refine Qf<|Qc<|Qb<|x (Qr hT3 rfl)<|x (Qa rfl)<|x (Qd hB23 rfl rfl)<|x (Qr hA3.al rfl)<|x (Q8 rfl rfl)<|xe ?_
 refine Q4 rfl (λh23=>absurd (congrArg (λm:Nat=>(m:Int)) htl) h23) (λh23=>?_)
 refine Qi<|QU (α:=Unit) [(5,5),(7,8),(25,47)] (λ_=>[]) (λ_ w'=>w'=w3) (by rfl) ?_ ?_
 ·refine Qc<|Qb<|x (Qr hT3 rfl)<|Qb<|xe ?_
  refine Qg<|QA (α:=Nat) [(5,5),(7,8),(27,47)] (λk=>[(27,.int .i64 k)]) (λk w'=>w'=w3∧k≤to.length) (λk=>to.length - k) (by rfl) 0 ⟨rfl,trivial⟩ ⟨rfl,Nat.zero_le _⟩ ?_
  rintro k g w' ⟨rfl,hk⟩
  refine Qc<|x (QB rfl rfl)<|xe ?_
  refine Qf<|QG rfl (λh28=>?_) (λh28=>?_)
  ·refine Qx ?_
   exact ⟨(),trivial,rfl⟩
  have hlt:k<to.length:=by have h29:(k:Int)<(to.length:Int):=h28;omega
  have hbk:=htb _ (List.getElem_mem hlt)
  have hnk:(to[k]'hlt)∉to.take k:=λhm=>by
   obtain ⟨j,hj,hje⟩:=List.getElem_of_mem hm
   rw[List.getElem_take] at hje
   have hjk:j<k:=by rw[List.length_take] at hj;omega
   have:=(List.pairwise_iff_getElem.1 htn) j k (by omega) hlt hjk
   exact this hje
  refine Zd (to[k]'hlt) λe he=>?_
  rw[he] at hbk hnk
  refine Qi<|Qf<|Qg<|Qc<|Qb<|xii hT3 rfl rfl hlt λa30 h30=>?_
  rw[he] at h30
  refine x (Qv h30 rfl)<|x Qh<|Qe<|Qg<|Qc<|Qb<|xb (QB rfl rfl) (λh34=>absurd (show e<0 from h34) (by omega)) (λh34=>?_)
  refine Qb<|Qb<|x (ZR rfl rfl)<|x (Qm rfl)<|Qe<|Q4 rfl (λh32=>absurd (show e≥32 from h32) (by omega)) (λh32=>?_)
  refine Qc<|Qb<|Qb<|Qiq hT3 rfl rfl (by omega) λv43 hA43=>?_
  have hI43:QL [] w'.heap v43 (to.take k):=by
   unfold QL
   have hl43:(to.take k).length=k:=by rw[List.length_take];omega
   rw[hl43,List.map_take]
   simpa using hA43
  refine Qb<|xl rfl<|xf<|(ZI hI43 e).mono ?_
  rintro r45 w' ⟨rfl,rfl⟩
  refine Qe<|Q4 rfl (λh40=>absurd h40 hnk) (λh40=>?_)
  refine Qi<|Qw<|QO rfl rfl<|Qb<|xe ?_
  exact ⟨k+1,by omega,⟨rfl,trivial⟩,rfl,hlt⟩
 rintro ⟨⟩ g w' rfl
 have hd3:Step [] w' { w' with drawn:=w'.drawn+1 }:=Step.drew _ _
 refine QU (α:=Nat×Value) [(9,9),(48,55)] (λz=>[(9,.pointer (some ⟨z.1,0,none⟩))]) (λz w5=>Step [] w' w5∧w'.heap.size≤z.1∧Q2 w5.heap z.1 58 [z.2,.int .i64 a.st,vm,nS]∧z.2.oneCell'=true∧∀L:LN,(∀b∈L,b<w'.heap.size∨b=z.1)→QL L w5.heap z.2 sa) (by rfl) ?_ ?_
 ·refine VF (α:=Value) (Step [] w') [(0,true),(3,true),(4,true),(5,true),(6,true)] [(1,false),(2,false),(7,true)] 8 9 [(9,false)] [] [(48,55)] [(49,50),(55,55)] (λz=>[(55,.agg [z,.int .i64 a.st,vm,nS].toArray)])
   (λz own w5=>(∀b∈own,w'.heap.size≤b)∧z.oneCell'=true∧∀L:LN,(∀b∈L,b∉own)→QL L w5.heap z sa)
   (λv w5=>∃b,v=.pointer (some ⟨b,0,none⟩)∧w'.heap.size≤b∧Q2 w5.heap b 58 VX) mixed (by rfl) (by kernel_rfl) (by rfl) rfl hd3 (by simp) ?_ ?_ ?_ ?_
  ·rintro v own wa wb ⟨b,rfl,hb,hB⟩ hs hn
   exact ⟨b,rfl,hb,hB.step hs (hn b (by simp[ow]))⟩
  ·rintro z own wa wb ⟨h1,h2,h3⟩ hs
   exact ⟨h1,h2,λL hL=>(h3 L hL).ext hs⟩
  ·rintro z g own wz v ⟨i1,i2,i3⟩ hCz ⟨b9,rfl,hb9,hB9⟩ hbo
   have hb9o:=(hbo b9 (by simp[ow])).1
   refine pkl (hl:=by kernel_rfl)<|Qn (us:=[z,.int .i64 a.st,vm,nS]) hB9 rfl rfl rfl rfl ⟨i2,rfl,hA3.mr.one,rfl,trivial⟩ λw5 hs5 hB95=>pe ?_
   refine ⟨(b9,z),⟨rfl,trivial⟩,hCz.then1 hs5 hb9,hb9,hB95,i2,λL hL=>?_⟩
   have h1:=i3 (b9::L) (λb hb=>by
    rcases List.mem_cons.1 hb with rfl | hb
    ·exact hb9o
    ·rcases hL b hb with h2 | h2
     ·exact λh3=>by have:=i1 b h3;omega
     ·subst h2;exact hb9o)
   exact (h1.st (hs5.mono (by simp))).up (λb hb=>.inl (by simp[hb]))
  refine Go.Lg.p (λ_=>Qo)<|Go.Lg.p (λ_=>Qa rfl)<|pq (λ_ hc=>Qd (hB23.ext hc) rfl rfl)<|Go.Lg.p (λ_=>Qa rfl)<|pq (λ_ hc=>Qd (hB23.ext hc) rfl rfl) <|
   pe ⟨λg wf hCf=>Qt (us:=VX) rfl λb wf' hsf hbf hBf=>⟨hsf,hCf.trans hsf,⟨b,rfl,Nat.le_trans hCf.size hbf,hBf⟩,λx hx=>?_⟩,?_⟩
  ·have hxe:x=b:=by
    have hx':x∈[b]:=hx
    simpa using hx'
   subst hxe
   exact ⟨hbf,hBf.lt⟩
  refine f2k λx1 p1 c1=>xf<|(Qcc hT3.cells).mono ?_
  rintro r49 y1 ⟨hs1',b49,rfl,hb49,hB49⟩
  refine ⟨c1.trans hs1',yI x1.heap.size y1.heap.size,hs1'.any,λb hb=>.inr (ZT.1 hb),?_⟩
  refine f2k λx2 p2 c2=>xf<|(Qci (hB49.ext p2) (hT3.ext c2) (by omega)).mono ?_
  rintro r50 y2 ⟨hs2',ho2⟩
  rw[hsa] at ho2
  refine ⟨c2.trans hs2',yI x1.heap.size y1.heap.size++yI x2.heap.size y2.heap.size,hs2'.any,λb hb=>(List.mem_append.1 hb).imp id λhb=>ZT.1 hb,?_⟩
  refine f2p (λ_=>QE ⟨Q3 ho2,rfl,hA3.mr.cells,trivial⟩)<|f2e ?_
  refine ⟨r50,⟨rfl,trivial⟩,λb hb=>?_,QH ho2,λL hL=>?_⟩
  ·have e1:=c1.size
   have e2:=c2.size
   rcases List.mem_append.1 hb with hb | hb
   ·have:=ZT.1 hb;omega
   ·have:=ZT.1 hb;omega
  ·exact QT ho2 (by rw[←hsa,(List.mergeSort_perm to _).length_eq];omega) (λb hb hm=>hL b hm (List.mem_append.2 (.inr (ZT.2 (Qk ho2 b hb)))))
 rintro ⟨b9,vs⟩ g w5 ⟨hs5,hb9,hB9,hvo,hvI⟩
 simp only[] at hb9 hB9 hvo hvI
 have hz5:=hs5.size
 have hl9:=hB9.lt
 have hB25:=hB23.ext hs5
 have hB45:=hB43.ext hs5
 have hn9:∀b∈[b9],b∈([]:LN)∨w'.heap.size≤b:=λb hb=>.inr (by rw[List.mem_singleton.1 hb];exact hb9)
 have hA5:Zt [b9] w5.heap va vm ve a:=(hA3.up hn9).ext hs5
 have hT5:QL [b9] w5.heap vt to:=(hT3.up hn9).ext hs5
 have hvI9:=hvI [b9] (λb hb=>.inr (List.mem_singleton.1 hb))
 have hel:=hA5.ed.le
 have n29:b2∉[b9]:=by have:=hB23.lt;simp only[List.mem_singleton];omega
 have n49:b4∉[b9]:=by simp only[List.mem_singleton];omega
 have hrl:(rlE a to).length=a.ed.length:=by unfold rlE;rw[List.length_map]
 have hrb:∀e∈rlE a to,(0≤e.1∧e.1<1099511627776)∧0≤e.2.1∧e.2.1<1099511627776:=λe he=>by
  unfold rlE at he
  obtain ⟨d,hd,rfl⟩:=List.mem_map.1 he
  have h1:=ho.ed d hd
  have h2:a.al.idxOf d.2.1<to.length:=by rw[htl];exact List.idxOf_lt_length_of_mem h1.2.2.1
  have h3:=htb _ (List.getElem_mem h2)
  have h4:=Zl h2
  simp only[]
  omega
 refine QU (α:=Value) [(11,11),(56,78)] (λ_=>[]) (λz w6=>Step [b9] w5 w6∧Q2 w6.heap b9 58 [vs,.int .i64 a.st,vm,z]∧w6.ownsRow w5.heap.size 144 3 z (rlE a to).length ((rlE a to).flatMap Qy)) (by rfl) ?_ ?_
 ·refine Qc<|x (Qa rfl)<|x (Qd hB25 rfl rfl)<|x (Qr hA5.ed rfl)<|Qb<|xe ?_
  refine Qg<|QA (α:=Nat×Value) [(11,11),(59,78)] (λz=>[(59,.int .i64 z.1)]) (λz w6=>z.1≤a.ed.length∧Step [b9] w5 w6∧Q2 w6.heap b9 58 [vs,.int .i64 a.st,vm,z.2]∧w6.ownsRow w5.heap.size 144 3 z.2 z.1 (((rlE a to).take z.1).flatMap Qy)) (λz=>a.ed.length - z.1) (by rfl) (0,Zb) ⟨rfl,trivial⟩ ⟨Nat.zero_le _,Step.refl _ _,hB9,QP _ _ _ _⟩ ?_
  rintro ⟨k,vr⟩ g w6 ⟨hk,hs6,hB96,ho6⟩
  simp only[] at hk hB96 ho6
  refine Qc<|x (QB rfl rfl)<|xe ?_
  refine Qf<|QG rfl (λh60=>?_) (λh60=>?_)
  ·refine Qx ?_
   have hke:k=a.ed.length:=by have h61:¬(k:Int)<(a.ed.length:Int):=h60;omega
   rw[List.take_of_length_le (by omega),hke,←hrl] at ho6
   exact ⟨vr,trivial,hs6,hB96,ho6⟩
  have hlt:k<a.ed.length:=by have h61:(k:Int)<(a.ed.length:Int):=h60;omega
  have hee:=ho.ed _ (List.getElem_mem hlt)
  have hrk:(rlE a to)[k]'(by omega)=((a.ed[k]'hlt).1,cget to (a.al.idxOf (a.ed[k]'hlt).2.1),(a.ed[k]'hlt).2.2):=by unfold rlE;rw[List.getElem_map]
  have htk:(rlE a to).take (k+1)=(rlE a to).take k++[(rlE a to)[k]'(by omega)]:=List.take_succ_eq_append_getElem (by omega)
  rw[hrk] at htk
  refine Zd (a.ed[k]'hlt) λe he=>?_
  rw[he] at hee htk
  have hix:a.al.idxOf e.2.1<to.length:=by rw[htl];exact List.idxOf_lt_length_of_mem hee.2.2.1
  rw[←Zl hix] at htk
  refine Zd (to[a.al.idxOf e.2.1]'hix) λy hy=>?_
  rw[hy] at htk
  refine Qi<|Qf<|Qg<|Qc<|xie (i:=k) (hA5.ed.st hs6) rfl rfl hlt λa61 h61=>?_
  rw[he] at h61
  refine x (QC h61 rfl rfl)<|xl rfl<|Qt (us:=[.int .i64 0,.int .i64 0,.int .i64 0]) rfl λb11 w7 hs7 hb11 hB11=>xl rfl<|Qn (us:=Qy e) hB11 rfl rfl rfl rfl ⟨rfl,rfl,rfl,trivial⟩ λw8 hs8 hB118=>xe ?_
  have hs68:Step [] w6 w8:=hs7.then1 hs8 hb11
  have hz6:=hs6.size
  refine Qc<|Qb<|x (Qa rfl)<|x (Qd ((hB25.step hs6 n29).ext hs68) rfl rfl)<|x (Qa rfl)<|x (Qd hB118 rfl rfl)<|xl rfl<|xf<|(Qjd ((hA5.al.st hs6).ext hs68) hee.2.2.1).mono ?_
  rintro r68 w8 ⟨rfl,rfl⟩
  refine xii ((hT5.st hs6).ext hs68) rfl rfl hix λa69 h69=>?_
  rw[hy] at h69
  refine x (Qv h69 rfl)<|x (Qa rfl)<|xl rfl<|QF (u:=.int .i64 y) hB118 rfl rfl (by simp[Qy]) rfl λw9 hs9 hB119=>xe ?_
  have hB119':Q2 w9.heap b11 144 (Qy (e.1,y,e.2.2)):=hB119
  have hs69:Step [] w6 w9:=hs68.then1 hs9 hb11
  have hB99:=hB96.ext hs69
  have ho9:=Qs ho6 hs69
  have n9v:b9∉ob vr:=QM ho6 hl9
  have hge:=Qk ho6
  have hz69:=hs69.size
  refine Qw<|x (Qa rfl)<|x (Qd hB99 rfl rfl)<|x (Qq hB119' rfl rfl)<|xl rfl<|QD (us:=[Qy (e.1,y,e.2.2)]) rfl rfl (by decide) (by exact (by decide:1*3≤1000000)) ⟨rfl,rfl,trivial⟩ λb75 w10 hs10 hb75 hB75=>?_
  refine xl rfl<|QZ (m:=1) (news:=Qy (e.1,y,e.2.2)) (L:=[]) (Qs ho9 hs10) rfl rfl rfl (hB75.at (by simp)) (by simp[Qy,Value.oneCell']) (by omega) (by have:=hs10.size;omega) λv11 w11 ho11 hs11 hn11=>?_
  refine x (Qa rfl)<|xl rfl<|QF (u:=v11) ((hB99.ext hs10).step hs11 n9v) rfl rfl (by simp) (QH ho11) λw12 hs12 hB912=>xe ?_
  refine Qw<|QO rfl rfl<|Qb<|xe ?_
  refine ⟨(k+1,v11),by simp only[];omega,⟨rfl,trivial⟩,hlt,(((hs6.trans hs69.any).trans hs10.any).then hs11 (λb hb=>.inr (hge b hb).1)).trans' hs12,hB912,?_⟩
  simp only[]
  rw[htk,List.flatMap_append]
  have h9:=Qj ho11 hs12 (λb hb=>by have:=(Qk ho11 b hb).1;simp only[List.mem_singleton];omega)
  simpa using h9
 rintro vr g w6 ⟨hs6,hB96,ho6⟩
 have n9r:b9∉ob vr:=QM ho6 hl9
 have hz6:=hs6.size
 have hgr:=Qk ho6
 refine Qc<|x (Qa rfl)<|x (Qd hB96 rfl rfl)<|xl rfl<|xf<|(zo ho6 (by omega) hrb).mono ?_
 rintro r7 w7 ⟨hs7,l',hp,hpw,ho7⟩
 have hl':=hse l' hp hpw
 subst hl'
 refine xe ?_
 have hB97:=hB96.step hs7 n9r
 have up9:∀b∈b9::ob vr,b∈[b9]∨w5.heap.size≤b:=λb hb=>by
  rcases List.mem_cons.1 hb with rfl | hb
  ·exact .inl List.mem_cons_self
  ·exact .inr (hgr b hb).1
 have go7:∀{v:Value} {l:LI},QL [b9] w5.heap v l→QL [] w7.heap v l:=λhv=>(((hv.up up9).st (hs6.mono (by simp))).st (hs7.mono (λb hb=>List.mem_cons_of_mem _ hb))).up (λb hb=>by cases hb)
 have hse7:U9 [] w7.heap vr l':=QT ho7 (by have:=hp.length_eq;omega) (by simp)
 have hA7:Zt [] w7.heap vs vm vr ⟨sa,a.st,a.mr,l'⟩:=⟨go7 hvI9,go7 hA5.mr,hse7⟩
 have hs57:Step [] w' w7:=(hs5.then1 hs6 hb9).then hs7 (λb hb=>.inr (by have:=(hgr b hb).1;omega))
 have hz57:=hs57.size
 have hB47:=hB43.ext hs57
 refine Qc<|x (Qq hB97 rfl rfl)<|xl rfl<|xf<|(Ji hA7 hok).mono ?_
 rintro v w8 ⟨hs8,hF⟩
 obtain ⟨us,hva,husl,hus⟩:=Xq hF
 refine xl rfl<|Qn (us:=us) (hB47.ext hs8) rfl hva husl rfl hus λw9 hs9 hB49=>Qe ?_
 have hs07:=hs03.trans hs57
 refine Ql ⟨[.agg us.toArray,.int .i64 0],⟨⟨_,rfl,Qz husl (hB49.at (L:=[]) (by simp)).cells⟩,rfl,trivial⟩,(hs07.trans hs8).then1 hs9 (by omega),v,by rw[hva];rfl,?_⟩
 exact (Ja hF (by omega) hs9).mono (by have:=hs07.size;omega)
theorem QiJ {motive:LI→Prop}(nil:motive []) (append_singleton:∀u v,motive u→motive (u++[v])) (u:LI):motive u:=by
 have key:∀r:LI,motive r.reverse:=by
  intro r
  induction r with
  | nil=>exact nil
  | cons v r ih=>rw[List.reverse_cons];exact append_singleton _ _ ih
 have:=key u.reverse
 rw[List.reverse_reverse] at this
 exact this
def enc (u:LI):Int:=u.foldl (λn e=>n*33+(e+1)) 0
theorem JM (u:LI) (v:Int):enc (u++[v])=enc u*33+(v+1):=by unfold enc;rw[List.foldl_append];rfl
def Qc7 (u:LI):Prop:=∀e∈u,0≤e∧e<32
theorem Qc7.snoc {u:LI}{v:Int}(h:Qc7 (u++[v])):Qc7 u∧0≤v∧v<32:=⟨λe he=>h e (List.mem_append_left _ he),h v (by simp)⟩
theorem Qjn {u:LI}(h:Qc7 u):0≤enc u:=by
 induction u using QiJ with
 | nil=>exact Int.le_refl _
 | append_singleton u v ih=>rw[JM];have:=ih h.snoc.1;have:=h.snoc.2;omega
def rn (a:QV) (x:Int) (u:LI):Int:=u.foldl (λs v=>nxt a.ed s v) x
theorem QgL (a:QV) (x:Int) (u:LI) (v:Int):rn a x (u++[v])=nxt a.ed (rn a x u) v:=by unfold rn;rw[List.foldl_append];rfl
structure Fw where
 u:LI
 s:Int
def VL:Fw:=⟨[],0⟩
def wdN (e:Fw) (d:Ed):Fw:=⟨e.u++[d.2.1],d.2.2⟩
def wdR (a:QV) (e:Fw):List Fw:=(ZJ a.ed e.s).map (wdN e)
def wdL (a:QV) (most:Nat):Nat→Nat→List Fw→Option (List Fw)
 | 0,_,L=>some L
 | f+1,i,L=>if i<L.length then (if (L.getD i VL).u.length=most then some L else if 1024<(L++wdR a (L.getD i VL)).length then none else wdL a most f (i+1) (L++wdR a (L.getD i VL))) else some L
def wds (a:QV) (most:Nat):Option (List Fw):=wdL a most 1025 0 [VL]
structure WdI (a:QV) (most i:Nat) (L:List Fw):Prop where
 ne:0<L.length
 le:i≤L.length
 mx:L.length≤1024
 rx:∀e∈L,e.s=rn a 0 e.u∧0≤e.s∧e.s<a.st∧(∀v∈e.u,v∈a.al)∧e.u.length≤most
 so:L.Pairwise λp q=>enc p.u<enc q.u
 hd:(L.getD 0 VL).u=[]
 pr:∀e∈L,e.u=[]∨∃j v,j<i∧e.u=(L.getD j VL).u++[v]
 ch:∀j v,j<i→0≤nxt a.ed (L.getD j VL).s v→∃e∈L,e.u=(L.getD j VL).u++[v]
theorem Qfd {L:List Fw}{i:Nat}(h:i<L.length):L.getD i VL∈L:=by simp[List.getD,h]
theorem Qfe {L r:List Fw}{i:Nat}(h:i<L.length):(L++r).getD i VL=L.getD i VL:=by simp[List.getD,List.getElem?_append_left h]
theorem WdI.step {a:QV}(ho:Zs a) {most i:Nat}{L:List Fw}(h:WdI a most i L) (hi:i<L.length) (hl:(L.getD i VL).u.length≠most) (hm:¬1024<(L++wdR a (L.getD i VL)).length):WdI a most (i+1) (L++wdR a (L.getD i VL)):=by
 have hal:Qc7 a.al:=ho.al
 have hSm:∀e∈L,Qc7 e.u:=λe he u hu=>hal u ((h.rx e he).2.2.2.1 u hu)
 have hiM:=Qfd hi
 obtain ⟨r1,r2,r3,r4,r5⟩:=h.rx _ hiM
 generalize hei:L.getD i VL=ei at *
 have hrow:∀e∈wdR a ei,∃d∈ZJ a.ed ei.s,e=wdN ei d∧d.2.1∈a.al∧0≤d.2.2∧d.2.2<a.st∧nxt a.ed ei.s d.2.1=d.2.2:=λe he=>by
  unfold wdR at he
  obtain ⟨d,hd,rfl⟩:=List.mem_map.1 he
  obtain ⟨hd1,hd2⟩:=ZL hd
  have hda:=ho.ed d hd1
  refine ⟨d,hd,rfl,hda.2.2.1,hda.2.2.2.1,hda.2.2.2.2,?_⟩
  rw[Qbp]
  obtain ⟨k,hk,rfl⟩:=List.getElem_of_mem hd
  refine Qaj _ ei.s _ k hk (λe he=>(ZL he).2) rfl (λm hmk e=>?_)
  have hp:(ZJ a.ed ei.s).Pairwise λx y:Ed=>x.1<y.1∨(x.1=y.1∧x.2.1<y.2.1):=List.Pairwise.sublist List.filter_sublist ho.edi
  have:=List.pairwise_iff_getElem.1 hp m k (by omega) hk hmk
  have e1:=(ZL (List.getElem_mem (l:=ZJ a.ed ei.s) (show m<(ZJ a.ed ei.s).length by omega))).2
  have e2:=(ZL (List.getElem_mem hk)).2
  omega
 have hgi:=Qjn (hSm _ hiM)
 have hnew:∀e∈L,∀v,v∈a.al→enc e.u<enc (ei.u++[v]):=λe he v hv=>by
  have hvb:=hal v hv
  rw[JM]
  rcases h.pr e he with h1 | ⟨j,u,hj,h1⟩
  ·rw[h1];show (0:Int)<_;omega
  ·rw[h1,JM]
   have hlt:enc (L.getD j VL).u<enc ei.u:=by
    have:=List.pairwise_iff_getElem.1 h.so j i (by omega) hi hj
    rw[←hei]
    simpa[List.getD,show j<L.length by omega,hi] using this
   have hub:u<32:=by
    have:=(h.rx e he).2.2.2.1 u (by rw[h1];simp)
    exact (hal u this).2
   omega
 have keepD:∀r:List Fw,∀j,j<L.length→(L++r).getD j VL=L.getD j VL:=λr j hj=>Qfe hj
 refine ⟨by simp;have:=h.ne;omega,by simp;omega,by omega,λe he=>?_,?_,by rw[keepD _ 0 h.ne];exact h.hd,λe he=>?_,λj v hj hn=>?_⟩
 ·rcases List.mem_append.1 he with he | he
  ·exact h.rx e he
  ·obtain ⟨d,_,rfl,h1,h2,h3,h4⟩:=hrow e he
   refine ⟨?_,h2,h3,λu hu=>?_,?_⟩
   ·show d.2.2=rn a 0 (ei.u++[d.2.1]);rw[QgL,←r1,h4]
   ·rcases List.mem_append.1 (show u∈ei.u++[d.2.1] from hu) with hu | hu
    ·exact r4 u hu
    ·simp only[List.mem_singleton] at hu;subst hu;exact h1
   ·show (ei.u++[d.2.1]).length≤most
    rw[List.length_append,List.length_singleton];omega
 ·rw[List.pairwise_append]
  refine ⟨h.so,?_,λp hp q hq=>?_⟩
  ·unfold wdR
   rw[List.pairwise_map]
   have hp:(ZJ a.ed ei.s).Pairwise λx y:Ed=>x.1<y.1∨(x.1=y.1∧x.2.1<y.2.1):=List.Pairwise.sublist List.filter_sublist ho.edi
   refine List.Pairwise.imp_of_mem (λ{x y} hx hy hxy=>?_) hp
   have e1:=(ZL hx).2
   have e2:=(ZL hy).2
   show enc (ei.u++[x.2.1])<enc (ei.u++[y.2.1])
   rw[JM,JM];omega
  ·obtain ⟨d,_,rfl,h1,_⟩:=hrow q hq
   exact hnew p hp _ h1
 ·rcases List.mem_append.1 he with he | he
  ·rcases h.pr e he with h1 | ⟨j,u,hj,h1⟩
   ·exact .inl h1
   ·exact .inr ⟨j,u,by omega,by rw[keepD _ j (by omega)];exact h1⟩
  ·obtain ⟨d,_,rfl,_⟩:=hrow e he
   exact .inr ⟨i,d.2.1,by omega,by rw[keepD _ i hi,hei];rfl⟩
 ·rw[keepD _ j (by omega)] at hn ⊢
  by_cases e:j=i
  ·subst e
   rw[hei] at hn ⊢
   have hm2:=zI hn
   refine ⟨wdN ei (ei.s,v,nxt a.ed ei.s v),List.mem_append_right _ ?_,rfl⟩
   unfold wdR
   exact List.mem_map_of_mem (by unfold ZJ;exact List.mem_filter.2 ⟨hm2,by simp⟩)
  ·obtain ⟨e',he',h1⟩:=h.ch j v (by omega) hn
   exact ⟨e',List.mem_append_left _ he',h1⟩
theorem Qj2 {a:QV}(h0:0<a.st) (most:Nat):WdI a most 0 [VL]:=by
 refine ⟨by simp,Nat.zero_le _,by simp,λe he=>?_,by simp,by simp[List.getD,VL],λe he=>?_,λj v hj=>by omega⟩
 ·simp only[List.mem_singleton] at he
  subst he
  exact ⟨rfl,Int.le_refl _,h0,by simp[VL],by simp[VL]⟩
 ·simp only[List.mem_singleton] at he
  subst he;exact .inl rfl
end Go.Proofs.YtdffckgdcegpaaaGreatDoor
namespace Go.Lg
section
variable {P:Program} {ops:List Oper} {K:Fr→World→Prop} {f:Fr} {w:World} {d:Option Nat} {ty:Nat} {ps:String} {af:Array Edge} {gd:Option (Nat×Bool)}
theorem VV {base t ty e:Nat}{sz bys:Nat}{z:Value}[h:Sl P t e sz bys z] {v:Value}{n:Nat}{cs:LV}(hown:w.ownsRow base e sz v n cs)
  {a:Addr} {m c:Nat} {news:LV} (hl:news.length=m*sz) (hnews:∀j u,news[j]?=some u→w.cell? (a.add j)=some u) (h1:∀u∈news,u.oneCell'=true)
  (hb:n+m≤1099511627776) (hby:bys≤128) (hbase:base≤w.heap.size) :
  ∃v' w',(Builtin.append_ #[t,t] ty #[v,.slice (some a) m c]).run P w=.ok v' w'∧w'.ownsRow base e sz v' (n+m) (cs++news)∧Step (ob v) w w'∧(∀b∈ob v',b∈ob v∨w.heap.size≤b)∧w'.ownsRow base e sz v n cs:=by
 obtain ⟨i,hi,hz,hsz,hbys⟩:=Sl.info h
 have hbytes:(n+m)*bys≤140737488355328:=Nat.le_trans (Nat.mul_le_mul hb hby) (by omega)
 have h63:n+m≤maxLen:=by simp only[maxLen];omega
 by_cases hg:∃g cap cur,v=.slice (some ⟨g,0,none⟩) n cap∧w.heap[g]?=some (.cells cur e (0,0))∧n+m≤cap
 ·obtain ⟨v',w',hr,ho,hgr,_⟩:=run_append_own (P:=P) w base t ty e i z sz bys h.u hi hz hsz hbys h.zs h.pos v n cs hown a m c news hl hnews h1 h63 hbytes hbase
  have hst:Step (ob v) w w':=by rw[zG];exact Step.of_grown hgr
  refine ⟨v',w',hr,ho,hst,?_⟩
  obtain ⟨g,cap,cur,rfl,hgg,hroom⟩:=hg
  rcases hown.2 with ⟨h2,_⟩ | ⟨g2,cap2,cur2,h2,h3,h4,h5,h6,h7,h8⟩
  ·cases h2
  ·cases h2
   have hfit:n*i.size+news.length≤cur2.size:=by rw[hl,h7,hsz,←Nat.add_mul];exact Nat.mul_le_mul_right _ hroom
   have hr2:=run_append_room (P:=P) w t ty e i h.u hi g n cap cur2 h4 a m c news (by rw[hsz];exact hl) hnews h1 hroom hfit
   rw[hr2] at hr
   cases hr
   refine ⟨λb hb'=>.inl hb',hown.1,?_⟩
   have hcl:=hown.1
   rcases ho.2 with ⟨e1,_⟩ | ⟨g3,cap3,cur3,e1,k3,k4,k5,k6,k7,k8⟩
   ·cases e1
   ·cases e1
    refine .inr ⟨g,cap,cur3,rfl,k3,k4,h5,k6,k7,?_⟩
    have:=congrArg (List.take (n*sz)) k8
    rw[List.take_take,Nat.min_eq_left (Nat.mul_le_mul_right _ (Nat.le_add_right n m)),List.take_append_of_le_length (by omega),List.take_of_length_le (l:=cs) (by omega)] at this
    exact this
 ·have new:∀(old:Nat),old<n+m→∀o',o'=(Obj.cells (cs.toArray++news.toArray++Builtin.zeroCells z.cells (grownCap w (n+m) old e - (n+m))) e) →
    (w.drew.alloc o').ownsRow base e sz (.slice (some ⟨w.heap.size,0,none⟩) (n+m) (grownCap w (n+m) old e)) (n+m) (cs++news):=by
   intro old ho o' ho'
   subst ho'
   have hge:=grownCap_ge w (n+m) old e
   have hcm:grownCap w (n+m) old e≤maxLen:=grownCap_le_maxLen w (n+m) old e h63
   have hlen:(cs++news).length=(n+m)*sz:=by rw[List.length_append,hown.1,hl,Nat.add_mul]
   refine ⟨hlen,.inr ⟨w.heap.size,_,_,rfl,hbase,JO w.drew _,hge,hcm,?_,?_⟩⟩
   ·simp only[Array.size_append,List.size_toArray,size_zeroCells,h.zs,hown.1,hl,←Nat.add_mul]
    congr 1;omega
   ·simp only[Array.toList_append,List.append_assoc]
    rw[←List.append_assoc,←hlen]
    exact List.take_left
  have stp:∀o',Step (ob v) w (w.drew.alloc o'):=λo'=>⟨rfl,rfl,rfl,by rw[Ue];exact Nat.le_succ _,λk hk _=>yh w.drew o' k hk⟩
  have stp0:∀o',Step [] w (w.drew.alloc o'):=λo'=>⟨rfl,rfl,rfl,by rw[Ue];exact Nat.le_succ _,λk hk _=>yh w.drew o' k hk⟩
  have fin:∀(b:Nat),b∈ob (.slice (some ⟨w.heap.size,0,none⟩) (n+m) 0)→b∈ob v∨w.heap.size≤b:=λb hb'=>by simp[ob] at hb';omega
  rcases hown.2 with ⟨rfl,rfl⟩ | ⟨g,cap,cur,rfl,hbg,hgg,hnc,hcm,hcs,htake⟩
  ·have hx:cs=[]:=List.eq_nil_of_length_eq_zero (by simpa using hown.1)
   subst hx
   by_cases hm:m=0
   ·subst hm
    have hn:news=[]:=List.eq_nil_of_length_eq_zero (by simpa using hl)
    subst hn
    refine ⟨nS,w,?_,QP _ _ _ _,Step.refl _ _,λb hb'=>by simp[ob] at hb',QP _ _ _ _⟩
    simp[Builtin.append_,run_underlying h.u,sizeOf,typeInfo,hi,Builtin.lenOf,Builtin.firstCells,loadCells,loadCellsFrom]
   ·have hr:=run_append_nil (P:=P) w t ty e i z h.u hi hz a m c news (by rw[hsz];exact hl) hnews (by omega) (by omega) (by rw[hbys];have hb2:=hbytes;simp only[Nat.zero_add] at hb2;omega)
    have hn:=new 0 (by omega) _ rfl
    simp only[Nat.zero_add,List.nil_append,Array.empty_append] at hn ⊢
    exact ⟨_,_,hr,hn,stp _,λb hb'=>fin b hb',QP _ _ _ _⟩
  ·have hroom:cap<n+m:=by
    rcases Nat.lt_or_ge cap (n+m) with hlt | hge
    ·exact hlt
    ·exact absurd ⟨g,cap,cur,rfl,hgg,hge⟩ hg
   have holds:∀j u,cs[j]?=some u→w.cell? ((⟨g,0,none⟩:Addr).add j)=some u:=hown.cells (g:=g) rfl
   have hr:=run_append_grow (P:=P) w t ty e i z h.u hi hz ⟨g,0,none⟩ n cap cs (by rw[hsz];exact hown.1) holds a m c news (by rw[hsz];exact hl) hnews hroom (by omega) (growslice_fits hroom (by rw[hbys];exact hbytes))
   exact ⟨_,_,hr,new cap hroom _ rfl,stp _,λb hb'=>fin b hb',Qs hown (stp0 _)⟩
theorem Qel {t e sz bys:Nat}{z:Value}[h:Sl P t e sz bys z] {s y:Operand}{base:Nat}{v:Value}{n:Nat}{cs:LV}(hown:w.ownsRow base e sz v n cs) (hs:ev f s=v)
  {a:Addr} {m c:Nat} {news:LV} (hy:ev f y=.slice (some a) m c) (hl:news.length=m*sz) {L:LN} (hsrc:At L w.heap a news) (h1:∀u∈news,u.oneCell'=true)
  (hb:n+m≤1099511627776) (hbase:base≤w.heap.size)
  (hK:∀v' w',w'.ownsRow base e sz v' (n+m) (cs++news)→Step (ob v) w w'→(∀b∈ob v',b∈ob v∨w.heap.size≤b)→w'.ownsRow base e sz v n cs→K (QY f d v') w') (hby:bys≤128:=by decide) :
  XO P ⟨d,.call ⟨.builtin .append,#[s,y],#[t,t]⟩,ty,ps,af,gd⟩ f w K:=by
 obtain ⟨v',w',hr,h2,h3,h4,h5⟩:=VV (P:=P) (t:=t) (ty:=ty) hown hl hsrc.cells h1 hb hby hbase (c:=c)
 have hr':(execOp (ev f) ⟨d,.call ⟨.builtin .append,#[s,y],#[t,t]⟩,ty,ps,af,gd⟩).run P w=.ok (.value v') w':=by
  simp[execOp,resolve,invoke,builtin,hs,hy,hr]
 exact xv hr' (hK v' w' h2 h3 h4 h5)
end
section
variable {P:Program} {ops:List Oper} {K:Fr→World→Prop} {f:Fr} {w:World} {d:Option Nat} {ty:Nat} {ps:String} {af:Array Edge} {gd:Option (Nat×Bool)} {C:World→Prop} {pl:List (Nat×Bool)} {i0:Nat}
theorem Qla {α:Type}{g:α→LV}{x y:Operand}{t e sz bys:Nat}{z:Value}[Sl P t e sz bys z] (ho:Q6 ops i0=⟨d,.indexAddr t x y,ty,ps,af,gd⟩) (hg':∀x,(g x).length=sz) {L:LN}{es:List α}{v:Value}{w0:World}{k:IntKind}{i:Nat}
  (h:∀w',C w'→Zj L w'.heap v es.length sz (es.flatMap g)) (h0:C w0) (hv:ev f x=v) (hy:ev f y=.int k i) (hi:i<es.length)
  (hK:∀a,(∀w',C w'→At L w'.heap a (g es[i]))→XP P ops C K pl (QY f d (.pointer (some a))) w) (hg:Yd ops f (Q6 ops i0)=true:=by rfl) :
  XP P ops C K ((i0,true)::pl) f w:=by
 obtain ⟨a,cap,h1,_⟩:=Zj.at (h w0 h0) hi
 refine Lg.p (λw'=>by rw[ho];exact Y8 (hv.trans h1) hy (by omega) (by omega)) ?_ hg
 rw[ho]
 refine hK _ λw' hc=>?_
 obtain ⟨a',cap',h1',h2⟩:=Zj.at (h w' hc) hi
 rw[h1'] at h1
 cases h1
 rw[XH g sz hg' es i hi] at h2
 simpa using h2
end
end Go.Lg
namespace Go.Proofs.YtdffckgdcegpaaaGreatDoor
open Go.Proofs.Tryz
open Go.Lg
theorem QkH (b:Bool):b=true∨b=false:=by cases b;exact .inr rfl;exact .inl rfl
structure FV where
 v:Value
 f:Fw
abbrev ZB (p:FV):LV:=[p.v,.int .i64 p.f.s]
theorem z1 (p:FV):(ZB p).length=2:=rfl
structure WdM (wB:World) (vL:Value) (es:List FV) (w:World):Prop where
 st:Step [] wB w
 l:w.ownsRow wB.heap.size 384 2 vL es.length (es.flatMap ZB)
 each:∀p∈es,QL (ob vL) w.heap p.v p.f.u
theorem WdM.ext {wB w w':World}{vL:Value}{es:List FV}(h:WdM wB vL es w) (hs:Step [] w w'):WdM wB vL es w':=⟨h.st.trans hs,Qs h.l hs,λp hp=>(h.each p hp).ext hs⟩
theorem WdM.add {wB w w':World}{vL vL':Value}{es:List FV}{p:FV}(h:WdM wB vL es w) (hs:Step (ob vL) w w') (hl:w'.ownsRow wB.heap.size 384 2 vL' (es.length+1) (es.flatMap ZB++ZB p)) (hn:∀b∈ob vL',b∈ob vL∨w.heap.size≤b) (hp:QL (ob vL) w.heap p.v p.f.u):WdM wB vL' (es++[p]) w':=by
 refine ⟨h.st.then hs (λb hb=>.inr (Qk h.l b hb).1),by rw[List.length_append,List.flatMap_append];simpa using hl,λq hq=>?_⟩
 rcases List.mem_append.1 hq with hq | hq
 ·exact (h.each q hq).grow hs (λb hb=>hb) hn
 ·simp only[List.mem_singleton] at hq;subst hq;exact hp.grow hs (λb hb=>hb) hn
theorem Qe7 {es:List FV}{i:Nat}(h:i<es.length):(es.map (·.f)).getD i VL=(es[i]'h).f:=by simp[List.getD,h]
theorem QgR {a:QV}(ho:Zs a) (s:Int):(ZJ a.ed s).length≤32:=by
 have hp:(ZJ a.ed s).Pairwise λx y:Ed=>x.1<y.1∨(x.1=y.1∧x.2.1<y.2.1):=List.Pairwise.sublist List.filter_sublist ho.edi
 have hi:Yi ((ZJ a.ed s).map λe=>e.2.1):=by
  unfold Yi
  rw[List.pairwise_map]
  refine List.Pairwise.imp_of_mem (λ{x y} hx hy hxy=>?_) hp
  have e1:=(ZL hx).2
  have e2:=(ZL hy).2
  omega
 have:=Xm _ 0 32 hi (λv hv=>by
  obtain ⟨e,he,rfl⟩:=List.mem_map.1 hv
  exact ho.al _ (ho.ed e (ZL he).1).2.2.1)
 rw[List.length_map] at this
 omega
def Qdm (a:QV) (most:Nat) (mk:Bool):Option (List (LI)):=if a.st=0 then some [] else (wds a most).map λL=>(L.filter λf=>!mk || decide (f.s∈a.mr)).map (·.u)
def QkM (o:Option (List (LI))) (r:Value) (H:Array Obj):Prop:=(o=none∧r=.tuple #[Zb,.int .i64 3])∨∃l v ps,o=some l∧r=.tuple #[v,.int .i64 0]∧Xv [] H v ps∧ps.map (·.2)=l
set_option maxHeartbeats 16000000 in
theorem Qc5 {w:World}{va vm ve:Value}{a:QV}(h:Zt [] w.heap va vm ve a) (hck:Jh a=0) (ho:Zs a) (most:Nat) (hmo:most≤4096) (mk:Bool) :
  QJ prog 249 [.agg #[va,.int .i64 a.st,vm,ve],.int .i64 most,.bool mk] w λr w'=>Step [] w w'∧QkM (Qdm a most mk) r w'.heap:=by
 have hst0:=ho.st0
 have hst1:=ho.st1
 refine QJ.of_W func249 rfl ntmps249 results249 (by simp) ?_
 refine Qc<|xl rfl<|QQ (us:=[va,.int .i64 a.st,vm,ve]) rfl λb3 w1 hs1 hb3 hB3=>x Qh<|Qe<|Qf<|Qc<|x (Qq hB3 rfl rfl)<|xl rfl<|xf<|(Xo (h.ext hs1)).mono ?_
 rintro r2 w2 ⟨hr2,hs2⟩
 rw[hck] at hr2
 subst hr2
 have hs12:=hs1.trans hs2
 refine Qe<|Qc<|Qb<|x (Q8 rfl rfl)<|xe ?_
 refine Zy rfl ?_
 refine Qi<|Qf<|Qc<|Qb<|xb (QB rfl rfl) (λh22=>absurd (show (most:Int)<0 from h22) (by omega)) (λh22=>?_)
 refine Qb<|Qb<|x (ZO rfl rfl)<|x (Qm rfl)<|xe ?_
 refine Q4 rfl (λh26=>absurd (show (most:Int) > 4096 from h26) (by omega)) (λh26=>?_)
 refine Qi ?_
 have hB32:=hB3.ext hs2
 refine Qf<|Qc<|x (Qa rfl)<|x (Qd hB32 rfl rfl)<|x (Q7 rfl rfl)<|xe ?_
 refine Q4 rfl (λh29=>?_) (λh29=>?_)
 ·refine Qc<|x Qh<|Qe ?_
  exact Ql ⟨[Zb,.int .i64 0],⟨rfl,rfl,trivial⟩,hs12,.inr ⟨[],Zb,[],by unfold Qdm;rw[if_pos h29],rfl,⟨Zj.nil _ _ _,λp hp=>by cases hp⟩,rfl⟩⟩
 have hpos:0<a.st:=by have h30:¬a.st=0:=h29;omega
 have hW:Qdm a most mk=(wds a most).map λL=>(L.filter λf=>!mk || decide (f.s∈a.mr)).map (·.u):=by unfold Qdm;rw[if_neg (by omega)]
 refine Zd (wds a most) λR hR=>?_
 rw[hR] at hW
 refine Qi<|Qc<|x (QE trivial)<|xl rfl<|QD (us:=[ZB ⟨nS,VL⟩]) rfl rfl (by decide) (by exact (by decide:1*2≤1000000)) ⟨rfl,rfl,trivial⟩ λb31 w3 hs3 hb31 hB31=>Qe ?_
 have hl31:=hB31.lt
 have hI0:WdM w2 (.slice (some ⟨b31,0,none⟩) 1 1) [⟨nS,VL⟩] w3:=by
  refine ⟨hs3,hB31.own (n:=1) rfl (by omega) hb31,λp hp=>?_⟩
  simp only[List.mem_singleton] at hp;subst hp;exact Zj.nil _ _ _
 have hbound:∀e∈a.ed,0≤e.1∧e.1≤1099511627776:=λe he=>by have:=ho.ed e he;omega
 refine QU (α:=Value×List FV) [(6,7),(9,10),(12,12),(32,77)] (λz=>[(9,z.1)]) (λz w'=>WdM w2 z.1 z.2 w'∧R=some (z.2.map (·.f))∧z.2.length≤1024) (by rfl) ?_ ?_
 ·refine Qc<|Qe<|Qg<|QA (α:=Nat×Value×List FV) [(6,7),(9,10),(12,12),(32,77)] (λz=>[(9,z.2.1),(10,.int .i64 z.1)])
   (λz w'=>z.1≤1025∧WdM w2 z.2.1 z.2.2 w'∧WdI a most z.1 (z.2.2.map (·.f))∧wdL a most (1025 - z.1) z.1 (z.2.2.map (·.f))=R) (λz=>1025 - z.1) (by rfl) (0,.slice (some ⟨b31,0,none⟩) 1 1,[⟨nS,VL⟩]) ⟨rfl,rfl,trivial⟩
   ⟨Nat.zero_le _,hI0,Qj2 hpos most,hR⟩ ?_
  rintro ⟨i,vL,es⟩ g4 w4 ⟨hiF,hM4,hJ4,hR4⟩
  simp only[] at hiF hM4 hJ4 hR4
  have hmx:=hJ4.mx
  have hle:=hJ4.le
  rw[List.length_map] at hmx hle
  have hLr:Zj [] w4.heap vL es.length 2 (es.flatMap ZB):=QT hM4.l (by omega) (λb _=>by simp)
  refine Qf<|Qc<|Qb<|Qb<|x (Qr hLr rfl)<|x (QB rfl rfl)<|xe ?_
  refine QG rfl (λh35=>?_) (λh35=>?_)
  ·refine Qx ?_
   have h36:¬i<(es.map (·.f)).length:=by rw[List.length_map];have h37:¬(i:Int)<(es.length:Int):=h35;omega
   refine ⟨(vL,es),⟨rfl,trivial⟩,hM4,?_,hmx⟩
   rw[←hR4]
   generalize 1025 - i=f
   cases f with
   | zero=>rfl
   | succ f=>rw[wdL,if_neg h36]
  have hi:i<es.length:=by have h37:(i:Int)<(es.length:Int):=h35;omega
  rw[show 1025 - i=(1025 - (i+1))+1 by omega,wdL,if_pos (by rw[List.length_map];exact hi),Qe7 hi] at hR4
  have hWd0:=hM4.each _ (List.getElem_mem hi)
  have hrx:=hJ4.rx _ (List.mem_map_of_mem (f:=λq:FV=>q.f) (List.getElem_mem hi))
  have hst:=λhl hm=>hJ4.step ho (by rw[List.length_map];exact hi) hl hm
  rw[Qe7 hi] at hst
  refine Zd (es[i]'hi) λei hei=>?_
  rw[hei] at hR4 hWd0 hrx hst
  have hs4:=hM4.st
  have hWd:=hWd0.up (L':=[]) (λb hb=>by cases hb)
  refine Qi<|Qf<|Qg<|Qf<|Qc<|Qb<|Qb<|xig (g:=ZB) (i:=i) z1 hLr rfl rfl hi λa40 h40=>?_
  rw[hei] at h40
  refine x (Zc rfl)<|x (Qv (h40.fld 0 _ rfl) rfl)<|x (Qr hWd rfl)<|Qb<|x (Q7 rfl rfl)<|xe ?_
  refine Q4 rfl (λh45=>?_) (λh45=>?_)
  ·refine Qx ?_
   have h46:ei.f.u.length=most:=by have h47:(ei.f.u.length:Int)=(most:Int):=h45;omega
   rw[if_pos h46] at hR4
   exact ⟨(vL,es),⟨rfl,trivial⟩,hM4,hR4.symm,hmx⟩
  have h46:ei.f.u.length≠most:=by have h47:¬(ei.f.u.length:Int)=(most:Int):=h45;omega
  rw[if_neg h46] at hR4
  have hst2:=hst h46
  refine Qi ?_
  have hB34:=hB32.ext hs4
  have hA4:Zt (ob vL) w4.heap va vm ve a:=((h.ext hs12).up (L':=ob vL) (λb hb=>.inr (Qk hM4.l b hb).1)).ext hs4
  have hosl:=QgR ho ei.f.s
  have hout:=zE (va:=va) (vm:=vm) (st:=a.st) (hA4.ed.ext (Step.drew [] w4)) ho.eds hbound ei.f.s hrx.2.1 (by omega)
  refine Zd (ZJ a.ed ei.f.s) λos hos=>?_
  rw[hos] at hosl hout
  have hos2:wdR a ei.f=os.map (wdN ei.f):=by unfold wdR;rw[hos]
  rw[hos2] at hR4 hst2
  refine Qf<|Qf<|QS (Step [] w4) [(0,true),(1,true),(2,true),(3,true),(4,true),(5,true),(8,true),(6,false),(7,true)] mixed (by rfl) (by kernel_rfl) (Step.drew _ _) ?_
  refine pq (λ_ hc=>Qq (hB34.ext hc) rfl rfl)<|p (λ_=>Qo)<|p (λ_=>Qo)<|Lg.pig (g:=ZB) (i:=i) rfl z1 hLr rfl rfl hi λa49 h49=>?_
  rw[hei] at h49
  refine p (λ_=>Zc rfl)<|pq (λ_ hc=>Qv ((h49.fld 1 _ rfl).ext hc) rfl)<|p (λ_=>Qo)<|pk<|xf<|hout.mono ?_
  rintro ro w5 ⟨hs5',hro⟩
  have hs5:=(Step.drew [] w4).trans hs5'
  refine ⟨hs5,?_⟩
  refine p (λ_=>Qr hro rfl)<|pe ?_
  have hM5:=hM4.ext hs5
  refine Zd (es.map (·.f)++os.map (wdN ei.f)) λL1 hL1=>?_
  rw[hL1] at hR4 hst2
  refine Qg<|QA (α:=Nat×Value×List FV) [(9,9),(12,12),(54,74)] (λz=>[(9,z.2.1),(54,.int .i64 z.1)])
   (λz w'=>z.1≤os.length∧WdM w2 z.2.1 z.2.2 w'∧U9 (ob z.2.1) w'.heap ro os∧z.2.2.length=es.length+z.1∧(∃h:i<z.2.2.length,z.2.2[i]'h=ei)∧z.2.2.map (·.f)++(os.drop z.1).map (wdN ei.f)=L1) (λz=>os.length - z.1) (by rfl) (0,vL,es) ⟨rfl,rfl,trivial⟩
   ⟨Nat.zero_le _,hM5,hro,rfl,⟨hi,hei⟩,hL1⟩ ?_
  rintro ⟨k,vL2,fs⟩ g6 w6 ⟨hk,hM6,hro6,hfl,hfi,hr6⟩
  simp only[] at hk hM6 hro6 hfl hfi hr6
  refine Qc<|x (QB rfl rfl)<|xe ?_
  refine Qf<|QG rfl (λh55=>?_) (λh55=>?_)
  ·refine Qx ?_
   have hk2:os.length≤k:=by have h56:¬(k:Int)<(os.length:Int):=h55;omega
   rw[List.drop_of_length_le hk2,List.map_nil,List.append_nil] at hr6
   have hLr6:Zj [] w6.heap vL2 fs.length 2 (fs.flatMap ZB):=QT hM6.l (by omega) (λb _=>by simp)
   have hl1:L1.length=fs.length:=by rw[←hr6,List.length_map]
   refine Qc<|Qb<|x (Qr hLr6 rfl)<|x (ZO rfl rfl)<|xe ?_
   refine Q4 rfl (λh77=>?_) (λh77=>?_)
   ·have h78:1024<L1.length:=by have h79:(fs.length:Int) > 1024:=h77;omega
    rw[if_pos h78] at hR4
    refine Qc<|x Qh<|Qe ?_
    exact Ql ⟨[Zb,.int .i64 3],⟨rfl,rfl,trivial⟩,hs12.trans hM6.st,.inl ⟨by rw[hW,←hR4];rfl,rfl⟩⟩
   have h78:¬1024<L1.length:=by have h79:¬(fs.length:Int) > 1024:=h77;omega
   rw[if_neg h78,←hr6] at hR4
   have hJ6:=hst2 h78
   rw[←hr6] at hJ6
   refine Qi<|Qw<|Qb<|QO rfl rfl<|Qe ?_
   exact ⟨(i+1,vL2,fs),by simp only[];omega,⟨rfl,rfl,trivial⟩,by simp only[];omega,hM6,hJ6,hR4⟩
  have hklt:k<os.length:=by have h56:(k:Int)<(os.length:Int):=h55;omega
  rw[QX hklt,List.map_cons] at hr6
  refine Zd (os[k]'hklt) λd hd=>?_
  rw[hd] at hr6
  refine Qi<|Exists.elim hfi λhi6 hei6=>?_
  have hWd6:=hM6.each _ (List.getElem_mem hi6)
  rw[hei6] at hWd6
  refine QU (α:=Value×Value) [(9,9),(12,12),(56,73)] (λz=>[(9,z.1)]) (λz w'=>WdM w2 z.1 (fs++[⟨z.2,wdN ei.f d⟩]) w'∧U9 (ob z.1) w'.heap ro os) (by rfl) ?_ ?_
  ·refine Qg<|Qc<|xie (i:=k) hro6 rfl rfl hklt λa56 h56=>?_
   rw[hd] at h56
   refine x (QC h56 rfl rfl)<|xl rfl<|Qt (us:=[.int .i64 0,.int .i64 0,.int .i64 0]) rfl λb12 w7 hs7 hb12 hB12'=>xl rfl<|Qn (us:=Qy d) hB12' rfl rfl rfl rfl ⟨rfl,rfl,rfl,trivial⟩ λw8 hs8 hB12=>xe ?_
   have hs68:Step [] w6 w8:=hs7.then1 hs8 hb12
   have hM8:=hM6.ext hs68
   have hro8:=hro6.ext hs68
   have hWd8:=hWd6.ext hs68
   have hLr8:Zj [] w8.heap vL2 fs.length 2 (fs.flatMap ZB):=QT hM8.l (by omega) (λb _=>by simp)
   have hWd8':=hWd8.up (L':=[]) (λb hb=>by cases hb)
   have hc0:Step [] w8 { w8 with drawn:=w8.drawn+1 }:=Step.drew [] w8
   have hz0:=hc0.size
   have hul:=hrx.2.2.2.2
   have hCC:∀w',Step [] w8 w'→Step (ob vL2) w8 w'∧w'.ownsRow w2.heap.size 384 2 vL2 fs.length (fs.flatMap ZB):=λw' hs=>⟨hs.mono (by simp),Qs hM8.l hs⟩
   have hnb:b12∉ob vL2:=λhb=>by have:=QR hM6.l b12 hb;omega
   refine QhZ (λw'=>Step (ob vL2) w8 w'∧w'.ownsRow w2.heap.size 384 2 vL2 fs.length (fs.flatMap ZB)) (.f2 [(0,true),(1,true),(2,true),(3,true),(4,true),(5,true),(7,true),(8,true),(11,true),(12,true)] 6 9 (.pl [(9,false),(10,false),(13,true),(14,false),(15,false),(16,true)]) (.pl [(6,false),(10,false),(13,true),(14,false),(15,false),(16,true)])) mixed (by rfl) (by kernel_rfl) (hCC _ hc0) ?_
   refine u2<|p (λ_=>Qo)<|p (λ_=>Qo)<|p (λ_=>Qo)<|Qla (g:=ZB) (i:=i) (L:=[]) rfl z1 (λw' hc=>QT hc.2 (by omega) (λb _=>by simp)) (hCC _ hc0) rfl rfl hi6 λa61 h61=>?_
   rw[hei6] at h61
   refine p (λ_=>Zc rfl)<|pq (λw' hc=>Qv ((h61 w' hc).fld 0 _ rfl) rfl)<|p (λ_=>Qa rfl)<|pq (λ_ hc=>Qd (hB12.step hc.1 hnb) rfl rfl)<|p (λ_=>Qa rfl)<|pq (λ_ hc=>Qd (hB12.step hc.1 hnb) rfl rfl)<|pe ⟨?_,?_⟩
   ·refine ue<|xf<|(ZU (hWd8'.ext hc0)).mono ?_
    rintro vk w9 ⟨hs9,hok⟩
    have hc9:=hc0.trans hs9
    have hz9:=hs9.size
    have hgek:=Qk hok
    refine ⟨hCC _ hc9,?_⟩
    refine uP<|pk<|QD (us:=[[.int .i64 d.2.1]]) rfl rfl (by decide) (by simp) ⟨rfl,rfl,trivial⟩ λbl w10 hs10 hbl hBl=>?_
    have hc10:=hc9.trans hs10
    have hz10:=hs10.size
    refine ⟨hCC _ hc10,?_⟩
    refine pk<|QZ (news:=[.int .i64 d.2.1]) (L:=[]) (Qs hok hs10) rfl rfl rfl (hBl.at (by simp)) (by simp[Value.oneCell']) (by omega) (by omega) λva' w11 hoa hs11 hna=>?_
    have hc11:Step [] w8 w11:=hc10.then hs11 (λb hb=>.inr (by have:=(hgek b hb).1;omega))
    have hz11:=hs11.size
    have hoa2:=Qu.snoc (Zo hoa (show w8.heap.size≤_ by omega))
    refine ⟨hCC _ hc11,?_⟩
    have hone:=(Qu.ints (L:=[]) hoa2 (by simp;omega) (by simp)).one
    have hcel:=(Qu.ints (L:=[]) hoa2 (by simp;omega) (by simp)).cells
    refine p (λ_=>QE ⟨hcel,rfl,trivial⟩)<|pk<|QD (us:=[ZB ⟨va',wdN ei.f d⟩]) rfl rfl (by decide) (by exact (by decide:1*2≤1000000)) ⟨rfl,rfl,trivial⟩ λbm w12 hs12 hbm hBm=>?_
    have hc12:=hc11.trans hs12
    refine ⟨hCC _ hc12,?_⟩
    have hM12:=hM8.ext hc12
    have hz12:=hM12.st.size
    refine pk<|Qel (news:=ZB ⟨va',wdN ei.f d⟩) (L:=[]) (m:=1) hM12.l rfl rfl rfl (hBm.at (by simp)) (by intro u hu;simp only[List.mem_cons,List.not_mem_nil,or_false] at hu;rcases hu with rfl | rfl;exact hone;rfl) (by omega) hz12 λvz w13 hoz hs13 hnz hkz=>⟨⟨(hc12.mono (by simp)).trans' hs13,hkz⟩,p (λ_=>Qh)<|pe ?_⟩
    have hpI:QL (ob vL2) w12.heap va' (wdN ei.f d).u:=Qu.ints (Qs hoa2 hs12) (by show (ei.f.u++[d.2.1]).length≤_;rw[List.length_append,List.length_singleton];omega) (λb hb=>QR hM8.l b hb)
    exact ⟨(vz,va'),⟨rfl,trivial⟩,hM12.add hs13 hoz hnz hpI,(hro8.ext hc12).grow hs13 (λb hb=>hb) hnz⟩
   ·refine ue<|QD (us:=[[.int .i64 d.2.1]]) rfl rfl (by decide) (by simp) ⟨rfl,rfl,trivial⟩ λbl w9 hs9 hbl hBl=>?_
    have hc9:=hc0.trans hs9
    have hz9:=hs9.size
    refine ⟨hCC _ hc9,?_⟩
    refine uP<|pk<|xf<|(ZU (hWd8'.ext hc9)).mono ?_
    rintro vk w10 ⟨hs10,hok⟩
    have hc10:=hc9.trans hs10
    have hz10:=hs10.size
    have hgek:=Qk hok
    refine ⟨hCC _ hc10,?_⟩
    refine pk<|QZ (news:=[.int .i64 d.2.1]) (L:=[]) hok rfl rfl rfl ((hBl.ext hs10).at (by simp)) (by simp[Value.oneCell']) (by omega) (by omega) λva' w11 hoa hs11 hna=>?_
    have hc11:Step [] w8 w11:=hc10.then hs11 (λb hb=>.inr (by have:=(hgek b hb).1;omega))
    have hz11:=hs11.size
    have hoa2:=Qu.snoc (Zo hoa (show w8.heap.size≤_ by omega))
    refine ⟨hCC _ hc11,?_⟩
    have hone:=(Qu.ints (L:=[]) hoa2 (by simp;omega) (by simp)).one
    have hcel:=(Qu.ints (L:=[]) hoa2 (by simp;omega) (by simp)).cells
    refine p (λ_=>QE ⟨hcel,rfl,trivial⟩)<|pk<|QD (us:=[ZB ⟨va',wdN ei.f d⟩]) rfl rfl (by decide) (by exact (by decide:1*2≤1000000)) ⟨rfl,rfl,trivial⟩ λbm w12 hs12 hbm hBm=>?_
    have hc12:=hc11.trans hs12
    refine ⟨hCC _ hc12,?_⟩
    have hM12:=hM8.ext hc12
    have hz12:=hM12.st.size
    refine pk<|Qel (news:=ZB ⟨va',wdN ei.f d⟩) (L:=[]) (m:=1) hM12.l rfl rfl rfl (hBm.at (by simp)) (by intro u hu;simp only[List.mem_cons,List.not_mem_nil,or_false] at hu;rcases hu with rfl | rfl;exact hone;rfl) (by omega) hz12 λvz w13 hoz hs13 hnz hkz=>⟨⟨(hc12.mono (by simp)).trans' hs13,hkz⟩,p (λ_=>Qh)<|pe ?_⟩
    have hpI:QL (ob vL2) w12.heap va' (wdN ei.f d).u:=Qu.ints (Qs hoa2 hs12) (by show (ei.f.u++[d.2.1]).length≤_;rw[List.length_append,List.length_singleton];omega) (λb hb=>QR hM8.l b hb)
    exact ⟨(vz,va'),⟨rfl,trivial⟩,hM12.add hs13 hoz hnz hpI,(hro8.ext hc12).grow hs13 (λb hb=>hb) hnz⟩
  rintro ⟨vz,va'⟩ g14 w14 ⟨hM14,hro14⟩
  simp only[] at hM14 hro14
  refine Qw<|QO rfl rfl<|Qb<|xe ?_
  exact ⟨(k+1,vz,fs++[⟨va',wdN ei.f d⟩]),by simp only[];omega,⟨rfl,rfl,trivial⟩,hklt,hM14,hro14,by simp;omega,⟨by simp;omega,by simp only[];rw[List.getElem_append_left hi6];exact hei6⟩,by simp only[];rw[List.map_append,List.append_assoc];exact hr6⟩
 rintro ⟨vL,es⟩ g20 w20 ⟨hM20,hR20,hel⟩
 simp only[] at hM20 hR20 hel
 rw[hR20] at hW
 have hs20:=hs12.trans hM20.st
 have hLr:Zj [] w20.heap vL es.length 2 (es.flatMap ZB):=QT hM20.l (by omega) (λb _=>by simp)
 refine Qc<|Qe<|Qf<|Qc<|Qb<|x (Qr hLr rfl)<|Qb<|xe ?_
 refine Qg<|QA (α:=Nat×Value×List TV) [(13,13),(15,15),(80,100)] (λz=>[(13,z.2.1),(80,.int .i64 z.1)])
  (λz w'=>z.1≤es.length∧Step [] w20 w'∧qq 37 w20.heap.size w' z.2.1 z.2.2∧z.2.2.map (·.2)=((es.take z.1).filter λp=>!mk || decide (p.f.s∈a.mr)).map (λp=>p.f.u)∧∀p∈z.2.2,QL (ob z.2.1) w'.heap p.1 p.2) (λz=>es.length - z.1) (by rfl) (0,nS,[]) ⟨rfl,rfl,trivial⟩
  ⟨Nat.zero_le _,Step.refl _ _,QP _ _ _ _,rfl,λp hp=>by cases hp⟩ ?_
 rintro ⟨k,vT,ps⟩ g21 w21 ⟨hk,hs21,hT,hTm,hTe⟩
 simp only[] at hk hs21 hT hTm hTe
 have hpl:ps.length≤k:=by
  have h1:=congrArg List.length hTm
  rw[List.length_map,List.length_map] at h1
  rw[h1]
  refine Nat.le_trans (List.length_filter_le _ _) ?_
  rw[List.length_take];omega
 refine Qc<|x (QB rfl rfl)<|xe ?_
 refine Qf<|QG rfl (λh81=>?_) (λh81=>?_)
 ·refine Qx ?_
  have hk2:es.length≤k:=by have h82:¬(k:Int)<(es.length:Int):=h81;omega
  refine Qc<|Qb<|x Qh<|Qe<|Ql ⟨[vT,.int .i64 0],⟨rfl,rfl,trivial⟩,hs20.trans hs21,.inr ⟨_,vT,ps,hW,rfl,⟨QT hT (by omega) (λb _=>by simp),λp hp=>(hTe p hp).up (λb hb=>by cases hb)⟩,?_⟩⟩
  rw[hTm,List.take_of_length_le hk2]
  show _=((es.map (λp:FV=>p.f)).filter λf=>!mk || decide (f.s∈a.mr)).map (λx:Fw=>x.u)
  rw[List.filter_map,List.map_map];rfl
 have hklt:k<es.length:=by have h82:(k:Int)<(es.length:Int):=h81;omega
 have hEk:=hM20.each _ (List.getElem_mem hklt)
 refine Zd (es[k]'hklt) λek hek=>?_
 rw[hek] at hEk
 have hEk20:QL (ob vT) w21.heap ek.v ek.f.u:=((hEk.up (L':=[]) (λb hb=>by cases hb)).up (λb hb=>.inr (Qk hT b hb).1)).ext hs21
 refine Qi<|Qf<|Qg<|Qc<|xig (g:=ZB) (i:=k) z1 (hLr.ext hs21) rfl rfl hklt λa82 h82=>?_
 rw[hek] at h82
 refine x (QC h82 rfl rfl)<|xl rfl<|Qt (us:=[nS,.int .i64 0]) rfl λb15 w22 hs22 hb15 hB15'=>xl rfl<|Qn (us:=ZB ek) hB15' rfl rfl rfl rfl ⟨hEk20.one,rfl,trivial⟩ λw23 hs23 hB15=>xe ?_
 have hs2123:Step [] w21 w23:=hs22.then1 hs23 hb15
 have hBm:=((hB32.ext hM20.st).ext hs21).ext hs2123
 have hmr:QL [] w23.heap vm a.mr:=(((h.ext hs12).mr.ext hM20.st).ext hs21).ext hs2123
 have htk:(es.take (k+1)).filter (λp=>!mk || decide (p.f.s∈a.mr))=(es.take k).filter (λp=>!mk || decide (p.f.s∈a.mr))++(if (!mk || decide (ek.f.s∈a.mr))=true then [ek] else []):=by
  rw[List.take_succ_eq_append_getElem hklt,List.filter_append,hek,List.filter_cons,List.filter_nil]
 refine QU (α:=Bool) [(84,92)] (λz=>[(92,.bool z)]) (λz w'=>w'=w23∧z=(!mk || decide (ek.f.s∈a.mr))) (by rfl) ?_ ?_
 ·refine Or.elim (QkH mk) (λhmk=>?_) (λhmk=>?_)
  ·subst hmk
   refine Qw<|Qb<|x (Zn rfl)<|Qb<|x (Qa rfl)<|x (Qd hBm rfl rfl)<|x (Qa rfl)<|x (Qd hB15 rfl rfl)<|xl rfl<|xf<|(ZI hmr ek.f.s).mono ?_
   rintro r91 w23 ⟨rfl,rfl⟩
   refine x (Qm rfl)<|xe ?_
   exact ⟨_,⟨rfl,trivial⟩,rfl,rfl⟩
  ·subst hmk
   refine Qw<|Qb<|x (Zn rfl)<|Qb<|xs rfl<|xs rfl<|xs rfl<|xs rfl<|xs rfl<|x (Qm rfl)<|xe ?_
   exact ⟨true,⟨rfl,trivial⟩,rfl,rfl⟩
 rintro z g23 w23 ⟨rfl,hz⟩
 rw[←hz] at htk
 refine Q5 rfl (λh92=>?_) (λh92=>?_)
 rotate_left
 ·rw[if_neg (by rw[h92];decide),List.append_nil] at htk
  refine Qi<|Qw<|QO rfl rfl<|Qb<|xe ?_
  exact ⟨(k+1,vT,ps),by simp only[];omega,⟨rfl,rfl,trivial⟩,hklt,hs21.trans hs2123,Qs hT hs2123,by simp only[];rw[htk];exact hTm,λp hp=>(hTe p hp).ext hs2123⟩
 rw[if_pos h92] at htk
 have hEk23:=hEk20.ext hs2123
 have hT23:=Qs hT hs2123
 have hul:=hEk23.le
 refine Qw<|Qb<|xl rfl<|Kg λb94 w24 hs24 hb94 hB94=>x (Qa rfl)<|x (Qd (hB15.ext hs24) rfl rfl) <|
  xl rfl<|zH (base:=w23.heap.size) (hB94.own (n:=0) (sz:=1) rfl (by omega) hb94) rfl (hEk23.ext hs24) rfl (KM ek.f.u) (by omega) (by have:=hs24.size;omega) λv25 w25 ho25 hs25 hn25=>?_
 have hs2325:Step [] w23 w25:=hs24.then1 hs25 hb94
 have ho25':Qu 3 w23.heap.size w25 v25 ek.f.u:=by simpa[tup] using ho25
 have hI25:QL (ob vT) w25.heap v25 ek.f.u:=Qu.ints ho25' hul (λb hb=>QR hT23 b hb)
 refine xl rfl<|QD (us:=[[v25]]) rfl rfl (by decide) (by simp) ⟨hI25.cells,rfl,trivial⟩ λb98 w26 hs26 hb98 hB98=>?_
 have hs2326:=hs2325.trans hs26
 have hT26:=Qs hT23 hs2326
 refine xl rfl<|QZ (news:=[v25]) (L:=[]) hT26 rfl rfl rfl (hB98.at (by simp)) (λy hy=>by simp only[List.mem_singleton] at hy;subst hy;exact hI25.one) (by omega) (by have:=hs21.size;have:=hs2123.size;have:=hs2326.size;omega) λv27 w27 ho27 hs27 hn27=>Qe ?_
 have hs2127:Step [] w20 w27:=((hs21.trans hs2123).trans hs2326).then hs27 (λb hb=>.inr (Qk hT b hb).1)
 have hT27:qq 37 w20.heap.size w27 v27 (ps++[(v25,ek.f.u)]):=qq.snoc ho27
 refine Qw<|QO rfl rfl<|Qb<|xe ?_
 refine ⟨(k+1,v27,ps++[(v25,ek.f.u)]),by simp only[];omega,⟨rfl,rfl,trivial⟩,hklt,hs2127,hT27,?_,λp hp=>?_⟩
 ·simp only[]
  rw[List.map_append,hTm,htk,List.map_append];rfl
 ·rcases List.mem_append.1 hp with hp | hp
  ·exact (((hTe p hp).ext hs2123).ext hs2326).grow hs27 (λb hb=>hb) hn27
  ·simp only[List.mem_singleton] at hp
   subst hp
   exact (hI25.ext hs26).grow hs27 (λb hb=>hb) hn27
theorem KG {L L':LN}{w:World}{v v':Value}{l l':LI}(h:QL L w.heap v l) (h':QL L' w.heap v' l'):QJ prog 252 [v,v'] w λr w'=>r=.bool (decide (l=l'))∧Step [] w w':=by
 have hle:=h.le
 have hle':=h'.le
 refine QJ.of_W func252 rfl ntmps252 results252 (by simp) ?_
 refine Qc<|Qe<|Qf<|Qc<|Qb<|x (Qr h rfl)<|Qb<|x (Qr h' rfl)<|x (Q8 rfl rfl)<|xe ?_
 refine Q4 rfl (λh10=>?_) (λh10=>?_)
 ·refine Qc<|Qe<|Ql ⟨[.bool false],⟨rfl,trivial⟩,?_,Step.refl _ _⟩
  have hne:l≠l':=λe=>h10 (by rw[e])
  simp[tup,hne]
 have hll:l.length=l'.length:=by omega
 refine Qi<|Qf<|Qc<|Qe<|Qg<|QA (α:=Nat) [(4,5),(11,25)] (λk=>[(5,.int .i64 k)]) (λk w'=>Step [] w w'∧k≤l.length∧(l=l'↔l.drop k=l'.drop k)) (λk=>l.length - k) (by rfl) 0 ⟨rfl,trivial⟩ ⟨Step.refl _ _,Nat.zero_le _,by simp⟩ ?_
 rintro k g w1 ⟨hs,hk,hm⟩
 replace h:=h.ext hs
 replace h':=h'.ext hs
 refine Qf<|Qc<|Qb<|Qb<|x (Qr h rfl)<|x (QB rfl rfl)<|xe ?_
 refine QG rfl (λh14=>?_) (λh14=>?_)
 ·refine Qx ?_
  refine Qc<|Qe<|Ql ⟨[.bool true],⟨rfl,trivial⟩,?_,hs⟩
  rw[List.drop_of_length_le (by omega),List.drop_of_length_le (by omega)] at hm
  simp[tup,hm]
 have hlt:k<l.length:=by omega
 have hlt':k<l'.length:=by omega
 refine Qi<|Qf<|Qg<|Qf<|QS (Step [] w1) [(0,true),(1,true),(2,true),(3,true),(4,true),(5,true),(6,true),(7,true),(8,true)] mixed (by rfl) (by kernel_rfl) (Step.drew _ _) ?_
 refine p (λ_=>Qo)<|p (λ_=>Qo)<|pii (i:=k) rfl h rfl rfl hlt λa19 h19=>pq (λ_ hc=>Qv (h19.ext hc) rfl)<|p (λ_=>Qo)<|p (λ_=>Qo)<|pii (i:=k) rfl h' rfl rfl hlt' λa23 h23=>pq (λ_ hc=>Qv (h23.ext hc) rfl)<|p (λ_=>Q8 rfl rfl)<|pe ?_
 have hs':=hs.trans (Step.drew [] w1)
 refine Q4 rfl (λh25=>?_) (λh25=>?_)
 ·refine Qc<|Qe<|Ql ⟨[.bool false],⟨rfl,trivial⟩,?_,hs'⟩
  have hne:l≠l':=λe=>h25 (by simp[e])
  simp[tup,hne]
 refine Qi<|Qw<|Qb<|QO rfl rfl<|Qe<|⟨k+1,by omega,⟨rfl,trivial⟩,hs',by omega,?_⟩
 have he:l[k]'hlt=l'[k]'hlt':=Decidable.not_not.1 h25
 rw[hm,QX hlt,QX hlt',he]
 exact ⟨λh=>(List.cons.inj h).2,λh=>by rw[h]⟩
theorem qJ {L L':LN}{w:World}{v v':Value}{l l':LI}(h:QL L w.heap v l) (h':QL L' w.heap v' l'):QJ prog 41 [v,v'] w λr w'=>r=.bool (decide (l=l'))∧Step [] w w':=by
 have hle:=h.le
 have hle':=h'.le
 refine QJ.of_W func41 rfl ntmps41 results41 (by simp) ?_
 refine Qc<|Qe<|Qf<|Qc<|Qb<|x (Qr h rfl)<|Qb<|x (Qr h' rfl)<|x (Q8 rfl rfl)<|xe ?_
 refine Q4 rfl (λh10=>?_) (λh10=>?_)
 ·refine Qc<|Qe<|Ql ⟨[.bool false],⟨rfl,trivial⟩,?_,Step.refl _ _⟩
  have hne:l≠l':=λe=>h10 (by rw[e])
  simp[tup,hne]
 have hll:l.length=l'.length:=by omega
 refine Qi<|Qf<|Qc<|Qe<|Qg<|QA (α:=Nat) [(4,5),(11,25)] (λk=>[(5,.int .i64 k)]) (λk w'=>Step [] w w'∧k≤l.length∧(l=l'↔l.drop k=l'.drop k)) (λk=>l.length - k) (by rfl) 0 ⟨rfl,trivial⟩ ⟨Step.refl _ _,Nat.zero_le _,by simp⟩ ?_
 rintro k g w1 ⟨hs,hk,hm⟩
 replace h:=h.ext hs
 replace h':=h'.ext hs
 refine Qf<|Qc<|Qb<|Qb<|x (Qr h rfl)<|x (QB rfl rfl)<|xe ?_
 refine QG rfl (λh14=>?_) (λh14=>?_)
 ·refine Qx ?_
  refine Qc<|Qe<|Ql ⟨[.bool true],⟨rfl,trivial⟩,?_,hs⟩
  rw[List.drop_of_length_le (by omega),List.drop_of_length_le (by omega)] at hm
  simp[tup,hm]
 have hlt:k<l.length:=by omega
 have hlt':k<l'.length:=by omega
 refine Qi<|Qf<|Qg<|Qf<|QS (Step [] w1) [(0,true),(1,true),(2,true),(3,true),(4,true),(5,true),(6,true),(7,true),(8,true)] mixed (by rfl) (by kernel_rfl) (Step.drew _ _) ?_
 refine p (λ_=>Qo)<|p (λ_=>Qo)<|pii (i:=k) rfl h rfl rfl hlt λa19 h19=>pq (λ_ hc=>Qv (h19.ext hc) rfl)<|p (λ_=>Qo)<|p (λ_=>Qo)<|pii (i:=k) rfl h' rfl rfl hlt' λa23 h23=>pq (λ_ hc=>Qv (h23.ext hc) rfl)<|p (λ_=>Q8 rfl rfl)<|pe ?_
 have hs':=hs.trans (Step.drew [] w1)
 refine Q4 rfl (λh25=>?_) (λh25=>?_)
 ·refine Qc<|Qe<|Ql ⟨[.bool false],⟨rfl,trivial⟩,?_,hs'⟩
  have hne:l≠l':=λe=>h25 (by simp[e])
  simp[tup,hne]
 refine Qi<|Qw<|Qb<|QO rfl rfl<|Qe<|⟨k+1,by omega,⟨rfl,trivial⟩,hs',by omega,?_⟩
 have he:l[k]'hlt=l'[k]'hlt':=Decidable.not_not.1 h25
 rw[hm,QX hlt,QX hlt',he]
 exact ⟨λh=>(List.cons.inj h).2,λh=>by rw[h]⟩
set_option maxHeartbeats 1000000 in
theorem Qf2 {L L':LN}{w:World}{va vm ve ua um ue:Value}{a:QV}(h:Zt L w.heap va vm ve a) (h':Zt L' w.heap ua um ue a):QJ prog 251 [.agg #[va,.int .i64 a.st,vm,ve],.agg #[ua,.int .i64 a.st,um,ue]] w λr w'=>r=.bool true∧Step [] w w':=by
 have hle:=h.ed.le
 refine QJ.of_W func251 rfl ntmps251 results251 (by simp) ?_
 refine Qc<|xl rfl<|QQ (us:=[va,.int .i64 a.st,vm,ve]) rfl λb2 w1 hs1 hb2 hB2=>xl rfl<|QQ (us:=[ua,.int .i64 a.st,um,ue]) rfl λb3 w2 hs2 hb3 hB3=>Qe ?_
 have hs02:=hs1.trans hs2
 have hB22:=hB2.ext hs2
 have h2:=h.ext hs02
 have h2':=h'.ext hs02
 refine Qf<|QU (α:=Unit) [(6,35)] (λ_=>[(35,.bool false)]) (λ_ w'=>Step [] w2 w') (by rfl) ?_ ?_
 ·refine Qw<|x (Qa rfl)<|x (Qd hB22 rfl rfl)<|x (Qa rfl)<|x (Qd hB3 rfl rfl)<|xl rfl<|xf<|(KG h2.al h2'.al).mono ?_
  rintro r3 w3 ⟨hr3,hs3⟩
  rw[decide_eq_true rfl] at hr3
  subst hr3
  refine x (Zn rfl)<|Qb<|x (Qa rfl)<|x (Qd (hB22.ext hs3) rfl rfl)<|x (Qa rfl)<|x (Qd (hB3.ext hs3) rfl rfl)<|xb (Q8 rfl rfl) (λh17=>absurd rfl h17) (λh17=>?_)
  refine x (Qm rfl)<|Qb<|x (Qa rfl)<|x (Qd (hB22.ext hs3) rfl rfl)<|x (Qa rfl)<|x (Qd (hB3.ext hs3) rfl rfl)<|xl rfl<|xf<|(KG (h2.mr.ext hs3) (h2'.mr.ext hs3)).mono ?_
  rintro r4 w4 ⟨hr4,hs4⟩
  rw[decide_eq_true rfl] at hr4
  subst hr4
  have hs24:=hs3.trans hs4
  refine x (Zn rfl)<|x (Qm rfl)<|Qb<|x (Qa rfl)<|x (Qd (hB22.ext hs24) rfl rfl)<|x (Qr (h2.ed.ext hs24) rfl)<|x (Qa rfl)<|x (Qd (hB3.ext hs24) rfl rfl)<|x (Qr (h2'.ed.ext hs24) rfl)<|xb (Q8 rfl rfl) (λh34=>absurd rfl h34) (λh34=>?_)
  refine x (Qm rfl)<|xe ?_
  exact ⟨(),⟨rfl,trivial⟩,hs24⟩
 rintro ⟨⟩ g w3 hs3
 have hs03:=hs02.trans hs3
 have hB23:=hB22.ext hs3
 have hB33:=hB3.ext hs3
 have h3:=h.ext hs03
 have h3':=h'.ext hs03
 refine Zy rfl ?_
 refine Qi<|Qf<|Qc<|Qe<|Qg<|QA (α:=Nat) [(4,5),(36,53)] (λk=>[(5,.int .i64 k)]) (λk w'=>Step [] w3 w'∧k≤a.ed.length) (λk=>a.ed.length - k) (by rfl) 0 ⟨rfl,trivial⟩ ⟨Step.refl _ _,Nat.zero_le _⟩ ?_
 rintro k g w4 ⟨hs4,hk⟩
 have h4:=h3.ed.ext hs4
 have h4':=h3'.ed.ext hs4
 have hB24:=hB23.ext hs4
 have hB34:=hB33.ext hs4
 refine Qf<|Qc<|Qb<|x (Qa rfl)<|x (Qd hB24 rfl rfl)<|x (Qr h4 rfl)<|x (QB rfl rfl)<|xe ?_
 refine QG rfl (λh40=>?_) (λh40=>?_)
 ·refine Qx ?_
  refine Qc<|Qe ?_
  exact Ql ⟨[.bool true],⟨rfl,trivial⟩,rfl,hs03.trans hs4⟩
 have hlt:k<a.ed.length:=by omega
 refine Qi<|Qf<|Qg<|Qf<|QS (Step [] w4) [(0,true),(1,true),(2,true),(3,true),(4,true),(5,true),(6,true),(7,true),(8,true),(9,true),(10,true)] mixed (by rfl) (by kernel_rfl) (Step.drew _ _) ?_
 refine p (λ_=>Qa rfl)<|pq (λ_ hc=>Qd (hB24.ext hc) rfl rfl)<|p (λ_=>Qo)<|pie (i:=k) rfl h4 rfl rfl hlt λa46 h46=>pq (λ_ hc=>QC (h46.ext hc) rfl rfl)<|p (λ_=>Qa rfl)<|pq (λ_ hc=>Qd (hB34.ext hc) rfl rfl)<|p (λ_=>Qo) <|
  pie (i:=k) rfl h4' rfl rfl hlt λa51 h51=>pq (λ_ hc=>QC (h51.ext hc) rfl rfl)<|p (λ_=>KJ rfl rfl)<|pe ?_
 refine Q4 rfl (λh53=>absurd rfl h53) (λh53=>?_)
 refine Qi<|Qw<|Qb<|QO rfl rfl<|Qe ?_
 exact ⟨k+1,by omega,⟨rfl,trivial⟩,hs4.trans (Step.drew _ _),hlt⟩
end Go.Proofs.YtdffckgdcegpaaaGreatDoor
namespace Go.Lg
theorem zy {P:Program}{f:Fr}{w:World}{d:Option Nat}{ty:Nat}{ps:String}{af:Array Edge}{gd:Option (Nat×Bool)}{t t':Nat}[h:S3 P t] {x y:Operand}{p q:Ed}(hx:ev f x=.agg (Qy p).toArray) (hy:ev f y=.agg (Qy q).toArray) :
  (execOp (ev f) ⟨d,.binOp .eql t x y t',ty,ps,af,gd⟩).run P w=.ok (.value (.bool (decide (p=q)))) w:=by
 have hg:(eqGuard .eql t x y (.agg (Qy p).toArray) (.agg (Qy q).toArray)).run P w=.ok () w:=by simp[eqGuard,h.g]
 simp only[execOp,hx,hy,Sem.run_bind,hg,Result.andThen_ok,binOp,KH,Sem.run_pure]
end Go.Lg
namespace Go.Proofs.YtdffckgdcegpaaaGreatDoor
open Go.Proofs.Tryz
open Go.Lg
def ex3:QV:=⟨[0,2],3,[2],[(0,0,2),(0,2,0),(2,2,0)]⟩
def cn3:QV:=⟨[0,2],2,[1],[(0,0,1),(0,2,0),(1,2,0)]⟩
def se3:List Ed:=[(0,1,0),(0,3,1),(1,1,0)]
theorem Qfq:Jh ex3=0:=by kernel_rfl
theorem Qhy:Ju ex3=cn3:=by kernel_rfl
theorem ye:Jh cn3=0:=by kernel_rfl
theorem QhN:QgH cn3 0 [0,0]=0:=by kernel_rfl
theorem QhO:flw cn3 0 [0,0]=(1,1):=by kernel_rfl
theorem QhM:Qdm cn3 2 true=some [[0],[2,0]]:=by kernel_rfl
theorem QiM:Jh ⟨[1,3],2,[1],se3⟩=0:=by kernel_rfl
theorem QiL:(Ju ⟨[1,3],2,[1],se3⟩).ed=se3:=by kernel_rfl
theorem Qjx:rlE cn3 [3,1]=[(0,3,1),(0,1,0),(1,1,0)]:=by kernel_rfl
theorem Qk2:([3,1]:LI).mergeSort (λx y=>decide (x≤y))=[1,3]:=by
 refine List.Perm.eq_of_pairwise (le:=λx y:Int=>x≤y) (λa b _ _ h1 h2=>by omega) ?_ (by decide) ((List.mergeSort_perm _ _).trans (List.Perm.swap _ _ _))
 refine (List.pairwise_mergeSort (le:=λx y:Int=>decide (x≤y)) (λa b c h1 h2=>by simp at *;omega) (λa b=>by simp;omega) [3,1]).imp λh=>by simpa using h
theorem QiF (l':List Ed) (hp:l'.Perm (rlE cn3 [3,1])) (hw:l'.Pairwise jq):l'=se3:=by
 rw[Qjx] at hp
 refine List.Perm.eq_of_pairwise (le:=jq) (λa b ha hb h1 h2=>?_) hw (by unfold se3 jq;decide) (hp.trans (List.Perm.swap _ _ _))
 have ha2:=hp.mem_iff.1 ha
 simp only[List.mem_cons,List.not_mem_nil,or_false] at ha2
 simp only[se3,List.mem_cons,List.not_mem_nil,or_false] at hb
 unfold jq at h1 h2
 rcases ha2 with rfl | rfl | rfl <;> rcases hb with rfl | rfl | rfl <;> first | rfl | (exfalso;simp only[] at h1 h2;omega)
set_option maxHeartbeats 1000000 in
theorem jj (w:World):QJ prog 247 [] w λr w'=>Step [] w w'∧Xr w.heap.size w'.heap r ex3:=by
 refine QJ.of_W func247 rfl ntmps247 results247 (by simp) ?_
 refine Qc<|xl rfl<|Qt (us:=VX) rfl λb0 w1 hs1 hb0 hB0=>xe ?_
 have hl0:=hB0.lt
 refine Qc<|xl rfl<|QD (us:=[[.int .i64 0],[.int .i64 2]]) rfl rfl (by decide) (by simp) ⟨rfl,rfl,rfl,rfl,trivial⟩ λb1 w2 hs2 hb1 hB1=>xl rfl<|QD (us:=[[.int .i64 2]]) rfl rfl (by decide) (by simp) ⟨rfl,rfl,trivial⟩ λb2 w3 hs3 hb2 hB2 =>
  x (QE ⟨rfl,rfl,rfl,trivial⟩)<|x (QE ⟨rfl,rfl,rfl,trivial⟩)<|x (QE ⟨rfl,rfl,rfl,trivial⟩)<|xl rfl<|QD (us:=[Qy (0,0,2),Qy (0,2,0),Qy (2,2,0)]) rfl rfl (by decide) (by exact (by decide:3*3≤1000000)) ⟨rfl,rfl,rfl,rfl,rfl,rfl,trivial⟩ λb6 w4 hs4 hb6 hB6=>?_
 have hs14:=(hs2.trans hs3).trans hs4
 have hz1:=hs1.size
 have hz2:=hs2.size
 have hz3:=hs3.size
 have hz4:=hs4.size
 have hF:Xr w1.heap.size w4.heap (.agg #[.slice (some ⟨b1,0,none⟩) 2 2,.int .i64 3,.slice (some ⟨b2,0,none⟩) 1 1,.slice (some ⟨b6,0,none⟩) 3 3]) ex3 :=
  zh (a:=ex3) ((hB1.ext hs3).ext hs4) (hB2.ext hs4) hB6 (by omega) (by omega) (by omega) rfl rfl rfl (by decide) (by decide) (by decide)
 refine x (QE ⟨rfl,rfl,rfl,rfl,trivial⟩)<|xl rfl<|Qn (us:=[.slice (some ⟨b1,0,none⟩) 2 2,.int .i64 3,.slice (some ⟨b2,0,none⟩) 1 1,.slice (some ⟨b6,0,none⟩) 3 3]) (hB0.ext hs14) rfl rfl rfl rfl ⟨rfl,rfl,rfl,rfl,trivial⟩ λw5 hs5 hB05=>xe ?_
 refine Ql ⟨[.agg [.slice (some ⟨b1,0,none⟩) 2 2,.int .i64 3,.slice (some ⟨b2,0,none⟩) 1 1,.slice (some ⟨b6,0,none⟩) 3 3].toArray],⟨⟨_,rfl,Qz rfl (hB05.at (L:=[]) (by simp)).cells⟩,trivial⟩,(hs1.trans hs14).then1 hs5 hb0,?_⟩
 exact (Ja hF hl0 hs5).mono hz1
set_option maxHeartbeats 4000000 in
theorem QcH (w:World):QJ prog 199 [] w λr w'=>r=.bool true∧Step [] w w':=by
 refine QJ.of_W func199 rfl ntmps199 results199 (by simp) ?_
 refine Qc<|Qe<|Qc<|xl rfl<|xf<|(jj w).mono ?_
 rintro r1 w1 ⟨hs1,va,vm,ve,rfl,hA1⟩
 refine xl rfl<|xf<|(yk (hA1 [] (by simp))).mono ?_
 rintro r2 w2 ⟨hs2,v2,rfl,_,hg2⟩
 have hF2:=hg2 Qfq
 rw[Qhy] at hF2
 obtain ⟨ca,cm,ce,rfl,hC2⟩:=hF2
 have hC:=hC2 [] (by simp)
 refine Qb<|x (Qp rfl rfl)<|x (Qp rfl rfl)<|xl rfl<|Qt (us:=VX) rfl λb1 w3 hs3 hb1 hB1=>xl rfl<|Qn (us:=[ca,.int .i64 2,cm,ce]) hB1 rfl rfl rfl rfl ⟨hC.al.one,rfl,hC.mr.one,hC.ed.one,trivial⟩ λw4 hs4 hB14=>Qe ?_
 have hs24:Step [] w2 w4:=hs3.then1 hs4 hb1
 have hC4:=hC.ext hs24
 have hs04:=(hs1.trans hs2).trans hs24
 refine Qc<|x (Qq hB14 rfl rfl)<|xl rfl<|QD (us:=[[.int .i64 0],[.int .i64 0]]) rfl rfl (by decide) (by simp) ⟨rfl,rfl,rfl,rfl,trivial⟩ λb17 w5 hs5 hb17 hB17=>xl rfl<|xf<|(QjN (u:=[0,0]) (hC4.ext hs5) (hB17.arr (L:=[]) (by simp) (n:=2) (cap:=2) (sz:=1) rfl (by omega) (Nat.le_refl _)) 0).mono ?_
 rintro r6 w6 ⟨hs6,hr6⟩
 rw[if_neg (by rw[QhN];decide),QhO] at hr6
 subst hr6
 refine Qb<|x (Qp rfl rfl)<|x (Qp rfl rfl)<|x (Qp rfl rfl)<|x Qh<|x Qh<|Qe ?_
 have hs46:=hs5.trans hs6
 refine Qc<|x (Qq (hB14.ext hs46) rfl rfl)<|xl rfl<|xf<|(Qc5 (hC4.ext hs46) ye ((ZE _).1 ye) 2 (by decide) true).mono ?_
 rintro r7 w7 ⟨hs7,hr7⟩
 rw[QhM] at hr7
 have hr7':∃v7 p0 p1,r7=.tuple #[v7,.int .i64 0]∧Xv [] w7.heap v7 [p0,p1]∧p0.2=[0]∧p1.2=[2,0]:=by
  rcases hr7 with ⟨h,_⟩ | ⟨l,v7,ps,hl,h2,h3,h4⟩
  ·cases h
  ·cases hl
   match ps,h3,h4 with
   | [p0,p1],h3,h4 =>
    simp only[List.map_cons,List.map_nil,List.cons.injEq,and_true] at h4
    exact ⟨v7,p0,p1,h2,h3,h4.1,h4.2⟩
   | [],_,h4=>simp at h4
   | [_],_,h4=>simp at h4
   | _::_::_::_,_,h4=>simp at h4
 obtain ⟨v7,p0,p1,rfl,hT7,hp0,hp1⟩:=hr7'
 refine Qb<|x (Qp rfl rfl)<|x (Qp rfl rfl)<|x Qh<|Qe ?_
 have hs47:=hs46.trans hs7
 refine Qc<|x (Qq (hB14.ext hs47) rfl rfl)<|xl rfl<|QD (us:=[[.int .i64 3],[.int .i64 1]]) rfl rfl (by decide) (by simp) ⟨rfl,rfl,rfl,rfl,trivial⟩ λb29 w8 hs8 hb29 hB29 =>
  xl rfl<|xf<|(QaU (to:=[3,1]) ((hC4.ext hs47).ext hs8) ye ((ZE _).1 ye) (hB29.arr (L:=[]) (by simp) (n:=2) (cap:=2) (sz:=1) rfl (by omega) (Nat.le_refl _)) rfl (by decide) (by decide) Qk2 QiF ((ZE _).1 QiM)).mono ?_
 rintro r9 w9 ⟨hs9,v9,rfl,hF9⟩
 obtain ⟨ra,rm,re,rfl,hR9⟩:=hF9
 have hR:=hR9 [] (by simp)
 have hRe:U9 [] w9.heap re se3:=by
  have h:=hR.ed
  rw[show (Ju ⟨[1,3],cn3.st,cn3.mr,se3⟩).ed=se3 from QiL] at h
  exact h
 refine Qb<|x (Qp rfl rfl)<|x (Qp rfl rfl)<|xl rfl<|Qt (us:=VX) rfl λb8 w10 hs10 hb8 hB8=>xl rfl<|Qn (us:=[ra,.int .i64 (Ju ⟨[1,3],cn3.st,cn3.mr,se3⟩).st,rm,re]) hB8 rfl rfl rfl rfl ⟨hR.al.one,rfl,hR.mr.one,hR.ed.one,trivial⟩ λw11 hs11 hB811=>Qe ?_
 have hs911:Step [] w9 w11:=hs10.then1 hs11 hb8
 have hs711:=(hs8.trans hs9).trans hs911
 have hs411:=hs47.trans hs711
 have hC11:=hC4.ext hs411
 have hB111:=hB14.ext hs411
 have hT11:=hT7.ext hs711
 have hRe11:=hRe.ext hs911
 refine QU (α:=Unit) [(0,0),(33,98)] (λz=>[(0,.bool true)]) (λz w'=>Step [] w11 w') (by rfl) ?_ ?_
 ·refine Qw<|Qb<|xb (Q7 rfl rfl) (λh34=>?_) (λh34=>absurd Qfq h34)
  refine Qb<|x (Qq hB111 rfl rfl)<|xl rfl<|QD (us:=[[.int .i64 0],[.int .i64 2]]) rfl rfl (by decide) (by simp) ⟨rfl,rfl,rfl,rfl,trivial⟩ λb37 w12 hs12 hb37 hB37=>xl rfl<|QD (us:=[[.int .i64 1]]) rfl rfl (by decide) (by simp) ⟨rfl,rfl,trivial⟩ λb38 w13 hs13 hb38 hB38 =>
   x (QE ⟨rfl,rfl,rfl,trivial⟩)<|x (QE ⟨rfl,rfl,rfl,trivial⟩)<|x (QE ⟨rfl,rfl,rfl,trivial⟩)<|xl rfl<|QD (us:=[Qy (0,0,1),Qy (0,2,0),Qy (1,2,0)]) rfl rfl (by decide) (by exact (by decide:3*3≤1000000)) ⟨rfl,rfl,rfl,rfl,rfl,rfl,trivial⟩ λb42 w14 hs14 hb42 hB42=>?_
  have hs1114:=(hs12.trans hs13).trans hs14
  have hL:Zt [] w14.heap (.slice (some ⟨b37,0,none⟩) 2 2) (.slice (some ⟨b38,0,none⟩) 1 1) (.slice (some ⟨b42,0,none⟩) 3 3) cn3 :=
   ⟨((hB37.ext hs13).ext hs14).arr (L:=[]) (by simp) (n:=2) (cap:=2) (sz:=1) rfl (by omega) (Nat.le_refl _),(hB38.ext hs14).arr (L:=[]) (by simp) (n:=1) (cap:=1) (sz:=1) rfl (by omega) (Nat.le_refl _),hB42.arr (L:=[]) (by simp) (n:=3) (cap:=3) (sz:=3) rfl (by omega) (Nat.le_refl _)⟩
  refine x (QE ⟨rfl,rfl,rfl,rfl,trivial⟩)<|xl rfl<|xf<|(Qf2 (a:=cn3) (hC11.ext hs1114) hL).mono ?_
  rintro r15 w15 ⟨rfl,hs15⟩
  have hs1115:=hs1114.trans hs15
  have hT15:=hT11.ext hs1115
  refine x (Qm rfl)<|Qb<|Qb<|xb (Q7 rfl rfl) (λh48=>?_) (λh48=>absurd rfl h48)
  refine x (Qm rfl)<|Qb<|Qb<|xb (Q7 rfl rfl) (λh52=>?_) (λh52=>absurd rfl h52)
  refine x (Qm rfl)<|Qb<|Qb<|xb (Q7 rfl rfl) (λh56=>?_) (λh56=>absurd rfl h56)
  refine x (Qm rfl)<|Qb<|Qb<|xb (Q7 rfl rfl) (λh60=>?_) (λh60=>absurd rfl h60)
  refine x (Qm rfl)<|Qb<|Qb<|x (Qr hT15.arr rfl)<|xb (Q7 rfl rfl) (λh65=>?_) (λh65=>absurd rfl h65)
  refine x (Qm rfl)<|Qb<|Qb<|xig (g:=Z7) (i:=0) Kd hT15.arr rfl rfl (by simp) λa69 h69=>x (Qv h69 rfl)<|xl rfl<|QD (us:=[[.int .i64 0]]) rfl rfl (by decide) (by simp) ⟨rfl,rfl,trivial⟩ λb71 w16 hs16 hb71 hB71 =>
   xl rfl<|xf<|(KG (l:=p0.2) (l':=[0]) ((hT15.each p0 (by simp)).ext hs16) (hB71.arr (L:=[]) (by simp) (n:=1) (cap:=1) (sz:=1) rfl (by omega) (Nat.le_refl _))).mono ?_
  rintro r17 w17 ⟨hr17,hs17⟩
  rw[hp0,decide_eq_true rfl] at hr17
  subst hr17
  have hs1517:=hs16.trans hs17
  have hT17:=hT15.ext hs1517
  refine x (Qm rfl)<|Qb<|Qb<|xig (g:=Z7) (i:=1) Kd hT17.arr rfl rfl (by simp) λa76 h76=>x (Qv h76 rfl)<|xl rfl<|QD (us:=[[.int .i64 2],[.int .i64 0]]) rfl rfl (by decide) (by simp) ⟨rfl,rfl,rfl,rfl,trivial⟩ λb78 w18 hs18 hb78 hB78 =>
   xl rfl<|xf<|(KG (l:=p1.2) (l':=[2,0]) ((hT17.each p1 (by simp)).ext hs18) (hB78.arr (L:=[]) (by simp) (n:=2) (cap:=2) (sz:=1) rfl (by omega) (Nat.le_refl _))).mono ?_
  rintro r19 w19 ⟨hr19,hs19⟩
  rw[hp1,decide_eq_true rfl] at hr19
  subst hr19
  have hs1119:=(hs1115.trans hs1517).trans (hs18.trans hs19)
  have hB819:=hB811.ext hs1119
  have hRe19:=hRe11.ext hs1119
  refine x (Qm rfl)<|Qb<|Qb<|xb (Q7 rfl rfl) (λh83=>?_) (λh83=>absurd rfl h83)
  refine x (Qm rfl)<|Qb<|x (Qa rfl)<|x (Qd hB819 rfl rfl)<|x (Qr hRe19 rfl)<|xb (Q7 rfl rfl) (λh89=>?_) (λh89=>absurd rfl h89)
  refine x (Qm rfl)<|Qb<|x (Qa rfl)<|x (Qd hB819 rfl rfl)<|xie (i:=1) hRe19 rfl rfl (by decide) λa94 h94=>x (QC h94 rfl rfl)<|x (QE ⟨rfl,rfl,rfl,trivial⟩)<|xb (zy (p:=(0,3,1)) (q:=(0,3,1)) rfl rfl) (λh97=>?_) (λh97=>absurd rfl h97)
  refine x (Qm rfl)<|Qe ?_
  exact ⟨(),⟨rfl,trivial⟩,hs1119⟩
 rintro z g w20 hs20
 exact Ql ⟨[.bool true],⟨rfl,trivial⟩,rfl,(hs04.trans hs411).trans hs20⟩
theorem Qdb (w:World):QJ prog 128 [] w λr w'=>r=.bool true∧Step [] w w':=by
 refine QJ.of_W func128 rfl ntmps128 results128 (by simp) ?_
 refine Qc<|Qe<|Qc<|xl rfl<|xf<|(QcH w).mono ?_
 rintro r1 w1 ⟨rfl,hs1⟩
 refine Qe ?_
 exact Ql ⟨[.bool true],⟨rfl,trivial⟩,rfl,hs1⟩
theorem CL.cel_rq {c:CL} {k:Zv} (h:c.cel=k) (v:Value) (qs:List IV):(CL.mk c.ve c.vc v c.vx c.vk c.ev c.co qs c.ex c.cs).cel={ k with rq:=qs.map IV.it }:=by rw[←h];rfl
theorem CL.cel_ex {c:CL} {k:Zv} (h:c.cel=k) (v:Value) (qs:List XV):(CL.mk c.ve c.vc c.vr v c.vk c.ev c.co c.rq qs c.cs).cel={ k with ex:=qs.map XV.x }:=by rw[←h];rfl
theorem CL.cel_cs {c:CL} {k:Zv} (h:c.cel=k) (v:Value) (qs:List KV):(CL.mk c.ve c.vc c.vr c.vx v c.ev c.co c.rq c.ex qs).cel={ k with cs:=qs.map KV.k }:=by rw[←h];rfl
theorem j5 {w:World}{c:CL}{k:Zv}(h:Zu [] w.heap c) (hc:c.cel=k) (he:Yu k=0) (hkb:Kb w 4096) :
  QJ prog 27 [c.val] w λr w'=>Step [] w w'∧∃va vm ve v1 v2 v3 v4,r=.tuple #[.agg #[va,.int .i64 (spc k).a.st,vm,ve,v1,v2,v3,v4],.int .i64 0]∧Zw [va,.int .i64 (spc k).a.st,vm,ve,v1,v2,v3,v4]∧Zj [] w'.heap v4 (spc k).fb.length 4 ((spc k).fb.flatMap Zz):=by
 refine (Kt h hkb).mono ?_
 rintro r w' ⟨hs,v,rfl,⟨us,hv,_,hone⟩,hg⟩
 rw[hc] at hg ⊢
 obtain ⟨va,vm,ve,v1,v2,v3,v4,cos,rqs,rfl,_,_,hA⟩:=hg he
 have hus:us=[va,.int .i64 (spc k).a.st,vm,ve,v1,v2,v3,v4]:=by
  have h9:=congrArg (λv=>match v with | Value.agg cs=>cs.toList | _=>[]) hv
  simpa using h9.symm
 rw[hus] at hone
 exact ⟨hs,va,vm,ve,v1,v2,v3,v4,by rw[he],hone,(hA [] (by simp)).2.2.2.2⟩
theorem Qjy {w:World}{c:CL}{k:Zv}(h:Zu [] w.heap c) (hc:c.cel=k) (he:Yu k=0) (hst:(spc k).a.st<4096) (h1:QbV k=true) (hkb:Kb w 4096) :
  QJ prog 197 [c.val] w λr w'=>Step [] w w'∧∃xa xm xe vb,r=.tuple #[.agg #[xa,.int .i64 ((spc k).a.st+1),xm,xe],vb,.int .i64 0]∧Zw [xa,xm,xe]∧Qu 3 w.heap.size w' vb (cmB k):=by
 subst hc
 exact jT h hkb he hst h1
abbrev QiW:LV:=[nS,.int .i64 0,nS,nS,nS,nS,nS,nS]
theorem QjK {P:Prop}{a b:Int}(e:a=b) (h:¬a=b):P:=absurd e h
set_option maxHeartbeats 8000000 in
theorem Qas {w:World}(hkb:Kb w 4096):QJ prog 127 [] w λr w'=>r=.bool true∧Step [] w w':=by
 refine QJ.of_W func127 rfl ntmps127 results127 (by simp) ?_
 refine Qc<|Qe<|Qc<|xl rfl<|xf<|(XN 1 (by decide) w).mono ?_
 rintro r1 w1 ⟨hs1,c1,rfl,hc1,hC1⟩
 refine xl rfl<|xf<|(XN 2 (by decide) w1).mono ?_
 rintro r2 w2 ⟨hs2,c2,rfl,hc2,hC2⟩
 refine xl rfl<|xf<|(XN 2 (by decide) w2).mono ?_
 rintro r3 w3 ⟨hs3,c3,rfl,hc3,hC3⟩
 have hA1:=((hC1 [] (by simp)).ext hs2).ext hs3
 have hA2:=(hC2 [] (by simp)).ext hs3
 have hA3:=hC3 [] (by simp)
 refine xl rfl<|Qt (us:=Z3) rfl λb1 w4 hs4 hb1 hB1=>xl rfl<|Qt (us:=Z3) rfl λb2 w5 hs5 hb2 hB2=>xl rfl<|Qt (us:=Z3) rfl λb3 w6 hs6 hb3 hB3=>?_
 have hz4:=hs4.size
 have hz5:=hs5.size
 have hz6:=hs6.size
 have hl1:=hB1.lt
 have hl2:=hB2.lt
 have hl3:=hB3.lt
 refine xl rfl<|Qn (us:=c1.cells) ((hB1.ext hs5).ext hs6) rfl rfl rfl rfl hA1.ones λw7 hs7 hB17=>xl rfl<|Qn (us:=c2.cells) ((hB2.ext hs6).step hs7 (by simp only[List.mem_singleton];omega)) rfl rfl rfl rfl hA2.ones λw8 hs8 hB28 =>
  xl rfl<|Qn (us:=c3.cells) ((hB3.step hs7 (by simp only[List.mem_singleton];omega)).step hs8 (by simp only[List.mem_singleton];omega)) rfl rfl rfl rfl hA3.ones λw9 hs9 hB39=>xe ?_
 have hs39:Step [] w3 w9:=((((hs4.trans hs5).trans hs6).then1 hs7 (by omega)).then1 hs8 (by omega)).then1 hs9 (by omega)
 have hs09:=((hs1.trans hs2).trans hs3).trans hs39
 have hB19:=(hB17.step hs8 (by simp only[List.mem_singleton];omega)).step hs9 (by simp only[List.mem_singleton];omega)
 have hB29:=hB28.step hs9 (by simp only[List.mem_singleton];omega)
 have hB3:∀b∈[b1,b2,b3],w3.heap.size≤b∧b<w6.heap.size:=λb hb=>by
  simp only[List.mem_cons,List.not_mem_nil,or_false] at hb
  rcases hb with rfl | rfl | rfl <;> omega
 have m1:∀b∈[b1],b∈[b1,b2,b3]:=by simp
 have m2:∀b∈[b2],b∈[b1,b2,b3]:=by simp
 have m3:∀b∈[b3],b∈[b1,b2,b3]:=by simp
 have hA1:=(hA1.up (L':=[b1,b2,b3]) (λb hb=>.inr (hB3 b hb).1)).ext hs39
 have hA2:=(hA2.up (L':=[b1,b2,b3]) (λb hb=>.inr (hB3 b hb).1)).ext hs39
 have hA3:=(hA3.up (L':=[b1,b2,b3]) (λb hb=>.inr (hB3 b hb).1)).ext hs39
 have hz39:=hs39.size
 have hz69:w6.heap.size≤w9.heap.size:=by have:=hs7.size;have:=hs8.size;have:=hs9.size;omega
 have nB:∀b,w9.heap.size≤b→b∉[b1,b2,b3]:=λb hb hm=>by have:=(hB3 b hm).2;omega
 refine Qc<|xl rfl<|QD (us:=[[.int .i64 1]]) rfl rfl (by decide) (by simp) ⟨rfl,rfl,trivial⟩ λb16 w10 hs10 hb16 hB16=>xl rfl<|QD (us:=[[.int .i64 0]]) rfl rfl (by decide) (by simp) ⟨rfl,rfl,trivial⟩ λb17 w11 hs11 hb17 hB17'=>x (QE ⟨rfl,rfl,rfl,trivial⟩) <|
  x (ZS [(0,[.string KN]),(1,[.slice (some ⟨b16,0,none⟩) 1 1,.int .i64 1,.slice (some ⟨b17,0,none⟩) 1 1,nS])] ⟨rfl,rfl,rfl,rfl,trivial⟩) <|
  xl rfl<|QD (us:=[[.string KN,.slice (some ⟨b16,0,none⟩) 1 1,.int .i64 1,.slice (some ⟨b17,0,none⟩) 1 1,nS]]) rfl rfl (by decide) (by exact (by decide:1*5≤1000000)) ⟨rfl,rfl,trivial⟩ λb20 w12 hs12 hb20 hB20=>?_
 have hs912:=(hs10.trans hs11).trans hs12
 refine x (Qa rfl)<|xl rfl<|QF (j:=2) (u:=.slice (some ⟨b20,0,none⟩) 1 1) (hB19.ext hs912) rfl rfl (by simp) rfl λw13 hs13 hB113=>xe ?_
 have hz10:=hs10.size
 have hz11:=hs11.size
 have hz12:=hs12.size
 have hz912:=hs912.size
 have hs913:Step [b1,b2,b3] w9 w13:=hs912.any.trans' (hs13.mono m1)
 have hz13:=hs13.size
 have hN1:Zu [b1,b2,b3] w13.heap (CL.mk c1.ve c1.vc (.slice (some ⟨b20,0,none⟩) 1 1) c1.vx c1.vk c1.ev c1.co [⟨KN,⟨.slice (some ⟨b16,0,none⟩) 1 1,.slice (some ⟨b17,0,none⟩) 1 1,nS,zZ.a⟩⟩] c1.ex c1.cs):=by
  have h9:=hA1.st hs913
  refine ⟨h9.ev,h9.co,Y2.st (w:=w12) ⟨hB20.arr (nB _ (by omega)) (n:=1) (cap:=1) (sz:=5) rfl (by decide) (Nat.le_refl _),λq hq=>?_,λq hq=>?_⟩ (hs13.mono m1),h9.ex,h9.cs⟩
  ·rw[List.mem_singleton.1 hq]
   exact ⟨((hB16.ext hs11).ext hs12).arr (nB _ (by omega)) (n:=1) (cap:=1) (sz:=1) rfl (by decide) (Nat.le_refl _),(hB17'.ext hs12).arr (nB _ (by omega)) (n:=1) (cap:=1) (sz:=1) rfl (by decide) (Nat.le_refl _),Zj.nil _ _ 3⟩
  ·rw[List.mem_singleton.1 hq];exact YM (by decide)
 refine Qc<|x (QE ⟨rfl,rfl,trivial⟩)<|x (QE ⟨rfl,rfl,trivial⟩)<|xl rfl<|QD (us:=[QN (0,1),QN (1,1)]) rfl rfl (by decide) (by exact (by decide:2*2≤1000000)) ⟨rfl,rfl,rfl,rfl,trivial⟩ λb24 w14 hs14 hb24 hB24=>x (QE ⟨rfl,rfl,trivial⟩) <|
  xl rfl<|QD (us:=[[.string JC,.slice (some ⟨b24,0,none⟩) 2 2]]) rfl rfl (by decide) (by exact (by decide:1*2≤1000000)) ⟨rfl,rfl,trivial⟩ λb26 w15 hs15 hb26 hB26=>?_
 have hs1315:=hs14.trans hs15
 refine x (Qa rfl)<|xl rfl<|QF (j:=3) (u:=.slice (some ⟨b26,0,none⟩) 1 1) ((hB29.step (hs912.any.trans' hs13) (by simp only[List.mem_singleton];omega)).ext hs1315) rfl rfl (by simp) rfl λw16 hs16 hB216=>xe ?_
 have hz14:=hs14.size
 have hz15:=hs15.size
 have hz1315:=hs1315.size
 have hs1316:Step [b1,b2,b3] w13 w16:=hs1315.any.trans' (hs16.mono m2)
 have hz16:=hs1316.size
 have hz913:=hs913.size
 have hN2:Zu [b1,b2,b3] w16.heap (CL.mk c2.ve c2.vc c2.vr (.slice (some ⟨b26,0,none⟩) 1 1) c2.vk c2.ev c2.co c2.rq [⟨JC,.slice (some ⟨b24,0,none⟩) 2 2,[(0,1),(1,1)]⟩] c2.cs):=by
  have h9:=hA2.st (hs913.trans' hs1316)
  refine ⟨h9.ev,h9.co,h9.rq,qd.st (w:=w15) ⟨hB26.arr (nB _ (by omega)) (n:=1) (cap:=1) (sz:=2) rfl (by decide) (Nat.le_refl _),λq hq=>?_,λq hq=>?_⟩ (hs16.mono m2),h9.cs⟩
  ·rw[List.mem_singleton.1 hq]
   exact (hB24.ext hs15).arr (nB _ (by omega)) (n:=2) (cap:=2) (sz:=2) rfl (by decide) (Nat.le_refl _)
  ·rw[List.mem_singleton.1 hq];exact YM (by decide)
 refine Qc<|x (QE ⟨rfl,rfl,trivial⟩)<|x (QE ⟨rfl,rfl,trivial⟩)<|xl rfl<|QD (us:=[QN (0,1),QN (1,1)]) rfl rfl (by decide) (by exact (by decide:2*2≤1000000)) ⟨rfl,rfl,rfl,rfl,trivial⟩ λb30 w17 hs17 hb30 hB30=>x (QE ⟨rfl,rfl,rfl,trivial⟩) <|
  xl rfl<|QD (us:=[[.string zJ,.slice (some ⟨b30,0,none⟩) 2 2,.int .i64 1]]) rfl rfl (by decide) (by exact (by decide:1*3≤1000000)) ⟨rfl,rfl,trivial⟩ λb32 w18 hs18 hb32 hB32=>?_
 have hs1618:=hs17.trans hs18
 refine x (Qa rfl)<|xl rfl<|QF (j:=4) (u:=.slice (some ⟨b32,0,none⟩) 1 1) (((hB39.step (hs912.any.trans' hs13) (by simp only[List.mem_singleton];omega)).step (hs1315.any.trans' hs16) (by simp only[List.mem_singleton];omega)).ext hs1618) rfl rfl (by simp) rfl λw19 hs19 hB319=>xe ?_
 have hz17:=hs17.size
 have hz18:=hs18.size
 have hs1619:Step [b1,b2,b3] w16 w19:=hs1618.any.trans' (hs19.mono m3)
 have hN3:Zu [b1,b2,b3] w19.heap (CL.mk c3.ve c3.vc c3.vr c3.vx (.slice (some ⟨b32,0,none⟩) 1 1) c3.ev c3.co c3.rq c3.ex [⟨zJ,.slice (some ⟨b30,0,none⟩) 2 2,[(0,1),(1,1)],1⟩]):=by
  have h9:=hA3.st ((hs913.trans' hs1316).trans' hs1619)
  refine ⟨h9.ev,h9.co,h9.rq,h9.ex,U5.st (w:=w18) ⟨hB32.arr (nB _ (by omega)) (n:=1) (cap:=1) (sz:=3) rfl (by decide) (Nat.le_refl _),λq hq=>?_,λq hq=>?_⟩ (hs19.mono m3)⟩
  ·rw[List.mem_singleton.1 hq]
   exact (hB30.ext hs18).arr (nB _ (by omega)) (n:=2) (cap:=2) (sz:=2) rfl (by decide) (Nat.le_refl _)
  ·rw[List.mem_singleton.1 hq];exact YM (by decide)
 have hN1':Zu [] w19.heap _:=((hN1.st hs1316).st hs1619).up (L':=[]) (by simp)
 have hN2':Zu [] w19.heap _:=(hN2.st hs1619).up (L':=[]) (by simp)
 have hN3':Zu [] w19.heap _:=hN3.up (L':=[]) (by simp)
 have hB119:=(hB113.step (hs1315.any.trans' hs16) (by simp only[List.mem_singleton];omega)).step (hs1618.any.trans' hs19) (by simp only[List.mem_singleton];omega)
 have hB219:=hB216.step (hs1618.any.trans' hs19) (by simp only[List.mem_singleton];omega)
 have hs019:Step [] w w19:=hs09.then ((hs913.trans' hs1316).trans' hs1619) (λb hb=>.inr (by have:=(hB3 b hb).1;have:=((hs1.trans hs2).trans hs3).size;omega))
 have hq1:=CL.cel_rq hc1 (.slice (some ⟨b20,0,none⟩) 1 1) [⟨KN,⟨.slice (some ⟨b16,0,none⟩) 1 1,.slice (some ⟨b17,0,none⟩) 1 1,nS,zZ.a⟩⟩]
 have hq2:=CL.cel_ex hc2 (.slice (some ⟨b26,0,none⟩) 1 1) [⟨JC,.slice (some ⟨b24,0,none⟩) 2 2,[(0,1),(1,1)]⟩]
 have hq3:=CL.cel_cs hc3 (.slice (some ⟨b32,0,none⟩) 1 1) [⟨zJ,.slice (some ⟨b30,0,none⟩) 2 2,[(0,1),(1,1)],1⟩]
 refine Qc<|x (Qq hB119 rfl rfl)<|xl rfl<|xf<|(j5 (k:=k1C) hN1' hq1 Qkr (hkb.ext hs019)).mono ?_
 rintro r20 w20 ⟨hs20,sa,sm,se,s1,s2,s3,s4,rfl,hso,hsF⟩
 rw[Qkq] at hsF
 refine Qb<|x (Qp rfl rfl)<|x (Qp rfl rfl)<|xl rfl<|Qt (us:=QiW) rfl λb4 w21 hs21 hb4 hB4=>xl rfl<|Qn (us:=[sa,.int .i64 (spc k1C).a.st,sm,se,s1,s2,s3,s4]) hB4 rfl rfl rfl rfl hso λw22 hs22 hB422=>Qe ?_
 have hs2022:Step [] w20 w22:=hs21.then1 hs22 hb4
 have hs1922:=hs20.trans hs2022
 have hs022:=hs019.trans hs1922
 refine Qc<|x (Qq (hB119.ext hs1922) rfl rfl)<|xl rfl<|xf<|(Qjy (k:=k1C) (hN1'.ext hs1922) hq1 Qkr (by rw[Qie];decide) Qi1 (hkb.ext hs022)).mono ?_
 rintro r23 w23 ⟨hs23,xa,xm,xe',vb,rfl,hxo,hvb⟩
 rw[Qi2] at hvb
 have hvI:QL [] w23.heap vb [2]:=Qu.ints (L:=[]) hvb (by simp) (by simp)
 refine Qb<|x (Qp rfl rfl)<|x (Qp rfl rfl)<|x (Qp rfl rfl)<|xl rfl<|Qt (us:=VX) rfl λb6 w24 hs24 hb6 hB6=>xl rfl<|Qn (us:=[xa,.int .i64 ((spc k1C).a.st+1),xm,xe']) hB6 rfl rfl rfl rfl ⟨hxo.1,rfl,hxo.2.1,hxo.2.2.1,trivial⟩ λw25 hs25 hB625=>x Qh<|Qe ?_
 have hs2325:Step [] w23 w25:=hs24.then1 hs25 hb6
 have hs2225:=hs23.trans hs2325
 have hs1925:=hs1922.trans hs2225
 have hs025:=hs022.trans hs2225
 refine Qc<|x (Qq (hB219.ext hs1925) rfl rfl)<|xl rfl<|xf<|(j5 (k:=k2C) (hN2'.ext hs1925) hq2 Qlg (hkb.ext hs025)).mono ?_
 rintro r26 w26 ⟨hs26,ta,tm,te,t1,t2,t3,t4,rfl,hto,htF⟩
 rw[Qko] at htF
 refine Qb<|x (Qp rfl rfl)<|x (Qp rfl rfl)<|xl rfl<|Qt (us:=QiW) rfl λb9 w27 hs27 hb9 hB9=>xl rfl<|Qn (us:=[ta,.int .i64 (spc k2C).a.st,tm,te,t1,t2,t3,t4]) hB9 rfl rfl rfl rfl hto λw28 hs28 hB928=>Qe ?_
 have hs2628:Step [] w26 w28:=hs27.then1 hs28 hb9
 have hs2528:=hs26.trans hs2628
 have hs1928:=hs1925.trans hs2528
 have hs028:=hs025.trans hs2528
 refine Qc<|x (Qq (hB319.ext hs1928) rfl rfl)<|xl rfl<|xf<|(j5 (k:=k3C) (hN3'.ext hs1928) hq3 Qlf (hkb.ext hs028)).mono ?_
 rintro r29 w29 ⟨hs29,ua,um,ue,u1,u2,u3,u4,rfl,huo,huF⟩
 rw[Qkm] at huF
 refine Qb<|x (Qp rfl rfl)<|x (Qp rfl rfl)<|xl rfl<|Qt (us:=QiW) rfl λb11 w30 hs30 hb11 hB11=>xl rfl<|Qn (us:=[ua,.int .i64 (spc k3C).a.st,um,ue,u1,u2,u3,u4]) hB11 rfl rfl rfl rfl huo λw31 hs31 hB1131=>Qe ?_
 have hs2931:Step [] w29 w31:=hs30.then1 hs31 hb11
 have hs2831:=hs29.trans hs2931
 have hs031:=hs028.trans hs2831
 have hB431:=((hB422.ext hs2225).ext hs2528).ext hs2831
 have hB631:=(hB625.ext hs2528).ext hs2831
 have hB931:=hB928.ext hs2831
 have hsF31:=((((hsF.ext hs2022).ext hs2225).ext hs2528).ext hs2831)
 have htF31:=(htF.ext hs2628).ext hs2831
 have huF31:=huF.ext hs2931
 have hvI31:=((hvI.ext hs2325).ext hs2528).ext hs2831
 refine QU (α:=Unit) [(0,0),(55,105)] (λz=>[(0,.bool true)]) (λz w'=>Step [] w31 w') (by rfl) ?_ ?_
 ·refine Qw<|Qb<|xb (Q7 rfl rfl) (λh56=>?_) (λh56=>absurd rfl h56)
  refine Qb<|Qb<|xb (Q7 rfl rfl) (λh59=>?_) (λh59=>absurd rfl h59)
  refine x (Qm rfl)<|Qb<|Qb<|xb (Q7 rfl rfl) (λh63=>?_) (λh63=>absurd rfl h63)
  refine x (Qm rfl)<|Qb<|Qb<|xb (Q7 rfl rfl) (λh67=>?_) (λh67=>absurd rfl h67)
  refine x (Qm rfl)<|Qb<|x (Qa rfl)<|x (Qd hB431 rfl rfl)<|x (QE ⟨rfl,rfl,rfl,rfl,trivial⟩)<|xl rfl<|QD (us:=[Zz ⟨1,3,0,1⟩]) rfl rfl (by decide) (by exact (by decide:1*4≤1000000)) ⟨rfl,rfl,trivial⟩ λb73 w32 hs32 hb73 hB73 =>
   xl rfl<|xf<|(Vy (l:=[⟨1,3,0,1⟩]) (hsF31.ext hs32) (hB73.arr (L:=[]) (by simp) (n:=1) (cap:=1) (sz:=4) rfl (by decide) (Nat.le_refl _))).mono ?_
  rintro r74 w33 ⟨rfl,hs33⟩
  have hs3133:=hs32.trans hs33
  refine x (Qm rfl)<|Qb<|x (Qa rfl)<|x (Qd (hB631.ext hs3133) rfl rfl)<|xb (Q7 rfl rfl) (λh79=>?_) (λh79=>QjK (by rw[Qie];rfl) h79)
  refine x (Qm rfl)<|Qb<|Qb<|xl rfl<|QD (us:=[[.int .i64 2]]) rfl rfl (by decide) (by simp) ⟨rfl,rfl,trivial⟩ λb83 w34 hs34 hb83 hB83 =>
   xl rfl<|xf<|(JZ (l:=[2]) (l':=[2]) ((hvI31.ext hs3133).ext hs34) (hB83.arr (L:=[]) (by simp) (n:=1) (cap:=1) (sz:=1) rfl (by omega) (Nat.le_refl _))).mono ?_
  rintro r84 w35 ⟨hr84,hs35⟩
  rw[decide_eq_true rfl] at hr84
  subst hr84
  have hs3135:=hs3133.trans (hs34.trans hs35)
  refine x (Qm rfl)<|Qb<|x (Qa rfl)<|x (Qa rfl)<|x (Qd (hB931.ext hs3135) rfl rfl)<|xb (Q7 rfl rfl) (λh90=>?_) (λh90=>QjK Qkn h90)
  refine x (Qm rfl)<|Qb<|x (Qa rfl)<|x (Qd (hB931.ext hs3135) rfl rfl)<|x (QE ⟨rfl,rfl,rfl,rfl,trivial⟩)<|xl rfl<|QD (us:=[Zz ⟨3,1,0,-1⟩]) rfl rfl (by decide) (by exact (by decide:1*4≤1000000)) ⟨rfl,rfl,trivial⟩ λb96 w36 hs36 hb96 hB96 =>
   xl rfl<|xf<|(Vy (l:=[⟨3,1,0,-1⟩]) ((htF31.ext hs3135).ext hs36) (hB96.arr (L:=[]) (by simp) (n:=1) (cap:=1) (sz:=4) rfl (by decide) (Nat.le_refl _))).mono ?_
  rintro r97 w37 ⟨rfl,hs37⟩
  have hs3137:=hs3135.trans (hs36.trans hs37)
  refine x (Qm rfl)<|Qb<|x (Qa rfl)<|x (Qd (hB1131.ext hs3137) rfl rfl)<|x (QE ⟨rfl,rfl,rfl,rfl,trivial⟩)<|xl rfl<|QD (us:=[Zz ⟨3,2,0,-1⟩]) rfl rfl (by decide) (by exact (by decide:1*4≤1000000)) ⟨rfl,rfl,trivial⟩ λb103 w38 hs38 hb103 hB103 =>
   xl rfl<|xf<|(Vy (l:=[⟨3,2,0,-1⟩]) ((huF31.ext hs3137).ext hs38) (hB103.arr (L:=[]) (by simp) (n:=1) (cap:=1) (sz:=4) rfl (by decide) (Nat.le_refl _))).mono ?_
  rintro r104 w39 ⟨rfl,hs39'⟩
  refine x (Qm rfl)<|Qe ?_
  exact ⟨(),⟨rfl,trivial⟩,hs3137.trans (hs38.trans hs39')⟩
 rintro z g w40 hs40
 exact Ql ⟨[.bool true],⟨rfl,trivial⟩,rfl,hs031.trans hs40⟩
end Go.Proofs.YtdffckgdcegpaaaGreatDoor
namespace Go.Proofs
open Go.Proofs.Tryz
open Go.Shelf
def Tryz.sortRm_ren:Go.Shelf.Ren:=⟨λ| 6=>215 | 15=>176 | 14=>266 | 28=>229 | 29=>230 | 20=>288 | 21=>289 | 22=>290 | 23=>291 | 24=>292 | 25=>293 | 26=>294 | 27=>295 | 46=>313 | 47=>268 | 48=>269 | 49=>314 | 50=>315 | 57=>322 | n=>n,λ| 22=>166 | 24=>320 | 25=>326 | 3=>3 | 39=>269 | 0=>0 | 53=>338 | 55=>340 | 4=>4 | 46=>332 | 45=>331 | 50=>178 | 5=>5 | 9=>9 | 66=>372 | 70=>376 | 76=>401 | 77=>381 | n=>n,λ| n=>n⟩
theorem Tryz.sortRm:Go.Proofs.SlLaysF0.n6 prog Tryz.sortRm_ren:={
 mixed:=by kernel_rfl
 f6:=⟨Tryz.f215.name,by decide,func215.trans (congrArg some (by kernel_rfl))⟩
 f14:=⟨Tryz.f266.name,by decide,func266.trans (congrArg some (by kernel_rfl))⟩
 f15:=func176.trans (congrArg some (by kernel_rfl))
 f20:=⟨Tryz.f288.name,by decide,func288.trans (congrArg some (by kernel_rfl))⟩
 f21:=⟨Tryz.f289.name,by decide,func289.trans (congrArg some (by kernel_rfl))⟩
 f22:=⟨Tryz.f290.name,by decide,func290.trans (congrArg some (by kernel_rfl))⟩
 f23:=⟨Tryz.f291.name,by decide,func291.trans (congrArg some (by kernel_rfl))⟩
 f24:=⟨Tryz.f292.name,by decide,func292.trans (congrArg some (by kernel_rfl))⟩
 f25:=⟨Tryz.f293.name,by decide,func293.trans (congrArg some (by kernel_rfl))⟩
 f26:=⟨Tryz.f294.name,by decide,func294.trans (congrArg some (by kernel_rfl))⟩
 f27:=⟨Tryz.f295.name,by decide,func295.trans (congrArg some (by kernel_rfl))⟩
 f28:=func229.trans (congrArg some (by kernel_rfl))
 f29:=func230.trans (congrArg some (by kernel_rfl))
 f46:=⟨Tryz.f313.name,by decide,func313.trans (congrArg some (by kernel_rfl))⟩
 f47:=func268.trans (congrArg some (by kernel_rfl))
 f48:=func269.trans (congrArg some (by kernel_rfl))
 f49:=⟨Tryz.f314.name,by decide,func314.trans (congrArg some (by kernel_rfl))⟩
 f50:=⟨Tryz.f315.name,by decide,func315.trans (congrArg some (by kernel_rfl))⟩
 f57:=⟨Tryz.f322.name,by decide,func322.trans (congrArg some (by kernel_rfl))⟩
 t0:=underlying0
 a0:=Tryz.isAgg0
 z0:=Tryz.sizeOf0
 v0:=Tryz.zeroValue0
 t3:=underlying3
 a3:=Tryz.isAgg3
 z3:=Tryz.sizeOf3
 v3:=Tryz.zeroValue3
 t4:=underlying4
 a4:=Tryz.isAgg4
 z4:=Tryz.sizeOf4
 v4:=Tryz.zeroValue4
 t5:=underlying5
 a5:=Tryz.isAgg5
 z5:=Tryz.sizeOf5
 v5:=Tryz.zeroValue5
 t9:=underlying9
 a9:=Tryz.isAgg9
 z9:=Tryz.sizeOf9
 v9:=Tryz.zeroValue9
 t22:=underlying166
 a22:=Tryz.isAgg166
 z22:=Tryz.sizeOf166
 v22:=Tryz.zeroValue166
 t25:=underlying326
 a25:=Tryz.isAgg326
 z25:=Tryz.sizeOf326
 v25:=Tryz.zeroValue326
 t39:=underlying269
 a39:=Tryz.isAgg269
 z39:=Tryz.sizeOf269
 v39:=Tryz.zeroValue269
 t45:=underlying331
 a45:=Tryz.isAgg331
 z45:=Tryz.sizeOf331
 v45:=Tryz.zeroValue331
 t46:=underlying332
 a46:=Tryz.isAgg332
 z46:=Tryz.sizeOf332
 v46:=Tryz.zeroValue332
 t50:=underlying178
 a50:=Tryz.isAgg178
 z50:=Tryz.sizeOf178
 v50:=Tryz.zeroValue178
 t53:=underlying338
 a53:=Tryz.isAgg338
 z53:=Tryz.sizeOf338
 v53:=Tryz.zeroValue338
 t55:=underlying340
 a55:=Tryz.isAgg340
 z55:=Tryz.sizeOf340
 v55:=Tryz.zeroValue340
 t66:=underlying372
 a66:=Tryz.isAgg372
 z66:=Tryz.sizeOf372
 v66:=Tryz.zeroValue372
 t70:=underlying376
 a70:=Tryz.isAgg376
 z70:=Tryz.sizeOf376
 v70:=Tryz.zeroValue376
 t76:=underlying401
 a76:=Tryz.isAgg401
 z76:=Tryz.sizeOf401
 v76:=Tryz.zeroValue401
 t77:=underlying381
 a77:=Tryz.isAgg381
 z77:=Tryz.sizeOf381
 v77:=Tryz.zeroValue381 }
end Go.Proofs
namespace Go.Proofs.YtdffckgdcegpaaaGreatDoor
open Go.Lg
theorem Qjp (lf:Lf) (x:Int) (z:LI×LI) (y:Int):dsE lf x z y=if lft lf y=true then bwE x z y else z:=by
 unfold dsE bwE
 by_cases h:lft lf y=true <;> by_cases h2:cget z.1 y.toNat<0 <;> simp[h,h2]
structure DsI (n:Nat) (z:LI×LI):Prop where
 ok:Qgd n z.1 z.2
 cnt:neg z.1+z.2.length=n
 s0:QjM z.1 z.2
theorem DsI.le {n:Nat}{z:LI×LI}(h:DsI n z):z.2.length≤n:=by have:=h.cnt;omega
theorem Qfx {n:Nat}{lf:Lf}{x y:Int}{z:LI×LI}(h:DsI n z) (hx:0≤x∧x<(n:Int)) (hx0:0≤cget z.1 x.toNat) (hy:0≤y∧y<(n:Int)) :
  DsI n (dsE lf x z y)∧0≤cget (dsE lf x z y).1 x.toNat:=by
 rw[Qjp]
 split
 ·obtain ⟨h1,h2,h3⟩:=QjE h.ok hx hx0 hy
  exact ⟨⟨h1,by have:=h.cnt;omega,QfQ h.ok hx0 hy h.s0⟩,h3⟩
 ·exact ⟨h,hx0⟩
theorem QhF (lf:Lf) (x:Int) (z:LI×LI) (y:Int):∃r,(dsE lf x z y).2=z.2++r:=by
 unfold dsE;split
 ·exact ⟨[y],rfl⟩
 ·exact ⟨[],by simp⟩
theorem QhE {n:Nat}{lf:Lf}{x:Int}(hx:0≤x∧x<(n:Int)):∀(l:LI) (z:LI×LI),DsI n z→0≤cget z.1 x.toNat→(∀y∈l,0≤y∧y<(n:Int)) →
  DsI n (l.foldl (dsE lf x) z)∧∃r,(l.foldl (dsE lf x) z).2=z.2++r
 | [],z,h,_,_=>⟨h,[],by simp⟩
 | y::l,z,h,h0,hl=>by
  obtain ⟨h1,h2⟩:=Qfx (lf:=lf) h hx h0 (hl y List.mem_cons_self)
  obtain ⟨h3,r2,h4⟩:=QhE hx l _ h1 h2 (λy hy=>hl y (List.mem_cons_of_mem _ hy))
  obtain ⟨r1,h5⟩:=QhF lf x z y
  exact ⟨h3,r1++r2,by rw[List.foldl_cons,h4,h5,List.append_assoc]⟩
theorem Qfw {es:List Ed}{lf:Lf}{f i:Nat}{z:LI×LI}(h:¬i<z.2.length):dsL es lf f i z=z:=by
 cases f with
 | zero=>rfl
 | succ f=>rw[dsL,if_neg h]
theorem Qb2 {n:Nat}{l:LI}{x:Int}(h0:0≤x):(VZ n l).set x.toNat 0=VZ n (l++[x]):=by
 apply List.ext_getElem
 ·simp[VZ]
 ·intro i h2 h3
  rw[List.getElem_set]
  by_cases e:x.toNat=i
  ·have:(i:Int)=x:=by omega
   rw[if_pos e];simp[VZ,this]
  ·have:(i:Int)≠x:=by omega
   rw[if_neg e];simp[VZ,this]
theorem js {a:QV}{lf:Lf}(hm:∀x∈a.mr,0≤x) (k:Nat):(a.mr.take k).foldl (ym lf) (List.replicate a.st.toNat (-1),[])=(VZ a.st.toNat ((a.mr.take k).filter (lft lf)),(a.mr.take k).filter (lft lf)):=by
 induction k with
 | zero =>
  simp only[List.take_zero,List.foldl_nil,List.filter_nil]
  congr 1
  apply List.ext_getElem
  ·simp[VZ]
  ·intro i h1 h2;simp[VZ]
 | succ k ih =>
  by_cases hk:k<a.mr.length
  ·rw[List.take_succ_eq_append_getElem hk,List.foldl_append,ih,List.filter_append]
   simp only[List.foldl_cons,List.foldl_nil,ym]
   by_cases hl:lft lf (a.mr[k]'hk)=true
   ·rw[if_pos hl,Qb2 (hm _ (List.getElem_mem hk))]
    simp[hl]
   ·rw[if_neg hl]
    simp[hl]
  ·have e:a.mr.take (k+1)=a.mr.take k:=by rw[List.take_of_length_le (by omega),List.take_of_length_le (by omega)]
   rw[e];exact ih
theorem Qjr {a:QV}{lf:Lf}(hm:∀x∈a.mr,0≤x):ds0 a lf=(VZ a.st.toNat (a.mr.filter (lft lf)),a.mr.filter (lft lf)):=by
 have:=js (lf:=lf) hm a.mr.length
 rw[List.take_length] at this
 exact this
theorem QgY {n:Nat}(l:LI) (hn:l.Nodup) (hb:∀x∈l,0≤x∧x<(n:Int)):neg (VZ n l)+l.length=n:=by
 have key:∀k,k≤l.length→neg (VZ n (l.take k))+k=n:=by
  intro k
  induction k with
  | zero =>
   intro _
   have e:VZ n (l.take 0)=List.replicate n (-1):=by
    apply List.ext_getElem
    ·simp[VZ]
    ·intro i h1 h2;simp[VZ]
   rw[e]
   unfold neg
   simp
  | succ k ih =>
   intro hk
   have h1:=ih (by omega)
   have hx:=hb _ (List.getElem_mem (show k<l.length by omega))
   rw[List.take_succ_eq_append_getElem (show k<l.length by omega),←Qb2 hx.1]
   have hxl:(l[k]'(by omega)).toNat<(VZ n (l.take k)).length:=by rw[Vb];omega
   have hng:=KO (VZ n (l.take k)) (l[k]'(by omega)).toNat 0 hxl (by
    have e:(((l[k]'(by omega)).toNat:Nat):Int)=l[k]'(by omega):=by omega
    have hnm:(l[k]'(by omega))∉l.take k:=λh=>by
     obtain ⟨j,hj,he⟩:=List.getElem_of_mem h
     rw[List.getElem_take] at he
     have hj':j<k:=by simp at hj;omega
     have:=(List.pairwise_iff_getElem.1 hn) j k (by omega) (by omega) hj'
     exact this he
    simp[VZ,e,hnm]) (Int.le_refl _)
   omega
 have:=key l.length (Nat.le_refl _)
 rwa [List.take_length] at this
theorem Qjq {a:QV}{lf:Lf}{n:Nat}(ho:Zs a) (hn:a.st=(n:Int)):DsI n (ds0 a lf):=by
 have hb:∀x∈a.mr.filter (lft lf),0≤x∧x<(n:Int):=λx hx=>by rw[←hn];exact ho.mr x (List.mem_filter.1 hx).1
 have e:a.st.toNat=n:=by omega
 rw[Qjr (λx hx=>(ho.mr x hx).1),e]
 refine ⟨QjF hb,QgY _ ((ho.mri.imp (λh=>by omega)).filter _) hb,λx hx=>?_⟩
 rw[QhU (hb x hx) hx];exact Int.le_refl _
def Kj (l:Lf):Nat:=l.countP (· == true)
theorem QhL (l:Lf):Kj l≤l.length:=List.countP_le_length
theorem QbQ (l:Lf) (s:Int):(cut l s).length=l.length:=by simp[cut]
theorem US:∀(xs:LI) (l:Lf),(xs.foldl cut l).length=l.length
 | [],_=>rfl
 | x::xs,l=>by rw[List.foldl_cons,US xs,QbQ]
theorem QbR:∀(l:Lf) (i:Nat),Kj (l.set i false)+(if l.getD i false=true then 1 else 0)=Kj l
 | [],i=>by simp[Kj]
 | b::l,0=>by cases b <;> simp[Kj]
 | b::l,i+1=>by
  have ih:=QbR l i
  unfold Kj at *
  simp only[List.set_cons_succ,List.countP_cons,List.getD_cons_succ]
  omega
theorem QbS (l:Lf) (s:Int):Kj (cut l s)+(if lft l s=true then 1 else 0)=Kj l:=QbR l s.toNat
theorem ju:∀(xs:LI) (l:Lf),Kj (xs.foldl cut l)≤Kj l
 | [],_=>Nat.le_refl _
 | x::xs,l=>by
  have h1:=ju xs (cut l x)
  have h2:=QbS l x
  rw[List.foldl_cons];omega
theorem QfA {xs:LI}{l:Lf}(h:0<xs.length) (h0:∀x∈xs,lft l x=true):Kj (xs.foldl cut l)<Kj l:=by
 cases xs with
 | nil=>simp at h
 | cons x xs =>
  have h1:=ju xs (cut l x)
  have h2:=QbS l x
  rw[if_pos (h0 x List.mem_cons_self)] at h2
  rw[List.foldl_cons];omega
def Qf8 (a:QV) (lf:Lf) (out:List (Int×Int)):Prop:=∀p∈out,lft lf p.1=true∧∃e∈a.ed,e.1=p.1∧e.2.1=p.2
theorem Qg1 {a:QV}{ul:LI}{lf:Lf}{out:List (Int×Int)}{e:Ed}(h:Qf8 a lf out) (he:e∈a.ed):Qf8 a lf (JE ul lf out e)∧(JE ul lf out e).length≤out.length+1:=by
 unfold JE
 split
 ·exact ⟨h,by omega⟩
 ·rename_i hc
  split
  ·exact ⟨h,by omega⟩
  ·refine ⟨λp hp=>?_,by simp⟩
   simp only[List.mem_append,List.mem_singleton] at hp
   rcases hp with hp | rfl
   ·exact h p hp
   ·exact ⟨by cases hl:lft lf e.1 with | true=>rfl | false=>exact absurd (.inl hl) hc,e,he,rfl,rfl⟩
theorem Uz {a:QV}{ul:LI}{lf:Lf}:∀(l:List Ed) (out:List (Int×Int)),(∀e∈l,e∈a.ed)→Qf8 a lf out→Qf8 a lf (l.foldl (JE ul lf) out)∧(l.foldl (JE ul lf) out).length≤out.length+l.length
 | [],out,_,h=>⟨h,by simp⟩
 | e::l,out,hl,h=>by
  obtain ⟨h1,h2⟩:=Qg1 (ul:=ul) h (hl e List.mem_cons_self)
  obtain ⟨h3,h4⟩:=Uz l _ (λe he=>hl e (List.mem_cons_of_mem _ he)) h1
  exact ⟨h3,by rw[List.foldl_cons,List.length_cons];omega⟩
theorem zR (a:QV) (ul:LI) (lf:Lf):Qf8 a lf (lost a ul lf)∧(lost a ul lf).length≤a.ed.length:=by
 have:=Uz (ul:=ul) (lf:=lf) a.ed [] (λ_ h=>h) (λp hp=>by cases hp)
 unfold lost
 simpa using this
theorem Vc (lf:Lf):∀(l:LI) (i:Nat),(∀x∈Kp lf i l,lft lf x=true∧(i:Int)≤x∧x<(i:Int)+l.length)∧(Kp lf i l).length≤l.length
 | [],i=>⟨λx hx=>(by cases hx),Nat.le_refl _⟩
 | d::l,i=>by
  obtain ⟨h1,h2⟩:=Vc lf l (i+1)
  unfold Kp
  split
  ·rename_i hc
   refine ⟨λx hx=>?_,by simp;omega⟩
   rcases List.mem_cons.1 hx with rfl | hx
   ·exact ⟨by unfold lft;simpa using hc.1,Int.le_refl _,by simp;omega⟩
   ·have:=h1 x hx
    exact ⟨this.1,by omega,by simp only[List.length_cons];omega⟩
  ·refine ⟨λx hx=>?_,by simp;omega⟩
   have:=h1 x hx
   exact ⟨this.1,by omega,by simp only[List.length_cons];omega⟩
theorem Qep {a:QV}{ul:LI}{lf:Lf}(x:Int) (hx:x∈nxs a ul lf):lft lf x=true:=by
 unfold nxs at hx
 split at hx
 ·obtain ⟨p,hp,rfl⟩:=List.mem_map.1 hx
  exact ((zR a ul lf).1 p hp).1
 ·exact ((Vc lf (dsts a lf) 0).1 x hx).1
theorem Qcq {a:QV}{ul:LI}{f:Nat}{lf:Lf}(h:(nxs a ul lf).length=0):qj a ul f lf=lf:=by
 cases f with
 | zero=>rfl
 | succ f=>rw[qj,if_pos h]
theorem Qcp {a:QV}{ul:LI}{f:Nat}{lf:Lf}(h:(nxs a ul lf).length≠0):qj a ul (f+1) lf=qj a ul f ((nxs a ul lf).foldl cut lf):=by rw[qj,if_neg h]
theorem Qeq {a:QV}{ul:LI}{lf:Lf}(h:(nxs a ul lf).length≠0):Kj ((nxs a ul lf).foldl cut lf)<Kj lf:=QfA (by omega) (λx hx=>Qep x hx)
theorem Qcl {a:QV}(h:Zs a) (lf:Lf):Zs (rstr a lf) :=
 ⟨h.al,h.ali,h.st0,h.st1,h.mr,h.mri,λe he=>h.ed e (List.mem_filter.1 he).1,h.edi.filter _⟩
def fst (a:QV):Int:=if a.st=0 then -1 else 0
def QiI (s:Option (Int×Int×Int)):Int×Int×Int:=s.getD (0,0,0)
def cdA (c:Zv):QV:=zm (tgA c) [] (unc c.ev)
def ccA (c:Zv):QV:=syA [tgA c,cdA c]
def own (c:Zv) (k:Bool):QV:=if k=true then ccA c else tgA c
end Go.Proofs.YtdffckgdcegpaaaGreatDoor
namespace Go.Lg
section
variable {P:Program} {K:Fr→World→Prop} {f:Fr} {w:World} {d:Option Nat} {ty:Nat} {ps:String} {af:Array Edge} {gd:Option (Nat×Bool)}
theorem Uv {t:Nat}[h1:XM P t] {x y:Operand}{b T i:Nat}{l:List Bool}{u:Bool}(hB:Q2 w.heap b T (l.map Value.bool)) (hx:ev f x=.pointer (some ⟨b,0+i*1,none⟩)) (hy:ev f y=.bool u) (hi:i<l.length)
  (hK:∀w',Step [b] w w'→Q2 w'.heap b T ((l.set i u).map Value.bool)→K (QY f d undef) w'):XO P ⟨d,.store t x y,ty,ps,af,gd⟩ f w K:=by
 refine QF hB hx hy (by simpa using hi) rfl λw' hs hB'=>hK w' hs ?_
 rw[List.map_set]
 simpa using hB'
theorem XD {t:Nat}[XM P t] {x:Operand}{b T i:Nat}{l:List Bool}(h:Q2 w.heap b T (l.map Value.bool)) (hx:ev f x=.pointer (some ⟨b,0+i*1,none⟩)) (hi:i<l.length) :
  (execOp (ev f) ⟨d,.load t x,ty,ps,af,gd⟩).run P w=.ok (.value (.bool (l[i]'hi))) w:=Qd h hx (by simp[hi])
variable {ops:List Oper} {C:World→Prop} {pl:List (Nat×Bool)} {i:Nat}
theorem pqB {b:Bool}(hr:∀w',C w'→(execOp (ev f) (Q6 ops i)).run P w'=.ok (.value (.bool b)) w') (ht:b=true→XP P ops C K pl (QY f (Q6 ops i).dst (.bool true)) w) (hf:b=false→XP P ops C K pl (QY f (Q6 ops i).dst (.bool false)) w)
  (hd:qb (Q6 ops i)=true:=by rfl) (hg:Yd ops f (Q6 ops i)=true:=by rfl):XP P ops C K ((i,true)::pl) f w:=by
 cases hb:b with
 | true=>rw[hb] at hr;exact pq hr (ht hb) hd hg
 | false=>rw[hb] at hr;exact pq hr (hf hb) hd hg
end
end Go.Lg
namespace Go.Proofs.YtdffckgdcegpaaaGreatDoor
open Go.Proofs.Tryz
open Go.Lg
def bA (n:Nat) (g:Nat→Bool):List Bool:=(List.range n).map g
theorem QjI (n:Nat) (g:Nat→Bool):(bA n g).length=n:=by simp[bA]
theorem QjH {n i:Nat}{g g':Nat→Bool}{u:Bool}(hu:u=g' i) (h:∀j,j<n→j≠i→g' j=g j):(bA n g).set i u=bA n g':=by
 apply List.ext_getElem
 ·simp[bA]
 ·intro k h1 h2
  rw[List.getElem_set]
  have hk:k<n:=by simpa[bA] using h2
  by_cases e:i=k
  ·rw[if_pos e,hu,e];simp[bA]
  ·rw[if_neg e]
   have:=h k hk (λe'=>e e'.symm)
   simp[bA,this]
theorem Qb3 (n:Nat):(List.replicate n (Value.bool false).cells.toList).flatten=(bA n (λi=>decide (i<0))).map Value.bool:=by
 apply List.ext_getElem
 ·simp[Value.cells,bA]
 ·intro i h1 h2
  simp[Value.cells,bA]
theorem Vv {l:Lf}{s:Int}(h:s.toNat<l.length):l[s.toNat]'h=lft l s:=by unfold lft;simp[List.getD,h]
theorem Qg5 (n:Nat) (fb:LI):(lf0 n fb).length=n:=by unfold lf0;rw[US];simp
instance:Bw prog 324 [nS,.int .i64 0,nS,nS,nS,.map none,nS] [(0,4),(4,1),(5,1),(6,1)]:=⟨by kernel_rfl,by decide⟩
structure Pz where
 va:Value
 vm:Value
 ve:Value
 a:QV
 vu:Value
 unc:LI
 mb:Nat
 mm:List (Int×Value)
 bl:Nat
 n:Nat
 rv:Nat→Value
abbrev Pz.cells (p:Pz):LV:=[p.va,.int .i64 p.a.st,p.vm,p.ve,p.vu,.map (some p.mb),.slice (some ⟨p.bl,0,none⟩) p.n p.n]
structure yo (L:LN) (H:Array Obj) (bp:Nat) (p:Pz):Prop where
 B:Q2 H bp 324 p.cells
 bL:bp∉L
 a:Zt L H p.va p.vm p.ve p.a
 u:QL L H p.vu p.unc
 M:Z2 Ki H p.mb p.mm
 mL:p.mb∉L
 g:∀s,s<p.n→(match mget p.mm ((s:Nat):Int) with | some u=>u | none=>nS)=p.rv s
 R:∀s,s<p.n→QL L H (p.rv s) (Yl p.a.ed s)
theorem yo.ext {L:LN}{w w':World}{bp:Nat}{p:Pz}(h:yo L w.heap bp p) (hs:Step [] w w'):yo L w'.heap bp p:=⟨h.B.ext hs,h.bL,h.a.ext hs,h.u.ext hs,h.M.ext hs,h.mL,h.g,λs hs'=>(h.R s hs').ext hs⟩
theorem yo.st {L:LN}{w w':World}{bp:Nat}{p:Pz}(h:yo L w.heap bp p) (hs:Step L w w'):yo L w'.heap bp p:=⟨h.B.step hs h.bL,h.bL,h.a.st hs,h.u.st hs,h.M.step hs h.mL,h.mL,h.g,λs hs'=>(h.R s hs').st hs⟩
theorem yo.up {L L':LN}{H:Array Obj}{bp:Nat}{p:Pz}(h:yo L H bp p) (hL:∀b∈L',b∈L∨H.size≤b):yo L' H bp p :=
 ⟨h.B,λhm=>by rcases hL _ hm with h1 | h1;exact h.bL h1;have:=h.B.lt;omega,h.a.up hL,h.u.up hL,h.M,λhm=>by rcases hL _ hm with h1 | h1;exact h.mL h1;have:=h.M.lt;omega,h.g,λs hs'=>(h.R s hs').up hL⟩
structure PzQ (p:Pz):Prop where
 ok:Zs p.a
 n:p.a.st=(p.n:Int)
set_option maxHeartbeats 4000000 in
theorem QdI {w:World}{va vm ve vr vu:Value}{a:QV}{rm unc:LI}{n:Nat}(h:Zt [] w.heap va vm ve a) (hok:Zs a) (hn:a.st=(n:Int)) (hr:QL [] w.heap vr rm) (hrb:∀x∈rm,0≤x∧x<a.st) (hu:QL [] w.heap vu unc) :
  QJ prog 213 [.agg #[va,.int .i64 a.st,vm,ve],vr,vu] w λr w'=>Step [] w w'∧∃bp p,r=.pointer (some ⟨bp,0,none⟩)∧p.a=a∧p.unc=unc∧p.n=n∧w.heap.size≤p.bl∧yo [p.bl] w'.heap bp p∧Q2 w'.heap p.bl 4 ((lf0 n rm).map Value.bool):=by
 have hst1:=hok.st1
 have hed:=hok.ed
 have hel:=hok.ed_le
 have hrl:=hr.le
 refine QJ.of_W func213 rfl ntmps213 results213 (by simp) ?_
 refine Qc<|xl rfl<|QQ (us:=[va,.int .i64 a.st,vm,ve]) rfl λb3 w1 hs1 hb3 hB3=>Qe ?_
 have hl3:=hB3.lt
 have hz1:=hs1.size
 refine QU (α:=Nat×Nat×Nat) [(7,7),(13,20)] (λz=>[(7,.pointer (some ⟨z.1,0,none⟩))]) (λz w'=>Step [] w1 w'∧Q2 w'.heap z.1 324 [va,.int .i64 a.st,vm,ve,vu,.map (some z.2.1),.slice (some ⟨z.2.2,0,none⟩) n n] ∧
  Z2 Ki w'.heap z.2.1 []∧Q2 w'.heap z.2.2 4 ((bA n (λi=>decide (i<0))).map Value.bool)∧w1.heap.size≤z.1∧w1.heap.size≤z.2.1∧w1.heap.size≤z.2.2∧z.1≠z.2.1∧z.1≠z.2.2∧z.2.1≠z.2.2) (by rfl) ?_ ?_
 ·have hd0:Step [] w1 { w1 with drawn:=w1.drawn+1 }:=Step.drew _ _
  refine Qh0 (Step [] w1) [(0,true),(1,true),(3,true),(4,true)] 2 5 [(5,false),(6,true),(7,false),(8,true)] [(2,false),(6,true),(7,false),(8,true)] mixed (by rfl) (by kernel_rfl) (Step.drew _ _) ?_
  refine pq (λ_ hc=>Qq (hB3.ext hc) rfl rfl)<|p (λ_=>Qo)<|p (λ_=>Qa rfl)<|pq (λ_ hc=>Qd (hB3.ext hc) rfl rfl)<|pe ⟨⟨rfl,?_⟩,rfl,?_⟩
  ·refine Yn Ki λbm w2 hs2 hbm hM2=>⟨hd0.trans hs2,?_⟩
   refine pk<|Vr (n:=n) (congrArg (Value.int .i64) hn) (congrArg (Value.int .i64) hn) (by omega) λbl w3 hs3 hbl hB=>⟨(hd0.trans hs2).trans hs3,?_⟩
   rw[Qb3] at hB
   refine p (λ_=>ZS [(0,[va,.int .i64 a.st,vm,ve]),(1,[vu]),(2,[.map (some bm)]),(3,[.slice (some ⟨bl,0,none⟩) n n])] ⟨rfl,rfl,hu.cells,rfl,rfl,rfl,rfl,rfl,trivial⟩)<|pk <|
    QQ (us:=[va,.int .i64 a.st,vm,ve,vu,.map (some bm),.slice (some ⟨bl,0,none⟩) n n]) rfl λbp w4 hs4 hbp hBp=>⟨((hd0.trans hs2).trans hs3).trans hs4,?_⟩
   refine p (λ_=>Qh)<|pe ?_
   have hl2:=hM2.lt
   have hl4:=hB.lt
   have hz2:=hs2.size
   have hz3:=hs3.size
   have hzd:({ w1 with drawn:=w1.drawn+1 }:World).heap.size=w1.heap.size:=rfl
   exact ⟨(bp,bm,bl),⟨rfl,trivial⟩,((hd0.trans hs2).trans hs3).trans hs4,hBp,(hM2.ext hs3).ext hs4,hB.ext hs4,by simp only[];omega,by simp only[];omega,by simp only[];omega,by simp only[];omega,by simp only[];omega,by simp only[];omega⟩
  ·refine Vr (n:=n) (congrArg (Value.int .i64) hn) (congrArg (Value.int .i64) hn) (by omega) λbl w2 hs2 hbl hB=>⟨hd0.trans hs2,?_⟩
   rw[Qb3] at hB
   refine pk<|Yn Ki λbm w3 hs3 hbm hM3=>⟨(hd0.trans hs2).trans hs3,?_⟩
   refine p (λ_=>ZS [(0,[va,.int .i64 a.st,vm,ve]),(1,[vu]),(2,[.map (some bm)]),(3,[.slice (some ⟨bl,0,none⟩) n n])] ⟨rfl,rfl,hu.cells,rfl,rfl,rfl,rfl,rfl,trivial⟩)<|pk <|
    QQ (us:=[va,.int .i64 a.st,vm,ve,vu,.map (some bm),.slice (some ⟨bl,0,none⟩) n n]) rfl λbp w4 hs4 hbp hBp=>⟨((hd0.trans hs2).trans hs3).trans hs4,?_⟩
   refine p (λ_=>Qh)<|pe ?_
   have hl2:=hM3.lt
   have hl4:=hB.lt
   have hz2:=hs2.size
   have hz3:=hs3.size
   have hzd:({ w1 with drawn:=w1.drawn+1 }:World).heap.size=w1.heap.size:=rfl
   exact ⟨(bp,bm,bl),⟨rfl,trivial⟩,((hd0.trans hs2).trans hs3).trans hs4,hBp,hM3.ext hs4,(hB.ext hs3).ext hs4,by simp only[];omega,by simp only[];omega,by simp only[];omega,by simp only[];omega,by simp only[];omega,by simp only[];omega⟩
 rintro ⟨bp,bm,bl⟩ g w4 ⟨hs4,hBp,hM4,hBl,hbp,hbm,hbl,hpm,hpl,hml⟩
 simp only[] at hBp hM4 hBl hbp hbm hbl hpm hpl hml
 have hlp:=hBp.lt
 have hlm:=hM4.lt
 have hll:=hBl.lt
 have hs04:=hs1.trans hs4
 have hz4:=hs4.size
 have hpL:bp∉[bl]:=by simpa using hpl
 have hmL:bm∉[bl]:=by simpa using hml
 have h4:=h.ext hs04
 have hr4:=hr.ext hs04
 refine Qf<|Qc<|Qb<|x (QI rfl)<|x (Qa rfl)<|x (Qd hBp rfl rfl)<|x (Qr (L:=[]) (hBl.arr (by simp) (n:=n) (cap:=n) (sz:=1) (by simp[bA]) (by omega) (Nat.le_refl _)) rfl)<|Qb<|xe ?_
 refine Qg<|QA (α:=Nat) [(8,8),(26,35)] (λz=>[(26,.int .i64 z)]) (λz w'=>z≤n∧Step [bl] w4 w'∧Q2 w'.heap bl 4 ((bA n (λi=>decide (i<z))).map Value.bool)) (λz=>n - z) (by rfl) 0 ⟨rfl,trivial⟩ ⟨Nat.zero_le _,Step.refl _ _,hBl⟩ ?_
 rintro k g w5 ⟨hk,hs5,hBl5⟩
 refine Qc<|x (QB rfl rfl)<|xe ?_
 refine Qf<|QG rfl (λh27=>?_) (λh27=>?_)
 ·refine Qx ?_
  have hkn:k=n:=by have h28:¬(k:Int)<(n:Int):=h27;omega
  have hall:bA n (λi=>decide (i<k))=(rm.take 0).foldl cut (List.replicate n true):=by
   apply List.ext_getElem
   ·simp[bA]
   ·intro i h1 h2
    have:i<n:=by simpa[bA] using h1
    simp[bA];omega
  rw[hall] at hBl5
  have hup:∀b∈[bl],b<w1.heap.size→b∈([]:LN):=λb hb hlt=>by simp only[List.mem_singleton] at hb;omega
  have h1r:QL [bl] w1.heap vr rm:=(hr.ext hs1).up (λb hb=>.inr (by simp only[List.mem_singleton] at hb;omega))
  have h1u:QL [bl] w1.heap vu unc:=(hu.ext hs1).up (λb hb=>.inr (by simp only[List.mem_singleton] at hb;omega))
  have h1a:Zt [bl] w1.heap va vm ve a:=(h.ext hs1).up (λb hb=>.inr (by simp only[List.mem_singleton] at hb;omega))
  have hbp5:=hBp.step hs5 hpL
  have hM5:=hM4.step hs5 hmL
  refine Qf<|Qc<|Qb<|x (Qr ((h1r.ext hs4).st hs5) rfl)<|Qb<|xe ?_
  refine Qg<|QA (α:=Nat) [(10,10),(38,48)] (λz=>[(38,.int .i64 z)]) (λz w'=>z≤rm.length∧Step [bl] w4 w'∧Q2 w'.heap bl 4 (((rm.take z).foldl cut (List.replicate n true)).map Value.bool)) (λz=>rm.length - z) (by rfl) 0 ⟨rfl,trivial⟩ ⟨Nat.zero_le _,hs5,hBl5⟩ ?_
  rintro j g w6 ⟨hj,hs6,hBl6⟩
  refine Qc<|x (QB rfl rfl)<|xe ?_
  refine Qf<|QG rfl (λh39=>?_) (λh39=>?_)
  ·refine Qx ?_
   have hje:rm.length≤j:=by have h40:¬(j:Int)<(rm.length:Int):=h39;omega
   rw[List.take_of_length_le hje] at hBl6
   have hbp6:=hBp.step hs6 hpL
   have hM6:=hM4.step hs6 hmL
   have hl6:=hBl6.lt
   refine Qf<|Qc<|x (Qa rfl)<|x (Qd ((hB3.ext hs4).step hs6 (by simp only[List.mem_singleton];omega)) rfl rfl)<|x (Qr ((h1a.ext hs4).st hs6).ed rfl)<|Qb<|xe ?_
   have hz6:=hs6.size
   refine Qg<|QA (α:=Nat×(Nat→Value)×List (Int×Value)) [(12,12),(52,73)] (λz=>[(52,.int .i64 z.1)]) (λz w'=>z.1≤a.ed.length∧Step [bm] w6 w'∧Z2 Ki w'.heap bm z.2.2∧J7 w6.heap.size w' n z.2.1 (Yl (a.ed.take z.1))∧∀s,s<n→(match mget z.2.2 ((s:Nat):Int) with | some u=>u | none=>nS)=z.2.1 s) (λz=>a.ed.length - z.1) (by rfl) (0,λ_=>nS,[]) ⟨rfl,trivial⟩
    ⟨Nat.zero_le _,Step.refl _ _,hM6,⟨λi _=>QP _ _ _ _,λi j _ _ _=>Dj.nil _⟩,λs _=>rfl⟩ ?_
   rintro ⟨i,rv,m⟩ g w7 ⟨hi,hs7,hM7,hR7,hg7⟩
   simp only[] at hi hM7 hR7 hg7
   have hz7:=hs7.size
   have hpm7:bp∉[bm]:=by simpa using hpm
   have hlm7:bl∉[bm]:=by simpa using Ne.symm hml
   refine Qc<|x (QB rfl rfl)<|xe ?_
   refine Qf<|QG rfl (λh53=>?_) (λh53=>?_)
   ·refine Qx ?_
    have hie:a.ed.length≤i:=by have h54:¬(i:Int)<(a.ed.length:Int):=h53;omega
    rw[List.take_of_length_le hie] at hR7
    refine Qc<|Qb<|Qe ?_
    have hlow:∀b,b<w4.heap.size→b<w6.heap.size:=λb hb=>by omega
    refine Ql ⟨[_],⟨rfl,trivial⟩,(hs04.then1 hs6 (by omega)).then1 hs7 (by omega),bp,⟨va,vm,ve,a,vu,unc,bm,m,bl,n,rv⟩,rfl,rfl,rfl,rfl,by simp only[];omega,⟨hbp6.step hs7 hpm7,hpL,?_,?_,hM7,hmL,hg7,λs hs=>QT (hR7.own s hs) (Nat.le_trans (Vw a.ed s) (by omega)) (λb hb hm=>?_)⟩,hBl6.step hs7 hlm7⟩
    ·have h9:Zt [bl,bm] w7.heap va vm ve a:=((((h.ext hs1).up (L':=[bl,bm]) (λb hb=>.inr (by simp only[List.mem_cons,List.not_mem_nil,or_false] at hb;omega))).ext hs4).st (hs6.mono (by simp))).st (hs7.mono (by simp))
     exact h9.up (by simp)
    ·have h9:QL [bl,bm] w7.heap vu unc:=((((hu.ext hs1).up (L':=[bl,bm]) (λb hb=>.inr (by simp only[List.mem_cons,List.not_mem_nil,or_false] at hb;omega))).ext hs4).st (hs6.mono (by simp))).st (hs7.mono (by simp))
     exact h9.up (by simp)
    ·have:=(Qk (hR7.own s hs) b hb).1
     simp only[List.mem_singleton] at hm
     omega
   refine Qi ?_
   have hlt:i<a.ed.length:=by have h54:(i:Int)<(a.ed.length:Int):=h53;omega
   have htk:a.ed.take (i+1)=a.ed.take i++[a.ed[i]'hlt]:=List.take_succ_eq_append_getElem hlt
   have hei:=hed _ (List.getElem_mem hlt)
   refine Zd (a.ed[i]'hlt) λe he=>?_
   rw[he] at htk hei
   have hto:e.2.2=(e.2.2.toNat:Int):=by omega
   have htn:e.2.2.toNat<n:=by omega
   have hil:=Vw (a.ed.take i) e.2.2.toNat
   rw[List.length_take] at hil
   have hsn:=Qaw (a.ed.take i) e hei.2.2.2.1
   have hE7:U9 [bl,bm] w7.heap ve a.ed:=((((h.ed.ext hs1).up (L':=[bl,bm]) (λb hb=>.inr (by simp only[List.mem_cons,List.not_mem_nil,or_false] at hb;omega))).ext hs4).st (hs6.mono (by simp))).st (hs7.mono (by simp))
   refine Qf<|Qg<|Qc<|xie hE7 rfl rfl hlt λa54 h54=>?_
   rw[he] at h54
   refine x (QC h54 rfl rfl)<|xl rfl<|Qt (us:=[.int .i64 0,.int .i64 0,.int .i64 0]) rfl λb12 w8 hs8 hb12 hB12=>xl rfl<|Qn (us:=Qy e) hB12 rfl rfl rfl rfl ⟨rfl,rfl,rfl,trivial⟩ λw9 hs9 hB12'=>xe ?_
   have hs79:Step [] w7 w9:=hs8.then1 hs9 hb12
   have hz9:=hs79.size
   have hR9:=hR7.ext hs79
   have hrow:=hR9.own _ htn
   have hIn:∀b∈ob (rv e.2.2.toNat),w6.heap.size≤b∧b<w7.heap.size:=λb hb=>⟨(Qk (hR7.own _ htn) b hb).1,QR (hR7.own _ htn) b hb⟩
   have hpn:bp∉ob (rv e.2.2.toNat):=λhb=>by have:=hIn _ hb;omega
   have hmn:bm∉ob (rv e.2.2.toNat):=λhb=>by have:=hIn _ hb;omega
   have h12n:b12∉ob (rv e.2.2.toNat):=λhb=>by have:=hIn _ hb;omega
   have hbp9:=((hbp6.step hs7 hpm7).ext hs79)
   have hM9:=hM7.ext hs79
   have hlk:=hg7 e.2.2.toNat htn
   rw[←hto] at hlk
   refine QS (Step (ob (rv e.2.2.toNat)) w9) [(0,true),(1,true),(2,true),(3,true),(4,true),(5,true),(6,true),(7,true),(8,true),(9,true),(10,true),(11,true),(12,true),(13,true),(14,true),(15,false),(16,false),(17,false)] mixed (by rfl) (by kernel_rfl) (Step.drew _ _) ?_
   refine p (λ_=>Qo)<|p (λ_=>QI rfl)<|p (λ_=>Qa rfl)<|pq (λ_ hc=>Qd (hbp9.step hc hpn) rfl rfl) <|
    p (λ_=>Qa rfl)<|pq (λ_ hc=>Qd (hB12'.step hc h12n) rfl rfl)<|p (λ_=>Qo)<|p (λ_=>QI rfl)<|p (λ_=>Qa rfl) <|
    pq (λ_ hc=>Qd (hbp9.step hc hpn) rfl rfl)<|p (λ_=>Qa rfl)<|pq (λ_ hc=>Qd (hB12'.step hc h12n) rfl rfl) <|
    pq (λ_ hc=>(XW (k:=e.2.2) (hM9.step hc hmn) rfl rfl).trans (congrArg (λv=>Result.ok (Next.value v) _) hlk))<|p (λ_=>Qa rfl)<|pq (λ_ hc=>Qd (hB12'.step hc h12n) rfl rfl) <|
    pk<|QD (us:=[[.int .i64 e.1]]) rfl rfl (by decide) (by simp) ⟨rfl,rfl,trivial⟩ λb71 w10 hs10 hb71 hB71=>⟨(Step.drew _ _).trans hs10,?_⟩
   have hs910:Step [] w9 w10:=(Step.drew _ _).trans hs10
   have hz10:=hs910.size
   refine pk<|QZ (m:=1) (news:=[.int .i64 e.1]) (Qs hrow hs910) rfl rfl rfl (hB71.at (L:=[]) (by simp)) (by simp[Value.oneCell']) (by omega) (by omega) λvr' w11 ho11 hs11 hn11=>⟨hs910.any.trans' hs11,?_⟩
   have hM11:=(hM9.ext hs910).step hs11 hmn
   refine pkl (hl:=by kernel_rfl)<|Xi (k:=e.2.2) hM11 rfl rfl λw12 hs12 hM12=>pe ?_
   have hvn:∀b∈ob vr',b∈ob (rv e.2.2.toNat)∨w9.heap.size≤b:=λb hb=>(hn11 b hb).imp id (λh=>by omega)
   have hR11:=hR9.app htn (Qu.snoc ho11) (hs910.any.trans' hs11) hvn
   have hR12:=hR11.step hs12 (λi hi b hb=>by have:=(Qk (hR11.own i hi) b hb).1;simp only[List.mem_singleton];omega)
   have hfe:Kc (Yl (a.ed.take i)) e.2.2.toNat (Yl (a.ed.take i) e.2.2.toNat++[e.1])=Yl (a.ed.take (i+1)):=by rw[htk];exact funext hsn
   rw[hfe] at hR12
   refine Qw<|QO rfl rfl<|Qb<|xe ?_
   refine ⟨(i+1,Kc rv e.2.2.toNat vr',mput m e.2.2 vr'),by simp only[];omega,⟨rfl,trivial⟩,hlt,?_,hM12,hR12,λs hs=>?_⟩
   ·exact (((hs7.trans hs79).trans hs910).then hs11 (λb hb=>.inr (hIn b hb).1)).trans' hs12
   ·simp only[]
    rw[X3]
    by_cases hse:s=e.2.2.toNat
    ·subst hse
     rw[if_pos hto,ZQ]
    ·rw[if_neg (by omega),Yf _ _ hse]
     exact hg7 s hs
  refine Qi ?_
  have hjlt:j<rm.length:=by have h40:(j:Int)<(rm.length:Int):=h39;omega
  have hxj:=hrb _ (List.getElem_mem hjlt)
  have htk:rm.take (j+1)=rm.take j++[rm[j]'hjlt]:=List.take_succ_eq_append_getElem hjlt
  refine Zd (rm[j]'hjlt) λs hs=>?_
  rw[hs] at hxj htk
  have hsn:s=(s.toNat:Int):=by omega
  have hlen:((rm.take j).foldl cut (List.replicate n true)).length=n:=by rw[US];simp
  refine Qf<|Qg<|Qc<|xii (i:=j) ((h1r.ext hs4).st hs6) rfl rfl hjlt λa40 h40=>?_
  rw[hs] at h40
  refine x (Qv h40 rfl)<|Qe<|Qw<|Qb<|x (QI rfl)<|x (Qa rfl)<|x (Qd (hBp.step hs6 hpL) rfl rfl)<|Qb<|x (Zk (i:=s.toNat) rfl (congrArg (Value.int .i64) hsn) (by omega)) <|
   xl rfl<|Uv (i:=s.toNat) hBl6 rfl rfl (by omega) λw7 hs7 hBl7=>xe ?_
  refine Qw<|QO rfl rfl<|Qb<|xe ?_
  refine ⟨j+1,by omega,⟨rfl,trivial⟩,hjlt,hs6.trans' hs7,?_⟩
  rw[htk,List.foldl_append]
  exact hBl7
 refine Qi ?_
 have hlt:k<n:=by have h28:(k:Int)<(n:Int):=h27;omega
 have hbp5:=hBp.step hs5 hpL
 refine Qf<|Qg<|Qc<|Qb<|Qe<|Qw<|Qb<|x (QI rfl)<|x (Qa rfl)<|x (Qd hbp5 rfl rfl)<|Qb<|x (Zk (i:=k) rfl rfl (by omega)) <|
  xl rfl<|Uv (i:=k) hBl5 rfl rfl (by rw[QjI];exact hlt) λw6 hs6 hBl6=>xe ?_
 have hst:(bA n (λi=>decide (i<k))).set k true=bA n (λi=>decide (i<k+1)):=QjH (by simp) (λi _ hi=>by
  by_cases e:i<k
  ·simp[e];omega
  ·simp[e];omega)
 rw[hst] at hBl6
 refine Qw<|QO rfl rfl<|Qb<|xe ?_
 exact ⟨k+1,by omega,⟨rfl,trivial⟩,hlt,hs5.trans' hs6,hBl6⟩
theorem UV {l r:LI}{i:Nat}(h:i<l.length):cget (l++r) i=cget l i:=by
 unfold cget;simp[List.getD,List.getElem?_append_left h]
set_option maxHeartbeats 4000000 in
theorem K7 {w:World}{bp:Nat}{q:Pz}{lf:Lf}(hA:yo [] w.heap bp q) (hq:PzQ q) (hB:Q2 w.heap q.bl 4 (lf.map Value.bool)) (hl:lf.length=q.n) :
  QJ prog 217 [.pointer (some ⟨bp,0,none⟩)] w λr w'=>Step [] w w'∧∃b,r=.slice (some ⟨b,0,none⟩) q.n q.n∧w.heap.size≤b∧Q2 w'.heap b 3 ((dsts q.a lf).map (Value.int .i64))∧(dsts q.a lf).length=q.n:=by
 have hn:=hq.n
 have hst1:=hq.ok.st1
 have hmr:=hq.ok.mr
 have hml:=hq.ok.mr_le
 have hel:=hq.ok.ed_le
 have hnt:q.a.st.toNat=q.n:=by omega
 have hd0:=Qjq (lf:=lf) hq.ok hn
 have hdt:(dsL q.a.ed lf q.n 0 (ds0 q.a lf)).1=dsts q.a lf:=by unfold dsts;rw[hnt]
 refine Zd (dsts q.a lf) λDD hDD=>?_
 rw[hDD] at hdt ⊢
 refine QJ.of_W func217 rfl ntmps217 results217 (by simp) ?_
 refine Qc<|Qe<|Qc<|Qb<|x (QI rfl)<|x (Qa rfl)<|x (Qa rfl)<|x (Qd hA.B rfl rfl)<|xl rfl<|Vr (n:=q.n) (congrArg (Value.int .i64) hn) (congrArg (Value.int .i64) hn) (by omega) λbO w1 hs1 hbO hBO=>Qe ?_
 rw[QcL] at hBO
 refine Qf<|Qc<|Qb<|x (Qr (L:=[]) (hBO.arr (by simp) (n:=q.n) (cap:=q.n) (sz:=1) (by simp[gA]) (by omega) (Nat.le_refl _)) rfl)<|Qb<|xe ?_
 refine Qg<|QA (α:=Nat) [(4,4),(19,25)] (λz=>[(19,.int .i64 z)]) (λz w'=>z≤q.n∧Step [] w w'∧Q2 w'.heap bO 3 ((gA q.n (λj=>if j<z then -1 else 0)).map (Value.int .i64))) (λz=>q.n - z) (by rfl) 0 ⟨rfl,trivial⟩ ⟨Nat.zero_le _,hs1,hBO⟩ ?_
 rintro j g w2 ⟨hj,hs2,hBO2⟩
 refine Qc<|x (QB rfl rfl)<|xe ?_
 refine Qf<|QG rfl (λh20=>?_) (λh20=>?_)
 ·refine Qx ?_
  have hjn:j=q.n:=by have h21:¬(j:Int)<(q.n:Int):=h20;omega
  have hg0:gA q.n (λi=>if i<j then -1 else 0)=((q.a.mr.take 0).foldl (ym lf) (List.replicate q.n (-1),[])).1:=by
   apply List.ext_getElem
   ·simp[gA]
   ·intro i h1 h2
    have:i<q.n:=by simpa[gA] using h1
    simp[gA];omega
  rw[hg0] at hBO2
  refine Qc<|Qe<|Qf<|Qc<|Qb<|x (QI rfl)<|x (Qa rfl)<|x (Qa rfl)<|x (Qd (hA.ext hs2).B rfl rfl)<|x (Qr (hA.ext hs2).a.mr rfl)<|Qb<|xe ?_
  refine Qg<|QA (α:=Nat×Value) [(5,5),(7,7),(32,50)] (λz=>[(5,z.2),(32,.int .i64 z.1)]) (λz w'=>z.1≤q.a.mr.length∧Step [] w w'∧w2.heap.size≤w'.heap.size∧Q2 w'.heap bO 3 (((q.a.mr.take z.1).foldl (ym lf) (List.replicate q.n (-1),[])).1.map (Value.int .i64)) ∧
   Qu 3 w2.heap.size w' z.2 ((q.a.mr.take z.1).foldl (ym lf) (List.replicate q.n (-1),[])).2) (λz=>q.a.mr.length - z.1) (by rfl) (0,nS) ⟨rfl,rfl,trivial⟩ ⟨Nat.zero_le _,hs2,Nat.le_refl _,hBO2,QP _ _ _ _⟩ ?_
  rintro ⟨k,vl⟩ g w3 ⟨hk,hs3,hz3,hBO3,hO3⟩
  simp only[] at hk hBO3 hO3
  have htk0:=js (lf:=lf) (λx hx=>(hmr x hx).1) k
  rw[hnt] at htk0
  have hbo:=hBO3.lt
  refine Qc<|x (QB rfl rfl)<|xe ?_
  refine Qf<|QG rfl (λh33=>?_) (λh33=>?_)
  ·refine Qx ?_
   have hke:q.a.mr.length≤k:=by have h34:¬(k:Int)<(q.a.mr.length:Int):=h33;omega
   have e0:(q.a.mr.take k).foldl (ym lf) (List.replicate q.n (-1),[])=ds0 q.a lf:=by rw[List.take_of_length_le hke];unfold ds0;rw[hnt]
   rw[e0] at hBO3 hO3
   have hbO2:bO<w2.heap.size:=hBO2.lt
   refine Qf<|Qc<|Qe<|Qg<|QA (α:=Nat×Nat×Value×LI×LI) [(5,5),(8,8),(10,10),(51,100)] (λz=>[(5,z.2.2.1),(8,.int .i64 z.2.1)])
    (λz w'=>Step [] w w'∧w2.heap.size≤w'.heap.size∧Q2 w'.heap bO 3 (z.2.2.2.1.map (Value.int .i64))∧Qu 3 w2.heap.size w' z.2.2.1 z.2.2.2.2∧DsI q.n z.2.2.2∧z.1+z.2.1=q.n∧(dsL q.a.ed lf z.1 z.2.1 z.2.2.2).1=DD) (λz=>q.n - z.2.1) (by rfl) (q.n,0,vl,(ds0 q.a lf).1,(ds0 q.a lf).2) ⟨rfl,rfl,trivial⟩
    ⟨hs3,hz3,hBO3,hO3,hd0,rfl,hdt⟩ ?_
   rintro ⟨f,i,vl,o,l⟩ g w4 ⟨hs4,hz4,hBO4,hO4,hI4,hfi,hres⟩
   simp only[] at hz4 hBO4 hO4 hI4 hfi hres
   have hll:=hI4.le
   have hol:=hI4.ok.len
   simp only[] at hll hol
   have hA4:=hA.ext hs4
   refine Qf<|Qc<|Qb<|Qb<|x (Qr (L:=[]) (QT hO4 (by omega) (by simp)) rfl)<|x (QB rfl rfl)<|xe ?_
   refine QG rfl (λh54=>?_) (λh54=>?_)
   ·refine Qx ?_
    have hie:¬i<l.length:=by have h55:¬(i:Int)<(l.length:Int):=h54;omega
    rw[Qfw hie] at hres
    simp only[] at hres
    subst hres
    refine Qc<|Qb<|Qe ?_
    exact Ql ⟨[.slice (some ⟨bO,0,none⟩) q.n q.n],⟨rfl,trivial⟩,hs4,bO,rfl,hbO,hBO4,hol⟩
   refine Qi ?_
   have hil:i<l.length:=by have h55:(i:Int)<(l.length:Int):=h54;omega
   refine Exists.elim (Nat.exists_eq_succ_of_ne_zero (show f≠0 by omega)) λf' hfe=>?_
   subst hfe
   rw[dsL,if_pos hil] at hres
   have hli:=Zl hil
   have hsr:=hI4.ok.q _ (X6 hil)
   have hs0:=hI4.s0 _ (X6 hil)
   refine Zd (cget l i) λs hs=>?_
   rw[hs] at hres hsr hli
   simp only[] at hsr hs0
   rw[hs] at hs0
   have hsn:s=(s.toNat:Int):=by omega
   have hlk:=hA4.g s.toNat (by omega)
   rw[←hsn] at hlk
   have hRw:=hA4.R s.toNat (by omega)
   have hil2:=Vw q.a.ed s.toNat
   refine Qf<|Qg<|Qf<|QS (Step [] w4) [(0,true),(1,true),(2,true),(3,true),(4,true),(5,true),(6,true),(7,true),(8,true),(9,true),(10,true)] mixed (by rfl) (by kernel_rfl) (Step.drew _ _) ?_
   refine p (λ_=>Qo)<|p (λ_=>QI rfl)<|p (λ_=>Qa rfl)<|pq (λ_ hc=>Qd (hA4.B.ext hc) rfl rfl)<|p (λ_=>Qo)<|p (λ_=>Qo) <|
    pii (i:=i) rfl (QT (L:=[]) hO4 (by omega) (by simp)) rfl rfl hil λa63 h63=>?_
   rw[hli] at h63
   refine pq (λ_ hc=>Qv (h63.ext hc) rfl)<|pq (λ_ hc=>(XW (k:=s) (hA4.M.ext hc) rfl rfl).trans (congrArg (λv=>Result.ok (Next.value v) _) hlk))<|p (λ_=>Qr hRw rfl)<|p (λ_=>Qo)<|pe ?_
   have hd4:Step [] w4 { w4 with drawn:=w4.drawn+1 }:=Step.drew _ _
   refine Qg<|QA (α:=Nat×Value×LI×LI) [(5,5),(10,10),(67,100)] (λz=>[(5,z.2.1),(67,.int .i64 z.1)])
    (λz w'=>z.1≤(Yl q.a.ed s.toNat).length∧Step [] w w'∧w2.heap.size≤w'.heap.size∧Q2 w'.heap bO 3 (z.2.2.1.map (Value.int .i64))∧Qu 3 w2.heap.size w' z.2.1 z.2.2.2∧DsI q.n z.2.2∧0≤cget z.2.2.1 s.toNat∧i<z.2.2.2.length∧cget z.2.2.2 i=s ∧
     ((Yl q.a.ed s.toNat).drop z.1).foldl (dsE lf s) z.2.2=(Yl q.a.ed s.toNat).foldl (dsE lf s) (o,l)) (λz=>(Yl q.a.ed s.toNat).length - z.1) (by rfl) (0,vl,o,l) ⟨rfl,rfl,trivial⟩
    ⟨Nat.zero_le _,hs4.trans hd4,Nat.le_trans hz4 hd4.size,hBO4.ext hd4,Qs hO4 hd4,hI4,hs0,hil,hs,rfl⟩ ?_
   rintro ⟨m,vl2,o2,l2⟩ g w5 ⟨hm,hs5,hz5,hBO5,hO5,hI5,hos5,hil5,hci5,hfo⟩
   simp only[] at hm hz5 hBO5 hO5 hI5 hos5 hil5 hci5 hfo
   have hA5:=hA.ext hs5
   have hll5:=hI5.le
   have hol5:=hI5.ok.len
   simp only[] at hll5 hol5
   refine Qc<|x (QB rfl rfl)<|xe ?_
   refine Qf<|QG rfl (λh68=>?_) (λh68=>?_)
   ·refine Qx ?_
    have hme:(Yl q.a.ed s.toNat).length≤m:=by have h69:¬(m:Int)<((Yl q.a.ed s.toNat).length:Int):=h68;omega
    rw[List.drop_of_length_le hme] at hfo
    simp only[List.foldl_nil] at hfo
    rw[←hfo] at hres
    refine Qw<|Qb<|QO rfl rfl<|Qe ?_
    exact ⟨(f',i+1,vl2,o2,l2),by simp only[];omega,⟨rfl,rfl,trivial⟩,hs5,hz5,hBO5,hO5,hI5,by simp only[];omega,hres⟩
   refine Qi ?_
   have hmlt:m<(Yl q.a.ed s.toNat).length:=by have h69:(m:Int)<((Yl q.a.ed s.toNat).length:Int):=h68;omega
   have hpm:=QcM (List.getElem_mem hmlt)
   have hdr:=QX hmlt
   rw[hdr,List.foldl_cons] at hfo
   refine Zd ((Yl q.a.ed s.toNat)[m]'hmlt) λy hy=>?_
   rw[hy] at hpm hfo
   have hyb:0≤y∧y<(q.n:Int):=by
    obtain ⟨e,he,h1,_⟩:=hpm
    have:=hq.ok.ed e he
    omega
   have hyn:y=(y.toNat:Int):=by omega
   have hyl:y.toNat<o2.length:=by omega
   have hsl:s.toNat<o2.length:=by omega
   have hvs:=hI5.ok.le _ (X6 hsl)
   simp only[] at hvs
   have hE:=Qfx (lf:=lf) hI5 hsr hos5 hyb
   have hlft:=Vv (l:=lf) (s:=y) (by omega)
   have hngl:=Qew o2
   refine Qf<|Qg<|Qc<|xii (i:=m) ((hA5.R s.toNat (by omega))) rfl rfl hmlt λa69 h69=>?_
   rw[hy] at h69
   refine x (Qv h69 rfl)<|Qe<|QU (α:=Bool) [(71,84)] (λz=>[(84,.bool z)]) (λz w'=>w'=w5∧z=(lft lf y && decide (cget o2 y.toNat<0))) (by rfl) ?_ ?_
   ·refine Qw ?_
    have hld:∀{P:Prop},(∀b,lft lf y=b→P)→P:=λh=>h _ rfl
    refine Qb<|x (QI rfl)<|x (Qa rfl)<|x (Qd hA5.B rfl rfl)<|Qb<|x (Zk (i:=y.toNat) rfl (congrArg (Value.int .i64) hyn) (by omega))<|x (XD (i:=y.toNat) (hB.ext hs5) rfl (by omega))<|?_
    rw[hlft]
    cases lft lf y with
    | true =>
     refine Qb<|Qb<|Qb<|x (Zk (i:=y.toNat) rfl (congrArg (Value.int .i64) hyn) (by omega))<|x (V7 (i:=y.toNat) hBO5 rfl hyl)<|x (QB rfl rfl)<|x (Qm rfl)<|xe ?_
     exact ⟨_,⟨rfl,trivial⟩,rfl,by rw[Zl hyl];rfl⟩
    | false =>
     refine Qb<|xs rfl<|xs rfl<|xs rfl<|xs rfl<|xs rfl<|x (Qm rfl)<|xe ?_
     exact ⟨_,⟨rfl,trivial⟩,rfl,rfl⟩
   rintro z g w5' ⟨rfl,rfl⟩
   refine Q5 rfl (λh84=>?_) (λh84=>?_)
   ·rw[Bool.and_eq_true,decide_eq_true_eq] at h84
    have hEq:dsE lf s (o2,l2) y=(o2.set y.toNat (cget o2 s.toNat+1),l2++[y]):=by unfold dsE;rw[if_pos h84]
    rw[hEq] at hfo hE
    have hcs:=Zl hsl
    have hci:=Zl hil5
    rw[hci5] at hci
    refine Qc<|Qb<|Qb<|Qb<|Qb<|Qb<|xii (i:=i) (QT (L:=[]) hO5 (by omega) (by simp)) rfl rfl hil5 λa90 h90=>?_
    rw[hci] at h90
    refine x (Qv h90 rfl)<|x (Zk (i:=s.toNat) rfl (congrArg (Value.int .i64) hsn) (by omega))<|x (V7 (i:=s.toNat) hBO5 rfl hsl)<|x (XY rfl rfl ⟨by omega,by omega⟩) <|
     x (Zk (i:=y.toNat) rfl (congrArg (Value.int .i64) hyn) (by omega))<|xl rfl<|X0 (i:=y.toNat) hBO5 rfl rfl hyl λw6 hs6 hBO6=>xe ?_
    rw[hcs] at hBO6
    have hz6:=hs6.size
    have hnO:∀b∈ob vl2,b∉[bO]:=λb hb=>by have:=Qk hO5 b hb;simp only[List.mem_singleton];omega
    have hO6:Qu 3 w2.heap.size w6 vl2 l2:=Qj hO5 hs6 hnO
    have hs06:Step [] w w6:=hs5.then1 hs6 hbO
    refine Qw<|Qb<|Qb<|xl rfl<|QD (us:=[[.int .i64 y]]) rfl rfl (by decide) (by simp) ⟨rfl,rfl,trivial⟩ λb98 w7 hs7 hb98 hB98=>xl rfl<|QZ (m:=1) (news:=[.int .i64 y]) (Qs hO6 hs7) rfl rfl rfl (hB98.at (L:=[]) (by simp)) (by simp[Value.oneCell']) (by omega) (by have:=hs7.size;omega) λvl3 w8 hO8 hs8 hn8 =>
     Qe ?_
    have hz7:=hs7.size
    have hz8:=hs8.size
    refine Qw<|QO rfl rfl<|Qb<|xe ?_
    refine ⟨(m+1,vl3,_,l2++[y]),by simp only[];omega,⟨rfl,rfl,trivial⟩,hmlt,(hs06.trans hs7).then hs8 (λb hb=>.inr (by have:=Qk hO6 b hb;have:=hs1.size;have:=hs2.size;omega)),by omega,(hBO6.ext hs7).step hs8 (λhb=>by have:=Qk hO6 _ hb;omega),Qu.snoc hO8,hE.1,hE.2,by simp only[List.length_append];omega,by rw[UV hil5];exact hci5,hfo⟩
   ·have hEq:dsE lf s (o2,l2) y=(o2,l2):=by
     unfold dsE;rw[if_neg]
     intro hc
     rw[hc.1,decide_eq_true hc.2] at h84
     cases h84
    rw[hEq] at hfo
    refine Qi<|Qw<|QO rfl rfl<|Qb<|xe ?_
    exact ⟨(m+1,vl2,o2,l2),by simp only[];omega,⟨rfl,rfl,trivial⟩,hmlt,hs5,hz5,hBO5,hO5,hI5,hos5,hil5,hci5,hfo⟩
  refine Qi ?_
  have hklt:k<q.a.mr.length:=by have h34:(k:Int)<(q.a.mr.length:Int):=h33;omega
  have hxk:=hmr _ (List.getElem_mem hklt)
  have htk:q.a.mr.take (k+1)=q.a.mr.take k++[q.a.mr[k]'hklt]:=List.take_succ_eq_append_getElem hklt
  have hfol:(q.a.mr.take (k+1)).foldl (ym lf) (List.replicate q.n (-1),[])=ym lf ((q.a.mr.take k).foldl (ym lf) (List.replicate q.n (-1),[])) (q.a.mr[k]'hklt):=by rw[htk,List.foldl_append];rfl
  have hzlen:((q.a.mr.take k).foldl (ym lf) (List.replicate q.n (-1),[])).1.length=q.n∧((q.a.mr.take k).foldl (ym lf) (List.replicate q.n (-1),[])).2.length≤q.a.mr.length:=by
   rw[htk0]
   exact ⟨Vb _ _,Nat.le_trans (List.length_filter_le _ _) (by rw[List.length_take];omega)⟩
  refine Zd ((q.a.mr.take k).foldl (ym lf) (List.replicate q.n (-1),[])) λz hz=>?_
  rw[hz] at hBO3 hO3 hfol hzlen
  refine Zd (q.a.mr[k]'hklt) λy hy=>?_
  rw[hy] at hxk hfol
  have hyn:y=(y.toNat:Int):=by omega
  have hyl:y.toNat<z.1.length:=by omega
  have hlft:=Vv (l:=lf) (s:=y) (by omega)
  have hA3:=hA.ext hs3
  refine Qf<|Qg<|Qc<|xii (i:=k) hA3.a.mr rfl rfl hklt λa34 h34=>?_
  rw[hy] at h34
  refine x (Qv h34 rfl)<|Qe<|Qc<|Qb<|x (QI rfl)<|x (Qa rfl)<|x (Qd hA3.B rfl rfl)<|Qb<|x (Zk (i:=y.toNat) rfl (congrArg (Value.int .i64) hyn) (by omega))<|x (XD (i:=y.toNat) (hB.ext hs3) rfl (by omega))<|xe ?_
  rw[hlft]
  refine Q5 rfl (λh42=>?_) (λh42=>?_)
  ·have e1:ym lf z y=(z.1.set y.toNat 0,z.2++[y]):=by unfold ym;rw[if_pos h42]
   rw[e1] at hfol
   refine Qc<|Qb<|Qb<|x (Zk (i:=y.toNat) rfl (congrArg (Value.int .i64) hyn) (by omega))<|xl rfl<|X0 (i:=y.toNat) hBO3 rfl rfl hyl λw4 hs4 hBO4=>xe ?_
   have hz4:=hs4.size
   have hbO2:bO<w2.heap.size:=hBO2.lt
   have hO4:Qu 3 w2.heap.size w4 vl z.2:=Qj hO3 hs4 (λb hb=>by have:=Qk hO3 b hb;simp only[List.mem_singleton];omega)
   refine Qw<|Qb<|Qb<|xl rfl<|QD (us:=[[.int .i64 y]]) rfl rfl (by decide) (by simp) ⟨rfl,rfl,trivial⟩ λb48 w5 hs5 hb48 hB48=>xl rfl<|QZ (m:=1) (news:=[.int .i64 y]) (Qs hO4 hs5) rfl rfl rfl (hB48.at (L:=[]) (by simp)) (by simp[Value.oneCell']) (by omega) (by have:=hs5.size;omega) λvl3 w6 hO6 hs6 hn6 =>
    Qe ?_
   have hz5:=hs5.size
   have hz6:=hs6.size
   refine Qw<|QO rfl rfl<|Qb<|xe ?_
   refine ⟨(k+1,vl3),by simp only[];omega,⟨rfl,rfl,trivial⟩,hklt,((hs3.then1 hs4 hbO).trans hs5).then hs6 (λb hb=>.inr (by have:=Qk hO4 b hb;have:=hs2.size;omega)),by omega,?_,?_⟩
   ·simp only[];rw[hfol]
    exact (hBO4.ext hs5).step hs6 (λhb=>by have:=Qk hO4 _ hb;omega)
   ·simp only[];rw[hfol]
    exact Qu.snoc hO6
  ·have e1:ym lf z y=z:=by unfold ym;rw[if_neg (by rw[h42];decide)]
   rw[e1] at hfol
   refine Qi<|Qw<|QO rfl rfl<|Qb<|xe ?_
   exact ⟨(k+1,vl),by simp only[];omega,⟨rfl,rfl,trivial⟩,hklt,hs3,hz3,by simp only[];rw[hfol];exact hBO3,by simp only[];rw[hfol];exact hO3⟩
 refine Qi ?_
 have hjn:j<q.n:=by have h21:(j:Int)<(q.n:Int):=h20;omega
 refine Qf<|Qg<|Qc<|Qb<|Qe<|Qw ?_
 have hst:(gA q.n (λi=>if i<j then -1 else 0)).set j (-1)=gA q.n (λi=>if i<j+1 then -1 else 0):=Qje (by rw[if_pos (by omega)]) (λi _ hi=>by
  by_cases e:i<j
  ·rw[if_pos e,if_pos (by omega)]
  ·rw[if_neg e,if_neg (by omega)])
 refine Qb<|Qb<|x (Zk (i:=j) rfl rfl (by omega))<|xl rfl<|Qek (i:=j) hBO2 rfl rfl hjn hst λw6 hs6 hBO6=>xe ?_
 refine Qw<|QO rfl rfl<|Qb<|xe ?_
 exact ⟨j+1,by omega,⟨rfl,trivial⟩,hjn,hs2.then1 hs6 hbO,hBO6⟩
abbrev yH (rk rs:Int) (x:Int×Int):LV:=[.int .i64 x.1,.int .i64 rk,.int .i64 rs,.int .i64 x.2]
theorem Qbc (rk rs:Int) (x:Int×Int):(yH rk rs x).length=4:=rfl
abbrev RmO (base:Nat) (w:World) (v:Value) (rk rs:Int) (l:List (Int×Int)):Prop:=w.ownsRow base 320 4 v l.length (l.flatMap (yH rk rs))
theorem RmO.snoc {base:Nat}{w:World}{v:Value}{rk rs:Int}{l:List (Int×Int)}{x:Int×Int}(h:w.ownsRow base 320 4 v (l.length+1) (l.flatMap (yH rk rs)++yH rk rs x)):RmO base w v rk rs (l++[x]):=by
 unfold RmO
 rw[List.length_append,List.flatMap_append];simpa using h
theorem QeG {a:QV}{ul:LI}{lf:Lf}{k:Nat}(h:k<a.ed.length):(a.ed.take (k+1)).foldl (JE ul lf) []=JE ul lf ((a.ed.take k).foldl (JE ul lf) []) (a.ed[k]'h):=by
 rw[List.take_succ_eq_append_getElem h,List.foldl_append];rfl
set_option maxHeartbeats 4000000 in
theorem Qeh {w:World}{bp:Nat}{q:Pz}{lf:Lf}(hA:yo [] w.heap bp q) (hq:PzQ q) (hB:Q2 w.heap q.bl 4 (lf.map Value.bool)) (hl:lf.length=q.n) (rk:Int) :
  QJ prog 264 [.pointer (some ⟨bp,0,none⟩),.int .i64 rk] w λr w'=>Step [] w w'∧RmO w.heap.size w' r rk 2 (lost q.a q.unc lf):=by
 have hn:=hq.n
 have hst1:=hq.ok.st1
 have hel:=hq.ok.ed_le
 refine QJ.of_W func264 rfl ntmps264 results264 (by simp) ?_
 refine Qc<|Qe<|Qc<|Qe<|Qf<|Qc<|Qb<|x (QI rfl)<|x (Qa rfl)<|x (Qa rfl)<|x (Qd hA.B rfl rfl)<|x (Qr hA.a.ed rfl)<|Qb<|xe ?_
 refine Qg<|QA (α:=Nat×Value) [(5,5),(7,8),(15,72)] (λz=>[(5,z.2),(15,.int .i64 z.1)]) (λz w'=>z.1≤q.a.ed.length∧Step [] w w'∧RmO w.heap.size w' z.2 rk 2 ((q.a.ed.take z.1).foldl (JE q.unc lf) [])) (λz=>q.a.ed.length - z.1) (by rfl) (0,nS) ⟨rfl,rfl,trivial⟩ ⟨Nat.zero_le _,Step.refl _ _,QP _ _ _ _⟩ ?_
 rintro ⟨k,vo⟩ g w1 ⟨hk,hs1,hO1⟩
 simp only[] at hk hO1
 have hol:=(Uz (a:=q.a) (ul:=q.unc) (lf:=lf) (q.a.ed.take k) [] (λe he=>List.mem_of_mem_take he) (λp hp=>by cases hp)).2
 rw[List.length_take] at hol
 refine Qc<|x (QB rfl rfl)<|xe ?_
 refine Qf<|QG rfl (λh16=>?_) (λh16=>?_)
 ·refine Qx ?_
  have hke:q.a.ed.length≤k:=by have h17:¬(k:Int)<(q.a.ed.length:Int):=h16;omega
  rw[List.take_of_length_le hke] at hO1
  refine Qc<|Qb<|Qe ?_
  exact Ql ⟨[_],⟨rfl,trivial⟩,hs1,hO1⟩
 refine Qi ?_
 have hlt:k<q.a.ed.length:=by have h17:(k:Int)<(q.a.ed.length:Int):=h16;omega
 have hek:=hq.ok.ed _ (List.getElem_mem hlt)
 have htk:=QeG (ul:=q.unc) (lf:=lf) hlt
 refine Zd ((q.a.ed.take k).foldl (JE q.unc lf) []) λout hout=>?_
 rw[hout] at hO1 htk hol
 refine Zd (q.a.ed[k]'hlt) λe he=>?_
 rw[he] at hek htk
 simp only[List.length_nil] at hol
 have hfn:e.1=(e.1.toNat:Int):=by omega
 have htn:e.2.2=(e.2.2.toNat:Int):=by omega
 have hlf:=Vv (l:=lf) (s:=e.1) (by omega)
 have hlt2:=Vv (l:=lf) (s:=e.2.2) (by omega)
 have hA1:=hA.ext hs1
 refine Qf<|Qg<|Qc<|xie hA1.a.ed rfl rfl hlt λa17 h17=>?_
 rw[he] at h17
 refine x (QC h17 rfl rfl)<|xl rfl<|Qt (us:=[.int .i64 0,.int .i64 0,.int .i64 0]) rfl λb7 w2 hs2 hb7 hB7=>xl rfl<|Qn (us:=Qy e) hB7 rfl rfl rfl rfl ⟨rfl,rfl,rfl,trivial⟩ λw3 hs3 hB7'=>xe ?_
 have hs13:Step [] w1 w3:=hs2.then1 hs3 hb7
 have hs03:=hs1.trans hs13
 have hA3:=hA.ext hs03
 have hB3:=hB.ext hs03
 have hO3:=Qs hO1 hs13
 refine Qf<|QU (α:=Bool) [(19,47)] (λz=>[(47,.bool z)]) (λz w'=>Step [] w3 w'∧(z=true↔(lft lf e.1=false∨lft lf e.2.2=true∨e.2.1∉q.unc))) (by rfl) ?_ ?_
 ·refine QS (Step [] w3) [(0,true),(1,true),(2,true),(3,true),(4,true),(5,true),(6,true),(7,true),(8,true),(9,true),(10,true),(11,true),(12,true),(13,true),(14,true),(15,true),(16,true),(17,true),(18,true),(19,true),(20,true),(21,true),(22,true),(23,true),(24,true),(25,true),(26,false),(27,true),(28,true)] mixed (by rfl) (by kernel_rfl) (Step.drew _ _) ?_
  refine p (λ_=>Qo)<|p (λ_=>QI rfl)<|p (λ_=>Qa rfl)<|pq (λ_ hc=>Qd (hA3.B.ext hc) rfl rfl)<|p (λ_=>Qa rfl)<|pq (λ_ hc=>Qd (hB7'.ext hc) rfl rfl) <|
   p (λ_=>Zk (i:=e.1.toNat) rfl (congrArg (Value.int .i64) hfn) (by omega))<|pq (v:=.bool (lft lf e.1)) (λ_ hc=>(XD (i:=e.1.toNat) (hB3.ext hc) rfl (by omega)).trans (by rw[hlf]))<|pB (λ_=>Zn rfl) (λh27=>?_) (λh27=>?_)
  ·refine p (λ_=>Qo)<|ps<|ps<|ps<|ps<|ps<|ps<|ps<|ps<|p (λ_=>Qm rfl)<|p (λ_=>Qo)<|ps<|ps<|ps<|ps<|ps<|ps<|ps<|ps<|p (λ_=>Qm rfl)<|pe ?_
   exact ⟨_,⟨rfl,trivial⟩,Step.drew _ _,by simp at h27;simp[h27]⟩
  refine p (λ_=>Qo)<|p (λ_=>Qo)<|p (λ_=>QI rfl)<|p (λ_=>Qa rfl)<|pq (λ_ hc=>Qd (hA3.B.ext hc) rfl rfl)<|p (λ_=>Qa rfl)<|pq (λ_ hc=>Qd (hB7'.ext hc) rfl rfl) <|
   p (λ_=>Zk (i:=e.2.2.toNat) rfl (congrArg (Value.int .i64) htn) (by omega))<|?_
  refine pqB (b:=lft lf e.2.2) (λ_ hc=>(XD (i:=e.2.2.toNat) (hB3.ext hc) rfl (by omega)).trans (by rw[hlt2])) (λh36=>?_) (λh36=>?_)
  ·refine p (λ_=>Qm rfl)<|p (λ_=>Qo)<|ps<|ps<|ps<|ps<|ps<|ps<|ps<|ps<|p (λ_=>Qm rfl)<|pe ?_
   exact ⟨_,⟨rfl,trivial⟩,Step.drew _ _,by simp[h36]⟩
  refine p (λ_=>Qm rfl)<|p (λ_=>Qo)<|p (λ_=>Qo)<|p (λ_=>QI rfl)<|p (λ_=>Qa rfl)<|pq (λ_ hc=>Qd (hA3.B.ext hc) rfl rfl) <|
   p (λ_=>Qa rfl)<|pq (λ_ hc=>Qd (hB7'.ext hc) rfl rfl)<|pk<|xf<|(ZI (hA3.u.ext (Step.drew _ _)) e.2.1).mono ?_
  rintro r4 w4 ⟨rfl,rfl⟩
  refine ⟨Step.drew _ _,?_⟩
  refine p (λ_=>Us rfl)<|p (λ_=>Qm rfl)<|pe ?_
  exact ⟨_,⟨rfl,trivial⟩,Step.drew _ _,by simp at h27;simp[h27,h36]⟩
 rintro z g w4 ⟨hs4,hz⟩
 have hs04:=hs03.trans hs4
 have hO4:=Qs hO3 hs4
 have hB7:=hB7'.ext hs4
 refine Q5 rfl (λh47=>?_) (λh47=>?_)
 ·refine Qx ?_
  have e1:JE q.unc lf out e=out:=by unfold JE;rw[if_pos (hz.1 h47)]
  rw[e1] at htk
  refine Qw<|QO rfl rfl<|Qb<|xe ?_
  exact ⟨(k+1,vo),by simp only[];omega,⟨rfl,rfl,trivial⟩,hlt,hs04,by simp only[];rw[htk];exact hO4⟩
 refine Qi ?_
 have hzn:¬(lft lf e.1=false∨lft lf e.2.2=true∨e.2.1∉q.unc):=λh=>by rw[hz.2 h] at h47;cases h47
 have hArr:Zj [] w4.heap vo out.length 4 (out.flatMap (yH rk 2)):=QT hO4 (by omega) (by simp)
 refine Qf<|Qc<|Qb<|x (Qr hArr rfl)<|Qe<|QU (α:=Bool) [(50,62)] (λz=>[(62,.bool z)]) (λz w'=>Step [] w4 w'∧(z=true↔out.getLast?.map (·.1)=some e.1)) (by rfl) ?_ ?_
 ·refine QS (Step [] w4) [(0,true),(1,true),(2,true),(3,true),(4,true),(5,true),(6,true),(7,true),(8,true),(9,true),(10,true),(11,true),(12,true)] mixed (by rfl) (by kernel_rfl) (Step.drew _ _) ?_
  refine p (λ_=>Qo)<|pb (λ_=>ZO rfl rfl) (λh51=>?_) (λh51=>?_)
  ·have hpos:0<out.length:=by have h52:(0:Int)<(out.length:Int):=h51;omega
   have hlast:out.getLast?=some (out[out.length - 1]'(by omega)):=by rw[List.getLast?_eq_getElem?,List.getElem?_eq_getElem]
   refine Zd (out[out.length - 1]'(by omega)) λy hy=>?_
   rw[hy] at hlast
   refine p (λ_=>Qo)<|p (λ_=>Qo)<|p (λ_=>Qo)<|p (λ_=>Jp rfl rfl ⟨by omega,by omega⟩)<|Go.Lg.pig (g:=yH rk 2) (i:=out.length - 1) rfl (Qbc rk 2) hArr rfl (congrArg (Value.int .i64) (show (out.length:Int) - 1=((out.length - 1:Nat):Int) by omega)) (by omega) λa56 h56=>?_
   rw[hy] at h56
   refine p (λ_=>Zc rfl)<|pq (λ_ hc=>Qv ((h56.fld 0 (.int .i64 y.1) rfl).ext hc) rfl)<|p (λ_=>Qa rfl)<|pq (λ_ hc=>Qd (hB7.ext hc) rfl rfl) <|
    p (λ_=>Q7 rfl rfl)<|p (λ_=>Qm rfl)<|pe ?_
   exact ⟨_,⟨rfl,trivial⟩,Step.drew _ _,by rw[hlast];simp⟩
  have h0:out=[]:=List.eq_nil_of_length_eq_zero (by have h52:¬(0:Int)<(out.length:Int):=h51;omega)
  refine p (λ_=>Qo)<|ps<|ps<|ps<|ps<|ps<|ps<|ps<|ps<|ps<|p (λ_=>Qm rfl)<|pe ?_
  exact ⟨_,⟨rfl,trivial⟩,Step.drew _ _,by simp[h0]⟩
 rintro z2 g w5 ⟨hs5,hz2⟩
 have hs05:=hs04.trans hs5
 have hO5:=Qs hO4 hs5
 have hB7:=hB7.ext hs5
 refine Q5 rfl (λh62=>?_) (λh62=>?_)
 ·refine Qx ?_
  have e1:JE q.unc lf out e=out:=by unfold JE;rw[if_neg hzn,if_pos (hz2.1 h62)]
  rw[e1] at htk
  refine Qw<|QO rfl rfl<|Qb<|xe ?_
  exact ⟨(k+1,vo),by simp only[];omega,⟨rfl,rfl,trivial⟩,hlt,hs05,by simp only[];rw[htk];exact hO5⟩
 refine Qi ?_
 have hzn2:¬out.getLast?.map (·.1)=some e.1:=λh=>by rw[hz2.2 h] at h62;cases h62
 have e1:JE q.unc lf out e=out++[(e.1,e.2.1)]:=by unfold JE;rw[if_neg hzn,if_neg hzn2]
 rw[e1] at htk
 refine Qw<|Qb<|x (Qa rfl)<|x (Qd hB7 rfl rfl)<|Qb<|x (Qa rfl)<|x (Qd hB7 rfl rfl)<|x (QE ⟨rfl,rfl,rfl,rfl,trivial⟩) <|
  xl rfl<|QD (us:=[yH rk 2 (e.1,e.2.1)]) rfl rfl (by decide) (by simp) ⟨rfl,rfl,trivial⟩ λb70 w6 hs6 hb70 hB70 =>
  xl rfl<|QZ (m:=1) (news:=yH rk 2 (e.1,e.2.1)) (Qs hO5 hs6) rfl rfl rfl (hB70.at (L:=[]) (by simp)) (by simp[Value.oneCell']) (by omega) (by have:=hs05.size;have:=hs6.size;omega) λvo2 w7 hO7 hs7 hn7=>Qe<|Qw<|QO rfl rfl<|Qb<|xe ?_
 exact ⟨(k+1,vo2),by simp only[];omega,⟨rfl,rfl,trivial⟩,hlt,(hs05.trans hs6).then hs7 (λb hb=>.inr (Qk hO5 b hb).1),by simp only[];rw[htk];exact RmO.snoc hO7⟩
theorem zc (lf:Lf) (d:Int):∀(l:LI) (i:Nat),Kp lf i (l++[d])=Kp lf i l++if lf.getD (i+l.length) false=true∧d<0 then [((i+l.length:Nat):Int)] else []
 | [],i=>by
  simp only[List.nil_append,Kp,List.length_nil,Nat.add_zero]
 | a::l,i=>by
  have ih:=zc lf d l (i+1)
  rw[show i+1+l.length=i+(a::l).length by simp;omega] at ih
  simp only[List.cons_append,Kp,ih]
  by_cases h:lf.getD i false=true∧a<0
  ·rw[if_pos h,if_pos h,List.cons_append]
  ·rw[if_neg h,if_neg h]
abbrev blP (l:LI):List (Int×Int):=l.map λs=>(s,-1)
set_option maxHeartbeats 4000000 in
theorem yP {w:World}{bp:Nat}{q:Pz}{lf:Lf}(hA:yo [] w.heap bp q) (hq:PzQ q) (hB:Q2 w.heap q.bl 4 (lf.map Value.bool)) (hl:lf.length=q.n) (rk:Int) :
  QJ prog 265 [.pointer (some ⟨bp,0,none⟩),.int .i64 rk] w λr w'=>Step [] w w'∧RmO w.heap.size w' r rk 3 (blP (Kp lf 0 (dsts q.a lf)))∧(Kp lf 0 (dsts q.a lf)).length≤q.n:=by
 have hn:=hq.n
 have hst1:=hq.ok.st1
 refine QJ.of_W func265 rfl ntmps265 results265 (by simp) ?_
 refine Qc<|Qe<|Qc<|Qe<|Qf<|Qc<|Qb<|xl rfl<|xf<|(K7 hA hq hB hl).mono ?_
 rintro r1 w1 ⟨hs1,b,rfl,hb,hD1,hDl⟩
 refine Zd (dsts q.a lf) λD hD=>?_
 rw[hD] at hD1 hDl ⊢
 have hArr:QL [] w1.heap (.slice (some ⟨b,0,none⟩) q.n q.n) D:=by
  have h:=hD1.arr (L:=[]) (by simp) (n:=q.n) (cap:=q.n) (sz:=1) (by simp[hDl]) (by omega) (Nat.le_refl _)
  unfold QL;rw[hDl];exact h
 refine x (Qr hArr rfl)<|Qb<|xe ?_
 refine Qg<|QA (α:=Nat×Value) [(5,7),(11,33)] (λz=>[(5,z.2),(11,.int .i64 z.1)]) (λz w'=>z.1≤D.length∧Step [] w1 w'∧RmO w1.heap.size w' z.2 rk 3 (blP (Kp lf 0 (D.take z.1)))) (λz=>D.length - z.1) (by rfl) (0,nS) ⟨rfl,rfl,trivial⟩ ⟨Nat.zero_le _,Step.refl _ _,QP _ _ _ _⟩ ?_
 rintro ⟨k,vo⟩ g w2 ⟨hk,hs2,hO2⟩
 simp only[] at hk hO2
 have hbl:=(Vc lf (D.take k) 0).2
 rw[List.length_take] at hbl
 have hs02:=hs1.trans hs2
 refine Qc<|x (QB rfl rfl)<|xe ?_
 refine Qf<|QG rfl (λh12=>?_) (λh12=>?_)
 ·refine Qx ?_
  have hke:D.length≤k:=by have h13:¬(k:Int)<(D.length:Int):=h12;omega
  rw[List.take_of_length_le hke] at hO2
  refine Qc<|Qb<|Qe ?_
  exact Ql ⟨[_],⟨rfl,trivial⟩,hs02,Zo hO2 hs1.size,by have:=(Vc lf D 0).2;omega⟩
 refine Qi ?_
 have hlt:k<D.length:=by have h13:(k:Int)<(D.length:Int):=h12;omega
 have htk:D.take (k+1)=D.take k++[D[k]'hlt]:=List.take_succ_eq_append_getElem hlt
 have hsn:=zc lf (D[k]'hlt) (D.take k) 0
 rw[←htk,List.length_take,Nat.zero_add,Nat.min_eq_left (by omega)] at hsn
 refine Zd (D[k]'hlt) λd hd=>?_
 rw[hd] at hsn
 refine Zd (Kp lf 0 (D.take k)) λout hout=>?_
 rw[hout] at hsn hO2 hbl
 have hkl:k<lf.length:=by omega
 have hlf:lf[k]'hkl=lf.getD k false:=by simp[List.getD,hkl]
 have hA2:=hA.ext hs02
 refine Qf<|Qg<|Qc<|Qb<|xii (i:=k) (hArr.ext hs2) rfl rfl hlt λa14 h14=>?_
 rw[hd] at h14
 refine x (Qv h14 rfl)<|x Qh<|Qe<|QU (α:=Bool) [(16,26)] (λz=>[(26,.bool z)]) (λz w'=>w'=w2∧(z=true↔lf.getD k false=true∧d<0)) (by rfl) ?_ ?_
 ·refine Qw<|Qb<|x (QI rfl)<|x (Qa rfl)<|x (Qd hA2.B rfl rfl)<|Qb<|x (Zk (i:=k) rfl rfl (by omega))<|xB (b:=lf.getD k false) ((XD (i:=k) (hB.ext hs02) rfl hkl).trans (by rw[hlf])) (λh22=>?_) (λh22=>?_)
  ·refine Qb<|Qb<|x (QB rfl rfl)<|x (Qm rfl)<|xe ?_
   exact ⟨_,⟨rfl,trivial⟩,rfl,by rw[h22];simp⟩
  refine Qb<|xs rfl<|xs rfl<|x (Qm rfl)<|xe ?_
  exact ⟨_,⟨rfl,trivial⟩,rfl,by rw[h22];simp⟩
 rintro z g w3 ⟨rfl,hz⟩
 refine Q5 rfl (λh26=>?_) (λh26=>?_)
 ·rw[if_pos (hz.1 h26)] at hsn
  refine Qw<|Qb<|Qb<|Qb<|x (QE ⟨rfl,rfl,rfl,rfl,trivial⟩)<|xl rfl<|QD (us:=[yH rk 3 ((k:Int),-1)]) rfl rfl (by decide) (by simp) ⟨rfl,rfl,trivial⟩ λb31 w4 hs4 hb31 hB31 =>
   xl rfl<|QZ (m:=1) (news:=yH rk 3 ((k:Int),-1)) (Qs hO2 hs4) rfl rfl rfl (hB31.at (L:=[]) (by simp)) (by simp[Value.oneCell']) (by rw[List.length_map];omega) (by have:=hs2.size;have:=hs4.size;omega) λvo2 w5 hO5 hs5 hn5=>Qe<|Qw<|QO rfl rfl<|Qb<|xe ?_
  refine ⟨(k+1,vo2),by simp only[];omega,⟨rfl,rfl,trivial⟩,hlt,(hs2.trans hs4).then hs5 (λb hb=>.inr (Qk hO2 b hb).1),?_⟩
  simp only[]
  rw[hsn,show blP (out++[(k:Int)])=blP out++[((k:Int),-1)] by simp]
  exact RmO.snoc hO5
 ·rw[if_neg (λh=>by rw[hz.2 h] at h26;cases h26),List.append_nil] at hsn
  refine Qi<|Qw<|QO rfl rfl<|Qb<|xe ?_
  exact ⟨(k+1,vo),by simp only[];omega,⟨rfl,rfl,trivial⟩,hlt,hs2,by simp only[];rw[hsn];exact hO2⟩
theorem Qeg {w:World}{bp:Nat}{q:Pz}{lf:Lf}(hA:yo [] w.heap bp q) (hq:PzQ q) (hB:Q2 w.heap q.bl 4 (lf.map Value.bool)) (hl:lf.length=q.n) (rk:Int) :
  QJ prog 214 [.pointer (some ⟨bp,0,none⟩),.int .i64 rk,.bool true] w λr w'=>Step [] w w'∧∃rs l,RmO w.heap.size w' r rk rs l∧l.map (·.1)=nxs q.a q.unc lf∧l.length≤1000000:=by
 have hll:=(zR q.a q.unc lf).2
 have hel:=hq.ok.ed_le
 have hn:=hq.n
 have hst1:=hq.ok.st1
 have hnx:nxs q.a q.unc lf=if (lost q.a q.unc lf).length≠0 then (lost q.a q.unc lf).map (·.1) else Kp lf 0 (dsts q.a lf):=rfl
 refine QJ.of_W func214 rfl ntmps214 results214 (by simp) ?_
 refine Qc<|Qe<|Qf<|Qc<|Qb<|Qb<|xl rfl<|xf<|(Qeh hA hq hB hl rk).mono ?_
 rintro r1 w1 ⟨hs1,hO1⟩
 refine Zd (lost q.a q.unc lf) λL hL=>?_
 rw[hL] at hO1 hnx hll
 refine Qe<|QU (α:=Bool) [(11,17)] (λz=>[(17,.bool z)]) (λz w'=>w'=w1∧(z=true↔L.length≠0)) (by rfl) ?_ ?_
 ·refine Qw<|Qb<|x (Qr (L:=[]) (QT hO1 (by omega) (by simp)) rfl)<|xb (ZO rfl rfl) (λh13=>?_) (λh13=>?_)
  ·refine Qb<|xs rfl<|xs rfl<|x (Qm rfl)<|xe ?_
   exact ⟨_,⟨rfl,trivial⟩,rfl,by have h14:(0:Int)<(L.length:Int):=h13;simp;intro e;subst e;simp at h14⟩
  refine Qb<|Qb<|x (Zn rfl)<|x (Qm rfl)<|xe ?_
  have h14:¬(0:Int)<(L.length:Int):=h13
  have h15:L.length=0:=by omega
  exact ⟨_,⟨rfl,trivial⟩,rfl,by rw[h15];simp⟩
 rintro z g w2 ⟨rfl,hz⟩
 refine Q5 rfl (λh17=>?_) (λh17=>?_)
 ·rw[if_pos (hz.1 h17)] at hnx
  refine Qc<|Qb<|Qe ?_
  exact Ql ⟨[_],⟨rfl,trivial⟩,hs1,2,L,hO1,hnx.symm,by omega⟩
 rw[if_neg (λh=>by rw[hz.2 h] at h17;cases h17)] at hnx
 refine Qi<|Qc<|Qb<|Qb<|xl rfl<|xf<|(yP (hA.ext hs1) hq (hB.ext hs1) hl rk).mono ?_
 rintro r3 w3 ⟨hs3,hO3,hbl⟩
 refine Qe<|Ql ⟨[_],⟨rfl,trivial⟩,hs1.trans hs3,3,_,Zo hO3 hs1.size,?_,?_⟩
 ·rw[hnx,List.map_map];exact List.map_id _
 ·rw[List.length_map];omega
structure JP (base:Nat) (w:World) (n:Nat) (f:Nat→Value) (g:Nat→List Ed):Prop where
 own:∀i,i<n→Z4 144 base w (f i) (g i)
 dj:∀i j,i<n→j<n→i≠j→Dj (f i) (f j)
theorem JP.app {base n i:Nat}{w w':World}{f:Nat→Value}{g:Nat→List Ed}{v':Value}{l:List Ed}(h:JP base w n f g) (hi:i<n) (ho:Z4 144 base w' v' l) (hs:Step (ob (f i)) w w')
  (hn:∀b∈ob v',b∈ob (f i)∨w.heap.size≤b):JP base w' n (Kc f i v') (Kc g i l):=by
 refine ⟨λj hj=>?_,λj k hj hk hjk=>?_⟩
 ·by_cases e:j=i
  ·subst e;rw[ZQ,ZQ];exact ho
  ·rw[Yf _ _ e,Yf _ _ e]
   exact Qj (h.own j hj) hs (h.dj j i hj hi e)
 ·have key:∀j,j<n→j≠i→Dj v' (f j):=λj hj e b hb hbj=>by
   rcases hn b hb with h1 | h1
   ·exact h.dj i j hi hj (Ne.symm e) b h1 hbj
   ·have:=QR (h.own j hj) b hbj;omega
  by_cases e1:j=i
  ·subst e1
   rw[ZQ,Yf _ _ (Ne.symm hjk)]
   exact key k hk (Ne.symm hjk)
  ·rw[Yf _ _ e1]
   by_cases e2:k=i
   ·subst e2;rw[ZQ];exact (key j hj e1).symm
   ·rw[Yf _ _ e2];exact h.dj j k hj hk hjk
theorem JP.step {base n:Nat}{X:LN}{w w':World}{f:Nat→Value}{g:Nat→List Ed}(h:JP base w n f g) (hs:Step X w w') (hX:∀i,i<n→∀b∈ob (f i),b∉X):JP base w' n f g :=
 ⟨λi hi=>Qj (h.own i hi) hs (hX i hi),h.dj⟩
theorem JP.ext {base n:Nat}{w w':World}{f:Nat→Value}{g:Nat→List Ed}(h:JP base w n f g) (hs:Step [] w w'):JP base w' n f g:=h.step hs (λ_ _ _ _=>by simp)
def qh (es:List Ed) (s:Nat):List Ed:=ZJ es (s:Int)
theorem Qcm (es:List Ed) (e:Ed) (h0:0≤e.1):Kc (qh es) e.1.toNat (qh es e.1.toNat++[e])=qh (es++[e]):=by
 funext s
 unfold qh ZJ
 rw[List.filter_append]
 by_cases h:s=e.1.toNat
 ·subst h
  rw[ZQ]
  have:e.1=(e.1.toNat:Int):=by omega
  simp[←this]
 ·rw[Yf _ _ h]
  have:¬e.1=(s:Int):=by omega
  simp[this]
theorem yG (es:List Ed) (s:Nat):(qh es s).length≤es.length:=JB es _
def QaW (num:LI) (m:List (Int×Value)):Prop:=∀s:Nat,s<num.length→mget m (s:Int)=if cget num s<0 then none else some (.int .i64 (cget num s))
theorem JW (l:LI) (k:Int):Xc l k=cget l k.toNat:=rfl
structure Jv (b4 mb:Nat) (r2:Value) (wS:World) (c:Cs) (m:List (Int×Value)) (vo vk ve:Value) (w:World):Prop where
 st:Step [b4,mb] wS w
 B4:Q2 w.heap b4 58 [r2,.int .i64 0,vk,ve]
 M:Z2 Ki w.heap mb m
 nm:QaW c.num m
 o:Qu 3 wS.heap.size w vo c.ord
 k:Qu 3 wS.heap.size w vk c.mk'
 e:Z4 144 wS.heap.size w ve c.ed
 d1:Dj vo vk
 d2:Dj vo ve
 d3:Dj vk ve
section
variable {b4 mb:Nat} {r2:Value} {wS:World} {c:Cs} {m:List (Int×Value)} {vo vk ve:Value} {w w' w'':World}
theorem Jv.ext (h:Jv b4 mb r2 wS c m vo vk ve w) (hs:Step [] w w'):Jv b4 mb r2 wS c m vo vk ve w' :=
 ⟨h.st.trans hs,h.B4.ext hs,h.M.ext hs,h.nm,Qs h.o hs,Qs h.k hs,Qs h.e hs,h.d1,h.d2,h.d3⟩
theorem Jv.setK (h:Jv b4 mb r2 wS c m vo vk ve w) (l4:b4<wS.heap.size) (lm:mb<wS.heap.size) (ne:mb≠b4) {vk':Value}{l:LI}(hs:Step (ob vk) w w') (hk':Qu 3 wS.heap.size w' vk' l)
  (hn:∀b∈ob vk',b∈ob vk∨w.heap.size≤b) (hs2:Step [b4] w' w'') (hB:Q2 w''.heap b4 58 [r2,.int .i64 0,vk',ve]):Jv b4 mb r2 wS ⟨c.ord,c.num,l,c.ed⟩ m vo vk' ve w'' :=
 ⟨(h.st.then hs (λb hb=>.inr (Qk h.k b hb).1)).then hs2 (λb hb=>.inl (by simp at hb;simp[hb])),hB,(h.M.step hs (QM h.k lm)).step hs2 (by simpa using ne),h.nm,
  Qj (Qj h.o hs h.d1) hs2 (λb hb=>by have:=(Qk h.o b hb).1;simp;omega),Qj hk' hs2 (λb hb=>by have:=(Qk hk' b hb).1;simp;omega),
  Qj (Qj h.e hs h.d3.symm) hs2 (λb hb=>by have:=(Qk h.e b hb).1;simp;omega),h.d1.grow hn (QR h.o),h.d2,(h.d3.symm.grow hn (QR h.e)).symm⟩
theorem Jv.setE (h:Jv b4 mb r2 wS c m vo vk ve w) (l4:b4<wS.heap.size) (lm:mb<wS.heap.size) (ne:mb≠b4) {ve':Value}{l:List Ed}(hs:Step (ob ve) w w') (hk':Z4 144 wS.heap.size w' ve' l)
  (hn:∀b∈ob ve',b∈ob ve∨w.heap.size≤b) (hs2:Step [b4] w' w'') (hB:Q2 w''.heap b4 58 [r2,.int .i64 0,vk,ve']):Jv b4 mb r2 wS ⟨c.ord,c.num,c.mk',l⟩ m vo vk ve' w'' :=
 ⟨(h.st.then hs (λb hb=>.inr (Qk h.e b hb).1)).then hs2 (λb hb=>.inl (by simp at hb;simp[hb])),hB,(h.M.step hs (QM h.e lm)).step hs2 (by simpa using ne),h.nm,
  Qj (Qj h.o hs h.d2) hs2 (λb hb=>by have:=(Qk h.o b hb).1;simp;omega),Qj (Qj h.k hs h.d3) hs2 (λb hb=>by have:=(Qk h.k b hb).1;simp;omega),
  Qj hk' hs2 (λb hb=>by have:=(Qk hk' b hb).1;simp;omega),h.d1,h.d2.grow hn (QR h.o),h.d3.grow hn (QR h.k)⟩
theorem Jv.setN (h:Jv b4 mb r2 wS c m vo vk ve w) (lm:mb<wS.heap.size) (ne:mb≠b4) {l:LI}{m':List (Int×Value)}(hs2:Step [mb] w w') (hM:Z2 Ki w'.heap mb m') (hm:QaW l m'):Jv b4 mb r2 wS ⟨c.ord,l,c.mk',c.ed⟩ m' vo vk ve w' :=
 ⟨h.st.then hs2 (λb hb=>.inl (by simp at hb;simp[hb])),h.B4.step hs2 (by simpa using ne.symm),hM,hm,Qj h.o hs2 (λb hb=>by have:=(Qk h.o b hb).1;simp;omega),
  Qj h.k hs2 (λb hb=>by have:=(Qk h.k b hb).1;simp;omega),Qj h.e hs2 (λb hb=>by have:=(Qk h.e b hb).1;simp;omega),h.d1,h.d2,h.d3⟩
theorem Jv.setO (h:Jv b4 mb r2 wS c m vo vk ve w) (l4:b4<wS.heap.size) (lm:mb<wS.heap.size) {vo':Value}{l:LI}(hs:Step (ob vo) w w') (hk':Qu 3 wS.heap.size w' vo' l)
  (hn:∀b∈ob vo',b∈ob vo∨w.heap.size≤b):Jv b4 mb r2 wS ⟨l,c.num,c.mk',c.ed⟩ m vo' vk ve w' :=
 ⟨h.st.then hs (λb hb=>.inr (Qk h.o b hb).1),h.B4.step hs (QM h.o l4),h.M.step hs (QM h.o lm),h.nm,hk',Qj h.k hs h.d1.symm,Qj h.e hs h.d2.symm,
  (h.d1.symm.grow hn (QR h.k)).symm,(h.d2.symm.grow hn (QR h.e)).symm,h.d3⟩
end
theorem QaW.set {num:LI}{m:List (Int×Value)}(h:QaW num m) {k:Nat}(hk:k<num.length) {v:Int}(hv:0≤v):QaW (num.set k v) (mput m (k:Int) (.int .i64 v)):=by
 intro s hs
 rw[List.length_set] at hs
 rw[X3]
 by_cases e:s=k
 ·subst e
  have:cget (num.set s v) s=v:=by unfold cget;simp[List.getD,hk]
  rw[if_pos rfl,this,if_neg (by omega)]
 ·rw[if_neg (by omega)]
  have:cget (num.set k v) s=cget num s:=by unfold cget;simp[List.getD,List.getElem?_set_ne (Ne.symm e)]
  rw[this];exact h s hs
theorem yy (i:Nat) (c:Cs) (m:LI) (e:Ed):Zx i ⟨c.ord,c.num,m,c.ed⟩ e=⟨(Zx i c e).ord,(Zx i c e).num,m,(Zx i c e).ed⟩∧(Zx i c e).mk'=c.mk':=by
 unfold Zx
 split <;> exact ⟨rfl,rfl⟩
theorem z6 (i:Nat):∀(l:List Ed) (c:Cs) (m:LI),l.foldl (Zx i) ⟨c.ord,c.num,m,c.ed⟩=⟨(l.foldl (Zx i) c).ord,(l.foldl (Zx i) c).num,m,(l.foldl (Zx i) c).ed⟩∧(l.foldl (Zx i) c).mk'=c.mk'
 | [],c,m=>⟨rfl,rfl⟩
 | e::l,c,m=>by
  have h1:=yy i c m e
  have h2:=z6 i l (Zx i c e) m
  rw[List.foldl_cons,List.foldl_cons,h1.1,h2.1]
  exact ⟨rfl,h2.2.trans h1.2⟩
theorem qD (i:Nat) (c:Cs) (e:Ed):∃r,(Zx i c e).ord=c.ord++r:=by
 unfold Zx;split
 ·exact ⟨_,rfl⟩
 ·exact ⟨[],by simp⟩
theorem jg (i:Nat):∀(l:List Ed) (c:Cs),∃r,(l.foldl (Zx i) c).ord=c.ord++r
 | [],c=>⟨[],by simp⟩
 | e::l,c=>by
  obtain ⟨r1,h1⟩:=qD i c e
  obtain ⟨r2,h2⟩:=jg i l (Zx i c e)
  exact ⟨r1++r2,by rw[List.foldl_cons,h2,h1,List.append_assoc]⟩
theorem Qcn {a:QV}{i:Nat}{c:Cs}(hi:i<c.ord.length):qi a i c=Yk a i ((ZJ a.ed (cget c.ord i)).foldl (Zx i) c):=by
 unfold qi
 rw[JW,Int.toNat_natCast]
 obtain ⟨r,hr⟩:=jg i (ZJ a.ed (cget c.ord i)) c
 have hm:=(z6 i (ZJ a.ed (cget c.ord i)) c c.mk').2
 unfold Yk
 have hg:Xc ((ZJ a.ed (cget c.ord i)).foldl (Zx i) c).ord (i:Int)=Xc c.ord (i:Int):=by
  rw[JW,JW,hr]
  simp only[Int.toNat_natCast]
  exact UV hi
 rw[hg]
 split
 ·rw[(z6 i _ c _).1,hm]
 ·rfl
set_option maxHeartbeats 8000000 in
theorem Uu {w:World}{bp:Nat}{q:Pz}{lf:Lf}(hA:yo [] w.heap bp q) (hq:PzQ q) (hB:Q2 w.heap q.bl 4 (lf.map Value.bool)) (hl:lf.length=q.n) :
  QJ prog 218 [.pointer (some ⟨bp,0,none⟩)] w λr w'=>Step [] w w'∧∃v o,r=.tuple #[v,o]∧Xr w.heap.size w'.heap v (QdH q.a lf)∧o.oneCell'=true:=by
 have hn:=hq.n
 have hst1:=hq.ok.st1
 have hel:=hq.ok.ed_le
 have hml:=hq.ok.mr_le
 have hok:=Qcl hq.ok lf
 have hsup:QdH q.a lf=if q.a.st=0∨lft lf 0=false then ⟨q.a.al,0,[],[]⟩ else Ju (rstr q.a lf):=rfl
 refine Zd (QdH q.a lf) λSA hSA=>?_
 rw[hSA] at hsup ⊢
 refine QJ.of_W func218 rfl ntmps218 results218 (by simp) ?_
 refine Qc<|xl rfl<|Qt (us:=[nS,.int .i64 0,nS,nS]) rfl λb2 w1 hs1 hb2 hB2=>Qe ?_
 have hz1:=hs1.size
 have hl2:=hB2.lt
 have hA1:=hA.ext hs1
 refine Qc<|Qb<|x (QI rfl)<|x (Qa rfl)<|x (Qa rfl)<|x (Qd hA1.B rfl rfl)<|xl rfl<|xf<|(ZU hA1.a.al).mono ?_
 rintro r2 w2 ⟨hs2,hr2⟩
 have hz2:=hs2.size
 have hr2I:=Qu.ints (L:=[]) hr2 hA.a.al.le (by simp)
 refine x (QE ⟨hr2I.cells,trivial⟩)<|xl rfl<|Qt (us:=[nS,.int .i64 0,nS,nS]) rfl λb4 w3 hs3 hb4 hB4 =>
  xl rfl<|Qn (us:=[r2,.int .i64 0,nS,nS]) hB4 rfl rfl rfl rfl ⟨hr2I.one,rfl,rfl,rfl,trivial⟩ λw4 hs4 hB4=>xe ?_
 have hs24:Step [] w2 w4:=hs3.then1 hs4 hb4
 have hs12:=hs1.trans hs2
 have hs04:=hs12.trans hs24
 have hl4:=hB4.lt
 have hz24:=hs24.size
 have hA4:=hA.ext hs04
 have hr2lt:∀b∈ob r2,b<w2.heap.size:=QR hr2
 refine Qf<|QU (α:=Bool) [(22,36)] (λz=>[(36,.bool z)]) (λz w'=>w'=w4∧(z=true↔(q.a.st=0∨lft lf 0=false))) (by rfl) ?_ ?_
 ·refine Qw<|Qb<|x (QI rfl)<|x (Qa rfl)<|x (Qa rfl)<|x (Qd hA4.B rfl rfl)<|xb (Q7 rfl rfl) (λh27=>?_) (λh27=>?_)
  ·refine Qb<|xs rfl<|xs rfl<|xs rfl<|xs rfl<|xs rfl<|xs rfl<|xs rfl<|x (Qm rfl)<|xe ?_
   exact ⟨_,⟨rfl,trivial⟩,rfl,by simp[h27]⟩
  have hn0:(0:Int).toNat<lf.length:=by
   have:0<q.n:=by omega
   simp;omega
  have hlf:=Vv (l:=lf) (s:=0) hn0
  refine Qb<|Qb<|x (QI rfl)<|x (Qa rfl)<|x (Qd hA4.B rfl rfl)<|x (Zk (i:=0) rfl rfl (by simp at hn0;omega))<|x (v:=.bool (lft lf 0)) ((XD (i:=0) (hB.ext hs04) rfl hn0).trans (by rw[←hlf];rfl))<|x (Zn rfl)<|x (Qm rfl)<|xe ?_
  exact ⟨_,⟨rfl,trivial⟩,rfl,by simp[h27]⟩
 rintro z g w4 ⟨rfl,hz⟩
 refine Q5 rfl (λh36=>?_) (λh36=>?_)
 ·rw[if_pos (hz.1 h36)] at hsup
  subst hsup
  refine Qc<|x (Qq hB4 rfl rfl)<|xl rfl<|Qn (us:=[r2,.int .i64 0,nS,nS]) ((hB2.ext hs2).ext hs24) rfl rfl rfl rfl ⟨hr2I.one,rfl,rfl,rfl,trivial⟩ λw6 hs6 hB2=>Qe<|Ql ⟨[.agg #[r2,.int .i64 0,nS,nS],nS],⟨⟨_,rfl,Qz rfl (hB2.at (L:=[]) (by simp)).cells⟩,rfl,trivial⟩,hs04.then1 hs6 (by omega),_,_,rfl,?_,rfl⟩
  have hr6:=Qj (Qs hr2 hs24) hs6 (λb hb=>by have:=(Qk hr2 b hb).1;simp;omega)
  exact ⟨r2,_,_,rfl,λL' hL'=>⟨Qu.ints hr6 hA.a.al.le (λb hb=>by have:=hL' b hb;omega),Zj.nil _ _ _,Zj.nil _ _ _⟩⟩
 have hnz:¬(q.a.st=0∨lft lf 0=false):=λh=>by rw[hz.2 h] at h36;cases h36
 rw[if_neg hnz] at hsup
 have hpos:0<q.a.st:=by have:=hq.ok.st0;omega
 have hnt:(rstr q.a lf).st.toNat=q.n:=by show q.a.st.toNat=q.n;omega
 unfold Ju at hsup
 rw[if_neg (show ¬(rstr q.a lf).st=0 from λh=>hnz (.inl h)),hnt] at hsup
 simp only[] at hsup
 refine Qi<|Qc<|Qb<|x (QI rfl)<|x (Qa rfl)<|x (Qa rfl)<|x (Qd hA4.B rfl rfl)<|xl rfl<|Vr (n:=q.n) (congrArg (Value.int .i64) hn) (congrArg (Value.int .i64) hn) (by omega) λbE w6 hs6 hbE hBE=>Qe ?_
 rw[QdX] at hBE
 have hz6:=hs6.size
 have hlE:=hBE.lt
 have hs06:=hs04.trans hs6
 have hA6:=hA.ext hs06
 refine Qf<|Qc<|Qb<|x (QI rfl)<|x (Qa rfl)<|x (Qa rfl)<|x (Qd hA6.B rfl rfl)<|x (Qr hA6.a.ed rfl)<|Qb<|xe ?_
 refine Qg<|QA (α:=Nat×(Nat→Value)) [(7,7),(50,74)] (λz=>[(50,.int .i64 z.1)]) (λz w'=>z.1≤q.a.ed.length∧Step [bE] w6 w'∧Q2 w'.heap bE 56 ((List.range q.n).map z.2)∧JP w6.heap.size w' q.n z.2 (qh ((q.a.ed.take z.1).filter λe=>lft lf e.2.2))) (λz=>q.a.ed.length - z.1) (by rfl) (0,λ_=>nS) ⟨rfl,trivial⟩
  ⟨Nat.zero_le _,Step.refl _ _,hBE,⟨λi _=>QP _ _ _ _,λi j _ _ _=>Dj.nil _⟩⟩ ?_
 rintro ⟨k,rv⟩ g w7 ⟨hk,hs7,hBE7,hR7⟩
 simp only[] at hk hBE7 hR7
 have hs67:Step [] w4 w7:=hs6.then1 hs7 hbE
 have hs07:=hs04.trans hs67
 have hz7:=hs7.size
 have hA7:=hA.ext hs07
 refine Qc<|x (QB rfl rfl)<|xe ?_
 refine Qf<|QG rfl (λh51=>?_) (λh51=>?_)
 ·refine Qx ?_
  have hke:q.a.ed.length≤k:=by have h52:¬(k:Int)<(q.a.ed.length:Int):=h51;omega
  rw[List.take_of_length_le hke] at hR7
  have hR7:JP w6.heap.size w7 q.n rv (qh (rstr q.a lf).ed):=hR7
  have hrl:(rstr q.a lf).ed.length≤q.a.ed.length:=List.length_filter_le _ _
  refine Qc<|xl rfl<|Yn Ki λmb w8 hs8 hmb hM8=>xl rfl<|YT (k:=(0:Int)) hM8 rfl rfl λw9 hs9 hM9=>Qb<|Qe ?_
  have hs79:Step [] w7 w9:=hs8.then1 hs9 hmb
  have hz9:=hs79.size
  have hlm:=hM9.lt
  refine Qc<|xl rfl<|QD (us:=[[.int .i64 0]]) rfl rfl (by decide) (by simp) ⟨rfl,rfl,trivial⟩ λb77 w10 hs10 hb77 hB77=>Qe<|Qf<|Qc<|Qe ?_
  have hne:mb≠b4:=by omega
  have hl4S:b4<w9.heap.size:=by omega
  have hs09:=hs07.trans hs79
  have hup:∀b∈[b4,mb],w2.heap.size≤b:=λb hb=>by simp only[List.mem_cons,List.not_mem_nil,or_false] at hb;omega
  have hAS:yo [b4,mb] w9.heap bp q:=((hA.ext hs12).up (λb hb=>.inr (hup b hb))).ext (hs24.trans (hs67.trans hs79))
  have hBS:Q2 w9.heap q.bl 4 (lf.map Value.bool):=hB.ext hs09
  have hlw:=hB.lt
  have hRS:∀s,s<q.n→U9 [b4,mb] w9.heap (rv s) (qh (rstr q.a lf).ed s):=λs hs=>QT (Qs (hR7.own s hs) hs79) (by have:=yG (rstr q.a lf).ed s;omega) (λb hb hm=>by
   have h1:=(Qk (hR7.own s hs) b hb).1
   have h2:=QR (hR7.own s hs) b hb
   simp only[List.mem_cons,List.not_mem_nil,or_false] at hm
   omega)
  have hBE9:=hBE7.ext hs79
  have hbn:∀b,b<w2.heap.size→b∉[b4,mb]:=λb hb hm=>by have:=hup b hm;omega
  have hEn:bE∉[b4,mb]:=by simp only[List.mem_cons,List.not_mem_nil,or_false];omega
  have hblw:q.bl<w2.heap.size:=by omega
  have hBl9:q.bl∉[b4,mb]:=hbn _ hblw
  have hB4S:Q2 w9.heap b4 58 [r2,.int .i64 0,nS,nS]:=((hB4.ext hs67)).ext hs79
  have hB2S:Q2 w9.heap b2 58 [nS,.int .i64 0,nS,nS]:=((hB2.ext hs2).ext hs24).ext (hs67.trans hs79)
  have hr2S:=Qs hr2 (hs24.trans (hs67.trans hs79))
  have ho10:Qu 3 w9.heap.size w10 (.slice (some ⟨b77,0,none⟩) 1 1) [0]:=hB77.own (n:=1) (sz:=1) rfl (by omega) (by omega)
  have hnm0:QaW (Jk (rstr q.a lf)).num (mput [] (0:Int) (.int .i64 0)):=by
   have h0:QaW (List.replicate q.n (-1)) ([]:List (Int×Value)):=λs hs=>by
    have hs':s<q.n:=by simpa using hs
    have:cget (List.replicate q.n (-1)) s=-1:=by unfold cget;simp[List.getD,hs']
    rw[this];rfl
   have h1:=h0.set (k:=0) (by simp;omega) (v:=0) (Int.le_refl _)
   unfold Jk
   rw[hnt]
   exact h1
  have hbound:∀e∈(rstr q.a lf).ed,0≤e.1∧e.1<q.a.st∧0≤e.2.2∧e.2.2<q.a.st:=λe he=>by have:=hok.ed e he;exact ⟨this.1,this.2.1,this.2.2.2.1,this.2.2.2.2⟩
  have hc0:Kw q.a.st (Jk (rstr q.a lf)):=Qb1 (a:=rstr q.a lf) hpos
  have hmr:(rstr q.a lf).mr=q.a.mr:=rfl
  refine Zd (rstr q.a lf) λR hR=>?_
  rw[hR] at hsup hRS hnm0 hbound hc0 hmr hrl
  have hRal:R.al=q.a.al:=by rw[←hR];rfl
  have hnN:q.a.st.toNat=q.n:=by omega
  refine Qg<|QA (α:=Nat×Cs×List (Int×Value)×Value×Value×Value) [(9,10),(12,14),(78,142)] (λz=>[(9,z.2.2.2.1),(10,.int .i64 z.1)])
   (λz w'=>Jv b4 mb r2 w9 z.2.1 z.2.2.1 z.2.2.2.1 z.2.2.2.2.1 z.2.2.2.2.2 w'∧z.1≤z.2.1.ord.length∧Kw q.a.st z.2.1∧z.2.1.mk'.length≤z.1∧z.2.1.ed.length≤z.1*131072∧Jt R (q.n - z.1) z.1 z.2.1=Jt R q.n 0 (Jk R)) (λz=>q.n - z.1) (by rfl)
   (0,Jk R,mput [] (0:Int) (.int .i64 0),.slice (some ⟨b77,0,none⟩) 1 1,nS,nS) ⟨rfl,rfl,trivial⟩
   ⟨⟨hs10.any,hB4S.ext hs10,hM9.ext hs10,hnm0,ho10,QP _ _ _ _,QP _ _ _ _,Dj.nil' _,Dj.nil' _,Dj.nil' _⟩,Nat.zero_le _,hc0,Nat.zero_le _,Nat.zero_le _,rfl⟩ ?_
  rintro ⟨i,c,m,vo,vk,ve⟩ g w11 ⟨hI,hi,hc,hmk,hed,hcan⟩
  simp only[] at hI hi hc hmk hed hcan
  have hcle:=hc.le
  have hoA:=Qu.ints (L:=[]) hI.o (by omega) (by simp)
  refine Qf<|Qc<|Qb<|Qb<|x (Qr hoA rfl)<|x (QB rfl rfl)<|xe ?_
  refine QG rfl (λh81=>?_) (λh81=>?_)
  ·refine Qx ?_
   have hend:c=Jt R q.n 0 (Jk R):=by rw[←hcan,q8 (by omega)]
   refine Qc<|Qb<|x (Qr hoA rfl)<|x (Qa rfl)<|xl rfl<|QF hI.B4 rfl rfl (by simp) rfl λw12 hs12 hB12=>xe ?_
   have hkA:=Qu.ints (L:=[]) hI.k (by omega) (by simp)
   have heA:=Z4.eds (L:=[]) hI.e (by have:=hc.el;omega) (by simp)
   refine Qc<|x (Qq hB12 rfl rfl)<|Qb<|xl rfl<|Qn (us:=[r2,.int .i64 c.ord.length,vk,ve]) ((hB2S.step hI.st (hbn _ (by omega))).step hs12 (by simp;omega)) rfl rfl rfl rfl ⟨hr2I.one,rfl,hkA.one,heA.one,trivial⟩ λw13 hs13 hB13=>Qe ?_
   have hE1:Step [b4,mb] w9 w12:=hI.st.then hs12 (λb hb=>.inl (by simp at hb;simp[hb]))
   have hfin:Step [] w w13:=(hs09.then hE1 (λb hb=>.inr (by have:=hup b hb;omega))).then1 hs13 (by omega)
   refine Ql ⟨[.agg #[r2,.int .i64 c.ord.length,vk,ve],vo],⟨⟨_,rfl,Qz rfl (hB13.at (L:=[]) (by simp)).cells⟩,rfl,trivial⟩,hfin,_,_,rfl,?_,hoA.one⟩
   rw[←hend] at hsup
   subst hsup
   have k1:=Qj (Qj hI.k hs12 (λb hb=>by have:=(Qk hI.k b hb).1;simp;omega)) hs13 (λb hb=>by have:=(Qk hI.k b hb).1;simp;omega)
   have k2:=Qj (Qj hI.e hs12 (λb hb=>by have:=(Qk hI.e b hb).1;simp;omega)) hs13 (λb hb=>by have:=(Qk hI.e b hb).1;simp;omega)
   have k3:=Qj (Qj hr2S hE1 (λb hb=>hbn b (hr2lt b hb))) hs13 (λb hb=>by have:=(Qk hr2 b hb).1;simp;omega)
   exact ⟨r2,vk,ve,rfl,λL' hL'=>⟨by rw[hRal];exact Qu.ints k3 hA.a.al.le (λb hb=>by have:=hL' b hb;omega),Qu.ints k1 (by show c.mk'.length≤_;omega) (λb hb=>by have:=hL' b hb;omega),Z4.eds k2 (by show c.ed.length≤_;have:=hc.el;omega) (λb hb=>by have:=hL' b hb;omega)⟩⟩
  have hlt:i<c.ord.length:=by omega
  refine Qi ?_
  have hgi:=Zl hlt
  have hsr:=hc.ord _ (X6 hlt)
  have hlate:=Qcn (a:=R) hlt
  refine Zd (cget c.ord i) λs0 hs0=>?_
  rw[hs0] at hgi hsr hlate
  have hsn:s0=(s0.toNat:Int):=by omega
  have hst:s0.toNat<q.n:=by omega
  have hos0:qh R.ed s0.toNat=ZJ R.ed s0:=by unfold qh;rw[←hsn]
  have hRow:=hRS s0.toNat hst
  rw[hos0] at hRow
  have hosl:=JB R.ed s0
  have hosm:∀e∈ZJ R.ed s0,0≤e.2.2∧e.2.2<q.a.st:=λe he=>⟨(hbound e (ZL he).1).2.2.1,(hbound e (ZL he).1).2.2.2⟩
  refine Zd (ZJ R.ed s0) λos hos=>?_
  rw[hos] at hRow hosl hosm hlate
  refine Qf<|Qg<|Qf<|Qc<|Qb<|Qb<|Qb<|xii (i:=i) hoA rfl rfl hlt λa87 h87=>?_
  rw[hgi] at h87
  refine x (Qv h87 rfl)<|x (Zk (i:=s0.toNat) rfl (congrArg (Value.int .i64) hsn) hst)<|x (Qd (u:=rv s0.toNat) (hBE9.step hI.st hEn) rfl (yF hst))<|x (Qr (hRow.st hI.st) rfl)<|Qb<|xe ?_
  refine Qg<|QA (α:=Nat×Cs×List (Int×Value)×Value×Value) [(9,9),(12,14),(92,126)] (λz=>[(9,z.2.2.2.1),(92,.int .i64 z.1)])
   (λz w'=>Jv b4 mb r2 w9 z.2.1 z.2.2.1 z.2.2.2.1 vk z.2.2.2.2 w'∧z.1≤os.length∧Kw q.a.st z.2.1∧z.2.1.mk'=c.mk'∧z.2.1.ed.length=c.ed.length+z.1∧(∃r,z.2.1.ord=c.ord++r)∧(os.drop z.1).foldl (Zx i) z.2.1=os.foldl (Zx i) c) (λz=>os.length - z.1) (by rfl) (0,c,m,vo,ve) ⟨rfl,rfl,trivial⟩
   ⟨hI,Nat.zero_le _,hc,rfl,rfl,⟨[],by simp⟩,rfl⟩ ?_
  rintro ⟨k4,d,m4,vo4,ve4⟩ g w12 ⟨hI4,hk4,hc4,hm4,he4,ho4,hf4⟩
  simp only[] at hI4 hk4 hc4 hm4 he4 ho4 hf4
  have hcle4:=hc4.le
  have hoA4:=Qu.ints (L:=[]) hI4.o (by omega) (by simp)
  have hil4:i<d.ord.length:=by obtain ⟨r,hr⟩:=ho4;rw[hr,List.length_append];omega
  have hgi4:cget d.ord i=s0:=by obtain ⟨r,hr⟩:=ho4;rw[hr,UV hlt];exact hs0
  refine Qc<|x (QB rfl rfl)<|xe ?_
  refine Qf<|QG rfl (λh93=>?_) (λh93=>?_)
  ·refine Qx ?_
   rw[List.drop_of_length_le (by omega),List.foldl_nil] at hf4
   rw[←hf4] at hlate
   have hAw:=hAS.st hI4.st
   have hg4:d.ord[i]'hil4=s0:=by rw[Zl hil4];exact hgi4
   have hmkC:Yk R i d=if s0∈q.a.mr then ⟨d.ord,d.num,d.mk'++[(i:Int)],d.ed⟩ else d:=by
    unfold Yk
    rw[JW,Int.toNat_natCast,hgi4,hmr]
   rw[hmkC] at hlate
   have hcanS:Jt R (q.n - (i+1)) (i+1) (qi R i c)=Jt R q.n 0 (Jk R):=by
    rw[←hcan]
    obtain ⟨t,ht⟩:∃t,q.n - i=t+1:=⟨q.n - i - 1,by omega⟩
    rw[ht,Jt,if_pos hlt,show q.n - (i+1)=t by omega]
   have hm4l:=congrArg List.length hm4
   refine Qf<|QS (Step [] w12) [(0,true),(1,true),(2,true),(3,true),(4,true),(5,true),(6,true),(7,true),(8,true),(9,false)] mixed (by rfl) (by kernel_rfl) (Step.drew _ _) ?_
   refine p (λ_=>Qo)<|p (λ_=>QI rfl)<|p (λ_=>Qa rfl)<|p (λ_=>Qa rfl)<|pq (λ_ hc=>Qd (hAw.B.ext hc) rfl rfl)<|p (λ_=>Qo) <|
    p (λ_=>Qo)<|pii (i:=i) rfl hoA4 rfl rfl hil4 λa134 h134=>?_
   rw[hg4] at h134
   refine pq (λ_ hc=>Qv (h134.ext hc) rfl)<|pk<|xf<|(ZI (hAw.a.mr.ext (Step.drew _ _)) s0).mono ?_
   rintro r16 w16 ⟨rfl,rfl⟩
   refine ⟨Step.drew _ _,pe ?_⟩
   have hI5:=hI4.ext (Step.drew [] w12)
   refine QG rfl (λh136=>?_) (λh136=>?_)
   ·rw[if_neg h136] at hlate
    refine Qi<|Qw<|Qb<|QO rfl rfl<|Qe ?_
    rw[hlate] at hcanS
    exact ⟨(i+1,d,m4,vo4,vk,ve4),by simp only[];omega,⟨rfl,rfl,trivial⟩,hI5,by simp only[];omega,hc4,by simp only[];omega,by simp only[];omega,hcanS⟩
   rw[if_pos h136] at hlate
   refine Qw<|x (Qa rfl)<|x (Qd hI5.B4 rfl rfl)<|Qb<|xl rfl<|QD (us:=[[.int .i64 i]]) rfl rfl (by decide) (by simp) ⟨rfl,rfl,trivial⟩ λb140 w17 hs17 hb140 hB140=>?_
   have hI17:=hI5.ext hs17
   refine xl rfl<|QZ (news:=[.int .i64 i]) (L:=[]) hI17.k rfl rfl rfl (hB140.at (by simp)) (by simp[Value.oneCell']) (by omega) hI17.st.size λv18 w18 ho18 hs18 hn18=>?_
   have hk18:Qu 3 w9.heap.size w18 v18 (d.mk'++[(i:Int)]):=Qu.snoc ho18
   refine x (Qa rfl)<|xl rfl<|QF (hI17.B4.step hs18 (QM hI17.k hl4S)) rfl rfl (by simp) (QH ho18) λw19 hs19 hB19=>xe ?_
   have hI19:=hI17.setK hl4S hlm hne hs18 hk18 hn18 hs19 hB19
   refine Qw<|Qb<|QO rfl rfl<|Qe ?_
   rw[hlate] at hcanS
   exact ⟨(i+1,⟨d.ord,d.num,d.mk'++[(i:Int)],d.ed⟩,m4,vo4,v18,ve4),by simp only[];omega,⟨rfl,rfl,trivial⟩,hI19,by simp only[];omega,⟨hc4.nl,hc4.sum,hc4.ord,hc4.num,hc4.el⟩,by simp only[List.length_append,List.length_singleton];omega,by simp only[];omega,hcanS⟩
  refine Qi ?_
  have hlt4:k4<os.length:=by omega
  have hdr:=QX hlt4
  rw[hdr,List.foldl_cons] at hf4
  have hto:=hosm _ (List.getElem_mem hlt4)
  refine Zd (os[k4]'hlt4) λe he=>?_
  rw[he] at hf4 hto
  have htn:e.2.2=(e.2.2.toNat:Int):=by omega
  have hqd:e.2.2.toNat<d.num.length:=by rw[hc4.nl];omega
  have hlk:=hI4.nm e.2.2.toNat hqd
  rw[←htn] at hlk
  have hnumL:Xc d.num e.2.2=cget d.num e.2.2.toNat:=rfl
  refine Qf<|Qg<|Qc<|xie (hRow.st hI4.st) rfl rfl hlt4 λa94 h94=>?_
  rw[he] at h94
  refine x (QC h94 rfl rfl)<|xl rfl<|Qt (us:=[.int .i64 0,.int .i64 0,.int .i64 0]) rfl λb12 w20 hs20 hb12 hB12=>xl rfl<|Qn (us:=Qy e) hB12 rfl rfl rfl rfl ⟨rfl,rfl,rfl,trivial⟩ λw21 hs21 hB12=>xe ?_
  have hS21:Step [] w12 w21:=hs20.then1 hs21 hb12
  have hI5:=hI4.ext hS21
  have hl12:=hB12.lt
  have hz21:=hS21.size
  have hIz:=hI4.st.size
  have hc5:Kw q.a.st (Zx i d e):=yx hc4 hto.1 hto.2 (by have:=hc4.el;omega)
  have hd2:Zx i d e=⟨(ZP d e).ord,(ZP d e).num,(ZP d e).mk',(ZP d e).ed++[((i:Int),e.2.1,Xc (ZP d e).num e.2.2)]⟩:=Ui hqd
  have hordl:=hc5.le
  refine QU (α:=Value) [(13,14),(96,102)] (λz=>[(13,.int .i64 (if cget d.num e.2.2.toNat<0 then 0 else cget d.num e.2.2.toNat)),(14,.bool (!decide (cget d.num e.2.2.toNat<0)))]) (λz w'=>w'=w21) (by rfl) ?_ ?_
  ·refine Qw<|Qb<|x (Qa rfl)<|x (Qd hB12 rfl rfl)<|x (v:=.tuple #[.int .i64 (if cget d.num e.2.2.toNat<0 then 0 else cget d.num e.2.2.toNat),.bool (!decide (cget d.num e.2.2.toNat<0))]) ((KK (k:=e.2.2) hI5.M rfl rfl).trans (congrArg (λv=>Result.ok (Next.value v) _) ?_))<|Qb<|x (Qp rfl rfl)<|x (Qp rfl rfl)<|x Qh<|Qe ?_
   ·rw[hlk]
    by_cases hneg:cget d.num e.2.2.toNat<0
    ·simp[hneg]
    ·simp[hneg]
   ·exact ⟨.bool true,⟨rfl,rfl,trivial⟩,rfl⟩
  rintro z5 g w21 rfl
  refine QU (α:=Value×List (Int×Value)×Int) [(9,9),(13,13),(103,115)] (λz=>[(9,z.1),(13,.int .i64 z.2.2)]) (λz w'=>cget (ZP d e).num e.2.2.toNat=z.2.2∧Jv b4 mb r2 w9 (ZP d e) z.2.1 z.1 vk ve4 w'∧Q2 w'.heap b12 144 (Qy e)∧w21.heap.size≤w'.heap.size) (by rfl) ?_ ?_
  ·refine Qc<|Qb<|x (Zn rfl)<|xe ?_
   refine Q5 rfl (λh104=>?_) (λh104=>?_)
   ·have hneg:cget d.num e.2.2.toNat<0:=by simpa using h104
    have hnC:ZP d e=⟨d.ord++[e.2.2],d.num.set e.2.2.toNat d.ord.length,d.mk',d.ed⟩:=by unfold ZP;rw[hnumL,if_pos hneg]
    have hcg:cget (ZP d e).num e.2.2.toNat=(d.ord.length:Int):=by rw[hnC];unfold cget;simp[List.getD,hqd]
    refine Qc<|Qb<|x (Qr (Qu.ints (L:=[]) hI5.o (by omega) (by simp)) rfl)<|Qe<|Qc<|Qb<|x (Qa rfl)<|x (Qd hB12 rfl rfl)<|Qb<|xl rfl<|Xi (k:=e.2.2) hI5.M rfl rfl λw22 hs22 hM22=>xe ?_
    have hnm6:=hI5.nm.set hqd (v:=(d.ord.length:Int)) (by omega)
    rw[←htn] at hnm6
    have hI6:=hI5.setN hlm hne hs22 hM22 hnm6
    have hB12':=hB12.step hs22 (by simp;omega)
    refine Qw<|Qb<|x (Qa rfl)<|x (Qd hB12' rfl rfl)<|xl rfl<|QD (us:=[[.int .i64 e.2.2]]) rfl rfl (by decide) (by simp) ⟨rfl,rfl,trivial⟩ λb114 w23 hs23 hb114 hB114=>?_
    have hI7:=hI6.ext hs23
    refine xl rfl<|QZ (news:=[.int .i64 e.2.2]) (L:=[]) hI7.o rfl rfl rfl (hB114.at (by simp)) (by simp[Value.oneCell']) (by show d.ord.length+1≤_;omega) hI7.st.size λv24 w24 ho24 hs24 hn24=>Qe ?_
    have hk24:Qu 3 w9.heap.size w24 v24 (d.ord++[e.2.2]):=Qu.snoc ho24
    have hb12o:b12∉ob vo4:=λhb=>by have:=QR hI4.o b12 hb;omega
    have hI8:=hI7.setO hl4S hlm hs24 hk24 hn24
    have:=hs22.size
    have:=hs23.size
    have:=hs24.size
    refine ⟨(v24,mput m4 e.2.2 (.int .i64 d.ord.length),(d.ord.length:Int)),⟨rfl,rfl,trivial⟩,hcg,?_,(hB12'.ext hs23).step hs24 hb12o,by omega⟩
    simp only[]
    rw[hnC]
    exact hI8
   ·have hneg:¬cget d.num e.2.2.toNat<0:=by simpa using h104
    have hnC:ZP d e=d:=by unfold ZP;rw[hnumL,if_neg hneg]
    have hel:(if cget d.num e.2.2.toNat<0 then 0 else cget d.num e.2.2.toNat)=cget (ZP d e).num e.2.2.toNat:=by rw[hnC,if_neg hneg]
    refine Qi<|⟨(vo4,m4,if cget d.num e.2.2.toNat<0 then 0 else cget d.num e.2.2.toNat),⟨rfl,rfl,trivial⟩,hel.symm,?_,hB12,Nat.le_refl _⟩
    rw[hnC];exact hI5
  rintro ⟨vo5,m5,tn⟩ g w25 ⟨htnn,hI8,hB12',hz25⟩
  simp only[] at hI8 htnn
  have hnl:(ZP d e).num.length=d.num.length:=Qbq d e
  have hedn:(ZP d e).ed=d.ed:=by unfold ZP;split <;> rfl
  have hgN:Xc (ZP d e).num e.2.2=cget (ZP d e).num e.2.2.toNat:=rfl
  rw[hgN,hedn,htnn] at hd2
  have heN:Z4 144 w9.heap.size w25 ve4 d.ed:=by have:=hI8.e;rw[hedn] at this;exact this
  refine Qw<|x (Qa rfl)<|x (Qd hI8.B4 rfl rfl)<|Qb<|x (Qa rfl)<|x (Qd hB12' rfl rfl)<|Qb<|x (QE ⟨rfl,rfl,rfl,trivial⟩) <|
   xl rfl<|QD (us:=[Qy ((i:Int),e.2.1,tn)]) rfl rfl (by decide) (by exact (by decide:1*3≤1000000)) ⟨rfl,rfl,trivial⟩ λb123 w26 hs26 hb123 hB123=>?_
  have hI9:=hI8.ext hs26
  refine xl rfl<|QZ (m:=1) (news:=Qy ((i:Int),e.2.1,tn)) (L:=[]) (Qs heN hs26) rfl rfl rfl (hB123.at (by simp)) (λu hu=>by simp only[Qy,List.mem_cons,List.not_mem_nil,or_false] at hu;rcases hu with rfl | rfl | rfl <;> rfl) (by have:=hc4.el;omega) hI9.st.size λv27 w27 ho27 hs27 hn27=>?_
  have hk27:Z4 144 w9.heap.size w27 v27 (d.ed++[((i:Int),e.2.1,tn)]):=Z4.snoc ho27
  refine x (Qa rfl)<|xl rfl<|QF (hI9.B4.step hs27 (QM hI9.e hl4S)) rfl rfl (by simp) (QH ho27) λw28 hs28 hB28=>xe ?_
  have hIA:=hI9.setE hl4S hlm hne hs27 hk27 hn27 hs28 hB28
  rw[←hd2] at hIA
  refine Qw<|QO rfl rfl<|Qb<|xe ?_
  refine ⟨(k4+1,Zx i d e,m5,vo5,v27),by simp only[];omega,⟨rfl,rfl,trivial⟩,hIA,by simp only[];omega,hc5,?_,?_,?_,hf4⟩
  ·simp only[];rw[←hm4];exact (yy i d [] e).2
  ·simp only[];rw[yz,he4];omega
  ·simp only[]
   obtain ⟨r1,h1⟩:=qD i d e
   obtain ⟨r2',h2⟩:=ho4
   exact ⟨r2'++r1,by rw[h1,h2,List.append_assoc]⟩
 refine Qi ?_
 have hlt:k<q.a.ed.length:=by have h52:(k:Int)<(q.a.ed.length:Int):=h51;omega
 have hek:=hq.ok.ed _ (List.getElem_mem hlt)
 have htk:q.a.ed.take (k+1)=q.a.ed.take k++[q.a.ed[k]'hlt]:=List.take_succ_eq_append_getElem hlt
 have hfl:(q.a.ed.take (k+1)).filter (λe=>lft lf e.2.2)=(q.a.ed.take k).filter (λe=>lft lf e.2.2)++if lft lf (q.a.ed[k]'hlt).2.2=true then [q.a.ed[k]'hlt] else []:=by
  rw[htk,List.filter_append]
  congr 1
  by_cases h:lft lf (q.a.ed[k]'hlt).2.2=true
  ·simp[h]
  ·simp[h]
 have hfll:((q.a.ed.take k).filter (λe=>lft lf e.2.2)).length≤k:=Nat.le_trans (List.length_filter_le _ _) (by rw[List.length_take];omega)
 refine Zd ((q.a.ed.take k).filter (λe=>lft lf e.2.2)) λkept hkept=>?_
 rw[hkept] at hfl hR7 hfll
 refine Zd (q.a.ed[k]'hlt) λe he=>?_
 rw[he] at hek hfl
 have hfn:e.1=(e.1.toNat:Int):=by omega
 have htn:e.2.2=(e.2.2.toNat:Int):=by omega
 have hlf:=Vv (l:=lf) (s:=e.2.2) (by omega)
 have hrn:e.1.toNat<q.n:=by omega
 refine Qf<|Qg<|Qc<|xie hA7.a.ed rfl rfl hlt λa52 h52=>?_
 rw[he] at h52
 refine x (QC h52 rfl rfl)<|xl rfl<|Qt (us:=[.int .i64 0,.int .i64 0,.int .i64 0]) rfl λb7 w8 hs8 hb7 hB7=>xl rfl<|Qn (us:=Qy e) hB7 rfl rfl rfl rfl ⟨rfl,rfl,rfl,trivial⟩ λw9 hs9 hB7=>xe ?_
 have hs79:Step [] w7 w9:=hs8.then1 hs9 hb7
 have hz9:=hs79.size
 have hA9:=hA7.ext hs79
 have hB9:=hB.ext (hs07.trans hs79)
 have hR9:=hR7.ext hs79
 have hBE9:=hBE7.ext hs79
 refine Qf<|QS (Step [] w9) [(0,true),(1,true),(2,true),(3,true),(4,true),(5,true),(6,true),(7,true)] mixed (by rfl) (by kernel_rfl) (Step.drew _ _) ?_
 refine p (λ_=>Qo)<|p (λ_=>QI rfl)<|p (λ_=>Qa rfl)<|pq (λ_ hc=>Qd (hA9.B.ext hc) rfl rfl)<|p (λ_=>Qa rfl)<|pq (λ_ hc=>Qd (hB7.ext hc) rfl rfl) <|
  p (λ_=>Zk (i:=e.2.2.toNat) rfl (congrArg (Value.int .i64) htn) (by omega))<|pq (v:=.bool (lft lf e.2.2)) (λ_ hc=>(XD (i:=e.2.2.toNat) (hB9.ext hc) rfl (by omega)).trans (by rw[hlf]))<|pe ?_
 have hd9:Step [] w9 { w9 with drawn:=w9.drawn+1 }:=Step.drew _ _
 refine Q5 rfl (λh61=>?_) (λh61=>?_)
 ·rw[if_pos h61] at hfl
  have hrow:=hR9.own _ hrn
  have hIn:∀b∈ob (rv e.1.toNat),w6.heap.size≤b∧b<w7.heap.size:=λb hb=>⟨(Qk (hR7.own _ hrn) b hb).1,QR (hR7.own _ hrn) b hb⟩
  have hbEn:bE∉ob (rv e.1.toNat):=λhb=>by have:=hIn _ hb;omega
  have hb7n:b7∉ob (rv e.1.toNat):=λhb=>by have:=hIn _ hb;omega
  have hrl:=yG kept e.1.toNat
  refine QS (Step (ob (rv e.1.toNat)) w9) [(0,true),(1,true),(2,true),(3,true),(4,true),(5,true),(6,true),(7,true),(8,true),(9,false),(10,false),(11,true),(12,false)] mixed (by rfl) (by kernel_rfl) (hd9.any.trans' (Step.drew _ _)) ?_
  refine p (λ_=>Qo)<|p (λ_=>Qa rfl)<|pq (λ_ hc=>Qd (hB7.step hc hb7n) rfl rfl)<|p (λ_=>Qo)<|p (λ_=>Qa rfl) <|
   pq (λ_ hc=>Qd (hB7.step hc hb7n) rfl rfl)<|p (λ_=>Zk (i:=e.1.toNat) rfl (congrArg (Value.int .i64) hfn) hrn)<|pq (λ_ hc=>Qd (u:=rv e.1.toNat) (hBE9.step hc hbEn) rfl (yF hrn)) <|
   pq (λ_ hc=>Qq (hB7.step hc hb7n) rfl rfl)<|pk<|QD (us:=[Qy e]) rfl rfl (by decide) (by exact (by decide:1*3≤1000000)) ⟨rfl,rfl,trivial⟩ λb71 w10 hs10 hb71 hB71=>⟨(hd9.any.trans' (Step.drew _ _)).trans' hs10.any,?_⟩
  have hs910:Step [] w9 w10:=(hd9.trans (Step.drew _ _)).trans hs10
  have hz10:=hs910.size
  refine pk<|QZ (m:=1) (news:=Qy e) (L:=[]) (Qs hrow hs910) rfl rfl rfl (hB71.at (by simp)) (λu hu=>by simp only[Qy,List.mem_cons,List.not_mem_nil,or_false] at hu;rcases hu with rfl | rfl | rfl <;> rfl) (by omega) (by omega) λvr w11 ho11 hs11 hn11=>⟨hs910.any.trans' hs11,?_⟩
  have hBE11:=(hBE9.ext hs910).step hs11 hbEn
  have hlen:((List.range q.n).map rv).length=q.n:=by simp
  refine p (λ_=>Zk (i:=e.1.toNat) rfl (congrArg (Value.int .i64) hfn) hrn)<|pkl (hl:=by kernel_rfl)<|QF (j:=0+e.1.toNat*1) (u:=vr) hBE11 rfl rfl (by rw[hlen];omega) (QH ho11) λw12 hs12 hBE12=>pe ?_
  have hb12:Q2 w12.heap bE 56 ((List.range q.n).map (Kc rv e.1.toNat vr)):=by
   have e1:=Qds id q.n rv e.1.toNat vr
   simp only[id] at e1
   rw[←e1]
   simpa using hBE12
  have hvn:∀b∈ob vr,b∈ob (rv e.1.toNat)∨w9.heap.size≤b:=λb hb=>(hn11 b hb).imp id (λh=>by omega)
  have hR11:=hR9.app hrn (Z4.snoc ho11) (hs910.any.trans' hs11) hvn
  have hR12:=hR11.step hs12 (λi hi b hb=>by have:=(Qk (hR11.own i hi) b hb).1;simp only[List.mem_singleton];omega)
  rw[Qcm kept e hek.1,←hfl] at hR12
  refine Qw<|QO rfl rfl<|Qb<|xe ?_
  exact ⟨(k+1,Kc rv e.1.toNat vr),by simp only[];omega,⟨rfl,trivial⟩,hlt,(((hs7.trans hs79).trans hs910).then hs11 (λb hb=>.inr (hIn b hb).1)).trans' hs12,hb12,hR12⟩
 ·rw[if_neg (by rw[h61];decide),List.append_nil] at hfl
  refine Qi<|Qw<|QO rfl rfl<|Qb<|xe ?_
  exact ⟨(k+1,rv),by simp only[];omega,⟨rfl,trivial⟩,hlt,(hs7.trans hs79).trans hd9,(hBE9.ext hd9),by simp only[];rw[hfl];exact hR9.ext hd9⟩
open Go.Sort
abbrev Rz:={ x:Int×Int×Int×Int // 0≤x.1∧x.1<4096 }
instance:Inhabited Rz:=⟨⟨(0,0,0,0),by decide⟩⟩
abbrev Um (x:Rz):LV:=[.int .i64 x.1.1,.int .i64 x.1.2.1,.int .i64 x.1.2.2.1,.int .i64 x.1.2.2.2]
abbrev RzO (base:Nat) (w:World) (v:Value) (l:List Rz):Prop:=w.ownsRow base 320 4 v l.length (l.flatMap Um)
set_option maxHeartbeats 1000000 in
theorem QkC (x y:Rz) (W:World):Calls prog 216 #[.agg (Um x).toArray,.agg (Um y).toArray] W λe w'=>e=.returned (.int .i64 (x.1.1 - y.1.1))∧∃q os',w'=grow (W.drewN q) os':=by
 have hw:IntKind.i64.wrap (x.1.1 - y.1.1)=x.1.1 - y.1.1:=Ye ⟨by have:=x.2;have:=y.2;omega,by have:=x.2;have:=y.2;omega⟩
 go_enter func216,ntmps216
 go_wp2
 go_ret
 exact ⟨by rw[←hw];rfl,0,_,by rw[alloc_eq_grow,alloc_eq_grow,grow_grow];rfl⟩
theorem zt (x:Rz):(Um x).length=4:=rfl
theorem zr:∀l:List Rz,(l.flatMap Um).length=l.length*4
 | []=>rfl
 | x::l=>by rw[List.flatMap_cons,List.length_append,zr l,zt,List.length_cons];omega
theorem Qbb {l:List Rz}{j:Nat}(hj:j<l.length*4):(l.flatMap Um)[j]?=some ((flatK Um 4 l.toArray)[j]!):=by
 have h1:j / 4<l.length:=Nat.div_lt_of_lt_mul (by omega)
 have h2:j % 4<4:=Nat.mod_lt _ (by decide)
 rw[get_flatK _ _ _ _ (by simpa using hj)]
 have h3:=XH Um 4 zt l (j / 4) h1
 have h4:(l.flatMap Um)[j]?=(Um (l[j / 4]'h1))[j % 4]?:=by
  rw[←h3,List.getElem?_take,if_pos h2,List.getElem?_drop]
  congr 1;omega
 rw[h4]
 have h5:(l.toArray)[j / 4]! = l[j / 4]'h1:=by simp[h1]
 rw[h5]
 have h6:j % 4<(Um (l[j / 4]'h1)).length:=h2
 exact (List.getElem?_eq_getElem h6).trans (congrArg some (getElem!_pos (Um (l[j / 4]'h1)) (j % 4) h6).symm)
theorem QiH:SWO (ltOf λx y:Rz=>x.1.1 - y.1.1) where
 irrefl x:=by unfold ltOf;simp
 trans x y z h1 h2:=by unfold ltOf at *;simp at *;omega
 ntrans x y z h1 h2:=by unfold ltOf at *;simp at *;omega
set_option maxHeartbeats 1000000 in
theorem Qcj {w:World}{base:Nat}{v:Value}{l:List Rz}(h:RzO base w v l) (hl:l.length≤1099511627776) :
  QJ prog 215 [v,.func (.func 216) #[] #[]] w λ_ w'=>Step (ob v) w w'∧∃l',l'.length=l.length∧RzO base w' v l':=by
 unfold QJ
 rcases h.2 with ⟨rfl,h0⟩ | ⟨g,cap,cur,rfl,hbg,hg,hnc,hcm,hcs,htk⟩
 ·have hl0:l=[]:=List.eq_nil_of_length_eq_zero h0
  subst hl0
  have hc:=AnyF.slices_SortFunc_none Tryz.sortRm none 0 (.func (.func 216) #[] #[]) w
  change Calls prog 215 _ _ _ at hc
  refine Calls.mono hc λe w' he=>?_
  obtain ⟨rfl,rfl⟩:=he
  exact ⟨Step.refl _ _,[],rfl,h⟩
 ·have hlt:g<w.heap.size:=(Array.getElem?_eq_some_iff.1 hg).1
  have hcl:l.length*4≤cur.size:=by rw[hcs];exact Nat.mul_le_mul_right _ hnc
  have hH:HoldsK Um 4 w g 0 l.toArray:=by
   intro j hj
   rw[size_flatK,List.size_toArray] at hj
   have h1:=Qbb hj
   rw[←htk,List.getElem?_take,if_pos hj] at h1
   constructor
   ·show (match w.heap[g]? with | some (.cells c _ _)=>if (none:Option _).isSome then none else c[0+j]? | _=>none)=_
    rw[hg]
    simp only[Nat.zero_add,Option.isSome_none,Bool.false_eq_true,if_false]
    rw[←Array.getElem?_toList,h1];rfl
   ·show (match w.heap[g]? with | some (.cells _ _ (lo,hi))=>decide (lo≤0+j) && decide (0+j<hi) | _=>false)=false
    rw[hg];simp
  have eg:∀args w,(callFunc 216 args).run prog w=.ok (.enter 216 args) w:=enters_of func216 (by kernel_rfl) rfl
  have hc:=AnyQ.slices_SortFunc Tryz.sortRm 4 Tryz.isAgg320 Tryz.sizeOf320 Um zt (λx v hv=>by simp at hv;rcases hv with rfl | rfl | rfl | rfl <;> rfl) (λx y=>x.1.1 - y.1.1) QiH 216 #[] g 0 cap l.toArray w eg (λm os dk _ x y=>QkC x y _) hH hlt (by simp;omega)
  change Calls prog 215 _ _ _ at hc
  rw[List.size_toArray] at hc
  refine Calls.mono hc λe w' he=>?_
  obtain ⟨rfl,d',n,os,hp,_,rfl⟩:=he
  have hsz:d'.size=l.length:=by have:=hp.1;simpa using this
  have hhp:(sortWorldK Um 4 w g 0 n d' os).heap=w.heap.modify g (onCells (putCells id 0 (flatK Um 4 d')))++os:=rfl
  refine ⟨⟨rfl,rfl,rfl,?_,λk hk hn=>?_⟩,d'.toList,by simpa using hsz,?_⟩
  ·rw[hhp,Array.size_append,Array.size_modify];omega
  ·rw[hhp,Array.getElem?_append,Array.size_modify,if_pos hk,Array.getElem?_modify,if_neg (λe=>hn (by simp[ob,e]))]
  ·refine ⟨zr _,.inr ⟨g,cap,putCells id 0 (flatK Um 4 d') cur,by simp[hsz],hbg,?_,by simp[hsz];exact hnc,hcm,by simp[putCells,hcs],?_⟩⟩
   ·rw[hhp,Array.getElem?_append,Array.size_modify,if_pos hlt,Array.getElem?_modify,if_pos rfl,hg];rfl
   ·apply List.ext_getElem?
    intro j
    rw[List.getElem?_take]
    by_cases hj:j<d'.toList.length*4
    ·rw[if_pos hj,Qbb hj,Array.getElem?_toList]
     have hjc:j<cur.size:=by simp[hsz] at hj;omega
     have hjf:j<(flatK Um 4 d').size:=by simpa using hj
     simp only[putCells,Array.getElem?_mapIdx,Array.getElem?_eq_getElem hjc,Option.map_some,Nat.zero_le,Nat.zero_add,true_and,if_pos hjf,Nat.sub_zero,id]
    ·rw[if_neg hj,List.getElem?_eq_none]
     rw[zr];omega
theorem QiS {a:QV}{ul:LI}{lf:Lf}{n:Nat}(ho:Zs a) (hn:a.st=(n:Int)) (hl:lf.length=n):∀x∈nxs a ul lf,0≤x∧x<(n:Int):=λx hx=>by
 have h1:=Qep x hx
 have h2:x.toNat<n:=by
  refine Decidable.byContradiction λh=>?_
  unfold lft at h1
  simp[List.getD,List.getElem?_eq_none (show lf.length≤x.toNat by omega)] at h1
 unfold nxs at hx
 split at hx
 ·obtain ⟨p,hp,rfl⟩:=List.mem_map.1 hx
  obtain ⟨_,e,he,h3,_⟩:=(zR a ul lf).1 p hp
  have:=ho.ed e he
  omega
 ·have:=((Vc lf (dsts a lf) 0).1 x hx).2
  omega
theorem Qia {rk rs:Int}:∀(l:List (Int×Int)),(∀x∈l.map (·.1),0≤x∧x<4096)→∃lz:List Rz,lz.flatMap Um=l.flatMap (yH rk rs)∧lz.length=l.length
 | [],_=>⟨[],rfl,rfl⟩
 | x::l,h=>by
  obtain ⟨lz,h1,h2⟩:=Qia l (λy hy=>h y (List.mem_cons_of_mem _ hy))
  exact ⟨⟨(x.1,rk,rs,x.2),h x.1 List.mem_cons_self⟩::lz,by rw[List.flatMap_cons,List.flatMap_cons,h1],by simp[h2]⟩
theorem Qbn:∀l:List Rz,∀u∈l.flatMap Um,u.oneCell'=true
 | [],u,h=>by cases h
 | x::l,u,h=>by
  rw[List.flatMap_cons,List.mem_append] at h
  rcases h with h | h
  ·simp only[Um,List.mem_cons,List.not_mem_nil,or_false] at h
   rcases h with rfl | rfl | rfl | rfl <;> rfl
  ·exact Qbn l u h
theorem RzO.snoc {base:Nat}{w:World}{v:Value}{l m:List Rz}(h:w.ownsRow base 320 4 v (l.length+m.length) (l.flatMap Um++m.flatMap Um)):RzO base w v (l++m):=by
 unfold RzO
 rw[List.length_append,List.flatMap_append];exact h
abbrev Jo (k d r:Value) (n:Int):LV:=[k,d,r,.int .i64 n,nS,.int .i64 0,nS,nS,nS]
structure ReI (b10:Nat) (q:Pz) (wB:World) (lf:Lf) (rn:Int) (vr:Value) (lz:List Rz) (w:World):Prop where
 st:Step [b10,q.bl] wB w
 B10:Q2 w.heap b10 170 (Jo (nS) (nS) vr rn)
 R:RzO wB.heap.size w vr lz
 F:Q2 w.heap q.bl 4 (lf.map Value.bool)
 n:lf.length=q.n
section
variable {b10:Nat} {q:Pz} {wB w w' w'':World} {lf:Lf} {rn:Int} {vr:Value} {lz:List Rz}
theorem ReI.ext (h:ReI b10 q wB lf rn vr lz w) (hs:Step [] w w'):ReI b10 q wB lf rn vr lz w':=⟨h.st.trans hs,h.B10.ext hs,Qs h.R hs,h.F.ext hs,h.n⟩
theorem ReI.cut (h:ReI b10 q wB lf rn vr lz w) (l:q.bl<wB.heap.size) (ne:b10≠q.bl) (hs:Step [q.bl] w w') {lf':Lf}(hF:Q2 w'.heap q.bl 4 (lf'.map Value.bool)) (hn:lf'.length=q.n):ReI b10 q wB lf' rn vr lz w' :=
 ⟨h.st.then hs (λb hb=>.inl (by simp only[List.mem_singleton] at hb;simp[hb])),h.B10.step hs (by simpa using ne),Qj h.R hs (λb hb=>by have:=(Qk h.R b hb).1;simp only[List.mem_singleton];omega),hF,hn⟩
theorem ReI.app (h:ReI b10 q wB lf rn vr lz w) (l:q.bl<wB.heap.size) (l10:b10<wB.heap.size) (ne:b10≠q.bl) {vr':Value}{lz':List Rz}{rn':Int}(hs:Step (ob vr) w w') (hR:RzO wB.heap.size w' vr' lz') (hs2:Step [b10] w' w'')
  (hB:Q2 w''.heap b10 170 (Jo (nS) (nS) vr' rn')):ReI b10 q wB lf rn' vr' lz' w'':=by
 have hge:=Qk h.R
 exact ⟨(h.st.then hs (λb hb=>.inr (hge b hb).1)).then hs2 (λb hb=>.inl (by simp only[List.mem_singleton] at hb;simp[hb])),hB,Qj hR hs2 (λb hb=>by have:=(Qk hR b hb).1;simp only[List.mem_singleton];omega),
  (h.F.step hs (λhb=>by have:=(hge _ hb).1;omega)).step hs2 (by simpa using ne.symm),h.n⟩
theorem ReI.rounds (h:ReI b10 q wB lf rn vr lz w) (l10:b10<wB.heap.size) (ne:b10≠q.bl) {rn':Int}(hs2:Step [b10] w w') (hB:Q2 w'.heap b10 170 (Jo (nS) (nS) vr rn')):ReI b10 q wB lf rn' vr lz w' :=
 ⟨h.st.then hs2 (λb hb=>.inl (by simp only[List.mem_singleton] at hb;simp[hb])),hB,Qj h.R hs2 (λb hb=>by have:=(Qk h.R b hb).1;simp only[List.mem_singleton];omega),h.F.step hs2 (by simpa using ne.symm),h.n⟩
end
set_option maxHeartbeats 8000000 in
theorem Qco {w:World}{va vm ve vf vu:Value}{a:QV}{forb unc:LI}(h:Zt [] w.heap va vm ve a) (hok:Zs a) (hf:QL [] w.heap vf forb) (hfb:∀x∈forb,0≤x∧x<a.st) (hfl:forb.length≤4096) (hu:QL [] w.heap vu unc) :
  QJ prog 159 [.agg #[va,.int .i64 a.st,vm,ve],vf,vu,.bool true] w λr w'=>Step [] w w'∧∃c0 c1 c2 c3 sa sm se o,r=.agg #[c0,c1,c2,c3,sa,.int .i64 (zm a forb unc).st,sm,se,o] ∧
   Zw [c0,c1,c2,c3,o]∧∀L:LN,(∀b∈L,b<w.heap.size)→Zt L w'.heap sa sm se (zm a forb unc):=by
 have hst0:=hok.st0
 have hst1:=hok.st1
 obtain ⟨n,hn⟩:∃n:Nat,a.st=n:=⟨a.st.toNat,by omega⟩
 have hnt:a.st.toNat=n:=by omega
 have hsy:zm a forb unc=QdH a (qj a unc (n+1) (lf0 n forb)):=by unfold zm Qka;rw[hnt]
 refine Zd (zm a forb unc) λSA hSA=>?_
 rw[hSA] at hsy ⊢
 refine QJ.of_W func159 rfl ntmps159 results159 (by simp) ?_
 refine Qc<|xl rfl<|QQ (us:=[va,.int .i64 a.st,vm,ve]) rfl λb4 w1 hs1 hb4 hB4=>xl rfl<|Qt (us:=Jo (nS) (nS) (nS) 0) rfl λb8 w2 hs2 hb8 hB8=>xe ?_
 have hs02:=hs1.trans hs2
 have hl8:=hB8.lt
 have hz1:=hs1.size
 have hz2:=hs2.size
 refine Qc<|x (Qq (hB4.ext hs2) rfl rfl)<|Qb<|Qb<|xl rfl<|xf<|(QdI (h.ext hs02) hok hn (hf.ext hs02) hfb (hu.ext hs02)).mono ?_
 rintro r3 w3 ⟨hs3,bp,q,rfl,hqa,hqu,hqn,hbl,hP,hF⟩
 refine Qe ?_
 subst hqa hqu hqn
 have hq:PzQ q:=⟨hok,hn⟩
 have hs03:=hs02.trans hs3
 have hz3:=hs3.size
 have hlF:=hF.lt
 refine Qc<|xl rfl<|Qt (us:=Jo (nS) (nS) (nS) 0) rfl λb10 w4 hs4 hb10 hB10=>xe ?_
 have hs04:=hs03.trans hs4
 have hz4:=hs4.size
 have hl10:=hB10.lt
 have hne:b10≠q.bl:=by omega
 have hlb:q.bl<w4.heap.size:=by omega
 have hP0:yo [b10,q.bl] w4.heap bp q:=(hP.up (λb hb=>by
  simp only[List.mem_cons,List.not_mem_nil,or_false] at hb
  rcases hb with rfl | rfl
  ·exact .inr hb10
  ·exact .inl (by simp))).ext hs4
 have hlfl:=Qg5 q.n forb
 have hPz:∀{w'},Step [b10,q.bl] w4 w'→yo [] w'.heap bp q:=λhs=>(hP0.st hs).up (by simp)
 refine Qf<|Qc<|Qb<|x (Qr (hf.ext hs04) rfl)<|Qb<|xe ?_
 refine Qg<|QA (α:=Nat×Int×Value×List Rz) [(12,12),(25,39)] (λz=>[(25,.int .i64 z.1)]) (λz w'=>z.1≤forb.length∧ReI b10 q w4 (lf0 q.n forb) z.2.1 z.2.2.1 z.2.2.2 w'∧z.2.2.2.length=z.1∧(z.2.1=0∨z.2.1=1)) (λz=>forb.length - z.1) (by rfl) (0,0,nS,[]) ⟨rfl,trivial⟩
  ⟨Nat.zero_le _,⟨Step.refl _ _,hB10,QP _ _ _ _,hF.ext hs4,hlfl⟩,rfl,.inl rfl⟩ ?_
 rintro ⟨k,rn,vr,lz⟩ g w5 ⟨hk,hI,hlz,hrn⟩
 simp only[] at hk hI hlz hrn
 have hf5:QL [] w5.heap vf forb:=((hf.up (L':=[b10,q.bl]) (λb hb=>by
  simp only[List.mem_cons,List.not_mem_nil,or_false] at hb
  exact .inr (by omega))).ext hs04 |>.st hI.st).up (by simp)
 refine Qc<|x (QB rfl rfl)<|xe ?_
 refine Qf<|QG rfl (λh26=>?_) (λh26=>?_)
 ·refine Qx ?_
  have hcl:=QhL (lf0 q.n forb)
  refine Qf<|Qc<|Qe<|Qg<|QA (α:=Nat×Nat×Int×Value×List Rz×Lf) [(13,14),(16,16),(40,71)] (λz=>[(13,.int .i64 z.2.1)])
   (λz w'=>ReI b10 q w4 z.2.2.2.2.2 z.2.2.1 z.2.2.2.1 z.2.2.2.2.1 w'∧z.2.1+z.1=q.n+3∧z.2.2.2.2.1.length≤4096+z.2.1*1000000∧qj q.a q.unc z.1 z.2.2.2.2.2=qj q.a q.unc (q.n+1) (lf0 q.n forb)∧Kj z.2.2.2.2.2+1≤z.1) (λz=>z.1) (by rfl)
   (q.n+1,2,rn,vr,lz,lf0 q.n forb) ⟨rfl,trivial⟩ ⟨hI,by simp only[];omega,by simp only[];omega,rfl,by simp only[];omega⟩ ?_
  rintro ⟨f,rank,rn,vr,lz,lf⟩ g w6 ⟨hI,hrk,hlz,hres,hcn⟩
  simp only[] at hI hrk hlz hres hcn
  refine Qf<|Qg<|Qc<|Qb<|Qb<|Qb<|xl rfl<|xf<|(Qeg (hPz hI.st) hq hI.F hI.n rank).mono ?_
  rintro r7 w7 ⟨hs7,rs,l,hO7,hl7,hll7⟩
  refine Qe ?_
  have hI7:=hI.ext hs7
  have hlA:Zj [] w7.heap r7 l.length 4 (l.flatMap (yH rank rs)):=QT hO7 (by omega) (by simp)
  have hnl:(nxs q.a q.unc lf).length=l.length:=by rw[←hl7,List.length_map]
  have hrg:=QiS (ul:=q.unc) hok hn hI.n
  rw[←hl7] at hrg
  refine Qf<|Qc<|Qb<|x (Qr hlA rfl)<|x (Q7 rfl rfl)<|xe ?_
  refine Q4 rfl (λh48=>?_) (λh48=>?_)
  ·refine Qx ?_
   have hl0:l.length=0:=by have h49:(l.length:Int)=0:=h48;omega
   rw[Qcq (by rw[hnl];exact hl0)] at hres
   rw[←hres] at hsy
   refine Qc<|x (Qa rfl)<|x (Qa rfl)<|x (Qd hI7.B10 rfl rfl)<|xl rfl<|xf<|(Qcj hI7.R (by omega)).mono ?_
   rintro r8 w8 ⟨hs8,lz8,_,hR8⟩
   refine xe ?_
   have hge:=Qk hI7.R
   have hst8:Step [b10,q.bl] w4 w8:=hI7.st.then hs8 (λb hb=>.inr (hge b hb).1)
   have hB8':Q2 w8.heap b10 170 (Jo (nS) (nS) vr rn):=hI7.B10.step hs8 (λhb=>by have:=(hge _ hb).1;omega)
   have hF8:Q2 w8.heap q.bl 4 (lf.map Value.bool):=hI7.F.step hs8 (λhb=>by have:=(hge _ hb).1;omega)
   have hvr:=QH hR8
   have hz8:=hst8.size
   refine Qf<|Qc<|Qb<|xl rfl<|xf<|(K7 (hPz hst8) hq hF8 hI7.n).mono ?_
   rintro r9 w9 ⟨hs9,bD,rfl,hbD,hD9,hDl⟩
   refine Zd (dsts q.a lf) λD hD=>?_
   rw[hD] at hD9 hDl
   have hDA:QL [b10] w9.heap (.slice (some ⟨bD,0,none⟩) q.n q.n) D:=by
    have h1:=hD9.arr (L:=[b10]) (by simp only[List.mem_singleton];omega) (n:=q.n) (cap:=q.n) (sz:=1) (by simp[hDl]) (by omega) (Nat.le_refl _)
    unfold QL;rw[hDl];exact h1
   have hst9:=hst8.trans hs9
   have hz9:=hs9.size
   have hF9:=hF8.ext hs9
   refine x (Qr hDA rfl)<|Qb<|xe ?_
   refine Qg<|QA (α:=Nat×Value×Value×LI×LI) [(17,18),(79,107)] (λz=>[(79,.int .i64 z.1)])
    (λz w'=>z.1≤D.length∧Step [b10] w9 w'∧Q2 w'.heap b10 170 (Jo z.2.1 z.2.2.1 vr rn)∧Qu 3 w9.heap.size w' z.2.1 z.2.2.2.1∧Qu 3 w9.heap.size w' z.2.2.1 z.2.2.2.2∧Dj z.2.1 z.2.2.1∧z.2.2.2.1.length≤z.1∧z.2.2.2.2.length≤z.1) (λz=>D.length - z.1) (by rfl) (0,nS,nS,[],[]) ⟨rfl,trivial⟩
    ⟨Nat.zero_le _,Step.refl _ _,hB8'.ext hs9,QP _ _ _ _,QP _ _ _ _,Dj.nil' _,Nat.le_refl _,Nat.le_refl _⟩ ?_
   rintro ⟨i,vk,vd,lk,ld⟩ g w10 ⟨hi,hs10,hB10',hK,hDd,hdj,hlk,hld⟩
   simp only[] at hi hB10' hK hDd hdj hlk hld
   have hz10:=hs10.size
   have hst10:Step [b10,q.bl] w4 w10:=hst9.then hs10 (λb hb=>.inl (by simp only[List.mem_singleton] at hb;simp[hb]))
   have hF10:Q2 w10.heap q.bl 4 (lf.map Value.bool):=hF9.step hs10 (by simpa using hne.symm)
   refine Qc<|x (QB rfl rfl)<|xe ?_
   refine Qf<|QG rfl (λh80=>?_) (λh80=>?_)
   ·refine Qx ?_
    refine Qc<|Qb<|xl rfl<|xf<|(Uu (hPz hst10) hq hF10 hI7.n).mono ?_
    rintro r11 w11 ⟨hs11,_,o,rfl,⟨sa,sm,se,rfl,hSA11⟩,ho1⟩
    rw[←hsy] at hSA11
    have hS0:=hSA11 [] (by simp)
    have hz11:=hs11.size
    refine Qb<|x (Qp rfl rfl)<|x (Qp rfl rfl)<|x (Qa rfl)<|xl rfl<|XZ (us:=[sa,.int .i64 SA.st,sm,se]) (hB10'.ext hs11) rfl (by rw[←hsy];rfl) rfl (by simp) ⟨hS0.al.one,rfl,hS0.mr.one,hS0.ed.one,trivial⟩ rfl λw12 hs12 hB12 =>
     x (Qa rfl)<|xl rfl<|QF (j:=8) (u:=o) hB12 rfl rfl (by simp) ho1 λw13 hs13 hB13=>xe ?_
    have hb8n:b8∉[b10,q.bl]:=by simp only[List.mem_cons,List.not_mem_nil,or_false];omega
    have hb810:b8∉[b10]:=by simp only[List.mem_singleton];omega
    have hB8f:=(((((hB8.ext (hs3.trans hs4)).step hst10 hb8n).ext hs11).step hs12 hb810).step hs13 hb810)
    refine Qc<|x (Qq hB13 rfl rfl)<|xl rfl<|Qn (us:=[vk,vd,vr,.int .i64 rn,sa,.int .i64 SA.st,sm,se,o]) hB8f rfl rfl rfl rfl ⟨QH hK,QH hDd,hvr,rfl,hS0.al.one,rfl,hS0.mr.one,hS0.ed.one,ho1,trivial⟩ λw14 hs14 hB14=>xe ?_
    have hup:∀b∈[b10,q.bl],w.heap.size≤b:=λb hb=>by simp only[List.mem_cons,List.not_mem_nil,or_false] at hb;omega
    have hfin:Step [] w w14:=((((hs04.then hst10 (λb hb=>.inr (hup b hb))).trans hs11).then1 hs12 (by omega)).then1 hs13 (by omega)).then1 hs14 (by omega)
    refine Ql ⟨[.agg [vk,vd,vr,.int .i64 rn,sa,.int .i64 SA.st,sm,se,o].toArray],⟨⟨_,rfl,Qz rfl (hB14.at (L:=[]) (by simp)).cells⟩,trivial⟩,hfin,vk,vd,vr,.int .i64 rn,sa,sm,se,o,rfl,⟨QH hK,QH hDd,hvr,rfl,ho1,trivial⟩,λL hL=>?_⟩
    have h1:=hSA11 (b10::b8::L) (λb hb=>by
     simp only[List.mem_cons] at hb
     rcases hb with rfl | rfl | hb
     ·omega
     ·omega
     ·have:=hL b hb;omega)
    have h2:=((h1.st (hs12.mono (by simp))).st (hs13.mono (by simp))).st (hs14.mono (by simp))
    exact h2.up (λb hb=>.inl (by simp[hb]))
   refine Qi ?_
   have hilt:i<D.length:=by have h81:(i:Int)<(D.length:Int):=h80;omega
   have hil:i<lf.length:=by rw[hI7.n,←hDl];exact hilt
   have hlf:lf[i]'hil=lf.getD i false:=by simp[List.getD,hil]
   refine Qf<|Qg<|Qc<|Qb<|xii (i:=i) (hDA.st hs10) rfl rfl hilt λa82 h82=>?_
   refine Zd (D[i]'hilt) λd hd=>?_
   rw[hd] at h82
   refine x (Qv h82 rfl)<|x Qh<|Qe<|Qc<|Qb<|x (QI rfl)<|x (Qa rfl)<|x (Qd (hPz hst10).B rfl rfl)<|Qb<|x (Zk (i:=i) rfl rfl (by omega))<|x (v:=.bool (lf.getD i false)) ((XD (i:=i) hF10 rfl hil).trans (by rw[hlf]))<|xe ?_
   refine Q5 rfl (λh90=>?_) (λh90=>?_)
   ·have hb10k:∀{v:Value} {l:LI} {w':World},Qu 3 w9.heap.size w' v l→b10∉ob v:=λho hm=>by have:=(Qk ho b10 hm).1;omega
    refine Qc<|x (Qa rfl)<|x (Qa rfl)<|x (Qd hB10' rfl rfl)<|Qb<|xl rfl<|QD (us:=[[.int .i64 i]]) rfl rfl (by decide) (by simp) ⟨rfl,rfl,trivial⟩ λb95 y1 hy1 hb95 hB95=>xl rfl<|QZ (m:=1) (news:=[.int .i64 i]) (L:=[]) (Qs hK hy1) rfl rfl rfl (hB95.at (by simp)) (by simp[Value.oneCell']) (by omega) (by have:=hy1.size;omega) λvk2 y2 hoy2 hy2 hn2 =>
     x (Qa rfl)<|x (Qa rfl)<|xl rfl<|QF (j:=0) (u:=vk2) ((hB10'.ext hy1).step hy2 (hb10k hK)) rfl rfl (by simp) (QH hoy2) λy3 hy3 hB3=>xe ?_
    have hK2:Qu 3 w9.heap.size y2 vk2 (lk++[(i:Int)]):=Qu.snoc hoy2
    have hzy1:=hy1.size
    have hzy2:=hy2.size
    have hzy3:=hy3.size
    have hD2:Qu 3 w9.heap.size y2 vd ld:=Qj (Qs hDd hy1) hy2 (λb hb hm=>hdj b hm hb)
    have hdj2:Dj vk2 vd:=λb hb hm=>by
     rcases hn2 b hb with h1 | h1
     ·exact hdj b h1 hm
     ·have:=QR hDd b hm;omega
    have hs3':∀{v:Value} {l:LI},Qu 3 w9.heap.size y2 v l→Qu 3 w9.heap.size y3 v l:=λho=>Qj ho hy3 (λb hb hm=>by simp only[List.mem_singleton] at hm;subst hm;exact hb10k ho hb)
    have hK3:=hs3' hK2
    have hD3:=hs3' hD2
    have hs913:Step [b10] w9 y3:=(((hs10.trans hy1).then hy2 (λb hb=>.inr (Qk hK b hb).1))).trans' hy3
    refine Qw<|x (Qa rfl)<|x (Qa rfl)<|x (Qd hB3 rfl rfl)<|Qb<|xl rfl<|QD (us:=[[.int .i64 d]]) rfl rfl (by decide) (by simp) ⟨rfl,rfl,trivial⟩ λb103 y4 hy4 hb103 hB103=>xl rfl<|QZ (m:=1) (news:=[.int .i64 d]) (L:=[]) (Qs hD3 hy4) rfl rfl rfl (hB103.at (by simp)) (by simp[Value.oneCell']) (by omega) (by have:=hy4.size;omega) λvd2 y5 hoy5 hy5 hn5 =>
     x (Qa rfl)<|x (Qa rfl)<|xl rfl<|QF (j:=1) (u:=vd2) ((hB3.ext hy4).step hy5 (hb10k hD3)) rfl rfl (by simp) (QH hoy5) λy6 hy6 hB6=>xe ?_
    have hD5:Qu 3 w9.heap.size y5 vd2 (ld++[d]):=Qu.snoc hoy5
    have hK5:Qu 3 w9.heap.size y5 vk2 (lk++[(i:Int)]):=Qj (Qs hK3 hy4) hy5 (λb hb hm=>hdj2 b hb hm)
    have hzy4:=hy4.size
    refine Qw<|QO rfl rfl<|Qb<|xe ?_
    refine ⟨(i+1,vk2,vd2,_,_),by simp only[];omega,⟨rfl,trivial⟩,hilt,(((hs913.trans hy4).then hy5 (λb hb=>.inr (Qk hD3 b hb).1))).trans' hy6,hB6,Qj hK5 hy6 (λb hb hm=>by simp only[List.mem_singleton] at hm;subst hm;exact hb10k hK5 hb),Qj hD5 hy6 (λb hb hm=>by simp only[List.mem_singleton] at hm;subst hm;exact hb10k hD5 hb),λb hb hm=>?_,by simp only[List.length_append,List.length_singleton];omega,by simp only[List.length_append,List.length_singleton];omega⟩
    rcases hn5 b hm with h1 | h1
    ·exact hdj2 b hb h1
    ·have:=QR hK3 b hb;omega
   ·refine Qi<|Qw<|QO rfl rfl<|Qb<|xe ?_
    exact ⟨(i+1,vk,vd,lk,ld),by simp only[];omega,⟨rfl,trivial⟩,hilt,hs10,hB10',hK,hDd,hdj,by simp only[];omega,by simp only[];omega⟩
  refine Qi ?_
  have hl0:¬l.length=0:=λe=>h48 (by show (l.length:Int)=0;omega)
  have hnl0:(nxs q.a q.unc lf).length≠0:=by rw[hnl];exact hl0
  have hless:=Qeq hnl0
  refine Exists.elim (Nat.exists_eq_succ_of_ne_zero (show f≠0 by omega)) λf' hfe=>?_
  subst hfe
  rw[Qcp hnl0,←hl7] at hres
  rw[←hl7] at hless
  refine Exists.elim (Qia (rk:=(rank:Int)) (rs:=rs) l (λx hx=>by have:=hrg x hx;omega)) λln hln=>?_
  have hz67:=hs7.size
  refine Qf<|Qc<|Qb<|x (Qr hlA rfl)<|Qb<|xe ?_
  refine Qg<|QA (α:=Nat) [(16,16),(51,62)] (λz=>[(51,.int .i64 z)]) (λz w'=>z≤l.length∧Step [q.bl] w7 w'∧ReI b10 q w4 (((l.take z).map (·.1)).foldl cut lf) rn vr lz w') (λz=>l.length - z) (by rfl) 0 ⟨rfl,trivial⟩ ⟨Nat.zero_le _,Step.refl _ _,hI7⟩ ?_
  rintro j g w8 ⟨hj,hs8,hI8⟩
  have hrn:∀b∈ob r7,b≠q.bl:=λb hb e=>by have:=(Qk hO7 b hb).1;have:=hI.st.size;omega
  have hO8:RmO w6.heap.size w8 r7 rank rs l:=Qj hO7 hs8 (λb hb hm=>hrn b hb (by simpa using hm))
  have hlA8:Zj [q.bl] w8.heap r7 l.length 4 (l.flatMap (yH rank rs)):=QT hO8 (by omega) (λb hb hm=>hrn b hb (by simpa using hm))
  refine Qc<|x (QB rfl rfl)<|xe ?_
  refine Qf<|QG rfl (λh52=>?_) (λh52=>?_)
  ·refine Qx ?_
   have hje:l.length≤j:=by have h53:¬(j:Int)<(l.length:Int):=h52;omega
   rw[List.take_of_length_le hje] at hI8
   obtain ⟨ad,cap7,hr7,_,hAt7⟩:∃ad cap,r7=.slice (some ad) l.length cap∧l.length≤cap∧At [q.bl] w8.heap ad (l.flatMap (yH rank rs)):=by
    rcases hlA8.2.2 with ⟨_,h0⟩ | h1
    ·exact absurd h0 hl0
    ·exact h1
   have hlnl:ln.length*4=l.length*4:=by rw[hln.2]
   refine Qc<|x (Qa rfl)<|x (Qa rfl)<|x (Qd hI8.B10 rfl rfl)<|Qb<|xl rfl<|QZ (m:=l.length) (news:=l.flatMap (yH rank rs)) (L:=[q.bl]) hI8.R rfl hr7 (by rw[←hln.1,zr,hln.2]) hAt7 (by rw[←hln.1];exact Qbn ln) (by omega) hI8.st.size λv22 w22 ho22 hs22 hn22 =>
    x (Qa rfl)<|x (Qa rfl)<|xl rfl<|QF (j:=2) (u:=v22) (hI8.B10.step hs22 (λhb=>by have:=(Qk hI8.R _ hb).1;omega)) rfl rfl (by simp) (QH ho22) λw23 hs23 hB23=>xe ?_
   have hR22:RzO w4.heap.size w22 v22 (lz++ln):=RzO.snoc (by rw[hln.1,hln.2];exact ho22)
   have hI23:=hI8.app hlb hl10 hne hs22 hR22 hs23 hB23
   refine Qw<|Qb<|x (Qa rfl)<|xl rfl<|QF (j:=3) (u:=.int .i64 rank) hI23.B10 rfl rfl (by simp) rfl λw24 hs24 hB24=>xe ?_
   have hI24:=hI23.rounds hl10 hne hs24 hB24
   have hra:(-9223372036854775808:Int)≤(rank:Int)+1:=by omega
   have hrb:(rank:Int)+1≤9223372036854775807:=by omega
   refine Qw<|Qb<|x (XY rfl rfl ⟨hra,hrb⟩)<|Qe ?_
   exact ⟨(f',rank+1,(rank:Int),v22,lz++ln,(l.map (·.1)).foldl cut lf),by simp only[];omega,⟨rfl,trivial⟩,hI24,by simp only[];omega,by simp only[List.length_append];omega,hres,by simp only[];omega⟩
  refine Qi ?_
  have hjlt:j<l.length:=by have h53:(j:Int)<(l.length:Int):=h52;omega
  have htk:l.take (j+1)=l.take j++[l[j]'hjlt]:=List.take_succ_eq_append_getElem hjlt
  have hfo:((l.take (j+1)).map (·.1)).foldl cut lf=cut (((l.take j).map (·.1)).foldl cut lf) (l[j]'hjlt).1:=by rw[htk,List.map_append,List.foldl_append];rfl
  have hxr:=hrg (l[j]'hjlt).1 (List.mem_map_of_mem (List.getElem_mem hjlt))
  refine Zd (l[j]'hjlt) λy hy=>?_
  rw[hy] at hfo hxr
  have hyn:y.1=(y.1.toNat:Int):=by omega
  refine Qf<|Qg<|Qc<|xig (g:=yH rank rs) (i:=j) (Qbc rank rs) hlA8 rfl rfl hjlt λa53 h53=>?_
  rw[hy] at h53
  refine x (QC h53 rfl rfl)<|xl rfl<|Qt (us:=[.int .i64 0,.int .i64 0,.int .i64 0,.int .i64 0]) rfl λb16 w9 hs9 hb16 hB16=>xl rfl<|Qn (us:=yH rank rs y) hB16 rfl rfl rfl rfl ⟨rfl,rfl,rfl,rfl,trivial⟩ λw10 hs10 hB16=>xe ?_
  have hs810:Step [] w8 w10:=hs9.then1 hs10 hb16
  have hI10:=hI8.ext hs810
  have hnn:=hI8.n
  refine QS (Step [] w10) [(0,true),(1,true),(2,true),(3,true),(4,true),(5,true),(6,true),(7,false)] mixed (by rfl) (by kernel_rfl) (Step.drew _ _) ?_
  refine p (λ_=>Qo)<|p (λ_=>QI rfl)<|p (λ_=>Qa rfl)<|pq (λ_ hc=>Qd ((hPz hI10.st).B.ext hc) rfl rfl)<|p (λ_=>Qa rfl)<|pq (λ_ hc=>Qd (hB16.ext hc) rfl rfl) <|
   p (λ_=>Zk (i:=y.1.toNat) rfl (congrArg (Value.int .i64) hyn) (by omega))<|pkl (hl:=by kernel_rfl)<|Uv (i:=y.1.toNat) (hI10.F.ext (Step.drew _ _)) rfl rfl (by omega) λw11 hs11 hF11=>pe ?_
  refine Qw<|QO rfl rfl<|Qb<|xe ?_
  refine ⟨j+1,by omega,⟨rfl,trivial⟩,hjlt,((hs8.trans hs810).trans (Step.drew _ _)).trans' hs11,?_⟩
  rw[hfo]
  exact (hI10.ext (Step.drew _ _)).cut hlb hne hs11 hF11 (by rw[QbQ];exact hnn)
 refine Qi ?_
 have hklt:k<forb.length:=by have h27:(k:Int)<(forb.length:Int):=h26;omega
 have hxk:=hfb _ (List.getElem_mem hklt)
 refine Zd (forb[k]'hklt) λy hy=>?_
 rw[hy] at hxk
 refine Qf<|Qg<|Qc<|xii (i:=k) hf5 rfl rfl hklt λa27 h27=>?_
 rw[hy] at h27
 refine x (Qv h27 rfl)<|Qe<|Qc<|x (Qa rfl)<|x (Qa rfl)<|x (Qd hI.B10 rfl rfl)<|Qb<|x (QE ⟨rfl,rfl,rfl,rfl,trivial⟩)<|xl rfl<|QD (us:=[[.int .i64 y,.int .i64 1,.int .i64 1,.int .i64 (-1)]]) rfl rfl (by decide) (by simp) ⟨rfl,rfl,trivial⟩ λb34 w6 hs6 hb34 hB34=>?_
 have hI6:=hI.ext hs6
 refine xl rfl<|QZ (m:=1) (news:=[.int .i64 y,.int .i64 1,.int .i64 1,.int .i64 (-1)]) (L:=[]) hI6.R rfl rfl rfl (hB34.at (by simp)) (by simp[Value.oneCell']) (by omega) hI6.st.size λv7 w7 ho7 hs7 hn7 =>
  x (Qa rfl)<|x (Qa rfl)<|xl rfl<|QF (j:=2) (u:=v7) (hI6.B10.step hs7 (λhb=>by have:=(Qk hI6.R _ hb).1;omega)) rfl rfl (by simp) (QH ho7) λw8 hs8 hB8'=>xe ?_
 have hR7:RzO w4.heap.size w7 v7 (lz++[⟨(y,1,1,-1),by simp only[];omega⟩]):=RzO.snoc ho7
 have hI8:=hI6.app hlb hl10 hne hs7 hR7 hs8 hB8'
 refine Qw<|x (Qa rfl)<|xl rfl<|QF (j:=3) (u:=.int .i64 1) hI8.B10 rfl rfl (by simp) rfl λw9 hs9 hB9=>xe ?_
 have hI9:=hI8.rounds hl10 hne hs9 hB9
 refine Qw<|QO rfl rfl<|Qb<|xe ?_
 exact ⟨(k+1,1,v7,_),by simp only[];omega,⟨rfl,trivial⟩,hklt,hI9,by simp only[List.length_append,List.length_singleton];omega,.inr rfl⟩
instance:Bw prog 170 (Jo (nS) (nS) (nS) 0) [(0,3),(3,1),(4,4),(8,1)]:=⟨by kernel_rfl,by decide⟩
theorem QiA {c:Zv}{pl:QV}{ps:List (LI)}{l:List (LI)}:∀r∈spF c pl ps l,0≤r.st∧r.st<(l.length:Int):=λr hr=>by
 unfold spF at hr
 obtain ⟨⟨t,i⟩,hp,h1⟩:=List.mem_filterMap.1 hr
 have hi:=List.snd_lt_add_of_mem_zipIdx hp
 simp only[Nat.zero_add] at hi
 have h2:r.st=(i:Int):=by
  simp only[] at h1
  unfold rsn at h1
  split at h1
  ·cases h1;rfl
  ·split at h1
   ·cases h1;rfl
   ·cases h1
 omega
theorem Qiy {c:Zv}(h:Yu c=0):Zs (spc c).a∧(∀x∈fbs (spc c),0≤x∧x<(spc c).a.st)∧(fbs (spc c)).length≤4096∧(spc c).fb.length≤4096∧Jg c.ev=0:=by
 unfold Yu at h
 by_cases h1:Zi c≠0
 ·rw[if_pos h1] at h;exact absurd h h1
 rw[if_neg h1] at h
 have hck:Zi c=0:=Decidable.not_not.1 h1
 have hok:=ZV hck
 by_cases h2:Vf (auts c.co)≠0
 ·rw[if_pos h2] at h;exact absurd h h2
 rw[if_neg h2] at h
 cases hs:sync (auts c.co) with
 | none=>rw[hs] at h;cases h
 | some z =>
  rw[hs] at h
  simp only[] at h
  by_cases h3:Vf (auts c.co++auts c.rq)≠0
  ·rw[if_pos h3] at h;exact absurd h h3
  rw[if_neg h3] at h
  cases hs2:sync (auts c.co++auts c.rq) with
  | none=>rw[hs2] at h;cases h
  | some y =>
   have ho:∀a∈auts c.co++auts c.rq,Zs a:=λa ha=>by
    rcases List.mem_append.1 ha with ha | ha
    ·exact Yh hok.co a ha
    ·exact Yh hok.rq a ha
   have hsp:=(Xe ho (A:=y.1) (Q:=y.2) hs2).1
   have he:=j4 (c:=c) (pl:=z.1) (ps:=z.2) (sa:=y.1) (ts:=y.2) hs hs2
   have hl:=Qa9 c z.1 z.2 y.2
   have hle:=hsp.le
   rw[he]
   unfold fbs
   refine ⟨hsp.okay ho,λx hx=>?_,by rw[List.length_map];simp only[];omega,by simp only[];omega,hok.e0⟩
   obtain ⟨r,hr,rfl⟩:=List.mem_map.1 hx
   have:=QiA r hr
   rw[hsp.st];exact this
theorem st4 (r:Rsn):(Zz r).length=4:=rfl
set_option maxHeartbeats 4000000 in
theorem j0 {L:LN}{w:World}{c:CL}(h0:Zu L w.heap c) (hkb:Kb w 4096) :
  QJ prog 79 [c.val] w λr w'=>Step [] w w'∧∃us c0 c1 c2 c3 sa sm se o,r=.tuple #[.agg us.toArray,.agg #[c0,c1,c2,c3,sa,.int .i64 (if Yu c.cel=0 then (suA c.cel).st else 0),sm,se,o],.int .i64 (Yu c.cel)]∧us.length=8∧Zw us∧Zw [c0,c1,c2,c3,sa,sm,se,o] ∧
   (Yu c.cel≠0→sa=nS∧sm=nS∧se=nS)∧(Yu c.cel=0→∀L:LN,(∀b∈L,b<w.heap.size)→Zt L w'.heap sa sm se (suA c.cel)):=by
 have h:=h0.up (L':=[]) (by simp)
 have hsu:suA c.cel=zm (spc c.cel).a (fbs (spc c.cel)) (unc c.cel.ev):=rfl
 have hev:c.cel.ev=c.ev:=rfl
 have hsk:=Qiy (c:=c.cel)
 refine Zd (suA c.cel) λSA hSA=>?_
 rw[hSA] at hsu ⊢
 have hsp0:=Kt (h.ext (Step.refl [] w)) hkb
 refine Zd (Yu c.cel) λE hE=>?_
 rw[hE] at hsk ⊢
 refine Zd (spc c.cel) λS hS=>?_
 rw[hS] at hsk hsu
 rw[hev] at hsk hsu
 refine QJ.of_W func79 rfl ntmps79 results79 (by simp) ?_
 refine Qc<|xl rfl<|QQ (us:=c.cells) rfl λb1 w1 hs1 hb1 hB1=>xl rfl<|Qt (us:=[nS,.int .i64 0,nS,nS,nS,nS,nS,nS]) rfl λb2 w2 hs2 hb2 hB2=>xl rfl<|Qt (us:=Jo (nS) (nS) (nS) 0) rfl λb3 w3 hs3 hb3 hB3=>Qe ?_
 have hs03:=(hs1.trans hs2).trans hs3
 have hz1:=hs1.size
 have hz2:=hs2.size
 have hz3:=hs3.size
 have hl2:=hB2.lt
 have hl3:=hB3.lt
 have hsp:=Kt (h.ext hs03) (hkb.ext hs03)
 rw[hE,hS] at hsp
 refine Qc<|x (Qq ((hB1.ext hs2).ext hs3) rfl rfl)<|xl rfl<|xf<|hsp.mono ?_
 rintro r4 w4 ⟨hs4,v,rfl,⟨us,rfl,hul,huo⟩,hF⟩
 have hz4:=hs4.size
 refine Qb<|x (Qp rfl rfl)<|x (Qp rfl rfl)<|xl rfl<|Qt (us:=[nS,.int .i64 0,nS,nS,nS,nS,nS,nS]) rfl λb5 w5 hs5 hb5 hB5=>xl rfl<|Qn (us:=us) hB5 rfl rfl hul rfl huo λw6 hs6 hB5=>Qe ?_
 have hs46:Step [] w4 w6:=hs5.then1 hs6 hb5
 have hz46:=hs46.size
 have hs06:=(hs03.trans hs4).trans hs46
 have hB2':=(hB2.ext (hs3.trans hs4)).ext hs46
 have hB3':=(hB3.ext hs4).ext hs46
 have hl5:=hB5.lt
 refine Qf<|Qc<|Qb<|x (Q8 rfl rfl)<|xe ?_
 refine Q4 rfl (λh17=>?_) (λh17=>?_)
 ·refine Qc<|x (ZS [] trivial)<|x (ZS [] trivial)<|Qb<|xl rfl<|Qn (us:=[nS,.int .i64 0,nS,nS,nS,nS,nS,nS]) hB2' rfl rfl rfl rfl ⟨rfl,rfl,rfl,rfl,rfl,rfl,rfl,rfl,trivial⟩ λw7 hs7 hB2'' =>
   xl rfl<|Qn (us:=Jo (nS) (nS) (nS) 0) (hB3'.step hs7 (by simp only[List.mem_singleton];omega)) rfl rfl rfl rfl ⟨rfl,rfl,rfl,rfl,rfl,rfl,rfl,rfl,rfl,trivial⟩ λw8 hs8 hB3''=>Qe<|Ql ⟨[.agg [nS,.int .i64 0,nS,nS,nS,nS,nS,nS].toArray,.agg (Jo (nS) (nS) (nS) 0).toArray,.int .i64 E],⟨⟨_,rfl,Qz rfl ((hB2''.step hs8 (by simp only[List.mem_singleton];omega)).at (L:=[]) (by simp)).cells⟩,⟨_,rfl,Qz rfl (hB3''.at (L:=[]) (by simp)).cells⟩,rfl,trivial⟩,(hs06.then1 hs7 (by omega)).then1 hs8 (by omega),[nS,.int .i64 0,nS,nS,nS,nS,nS,nS],nS,nS,nS,.int .i64 0,nS,nS,nS,nS,by rw[if_neg h17];rfl,rfl,⟨rfl,rfl,rfl,rfl,rfl,rfl,rfl,rfl,trivial⟩,⟨rfl,rfl,rfl,rfl,rfl,rfl,rfl,rfl,trivial⟩,λ_=>⟨rfl,rfl,rfl⟩,λe=>absurd e h17⟩
 have hE0:E=0:=Decidable.not_not.1 h17
 obtain ⟨hSok,hSf,hSl,hSl2,hevk⟩:=hsk hE0
 obtain ⟨va,vm,ve,v1,v2,v3,v4,cos,rqs,hve,_,_,hSL⟩:=hF hE0
 have hue:us=[va,.int .i64 S.a.st,vm,ve,v1,v2,v3,v4]:=by
  have h1:=congrArg (λv=>match v with | Value.agg a=>a.toList | _=>[]) hve
  simpa using h1
 subst hue
 have hS6:=(hSL [] (by simp))
 have hA6:=hS6.1.ext hs46
 have hfb6:=hS6.2.2.2.2.ext hs46
 refine Qi<|Qc<|Qe<|Qf<|Qc<|x (Qa rfl)<|x (Qd hB5 rfl rfl)<|x (Qr hfb6 rfl)<|Qb<|xe ?_
 refine Qg<|QA (α:=Nat×Value) [(7,7),(9,9),(24,33)] (λz=>[(7,z.2),(24,.int .i64 z.1)]) (λz w'=>z.1≤S.fb.length∧Step [] w6 w'∧Qu 3 w6.heap.size w' z.2 ((S.fb.take z.1).map (·.st))) (λz=>S.fb.length - z.1) (by rfl) (0,nS) ⟨rfl,rfl,trivial⟩ ⟨Nat.zero_le _,Step.refl _ _,QP _ _ _ _⟩ ?_
 rintro ⟨k,vf⟩ g w7 ⟨hk,hs7,hO7⟩
 simp only[] at hk hO7
 refine Qc<|x (QB rfl rfl)<|xe ?_
 refine Qf<|QG rfl (λh25=>?_) (λh25=>?_)
 ·refine Qx ?_
  have hke:S.fb.length≤k:=by have h26:¬(k:Int)<(S.fb.length:Int):=h25;omega
  rw[List.take_of_length_le hke] at hO7
  have hO7:Qu 3 w6.heap.size w7 vf (fbs S):=hO7
  have hs07:=hs06.trans hs7
  have hz7:=hs7.size
  refine Qc<|x (Qa rfl)<|x (Qd ((hB1.ext (hs2.trans hs3)).ext ((hs4.trans hs46).trans hs7)) rfl rfl)<|xl rfl<|xf<|(Qc9 (h.ev.ext hs07)).mono ?_
  rintro r10 w10 ⟨hs10,vu,rfl,hU⟩
  rw[if_pos hevk] at hU
  refine Qb<|x (Qp rfl rfl)<|x (Qp rfl rfl)<|x Qh<|Qe<|Qf<|Qc<|Qb<|x (Q8 rfl rfl)<|xe ?_
  refine Q4 rfl (λh41=>absurd hevk h41) (λ_=>?_)
  refine Qi ?_
  have hul:(unc c.ev).length≤1099511627776:=Nat.le_trans (KU _ c.ev 0) h.ev.arr.le
  have hs710:=hs7.trans hs10
  have hA10:=hA6.ext hs710
  have hd10:Step [] w10 { w10 with drawn:=w10.drawn+1 }:=Step.drew _ _
  have hB5':=hB5.ext hs710
  have hb52:b5∉[b2]:=by simp only[List.mem_singleton];omega
  have hz710:=hs710.size
  refine Qf<|QS (Step [b2] w10) [(0,true),(1,true),(2,true),(3,true),(4,true),(5,false),(6,false),(7,false),(8,true)] mixed (by rfl) (by kernel_rfl) (Step.drew _ _) ?_
  refine pq (λ_ hc=>Qq (hB5'.step hc hb52) rfl rfl)<|p (λ_=>Qa rfl)<|pq (λ_ hc=>Yv (us:=[va,.int .i64 S.a.st,vm,ve]) (hB5'.step hc hb52) rfl rfl rfl) <|
   p (λ_=>Qo)<|p (λ_=>Qo)<|pk<|xf<|(Qco (hA10.ext hd10) hSok (((Qu.ints (L:=[]) hO7 (by omega) (by simp)).ext hs10).ext hd10) hSf hSl ((Qu.ints (L:=[]) hU hul (by simp)).ext hd10)).mono ?_
  rintro r13 w13 ⟨hs13,c0,c1,c2,c3,sa,sm,se,o,rfl,hones,hSA13⟩
  have hs1013:=hd10.trans hs13
  have hz13:=hs1013.size
  refine ⟨hs1013.any,?_⟩
  have hse:zm S.a (fbs S) (unc c.ev)=SA:=hsu.symm
  rw[hse] at hSA13
  have hS0:=hSA13 [] (by simp)
  refine pk<|Qn (us:=[va,.int .i64 S.a.st,vm,ve,v1,v2,v3,v4]) ((hB2'.ext hs710).ext hs1013) rfl rfl rfl rfl huo λw14 hs14 hB2=>⟨hs1013.any.trans' hs14,?_⟩
  refine pkl (hl:=by kernel_rfl)<|Qn (us:=[c0,c1,c2,c3,sa,.int .i64 SA.st,sm,se,o]) (((hB3'.ext hs710).ext hs1013).step hs14 (by simp only[List.mem_singleton];omega)) rfl (by rw[←hse];rfl) rfl rfl ⟨hones.1,hones.2.1,hones.2.2.1,hones.2.2.2.1,hS0.al.one,rfl,hS0.mr.one,hS0.ed.one,hones.2.2.2.2.1,trivial⟩ λw15 hs15 hB3=>p (λ_=>Qh)<|pe ?_
  have hb23:b2∉[b3]:=by simp only[List.mem_singleton];omega
  refine Ql ⟨[.agg [va,.int .i64 S.a.st,vm,ve,v1,v2,v3,v4].toArray,.agg [c0,c1,c2,c3,sa,.int .i64 SA.st,sm,se,o].toArray,.int .i64 0],⟨⟨_,rfl,Qz rfl ((hB2.step hs15 hb23).at (L:=[]) (by simp)).cells⟩,⟨_,rfl,Qz rfl (hB3.at (L:=[]) (by simp)).cells⟩,rfl,trivial⟩,
   (((hs06.trans hs710).trans hs1013).then1 hs14 (by omega)).then1 hs15 (by omega),_,c0,c1,c2,c3,sa,sm,se,o,by rw[hE0,if_pos rfl];rfl,rfl,huo,⟨hones.1,hones.2.1,hones.2.2.1,hones.2.2.2.1,hS0.al.one,hS0.mr.one,hS0.ed.one,hones.2.2.2.2.1,trivial⟩,λe=>absurd hE0 e,λ_ L hL=>?_⟩
  have hz06:=hs06.size
  have h1:=hSA13 (b2::b3::L) (λb hb=>by
   have hzd:({ w10 with drawn:=w10.drawn+1 }:World).heap.size=w10.heap.size:=rfl
   simp only[List.mem_cons] at hb
   rcases hb with rfl | rfl | hb
   ·omega
   ·omega
   ·have:=hL b hb;omega)
  exact ((h1.st (hs14.mono (by simp))).st (hs15.mono (by simp))).up (λb hb=>.inl (by simp[hb]))
 refine Qi ?_
 have hlt:k<S.fb.length:=by have h26:(k:Int)<(S.fb.length:Int):=h25;omega
 have htk:S.fb.take (k+1)=S.fb.take k++[S.fb[k]'hlt]:=List.take_succ_eq_append_getElem hlt
 have hml:((S.fb.take k).map (·.st)).length=k:=by rw[List.length_map,List.length_take];omega
 refine Zd (S.fb[k]'hlt) λr hr=>?_
 rw[hr] at htk
 refine Qf<|Qg<|Qc<|xig (g:=Zz) (i:=k) st4 (hfb6.ext hs7) rfl rfl hlt λa26 h26=>?_
 rw[hr] at h26
 refine x (QC h26 rfl rfl)<|xl rfl<|Qt (us:=[.int .i64 0,.int .i64 0,.int .i64 0,.int .i64 0]) rfl λb9 w8 hs8 hb9 hB9=>xl rfl<|Qn (us:=Zz r) hB9 rfl rfl rfl rfl ⟨rfl,rfl,rfl,rfl,trivial⟩ λw9 hs9 hB9=>xe ?_
 have hs79:Step [] w7 w9:=hs8.then1 hs9 hb9
 have hz79:=hs79.size
 have hz7:=hs7.size
 refine Qw<|Qb<|x (Qa rfl)<|x (Qd hB9 rfl rfl)<|xl rfl<|QD (us:=[[.int .i64 r.st]]) rfl rfl (by decide) (by simp) ⟨rfl,rfl,trivial⟩ λb31 w10 hs10 hb31 hB31 =>
  xl rfl<|QZ (m:=1) (news:=[.int .i64 r.st]) (L:=[]) (Qs hO7 (hs79.trans hs10)) rfl rfl rfl (hB31.at (by simp)) (by simp[Value.oneCell']) (by omega) (by have:=hs10.size;omega) λv19 w11 ho11 hs11 hn11=>Qe<|Qw<|QO rfl rfl<|Qb<|xe ?_
 refine ⟨(k+1,v19),by simp only[];omega,⟨rfl,rfl,trivial⟩,hlt,((hs7.trans hs79).trans hs10).then hs11 (λb hb=>.inr (Qk hO7 b hb).1),?_⟩
 simp only[]
 rw[htk,List.map_append]
 exact Qu.snoc ho11
theorem J6 {L:LN}{w:World}{c:CL}(h0:Zu L w.heap c) (hkb:Kb w 4096) :
  QJ prog 32 [c.val] w λr w'=>Step [] w w'∧∃sa sm se,r=.tuple #[.agg #[sa,.int .i64 (if Yu c.cel=0 then (suA c.cel).st else 0),sm,se],.int .i64 (suE c.cel)]∧Zw [sa,sm,se] ∧
   (suE c.cel≠0→sa=nS∧sm=nS∧se=nS)∧(suE c.cel=0→∀L:LN,(∀b∈L,b<w.heap.size)→Zt L w'.heap sa sm se (suA c.cel)):=by
 have h:=h0.up (L':=[]) (by simp)
 have hsu:suE c.cel=Yu c.cel:=rfl
 rw[hsu]
 refine QJ.of_W func32 rfl ntmps32 results32 (by simp) ?_
 refine Qc<|xl rfl<|QQ (us:=c.cells) rfl λb1 w1 hs1 hb1 hB1=>xl rfl<|Qt (us:=[nS,.int .i64 0,nS,nS]) rfl λb2 w2 hs2 hb2 hB2=>Qe ?_
 have hs02:=hs1.trans hs2
 have hz1:=hs1.size
 have hz2:=hs2.size
 have hl2:=hB2.lt
 refine Qc<|x (Qq (hB1.ext hs2) rfl rfl)<|xl rfl<|xf<|(j0 (h.ext hs02) (hkb.ext hs02)).mono ?_
 rintro r3 w3 ⟨hs3,us,c0,c1,c2,c3,sa,sm,se,o,rfl,hul,huo,hones,hbad,hgood⟩
 refine Zd (if Yu c.cel=0 then (suA c.cel).st else 0) λN hN=>?_
 rw[hN]
 have hz3:=hs3.size
 refine Qb<|x (Qp rfl rfl)<|x (Qp rfl rfl)<|x (Qp rfl rfl)<|xl rfl<|Qt (us:=[nS,.int .i64 0,nS,nS,nS,nS,nS,nS]) rfl λb4 w4 hs4 hb4 hB4=>xl rfl<|Qt (us:=Jo (nS) (nS) (nS) 0) rfl λb5 w5 hs5 hb5 hB5 =>
  xl rfl<|Qn (us:=us) (hB4.ext hs5) rfl rfl hul rfl huo λw6 hs6 hB4'=>xl rfl<|Qn (us:=[c0,c1,c2,c3,sa,.int .i64 N,sm,se,o]) (hB5.step hs6 (by have:=hB4.lt;simp only[List.mem_singleton];omega)) rfl rfl rfl rfl ⟨hones.1,hones.2.1,hones.2.2.1,hones.2.2.2.1,hones.2.2.2.2.1,rfl,hones.2.2.2.2.2.1,hones.2.2.2.2.2.2.1,hones.2.2.2.2.2.2.2.1,trivial⟩ λw7 hs7 hB5'=>Qe ?_
 have hl4:=hB4.lt
 have hz4:=hs4.size
 have hz5:=hs5.size
 have hs37:Step [] w3 w7:=((hs4.trans hs5).then1 hs6 (by omega)).then1 hs7 (by omega)
 have hz37:=hs37.size
 refine Qc<|x (Qa rfl)<|x (Yv (us:=[sa,.int .i64 N,sm,se]) hB5' rfl rfl rfl)<|Qb<|xl rfl<|Qn (us:=[sa,.int .i64 N,sm,se]) ((hB2.ext hs3).ext hs37) rfl rfl rfl rfl ⟨hones.2.2.2.2.1,rfl,hones.2.2.2.2.2.1,hones.2.2.2.2.2.2.1,trivial⟩ λw8 hs8 hB2=>Qe<|Ql ⟨[.agg [sa,.int .i64 N,sm,se].toArray,.int .i64 (Yu c.cel)],⟨⟨_,rfl,Qz rfl (hB2.at (L:=[]) (by simp)).cells⟩,rfl,trivial⟩,((hs02.trans hs3).trans hs37).then1 hs8 (by omega),sa,sm,se,rfl,⟨hones.2.2.2.2.1,hones.2.2.2.2.2.1,hones.2.2.2.2.2.2.1,trivial⟩,hbad,λe L hL=>?_⟩
 have h1:=hgood e (b2::L) (λb hb=>by
  simp only[List.mem_cons] at hb
  rcases hb with rfl | hb
  ·omega
  ·have:=hL b hb;omega)
 exact ((h1.ext hs37).st (hs8.mono (by simp))).up (λb hb=>.inl (by simp[hb]))
theorem Qg4 {L:LN}{H:Array Obj}{b T:Nat}{n:Int}(h:Q2 H b T [.int .i64 n]) (hb:b∉L):QL L H (.slice (some ⟨b,0,none⟩) 1 1) [n] :=
 h.arr hb (n:=1) (cap:=1) (sz:=1) rfl (by omega) (Nat.le_refl _)
set_option maxHeartbeats 4000000 in
theorem y7 {L:LN}{w:World}{c:CL}{q:MV}(h0:Zu L w.heap c) (hm0:QL L w.heap q.v q.co) :
  QJ prog 18 [c.val,.agg #[.int .i64 q.kd,.int .i64 q.ix,q.v]] w λr w'=>Step [] w w'∧∃us,r=.tuple #[.agg us.toArray,.int .i64 (mcE c.cel q.m)]∧us.length=5∧Zw us∧(mcE c.cel q.m≠0→us=Z3)∧(mcE c.cel q.m=0→Qdd w.heap.size w'.heap (.agg us.toArray) (mcC c.cel q.m)):=by
 have h:=h0.up (L':=[]) (by simp)
 have hm:=hm0.up (L':=[]) (by simp)
 have hr:mcE c.cel q.m=if mdE c.cel q.m≠0 then mdE c.cel q.m else Vl c.cel (prt q.m):=rfl
 have hcc:mcC c.cel q.m=Kf c.cel (prt q.m):=rfl
 rw[hcc]
 refine Zd (mcE c.cel q.m) λE hE=>?_
 rw[hE] at hr ⊢
 refine QJ.of_W func18 rfl ntmps18 results18 (by simp) ?_
 refine Qc<|xl rfl<|QQ (us:=c.cells) rfl λb2 w1 hs1 hb2 hB2=>xl rfl<|QQ (us:=Zp q) rfl λb3 w2 hs2 hb3 hB3=>xl rfl<|Qt (us:=Z3) rfl λb4 w3 hs3 hb4 hB4=>Qe ?_
 have hs03:=(hs1.trans hs2).trans hs3
 have hz1:=hs1.size
 have hz2:=hs2.size
 have hz3:=hs3.size
 have hl4:=hB4.lt
 refine Qf<|Qc<|x (Qq ((hB2.ext hs2).ext hs3) rfl rfl)<|x (Qq (hB3.ext hs3) rfl rfl)<|xl rfl<|xf<|(QcG (h.ext hs03) (hm.ext hs03)).mono ?_
 rintro r4 w4 ⟨rfl,hs4⟩
 refine Qe ?_
 have hs04:=hs03.trans hs4
 have hz4:=hs4.size
 have hB24:=((hB2.ext hs2).ext hs3).ext hs4
 have hB34:=(hB3.ext hs3).ext hs4
 have hB44:=hB4.ext hs4
 refine Qc<|Qb<|x (Q8 rfl rfl)<|xe ?_
 refine Q4 rfl (λh13=>?_) (λh13=>?_)
 ·rw[if_pos h13] at hr
  subst hr
  refine Qc<|x (QE trivial)<|Qb<|xl rfl<|Qn (us:=Z3) hB44 rfl rfl rfl rfl ⟨rfl,rfl,rfl,rfl,rfl,trivial⟩ λw5 hs5 hB45=>Qe ?_
  exact Ql ⟨[.agg Z3.toArray,.int .i64 (mdE c.cel q.m)],⟨⟨_,rfl,Qz rfl (hB45.at (L:=[]) (by simp)).cells⟩,rfl,trivial⟩,hs04.then1 hs5 (by omega),Z3,rfl,rfl,⟨rfl,rfl,rfl,rfl,rfl,trivial⟩,λ_=>rfl,λh0=>absurd h0 h13⟩
 rw[if_neg h13] at hr
 subst hr
 refine Qi<|Qc<|x (Qa rfl)<|x (Qd hB34 rfl rfl)<|x (QE ⟨hm.cells,trivial⟩)<|xl rfl<|Qt (us:=[nS,nS,nS,nS]) rfl λb7 w6 hs6 hb7 hB7=>xl rfl<|Qn (us:=[q.v,nS,nS,nS]) hB7 rfl rfl rfl rfl ⟨hm.one,rfl,rfl,rfl,trivial⟩ λw7 hs7 hB77 =>
  xe ?_
 have hs47:Step [] w4 w7:=hs6.then1 hs7 hb7
 have hz47:=hs47.size
 have hl7:=hB77.lt
 refine Qc<|x (Qa rfl)<|x (Qd (hB34.ext hs47) rfl rfl)<|xl rfl<|QD (us:=[[.int .i64 q.ix]]) rfl rfl (by decide) (by simp) ⟨rfl,rfl,trivial⟩ λb21 w8 hs8 hb21 hB21 =>
  Qe ?_
 have hs48:=hs47.trans hs8
 have hs08:=hs04.trans hs48
 have hz8:=hs8.size
 have hB78:=hB77.ext hs8
 have hb7u:w.heap.size≤b7:=by omega
 refine QU (α:=Value×Value×Value) [(22,33)] (λ_=>[]) (λz w'=>Step [b7] w8 w'∧Q2 w'.heap b7 95 [q.v,z.1,z.2.1,z.2.2]∧QL [] w'.heap z.1 (prt q.m).rq∧QL [] w'.heap z.2.1 (prt q.m).ex∧QL [] w'.heap z.2.2 (prt q.m).cs) (by rfl) ?_ ?_
 ·have hlit:∀{w':World},Step [b7] w8 w'→QL [] w'.heap (.slice (some ⟨b21,0,none⟩) 1 1) [q.ix]:=λhs=>Qg4 (hB21.step hs (by simp only[List.mem_singleton];omega)) (by simp)
  refine Qc<|x (Qa rfl)<|x (Qd (hB34.ext hs48) rfl rfl)<|xe ?_
  refine Qg<|Qc<|x (Q7 rfl rfl)<|Qe<|Q4 rfl (λh26=>?_) (λh26=>?_)
  ·have hk1:q.kd=1:=h26
   refine Qw<|Qb<|x (Qa rfl)<|xl rfl<|QF (j:=1) (u:=.slice (some ⟨b21,0,none⟩) 1 1) hB78 rfl rfl (by simp) rfl λw9 hs9 hB79=>xe ?_
   refine ⟨(.slice (some ⟨b21,0,none⟩) 1 1,nS,nS),trivial,hs9,hB79,?_,?_,?_⟩
   ·show QL _ _ _ (if q.kd=1 then [q.ix] else []);rw[if_pos hk1];exact hlit hs9
   ·show QL _ _ _ (if q.kd=2 then [q.ix] else []);rw[if_neg (by omega)];exact Jd _ _
   ·show QL _ _ _ (if q.kd≠1∧q.kd≠2 then [q.ix] else []);rw[if_neg (by omega)];exact Jd _ _
  have hk1:¬q.kd=1:=h26
  refine Qc<|x (Q7 rfl rfl)<|Qe<|Q4 rfl (λh30=>?_) (λh30=>?_)
  ·have hk2:q.kd=2:=h30
   refine Qw<|Qb<|x (Qa rfl)<|xl rfl<|QF (j:=2) (u:=.slice (some ⟨b21,0,none⟩) 1 1) hB78 rfl rfl (by simp) rfl λw9 hs9 hB79=>xe ?_
   refine ⟨(nS,.slice (some ⟨b21,0,none⟩) 1 1,nS),trivial,hs9,hB79,?_,?_,?_⟩
   ·show QL _ _ _ (if q.kd=1 then [q.ix] else []);rw[if_neg hk1];exact Jd _ _
   ·show QL _ _ _ (if q.kd=2 then [q.ix] else []);rw[if_pos hk2];exact hlit hs9
   ·show QL _ _ _ (if q.kd≠1∧q.kd≠2 then [q.ix] else []);rw[if_neg (by omega)];exact Jd _ _
  have hk2:¬q.kd=2:=h30
  refine Qw<|Qb<|x (Qa rfl)<|xl rfl<|QF (j:=3) (u:=.slice (some ⟨b21,0,none⟩) 1 1) hB78 rfl rfl (by simp) rfl λw9 hs9 hB79=>xe ?_
  refine ⟨(nS,nS,.slice (some ⟨b21,0,none⟩) 1 1),trivial,hs9,hB79,?_,?_,?_⟩
  ·show QL _ _ _ (if q.kd=1 then [q.ix] else []);rw[if_neg hk1];exact Jd _ _
  ·show QL _ _ _ (if q.kd=2 then [q.ix] else []);rw[if_neg hk2];exact Jd _ _
  ·show QL _ _ _ (if q.kd≠1∧q.kd≠2 then [q.ix] else []);rw[if_pos ⟨hk1,hk2⟩];exact hlit hs9
 rintro ⟨v1,v2,v3⟩ g w9 ⟨hs9,hB79,hI1,hI2,hI3⟩
 simp only[] at hB79 hI1 hI2 hI3
 have hs09:Step [] w w9:=hs08.then1 hs9 hb7u
 have hz9:=hs9.size
 have hB29:Q2 w9.heap b2 47 c.cells:=(hB24.ext hs48).step hs9 (by have:=hB2.lt;simp only[List.mem_singleton];omega)
 have hB49:Q2 w9.heap b4 47 Z3:=(hB44.ext hs48).step hs9 (by simp only[List.mem_singleton];omega)
 refine Qc<|x (Qq hB29 rfl rfl)<|x (Qq hB79 rfl rfl)<|xl rfl<|xf<|(UW (p:=prt q.m) (h.ext hs09) (hm.ext hs09) hI1 hI2 hI3).mono ?_
 rintro r10 w10 ⟨hs10,us,rfl,hul,huo,hbad,hgood⟩
 have hz10:=hs10.size
 refine x (Qp rfl rfl)<|x (Qp rfl rfl)<|xl rfl<|Qn (us:=us) (hB49.ext hs10) rfl rfl hul rfl huo λw11 hs11 hB411=>Qe<|Ql ⟨[.agg us.toArray,.int .i64 (Vl c.cel (prt q.m))],⟨⟨_,rfl,Qz hul (hB411.at (L:=[]) (by simp)).cells⟩,rfl,trivial⟩,(hs09.trans hs10).then1 hs11 (by omega),us,rfl,hul,huo,hbad,λe=>?_⟩
 obtain ⟨cl,e1,e2,e3⟩:=hgood e
 refine ⟨cl,e1,e2,λL hL=>?_⟩
 have h1:=e3 (b4::L) (λb hb=>by
  rcases List.mem_cons.1 hb with rfl | hb
  ·omega
  ·have:=hL b hb;have:=hs09.size;omega)
 exact (h1.st (hs11.mono (by simp))).up (λb hb=>.inl (by simp[hb]))
set_option maxHeartbeats 4000000 in
theorem Qbv {L:LN}{w:World}{c:CL}{q:MV}(h0:Zu L w.heap c) (hm0:QL L w.heap q.v q.co) (hkb:Kb w 4096) :
  QJ prog 19 [c.val,.agg #[.int .i64 q.kd,.int .i64 q.ix,q.v]] w λr w'=>Step [] w w'∧∃sa st sm se,r=.tuple #[.agg #[sa,.int .i64 st,sm,se],.int .i64 (msE c.cel q.m)]∧Zw [sa,sm,se] ∧
   (msE c.cel q.m=0→st=(msA c.cel q.m).st∧∀L:LN,(∀b∈L,b<w.heap.size)→Zt L w'.heap sa sm se (msA c.cel q.m))∧(msE c.cel q.m≠0→st=0∧sa=nS∧sm=nS∧se=nS):=by
 have h:=h0.up (L':=[]) (by simp)
 have hm:=hm0.up (L':=[]) (by simp)
 have hr:msE c.cel q.m=if mcE c.cel q.m≠0 then mcE c.cel q.m else suE (mcC c.cel q.m):=rfl
 have hcc:msA c.cel q.m=suA (mcC c.cel q.m):=rfl
 rw[hcc]
 refine Zd (msE c.cel q.m) λE hE=>?_
 rw[hE] at hr ⊢
 refine QJ.of_W func19 rfl ntmps19 results19 (by simp) ?_
 refine Qc<|xl rfl<|QQ (us:=c.cells) rfl λb2 w1 hs1 hb2 hB2=>xl rfl<|QQ (us:=Zp q) rfl λb3 w2 hs2 hb3 hB3=>xl rfl<|Qt (us:=[nS,.int .i64 0,nS,nS]) rfl λb4 w3 hs3 hb4 hB4=>Qe ?_
 have hs03:=(hs1.trans hs2).trans hs3
 have hz1:=hs1.size
 have hz2:=hs2.size
 have hz3:=hs3.size
 have hl4:=hB4.lt
 refine Qc<|x (Qq ((hB2.ext hs2).ext hs3) rfl rfl)<|x (Qq (hB3.ext hs3) rfl rfl)<|xl rfl<|xf<|(y7 (h.ext hs03) (hm.ext hs03)).mono ?_
 rintro r4 w4 ⟨hs4,us,rfl,hul,huo,hbad,hgood⟩
 have hz4:=hs4.size
 have hs04:=hs03.trans hs4
 refine Qb<|x (Qp rfl rfl)<|x (Qp rfl rfl)<|xl rfl<|Qt (us:=Z3) rfl λb6 w5 hs5 hb6 hB6=>xl rfl<|Qn (us:=us) hB6 rfl rfl hul rfl huo λw6 hs6 hB66 =>
  Qe ?_
 have hs46:Step [] w4 w6:=hs5.then1 hs6 hb6
 have hs06:=hs04.trans hs46
 have hz46:=hs46.size
 have hB46:=(hB4.ext hs4).ext hs46
 refine Qf<|Qc<|Qb<|x (Q8 rfl rfl)<|xe ?_
 refine Q4 rfl (λh15=>?_) (λh15=>?_)
 ·rw[if_pos h15] at hr
  subst hr
  refine Qc<|x (QE trivial)<|Qb<|xl rfl<|Qn (us:=[nS,.int .i64 0,nS,nS]) hB46 rfl rfl rfl rfl ⟨rfl,rfl,rfl,rfl,trivial⟩ λw7 hs7 hB47=>Qe ?_
  exact Ql ⟨[.agg [nS,.int .i64 0,nS,nS].toArray,.int .i64 (mcE c.cel q.m)],⟨⟨_,rfl,Qz rfl (hB47.at (L:=[]) (by simp)).cells⟩,rfl,trivial⟩,hs06.then1 hs7 (by omega),nS,0,nS,nS,rfl,⟨rfl,rfl,rfl,trivial⟩,λh0=>absurd h0 h15,λ_=>⟨rfl,rfl,rfl,rfl⟩⟩
 rw[if_neg h15] at hr
 subst hr
 obtain ⟨cl,hv,hcel,hCA⟩:=hgood (Decidable.not_not.1 h15)
 have hCA6:Zu [] w6.heap cl:=(hCA [] (by simp)).ext hs46
 have hsup:=J6 hCA6 (hkb.ext hs06)
 rw[hcel] at hsup
 have hsup1:∀R,QJ prog 32 [cl.val] w6 R→QJ prog 32 [.agg us.toArray] w6 R:=λR hR=>by rw[hv];exact hR
 have hsup':=hsup1 _ hsup
 refine Qi<|Qc<|x (Qq hB66 rfl hul)<|xl rfl<|xf<|hsup'.mono ?_
 rintro r8 w8 ⟨hs8,sa,sm,se,rfl,hone,hbad8,hgood8⟩
 refine Zd (if Yu (mcC c.cel q.m)=0 then (suA (mcC c.cel q.m)).st else 0) λN hN=>?_
 rw[hN]
 have hz8:=hs8.size
 refine x (Qp rfl rfl)<|x (Qp rfl rfl)<|xl rfl<|Qn (us:=[sa,.int .i64 N,sm,se]) (hB46.ext hs8) rfl rfl rfl rfl ⟨hone.1,rfl,hone.2.1,hone.2.2.1,trivial⟩ λw9 hs9 hB49=>Qe<|Ql ⟨[.agg [sa,.int .i64 N,sm,se].toArray,.int .i64 (suE (mcC c.cel q.m))],⟨⟨_,rfl,Qz rfl (hB49.at (L:=[]) (by simp)).cells⟩,rfl,trivial⟩,(hs06.trans hs8).then1 hs9 (by omega),sa,N,sm,se,rfl,hone,λe=>⟨?_,λL hL=>?_⟩,λe=>?_⟩
 ·have e':Yu (mcC c.cel q.m)=0:=e
  rw[if_pos e'] at hN
  exact hN.symm
 ·have h1:=hgood8 e (b4::L) (λb hb=>by
   rcases List.mem_cons.1 hb with rfl | hb
   ·omega
   ·have:=hL b hb;have:=hs06.size;omega)
  exact (h1.st (hs9.mono (by simp))).up (λb hb=>.inl (by simp[hb]))
 ·have e':¬Yu (mcC c.cel q.m)=0:=e
  rw[if_neg e'] at hN
  exact ⟨hN.symm,hbad8 e⟩
theorem YY.app3 {α:Type}{g:α→LV}{sz T:Nat}{ps:α→List (Value×Nat×Nat×LV)}{base:Nat}{w7 w8:World}{v v8:Value}{l:List α}{q:α}(h:YY g sz T ps base w7 v l)
  (hq:∀t∈ps q,ZH base (ob v) w7.heap t.1 t.2.1 t.2.2.1 t.2.2.2)
  (ho:w8.ownsRow base T sz v8 (l.length+1) (l.flatMap g++g q)) (hs8:Step (ob v) w7 w8) (hn:∀b∈ob v8,b∈ob v∨w7.heap.size≤b):YY g sz T ps base w8 v8 (l++[q]):=by
 refine ⟨?_,λd hd t ht=>?_⟩
 ·rw[List.length_append,List.flatMap_append];simpa using ho
 ·rcases List.mem_append.1 hd with hd | hd
  ·exact (h.each d hd t ht).app hs8 hn
  ·simp only[List.mem_singleton] at hd;subst hd
   exact (hq t ht).app hs8 hn
abbrev QkJ (p:AV):List (Value×Nat×Nat×LV):=[(p.va,p.a.al.length,1,p.a.al.map (.int .i64)),(p.vm,p.a.mr.length,1,p.a.mr.map (.int .i64)),(p.ve,p.a.ed.length,3,p.a.ed.flatMap Qy)]
abbrev AvP (base:Nat) (w:World) (v:Value) (l:List AV):Prop:=YY Zm 4 58 QkJ base w v l
theorem AvP.auts {base:Nat}{w:World}{v:Value}{l:List AV}{L:LN}(h:AvP base w v l) (hn:l.length≤1099511627776) (hL:∀b∈L,b<base):Xx L w.heap v l :=
 ⟨QT h.own hn (λb hb hbL=>by have:=(Qk h.own b hb).1;have:=hL b hbL;omega),λp hp=>⟨h.each p hp (p.va,p.a.al.length,1,p.a.al.map (.int .i64)) (by simp) L (λb hb=>.inl (hL b hb)),h.each p hp (p.vm,p.a.mr.length,1,p.a.mr.map (.int .i64)) (by simp) L (λb hb=>.inl (hL b hb)),h.each p hp (p.ve,p.a.ed.length,3,p.a.ed.flatMap Qy) (by simp) L (λb hb=>.inl (hL b hb))⟩⟩
def QkQ (N:Nat) (H:Array Obj) (v:Value) (l:List QV):Prop:=∃ps:List AV,ps.map (·.a)=l∧∀L:LN,(∀b∈L,b<N)→Xx L H v ps
theorem QfU {p:AV}(h1:p.va.oneCell'=true) (h2:p.vm.oneCell'=true) (h3:p.ve.oneCell'=true):∀u∈Zm p,u.oneCell'=true:=by
 intro u hu
 simp only[Zm,List.mem_cons,List.not_mem_nil,or_false] at hu
 rcases hu with rfl | rfl | rfl | rfl
 ·exact h1
 ·rfl
 ·exact h2
 ·exact h3
theorem Zt.parts {base N:Nat}{av:LN}{H:Array Obj}{p:AV}(h:∀L:LN,(∀b∈L,b<N)→Zt L H p.va p.vm p.ve p.a) (hb:base≤N) (hav:∀b∈av,b<N):∀t∈QkJ p,ZH base av H t.1 t.2.1 t.2.2.1 t.2.2.2:=by
 intro t ht
 simp only[List.mem_cons,List.not_mem_nil,or_false] at ht
 rcases ht with rfl | rfl | rfl
 ·exact ZH.of_lt (λL hL=>(h L hL).al) hb hav
 ·exact ZH.of_lt (λL hL=>(h L hL).mr) hb hav
 ·exact ZH.of_lt (λL hL=>(h L hL).ed) hb hav
theorem Qez {c:Zv}(h:V0 c):(mods c).length≤96:=by have:=zO h 3 (by omega);rw[y0] at this;omega
theorem Qbd:∀(l:LN) (b:Nat),l.foldl (λl b=>l &&& (65535 ^^^ b)) b≤b
 | [],_=>Nat.le_refl _
 | _::l,_=>Nat.le_trans (Qbd l _) Nat.and_le_left
theorem QiK {c:Zv}:∀i∈rem c,0≤i∧i<(c.co.length:Int):=by
 intro i hi
 unfold rem setK at hi
 obtain ⟨j,hj,rfl⟩:=List.mem_map.1 hi
 have h1:=(List.mem_filter.1 hj).2
 have h2:=of_decide_eq_true h1
 refine ⟨by omega,?_⟩
 refine Decidable.byContradiction λhn=>?_
 have hn':c.co.length≤j:=by omega
 have hle:Qab c≤2 ^ c.co.length - 1:=Qbd _ _
 have hp:0<2 ^ c.co.length:=Nat.pow_pos (by decide)
 have hpj:2 ^ c.co.length≤2 ^ j:=Nat.pow_le_pow_right (by decide) hn'
 have h0:Qab c / 2 ^ j=0:=Nat.div_eq_of_lt (by omega)
 rw[h0] at h2
 cases h2
theorem Qiw (c:Zv):Qce c=if Zi c≠0 then Zi c else msL c (mods c):=rfl
theorem Qey (c:Zv) (m:Ky) (l:List Ky):msL c (m::l)=if msE c m≠0 then msE c m else msL c l:=rfl
abbrev coA (c:Zv) (i:Int):QV:=(c.co.getD i.toNat ⟨.empty,⟨[],0,[],[]⟩⟩).a
set_option maxRecDepth 4096 in
set_option maxHeartbeats 8000000 in
theorem U2 {L:LN}{w:World}{c:CL}(h0:Zu L w.heap c) (hkb:Kb w 4096) :
  QJ prog 22 [c.val] w λr w'=>Step [] w w'∧∃v,r=.tuple #[v,.int .i64 (Qce c.cel)]∧(Qce c.cel≠0→v=nS)∧(Qce c.cel=0→v.oneCell'=true∧QkQ w.heap.size w'.heap v (QdG c.cel)):=by
 have h:=h0.up (L':=[]) (by simp)
 have hsv:=Qiw c.cel
 have hsl:QdG c.cel=(mods c.cel).map (msA c.cel)++(rem c.cel).map (coA c.cel):=rfl
 refine Zd (Qce c.cel) λE hE=>?_
 rw[hE] at hsv ⊢
 refine QJ.of_W func22 rfl ntmps22 results22 (by simp) ?_
 refine Qc<|xl rfl<|QQ (us:=c.cells) rfl λb1 w1 hs1 hb1 hB1=>x Qh<|Qe<|Qc<|x (Qq hB1 rfl rfl)<|xl rfl<|xf<|(U3 (h.ext hs1)).mono ?_
 rintro r2 w2 ⟨hs2,vM,lM,rfl,hM,hMbad,hMgood⟩
 have hs02:=hs1.trans hs2
 have hz1:=hs1.size
 have hz2:=hs2.size
 refine Qb<|x (Qp rfl rfl)<|x (Qp rfl rfl)<|x Qh<|Qe<|Qf<|Qc<|Qb<|x (Q8 rfl rfl)<|xe ?_
 refine Q4 rfl (λh21=>?_) (λh21=>?_)
 ·rw[if_pos h21] at hsv
  subst hsv
  refine Qc<|Qb<|x Qh<|Qe ?_
  exact Ql ⟨[nS,.int .i64 (Zi c.cel)],⟨rfl,rfl,trivial⟩,hs02,nS,rfl,λ_=>rfl,λh0=>absurd h0 h21⟩
 rw[if_neg h21] at hsv
 have hck:=Decidable.not_not.1 h21
 have hok:V0 c.cel:=(ZV hck).sr
 have hMm:=hMgood hck
 have hMl:lM.length≤96:=by have:=Qez hok;rw[←hMm,List.length_map] at this;exact this
 have hMA:Zj [] w2.heap vM lM.length 3 (lM.flatMap Zp):=hM.arr (by omega) (by simp)
 have hrl:(rem c.cel).length≤8:=YR _ _
 have hB12:=hB1.ext hs2
 refine Qi<|Qc<|Qe<|Qf<|Qc<|Qb<|x (Qr hMA rfl)<|Qb<|xe ?_
 refine Qg<|QA (α:=Nat×Value×List AV) [(2,3),(6,6),(8,10),(25,42)] (λz=>[(6,z.2.1),(25,.int .i64 z.1)]) (λz w'=>z.1≤lM.length∧Step [] w2 w'∧AvP w2.heap.size w' z.2.1 z.2.2∧z.2.2.map (·.a)=(lM.take z.1).map (λq=>msA c.cel q.m)∧msL c.cel ((lM.drop z.1).map MV.m)=E) (λz=>lM.length - z.1) (by rfl) (0,nS,[]) ⟨rfl,rfl,trivial⟩
  ⟨Nat.zero_le _,Step.refl _ _,YY.nil,rfl,by rw[List.drop_zero,hMm];exact hsv.symm⟩ ?_
 rintro ⟨k,v,l⟩ g w3 ⟨hk,hs3,hV3,hl3,hE3⟩
 simp only[] at hk hV3 hl3 hE3
 have hs03:=hs02.trans hs3
 have hz3:=hs3.size
 have hll:l.length=k:=by have:=congrArg List.length hl3;rw[List.length_map,List.length_map,List.length_take] at this;omega
 have hB13:=hB12.ext hs3
 have h3:=h.ext hs03
 refine Qc<|x (QB rfl rfl)<|xe ?_
 refine Qf<|QG rfl (λh26=>?_) (λh26=>?_)
 ·refine Qx ?_
  have hke:lM.length≤k:=by have h16:¬(k:Int)<(lM.length:Int):=h26;omega
  rw[List.take_of_length_le hke] at hl3
  rw[List.drop_of_length_le hke] at hE3
  have hE0:E=0:=hE3.symm
  have hl3':l.map (·.a)=(mods c.cel).map (msA c.cel):=by rw[hl3,←hMm,List.map_map];rfl
  refine Qc<|x (Qq hB13 rfl rfl)<|xl rfl<|xf<|(Ve h3).mono ?_
  rintro r4 w4 ⟨hs4,vR,rfl,_,hRgood⟩
  have hR:=hRgood hck
  have hs04:=hs03.trans hs4
  have hz4:=hs4.size
  refine Qb<|x (Qp rfl rfl)<|x (Qp rfl rfl)<|x Qh<|Qe<|Qf<|Qc<|Qb<|x (Q8 rfl rfl)<|xe ?_
  refine Q4 rfl (λh49=>?_) (λh49=>?_)
  ·exact absurd hck h49
  refine Qi ?_
  have hRA:QL [] w4.heap vR (rem c.cel):=Qu.ints hR (by omega) (by simp)
  refine Qf<|Qc<|Qb<|x (Qr hRA rfl)<|Qb<|xe ?_
  refine Qg<|QA (α:=Nat×Value×List AV) [(6,6),(13,14),(53,78)] (λz=>[(6,z.2.1),(53,.int .i64 z.1)]) (λz w'=>z.1≤(rem c.cel).length∧Step (ob v) w4 w'∧AvP w2.heap.size w' z.2.1 z.2.2∧z.2.2.map (·.a)=(mods c.cel).map (msA c.cel)++((rem c.cel).take z.1).map (coA c.cel)∧∀b∈ob z.2.1,b∈ob v∨w4.heap.size≤b) (λz=>(rem c.cel).length - z.1) (by rfl) (0,v,l) ⟨rfl,rfl,trivial⟩
   ⟨Nat.zero_le _,Step.refl _ _,YY.ext hV3 hs4,by simp only[List.take_zero,List.map_nil,List.append_nil];exact hl3',λb hb=>.inl hb⟩ ?_
  rintro ⟨j,vj,lj⟩ g w5 ⟨hj,hs5,hV5,hl5,hn5⟩
  simp only[] at hj hV5 hl5 hn5
  have hvge:=Qk hV3.own
  have hvge5:=Qk hV5.own
  have hs05:Step [] w w5:=hs04.then hs5 (λb hb=>.inr (by have:=(hvge b hb).1;omega))
  have h5:=h.ext hs05
  have hz5:=hs5.size
  have hljl:lj.length≤200:=by
   have e1:=congrArg List.length hl5
   rw[List.length_map,List.length_append,List.length_map,List.length_map,List.length_take,←hMm,List.length_map] at e1
   omega
  have hB15:Q2 w5.heap b1 47 c.cells:=(hB13.ext hs4).step hs5 (λhb=>by have:=(hvge b1 hb).1;have:=hB12.lt;omega)
  have hRA5:QL [] w5.heap vR (rem c.cel):=(((Qu.ints hR (by omega) (L:=ob v) (λb hb=>(hvge b hb).2)).st hs5)).up (by simp)
  refine Qc<|x (QB rfl rfl)<|xe ?_
  refine Qf<|QG rfl (λh54=>?_) (λh54=>?_)
  ·refine Qx ?_
   have hje:(rem c.cel).length≤j:=by have h16:¬(j:Int)<((rem c.cel).length:Int):=h54;omega
   rw[List.take_of_length_le hje,←hsl] at hl5
   refine Qc<|Qb<|x Qh<|Qe ?_
   exact Ql ⟨[vj,.int .i64 0],⟨rfl,rfl,trivial⟩,hs05,vj,by rw[hE0];rfl,λh0=>absurd hE0 h0,λ_=>⟨QH hV5.own,lj,hl5,λL hL=>AvP.auts hV5 (by omega) (λb hb=>by have:=hL b hb;omega)⟩⟩
  have hltR:j<(rem c.cel).length:=by have h16:(j:Int)<((rem c.cel).length:Int):=h54;omega
  have htkR:(rem c.cel).take (j+1)=(rem c.cel).take j++[(rem c.cel)[j]'hltR]:=List.take_succ_eq_append_getElem hltR
  have hig:=QiK _ (List.getElem_mem hltR)
  refine Qi<|Qf<|Qg<|Qc<|xii (i:=j) hRA5 rfl rfl hltR λa55 h55=>?_
  refine Zd ((rem c.cel)[j]'hltR) λi hi=>?_
  rw[hi] at h55 htkR hig
  have hcl:c.cel.co.length=c.co.length:=List.length_map ..
  rw[hcl] at hig
  have hin:i=(i.toNat:Int):=by omega
  have hil:i.toNat<c.co.length:=by omega
  have hmem:=List.getElem_mem hil
  have hco:coA c.cel i=(c.co[i.toNat]'hil).p.a:=by
   show ((c.co.map IV.it).getD i.toNat _).a=_
   simp[List.getD,hil,IV.it]
  refine x (Qv h55 rfl)<|Qe<|Qc<|x (Qa rfl)<|x (Qd hB15 rfl rfl)<|Qb<|xig (g:=QW) (i:=i.toNat) Yq h5.co.arr rfl (congrArg (Value.int .i64) hin) hil λa60 h60=>?_
  refine Zd (c.co[i.toNat]'hil) λq hq=>?_
  rw[hq] at h60 hmem hco
  have hqA:=h5.co.each q hmem
  refine x (Zc rfl)<|x (QC (us:=[q.p.va,.int .i64 q.p.a.st,q.p.vm,q.p.ve]) (h60.from 1) rfl rfl)<|xl rfl<|Qt (us:=[nS,.int .i64 0,nS,nS]) rfl λb14 w6 hs6 hb14 hB14 =>
   xl rfl<|Qn (us:=[q.p.va,.int .i64 q.p.a.st,q.p.vm,q.p.ve]) hB14 rfl rfl rfl rfl ⟨hqA.al.one,rfl,hqA.mr.one,hqA.ed.one,trivial⟩ λw7 hs7 hB14=>xe ?_
  have hs57:Step [] w5 w7:=hs6.then1 hs7 hb14
  have hd7:Step [] w7 { w7 with drawn:=w7.drawn+1 }:=Step.drew _ _
  have hz57:=hs57.size
  have hb14v:b14∉ob vj:=λhm=>by have:=(hvge5 b14 hm).2;omega
  have hqA7:=hqA.ext hs57
  refine QS (Step (ob vj) w7) [(0,true),(1,true),(2,true),(4,true),(5,true),(6,true),(7,true),(9,true),(10,true),(3,false),(8,false),(11,false),(12,true),(13,false),(14,false),(15,true)] mixed (by rfl) (by kernel_rfl) (Step.drew _ _) ?_
  refine p (λ_=>Qo)<|p (λ_=>Qa rfl)<|pq (λ_ hc=>Qd (hB14.step hc hb14v) rfl rfl)<|p (λ_=>Qa rfl)<|pq (λ_ hc=>Qd (hB14.step hc hb14v) rfl rfl) <|
   p (λ_=>Qa rfl)<|pq (λ_ hc=>Qd (hB14.step hc hb14v) rfl rfl)<|p (λ_=>Qa rfl)<|pq (λ_ hc=>Qd (hB14.step hc hb14v) rfl rfl) <|
   pk<|xf<|(ZU (hqA7.al.ext hd7)).mono ?_
  rintro r8 w8 ⟨hs8,ho8⟩
  refine ⟨(hd7.trans hs8).any,?_⟩
  refine pk<|xf<|(ZU ((hqA7.mr.ext hd7).ext hs8)).mono ?_
  rintro r9 w9 ⟨hs9,ho9⟩
  refine ⟨((hd7.trans hs8).trans hs9).any,?_⟩
  refine pk<|xf<|(Kk (((hqA7.ed.ext hd7).ext hs8).ext hs9)).mono ?_
  rintro r10 w10 ⟨hs10,ho10⟩
  have hs710:=((hd7.trans hs8).trans hs9).trans hs10
  refine ⟨hs710.any,?_⟩
  refine p (λ_=>QE ⟨Q3 ho8,rfl,Q3 ho9,Q3 ho10,trivial⟩)<|pk<|QD (us:=[Zm ⟨r8,r9,r10,q.p.a⟩]) rfl rfl (by decide) (by simp) ⟨rfl,rfl,trivial⟩ λb76 w11 hs11 hb76 hB76=>⟨(hs710.trans hs11).any,?_⟩
  have hs511:=(hs57.trans hs710).trans hs11
  have hz511:=hs511.size
  have hz8:=hs8.size
  have hz9:=hs9.size
  have hzd:({ w7 with drawn:=w7.drawn+1 }:World).heap.size=w7.heap.size:=rfl
  refine pk<|QZ (news:=Zm ⟨r8,r9,r10,q.p.a⟩) (L:=[]) (Qs hV5.own hs511) rfl rfl rfl (hB76.at (by simp)) (QfU (p:=⟨r8,r9,r10,q.p.a⟩) (QH ho8) (QH ho9) (QH ho10)) (by omega) (by omega) λv12 w12 ho12 hs12 hn12=>⟨(hs710.trans hs11).any.trans' hs12,?_⟩
  refine p (λ_=>Qh)<|pe ?_
  have hvl:∀b∈ob vj,b<w7.heap.size:=λb hb=>by have:=(hvge5 b hb).2;omega
  have hV12:AvP w2.heap.size w12 v12 (lj++[⟨r8,r9,r10,q.p.a⟩]):=YY.app3 (YY.ext hV5 hs511) (λt ht=>by
   simp only[List.mem_cons,List.not_mem_nil,or_false] at ht
   rcases ht with rfl | rfl | rfl
   ·exact ZH.of_own (Qs (Qs (Qs ho8 hs9) hs10) hs11) hqA.al.le (by omega) (λb hb=>by have:=hvl b hb;omega)
   ·exact ZH.of_own (Qs (Qs ho9 hs10) hs11) hqA.mr.le (by omega) (λb hb=>by have:=hvl b hb;omega)
   ·exact ZH.of_own (Qs ho10 hs11) hqA.ed.le (by omega) (λb hb=>by have:=hvl b hb;omega)) ho12 hs12 hn12
  refine Qw<|QO rfl rfl<|Qb<|xe ?_
  refine ⟨(j+1,v12,lj++[⟨r8,r9,r10,q.p.a⟩]),by simp only[];omega,⟨rfl,rfl,trivial⟩,hltR,(hs5.trans hs511).then hs12 hn5,hV12,?_,λb hb=>?_⟩
  ·simp only[]
   rw[htkR,List.map_append,hl5,List.map_append,List.append_assoc,List.map_singleton,List.map_singleton,hco]
  ·rcases hn12 b hb with h9 | h9
   ·exact hn5 b h9
   ·exact .inr (by omega)
 have hlt:k<lM.length:=by have h16:(k:Int)<(lM.length:Int):=h26;omega
 have htk:lM.take (k+1)=lM.take k++[lM[k]'hlt]:=List.take_succ_eq_append_getElem hlt
 have hmem:=List.getElem_mem hlt
 rw[List.drop_eq_getElem_cons hlt,List.map_cons,Qey] at hE3
 have hM3:=ZN.ext hM hs3
 have hMA3:=hMA.ext hs3
 refine Qi<|Qf<|Qg<|Qc<|xig (g:=Zp) (i:=k) zK hMA3 rfl rfl hlt λa27 h27=>?_
 refine Zd (lM[k]'hlt) λq hq=>?_
 rw[hq] at h27 htk hmem hE3
 have hqI:QL [] w3.heap q.v q.co:=hM3.each q hmem [] (by simp)
 refine x (QC h27 rfl rfl)<|xl rfl<|Qt (us:=[.int .i64 0,.int .i64 0,nS]) rfl λb8 w13 hs13 hb8 hB8=>xl rfl<|Qn (us:=Zp q) hB8 rfl rfl rfl rfl ⟨rfl,rfl,hqI.one,trivial⟩ λw14 hs14 hB8 =>
  xe ?_
 have hs314:Step [] w3 w14:=hs13.then1 hs14 hb8
 have hs014:=hs03.trans hs314
 have hz314:=hs314.size
 refine Qc<|x (Qq (hB13.ext hs314) rfl rfl)<|x (Qq hB8 rfl rfl)<|xl rfl<|xf<|(Qbv (q:=q) (h.ext hs014) (hqI.ext hs314) (hkb.ext hs014)).mono ?_
 rintro r15 w15 ⟨hs15,sa,st,sm,se,rfl,hone,hgood,_⟩
 refine Qb<|x (Qp rfl rfl)<|x (Qp rfl rfl)<|xl rfl<|Qt (us:=[nS,.int .i64 0,nS,nS]) rfl λb9 w16 hs16 hb9 hB9=>xl rfl<|Qn (us:=[sa,.int .i64 st,sm,se]) hB9 rfl rfl rfl rfl ⟨hone.1,rfl,hone.2.1,hone.2.2.1,trivial⟩ λw17 hs17 hB9 =>
  Qe ?_
 have hs1517:Step [] w15 w17:=hs16.then1 hs17 hb9
 have hs317:=(hs314.trans hs15).trans hs1517
 refine Qf<|Qc<|Qb<|x (Q8 rfl rfl)<|xe ?_
 refine Q4 rfl (λh36=>?_) (λh36=>?_)
 ·rw[if_pos h36] at hE3
  subst hE3
  refine Qc<|Qb<|x Qh<|Qe ?_
  exact Ql ⟨[nS,.int .i64 (msE c.cel q.m)],⟨rfl,rfl,trivial⟩,hs03.trans hs317,nS,rfl,λ_=>rfl,λh0=>absurd h0 h36⟩
 rw[if_neg h36] at hE3
 obtain ⟨hst,hA⟩:=hgood (Decidable.not_not.1 h36)
 subst hst
 have hge:=Qk hV3.own
 refine Qi<|Qw<|Qb<|x (Qq hB9 rfl rfl)<|xl rfl<|QD (us:=[Zm ⟨sa,sm,se,msA c.cel q.m⟩]) rfl rfl (by decide) (by simp) ⟨rfl,rfl,trivial⟩ λb40 w18 hs18 hb40 hB40=>?_
 have hs318:=hs317.trans hs18
 have hz318:=hs318.size
 refine xl rfl<|QZ (news:=Zm ⟨sa,sm,se,msA c.cel q.m⟩) (L:=[]) (Qs hV3.own hs318) rfl rfl rfl (hB40.at (by simp)) (QfU (p:=⟨sa,sm,se,msA c.cel q.m⟩) hone.1 hone.2.1 hone.2.2.1) (by omega) (by omega) λv19 w19 ho19 hs19 hn19 =>
  Qe ?_
 have hV19:AvP w2.heap.size w19 v19 (l++[⟨sa,sm,se,msA c.cel q.m⟩]):=YY.app3 (YY.ext hV3 hs318) (Zt.parts (N:=w14.heap.size) (p:=⟨sa,sm,se,msA c.cel q.m⟩) (λL hL=>((hA L hL).ext hs1517).ext hs18) (by omega) (λb hb=>by have:=(hge b hb).2;omega)) ho19 hs19 hn19
 refine Qw<|QO rfl rfl<|Qb<|xe ?_
 refine ⟨(k+1,v19,l++[⟨sa,sm,se,msA c.cel q.m⟩]),by simp only[];omega,⟨rfl,rfl,trivial⟩,hlt,(hs3.trans hs318).then hs19 (λb hb=>.inr (hge b hb).1),hV19,?_,hE3⟩
 simp only[]
 rw[htk,List.map_append,hl3,List.map_append];rfl
section
variable {s:QV} {l:List Kz} {n:Nat}
end
section
variable {s:QV} {l:List Kz} {n:Nat}
end
section
variable {s:QV} {l:List Kz} {n:Nat}
end
section
variable {p s:QV} {pairs:List (LI)}
end
section
variable {s:QV} {l:List Kz} {n:Nat}
end
section
variable {s:QV} {l:List Kz} {n:Nat} {nm:LI}
end
section
variable {p s:QV} {pn xn v:Int}
end
section
variable {s:QV} {l:List Kz} {n:Nat}
end
theorem Qdu {n k:Nat}(h:k<n):(Jw n).drop k=(k:Int)::(Jw n).drop (k+1):=by
 have hl:k<(Jw n).length:=by rw[zl];exact h
 rw[List.drop_eq_getElem_cons hl]
 congr 1
 simp[Jw]
theorem QdT (c:Zv) (v:Int) (l:LI):shd c (v::l)=if 2≤(ownr c v).length then some (v,cget (ownr c v) 0,cget (ownr c v) 1) else shd c l:=rfl
def shR (c:Zv):Option (Int×Int×Int):=if Zi c≠0 then none else QiD c
set_option maxHeartbeats 4000000 in
theorem Qc8 {L:LN}{w:World}{c:CL}(h0:Zu L w.heap c) :
  QJ prog 20 [c.val] w λr w'=>Step [] w w'∧r=.tuple #[.int .i64 (QiI (shR c.cel)).1,.int .i64 (QiI (shR c.cel)).2.1,.int .i64 (QiI (shR c.cel)).2.2,.bool (shR c.cel).isSome,.int .i64 (Zi c.cel)]:=by
 have h:=h0.up (L':=[]) (by simp)
 have hsr:shR c.cel=if Zi c.cel≠0 then none else QiD c.cel:=rfl
 refine Zd (Zi c.cel) λE hE=>?_
 refine Zd (shR c.cel) λS hS=>?_
 rw[hS,hE] at hsr
 rw[hS,hE]
 have hcl:=h.co.arr.le
 have hel:=h.ev.arr.le
 refine QJ.of_W func20 rfl ntmps20 results20 (by simp) ?_
 refine Qc<|xl rfl<|QQ (us:=c.cells) rfl λb1 w1 hs1 hb1 hB1=>x Qh<|x Qh<|x Qh<|x Qh<|Qe<|Qf<|Qc<|x (Qq hB1 rfl rfl)<|xl rfl<|xf<|(YO (h.ext hs1)).mono ?_
 rintro r2 w2 ⟨hr2,hs2⟩
 rw[hE] at hr2
 subst hr2
 refine Qe ?_
 have hs02:=hs1.trans hs2
 have hB12:=hB1.ext hs2
 refine Qc<|Qb<|x (Q8 rfl rfl)<|xe ?_
 refine Q4 rfl (λh15=>?_) (λh15=>?_)
 ·rw[if_pos h15] at hsr
  subst hsr
  refine Qc<|Qb<|x Qh<|x Qh<|x Qh<|x Qh<|Qe ?_
  exact Ql ⟨[.int .i64 0,.int .i64 0,.int .i64 0,.bool false,.int .i64 E],⟨rfl,rfl,rfl,rfl,rfl,trivial⟩,hs02,rfl⟩
 rw[if_neg h15] at hsr
 have hE0:E=0:=Decidable.not_not.1 h15
 have hev:c.cel.ev.length=c.ev.length:=rfl
 have hsd:QiD c.cel=shd c.cel (Jw c.ev.length):=rfl
 rw[hsd] at hsr
 refine Qi<|Qf<|Qc<|x (Qa rfl)<|x (Qd hB12 rfl rfl)<|x (Qr (h.ext hs02).ev.arr rfl)<|Qb<|xe ?_
 refine Qg<|QA (α:=Nat) [(2,6),(8,11),(20,51)] (λz=>[(20,.int .i64 z)]) (λz w'=>z≤c.ev.length∧Step [] w2 w'∧shd c.cel ((Jw c.ev.length).drop z)=S) (λz=>c.ev.length - z) (by rfl) 0 ⟨rfl,trivial⟩
  ⟨Nat.zero_le _,Step.refl _ _,hsr.symm⟩ ?_
 rintro k g w3 ⟨hk,hs3,hS3⟩
 have hs03:=hs02.trans hs3
 have hB13:=hB12.ext hs3
 have h3:=h.ext hs03
 refine Qc<|x (QB rfl rfl)<|xe ?_
 refine Qf<|QG rfl (λh21=>?_) (λh21=>?_)
 ·refine Qx ?_
  have hke:c.ev.length≤k:=by have h16:¬(k:Int)<(c.ev.length:Int):=h21;omega
  rw[List.drop_of_length_le (by rw[zl];exact hke)] at hS3
  have hS0:S=none:=hS3.symm
  subst hS0
  refine Qc<|x Qh<|x Qh<|x Qh<|x Qh<|Qe ?_
  exact Ql ⟨[.int .i64 0,.int .i64 0,.int .i64 0,.bool false,.int .i64 0],⟨rfl,rfl,rfl,rfl,rfl,trivial⟩,hs03,by rw[hE0];rfl⟩
 have hlt:k<c.ev.length:=by have h16:(k:Int)<(c.ev.length:Int):=h21;omega
 rw[Qdu hlt,QdT] at hS3
 refine Qi<|Qf<|Qg<|Qc<|Qb<|Qe<|Qc<|Qe<|Qf<|Qc<|x (Qa rfl)<|x (Qd hB13 rfl rfl)<|x (Qr h3.co.arr rfl)<|Qb<|xe ?_
 have how:ownr c.cel (k:Int)=ixs (λq:IV=>decide ((k:Int)∈q.p.a.al)) 0 c.co:=by
  show ixs (λx:YE=>decide ((k:Int)∈x.a.al)) 0 (c.co.map (·.it))=_
  generalize 0=i0
  generalize c.co=l
  induction l generalizing i0 with
  | nil=>rfl
  | cons a l ih=>rw[List.map_cons,ixs,ixs,ih (i0+1)];rfl
 rw[how] at hS3
 refine Qg<|QA (α:=Nat×Value) [(9,11),(26,40)] (λz=>[(9,z.2),(26,.int .i64 z.1)]) (λz w'=>z.1≤c.co.length∧Step [] w3 w'∧Qu 3 w3.heap.size w' z.2 (ixs (λq:IV=>decide ((k:Int)∈q.p.a.al)) 0 (c.co.take z.1))) (λz=>c.co.length - z.1) (by rfl) (0,nS) ⟨rfl,rfl,trivial⟩
  ⟨Nat.zero_le _,Step.refl _ _,QP _ _ _ _⟩ ?_
 rintro ⟨i,v⟩ g w4 ⟨hi,hs4,ho4⟩
 simp only[] at hi ho4
 have hs04:=hs03.trans hs4
 have h4:=h.ext hs04
 have hz4:=hs4.size
 have hlen:=KU (λq:IV=>decide ((k:Int)∈q.p.a.al)) (c.co.take i) 0
 rw[List.length_take] at hlen
 refine Qc<|x (QB rfl rfl)<|xe ?_
 refine Qf<|QG rfl (λh27=>?_) (λh27=>?_)
 ·refine Qx ?_
  have hie:c.co.length≤i:=by have h16:¬(i:Int)<(c.co.length:Int):=h27;omega
  rw[List.take_of_length_le hie] at ho4
  rw[List.take_of_length_le hie] at hlen
  refine Zd (ixs (λq:IV=>decide ((k:Int)∈q.p.a.al)) 0 c.co) λow how=>?_
  rw[how] at ho4 hlen hS3
  have hA:QL [] w4.heap v ow:=Qu.ints ho4 (by omega) (by simp)
  refine Qc<|Qb<|x (Qr hA rfl)<|x (ZR rfl rfl)<|xe ?_
  refine Q4 rfl (λh43=>?_) (λh43=>?_)
  ·have h2:2≤ow.length:=by have h44:(2:Int)≤(ow.length:Int):=h43;omega
   rw[if_pos h2] at hS3
   subst hS3
   have e0:cget ow 0=ow[0]'(by omega):=by unfold cget;simp[List.getD,show 0<ow.length by omega]
   have e1:cget ow 1=ow[1]'(by omega):=by unfold cget;simp[List.getD,show 1<ow.length by omega]
   refine Qf<|QS (Step [] w4) [(0,true),(1,true),(2,true),(3,true),(4,true),(5,true),(6,true),(7,true),(8,true),(9,true),(10,true),(11,true)] mixed (by rfl) (by kernel_rfl) (Step.drew _ _) ?_
   refine p (λ_=>Qo)<|p (λ_=>Qo)<|pii (i:=0) rfl hA rfl rfl (by omega) λa46 h46=>?_
   rw[←e0] at h46
   refine pq (λ_ hc=>Qv (h46.st hc) rfl) <|
    p (λ_=>Qo)<|pii (i:=1) rfl hA rfl rfl (by omega) λa49 h49=>?_
   rw[←e1] at h49
   refine pq (λ_ hc=>Qv (h49.st hc) rfl)<|p (λ_=>Qh) <|
    p (λ_=>Qh)<|p (λ_=>Qh)<|p (λ_=>Qh)<|p (λ_=>Qh)<|pe ?_
   exact Ql ⟨[.int .i64 k,.int .i64 (cget ow 0),.int .i64 (cget ow 1),.bool true,.int .i64 0],⟨rfl,rfl,rfl,rfl,rfl,trivial⟩,hs04.trans (Step.drew _ _),by rw[hE0];rfl⟩
  have h2:¬2≤ow.length:=by have h44:¬(2:Int)≤(ow.length:Int):=h43;omega
  rw[if_neg h2] at hS3
  refine Qi<|Qw<|QO rfl rfl<|Qb<|xe ?_
  exact ⟨k+1,by omega,⟨rfl,trivial⟩,hlt,hs3.trans hs4,hS3⟩
 have hlti:i<c.co.length:=by have h16:(i:Int)<(c.co.length:Int):=h27;omega
 have hmem:=List.getElem_mem hlti
 have hsucc:=UE (λq:IV=>decide ((k:Int)∈q.p.a.al)) hlti
 refine Qi<|Qf<|Qg<|Qc<|Qb<|xig (g:=QW) (i:=i) Yq h4.co.arr rfl rfl hlti λa29 h29=>?_
 refine Zd (c.co[i]'hlti) λq hq=>?_
 rw[hq] at h29 hmem hsucc
 have hqA:=h4.co.each q hmem
 refine x (QC h29 rfl rfl)<|xl rfl<|Qt (us:=[.string .empty,nS,.int .i64 0,nS,nS]) rfl λb11 w5 hs5 hb11 hB11=>x Qh <|
  xl rfl<|Qn (us:=QW q) hB11 rfl rfl rfl rfl ⟨rfl,hqA.al.one,rfl,hqA.mr.one,hqA.ed.one,trivial⟩ λw6 hs6 hB11=>xe ?_
 have hs46:Step [] w4 w6:=hs5.then1 hs6 hb11
 refine Qc<|x (Qa rfl)<|x (Qa rfl)<|x (Qd hB11 rfl rfl)<|Qb<|xl rfl<|xf<|(ZI (hqA.al.ext hs46) (k:Int)).mono ?_
 rintro r7 w7 ⟨rfl,rfl⟩
 refine xe ?_
 refine Q4 rfl (λh35=>?_) (λh35=>?_)
 ·rw[if_pos (decide_eq_true h35)] at hsucc
  refine Qw<|Qb<|Qb<|xl rfl<|QD (us:=[[.int .i64 i]]) rfl rfl (by decide) (by simp) ⟨rfl,rfl,trivial⟩ λb38 w8 hs8 hb38 hB38=>?_
  have hs48:=hs46.trans hs8
  have hz48:=hs48.size
  refine xl rfl<|QZ (news:=[.int .i64 i]) (L:=[]) (Qs ho4 hs48) rfl rfl rfl (hB38.at (by simp)) (by simp[Value.oneCell']) (by omega) (by omega) λv9 w9 ho9 hs9 hn9 =>
   Qe ?_
  have hge:=Qk ho4
  refine Qw<|QO rfl rfl<|Qb<|xe ?_
  refine ⟨(i+1,v9),by simp only[];omega,⟨rfl,rfl,trivial⟩,hlti,(hs4.trans hs48).then hs9 (λb hb=>.inr (hge b hb).1),?_⟩
  simp only[]
  rw[hsucc];exact Qu.snoc ho9
 rw[if_neg (by simpa using h35),List.append_nil] at hsucc
 refine Qi<|Qw<|QO rfl rfl<|Qb<|xe ?_
 exact ⟨(i+1,v),by simp only[];omega,⟨rfl,rfl,trivial⟩,hlti,hs4.trans hs46,by simp only[];rw[hsucc];exact Qs ho4 hs46⟩
end Go.Proofs.YtdffckgdcegpaaaGreatDoor
