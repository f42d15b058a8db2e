/- Merged out of 15 texts. -/
import Derived.Test.YtdffckgdcegpaaaGreatDoorKle
import Derived.ChangeSame
import Derived.Carry
import Derived.OpenShut
import Derived.RowKit
import Derived.ChangeSlices
import Derived.WideShapes
import Derived.ProofKit
import Derived.ChangeArms
import Derived.Lib.LaidTab
import Derived.Stop.LaidErr
import Derived.MakeChecks
import Derived.Test.YtdffckgdcegpaaaGreatDoorRows
import Derived.JoinedOf
import Derived.Test.YtdffckgdcegpaaaGreatDoorCards
import Derived.SevenTiedAt
namespace Go.Proofs.YtdffckgdcegpaaaGreatDoor
open Go.Proofs.Tryz
open Go.Lg
theorem QaY {w:World}(hkb:Kb w 4096):QJ prog 50 [] w λr w'=>r=.bool true∧Step [] w w':=by
 refine QJ.of_W func50 rfl ntmps50 results50 (by simp) ?_
 refine Qc<|Qe<|QU (α:=Unit) [(0,4)] (λz=>[(0,.bool true)]) (λz w'=>Step [] w w') (by rfl) ?_ ?_
 ·refine Qw<|xl rfl<|xf<|(Qas hkb).mono ?_
  rintro r1 w1 ⟨rfl,hs1⟩
  refine Qb<|xl rfl<|xf<|(Qdb w1).mono ?_
  rintro r2 w2 ⟨rfl,hs2⟩
  refine x (Qm rfl)<|Qe ?_
  exact ⟨(),⟨rfl,trivial⟩,hs1.trans hs2⟩
 rintro z g w3 hs3
 exact Ql ⟨[.bool true],⟨rfl,trivial⟩,rfl,hs3⟩
theorem Ky.eq_iff (a b:Ky):a=b↔a.kd=b.kd∧a.ix=b.ix∧a.co=b.co:=by
 cases a;cases b;simp
instance mdlDec (a b:Ky):Decidable (a=b):=decidable_of_iff _ (Ky.eq_iff a b).symm
theorem UR {L L':LN}{w:World}{q q':MV}(h:QL L w.heap q.v q.co) (h':QL L' w.heap q'.v q'.co):QJ prog 16 [.agg (Zp q).toArray,.agg (Zp q').toArray] w λr w'=>r=.bool (decide (q.m=q'.m))∧Step [] w w':=by
 refine QJ.of_W func16 rfl ntmps16 results16 (by simp) ?_
 refine Qc<|xl rfl<|QQ (us:=Zp q) rfl λb2 w1 hs1 hb2 hB2=>xl rfl<|QQ (us:=Zp q') rfl λb3 w2 hs2 hb3 hB3=>Qe ?_
 have hs02:=hs1.trans hs2
 have hB22:=hB2.ext hs2
 refine QU (α:=Bool) [(4,23)] (λz=>[(4,.bool z)]) (λz w'=>Step [] w w'∧z=decide (q.m=q'.m)) (by rfl) ?_ ?_
 ·refine Qw<|x (Qa rfl)<|x (Qd hB22 rfl rfl)<|x (Qa rfl)<|x (Qd hB3 rfl rfl)<|xb (Q7 rfl rfl) (λh9=>?_) (λh9=>?_)
  ·refine Qb<|x (Qa rfl)<|x (Qd hB22 rfl rfl)<|x (Qa rfl)<|x (Qd hB3 rfl rfl)<|xb (Q7 rfl rfl) (λh15=>?_) (λh15=>?_)
   ·refine x (Qm rfl)<|Qb<|x (Qa rfl)<|x (Qd hB22 rfl rfl)<|x (Qa rfl)<|x (Qd hB3 rfl rfl)<|xl rfl<|xf<|(qJ (h.ext hs02) (h'.ext hs02)).mono ?_
    rintro r3 w3 ⟨rfl,hs3⟩
    refine x (Qm rfl)<|Qe<|⟨_,⟨rfl,trivial⟩,hs02.trans hs3,?_⟩
    refine decide_eq_decide.2 ?_
    rw[Ky.eq_iff]
    exact ⟨λe=>⟨h9,h15,e⟩,λe=>e.2.2⟩
   refine x (Qm rfl)<|Qb<|xs rfl<|xs rfl<|xs rfl<|xs rfl<|xs rfl<|x (Qm rfl)<|Qe<|⟨false,⟨rfl,trivial⟩,hs02,(decide_eq_false λe=>h15 ?_).symm⟩
   exact congrArg Ky.ix e
  refine Qb<|xs rfl<|xs rfl<|xs rfl<|xs rfl<|xs rfl<|x (Qm rfl)<|Qb<|xs rfl<|xs rfl<|xs rfl<|xs rfl<|xs rfl<|x (Qm rfl)<|Qe<|⟨false,⟨rfl,trivial⟩,hs02,(decide_eq_false λe=>h9 ?_).symm⟩
  exact congrArg Ky.kd e
 rintro z g w4 ⟨hs4,hz⟩
 exact Ql ⟨[.bool z],⟨rfl,trivial⟩,by rw[←hz];rfl,hs4⟩
def X1:ByteArray:=⟨#[98,117,102,102,101,114]⟩
def KW:YE:=⟨X1,⟨[1,2],2,[0,1],[(0,1,1),(1,2,0)]⟩⟩
def Qhc:Zv:={ mzC 3 with rq:=[KW],ex:=[Qfo 1 2] }
def Qat:Zv:={ Qhc with ex:=[] }
theorem QeM:Zi Qhc=0:=by kernel_rfl
theorem QeL:mods Qhc=[⟨1,0,[0,1]⟩,⟨2,0,[1,2]⟩]:=by kernel_rfl
theorem zV:Zi Qat=0:=by kernel_rfl
theorem QeN:rem Qat=[2]:=by kernel_rfl
theorem QeP:Qce Qat=0:=by kernel_rfl
theorem QeO:(QdG Qat).length=2:=by kernel_rfl
theorem Qha:((QdG Qat).map (·.st)).getD 1 0=2:=by kernel_rfl
theorem Qhb:shR Qat=none:=by kernel_rfl
set_option maxHeartbeats 4000000 in
theorem K4 (w:World):QJ prog 126 [] w λr w'=>Step [] w w'∧Qdd w.heap.size w'.heap r Qhc:=by
 refine QJ.of_W func126 rfl ntmps126 results126 (by simp) ?_
 refine Qc<|xl rfl<|Qt (us:=Z3) rfl λb0 w1 hs1 hb0 hB0=>xe ?_
 refine Qc<|xl rfl<|xf<|(XN 3 (by decide) w1).mono ?_
 rintro r2 w2 ⟨hs2,c1,rfl,hc1,hC1⟩
 refine xl rfl<|Qt (us:=Z3) rfl λb1 w3 hs3 hb1 hB1=>xl rfl<|Qn (us:=c1.cells) hB1 rfl rfl rfl rfl (hC1 [] (by simp)).ones λw4 hs4 hB14=>xe ?_
 have hs24:Step [] w2 w4:=hs3.then1 hs4 hb1
 have hz1:=hs1.size
 have hz2:=hs2.size
 have hz24:=hs24.size
 have hl0:=hB0.lt
 have hl1:=hB14.lt
 refine Qc<|xl rfl<|QD (us:=[[.int .i64 1],[.int .i64 2]]) rfl rfl (by decide) (by simp) ⟨rfl,rfl,rfl,rfl,trivial⟩ λb3 w5 hs5 hb3 hB3=>xl rfl<|QD (us:=[[.int .i64 0],[.int .i64 1]]) rfl rfl (by decide) (by simp) ⟨rfl,rfl,rfl,rfl,trivial⟩ λb4 w6 hs6 hb4 hB4 =>
  x (QE ⟨rfl,rfl,rfl,trivial⟩)<|x (QE ⟨rfl,rfl,rfl,trivial⟩)<|xl rfl<|QD (us:=[Qy (0,1,1),Qy (1,2,0)]) rfl rfl (by decide) (by exact (by decide:2*3≤1000000)) ⟨rfl,rfl,rfl,rfl,trivial⟩ λb7 w7 hs7 hb7 hB7=>?_
 have hs47:=(hs5.trans hs6).trans hs7
 refine x (QE ⟨rfl,rfl,rfl,rfl,trivial⟩)<|x (ZS [(0,[.string X1]),(1,[.slice (some ⟨b3,0,none⟩) 2 2,.int .i64 2,.slice (some ⟨b4,0,none⟩) 2 2,.slice (some ⟨b7,0,none⟩) 2 2])] ⟨rfl,rfl,rfl,rfl,trivial⟩) <|
  xl rfl<|QD (us:=[[.string X1,.slice (some ⟨b3,0,none⟩) 2 2,.int .i64 2,.slice (some ⟨b4,0,none⟩) 2 2,.slice (some ⟨b7,0,none⟩) 2 2]]) rfl rfl (by decide) (by exact (by decide:1*5≤1000000)) ⟨rfl,rfl,trivial⟩ λb10 w8 hs8 hb10 hB10=>?_
 have hs48:=hs47.trans hs8
 refine x (Qa rfl)<|xl rfl<|QF (j:=2) (u:=.slice (some ⟨b10,0,none⟩) 1 1) (hB14.ext hs48) rfl rfl (by simp) rfl λw9 hs9 hB19=>xe ?_
 refine Qc<|x (QE ⟨rfl,rfl,trivial⟩)<|x (QE ⟨rfl,rfl,trivial⟩)<|xl rfl<|QD (us:=[QN (1,1),QN (2,1)]) rfl rfl (by decide) (by exact (by decide:2*2≤1000000)) ⟨rfl,rfl,rfl,rfl,trivial⟩ λb14 w10 hs10 hb14 hB14'=>x (QE ⟨rfl,rfl,trivial⟩) <|
  xl rfl<|QD (us:=[[.string JC,.slice (some ⟨b14,0,none⟩) 2 2]]) rfl rfl (by decide) (by exact (by decide:1*2≤1000000)) ⟨rfl,rfl,trivial⟩ λb16 w11 hs11 hb16 hB16=>?_
 have hs911:=hs10.trans hs11
 refine x (Qa rfl)<|xl rfl<|QF (j:=3) (u:=.slice (some ⟨b16,0,none⟩) 1 1) (hB19.ext hs911) rfl rfl (by simp) rfl λw12 hs12 hB112=>xe ?_
 have hz5:=hs5.size
 have hz6:=hs6.size
 have hz7:=hs7.size
 have hz8:=hs8.size
 have hz9:=hs9.size
 have hz10:=hs10.size
 have hz11:=hs11.size
 have hs412:Step [b1] w4 w12:=((hs48.any.trans' hs9).trans hs911.any).trans' hs12
 have n01:b0∉[b1]:=by simp only[List.mem_singleton];omega
 have hB012:=((hB0.ext hs2).ext hs24).step hs412 n01
 have hone:Zw [c1.ve,c1.vc,.slice (some ⟨b10,0,none⟩) 1 1,.slice (some ⟨b16,0,none⟩) 1 1,c1.vk]:=by
  have h9:=(hC1 [] (by simp)).ones
  exact ⟨h9.1,h9.2.1,rfl,rfl,h9.2.2.2.2.1,trivial⟩
 refine Qc<|x (Qq hB112 rfl rfl)<|xl rfl<|Qn (us:=[c1.ve,c1.vc,.slice (some ⟨b10,0,none⟩) 1 1,.slice (some ⟨b16,0,none⟩) 1 1,c1.vk]) hB012 rfl rfl rfl rfl hone λw13 hs13 hB013=>xe ?_
 have hq:=CL.cel_ex (CL.cel_rq hc1 (.slice (some ⟨b10,0,none⟩) 1 1) [⟨X1,⟨.slice (some ⟨b3,0,none⟩) 2 2,.slice (some ⟨b4,0,none⟩) 2 2,.slice (some ⟨b7,0,none⟩) 2 2,KW.a⟩⟩]) (.slice (some ⟨b16,0,none⟩) 1 1) [⟨JC,.slice (some ⟨b14,0,none⟩) 2 2,[(1,1),(2,1)]⟩]
 refine Ql ⟨[.agg [c1.ve,c1.vc,.slice (some ⟨b10,0,none⟩) 1 1,.slice (some ⟨b16,0,none⟩) 1 1,c1.vk].toArray],⟨⟨_,rfl,Qz rfl (hB013.at (L:=[]) (by simp)).cells⟩,trivial⟩,(((hs1.trans hs2).trans hs24).then1 hs412 (by omega)).then1 hs13 (by omega),_,rfl,hq,λL hL=>?_⟩
 have hL1:∀b∈b0::L,b<w1.heap.size:=λb hb=>by
  rcases List.mem_cons.1 hb with rfl | hb
  ·exact hl0
  ·have:=hL b hb;omega
 have hL4:∀b∈b1::b0::L,b<w4.heap.size:=λb hb=>by
  rcases List.mem_cons.1 hb with rfl | hb
  ·exact hl1
  ·have:=hL1 b hb;omega
 have h2:=(hC1 (b0::L) hL1).up (L':=b1::b0::L) (λb hb=>by
  rcases List.mem_cons.1 hb with rfl | hb
  ·exact .inr hb1
  ·exact .inl hb)
 have h12:=(h2.ext hs24).st (hs412.mono (by simp))
 have nB:∀b,w4.heap.size≤b→b∉b1::b0::L:=λb hb hm=>by have:=hL4 b hm;omega
 have hI:Y2 (b1::b0::L) w8.heap (.slice (some ⟨b10,0,none⟩) 1 1) [⟨X1,⟨.slice (some ⟨b3,0,none⟩) 2 2,.slice (some ⟨b4,0,none⟩) 2 2,.slice (some ⟨b7,0,none⟩) 2 2,KW.a⟩⟩]:=by
  refine ⟨hB10.arr (nB _ (by omega)) (n:=1) (cap:=1) (sz:=5) rfl (by decide) (Nat.le_refl _),λq hq=>?_,λq hq=>?_⟩
  ·rw[List.mem_singleton.1 hq]
   exact ⟨(((hB3.ext hs6).ext hs7).ext hs8).arr (nB _ (by omega)) (n:=2) (cap:=2) (sz:=1) rfl (by decide) (Nat.le_refl _),((hB4.ext hs7).ext hs8).arr (nB _ (by omega)) (n:=2) (cap:=2) (sz:=1) rfl (by decide) (Nat.le_refl _),(hB7.ext hs8).arr (nB _ (by omega)) (n:=2) (cap:=2) (sz:=3) rfl (by decide) (Nat.le_refl _)⟩
  ·rw[List.mem_singleton.1 hq];exact YM (by decide)
 have hX:qd (b1::b0::L) w11.heap (.slice (some ⟨b16,0,none⟩) 1 1) [⟨JC,.slice (some ⟨b14,0,none⟩) 2 2,[(1,1),(2,1)]⟩]:=by
  refine ⟨hB16.arr (nB _ (by omega)) (n:=1) (cap:=1) (sz:=2) rfl (by decide) (Nat.le_refl _),λq hq=>?_,λq hq=>?_⟩
  ·rw[List.mem_singleton.1 hq]
   exact (hB14'.ext hs11).arr (nB _ (by omega)) (n:=2) (cap:=2) (sz:=2) rfl (by decide) (Nat.le_refl _)
  ·rw[List.mem_singleton.1 hq];exact YM (by decide)
 have h13:Zu (b1::b0::L) w12.heap (CL.mk c1.ve c1.vc (.slice (some ⟨b10,0,none⟩) 1 1) (.slice (some ⟨b16,0,none⟩) 1 1) c1.vk c1.ev c1.co [⟨X1,⟨.slice (some ⟨b3,0,none⟩) 2 2,.slice (some ⟨b4,0,none⟩) 2 2,.slice (some ⟨b7,0,none⟩) 2 2,KW.a⟩⟩] [⟨JC,.slice (some ⟨b14,0,none⟩) 2 2,[(1,1),(2,1)]⟩] c1.cs) :=
  ⟨h12.ev,h12.co,((hI.st (hs9.mono (by simp))).ext hs911).st (hs12.mono (by simp)),hX.st (hs12.mono (by simp)),h12.cs⟩
 exact (h13.st (hs13.mono (by simp))).up (λb hb=>.inl (List.mem_cons_of_mem _ (List.mem_cons_of_mem _ hb)))
theorem jd {a b:LI}(ha:Yi a) (hb:Yi b) (h:∀x,x∈a↔x∈b):a=b:=by
 have na:a.Nodup:=List.Pairwise.imp (λh=>by omega) ha
 have nb:b.Nodup:=List.Pairwise.imp (λh=>by omega) hb
 exact List.Perm.eq_of_pairwise (le:=λx y:Int=>x<y) (λa b _ _ h1 h2=>by omega) ha hb ((List.perm_ext_iff_of_nodup na nb).2 h)
theorem yW {m n:Nat}{e:Int}:e∈setK m n↔∃k:Nat,k<n∧e=(k:Int)∧m.testBit k=true:=by
 unfold setK
 rw[List.mem_map]
 constructor
 ·rintro ⟨k,hk,rfl⟩
  rw[List.mem_filter,List.mem_range'_1] at hk
  refine ⟨k,by omega,rfl,?_⟩
  have:=of_decide_eq_true hk.2
  rw[Nat.testBit_eq_decide_div_mod_eq]
  rw[Nat.and_one_is_mod] at this
  exact decide_eq_true this
 ·rintro ⟨k,hk,rfl,ht⟩
  refine ⟨k,?_,rfl⟩
  rw[List.mem_filter,List.mem_range'_1]
  refine ⟨by omega,decide_eq_true ?_⟩
  rw[Nat.testBit_eq_decide_div_mod_eq] at ht
  rw[Nat.and_one_is_mod]
  exact of_decide_eq_true ht
theorem zF (b k j:Nat):(orB b k).testBit j=true↔b.testBit j=true∨k=j:=by
 unfold orB
 rw[Nat.testBit_or,Nat.one_shiftLeft,Nat.testBit_two_pow,Bool.or_eq_true,decide_eq_true_iff]
theorem Qag (j:Nat):∀(ls:List (Int×Int)) (b:Nat),(ls.foldl (λb l=>orB b l.1.toNat) b).testBit j=true↔b.testBit j=true∨∃p∈ls,p.1.toNat=j
 | [],b=>by simp
 | p::ls,b=>by
  rw[List.foldl_cons,Qag j ls,zF]
  simp only[List.mem_cons,exists_eq_or_imp]
  exact or_assoc
theorem Qbg {ls:List (Int×Int)}{n:Nat}(h:∀p∈ls,0≤p.1∧p.1<(n:Int)) (hi:Yi (ls.map (·.1))):setK (qk ls) n=ls.map (·.1):=by
 refine jd (KD _ _) hi λx=>?_
 rw[yW,List.mem_map]
 unfold qk
 constructor
 ·rintro ⟨k,hk,rfl,ht⟩
  rw[Qag] at ht
  rcases ht with ht | ⟨p,hp,hpk⟩
  ·simp at ht
  ·exact ⟨p,hp,by have:=h p hp;omega⟩
 ·rintro ⟨p,hp,rfl⟩
  have:=h p hp
  exact ⟨p.1.toNat,by omega,by omega,(Qag _ _ _).2 (.inr ⟨p,hp,rfl⟩)⟩
theorem j8 (x:YE) (j:Nat):∀(l:List YE) (k b:Nat),(j9 x k b l).testBit j=true↔b.testBit j=true∨∃i,∃h:i<l.length,k+i=j∧((l[i]'h).a.al.any λe=>decide (e∈x.a.al))=true
 | [],k,b=>by simp[j9]
 | y::l,k,b=>by
  rw[j9,j8 x j l]
  constructor
  ·rintro (h | ⟨i,hi,h1,h2⟩)
   ·by_cases hy:(y.a.al.any λe=>decide (e∈x.a.al))=true
    ·rw[if_pos hy,zF] at h
     rcases h with h | h
     ·exact .inl h
     ·exact .inr ⟨0,by simp,by omega,hy⟩
    ·rw[if_neg hy] at h;exact .inl h
   ·exact .inr ⟨i+1,by simp;omega,by omega,h2⟩
  ·rintro (h | ⟨i,hi,h1,h2⟩)
   ·refine .inl ?_
    by_cases hy:(y.a.al.any λe=>decide (e∈x.a.al))=true
    ·rw[if_pos hy,zF];exact .inl h
    ·rw[if_neg hy];exact h
   ·cases i with
    | zero =>
    have h3:(y.a.al.any λe=>decide (e∈x.a.al))=true:=h2
    refine .inl ?_;rw[if_pos h3,zF];exact .inr (by omega)
    | succ i=>exact .inr ⟨i,by simpa using hi,by omega,h2⟩
def mts (a b:LI):Bool:=a.any λe=>decide (e∈b)
theorem yU (a b:LI):mts a b=mts b a:=by
 unfold mts
 rw[Bool.eq_iff_iff,List.any_eq_true,List.any_eq_true]
 constructor <;> rintro ⟨e,h1,h2⟩ <;> exact ⟨e,of_decide_eq_true h2,decide_eq_true h1⟩
def lmR (co:List YE):Nat→List YE→List Ky
 | _,[]=>[]
 | i,x::l=>⟨1,i,ixs (λy:YE=>mts x.a.al y.a.al) 0 co⟩::lmR co (i+1) l
def lmP (kd:Int):Nat→List (List (Int×Int))→List Ky
 | _,[]=>[]
 | i,x::l=>⟨kd,i,x.map (·.1)⟩::lmP kd (i+1) l
def lmd (c:Zv):List Ky:=lmR c.co 0 c.rq++(lmP 2 0 (c.ex.map (·.ls))++lmP 3 0 (c.cs.map (·.ts)))
theorem zN {α:Type}(q:α→Bool) (x:Int):∀(l:List α) (i:Nat),x∈ixs q i l↔∃k,∃h:k<l.length,x=((i+k:Nat):Int)∧q (l[k]'h)=true
 | [],i=>by simp[ixs]
 | y::l,i=>by
  rw[ixs]
  have ih:=zN q x l (i+1)
  constructor
  ·intro h
   by_cases hy:q y=true
   ·rw[if_pos hy] at h
    rcases List.mem_cons.1 h with h | h
    ·exact ⟨0,by simp,by rw[h];simp,hy⟩
    ·obtain ⟨k,hk,h1,h2⟩:=ih.1 h
     exact ⟨k+1,by simp;omega,by rw[h1];congr 1;omega,h2⟩
   ·rw[if_neg hy] at h
    obtain ⟨k,hk,h1,h2⟩:=ih.1 h
    exact ⟨k+1,by simp;omega,by rw[h1];congr 1;omega,h2⟩
  ·rintro ⟨k,hk,h1,h2⟩
   cases k with
   | zero =>
    have h3:q y=true:=h2
    rw[if_pos h3];exact List.mem_cons.2 (.inl (by rw[h1];simp))
   | succ k =>
    have h3:=ih.2 ⟨k,by simpa using hk,by rw[h1];congr 1;omega,h2⟩
    split
    ·exact List.mem_cons_of_mem _ h3
    ·exact h3
theorem zX {α:Type}(q:α→Bool):∀(l:List α) (i:Nat),Yi (ixs q i l)
 | [],_=>List.Pairwise.nil
 | y::l,i=>by
  rw[ixs]
  split
  ·refine List.pairwise_cons.2 ⟨λx hx=>?_,zX q l (i+1)⟩
   obtain ⟨k,_,h1,_⟩:=(zN q x l (i+1)).1 hx
   omega
  ·exact zX q l (i+1)
theorem QgJ {x:YE}{co:List YE}{n:Nat}(hn:co.length≤n):setK (j9 x 0 0 co) n=ixs (λy:YE=>mts x.a.al y.a.al) 0 co:=by
 refine jd (KD _ _) (zX _ _ _) λe=>?_
 rw[yW,zN]
 constructor
 ·rintro ⟨k,hk,rfl,ht⟩
  rw[j8] at ht
  rcases ht with ht | ⟨i,hi,h1,h2⟩
  ·simp at ht
  ·exact ⟨i,hi,by omega,by rw[yU];exact h2⟩
 ·rintro ⟨k,hk,rfl,h2⟩
  exact ⟨k,by omega,by simp,(j8 _ _ _ _ _).2 (.inr ⟨k,hk,by omega,by rw[yU] at h2;exact h2⟩)⟩
theorem Ux {kd:Int}{f:List (Int×Int)→Prop}(hf:∀ls,f ls→setK (qk ls) 8=ls.map (·.1)):∀(l:List (List (Int×Int))) (i:Nat),(∀x∈l,f x)→Jr kd i (l.map qk)=lmP kd i l
 | [],_,_=>rfl
 | x::l,i,h=>by
  rw[List.map_cons,Jr,lmP,hf x (h x List.mem_cons_self),Ux hf l (i+1) (λy hy=>h y (List.mem_cons_of_mem _ hy))]
theorem yZ {co:List YE}(hn:co.length≤8):∀(l:List YE) (i:Nat),Jr 1 i (l.map λx=>j9 x 0 0 co)=lmR co i l
 | [],_=>rfl
 | x::l,i=>by
  rw[List.map_cons,Jr,lmR,QgJ hn,yZ hn l (i+1)]
theorem D25.lmd {c:Zv}(h:D25 c):mods c=lmd c:=by
 have h3:=h.c3
 have hz:(szs c.co).length=c.co.length:=by unfold szs;rw[List.length_map]
 unfold mods Proofs.YtdffckgdcegpaaaGreatDoor.lmd srR srX srC
 rw[yZ (by omega)]
 have e1:c.ex.map (λx=>qk x.ls)=(c.ex.map (·.ls)).map qk:=by rw[List.map_map];rfl
 have e2:c.cs.map (λx=>qk x.ts)=(c.cs.map (·.ts)).map qk:=by rw[List.map_map];rfl
 rw[e1,e2,Ux (f:=λls=>(∀p∈ls,0≤p.1∧p.1<(8:Int))∧Yi (ls.map (·.1))) (λls hf=>Qbg (n:=8) hf.1 hf.2) _ _ (λls hls=>?_),Ux (f:=λls=>(∀p∈ls,0≤p.1∧p.1<(8:Int))∧Yi (ls.map (·.1))) (λls hf=>Qbg (n:=8) hf.1 hf.2) _ _ (λls hls=>?_)]
 ·obtain ⟨x,hx,rfl⟩:=List.mem_map.1 hls
  have h1:=(h.cs x hx).2
  have h2:Xn (szs c.co) none x.ts=0:=by
   unfold YH at h1
   split at h1
   ·cases h1
   ·split at h1
    ·rename_i h9;exact absurd h1 h9
    ·rename_i h9;exact Decidable.not_not.1 h9
  have h4:=Kl _ _ _ h2
  exact ⟨λp hp=>by have:=h4.1 p hp;omega,h4.2.1⟩
 ·obtain ⟨x,hx,rfl⟩:=List.mem_map.1 hls
  have h4:=Km _ _ _ (h.ex x hx).2.2
  exact ⟨λp hp=>by have:=h4.1 p hp;omega,h4.2.1⟩
theorem QiY {l:List MV}{a b:Ky}(h:l.map MV.m=[a,b]):∃m0 m1,l=[m0,m1]∧m0.m=a∧m1.m=b:=by
 match l,h with
 | [m0,m1],h =>
  simp only[List.map_cons,List.map_nil,List.cons.injEq,and_true] at h
  exact ⟨m0,m1,rfl,h.1,h.2⟩
 | [],h=>simp at h
 | [_],h=>simp at h
 | _::_::_::_,h=>simp at h
theorem QjJ {ps:List AV}{l:List QV}(h:ps.map (·.a)=l) (hl:l.length=2):∃p0 p1,ps=[p0,p1]∧p1.a.st=(l.map (·.st)).getD 1 0:=by
 subst h
 match ps,hl with
 | [p0,p1],_=>exact ⟨p0,p1,rfl,rfl⟩
 | [],h=>simp at h
 | [_],h=>simp at h
 | _::_::_::_,h=>simp at h
set_option maxHeartbeats 8000000 in
theorem Qar {w:World}(hkb:Kb w 4096):QJ prog 49 [] w λr w'=>r=.bool true∧Step [] w w':=by
 refine QJ.of_W func49 rfl ntmps49 results49 (by simp) ?_
 refine Qc<|Qe<|Qc<|xl rfl<|xf<|(K4 w).mono ?_
 rintro r1 w1 ⟨hs1,c1,rfl,hc1,hC1⟩
 refine xl rfl<|xf<|(U3 (hC1 [] (by simp))).mono ?_
 rintro r2 w2 ⟨hs2,vM,lM,rfl,hM,_,hg2⟩
 rw[hc1,QeL] at hg2
 obtain ⟨m0,m1,rfl,hm0,hm1⟩:=QiY (hg2 QeM)
 refine Qb<|x (Qp rfl rfl)<|x (Qp rfl rfl)<|x Qh<|Qe ?_
 have hs02:=hs1.trans hs2
 have hMA:Zj [] w2.heap vM [m0,m1].length 3 ([m0,m1].flatMap Zp):=hM.arr (by simp) (by simp)
 have hI0:QL [] w2.heap m0.v m0.co:=hM.each m0 (by simp) [] (by simp)
 have hI1:QL [] w2.heap m1.v m1.co:=hM.each m1 (by simp) [] (by simp)
 refine Qf<|QU (α:=Unit) [(18,24)] (λz=>[(24,.bool false)]) (λz w'=>w'=w2) (by rfl) ?_ ?_
 ·refine Qw<|Qb<|xb (Q8 rfl rfl) (λh19=>absurd (by rw[hc1];exact QeM) h19) (λh19=>?_)
  refine Qb<|Qb<|x (Qr hMA rfl)<|xb (Q8 rfl rfl) (λh23=>absurd rfl h23) (λh23=>?_)
  refine x (Qm rfl)<|xe ?_
  exact ⟨(),⟨rfl,trivial⟩,rfl⟩
 rintro z g w2 rfl
 refine Zy rfl ?_
 refine Qi<|Qc<|xl rfl<|xf<|(K4 w2).mono ?_
 rintro r3 w3 ⟨hs3,c2,rfl,hc2,hC2⟩
 refine xl rfl<|Qt (us:=Z3) rfl λb3 w4 hs4 hb3 hB3=>xl rfl<|Qn (us:=c2.cells) hB3 rfl rfl rfl rfl (hC2 [] (by simp)).ones λw5 hs5 hB35=>xe ?_
 have hs35:Step [] w3 w5:=hs4.then1 hs5 hb3
 refine Qc<|x (Qa rfl)<|xl rfl<|QF (j:=3) (u:=nS) hB35 rfl rfl (by simp) rfl λw6 hs6 hB36=>xe ?_
 have hz3:=hs3.size
 have hs26:Step [] w2 w6:=(hs3.trans hs35).then1 hs6 (by omega)
 have hs06:=hs02.trans hs26
 have hA6:Zu [] w6.heap (CL.mk c2.ve c2.vc c2.vr (nS) c2.vk c2.ev c2.co c2.rq [] c2.cs):=by
  have h9:=(((hC2 [] (by simp)).up (L':=[b3]) (λb hb=>.inr (by rw[List.mem_singleton.1 hb];exact hb3))).ext hs35).st hs6
  have h8:=h9.up (L':=[]) (by simp)
  exact ⟨h8.ev,h8.co,h8.rq,⟨Zj.nil _ _ 2,λq hq=>(by cases hq),λq hq=>(by cases hq)⟩,h8.cs⟩
 have hq:(CL.mk c2.ve c2.vc c2.vr (nS) c2.vk c2.ev c2.co c2.rq [] c2.cs).cel=Qat:=CL.cel_ex hc2 (nS) []
 refine Qc<|x (Qq hB36 rfl rfl)<|xl rfl<|xf<|(Ve hA6).mono ?_
 rintro r7 w7 ⟨hs7,vr,rfl,_,hg7⟩
 rw[hq,QeN] at hg7
 have hR7:=hg7 zV
 have hRI:QL [] w7.heap vr [2]:=Qu.ints (L:=[]) hR7 (by simp) (by simp)
 refine Qb<|x (Qp rfl rfl)<|x (Qp rfl rfl)<|x Qh<|Qe<|Qc<|x (Qq (hB36.ext hs7) rfl rfl)<|xl rfl<|xf<|(U2 (hA6.ext hs7) (hkb.ext (hs06.trans hs7))).mono ?_
 rintro r8 w8 ⟨hs8,vs,rfl,_,hg8⟩
 rw[hq] at hg8
 obtain ⟨_,ps,hps,hAu⟩:=hg8 QeP
 obtain ⟨p0,p1,rfl,hst⟩:=QjJ hps QeO
 rw[Qha] at hst
 have hAs:=hAu [] (by simp)
 refine Qb<|x (Qp rfl rfl)<|x (Qp rfl rfl)<|x Qh<|Qe ?_
 have hs68:=hs7.trans hs8
 refine Qc<|x (Qq (hB36.ext hs68) rfl rfl)<|xl rfl<|xf<|(Qc8 (hA6.ext hs68)).mono ?_
 rintro r9 w9 ⟨hs9,hr9⟩
 rw[hq,Qhb,zV] at hr9
 subst hr9
 refine Qb<|x (Qp rfl rfl)<|x (Qp rfl rfl)<|x (Qp rfl rfl)<|x (Qp rfl rfl)<|x (Qp rfl rfl)<|x Qh<|x Qh<|x Qh<|x Qh<|Qe ?_
 have hs69:=hs68.trans hs9
 have hs29:=hs26.trans hs69
 have hs79:=hs8.trans hs9
 refine QU (α:=Unit) [(0,0),(45,91)] (λz=>[(0,.bool true)]) (λz w'=>Step [] w9 w') (by rfl) ?_ ?_
 ·refine Qw ?_
  have hM9:=hMA.ext hs29
  refine Qb<|xig (g:=Zp) (i:=0) zK hM9 rfl rfl (by simp) λa46 h46=>x (QC h46 rfl rfl)<|xl rfl<|QD (us:=[[.int .i64 0],[.int .i64 1]]) rfl rfl (by decide) (by simp) ⟨rfl,rfl,rfl,rfl,trivial⟩ λb48 w10 hs10 hb48 hB48=>x (QE ⟨rfl,rfl,trivial⟩) <|
   xl rfl<|xf<|(UR (q:=m0) (q':=⟨1,0,.slice (some ⟨b48,0,none⟩) 2 2,[0,1]⟩) ((hI0.ext hs29).ext hs10) (hB48.arr (L:=[]) (by simp) (n:=2) (cap:=2) (sz:=1) rfl (by omega) (Nat.le_refl _))).mono ?_
  rintro r50 w11 ⟨hr50,hs11⟩
  replace hr50:r50=.bool true:=hr50.trans (congrArg Value.bool (decide_eq_true (p:=m0.m=_) hm0))
  subst hr50
  have hs911:=hs10.trans hs11
  refine Qb<|Qb<|xig (g:=Zp) (i:=1) zK (hM9.ext hs911) rfl rfl (by simp) λa53 h53=>x (QC h53 rfl rfl)<|xl rfl<|QD (us:=[[.int .i64 1],[.int .i64 2]]) rfl rfl (by decide) (by simp) ⟨rfl,rfl,rfl,rfl,trivial⟩ λb55 w12 hs12 hb55 hB55=>x (QE ⟨rfl,rfl,trivial⟩) <|
   xl rfl<|xf<|(UR (q:=m1) (q':=⟨2,0,.slice (some ⟨b55,0,none⟩) 2 2,[1,2]⟩) (((hI1.ext hs29).ext hs911).ext hs12) (hB55.arr (L:=[]) (by simp) (n:=2) (cap:=2) (sz:=1) rfl (by omega) (Nat.le_refl _))).mono ?_
  rintro r57 w13 ⟨hr57,hs13⟩
  replace hr57:r57=.bool true:=hr57.trans (congrArg Value.bool (decide_eq_true (p:=m1.m=_) hm1))
  subst hr57
  have hs913:=hs911.trans (hs12.trans hs13)
  refine x (Qm rfl)<|Qb<|Qb<|xb (Q7 rfl rfl) (λh61=>?_) (λh61=>absurd (by rw[hq];exact zV) h61)
  refine x (Qm rfl)<|Qb<|Qb<|xl rfl<|QD (us:=[[.int .i64 2]]) rfl rfl (by decide) (by simp) ⟨rfl,rfl,trivial⟩ λb65 w14 hs14 hb65 hB65 =>
   xl rfl<|xf<|(qJ (l:=[2]) (l':=[2]) (((hRI.ext hs79).ext hs913).ext hs14) (hB65.arr (L:=[]) (by simp) (n:=1) (cap:=1) (sz:=1) rfl (by omega) (Nat.le_refl _))).mono ?_
  rintro r66 w15 ⟨hr66,hs15⟩
  rw[decide_eq_true rfl] at hr66
  subst hr66
  have hs915:=hs913.trans (hs14.trans hs15)
  have hA15:=(hAs.ext hs9).ext hs915
  refine x (Qm rfl)<|Qb<|Qb<|xb (Q7 rfl rfl) (λh70=>?_) (λh70=>absurd (by rw[hq];exact QeP) h70)
  refine x (Qm rfl)<|Qb<|Qb<|x (Qr hA15.arr rfl)<|xb (Q7 rfl rfl) (λh75=>?_) (λh75=>absurd rfl h75)
  refine x (Qm rfl)<|Qb<|Qb<|xig (g:=Zm) (i:=1) Kq hA15.arr rfl rfl (by simp) λa79 h79=>x (Zc rfl)<|x (Qv (h79.fld 1 (.int .i64 p1.a.st) rfl) rfl)<|xb (Q7 rfl rfl) (λh82=>?_) (λh82=>QjK hst h82)
  refine x (Qm rfl)<|Qb<|Qb<|xb (Q7 rfl rfl) (λh86=>?_) (λh86=>absurd rfl h86)
  refine x (Qm rfl)<|Qb<|Qb<|x (Zn rfl)<|x (Qm rfl)<|Qe ?_
  exact ⟨(),⟨rfl,trivial⟩,hs915⟩
 rintro z g w20 hs20
 exact Ql ⟨[.bool true],⟨rfl,trivial⟩,rfl,(hs02.trans hs29).trans hs20⟩
theorem U4 {w:World}(hkb:Kb w 4096):QJ prog 12 [] w λr w'=>r=.bool true∧Step [] w w':=by
 refine QJ.of_W func12 rfl ntmps12 results12 (by simp) ?_
 refine Qc<|Qe<|QU (α:=Unit) [(0,4)] (λz=>[(0,.bool true)]) (λz w'=>Step [] w w') (by rfl) ?_ ?_
 ·refine Qw<|xl rfl<|xf<|(Qar hkb).mono ?_
  rintro r1 w1 ⟨rfl,hs1⟩
  refine Qb<|xl rfl<|xf<|(QaY (hkb.ext hs1)).mono ?_
  rintro r2 w2 ⟨rfl,hs2⟩
  refine x (Qm rfl)<|Qe ?_
  exact ⟨(),⟨rfl,trivial⟩,hs1.trans hs2⟩
 rintro z g w3 hs3
 exact Ql ⟨[.bool true],⟨rfl,trivial⟩,rfl,hs3⟩
end Go.Proofs.YtdffckgdcegpaaaGreatDoor
namespace Go.Lg
open Go.ChangeShapes Go.WideShapes Go.RowKit
section
variable {H:Type} {enc:TypeId×Value→H} {P:Program}
theorem q6 (hl:laidOutB P=true) {W W':World}(hS:Step [] W W') {sp:Nat→Bool}:∀{ts:List TypeId}{vs:LV}{ds:List (DataW H)}{ps:List MemPlace},
  (ts.all λt=>P.readableRec t && decide (t<P.types.size))=true→DataW.TrodAll enc P W 0 (λ_=>true) true ts vs ds ps→(∀x∈ps,x.block<W.heap.size)→(∀x∈ps,sp x.block=true)→DataW.TrodAll enc P W' 0 sp true ts vs ds ps
 | [],vs,ds,ps,_,h,_,_=>by
  obtain ⟨rfl,rfl,rfl⟩:=trodAll_nil h
  exact trodAll_mk0
 | t::ts,vs,ds,ps,hr,h,hlt,hsp=>by
  obtain ⟨v,vs1,d,ym,a,b,rfl,rfl,rfl,h1,h2⟩:=trodAll_cons h
  simp only[List.all_cons,Bool.and_eq_true,decide_eq_true_eq] at hr
  have hb:Below W.heap.size W W':=hS.below
  refine trodAll_cons_mk (WideElems.Trod_stays hl hr.1.1 hr.1.2 h1 (λx hx=>hb.same (hlt x (List.mem_append_left _ hx))) (λx hx=>hsp x (List.mem_append_left _ hx))) ?_
  exact q6 hl hS (by simpa using hr.2) h2 (λx hx=>hlt x (List.mem_append_right _ hx)) (λx hx=>hsp x (List.mem_append_right _ hx))
theorem QeI {f:Func}{s:ChangeSpec}{apart fresh handsOn again:Bool}{W W':World}{args:Array Value}{ds gs:List (DataW H)}{before:List MemPlace}{tb:TypeId}
  (hl:laidOutB P=true) (hread:(f.params.toList.all λt=>P.readableRec t && decide (t<P.types.size))=true) (hrt:f.resultTypes=#[tb]) (htb:P.underlying tb=some .bool) (hvr:s.vars=[])
  (hfn:s.fn H (ds++gs)={ results:=[.lit (.bool true)],args:=ds })
  (hW:DataW.Whole enc P f.params.toList s.vars apart W args.toList ds gs before) (hS:Step [] W W'):s.post enc P f apart fresh handsOn again W args (.bool true) W':=by
 have hlt:=hW.lt
 have hW':=hW
 obtain ⟨p,q,hA,hV,rfl,hz,hn⟩:=hW
 rw[hvr] at hV
 obtain ⟨rfl,rfl⟩:=trodVars_none hV
 rw[List.append_nil] at *
 have hargs:∀sp:Nat→Bool,(∀x∈p,sp x.block=true)→DataW.TrodAll enc P W' 0 sp true f.params.toList args.toList ds p:=λsp hsp=>q6 hl hS hread hA hlt hsp
 have hres:∀(b:Nat) (sp:Nat→Bool) (hd:Bool),DataW.TrodAll enc P W' b sp hd f.resultTypes.toList ((Value.bool true).resultList f.resultTypes.size) [.lit (.bool true)] []:=λb sp hd=>by
  rw[hrt];exact trodAll_mk1 (shut_bool htb true)
 have hb:Below W.heap.size W W':=hS.below
 have hvars:∀sp:Nat→Bool,DataW.TrodVars enc P W' sp s.vars ([]:List (DataW H)) []:=λsp=>by rw[hvr];rfl
 have hfn1:(s.fn H ds).results=[.lit (.bool true)]:=by rw[hfn]
 have hfn2:(s.fn H ds).args=ds:=by rw[hfn]
 have hfn3:(s.fn H ds).vars=[]:=by rw[hfn]
 have hok:∀(j:Nat) (t:TypeId) (r:Value),f.resultTypes[j]?=some t→((Value.bool true).resultList f.resultTypes.size)[j]?=some r→Value.okWide P W' .any 0 t r:=ok_one hrt rfl (okWide_bool_mk htb true)
 refine ⟨ds,[],p,[],p,[],hW',?_,?_,?_,?_,λ_=>⟨hok,[.lit (.bool true)]++ds,[],([]++p)++[],⟨[]++p,[],?_,?_,rfl,?_,?_⟩,?_⟩⟩
 ·rw[List.append_nil,hfn1];exact hres _ _ _
 ·rw[List.append_nil,hfn2];exact hargs _ (λx hx=>by simpa using hlt x hx)
 ·rw[List.append_nil,hfn3];exact hvars _
 ·exact World.keptBut_mono (λ_ f=>f.elim) (hb.frame (λ_=>False))
 ·exact trodAll_append (hargs _ (λ_ _=>rfl)) (hres _ _ _)
 ·exact hvars _
 ·intro b off hp
  have hp':MemPlace.cell b off∈p:=by simpa using hp
  rw[hb.frozen (p:=⟨b,off,none⟩) (hlt _ hp')]
  exact hz b off hp'
 ·intro ha
  have:=hn ha
  simpa using this
 ·intro x hx _
  simpa using hx
end
end Go.Lg
namespace Go.Proofs.YtdffckgdcegpaaaGreatDoor
open Go.ChangeShapes Go.WideShapes Go.RowKit Go.Lg
theorem QaO:∀(l:LV),(∀v∈l,∃n:Nat,v=.int .u8 (n:Int)∧n<256)→∃ns:LN,l=bys ns∧ns.length=l.length∧∀n∈ns,n<256
 | [],_=>⟨[],rfl,rfl,by simp⟩
 | v::l,h=>by
  obtain ⟨n,rfl,hn⟩:=h v List.mem_cons_self
  obtain ⟨ns,h1,h2,h3⟩:=QaO l (λv hv=>h v (List.mem_cons_of_mem _ hv))
  refine ⟨n::ns,by rw[h1];rfl,by simp[h2],λm hm=>?_⟩
  rcases List.mem_cons.1 hm with rfl | hm
  ·exact hn
  ·exact h3 m hm
theorem Qir {n:Int}(h:(Lit.int .u8 n).wf=true):∃m:Nat,n=m∧m<256:=by
 simp only[Lit.wf,Bool.and_eq_true,decide_eq_true_eq] at h
 rw[show IntKind.u8.min=0 from rfl,show IntKind.u8.max=255 from rfl] at h
 exact ⟨n.toNat,by omega,by omega⟩
open Go.Proofs.Tryz
theorem QiC {w:World}{b:Nat}{s:TypeId×Nat}(h:w.shape? b=some s):b<w.heap.size:=by
 unfold World.shape? at h
 cases hb:w.heap[b]? with
 | none=>simp[hb] at h
 | some o=>exact (Array.getElem?_eq_some_iff.1 hb).1
theorem Qhq {P:Program}{w:World}{base:Nat}{a:Addr}{e:TypeId}{n:Nat}(h:w.has P .any base a e n):a.block<w.heap.size:=by
 obtain ⟨_,_,row,cells,h1,_⟩:=h
 exact QiC h1
theorem QgB {P:Program}{w:World}{base:Nat}{t e:TypeId}{a:Addr}{n c:Nat}(ht:P.underlying t=some (.slice e)) (h:Cell.okWide P w .any base t (.slice (some a) n c)):a.block<w.heap.size:=by
 simp only[Cell.okWide,Cell.ok,ht] at h
 exact Qhq h.2.2
theorem QeF {α:Type}{p:Nat→α→Prop}:∀(n:Nat),(∀i,i<n→∃e,p i e)→∃l:List α,l.length=n∧∀i (h:i<l.length),p i (l[i]'h)
 | 0,_=>⟨[],rfl,λi h=>by simp at h⟩
 | n+1,h=>by
  obtain ⟨l,h1,h2⟩:=QeF n (λi hi=>h i (by omega))
  obtain ⟨e,he⟩:=h n (by omega)
  refine ⟨l++[e],by simp[h1],λi hi=>?_⟩
  by_cases hil:i<l.length
  ·rw[List.getElem_append_left hil];exact h2 i hil
  ·have:i=n:=by simp at hi;omega
   subst this
   rw[List.getElem_append_right (by omega)]
   simpa[h1] using he
theorem Uy {α:Type}{f:α→Option Value}:∀{L:List α}{l:LV},L.mapM f=some l→l.length=L.length∧∀(i:Nat) (a:α),L[i]?=some a→f a=l[i]?
 | [],l,h=>by
  simp at h
  subst h
  exact ⟨rfl,λi a h=>by simp at h⟩
 | x::L,l,h=>by
  simp only[List.mapM_cons,Option.bind_eq_bind,Option.pure_def,Option.bind_eq_some_iff] at h
  obtain ⟨v,hv,l1,h1,h2⟩:=h
  cases h2
  obtain ⟨h3,h4⟩:=Uy h1
  refine ⟨by simp[h3],λi a hi=>?_⟩
  cases i with
  | zero=>simp at hi;subst hi;simpa using hv
  | succ i=>simpa using h4 i a (by simpa using hi)
def kT (P:Program) (k:IntKind):Nat→TypeId→Bool
 | 0,_=>false
 | m+1,t=>match P.underlying t with
  | some (.int k')=>k' == k
  | some (.array n e)=>kT P k m e && decide (0<P.cellsOf e) && decide (P.cellsOf t=n*P.cellsOf e)
  | some (.struct fs)=>(List.range (P.cellsOf t)).all λj=>fs.toList.any λf=>kT P k m f.type && decide (f.offset≤j∧j<f.offset+P.cellsOf f.type)
  | _=>false
theorem yd {cs:LV}{o n j:Nat}{c:Value}(h:cs[j]?=some c) (h1:o≤j) (h2:j<o+n):c∈(cs.drop o).take n:=by
 refine List.mem_of_getElem? (i:=j - o) ?_
 rw[List.getElem?_take,if_pos (by omega),List.getElem?_drop,show o+(j - o)=j by omega]
 exact h
section
variable {H:Type} {enc:TypeId×Value→H} {P:Program} {W:World} {base b0:Nat} {sp:Nat→Bool} {held:Bool}
theorem KT {k:IntKind}:∀(m:Nat) {t:TypeId}{cs:LV}{fuel:Nat}{x:DataW H×List MemPlace},kT P k m t=true→DataW.trod enc P W b0 sp held fuel t cs=some x→∀c∈cs,∃n,c=.int k n∧(Lit.int k n).wf=true
 | 0,_,_,_,_,h,_,_,_=>by cases h
 | m+1,t,cs,fuel,x,h,hf,c,hc=>by
  unfold kT at h
  obtain ⟨j,hj,hjc⟩:=List.getElem_of_mem hc
  have hj':cs[j]?=some c:=by rw[List.getElem?_eq_getElem hj,hjc]
  split at h
  ·rename_i k' hu
   have hk:k'=k:=by simpa using h
   subst hk
   obtain ⟨n,h1,_,h2⟩:=DataW.trod_int hu hf
   rw[h1] at hc
   exact ⟨n,List.mem_singleton.1 hc,h2⟩
  ·rename_i n e hu
   simp only[Bool.and_eq_true,decide_eq_true_eq] at h
   obtain ⟨⟨h1,h2⟩,h3⟩:=h
   obtain ⟨xs,m',_,_,hl,hxl,hx⟩:=DataW.trod_array hu hf
   have hdiv:=Nat.div_add_mod j (P.cellsOf e)
   have hmod:=Nat.mod_lt j h2
   have hi:j / P.cellsOf e<n:=by
    refine (Nat.div_lt_iff_lt_mul h2).2 ?_
    omega
   have hxi:=hx (j / P.cellsOf e) hi
   rw[List.getElem?_eq_getElem (show j / P.cellsOf e<xs.length by omega)] at hxi
   rw[Nat.mul_comm] at hdiv
   exact KT m h1 hxi c (yd hj' (by omega) (by omega))
  ·rename_i fs hu
   obtain ⟨xs,m',_,_,hl,hxl,hx⟩:=DataW.trod_struct hu hf
   have h1:=List.all_eq_true.1 h j (List.mem_range.2 (by omega))
   obtain ⟨f,hfm,h2⟩:=List.any_eq_true.1 h1
   simp only[Bool.and_eq_true,decide_eq_true_eq] at h2
   obtain ⟨i,hi,hif⟩:=List.getElem_of_mem hfm
   have hi2:i<fs.size:=by simpa using hi
   have hfi:fs[i]?=some f:=by rw[Array.getElem?_eq_getElem hi2,←hif];simp
   have hxi:=hx i f hfi
   rw[List.getElem?_eq_getElem (show i<xs.length by omega)] at hxi
   exact KT m h2.1 hxi c (yd hj' h2.2.1 h2.2.2)
  ·cases h
theorem K3 {k:IntKind}{m:Nat}{fs:Array Field}{cs:LV}{xs:List (DataW H×List MemPlace)}{m':Nat}(hxl:xs.length=fs.size)
  (hx:∀(i:Nat) (f:Field),fs[i]?=some f→DataW.trod enc P W b0 sp held m' f.type ((cs.drop f.offset).take (P.cellsOf f.type))=xs[i]?) {i j:Nat} {f:Field} {c:Value} (hf:fs[i]?=some f) (hk:kT P k m f.type=true) (h1:f.offset≤j) (h2:j<f.offset+P.cellsOf f.type) (hc:cs[j]?=some c) :
  ∃n,c=.int k n∧(Lit.int k n).wf=true:=by
 have hxi:=hx i f hf
 have hi:i<fs.size:=(Array.getElem?_eq_some_iff.1 hf).1
 rw[List.getElem?_eq_getElem (show i<xs.length by omega)] at hxi
 exact KT m hk hxi c (yd hc h1 h2)
theorem Qdw {c:Value}(h:∃n,c=.int .u8 n∧(Lit.int .u8 n).wf=true):∃n:Nat,c=.int .u8 (n:Int)∧n<256:=by
 obtain ⟨n,rfl,h1⟩:=h
 obtain ⟨m,rfl,h2⟩:=Qir h1
 exact ⟨m,rfl,h2⟩
end
theorem Qki {P:Program}{W:World}{base:Nat}{ts:List TypeId}{cs:Array Value}(h:∀(i:Nat) (v:Value),cs[i]?=some v→∃u,ts[i % ts.length]?=some u∧Cell.okWide P W .any base u v) (i:Nat) (t:TypeId) (v:Value) (hv:cs[i]?=some v) (ht:ts[i % ts.length]?=some t):Cell.okWide P W .any base t v:=by
 obtain ⟨u,hu,k⟩:=h i v hv
 rw[ht] at hu
 cases hu
 exact k
theorem Qjg {H:Type}{enc:TypeId×Value→H}{P:Program}{W:World}{b0 m:Nat}{sp:Nat→Bool}{held:Bool}{fs:Array Field}{cs:LV}{xs:List (DataW H×List MemPlace)}
  (h:∀(i:Nat) (f:Field),fs[i]?=some f→DataW.trod enc P W b0 sp held m f.type ((cs.drop f.offset).take (P.cellsOf f.type))=xs[i]?) (i:Nat) {f:Field} {t o:Nat} {c:Value} (hf:fs[i]?=some f) (ht:f.type=t) (ho:f.offset=o) (hc:P.cellsOf t=1) (hcs:(cs.drop o).take 1=[c]) (hi:i<xs.length) :
  DataW.trod enc P W b0 sp held m t [c]=some (xs[i]'hi):=by
 have e:=h i f hf
 rw[ht,ho,hc,hcs] at e
 rw[e];simp[hi]
theorem Qj5 {W:World}{l:List (String×DataW Unit)}{a b:String×DataW Unit}(hl:l=[a,b,("internal/strconv.uint64pow10",Lib.tabData .u64 Lib.pow10Tab)]) (h:laidMetH prog l W) (hp:(l.all λx=>x.2.handleName?.isNone)=true):Tb W:=by
 rw[Go.MakeChecks.laidMetH_plain _ _ _ hp,hl] at h
 exact Lib.tabIs_of_head (n:=20) (g:=0) (by kernel_rfl) (t:=410) (by kernel_rfl) (by kernel_rfl) (e:=340) (by kernel_rfl) (by kernel_rfl) (by kernel_rfl) h.tail.tail
structure PwV where
 ns:LN
 ad:Option Addr
 n:Nat
 cp:Nat
 f0:Int
 f1:Int
 f2:Int
 bd:Int
def PwV.pl (l:PwV) (rs:List X4V):PlV:=⟨l.ns,.slice l.ad l.n l.cp,rs,l.f0,l.f1,l.f2,l.bd⟩
abbrev YQ (l:PwV):LV:=bys l.ns++[.slice l.ad l.n l.cp,.int .i8 l.f0,.int .i8 l.f1,.int .i8 l.f2,.int .i8 l.bd]
structure PwA (w:World) (l:PwV):Prop where
 n:l.ns.length=147
 b:∀n∈l.ns,n<256
 f0:i8R l.f0
 f1:i8R l.f1
 f2:i8R l.f2
 bd:i8R l.bd
 r:l.n≤4→∃rs:List X4V,rs.length=l.n∧Zj [] w.heap (.slice l.ad l.n l.cp) l.n 4 (rs.flatMap Yw)
theorem PwA.pl {w w':World}{l:PwV}(h:PwA w l) (hs:Step [] w w') (hn:l.n≤4):∃rs,PlA [] w'.heap (l.pl rs)∧rs.length=l.n:=by
 obtain ⟨rs,h1,h2⟩:=h.r hn
 exact ⟨rs,⟨h.n,h.b,by show Zj _ _ _ rs.length 4 _;rw[h1];exact h2.ext hs,h.f0,h.f1,h.f2,h.bd⟩,h1⟩
theorem Qkc {l:PwV}(h:l.ns.length=147):(YQ l)[147]?=some (.slice l.ad l.n l.cp):=by
 show (YQ l)[147+0]?=_
 rw[YQ,List.getElem?_append_right (by rw[YI];omega),YI,h,Nat.add_sub_cancel_left];rfl
theorem QbG {c:Value}(h:∃n,c=.int .i8 n∧(Lit.int .i8 n).wf=true):∃n:Int,c=.int .i8 n∧i8R n:=by
 obtain ⟨n,rfl,h⟩:=h
 simp only[Lit.wf,Bool.and_eq_true,decide_eq_true_eq] at h
 rw[show IntKind.i8.min=-128 from rfl,show IntKind.i8.max=127 from rfl] at h
 exact ⟨n,rfl,by omega⟩
def Qij (P:Program) (fs:Array Field) (n:Nat):Bool:=(List.range n).all λj=>fs.toList.any λf=>kT P .u8 5 f.type && decide (f.offset≤j∧j<f.offset+P.cellsOf f.type)
section
variable {H:Type} {enc:TypeId×Value→H} {P:Program} {W:World} {base b0:Nat} {sp:Nat→Bool} {held:Bool}
theorem QfO {fs:Array Field}{n m:Nat}{cs:LV}{xs:List (DataW H×List MemPlace)}(h:Qij P fs n=true) (hxl:xs.length=fs.size)
  (hx:∀(i:Nat) (f:Field),fs[i]?=some f→DataW.trod enc P W b0 sp held m f.type ((cs.drop f.offset).take (P.cellsOf f.type))=xs[i]?) {j:Nat} {c:Value} (hj:j<n) (hc:cs[j]?=some c):∃k:Nat,c=.int .u8 (k:Int)∧k<256:=by
 have h1:=List.all_eq_true.1 h j (List.mem_range.2 hj)
 obtain ⟨f,hfm,h2⟩:=List.any_eq_true.1 h1
 simp only[Bool.and_eq_true,decide_eq_true_eq] at h2
 obtain ⟨i,hi,hif⟩:=List.getElem_of_mem hfm
 have hi2:i<fs.size:=by simpa using hi
 have hfi:fs[i]?=some f:=by rw[Array.getElem?_eq_getElem hi2,←hif];simp
 exact Qdw (K3 hxl hx hfi h2.1 h2.2.1 h2.2.2 hc)
theorem QkK {t e:TypeId}{c:Value}{fuel:Nat}{x:DataW H×List MemPlace}(ht:P.underlying t=some (.slice e)) (he:kT P .u8 5 e=true) (hc:P.cellsOf e=4)
  (hok:Cell.okWide P W .any base t c) (htr:DataW.trod enc P W b0 sp held fuel t [c]=some x):∃a n cp,c=.slice a n cp∧(n≤12→∃u:List X4V,u.length=n∧Zj [] W.heap (.slice a n cp) n 4 (u.flatMap Yw)):=by
 rcases DataW.trod_slice ht htr with ⟨hcs,_⟩ | ⟨a,len,cap,elems,rest,m,_,hcs,_,_,hl,_,hel,hread,_,_⟩
 ·simp at hcs
  subst hcs
  exact ⟨none,0,0,rfl,λ_=>⟨[],rfl,Zj.nil _ _ _⟩⟩
 ·simp at hcs
  subst hcs
  refine ⟨some a,len,cap,rfl,λh12=>?_⟩
  have each:∀i,i<len→∃d:X4V,∀r v,(Yw d)[r]?=some v→W.cell? (a.add (i*4+r))=some v:=by
   intro i hi
   have hr:=hread i hi
   rw[hc,List.getElem?_eq_getElem (show i<elems.length by omega)] at hr
   obtain ⟨cs,hcs,htd⟩:=Option.bind_eq_some_iff.1 hr
   have hall:=KT 5 he htd
   obtain ⟨ns,h1,h2,h3⟩:=QaO cs (λv hv=>Qdw (hall v hv))
   unfold World.cells? at hcs
   split at hcs
   ·have hlen:cs.length=4:=by
     simpa using (Uy hcs).1
    refine ⟨⟨ns,by omega,h3⟩,λr v hv=>?_⟩
    have hv':cs[r]?=some v:=by rw[h1];exact hv
    have hrl:r<4:=by have:=(List.getElem?_eq_some_iff.1 hv').1;omega
    have h4:=(Uy hcs).2 r r (by simp[hrl])
    rw[Lg.Addr.add_add,hv'] at h4
    exact h4
   ·cases hcs
  obtain ⟨u,hul,hu⟩:=QeF len each
  refine ⟨u,hul,?_⟩
  have hfl:(u.flatMap Yw).length=u.length*4:=Go.Lg.JK Yw 4 Ug u
  refine ⟨by rw[hfl,hul],by omega,.inr ⟨a,cap,rfl,by omega,λ_ _=>by simp,λ_ _=>QgB ht hok,λj v hv=>?_⟩⟩
  have hj:j<u.length*4:=by
   rw[←hfl]
   exact (List.getElem?_eq_some_iff.1 hv).1
  have hi:j / 4<u.length:=by omega
  have hat:=XH Yw 4 Ug u (j / 4) hi
  have hjr:j=j / 4*4+j % 4:=by omega
  have h3:(Yw (u[j / 4]'hi))[j % 4]?=some v:=by
   rw[←hat,List.getElem?_take,if_pos (Nat.mod_lt _ (by omega)),List.getElem?_drop,←hjr];exact hv
  rw[←X7]
  have:=hu (j / 4) hi (j % 4) v h3
  rw[←hjr] at this
  exact this
theorem Qc3 {v:Value}{d:DataW H}{ps:List MemPlace}{t tp te:Nat}{fs:Array Field}{f7 f8 f9:Field}(hu:P.underlying t=some (.struct fs)) (hts':(P.cellTypes P.depth t).map (λts=>(ts.length,ts[147]?))=some (152,some tp)) (hc:P.cellsOf t=152)
  (g7:fs[7]?=some f7) (g8:fs[8]?=some f8) (g9:fs[9]?=some f9) (h7t:f7.type=tp) (o7:f7.offset=147) (o8:f8.offset=148) (o9:f9.offset=151) (c7:P.cellsOf tp=1) (c8:P.cellsOf f8.type=3) (c9:P.cellsOf f9.type=1)
  (kb:Qij P fs 147=true) (k8:kT P .i8 5 f8.type=true) (k9:kT P .i8 5 f9.type=true) (hup:P.underlying tp=some (.slice te)) (hke:kT P .u8 5 te=true) (hce:P.cellsOf te=4)
  (hval:Value.okWide P W .any base t v) (h:DataW.Trod enc P W b0 sp held t v d ps):∃l:PwV,v=.agg (YQ l).toArray∧PwA W l:=by
 simp only[Value.okWide,hu] at hval
 obtain ⟨cs,rfl,hsz,ts,hts,_,hcell⟩:=hval
 rw[hts] at hts'
 have hpr:=Option.some.inj hts'
 have htl:ts.length=152:=congrArg Prod.fst hpr
 have ht7:ts[147]?=some tp:=congrArg Prod.snd hpr
 rw[hc] at hsz
 obtain ⟨l⟩:=cs
 have hl:l.length=152:=hsz
 obtain ⟨fuel,hf⟩:=h
 obtain ⟨xs,m,_,_,_,hxl,hfld⟩:=DataW.trod_struct hu hf
 have hf':∀(i:Nat) (f:Field),fs[i]?=some f→DataW.trod enc P W b0 sp held m f.type ((l.drop f.offset).take (P.cellsOf f.type))=xs[i]?:=hfld
 have h7s:7<fs.size:=(Array.getElem?_eq_some_iff.1 g7).1
 have g0:∀c∈l.take 147,∃n:Nat,c=.int .u8 (n:Int)∧n<256:=λc hm=>by
  obtain ⟨j,hj,hjc⟩:=List.getElem_of_mem hm
  have hj2:j<147:=by simp at hj;omega
  have hjc':l[j]?=some c:=by
   rw[List.getElem_take] at hjc
   rw[List.getElem?_eq_getElem (by omega),hjc]
  exact QfO kb hxl hf' hj2 hjc'
 obtain ⟨ns,e1,e2,e3⟩:=QaO _ g0
 have hnl:ns.length=147:=by rw[e2];simp;omega
 have at5:∀j,j<152→∃c,l[j]?=some c:=λj hj=>⟨l[j]'(by omega),List.getElem?_eq_getElem (by omega)⟩
 obtain ⟨x1,q1⟩:=at5 147 (by omega)
 obtain ⟨x2,q2⟩:=at5 148 (by omega)
 obtain ⟨x3,q3⟩:=at5 149 (by omega)
 obtain ⟨x4,q4⟩:=at5 150 (by omega)
 obtain ⟨x5,q5⟩:=at5 151 (by omega)
 have hld:l.drop 147=[x1,x2,x3,x4,x5]:=by
  apply List.ext_getElem?
  intro i
  rw[List.getElem?_drop]
  match i with
  | 0=>exact q1
  | 1=>exact q2
  | 2=>exact q3
  | 3=>exact q4
  | 4=>exact q5
  | i+5=>rw[List.getElem?_eq_none (by omega)];rfl
 obtain ⟨y2,rfl,z2⟩:=QbG (K3 hxl hf' g8 k8 (by omega) (by omega) q2)
 obtain ⟨y3,rfl,z3⟩:=QbG (K3 hxl hf' g8 k8 (by omega) (by omega) q3)
 obtain ⟨y4,rfl,z4⟩:=QbG (K3 hxl hf' g8 k8 (by omega) (by omega) q4)
 obtain ⟨y5,rfl,z5⟩:=QbG (K3 hxl hf' g9 k9 (by omega) (by omega) q5)
 have w7:=Qki hcell 147 tp x1 (by simpa using q1) (by rw[htl];exact ht7)
 have t7:=Qjg (c:=x1) hf' 7 g7 h7t o7 c7 (by rw[hld];rfl) (by omega)
 obtain ⟨a,n,cp,rfl,hP⟩:=QkK hup hke hce w7 t7
 refine ⟨⟨ns,a,n,cp,y2,y3,y4,y5⟩,?_,hnl,e3,z2,z3,z4,z5,λh3=>hP (by have h4:n≤4:=h3;omega)⟩
 show Value.agg l.toArray=.agg (bys ns++_).toArray
 rw[←e1,←hld,List.take_append_drop]
end
set_option maxRecDepth 100000 in
theorem QkL {H:Type}{enc:TypeId×Value→H}{W:World}{base b0:Nat}{sp:Nat→Bool}{held:Bool}{v:Value}{d:DataW H}{ps:List MemPlace}(hval:Value.okWide prog W .any base 36 v) (h:DataW.Trod enc prog W b0 sp held 36 v d ps) :
  ∃l:PwV,v=.agg (YQ l).toArray∧PwA W l :=
 Qc3 underlying36 (tp:=32) (by kernel_rfl) (by kernel_rfl) rfl rfl rfl rfl rfl rfl rfl (by kernel_rfl) (by kernel_rfl) (by kernel_rfl) (by kernel_rfl) (by kernel_rfl) (by kernel_rfl) underlying32 (by kernel_rfl) (by kernel_rfl) hval h
theorem Qe3 {L:LN}{w:World}{v:Value}{l:LI}(h:QL L w.heap v l) (x:Int) :
  QJ prog 21 [v,.int .i64 x] w λr w'=>r=.bool (decide (x∈l))∧w'=w:=by
 have hle:=h.le
 refine QJ.of_W func21 rfl ntmps21 results21 (by simp) ?_
 refine Qc<|Lg.Qe<|Qf<|Qc<|Lg.Qe<|Qg<|QA (α:=Nat) [(4,17)] (λk=>[(5,.int .i64 k)]) (λk w'=>w'=w∧k≤l.length∧(x∈l↔x∈l.drop k)) (λk=>l.length - k) (by rfl) 0 ⟨rfl,trivial⟩ ⟨rfl,Nat.zero_le _,by simp⟩ ?_
 rintro k g w' ⟨rfl,hk,hm⟩
 refine Qf<|Qc<|Lg.Qb<|Lg.Qb<|Lg.x (Qr h rfl)<|Lg.x (QB rfl rfl)<|xe ?_
 refine QG rfl (λh9=>?_) (λh9=>?_)
 ·refine Qx ?_
  refine Qc<|Lg.Qe<|Ql ⟨[.bool false],⟨rfl,trivial⟩,?_,rfl⟩
  rw[List.drop_of_length_le (by omega)] at hm
  simp[tup,hm]
 have hlt:k<l.length:=by omega
 have hd:=QX hlt
 refine Qi<|Qf<|Qg<|Qc<|Lg.Qb<|Lg.Qb<|xii h rfl rfl hlt λa14 h14=>Lg.x (Qv h14 rfl)<|Lg.Qb<|Lg.x (Q7 rfl rfl)<|xe ?_
 refine Q4 rfl (λh17=>?_) (λh17=>?_)
 ·refine Qc<|Lg.Qe<|Ql ⟨[.bool true],⟨rfl,trivial⟩,?_,rfl⟩
  have:x∈l:=by rw[hm,hd,h17];exact List.mem_cons_self
  simp[tup,this]
 refine Qi<|Qw<|Lg.Qb<|Lg.QO rfl rfl<|Lg.Qe<|⟨k+1,by omega,⟨rfl,trivial⟩,rfl,by omega,?_⟩
 rw[hm,hd,List.mem_cons]
 exact ⟨λh=>h.resolve_left (λe=>h17 e.symm),.inr⟩
theorem Qf1 {w:World}{l:PwV}(h:PwA w l):QJ prog 13 [.agg (YQ l).toArray] w λr w'=>r=.bool (decide (l.n≤4))∧Step [] w w':=by
 have g147:=Qkc h.n
 refine QJ.of_W func13 rfl ntmps13 results13 (by simp) ?_
 refine Qc<|xl rfl<|QQ (us:=YQ l) rfl λb1 w1 hs1 hb1 hB1=>Qe<|Qc<|x (Qa rfl)<|x (Qd hB1 rfl g147)<|x (yM rfl)<|x (XX rfl rfl)<|Qe<|Ql ⟨[_],⟨rfl,trivial⟩,?_,hs1⟩
 exact congrArg Value.bool (decide_eq_decide.2 (by omega))
theorem QeD {L L':LN}{w:World}{v v':Value}{a b:LI}(h:QL L w.heap v a) (h':QL L' w.heap v' b):QJ prog 60 [v,v'] w λr w'=>r=.bool (mts a b)∧w'=w:=by
 have hle:=h.le
 refine QJ.of_W func60 rfl ntmps60 results60 (by simp) ?_
 refine Qc<|Qe<|Qf<|Qc<|Qe<|Qg<|QA (α:=Nat) [(4,17)] (λk=>[(5,.int .i64 k)]) (λk w'=>w'=w∧k≤a.length∧mts a b=mts (a.drop k) b) (λk=>a.length - k) (by rfl) 0 ⟨rfl,trivial⟩ ⟨rfl,Nat.zero_le _,rfl⟩ ?_
 rintro k g w' ⟨rfl,hk,hm⟩
 refine Qf<|Qc<|Qb<|Qb<|x (Qr h rfl)<|x (QB rfl rfl)<|xe ?_
 refine QG rfl (λh9=>?_) (λh9=>?_)
 ·refine Qx ?_
  rw[List.drop_of_length_le (by omega)] at hm
  refine Qc<|Qe ?_
  exact Ql ⟨[.bool false],⟨rfl,trivial⟩,congrArg Value.bool hm.symm,rfl⟩
 have hlt:k<a.length:=by omega
 have hmc:mts (a.drop k) b=(decide ((a[k]'hlt)∈b) || mts (a.drop (k+1)) b):=by rw[QX hlt];rfl
 refine Qi<|Qf<|Qg<|Qc<|Qb<|Qb<|Qb<|xii (i:=k) h rfl rfl hlt λa15 h15=>x (Qv h15 rfl)<|xl rfl<|xf<|(Qe3 h' (a[k]'hlt)).mono ?_
 rintro r2 w' ⟨rfl,rfl⟩
 refine xe ?_
 refine Q4 rfl (λh17=>?_) (λh17=>?_)
 ·refine Qc<|Qe<|Ql ⟨[.bool true],⟨rfl,trivial⟩,?_,rfl⟩
  rw[hm,hmc,decide_eq_true h17];rfl
 refine Qi<|Qw<|Qb<|QO rfl rfl<|Qe<|⟨k+1,by omega,⟨rfl,trivial⟩,rfl,by omega,?_⟩
 rw[hm,hmc,decide_eq_false h17,Bool.false_or]
theorem KR (co:List YE):∀(l:List YE) (i:Nat),(lmR co i l).length=l.length
 | [],_=>rfl
 | _::l,i=>by rw[lmR,List.length_cons,List.length_cons,KR co l]
theorem JV (kd:Int):∀(l:List (List (Int×Int))) (i:Nat),(lmP kd i l).length=l.length
 | [],_=>rfl
 | _::l,i=>by rw[lmP,List.length_cons,List.length_cons,JV kd l]
theorem y8 (co:List YE):∀(l:List YE) (i j:Nat) (h:j<l.length),(lmR co i l).take (j+1)=(lmR co i l).take j++[⟨1,((i+j:Nat):Int),ixs (λy:YE=>mts (l[j]'h).a.al y.a.al) 0 co⟩]
 | x::l,i,0,_=>by simp[lmR]
 | x::l,i,j+1,h=>by
  rw[lmR,List.take_succ_cons,List.take_succ_cons,y8 co l (i+1) j (by simpa using h),show i+1+j=i+(j+1) by omega]
  rfl
theorem UA (kd:Int):∀(l:List (List (Int×Int))) (i j:Nat) (h:j<l.length),(lmP kd i l).take (j+1)=(lmP kd i l).take j++[⟨kd,((i+j:Nat):Int),(l[j]'h).map (·.1)⟩]
 | x::l,i,0,_=>by simp[lmP]
 | x::l,i,j+1,h=>by
  rw[lmP,List.take_succ_cons,List.take_succ_cons,UA kd l (i+1) j (by simpa using h),show i+1+j=i+(j+1) by omega]
  rfl
theorem QeU (q:YE→Bool):∀(l:List IV) (i:Nat),ixs q i (l.map IV.it)=ixs (λv:IV=>q v.it) i l
 | [],_=>rfl
 | v::l,i=>by rw[List.map_cons,ixs,ixs,QeU q l (i+1)]
theorem Qj9 (c:CL) {i:Nat}(h:i<c.cel.rq.length) (h':i<c.rq.length):c.cel.rq[i]'h=(c.rq[i]'h').it:=List.getElem_map (f:=λx:IV=>x.it) (l:=c.rq) (i:=i) (h:=h)
theorem Qjl (c:CL) {i:Nat}(h:i<(c.cel.ex.map (·.ls)).length) (h':i<c.ex.length):(c.cel.ex.map (·.ls))[i]'h=(c.ex[i]'h').ls:=by
 rw[List.getElem_map]
 exact congrArg zg.ls (List.getElem_map (f:=λx:XV=>x.x) (l:=c.ex) (i:=i) (h:=by simpa using h'))
theorem Qju (c:CL) {i:Nat}(h:i<(c.cel.cs.map (·.ts)).length) (h':i<c.cs.length):(c.cel.cs.map (·.ts))[i]'h=(c.cs[i]'h').ts:=by
 rw[List.getElem_map]
 exact congrArg Y3.ts (List.getElem_map (f:=λx:KV=>x.k) (l:=c.cs) (i:=i) (h:=by simpa using h'))
set_option maxHeartbeats 8000000 in
theorem zM {w:World}{c:CL}(h:Zu [] w.heap c) (hc:c.co.length≤8) (hn:c.rq.length+c.ex.length+c.cs.length≤1000) :
  QJ prog 15 [c.val] w λr w'=>Step [] w w'∧∃l:List MV,MvN w.heap.size w' r l∧l.map MV.m=lmd c.cel:=by
 have hxl:∀q∈c.ex,q.ls.length≤1099511627776:=λq hq=>(h.ex.each q hq).le
 have hkl:∀q∈c.cs,q.ts.length≤1099511627776:=λq hq=>(h.cs.each q hq).le
 refine QJ.of_W func15 rfl ntmps15 results15 (by simp) ?_
 refine Qc<|xl rfl<|QQ (us:=c.cells) rfl λb1 w1 hs1 hb1 hB1=>Qe<|Qc<|Qe ?_
 have hz1:=hs1.size
 have h1:=h.ext hs1
 refine QU (α:=Value×List MV) [(3,6),(13,53)] (λz=>[(3,z.1)]) (λz w'=>Step [] w1 w'∧MvN w1.heap.size w' z.1 z.2∧z.2.map MV.m=lmR c.cel.co 0 c.cel.rq) (by rfl) ?_ ?_
 ·refine Qc<|Qe<|Qg<|QA (α:=Nat×Value×List MV) [(3,6),(13,53)] (λz=>[(3,z.2.1),(4,.int .i64 z.1)]) (λz w'=>z.1≤c.rq.length∧Step [] w1 w'∧MvN w1.heap.size w' z.2.1 z.2.2∧z.2.2.map MV.m=(lmR c.cel.co 0 c.cel.rq).take z.1) (λz=>c.rq.length - z.1) (by rfl) (0,Zb,[]) ⟨rfl,rfl,trivial⟩
   ⟨Nat.zero_le _,Step.refl _ _,ZN.nil,rfl⟩ ?_
  rintro ⟨i,v,lm⟩ g w2 ⟨hi,hs2,hM2,hlm⟩
  simp only[] at hi hM2 hlm
  have h2:=h1.ext hs2
  have hB12:=hB1.ext hs2
  have hz2:=hs2.size
  have hrl:c.cel.rq.length=c.rq.length:=List.length_map ..
  have hll:lm.length≤c.rq.length:=by
   have e:=congrArg List.length hlm
   rw[List.length_map,List.length_take] at e
   omega
  refine Qf<|Qc<|Qb<|x (Qa rfl)<|x (Qd hB12 rfl rfl)<|x (Qr h2.rq.arr rfl)<|x (QB rfl rfl)<|xe ?_
  refine QG rfl (λh17=>?_) (λh17=>?_)
  ·refine Qx ?_
   have hie:c.rq.length≤i:=by have h18:¬(i:Int)<(c.rq.length:Int):=h17;omega
   rw[List.take_of_length_le (by rw[KR,hrl];exact hie)] at hlm
   exact ⟨(v,lm),⟨rfl,trivial⟩,hs2,hM2,hlm⟩
  have hlt:i<c.rq.length:=by have h18:(i:Int)<(c.rq.length:Int):=h17;omega
  have htk:=y8 c.cel.co c.cel.rq 0 i (by omega)
  have hit:c.cel.rq[i]'(by omega)=(c.rq[i]'hlt).it:=Qj9 c _ hlt
  rw[hit,show c.cel.co=c.co.map IV.it from rfl,QeU,Nat.zero_add] at htk
  have hmem:=List.getElem_mem hlt
  refine Zd (c.rq[i]'hlt) λq hq=>?_
  rw[hq] at htk hmem
  refine Qi<|Qf<|Qg<|Qc<|Qb<|x (QE ⟨rfl,rfl,trivial⟩)<|xl rfl<|Qt (us:=[.int .i64 0,.int .i64 0,nS]) rfl λb5 w3 hs3 hb5 hB5=>xl rfl<|Qn (us:=[.int .i64 1,.int .i64 i,nS]) hB5 rfl rfl rfl rfl ⟨rfl,rfl,rfl,trivial⟩ λw4 hs4 hB54=>xe ?_
  have hs24:Step [] w2 w4:=hs3.then1 hs4 hb5
  have hz24:=hs24.size
  have hl5:=hB54.lt
  have h4:=h2.ext hs24
  have hB14:=hB12.ext hs24
  have hl1:=hB12.lt
  have n15:b1∉[b5]:=by simp only[List.mem_singleton];omega
  have up5:∀b∈[b5],b∈([]:LN)∨w2.heap.size≤b:=λb hb=>.inr (by rw[List.mem_singleton.1 hb];exact hb5)
  have h45:Zu [b5] w4.heap c:=(h2.up up5).ext hs24
  refine Qf<|Qc<|Qe<|Qg<|QA (α:=Nat×Value) [(6,6),(22,49)] (λz=>[(6,.int .i64 z.1)]) (λz w'=>z.1≤c.co.length∧Step [b5] w4 w'∧Q2 w'.heap b5 39 [.int .i64 1,.int .i64 i,z.2]∧Qu 3 w4.heap.size w' z.2 (ixs (λy:IV=>mts q.p.a.al y.p.a.al) 0 (c.co.take z.1))) (λz=>c.co.length - z.1) (by rfl) (0,Zb) ⟨rfl,trivial⟩
   ⟨Nat.zero_le _,Step.refl _ _,hB54,QP _ _ _ _⟩ ?_
  rintro ⟨k,vl⟩ g w5 ⟨hk,hs5,hB55,ho5⟩
  simp only[] at hk hB55 ho5
  have h5:=h45.st hs5
  have hB15:=hB14.step hs5 n15
  have hz5:=hs5.size
  have hlen:=KU (λy:IV=>mts q.p.a.al y.p.a.al) (c.co.take k) 0
  rw[List.length_take] at hlen
  have hgl:=Qk ho5
  have hn5:b5∉ob vl:=QM ho5 hl5
  refine Qf<|Qc<|Qb<|x (Qa rfl)<|x (Qd hB15 rfl rfl)<|x (Qr h5.co.arr rfl)<|x (QB rfl rfl)<|xe ?_
  refine QG rfl (λh26=>?_) (λh26=>?_)
  ·refine Qx ?_
   have hke:c.co.length≤k:=by have h27:¬(k:Int)<(c.co.length:Int):=h26;omega
   rw[List.take_of_length_le hke] at ho5 hlen
   have hco:ixs (λv:IV=>mts q.it.a.al v.it.a.al) 0 c.co=ixs (λy:IV=>mts q.p.a.al y.p.a.al) 0 c.co:=rfl
   rw[hco] at htk
   refine Zd (ixs (λy:IV=>mts q.p.a.al y.p.a.al) 0 c.co) λcs hcs=>?_
   rw[hcs] at ho5 hlen htk
   have hs25:Step [] w2 w5:=hs24.then1 hs5 hb5
   have hM5:=hM2.ext hs25
   refine Qw<|Qb<|x (Qq hB55 rfl rfl)<|xl rfl<|QD (us:=[Zp ⟨1,i,vl,cs⟩]) rfl rfl (by decide) (by exact (by decide:1*3≤1000000)) ⟨rfl,rfl,trivial⟩ λb52 w6 hs6 hb52 hB52=>?_
   have hz6:=hs6.size
   refine xl rfl<|QZ (news:=Zp ⟨1,i,vl,cs⟩) (L:=[]) (Qs hM5.own hs6) rfl rfl rfl (hB52.at (by simp)) (Ua (q:=⟨1,i,vl,cs⟩) (QH ho5)) (by omega) (by omega) λv7 w7 ho7 hs7 hn7=>Qe ?_
   have hge2:=Qk hM2.own
   have hM7:MvN w1.heap.size w7 v7 (lm++[⟨1,i,vl,cs⟩]):=ZN.app (N:=w4.heap.size) hM2 (hs25.trans hs6) (Qs ho5 hs6) (by show cs.length≤_;omega) hz24 hz2 ho7 hs7 hn7
   refine Qw<|Qb<|QO rfl rfl<|Qe<|⟨(i+1,v7,lm++[⟨1,i,vl,cs⟩]),by simp only[];omega,⟨rfl,rfl,trivial⟩,hlt,((hs2.trans hs25).trans hs6).then hs7 (λb hb=>.inr (hge2 b hb).1),hM7,?_⟩
   simp only[]
   rw[List.map_append,hlm]
   exact htk.symm
  have hklt:k<c.co.length:=by have h27:(k:Int)<(c.co.length:Int):=h26;omega
  have hmk:=List.getElem_mem hklt
  have hsucc:=UE (λy:IV=>mts q.p.a.al y.p.a.al) hklt
  refine Zd (c.co[k]'hklt) λy hy=>?_
  rw[hy] at hmk hsucc
  have hqA:=(h5.rq.each q hmem).up (L':=[]) (by simp)
  have hyA:=(h5.co.each y hmk).up (L':=[]) (by simp)
  have h50:=h5.up (L':=[]) (by simp)
  have hd5:Step [] w5 { w5 with drawn:=w5.drawn+1 }:=Step.drew _ _
  refine Qi<|Qf<|Qg<|Qf<|QS (Step [] w5) [(0,true),(1,true),(2,true),(3,true),(4,true),(5,true),(6,true),(7,true),(8,true),(9,true),(10,true),(11,true),(12,true),(13,true),(14,false)] mixed (by rfl) (by kernel_rfl) hd5 ?_
  refine p (λ_=>Qa rfl)<|pq (λ_ hc=>Qd (hB15.ext hc) rfl rfl)<|p (λ_=>Qo)<|Lg.pig (g:=QW) (i:=i) rfl Yq h50.rq.arr rfl rfl hlt λa32 h32=>?_
  rw[hq] at h32
  refine p (λ_=>Zc rfl)<|p (λ_=>Zc rfl)<|pq (λ_ hc=>Qv (((h32.from 1).fld 0 q.p.va rfl).ext hc) rfl)<|p (λ_=>Qa rfl)<|pq (λ_ hc=>Qd (hB15.ext hc) rfl rfl)<|p (λ_=>Qo)<|Lg.pig (g:=QW) (i:=k) rfl Yq h50.co.arr rfl rfl hklt λa39 h39=>?_
  rw[hy] at h39
  refine p (λ_=>Zc rfl)<|p (λ_=>Zc rfl)<|pq (λ_ hc=>Qv (((h39.from 1).fld 0 y.p.va rfl).ext hc) rfl)<|pk<|xf<|(QeD (hqA.al.ext hd5) (hyA.al.ext hd5)).mono ?_
  rintro r14 w6 ⟨rfl,rfl⟩
  refine ⟨hd5,?_⟩
  refine pe ?_
  refine Q5 rfl (λh43=>?_) (λh43=>?_)
  rotate_left
  ·rw[if_neg (by rw[h43];decide),List.append_nil] at hsucc
   refine Qi<|Qw<|Qb<|QO rfl rfl<|Qe ?_
   exact ⟨(k+1,vl),by simp only[];omega,⟨rfl,trivial⟩,hklt,hs5.trans hd5.any,hB55.ext hd5,by simp only[];rw[hsucc];exact Qs ho5 hd5⟩
  rw[if_pos h43] at hsucc
  refine Qw<|x (Qa rfl)<|x (Qd (hB55.ext hd5) rfl rfl)<|Qb<|xl rfl<|QD (us:=[[.int .i64 k]]) rfl rfl (by decide) (by simp) ⟨rfl,rfl,trivial⟩ λb47 w7 hs7 hb47 hB47=>?_
  have hs57:=hd5.trans hs7
  have hz57:=hs57.size
  refine xl rfl<|QZ (news:=[.int .i64 k]) (L:=[]) (Qs ho5 hs57) rfl rfl rfl (hB47.at (by simp)) (by simp[Value.oneCell']) (by omega) (by omega) λv8 w8 ho8 hs8 hn8=>?_
  refine x (Qa rfl)<|xl rfl<|QF (j:=2) (u:=v8) ((hB55.ext hs57).step hs8 hn5) rfl rfl (by simp) (QH ho8) λw9 hs9 hB59=>xe ?_
  refine Qw<|Qb<|QO rfl rfl<|Qe<|⟨(k+1,v8),by simp only[];omega,⟨rfl,trivial⟩,hklt,((hs5.trans hs57.any).then hs8 (λb hb=>.inr (hgl b hb).1)).trans' hs9,hB59,?_⟩
  simp only[]
  rw[hsucc]
  exact Qu.snoc (Qj ho8 hs9 (λb hb=>by have:=(Qk ho8 b hb).1;simp only[List.mem_singleton];omega))
 rintro ⟨v0,lm0⟩ g w20 ⟨hs20,hM20,hlm0⟩
 simp only[] at hM20 hlm0
 refine QU (α:=Value×List MV) [(3,3),(7,9),(54,92)] (λz=>[(3,z.1)]) (λz w'=>Step [] w1 w'∧MvN w1.heap.size w' z.1 z.2∧z.2.map MV.m=lmR c.cel.co 0 c.cel.rq++lmP 2 0 (c.cel.ex.map (·.ls))) (by rfl) ?_ ?_
 ·refine Qc<|Qe<|Qg<|QA (α:=Nat×Value×List MV) [(3,3),(7,9),(54,92)] (λz=>[(3,z.2.1),(7,.int .i64 z.1)]) (λz w'=>z.1≤c.ex.length∧Step [] w1 w'∧MvN w1.heap.size w' z.2.1 z.2.2∧z.2.2.map MV.m=lmR c.cel.co 0 c.cel.rq++(lmP 2 0 (c.cel.ex.map (·.ls))).take z.1) (λz=>c.ex.length - z.1) (by rfl) (0,v0,lm0) ⟨rfl,rfl,trivial⟩
   ⟨Nat.zero_le _,hs20,hM20,by simp only[];rw[List.take_zero,List.append_nil];exact hlm0⟩ ?_
  rintro ⟨i,v,lm⟩ g w2 ⟨hi,hs2,hM2,hlm⟩
  simp only[] at hi hM2 hlm
  have h2:=h1.ext hs2
  have hB12:=hB1.ext hs2
  have hz2:=hs2.size
  have hrl:(c.cel.ex.map (·.ls)).length=c.ex.length:=by rw[List.length_map];exact List.length_map ..
  have hll:lm.length≤c.rq.length+c.ex.length:=by
   have e:=congrArg List.length hlm
   rw[List.length_map,List.length_append,List.length_take,KR,show c.cel.rq.length=c.rq.length from List.length_map ..] at e
   omega
  refine Qf<|Qc<|Qb<|x (Qa rfl)<|x (Qd hB12 rfl rfl)<|x (Qr h2.ex.arr rfl)<|x (QB rfl rfl)<|xe ?_
  refine QG rfl (λh17=>?_) (λh17=>?_)
  ·refine Qx ?_
   have hie:c.ex.length≤i:=by have h18:¬(i:Int)<(c.ex.length:Int):=h17;omega
   rw[List.take_of_length_le (by rw[JV,hrl];exact hie)] at hlm
   exact ⟨(v,lm),⟨rfl,trivial⟩,hs2,hM2,hlm⟩
  have hlt:i<c.ex.length:=by have h18:(i:Int)<(c.ex.length:Int):=h17;omega
  have htk:=UA 2 (c.cel.ex.map (·.ls)) 0 i (by omega)
  rw[Qjl c (by omega) hlt,Nat.zero_add] at htk
  have hmem:=List.getElem_mem hlt
  refine Zd (c.ex[i]'hlt) λq hq=>?_
  rw[hq] at htk hmem
  refine Qi<|Qf<|Qg<|Qc<|Qb<|x (QE ⟨rfl,rfl,trivial⟩)<|xl rfl<|Qt (us:=[.int .i64 0,.int .i64 0,nS]) rfl λb5 w3 hs3 hb5 hB5=>xl rfl<|Qn (us:=[.int .i64 2,.int .i64 i,nS]) hB5 rfl rfl rfl rfl ⟨rfl,rfl,rfl,trivial⟩ λw4 hs4 hB54=>xe ?_
  have hs24:Step [] w2 w4:=hs3.then1 hs4 hb5
  have hz24:=hs24.size
  have hl5:=hB54.lt
  have hB14:=hB12.ext hs24
  have hl1:=hB12.lt
  have n15:b1∉[b5]:=by simp only[List.mem_singleton];omega
  have hqn:=(h2.ex.each q hmem).le
  refine Qf<|Qc<|Qe<|Qg<|QA (α:=Nat×Value) [(9,9),(63,88)] (λz=>[(9,.int .i64 z.1)]) (λz w'=>z.1≤q.ls.length∧Step [b5] w4 w'∧Q2 w'.heap b5 39 [.int .i64 2,.int .i64 i,z.2]∧Qu 3 w4.heap.size w' z.2 ((q.ls.take z.1).map (·.1))) (λz=>q.ls.length - z.1) (by rfl) (0,Zb) ⟨rfl,trivial⟩
   ⟨Nat.zero_le _,Step.refl _ _,hB54,QP _ _ _ _⟩ ?_
  rintro ⟨k,vl⟩ g w5 ⟨hk,hs5,hB55,ho5⟩
  simp only[] at hk hB55 ho5
  have hgl:=Qk ho5
  have upX:∀b∈b5::ob vl,b∈([]:LN)∨w2.heap.size≤b:=λb hb=>.inr (by
   rcases List.mem_cons.1 hb with e | e
   ·rw[e];exact hb5
   ·have:=(hgl b e).1;omega)
  have hX5:Zu (b5::ob vl) w5.heap c:=((h2.up upX).ext hs24).st (hs5.mono (by simp))
  have h50:Zu [] w5.heap c:=hX5.up (by simp)
  have h5v:Zu (ob vl) w5.heap c:=hX5.up (λb hb=>.inl (List.mem_cons_of_mem _ hb))
  have hB15:=hB14.step hs5 n15
  have hz5:=hs5.size
  have hn5:b5∉ob vl:=QM ho5 hl5
  have hn1:b1∉ob vl:=QM ho5 (by omega)
  refine Qf<|Qc<|Qb<|x (Qa rfl)<|x (Qd hB15 rfl rfl)<|Qb<|xig YZ h50.ex.arr rfl rfl hlt λa67 h67=>?_
  rw[hq] at h67
  refine x (Zc rfl)<|x (Qv (h67.fld 1 q.v rfl) rfl)<|x (Qr (h50.ex.each q hmem) rfl)<|x (QB rfl rfl)<|xe ?_
  refine QG rfl (λh26=>?_) (λh26=>?_)
  ·refine Qx ?_
   have hke:q.ls.length≤k:=by have h27:¬(k:Int)<(q.ls.length:Int):=h26;omega
   rw[List.take_of_length_le hke] at ho5
   have hlen:(q.ls.map (·.1)).length=q.ls.length:=List.length_map ..
   refine Zd (q.ls.map (·.1)) λcs hcs=>?_
   rw[hcs] at ho5 hlen htk
   have hs25:Step [] w2 w5:=hs24.then1 hs5 hb5
   have hM5:=hM2.ext hs25
   refine Qw<|Qb<|x (Qq hB55 rfl rfl)<|xl rfl<|QD (us:=[Zp ⟨2,i,vl,cs⟩]) rfl rfl (by decide) (by exact (by decide:1*3≤1000000)) ⟨rfl,rfl,trivial⟩ λb52 w6 hs6 hb52 hB52=>?_
   have hz6:=hs6.size
   refine xl rfl<|QZ (news:=Zp ⟨2,i,vl,cs⟩) (L:=[]) (Qs hM5.own hs6) rfl rfl rfl (hB52.at (by simp)) (Ua (q:=⟨2,i,vl,cs⟩) (QH ho5)) (by omega) (by omega) λv7 w7 ho7 hs7 hn7=>Qe ?_
   have hge2:=Qk hM2.own
   have hM7:MvN w1.heap.size w7 v7 (lm++[⟨2,i,vl,cs⟩]):=ZN.app (N:=w4.heap.size) hM2 (hs25.trans hs6) (Qs ho5 hs6) (by show cs.length≤_;omega) hz24 hz2 ho7 hs7 hn7
   refine Qw<|Qb<|QO rfl rfl<|Qe<|⟨(i+1,v7,lm++[⟨2,i,vl,cs⟩]),by simp only[];omega,⟨rfl,rfl,trivial⟩,hlt,((hs2.trans hs25).trans hs6).then hs7 (λb hb=>.inr (hge2 b hb).1),hM7,?_⟩
   simp only[]
   rw[List.map_append,hlm,htk,List.append_assoc]
   rfl
  have hklt:k<q.ls.length:=by have h27:(k:Int)<(q.ls.length:Int):=h26;omega
  have hsucc:(q.ls.take (k+1)).map (·.1)=(q.ls.take k).map (·.1)++[(q.ls[k]'hklt).1]:=by rw[List.take_succ_eq_append_getElem hklt,List.map_append];rfl
  have hlk:((q.ls.take k).map (·.1)).length=k:=by rw[List.length_map,List.length_take];omega
  refine Zd (q.ls[k]'hklt) λy hy=>?_
  rw[hy] at hsucc
  refine Qi<|Qf<|Qg<|QS (Step (ob vl) w5) [(0,true),(1,true),(2,true),(3,true),(4,true),(5,true),(6,true),(7,true),(8,true),(9,true),(10,true),(11,true),(12,false),(13,false),(14,true),(15,false)] mixed (by rfl) (by kernel_rfl) (Step.drew _ _) ?_
  refine p (λ_=>Qa rfl)<|pq (λ_ hc=>Qd (hB55.step hc hn5) rfl rfl)<|p (λ_=>Qa rfl)<|pq (λ_ hc=>Qd (hB15.step hc hn1) rfl rfl)<|p (λ_=>Qo)<|Lg.pig (i:=i) rfl YZ h5v.ex.arr rfl rfl hlt λa79 h79=>?_
  rw[hq] at h79
  refine p (λ_=>Zc rfl)<|pq (λ_ hc=>Qv ((h79.fld 1 q.v rfl).st hc) rfl)<|p (λ_=>Qo)<|Lg.pig (i:=k) rfl ZZ (h5v.ex.each q hmem) rfl rfl hklt λa83 h83=>?_
  rw[hy] at h83
  refine p (λ_=>Zc rfl)<|pq (λ_ hc=>Qv ((h83.fld 0 (.int .i64 y.1) rfl).st hc) rfl)<|pk<|QD (us:=[[.int .i64 y.1]]) rfl rfl (by decide) (by simp) ⟨rfl,rfl,trivial⟩ λb47 w7 hs7 hb47 hB47=>⟨((Step.drew _ _).trans hs7),?_⟩
  have hs57:Step [] w5 w7:=(Step.drew _ _).trans hs7
  have hz57:=hs57.size
  refine pk<|QZ (news:=[.int .i64 y.1]) (L:=[]) (Qs ho5 hs57) rfl rfl rfl (hB47.at (by simp)) (by simp[Value.oneCell']) (by omega) (by omega) λv8 w8 ho8 hs8 hn8=>⟨(hs57.any (L:=ob vl)).trans' hs8,?_⟩
  refine p (λ_=>Qa rfl)<|pkl (hl:=by kernel_rfl)<|QF (j:=2) (u:=v8) ((hB55.ext hs57).step hs8 hn5) rfl rfl (by simp) (QH ho8) λw9 hs9 hB59=>pe ?_
  refine Qw<|Qb<|QO rfl rfl<|Qe<|⟨(k+1,v8),by simp only[];omega,⟨rfl,trivial⟩,hklt,((hs5.trans hs57).then hs8 (λb hb=>.inr (hgl b hb).1)).trans' hs9,hB59,?_⟩
  simp only[]
  rw[hsucc]
  exact Qu.snoc (Qj ho8 hs9 (λb hb=>by have:=(Qk ho8 b hb).1;simp only[List.mem_singleton];omega))
 rintro ⟨v0,lm0⟩ g w20 ⟨hs20,hM20,hlm0⟩
 simp only[] at hM20 hlm0
 refine Qf<|Qc<|Qe<|Qg<|QA (α:=Nat×Value×List MV) [(3,3),(10,12),(93,131)] (λz=>[(3,z.2.1),(10,.int .i64 z.1)]) (λz w'=>z.1≤c.cs.length∧Step [] w1 w'∧MvN w1.heap.size w' z.2.1 z.2.2∧z.2.2.map MV.m=(lmR c.cel.co 0 c.cel.rq++lmP 2 0 (c.cel.ex.map (·.ls)))++(lmP 3 0 (c.cel.cs.map (·.ts))).take z.1) (λz=>c.cs.length - z.1) (by rfl) (0,v0,lm0) ⟨rfl,rfl,trivial⟩
  ⟨Nat.zero_le _,hs20,hM20,by simp only[];rw[List.take_zero,List.append_nil];exact hlm0⟩ ?_
 rintro ⟨i,v,lm⟩ g w2 ⟨hi,hs2,hM2,hlm⟩
 simp only[] at hi hM2 hlm
 have h2:=h1.ext hs2
 have hB12:=hB1.ext hs2
 have hz2:=hs2.size
 have hrl:(c.cel.cs.map (·.ts)).length=c.cs.length:=by rw[List.length_map];exact List.length_map ..
 have hll:lm.length≤c.rq.length+c.ex.length+c.cs.length:=by
  have e:=congrArg List.length hlm
  rw[List.length_map,List.length_append,List.length_take,List.length_append,KR,JV,List.length_map,show c.cel.ex.length=c.ex.length from List.length_map ..,show c.cel.rq.length=c.rq.length from List.length_map ..] at e
  omega
 refine Qf<|Qc<|Qb<|x (Qa rfl)<|x (Qd hB12 rfl rfl)<|x (Qr h2.cs.arr rfl)<|x (QB rfl rfl)<|xe ?_
 refine QG rfl (λh17=>?_) (λh17=>?_)
 ·refine Qx ?_
  have hie:c.cs.length≤i:=by have h18:¬(i:Int)<(c.cs.length:Int):=h17;omega
  rw[List.take_of_length_le (by rw[JV,hrl];exact hie)] at hlm
  refine Qc<|Qb<|Qe<|Ql ⟨[v],⟨rfl,trivial⟩,hs1.trans hs2,lm,⟨Zo hM2.own hz1,λq hq L hL=>hM2.each q hq L (λb hb=>(hL b hb).imp (λh=>by omega) id)⟩,?_⟩
  rw[hlm,List.append_assoc]
  rfl
 have hlt:i<c.cs.length:=by have h18:(i:Int)<(c.cs.length:Int):=h17;omega
 have htk:=UA 3 (c.cel.cs.map (·.ts)) 0 i (by omega)
 rw[Qju c (by omega) hlt,Nat.zero_add] at htk
 have hmem:=List.getElem_mem hlt
 refine Zd (c.cs[i]'hlt) λq hq=>?_
 rw[hq] at htk hmem
 refine Qi<|Qf<|Qg<|Qc<|Qb<|x (QE ⟨rfl,rfl,trivial⟩)<|xl rfl<|Qt (us:=[.int .i64 0,.int .i64 0,nS]) rfl λb5 w3 hs3 hb5 hB5=>xl rfl<|Qn (us:=[.int .i64 3,.int .i64 i,nS]) hB5 rfl rfl rfl rfl ⟨rfl,rfl,rfl,trivial⟩ λw4 hs4 hB54=>xe ?_
 have hs24:Step [] w2 w4:=hs3.then1 hs4 hb5
 have hz24:=hs24.size
 have hl5:=hB54.lt
 have hB14:=hB12.ext hs24
 have hl1:=hB12.lt
 have n15:b1∉[b5]:=by simp only[List.mem_singleton];omega
 have hqn:=(h2.cs.each q hmem).le
 refine Qf<|Qc<|Qe<|Qg<|QA (α:=Nat×Value) [(12,12),(102,127)] (λz=>[(12,.int .i64 z.1)]) (λz w'=>z.1≤q.ts.length∧Step [b5] w4 w'∧Q2 w'.heap b5 39 [.int .i64 3,.int .i64 i,z.2]∧Qu 3 w4.heap.size w' z.2 ((q.ts.take z.1).map (·.1))) (λz=>q.ts.length - z.1) (by rfl) (0,Zb) ⟨rfl,trivial⟩
  ⟨Nat.zero_le _,Step.refl _ _,hB54,QP _ _ _ _⟩ ?_
 rintro ⟨k,vl⟩ g w5 ⟨hk,hs5,hB55,ho5⟩
 simp only[] at hk hB55 ho5
 have hgl:=Qk ho5
 have upX:∀b∈b5::ob vl,b∈([]:LN)∨w2.heap.size≤b:=λb hb=>.inr (by
  rcases List.mem_cons.1 hb with e | e
  ·rw[e];exact hb5
  ·have:=(hgl b e).1;omega)
 have hX5:Zu (b5::ob vl) w5.heap c:=((h2.up upX).ext hs24).st (hs5.mono (by simp))
 have h50:Zu [] w5.heap c:=hX5.up (by simp)
 have h5v:Zu (ob vl) w5.heap c:=hX5.up (λb hb=>.inl (List.mem_cons_of_mem _ hb))
 have hB15:=hB14.step hs5 n15
 have hz5:=hs5.size
 have hn5:b5∉ob vl:=QM ho5 hl5
 have hn1:b1∉ob vl:=QM ho5 (by omega)
 refine Qf<|Qc<|Qb<|x (Qa rfl)<|x (Qd hB15 rfl rfl)<|Qb<|xig YN h50.cs.arr rfl rfl hlt λa67 h67=>?_
 rw[hq] at h67
 refine x (Zc rfl)<|x (Qv (h67.fld 1 q.v rfl) rfl)<|x (Qr (h50.cs.each q hmem) rfl)<|x (QB rfl rfl)<|xe ?_
 refine QG rfl (λh26=>?_) (λh26=>?_)
 ·refine Qx ?_
  have hke:q.ts.length≤k:=by have h27:¬(k:Int)<(q.ts.length:Int):=h26;omega
  rw[List.take_of_length_le hke] at ho5
  have hlen:(q.ts.map (·.1)).length=q.ts.length:=List.length_map ..
  refine Zd (q.ts.map (·.1)) λcs hcs=>?_
  rw[hcs] at ho5 hlen htk
  have hs25:Step [] w2 w5:=hs24.then1 hs5 hb5
  have hM5:=hM2.ext hs25
  refine Qw<|Qb<|x (Qq hB55 rfl rfl)<|xl rfl<|QD (us:=[Zp ⟨3,i,vl,cs⟩]) rfl rfl (by decide) (by exact (by decide:1*3≤1000000)) ⟨rfl,rfl,trivial⟩ λb52 w6 hs6 hb52 hB52=>?_
  have hz6:=hs6.size
  refine xl rfl<|QZ (news:=Zp ⟨3,i,vl,cs⟩) (L:=[]) (Qs hM5.own hs6) rfl rfl rfl (hB52.at (by simp)) (Ua (q:=⟨3,i,vl,cs⟩) (QH ho5)) (by omega) (by omega) λv7 w7 ho7 hs7 hn7=>Qe ?_
  have hge2:=Qk hM2.own
  have hM7:MvN w1.heap.size w7 v7 (lm++[⟨3,i,vl,cs⟩]):=ZN.app (N:=w4.heap.size) hM2 (hs25.trans hs6) (Qs ho5 hs6) (by show cs.length≤_;omega) hz24 hz2 ho7 hs7 hn7
  refine Qw<|Qb<|QO rfl rfl<|Qe<|⟨(i+1,v7,lm++[⟨3,i,vl,cs⟩]),by simp only[];omega,⟨rfl,rfl,trivial⟩,hlt,((hs2.trans hs25).trans hs6).then hs7 (λb hb=>.inr (hge2 b hb).1),hM7,?_⟩
  simp only[]
  rw[List.map_append,hlm,htk,List.append_assoc]
  rfl
 have hklt:k<q.ts.length:=by have h27:(k:Int)<(q.ts.length:Int):=h26;omega
 have hsucc:(q.ts.take (k+1)).map (·.1)=(q.ts.take k).map (·.1)++[(q.ts[k]'hklt).1]:=by rw[List.take_succ_eq_append_getElem hklt,List.map_append];rfl
 have hlk:((q.ts.take k).map (·.1)).length=k:=by rw[List.length_map,List.length_take];omega
 refine Zd (q.ts[k]'hklt) λy hy=>?_
 rw[hy] at hsucc
 refine Qi<|Qf<|Qg<|QS (Step (ob vl) w5) [(0,true),(1,true),(2,true),(3,true),(4,true),(5,true),(6,true),(7,true),(8,true),(9,true),(10,true),(11,true),(12,false),(13,false),(14,true),(15,false)] mixed (by rfl) (by kernel_rfl) (Step.drew _ _) ?_
 refine p (λ_=>Qa rfl)<|pq (λ_ hc=>Qd (hB55.step hc hn5) rfl rfl)<|p (λ_=>Qa rfl)<|pq (λ_ hc=>Qd (hB15.step hc hn1) rfl rfl)<|p (λ_=>Qo)<|Lg.pig (i:=i) rfl YN h5v.cs.arr rfl rfl hlt λa79 h79=>?_
 rw[hq] at h79
 refine p (λ_=>Zc rfl)<|pq (λ_ hc=>Qv ((h79.fld 1 q.v rfl).st hc) rfl)<|p (λ_=>Qo)<|Lg.pig (i:=k) rfl ZZ (h5v.cs.each q hmem) rfl rfl hklt λa83 h83=>?_
 rw[hy] at h83
 refine p (λ_=>Zc rfl)<|pq (λ_ hc=>Qv ((h83.fld 0 (.int .i64 y.1) rfl).st hc) rfl)<|pk<|QD (us:=[[.int .i64 y.1]]) rfl rfl (by decide) (by simp) ⟨rfl,rfl,trivial⟩ λb47 w7 hs7 hb47 hB47=>⟨((Step.drew _ _).trans hs7),?_⟩
 have hs57:Step [] w5 w7:=(Step.drew _ _).trans hs7
 have hz57:=hs57.size
 refine pk<|QZ (news:=[.int .i64 y.1]) (L:=[]) (Qs ho5 hs57) rfl rfl rfl (hB47.at (by simp)) (by simp[Value.oneCell']) (by omega) (by omega) λv8 w8 ho8 hs8 hn8=>⟨(hs57.any (L:=ob vl)).trans' hs8,?_⟩
 refine p (λ_=>Qa rfl)<|pkl (hl:=by kernel_rfl)<|QF (j:=2) (u:=v8) ((hB55.ext hs57).step hs8 hn5) rfl rfl (by simp) (QH ho8) λw9 hs9 hB59=>pe ?_
 refine Qw<|Qb<|QO rfl rfl<|Qe<|⟨(k+1,v8),by simp only[];omega,⟨rfl,trivial⟩,hklt,((hs5.trans hs57).then hs8 (λb hb=>.inr (hgl b hb).1)).trans' hs9,hB59,?_⟩
 simp only[]
 rw[hsucc]
 exact Qu.snoc (Qj ho8 hs9 (λb hb=>by have:=(Qk ho8 b hb).1;simp only[List.mem_singleton];omega))
theorem KP (kd:Int) (m:Ky):∀(l:LN) (i:Nat),m∈Jr kd i l↔m.kd=kd∧(i:Int)≤m.ix∧m.ix<((i+l.length:Nat):Int)∧m.co=setK (l.getD (m.ix.toNat - i) 0) 8
 | [],i=>by simp[Jr];intros;omega
 | b::l,i=>by
  rw[Jr,List.mem_cons,KP kd m l (i+1),List.length_cons]
  constructor
  ·rintro (h | ⟨h1,h2,h3,h4⟩)
   ·subst h
    refine ⟨rfl,Int.le_refl _,by simp only[];omega,?_⟩
    rw[show (Int.toNat (i:Int)) - i=0 by omega]
    rfl
   ·refine ⟨h1,by omega,by omega,?_⟩
    rw[h4,show m.ix.toNat - i=m.ix.toNat - (i+1)+1 by omega]
    rfl
  ·rintro ⟨h1,h2,h3,h4⟩
   by_cases e:m.ix=(i:Int)
   ·left
    rw[show m.ix.toNat - i=0 by omega] at h4
    obtain ⟨a,b',c'⟩:=m
    simp only[] at h1 e h4
    subst h1;subst e
    rw[h4];rfl
   ·right
    refine ⟨h1,by omega,by omega,?_⟩
    rw[h4,show m.ix.toNat - i=m.ix.toNat - (i+1)+1 by omega]
    rfl
theorem yX {c:Zv}{m:Ky}:m∈mods c↔(1≤m.kd∧m.kd≤3)∧(0≤m.ix∧m.ix<((srK c m.kd).length:Int))∧m.co=setK ((srK c m.kd).getD m.ix.toNat 0) 8:=by
 unfold mods
 rw[List.mem_append,List.mem_append,KP,KP,KP]
 simp only[Nat.zero_add,Nat.sub_zero,Int.natCast_zero]
 unfold srK
 by_cases h1:m.kd=1
 ·simp[h1,and_assoc]
 ·by_cases h2:m.kd=2
  ·simp[h2,and_assoc]
  ·by_cases h3:m.kd=3
   ·simp[h3,and_assoc]
   ·simp[h1,h2,h3]
    intros;omega
def lkE (c:Zv) (m:Ky):Int:=if m.kd<1∨3<m.kd then 11 else if m.ix<0∨((srK c m.kd).length:Int)≤m.ix then 10 else if m∈lmd c then 0 else 13
theorem Qg3 {c:Zv}(h:D25 c) (m:Ky):mdE c m=lkE c m:=by
 unfold mdE lkE
 rw[if_neg (by rw[h.ck];decide)]
 split
 ·rfl
 ·split
  ·rfl
  ·rename_i h1 h2
   have e:(m.co=setK ((srK c m.kd).getD m.ix.toNat 0) 8)↔m∈lmd c:=by
    rw[←h.lmd,yX]
    exact ⟨λh=>⟨by omega,by omega,h⟩,λh=>h.2.2⟩
   simp only[e]
theorem Qcv {w:World}{q:MV}(hq1:q.v.oneCell'=true) :
  QJ prog 34 [.agg (Zp q).toArray] w λr w'=>Step [] w w'∧∃v1 v2 v3,r=.agg #[q.v,v1,v2,v3] ∧
   ∀L:LN,(∀b∈L,b<w.heap.size)→QL L w'.heap v1 (prt q.m).rq∧QL L w'.heap v2 (prt q.m).ex∧QL L w'.heap v3 (prt q.m).cs:=by
 have hp:prt q.m=⟨q.co,if q.kd=1 then [q.ix] else [],if q.kd=2 then [q.ix] else [],if q.kd≠1∧q.kd≠2 then [q.ix] else []⟩:=rfl
 refine QJ.of_W func34 rfl ntmps34 results34 (by simp) ?_
 refine Qc<|xl rfl<|QQ (us:=Zp q) rfl λb1 w1 hs1 hb1 hB1=>xl rfl<|Qt (us:=[nS,nS,nS,nS]) rfl λb2 w2 hs2 hb2 hB2=>xe ?_
 have hB12:=hB1.ext hs2
 refine Qc<|x (Qa rfl)<|x (Qd hB12 rfl rfl)<|x (QE ⟨Vq hq1,trivial⟩)<|xl rfl<|Qt (us:=[nS,nS,nS,nS]) rfl λb3 w3 hs3 hb3 hB3=>xl rfl<|Qn (us:=[q.v,Zb,Zb,Zb]) hB3 rfl rfl rfl rfl ⟨hq1,rfl,rfl,rfl,trivial⟩ λw4 hs4 hB34=>xe ?_
 have hs24:Step [] w2 w4:=hs3.then1 hs4 hb3
 have hs04:=(hs1.trans hs2).trans hs24
 have hB14:=hB12.ext hs24
 have hB24:=hB2.ext hs24
 have hz1:=hs1.size
 have hz2:=hs2.size
 have hz24:=hs24.size
 have hl3:=hB34.lt
 have hl2:=hB2.lt
 refine QU (α:=Value×Value×Value) [(7,24)] (λ_=>[]) (λz w'=>Step [b3] w4 w'∧Q2 w'.heap b3 95 [q.v,z.1,z.2.1,z.2.2]∧Zw [z.1,z.2.1,z.2.2] ∧
   ∀L:LN,(∀b∈L,b<w4.heap.size)→QL L w'.heap z.1 (prt q.m).rq∧QL L w'.heap z.2.1 (prt q.m).ex∧QL L w'.heap z.2.2 (prt q.m).cs) (by rfl) ?_ ?_
 ·refine Qc<|x (Qa rfl)<|x (Qd hB14 rfl rfl)<|xe ?_
  refine Qg<|Qc<|x (Q7 rfl rfl)<|Qe<|Q4 rfl (λh13=>?_) (λh13=>?_)
  ·have k1:q.kd=1:=h13
   have k2:¬q.kd=2:=by omega
   rw[if_pos k1,if_neg k2,if_neg (λh=>h.1 k1)] at hp
   rw[hp]
   refine Qw<|x (Qa rfl)<|x (Qd hB14 rfl rfl)<|xl rfl<|QD (us:=[[.int .i64 q.ix]]) rfl rfl (by decide) (by simp) ⟨rfl,rfl,trivial⟩ λb17 w5 hs5 hb17 hB17=>x (Qa rfl)<|xl rfl<|QF (j:=1) (u:=.slice (some ⟨b17,0,none⟩) 1 1) (hB34.ext hs5) rfl rfl (by simp) rfl λw6 hs6 hB36=>xe ?_
   refine ⟨(.slice (some ⟨b17,0,none⟩) 1 1,Zb,Zb),trivial,hs5.any.trans' hs6,hB36,⟨rfl,rfl,rfl,trivial⟩,λL hL=>⟨?_,Zj.nil _ _ _,Zj.nil _ _ _⟩⟩
   exact (hB17.step hs6 (by simp only[List.mem_singleton];omega)).arr (L:=L) (λhb=>by have:=hL b17 hb;omega) (n:=1) (cap:=1) (sz:=1) rfl (by omega) (Nat.le_refl _)
  refine Qc<|x (Q7 rfl rfl)<|Qe<|Q4 rfl (λh19=>?_) (λh19=>?_)
  ·have k2:q.kd=2:=h19
   have k1:¬q.kd=1:=h13
   rw[if_neg k1,if_pos k2,if_neg (λh=>h.2 k2)] at hp
   rw[hp]
   refine Qw<|x (Qa rfl)<|x (Qd hB14 rfl rfl)<|xl rfl<|QD (us:=[[.int .i64 q.ix]]) rfl rfl (by decide) (by simp) ⟨rfl,rfl,trivial⟩ λb17 w5 hs5 hb17 hB17=>x (Qa rfl)<|xl rfl<|QF (j:=2) (u:=.slice (some ⟨b17,0,none⟩) 1 1) (hB34.ext hs5) rfl rfl (by simp) rfl λw6 hs6 hB36=>xe ?_
   refine ⟨(Zb,.slice (some ⟨b17,0,none⟩) 1 1,Zb),trivial,hs5.any.trans' hs6,hB36,⟨rfl,rfl,rfl,trivial⟩,λL hL=>⟨Zj.nil _ _ _,?_,Zj.nil _ _ _⟩⟩
   exact (hB17.step hs6 (by simp only[List.mem_singleton];omega)).arr (L:=L) (λhb=>by have:=hL b17 hb;omega) (n:=1) (cap:=1) (sz:=1) rfl (by omega) (Nat.le_refl _)
  have k1:¬q.kd=1:=h13
  have k2:¬q.kd=2:=h19
  rw[if_neg k1,if_neg k2,if_pos ⟨k1,k2⟩] at hp
  rw[hp]
  refine Qw<|x (Qa rfl)<|x (Qd hB14 rfl rfl)<|xl rfl<|QD (us:=[[.int .i64 q.ix]]) rfl rfl (by decide) (by simp) ⟨rfl,rfl,trivial⟩ λb17 w5 hs5 hb17 hB17=>x (Qa rfl)<|xl rfl<|QF (j:=3) (u:=.slice (some ⟨b17,0,none⟩) 1 1) (hB34.ext hs5) rfl rfl (by simp) rfl λw6 hs6 hB36=>xe ?_
  refine ⟨(Zb,Zb,.slice (some ⟨b17,0,none⟩) 1 1),trivial,hs5.any.trans' hs6,hB36,⟨rfl,rfl,rfl,trivial⟩,λL hL=>⟨Zj.nil _ _ _,Zj.nil _ _ _,?_⟩⟩
  exact (hB17.step hs6 (by simp only[List.mem_singleton];omega)).arr (L:=L) (λhb=>by have:=hL b17 hb;omega) (n:=1) (cap:=1) (sz:=1) rfl (by omega) (Nat.le_refl _)
 rintro ⟨v1,v2,v3⟩ g w5 ⟨hs5,hB35,hon,hI⟩
 simp only[] at hB35 hon hI
 have hs05:Step [] w w5:=hs04.then1 hs5 (by omega)
 have hB25:=hB24.step hs5 (by simp only[List.mem_singleton];omega)
 have hz5:=hs5.size
 refine Qc<|x (Qq hB35 rfl rfl)<|xl rfl<|Qn (us:=[q.v,v1,v2,v3]) hB25 rfl rfl rfl rfl ⟨hq1,hon.1,hon.2.1,hon.2.2.1,trivial⟩ λw6 hs6 hB26=>xe ?_
 refine Ql ⟨[.agg [q.v,v1,v2,v3].toArray],⟨⟨_,rfl,Qz rfl (hB26.at (L:=[]) (by simp)).cells⟩,trivial⟩,hs05.then1 hs6 (by omega),v1,v2,v3,rfl,λL hL=>?_⟩
 have h1:=hI (b2::L) (λb hb=>by
  rcases List.mem_cons.1 hb with rfl | hb
  ·omega
  ·have:=hL b hb;have:=hs04.size;omega)
 have dn:∀{v:Value} {l:LI},QL (b2::L) w5.heap v l→QL L w6.heap v l:=λh=>(h.st (hs6.mono (by simp))).up (λb hb=>.inl (by simp[hb]))
 exact ⟨dn h1.1,dn h1.2.1,dn h1.2.2⟩
def Qal:Zv:=⟨[],[],[],[],[]⟩
theorem Qii {N:Nat}{H:Array Obj}{us:LV}{E:Int}{C:Zv}(hbad:E≠0→us=Z3) (hgood:E=0→Qdd N H (.agg us.toArray) C) :
  ∃c:CL,us=c.cells∧c.cel=(if E=0 then C else Qal)∧∀L:LN,(∀b∈L,b<N)→Zu L H c:=by
 by_cases h:E=0
 ·obtain ⟨c,h1,h2,h3⟩:=hgood h
  refine ⟨c,?_,by rw[if_pos h];exact h2,h3⟩
  have e:us.toArray=#[c.ve,c.vc,c.vr,c.vx,c.vk]:=by
   have h4:Value.agg us.toArray=.agg #[c.ve,c.vc,c.vr,c.vx,c.vk]:=h1
   exact Value.agg.inj h4
  have e2:=congrArg Array.toList e
  simpa using e2
 ·refine ⟨⟨nS,nS,nS,nS,nS,[],[],[],[],[]⟩,hbad h,by rw[if_neg h];rfl,λL _=>⟨⟨Zj.nil _ _ 5,nofun⟩,⟨Zj.nil _ _ 5,nofun,nofun⟩,⟨Zj.nil _ _ 5,nofun,nofun⟩,⟨Zj.nil _ _ 2,nofun,nofun⟩,⟨Zj.nil _ _ 3,nofun,nofun⟩⟩⟩
theorem Qg2 {c:Zv}(h:D25 c) {m:Ky}(hm:m∈lmd c):mdE c m=0:=by
 rw[Qg3 h]
 have h1:=yX.1 (by rw[h.lmd];exact hm)
 unfold lkE
 rw[if_neg (by omega),if_neg (by omega),if_pos hm]
theorem Qeu {L:LN}{H:Array Obj}:Zt L H (nS) (nS) (nS) ⟨[],0,[],[]⟩:=⟨Zj.nil _ _ _,Zj.nil _ _ _,Zj.nil _ _ _⟩
set_option maxHeartbeats 4000000 in
theorem y9 {w:World}{l:PwV}(hl:PwA w l) (hkb:Kb w 4096) :
  QJ prog 8 [.agg (YQ l).toArray] w λr w'=>r=.bool true∧Step [] w w':=by
 refine QJ.of_W func8 rfl ntmps8 results8 (by simp) ?_
 refine Qc<|xl rfl<|QQ (us:=YQ l) rfl λb1 w1 hs1 hb1 hB1=>Qe ?_
 have hll:(YQ l).length=152:=Qed (l:=l.pl []) hl.n
 refine Qf<|QU (α:=Unit) [(14,20)] (λz=>[(20,.bool (!decide (l.n≤4)))]) (λz w'=>Step [] w1 w') (by rfl) ?_ ?_
 ·refine Qw<|xl rfl<|xf<|(U4 (hkb.ext hs1)).mono ?_
  rintro r2 w2 ⟨rfl,hs2⟩
  refine x (Zn rfl)<|Qb<|x (Qq (hB1.ext hs2) rfl hll)<|xl rfl<|xf<|(Qf1 (l:=l) ⟨hl.n,hl.b,hl.f0,hl.f1,hl.f2,hl.bd,λhn=>by
   obtain ⟨rs,h1,h2⟩:=hl.r hn
   exact ⟨rs,h1,(h2.ext hs1).ext hs2⟩⟩).mono ?_
  rintro r3 w3 ⟨rfl,hs3⟩
  refine x (Zn rfl)<|x (Qm rfl)<|xe ?_
  exact ⟨(),⟨rfl,trivial⟩,hs2.trans hs3⟩
 rintro ⟨⟩ g w2 hs2
 have hs02:=hs1.trans hs2
 refine Q5 rfl (λh18=>?_) (λh18=>?_)
 ·refine Qc<|xl rfl<|xf<|(U4 (hkb.ext hs02)).mono ?_
  rintro r3 w3 ⟨rfl,hs3⟩
  refine Qe ?_
  exact Ql ⟨[.bool true],⟨rfl,trivial⟩,rfl,hs02.trans hs3⟩
 have hn4:l.n≤4:=by simpa using h18
 refine Qi<|Exists.elim (hl.pl hs02 hn4) λrs hpl=>?_
 refine Qc<|x (Qq (hB1.ext hs2) rfl hll)<|xl rfl<|xf<|(QcF hpl.1).mono ?_
 rintro r3 w3 ⟨hs3,_,⟨c,rfl,rfl,hC⟩,hD⟩
 have hC3:=hC [] (by simp)
 refine xl rfl<|Qt (us:=Z3) rfl λb3 w4 hs4 hb3 hB3=>xl rfl<|Qn (us:=c.cells) hB3 rfl rfl rfl rfl hC3.ones λw5 hs5 hB35=>xe ?_
 have hs35:Step [] w3 w5:=hs4.then1 hs5 hb3
 have hs05:=(hs02.trans hs3).trans hs35
 have hC5:=hC3.ext hs35
 have hrl:c.rq.length=c.cel.rq.length:=(List.length_map ..).symm
 have hxl:c.ex.length=c.cel.ex.length:=(List.length_map ..).symm
 have hkl:c.cs.length=c.cel.cs.length:=(List.length_map ..).symm
 have hol:c.co.length=c.cel.co.length:=(List.length_map ..).symm
 have hbr:c.rq.length≤2:=by rw[hrl];exact hD.r2
 have hbx:c.ex.length≤2:=by rw[hxl];exact hD.x2
 have hbk:c.cs.length≤1:=by rw[hkl];exact hD.k1
 have hbo:c.co.length≤3:=by rw[hol];exact hD.c3
 refine Qf<|Qc<|x (Qq hB35 rfl rfl)<|xl rfl<|xf<|(zM hC5 (by omega) (by omega)).mono ?_
 rintro r6 w6 ⟨hs6,ml,hM6,hme⟩
 have hml:ml.length≤8:=by
  have e:=congrArg List.length hme
  unfold lmd at e
  rw[List.length_map,List.length_append,List.length_append,KR,JV,JV,List.length_map,List.length_map,←hrl,←hxl,←hkl] at e
  omega
 have hA6:Zj [] w6.heap r6 ml.length 3 (ml.flatMap Zp):=hM6.arr (by omega) (by simp)
 have hs06:=hs05.trans hs6
 have hC6:=hC5.ext hs6
 have hB36:=hB35.ext hs6
 refine x (Qr hA6 rfl)<|Qb<|xe ?_
 refine Qg<|QA (α:=Nat) [(2,2),(5,13),(27,83)] (λz=>[(27,.int .i64 z)]) (λz w'=>z≤ml.length∧Step [] w6 w') (λz=>ml.length - z) (by rfl) 0 ⟨rfl,trivial⟩ ⟨Nat.zero_le _,Step.refl _ _⟩ ?_
 rintro k g w7 ⟨hk,hs7⟩
 refine Qc<|x (QB rfl rfl)<|xe ?_
 refine Qf<|QG rfl (λh44=>?_) (λh44=>?_)
 ·refine Qx ?_
  refine Qc<|Qe ?_
  exact Ql ⟨[.bool true],⟨rfl,trivial⟩,rfl,hs06.trans hs7⟩
 have hlt:k<ml.length:=by have h27:(k:Int)<(ml.length:Int):=h44;omega
 have hmem:=List.getElem_mem hlt
 refine Qi<|Qf<|Qg<|Qc<|xig zK (hA6.ext hs7) rfl rfl hlt λa45 h45=>?_
 refine Zd (ml[k]'hlt) λq hq=>?_
 rw[hq] at h45 hmem
 have hmd:mdE c.cel q.m=0:=Qg2 hD (by rw[←hme];exact List.mem_map_of_mem hmem)
 have hqA:QL [] w7.heap q.v q.co:=(hM6.each q hmem [] (by simp)).ext hs7
 refine x (QC h45 rfl rfl)<|xl rfl<|Qt (us:=[.int .i64 0,.int .i64 0,nS]) rfl λb5 w8 hs8 hb5 hB5=>xl rfl<|Qn (us:=Zp q) hB5 rfl rfl rfl rfl ⟨rfl,rfl,hqA.one,trivial⟩ λw9 hs9 hB59=>xe ?_
 have hs79:Step [] w7 w9:=hs8.then1 hs9 hb5
 have hs69:=hs7.trans hs79
 have hC9:=hC6.ext hs69
 have hq9:=hqA.ext hs79
 have hB39:=hB36.ext hs69
 have hmc:mcE c.cel q.m=Vl c.cel (prt q.m):=by unfold mcE;rw[hmd,if_neg (by decide)]
 have hmC:mcC c.cel q.m=Kf c.cel (prt q.m):=rfl
 have hms:msE c.cel q.m=if Vl c.cel (prt q.m)≠0 then Vl c.cel (prt q.m) else suE (Kf c.cel (prt q.m)):=by unfold msE;rw[hmc,hmC]
 have hmA:msA c.cel q.m=suA (Kf c.cel (prt q.m)):=rfl
 refine Qc<|x (Qq hB39 rfl rfl)<|x (Qq hB59 rfl rfl)<|xl rfl<|xf<|(y7 hC9 hq9).mono ?_
 rintro r10 w10 ⟨hs10,us,hr10,hu5,_,hbad,hgood⟩
 rw[hmc] at hr10 hbad hgood
 rw[hmC] at hgood
 have hsel:=λ{L:LN} {w:World} {v0 v1 v2 v3:Value}=>@UW L w c v0 v1 v2 v3 (prt q.m)
 refine Zd (Vl c.cel (prt q.m)) λE hE=>?_
 rw[hE] at hr10 hbad hgood hms
 subst hr10
 obtain ⟨c1,rfl,hc1,hA1⟩:=Qii hbad hgood
 have hA10:=hA1 [] (by simp)
 refine Qb<|x (Qp rfl rfl)<|x (Qp rfl rfl)<|xl rfl<|Qt (us:=Z3) rfl λb6 w11 hs11 hb6 hB6=>xl rfl<|Qn (us:=c1.cells) hB6 rfl rfl rfl rfl hA10.ones λw12 hs12 hB612=>Qe ?_
 have hs1012:Step [] w10 w12:=hs11.then1 hs12 hb6
 have hs912:=hs10.trans hs1012
 have hC12:=hC9.ext hs912
 have hq12:=hq9.ext hs912
 have hB312:=hB39.ext hs912
 have hB512:=hB59.ext hs912
 have hA12:=hA10.ext hs1012
 have hd12:Step [] w12 { w12 with drawn:=w12.drawn+1 }:=Step.drew _ _
 refine QU (α:=Nat×CL) [(8,9),(37,43)] (λz=>[(8,.pointer (some ⟨z.1,0,none⟩)),(9,.int .i64 E)]) (λz w'=>Step [] w12 w'∧Q2 w'.heap z.1 47 z.2.cells∧z.2.cel=(if E=0 then Kf c.cel (prt q.m) else Qal)∧Zu [] w'.heap z.2) (by rfl) ?_ ?_
 ·refine VF (α:=CL) (Step [] w12) [(0,true),(1,true)] [(2,false),(3,false),(4,true),(5,true),(6,true)] 7 8 [(8,false),(9,true)] [] [(37,43)] [(37,37),(40,43)] (λz=>[(42,z.val),(43,.int .i64 E)])
   (λz own w5=>(∀b∈own,w12.heap.size≤b)∧z.cel=(if E=0 then Kf c.cel (prt q.m) else Qal)∧∀L:LN,(∀b∈L,b∉own)→Zu L w5.heap z)
   (λv w5=>∃b,v=.pointer (some ⟨b,0,none⟩)∧w12.heap.size≤b∧Q2 w5.heap b 47 Z3) mixed (by rfl) (by kernel_rfl) (by rfl) rfl hd12 (by simp) ?_ ?_ ?_ ?_
  ·rintro v own wa wb ⟨b,rfl,hb,hB⟩ hs hn
   exact ⟨b,rfl,hb,hB.step hs (hn b (by simp[ow]))⟩
  ·rintro z own wa wb ⟨h1,h2,h3⟩ hs
   exact ⟨h1,h2,λL hL=>(h3 L hL).ext hs⟩
  ·rintro z g own wz v ⟨i1,i2,i3⟩ hCz ⟨b8,rfl,hb8,hB8⟩ hbo
   have hb8o:=(hbo b8 (by simp[ow])).1
   have hz8:=i3 [b8] (λb hb=>by rw[List.mem_singleton.1 hb];exact hb8o)
   refine pkl (hl:=by kernel_rfl)<|Qn (us:=z.cells) hB8 rfl rfl rfl rfl hz8.ones λw5 hs5 hB85=>p (λ_=>Qh)<|pe ?_
   exact ⟨(b8,z),⟨rfl,rfl,trivial⟩,hCz.then1 hs5 hb8,hB85,i2,(hz8.st hs5).up (by simp)⟩
  refine pq (λ_ hc=>Qq (hB312.ext hc) rfl rfl)<|pq (λ_ hc=>Qq (hB512.ext hc) rfl rfl) <|
   pe ⟨λg wf hCf=>Qt (us:=Z3) rfl λb wf' hsf hbf hBf=>⟨hsf,hCf.trans hsf,⟨b,rfl,Nat.le_trans hCf.size hbf,hBf⟩,λx hx=>?_⟩,?_⟩
  ·have hxe:x=b:=by
    have hx':x∈[b]:=hx
    simpa using hx'
   subst hxe
   exact ⟨hbf,hBf.lt⟩
  refine f2k λx1 p1 c1=>xf<|(Qcv hqA.one).mono ?_
  rintro r40 y1 ⟨hs1',v1,v2,v3,rfl,hP⟩
  have hP1:=hP [] (by simp)
  refine ⟨c1.trans hs1',yI x1.heap.size y1.heap.size,hs1'.any,λb hb=>.inr (ZT.1 hb),?_⟩
  refine f2k λx2 p2 c2=>xf<|(hsel (hC12.ext c2) (hq12.ext c2) (hP1.1.ext p2) (hP1.2.1.ext p2) (hP1.2.2.ext p2)).mono ?_
  rintro r41 y2 ⟨hs2',us2,hr2,_,_,hbad2,hgood2⟩
  rw[hE] at hr2 hbad2 hgood2
  subst hr2
  obtain ⟨c2',rfl,hc2',hA2⟩:=Qii hbad2 hgood2
  refine ⟨c2.trans hs2',yI x2.heap.size y2.heap.size,hs2'.any,λb hb=>.inr (ZT.1 hb),?_⟩
  refine f2p (λ_=>Qo)<|f2p (λ_=>Qp rfl rfl)<|f2p (λ_=>Qp rfl rfl)<|f2e ⟨c2',⟨rfl,rfl,trivial⟩,λb hb=>by have:=(ZT.1 hb).1;have:=c2.size;omega,hc2',λL hL=>?_⟩
  have h1:=hA2 (L.filter λb=>decide (b<x2.heap.size)) (λb hb=>by
   have:=(List.mem_filter.1 hb).2
   exact of_decide_eq_true this)
  refine h1.up λb hb=>?_
  by_cases hlt2:b<x2.heap.size
  ·exact .inl (List.mem_filter.2 ⟨hb,decide_eq_true hlt2⟩)
  ·refine .inr (Nat.not_lt.1 λh3=>hL b hb (ZT.2 ⟨by omega,h3⟩))
 rintro ⟨b8,c2⟩ g w13 ⟨hs13,hB813,hc2,hA213⟩
 simp only[] at hB813 hc2 hA213
 have hs913:=hs912.trans hs13
 have hs613:=hs69.trans hs913
 have hs013:=hs06.trans hs613
 refine Qc<|x (Qq (hB39.ext hs913) rfl rfl)<|x (Qq (hB59.ext hs913) rfl rfl)<|xl rfl<|xf<|(Qbv (hC9.ext hs913) (hq9.ext hs913) (hkb.ext hs013)).mono ?_
 rintro r14 w14 ⟨hs14,sa,st,sm,se,hr14,hon,hgs,hbs⟩
 rw[hmA] at hgs
 refine Zd (msE c.cel q.m) λG hG=>?_
 rw[hG] at hr14 hgs hbs hms
 subst hr14
 refine Qb<|x (Qp rfl rfl)<|x (Qp rfl rfl)<|xl rfl<|Qt (us:=VX) rfl λb10 w15 hs15 hb10 hB10=>xl rfl<|Qn (us:=[sa,.int .i64 st,sm,se]) hB10 rfl rfl rfl rfl ⟨hon.1,rfl,hon.2.1,hon.2.2.1,trivial⟩ λw16 hs16 hB1016=>Qe ?_
 have hs1416:Step [] w14 w16:=hs15.then1 hs16 hb10
 have hs1316:=hs14.trans hs1416
 have hs1216:=hs13.trans hs1316
 refine Qf<|QU (α:=Unit) [(50,58)] (λz=>[(58,.bool false)]) (λz w'=>Step [] w16 w') (by rfl) ?_ ?_
 ·refine Qw<|Qb<|Qb<|xb (Q8 rfl rfl) (λh52=>absurd rfl h52) (λh52=>?_)
  refine Qb<|x (Qq (hB612.ext hs1216) rfl rfl)<|x (Qq (hB813.ext hs1316) rfl rfl)<|xl rfl<|xf<|(Qc1 (hA12.ext hs1216) (hA213.ext hs1316) (hc1.trans hc2.symm)).mono ?_
  rintro r17 w17 ⟨rfl,hs17⟩
  refine x (Zn rfl)<|x (Qm rfl)<|xe ?_
  exact ⟨(),⟨rfl,trivial⟩,hs17⟩
 rintro ⟨⟩ g w17 hs17
 refine Zy rfl ?_
 refine Qi ?_
 have hs1017:=hs1416.trans hs17
 have hs717:=((hs79.trans hs913).trans hs14).trans hs1017
 refine Qf<|Qc<|Qb<|x (Q8 rfl rfl)<|xe ?_
 refine Q4 rfl (λh60=>?_) (λh60=>?_)
 ·have hE0:E≠0:=h60
  rw[if_pos hE0] at hms
  have hst0:=(hbs (by rw[hms];exact hE0)).1
  subst hms
  subst hst0
  refine Qf<|QU (α:=Unit) [(61,68)] (λz=>[(68,.bool false)]) (λz w'=>w'=w17) (by rfl) ?_ ?_
  ·refine Qw<|Qb<|Qb<|xb (Q8 rfl rfl) (λh63=>absurd rfl h63) (λh63=>?_)
   refine Qb<|x (Qa rfl)<|x (Qd (hB1016.ext hs17) rfl rfl)<|x (Q8 rfl rfl)<|x (Qm rfl)<|xe ?_
   exact ⟨(),⟨rfl,trivial⟩,rfl⟩
  rintro ⟨⟩ g w18 rfl
  refine Zy rfl ?_
  refine Qi<|Qx ?_
  refine Qw<|QO rfl rfl<|Qb<|xe ?_
  exact ⟨k+1,by omega,⟨rfl,trivial⟩,hlt,hs7.trans hs717⟩
 have hE0:E=0:=Decidable.not_not.1 h60
 rw[if_neg (by rw[hE0];decide)] at hms
 rw[if_pos hE0] at hc2
 refine Qi<|Qc<|x (Qq ((hB813.ext hs1316).ext hs17) rfl rfl)<|xl rfl<|xf<|(J6 ((hA213.ext hs1316).ext hs17) (hkb.ext ((hs013.trans hs1316).trans hs17))).mono ?_
 rintro r18 w18 ⟨hs18,ta,tm,te,hr18,hon2,hbt,hgt⟩
 rw[hc2] at hr18 hbt hgt
 refine Zd (suE (Kf c.cel (prt q.m))) λF hF=>?_
 rw[hF] at hr18 hbt hgt hms
 have hspc:Yu (Kf c.cel (prt q.m))=F:=hF
 rw[hspc] at hr18
 subst hms
 have hau:∃(A:QV) ,st=A.st∧(if G=0 then (suA (Kf c.cel (prt q.m))).st else 0)=A.st∧Zt [] w14.heap sa sm se A∧Zt [] w18.heap ta tm te A:=by
  by_cases hG0:G=0
  ·exact ⟨suA (Kf c.cel (prt q.m)),(hgs hG0).1,by rw[if_pos hG0],(hgs hG0).2 [] (by simp),hgt hG0 [] (by simp)⟩
  ·obtain ⟨e1,e2,e3,e4⟩:=hbs hG0
   obtain ⟨t1,t2,t3⟩:=hbt hG0
   subst e1;subst e2;subst e3;subst e4;subst t1;subst t2;subst t3
   exact ⟨⟨[],0,[],[]⟩,rfl,by rw[if_neg hG0],Qeu,Qeu⟩
 refine Exists.elim hau λA hA=>?_
 rw[hA.2.1] at hr18
 have hst:=hA.1
 subst hst
 subst hr18
 refine Qb<|x (Qp rfl rfl)<|x (Qp rfl rfl)<|xl rfl<|Qt (us:=VX) rfl λb12 w19 hs19 hb12 hB12=>xl rfl<|Qn (us:=[ta,.int .i64 A.st,tm,te]) hB12 rfl rfl rfl rfl ⟨hon2.1,rfl,hon2.2.1,hon2.2.2.1,trivial⟩ λw20 hs20 hB1220=>Qe ?_
 have hs1820:Step [] w18 w20:=hs19.then1 hs20 hb12
 have hs1720:=hs18.trans hs1820
 refine QU (α:=Unit) [(74,82)] (λz=>[(82,.bool false)]) (λz w'=>Step [] w20 w') (by rfl) ?_ ?_
 ·refine Qw<|Qb<|Qb<|xb (Q8 rfl rfl) (λh76=>absurd rfl h76) (λh76=>?_)
  refine Qb<|x (Qq ((hB1016.ext hs17).ext hs1720) rfl rfl)<|x (Qq hB1220 rfl rfl)<|xl rfl<|xf<|(U8 (hA.2.2.1.ext (hs1017.trans hs1720)) (hA.2.2.2.ext hs1820)).mono ?_
  rintro r21 w21 ⟨hr21,hs21⟩
  replace hr21:r21=.bool true:=hr21.trans (congrArg Value.bool (decide_eq_true ⟨rfl,rfl,rfl,rfl⟩))
  subst hr21
  refine x (Zn rfl)<|x (Qm rfl)<|xe ?_
  exact ⟨(),⟨rfl,trivial⟩,hs21⟩
 rintro ⟨⟩ g w21 hs21
 refine Zy rfl ?_
 refine Qi<|Qw<|QO rfl rfl<|Qb<|xe ?_
 exact ⟨k+1,by omega,⟨rfl,trivial⟩,hlt,hs7.trans ((hs717.trans hs1720).trans hs21)⟩
theorem YC {a b:Bool}(h1:a=true) (h2:b=true):(a && b)=true:=by rw[h1,h2];rfl
theorem zW {P:Program} {f:FuncId} {fn:Func} {s:ChangeSpec} {c:OpenClaim} (h1:(c.wf (OpenSpec.ofChange s))=true) (h2:(laidOutB P)=true) (h3:(mapsRowed P)=true) (h4:(fn.params.all (P.readableRec ·))=true) (h5:(namedTie P c.named s.vars)=true) (h6:((c.stops == []))=true) (h7:((P.stops == []))=true) (h8:((c.knobs == []))=true) (h9:((P.stopKnobs == []))=true) (h10:((c.inPlace == P.inPlace f))=true) (h11:((c.unfollowed == P.unfollowed f))=true) (h12:((c.recurses == P.recurses f))=true) (h13:((c.named == P.varsNamed f))=true) (h14:((c.maps == (fn.params.toList++s.plain.varTypes P).any (P.mapsRec ·)))=true) (h15:((c.ifaces == (fn.params.toList++s.plain.varTypes P).any (P.ifacesRec ·)))=true) (h16:((c.mapsOut == P.mapsAmong fn.resultTypes.toList))=true) (h17:((c.loops == (fn.params.toList++s.plain.varTypes P).any (P.loopsFrom ·)))=true) (h18:((c.wideKeys == (fn.params.toList++s.plain.varTypes P++fn.resultTypes.toList).any (P.wideKeysFrom ·)))=true) (h19:(s.vars.all (P.varReadable ·))=true) (h20:(fn.resultTypes.all (λt=>P.readableRec t && decide (t<P.types.size)))=true) (h21:((c.ifacesOut == fn.resultTypes.toList.any (P.ifacesRec ·)))=true) (h22:((c.loopsOut == fn.resultTypes.toList.any (P.loopsFrom ·)))=true) (h23:((c.plainKeys == P.plainKeys))=true) (h24:(c.shortTexts.isNone)=true) (h25:(P.stopsHeard)=true) (h26:(P.mayEnter)=true) (h27:((c.lifted == P.liftsFinal))=true) (h28:((P.make == some c.make))=true) (h29:((c.kinds == (if c.domain.isEmpty then [] else fn.params.toList.map λt=>match P.underlying t with | some (.int k)=>some k | _=>none)))=true) (h30:((c.pinned == c.pinnedBy))=true) (h31:((c.veiled == (fn.params.toList++s.plain.varTypes P++fn.resultTypes.toList).any (P.veiledRec ·)))=true) (h32:(c.veiledFits P fn.params.toList (fn.params.toList++s.plain.varTypes P++fn.resultTypes.toList))=true):joinedFacts P f fn s c=true:=by
 unfold joinedFacts
 exact (YC (YC (YC (YC (YC (YC (YC (YC (YC (YC (YC (YC (YC (YC (YC (YC (YC (YC (YC (YC (YC (YC (YC (YC (YC (YC (YC (YC (YC (YC (YC h1 h2) h3) h4) h5) h6) h7) h8) h9) h10) h11) h12) h13) h14) h15) h16) h17) h18) h19) h20) h21) h22) h23) h24) h25) h26) h27) h28) h29) h30) h31) h32)
theorem UD:laidOutB prog=true:=by kernel_rfl
theorem QeQ:mapsRowed prog=true:=by kernel_rfl
theorem QeS:prog.stopsHeard=true:=by kernel_rfl
theorem QeT:prog.mayEnter=true:=by kernel_rfl
theorem QeR:(false == prog.liftsFinal)=true:=by kernel_rfl
theorem Qhe:(prog.make == some Make.cut)=true:=by kernel_rfl
theorem Qhi:(Rows.moduleCellsRow.inPlace == prog.inPlace 8)=true:=by kernel_rfl
theorem Qhh:(Rows.moduleCellsRow.unfollowed == prog.unfollowed 8)=true:=by kernel_rfl
theorem Qhg:(Rows.moduleCellsRow.recurses == prog.recurses 8)=true:=by kernel_rfl
theorem Qhf:(Rows.moduleCellsRow.named == prog.varsNamed 8)=true:=by kernel_rfl
theorem Qi3:Rows.moduleCellsRow.wfByText (OpenSpec.ofChange Rows.moduleCellsSpec)=true:=by kernel_rfl
theorem Qi6:Tryz.pinned.checked.prog.mainIs=some (true, "7f1d7774d707b6ca2907d0280b916f7dc62d5f843e98687e905a54f8355f1b07".toList):=by kernel_rfl
theorem Qi5:prog.funcNamed "overseer/overseerlaw32.ModuleCells" = some 8:=by kernel_rfl
theorem Qi7:false=prog.looks []:=by kernel_rfl
theorem Qi4:([36].all λu=>!prog.wantsStandIn u)=true:=by kernel_rfl
theorem Qi8:false=Rows.moduleCellsRow.goesBy Tryz.pinned.checked.prog:=by kernel_rfl
end Go.Proofs.YtdffckgdcegpaaaGreatDoor
