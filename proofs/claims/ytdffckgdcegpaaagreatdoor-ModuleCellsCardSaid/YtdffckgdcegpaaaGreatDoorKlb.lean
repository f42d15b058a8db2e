/- Merged out of 55 texts. -/
import Derived.Test.YtdffckgdcegpaaaGreatDoorKla
import Derived.Laws.Strings
import Derived.RangeFuncNested
import Derived.RangeFuncLeaves
import Derived.RangeFuncCalls
import Derived.OrdersIn
import Derived.TacticsIn
namespace Go.Proofs.YtdffckgdcegpaaaGreatDoor
open Go.Proofs.Tryz
open Go.Lg
theorem Qax {L:LN}{w:World}{vl ve vs:Value}{ps:List AV}{ms:LN}(h:JQ L w.heap vl ve vs ps ms) (hn:ps.length≤12) :
  QJ prog 141 [.agg #[vl,ve,vs]] w λr w'=>Step [] w w' ∧
   if ∃p∈ps,p.a.st=0 then r=.tuple #[nS,.bool false] else ∃v,r=.tuple #[v,.bool true]∧Qu 3 w.heap.size w' v (List.replicate ps.length 0):=by
 refine QJ.of_W func141 rfl ntmps141 results141 (by simp) ?_
 refine Qc<|xl rfl<|QQ (us:=[vl,ve,vs]) rfl λb1 w1 hs1 hb1 hB1=>x Qh<|Qe<|Qf<|Qc<|x (Qa rfl)<|x (Qd hB1 rfl rfl)<|x (Qr h.al.arr rfl)<|Qb<|xe ?_
 refine Qg<|QA (α:=Nat) [(2,3),(5,5),(9,16)] (λz=>[(9,.int .i64 z)]) (λz w'=>z≤ps.length∧Step [] w1 w'∧∀i (h:i<ps.length),i<z→ps[i].a.st≠0) (λz=>ps.length - z) (by rfl) 0 ⟨rfl,trivial⟩
  ⟨Nat.zero_le _,Step.refl _ _,λi _ h=>by omega⟩ ?_
 rintro k g w2 ⟨hk,hs2,hnz⟩
 refine Qc<|x (QB rfl rfl)<|xe ?_
 refine Qf<|QG rfl (λh10=>?_) (λh10=>?_)
 ·refine Qx ?_
  refine Qc<|x (Qa rfl)<|x (Qd (hB1.ext hs2) rfl rfl)<|x (Qr h.al.arr rfl)<|xl rfl<|Vr (n:=ps.length) rfl rfl (by omega) λb20 w3 hs3 hb20 hB20=>x Qh<|Qe ?_
  rw[show (List.replicate ps.length (Value.int .i64 0).cells.toList).flatten=((List.replicate ps.length 0).map (Value.int .i64)) by rw[show (Value.int .i64 0).cells.toList=[Value.int .i64 0] from rfl,yJ,List.map_replicate]] at hB20
  have hz:=(hs1.trans hs2).size
  refine Ql ⟨[.slice (some ⟨b20,0,none⟩) ps.length ps.length,.bool true],⟨rfl,rfl,trivial⟩,(hs1.trans hs2).trans hs3,?_⟩
  rw[if_neg (by
   rintro ⟨p,hp,h0⟩
   obtain ⟨i,hi,rfl⟩:=List.getElem_of_mem hp
   exact hnz i hi (by omega) h0)]
  refine ⟨_,rfl,?_⟩
  have:=hB20.own (n:=ps.length) (sz:=1) (base:=w.heap.size) (by simp) (by omega) (by omega)
  unfold Qu
  rw[List.length_replicate];exact this
 have hlt:k<ps.length:=by omega
 have hA:=h.al.each ps[k] (List.getElem_mem hlt)
 refine Qi<|Qf<|Qg<|Qc<|xig Kq ((h.al.ext hs1).ext hs2).arr rfl rfl hlt λa11 h11=>x (QC h11 rfl rfl)<|xl rfl<|Qt (us:=[nS,.int .i64 0,nS,nS]) rfl λb5 w4 hs4 hb5 hB5 =>
  xl rfl<|Qn (us:=Zm ps[k]) hB5 rfl rfl rfl rfl ⟨hA.al.one,rfl,hA.mr.one,hA.ed.one,trivial⟩ λw5 hs5 hB5=>xe ?_
 have hs25:Step [] w2 w5:=hs4.then1 hs5 hb5
 refine Qc<|x (Qa rfl)<|x (Qd hB5 rfl rfl)<|x (Q7 rfl rfl)<|xe ?_
 refine Q4 rfl (λh15=>?_) (λh15=>?_)
 ·refine Qc<|x Qh<|Qe<|Ql ⟨[nS,.bool false],⟨rfl,rfl,trivial⟩,(hs1.trans hs2).trans hs25,?_⟩
  rw[if_pos ⟨ps[k],List.getElem_mem hlt,h15⟩];rfl
 refine Qi<|Qw<|QO rfl rfl<|Qb<|xe ?_
 refine ⟨k+1,by omega,⟨rfl,trivial⟩,hlt,hs2.trans hs25,λi hi hik=>?_⟩
 by_cases e:i=k
 ·subst e;exact h15
 ·exact hnz i hi (by omega)
theorem Qao {aa:List QV}{ts:LI}{k:Nat}(h:k<aa.length) (h':k<ts.length):Xk (aa.drop k) (ts.drop k)=(decide (ts[k]∈aa[k].mr) && Xk (aa.drop (k+1)) (ts.drop (k+1))):=by
 rw[List.drop_eq_getElem_cons h,List.drop_eq_getElem_cons h',Xk]
theorem QcD {L:LN}{w:World}{vl ve vs vt:Value}{ps:List AV}{ms:LN}{ts:LI}(h:JQ L w.heap vl ve vs ps ms) (ht:QL L w.heap vt ts) (hl:ts.length=ps.length) (hi:∀p∈ps,Yi p.a.mr) (hn:ps.length≤12) :
  QJ prog 143 [.agg #[vl,ve,vs],vt] w λr w'=>r=.bool (Xk (ps.map (·.a)) ts)∧Step [] w w':=by
 refine QJ.of_W func143 rfl ntmps143 results143 (by simp) ?_
 refine Qc<|xl rfl<|QQ (us:=[vl,ve,vs]) rfl λb2 w1 hs1 hb2 hB2=>Qe<|Qf<|Qc<|x (Qa rfl)<|x (Qd hB2 rfl rfl)<|x (Qr h.al.arr rfl)<|Qb<|xe ?_
 refine Qg<|QA (α:=Nat) [(4,6),(10,23)] (λz=>[(10,.int .i64 z)]) (λz w'=>z≤ps.length∧Step [] w w'∧Xk (ps.map (·.a)) ts=Xk ((ps.map (·.a)).drop z) (ts.drop z)) (λz=>ps.length - z) (by rfl) 0 ⟨rfl,trivial⟩
  ⟨Nat.zero_le _,hs1,rfl⟩ ?_
 rintro k g w2 ⟨hk,hs2,hmk⟩
 refine Qc<|x (QB rfl rfl)<|xe ?_
 refine Qf<|QG rfl (λh11=>?_) (λh11=>?_)
 ·refine Qx ?_
  refine Qc<|Qe<|Ql ⟨[.bool true],⟨rfl,trivial⟩,?_,hs2⟩
  rw[hmk,List.drop_of_length_le (by simp;omega)];rfl
 have hlt:k<ps.length:=by omega
 have hlt':k<ts.length:=by omega
 have hA:=h.al.each ps[k] (List.getElem_mem hlt)
 rw[Qao (by simpa using hlt) hlt',List.getElem_map] at hmk
 refine Qi<|Qf<|Qg<|Qc<|Qb<|xig Kq (h.al.ext hs2).arr rfl rfl hlt λa13 h13=>x (QC h13 rfl rfl)<|xl rfl<|Qt (us:=[nS,.int .i64 0,nS,nS]) rfl λb6 w3 hs3 hb6 hB6=>x Qh <|
  xl rfl<|Qn (us:=Zm ps[k]) hB6 rfl rfl rfl rfl ⟨hA.al.one,rfl,hA.mr.one,hA.ed.one,trivial⟩ λw4 hs4 hB6=>xe ?_
 have hs24:Step [] w2 w4:=hs3.then1 hs4 hb6
 have hst:=hs2.trans hs24
 refine Qf<|QS (Step [] w4) [(0,true),(1,true),(2,true),(3,true),(4,true),(5,true),(6,false),(7,true)] mixed (by rfl) (by kernel_rfl) (Step.drew _ _) ?_
 refine p (λ_=>Qa rfl)<|pq (λ_ hc=>Qd (hB6.ext hc) rfl rfl)<|p (λ_=>Qo)<|p (λ_=>Qo)<|pii rfl (ht.ext hst) rfl rfl hlt' λa19 h19 =>
  pq (λ_ hc=>Qv (h19.ext hc) rfl)<|pk<|xf<|(XS ((hA.mr.ext hst).ext (Step.drew _ _)) (hi ps[k] (List.getElem_mem hlt)) _).mono ?_
 rintro r5 w5 ⟨rfl,rfl⟩
 refine ⟨Step.drew _ _,?_⟩
 refine p (λ_=>Zn rfl)<|pe ?_
 have hst5:=hst.trans (Step.drew [] w4)
 refine Q5 rfl (λh22=>?_) (λh22=>?_)
 ·refine Qc<|Qe<|Ql ⟨[.bool false],⟨rfl,trivial⟩,?_,hst5⟩
  rw[hmk,show decide (ts[k]∈ps[k].a.mr)=false by simpa using h22];rfl
 refine Qi<|Qw<|QO rfl rfl<|Qb<|xe ?_
 refine ⟨k+1,by omega,⟨rfl,trivial⟩,hlt,hst5,?_⟩
 rw[hmk,show decide (ts[k]∈ps[k].a.mr)=true by simpa using h22,Bool.true_and]
theorem j2 {aa:List QV}{ts:LI}{k:Nat}{v:Int}(h:k<aa.length) (h':k<ts.length):Yg v (aa.drop k) (ts.drop k) =
  if v∉aa[k].al then (Yg v (aa.drop (k+1)) (ts.drop (k+1))).map (ts[k]::·) else match eget aa[k].ed ts[k] v with | none=>none | some u=>(Yg v (aa.drop (k+1)) (ts.drop (k+1))).map (u::·):=by
 rw[List.drop_eq_getElem_cons h,List.drop_eq_getElem_cons h']
 show (if v∉aa[k].al then _ else _)=_
 split
 ·rfl
 ·cases eget aa[k].ed ts[k] v <;> rfl
theorem Qeb {L:LN}{w:World}{vl ve vs vt:Value}{ps:List AV}{ms:LN}{ts:LI}(h:JQ L w.heap vl ve vs ps ms) (ht:QL L w.heap vt ts) (hl:ts.length=ps.length) (hi:∀p∈ps,Yi p.a.al)
  (hed:∀p∈ps,p.a.ed.Pairwise λx y=>x.1<y.1∨(x.1=y.1∧x.2.1<y.2.1)) (hn:ps.length≤12) (v:Int) :
  QJ prog 144 [.agg #[vl,ve,vs],vt,.int .i64 v] w λr w'=>Step [] w w' ∧
   match Yg v (ps.map (·.a)) ts with | none=>r=.tuple #[nS,.bool false] | some u=>∃v',r=.tuple #[v',.bool true]∧Qu 3 w.heap.size w' v' u:=by
 refine QJ.of_W func144 rfl ntmps144 results144 (by simp) ?_
 refine Qc<|xl rfl<|QQ (us:=[vl,ve,vs]) rfl λb3 w1 hs1 hb3 hB3=>x Qh<|Qe<|Qc<|Qb<|xl rfl<|xf<|(ZU (ht.ext hs1)).mono ?_
 rintro vx w2 ⟨hs2,hx2⟩
 refine Qe ?_
 have hz1:=hs1.size
 have hz2:=hs2.size
 have hl3:=hB3.lt
 have hW2:=hs1.trans hs2
 refine Qf<|Qc<|x (Qa rfl)<|x (Qd (hB3.ext hs2) rfl rfl)<|x (Qr h.al.arr rfl)<|Qb<|xe ?_
 have hge:=Qk hx2
 have hM2:JQ (ob vx) w2.heap vl ve vs ps ms:=((h.up (L':=ob vx) (λb hb=>.inr (by have:=(hge b hb).1;omega))).ext hW2)
 have hT2:QL (ob vx) w2.heap vt ts:=((ht.up (L':=ob vx) (λb hb=>.inr (by have:=(hge b hb).1;omega))).ext hW2)
 refine Qg<|QA (α:=Nat×LI) [(6,7),(9,12),(18,49)] (λz=>[(18,.int .i64 z.1)])
  (λz w'=>z.1≤ps.length∧z.2.length=z.1∧Step (ob vx) w2 w'∧Qu 3 w1.heap.size w' vx (z.2++ts.drop z.1)∧Yg v (ps.map (·.a)) ts=(Yg v ((ps.map (·.a)).drop z.1) (ts.drop z.1)).map (z.2++·)) (λz=>ps.length - z.1) (by rfl) (0,[]) ⟨rfl,trivial⟩
  ⟨Nat.zero_le _,rfl,Step.refl _ _,hx2,by simp⟩ ?_
 rintro ⟨k,pre⟩ g w3 ⟨hk,hpl,hs3,hx3,hst⟩
 simp only[] at hk hpl hx3 hst
 have hz3:=hs3.size
 have hW3:Step [] w w3:=hW2.then hs3 (λb hb=>.inr (by have:=(hge b hb).1;omega))
 refine Qc<|x (QB rfl rfl)<|xe ?_
 refine Qf<|QG rfl (λh19=>?_) (λh19=>?_)
 ·refine Qx ?_
  refine Qc<|Qb<|x Qh<|Qe<|Ql ⟨[vx,.bool true],⟨rfl,rfl,trivial⟩,hW3,?_⟩
  rw[List.drop_of_length_le (by simp;omega),List.drop_of_length_le (by omega)] at hst
  rw[List.drop_of_length_le (by omega)] at hx3
  rw[hst]
  simp only[Yg,Option.map_some]
  exact ⟨vx,rfl,Zo hx3 hz1⟩
 have hlt:k<ps.length:=by omega
 have hlt':k<ts.length:=by omega
 have hltm:k<ms.length:=by rw[h.ml];exact hlt
 have hA:=h.al.each ps[k] (List.getElem_mem hlt)
 rw[j2 (by simpa using hlt) hlt',List.getElem_map] at hst
 have hM3:=hM2.st hs3
 have hT3:=hT2.st hs3
 refine Qi<|Qf<|Qg<|Qc<|Qb<|xig Kq hM3.al.arr rfl rfl hlt λa21 h21=>x (QC h21 rfl rfl)<|xl rfl<|Qt (us:=[nS,.int .i64 0,nS,nS]) rfl λb10 w4 hs4 hb10 hB10=>x Qh <|
  xl rfl<|Qn (us:=Zm ps[k]) hB10 rfl rfl rfl rfl ⟨hA.al.one,rfl,hA.mr.one,hA.ed.one,trivial⟩ λw5 hs5 hB10=>xe ?_
 have hs35:Step [] w3 w5:=hs4.then1 hs5 hb10
 have hW5:=hW3.trans hs35
 refine Qf<|Qc<|x (Qa rfl)<|x (Qd hB10 rfl rfl)<|Qb<|xl rfl<|xf<|(XS (hA.al.ext hW5) (hi ps[k] (List.getElem_mem hlt)) v).mono ?_
 rintro r6 w6 ⟨rfl,rfl⟩
 refine x (Zn rfl)<|xe ?_
 have hdr:=QX hlt'
 refine Q5 rfl (λh27=>?_) (λh27=>?_)
 ·have hna:v∉ps[k].a.al:=by simpa using h27
  refine Qx ?_
  refine Qw<|QO rfl rfl<|Qb<|xe ?_
  refine ⟨(k+1,pre++[ts[k]]),by simp only[];omega,⟨rfl,trivial⟩,hlt,by simp[hpl],hs3.trans hs35,?_,?_⟩
  ·simp only[List.append_assoc,List.singleton_append]
   rw[←hdr];exact Qs hx3 hs35
  ·simp only[]
   rw[hst,if_pos hna,Option.map_map]
   congr 1;funext l;simp
 have hya:¬(v∉ps[k].a.al):=by simpa using h27
 rw[if_neg hya] at hst
 refine Qi ?_
 have hB3':=(hB3.ext hs2).step hs3 (λhb=>by have:=(hge b3 hb).1;omega)
 have hM5:=hM3.ext hs35
 obtain ⟨hmk,hmo⟩:=hM5.mp k hltm hlt
 refine Qf<|QS (Step [] w6) [(0,true),(1,true),(2,true),(3,true),(4,true),(5,true),(6,true),(7,true),(8,true),(9,true),(10,true),(11,true),(12,true),(13,true),(14,true),(15,true),(16,true)] mixed (by rfl) (by kernel_rfl) (Step.drew _ _) ?_
 refine p (λ_=>Qa rfl)<|pq (λ_ hc=>Qd ((hB3'.ext hs35).ext hc) rfl rfl)<|p (λ_=>Qo)<|pig rfl (g:=Qbw) (λ_=>rfl) hM5.sl rfl rfl hltm λa32 h32 =>
  pq (λ_ hc=>Qv (h32.ext hc) rfl)<|p (λ_=>Qo)<|p (λ_=>Qo)<|pii rfl (hT3.ext hs35) rfl rfl hlt' λa36 h36=>pq (λ_ hc=>Qv (h36.ext hc) rfl) <|
  p (λ_=>Qo)<|p (λ_=>QE ⟨rfl,rfl,trivial⟩)<|pq (λ_ hc=>KK (k:=(ts[k],v)) (hmk.ext hc) rfl rfl)<|?_
 rw[qY ps[k].a.ed [] ts[k] v (hed ps[k] (List.getElem_mem hlt))]
 have hs36:Step [] w3 { w6 with drawn:=w6.drawn+1 }:=hs35.trans (Step.drew [] w6)
 cases he:eget ps[k].a.ed ts[k] v with
 | none =>
  rw[he] at hst
  refine p (λ_=>Qo)<|p (λ_=>Qp rfl rfl)<|p (λ_=>Qp rfl rfl)<|p (λ_=>Qh)<|p (λ_=>Qh)<|pe ?_
  refine Qf<|Qc<|Qb<|x (Zn rfl)<|xe ?_
  refine U1 rfl ?_
  refine Qc<|x Qh<|Qe<|Ql ⟨[nS,.bool false],⟨rfl,rfl,trivial⟩,hW3.trans hs36,?_⟩
  rw[hst];rfl
 | some u =>
  rw[he] at hst
  refine p (λ_=>Qo)<|p (λ_=>Qp rfl rfl)<|p (λ_=>Qp rfl rfl)<|p (λ_=>Qh)<|p (λ_=>Qh)<|pe ?_
  refine Qf<|Qc<|Qb<|x (Zn rfl)<|xe ?_
  refine Zy rfl ?_
  refine Qi ?_
  have hx6:=Qs hx3 hs36
  have hlen:(pre++ts.drop k).length=ts.length:=by simp;omega
  obtain ⟨gx,cx,hvx⟩:=Qcx hx3 (by omega)
  have hobx:ob vx=[gx]:=by rw[hvx];rfl
  refine Qw<|Qb<|Qb<|Qb<|x (Zk hvx rfl (by omega))<|xl rfl<|Qej (u:=.int .i64 u) (by rw[hvx] at hx6;exact hx6) rfl rfl (by omega) rfl λw7 hs7 hx7=>xe ?_
  refine Qw<|QO rfl rfl<|Qb<|xe ?_
  have hset:(pre++ts.drop k).set k u=(pre++[u])++ts.drop (k+1):=by
   rw[hdr,List.set_append_right _ _ (by omega),hpl,Nat.sub_self,List.set_cons_zero,List.append_assoc];rfl
  refine ⟨(k+1,pre++[u]),by simp only[];omega,⟨rfl,trivial⟩,hlt,by simp[hpl],(hs3.trans hs36).then hs7 (λb hb=>.inl (by rw[hobx];exact hb)),?_,?_⟩
  ·simp only[]
   rw[←hset]
   unfold Qu
   rw[List.length_set,List.map_set,hvx];exact hx7
  ·simp only[]
   rw[hst,Option.map_map]
   congr 1;funext l;simp
theorem KB {n:Nat}(h:n<256):(UInt8.ofNat n).toNat=n:=by
 simp[Nat.mod_eq_of_lt h]
theorem jt (u:Nat):(32:UInt8)∉Lib.decDigits u:=by
 induction u using Nat.strongRecOn with
 | _ u ih =>
  unfold Lib.decDigits
  split
  ·intro h
   simp only[List.mem_singleton] at h
   have:=congrArg UInt8.toNat h
   rw[KB (by omega)] at this
   have h32:(32:UInt8).toNat=32:=rfl
   omega
  ·intro h
   rcases List.mem_append.1 h with h | h
   ·exact ih _ (by omega) h
   ·simp only[List.mem_singleton] at h
    have:=congrArg UInt8.toNat h
    rw[KB (by omega)] at this
    have h32:(32:UInt8).toNat=32:=rfl
    omega
def dval (l:List UInt8):Nat:=l.foldl (λa b=>a*10+(b.toNat - 48)) 0
theorem jr (u:Nat):dval (Lib.decDigits u)=u:=by
 induction u using Nat.strongRecOn with
 | _ u ih =>
  unfold Lib.decDigits
  split
  ·simp only[dval,List.foldl_cons,List.foldl_nil]
   rw[KB (by omega)];omega
  ·have:=ih (u / 10) (by omega)
   unfold dval at *
   rw[List.foldl_append,this]
   simp only[List.foldl_cons,List.foldl_nil]
   rw[KB (by omega)];omega
theorem Qa8:∀{a b r r':List UInt8},(32:UInt8)∉a→(32:UInt8)∉b→a++32::r=b++32::r'→a=b∧r=r'
 | [],[],_,_,_,_,h=>by simpa using h
 | [],y::b,_,_,_,hb,h=>by simp at h;exact absurd h.1 (by intro e;exact hb (by simp[e]))
 | x::a,[],_,_,ha,_,h=>by simp at h;exact absurd h.1 (by intro e;exact ha (by simp[e]))
 | x::a,y::b,_,_,ha,hb,h=>by
  simp only[List.cons_append,List.cons.injEq] at h
  have:=Qa8 (λe=>ha (List.mem_cons_of_mem _ e)) (λe=>hb (List.mem_cons_of_mem _ e)) h.2
  exact ⟨by rw[h.1,this.1],this.2⟩
theorem ja:∀{l l':LI},(∀n∈l,0≤n)→(∀n∈l',0≤n)→Xs l=Xs l'→l=l'
 | [],[],_,_,_=>rfl
 | [],y::b,_,_,h=>by simp[Xs] at h
 | x::a,[],_,_,h=>by simp[Xs] at h
 | x::a,y::b,ha,hb,h=>by
  have h':Lib.decDigits x.toNat++32::Xs a=Lib.decDigits y.toNat++32::Xs b:=by simpa[Xs] using h
  obtain ⟨h1,h2⟩:=Qa8 (jt _) (jt _) h'
  have h3:x.toNat=y.toNat:=by rw[←jr x.toNat,←jr y.toNat,h1]
  have h4:=ja (λn hn=>ha n (List.mem_cons_of_mem _ hn)) (λn hn=>hb n (List.mem_cons_of_mem _ hn)) h2
  have h5:=ha x List.mem_cons_self
  have h6:=hb y List.mem_cons_self
  rw[h4,show x=y by omega]
def Js (l:LI):ByteArray:=⟨(Xs l).toArray⟩
theorem QeK {l l':LI}(h1:∀n∈l,0≤n) (h2:∀n∈l',0≤n) (h:Js l=Js l'):l=l':=by
 refine ja h1 h2 ?_
 have:=congrArg (λb:ByteArray=>b.data.toList) h
 simpa[Js] using this
def VH (n:Nat) (m:List (ByteArray×Value)) (tup:List (LI)):Prop :=
 ∀u:LI,u.length=n→(∀x∈u,0≤x)→mget m (Js u)=if u∈tup then some (.int .i64 (tup.idxOf u:Int)) else none
theorem VH.add {n:Nat}{m:List (ByteArray×Value)}{tup:List (LI)}(h:VH n m tup) {u:LI}(hu:u∉tup) (h0:∀x∈u,0≤x):VH n (mput m (Js u) (.int .i64 (tup.length:Int))) (tup++[u]):=by
 intro v hv h1
 rw[X3]
 by_cases e:u=v
 ·subst e
  rw[if_pos rfl,if_pos (by simp),List.idxOf_append,if_neg hu];simp
 ·rw[if_neg (λhk=>e (QeK h0 h1 hk)),h v hv h1]
  by_cases hm:v∈tup
  ·rw[if_pos hm,if_pos (by simp[hm]),List.idxOf_append,if_pos hm]
  ·rw[if_neg hm,if_neg (by simp[hm,Ne.symm e])]
structure zd (N b2 b38 b37:Nat) (ve:Value) (wS:World) (s:Sy) (m:List (ByteArray×Value)) (qs:List TV) (vt vk vd:Value) (w:World):Prop where
 st:Step [b2,b38,b37] wS w
 A:Q2 w.heap b2 58 [ve,.int .i64 0,vk,vd]
 M:Z2 Xl w.heap b38 m
 t:qq 37 N w vt qs
 tb:∀b∈ob vt,b=b37∨wS.heap.size≤b
 k:Qu 3 wS.heap.size w vk s.mk'
 e:Z4 144 wS.heap.size w vd s.ed
 q:qs.map (·.2)=s.tup
 el:∀p∈qs,Qu 3 N w p.1 p.2
 sep:∀p∈qs,∀b∈ob p.1,b≠b38∧b∉ob vt∧b∉ob vk∧b∉ob vd
 d1:Dj vt vk
 d2:Dj vt vd
 d3:Dj vk vd
section
variable {N b2 b38 b37:Nat} {ve:Value} {wS:World} {s:Sy} {m:List (ByteArray×Value)} {qs:List TV} {vt vk vd:Value} {w w' w'':World}
theorem zd.ext (h:zd N b2 b38 b37 ve wS s m qs vt vk vd w) (hs:Step [] w w'):zd N b2 b38 b37 ve wS s m qs vt vk vd w' :=
 ⟨h.st.trans hs,h.A.ext hs,h.M.ext hs,Qs h.t hs,h.tb,Qs h.k hs,Qs h.e hs,h.q,λp hp=>Qs (h.el p hp) hs,h.sep,h.d1,h.d2,h.d3⟩
structure SyN (N b2 b38 b37:Nat) (wS:World):Prop where
 l2:b2<N
 l38:b38<wS.heap.size
 l37:b37<wS.heap.size
 n37:N≤b37
 n38:b37<b38
 nS:N≤wS.heap.size
theorem zd.setK (h:zd N b2 b38 b37 ve wS s m qs vt vk vd w) (n:SyN N b2 b38 b37 wS) {vk':Value}{l:LI}(hs:Step (ob vk) w w') (hk':Qu 3 wS.heap.size w' vk' l)
  (hn:∀b∈ob vk',b∈ob vk∨w.heap.size≤b) (hs2:Step [b2] w' w'') (hB:Q2 w''.heap b2 58 [ve,.int .i64 0,vk',vd]):zd N b2 b38 b37 ve wS ⟨s.tup,l,s.ed⟩ m qs vt vk' vd w'':=by
 have hge:=Qk h.k
 have l2:=n.l2;have l38:=n.l38;have n37:=n.n37;have n38:=n.n38;have nS:=n.nS
 refine ⟨(h.st.then hs (λb hb=>.inr (hge b hb).1)).then hs2 (λb hb=>.inl (by simp at hb;simp[hb])),hB,(h.M.step hs (QM h.k (by omega))).step hs2 (by simp;omega),
  Qj (Qj h.t hs h.d1) hs2 (λb hb=>by have:=(Qk h.t b hb).1;simp;omega),h.tb,Qj hk' hs2 (λb hb=>by have:=(Qk hk' b hb).1;simp;omega),
  Qj (Qj h.e hs h.d3.symm) hs2 (λb hb=>by have:=(Qk h.e b hb).1;simp;omega),h.q,
  λp hp=>Qj (Qj (h.el p hp) hs (λb hb=>(h.sep p hp b hb).2.2.1)) hs2 (λb hb=>by have:=(Qk (h.el p hp) b hb).1;simp;omega),
  λp hp b hb=>⟨(h.sep p hp b hb).1,(h.sep p hp b hb).2.1,λhb'=>?_,(h.sep p hp b hb).2.2.2⟩,h.d1.grow hn (QR h.t),h.d2,(h.d3.symm.grow hn (QR h.e)).symm⟩
 rcases hn b hb' with h1 | h1
 ·exact (h.sep p hp b hb).2.2.1 h1
 ·have:=QR (h.el p hp) b hb;omega
theorem zd.setE (h:zd N b2 b38 b37 ve wS s m qs vt vk vd w) (n:SyN N b2 b38 b37 wS) {vd':Value}{l:List Ed}(hs:Step (ob vd) w w') (hk':Z4 144 wS.heap.size w' vd' l)
  (hn:∀b∈ob vd',b∈ob vd∨w.heap.size≤b) (hs2:Step [b2] w' w'') (hB:Q2 w''.heap b2 58 [ve,.int .i64 0,vk,vd']):zd N b2 b38 b37 ve wS ⟨s.tup,s.mk',l⟩ m qs vt vk vd' w'':=by
 have hge:=Qk h.e
 have l2:=n.l2;have l38:=n.l38;have n37:=n.n37;have n38:=n.n38;have nS:=n.nS
 refine ⟨(h.st.then hs (λb hb=>.inr (hge b hb).1)).then hs2 (λb hb=>.inl (by simp at hb;simp[hb])),hB,(h.M.step hs (QM h.e (by omega))).step hs2 (by simp;omega),
  Qj (Qj h.t hs h.d2) hs2 (λb hb=>by have:=(Qk h.t b hb).1;simp;omega),h.tb,Qj (Qj h.k hs h.d3) hs2 (λb hb=>by have:=(Qk h.k b hb).1;simp;omega),
  Qj hk' hs2 (λb hb=>by have:=(Qk hk' b hb).1;simp;omega),h.q,
  λp hp=>Qj (Qj (h.el p hp) hs (λb hb=>(h.sep p hp b hb).2.2.2)) hs2 (λb hb=>by have:=(Qk (h.el p hp) b hb).1;simp;omega),
  λp hp b hb=>⟨(h.sep p hp b hb).1,(h.sep p hp b hb).2.1,(h.sep p hp b hb).2.2.1,λhb'=>?_⟩,h.d1,h.d2.grow hn (QR h.t),h.d3.grow hn (QR h.k)⟩
 rcases hn b hb' with h1 | h1
 ·exact (h.sep p hp b hb).2.2.2 h1
 ·have:=QR (h.el p hp) b hb;omega
theorem zd.setM (h:zd N b2 b38 b37 ve wS s m qs vt vk vd w) (n:SyN N b2 b38 b37 wS) {m':List (ByteArray×Value)}(hs:Step [b38] w w') (hm:Z2 Xl w'.heap b38 m'):zd N b2 b38 b37 ve wS s m' qs vt vk vd w':=by
 have l2:=n.l2;have l38:=n.l38;have n37:=n.n37;have n38:=n.n38;have nS:=n.nS
 exact ⟨h.st.then hs (λb hb=>.inl (by simp at hb;simp[hb])),h.A.step hs (by simp;omega),hm,Qj h.t hs (λb hb=>by have:=h.tb b hb;simp;omega),h.tb,
  Qj h.k hs (λb hb=>by have:=(Qk h.k b hb).1;simp;omega),Qj h.e hs (λb hb=>by have:=(Qk h.e b hb).1;simp;omega),h.q,
  λp hp=>Qj (h.el p hp) hs (λb hb=>by have:=(h.sep p hp b hb).1;simpa using this),h.sep,h.d1,h.d2,h.d3⟩
theorem zd.setT (h:zd N b2 b38 b37 ve wS s m qs vt vk vd w) (n:SyN N b2 b38 b37 wS) {vt' vx:Value}{u:LI}(hx:Qu 3 wS.heap.size w vx u) (hxs:∀b∈ob vx,b∉ob vt∧b∉ob vk∧b∉ob vd) (hs:Step (ob vt) w w')
  (ht':qq 37 N w' vt' (qs++[(vx,u)])) (hn:∀b∈ob vt',b∈ob vt∨w.heap.size≤b):zd N b2 b38 b37 ve wS ⟨s.tup++[u],s.mk',s.ed⟩ m (qs++[(vx,u)]) vt' vk vd w':=by
 have l2:=n.l2;have l38:=n.l38;have n37:=n.n37;have n38:=n.n38;have nS:=n.nS
 have hwz:=h.st.size
 have nott:∀c,c<w.heap.size→c∉ob vt→c∉ob vt':=λc hc hv hv'=>by
  rcases hn c hv' with h1 | h1
  ·exact hv h1
  ·omega
 refine ⟨h.st.then hs (λb hb=>by have:=h.tb b hb;simp;omega),h.A.step hs (λhb=>by have:=h.tb b2 hb;omega),h.M.step hs (λhb=>by have:=h.tb b38 hb;omega),ht',
  λb hb=>?_,Qj h.k hs h.d1.symm,Qj h.e hs h.d2.symm,by rw[List.map_append,h.q];rfl,λp hp=>?_,λp hp b hb=>?_,(h.d1.symm.grow hn (QR h.k)).symm,(h.d2.symm.grow hn (QR h.e)).symm,h.d3⟩
 ·rcases hn b hb with h1 | h1
  ·exact h.tb b h1
  ·exact .inr (by omega)
 ·rcases List.mem_append.1 hp with hp | hp
  ·exact Qj (h.el p hp) hs (λb hb=>(h.sep p hp b hb).2.1)
  ·simp only[List.mem_singleton] at hp
   subst hp
   exact Zo (Qj hx hs (λb hb=>(hxs b hb).1)) nS
 ·rcases List.mem_append.1 hp with hp | hp
  ·have:=h.sep p hp b hb
   exact ⟨this.1,nott b (QR (h.el p hp) b hb) this.2.1,this.2.2⟩
  ·simp only[List.mem_singleton] at hp
   subst hp
   have h1:=(Qk hx b hb)
   have h2:=hxs b hb
   exact ⟨by omega,nott b h1.2 h2.1,h2.2⟩
end
theorem Qlb {α:Type}(o:Option α):o=none∨∃t,o=some t:=by cases o;exact .inl rfl;exact .inr ⟨_,rfl⟩
def zA:Value:=.agg #[nS,.int .i64 0,nS,nS]
def Zb:Value:=nS
def Yc (N:Nat) (H:Array Obj) (aa:List QV) (va vt:Value) (c:Int):Prop :=
 if Vf aa≠0 then c=Vf aa∧va=zA∧vt=Zb else match sync aa with
  | none=>c=3∧va=zA∧vt=Zb
  | some z=>c=0∧Xr N H va z.1∧QaS N H vt z.2
def Yj (s:Sy) (u:LI):Sy:=if u∈s.tup then s else ⟨s.tup++[u],s.mk',s.ed⟩
theorem QdE (s:Sy) (u:LI):(Yj s u).mk'=s.mk':=by unfold Yj;split <;> rfl
theorem QdF (s:Sy) (u:LI):(Yj s u).ed=s.ed:=by unfold Yj;split <;> rfl
theorem Qgs {aa:List QV}{i:Nat}{t u:LI}{s:Sy}{v:Int}(h:Yg v aa t=some u) (hl:u∈s.tup∨s.tup.length≠4096) :
  syE aa i t s v=some ⟨(Yj s u).tup,(Yj s u).mk',(Yj s u).ed++[((i:Int),v,((Yj s u).tup.idxOf u:Int))]⟩:=by
 unfold syE Yj
 rw[h]
 simp only[]
 by_cases hu:u∈s.tup
 ·simp only[if_pos hu]
 ·simp only[if_neg hu]
  rw[if_neg (by rcases hl with h1 | h1;exact absurd h1 hu;exact h1),List.idxOf_append,if_neg hu];simp
theorem QdD {aa:List QV}{i:Nat}{t u:LI}{s:Sy}{v:Int}(h:Yg v aa t=some u) (hu:u∉s.tup) (hl:s.tup.length=4096):syE aa i t s v=none:=by
 unfold syE
 rw[h]
 simp only[]
 rw[if_neg hu,if_pos hl]
theorem QdB {aa:List QV}{i:Nat}{t:LI}{s:Sy}{v:Int}(h:Yg v aa t=none):syE aa i t s v=some s:=by
 unfold syE;rw[h]
theorem Qj6 {s:Sy}{qs:List TV}{i:Nat}(hq:qs.map (·.2)=s.tup) (h:i<qs.length):qy s i=qs[i].2:=by
 unfold qy;rw[←hq];simp[List.getD,h]
theorem Vt.bd {aa:List QV}{t:LI}(h:Vt aa t) {m:Int}(hm:∀a∈aa,a.st≤m):∀x∈t,0≤x∧x<m:=by
 intro x hx
 obtain ⟨i,hi,rfl⟩:=List.getElem_of_mem hx
 have hi':i<aa.length:=by rw[←h.1];exact hi
 have:=h.2 i hi hi'
 have:=hm aa[i] (List.getElem_mem hi')
 omega
set_option maxHeartbeats 20000000 in
theorem jP {L:LN}{w:World}{vl:Value}{ps:List AV}{km:Int}(h:Xx L w.heap vl ps) (hkb:Kb w km) (hk0:0<km) (hst:∀p∈ps,p.a.st≤km) :
  QJ prog 69 [vl] w λr w'=>Step [] w w'∧∃va vt c,r=.tuple #[va,vt,.int .i64 c]∧Yc w.heap.size w'.heap (ps.map (·.a)) va vt c:=by
 refine QJ.of_W func69 rfl ntmps69 results69 (by simp) ?_
 generalize haa:ps.map (·.a)=aa
 refine Qc<|xl rfl<|Qt (us:=[nS,.int .i64 0,nS,nS]) rfl λb2 w1 hs1 hb2 hB2=>x Qh<|Qe ?_
 have hz1:=hs1.size
 have hl2:=hB2.lt
 refine Qf<|Qc<|Qb<|xl rfl<|xf<|(Qcw (h.ext hs1)).mono ?_
 rintro r2 w2 ⟨rfl,hs2⟩
 refine Qe ?_
 rw[haa]
 refine Qc<|Qb<|x (Q8 rfl rfl)<|xe ?_
 refine Q4 rfl (λh20=>?_) (λh20=>?_)
 ·refine Qc<|x (QE trivial)<|Qb<|xl rfl<|Qn (us:=[nS,.int .i64 0,nS,nS]) (hB2.ext hs2) rfl rfl rfl rfl ⟨rfl,rfl,rfl,rfl,trivial⟩ λw3 hs3 hB3=>x Qh<|Qe<|Ql ⟨[zA,Zb,.int .i64 (Vf aa)],⟨⟨_,rfl,Qz rfl (hB3.at (L:=[]) (by simp)).cells⟩,rfl,rfl,trivial⟩,(hs1.trans hs2).then1 hs3 hb2,zA,Zb,Vf aa,rfl,?_⟩
  unfold Yc;rw[if_pos h20];exact ⟨rfl,rfl,rfl⟩
 have hck:Vf aa=0:=Decidable.not_not.1 h20
 have hn:ps.length≤12:=by
  unfold Vf at hck
  split at hck
  ·cases hck
  ·rename_i h1;rw[←haa] at h1;simp at h1;exact h1
 have hokA:∀a∈aa,Zs a:=by
  unfold Vf at hck
  split at hck
  ·cases hck
  ·exact (jx aa).1 hck
 have hok:∀p∈ps,Zs p.a:=λp hp=>hokA p.a (by rw[←haa];exact List.mem_map_of_mem hp)
 have hal:∀p∈ps,p.a.al.length≤32:=λp hp=>(hok p hp).al_le
 have hstA:∀a∈aa,a.st≤km:=λa ha=>by rw[←haa] at ha;obtain ⟨p,hp,rfl⟩:=List.mem_map.1 ha;exact hst p hp
 have hlenA:aa.length=ps.length:=by rw[←haa];simp
 refine Qi<|Qc<|Qb<|xl rfl<|xf<|(QgU (L:=[b2]) (((h.up (λb hb=>.inr (by simp at hb;omega))).ext hs1).ext hs2) hn hal (λb hb=>by simp at hb;have:=hs2.size;omega)).mono ?_
 rintro r4 w4 ⟨hs4,ve,vs,ms,rfl,hM4,hve4⟩
 rw[haa] at hve4
 have hvl:=h.arr.one
 have hel:=yb aa (λa ha=>(hokA a ha).al_le)
 have hevl:(evs aa).length≤1000:=by omega
 have hveA:=Qu.ints (L:=[]) hve4 (by omega) (by simp)
 refine xl rfl<|Qt (us:=[nS,nS,nS]) rfl λb6 w5 hs5 hb6 hB6=>xl rfl<|Qn (us:=[vl,ve,vs]) hB6 rfl rfl rfl rfl ⟨hvl,hveA.one,hM4.sl.one,trivial⟩ λw6 hs6 hB6=>xe ?_
 have hs46:Step [] w4 w6:=hs5.then1 hs6 hb6
 have hz2:=hs2.size
 have hz4:=hs4.size
 have hz6:=hs46.size
 have hl6:=hB6.lt
 refine Qc ?_
 have hB2':=((hB2.ext hs2).ext hs4).ext hs46
 refine x (Qa rfl)<|x (Qd hB6 rfl rfl)<|x (Qa rfl)<|xl rfl<|QF hB2' rfl rfl (by simp) hveA.one λw7 hs7 hB7=>xe ?_
 have hz7:=hs7.size
 have hW7:Step [] w w7:=((((hs1.trans hs2).trans hs4).trans hs46).then1 hs7 hb2)
 have hM7:JQ [b2] w7.heap vl ve vs ps ms:=(hM4.ext hs46).st hs7
 have hve7:Qu 3 w2.heap.size w7 ve (evs aa):=Qj (Qs hve4 hs46) hs7 (λb hb=>by have:=(Qk hve4 b hb).1;simp;omega)
 have hB6':=hB6.step hs7 (by simp;omega)
 refine Qc<|x (Qq hB6' rfl rfl)<|xl rfl<|xf<|(Qax hM7 hn).mono ?_
 rintro r8 w8 ⟨hs8,hr8⟩
 have hz8:=hs8.size
 have hB8:=hB7.ext hs8
 have hexA:(∃p∈ps,p.a.st=0)↔(∃a∈aa,a.st=0):=by
  rw[←haa]
  constructor
  ·rintro ⟨p,hp,h0⟩;exact ⟨p.a,List.mem_map_of_mem hp,h0⟩
  ·rintro ⟨a,ha,h0⟩;obtain ⟨p,hp,rfl⟩:=List.mem_map.1 ha;exact ⟨p,hp,h0⟩
 by_cases hz:∃p∈ps,p.a.st=0
 ·rw[if_pos hz] at hr8
  subst hr8
  refine Qb<|x (Qp rfl rfl)<|x (Qp rfl rfl)<|x Qh<|Qe<|Qf<|Qc<|Qb<|x (Zn rfl)<|xe ?_
  refine U1 rfl ?_
  refine Qc<|x (Qq hB8 rfl rfl)<|xl rfl<|Qn (us:=[ve,.int .i64 0,nS,nS]) hB8 rfl rfl rfl rfl ⟨hveA.one,rfl,rfl,rfl,trivial⟩ λw9 hs9 hB9=>x Qh<|Qe<|Ql ⟨[.agg #[ve,.int .i64 0,nS,nS],Zb,.int .i64 0],⟨⟨_,rfl,Qz rfl (hB9.at (L:=[]) (by simp)).cells⟩,rfl,rfl,trivial⟩,(hW7.trans hs8).then1 hs9 hb2,_,Zb,0,rfl,?_⟩
  unfold Yc
  rw[if_neg h20]
  unfold sync
  rw[if_pos (hexA.1 hz)]
  have hve9:=Qj (Qs hve7 hs8) hs9 (λb hb=>by have:=(Qk hve4 b hb).1;simp;omega)
  refine ⟨rfl,⟨ve,_,_,rfl,λL' hL'=>⟨Qu.ints hve9 (by show (evs aa).length≤_;omega) (λb hb=>by have:=hL' b hb;omega),Zj.nil _ _ _,Zj.nil _ _ _⟩⟩,[],rfl,λL' hL'=>⟨Zj.nil _ _ _,λp hp=>by cases hp⟩⟩
 rw[if_neg hz] at hr8
 obtain ⟨vf,rfl,hf8⟩:=hr8
 have hfA:=Qu.ints (L:=[]) hf8 (by simp;omega) (by simp)
 refine Qb<|x (Qp rfl rfl)<|x (Qp rfl rfl)<|x Qh<|Qe<|Qf<|Qc<|Qb<|x (Zn rfl)<|xe ?_
 refine Zy rfl ?_
 refine Qi<|Qc<|Qb<|xl rfl<|QD (us:=[[vf]]) rfl rfl (by decide) (by simp) ⟨hfA.cells,rfl,trivial⟩ λb37 w10 hs10 hb37 hB37=>Qe ?_
 have hz10:=hs10.size
 have hl37:=hB37.lt
 refine Qc<|xl rfl<|Yn Xl λb38 w11 hs11 hb38 hm11=>?_
 have hz11:=hs11.size
 have hl38:=hm11.lt
 refine Qb<|xl rfl<|xf<|(zU ((hfA.ext hs10).ext hs11) (hkb.ext ((hW7.trans hs8).trans (hs10.trans hs11))) (λn hn=>by have:=List.eq_of_mem_replicate hn;omega) (by simp;omega)).mono ?_
 rintro r12 w12 ⟨rfl,hs12⟩
 have hz12:=hs12.size
 refine xl rfl<|YT (k:=Js (List.replicate ps.length 0)) (hm11.ext hs12) rfl rfl λwS hs13 hmS=>Qb<|Qe ?_
 have hzS:=hs13.size
 have hs812:Step [] w8 w12:=(hs10.trans hs11).trans hs12
 have hs8S:Step [] w8 wS:=hs812.then1 hs13 (by omega)
 have hWS:Step [] w wS:=(hW7.trans hs8).trans hs8S
 have hzWS:=hWS.size
 have hnew:∀b∈[b2,b38,b37],b∈[b2]∨w8.heap.size≤b:=λb hb=>by
  simp only[List.mem_cons,List.not_mem_nil,or_false] at hb
  rcases hb with rfl | rfl | rfl
  ·exact .inl (by simp)
  ·exact .inr (by omega)
  ·exact .inr (by omega)
 have hMS:JQ [b2,b38,b37] wS.heap vl ve vs ps ms:=((hM7.ext hs8).up hnew).ext hs8S
 have hB6S:Q2 wS.heap b6 243 [vl,ve,vs]:=(hB6'.ext hs8).ext hs8S
 have hveS:Qu 3 w2.heap.size wS ve (evs aa):=Qs (Qs hve7 hs8) hs8S
 have hvelt:=QR hve4
 have hgef:=Qk hf8
 have hSN:SyN w1.heap.size b2 b38 b37 wS:=⟨by omega,by omega,by omega,by omega,by omega,by omega⟩
 have hSI:zd w1.heap.size b2 b38 b37 ve wS (qB aa) (mput [] (Js (List.replicate ps.length 0)) (.int .i64 0)) [(vf,List.replicate ps.length 0)] (.slice (some ⟨b37,0,none⟩) 1 1) Zb Zb wS:=by
  refine ⟨Step.refl _ _,hB8.ext hs8S,hmS,?_,λb hb=>by simp[ob] at hb;exact .inl hb,QP _ _ _ _,QP _ _ _ _,by simp[qB,hlenA],λp hp=>?_,λp hp b hb=>?_,Dj.nil' _,Dj.nil' _,Dj.nil' _⟩
  ·exact (((hB37.ext hs11).ext hs12).step hs13 (by simp;omega)).own (n:=1) (sz:=1) rfl (by omega) (by omega)
  ·simp only[List.mem_singleton] at hp;subst hp
   exact Zo (Qs hf8 hs8S) (by omega)
  ·simp only[List.mem_singleton] at hp;subst hp
   have:=hgef b hb
   refine ⟨by omega,?_,by simp[ob,Zb],by simp[ob,Zb]⟩
   simp[ob];omega
 have hkn0:VH ps.length (mput [] (Js (List.replicate ps.length 0)) (.int .i64 0)) (qB aa).tup:=by
  have hk0:VH ps.length [] []:=λu _ _=>rfl
  have:=hk0.add (u:=List.replicate ps.length 0) (by simp) (λx hx=>by have:=List.eq_of_mem_replicate hx;omega)
  simpa[qB,hlenA] using this
 have hok0:VG aa (qB aa):=by
  refine ⟨λt ht=>?_,by simp[qB]⟩
  simp only[qB,List.mem_singleton] at ht
  subst ht
  refine ⟨by simp,λi h1 h2=>?_⟩
  have h3:=(hokA aa[i] (List.getElem_mem h2)).st0
  have h4:aa[i].st≠0:=λe=>hz (hexA.2 ⟨aa[i],List.getElem_mem h2,e⟩)
  simp only[List.getElem_replicate];omega
 generalize hT:syL aa 4096 0 (qB aa)=T
 have hfinal:∀s,T=some s→sync aa=some (⟨evs aa,s.tup.length,s.mk',s.ed⟩,s.tup):=λs hs=>by
  unfold sync;rw[if_neg (λe=>hz (hexA.2 e)),hT,hs];rfl
 have hfinalN:T=none→sync aa=none:=λhs=>by unfold sync;rw[if_neg (λe=>hz (hexA.2 e)),hT,hs];rfl
 refine Qf<|Qc<|Qe ?_
 have hb6S:b6∉[b2,b38,b37]:=by simp;omega
 refine Qg<|QA (α:=Nat×Sy×List (ByteArray×Value)×List TV×Value×Value×Value) [(3,4),(10,10),(12,16),(42,111)] (λz=>[(3,z.2.2.2.2.1),(10,.int .i64 z.1)])
  (λz w'=>zd w1.heap.size b2 b38 b37 ve wS z.2.1 z.2.2.1 z.2.2.2.1 z.2.2.2.2.1 z.2.2.2.2.2.1 z.2.2.2.2.2.2 w'∧VG aa z.2.1∧VH ps.length z.2.2.1 z.2.1.tup∧z.1≤z.2.1.tup.length∧z.2.1.mk'.length≤z.1∧z.2.1.ed.length≤z.1*1000∧syL aa (4096 - z.1) z.1 z.2.1=T)
  (λz=>4096 - z.1) (by rfl) (0,qB aa,_,_,_,Zb,Zb) ⟨rfl,rfl,trivial⟩ ⟨hSI,hok0,hkn0,Nat.zero_le _,Nat.zero_le _,Nat.zero_le _,hT⟩ ?_
 rintro ⟨i,s,m,qs,vt,vk,vd⟩ g w14 ⟨hI,hsk,hkn,hi,hmk,hed,hrun⟩
 simp only[] at hI hsk hkn hi hmk hed hrun
 have hle:=hsk.le
 have hql:qs.length=s.tup.length:=by rw[←hI.q];simp
 have hqv:∀p∈qs,Vt aa p.2:=λp hp=>hsk.v p.2 (by rw[←hI.q];exact List.mem_map_of_mem hp)
 have hqn:∀p∈qs,p.2.length≤12:=λp hp=>by have:=(hqv p hp).1;omega
 have htA:=QT (L:=[]) hI.t (by omega) (by simp)
 refine Qf<|Qc<|Qb<|Qb<|x (Qr htA rfl)<|x (QB rfl rfl)<|xe ?_
 refine QG rfl (λh45=>?_) (λh45=>?_)
 ·have hend:T=some s:=by rw[←hrun,Qdz (by omega)]
  refine Qx ?_
  refine Qc<|Qb<|x (Qr htA rfl)<|x (Qa rfl)<|xl rfl<|QF hI.A rfl rfl (by simp) rfl λw15 hs15 hB15=>xe ?_
  refine Qc ?_
  have hkA:=Qu.ints (L:=[]) hI.k (by omega) (by simp)
  have heA:=Z4.eds (L:=[]) hI.e (by omega) (by simp)
  refine x (Qq hB15 rfl rfl)<|Qb<|xl rfl<|Qn (us:=[ve,.int .i64 qs.length,vk,vd]) hB15 rfl rfl rfl rfl ⟨hveA.one,rfl,hkA.one,heA.one,trivial⟩ λw16 hs16 hB16=>x Qh<|Qe ?_
  have hs1516:Step [b2] w14 w16:=hs15.trans' hs16
  have hfin:Step [] w w16:=(hWS.then hI.st (λb hb=>.inr (by simp at hb;omega))).then1 hs1516 hb2
  refine Ql ⟨[.agg #[ve,.int .i64 qs.length,vk,vd],vt,.int .i64 0],⟨⟨_,rfl,Qz rfl (hB16.at (L:=[]) (by simp)).cells⟩,rfl,rfl,trivial⟩,hfin,_,vt,0,rfl,?_⟩
  unfold Yc
  rw[if_neg h20,hfinal s hend]
  have e1:(qs.length:Int)=s.tup.length:=by rw[hql]
  have k0:Qu 3 w2.heap.size w16 ve (evs aa):=Qj (Qj hveS hI.st (λb hb=>by have:=(Qk hve4 b hb).1;have:=hvelt b hb;simp;omega)) hs1516 (λb hb=>by have:=(Qk hve4 b hb).1;simp;omega)
  have k1:=Qj hI.k hs1516 (λb hb=>by have:=(Qk hI.k b hb).1;simp;omega)
  have k2:=Qj hI.e hs1516 (λb hb=>by have:=(Qk hI.e b hb).1;simp;omega)
  have k3:=Qj hI.t hs1516 (λb hb=>by have:=(Qk hI.t b hb).1;simp;omega)
  refine ⟨rfl,⟨ve,vk,vd,by rw[e1],λL' hL'=>⟨Qu.ints k0 (by show (evs aa).length≤_;omega) (λb hb=>by have:=hL' b hb;omega),Qu.ints k1 (by show s.mk'.length≤_;omega) (λb hb=>by have:=hL' b hb;omega),Z4.eds k2 (by show s.ed.length≤_;omega) (λb hb=>by have:=hL' b hb;omega)⟩⟩,qs,hI.q,λL' hL'=>⟨?_,λp hp=>?_⟩⟩
  ·exact QT k3 (by omega) (λb hb hbL=>by have:=(Qk hI.t b hb).1;have:=hL' b hbL;omega)
  ·exact Qu.ints (Qj (hI.el p hp) hs1516 (λb hb=>by have:=(Qk (hI.el p hp) b hb).1;simp;omega)) (by have:=hqn p hp;omega) (λb hb=>by have:=hL' b hb;omega)
 have hlt:i<s.tup.length:=by omega
 have hltq:i<qs.length:=by omega
 have hsyT:=Qj6 hI.q hltq
 have htv:=hqv (qs[i]'hltq) (List.getElem_mem hltq)
 obtain ⟨t,htdef⟩:∃t,(qs[i]'hltq).2=t:=⟨_,rfl⟩
 rw[htdef] at hsyT htv
 refine Qi ?_
 have hrun2:(Uh aa i t (evs aa) (ZG aa i t s)).bind (syL aa (4096 - (i+1)) (i+1))=T:=by
  rw[←hrun]
  obtain ⟨f,hf⟩:∃f,4096 - i=f+1:=⟨4096 - i - 1,by omega⟩
  rw[hf,syL,if_pos hlt,hsyT,show 4096 - (i+1)=f by omega]
 have hM14:=hMS.st hI.st
 have hM14':JQ [] w14.heap vl ve vs ps ms:=hM14.up (λ_ hb=>by cases hb)
 have hB614:=hB6S.step hI.st hb6S
 have htI:QL [] w14.heap (qs[i]'hltq).1 t:=by rw[←htdef];exact Qu.ints (hI.el (qs[i]'hltq) (List.getElem_mem hltq)) (by have:=hqn (qs[i]'hltq) (List.getElem_mem hltq);omega) (by simp)
 refine Qf<|Qg<|QU (α:=Value) [(48,59)] (λz=>[]) (λz w'=>zd w1.heap.size b2 b38 b37 ve wS (ZG aa i t s) m qs vt z vd w') (by rfl) ?_ ?_
 ·refine Qf<|QS (Step [] w14) [(0,true),(1,true),(2,true),(3,true),(4,true),(5,false)] mixed (by rfl) (by kernel_rfl) (Step.drew _ _) ?_
  refine pq (λ_ hc=>Qq (hB614.ext hc) rfl rfl)<|p (λ_=>Qo)<|p (λ_=>Qo)<|pig rfl Kd htA rfl rfl hltq λa51 h51 =>
   pq (λ_ hc=>Qv (h51.ext hc) rfl)<|pk<|xf<|(QcD (hM14'.ext (Step.drew _ _)) (htI.ext (Step.drew _ _)) (by rw[htv.1,hlenA]) (λp hp=>(hok p hp).mri) hn).mono ?_
  rintro r17 w17 ⟨rfl,hs17⟩
  have hs17':=(Step.drew [] w14).trans hs17
  refine ⟨hs17',?_⟩
  refine pe ?_
  have hI17:=hI.ext hs17'
  refine Q5 rfl (λh53=>?_) (λh53=>?_)
  rotate_left
  ·refine Qi<|⟨vk,trivial,?_⟩
   rw[haa] at h53
   unfold ZG;rw[if_neg (by rw[h53];simp)];exact hI17
  refine Qw<|x (Qa rfl)<|x (Qd hI17.A rfl rfl)<|Qb<|xl rfl<|QD (us:=[[.int .i64 i]]) rfl rfl (by decide) (by simp) ⟨rfl,rfl,trivial⟩ λb57 w18 hs18 hb57 hB57=>?_
  have hI18:=hI17.ext hs18
  refine xl rfl<|QZ (news:=[.int .i64 i]) (L:=[]) hI18.k rfl rfl rfl (hB57.at (by simp)) (by simp[Value.oneCell']) (by omega) hI18.st.size λv19 w19 ho19 hs19 hn19=>?_
  have hk19:Qu 3 wS.heap.size w19 v19 (s.mk'++[(i:Int)]):=Qu.snoc ho19
  refine x (Qa rfl)<|xl rfl<|QF (hI18.A.step hs19 (QM hI18.k (by omega))) rfl rfl (by simp) (Qu.ints (L:=[]) hk19 (by simp;omega) (by simp)).one λw20 hs20 hB20=>xe ?_
  refine ⟨v19,trivial,?_⟩
  rw[haa] at h53
  unfold ZG;rw[if_pos h53]
  exact hI18.setK hSN hs19 hk19 hn19 hs20 hB20
 rintro vk2 g3 w21 hI2
 have hsk2:VG aa (ZG aa i t s):=qz hsk
 have htup2:(ZG aa i t s).tup=s.tup:=by unfold ZG;split <;> rfl
 have hed2:(ZG aa i t s).ed=s.ed:=by unfold ZG;split <;> rfl
 have hmk2:(ZG aa i t s).mk'.length≤i+1:=by
  unfold ZG;split
  ·simp only[List.length_append,List.length_singleton];omega
  ·omega
 have hveI:QL [b2,b38,b37] wS.heap ve (evs aa):=by have:=hMS.ev;rw[haa] at this;exact this
 refine Qc<|x (Qa rfl)<|x (Qd (hB6S.step hI2.st hb6S) rfl rfl)<|x (Qr hveI rfl)<|Qb<|xe ?_
 refine Qg<|QA (α:=Nat×Sy×List (ByteArray×Value)×List TV×Value×Value) [(3,4),(12,16),(63,111)] (λz=>[(3,z.2.2.2.2.1),(63,.int .i64 z.1)])
  (λz w'=>zd w1.heap.size b2 b38 b37 ve wS z.2.1 z.2.2.1 z.2.2.2.1 z.2.2.2.2.1 vk2 z.2.2.2.2.2 w'∧VG aa z.2.1∧VH ps.length z.2.2.1 z.2.1.tup∧z.1≤(evs aa).length∧z.2.1.mk'=(ZG aa i t s).mk'∧z.2.1.ed.length≤i*1000+z.1 ∧
   (∃h:i<z.2.2.2.1.length,(z.2.2.2.1[i]'h).2=t)∧(Uh aa i t ((evs aa).drop z.1) z.2.1).bind (syL aa (4096 - (i+1)) (i+1))=T)
  (λz=>(evs aa).length - z.1) (by rfl) (0,ZG aa i t s,m,qs,vt,vd) ⟨rfl,rfl,trivial⟩
  ⟨hI2,hsk2,by rw[htup2];exact hkn,Nat.zero_le _,rfl,by rw[hed2];simpa using hed,⟨hltq,htdef⟩,hrun2⟩ ?_
 rintro ⟨j,s4,m4,qs4,vt4,vd4⟩ g4 w22 ⟨hI4,hsk4,hkn4,hj,hmk4,hed4,⟨hlt4,ht4⟩,hrun4⟩
 simp only[] at hI4 hsk4 hkn4 hj hmk4 hed4 hrun4 hlt4 ht4
 have hql4:qs4.length=s4.tup.length:=by rw[←hI4.q];simp
 have hle4:=hsk4.le
 refine Qc<|x (QB rfl rfl)<|xe ?_
 refine Qf<|QG rfl (λh64=>?_) (λh64=>?_)
 ·rw[List.drop_of_length_le (by omega),Uh] at hrun4
  refine Qx ?_
  refine Qw<|Qb<|QO rfl rfl<|Qe<|⟨(i+1,s4,m4,qs4,vt4,vk2,vd4),by simp only[];omega,⟨rfl,rfl,trivial⟩,hI4,hsk4,hkn4,by simp only[];omega,by simp only[];rw[hmk4];exact hmk2,by simp only[];omega,hrun4⟩
 have hltj:j<(evs aa).length:=by omega
 rw[QX hltj,Uh] at hrun4
 obtain ⟨v,hvj⟩:∃v,(evs aa)[j]=v:=⟨_,rfl⟩
 rw[hvj] at hrun4
 refine Qi<|Qf<|Qg<|Qc ?_
 have hveI4:=hveI.st hI4.st
 refine xii hveI4 rfl rfl hltj λa65 h65=>?_
 rw[hvj] at h65
 refine x (Qv h65 rfl)<|Qe ?_
 have hM22:=(hMS.st hI4.st).up (L':=[]) (λ_ hb=>by cases hb)
 have hB622:=hB6S.step hI4.st hb6S
 have htA4:=QT (L:=[]) hI4.t (by omega) (by simp)
 have htI4:QL [] w22.heap (qs4[i]'hlt4).1 t:=by rw[←ht4];exact Qu.ints (hI4.el (qs4[i]'hlt4) (List.getElem_mem hlt4)) (by rw[ht4,htv.1];omega) (by simp)
 refine Qf<|QS (Step [] w22) [(0,true),(1,true),(2,true),(3,true),(4,true),(5,true),(6,false),(7,true),(8,true),(9,true),(10,true),(11,true)] mixed (by rfl) (by kernel_rfl) (Step.drew _ _) ?_
 refine pq (λ_ hc=>Qq (hB622.ext hc) rfl rfl)<|p (λ_=>Qo)<|p (λ_=>Qo)<|pig rfl Kd htA4 rfl rfl hlt4 λa71 h71 =>
  pq (λ_ hc=>Qv (h71.ext hc) rfl)<|p (λ_=>Qo)<|pk<|xf<|(Qeb (hM22.ext (Step.drew _ _)) (htI4.ext (Step.drew _ _)) (by rw[htv.1,hlenA]) (λp hp=>(hok p hp).ali) (λp hp=>(hok p hp).edi) hn _).mono ?_
 rintro r23 w23 ⟨hs23,hr23⟩
 rw[haa] at hr23
 have hs23':=(Step.drew [] w22).trans hs23
 refine ⟨hs23',?_⟩
 have hI5:=hI4.ext hs23'
 have hz23:=hs23'.size
 have hz22:=hI4.st.size
 rcases Qlb (Yg v aa t) with hstp | ⟨u,hstp⟩
 ·rw[hstp] at hr23
  subst hr23
  rw[QdB hstp] at hrun4
  refine p (λ_=>Qo)<|p (λ_=>Qp rfl rfl)<|p (λ_=>Qp rfl rfl)<|p (λ_=>Qh)<|p (λ_=>Qh)<|pe ?_
  refine Qf<|Qc<|Qb<|x (Zn rfl)<|xe ?_
  refine U1 rfl ?_
  refine Qx ?_
  refine Qw<|QO rfl rfl<|Qb<|xe ?_
  exact ⟨(j+1,s4,m4,qs4,vt4,vd4),by simp only[];omega,⟨rfl,rfl,trivial⟩,hI5,hsk4,hkn4,hltj,hmk4,by simp only[];omega,⟨hlt4,ht4⟩,hrun4⟩
 ·rw[hstp] at hr23
  obtain ⟨vx,rfl,hx23⟩:=hr23
  have huv:=Xz hokA htv hstp
  have hul:u.length=ps.length:=by rw[huv.1,hlenA]
  have hub:=huv.bd hstA
  have hu0:∀x∈u,0≤x:=λx hx=>(hub x hx).1
  refine p (λ_=>Qo)<|p (λ_=>Qp rfl rfl)<|p (λ_=>Qp rfl rfl)<|p (λ_=>Qh)<|p (λ_=>Qh)<|pe ?_
  refine Qf<|Qc<|Qb<|x (Zn rfl)<|xe ?_
  refine Zy rfl ?_
  refine Qi ?_
  have hxA:=Qu.ints (L:=[]) hx23 (by omega) (by simp)
  have hgex:=Qk hx23
  refine QU (α:=Unit) [(15,16),(79,85)] (λz=>[(15,.int .i64 (if u∈s4.tup then (s4.tup.idxOf u:Int) else 0)),(16,.bool (decide (u∈s4.tup)))]) (λz w'=>Step [] w23 w') (by rfl) ?_ ?_
  ·refine Qw<|Qb<|Qb<|xl rfl<|xf<|(zU hxA (hkb.ext (hWS.then hI5.st (λb hb=>.inr (by simp at hb;omega)))) hub (by omega)).mono ?_
   rintro r24 w24 ⟨rfl,hs24⟩
   by_cases hu:u∈s4.tup
   ·refine x (qL (k:=Js u) ((hI5.ext hs24).M) rfl rfl (by rw[hkn4 u hul hu0,if_pos hu]))<|Qb<|x (Qp rfl rfl)<|x (Qp rfl rfl)<|x Qh<|Qe ?_
    exact ⟨(),⟨congrArg (Value.int .i64) (if_pos hu).symm,congrArg Value.bool (decide_eq_true hu).symm,trivial⟩,hs24⟩
   ·refine x (Qcu (k:=Js u) ((hI5.ext hs24).M) rfl rfl (by rw[hkn4 u hul hu0,if_neg hu]))<|Qb<|x (Qp rfl rfl)<|x (Qp rfl rfl)<|x Qh<|Qe ?_
    exact ⟨(),⟨congrArg (Value.int .i64) (if_neg hu).symm,congrArg Value.bool (decide_eq_false hu).symm,trivial⟩,hs24⟩
  rintro _ g6 w25 hs25
  have hI6:=hI5.ext hs25
  have hx25:=Qs hx23 hs25
  have hxA25:=hxA.ext hs25
  have hz25:=hs25.size
  have hadd:∀b∈ob vx,b∉ob vt4∧b∉ob vk2∧b∉ob vd4:=λb hb=>by
   have h1:=(hgex b hb).1
   have h1':w22.heap.size≤b:=h1
   exact ⟨λhb'=>by have:=QR hI4.t b hb';omega,λhb'=>by have:=QR hI4.k b hb';omega,λhb'=>by have:=QR hI4.e b hb';omega⟩
  refine QU (α:=List (ByteArray×Value)×List TV×Value) [(3,4),(15,15),(86,101)] (λz=>[(3,z.2.2),(15,.int .i64 ((Yj s4 u).tup.idxOf u:Int))])
   (λz w'=>zd w1.heap.size b2 b38 b37 ve wS (Yj s4 u) z.1 z.2.1 z.2.2 vk2 vd4 w'∧(u∈s4.tup∨s4.tup.length≠4096)∧VH ps.length z.1 (Yj s4 u).tup∧∃h:i<z.2.1.length,(z.2.1[i]'h).2=t) (by rfl) ?_ ?_
  ·refine Qc<|Qb<|x (Zn rfl)<|xe ?_
   refine Q5 rfl (λh87=>?_) (λh87=>?_)
   rotate_left
   ·have hu:u∈s4.tup:=by simpa using h87
    refine Qi ?_
    have e1:Yj s4 u=s4:=by unfold Yj;rw[if_pos hu]
    have e2:(if u∈s4.tup then (s4.tup.idxOf u:Int) else 0)=((Yj s4 u).tup.idxOf u:Int):=by rw[e1,if_pos hu]
    refine ⟨(m4,qs4,vt4),⟨rfl,congrArg (Value.int .i64) e2,trivial⟩,?_,.inl hu,?_,hlt4,ht4⟩
    ·rw[e1];exact hI6
    ·rw[e1];exact hkn4
   have hu:u∉s4.tup:=by simpa using h87
   have htA6:=QT (L:=[]) hI6.t (by omega) (by simp)
   refine Qf<|Qc<|Qb<|x (Qr htA6 rfl)<|x (Q7 rfl rfl)<|xe ?_
   refine Q4 rfl (λh90=>?_) (λh90=>?_)
   ·refine Qc<|x (QE trivial)<|xl rfl<|Qn (us:=[nS,.int .i64 0,nS,nS]) hI6.A rfl rfl rfl rfl ⟨rfl,rfl,rfl,rfl,trivial⟩ λw26 hs26 hB26=>x Qh<|Qe<|Ql ⟨[zA,Zb,.int .i64 3],⟨⟨_,rfl,Qz rfl (hB26.at (L:=[]) (by simp)).cells⟩,rfl,rfl,trivial⟩,(hWS.then hI6.st (λb hb=>.inr (by simp at hb;omega))).then1 hs26 hb2,zA,Zb,3,rfl,?_⟩
    unfold Yc
    rw[QdD hstp hu (by omega)] at hrun4
    rw[if_neg h20,hfinalN hrun4.symm]
    exact ⟨rfl,rfl,rfl⟩
   have hl4:s4.tup.length≠4096:=by omega
   refine Qi<|Qc<|Qb<|x (Qr htA6 rfl)<|Qe<|Qc<|Qb<|Qb<|xl rfl<|xf<|(zU hxA25 (hkb.ext (hWS.then hI6.st (λb hb=>.inr (by simp at hb;omega)))) hub (by omega)).mono ?_
   rintro r26 w26 ⟨rfl,hs26⟩
   have hI7:=hI6.ext hs26
   refine Qb<|xl rfl<|Xi (k:=Js u) hI7.M rfl rfl λw27 hs27 hm27=>xe ?_
   have hI8:=hI7.setM hSN hs27 hm27
   have hx27:=Qj (Qs hx25 hs26) hs27 (λb hb=>by have:=(hgex b hb).1;have h1':w22.heap.size≤b:=this;simp;omega)
   refine Qw<|Qb<|Qb<|xl rfl<|QD (us:=[[vx]]) rfl rfl (by decide) (by simp) ⟨hxA.cells,rfl,trivial⟩ λb100 w28 hs28 hb100 hB100=>?_
   have hI9:=hI8.ext hs28
   refine xl rfl<|QZ (news:=[vx]) (L:=[]) hI9.t rfl rfl rfl (hB100.at (by simp)) (λy hy=>by simp only[List.mem_singleton] at hy;subst hy;exact hxA.one) (by omega) (by have:=hI9.st.size;have:=hSN.nS;omega) λv29 w29 ho29 hs29 hn29=>Qe ?_
   have hk29:qq 37 w1.heap.size w29 v29 (qs4++[(vx,u)]):=qq.snoc ho29
   have hIA:=hI9.setT hSN (u:=u) (Zo (Qs hx27 hs28) (by show wS.heap.size≤w22.heap.size;omega)) hadd hs29 hk29 hn29
   have e1:Yj s4 u=⟨s4.tup++[u],s4.mk',s4.ed⟩:=by unfold Yj;rw[if_neg hu]
   have e2:(qs4.length:Int)=((Yj s4 u).tup.idxOf u:Int):=by
    rw[e1]
    simp only[]
    rw[List.idxOf_append,if_neg hu,←hql4];simp
   refine ⟨(mput m4 (Js u) (.int .i64 (qs4.length:Int)),qs4++[(vx,u)],v29),⟨rfl,congrArg (Value.int .i64) e2,trivial⟩,?_,.inr hl4,?_,by simp;omega,?_⟩
   ·rw[e1];exact hIA
   ·rw[e1]
    simp only[]
    rw[hql4];exact hkn4.add hu hu0
   ·simp only[]
    rw[List.getElem_append_left hlt4];exact ht4
  rintro ⟨m5,qs5,vt5⟩ g7 w30 ⟨hI10,hlim,hkn5,hlt5,ht5⟩
  simp only[] at hI10 hkn5 hlt5 ht5
  have hed5:(Yj s4 u).ed.length≤i*1000+j:=by rw[QdF];exact hed4
  have hsy:=Qgs (aa:=aa) (i:=i) (s:=s4) hstp hlim
  have hsk5:=QdC hokA hsk4 htv hsy
  rw[hsy] at hrun4
  refine Qw<|x (Qa rfl)<|x (Qd hI10.A rfl rfl)<|Qb<|Qb<|Qb<|x (QE ⟨rfl,rfl,rfl,trivial⟩)<|xl rfl<|QD (us:=[Qy ((i:Int),v,((Yj s4 u).tup.idxOf u:Int))]) rfl rfl (by decide) (by exact (by decide:1*3≤1000000)) ⟨rfl,rfl,trivial⟩ λb108 w31 hs31 hb108 hB108=>?_
  have hI11:=hI10.ext hs31
  refine xl rfl<|QZ (news:=Qy ((i:Int),v,((Yj s4 u).tup.idxOf u:Int))) (L:=[]) hI11.e rfl rfl rfl (hB108.at (by simp)) (λy hy=>by simp only[Qy,List.mem_cons,List.not_mem_nil,or_false] at hy;rcases hy with rfl | rfl | rfl <;> rfl) (by omega) hI11.st.size λv32 w32 ho32 hs32 hn32=>?_
  have hk32:Z4 144 wS.heap.size w32 v32 ((Yj s4 u).ed++[((i:Int),v,((Yj s4 u).tup.idxOf u:Int))]):=Z4.snoc ho32
  refine x (Qa rfl)<|xl rfl<|QF (hI11.A.step hs32 (QM hI11.e (by omega))) rfl rfl (by simp) (Z4.eds (L:=[]) hk32 (by simp;omega) (by simp)).one λw33 hs33 hB33=>xe ?_
  have hI12:=hI11.setE hSN hs32 hk32 hn32 hs33 hB33
  refine Qw<|QO rfl rfl<|Qb<|xe ?_
  refine ⟨(j+1,_,m5,qs5,vt5,v32),by simp only[];omega,⟨rfl,rfl,trivial⟩,hI12,hsk5,hkn5,hltj,?_,?_,⟨hlt5,ht5⟩,hrun4⟩
  ·simp only[];rw[QdE];exact hmk4
  ·simp only[List.length_append,List.length_singleton];omega
structure Kz where
 en:LI
 dis:LI
 mk':Bool
 ps:Bool
def Qjt:Kz:=⟨[],[],false,false⟩
def Qis (l:LI) (v:Int):LI:=mrg (· || ·) l [v]
def Qlk (p s:QV) (x y:Int) (c:Kz) (v:Int):Kz :=
 match eget p.ed x v with
 | none=>c
 | some _=>match eget s.ed y v with
  | some _=>⟨Qis c.en v,c.dis,c.mk',c.ps⟩
  | none=>⟨c.en,Qis c.dis v,c.mk',c.ps⟩
def Qll (p s:QV) (x y:Int) (c:Kz):Kz:=⟨c.en,c.dis,decide (y∈s.mr),c.ps || decide (x∈p.mr)⟩
def Qlj (p s:QV) (x y:Int) (c:Kz):Kz:=s.al.foldl (Qlk p s x y) (Qll p s x y c)
def px (q:LI):Int:=q.getD 0 0
def py (q:LI):Int:=q.getD 1 0
def Qli (p s:QV) (l:List Kz) (q:LI):List Kz:=l.set (py q).toNat (Qlj p s (px q) (py q) (l.getD (py q).toNat Qjt))
def ctls (p s:QV) (pairs:List (LI)):List Kz:=pairs.foldl (Qli p s) (List.replicate s.st.toNat Qjt)
def occs (n:Nat) (pairs:List (LI)):List Bool:=pairs.foldl (λo q=>o.set (py q).toNat true) (List.replicate n false)
def meets (a b:LI):LI:=mrg (· && ·) a b
def QkB (a b:Kz):Bool:=decide ((meets a.en b.dis).length+(meets b.en a.dis).length=0) && (!a.ps || !b.ps || a.mk' == b.mk')
def cget (l:LI) (i:Nat):Int:=l.getD i 0
def QeC (cl:LI) (x y:Nat):LI:=cl.map λc=>if c=cget cl y then cget cl x else c
def lget (l:List Kz) (i:Nat):Kz:=l.getD i Qjt
def to0 (s:QV) (x:Nat) (v:Int):Int:=match eget s.ed x v with | some u=>u | none=>0
def clE (s:QV) (x y:Nat) (z:LI×Bool) (v:Int):LI×Bool :=
 if cget z.1 (to0 s x v).toNat≠cget z.1 (to0 s y v).toNat then (QeC z.1 (to0 s x v).toNat (to0 s y v).toNat,true) else z
def clY (s:QV) (l:List Kz) (x:Nat) (z:LI×Bool) (y:Nat):LI×Bool :=
 if cget z.1 x<0∨cget z.1 x≠cget z.1 y then z else (meets (lget l x).en (lget l y).en).foldl (clE s x y) z
def clX (s:QV) (l:List Kz) (n:Nat) (z:LI×Bool) (x:Nat):LI×Bool:=(List.range' (x+1) (n - (x+1))).foldl (clY s l x) z
def pass (s:QV) (l:List Kz) (cl:LI):LI×Bool:=(List.range' 0 cl.length).foldl (clX s l cl.length) (cl,false)
def QfD (s:QV) (l:List Kz):Nat→LI→LI
 | 0,cl=>cl
 | f+1,cl=>if (pass s l cl).2=true then QfD s l f (pass s l cl).1 else (pass s l cl).1
def QhJ (l:List Kz) (cl:LI):Bool :=
 (List.range' 0 cl.length).all λx=>(List.range' 0 x).all λy=>!(decide (0≤cget cl x∧cget cl x=cget cl y) && !QkB (lget l x) (lget l y))
def Qk0 (s:QV) (l:List Kz) (cl:LI) (x y:Nat):LI :=
 if cget cl x<0∨cget cl y<0∨cget cl x=cget cl y then cl else
  let d:=QfD s l (cl.length*cl.length+1) (QeC cl x y)
  if QhJ l d=true then d else cl
def QkZ (s:QV) (l:List Kz) (n:Nat) (cl:LI) (x:Nat):LI:=(List.range' (x+1) (n - (x+1))).foldl (λc y=>Qk0 s l c x y) cl
def Qlo (o:List Bool):LI:=(List.range' 0 o.length).map λi=>if o.getD i false=true then (i:Int) else -1
def Qln (s:QV) (l:List Kz) (cl:LI):LI:=(List.range' 0 cl.length).foldl (QkZ s l cl.length) cl
def Qld (z:LI×LI) (c:Int):LI×LI :=
 if c∈z.1 then (z.1,z.2++[(z.1.idxOf c:Int) - 1]) else (z.1++[c],z.2++[(z.1.length:Int) - 1])
def nums (cl:LI):LI:=(cl.foldl Qld ([-1],[])).2
def QkG (p s:QV) (pairs:List (LI)):LI:=nums (Qln s (ctls p s pairs) (Qlo (occs s.st.toNat pairs)))
theorem JJ {α:Type}(g:α→LV) (sz:Nat) (hg:∀x,(g x).length=sz):∀(l:List α) (i j:Nat) (h:i<l.length) (y:α) (u:Value),j<sz→g y=(g l[i]).set j u →
  (l.flatMap g).set (i*sz+j) u=(l.set i y).flatMap g
 | x::l,0,j,h,y,u,hj,hy=>by
  simp only[List.getElem_cons_zero] at hy
  simp only[Nat.zero_mul,Nat.zero_add,List.flatMap_cons,List.set_cons_zero]
  rw[List.set_append_left _ _ (by rw[hg];exact hj),hy]
 | x::l,i+1,j,h,y,u,hj,hy=>by
  simp only[List.getElem_cons_succ] at hy
  simp only[List.flatMap_cons,List.set_cons_succ]
  rw[List.set_append_right _ _ (by rw[hg,Nat.add_mul];omega),hg,show (i+1)*sz+j - sz=i*sz+j by rw[Nat.add_mul];omega,JJ g sz hg l i j (by simpa using h) y u hj hy]
end Go.Proofs.YtdffckgdcegpaaaGreatDoor
namespace Go.Lg
section
variable {P:Program} {n:Nat} {f:Fr} {w:World} {all:List Oper} {C:World→Prop} {K:Fr→World→Prop}
def UK (all:Array Oper) (i j:Nat) (p1 p2:List (Nat×Bool)):List (Nat×Bool)→Array Bool→Bool
 | [],ls=>Region.ready .any all ls == [i,j] && Y1 all p1 (ls.setIfInBounds i true) && Y1 all p2 (ls.setIfInBounds j true)
 | (k,q)::pl,ls=>q && (Region.ready .any all ls).contains k && Region.free .any all ls k && UK all i j p1 p2 pl (ls.setIfInBounds k true)
def Qe8 (all:List Oper) (pl:List (Nat×Bool)) (i j:Nat) (p1 p2:List (Nat×Bool)):Bool :=
 Region.noSelect all.toArray && pl.length+1+p1.length == all.length && p1.length == p2.length && UK all.toArray i j p1 p2 pl (Array.replicate all.length false)
def Fk (P:Program) (all:List Oper) (C:World→Prop) (K:Fr→World→Prop) (i j:Nat) (p1 p2:List (Nat×Bool)) (f:Fr) (w:World):Prop :=
 (Yd all f (Q6 all i)=true∧XO P (Q6 all i) f w λf' w'=>C w'∧XP P all C K p1 f' w') ∧
 (Yd all f (Q6 all j)=true∧XO P (Q6 all j) f w λf' w'=>C w'∧XP P all C K p2 f' w')
theorem Kr {i j:Nat}{p1 p2:List (Nat×Bool)}(hl:p1.length=p2.length) (hs:Region.noSelect all.toArray=true):∀(pl:List (Nat×Bool)) (ls:Array Bool) (f:Fr) (w:World),ls.size=all.length→C w→UK all.toArray i j p1 p2 pl ls=true →
  XP P all C (Fk P all C K i j p1 p2) pl f w→XA P all C K (pl.length+(1+p1.length)) ls f w
 | [],ls,f,w,hsz,hC,hp,h=>by
  simp only[UK,Bool.and_eq_true,beq_iff_eq] at hp
  obtain ⟨⟨hr,h1⟩,h2⟩:=hp
  simp only[XP] at h
  rw[List.length_nil,Nat.zero_add,Nat.add_comm]
  refine Jl (λh0=>(by rw[h0] at hr;cases hr)) ?_
  rw[hr]
  intro k hk o ho
  have hsz':(ls.setIfInBounds k true).size=all.length:=by simpa using hsz
  simp only[List.mem_cons,List.not_mem_nil,or_false] at hk
  rcases hk with rfl | rfl
  ·have:=h.1
   rw[Zq ho] at this
   rw[this.1,cond_true]
   exact this.2.mono λv w' hx=>⟨.inr (.inr hx.1),ZA hs p1 _ _ _ hsz' (.inl hx.1) h1 hx.2⟩
  ·have:=h.2
   rw[Zq ho] at this
   rw[this.1,cond_true,hl]
   exact this.2.mono λv w' hx=>⟨.inr (.inr hx.1),ZA hs p2 _ _ _ hsz' (.inl hx.1) h2 hx.2⟩
 | (i0,q)::pl,ls,f,w,hsz,hC,hp,h=>by
  simp only[UK,Bool.and_eq_true] at hp
  obtain ⟨⟨⟨rfl,hr⟩,hf⟩,hp'⟩:=hp
  simp only[XP] at h
  have hri:i0∈Region.ready .any all.toArray ls:=by simpa using hr
  have e:(List.length ((i0,true)::pl))+(1+p1.length)=(pl.length+(1+p1.length))+1:=by simp;omega
  rw[e]
  cases ho:all[i0]? with
  | none =>
   exfalso
   obtain ⟨_,o,hoo,_⟩:=mem_ready.1 hri
   simp[ho] at hoo
  | some o =>
   rw[Zq ho] at h
   have hsel:∀(j:Nat) (o:Oper) cs b,all[j]?=some o→o.op≠.select cs b:=λj o cs b hj=>Region.noSelect_spec hs j o cs b (by simpa using hj)
   have hfree:=λj oj hj=>Region.free_spec (ops:=all.toArray) (md:=.any) (i:=i0) (oi:=o) (listed:=ls) (by simpa using ho) hf j oj (by simpa using hj)
   have hsz':(ls.setIfInBounds i0 true).size=all.length:=by simpa using hsz
   cases hg:Yd all f o with
   | false =>
    rw[hg] at h
    exact YX (v:=undef) (D:=λw=>qb o=true→C w) ho (λ_ h=>h) hsel _ ls f w (λ_=>hC) hfree hri (.inr ⟨hg,rfl⟩) (Kr hl hs pl _ _ _ hsz' hC hp' h)
   | true =>
    rw[hg] at h
    simp only[cond_true] at h
    obtain ⟨v,hv,hx⟩:=h
    exact YX (v:=v) (D:=λw=>qb o=true→C w) ho (λ_ h=>h) hsel _ ls f w (λ_=>hC) hfree hri (.inl ⟨hg,hv⟩) (Kr hl hs pl _ _ _ hsz' hC hp' hx)
theorem Qh0 {Q:Exit→Fr→World→Prop}{id:Nat}(C:World→Prop) (pl:List (Nat×Bool)) (i j:Nat) (p1 p2:List (Nat×Bool)) (hm:P.follows .mixedOrders=true) (hn:XJ n all=true) (hp:Qe8 all pl i j p1 p2=true)
  (hC:C { w with drawn:=w.drawn+1 }) (h:XP P all C (Fk P all C (λf w=>Q .normal f w) i j p1 p2) pl f { w with drawn:=w.drawn+1 }):W P n (.region id all.toArray true) Q f w:=by
 simp only[Qe8,Bool.and_eq_true,beq_iff_eq] at hp
 obtain ⟨⟨⟨hs,hl⟩,hl2⟩,hp⟩:=hp
 refine Ks C hm hn ?_
 have h1:=Kr hl2 hs pl _ _ _ (by simp) hC hp h
 rw[←Nat.add_assoc,hl] at h1
 exact h1
end
end Go.Lg
namespace Go.Proofs.YtdffckgdcegpaaaGreatDoor
open Go.Lg
end Go.Proofs.YtdffckgdcegpaaaGreatDoor
namespace Go.Lg
open Go.Proofs.YtdffckgdcegpaaaGreatDoor
theorem Zl {l:LI}{i:Nat}(h:i<l.length):l[i]=cget l i:=by simp[cget,List.getD,h]
section
variable {P:Program} {ops l:List Oper} {K:Fr→World→Prop} {f:Fr} {w:World} {d:Option Nat} {ty:Nat} {ps:String} {af:Array Edge} {gd:Option (Nat×Bool)} {C:World→Prop} {pl:List (Nat×Bool)} {i0:Nat}
theorem xic {x y:Operand}{t e bys:Nat}{z:Value}[Sl P t e 1 bys z] {L:LN}{li:LI}{v:Value}{k:IntKind}{i:Nat}
  (h:QL L w.heap v li) (hv:ev f x=v) (hy:ev f y=.int k i) (hi:i<li.length)
  (hK:∀a,At L w.heap a [.int .i64 (cget li i)]→XL P ops K l (QY f d (.pointer (some a))) w) (hg:Yd ops f ⟨d,.indexAddr t x y,ty,ps,af,gd⟩=true:=by rfl) :
  XL P ops K (⟨d,.indexAddr t x y,ty,ps,af,gd⟩::l) f w :=
 xii h hv hy hi (λa ha=>hK a (by rw[←Zl hi];exact ha)) hg
theorem pic {x y:Operand}{t e bys:Nat}{z:Value}[Sl P t e 1 bys z] {L:LN}{li:LI}{v:Value}{H:Array Obj}{k:IntKind}{i:Nat}
  (ho:Q6 ops i0=⟨d,.indexAddr t x y,ty,ps,af,gd⟩) (h:QL L H v li) (hv:ev f x=v) (hy:ev f y=.int k i) (hi:i<li.length)
  (hK:∀a,At L H a [.int .i64 (cget li i)]→XP P ops C K pl (QY f d (.pointer (some a))) w) (hg:Yd ops f (Q6 ops i0)=true:=by rfl):XP P ops C K ((i0,true)::pl) f w :=
 pii ho h hv hy hi (λa ha=>hK a (by rw[←Zl hi];exact ha)) hg
end
theorem QdY {a n:Nat}(h:a<n):List.range' a (n - a)=a::List.range' (a+1) (n - (a+1)):=by
 rw[show n - a=(n - (a+1))+1 by omega,List.range'_succ]
theorem QgK {a n:Nat}(h:n≤a):List.range' a (n - a)=[]:=by rw[show n - a=0 by omega];rfl
end Go.Lg
namespace Go.Proofs.YtdffckgdcegpaaaGreatDoor
open Go.Lg
end Go.Proofs.YtdffckgdcegpaaaGreatDoor
namespace Go.Lg
section
variable {P:Program} {f:Fr} {w:World} {d:Option Nat} {ty:Nat} {ps:String} {af:Array Edge} {gd:Option (Nat×Bool)} {κ:Type} [DecidableEq κ]
end
end Go.Lg
namespace Go.Proofs.YtdffckgdcegpaaaGreatDoor
open Go.Lg
theorem Qa7 {aa:List QV}{i:Nat}{t:LI}(ho:∀a∈aa,Zs a) (ht:Vt aa t):∀(vs:LI) (s s':Sy),VG aa s→Uh aa i t vs s=some s'→VG aa s'
 | [],s,s',h,e=>by cases e;exact h
 | v::vs,s,s',h,e=>by
  rw[Uh] at e
  obtain ⟨s1,h1,h2⟩:=Option.bind_eq_some_iff.1 e
  exact Qa7 ho ht vs s1 s' (QdC ho h ht h1) h2
theorem Qdy {aa:List QV}(ho:∀a∈aa,Zs a):∀(f i:Nat) (s s':Sy),VG aa s→syL aa f i s=some s'→VG aa s'
 | 0,i,s,s',h,e=>by cases e;exact h
 | f+1,i,s,s',h,e=>by
  rw[syL] at e
  split at e
  ·rename_i hi
   obtain ⟨s1,h1,h2⟩:=Option.bind_eq_some_iff.1 e
   have hv:Vt aa (qy s i):=h.v _ (by unfold qy;simp[List.getD,hi])
   exact Qdy ho f _ s1 s' (Qa7 ho hv _ _ _ (qz h) h1) h2
  ·cases e;exact h
theorem Qiv {aa:List QV}(ho:∀a∈aa,Zs a) (hz:¬∃a∈aa,a.st=0):VG aa (qB aa):=by
 refine ⟨λt ht=>?_,by simp[qB]⟩
 simp only[qB,List.mem_singleton] at ht
 subst ht
 refine ⟨by simp,λi h1 h2=>?_⟩
 have h3:=(ho aa[i] (List.getElem_mem h2)).st0
 have h4:aa[i].st≠0:=λe=>hz ⟨aa[i],List.getElem_mem h2,e⟩
 simp only[List.getElem_replicate];omega
theorem V4 {aa:List QV}(ho:∀a∈aa,Zs a) {z:QV×List (LI)}(h:sync aa=some z):(∀t∈z.2,Vt aa t)∧z.2.length≤4096:=by
 unfold sync at h
 split at h
 ·cases h;simp
 ·rename_i hz
  obtain ⟨s,h1,rfl⟩:=Option.map_eq_some_iff.1 h
  have:=Qdy ho _ _ _ _ (Qiv ho hz) h1
  exact ⟨this.v,this.le⟩
def opC (p s:QV):Int:=if Jh p≠0 then Jh p else if Jh s≠0 then Jh s else if mrg (λp q=>p && !q) s.al p.al=[] then 0 else 9
def opE (p s:QV):Int:=if opC p s≠0 then opC p s else match sync [p,s] with | none=>3 | some _=>0
def opQ (p s:QV):List (LI):=match sync [p,s] with | none=>[] | some z=>z.2
def Qkl (l:LI):Int:=(l.drop 1).foldl max (cget l 0)
theorem Ja {N b:Nat}{w w':World}{v:Value}{a:QV}(h:Xr N w.heap v a) (hb:b<N) (hs:Step [b] w w'):Xr N w'.heap v a:=by
 obtain ⟨va,vm,ve,h1,h2⟩:=h
 refine ⟨va,vm,ve,h1,λL hL=>?_⟩
 exact ((h2 (b::L) (λc hc=>by rcases List.mem_cons.1 hc with rfl | hc;exact hb;exact hL c hc)).st (hs.mono (by simp))).up (λc hc=>.inl (List.mem_cons_of_mem _ hc))
theorem QfZ {N b:Nat}{w w':World}{v:Value}{l:List (LI)}(h:QaS N w.heap v l) (hb:b<N) (hs:Step [b] w w'):QaS N w'.heap v l:=by
 obtain ⟨ps,h1,h2⟩:=h
 refine ⟨ps,h1,λL hL=>?_⟩
 exact ((h2 (b::L) (λc hc=>by rcases List.mem_cons.1 hc with rfl | hc;exact hb;exact hL c hc)).st (hs.mono (by simp))).up (λc hc=>.inl (List.mem_cons_of_mem _ hc))
theorem Xq {N:Nat}{H:Array Obj}{v:Value}{a:QV}(h:Xr N H v a):∃us,v=.agg us.toArray∧us.length=4∧Zw us:=by
 obtain ⟨va,vm,ve,h1,h2⟩:=h
 have:=h2 [] (by simp)
 exact ⟨[va,.int .i64 a.st,vm,ve],h1,rfl,this.al.one,rfl,this.mr.one,this.ed.one,trivial⟩
open Go.Proofs.Tryz
theorem yk {L:LN}{w:World}{va vm ve:Value}{a:QV}(h:Zt L w.heap va vm ve a) :
  QJ prog 123 [.agg #[va,.int .i64 a.st,vm,ve]] w λr w'=>Step [] w w'∧∃v,r=.tuple #[v,.int .i64 (Jh a)]∧(Jh a≠0→v=zA)∧(Jh a=0→Xr w.heap.size w'.heap v (Ju a)):=by
 refine QJ.of_W func123 rfl ntmps123 results123 (by simp) ?_
 refine Qc<|xl rfl<|QQ (us:=[va,.int .i64 a.st,vm,ve]) rfl λb1 w1 hs1 hb1 hB1=>xl rfl<|Qt (us:=[nS,.int .i64 0,nS,nS]) rfl λb2 w2 hs2 hb2 hB2=>Qe ?_
 have hs12:=hs1.trans hs2
 refine Qf<|Qc<|x (Qq (hB1.ext hs2) rfl rfl)<|xl rfl<|xf<|(Xo (h.ext hs12)).mono ?_
 rintro r3 w3 ⟨rfl,hs3⟩
 refine Qe ?_
 have hz1:=hs1.size
 refine Qc<|Qb<|x (Q8 rfl rfl)<|xe ?_
 refine Q4 rfl (λh8=>?_) (λh8=>?_)
 ·refine Qc<|x (QE trivial)<|Qb<|xl rfl<|Qn (us:=[nS,.int .i64 0,nS,nS]) (hB2.ext hs3) rfl rfl rfl rfl ⟨rfl,rfl,rfl,rfl,trivial⟩ λw4 hs4 hB4=>Qe ?_
  exact Ql ⟨[zA,.int .i64 (Jh a)],⟨⟨_,rfl,Qz rfl (hB4.at (L:=[]) (by simp)).cells⟩,rfl,trivial⟩,(hs12.trans hs3).then1 hs4 (by omega),zA,rfl,λ_=>rfl,λe=>absurd e h8⟩
 have hc:Jh a=0:=Decidable.not_not.1 h8
 have hok:=(ZE a).1 hc
 have hl2:=hB2.lt
 have hs13:=hs12.trans hs3
 refine Qi<|Qc<|x (Qq ((hB1.ext hs2).ext hs3) rfl rfl)<|xl rfl<|xf<|(Ji (h.ext hs13) hok).mono ?_
 rintro v w5 ⟨hs5,hF⟩
 obtain ⟨us,hva,husl,hus⟩:=Xq hF
 have hz3:=hs3.size
 have hz13:=hs13.size
 refine xl rfl<|Qn (us:=us) ((hB2.ext hs3).ext hs5) rfl hva husl rfl hus λw6 hs6 hB6 =>
  Qe<|Ql ⟨[.agg us.toArray,.int .i64 0],⟨⟨_,rfl,Qz husl (hB6.at (L:=[]) (by simp)).cells⟩,rfl,trivial⟩,(hs13.trans hs5).then1 hs6 (by omega),v,by rw[hc,hva];rfl,λe=>absurd hc e,λ_=>?_⟩
 exact (Ja hF (by omega) hs6).mono hz13
def gget:List ((Int×Int)×Int)→Int×Int→Option Int
 | [],_=>none
 | (k',v)::m,k=>if k'=k then some v else gget m k
def gput:List ((Int×Int)×Int)→Int×Int→Int→List ((Int×Int)×Int)
 | [],k,v=>[(k,v)]
 | (k',v')::m,k,v=>if k'=k then (k',v)::m else (k',v')::gput m k v
def Qk6 (s:QV) (cls:LI) (x:Nat) (m:List ((Int×Int)×Int)) (v:Int):List ((Int×Int)×Int):=gput m (cget cls x,v) (cget cls (to0 s x v).toNat)
def Qk3 (s:QV) (l:List Kz) (cls:LI) (z:LI×List ((Int×Int)×Int)) (x:Nat):LI×List ((Int×Int)×Int) :=
 if cget cls x<0 then z else (if ((lget l x).mk' && (lget l x).ps)=true then Qis z.1 (cget cls x) else z.1,(lget l x).en.foldl (Qk6 s cls x) z.2)
def Qkb (s:QV) (l:List Kz) (cls:LI):LI×List ((Int×Int)×Int):=(List.range' 0 cls.length).foldl (Qk3 s l cls) ([],[])
def Qk5 (m:List ((Int×Int)×Int)) (c:Nat) (v:Int):Option Ed:=(gget m ((c:Int),v)).map λt=>((c:Int),v,t)
def Qk4 (m:List ((Int×Int)×Int)) (al:LI) (n:Nat):List Ed:=(List.range' 0 n).flatMap λc=>al.filterMap (Qk5 m c)
def Qk7 (s:QV) (l:List Kz) (cls:LI):QV:=⟨s.al,Qkl cls+1,(Qkb s l cls).1,Qk4 (Qkb s l cls).2 s.al (Qkl cls+1).toNat⟩
def red (p s:QV):QV:=Qk7 s (ctls p s (opQ p s)) (QkG p s (opQ p s))
def rdE (p s:QV):Int:=if opE p s≠0 then opE p s else if opQ p s=[] then 0 else Jh (red p s)
theorem X6 {l:LI}{i:Nat}(h:i<l.length):cget l i∈l:=by rw[←Zl h];exact List.getElem_mem h
theorem Zd {α:Type}(a:α) {Q:Prop}(h:∀b,a=b→Q):Q:=h a rfl
theorem zh {N:Nat}{H:Array Obj}{a:QV}{b1 b2 b3 n1 n2 n3:Nat}(h1:Q2 H b1 3 (a.al.map (.int .i64))) (h2:Q2 H b2 3 (a.mr.map (.int .i64))) (h3:Q2 H b3 144 (a.ed.flatMap Qy)) (g1:N≤b1) (g2:N≤b2) (g3:N≤b3)
  (l1:a.al.length=n1) (l2:a.mr.length=n2) (l3:a.ed.length=n3) (m1:n1≤1000) (m2:n2≤1000) (m3:n3≤1000) :
  Xr N H (.agg #[.slice (some ⟨b1,0,none⟩) n1 n1,.int .i64 a.st,.slice (some ⟨b2,0,none⟩) n2 n2,.slice (some ⟨b3,0,none⟩) n3 n3]) a:=by
 subst l1 l2 l3
 refine ⟨_,_,_,rfl,λL hL=>⟨?_,?_,?_⟩⟩
 ·exact h1.arr (λhb=>by have:=hL _ hb;omega) (by simp) (by omega) (Nat.le_refl _)
 ·exact h2.arr (λhb=>by have:=hL _ hb;omega) (by simp) (by omega) (Nat.le_refl _)
 ·exact h3.arr (λhb=>by have:=hL _ hb;omega) (by rw[JK _ 3 XI]) (by omega) (Nat.le_refl _)
end Go.Proofs.YtdffckgdcegpaaaGreatDoor
namespace Go.Lg
section
variable {P:Program} {n:Nat} {f:Fr} {w:World} {d:Option Nat} {ty:Nat} {ps:String} {af:Array Edge} {gd:Option (Nat×Bool)}
class Ay (P:Program) (t:Nat) (m e sz:outParam Nat):Prop where
 u:P.underlying t=some (.array m e)
 i:(P.info? e).map (·.size)=some sz
theorem ZD {x y:Operand}{t m e sz:Nat}[h:Ay P t m e sz] {b o:Nat}{k:IntKind}{i:Nat}(hx:ev f x=.pointer (some ⟨b,o,none⟩)) (hy:ev f y=.int k i) (h1:i<m) :
  (execOp (ev f) ⟨d,.indexAddr t x y,ty,ps,af,gd⟩).run P w=.ok (.value (.pointer (some ⟨b,o+i*sz,none⟩))) w:=by
 have hi:=h.i
 cases hn:P.info? e with
 | none=>simp[hn] at hi
 | some ii =>
  simp[hn] at hi
  simp[execOp,hx,hy,Instr.indexAt,asIntOf,run_underlying h.u,Instr.sureAddr,sizeOf,typeInfo,hn,hi,JF]
  intro h2;omega
theorem QhX {a b:Nat}(ha:a<256):inK .u8 ((a &&& b:Nat):Int):=by
 have:a &&& b≤a:=Nat.and_le_left
 exact ⟨by omega,by omega⟩
theorem Ut {t t':Nat}{x y:Operand}{a b:Nat}(hx:ev f x=.int .u8 a) (hy:ev f y=.int .u8 b) (ha:a<256) (hb:b<256) :
  (execOp (ev f) ⟨d,.binOp .and t x y t',ty,ps,af,gd⟩).run P w=.ok (.value (.int .u8 ((a &&& b:Nat):Int))) w:=by
 refine YS hx hy ?_
 simp only[binOp,Op.intBits,BitVec.ofInt_natCast,ne_eq,not_true_eq_false,if_false,Sem.run_pure]
 rw[BitVec.toNat_and,BitVec.toNat_ofNat,BitVec.toNat_ofNat,Nat.mod_eq_of_lt (show a<2 ^ IntKind.u8.bits from ha),Nat.mod_eq_of_lt (show b<2 ^ IntKind.u8.bits from hb),Ye (QhX ha)]
theorem zq (m i:Nat):((m:Int) / 2 ^ i)=((m / 2 ^ i:Nat):Int):=by rw[Int.natCast_ediv,Int.natCast_pow];rfl
end
inductive Pt where
 | pl (l:List (Nat×Bool))
 | fk (pre:List (Nat×Bool)) (i j:Nat) (t1 t2:Pt)
def JT (all:Array Oper):List (Nat×Bool)→Array Bool→Bool
 | [],_=>true
 | (k,q)::pl,ls=>q && (Region.ready .any all ls).contains k && Region.free .any all ls k && JT all pl (ls.setIfInBounds k true)
def ZX:List (Nat×Bool)→Array Bool→Array Bool
 | [],ls=>ls
 | (k,_)::pl,ls=>ZX pl (ls.setIfInBounds k true)
def XT (P:Program) (all:List Oper) (C:World→Prop) (K:Fr→World→Prop):Pt→Fr→World→Prop
 | .pl l=>XP P all C K l
 | .fk pre i j t1 t2=>XP P all C (λf w=>(Yd all f (Q6 all i)=true∧XO P (Q6 all i) f w λf' w'=>C w'∧XT P all C K t1 f' w') ∧
   (Yd all f (Q6 all j)=true∧XO P (Q6 all j) f w λf' w'=>C w'∧XT P all C K t2 f' w')) pre
section
variable {P:Program} {n:Nat} {f:Fr} {w:World} {all:List Oper} {C:World→Prop} {K B:Fr→World→Prop}
theorem YF:∀(pl:List (Nat×Bool)) (ls:Array Bool),(ZX pl ls).size=ls.size
 | [],_=>rfl
 | (k,q)::pl,ls=>by rw[ZX,YF];simp
theorem YD {m:Nat}(hs:Region.noSelect all.toArray=true):∀(pl:List (Nat×Bool)) (ls:Array Bool) (f:Fr) (w:World),C w→JT all.toArray pl ls=true →
  (∀f,B f w→XA P all C K m (ZX pl ls) f w)→XP P all C B pl f w→XA P all C K (pl.length+m) ls f w
 | [],ls,f,w,hC,hp,hB,h=>by
  simp only[XP] at h
  rw[List.length_nil,Nat.zero_add]
  exact hB f h
 | (i0,q)::pl,ls,f,w,hC,hp,hB,h=>by
  simp only[JT,Bool.and_eq_true] at hp
  obtain ⟨⟨⟨rfl,hr⟩,hf⟩,hp'⟩:=hp
  simp only[XP] at h
  have hri:i0∈Region.ready .any all.toArray ls:=by simpa using hr
  have e:(List.length ((i0,true)::pl))+m=(pl.length+m)+1:=by simp;omega
  rw[e]
  cases ho:all[i0]? with
  | none =>
   exfalso
   obtain ⟨_,o,hoo,_⟩:=mem_ready.1 hri
   simp[ho] at hoo
  | some o =>
   rw[Zq ho] at h
   have hsel:∀(j:Nat) (o:Oper) cs b,all[j]?=some o→o.op≠.select cs b:=λj o cs b hj=>Region.noSelect_spec hs j o cs b (by simpa using hj)
   have hfree:=λj oj hj=>Region.free_spec (ops:=all.toArray) (md:=.any) (i:=i0) (oi:=o) (listed:=ls) (by simpa using ho) hf j oj (by simpa using hj)
   cases hg:Yd all f o with
   | false =>
    rw[hg] at h
    exact YX (v:=undef) (D:=λw=>qb o=true→C w) ho (λ_ h=>h) hsel _ ls f w (λ_=>hC) hfree hri (.inr ⟨hg,rfl⟩) (YD hs pl _ _ _ hC hp' hB h)
   | true =>
    rw[hg] at h
    simp only[cond_true] at h
    obtain ⟨v,hv,hx⟩:=h
    exact YX (v:=v) (D:=λw=>qb o=true→C w) ho (λ_ h=>h) hsel _ ls f w (λ_=>hC) hfree hri (.inl ⟨hg,hv⟩) (YD hs pl _ _ _ hC hp' hB hx)
end
end Go.Lg
namespace Go.Proofs.YtdffckgdcegpaaaGreatDoor
open Go.Lg
theorem Yi.lt_of {a:Int}{l:LI}(h:Yi (a::l)) {x:Int}(hx:x∈l):a<x:=(List.pairwise_cons.1 h).1 x hx
theorem Yi.tail {a:Int}{l:LI}(h:Yi (a::l)):Yi l:=(List.pairwise_cons.1 h).2
theorem QgZ (keep:Bool→Bool→Bool):∀(n:Nat) (a b:LI),a.length+b.length≤n→Yi a→Yi b→∀x,x∈mrg keep a b↔(x∈a∨x∈b)∧keep (decide (x∈a)) (decide (x∈b))=true:=by
 intro n
 induction n with
 | zero =>
  intro a b h _ _ x
  have ha:a=[]:=List.eq_nil_of_length_eq_zero (by omega)
  have hb:b=[]:=List.eq_nil_of_length_eq_zero (by omega)
  subst ha hb;simp[Je]
 | succ n ih =>
  intro a b hn ia ib x
  cases a with
  | nil =>
   cases b with
   | nil=>simp[Je]
   | cons y b =>
    rw[X2 keep (by simp)]
    have:=ih [] b (by simp at hn ⊢;omega) ia ib.tail x
    have hy:y∉b:=λh=>by have:=ib.lt_of h;omega
    simp only[Xb,tl,hx,cond_true,cond_false,List.tail_cons,List.headD_cons,List.mem_append]
    rw[this]
    by_cases e:x=y
    ·subst e
     cases hk:keep false true <;> simp[hk,hy]
    ·cases keep false true <;> simp[e]
  | cons u a =>
   cases b with
   | nil =>
    rw[X2 keep (by simp)]
    have:=ih a [] (by simp at hn ⊢;omega) ia.tail ib x
    have hy:u∉a:=λh=>by have:=ia.lt_of h;omega
    simp only[Xb,tl,hx,cond_true,cond_false,List.tail_cons,List.headD_cons,List.mem_append]
    rw[this]
    by_cases e:x=u
    ·subst e
     cases hk:keep true false <;> simp[hk,hy]
    ·cases keep true false <;> simp[e]
   | cons y b =>
    rw[X2 keep (by simp)]
    have hu:u∉a:=λh=>by have:=ia.lt_of h;omega
    have hy:y∉b:=λh=>by have:=ib.lt_of h;omega
    rcases Int.lt_trichotomy u y with h1 | h1 | h1
    ·have hub:u∉y::b:=λh=>by
      rcases List.mem_cons.1 h with h | h
      ·omega
      ·have:=ib.lt_of h;omega
     have:=ih a (y::b) (by simp at hn ⊢;omega) ia.tail ib x
     have e1:decide (u≤y)=true:=decide_eq_true (by omega)
     have e2:decide (y≤u)=false:=decide_eq_false (by omega)
     simp only[Xb,tl,hx,e1,e2,cond_true,cond_false,List.tail_cons,List.headD_cons,List.mem_append]
     rw[this]
     by_cases e:x=u
     ·subst e
      cases hk:keep true false <;> simp[hk,hu,hub]
     ·cases keep true false <;> simp[e]
    ·subst h1
     have:=ih a b (by simp at hn ⊢;omega) ia.tail ib.tail x
     have e1:decide (u≤u)=true:=decide_eq_true (by omega)
     simp only[Xb,tl,hx,e1,cond_true,List.tail_cons,List.headD_cons,List.mem_append]
     rw[this]
     by_cases e:x=u
     ·subst e
      cases hk:keep true true <;> simp[hk,hu,hy]
     ·cases keep true true <;> simp[e]
    ·have hub:y∉u::a:=λh=>by
      rcases List.mem_cons.1 h with h | h
      ·omega
      ·have:=ia.lt_of h;omega
     have:=ih (u::a) b (by simp at hn ⊢;omega) ia ib.tail x
     have e1:decide (u≤y)=false:=decide_eq_false (by omega)
     have e2:decide (y≤u)=true:=decide_eq_true (by omega)
     simp only[Xb,tl,hx,e1,e2,cond_true,cond_false,List.tail_cons,List.headD_cons,List.mem_append]
     rw[this]
     by_cases e:x=y
     ·subst e
      cases hk:keep false true <;> simp[hk,hy,hub]
     ·cases keep false true <;> simp[e]
theorem Ub {keep:Bool→Bool→Bool}{a b:LI}(ia:Yi a) (ib:Yi b) (x:Int):x∈mrg keep a b↔(x∈a∨x∈b)∧keep (decide (x∈a)) (decide (x∈b))=true :=
 QgZ keep _ a b (Nat.le_refl _) ia ib x
def setK (m k:Nat):LI:=((List.range' 0 k).filter λi=>decide (((m / 2 ^ i) &&& 1)=1)).map λi:Nat=>(i:Int)
theorem Vk (m k:Nat):setK m (k+1)=if (m / 2 ^ k) &&& 1=1 then setK m k++[(k:Int)] else setK m k:=by
 unfold setK
 rw[List.range'_1_concat,List.filter_append,List.map_append,Nat.zero_add]
 by_cases h:(m / 2 ^ k) &&& 1=1
 ·rw[if_pos h,List.filter_cons,if_pos (decide_eq_true h)];rfl
 ·rw[if_neg h,List.filter_cons,if_neg (by rw[decide_eq_false h];simp),List.filter_nil,List.map_nil,List.append_nil]
theorem YR (m:Nat):∀k,(setK m k).length≤k
 | 0=>by simp[setK]
 | k+1=>by
  have:=YR m k
  rw[Vk]
  split
  ·simp;omega
  ·omega
theorem KD (m k:Nat):Yi (setK m k):=by
 unfold setK Yi
 rw[List.pairwise_map]
 refine List.Pairwise.sublist List.filter_sublist ?_
 exact (List.pairwise_lt_range' (s:=0) (n:=k)).imp (λh=>by omega)
open Go.Proofs.Tryz
instance ayCx1:Ay prog 119 4 5 1:=⟨by kernel_rfl,by kernel_rfl⟩
end Go.Proofs.YtdffckgdcegpaaaGreatDoor
namespace Go.Lg
section
variable {P:Program} {f:Fr} {w:World} {K:Fr→World→Prop} {d:Option Nat} {ty:Nat} {ps:String} {af:Array Edge} {gd:Option (Nat×Bool)}
theorem VU {t ty e sz bys:Nat}{z:Value}[h:Sl P t e sz bys z] {base:Nat}{v:Value}{n:Nat}{cs:LV}(hown:w.ownsRow base e sz v n cs) :
  (Builtin.append_ #[t,t] ty #[v,nS]).run P w=.ok v w:=by
 obtain ⟨i,hi,_,hsz,_⟩:=Sl.info h
 rcases hown.2 with ⟨rfl,rfl⟩ | ⟨g,cap,cur,rfl,hbg,hgg,hnc,hcm,hcs,htake⟩
 ·simp[Builtin.append_,run_underlying h.u,sizeOf,typeInfo,hi,Builtin.lenOf,Builtin.firstCells]
 ·simp[Builtin.append_,run_underlying h.u,sizeOf,typeInfo,hi,Builtin.lenOf,Builtin.firstCells,hnc,storeCells]
theorem zH {t e sz bys:Nat}{z:Value}[h:Sl P t e sz bys z] {s y:Operand}{base:Nat}{v:Value}{n:Nat}{cs:LV}(hown:w.ownsRow base e sz v n cs) (hs:ev f s=v)
  {v2:Value} {m:Nat} {news:LV} {L:LN} (hA:Zj L w.heap v2 m sz news) (hy:ev f y=v2) (h1:∀u∈news,u.oneCell'=true)
  (hb:n+m≤1099511627776) (hbase:base≤w.heap.size)
  (hK:∀v' w',w'.ownsRow base e sz v' (n+m) (cs++news)→Step (ob v) w w'→(∀b∈ob v',b∈ob v∨w.heap.size≤b)→K (QY f d v') w') (hby:bys≤128:=by decide) :
  XO P ⟨d,.call ⟨.builtin .append,#[s,y],#[t,t]⟩,ty,ps,af,gd⟩ f w K:=by
 rcases hA.2.2 with ⟨e1,e2⟩ | ⟨a,c,e1,_,e3⟩
 ·subst e2
  have hn:news=[]:=List.eq_nil_of_length_eq_zero (by have:=hA.1;simpa using this)
  subst hn
  have hr':(execOp (ev f) ⟨d,.call ⟨.builtin .append,#[s,y],#[t,t]⟩,ty,ps,af,gd⟩).run P w=.ok (.value v) w:=by
   simp[execOp,resolve,invoke,builtin,hs,hy,e1,VU (ty:=ty) hown]
  exact xv hr' (hK v w (by simpa using hown) (Step.refl _ _) (λb hb=>.inl hb))
 ·exact QZ hown hs (hy.trans e1) hA.1 e3 h1 hb hbase hK hby
end
end Go.Lg
namespace Go.Proofs.YtdffckgdcegpaaaGreatDoor
open Go.Proofs.Tryz
open Go.Lg
theorem QbH {L:LN}{w:World}{v:Value}{l:LI}(h:QL L w.heap v l) (x:Int) :
  QJ prog 254 [v,.int .i64 x] w λr w'=>r=.bool (decide (x∈l))∧w'=w:=by
 have hle:=h.le
 refine QJ.of_W func254 rfl ntmps254 results254 (by simp) ?_
 refine Qc<|Lg.Qe<|Qf<|Qc<|Lg.Qe<|Qg<|QA (α:=Nat) [(4,17)] (λk=>[(5,.int .i64 k)]) (λk w'=>w'=w∧k≤l.length∧(x∈l↔x∈l.drop k)) (λk=>l.length - k) (by rfl) 0 ⟨rfl,trivial⟩ ⟨rfl,Nat.zero_le _,by simp⟩ ?_
 rintro k g w' ⟨rfl,hk,hm⟩
 refine Qf<|Qc<|Lg.Qb<|Lg.Qb<|Lg.x (Qr h rfl)<|Lg.x (QB rfl rfl)<|xe ?_
 refine QG rfl (λh9=>?_) (λh9=>?_)
 ·refine Qx ?_
  refine Qc<|Lg.Qe<|Ql ⟨[.bool false],⟨rfl,trivial⟩,?_,rfl⟩
  rw[List.drop_of_length_le (by omega)] at hm
  simp[tup,hm]
 have hlt:k<l.length:=by omega
 have hd:=QX hlt
 refine Qi<|Qf<|Qg<|Qc<|Lg.Qb<|Lg.Qb<|xii h rfl rfl hlt λa14 h14=>Lg.x (Qv h14 rfl)<|Lg.Qb<|Lg.x (Q7 rfl rfl)<|xe ?_
 refine Q4 rfl (λh17=>?_) (λh17=>?_)
 ·refine Qc<|Lg.Qe<|Ql ⟨[.bool true],⟨rfl,trivial⟩,?_,rfl⟩
  have:x∈l:=by rw[hm,hd,h17];exact List.mem_cons_self
  simp[tup,this]
 refine Qi<|Qw<|Lg.Qb<|Lg.QO rfl rfl<|Lg.Qe<|⟨k+1,by omega,⟨rfl,trivial⟩,rfl,by omega,?_⟩
 rw[hm,hd,List.mem_cons]
 exact ⟨λh=>h.resolve_left (λe=>h17 e.symm),.inr⟩
theorem yw {L:LN}{w:World}{va vm ve:Value}{a:QV}(h:U9 L w.heap ve a.ed) (s e:Int) (st:Int) :
  QJ prog 255 [.agg #[va,.int .i64 st,vm,ve],.int .i64 s,.int .i64 e] w λr w'=>r=.int .i64 (nxt a.ed s e)∧Step [] w w':=by
 have hle:=h.le
 refine QJ.of_W func255 rfl ntmps255 results255 (by simp) ?_
 refine Qc<|xl rfl<|QQ (us:=[va,.int .i64 st,vm,ve]) rfl λb3 w1 hs1 hb3 hB3=>Lg.Qe ?_
 replace h:=h.ext hs1
 refine Qf<|Qc<|Lg.Qe<|Qg<|QA (α:=Nat) [(6,38)] (λk=>[(7,.int .i64 k)]) (λk w'=>w'=w1∧k≤a.ed.length∧nxt (a.ed.drop k) s e=nxt a.ed s e) (λk=>a.ed.length - k) (by rfl) 0 ⟨rfl,trivial⟩ ⟨rfl,Nat.zero_le _,rfl⟩ ?_
 rintro k g w2 ⟨rfl,hk,hn⟩
 refine Qf<|Qc<|Lg.Qb<|Lg.x (Qa rfl)<|Lg.x (Qd hB3 rfl rfl)<|Lg.x (Qr h rfl)<|Lg.x (QB rfl rfl)<|xe ?_
 refine QG rfl (λh12=>?_) (λh12=>?_)
 ·refine Qx ?_
  refine Qc<|Lg.Qe<|Ql ⟨[.int .i64 (-1)],⟨rfl,trivial⟩,?_,hs1⟩
  rw[List.drop_of_length_le (by omega)] at hn
  rw[←hn];rfl
 have hlt:k<a.ed.length:=by omega
 have hd:=QX hlt
 refine Qi<|Qf<|Qg<|QU (α:=Bool) [(15,32)] (λz=>[(32,.bool z)]) (λz w'=>w'=w2∧z=decide (a.ed[k].1=s∧a.ed[k].2.1=e)) (by rfl) ?_ ?_
 ·refine Qw<|Lg.x (Qa rfl)<|Lg.x (Qd hB3 rfl rfl)<|Lg.Qb<|xie h rfl rfl hlt λa18 h18=>Lg.x (Zc rfl)<|Lg.x (Qv (h18.fld 0 _ rfl) rfl) <|
   Lg.Qb<|xb (Q7 rfl rfl) (λh22=>?_) (λh22=>?_)
  ·refine Lg.Qb<|Lg.x (Qa rfl)<|Lg.x (Qd hB3 rfl rfl)<|Lg.Qb<|xie h rfl rfl hlt λa27 h27=>Lg.x (Zc rfl)<|Lg.x (Qv (h27.fld 1 _ rfl) rfl) <|
    Lg.Qb<|Lg.x (Q7 rfl rfl)<|Lg.x (Qm rfl)<|xe ?_
   exact ⟨_,⟨rfl,trivial⟩,rfl,by simp[h22]⟩
  refine Lg.Qb<|xs rfl<|xs rfl<|xs rfl<|xs rfl<|xs rfl<|xs rfl<|xs rfl<|xs rfl<|Lg.x (Qm rfl)<|xe ?_
  exact ⟨_,⟨rfl,trivial⟩,rfl,by simp[h22]⟩
 rintro z g w3 ⟨rfl,rfl⟩
 refine Q4 rfl (λh32=>?_) (λh32=>?_)
 ·refine Qc<|Lg.x (Qa rfl)<|Lg.x (Qd hB3 rfl rfl)<|Lg.Qb<|xie h rfl rfl hlt λa36 h36=>Lg.x (Zc rfl)<|Lg.x (Qv (h36.fld 2 _ rfl) rfl) <|
   Lg.Qe<|Ql ⟨[.int .i64 a.ed[k].2.2],⟨rfl,trivial⟩,?_,hs1⟩
  rw[←hn,hd,nxt,if_pos h32];rfl
 refine Qi<|Qw<|Lg.Qb<|Lg.QO rfl rfl<|Lg.Qe<|⟨k+1,by omega,⟨rfl,trivial⟩,rfl,by omega,?_⟩
 rw[←hn,hd,nxt,if_neg h32]
def UF (l:LI) (n:Int):Int:=if n∈l then (l.idxOf n:Int) else -1
theorem QeV {l:LI}{n:Int}{k:Nat}(h:n∉l.take k) (hk:k<l.length) (he:cget l k=n):UF l n=k:=by
 have hm:n∈l:=by rw[←he,←Zl hk];exact List.getElem_mem hk
 unfold UF
 rw[if_pos hm]
 have hs:l=l.take k++l.drop k:=(List.take_append_drop k l).symm
 have:l.idxOf n=k:=by
  rw[hs,List.idxOf_append,if_neg h,List.drop_eq_getElem_cons hk,List.idxOf_cons,show l[k]=n by rw[Zl hk];exact he]
  simp;omega
 rw[this]
theorem QcN {L:LN}{w:World}{v:Value}{l:LI}(h:QL L w.heap v l) (n:Int) :
  QJ prog 256 [v,.int .i64 n] w λr w'=>r=.int .i64 (UF l n)∧w'=w:=by
 have hle:=h.le
 refine QJ.of_W func256 rfl ntmps256 results256 (by simp) ?_
 refine Qc<|Qe<|Qf<|Qc<|Qe<|Qg<|QA (α:=Nat) [(4,18)] (λz=>[(5,.int .i64 z)]) (λz w'=>w'=w∧z≤l.length∧n∉l.take z) (λz=>l.length - z) (by rfl) 0 ⟨rfl,trivial⟩ ⟨rfl,Nat.zero_le _,by simp⟩ ?_
 rintro k g w1 ⟨rfl,hk,hm⟩
 refine Qf<|Qc<|Qb<|Qb<|x (Qr h rfl)<|x (QB rfl rfl)<|xe ?_
 refine QG rfl (λh9=>?_) (λh9=>?_)
 ·refine Qx ?_
  refine Qc<|Qe ?_
  rw[List.take_of_length_le (by omega)] at hm
  exact Ql ⟨[.int .i64 (-1)],⟨rfl,trivial⟩,by unfold UF;rw[if_neg hm];rfl,rfl⟩
 have hlt:k<l.length:=by omega
 refine Qi<|Qf<|Qg<|Qc<|Qb<|Qb<|xic (i:=k) h rfl rfl hlt λa14 h14=>x (Qv h14 rfl)<|Qb<|x (Q7 rfl rfl)<|xe ?_
 refine Q4 rfl (λh17=>?_) (λh17=>?_)
 ·refine Qc<|Qb<|Qe ?_
  exact Ql ⟨[.int .i64 k],⟨rfl,trivial⟩,by rw[QeV hm hlt h17];rfl,rfl⟩
 refine Qi<|Qw<|Qb<|QO rfl rfl<|Qe<|⟨k+1,by omega,⟨rfl,trivial⟩,rfl,hlt,?_⟩
 rw[List.take_succ_eq_append_getElem hlt,Zl hlt]
 simp only[List.mem_append,List.mem_singleton,not_or]
 exact ⟨hm,λe=>h17 e.symm⟩
theorem Vz {L:LN}{w:World}{v:Value}{l:LI}(h:QL L w.heap v l) (hl:l.length≤1000000) :
  QJ prog 200 [v] w λr w'=>Step [] w w'∧∃va,r=.agg #[va,.int .i64 0,nS,nS]∧Qu 3 w.heap.size w' va l:=by
 refine QJ.of_W func200 rfl ntmps200 results200 (by simp) ?_
 refine Qc<|xl rfl<|Qt (us:=[nS,.int .i64 0,nS,nS]) rfl λb2 w1 hs1 hb2 hB2=>xe ?_
 have hz1:=hs1.size
 have hl2:=hB2.lt
 refine Qc<|xl rfl<|Kg λb3 w2 hs2 hb3 hB3=>Qb<|?_
 have hs12:=hs1.trans hs2
 have hz2:=hs2.size
 have ho2:w2.ownsRow w1.heap.size 3 1 (.slice (some ⟨b3,0,none⟩) 0 0) 0 []:=hB3.own (n:=0) (sz:=1) rfl (by omega) hb3
 refine xl rfl<|zH ho2 rfl (h.ext hs12) rfl (KM l) (by omega) (by omega) λva w3 ho3 hs3 hn3=>?_
 have ho3':Qu 3 w1.heap.size w3 va l:=by
  have:w3.ownsRow w1.heap.size 3 1 va (0+l.length) ([]++l.map (.int .i64)):=ho3
  rw[Nat.zero_add,List.nil_append] at this;exact this
 have hA:=Qu.ints (L:=[]) ho3' (by omega) (by simp)
 have hB23:=(hB2.ext hs2).step hs3 (QM ho2 hl2)
 have hW3:Step [] w w3:=hs12.then hs3 (λb hb=>.inr (by have:=(Qk ho2 b hb).1;omega))
 refine x (QE ⟨hA.cells,trivial⟩)<|xl rfl<|Qn (us:=[va,.int .i64 0,nS,nS]) hB23 rfl rfl rfl rfl ⟨hA.one,rfl,rfl,rfl,trivial⟩ λw4 hs4 hB4=>xe ?_
 have ho4:=Qj ho3' hs4 (λb hb=>by have:=(Qk ho3' b hb).1;simp;omega)
 exact Ql ⟨[.agg #[va,.int .i64 0,nS,nS]],⟨⟨_,rfl,Qz rfl (hB4.at (L:=[]) (by simp)).cells⟩,trivial⟩,hW3.then1 hs4 hb2,va,rfl,Zo ho4 hz1⟩
theorem pig:∀(n:Nat) (l:LI),l.Nodup→(∀x∈l,0≤x∧x<n)→l.length≤n
 | 0,l,_,h=>by
  cases l with
  | nil=>simp
  | cons a l=>have:=h a List.mem_cons_self;omega
 | n+1,l,hd,h=>by
  by_cases hm:(n:Int)∈l
  ·have h1:=pig n (l.erase (n:Int)) (hd.erase _) (λx hx=>by
    have h2:=(List.Nodup.mem_erase_iff hd).1 hx
    have h3:=h x h2.2
    have h4:x≠(n:Int):=h2.1
    omega)
   rw[List.length_erase_of_mem hm] at h1
   omega
  ·have:=pig n l hd (λx hx=>by
    have h3:=h x hx
    have h4:x≠(n:Int):=λe=>hm (by rw[←e];exact hx)
    omega)
   omega
def Kx (a:QV) (s:Int) (out:LI) (v:Int):LI:=if 0≤nxt a.ed s v∧nxt a.ed s v∉out then out++[nxt a.ed s v] else out
def fdR (a:QV) (out:LI) (s:Int):LI:=a.al.foldl (Kx a s) out
def qW (a:QV):Nat→Nat→LI→LI
 | 0,_,out=>out
 | f+1,i,out=>if i<out.length then qW a f (i+1) (fdR a out (cget out i)) else out
def fd0 (a:QV):LI:=if 0<a.st then [0] else []
def found (a:QV):LI:=qW a a.st.toNat 0 (fd0 a)
structure V2 (a:QV) (out:LI):Prop where
 b:∀x∈out,0≤x∧x<a.st
 d:out.Nodup
theorem V2.len {a:QV}{out:LI}(h:V2 a out) (h0:0≤a.st):out.length≤a.st.toNat:=pig _ _ h.d (λx hx=>by have:=h.b x hx;omega)
theorem zI {es:List Ed}{s v:Int}(h:0≤nxt es s v):(s,v,nxt es s v)∈es:=by
 induction es with
 | nil=>simp[nxt] at h
 | cons e es ih =>
  rw[nxt] at h ⊢
  split at h
  ·rename_i he
   rw[if_pos he]
   obtain ⟨p,q,r⟩:=e
   obtain ⟨h1,h2⟩:=he
   simp only[] at h1 h2
   subst h1 h2
   exact List.mem_cons_self
  ·rename_i he
   rw[if_neg he]
   exact List.mem_cons_of_mem _ (ih h)
theorem Qfj {a:QV}(ho:Zs a) {out:LI}(h:V2 a out) (s v:Int):V2 a (Kx a s out v):=by
 unfold Kx
 split
 ·rename_i hc
  have hm:=ho.ed _ (zI hc.1)
  refine ⟨λx hx=>?_,?_⟩
  ·rcases List.mem_append.1 hx with hx | hx
   ·exact h.b x hx
   ·simp only[List.mem_singleton] at hx;subst hx;exact ⟨hc.1,hm.2.2.2.2⟩
  ·rw[List.nodup_append]
   refine ⟨h.d,by simp,λx hx y hy=>?_⟩
   simp only[List.mem_singleton] at hy
   subst hy
   exact λe=>hc.2 (by rw[←e];exact hx)
 ·exact h
theorem Qht {a:QV}{out:LI}{s v:Int}:∀x∈out,x∈Kx a s out v:=λx hx=>by unfold Kx;split;exact List.mem_append_left _ hx;exact hx
theorem Qjh {a:QV}{out:LI}{s v:Int}(h:0≤nxt a.ed s v):nxt a.ed s v∈Kx a s out v:=by
 unfold Kx
 by_cases hm:nxt a.ed s v∈out
 ·rw[if_neg (λe=>e.2 hm)];exact hm
 ·rw[if_pos ⟨h,hm⟩];simp
theorem Qfh {a:QV}(ho:Zs a) (s:Int):∀(vs:LI) (out:LI),V2 a out→V2 a (vs.foldl (Kx a s) out)
 | [],_,h=>h
 | v::vs,_,h=>Qfh ho s vs _ (Qfj ho h s v)
theorem z8 {a:QV}{s:Int}:∀(vs:LI) (out:LI),∀x∈out,x∈vs.foldl (Kx a s) out
 | [],_,_,hx=>hx
 | _::vs,_,x,hx=>z8 vs _ x (Qht x hx)
theorem Qfi {a:QV}{s:Int}:∀(vs:LI) (out:LI),∀v∈vs,0≤nxt a.ed s v→nxt a.ed s v∈vs.foldl (Kx a s) out
 | v::vs,out,u,hu,h=>by
  rcases List.mem_cons.1 hu with rfl | hu
  ·exact z8 vs _ _ (Qjh h)
  ·exact Qfi vs _ u hu h
theorem QbJ {a:QV}{s:Int}:∀(vs:LI) (out:LI),∃r,vs.foldl (Kx a s) out=out++r
 | [],out=>⟨[],by simp⟩
 | v::vs,out=>by
  obtain ⟨r,hr⟩:=QbJ (a:=a) (s:=s) vs (Kx a s out v)
  rw[List.foldl_cons,hr]
  unfold Kx
  split
  ·exact ⟨[nxt a.ed s v]++r,by simp⟩
  ·exact ⟨r,rfl⟩
theorem jD {l r:LI}{i:Nat}(h:i<l.length):cget (l++r) i=cget l i:=by
 rw[←Zl h,←Zl (by simp;omega),List.getElem_append_left h]
def Cl (a:QV) (out:LI) (i:Nat):Prop:=∀j,j<i→j<out.length→∀v∈a.al,0≤nxt a.ed (cget out j) v→nxt a.ed (cget out j) v∈out
theorem Cl.next {a:QV}{out:LI}{i:Nat}(h:Cl a out i) (hi:i<out.length):Cl a (fdR a out (cget out i)) (i+1):=by
 intro j hj hjl v hv hn
 obtain ⟨r,hr⟩:=QbJ (a:=a) (s:=cget out i) a.al out
 have hr':fdR a out (cget out i)=out++r:=hr
 have hjo:j<out.length:=by omega
 rw[hr',jD hjo] at hn ⊢
 by_cases e:j=i
 ·subst e
  have:=Qfi a.al out v hv hn
  rw[←hr'];exact this
 ·exact List.mem_append_left _ (h j (by omega) hjo v hv hn)
theorem Qfg {a:QV}(ho:Zs a):∀(f i:Nat) (out:LI),V2 a out→Cl a out i→i+f=a.st.toNat→V2 a (qW a f i out)∧Cl a (qW a f i out) (qW a f i out).length
 | 0,i,out,h,hc,hf=>by
  have:=h.len ho.st0
  exact ⟨h,λj hj hjl=>hc j (by rw[qW] at hj;omega) hjl⟩
 | f+1,i,out,h,hc,hf=>by
  rw[qW]
  split
  ·rename_i hi
   exact Qfg ho f (i+1) _ (Qfh ho _ _ _ h) (hc.next hi) (by omega)
  ·rename_i hi
   exact ⟨h,λj hj hjl=>hc j (by omega) hjl⟩
theorem Qfk (a:QV):V2 a (fd0 a):=by
 unfold fd0
 split
 ·rename_i h
  exact ⟨λx hx=>by simp only[List.mem_singleton] at hx;subst hx;exact ⟨by omega,h⟩,by simp⟩
 ·exact ⟨by simp,by simp⟩
theorem K0 {a:QV}(ho:Zs a):V2 a (found a)∧∀s∈found a,∀v∈a.al,0≤nxt a.ed s v→nxt a.ed s v∈found a:=by
 obtain ⟨h1,h2⟩:=Qfg ho a.st.toNat 0 (fd0 a) (Qfk a) (λj hj=>by omega) (by omega)
 refine ⟨h1,λs hs v hv hn=>?_⟩
 obtain ⟨j,hj,rfl⟩:=List.getElem_of_mem hs
 have:=h2 j hj hj v hv
 unfold found at hj hn ⊢
 rw[Zl hj] at hn ⊢
 exact this hn
def Jj (a:QV) (fd:LI) (i:Nat) (v:Int):Option Ed:=if 0≤nxt a.ed (cget fd i) v then some ((i:Int),v,UF fd (nxt a.ed (cget fd i) v)) else none
def Yo (a:QV) (fd:LI) (n:Nat):LI:=((List.range' 0 n).filter λi=>decide (cget fd i∈a.mr)).map λi:Nat=>(i:Int)
def YB (a:QV) (fd:LI) (n:Nat):List Ed:=(List.range' 0 n).flatMap λi=>a.al.filterMap (Jj a fd i)
def Ys (a:QV):QV:=⟨a.al,(found a).length,Yo a (found a) (found a).length,YB a (found a) (found a).length⟩
theorem Xa {β:Type}{r:Int→Int→Prop}{q:β→β→Prop}{g:Int→Option β}(hg:∀x y u v,r x y→g x=some u→g y=some v→q u v):∀{l:LI},l.Pairwise r→(l.filterMap g).Pairwise q
 | [],_=>by simp
 | x::l,h=>by
  obtain ⟨h1,h2⟩:=List.pairwise_cons.1 h
  rw[List.filterMap_cons]
  split
  ·exact Xa hg h2
  ·rename_i u hu
   refine List.pairwise_cons.2 ⟨λv hv=>?_,Xa hg h2⟩
   obtain ⟨y,hy,hyv⟩:=List.mem_filterMap.1 hv
   exact hg x y u v (h1 y hy) hu hyv
theorem yf {a:QV}(ho:Zs a):Zs (Ys a)∧(Ys a).al=a.al∧(Ys a).st≤a.st:=by
 obtain ⟨h1,h2⟩:=K0 ho
 have hl:=h1.len ho.st0
 have h0:=ho.st0
 have h4:=ho.st1
 refine ⟨⟨ho.al,ho.ali,by simp[Ys],by simp only[Ys];omega,λs hs=>?_,?_,λe he=>?_,?_⟩,rfl,by simp only[Ys];omega⟩
 ·simp only[Ys,Yo,List.mem_map,List.mem_filter,List.mem_range'_1] at hs
  obtain ⟨i,⟨hi,_⟩,rfl⟩:=hs
  simp only[Ys];omega
 ·simp only[Ys,Yo]
  unfold Yi
  rw[List.pairwise_map]
  refine List.Pairwise.sublist List.filter_sublist ?_
  exact (List.pairwise_lt_range' (s:=0) (n:=(found a).length)).imp (λh=>by omega)
 ·simp only[Ys,YB,List.mem_flatMap,List.mem_filterMap,List.mem_range'_1] at he
  obtain ⟨i,⟨_,hi⟩,v,hv,hf⟩:=he
  unfold Jj at hf
  split at hf
  ·rename_i hn
   cases hf
   have hi':i<(found a).length:=by omega
   have hm:=h2 (cget (found a) i) (by rw[←Zl hi'];exact List.getElem_mem hi') v hv hn
   have hx:=List.idxOf_lt_length_of_mem hm
   simp only[Ys]
   unfold UF
   rw[if_pos hm]
   exact ⟨by omega,by omega,hv,by omega,by omega⟩
  ·cases hf
 ·simp only[Ys,YB]
  have key:∀(is:LN),is.Pairwise (·<·)→(is.flatMap λi=>a.al.filterMap (Jj a (found a) i)).Pairwise λx y:Ed=>x.1<y.1∨(x.1=y.1∧x.2.1<y.2.1):=by
   intro is
   induction is with
   | nil=>intro _;simp
   | cons i is ih =>
    intro hp
    obtain ⟨p1,p2⟩:=List.pairwise_cons.1 hp
    rw[List.flatMap_cons,List.pairwise_append]
    have from_i:∀(i:Nat) (e:Ed),e∈a.al.filterMap (Jj a (found a) i)→e.1=i:=by
     intro i e he
     obtain ⟨v,_,hf⟩:=List.mem_filterMap.1 he
     unfold Jj at hf
     split at hf
     ·cases hf;rfl
     ·cases hf
    refine ⟨?_,ih p2,λe he e' he'=>?_⟩
    ·refine Xa (r:=(·<·)) (λx y u v hxy hu hv=>?_) ho.ali
     unfold Jj at hu hv
     split at hu
     ·cases hu
      split at hv
      ·cases hv
       exact .inr ⟨rfl,hxy⟩
      ·cases hv
     ·cases hu
    ·obtain ⟨j,hj,he2⟩:=List.mem_flatMap.1 he'
     have e1:=from_i i e he
     have e2:=from_i j e' he2
     have:=p1 j hj
     left;omega
  exact key _ (List.pairwise_lt_range' (s:=0) (n:=(found a).length))
set_option maxHeartbeats 1000000 in
theorem QcO {L:LN}{w:World}{va vm ve:Value}{a:QV}(h:Zt L w.heap va vm ve a) (ho:Zs a) :
  QJ prog 253 [.agg #[va,.int .i64 a.st,vm,ve]] w λr w'=>Step [] w w'∧Qu 3 w.heap.size w' r (found a):=by
 have h0:=ho.st0
 have h1:=ho.st1
 have hal:=ho.al_le
 refine QJ.of_W func253 rfl ntmps253 results253 (by simp) ?_
 refine Qc<|xl rfl<|QQ (us:=[va,.int .i64 a.st,vm,ve]) rfl λb1 w1 hs1 hb1 hB1=>Qe<|Qc<|Qe ?_
 have hz1:=hs1.size
 have hl1:=hB1.lt
 refine QU (α:=Value) [(3,3),(7,12)] (λz=>[(3,z)]) (λz w'=>Step [] w1 w'∧Qu 3 w1.heap.size w' z (fd0 a)) (by rfl) ?_ ?_
 ·refine Qc<|x (Qa rfl)<|x (Qd hB1 rfl rfl)<|x (ZO rfl rfl)<|xe ?_
  refine QG rfl (λh9=>?_) (λh9=>?_)
  ·refine Qi ?_
   exact ⟨nS,⟨rfl,trivial⟩,Step.refl _ _,by unfold fd0;rw[if_neg h9];exact QP _ _ _ _⟩
  refine Qw<|Qb<|xl rfl<|QD (us:=[[.int .i64 0]]) rfl rfl (by decide) (by simp) ⟨rfl,rfl,trivial⟩ λb11 w2 hs2 hb11 hB11=>?_
  have hn:w2.ownsRow w1.heap.size 3 1 (nS) 0 []:=QP _ _ _ _
  have hz2:=hs2.size
  refine xl rfl<|QZ (news:=[.int .i64 0]) (L:=[]) hn rfl rfl rfl (hB11.at (by simp)) (by simp[Value.oneCell']) (by omega) (by omega) λv3 w3 ho3 hs3 hn3 =>
   Qe<|⟨v3,⟨rfl,trivial⟩,hs2.then hs3 (λb hb=>by simp[ob] at hb),?_⟩
  unfold fd0
  rw[if_pos h9];exact ho3
 rintro v0 g4 w4 ⟨hs4,ho4⟩
 have hW4:=hs1.trans hs4
 have hz4:=hs4.size
 refine Zd (found a) λT hT=>?_
 have hT':qW a a.st.toNat 0 (fd0 a)=T:=hT
 refine Qf<|Qc<|Qe<|Qg<|QA (α:=Nat×LI×Value) [(3,6),(13,48)] (λz=>[(3,z.2.2),(4,.int .i64 z.1)])
  (λz w'=>Step [] w1 w'∧Qu 3 w1.heap.size w' z.2.2 z.2.1∧V2 a z.2.1∧z.1≤z.2.1.length∧qW a (a.st.toNat - z.1) z.1 z.2.1=T) (λz=>a.st.toNat - z.1) (by rfl) (0,fd0 a,v0) ⟨rfl,rfl,trivial⟩
  ⟨hs4,ho4,Qfk a,Nat.zero_le _,hT'⟩ ?_
 rintro ⟨i,out,v⟩ g5 w5 ⟨hs5,ho5,hfd,hi,hr5⟩
 simp only[] at ho5 hfd hi hr5
 have hlen:=hfd.len h0
 have hI5:=Qu.ints (L:=[]) ho5 (by omega) (by simp)
 refine Qf<|Qc<|Qb<|Qb<|x (Qr hI5 rfl)<|x (QB rfl rfl)<|xe ?_
 refine QG rfl (λh16=>?_) (λh16=>?_)
 ·have e:out=T:=by
   rw[←hr5]
   generalize a.st.toNat - i=f
   cases f with
   | zero=>rfl
   | succ f=>rw[qW,if_neg (by omega)]
  refine Qx ?_
  refine Qc<|Qb<|Qe ?_
  rw[e] at ho5
  exact Ql ⟨[v],⟨rfl,trivial⟩,hs1.trans hs5,by rw[hT];exact Zo ho5 hz1⟩
 have hlt:i<out.length:=by omega
 have hfu:a.st.toNat - i=(a.st.toNat - (i+1))+1:=by omega
 rw[hfu,qW,if_pos hlt] at hr5
 refine Zd (cget out i) λs hse=>?_
 rw[hse] at hr5
 refine Zd (fdR a out s) λR hR=>?_
 rw[hR] at hr5
 unfold fdR at hR
 refine Qi<|Qf<|Qg<|Qc<|Qe<|Qg<|QA (α:=Nat×LI×Value) [(3,3),(5,6),(19,48)] (λz=>[(3,z.2.2),(5,.int .i64 z.1)])
  (λz w'=>Step [] w1 w'∧Qu 3 w1.heap.size w' z.2.2 z.2.1∧V2 a z.2.1∧z.1≤a.al.length∧i<z.2.1.length∧cget z.2.1 i=s∧(a.al.drop z.1).foldl (Kx a s) z.2.1=R) (λz=>a.al.length - z.1) (by rfl) (0,out,v) ⟨rfl,rfl,trivial⟩
  ⟨hs5,ho5,hfd,Nat.zero_le _,hlt,hse,hR⟩ ?_
 clear hs5 ho5 hfd hi hlen hI5 hlt hse hR h16
 rintro ⟨k,out,v⟩ g6 w6 ⟨hs6,ho6,hfd,hk,hlt,hse,hr6⟩
 simp only[] at ho6 hfd hk hlt hse hr6
 have hlen:=hfd.len h0
 have hal6:=(h.al.ext hs1).ext hs6
 have hB16:=hB1.ext hs6
 have hI6:=Qu.ints (L:=[]) ho6 (by omega) (by simp)
 refine Qf<|Qc<|Qb<|x (Qa rfl)<|x (Qd hB16 rfl rfl)<|x (Qr hal6 rfl)<|x (QB rfl rfl)<|xe ?_
 refine QG rfl (λh23=>?_) (λh23=>?_)
 ·refine Qx ?_
  refine Qw<|Qb<|QO rfl rfl<|Qe ?_
  rw[List.drop_of_length_le (by omega)] at hr6
  have hr6':out=R:=hr6
  exact ⟨(i+1,out,v),by simp only[];omega,⟨rfl,rfl,trivial⟩,hs6,ho6,hfd,hlt,by simp only[];rw[hr6'];exact hr5⟩
 have hltk:k<a.al.length:=by omega
 rw[List.drop_eq_getElem_cons hltk,List.foldl_cons,Zl hltk] at hr6
 refine Zd (cget a.al k) λu hu=>?_
 rw[hu] at hr6
 have hed6:=(h.ed.ext hs1).ext hs6
 refine Zd (nxt a.ed s u) λt ht=>?_
 have hfe:Kx a s out u=if 0≤t∧t∉out then out++[t] else out:=by unfold Kx;rw[ht]
 have hok':=Qfj ho hfd s u
 rw[hfe] at hr6 hok'
 refine Qi<|Qf<|Qg<|Qf<|QS (Step [] w6) [(0,true),(1,true),(2,true),(3,true),(4,true),(5,true),(6,true),(7,true),(8,true),(9,true),(10,false),(11,true)] mixed (by rfl) (by kernel_rfl) (Step.drew _ _) ?_
 refine pq (λ_ hc=>Qq (hB16.ext hc) rfl rfl)<|p (λ_=>Qo)<|p (λ_=>Qo)<|pic (i:=i) rfl hI6 rfl rfl hlt λa29 h29=>?_
 rw[hse] at h29
 refine pq (λ_ hc=>Qv (h29.ext hc) rfl)<|p (λ_=>Qa rfl)<|pq (λ_ hc=>Qd (hB16.ext hc) rfl rfl)<|p (λ_=>Qo) <|
  pic (i:=k) rfl hal6 rfl rfl hltk λa34 h34=>?_
 rw[hu] at h34
 have hsr:=yw (va:=va) (vm:=vm) (a:=a) (hed6.ext (Step.drew [] w6)) s u a.st
 rw[ht] at hsr
 refine pq (λ_ hc=>Qv (h34.ext hc) rfl)<|pk<|xf<|hsr.mono ?_
 rintro r7 w7 ⟨rfl,hs7⟩
 have hs67:=(Step.drew [] w6).trans hs7
 refine ⟨hs67,p (λ_=>Qh)<|pe ?_⟩
 have ho7:=Qs ho6 hs67
 have hI7:=hI6.ext hs67
 refine QU (α:=Unit) [(37,44)] (λz=>[(44,.bool (decide (0≤t∧t∉out)))]) (λz w'=>w'=w7) (by rfl) ?_ ?_
 ·refine Qw<|Qb<|xb (ZR rfl rfl) (λh38=>?_) (λh38=>?_)
  ·refine Qb<|Qb<|Qb<|xl rfl<|xf<|(QbH hI7 t).mono ?_
   rintro r8 w8 ⟨rfl,rfl⟩
   refine x (Zn rfl)<|x (Qm rfl)<|xe ?_
   refine ⟨(),⟨congrArg Value.bool ?_,trivial⟩,rfl⟩
   show (!decide (t∈out))=_
   rw[Bool.eq_iff_iff];simp[h38]
  refine Qb<|xs rfl<|xs rfl<|xs rfl<|xs rfl<|x (Qm rfl)<|xe ?_
  exact ⟨(),⟨congrArg Value.bool (decide_eq_false (λe=>h38 e.1)).symm,trivial⟩,rfl⟩
 rintro _ g9 w9 rfl
 refine QG rfl (λh44=>?_) (λh44=>?_)
 ·rw[if_neg h44] at hr6
  refine Qi<|Qw<|Qb<|QO rfl rfl<|Qe ?_
  exact ⟨(k+1,out,v),by simp only[];omega,⟨rfl,rfl,trivial⟩,hs6.trans hs67,ho7,hfd,hltk,hlt,hse,hr6⟩
 rw[if_pos h44] at hr6 hok'
 have hs17:=hs6.trans hs67
 have hz7:=hs17.size
 refine Qw<|Qb<|Qb<|xl rfl<|QD (us:=[[.int .i64 t]]) rfl rfl (by decide) (by simp) ⟨rfl,rfl,trivial⟩ λb47 w10 hs10 hb47 hB47=>?_
 have ho10:=Qs ho7 hs10
 have hz10:=hs10.size
 refine xl rfl<|QZ (news:=[.int .i64 t]) (L:=[]) ho10 rfl rfl rfl (hB47.at (by simp)) (by simp[Value.oneCell']) (by omega) (by omega) λv11 w11 ho11 hs11 hn11 =>
  Qe ?_
 have hge:=Qk ho6
 refine Qw<|Qb<|QO rfl rfl<|Qe<|⟨(k+1,out++[t],v11),by simp only[];omega,⟨rfl,rfl,trivial⟩,(hs17.trans hs10).then hs11 (λb hb=>.inr (hge b hb).1),Qu.snoc ho11,hok',hltk,by simp;omega,?_,hr6⟩
 simp only[]
 rw[jD hlt];exact hse
structure CrI (w7:World) (b4:Nat) (vcl:Value) (n:Int) (vm vd:Value) (M:LI) (E:List Ed) (w:World):Prop where
 st:Step [b4] w7 w
 B:Q2 w.heap b4 58 [vcl,.int .i64 n,vm,vd]
 m:Qu 3 w7.heap.size w vm M
 e:Z4 144 w7.heap.size w vd E
 dj:Dj vm vd
section
variable {w7 w w' w'':World} {b4:Nat} {vcl:Value} {n:Int} {vm vd:Value} {M:LI} {E:List Ed}
theorem CrI.ext (h:CrI w7 b4 vcl n vm vd M E w) (hs:Step [] w w'):CrI w7 b4 vcl n vm vd M E w':=⟨h.st.trans hs,h.B.ext hs,Qs h.m hs,Qs h.e hs,h.dj⟩
theorem CrI.setM (h:CrI w7 b4 vcl n vm vd M E w) (hb:b4<w7.heap.size) {vm':Value}{M':LI}(hs:Step (ob vm) w w') (hm:Qu 3 w7.heap.size w' vm' M') (hn:∀b∈ob vm',b∈ob vm∨w.heap.size≤b) (hs2:Step [b4] w' w'')
  (hB:Q2 w''.heap b4 58 [vcl,.int .i64 n,vm',vd]):CrI w7 b4 vcl n vm' vd M' E w'' :=
 ⟨(h.st.then hs (λb hb=>.inr (Qk h.m b hb).1)).trans' hs2,hB,Qj hm hs2 (λb hb'=>by have:=(Qk hm b hb').1;simp;omega),
  Qj (Qj h.e hs h.dj.symm) hs2 (λb hb'=>by have:=(Qk h.e b hb').1;simp;omega),(h.dj.symm.grow hn (QR h.e)).symm⟩
theorem CrI.setE (h:CrI w7 b4 vcl n vm vd M E w) (hb:b4<w7.heap.size) {vd':Value}{E':List Ed}(hs:Step (ob vd) w w') (hm:Z4 144 w7.heap.size w' vd' E') (hn:∀b∈ob vd',b∈ob vd∨w.heap.size≤b) (hs2:Step [b4] w' w'')
  (hB:Q2 w''.heap b4 58 [vcl,.int .i64 n,vm,vd']):CrI w7 b4 vcl n vm vd' M E' w'' :=
 ⟨(h.st.then hs (λb hb=>.inr (Qk h.e b hb).1)).trans' hs2,hB,Qj (Qj h.m hs h.dj) hs2 (λb hb'=>by have:=(Qk h.m b hb').1;simp;omega),
  Qj hm hs2 (λb hb'=>by have:=(Qk hm b hb').1;simp;omega),h.dj.grow hn (QR h.m)⟩
end
theorem q7 (a:QV) (fd:LI) (k:Nat):Yo a fd (k+1)=if cget fd k∈a.mr then Yo a fd k++[(k:Int)] else Yo a fd k:=by
 unfold Yo
 rw[List.range'_1_concat,List.filter_append,List.map_append,Nat.zero_add]
 by_cases h:cget fd k∈a.mr
 ·rw[if_pos h,List.filter_cons,if_pos (decide_eq_true h)];rfl
 ·rw[if_neg h,List.filter_cons,if_neg (by rw[decide_eq_false h];simp),List.filter_nil,List.map_nil,List.append_nil]
theorem jG (a:QV) (fd:LI):∀k,(Yo a fd k).length≤k
 | 0=>by simp[Yo]
 | k+1=>by
  have:=jG a fd k
  rw[q7]
  split
  ·simp;omega
  ·omega
theorem Qc0 (a:QV) (fd:LI) (k:Nat):YB a fd (k+1)=YB a fd k++a.al.filterMap (Jj a fd k):=by
 unfold YB
 rw[List.range'_1_concat,List.flatMap_append,Nat.zero_add];simp
set_option maxHeartbeats 2000000 in
theorem qp {L:LN}{w:World}{va vm ve:Value}{a:QV}(h:Zt L w.heap va vm ve a) (ho:Zs a) :
  QJ prog 201 [.agg #[va,.int .i64 a.st,vm,ve]] w λr w'=>Step [] w w'∧Xr w.heap.size w'.heap r (Ys a):=by
 have h0:=ho.st0
 have h1:=ho.st1
 have hal:=ho.al_le
 have hfo:=(K0 ho).1
 have hfl:=hfo.len h0
 refine QJ.of_W func201 rfl ntmps201 results201 (by simp) ?_
 refine Zd (found a) λfd hfd=>?_
 rw[hfd] at hfl
 have hcan:Ys a=⟨a.al,fd.length,Yo a fd fd.length,YB a fd fd.length⟩:=by unfold Ys;rw[hfd]
 refine Qc<|xl rfl<|QQ (us:=[va,.int .i64 a.st,vm,ve]) rfl λb1 w1 hs1 hb1 hB1=>xl rfl<|Qt (us:=[nS,.int .i64 0,nS,nS]) rfl λb2 w2 hs2 hb2 hB2=>xe ?_
 have hs12:=hs1.trans hs2
 have hfr:=QcO (h.ext hs12) ho
 rw[hfd] at hfr
 refine Qc<|x (Qq (hB1.ext hs2) rfl rfl)<|xl rfl<|xf<|hfr.mono ?_
 rintro vf w3 ⟨hs3,hof⟩
 refine Qe ?_
 have hs13:=hs12.trans hs3
 have hB13:=(hB1.ext hs2).ext hs3
 refine Qc<|x (Qa rfl)<|x (Qd hB13 rfl rfl)<|xl rfl<|xf<|(Vz (h.al.ext hs13) (by omega)).mono ?_
 rintro r4 w4 ⟨hs4,vcl,rfl,hcl⟩
 have hclA:=Qu.ints (L:=[]) hcl (by omega) (by simp)
 refine xl rfl<|Qt (us:=[nS,.int .i64 0,nS,nS]) rfl λb4 w5 hs5 hb4 hB4 =>
  xl rfl<|Qn (us:=[vcl,.int .i64 0,nS,nS]) hB4 rfl rfl rfl rfl ⟨hclA.one,rfl,rfl,rfl,trivial⟩ λw6 hs6 hB6=>xe ?_
 have hs46:Step [] w4 w6:=hs5.then1 hs6 hb4
 have hs36:=hs4.trans hs46
 have hfA3:=Qu.ints (L:=[]) hof (by omega) (by simp)
 have hz1:=hs1.size
 have hz2:=hs2.size
 have hz3:=hs3.size
 have hz4:=hs4.size
 have hz46:=hs46.size
 have hl1:=hB1.lt
 have hl2:=hB2.lt
 have hl4:=hB6.lt
 refine Qc<|Qb<|x (Qr hfA3 rfl)<|x (Qa rfl)<|xl rfl<|QF (u:=.int .i64 fd.length) hB6 rfl rfl (by simp) rfl λw7 hs7 hB7=>xe ?_
 have hz7:=hs7.size
 have hs37:Step [b4] w3 w7:=(hs36.any (L:=[b4])).trans' hs7
 have hW7:Step [] w w7:=(hs13.trans hs36).then1 hs7 (by omega)
 have hf7:QL [b4] w7.heap vf fd:=((hfA3.up (L':=[b4]) (λb hb=>.inr (by simp at hb;omega))).ext hs36).st hs7
 have ha7:Zt [b4] w7.heap va vm ve a:=(h.up (λb hb=>.inr (by simp at hb;omega))).ext hW7
 have hc7:Qu 3 w3.heap.size w7 vcl a.al:=Qj (Qs hcl hs46) hs7 (λb hb=>by have:=QR hcl b hb;simp;omega)
 have hB17:=(hB13.ext hs36).step hs7 (by simp;omega)
 have hB27:=((hB2.ext hs3).ext hs36).step hs7 (by simp;omega)
 have hl7:b4<w7.heap.size:=by omega
 have n1:b1∉[b4]:=by simp;omega
 have n2:b2∉[b4]:=by simp;omega
 refine Qf<|Qc<|Qe<|Qg<|QA (α:=Nat×Value×Value) [(5,7),(16,69)] (λz=>[(5,.int .i64 z.1)])
  (λz w'=>z.1≤fd.length∧CrI w7 b4 vcl fd.length z.2.1 z.2.2 (Yo a fd z.1) (YB a fd z.1) w'∧(YB a fd z.1).length≤z.1*32) (λz=>fd.length - z.1) (by rfl) (0,nS,nS) ⟨rfl,trivial⟩
  ⟨Nat.zero_le _,⟨Step.refl _ _,hB7,QP _ _ _ _,QP _ _ _ _,Dj.nil' _⟩,Nat.zero_le _⟩ ?_
 rintro ⟨i,v1,v2⟩ g8 w8 ⟨hi,hI,hel⟩
 simp only[] at hi hI hel
 have hml:=jG a fd i
 have hf8:=hf7.st hI.st
 refine Qf<|Qc<|Qb<|Qb<|x (Qr hf8 rfl)<|x (QB rfl rfl)<|xe ?_
 refine QG rfl (λh19=>?_) (λh19=>?_)
 ·have hie:i=fd.length:=by omega
  rw[hie] at hI hel hml
  refine Qx ?_
  have hmA:=Qu.ints (L:=[]) hI.m (by omega) (by simp)
  have heA:=Z4.eds (L:=[]) hI.e (by omega) (by simp)
  refine Qc<|x (Qq hI.B rfl rfl)<|xl rfl<|Qn (us:=[vcl,.int .i64 fd.length,v1,v2]) (hB27.step hI.st n2) rfl rfl rfl rfl ⟨hclA.one,rfl,hmA.one,heA.one,trivial⟩ λw9 hs9 hB9=>xe ?_
  refine Ql ⟨[.agg #[vcl,.int .i64 fd.length,v1,v2]],⟨⟨_,rfl,Qz rfl (hB9.at (L:=[]) (by simp)).cells⟩,trivial⟩,(hW7.then1 hI.st (by omega)).then1 hs9 (by omega),?_⟩
  rw[hcan]
  have k1:=Qj (Qj hc7 hI.st (λb hb=>by have:=QR hcl b hb;simp;omega)) hs9 (λb hb=>by have:=(Qk hcl b hb).1;simp;omega)
  have k2:=Qj hI.m hs9 (λb hb=>by have:=(Qk hI.m b hb).1;simp;omega)
  have k3:=Qj hI.e hs9 (λb hb=>by have:=(Qk hI.e b hb).1;simp;omega)
  refine ⟨vcl,v1,v2,rfl,λL' hL'=>⟨?_,?_,?_⟩⟩
  ·exact Qu.ints k1 (by show a.al.length≤_;omega) (λb hb=>by have:=hL' b hb;omega)
  ·exact Qu.ints k2 (by show (Yo a fd fd.length).length≤_;omega) (λb hb=>by have:=hL' b hb;omega)
  ·exact Z4.eds k3 (by show (YB a fd fd.length).length≤_;omega) (λb hb=>by have:=hL' b hb;omega)
 have hlt:i<fd.length:=by omega
 refine Zd (cget fd i) λs hse=>?_
 have hms:=q7 a fd i
 rw[hse] at hms
 refine Qi<|Qf<|Qg<|QU (α:=Value) [(22,34)] (λz=>[]) (λz w'=>CrI w7 b4 vcl fd.length z v2 (Yo a fd (i+1)) (YB a fd i) w') (by rfl) ?_ ?_
 ·have ha8:=ha7.st hI.st
  have hB18:=hB17.step hI.st n1
  refine Qf<|QS (Step [] w8) [(0,true),(1,true),(2,true),(3,true),(4,true),(5,true),(6,false)] mixed (by rfl) (by kernel_rfl) (Step.drew _ _) ?_
  refine p (λ_=>Qa rfl)<|pq (λ_ hc=>Qd (hB18.ext hc) rfl rfl)<|p (λ_=>Qo)<|p (λ_=>Qo)<|pic (i:=i) rfl hf8 rfl rfl hlt λa26 h26=>?_
  rw[hse] at h26
  refine pq (λ_ hc=>Qv (h26.ext hc) rfl)<|pk<|xf<|(QbH (ha8.mr.ext (Step.drew [] w8)) s).mono ?_
  rintro r10 w10 ⟨rfl,rfl⟩
  have hI10:=hI.ext (Step.drew [] w8)
  refine ⟨Step.drew _ _,pe ?_⟩
  refine QG rfl (λh28=>?_) (λh28=>?_)
  ·rw[if_neg h28] at hms
   refine Qi ?_
   exact ⟨v1,trivial,by rw[hms];exact hI10⟩
  rw[if_pos h28] at hms
  refine Qw<|x (Qa rfl)<|x (Qd hI10.B rfl rfl)<|Qb<|xl rfl<|QD (us:=[[.int .i64 i]]) rfl rfl (by decide) (by simp) ⟨rfl,rfl,trivial⟩ λb32 w11 hs11 hb32 hB32=>?_
  have hI11:=hI10.ext hs11
  refine xl rfl<|QZ (news:=[.int .i64 i]) (L:=[]) hI11.m rfl rfl rfl (hB32.at (by simp)) (by simp[Value.oneCell']) (by omega) hI11.st.size λv12 w12 ho12 hs12 hn12=>?_
  have ho12':Qu 3 w7.heap.size w12 v12 (Yo a fd i++[(i:Int)]):=Qu.snoc ho12
  refine x (Qa rfl)<|xl rfl<|QF (hI11.B.step hs12 (QM hI11.m hl7)) rfl rfl (by simp) (Qu.ints (L:=[]) ho12' (by simp;omega) (by simp)).one λw13 hs13' hB13' =>
   xe ?_
  exact ⟨v12,trivial,by rw[hms];exact hI11.setM hl7 hs12 ho12' hn12 hs13' hB13'⟩
 rintro v3 g14 w14 hI14
 refine Zd (YB a fd (i+1)) λE1 hE1=>?_
 have hE1':=Qc0 a fd i
 rw[hE1] at hE1'
 refine Qc<|Qe<|Qg<|QA (α:=Nat×List Ed×Value) [(6,7),(35,69)] (λz=>[(6,.int .i64 z.1)])
  (λz w'=>z.1≤a.al.length∧CrI w7 b4 vcl fd.length v3 z.2.2 (Yo a fd (i+1)) z.2.1 w'∧z.2.1.length≤i*32+z.1∧z.2.1++(a.al.drop z.1).filterMap (Jj a fd i)=E1) (λz=>a.al.length - z.1) (by rfl) (0,YB a fd i,v2) ⟨rfl,trivial⟩
  ⟨Nat.zero_le _,hI14,hel,hE1'.symm⟩ ?_
 rintro ⟨k,E,vd⟩ g15 w15 ⟨hk,hI15,hl15,hr15⟩
 simp only[] at hk hI15 hl15 hr15
 have ha15:=ha7.st hI15.st
 have hB115:=hB17.step hI15.st n1
 have hf15:=hf7.st hI15.st
 refine Qf<|Qc<|Qb<|x (Qa rfl)<|x (Qd hB115 rfl rfl)<|x (Qr ha15.al rfl)<|x (QB rfl rfl)<|xe ?_
 refine QG rfl (λh39=>?_) (λh39=>?_)
 ·refine Qx ?_
  refine Qw<|Qb<|QO rfl rfl<|Qe ?_
  rw[List.drop_of_length_le (by omega),List.filterMap_nil,List.append_nil] at hr15
  refine ⟨(i+1,v3,vd),by simp only[];omega,⟨rfl,trivial⟩,hlt,?_,?_⟩
  ·simp only[];rw[hE1,←hr15];exact hI15
  ·simp only[];rw[hE1,←hr15];omega
 have hltk:k<a.al.length:=by omega
 refine Zd (cget a.al k) λu hu=>?_
 rw[List.drop_eq_getElem_cons hltk,Zl hltk,hu,List.filterMap_cons] at hr15
 refine Zd (nxt a.ed s u) λt ht=>?_
 have hcf:Jj a fd i u=if 0≤t then some ((i:Int),u,UF fd t) else none:=by unfold Jj;rw[hse,ht]
 rw[hcf] at hr15
 have hsr:=yw (va:=va) (vm:=vm) (a:=a) (ha15.ed.ext (Step.drew [] w15)) s u a.st
 rw[ht] at hsr
 refine Qi<|Qf<|Qg<|Qf<|QS (Step [] w15) [(0,true),(1,true),(2,true),(3,true),(4,true),(5,true),(6,true),(7,true),(8,true),(9,true),(10,false),(11,true)] mixed (by rfl) (by kernel_rfl) (Step.drew _ _) ?_
 refine pq (λ_ hc=>Qq (hB115.ext hc) rfl rfl)<|p (λ_=>Qo)<|p (λ_=>Qo)<|pic (i:=i) rfl hf15 rfl rfl hlt λa45 h45=>?_
 rw[hse] at h45
 refine pq (λ_ hc=>Qv (h45.ext hc) rfl)<|p (λ_=>Qa rfl)<|pq (λ_ hc=>Qd (hB115.ext hc) rfl rfl)<|p (λ_=>Qo) <|
  pic (i:=k) rfl ha15.al rfl rfl hltk λa50 h50=>?_
 rw[hu] at h50
 refine pq (λ_ hc=>Qv (h50.ext hc) rfl)<|pk<|xf<|hsr.mono ?_
 rintro r16 w16 ⟨rfl,hs16⟩
 have hs1516:=(Step.drew [] w15).trans hs16
 refine ⟨hs1516,p (λ_=>Qh)<|pe ?_⟩
 have hI16:=hI15.ext hs1516
 have hB116:=hB115.ext hs1516
 have hf16:=hf15.ext hs1516
 refine Qc<|Qb<|x (ZR rfl rfl)<|xe ?_
 refine QG rfl (λh54=>?_) (λh54=>?_)
 ·rw[if_neg h54] at hr15
  refine Qi<|Qw<|Qb<|QO rfl rfl<|Qe ?_
  exact ⟨(k+1,E,vd),by simp only[];omega,⟨rfl,trivial⟩,hltk,hI16,by simp only[];omega,hr15⟩
 rw[if_pos h54] at hr15
 have hvd:=Qk hI15.e
 have haD:QL (b4::ob vd) w16.heap va a.al:=(((ha7.al.up (L':=b4::ob vd) (λb hb=>by
  rcases List.mem_cons.1 hb with rfl | hb
  ·exact .inl (by simp)
  ·exact .inr (hvd b hb).1)).step hI15.st (by simp)).ext hs1516)
 have nb4:=QM hI16.e hl7
 have nb1:b1∉ob vd:=QM hI16.e (by omega)
 refine QS (Step (ob vd) w16) [(0,true),(1,true),(2,true),(3,true),(4,true),(5,true),(6,true),(7,true),(8,true),(9,true),(10,false),(11,true),(12,false),(13,false),(14,true),(15,false)] mixed (by rfl) (by kernel_rfl) (Step.drew _ _) ?_
 refine p (λ_=>Qa rfl)<|pq (λ_ hc=>Qd (hI16.B.step hc nb4) rfl rfl)<|p (λ_=>Qo)<|p (λ_=>Qa rfl)<|pq (λ_ hc=>Qd (hB116.step hc nb1) rfl rfl) <|
  p (λ_=>Qo)<|pic (i:=k) rfl haD rfl rfl hltk λa61 h61=>?_
 rw[hu] at h61
 refine pq (λ_ hc=>Qv (h61.step hc (λb hb=>List.mem_cons_of_mem _ hb)) rfl)<|p (λ_=>Qo)<|p (λ_=>Qo) <|
  pk<|xf<|(QcN (hf16.ext (Step.drew [] w16)) t).mono ?_
 rintro r17 w17 ⟨rfl,rfl⟩
 refine ⟨Step.drew _ _,p (λ_=>QE ⟨rfl,rfl,rfl,trivial⟩)<|pk<|QD (us:=[Qy ((i:Int),u,UF fd t)]) rfl rfl (by decide) (by exact (by decide:1*3≤1000000)) ⟨rfl,rfl,trivial⟩ λb67 w18 hs18 hb67 hB67=>?_⟩
 have hs1618:=(Step.drew [] w16).trans hs18
 have hI18:=hI16.ext hs1618
 refine ⟨hs1618.any,?_⟩
 refine pk<|QZ (news:=Qy ((i:Int),u,UF fd t)) (L:=[]) hI18.e rfl rfl rfl (hB67.at (by simp)) (λy hy=>by simp only[Qy,List.mem_cons,List.not_mem_nil,or_false] at hy;rcases hy with rfl | rfl | rfl <;> rfl) (by omega) hI18.st.size λv19 w19 ho19 hs19 hn19=>⟨(hs1618.any (L:=ob vd)).trans' hs19,?_⟩
 have ho19':Z4 144 w7.heap.size w19 v19 (E++[((i:Int),u,UF fd t)]):=Z4.snoc ho19
 refine p (λ_=>Qa rfl)<|pkl (hl:=by kernel_rfl)<|QF (hI18.B.step hs19 (QM hI18.e hl7)) rfl rfl (by simp) (Z4.eds (L:=[]) ho19' (by simp;omega) (by simp)).one λw20 hs20 hB20 =>
  pe ?_
 have hI20:=hI18.setE hl7 hs19 ho19' hn19 hs20 hB20
 refine Qw<|Qb<|QO rfl rfl<|Qe<|⟨(k+1,E++[((i:Int),u,UF fd t)],v19),by simp only[];omega,⟨rfl,trivial⟩,hltk,hI20,by simp;omega,?_⟩
 simp only[List.append_assoc,List.singleton_append]
 exact hr15
end Go.Proofs.YtdffckgdcegpaaaGreatDoor
namespace Go.Lg
section
variable {P:Program} {f:Fr} {w:World} {d:Option Nat} {ty:Nat} {ps:String} {af:Array Edge} {gd:Option (Nat×Bool)}
theorem Ur {t t':Nat}{x y:Operand}{k:IntKind}{a b:Int}(hx:ev f x=.int k a) (hy:ev f y=.int k b) (ha:0≤a) (hb:0<b) :
  (execOp (ev f) ⟨d,.binOp .rem t x y t',ty,ps,af,gd⟩).run P w=.ok (.value (.int k (a % b))) w:=by
 refine YS hx hy ?_
 have h1:¬b=0:=by omega
 simp[binOp,Op.intDiv,h1,Int.tmod_eq_emod_of_nonneg ha]
end
end Go.Lg
namespace Go.Proofs.YtdffckgdcegpaaaGreatDoor
open Go.Proofs.Tryz
open Go.Lg
instance ayMa1:Ay prog 26 5 22 5:=⟨by kernel_rfl,by kernel_rfl⟩
instance ayMa2:Ay prog 22 5 5 1:=⟨by kernel_rfl,by kernel_rfl⟩
abbrev bys (ns:LN):LV:=ns.map λn:Nat=>.int .u8 (n:Int)
theorem VD {ns:LN}{j:Nat}(h:j<ns.length):(bys ns)[j]?=some (.int .u8 ((ns.getD j 0:Nat):Int)):=by simp[bys,List.getD,h]
theorem jI:∀(ns:LN),Zw (bys ns)
 | []=>trivial
 | _::ns=>⟨rfl,jI ns⟩
theorem Xd {ns:LN}(h:∀n∈ns,n<256) (j:Nat):ns.getD j 0<256:=by
 by_cases hj:j<ns.length
 ·simp only[List.getD,List.getElem?_eq_getElem hj,Option.getD_some];exact h _ (List.getElem_mem hj)
 ·simp[List.getD,hj]
structure GrI (al:LI) (S i k:Nat) (M:LI) (E:List Ed):Prop where
 mb:∀x∈M,0≤x∧x<S
 mi:Yi M
 ml:∀x∈M,x<(i:Int)+1
 mn:M.length≤S
 eb:∀e∈E,0≤e.1∧e.1<S∧e.2.1∈al∧0≤e.2.2∧e.2.2<S
 ei:E.Pairwise λx y=>x.1<y.1∨(x.1=y.1∧x.2.1<y.2.1)
 el:∀e∈E,e.1<i∨(e.1=i∧e.2.1∈al.take k)
 en:E.length≤i*5+k
theorem Qho {S:Nat}{M:LI}(hb:∀x∈M,0≤x∧x<S) (hi:Yi M):M.length≤S:=pig S M (hi.imp (λh=>by omega)) hb
theorem GrI.mark {al:LI}{S i:Nat}{M:LI}{E:List Ed}(h:GrI al S i 0 M E) (hm:∀x∈M,x<(i:Int)) (hi:i<S):GrI al S i 0 (M++[(i:Int)]) E:=by
 have hmb:∀x∈M++[(i:Int)],0≤x∧x<S:=λx hx=>by
  rcases List.mem_append.1 hx with hx | hx
  ·exact h.mb x hx
  ·simp only[List.mem_singleton] at hx;omega
 have hmi:Yi (M++[(i:Int)]):=by
  refine List.pairwise_append.2 ⟨h.mi,by simp,λx hx y hy=>?_⟩
  simp only[List.mem_singleton] at hy
  subst hy;exact hm x hx
 refine ⟨hmb,hmi,λx hx=>?_,Qho hmb hmi,h.eb,h.ei,h.el,h.en⟩
 rcases List.mem_append.1 hx with hx | hx
 ·have:=hm x hx;omega
 ·simp only[List.mem_singleton] at hx;omega
theorem GrI.skip {al:LI}{S i k:Nat}{M:LI}{E:List Ed}(h:GrI al S i k M E) (hk:k<al.length):GrI al S i (k+1) M E :=
 ⟨h.mb,h.mi,h.ml,h.mn,h.eb,h.ei,λe he=>(h.el e he).imp id (λx=>⟨x.1,by rw[List.take_succ_eq_append_getElem hk];exact List.mem_append_left _ x.2⟩),by have:=h.en;omega⟩
theorem GrI.edge {al:LI}{S i k:Nat}{M:LI}{E:List Ed}(h:GrI al S i k M E) (hk:k<al.length) (ha:Yi al) (hi:i<S) {t:Int}(h0:0≤t) (ht:t<S):GrI al S i (k+1) M (E++[((i:Int),cget al k,t)]):=by
 have hmem:cget al k∈al:=X6 hk
 refine ⟨h.mb,h.mi,h.ml,h.mn,λe he=>?_,?_,λe he=>?_,by have:=h.en;simp;omega⟩
 ·rcases List.mem_append.1 he with he | he
  ·exact h.eb e he
  ·simp only[List.mem_singleton] at he;subst he;exact ⟨by simp only[];omega,by simp only[];omega,hmem,h0,ht⟩
 ·refine List.pairwise_append.2 ⟨h.ei,by simp,λx hx y hy=>?_⟩
  simp only[List.mem_singleton] at hy
  subst hy
  rcases h.el x hx with h1 | ⟨h1,h2⟩
  ·left;exact h1
  ·right
   refine ⟨h1,?_⟩
   simp only[]
   have hp:Yi (al.take k++al.drop k):=by rw[List.take_append_drop];exact ha
   refine (List.pairwise_append.1 hp).2.2 _ h2 _ ?_
   rw[List.drop_eq_getElem_cons hk,Zl hk];exact List.mem_cons_self
 ·rw[List.take_succ_eq_append_getElem hk,Zl hk]
  rcases List.mem_append.1 he with he | he
  ·exact (h.el e he).imp id (λx=>⟨x.1,List.mem_append_left _ x.2⟩)
  ·simp only[List.mem_singleton] at he;subst he;exact .inr ⟨rfl,List.mem_append_right _ (by simp)⟩
theorem GrI.next {al:LI}{S i k:Nat}{M:LI}{E:List Ed}(h:GrI al S i k M E) (hk:k≤5):GrI al S (i+1) 0 M E :=
 ⟨h.mb,h.mi,λx hx=>by have:=h.ml x hx;omega,h.mn,h.eb,h.ei,λe he=>by rcases h.el e he with h1 | h1 <;> (left;omega),by have:=h.en;omega⟩
set_option maxHeartbeats 2000000 in
theorem QcE {L:LN}{w:World}{v:Value}{al:LI}{ns:LN}(h:QL L w.heap v al) (hb:∀e∈al,0≤e∧e<32) (hi:Yi al) (hn:ns.length=27) (hns:∀n∈ns,n<256) :
  QJ prog 130 [v,.agg (bys ns).toArray] w λr w'=>Step [] w w'∧∃a:QV,Xr w.heap.size w'.heap r a∧Zs a∧a.st≤5∧a.al=al ∧
   (ns.getD 0 0<250→∃a0:QV,Zs a0∧0<a0.st∧a0.st≤((1+ns.getD 0 0 % 5:Nat):Int)∧a=Ys a0):=by
 have hall:al.length≤32:=pig 32 al (hi.imp (λh=>by omega)) (λx hx=>by have:=hb x hx;omega)
 refine QJ.of_W func130 rfl ntmps130 results130 (by simp) ?_
 have g0:=VD (ns:=ns) (j:=0) (by omega)
 have g1:=VD (ns:=ns) (j:=1) (by omega)
 have l0:=Xd hns 0
 have l1:=Xd hns 1
 refine Zd (ns.getD 0 0) λs0 hs0=>?_
 refine Zd (ns.getD 1 0) λm1 hm1=>?_
 rw[hs0] at g0 l0
 rw[hm1] at g1 l1
 refine Qc<|xl rfl<|QQ (us:=bys ns) rfl λb3 w1 hs1 hb3 hB3=>xl rfl<|Qt (us:=[nS,.int .i64 0,nS,nS]) rfl λb4 w2 hs2 hb4 hB4=>xe ?_
 have hs12:=hs1.trans hs2
 have hB32:=hB3.ext hs2
 have hz1:=hs1.size
 have hz2:=hs2.size
 have hl3:=hB3.lt
 have hl4:=hB4.lt
 refine Qf<|Qc<|x (Qa rfl)<|x (Qd hB32 rfl g0)<|x (ZR rfl rfl)<|xe ?_
 refine Q4 rfl (λh11=>?_) (λh11=>?_)
 ·refine Qc<|Qb<|xl rfl<|xf<|(Vz (h.ext hs12) (by omega)).mono ?_
  rintro r3 w3 ⟨hs3,vcl,rfl,hcl⟩
  have hclA:=Qu.ints (L:=[]) hcl (by omega) (by simp)
  refine xl rfl<|Qn (us:=[vcl,.int .i64 0,nS,nS]) (hB4.ext hs3) rfl rfl rfl rfl ⟨hclA.one,rfl,rfl,rfl,trivial⟩ λw4 hs4 hB4'=>xe ?_
  have hcl4:=Qj hcl hs4 (λb hb=>by have:=(Qk hcl b hb).1;simp;omega)
  refine Ql ⟨[.agg #[vcl,.int .i64 0,nS,nS]],⟨⟨_,rfl,Qz rfl (hB4'.at (L:=[]) (by simp)).cells⟩,trivial⟩,(hs12.trans hs3).then1 hs4 (by omega),⟨al,0,[],[]⟩,?_,?_,(by decide:(0:Int)≤5),rfl,λh=>absurd h (by omega)⟩
  ·exact ⟨vcl,_,_,rfl,λL' hL'=>⟨Qu.ints hcl4 (by show al.length≤_;omega) (λb hb=>by have:=hL' b hb;omega),Zj.nil _ _ _,Zj.nil _ _ _⟩⟩
  ·exact ⟨hb,hi,(by decide:(0:Int)≤0),(by decide:(0:Int)≤4096),by simp,by simp,by simp,by simp⟩
 refine Qi<|Qc<|Qb<|xl rfl<|xf<|(Vz (h.ext hs12) (by omega)).mono ?_
 rintro r5 w5 ⟨hs5,vcl,rfl,hcl⟩
 have hclA:=Qu.ints (L:=[]) hcl (by omega) (by simp)
 refine xl rfl<|Qt (us:=[nS,.int .i64 0,nS,nS]) rfl λb5 w6 hs6 hb5 hB5 =>
  xl rfl<|Qn (us:=[vcl,.int .i64 0,nS,nS]) hB5 rfl rfl rfl rfl ⟨hclA.one,rfl,rfl,rfl,trivial⟩ λw7 hs7 hB7=>xe ?_
 have hs57:Step [] w5 w7:=hs6.then1 hs7 hb5
 have hs27:=hs5.trans hs57
 have hz5:=hs5.size
 have hz57:=hs57.size
 have hl5:=hB7.lt
 refine Zd (1+s0 % 5) λS hS=>?_
 have hS1:1≤S∧S≤5:=by omega
 have hSe:(1:Int)+(s0:Int) % 5=(S:Int):=by omega
 refine Qc<|x (Qa rfl)<|x (Qd (hB32.ext hs27) rfl g0)<|x (Ur (a:=(s0:Int)) (b:=5) rfl rfl (by omega) (by omega))<|x (ZK (k':=.i64) rfl ⟨by omega,by omega⟩)<|QO rfl rfl<|x (Qa rfl) <|
  xl rfl<|QF (u:=.int .i64 S) hB7 rfl (congrArg (Value.int .i64) hSe) (by simp) rfl λw8 hs8 hB8=>xe ?_
 have hz8:=hs8.size
 have hs28:Step [b5] w2 w8:=(hs27.any (L:=[b5])).trans' hs8
 have hW8:Step [] w w8:=(hs12.trans hs27).then1 hs8 (by omega)
 have hal8:QL [b5] w8.heap v al:=(h.up (L':=[b5]) (λb hb=>.inr (by simp at hb;omega))).ext hW8
 have hc8:Qu 3 w2.heap.size w8 vcl al:=Qj (Qs hcl hs57) hs8 (λb hb=>by have:=QR hcl b hb;simp;omega)
 have hB38:=(hB32.ext hs27).step hs8 (by simp;omega)
 have hB48:=(hB4.ext hs27).step hs8 (by simp;omega)
 have hl8:b5<w8.heap.size:=by omega
 have n3:b3∉[b5]:=by simp;omega
 have n4:b4∉[b5]:=by simp;omega
 refine Qf<|Qc<|Qe<|Qg<|QA (α:=Nat×Value×Value×LI×List Ed) [(6,8),(22,76)] (λz=>[(6,.int .i64 z.1)])
  (λz w'=>z.1≤S∧CrI w8 b5 vcl S z.2.1 z.2.2.1 z.2.2.2.1 z.2.2.2.2 w'∧GrI al S z.1 0 z.2.2.2.1 z.2.2.2.2∧∀x∈z.2.2.2.1,x<(z.1:Int)) (λz=>S - z.1) (by rfl) (0,nS,nS,[],[]) ⟨rfl,trivial⟩
  ⟨Nat.zero_le _,⟨Step.refl _ _,hB8,QP _ _ _ _,QP _ _ _ _,Dj.nil' _⟩,⟨by simp,by simp,by simp,by simp,by simp,by simp,by simp,by simp⟩,by simp⟩ ?_
 rintro ⟨i,v1,v2,M,E⟩ g9 w9 ⟨hi9,hI,hG,hM⟩
 simp only[] at hi9 hI hG hM
 have hmn:=hG.mn
 have hen:=hG.en
 refine Qf<|Qc<|Qb<|x (Qa rfl)<|x (Qd hI.B rfl rfl)<|x (QB rfl rfl)<|xe ?_
 refine QG rfl (λh25=>?_) (λh25=>?_)
 ·have hie:i=S:=by omega
  refine Qx ?_
  have hmA:=Qu.ints (L:=[]) hI.m (by omega) (by simp)
  have heA:=Z4.eds (L:=[]) hI.e (by omega) (by simp)
  have hc9:Qu 3 w2.heap.size w9 vcl al:=Qj hc8 hI.st (λb hb=>by have:=QR hcl b hb;simp;omega)
  have hA9:Zt [] w9.heap vcl v1 v2 ⟨al,(S:Int),M,E⟩:=⟨Qu.ints hc9 (by show al.length≤_;omega) (by simp),hmA,heA⟩
  have hok:Zs ⟨al,(S:Int),M,E⟩:=⟨hb,hi,by simp only[];omega,by simp only[];omega,hG.mb,hG.mi,hG.eb,hG.ei⟩
  have hcan:=yf hok
  have hW9:Step [] w w9:=hW8.then1 hI.st (by omega)
  have hB49:=hB48.step hI.st n4
  have hz9:=hI.st.size
  refine Qc<|x (Qq hI.B rfl rfl)<|xl rfl<|xf<|(qp (a:=⟨al,(S:Int),M,E⟩) hA9 hok).mono ?_
  rintro vr w10 ⟨hs10,hF⟩
  obtain ⟨us,hva,husl,hus⟩:=Xq hF
  refine xl rfl<|Qn (us:=us) (hB49.ext hs10) rfl hva husl rfl hus λw11 hs11 hB11=>xe ?_
  have hzW:=hW9.size
  refine Ql ⟨[.agg us.toArray],⟨⟨_,rfl,Qz husl (hB11.at (L:=[]) (by simp)).cells⟩,trivial⟩,(hW9.trans hs10).then1 hs11 (by omega),Ys ⟨al,(S:Int),M,E⟩,?_,hcan.1,?_,hcan.2.1,λ_=>⟨⟨al,(S:Int),M,E⟩,hok,by simp only[];omega,by simp only[];omega,rfl⟩⟩
  ·show Xr _ _ (.agg us.toArray) _
   rw[←hva]
   exact (Ja hF (by omega) hs11).mono hzW
  ·have:=hcan.2.2
   simp only[] at this
   omega
 have hlt:i<S:=by omega
 refine Qi<|Qf<|Qg<|QU (α:=Value×LI) [(28,39)] (λz=>[]) (λz w'=>CrI w8 b5 vcl S z.1 v2 z.2 E w'∧GrI al S i 0 z.2 E) (by rfl) ?_ ?_
 ·have hdv:m1 / 2 ^ i<256:=Nat.lt_of_le_of_lt (Nat.div_le_self _ _) l1
  refine Qc<|x (Qa rfl)<|x (Qd (hB38.step hI.st n3) rfl g1)<|Qb<|x (qK (n:=i) rfl rfl (by show i≤8;omega))<|x (Ut (a:=m1 / 2 ^ i) (b:=1) (congrArg (Value.int .u8) (zq m1 i)) rfl hdv (by decide))<|x (Q7 rfl rfl)<|xe ?_
  refine QG rfl (λh33=>?_) (λh33=>?_)
  ·refine Qi ?_
   exact ⟨(v1,M),trivial,hI,hG⟩
  refine Qw<|x (Qa rfl)<|x (Qd hI.B rfl rfl)<|Qb<|xl rfl<|QD (us:=[[.int .i64 i]]) rfl rfl (by decide) (by simp) ⟨rfl,rfl,trivial⟩ λb37 w12 hs12' hb37 hB37=>?_
  have hI12:=hI.ext hs12'
  refine xl rfl<|QZ (news:=[.int .i64 i]) (L:=[]) hI12.m rfl rfl rfl (hB37.at (by simp)) (by simp[Value.oneCell']) (by omega) hI12.st.size λv13 w13 ho13 hs13 hn13=>?_
  have ho13':Qu 3 w8.heap.size w13 v13 (M++[(i:Int)]):=Qu.snoc ho13
  refine x (Qa rfl)<|xl rfl<|QF (hI12.B.step hs13 (QM hI12.m hl8)) rfl rfl (by simp) (Qu.ints (L:=[]) ho13' (by simp;omega) (by simp)).one λw14 hs14 hB14 =>
   xe ?_
  exact ⟨(v13,M++[(i:Int)]),trivial,hI12.setM hl8 hs13 ho13' hn13 hs14 hB14,hG.mark hM hlt⟩
 rintro ⟨v3,M3⟩ g15 w15 ⟨hI15,hG15⟩
 simp only[] at hI15 hG15
 refine Qc<|Qe<|Qg<|QA (α:=Nat×Value×List Ed) [(7,8),(40,76)] (λz=>[(7,.int .i64 z.1)])
  (λz w'=>z.1≤al.length∧z.1≤5∧CrI w8 b5 vcl S v3 z.2.1 M3 z.2.2 w'∧GrI al S i z.1 M3 z.2.2) (λz=>5 - z.1) (by rfl) (0,v2,E) ⟨rfl,trivial⟩
  ⟨Nat.zero_le _,Nat.zero_le _,hI15,hG15⟩ ?_
 rintro ⟨k,vd,F⟩ g16 w16 ⟨hk,hk5,hI16,hG16⟩
 simp only[] at hk hk5 hI16 hG16
 have hal16:=hal8.st hI16.st
 have hfn:=hG16.en
 refine Qf<|QU (α:=Unit) [(40,47)] (λz=>[(47,.bool (decide (k<al.length∧k<5)))]) (λz w'=>w'=w16) (by rfl) ?_ ?_
 ·refine Qw<|Qb<|Qb<|x (Qr hal16 rfl)<|xb (QB rfl rfl) (λh43=>?_) (λh43=>?_)
  ·refine Qb<|Qb<|x (QB rfl rfl)<|x (Qm rfl)<|xe ?_
   refine ⟨(),⟨congrArg Value.bool ?_,trivial⟩,rfl⟩
   exact decide_eq_decide.2 ⟨λe=>⟨by omega,by omega⟩,λe=>by omega⟩
  refine Qb<|xs rfl<|xs rfl<|x (Qm rfl)<|xe ?_
  exact ⟨(),⟨congrArg Value.bool (decide_eq_false (λe=>h43 (by omega))).symm,trivial⟩,rfl⟩
 rintro _ g17 w17 rfl
 refine QG rfl (λh47=>?_) (λh47=>?_)
 ·refine Qx ?_
  refine Qw<|Qb<|QO rfl rfl<|Qe ?_
  exact ⟨(i+1,v3,vd,M3,F),by simp only[];omega,⟨rfl,trivial⟩,hlt,hI16,hG16.next hk5,λx hx=>by have:=hG16.ml x hx;simp only[];omega⟩
 have hk1:k<al.length:=h47.1
 have hk2:k<5:=h47.2
 have gj:=VD (ns:=ns) (j:=0+2+i*5+k*1) (by omega)
 have lj:=Xd hns (0+2+i*5+k*1)
 refine Zd (ns.getD (0+2+i*5+k*1) 0) λq hq=>?_
 rw[hq] at gj lj
 have hB316:=hB38.step hI16.st n3
 have hmod:0≤(q:Int) % ((S:Int)+2):=Int.emod_nonneg _ (by omega)
 have hmod2:(q:Int) % ((S:Int)+2)<(S:Int)+2:=Int.emod_lt_of_pos _ (by omega)
 refine Qi<|Qf<|Qg<|Qf<|QS (Step [] w17) [(0,true),(1,true),(2,true),(3,true),(4,true),(5,true),(6,true),(7,true),(8,true),(9,true),(10,true),(11,true)] mixed (by rfl) (by kernel_rfl) (Step.drew _ _) ?_
 refine p (λ_=>Qo)<|p (λ_=>Qo)<|p (λ_=>Qa rfl)<|p (λ_=>ZD (i:=i) rfl rfl (by omega))<|p (λ_=>ZD (i:=k) rfl rfl hk2)<|pq (λ_ hc=>Qd (hB316.ext hc) rfl gj) <|
  p (λ_=>ZK (k':=.i64) rfl ⟨by omega,by omega⟩)<|p (λ_=>Qa rfl)<|pq (λ_ hc=>Qd (hI16.B.ext hc) rfl rfl)<|p (λ_=>XY rfl rfl ⟨by omega,by omega⟩) <|
  p (λ_=>Ur (a:=(q:Int)) (b:=(S:Int)+2) rfl rfl (by omega) (by omega))<|p (λ_=>Qh)<|pe ?_
 have hI17:=hI16.ext (Step.drew [] w17)
 refine Zd ((q:Int) % ((S:Int)+2)) λt ht=>?_
 have ht0:0≤t:=by omega
 refine Qc<|Qb<|x (Qa rfl)<|x (Qd hI17.B rfl rfl)<|x (QB rfl rfl)<|xe ?_
 refine QG rfl (λh64=>?_) (λh64=>?_)
 ·refine Qi<|Qw<|Qb<|QO rfl rfl<|Qe ?_
  exact ⟨(k+1,vd,F),by simp only[];omega,⟨rfl,trivial⟩,hk1,hk2,hI17,hG16.skip hk1⟩
 have hvd:=Qk hI17.e
 have haD:QL (b5::ob vd) { w17 with drawn:=w17.drawn+1 }.heap v al:=((hal8.up (L':=b5::ob vd) (λb hb=>by
  rcases List.mem_cons.1 hb with rfl | hb
  ·exact .inl (by simp)
  ·exact .inr (hvd b hb).1)).step hI17.st (by simp))
 have nb5:=QM hI17.e hl8
 refine QS (Step (ob vd) { w17 with drawn:=w17.drawn+1 }) [(0,true),(1,true),(2,true),(3,true),(4,true),(5,true),(6,true),(7,true),(8,true),(9,false),(10,false),(11,true),(12,false)] mixed (by rfl) (by kernel_rfl) (Step.drew _ _) ?_
 refine p (λ_=>Qa rfl)<|pq (λ_ hc=>Qd (hI17.B.step hc nb5) rfl rfl)<|p (λ_=>Qo)<|p (λ_=>Qo)<|p (λ_=>Qo) <|
  pic (i:=k) rfl haD rfl rfl hk1 λa70 h70=>pq (λ_ hc=>Qv (h70.step hc (λb hb=>List.mem_cons_of_mem _ hb)) rfl)<|p (λ_=>Qo)<|p (λ_=>QE ⟨rfl,rfl,rfl,trivial⟩) <|
  pk<|QD (us:=[Qy ((i:Int),cget al k,(q:Int) % ((S:Int)+2))]) rfl rfl (by decide) (by exact (by decide:1*3≤1000000)) ⟨rfl,rfl,trivial⟩ λb74 w18 hs18 hb74 hB74=>?_
 have hs1718:=(Step.drew [] { w17 with drawn:=w17.drawn+1 }).trans hs18
 have hI18:=hI17.ext hs1718
 refine ⟨hs1718.any,?_⟩
 refine pk<|QZ (news:=Qy ((i:Int),cget al k,(q:Int) % ((S:Int)+2))) (L:=[]) hI18.e rfl rfl rfl (hB74.at (by simp)) (λy hy=>by simp only[Qy,List.mem_cons,List.not_mem_nil,or_false] at hy;rcases hy with rfl | rfl | rfl <;> rfl) (by omega) hI18.st.size λv19 w19 ho19 hs19 hn19=>⟨(hs1718.any (L:=ob vd)).trans' hs19,?_⟩
 have ho19':Z4 144 w8.heap.size w19 v19 (F++[((i:Int),cget al k,(q:Int) % ((S:Int)+2))]):=Z4.snoc ho19
 refine p (λ_=>Qa rfl)<|pkl (hl:=by kernel_rfl)<|QF (hI18.B.step hs19 (QM hI18.e hl8)) rfl rfl (by simp) (Z4.eds (L:=[]) ho19' (by simp;omega) (by simp)).one λw20 hs20 hB20=>pe ?_
 have hI20:=hI18.setE hl8 hs19 ho19' hn19 hs20 hB20
 refine Qw<|Qb<|QO rfl rfl<|Qe ?_
 exact ⟨(k+1,v19,F++[((i:Int),cget al k,(q:Int) % ((S:Int)+2))]),by simp only[];omega,⟨rfl,trivial⟩,hk1,hk2,hI20,hG16.edge hk1 hi hlt hmod (by omega)⟩
end Go.Proofs.YtdffckgdcegpaaaGreatDoor
namespace Go.Lg
section
variable {P:Program} {f:Fr} {w:World} {d:Option Nat} {ty:Nat} {ps:String} {af:Array Edge} {gd:Option (Nat×Bool)}
theorem Vo {t sz:Nat}[Ag P t sz] {x:Operand}{b o T:Nat}{cs us:LV}(h:Q2 w.heap b T cs) (hx:ev f x=.pointer (some ⟨b,o,none⟩)) (hl:us.length=sz) (hsub:∀j u,us[j]?=some u→cs[o+j]?=some u) :
  (execOp (ev f) ⟨d,.load t x,ty,ps,af,gd⟩).run P w=.ok (.value (.agg us.toArray)) w:=by
 refine V6 hx hl λj u hu=>?_
 rw[X7,JF,h.cell]
 exact hsub j u hu
end
end Go.Lg
namespace Go.Proofs.YtdffckgdcegpaaaGreatDoor
open Go.Proofs.Tryz
open Go.Lg
theorem QhS {ns:LN}{o n:Nat}:∀j u,(bys ((ns.drop o).take n))[j]?=some u→(bys ns)[o+j]?=some u:=by
 intro j u h
 simp only[bys,List.getElem?_map,List.getElem?_take,List.getElem?_drop] at h ⊢
 split at h
 ·exact h
 ·cases h
theorem QhT {ns:LN}(h:∀n∈ns,n<256) (o n:Nat):∀m∈(ns.drop o).take n,m<256:=λm hm=>h m (List.mem_of_mem_drop (List.mem_of_mem_take hm))
theorem Qba (m k:Nat):∀e∈setK m k,0≤e∧e<k:=by
 intro e he
 simp only[setK,List.mem_map,List.mem_filter,List.mem_range'_1] at he
 obtain ⟨i,⟨hi,_⟩,rfl⟩:=he
 omega
theorem Qbu (keep:Bool→Bool→Bool):∀(n:Nat) (a b:LI),a.length+b.length≤n→Yi a→Yi b→Yi (mrg keep a b):=by
 intro n
 induction n with
 | zero =>
  intro a b h _ _
  have ha:a=[]:=List.eq_nil_of_length_eq_zero (by omega)
  have hb:b=[]:=List.eq_nil_of_length_eq_zero (by omega)
  subst ha hb;rw[Je];exact List.Pairwise.nil
 | succ n ih =>
  intro a b hn ia ib
  by_cases h:a=[]∧b=[]
  ·obtain ⟨rfl,rfl⟩:=h;rw[Je];exact List.Pairwise.nil
  ·have hlt:=UH h
   have itl:∀(c:Bool) (l:LI),Yi l→Yi (tl c l):=λc l hl=>by
    cases c
    ·exact hl
    ·cases l with
     | nil=>exact hl
     | cons y l=>exact hl.tail
   have ih':=ih (tl (Xb a b) a) (tl (Xb b a) b) (by omega) (itl _ _ ia) (itl _ _ ib)
   rw[X2 keep h]
   cases keep (Xb a b) (Xb b a) with
   | false=>simpa using ih'
   | true =>
    simp only[cond_true,List.singleton_append]
    refine List.pairwise_cons.2 ⟨λx hx=>?_,ih'⟩
    have hm:=(Ub (itl _ _ ia) (itl _ _ ib) x).1 hx
    cases a with
    | nil =>
     cases b with
     | nil=>exact absurd ⟨rfl,rfl⟩ h
     | cons y b =>
      simp only[Xb,tl,cond_true,cond_false,List.tail_cons,List.not_mem_nil,false_or,Go.Proofs.YtdffckgdcegpaaaGreatDoor.hx,List.headD_cons] at hm ⊢
      exact ib.lt_of hm.1
    | cons u a =>
     cases b with
     | nil =>
      simp only[Xb,tl,cond_true,cond_false,List.tail_cons,List.not_mem_nil,or_false,Go.Proofs.YtdffckgdcegpaaaGreatDoor.hx,List.headD_cons] at hm ⊢
      exact ia.lt_of hm.1
     | cons y b =>
      rcases Int.lt_trichotomy u y with h1 | h1 | h1
      ·have e1:decide (u≤y)=true:=decide_eq_true (by omega)
       have e2:decide (y≤u)=false:=decide_eq_false (by omega)
       simp only[Xb,tl,e1,e2,cond_true,cond_false,List.tail_cons,Go.Proofs.YtdffckgdcegpaaaGreatDoor.hx,List.headD_cons] at hm ⊢
       rcases hm.1 with h2 | h2
       ·exact ia.lt_of h2
       ·rcases List.mem_cons.1 h2 with h2 | h2
        ·omega
        ·have:=ib.lt_of h2;omega
      ·have e1:decide (u≤y)=true:=decide_eq_true (by omega)
       have e2:decide (y≤u)=true:=decide_eq_true (by omega)
       simp only[Xb,tl,e1,e2,cond_true,List.tail_cons,Go.Proofs.YtdffckgdcegpaaaGreatDoor.hx,List.headD_cons] at hm ⊢
       rcases hm.1 with h2 | h2
       ·have:=ia.lt_of h2;omega
       ·have:=ib.lt_of h2;omega
      ·have e1:decide (u≤y)=false:=decide_eq_false (by omega)
       have e2:decide (y≤u)=true:=decide_eq_true (by omega)
       simp only[Xb,tl,e1,e2,cond_true,cond_false,List.tail_cons,Go.Proofs.YtdffckgdcegpaaaGreatDoor.hx,List.headD_cons] at hm ⊢
       rcases hm.1 with h2 | h2
       ·rcases List.mem_cons.1 h2 with h2 | h2
        ·omega
        ·have:=ia.lt_of h2;omega
       ·exact ib.lt_of h2
end Go.Proofs.YtdffckgdcegpaaaGreatDoor
namespace Go.Lg
section
variable {P:Program} {f:Fr} {w:World} {d:Option Nat} {ty:Nat} {ps:String} {af:Array Edge} {gd:Option (Nat×Bool)} {all:List Oper} {C:World→Prop} {K:Fr→World→Prop}
theorem tp {l:List (Nat×Bool)}(h:XP P all C K l f w):XT P all C K (.pl l) f w:=h
end
end Go.Lg
namespace Go.Proofs.YtdffckgdcegpaaaGreatDoor
open Go.Lg
end Go.Proofs.YtdffckgdcegpaaaGreatDoor
namespace Go.Lg
section
variable {P:Program} {f:Fr} {w:World} {d:Option Nat} {ty:Nat} {ps:String} {af:Array Edge} {gd:Option (Nat×Bool)}
end
end Go.Lg
namespace Go.Proofs.YtdffckgdcegpaaaGreatDoor
open Go.Lg
section
variable {w4 w w' w'':World} {b:Nat} {m q:Bool} {ve vd:Value} {E D:LI}
end
end Go.Proofs.YtdffckgdcegpaaaGreatDoor
namespace Go.Lg
section
variable {P:Program} {f:Fr} {w:World} {d:Option Nat} {ty:Nat} {ps:String} {af:Array Edge} {gd:Option (Nat×Bool)}
end
end Go.Lg
namespace Go.Proofs.YtdffckgdcegpaaaGreatDoor
open Go.Lg
def grid (g:Nat→Int→Option Ed) (vs:LI) (n:Nat):List Ed:=(List.range' 0 n).flatMap λj=>vs.filterMap (g j)
theorem Vx (g:Nat→Int→Option Ed) (vs:LI) (n:Nat):grid g vs (n+1)=grid g vs n++vs.filterMap (g n):=by
 unfold grid;rw[List.range'_1_concat,List.flatMap_append];simp
theorem jp (l m:List Ed) (s v:Int):eget (l++m) s v=match eget l s v with | some u=>some u | none=>eget m s v:=by
 induction l with
 | nil=>rfl
 | cons e l ih =>
  rw[List.cons_append,eget,eget]
  split
  ·rfl
  ·exact ih
def U6 (g:Nat→Int→Option Ed):Prop:=∀j v e,g j v=some e→e.1=(j:Int)∧e.2.1=v
theorem jn {g:Nat→Int→Option Ed}(hg:U6 g) (j:Nat) (v:Int):∀(vs:LI),eget (vs.filterMap (g j)) j v=if v∈vs then (g j v).map (·.2.2) else none
 | []=>by simp[eget]
 | u::vs=>by
  have ih:=jn hg j v vs
  rw[List.filterMap_cons]
  cases hu:g j u with
  | none =>
   simp only[]
   rw[ih]
   by_cases e:v=u
   ·subst e;simp[hu]
   ·simp[e]
  | some e =>
   have he:=hg j u e hu
   simp only[]
   rw[eget]
   by_cases e2:u=v
   ·subst e2
    rw[if_pos he,if_pos List.mem_cons_self,hu];rfl
   ·rw[if_neg (λh=>e2 (he.2.symm.trans h.2)),ih]
    simp[Ne.symm e2]
theorem jm {g:Nat→Int→Option Ed}(hg:U6 g) {j i:Nat}(h:j≠i) (v:Int) (vs:LI):eget (vs.filterMap (g j)) i v=none:=by
 refine qX λe he h2=>?_
 obtain ⟨u,_,hu⟩:=List.mem_filterMap.1 he
 have:=hg j u e hu
 omega
theorem QcV {g:Nat→Int→Option Ed}(hg:U6 g) (vs:LI) (j:Nat) (v:Int):∀n,eget (grid g vs n) j v=if j<n∧v∈vs then (g j v).map (·.2.2) else none
 | 0=>by simp[grid,eget]
 | n+1=>by
  rw[Vx,jp,QcV hg vs j v n]
  by_cases e:j=n
  ·subst e
   rw[if_neg (by omega),jn hg]
   simp
  ·rw[jm hg (Ne.symm e)]
   by_cases h:j<n∧v∈vs
   ·rw[if_pos h,if_pos ⟨by omega,h.2⟩]
    cases (g j v).map (·.2.2) <;> rfl
   ·rw[if_neg h,if_neg (λh2=>h ⟨by omega,h2.2⟩)]
theorem je {g:Nat→Int→Option Ed}{vs:LI}{n:Nat}{e:Ed}(h:e∈grid g vs n):∃j v,j<n∧v∈vs∧g j v=some e:=by
 unfold grid at h
 obtain ⟨j,hj,h2⟩:=List.mem_flatMap.1 h
 obtain ⟨v,hv,h3⟩:=List.mem_filterMap.1 h2
 rw[List.mem_range'_1] at hj
 exact ⟨j,v,by omega,hv,h3⟩
theorem QbI {g:Nat→Int→Option Ed}(hg:U6 g) {vs:LI}(hi:Yi vs):∀n,(grid g vs n).Pairwise λx y:Ed=>x.1<y.1∨(x.1=y.1∧x.2.1<y.2.1)
 | 0=>by simp[grid]
 | n+1=>by
  rw[Vx,List.pairwise_append]
  refine ⟨QbI hg hi n,Xa (r:=(·<·)) (λx y u v hxy hu hv=>?_) hi,λe he e' he'=>?_⟩
  ·have h1:=hg n x u hu
   have h2:=hg n y v hv
   right;omega
  ·obtain ⟨j,v,hj,_,h1⟩:=je he
   obtain ⟨v',_,h2⟩:=List.mem_filterMap.1 he'
   have h3:=hg j v e h1
   have h4:=hg n v' e' h2
   left;omega
theorem Qkz (l:List QV):∀(acc:LI),(∀a∈l,Yi a.al)→Yi acc→Yi (l.foldl (λacc a=>mrg (· || ·) acc a.al) acc)∧∀x,x∈l.foldl (λacc a=>mrg (· || ·) acc a.al) acc↔x∈acc∨∃a∈l,x∈a.al:=by
 induction l with
 | nil=>intro acc _ h;exact ⟨h,λx=>by simp⟩
 | cons a l ih =>
  intro acc hl h
  have ha:=hl a List.mem_cons_self
  obtain ⟨h1,h2⟩:=ih (mrg (· || ·) acc a.al) (λb hb=>hl b (List.mem_cons_of_mem _ hb)) (Qbu _ _ _ _ (Nat.le_refl _) h ha)
  rw[List.foldl_cons]
  refine ⟨h1,λx=>?_⟩
  rw[h2 x,Ub h ha]
  simp only[List.mem_cons,exists_eq_or_imp]
  constructor
  ·rintro (⟨h3 | h3,_⟩ | h3)
   ·exact .inl h3
   ·exact .inr (.inl h3)
   ·exact .inr (.inr h3)
  ·rintro (h3 | h3 | h3)
   ·exact .inl ⟨.inl h3,by simp[h3]⟩
   ·exact .inl ⟨.inr h3,by simp[h3]⟩
   ·exact .inr h3
theorem QbN {l:List QV}(h:∀a∈l,Zs a):Yi (evs l):=(Qkz l [] (λa ha=>(h a ha).ali) (by simp)).1
theorem QbM {l:List QV}(h:∀a∈l,Zs a) (x:Int):x∈evs l↔∃a∈l,x∈a.al:=by
 have:=(Qkz l [] (λa ha=>(h a ha).ali) (by simp)).2 x
 unfold evs;rw[this];simp
def syF (aa:List QV) (tup:List (LI)) (j:Nat) (v:Int):Option Ed:=(Yg v aa (tup.getD j [])).map λu=>((j:Int),v,(tup.idxOf u:Int))
theorem Qiu (aa:List QV) (tup:List (LI)):U6 (syF aa tup):=by
 intro j v e h
 unfold syF at h
 obtain ⟨u,_,rfl⟩:=Option.map_eq_some_iff.1 h
 exact ⟨rfl,rfl⟩
theorem jh {α β:Type}{f g:α→Option β}:∀{l:List α},(∀x∈l,f x=g x)→l.filterMap f=l.filterMap g
 | [],_=>rfl
 | x::l,h=>by rw[List.filterMap_cons,List.filterMap_cons,h x List.mem_cons_self,jh (λy hy=>h y (List.mem_cons_of_mem _ hy))]
theorem Qe9 {α β:Type}{f:α→Option β}{v:α}{e:β}(h:f v=some e):[v].filterMap f=[e]:=by rw[List.filterMap_cons,h];rfl
theorem Qhr {α β:Type}{f:α→Option β}{v:α}(h:f v=none):[v].filterMap f=[]:=by rw[List.filterMap_cons,h];rfl
theorem QdA {aa:List QV}{tup:List (LI)}{j:Nat}{v:Int}(h:Yg v aa (tup.getD j [])=none):syF aa tup j v=none:=by unfold syF;rw[h];rfl
theorem yu {aa:List QV}{tup:List (LI)}{j:Nat}{v:Int}{u:LI}(h:Yg v aa (tup.getD j [])=some u):syF aa tup j v=some ((j:Int),v,(tup.idxOf u:Int)):=by unfold syF;rw[h];rfl
def Clo (aa:List QV) (tup:List (LI)) (j:Nat) (vs:LI):Prop:=∀v∈vs,∀u,Yg v aa (tup.getD j [])=some u→u∈tup
theorem JI {tup r:List (LI)}{j:Nat}(h:j<tup.length):(tup++r).getD j []=tup.getD j []:=by simp[List.getD,List.getElem?_append_left h]
theorem Qa5 {aa:List QV}{tup r:List (LI)}{j:Nat}{vs:LI}(hj:j<tup.length) (hc:Clo aa tup j vs):vs.filterMap (syF aa (tup++r) j)=vs.filterMap (syF aa tup j):=by
 refine jh λv hv=>?_
 unfold syF
 rw[JI hj]
 cases hs:Yg v aa (tup.getD j []) with
 | none=>rfl
 | some u =>
  have hu:=hc v hv u hs
  simp only[Option.map_some,Option.some.injEq,Prod.mk.injEq,true_and]
  rw[List.idxOf_append,if_pos hu]
theorem Clo.pre {aa:List QV}{tup r:List (LI)}{j:Nat}{vs:LI}(hj:j<tup.length) (hc:Clo aa tup j vs):Clo aa (tup++r) j vs:=by
 intro v hv u hu
 rw[JI hj] at hu
 exact List.mem_append_left _ (hc v hv u hu)
theorem Qak {α:Type}{l:List α}{u:α}(h:l.Nodup) (hu:u∉l):(l++[u]).Nodup:=by
 rw[List.nodup_append]
 exact ⟨h,by simp,λa ha b hb=>by simp only[List.mem_singleton] at hb;subst hb;exact λe=>hu (by rw[←e];exact ha)⟩
theorem qA {aa:List QV}{i:Nat}:∀(vs:LI) (s s':Sy),i<s.tup.length→s.tup.Nodup→Uh aa i (qy s i) vs s=some s' →
  ∃r,s'.tup=s.tup++r∧s'.mk'=s.mk'∧s'.ed=s.ed++vs.filterMap (syF aa s'.tup i)∧Clo aa s'.tup i vs∧s'.tup.Nodup
 | [],s,s',_,hd,e=>by cases e;exact ⟨[],by simp,rfl,by simp,λv hv=>(by cases hv),hd⟩
 | v::vs,s,s',hi,hd,e=>by
  rw[Uh] at e
  obtain ⟨s1,h1,h2⟩:=Option.bind_eq_some_iff.1 e
  have key:∃r1,s1.tup=s.tup++r1∧s1.mk'=s.mk'∧s1.ed=s.ed++[v].filterMap (syF aa s1.tup i)∧Clo aa s1.tup i [v]∧s1.tup.Nodup:=by
   unfold syE at h1
   have eT:qy s i=s.tup.getD i []:=rfl
   rw[eT] at h1
   cases hs:Yg v aa (s.tup.getD i []) with
   | none =>
    rw[hs] at h1
    cases h1
    refine ⟨[],by simp,rfl,by rw[Qhr (QdA hs),List.append_nil],λv' hv' u hu=>?_,hd⟩
    simp only[List.mem_singleton] at hv';subst hv'
    rw[hs] at hu;cases hu
   | some u =>
    rw[hs] at h1
    simp only[] at h1
    by_cases hu:u∈s.tup
    ·rw[if_pos hu] at h1
     cases h1
     refine ⟨[],by simp,rfl,by rw[Qe9 (yu hs)],λv' hv' u' hu'=>?_,hd⟩
     simp only[List.mem_singleton] at hv';subst hv'
     simp only[] at hu' ⊢
     rw[hs] at hu';cases hu';exact hu
    ·rw[if_neg hu] at h1
     split at h1
     ·cases h1
     ·cases h1
      have e2:(s.tup++[u]).getD i []=s.tup.getD i []:=JI hi
      have e3:(s.tup++[u]).idxOf u=s.tup.length:=by rw[List.idxOf_append,if_neg hu];simp
      refine ⟨[u],rfl,rfl,?_,λv' hv' u' hu'=>?_,Qak hd hu⟩
      ·rw[Qe9 (yu (tup:=s.tup++[u]) (u:=u) (by rw[e2];exact hs)),e3]
      ·simp only[List.mem_singleton] at hv';subst hv'
       simp only[] at hu' ⊢
       rw[e2,hs] at hu';cases hu';simp
  obtain ⟨r1,k1,k2,k3,k4,k5⟩:=key
  have hi1:i<s1.tup.length:=by rw[k1];simp;omega
  have eT:qy s1 i=qy s i:=by unfold qy;rw[k1];exact JI hi
  rw[←eT] at h2
  obtain ⟨r2,g1,g2,g3,g4,g5⟩:=qA vs s1 s' hi1 k5 h2
  refine ⟨r1++r2,by rw[g1,k1,List.append_assoc],g2.trans k2,?_,?_,g5⟩
  ·rw[g3,k3,List.append_assoc]
   congr 1
   rw[show v::vs=[v]++vs from rfl,List.filterMap_append]
   congr 1
   rw[g1]
   exact (Qa5 hi1 k4).symm
  ·intro v' hv' u hu
   rcases List.mem_cons.1 hv' with rfl | hv'
   ·have:=k4.pre (r:=r2) hi1
    rw[←g1] at this
    exact this v' List.mem_cons_self u hu
   ·exact g4 v' hv' u hu
structure SyG (aa:List QV) (i:Nat) (s:Sy):Prop where
 nd:s.tup.Nodup
 le:i≤s.tup.length
 hd:s.tup.getD 0 []=List.replicate aa.length 0∧0<s.tup.length
 mk2:s.mk'=((List.range' 0 i).filter λj=>Xk aa (s.tup.getD j [])).map λj:Nat=>(j:Int)
 ed:s.ed=grid (syF aa s.tup) (evs aa) i
 cl:∀j,j<i→Clo aa s.tup j (evs aa)
theorem JL {α β:Type}{f g:α→List β}:∀{l:List α},(∀x∈l,f x=g x)→l.flatMap f=l.flatMap g
 | [],_=>rfl
 | x::l,h=>by rw[List.flatMap_cons,List.flatMap_cons,h x List.mem_cons_self,JL (λy hy=>h y (List.mem_cons_of_mem _ hy))]
theorem SyG.next {aa:List QV}{i:Nat}{s s':Sy}(h:SyG aa i s) (hi:i<s.tup.length) (e:Uh aa i (qy s i) (evs aa) (ZG aa i (qy s i) s)=some s'):SyG aa (i+1) s':=by
 have ht:(ZG aa i (qy s i) s).tup=s.tup:=by unfold ZG;split <;> rfl
 have hed:(ZG aa i (qy s i) s).ed=s.ed:=by unfold ZG;split <;> rfl
 have hT:qy (ZG aa i (qy s i) s) i=qy s i:=by show (ZG aa i (qy s i) s).tup.getD i []=s.tup.getD i [];rw[ht]
 rw[←hT] at e
 obtain ⟨r,g1,g2,g3,g4,g5⟩:=qA (evs aa) _ s' (by rw[ht];exact hi) (by rw[ht];exact h.nd) (by rw[hT] at e ⊢;exact e)
 rw[ht] at g1
 rw[hed] at g3
 have pre:∀j,j≤i→s'.tup.getD j []=s.tup.getD j []:=λj hj=>by rw[g1];exact JI (by omega)
 refine ⟨g5,by rw[g1];simp;omega,⟨by rw[pre 0 (by omega)];exact h.hd.1,by rw[g1];simp;omega⟩,?_,?_,λj hj=>?_⟩
 ·rw[g2,List.range'_1_concat,List.filter_append,List.map_append,Nat.zero_add]
  have e1:((List.range' 0 i).filter λj=>Xk aa (s'.tup.getD j []))=(List.range' 0 i).filter λj=>Xk aa (s.tup.getD j []):=by
   refine List.filter_congr λj hj=>?_
   rw[List.mem_range'_1] at hj
   rw[pre j (by omega)]
  rw[e1]
  unfold ZG
  by_cases hm:Xk aa (qy s i)=true
  ·rw[if_pos hm]
   have hm':Xk aa (s'.tup.getD i [])=true:=by rw[pre i (Nat.le_refl _)];exact hm
   simp only[List.filter_cons,hm',if_true,List.filter_nil,List.map_cons,List.map_nil]
   rw[h.mk2]
  ·rw[if_neg hm]
   have hm':Xk aa (s'.tup.getD i [])=false:=by rw[pre i (Nat.le_refl _)];exact eq_false_of_ne_true hm
   rw[List.filter_cons,if_neg (by rw[hm'];simp),List.filter_nil,h.mk2];simp
 ·rw[g3,Vx,h.ed]
  congr 1
  unfold grid
  refine JL λj hj=>?_
  rw[List.mem_range'_1] at hj
  rw[g1]
  exact (Qa5 (by omega) (h.cl j (by omega))).symm
 ·by_cases e2:j=i
  ·subst e2;exact g4
  ·have:=(h.cl j (by omega)).pre (r:=r) (by omega)
   rw[←g1] at this
   exact this
theorem yt {aa:List QV}:∀(f i:Nat) (s s':Sy),SyG aa i s→syL aa f i s=some s'→∃i',SyG aa i' s'∧(s'.tup.length=i'∨i'=i+f)
 | 0,i,s,s',h,e=>by cases e;exact ⟨i,h,.inr rfl⟩
 | f+1,i,s,s',h,e=>by
  rw[syL] at e
  split at e
  ·rename_i hi
   obtain ⟨s1,h1,h2⟩:=Option.bind_eq_some_iff.1 e
   obtain ⟨i',h3,h4⟩:=yt f (i+1) s1 s' (h.next hi h1) h2
   exact ⟨i',h3,by omega⟩
  ·cases e;exact ⟨i,h,.inl (by have:=h.le;omega)⟩
structure SyP (aa:List QV) (A:QV) (Q:List (LI)):Prop where
 al:A.al=evs aa
 st:A.st=(Q.length:Int)
 nd:Q.Nodup
 v:∀t∈Q,Vt aa t
 le:Q.length≤4096
 hd:0<Q.length→Q.getD 0 []=List.replicate aa.length 0
 mk2:A.mr=((List.range' 0 Q.length).filter λj=>Xk aa (Q.getD j [])).map λj:Nat=>(j:Int)
 ed:A.ed=grid (syF aa Q) (evs aa) Q.length
 cl:∀j,j<Q.length→Clo aa Q j (evs aa)
theorem Xe {aa:List QV}(ho:∀a∈aa,Zs a) {A:QV}{Q:List (LI)}(h:sync aa=some (A,Q)):SyP aa A Q∧(Q.length=0↔∃a∈aa,a.st=0):=by
 have hok:=V4 ho h
 unfold sync at h
 split at h
 ·rename_i hz
  cases h
  exact ⟨⟨rfl,rfl,by simp,by simp,by simp,λh=>by simp at h,by simp,by simp[grid],λj hj=>by simp at hj⟩,by simpa using hz⟩
 ·rename_i hz
  obtain ⟨s,h1,h2⟩:=Option.map_eq_some_iff.1 h
  have h0:SyG aa 0 (qB aa):=⟨by simp[qB],by simp,⟨by simp[qB],by simp[qB]⟩,by simp[qB],by simp[qB,grid],λj hj=>by omega⟩
  obtain ⟨i',h3,h4⟩:=yt 4096 0 (qB aa) s h0 h1
  cases h2
  have hl:i'=s.tup.length:=by
   have h5:=h3.le
   have h6:=hok.2
   simp only[] at h6
   omega
  subst hl
  refine ⟨⟨rfl,rfl,h3.nd,hok.1,hok.2,λ_=>h3.hd.1,h3.mk2,h3.ed,h3.cl⟩,?_⟩
  have:=h3.hd.2
  constructor
  ·intro h;have h7:s.tup.length=0:=h;omega
  ·intro h;exact absurd h hz
theorem SyP.to {aa:List QV}{A:QV}{Q:List (LI)}(h:SyP aa A Q) {j:Nat}(hj:j<Q.length) {v:Int}(hv:v∈evs aa) {u:LI}(hu:Yg v aa (Q.getD j [])=some u):Q.idxOf u<Q.length∧Q.getD (Q.idxOf u) []=u:=by
 have hm:=h.cl j hj v hv u hu
 have hl:=List.idxOf_lt_length_of_mem hm
 refine ⟨hl,?_⟩
 simp[List.getD,hl]
theorem SyP.okay {aa:List QV}(ho:∀a∈aa,Zs a) {A:QV}{Q:List (LI)}(h:SyP aa A Q):Zs A:=by
 have hle:=h.le
 refine ⟨λe he=>?_,by rw[h.al];exact QbN ho,by rw[h.st];omega,by rw[h.st];omega,λs hs=>?_,?_,λe he=>?_,by rw[h.ed];exact QbI (Qiu aa Q) (QbN ho) _⟩
 ·rw[h.al] at he
  obtain ⟨a,ha,hx⟩:=(QbM ho e).1 he
  exact (ho a ha).al e hx
 ·rw[h.mk2] at hs
  simp only[List.mem_map,List.mem_filter,List.mem_range'_1] at hs
  obtain ⟨i,⟨hi,_⟩,rfl⟩:=hs
  rw[h.st];omega
 ·rw[h.mk2]
  unfold Yi
  rw[List.pairwise_map]
  refine List.Pairwise.sublist List.filter_sublist ?_
  exact (List.pairwise_lt_range' (s:=0) (n:=Q.length)).imp (λh=>by omega)
 ·rw[h.ed] at he
  obtain ⟨j,v,hj,hv,hg⟩:=je he
  unfold syF at hg
  obtain ⟨u,hu,rfl⟩:=Option.map_eq_some_iff.1 hg
  have:=(h.to hj hv hu).1
  rw[h.st,h.al]
  exact ⟨by simp only[];omega,by simp only[];omega,hv,by simp only[];omega,by simp only[];omega⟩
end Go.Proofs.YtdffckgdcegpaaaGreatDoor
namespace Go.Lg
open Go.RowKit
instance:LawfulBEq ByteArray where
 eq_of_beq h:=(MapKept.bytes_beq _ _).1 h
 rfl:=(MapKept.bytes_beq _ _).2 rfl
def chr (s:ByteArray) (i:Nat):Nat:=(s.get! i).toNat
theorem Qjz {s:ByteArray}{i:Nat}(h:i<s.size):(s[i]'h).toNat=chr s i:=by
 unfold chr
 obtain ⟨d⟩:=s
 have hd:i<d.size:=h
 simp[ByteArray.get!,hd,ByteArray.getElem_eq_getElem_data]
theorem Qc2 {a b:ByteArray}(h:a.data.toList=b.data.toList):a=b:=by
 obtain ⟨⟨x⟩⟩:=a
 obtain ⟨⟨y⟩⟩:=b
 have h':x=y:=h
 rw[h']
theorem bytes_beq (a b:ByteArray):(a.toList == b.toList)=decide (a=b):=by
 rw[ByteArray.toList_eq,ByteArray.toList_eq]
 by_cases h:a=b
 ·subst h;simp
 ·rw[decide_eq_false h]
  have:a.data.toList≠b.data.toList:=λe=>h (Qc2 e)
  simpa using this
section
variable {P:Program} {f:Fr} {w:World} {d:Option Nat} {ty:Nat} {ps:String} {af:Array Edge} {gd:Option (Nat×Bool)} {t t':Nat} {x y:Operand}
theorem Qd9 [h:St P t] {s:ByteArray}{k:IntKind}{i:Nat}(hx:ev f x=.string s) (hy:ev f y=.int k i) (hi:i<s.size) :
  (execOp (ev f) ⟨d,.index t x y,ty,ps,af,gd⟩).run P w=.ok (.value (.int .u8 (chr s i))) w:=by
 have h1:=run_index_string (P:=P) w t s k i h.u
 rw[dif_pos ⟨by omega,by omega⟩] at h1
 have e:(s[(i:Int).toNat]'(by simpa using hi)).toNat=chr s i:=Qjz hi
 simp only[execOp,hx,hy,Sem.run_bind,h1,Result.andThen_ok,Sem.run_pure,e]
theorem Qae [h:St P t] {s:ByteArray}(hx:ev f x=.string s) :
  (execOp (ev f) ⟨d,.call ⟨.builtin .len,#[x],#[t]⟩,ty,ps,af,gd⟩).run P w=.ok (.value (.int .i64 s.size)) w:=Qd8 h.u hx
theorem Y9 {a b:ByteArray}(hx:ev f x=.string a) (hy:ev f y=.string b) :
  (execOp (ev f) ⟨d,.binOp .eql t x y t',ty,ps,af,gd⟩).run P w=.ok (.value (.bool (decide (a=b)))) w:=by
 have hg:(eqGuard .eql t x y (.string a) (.string b)).run P w=.ok () w:=by simp[eqGuard]
 simp only[execOp,hx,hy,Sem.run_bind,hg,Result.andThen_ok,binOp_string_eql,Sem.run_pure,bytes_beq]
theorem Z8 {a b:ByteArray}(hx:ev f x=.string a) (hy:ev f y=.string b) (hl:a.size+b.size≤1000000000) :
  (execOp (ev f) ⟨d,.binOp .add t x y t',ty,ps,af,gd⟩).run P w=.ok (.value (.string (a++b))) w:=by
 have hg:(eqGuard .add t x y (.string a) (.string b)).run P w=.ok () w:=by simp[eqGuard]
 have hl':¬(((a.size+b.size:Nat):Int) > IntKind.i64.max):=by
  rw[show IntKind.i64.max=9223372036854775807 from rfl];omega
 simp only[execOp,hx,hy,Sem.run_bind,hg,Result.andThen_ok,binOp_string_add,Op.stringOp,if_neg hl',Sem.run_pure]
theorem QgO {a b:Nat}(hx:ev f x=.int .u16 a) (hy:ev f y=.int .u16 b) (ha:a<65536) (hb:b<65536) :
  (execOp (ev f) ⟨d,.binOp .and t x y t',ty,ps,af,gd⟩).run P w=.ok (.value (.int .u16 ((a &&& b:Nat):Int))) w:=by
 refine YS hx hy ?_
 have hi:inK .u16 ((a &&& b:Nat):Int):=by
  have:a &&& b≤a:=Nat.and_le_left
  exact ⟨by omega,by omega⟩
 simp only[binOp,Op.intBits,BitVec.ofInt_natCast,ne_eq,not_true_eq_false,if_false,Sem.run_pure]
 rw[BitVec.toNat_and,BitVec.toNat_ofNat,BitVec.toNat_ofNat,Nat.mod_eq_of_lt (show a<2 ^ IntKind.u16.bits from ha),Nat.mod_eq_of_lt (show b<2 ^ IntKind.u16.bits from hb),Ye hi]
theorem Qbm {a b:Nat}(ha:a<65536) (hb:b<65536):a ||| b<65536:=Nat.or_lt_two_pow (n:=16) ha hb
theorem Qad {a b:Nat}(hx:ev f x=.int .u16 a) (hy:ev f y=.int .u16 b) (ha:a<65536) (hb:b<65536) :
  (execOp (ev f) ⟨d,.binOp .or t x y t',ty,ps,af,gd⟩).run P w=.ok (.value (.int .u16 ((a ||| b:Nat):Int))) w:=by
 refine YS hx hy ?_
 have hi:inK .u16 ((a ||| b:Nat):Int):=by
  have:=Qbm ha hb
  exact ⟨by omega,by omega⟩
 simp only[binOp,Op.intBits,BitVec.ofInt_natCast,ne_eq,not_true_eq_false,if_false,Sem.run_pure]
 rw[BitVec.toNat_or,BitVec.toNat_ofNat,BitVec.toNat_ofNat,Nat.mod_eq_of_lt (show a<2 ^ IntKind.u16.bits from ha),Nat.mod_eq_of_lt (show b<2 ^ IntKind.u16.bits from hb),Ye hi]
theorem Qaf {a b:Nat}(hx:ev f x=.int .u16 a) (hy:ev f y=.int .u16 b) (ha:a<65536) (hb:b<65536) :
  (execOp (ev f) ⟨d,.binOp .andNot t x y t',ty,ps,af,gd⟩).run P w=.ok (.value (.int .u16 ((a &&& (65535 ^^^ b):Nat):Int))) w:=by
 refine YS hx hy ?_
 have hi:inK .u16 ((a &&& (65535 ^^^ b):Nat):Int):=by
  have:a &&& (65535 ^^^ b)≤a:=Nat.and_le_left
  exact ⟨by omega,by omega⟩
 have e:(~~~(BitVec.ofNat IntKind.u16.bits b))=BitVec.ofNat IntKind.u16.bits (65535 ^^^ b):=by
  have hall:BitVec.allOnes 16=BitVec.ofNat 16 65535:=by decide
  have hx1:∀z:BitVec 16,~~~z=BitVec.allOnes 16 ^^^ z:=λz=>by
   first
   | exact BitVec.allOnes_xor.symm
   | exact (BitVec.xor_allOnes.symm.trans (BitVec.xor_comm _ _))
  show ~~~(BitVec.ofNat 16 b)=BitVec.ofNat 16 (65535 ^^^ b)
  rw[hx1,hall]
  apply BitVec.eq_of_toNat_eq
  simp only[BitVec.toNat_xor,BitVec.toNat_ofNat]
  rw[Nat.mod_eq_of_lt (show 65535<2 ^ 16 by decide),Nat.mod_eq_of_lt (show b<2 ^ 16 from hb)]
  rw[Nat.mod_eq_of_lt (Nat.xor_lt_two_pow (n:=16) (by decide) hb)]
 simp only[binOp,Op.intBits,BitVec.ofInt_natCast,ne_eq,not_true_eq_false,if_false,Sem.run_pure]
 rw[e,BitVec.toNat_and,BitVec.toNat_ofNat,BitVec.toNat_ofNat,Nat.mod_eq_of_lt (show a<2 ^ IntKind.u16.bits from ha),Nat.mod_eq_of_lt (show 65535 ^^^ b<2 ^ IntKind.u16.bits from Nat.xor_lt_two_pow (n:=16) (by decide) hb),Ye hi]
theorem Qbe {k k':IntKind}{a:Int}{n:Nat}(hx:ev f x=.int k a) (hy:ev f y=.int k' n) (hn:n≤k.bits) (hi:inK k (a*2 ^ n)) :
  (execOp (ev f) ⟨d,.binOp .shl t x y t',ty,ps,af,gd⟩).run P w=.ok (.value (.int k (a*2 ^ n))) w:=by
 refine YS hx hy ?_
 have h1:¬((n:Int)<0):=by omega
 simp only[binOp,Op.shift,h1,if_false,Int.toNat_natCast,Nat.min_eq_left hn,Sem.run_pure]
 rw[Ye hi]
end
section
variable {P:Program} {ops:List Oper} {K:Fr→World→Prop} {f:Fr} {w:World} {d:Option Nat} {ty:Nat} {ps:String} {af:Array Edge} {gd:Option (Nat×Bool)} {l:List Oper}
 {t e sz bys:Nat} {z:Value} {x y1 y2:Operand} {L:LN} {v:Value} {n:Nat} {cs:LV} {H:Array Obj} {k k':IntKind} {hi:Nat}
theorem Qd2 [h:Sl P t e sz bys z] (hA:Zj L H v n sz cs) (hx:ev f x=v) (hh:ev f y1=.int k hi) (hm:ev f y2=.int k' hi) (h1:hi≤n) :
  ∃v',Zj L H v' hi sz (cs.take (hi*sz))∧∀w,(execOp (ev f) ⟨d,.slice t x none (some y1) (some y2),ty,ps,af,gd⟩).run P w=.ok (.value v') w:=by
 obtain ⟨ii,hii,_,hs,_⟩:=Sl.info h
 rcases hA.2.2 with ⟨rfl,rfl⟩ | ⟨a,cap,rfl,hc,hat⟩
 ·have h0:hi=0:=by omega
  subst h0
  refine ⟨nS,?_,λw=>?_⟩
  ·rw[Nat.zero_mul,List.take_zero];exact Zj.nil _ _ _
  ·simp[execOp,hx,hh,hm,Instr.sliceAt,Instr.slice,Instr.sliceBounds,Instr.sliceBound,asIntOf,run_underlying h.u,sizeOf,typeInfo,hii]
 ·refine ⟨.slice (some a) hi hi,⟨?_,by have:=hA.2.1;omega,.inr ⟨a,hi,rfl,Nat.le_refl _,λu hu=>hat.out u (List.mem_of_mem_take hu),λu hu=>hat.lt u (List.mem_of_mem_take hu),λj u hu=>?_⟩⟩,λw=>?_⟩
  ·rw[List.length_take,hA.1,Nat.min_eq_left (Nat.mul_le_mul_right _ h1)]
  ·rw[List.getElem?_take] at hu
   split at hu
   ·exact hat.cell j u hu
   ·cases hu
  ·by_cases h0:hi=0
   ·subst h0
    simp[execOp,hx,hh,hm,Instr.sliceAt,Instr.slice,Instr.sliceBounds,Instr.sliceBound,asIntOf,run_underlying h.u,sizeOf,typeInfo,hii]
   ·simp[execOp,hx,hh,hm,Instr.sliceAt,Instr.slice,Instr.sliceBounds,Instr.sliceBound,asIntOf,run_underlying h.u,sizeOf,typeInfo,hii,Addr.add]
    intro h9;omega
end
section
variable {P:Program} {ops l:List Oper} {K:Fr→World→Prop} {f:Fr} {w:World} {o:Oper} {C:World→Prop} {pl:List (Nat×Bool)} {i:Nat}
theorem xB {b:Bool}(hr:(execOp (ev f) o).run P w=.ok (.value (.bool b)) w) (ht:b=true→XL P ops K l (QY f o.dst (.bool true)) w) (hf:b=false→XL P ops K l (QY f o.dst (.bool false)) w)
  (hg:Yd ops f o=true:=by rfl):XL P ops K (o::l) f w:=by
 cases hb:b with
 | true=>rw[hb] at hr;exact x hr (ht hb) hg
 | false=>rw[hb] at hr;exact x hr (hf hb) hg
theorem pB {b:Bool}(hr:∀w',(execOp (ev f) (Q6 ops i)).run P w'=.ok (.value (.bool b)) w') (ht:b=true→XP P ops C K pl (QY f (Q6 ops i).dst (.bool true)) w) (hf:b=false→XP P ops C K pl (QY f (Q6 ops i).dst (.bool false)) w)
  (hg:Yd ops f (Q6 ops i)=true:=by rfl):XP P ops C K ((i,true)::pl) f w:=by
 cases hb:b with
 | true=>rw[hb] at hr;exact p hr (ht hb) hg
 | false=>rw[hb] at hr;exact p hr (hf hb) hg
theorem Qfp {G:Prop} (b:Bool) (ht:b=true→G) (hf:b=false→G):G:=by cases h:b with | true=>exact ht h | false=>exact hf h
theorem bT {q:Prop}[Decidable q] (h:q):true=decide q:=(decide_eq_true h).symm
theorem bF {q:Prop}[Decidable q] (h:¬q):false=decide q:=(decide_eq_false h).symm
theorem bD {q r:Prop}[Decidable q] [Decidable r] (h:q↔r):decide q=decide r:=decide_eq_decide.2 h
end
section
variable {P:Program} {f:Fr} {w:World} {d:Option Nat} {ty:Nat} {ps:String} {af:Array Edge} {gd:Option (Nat×Bool)} {t:Nat} {x:Operand}
theorem Us {q:Prop}[Decidable q] (hx:ev f x=.bool (decide q)):(execOp (ev f) ⟨d,.unOp .not t x,ty,ps,af,gd⟩).run P w=.ok (.value (.bool (decide (¬q)))) w:=by
 rw[Zn hx];simp
end
end Go.Lg
namespace Go.Proofs.YtdffckgdcegpaaaGreatDoor
open Go.Lg
structure J3 where
 nm:ByteArray
 co:Bool
 ob:Bool
 fo:Bool
 fl:Int
structure YE where
 nm:ByteArray
 a:QV
structure zg where
 nm:ByteArray
 ls:List (Int×Int)
structure Y3 where
 nm:ByteArray
 ts:List (Int×Int)
 bd:Int
structure Zv where
 ev:List J3
 co:List YE
 rq:List YE
 ex:List zg
 cs:List Y3
def Jw (n:Nat):LI:=(List.range n).map λi:Nat=>(i:Int)
def nmP (i c:Nat):Prop:=((97≤c∧c≤122)∨(65≤c∧c≤90)∨c=95)∨(i≠0∧48≤c∧c≤57)
instance (i c:Nat):Decidable (nmP i c):=by unfold nmP;infer_instance
def nmQ (s:ByteArray) (i:Nat):Bool:=decide (nmP i (chr s i))
def Yy (s:ByteArray):Bool:=(List.range' 0 s.size).all (nmQ s) && decide (0<s.size∧s.size≤32)
def Y6 (seen:List ByteArray) (e:J3):Int:=if Yy e.nm=false then 7 else if e.nm∈seen then 8 else if e.fl<0∨4<e.fl then 2 else if e.fl≠0∧(e.co || e.ob)=true then 13 else 0
def VO:List ByteArray→List J3→Int
 | _,[]=>0
 | seen,e::l=>if Y6 seen e≠0 then Y6 seen e else VO (seen++[e.nm]) l
def Jg (l:List J3):Int:=if 32<l.length then 3 else VO [] l
def ixs {α:Type}(q:α→Bool):Nat→List α→LI
 | _,[]=>[]
 | i,e::l=>if q e=true then (i:Int)::ixs q (i+1) l else ixs q (i+1) l
def unc (l:List J3):LI:=ixs (λe=>!e.co) 0 l
def YJ (sz:LI):Option Int→List (Int×Int)→Int
 | _,[]=>0
 | pr,l::ls=>if l.1<0∨(sz.length:Int)≤l.1 then 2 else if UC pr l.1=true then 5 else if l.2<0∨cget sz l.1.toNat≤l.2 then 2 else YJ sz (some l.1) ls
def XK (sz:LI) (ls:List (Int×Int)):Int:=if ls.length=0 then 12 else YJ sz none ls
def grt (n:Int):Bool:=decide (n < -65536) || decide (65536<n)
def Xn (sz:LI):Option Int→List (Int×Int)→Int
 | _,[]=>0
 | pr,l::ls=>if l.1<0∨(sz.length:Int)≤l.1 then 2 else if UC pr l.1=true then 5 else if l.2=0∨grt l.2=true then 2 else Xn sz (some l.1) ls
def YH (sz:LI) (k:Y3):Int:=if k.ts.length=0 then 12 else if Xn sz none k.ts≠0 then Xn sz none k.ts else if grt k.bd=true then 2 else 0
def JN (seen:List ByteArray) (s:ByteArray):Int:=if Yy s=false then 7 else if s∈seen then 8 else 0
def Ya (sz:LI):List ByteArray→List zg→Int
 | _,[]=>0
 | seen,x::l=>if JN seen x.nm≠0 then JN seen x.nm else if XK sz x.ls≠0 then XK sz x.ls else Ya sz (seen++[x.nm]) l
def YA (sz:LI):List ByteArray→List Y3→Int
 | _,[]=>0
 | seen,x::l=>if JN seen x.nm≠0 then JN seen x.nm else if YH sz x≠0 then YH sz x else YA sz (seen++[x.nm]) l
def Jq (n:Int):Bool:=decide (n<1) || decide (4096<n)
def Yr (sz:LI) (ex:List zg) (cs:List Y3):Int:=if 8<sz.length then 3 else if sz.any Jq=true then 2 else if 32<ex.length∨32<cs.length then 3 else if Ya sz [] ex≠0 then Ya sz [] ex else YA sz [] cs
def mns (a b:LI):LI:=mrg (λp q=>p && !q) a b
def JH (a:QV):Bool:=decide (Jh a=0) && decide ((Ju a).st=a.st∧(Ju a).al=a.al∧(Ju a).mr=a.mr∧(Ju a).ed=a.ed)
def Z0 (nev:Nat) (amg:LI) (seen:List ByteArray) (x:YE):Int :=
 if Yy x.nm=false then 7 else if x.nm∈seen then 8 else if Jh x.a≠0 then Jh x.a else if JH x.a=false then 6 else if x.a.st=0 then 12 else
 if (x.a.al.any λe=>decide ((nev:Int)≤e))=true then 2 else if (mns x.a.al amg).length≠0 then 9 else 0
def Z5 (nev:Nat) (al:LI):List ByteArray→LI→List YE→Int×List ByteArray×LI
 | s,u,[]=>(0,s,u)
 | s,u,x::l=>if Z0 nev al s x≠0 then (Z0 nev al s x,s,u) else Z5 nev al (s++[x.nm]) (mrg (· || ·) u x.a.al) l
def X5 (nev:Nat) (u:LI):List ByteArray→List YE→Int
 | _,[]=>0
 | s,x::l=>if Z0 nev u s x≠0 then Z0 nev u s x else X5 nev u (s++[x.nm]) l
def szs (l:List YE):LI:=l.map (·.a.st)
def auts (l:List YE):List QV:=l.map (·.a)
def Zi (c:Zv):Int :=
 if Jg c.ev≠0 then Jg c.ev else if c.co.length=0 then 12 else if 8<c.co.length∨12<c.co.length+c.rq.length then 3 else
 if (Z5 c.ev.length (Jw c.ev.length) [] [] c.co).1≠0 then (Z5 c.ev.length (Jw c.ev.length) [] [] c.co).1 else
 if X5 c.ev.length (Z5 c.ev.length (Jw c.ev.length) [] [] c.co).2.2 (Z5 c.ev.length (Jw c.ev.length) [] [] c.co).2.1 c.rq≠0 then X5 c.ev.length (Z5 c.ev.length (Jw c.ev.length) [] [] c.co).2.2 (Z5 c.ev.length (Jw c.ev.length) [] [] c.co).2.1 c.rq else
 Yr (szs c.co) c.ex c.cs
def Ka (t:LI) (x:zg):Bool:=x.ls.all λl=>decide (t.getD l.1.toNat 0=l.2)
def Qj7 (t:LI) (k:Y3):Int:=k.ts.foldl (λs p=>s+p.2*t.getD p.1.toNat 0) 0
def Vi (t:LI) (k:Y3):Bool:=decide (k.bd<Qj7 t k)
def fix {α:Type}(q:α→Bool):Nat→List α→Int
 | _,[]=>-1
 | i,e::l=>if q e=true then (i:Int) else fix q (i+1) l
def vio (c:Zv) (t:LI):Option (Int×Int) :=
 if 0≤fix (Ka t) 0 c.ex then some (1,fix (Ka t) 0 c.ex) else if 0≤fix (Vi t) 0 c.cs then some (2,fix (Vi t) 0 c.cs) else none
def rfr (v:Int):Nat→List YE→LI→Int
 | i,x::l,s::ss=>if v∈x.a.al∧(eget x.a.ed s v).isSome=false then (i:Int) else rfr v (i+1) l ss
 | _,_,_=>-1
structure Rsn where
 st:Int
 kd:Int
 ix:Int
 ev:Int
def rfd (c:Zv) (rs:LI):LI→Option (Int×Int)
 | []=>none
 | v::l=>if 0≤rfr v 0 c.rq rs∧(c.ev.getD v.toNat ⟨.empty,false,false,false,0⟩).co=false then some (rfr v 0 c.rq rs,v) else rfd c rs l
def QcT (a:QV) (s:Int):LI:=(ZJ a.ed s).map (·.2.1)
def rsn (c:Zv) (pl:QV) (plc:Int) (i:Nat) (t:LI):Option Rsn :=
 match vio c (t.take c.co.length) with
 | some (k,j)=>some ⟨i,k,j,-1⟩
 | none=>match rfd c (t.drop c.co.length) (QcT pl plc) with
  | some (j,v)=>some ⟨i,3,j,v⟩
  | none=>none
structure Spc where
 a:QV
 co:List (LI)
 rq:List (LI)
 pl:LI
 fb:List Rsn
def plx (ps:List (LI)) (t:LI):Int:=if t∈ps then (ps.idxOf t:Int) else 0
def Qiz (c:Zv) (pl:QV) (ps:List (LI)) (s:Spc) (p:LI×Nat):Spc :=
 ⟨s.a,s.co++[p.1.take c.co.length],s.rq++[p.1.drop c.co.length],s.pl++[plx ps (p.1.take c.co.length)],
  match rsn c pl (plx ps (p.1.take c.co.length)) p.2 p.1 with | some r=>s.fb++[r] | none=>s.fb⟩
def Yu (c:Zv):Int:=if Zi c≠0 then Zi c else if Vf (auts c.co)≠0 then Vf (auts c.co) else match sync (auts c.co) with
 | none=>3
 | some _=>if Vf (auts c.co++auts c.rq)≠0 then Vf (auts c.co++auts c.rq) else match sync (auts c.co++auts c.rq) with
  | none=>3
  | some _=>0
def syA (l:List QV):QV:=match sync l with | none=>⟨[],0,[],[]⟩ | some z=>z.1
def syQ (l:List QV):List (LI):=match sync l with | none=>[] | some z=>z.2
def spc (c:Zv):Spc:=(syQ (auts c.co++auts c.rq)).zipIdx.foldl (Qiz c (syA (auts c.co)) (syQ (auts c.co))) ⟨syA (auts c.co++auts c.rq),[],[],[],[]⟩
end Go.Proofs.YtdffckgdcegpaaaGreatDoor
namespace Go.Lg
section
variable {P:Program} {f:Fr} {w:World} {d:Option Nat} {ty:Nat} {ps:String} {af:Array Edge} {gd:Option (Nat×Bool)}
end
inductive Pu where
 | pl (l:List (Nat×Bool))
 | f2 (pre:List (Nat×Bool)) (i j:Nat) (t1 t2:Pu)
 | f3 (pre:List (Nat×Bool)) (i j k:Nat) (t1 t2 t3:Pu)
def Pu.len:Pu→Nat
 | .pl l=>l.length
 | .f2 pre _ _ t1 _=>pre.length+(1+t1.len)
 | .f3 pre _ _ _ t1 _ _=>pre.length+(1+t1.len)
def zB (all:Array Oper):Pu→Array Bool→Bool
 | .pl l,ls=>Y1 all l ls
 | .f2 pre i j t1 t2,ls=>JT all pre ls && Region.ready .any all (ZX pre ls) == [i,j] && t1.len == t2.len && zB all t1 ((ZX pre ls).setIfInBounds i true) && zB all t2 ((ZX pre ls).setIfInBounds j true)
 | .f3 pre i j k t1 t2 t3,ls=>JT all pre ls && Region.ready .any all (ZX pre ls) == [i,j,k] && t1.len == t2.len && t1.len == t3.len && zB all t1 ((ZX pre ls).setIfInBounds i true) && zB all t2 ((ZX pre ls).setIfInBounds j true) && zB all t3 ((ZX pre ls).setIfInBounds k true)
def Qkd (all:List Oper) (t:Pu):Bool:=Region.noSelect all.toArray && t.len == all.length && zB all.toArray t (Array.replicate all.length false)
def XE (P:Program) (all:List Oper) (C:World→Prop) (i:Nat) (N:Fr→World→Prop) (f:Fr) (w:World):Prop:=Yd all f (Q6 all i)=true∧XO P (Q6 all i) f w λf' w'=>C w'∧N f' w'
def XU (P:Program) (all:List Oper) (C:World→Prop) (K:Fr→World→Prop):Pu→Fr→World→Prop
 | .pl l=>XP P all C K l
 | .f2 pre i j t1 t2=>XP P all C (λf w=>XE P all C i (XU P all C K t1) f w∧XE P all C j (XU P all C K t2) f w) pre
 | .f3 pre i j k t1 t2 t3=>XP P all C (λf w=>XE P all C i (XU P all C K t1) f w∧XE P all C j (XU P all C K t2) f w∧XE P all C k (XU P all C K t3) f w) pre
section
variable {P:Program} {n:Nat} {f:Fr} {w:World} {all:List Oper} {C:World→Prop} {K B:Fr→World→Prop}
theorem X8 (hs:Region.noSelect all.toArray=true):∀(t:Pu) (ls:Array Bool) (f:Fr) (w:World),ls.size=all.length→C w→zB all.toArray t ls=true→XU P all C K t f w→XA P all C K t.len ls f w
 | .pl l,ls,f,w,hsz,hC,hp,h=>ZA hs l ls f w hsz (.inl hC) hp h
 | .f2 pre i j t1 t2,ls,f,w,hsz,hC,hp,h=>by
  simp only[zB,Bool.and_eq_true,beq_iff_eq] at hp
  obtain ⟨⟨⟨⟨hq,hr⟩,hl⟩,h1⟩,h2⟩:=hp
  rw[Pu.len]
  refine YD (B:=λf w=>XE P all C i (XU P all C K t1) f w∧XE P all C j (XU P all C K t2) f w) hs pre ls f w hC hq (λf hB=>?_) h
  have hsz':∀k,((ZX pre ls).setIfInBounds k true).size=all.length:=λk=>by simp[YF,hsz]
  rw[Nat.add_comm 1]
  refine Jl (λh0=>(by rw[h0] at hr;cases hr)) ?_
  rw[hr]
  intro k hk o ho
  simp only[List.mem_cons,List.not_mem_nil,or_false] at hk
  rcases hk with rfl | rfl
  ·have:=hB.1
   unfold XE at this
   rw[Zq ho] at this
   rw[this.1,cond_true]
   exact this.2.mono λv w' hx=>⟨.inr (.inr hx.1),X8 hs t1 _ _ _ (hsz' _) hx.1 h1 hx.2⟩
  ·have:=hB.2
   unfold XE at this
   rw[Zq ho] at this
   rw[this.1,cond_true,hl]
   exact this.2.mono λv w' hx=>⟨.inr (.inr hx.1),X8 hs t2 _ _ _ (hsz' _) hx.1 h2 hx.2⟩
 | .f3 pre i j k t1 t2 t3,ls,f,w,hsz,hC,hp,h=>by
  simp only[zB,Bool.and_eq_true,beq_iff_eq] at hp
  obtain ⟨⟨⟨⟨⟨⟨hq,hr⟩,hl⟩,hl3⟩,h1⟩,h2⟩,h3⟩:=hp
  rw[Pu.len]
  refine YD (B:=λf w=>XE P all C i (XU P all C K t1) f w∧XE P all C j (XU P all C K t2) f w∧XE P all C k (XU P all C K t3) f w) hs pre ls f w hC hq (λf hB=>?_) h
  have hsz':∀k,((ZX pre ls).setIfInBounds k true).size=all.length:=λk=>by simp[YF,hsz]
  rw[Nat.add_comm 1]
  refine Jl (λh0=>(by rw[h0] at hr;cases hr)) ?_
  rw[hr]
  intro q hk o ho
  simp only[List.mem_cons,List.not_mem_nil,or_false] at hk
  rcases hk with rfl | rfl | rfl
  ·have:=hB.1
   unfold XE at this
   rw[Zq ho] at this
   rw[this.1,cond_true]
   exact this.2.mono λv w' hx=>⟨.inr (.inr hx.1),X8 hs t1 _ _ _ (hsz' _) hx.1 h1 hx.2⟩
  ·have:=hB.2.1
   unfold XE at this
   rw[Zq ho] at this
   rw[this.1,cond_true,hl]
   exact this.2.mono λv w' hx=>⟨.inr (.inr hx.1),X8 hs t2 _ _ _ (hsz' _) hx.1 h2 hx.2⟩
  ·have:=hB.2.2
   unfold XE at this
   rw[Zq ho] at this
   rw[this.1,cond_true,hl3]
   exact this.2.mono λv w' hx=>⟨.inr (.inr hx.1),X8 hs t3 _ _ _ (hsz' _) hx.1 h3 hx.2⟩
theorem QhZ {Q:Exit→Fr→World→Prop}{id:Nat}(C:World→Prop) (t:Pu) (hm:P.follows .mixedOrders=true) (hn:XJ n all=true) (hp:Qkd all t=true)
  (hC:C { w with drawn:=w.drawn+1 }) (h:XU P all C (λf w=>Q .normal f w) t f { w with drawn:=w.drawn+1 }):W P n (.region id all.toArray true) Q f w:=by
 simp only[Qkd,Bool.and_eq_true,beq_iff_eq] at hp
 obtain ⟨⟨hs,hl⟩,hp⟩:=hp
 refine Ks C hm hn ?_
 have h1:=X8 hs t _ _ _ (by simp) hC hp h
 rw[hl] at h1
 exact h1
theorem uP {l:List (Nat×Bool)}(h:XP P all C K l f w):XU P all C K (.pl l) f w:=h
theorem u2 {pre:List (Nat×Bool)}{i j:Nat}{t1 t2:Pu}(h:XP P all C (λf w=>XE P all C i (XU P all C K t1) f w∧XE P all C j (XU P all C K t2) f w) pre f w):XU P all C K (.f2 pre i j t1 t2) f w:=h
theorem u3 {pre:List (Nat×Bool)}{i j k:Nat}{t1 t2 t3:Pu}(h:XP P all C (λf w=>XE P all C i (XU P all C K t1) f w∧XE P all C j (XU P all C K t2) f w∧XE P all C k (XU P all C K t3) f w) pre f w):XU P all C K (.f3 pre i j k t1 t2 t3) f w:=h
theorem ue {i:Nat}{N:Fr→World→Prop}(h:XO P (Q6 all i) f w λf' w'=>C w'∧N f' w') (hg:Yd all f (Q6 all i)=true:=by rfl):XE P all C i N f w:=⟨hg,h⟩
end
attribute [irreducible] XU XE
open Go.RowKit
abbrev fen (ro:Option Nat):Fence:={ Fence.wide with round:=ro }
def coll (ds:LN):List Deferred:=ds.map λD=>{ target:=.collected D,args:=#[] }
structure Yp (n:Nat) (ds:LN) (a:Act) (f:Fr):Prop where
 size:a.tmps.size=n
 defers:a.defers=coll ds
 get:∀t,a.tmps.getD t undef=f t
theorem Yp.rel {n:Nat} {ds:LN} {a:Act} {f:Fr} (h:Yp n ds a f):yn n { a with defers:=[] } f:=⟨h.size,rfl,h.get⟩
theorem Yp.eval {n:Nat}{ds:LN}{a:Act}{f:Fr}(h:Yp n ds a f):a.eval=ev f:=by
 have:=h.rel.eval
 rw[←this];funext x;cases x <;> rfl
theorem Yp.put {n:Nat}{ds:LN}{a:Act}{f:Fr}(h:Yp n ds a f) {dst:Option Nat}(hd:∀d,dst=some d→d<n) (v:Value):Yp n ds (a.put dst v) (QY f dst v):=by
 have:=h.rel.put hd v
 cases dst with
 | none=>exact h
 | some d=>exact ⟨this.size,h.defers,this.get⟩
def Y0:Code→Nat→Bool
 | .region _ ops _,t=>ZF ops.toList t
 | .seq a b,t=>Y0 a t || Y0 b t
 | .cond _ a b,t=>Y0 a t || Y0 b t
 | .block _ a,t=>Y0 a t
 | .loop a,t=>Y0 a t
 | .skip,_ | .exit _,_ | .label _,_ | .goto _,_ | .ret,_ | .rangeFunc ..,_=>false
 | _,_=>true
def jW (D:List (Nat×Nat)):Code→Bool
 | .region _ ops _=>Qa2 D ops.toList
 | .seq a b=>jW D a && jW D b
 | .cond _ a b=>jW D a && jW D b
 | .block _ a=>jW D a
 | .loop a=>jW D a
 | .skip | .exit _ | .label _ | .goto _ | .ret | .rangeFunc ..=>true
 | _=>false
theorem Xy {D:List (Nat×Nat)}{t:Nat}(ht:Xj D t=false):∀c:Code,jW D c=true→Y0 c t=false
 | .region _ ops _,h=>qw h ht
 | .seq a b,h=>by simp only[jW,Bool.and_eq_true] at h;simp[Y0,Xy ht a h.1,Xy ht b h.2]
 | .cond _ a b,h=>by simp only[jW,Bool.and_eq_true] at h;simp[Y0,Xy ht a h.1,Xy ht b h.2]
 | .block _ a,h=>Xy ht a (by simpa[jW] using h)
 | .loop a,h=>Xy ht a (by simpa[jW] using h)
 | .skip,_=>rfl
 | .exit _,_=>rfl
 | .label _,_=>rfl
 | .goto _,_=>rfl
 | .ret,_=>rfl
 | .rangeFunc ..,_=>rfl
 | .scope _,h=>by simp[jW] at h
 | .refuse _,h=>by simp[jW] at h
def WG (ro:Option Nat) (m:Nat) (P:Program) (n:Nat) (c:Code) (Q:Exit→LN→Fr→World→Prop) (ds:LN) (f:Fr) (w:World):Prop :=
 ∀a,Yp n ds a f→c.wpIn (fen ro) m P (λe a' w'=>∃ds' f',Yp n ds' a' f'∧(∀t,Y0 c t=false→f' t=f t)∧Q e ds' f' w') a w
def jZ (K:LN→Fr→World→Prop) (Q:Exit→LN→Fr→World→Prop):Exit→LN→Fr→World→Prop
 | .normal,ds,f,w=>K ds f w
 | e,ds,f,w=>Q e ds f w
def QkI (id:Nat) (Q:Exit→LN→Fr→World→Prop):Exit→LN→Fr→World→Prop
 | .exit i,ds,f,w=>bif Nat.beq i id then Q .normal ds f w else Q (.exit i) ds f w
 | e,ds,f,w=>Q e ds f w
section
variable {ro:Option Nat} {m:Nat} {P:Program} {n:Nat} {Q:Exit→LN→Fr→World→Prop} {ds:LN} {f:Fr} {w:World}
theorem WG.mono {c:Code}{Q':Exit→LN→Fr→World→Prop}(h:WG ro m P n c Q ds f w) (hq:∀e ds f w,Q e ds f w→Q' e ds f w):WG ro m P n c Q' ds f w :=
 λa ha=>wpIn_mono (h a ha) λ_ _ _ ⟨ds',f',h1,h2,h3⟩=>⟨ds',f',h1,h2,hq _ _ _ _ h3⟩
theorem WG.keeps {c:Code}(h:WG ro m P n c Q ds f w):WG ro m P n c (λe ds' f' w'=>(∀t,Y0 c t=false→f' t=f t)∧Q e ds' f' w') ds f w :=
 λa ha=>wpIn_mono (h a ha) λ_ _ _ ⟨ds',f',h1,h2,h3⟩=>⟨ds',f',h1,h2,h2,h3⟩
theorem Yb (h:Q .normal ds f w):WG ro m P n .skip Q ds f w:=λ_ ha=>wpIn_skip ⟨ds,f,ha,λ_ _=>rfl,h⟩
theorem JS {i:Nat}(h:Q (.exit i) ds f w):WG ro m P n (.exit i) Q ds f w:=λ_ ha=>wpIn_exit ⟨ds,f,ha,λ_ _=>rfl,h⟩
theorem JR (h:Q .ret ds f w):WG ro m P n .ret Q ds f w:=λ_ ha=>wpIn_ret ⟨ds,f,ha,λ_ _=>rfl,h⟩
theorem Q0 {x y:Code}(h:WG ro m P n x (jZ (λds f w=>WG ro m P n y Q ds f w) Q) ds f w):WG ro m P n (.seq x y) Q ds f w:=by
 intro a ha
 refine wpIn_seq (wpIn_mono (h a ha) ?_)
 rintro e a' w' ⟨ds',f',h1,h2,h3⟩
 have k1:∀t,Y0 (.seq x y) t=false→f' t=f t:=λt ht=>h2 t (by simp only[Y0,Bool.or_eq_false_iff] at ht;exact ht.1)
 cases e with
 | normal =>
  refine wpIn_mono (h3 a' h1) λ_ _ _ ⟨ds'',f'',g1,g2,g3⟩=>⟨ds'',f'',g1,λt ht=>(g2 t ?_).trans (k1 t ht),g3⟩
  simp only[Y0,Bool.or_eq_false_iff] at ht;exact ht.2
 | exit id=>exact ⟨ds',f',h1,k1,h3⟩
 | goto l=>exact ⟨ds',f',h1,k1,h3⟩
 | ret=>exact ⟨ds',f',h1,k1,h3⟩
 | panic ch=>exact ⟨ds',f',h1,k1,h3⟩
 | outgrown=>exact ⟨ds',f',h1,k1,h3⟩
theorem Qcb {α:Type}{x y:Code}(D:List (Nat×Nat)) (S:α→List (Nat×Value)) (I:α→LN→World→Prop) (hD:jW D x=true)
  (h1:WG ro m P n x (jZ (λds' f' w'=>∃z,Xp f' (S z)∧I z ds' w') Q) ds f w)
  (h2:∀z g ds' w',I z ds' w'→WG ro m P n y Q ds' (zk (S z) (mix D f g)) w'):WG ro m P n (.seq x y) Q ds f w:=by
 refine Q0 (h1.keeps.mono ?_)
 rintro e ds' f' w' ⟨hk,hq⟩
 cases e with
 | normal =>
  obtain ⟨z,hs,hi⟩:=hq
  have h3:=h2 z f' ds' w' hi
  rw[JD (λt ht=>hk t (Xy ht x hD)),YK hs] at h3
  exact h3
 | exit id=>exact hq
 | goto l=>exact hq
 | ret=>exact hq
 | panic ch=>exact hq
 | outgrown=>exact hq
theorem Ku {c:Operand}{x y:Code}{t:Bool}(hc:ev f c=.bool t) (ht:t=true→WG ro m P n x Q ds f w) (hf:t=false→WG ro m P n y Q ds f w) :
  WG ro m P n (.cond c x y) Q ds f w:=by
 intro a ha
 have hc':a.eval c=.bool t:=by rw[ha.eval];exact hc
 refine wpIn_cond_split hc' (λe=>wpIn_mono (ht e a ha) ?_) (λe=>wpIn_mono (hf e a ha) ?_) <;>
  (rintro e a' w' ⟨ds',f',h1,h2,h3⟩
   refine ⟨ds',f',h1,λt ht=>h2 t ?_,h3⟩
   simp only[Y0,Bool.or_eq_false_iff] at ht
   first | exact ht.1 | exact ht.2)
theorem Qh4 {c:Operand}{x y:Code}{p:Prop}[Decidable p] (hc:ev f c=.bool (decide p)) (ht:p→WG ro m P n x Q ds f w) (hf:¬p→WG ro m P n y Q ds f w) :
  WG ro m P n (.cond c x y) Q ds f w :=
 Ku hc (λe=>ht (of_decide_eq_true e)) (λe=>hf (of_decide_eq_false e))
theorem zf {c:Operand}{x y:Code}{p:Prop}[Decidable p] (hc:ev f c=.bool (decide p)) (hf:¬p→WG ro m P n y Q ds f w) (ht:p→WG ro m P n x Q ds f w) :
  WG ro m P n (.cond c x y) Q ds f w:=Qh4 hc ht hf
theorem yi {c:Operand}{x y:Code}(hc:ev f c=.bool true) (h:WG ro m P n x Q ds f w):WG ro m P n (.cond c x y) Q ds f w:=Ku hc (λ_=>h) (λe=>by cases e)
theorem J2 {c:Operand}{x y:Code}(hc:ev f c=.bool false) (h:WG ro m P n y Q ds f w):WG ro m P n (.cond c x y) Q ds f w:=Ku hc (λe=>by cases e) (λ_=>h)
theorem ZC {id:Nat}{c:Code}(h:WG ro m P n c (QkI id Q) ds f w):WG ro m P n (.block id c) Q ds f w:=by
 intro a ha
 refine wpIn_block (wpIn_mono (h a ha) ?_)
 rintro e a' w' ⟨ds',f',h1,h2,h3⟩
 have k1:∀t,Y0 (.block id c) t=false→f' t=f t:=λt ht=>h2 t (by simpa[Y0] using ht)
 cases e with
 | exit i =>
  simp only[Exit.inBlock]
  simp only[QkI] at h3
  by_cases hi:i=id
  ·subst hi
   simp only[Nat.beq_refl,cond_true] at h3
   simp only[if_true]
   exact ⟨ds',f',h1,k1,h3⟩
  ·have hb:Nat.beq i id=false:=by
    cases e:Nat.beq i id with
    | false=>rfl
    | true=>exact absurd (Nat.eq_of_beq_eq_true e) hi
   rw[hb] at h3
   rw[if_neg hi]
   exact ⟨ds',f',h1,k1,h3⟩
 | normal=>exact ⟨ds',f',h1,k1,h3⟩
 | goto l=>exact ⟨ds',f',h1,k1,h3⟩
 | ret=>exact ⟨ds',f',h1,k1,h3⟩
 | panic ch=>exact ⟨ds',f',h1,k1,h3⟩
 | outgrown=>exact ⟨ds',f',h1,k1,h3⟩
end
def yQ (l:List Oper):Bool:=l.all λo=>match o.op with | .defer _=>false | _=>true
theorem Kh {l:List Oper}(h:yQ l=true):∀o∈l,∀c,o.op≠.defer c:=λo ho c e=>by
 have:=List.all_eq_true.1 h o ho
 rw[e] at this;cases this
section
variable {ro:Option Nat} {m:Nat} {P:Program} {n:Nat} {ds:LN}
theorem Qb5 {o:Oper}{a:Act}{f:Fr}{w:World}{K:Fr→World→Prop}{K':Act→World→Prop}{Q:Exit→Act→World→Prop}(h:Yp n ds a f) (hnd:∀c,o.op≠.defer c)
  (hK:∀v w',K (QY f o.dst v) w'→K' (a.put o.dst v) w') (hx:XO P o f w K):o.wpIn (fen ro) m P a w K' Q:=by
 unfold XO at hx
 refine ⟨λ_ _=>trivial,?_⟩
 have e:Oper.semAt (fen ro).round a.eval o=execOp (ev f) o:=by
  rw[h.eval]
  cases ro with
  | none=>rfl
  | some l=>exact Oper.semAt_some l _ _ hnd
 rw[e]
 generalize (execOp (ev f) o).run P w=r at hx
 cases r with
 | ok nx w' =>
  cases nx <;> simp only[upF] at hx <;> simp only[Oper.uponIn]
  case value v=>exact hK v w' hx
  case skip=>exact hK _ w' hx
  case enter g args =>
   refine ⟨λh=>by simp[Fence.wide] at h,?_⟩
   refine (callsIn_wide (n:=m - 1)).2 (Calls.mono hx λe w'' he=>?_)
   cases e with
   | returned v=>exact hK v w'' he
   | panicked c=>exact he.elim
   | outgrown=>exact he.elim
 | halt x w'=>exact hx.elim
theorem J9 {l:List Oper}{a:Act}{f:Fr}(h:Yp n ds a f) (hn:∀o∈l,∀d,o.dst=some d→d<n) (o:Oper):Region.wanted o (yielded l.toArray a.tmps)=Yd l f o:=Vh h.rel hn o
theorem Qb7 {Q:Exit→LN→Fr→World→Prop}{all:List Oper}(hn:∀o∈all,∀d,o.dst=some d→d<n) (hd:∀o∈all,∀c,o.op≠.defer c) (f0:Fr) :
  ∀(l:List Oper) (k:Nat) (a:Act) (f:Fr) (w:World),(∀j,l[j]?=all[k+j]?)→Yp n ds a f→(∀t,ZF all t=false→f t=f0 t) →
   XL P all (λf w=>Q .normal ds f w) l f w →
   wpOpsIn (fen ro) m P all.toArray (λe a' w'=>∃ds' f',Yp n ds' a' f'∧(∀t,ZF all t=false→f' t=f0 t)∧Q e ds' f' w') (List.range' k l.length) a w
 | [],_,a,f,w,_,hr,hk,h=>⟨ds,f,hr,hk,by unfold XL at h;exact h⟩
 | o::l,k,a,f,w,hl,hr,hk,h=>by
  have h0:all[k]?=some o:=by simpa using (hl 0).symm
  have hmem:o∈all:=List.mem_of_getElem? h0
  have ih:=λa f w=>Qb7 (Q:=Q) hn hd f0 l (k+1) a f w (λj=>by have:=hl (j+1);simpa[Nat.add_assoc,Nat.add_comm 1 j] using this)
  have next:∀v,(∀t,ZF all t=false→QY f o.dst v t=f0 t):=λv t ht=>(YL (Xf hmem ht) v).trans (hk t ht)
  simp only[List.length_cons,List.range'_succ,wpOpsIn,List.getElem?_toArray,h0]
  rw[J9 hr hn o]
  unfold XL at h
  cases hg:Yd all f o with
  | false =>
   rw[hg] at h
   exact ⟨λ_ _=>trivial,ih _ _ _ (hr.put (hn o hmem) _) (next _) h⟩
  | true =>
   rw[hg] at h
   exact Qb5 hr (hd o hmem) (λv w' hx=>ih _ _ _ (hr.put (hn o hmem) v) (next v) hx) h
theorem QK {Q:Exit→LN→Fr→World→Prop}{f:Fr}{w:World}{id:Nat}{l:List Oper}(hn:XJ n l=true) (hd:yQ l=true) (h:XL P l (λf w=>Q .normal ds f w) l f w):WG ro m P n (.region id l.toArray false) Q ds f w:=by
 intro a ha
 refine wpIn_region ?_
 have:=Qb7 (ro:=ro) (m:=m) (Yz hn) (Kh hd) f l 0 a f w (by simp) ha (λ_ _=>rfl) h
 simpa[List.range_eq_range',Y0] using this
attribute [local semireducible] XA in
theorem Uf {Q:Exit→Act→World→Prop}{all:List Oper}{C:World→Prop}{K:Fr→World→Prop}(hn:∀o∈all,∀d,o.dst=some d→d<n) (hd:∀o∈all,∀c,o.op≠.defer c) (f0:Fr)
  (hQ:∀a f w,Yp n ds a f→(∀t,ZF all t=false→f t=f0 t)→K f w→Q .normal a w) :
  ∀(k:Nat) (ls:Array Bool) (a:Act) (f:Fr) (w:World),Yp n ds a f→(∀t,ZF all t=false→f t=f0 t)→XA P all C K k ls f w→wpAnyIn (fen ro) m P .any all.toArray Q k ls a w
 | 0,_,a,f,w,hr,hk,h=>⟨h.1,hQ a f w hr hk h.2⟩
 | k+1,ls,a,f,w,hr,hk,h=>by
  refine ⟨λh0=>hQ a f w hr hk (h.1 h0),λi hi=>?_⟩
  unfold wpOpIn
  simp only[List.getElem?_toArray]
  cases ho:all[i]? with
  | none =>
   exfalso
   obtain ⟨_,o,hoo,_⟩:=mem_ready.1 hi
   simp[ho] at hoo
  | some o =>
   have hmem:o∈all:=List.mem_of_getElem? ho
   have h1:=h.2 i hi o ho
   have next:∀v,(∀t,ZF all t=false→QY f o.dst v t=f0 t):=λv t ht=>(YL (Xf hmem ht) v).trans (hk t ht)
   simp only[]
   rw[J9 hr hn o]
   cases hg:Yd all f o with
   | false =>
    rw[hg] at h1
    exact ⟨λ_ _=>trivial,Uf hn hd f0 hQ k _ _ _ _ (hr.put (hn o hmem) _) (next _) h1⟩
   | true =>
    rw[hg] at h1
    exact Qb5 hr (hd o hmem) (λv w' hx=>Uf hn hd f0 hQ k _ _ _ _ (hr.put (hn o hmem) v) (next v) hx.2) h1
theorem U7 {Q:Exit→LN→Fr→World→Prop}{f:Fr}{w:World}{all:List Oper}{id:Nat}(C:World→Prop) (pl:List (Nat×Bool)) (hm:P.follows .mixedOrders=true) (hn:XJ n all=true) (hd:yQ all=true) (hp:zD all pl=true)
  (hC:C { w with drawn:=w.drawn+1 }) (h:XP P all C (λf w=>Q .normal ds f w) pl f { w with drawn:=w.drawn+1 }):WG ro m P n (.region id all.toArray true) Q ds f w:=by
 intro a ha
 simp only[zD,Bool.and_eq_true,beq_iff_eq] at hp
 obtain ⟨⟨hs,hl⟩,hp⟩:=hp
 refine wpIn_region_any hm ?_
 have h1:=ZA hs pl _ _ _ (by simp) (.inl hC) hp h
 rw[hl] at h1
 have h2:=Uf (ro:=ro) (m:=m) (n:=n) (ds:=ds) (Q:=λe a' w'=>∃ds' f',Yp n ds' a' f'∧(∀t,ZF all t=false→f' t=f t)∧Q e ds' f' w') (Yz hn) (Kh hd) f
  (λa f' w hr hk hq=>⟨ds,f',hr,hk,hq⟩) _ _ a f _ ha (λ_ _=>rfl) h1
 simpa[Y0] using h2
end
section
variable {ro:Option Nat} {m:Nat} {P:Program} {n:Nat} {Q:Exit→LN→Fr→World→Prop} {ds:LN} {f:Fr} {w:World}
theorem VT {α:Type}{F:Fence}{c:Code}{Q:Exit→Act→World→Prop}{a:Act}{w:World}(J:α→Act→World→Prop) (μ:α→Nat) (z:α) (h₀:J z a w)
  (round:∀x a w,J x a w→c.wpIn F m P (Exit.then (λa' w'=>∃x',μ x'<μ x∧J x' a' w') Q) a w):(Code.loop c).wpIn F m P Q a w:=by
 intro b k cs hro hb hr
 have key:∀j x a w,μ x=j→J x a w →
   ∃e a' w',Q e a' w'∧ArrivesIn (Machine.fenced P F) P (lone (b.atR a (.code c::.inLoop c::k)) cs w) b k cs e a' w':=by
  intro j
  induction j using Nat.strongRecOn with
  | _ j ih =>
   intro x a w hn hJ
   obtain ⟨e,a₁,w₁,hq,harr⟩:=round x a w hJ b (.inLoop c::k) cs hro hb hr
   cases e with
   | normal =>
    obtain ⟨x',hlt,hJ'⟩:=hq
    obtain ⟨e₂,a₂,w₂,hq₂,harr₂⟩:=ih (μ x') (hn ▸ hlt) x' a₁ w₁ rfl hJ'
    exact ⟨e₂,a₂,w₂,hq₂,.of_steps (StepsIn.trans harr (.one (fenced_calm hb hr rfl) stepR_inLoop)) harr₂⟩
   | exit id=>exact ⟨_,a₁,w₁,hq,.pass (x:=.inLoop c) rfl (λ_ _=>.inl (by simp)) harr⟩
   | goto l=>exact ⟨_,a₁,w₁,hq,.pass (x:=.inLoop c) rfl (λ_ _=>.inl (by simp)) harr⟩
   | ret=>exact ⟨_,a₁,w₁,hq,.pass (x:=.inLoop c) rfl (λ_ _=>.inl (by simp)) harr⟩
   | panic ch=>exact ⟨_,a₁,w₁,hq,.pass (x:=.inLoop c) rfl (λ_ _=>.inl (by simp)) harr⟩
   | outgrown=>exact ⟨_,a₁,w₁,hq,.pass (x:=.inLoop c) rfl (λ_ _=>.inl (by simp)) harr⟩
 obtain ⟨e,a',w',hq,harr⟩:=key _ z a w rfl h₀
 exact ⟨e,a',w',hq,.of_steps (.one (fenced_calm hb hr rfl) stepR_loop) harr⟩
theorem VJ {α:Type}{c:Code}(D:List (Nat×Nat)) (S:α→List (Nat×Value)) (I:α→LN→World→Prop) (μ:α→Nat) (hD:jW D c=true) (z:α)
  (h0:Xp f (S z)) (hI:I z ds w)
  (round:∀x g ds' w',I x ds' w'→WG ro m P n c (jZ (λds'' f' w''=>∃x',μ x'<μ x∧Xp f' (S x')∧I x' ds'' w'') Q) ds' (zk (S x) (mix D f g)) w'):WG ro m P n (.loop c) Q ds f w:=by
 intro a ha
 refine VT (λ(x:α) a' w'=>∃ds' f',Yp n ds' a' f'∧(∀t,Y0 c t=false→f' t=f t)∧Xp f' (S x)∧I x ds' w') μ z ⟨ds,f,ha,λ_ _=>rfl,h0,hI⟩ ?_
 rintro x a' w' ⟨ds',f',h1,h2,h3,h4⟩
 have h5:=round x f' ds' w' h4
 rw[JD (λt ht=>h2 t (Xy ht c hD)),YK h3] at h5
 refine wpIn_mono (h5 a' h1) ?_
 rintro e a'' w'' ⟨ds'',f'',g1,g2,g3⟩
 have k1:∀t,Y0 c t=false→f'' t=f t:=λt ht=>(g2 t ht).trans (h2 t ht)
 have k2:∀t,Y0 (.loop c) t=false→f'' t=f t:=λt ht=>k1 t (by simpa[Y0] using ht)
 cases e with
 | normal=>obtain ⟨x',hm,hs,hi⟩:=g3;exact ⟨x',hm,ds'',f'',g1,k1,hs,hi⟩
 | exit id=>exact ⟨ds'',f'',g1,k2,g3⟩
 | goto l=>exact ⟨ds'',f'',g1,k2,g3⟩
 | ret=>exact ⟨ds'',f'',g1,k2,g3⟩
 | panic ch=>exact ⟨ds'',f'',g1,k2,g3⟩
 | outgrown=>exact ⟨ds'',f'',g1,k2,g3⟩
end
def rqG (P:Program) (rs:List ResultVar) (R:Value→World→Prop):Exit→LN→Fr→World→Prop
 | .normal,ds,f,w=>(∀D∈ds,w.heap[D]?=some (.deferred (some [])))∧ds.Nodup∧∃vs,∀w',Step ds w w'→Vd P f w' rs vs∧R (tup vs) w'
 | .ret,ds,f,w=>(∀D∈ds,w.heap[D]?=some (.deferred (some [])))∧ds.Nodup∧∃vs,∀w',Step ds w w'→Vd P f w' rs vs∧R (tup vs) w'
 | _,_,_,_=>False
theorem Step.putObj (w:World) (D:Nat) (o:Obj):Step [D] w (w.putObj D o):=⟨rfl,rfl,rfl,by simp,λk _ hk=>World.putObj_heap_other (λe=>hk (by simp[e]))⟩
theorem UB {F:Fence}{m:Nat}{P:Program}{fn:Func}{tmps:Array Value}{R:Ending→World→Prop}:∀(ds:LN) (w:World),(∀D∈ds,w.heap[D]?=some (.deferred (some [])))→ds.Nodup →
  (∀w',Step ds w w'→∃v,(results fn tmps).run P w'=.ok v w'∧R (.returned v) w')→LeavesInM F m P fn tmps R (coll ds) .returning w
 | [],w,_,_,h=>h w (Step.refl _ _)
 | D::ds,w,hD,hn,h=>by
  refine ⟨by simp,.inl ⟨D,_,rfl,run_takeDeferred (hD D List.mem_cons_self),?_⟩⟩
  have hs:=Step.putObj w D (.deferred none)
  have hn':=List.nodup_cons.1 hn
  refine UB ds _ (λE hE=>?_) hn'.2 (λw' hw'=>h w' ?_)
  ·rw[World.putObj_heap_other (λe=>hn'.1 (by rw[←e];exact hE))]
   exact hD E (List.mem_cons_of_mem _ hE)
  ·exact (hs.mono (λb hb=>by simp at hb;simp[hb])).trans' (hw'.mono (λb hb=>List.mem_cons_of_mem _ hb))
theorem QJ.of_G {P:Program}{g:Nat}{fn:Func}{c:Code}{args:LV}{w:World}{R:Value→World→Prop}{n:Nat}{rs:List ResultVar}(m:Nat)
  (hf:P.funcs[g]?=some fn) (hb:fn.body=some c) (hn:fn.ntmps=n) (hrs:fn.results=rs.toArray) (hl:args.length≤n)
  (h:WG none m P n c (rqG P rs R) [] (ent args) w):QJ P g args w R:=by
 unfold QJ
 refine (callsIn_wide (n:=m)).1 (callsIn_of_wp_marks hf hb trivial (wpIn_mono (h _ ?_) ?_))
 ·refine ⟨by simp[hn];omega,rfl,λt=>?_⟩
  have key:∀(l:LV) (t:Nat),l[t]?.getD undef=ent l t:=by
   intro l
   induction l with
   | nil=>intro t;rfl
   | cons v l ih=>intro t;cases t with | zero=>rfl | succ t=>simpa[ent] using ih t
  rw[←key]
  simp only[Array.getD_eq_getD_getElem?,Array.getElem?_append,List.size_toArray,List.getElem?_toArray]
  by_cases ht:t<args.length
  ·simp[ht]
  ·simp[ht,Array.getElem?_replicate];split <;> rfl
 ·rintro e a' w' ⟨ds',f',h1,_,h3⟩
  have fin:((∀D∈ds',w'.heap[D]?=some (.deferred (some [])))∧ds'.Nodup∧∃vs,∀w'',Step ds' w' w''→Vd P f' w'' rs vs∧R (tup vs) w'') →
    LeavesInM Fence.wide m P fn a'.tmps (λe w'=>match e with | .returned v=>R v w' | _=>False) a'.defers .returning w':=by
   rintro ⟨hd,hnd,vs,hv⟩
   rw[h1.defers]
   refine UB ds' w' hd hnd λw'' hw=>⟨tup vs,?_,(hv w'' hw).2⟩
   simp only[results,hrs,List.mapM_toArray,Sem.run_bind,Sem.run_map]
   rw[XB (a:={ a' with defers:=[] }) h1.rel _ (λ_=>rfl) (λ_ _=>rfl) rs vs (hv w'' hw).1]
   cases vs with
   | nil=>rfl
   | cons v vs=>cases vs with | nil=>rfl | cons u us=>rfl
  cases e with
  | normal=>exact fin h3
  | ret=>exact fin h3
  | exit id=>exact h3.elim
  | goto l=>exact h3.elim
  | panic c=>exact h3.elim
  | outgrown=>exact h3.elim
attribute [irreducible] WG
end Go.Lg
namespace Go.Proofs.YtdffckgdcegpaaaGreatDoor
open Go.Proofs.Tryz
open Go.Lg
def IxQ {α:Type}(q:α→Bool) (es:List α) (r:Value):Prop:=(r=.int .i64 (-1)∧∀m (hm:m<es.length),q (es[m]'hm)=false)∨∃(i:Nat) (hi:i<es.length),r=.int .i64 i∧q (es[i]'hi)=true∧∀m (hm:m<i),q (es[m]'(by omega))=false
theorem Qhl {g:Nat}{fn:Func}[Fu prog g fn] {cap:LV}{q:Ed→Bool}{L:LN}{w:World}{v:Value}{es:List Ed}(h:U9 L w.heap v es)
  (hk:∀(e:Ed) (w1:World),Step [] w w1→QJ prog g ([.agg (Qy e).toArray]++cap) w1 λr w'=>r=.bool (q e)∧Step [] w1 w') :
  QJ prog 157 [v,.func (.func g) #[] cap.toArray] w λr w'=>Step [] w w'∧IxQ q es r:=by
 have hle:=h.le
 refine QJ.of_W func157 rfl ntmps157 results157 (by simp) ?_
 refine Qc<|Qe<|Qf<|Qc<|Qb<|x (Qr h rfl)<|Qb<|xe ?_
 refine Qg<|QA (α:=Nat) [(4,5),(8,18)] (λz=>[(8,.int .i64 z)]) (λz w'=>z≤es.length∧Step [] w w'∧∀m (hm:m<es.length),m<z→q (es[m]'hm)=false) (λz=>es.length - z) (by rfl) 0 ⟨rfl,trivial⟩ ⟨Nat.zero_le _,Step.refl _ _,λm _ h0=>absurd h0 (Nat.not_lt_zero m)⟩ ?_
 rintro k g1 w1 ⟨hk1,hs1,hq⟩
 refine Qc<|x (QB rfl rfl)<|xe ?_
 refine Qf<|QG rfl (λh9=>?_) (λh9=>?_)
 ·refine Qx ?_
  refine Qc<|Qe ?_
  exact Ql ⟨[.int .i64 (-1)],⟨rfl,trivial⟩,hs1,.inl ⟨rfl,λm hm=>hq m hm (by omega)⟩⟩
 have hlt:k<es.length:=by omega
 refine Qi<|Qf<|Qg<|Qc<|Qb<|Qe<|Qc<|Qb<|Qb<|Qb<|xie (h.ext hs1) rfl rfl hlt λa14 h14=>x (QC h14 rfl rfl)<|xl rfl<|xc (first:=[]) (capt:=cap) rfl<|(hk (es[k]'hlt) w1 hs1).mono ?_
 rintro r2 w2 ⟨rfl,hs2⟩
 refine xe ?_
 refine Q5 rfl (λh16=>?_) (λh16=>?_)
 ·refine Qc<|Qb<|Qe ?_
  exact Ql ⟨[.int .i64 k],⟨rfl,trivial⟩,hs1.trans hs2,.inr ⟨k,hlt,rfl,h16,λm hm=>hq m (by omega) hm⟩⟩
 refine Qi<|Qw<|QO rfl rfl<|Qb<|xe ?_
 refine ⟨k+1,by omega,⟨rfl,trivial⟩,hlt,hs1.trans hs2,λm hm hmk=>?_⟩
 by_cases e:m=k
 ·subst e;exact h16
 ·exact hq m hm (by omega)
theorem Qhk {g:Nat}{fn:Func}[Fu prog g fn] {cap:LV}{q:Int→Bool}{L:LN}{w:World}{v:Value}{es:LI}(h:QL L w.heap v es)
  (hk:∀(e:Int) (w1:World),Step [] w w1→QJ prog g ([.int .i64 e]++cap) w1 λr w'=>r=.bool (q e)∧Step [] w1 w') :
  QJ prog 131 [v,.func (.func g) #[] cap.toArray] w λr w'=>Step [] w w'∧IxQ q es r:=by
 have hle:=h.le
 refine QJ.of_W func131 rfl ntmps131 results131 (by simp) ?_
 refine Qc<|Qe<|Qf<|Qc<|Qb<|x (Qr h rfl)<|Qb<|xe ?_
 refine Qg<|QA (α:=Nat) [(4,5),(8,18)] (λz=>[(8,.int .i64 z)]) (λz w'=>z≤es.length∧Step [] w w'∧∀m (hm:m<es.length),m<z→q (es[m]'hm)=false) (λz=>es.length - z) (by rfl) 0 ⟨rfl,trivial⟩ ⟨Nat.zero_le _,Step.refl _ _,λm _ h0=>absurd h0 (Nat.not_lt_zero m)⟩ ?_
 rintro k g1 w1 ⟨hk1,hs1,hq⟩
 refine Qc<|x (QB rfl rfl)<|xe ?_
 refine Qf<|QG rfl (λh9=>?_) (λh9=>?_)
 ·refine Qx ?_
  refine Qc<|Qe ?_
  exact Ql ⟨[.int .i64 (-1)],⟨rfl,trivial⟩,hs1,.inl ⟨rfl,λm hm=>hq m hm (by omega)⟩⟩
 have hlt:k<es.length:=by omega
 refine Qi<|Qf<|Qg<|Qc<|Qb<|Qe<|Qc<|Qb<|Qb<|Qb<|xii (h.ext hs1) rfl rfl hlt λa14 h14=>x (Qv h14 rfl)<|xl rfl<|xc (first:=[]) (capt:=cap) rfl<|(hk (es[k]'hlt) w1 hs1).mono ?_
 rintro r2 w2 ⟨rfl,hs2⟩
 refine xe ?_
 refine Q5 rfl (λh16=>?_) (λh16=>?_)
 ·refine Qc<|Qb<|Qe ?_
  exact Ql ⟨[.int .i64 k],⟨rfl,trivial⟩,hs1.trans hs2,.inr ⟨k,hlt,rfl,h16,λm hm=>hq m (by omega) hm⟩⟩
 refine Qi<|Qw<|QO rfl rfl<|Qb<|xe ?_
 refine ⟨k+1,by omega,⟨rfl,trivial⟩,hlt,hs1.trans hs2,λm hm hmk=>?_⟩
 by_cases e:m=k
 ·subst e;exact h16
 ·exact hq m hm (by omega)
theorem QbT {g:Nat}{fn:Func}[Fu prog g fn] {cap:LV}{q:Int→Bool}{L:LN}{w:World}{v:Value}{es:LI}(h:QL L w.heap v es)
  (hk:∀(e:Int) (w1:World),Step [] w w1→QJ prog g ([.int .i64 e]++cap) w1 λr w'=>r=.bool (q e)∧Step [] w1 w') :
  QJ prog 135 [v,.func (.func g) #[] cap.toArray] w λr w'=>r=.bool (es.any q)∧Step [] w w':=by
 refine QJ.of_W func135 rfl ntmps135 results135 (by simp) ?_
 refine Qc<|Qe<|Qc<|Qb<|Qb<|xl rfl<|xf<|(Qhk h hk).mono ?_
 rintro r1 w1 ⟨hs1,hr⟩
 refine Or.elim hr (λhr=>?_) (λhr=>?_)
 ·obtain ⟨rfl,hq⟩:=hr
  have e:es.any q=false:=by
   rw[List.any_eq_false]
   intro z hz
   obtain ⟨i,hi,rfl⟩:=List.getElem_of_mem hz
   rw[hq i hi];simp
  refine x (ZR rfl rfl)<|Qe ?_
  exact Ql ⟨[.bool false],⟨rfl,trivial⟩,by rw[e];rfl,hs1⟩
 ·obtain ⟨i,hi,rfl,h1,_⟩:=hr
  have e:es.any q=true:=List.any_eq_true.2 ⟨_,List.getElem_mem hi,h1⟩
  have e2:decide ((0:Int)≤(i:Int))=true:=by simp
  refine x (ZR rfl rfl)<|Qe ?_
  exact Ql ⟨[.bool (decide ((0:Int)≤(i:Int)))],⟨rfl,trivial⟩,by rw[e,e2];rfl,hs1⟩
theorem Qbp (es:List Ed) (s v:Int):nxt es s v=nxt (ZJ es s) s v:=by
 induction es with
 | nil=>rfl
 | cons e es ih =>
  unfold ZJ at *
  rw[List.filter_cons]
  by_cases h:e.1=s
  ·rw[if_pos (by simpa using h),nxt,nxt,ih]
  ·rw[if_neg (by simpa using h),nxt,if_neg (λc=>h c.1),ih]
theorem Qaj:∀(l:List Ed) (s v:Int) (i:Nat) (hi:i<l.length),(∀e∈l,e.1=s)→(l[i]'hi).2.1=v→(∀m (hm:m<i),(l[m]'(by omega)).2.1≠v)→nxt l s v=(l[i]'hi).2.2
 | e::l,s,v,0,_,hs,hv,_=>by rw[nxt,if_pos ⟨hs e List.mem_cons_self,hv⟩];rfl
 | e::l,s,v,i+1,hi,hs,hv,hm=>by
  rw[nxt,if_neg (λc=>hm 0 (by omega) c.2)]
  exact Qaj l s v i (by simpa using hi) (λe he=>hs e (List.mem_cons_of_mem _ he)) hv (λm hm'=>hm (m+1) (by omega))
theorem Qen:∀(l:List Ed) (s v:Int),(∀e∈l,e.2.1≠v)→nxt l s v=-1
 | [],_,_,_=>rfl
 | e::l,s,v,h=>by rw[nxt,if_neg (λc=>h e List.mem_cons_self c.2)];exact Qen l s v (λe he=>h e (List.mem_cons_of_mem _ he))
theorem Qev {b T:Nat}{n:Int}(e:Ed) (w:World) (hB:Q2 w.heap b T [.int .i64 n]) :
  QJ prog 158 ([.agg (Qy e).toArray]++[.pointer (some ⟨b,0,none⟩)]) w λr w'=>r=.bool (decide (e.2.1=n))∧Step [] w w':=by
 refine QJ.of_W func158 rfl ntmps158 results158 (by simp) ?_
 refine Qc<|xl rfl<|QQ (us:=Qy e) rfl λb2 w1 hs1 hb2 hB2=>Qe<|Qc<|x (Qa rfl)<|x (Qd hB2 rfl rfl)<|x (Qd (hB.ext hs1) rfl rfl)<|x (Q7 rfl rfl)<|Qe ?_
 exact Ql ⟨[_],⟨rfl,trivial⟩,rfl,hs1⟩
theorem jK {L:LN}{w:World}{va vm ve:Value}{st:Int}{a:QV}(h:U9 L w.heap ve a.ed) (ho:Zs a) (s v:Int) (hs0:0≤s) (hs1:s<a.st) :
  QJ prog 78 [.agg #[va,.int .i64 st,vm,ve],.int .i64 s,.int .i64 v] w λr w'=>r=.int .i64 (nxt a.ed s v)∧Step [] w w':=by
 have hst:=ho.st1
 refine QJ.of_W func78 rfl ntmps78 results78 (by simp) ?_
 refine Qc<|xl rfl<|QQ (us:=[va,.int .i64 st,vm,ve]) rfl λb3 w1 hs1 hb3 hB3=>xl rfl<|QQ (us:=[.int .i64 v]) rfl λb5 w2 hs2 hb5 hB5=>Qe<|Qc<|x (Qq (hB3.ext hs2) rfl rfl)<|Qb<|xl rfl<|xf<|(zE ((h.ext hs1).ext hs2) ho.eds (λe he=>⟨(ho.ed e he).1,by have:=(ho.ed e he).2.1;omega⟩) s hs0 (by omega)).mono ?_
 rintro vo w3 ⟨hs3,hE⟩
 refine Qe ?_
 have hall:∀e∈ZJ a.ed s,e.1=s:=λe he=>(ZL he).2
 rw[Qbp]
 refine Qc<|Qb<|x (Zr (l:=[]) (l':=[.tmp 5]))<|xl rfl<|xf<|(Qhl (q:=λe=>decide (e.2.1=v)) (cap:=[.pointer (some ⟨b5,0,none⟩)]) hE (λe w4 hs4=>Qev e w4 ((hB5.ext hs3).ext hs4))).mono ?_
 rintro r4 w4 ⟨hs4,hr⟩
 have hW:=((hs1.trans hs2).trans hs3).trans hs4
 refine Or.elim hr (λhr=>?_) (λhr=>?_)
 ·obtain ⟨rfl,hq⟩:=hr
  have e1:nxt (ZJ a.ed s) s v=-1:=Qen _ _ _ λe he=>by
   obtain ⟨i,hi,rfl⟩:=List.getElem_of_mem he
   simpa using hq i hi
  rw[e1]
  refine Qe<|Qf<|Qc<|Qb<|x (QB rfl rfl)<|xe ?_
  refine U1 rfl ?_
  refine Qc<|Qe ?_
  exact Ql ⟨[.int .i64 (-1)],⟨rfl,trivial⟩,rfl,hW⟩
 ·obtain ⟨i,hi,rfl,h1,h2⟩:=hr
  have e1:nxt (ZJ a.ed s) s v=((ZJ a.ed s)[i]'hi).2.2:=Qaj _ s v i hi hall (by simpa using h1) (λm hm=>by simpa using h2 m hm)
  rw[e1]
  refine Qe<|Qf<|Qc<|Qb<|x (QB rfl rfl)<|xe ?_
  refine Q4 rfl (λh16=>absurd h16 (by omega)) (λh16=>?_)
  refine Qi<|Qc<|Qb<|Qb<|xie (hE.ext hs4) rfl rfl hi λa19 h19=>x (Zc rfl)<|x (Qv (h19.fld 2 _ rfl) rfl)<|Qe ?_
  exact Ql ⟨[_],⟨rfl,trivial⟩,rfl,hW⟩
def flw (a:QV):Int→LI→Int×Nat
 | s,[]=>(s,0)
 | s,v::u=>if nxt a.ed s v<0 then (s,0) else ((flw a (nxt a.ed s v) u).1,(flw a (nxt a.ed s v) u).2+1)
theorem QiR {a:QV}(ho:Zs a) {s v:Int}(h:¬nxt a.ed s v<0):nxt a.ed s v<a.st:=(ho.ed _ (zI (by omega))).2.2.2.2
theorem QcP {L L':LN}{w:World}{va vm ve vw:Value}{st:Int}{a:QV}{u:LI}(h:U9 L w.heap ve a.ed) (hw:QL L' w.heap vw u) (ho:Zs a) (s:Int) (hs0:0≤s) (hs1:s<a.st) :
  QJ prog 279 [.agg #[va,.int .i64 st,vm,ve],.int .i64 s,vw] w λr w'=>r=.tuple #[.int .i64 (flw a s u).1,.int .i64 (flw a s u).2]∧Step [] w w':=by
 have hle:=hw.le
 refine QJ.of_W func279 rfl ntmps279 results279 (by simp) ?_
 refine Qc<|xl rfl<|QQ (us:=[va,.int .i64 st,vm,ve]) rfl λb3 w1 hs1 hb3 hB3=>x Qh<|Qe<|Qf<|Qc<|Qb<|x (Qr hw rfl)<|Qb<|xe ?_
 refine Qg<|QA (α:=Nat×Int) [(1,1),(6,10),(13,27)] (λz=>[(1,.int .i64 z.2),(13,.int .i64 z.1)]) (λz w'=>z.1≤u.length∧0≤z.2∧z.2<a.st∧Step [] w1 w'∧flw a s u=((flw a z.2 (u.drop z.1)).1,(flw a z.2 (u.drop z.1)).2+z.1)) (λz=>u.length - z.1) (by rfl) (0,s) ⟨rfl,rfl,trivial⟩ ⟨Nat.zero_le _,hs0,by assumption,Step.refl _ _,by simp⟩ ?_
 rintro ⟨k,t⟩ g w2 ⟨hk,ht0,ht1,hs2,hf⟩
 simp only[] at hk ht0 ht1 hf
 have hW2:=hs1.trans hs2
 refine Qc<|x (QB rfl rfl)<|xe ?_
 refine Qf<|QG rfl (λh14=>?_) (λh14=>?_)
 ·refine Qx ?_
  refine Qc<|Qb<|Qb<|x (Qr hw rfl)<|x Qh<|Qe ?_
  rw[List.drop_of_length_le (by omega)] at hf
  have hk2:k=u.length:=by have h15:¬(k:Int)<(u.length:Int):=h14;omega
  refine Ql ⟨[.int .i64 t,.int .i64 u.length],⟨rfl,rfl,trivial⟩,?_,hW2⟩
  rw[hf,hk2]
  simp[flw,tup]
 have hlt:k<u.length:=by omega
 rw[QX hlt,flw] at hf
 refine Qi<|Qf<|Qg<|Qc<|Qb<|xii (hw.ext hW2) rfl rfl hlt λa16 h16=>x (Qv h16 rfl)<|x Qh<|Qe<|Qc<|x (Qq (hB3.ext hs2) rfl rfl)<|Qb<|Qb<|xl rfl<|xf<|(jK (h.ext hW2) ho t (u[k]'hlt) ht0 ht1).mono ?_
 rintro r3 w3 ⟨rfl,hs3⟩
 refine Qe<|Qf<|Qc<|Qb<|x (QB rfl rfl)<|xe ?_
 refine Q4 rfl (λh23=>?_) (λh23=>?_)
 ·rw[if_pos h23] at hf
  refine Qc<|Qb<|Qb<|x Qh<|Qe<|Ql ⟨[.int .i64 t,.int .i64 k],⟨rfl,rfl,trivial⟩,?_,hW2.trans hs3⟩
  rw[hf]
  simp[tup]
 rw[if_neg h23] at hf
 have hn:=QiR ho h23
 refine Qi<|Qw<|Qb<|Qe<|Qw<|QO rfl rfl<|Qb<|xe ?_
 refine ⟨(k+1,nxt a.ed t (u[k]'hlt)),by simp only[];omega,⟨rfl,rfl,trivial⟩,hlt,by simp only[];omega,hn,hs2.trans hs3,?_⟩
 simp only[]
 rw[hf]
 simp;omega
def cks (a:QV) (s:Int):Int:=if Jh a≠0 then Jh a else if s<0∨a.st≤s then 2 else 0
theorem XR {L:LN}{w:World}{va vm ve:Value}{a:QV}(h:Zt L w.heap va vm ve a) (s:Int) :
  QJ prog 76 [.agg #[va,.int .i64 a.st,vm,ve],.int .i64 s] w λr w'=>r=.int .i64 (cks a s)∧Step [] w w':=by
 refine QJ.of_W func76 rfl ntmps76 results76 (by simp) ?_
 refine Qc<|xl rfl<|QQ (us:=[va,.int .i64 a.st,vm,ve]) rfl λb2 w1 hs1 hb2 hB2=>Qe<|Qf<|Qc<|x (Qq hB2 rfl rfl)<|xl rfl<|xf<|(Xo (h.ext hs1)).mono ?_
 rintro r2 w2 ⟨rfl,hs2⟩
 refine Qe ?_
 unfold cks
 have hs12:=hs1.trans hs2
 refine Qc<|Qb<|x (Q8 rfl rfl)<|xe ?_
 refine Q4 rfl (λh9=>?_) (λh9=>?_)
 ·refine Qc<|Qb<|Qe ?_
  exact Ql ⟨[_],⟨rfl,trivial⟩,by rw[if_pos h9];rfl,hs12⟩
 rw[if_neg h9]
 refine Qi<|Qf<|QU (α:=Unit) [(11,18)] (λz=>[(18,.bool (decide (s<0∨a.st≤s)))]) (λz w'=>w'=w2) (by rfl) ?_ ?_
 ·refine Qw<|Qb<|xb (QB rfl rfl) (λh12=>?_) (λh12=>?_)
  ·refine Qb<|xs rfl<|xs rfl<|xs rfl<|xs rfl<|x (Qm rfl)<|xe ?_
   exact ⟨(),⟨by rw[decide_eq_true (Or.inl h12)];rfl,trivial⟩,rfl⟩
  refine Qb<|Qb<|x (Qa rfl)<|x (Qd (hB2.ext hs2) rfl rfl)<|x (ZR rfl rfl)<|x (Qm rfl)<|xe ?_
  exact ⟨(),⟨by show Value.bool (decide (a.st≤s))=_;simp[h12],trivial⟩,rfl⟩
 rintro z g w3 rfl
 refine Q4 rfl (λh18=>?_) (λh18=>?_)
 ·refine Qc<|Qe ?_
  exact Ql ⟨[_],⟨rfl,trivial⟩,by rw[if_pos h18];rfl,hs12⟩
 refine Qi<|Qc<|Qe ?_
 exact Ql ⟨[_],⟨rfl,trivial⟩,by rw[if_neg h18];rfl,hs12⟩
theorem jv {a:QV}{s:Int}(h:cks a s=0):Zs a∧0≤s∧s<a.st:=by
 unfold cks at h
 split at h
 ·rename_i h1;exact absurd h h1
 ·rename_i h1
  split at h
  ·cases h
  ·rename_i h2;exact ⟨(ZE a).1 (Decidable.not_not.1 h1),by omega,by omega⟩
theorem QgI {L:LN}{b T:Nat}{va:Value}{al:LI}{us:LV}(e:Int) (w:World) (hB:Q2 w.heap b T (va::us)) (hA:QL L w.heap va al) :
  QJ prog 278 ([.int .i64 e]++[.pointer (some ⟨b,0,none⟩)]) w λr w'=>r=.bool (decide (e∉al))∧Step [] w w':=by
 refine QJ.of_W func278 rfl ntmps278 results278 (by simp) ?_
 refine Qc<|Qe<|Qc<|x (Qa rfl)<|x (Qd hB rfl rfl)<|Qb<|xl rfl<|xf<|(ZI hA e).mono ?_
 rintro r1 w1 ⟨rfl,rfl⟩
 refine x (Zn rfl)<|Qe<|Ql ⟨[_],⟨rfl,trivial⟩,?_,Step.refl _ _⟩
 show Value.bool (!decide (e∈al))=_
 rw[decide_not]
def QgH (a:QV) (s:Int) (u:LI):Int:=if cks a s≠0 then cks a s else if (u.any λe=>decide (e∉a.al))=true then 9 else 0
theorem QjN {L L':LN}{w:World}{va vm ve vw:Value}{a:QV}{u:LI}(h:Zt L w.heap va vm ve a) (hw:QL L' w.heap vw u) (s:Int) :
  QJ prog 248 [.agg #[va,.int .i64 a.st,vm,ve],.int .i64 s,vw] w λr w'=>Step [] w w'∧r=if QgH a s u≠0 then .tuple #[.int .i64 0,.int .i64 0,.int .i64 (QgH a s u)] else .tuple #[.int .i64 (flw a s u).1,.int .i64 (flw a s u).2,.int .i64 0]:=by
 refine QJ.of_W func248 rfl ntmps248 results248 (by simp) ?_
 refine Qc<|xl rfl<|QQ (us:=[va,.int .i64 a.st,vm,ve]) rfl λb3 w1 hs1 hb3 hB3=>x Qh<|x Qh<|Qe<|Qf<|Qc<|x (Qq hB3 rfl rfl)<|Qb<|xl rfl<|xf<|(XR (h.ext hs1) s).mono ?_
 rintro r2 w2 ⟨rfl,hs2⟩
 refine Qe ?_
 have hs12:=hs1.trans hs2
 unfold QgH
 refine Qc<|Qb<|x (Q8 rfl rfl)<|xe ?_
 refine Q4 rfl (λh13=>?_) (λh13=>?_)
 ·refine Qc<|Qb<|x Qh<|x Qh<|Qe ?_
  exact Ql ⟨[_,_,_],⟨rfl,rfl,rfl,trivial⟩,hs12,by rw[if_pos h13,if_pos h13];rfl⟩
 have hc:cks a s=0:=Decidable.not_not.1 h13
 obtain ⟨ho,h0,h1⟩:=jv hc
 rw[if_neg h13]
 refine Qi<|Qf<|Qc<|Qb<|x (Zr (l:=[]) (l':=[.tmp 3]))<|xl rfl<|xf<|(QbT (q:=λe=>decide (e∉a.al)) (cap:=[.pointer (some ⟨b3,0,none⟩)]) (hw.ext hs12) (λe w4 hs4=>QgI e w4 ((hB3.ext hs2).ext hs4) ((h.al.ext hs12).ext hs4))).mono ?_
 rintro r3 w3 ⟨rfl,hs3⟩
 refine xe ?_
 have hs13:=hs12.trans hs3
 refine Q5 rfl (λh17=>?_) (λh17=>?_)
 ·rw[if_pos h17]
  refine Qc<|x Qh<|x Qh<|Qe ?_
  exact Ql ⟨[_,_,_],⟨rfl,rfl,rfl,trivial⟩,hs13,by rw[if_pos (by decide)];rfl⟩
 rw[if_neg (by rw[h17];simp)]
 refine Qi<|Qc<|x (Qq ((hB3.ext hs2).ext hs3) rfl rfl)<|Qb<|Qb<|xl rfl<|xf<|(QcP (h.ed.ext hs13) (hw.ext hs13) ho s h0 h1).mono ?_
 rintro r4 w4 ⟨rfl,hs4⟩
 refine Qb<|x (Qp rfl rfl) <|
  x (Qp rfl rfl)<|x Qh<|Qe<|Qc<|Qb<|Qb<|x Qh<|x Qh<|Qe ?_
 exact Ql ⟨[_,_,_],⟨rfl,rfl,rfl,trivial⟩,hs13.trans hs4,rfl⟩
def enb (a:QV) (s:Int):LI:=(ZJ a.ed s).map (·.2.1)
theorem Qfu {l:List Ed}{k:Nat}(h:k<l.length):(l.take (k+1)).map (·.2.1)=(l.take k).map (·.2.1)++[(l[k]'h).2.1]:=by
 rw[List.take_add_one,List.getElem?_eq_getElem h,List.map_append];rfl
theorem Qa0 {L:LN}{w:World}{va vm ve:Value}{a:QV}(h:Zt L w.heap va vm ve a) (s:Int) :
  QJ prog 29 [.agg #[va,.int .i64 a.st,vm,ve],.int .i64 s] w λr w'=>Step [] w w'∧∃v,r=.tuple #[v,.int .i64 (cks a s)]∧(cks a s≠0→v=Zb)∧(cks a s=0→Qu 3 w.heap.size w' v (enb a s)):=by
 refine QJ.of_W func29 rfl ntmps29 results29 (by simp) ?_
 refine Qc<|xl rfl<|QQ (us:=[va,.int .i64 a.st,vm,ve]) rfl λb2 w1 hs1 hb2 hB2=>x Qh<|Qe<|Qf<|Qc<|x (Qq hB2 rfl rfl)<|Qb<|xl rfl<|xf<|(XR (h.ext hs1) s).mono ?_
 rintro r2 w2 ⟨rfl,hs2⟩
 refine Qe ?_
 have hs12:=hs1.trans hs2
 refine Qc<|Qb<|x (Q8 rfl rfl)<|xe ?_
 refine Q4 rfl (λh14=>?_) (λh14=>?_)
 ·refine Qc<|Qb<|x Qh<|Qe ?_
  exact Ql ⟨[Zb,_],⟨rfl,rfl,trivial⟩,hs12,Zb,rfl,λ_=>rfl,λe=>absurd e h14⟩
 have hc:cks a s=0:=Decidable.not_not.1 h14
 obtain ⟨ho,h0,h1⟩:=jv hc
 have hst:=ho.st1
 rw[hc]
 refine Qi<|Qc<|Qe<|Qf<|Qc<|x (Qq (hB2.ext hs2) rfl rfl)<|Qb<|xl rfl<|xf<|(zE (h.ed.ext hs12) ho.eds (λe he=>⟨(ho.ed e he).1,by have:=(ho.ed e he).2.1;omega⟩) s h0 (by omega)).mono ?_
 rintro vo w3 ⟨hs3,hE⟩
 refine x (Qr hE rfl)<|Qb<|xe ?_
 have hW3:=hs12.trans hs3
 have hz3:=hW3.size
 have hlen:=JB a.ed s
 have hel:=ho.ed_le
 refine Zd (ZJ a.ed s) λos hos=>?_
 rw[hos] at hE hlen
 refine Qg<|QA (α:=Nat×Value) [(7,7),(9,9),(20,29)] (λz=>[(7,z.2),(20,.int .i64 z.1)]) (λz w'=>z.1≤os.length∧Step [] w3 w'∧Qu 3 w3.heap.size w' z.2 ((os.take z.1).map (·.2.1))) (λz=>os.length - z.1) (by rfl) (0,nS) ⟨rfl,by rw[hos];rfl,trivial⟩ ⟨Nat.zero_le _,Step.refl _ _,QP _ _ _ _⟩ ?_
 rintro ⟨k,v⟩ g w4 ⟨hk,hs4,ho4⟩
 simp only[] at hk ho4
 have hz4:=hs4.size
 refine Qc<|x (QB rfl rfl)<|xe ?_
 refine Qf<|QG rfl (λh21=>?_) (λh21=>?_)
 ·refine Qx ?_
  refine Qc<|Qb<|x Qh<|Qe ?_
  rw[List.take_of_length_le (by rw[hos] at h21;omega)] at ho4
  refine Ql ⟨[v,_],⟨rfl,rfl,trivial⟩,hW3.trans hs4,v,rfl,λe=>absurd rfl e,λ_=>?_⟩
  unfold enb
  rw[hos];exact Zo ho4 hz3
 have hlt:k<os.length:=by rw[hos] at h21;omega
 refine Qi<|Qf<|Qg<|Qc<|xie (hE.ext hs4) rfl rfl hlt λa22 h22=>x (QC h22 rfl rfl)<|xl rfl<|Qt (us:=[.int .i64 0,.int .i64 0,.int .i64 0]) rfl λb9 w5 hs5 hb9 hB9=>xl rfl<|Qn (us:=Qy (os[k]'hlt)) hB9 rfl rfl rfl rfl ⟨rfl,rfl,rfl,trivial⟩ λw6 hs6 hB96 =>
  xe ?_
 have hs46:Step [] w4 w6:=hs5.then1 hs6 hb9
 have ho6:=Qs ho4 hs46
 refine Qw<|Qb<|x (Qa rfl)<|x (Qd hB96 rfl rfl)<|xl rfl<|QD (us:=[[.int .i64 (os[k]'hlt).2.1]]) rfl rfl (by decide) (by simp) ⟨rfl,rfl,trivial⟩ λb27 w7 hs7 hb27 hB27=>?_
 have ho7:=Qs ho6 hs7
 have hz7:=(hs46.trans hs7).size
 have htl:((os.take k).map (·.2.1)).length≤131072:=by simp;omega
 refine xl rfl<|QZ (news:=[.int .i64 (os[k]'hlt).2.1]) (L:=[]) ho7 rfl rfl rfl (hB27.at (by simp)) (by simp[Value.oneCell']) (by omega) (by omega) λv8 w8 ho8 hs8 hn8=>Qe ?_
 have hge:=Qk ho4
 refine Qw<|QO rfl rfl<|Qb<|xe ?_
 refine ⟨(k+1,v8),by simp only[];omega,⟨rfl,rfl,trivial⟩,hlt,((hs4.trans hs46).trans hs7).then hs8 (λb hb=>.inr (hge b hb).1),?_⟩
 simp only[]
 rw[Qfu hlt]
 exact Qu.snoc ho8
theorem QgM {L:LN}{w:World}{v:Value}{l:LI}(h:QL L w.heap v l) (n:Int) :
  QJ prog 241 [v,.int .i64 n] w λr w'=>r=.int .i64 (Xt n none l)∧w'=w:=by
 have hle:=h.le
 refine QJ.of_W func241 rfl ntmps241 results241 (by simp) ?_
 refine Qc<|Qe<|Qf<|Qc<|Qb<|x (Qr h rfl)<|Qb<|xe ?_
 refine Qg<|QA (α:=Nat) [(4,6),(9,34)] (λk=>[(9,.int .i64 k)]) (λk w'=>w'=w∧k≤l.length∧Xt n (pv l k) (l.drop k)=Xt n none l) (λk=>l.length - k) (by rfl) 0 ⟨rfl,trivial⟩ ⟨rfl,Nat.zero_le _,rfl⟩ ?_
 rintro k g w1 ⟨rfl,hk,hm⟩
 refine Qc<|x (QB rfl rfl)<|xe ?_
 refine Qf<|QG rfl (λh10=>?_) (λh10=>?_)
 ·refine Qx ?_
  refine Qc<|Qe<|Ql ⟨[.int .i64 0],⟨rfl,trivial⟩,?_,rfl⟩
  rw[←hm,List.drop_of_length_le (by omega)];rfl
 have hlt:k<l.length:=by omega
 have hd:=QX hlt
 rw[hd,Xt] at hm
 refine Qi<|Qf<|Qg<|Qc<|Qb<|xii h rfl rfl hlt λa12 h12=>x (Qv h12 rfl)<|x Qh<|Qe<|Qg<|QU (α:=Bool) [(14,21)] (λz=>[(14,.bool z)]) (λz w'=>w'=w1∧z=decide (l[k]<0∨n≤l[k])) (by rfl) ?_ ?_
 ·refine Qw<|Qb<|xb (QB rfl rfl) (λh16=>?_) (λh16=>?_)
  ·refine Qb<|xs rfl<|xs rfl<|xs rfl<|x (Qm rfl)<|Qe ?_
   exact ⟨true,⟨rfl,trivial⟩,rfl,by simp[h16]⟩
  refine Qb<|Qb<|Qb<|x (ZR rfl rfl)<|x (Qm rfl)<|Qe ?_
  exact ⟨_,⟨rfl,trivial⟩,rfl,by simp[h16]⟩
 rintro z g w2 ⟨rfl,rfl⟩
 refine Q4 rfl (λh14=>?_) (λh14=>?_)
 ·refine Qc<|Qe<|Ql ⟨[.int .i64 2],⟨rfl,trivial⟩,?_,rfl⟩
  rw[←hm,if_pos h14];rfl
 rw[if_neg h14] at hm
 refine QU (α:=Bool) [(22,33)] (λz=>[(22,.bool z)]) (λz w'=>w'=w2∧z=UC (pv l k) l[k]) (by rfl) ?_ ?_
 ·refine Qw<|Qb<|xb (ZO rfl rfl) (λh24=>?_) (λh24=>?_)
  ·have hk1:((k:Int) - 1)=((k - 1:Nat):Int):=by omega
   refine Qb<|Qb<|Qb<|Qb<|x (Jp rfl rfl ⟨by omega,by omega⟩)<|xii (i:=k - 1) h rfl (by show Value.int _ ((k:Int) - 1)=_;rw[hk1]) (by omega) λa30 h30=>x (Qv h30 rfl)<|x (XX rfl rfl)<|x (Qm rfl)<|Qe<|⟨_,⟨rfl,trivial⟩,rfl,?_⟩
   have:pv l k=some l[k - 1]:=by
    have h0:k≠0:=by omega
    simp[pv,h0,show k - 1<l.length by omega]
   rw[this];rfl
  refine Qb<|xs rfl<|xs rfl<|xs rfl<|xs rfl<|xs rfl<|xs rfl<|xs rfl<|x (Qm rfl)<|Qe ?_
  have h0:k=0:=by omega
  exact ⟨false,⟨rfl,trivial⟩,rfl,by simp[pv,h0,UC]⟩
 rintro z g w3 ⟨rfl,rfl⟩
 refine Q5 rfl (λh22=>?_) (λh22=>?_)
 ·refine Qc<|Qe<|Ql ⟨[.int .i64 5],⟨rfl,trivial⟩,?_,rfl⟩
  rw[←hm,if_pos h22];rfl
 rw[if_neg (by simp[h22])] at hm
 refine Qi<|Qw<|QO rfl rfl<|Qb<|xe ?_
 exact ⟨k+1,by omega,⟨rfl,trivial⟩,rfl,by omega,by rw[Jc hlt];exact hm⟩
theorem jU {L:LN}{w:World}{v:Value}{l:LI}(h:QL L w.heap v l) (n:Int) :
  QJ prog 80 [v,.int .i64 n] w λr w'=>r=.int .i64 (Xt n none l)∧w'=w:=by
 have hle:=h.le
 refine QJ.of_W func80 rfl ntmps80 results80 (by simp) ?_
 refine Qc<|Qe<|Qf<|Qc<|Qb<|x (Qr h rfl)<|Qb<|xe ?_
 refine Qg<|QA (α:=Nat) [(4,6),(9,32)] (λk=>[(9,.int .i64 k)]) (λk w'=>w'=w∧k≤l.length∧Xt n (pv l k) (l.drop k)=Xt n none l) (λk=>l.length - k) (by rfl) 0 ⟨rfl,trivial⟩ ⟨rfl,Nat.zero_le _,rfl⟩ ?_
 rintro k g w1 ⟨rfl,hk,hm⟩
 refine Qc<|x (QB rfl rfl)<|xe ?_
 refine Qf<|QG rfl (λh10=>?_) (λh10=>?_)
 ·refine Qx ?_
  refine Qc<|Qe<|Ql ⟨[.int .i64 0],⟨rfl,trivial⟩,?_,rfl⟩
  rw[←hm,List.drop_of_length_le (by omega)];rfl
 have hlt:k<l.length:=by omega
 have hd:=QX hlt
 rw[hd,Xt] at hm
 refine Qi<|Qf<|Qg<|Qc<|Qb<|xii h rfl rfl hlt λa12 h12=>x (Qv h12 rfl)<|x Qh<|Qe<|Qf<|QU (α:=Bool) [(14,20)] (λz=>[(20,.bool z)]) (λz w'=>w'=w1∧z=decide (l[k]<0∨n≤l[k])) (by rfl) ?_ ?_
 ·refine Qw<|Qb<|xb (QB rfl rfl) (λh16=>?_) (λh16=>?_)
  ·refine Qb<|xs rfl<|xs rfl<|xs rfl<|x (Qm rfl)<|xe ?_
   exact ⟨true,⟨rfl,trivial⟩,rfl,by simp[h16]⟩
  refine Qb<|Qb<|Qb<|x (ZR rfl rfl)<|x (Qm rfl)<|xe ?_
  exact ⟨_,⟨rfl,trivial⟩,rfl,by simp[h16]⟩
 rintro z g w2 ⟨rfl,rfl⟩
 refine Q4 rfl (λh14=>?_) (λh14=>?_)
 ·refine Qc<|Qe<|Ql ⟨[.int .i64 2],⟨rfl,trivial⟩,?_,rfl⟩
  rw[←hm,if_pos h14];rfl
 rw[if_neg h14] at hm
 refine Qi<|QU (α:=Bool) [(21,31)] (λz=>[(31,.bool z)]) (λz w'=>w'=w2∧z=UC (pv l k) l[k]) (by rfl) ?_ ?_
 ·refine Qw<|Qb<|xb (ZO rfl rfl) (λh24=>?_) (λh24=>?_)
  ·have hk1:((k:Int) - 1)=((k - 1:Nat):Int):=by omega
   refine Qb<|Qb<|Qb<|Qb<|x (Jp rfl rfl ⟨by omega,by omega⟩)<|xii (i:=k - 1) h rfl (by show Value.int _ ((k:Int) - 1)=_;rw[hk1]) (by omega) λa30 h30=>x (Qv h30 rfl)<|x (XX rfl rfl)<|x (Qm rfl)<|xe ?_
   refine ⟨_,⟨rfl,trivial⟩,rfl,?_⟩
   have:pv l k=some l[k - 1]:=by
    have h0:k≠0:=by omega
    simp[pv,h0,show k - 1<l.length by omega]
   rw[this];rfl
  refine Qb<|xs rfl<|xs rfl<|xs rfl<|xs rfl<|xs rfl<|xs rfl<|xs rfl<|x (Qm rfl)<|xe ?_
  have h0:k=0:=by omega
  exact ⟨false,⟨rfl,trivial⟩,rfl,by simp[pv,h0,UC]⟩
 rintro z g w3 ⟨rfl,rfl⟩
 refine Q5 rfl (λh22=>?_) (λh22=>?_)
 ·refine Qc<|Qe<|Ql ⟨[.int .i64 5],⟨rfl,trivial⟩,?_,rfl⟩
  rw[←hm,if_pos h22];rfl
 rw[if_neg (by simp[h22])] at hm
 refine Qi<|Qw<|QO rfl rfl<|Qb<|xe ?_
 exact ⟨k+1,by omega,⟨rfl,trivial⟩,rfl,by omega,by rw[Jc hlt];exact hm⟩
end Go.Proofs.YtdffckgdcegpaaaGreatDoor
namespace Go.Lg
open Go.RowKit
def upY (P:Program) (m:Nat) (dst:Option Nat) (f:Fr) (K:Fr→World→Prop):Result Next→Prop
 | .ok (.value v) w'=>K (QY f dst v) w'
 | .ok .skip w'=>K (QY f dst undef) w'
 | .ok (.enter g args) w'=>Calls P g args w' λe w''=>match e with | .returned v=>K (QY f dst v) w'' | _=>False
 | .ok (.round l fn tmps assign body) w'=>RoundIn (fen none) (m - 1) P l fn tmps assign body w' λe w''=>match e with | .returned v=>K (QY f dst v) w'' | _=>False
 | _=>False
def XOY (P:Program) (m:Nat) (o:Oper) (f:Fr) (w:World) (K:Fr→World→Prop):Prop:=upY P m o.dst f K ((execOp (ev f) o).run P w)
def Xu (P:Program) (m:Nat) (ops:List Oper) (K:Fr→World→Prop):List Oper→Fr→World→Prop
 | [],f,w=>K f w
 | o::l,f,w=>bif Yd ops f o then XOY P m o f w (Xu P m ops K l) else Xu P m ops K l (QY f o.dst undef) w
section
variable {m:Nat} {P:Program} {n:Nat} {ds:LN}
theorem XOY.of_XO {o:Oper}{f:Fr}{w:World}{K K':Fr→World→Prop}(hK:∀f w,K f w→K' f w) (h:XO P o f w K):XOY P m o f w K':=by
 unfold XO at h;unfold XOY
 generalize (execOp (ev f) o).run P w=r at h
 cases r with
 | ok nx w' =>
  cases nx <;> simp only[upF] at h <;> simp only[upY]
  case value v=>exact hK _ _ h
  case skip=>exact hK _ _ h
  case enter g args =>
   refine Calls.mono h λe w'' he=>?_
   cases e with
   | returned v=>exact hK _ _ he
   | panicked c=>exact he.elim
   | outgrown=>exact he.elim
 | halt x w'=>exact h.elim
theorem Xu.pre {ops:List Oper}{K:Fr→World→Prop}{l2:List Oper}:∀(l1:List Oper) (f:Fr) (w:World),XL P ops (λf w=>Xu P m ops K l2 f w) l1 f w→Xu P m ops K (l1++l2) f w
 | [],f,w,h=>by unfold XL at h;exact h
 | o::l1,f,w,h=>by
  unfold XL at h
  show (bif Yd ops f o then XOY P m o f w (Xu P m ops K (l1++l2)) else Xu P m ops K (l1++l2) (QY f o.dst undef) w)
  cases hg:Yd ops f o with
  | false=>rw[hg] at h;exact Xu.pre l1 _ _ h
  | true=>rw[hg] at h;exact XOY.of_XO (λf w h=>Xu.pre l1 f w h) h
theorem Xu.pre2 {ops:List Oper}{K:Fr→World→Prop}{o1 o2:Oper}{l2:List Oper}{f:Fr}{w:World}(h:XL P ops (λf w=>Xu P m ops K l2 f w) [o1,o2] f w):Xu P m ops K (o1::o2::l2) f w:=Xu.pre [o1,o2] f w h
theorem Xu.of_XL {ops:List Oper}{K:Fr→World→Prop}{l:List Oper}{f:Fr}{w:World}(h:XL P ops K l f w):Xu P m ops K l f w:=by
 have:=Xu.pre (m:=m) (l2:=[]) l f w h
 rwa [List.append_nil] at this
theorem QfW {o:Oper}{a:Act}{f:Fr}{w:World}{K:Fr→World→Prop}{K':Act→World→Prop}{Q:Exit→Act→World→Prop}(h:Yp n ds a f)
  (hK:∀v w',K (QY f o.dst v) w'→K' (a.put o.dst v) w') (hx:XOY P m o f w K):o.wpIn (fen none) m P a w K' Q:=by
 unfold XOY at hx
 refine ⟨λ_ _=>trivial,?_⟩
 have e:Oper.semAt (fen none).round a.eval o=execOp (ev f) o:=by rw[h.eval];rfl
 rw[e]
 generalize (execOp (ev f) o).run P w=r at hx
 cases r with
 | ok nx w' =>
  cases nx <;> simp only[upY] at hx <;> simp only[Oper.uponIn]
  case value v=>exact hK v w' hx
  case skip=>exact hK _ w' hx
  case enter g args =>
   refine ⟨λh=>by simp[Fence.wide] at h,?_⟩
   refine (callsIn_wide (n:=m - 1)).2 (Calls.mono hx λe w'' he=>?_)
   cases e with
   | returned v=>exact hK v w'' he
   | panicked c=>exact he.elim
   | outgrown=>exact he.elim
  case round l fn tmps assign body =>
   refine ⟨λh=>by simp[Fence.wide] at h,?_⟩
   refine RoundIn.mono hx λe w'' he=>?_
   cases e with
   | returned v=>exact hK v w'' he
   | panicked c=>exact he.elim
   | outgrown=>exact he.elim
 | halt x w'=>exact hx.elim
theorem jM {Q:Exit→LN→Fr→World→Prop}{all:List Oper}(hn:∀o∈all,∀d,o.dst=some d→d<n) (f0:Fr) :
  ∀(l:List Oper) (k:Nat) (a:Act) (f:Fr) (w:World),(∀j,l[j]?=all[k+j]?)→Yp n ds a f→(∀t,ZF all t=false→f t=f0 t) →
   Xu P m all (λf w=>Q .normal ds f w) l f w →
   wpOpsIn (fen none) m P all.toArray (λe a' w'=>∃ds' f',Yp n ds' a' f'∧(∀t,ZF all t=false→f' t=f0 t)∧Q e ds' f' w') (List.range' k l.length) a w
 | [],_,a,f,w,_,hr,hk,h=>⟨ds,f,hr,hk,by unfold Xu at h;exact h⟩
 | o::l,k,a,f,w,hl,hr,hk,h=>by
  have h0:all[k]?=some o:=by simpa using (hl 0).symm
  have hmem:o∈all:=List.mem_of_getElem? h0
  have ih:=λa f w=>jM (Q:=Q) hn f0 l (k+1) a f w (λj=>by have:=hl (j+1);simpa[Nat.add_assoc,Nat.add_comm 1 j] using this)
  have next:∀v,(∀t,ZF all t=false→QY f o.dst v t=f0 t):=λv t ht=>(YL (Xf hmem ht) v).trans (hk t ht)
  simp only[List.length_cons,List.range'_succ,wpOpsIn,List.getElem?_toArray,h0]
  rw[J9 hr hn o]
  unfold Xu at h
  cases hg:Yd all f o with
  | false =>
   rw[hg] at h
   exact ⟨λ_ _=>trivial,ih _ _ _ (hr.put (hn o hmem) _) (next _) h⟩
  | true =>
   rw[hg] at h
   exact QfW hr (λv w' hx=>ih _ _ _ (hr.put (hn o hmem) v) (next v) hx) h
theorem J1 {Q:Exit→LN→Fr→World→Prop}{f:Fr}{w:World}{id:Nat}{l:List Oper}(hn:XJ n l=true) (h:Xu P m l (λf w=>Q .normal ds f w) l f w):WG none m P n (.region id l.toArray false) Q ds f w:=by
 unfold WG
 intro a ha
 refine wpIn_region ?_
 have:=jM (m:=m) (Yz hn) f l 0 a f w (by simp) ha (λ_ _=>rfl) h
 simpa[List.range_eq_range',Y0] using this
theorem xy {ops:List Oper}{rest:List Oper}{f:Fr}{w:World}{K:Fr→World→Prop}{d:Option Nat}{ty:Nat}{ps:String}{af:Array Edge}{gd:Option (Nat×Bool)}{x y:Operand}{at_:Array Nat}{l:Nat}{R:Ending→World→Prop}
  (hx:ev f x=.func (.yield l) #[] #[]) (hy:YieldAt (fen none) (m - 1) P l #[ev f y] w R) (hK:∀e w',R e w'→∃v,e=.returned v∧Xu P m ops K rest (QY f d v) w')
  (hg:Yd ops f ⟨d,.call ⟨.value x,[y].toArray,at_⟩,ty,ps,af,gd⟩=true:=by rfl) :
  Xu P m ops K (⟨d,.call ⟨.value x,[y].toArray,at_⟩,ty,ps,af,gd⟩::rest) f w:=by
 obtain ⟨fn,tmps,assign,body,h1,h2⟩:=hy
 have hr:(execOp (ev f) ⟨d,.call ⟨.value x,[y].toArray,at_⟩,ty,ps,af,gd⟩).run P w=.ok (.round l fn tmps assign body) w:=by
  simp[execOp,resolve,hx,Deferred.ofValue,invoke,h1]
 unfold Xu
 rw[hg]
 simp only[XOY,hr,upY,cond_true]
 exact h2.mono λe w' h=>by obtain ⟨v,rfl,hk⟩:=hK e w' h;exact hk
end
attribute [irreducible] Xu
structure Lw (B:Nat) (L:LN) (w w':World):Prop where
 os:w'.os=w.os
 tape:w'.tape=w.tape
 output:w'.output=w.output
 size:w.heap.size≤w'.heap.size
 low:∀k,k<B→k∉L→w'.heap[k]?=w.heap[k]?
theorem Lw.refl (B:Nat) (L:LN) (w:World):Lw B L w w:=⟨rfl,rfl,rfl,Nat.le_refl _,λ_ _ _=>rfl⟩
theorem Lw.trans {B:Nat}{L:LN}{w0 w w':World}(h:Lw B L w0 w) (k:Lw B L w w'):Lw B L w0 w' :=
 ⟨k.os.trans h.os,k.tape.trans h.tape,k.output.trans h.output,Nat.le_trans h.size k.size,λi hi hn=>(k.low i hi hn).trans (h.low i hi hn)⟩
theorem Step.lw {L:LN}{w w' w'':World}(h:Step L w w') (k:Lw w.heap.size L w' w''):Step L w w'' :=
 ⟨k.os.trans h.os,k.tape.trans h.tape,k.output.trans h.output,Nat.le_trans h.size k.size,λi hi hn=>(k.low i hi hn).trans (h.block i hi hn)⟩
structure Jm (B:Nat) (L:LN) (W W':World):Prop where
 lw:Lw B L W W'
 other:∀(k:Nat) (o:Obj),W.heap[k]?=some o→o.isCells=false→W'.heap[k]?=some o
theorem Jm.refl (B:Nat) (L:LN) (w:World):Jm B L w w:=⟨Lw.refl _ _ _,λ_ _ h _=>h⟩
theorem Jm.trans {B:Nat}{L:LN}{w0 w w':World}(h:Jm B L w0 w) (k:Jm B L w w'):Jm B L w0 w':=⟨h.lw.trans k.lw,λi o hi ho=>k.other i o (h.other i o hi ho) ho⟩
theorem Jm.step {B:Nat}{L X:LN}{W W':World}(h:Step X W W') (hB:B≤W.heap.size) (hX:∀b∈X,(b∈L∨B≤b)∧∃o:Obj,W.heap[b]?=some o∧o.isCells=true):Jm B L W W':=by
 refine ⟨⟨h.os,h.tape,h.output,h.size,λk hk hn=>h.block k (by omega) (λhx=>?_)⟩,λk o hk ho=>?_⟩
 ·rcases (hX k hx).1 with h1 | h1
  ·exact hn h1
  ·omega
 ·refine (h.block k (Array.getElem?_eq_some_iff.1 hk).1 (λhx=>?_)).trans hk
  obtain ⟨o',h1,h2⟩:=(hX k hx).2
  rw[hk] at h1;cases h1;rw[ho] at h2;cases h2
theorem Jm.ext {B:Nat}{L:LN}{W W':World}(h:Step [] W W') (hB:B≤W.heap.size):Jm B L W W':=Jm.step h hB (λ_ hb=>by cases hb)
theorem Q2.cells {H:Array Obj}{b T:Nat}{cs:LV}(h:Q2 H b T cs):∃o:Obj,H[b]?=some o∧o.isCells=true:=⟨_,h,rfl⟩
theorem Jm.blk {B:Nat}{L:LN}{W W':World}{b T:Nat}{cs:LV}(h:Step [b] W W') (hB:B≤W.heap.size) (hb:Q2 W.heap b T cs) (hL:b∈L∨B≤b):Jm B L W W' :=
 Jm.step h hB (λc hc=>by
  have e:c=b:=by simpa using hc
  subst e;exact ⟨hL,hb.cells⟩)
def ZW (B:Nat) (I:World→Prop):Prop:=∀W W' X,I W→Step X W W'→(∀r∈X,B≤r∧∃o:Obj,W.heap[r]?=some o∧o.isCells=false)→I W'
theorem ZW.own {β:Type}{B:Nat}{I:β→World→Prop}(h:∀s,ZW B (I s)):OwnFrom B I:=λs W W' row hs hg hr =>
 h s W W' _ hs (Step.of_grown hg) (λr hr'=>hr r (by cases row <;> simp at hr' ⊢;exact hr'.symm))
theorem ZW.blk {B:Nat}{b T:Nat}{cs:LV}:ZW B (λW=>Q2 W.heap b T cs):=λW W' X h hs hX=>h.step hs (λhb=>by
 obtain ⟨_,o,h1,h2⟩:=hX b hb
 unfold Q2 at h;rw[h] at h1;cases h1;cases h2)
theorem ZW.and {B:Nat}{I J:World→Prop}(h:ZW B I) (k:ZW B J):ZW B (λW=>I W∧J W):=λW W' X hi hs hX=>⟨h W W' X hi.1 hs hX,k W W' X hi.2 hs hX⟩
theorem ZW.ex {B:Nat}{β:Type}{I:β→World→Prop}(h:∀z,ZW B (I z)):ZW B (λW=>∃z,I z W):=λW W' X ⟨z,hi⟩ hs hX=>⟨z,h z W W' X hi hs hX⟩
theorem ZW.pure {B:Nat}(p:Prop):ZW B (λ_=>p):=λ_ _ _ h _ _=>h
theorem ZW.step {B:Nat}{L:LN}{w:World}(hB:w.heap.size≤B):ZW B (λW=>Step L w W):=λW W' X h hs hX=>h.then hs (λb hb=>.inr (by have:=(hX b hb).1;omega))
theorem Q3 {w:World}{base e sz n:Nat}{v:Value}{cs:LV}(h:w.ownsRow base e sz v n cs):∀b∈ob v,∃o:Obj,w.heap[b]?=some o∧o.isCells=true:=by
 intro b hb
 rcases h.2 with ⟨h1,_⟩ | ⟨g,cap,cur,h1,h2,h3,_⟩
 ·subst h1;simp[ob] at hb
 ·subst h1;simp[ob] at hb;subst hb;exact ⟨_,h3,rfl⟩
theorem ZW.row {B base e sz n:Nat}{v:Value}{cs:LV}:ZW B (λW=>W.ownsRow base e sz v n cs):=λW W' X h hs hX=>Qj h hs (λb hb hx=>by
 obtain ⟨_,o,h1,h2⟩:=hX b hx
 obtain ⟨o',h3,h4⟩:=Q3 h b hb
 rw[h1] at h3;cases h3;rw[h2] at h4;cases h4)
theorem Qh3 {α:Type}{m:Nat}{P:Program}{n:Nat}{Q:Exit→LN→Fr→World→Prop}{ds:LN}{f:Fr}{w:World}{g:Operand}{p:Nat}{assign body:Code}(L:LN) (h1:1≤m)
  {gf:Nat} {fn:Func} [hF:Fu P gf fn] {capt:LV} (hg:ev f g=.func (.func gf) #[] capt.toArray) {enc:α→Value} {S:List α→Prop} {N:Nat} (hp:p<n)
  (hseq:SeqStopsK (fen none) (m - 1) P gf capt.toArray (λx=>#[enc x]) (Lw w.heap.size L) S (λ_=>True) N w)
  (I:List α→World→Prop) (hI:∀s,ZW w.heap.size (I s)) (h0:I [] w) (A:Fr→α→Fr→World→Prop) (hA:∀x f',ZW w.heap.size (A f x f'))
  (hassign:∀l pre x W,I pre W→WG (some l) (m - 1 - 1) P n assign (jZ (λds' f' W'=>ds'=[]∧Jm w.heap.size L W W'∧I pre W'∧A f x f' W') (λ_ _ _ _=>False)) [] (upd f p (enc x)) W)
  (hbody:∀l pre x f' W,I pre W→A f x f' W→pre.length<N→WG (some l) (m - 1 - 1) P n body (jZ (λ_ _ W'=>Jm w.heap.size L W W'∧I (pre++[x]) W') (λ_ _ _ _=>False)) [] f' W)
  (hdone:∀D xs W,w.heap.size≤D→S xs→I xs W→W.heap[D]?=some (.deferred (some []))→Q .normal (D::ds) f W) :
  WG none m P n (.rangeFunc g #[p] assign body) Q ds f w:=by
 unfold WG at hassign hbody ⊢
 intro a ha
 have eg:∀args w,(callFunc gf args).run P w=.ok (.enter gf args) w:=by
  intro args w
  have h1:¬fn.name = "runtime.NumGoroutine" := by simpa using hF.nm
  have h2:¬fn.body=none:=by have:=hF.b;intro e;rw[e] at this;cases this
  simp[callFunc,hF.f,h1,h2]
 have keep:∀{W W':World},Jm w.heap.size L W W'→KeepsFrom w.heap.size W W':=λh=>⟨h.lw.size,λk o _ hk ho=>h.other k o hk ho⟩
 refine wpIn_rangeFunc_ownH (F:=fen none) rfl h1 (gf:=gf) (lb:=capt.toArray) (by rw[ha.eval];exact hg) trivial eg hseq (λh k=>h.trans k)
  (λW l o o' hl ho _ _=>⟨rfl,rfl,rfl,by simp,λk hk _=>World.putObj_heap_other (by omega)⟩) (Below.refl _ _) (λ_=>rfl) I (λ_ _ _=>False) (ZW.own hI) (λ_ _ _ _ _ hs _ _=>hs) h0
  (λx a' W=>∃f',Yp n [] a' f'∧A f x f' W) (λx a'=>ZW.own λ_=>ZW.ex λf'=>ZW.and (ZW.pure _) (hA x f')) ?_ ?_ ?_ ?_
 ·intro l pre x W K hi hK
  have hr:Yp n [] { tmps:=((#[p]:Array Nat).zip #[enc x]).foldl (λt (p,v)=>t.setIfInBounds p v) a.tmps,defers:=[] } (upd f p (enc x)):=by
   have h2:Yp n [] { a with defers:=[] } f:=⟨ha.size,rfl,ha.get⟩
   have h3:=h2.put (dst:=some p) (λd e=>by cases e;exact hp) (enc x)
   have e:((#[p]:Array Nat).zip #[enc x]).foldl (λt (p,v)=>t.setIfInBounds p v) a.tmps=a.tmps.setIfInBounds p (enc x):=by simp
   rw[e];exact h3
  refine wpIn_mono (hassign l pre x W hi _ hr) ?_
  rintro e a' W' ⟨ds',f',h2,_,h3⟩
  cases e with
  | normal=>obtain ⟨rfl,h4,h5,h6⟩:=h3;exact hK a' W' (keep h4) h4.lw h5 ⟨f',h2,h6⟩
  | exit id=>exact h3.elim
  | goto l=>exact h3.elim
  | ret=>exact h3.elim
  | panic ch=>exact h3.elim
  | outgrown=>exact h3.elim
 ·rintro l pre x a' W _ _ hi ⟨f',h2,h3⟩ hlt
  refine wpIn_mono (hbody l pre x f' W hi h3 hlt a' h2) ?_
  rintro e a'' W' ⟨ds',f'',h4,_,h5⟩
  cases e with
  | normal=>exact ⟨keep h5.1,h5.1.lw,h5.2⟩
  | exit id=>exact h5.elim
  | goto l=>exact h5.elim
  | ret=>exact h5.elim
  | panic ch=>exact h5.elim
  | outgrown=>exact h5.elim
 ·intro D xs W hD hS hi hd
  exact ⟨D::ds,f,⟨ha.size,by rw[show coll (D::ds)={ target:=.collected D,args:=#[] }::coll ds from rfl,ha.defers],ha.get⟩,λ_ _=>rfl,hdone D xs W hD hS hi hd⟩
 ·intro D c pre W _ _ h _
  exact h.elim
def QjD (P:Program) (t:Nat):Option (LV×List (Nat×Nat)):=match P.info? t,P.underlying t with
 | some it,some (.struct fs)=>match it.zero,fs.toList.mapM (λf=>(P.info? f.type).map λi=>(f.offset,i.size)) with
  | some (.agg zs),some pl=>some (zs.toList,pl)
  | _,_=>none
 | _,_=>none
class Bw (P:Program) (t:Nat) (zs:outParam (LV)) (pl:outParam (List (Nat×Nat))):Prop where
 h:QjD P t=some (zs,pl)
 b:pl.all (λx=>x.1+x.2≤zs.length)=true
def yE:LV→Nat→LV→LV
 | zs,_,[]=>zs
 | zs,o,u::us=>yE (zs.set o u) (o+1) us
def QfT (pl:List (Nat×Nat)) (zs:LV):List (Nat×LV)→LV
 | []=>zs
 | (j,us)::ps=>QfT pl (yE zs (pl.getD j (0,0)).1 us) ps
def Qh7:List (Nat×Value)→List (Nat×LV)→Prop
 | [],[]=>True
 | (j,v)::vs,(j',us)::uss=>v.cells=us.toArray∧j=j'∧Qh7 vs uss
 | _,_=>False
theorem yD:∀(us zs:LV) (o:Nat),(yE zs o us).length=zs.length
 | [],_,_=>rfl
 | u::us,zs,o=>by rw[yE,yD us,List.length_set]
theorem qH (o:Nat):∀(us:LV) (k:Nat) (zs:LV),(us.zipIdx k).foldl (λ(cs:Array Value) (x:Value×Nat)=>cs.setIfInBounds (o+x.2) x.1) zs.toArray=(yE zs (o+k) us).toArray
 | [],_,_=>rfl
 | u::us,k,zs=>by
  rw[List.zipIdx_cons,List.foldl_cons,yE]
  have:=qH o us (k+1) (zs.set (o+k) u)
  rw[←List.setIfInBounds_toArray] at this
  exact this
theorem Qfc {pl:List (Nat×Nat)}:∀(vs:List (Nat×Value)) (uss:List (Nat×LV)) (zs:LV),Qh7 vs uss→uss.all (λp=>p.1<pl.length && (p.2.length == (pl.getD p.1 (0,0)).2))=true →
  (∀x∈pl,x.1+x.2≤zs.length)→Instr.fill (pl.toArray[·]?) zs.toArray vs=some (QfT pl zs uss).toArray
 | [],[],zs,_,_,_=>rfl
 | [],_::_,_,h,_,_=>h.elim
 | _::_,[],_,h,_,_=>h.elim
 | (j,v)::vs,(j',us)::uss,zs,h1,h2,h3=>by
  obtain ⟨hc,rfl,h1⟩:=h1
  simp only[List.all_cons,Bool.and_eq_true,decide_eq_true_eq,beq_iff_eq] at h2
  obtain ⟨⟨hj,hl⟩,h2⟩:=h2
  have hg:pl.getD j (0,0)=pl[j]'hj:=by simp[List.getD,hj]
  have hm:=h3 _ (List.getElem_mem hj)
  unfold Instr.fill
  simp only[List.getElem?_toArray,List.getElem?_eq_getElem hj,hc]
  rw[hg] at hl
  rw[if_neg (by simp only[List.size_toArray,hl,ne_eq,not_true,decide_false,Bool.false_or,decide_eq_true_eq];omega)]
  have e:=qH (pl[j]'hj).1 us 0 zs
  rw[Nat.add_zero] at e
  have e2:(us.toArray.zipIdx).foldl (λ(cs:Array Value) (x:Value×Nat)=>cs.setIfInBounds ((pl[j]'hj).1+x.2) x.1) zs.toArray=(yE zs (pl[j]'hj).1 us).toArray:=by
   rw[←e];simp
  rw[e2,QfT,hg]
  have e3:=Qfc vs uss (yE zs (pl[j]'hj).1 us) h1 h2 (λx hx=>by rw[yD];exact h3 x hx)
  simpa only[List.getElem?_toArray] using e3
theorem QaP {P:Program}{t:Nat}{zs:LV}{pl:List (Nat×Nat)}(h:QjD P t=some (zs,pl)) (hb:pl.all (λx=>x.1+x.2≤zs.length)=true) (vs:List (Nat×Value)) (uss:List (Nat×LV)) (h1:Qh7 vs uss)
  (h2:uss.all (λp=>p.1<pl.length && (p.2.length == (pl.getD p.1 (0,0)).2))=true):P.built t vs=some (QfT pl zs uss).toArray:=by
 have h3:∀x∈pl,x.1+x.2≤zs.length:=λo ho=>by simpa using List.all_eq_true.1 hb o ho
 unfold QjD at h
 unfold Program.built
 cases hi:P.info? t with
 | none=>simp[hi] at h
 | some it =>
  cases hu:P.underlying t with
  | none=>simp[hi,hu] at h
  | some dd =>
   simp only[hi,hu] at h
   cases dd <;> simp only[] at h <;> try (cases h)
   case struct fs =>
    cases hz:it.zero with
    | none=>simp[hz] at h
    | some z =>
     cases z <;> simp only[hz] at h <;> try (cases h)
     rename_i za
     cases hm:fs.toList.mapM (λf=>(P.info? f.type).map λi=>(f.offset,i.size)) with
     | none=>simp[hm] at h
     | some pl' =>
      simp only[hm,Option.some.injEq,Prod.mk.injEq] at h
      obtain ⟨rfl,rfl⟩:=h
      simp only[hz,hm,Value.cells]
      exact Qfc vs uss za.toList h1 h2 h3
theorem ZS {P:Program}{f:Fr}{w:World}{d:Option Nat}{ty:Nat}{ps:String}{af:Array Edge}{gd:Option (Nat×Bool)}{t:Nat}{zs:LV}{pl:List (Nat×Nat)}[h:Bw P t zs pl] {parts:List (Nat×Operand)}(uss:List (Nat×LV))
  (h1:Qh7 (parts.map λx=>(x.1,ev f x.2)) uss) (h2:uss.all (λp=>p.1<pl.length && (p.2.length == (pl.getD p.1 (0,0)).2))=true:=by rfl) :
  (execOp (ev f) ⟨d,.build t parts.toArray,ty,ps,af,gd⟩).run P w=.ok (.value (.agg (QfT pl zs uss).toArray)) w:=by
 have hb:=QaP h.h h.b _ uss h1 h2
 have hr:=run_build (P:=P) w t (parts.toArray.map λ(i,x)=>(i,ev f x)) _ (by simpa using hb)
 simp only[execOp,Sem.run_bind,hr,Result.andThen_ok,Sem.run_pure]
end Go.Lg
namespace Go.Proofs.YtdffckgdcegpaaaGreatDoor
open Go.Lg
def cnE (p:Ed→Bool) (es:List Ed):Int:=((es.filter p).length:Int)
def gA (n:Nat) (f:Nat→Int):LI:=(List.range n).map f
theorem Qjf (n:Nat) (f:Nat→Int):(gA n f).length=n:=by simp[gA]
theorem Qe6 {n:Nat}{f:Nat→Int}{i:Nat}(h:i<(gA n f).length):(gA n f)[i]'h=f i:=by simp[gA]
theorem Qje {n:Nat}{f g:Nat→Int}{i:Nat}{u:Int}(hu:u=g i) (h:∀j,j<n→j≠i→g j=f j):(gA n f).set i u=gA n g:=by
 apply List.ext_getElem
 ·simp[gA]
 ·intro k h1 h2
  rw[List.getElem_set,Qe6 h2]
  by_cases e:i=k
  ·rw[if_pos e,hu,e]
  ·rw[if_neg e,Qe6]
   exact (h k (by simpa[gA] using h2) (Ne.symm e)).symm
def fS (es:List Ed) (s:Nat):Int:=cnE (λe=>decide (e.1<(s:Int))) es
section
variable {P:Program} {K:Fr→World→Prop} {f:Fr} {w:World} {d:Option Nat} {ty:Nat} {ps:String} {af:Array Edge} {gd:Option (Nat×Bool)}
theorem Qek {t:Nat}[h1:XM P t] {x y:Operand}{b T i n:Nat}{g g':Nat→Int}{u:Int}(hB:Q2 w.heap b T ((gA n g).map (.int .i64))) (hx:ev f x=.pointer (some ⟨b,0+i*1,none⟩)) (hy:ev f y=.int .i64 u) (hi:i<n) (hg:(gA n g).set i u=gA n g')
  (hK:∀w',Step [b] w w'→Q2 w'.heap b T ((gA n g').map (.int .i64))→K (QY f d undef) w'):XO P ⟨d,.store t x y,ty,ps,af,gd⟩ f w K :=
 X0 hB hx hy (by rw[Qjf];exact hi) λw' hs hB'=>hK w' hs (by rw[←hg];exact hB')
end
end Go.Proofs.YtdffckgdcegpaaaGreatDoor
namespace Go.Lg
open Go.RowKit
section
variable {P:Program} {K:Fr→World→Prop} {f:Fr} {w:World} {d:Option Nat} {ty:Nat} {ps:String} {af:Array Edge} {gd:Option (Nat×Bool)} {ops l:List Oper}
end
end Go.Lg
namespace Go.Proofs.YtdffckgdcegpaaaGreatDoor
open Go.Lg
def Kc {α:Type}(f:Nat→α) (i:Nat) (x:α):Nat→α:=λj=>if j=i then x else f j
theorem ZQ {α:Type}(f:Nat→α) (i:Nat) (x:α):Kc f i x i=x:=by simp[Kc]
theorem Yf {α:Type}(f:Nat→α) {i j:Nat}(x:α) (h:j≠i):Kc f i x j=f j:=by simp[Kc,h]
theorem Qds {α β:Type}(k:α→β) (n:Nat) (f:Nat→α) (i:Nat) (x:α):((List.range n).map λj=>k (f j)).set i (k x)=(List.range n).map λj=>k (Kc f i x j):=by
 apply List.ext_getElem
 ·simp
 ·intro j h1 h2
  rw[List.getElem_set]
  by_cases e:i=j
  ·subst e;simp[ZQ]
  ·rw[if_neg e];simp[Yf _ _ (Ne.symm e)]
structure J7 (base:Nat) (w:World) (n:Nat) (f:Nat→Value) (g:Nat→LI):Prop where
 own:∀i,i<n→Qu 3 base w (f i) (g i)
 dj:∀i j,i<n→j<n→i≠j→Dj (f i) (f j)
theorem J7.app {base n i:Nat}{w w':World}{f:Nat→Value}{g:Nat→LI}{v':Value}{l:LI}(h:J7 base w n f g) (hi:i<n) (ho:Qu 3 base w' v' l) (hs:Step (ob (f i)) w w')
  (hn:∀b∈ob v',b∈ob (f i)∨w.heap.size≤b):J7 base w' n (Kc f i v') (Kc g i l):=by
 refine ⟨λj hj=>?_,λj k hj hk hjk=>?_⟩
 ·by_cases e:j=i
  ·subst e;rw[ZQ,ZQ];exact ho
  ·rw[Yf _ _ e,Yf _ _ e]
   exact Qj (h.own j hj) hs (h.dj j i hj hi e)
 ·have key:∀j,j<n→j≠i→Dj v' (f j):=λj hj e b hb hbj=>by
   rcases hn b hb with h1 | h1
   ·exact h.dj i j hi hj (Ne.symm e) b h1 hbj
   ·have:=QR (h.own j hj) b hbj;omega
  by_cases e1:j=i
  ·subst e1
   rw[ZQ,Yf _ _ (Ne.symm hjk)]
   exact key k hk (Ne.symm hjk)
  ·rw[Yf _ _ e1]
   by_cases e2:k=i
   ·subst e2;rw[ZQ];exact (key j hj e1).symm
   ·rw[Yf _ _ e2];exact h.dj j k hj hk hjk
theorem J7.step {base n:Nat}{X:LN}{w w':World}{f:Nat→Value}{g:Nat→LI}(h:J7 base w n f g) (hs:Step X w w') (hX:∀i,i<n→∀b∈ob (f i),b∉X):J7 base w' n f g :=
 ⟨λi hi=>Qj (h.own i hi) hs (hX i hi),h.dj⟩
theorem J7.ext {base n:Nat}{w w':World}{f:Nat→Value}{g:Nat→LI}(h:J7 base w n f g) (hs:Step [] w w'):J7 base w' n f g:=h.step hs (λ_ _ _ _=>by simp)
def Yl (es:List Ed) (s:Nat):LI:=(es.filter λe=>decide (e.2.2=(s:Int))).map (·.1)
theorem Qaw (es:List Ed) (e:Ed) (h0:0≤e.2.2):∀s,Kc (Yl es) e.2.2.toNat (Yl es e.2.2.toNat++[e.1]) s=Yl (es++[e]) s:=by
 intro s
 unfold Yl
 rw[List.filter_append,List.map_append]
 by_cases h:s=e.2.2.toNat
 ·subst h
  rw[ZQ]
  have:e.2.2=(e.2.2.toNat:Int):=by omega
  simp[←this]
 ·rw[Yf _ _ h]
  have:¬e.2.2=(s:Int):=by omega
  simp[this]
theorem QcM {es:List Ed}{s:Nat}{p:Int}(h:p∈Yl es s):∃e∈es,e.1=p∧e.2.2=(s:Int):=by
 unfold Yl at h
 simp only[List.mem_map,List.mem_filter,decide_eq_true_eq] at h
 obtain ⟨e,⟨h1,h2⟩,h3⟩:=h
 exact ⟨e,h1,h3,h2⟩
theorem Vw (es:List Ed) (s:Nat):(Yl es s).length≤es.length:=by
 unfold Yl;rw[List.length_map];exact List.length_filter_le _ _
def bwE (s:Int) (st:LI×LI) (p:Int):LI×LI:=if cget st.1 p.toNat<0 then (st.1.set p.toNat (cget st.1 s.toNat+1),st.2++[p]) else st
def VZ (n:Nat) (to:LI):LI:=(List.range n).map λi:Nat=>if (i:Int)∈to then 0 else -1
structure Qgd (n:Nat) (o q:LI):Prop where
 len:o.length=n
 q:∀x∈q,0≤x∧x<(n:Int)
 le:∀x∈o,-1≤x∧x+(neg o:Int)≤n
theorem Qew (l:LI):neg l≤l.length:=List.length_filter_le _ _
theorem QjE {n:Nat}{s p:Int}{st:LI×LI}(h:Qgd n st.1 st.2) (hs:0≤s∧s<(n:Int)) (hos:0≤cget st.1 s.toNat) (hp:0≤p∧p<(n:Int)) :
  Qgd n (bwE s st p).1 (bwE s st p).2∧neg (bwE s st p).1+(bwE s st p).2.length=neg st.1+st.2.length∧0≤cget (bwE s st p).1 s.toNat:=by
 unfold bwE
 have hl:=h.len
 have hpl:p.toNat<st.1.length:=by omega
 have hsl:s.toNat<st.1.length:=by omega
 by_cases hc:cget st.1 p.toNat<0
 ·rw[if_pos hc]
  have hc':st.1[p.toNat]'hpl<0:=by rw[Zl hpl];exact hc
  have hv:=h.le _ (X6 hsl)
  have hng:=KO st.1 p.toNat (cget st.1 s.toNat+1) hpl hc' (by omega)
  refine ⟨⟨by simp[hl],λx hx=>?_,λx hx=>?_⟩,?_,?_⟩
  ·simp only[List.mem_append,List.mem_singleton] at hx
   rcases hx with hx | rfl
   ·exact h.q x hx
   ·exact hp
  ·simp only[] at hx ⊢
   rcases List.mem_or_eq_of_mem_set hx with h1 | h1
   ·have:=h.le x h1;omega
   ·subst h1;omega
  ·simp only[List.length_append,List.length_singleton];omega
  ·simp only[]
   have hne:s.toNat≠p.toNat:=λe=>by rw[e] at hos;omega
   have:cget (st.1.set p.toNat (cget st.1 s.toNat+1)) s.toNat=cget st.1 s.toNat:=by
    unfold cget;simp[List.getD,List.getElem?_set_ne (Ne.symm hne)]
   rw[this];exact hos
 ·rw[if_neg hc]
  exact ⟨h,rfl,hos⟩
theorem Vb (n:Nat) (to:LI):(VZ n to).length=n:=by simp[VZ]
theorem QjF {n:Nat}{to:LI}(h:∀x∈to,0≤x∧x<(n:Int)):Qgd n (VZ n to) to:=by
 refine ⟨Vb n to,h,λx hx=>?_⟩
 have hn:=Qew (VZ n to)
 rw[Vb] at hn
 unfold VZ at hx
 simp only[List.mem_map] at hx
 obtain ⟨i,_,rfl⟩:=hx
 split <;> omega
theorem QhU {n:Nat}{to:LI}{x:Int}(h:0≤x∧x<(n:Int)) (hx:x∈to):cget (VZ n to) x.toNat=0:=by
 have h1:x.toNat<(VZ n to).length:=by rw[Vb];omega
 rw[←Zl h1]
 have:((x.toNat:Nat):Int)=x:=by omega
 simp[VZ,this,hx]
def QjM (o q:LI):Prop:=∀x∈q,0≤cget o x.toNat
theorem QfQ {n:Nat}{s p:Int}{st:LI×LI}(h:Qgd n st.1 st.2) (hos:0≤cget st.1 s.toNat) (hp:0≤p∧p<(n:Int)) (h0:QjM st.1 st.2):QjM (bwE s st p).1 (bwE s st p).2:=by
 unfold bwE
 have hpl:p.toNat<st.1.length:=by have:=h.len;omega
 by_cases hc:cget st.1 p.toNat<0
 ·rw[if_pos hc]
  intro x hx
  simp only[] at hx ⊢
  have e1:cget (st.1.set p.toNat (cget st.1 s.toNat+1)) x.toNat=if x.toNat=p.toNat then cget st.1 s.toNat+1 else cget st.1 x.toNat:=by
   by_cases e:x.toNat=p.toNat
   ·rw[if_pos e,e];unfold cget;simp[List.getD,hpl]
   ·rw[if_neg e];unfold cget;simp[List.getD,List.getElem?_set_ne (Ne.symm e)]
  rw[e1]
  split
  ·omega
  ·rename_i e
   simp only[List.mem_append,List.mem_singleton] at hx
   rcases hx with hx | rfl
   ·exact h0 x hx
   ·exact absurd rfl e
 ·rw[if_neg hc];exact h0
theorem QdX (n:Nat):(List.replicate n (nS).cells.toList).flatten=(List.range n).map (λ_=>nS):=by
 apply List.ext_getElem
 ·simp[Value.cells]
 ·intro i h1 h2
  simp[Value.cells]
theorem QcL (n:Nat):(List.replicate n (Value.int .i64 0).cells.toList).flatten=(gA n (λj=>if j<0 then -1 else 0)).map (Value.int .i64):=by
 apply List.ext_getElem
 ·simp[Value.cells,gA]
 ·intro i h1 h2
  simp[Value.cells,gA]
theorem yF {rv:Nat→Value}{n i:Nat}(hi:i<n):((List.range n).map rv)[0+i*1]?=some (rv i):=by simp[hi]
abbrev Lf:=List Bool
def lft (l:Lf) (s:Int):Bool:=l.getD s.toNat false
def cut (l:Lf) (s:Int):Lf:=l.set s.toNat false
def JE (ul:LI) (lf:Lf) (out:List (Int×Int)) (e:Ed):List (Int×Int) :=
 if lft lf e.1=false∨lft lf e.2.2=true∨e.2.1∉ul then out else if out.getLast?.map (·.1)=some e.1 then out else out++[(e.1,e.2.1)]
def lost (a:QV) (ul:LI) (lf:Lf):List (Int×Int):=a.ed.foldl (JE ul lf) []
def dsE (lf:Lf) (x:Int) (z:LI×LI) (y:Int):LI×LI:=if lft lf y=true∧cget z.1 y.toNat<0 then (z.1.set y.toNat (cget z.1 x.toNat+1),z.2++[y]) else z
def dsL (es:List Ed) (lf:Lf):Nat→Nat→LI×LI→LI×LI
 | 0,_,z=>z
 | f+1,i,z=>if i<z.2.length then dsL es lf f (i+1) ((Yl es (cget z.2 i).toNat).foldl (dsE lf (cget z.2 i)) z) else z
def ym (lf:Lf) (z:LI×LI) (x:Int):LI×LI:=if lft lf x=true then (z.1.set x.toNat 0,z.2++[x]) else z
def ds0 (a:QV) (lf:Lf):LI×LI:=a.mr.foldl (ym lf) (List.replicate a.st.toNat (-1),[])
def dsts (a:QV) (lf:Lf):LI:=(dsL a.ed lf a.st.toNat 0 (ds0 a lf)).1
def Kp (lf:Lf):Nat→LI→LI
 | _,[]=>[]
 | i,d::l=>if lf.getD i false=true∧d<0 then (i:Int)::Kp lf (i+1) l else Kp lf (i+1) l
def nxs (a:QV) (ul:LI) (lf:Lf):LI:=if (lost a ul lf).length≠0 then (lost a ul lf).map (·.1) else Kp lf 0 (dsts a lf)
def qj (a:QV) (ul:LI):Nat→Lf→Lf
 | 0,lf=>lf
 | f+1,lf=>if (nxs a ul lf).length=0 then lf else qj a ul f ((nxs a ul lf).foldl cut lf)
def lf0 (n:Nat) (fb:LI):Lf:=fb.foldl cut (List.replicate n true)
def Qka (a:QV) (fb ul:LI):Lf:=qj a ul (a.st.toNat+1) (lf0 a.st.toNat fb)
def rstr (a:QV) (lf:Lf):QV:=⟨a.al,a.st,a.mr,a.ed.filter λe=>lft lf e.2.2⟩
def QdH (a:QV) (lf:Lf):QV:=if a.st=0∨lft lf 0=false then ⟨a.al,0,[],[]⟩ else Ju (rstr a lf)
def zm (a:QV) (fb ul:LI):QV:=QdH a (Qka a fb ul)
def fbs (s:Spc):LI:=s.fb.map (·.st)
def suE (c:Zv):Int:=Yu c
def suA (c:Zv):QV:=zm (spc c).a (fbs (spc c)) (unc c.ev)
def orB (b:Nat) (k:Nat):Nat:=b ||| (1 <<< k)
def j9 (x:YE):Nat→Nat→List YE→Nat
 | _,b,[]=>b
 | k,b,y::l=>j9 x (k+1) (if (y.a.al.any λe=>decide (e∈x.a.al))=true then orB b k else b) l
def qk (ls:List (Int×Int)):Nat:=ls.foldl (λb l=>orB b l.1.toNat) 0
def srR (c:Zv):LN:=c.rq.map λx=>j9 x 0 0 c.co
def srX (c:Zv):LN:=c.ex.map λx=>qk x.ls
def srC (c:Zv):LN:=c.cs.map λx=>qk x.ts
def srK (c:Zv) (k:Int):LN:=if k=1 then srR c else if k=2 then srX c else srC c
structure Ky where
 kd:Int
 ix:Int
 co:LI
def Jr (k:Int):Nat→LN→List Ky
 | _,[]=>[]
 | i,b::l=>⟨k,i,setK b 8⟩::Jr k (i+1) l
def mods (c:Zv):List Ky:=Jr 1 0 (srR c)++(Jr 2 0 (srX c)++Jr 3 0 (srC c))
def sets (c:Zv):LN:=srR c++(srX c++srC c)
def Qab (c:Zv):Nat:=(sets c).foldl (λl b=>l &&& (65535 ^^^ b)) (2 ^ c.co.length - 1)
def rem (c:Zv):LI:=setK (Qab c) 8
def mdE (c:Zv) (m:Ky):Int:=if Zi c≠0 then Zi c else if m.kd<1∨3<m.kd then 11 else if m.ix<0∨((srK c m.kd).length:Int)≤m.ix then 10 else if m.co=setK ((srK c m.kd).getD m.ix.toNat 0) 8 then 0 else 13
structure Prt where
 co:LI
 rq:LI
 ex:LI
 cs:LI
def chs (l:List YE) (ix:LI):List YE:=ix.map λi=>l.getD i.toNat ⟨.empty,⟨[],0,[],[]⟩⟩
def ixP (co:LI) (ls:List (Int×Int)):List (Int×Int):=ls.map λl=>((co.idxOf l.1:Int),l.2)
def mis (co:LI) (ls:List (Int×Int)):Bool:=ls.any λl=>decide (l.1∉co)
def QgE (c:Zv) (p:Prt):List zg:=p.ex.map λi=>⟨(c.ex.getD i.toNat ⟨.empty,[]⟩).nm,ixP p.co (c.ex.getD i.toNat ⟨.empty,[]⟩).ls⟩
def QgG (c:Zv) (p:Prt):List Y3:=p.cs.map λi=>⟨(c.cs.getD i.toNat ⟨.empty,[],0⟩).nm,ixP p.co (c.cs.getD i.toNat ⟨.empty,[],0⟩).ts,(c.cs.getD i.toNat ⟨.empty,[],0⟩).bd⟩
def Kf (c:Zv) (p:Prt):Zv:=⟨c.ev,chs c.co p.co,chs c.rq p.rq,QgE c p,QgG c p⟩
def Qj8 (c:Zv) (p:Prt):Bool:=(p.ex.any λi=>mis p.co (c.ex.getD i.toNat ⟨.empty,[]⟩).ls) || (p.cs.any λi=>mis p.co (c.cs.getD i.toNat ⟨.empty,[],0⟩).ts)
def Vl (c:Zv) (p:Prt):Int :=
 if Zi c≠0 then Zi c else if Xt c.co.length none p.co≠0 then Xt c.co.length none p.co else if Xt c.rq.length none p.rq≠0 then Xt c.rq.length none p.rq else
 if Xt c.ex.length none p.ex≠0 then Xt c.ex.length none p.ex else if Xt c.cs.length none p.cs≠0 then Xt c.cs.length none p.cs else if Qj8 c p=true then 13 else Zi (Kf c p)
def prt (m:Ky):Prt:=⟨m.co,if m.kd=1 then [m.ix] else [],if m.kd=2 then [m.ix] else [],if m.kd≠1∧m.kd≠2 then [m.ix] else []⟩
def mcE (c:Zv) (m:Ky):Int:=if mdE c m≠0 then mdE c m else Vl c (prt m)
def mcC (c:Zv) (m:Ky):Zv:=Kf c (prt m)
def msE (c:Zv) (m:Ky):Int:=if mcE c m≠0 then mcE c m else suE (mcC c m)
def msA (c:Zv) (m:Ky):QV:=suA (mcC c m)
def msL (c:Zv):List Ky→Int
 | []=>0
 | m::l=>if msE c m≠0 then msE c m else msL c l
def Qce (c:Zv):Int:=if Zi c≠0 then Zi c else msL c (mods c)
def QdG (c:Zv):List QV:=(mods c).map (msA c)++(rem c).map λi=>(c.co.getD i.toNat ⟨.empty,⟨[],0,[],[]⟩⟩).a
def yv (l:List QV):Int:=if Vf l≠0 then Vf l else match sync l with | none=>3 | some _=>0
def tgA (c:Zv):QV:=syA (QdG c)
def ownr (c:Zv) (v:Int):LI:=ixs (λx:YE=>decide (v∈x.a.al)) 0 c.co
def shd (c:Zv):LI→Option (Int×Int×Int)
 | []=>none
 | v::l=>if 2≤(ownr c v).length then some (v,cget (ownr c v) 0,cget (ownr c v) 1) else shd c l
def QiD (c:Zv):Option (Int×Int×Int):=shd c (Jw c.ev.length)
abbrev QN (p:Int×Int):LV:=[.int .i64 p.1,.int .i64 p.2]
theorem ZZ (p:Int×Int):(QN p).length=2:=rfl
abbrev jQ (L:LN) (H:Array Obj) (v:Value) (l:List (Int×Int)):Prop:=Zj L H v l.length 2 (l.flatMap QN)
abbrev Zf (e:J3):LV:=[.string e.nm,.bool e.co,.bool e.ob,.bool e.fo,.int .i64 e.fl]
theorem K5 (e:J3):(Zf e).length=5:=rfl
abbrev VW (s:ByteArray):Prop:=s.size≤9223372036854775807
structure Kv (L:LN) (H:Array Obj) (v:Value) (l:List J3):Prop where
 arr:Zj L H v l.length 5 (l.flatMap Zf)
 nm:∀e∈l,VW e.nm
theorem Kv.ext {L:LN}{w w':World}{v:Value}{l:List J3}(h:Kv L w.heap v l) (hs:Step [] w w'):Kv L w'.heap v l:=⟨h.arr.ext hs,h.nm⟩
theorem Kv.st {L:LN}{w w':World}{v:Value}{l:List J3}(h:Kv L w.heap v l) (hs:Step L w w'):Kv L w'.heap v l:=⟨h.arr.st hs,h.nm⟩
theorem Kv.up {L L':LN}{H:Array Obj}{v:Value}{l:List J3}(h:Kv L H v l) (hL:∀b∈L',b∈L∨H.size≤b):Kv L' H v l:=⟨h.arr.up hL,h.nm⟩
structure IV where
 nm:ByteArray
 p:AV
def IV.it (q:IV):YE:=⟨q.nm,q.p.a⟩
abbrev QW (q:IV):LV:=[.string q.nm,q.p.va,.int .i64 q.p.a.st,q.p.vm,q.p.ve]
theorem Yq (q:IV):(QW q).length=5:=rfl
structure Y2 (L:LN) (H:Array Obj) (v:Value) (qs:List IV):Prop where
 arr:Zj L H v qs.length 5 (qs.flatMap QW)
 each:∀q∈qs,Zt L H q.p.va q.p.vm q.p.ve q.p.a
 nm:∀q∈qs,VW q.nm
structure XV where
 nm:ByteArray
 v:Value
 ls:List (Int×Int)
def XV.x (q:XV):zg:=⟨q.nm,q.ls⟩
abbrev Q9 (q:XV):LV:=[.string q.nm,q.v]
theorem YZ (q:XV):(Q9 q).length=2:=rfl
structure qd (L:LN) (H:Array Obj) (v:Value) (qs:List XV):Prop where
 arr:Zj L H v qs.length 2 (qs.flatMap Q9)
 each:∀q∈qs,jQ L H q.v q.ls
 nm:∀q∈qs,VW q.nm
structure KV where
 nm:ByteArray
 v:Value
 ts:List (Int×Int)
 bd:Int
def KV.k (q:KV):Y3:=⟨q.nm,q.ts,q.bd⟩
abbrev Za (q:KV):LV:=[.string q.nm,q.v,.int .i64 q.bd]
theorem YN (q:KV):(Za q).length=3:=rfl
structure U5 (L:LN) (H:Array Obj) (v:Value) (qs:List KV):Prop where
 arr:Zj L H v qs.length 3 (qs.flatMap Za)
 each:∀q∈qs,jQ L H q.v q.ts
 nm:∀q∈qs,VW q.nm
theorem Y2.ext {L:LN}{w w':World}{v:Value}{qs:List IV}(h:Y2 L w.heap v qs) (hs:Step [] w w'):Y2 L w'.heap v qs:=⟨h.arr.ext hs,λq hq=>(h.each q hq).ext hs,h.nm⟩
theorem Y2.st {L:LN}{w w':World}{v:Value}{qs:List IV}(h:Y2 L w.heap v qs) (hs:Step L w w'):Y2 L w'.heap v qs:=⟨h.arr.st hs,λq hq=>(h.each q hq).st hs,h.nm⟩
theorem Y2.up {L L':LN}{H:Array Obj}{v:Value}{qs:List IV}(h:Y2 L H v qs) (hL:∀b∈L',b∈L∨H.size≤b):Y2 L' H v qs:=⟨h.arr.up hL,λq hq=>(h.each q hq).up hL,h.nm⟩
theorem qd.ext {L:LN}{w w':World}{v:Value}{qs:List XV}(h:qd L w.heap v qs) (hs:Step [] w w'):qd L w'.heap v qs:=⟨h.arr.ext hs,λq hq=>(h.each q hq).ext hs,h.nm⟩
theorem qd.st {L:LN}{w w':World}{v:Value}{qs:List XV}(h:qd L w.heap v qs) (hs:Step L w w'):qd L w'.heap v qs:=⟨h.arr.st hs,λq hq=>(h.each q hq).st hs,h.nm⟩
theorem qd.up {L L':LN}{H:Array Obj}{v:Value}{qs:List XV}(h:qd L H v qs) (hL:∀b∈L',b∈L∨H.size≤b):qd L' H v qs:=⟨h.arr.up hL,λq hq=>(h.each q hq).up hL,h.nm⟩
theorem U5.ext {L:LN}{w w':World}{v:Value}{qs:List KV}(h:U5 L w.heap v qs) (hs:Step [] w w'):U5 L w'.heap v qs:=⟨h.arr.ext hs,λq hq=>(h.each q hq).ext hs,h.nm⟩
theorem U5.st {L:LN}{w w':World}{v:Value}{qs:List KV}(h:U5 L w.heap v qs) (hs:Step L w w'):U5 L w'.heap v qs:=⟨h.arr.st hs,λq hq=>(h.each q hq).st hs,h.nm⟩
theorem U5.up {L L':LN}{H:Array Obj}{v:Value}{qs:List KV}(h:U5 L H v qs) (hL:∀b∈L',b∈L∨H.size≤b):U5 L' H v qs:=⟨h.arr.up hL,λq hq=>(h.each q hq).up hL,h.nm⟩
structure CL where
 ve:Value
 vc:Value
 vr:Value
 vx:Value
 vk:Value
 ev:List J3
 co:List IV
 rq:List IV
 ex:List XV
 cs:List KV
def CL.cel (c:CL):Zv:=⟨c.ev,c.co.map (·.it),c.rq.map (·.it),c.ex.map (·.x),c.cs.map (·.k)⟩
abbrev CL.cells (c:CL):LV:=[c.ve,c.vc,c.vr,c.vx,c.vk]
abbrev CL.val (c:CL):Value:=.agg #[c.ve,c.vc,c.vr,c.vx,c.vk]
structure Zu (L:LN) (H:Array Obj) (c:CL):Prop where
 ev:Kv L H c.ve c.ev
 co:Y2 L H c.vc c.co
 rq:Y2 L H c.vr c.rq
 ex:qd L H c.vx c.ex
 cs:U5 L H c.vk c.cs
theorem Zu.ext {L:LN}{w w':World}{c:CL}(h:Zu L w.heap c) (hs:Step [] w w'):Zu L w'.heap c:=⟨h.ev.ext hs,h.co.ext hs,h.rq.ext hs,h.ex.ext hs,h.cs.ext hs⟩
theorem Zu.st {L:LN}{w w':World}{c:CL}(h:Zu L w.heap c) (hs:Step L w w'):Zu L w'.heap c:=⟨h.ev.st hs,h.co.st hs,h.rq.st hs,h.ex.st hs,h.cs.st hs⟩
theorem Zu.up {L L':LN}{H:Array Obj}{c:CL}(h:Zu L H c) (hL:∀b∈L',b∈L∨H.size≤b):Zu L' H c:=⟨h.ev.up hL,h.co.up hL,h.rq.up hL,h.ex.up hL,h.cs.up hL⟩
theorem Zu.ones {L:LN}{H:Array Obj}{c:CL}(h:Zu L H c):Zw c.cells:=⟨h.ev.arr.one,h.co.arr.one,h.rq.arr.one,h.ex.arr.one,h.cs.arr.one,trivial⟩
def Qdd (N:Nat) (H:Array Obj) (v:Value) (k:Zv):Prop:=∃c:CL,v=c.val∧c.cel=k∧∀L:LN,(∀b∈L,b<N)→Zu L H c
open Go.Proofs.Tryz
theorem VI (s:ByteArray) (hnb:VW s) (w:World):QJ prog 162 [.string s] w λr w'=>r=.bool (Yy s)∧w'=w:=by
 unfold VW at hnb
 refine QJ.of_W func162 rfl ntmps162 results162 (by simp) ?_
 refine Qc<|Qe<|Qf<|Qc<|Qb<|x (Qae rfl)<|Qb<|xe ?_
 refine Qg<|QA (α:=Nat) [(2,5),(8,46)] (λz=>[(8,.int .i64 z)]) (λz w'=>w'=w∧z≤s.size∧(List.range' z (s.size - z)).all (nmQ s)=(List.range' 0 s.size).all (nmQ s)) (λz=>s.size - z) (by rfl) 0 ⟨rfl,trivial⟩ ⟨rfl,Nat.zero_le _,by rw[Nat.sub_zero]⟩ ?_
 rintro k g w1 ⟨rfl,hk,hall⟩
 refine Qc<|x (QB rfl rfl)<|xe ?_
 refine Qf<|QG rfl (λh9=>?_) (λh9=>?_)
 ·refine Qx ?_
  have hke:s.size≤k:=by have h10:¬(k:Int)<(s.size:Int):=h9;omega
  rw[QgK hke] at hall
  have hr:Yy s=decide (0<s.size∧s.size≤32):=by unfold Yy;rw[←hall];simp
  rw[hr]
  refine QU (α:=Bool) [(2,2),(47,54)] (λz=>[(2,.bool z)]) (λz w'=>w'=w1∧z=decide (0<s.size∧s.size≤32)) (by rfl) ?_ ?_
  ·refine Qw<|Qb<|x (Qae rfl)<|xb (ZO rfl rfl) (λh49=>?_) (λh49=>?_)
   ·refine Qb<|Qb<|x (Qae rfl)<|x (XX rfl rfl)<|x (Qm rfl)<|Qe ?_
    exact ⟨_,⟨rfl,trivial⟩,rfl,by first | exact bT (by omega) | exact bF (by omega) | exact bD (by omega)⟩
   refine Qb<|xs rfl<|xs rfl<|xs rfl<|x (Qm rfl)<|Qe ?_
   exact ⟨_,⟨rfl,trivial⟩,rfl,by first | exact bT (by omega) | exact bF (by omega) | exact bD (by omega)⟩
  rintro z g w2 ⟨rfl,rfl⟩
  exact Ql ⟨[_],⟨rfl,trivial⟩,rfl,rfl⟩
 have hlt:k<s.size:=by have h10:(k:Int)<(s.size:Int):=h9;omega
 rw[QdY hlt,List.all_cons] at hall
 refine Qi<|Qf<|Qg<|Qc<|Qb<|Qe<|Qc<|Qb<|Qb<|x (Qd9 (i:=k) rfl rfl hlt)<|Qe ?_
 have hq:nmQ s k=decide (nmP k (chr s k)):=rfl
 refine Zd (chr s k) λc hc=>?_
 rw[hc] at hq
 refine QU (α:=Bool) [(5,5),(14,31)] (λz=>[(5,.bool z)]) (λz w'=>w'=w1∧z=decide ((97≤c∧c≤122)∨(65≤c∧c≤90)∨c=95)) (by rfl) ?_ ?_
 ·rw[←hc]
  refine Qw<|Qb<|xb (ZR rfl rfl) (λh15=>?_) (λh15=>?_)
  ·refine Qb<|Qb<|xb (XX rfl rfl) (λh18=>?_) (λh18=>?_)
   ·refine x (Qm rfl)<|Qb<|xs rfl<|xs rfl<|xs rfl<|xs rfl<|xs rfl<|xs rfl<|x (Qm rfl)<|Qb<|xs rfl<|xs rfl<|x (Qm rfl) <|
     Qe ?_
    exact ⟨_,⟨rfl,trivial⟩,rfl,by first | exact bT (by omega) | exact bF (by omega) | exact bD (by omega)⟩
   refine x (Qm rfl)<|Qb<|Qb<|xb (ZR rfl rfl) (λh22=>?_) (λh22=>?_)
   ·refine Qb<|Qb<|xb (XX rfl rfl) (λh25=>?_) (λh25=>?_)
    ·refine x (Qm rfl)<|x (Qm rfl)<|Qb<|xs rfl<|xs rfl<|x (Qm rfl)<|Qe ?_
     exact ⟨_,⟨rfl,trivial⟩,rfl,by first | exact bT (by omega) | exact bF (by omega) | exact bD (by omega)⟩
    refine x (Qm rfl)<|x (Qm rfl)<|Qb<|Qb<|x (Q7 rfl rfl)<|x (Qm rfl)<|Qe ?_
    exact ⟨_,⟨rfl,trivial⟩,rfl,by first | exact bT (by omega) | exact bF (by omega) | exact bD (by omega)⟩
   refine Qb<|xs rfl<|xs rfl<|x (Qm rfl)<|x (Qm rfl)<|Qb<|Qb<|x (Q7 rfl rfl)<|x (Qm rfl)<|x Qh <|
    xe ?_
   exact ⟨_,⟨rfl,trivial⟩,rfl,by first | exact bT (by omega) | exact bF (by omega) | exact bD (by omega)⟩
  refine Qb<|xs rfl<|xs rfl<|x (Qm rfl)<|Qb<|Qb<|xb (ZR rfl rfl) (λh22=>?_) (λh22=>?_)
  ·refine Qb<|Qb<|xb (XX rfl rfl) (λh25=>?_) (λh25=>?_)
   ·refine x (Qm rfl)<|x (Qm rfl)<|Qb<|xs rfl<|xs rfl<|x (Qm rfl)<|Qe ?_
    exact ⟨_,⟨rfl,trivial⟩,rfl,by first | exact bT (by omega) | exact bF (by omega) | exact bD (by omega)⟩
   refine x (Qm rfl)<|x (Qm rfl)<|Qb<|Qb<|x (Q7 rfl rfl)<|x (Qm rfl)<|Qe ?_
   exact ⟨_,⟨rfl,trivial⟩,rfl,by first | exact bT (by omega) | exact bF (by omega) | exact bD (by omega)⟩
  refine Qb<|xs rfl<|xs rfl<|x (Qm rfl)<|x (Qm rfl)<|Qb<|Qb<|x (Q7 rfl rfl)<|x (Qm rfl)<|x Qh <|
   xe ?_
  exact ⟨_,⟨rfl,trivial⟩,rfl,by first | exact bT (by omega) | exact bF (by omega) | exact bD (by omega)⟩
 rintro z g w4 ⟨rfl,rfl⟩
 refine QU (α:=Bool) [(32,45)] (λz=>[(45,.bool z)]) (λz w'=>w'=w4∧z=decide (¬nmP k c)) (by rfl) ?_ ?_
 ·unfold nmP
  rw[←hc]
  refine Qw<|Qb<|xb (Us rfl) (λh33=>?_) (λh33=>?_)
  ·refine Qb<|Qb<|xb (Q7 rfl rfl) (λh36=>?_) (λh36=>?_)
   ·refine Qb<|xs rfl<|xs rfl<|x (Qm rfl)<|Qb<|xs rfl<|xs rfl<|x (Qm rfl)<|x (Qm rfl)<|xe ?_
    exact ⟨_,⟨rfl,trivial⟩,rfl,by first | exact bT (by omega) | exact bF (by omega) | exact bD (by omega)⟩
   refine Qb<|Qb<|xb (QB rfl rfl) (λh39=>?_) (λh39=>?_)
   ·refine x (Qm rfl)<|Qb<|xs rfl<|xs rfl<|x (Qm rfl)<|x (Qm rfl)<|xe ?_
    exact ⟨_,⟨rfl,trivial⟩,rfl,by first | exact bT (by omega) | exact bF (by omega) | exact bD (by omega)⟩
   refine x (Qm rfl)<|Qb<|Qb<|x (ZO rfl rfl)<|x (Qm rfl)<|x (Qm rfl)<|xe ?_
   exact ⟨_,⟨rfl,trivial⟩,rfl,by first | exact bT (by omega) | exact bF (by omega) | exact bD (by omega)⟩
  refine Qb<|xs rfl<|xs rfl<|xs rfl<|xs rfl<|xs rfl<|xs rfl<|xs rfl<|xs rfl<|xs rfl<|xs rfl<|x (Qm rfl)<|xe ?_
  exact ⟨_,⟨rfl,trivial⟩,rfl,by first | exact bT (by omega) | exact bF (by omega) | exact bD (by omega)⟩
 rintro z g w5 ⟨rfl,rfl⟩
 refine Q4 rfl (λh45=>?_) (λh45=>?_)
 ·refine Qc<|Qe ?_
  have hr:Yy s=false:=by
   unfold Yy
   rw[←hall,hq,decide_eq_false h45];rfl
  exact Ql ⟨[_],⟨rfl,trivial⟩,by rw[hr];rfl,rfl⟩
 refine Qi ?_
 have h46:nmP k c:=Decidable.not_not.1 h45
 refine Qw<|QO rfl rfl<|Qb<|xe ?_
 rw[hq,decide_eq_true h46,Bool.true_and] at hall
 exact ⟨k+1,by omega,⟨rfl,trivial⟩,rfl,hlt,hall⟩
def nmM (l:List ByteArray):List (ByteArray×Value):=l.map λs=>(s,.bool true)
theorem QgX (l:List ByteArray) (s:ByteArray):mget (nmM l) s=if s∈l then some (.bool true) else none:=by
 induction l with
 | nil=>rfl
 | cons a l ih =>
  show (if a=s then some (Value.bool true) else mget (nmM l) s)=_
  rw[ih]
  by_cases h:a=s
  ·subst h;simp
  ·have:s≠a:=λe=>h e.symm
   simp[h,this]
theorem Qbr {l:List ByteArray}{s:ByteArray}(h:s∉l):mput (nmM l) s (.bool true)=nmM (l++[s]):=by
 induction l with
 | nil=>rfl
 | cons a l ih =>
  have h1:a≠s:=λe=>h (by subst e;exact List.mem_cons_self)
  show (if a=s then (a,Value.bool true)::nmM l else (a,Value.bool true)::mput (nmM l) s (.bool true))=_
  rw[if_neg h1,ih (λhm=>h (List.mem_cons_of_mem _ hm))]
  rfl
section
variable {P:Program} {f:Fr} {w:World} {d:Option Nat} {ty:Nat} {ps:String} {af:Array Edge} {gd:Option (Nat×Bool)}
theorem yL {t kt et:Nat}[hm:Mp P t kt et (.bool false)] [hk:Key P kt Xl] {x y:Operand}{b:Nat}{l:List ByteArray}{s:ByteArray}(h:Z2 Xl w.heap b (nmM l)) (hx:ev f x=.map (some b)) (hy:ev f y=.string s) :
  (execOp (ev f) ⟨d,.lookup t x y false,ty,ps,af,gd⟩).run P w=.ok (.value (.bool (decide (s∈l)))) w:=by
 rw[XW h hx hy,QgX]
 by_cases hs:s∈l <;> simp[hs]
end
theorem QaN {s:List ByteArray}{l:List J3}{k:Nat}(h:k<l.length):VO s (l.drop k)=if Y6 s (l[k]'h)≠0 then Y6 s (l[k]'h) else VO (s++[(l[k]'h).nm]) (l.drop (k+1)):=by
 rw[QX h];rfl
theorem UQ {L:LN}{w:World}{v:Value}{l:List J3}(h:Kv L w.heap v l):QJ prog 94 [v] w λr w'=>r=.int .i64 (Jg l)∧Step [] w w':=by
 have hle:=h.arr.le
 refine QJ.of_W func94 rfl ntmps94 results94 (by simp) ?_
 refine Qc<|Qe<|Qf<|Qc<|Qb<|x (Qr h.arr rfl)<|x (ZO rfl rfl)<|xe ?_
 refine Q4 rfl (λh8=>?_) (λh8=>?_)
 ·refine Qc<|Qe ?_
  exact Ql ⟨[_],⟨rfl,trivial⟩,by unfold Jg;rw[if_pos (by have h9:(32:Int)<(l.length:Int):=h8;omega)];rfl,Step.refl _ _⟩
 have hck:Jg l=VO [] l:=by unfold Jg;rw[if_neg (by have h9:¬(32:Int)<(l.length:Int):=h8;omega)]
 rw[hck]
 refine Qi<|Qc<|xl rfl<|Yn Xl λb9 w1 hs1 hb9 hm9=>Qe<|Qf<|Qc<|Qb<|x (Qr (h.arr.ext hs1) rfl)<|Qb<|xe ?_
 refine Qg<|QA (α:=Nat×List ByteArray) [(2,2),(5,5),(12,50)] (λz=>[(12,.int .i64 z.1)]) (λz w'=>z.1≤l.length∧Step [] w w'∧Z2 Xl w'.heap b9 (nmM z.2)∧VO z.2 (l.drop z.1)=VO [] l) (λz=>l.length - z.1) (by rfl) (0,[]) ⟨rfl,trivial⟩
  ⟨Nat.zero_le _,hs1,hm9,rfl⟩ ?_
 rintro ⟨k,sn⟩ g w2 ⟨hk,hs2,hm2,hcl⟩
 simp only[] at hk hm2 hcl
 refine Qc<|x (QB rfl rfl)<|xe ?_
 refine Qf<|QG rfl (λh13=>?_) (λh13=>?_)
 ·refine Qx ?_
  have hke:l.length≤k:=by have h10:¬(k:Int)<(l.length:Int):=h13;omega
  rw[List.drop_of_length_le hke] at hcl
  refine Qc<|Qe ?_
  exact Ql ⟨[_],⟨rfl,trivial⟩,by rw[←hcl];rfl,hs2⟩
 have hlt:k<l.length:=by have h10:(k:Int)<(l.length:Int):=h13;omega
 rw[QaN hlt] at hcl
 have hnm:=h.nm _ (List.getElem_mem hlt)
 refine Qi<|Qf<|Qg<|Qc<|xig K5 (h.arr.ext hs2) rfl rfl hlt λa14 h14=>?_
 refine Zd (l[k]'hlt) λe he=>?_
 rw[he] at h14 hcl hnm
 refine x (QC h14 rfl rfl)<|xl rfl<|Qt (us:=[.string .empty,.bool false,.bool false,.bool false,.int .i64 0]) rfl λb5 w3 hs3 hb5 hB5=>xl rfl<|Qn (us:=Zf e) hB5 rfl rfl rfl rfl ⟨rfl,rfl,rfl,rfl,rfl,trivial⟩ λw4 hs4 hB5 =>
  xe ?_
 have hs24:Step [] w2 w4:=hs3.then1 hs4 hb5
 have hm4:=hm2.ext hs24
 refine Qf<|Qg<|Qc<|x (Qa rfl)<|x (Qd hB5 rfl rfl)<|xl rfl<|xf<|(VI e.nm hnm _).mono ?_
 rintro r5 w5 ⟨rfl,rfl⟩
 refine x (Zn rfl)<|Qe<|Q5 rfl (λh16=>?_) (λh16=>?_)
 ·have hn:Yy e.nm=false:=by simpa using h16
  have h1:Y6 sn e=7:=by unfold Y6;rw[if_pos hn]
  refine Qc<|Qe ?_
  exact Ql ⟨[_],⟨rfl,trivial⟩,by rw[←hcl,h1];rfl,hs2.trans hs24⟩
 have hn:¬Yy e.nm=false:=by simpa using h16
 refine Qc<|Qb<|x (Qa rfl)<|x (Qd hB5 rfl rfl)<|x (yL hm4 rfl rfl)<|Qe<|Q4 rfl (λh21=>?_) (λh21=>?_)
 ·have h1:Y6 sn e=8:=by unfold Y6;rw[if_neg hn,if_pos h21]
  refine Qc<|Qe ?_
  exact Ql ⟨[_],⟨rfl,trivial⟩,by rw[←hcl,h1];rfl,hs2.trans hs24⟩
 refine QU (α:=Bool) [(26,34)] (λz=>[(26,.bool z)]) (λz w'=>w'=w5∧z=decide (e.fl<0∨4<e.fl)) (by rfl) ?_ ?_
 ·refine Qw<|x (Qa rfl)<|x (Qd hB5 rfl rfl)<|xb (QB rfl rfl) (λh29=>?_) (λh29=>?_)
  ·refine Qb<|xs rfl<|xs rfl<|xs rfl<|x (Qm rfl)<|Qe ?_
   exact ⟨_,⟨rfl,trivial⟩,rfl,by first | exact bT (by omega) | exact bF (by omega) | exact bD (by omega)⟩
  refine Qb<|x (Qa rfl)<|x (Qd hB5 rfl rfl)<|x (ZO rfl rfl)<|x (Qm rfl)<|Qe ?_
  exact ⟨_,⟨rfl,trivial⟩,rfl,by first | exact bT (by omega) | exact bF (by omega) | exact bD (by omega)⟩
 rintro z g w6 ⟨rfl,rfl⟩
 refine Q4 rfl (λh26=>?_) (λh26=>?_)
 ·have h1:Y6 sn e=2:=by unfold Y6;rw[if_neg hn,if_neg h21,if_pos h26]
  refine Qc<|Qe ?_
  exact Ql ⟨[_],⟨rfl,trivial⟩,by rw[←hcl,h1];rfl,hs2.trans hs24⟩
 refine QU (α:=Bool) [(35,46)] (λz=>[(35,.bool z)]) (λz w'=>w'=w6∧z=decide (e.fl≠0∧(e.co || e.ob)=true)) (by rfl) ?_ ?_
 ·refine Qw<|x (Qa rfl)<|x (Qd hB5 rfl rfl)<|xb (Q8 rfl rfl) (λh38=>?_) (λh38=>?_)
  ·refine Qb<|x (Qa rfl)<|xB (Qd hB5 rfl rfl) (λh41=>?_) (λh41=>?_)
   ·refine Qb<|xs rfl<|xs rfl<|x (Qm rfl)<|x (Qm rfl)<|Qe ?_
    exact ⟨_,⟨rfl,trivial⟩,rfl,by rw[h41,decide_eq_true ⟨h38,by simp⟩]⟩
   ·refine Qb<|x (Qa rfl)<|x (Qd hB5 rfl rfl)<|x (Qm rfl)<|x (Qm rfl)<|Qe<|⟨_,⟨rfl,trivial⟩,rfl,?_⟩
    show e.ob=_
    rw[h41];cases e.ob <;> simp[show ¬e.fl=0 from h38]
  refine Qb<|xs rfl<|xs rfl<|xs rfl<|xs rfl<|xs rfl<|xs rfl<|x (Qm rfl)<|Qe ?_
  exact ⟨_,⟨rfl,trivial⟩,rfl,bF (λh1=>h38 h1.1)⟩
 rintro z g w7 ⟨rfl,rfl⟩
 refine Q4 rfl (λh35=>?_) (λh35=>?_)
 ·have h1:Y6 sn e=13:=by unfold Y6;rw[if_neg hn,if_neg h21,if_neg h26,if_pos h35]
  refine Qc<|Qe ?_
  exact Ql ⟨[_],⟨rfl,trivial⟩,by rw[←hcl,h1];rfl,hs2.trans hs24⟩
 have h1:Y6 sn e=0:=by unfold Y6;rw[if_neg hn,if_neg h21,if_neg h26,if_neg h35]
 rw[h1,if_neg (λh=>h rfl)] at hcl
 refine Qi<|Qw<|Qb<|x (Qa rfl)<|x (Qd hB5 rfl rfl)<|xl rfl<|Xi (k:=e.nm) hm4 rfl rfl λw8 hs8 hm8=>xe ?_
 refine Qw<|QO rfl rfl<|Qb<|xe ?_
 have hm8':Z2 Xl w8.heap b9 (nmM (sn++[e.nm])):=by rw[←Qbr h21];exact hm8
 exact ⟨(k+1,sn++[e.nm]),by simp only[];omega,⟨rfl,trivial⟩,hlt,(hs2.trans hs24).then1 hs8 hb9,hm8',hcl⟩
theorem jb {α:Type}(q:α→Bool) (x:α):∀(l:List α) (i:Nat),ixs q i (l++[x])=ixs q i l++if q x=true then [((i+l.length:Nat):Int)] else []
 | [],i=>by simp[ixs]
 | a::l,i=>by
  have ih:=jb q x l (i+1)
  simp only[List.cons_append,ixs,ih,List.length_cons]
  rw[show i+1+l.length=i+(l.length+1) by omega]
  split <;> simp
theorem KU {α:Type}(q:α→Bool):∀(l:List α) (i:Nat),(ixs q i l).length≤l.length
 | [],i=>by simp[ixs]
 | a::l,i=>by
  have ih:=KU q l (i+1)
  unfold ixs;split <;> simp <;> omega
theorem UE {α:Type}(q:α→Bool) {l:List α}{k:Nat}(h:k<l.length):ixs q 0 (l.take (k+1))=ixs q 0 (l.take k)++if q (l[k]'h)=true then [(k:Int)] else []:=by
 rw[List.take_succ_eq_append_getElem h,jb]
 simp[Nat.min_eq_left (Nat.le_of_lt h)]
theorem QcZ {g:Nat}{fn:Func}[Fu prog g fn] {q:J3→Bool}(hq:∀(e:J3) (w:World),QJ prog g [.agg (Zf e).toArray] w λr w'=>r=.bool (q e)∧Step [] w w') {L:LN}{w:World}{v:Value}{l:List J3}(h:Kv L w.heap v l) :
  QJ prog 114 [v,.func (.func g) #[] #[]] w λr w'=>Step [] w w'∧Qu 3 w.heap.size w' r (ixs q 0 l):=by
 have hle:=h.arr.le
 refine QJ.of_W func114 rfl ntmps114 results114 (by simp) ?_
 refine Qc<|Qe<|Qc<|Qe<|Qf<|Qc<|Qb<|x (Qr h.arr rfl)<|Qb<|xe ?_
 refine Qg<|QA (α:=Nat×Value) [(5,7),(10,22)] (λz=>[(5,z.2),(10,.int .i64 z.1)]) (λz w'=>z.1≤l.length∧Step [] w w'∧Qu 3 w.heap.size w' z.2 (ixs q 0 (l.take z.1))) (λz=>l.length - z.1) (by rfl) (0,nS) ⟨rfl,rfl,trivial⟩
  ⟨Nat.zero_le _,Step.refl _ _,QP _ _ _ _⟩ ?_
 rintro ⟨k,vo⟩ g w1 ⟨hk,hs1,ho1⟩
 simp only[] at hk ho1
 refine Qc<|x (QB rfl rfl)<|xe ?_
 refine Qf<|QG rfl (λh11=>?_) (λh11=>?_)
 ·refine Qx ?_
  have hke:l.length≤k:=by have h10:¬(k:Int)<(l.length:Int):=h11;omega
  rw[List.take_of_length_le hke] at ho1
  refine Qc<|Qb<|Qe ?_
  exact Ql ⟨[_],⟨rfl,trivial⟩,hs1,ho1⟩
 have hlt:k<l.length:=by have h10:(k:Int)<(l.length:Int):=h11;omega
 have htk:=UE q hlt
 have hil:=KU q (l.take k) 0
 have htl:(l.take k).length=k:=by simp;omega
 refine Qi<|Qf<|Qg<|Qc<|Qb<|xig K5 (h.arr.ext hs1) rfl rfl hlt λa13 h13=>?_
 refine Zd (l[k]'hlt) λe he=>?_
 rw[he] at h13 htk
 refine x (QC h13 rfl rfl)<|xl rfl<|Qt (us:=[.string .empty,.bool false,.bool false,.bool false,.int .i64 0]) rfl λb7 w2 hs2 hb7 hB7=>x Qh <|
  xl rfl<|Qn (us:=Zf e) hB7 rfl rfl rfl rfl ⟨rfl,rfl,rfl,rfl,rfl,trivial⟩ λw3 hs3 hB7=>xe ?_
 have hs13:Step [] w1 w3:=hs2.then1 hs3 hb7
 refine Qc<|Qb<|x (Qq hB7 rfl rfl)<|xl rfl<|xc (first:=[]) (capt:=[]) rfl<|(hq e w3).mono ?_
 rintro r4 w4 ⟨rfl,hs4⟩
 have hs14:=hs13.trans hs4
 have ho4:=Qs ho1 hs14
 have hz4:=(hs1.trans hs14).size
 refine xe ?_
 refine Q5 rfl (λh17=>?_) (λh17=>?_)
 ·rw[if_pos h17] at htk
  refine Qw<|Qb<|Qb<|xl rfl<|QD (us:=[[.int .i64 k]]) rfl rfl (by decide) (by simp) ⟨rfl,rfl,trivial⟩ λb20 w5 hs5 hb20 hB20=>?_
  have ho5:=Qs ho4 hs5
  have hz5:=hs5.size
  refine xl rfl<|QZ (news:=[.int .i64 k]) (L:=[]) ho5 rfl rfl rfl (hB20.at (by simp)) (by simp[Value.oneCell']) (by omega) (by omega) λv6 w6 ho6 hs6 hn6 =>
   Qe ?_
  have hge:=Qk ho4
  refine Qw<|QO rfl rfl<|Qb<|xe ?_
  refine ⟨(k+1,v6),by simp only[];omega,⟨rfl,rfl,trivial⟩,hlt,((hs1.trans hs14).trans hs5).then hs6 (λb hb=>.inr (hge b hb).1),?_⟩
  simp only[]
  rw[htk];exact Qu.snoc ho6
 rw[if_neg (by rw[h17];decide),List.append_nil] at htk
 refine Qi<|Qw<|QO rfl rfl<|Qb<|xe ?_
 exact ⟨(k+1,vo),by simp only[];omega,⟨rfl,rfl,trivial⟩,hlt,hs1.trans hs14,by simp only[];rw[htk];exact ho4⟩
theorem QaT (e:J3) (w:World):QJ prog 109 [.agg (Zf e).toArray] w λr w'=>r=.bool (!e.co)∧Step [] w w':=by
 refine QJ.of_W func109 rfl ntmps109 results109 (by simp) ?_
 refine Qc<|xl rfl<|QQ (us:=Zf e) rfl λb1 w1 hs1 hb1 hB1=>Qe<|Qc<|x (Qa rfl)<|x (Qd hB1 rfl rfl)<|x (Zn rfl)<|Qe ?_
 exact Ql ⟨[_],⟨rfl,trivial⟩,rfl,hs1⟩
theorem Qc9 {L:LN}{w:World}{v:Value}{l:List J3}(h:Kv L w.heap v l):QJ prog 44 [v,.int .i64 2] w λr w'=>Step [] w w' ∧
  ∃vo,r=.tuple #[vo,.int .i64 (Jg l)]∧Qu 3 w.heap.size w' vo (if Jg l=0 then unc l else []):=by
 refine QJ.of_W func44 rfl ntmps44 results44 (by simp) ?_
 refine Qc<|x Qh<|Qe<|Qf<|Qc<|Qb<|xl rfl<|xf<|(UQ h).mono ?_
 rintro r1 w1 ⟨rfl,hs1⟩
 refine Qe<|Qc<|Qb<|x (Q8 rfl rfl)<|xe ?_
 refine Q4 rfl (λh13=>?_) (λh13=>?_)
 ·refine Qc<|Qb<|x Qh<|Qe ?_
  exact Ql ⟨[_,_],⟨rfl,rfl,trivial⟩,hs1,_,rfl,by rw[if_neg h13];exact QP _ _ _ _⟩
 have h14:Jg l=0:=Decidable.not_not.1 h13
 refine Qi<|Qc<|xl rfl<|Yn Ki λb15 w2 hs2 hb15 hm2=>xl rfl<|YT (k:=1) hm2 rfl rfl λw3 hs3 hm3=>xl rfl<|YT (k:=2) hm3 rfl rfl λw4 hs4 hm4 =>
  xl rfl<|YT (k:=3) hm4 rfl rfl λw5 hs5 hm5=>xl rfl<|YT (k:=4) hm5 rfl rfl λw6 hs6 hm6=>xl rfl<|YT (k:=5) hm6 rfl rfl λw7 hs7 hm7=>xl rfl<|YT (k:=6) hm7 rfl rfl λw8 hs8 hm8 =>
  Qb<|Qe ?_
 have hb15':w1.heap.size≤b15:=hb15
 have hs18:Step [] w1 w8:=(((((hs2.then1 hs3 hb15).then1 hs4 hb15).then1 hs5 hb15).then1 hs6 hb15).then1 hs7 hb15).then1 hs8 hb15
 refine Qc<|Qb<|Qb<|x (qL (k:=(2:Int)) hm8 rfl rfl rfl)<|Qb<|x (Qp rfl rfl)<|x (Qp rfl rfl)<|x Qh<|Qe<|Qf<|Qc<|Qb<|x (Zn rfl)<|xe ?_
 refine Zy rfl ?_
 refine Qi ?_
 have hs08:=hs1.trans hs18
 refine Qc<|Qb<|Qb<|xl rfl<|xf<|(QcZ QaT (h.ext hs08)).mono ?_
 rintro r9 w9 ⟨hs9,ho9⟩
 refine x Qh<|Qe<|Ql ⟨[_,_],⟨rfl,rfl,trivial⟩,hs08.trans hs9,_,by rw[h14];rfl,?_⟩
 rw[if_pos h14];exact Zo ho9 hs08.size
theorem jf (n:Int) (w:World):QJ prog 220 [.int .i64 n] w λr w'=>r=.bool (grt n)∧w'=w:=by
 refine QJ.of_W func220 rfl ntmps220 results220 (by simp) ?_
 refine Qc<|Qe<|QU (α:=Bool) [(2,8)] (λz=>[(2,.bool z)]) (λz w'=>w'=w∧z=grt n) (by rfl) ?_ ?_
 ·refine Qw<|Qb<|xb (QB rfl rfl) (λh4=>?_) (λh4=>?_)
  ·refine Qb<|xs rfl<|xs rfl<|x (Qm rfl)<|Qe ?_
   exact ⟨_,⟨rfl,trivial⟩,rfl,by unfold grt;rw[decide_eq_true h4];rfl⟩
  refine Qb<|Qb<|x (ZO rfl rfl)<|x (Qm rfl)<|Qe ?_
  exact ⟨_,⟨rfl,trivial⟩,rfl,by unfold grt;rw[decide_eq_false h4];rfl⟩
 rintro z g w1 ⟨rfl,rfl⟩
 exact Ql ⟨[_],⟨rfl,trivial⟩,rfl,rfl⟩
theorem QaM {sz:LI}{ls:List (Int×Int)}{k:Nat}(h:k<ls.length):YJ sz (pv (ls.map (·.1)) k) (ls.drop k)=if (ls[k]'h).1<0∨(sz.length:Int)≤(ls[k]'h).1 then 2 else if UC (pv (ls.map (·.1)) k) (ls[k]'h).1=true then 5 else if (ls[k]'h).2<0∨cget sz (ls[k]'h).1.toNat≤(ls[k]'h).2 then 2 else YJ sz (pv (ls.map (·.1)) (k+1)) (ls.drop (k+1)):=by
 rw[QX h,Jc (by simpa using h),List.getElem_map];rfl
theorem K9 {w:World}{vs vx vk vl:Value}{sz:LI}{ls:List (Int×Int)}{nm:ByteArray}(hS:QL [] w.heap vs sz) (hl:jQ [] w.heap vl ls) :
  QJ prog 170 [.agg #[vs,vx,vk],.agg #[.string nm,vl]] w λr w'=>r=.int .i64 (XK sz ls)∧Step [] w w':=by
 have hle:=hl.le
 have hsl:=hS.le
 refine QJ.of_W func170 rfl ntmps170 results170 (by simp) ?_
 refine Qc<|xl rfl<|QQ (us:=[vs,vx,vk]) rfl λb2 w1 hs1 hb2 hB2=>xl rfl<|QQ (us:=[.string nm,vl]) rfl λb3 w2 hs2 hb3 hB3=>Qe ?_
 have hW2:=hs1.trans hs2
 replace hB2:=hB2.ext hs2
 refine Qf<|Qc<|x (Qa rfl)<|x (Qd hB3 rfl rfl)<|x (Qr (hl.ext hW2) rfl)<|x (Q7 rfl rfl)<|xe ?_
 refine Q4 rfl (λh10=>?_) (λh10=>?_)
 ·refine Qc<|Qe ?_
  exact Ql ⟨[_],⟨rfl,trivial⟩,by unfold XK;rw[if_pos (by have h11:(ls.length:Int)=0:=h10;omega)];rfl,hW2⟩
 have hne:ls.length≠0:=by have h11:¬(ls.length:Int)=0:=h10;omega
 have hun:XK sz ls=YJ sz none ls:=by unfold XK;rw[if_neg hne]
 rw[hun]
 refine Qi<|Qf<|Qc<|x (Qa rfl)<|x (Qd hB3 rfl rfl)<|x (Qr (hl.ext hW2) rfl)<|Qb<|xe ?_
 refine Qg<|QA (α:=Nat) [(4,6),(14,61)] (λz=>[(14,.int .i64 z)]) (λz w'=>z≤ls.length∧Step [] w2 w'∧YJ sz (pv (ls.map (·.1)) z) (ls.drop z)=YJ sz none ls) (λz=>ls.length - z) (by rfl) 0 ⟨rfl,trivial⟩
  ⟨Nat.zero_le _,Step.refl _ _,rfl⟩ ?_
 rintro k g w3 ⟨hk,hs3,hck⟩
 have hW3:=hW2.trans hs3
 have hB23:=hB2.ext hs3
 have hB33:=hB3.ext hs3
 have hl3:=hl.ext hW3
 have hS3:=hS.ext hW3
 refine Qc<|x (QB rfl rfl)<|xe ?_
 refine Qf<|QG rfl (λh15=>?_) (λh15=>?_)
 ·refine Qx ?_
  have hke:ls.length≤k:=by have h16:¬(k:Int)<(ls.length:Int):=h15;omega
  rw[List.drop_of_length_le hke] at hck
  refine Qc<|Qe ?_
  exact Ql ⟨[_],⟨rfl,trivial⟩,by rw[←hck];rfl,hW3⟩
 have hlt:k<ls.length:=by have h16:(k:Int)<(ls.length:Int):=h15;omega
 rw[QaM hlt] at hck
 refine Qi<|Qf<|Qg<|Qc<|Qb<|xig ZZ hl3 rfl rfl hlt λa17 h17=>?_
 refine Zd (ls[k]'hlt) λe he=>?_
 rw[he] at h17 hck
 refine x (QC h17 rfl rfl)<|xl rfl<|Qt (us:=[.int .i64 0,.int .i64 0]) rfl λb6 w4 hs4 hb6 hB6=>x Qh<|xl rfl<|Qn (us:=QN e) hB6 rfl rfl rfl rfl ⟨rfl,rfl,trivial⟩ λw5 hs5 hB6=>xe ?_
 have hs35:Step [] w3 w5:=hs4.then1 hs5 hb6
 have hW5:=hs3.trans hs35
 refine Qg<|QU (α:=Bool) [(19,30)] (λz=>[(19,.bool z)]) (λz w'=>w'=w5∧z=decide (e.1<0∨(sz.length:Int)≤e.1)) (by rfl) ?_ ?_
 ·refine Qw<|x (Qa rfl)<|x (Qd hB6 rfl rfl)<|xb (QB rfl rfl) (λh22=>?_) (λh22=>?_)
  ·refine Qb<|xs rfl<|xs rfl<|xs rfl<|xs rfl<|xs rfl<|xs rfl<|x (Qm rfl)<|Qe ?_
   exact ⟨_,⟨rfl,trivial⟩,rfl,by first | exact bT (by omega) | exact bF (by omega) | exact bD (by omega)⟩
  refine Qb<|x (Qa rfl)<|x (Qd hB6 rfl rfl)<|x (Qa rfl)<|x (Qd (hB23.ext hs35) rfl rfl)<|x (Qr (hS3.ext hs35) rfl)<|x (ZR rfl rfl) <|
   x (Qm rfl)<|Qe ?_
  exact ⟨_,⟨rfl,trivial⟩,rfl,by first | exact bT (by omega) | exact bF (by omega) | exact bD (by omega)⟩
 rintro z g w6 ⟨rfl,rfl⟩
 refine Q4 rfl (λh19=>?_) (λh19=>?_)
 ·rw[if_pos h19] at hck
  refine Qc<|Qe ?_
  exact Ql ⟨[_],⟨rfl,trivial⟩,by rw[←hck];rfl,hW2.trans hW5⟩
 rw[if_neg h19] at hck
 have he0:e.1=((e.1.toNat:Nat):Int):=by omega
 have hes:e.1.toNat<sz.length:=by omega
 refine QU (α:=Bool) [(31,45)] (λz=>[(31,.bool z)]) (λz w'=>Step [] w6 w'∧z=UC (pv (ls.map (·.1)) k) e.1) (by rfl) ?_ ?_
 ·refine QS (Step [] w6) [(0,true),(1,true),(2,true),(3,true),(4,true),(5,true),(6,true),(7,true),(8,true),(9,true),(10,true),(11,true),(12,true),(13,true),(14,true)] mixed (by rfl) (by kernel_rfl) (Step.drew _ _) ?_
  refine p (λ_=>Qo)<|pb (λ_=>ZO rfl rfl) (λh33=>?_) (λh33=>?_)
  ·have hk0:k≠0:=by have h34:(0:Int)<(k:Int):=h33;omega
   have hk1:((k:Int) - 1)=((k - 1:Nat):Int):=by omega
   have hkl:k - 1<ls.length:=by omega
   refine p (λ_=>Qo)<|p (λ_=>Qa rfl)<|pq (λ_ hc=>Qd (hB6.ext hc) rfl rfl)<|p (λ_=>Qa rfl)<|pq (λ_ hc=>Qd ((hB33.ext hs35).ext hc) rfl rfl) <|
    p (λ_=>Qo)<|p (λ_=>Jp rfl rfl ⟨by omega,by omega⟩)<|Lg.pig (g:=QN) (i:=k - 1) rfl ZZ (hl3.ext hs35) rfl (congrArg (Value.int .i64) hk1) hkl λa41 h41=>p (λ_=>Zc rfl) <|
    pq (λ_ hc=>Qv ((h41.fld 0 _ rfl).ext hc) rfl)<|p (λ_=>XX rfl rfl)<|p (λ_=>Qm rfl)<|p (λ_=>Qh)<|pe ?_
   refine ⟨_,⟨rfl,trivial⟩,Step.drew _ _,?_⟩
   have:pv (ls.map (·.1)) k=some (ls[k - 1]'hkl).1:=by simp[pv,hk0,hkl]
   rw[this];rfl
  have hk0:k=0:=by have h34:¬(0:Int)<(k:Int):=h33;omega
  refine p (λ_=>Qo)<|ps<|ps<|ps<|ps<|ps<|ps<|ps<|ps<|ps<|ps<|p (λ_=>Qm rfl)<|p (λ_=>Qh)<|pe ?_
  exact ⟨false,⟨rfl,trivial⟩,Step.drew _ _,by simp[pv,hk0,UC]⟩
 rintro z g w7 ⟨hs7,rfl⟩
 have hW7:=hW5.trans hs7
 refine Q5 rfl (λh31=>?_) (λh31=>?_)
 ·rw[if_pos h31] at hck
  refine Qc<|Qe ?_
  exact Ql ⟨[_],⟨rfl,trivial⟩,by rw[←hck];rfl,hW2.trans hW7⟩
 rw[if_neg (by simp[h31])] at hck
 have hB67:=hB6.ext hs7
 refine QU (α:=Bool) [(46,60)] (λz=>[(46,.bool z)]) (λz w'=>Step [] w7 w'∧z=decide (e.2<0∨cget sz e.1.toNat≤e.2)) (by rfl) ?_ ?_
 ·refine QS (Step [] w7) [(0,true),(1,true),(2,true),(3,true),(4,true),(5,true),(6,true),(7,true),(8,true),(9,true),(10,true),(11,true),(12,true),(13,true),(14,true)] mixed (by rfl) (by kernel_rfl) (Step.drew _ _) ?_
  refine p (λ_=>Qa rfl)<|pq (λ_ hc=>Qd (hB67.ext hc) rfl rfl)<|pb (λ_=>QB rfl rfl) (λh49=>?_) (λh49=>?_)
  ·refine p (λ_=>Qo)<|ps<|ps<|ps<|ps<|ps<|ps<|ps<|ps<|ps<|p (λ_=>Qm rfl)<|p (λ_=>Qh)<|pe ?_
   exact ⟨_,⟨rfl,trivial⟩,Step.drew _ _,by first | exact bT (by omega) | exact bF (by omega) | exact bD (by omega)⟩
  refine p (λ_=>Qo)<|p (λ_=>Qa rfl)<|pq (λ_ hc=>Qd (hB67.ext hc) rfl rfl)<|p (λ_=>Qa rfl)<|pq (λ_ hc=>Qd (((hB23.ext hs35).ext hs7).ext hc) rfl rfl) <|
   p (λ_=>Qa rfl)<|pq (λ_ hc=>Qd (hB67.ext hc) rfl rfl)<|pic (i:=e.1.toNat) rfl ((hS3.ext hs35).ext hs7) rfl (congrArg (Value.int .i64) he0) hes λa57 h57=>pq (λ_ hc=>Qv (h57.ext hc) rfl) <|
   p (λ_=>ZR rfl rfl)<|p (λ_=>Qm rfl)<|p (λ_=>Qh)<|pe ?_
  exact ⟨_,⟨rfl,trivial⟩,Step.drew _ _,by first | exact bT (by omega) | exact bF (by omega) | exact bD (by omega)⟩
 rintro z g w8 ⟨hs8,rfl⟩
 have hW8:=hW7.trans hs8
 refine Q4 rfl (λh46=>?_) (λh46=>?_)
 ·rw[if_pos h46] at hck
  refine Qc<|Qe ?_
  exact Ql ⟨[_],⟨rfl,trivial⟩,by rw[←hck];rfl,hW2.trans hW8⟩
 rw[if_neg h46] at hck
 refine Qi<|Qw<|QO rfl rfl<|Qb<|xe ?_
 exact ⟨k+1,by omega,⟨rfl,trivial⟩,hlt,hW8,hck⟩
theorem QaL {sz:LI}{ls:List (Int×Int)}{k:Nat}(h:k<ls.length):Xn sz (pv (ls.map (·.1)) k) (ls.drop k)=if (ls[k]'h).1<0∨(sz.length:Int)≤(ls[k]'h).1 then 2 else if UC (pv (ls.map (·.1)) k) (ls[k]'h).1=true then 5 else if (ls[k]'h).2=0∨grt (ls[k]'h).2=true then 2 else Xn sz (pv (ls.map (·.1)) (k+1)) (ls.drop (k+1)):=by
 rw[QX h,Jc (by simpa using h),List.getElem_map];rfl
theorem Ko {w:World}{vs vx vk vl:Value}{sz:LI}{ls:List (Int×Int)}{nm:ByteArray}{bd:Int}(hS:QL [] w.heap vs sz) (hl:jQ [] w.heap vl ls) :
  QJ prog 172 [.agg #[vs,vx,vk],.agg #[.string nm,vl,.int .i64 bd]] w λr w'=>r=.int .i64 (YH sz ⟨nm,ls,bd⟩)∧Step [] w w':=by
 have hle:=hl.le
 have hsl:=hS.le
 refine QJ.of_W func172 rfl ntmps172 results172 (by simp) ?_
 refine Qc<|xl rfl<|QQ (us:=[vs,vx,vk]) rfl λb2 w1 hs1 hb2 hB2=>xl rfl<|QQ (us:=[.string nm,vl,.int .i64 bd]) rfl λb3 w2 hs2 hb3 hB3=>Qe ?_
 have hW2:=hs1.trans hs2
 replace hB2:=hB2.ext hs2
 refine Qf<|Qc<|x (Qa rfl)<|x (Qd hB3 rfl rfl)<|x (Qr (hl.ext hW2) rfl)<|x (Q7 rfl rfl)<|xe ?_
 refine Q4 rfl (λh10=>?_) (λh10=>?_)
 ·refine Qc<|Qe ?_
  exact Ql ⟨[_],⟨rfl,trivial⟩,by unfold YH;rw[if_pos (by have h11:(ls.length:Int)=0:=h10;show ls.length=0;omega)];rfl,hW2⟩
 have hne:ls.length≠0:=by have h11:¬(ls.length:Int)=0:=h10;omega
 have hun:YH sz ⟨nm,ls,bd⟩=if Xn sz none ls≠0 then Xn sz none ls else if grt bd=true then 2 else 0:=by unfold YH;rw[if_neg hne]
 rw[hun]
 refine Qi<|Qf<|Qc<|x (Qa rfl)<|x (Qd hB3 rfl rfl)<|x (Qr (hl.ext hW2) rfl)<|Qb<|xe ?_
 refine Qg<|QA (α:=Nat) [(4,6),(14,55)] (λz=>[(14,.int .i64 z)]) (λz w'=>z≤ls.length∧Step [] w2 w'∧Xn sz (pv (ls.map (·.1)) z) (ls.drop z)=Xn sz none ls) (λz=>ls.length - z) (by rfl) 0 ⟨rfl,trivial⟩
  ⟨Nat.zero_le _,Step.refl _ _,rfl⟩ ?_
 rintro k g w3 ⟨hk,hs3,hck⟩
 have hW3:=hW2.trans hs3
 have hB23:=hB2.ext hs3
 have hB33:=hB3.ext hs3
 have hl3:=hl.ext hW3
 have hS3:=hS.ext hW3
 refine Qc<|x (QB rfl rfl)<|xe ?_
 refine Qf<|QG rfl (λh15=>?_) (λh15=>?_)
 ·refine Qx ?_
  have hke:ls.length≤k:=by have h16:¬(k:Int)<(ls.length:Int):=h15;omega
  rw[List.drop_of_length_le hke] at hck
  have hck0:Xn sz none ls=0:=hck.symm
  rw[hck0,if_neg (λh=>h rfl)]
  refine Qf<|Qc<|x (Qa rfl)<|x (Qd hB33 rfl rfl)<|xl rfl<|xf<|(jf bd _).mono ?_
  rintro r4 w4 ⟨rfl,rfl⟩
  refine xe ?_
  refine Q5 rfl (λh58=>?_) (λh58=>?_)
  ·rw[if_pos h58]
   refine Qc<|Qe ?_
   exact Ql ⟨[_],⟨rfl,trivial⟩,rfl,hW3⟩
  rw[if_neg (by simp[h58])]
  refine Qi<|Qc<|Qe ?_
  exact Ql ⟨[_],⟨rfl,trivial⟩,rfl,hW3⟩
 have hlt:k<ls.length:=by have h16:(k:Int)<(ls.length:Int):=h15;omega
 rw[QaL hlt] at hck
 refine Qi<|Qf<|Qg<|Qc<|Qb<|xig ZZ hl3 rfl rfl hlt λa17 h17=>?_
 refine Zd (ls[k]'hlt) λe he=>?_
 rw[he] at h17 hck
 refine x (QC h17 rfl rfl)<|xl rfl<|Qt (us:=[.int .i64 0,.int .i64 0]) rfl λb6 w4 hs4 hb6 hB6=>x Qh<|xl rfl<|Qn (us:=QN e) hB6 rfl rfl rfl rfl ⟨rfl,rfl,trivial⟩ λw5 hs5 hB6=>xe ?_
 have hs35:Step [] w3 w5:=hs4.then1 hs5 hb6
 have hW5:=hs3.trans hs35
 refine Qg<|QU (α:=Bool) [(19,30)] (λz=>[(19,.bool z)]) (λz w'=>w'=w5∧z=decide (e.1<0∨(sz.length:Int)≤e.1)) (by rfl) ?_ ?_
 ·refine Qw<|x (Qa rfl)<|x (Qd hB6 rfl rfl)<|xb (QB rfl rfl) (λh22=>?_) (λh22=>?_)
  ·refine Qb<|xs rfl<|xs rfl<|xs rfl<|xs rfl<|xs rfl<|xs rfl<|x (Qm rfl)<|Qe ?_
   exact ⟨_,⟨rfl,trivial⟩,rfl,by first | exact bT (by omega) | exact bF (by omega) | exact bD (by omega)⟩
  refine Qb<|x (Qa rfl)<|x (Qd hB6 rfl rfl)<|x (Qa rfl)<|x (Qd (hB23.ext hs35) rfl rfl)<|x (Qr (hS3.ext hs35) rfl)<|x (ZR rfl rfl) <|
   x (Qm rfl)<|Qe ?_
  exact ⟨_,⟨rfl,trivial⟩,rfl,by first | exact bT (by omega) | exact bF (by omega) | exact bD (by omega)⟩
 rintro z g w6 ⟨rfl,rfl⟩
 refine Q4 rfl (λh19=>?_) (λh19=>?_)
 ·rw[if_pos h19] at hck
  refine Qc<|Qe ?_
  exact Ql ⟨[_],⟨rfl,trivial⟩,by rw[←hck,if_pos (by decide)];rfl,hW2.trans hW5⟩
 rw[if_neg h19] at hck
 have he0:e.1=((e.1.toNat:Nat):Int):=by omega
 have hes:e.1.toNat<sz.length:=by omega
 refine QU (α:=Bool) [(31,45)] (λz=>[(31,.bool z)]) (λz w'=>Step [] w6 w'∧z=UC (pv (ls.map (·.1)) k) e.1) (by rfl) ?_ ?_
 ·refine QS (Step [] w6) [(0,true),(1,true),(2,true),(3,true),(4,true),(5,true),(6,true),(7,true),(8,true),(9,true),(10,true),(11,true),(12,true),(13,true),(14,true)] mixed (by rfl) (by kernel_rfl) (Step.drew _ _) ?_
  refine p (λ_=>Qo)<|pb (λ_=>ZO rfl rfl) (λh33=>?_) (λh33=>?_)
  ·have hk0:k≠0:=by have h34:(0:Int)<(k:Int):=h33;omega
   have hk1:((k:Int) - 1)=((k - 1:Nat):Int):=by omega
   have hkl:k - 1<ls.length:=by omega
   refine p (λ_=>Qo)<|p (λ_=>Qa rfl)<|pq (λ_ hc=>Qd (hB6.ext hc) rfl rfl)<|p (λ_=>Qa rfl)<|pq (λ_ hc=>Qd ((hB33.ext hs35).ext hc) rfl rfl) <|
    p (λ_=>Qo)<|p (λ_=>Jp rfl rfl ⟨by omega,by omega⟩)<|Lg.pig (g:=QN) (i:=k - 1) rfl ZZ (hl3.ext hs35) rfl (congrArg (Value.int .i64) hk1) hkl λa41 h41=>p (λ_=>Zc rfl) <|
    pq (λ_ hc=>Qv ((h41.fld 0 _ rfl).ext hc) rfl)<|p (λ_=>XX rfl rfl)<|p (λ_=>Qm rfl)<|p (λ_=>Qh)<|pe ?_
   refine ⟨_,⟨rfl,trivial⟩,Step.drew _ _,?_⟩
   have:pv (ls.map (·.1)) k=some (ls[k - 1]'hkl).1:=by simp[pv,hk0,hkl]
   rw[this];rfl
  have hk0:k=0:=by have h34:¬(0:Int)<(k:Int):=h33;omega
  refine p (λ_=>Qo)<|ps<|ps<|ps<|ps<|ps<|ps<|ps<|ps<|ps<|ps<|p (λ_=>Qm rfl)<|p (λ_=>Qh)<|pe ?_
  exact ⟨false,⟨rfl,trivial⟩,Step.drew _ _,by simp[pv,hk0,UC]⟩
 rintro z g w7 ⟨hs7,rfl⟩
 have hW7:=hW5.trans hs7
 refine Q5 rfl (λh31=>?_) (λh31=>?_)
 ·rw[if_pos h31] at hck
  refine Qc<|Qe ?_
  exact Ql ⟨[_],⟨rfl,trivial⟩,by rw[←hck,if_pos (by decide)];rfl,hW2.trans hW7⟩
 rw[if_neg (by simp[h31])] at hck
 have hB67:=hB6.ext hs7
 refine QU (α:=Bool) [(46,54)] (λz=>[(46,.bool z)]) (λz w'=>Step [] w7 w'∧z=decide (e.2=0∨grt e.2=true)) (by rfl) ?_ ?_
 ·refine Qw<|x (Qa rfl)<|x (Qd hB67 rfl rfl)<|xb (Q7 rfl rfl) (λh49=>?_) (λh49=>?_)
  ·refine Qb<|xs rfl<|xs rfl<|xs rfl<|x (Qm rfl)<|Qe ?_
   exact ⟨_,⟨rfl,trivial⟩,Step.refl _ _,bT (.inl h49)⟩
  refine Qb<|x (Qa rfl)<|x (Qd hB67 rfl rfl)<|xl rfl<|xf<|(jf e.2 _).mono ?_
  rintro r9 w9 ⟨rfl,rfl⟩
  refine x (Qm rfl)<|Qe<|⟨grt e.2,⟨rfl,trivial⟩,Step.refl _ _,?_⟩
  cases hg:grt e.2 with
  | true=>exact bT (.inr rfl)
  | false=>exact bF (λh=>by rcases h with h | h;exact h49 h;cases h)
 rintro z g w8 ⟨hs8,rfl⟩
 have hW8:=hW7.trans hs8
 refine Q4 rfl (λh46=>?_) (λh46=>?_)
 ·rw[if_pos h46] at hck
  refine Qc<|Qe ?_
  exact Ql ⟨[_],⟨rfl,trivial⟩,by rw[←hck,if_pos (by decide)];rfl,hW2.trans hW8⟩
 rw[if_neg h46] at hck
 refine Qi<|Qw<|QO rfl rfl<|Qb<|xe ?_
 exact ⟨k+1,by omega,⟨rfl,trivial⟩,hlt,hW8,hck⟩
end Go.Proofs.YtdffckgdcegpaaaGreatDoor
