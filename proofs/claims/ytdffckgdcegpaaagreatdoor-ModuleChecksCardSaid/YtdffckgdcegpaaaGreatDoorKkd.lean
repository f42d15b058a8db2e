/- Merged out of 35 texts. -/
import Derived.Test.YtdffckgdcegpaaaGreatDoorKkc
import Derived.Test.YtdffckgdcegpaaaGreatDoorKka
import Derived.Test.YtdffckgdcegpaaaGreatDoorKkb
import Derived.Laws.IdiomStrings
import Derived.Shelf.SortM.Plain
import Derived.Shelf.SortM.SortNone
import Derived.Shelf.SlicesE.Compact
import Derived.Shelf.SlicesE.DeleteFunc
import Derived.Ground.SlgmProg
import Derived.Ground.SlgnProg
import Derived.Ground.SlgfProg
import Derived.Test.YtdffckgdcegpaaaGreatDoorProg
namespace Go.Lg
open Go.RowKit
def UP (P:Program) (all:List Oper) (C:World→Prop) (K:LN→Fr→World→Prop):List (Nat×Bool)→LN→Fr→World→Prop
 | [],own,f,w=>K own f w
 | (j,true)::l,own,f,w=>Z9 all f (Q4 all j)=true∧∃v,(∀w',(UZ (Q4 all j)=true→C w')→(execOp (ev f) (Q4 all j)).run P w'=.ok (.value v) w')∧UP P all C K l own (QX f (Q4 all j).dst v) w
 | (j,false)::l,own,f,w=>Z9 all f (Q4 all j)=true∧∀w1,Step [] w w1→C w1→XO P (Q4 all j) f w1 λf' w'=>C w'∧∃own',Step own w1 w'∧(∀b∈own',b∈own∨(w1.heap.size≤b∧b<w'.heap.size))∧UP P all C K l own' f' w'
section
variable {P:Program} {n:Nat} {f:Fr} {w:World} {all:List Oper} {C:World→Prop} {K:Fr→World→Prop} {KF:LN→Fr→World→Prop}
theorem UP.ext (hK:∀own f w w',KF own f w→Step [] w w'→KF own f w'):∀{l:List (Nat×Bool)}{own:LN}{f:Fr}{w w':World},UP P all C KF l own f w→Step [] w w'→UP P all C KF l own f w'
 | [],_,_,_,_,h,hs=>hK _ _ _ _ h hs
 | (_,true)::_,_,_,_,_,h,hs=>by
  obtain ⟨hg,v,hv,hx⟩:=h
  exact ⟨hg,v,hv,UP.ext hK hx hs⟩
 | (_,false)::_,_,_,_,_,h,hs=>⟨h.1,λw1 h1 hc=>h.2 w1 (hs.trans h1) hc⟩
structure Fl2 (P:Program) (all:List Oper) (C:World→Prop) (K:Fr→World→Prop) (KF:LN→Fr→World→Prop) (i d:Nat) (rest:List (Nat×Bool)) (Φ:Value→World→Prop) (Dc:List (Nat×Nat)) (f1:Fr):Prop where
 stab:∀v (own:LN) w w',Φ v w→Step own w w'→(∀b∈ow v,b∉own)→Φ v w'
 spec:∀f w,(∀t,Xf Dc t=false→f t=f1 t)→C w→XO P (Q4 all i) f w λf' w'=>Step [] w w'∧C w'∧Φ (f' d) w'∧∀b∈ow (f' d),w.heap.size≤b∧b<w'.heap.size
 fin:∀own f w,KF own f w→∀v,C w→Φ v w→(∀b∈ow v,b∉own∧b<w.heap.size)→XP P all C K rest (QX f (some d) v) w
 mono:∀own f w w',KF own f w→Step [] w w'→KF own f w'
attribute [local semireducible] XP in
theorem Vw {i d:Nat}{rest:List (Nat×Bool)}{Φ:Value→World→Prop}{Dc:List (Nat×Nat)}{f1:Fr}(hF:Fl2 P all C K KF i d rest Φ Dc f1) (hs:Region.noSelect all.toArray=true) {v:Value}:∀(l:List (Nat×Bool)) (own:LN) (f:Fr) (w:World),Z5 all d l=true→UP P all C KF l own f w→C w→Φ v w →
  (∀b∈ow v,b∉own∧b<w.heap.size)→XP P all C K (l++rest) (QX f (some d) v) w
 | [],own,f,w,_,h,hC,hv,hb=>hF.fin own f w h v hC hv hb
 | (j,q)::l,own,f,w,hfr,h,hC,hv,hb=>by
  simp only[Z5,List.all_cons,Bool.and_eq_true,Bool.not_eq_true',List.contains_eq_mem,decide_eq_false_iff_not,beq_eq_false_iff_ne,ne_eq] at hfr
  obtain ⟨⟨h1,h2⟩,hfr⟩:=hfr
  have hfr':Z5 all d l=true:=by simpa[Z5] using hfr
  have hsel:∀cs b,(Q4 all j).op≠.select cs b:=by
   intro cs b
   cases ho:all[j]? with
   | none =>
    have:Q4 all j=default:=by
     clear h h1 h2 hfr hfr'
     have key:∀(l:List Oper) (j:Nat),l[j]?=none→Q4 l j=default:=by
      intro l
      induction l with
      | nil=>intro j _;rfl
      | cons a l ih=>intro j hj;cases j with | zero=>simp at hj | succ j=>exact ih j (by simpa using hj)
     exact key all j ho
    rw[this]
    intro e;cases e
   | some o=>rw[Zk ho];exact Region.noSelect_spec hs j o cs b (by simpa using ho)
  have hd:∀e,some d=some e→e∉(Q4 all j).looksAt all.toArray:=λe he=>by cases he;exact h1
  cases q with
  | true =>
   obtain ⟨hg,u,hu,hx⟩:=h
   simp only[List.cons_append,XP]
   rw[X1 (Q4 all j) f (some d) v hd,hg,cond_true,cond_true]
   refine ⟨u,λw' hc=>?_,?_⟩
   ·rw[YU (all:=all) hsel f (some d) v hd];exact hu w' hc
   ·rw[JR f v u (λe he=>by cases he;exact h2)]
    exact Vw hF hs l own _ w hfr' hx hC hv hb
  | false =>
   simp only[List.cons_append,XP]
   rw[X1 (Q4 all j) f (some d) v hd,h.1,cond_true,cond_false]
   refine QbR (all:=all) hsel h1 h2 (λu w' hx=>?_) (h.2 w (Step.refl _ _) hC)
   obtain ⟨hC',own',hst,how,hx⟩:=hx
   refine ⟨.inr (.inr hC'),Vw hF hs l own' _ w' hfr' hx hC' (hF.stab v own w w' hv hst (λb hbb=>(hb b hbb).1)) (λb hbb=>⟨λhm=>?_,Nat.lt_of_lt_of_le (hb b hbb).2 hst.size⟩)⟩
   rcases how b hm with h3 | h3
   ·exact (hb b hbb).1 h3
   ·exact Nat.lt_irrefl _ (Nat.lt_of_lt_of_le (hb b hbb).2 h3.1)
theorem QaA {i d:Nat}{rest:List (Nat×Bool)}{Φ:Value→World→Prop}{Dc:List (Nat×Nat)}{f1:Fr}(hF:Fl2 P all C K KF i d rest Φ Dc f1) (hs:Region.noSelect all.toArray=true) (hg:(Q4 all i).guard=none) (hd:(Q4 all i).dst=some d):∀(l:List (Nat×Bool)) (ls:Array Bool) (own:LN) (f:Fr) (w:World),ls.size=all.length→Z5 all d l=true→Z2 all Dc l=true→(∀t,Xf Dc t=false→f t=f1 t) →
  UP P all C KF l own f w→C w→(∀b∈own,b<w.heap.size)→UC all.toArray i rest l ls=true→XA P all C K (l.length+1+rest.length) ls f w
 | [],ls,own,f,w,hsz,hfr,hin,hk1,h,hC,hown,hp=>by
  simp only[UC,Bool.and_eq_true,beq_iff_eq] at hp
  obtain ⟨hr,hp⟩:=hp
  rw[show ([]:List (Nat×Bool)).length+1+rest.length=rest.length+1 by simp;omega]
  refine Jh (λh0=>(by rw[h0] at hr;cases hr)) ?_
  rw[hr]
  intro k hk o ho
  have hki:k=i:=by simpa using hk
  subst hki
  have hoi:=Zk ho
  have hx:=hF.spec f w hk1 hC
  rw[hoi] at hg hd hx
  rw[KT hg,cond_true]
  refine hx.mono λv w' hx=>?_
  rw[hd] at hx ⊢
  obtain ⟨h1,h2,h3,h4⟩:=hx
  simp only[QX,Yr] at h3 h4
  refine ⟨.inr (.inr h2),Zx hs rest _ _ _ (by simpa using hsz) (.inl h2) hp (hF.fin own f w' (hF.mono own f w w' h h1) v h2 h3 (λb hb=>⟨λhm=>Nat.lt_irrefl _ (Nat.lt_of_lt_of_le (hown b hm) (h4 b hb).1),(h4 b hb).2⟩))⟩
 | (j,true)::l,ls,own,f,w,hsz,hfr,hin,hk1,h,hC,hown,hp=>by
  simp only[UC,Bool.and_eq_true] at hp
  obtain ⟨⟨hr,hf⟩,hp'⟩:=hp
  have hri:j∈Region.ready .any all.toArray ls:=by simpa using hr
  have e:(List.length ((j,true)::l))+1+rest.length=(l.length+1+rest.length)+1:=by simp;omega
  rw[e]
  have hfr':Z5 all d l=true:=by simp only[Z5,List.all_cons,Bool.and_eq_true] at hfr;exact hfr.2
  simp only[Z2,List.all_cons,Bool.and_eq_true] at hin
  have hin':Z2 all Dc l=true:=hin.2
  cases ho:all[j]? with
  | none =>
   exfalso
   obtain ⟨_,o,hoo,_⟩:=mem_ready.1 hri
   simp[ho] at hoo
  | some o =>
   obtain ⟨hgj,v,hv,hx⟩:=h
   rw[Zk ho] at hgj hv hx
   have hsel:∀(j:Nat) (o:Oper) cs b,all[j]?=some o→o.op≠.select cs b:=λj o cs b hj=>Region.noSelect_spec hs j o cs b (by simpa using hj)
   have hfree:=λk ok hk=>Region.free_spec (ops:=all.toArray) (md:=.any) (i:=j) (oi:=o) (listed:=ls) (by simpa using ho) hf k ok (by simpa using hk)
   exact YV (v:=v) (D:=λw=>UZ o=true→C w) ho (λ_ h=>h) hsel _ ls f w (λ_=>hC) hfree hri (.inl ⟨hgj,hv⟩) (QaA hF hs hg hd l _ own _ w (by simpa using hsz) hfr' hin' (by have:=JD (v:=v) hin.1 hk1;rw[Zk ho] at this;exact this) hx hC hown hp')
 | (j,false)::l,ls,own,f,w,hsz,hfr,hin,hk1,h,hC,hown,hp=>by
  simp only[UC,Bool.and_eq_true,List.all_eq_true,Bool.or_eq_true,beq_iff_eq,Bool.not_eq_true'] at hp
  obtain ⟨⟨⟨hne,hr⟩,hpl⟩,hp'⟩:=hp
  have e:(List.length ((j,false)::l))+1+rest.length=(l.length+1+rest.length)+1:=by simp;omega
  rw[e]
  have hfr':Z5 all d l=true:=by simp only[Z5,List.all_cons,Bool.and_eq_true] at hfr;exact hfr.2
  simp only[Z2,List.all_cons,Bool.and_eq_true] at hin
  have hin':Z2 all Dc l=true:=hin.2
  refine Jh (λh0=>(by rw[h0] at hne;cases hne)) ?_
  intro k hk o ho
  have hoi:=Zk ho
  have hsz':(ls.setIfInBounds k true).size=all.length:=by simpa using hsz
  by_cases hki:k=i
  ·subst hki
   have hx:=hF.spec f w hk1 hC
   rw[hoi] at hg hd hx
   rw[KT hg,cond_true]
   refine hx.mono λv w' hx=>?_
   rw[hd] at hx ⊢
   obtain ⟨h1,h2,h3,h4⟩:=hx
   simp only[QX,Yr] at h3 h4
   refine ⟨.inr (.inr h2),?_⟩
   have hx:=Vw hF hs ((j,false)::l) own f w' hfr (UP.ext hF.mono h h1) h2 h3 (λb hb=>⟨λhm=>Nat.lt_irrefl _ (Nat.lt_of_lt_of_le (hown b hm) (h4 b hb).1),(h4 b hb).2⟩)
   have:=Zx hs ((j,false)::(l++rest)) _ _ _ hsz' (.inl h2) hpl hx
   rw[show ((j,false)::(l++rest)).length=l.length+1+rest.length by simp;omega] at this
   exact this
  ·have hkj:k=j:=(hr k hk).resolve_right hki
   subst hkj
   have h1:=h.1
   have h2:=h.2 w (Step.refl _ _) hC
   rw[hoi] at h1 h2
   rw[h1,cond_true]
   refine h2.mono λv w' hx=>?_
   obtain ⟨hC',own',hst,how,hx⟩:=hx
   refine ⟨.inr (.inr hC'),QaA hF hs hg hd l _ own' _ w' hsz' hfr' hin' (by have:=JD (v:=v) hin.1 hk1;rw[hoi] at this;exact this) hx hC' (λb hb=>?_) hp'⟩
   rcases how b hb with h3 | h3
   ·exact Nat.lt_of_lt_of_le (hown b h3) hst.size
   ·exact h3.2
theorem UP.keeps {D:List (Nat×Nat)}{f0:Fr}:∀(l:List (Nat×Bool)) (own:LN) (f:Fr) (w:World),Z2 all D l=true→(∀t,Xf D t=false→f t=f0 t)→UP P all C KF l own f w→UP P all C (λo f' w'=>(∀t,Xf D t=false→f' t=f0 t)∧KF o f' w') l own f w
 | [],own,f,w,_,hf,h=>⟨hf,h⟩
 | (j,true)::l,own,f,w,hd,hf,h=>by
  simp only[Z2,List.all_cons,Bool.and_eq_true] at hd
  obtain ⟨hg,v,hv,hx⟩:=h
  exact ⟨hg,v,hv,UP.keeps l own _ _ hd.2 (JD hd.1 hf) hx⟩
 | (j,false)::l,own,f,w,hd,hf,h=>by
  simp only[Z2,List.all_cons,Bool.and_eq_true] at hd
  refine ⟨h.1,λw1 h1 hc=>XO.mono (λv w' hx=>?_) (h.2 w1 h1 hc)⟩
  obtain ⟨hC',own',hst,how,hx⟩:=hx
  exact ⟨hC',own',hst,how,UP.keeps l own' _ _ hd.2 (JD hd.1 hf) hx⟩
theorem f2p {j:Nat}{l:List (Nat×Bool)}{own:LN}{v:Value}(hr:∀w',(execOp (ev f) (Q4 all j)).run P w'=.ok (.value v) w') (h:UP P all C KF l own (QX f (Q4 all j).dst v) w)
  (hg:Z9 all f (Q4 all j)=true:=by rfl):UP P all C KF ((j,true)::l) own f w:=⟨hg,v,λw' _=>hr w',h⟩
theorem f2k {j:Nat}{l:List (Nat×Bool)}{own:LN}(h:∀w1,Step [] w w1→C w1→XO P (Q4 all j) f w1 λf' w'=>C w'∧∃own',Step own w1 w'∧(∀b∈own',b∈own∨(w1.heap.size≤b∧b<w'.heap.size))∧UP P all C KF l own' f' w')
  (hg:Z9 all f (Q4 all j)=true:=by rfl):UP P all C KF ((j,false)::l) own f w:=⟨hg,h⟩
theorem f2e {own:LN}(h:KF own f w):UP P all C KF [] own f w:=h
theorem qX {Q:Exit→Fr→World→Prop}{id:Nat}{α:Type}(C:World→Prop) (pre l:List (Nat×Bool)) (i d:Nat) (rest:List (Nat×Bool)) (own:LN) (D Dc:List (Nat×Nat)) (S:α→List (Nat×Value)) (I:α→LN→World→Prop) (Φ:Value→World→Prop) (hm:P.follows .mixedOrders=true) (hn:XG n all=true)
  (hp:QeS all pre l i rest=true) (hin:(Z2 all D pre && Z2 all D l && Z2 all Dc l)=true) (hd:(Q4 all i).dst=some d) (hC:C { w with drawn:=w.drawn+1 }) (hown:∀b∈own,b<w.heap.size)
  (stab:∀v (own:LN) w w',Φ v w→Step own w w'→(∀b∈ow v,b∉own)→Φ v w') (mono:∀z own w w',I z own w→Step [] w w'→I z own w')
  (fin:∀z g own w v,I z own w→C w→Φ v w→(∀b∈ow v,b∉own∧b<w.heap.size)→XP P all C (λf w=>Q .normal f w) rest (QX (zb (S z) (mix D f g)) (some d) v) w)
  (h:XP P all C (λf1 _=>(∀g w,C w→XO P (Q4 all i) (mix Dc f1 g) w λf' w'=>Step [] w w'∧C w'∧Φ (f' d) w'∧∀b∈ow (f' d),w.heap.size≤b∧b<w'.heap.size)∧UP P all C (λo f' w'=>∃z,Xm f' (S z)∧I z o w') l own f1 { w with drawn:=w.drawn+1 }) pre f { w with drawn:=w.drawn+1 }):W P n (.region id all.toArray true) Q f w:=by
 rw[Bool.and_eq_true,Bool.and_eq_true] at hin
 simp only[QeS,Bool.and_eq_true,beq_iff_eq,Option.isNone_iff_eq_none] at hp
 obtain ⟨⟨⟨⟨⟨hs,hl⟩,hq⟩,hgo⟩,hg⟩,hfr⟩:=hp
 rw[hd] at hfr
 refine Ko C hm hn ?_
 have h1:=YB (K:=λf w=>Q .normal f w) (m:=l.length+1+rest.length) hs pre (Array.replicate all.length false) f _ hC hq
  (B:=λf1 _=>Fl2 P all C (λf w=>Q .normal f w) (λo f' w'=>(∀t,Xf D t=false→f' t=f t)∧∃z,Xm f' (S z)∧I z o w') i d rest Φ Dc f1∧UP P all C (λo f' w'=>(∀t,Xf D t=false→f' t=f t)∧∃z,Xm f' (S z)∧I z o w') l own f1 { w with drawn:=w.drawn+1 })
  (λf1 hB=>QaA hB.1 hs hg hd l (ZU pre (Array.replicate all.length false)) own f1 _ (by rw[YD];simp) hfr hin.2 (λ_ _=>rfl) hB.2 hC hown hgo)
  (XP.keeps_mono _ _ _ (XP.keeps pre f _ hin.1.1 (λ_ _=>rfl) h) (λf1 w1 hx=>⟨⟨stab,?_,?_,?_⟩,UP.keeps l own _ _ hin.1.2 hx.1 hx.2.2⟩))
 ·rw[hl] at h1
  exact h1
 ·intro f' w' hk hC'
  have:=hx.2.1 f' w' hC'
  rw[JA hk] at this
  exact this
 ·rintro o f' w' ⟨hk,z,hs,hi⟩ v hC' hv hb
  have:=fin z f' o w' v hi hC' hv hb
  rw[JA hk,YJ hs] at this
  exact this
 ·rintro o f' w' w'' ⟨hk,z,hs,hi⟩ hst
  exact ⟨hk,z,hs,mono z o _ _ hi hst⟩
end
attribute [irreducible] UP
end Go.Lg
namespace Go.Proofs.YtdffckgdcegpaaaGreatDoor
open Go.Lg
abbrev ZW:LV:=[nS,nS,nS,nS,nS]
abbrev Um:LV:=[nS,.int .i64 0,nS,nS]
theorem YL {a:Array UInt8}(h:a.size≤100):(⟨a⟩:ByteArray).size≤9223372036854775807:=by
 show a.size≤_
 omega
def jX (N M:Nat):LN:=(List.range M).filter λb=>decide (N≤b)
theorem Yl {N M b:Nat}:b∈jX N M↔N≤b∧b<M:=by
 unfold jX
 rw[List.mem_filter,List.mem_range,decide_eq_true_iff]
 exact And.comm
open Go.Proofs.Tryz
def cmF (c:Zu) (l:List (LI)):LI:=l.zipIdx.filterMap λp=>if (Kv c.ex c.cs p.1).2.2=true then some (p.2:Int) else none
theorem Qfi {c:Zu}{l:List (LI)}{k:Nat}(h:k<l.length):cmF c (l.take (k+1))=cmF c (l.take k)++(if (Kv c.ex c.cs (l[k]'h)).2.2=true then [(k:Int)] else []):=by
 unfold cmF
 rw[List.take_succ_eq_append_getElem h,List.zipIdx_append,List.filterMap_append]
 have e:0+(l.take k).length=k:=by rw[List.length_take];omega
 rw[e]
 simp only[List.zipIdx_cons,List.zipIdx_nil,List.filterMap_cons,List.filterMap_nil]
 by_cases hv:(Kv c.ex c.cs (l[k]'h)).2.2=true
 ·rw[if_pos hv,if_pos hv]
 ·rw[if_neg hv,if_neg hv]
theorem Qht (c:Zu) (l:List (LI)):(cmF c l).length≤l.length:=by
 unfold cmF
 refine Nat.le_trans (List.length_filterMap_le _ _) ?_
 rw[List.length_zipIdx];exact Nat.le_refl _
def QbG (c:Zu):Bool:=match sync (auts c.co),sync (auts c.co++auts c.rq) with
 | some (pa,ps),some (_,ts)=>ts.all λt=>decide ((wrf c.rq (t.drop c.co.length) (enb pa (plx ps (t.take c.co.length)))).length≤1)
 | _,_=>false
def cmB (c:Zu):LI:=match sync (auts c.co++auts c.rq) with
 | some (sa,ts)=>cmF c (ts.map (·.take c.co.length))++[sa.st]
 | none=>[]
structure jG (b2 base:Nat) (W:World) (xa:Value) (st:Int) (xm vb ve:Value) (bad:LI) (es:List Ed):Prop where
 B:Q0 W.heap b2 58 [xa,.int .i64 st,xm,ve]
 b:Qt 3 base W vb bad
 e:W.ownsRow base 144 3 ve es.length (es.flatMap Qy)
 dj:Dj vb ve
 bd:∀e∈es,(0≤e.1∧e.1<1099511627776)∧0≤e.2.1∧e.2.1<1099511627776
theorem jG.ext {b2 base:Nat}{W W':World}{xa:Value}{st:Int}{xm vb ve:Value}{bad:LI}{es:List Ed}(h:jG b2 base W xa st xm vb ve bad es) (hs:Step [] W W'):jG b2 base W' xa st xm vb ve bad es :=
 ⟨h.B.ext hs,Qq h.b hs,Qq h.e hs,h.dj,h.bd⟩
theorem jG.addB {b2 base:Nat}{W W':World}{xa:Value}{st:Int}{xm vb vb' ve:Value}{bad bad':LI}{es:List Ed}(h:jG b2 base W xa st xm vb ve bad es) (hb:b2<base) (hs:Step (ob vb) W W') (ho:Qt 3 base W' vb' bad') (hn:∀b∈ob vb',b∈ob vb∨W.heap.size≤b):jG b2 base W' xa st xm vb' ve bad' es :=
 ⟨h.B.step hs (QN h.b hb),ho,Qj h.e hs (λb hb hm=>h.dj b hm hb),λb hbv hbe=>(hn b hbv).elim (λh1=>h.dj b h1 hbe) (λh1=>by have:=QQ h.e b hbe;omega),h.bd⟩
theorem jG.addE {b2 base:Nat}{W W1 W':World}{xa:Value}{st:Int}{xm vb ve ve':Value}{bad:LI}{es:List Ed}{e:Ed}(h:jG b2 base W xa st xm vb ve bad es) (hb:b2<base) (hs:Step (ob ve) W W1) (ho:W1.ownsRow base 144 3 ve' (es.length+1) (es.flatMap Qy++Qy e)) (hn:∀b∈ob ve',b∈ob ve∨W.heap.size≤b)
  (hs2:Step [b2] W1 W') (hB:Q0 W'.heap b2 58 [xa,.int .i64 st,xm,ve']) (he:(0≤e.1∧e.1<1099511627776)∧0≤e.2.1∧e.2.1<1099511627776):jG b2 base W' xa st xm vb ve' bad (es++[e]):=by
 have hge:=Qk ho
 refine ⟨hB,Qj (Qj h.b hs (λb hb hm=>h.dj b hb hm)) hs2 (λb hb' hm=>by have:=(Qk h.b b hb').1;rw[List.mem_singleton.1 hm] at this;omega),?_,λb hbv hbe=>(hn b hbe).elim (λh1=>h.dj b hbv h1) (λh1=>by have:=QQ h.b b hbv;omega),λd hd=>?_⟩
 ·have h9:=Qj ho hs2 (λb hb' hm=>by have:=(hge b hb').1;rw[List.mem_singleton.1 hm] at this;omega)
  rw[List.length_append,List.flatMap_append]
  simpa using h9
 ·rcases List.mem_append.1 hd with hd | hd
  ·exact h.bd d hd
  ·rw[List.mem_singleton.1 hd];exact he
theorem jG.stb {b2 base B:Nat}{xa:Value}{st:Int}{xm vb ve:Value}{bad:LI}{es:List Ed}:ZT B (λW=>jG b2 base W xa st xm vb ve bad es) :=
 λW W' X h hs hX=>⟨ZT.blk W W' X h.B hs hX,ZT.row W W' X h.b hs hX,ZT.row W W' X h.e hs hX,h.dj,h.bd⟩
set_option maxHeartbeats 40000000 in
theorem jE {w:World}{c:CL}(h0:Zv [] w.heap c) (hkb:Kb w 4096) (hE0:Yv c.cel=0) (hst:(spc c.cel).a.st<4096) (h1:QbG c.cel=true) :
  QL prog 197 [c.val] w λr w'=>Step [] w w'∧∃xa xm xe vb,r=.tuple #[.agg #[xa,.int .i64 ((spc c.cel).a.st+1),xm,xe],vb,.int .i64 0]∧ZL [xa,xm,xe]∧Qt 3 w.heap.size w' vb (cmB c.cel):=by
 refine QL.of_G 20 func197 rfl ntmps197 results197 (by simp) ?_
 refine QZ<|QK (by rfl) (by rfl) ?_
 refine xl rfl<|QR (us:=c.cells) rfl λb1 w1 hs1 hb1 hB1=>xl rfl<|Qu (us:=Um) rfl λb2 w2 hs2 hb2 hB2=>x Qh<|Qe ?_
 have hs02:=hs1.trans hs2
 have hz1:=hs1.size
 have hz2:=hs2.size
 have hl1:=hB1.lt
 have hl2:=hB2.lt
 have hB12:=hB1.ext hs2
 have hc2:Zv [b2] w2.heap c:=(h0.up (L':=[b2]) (λb hb=>.inr (by rw[List.mem_singleton.1 hb];omega))).ext hs02
 refine QZ<|QK (by rfl) (by rfl) ?_
 refine x (Qr hB12 rfl rfl)<|xl rfl<|xf<|(jt (h0.ext hs02) (hkb.ext hs02)).mono ?_
 rintro r3 w3 ⟨hs3,vp,rfl,_,hgood⟩
 obtain ⟨b,q,rfl,rfl,hQ,_,hF3⟩:=hgood hE0
 rw[hE0]
 have hs03:=hs02.trans hs3
 have hA3:Xt [b2] b w3.heap q:=(hF3 [b2] (λx hx=>by rw[List.mem_singleton.1 hx];exact hl2)).2 hc2
 have hsp:=jQ hQ.p hQ.s
 have hst':q.s.a.st<4096:=by rw[hsp] at hst;exact hst
 have hcb:cmB q.c.cel=cmF q.c.cel ((q.ts.map (·.2)).map (·.take q.c.cel.co.length))++[q.s.a.st]:=by unfold cmB;rw[hQ.s]
 have hone:∀t∈q.ts.map (·.2),(wrf q.c.cel.rq (t.drop q.c.cel.co.length) (enb q.p.a (plx (q.qs.map (·.2)) (t.take q.c.cel.co.length)))).length≤1:=λt ht=>by
  unfold QbG at h1
  rw[hQ.p,hQ.s] at h1
  exact of_decide_eq_true (List.all_eq_true.1 h1 t ht)
 have hsa:(spc q.c.cel).a.st=q.s.a.st:=by rw[hsp]
 rw[hsa,hcb]
 refine Qb<|x (Qp rfl rfl)<|x (Qp rfl rfl)<|x Qh<|Qe<|QZ<|QZ<|QK (by rfl) (by rfl) ?_
 refine Qb<|x (Q9 rfl rfl)<|xe ?_
 refine JZ rfl<|Z7 ?_
 refine QZ<|QK (by rfl) (by rfl) ?_
 refine Qb<|x (QI rfl)<|x (Qa rfl)<|x (Qa rfl)<|x (Qd hA3.B rfl rfl)<|xl rfl<|Qu (us:=[.int .i64 0]) rfl λb6 w4 hs4 hb6 hB6=>xl rfl<|QG (j:=0) (u:=.int .i64 q.s.a.st) hB6 rfl rfl (by simp) rfl λw5 hs5 hB65=>xe ?_
 have hs35:Step [] w3 w5:=hs4.then1 hs5 hb6
 have hA5:=hA3.ext hs35
 have hz3:=hs3.size
 have hz35:=hs35.size
 have hl6:=hB65.lt
 have hB25:Q0 w5.heap b2 58 Um:=(hB2.ext hs3).ext hs35
 have hB65':Q0 w5.heap b6 3 [.int .i64 q.s.a.st]:=hB65
 have hst0:0≤q.s.a.st:=by
  have:=(Y9 (λa ha=>by
   rcases List.mem_append.1 ha with ha | ha
   ·exact Yd (ZS hQ.ok).co a ha
   ·exact Yd (ZS hQ.ok).rq a ha) hQ.s).1.st
  omega
 refine QZ<|QZ<|QK (by rfl) (by rfl) ?_
 refine x (Qd hB65' rfl rfl)<|x (ZN rfl rfl)<|xe ?_
 refine QhH rfl (λh32=>absurd (show q.s.a.st≥4096 from h32) (by omega)) (λh32=>?_)
 refine Z7 ?_
 have hd5:Step [] w5 { w5 with drawn:=w5.drawn+1 }:=Step.drew _ _
 refine QZ<|UW (Step [] w5) [(0,true),(1,true),(2,true),(3,true),(4,true),(6,true),(7,true),(8,true),(9,true),(10,true),(11,true),(12,true),(14,true),(15,true),(16,true),(17,true),(18,true),(5,false),(13,false),(19,false),(20,true),(21,false)] mixed (by rfl) (by rfl) (by kernel_rfl) hd5 ?_
 refine p (λ_=>Qn)<|p (λ_=>QI rfl)<|p (λ_=>Qa rfl)<|p (λ_=>Qa rfl)<|pq (λ_ hc=>Qd (hA5.B.ext hc) rfl rfl)<|pq (λ_ hc=>Qd (hB65'.ext hc) rfl rfl)<|p (λ_=>Qx rfl rfl ⟨by omega,by omega⟩)<|p (λ_=>Qn)<|p (λ_=>QI rfl)<|p (λ_=>Qa rfl)<|p (λ_=>Qa rfl) <|
  pq (λ_ hc=>Qd (hA5.B.ext hc) rfl rfl)<|p (λ_=>Qn)<|p (λ_=>QI rfl)<|p (λ_=>Qa rfl)<|p (λ_=>Qa rfl)<|pq (λ_ hc=>Qd (hA5.B.ext hc) rfl rfl)<|pk<|xf<|(ZR (hA5.s.al.ext hd5)).mono ?_
 rintro xa w6 ⟨hs6,ho6⟩
 have hc6:=hd5.trans hs6
 refine ⟨hc6,?_⟩
 refine pk<|xf<|(ZR (hA5.s.mr.ext hc6)).mono ?_
 rintro xm w7 ⟨hs7,ho7⟩
 have hc7:=hc6.trans hs7
 refine ⟨hc7,?_⟩
 refine pk<|xf<|(Kg (hA5.s.ed.ext hc7)).mono ?_
 rintro xe0 w8 ⟨hs8,ho8⟩
 have hc8:=hc7.trans hs8
 refine ⟨hc8,?_⟩
 refine p (λ_=>QE ⟨Q3 ho6,rfl,Q3 ho7,Q3 ho8,trivial⟩)<|pkl (hl:=by kernel_rfl)<|Qo (us:=[xa,.int .i64 (q.s.a.st+1),xm,xe0]) (hB25.ext hc8) rfl rfl rfl rfl ⟨QF ho6,rfl,QF ho7,QF ho8,trivial⟩ λw9 hs9 hB29=>pe ?_
 have hs59:Step [b2] w5 w9:=hc8.any.trans' hs9
 have hz7:=hc7.size
 have hz59:=hs59.size
 have hb2w:b2<w5.heap.size:=by omega
 have hA9:=hA5.st hs59
 have hxo:ZL [xa,xm]:=⟨QF ho6,QF ho7,trivial⟩
 have hE9:w9.ownsRow w5.heap.size 144 3 xe0 q.s.a.ed.length (q.s.a.ed.flatMap Qy):=Qj (Zi ho8 (by omega)) hs9 (λb hb hm=>by have:=(Qk ho8 b hb).1;rw[List.mem_singleton.1 hm] at this;omega)
 have hok:=ZS hQ.ok
 have hoks:∀a∈auts q.c.cel.co++auts q.c.cel.rq,Zm a:=λa ha=>by
  rcases List.mem_append.1 ha with ha | ha
  ·exact Yd hok.co a ha
  ·exact Yd hok.rq a ha
 have hsao:=(Y9 hoks hQ.s).1.okay hoks
 have hbd0:∀e∈q.s.a.ed,(0≤e.1∧e.1<1099511627776)∧0≤e.2.1∧e.2.1<1099511627776:=λe he=>by
  have h1:=hsao.ed e he
  have h2:=hsao.al _ h1.2.2.1
  omega
 have hI9:jG b2 w5.heap.size w9 xa (q.s.a.st+1) xm Zb xe0 [] q.s.a.ed:=⟨hB29,QO _ _ _ _,hE9,λb hb=>(by cases hb),hbd0⟩
 have hedl:=hsao.ed_le
 have hQv:=VU hoks hQ.s
 have hVt:=hQv.1
 have hTl:=hQv.2
 simp only[] at hVt hTl
 have hckc:=hok.c8
 have hcel:q.c.cel.co.length=q.c.co.length:=List.length_map ..
 have hrel:q.c.cel.rq.length=q.c.rq.length:=List.length_map ..
 have hcr:=hok.cr
 have hal:(auts q.c.cel.co++auts q.c.cel.rq).length=q.c.co.length+q.c.rq.length:=by rw[List.length_append];unfold auts;rw[List.length_map,List.length_map,hcel,hrel]
 refine QZ<|QZ<|QK (by rfl) (by rfl) ?_
 refine Qb<|x (QI rfl)<|x (Qa rfl)<|x (Qd hA9.B rfl rfl)<|x (Qs hA9.ts.arr rfl)<|Qb<|xe ?_
 refine Q8 ((q.ts.map (·.2)).map (·.take q.c.cel.co.length)) λtcs htcs=>?_
 rw[htcs]
 have htcl:tcs.length=q.ts.length:=by rw[←htcs,List.length_map,List.length_map]
 have hTn:q.ts.length≤4096:=by have h2:=(Y9 hoks hQ.s).1.st;have h3:(q.ts.map (·.2)).length=q.ts.length:=List.length_map ..;omega
 refine Zz<|VA (α:=Nat×Value×Value×List Ed) [(3,3),(7,16),(60,109)] (λz=>[(3,z.2.1),(60,.int .i64 z.1)])
  (λz ds W'=>z.1≤q.ts.length∧Step [b2] w5 W'∧Va w5.heap.size W'.heap.size ds W'∧jG b2 w5.heap.size W' xa (q.s.a.st+1) xm z.2.1 z.2.2.1 (cmF q.c.cel (tcs.take z.1)) z.2.2.2∧z.2.2.2.length≤131072+z.1)
  (λz=>q.ts.length - z.1) (by rfl) (0,Zb,xe0,q.s.a.ed) ⟨rfl,rfl,trivial⟩ ⟨Nat.zero_le _,hs59,⟨List.nodup_nil,λD hD=>by cases hD⟩,hI9,hedl⟩ ?_
 rintro ⟨k,vb,ve,es⟩ g ds w10 ⟨hk,hs10,hD10,hI10,hel⟩
 simp only[] at hk hI10 hel
 have hz10:=hs10.size
 have hcl:=Qht q.c.cel (tcs.take k)
 rw[List.length_take] at hcl
 refine QZ<|QK (by rfl) (by rfl) ?_
 refine x (QB rfl rfl)<|xe ?_
 refine QZ<|q6 rfl (λh61=>?_) (λh61=>?_)
 ·refine JP ?_
  have hke:q.ts.length≤k:=by have h62:¬(k:Int)<(q.ts.length:Int):=h61;omega
  rw[List.take_of_length_le (by omega)] at hI10 hcl
  refine Q8 (cmF q.c.cel tcs) λbad hbad=>?_
  rw[hbad] at hI10 hcl
  have hn2e:b2∉ob ve:=QN hI10.e hb2w
  have hn2b:b2∉ob vb:=QN hI10.b hb2w
  have hn62:b6∉[b2]:=by simp only[List.mem_singleton];omega
  have hn6e:b6∉ob ve:=QN hI10.e hl6
  have hn6b:b6∉ob vb:=QN hI10.b hl6
  refine QZ<|QK (by rfl) (by rfl) ?_
  refine x (Qa rfl)<|x (Qd hI10.B rfl rfl)<|xl rfl<|xf<|(Qb7 hI10.e (by omega) hI10.bd).mono ?_
  rintro r11 w11 ⟨hs11,es',hp,_,ho11⟩
  refine xe ?_
  have hB11:=hI10.B.step hs11 hn2e
  have hB611:=(hB65'.step hs10 hn62).step hs11 hn6e
  have hb11:=Qj hI10.b hs11 (λb hb hm=>hI10.dj b hb hm)
  have hz11:=hs11.size
  have hgeE:=Qk hI10.e
  have hgeB:=Qk hb11
  have hD11:Va w5.heap.size w10.heap.size ds w11:=hD10.step hs11 (Go.Lg.Q3 hI10.e)
  have hD0:Step (ob vb) w11 { w11 with drawn:=w11.drawn+1 }:=Step.drew _ _
  refine QZ<|UW (λw'=>Step (b2::ob vb) w11 w'∧Q0 w'.heap b2 58 [xa,.int .i64 (q.s.a.st+1),xm,ve]∧Q0 w'.heap b6 3 [.int .i64 q.s.a.st]) [(0,true),(1,true),(2,true),(3,false),(4,false),(5,false),(6,true),(7,true)] mixed (by rfl) (by rfl) (by kernel_rfl) ⟨Step.drew _ _,hB11.ext (Step.drew _ _),hB611.ext (Step.drew _ _)⟩ ?_
  refine pq (λ_ hc=>Qr hc.2.1 rfl rfl)<|p (λ_=>Qn)<|pq (λ_ hc=>Qd hc.2.2 rfl rfl)<|pk<|QD (us:=[[.int .i64 q.s.a.st]]) rfl rfl (by decide) (by simp) ⟨rfl,rfl,trivial⟩ λb116 w12 hs12 hb116 hB116=>?_
  have hs1112:=(Step.drew [] w11).trans hs12
  have hz12:=hs1112.size
  refine ⟨⟨hs1112.any,hB11.ext hs1112,hB611.ext hs1112⟩,?_⟩
  refine pk<|QY (m:=1) (news:=[.int .i64 q.s.a.st]) (L:=[]) (Qq hb11 hs1112) rfl rfl rfl (hB116.at (by simp)) (by simp[Value.oneCell']) (by omega) (by omega) λvb2 w13 ho13 hs13 hn13=>?_
  have hs1113:Step (ob vb) w11 w13:=hs1112.any.trans' hs13
  have hB13:=hB11.step hs1113 hn2b
  have hB613:=hB611.step hs1113 hn6b
  refine ⟨⟨hs1113.mono (λb hb=>List.mem_cons_of_mem _ hb),hB13,hB613⟩,?_⟩
  refine pk<|Qo (us:=[xa,.int .i64 (q.s.a.st+1),xm,ve]) hB13 rfl rfl rfl rfl ⟨hxo.1,rfl,hxo.2.1,QF hI10.e,trivial⟩ λw14 hs14 hB14=>?_
  have hs1114:Step (b2::ob vb) w11 w14:=(hs1113.mono (λb hb=>List.mem_cons_of_mem _ hb)).trans' (hs14.mono (by simp))
  refine ⟨⟨hs1114,hB14,hB613.step hs14 hn62⟩,?_⟩
  refine p (λ_=>Qh)<|p (λ_=>Qh)<|pe ?_
  have ho13':=Qj ho13 hs14 (λb hb hm=>by have:=(Qk ho13 b hb).1;rw[List.mem_singleton.1 hm] at this;omega)
  have hD14:Va w5.heap.size w10.heap.size ds w14:=hD11.step hs1114 (λb hb=>by
   rcases List.mem_cons.1 hb with rfl | hb
   ·exact hB11.cells
   ·exact Go.Lg.Q3 hb11 b hb)
  have hb2d:b2∉ds:=λhm=>by have:=(hD14.2 b2 hm).1;omega
  have hs514:Step [] w w14:=(((hs03.trans hs35).then1 hs10 (by omega)).then hs11 (λb hb=>.inr (by have:=(hgeE b hb).1;have:=hs03.size;omega))).then hs1114 (λb hb=>.inr (by
   rcases List.mem_cons.1 hb with rfl | hb
   ·omega
   ·have:=(hgeB b hb).1;have:=hs03.size;omega))
  refine JO ⟨λD hD=>(hD14.2 D hD).2.2,hD14.1,[.agg [xa,.int .i64 (q.s.a.st+1),xm,ve].toArray,vb2,.int .i64 0],λW' hW'=>?_⟩
  refine ⟨⟨⟨_,rfl,QA rfl ((hB14.step hW' hb2d).at (L:=[]) (by simp)).cells⟩,rfl,rfl,trivial⟩,hs514.then hW' (λD hD=>.inr (by have:=(hD14.2 D hD).1;have:=hs03.size;omega)),xa,xm,ve,vb2,rfl,⟨hxo.1,hxo.2.1,QF hI10.e,trivial⟩,?_⟩
  have h9:=Qt.snoc ho13'
  have h10:=Qj h9 hW' (λb hb hm=>by
   obtain ⟨o,g1,g2⟩:=Go.Lg.Q3 h9 b hb
   rw[(hD14.2 b hm).2.2] at g1
   cases g1
   cases g2)
  rw[←hbad] at h10
  exact Zi h10 (by have:=hs03.size;omega)
 have hlt:k<q.ts.length:=by have h62:(k:Int)<(q.ts.length:Int):=h61;omega
 have hltc:k<tcs.length:=by omega
 have htk:=Qfi (c:=q.c.cel) hltc
 have htck:tcs[k]'hltc=(q.ts[k]'hlt).2.take q.c.cel.co.length:=by subst htcs;simp
 have hmem:=List.getElem_mem hlt
 have hVk:=hVt _ (List.mem_map_of_mem (f:=(·.2)) hmem)
 have honek:=hone _ (List.mem_map_of_mem (f:=(·.2)) hmem)
 rw[htck] at htk
 refine Q8 (cmF q.c.cel (tcs.take k)) λbad hbad=>?_
 rw[hbad] at hI10 hcl htk
 refine Q8 (ob vb++ob ve) λav hav=>?_
 have hgeB:=Qk hI10.b
 have hgeE:=Qk hI10.e
 have havlt:∀x∈av,w5.heap.size≤x∧x<w10.heap.size:=λx hx=>by
  rw[←hav] at hx
  exact (List.mem_append.1 hx).elim (hgeB x) (hgeE x)
 have hAv:Xt (b2::av) b w5.heap q:=hA5.up (λx hx=>by
  rcases List.mem_cons.1 hx with rfl | hx
  ·exact .inl List.mem_cons_self
  ·exact .inr (havlt x hx).1)
 have hA10:Xt (b2::av) b w10.heap q:=hAv.st (hs10.mono (by simp))
 refine Q8 (cmF q.c.cel (tcs.take (k+1))) λbad2 hbad2=>?_
 rw[hbad2] at htk
 refine Z7 ?_
 refine QbW (α:=Value×Value×List Ed) [(3,3),(7,16),(61,109)] (λz=>[(3,z.1),(60,.int .i64 k)]) (λz ds' W'=>Step [b2] w5 W'∧Va w5.heap.size W'.heap.size ds' W'∧jG b2 w5.heap.size W' xa (q.s.a.st+1) xm z.1 z.2.1 bad2 z.2.2∧z.2.2.length≤131072+(k+1)) (by rfl) ?_ ?_
 rotate_left
 ·rintro ⟨vb',ve',es'⟩ g ds' W ⟨hsW,hDW,hIW,hlW⟩
  refine QK (by rfl) (by rfl) ?_
  refine x (Qx rfl rfl ⟨by omega,by omega⟩)<|Qb<|xe ?_
  exact ⟨(k+1,vb',ve',es'),by simp only[];omega,⟨rfl,rfl,trivial⟩,hlt,hsW,hDW,by simp only[];rw[hbad2];exact hIW,hlW⟩
 refine Zz<|QZ<|QK (by rfl) (by rfl) ?_
 refine Qb<|xig (g:=Z3) J8 hA10.ts.arr rfl rfl hlt λa63 h63=>?_
 refine Q8 (q.ts[k]'hlt) λt ht=>?_
 rw[ht] at h63 hmem hVk honek htk
 have htI:=hA10.ts.each t hmem
 have htl:t.2.length=q.c.co.length+q.c.rq.length:=by rw[hVk.1,hal]
 refine x (Qv h63 rfl)<|xl rfl<|Qu (us:=[.int .i64 0]) rfl λb7 w11 hs11 hb7 hB7=>xl rfl<|QG (j:=0) (u:=.int .i64 k) hB7 rfl rfl (by simp) rfl λw12 hs12 hB712=>Qe ?_
 have hs1012:Step [] w10 w12:=hs11.then1 hs12 hb7
 have hB712':Q0 w12.heap b7 3 [.int .i64 k]:=hB712
 refine QZ<|QK (by rfl) (by rfl) ?_
 refine Qb<|Qb<|xl rfl<|xf<|(yr (hA10.ext hs1012) (htI.ext hs1012) (by omega)).mono ?_
 rintro r13 w13 ⟨hs13,v9,v10,rfl,hI9',hI10'⟩
 refine Qb<|x (Qp rfl rfl)<|x (Qp rfl rfl)<|x Qh<|Qe ?_
 have hs1013:=hs1012.trans hs13
 have hA13:=hA10.ext hs1013
 rw[hcel] at honek htk
 refine Q8 (t.2.take q.c.co.length) λtc htc=>?_
 refine Q8 (t.2.drop q.c.co.length) λtr htr=>?_
 rw[htc] at hI9' honek htk
 rw[htr] at hI10' honek
 have htcl2:tc.length=q.c.co.length:=by rw[←htc,List.length_take];omega
 have hbdt:=hVk.bd (m:=4096) (λa ha=>(hoks a ha).st1)
 have hbdc:∀x∈tc,0≤x∧x<4096:=λx hx=>hbdt x (List.mem_of_mem_take (by rw[htc];exact hx))
 have hVc:Vt (auts q.c.cel.co) tc:=by
  have h1:=hVk.take
  rw[show (auts q.c.cel.co).length=q.c.co.length by unfold auts;rw[List.length_map];exact hcel,htc] at h1
  exact h1
 have hVr:Vt (auts q.c.cel.rq) tr:=by
  have h1:=hVk.drop
  rw[show (auts q.c.cel.co).length=q.c.co.length by unfold auts;rw[List.length_map];exact hcel,htr] at h1
  exact h1
 have hA130:Xt [] b w13.heap q:=hA13.up (by simp)
 have hvo:=VJ hA130.k1 hA130.k2 hA130.k3 (hI9'.up (L':=[]) (by simp)) (by rw[hQ.ex,hQ.cs];exact hok.cd) hVc.tpOk
 rw[hQ.ex,hQ.cs] at hvo
 refine Q8 (Kv q.c.cel.ex q.c.cel.cs tc) λV hV=>?_
 rw[hV] at hvo htk
 have hI13:=hI10.ext hs1013
 have hz13:=hs1013.size
 have hl7:=hB712'.lt
 have hB713:=hB712'.ext hs13
 refine QbW (α:=Value) [(3,3),(11,14),(71,86)] (λz=>[(3,z)]) (λz ds' W=>ds'=ds∧Step (ob vb) w13 W∧Qt 3 w5.heap.size W z bad2∧∀x∈ob z,x∈ob vb∨w13.heap.size≤x) (by rfl) ?_ ?_
 ·refine QZ<|QK (by rfl) (by rfl) ?_
  refine Qb<|x (QI rfl)<|x (Qa rfl)<|x (Ys (us:=[q.vs,q.vx,q.vk]) hA130.B rfl rfl rfl)<|Qb<|xl rfl<|xf<|hvo.mono ?_
  rintro r14 w14 ⟨hs14,rfl⟩
  refine Qb<|x (Qp rfl rfl)<|x (Qp rfl rfl)<|x (Qp rfl rfl)<|x (Qp rfl rfl)<|x Qh<|x Qh<|x Qh<|Qe<|QZ<|QK (by rfl) (by rfl) ?_
  refine Qb<|xe ?_
  have hb14:=Qq hI13.b hs14
  refine Kq rfl (λh82=>?_) (λh82=>?_)
  ·rw[if_pos h82] at htk
   refine QK (by rfl) (by rfl) ?_
   refine Qb<|x (Qd (hB713.ext hs14) rfl rfl)<|xl rfl<|QD (us:=[[.int .i64 k]]) rfl rfl (by decide) (by simp) ⟨rfl,rfl,trivial⟩ λb85 y1 hy1 hb85 hB85=>?_
   have zy1:=hy1.size
   have hz14:=hs14.size
   refine xl rfl<|QY (m:=1) (news:=[.int .i64 k]) (L:=[]) (Qq hb14 hy1) rfl rfl rfl (hB85.at (by simp)) (by simp[Value.oneCell']) (by omega) (by omega) λz y2 ho2 hy2 hn2=>Qe ?_
   exact ⟨z,⟨rfl,trivial⟩,rfl,(hs14.trans hy1).any.trans' hy2,by rw[htk];exact Qt.snoc ho2,λx hx=>(hn2 x hx).imp id (λh=>by omega)⟩
  ·rw[if_neg (by rw[h82];decide),List.append_nil] at htk
   refine Z7 ?_
   exact ⟨vb,⟨rfl,trivial⟩,rfl,hs14.any,by rw[htk];exact hb14,λx hx=>.inl hx⟩
 rintro vb' g ds' w14 ⟨rfl,hs14,hbO,hbn⟩
 have hI14:=hI13.addB hb2w hs14 hbO hbn
 have hz14:=hs14.size
 have hvbav:∀x∈ob vb,x∈b2::av:=λx hx=>List.mem_cons_of_mem _ (by rw[←hav];exact List.mem_append.2 (.inl hx))
 have hveav:∀x∈b2::ob ve,x∈b2::av:=λx hx=>by
  rcases List.mem_cons.1 hx with rfl | hx
  ·exact List.mem_cons_self
  ·exact List.mem_cons_of_mem _ (by rw[←hav];exact List.mem_append.2 (.inr hx))
 have hA14:=hA13.st (hs14.mono hvbav)
 have hI9a:=hI9'.st (hs14.mono hvbav)
 have hI10a:=hI10'.st (hs14.mono hvbav)
 have hs514:Step [b2] w5 w14:=(hs10.trans hs1013.any).then hs14 (λx hx=>.inr (hgeB x hx).1)
 have hs014:Step [] w w14:=(hs03.trans hs35).then1 hs514 (by omega)
 have hn7b:b7∉ob vb:=λhm=>by have:=(hgeB b7 hm).2;omega
 have hn62:b6∉[b2]:=by simp only[List.mem_singleton];omega
 have hB714:=hB713.step hs14 hn7b
 have hB614:=hB65'.step hs514 hn62
 have hD14:Va w5.heap.size w10.heap.size ds' w14:=(hD10.ext hs1013).step hs14 (Go.Lg.Q3 hI13.b)
 refine QZ<|UW (Step [] w14) [(0,true),(1,true),(2,true),(3,true),(4,true),(5,false),(6,true),(7,true)] mixed (by rfl) (by rfl) (by kernel_rfl) (Step.drew _ _) ?_
 refine p (λ_=>Qn)<|p (λ_=>QI rfl)<|p (λ_=>Qa rfl)<|pq (λ_ hc=>Qd (hA14.B.ext hc) rfl rfl)<|p (λ_=>Qn)<|pk<|xf<|(z1 (hI9a.ext (Step.drew _ _)) ((hkb.ext hs014).ext (Step.drew _ _)) hbdc (by omega)).mono ?_
 rintro r15 w15 ⟨rfl,hs15⟩
 have hs1415:=(Step.drew [] w14).trans hs15
 refine ⟨hs1415,?_⟩
 have hplx:(match mget q.mm (Jo tc) with | some u=>u | none=>.int .i64 0)=Value.int .i64 (plx (q.qs.map (·.2)) tc):=by
  rw[hQ.m tc htcl2 (λx hx=>(hbdc x hx).1)]
  unfold plx
  by_cases hm:tc∈q.qs.map (·.2)
  ·rw[if_pos hm,if_pos hm]
  ·rw[if_neg hm,if_neg hm]
 have hpo:=yC hQ.ok hQ.p
 have hpr:=QdQ hpo.2.2.1 tc
 refine Q8 (plx (q.qs.map (·.2)) tc) λpi hpi=>?_
 rw[hpi] at hplx honek hpr
 rw[←hpo.2.1] at hpr
 have hckp:cks q.p.a pi=0:=by
  unfold cks
  rw[if_neg (by rw[(ZB q.p.a).2 hpo.1];decide),if_neg (by omega)]
 refine pq (λ_ hc=>(XR (k:=Jo tc) (hA14.m.ext hc) rfl rfl).trans (congrArg (λv=>Result.ok (Next.value v) _) hplx))<|p (λ_=>Qh)<|pe ?_
 refine QZ<|QK (by rfl) (by rfl) ?_
 refine Qb<|Qb<|Qb<|xl rfl<|xf<|(VB (b:=b) (st:=pi) (vr:=v10) hI10a.cells).mono ?_
 rintro r16 w16 ⟨hs16,c1,c2,c3,rfl,hc1,hc2,hc3,hR1,hR2,hR3⟩
 refine xe ?_
 have hs1416:=hs1415.trans hs16
 have hz1415:=hs1415.size
 have hz16:=hs1416.size
 have hI16:=hI14.ext hs1416
 have hD16:=hD14.ext hs1416
 have hB716:=hB714.ext hs1416
 have hB616:=hB614.ext hs1416
 have hs516:Step [b2] w5 w16:=hs514.trans hs1416.any
 refine Q8 (wrf q.c.cel.rq tr (enb q.p.a pi)) λfl hfl=>?_
 rw[hfl] at honek
 have hlow:∀x∈b2::ob ve,x<w14.heap.size:=λx hx=>by
  rcases List.mem_cons.1 hx with rfl | hx
  ·omega
  ·have:=(hgeE x hx).2;omega
 have hSt16:Xt (b2::ob ve) b w16.heap q:=(hA14.ext hs1416).up (λx hx=>.inl (hveav x hx))
 have hIr16:QM (b2::ob ve) w16.heap v10 tr:=(hI10a.ext hs1416).up (λx hx=>.inl (hveav x hx))
 have hEv:∀p∈fl,0≤p.1∧p.1<32:=λp hp=>by
  rw[←hfl] at hp
  have g1:=(VT.1 hp).1
  unfold enb at g1
  obtain ⟨e,he,g2⟩:=List.mem_map.1 g1
  have g3:=hpo.1.al _ (hpo.1.ed e (ZJ he).1).2.2.1
  rw[g2] at g3
  exact g3
 have hn7L:b7∉b2::ob ve:=λhm=>by
  rcases List.mem_cons.1 hm with g1 | g1
  ·omega
  ·have:=(hgeE b7 g1).2;omega
 have hn6L:b6∉b2::ob ve:=λhm=>by
  rcases List.mem_cons.1 hm with g1 | g1
  ·omega
  ·have:=(hgeE b6 g1).1;omega
 have hn2e:b2∉ob ve:=QN hI10.e hb2w
 have hb016:w5.heap.size≤w16.heap.size:=by omega
 have hel2:es.length+1≤1099511627776:=by omega
 have hkb2:(0:Int)≤(k:Int)∧(k:Int)<1099511627776:=by omega
 refine Zz<|jC (α:={ x:Int×Int // x∈fl }) (b2::ob ve) (by omega) (capt:=[.pointer (some ⟨c1,0,none⟩),.pointer (some ⟨c2,0,none⟩),.pointer (some ⟨c3,0,none⟩)]) rfl (encs:=λx=>[.int .i64 x.1.1,.int .i64 x.1.2]) (by decide) (λ_=>rfl)
  (KC hR1 hR2 hR3 (λhm=>by have:=hlow _ hm;omega) (λhm=>by have:=hlow _ hm;omega) (λx hx=>by have:=hlow _ hx;omega) hSt16 hIr16 (λx hx=>hok.rq x.it (List.mem_map_of_mem hx)) hVr hckp rfl hfl)
  (λpre W=>∃ve' es',Step (b2::ob ve) w16 W∧jG b2 w5.heap.size W xa (q.s.a.st+1) xm vb' ve' bad2 es'∧(pre=[]→ve'=ve∧es'=es)∧es'.length≤es.length+pre.length)
  (λpre=>ZT.ex λve'=>ZT.ex λes'=>(ZT.step (Nat.le_refl _)).and (jG.stb.and ((ZT.pure _).and (ZT.pure _))))
  (λ_ _ _=>False) (λ_ _=>ZT.pure _)
  ⟨ve,es,Step.refl _ _,hI16,λ_=>⟨rfl,rfl⟩,Nat.le_refl _⟩
  (λf x f' W=>f'=upd (upd (upd f 98 (.int .i64 x.1.1)) 99 (.int .i64 x.1.2)) 16 (.int .i64 x.1.1)) (λx f'=>ZT.pure _) ?_ ?_ ?_ ?_
 ·rintro l pre ⟨⟨e,i⟩,he⟩ W hW
  refine QK (by rfl) (by rfl) ?_
  refine Qe ?_
  exact ⟨rfl,Ji.refl _ _ _,Lg.Xb.refl _ _,hW,rfl⟩
 ·rintro l pre ⟨⟨e,i⟩,he⟩ f' W ⟨ve',es',hst,hCI,hpre,hlen⟩ rfl hN
  have hp0:pre=[]:=List.eq_nil_of_length_eq_zero (Nat.lt_one_iff.1 (Nat.lt_of_lt_of_le hN honek))
  have hv1:=(hpre hp0).1
  have hv2:=(hpre hp0).2
  rw[hv1,hv2] at hCI
  have hzW:=hst.size
  have hee:=hEv _ he
  simp only[] at hee
  refine Zz<|QK (by rfl) (by rfl) ?_
  refine x (Qa rfl)<|x (Qd hCI.B rfl rfl)<|x (Qd (hB716.step hst hn7L) rfl rfl)<|Qb<|x (Qd (hB616.step hst hn6L) rfl rfl)<|x (QE ⟨rfl,rfl,rfl,trivial⟩)<|xl rfl<|QD (us:=[Qy ((k:Int),e,q.s.a.st)]) rfl rfl (by decide) (by exact (by decide:1*3≤1000000)) ⟨rfl,rfl,trivial⟩ λb106 y1 hy1 hb106 hB106=>?_
  have zy1:=hy1.size
  refine xl rfl<|QY (m:=1) (news:=Qy ((k:Int),e,q.s.a.st)) (L:=[]) (Qq hCI.e hy1) rfl rfl rfl (hB106.at (by simp)) (by simp[Qy,Value.oneCell']) hel2 (by omega) λu y2 ho2 hy2 hn2=>?_
  refine x (Qa rfl)<|xl rfl<|QG (u:=u) ((hCI.B.ext hy1).step hy2 hn2e) rfl rfl (by simp) (QF ho2) λy3 hy3 hB3=>xe ?_
  have hWy:Step (b2::ob ve) W y3:=(hy1.any.trans' (hy2.mono λx hx=>List.mem_cons_of_mem _ hx)).trans' (hy3.mono (by simp))
  have hnw:∀x∈ob u,x∈ob ve∨W.heap.size≤x:=λx hx=>(hn2 x hx).imp id (λh=>by omega)
  refine ⟨Ji.step hWy hzW (λx hx=>⟨.inl hx,?_⟩),Lg.Xb.step hWy,u,es++[((k:Int),e,q.s.a.st)],hst.trans' hWy,hCI.addE hb2w (hy1.any.trans' hy2) ho2 hnw hy3 hB3 ⟨hkb2,by simp only[];omega⟩,λh=>absurd h (by simp),by simp only[List.length_append,List.length_singleton];omega⟩
  rcases List.mem_cons.1 hx with rfl | hx
  ·exact hCI.B.cells
  ·exact Go.Lg.Q3 hCI.e x hx
 ·rintro D xs W hD hxs ⟨ve',es',hst,hCI,_,hlen⟩ hdD
  have hxl:xs.length=fl.length:=by have g1:=congrArg List.length hxs;rw[List.length_map] at g1;exact g1
  have hzW:=hst.size
  refine ⟨(vb',ve',es'),⟨rfl,rfl,trivial⟩,hs516.then hst (λx hx=>?_),((hD16.step hst (λx hx=>?_)).up (by omega)).cons (by omega) (show w16.heap.size≤D from hD) hdD,hCI,by simp only[];omega⟩
  ·rcases List.mem_cons.1 hx with rfl | hx
   ·exact .inl List.mem_cons_self
   ·exact .inr (hgeE x hx).1
  ·rcases List.mem_cons.1 hx with rfl | hx
   ·exact hI16.B.cells
   ·exact Go.Lg.Q3 hI16.e x hx
 ·rintro D e pre W hD hSp hF
  exact hF.elim
theorem Kz (m:Nat) (hm:m<256) (w:World):QL prog 52 [.int .u8 m] w λr w'=>Step [] w w'∧Qt 3 w.heap.size w' r (setK m 5):=by
 refine QL.of_W func52 rfl ntmps52 results52 (by simp) ?_
 refine Qc<|Qe<|Qc<|Qe<|Qf<|Qc<|Qe<|Qg<|QC (α:=Nat×Value) [(3,17)] (λz=>[(3,z.2),(4,.int .i64 z.1)]) (λz w'=>z.1≤5∧Step [] w w'∧Qt 3 w.heap.size w' z.2 (setK m z.1)) (λz=>5 - z.1) (by rfl) (0,nS) ⟨rfl,rfl,trivial⟩
  ⟨Nat.zero_le _,Step.refl _ _,QO _ _ _ _⟩ ?_
 rintro ⟨k,v⟩ g w1 ⟨hk,hs1,ho1⟩
 simp only[] at hk ho1
 have hlen:=YP m k
 have hz1:=hs1.size
 refine Qf<|Qc<|Qb<|x (QB rfl rfl)<|xe ?_
 refine QH rfl (λh6=>?_) (λh6=>?_)
 ·refine Qz ?_
  refine Qc<|Qb<|Qe ?_
  have hke:k=5:=by omega
  rw[hke] at ho1
  exact Qm ⟨[v],⟨rfl,trivial⟩,hs1,ho1⟩
 have hlt:k<5:=by omega
 have hdv:m / 2 ^ k<256:=Nat.lt_of_le_of_lt (Nat.div_le_self _ _) hm
 have hsucc:=Ve m k
 refine Qi<|Qf<|Qg<|Qc<|Qb<|Qb<|x (qz (n:=k) rfl rfl (by show k≤8;omega))<|x (Uj (a:=m / 2 ^ k) (b:=1) (congrArg (Value.int .u8) (zg m k)) rfl hdv (by decide))<|x (Q5 rfl rfl)<|xe ?_
 refine QH rfl (λh12=>?_) (λh12=>?_)
 ·rw[if_neg (λe=>h12 (by rw[e];rfl))] at hsucc
  refine Qi<|Qw<|Qb<|x (Qx rfl rfl ⟨by omega,by omega⟩)<|Qe ?_
  exact ⟨(k+1,v),by simp only[];omega,⟨rfl,rfl,trivial⟩,hlt,hs1,by simp only[];rw[hsucc];exact ho1⟩
 rw[if_pos (by omega)] at hsucc
 refine Qw<|Qb<|Qb<|xl rfl<|QD (us:=[[.int .i64 k]]) rfl rfl (by decide) (by simp) ⟨rfl,rfl,trivial⟩ λb15 w2 hs2 hb15 hB15=>?_
 have ho2:=Qq ho1 hs2
 have hz2:=hs2.size
 refine xl rfl<|QY (news:=[.int .i64 k]) (L:=[]) ho2 rfl rfl rfl (hB15.at (by simp)) (by simp[Value.oneCell']) (by omega) (by omega) λv3 w3 ho3 hs3 hn3 =>
  Qe ?_
 have hge:=Qk ho1
 refine Qw<|Qb<|x (Qx rfl rfl ⟨by omega,by omega⟩)<|Qe<|⟨(k+1,v3),by simp only[];omega,⟨rfl,rfl,trivial⟩,hlt,(hs1.trans hs2).then hs3 (λb hb=>.inr (hge b hb).1),?_⟩
 simp only[]
 rw[hsucc];exact Qt.snoc ho3
end Go.Proofs.YtdffckgdcegpaaaGreatDoor
namespace Go.Lg
section
variable {P:Program} {f:Fr} {w:World} {d:Option Nat} {ty:Nat} {ps:String} {af:Array Edge} {gd:Option (Nat×Bool)}
theorem Qip {t t' e bys:Nat}{z:Value}[h:Sl P t e 1 bys z] [he:Ik P e .u8] [hd:St P t'] {x:Operand}{b T n cap:Nat}(hB:Q0 w.heap b T [.int .u8 (n:Int)]) (hn:n<256) (hx:ev f x=.slice (some ⟨b,0,none⟩) 1 cap) :
  (execOp (ev f) ⟨d,.convert t t' x,ty,ps,af,gd⟩).run P w=.ok (.value (.string ⟨#[UInt8.ofNat n]⟩)) w:=by
 refine VY hx ?_
 refine run_convert_bytes_back (P:=P) w t t' e ⟨b,0,none⟩ cap [UInt8.ofNat n] h.u he.u hd.u (λj hj=>?_)
 have hj0:j=0:=by simp at hj;omega
 subst hj0
 rw[Xa]
 have h1:(⟨b,0,none⟩:Addr).add 0=⟨b,0,none⟩:=rfl
 rw[h1,hB.cell]
 have h2:(UInt8.ofNat n).toNat=n:=by simp[UInt8.toNat_ofNat'];omega
 simp[h2]
end
end Go.Lg
namespace Go.Proofs.YtdffckgdcegpaaaGreatDoor
open Go.Lg
theorem y0 (e:J0):∀u∈Zj e,u.oneCell'=true:=by
 intro y hy
 simp only[Zj,List.mem_cons,List.not_mem_nil,or_false] at hy
 rcases hy with rfl | rfl | rfl | rfl | rfl <;> rfl
theorem zN {q:IV}(h1:q.p.va.oneCell'=true) (h2:q.p.vm.oneCell'=true) (h3:q.p.ve.oneCell'=true):∀u∈Za q,u.oneCell'=true:=by
 intro y hy
 simp only[Za,List.mem_cons,List.not_mem_nil,or_false] at hy
 rcases hy with rfl | rfl | rfl | rfl | rfl
 ·rfl
 ·exact h1
 ·rfl
 ·exact h2
 ·exact h3
theorem Ux {base N:Nat}{av:LN}{H:Array Obj}{q:IV}(h:∀L:LN,(∀b∈L,b<N)→Zr L H q.p.va q.p.vm q.p.ve q.p.a) (hb:base≤N) (hav:∀b∈av,b<N):∀t∈Qct q,ZE base av H t.1 t.2.1 t.2.2.1 t.2.2.2:=by
 intro t ht
 simp only[List.mem_cons,List.not_mem_nil,or_false] at ht
 rcases ht with rfl | rfl | rfl
 ·exact ZE.of_lt (λL hL=>(h L hL).al) hb hav
 ·exact ZE.of_lt (λL hL=>(h L hL).mr) hb hav
 ·exact ZE.of_lt (λL hL=>(h L hL).ed) hb hav
structure VR (base:Nat) (w:World) (vc va:Value) (co:List IV) (al:LI):Prop where
 c:w.ownsRow base 66 5 vc co.length (co.flatMap Za)
 a:Qt 3 base w va al
 dj:Dj vc va
 each:∀q∈co,∀t∈Qct q,ZE base (ob vc++ob va) w.heap t.1 t.2.1 t.2.2.1 t.2.2.2
section
variable {base:Nat} {w w':World} {vc va vc' va':Value} {co:List IV} {al:LI}
theorem VR.nil:VR base w (nS) (nS) [] []:=⟨QO _ _ _ _,QO _ _ _ _,Dj.nil _,λq hq=>by cases hq⟩
theorem VR.ext (h:VR base w vc va co al) (hs:Step [] w w'):VR base w' vc va co al:=⟨Qq h.c hs,Qq h.a hs,h.dj,λq hq t ht=>(h.each q hq t ht).ext hs⟩
theorem VR.low {X:LN}(h:VR base w vc va co al) (hs:Step X w w') (hX:∀b∈X,b<base):VR base w' vc va co al :=
 ⟨Qj h.c hs (λb hb hm=>by have:=(Qk h.c b hb).1;have:=hX b hm;omega),Qj h.a hs (λb hb hm=>by have:=(Qk h.a b hb).1;have:=hX b hm;omega),h.dj,λq hq t ht=>(h.each q hq t ht).low hs hX⟩
theorem VR.avlt (h:VR base w vc va co al):∀b∈ob vc++ob va,b<w.heap.size:=λb hb=>(List.mem_append.1 hb).elim (QQ h.c b) (QQ h.a b)
theorem VR.setC {q:IV}(h:VR base w vc va co al) (hq:∀t∈Qct q,ZE base (ob vc++ob va) w.heap t.1 t.2.1 t.2.2.1 t.2.2.2) (ho:w'.ownsRow base 66 5 vc' (co.length+1) (co.flatMap Za++Za q))
  (hs:Step (ob vc) w w') (hn:∀b∈ob vc',b∈ob vc∨w.heap.size≤b):VR base w' vc' va (co++[q]) al:=by
 have hs2:Step (ob vc++ob va) w w':=hs.mono (λb hb=>List.mem_append.2 (.inl hb))
 have hn2:∀b∈ob vc'++ob va,b∈ob vc++ob va∨w.heap.size≤b:=λb hb=>by
  rcases List.mem_append.1 hb with hb | hb
  ·exact (hn b hb).imp (λh=>List.mem_append.2 (.inl h)) id
  ·exact .inl (List.mem_append.2 (.inr hb))
 refine ⟨?_,Qj h.a hs (λb hb hbc=>h.dj b hbc hb),λb hb hba=>?_,λd hd t ht=>?_⟩
 ·rw[List.length_append,List.flatMap_append];simpa using ho
 ·rcases hn b hb with h1 | h1
  ·exact h.dj b h1 hba
  ·have:=QQ h.a b hba;omega
 ·rcases List.mem_append.1 hd with hd | hd
  ·exact (h.each d hd t ht).app hs2 hn2
  ·simp only[List.mem_singleton] at hd;subst hd
   exact (hq t ht).app hs2 hn2
theorem VR.setA {al':LI}(h:VR base w vc va co al) (ho:Qt 3 base w' va' al') (hs:Step (ob va) w w') (hn:∀b∈ob va',b∈ob va∨w.heap.size≤b):VR base w' vc va' co al':=by
 have hs2:Step (ob vc++ob va) w w':=hs.mono (λb hb=>List.mem_append.2 (.inr hb))
 have hn2:∀b∈ob vc++ob va',b∈ob vc++ob va∨w.heap.size≤b:=λb hb=>by
  rcases List.mem_append.1 hb with hb | hb
  ·exact .inl (List.mem_append.2 (.inl hb))
  ·exact (hn b hb).imp (λh=>List.mem_append.2 (.inr h)) id
 refine ⟨Qj h.c hs (λb hb hba=>h.dj b hb hba),ho,λb hb hba=>?_,λd hd t ht=>(h.each d hd t ht).app hs2 hn2⟩
 rcases hn b hba with h1 | h1
 ·exact h.dj b hb h1
 ·have:=QQ h.c b hb;omega
theorem VR.itms {L:LN}(h:VR base w vc va co al) (hn:co.length≤1099511627776) (hm:∀q∈co,VN q.nm) (hL:∀b∈L,b<base):YZ L w.heap vc co :=
 ⟨QS h.c hn (λb hb hbL=>by have:=(Qk h.c b hb).1;have:=hL b hbL;omega),λq hq=>⟨h.each q hq (q.p.va,q.p.a.al.length,1,q.p.a.al.map (.int .i64)) (by simp) L (λb hb=>.inl (hL b hb)),h.each q hq (q.p.vm,q.p.a.mr.length,1,q.p.a.mr.map (.int .i64)) (by simp) L (λb hb=>.inl (hL b hb)),h.each q hq (q.p.ve,q.p.a.ed.length,3,q.p.a.ed.flatMap Qy) (by simp) L (λb hb=>.inl (hL b hb))⟩,hm⟩
end
theorem YH (ns:LN):(bys ns).length=ns.length:=by rw[bys,List.length_map]
def grN (ns:LN) (o:Nat):LN:=(ns.drop o).take 27
theorem QeK {ns:LN}{o:Nat}(h:o+27≤ns.length):(grN ns o).length=27:=by unfold grN;simp;omega
theorem QhS {ns:LN}{o:Nat}(h:∀n∈ns,n<256):∀n∈grN ns o,n<256:=Qhw h o 27
theorem Qfw (ns:LN) (n:Nat):(bys ns).set 0 (.int .u8 (n:Int))=bys (ns.set 0 n):=by
 unfold bys;rw[List.map_set]
theorem Qgl {ns:LN}{n:Nat}(h:∀m∈ns,m<256) (hn:n<256):∀m∈ns.set 0 n,m<256:=λm hm=>by
 rcases List.mem_or_eq_of_mem_set hm with h1 | rfl
 ·exact h m h1
 ·exact hn
theorem Qdz {ns:LN}{n:Nat}(h:0<ns.length):(ns.set 0 n).getD 0 0=n:=by simp[List.getD,h]
structure GdA (a:QT):Prop where
 ok:Zm a
 p:0<a.st
 s:a.st≤3
 c:∃a0:QT,Zm a0∧0<a0.st∧a=Yq a0
theorem jq {a:QT}(ho:Zm a) (h:0<a.st):0<(Yq a).st:=by
 have hf:=(KU ho).1
 show 0<((found a).length:Int)
 have h0:(0:Int)∈found a:=by
  have key:∀(f i:Nat) (out:LI),(0:Int)∈out→(0:Int)∈qN a f i out:=by
   intro f
   induction f with
   | zero=>intro i out h;exact h
   | succ f ih =>
    intro i out h
    rw[qN]
    split
    ·exact ih _ _ (zS _ _ _ h)
    ·exact h
  refine key _ _ _ ?_
  unfold fd0;rw[if_pos h];simp
 have:=List.length_pos_of_mem h0
 omega
theorem GdA.of {a a0:QT}{n:Nat}(h0:Zm a0) (h1:0<a0.st) (h2:a0.st≤((1+n % 5:Nat):Int)) (h3:a=Yq a0) (hn:n<3):GdA a:=by
 have h4:=zZ h0
 subst h3
 exact ⟨h4.1,jq h0 h1,by have:=h4.2.2;omega,a0,h0,h1,rfl⟩
end Go.Proofs.YtdffckgdcegpaaaGreatDoor
namespace Go.Lg
open Go.RowKit
section
variable {P:Program} {n:Nat} {f:Fr} {w:World} {all:List Oper} {C:World→Prop} {K:Fr→World→Prop}
end
section
variable {P:Program} {n:Nat} {f:Fr} {w:World} {all:List Oper} {C J:World→Prop} {K:Fr→World→Prop}
end
end Go.Lg
namespace Go.Proofs.YtdffckgdcegpaaaGreatDoor
open Go.Proofs.Tryz
open Go.Lg
instance ayZi1:Ay prog 29 3 28 27:=⟨by kernel_rfl,by kernel_rfl⟩
theorem Qa4 (p:Int×Int):∀u∈QP p,u.oneCell'=true:=by
 intro y hy
 simp only[QP,List.mem_cons,List.not_mem_nil,or_false] at hy
 rcases hy with rfl | rfl <;> rfl
instance ayAv1:Ay prog 23 5 5 1:=⟨underlying23,by kernel_rfl⟩
def nm1 (c k:Nat):ByteArray:=⟨#[UInt8.ofNat (c+k)]⟩
def Jb (k n:Nat):J0:=if 48≤n∧n<52 then ⟨nm1 97 k,false,false,false,(n:Int) - 47⟩ else
 ⟨nm1 97 k,decide (((n &&& 1:Nat):Int)=1),decide (((n &&& 2:Nat):Int)=2),decide (((n &&& 4:Nat):Int)=4),0⟩
def Y1 (ns:LN) (i:Nat):List J0:=(List.range i).map λk=>Jb k (ns.getD k 0)
theorem Qam (ns:LN) (i:Nat):Y1 ns (i+1)=Y1 ns i++[Jb i (ns.getD i 0)]:=by
 unfold Y1;rw[List.range_succ,List.map_append];rfl
theorem JV (ns:LN) (i:Nat):(Y1 ns i).length=i:=by unfold Y1;simp
set_option maxHeartbeats 1000000 in
theorem jD {w:World}{ns:LN}(hn:ns.length=5) (hb:∀n∈ns,n<256) :
  QL prog 51 [.agg (bys ns).toArray] w λr w'=>Step [] w w'∧w'.ownsRow w.heap.size 87 5 r (Y1 ns 5).length ((Y1 ns 5).flatMap Zj):=by
 refine QL.of_W func51 rfl ntmps51 results51 (by simp) ?_
 refine Qc<|xl rfl<|QR (us:=bys ns) rfl λb1 w1 hs1 hb1 hB1=>Qe ?_
 have hz1:=hs1.size
 refine Qc<|Qe<|Qf<|Qc<|Qe<|Qg<|QC (α:=Nat×Value) [(3,53)] (λz=>[(3,z.2),(4,.int .i64 z.1)]) (λz w'=>z.1≤5∧Step [] w1 w'∧w'.ownsRow w1.heap.size 87 5 z.2 (Y1 ns z.1).length ((Y1 ns z.1).flatMap Zj)) (λz=>5 - z.1) (by rfl) (0,Zb) ⟨rfl,rfl,trivial⟩
  ⟨Nat.zero_le _,Step.refl _ _,QO _ _ _ _⟩ ?_
 rintro ⟨k,v⟩ g w2 ⟨hk,hs2,ho2⟩
 simp only[] at hk ho2
 refine Qf<|Qc<|Qb<|x (QB rfl rfl)<|xe ?_
 refine QH rfl (λh7=>?_) (λh7=>?_)
 ·refine Qz ?_
  have hke:k=5:=by have h8:¬(k:Int)<5:=h7;omega
  rw[hke] at ho2
  refine Qc<|Qb<|Qe ?_
  exact Qm ⟨[v],⟨rfl,trivial⟩,hs1.trans hs2,Zi ho2 hz1⟩
 have hlt:k<5:=by have h8:(k:Int)<5:=h7;omega
 have q:=Vv (ns:=ns) (j:=0+k*1) (by omega)
 have ql:=Y8 hb (0+k*1)
 have hnk:ns.getD (0+k*1) 0=ns.getD k 0:=by rw[show 0+k*1=k by omega]
 rw[hnk] at q ql
 have hsu:=Qam ns k
 have hle:=JV ns k
 refine Q8 (ns.getD k 0) λn hnn=>?_
 rw[hnn] at q ql hsu
 have hB12:=hB1.ext hs2
 refine Qi<|Qf<|Qg<|Qc<|Qb<|x (ZI (k':=.u8) rfl ⟨by omega,by omega⟩)<|x (Qx rfl rfl ⟨by omega,by omega⟩)<|xl rfl<|QD (us:=[[.int .u8 ((97:Int)+(k:Int))]]) rfl rfl (by decide) (by simp) ⟨rfl,rfl,trivial⟩ λb13 w3 hs3 hb13 hB13=>?_
 have e97:((97:Int)+(k:Int))=((97+k:Nat):Int):=by omega
 have hB13':Q0 w3.heap b13 5 [.int .u8 ((97+k:Nat):Int)]:=by rw[←e97];exact hB13
 refine x (Qip (n:=97+k) hB13' (by omega) rfl)<|x (QE ⟨rfl,trivial⟩)<|xl rfl<|Qu (us:=[.string ⟨#[]⟩,.bool false,.bool false,.bool false,.int .i64 0]) rfl λb5 w4 hs4 hb5 hB5=>xl rfl<|Qo (us:=Zj ⟨nm1 97 k,false,false,false,0⟩) hB5 rfl rfl rfl rfl ⟨rfl,rfl,rfl,rfl,rfl,trivial⟩ λw5 hs5 hB55 =>
  xe ?_
 have hs25:Step [] w2 w5:=(hs3.trans hs4).then1 hs5 (by have:=hs3.size;omega)
 have hB15:=hB12.ext hs25
 have hz25:=hs25.size
 have hz3:=hs3.size
 have hl1:=hB1.lt
 have hz2:=hs2.size
 have n15:b1∉[b5]:=by simp only[List.mem_singleton];omega
 refine QV (α:=Unit) [(16,49)] (λ_=>[]) (λ_ w'=>Step [b5] w5 w'∧Q0 w'.heap b5 87 (Zj (Jb k n))) (by rfl) ?_ ?_
 ·refine QV (α:=Bool) [(16,25)] (λz=>[(25,.bool z)]) (λz w'=>w'=w5∧(z=true↔48≤n∧n<52)) (by rfl) ?_ ?_
  ·refine Qw<|Qb<|x (ZA (i:=k) rfl rfl hlt)<|x (Qd hB15 rfl q)<|xb (ZN rfl rfl) (λh19=>?_) (λh19=>?_)
   ·have h20:(48:Int)≤(n:Int):=h19
    refine Qb<|Qb<|x (ZA (i:=k) rfl rfl hlt)<|x (Qd hB15 rfl q)<|x (QB rfl rfl)<|x (Ql rfl)<|xe ?_
    refine ⟨decide ((n:Int)<52),⟨rfl,trivial⟩,rfl,?_⟩
    rw[decide_eq_true_eq];omega
   have h20:¬(48:Int)≤(n:Int):=h19
   refine Qb<|xs rfl<|xs rfl<|xs rfl<|xs rfl<|x (Ql rfl)<|xe ?_
   exact ⟨false,⟨rfl,trivial⟩,rfl,⟨λh=>(by cases h),λh=>absurd (by omega) h20⟩⟩
  rintro z g6 w6 ⟨rfl,hz⟩
  refine Q2 rfl (λh25=>?_) (λh25=>?_)
  ·have hc:=hz.1 h25
   refine Qw<|Qb<|x (ZA (i:=k) rfl rfl hlt)<|x (Qd hB15 rfl q)<|x (ZI (k':=.i64) rfl ⟨by omega,by omega⟩)<|x (Jl rfl rfl ⟨by omega,by omega⟩)<|x (Qa rfl)<|xl rfl<|QG hB55 rfl rfl (by simp) rfl λw7 hs7 hB57 =>
    xe ?_
   refine ⟨(),trivial,hs7,?_⟩
   unfold Jb
   rw[if_pos hc]
   exact hB57
  have hc:¬(48≤n∧n<52):=λh=>by have:=hz.2 h;rw[this] at h25;cases h25
  have hd5:Step [] w6 { w6 with drawn:=w6.drawn+1 }:=Step.drew _ _
  refine QU (Step [b5] w6) [(0,true),(1,true),(2,true),(3,true),(4,true),(5,true),(6,true),(7,true),(8,true),(9,true),(10,true),(11,true),(12,true),(13,true),(14,true),(15,true),(16,false),(17,true),(18,false),(19,true),(20,false)] mixed (by rfl) (by kernel_rfl) (Step.drew _ _) ?_
  refine p (λ_=>Qn)<|p (λ_=>ZA (i:=k) rfl rfl hlt)<|pq (λ_ hc=>Qd (hB15.step hc n15) rfl q)<|p (λ_=>Uj (a:=n) (b:=1) rfl rfl ql (by decide))<|p (λ_=>Q5 rfl rfl) <|
   p (λ_=>Qn)<|p (λ_=>ZA (i:=k) rfl rfl hlt)<|pq (λ_ hc=>Qd (hB15.step hc n15) rfl q)<|p (λ_=>Uj (a:=n) (b:=2) rfl rfl ql (by decide))<|p (λ_=>Q5 rfl rfl) <|
   p (λ_=>Qn)<|p (λ_=>ZA (i:=k) rfl rfl hlt)<|pq (λ_ hc=>Qd (hB15.step hc n15) rfl q)<|p (λ_=>Uj (a:=n) (b:=4) rfl rfl ql (by decide))<|p (λ_=>Q5 rfl rfl)<|?_
  refine p (λ_=>Qa rfl)<|pk<|QG (hB55.ext hd5) rfl rfl (by simp) rfl λw7 hs7 hB57=>⟨(hd5.any (L:=[b5])).trans' hs7,?_⟩
  refine p (λ_=>Qa rfl)<|pk<|QG hB57 rfl rfl (by simp) rfl λw8 hs8 hB58=>⟨((hd5.any (L:=[b5])).trans' hs7).trans' hs8,?_⟩
  refine p (λ_=>Qa rfl)<|pkl (hl:=by kernel_rfl)<|QG hB58 rfl rfl (by simp) rfl λw9 hs9 hB59=>pe ?_
  refine ⟨(),trivial,(((hd5.any (L:=[b5])).trans' hs7).trans' hs8).trans' hs9,?_⟩
  unfold Jb
  rw[if_neg hc]
  exact hB59
 rintro _ g6 w6 ⟨hs6,hB56⟩
 have hs26:Step [] w2 w6:=hs25.then1 hs6 (by omega)
 refine Qw<|Qb<|x (Qr hB56 rfl rfl)<|xl rfl<|QD (us:=[Zj (Jb k n)]) rfl rfl (by decide) (show 1*5≤1000000 by omega) ⟨rfl,rfl,trivial⟩ λb52 w12 hs12 hb52 hB52=>?_
 have hs212:=hs26.trans hs12
 have hz212:=hs212.size
 refine xl rfl<|QY (news:=Zj (Jb k n)) (L:=[]) (Qq ho2 hs212) rfl rfl rfl (hB52.at (by simp)) (y0 _) (by omega) (by omega) λv13 w13 ho13 hs13 hn13 =>
  Qe<|Qw<|Qb<|x (Qx rfl rfl ⟨by omega,by omega⟩)<|Qe<|⟨(k+1,v13),by simp only[];omega,⟨rfl,rfl,trivial⟩,hlt,(hs2.trans hs212).then hs13 (λc hc=>.inr (Qk ho2 c hc).1),?_⟩
 simp only[]
 rw[hsu,List.length_append,List.flatMap_append]
 simpa using ho13
def YT (k:Nat):LI:=(List.range k).map λi:Nat=>(i:Int)
theorem Un (k:Nat):(YT k).length=k:=by simp[YT]
theorem qD (k:Nat):YT (k+1)=YT k++[(k:Int)]:=by unfold YT;rw[List.range_succ,List.map_append];rfl
theorem yF (k:Nat) (x:Int):x∈YT k↔0≤x∧x<(k:Int):=by
 unfold YT
 simp only[List.mem_map,List.mem_range]
 constructor
 ·rintro ⟨i,hi,rfl⟩;omega
 ·intro h;exact ⟨x.toNat,by omega,by omega⟩
theorem Qeb (k:Nat):Yf (YT k):=by
 induction k with
 | zero=>exact List.Pairwise.nil
 | succ k ih =>
  rw[qD]
  refine List.pairwise_append.2 ⟨ih,List.pairwise_singleton _ _,λx hx y hy=>?_⟩
  have:=(yF k x).1 hx
  simp at hy;omega
def YS (n m:Nat):LI:=(List.range n).map λk:Nat=>if k<m then (k:Int) else -1
theorem qK {m k:Nat}(h:k<m):Y7 (YT m) (k:Int)=k:=by
 unfold Y7 YT
 simp[List.getD,h]
theorem Qj3 {fd out R:LI}{t:Int}(hp:fd=out++R) (hm:t∈out):Uw fd t=(out.idxOf t:Nat):=by
 subst hp
 unfold Uw
 rw[if_pos (List.mem_append_left _ hm),List.idxOf_append,if_pos hm]
theorem QiL {fd out R:LI}{t:Int}(hp:fd=out++[t]++R) (hm:t∉out):Uw fd t=(out.length:Nat):=by
 subst hp
 unfold Uw
 rw[if_pos (by simp),List.append_assoc,List.idxOf_append,if_neg hm]
 simp
theorem qJ {n m k:Nat}(h:k<n):Y7 (YS n m) (k:Int)=if k<m then (k:Int) else -1:=by
 unfold Y7 YS
 simp[List.getD,h]
theorem Qd6 {n m:Nat}:(YS n m).set m (m:Int)=YS n (m+1):=by
 apply List.ext_getElem
 ·simp[YS]
 ·intro k h1 h2
  have hk:k<n:=by simpa[YS] using h2
  rw[List.getElem_set]
  by_cases e:m=k
  ·subst e;simp[YS]
  ·rw[if_neg e]
   simp only[YS,List.getElem_map,List.getElem_range]
   by_cases h3:k<m
   ·rw[if_pos h3,if_pos (by omega)]
   ·rw[if_neg h3,if_neg (by omega)]
theorem qB {R:Nat→List Ed}(hR:∀i,∀e∈R i,e.1=(i:Int)) (j:Nat):∀n,ZH ((List.range' 0 n).flatMap R) j=if j<n then R j else []
 | 0=>by simp[ZH]
 | n+1=>by
  have hn:ZH (R n) j=if n=j then R n else []:=by
   unfold ZH
   by_cases e:n=j
   ·rw[if_pos e];exact List.filter_eq_self.2 λx hx=>decide_eq_true (by rw[hR n x hx,e])
   ·rw[if_neg e];exact List.filter_eq_nil_iff.2 λx hx=>by rw[decide_eq_true_eq,hR n x hx];omega
  rw[List.range'_1_concat,List.flatMap_append,Nat.zero_add]
  unfold ZH at hn ⊢
  rw[List.filter_append]
  have ih:=qB hR j n
  unfold ZH at ih
  rw[ih]
  simp only[List.flatMap_cons,List.flatMap_nil,List.append_nil]
  rw[hn]
  by_cases h1:j<n
  ·rw[if_pos h1,if_neg (by omega),if_pos (by omega),List.append_nil]
  ·rw[if_neg h1]
   by_cases h2:n=j
   ·subst h2;rw[if_pos rfl,if_pos (by omega),List.nil_append]
   ·rw[if_neg h2,if_neg (by omega)];rfl
section
variable {a:QT}
theorem V3 {s:Int}:∀(vs:LI) (out:LI),∃r,vs.foldl (Kt a s) out=out++r
 | [],out=>⟨[],by simp⟩
 | v::vs,out=>by
  rw[List.foldl_cons]
  obtain ⟨r,hr⟩:=V3 vs (Kt a s out v)
  rw[hr]
  unfold Kt
  split
  ·exact ⟨[nxt a.ed s v]++r,by rw[List.append_assoc]⟩
  ·exact ⟨r,rfl⟩
theorem V2:∀(f i:Nat) (out:LI),∃r,qN a f i out=out++r
 | 0,i,out=>⟨[],by simp[qN]⟩
 | f+1,i,out=>by
  rw[qN]
  split
  ·obtain ⟨r,hr⟩:=V2 f (i+1) (fdR a out (cget out i))
   obtain ⟨r',hr'⟩:=V3 (a:=a) (s:=cget out i) a.al out
   refine ⟨r'++r,?_⟩
   rw[hr]
   unfold fdR
   rw[hr',List.append_assoc]
  ·exact ⟨[],by simp⟩
theorem VV {fd:LI}{i:Nat}:∀(vs out:LI) (c:Cs),(∃r,fd=vs.foldl (Kt a (cget fd i)) out++r)→c.ord=YT out.length→c.num=YS fd.length out.length →
  (vs.filterMap (Jf a fd i)).foldl (Zt i) c=⟨YT (vs.foldl (Kt a (cget fd i)) out).length,YS fd.length (vs.foldl (Kt a (cget fd i)) out).length,c.mk',c.ed++vs.filterMap (Jf a fd i)⟩
 | [],out,c,_,h1,h2=>by
  obtain ⟨o,n,m,e⟩:=c
  simp only[] at h1 h2
  subst h1 h2
  simp
 | v::vs,out,c,hr,h1,h2=>by
  rw[List.foldl_cons] at hr ⊢
  obtain ⟨r,hr⟩:=hr
  obtain ⟨r2,hr2⟩:=V3 (a:=a) (s:=cget fd i) vs (Kt a (cget fd i) out v)
  have hpre:fd=Kt a (cget fd i) out v++(r2++r):=by rw[←List.append_assoc,←hr2];exact hr
  by_cases h0:0≤nxt a.ed (cget fd i) v
  ·have hcf:Jf a fd i v=some ((i:Int),v,Uw fd (nxt a.ed (cget fd i) v)):=by unfold Jf;rw[if_pos h0]
   rw[List.filterMap_cons,hcf]
   simp only[]
   rw[List.foldl_cons]
   by_cases hm:nxt a.ed (cget fd i) v∈out
   ·have hfe:Kt a (cget fd i) out v=out:=by unfold Kt;rw[if_neg (λh=>h.2 hm)]
    rw[hfe] at hr hpre ⊢
    have hix:Uw fd (nxt a.ed (cget fd i) v)=(out.idxOf (nxt a.ed (cget fd i) v):Nat):=Qj3 hpre hm
    have hlt:=List.idxOf_lt_length_of_mem hm
    have hle:out.length≤fd.length:=by rw[hpre];simp
    have hst:Zt i c ((i:Int),v,Uw fd (nxt a.ed (cget fd i) v))=⟨c.ord,c.num,c.mk',c.ed++[((i:Int),v,Uw fd (nxt a.ed (cget fd i) v))]⟩:=by
     unfold Zt
     simp only[]
     rw[h2,hix,qJ (by omega),if_pos hlt,if_neg (by omega)]
    rw[hst,VV vs out ⟨c.ord,c.num,c.mk',c.ed++[((i:Int),v,Uw fd (nxt a.ed (cget fd i) v))]⟩ ⟨r,hr⟩ h1 h2]
    simp only[List.append_assoc,List.singleton_append]
   ·have hfe:Kt a (cget fd i) out v=out++[nxt a.ed (cget fd i) v]:=by unfold Kt;rw[if_pos ⟨h0,hm⟩]
    rw[hfe] at hr hpre ⊢
    have hix:Uw fd (nxt a.ed (cget fd i) v)=(out.length:Nat):=QiL hpre hm
    have hle:out.length<fd.length:=by rw[hpre];simp
    have hst:Zt i c ((i:Int),v,Uw fd (nxt a.ed (cget fd i) v))=⟨YT (out.length+1),YS fd.length (out.length+1),c.mk',c.ed++[((i:Int),v,Uw fd (nxt a.ed (cget fd i) v))]⟩:=by
     unfold Zt
     simp only[]
     rw[h1,h2,hix,qJ hle,if_neg (Nat.lt_irrefl _),if_pos (by omega),Un,qD]
     simp only[Int.toNat_natCast]
     rw[Qd6]
    rw[hst,VV vs (out++[nxt a.ed (cget fd i) v]) _ ⟨r,hr⟩ (by simp) (by simp)]
    simp only[List.append_assoc,List.singleton_append]
  ·have hcf:Jf a fd i v=none:=by unfold Jf;rw[if_neg h0]
   have hfe:Kt a (cget fd i) out v=out:=by unfold Kt;rw[if_neg (λh=>h0 h.1)]
   rw[hfe] at hr ⊢
   rw[List.filterMap_cons,hcf]
   exact VV vs out c ⟨r,hr⟩ h1 h2
theorem Qfs (fd:LI) (i:Nat):Ym a fd (i+1)=Ym a fd i++(if cget fd i∈a.mr then [(i:Int)] else []):=by
 unfold Ym
 rw[List.range'_1_concat,List.filter_append,List.map_append,Nat.zero_add]
 by_cases h:cget fd i∈a.mr <;> simp[h]
theorem Qfu (fd:LI) (i:Nat):Yz a fd (i+1)=Yz a fd i++a.al.filterMap (Jf a fd i):=by
 unfold Yz
 rw[List.range'_1_concat,List.flatMap_append,Nat.zero_add]
 simp
theorem jr {fd:LI}{i n:Nat}(h:i<n):(i:Int)∈Ym a fd n↔cget fd i∈a.mr:=by
 unfold Ym
 simp only[List.mem_map,List.mem_filter,List.mem_range'_1,decide_eq_true_eq]
 constructor
 ·rintro ⟨k,⟨_,h2⟩,h3⟩
  have:k=i:=by omega
  subst this;exact h2
 ·intro h2;exact ⟨i,⟨by omega,h2⟩,rfl⟩
theorem Qft {fd:LI}(hfd:fd=found a) (hle:fd.length≤a.st.toNat):∀(f g i:Nat) (out:LI),i≤out.length→qN a g i out=fd→i+g=a.st.toNat→fd.length≤i+f →
  Jp (Yq a) f i ⟨YT out.length,YS fd.length out.length,Ym a fd i,Yz a fd i⟩=⟨YT fd.length,YS fd.length fd.length,Ym a fd fd.length,Yz a fd fd.length⟩:=by
 have hbe:(Yq a).ed=Yz a fd fd.length:=by rw[hfd];rfl
 have hbm:(Yq a).mr=Ym a fd fd.length:=by rw[hfd];rfl
 have done:∀(i:Nat) (out:LI),i≤out.length→out=fd→¬i<out.length→(⟨YT out.length,YS fd.length out.length,Ym a fd i,Yz a fd i⟩:Cs)=⟨YT fd.length,YS fd.length fd.length,Ym a fd fd.length,Yz a fd fd.length⟩:=by
  intro i out h1 h2 h3
  have:i=fd.length:=by rw[←h2];omega
  rw[this,h2]
 intro f
 induction f with
 | zero =>
  intro g i out h1 h2 h3 h4
  obtain ⟨r,hr⟩:=V2 (a:=a) g i out
  rw[h2] at hr
  have hl:fd.length=out.length+r.length:=by rw[hr,List.length_append]
  have hr0:r=[]:=List.eq_nil_of_length_eq_zero (by omega)
  rw[Jp]
  exact done i out h1 (by rw[hr,hr0,List.append_nil]) (by omega)
 | succ f ih =>
  intro g i out h1 h2 h3 h4
  obtain ⟨r,hr⟩:=V2 (a:=a) g i out
  rw[h2] at hr
  have hl:fd.length=out.length+r.length:=by rw[hr,List.length_append]
  rw[Jp]
  simp only[Un]
  by_cases hi:i<out.length
  ·rw[if_pos hi]
   obtain ⟨g',rfl⟩:∃g',g=g'+1:=⟨g - 1,by omega⟩
   rw[qN,if_pos hi] at h2
   have hcg:cget out i=cget fd i:=by
    rw[hr];unfold cget
    simp[List.getD,List.getElem?_append_left hi]
   rw[hcg] at h2
   have hin:i<fd.length:=by omega
   have hrow:ZH (Yq a).ed (i:Int)=a.al.filterMap (Jf a fd i):=by
    rw[hbe]
    unfold Yz
    rw[qB (λj e he=>by
     obtain ⟨v,_,hv⟩:=List.mem_filterMap.1 he
     unfold Jf at hv
     split at hv
     ·cases hv;rfl
     ·cases hv),if_pos hin]
   have hmk:Yh (Yq a) i ⟨YT out.length,YS fd.length out.length,Ym a fd i,Yz a fd i⟩=⟨YT out.length,YS fd.length out.length,Ym a fd (i+1),Yz a fd i⟩:=by
    unfold Yh
    simp only[]
    rw[qK hi,hbm,Qfs]
    by_cases hc:cget fd i∈a.mr
    ·rw[if_pos ((jr hin).2 hc),if_pos hc]
    ·rw[if_neg (λh=>hc ((jr hin).1 h)),if_neg hc];simp
   have hrw:U4 (Yq a) i ⟨YT out.length,YS fd.length out.length,Ym a fd i,Yz a fd i⟩=⟨YT (fdR a out (cget fd i)).length,YS fd.length (fdR a out (cget fd i)).length,Ym a fd (i+1),Yz a fd (i+1)⟩:=by
    unfold U4
    rw[hmk]
    simp only[]
    rw[qK hi,hrow]
    obtain ⟨r3,hr3⟩:=V2 (a:=a) g' (i+1) (fdR a out (cget fd i))
    rw[h2] at hr3
    rw[VV a.al out ⟨YT out.length,YS fd.length out.length,Ym a fd (i+1),Yz a fd i⟩ ⟨r3,hr3⟩ rfl rfl,Qfu]
    rfl
   rw[hrw]
   obtain ⟨r4,hr4⟩:=V3 (a:=a) (s:=cget fd i) a.al out
   exact ih g' (i+1) _ (by unfold fdR;rw[hr4,List.length_append];omega) h2 (by omega) (by omega)
  ·rw[if_neg hi]
   have h5:qN a g i out=out:=by
    cases g with
    | zero=>rfl
    | succ g=>rw[qN,if_neg hi]
   exact done i out h1 (h5.symm.trans h2) hi
theorem Qfr (ho:Zm a) (h0:0<a.st):Jq (Yq a)=Yq a:=by
 have hpos:=jq ho h0
 have hfl:=(KU ho).1.len ho.st0
 have hst:(Yq a).st=((found a).length:Int):=rfl
 have hsn:(Yq a).st.toNat=(found a).length:=by omega
 have hfp:0<(found a).length:=by omega
 have h:=Qft (a:=a) rfl hfl (found a).length a.st.toNat 0 (fd0 a) (Nat.zero_le _) rfl (by omega) (by omega)
 have hf0:fd0 a=[0]:=by unfold fd0;rw[if_pos h0]
 rw[hf0] at h
 have hc0:Jg (Yq a)=⟨YT 1,YS (found a).length 1,Ym a (found a) 0,Yz a (found a) 0⟩:=by
  unfold Jg
  rw[hsn]
  have e:(List.replicate (found a).length (-1:Int)).set 0 0=YS (found a).length 1:=by
   apply List.ext_getElem
   ·simp[YS]
   ·intro k h1 h2
    rw[List.getElem_set]
    simp only[YS,List.getElem_map,List.getElem_range,List.getElem_replicate]
    by_cases e:k=0
    ·subst e;simp
    ·rw[if_neg (by omega),if_neg (by omega)]
  rw[e]
  simp[YT,Ym,Yz]
 unfold Jq
 rw[if_neg (by omega)]
 simp only[]
 rw[hc0,hsn]
 have h':Jp (Yq a) (found a).length 0 ⟨YT 1,YS (found a).length 1,Ym a (found a) 0,Yz a (found a) 0⟩=⟨YT (found a).length,YS (found a).length (found a).length,Ym a (found a) (found a).length,Yz a (found a) (found a).length⟩:=h
 rw[h']
 simp only[Un]
 rfl
theorem Qag (ho:Zm a) (h0:0<a.st):JE (Yq a)=true:=by
 unfold JE
 rw[Qfr ho h0]
 simp[(ZB _).2 (zZ ho).1]
theorem GdA.can {a:QT}(h:GdA a):JE a=true:=by
 obtain ⟨a0,h1,h2,rfl⟩:=h.c
 exact Qag h1 h2
end
structure D25 (c:Zu):Prop where
 ev:∃ns:LN,ns.length=5∧c.ev=Y1 ns 5
 c0:c.co.length≠0
 c3:c.co.length≤3
 r2:c.rq.length≤2
 co:∀x∈c.co,Yw x.nm=true∧GdA x.a∧∀e∈x.a.al,e<5
 rq:∀x∈c.rq,Yw x.nm=true∧GdA x.a∧∀e∈x.a.al,∃y∈c.co,e∈y.a.al
 nd:(c.co.map (·.nm)++c.rq.map (·.nm)).Nodup
 x2:c.ex.length≤2
 ex:∀x∈c.ex,Yw x.nm=true∧x.ls≠[]∧YI (szs c.co) none x.ls=0
 xn:(c.ex.map (·.nm)).Nodup
 k1:c.cs.length≤1
 cs:∀x∈c.cs,Yw x.nm=true∧YG (szs c.co) x=0
theorem Qga (n:Nat) (x:Int):x∈Js n↔0≤x∧x<(n:Int):=yF n x
theorem Qgb (n:Nat):Yf (Js n):=Qeb n
theorem QgI {a b:LI}(ia:Yf a) (ib:Yf b) (h:∀e∈a,e∈b):(mns a b).length=0:=by
 refine Nat.eq_zero_of_not_pos λhp=>?_
 obtain ⟨x,hx⟩:=List.exists_mem_of_length_pos hp
 have:=(V1 ia ib x).1 hx
 by_cases h1:x∈a
 ·simp[h1,h x h1] at this
 ·simp[h1] at this
theorem QbK {nev:Nat}{amg:LI}{seen:List ByteArray}{x:YC}(hn:Yw x.nm=true) (hs:x.nm∉seen) (hg:GdA x.a) (he:∀e∈x.a.al,e<(nev:Int)) (hi:Yf amg) (hm:∀e∈x.a.al,e∈amg):ZX nev amg seen x=0:=by
 have hp:=hg.p
 unfold ZX
 rw[if_neg (by rw[hn];decide),if_neg hs,if_neg (by simpa using (ZB _).2 hg.ok),if_neg (by rw[hg.can];decide),if_neg (by omega),if_neg,if_neg (by simpa using QgI hg.ok.ali hi hm)]
 intro h
 obtain ⟨e,h1,h2⟩:=List.any_eq_true.1 h
 have:=he e h1
 have:=of_decide_eq_true h2
 omega
theorem QbL {nev:Nat}{al:LI}(hal:Yf al):∀(l:List YC) (s:List ByteArray) (u:LI),Yf u→(∀x∈l,Yw x.nm=true∧GdA x.a∧∀e∈x.a.al,e<(nev:Int)∧e∈al)→(s++l.map (·.nm)).Nodup →
  ∃u',Z1 nev al s u l=(0,s++l.map (·.nm),u')∧Yf u'∧∀e,e∈u'↔e∈u∨∃y∈l,e∈y.a.al
 | [],s,u,hu,_,_=>⟨u,by simp[Z1],hu,by simp⟩
 | x::l,s,u,hu,hx,hn=>by
  obtain ⟨h1,h2,h3⟩:=hx x List.mem_cons_self
  have hsn:x.nm∉s:=by
   intro hm
   rw[List.map_cons,List.nodup_append] at hn
   exact hn.2.2 _ hm _ List.mem_cons_self rfl
  have hz:=QbK h1 hsn h2 (λe he=>(h3 e he).1) hal (λe he=>(h3 e he).2)
  obtain ⟨u',k1,k2,k3⟩:=QbL hal l (s++[x.nm]) (mrg (· || ·) u x.a.al) (Qbh _ _ _ _ (Nat.le_refl _) hu h2.ok.ali) (λy hy=>hx y (List.mem_cons_of_mem _ hy)) (by simpa using hn)
  refine ⟨u',?_,k2,λe=>?_⟩
  ·rw[Z1,if_neg (by simpa using hz),k1];simp
  ·rw[k3,V1 hu h2.ok.ali]
   constructor
   ·rintro (⟨h5 | h5,_⟩ | ⟨y,hy,h6⟩)
    ·exact .inl h5
    ·exact .inr ⟨x,List.mem_cons_self,h5⟩
    ·exact .inr ⟨y,List.mem_cons_of_mem _ hy,h6⟩
   ·rintro (h5 | ⟨y,hy,h6⟩)
    ·exact .inl ⟨.inl h5,by simp[h5]⟩
    ·rcases List.mem_cons.1 hy with rfl | hy
     ·exact .inl ⟨.inr h6,by simp[h6]⟩
     ·exact .inr ⟨y,hy,h6⟩
theorem QbI {nev:Nat}{u:LI}(hu:Yf u):∀(l:List YC) (s:List ByteArray),(∀x∈l,Yw x.nm=true∧GdA x.a∧∀e∈x.a.al,e<(nev:Int)∧e∈u)→(s++l.map (·.nm)).Nodup→X2 nev u s l=0
 | [],s,_,_=>rfl
 | x::l,s,hx,hn=>by
  obtain ⟨h1,h2,h3⟩:=hx x List.mem_cons_self
  have hsn:x.nm∉s:=by
   intro hm
   rw[List.map_cons,List.nodup_append] at hn
   exact hn.2.2 _ hm _ List.mem_cons_self rfl
  have hz:=QbK h1 hsn h2 (λe he=>(h3 e he).1) hu (λe he=>(h3 e he).2)
  rw[X2,if_neg (by simpa using hz)]
  exact QbI hu l (s++[x.nm]) (λy hy=>hx y (List.mem_cons_of_mem _ hy)) (by simpa using hn)
theorem qQ {sz:LI}:∀(l:List yf) (s:List ByteArray),(∀x∈l,Yw x.nm=true∧x.ls≠[]∧YI sz none x.ls=0)→(s++l.map (·.nm)).Nodup→Z6 sz s l=0
 | [],s,_,_=>rfl
 | x::l,s,hx,hn=>by
  obtain ⟨h1,h2,h3⟩:=hx x List.mem_cons_self
  have hsn:x.nm∉s:=by
   intro hm
   rw[List.map_cons,List.nodup_append] at hn
   exact hn.2.2 _ hm _ List.mem_cons_self rfl
  have hz:JK s x.nm=0:=by unfold JK;rw[if_neg (by rw[h1];decide),if_neg hsn]
  have hl:x.ls.length≠0:=λh=>h2 (List.eq_nil_of_length_eq_zero h)
  have hz2:XH sz x.ls=0:=by unfold XH;rw[if_neg hl];exact h3
  rw[Z6,if_neg (by simpa using hz),if_neg (by simpa using hz2)]
  exact qQ l (s++[x.nm]) (λy hy=>hx y (List.mem_cons_of_mem _ hy)) (by simpa using hn)
theorem Qd8:∀{k:Nat},k<5→Yw (nm1 97 k)=true
 | 0,_=>by decide
 | 1,_=>by decide
 | 2,_=>by decide
 | 3,_=>by decide
 | 4,_=>by decide
theorem K0 {seen:List ByteArray}{k n:Nat}(hk:k<5) (hs:nm1 97 k∉seen):Y2 seen (Jb k n)=0:=by
 have hnm:(Jb k n).nm=nm1 97 k:=by unfold Jb;split <;> rfl
 unfold Y2
 rw[hnm,if_neg (by rw[Qd8 hk];decide),if_neg hs]
 unfold Jb
 by_cases h:48≤n∧n<52
 ·rw[if_pos h]
  simp only[]
  rw[if_neg (by omega),if_neg (by simp)]
 ·rw[if_neg h]
  simp only[]
  rw[if_neg (by omega),if_neg (by simp)]
theorem Qfa (ns:LN):Jc (Y1 ns 5)=0:=by
 have e:Y1 ns 5=[Jb 0 (ns.getD 0 0),Jb 1 (ns.getD 1 0),Jb 2 (ns.getD 2 0),Jb 3 (ns.getD 3 0),Jb 4 (ns.getD 4 0)]:=rfl
 have hnm:∀k n,(Jb k n).nm=nm1 97 k:=λk n=>by unfold Jb;split <;> rfl
 unfold Jc
 rw[if_neg (by rw[JV];decide),e]
 simp only[VF,hnm]
 rw[K0 (by decide) (by decide),K0 (by decide) (by decide),K0 (by decide) (by decide),K0 (by decide) (by decide),K0 (by decide) (by decide)]
 simp
theorem D25.ck {c:Zu}(h:D25 c):Zd c=0:=by
 obtain ⟨ns,_,hev⟩:=h.ev
 have hc3:=h.c3
 have hr2:=h.r2
 have hel:c.ev.length=5:=by rw[hev,JV]
 obtain ⟨u',k1,k2,k3⟩:=QbL (nev:=c.ev.length) (al:=Js c.ev.length) (Qgb _) c.co [] [] List.Pairwise.nil (λx hx=>by
  obtain ⟨h1,h2,h3⟩:=h.co x hx
  refine ⟨h1,h2,λe he=>?_⟩
  have:=h3 e he
  have:=(h2.ok.al e he).1
  rw[hel,Qga]
  exact ⟨by omega,by omega,by omega⟩) (by
  have:=h.nd
  rw[List.nodup_append] at this
  simpa using this.1)
 have hrq:=QbI (nev:=c.ev.length) k2 c.rq (c.co.map (·.nm)) (λx hx=>by
  obtain ⟨h1,h2,h3⟩:=h.rq x hx
  refine ⟨h1,h2,λe he=>?_⟩
  obtain ⟨y,hy,h4⟩:=h3 e he
  have:=(h.co y hy).2.2 e h4
  exact ⟨by omega,(k3 e).2 (.inr ⟨y,hy,h4⟩)⟩) h.nd
 unfold Zd
 rw[if_neg (by rw[hev];simpa using Qfa ns),if_neg h.c0,if_neg (by omega),k1]
 simp only[List.nil_append]
 rw[if_neg (by simp),if_neg (by simpa using hrq)]
 unfold Yp
 have hsl:(szs c.co).length=c.co.length:=by unfold szs;simp
 have hx2:=h.x2
 have hk1:=h.k1
 have hbad:¬(szs c.co).any Jm=true:=by
  intro hb
  obtain ⟨n,h1,h2⟩:=List.any_eq_true.1 hb
  unfold szs at h1
  obtain ⟨x,hx,rfl⟩:=List.mem_map.1 h1
  have:=(h.co x hx).2.1
  have h3:=this.p
  have h4:=this.s
  unfold Jm at h2
  simp at h2
  omega
 rw[if_neg (by omega),if_neg hbad,if_neg (by omega),if_neg (by simpa using qQ c.ex [] h.ex (by simpa using h.xn))]
 rcases hcs:c.cs with _ | ⟨x,l⟩
 ·rfl
 ·have hl:l=[]:=List.eq_nil_of_length_eq_zero (by rw[hcs,List.length_cons] at hk1;omega)
  obtain ⟨h1,h2⟩:=h.cs x (by rw[hcs];exact List.mem_cons_self)
  have hz:JK [] x.nm=0:=by unfold JK;rw[if_neg (by rw[h1];decide),if_neg (by simp)]
  rw[hl,Yy,if_neg (by simpa using hz),if_neg (by simpa using h2)]
  rfl
end Go.Proofs.YtdffckgdcegpaaaGreatDoor
namespace Go.Proofs
open Go.Proofs.Tryz
open Go.Shelf
def Tryz.sortI_ren:Go.Shelf.Ren:=⟨λ| 5=>101 | 8=>176 | 7=>175 | 19=>229 | 20=>230 | 10=>221 | 11=>222 | 12=>223 | 13=>224 | 14=>225 | 15=>226 | 16=>160 | 17=>227 | 18=>228 | 30=>267 | 31=>268 | 32=>269 | 33=>270 | 34=>271 | 35=>219 | 40=>296 | n=>n,λ| 23=>37 | 25=>3 | 3=>3 | 32=>269 | 22=>37 | 0=>0 | 44=>338 | 46=>340 | 4=>4 | 36=>332 | 35=>331 | 41=>178 | 5=>5 | 9=>9 | 53=>372 | 57=>376 | 63=>401 | 64=>381 | n=>n,λ| n=>n⟩
theorem Tryz.sortI:Go.Proofs.SlLaysM.n5 prog Tryz.sortI_ren:={
 mixed:=by kernel_rfl
 f5:=⟨Tryz.f101.name,by decide,func101.trans (congrArg some (by kernel_rfl))⟩
 f7:=⟨Tryz.f175.name,by decide,func175.trans (congrArg some (by kernel_rfl))⟩
 f8:=func176.trans (congrArg some (by kernel_rfl))
 f10:=⟨Tryz.f221.name,by decide,func221.trans (congrArg some (by kernel_rfl))⟩
 f11:=⟨Tryz.f222.name,by decide,func222.trans (congrArg some (by kernel_rfl))⟩
 f12:=⟨Tryz.f223.name,by decide,func223.trans (congrArg some (by kernel_rfl))⟩
 f13:=⟨Tryz.f224.name,by decide,func224.trans (congrArg some (by kernel_rfl))⟩
 f14:=⟨Tryz.f225.name,by decide,func225.trans (congrArg some (by kernel_rfl))⟩
 f15:=⟨Tryz.f226.name,by decide,func226.trans (congrArg some (by kernel_rfl))⟩
 f16:=⟨Tryz.f160.name,by decide,func160.trans (congrArg some (by kernel_rfl))⟩
 f17:=⟨Tryz.f227.name,by decide,func227.trans (congrArg some (by kernel_rfl))⟩
 f18:=⟨Tryz.f228.name,by decide,func228.trans (congrArg some (by kernel_rfl))⟩
 f19:=func229.trans (congrArg some (by kernel_rfl))
 f20:=func230.trans (congrArg some (by kernel_rfl))
 f30:=⟨Tryz.f267.name,by decide,func267.trans (congrArg some (by kernel_rfl))⟩
 f31:=func268.trans (congrArg some (by kernel_rfl))
 f32:=func269.trans (congrArg some (by kernel_rfl))
 f33:=⟨Tryz.f270.name,by decide,func270.trans (congrArg some (by kernel_rfl))⟩
 f34:=⟨Tryz.f271.name,by decide,func271.trans (congrArg some (by kernel_rfl))⟩
 f35:=⟨Tryz.f219.name,by decide,func219.trans (congrArg some (by kernel_rfl))⟩
 f40:=⟨Tryz.f296.name,by decide,func296.trans (congrArg some (by kernel_rfl))⟩
 t0:=underlying0
 a0:=Tryz.isAgg0
 z0:=Tryz.sizeOf0
 v0:=Tryz.zeroValue0
 t3:=underlying3
 a3:=Tryz.isAgg3
 z3:=Tryz.sizeOf3
 v3:=Tryz.zeroValue3
 t4:=underlying4
 a4:=Tryz.isAgg4
 z4:=Tryz.sizeOf4
 v4:=Tryz.zeroValue4
 t5:=underlying5
 a5:=Tryz.isAgg5
 z5:=Tryz.sizeOf5
 v5:=Tryz.zeroValue5
 t9:=underlying9
 a9:=Tryz.isAgg9
 z9:=Tryz.sizeOf9
 v9:=Tryz.zeroValue9
 t22:=underlying37
 a22:=Tryz.isAgg37
 z22:=Tryz.sizeOf37
 v22:=Tryz.zeroValue37
 t23:=underlying37
 a23:=Tryz.isAgg37
 z23:=Tryz.sizeOf37
 v23:=Tryz.zeroValue37
 t25:=underlying3
 a25:=Tryz.isAgg3
 z25:=Tryz.sizeOf3
 v25:=Tryz.zeroValue3
 t32:=underlying269
 a32:=Tryz.isAgg269
 z32:=Tryz.sizeOf269
 v32:=Tryz.zeroValue269
 t35:=underlying331
 a35:=Tryz.isAgg331
 z35:=Tryz.sizeOf331
 v35:=Tryz.zeroValue331
 t36:=underlying332
 a36:=Tryz.isAgg332
 z36:=Tryz.sizeOf332
 v36:=Tryz.zeroValue332
 t41:=underlying178
 a41:=Tryz.isAgg178
 z41:=Tryz.sizeOf178
 v41:=Tryz.zeroValue178
 t44:=underlying338
 a44:=Tryz.isAgg338
 z44:=Tryz.sizeOf338
 v44:=Tryz.zeroValue338
 t46:=underlying340
 a46:=Tryz.isAgg340
 z46:=Tryz.sizeOf340
 v46:=Tryz.zeroValue340
 t53:=underlying372
 a53:=Tryz.isAgg372
 z53:=Tryz.sizeOf372
 v53:=Tryz.zeroValue372
 t57:=underlying376
 a57:=Tryz.isAgg376
 z57:=Tryz.sizeOf376
 v57:=Tryz.zeroValue376
 t63:=underlying401
 a63:=Tryz.isAgg401
 z63:=Tryz.sizeOf401
 v63:=Tryz.zeroValue401
 t64:=underlying381
 a64:=Tryz.isAgg381
 z64:=Tryz.sizeOf381
 v64:=Tryz.zeroValue381 }
def Tryz.cmpI_ren:Go.Shelf.Ren:=⟨λ| 43=>129 | n=>n,λ| 22=>37 | 23=>3 | 3=>3 | 4=>4 | 0=>0 | n=>n,λ| n=>n⟩
theorem Tryz.cmpI:Go.Proofs.SlLaysE.n43 prog Tryz.cmpI_ren:={
 mixed:=by kernel_rfl
 f43:=⟨Tryz.f129.name,by decide,func129.trans (congrArg some (by kernel_rfl))⟩
 t0:=underlying0
 a0:=Tryz.isAgg0
 z0:=Tryz.sizeOf0
 v0:=Tryz.zeroValue0
 t3:=underlying3
 a3:=Tryz.isAgg3
 z3:=Tryz.sizeOf3
 v3:=Tryz.zeroValue3
 t4:=underlying4
 a4:=Tryz.isAgg4
 z4:=Tryz.sizeOf4
 v4:=Tryz.zeroValue4
 t22:=underlying37
 a22:=Tryz.isAgg37
 z22:=Tryz.sizeOf37
 v22:=Tryz.zeroValue37
 a23:=Tryz.isAgg3
 z23:=Tryz.sizeOf3 }
def Tryz.delI_ren:Go.Shelf.Ren:=⟨λ| 10=>55 | 6=>131 | n=>n,λ| 22=>37 | 23=>3 | 25=>118 | 3=>3 | 4=>4 | 0=>0 | n=>n,λ| n=>n⟩
theorem Tryz.delI:Go.Proofs.SlLaysH.n10 prog Tryz.delI_ren:={
 mixed:=by kernel_rfl
 f6:=⟨Tryz.f131.name,by decide,func131.trans (congrArg some (by kernel_rfl))⟩
 f10:=⟨Tryz.f55.name,by decide,func55.trans (congrArg some (by kernel_rfl))⟩
 t0:=underlying0
 a0:=Tryz.isAgg0
 z0:=Tryz.sizeOf0
 v0:=Tryz.zeroValue0
 t3:=underlying3
 a3:=Tryz.isAgg3
 z3:=Tryz.sizeOf3
 v3:=Tryz.zeroValue3
 t4:=underlying4
 a4:=Tryz.isAgg4
 z4:=Tryz.sizeOf4
 v4:=Tryz.zeroValue4
 t22:=underlying37
 a22:=Tryz.isAgg37
 z22:=Tryz.sizeOf37
 v22:=Tryz.zeroValue37
 a23:=Tryz.isAgg3
 z23:=Tryz.sizeOf3
 t25:=underlying118
 a25:=Tryz.isAgg118
 z25:=Tryz.sizeOf118
 v25:=Tryz.zeroValue118 }
end Go.Proofs
namespace Go.Proofs.YtdffckgdcegpaaaGreatDoor
open Go.Proofs.Tryz
open Go.Lg Go.Sort Go.Lib
abbrev iC:Int→Value:=Value.int .i64
theorem Vi {e:Nat}{w:World}{l:LI}{g:Nat}{cur:Array Value}(hg:w.heap[g]?=some (.cells cur e (0,0))) (htk:cur.toList.take (l.length*1)=l.map iC):Holds iC w g 0 l.toArray:=by
 intro j hj
 rw[List.size_toArray] at hj
 have h1:cur.toList[j]?=some (iC l[j]):=by
  have h2:(cur.toList.take (l.length*1))[j]?=(l.map iC)[j]?:=by rw[htk]
  rw[List.getElem?_take,if_pos (by omega),List.getElem?_map,List.getElem?_eq_getElem hj] at h2
  exact h2
 have h3:l.toArray[j]! = l[j]:=by simp[hj]
 constructor
 ·show (match w.heap[g]? with | some (.cells c _ _)=>if (none:Option _).isSome then none else c[0+j]? | _=>none)=_
  rw[hg,h3]
  simp only[Nat.zero_add,Option.isSome_none,Bool.false_eq_true,if_false]
  rw[←Array.getElem?_toList,h1]
 ·show (match w.heap[g]? with | some (.cells _ _ (lo,hi))=>decide (lo≤0+j) && decide (0+j<hi) | _=>false)=false
  rw[hg];simp
theorem zn {e base:Nat}{w:World}{g cap n k:Nat}{cur:Array Value}{os:Array Obj}{d:Array Int}(hbg:base≤g) (hg:w.heap[g]?=some (.cells cur e (0,0))) (hdc:d.size≤cap) (hcm:cap≤maxLen) (hcs:cur.size=cap*1) (hk:k≤d.size) :
  Step [g] w (grow (putRow iC (Sort.ahead w n) g 0 d) os)∧Qt e base (grow (putRow iC (Sort.ahead w n) g 0 d) os) (.slice (some ⟨g,0,none⟩) k cap) (d.toList.take k):=by
 have hlt:g<w.heap.size:=(Array.getElem?_eq_some_iff.1 hg).1
 have hhp:(grow (putRow iC (Sort.ahead w n) g 0 d) os).heap=w.heap.modify g (onCells (putCells iC 0 d))++os:=rfl
 have hlk:(d.toList.take k).length=k:=by simp;omega
 refine ⟨⟨rfl,rfl,rfl,?_,λi hi hn=>?_⟩,?_⟩
 ·rw[hhp,Array.size_append,Array.size_modify];omega
 ·rw[hhp,Array.getElem?_append,Array.size_modify,if_pos hi,Array.getElem?_modify,if_neg (λe=>hn (by simp[e]))]
 ·unfold Qt
  rw[hlk]
  refine ⟨by simp;omega,.inr ⟨g,cap,putCells iC 0 d cur,rfl,hbg,?_,by omega,hcm,by simp[putCells,hcs],?_⟩⟩
  ·rw[hhp,Array.getElem?_append,Array.size_modify,if_pos hlt,Array.getElem?_modify,if_pos rfl,hg];rfl
  ·apply List.ext_getElem?
   intro j
   rw[List.getElem?_take,List.getElem?_map,List.getElem?_take]
   by_cases hj:j<k
   ·rw[if_pos (by omega),if_pos hj]
    have hjc:j<cur.size:=by omega
    have hjd:j<d.size:=by omega
    rw[Array.getElem?_toList,Array.getElem?_toList,Array.getElem?_eq_getElem hjd]
    simp only[putCells,Array.getElem?_mapIdx,Array.getElem?_eq_getElem hjc,Option.map_some,Nat.zero_le,Nat.zero_add,true_and,if_pos hjd,Nat.sub_zero]
    rw[getElem!_pos d j hjd]
   ·rw[if_neg (by omega),if_neg hj];rfl
theorem qt {w:World}{base:Nat}{v:Value}{l:LI}(h:Qt 3 base w v l) (hl:l.length≤1099511627776) :
  QL prog 101 [v] w λ_ w'=>Step (ob v) w w'∧Qt 3 base w' v (l.mergeSort λx y=>decide (x≤y)):=by
 unfold QL
 rcases h.2 with ⟨rfl,h0⟩ | ⟨g,cap,cur,rfl,hbg,hg,hnc,hcm,hcs,htk⟩
 ·have hl0:l=[]:=List.eq_nil_of_length_eq_zero h0
  subst hl0
  have hc:=AnyM.slices_Sort_int_none Tryz.sortI none 0 w
  change Calls prog 101 _ _ _ at hc
  refine Calls.mono hc λe w' he=>?_
  obtain ⟨rfl,rfl⟩:=he
  exact ⟨Step.refl _ _,by rw[List.mergeSort_nil];exact h⟩
 ·have hlt:g<w.heap.size:=(Array.getElem?_eq_some_iff.1 hg).1
  have hc:=AnyM.slices_Sort_int Tryz.sortI g 0 cap l w (Vi hg htk) hlt (by omega)
  change Calls prog 101 _ _ _ at hc
  refine Calls.mono hc λe w' he=>?_
  obtain ⟨rfl,n,os,rfl⟩:=he
  have hp:=List.mergeSort_perm l (λx y=>decide (x≤y))
  have hlen:=hp.length_eq
  have:=zn (e:=3) (n:=n) (k:=l.length) (os:=os) (d:=(l.mergeSort λx y=>decide (x≤y)).toArray) hbg hg (by simp;omega) hcm hcs (by simp)
  refine ⟨this.1,?_⟩
  have h2:=this.2
  simp only[List.take_of_length_le (Nat.le_of_eq hlen)] at h2
  unfold Qt at h2 ⊢
  rw[hlen] at h2 ⊢
  exact h2
theorem Qdx {w:World}{base:Nat}{v:Value}{l:LI}(h:Qt 3 base w v l) (hl:l.length≤1099511627776) :
  QL prog 101 [v] w λ_ w'=>Step (ob v) w w'∧∃l',l'.length=l.length∧(∀x,x∈l'↔x∈l)∧Qt 3 base w' v l' :=
 (qt h hl).mono λ_ _ ⟨h1,h2⟩=>⟨h1,_,(List.mergeSort_perm l _).length_eq,λ_=>(List.mergeSort_perm l _).mem_iff,h2⟩
theorem QbF (l:LI):∀m,m≤l.length→∀x,x∈compactUpTo l.toArray m↔x∈l.take m
 | 0,_,x=>by simp[compactUpTo]
 | m+1,h,x=>by
  have ih:=QbF l m (by omega) x
  have hm:m<l.length:=by omega
  have hx:l.toArray[m]! = l[m]:=by simp[hm]
  rw[compactUpTo_succ,List.mem_append,ih,List.take_succ_eq_append_getElem hm,List.mem_append,hx,List.mem_singleton]
  by_cases hk:keeps l.toArray m=true
  ·rw[if_pos hk,List.mem_singleton]
  ·rw[if_neg hk]
   refine ⟨λh=>.inl (h.resolve_right (by simp)),λh=>.inl (h.elim id λe=>?_)⟩
   simp only[keeps,decide_eq_true_eq,not_or] at hk
   have h0:m≠0:=by simpa using hk.1
   have h1:l.toArray[m]! = l.toArray[m - 1]!:=by simpa using hk.2
   have h2:l.toArray[m - 1]! = l[m - 1]:=by simp[show m - 1<l.length by omega]
   rw[e,←hx,h1,h2]
   rw[List.mem_take_iff_getElem]
   exact ⟨m - 1,by omega,rfl⟩
theorem Qhs {w:World}{base:Nat}{v:Value}{l:LI}(h:Qt 3 base w v l) (hl:l.length≤1099511627776) :
  QL prog 129 [v] w λr w'=>Step (ob v) w w'∧∃l',l'.length≤l.length∧(∀x,x∈l'↔x∈l)∧Qt 3 base w' r l':=by
 rcases h.2 with ⟨rfl,h0⟩ | ⟨g,cap,cur,rfl,hbg,hg,hnc,hcm,hcs,htk⟩
 ·have hl0:l=[]:=List.eq_nil_of_length_eq_zero h0
  subst hl0
  refine QL.of_W func129 rfl ntmps129 results129 (by simp) ?_
  refine Qc<|Qe<|Qf<|Qc<|Qb<|x (Ui rfl)<|x (QB rfl rfl)<|xe ?_
  refine Q6 rfl (λ_=>?_) (λh8=>absurd (by decide) h8)
  refine Qc<|Qb<|Qe ?_
  exact Qm ⟨[nS],⟨rfl,trivial⟩,Step.refl _ _,[],Nat.le_refl _,λx=>Iff.rfl,h⟩
 ·unfold QL
  have hc:=AnyE.slices_Compact Tryz.cmpI iC (λ_=>rfl) (.intD _ _ .i64) (.intD _ _ .i64) 0 (λw=>by kernel_rfl) g 0 cap l.toArray w (Vi hg htk) (by simp;omega) (by simpa using hnc)
  change Calls prog 129 _ _ _ at hc
  rw[List.size_toArray] at hc
  refine Calls.mono hc λe w' he=>?_
  obtain ⟨rfl,q,rfl⟩:=he
  have hm:=QbF l l.length (Nat.le_refl _)
  rw[List.take_length] at hm
  have hle:(compactUpTo l.toArray l.length).length≤l.length:=by
   unfold compactUpTo
   rw[List.length_map]
   exact Nat.le_trans (List.length_filter_le _ _) (by simp)
  generalize compactUpTo l.toArray l.length=u at *
  have:=zn (e:=3) (n:=q) (k:=u.length) (os:=#[]) (d:=(u++List.replicate (l.length - u.length) 0).toArray) hbg hg (by simp;omega) hcm hcs (by simp)
  rw[grow_empty] at this
  refine ⟨this.1,u,hle,hm,?_⟩
  have h2:=this.2
  have h3:(u++List.replicate (l.length - u.length) 0).toArray.toList.take u.length=u:=by simp
  rw[h3] at h2
  exact h2
theorem jJ {w:World}{va vb:Value}{a b:LI}(ha:QM [] w.heap va a) (hb:QM [] w.heap vb b) (hl:a.length+b.length≤1000) :
  QL prog 53 [va,vb] w λr w'=>Step [] w w'∧∃l,l.length≤a.length+b.length∧(∀x,x∈l↔x∈a∨x∈b)∧Qt 3 w.heap.size w' r l:=by
 refine QL.of_W func53 rfl ntmps53 results53 (by simp) ?_
 refine Qc<|Qe<|Qc<|Qb<|xl rfl<|xf<|(ZR ha).mono ?_
 rintro v1 w1 ⟨hs1,ho1⟩
 have hz1:=hs1.size
 refine Qb<|xl rfl<|zw ho1 rfl (hb.ext hs1) rfl (KH b) (by omega) (by omega) λv2 w2 ho2 hs2 hn2=>Qe ?_
 have ho2':Qt 3 w.heap.size w2 v2 (a++b):=by
  unfold Qt
  rw[List.length_append,List.map_append]
  exact ho2
 have hs02:Step [] w w2:=hs1.then hs2 (λc hc=>.inr (Qk ho1 c hc).1)
 have hlen:(a++b).length=a.length+b.length:=List.length_append
 refine Qc<|Qb<|xl rfl<|xf<|(Qdx ho2' (by omega)).mono ?_
 rintro r3 w3 ⟨hs3,l3,hl3,hm3,ho3⟩
 have hs03:Step [] w w3:=hs02.then hs3 (λc hc=>.inr (Qk ho2' c hc).1)
 refine xe ?_
 refine Qc<|Qb<|xl rfl<|xf<|(Qhs ho3 (by omega)).mono ?_
 rintro r4 w4 ⟨hs4,l4,hl4,hm4,ho4⟩
 refine Qe ?_
 exact Qm ⟨[_],⟨rfl,trivial⟩,hs03.then hs4 (λc hc=>.inr (Qk ho3 c hc).1),l4,by omega,λx=>by rw[hm4,hm3,List.mem_append],ho4⟩
theorem UA {w:World}{v:Value}{al:LI}{ns:LN}(h:QM [] w.heap v al) (hb:∀e∈al,0≤e∧e<32) (hi:Yf al) (hn:ns.length=27) (hns:∀n∈ns,n<256) :
  QL prog 54 [v,.agg (bys ns).toArray,.int .i64 3] w λr w'=>Step [] w w'∧∃a:QT,Xo w.heap.size w'.heap r a∧GdA a∧a.al=al:=by
 refine QL.of_W func54 rfl ntmps54 results54 (by simp) ?_
 refine Qc<|xl rfl<|QR (us:=bys ns) rfl λb4 w1 hs1 hb4 hB4=>xl rfl<|Qu (us:=[nS,.int .i64 0,nS,nS]) rfl λb6 w2 hs2 hb6 hB6=>xe ?_
 obtain ⟨s0,hs0⟩:∃s0,ns.getD 0 0=s0:=⟨_,rfl⟩
 have hs0':ns[0]?=some s0:=by
  rw[←hs0,List.getD_eq_getElem?_getD,List.getElem?_eq_getElem (by omega)];rfl
 have hs0b:s0<256:=hns s0 (List.mem_of_getElem? hs0')
 have q0:(bys ns)[0]?=some (.int .u8 (s0:Int)):=by
  unfold bys;rw[List.getElem?_map,hs0'];rfl
 have hs02:=hs1.trans hs2
 have hz1:=hs1.size
 have hl4:=hB4.lt
 have hl6:=hB6.lt
 refine Qc<|x (Qa rfl)<|x (Qd (hB4.ext hs2) rfl q0)<|Qb<|x (ZI (k':=.u8) rfl ⟨by omega,by omega⟩)<|x (Ug (a:=(s0:Int)) (b:=3) rfl rfl (by omega) (by omega))<|x (Qa rfl)<|xl rfl<|QG (u:=.int .u8 ((s0 % 3:Nat):Int)) (hB4.ext hs2) rfl (congrArg (Value.int .u8) (by omega:(s0:Int) % 3=((s0 % 3:Nat):Int))) (by rw[YH];omega) rfl λw3 hs3 hB43 =>
  xe ?_
 have hs03:Step [] w w3:=hs02.then1 hs3 hb4
 rw[Qfw] at hB43
 have hl':(ns.set 0 (s0 % 3)).length=27:=by rw[List.length_set];exact hn
 have hg':(ns.set 0 (s0 % 3)).getD 0 0=s0 % 3:=Qdz (by omega)
 refine Qc<|Qb<|x (Qr hB43 rfl (by rw[YH];exact hl'))<|xl rfl<|xf<|(Qcq (h.ext hs03) hb hi hl' (Qgl hns (by omega))).mono ?_
 rintro r4 w4 ⟨hs4,a,hA,hok,_,hal,hc⟩
 obtain ⟨a0,k0,k1,k2,k3⟩:=hc (by rw[hg'];omega)
 rw[hg'] at k2
 obtain ⟨us,hv,husl,huso⟩:=Xn hA
 have hB64:Q0 w4.heap b6 58 [nS,.int .i64 0,nS,nS]:=(hB6.step hs3 (by simp only[List.mem_singleton];omega)).ext hs4
 have hz3:=hs03.size
 have hz2:=hs02.size
 have hz33:=hs3.size
 refine xl rfl<|Qo (us:=us) hB64 rfl (show Go.Lg.ev _ _=_ from hv) husl rfl huso λw5 hs5 hB65=>xe ?_
 refine Qm ⟨[.agg us.toArray],⟨⟨_,rfl,QA husl (hB65.at (L:=[]) (by simp)).cells⟩,trivial⟩,(hs03.trans hs4).then1 hs5 (by omega),a,?_,GdA.of k0 k1 k2 k3 (Nat.mod_lt _ (by decide)),hal⟩
 show Xo _ _ (.agg us.toArray) _
 rw[←hv]
 exact (X6 hA (by omega) hs5).mono hz3
end Go.Proofs.YtdffckgdcegpaaaGreatDoor
namespace Go.Lg
section
variable {P:Program} {f:Fr} {w:World} {d:Option Nat} {ty:Nat} {ps:String} {af:Array Edge} {gd:Option (Nat×Bool)}
theorem Vg {t t':Nat}{k:IntKind}[h:Ik P t k] [h':St P t'] {x:Operand}{n:Nat}{k0:IntKind}(hx:ev f x=.int k0 n) (hn:n<128) :
  (execOp (ev f) ⟨d,.convert t t' x,ty,ps,af,gd⟩).run P w=.ok (.value (.string ⟨#[UInt8.ofNat n]⟩)) w:=by
 refine VY hx ?_
 rw[run_convert_int_string w t t' k0 n (by rw[h.u];rfl) h'.u]
 have hv:Utf8.valid (n:Int)=true:=by
  unfold Utf8.valid
  simp
  omega
 unfold Utf8.encode
 simp only[hv,if_true,Int.toNat_natCast,hn]
theorem QdI {t t':Nat}{x y:Operand}{k:IntKind}{a b:Int}(hx:ev f x=.int k a) (hy:ev f y=.int k b) (hb:b≠0) :
  (execOp (ev f) ⟨d,.binOp .rem t x y t',ty,ps,af,gd⟩).run P w=.ok (.value (.int k (a.tmod b))) w:=by
 refine YQ hx hy ?_
 simp[binOp,Op.intDiv,hb]
end
end Go.Lg
namespace Go.Proofs.YtdffckgdcegpaaaGreatDoor
open Go.Proofs.Tryz
open Go.Lg Go.Sort
theorem QiB {L:LN}{b T:Nat}{va:Value}{al:LI}(e:Int) (w:World) (hB:Q0 w.heap b T [va]) (hA:QM L w.heap va al) :
  QL prog 56 ([.int .i64 e]++[.pointer (some ⟨b,0,none⟩)]) w λr w'=>r=.bool (decide (e∉al))∧w'=w:=by
 refine QL.of_W func56 rfl ntmps56 results56 (by simp) ?_
 refine Qc<|Qe<|Qc<|x (Qd hB rfl rfl)<|Qb<|xl rfl<|xf<|(ZG hA e).mono ?_
 rintro r1 w1 ⟨rfl,rfl⟩
 refine x (Zp rfl)<|Qe<|Qm ⟨[_],⟨rfl,trivial⟩,?_,rfl⟩
 show Value.bool (!decide (e∈al))=_
 rw[decide_not]
theorem qF {L:LN}{b T:Nat}{va:Value}{al:LI}(e:Int) (w:World) (hB:Q0 w.heap b T [va]) (hA:QM L w.heap va al) :
  FnGives prog 56 #[.pointer (some ⟨b,0,none⟩)] #[iC e] (.bool (decide (e∉al))) w:=by
 have h:=QiB e w hB hA
 unfold QL at h
 unfold FnGives
 refine Calls.mono h λe' w' he=>?_
 cases e' with
 | returned v =>
  obtain ⟨rfl,rfl⟩:=he
  exact ⟨rfl,0,rfl⟩
 | _=>exact he.elim
theorem Qiq {w:World}{g n:Nat}{os:Array Obj}{d:Array Int}:Step [g] w (grow (putRow iC (Sort.ahead w n) g 0 d) os):=by
 have hhp:(grow (putRow iC (Sort.ahead w n) g 0 d) os).heap=w.heap.modify g (onCells (putCells iC 0 d))++os:=rfl
 refine ⟨rfl,rfl,rfl,?_,λi hi hn=>?_⟩
 ·rw[hhp,Array.size_append,Array.size_modify];omega
 ·rw[hhp,Array.getElem?_append,Array.size_modify,if_pos hi,Array.getElem?_modify,if_neg (λe=>hn (by simp[e]))]
theorem Qhk {w:World}{base b T:Nat}{v va:Value}{l al:LI}(h:Qt 3 base w v l) (hl:l.length≤1099511627776) (hB:Q0 w.heap b T [va]) (hb:b∉ob v) (hA:QM (ob v) w.heap va al) :
  QL prog 55 [v,.func (.func 56) #[] #[.pointer (some ⟨b,0,none⟩)]] w λr w'=>Step (ob v) w w'∧Qt 3 base w' r (l.filter λx=>decide (x∈al)):=by
 have eg:∀args w,(callFunc 56 args).run prog w=.ok (.enter 56 args) w:=enters_of func56 (by kernel_rfl) rfl
 rcases h.2 with ⟨rfl,h0⟩ | ⟨g,cap,cur,rfl,hbg,hg,hnc,hcm,hcs,htk⟩
 ·have hl0:l=[]:=List.eq_nil_of_length_eq_zero h0
  subst hl0
  refine QL.of_W func55 rfl ntmps55 results55 (by simp) ?_
  refine Qc<|Qe<|Qc<|Qb<|Qb<|xl rfl<|xf<|(QeC (cap:=[.pointer (some ⟨b,0,none⟩)]) (q:=λ_=>true) (QM.fl (X9 [] w.heap)) (λe he=>by cases he)).mono ?_
  rintro r1 w1 ⟨rfl,hs1⟩
  refine Qe<|Qf<|Qc<|Qb<|x (Q5 rfl rfl)<|xe ?_
  refine Q6 rfl (λ_=>?_) (λh8=>absurd rfl h8)
  refine Qc<|Qb<|Qe ?_
  exact Qm ⟨[nS],⟨rfl,trivial⟩,hs1,Qq h hs1⟩
 ·unfold QL
  have hst:=λ(n:Nat) (os:Array Obj) (d:Array Int)=>Qiq (w:=w) (g:=g) (n:=n) (os:=os) (d:=d)
  have hbg':b∉[g]:=hb
  have hA':QM [g] w.heap va al:=hA
  have hc:=AnyE.slices_DeleteFunc Tryz.delI iC (λ_=>rfl) (λx=>decide (x∉al)) 56 #[.pointer (some ⟨b,0,none⟩)] eg 0 (λw=>by kernel_rfl) g 0 cap l.toArray w
   (λW x hW=>by
    have hs:Step [] w W:=⟨hW.os,hW.tape,hW.output,hW.size,λk hk _=>hW.block k hk⟩
    exact qF x W (hB.ext hs) (hA.ext hs))
   (λn os dk x _=>qF x _ (hB.step (hst n os dk) hbg') (hA'.st (hst n os dk)))
   (Vi hg htk) (by simp;omega) (by simpa using hnc)
  change Calls prog 55 _ _ _ at hc
  rw[List.size_toArray] at hc
  refine Calls.mono hc λe w' he=>?_
  obtain ⟨rfl,q,rfl⟩:=he
  have hf:(l.toArray.toList.filter λx=>!decide (x∉al))=l.filter λx=>decide (x∈al):=by
   refine List.filter_congr λx _=>?_
   by_cases hx:x∈al <;> simp[hx]
  rw[hf]
  have hle:=List.length_filter_le (λx=>decide (x∈al)) l
  generalize (l.filter λx=>decide (x∈al))=u at *
  have:=zn (e:=3) (n:=q) (k:=u.length) (os:=#[]) (d:=(u++List.replicate (l.length - u.length) 0).toArray) hbg hg (by simp;omega) hcm hcs (by simp)
  rw[grow_empty] at this
  refine ⟨this.1,?_⟩
  have h2:=this.2
  have h3:(u++List.replicate (l.length - u.length) 0).toArray.toList.take u.length=u:=by simp
  rw[h3] at h2
  exact h2
end Go.Proofs.YtdffckgdcegpaaaGreatDoor
namespace Go.Lg
section
variable {P:Program} {f:Fr} {w:World} {K:Fr→World→Prop} {d:Option Nat} {ty:Nat} {ps:String} {af:Array Edge} {gd:Option (Nat×Bool)}
theorem QgD {t e sz bys:Nat}{z:Value}[h:Sl P t e sz bys z] (hz1:∀u∈z.cells,u.oneCell'=true) {s:Operand}{b o m c T:Nat}{cs:LV}(hB:Q0 w.heap b T cs) (hs:∃o',ev f s=.slice (some ⟨b,o',none⟩) m c∧(0<m→o'=o∧o+m*sz≤cs.length))
  (hK:∀w' cs',Step [b] w w'→Q0 w'.heap b T cs'→cs'.length=cs.length→cs'.take o=cs.take o→K (QX f d (.tuple #[])) w'):XO P ⟨d,.call ⟨.builtin .clear,#[s],#[t]⟩,ty,ps,af,gd⟩ f w K:=by
 obtain ⟨o',hs,hm⟩:=hs
 obtain ⟨i,hi,hz,hsz,_⟩:=Sl.info h
 have hzs:=h.zs
 rcases Nat.eq_zero_or_pos m with rfl | hmp
 ·have hr:(execOp (ev f) ⟨d,.call ⟨.builtin .clear,#[s],#[t]⟩,ty,ps,af,gd⟩).run P w=.ok (.value (.tuple #[])) w:=by
   simp[execOp,resolve,invoke,builtin,hs,Builtin.clear_,run_underlying h.u]
  exact xv hr (hK w cs (Step.refl _ _) hB rfl rfl)
 ·obtain ⟨rfl,hle⟩:=hm hmp
  have hlen:(Builtin.zeroCells z.cells m).toList.length=m*sz:=by simp[Builtin.zeroCells,hzs]
  have hst:=run_storeCells_at P b o' T (Builtin.zeroCells z.cells m).toList 0 cs.toArray w hB (by simp only[List.size_toArray];omega) (λu hu=>by
   simp only[Builtin.zeroCells,Array.toList_map,List.mem_map] at hu
   obtain ⟨j,hj,rfl⟩:=hu
   have hpos:=h.pos
   have hjl:j % z.cells.size<z.cells.size:=Nat.mod_lt _ (by omega)
   rw[getElem!_pos z.cells _ hjl]
   exact hz1 _ (Array.getElem_mem hjl))
  simp only[Nat.add_zero] at hst
  obtain ⟨m',rfl⟩:∃m',m=m'+1:=⟨m - 1,by omega⟩
  have hr:(execOp (ev f) ⟨d,.call ⟨.builtin .clear,#[s],#[t]⟩,ty,ps,af,gd⟩).run P w=.ok (.value (.tuple #[])) (w.setRow b ((cs.take o'++(Builtin.zeroCells z.cells (m'+1)).toList++cs.drop (o'+(Builtin.zeroCells z.cells (m'+1)).toList.length))).toArray):=by
   simp[execOp,resolve,invoke,builtin,hs,Builtin.clear_,run_underlying h.u,zeroValue,typeInfo,hi,hz] at hst ⊢
   simp[hst]
  refine xv hr (hK _ _ (Step.setRow _ _ _) (X7 hB) ?_ ?_)
  ·simp only[List.length_append,List.length_take,List.length_drop,hlen];omega
  ·rw[List.append_assoc,List.take_append_of_le_length (by simp;omega),List.take_take,Nat.min_self]
theorem JG {α:Type}{sz:Nat}{g:α→LV}(hg:∀x,(g x).length=sz):∀(l:List α) (i:Nat) (u:α),i<l.length→(l.set i u).flatMap g=(l.flatMap g).take (i*sz)++g u++(l.flatMap g).drop (i*sz+sz)
 | [],i,u,h=>absurd h (by simp)
 | a::l,0,u,h=>by
  rw[List.set_cons_zero,List.flatMap_cons,List.flatMap_cons,Nat.zero_mul,List.take_zero,List.nil_append,Nat.zero_add,List.drop_append_of_le_length (by rw[hg a];exact Nat.le_refl _),List.drop_of_length_le (by rw[hg a];exact Nat.le_refl _),List.nil_append]
 | a::l,i+1,u,h=>by
  have h1:(i+1)*sz=(g a).length+i*sz:=by rw[hg a,Nat.succ_mul];omega
  have h2:(i+1)*sz+sz=(g a).length+(i*sz+sz):=by omega
  have t1:∀(F:LV) k,(g a++F).take ((g a).length+k)=g a++F.take k:=λF k=>by rw[List.take_append,List.take_of_length_le (l:=g a) (by omega),Nat.add_sub_cancel_left]
  have t2:∀(F:LV) k,(g a++F).drop ((g a).length+k)=F.drop k:=λF k=>by rw[List.drop_append,List.drop_of_length_le (l:=g a) (by omega),List.nil_append,Nat.add_sub_cancel_left]
  rw[List.set_cons_succ,List.flatMap_cons,List.flatMap_cons,h2,h1,t1,t2,JG hg l i u (by simpa using h)]
  simp only[List.append_assoc]
theorem Qcl {α:Type}{t sz:Nat}[h1:Ag P t sz] {g:α→LV}(hg:∀x,(g x).length=sz) {x y:Operand}{base e b cap i:Nat}{l:List α}{u:α}(h:w.ownsRow base e sz (.slice (some ⟨b,0,none⟩) l.length cap) l.length (l.flatMap g)) (hx:ev f x=.pointer (some ⟨b,i*sz,none⟩)) (hy:ev f y=.agg (g u).toArray) (hi:i<l.length) (hu:ZL (g u))
  (hK:∀w',Step [b] w w'→w'.ownsRow base e sz (.slice (some ⟨b,0,none⟩) l.length cap) l.length ((l.set i u).flatMap g)→K (QX f d undef) w'):XO P ⟨d,.store t x y,ty,ps,af,gd⟩ f w K:=by
 rcases h.2 with ⟨e1,_⟩ | ⟨g',cap',cur,e1,hbg,hg',hnc,hcm,hcs,htk⟩
 ·cases e1
 cases e1
 have hB:Q0 w.heap b e cur.toList:=hg'
 have hlc:l.length*sz≤cap*sz:=Nat.mul_le_mul_right _ hnc
 have hil:(i+1)*sz≤l.length*sz:=Nat.mul_le_mul_right _ hi
 rw[Nat.succ_mul] at hil
 have hcl:cur.toList.length=cap*sz:=by rw[Array.length_toList];exact hcs
 have hfl:=h.1
 refine XW hB hx hy (hg u) (by omega) hu rfl λw' hs hB'=>hK w' hs ⟨?_,.inr ⟨b,cap,_,rfl,hbg,hB',hnc,hcm,?_,?_⟩⟩
 ·rw[JG hg l i u hi]
  simp only[List.length_append,List.length_take,List.length_drop,hg u,hfl];omega
 ·simp only[List.size_toArray,List.length_append,List.length_take,List.length_drop,hg u,hcl];omega
 ·have hX:(cur.toList.take (i*sz)++g u).length=i*sz+sz:=by simp only[List.length_append,List.length_take,hg u,hcl];omega
  rw[JG hg l i u hi,←htk]
  show (cur.toList.take (i*sz)++g u++cur.toList.drop (i*sz+sz)).take (l.length*sz)=_
  rw[List.take_append,List.take_of_length_le (by omega),hX,List.take_take,Nat.min_eq_left (by omega),List.drop_take]
end
end Go.Lg
namespace Go.Proofs.YtdffckgdcegpaaaGreatDoor
open Go.Proofs.Tryz
open Go.Lg
theorem Qee (p:Int×Int) (w:World):QL prog 59 [.agg (QP p).toArray] w λr w'=>r=.bool (decide (p.2=0))∧Step [] w w':=by
 refine QL.of_W func59 rfl ntmps59 results59 (by simp) ?_
 refine Qc<|xl rfl<|QR (us:=QP p) rfl λb1 w1 hs1 hb1 hB1=>Qe<|Qc<|x (Qa rfl)<|x (Qd hB1 rfl rfl)<|x (Q5 rfl rfl)<|Qe ?_
 exact Qm ⟨[_],⟨rfl,trivial⟩,rfl,hs1⟩
theorem Qg3 {gp:Nat}{fn:Func}[Fu prog gp fn] {cap:LV}{q:(Int×Int)→Bool}{L:LN}{w:World}{v:Value}{l:List (Int×Int)}(h:Zo L w.heap v l.length 2 (l.flatMap QP))
  (hk:∀e∈l,∀(w1:World),Step [] w w1→QL prog gp ([.agg (QP e).toArray]++cap) w1 λr w'=>r=.bool (q e)∧Step [] w1 w') :
  QL prog 133 [v,.func (.func gp) #[] cap.toArray] w λr w'=>r=.int .i64 (fix q 0 l)∧Step [] w w':=by
 have hle:=h.le
 refine QL.of_W func133 rfl ntmps133 results133 (by simp) ?_
 refine Qc<|Qe<|Qf<|Qc<|Qb<|x (Qs h rfl)<|Qb<|xe ?_
 refine Qg<|QC (α:=Nat) [(4,5),(8,18)] (λz=>[(8,.int .i64 z)]) (λz w'=>z≤l.length∧Step [] w w'∧fix q z (l.drop z)=fix q 0 l) (λz=>l.length - z) (by rfl) 0 ⟨rfl,trivial⟩
  ⟨Nat.zero_le _,Step.refl _ _,rfl⟩ ?_
 rintro k g w1 ⟨hk1,hs1,hfx⟩
 refine Qc<|x (QB rfl rfl)<|xe ?_
 refine Qf<|QH rfl (λh9=>?_) (λh9=>?_)
 ·refine Qz ?_
  have hke:l.length≤k:=by have h10:¬(k:Int)<(l.length:Int):=h9;omega
  rw[List.drop_of_length_le hke] at hfx
  refine Qc<|Qe ?_
  exact Qm ⟨[_],⟨rfl,trivial⟩,by rw[←hfx];rfl,hs1⟩
 have hlt:k<l.length:=by have h10:(k:Int)<(l.length:Int):=h9;omega
 rw[QW hlt,ZK] at hfx
 have hmem:=List.getElem_mem hlt
 refine Qi<|Qf<|Qg<|Qc<|Qb<|Qe<|Qc<|Qb<|Qb<|Qb<|xig Yo (h.ext hs1) rfl rfl hlt λa14 h14=>?_
 refine Q8 (l[k]'hlt) λe he=>?_
 rw[he] at h14 hfx hmem
 refine x (QJ h14 rfl rfl)<|xl rfl<|xc (first:=[]) (capt:=cap) rfl<|(hk e hmem w1 hs1).mono ?_
 rintro r2 w2 ⟨rfl,hs2⟩
 refine xe ?_
 refine Q2 rfl (λh16=>?_) (λh16=>?_)
 ·rw[if_pos h16] at hfx
  refine Qc<|Qb<|Qe ?_
  exact Qm ⟨[_],⟨rfl,trivial⟩,by rw[←hfx];rfl,hs1.trans hs2⟩
 rw[if_neg (by rw[h16];decide)] at hfx
 refine Qi<|Qw<|x (Qx rfl rfl ⟨by omega,by omega⟩)<|Qb<|xe ?_
 exact ⟨k+1,by omega,⟨rfl,trivial⟩,hlt,hs1.trans hs2,hfx⟩
end Go.Proofs.YtdffckgdcegpaaaGreatDoor
namespace Go.Lg
section
variable {P:Program} {f:Fr} {w:World} {K:Fr→World→Prop} {d:Option Nat} {ty:Nat} {ps:String} {af:Array Edge} {gd:Option (Nat×Bool)}
theorem Qcf {t e sz bys:Nat}{z:Value}[h:Sl P t e sz bys z] {x y1:Operand}{b n cap:Nat}{k:IntKind}{lo:Nat}(hx:ev f x=.slice (some ⟨b,0,none⟩) n cap) (hl:ev f y1=.int k lo) (h1:lo≤n) :
  (execOp (ev f) ⟨d,.slice t x (some y1) none none,ty,ps,af,gd⟩).run P w=.ok (.value (.slice (some ⟨b,if cap=lo then 0 else lo*sz,none⟩) (n - lo) (cap - lo))) w:=by
 obtain ⟨i,hi',_,hsz,_⟩:=Sl.info h
 have e2:(Instr.sliceBound (.int k lo) n .sliceB).run P w=.ok lo w:=ZV h1
 by_cases hcl:cap=lo
 ·simp[execOp,hx,hl,Instr.sliceAt,Instr.slice,run_underlying h.u,Instr.sliceBounds,e2,sizeOf,typeInfo,hi',hsz,hcl]
 ·simp[execOp,hx,hl,Instr.sliceAt,Instr.slice,run_underlying h.u,Instr.sliceBounds,e2,sizeOf,typeInfo,hi',hsz,hcl,Addr.add]
  exact λe=>e.symm
theorem Qcg {t e sz bys:Nat}{z:Value}[h:Sl P t e sz bys z] {x y2:Operand}{b n cap:Nat}{k:IntKind}{hi:Nat}(hx:ev f x=.slice (some ⟨b,0,none⟩) n cap) (hh:ev f y2=.int k hi) (h1:hi≤cap) :
  (execOp (ev f) ⟨d,.slice t x none (some y2) none,ty,ps,af,gd⟩).run P w=.ok (.value (.slice (some ⟨b,0,none⟩) hi cap)) w:=by
 obtain ⟨i,hi',_,hsz,_⟩:=Sl.info h
 have e2:(Instr.sliceBound (.int k hi) cap .sliceAcap).run P w=.ok hi w:=ZV h1
 simp[execOp,hx,hh,Instr.sliceAt,Instr.slice,run_underlying h.u,Instr.sliceBounds,e2,sizeOf,typeInfo,hi',Addr.add]
end
end Go.Lg
namespace Go.Proofs.YtdffckgdcegpaaaGreatDoor
open Go.Proofs.Tryz
open Go.Lg
theorem qL {α:Type}(q:α→Bool):∀(l:List α) (i:Nat),(fix q i l=-1∧∀x∈l,q x=false)∨∃k,k<l.length∧fix q i l=((i+k:Nat):Int)∧l.take k=(l.take (k+1)).filter λx=>!q x
 | [],i=>.inl ⟨rfl,λx h=>by cases h⟩
 | a::l,i=>by
  rw[ZK]
  by_cases h:q a=true
  ·rw[if_pos h]
   exact .inr ⟨0,by simp,by simp,by simp[h]⟩
  ·rw[if_neg h]
   have h':q a=false:=by simpa using h
   rcases qL q l (i+1) with ⟨h1,h2⟩ | ⟨k,h1,h2,h3⟩
   ·exact .inl ⟨h1,λx hx=>by rcases List.mem_cons.1 hx with rfl | hx;exact h';exact h2 x hx⟩
   ·exact .inr ⟨k+1,by simpa using h1,by rw[h2];congr 1;omega,by rw[List.take_succ_cons,List.take_succ_cons,List.filter_cons,if_pos (by simp[h']),←h3]⟩
theorem Qa5 {w:World}{base e sz n b cap:Nat}{cs:LV}(h:w.ownsRow base e sz (.slice (some ⟨b,0,none⟩) n cap) n cs):n≤cap∧∃cur:LV,Q0 w.heap b e cur∧cur.length=cap*sz∧cur.take (n*sz)=cs:=by
 rcases h.2 with ⟨e1,_⟩ | ⟨g',cap',cur,e1,hbg,hg',hnc,hcm,hcs,htk⟩
 ·cases e1
 cases e1
 exact ⟨hnc,cur.toList,hg',by rw[Array.length_toList];exact hcs,htk⟩
theorem Qgy {w w':World}{base e sz n b cap k:Nat}{cs cs' cur:LV}(h:w.ownsRow base e sz (.slice (some ⟨b,0,none⟩) n cap) n cs) (hk:k≤n) (hB:Q0 w'.heap b e cur) (hl:cur.length=cap*sz) (ht:cur.take (k*sz)=cs') (hc:cs'.length=k*sz) :
  w'.ownsRow base e sz (.slice (some ⟨b,0,none⟩) k cap) k cs':=by
 rcases h.2 with ⟨e1,_⟩ | ⟨g',cap',cur',e1,hbg,hg',hnc,hcm,hcs,htk⟩
 ·cases e1
 cases e1
 exact ⟨hc,.inr ⟨b,cap,cur.toArray,rfl,hbg,hB,by omega,hcm,by rw[List.size_toArray];exact hl,ht⟩⟩
theorem JH {α:Type}{sz:Nat}{g:α→LV}(hg:∀x,(g x).length=sz):∀l:List α,(l.flatMap g).length=l.length*sz
 | []=>by simp
 | a::l=>by rw[List.flatMap_cons,List.length_append,JH hg l,hg a,List.length_cons,Nat.succ_mul];omega
theorem Qa3:∀(l:List (Int×Int)) (k:Nat),(l.flatMap QP).take (k*2)=(l.take k).flatMap QP
 | [],k=>by simp
 | a::l,0=>by simp
 | a::l,k+1=>by
  rw[show (k+1)*2=k*2+2 by omega,List.flatMap_cons,List.take_succ_cons,List.flatMap_cons,←Qa3 l k]
  rfl
abbrev nzT (l:List (Int×Int)):List (Int×Int):=l.filter λp=>!decide (p.2=0)
set_option maxHeartbeats 1000000 in
theorem Qhj {w:World}{base:Nat}{v:Value}{l:List (Int×Int)}(h:w.ownsRow base 129 2 v l.length (l.flatMap QP)) (hl:l.length≤1000) :
  QL prog 58 [v,.func (.func 59) #[] #[]] w λr w'=>Step (ob v) w w'∧w'.ownsRow base 129 2 r (nzT l).length ((nzT l).flatMap QP):=by
 have hix:=Qg3 (cap:=[]) (q:=λp=>decide (p.2=0)) (QS (L:=[]) h (by omega) (by simp)) (λe _ w1 _=>Qee e w1)
 have hfs:=qL (λp:Int×Int=>decide (p.2=0)) l 0
 rcases h.2 with ⟨rfl,h0⟩ | ⟨g,cap,cur,rfl,hbg,_⟩
 ·have hl0:l=[]:=List.eq_nil_of_length_eq_zero h0
  subst hl0
  refine QL.of_W func58 rfl ntmps58 results58 (by simp) ?_
  refine Qc<|Qe<|Qc<|Qb<|Qb<|xl rfl<|xf<|hix.mono ?_
  rintro r1 w1 ⟨rfl,hs1⟩
  refine Qe<|Qf<|Qc<|Qb<|x (Q5 rfl rfl)<|xe ?_
  refine Q6 rfl (λ_=>?_) (λh8=>absurd rfl h8)
  refine Qc<|Qb<|Qe ?_
  exact Qm ⟨[nS],⟨rfl,trivial⟩,hs1,Qq h hs1⟩
 obtain ⟨hnc,_⟩:=Qa5 h
 refine QL.of_W func58 rfl ntmps58 results58 (by simp) ?_
 refine Qc<|Qe<|Qc<|Qb<|Qb<|xl rfl<|xf<|hix.mono ?_
 rintro r1 w1 ⟨rfl,hs1⟩
 refine Qe<|Qf<|Qc<|Qb<|x (Q5 rfl rfl)<|xe ?_
 refine Q6 rfl (λh12=>?_) (λh12=>?_)
 ·have hall:nzT l=l:=List.filter_eq_self.2 λp hp=>by
   rcases hfs with ⟨_,h2⟩ | ⟨k,_,h2,_⟩
   ·have:=h2 p hp;simpa using this
   ·have h13:fix (λp:Int×Int=>decide (p.2=0)) 0 l=-1:=h12
    omega
  refine Qc<|Qb<|Qe<|Qm ⟨[.slice (some ⟨g,0,none⟩) l.length cap],⟨rfl,trivial⟩,hs1.any,?_⟩
  rw[hall]
  exact Qq h hs1
 refine Exists.elim (hfs.resolve_left λa=>h12 a.1) λi0 hi0=>?_
 have hi1:=hi0.1
 have hi2:fix (λp:Int×Int=>decide (p.2=0)) 0 l=(i0:Int):=by have:=hi0.2.1;omega
 have hi3:=hi0.2.2
 refine Qi<|Qf<|Qc<|Qb<|x (Qx (a:=(i0:Int)) (b:=1) (congrArg (Value.int .i64) hi2) rfl ⟨by omega,by omega⟩)<|Qe<|Qg<|QC (α:=Nat×Nat×List (Int×Int)) [(5,7),(16,35)] (λz=>[(5,.int .i64 z.1),(6,.int .i64 z.2.1)])
  (λz w'=>z.1<z.2.1∧z.2.1≤l.length∧z.2.2.length=l.length∧z.2.2.take z.1=nzT (l.take z.2.1)∧z.2.2.drop z.2.1=l.drop z.2.1∧Step [g] w w'∧w'.ownsRow base 129 2 (.slice (some ⟨g,0,none⟩) z.2.2.length cap) z.2.2.length (z.2.2.flatMap QP))
  (λz=>l.length - z.2.1) (by rfl) (i0,i0+1,l) ⟨congrArg (Value.int .i64) hi2,rfl,trivial⟩
  ⟨Nat.lt_succ_self _,hi1,rfl,hi3,rfl,hs1.any,Qq h hs1⟩ ?_
 rintro ⟨i,j,ts⟩ g2 w2 ⟨hij,hj,htl,ht1,ht2,hs2,ho2⟩
 simp only[] at hij hj htl ht1 ht2 ho2
 refine Qf<|Qc<|Qb<|Qb<|x (Ui rfl)<|x (QB rfl rfl)<|xe ?_
 refine QH rfl (λh19=>?_) (λh19=>?_)
 ·refine Qz ?_
  have hje:j=l.length:=by have h20:¬(j:Int)<(l.length:Int):=h19;omega
  rw[hje,List.take_length] at ht1
  have hil:(nzT l).length=i:=by rw[←ht1,List.length_take];omega
  refine Exists.elim (Qa5 ho2).2 λcur2 hc2=>?_
  have hB2:=hc2.1
  have hl2:=hc2.2.1
  have hk2:=hc2.2.2
  refine Qc<|Qb<|Qb<|x (Qcf (lo:=i) rfl rfl (by omega))<|xl rfl<|QgD (m:=l.length - i) (o:=i*2) (λu hu=>by simp[Value.cells] at hu;rw[hu];rfl) hB2 ⟨_,rfl,λh=>⟨by rw[if_neg (by omega)],by omega⟩⟩ λw3 cs3 hs3 hB3 hl3 ht3=>xe ?_
  refine Qc<|Qb<|Qb<|x (Qcg (hi:=i) rfl rfl (by omega))<|Qe<|Qm ⟨[.slice (some ⟨g,0,none⟩) i cap],⟨rfl,trivial⟩,hs2.trans' hs3,?_⟩
  rw[hil]
  refine Qgy ho2 (by omega) hB3 (by omega) ?_ ?_
  ·rw[ht3,←ht1,←Qa3,←hk2,List.take_take,Nat.min_eq_left (by omega)]
  ·rw[JH Yo,hil]
 have hlt:j<l.length:=by have h20:(j:Int)<(l.length:Int):=h19;omega
 have hltT:j<ts.length:=by omega
 have hel:ts[j]'hltT=l[j]'hlt:=by
  have h1:=congrArg (λz=>z[0]?) ht2
  simp only[List.getElem?_drop,Nat.add_zero,List.getElem?_eq_getElem hltT,List.getElem?_eq_getElem hlt] at h1
  exact Option.some.inj h1
 have hdr:ts.drop (j+1)=l.drop (j+1):=by
  have h1:=congrArg (List.drop 1) ht2
  rwa [List.drop_drop,List.drop_drop] at h1
 have hnz:nzT (l.take (j+1))=nzT (l.take j)++(if (l[j]'hlt).2=0 then [] else [l[j]'hlt]):=by
  unfold nzT
  rw[List.take_succ_eq_append_getElem hlt,List.filter_append]
  by_cases h0:(l[j]'hlt).2=0 <;> simp[h0]
 have hA:=QS (L:=[]) ho2 (by omega) (by simp)
 rw[show Value.slice (some ⟨g,0,none⟩) ts.length cap=.slice (some ⟨g,0,none⟩) l.length cap from by rw[htl]] at hA
 refine Qi<|Qf<|Qg<|Qc<|Qb<|Qb<|xig Yo hA rfl rfl hltT λa24 h24=>?_
 rw[hel] at h24
 refine Q8 (l[j]'hlt) λe he=>?_
 rw[he] at h24 hnz
 refine x (QJ h24 rfl rfl)<|xl rfl<|Qu (us:=[.int .i64 0,.int .i64 0]) rfl λb7 w3 hs3 hb7 hB7=>xl rfl<|Qo (us:=QP e) hB7 rfl rfl rfl rfl ⟨rfl,rfl,trivial⟩ λw4 hs4 hB74=>xe ?_
 have hs24:Step [] w2 w4:=hs3.then1 hs4 hb7
 refine Qc<|Qb<|x (Qr hB74 rfl rfl)<|xl rfl<|xc (first:=[]) (capt:=[]) rfl<|(Qee e w4).mono ?_
 rintro r5 w5 ⟨rfl,hs5⟩
 refine x (Zp rfl)<|xe ?_
 have hs25:=hs24.trans hs5
 have ho5:=Qq ho2 hs25
 have hs05:Step [g] w w5:=hs2.trans hs25.any
 refine Q2 rfl (λh29=>?_) (λh29=>?_)
 ·have hne:¬e.2=0:=by simpa using h29
  rw[if_neg hne] at hnz
  have ho5':w5.ownsRow base 129 2 (.slice (some ⟨g,0,none⟩) ts.length cap) ts.length (ts.flatMap QP):=ho5
  refine Qc<|Qb<|Qb<|x (Qr (hB74.ext hs5) rfl rfl)<|x (Zf (i:=i) rfl rfl (by omega))<|xl rfl<|Qcl (u:=e) Yo ho5' (congrArg (λn=>Value.pointer (some ⟨g,n,none⟩)) (Nat.zero_add (i*2))) rfl (by omega) ⟨rfl,rfl,trivial⟩ λw6 hs6 ho6 =>
   xe ?_
  refine Qw<|Qb<|x (Qx rfl rfl ⟨by omega,by omega⟩)<|Qe<|Qw<|Qb<|x (Qx rfl rfl ⟨by omega,by omega⟩)<|Qe ?_
  have hsl:(ts.set i e).length=ts.length:=List.length_set
  refine ⟨(i+1,j+1,ts.set i e),by simp only[];omega,⟨rfl,rfl,trivial⟩,by simp only[];omega,hlt,by simp only[];omega,?_,?_,hs05.trans' hs6,?_⟩
  ·simp only[]
   rw[hnz,←ht1,List.set_eq_take_append_cons_drop,if_pos (by omega),List.take_append,List.take_of_length_le (by rw[List.length_take];omega),List.length_take,Nat.min_eq_left (by omega),Nat.add_sub_cancel_left,List.take_succ_cons,List.take_zero]
  ·simp only[]
   rw[List.drop_set_of_lt (by omega),hdr]
  ·simp only[]
   rw[hsl]
   exact ho6
 have hne:e.2=0:=by simpa using h29
 rw[if_pos hne,List.append_nil] at hnz
 refine Qi<|Qw<|Qb<|x (Qx rfl rfl ⟨by omega,by omega⟩)<|Qe ?_
 exact ⟨(i,j+1,ts),by simp only[];omega,⟨rfl,rfl,trivial⟩,by simp only[];omega,hlt,htl,by rw[hnz];exact ht1,hdr,hs05,ho5⟩
instance ayAz1:Ay prog 25 3 24 1:=⟨by kernel_rfl,by kernel_rfl⟩
instance ayAz2:Ay prog 30 2 24 1:=⟨by kernel_rfl,by kernel_rfl⟩
instance ayAz3:Ay prog 31 2 28 27:=⟨by kernel_rfl,by kernel_rfl⟩
instance ayAz4:Ay prog 34 3 33 1:=⟨by kernel_rfl,by kernel_rfl⟩
abbrev X4V:={r:LN // r.length=4∧∀n∈r,n<256}
abbrev Yt (r:X4V):LV:=bys r.1
theorem V6 (r:X4V):(Yt r).length=4:=by show (bys r.1).length=4;unfold bys;rw[List.length_map,r.2.1]
structure PlV where
 ns:LN
 vx:Value
 xs:List X4V
 f0:Int
 f1:Int
 f2:Int
 bd:Int
abbrev Yj (l:PlV):LV:=bys l.ns++[l.vx,.int .i8 l.f0,.int .i8 l.f1,.int .i8 l.f2,.int .i8 l.bd]
abbrev i8R (n:Int):Prop:=-128≤n∧n≤127
structure PlA (L:LN) (H:Array Obj) (l:PlV):Prop where
 n:l.ns.length=147
 b:∀n∈l.ns,n<256
 x:Zo L H l.vx l.xs.length 4 (l.xs.flatMap Yt)
 f0:i8R l.f0
 f1:i8R l.f1
 f2:i8R l.f2
 bd:i8R l.bd
theorem QdR {l:PlV}(h:l.ns.length=147):(Yj l).length=152:=by rw[Yj,List.length_append,YH,h];rfl
theorem QdS {l:PlV}(h:l.ns.length=147) (j:Nat):(Yj l)[147+j]?=([l.vx,.int .i8 l.f0,.int .i8 l.f1,.int .i8 l.f2,.int .i8 l.bd]:LV)[j]?:=by
 rw[Yj,List.getElem?_append_right (by rw[YH];omega),YH,h,Nat.add_sub_cancel_left]
theorem Qa1 {l:PlV}(h:l.ns.length=147) {j:Nat}(hj:j<147):(Yj l)[j]?=some (.int .u8 ((l.ns.getD j 0:Nat):Int)):=by
 rw[Yj,List.getElem?_append_left (by rw[YH];omega)]
 exact Vv (by omega)
theorem j4 {l:PlV}{o m:Nat}(j:Nat) (u:Value) (h:(bys ((l.ns.drop o).take m))[j]?=some u):(Yj l)[o+j]?=some u:=by
 have h1:=Qhv (ns:=l.ns) (o:=o) (n:=m) j u h
 have h2:=(List.getElem?_eq_some_iff.1 h1).1
 rw[Yj,List.getElem?_append_left h2]
 exact h1
theorem QbJ {sz:LI}:∀(ls:List (Int×Int)) (pr:Option Int),(∀b,pr=some b→∀p∈ls,b<p.1)→ls.Pairwise (λp q=>p.1<q.1)→(∀p∈ls,0≤p.1∧p.1<(sz.length:Int)∧0≤p.2∧p.2<cget sz p.1.toNat)→YI sz pr ls=0
 | [],_,_,_,_=>rfl
 | p::ls,pr,hp,hs,hb=>by
  obtain ⟨h1,h2,h3,h4⟩:=hb p List.mem_cons_self
  obtain ⟨k1,k2⟩:=List.pairwise_cons.1 hs
  have hl:Ut pr p.1=false:=by
   cases pr with
   | none=>rfl
   | some b=>have:=hp b rfl p List.mem_cons_self;unfold Ut;exact decide_eq_false (by omega)
  rw[YI,if_neg (by omega),if_neg (by rw[hl];decide),if_neg (by omega)]
  exact QbJ ls (some p.1) (λb hb' q hq=>by cases hb';exact k1 q hq) k2 (λq hq=>hb q (List.mem_cons_of_mem _ hq))
theorem QbH {sz:LI}:∀(ls:List (Int×Int)) (pr:Option Int),(∀b,pr=some b→∀p∈ls,b<p.1)→ls.Pairwise (λp q=>p.1<q.1)→(∀p∈ls,0≤p.1∧p.1<(sz.length:Int)∧p.2≠0∧-65536≤p.2∧p.2≤65536)→Xk sz pr ls=0
 | [],_,_,_,_=>rfl
 | p::ls,pr,hp,hs,hb=>by
  obtain ⟨h1,h2,h3,h4,h5⟩:=hb p List.mem_cons_self
  obtain ⟨k1,k2⟩:=List.pairwise_cons.1 hs
  have hl:Ut pr p.1=false:=by
   cases pr with
   | none=>rfl
   | some b=>have:=hp b rfl p List.mem_cons_self;unfold Ut;exact decide_eq_false (by omega)
  have hg:grt p.2=false:=by unfold grt;rw[decide_eq_false (by omega),decide_eq_false (by omega)];rfl
  rw[Xk,if_neg (by omega),if_neg (by rw[hl];decide),if_neg (by rw[hg];simpa using h3)]
  exact QbH ls (some p.1) (λb hb' q hq=>by cases hb';exact k1 q hq) k2 (λq hq=>hb q (List.mem_cons_of_mem _ hq))
theorem QaN (a:Int) {b:Int}(h:0<b):-b<a.tmod b∧a.tmod b<b:=⟨Int.lt_tmod_of_pos a h,Int.tmod_lt_of_pos a h⟩
structure ItG (c:Nat) (k:Nat) (q:IV):Prop where
 nm:q.nm=⟨#[UInt8.ofNat c]⟩++⟨#[UInt8.ofNat (48+k)]⟩
 g:GdA q.p.a
 e:∀e∈q.p.a.al,e<5
def nmI (c k:Nat):ByteArray:=⟨#[UInt8.ofNat c]⟩++⟨#[UInt8.ofNat (48+k)]⟩
theorem Qd7 (k:Nat) (h:k<3):Yw (nmI 99 k)=true∧Yw (nmI 114 k)=true∧Yw (nmI 101 k)=true:=by
 match k,h with
 | 0,_=>decide
 | 1,_=>decide
 | 2,_=>decide
theorem Vl (c k:Nat):VN (nmI c k):=by
 show (ByteArray.mk _++ByteArray.mk _).size≤_
 rw[ByteArray.size_append]
 show 1+1≤_
 omega
theorem Qcn:∀n,n<4→∀m,m<3→((List.range n).map (nmI 99)++(List.range m).map (nmI 114)).Nodup:=by decide
theorem qI {c:Nat}{co:List IV}(h:∀k (hk:k<co.length),ItG c k (co[k]'hk)):(co.map IV.it).map (·.nm)=(List.range co.length).map (nmI c):=by
 apply List.ext_getElem
 ·simp
 ·intro i h1 h2
  simp only[List.getElem_map,List.getElem_range]
  exact (h i (by simpa using h1)).nm
theorem Qi2 {ns:LN}{co rq:List IV}{qx:List XV}{ks:List KV}{al:LI}(hns:ns.length=5) (h1:1≤co.length) (h3:co.length≤3) (hgd:∀k (hk:k<co.length),ItG 99 k (co[k]'hk)) (halm:∀e,e∈al↔∃q∈co,e∈q.p.a.al) (hrl:rq.length≤2)
  (hgr:∀k (hk:k<rq.length),ItG 114 k (rq[k]'hk)∧∀e∈(rq[k]'hk).p.a.al,e∈al) (hxl:qx.length≤2) (hxn:(qx.map (·.nm)).Nodup) (hgx:∀q∈qx,(∃k,k<2∧q.nm=⟨#[101]⟩++⟨#[UInt8.ofNat (48+k)]⟩)∧q.ls≠[]∧q.ls.length≤3∧YI (co.map (·.p.a.st)) none q.ls=0)
  (hkl:ks.length≤1) (hgk:∀q∈ks,q.nm=⟨#[107]⟩∧YG (co.map (·.p.a.st)) q.k=0):D25 ⟨Y1 ns 5,co.map IV.it,rq.map IV.it,qx.map XV.x,ks.map KV.k⟩:=by
 have hsz:szs (co.map IV.it)=co.map (·.p.a.st):=by unfold szs;rw[List.map_map];rfl
 refine ⟨⟨ns,hns,rfl⟩,by simp only[List.length_map];omega,by simp only[List.length_map];omega,by simp only[List.length_map];omega,λx hx=>?_,λx hx=>?_,?_,by simp only[List.length_map];omega,λx hx=>?_,?_,by simp only[List.length_map];omega,λx hx=>?_⟩
 ·obtain ⟨q,hq,rfl⟩:=List.mem_map.1 hx
  obtain ⟨k,hk,rfl⟩:=List.getElem_of_mem hq
  have g:=hgd k hk
  exact ⟨by show Yw (co[k]'hk).nm=true;rw[g.nm];exact (Qd7 k (by omega)).1,g.g,g.e⟩
 ·obtain ⟨q,hq,rfl⟩:=List.mem_map.1 hx
  obtain ⟨k,hk,rfl⟩:=List.getElem_of_mem hq
  have g:=hgr k hk
  refine ⟨by show Yw (rq[k]'hk).nm=true;rw[g.1.nm];exact (Qd7 k (by omega)).2.1,g.1.g,λe he=>?_⟩
  obtain ⟨y,hy,hye⟩:=(halm e).1 (g.2 e he)
  exact ⟨y.it,List.mem_map_of_mem hy,hye⟩
 ·show ((co.map IV.it).map (·.nm)++(rq.map IV.it).map (·.nm)).Nodup
  rw[qI hgd,qI (λk hk=>(hgr k hk).1)]
  exact Qcn _ (by omega) _ (by omega)
 ·obtain ⟨q,hq,rfl⟩:=List.mem_map.1 hx
  obtain ⟨⟨k,k1,k2⟩,g2,_,g4⟩:=hgx q hq
  refine ⟨by show Yw q.nm=true;rw[k2];exact (Qd7 k (by omega)).2.2,g2,?_⟩
  show YI (szs (co.map IV.it)) none q.ls=0
  rw[hsz];exact g4
 ·show ((qx.map XV.x).map (·.nm)).Nodup
  rw[List.map_map];exact hxn
 ·obtain ⟨q,hq,rfl⟩:=List.mem_map.1 hx
  obtain ⟨g1,g2⟩:=hgk q hq
  refine ⟨by show Yw q.nm=true;rw[g1];decide,?_⟩
  show YG (szs (co.map IV.it)) q.k=0
  rw[hsz];exact g2
def flk (l:PlV) (i:Nat):Int:=[l.f0,l.f1,l.f2].getD i 0
theorem QjQ {l:PlV}(h:l.ns.length=147) {i:Nat}(hi:i<3):(Yj l)[0+148+i*1]?=some (.int .i8 (flk l i)):=by
 rw[show 0+148+i*1=147+(1+i) by omega,QdS h]
 match i,hi with
 | 0,_=>rfl
 | 1,_=>rfl
 | 2,_=>rfl
theorem QjP {L:LN}{H:Array Obj}{l:PlV}(h:PlA L H l) (i:Nat) (hi:i<3):i8R (flk l i):=by
 match i,hi with
 | 0,_=>exact h.f0
 | 1,_=>exact h.f1
 | 2,_=>exact h.f2
theorem Qe9 (ns:LN):∀e∈Y1 ns 5,VN e.nm:=λe he=>by
 unfold Y1 at he
 obtain ⟨k,_,rfl⟩:=List.mem_map.1 he
 unfold Jb
 split <;> exact YL (by simp)
set_option maxRecDepth 100000 in
set_option maxHeartbeats 8000000 in
theorem Qcr {w:World}{l:PlV}(h:PlA [] w.heap l) :
  QL prog 14 [.agg (Yj l).toArray] w λr w'=>Step [] w w'∧∃k,QfU w.heap.size w'.heap r k∧D25 k:=by
 have hpl:=QdR h.n
 refine Q8 (1+l.ns.getD 5 0 % 3) λn hn=>?_
 have hn3:1≤n∧n≤3:=by omega
 refine QL.of_W func14 rfl ntmps14 results14 (by simp) ?_
 refine Qc<|xl rfl<|QR (us:=Yj l) rfl λb1 w1 hs1 hb1 hB1=>xl rfl<|Qu (us:=ZW) rfl λb2 w2 hs2 hb2 hB2=>xe ?_
 have hs02:=hs1.trans hs2
 have hz1:=hs1.size
 have hz2:=hs2.size
 have hl1:=hB1.lt
 have hl2:=hB2.lt
 have hB12:=hB1.ext hs2
 have hfl:((l.ns.drop 0).take 5).length=5:=by rw[List.length_take,List.length_drop,h.n];rfl
 have hflt:∀n∈(l.ns.drop 0).take 5,n<256:=λn hn=>h.b n (List.mem_of_mem_drop (List.mem_of_mem_take hn))
 refine Qc<|x (Qa rfl)<|x (Vh (us:=bys ((l.ns.drop 0).take 5)) hB12 rfl (by rw[YH];exact hfl) (λj u hu=>j4 (l:=l) (o:=0) (m:=5) j u hu))<|xl rfl<|xf<|(jD (ns:=(l.ns.drop 0).take 5) hfl hflt).mono ?_
 rintro ve w3 ⟨hs3,ho3⟩
 refine Q8 (Y1 ((l.ns.drop 0).take 5) 5) λev hev=>?_
 rw[hev] at ho3
 refine x (QE ⟨Q3 ho3,trivial⟩)<|xl rfl<|Qu (us:=ZW) rfl λb3 w4 hs4 hb3 hB3=>xl rfl<|Qo (us:=[ve,Zb,Zb,Zb,Zb]) hB3 rfl rfl rfl rfl ⟨QF ho3,rfl,rfl,rfl,rfl,trivial⟩ λw5 hs5 hB35 =>
  xe ?_
 have hs35:Step [] w3 w5:=hs4.then1 hs5 hb3
 refine Qc<|xl rfl<|Qu (us:=[Zb]) rfl λb4 w6 hs6 hb4 hB4=>xe ?_
 have hs36:=hs35.trans hs6
 have hs26:=hs3.trans hs36
 have hs16:=hs2.trans hs26
 have hz3:=hs3.size
 have hz35:=hs35.size
 have hz4:=hs4.size
 have hz6:=hs6.size
 have hl3:=hB35.lt
 have hl4:=hB4.lt
 have hB16:=hB12.ext hs26
 have hB36:=hB35.ext hs6
 have q5:=Qa1 (l:=l) h.n (j:=5) (by omega)
 have q5l:=Y8 h.b 5
 refine Q8 (l.ns.getD 5 0) λcn hcn=>?_
 rw[hcn] at q5 q5l hn
 refine Qc<|x (Qa rfl)<|x (Qd hB16 rfl q5)<|x (Ug (a:=(cn:Int)) (b:=3) rfl rfl (by omega) (by omega))<|x (ZI (k':=.i64) rfl ⟨by omega,by omega⟩)<|x (Qx rfl rfl ⟨by omega,by omega⟩)<|Qe ?_
 have hnn:(1:Int)+(cn:Int) % 3=(n:Int):=by omega
 refine QV (α:=Value×List IV×Value×LI) [(6,7),(26,55)] (λ_=>[]) (λz w'=>Step [b3,b4] w6 w'∧Q0 w'.heap b3 47 [ve,z.1,Zb,Zb,Zb]∧Q0 w'.heap b4 37 [z.2.2.1]∧VR w6.heap.size w' z.1 z.2.2.1 z.2.1 z.2.2.2∧z.2.1.length=n∧(∀k (hk:k<z.2.1.length),ItG 99 k (z.2.1[k]'hk))∧z.2.2.2.length≤5*n∧∀e,e∈z.2.2.2↔∃q∈z.2.1,e∈q.p.a.al) (by rfl) ?_ ?_
 ·refine Qc<|Qb<|Qb<|xe ?_
  refine Qg<|QC (α:=Nat×Value×List IV×Value×LI) [(6,7),(27,55)] (λz=>[(27,.int .i64 z.1)])
   (λz w'=>z.1≤n∧Step [b3,b4] w6 w'∧Q0 w'.heap b3 47 [ve,z.2.1,Zb,Zb,Zb]∧Q0 w'.heap b4 37 [z.2.2.2.1]∧VR w6.heap.size w' z.2.1 z.2.2.2.1 z.2.2.1 z.2.2.2.2∧z.2.2.1.length=z.1∧(∀k (hk:k<z.2.2.1.length),ItG 99 k (z.2.2.1[k]'hk))∧z.2.2.2.2.length≤5*z.1∧∀e,e∈z.2.2.2.2↔∃q∈z.2.2.1,e∈q.p.a.al)
   (λz=>n - z.1) (by rfl) (0,Zb,[],Zb,[]) ⟨rfl,trivial⟩
   ⟨Nat.zero_le _,Step.refl _ _,hB36,hB4,VR.nil,rfl,λk hk=>absurd hk (by simp),by simp,by simp⟩ ?_
  rintro ⟨i,vc,co,va,al⟩ g7 w7 ⟨hi,hs7,hB37,hB47,hM7,hcol,hgd,hall,halm⟩
  simp only[] at hi hB37 hB47 hM7 hcol hgd hall halm
  refine Qc<|x (QB rfl rfl)<|xe ?_
  refine Qf<|QH rfl (λh28=>?_) (λh28=>?_)
  ·refine Qz ?_
   have hin:i=n:=by have h29:¬(i:Int)<1+(cn:Int) % 3:=h28;omega
   exact ⟨(vc,co,va,al),trivial,hs7,hB37,hB47,hM7,by simp only[];omega,hgd,by simp only[];omega,halm⟩
  have hlt:i<n:=by have h29:(i:Int)<1+(cn:Int) % 3:=h28;omega
  have n134:b1∉[b3,b4]:=by simp only[List.mem_cons,List.not_mem_nil,or_false];omega
  have hB17:=hB16.step hs7 n134
  have qs:=Qa1 (l:=l) h.n (j:=0+6+i*1) (by omega)
  have qsl:=Y8 h.b (0+6+i*1)
  refine Q8 (l.ns.getD (0+6+i*1) 0) λm hm=>?_
  rw[hm] at qs qsl
  have hsk:=YP m 5
  have hsI:=Ky m 5
  have hsB:=QaU m 5
  refine Q8 (setK m 5) λsk hske=>?_
  rw[hske] at hsk hsI hsB
  refine Qi<|Qf<|Qg<|Qc<|Qb<|Qe<|Qc<|Qb<|x (Qa rfl)<|x (ZA (i:=i) rfl rfl (by omega))<|x (Qd hB17 rfl qs)<|xl rfl<|xf<|(Kz m qsl _).mono ?_
  rintro vs w8 ⟨hs8,ho8⟩
  rw[hske] at ho8
  refine Qe ?_
  have hz8:=hs8.size
  have hM8:=hM7.ext hs8
  have hI8:=Qt.ints (L:=[]) hM8.a (by omega) (by simp)
  have hJ8:=Qt.ints (L:=[]) ho8 (by omega) (by simp)
  refine Qc<|x (Qd (hB47.ext hs8) rfl rfl)<|Qb<|xl rfl<|xf<|(jJ hI8 hJ8 (by omega)).mono ?_
  rintro va2 w9 ⟨hs9,al2,hal2,hmem2,ho9⟩
  have hs89:=hs8.trans hs9
  have hz9:=hs9.size
  have hz7:=hs7.size
  refine xl rfl<|QG (hB47.ext hs89) rfl rfl (by simp) (QF ho9) λw10 hs10 hB410=>xe ?_
  have hl36:b3<w6.heap.size:=by omega
  have hM9:VR w6.heap.size w9 vc va2 co al2:=hM8.setA (Zi ho9 (by omega)) hs9.any (λb hb=>.inr (Qk ho9 b hb).1)
  have hM10:=hM9.low hs10 (λb hb=>by rw[List.mem_singleton.1 hb];omega)
  have hB310:Q0 w10.heap b3 47 [ve,vc,Zb,Zb,Zb]:=(hB37.ext hs89).step hs10 (by simp only[List.mem_singleton];omega)
  have hB110:=(hB17.ext hs89).step hs10 (by simp only[List.mem_singleton];omega)
  have hJ10:QM [] w10.heap vs sk:=Qt.ints (L:=[]) (Qj (Qq ho8 hs9) hs10 (λb hb hm=>by have:=(Qk ho8 b hb).1;rw[List.mem_singleton.1 hm] at this;omega)) (by omega) (by simp)
  have hz10:=hs10.size
  have n3v:b3∉ob vc:=QN hM10.c (by omega)
  have n1v:b1∉ob vc:=QN hM10.c (by omega)
  have hgl:=QeK (ns:=l.ns) (o:=0+9+i*27) (by have:=h.n;omega)
  have hglt:=QhS (o:=0+9+i*27) h.b
  have hgs:=λj u=>j4 (l:=l) (o:=0+9+i*27) (m:=27) j u
  refine Q8 (grN l.ns (0+9+i*27)) λgr hgr=>?_
  have hgs':∀j u,(bys gr)[j]?=some u→(Yj l)[0+9+i*27+j]?=some u:=by rw[←hgr];exact hgs
  rw[hgr] at hgl hglt
  have hd10:Step [] w10 { w10 with drawn:=w10.drawn+1 }:=Step.drew _ _
  have hu8:(48:Int)+(i:Int)=((48+i:Nat):Int):=by omega
  refine Q8 (⟨#[99]⟩++⟨#[UInt8.ofNat (48+i)]⟩:ByteArray) λnm hnm=>?_
  refine QU (Step (ob vc) w10) [(0,true),(1,true),(2,true),(3,true),(4,true),(5,true),(6,true),(7,true),(8,true),(9,true),(10,true),(11,true),(12,false),(13,true),(14,false),(15,false),(16,true),(17,false)] mixed (by rfl) (by kernel_rfl) (Step.drew _ _) ?_
  refine p (λ_=>Qa rfl)<|pq (λ_ hc=>Qd (hB310.step hc n3v) rfl rfl)<|p (λ_=>Qn)<|p (λ_=>Qx rfl rfl ⟨by omega,by omega⟩)<|p (λ_=>ZI (k':=.i32) rfl ⟨by omega,by omega⟩)<|p (λ_=>Vg (n:=48+i) (congrArg (Value.int .i32) hu8) (by omega)) <|
   p (λ_=>Z4 (a:=⟨#[99]⟩) (b:=⟨#[UInt8.ofNat (48+i)]⟩) rfl rfl (by show 1+1≤1000000000;omega))<|p (λ_=>Qn)<|p (λ_=>Qn)<|p (λ_=>Qa rfl)<|p (λ_=>ZA (i:=i) rfl rfl (by omega))<|pq (λ_ hc=>Vh (us:=bys gr) (hB110.step hc n1v) rfl (by rw[YH];exact hgl) hgs')<|?_
  refine pk<|xf<|(UA (hJ10.ext hd10) (λe he=>by have:=hsB e he;omega) hsI hgl hglt).mono ?_
  rintro r11 w11 ⟨hs11,a,⟨xa,xm,xe',rfl,hA⟩,hG,hal⟩
  have hc11:=hd10.trans hs11
  have hz11:=hc11.size
  have hA0:=hA [] (by simp)
  refine ⟨hc11.any,?_⟩
  refine p (λ_=>ZQ [(0,[.string nm]),(1,[xa,.int .i64 a.st,xm,xe'])] ⟨congrArg (λb=>(Value.string b).cells) hnm,rfl,rfl,rfl,trivial⟩)<|pk<|QD (us:=[Za ⟨nm,⟨xa,xm,xe',a⟩⟩]) rfl rfl (by decide) (show 1*5≤1000000 by omega) ⟨rfl,rfl,trivial⟩ λb14 w12 hs12 hb14 hB14=>⟨(hc11.trans hs12).any,?_⟩
  have hc12:=hc11.trans hs12
  have hM12:=hM10.ext hc12
  refine pk<|QY (news:=Za ⟨nm,⟨xa,xm,xe',a⟩⟩) (L:=[]) hM12.c rfl rfl rfl (hB14.at (by simp)) (zN hA0.al.one hA0.mr.one hA0.ed.one) (by omega) (by have:=hc12.size;omega) λv15 w15 ho15 hs15 hn15=>⟨(hc12.any (L:=ob vc)).trans' hs15,?_⟩
  have hM15:=hM12.setC (Ux (q:=⟨nm,⟨xa,xm,xe',a⟩⟩) (N:=w10.heap.size) (λL hL=>(hA L hL).ext hs12) (by omega) hM10.avlt) ho15 hs15 hn15
  refine p (λ_=>Qa rfl)<|pkl (hl:=by kernel_rfl)<|QG ((hB310.ext hc12).step hs15 n3v) rfl rfl (by simp) (QF ho15) λw16 hs16 hB316=>pe ?_
  have hge:=Qk hM10.c
  have n4v:b4∉ob vc:=QN hM10.c (by omega)
  have hB416:=((hB410.ext hc12).step hs15 n4v).step hs16 (by simp only[List.mem_singleton];omega)
  have hs710:Step [b4] w7 w10:=hs89.any.trans' hs10
  have hs615:Step [b3,b4] w6 w15:=((hs7.trans' (hs710.mono (by simp))).trans hc12.any).then hs15 (λb hb=>.inr (hge b hb).1)
  refine Qw<|x (Qx rfl rfl ⟨by omega,by omega⟩)<|Qb<|xe ?_
  refine ⟨(i+1,v15,co++[⟨nm,⟨xa,xm,xe',a⟩⟩],va2,al2),by simp only[];omega,⟨rfl,trivial⟩,hlt,hs615.trans' (hs16.mono (by simp)),hB316,hB416,hM15.low hs16 (λb hb=>by rw[List.mem_singleton.1 hb];omega),by simp only[List.length_append,List.length_singleton];omega,λk hk=>?_,by simp only[];omega,λe=>?_⟩
  ·simp only[] at hk ⊢
   by_cases hkl:k<co.length
   ·rw[List.getElem_append_left hkl];exact hgd k hkl
   ·have hke:k=i:=by simp only[List.length_append,List.length_singleton] at hk;omega
    subst hke
    rw[List.getElem_append_right (by omega)]
    simp only[hcol,Nat.sub_self,List.getElem_cons_zero]
    exact ⟨hnm.symm,hG,λe he=>by rw[hal] at he;exact (hsB e he).2⟩
  ·simp only[] at hmem2 ⊢
   rw[hmem2,halm]
   constructor
   ·rintro (⟨q,hq,he⟩ | he)
    ·exact ⟨q,List.mem_append_left _ hq,he⟩
    ·exact ⟨_,List.mem_append_right _ (List.mem_singleton.2 rfl),by rw[hal];exact he⟩
   ·rintro ⟨q,hq,he⟩
    rcases List.mem_append.1 hq with hq | hq
    ·exact .inl ⟨q,hq,he⟩
    ·rw[List.mem_singleton.1 hq,hal] at he;exact .inr he
 rintro ⟨vc,co,va,al⟩ g7 w7 ⟨hs7,hB37,hB47,hM7,hcol,hgd,hall,halm⟩
 simp only[] at hB37 hB47 hM7 hcol hgd hall halm
 have hz7:=hs7.size
 have n134:b1∉[b3,b4]:=by simp only[List.mem_cons,List.not_mem_nil,or_false];omega
 have hB17:=hB16.step hs7 n134
 have n13:b1∉[b3]:=by simp only[List.mem_singleton];omega
 have n43:b4∉[b3]:=by simp only[List.mem_singleton];omega
 have q90:=Qa1 (l:=l) h.n (j:=90) (by omega)
 have q90l:=Y8 h.b 90
 refine Q8 (l.ns.getD 90 0) λrn hrn=>?_
 rw[hrn] at q90 q90l
 refine Q8 (rn % 3) λr hr=>?_
 have hr2:r≤2:=by omega
 refine QV (α:=Value×List IV) [(8,9),(56,87)] (λ_=>[]) (λz w'=>Step [b3] w7 w'∧Q0 w'.heap b3 47 [ve,vc,z.1,Zb,Zb]∧VR w7.heap.size w' z.1 Zb z.2 []∧z.2.length=r∧∀k (hk:k<z.2.length),ItG 114 k (z.2[k]'hk)∧∀e∈(z.2[k]'hk).p.a.al,e∈al) (by rfl) ?_ ?_
 ·refine Qc<|x (Qa rfl)<|x (Qd hB17 rfl q90)<|x (Ug (a:=(rn:Int)) (b:=3) rfl rfl (by omega) (by omega))<|x (ZI (k':=.i64) rfl ⟨by omega,by omega⟩)<|Qb<|xe ?_
  refine Qg<|QC (α:=Nat×Value×List IV) [(8,9),(60,87)] (λz=>[(60,.int .i64 z.1)])
   (λz w'=>z.1≤r∧Step [b3] w7 w'∧Q0 w'.heap b3 47 [ve,vc,z.2.1,Zb,Zb]∧VR w7.heap.size w' z.2.1 Zb z.2.2 []∧z.2.2.length=z.1∧∀k (hk:k<z.2.2.length),ItG 114 k (z.2.2[k]'hk)∧∀e∈(z.2.2[k]'hk).p.a.al,e∈al)
   (λz=>r - z.1) (by rfl) (0,Zb,[]) ⟨rfl,trivial⟩
   ⟨Nat.zero_le _,Step.refl _ _,hB37,VR.nil,rfl,λk hk=>absurd hk (by simp)⟩ ?_
  rintro ⟨i,vr,rq⟩ g8 w8 ⟨hi,hs8,hB38,hM8,hrl,hgr⟩
  simp only[] at hi hB38 hM8 hrl hgr
  refine Qc<|x (QB rfl rfl)<|xe ?_
  refine Qf<|QH rfl (λh61=>?_) (λh61=>?_)
  ·refine Qz ?_
   have hin:i=r:=by have h62:¬(i:Int)<(rn:Int) % 3:=h61;omega
   exact ⟨(vr,rq),trivial,hs8,hB38,hM8,by simp only[];omega,hgr⟩
  have hlt:i<r:=by have h62:(i:Int)<(rn:Int) % 3:=h61;omega
  have hB18:=hB17.step hs8 n13
  have hB48:=hB47.step hs8 n43
  have qs:=Qa1 (l:=l) h.n (j:=0+91+i*1) (by omega)
  have qsl:=Y8 h.b (0+91+i*1)
  refine Q8 (l.ns.getD (0+91+i*1) 0) λm hm=>?_
  rw[hm] at qs qsl
  have hsk:=YP m 5
  have hsI:=Ky m 5
  have hsB:=QaU m 5
  refine Q8 (setK m 5) λsk hske=>?_
  rw[hske] at hsk hsI hsB
  refine Qi<|Qf<|Qg<|Qc<|Qb<|Qe<|Qc<|Qb<|x (Qa rfl)<|x (ZA (i:=i) rfl rfl (by omega))<|x (Qd hB18 rfl qs)<|xl rfl<|xf<|(Kz m qsl _).mono ?_
  rintro vs w9 ⟨hs9,ho9⟩
  rw[hske] at ho9
  have hz8:=hs8.size
  have hz9:=hs9.size
  have hva8:=Qq (Qj hM7.a hs8 (λb hb hm=>by rw[List.mem_singleton.1 hm] at hb;exact QN hM7.a (by omega) hb)) hs9
  have hgs:=Qk ho9
  have hlv:=QQ hM7.a
  have hD:=Qhk ho9 (by omega) (hB48.ext hs9) (λhm=>by have:=(hgs b4 hm).1;omega) (QS hva8 (by omega) (λb hb hbs=>by have:=(hgs b hbs).1;have:=hlv b hb;omega))
  refine x (Zl (l:=[]) (l':=[_]))<|xl rfl<|xf<|hD.mono ?_
  rintro vd w10 ⟨hs10,ho10⟩
  have hFI:Yf (sk.filter λx=>decide (x∈al)):=List.Pairwise.filter _ hsI
  have hFL:=List.length_filter_le (λx=>decide (x∈al)) sk
  have hFB:∀e∈sk.filter λx=>decide (x∈al),e∈sk∧e∈al:=λe he=>by
   have:=List.mem_filter.1 he
   exact ⟨this.1,of_decide_eq_true this.2⟩
  refine Q8 (sk.filter λx=>decide (x∈al)) λF hF=>?_
  rw[hF] at ho10 hFI hFL hFB
  refine Qe ?_
  have hs810:Step [] w8 w10:=hs9.then hs10 (λb hb=>.inr (hgs b hb).1)
  have hz10:=hs810.size
  have hM10:=hM8.ext hs810
  have hB310:=hB38.ext hs810
  have hB110:=hB18.ext hs810
  have hJ10:QM [] w10.heap vd F:=Qt.ints (L:=[]) ho10 (by omega) (by simp)
  have n3v:b3∉ob vr:=QN hM10.c (by omega)
  have n1v:b1∉ob vr:=QN hM10.c (by omega)
  have hgl:=QeK (ns:=l.ns) (o:=0+93+i*27) (by have:=h.n;omega)
  have hglt:=QhS (o:=0+93+i*27) h.b
  have hgs':=λj u=>j4 (l:=l) (o:=0+93+i*27) (m:=27) j u
  refine Q8 (grN l.ns (0+93+i*27)) λgr hgr'=>?_
  have hgs2:∀j u,(bys gr)[j]?=some u→(Yj l)[0+93+i*27+j]?=some u:=by rw[←hgr'];exact hgs'
  rw[hgr'] at hgl hglt
  have hd10:Step [] w10 { w10 with drawn:=w10.drawn+1 }:=Step.drew _ _
  have hu8:(48:Int)+(i:Int)=((48+i:Nat):Int):=by omega
  refine Q8 (⟨#[114]⟩++⟨#[UInt8.ofNat (48+i)]⟩:ByteArray) λnm hnm=>?_
  refine QU (Step (ob vr) w10) [(0,true),(1,true),(2,true),(3,true),(4,true),(5,true),(6,true),(7,true),(8,true),(9,true),(10,true),(11,true),(12,false),(13,true),(14,false),(15,false),(16,true),(17,false)] mixed (by rfl) (by kernel_rfl) (Step.drew _ _) ?_
  refine p (λ_=>Qa rfl)<|pq (λ_ hc=>Qd (hB310.step hc n3v) rfl rfl)<|p (λ_=>Qn)<|p (λ_=>Qx rfl rfl ⟨by omega,by omega⟩)<|p (λ_=>ZI (k':=.i32) rfl ⟨by omega,by omega⟩)<|p (λ_=>Vg (n:=48+i) (congrArg (Value.int .i32) hu8) (by omega)) <|
   p (λ_=>Z4 (a:=⟨#[114]⟩) (b:=⟨#[UInt8.ofNat (48+i)]⟩) rfl rfl (by show 1+1≤1000000000;omega))<|p (λ_=>Qn)<|p (λ_=>Qn)<|p (λ_=>Qa rfl)<|p (λ_=>ZA (i:=i) rfl rfl (by omega))<|pq (λ_ hc=>Vh (us:=bys gr) (hB110.step hc n1v) rfl (by rw[YH];exact hgl) hgs2)<|?_
  refine pk<|xf<|(UA (hJ10.ext hd10) (λe he=>by have:=hsB e (hFB e he).1;omega) hFI hgl hglt).mono ?_
  rintro r11 w11 ⟨hs11,a,⟨xa,xm,xe',rfl,hA⟩,hG,hal⟩
  have hc11:=hd10.trans hs11
  have hz11:=hc11.size
  have hA0:=hA [] (by simp)
  refine ⟨hc11.any,?_⟩
  refine p (λ_=>ZQ [(0,[.string nm]),(1,[xa,.int .i64 a.st,xm,xe'])] ⟨congrArg (λb=>(Value.string b).cells) hnm,rfl,rfl,rfl,trivial⟩)<|pk<|QD (us:=[Za ⟨nm,⟨xa,xm,xe',a⟩⟩]) rfl rfl (by decide) (show 1*5≤1000000 by omega) ⟨rfl,rfl,trivial⟩ λb14 w12 hs12 hb14 hB14=>⟨(hc11.trans hs12).any,?_⟩
  have hc12:=hc11.trans hs12
  have hM12:=hM10.ext hc12
  refine pk<|QY (news:=Za ⟨nm,⟨xa,xm,xe',a⟩⟩) (L:=[]) hM12.c rfl rfl rfl (hB14.at (by simp)) (zN hA0.al.one hA0.mr.one hA0.ed.one) (by omega) (by have:=hc12.size;omega) λv15 w15 ho15 hs15 hn15=>⟨(hc12.any (L:=ob vr)).trans' hs15,?_⟩
  have hM15:=hM12.setC (Ux (q:=⟨nm,⟨xa,xm,xe',a⟩⟩) (N:=w10.heap.size) (λL hL=>(hA L hL).ext hs12) (by omega) hM10.avlt) ho15 hs15 hn15
  refine p (λ_=>Qa rfl)<|pkl (hl:=by kernel_rfl)<|QG ((hB310.ext hc12).step hs15 n3v) rfl rfl (by simp) (QF ho15) λw16 hs16 hB316=>pe ?_
  have hge:=Qk hM10.c
  have hs715:Step [b3] w7 w15:=((hs8.trans hs810.any).trans hc12.any).then hs15 (λb hb=>.inr (hge b hb).1)
  refine Qw<|x (Qx rfl rfl ⟨by omega,by omega⟩)<|Qb<|xe ?_
  refine ⟨(i+1,v15,rq++[⟨nm,⟨xa,xm,xe',a⟩⟩]),by simp only[];omega,⟨rfl,trivial⟩,hlt,hs715.trans' hs16,hB316,hM15.low hs16 (λb hb=>by rw[List.mem_singleton.1 hb];omega),by simp only[List.length_append,List.length_singleton];omega,λk hk=>?_⟩
  simp only[] at hk ⊢
  by_cases hkl:k<rq.length
  ·rw[List.getElem_append_left hkl];exact hgr k hkl
  ·have hke:k=i:=by simp only[List.length_append,List.length_singleton] at hk;omega
   subst hke
   rw[List.getElem_append_right (by omega)]
   simp only[hrl,Nat.sub_self,List.getElem_cons_zero]
   exact ⟨⟨hnm.symm,hG,λe he=>by rw[hal] at he;exact (hsB e (hFB e he).1).2⟩,λe he=>by rw[hal] at he;exact (hFB e he).2⟩
 rintro ⟨vr,rq⟩ g8 w8 ⟨hs8,hB38,hM8,hrl,hgr⟩
 simp only[] at hB38 hM8 hrl hgr
 have hz8:=hs8.size
 have hB18:=hB17.step hs8 n13
 have g147:=QdS (l:=l) h.n 0
 have hX6:Zo [b3,b4] w6.heap l.vx l.xs.length 4 (l.xs.flatMap Yt):=((h.x.up (L':=[b3,b4]) (λb hb=>.inr (by simp only[List.mem_cons,List.not_mem_nil,or_false] at hb;omega))).ext hs02).ext hs26
 have hX8:Zo [b3] w8.heap l.vx l.xs.length 4 (l.xs.flatMap Yt):=((hX6.st hs7).up (L':=[b3]) (λb hb=>.inl (by simp only[List.mem_singleton] at hb;simp[hb]))).st hs8
 refine QV (α:=Value×List XV) [(10,14),(88,151)] (λ_=>[]) (λz w'=>Step [b3] w8 w'∧Q0 w'.heap b3 47 [ve,vc,vr,z.1,Zb]∧YW Zq 2 122 (λq=>[(q.v,q.ls.length,2,q.ls.flatMap QP)]) w8.heap.size w' z.1 z.2∧z.2.length≤2∧(z.2.map (·.nm)).Nodup∧∀q∈z.2,(∃k,k<2∧q.nm=⟨#[101]⟩++⟨#[UInt8.ofNat (48+k)]⟩)∧q.ls≠[]∧q.ls.length≤3∧YI (co.map (·.p.a.st)) none q.ls=0) (by rfl) ?_ ?_
 ·refine Qc<|x (Qa rfl)<|x (Qd hB18 rfl g147)<|x (Qs hX8 rfl)<|Qb<|xe ?_
  refine Qg<|QC (α:=Nat×Value×List XV) [(10,14),(91,151)] (λz=>[(91,.int .i64 z.1)])
   (λz w'=>z.1≤l.xs.length∧z.1≤2∧Step [b3] w8 w'∧Q0 w'.heap b3 47 [ve,vc,vr,z.2.1,Zb]∧YW Zq 2 122 (λq=>[(q.v,q.ls.length,2,q.ls.flatMap QP)]) w8.heap.size w' z.2.1 z.2.2∧z.2.2.length≤z.1∧(z.2.2.map (·.nm)).Nodup∧∀q∈z.2.2,(∃k,k<z.1∧q.nm=⟨#[101]⟩++⟨#[UInt8.ofNat (48+k)]⟩)∧q.ls≠[]∧q.ls.length≤3∧YI (co.map (·.p.a.st)) none q.ls=0)
   (λz=>l.xs.length - z.1) (by rfl) (0,Zb,[]) ⟨rfl,trivial⟩
   ⟨Nat.zero_le _,Nat.zero_le _,Step.refl _ _,hB38,YW.nil,Nat.le_refl _,List.Pairwise.nil,λq hq=>by cases hq⟩ ?_
  rintro ⟨i,vx,qx⟩ g9 w9 ⟨hi,hi2,hs9,hB39,hM9,hxl,hxn,hgx⟩
  simp only[] at hi hi2 hB39 hM9 hxl hxn hgx
  have hfin:(∀q∈qx,(∃k,k<2∧q.nm=⟨#[101]⟩++⟨#[UInt8.ofNat (48+k)]⟩)∧q.ls≠[]∧q.ls.length≤3∧YI (co.map (·.p.a.st)) none q.ls=0):=λq hq=>by
   obtain ⟨⟨k,k1,k2⟩,h2⟩:=hgx q hq
   exact ⟨⟨k,by omega,k2⟩,h2⟩
  refine Qc<|x (QB rfl rfl)<|xe ?_
  refine Qf<|QH rfl (λh92=>?_) (λh92=>?_)
  ·refine Qz ?_
   exact ⟨(vx,qx),trivial,hs9,hB39,hM9,by simp only[];omega,hxn,hfin⟩
  have hlt:i<l.xs.length:=by have h93:(i:Int)<(l.xs.length:Int):=h92;omega
  have hX9:=hX8.st hs9
  refine Qi<|Qf<|Qg<|Qc<|Qb<|xig V6 hX9 rfl rfl hlt λa94 h94=>?_
  refine Q8 (l.xs[i]'hlt) λxr hxr=>?_
  rw[hxr] at h94
  refine x (QJ h94 rfl (V6 xr))<|xl rfl<|Qu (us:=[.int .u8 0,.int .u8 0,.int .u8 0,.int .u8 0]) rfl λb11 w10 hs10 hb11 hB11=>x Qh<|xl rfl<|Qo (us:=Yt xr) hB11 rfl rfl (V6 xr) rfl (ju xr.1) λw11 hs11 hB1111=>xe ?_
  have hs911:Step [] w9 w11:=hs10.then1 hs11 hb11
  refine Qf<|Qc<|Qb<|x (Q5 rfl rfl)<|xe ?_
  refine Q6 rfl (λh97=>?_) (λh97=>?_)
  ·refine Qz ?_
   exact ⟨(vx,qx),trivial,hs9.trans hs911.any,hB39.ext hs911,hM9.ext hs911,by simp only[];omega,hxn,hfin⟩
  have hi3:i<2:=by have h98:¬(i:Int)=2:=h97;omega
  have hu8:(48:Int)+(i:Int)=((48+i:Nat):Int):=by omega
  have hz11:=hs911.size
  have hl11:=hB1111.lt
  refine Q8 (⟨#[101]⟩++⟨#[UInt8.ofNat (48+i)]⟩:ByteArray) λnm hnm=>?_
  refine Qi<|Qc<|Qb<|x (Qx rfl rfl ⟨by omega,by omega⟩)<|x (ZI (k':=.i32) rfl ⟨by omega,by omega⟩)<|x (Vg (n:=48+i) (congrArg (Value.int .i32) hu8) (by omega))<|x (Z4 (a:=⟨#[101]⟩) (b:=⟨#[UInt8.ofNat (48+i)]⟩) rfl rfl (by show 1+1≤1000000000;omega))<|x (QE ⟨rfl,trivial⟩) <|
   xl rfl<|Qu (us:=[.string .empty,Zb]) rfl λb12 w12 hs12 hb12 hB12=>xl rfl<|Qo (us:=[.string nm,Zb]) hB12 rfl (show Go.Lg.ev _ _=_ from congrArg (λs=>Value.agg #[.string s,Zb]) hnm) rfl rfl ⟨rfl,rfl,trivial⟩ λw13 hs13 hB1213=>xe ?_
  have hs1113:Step [] w11 w13:=hs12.then1 hs13 hb12
  have hs913:=hs911.trans hs1113
  have hz1113:=hs1113.size
  have hz913:=hs913.size
  have hz9:=hs9.size
  have hgeC:=Qk hM7.c
  have hltC:=QQ hM7.c
  have nc3:b3∉ob vc:=QN hM7.c (by omega)
  have hno3:∀b∈ob vc,b∉[b3]:=λb hb hm=>by rw[List.mem_singleton.1 hm] at hb;exact nc3 hb
  have hC13:=Qq (Qj (Qj hM7.c hs8 hno3) hs9 hno3) hs913
  have hB313:=hB39.ext hs913
  have hB1113:=hB1111.ext hs1113
  have hl12:=hB12.lt
  have n312:b3∉[b12]:=by simp only[List.mem_singleton];omega
  have n1112:b11∉[b12]:=by simp only[List.mem_singleton];omega
  have hAC13:=QS (L:=[b12]) hC13 (by omega) (λb hb hm=>by rw[List.mem_singleton.1 hm] at hb;have:=hltC b12 hb;omega)
  refine QV (α:=Value×List (Int×Int)) [(13,14),(104,140)] (λ_=>[]) (λz w'=>Step [b12] w13 w'∧Q0 w'.heap b12 122 [.string nm,z.1]∧w'.ownsRow w13.heap.size 124 2 z.1 z.2.length (z.2.flatMap QP)∧z.2.length≤co.length∧z.2.Pairwise (λp q=>p.1<q.1)∧∀p∈z.2,0≤p.1∧p.1<(co.length:Int)∧0≤p.2∧p.2<cget (co.map (·.p.a.st)) p.1.toNat) (by rfl) ?_ ?_
  ·refine Qc<|x (Qa rfl)<|x (Qd hB313 rfl rfl)<|x (Qs hAC13 rfl)<|Qb<|xe ?_
   refine Qg<|QC (α:=Nat×Value×List (Int×Int)) [(13,14),(107,140)] (λz=>[(107,.int .i64 z.1)])
    (λz w'=>z.1≤co.length∧Step [b12] w13 w'∧Q0 w'.heap b12 122 [.string nm,z.2.1]∧w'.ownsRow w13.heap.size 124 2 z.2.1 z.2.2.length (z.2.2.flatMap QP)∧z.2.2.length≤z.1∧z.2.2.Pairwise (λp q=>p.1<q.1)∧∀p∈z.2.2,0≤p.1∧p.1<(z.1:Int)∧0≤p.2∧p.2<cget (co.map (·.p.a.st)) p.1.toNat)
    (λz=>co.length - z.1) (by rfl) (0,Zb,[]) ⟨rfl,trivial⟩
    ⟨Nat.zero_le _,Step.refl _ _,hB1213,QO _ _ _ _,Nat.le_refl _,List.Pairwise.nil,λp hp=>by cases hp⟩ ?_
   rintro ⟨k,vl,ls⟩ g14 w14 ⟨hk,hs14,hB1214,ho14,hll,hlp,hlb⟩
   simp only[] at hk hB1214 ho14 hll hlp hlb
   refine Qc<|x (QB rfl rfl)<|xe ?_
   refine Qf<|QH rfl (λh108=>?_) (λh108=>?_)
   ·refine Qz ?_
    have hke:k=co.length:=by have h109:¬(k:Int)<(co.length:Int):=h108;omega
    rw[hke] at hlb
    exact ⟨(vl,ls),trivial,hs14,hB1214,ho14,by simp only[];omega,hlp,hlb⟩
   have hkl:k<co.length:=by have h109:(k:Int)<(co.length:Int):=h108;omega
   have hAC14:=hAC13.st hs14
   have hB314:=hB313.step hs14 n312
   have hB1114:=hB1113.step hs14 n1112
   refine Qi<|Qf<|Qg<|Qc<|Qb<|Qe<|Qc<|x (Qa rfl)<|x (Qd hB314 rfl rfl)<|Qb<|xig YE hAC14 rfl rfl hkl λa113 h113=>?_
   refine Q8 (co[k]'hkl) λq hq=>?_
   rw[hq] at h113
   refine x (Q7 rfl)<|x (Q7 rfl)<|x (Qv ((h113.from 1).fld 1 (.int .i64 q.p.a.st) rfl) rfl)<|Qe ?_
   have hqg:=(hgd k hkl).g
   rw[hq] at hqg
   have hqp:=hqg.p
   have hqs:=hqg.s
   have qx0:=Vv (ns:=xr.1) (j:=0+k*1) (by rw[xr.2.1];omega)
   have qx0l:=Y8 xr.2.2 (0+k*1)
   refine Q8 (xr.1.getD (0+k*1) 0) λxk hxk=>?_
   rw[hxk] at qx0 qx0l
   have hmod:0≤(xk:Int) % (q.p.a.st+2):=Int.emod_nonneg _ (by omega)
   refine Qc<|Qb<|x (ZA (i:=k) rfl rfl (by omega))<|x (Qd hB1114 rfl qx0)<|x (ZI (k':=.i64) rfl ⟨by omega,by omega⟩)<|Qb<|x (Qx rfl rfl ⟨by omega,by omega⟩)<|x (Ug (a:=(xk:Int)) (b:=q.p.a.st+2) rfl rfl (by omega) (by omega))<|Qb<|x (QB rfl rfl)<|xe ?_
   have hgeL:=Qk ho14
   have hz14:=hs14.size
   have hz13:=hs13.size
   have hn12v:b12∉ob vl:=QN ho14 (by omega)
   have hn11v:b11∉ob vl:=QN ho14 (by omega)
   have hcget:cget (co.map (·.p.a.st)) k=q.p.a.st:=by
    unfold cget
    simp[List.getD,List.getElem?_map,List.getElem?_eq_getElem hkl,hq]
   refine QH rfl (λh125=>?_) (λh125=>?_)
   ·refine Qi<|Qw<|x (Qx rfl rfl ⟨by omega,by omega⟩)<|Qb<|xe ?_
    exact ⟨(k+1,vl,ls),by simp only[];omega,⟨rfl,trivial⟩,hkl,hs14,hB1214,ho14,by simp only[];omega,hlp,λp hp=>by have:=hlb p hp;simp only[];omega⟩
   have h126:(xk:Int) % (q.p.a.st+2)<q.p.a.st:=h125
   have hd14:Step [] w14 { w14 with drawn:=w14.drawn+1 }:=Step.drew _ _
   refine Q8 ((xk:Int) % (q.p.a.st+2)) λst hst=>?_
   refine QU (Step (ob vl) w14) [(0,true),(1,true),(2,true),(3,true),(4,true),(5,true),(6,true),(7,true),(8,true),(9,true),(10,true),(11,false),(12,false),(13,true),(14,false)] mixed (by rfl) (by kernel_rfl) (Step.drew _ _) ?_
   refine p (λ_=>Qa rfl)<|pq (λ_ hc=>Qd (hB1214.step hc hn12v) rfl rfl)<|p (λ_=>Qn)<|p (λ_=>Qn)<|p (λ_=>ZA (i:=k) rfl rfl (by omega))<|pq (λ_ hc=>Qd (hB1114.step hc hn11v) rfl qx0)<|p (λ_=>ZI (k':=.i64) rfl ⟨by omega,by omega⟩)<|p (λ_=>Qn)<|p (λ_=>Qx rfl rfl ⟨by omega,by omega⟩) <|
    p (λ_=>Ug (a:=(xk:Int)) (b:=q.p.a.st+2) rfl rfl (by omega) (by omega))<|p (λ_=>QE ⟨rfl,rfl,trivial⟩)<|pk<|QD (us:=[QP ((k:Int),(xk:Int) % (q.p.a.st+2))]) rfl rfl (by decide) (show 1*2≤1000000 by omega) ⟨rfl,rfl,trivial⟩ λb137 w15 hs15 hb137 hB137=>?_
   have hs1415:=hd14.trans hs15
   have hz1415:=hs1415.size
   refine ⟨hs1415.any,?_⟩
   refine pk<|QY (news:=QP ((k:Int),(xk:Int) % (q.p.a.st+2))) (L:=[]) (Qq ho14 hs1415) rfl rfl rfl (hB137.at (by simp)) (Qa4 _) (by omega) (by omega) λv16 w16 ho16 hs16 hn16=>⟨(hs1415.any (L:=ob vl)).trans' hs16,?_⟩
   have hge16:∀b∈ob v16,w13.heap.size≤b:=λb hb=>(Qk ho16 b hb).1
   refine p (λ_=>Qa rfl)<|pkl (hl:=by kernel_rfl)<|QG ((hB1214.ext hs1415).step hs16 hn12v) rfl rfl (by simp) (QF ho16) λw17 hs17 hB17=>pe ?_
   refine Qw<|x (Qx rfl rfl ⟨by omega,by omega⟩)<|Qb<|xe ?_
   refine ⟨(k+1,v16,ls++[((k:Int),(xk:Int) % (q.p.a.st+2))]),by simp only[];omega,⟨rfl,trivial⟩,hkl,((hs14.trans hs1415.any).then hs16 (λb hb=>.inr (hgeL b hb).1)).trans' hs17,hB17,?_,by simp only[List.length_append,List.length_singleton];omega,?_,λp hp=>?_⟩
   ·have h9:=Qj ho16 hs17 (λb hb=>by have:=hge16 b hb;simp only[List.mem_singleton];omega)
    simp only[List.length_append,List.flatMap_append]
    simpa using h9
   ·simp only[]
    rw[List.pairwise_append]
    exact ⟨hlp,List.pairwise_singleton _ _,λp hp p' hp'=>by rw[List.mem_singleton.1 hp'];have:=hlb p hp;simp only[];omega⟩
   ·simp only[] at hp ⊢
    rcases List.mem_append.1 hp with hp | hp
    ·have:=hlb p hp;omega
    ·rw[List.mem_singleton.1 hp]
     simp only[Int.toNat_natCast]
     rw[hcget]
     omega
  rintro ⟨vl,ls⟩ g14 w14 ⟨hs14,hB1214,ho14,hll,hlp,hlb⟩
  simp only[] at hB1214 ho14 hll hlp hlb
  have hz14:=hs14.size
  have hz13:=hs13.size
  have hs914:Step [] w9 w14:=hs913.then1 hs14 (by omega)
  have hB314:=hB313.step hs14 n312
  have hM14:=hM9.ext hs914
  refine Qc<|x (Qa rfl)<|x (Qd hB1214 rfl rfl)<|x (Qs (QS (L:=[]) ho14 (by omega) (by simp)) rfl)<|x (ZF rfl rfl)<|xe ?_
  refine QH rfl (λh144=>?_) (λh144=>?_)
  ·refine Qi<|Qw<|x (Qx rfl rfl ⟨by omega,by omega⟩)<|Qb<|xe ?_
   refine ⟨(i+1,vx,qx),by simp only[];omega,⟨rfl,trivial⟩,hlt,by simp only[];omega,hs9.trans hs914.any,hB314,hM14,by simp only[];omega,hxn,λq hq=>?_⟩
   obtain ⟨⟨k,k1,k2⟩,h2⟩:=hgx q hq
   exact ⟨⟨k,by simp only[];omega,k2⟩,h2⟩
  have h145:(0:Int)<(ls.length:Int):=h144
  have hxx:=QF ho14
  refine Qw<|x (Qa rfl)<|x (Qd hB314 rfl rfl)<|x (Qr hB1214 rfl rfl)<|xl rfl<|QD (us:=[Zq ⟨nm,vl,ls⟩]) rfl rfl (by decide) (show 1*2≤1000000 by omega) ⟨rfl,rfl,trivial⟩ λb148 w15 hs15 hb148 hB148=>?_
  refine xl rfl<|QY (news:=Zq ⟨nm,vl,ls⟩) (L:=[]) (Qq hM14.own hs15) rfl rfl rfl (hB148.at (by simp)) (q8 hxx) (by omega) (by have:=hs914.size;have:=hs15.size;omega) λv16 w16 ho16 hs16 hn16=>?_
  have hs1115:Step [] w11 w15:=(hs1113.then1 hs14 hb12).trans hs15
  have hM16:=(hM9.ext hs911).app hs1115 (q:=⟨nm,vl,ls⟩) (λt ht=>by rw[List.mem_singleton.1 ht];exact ⟨w13.heap.size,124,Qq ho14 hs15,by show ls.length≤_;omega,hz1113⟩) (by omega) ho16 hs16 hn16
  have hgeX:=Qk hM14.own
  have n3x:b3∉ob vx:=QN hM14.own (by omega)
  refine x (Qa rfl)<|xl rfl<|QG ((hB314.ext hs15).step hs16 n3x) rfl rfl (by simp) (QF ho16) λw17 hs17 hB317=>xe ?_
  refine Qw<|x (Qx rfl rfl ⟨by omega,by omega⟩)<|Qb<|xe ?_
  have hs816:Step [b3] w8 w16:=((hs9.trans hs914.any).trans hs15.any).then hs16 (λb hb=>.inr (hgeX b hb).1)
  refine ⟨(i+1,v16,qx++[⟨nm,vl,ls⟩]),by simp only[];omega,⟨rfl,trivial⟩,hlt,by simp only[];omega,hs816.trans' hs17,hB317,hM16.low hs17 (λb hb=>by rw[List.mem_singleton.1 hb];omega),by simp only[List.length_append,List.length_singleton];omega,?_,λq hq=>?_⟩
  ·simp only[List.map_append,List.map_cons,List.map_nil]
   rw[List.nodup_append]
   refine ⟨hxn,by simp,λs hs s' hs' e=>?_⟩
   obtain ⟨q,hq,rfl⟩:=List.mem_map.1 hs
   obtain ⟨⟨k,k1,k2⟩,_⟩:=hgx q hq
   have hk0:k=0:=by omega
   have hi1:i=1:=by omega
   rw[List.mem_singleton.1 hs',k2,←hnm,hk0,hi1] at e
   exact absurd e (by decide)
  ·rcases List.mem_append.1 hq with hq | hq
   ·obtain ⟨⟨k,k1,k2⟩,h2⟩:=hgx q hq
    exact ⟨⟨k,by simp only[];omega,k2⟩,h2⟩
   ·rw[List.mem_singleton.1 hq]
    refine ⟨⟨i,Nat.lt_succ_self _,hnm.symm⟩,λe=>by rw[show ls=[] from e] at h145;exact absurd h145 (by decide),by show ls.length≤3;omega,QbJ ls none (λb hb=>by cases hb) hlp (λp hp=>?_)⟩
    rw[List.length_map]
    exact hlb p hp
 rintro ⟨vx,qx⟩ g9 w9 ⟨hs9,hB39,hM9,hxl,hxn,hgx⟩
 simp only[] at hB39 hM9 hxl hxn hgx
 have hz9:=hs9.size
 have hB19:=hB18.step hs9 n13
 have g151:=QdS (l:=l) h.n 4
 have hbd:=h.bd
 have hbdb:=QaN l.bd (b:=8) (by decide)
 refine Q8 (l.bd.tmod 8) λbd hbde=>?_
 rw[hbde] at hbdb
 have hbd8:-7≤bd∧bd≤7:=by omega
 refine Qc<|x (Qa rfl)<|x (Qd hB19 rfl g151)<|x (ZI (k':=.i64) rfl ⟨by omega,by omega⟩)<|x (QdI rfl rfl (by decide))<|x (QE ⟨rfl,rfl,trivial⟩)<|xl rfl<|Qu (us:=[.string .empty,Zb,.int .i64 0]) rfl λb15 w10 hs10 hb15 hB15 =>
  xl rfl<|Qo (us:=[.string ⟨#[107]⟩,Zb,.int .i64 bd]) hB15 rfl (show Go.Lg.ev _ _=_ from congrArg (λn=>Value.agg #[.string ⟨#[107]⟩,Zb,.int .i64 n]) hbde) rfl rfl ⟨rfl,rfl,rfl,trivial⟩ λw11 hs11 hB1511=>xe ?_
 have hs911:Step [] w9 w11:=hs10.then1 hs11 hb15
 have hz911:=hs911.size
 have hB111:=hB19.ext hs911
 have hB311:=hB39.ext hs911
 have n115:b1∉[b15]:=by simp only[List.mem_singleton];omega
 have n315:b3∉[b15]:=by simp only[List.mem_singleton];omega
 have hl15:=hB1511.lt
 refine QV (α:=Value×List (Int×Int)) [(16,16),(157,179)] (λ_=>[]) (λz w'=>Step [b15] w11 w'∧Q0 w'.heap b15 127 [.string ⟨#[107]⟩,z.1,.int .i64 bd]∧w'.ownsRow w11.heap.size 129 2 z.1 z.2.length (z.2.flatMap QP)∧z.2.length≤n∧z.2.Pairwise (λp q=>p.1<q.1)∧∀p∈z.2,0≤p.1∧p.1<(n:Int)∧-4<p.2∧p.2<4) (by rfl) ?_ ?_
 ·refine Qc<|Qb<|Qb<|xe ?_
  refine Qg<|QC (α:=Nat×Value×List (Int×Int)) [(16,16),(158,179)] (λz=>[(158,.int .i64 z.1)])
   (λz w'=>z.1≤n∧Step [b15] w11 w'∧Q0 w'.heap b15 127 [.string ⟨#[107]⟩,z.2.1,.int .i64 bd]∧w'.ownsRow w11.heap.size 129 2 z.2.1 z.2.2.length (z.2.2.flatMap QP)∧z.2.2.length≤z.1∧z.2.2.Pairwise (λp q=>p.1<q.1)∧∀p∈z.2.2,0≤p.1∧p.1<(z.1:Int)∧-4<p.2∧p.2<4)
   (λz=>n - z.1) (by rfl) (0,Zb,[]) ⟨rfl,trivial⟩
   ⟨Nat.zero_le _,Step.refl _ _,hB1511,QO _ _ _ _,Nat.le_refl _,List.Pairwise.nil,λp hp=>by cases hp⟩ ?_
  rintro ⟨i,vt,ts⟩ g12 w12 ⟨hi,hs12,hB1512,ho12,htl,htp,htb⟩
  simp only[] at hi hB1512 ho12 htl htp htb
  refine Qc<|x (QB rfl rfl)<|xe ?_
  refine Qf<|QH rfl (λh159=>?_) (λh159=>?_)
  ·refine Qz ?_
   have hin:i=n:=by have h160:¬(i:Int)<1+(cn:Int) % 3:=h159;omega
   rw[hin] at htl htb
   exact ⟨(vt,ts),trivial,hs12,hB1512,ho12,htl,htp,htb⟩
  have hlt:i<n:=by have h160:(i:Int)<1+(cn:Int) % 3:=h159;omega
  have hB112:=hB111.step hs12 n115
  have qf:=QjQ (l:=l) h.n (i:=i) (by omega)
  have qfb:=QjP h i (by omega)
  refine Q8 (flk l i) λfk hfk=>?_
  rw[hfk] at qf qfb
  refine Qi<|Qf<|Qg<|Qc<|Qb<|Qe<|Qc<|Qb<|x (Qa rfl)<|x (ZA (i:=i) rfl rfl (by omega))<|x (Qd hB112 rfl qf)<|x (Q9 rfl rfl)<|xe ?_
  refine QH rfl (λh165=>?_) (λh165=>?_)
  ·refine Qi<|Qw<|x (Qx rfl rfl ⟨by omega,by omega⟩)<|Qb<|xe ?_
   exact ⟨(i+1,vt,ts),by simp only[];omega,⟨rfl,trivial⟩,hlt,hs12,hB1512,ho12,by simp only[];omega,htp,λp hp=>by have:=htb p hp;simp only[];omega⟩
  have hmd:=QaN fk (b:=4) (by decide)
  have hd12:Step [] w12 { w12 with drawn:=w12.drawn+1 }:=Step.drew _ _
  have hz12:=hs12.size
  have hgeT:=Qk ho12
  have hn15v:b15∉ob vt:=QN ho12 (by omega)
  have hn1v:b1∉ob vt:=QN ho12 (by omega)
  refine QU (Step (ob vt) w12) [(0,true),(1,true),(2,true),(3,true),(4,true),(5,true),(6,true),(7,true),(8,true),(9,true),(10,false),(11,false),(12,true),(13,false)] mixed (by rfl) (by kernel_rfl) (Step.drew _ _) ?_
  refine p (λ_=>Qa rfl)<|pq (λ_ hc=>Qd (hB1512.step hc hn15v) rfl rfl)<|p (λ_=>Qn)<|p (λ_=>Qn)<|p (λ_=>Qa rfl)<|p (λ_=>ZA (i:=i) rfl rfl (by omega))<|pq (λ_ hc=>Qd (hB112.step hc hn1v) rfl qf)<|p (λ_=>ZI (k':=.i64) rfl ⟨by omega,by omega⟩) <|
   p (λ_=>QdI rfl rfl (by decide))<|p (λ_=>QE ⟨rfl,rfl,trivial⟩)<|pk<|QD (us:=[QP ((i:Int),fk.tmod 4)]) rfl rfl (by decide) (show 1*2≤1000000 by omega) ⟨rfl,rfl,trivial⟩ λb176 w13 hs13 hb176 hB176=>?_
  have hs1213:=hd12.trans hs13
  have hz1213:=hs1213.size
  refine ⟨hs1213.any,?_⟩
  refine pk<|QY (news:=QP ((i:Int),fk.tmod 4)) (L:=[]) (Qq ho12 hs1213) rfl rfl rfl (hB176.at (by simp)) (Qa4 _) (by omega) (by omega) λv14 w14 ho14 hs14 hn14=>⟨(hs1213.any (L:=ob vt)).trans' hs14,?_⟩
  have hge14:∀b∈ob v14,w11.heap.size≤b:=λb hb=>(Qk ho14 b hb).1
  refine p (λ_=>Qa rfl)<|pkl (hl:=by kernel_rfl)<|QG ((hB1512.ext hs1213).step hs14 hn15v) rfl rfl (by simp) (QF ho14) λw15 hs15 hB15=>pe ?_
  refine Qw<|x (Qx rfl rfl ⟨by omega,by omega⟩)<|Qb<|xe ?_
  refine ⟨(i+1,v14,ts++[((i:Int),fk.tmod 4)]),by simp only[];omega,⟨rfl,trivial⟩,hlt,((hs12.trans hs1213.any).then hs14 (λb hb=>.inr (hgeT b hb).1)).trans' hs15,hB15,?_,by simp only[List.length_append,List.length_singleton];omega,?_,λp hp=>?_⟩
  ·have h9:=Qj ho14 hs15 (λb hb=>by have:=hge14 b hb;simp only[List.mem_singleton];omega)
   simp only[List.length_append,List.flatMap_append]
   simpa using h9
  ·simp only[]
   rw[List.pairwise_append]
   exact ⟨htp,List.pairwise_singleton _ _,λp hp p' hp'=>by rw[List.mem_singleton.1 hp'];have:=htb p hp;simp only[];omega⟩
  ·simp only[] at hp ⊢
   rcases List.mem_append.1 hp with hp | hp
   ·have:=htb p hp;omega
   ·rw[List.mem_singleton.1 hp]
    simp only[]
    omega
 rintro ⟨vt,ts⟩ g12 w12 ⟨hs12,hB1512,ho12,htl,htp,htb⟩
 simp only[] at hB1512 ho12 htl htp htb
 have hz12:=hs12.size
 have hgT:=Qk ho12
 refine Qc<|x (Qa rfl)<|x (Qd hB1512 rfl rfl)<|xl rfl<|xf<|(Qhj ho12 (by omega)).mono ?_
 rintro vu w13 ⟨hs13,ho13⟩
 have hup:(nzT ts).Pairwise (λp q=>p.1<q.1):=List.Pairwise.filter _ htp
 have hul:=List.length_filter_le (λp:Int×Int=>!decide (p.2=0)) ts
 have hub:∀p∈nzT ts,0≤p.1∧p.1<(n:Int)∧p.2≠0∧-65536≤p.2∧p.2≤65536:=λp hp=>by
  have h1:=List.mem_filter.1 hp
  have h2:=htb p h1.1
  have h3:¬p.2=0:=by simpa using h1.2
  omega
 refine Q8 (nzT ts) λus hus=>?_
 have hul':us.length≤3:=by rw[←hus];exact Nat.le_trans hul (by omega)
 rw[hus] at ho13 hup hub
 have n15t:b15∉ob vt:=QN ho12 (by omega)
 refine x (Qa rfl)<|xl rfl<|QG (hB1512.step hs13 n15t) rfl rfl (by simp) (QF ho13) λw14 hs14 hB1514=>xe ?_
 have hs914:Step [] w9 w14:=(((hs911.then1 hs12 hb15).then hs13 (λb hb=>.inr (by have:=(hgT b hb).1;omega)))).then1 hs14 hb15
 have hz914:=hs914.size
 have hz13:=hs13.size
 have hz14:=hs14.size
 have hgU:=Qk ho13
 have ho14:=Qj ho13 hs14 (λb hb=>by have:=(hgU b hb).1;simp only[List.mem_singleton];omega)
 have hB314:=hB39.ext hs914
 refine QV (α:=Value×List KV) [(184,190)] (λ_=>[]) (λz w'=>Step [b3] w14 w'∧Q0 w'.heap b3 47 [ve,vc,vr,vx,z.1]∧z.2.length≤1∧(∀q∈z.2,q.nm=⟨#[107]⟩∧YG (co.map (·.p.a.st)) q.k=0)∧∀L:LN,(∀b∈L,b<w6.heap.size)→UU L w'.heap z.1 z.2) (by rfl) ?_ ?_
 ·refine Qc<|x (Qa rfl)<|x (Qd hB1514 rfl rfl)<|x (Qs (QS (L:=[]) ho14 (by omega) (by simp)) rfl)<|x (ZF rfl rfl)<|xe ?_
  refine QH rfl (λh187=>?_) (λh187=>?_)
  ·refine Qi ?_
   exact ⟨(Zb,[]),trivial,Step.refl _ _,hB314,by decide,λq hq=>(by cases hq),λL _=>⟨Zo.nil _ _ 3,λq hq=>(by cases hq),λq hq=>(by cases hq)⟩⟩
  have h188:(0:Int)<(us.length:Int):=h187
  have huo:=QF ho14
  refine Qw<|x (Qr hB1514 rfl rfl)<|xl rfl<|QD (us:=[Zs ⟨⟨#[107]⟩,vu,us,bd⟩]) rfl rfl (by decide) (show 1*3≤1000000 by omega) ⟨rfl,rfl,trivial⟩ λb189 w15 hs15 hb189 hB189=>?_
  have hz15:=hs15.size
  refine x (Qa rfl)<|xl rfl<|QG (hB314.ext hs15) rfl rfl (by simp) rfl λw16 hs16 hB316=>xe ?_
  refine ⟨(_,[⟨⟨#[107]⟩,vu,us,bd⟩]),trivial,hs15.any.trans' hs16,hB316,Nat.le_refl _,λq hq=>?_,λL hL=>?_⟩
  ·rw[List.mem_singleton.1 hq]
   refine ⟨rfl,?_⟩
   have hgr0:grt bd=false:=by unfold grt;rw[decide_eq_false (by omega),decide_eq_false (by omega)];rfl
   have hct:=QbH (sz:=co.map (·.p.a.st)) us none (λb hb=>by cases hb) hup (λp hp=>by rw[List.length_map,hcol];exact hub p hp)
   show YG _ ⟨_,us,bd⟩=0
   unfold YG
   rw[if_neg (by simp only[];omega),if_neg (by rw[hct];decide),if_neg (by simp only[];rw[hgr0];decide)]
  ·have hL2:∀b∈b3::L,b<w11.heap.size:=λb hb=>by
    rcases List.mem_cons.1 hb with rfl | hb
    ·omega
    ·have:=hL b hb;omega
   have h1:UU (b3::L) w15.heap (.slice (some ⟨b189,0,none⟩) 1 1) [⟨⟨#[107]⟩,vu,us,bd⟩]:=by
    refine ⟨hB189.arr (λhb=>by have:=hL2 _ hb;omega) rfl (by decide) (Nat.le_refl _),λq hq=>?_,λq hq=>?_⟩
    ·rw[List.mem_singleton.1 hq]
     exact (QS (L:=b3::L) ho14 (by omega) (λb hb hbL=>by have:=(hgU b hb).1;have:=hL2 b hbL;omega)).ext hs15
    ·rw[List.mem_singleton.1 hq];exact YL (by decide)
   exact (h1.st (hs16.mono (by simp))).up (λb hb=>.inl (List.mem_cons_of_mem _ hb))
 rintro ⟨vk,ks⟩ g16 w16 ⟨hs16,hB316,hkl,hgk,hK16⟩
 simp only[] at hB316 hkl hgk hK16
 have hz16:=hs16.size
 have hge3:=Qk ho3
 have hlt3:=QQ ho3
 have hs816:Step [b3] w8 w16:=(hs9.trans hs914.any).trans' hs16
 have hs716:Step [b3] w7 w16:=hs8.trans' hs816
 have hs616:Step [b3,b4] w6 w16:=hs7.trans' (hs716.mono (by simp))
 have lo3:∀b∈[b3],b<w6.heap.size:=λb hb=>by rw[List.mem_singleton.1 hb];omega
 have hE16:=Qj (Qq ho3 hs36) hs616 (λb hb hm=>by have:=hlt3 b hb;simp only[List.mem_cons,List.not_mem_nil,or_false] at hm;omega)
 have hC16:=hM7.low hs716 lo3
 have hR16:=hM8.low hs816 (λb hb=>by have:=lo3 b hb;omega)
 have hX16:=(hM9.ext hs914).low hs16 (λb hb=>by have:=lo3 b hb;omega)
 have n23:b2∉[b3]:=by simp only[List.mem_singleton];omega
 have n234:b2∉[b3,b4]:=by simp only[List.mem_cons,List.not_mem_nil,or_false];omega
 have hB216:=(hB2.ext hs26).step hs616 n234
 refine Qc<|x (Qr hB316 rfl rfl)<|xl rfl<|Qo (us:=[ve,vc,vr,vx,vk]) hB216 rfl rfl rfl rfl ⟨QF hE16,QF hC16.c,QF hR16.c,QF hX16.own,(hK16 [] (by simp)).arr.one,trivial⟩ λw17 hs17 hB217=>xe ?_
 have lo2:∀b∈[b2],b<w6.heap.size:=λb hb=>by rw[List.mem_singleton.1 hb];omega
 have lo2':∀b∈[b2],b<w2.heap.size:=λb hb=>by rw[List.mem_singleton.1 hb];omega
 have hE17:=Qj hE16 hs17 (λb hb hm=>by have:=(hge3 b hb).1;have:=lo2' b hm;omega)
 have hC17:=hC16.low hs17 lo2
 have hR17:=hR16.low hs17 (λb hb=>by have:=lo2 b hb;omega)
 have hX17:=hX16.low hs17 (λb hb=>by have:=lo2 b hb;omega)
 have hs017:Step [] w w17:=((hs02.trans hs26).then hs616 (λb hb=>.inr (by simp only[List.mem_cons,List.not_mem_nil,or_false] at hb;omega))).then1 hs17 (by omega)
 have hcon:∀q∈co,VN q.nm:=λq hq=>by
  obtain ⟨k,hk,rfl⟩:=List.getElem_of_mem hq
  rw[(hgd k hk).nm];exact Vl 99 k
 have hrqn:∀q∈rq,VN q.nm:=λq hq=>by
  obtain ⟨k,hk,rfl⟩:=List.getElem_of_mem hq
  rw[(hgr k hk).1.nm];exact Vl 114 k
 have hxnm:∀q∈qx,VN q.nm:=λq hq=>by
  obtain ⟨⟨k,_,k2⟩,_⟩:=hgx q hq
  rw[k2];exact Vl 101 k
 have hevn:∀e∈ev,VN e.nm:=λe he=>Qe9 _ e (by rw[hev];exact he)
 have hevl:ev.length=5:=by rw[←hev];exact JV _ _
 refine Qm ⟨[.agg [ve,vc,vr,vx,vk].toArray],⟨⟨_,rfl,QA rfl (hB217.at (L:=[]) (by simp)).cells⟩,trivial⟩,hs017,⟨ev,co.map IV.it,rq.map IV.it,qx.map XV.x,ks.map KV.k⟩,⟨⟨ve,vc,vr,vx,vk,ev,co,rq,qx,ks⟩,rfl,rfl,λL hL=>?_⟩,?_⟩
 ·have hL2:∀b∈L,b<w2.heap.size:=λb hb=>by have:=hL b hb;omega
  have hLn:b2∉L:=λhm=>by have:=hL b2 hm;omega
  have hL6:∀b∈b2::L,b<w6.heap.size:=λb hb=>by
   rcases List.mem_cons.1 hb with rfl | hb
   ·omega
   ·have:=hL b hb;omega
  refine ⟨⟨QS hE17 (by show ev.length≤_;omega) (λb hb hbL=>by have:=(hge3 b hb).1;have:=hL2 b hbL;omega),hevn⟩,hC17.itms (by omega) hcon (λb hb=>by have:=hL6 b (List.mem_cons_of_mem _ hb);omega),hR17.itms (by omega) hrqn (λb hb=>by have:=hL6 b (List.mem_cons_of_mem _ hb);omega),⟨QS hX17.own (by show qx.length≤_;omega) (λb hb hbL=>by have:=(Qk hX17.own b hb).1;have:=hL6 b (List.mem_cons_of_mem _ hbL);omega),λq hq=>?_,hxnm⟩,?_⟩
  ·exact hX17.each q hq _ (List.mem_singleton.2 rfl) L (λb hb=>.inl (by have:=hL6 b (List.mem_cons_of_mem _ hb);omega))
  ·exact ((hK16 (b2::L) hL6).st (hs17.mono (by simp))).up (λb hb=>.inl (List.mem_cons_of_mem _ hb))
 ·rw[←hev]
  exact Qi2 hfl (by omega) (by omega) hgd halm (by omega) hgr hxl hxn hgx hkl hgk
structure qd (base:Nat) (w:World) (vc va:Value) (co:List IV) (al:List J0):Prop where
 c:w.ownsRow base 66 5 vc co.length (co.flatMap Za)
 a:w.ownsRow base 87 5 va al.length (al.flatMap Zj)
 dj:Dj vc va
 each:∀q∈co,∀t∈Qct q,ZE base (ob vc++ob va) w.heap t.1 t.2.1 t.2.2.1 t.2.2.2
section
variable {base:Nat} {w w':World} {vc va vc' va':Value} {co:List IV} {al:List J0}
theorem qd.nil:qd base w (nS) (nS) [] []:=⟨QO _ _ _ _,QO _ _ _ _,Dj.nil _,λq hq=>by cases hq⟩
theorem qd.ext (h:qd base w vc va co al) (hs:Step [] w w'):qd base w' vc va co al:=⟨Qq h.c hs,Qq h.a hs,h.dj,λq hq t ht=>(h.each q hq t ht).ext hs⟩
theorem qd.low {X:LN}(h:qd base w vc va co al) (hs:Step X w w') (hX:∀b∈X,b<base):qd base w' vc va co al :=
 ⟨Qj h.c hs (λb hb hm=>by have:=(Qk h.c b hb).1;have:=hX b hm;omega),Qj h.a hs (λb hb hm=>by have:=(Qk h.a b hb).1;have:=hX b hm;omega),h.dj,λq hq t ht=>(h.each q hq t ht).low hs hX⟩
theorem qd.avlt (h:qd base w vc va co al):∀b∈ob vc++ob va,b<w.heap.size:=λb hb=>(List.mem_append.1 hb).elim (QQ h.c b) (QQ h.a b)
theorem qd.setC {q:IV}(h:qd base w vc va co al) (hq:∀t∈Qct q,ZE base (ob vc++ob va) w.heap t.1 t.2.1 t.2.2.1 t.2.2.2) (ho:w'.ownsRow base 66 5 vc' (co.length+1) (co.flatMap Za++Za q))
  (hs:Step (ob vc) w w') (hn:∀b∈ob vc',b∈ob vc∨w.heap.size≤b):qd base w' vc' va (co++[q]) al:=by
 have hs2:Step (ob vc++ob va) w w':=hs.mono (λb hb=>List.mem_append.2 (.inl hb))
 have hn2:∀b∈ob vc'++ob va,b∈ob vc++ob va∨w.heap.size≤b:=λb hb=>by
  rcases List.mem_append.1 hb with hb | hb
  ·exact (hn b hb).imp (λh=>List.mem_append.2 (.inl h)) id
  ·exact .inl (List.mem_append.2 (.inr hb))
 refine ⟨?_,Qj h.a hs (λb hb hbc=>h.dj b hbc hb),λb hb hba=>?_,λd hd t ht=>?_⟩
 ·rw[List.length_append,List.flatMap_append];simpa using ho
 ·rcases hn b hb with h1 | h1
  ·exact h.dj b h1 hba
  ·have:=QQ h.a b hba;omega
 ·rcases List.mem_append.1 hd with hd | hd
  ·exact (h.each d hd t ht).app hs2 hn2
  ·simp only[List.mem_singleton] at hd;subst hd
   exact (hq t ht).app hs2 hn2
theorem qd.setA {al':List J0}(h:qd base w vc va co al) (ho:w'.ownsRow base 87 5 va' al'.length (al'.flatMap Zj)) (hs:Step (ob va) w w') (hn:∀b∈ob va',b∈ob va∨w.heap.size≤b):qd base w' vc va' co al':=by
 have hs2:Step (ob vc++ob va) w w':=hs.mono (λb hb=>List.mem_append.2 (.inr hb))
 have hn2:∀b∈ob vc++ob va',b∈ob vc++ob va∨w.heap.size≤b:=λb hb=>by
  rcases List.mem_append.1 hb with hb | hb
  ·exact .inl (List.mem_append.2 (.inl hb))
  ·exact (hn b hb).imp (λh=>List.mem_append.2 (.inr h)) id
 refine ⟨Qj h.c hs (λb hb hba=>h.dj b hb hba),ho,λb hb hba=>?_,λd hd t ht=>(h.each d hd t ht).app hs2 hn2⟩
 rcases hn b hba with h1 | h1
 ·exact h.dj b hb h1
 ·have:=QQ h.c b hb;omega
theorem qd.itms {L:LN}(h:qd base w vc va co al) (hn:co.length≤1099511627776) (hm:∀q∈co,VN q.nm) (hL:∀b∈L,b<base):YZ L w.heap vc co :=
 ⟨QS h.c hn (λb hb hbL=>by have:=(Qk h.c b hb).1;have:=hL b hbL;omega),λq hq=>⟨h.each q hq (q.p.va,q.p.a.al.length,1,q.p.a.al.map (.int .i64)) (by simp) L (λb hb=>.inl (hL b hb)),h.each q hq (q.p.vm,q.p.a.mr.length,1,q.p.a.mr.map (.int .i64)) (by simp) L (λb hb=>.inl (hL b hb)),h.each q hq (q.p.ve,q.p.a.ed.length,3,q.p.a.ed.flatMap Qy) (by simp) L (λb hb=>.inl (hL b hb))⟩,hm⟩
end
def mzA (s f:Int):QT:=⟨[s,f],2,[0],[(0,s,1),(1,f,0)]⟩
set_option maxHeartbeats 1000000 in
theorem QaG (nm:ByteArray) (s f:Int) (w:World):QL prog 244 [.string nm,.int .i64 s,.int .i64 f] w λr w'=>Step [] w w'∧∃xa xm xe,r=.agg #[.string nm,xa,.int .i64 2,xm,xe]∧ZL [xa,xm,xe]∧∀L:LN,(∀b∈L,b<w.heap.size)→Zr L w'.heap xa xm xe (mzA s f):=by
 refine QL.of_W func244 rfl ntmps244 results244 (by simp) ?_
 refine Qc<|xl rfl<|Qu (us:=[.string .empty,nS,.int .i64 0,nS,nS]) rfl λb6 w1 hs1 hb6 hB6=>xe ?_
 have hl6:=hB6.lt
 refine Qc<|Qb<|Qb<|xl rfl<|QD (us:=[[.int .i64 s],[.int .i64 f]]) rfl rfl (by decide) (by simp) ⟨rfl,rfl,rfl,rfl,trivial⟩ λb10 w2 hs2 hb10 hB10=>xl rfl<|QD (us:=[[.int .i64 0]]) rfl rfl (by decide) (by simp) ⟨rfl,rfl,trivial⟩ λb11 w3 hs3 hb11 hB11 =>
  Qb<|x (QE ⟨rfl,rfl,rfl,trivial⟩)<|Qb<|x (QE ⟨rfl,rfl,rfl,trivial⟩)<|xl rfl<|QD (us:=[Qy (0,s,1),Qy (1,f,0)]) rfl rfl (by decide) (by exact (by decide:2*3≤1000000)) ⟨rfl,rfl,rfl,rfl,trivial⟩ λb16 w4 hs4 hb16 hB16=>?_
 have hs14:=(hs2.trans hs3).trans hs4
 have hs04:=hs1.trans hs14
 have hz1:=hs1.size
 have hz2:=hs2.size
 have hz3:=hs3.size
 have hz4:=hs4.size
 have hF:Xo w1.heap.size w4.heap (.agg #[.slice (some ⟨b10,0,none⟩) 2 2,.int .i64 2,.slice (some ⟨b11,0,none⟩) 1 1,.slice (some ⟨b16,0,none⟩) 2 2]) (mzA s f) :=
  q7 (a:=mzA s f) ((hB10.ext hs3).ext hs4) (hB11.ext hs4) hB16 (by omega) (by omega) (by omega) rfl rfl rfl (by decide) (by decide) (by decide)
 refine x (QE ⟨rfl,rfl,rfl,rfl,trivial⟩)<|xl rfl<|Qu (us:=Um) rfl λb7 w5 hs5 hb7 hB7=>xl rfl<|Qo (us:=[.slice (some ⟨b10,0,none⟩) 2 2,.int .i64 2,.slice (some ⟨b11,0,none⟩) 1 1,.slice (some ⟨b16,0,none⟩) 2 2]) hB7 rfl rfl rfl rfl ⟨rfl,rfl,rfl,rfl,trivial⟩ λw6 hs6 hB76=>xe ?_
 have hs46:Step [] w4 w6:=hs5.then1 hs6 hb7
 refine Qc<|Qb<|x (Qr hB76 rfl rfl)<|x (ZQ [(0,[.string nm]),(1,[.slice (some ⟨b10,0,none⟩) 2 2,.int .i64 2,.slice (some ⟨b11,0,none⟩) 1 1,.slice (some ⟨b16,0,none⟩) 2 2])] ⟨rfl,rfl,rfl,rfl,trivial⟩) <|
  xl rfl<|Qo (us:=[.string nm,.slice (some ⟨b10,0,none⟩) 2 2,.int .i64 2,.slice (some ⟨b11,0,none⟩) 1 1,.slice (some ⟨b16,0,none⟩) 2 2]) ((hB6.ext hs14).ext hs46) rfl rfl rfl rfl ⟨rfl,rfl,rfl,rfl,rfl,trivial⟩ λw7 hs7 hB67=>xe ?_
 obtain ⟨xa,xm,xe',hxe,hA⟩:=hF
 have hinj:=congrArg (λv=>match v with | Value.agg cs=>cs.toList | _=>[]) hxe
 simp only[List.cons.injEq,and_true] at hinj
 obtain ⟨rfl,_,rfl,rfl⟩:=hinj
 refine Qm ⟨[.agg [.string nm,.slice (some ⟨b10,0,none⟩) 2 2,.int .i64 2,.slice (some ⟨b11,0,none⟩) 1 1,.slice (some ⟨b16,0,none⟩) 2 2].toArray],⟨⟨_,rfl,QA rfl (hB67.at (L:=[]) (by simp)).cells⟩,trivial⟩,(hs04.trans hs46).then1 hs7 hb6,_,_,_,rfl,⟨rfl,rfl,rfl,trivial⟩,λL hL=>?_⟩
 have h1:=(hA (b6::L) (λb hb=>by
  rcases List.mem_cons.1 hb with rfl | hb
  ·exact hl6
  ·have:=hL b hb;omega)).ext hs46
 exact (h1.st (hs7.mono (by simp))).up (λb hb=>.inl (List.mem_cons_of_mem _ hb))
def nmZ (p:Array UInt8) (i:Nat):ByteArray:=⟨p⟩++⟨#[UInt8.ofNat (97+i)]⟩
abbrev QdT:Array UInt8:=#[115,116,97,114,116]
abbrev Qa2:Array UInt8:=#[102,105,110,105,115,104]
abbrev Xd:Array UInt8:=#[109,97,99,104,105,110,101]
def yG (i:Nat):List J0:=[⟨nmZ QdT i,true,true,false,0⟩,⟨nmZ Qa2 i,false,true,false,0⟩]
def mzE (c:Nat):List J0:=(List.range c).flatMap yG
def QjT (i:Nat):YC:=⟨nmZ Xd i,mzA (2*(i:Int)) (2*(i:Int)+1)⟩
def mzC (c:Nat):Zu:=⟨mzE c,(List.range c).map QjT,[],[],[]⟩
theorem Vk (p:Array UInt8) (i:Nat) (h:p.size≤10):VN (nmZ p i):=by
 show (ByteArray.mk _++ByteArray.mk _).size≤_
 rw[ByteArray.size_append]
 show p.size+1≤_
 omega
theorem Qiz (c:Nat):∀e∈mzE c,VN e.nm:=λe he=>by
 unfold mzE at he
 obtain ⟨i,_,hi⟩:=List.mem_flatMap.1 he
 simp only[yG,List.mem_cons,List.not_mem_nil,or_false] at hi
 rcases hi with rfl | rfl
 ·exact Vk _ _ (by decide)
 ·exact Vk _ _ (by decide)
theorem yH (c:Nat):mzE (c+1)=mzE c++yG c:=by unfold mzE;rw[List.range_succ,List.flatMap_append];simp
theorem Qbe:∀c,(mzE c).length=2*c
 | 0=>rfl
 | c+1=>by rw[yH,List.length_append,Qbe c];show 2*c+2=_;omega
theorem Qco (i:Nat):∀u∈(yG i).flatMap Zj,u.oneCell'=true:=λu hu=>by
 obtain ⟨e,_,he⟩:=List.mem_flatMap.1 hu
 exact y0 e u he
set_option maxHeartbeats 8000000 in
theorem XJ (c:Nat) (hc4:c≤4) (w:World):QL prog 196 [.int .i64 c] w λr w'=>Step [] w w'∧QfU w.heap.size w'.heap r (mzC c):=by
 refine QL.of_W func196 rfl ntmps196 results196 (by simp) ?_
 refine Qc<|xl rfl<|Qu (us:=ZW) rfl λb2 w1 hs1 hb2 hB2=>xe ?_
 refine Qc<|xl rfl<|Qu (us:=ZW) rfl λb3 w2 hs2 hb3 hB3=>xe ?_
 have hs02:=hs1.trans hs2
 have hz1:=hs1.size
 have hz2:=hs2.size
 have hl2:=hB2.lt
 have hl3:=hB3.lt
 have hB22:=hB2.ext hs2
 refine Qf<|Qc<|Qb<|Qb<|xe ?_
 refine Qg<|QC (α:=Nat×Value×List J0×Value×List IV) [(4,4),(6,42)] (λz=>[(6,.int .i64 z.1)])
  (λz w'=>z.1≤c∧Step [b3] w2 w'∧Q0 w'.heap b3 47 [z.2.1,z.2.2.2.1,Zb,Zb,Zb]∧qd w2.heap.size w' z.2.2.2.1 z.2.1 z.2.2.2.2 z.2.2.1∧z.2.2.1=mzE z.1∧z.2.2.2.2.map IV.it=(List.range z.1).map QjT∧∀q∈z.2.2.2.2,VN q.nm)
  (λz=>c - z.1) (by rfl) (0,Zb,[],Zb,[]) ⟨rfl,trivial⟩ ⟨Nat.zero_le _,Step.refl _ _,hB3,qd.nil,rfl,rfl,λq hq=>by cases hq⟩ ?_
 rintro ⟨i,ve,ev,vc,co⟩ g3 w3 ⟨hi,hs3,hB33,hM3,hev,hco,hnm⟩
 simp only[] at hi hB33 hM3 hev hco hnm
 have hz3:=hs3.size
 have hevl:ev.length=2*i:=by rw[hev];exact Qbe i
 have hcol:co.length=i:=by have:=congrArg List.length hco;simpa using this
 refine Qc<|x (QB rfl rfl)<|xe ?_
 refine Qf<|QH rfl (λh7=>?_) (λh7=>?_)
 ·refine Qz ?_
  have hie:i=c:=by have h8:¬(i:Int)<(c:Int):=h7;omega
  rw[hie] at hev hco
  have n23:b2∉[b3]:=by simp only[List.mem_singleton];omega
  have hB23:=hB22.step hs3 n23
  refine Qc<|x (Qr hB33 rfl rfl)<|xl rfl<|Qo (us:=[ve,vc,Zb,Zb,Zb]) hB23 rfl rfl rfl rfl ⟨QF hM3.a,QF hM3.c,rfl,rfl,rfl,trivial⟩ λw4 hs4 hB4=>xe ?_
  have lo2:∀b∈[b2],b<w2.heap.size:=λb hb=>by rw[List.mem_singleton.1 hb];omega
  have hM4:=hM3.low hs4 lo2
  refine Qm ⟨[.agg [ve,vc,Zb,Zb,Zb].toArray],⟨⟨_,rfl,QA rfl (hB4.at (L:=[]) (by simp)).cells⟩,trivial⟩,(hs02.then1 hs3 (by omega)).then1 hs4 (by omega),⟨ve,vc,Zb,Zb,Zb,ev,co,[],[],[]⟩,rfl,?_,λL hL=>?_⟩
  ·show (⟨ev,co.map IV.it,[],[],[]⟩:Zu)=mzC c
   rw[hev,hco];rfl
  ·have hL2:∀b∈L,b<w2.heap.size:=λb hb=>by have:=hL b hb;omega
   exact ⟨⟨QS hM4.a (by show ev.length≤_;omega) (λb hb hbL=>by have:=(Qk hM4.a b hb).1;have:=hL2 b hbL;omega),λe he=>Qiz c e (by rw[←hev];exact he)⟩,hM4.itms (by omega) hnm hL2,⟨Zo.nil _ _ 5,λq hq=>(by cases hq),λq hq=>(by cases hq)⟩,⟨Zo.nil _ _ 2,λq hq=>(by cases hq),λq hq=>(by cases hq)⟩,⟨Zo.nil _ _ 3,λq hq=>(by cases hq),λq hq=>(by cases hq)⟩⟩
 have hlt:i<c:=by have h8:(i:Int)<(c:Int):=h7;omega
 have hu:(97:Int)+(i:Int)=((97+i:Nat):Int):=by omega
 refine Qi<|Qf<|Qg<|Qc<|Qb<|Qe<|Qc<|x (Qa rfl)<|x (Qd hB33 rfl rfl)<|Qb<|x (Qx rfl rfl ⟨by omega,by omega⟩)<|x (ZI (k':=.i32) rfl ⟨by omega,by omega⟩)<|x (Vg (n:=97+i) (congrArg (Value.int .i32) hu) (by omega))<|x (Z4 (a:=⟨QdT⟩) (b:=⟨#[UInt8.ofNat (97+i)]⟩) rfl rfl (by show 5+1≤1000000000;omega))<|x (QE ⟨rfl,rfl,rfl,trivial⟩) <|
  Qb<|x (Qx rfl rfl ⟨by omega,by omega⟩)<|x (ZI (k':=.i32) rfl ⟨by omega,by omega⟩)<|x (Vg (n:=97+i) (congrArg (Value.int .i32) hu) (by omega))<|x (Z4 (a:=⟨Qa2⟩) (b:=⟨#[UInt8.ofNat (97+i)]⟩) rfl rfl (by show 6+1≤1000000000;omega))<|x (QE ⟨rfl,rfl,trivial⟩) <|
  xl rfl<|QD (us:=(yG i).map Zj) rfl rfl (by decide) (by exact (by decide:2*5≤1000000)) ⟨rfl,rfl,rfl,rfl,trivial⟩ λb23 w4 hs4 hb23 hB23=>?_
 have hz4:=hs4.size
 have hn3e:b3∉ob ve:=QN hM3.a hl3
 have hn3c:b3∉ob vc:=QN hM3.c hl3
 have hge:=Qk hM3.a
 have hgc:=Qk hM3.c
 refine xl rfl<|QY (m:=2) (news:=(yG i).flatMap Zj) (L:=[]) (Qq hM3.a hs4) rfl rfl rfl (hB23.at (by simp)) (Qco i) (by omega) (by omega) λve2 w5 ho5 hs5 hn5=>?_
 refine x (Qa rfl)<|xl rfl<|QG (j:=0) (u:=ve2) ((hB33.ext hs4).step hs5 hn3e) rfl rfl (by simp) (QF ho5) λw6 hs6 hB36=>xe ?_
 have hM5:qd w2.heap.size w5 vc ve2 co (ev++yG i):=(hM3.ext hs4).setA (by rw[List.length_append,List.flatMap_append];exact ho5) hs5 hn5
 have lo3:∀b∈[b3],b<w2.heap.size:=λb hb=>by rw[List.mem_singleton.1 hb];exact hl3
 have hM6:=hM5.low hs6 lo3
 have hs26:Step [b3] w2 w6:=((hs3.trans hs4.any).then hs5 (λb hb=>.inr (hge b hb).1)).trans' hs6
 have hz26:=hs26.size
 have hd6:Step [] w6 { w6 with drawn:=w6.drawn+1 }:=Step.drew _ _
 refine QU (Step (ob vc) w6) [(0,true),(1,true),(2,true),(3,true),(4,true),(5,true),(6,true),(7,true),(8,true),(9,true),(10,true),(11,true),(12,false),(13,false),(14,false),(15,true),(16,false)] mixed (by rfl) (by kernel_rfl) (Step.drew _ _) ?_
 refine p (λ_=>Qa rfl)<|pq (λ_ hc=>Qd (hB36.step hc hn3c) rfl rfl)<|p (λ_=>Qn)<|p (λ_=>Qx rfl rfl ⟨by omega,by omega⟩)<|p (λ_=>ZI (k':=.i32) rfl ⟨by omega,by omega⟩)<|p (λ_=>Vg (n:=97+i) (congrArg (Value.int .i32) hu) (by omega)) <|
  p (λ_=>Z4 (a:=⟨Xd⟩) (b:=⟨#[UInt8.ofNat (97+i)]⟩) rfl rfl (by show 7+1≤1000000000;omega))<|p (λ_=>Qn)<|p (λ_=>QdK rfl rfl ⟨by omega,by omega⟩)<|p (λ_=>Qn)<|p (λ_=>QdK rfl rfl ⟨by omega,by omega⟩)<|p (λ_=>Qx rfl rfl ⟨by omega,by omega⟩) <|
  pk<|xf<|(QaG (nmZ Xd i) (2*(i:Int)) (2*(i:Int)+1) _).mono ?_
 rintro r7 w7 ⟨hs7,xa,xm,xe',rfl,hone,hA⟩
 have hc7:=hd6.trans hs7
 refine ⟨hc7.any,?_⟩
 refine pk<|QD (us:=[Za ⟨nmZ Xd i,⟨xa,xm,xe',mzA (2*(i:Int)) (2*(i:Int)+1)⟩⟩]) rfl rfl (by decide) (show 1*5≤1000000 by omega) ⟨rfl,rfl,trivial⟩ λb39 w8 hs8 hb39 hB39=>⟨(hc7.trans hs8).any,?_⟩
 have hc8:=hc7.trans hs8
 have hM8:=hM6.ext hc8
 refine pk<|QY (news:=Za ⟨nmZ Xd i,⟨xa,xm,xe',mzA (2*(i:Int)) (2*(i:Int)+1)⟩⟩) (L:=[]) hM8.c rfl rfl rfl (hB39.at (by simp)) (zN hone.1 hone.2.1 hone.2.2.1) (by omega) (by have:=hc8.size;omega) λvc2 w9 ho9 hs9 hn9=>⟨(hc8.any (L:=ob vc)).trans' hs9,?_⟩
 have hM9:=hM8.setC (Ux (q:=⟨nmZ Xd i,⟨xa,xm,xe',mzA (2*(i:Int)) (2*(i:Int)+1)⟩⟩) (N:=w6.heap.size) (λL hL=>(hA L hL).ext hs8) (by omega) hM6.avlt) ho9 hs9 hn9
 refine p (λ_=>Qa rfl)<|pkl (hl:=by kernel_rfl)<|QG (j:=1) (u:=vc2) ((hB36.ext hc8).step hs9 hn3c) rfl rfl (by simp) (QF ho9) λw10 hs10 hB310=>pe ?_
 refine Qw<|x (Qx rfl rfl ⟨by omega,by omega⟩)<|Qb<|xe ?_
 refine ⟨(i+1,ve2,ev++yG i,vc2,co++[⟨nmZ Xd i,⟨xa,xm,xe',mzA (2*(i:Int)) (2*(i:Int)+1)⟩⟩]),by simp only[];omega,⟨rfl,trivial⟩,hlt,((hs26.trans hc8.any).then hs9 (λb hb=>.inr (hgc b hb).1)).trans' hs10,hB310,hM9.low hs10 lo3,?_,?_,λq hq=>?_⟩
 ·simp only[]
  rw[yH,hev]
 ·simp only[]
  rw[List.map_append,hco,List.range_succ,List.map_append];rfl
 ·rcases List.mem_append.1 hq with hq | hq
  ·exact hnm q hq
  ·rw[List.mem_singleton.1 hq];exact Vk _ _ (by decide)
end Go.Proofs.YtdffckgdcegpaaaGreatDoor
namespace Go.Lg
section
variable {P:Program} {f:Fr} {w:World} {d:Option Nat} {ty:Nat} {ps:String} {af:Array Edge} {gd:Option (Nat×Bool)}
abbrev i4 (p:Int×Int×Int×Int):LV:=[.int .i64 p.1,.int .i64 p.2.1,.int .i64 p.2.2.1,.int .i64 p.2.2.2]
class S4 (P:Program) (t:Nat):Prop where
 u:∃f0 f1 f2 f3,P.underlying t=some (.struct #[f0,f1,f2,f3])∧f0.name ≠ "_" ∧ f1.name ≠ "_" ∧ f2.name ≠ "_" ∧ f3.name ≠ "_" ∧ f0.offset=0∧f1.offset=1∧f2.offset=2∧f3.offset=3 ∧
  P.underlying f0.type=some (.int .i64)∧P.underlying f1.type=some (.int .i64)∧P.underlying f2.type=some (.int .i64)∧P.underlying f3.type=some (.int .i64)
 s:P.stoodInHeld t=false
 g:P.eqGuardType P.depth t=false
theorem zk {t:Nat}[h:S4 P t] (w:World) (p:Int×Int×Int×Int):(Op.equal t (.agg (i4 p).toArray) (.agg (i4 p).toArray)).run P w=.ok true w:=by
 obtain ⟨a,b,c,e⟩:=p
 obtain ⟨f0,f1,f2,f3,hu,n0,n1,n2,n3,o0,o1,o2,o3,u0,u1,u2,u3⟩:=h.u
 have hag:∀e w,P.underlying e=some (.int .i64)→(isAgg e).run P w=.ok false w:=λe w he=>by simp[isAgg,run_underlying he]
 have hp:∀e (x y z u:Int) (w:World),P.underlying e=some (.int .i64)→(part e #[.int .i64 x,.int .i64 y,.int .i64 z,.int .i64 u] 0).run P w=.ok (.int .i64 x) w:=λe x y z u w he=>by simp[part,hag e w he]
 have hp1:∀e (x y z u:Int) (w:World),P.underlying e=some (.int .i64)→(part e #[.int .i64 x,.int .i64 y,.int .i64 z,.int .i64 u] 1).run P w=.ok (.int .i64 y) w:=λe x y z u w he=>by simp[part,hag e w he]
 have hp2:∀e (x y z u:Int) (w:World),P.underlying e=some (.int .i64)→(part e #[.int .i64 x,.int .i64 y,.int .i64 z,.int .i64 u] 2).run P w=.ok (.int .i64 z) w:=λe x y z u w he=>by simp[part,hag e w he]
 have hp3:∀e (x y z u:Int) (w:World),P.underlying e=some (.int .i64)→(part e #[.int .i64 x,.int .i64 y,.int .i64 z,.int .i64 u] 3).run P w=.ok (.int .i64 u) w:=λe x y z u w he=>by simp[part,hag e w he]
 have heq:∀e (m:Nat) (x y:Int) (w:World),P.underlying e=some (.int .i64)→(Op.equalIn (m+1) e (.int .i64 x) (.int .i64 y)).run P w=.ok (x == y) w:=λe m x y w he=>by simp[Op.equalIn,run_underlying he]
 have key:∀m,(Op.equalIn (m+2) t (.agg (i4 (a,b,c,e)).toArray) (.agg (i4 (a,b,c,e)).toArray)).run P w=.ok true w:=by
  intro m
  simp only[i4]
  unfold Op.equalIn
  simp only[Sem.run_bind,run_underlying hu,Result.andThen_ok]
  simp[h.s,n0,n1,n2,n3,o0,o1,o2,o3,hp _ _ _ _ _ _ u0,hp1 _ _ _ _ _ _ u1,hp2 _ _ _ _ _ _ u2,hp3 _ _ _ _ _ _ u3,heq _ _ _ _ _ u0,heq _ _ _ _ _ u1,heq _ _ _ _ _ u2,heq _ _ _ _ _ u3]
 exact key 9998
theorem QdJ {t t':Nat}[h:S4 P t] {x y:Operand}{p:Int×Int×Int×Int}(hx:ev f x=.agg (i4 p).toArray) (hy:ev f y=.agg (i4 p).toArray) :
  (execOp (ev f) ⟨d,.binOp .neq t x y t',ty,ps,af,gd⟩).run P w=.ok (.value (.bool false)) w:=by
 have hg:(eqGuard .neq t x y (.agg (i4 p).toArray) (.agg (i4 p).toArray)).run P w=.ok () w:=by simp[eqGuard,h.g]
 simp only[execOp,hx,hy,Sem.run_bind,hg,Result.andThen_ok,binOp,zk,Sem.run_pure]
 rfl
end
end Go.Lg
namespace Go.Proofs.YtdffckgdcegpaaaGreatDoor
open Go.Proofs.Tryz
open Go.Lg
instance s4Rsn:S4 prog 83:=⟨⟨_,_,_,_,underlying83,by decide,by decide,by decide,by decide,rfl,rfl,rfl,rfl,underlying3,underlying3,underlying3,underlying3⟩,by kernel_rfl,by kernel_rfl⟩
theorem Vp {L L':LN}{w:World}{v v':Value}{l:List Rsn}(h:Zo L w.heap v l.length 4 (l.flatMap Zw)) (h':Zo L' w.heap v' l.length 4 (l.flatMap Zw)) :
  QL prog 198 [v,v'] w λr w'=>r=.bool true∧Step [] w w':=by
 have hle:=h.le
 refine QL.of_W func198 rfl ntmps198 results198 (by simp) ?_
 refine Qc<|Qe<|Qf<|Qc<|Qb<|x (Qs h rfl)<|Qb<|x (Qs h' rfl)<|x (Q9 rfl rfl)<|xe ?_
 refine Q6 rfl (λh10=>absurd rfl h10) (λh10=>?_)
 refine Qi<|Qf<|Qc<|Qb<|x (Qs h rfl)<|Qb<|xe ?_
 refine Qg<|QC (α:=Nat) [(4,5),(13,25)] (λk=>[(13,.int .i64 k)]) (λk w'=>Step [] w w'∧k≤l.length) (λk=>l.length - k) (by rfl) 0 ⟨rfl,trivial⟩ ⟨Step.refl _ _,Nat.zero_le _⟩ ?_
 rintro k g w1 ⟨hs,hk⟩
 replace h:=h.ext hs
 replace h':=h'.ext hs
 refine Qc<|x (QB rfl rfl)<|xe ?_
 refine Qf<|QH rfl (λh14=>?_) (λh14=>?_)
 ·refine Qz ?_
  refine Qc<|Qe ?_
  exact Qm ⟨[.bool true],⟨rfl,trivial⟩,rfl,hs⟩
 have hlt:k<l.length:=by omega
 refine Qi<|Qf<|Qg<|Qc<|Qb<|Qe<|Qf<|QU (Step [] w1) [(0,true),(1,true),(2,true),(3,true),(4,true),(5,true),(6,true),(7,true),(8,true)] mixed (by rfl) (by kernel_rfl) (Step.drew _ _) ?_
 refine p (λ_=>Qn)<|p (λ_=>Qn)<|Lg.pig (g:=Zw) (i:=k) rfl QdA h rfl rfl hlt λa18 h18=>pq (λ_ hc=>QJ (h18.ext hc) rfl rfl) <|
  p (λ_=>Qn)<|p (λ_=>Qn)<|Lg.pig (g:=Zw) (i:=k) rfl QdA h' rfl rfl hlt λa22 h22=>pq (λ_ hc=>QJ (h22.ext hc) rfl rfl)<|p (λ_=>QdJ (p:=((l[k]'hlt).st,(l[k]'hlt).kd,(l[k]'hlt).ix,(l[k]'hlt).ev)) rfl rfl)<|pe ?_
 have hs':=hs.trans (Step.drew [] w1)
 refine Ye rfl ?_
 refine Qi<|Qw<|x (Qx rfl rfl ⟨by omega,by omega⟩)<|Qb<|xe ?_
 exact ⟨k+1,by omega,⟨rfl,trivial⟩,hs',by omega⟩
def KI:ByteArray:=⟨#[110,101,118,101,114]⟩
def Jz:ByteArray:=⟨#[98,111,116,104]⟩
def zy:ByteArray:=⟨#[109,111,115,116]⟩
def zO:YC:=⟨KI,⟨[1],1,[0],[]⟩⟩
def Qe5 (i j:Int):yf:=⟨Jz,[(i,1),(j,1)]⟩
def Qi5:Xb:=⟨zy,[(0,1),(1,1)],1⟩
def k1C:Zu:={ mzC 1 with rq:=[zO] }
def k2C:Zu:={ mzC 2 with ex:=[Qe5 0 1] }
def k3C:Zu:={ mzC 2 with cs:=[Qi5] }
theorem Qj1:Yv k1C=0:=by kernel_rfl
theorem Qj0:(spc k1C).fb=[⟨1,3,0,1⟩]:=by kernel_rfl
theorem QhR:(spc k1C).a.st=2:=by kernel_rfl
theorem QiD:QbG k1C=true:=by kernel_rfl
theorem QiE:cmB k1C=[2]:=by kernel_rfl
theorem QkS:Yv k2C=0:=by kernel_rfl
theorem QjY:(spc k2C).fb=[⟨3,1,0,-1⟩]:=by kernel_rfl
theorem QjX:(spc k2C).a.st=4:=by kernel_rfl
theorem QkR:Yv k3C=0:=by kernel_rfl
theorem QjW:(spc k3C).fb=[⟨3,2,0,-1⟩]:=by kernel_rfl
theorem QbX {w:World}{v:Value}(hv:v.cells=[v].toArray):QL prog 281 [v] w λr w'=>Step [] w w'∧∃b,r=.func (.func 307) #[] #[.pointer (some ⟨b,0,none⟩)]∧w.heap.size≤b∧Q0 w'.heap b 37 [v]:=by
 refine QL.of_W func281 rfl ntmps281 results281 (by simp) ?_
 refine Qc<|xl rfl<|QR (us:=[v]) hv λb1 w1 hs1 hb1 hB1=>Qe<|Qc<|x Zl<|Qe ?_
 exact Qm ⟨[_],⟨rfl,trivial⟩,hs1,b1,rfl,hb1,hB1⟩
theorem yi {L:LN}{w:World}{b1 m:Nat}{v:Value}{es:LI}(hB1:Q0 w.heap b1 37 [v]) (hE:QM L w.heap v es) :
  SeqStopsK (fen none) m prog 307 [.pointer (some ⟨b1,0,none⟩)].toArray (λx:Int=>#[.int .i64 x]) (Lw w.heap.size L) (λys=>ys=es) (λ_=>True) (es.length+1) w:=by
 intro l J Jx W hbel hJ hJx hY h0
 have hwW:Step [] w W:=Step.of_below hbel
 have hle:=hE.le
 have ab:∀{ys:LI} {W1 W2:World},J ys W1→Step [] W1 W2→J ys W2:=λ{ys W1 W2} hj hst=>hJ ys W1 W2 none hj ⟨hst.os,hst.tape,hst.output,hst.size,λk hk _=>hst.block k hk (by simp)⟩ (λr e=>by cases e)
 have key:QL prog 307 [.func (.yield l) #[] #[],.pointer (some ⟨b1,0,none⟩)] W (λ_ W'=>(∃ys,ys=es∧J ys W')∨(∃pre,True∧Jx pre W')):=by
  refine QL.of_G m func307 rfl ntmps307 results307 (by simp) ?_
  have hB1':=hB1.ext hwW
  refine QZ<|QK (by rfl) (by rfl) ?_
  refine x (Qd hB1' rfl rfl)<|x (Qs (hE.ext hwW) rfl)<|Qb<|xe ?_
  refine Zz<|VA (α:=Nat) [(4,4),(7,15)] (λk=>[(7,.int .i64 k)]) (λk ds W'=>ds=[]∧k≤es.length∧Step L w W'∧J (es.take k) W') (λk=>es.length - k) (by rfl) 0 ⟨rfl,trivial⟩
   ⟨rfl,Nat.zero_le _,hwW.any,h0⟩ ?_
  rintro k g ds w1 ⟨rfl,hk,hs1,hJ1⟩
  refine QZ<|QK (by rfl) (by rfl) ?_
  refine x (QB rfl rfl)<|xe ?_
  refine QZ<|q6 rfl (λh8=>?_) (λh8=>?_)
  ·refine JP ?_
   have hke:es.length≤k:=by have h9:¬(k:Int)<(es.length:Int):=h8;omega
   rw[List.take_of_length_le hke] at hJ1
   exact ⟨λ_ h=>(by cases h),List.nodup_nil,[],λW' hW'=>⟨trivial,.inl ⟨es,rfl,ab hJ1 hW'⟩⟩⟩
  refine Z7 ?_
  have hlt:k<es.length:=by have h9:(k:Int)<(es.length:Int):=h8;omega
  have htk:es.take (k+1)=es.take k++[es[k]'hlt]:=List.take_succ_eq_append_getElem hlt
  have htl:(es.take k).length=k:=by rw[List.length_take];omega
  refine QZ<|Zz<|QZ<|QK (by rfl) (by rfl) ?_
  refine xii (i:=k) (hE.st hs1) rfl rfl hlt λa9 h9=>x (Qv h9 rfl)<|Qe<|QZ<|JY (by rfl) ?_
  refine Xr.pre2 ?_
  refine Qb<|Qb<|xe ?_
  refine xy (l:=l) rfl (hY (es.take k) (es[k]'hlt) w1 hJ1 (by omega)) λen W3 hen=>Or.elim hen (λh1=>⟨.bool true,h1.1,?_⟩) (λh1=>⟨.bool false,h1.1,?_⟩)
  ·refine Xr.of_XL<|x (Zp rfl)<|xe ?_
   refine JZ rfl<|Z7 ?_
   refine QK (by rfl) (by rfl) ?_
   refine x (Qx rfl rfl ⟨by omega,by omega⟩)<|Qb<|xe ?_
   exact ⟨k+1,by omega,⟨rfl,trivial⟩,rfl,hlt,hs1.lw h1.2.2,by rw[htk];exact h1.2.1⟩
  ·refine Xr.of_XL<|x (Zp rfl)<|xe ?_
   refine z7 rfl ?_
   refine JO ⟨λ_ h=>(by cases h),List.nodup_nil,[],λW' hW'=>⟨trivial,.inr ⟨es.take k++[es[k]'hlt],trivial,?_⟩⟩⟩
   exact hJx _ W3 W' none h1.2 ⟨hW'.os,hW'.tape,hW'.output,hW'.size,λk hk _=>hW'.block k hk (by simp)⟩ (λr e=>by cases e)
 refine (callsIn_wide (n:=m)).2 ?_
 have ea:(#[.func (.yield l) #[] #[]]++[.pointer (some ⟨b1,0,none⟩)].toArray:Array Value)=[.func (.yield l) #[] #[],.pointer (some ⟨b1,0,none⟩)].toArray:=by simp
 rw[ea]
 unfold QL at key
 refine Calls.mono key λe w' he=>?_
 cases e with
 | returned v=>exact ⟨⟨v,rfl⟩,he⟩
 | panicked c=>exact he.elim
 | outgrown=>exact he.elim
set_option maxHeartbeats 1000000 in
theorem QcQ {w:World}{b1:Nat}{v:Value}{es:LI}(hB1:Q0 w.heap b1 37 [v]) (hE:QM [] w.heap v es) (hl:es.length≤1000) :
  QL prog 319 [Zb,.func (.func 307) #[] #[.pointer (some ⟨b1,0,none⟩)]] w λr w'=>Step [] w w'∧Qt 3 w.heap.size w' r es:=by
 refine QL.of_G 20 func319 rfl ntmps319 results319 (by simp) ?_
 refine QZ<|QK (by rfl) (by rfl) ?_
 refine xl rfl<|QR (us:=[Zb]) rfl λb2 w1 hs1 hb2 hB2=>Qe ?_
 have hz1:=hs1.size
 have hl2:=hB2.lt
 refine QZ<|QZ<|QK (by rfl) (by rfl) ?_
 refine Qb<|xe ?_
 refine Zz<|QhG (α:=Int) [b2] (by omega) (capt:=[.pointer (some ⟨b1,0,none⟩)]) rfl (enc:=λx=>.int .i64 x) (by decide)
  (yi (hB1.ext hs1) ((hE.up (L':=[b2]) (λb hb=>.inr (by rw[List.mem_singleton.1 hb];exact hb2))).ext hs1))
  (λpre W=>∃vo,Step [b2] w1 W∧Q0 W.heap b2 37 [vo]∧Qt 3 w1.heap.size W vo pre)
  (λpre=>ZT.ex λvo=>(ZT.step (Nat.le_refl _)).and (ZT.blk.and ZT.row))
  ⟨Zb,Step.refl _ _,hB2,QO _ _ _ _⟩
  (λf x f' W=>f'=upd (upd f 7 (.int .i64 x)) 5 (.int .i64 x)) (λx f'=>ZT.pure _) ?_ ?_ ?_
 ·rintro l pre e W ⟨vo,hst,hBo,hO⟩
  refine QK (by rfl) (by rfl) ?_
  refine Qe ?_
  exact ⟨rfl,Ji.refl _ _ _,⟨vo,hst,hBo,hO⟩,rfl⟩
 ·rintro l pre e f' W ⟨vo,hst,hBo,hO⟩ rfl hN
  have hn2:b2∉ob vo:=QN hO (by omega)
  have hge:=Qk hO
  have hzW:=hst.size
  refine Zz<|QK (by rfl) (by rfl) ?_
  refine x (Qd hBo rfl rfl)<|Qb<|xl rfl<|QD (us:=[[.int .i64 e]]) rfl rfl (by decide) (by simp) ⟨rfl,rfl,trivial⟩ λb10 w2 hs2 hb10 hB10=>?_
  refine xl rfl<|QY (m:=1) (news:=[.int .i64 e]) (Qq hO hs2) rfl rfl rfl (hB10.at (L:=[]) (by simp)) (by simp[Value.oneCell']) (by omega) (by have:=hs2.size;omega) λv3 w3 ho3 hs3 hn3=>?_
  refine xl rfl<|QG (u:=v3) ((hBo.ext hs2).step hs3 hn2) rfl rfl (by simp) (QF ho3) λw4 hs4 hB4=>xe ?_
  have hz2:=hs2.size
  have hcell:=Q3 (Qq hO hs2)
  have hlt3:=QQ hO
  refine ⟨((Ji.ext hs2 hzW).trans (Ji.step hs3 (by omega) (λb hb=>⟨.inr (hge b hb).1,Go.Lg.Q3 (Qq hO hs2) b hb⟩))).trans (Ji.blk hs4 (by have:=hs3.size;omega) ((hBo.ext hs2).step hs3 hn2) (.inl List.mem_cons_self)),v3,((hst.trans hs2.any).then hs3 (λb hb=>.inr (hge b hb).1)).trans' hs4,hB4,?_⟩
  have h9:=Qj ho3 hs4 (λb hb=>by have:=(Qk ho3 b hb).1;simp only[List.mem_singleton];omega)
  exact Qt.snoc h9
 ·rintro D xs W hD rfl ⟨vo,hst,hBo,hO⟩ hdD
  refine QZ<|QK (by rfl) (by rfl) ?_
  refine x (Qd hBo rfl rfl)<|Qe<|JO ⟨λD' hD'=>by rw[List.mem_singleton.1 hD'];exact hdD,List.pairwise_singleton _ _,[vo],λW' hW'=>⟨⟨rfl,trivial⟩,(hs1.then1 hst hb2).then hW' (λb hb=>.inr (by rw[List.mem_singleton.1 hb];omega)),?_⟩⟩
  refine Zi (Qj hO hW' (λb hb hm=>?_)) (by omega)
  rw[List.mem_singleton.1 hm] at hb
  obtain ⟨o,h1,h2⟩:=Go.Lg.Q3 hO _ hb
  rw[hdD] at h1
  cases h1
  cases h2
theorem Qar {w:World}{b1:Nat}{v:Value}{es:LI}(hB1:Q0 w.heap b1 37 [v]) (hE:QM [] w.heap v es) (hl:es.length≤1000) :
  QL prog 306 [.func (.func 307) #[] #[.pointer (some ⟨b1,0,none⟩)]] w λr w'=>Step [] w w'∧Qt 3 w.heap.size w' r es:=by
 refine QL.of_W func306 rfl ntmps306 results306 (by simp) ?_
 refine Qc<|Qe<|Qc<|Qb<|xl rfl<|xf<|(QcQ hB1 hE hl).mono ?_
 rintro v1 w1 ⟨hs1,ho1⟩
 refine Qe ?_
 exact Qm ⟨[v1],⟨rfl,trivial⟩,hs1,ho1⟩
theorem Qb5 {w:World}{b1:Nat}{v:Value}{es:LI}(hB1:Q0 w.heap b1 37 [v]) (hE:QM [] w.heap v es) (hl:es.length≤1000) :
  QL prog 280 [.func (.func 307) #[] #[.pointer (some ⟨b1,0,none⟩)]] w λr w'=>Step [] w w'∧Qt 3 w.heap.size w' r (es.mergeSort λx y=>decide (x≤y)):=by
 refine QL.of_W func280 rfl ntmps280 results280 (by simp) ?_
 refine Qc<|Qe<|Qc<|Qb<|xl rfl<|xf<|(Qar hB1 hE hl).mono ?_
 rintro v1 w1 ⟨hs1,ho1⟩
 refine Qe<|Qc<|Qb<|xl rfl<|xf<|(qt ho1 (by omega)).mono ?_
 rintro r2 w2 ⟨hs2,ho2⟩
 refine xe ?_
 refine Qc<|Qb<|Qe ?_
 exact Qm ⟨[v1],⟨rfl,trivial⟩,hs1.then hs2 (λb hb=>.inr (Qk ho1 b hb).1),ho2⟩
theorem QeI:∀{l:LI}{k:Nat}(h:k<l.length) {n:Int},l[k]'h=n→n∉l.take k→l.idxOf n=k
 | [],_,h,_,_,_=>by simp at h
 | a::l,0,_,n,e,_=>by
  have e2:a=n:=e
  rw[e2,List.idxOf_cons_self]
 | a::l,k+1,h,n,e,hn=>by
  have hne:a≠n:=λe2=>hn (by rw[List.take_succ_cons,e2];exact List.mem_cons_self)
  rw[List.idxOf_cons,show (a == n)=false by simpa using hne]
  show List.idxOf n l+1=k+1
  have:=QeI (l:=l) (k:=k) (by simpa using h) (by simpa using e) (λhm=>hn (by rw[List.take_succ_cons];exact List.mem_cons_of_mem _ hm))
  omega
theorem QiP {L:LN}{w:World}{v:Value}{l:LI}(h:QM L w.heap v l) {n:Int}(hn:n∈l) :
  QL prog 132 [v,.int .i64 n] w λr w'=>w'=w∧r=.int .i64 (l.idxOf n:Nat):=by
 have hle:=h.le
 refine QL.of_W func132 rfl ntmps132 results132 (by simp) ?_
 refine Qc<|Qe<|Qf<|Qc<|Qb<|x (Qs h rfl)<|Qb<|xe ?_
 refine Qg<|QC (α:=Nat) [(4,5),(8,18)] (λk=>[(8,.int .i64 k)]) (λk w'=>w'=w∧k≤l.length∧n∉l.take k) (λk=>l.length - k) (by rfl) 0 ⟨rfl,trivial⟩ ⟨rfl,Nat.zero_le _,by simp⟩ ?_
 rintro k g w1 ⟨rfl,hk,hm⟩
 refine Qc<|x (QB rfl rfl)<|xe ?_
 refine Qf<|QH rfl (λh9=>?_) (λh9=>?_)
 ·exfalso
  rw[List.take_of_length_le (by omega)] at hm
  exact hm hn
 have hlt:k<l.length:=by omega
 refine Qi<|Qf<|Qg<|Qc<|Qb<|Qe<|Qc<|Qb<|Qb<|Qb<|xii h rfl rfl hlt λa14 h14=>x (Qv h14 rfl)<|x (Q5 rfl rfl)<|xe ?_
 refine Q6 rfl (λh16=>?_) (λh16=>?_)
 ·refine Qc<|Qb<|Qe ?_
  exact Qm ⟨[.int .i64 k],⟨rfl,trivial⟩,rfl,congrArg (λm:Nat=>Value.int .i64 m) (QeI hlt (Eq.symm h16) hm).symm⟩
 refine Qi<|Qw<|x (Qx rfl rfl ⟨by omega,by omega⟩)<|Qb<|xe ?_
 refine ⟨k+1,by omega,⟨rfl,trivial⟩,rfl,by omega,?_⟩
 rw[List.take_succ_eq_append_getElem hlt,List.mem_append,List.mem_singleton]
 exact λh=>h.elim hm h16
def jW (a:QT) (to:LI):List Ed:=a.ed.map λe=>(e.1,cget to (a.al.idxOf e.2.1),e.2.2)
set_option maxHeartbeats 8000000 in
theorem QaD {w:World}{va vm ve vt:Value}{a:QT}{to sa:LI}{se:List Ed}(h:Zr [] w.heap va vm ve a) (hck:Jd a=0) (ho:Zm a) (ht:QM [] w.heap vt to) (htl:to.length=a.al.length) (htb:∀e∈to,0≤e∧e<32) (htn:to.Nodup)
  (hsa:to.mergeSort (λx y=>decide (x≤y))=sa) (hse:∀l',l'.Perm (jW a to)→l'.Pairwise jc→l'=se) (hok:Zm ⟨sa,a.st,a.mr,se⟩) :
  QL prog 250 [.agg #[va,.int .i64 a.st,vm,ve],vt] w λr w'=>Step [] w w'∧∃v,r=.tuple #[v,.int .i64 0]∧Xo w.heap.size w'.heap v (Jq ⟨sa,a.st,a.mr,se⟩):=by
 have hst0:=ho.st0
 have hst1:=ho.st1
 have hall:=ho.al_le
 refine QL.of_W func250 rfl ntmps250 results250 (by simp) ?_
 refine Qc<|xl rfl<|QR (us:=[va,.int .i64 a.st,vm,ve]) rfl λb2 w1 hs1 hb2 hB2=>xl rfl<|Qu (us:=Um) rfl λb4 w2 hs2 hb4 hB4=>Qe ?_
 have hs02:=hs1.trans hs2
 have hz1:=hs1.size
 have hz2:=hs2.size
 have hl4:=hB4.lt
 have hB22:=hB2.ext hs2
 refine Qf<|Qc<|x (Qr hB22 rfl rfl)<|xl rfl<|xf<|(Xl (h.ext hs02)).mono ?_
 rintro r3 w3 ⟨hr3,hs3⟩
 rw[hck] at hr3
 subst hr3
 have hs03:=hs02.trans hs3
 have hz3:=hs3.size
 have hB23:=hB22.ext hs3
 have hB43:=hB4.ext hs3
 refine Qe<|Qc<|Qb<|x (Q9 rfl rfl)<|xe ?_
 refine Ye rfl ?_
 refine Qi ?_
 have hA3:=h.ext hs03
 have hT3:=ht.ext hs03
 refine Qf<|Qc<|Qb<|x (Qs hT3 rfl)<|x (Qa rfl)<|x (Qd hB23 rfl rfl)<|x (Qs hA3.al rfl)<|x (Q9 rfl rfl)<|xe ?_
 refine Q6 rfl (λh23=>absurd (congrArg (λm:Nat=>(m:Int)) htl) h23) (λh23=>?_)
 refine Qi<|QV (α:=Unit) [(5,5),(7,8),(25,47)] (λ_=>[]) (λ_ w'=>w'=w3) (by rfl) ?_ ?_
 ·refine Qc<|Qb<|x (Qs hT3 rfl)<|Qb<|xe ?_
  refine Qg<|QC (α:=Nat) [(5,5),(7,8),(27,47)] (λk=>[(27,.int .i64 k)]) (λk w'=>w'=w3∧k≤to.length) (λk=>to.length - k) (by rfl) 0 ⟨rfl,trivial⟩ ⟨rfl,Nat.zero_le _⟩ ?_
  rintro k g w' ⟨rfl,hk⟩
  refine Qc<|x (QB rfl rfl)<|xe ?_
  refine Qf<|QH rfl (λh28=>?_) (λh28=>?_)
  ·refine Qz ?_
   exact ⟨(),trivial,rfl⟩
  have hlt:k<to.length:=by have h29:(k:Int)<(to.length:Int):=h28;omega
  have hbk:=htb _ (List.getElem_mem hlt)
  have hnk:(to[k]'hlt)∉to.take k:=λhm=>by
   obtain ⟨j,hj,hje⟩:=List.getElem_of_mem hm
   rw[List.getElem_take] at hje
   have hjk:j<k:=by rw[List.length_take] at hj;omega
   have:=(List.pairwise_iff_getElem.1 htn) j k (by omega) hlt hjk
   exact this hje
  refine Q8 (to[k]'hlt) λe he=>?_
  rw[he] at hbk hnk
  refine Qi<|Qf<|Qg<|Qc<|Qb<|xii hT3 rfl rfl hlt λa30 h30=>?_
  rw[he] at h30
  refine x (Qv h30 rfl)<|x Qh<|Qe<|Qg<|Qc<|Qb<|xb (QB rfl rfl) (λh34=>absurd (show e<0 from h34) (by omega)) (λh34=>?_)
  refine Qb<|Qb<|x (ZN rfl rfl)<|x (Ql rfl)<|Qe<|Q6 rfl (λh32=>absurd (show e≥32 from h32) (by omega)) (λh32=>?_)
  refine Qc<|Qb<|Qb<|Qh1 hT3 rfl rfl (by omega) λv43 hA43=>?_
  have hI43:QM [] w'.heap v43 (to.take k):=by
   unfold QM
   have hl43:(to.take k).length=k:=by rw[List.length_take];omega
   rw[hl43,List.map_take]
   simpa using hA43
  refine Qb<|xl rfl<|xf<|(ZG hI43 e).mono ?_
  rintro r45 w' ⟨rfl,rfl⟩
  refine Qe<|Q6 rfl (λh40=>absurd h40 hnk) (λh40=>?_)
  refine Qi<|Qw<|x (Qx rfl rfl ⟨by omega,by omega⟩)<|Qb<|xe ?_
  exact ⟨k+1,by omega,⟨rfl,trivial⟩,rfl,hlt⟩
 rintro ⟨⟩ g w' rfl
 have hd3:Step [] w' { w' with drawn:=w'.drawn+1 }:=Step.drew _ _
 refine QV (α:=Nat×Value) [(9,9),(48,55)] (λz=>[(9,.pointer (some ⟨z.1,0,none⟩))]) (λz w5=>Step [] w' w5∧w'.heap.size≤z.1∧Q0 w5.heap z.1 58 [z.2,.int .i64 a.st,vm,nS]∧z.2.oneCell'=true∧∀L:LN,(∀b∈L,b<w'.heap.size∨b=z.1)→QM L w5.heap z.2 sa) (by rfl) ?_ ?_
 ·refine qX (α:=Value) (Step [] w') [(0,true),(3,true),(4,true),(5,true),(6,true)] [(1,false),(2,false),(7,true)] 8 9 [(9,false)] [] [(48,55)] [(49,50),(55,55)] (λz=>[(55,.agg [z,.int .i64 a.st,vm,nS].toArray)])
   (λz own w5=>(∀b∈own,w'.heap.size≤b)∧z.oneCell'=true∧∀L:LN,(∀b∈L,b∉own)→QM L w5.heap z sa)
   (λv w5=>∃b,v=.pointer (some ⟨b,0,none⟩)∧w'.heap.size≤b∧Q0 w5.heap b 58 Um) mixed (by rfl) (by kernel_rfl) (by rfl) rfl hd3 (by simp) ?_ ?_ ?_ ?_
  ·rintro v own wa wb ⟨b,rfl,hb,hB⟩ hs hn
   exact ⟨b,rfl,hb,hB.step hs (hn b (by simp[ow]))⟩
  ·rintro z own wa wb ⟨h1,h2,h3⟩ hs
   exact ⟨h1,h2,λL hL=>(h3 L hL).ext hs⟩
  ·rintro z g own wz v ⟨i1,i2,i3⟩ hCz ⟨b9,rfl,hb9,hB9⟩ hbo
   have hb9o:=(hbo b9 (by simp[ow])).1
   refine pkl (hl:=by kernel_rfl)<|Qo (us:=[z,.int .i64 a.st,vm,nS]) hB9 rfl rfl rfl rfl ⟨i2,rfl,hA3.mr.one,rfl,trivial⟩ λw5 hs5 hB95=>pe ?_
   refine ⟨(b9,z),⟨rfl,trivial⟩,hCz.then1 hs5 hb9,hb9,hB95,i2,λL hL=>?_⟩
   have h1:=i3 (b9::L) (λb hb=>by
    rcases List.mem_cons.1 hb with rfl | hb
    ·exact hb9o
    ·rcases hL b hb with h2 | h2
     ·exact λh3=>by have:=i1 b h3;omega
     ·subst h2;exact hb9o)
   exact (h1.st (hs5.mono (by simp))).up (λb hb=>.inl (by simp[hb]))
  refine Go.Lg.p (λ_=>Qn)<|Go.Lg.p (λ_=>Qa rfl)<|pq (λ_ hc=>Qd (hB23.ext hc) rfl rfl)<|Go.Lg.p (λ_=>Qa rfl)<|pq (λ_ hc=>Qd (hB23.ext hc) rfl rfl) <|
   pe ⟨λg wf hCf=>Qu (us:=Um) rfl λb wf' hsf hbf hBf=>⟨hsf,hCf.trans hsf,⟨b,rfl,Nat.le_trans hCf.size hbf,hBf⟩,λx hx=>?_⟩,?_⟩
  ·have hxe:x=b:=by
    have hx':x∈[b]:=hx
    simpa using hx'
   subst hxe
   exact ⟨hbf,hBf.lt⟩
  refine f2k λx1 p1 c1=>xf<|(QbX hT3.cells).mono ?_
  rintro r49 y1 ⟨hs1',b49,rfl,hb49,hB49⟩
  refine ⟨c1.trans hs1',jX x1.heap.size y1.heap.size,hs1'.any,λb hb=>.inr (Yl.1 hb),?_⟩
  refine f2k λx2 p2 c2=>xf<|(Qb5 (hB49.ext p2) (hT3.ext c2) (by omega)).mono ?_
  rintro r50 y2 ⟨hs2',ho2⟩
  rw[hsa] at ho2
  refine ⟨c2.trans hs2',jX x1.heap.size y1.heap.size++jX x2.heap.size y2.heap.size,hs2'.any,λb hb=>(List.mem_append.1 hb).imp id λhb=>Yl.1 hb,?_⟩
  refine f2p (λ_=>QE ⟨Q3 ho2,rfl,hA3.mr.cells,trivial⟩)<|f2e ?_
  refine ⟨r50,⟨rfl,trivial⟩,λb hb=>?_,QF ho2,λL hL=>?_⟩
  ·have e1:=c1.size
   have e2:=c2.size
   rcases List.mem_append.1 hb with hb | hb
   ·have:=Yl.1 hb;omega
   ·have:=Yl.1 hb;omega
  ·exact QS ho2 (by rw[←hsa,(List.mergeSort_perm to _).length_eq];omega) (λb hb hm=>hL b hm (List.mem_append.2 (.inr (Yl.2 (Qk ho2 b hb)))))
 rintro ⟨b9,vs⟩ g w5 ⟨hs5,hb9,hB9,hvo,hvI⟩
 simp only[] at hb9 hB9 hvo hvI
 have hz5:=hs5.size
 have hl9:=hB9.lt
 have hB25:=hB23.ext hs5
 have hB45:=hB43.ext hs5
 have hn9:∀b∈[b9],b∈([]:LN)∨w'.heap.size≤b:=λb hb=>.inr (by rw[List.mem_singleton.1 hb];exact hb9)
 have hA5:Zr [b9] w5.heap va vm ve a:=(hA3.up hn9).ext hs5
 have hT5:QM [b9] w5.heap vt to:=(hT3.up hn9).ext hs5
 have hvI9:=hvI [b9] (λb hb=>.inr (List.mem_singleton.1 hb))
 have hel:=hA5.ed.le
 have n29:b2∉[b9]:=by have:=hB23.lt;simp only[List.mem_singleton];omega
 have n49:b4∉[b9]:=by simp only[List.mem_singleton];omega
 have hrl:(jW a to).length=a.ed.length:=by unfold jW;rw[List.length_map]
 have hrb:∀e∈jW a to,(0≤e.1∧e.1<1099511627776)∧0≤e.2.1∧e.2.1<1099511627776:=λe he=>by
  unfold jW at he
  obtain ⟨d,hd,rfl⟩:=List.mem_map.1 he
  have h1:=ho.ed d hd
  have h2:a.al.idxOf d.2.1<to.length:=by rw[htl];exact List.idxOf_lt_length_of_mem h1.2.2.1
  have h3:=htb _ (List.getElem_mem h2)
  have h4:=Zg h2
  simp only[]
  omega
 refine QV (α:=Value) [(11,11),(56,78)] (λ_=>[]) (λz w6=>Step [b9] w5 w6∧Q0 w6.heap b9 58 [vs,.int .i64 a.st,vm,z]∧w6.ownsRow w5.heap.size 144 3 z (jW a to).length ((jW a to).flatMap Qy)) (by rfl) ?_ ?_
 ·refine Qc<|x (Qa rfl)<|x (Qd hB25 rfl rfl)<|x (Qs hA5.ed rfl)<|Qb<|xe ?_
  refine Qg<|QC (α:=Nat×Value) [(11,11),(59,78)] (λz=>[(59,.int .i64 z.1)]) (λz w6=>z.1≤a.ed.length∧Step [b9] w5 w6∧Q0 w6.heap b9 58 [vs,.int .i64 a.st,vm,z.2]∧w6.ownsRow w5.heap.size 144 3 z.2 z.1 (((jW a to).take z.1).flatMap Qy)) (λz=>a.ed.length - z.1) (by rfl) (0,Zb) ⟨rfl,trivial⟩ ⟨Nat.zero_le _,Step.refl _ _,hB9,QO _ _ _ _⟩ ?_
  rintro ⟨k,vr⟩ g w6 ⟨hk,hs6,hB96,ho6⟩
  simp only[] at hk hB96 ho6
  refine Qc<|x (QB rfl rfl)<|xe ?_
  refine Qf<|QH rfl (λh60=>?_) (λh60=>?_)
  ·refine Qz ?_
   have hke:k=a.ed.length:=by have h61:¬(k:Int)<(a.ed.length:Int):=h60;omega
   rw[List.take_of_length_le (by omega),hke,←hrl] at ho6
   exact ⟨vr,trivial,hs6,hB96,ho6⟩
  have hlt:k<a.ed.length:=by have h61:(k:Int)<(a.ed.length:Int):=h60;omega
  have hee:=ho.ed _ (List.getElem_mem hlt)
  have hrk:(jW a to)[k]'(by omega)=((a.ed[k]'hlt).1,cget to (a.al.idxOf (a.ed[k]'hlt).2.1),(a.ed[k]'hlt).2.2):=by unfold jW;rw[List.getElem_map]
  have htk:(jW a to).take (k+1)=(jW a to).take k++[(jW a to)[k]'(by omega)]:=List.take_succ_eq_append_getElem (by omega)
  rw[hrk] at htk
  refine Q8 (a.ed[k]'hlt) λe he=>?_
  rw[he] at hee htk
  have hix:a.al.idxOf e.2.1<to.length:=by rw[htl];exact List.idxOf_lt_length_of_mem hee.2.2.1
  rw[←Zg hix] at htk
  refine Q8 (to[a.al.idxOf e.2.1]'hix) λy hy=>?_
  rw[hy] at htk
  refine Qi<|Qf<|Qg<|Qc<|xie (i:=k) (hA5.ed.st hs6) rfl rfl hlt λa61 h61=>?_
  rw[he] at h61
  refine x (QJ h61 rfl rfl)<|xl rfl<|Qu (us:=[.int .i64 0,.int .i64 0,.int .i64 0]) rfl λb11 w7 hs7 hb11 hB11=>xl rfl<|Qo (us:=Qy e) hB11 rfl rfl rfl rfl ⟨rfl,rfl,rfl,trivial⟩ λw8 hs8 hB118=>xe ?_
  have hs68:Step [] w6 w8:=hs7.then1 hs8 hb11
  have hz6:=hs6.size
  refine Qc<|Qb<|x (Qa rfl)<|x (Qd ((hB25.step hs6 n29).ext hs68) rfl rfl)<|x (Qa rfl)<|x (Qd hB118 rfl rfl)<|xl rfl<|xf<|(QiP ((hA5.al.st hs6).ext hs68) hee.2.2.1).mono ?_
  rintro r68 w8 ⟨rfl,rfl⟩
  refine xii ((hT5.st hs6).ext hs68) rfl rfl hix λa69 h69=>?_
  rw[hy] at h69
  refine x (Qv h69 rfl)<|x (Qa rfl)<|xl rfl<|QG (u:=.int .i64 y) hB118 rfl rfl (by simp[Qy]) rfl λw9 hs9 hB119=>xe ?_
  have hB119':Q0 w9.heap b11 144 (Qy (e.1,y,e.2.2)):=hB119
  have hs69:Step [] w6 w9:=hs68.then1 hs9 hb11
  have hB99:=hB96.ext hs69
  have ho9:=Qq ho6 hs69
  have n9v:b9∉ob vr:=QN ho6 hl9
  have hge:=Qk ho6
  have hz69:=hs69.size
  refine Qw<|x (Qa rfl)<|x (Qd hB99 rfl rfl)<|x (Qr hB119' rfl rfl)<|xl rfl<|QD (us:=[Qy (e.1,y,e.2.2)]) rfl rfl (by decide) (by exact (by decide:1*3≤1000000)) ⟨rfl,rfl,trivial⟩ λb75 w10 hs10 hb75 hB75=>?_
  refine xl rfl<|QY (m:=1) (news:=Qy (e.1,y,e.2.2)) (L:=[]) (Qq ho9 hs10) rfl rfl rfl (hB75.at (by simp)) (by simp[Qy,Value.oneCell']) (by omega) (by have:=hs10.size;omega) λv11 w11 ho11 hs11 hn11=>?_
  refine x (Qa rfl)<|xl rfl<|QG (u:=v11) ((hB99.ext hs10).step hs11 n9v) rfl rfl (by simp) (QF ho11) λw12 hs12 hB912=>xe ?_
  refine Qw<|x (Qx rfl rfl ⟨by omega,by omega⟩)<|Qb<|xe ?_
  refine ⟨(k+1,v11),by simp only[];omega,⟨rfl,trivial⟩,hlt,(((hs6.trans hs69.any).trans hs10.any).then hs11 (λb hb=>.inr (hge b hb).1)).trans' hs12,hB912,?_⟩
  simp only[]
  rw[htk,List.flatMap_append]
  have h9:=Qj ho11 hs12 (λb hb=>by have:=(Qk ho11 b hb).1;simp only[List.mem_singleton];omega)
  simpa using h9
 rintro vr g w6 ⟨hs6,hB96,ho6⟩
 have n9r:b9∉ob vr:=QN ho6 hl9
 have hz6:=hs6.size
 have hgr:=Qk ho6
 refine Qc<|x (Qa rfl)<|x (Qd hB96 rfl rfl)<|xl rfl<|xf<|(zf ho6 (by omega) hrb).mono ?_
 rintro r7 w7 ⟨hs7,l',hp,hpw,ho7⟩
 have hl':=hse l' hp hpw
 subst hl'
 refine xe ?_
 have hB97:=hB96.step hs7 n9r
 have up9:∀b∈b9::ob vr,b∈[b9]∨w5.heap.size≤b:=λb hb=>by
  rcases List.mem_cons.1 hb with rfl | hb
  ·exact .inl List.mem_cons_self
  ·exact .inr (hgr b hb).1
 have go7:∀{v:Value} {l:LI},QM [b9] w5.heap v l→QM [] w7.heap v l:=λhv=>(((hv.up up9).st (hs6.mono (by simp))).st (hs7.mono (λb hb=>List.mem_cons_of_mem _ hb))).up (λb hb=>by cases hb)
 have hse7:UX [] w7.heap vr l':=QS ho7 (by have:=hp.length_eq;omega) (by simp)
 have hA7:Zr [] w7.heap vs vm vr ⟨sa,a.st,a.mr,l'⟩:=⟨go7 hvI9,go7 hA5.mr,hse7⟩
 have hs57:Step [] w' w7:=(hs5.then1 hs6 hb9).then hs7 (λb hb=>.inr (by have:=(hgr b hb).1;omega))
 have hz57:=hs57.size
 have hB47:=hB43.ext hs57
 refine Qc<|x (Qr hB97 rfl rfl)<|xl rfl<|xf<|(Je hA7 hok).mono ?_
 rintro v w8 ⟨hs8,hF⟩
 obtain ⟨us,hva,husl,hus⟩:=Xn hF
 refine xl rfl<|Qo (us:=us) (hB47.ext hs8) rfl hva husl rfl hus λw9 hs9 hB49=>Qe ?_
 have hs07:=hs03.trans hs57
 refine Qm ⟨[.agg us.toArray,.int .i64 0],⟨⟨_,rfl,QA husl (hB49.at (L:=[]) (by simp)).cells⟩,rfl,trivial⟩,(hs07.trans hs8).then1 hs9 (by omega),v,by rw[hva];rfl,?_⟩
 exact (X6 hF (by omega) hs9).mono (by have:=hs07.size;omega)
theorem Qil {motive:LI→Prop}(nil:motive []) (append_singleton:∀u v,motive u→motive (u++[v])) (u:LI):motive u:=by
 have key:∀r:LI,motive r.reverse:=by
  intro r
  induction r with
  | nil=>exact nil
  | cons v r ih=>rw[List.reverse_cons];exact append_singleton _ _ ih
 have:=key u.reverse
 rw[List.reverse_reverse] at this
 exact this
def enc (u:LI):Int:=u.foldl (λn e=>n*33+(e+1)) 0
theorem JJ (u:LI) (v:Int):enc (u++[v])=enc u*33+(v+1):=by unfold enc;rw[List.foldl_append];rfl
def QcT (u:LI):Prop:=∀e∈u,0≤e∧e<32
theorem QcT.snoc {u:LI}{v:Int}(h:QcT (u++[v])):QcT u∧0≤v∧v<32:=⟨λe he=>h e (List.mem_append_left _ he),h v (by simp)⟩
theorem QiX {u:LI}(h:QcT u):0≤enc u:=by
 induction u using Qil with
 | nil=>exact Int.le_refl _
 | append_singleton u v ih=>rw[JJ];have:=ih h.snoc.1;have:=h.snoc.2;omega
def rn (a:QT) (x:Int) (u:LI):Int:=u.foldl (λs v=>nxt a.ed s v) x
theorem Qgt (a:QT) (x:Int) (u:LI) (v:Int):rn a x (u++[v])=nxt a.ed (rn a x u) v:=by unfold rn;rw[List.foldl_append];rfl
def x0 (a:QT):Int:=if 0<a.st then 0 else -1
structure Fw where
 u:LI
 s:Int
def VC:Fw:=⟨[],0⟩
def wdN (e:Fw) (d:Ed):Fw:=⟨e.u++[d.2.1],d.2.2⟩
def wdR (a:QT) (e:Fw):List Fw:=(ZH a.ed e.s).map (wdN e)
def wdL (a:QT) (most:Nat):Nat→Nat→List Fw→Option (List Fw)
 | 0,_,L=>some L
 | f+1,i,L=>if i<L.length then (if (L.getD i VC).u.length=most then some L else if 1024<(L++wdR a (L.getD i VC)).length then none else wdL a most f (i+1) (L++wdR a (L.getD i VC))) else some L
def wds (a:QT) (most:Nat):Option (List Fw):=wdL a most 1025 0 [VC]
structure WdI (a:QT) (most i:Nat) (L:List Fw):Prop where
 ne:0<L.length
 le:i≤L.length
 mx:L.length≤1024
 rx:∀e∈L,e.s=rn a 0 e.u∧0≤e.s∧e.s<a.st∧(∀v∈e.u,v∈a.al)∧e.u.length≤most
 so:L.Pairwise λp q=>enc p.u<enc q.u
 hd:(L.getD 0 VC).u=[]
 pr:∀e∈L,e.u=[]∨∃j v,j<i∧e.u=(L.getD j VC).u++[v]
 ch:∀j v,j<i→0≤nxt a.ed (L.getD j VC).s v→∃e∈L,e.u=(L.getD j VC).u++[v]
theorem QeU {L:List Fw}{i:Nat}(h:i<L.length):L.getD i VC∈L:=by simp[List.getD,h]
theorem QeV {L r:List Fw}{i:Nat}(h:i<L.length):(L++r).getD i VC=L.getD i VC:=by simp[List.getD,List.getElem?_append_left h]
theorem WdI.step {a:QT}(ho:Zm a) {most i:Nat}{L:List Fw}(h:WdI a most i L) (hi:i<L.length) (hl:(L.getD i VC).u.length≠most) (hm:¬1024<(L++wdR a (L.getD i VC)).length):WdI a most (i+1) (L++wdR a (L.getD i VC)):=by
 have hal:QcT a.al:=ho.al
 have hSm:∀e∈L,QcT e.u:=λe he u hu=>hal u ((h.rx e he).2.2.2.1 u hu)
 have hiM:=QeU hi
 obtain ⟨r1,r2,r3,r4,r5⟩:=h.rx _ hiM
 generalize hei:L.getD i VC=ei at *
 have hrow:∀e∈wdR a ei,∃d∈ZH a.ed ei.s,e=wdN ei d∧d.2.1∈a.al∧0≤d.2.2∧d.2.2<a.st∧nxt a.ed ei.s d.2.1=d.2.2:=λe he=>by
  unfold wdR at he
  obtain ⟨d,hd,rfl⟩:=List.mem_map.1 he
  obtain ⟨hd1,hd2⟩:=ZJ hd
  have hda:=ho.ed d hd1
  refine ⟨d,hd,rfl,hda.2.2.1,hda.2.2.2.1,hda.2.2.2.2,?_⟩
  rw[Qba]
  obtain ⟨k,hk,rfl⟩:=List.getElem_of_mem hd
  refine j6 _ ei.s _ k hk (λe he=>(ZJ he).2) rfl (λm hmk e=>?_)
  have hp:(ZH a.ed ei.s).Pairwise λx y:Ed=>x.1<y.1∨(x.1=y.1∧x.2.1<y.2.1):=List.Pairwise.sublist List.filter_sublist ho.edi
  have:=List.pairwise_iff_getElem.1 hp m k (by omega) hk hmk
  have e1:=(ZJ (List.getElem_mem (l:=ZH a.ed ei.s) (show m<(ZH a.ed ei.s).length by omega))).2
  have e2:=(ZJ (List.getElem_mem hk)).2
  omega
 have hgi:=QiX (hSm _ hiM)
 have hnew:∀e∈L,∀v,v∈a.al→enc e.u<enc (ei.u++[v]):=λe he v hv=>by
  have hvb:=hal v hv
  rw[JJ]
  rcases h.pr e he with h1 | ⟨j,u,hj,h1⟩
  ·rw[h1];show (0:Int)<_;omega
  ·rw[h1,JJ]
   have hlt:enc (L.getD j VC).u<enc ei.u:=by
    have:=List.pairwise_iff_getElem.1 h.so j i (by omega) hi hj
    rw[←hei]
    simpa[List.getD,show j<L.length by omega,hi] using this
   have hub:u<32:=by
    have:=(h.rx e he).2.2.2.1 u (by rw[h1];simp)
    exact (hal u this).2
   omega
 have keepD:∀r:List Fw,∀j,j<L.length→(L++r).getD j VC=L.getD j VC:=λr j hj=>QeV hj
 refine ⟨by simp;have:=h.ne;omega,by simp;omega,by omega,λe he=>?_,?_,by rw[keepD _ 0 h.ne];exact h.hd,λe he=>?_,λj v hj hn=>?_⟩
 ·rcases List.mem_append.1 he with he | he
  ·exact h.rx e he
  ·obtain ⟨d,_,rfl,h1,h2,h3,h4⟩:=hrow e he
   refine ⟨?_,h2,h3,λu hu=>?_,?_⟩
   ·show d.2.2=rn a 0 (ei.u++[d.2.1]);rw[Qgt,←r1,h4]
   ·rcases List.mem_append.1 (show u∈ei.u++[d.2.1] from hu) with hu | hu
    ·exact r4 u hu
    ·simp only[List.mem_singleton] at hu;subst hu;exact h1
   ·show (ei.u++[d.2.1]).length≤most
    rw[List.length_append,List.length_singleton];omega
 ·rw[List.pairwise_append]
  refine ⟨h.so,?_,λp hp q hq=>?_⟩
  ·unfold wdR
   rw[List.pairwise_map]
   have hp:(ZH a.ed ei.s).Pairwise λx y:Ed=>x.1<y.1∨(x.1=y.1∧x.2.1<y.2.1):=List.Pairwise.sublist List.filter_sublist ho.edi
   refine List.Pairwise.imp_of_mem (λ{x y} hx hy hxy=>?_) hp
   have e1:=(ZJ hx).2
   have e2:=(ZJ hy).2
   show enc (ei.u++[x.2.1])<enc (ei.u++[y.2.1])
   rw[JJ,JJ];omega
  ·obtain ⟨d,_,rfl,h1,_⟩:=hrow q hq
   exact hnew p hp _ h1
 ·rcases List.mem_append.1 he with he | he
  ·rcases h.pr e he with h1 | ⟨j,u,hj,h1⟩
   ·exact .inl h1
   ·exact .inr ⟨j,u,by omega,by rw[keepD _ j (by omega)];exact h1⟩
  ·obtain ⟨d,_,rfl,_⟩:=hrow e he
   exact .inr ⟨i,d.2.1,by omega,by rw[keepD _ i hi,hei];rfl⟩
 ·rw[keepD _ j (by omega)] at hn ⊢
  by_cases e:j=i
  ·subst e
   rw[hei] at hn ⊢
   have hm2:=zx hn
   refine ⟨wdN ei (ei.s,v,nxt a.ed ei.s v),List.mem_append_right _ ?_,rfl⟩
   unfold wdR
   exact List.mem_map_of_mem (by unfold ZH;exact List.mem_filter.2 ⟨hm2,by simp⟩)
  ·obtain ⟨e',he',h1⟩:=h.ch j v (by omega) hn
   exact ⟨e',List.mem_append_left _ he',h1⟩
theorem QjD {a:QT}(h0:0<a.st) (most:Nat):WdI a most 0 [VC]:=by
 refine ⟨by simp,Nat.zero_le _,by simp,λe he=>?_,by simp,by simp[List.getD,VC],λe he=>?_,λj v hj=>by omega⟩
 ·simp only[List.mem_singleton] at he
  subst he
  exact ⟨rfl,Int.le_refl _,h0,by simp[VC],by simp[VC]⟩
 ·simp only[List.mem_singleton] at he
  subst he;exact .inl rfl
end Go.Proofs.YtdffckgdcegpaaaGreatDoor
namespace Go.Lg
section
variable {P:Program} {ops:List Oper} {K:Fr→World→Prop} {f:Fr} {w:World} {d:Option Nat} {ty:Nat} {ps:String} {af:Array Edge} {gd:Option (Nat×Bool)}
theorem VM {base t ty e:Nat}{sz bys:Nat}{z:Value}[h:Sl P t e sz bys z] {v:Value}{n:Nat}{cs:LV}(hown:w.ownsRow base e sz v n cs)
  {a:Addr} {m c:Nat} {news:LV} (hl:news.length=m*sz) (hnews:∀j u,news[j]?=some u→w.cell? (a.add j)=some u) (h1:∀u∈news,u.oneCell'=true)
  (hb:n+m≤1099511627776) (hby:bys≤128) (hbase:base≤w.heap.size) :
  ∃v' w',(Builtin.append_ #[t,t] ty #[v,.slice (some a) m c]).run P w=.ok v' w'∧w'.ownsRow base e sz v' (n+m) (cs++news)∧Step (ob v) w w'∧(∀b∈ob v',b∈ob v∨w.heap.size≤b)∧w'.ownsRow base e sz v n cs:=by
 obtain ⟨i,hi,hz,hsz,hbys⟩:=Sl.info h
 have hbytes:(n+m)*bys≤140737488355328:=Nat.le_trans (Nat.mul_le_mul hb hby) (by omega)
 have h63:n+m≤maxLen:=by simp only[maxLen];omega
 by_cases hg:∃g cap cur,v=.slice (some ⟨g,0,none⟩) n cap∧w.heap[g]?=some (.cells cur e (0,0))∧n+m≤cap
 ·obtain ⟨v',w',hr,ho,hgr,_⟩:=run_append_own (P:=P) w base t ty e i z sz bys h.u hi hz hsz hbys h.zs h.pos v n cs hown a m c news hl hnews h1 h63 hbytes hbase
  have hst:Step (ob v) w w':=by rw[zu];exact Step.of_grown hgr
  refine ⟨v',w',hr,ho,hst,?_⟩
  obtain ⟨g,cap,cur,rfl,hgg,hroom⟩:=hg
  rcases hown.2 with ⟨h2,_⟩ | ⟨g2,cap2,cur2,h2,h3,h4,h5,h6,h7,h8⟩
  ·cases h2
  ·cases h2
   have hfit:n*i.size+news.length≤cur2.size:=by rw[hl,h7,hsz,←Nat.add_mul];exact Nat.mul_le_mul_right _ hroom
   have hr2:=run_append_room (P:=P) w t ty e i h.u hi g n cap cur2 h4 a m c news (by rw[hsz];exact hl) hnews h1 hroom hfit
   rw[hr2] at hr
   cases hr
   refine ⟨λb hb'=>.inl hb',hown.1,?_⟩
   have hcl:=hown.1
   rcases ho.2 with ⟨e1,_⟩ | ⟨g3,cap3,cur3,e1,k3,k4,k5,k6,k7,k8⟩
   ·cases e1
   ·cases e1
    refine .inr ⟨g,cap,cur3,rfl,k3,k4,h5,k6,k7,?_⟩
    have:=congrArg (List.take (n*sz)) k8
    rw[List.take_take,Nat.min_eq_left (Nat.mul_le_mul_right _ (Nat.le_add_right n m)),List.take_append_of_le_length (by omega),List.take_of_length_le (l:=cs) (by omega)] at this
    exact this
 ·have new:∀(old:Nat),old<n+m→∀o',o'=(Obj.cells (cs.toArray++news.toArray++Builtin.zeroCells z.cells (grownCap w (n+m) old e - (n+m))) e) →
    (w.drew.alloc o').ownsRow base e sz (.slice (some ⟨w.heap.size,0,none⟩) (n+m) (grownCap w (n+m) old e)) (n+m) (cs++news):=by
   intro old ho o' ho'
   subst ho'
   have hge:=grownCap_ge w (n+m) old e
   have hcm:grownCap w (n+m) old e≤maxLen:=grownCap_le_maxLen w (n+m) old e h63
   have hlen:(cs++news).length=(n+m)*sz:=by rw[List.length_append,hown.1,hl,Nat.add_mul]
   refine ⟨hlen,.inr ⟨w.heap.size,_,_,rfl,hbase,JL w.drew _,hge,hcm,?_,?_⟩⟩
   ·simp only[Array.size_append,List.size_toArray,size_zeroCells,h.zs,hown.1,hl,←Nat.add_mul]
    congr 1;omega
   ·simp only[Array.toList_append,List.append_assoc]
    rw[←List.append_assoc,←hlen]
    exact List.take_left
  have stp:∀o',Step (ob v) w (w.drew.alloc o'):=λo'=>⟨rfl,rfl,rfl,by rw[V4];exact Nat.le_succ _,λk hk _=>z6 w.drew o' k hk⟩
  have stp0:∀o',Step [] w (w.drew.alloc o'):=λo'=>⟨rfl,rfl,rfl,by rw[V4];exact Nat.le_succ _,λk hk _=>z6 w.drew o' k hk⟩
  have fin:∀(b:Nat),b∈ob (.slice (some ⟨w.heap.size,0,none⟩) (n+m) 0)→b∈ob v∨w.heap.size≤b:=λb hb'=>by simp[ob] at hb';omega
  rcases hown.2 with ⟨rfl,rfl⟩ | ⟨g,cap,cur,rfl,hbg,hgg,hnc,hcm,hcs,htake⟩
  ·have hx:cs=[]:=List.eq_nil_of_length_eq_zero (by simpa using hown.1)
   subst hx
   by_cases hm:m=0
   ·subst hm
    have hn:news=[]:=List.eq_nil_of_length_eq_zero (by simpa using hl)
    subst hn
    refine ⟨nS,w,?_,QO _ _ _ _,Step.refl _ _,λb hb'=>by simp[ob] at hb',QO _ _ _ _⟩
    simp[Builtin.append_,run_underlying h.u,sizeOf,typeInfo,hi,Builtin.lenOf,Builtin.firstCells,loadCells,loadCellsFrom]
   ·have hr:=run_append_nil (P:=P) w t ty e i z h.u hi hz a m c news (by rw[hsz];exact hl) hnews (by omega) (by omega) (by rw[hbys];have hb2:=hbytes;simp only[Nat.zero_add] at hb2;omega)
    have hn:=new 0 (by omega) _ rfl
    simp only[Nat.zero_add,List.nil_append,Array.empty_append] at hn ⊢
    exact ⟨_,_,hr,hn,stp _,λb hb'=>fin b hb',QO _ _ _ _⟩
  ·have hroom:cap<n+m:=by
    rcases Nat.lt_or_ge cap (n+m) with hlt | hge
    ·exact hlt
    ·exact absurd ⟨g,cap,cur,rfl,hgg,hge⟩ hg
   have holds:∀j u,cs[j]?=some u→w.cell? ((⟨g,0,none⟩:Addr).add j)=some u:=hown.cells (g:=g) rfl
   have hr:=run_append_grow (P:=P) w t ty e i z h.u hi hz ⟨g,0,none⟩ n cap cs (by rw[hsz];exact hown.1) holds a m c news (by rw[hsz];exact hl) hnews hroom (by omega) (growslice_fits hroom (by rw[hbys];exact hbytes))
   exact ⟨_,_,hr,new cap hroom _ rfl,stp _,λb hb'=>fin b hb',Qq hown (stp0 _)⟩
theorem Qd0 {t e sz bys:Nat}{z:Value}[h:Sl P t e sz bys z] {s y:Operand}{base:Nat}{v:Value}{n:Nat}{cs:LV}(hown:w.ownsRow base e sz v n cs) (hs:ev f s=v)
  {a:Addr} {m c:Nat} {news:LV} (hy:ev f y=.slice (some a) m c) (hl:news.length=m*sz) {L:LN} (hsrc:At L w.heap a news) (h1:∀u∈news,u.oneCell'=true)
  (hb:n+m≤1099511627776) (hbase:base≤w.heap.size)
  (hK:∀v' w',w'.ownsRow base e sz v' (n+m) (cs++news)→Step (ob v) w w'→(∀b∈ob v',b∈ob v∨w.heap.size≤b)→w'.ownsRow base e sz v n cs→K (QX f d v') w') (hby:bys≤128:=by decide) :
  XO P ⟨d,.call ⟨.builtin .append,#[s,y],#[t,t]⟩,ty,ps,af,gd⟩ f w K:=by
 obtain ⟨v',w',hr,h2,h3,h4,h5⟩:=VM (P:=P) (t:=t) (ty:=ty) hown hl hsrc.cells h1 hb hby hbase (c:=c)
 have hr':(execOp (ev f) ⟨d,.call ⟨.builtin .append,#[s,y],#[t,t]⟩,ty,ps,af,gd⟩).run P w=.ok (.value v') w':=by
  simp[execOp,resolve,invoke,builtin,hs,hy,hr]
 exact xv hr' (hK v' w' h2 h3 h4 h5)
end
section
variable {P:Program} {ops:List Oper} {K:Fr→World→Prop} {f:Fr} {w:World} {d:Option Nat} {ty:Nat} {ps:String} {af:Array Edge} {gd:Option (Nat×Bool)} {C:World→Prop} {pl:List (Nat×Bool)} {i0:Nat}
theorem QkN {α:Type}{g:α→LV}{x y:Operand}{t e sz bys:Nat}{z:Value}[Sl P t e sz bys z] (ho:Q4 ops i0=⟨d,.indexAddr t x y,ty,ps,af,gd⟩) (hg':∀x,(g x).length=sz) {L:LN}{es:List α}{v:Value}{w0:World}{k:IntKind}{i:Nat}
  (h:∀w',C w'→Zo L w'.heap v es.length sz (es.flatMap g)) (h0:C w0) (hv:ev f x=v) (hy:ev f y=.int k i) (hi:i<es.length)
  (hK:∀a,(∀w',C w'→At L w'.heap a (g es[i]))→XP P ops C K pl (QX f d (.pointer (some a))) w) (hg:Z9 ops f (Q4 ops i0)=true:=by rfl) :
  XP P ops C K ((i0,true)::pl) f w:=by
 obtain ⟨a,cap,h1,_⟩:=Zo.at (h w0 h0) hi
 refine Lg.p (λw'=>by rw[ho];exact Y4 (hv.trans h1) hy (by omega) (by omega)) ?_ hg
 rw[ho]
 refine hK _ λw' hc=>?_
 obtain ⟨a',cap',h1',h2⟩:=Zo.at (h w' hc) hi
 rw[h1'] at h1
 cases h1
 rw[XC g sz hg' es i hi] at h2
 simpa using h2
end
end Go.Lg
namespace Go.Proofs.YtdffckgdcegpaaaGreatDoor
open Go.Proofs.Tryz
open Go.Lg
theorem Qkh (b:Bool):b=true∨b=false:=by cases b;exact .inr rfl;exact .inl rfl
structure FV where
 v:Value
 f:Fw
abbrev Zy (p:FV):LV:=[p.v,.int .i64 p.f.s]
theorem zP (p:FV):(Zy p).length=2:=rfl
structure WdM (wB:World) (vL:Value) (es:List FV) (w:World):Prop where
 st:Step [] wB w
 l:w.ownsRow wB.heap.size 384 2 vL es.length (es.flatMap Zy)
 each:∀p∈es,QM (ob vL) w.heap p.v p.f.u
theorem WdM.ext {wB w w':World}{vL:Value}{es:List FV}(h:WdM wB vL es w) (hs:Step [] w w'):WdM wB vL es w':=⟨h.st.trans hs,Qq h.l hs,λp hp=>(h.each p hp).ext hs⟩
theorem WdM.add {wB w w':World}{vL vL':Value}{es:List FV}{p:FV}(h:WdM wB vL es w) (hs:Step (ob vL) w w') (hl:w'.ownsRow wB.heap.size 384 2 vL' (es.length+1) (es.flatMap Zy++Zy p)) (hn:∀b∈ob vL',b∈ob vL∨w.heap.size≤b) (hp:QM (ob vL) w.heap p.v p.f.u):WdM wB vL' (es++[p]) w':=by
 refine ⟨h.st.then hs (λb hb=>.inr (Qk h.l b hb).1),by rw[List.length_append,List.flatMap_append];simpa using hl,λq hq=>?_⟩
 rcases List.mem_append.1 hq with hq | hq
 ·exact (h.each q hq).grow hs (λb hb=>hb) hn
 ·simp only[List.mem_singleton] at hq;subst hq;exact hp.grow hs (λb hb=>hb) hn
theorem QeN {es:List FV}{i:Nat}(h:i<es.length):(es.map (·.f)).getD i VC=(es[i]'h).f:=by simp[List.getD,h]
theorem Qgz {a:QT}(ho:Zm a) (s:Int):(ZH a.ed s).length≤32:=by
 have hp:(ZH a.ed s).Pairwise λx y:Ed=>x.1<y.1∨(x.1=y.1∧x.2.1<y.2.1):=List.Pairwise.sublist List.filter_sublist ho.edi
 have hi:Yf ((ZH a.ed s).map λe=>e.2.1):=by
  unfold Yf
  rw[List.pairwise_map]
  refine List.Pairwise.imp_of_mem (λ{x y} hx hy hxy=>?_) hp
  have e1:=(ZJ hx).2
  have e2:=(ZJ hy).2
  omega
 have:=Xj _ 0 32 hi (λv hv=>by
  obtain ⟨e,he,rfl⟩:=List.mem_map.1 hv
  exact ho.al _ (ho.ed e (ZJ he).1).2.2.1)
 rw[List.length_map] at this
 omega
def Qc5 (a:QT) (most:Nat) (mk:Bool):Option (List (LI)):=if a.st=0 then some [] else (wds a most).map λL=>(L.filter λf=>!mk || decide (f.s∈a.mr)).map (·.u)
def Qko (o:Option (List (LI))) (r:Value) (H:Array Obj):Prop:=(o=none∧r=.tuple #[Zb,.int .i64 3])∨∃l v ps,o=some l∧r=.tuple #[v,.int .i64 0]∧Xs [] H v ps∧ps.map (·.2)=l
set_option maxHeartbeats 16000000 in
theorem QcR {w:World}{va vm ve:Value}{a:QT}(h:Zr [] w.heap va vm ve a) (hck:Jd a=0) (ho:Zm a) (most:Nat) (hmo:most≤4096) (mk:Bool) :
  QL prog 249 [.agg #[va,.int .i64 a.st,vm,ve],.int .i64 most,.bool mk] w λr w'=>Step [] w w'∧Qko (Qc5 a most mk) r w'.heap:=by
 have hst0:=ho.st0
 have hst1:=ho.st1
 refine QL.of_W func249 rfl ntmps249 results249 (by simp) ?_
 refine Qc<|xl rfl<|QR (us:=[va,.int .i64 a.st,vm,ve]) rfl λb3 w1 hs1 hb3 hB3=>x Qh<|Qe<|Qf<|Qc<|x (Qr hB3 rfl rfl)<|xl rfl<|xf<|(Xl (h.ext hs1)).mono ?_
 rintro r2 w2 ⟨hr2,hs2⟩
 rw[hck] at hr2
 subst hr2
 have hs12:=hs1.trans hs2
 refine Qe<|Qc<|Qb<|x (Q9 rfl rfl)<|xe ?_
 refine Ye rfl ?_
 refine Qi<|Qf<|Qc<|Qb<|xb (QB rfl rfl) (λh22=>absurd (show (most:Int)<0 from h22) (by omega)) (λh22=>?_)
 refine Qb<|Qb<|x (ZF rfl rfl)<|x (Ql rfl)<|xe ?_
 refine Q6 rfl (λh26=>absurd (show (most:Int) > 4096 from h26) (by omega)) (λh26=>?_)
 refine Qi ?_
 have hB32:=hB3.ext hs2
 refine Qf<|Qc<|x (Qa rfl)<|x (Qd hB32 rfl rfl)<|x (Q5 rfl rfl)<|xe ?_
 refine Q6 rfl (λh29=>?_) (λh29=>?_)
 ·refine Qc<|x Qh<|Qe ?_
  exact Qm ⟨[Zb,.int .i64 0],⟨rfl,rfl,trivial⟩,hs12,.inr ⟨[],Zb,[],by unfold Qc5;rw[if_pos h29],rfl,⟨Zo.nil _ _ _,λp hp=>by cases hp⟩,rfl⟩⟩
 have hpos:0<a.st:=by have h30:¬a.st=0:=h29;omega
 have hW:Qc5 a most mk=(wds a most).map λL=>(L.filter λf=>!mk || decide (f.s∈a.mr)).map (·.u):=by unfold Qc5;rw[if_neg (by omega)]
 refine Q8 (wds a most) λR hR=>?_
 rw[hR] at hW
 refine Qi<|Qc<|x (QE trivial)<|xl rfl<|QD (us:=[Zy ⟨nS,VC⟩]) rfl rfl (by decide) (by exact (by decide:1*2≤1000000)) ⟨rfl,rfl,trivial⟩ λb31 w3 hs3 hb31 hB31=>Qe ?_
 have hl31:=hB31.lt
 have hI0:WdM w2 (.slice (some ⟨b31,0,none⟩) 1 1) [⟨nS,VC⟩] w3:=by
  refine ⟨hs3,hB31.own (n:=1) rfl (by omega) hb31,λp hp=>?_⟩
  simp only[List.mem_singleton] at hp;subst hp;exact Zo.nil _ _ _
 have hbound:∀e∈a.ed,0≤e.1∧e.1≤1099511627776:=λe he=>by have:=ho.ed e he;omega
 refine QV (α:=Value×List FV) [(6,7),(9,10),(12,12),(32,77)] (λz=>[(9,z.1)]) (λz w'=>WdM w2 z.1 z.2 w'∧R=some (z.2.map (·.f))∧z.2.length≤1024) (by rfl) ?_ ?_
 ·refine Qc<|Qe<|Qg<|QC (α:=Nat×Value×List FV) [(6,7),(9,10),(12,12),(32,77)] (λz=>[(9,z.2.1),(10,.int .i64 z.1)])
   (λz w'=>z.1≤1025∧WdM w2 z.2.1 z.2.2 w'∧WdI a most z.1 (z.2.2.map (·.f))∧wdL a most (1025 - z.1) z.1 (z.2.2.map (·.f))=R) (λz=>1025 - z.1) (by rfl) (0,.slice (some ⟨b31,0,none⟩) 1 1,[⟨nS,VC⟩]) ⟨rfl,rfl,trivial⟩
   ⟨Nat.zero_le _,hI0,QjD hpos most,hR⟩ ?_
  rintro ⟨i,vL,es⟩ g4 w4 ⟨hiF,hM4,hJ4,hR4⟩
  simp only[] at hiF hM4 hJ4 hR4
  have hmx:=hJ4.mx
  have hle:=hJ4.le
  rw[List.length_map] at hmx hle
  have hLr:Zo [] w4.heap vL es.length 2 (es.flatMap Zy):=QS hM4.l (by omega) (λb _=>by simp)
  refine Qf<|Qc<|Qb<|Qb<|x (Qs hLr rfl)<|x (QB rfl rfl)<|xe ?_
  refine QH rfl (λh35=>?_) (λh35=>?_)
  ·refine Qz ?_
   have h36:¬i<(es.map (·.f)).length:=by rw[List.length_map];have h37:¬(i:Int)<(es.length:Int):=h35;omega
   refine ⟨(vL,es),⟨rfl,trivial⟩,hM4,?_,hmx⟩
   rw[←hR4]
   generalize 1025 - i=f
   cases f with
   | zero=>rfl
   | succ f=>rw[wdL,if_neg h36]
  have hi:i<es.length:=by have h37:(i:Int)<(es.length:Int):=h35;omega
  rw[show 1025 - i=(1025 - (i+1))+1 by omega,wdL,if_pos (by rw[List.length_map];exact hi),QeN hi] at hR4
  have hWd0:=hM4.each _ (List.getElem_mem hi)
  have hrx:=hJ4.rx _ (List.mem_map_of_mem (f:=λq:FV=>q.f) (List.getElem_mem hi))
  have hst:=λhl hm=>hJ4.step ho (by rw[List.length_map];exact hi) hl hm
  rw[QeN hi] at hst
  refine Q8 (es[i]'hi) λei hei=>?_
  rw[hei] at hR4 hWd0 hrx hst
  have hs4:=hM4.st
  have hWd:=hWd0.up (L':=[]) (λb hb=>by cases hb)
  refine Qi<|Qf<|Qg<|Qf<|Qc<|Qb<|Qb<|xig (g:=Zy) (i:=i) zP hLr rfl rfl hi λa40 h40=>?_
  rw[hei] at h40
  refine x (Q7 rfl)<|x (Qv (h40.fld 0 _ rfl) rfl)<|x (Qs hWd rfl)<|Qb<|x (Q5 rfl rfl)<|xe ?_
  refine Q6 rfl (λh45=>?_) (λh45=>?_)
  ·refine Qz ?_
   have h46:ei.f.u.length=most:=by have h47:(ei.f.u.length:Int)=(most:Int):=h45;omega
   rw[if_pos h46] at hR4
   exact ⟨(vL,es),⟨rfl,trivial⟩,hM4,hR4.symm,hmx⟩
  have h46:ei.f.u.length≠most:=by have h47:¬(ei.f.u.length:Int)=(most:Int):=h45;omega
  rw[if_neg h46] at hR4
  have hst2:=hst h46
  refine Qi ?_
  have hB34:=hB32.ext hs4
  have hA4:Zr (ob vL) w4.heap va vm ve a:=((h.ext hs12).up (L':=ob vL) (λb hb=>.inr (Qk hM4.l b hb).1)).ext hs4
  have hosl:=Qgz ho ei.f.s
  have hout:=zr (va:=va) (vm:=vm) (st:=a.st) (hA4.ed.ext (Step.drew [] w4)) ho.eds hbound ei.f.s hrx.2.1 (by omega)
  refine Q8 (ZH a.ed ei.f.s) λos hos=>?_
  rw[hos] at hosl hout
  have hos2:wdR a ei.f=os.map (wdN ei.f):=by unfold wdR;rw[hos]
  rw[hos2] at hR4 hst2
  refine Qf<|Qf<|QU (Step [] w4) [(0,true),(1,true),(2,true),(3,true),(4,true),(5,true),(8,true),(6,false),(7,true)] mixed (by rfl) (by kernel_rfl) (Step.drew _ _) ?_
  refine pq (λ_ hc=>Qr (hB34.ext hc) rfl rfl)<|p (λ_=>Qn)<|p (λ_=>Qn)<|Lg.pig (g:=Zy) (i:=i) rfl zP hLr rfl rfl hi λa49 h49=>?_
  rw[hei] at h49
  refine p (λ_=>Q7 rfl)<|pq (λ_ hc=>Qv ((h49.fld 1 _ rfl).ext hc) rfl)<|p (λ_=>Qn)<|pk<|xf<|hout.mono ?_
  rintro ro w5 ⟨hs5',hro⟩
  have hs5:=(Step.drew [] w4).trans hs5'
  refine ⟨hs5,?_⟩
  refine p (λ_=>Qs hro rfl)<|pe ?_
  have hM5:=hM4.ext hs5
  refine Q8 (es.map (·.f)++os.map (wdN ei.f)) λL1 hL1=>?_
  rw[hL1] at hR4 hst2
  refine Qg<|QC (α:=Nat×Value×List FV) [(9,9),(12,12),(54,74)] (λz=>[(9,z.2.1),(54,.int .i64 z.1)])
   (λz w'=>z.1≤os.length∧WdM w2 z.2.1 z.2.2 w'∧UX (ob z.2.1) w'.heap ro os∧z.2.2.length=es.length+z.1∧(∃h:i<z.2.2.length,z.2.2[i]'h=ei)∧z.2.2.map (·.f)++(os.drop z.1).map (wdN ei.f)=L1) (λz=>os.length - z.1) (by rfl) (0,vL,es) ⟨rfl,rfl,trivial⟩
   ⟨Nat.zero_le _,hM5,hro,rfl,⟨hi,hei⟩,hL1⟩ ?_
  rintro ⟨k,vL2,fs⟩ g6 w6 ⟨hk,hM6,hro6,hfl,hfi,hr6⟩
  simp only[] at hk hM6 hro6 hfl hfi hr6
  refine Qc<|x (QB rfl rfl)<|xe ?_
  refine Qf<|QH rfl (λh55=>?_) (λh55=>?_)
  ·refine Qz ?_
   have hk2:os.length≤k:=by have h56:¬(k:Int)<(os.length:Int):=h55;omega
   rw[List.drop_of_length_le hk2,List.map_nil,List.append_nil] at hr6
   have hLr6:Zo [] w6.heap vL2 fs.length 2 (fs.flatMap Zy):=QS hM6.l (by omega) (λb _=>by simp)
   have hl1:L1.length=fs.length:=by rw[←hr6,List.length_map]
   refine Qc<|Qb<|x (Qs hLr6 rfl)<|x (ZF rfl rfl)<|xe ?_
   refine Q6 rfl (λh77=>?_) (λh77=>?_)
   ·have h78:1024<L1.length:=by have h79:(fs.length:Int) > 1024:=h77;omega
    rw[if_pos h78] at hR4
    refine Qc<|x Qh<|Qe ?_
    exact Qm ⟨[Zb,.int .i64 3],⟨rfl,rfl,trivial⟩,hs12.trans hM6.st,.inl ⟨by rw[hW,←hR4];rfl,rfl⟩⟩
   have h78:¬1024<L1.length:=by have h79:¬(fs.length:Int) > 1024:=h77;omega
   rw[if_neg h78,←hr6] at hR4
   have hJ6:=hst2 h78
   rw[←hr6] at hJ6
   refine Qi<|Qw<|Qb<|x (Qx rfl rfl ⟨by omega,by omega⟩)<|Qe ?_
   exact ⟨(i+1,vL2,fs),by simp only[];omega,⟨rfl,rfl,trivial⟩,by simp only[];omega,hM6,hJ6,hR4⟩
  have hklt:k<os.length:=by have h56:(k:Int)<(os.length:Int):=h55;omega
  rw[QW hklt,List.map_cons] at hr6
  refine Q8 (os[k]'hklt) λd hd=>?_
  rw[hd] at hr6
  refine Qi<|Exists.elim hfi λhi6 hei6=>?_
  have hWd6:=hM6.each _ (List.getElem_mem hi6)
  rw[hei6] at hWd6
  refine QV (α:=Value×Value) [(9,9),(12,12),(56,73)] (λz=>[(9,z.1)]) (λz w'=>WdM w2 z.1 (fs++[⟨z.2,wdN ei.f d⟩]) w'∧UX (ob z.1) w'.heap ro os) (by rfl) ?_ ?_
  ·refine Qg<|Qc<|xie (i:=k) hro6 rfl rfl hklt λa56 h56=>?_
   rw[hd] at h56
   refine x (QJ h56 rfl rfl)<|xl rfl<|Qu (us:=[.int .i64 0,.int .i64 0,.int .i64 0]) rfl λb12 w7 hs7 hb12 hB12'=>xl rfl<|Qo (us:=Qy d) hB12' rfl rfl rfl rfl ⟨rfl,rfl,rfl,trivial⟩ λw8 hs8 hB12=>xe ?_
   have hs68:Step [] w6 w8:=hs7.then1 hs8 hb12
   have hM8:=hM6.ext hs68
   have hro8:=hro6.ext hs68
   have hWd8:=hWd6.ext hs68
   have hLr8:Zo [] w8.heap vL2 fs.length 2 (fs.flatMap Zy):=QS hM8.l (by omega) (λb _=>by simp)
   have hWd8':=hWd8.up (L':=[]) (λb hb=>by cases hb)
   have hc0:Step [] w8 { w8 with drawn:=w8.drawn+1 }:=Step.drew [] w8
   have hz0:=hc0.size
   have hul:=hrx.2.2.2.2
   have hCC:∀w',Step [] w8 w'→Step (ob vL2) w8 w'∧w'.ownsRow w2.heap.size 384 2 vL2 fs.length (fs.flatMap Zy):=λw' hs=>⟨hs.mono (by simp),Qq hM8.l hs⟩
   have hnb:b12∉ob vL2:=λhb=>by have:=QQ hM6.l b12 hb;omega
   refine QhC (λw'=>Step (ob vL2) w8 w'∧w'.ownsRow w2.heap.size 384 2 vL2 fs.length (fs.flatMap Zy)) (.f2 [(0,true),(1,true),(2,true),(3,true),(4,true),(5,true),(7,true),(8,true),(11,true),(12,true)] 6 9 (.pl [(9,false),(10,false),(13,true),(14,false),(15,false),(16,true)]) (.pl [(6,false),(10,false),(13,true),(14,false),(15,false),(16,true)])) mixed (by rfl) (by kernel_rfl) (hCC _ hc0) ?_
   refine u2<|p (λ_=>Qn)<|p (λ_=>Qn)<|p (λ_=>Qn)<|QkN (g:=Zy) (i:=i) (L:=[]) rfl zP (λw' hc=>QS hc.2 (by omega) (λb _=>by simp)) (hCC _ hc0) rfl rfl hi6 λa61 h61=>?_
   rw[hei6] at h61
   refine p (λ_=>Q7 rfl)<|pq (λw' hc=>Qv ((h61 w' hc).fld 0 _ rfl) rfl)<|p (λ_=>Qa rfl)<|pq (λ_ hc=>Qd (hB12.step hc.1 hnb) rfl rfl)<|p (λ_=>Qa rfl)<|pq (λ_ hc=>Qd (hB12.step hc.1 hnb) rfl rfl)<|pe ⟨?_,?_⟩
   ·refine ue<|xf<|(ZR (hWd8'.ext hc0)).mono ?_
    rintro vk w9 ⟨hs9,hok⟩
    have hc9:=hc0.trans hs9
    have hz9:=hs9.size
    have hgek:=Qk hok
    refine ⟨hCC _ hc9,?_⟩
    refine uP<|pk<|QD (us:=[[.int .i64 d.2.1]]) rfl rfl (by decide) (by simp) ⟨rfl,rfl,trivial⟩ λbl w10 hs10 hbl hBl=>?_
    have hc10:=hc9.trans hs10
    have hz10:=hs10.size
    refine ⟨hCC _ hc10,?_⟩
    refine pk<|QY (news:=[.int .i64 d.2.1]) (L:=[]) (Qq hok hs10) rfl rfl rfl (hBl.at (by simp)) (by simp[Value.oneCell']) (by omega) (by omega) λva' w11 hoa hs11 hna=>?_
    have hc11:Step [] w8 w11:=hc10.then hs11 (λb hb=>.inr (by have:=(hgek b hb).1;omega))
    have hz11:=hs11.size
    have hoa2:=Qt.snoc (Zi hoa (show w8.heap.size≤_ by omega))
    refine ⟨hCC _ hc11,?_⟩
    have hone:=(Qt.ints (L:=[]) hoa2 (by simp;omega) (by simp)).one
    have hcel:=(Qt.ints (L:=[]) hoa2 (by simp;omega) (by simp)).cells
    refine p (λ_=>QE ⟨hcel,rfl,trivial⟩)<|pk<|QD (us:=[Zy ⟨va',wdN ei.f d⟩]) rfl rfl (by decide) (by exact (by decide:1*2≤1000000)) ⟨rfl,rfl,trivial⟩ λbm w12 hs12 hbm hBm=>?_
    have hc12:=hc11.trans hs12
    refine ⟨hCC _ hc12,?_⟩
    have hM12:=hM8.ext hc12
    have hz12:=hM12.st.size
    refine pk<|Qd0 (news:=Zy ⟨va',wdN ei.f d⟩) (L:=[]) (m:=1) hM12.l rfl rfl rfl (hBm.at (by simp)) (by intro u hu;simp only[List.mem_cons,List.not_mem_nil,or_false] at hu;rcases hu with rfl | rfl;exact hone;rfl) (by omega) hz12 λvz w13 hoz hs13 hnz hkz=>⟨⟨(hc12.mono (by simp)).trans' hs13,hkz⟩,p (λ_=>Qh)<|pe ?_⟩
    have hpI:QM (ob vL2) w12.heap va' (wdN ei.f d).u:=Qt.ints (Qq hoa2 hs12) (by show (ei.f.u++[d.2.1]).length≤_;rw[List.length_append,List.length_singleton];omega) (λb hb=>QQ hM8.l b hb)
    exact ⟨(vz,va'),⟨rfl,trivial⟩,hM12.add hs13 hoz hnz hpI,(hro8.ext hc12).grow hs13 (λb hb=>hb) hnz⟩
   ·refine ue<|QD (us:=[[.int .i64 d.2.1]]) rfl rfl (by decide) (by simp) ⟨rfl,rfl,trivial⟩ λbl w9 hs9 hbl hBl=>?_
    have hc9:=hc0.trans hs9
    have hz9:=hs9.size
    refine ⟨hCC _ hc9,?_⟩
    refine uP<|pk<|xf<|(ZR (hWd8'.ext hc9)).mono ?_
    rintro vk w10 ⟨hs10,hok⟩
    have hc10:=hc9.trans hs10
    have hz10:=hs10.size
    have hgek:=Qk hok
    refine ⟨hCC _ hc10,?_⟩
    refine pk<|QY (news:=[.int .i64 d.2.1]) (L:=[]) hok rfl rfl rfl ((hBl.ext hs10).at (by simp)) (by simp[Value.oneCell']) (by omega) (by omega) λva' w11 hoa hs11 hna=>?_
    have hc11:Step [] w8 w11:=hc10.then hs11 (λb hb=>.inr (by have:=(hgek b hb).1;omega))
    have hz11:=hs11.size
    have hoa2:=Qt.snoc (Zi hoa (show w8.heap.size≤_ by omega))
    refine ⟨hCC _ hc11,?_⟩
    have hone:=(Qt.ints (L:=[]) hoa2 (by simp;omega) (by simp)).one
    have hcel:=(Qt.ints (L:=[]) hoa2 (by simp;omega) (by simp)).cells
    refine p (λ_=>QE ⟨hcel,rfl,trivial⟩)<|pk<|QD (us:=[Zy ⟨va',wdN ei.f d⟩]) rfl rfl (by decide) (by exact (by decide:1*2≤1000000)) ⟨rfl,rfl,trivial⟩ λbm w12 hs12 hbm hBm=>?_
    have hc12:=hc11.trans hs12
    refine ⟨hCC _ hc12,?_⟩
    have hM12:=hM8.ext hc12
    have hz12:=hM12.st.size
    refine pk<|Qd0 (news:=Zy ⟨va',wdN ei.f d⟩) (L:=[]) (m:=1) hM12.l rfl rfl rfl (hBm.at (by simp)) (by intro u hu;simp only[List.mem_cons,List.not_mem_nil,or_false] at hu;rcases hu with rfl | rfl;exact hone;rfl) (by omega) hz12 λvz w13 hoz hs13 hnz hkz=>⟨⟨(hc12.mono (by simp)).trans' hs13,hkz⟩,p (λ_=>Qh)<|pe ?_⟩
    have hpI:QM (ob vL2) w12.heap va' (wdN ei.f d).u:=Qt.ints (Qq hoa2 hs12) (by show (ei.f.u++[d.2.1]).length≤_;rw[List.length_append,List.length_singleton];omega) (λb hb=>QQ hM8.l b hb)
    exact ⟨(vz,va'),⟨rfl,trivial⟩,hM12.add hs13 hoz hnz hpI,(hro8.ext hc12).grow hs13 (λb hb=>hb) hnz⟩
  rintro ⟨vz,va'⟩ g14 w14 ⟨hM14,hro14⟩
  simp only[] at hM14 hro14
  refine Qw<|x (Qx rfl rfl ⟨by omega,by omega⟩)<|Qb<|xe ?_
  exact ⟨(k+1,vz,fs++[⟨va',wdN ei.f d⟩]),by simp only[];omega,⟨rfl,rfl,trivial⟩,hklt,hM14,hro14,by simp;omega,⟨by simp;omega,by simp only[];rw[List.getElem_append_left hi6];exact hei6⟩,by simp only[];rw[List.map_append,List.append_assoc];exact hr6⟩
 rintro ⟨vL,es⟩ g20 w20 ⟨hM20,hR20,hel⟩
 simp only[] at hM20 hR20 hel
 rw[hR20] at hW
 have hs20:=hs12.trans hM20.st
 have hLr:Zo [] w20.heap vL es.length 2 (es.flatMap Zy):=QS hM20.l (by omega) (λb _=>by simp)
 refine Qc<|Qe<|Qf<|Qc<|Qb<|x (Qs hLr rfl)<|Qb<|xe ?_
 refine Qg<|QC (α:=Nat×Value×List TV) [(13,13),(15,15),(80,100)] (λz=>[(13,z.2.1),(80,.int .i64 z.1)])
  (λz w'=>z.1≤es.length∧Step [] w20 w'∧qa 37 w20.heap.size w' z.2.1 z.2.2∧z.2.2.map (·.2)=((es.take z.1).filter λp=>!mk || decide (p.f.s∈a.mr)).map (λp=>p.f.u)∧∀p∈z.2.2,QM (ob z.2.1) w'.heap p.1 p.2) (λz=>es.length - z.1) (by rfl) (0,nS,[]) ⟨rfl,rfl,trivial⟩
  ⟨Nat.zero_le _,Step.refl _ _,QO _ _ _ _,rfl,λp hp=>by cases hp⟩ ?_
 rintro ⟨k,vT,ps⟩ g21 w21 ⟨hk,hs21,hT,hTm,hTe⟩
 simp only[] at hk hs21 hT hTm hTe
 have hpl:ps.length≤k:=by
  have h1:=congrArg List.length hTm
  rw[List.length_map,List.length_map] at h1
  rw[h1]
  refine Nat.le_trans (List.length_filter_le _ _) ?_
  rw[List.length_take];omega
 refine Qc<|x (QB rfl rfl)<|xe ?_
 refine Qf<|QH rfl (λh81=>?_) (λh81=>?_)
 ·refine Qz ?_
  have hk2:es.length≤k:=by have h82:¬(k:Int)<(es.length:Int):=h81;omega
  refine Qc<|Qb<|x Qh<|Qe<|Qm ⟨[vT,.int .i64 0],⟨rfl,rfl,trivial⟩,hs20.trans hs21,.inr ⟨_,vT,ps,hW,rfl,⟨QS hT (by omega) (λb _=>by simp),λp hp=>(hTe p hp).up (λb hb=>by cases hb)⟩,?_⟩⟩
  rw[hTm,List.take_of_length_le hk2]
  show _=((es.map (λp:FV=>p.f)).filter λf=>!mk || decide (f.s∈a.mr)).map (λx:Fw=>x.u)
  rw[List.filter_map,List.map_map];rfl
 have hklt:k<es.length:=by have h82:(k:Int)<(es.length:Int):=h81;omega
 have hEk:=hM20.each _ (List.getElem_mem hklt)
 refine Q8 (es[k]'hklt) λek hek=>?_
 rw[hek] at hEk
 have hEk20:QM (ob vT) w21.heap ek.v ek.f.u:=((hEk.up (L':=[]) (λb hb=>by cases hb)).up (λb hb=>.inr (Qk hT b hb).1)).ext hs21
 refine Qi<|Qf<|Qg<|Qc<|xig (g:=Zy) (i:=k) zP (hLr.ext hs21) rfl rfl hklt λa82 h82=>?_
 rw[hek] at h82
 refine x (QJ h82 rfl rfl)<|xl rfl<|Qu (us:=[nS,.int .i64 0]) rfl λb15 w22 hs22 hb15 hB15'=>xl rfl<|Qo (us:=Zy ek) hB15' rfl rfl rfl rfl ⟨hEk20.one,rfl,trivial⟩ λw23 hs23 hB15=>xe ?_
 have hs2123:Step [] w21 w23:=hs22.then1 hs23 hb15
 have hBm:=((hB32.ext hM20.st).ext hs21).ext hs2123
 have hmr:QM [] w23.heap vm a.mr:=(((h.ext hs12).mr.ext hM20.st).ext hs21).ext hs2123
 have htk:(es.take (k+1)).filter (λp=>!mk || decide (p.f.s∈a.mr))=(es.take k).filter (λp=>!mk || decide (p.f.s∈a.mr))++(if (!mk || decide (ek.f.s∈a.mr))=true then [ek] else []):=by
  rw[List.take_succ_eq_append_getElem hklt,List.filter_append,hek,List.filter_cons,List.filter_nil]
 refine QV (α:=Bool) [(84,92)] (λz=>[(92,.bool z)]) (λz w'=>w'=w23∧z=(!mk || decide (ek.f.s∈a.mr))) (by rfl) ?_ ?_
 ·refine Or.elim (Qkh mk) (λhmk=>?_) (λhmk=>?_)
  ·subst hmk
   refine Qw<|Qb<|x (Zp rfl)<|Qb<|x (Qa rfl)<|x (Qd hBm rfl rfl)<|x (Qa rfl)<|x (Qd hB15 rfl rfl)<|xl rfl<|xf<|(ZG hmr ek.f.s).mono ?_
   rintro r91 w23 ⟨rfl,rfl⟩
   refine x (Ql rfl)<|xe ?_
   exact ⟨_,⟨rfl,trivial⟩,rfl,rfl⟩
  ·subst hmk
   refine Qw<|Qb<|x (Zp rfl)<|Qb<|xs rfl<|xs rfl<|xs rfl<|xs rfl<|xs rfl<|x (Ql rfl)<|xe ?_
   exact ⟨true,⟨rfl,trivial⟩,rfl,rfl⟩
 rintro z g23 w23 ⟨rfl,hz⟩
 rw[←hz] at htk
 refine Q2 rfl (λh92=>?_) (λh92=>?_)
 rotate_left
 ·rw[if_neg (by rw[h92];decide),List.append_nil] at htk
  refine Qi<|Qw<|x (Qx rfl rfl ⟨by omega,by omega⟩)<|Qb<|xe ?_
  exact ⟨(k+1,vT,ps),by simp only[];omega,⟨rfl,rfl,trivial⟩,hklt,hs21.trans hs2123,Qq hT hs2123,by simp only[];rw[htk];exact hTm,λp hp=>(hTe p hp).ext hs2123⟩
 rw[if_pos h92] at htk
 have hEk23:=hEk20.ext hs2123
 have hT23:=Qq hT hs2123
 have hul:=hEk23.le
 refine Qw<|Qb<|xl rfl<|Ka λb94 w24 hs24 hb94 hB94=>x (Qa rfl)<|x (Qd (hB15.ext hs24) rfl rfl) <|
  xl rfl<|zw (base:=w23.heap.size) (hB94.own (n:=0) (sz:=1) rfl (by omega) hb94) rfl (hEk23.ext hs24) rfl (KH ek.f.u) (by omega) (by have:=hs24.size;omega) λv25 w25 ho25 hs25 hn25=>?_
 have hs2325:Step [] w23 w25:=hs24.then1 hs25 hb94
 have ho25':Qt 3 w23.heap.size w25 v25 ek.f.u:=by simpa[tup] using ho25
 have hI25:QM (ob vT) w25.heap v25 ek.f.u:=Qt.ints ho25' hul (λb hb=>QQ hT23 b hb)
 refine xl rfl<|QD (us:=[[v25]]) rfl rfl (by decide) (by simp) ⟨hI25.cells,rfl,trivial⟩ λb98 w26 hs26 hb98 hB98=>?_
 have hs2326:=hs2325.trans hs26
 have hT26:=Qq hT23 hs2326
 refine xl rfl<|QY (news:=[v25]) (L:=[]) hT26 rfl rfl rfl (hB98.at (by simp)) (λy hy=>by simp only[List.mem_singleton] at hy;subst hy;exact hI25.one) (by omega) (by have:=hs21.size;have:=hs2123.size;have:=hs2326.size;omega) λv27 w27 ho27 hs27 hn27=>Qe ?_
 have hs2127:Step [] w20 w27:=((hs21.trans hs2123).trans hs2326).then hs27 (λb hb=>.inr (Qk hT b hb).1)
 have hT27:qa 37 w20.heap.size w27 v27 (ps++[(v25,ek.f.u)]):=qa.snoc ho27
 refine Qw<|x (Qx rfl rfl ⟨by omega,by omega⟩)<|Qb<|xe ?_
 refine ⟨(k+1,v27,ps++[(v25,ek.f.u)]),by simp only[];omega,⟨rfl,rfl,trivial⟩,hklt,hs2127,hT27,?_,λp hp=>?_⟩
 ·simp only[]
  rw[List.map_append,hTm,htk,List.map_append];rfl
 ·rcases List.mem_append.1 hp with hp | hp
  ·exact (((hTe p hp).ext hs2123).ext hs2326).grow hs27 (λb hb=>hb) hn27
  ·simp only[List.mem_singleton] at hp
   subst hp
   exact (hI25.ext hs26).grow hs27 (λb hb=>hb) hn27
theorem KA {L L':LN}{w:World}{v v':Value}{l l':LI}(h:QM L w.heap v l) (h':QM L' w.heap v' l'):QL prog 252 [v,v'] w λr w'=>r=.bool (decide (l=l'))∧Step [] w w':=by
 have hle:=h.le
 have hle':=h'.le
 refine QL.of_W func252 rfl ntmps252 results252 (by simp) ?_
 refine Qc<|Qe<|Qf<|Qc<|Qb<|x (Qs h rfl)<|Qb<|x (Qs h' rfl)<|x (Q9 rfl rfl)<|xe ?_
 refine Q6 rfl (λh10=>?_) (λh10=>?_)
 ·refine Qc<|Qe<|Qm ⟨[.bool false],⟨rfl,trivial⟩,?_,Step.refl _ _⟩
  have hne:l≠l':=λe=>h10 (by rw[e])
  simp[tup,hne]
 have hll:l.length=l'.length:=by omega
 refine Qi<|Qf<|Qc<|Qe<|Qg<|QC (α:=Nat) [(4,5),(11,25)] (λk=>[(5,.int .i64 k)]) (λk w'=>Step [] w w'∧k≤l.length∧(l=l'↔l.drop k=l'.drop k)) (λk=>l.length - k) (by rfl) 0 ⟨rfl,trivial⟩ ⟨Step.refl _ _,Nat.zero_le _,by simp⟩ ?_
 rintro k g w1 ⟨hs,hk,hm⟩
 replace h:=h.ext hs
 replace h':=h'.ext hs
 refine Qf<|Qc<|Qb<|Qb<|x (Qs h rfl)<|x (QB rfl rfl)<|xe ?_
 refine QH rfl (λh14=>?_) (λh14=>?_)
 ·refine Qz ?_
  refine Qc<|Qe<|Qm ⟨[.bool true],⟨rfl,trivial⟩,?_,hs⟩
  rw[List.drop_of_length_le (by omega),List.drop_of_length_le (by omega)] at hm
  simp[tup,hm]
 have hlt:k<l.length:=by omega
 have hlt':k<l'.length:=by omega
 refine Qi<|Qf<|Qg<|Qf<|QU (Step [] w1) [(0,true),(1,true),(2,true),(3,true),(4,true),(5,true),(6,true),(7,true),(8,true)] mixed (by rfl) (by kernel_rfl) (Step.drew _ _) ?_
 refine p (λ_=>Qn)<|p (λ_=>Qn)<|pii (i:=k) rfl h rfl rfl hlt λa19 h19=>pq (λ_ hc=>Qv (h19.ext hc) rfl)<|p (λ_=>Qn)<|p (λ_=>Qn)<|pii (i:=k) rfl h' rfl rfl hlt' λa23 h23=>pq (λ_ hc=>Qv (h23.ext hc) rfl)<|p (λ_=>Q9 rfl rfl)<|pe ?_
 have hs':=hs.trans (Step.drew [] w1)
 refine Q6 rfl (λh25=>?_) (λh25=>?_)
 ·refine Qc<|Qe<|Qm ⟨[.bool false],⟨rfl,trivial⟩,?_,hs'⟩
  have hne:l≠l':=λe=>h25 (by simp[e])
  simp[tup,hne]
 refine Qi<|Qw<|Qb<|x (Qx rfl rfl ⟨by omega,by omega⟩)<|Qe<|⟨k+1,by omega,⟨rfl,trivial⟩,hs',by omega,?_⟩
 have he:l[k]'hlt=l'[k]'hlt':=Decidable.not_not.1 h25
 rw[hm,QW hlt,QW hlt',he]
 exact ⟨λh=>(List.cons.inj h).2,λh=>by rw[h]⟩
theorem qy {L L':LN}{w:World}{v v':Value}{l l':LI}(h:QM L w.heap v l) (h':QM L' w.heap v' l'):QL prog 41 [v,v'] w λr w'=>r=.bool (decide (l=l'))∧Step [] w w':=by
 have hle:=h.le
 have hle':=h'.le
 refine QL.of_W func41 rfl ntmps41 results41 (by simp) ?_
 refine Qc<|Qe<|Qf<|Qc<|Qb<|x (Qs h rfl)<|Qb<|x (Qs h' rfl)<|x (Q9 rfl rfl)<|xe ?_
 refine Q6 rfl (λh10=>?_) (λh10=>?_)
 ·refine Qc<|Qe<|Qm ⟨[.bool false],⟨rfl,trivial⟩,?_,Step.refl _ _⟩
  have hne:l≠l':=λe=>h10 (by rw[e])
  simp[tup,hne]
 have hll:l.length=l'.length:=by omega
 refine Qi<|Qf<|Qc<|Qe<|Qg<|QC (α:=Nat) [(4,5),(11,25)] (λk=>[(5,.int .i64 k)]) (λk w'=>Step [] w w'∧k≤l.length∧(l=l'↔l.drop k=l'.drop k)) (λk=>l.length - k) (by rfl) 0 ⟨rfl,trivial⟩ ⟨Step.refl _ _,Nat.zero_le _,by simp⟩ ?_
 rintro k g w1 ⟨hs,hk,hm⟩
 replace h:=h.ext hs
 replace h':=h'.ext hs
 refine Qf<|Qc<|Qb<|Qb<|x (Qs h rfl)<|x (QB rfl rfl)<|xe ?_
 refine QH rfl (λh14=>?_) (λh14=>?_)
 ·refine Qz ?_
  refine Qc<|Qe<|Qm ⟨[.bool true],⟨rfl,trivial⟩,?_,hs⟩
  rw[List.drop_of_length_le (by omega),List.drop_of_length_le (by omega)] at hm
  simp[tup,hm]
 have hlt:k<l.length:=by omega
 have hlt':k<l'.length:=by omega
 refine Qi<|Qf<|Qg<|Qf<|QU (Step [] w1) [(0,true),(1,true),(2,true),(3,true),(4,true),(5,true),(6,true),(7,true),(8,true)] mixed (by rfl) (by kernel_rfl) (Step.drew _ _) ?_
 refine p (λ_=>Qn)<|p (λ_=>Qn)<|pii (i:=k) rfl h rfl rfl hlt λa19 h19=>pq (λ_ hc=>Qv (h19.ext hc) rfl)<|p (λ_=>Qn)<|p (λ_=>Qn)<|pii (i:=k) rfl h' rfl rfl hlt' λa23 h23=>pq (λ_ hc=>Qv (h23.ext hc) rfl)<|p (λ_=>Q9 rfl rfl)<|pe ?_
 have hs':=hs.trans (Step.drew [] w1)
 refine Q6 rfl (λh25=>?_) (λh25=>?_)
 ·refine Qc<|Qe<|Qm ⟨[.bool false],⟨rfl,trivial⟩,?_,hs'⟩
  have hne:l≠l':=λe=>h25 (by simp[e])
  simp[tup,hne]
 refine Qi<|Qw<|Qb<|x (Qx rfl rfl ⟨by omega,by omega⟩)<|Qe<|⟨k+1,by omega,⟨rfl,trivial⟩,hs',by omega,?_⟩
 have he:l[k]'hlt=l'[k]'hlt':=Decidable.not_not.1 h25
 rw[hm,QW hlt,QW hlt',he]
 exact ⟨λh=>(List.cons.inj h).2,λh=>by rw[h]⟩
set_option maxHeartbeats 1000000 in
theorem QfI {L L':LN}{w:World}{va vm ve ua um ue:Value}{a:QT}(h:Zr L w.heap va vm ve a) (h':Zr L' w.heap ua um ue a):QL prog 251 [.agg #[va,.int .i64 a.st,vm,ve],.agg #[ua,.int .i64 a.st,um,ue]] w λr w'=>r=.bool true∧Step [] w w':=by
 have hle:=h.ed.le
 refine QL.of_W func251 rfl ntmps251 results251 (by simp) ?_
 refine Qc<|xl rfl<|QR (us:=[va,.int .i64 a.st,vm,ve]) rfl λb2 w1 hs1 hb2 hB2=>xl rfl<|QR (us:=[ua,.int .i64 a.st,um,ue]) rfl λb3 w2 hs2 hb3 hB3=>Qe ?_
 have hs02:=hs1.trans hs2
 have hB22:=hB2.ext hs2
 have h2:=h.ext hs02
 have h2':=h'.ext hs02
 refine Qf<|QV (α:=Unit) [(6,35)] (λ_=>[(35,.bool false)]) (λ_ w'=>Step [] w2 w') (by rfl) ?_ ?_
 ·refine Qw<|x (Qa rfl)<|x (Qd hB22 rfl rfl)<|x (Qa rfl)<|x (Qd hB3 rfl rfl)<|xl rfl<|xf<|(KA h2.al h2'.al).mono ?_
  rintro r3 w3 ⟨hr3,hs3⟩
  rw[decide_eq_true rfl] at hr3
  subst hr3
  refine x (Zp rfl)<|Qb<|x (Qa rfl)<|x (Qd (hB22.ext hs3) rfl rfl)<|x (Qa rfl)<|x (Qd (hB3.ext hs3) rfl rfl)<|xb (Q9 rfl rfl) (λh17=>absurd rfl h17) (λh17=>?_)
  refine x (Ql rfl)<|Qb<|x (Qa rfl)<|x (Qd (hB22.ext hs3) rfl rfl)<|x (Qa rfl)<|x (Qd (hB3.ext hs3) rfl rfl)<|xl rfl<|xf<|(KA (h2.mr.ext hs3) (h2'.mr.ext hs3)).mono ?_
  rintro r4 w4 ⟨hr4,hs4⟩
  rw[decide_eq_true rfl] at hr4
  subst hr4
  have hs24:=hs3.trans hs4
  refine x (Zp rfl)<|x (Ql rfl)<|Qb<|x (Qa rfl)<|x (Qd (hB22.ext hs24) rfl rfl)<|x (Qs (h2.ed.ext hs24) rfl)<|x (Qa rfl)<|x (Qd (hB3.ext hs24) rfl rfl)<|x (Qs (h2'.ed.ext hs24) rfl)<|xb (Q9 rfl rfl) (λh34=>absurd rfl h34) (λh34=>?_)
  refine x (Ql rfl)<|xe ?_
  exact ⟨(),⟨rfl,trivial⟩,hs24⟩
 rintro ⟨⟩ g w3 hs3
 have hs03:=hs02.trans hs3
 have hB23:=hB22.ext hs3
 have hB33:=hB3.ext hs3
 have h3:=h.ext hs03
 have h3':=h'.ext hs03
 refine Ye rfl ?_
 refine Qi<|Qf<|Qc<|Qe<|Qg<|QC (α:=Nat) [(4,5),(36,53)] (λk=>[(5,.int .i64 k)]) (λk w'=>Step [] w3 w'∧k≤a.ed.length) (λk=>a.ed.length - k) (by rfl) 0 ⟨rfl,trivial⟩ ⟨Step.refl _ _,Nat.zero_le _⟩ ?_
 rintro k g w4 ⟨hs4,hk⟩
 have h4:=h3.ed.ext hs4
 have h4':=h3'.ed.ext hs4
 have hB24:=hB23.ext hs4
 have hB34:=hB33.ext hs4
 refine Qf<|Qc<|Qb<|x (Qa rfl)<|x (Qd hB24 rfl rfl)<|x (Qs h4 rfl)<|x (QB rfl rfl)<|xe ?_
 refine QH rfl (λh40=>?_) (λh40=>?_)
 ·refine Qz ?_
  refine Qc<|Qe ?_
  exact Qm ⟨[.bool true],⟨rfl,trivial⟩,rfl,hs03.trans hs4⟩
 have hlt:k<a.ed.length:=by omega
 refine Qi<|Qf<|Qg<|Qf<|QU (Step [] w4) [(0,true),(1,true),(2,true),(3,true),(4,true),(5,true),(6,true),(7,true),(8,true),(9,true),(10,true)] mixed (by rfl) (by kernel_rfl) (Step.drew _ _) ?_
 refine p (λ_=>Qa rfl)<|pq (λ_ hc=>Qd (hB24.ext hc) rfl rfl)<|p (λ_=>Qn)<|pie (i:=k) rfl h4 rfl rfl hlt λa46 h46=>pq (λ_ hc=>QJ (h46.ext hc) rfl rfl)<|p (λ_=>Qa rfl)<|pq (λ_ hc=>Qd (hB34.ext hc) rfl rfl)<|p (λ_=>Qn) <|
  pie (i:=k) rfl h4' rfl rfl hlt λa51 h51=>pq (λ_ hc=>QJ (h51.ext hc) rfl rfl)<|p (λ_=>KD rfl rfl)<|pe ?_
 refine Q6 rfl (λh53=>absurd rfl h53) (λh53=>?_)
 refine Qi<|Qw<|Qb<|x (Qx rfl rfl ⟨by omega,by omega⟩)<|Qe ?_
 exact ⟨k+1,by omega,⟨rfl,trivial⟩,hs4.trans (Step.drew _ _),hlt⟩
end Go.Proofs.YtdffckgdcegpaaaGreatDoor
namespace Go.Lg
theorem zl {P:Program}{f:Fr}{w:World}{d:Option Nat}{ty:Nat}{ps:String}{af:Array Edge}{gd:Option (Nat×Bool)}{t t':Nat}[h:S3 P t] {x y:Operand}{p q:Ed}(hx:ev f x=.agg (Qy p).toArray) (hy:ev f y=.agg (Qy q).toArray) :
  (execOp (ev f) ⟨d,.binOp .eql t x y t',ty,ps,af,gd⟩).run P w=.ok (.value (.bool (decide (p=q)))) w:=by
 have hg:(eqGuard .eql t x y (.agg (Qy p).toArray) (.agg (Qy q).toArray)).run P w=.ok () w:=by simp[eqGuard,h.g]
 simp only[execOp,hx,hy,Sem.run_bind,hg,Result.andThen_ok,binOp,KB,Sem.run_pure]
end Go.Lg
namespace Go.Proofs.YtdffckgdcegpaaaGreatDoor
open Go.Proofs.Tryz
open Go.Lg
def ex3:QT:=⟨[0,2],3,[2],[(0,0,2),(0,2,0),(2,2,0)]⟩
def cn3:QT:=⟨[0,2],2,[1],[(0,0,1),(0,2,0),(1,2,0)]⟩
def se3:List Ed:=[(0,1,0),(0,3,1),(1,1,0)]
theorem Qe7:Jd ex3=0:=by kernel_rfl
theorem Qhf:Jq ex3=cn3:=by kernel_rfl
theorem zY:Jd cn3=0:=by kernel_rfl
theorem Qhq:Qgp cn3 0 [0,0]=0:=by kernel_rfl
theorem Qhr:flw cn3 0 [0,0]=(1,1):=by kernel_rfl
theorem Qhp:Qc5 cn3 2 true=some [[0],[2,0]]:=by kernel_rfl
theorem Qio:Jd ⟨[1,3],2,[1],se3⟩=0:=by kernel_rfl
theorem Qin:(Jq ⟨[1,3],2,[1],se3⟩).ed=se3:=by kernel_rfl
theorem Qi7:jW cn3 [3,1]=[(0,3,1),(0,1,0),(1,1,0)]:=by kernel_rfl
theorem QkF:([3,1]:LI).mergeSort (λx y=>decide (x≤y))=[1,3]:=by
 refine List.Perm.eq_of_pairwise (le:=λx y:Int=>x≤y) (λa b _ _ h1 h2=>by omega) ?_ (by decide) ((List.mergeSort_perm _ _).trans (List.Perm.swap _ _ _))
 refine (List.pairwise_mergeSort (le:=λx y:Int=>decide (x≤y)) (λa b c h1 h2=>by simp at *;omega) (λa b=>by simp;omega) [3,1]).imp λh=>by simpa using h
theorem Qih (l':List Ed) (hp:l'.Perm (jW cn3 [3,1])) (hw:l'.Pairwise jc):l'=se3:=by
 rw[Qi7] at hp
 refine List.Perm.eq_of_pairwise (le:=jc) (λa b ha hb h1 h2=>?_) hw (by unfold se3 jc;decide) (hp.trans (List.Perm.swap _ _ _))
 have ha2:=hp.mem_iff.1 ha
 simp only[List.mem_cons,List.not_mem_nil,or_false] at ha2
 simp only[se3,List.mem_cons,List.not_mem_nil,or_false] at hb
 unfold jc at h1 h2
 rcases ha2 with rfl | rfl | rfl <;> rcases hb with rfl | rfl | rfl <;> first | rfl | (exfalso;simp only[] at h1 h2;omega)
set_option maxHeartbeats 1000000 in
theorem yZ (w:World):QL prog 247 [] w λr w'=>Step [] w w'∧Xo w.heap.size w'.heap r ex3:=by
 refine QL.of_W func247 rfl ntmps247 results247 (by simp) ?_
 refine Qc<|xl rfl<|Qu (us:=Um) rfl λb0 w1 hs1 hb0 hB0=>xe ?_
 have hl0:=hB0.lt
 refine Qc<|xl rfl<|QD (us:=[[.int .i64 0],[.int .i64 2]]) rfl rfl (by decide) (by simp) ⟨rfl,rfl,rfl,rfl,trivial⟩ λb1 w2 hs2 hb1 hB1=>xl rfl<|QD (us:=[[.int .i64 2]]) rfl rfl (by decide) (by simp) ⟨rfl,rfl,trivial⟩ λb2 w3 hs3 hb2 hB2 =>
  x (QE ⟨rfl,rfl,rfl,trivial⟩)<|x (QE ⟨rfl,rfl,rfl,trivial⟩)<|x (QE ⟨rfl,rfl,rfl,trivial⟩)<|xl rfl<|QD (us:=[Qy (0,0,2),Qy (0,2,0),Qy (2,2,0)]) rfl rfl (by decide) (by exact (by decide:3*3≤1000000)) ⟨rfl,rfl,rfl,rfl,rfl,rfl,trivial⟩ λb6 w4 hs4 hb6 hB6=>?_
 have hs14:=(hs2.trans hs3).trans hs4
 have hz1:=hs1.size
 have hz2:=hs2.size
 have hz3:=hs3.size
 have hz4:=hs4.size
 have hF:Xo w1.heap.size w4.heap (.agg #[.slice (some ⟨b1,0,none⟩) 2 2,.int .i64 3,.slice (some ⟨b2,0,none⟩) 1 1,.slice (some ⟨b6,0,none⟩) 3 3]) ex3 :=
  q7 (a:=ex3) ((hB1.ext hs3).ext hs4) (hB2.ext hs4) hB6 (by omega) (by omega) (by omega) rfl rfl rfl (by decide) (by decide) (by decide)
 refine x (QE ⟨rfl,rfl,rfl,rfl,trivial⟩)<|xl rfl<|Qo (us:=[.slice (some ⟨b1,0,none⟩) 2 2,.int .i64 3,.slice (some ⟨b2,0,none⟩) 1 1,.slice (some ⟨b6,0,none⟩) 3 3]) (hB0.ext hs14) rfl rfl rfl rfl ⟨rfl,rfl,rfl,rfl,trivial⟩ λw5 hs5 hB05=>xe ?_
 refine Qm ⟨[.agg [.slice (some ⟨b1,0,none⟩) 2 2,.int .i64 3,.slice (some ⟨b2,0,none⟩) 1 1,.slice (some ⟨b6,0,none⟩) 3 3].toArray],⟨⟨_,rfl,QA rfl (hB05.at (L:=[]) (by simp)).cells⟩,trivial⟩,(hs1.trans hs14).then1 hs5 hb0,?_⟩
 exact (X6 hF hl0 hs5).mono hz1
set_option maxHeartbeats 4000000 in
theorem Qcs (w:World):QL prog 199 [] w λr w'=>r=.bool true∧Step [] w w':=by
 refine QL.of_W func199 rfl ntmps199 results199 (by simp) ?_
 refine Qc<|Qe<|Qc<|xl rfl<|xf<|(yZ w).mono ?_
 rintro r1 w1 ⟨hs1,va,vm,ve,rfl,hA1⟩
 refine xl rfl<|xf<|(ya (hA1 [] (by simp))).mono ?_
 rintro r2 w2 ⟨hs2,v2,rfl,_,hg2⟩
 have hF2:=hg2 Qe7
 rw[Qhf] at hF2
 obtain ⟨ca,cm,ce,rfl,hC2⟩:=hF2
 have hC:=hC2 [] (by simp)
 refine Qb<|x (Qp rfl rfl)<|x (Qp rfl rfl)<|xl rfl<|Qu (us:=Um) rfl λb1 w3 hs3 hb1 hB1=>xl rfl<|Qo (us:=[ca,.int .i64 2,cm,ce]) hB1 rfl rfl rfl rfl ⟨hC.al.one,rfl,hC.mr.one,hC.ed.one,trivial⟩ λw4 hs4 hB14=>Qe ?_
 have hs24:Step [] w2 w4:=hs3.then1 hs4 hb1
 have hC4:=hC.ext hs24
 have hs04:=(hs1.trans hs2).trans hs24
 refine Qc<|x (Qr hB14 rfl rfl)<|xl rfl<|QD (us:=[[.int .i64 0],[.int .i64 0]]) rfl rfl (by decide) (by simp) ⟨rfl,rfl,rfl,rfl,trivial⟩ λb17 w5 hs5 hb17 hB17=>xl rfl<|xf<|(Qjn (u:=[0,0]) (hC4.ext hs5) (hB17.arr (L:=[]) (by simp) (n:=2) (cap:=2) (sz:=1) rfl (by omega) (Nat.le_refl _)) 0).mono ?_
 rintro r6 w6 ⟨hs6,hr6⟩
 rw[if_neg (by rw[Qhq];decide),Qhr] at hr6
 subst hr6
 refine Qb<|x (Qp rfl rfl)<|x (Qp rfl rfl)<|x (Qp rfl rfl)<|x Qh<|x Qh<|Qe ?_
 have hs46:=hs5.trans hs6
 refine Qc<|x (Qr (hB14.ext hs46) rfl rfl)<|xl rfl<|xf<|(QcR (hC4.ext hs46) zY ((ZB _).1 zY) 2 (by decide) true).mono ?_
 rintro r7 w7 ⟨hs7,hr7⟩
 rw[Qhp] at hr7
 have hr7':∃v7 p0 p1,r7=.tuple #[v7,.int .i64 0]∧Xs [] w7.heap v7 [p0,p1]∧p0.2=[0]∧p1.2=[2,0]:=by
  rcases hr7 with ⟨h,_⟩ | ⟨l,v7,ps,hl,h2,h3,h4⟩
  ·cases h
  ·cases hl
   match ps,h3,h4 with
   | [p0,p1],h3,h4 =>
    simp only[List.map_cons,List.map_nil,List.cons.injEq,and_true] at h4
    exact ⟨v7,p0,p1,h2,h3,h4.1,h4.2⟩
   | [],_,h4=>simp at h4
   | [_],_,h4=>simp at h4
   | _::_::_::_,_,h4=>simp at h4
 obtain ⟨v7,p0,p1,rfl,hT7,hp0,hp1⟩:=hr7'
 refine Qb<|x (Qp rfl rfl)<|x (Qp rfl rfl)<|x Qh<|Qe ?_
 have hs47:=hs46.trans hs7
 refine Qc<|x (Qr (hB14.ext hs47) rfl rfl)<|xl rfl<|QD (us:=[[.int .i64 3],[.int .i64 1]]) rfl rfl (by decide) (by simp) ⟨rfl,rfl,rfl,rfl,trivial⟩ λb29 w8 hs8 hb29 hB29 =>
  xl rfl<|xf<|(QaD (to:=[3,1]) ((hC4.ext hs47).ext hs8) zY ((ZB _).1 zY) (hB29.arr (L:=[]) (by simp) (n:=2) (cap:=2) (sz:=1) rfl (by omega) (Nat.le_refl _)) rfl (by decide) (by decide) QkF Qih ((ZB _).1 Qio)).mono ?_
 rintro r9 w9 ⟨hs9,v9,rfl,hF9⟩
 obtain ⟨ra,rm,re,rfl,hR9⟩:=hF9
 have hR:=hR9 [] (by simp)
 have hRe:UX [] w9.heap re se3:=by
  have h:=hR.ed
  rw[show (Jq ⟨[1,3],cn3.st,cn3.mr,se3⟩).ed=se3 from Qin] at h
  exact h
 refine Qb<|x (Qp rfl rfl)<|x (Qp rfl rfl)<|xl rfl<|Qu (us:=Um) rfl λb8 w10 hs10 hb8 hB8=>xl rfl<|Qo (us:=[ra,.int .i64 (Jq ⟨[1,3],cn3.st,cn3.mr,se3⟩).st,rm,re]) hB8 rfl rfl rfl rfl ⟨hR.al.one,rfl,hR.mr.one,hR.ed.one,trivial⟩ λw11 hs11 hB811=>Qe ?_
 have hs911:Step [] w9 w11:=hs10.then1 hs11 hb8
 have hs711:=(hs8.trans hs9).trans hs911
 have hs411:=hs47.trans hs711
 have hC11:=hC4.ext hs411
 have hB111:=hB14.ext hs411
 have hT11:=hT7.ext hs711
 have hRe11:=hRe.ext hs911
 refine QV (α:=Unit) [(0,0),(33,98)] (λz=>[(0,.bool true)]) (λz w'=>Step [] w11 w') (by rfl) ?_ ?_
 ·refine Qw<|Qb<|xb (Q5 rfl rfl) (λh34=>?_) (λh34=>absurd Qe7 h34)
  refine Qb<|x (Qr hB111 rfl rfl)<|xl rfl<|QD (us:=[[.int .i64 0],[.int .i64 2]]) rfl rfl (by decide) (by simp) ⟨rfl,rfl,rfl,rfl,trivial⟩ λb37 w12 hs12 hb37 hB37=>xl rfl<|QD (us:=[[.int .i64 1]]) rfl rfl (by decide) (by simp) ⟨rfl,rfl,trivial⟩ λb38 w13 hs13 hb38 hB38 =>
   x (QE ⟨rfl,rfl,rfl,trivial⟩)<|x (QE ⟨rfl,rfl,rfl,trivial⟩)<|x (QE ⟨rfl,rfl,rfl,trivial⟩)<|xl rfl<|QD (us:=[Qy (0,0,1),Qy (0,2,0),Qy (1,2,0)]) rfl rfl (by decide) (by exact (by decide:3*3≤1000000)) ⟨rfl,rfl,rfl,rfl,rfl,rfl,trivial⟩ λb42 w14 hs14 hb42 hB42=>?_
  have hs1114:=(hs12.trans hs13).trans hs14
  have hL:Zr [] w14.heap (.slice (some ⟨b37,0,none⟩) 2 2) (.slice (some ⟨b38,0,none⟩) 1 1) (.slice (some ⟨b42,0,none⟩) 3 3) cn3 :=
   ⟨((hB37.ext hs13).ext hs14).arr (L:=[]) (by simp) (n:=2) (cap:=2) (sz:=1) rfl (by omega) (Nat.le_refl _),(hB38.ext hs14).arr (L:=[]) (by simp) (n:=1) (cap:=1) (sz:=1) rfl (by omega) (Nat.le_refl _),hB42.arr (L:=[]) (by simp) (n:=3) (cap:=3) (sz:=3) rfl (by omega) (Nat.le_refl _)⟩
  refine x (QE ⟨rfl,rfl,rfl,rfl,trivial⟩)<|xl rfl<|xf<|(QfI (a:=cn3) (hC11.ext hs1114) hL).mono ?_
  rintro r15 w15 ⟨rfl,hs15⟩
  have hs1115:=hs1114.trans hs15
  have hT15:=hT11.ext hs1115
  refine x (Ql rfl)<|Qb<|Qb<|xb (Q5 rfl rfl) (λh48=>?_) (λh48=>absurd rfl h48)
  refine x (Ql rfl)<|Qb<|Qb<|xb (Q5 rfl rfl) (λh52=>?_) (λh52=>absurd rfl h52)
  refine x (Ql rfl)<|Qb<|Qb<|xb (Q5 rfl rfl) (λh56=>?_) (λh56=>absurd rfl h56)
  refine x (Ql rfl)<|Qb<|Qb<|xb (Q5 rfl rfl) (λh60=>?_) (λh60=>absurd rfl h60)
  refine x (Ql rfl)<|Qb<|Qb<|x (Qs hT15.arr rfl)<|xb (Q5 rfl rfl) (λh65=>?_) (λh65=>absurd rfl h65)
  refine x (Ql rfl)<|Qb<|Qb<|xig (g:=Z3) (i:=0) J8 hT15.arr rfl rfl (by simp) λa69 h69=>x (Qv h69 rfl)<|xl rfl<|QD (us:=[[.int .i64 0]]) rfl rfl (by decide) (by simp) ⟨rfl,rfl,trivial⟩ λb71 w16 hs16 hb71 hB71 =>
   xl rfl<|xf<|(KA (l:=p0.2) (l':=[0]) ((hT15.each p0 (by simp)).ext hs16) (hB71.arr (L:=[]) (by simp) (n:=1) (cap:=1) (sz:=1) rfl (by omega) (Nat.le_refl _))).mono ?_
  rintro r17 w17 ⟨hr17,hs17⟩
  rw[hp0,decide_eq_true rfl] at hr17
  subst hr17
  have hs1517:=hs16.trans hs17
  have hT17:=hT15.ext hs1517
  refine x (Ql rfl)<|Qb<|Qb<|xig (g:=Z3) (i:=1) J8 hT17.arr rfl rfl (by simp) λa76 h76=>x (Qv h76 rfl)<|xl rfl<|QD (us:=[[.int .i64 2],[.int .i64 0]]) rfl rfl (by decide) (by simp) ⟨rfl,rfl,rfl,rfl,trivial⟩ λb78 w18 hs18 hb78 hB78 =>
   xl rfl<|xf<|(KA (l:=p1.2) (l':=[2,0]) ((hT17.each p1 (by simp)).ext hs18) (hB78.arr (L:=[]) (by simp) (n:=2) (cap:=2) (sz:=1) rfl (by omega) (Nat.le_refl _))).mono ?_
  rintro r19 w19 ⟨hr19,hs19⟩
  rw[hp1,decide_eq_true rfl] at hr19
  subst hr19
  have hs1119:=(hs1115.trans hs1517).trans (hs18.trans hs19)
  have hB819:=hB811.ext hs1119
  have hRe19:=hRe11.ext hs1119
  refine x (Ql rfl)<|Qb<|Qb<|xb (Q5 rfl rfl) (λh83=>?_) (λh83=>absurd rfl h83)
  refine x (Ql rfl)<|Qb<|x (Qa rfl)<|x (Qd hB819 rfl rfl)<|x (Qs hRe19 rfl)<|xb (Q5 rfl rfl) (λh89=>?_) (λh89=>absurd rfl h89)
  refine x (Ql rfl)<|Qb<|x (Qa rfl)<|x (Qd hB819 rfl rfl)<|xie (i:=1) hRe19 rfl rfl (by decide) λa94 h94=>x (QJ h94 rfl rfl)<|x (QE ⟨rfl,rfl,rfl,trivial⟩)<|xb (zl (p:=(0,3,1)) (q:=(0,3,1)) rfl rfl) (λh97=>?_) (λh97=>absurd rfl h97)
  refine x (Ql rfl)<|Qe ?_
  exact ⟨(),⟨rfl,trivial⟩,hs1119⟩
 rintro z g w20 hs20
 exact Qm ⟨[.bool true],⟨rfl,trivial⟩,rfl,(hs04.trans hs411).trans hs20⟩
theorem QcY (w:World):QL prog 128 [] w λr w'=>r=.bool true∧Step [] w w':=by
 refine QL.of_W func128 rfl ntmps128 results128 (by simp) ?_
 refine Qc<|Qe<|Qc<|xl rfl<|xf<|(Qcs w).mono ?_
 rintro r1 w1 ⟨rfl,hs1⟩
 refine Qe ?_
 exact Qm ⟨[.bool true],⟨rfl,trivial⟩,rfl,hs1⟩
theorem CL.cel_rq {c:CL} {k:Zu} (h:c.cel=k) (v:Value) (qs:List IV):(CL.mk c.ve c.vc v c.vx c.vk c.ev c.co qs c.ex c.cs).cel={ k with rq:=qs.map IV.it }:=by rw[←h];rfl
theorem CL.cel_ex {c:CL} {k:Zu} (h:c.cel=k) (v:Value) (qs:List XV):(CL.mk c.ve c.vc c.vr v c.vk c.ev c.co c.rq qs c.cs).cel={ k with ex:=qs.map XV.x }:=by rw[←h];rfl
theorem CL.cel_cs {c:CL} {k:Zu} (h:c.cel=k) (v:Value) (qs:List KV):(CL.mk c.ve c.vc c.vr c.vx v c.ev c.co c.rq c.ex qs).cel={ k with cs:=qs.map KV.k }:=by rw[←h];rfl
theorem jR {w:World}{c:CL}{k:Zu}(h:Zv [] w.heap c) (hc:c.cel=k) (he:Yv k=0) (hkb:Kb w 4096) :
  QL prog 27 [c.val] w λr w'=>Step [] w w'∧∃va vm ve v1 v2 v3 v4,r=.tuple #[.agg #[va,.int .i64 (spc k).a.st,vm,ve,v1,v2,v3,v4],.int .i64 0]∧ZL [va,.int .i64 (spc k).a.st,vm,ve,v1,v2,v3,v4]∧Zo [] w'.heap v4 (spc k).fb.length 4 ((spc k).fb.flatMap Zw):=by
 refine (Kp h hkb).mono ?_
 rintro r w' ⟨hs,v,rfl,⟨us,hv,_,hone⟩,hg⟩
 rw[hc] at hg ⊢
 obtain ⟨va,vm,ve,v1,v2,v3,v4,cos,rqs,rfl,_,_,hA⟩:=hg he
 have hus:us=[va,.int .i64 (spc k).a.st,vm,ve,v1,v2,v3,v4]:=by
  have h9:=congrArg (λv=>match v with | Value.agg cs=>cs.toList | _=>[]) hv
  simpa using h9.symm
 rw[hus] at hone
 exact ⟨hs,va,vm,ve,v1,v2,v3,v4,by rw[he],hone,(hA [] (by simp)).2.2.2.2⟩
theorem Qi8 {w:World}{c:CL}{k:Zu}(h:Zv [] w.heap c) (hc:c.cel=k) (he:Yv k=0) (hst:(spc k).a.st<4096) (h1:QbG k=true) (hkb:Kb w 4096) :
  QL prog 197 [c.val] w λr w'=>Step [] w w'∧∃xa xm xe vb,r=.tuple #[.agg #[xa,.int .i64 ((spc k).a.st+1),xm,xe],vb,.int .i64 0]∧ZL [xa,xm,xe]∧Qt 3 w.heap.size w' vb (cmB k):=by
 subst hc
 exact jE h hkb he hst h1
abbrev Qiy:LV:=[nS,.int .i64 0,nS,nS,nS,nS,nS,nS]
theorem Qjk {P:Prop}{a b:Int}(e:a=b) (h:¬a=b):P:=absurd e h
set_option maxHeartbeats 8000000 in
theorem Qad {w:World}(hkb:Kb w 4096):QL prog 127 [] w λr w'=>r=.bool true∧Step [] w w':=by
 refine QL.of_W func127 rfl ntmps127 results127 (by simp) ?_
 refine Qc<|Qe<|Qc<|xl rfl<|xf<|(XJ 1 (by decide) w).mono ?_
 rintro r1 w1 ⟨hs1,c1,rfl,hc1,hC1⟩
 refine xl rfl<|xf<|(XJ 2 (by decide) w1).mono ?_
 rintro r2 w2 ⟨hs2,c2,rfl,hc2,hC2⟩
 refine xl rfl<|xf<|(XJ 2 (by decide) w2).mono ?_
 rintro r3 w3 ⟨hs3,c3,rfl,hc3,hC3⟩
 have hA1:=((hC1 [] (by simp)).ext hs2).ext hs3
 have hA2:=(hC2 [] (by simp)).ext hs3
 have hA3:=hC3 [] (by simp)
 refine xl rfl<|Qu (us:=ZW) rfl λb1 w4 hs4 hb1 hB1=>xl rfl<|Qu (us:=ZW) rfl λb2 w5 hs5 hb2 hB2=>xl rfl<|Qu (us:=ZW) rfl λb3 w6 hs6 hb3 hB3=>?_
 have hz4:=hs4.size
 have hz5:=hs5.size
 have hz6:=hs6.size
 have hl1:=hB1.lt
 have hl2:=hB2.lt
 have hl3:=hB3.lt
 refine xl rfl<|Qo (us:=c1.cells) ((hB1.ext hs5).ext hs6) rfl rfl rfl rfl hA1.ones λw7 hs7 hB17=>xl rfl<|Qo (us:=c2.cells) ((hB2.ext hs6).step hs7 (by simp only[List.mem_singleton];omega)) rfl rfl rfl rfl hA2.ones λw8 hs8 hB28 =>
  xl rfl<|Qo (us:=c3.cells) ((hB3.step hs7 (by simp only[List.mem_singleton];omega)).step hs8 (by simp only[List.mem_singleton];omega)) rfl rfl rfl rfl hA3.ones λw9 hs9 hB39=>xe ?_
 have hs39:Step [] w3 w9:=((((hs4.trans hs5).trans hs6).then1 hs7 (by omega)).then1 hs8 (by omega)).then1 hs9 (by omega)
 have hs09:=((hs1.trans hs2).trans hs3).trans hs39
 have hB19:=(hB17.step hs8 (by simp only[List.mem_singleton];omega)).step hs9 (by simp only[List.mem_singleton];omega)
 have hB29:=hB28.step hs9 (by simp only[List.mem_singleton];omega)
 have hB3:∀b∈[b1,b2,b3],w3.heap.size≤b∧b<w6.heap.size:=λb hb=>by
  simp only[List.mem_cons,List.not_mem_nil,or_false] at hb
  rcases hb with rfl | rfl | rfl <;> omega
 have m1:∀b∈[b1],b∈[b1,b2,b3]:=by simp
 have m2:∀b∈[b2],b∈[b1,b2,b3]:=by simp
 have m3:∀b∈[b3],b∈[b1,b2,b3]:=by simp
 have hA1:=(hA1.up (L':=[b1,b2,b3]) (λb hb=>.inr (hB3 b hb).1)).ext hs39
 have hA2:=(hA2.up (L':=[b1,b2,b3]) (λb hb=>.inr (hB3 b hb).1)).ext hs39
 have hA3:=(hA3.up (L':=[b1,b2,b3]) (λb hb=>.inr (hB3 b hb).1)).ext hs39
 have hz39:=hs39.size
 have hz69:w6.heap.size≤w9.heap.size:=by have:=hs7.size;have:=hs8.size;have:=hs9.size;omega
 have nB:∀b,w9.heap.size≤b→b∉[b1,b2,b3]:=λb hb hm=>by have:=(hB3 b hm).2;omega
 refine Qc<|xl rfl<|QD (us:=[[.int .i64 1]]) rfl rfl (by decide) (by simp) ⟨rfl,rfl,trivial⟩ λb16 w10 hs10 hb16 hB16=>xl rfl<|QD (us:=[[.int .i64 0]]) rfl rfl (by decide) (by simp) ⟨rfl,rfl,trivial⟩ λb17 w11 hs11 hb17 hB17'=>x (QE ⟨rfl,rfl,rfl,trivial⟩) <|
  x (ZQ [(0,[.string KI]),(1,[.slice (some ⟨b16,0,none⟩) 1 1,.int .i64 1,.slice (some ⟨b17,0,none⟩) 1 1,nS])] ⟨rfl,rfl,rfl,rfl,trivial⟩) <|
  xl rfl<|QD (us:=[[.string KI,.slice (some ⟨b16,0,none⟩) 1 1,.int .i64 1,.slice (some ⟨b17,0,none⟩) 1 1,nS]]) rfl rfl (by decide) (by exact (by decide:1*5≤1000000)) ⟨rfl,rfl,trivial⟩ λb20 w12 hs12 hb20 hB20=>?_
 have hs912:=(hs10.trans hs11).trans hs12
 refine x (Qa rfl)<|xl rfl<|QG (j:=2) (u:=.slice (some ⟨b20,0,none⟩) 1 1) (hB19.ext hs912) rfl rfl (by simp) rfl λw13 hs13 hB113=>xe ?_
 have hz10:=hs10.size
 have hz11:=hs11.size
 have hz12:=hs12.size
 have hz912:=hs912.size
 have hs913:Step [b1,b2,b3] w9 w13:=hs912.any.trans' (hs13.mono m1)
 have hz13:=hs13.size
 have hN1:Zv [b1,b2,b3] w13.heap (CL.mk c1.ve c1.vc (.slice (some ⟨b20,0,none⟩) 1 1) c1.vx c1.vk c1.ev c1.co [⟨KI,⟨.slice (some ⟨b16,0,none⟩) 1 1,.slice (some ⟨b17,0,none⟩) 1 1,nS,zO.a⟩⟩] c1.ex c1.cs):=by
  have h9:=hA1.st hs913
  refine ⟨h9.ev,h9.co,YZ.st (w:=w12) ⟨hB20.arr (nB _ (by omega)) (n:=1) (cap:=1) (sz:=5) rfl (by decide) (Nat.le_refl _),λq hq=>?_,λq hq=>?_⟩ (hs13.mono m1),h9.ex,h9.cs⟩
  ·rw[List.mem_singleton.1 hq]
   exact ⟨((hB16.ext hs11).ext hs12).arr (nB _ (by omega)) (n:=1) (cap:=1) (sz:=1) rfl (by decide) (Nat.le_refl _),(hB17'.ext hs12).arr (nB _ (by omega)) (n:=1) (cap:=1) (sz:=1) rfl (by decide) (Nat.le_refl _),Zo.nil _ _ 3⟩
  ·rw[List.mem_singleton.1 hq];exact YL (by decide)
 refine Qc<|x (QE ⟨rfl,rfl,trivial⟩)<|x (QE ⟨rfl,rfl,trivial⟩)<|xl rfl<|QD (us:=[QP (0,1),QP (1,1)]) rfl rfl (by decide) (by exact (by decide:2*2≤1000000)) ⟨rfl,rfl,rfl,rfl,trivial⟩ λb24 w14 hs14 hb24 hB24=>x (QE ⟨rfl,rfl,trivial⟩) <|
  xl rfl<|QD (us:=[[.string Jz,.slice (some ⟨b24,0,none⟩) 2 2]]) rfl rfl (by decide) (by exact (by decide:1*2≤1000000)) ⟨rfl,rfl,trivial⟩ λb26 w15 hs15 hb26 hB26=>?_
 have hs1315:=hs14.trans hs15
 refine x (Qa rfl)<|xl rfl<|QG (j:=3) (u:=.slice (some ⟨b26,0,none⟩) 1 1) ((hB29.step (hs912.any.trans' hs13) (by simp only[List.mem_singleton];omega)).ext hs1315) rfl rfl (by simp) rfl λw16 hs16 hB216=>xe ?_
 have hz14:=hs14.size
 have hz15:=hs15.size
 have hz1315:=hs1315.size
 have hs1316:Step [b1,b2,b3] w13 w16:=hs1315.any.trans' (hs16.mono m2)
 have hz16:=hs1316.size
 have hz913:=hs913.size
 have hN2:Zv [b1,b2,b3] w16.heap (CL.mk c2.ve c2.vc c2.vr (.slice (some ⟨b26,0,none⟩) 1 1) c2.vk c2.ev c2.co c2.rq [⟨Jz,.slice (some ⟨b24,0,none⟩) 2 2,[(0,1),(1,1)]⟩] c2.cs):=by
  have h9:=hA2.st (hs913.trans' hs1316)
  refine ⟨h9.ev,h9.co,h9.rq,U0.st (w:=w15) ⟨hB26.arr (nB _ (by omega)) (n:=1) (cap:=1) (sz:=2) rfl (by decide) (Nat.le_refl _),λq hq=>?_,λq hq=>?_⟩ (hs16.mono m2),h9.cs⟩
  ·rw[List.mem_singleton.1 hq]
   exact (hB24.ext hs15).arr (nB _ (by omega)) (n:=2) (cap:=2) (sz:=2) rfl (by decide) (Nat.le_refl _)
  ·rw[List.mem_singleton.1 hq];exact YL (by decide)
 refine Qc<|x (QE ⟨rfl,rfl,trivial⟩)<|x (QE ⟨rfl,rfl,trivial⟩)<|xl rfl<|QD (us:=[QP (0,1),QP (1,1)]) rfl rfl (by decide) (by exact (by decide:2*2≤1000000)) ⟨rfl,rfl,rfl,rfl,trivial⟩ λb30 w17 hs17 hb30 hB30=>x (QE ⟨rfl,rfl,rfl,trivial⟩) <|
  xl rfl<|QD (us:=[[.string zy,.slice (some ⟨b30,0,none⟩) 2 2,.int .i64 1]]) rfl rfl (by decide) (by exact (by decide:1*3≤1000000)) ⟨rfl,rfl,trivial⟩ λb32 w18 hs18 hb32 hB32=>?_
 have hs1618:=hs17.trans hs18
 refine x (Qa rfl)<|xl rfl<|QG (j:=4) (u:=.slice (some ⟨b32,0,none⟩) 1 1) (((hB39.step (hs912.any.trans' hs13) (by simp only[List.mem_singleton];omega)).step (hs1315.any.trans' hs16) (by simp only[List.mem_singleton];omega)).ext hs1618) rfl rfl (by simp) rfl λw19 hs19 hB319=>xe ?_
 have hz17:=hs17.size
 have hz18:=hs18.size
 have hs1619:Step [b1,b2,b3] w16 w19:=hs1618.any.trans' (hs19.mono m3)
 have hN3:Zv [b1,b2,b3] w19.heap (CL.mk c3.ve c3.vc c3.vr c3.vx (.slice (some ⟨b32,0,none⟩) 1 1) c3.ev c3.co c3.rq c3.ex [⟨zy,.slice (some ⟨b30,0,none⟩) 2 2,[(0,1),(1,1)],1⟩]):=by
  have h9:=hA3.st ((hs913.trans' hs1316).trans' hs1619)
  refine ⟨h9.ev,h9.co,h9.rq,h9.ex,UU.st (w:=w18) ⟨hB32.arr (nB _ (by omega)) (n:=1) (cap:=1) (sz:=3) rfl (by decide) (Nat.le_refl _),λq hq=>?_,λq hq=>?_⟩ (hs19.mono m3)⟩
  ·rw[List.mem_singleton.1 hq]
   exact (hB30.ext hs18).arr (nB _ (by omega)) (n:=2) (cap:=2) (sz:=2) rfl (by decide) (Nat.le_refl _)
  ·rw[List.mem_singleton.1 hq];exact YL (by decide)
 have hN1':Zv [] w19.heap _:=((hN1.st hs1316).st hs1619).up (L':=[]) (by simp)
 have hN2':Zv [] w19.heap _:=(hN2.st hs1619).up (L':=[]) (by simp)
 have hN3':Zv [] w19.heap _:=hN3.up (L':=[]) (by simp)
 have hB119:=(hB113.step (hs1315.any.trans' hs16) (by simp only[List.mem_singleton];omega)).step (hs1618.any.trans' hs19) (by simp only[List.mem_singleton];omega)
 have hB219:=hB216.step (hs1618.any.trans' hs19) (by simp only[List.mem_singleton];omega)
 have hs019:Step [] w w19:=hs09.then ((hs913.trans' hs1316).trans' hs1619) (λb hb=>.inr (by have:=(hB3 b hb).1;have:=((hs1.trans hs2).trans hs3).size;omega))
 have hq1:=CL.cel_rq hc1 (.slice (some ⟨b20,0,none⟩) 1 1) [⟨KI,⟨.slice (some ⟨b16,0,none⟩) 1 1,.slice (some ⟨b17,0,none⟩) 1 1,nS,zO.a⟩⟩]
 have hq2:=CL.cel_ex hc2 (.slice (some ⟨b26,0,none⟩) 1 1) [⟨Jz,.slice (some ⟨b24,0,none⟩) 2 2,[(0,1),(1,1)]⟩]
 have hq3:=CL.cel_cs hc3 (.slice (some ⟨b32,0,none⟩) 1 1) [⟨zy,.slice (some ⟨b30,0,none⟩) 2 2,[(0,1),(1,1)],1⟩]
 refine Qc<|x (Qr hB119 rfl rfl)<|xl rfl<|xf<|(jR (k:=k1C) hN1' hq1 Qj1 (hkb.ext hs019)).mono ?_
 rintro r20 w20 ⟨hs20,sa,sm,se,s1,s2,s3,s4,rfl,hso,hsF⟩
 rw[Qj0] at hsF
 refine Qb<|x (Qp rfl rfl)<|x (Qp rfl rfl)<|xl rfl<|Qu (us:=Qiy) rfl λb4 w21 hs21 hb4 hB4=>xl rfl<|Qo (us:=[sa,.int .i64 (spc k1C).a.st,sm,se,s1,s2,s3,s4]) hB4 rfl rfl rfl rfl hso λw22 hs22 hB422=>Qe ?_
 have hs2022:Step [] w20 w22:=hs21.then1 hs22 hb4
 have hs1922:=hs20.trans hs2022
 have hs022:=hs019.trans hs1922
 refine Qc<|x (Qr (hB119.ext hs1922) rfl rfl)<|xl rfl<|xf<|(Qi8 (k:=k1C) (hN1'.ext hs1922) hq1 Qj1 (by rw[QhR];decide) QiD (hkb.ext hs022)).mono ?_
 rintro r23 w23 ⟨hs23,xa,xm,xe',vb,rfl,hxo,hvb⟩
 rw[QiE] at hvb
 have hvI:QM [] w23.heap vb [2]:=Qt.ints (L:=[]) hvb (by simp) (by simp)
 refine Qb<|x (Qp rfl rfl)<|x (Qp rfl rfl)<|x (Qp rfl rfl)<|xl rfl<|Qu (us:=Um) rfl λb6 w24 hs24 hb6 hB6=>xl rfl<|Qo (us:=[xa,.int .i64 ((spc k1C).a.st+1),xm,xe']) hB6 rfl rfl rfl rfl ⟨hxo.1,rfl,hxo.2.1,hxo.2.2.1,trivial⟩ λw25 hs25 hB625=>x Qh<|Qe ?_
 have hs2325:Step [] w23 w25:=hs24.then1 hs25 hb6
 have hs2225:=hs23.trans hs2325
 have hs1925:=hs1922.trans hs2225
 have hs025:=hs022.trans hs2225
 refine Qc<|x (Qr (hB219.ext hs1925) rfl rfl)<|xl rfl<|xf<|(jR (k:=k2C) (hN2'.ext hs1925) hq2 QkS (hkb.ext hs025)).mono ?_
 rintro r26 w26 ⟨hs26,ta,tm,te,t1,t2,t3,t4,rfl,hto,htF⟩
 rw[QjY] at htF
 refine Qb<|x (Qp rfl rfl)<|x (Qp rfl rfl)<|xl rfl<|Qu (us:=Qiy) rfl λb9 w27 hs27 hb9 hB9=>xl rfl<|Qo (us:=[ta,.int .i64 (spc k2C).a.st,tm,te,t1,t2,t3,t4]) hB9 rfl rfl rfl rfl hto λw28 hs28 hB928=>Qe ?_
 have hs2628:Step [] w26 w28:=hs27.then1 hs28 hb9
 have hs2528:=hs26.trans hs2628
 have hs1928:=hs1925.trans hs2528
 have hs028:=hs025.trans hs2528
 refine Qc<|x (Qr (hB319.ext hs1928) rfl rfl)<|xl rfl<|xf<|(jR (k:=k3C) (hN3'.ext hs1928) hq3 QkR (hkb.ext hs028)).mono ?_
 rintro r29 w29 ⟨hs29,ua,um,ue,u1,u2,u3,u4,rfl,huo,huF⟩
 rw[QjW] at huF
 refine Qb<|x (Qp rfl rfl)<|x (Qp rfl rfl)<|xl rfl<|Qu (us:=Qiy) rfl λb11 w30 hs30 hb11 hB11=>xl rfl<|Qo (us:=[ua,.int .i64 (spc k3C).a.st,um,ue,u1,u2,u3,u4]) hB11 rfl rfl rfl rfl huo λw31 hs31 hB1131=>Qe ?_
 have hs2931:Step [] w29 w31:=hs30.then1 hs31 hb11
 have hs2831:=hs29.trans hs2931
 have hs031:=hs028.trans hs2831
 have hB431:=((hB422.ext hs2225).ext hs2528).ext hs2831
 have hB631:=(hB625.ext hs2528).ext hs2831
 have hB931:=hB928.ext hs2831
 have hsF31:=((((hsF.ext hs2022).ext hs2225).ext hs2528).ext hs2831)
 have htF31:=(htF.ext hs2628).ext hs2831
 have huF31:=huF.ext hs2931
 have hvI31:=((hvI.ext hs2325).ext hs2528).ext hs2831
 refine QV (α:=Unit) [(0,0),(55,105)] (λz=>[(0,.bool true)]) (λz w'=>Step [] w31 w') (by rfl) ?_ ?_
 ·refine Qw<|Qb<|xb (Q5 rfl rfl) (λh56=>?_) (λh56=>absurd rfl h56)
  refine Qb<|Qb<|xb (Q5 rfl rfl) (λh59=>?_) (λh59=>absurd rfl h59)
  refine x (Ql rfl)<|Qb<|Qb<|xb (Q5 rfl rfl) (λh63=>?_) (λh63=>absurd rfl h63)
  refine x (Ql rfl)<|Qb<|Qb<|xb (Q5 rfl rfl) (λh67=>?_) (λh67=>absurd rfl h67)
  refine x (Ql rfl)<|Qb<|x (Qa rfl)<|x (Qd hB431 rfl rfl)<|x (QE ⟨rfl,rfl,rfl,rfl,trivial⟩)<|xl rfl<|QD (us:=[Zw ⟨1,3,0,1⟩]) rfl rfl (by decide) (by exact (by decide:1*4≤1000000)) ⟨rfl,rfl,trivial⟩ λb73 w32 hs32 hb73 hB73 =>
   xl rfl<|xf<|(Vp (l:=[⟨1,3,0,1⟩]) (hsF31.ext hs32) (hB73.arr (L:=[]) (by simp) (n:=1) (cap:=1) (sz:=4) rfl (by decide) (Nat.le_refl _))).mono ?_
  rintro r74 w33 ⟨rfl,hs33⟩
  have hs3133:=hs32.trans hs33
  refine x (Ql rfl)<|Qb<|x (Qa rfl)<|x (Qd (hB631.ext hs3133) rfl rfl)<|xb (Q5 rfl rfl) (λh79=>?_) (λh79=>Qjk (by rw[QhR];rfl) h79)
  refine x (Ql rfl)<|Qb<|Qb<|xl rfl<|QD (us:=[[.int .i64 2]]) rfl rfl (by decide) (by simp) ⟨rfl,rfl,trivial⟩ λb83 w34 hs34 hb83 hB83 =>
   xl rfl<|xf<|(JW (l:=[2]) (l':=[2]) ((hvI31.ext hs3133).ext hs34) (hB83.arr (L:=[]) (by simp) (n:=1) (cap:=1) (sz:=1) rfl (by omega) (Nat.le_refl _))).mono ?_
  rintro r84 w35 ⟨hr84,hs35⟩
  rw[decide_eq_true rfl] at hr84
  subst hr84
  have hs3135:=hs3133.trans (hs34.trans hs35)
  refine x (Ql rfl)<|Qb<|x (Qa rfl)<|x (Qa rfl)<|x (Qd (hB931.ext hs3135) rfl rfl)<|xb (Q5 rfl rfl) (λh90=>?_) (λh90=>Qjk QjX h90)
  refine x (Ql rfl)<|Qb<|x (Qa rfl)<|x (Qd (hB931.ext hs3135) rfl rfl)<|x (QE ⟨rfl,rfl,rfl,rfl,trivial⟩)<|xl rfl<|QD (us:=[Zw ⟨3,1,0,-1⟩]) rfl rfl (by decide) (by exact (by decide:1*4≤1000000)) ⟨rfl,rfl,trivial⟩ λb96 w36 hs36 hb96 hB96 =>
   xl rfl<|xf<|(Vp (l:=[⟨3,1,0,-1⟩]) ((htF31.ext hs3135).ext hs36) (hB96.arr (L:=[]) (by simp) (n:=1) (cap:=1) (sz:=4) rfl (by decide) (Nat.le_refl _))).mono ?_
  rintro r97 w37 ⟨rfl,hs37⟩
  have hs3137:=hs3135.trans (hs36.trans hs37)
  refine x (Ql rfl)<|Qb<|x (Qa rfl)<|x (Qd (hB1131.ext hs3137) rfl rfl)<|x (QE ⟨rfl,rfl,rfl,rfl,trivial⟩)<|xl rfl<|QD (us:=[Zw ⟨3,2,0,-1⟩]) rfl rfl (by decide) (by exact (by decide:1*4≤1000000)) ⟨rfl,rfl,trivial⟩ λb103 w38 hs38 hb103 hB103 =>
   xl rfl<|xf<|(Vp (l:=[⟨3,2,0,-1⟩]) ((huF31.ext hs3137).ext hs38) (hB103.arr (L:=[]) (by simp) (n:=1) (cap:=1) (sz:=4) rfl (by decide) (Nat.le_refl _))).mono ?_
  rintro r104 w39 ⟨rfl,hs39'⟩
  refine x (Ql rfl)<|Qe ?_
  exact ⟨(),⟨rfl,trivial⟩,hs3137.trans (hs38.trans hs39')⟩
 rintro z g w40 hs40
 exact Qm ⟨[.bool true],⟨rfl,trivial⟩,rfl,hs031.trans hs40⟩
end Go.Proofs.YtdffckgdcegpaaaGreatDoor
