/- Merged out of 27 texts. -/
import Derived.Test.YtgmifemhkjdblaaGreatDoorKhb
namespace Go.Proofs.YtgmifemhkjdblaaGreatDoor
open Go.Lg
def cnE (p:Ed→Bool) (es:List Ed):Int:=((es.filter p).length:Int)
theorem j8 (p:Ed→Bool) (es:List Ed) (e:Ed):cnE p (es++[e])=cnE p es+if p e=true then 1 else 0:=by
 unfold cnE
 rw[List.filter_append,List.length_append]
 by_cases h:p e=true
 ·simp[h]
 ·simp[h]
theorem KB (p:Ed→Bool) (es:List Ed):0≤cnE p es∧cnE p es≤es.length:=by
 unfold cnE
 have:=List.length_filter_le p es
 omega
def gA (n:Nat) (f:Nat→Int):LI:=(List.range n).map f
theorem Qjp (n:Nat) (f:Nat→Int):(gA n f).length=n:=by simp[gA]
theorem Qfq {n:Nat}{f:Nat→Int}{i:Nat}(h:i<(gA n f).length):(gA n f)[i]'h=f i:=by simp[gA]
theorem UN {n:Nat}{f g:Nat→Int}{i:Nat}{u:Int}(hu:u=g i) (h:∀j,j<n→j≠i→g j=f j):(gA n f).set i u=gA n g:=by
 apply List.ext_getElem
 ·simp[gA]
 ·intro k h1 h2
  rw[List.getElem_set,Qfq h2]
  by_cases e:i=k
  ·rw[if_pos e,hu,e]
  ·rw[if_neg e,Qfq]
   exact (h k (by simpa[gA] using h2) (Ne.symm e)).symm
theorem UO {n:Nat}{f g:Nat→Int}(h:∀j,j<n→f j=g j):gA n f=gA n g:=List.map_congr_left (fun j hj=>h j (List.mem_range.1 hj))
def cN (es:List Ed) (s:Nat):Int:=cnE (fun e=>decide (e.1+1=(s:Int))) es
def fS (es:List Ed) (s:Nat):Int:=cnE (fun e=>decide (e.1<(s:Int))) es
theorem Qct (es:List Ed) (s:Nat):fS es (s+1)=cN es (s+1)+fS es s:=by
 unfold fS cN cnE
 induction es with
 | nil=>rfl
 | cons e es ih =>
  simp only[List.filter_cons]
  by_cases h1:e.1<(s:Int)
  ·have h2:e.1<((s+1:Nat):Int):=by omega
   have h3:¬e.1+1=((s+1:Nat):Int):=by omega
   simp only[h1,h2,h3,decide_true,decide_false,if_true,List.length_cons] at ih ⊢
   simp only[Bool.false_eq_true,if_false] at ih ⊢
   omega
  ·by_cases h2:e.1+1=((s+1:Nat):Int)
   ·have h3:e.1<((s+1:Nat):Int):=by omega
    simp only[h1,h2,h3,decide_true,decide_false,if_true,List.length_cons] at ih ⊢
    simp only[Bool.false_eq_true,if_false] at ih ⊢
    omega
   ·have h3:¬e.1<((s+1:Nat):Int):=by omega
    simp only[h1,h2,h3,decide_false,Bool.false_eq_true,if_false] at ih ⊢
    exact ih
theorem Qcs {es:List Ed}(h:∀e∈es,0≤e.1):fS es 0=0∧cN es 0=0:=by
 unfold fS cN cnE
 refine ⟨?_,?_⟩
 ·have:(es.filter fun e=>decide (e.1<((0:Nat):Int)))=[]:=List.filter_eq_nil_iff.2 (fun e he=>by have:=h e he;simp;omega)
  rw[this];rfl
 ·have:(es.filter fun e=>decide (e.1+1=((0:Nat):Int)))=[]:=List.filter_eq_nil_iff.2 (fun e he=>by have:=h e he;simp;omega)
  rw[this];rfl
def mX (es:List Ed) (s j:Nat):Int:=if j≤s then fS es j else cN es j
theorem Qho {es:List Ed}(h:∀e∈es,0≤e.1) (n:Nat):gA n (cN es)=gA n (mX es 0):=UO fun j _=>by
 unfold mX
 by_cases e:j≤0
 ·have:j=0:=by omega
  subst this
  rw[if_pos (Nat.le_refl _),(Qcs h).1,(Qcs h).2]
 ·rw[if_neg e]
theorem Qhp (es:List Ed) (s n:Nat):(gA n (mX es s)).set (s+1) (mX es s (s+1)+mX es s s)=gA n (mX es (s+1)):=by
 refine UN ?_ fun j _ hj=>?_
 ·unfold mX
  rw[if_neg (by omega),if_pos (Nat.le_refl _),if_pos (Nat.le_refl _),Qct]
 ·unfold mX
  by_cases e:j≤s
  ·rw[if_pos (by omega),if_pos e]
  ·rw[if_neg (by omega),if_neg e]
theorem Qig (es:List Ed) (e:Ed) (h0:0≤e.1) (n:Nat):(gA n (cN es)).set (e.1.toNat+1) (cN es (e.1.toNat+1)+1)=gA n (cN (es++[e])):=by
 refine UN ?_ fun j _ hj=>?_
 ·unfold cN
  rw[j8,if_pos (by simp;omega)]
 ·unfold cN
  rw[j8,if_neg (by simp;omega)];simp
theorem ze (n:Nat):(List.replicate n (Value.int .i64 0).cells.toList).flatten=(gA n (cN [])).map (Value.int .i64):=by
 apply List.ext_getElem
 ·simp[Value.cells,gA]
 ·intro i h1 h2
  simp[Value.cells,gA,cN,cnE]
section
variable {P:Program} {K:Fr→World→Prop} {f:Fr} {w:World} {d:Option Nat} {ty:Nat} {ps:String} {af:Array Edge} {gd:Option (Nat×Bool)}
theorem KT {t:Nat}[Y9 P t] {x:Operand}{b T i n:Nat}{g:Nat→Int}(h:QS w.heap b T ((gA n g).map (.int .i64))) (hx:ev f x=.pointer (some ⟨b,0+i*1,none⟩)) (hi:i<n) :
  (execOp (ev f) ⟨d,.load t x,ty,ps,af,gd⟩).run P w=.ok (.value (.int .i64 (g i))) w:=Qd h hx (by simp[gA,hi])
theorem JH {t:Nat}[h1:Y9 P t] {x y:Operand}{b T i n:Nat}{g g':Nat→Int}{u:Int}(hB:QS w.heap b T ((gA n g).map (.int .i64))) (hx:ev f x=.pointer (some ⟨b,0+i*1,none⟩)) (hy:ev f y=.int .i64 u) (hi:i<n) (hg:(gA n g).set i u=gA n g')
  (hK:∀w',Step [b] w w'→QS w'.heap b T ((gA n g').map (.int .i64))→K (QU f d undef) w'):XO P ⟨d,.store t x y,ty,ps,af,gd⟩ f w K :=
 Xn hB hx hy (by rw[Qjp];exact hi) fun w' hs hB'=>hK w' hs (by rw[←hg];exact hB')
end
instance:Bw Tryz.prog 156 [nS,.int .i64 0,nS,nS,nS] [(0,4),(4,1)]:=⟨by kernel_rfl,by decide⟩
theorem JJ {w:World}{va vm ve:Value}{a:QM}{n:Nat}(h:Zp [] w.heap va vm ve a) (hn:a.st=(n:Int)) (hst1:a.st≤4096) (hed:∀e∈a.ed,0≤e.1∧e.1<a.st) :
  QG Tryz.prog 69 [.agg #[va,.int .i64 a.st,vm,ve]] w fun r w'=>Step [] w w'∧∃b,r=.agg #[va,.int .i64 a.st,vm,ve,.slice (some ⟨b,0,none⟩) (n+1) (n+1)]∧w.heap.size≤b∧QS w'.heap b 3 ((gA (n+1) (fS a.ed)).map (Value.int .i64)):=by
 have hel:=h.ed.le
 refine QG.of_W Tryz.func69 rfl Tryz.ntmps69 Tryz.results69 (by simp) ?_
 refine Qc<|xl rfl<|QR (us:=[va,.int .i64 a.st,vm,ve]) rfl fun b1 w1 hs1 hb1 hB1=>xl rfl<|Qu (us:=[nS,.int .i64 0,nS,nS,nS]) rfl fun b2 w2 hs2 hb2 hB2=>xe ?_
 have hs12:=hs1.trans hs2
 have hB12:=hB1.ext hs2
 have h2:=h.ext hs12
 have hn1:a.st+1=((n+1:Nat):Int):=by omega
 have hc0:Step [] w2 { w2 with drawn:=w2.drawn+1 }:=Step.drew [] w2
 have hz0:=hc0.size
 refine QV (α:=Nat×Nat) [(3,3),(7,12)] (fun z=>[(3,.pointer (some ⟨z.1,0,none⟩))]) (fun z w'=>Step [] w2 w'∧QS w'.heap z.1 156 [va,.int .i64 a.st,vm,ve,.slice (some ⟨z.2,0,none⟩) (n+1) (n+1)]∧QS w'.heap z.2 3 ((gA (n+1) (cN [])).map (Value.int .i64))∧w2.heap.size≤z.1∧w2.heap.size≤z.2∧z.1≠z.2) (by rfl) ?_ ?_
 ·refine Qiq (Step [] w2) (.f2 [(0,true),(1,true),(2,true),(3,true)] 4 6 (.pl [(5,true),(6,false),(7,false)]) (.pl [(4,false),(5,true),(7,false)])) Tryz.mixed (by rfl) (by kernel_rfl) (Step.drew _ _) ?_
  refine u2<|pq (fun _ hc=>Qq (hB12.ext hc) rfl rfl)<|p (fun _=>Qa rfl)<|pq (fun _ hc=>Qd (hB12.ext hc) rfl rfl)<|p (fun _=>Qy rfl rfl ⟨by omega,by omega⟩)<|pe ⟨?_,?_⟩
  ·refine ue<|Y5 (n:=n+1) (congrArg (Value.int .i64) hn1) (congrArg (Value.int .i64) hn1) (by omega) fun b11 w3 hs3 hb11 hB11=>?_
   have hc3:=hc0.trans hs3
   have hl11:=hB11.lt
   refine ⟨hc3,?_⟩
   refine uP<|p (fun _=>Zw [(0,[va,.int .i64 a.st,vm,ve]),(1,[.slice (some ⟨b11,0,none⟩) (n+1) (n+1)])] ⟨rfl,rfl,rfl,rfl,trivial⟩)<|pk<|Qu (us:=[nS,.int .i64 0,nS,nS,nS]) rfl fun b3 w4 hs4 hb3 hB3=>?_
   have hc4:=hc3.trans hs4
   refine ⟨hc4,?_⟩
   refine pk<|Qo (us:=[va,.int .i64 a.st,vm,ve,.slice (some ⟨b11,0,none⟩) (n+1) (n+1)]) hB3 rfl rfl rfl rfl ⟨h.al.one,rfl,h.mr.one,h.ed.one,rfl,trivial⟩ fun w5 hs5 hB5=>⟨hc4.then1 hs5 (by omega),pe ?_⟩
   have hB11':QS w3.heap b11 3 ((gA (n+1) (cN [])).map (Value.int .i64)):=by rw[←ze];exact hB11
   exact ⟨(b3,b11),⟨rfl,trivial⟩,hc4.then1 hs5 (by omega),hB5,(hB11'.ext hs4).step hs5 (by simp;omega),by simp only[];omega,by simp only[];omega,by simp only[];omega⟩
  ·refine ue<|Qu (us:=[nS,.int .i64 0,nS,nS,nS]) rfl fun b3 w3 hs3 hb3 hB3=>?_
   have hc3:=hc0.trans hs3
   have hl3:=hB3.lt
   refine ⟨hc3,?_⟩
   refine uP<|pk<|Y5 (n:=n+1) (congrArg (Value.int .i64) hn1) (congrArg (Value.int .i64) hn1) (by omega) fun b11 w4 hs4 hb11 hB11=>?_
   have hc4:=hc3.trans hs4
   refine ⟨hc4,?_⟩
   refine p (fun _=>Zw [(0,[va,.int .i64 a.st,vm,ve]),(1,[.slice (some ⟨b11,0,none⟩) (n+1) (n+1)])] ⟨rfl,rfl,rfl,rfl,trivial⟩)<|pk<|Qo (us:=[va,.int .i64 a.st,vm,ve,.slice (some ⟨b11,0,none⟩) (n+1) (n+1)]) (hB3.ext hs4) rfl rfl rfl rfl ⟨h.al.one,rfl,h.mr.one,h.ed.one,rfl,trivial⟩ fun w5 hs5 hB5=>⟨hc4.then1 hs5 (by omega),pe ?_⟩
   have hB11':QS w4.heap b11 3 ((gA (n+1) (cN [])).map (Value.int .i64)):=by rw[←ze];exact hB11
   exact ⟨(b3,b11),⟨rfl,trivial⟩,hc4.then1 hs5 (by omega),hB5,hB11'.step hs5 (by simp;omega),by simp only[];omega,by simp only[];omega,by simp only[];omega⟩
 rintro ⟨b3,bF⟩ g6 w6 ⟨hs6,hB3,hBF,hb3,hbF,hne⟩
 simp only[] at hB3 hBF hb3 hbF hne
 have hel':a.ed.length≤1099511627776:=hel
 have hB1':=hB12.ext hs6
 have hB2':=hB2.ext hs6
 have hl1:=hB12.lt
 have hl2:=hB2.lt
 refine Qg<|Qc<|x (Qa rfl)<|x (Qd hB1' rfl rfl)<|x (Qr h.ed rfl)<|Qb<|xe ?_
 have hed0:∀e∈a.ed,0≤e.1:=fun e he=>(hed e he).1
 refine Qh<|QA (α:=Nat) [(5,5),(16,29)] (fun z=>[(16,.int .i64 z)]) (fun z w'=>z≤a.ed.length∧Step [] w2 w'∧QS w'.heap b3 156 [va,.int .i64 a.st,vm,ve,.slice (some ⟨bF,0,none⟩) (n+1) (n+1)]∧QS w'.heap bF 3 ((gA (n+1) (cN (a.ed.take z))).map (Value.int .i64))) (fun z=>a.ed.length - z) (by rfl) 0 ⟨rfl,trivial⟩
  ⟨Nat.zero_le _,hs6,hB3,hBF⟩ ?_
 rintro k g w7 ⟨hk,hs7,hB37,hBF7⟩
 refine Qc<|x (QB rfl rfl)<|xe ?_
 refine Qg<|QD rfl (fun h17=>?_) (fun h17=>?_)
 ·refine Qz ?_
  have hke:a.ed.length≤k:=by have h18:¬(k:Int)<(a.ed.length:Int):=h17;omega
  rw[List.take_of_length_le hke,Qho hed0 (n+1)] at hBF7
  refine Qg<|Qc<|x (Qa rfl)<|x (Qd (hB12.ext hs7) rfl rfl)<|Qb<|xe ?_
  refine Qh<|QA (α:=Nat) [(6,6),(32,48)] (fun z=>[(32,.int .i64 z)]) (fun z w'=>z≤n∧Step [] w2 w'∧QS w'.heap b3 156 [va,.int .i64 a.st,vm,ve,.slice (some ⟨bF,0,none⟩) (n+1) (n+1)]∧QS w'.heap bF 3 ((gA (n+1) (mX a.ed z)).map (Value.int .i64))) (fun z=>n - z) (by rfl) 0 ⟨rfl,trivial⟩
   ⟨Nat.zero_le _,hs7,hB37,hBF7⟩ ?_
  rintro j g w8 ⟨hj,hs8,hB38,hBF8⟩
  refine Qc<|x (QB rfl rfl)<|xe ?_
  refine Qg<|QD rfl (fun h33=>?_) (fun h33=>?_)
  ·refine Qz ?_
   have hje:n≤j:=by have h34:¬(j:Int)<a.st:=h33;omega
   have hjn:j=n:=by omega
   rw[hjn] at hBF8
   have hmx:gA (n+1) (mX a.ed n)=gA (n+1) (fS a.ed):=UO fun i hi=>by unfold mX;rw[if_pos (by omega)]
   rw[hmx] at hBF8
   refine Qc<|x (Qq hB38 rfl rfl)<|xl rfl<|Qo (us:=[va,.int .i64 a.st,vm,ve,.slice (some ⟨bF,0,none⟩) (n+1) (n+1)]) (hB2.ext hs8) rfl rfl rfl rfl ⟨h.al.one,rfl,h.mr.one,h.ed.one,rfl,trivial⟩ fun w9 hs9 hB9=>xe ?_
   have hz1:=hs1.size
   have hz12:=hs12.size
   refine Ql ⟨[_],⟨⟨_,rfl,Qx rfl (hB9.at (L:=[]) (by simp)).cells⟩,trivial⟩,((hs1.trans hs2).trans hs8).then1 hs9 (by omega),bF,rfl,by omega,hBF8.step hs9 (by simp;omega)⟩
  have hjn:j<n:=by have h34:(j:Int)<a.st:=h33;omega
  have hmj:=KB (fun e:Ed=>decide (e.1<(j:Int))) a.ed
  have hmj':=KB (fun e:Ed=>decide (e.1+1=((j+1:Nat):Int))) a.ed
  have hv1:mX a.ed j (j+1)=cN a.ed (j+1):=by unfold mX;rw[if_neg (by omega)]
  have hv0:mX a.ed j j=fS a.ed j:=by unfold mX;rw[if_pos (Nat.le_refl _)]
  have hb1:0≤mX a.ed j (j+1)∧mX a.ed j (j+1)≤1099511627776:=by rw[hv1];unfold cN;omega
  have hb0:0≤mX a.ed j j∧mX a.ed j j≤1099511627776:=by rw[hv0];unfold fS;omega
  refine Qi ?_
  refine Qg<|Qh<|Qc<|Qb<|Qf ?_
  refine QT (Step [] w8) [(0,true),(1,true),(2,true),(3,true),(4,true),(5,true),(6,true),(7,true),(8,true),(9,true),(10,true),(11,true),(12,true),(13,false)] Tryz.mixed (by rfl) (by kernel_rfl) (Step.drew _ _) ?_
  refine p (fun _=>Qa rfl)<|pq (fun _ hc=>Qd (hB38.ext hc) rfl rfl)<|p (fun _=>Qm)<|p (fun _=>Qy rfl rfl ⟨by omega,by omega⟩) <|
   p (fun _=>QQ (i:=j+1) rfl rfl (by omega))<|pq (fun _ hc=>KT (i:=j+1) (hBF8.ext hc) rfl (by omega))<|p (fun _=>Qa rfl)<|pq (fun _ hc=>Qd (hB38.ext hc) rfl rfl) <|
   p (fun _=>Qm)<|p (fun _=>QQ (i:=j) rfl rfl (by omega))<|pq (fun _ hc=>KT (i:=j) (hBF8.ext hc) rfl (by omega))<|p (fun _=>Qy rfl rfl ⟨by omega,by omega⟩) <|
   p (fun _=>QQ (i:=j+1) rfl rfl (by omega))<|pkl (hl:=by kernel_rfl)<|JH (i:=j+1) (hBF8.ext (Step.drew [] w8)) rfl rfl (by omega) (Qhp a.ed j (n+1)) fun w9 hs9 hBF9=>pe ?_
  refine Qw<|x (Qy rfl rfl ⟨by omega,by omega⟩)<|Qb<|xe ?_
  exact ⟨j+1,by omega,⟨rfl,trivial⟩,hjn,(hs8.trans (Step.drew [] w8)).then1 hs9 hbF,(hB38.ext (Step.drew [] w8)).step hs9 (by simp;omega),hBF9⟩
 have hlt:k<a.ed.length:=by have h18:(k:Int)<(a.ed.length:Int):=h17;omega
 have htk:a.ed.take (k+1)=a.ed.take k++[a.ed[k]'hlt]:=List.take_succ_eq_append_getElem hlt
 have hek:=hed _ (List.getElem_mem hlt)
 refine Zf (a.ed[k]'hlt) fun e he=>?_
 rw[he] at htk hek
 have hfr:e.1+1=((e.1.toNat+1:Nat):Int):=by omega
 have hst:=Qig (a.ed.take k) e hek.1 (n+1)
 have hcl:=KB (fun d:Ed=>decide (d.1+1=((e.1.toNat+1:Nat):Int))) (a.ed.take k)
 have hcl':0≤cN (a.ed.take k) (e.1.toNat+1)∧cN (a.ed.take k) (e.1.toNat+1)≤1099511627776:=by unfold cN;rw[List.length_take] at hcl;omega
 refine Qi ?_
 refine Qg<|Qh<|Qc<|xie (h2.ed.ext hs7) rfl rfl hlt fun a18 h18=>?_
 rw[he] at h18
 refine x (QK h18 rfl rfl)<|xl rfl<|Qu (us:=[.int .i64 0,.int .i64 0,.int .i64 0]) rfl fun b5 w8 hs8 hb5 hB5=>xl rfl<|Qo (us:=QC e) hB5 rfl rfl rfl rfl ⟨rfl,rfl,rfl,trivial⟩ fun w9 hs9 hB5'=>xe ?_
 have hs79:Step [] w7 w9:=hs8.then1 hs9 hb5
 refine Qw<|x (Qa rfl)<|x (Qd (hB37.ext hs79) rfl rfl)<|x (Qa rfl)<|x (Qd hB5' rfl rfl)<|x (Qy rfl rfl ⟨by omega,by omega⟩)<|x (QQ (i:=e.1.toNat+1) rfl (congrArg (Value.int .i64) hfr) (by omega)) <|
  x (KT (i:=e.1.toNat+1) (hBF7.ext hs79) rfl (by omega))<|x (Qy rfl rfl ⟨by omega,by omega⟩)<|x (QQ (i:=e.1.toNat+1) rfl (congrArg (Value.int .i64) hfr) (by omega)) <|
  xl rfl<|JH (i:=e.1.toNat+1) (hBF7.ext hs79) rfl rfl (by omega) hst fun w10 hs10 hBF10=>xe ?_
 refine Qw<|x (Qy rfl rfl ⟨by omega,by omega⟩)<|Qb<|xe ?_
 refine ⟨k+1,by omega,⟨rfl,trivial⟩,hlt,(hs7.trans hs79).then1 hs10 hbF,(hB37.ext hs79).step hs10 (by simp;omega),?_⟩
 rw[htk];exact hBF10
end Go.Proofs.YtgmifemhkjdblaaGreatDoor
namespace Go.Lg
open Go.RowKit
def YI (w:World) (base e sz:Nat) (v:Value) (n:Nat) (cs:LV):Prop :=
 cs.length=n*sz∧((v=nS∧n=0)∨∃g off cap cur,v=.slice (some ⟨g,off,none⟩) n cap∧base≤g∧w.heap[g]?=some (.cells cur e (0,0))∧n≤cap∧cap≤maxLen∧off+cap*sz≤cur.size∧(cur.toList.drop off).take (n*sz)=cs)
theorem YI.of_row {w:World}{base e sz n:Nat}{v:Value}{cs:LV}(h:w.ownsRow base e sz v n cs):YI w base e sz v n cs :=
 ⟨h.1,h.2.imp id fun ⟨g,cap,cur,h1,h2,h3,h4,h5,h6,h7⟩=>⟨g,0,cap,cur,h1,h2,h3,h4,h5,by omega,by simpa using h7⟩⟩
theorem QeE {X:LN}{w w':World}{base e sz n:Nat}{v:Value}{cs:LV}(h:YI w base e sz v n cs) (hs:Step X w w') (hX:∀b∈ob v,b∉X):YI w' base e sz v n cs:=by
 refine ⟨h.1,h.2.imp id fun ⟨g,off,cap,cur,h1,h2,h3,h4⟩=>⟨g,off,cap,cur,h1,h2,?_,h4⟩⟩
 rw[hs.block g (Array.getElem?_eq_some_iff.1 h3).1 (hX g (by rw[h1];simp[ob]))];exact h3
theorem Qky {w w':World}{base e sz n:Nat}{v:Value}{cs:LV}(h:YI w base e sz v n cs) (hs:Step [] w w'):YI w' base e sz v n cs:=QeE h hs (fun _ _=>by simp)
theorem Qi5 {w:World}{base e sz n:Nat}{v:Value}{cs:LV}(h:YI w base e sz v n cs):∀b∈ob v,base≤b∧b<w.heap.size:=by
 intro b hb
 rcases h.2 with ⟨h1,_⟩ | ⟨g,off,cap,cur,h1,h2,h3,_⟩
 ·subst h1;simp[ob] at hb
 ·subst h1;simp[ob] at hb;subst hb;exact ⟨h2,(Array.getElem?_eq_some_iff.1 h3).1⟩
theorem Qb1 {w:World}{g off e n:Nat}{cur:Array Value}{cs:LV}(h3:w.heap[g]?=some (.cells cur e (0,0))) (h7:(cur.toList.drop off).take n=cs):∀j u,cs[j]?=some u→w.cell? ((⟨g,off,none⟩:Addr).add j)=some u:=by
 intro j u hu
 rw[Xi,Ym]
 unfold cel;simp only[h3]
 rw[←h7,List.getElem?_take] at hu
 split at hu
 ·simpa using hu
 ·cases hu
theorem QiH {L:LN}{w:World}{base e sz n:Nat}{v:Value}{cs:LV}(h:YI w base e sz v n cs) (hn:n≤1099511627776) (hL:∀b∈ob v,b∉L):Zs L w.heap v n sz cs:=by
 refine ⟨h.1,hn,?_⟩
 rcases h.2 with h1 | ⟨g,off,cap,cur,h1,h2,h3,h4,h5,h6,h7⟩
 ·exact .inl h1
 ·exact .inr ⟨_,_,h1,h4,hL g (by rw[h1];simp[ob]),(Array.getElem?_eq_some_iff.1 h3).1,fun j u hu=>Qb1 h3 h7 j u hu⟩
section
variable {P:Program} {K:Fr→World→Prop} {f:Fr} {w:World} {d:Option Nat} {ty:Nat} {ps:String} {af:Array Edge} {gd:Option (Nat×Bool)} {ops l:List Oper}
theorem Qlg {t e sz bys:Nat}{z:Value}[h:Sl P t e sz bys z] {x y1:Operand}{base:Nat}{v:Value}{n:Nat}{cs:LV}{k:IntKind}{lo:Nat}(hown:YI w base e sz v n cs) (hx:ev f x=v) (hl:ev f y1=.int k lo) (h1:lo≤n)
  (hK:∀v',YI w base e sz v' (n - lo) (cs.drop (lo*sz))→ob v'=ob v→XL P ops K l (QU f d v') w)
  (hg:ZY ops f ⟨d,.slice t x (some y1) none none,ty,ps,af,gd⟩=true:=by rfl):XL P ops K (⟨d,.slice t x (some y1) none none,ty,ps,af,gd⟩::l) f w:=by
 obtain ⟨i,hi',_,hsz,_⟩:=Sl.info h
 rcases hown.2 with ⟨hv,hn⟩ | ⟨g,off,cap,cur,hv,h2,h3,h4,h5,h6,h7⟩
 ·have e2:lo=0:=by omega
  subst e2 hn hv
  have hcs:cs=[]:=List.eq_nil_of_length_eq_zero (by simpa using hown.1)
  subst hcs
  refine xl hg (xv (v:=nS) ?_ (hK _ ⟨by simp,.inl ⟨rfl,rfl⟩⟩ rfl))
  simp[execOp,hx,hl,Instr.sliceAt,Instr.slice,run_underlying h.u,Instr.sliceBounds,Instr.sliceBound,asIntOf,sizeOf,typeInfo,hi']
 ·subst hv
  have e2:(Instr.sliceBound (.int k lo) n .sliceB).run P w=.ok lo w:=Yk h1
  have hr:(execOp (ev f) ⟨d,.slice t x (some y1) none none,ty,ps,af,gd⟩).run P w=.ok (.value (.slice (if cap=lo then some ⟨g,off,none⟩ else some ((⟨g,off,none⟩:Addr).add (lo*sz))) (n - lo) (cap - lo))) w:=by
   simp[execOp,hx,hl,Instr.sliceAt,Instr.slice,run_underlying h.u,Instr.sliceBounds,e2,sizeOf,typeInfo,hi',hsz]
  have hlen:(cs.drop (lo*sz)).length=(n - lo)*sz:=by rw[List.length_drop,hown.1,←Nat.sub_mul]
  by_cases hc:cap=lo
  ·rw[if_pos hc] at hr
   have hnl:n - lo=0:=by omega
   refine xl hg (xv hr (hK _ ⟨hlen,.inr ⟨g,off,cap - lo,cur,rfl,h2,h3,by omega,by omega,?_,?_⟩⟩ rfl))
   ·have:(cap - lo)*sz≤cap*sz:=Nat.mul_le_mul_right _ (by omega)
    omega
   ·rw[hnl] at hlen ⊢
    have:cs.drop (lo*sz)=[]:=List.eq_nil_of_length_eq_zero (by simpa using hlen)
    rw[this];simp
  ·rw[if_neg hc,Ym] at hr
   refine xl hg (xv hr (hK _ ⟨hlen,.inr ⟨g,off+lo*sz,cap - lo,cur,rfl,h2,h3,by omega,by omega,?_,?_⟩⟩ rfl))
   ·rw[Nat.sub_mul]
    have:lo*sz≤cap*sz:=Nat.mul_le_mul_right _ (by omega)
    omega
   ·rw[←h7,List.drop_take,List.drop_drop,←Nat.sub_mul]
theorem z6 {base t ty e:Nat}{sz bys:Nat}{z:Value}[h:Sl P t e sz bys z] {v:Value}{n:Nat}{cs:LV}(hown:YI w base e sz v n cs)
  {a:Addr} {m c:Nat} {news:LV} (hl:news.length=m*sz) (hm:0<m) (hnews:∀j u,news[j]?=some u→w.cell? (a.add j)=some u) (h1:∀u∈news,u.oneCell'=true)
  (hb:n+m≤1099511627776) (hby:bys≤128) (hbase:base≤w.heap.size) :
  ∃v' w',(Builtin.append_ #[t,t] ty #[v,.slice (some a) m c]).run P w=.ok v' w'∧YI w' base e sz v' (n+m) (cs++news)∧Step (ob v) w w'∧(∀b∈ob v',b∈ob v∨w.heap.size≤b):=by
 obtain ⟨i,hi,hz,hsz,hbys⟩:=Sl.info h
 have hbytes:(n+m)*bys≤140737488355328:=Nat.le_trans (Nat.mul_le_mul hb hby) (by omega)
 have h63:n+m≤maxLen:=by simp only[maxLen];omega
 have new:∀(old:Nat),∀o',o'=(Obj.cells (cs.toArray++news.toArray++Builtin.zeroCells z.cells (grownCap w (n+m) old e - (n+m))) e) →
    YI (w.drew.alloc o') base e sz (.slice (some ⟨w.heap.size,0,none⟩) (n+m) (grownCap w (n+m) old e)) (n+m) (cs++news):=by
   intro old o' ho'
   subst ho'
   have hge:=grownCap_ge w (n+m) old e
   have hcm:grownCap w (n+m) old e≤maxLen:=grownCap_le_maxLen w (n+m) old e h63
   have hlen:(cs++news).length=(n+m)*sz:=by rw[List.length_append,hown.1,hl,Nat.add_mul]
   refine YI.of_row ⟨hlen,.inr ⟨w.heap.size,_,_,rfl,hbase,JT w.drew _,hge,hcm,?_,?_⟩⟩
   ·simp only[Array.size_append,List.size_toArray,size_zeroCells,h.zs,hown.1,hl,←Nat.add_mul]
    congr 1;omega
   ·simp only[Array.toList_append,List.append_assoc]
    rw[←List.append_assoc,←hlen]
    exact List.take_left
 have stp:∀o',Step (ob v) w (w.drew.alloc o'):=fun o'=>⟨rfl,rfl,rfl,by rw[yI];exact Nat.le_succ _,fun k hk _=>Qbv w.drew o' k hk⟩
 have fin:∀(b:Nat),b∈ob (.slice (some ⟨w.heap.size,0,none⟩) (n+m) 0)→b∈ob v∨w.heap.size≤b:=fun b hb'=>by simp[ob] at hb';omega
 rcases hown.2 with ⟨rfl,rfl⟩ | ⟨g,off,cap,cur,rfl,hbg,hgg,hnc,hcm,hcs,htake⟩
 ·have hx:cs=[]:=List.eq_nil_of_length_eq_zero (by simpa using hown.1)
  subst hx
  have hr:=run_append_nil (P:=P) w t ty e i z h.u hi hz a m c news (by rw[hsz];exact hl) hnews hm (by omega) (by rw[hbys];have hb2:=hbytes;simp only[Nat.zero_add] at hb2;omega)
  have hn:=new 0 _ rfl
  simp only[Nat.zero_add,List.nil_append,Array.empty_append] at hn ⊢
  exact ⟨_,_,hr,hn,stp _,fun b hb'=>fin b hb'⟩
 ·rcases Nat.lt_or_ge cap (n+m) with hroom | hroom
  ·have holds:=Qb1 (w:=w) hgg htake
   have hr:=run_append_grow (P:=P) w t ty e i z h.u hi hz ⟨g,off,none⟩ n cap cs (by rw[hsz];exact hown.1) holds a m c news (by rw[hsz];exact hl) hnews hroom (by omega) (growslice_fits hroom (by rw[hbys];exact hbytes))
   exact ⟨_,_,hr,new cap _ rfl,stp _,fun b hb'=>fin b hb'⟩
  ·have hfit:off+n*i.size+news.length≤cur.size:=by
    rw[hl,hsz]
    have:(n+m)*sz≤cap*sz:=Nat.mul_le_mul_right _ hroom
    rw[Nat.add_mul] at this;omega
   have hf:=run_firstCells_some (P:=P) w i.size m a m c news (by rw[hsz];exact hl) hnews
   have hst:=run_storeCells_at P g (off+n*i.size) e news 0 cur w hgg (by simpa using hfit) h1
   simp only[Nat.add_zero] at hst
   have hr:(Builtin.append_ #[t,t] ty #[.slice (some ⟨g,off,none⟩) n cap,.slice (some a) m c]).run P w =
     .ok (.slice (some ⟨g,off,none⟩) (n+m) cap) (w.setRow g (cur.toList.take (off+n*i.size)++news++cur.toList.drop (off+n*i.size+news.length)).toArray):=by
    simp[Builtin.append_,run_underlying h.u,sizeOf,typeInfo,hi,Builtin.lenOf,hroom,hf,Ym,hst]
   refine ⟨_,_,hr,⟨by rw[List.length_append,hown.1,hl,Nat.add_mul],.inr ⟨g,off,cap,_,rfl,hbg,setRow_heap w g _ _ e (0,0) hgg,hroom,hcm,?_,?_⟩⟩,?_,fun b hb'=>.inl hb'⟩
   ·simp only[List.size_toArray,List.length_append,List.length_take,List.length_drop,Array.length_toList]
    omega
   ·have hsz':cur.toList.length=cur.size:=Array.length_toList
    rw[hsz] at hfit ⊢
    have e1:(cur.toList.take (off+n*sz)).drop off=cs:=by
     rw[List.drop_take,show off+n*sz - off=n*sz by omega];exact htake
    have e2:(List.toArray (cur.toList.take (off+n*sz)++news++cur.toList.drop (off+n*sz+news.length))).toList.drop off=cs++news++cur.toList.drop (off+n*sz+news.length):=by
     show (cur.toList.take (off+n*sz)++news++cur.toList.drop (off+n*sz+news.length)).drop off=_
     rw[List.append_assoc,List.drop_append_of_le_length (by rw[List.length_take];omega),e1,List.append_assoc]
    rw[e2]
    have hlen:(cs++news).length=(n+m)*sz:=by rw[List.length_append,hown.1,hl,Nat.add_mul]
    rw[←hlen]
    exact List.take_left
   ·exact Step.setRow w g _
theorem Qi9 {t e sz bys:Nat}{z:Value}[h:Sl P t e sz bys z] {s y:Operand}{base:Nat}{v:Value}{n:Nat}{cs:LV}(hown:YI w base e sz v n cs) (hs:ev f s=v)
  {a:Addr} {m c:Nat} {news:LV} (hy:ev f y=.slice (some a) m c) (hl:news.length=m*sz) (hm:0<m) {L:LN} (hsrc:At L w.heap a news) (h1:∀u∈news,u.oneCell'=true)
  (hb:n+m≤1099511627776) (hbase:base≤w.heap.size)
  (hK:∀v' w',YI w' base e sz v' (n+m) (cs++news)→Step (ob v) w w'→(∀b∈ob v',b∈ob v∨w.heap.size≤b)→K (QU f d v') w') (hby:bys≤128:=by decide) :
  XO P ⟨d,.call ⟨.builtin .append,#[s,y],#[t,t]⟩,ty,ps,af,gd⟩ f w K:=by
 obtain ⟨v',w',hr,h2,h3,h4⟩:=z6 (P:=P) (t:=t) (ty:=ty) hown hl hm hsrc.cells h1 hb hby hbase (c:=c)
 have hr':(execOp (ev f) ⟨d,.call ⟨.builtin .append,#[s,y],#[t,t]⟩,ty,ps,af,gd⟩).run P w=.ok (.value v') w':=by
  simp[execOp,resolve,invoke,builtin,hs,hy,hr]
 exact xv hr' (hK v' w' h2 h3 h4)
end
abbrev Ju (e base:Nat) (w:World) (v:Value) (l:LI):Prop:=YI w base e 1 v l.length (l.map (.int .i64))
theorem Ju.snoc {e base:Nat}{w:World}{v:Value}{l:LI}{n:Int}(h:YI w base e 1 v (l.length+1) (l.map (Value.int .i64)++[.int .i64 n])):Ju e base w v (l++[n]):=by
 unfold Ju;simpa using h
theorem Ju.tail {e base:Nat}{w:World}{v:Value}{s:Int}{l:LI}(h:YI w base e 1 v ((s::l).length - 1) (((s::l).map (Value.int .i64)).drop (1*1))):Ju e base w v l:=by
 unfold Ju;simpa using h
end Go.Lg
namespace Go.Proofs.YtgmifemhkjdblaaGreatDoor
open Go.Lg
def Jv {α:Type}(f:Nat→α) (i:Nat) (x:α):Nat→α:=fun j=>if j=i then x else f j
theorem ZR {α:Type}(f:Nat→α) (i:Nat) (x:α):Jv f i x i=x:=by simp[Jv]
theorem Yf {α:Type}(f:Nat→α) {i j:Nat}(x:α) (h:j≠i):Jv f i x j=f j:=by simp[Jv,h]
theorem yX {α β:Type}(k:α→β) (n:Nat) (f:Nat→α) (i:Nat) (x:α):((List.range n).map fun j=>k (f j)).set i (k x)=(List.range n).map fun j=>k (Jv f i x j):=by
 apply List.ext_getElem
 ·simp
 ·intro j h1 h2
  rw[List.getElem_set]
  by_cases e:i=j
  ·subst e;simp[ZR]
  ·rw[if_neg e];simp[Yf _ _ (Ne.symm e)]
structure JV (base:Nat) (w:World) (n:Nat) (f:Nat→Value) (g:Nat→LI):Prop where
 own:∀i,i<n→Qs 3 base w (f i) (g i)
 dj:∀i j,i<n→j<n→i≠j→Dj (f i) (f j)
theorem JV.app {base n i:Nat}{w w':World}{f:Nat→Value}{g:Nat→LI}{v':Value}{l:LI}(h:JV base w n f g) (hi:i<n) (ho:Qs 3 base w' v' l) (hs:Step (ob (f i)) w w')
  (hn:∀b∈ob v',b∈ob (f i)∨w.heap.size≤b):JV base w' n (Jv f i v') (Jv g i l):=by
 refine ⟨fun j hj=>?_,fun j k hj hk hjk=>?_⟩
 ·by_cases e:j=i
  ·subst e;rw[ZR,ZR];exact ho
  ·rw[Yf _ _ e,Yf _ _ e]
   exact Qk (h.own j hj) hs (h.dj j i hj hi e)
 ·have key:∀j,j<n→j≠i→Dj v' (f j):=fun j hj e b hb hbj=>by
   rcases hn b hb with h1 | h1
   ·exact h.dj i j hi hj (Ne.symm e) b h1 hbj
   ·have:=Q0 (h.own j hj) b hbj;omega
  by_cases e1:j=i
  ·subst e1
   rw[ZR,Yf _ _ (Ne.symm hjk)]
   exact key k hk (Ne.symm hjk)
  ·rw[Yf _ _ e1]
   by_cases e2:k=i
   ·subst e2;rw[ZR];exact (key j hj e1).symm
   ·rw[Yf _ _ e2];exact h.dj j k hj hk hjk
theorem JV.step {base n:Nat}{X:LN}{w w':World}{f:Nat→Value}{g:Nat→LI}(h:JV base w n f g) (hs:Step X w w') (hX:∀i,i<n→∀b∈ob (f i),b∉X):JV base w' n f g :=
 ⟨fun i hi=>Qk (h.own i hi) hs (hX i hi),h.dj⟩
theorem JV.ext {base n:Nat}{w w':World}{f:Nat→Value}{g:Nat→LI}(h:JV base w n f g) (hs:Step [] w w'):JV base w' n f g:=h.step hs (fun _ _ _ _=>by simp)
def Zz (es:List Ed) (s:Nat):LI:=(es.filter fun e=>decide (e.2.2=(s:Int))).map (·.1)
theorem UI (es:List Ed) (e:Ed) (h0:0≤e.2.2):∀s,Jv (Zz es) e.2.2.toNat (Zz es e.2.2.toNat++[e.1]) s=Zz (es++[e]) s:=by
 intro s
 unfold Zz
 rw[List.filter_append,List.map_append]
 by_cases h:s=e.2.2.toNat
 ·subst h
  rw[ZR]
  have:e.2.2=(e.2.2.toNat:Int):=by omega
  simp[←this]
 ·rw[Yf _ _ h]
  have:¬e.2.2=(s:Int):=by omega
  simp[this]
theorem zn {es:List Ed}{s:Nat}{p:Int}(h:p∈Zz es s):∃e∈es,e.1=p∧e.2.2=(s:Int):=by
 unfold Zz at h
 simp only[List.mem_map,List.mem_filter,decide_eq_true_eq] at h
 obtain ⟨e,⟨h1,h2⟩,h3⟩:=h
 exact ⟨e,h1,h3,h2⟩
theorem Xh (es:List Ed) (s:Nat):(Zz es s).length≤es.length:=by
 unfold Zz;rw[List.length_map];exact List.length_filter_le _ _
def qv (s:Int) (st:LI×LI) (p:Int):LI×LI:=if cget st.1 p.toNat<0 then (st.1.set p.toNat (cget st.1 s.toNat+1),st.2++[p]) else st
def bwL (es:List Ed):Nat→LI→LI→LI
 | 0,o,_=>o
 | _+1,o,[]=>o
 | f+1,o,s::q=>bwL es f ((Zz es s.toNat).foldl (qv s) (o,q)).1 ((Zz es s.toNat).foldl (qv s) (o,q)).2
def Vh (n:Nat) (to:LI):LI:=(List.range n).map fun i:Nat=>if (i:Int)∈to then 0 else -1
def bwd (n:Nat) (es:List Ed) (to:LI):LI:=bwL es (n+to.length) (Vh n to) to
theorem Qij (es:List Ed) (f:Nat) (o:LI):bwL es f o []=o:=by cases f <;> rfl
structure QbJ (n:Nat) (o q:LI):Prop where
 len:o.length=n
 q:∀x∈q,0≤x∧x<(n:Int)
 le:∀x∈o,-1≤x∧x+(neg o:Int)≤n
theorem Qa6 (l:LI):neg l≤l.length:=List.length_filter_le _ _
theorem Qf8 {n:Nat}{s p:Int}{st:LI×LI}(h:QbJ n st.1 st.2) (hs:0≤s∧s<(n:Int)) (hos:0≤cget st.1 s.toNat) (hp:0≤p∧p<(n:Int)) :
  QbJ n (qv s st p).1 (qv s st p).2∧neg (qv s st p).1+(qv s st p).2.length=neg st.1+st.2.length∧0≤cget (qv s st p).1 s.toNat:=by
 unfold qv
 have hl:=h.len
 have hpl:p.toNat<st.1.length:=by omega
 have hsl:s.toNat<st.1.length:=by omega
 by_cases hc:cget st.1 p.toNat<0
 ·rw[if_pos hc]
  have hc':st.1[p.toNat]'hpl<0:=by rw[Zl hpl];exact hc
  have hv:=h.le _ (Xs hsl)
  have hng:=KW st.1 p.toNat (cget st.1 s.toNat+1) hpl hc' (by omega)
  refine ⟨⟨by simp[hl],fun x hx=>?_,fun x hx=>?_⟩,?_,?_⟩
  ·simp only[List.mem_append,List.mem_singleton] at hx
   rcases hx with hx | rfl
   ·exact h.q x hx
   ·exact hp
  ·simp only[] at hx ⊢
   rcases List.mem_or_eq_of_mem_set hx with h1 | h1
   ·have:=h.le x h1;omega
   ·subst h1;omega
  ·simp only[List.length_append,List.length_singleton];omega
  ·simp only[]
   have hne:s.toNat≠p.toNat:=fun e=>by rw[e] at hos;omega
   have:cget (st.1.set p.toNat (cget st.1 s.toNat+1)) s.toNat=cget st.1 s.toNat:=by
    unfold cget;simp[List.getD,List.getElem?_set_ne (Ne.symm hne)]
   rw[this];exact hos
 ·rw[if_neg hc]
  exact ⟨h,rfl,hos⟩
theorem Jk (n:Nat) (to:LI):(Vh n to).length=n:=by simp[Vh]
theorem Qf9 {n:Nat}{to:LI}(h:∀x∈to,0≤x∧x<(n:Int)):QbJ n (Vh n to) to:=by
 refine ⟨Jk n to,h,fun x hx=>?_⟩
 have hn:=Qa6 (Vh n to)
 rw[Jk] at hn
 unfold Vh at hx
 simp only[List.mem_map] at hx
 obtain ⟨i,_,rfl⟩:=hx
 split <;> omega
theorem QcH {n:Nat}{to:LI}{x:Int}(h:0≤x∧x<(n:Int)) (hx:x∈to):cget (Vh n to) x.toNat=0:=by
 have h1:x.toNat<(Vh n to).length:=by rw[Jk];omega
 rw[←Zl h1]
 have:((x.toNat:Nat):Int)=x:=by omega
 simp[Vh,this,hx]
def Qgl (o q:LI):Prop:=∀x∈q,0≤cget o x.toNat
theorem Qak {n:Nat}{s p:Int}{st:LI×LI}(h:QbJ n st.1 st.2) (hos:0≤cget st.1 s.toNat) (hp:0≤p∧p<(n:Int)) (h0:Qgl st.1 st.2):Qgl (qv s st p).1 (qv s st p).2:=by
 unfold qv
 have hpl:p.toNat<st.1.length:=by have:=h.len;omega
 by_cases hc:cget st.1 p.toNat<0
 ·rw[if_pos hc]
  intro x hx
  simp only[] at hx ⊢
  have e1:cget (st.1.set p.toNat (cget st.1 s.toNat+1)) x.toNat=if x.toNat=p.toNat then cget st.1 s.toNat+1 else cget st.1 x.toNat:=by
   by_cases e:x.toNat=p.toNat
   ·rw[if_pos e,e];unfold cget;simp[List.getD,hpl]
   ·rw[if_neg e];unfold cget;simp[List.getD,List.getElem?_set_ne (Ne.symm e)]
  rw[e1]
  split
  ·omega
  ·rename_i e
   simp only[List.mem_append,List.mem_singleton] at hx
   rcases hx with hx | rfl
   ·exact h0 x hx
   ·exact absurd rfl e
 ·rw[if_neg hc];exact h0
theorem jl (n:Nat):(List.replicate n (nS).cells.toList).flatten=(List.range n).map (fun _=>nS):=by
 apply List.ext_getElem
 ·simp[Value.cells]
 ·intro i h1 h2
  simp[Value.cells]
theorem zm (n:Nat):(List.replicate n (Value.int .i64 0).cells.toList).flatten=(gA n (fun j=>if j<0 then -1 else 0)).map (Value.int .i64):=by
 apply List.ext_getElem
 ·simp[Value.cells,gA]
 ·intro i h1 h2
  simp[Value.cells,gA]
theorem KS {rv:Nat→Value}{n i:Nat}(hi:i<n):((List.range n).map rv)[0+i*1]?=some (rv i):=by simp[hi]
theorem VT {w:World}{va vm ve vf vt:Value}{a:QM}{n:Nat}{to:LI}(h:Zp [] w.heap va vm ve a) (hn:a.st=(n:Int)) (hst1:a.st≤4096) (hed:∀e∈a.ed,0≤e.1∧e.1<a.st∧0≤e.2.2∧e.2.2<a.st)
  (hel:a.ed.length≤1000000) (hto:QL [] w.heap vt to) (htb:∀s∈to,0≤s∧s<a.st) (htl:to.length≤4096) :
  QG Tryz.prog 70 [.agg #[va,.int .i64 a.st,vm,ve,vf],vt] w fun r w'=>Step [] w w'∧∃b,r=.slice (some ⟨b,0,none⟩) n n∧w.heap.size≤b∧QS w'.heap b 3 ((bwd n a.ed to).map (Value.int .i64)):=by
 refine QG.of_W Tryz.func70 rfl Tryz.ntmps70 Tryz.results70 (by simp) ?_
 refine Qc<|xl rfl<|QR (us:=[va,.int .i64 a.st,vm,ve,vf]) rfl fun b2 w1 hs1 hb2 hB2=>Qf ?_
 refine Qc<|x (Qa rfl)<|x (Qa rfl)<|x (Qd hB2 rfl rfl)<|xl rfl<|Y5 (n:=n) (congrArg (Value.int .i64) hn) (congrArg (Value.int .i64) hn) (by omega) fun bI w2 hs2 hbI hBI=>Qf ?_
 rw[jl] at hBI
 have hs12:=hs1.trans hs2
 have hz1:=hs1.size
 have hz2:=hs2.size
 have hlI:=hBI.lt
 have hl2:=hB2.lt
 have htb':∀s∈to,0≤s∧s<(n:Int):=fun s hs=>by have:=htb s hs;omega
 refine Qg<|Qc<|x (Qa rfl)<|x (Qa rfl)<|x (Qd (hB2.ext hs2) rfl rfl)<|x (Qr h.ed rfl)<|Qb<|xe ?_
 refine Qh<|QA (α:=Nat×(Nat→Value)) [(7,7),(24,41)] (fun z=>[(24,.int .i64 z.1)]) (fun z w'=>z.1≤a.ed.length∧Step [bI] w2 w'∧QS w'.heap bI 40 ((List.range n).map z.2)∧JV w2.heap.size w' n z.2 (Zz (a.ed.take z.1))) (fun z=>a.ed.length - z.1) (by rfl) (0,fun _=>nS) ⟨rfl,trivial⟩
  ⟨Nat.zero_le _,Step.refl _ _,hBI,⟨fun i _=>QP _ _ _ _,fun i j _ _ _=>Dj.nil _⟩⟩ ?_
 rintro ⟨k,rv⟩ g w3 ⟨hk,hs3,hBI3,hR3⟩
 simp only[] at hk hBI3 hR3
 have hz3:=hs3.size
 have hs23:Step [] w1 w3:=hs2.then1 hs3 hbI
 refine Qc<|x (QB rfl rfl)<|xe ?_
 refine Qg<|QD rfl (fun h25=>?_) (fun h25=>?_)
 ·refine Qz ?_
  have hke:a.ed.length≤k:=by have h18:¬(k:Int)<(a.ed.length:Int):=h25;omega
  rw[List.take_of_length_le hke] at hR3
  have hI3:∀i,i<n→QL [] w3.heap (rv i) (Zz a.ed i):=fun i hi=>QX (hR3.own i hi) (by have:=Xh a.ed i;omega) (by simp)
  have hto3:=(hto.ext hs1).ext hs23
  refine Qc<|x (Qa rfl)<|x (Qa rfl)<|x (Qd (hB2.ext hs23) rfl rfl)<|xl rfl<|Y5 (n:=n) (congrArg (Value.int .i64) hn) (congrArg (Value.int .i64) hn) (by omega) fun bO w4 hs4 hbO hBO=>Qf ?_
  rw[zm] at hBO
  refine Qg<|Qc<|Qb<|x (Qr (L:=[]) (hBO.arr (by simp) (n:=n) (cap:=n) (sz:=1) (by simp[gA]) (by omega) (Nat.le_refl _)) rfl)<|Qb<|xe ?_
  refine Qh<|QA (α:=Nat) [(9,9),(48,54)] (fun z=>[(48,.int .i64 z)]) (fun z w'=>z≤n∧Step [] w3 w'∧QS w'.heap bO 3 ((gA n (fun j=>if j<z then -1 else 0)).map (Value.int .i64))) (fun z=>n - z) (by rfl) 0 ⟨rfl,trivial⟩ ⟨Nat.zero_le _,hs4,hBO⟩ ?_
  rintro j g w5 ⟨hj,hs5,hBO5⟩
  refine Qc<|x (QB rfl rfl)<|xe ?_
  refine Qg<|QD rfl (fun h49=>?_) (fun h49=>?_)
  ·refine Qz ?_
   have hjn:j=n:=by have h50:¬(j:Int)<(n:Int):=h49;omega
   have hg0:gA n (fun i=>if i<j then -1 else 0)=gA n (fun i:Nat=>if (i:Int)∈to.take 0 then 0 else -1):=UO fun i hi=>by rw[if_pos (by omega),if_neg (by simp)]
   rw[hg0] at hBO5
   refine Qc<|Qb<|xl rfl<|xf<|(Yx (hto3.ext hs5)).mono ?_
   rintro vq w6 ⟨hs6,hQ6⟩
   have hlO:=hBO5.lt
   have hs36:=hs5.trans hs6
   have hz5:=hs5.size
   refine Qf ?_
   refine Qg<|Qc<|Qb<|x (Qr (hto3.ext hs36) rfl)<|Qb<|xe ?_
   refine Qh<|QA (α:=Nat) [(12,12),(59,66)] (fun z=>[(59,.int .i64 z)]) (fun z w'=>z≤to.length∧Step [] w3 w'∧QS w'.heap bO 3 ((gA n (fun i:Nat=>if (i:Int)∈to.take z then 0 else -1)).map (Value.int .i64))∧Qs 3 w5.heap.size w' vq to∧w5.heap.size≤w'.heap.size) (fun z=>to.length - z) (by rfl) 0 ⟨rfl,trivial⟩
    ⟨Nat.zero_le _,hs36,hBO5.ext hs6,hQ6,hs6.size⟩ ?_
   rintro i g w7 ⟨hi,hs7,hBO7,hQ7,hz7⟩
   refine Qc<|x (QB rfl rfl)<|xe ?_
   refine Qg<|QD rfl (fun h60=>?_) (fun h60=>?_)
   ·refine Qz ?_
    have hie:to.length≤i:=by have h61:¬(i:Int)<(to.length:Int):=h60;omega
    rw[List.take_of_length_le hie] at hBO7
    have hBO7':QS w7.heap bO 3 ((Vh n to).map (Value.int .i64)):=hBO7
    refine Qg<|Qh<|QA (α:=Nat×Value×LI×LI) [(10,10),(13,13),(15,15),(67,101)] (fun z=>[(10,z.2.1)])
     (fun z w'=>Step [] w3 w'∧w5.heap.size≤w'.heap.size∧QS w'.heap bO 3 (z.2.2.1.map (Value.int .i64))∧Ju 3 w5.heap.size w' z.2.1 z.2.2.2∧QbJ n z.2.2.1 z.2.2.2∧Qgl z.2.2.1 z.2.2.2∧neg z.2.2.1+z.2.2.2.length≤z.1∧z.1≤8192∧bwL a.ed z.1 z.2.2.1 z.2.2.2=bwd n a.ed to)
     (fun z=>z.1+1 - (if z.2.2.2=[] then 1 else 0)) (by rfl) (n+to.length,vq,Vh n to,to) ⟨rfl,trivial⟩
     ⟨hs7,hz7,hBO7',YI.of_row hQ7,Qf9 htb',fun x hx=>by rw[QcH (htb' x hx) hx];omega,by have:=Qa6 (Vh n to);rw[Jk] at this;simp only[];omega,by simp only[];omega,rfl⟩ ?_
    rintro ⟨fu,vq,o,q⟩ g w8 ⟨hs8,hz8,hBO8,hQ8,hok,hset,hfu,hfu2,hres⟩
    simp only[] at hz8 hBO8 hQ8 hok hset hfu hfu2 hres
    have hnq:neg o+q.length≤8192:=by omega
    refine Qg<|Qc<|Qb<|x (Qr (QiH (L:=[]) hQ8 (by omega) (by simp)) rfl)<|x (ZK rfl rfl)<|xe ?_
    refine QD rfl (fun h69=>?_) (fun h69=>?_)
    ·refine Qz ?_
     have hq0:q=[]:=List.eq_nil_of_length_eq_zero (by have h70:¬(q.length:Int) > 0:=h69;omega)
     rw[hq0,Qij] at hres
     rw[hres] at hBO8
     refine Qc<|Qb<|Qf ?_
     exact Ql ⟨[.slice (some ⟨bO,0,none⟩) n n],⟨rfl,trivial⟩,hs1.trans (hs23.trans hs8),bO,rfl,by omega,hBO8⟩
    refine Qi ?_
    have hq1:0<q.length:=by have h70:(q.length:Int) > 0:=h69;omega
    refine Exists.elim (List.exists_cons_of_length_pos hq1) fun s hq'=>Exists.elim hq' fun q' hqq=>?_
    subst hqq
    have hfu1:0<fu:=by simp only[List.length_cons] at hfu;omega
    refine Exists.elim (Nat.exists_eq_succ_of_ne_zero (show fu≠0 by omega)) fun fu' hfe=>?_
    subst hfe
    have hsr:=hok.q s List.mem_cons_self
    have hos:=hset s List.mem_cons_self
    have hsn:s=(s.toNat:Int):=by omega
    rw[bwL] at hres
    simp only[List.length_cons] at hfu
    refine Qh<|Qc<|Qb<|xii (i:=0) (QiH (L:=[]) hQ8 (by simp only[List.length_cons];omega) (by simp)) rfl rfl (by simp) fun a71 h71=>x (Qv h71 rfl)<|Qf ?_
    refine Qc<|Qb<|Qlg (lo:=1) hQ8 rfl rfl (by simp only[List.length_cons];omega) fun vq1 hQ81 hobq=>Qf ?_
    have hQ9:Ju 3 w5.heap.size w8 vq1 q':=Ju.tail hQ81
    refine Qc<|Qb<|Qb<|x (QQ (i:=s.toNat) rfl (congrArg (Value.int .i64) hsn) (by omega))<|x (Qd (u:=rv s.toNat) (hBI3.ext hs8) rfl (KS (by omega)))<|x (Qr ((hI3 s.toNat (by omega)).ext hs8) rfl)<|Qb<|xe ?_
    have hil:=Xh a.ed s.toNat
    refine Qh<|QA (α:=Nat×Value×LI×LI) [(10,10),(15,15),(80,101)] (fun z=>[(10,z.2.1),(80,.int .i64 z.1)])
     (fun z w'=>z.1≤(Zz a.ed s.toNat).length∧Step [] w3 w'∧w5.heap.size≤w'.heap.size∧QS w'.heap bO 3 (z.2.2.1.map (Value.int .i64))∧Ju 3 w5.heap.size w' z.2.1 z.2.2.2∧QbJ n z.2.2.1 z.2.2.2∧Qgl z.2.2.1 z.2.2.2∧0≤cget z.2.2.1 s.toNat∧neg z.2.2.1+z.2.2.2.length≤fu'∧((Zz a.ed s.toNat).drop z.1).foldl (qv s) (z.2.2.1,z.2.2.2)=(Zz a.ed s.toNat).foldl (qv s) (o,q'))
     (fun z=>(Zz a.ed s.toNat).length - z.1) (by rfl) (0,vq1,o,q') ⟨rfl,rfl,trivial⟩
     ⟨Nat.zero_le _,hs8,hz8,hBO8,hQ9,⟨hok.len,fun x hx=>hok.q x (List.mem_cons_of_mem _ hx),hok.le⟩,fun x hx=>hset x (List.mem_cons_of_mem _ hx),hos,by simp only[];omega,rfl⟩ ?_
    rintro ⟨m,vq2,o2,q2⟩ g w9 ⟨hm,hs9,hz9,hBO9,hQ9,hok9,hset9,hos9,hfu9,hfo⟩
    simp only[] at hm hz9 hBO9 hQ9 hok9 hset9 hos9 hfu9 hfo
    refine Qc<|x (QB rfl rfl)<|xe ?_
    refine Qg<|QD rfl (fun h81=>?_) (fun h81=>?_)
    ·refine Qz ?_
     have hme:(Zz a.ed s.toNat).length≤m:=by have h82:¬(m:Int)<((Zz a.ed s.toNat).length:Int):=h81;omega
     rw[List.drop_of_length_le hme] at hfo
     rw[←hfo] at hres
     exact ⟨(fu',vq2,o2,q2),by simp only[];split <;> simp <;> omega,⟨rfl,trivial⟩,hs9,hz9,hBO9,hQ9,hok9,hset9,hfu9,by simp only[];omega,hres⟩
    refine Qi ?_
    have hmlt:m<(Zz a.ed s.toNat).length:=by have h82:(m:Int)<((Zz a.ed s.toNat).length:Int):=h81;omega
    have hpm:=zn (List.getElem_mem hmlt)
    have hdr:=Q5 hmlt
    rw[hdr,List.foldl_cons] at hfo
    refine Zf ((Zz a.ed s.toNat)[m]'hmlt) fun p hp=>?_
    rw[hp] at hpm hfo
    have hpb:0≤p∧p<(n:Int):=by
     obtain ⟨e,he,h1,_⟩:=hpm
     have:=hed e he
     omega
    have hpn:p=(p.toNat:Int):=by omega
    have hol:=hok9.len
    have hpl:p.toNat<o2.length:=by omega
    have hsl:s.toNat<o2.length:=by omega
    have hvs:=hok9.le _ (Xs hsl)
    have hEk:=Qf8 (st:=(o2,q2)) hok9 hsr hos9 hpb
    have hE0:=Qak (st:=(o2,q2)) hok9 hos9 hpb hset9
    refine Qg<|Qh<|Qc<|xii (i:=m) ((hI3 s.toNat (by omega)).ext hs9) rfl rfl hmlt fun a82 h82=>?_
    rw[hp] at h82
    refine x (Qv h82 rfl)<|Qf ?_
    refine Qc<|Qb<|Qb<|x (QQ (i:=p.toNat) rfl (congrArg (Value.int .i64) hpn) (by omega))<|x (J2 (i:=p.toNat) hBO9 rfl hpl)<|x (QB rfl rfl)<|xe ?_
    refine QD rfl (fun h88=>?_) (fun h88=>?_)
    ·refine Qi ?_
     have hc:¬cget o2 p.toNat<0:=by rw[←Zl hpl];exact h88
     have hEq:qv s (o2,q2) p=(o2,q2):=by unfold qv;rw[if_neg hc]
     rw[hEq] at hfo
     refine Qw<|x (Qy rfl rfl ⟨by omega,by omega⟩)<|Qb<|xe ?_
     exact ⟨(m+1,vq2,o2,q2),by simp only[];omega,⟨rfl,rfl,trivial⟩,hmlt,hs9,hz9,hBO9,hQ9,hok9,hset9,hos9,hfu9,hfo⟩
    have hc:cget o2 p.toNat<0:=by rw[←Zl hpl];exact h88
    have hEq:qv s (o2,q2) p=(o2.set p.toNat (cget o2 s.toNat+1),q2++[p]):=by unfold qv;rw[if_pos hc]
    rw[hEq] at hfo hEk hE0
    have hcs:=Zl hsl
    refine Qc<|Qb<|Qb<|Qb<|Qb<|x (QQ (i:=s.toNat) rfl (congrArg (Value.int .i64) hsn) (by omega))<|x (J2 (i:=s.toNat) hBO9 rfl hsl)<|x (Qy rfl rfl ⟨by omega,by omega⟩) <|
     x (QQ (i:=p.toNat) rfl (congrArg (Value.int .i64) hpn) (by omega))<|xl rfl<|Xn (i:=p.toNat) hBO9 rfl rfl hpl fun w10 hs10 hBO10=>xe ?_
    rw[hcs] at hBO10
    have hz10:=hs10.size
    have hnO:∀b∈ob vq2,b∉[bO]:=fun b hb=>by have:=Qi5 hQ9 b hb;simp;omega
    have hQ10:=QeE hQ9 hs10 hnO
    have hs3a:Step [] w3 w10:=hs9.then1 hs10 (by omega)
    refine Qw<|Qb<|Qb<|xl rfl<|QI (us:=[[.int .i64 p]]) rfl rfl (by decide) (by simp) ⟨rfl,rfl,trivial⟩ fun b99 w11 hs11 hb99 hB99=>xl rfl<|Qi9 (m:=1) (news:=[.int .i64 p]) (Qky hQ10 hs11) rfl rfl rfl (by omega) (hB99.at (L:=[]) (by simp)) (by simp[Value.oneCell']) (by omega) (by have:=hs11.size;omega) fun vq3 w12 hQ12 hs12 hn12 =>
     Qf ?_
    have hz11:=hs11.size
    have hz12:=hs12.size
    have hQ12':Ju 3 w5.heap.size w12 vq3 (q2++[p]):=Ju.snoc hQ12
    have hz3O:w3.heap.size≤w5.heap.size:=by omega
    refine Qw<|x (Qy rfl rfl ⟨by omega,by omega⟩)<|Qb<|xe ?_
    refine ⟨(m+1,vq3,_,q2++[p]),by simp only[];omega,⟨rfl,rfl,trivial⟩,hmlt,(hs3a.trans hs11).then hs12 (fun b hb=>.inr (by have:=Qi5 hQ9 b hb;omega)),by omega,(hBO10.ext hs11).step hs12 (fun hb=>by have:=Qi5 hQ9 _ hb;omega),hQ12',hEk.1,hE0,hEk.2.2,?_,hfo⟩
    have h5:neg (o2.set p.toNat (cget o2 s.toNat+1))+(q2++[p]).length=neg o2+q2.length:=hEk.2.1
    simp only[];omega
   refine Qi ?_
   have hilt:i<to.length:=by have h61:(i:Int)<(to.length:Int):=h60;omega
   have hti:=htb' _ (List.getElem_mem hilt)
   have htk:to.take (i+1)=to.take i++[to[i]'hilt]:=List.take_succ_eq_append_getElem hilt
   refine Zf (to[i]'hilt) fun s hs=>?_
   rw[hs] at hti htk
   have hsn:s=(s.toNat:Int):=by omega
   have hst:(gA n (fun j:Nat=>if (j:Int)∈to.take i then 0 else -1)).set s.toNat 0=gA n (fun j:Nat=>if (j:Int)∈to.take (i+1) then 0 else -1):=UN (by rw[htk];simp;omega) (fun j _ hj=>by
    rw[htk]
    have:¬(j:Int)=s:=by omega
    simp[this])
   refine Qg<|Qh<|Qc<|xii (i:=i) (hto3.ext hs7) rfl rfl hilt fun a61 h61=>?_
   rw[hs] at h61
   refine x (Qv h61 rfl)<|Qf ?_
   refine Qw<|Qb<|Qb<|x (QQ (i:=s.toNat) rfl (congrArg (Value.int .i64) hsn) (by omega))<|xl rfl<|JH (i:=s.toNat) hBO7 rfl rfl (by omega) hst fun w8 hs8 hBO8=>xe ?_
   refine Qw<|x (Qy rfl rfl ⟨by omega,by omega⟩)<|Qb<|xe ?_
   have hz8:=hs8.size
   exact ⟨i+1,by omega,⟨rfl,trivial⟩,hilt,hs7.then1 hs8 (by omega),hBO8,Qk hQ7 hs8 (fun b hb=>by have:=Qp hQ7 b hb;simp;omega),by omega⟩
  refine Qi ?_
  have hjn:j<n:=by have h50:(j:Int)<(n:Int):=h49;omega
  refine Qg<|Qh<|Qc<|Qb<|Qf ?_
  refine Qw ?_
  have hst:(gA n (fun i=>if i<j then -1 else 0)).set j (-1)=gA n (fun i=>if i<j+1 then -1 else 0):=UN (by rw[if_pos (by omega)]) (fun i _ hi=>by
   by_cases e:i<j
   ·rw[if_pos e,if_pos (by omega)]
   ·rw[if_neg e,if_neg (by omega)])
  refine Qb<|Qb<|x (QQ (i:=j) rfl rfl (by omega))<|xl rfl<|JH (i:=j) hBO5 rfl rfl hjn hst fun w6 hs6 hBO6=>xe ?_
  refine Qw<|x (Qy rfl rfl ⟨by omega,by omega⟩)<|Qb<|xe ?_
  exact ⟨j+1,by omega,⟨rfl,trivial⟩,hjn,hs5.then1 hs6 (by omega),hBO6⟩
 refine Qi ?_
 have hlt:k<a.ed.length:=by have h18:(k:Int)<(a.ed.length:Int):=h25;omega
 have htk:a.ed.take (k+1)=a.ed.take k++[a.ed[k]'hlt]:=List.take_succ_eq_append_getElem hlt
 have hek:=hed _ (List.getElem_mem hlt)
 refine Zf (a.ed[k]'hlt) fun e he=>?_
 rw[he] at htk hek
 have hto':e.2.2=(e.2.2.toNat:Int):=by omega
 have htn:e.2.2.toNat<n:=by omega
 have hil:=Xh (a.ed.take k) e.2.2.toNat
 rw[List.length_take] at hil
 have hsn:=UI (a.ed.take k) e hek.2.2.1
 refine Qg<|Qh<|Qc<|xie ((h.ed.ext hs1).ext hs23) rfl rfl hlt fun a18 h18=>?_
 rw[he] at h18
 refine x (QK h18 rfl rfl)<|xl rfl<|Qu (us:=[.int .i64 0,.int .i64 0,.int .i64 0]) rfl fun b7 w4 hs4 hb7 hB7=>xl rfl<|Qo (us:=QC e) hB7 rfl rfl rfl rfl ⟨rfl,rfl,rfl,trivial⟩ fun w5 hs5 hB7'=>xe ?_
 have hs35:Step [] w3 w5:=hs4.then1 hs5 hb7
 have hz5:=hs35.size
 have hR5:=hR3.ext hs35
 have hrow:=hR5.own _ htn
 have hIn:∀b∈ob (rv e.2.2.toNat),w2.heap.size≤b∧b<w3.heap.size:=fun b hb=>⟨(Qp (hR3.own _ htn) b hb).1,Q0 (hR3.own _ htn) b hb⟩
 have hbIn:bI∉ob (rv e.2.2.toNat):=fun hb=>by have:=hIn _ hb;omega
 have hb7n:b7∉ob (rv e.2.2.toNat):=fun hb=>by have:=hIn _ hb;omega
 have hBI5:=hBI3.ext hs35
 refine QT (Step (ob (rv e.2.2.toNat)) w5) [(0,true),(1,true),(2,true),(3,true),(4,true),(5,true),(6,true),(7,true),(8,true),(9,true),(10,false),(11,false),(12,true),(13,false)] Tryz.mixed (by rfl) (by kernel_rfl) (Step.drew _ _) ?_
 refine p (fun _=>Qm)<|p (fun _=>Qa rfl)<|pq (fun _ hc=>Qd (hB7'.step hc hb7n) rfl rfl)<|p (fun _=>Qm)<|p (fun _=>Qa rfl)<|pq (fun _ hc=>Qd (hB7'.step hc hb7n) rfl rfl) <|
  p (fun _=>QQ (i:=e.2.2.toNat) rfl (congrArg (Value.int .i64) hto') htn)<|pq (fun _ hc=>Qd (u:=rv e.2.2.toNat) (hBI5.step hc hbIn) rfl (KS htn))<|p (fun _=>Qa rfl)<|pq (fun _ hc=>Qd (hB7'.step hc hb7n) rfl rfl) <|
  pk<|QI (us:=[[.int .i64 e.1]]) rfl rfl (by decide) (by simp) ⟨rfl,rfl,trivial⟩ fun b38 w6 hs6 hb38 hB38=>⟨(Step.drew _ _).trans hs6,?_⟩
 have hs56:Step [] w5 w6:=(Step.drew _ _).trans hs6
 have hz6:=hs56.size
 refine pk<|Q2 (m:=1) (news:=[.int .i64 e.1]) (Qt hrow hs56) rfl rfl rfl (hB38.at (L:=[]) (by simp)) (by simp[Value.oneCell']) (by omega) (by omega) fun vr w7 ho7 hs7 hn7=>⟨hs56.any.trans' hs7,?_⟩
 have hBI7:=(hBI5.ext hs56).step hs7 hbIn
 have hlen:((List.range n).map rv).length=n:=by simp
 refine p (fun _=>QQ (i:=e.2.2.toNat) rfl (congrArg (Value.int .i64) hto') htn)<|pkl (hl:=by kernel_rfl)<|QF (j:=0+e.2.2.toNat*1) (u:=vr) hBI7 rfl rfl (by rw[hlen];omega) (QX (L:=[]) ho7 (by omega) (by simp)).one fun w8 hs8 hBI8=>pe ?_
 have hb8:QS w8.heap bI 40 ((List.range n).map (Jv rv e.2.2.toNat vr)):=by
  have e1:=yX id n rv e.2.2.toNat vr
  simp only[id] at e1
  rw[←e1]
  simpa using hBI8
 have hvn:∀b∈ob vr,b∈ob (rv e.2.2.toNat)∨w5.heap.size≤b:=fun b hb=>(hn7 b hb).imp id (fun h=>by omega)
 have hR7:=hR5.app htn (Qs.snoc ho7) (hs56.any.trans' hs7) hvn
 have hR8:=hR7.step hs8 (fun i hi b hb=>by have:=(Qp (hR7.own i hi) b hb).1;simp;omega)
 have hfe:Jv (Zz (a.ed.take k)) e.2.2.toNat (Zz (a.ed.take k) e.2.2.toNat++[e.1])=Zz (a.ed.take (k+1)):=by rw[htk];exact funext hsn
 rw[hfe] at hR8
 refine Qw<|x (Qy rfl rfl ⟨by omega,by omega⟩)<|Qb<|xe ?_
 refine ⟨(k+1,Jv rv e.2.2.toNat vr),by simp only[];omega,⟨rfl,trivial⟩,hlt,?_,hb8,hR8⟩
 exact (((hs3.trans hs35).trans hs56).then hs7 (fun b hb=>.inr (hIn b hb).1)).trans' hs8
def Vc (d:LI) (k:Nat):LI:=((List.range k).filter fun i=>decide (0≤cget d i)).map fun i:Nat=>(i:Int)
def cor (a:QM):LI:=Vc (bwd a.st.toNat a.ed a.mr) a.st.toNat
theorem zx (d:LI) (k:Nat):Vc d (k+1)=if 0≤cget d k then Vc d k++[(k:Int)] else Vc d k:=by
 unfold Vc
 rw[List.range_succ,List.filter_append,List.map_append]
 by_cases h:0≤cget d k
 ·simp[h]
 ·simp[h]
theorem QfR (d:LI) (k:Nat):(Vc d k).length≤k:=by
 unfold Vc;rw[List.length_map];have:=List.length_filter_le (fun i=>decide (0≤cget d i)) (List.range k);simpa using this
theorem Qik (s:Int) (st:LI×LI) (p:Int):(qv s st p).1.length=st.1.length:=by unfold qv;split <;> simp
theorem Qaj (s:Int):∀(ps:LI) (st:LI×LI),(ps.foldl (qv s) st).1.length=st.1.length
 | [],_=>rfl
 | p::ps,st=>by rw[List.foldl_cons,Qaj s ps,Qik]
theorem QcF (es:List Ed):∀(f:Nat) (o q:LI),(bwL es f o q).length=o.length
 | 0,_,_=>rfl
 | _+1,_,[]=>rfl
 | f+1,o,s::q=>by rw[bwL,QcF es f,Qaj]
theorem yH (n:Nat) (es:List Ed) (to:LI):(bwd n es to).length=n:=by unfold bwd;rw[QcF,Jk]
theorem qn {w:World}{va vm ve:Value}{a:QM}(h:Zp [] w.heap va vm ve a) :
  QG Tryz.prog 26 [.agg #[va,.int .i64 a.st,vm,ve]] w fun r w'=>Step [] w w'∧∃v,r=.tuple #[v,.int .i64 (Y8 a)]∧Qs 3 w.heap.size w' v (if Y8 a=0 then cor a else []):=by
 refine QG.of_W Tryz.func26 rfl Tryz.ntmps26 Tryz.results26 (by simp) ?_
 refine Qc<|xl rfl<|QR (us:=[va,.int .i64 a.st,vm,ve]) rfl fun b1 w1 hs1 hb1 hB1=>x Qe<|Qf ?_
 refine Qg<|Qc<|x (Qq hB1 rfl rfl)<|xl rfl<|xf<|(YP (h.ext hs1)).mono ?_
 rintro r2 w2 ⟨rfl,hs2⟩
 refine Qf ?_
 refine Qc<|Qb<|x (Q6 rfl rfl)<|xe ?_
 have hz1:=hs1.size
 have hz2:=hs2.size
 refine Q3 rfl (fun h11=>?_) (fun h11=>?_)
 ·refine Qc<|Qb<|x Qe<|Qf ?_
  refine Ql ⟨[nS,.int .i64 (Y8 a)],⟨rfl,rfl,trivial⟩,hs1.trans hs2,_,rfl,?_⟩
  rw[if_neg h11];exact QP _ _ _ _
 have hck:Y8 a=0:=Decidable.not_not.1 h11
 have ho:=(Zt a).1 hck
 refine exN ho.st0 fun n hn=>?_
 have hnt:a.st.toNat=n:=by omega
 have hst1:=ho.st1
 have hml:=ho.mr_le
 have hel:=ho.ed_le
 refine Qi ?_
 refine Qc<|Qf ?_
 have hA2:=(h.ext hs1).ext hs2
 have hd0:Step [] w2 { w2 with drawn:=w2.drawn+1 }:=Step.drew _ _
 refine Qg<|Qg<|QT (Step [] w2) [(0,true),(2,true),(3,true),(6,true),(1,false),(4,false),(5,true)] Tryz.mixed (by rfl) (by kernel_rfl) (Step.drew _ _) ?_
 refine pq (fun _ hc=>Qq ((hB1.ext hs2).ext hc) rfl rfl)<|p (fun _=>Qa rfl)<|pq (fun _ hc=>Qd ((hB1.ext hs2).ext hc) rfl rfl) <|
  p (fun _=>Qm)<|pk<|xf<|(JJ (hA2.ext hd0) hn hst1 (fun e he=>⟨(ho.ed e he).1,(ho.ed e he).2.1⟩)).mono ?_
 rintro r3 w3 ⟨hs3,bF,rfl,_,_⟩
 refine ⟨hd0.trans hs3,?_⟩
 have hs23:=hd0.trans hs3
 refine pk<|xf<|(VT (hA2.ext hs23) hn hst1 (fun e he=>⟨(ho.ed e he).1,(ho.ed e he).2.1,(ho.ed e he).2.2.2⟩) (by omega) (hA2.mr.ext hs23) ho.mr hml).mono ?_
 rintro r4 w4 ⟨hs4,bO,rfl,hbO,hBO⟩
 refine ⟨hs23.trans hs4,?_⟩
 have hs24:=hs23.trans hs4
 have hdl:=yH n a.ed a.mr
 have hAO:Zs [] w4.heap (.slice (some ⟨bO,0,none⟩) n n) n 1 ((bwd n a.ed a.mr).map (Value.int .i64)):=hBO.arr (by simp) (by simp[hdl]) (by omega) (Nat.le_refl _)
 refine p (fun _=>Qr hAO rfl)<|pe ?_
 have hz4:=hs24.size
 have hcor:cor a=Vc (bwd n a.ed a.mr) n:=by unfold cor;rw[hnt]
 refine Qh<|QA (α:=Nat×Value) [(5,7),(19,30)] (fun z=>[(5,z.2),(19,.int .i64 z.1)]) (fun z w'=>z.1≤n∧Step [] w4 w'∧Qs 3 w4.heap.size w' z.2 (Vc (bwd n a.ed a.mr) z.1)) (fun z=>n - z.1) (by rfl) (0,nS) ⟨rfl,rfl,trivial⟩
  ⟨Nat.zero_le _,Step.refl _ _,QP _ _ _ _⟩ ?_
 rintro ⟨k,v⟩ g w5 ⟨hk,hs5,ho5⟩
 simp only[] at hk ho5
 refine Qc<|x (QB rfl rfl)<|xe ?_
 refine Qg<|QD rfl (fun h20=>?_) (fun h20=>?_)
 ·refine Qz ?_
  have hkn:k=n:=by have h21:¬(k:Int)<(n:Int):=h20;omega
  rw[hkn,←hcor] at ho5
  refine Qc<|Qb<|x Qe<|Qf ?_
  refine Ql ⟨[v,.int .i64 0],⟨rfl,rfl,trivial⟩,(hs1.trans hs2).trans (hs24.trans hs5),_,by rw[hck];rfl,?_⟩
  rw[if_pos hck];exact Zc ho5 (by omega)
 have hkn:k<n:=by have h21:(k:Int)<(n:Int):=h20;omega
 have hsu:=zx (bwd n a.ed a.mr) k
 have hcl:=QfR (bwd n a.ed a.mr) k
 refine Qi ?_
 refine Qg<|Qh<|Qc ?_
 have hA5:QL [] w5.heap (.slice (some ⟨bO,0,none⟩) n n) (bwd n a.ed a.mr):=by unfold QL;rw[hdl];exact hAO.ext hs5
 refine Qb<|xic (i:=k) hA5 rfl rfl (by omega) fun a22 h22=>x (Qv h22 rfl)<|x Qe<|Qf ?_
 refine Qc<|Qb<|x (ZH rfl rfl)<|xe ?_
 refine QD rfl (fun h25=>?_) (fun h25=>?_)
 ·refine Qi ?_
  rw[if_neg h25] at hsu
  refine Qw<|x (Qy rfl rfl ⟨by omega,by omega⟩)<|Qb<|xe ?_
  exact ⟨(k+1,v),by simp only[];omega,⟨rfl,rfl,trivial⟩,hkn,hs5,by rw[hsu];exact ho5⟩
 rw[if_pos h25] at hsu
 have hz5:=hs5.size
 refine Qw<|Qb<|Qb<|xl rfl<|QI (us:=[[.int .i64 k]]) rfl rfl (by decide) (by simp) ⟨rfl,rfl,trivial⟩ fun b28 w6 hs6 hb28 hB28=>xl rfl<|Q2 (m:=1) (news:=[.int .i64 k]) (Qt ho5 hs6) rfl rfl rfl (hB28.at (L:=[]) (by simp)) (by simp[Value.oneCell']) (by omega) (by have:=hs6.size;omega) fun v7 w7 ho7 hs7 hn7 =>
  Qf ?_
 refine Qw<|x (Qy rfl rfl ⟨by omega,by omega⟩)<|Qb<|xe ?_
 exact ⟨(k+1,v7),by simp only[];omega,⟨rfl,rfl,trivial⟩,hkn,(hs5.trans hs6).then hs7 (fun b hb=>.inr (Qp ho5 b hb).1),by rw[hsu];exact Qs.snoc ho7⟩
theorem Qlt {P:Program}{ops:List Oper}{K:Fr→World→Prop}{f:Fr}{w:World}{d:Option Nat}{ty:Nat}{ps:String}{af:Array Edge}{gd:Option (Nat×Bool)}{C:World→Prop}{pl:List (Nat×Bool)}{i0:Nat}
  {t e sz bys:Nat} {z:Value} {x y1 y2:Operand} {L:LN} {v:Value} {n:Nat} {cs:LV} {H:Array Obj} {k k':IntKind} {lo hi:Nat} [h:Sl P t e sz bys z]
  (ho:QJ ops i0=⟨d,.slice t x (some y1) (some y2) none,ty,ps,af,gd⟩) (hA:Zs L H v n sz cs) (hx:ev f x=v) (hl:ev f y1=.int k lo) (hh:ev f y2=.int k' hi) (h1:lo≤hi) (h2:hi≤n)
  (hK:∀v',Zs L H v' (hi - lo) sz ((cs.drop (lo*sz)).take ((hi - lo)*sz))→XP P ops C K pl (QU f d v') w)
  (hg:ZY ops f (QJ ops i0)=true:=by rfl):XP P ops C K ((i0,true)::pl) f w:=by
 obtain ⟨v',h3,h4⟩:=QbX (P:=P) (d:=d) (ty:=ty) (ps:=ps) (af:=af) (gd:=gd) (t:=t) hA hx hl hh h1 h2
 exact Lg.p (fun w'=>by rw[ho];exact h4 w') (by rw[ho];exact hK v' h3) hg
theorem Qcu {es:List Ed}(hs:es.Pairwise fun x y=>x.1≤y.1) (s:Nat):∀(m:Nat) (hm:m<es.length),(m:Int)<fS es s↔(es[m]'hm).1<(s:Int):=by
 unfold fS cnE
 induction es with
 | nil=>intro m hm;simp at hm
 | cons e es ih =>
  intro m hm
  simp only[List.pairwise_cons] at hs
  have ih:=ih hs.2
  simp only[List.filter_cons]
  by_cases h1:e.1<(s:Int)
  ·simp only[h1,decide_true,if_true,List.length_cons]
   cases m with
   | zero=>simp only[List.getElem_cons_zero];omega
   | succ m =>
    have:=ih m (by simpa using hm)
    simp only[List.getElem_cons_succ]
    rw[←this];omega
  ·have h0:(es.filter fun e=>decide (e.1<(s:Int)))=[]:=List.filter_eq_nil_iff.2 (fun d hd=>by have:=hs.1 d hd;simp;omega)
   simp only[h1,decide_false,Bool.false_eq_true,if_false,h0,List.length_nil]
   cases m with
   | zero=>simp only[List.getElem_cons_zero];omega
   | succ m =>
    have hd:es[m]'(by simpa using hm)∈es:=List.getElem_mem _
    have:=hs.1 _ hd
    simp only[List.getElem_cons_succ];omega
theorem Qh0 (es:List Ed) (s:Nat):fS es s≤fS es (s+1):=by
 have h:=Qct es s
 have:=(KB (fun e:Ed=>decide (e.1+1=((s+1:Nat):Int))) es).1
 unfold cN at h;omega
theorem Qg6 {es:List Ed}(hs:es.Pairwise fun x y=>x.1≤y.1) (s lo hi:Nat) (h1:fS es s=(lo:Int)) (h2:fS es (s+1)=(hi:Int)):(es.drop lo).take (hi - lo)=Zv es s∧hi≤es.length∧lo≤hi:=by
 have hm:=Qh0 es s
 have hl:=(KB (fun e:Ed=>decide (e.1<((s+1:Nat):Int))) es).2
 have hhi:hi≤es.length:=by unfold fS at h2;omega
 refine ⟨?_,hhi,by omega⟩
 exact UZ (fun e:Ed=>decide (e.1=(s:Int))) es lo hi (by omega) hhi
  (fun m hm hml=>by have:=(Qcu hs s m hm).1 (by omega);simp;omega)
  (fun m hm h3 h4=>by
   have h5:¬(es[m]'hm).1<(s:Int):=fun h=>by have:=(Qcu hs s m hm).2 h;omega
   have h6:=(Qcu hs (s+1) m hm).1 (by omega)
   simp;omega)
  (fun m hm h3=>by
   have h6:¬(es[m]'hm).1<((s+1:Nat):Int):=fun h=>by have:=(Qcu hs (s+1) m hm).2 h;omega
   simp;omega)
theorem zq:∀(l:List Ed) (k:Nat),(l.flatMap QC).drop (k*3)=(l.drop k).flatMap QC
 | [],k=>by simp
 | e::l,0=>by simp
 | e::l,k+1=>by
  simp only[List.flatMap_cons,List.drop_succ_cons,Nat.add_mul,Nat.one_mul]
  rw[Nat.add_comm,←List.drop_drop,show (QC e++l.flatMap QC).drop 3=l.flatMap QC from rfl,zq l k]
theorem zp:∀(l:List Ed) (k:Nat),(l.flatMap QC).take (k*3)=(l.take k).flatMap QC
 | [],k=>by simp
 | e::l,0=>by simp
 | e::l,k+1=>by
  simp only[List.flatMap_cons,List.take_succ_cons,Nat.add_mul,Nat.one_mul]
  rw[Nat.add_comm,List.take_append,show (QC e).length=3 from rfl,show 3+k*3 - 3=k*3 by omega,zp l k,List.take_of_length_le (by rw[show (QC e).length=3 from rfl];omega)]
theorem QfN {w:World}{va vm ve vf:Value}{st s:Int} :
  QG Tryz.prog 160 [.agg #[va,.int .i64 st,vm,ve,vf],.int .i64 s] w fun r w'=>Step [] w w'∧∃b1 b2,r=.func (.func 196) #[] #[.pointer (some ⟨b1,0,none⟩),.pointer (some ⟨b2,0,none⟩)] ∧
   w.heap.size≤b1∧w.heap.size≤b2∧QS w'.heap b1 156 [va,.int .i64 st,vm,ve,vf]∧QS w'.heap b2 3 [.int .i64 s]:=by
 refine QG.of_W Tryz.func160 rfl Tryz.ntmps160 Tryz.results160 (by simp) ?_
 refine Qc<|xl rfl<|QR (us:=[va,.int .i64 st,vm,ve,vf]) rfl fun b2 w1 hs1 hb2 hB2=>xl rfl<|QR (us:=[.int .i64 s]) rfl fun b3 w2 hs2 hb3 hB3=>Qf ?_
 refine Qc<|x Zj<|Qf ?_
 have hz1:=hs1.size
 exact Ql ⟨[_],⟨rfl,trivial⟩,hs1.trans hs2,b2,b3,rfl,hb2,by omega,hB2.ext hs2,hB3⟩
theorem Qbi {L:LN}{w:World}{b1 b2 bF n s m:Nat}{va vm ve:Value}{a:QM}(hB1:QS w.heap b1 156 [va,.int .i64 a.st,vm,ve,.slice (some ⟨bF,0,none⟩) (n+1) (n+1)]) (hB2:QS w.heap b2 3 [.int .i64 s])
  (hBF:QS w.heap bF 3 ((gA (n+1) (fS a.ed)).map (Value.int .i64))) (hE:Uf L w.heap ve a.ed) (hso:a.ed.Pairwise fun x y=>x.1≤y.1) (hs:s<n) (hn:n≤4096) :
  SeqStopsK (fen none) m Tryz.prog 196 [.pointer (some ⟨b1,0,none⟩),.pointer (some ⟨b2,0,none⟩)].toArray (fun x:{ e:Ed // e∈a.ed }=>#[.agg (QC x.1).toArray]) (Lw w.heap.size L)
   (fun ys=>ys.map (·.1)=Zv a.ed s) (fun _=>True) (a.ed.length+1) w:=by
 intro l J Jx W hbel hJ hJx hY h0
 have hwW:Step [] w W:=Step.of_below hbel
 have ab:∀{ys:List { e:Ed // e∈a.ed }} {W1 W2:World},J ys W1→Step [] W1 W2→J ys W2:=fun {ys W1 W2} hj hst=>hJ ys W1 W2 none hj ⟨hst.os,hst.tape,hst.output,hst.size,fun k hk _=>hst.block k hk (by simp)⟩ (fun r e=>by cases e)
 have hcl:=KB (fun e:Ed=>decide (e.1<(s:Int))) a.ed
 have hcl':=KB (fun e:Ed=>decide (e.1<((s+1:Nat):Int))) a.ed
 obtain ⟨lo,hlo⟩:∃lo:Nat,fS a.ed s=(lo:Int):=⟨(fS a.ed s).toNat,by unfold fS;omega⟩
 obtain ⟨hi,hhi⟩:∃hi:Nat,fS a.ed (s+1)=(hi:Int):=⟨(fS a.ed (s+1)).toNat,by unfold fS;omega⟩
 obtain ⟨hseg,hhl,hlh⟩:=Qg6 hso s lo hi hlo hhi
 have hel:=hE.le
 have hol:(Zv a.ed s).length=hi - lo:=by rw[←hseg,List.length_take,List.length_drop];omega
 have hmem:∀e∈Zv a.ed s,e∈a.ed:=fun e he=>(Z8 he).1
 have key:QG Tryz.prog 196 [.func (.yield l) #[] #[],.pointer (some ⟨b1,0,none⟩),.pointer (some ⟨b2,0,none⟩)] W (fun _ W'=>(∃ys,ys.map (·.1)=Zv a.ed s∧J ys W')∨(∃pre,True∧Jx pre W')):=by
  refine QG.of_G m Tryz.func196 rfl Tryz.ntmps196 Tryz.results196 (by simp) ?_
  have hB1':=hB1.ext hwW
  have hB2':=hB2.ext hwW
  have hBF':=hBF.ext hwW
  refine QZ<|yP (Step [] W) [(0,true),(1,true),(2,true),(3,true),(4,true),(5,true),(6,true),(7,true),(8,true),(9,true),(10,true),(11,true),(12,true),(13,true),(14,true),(15,true),(16,true)] Tryz.mixed (by rfl) (by rfl) (by kernel_rfl) (Step.drew _ _) ?_
  refine p (fun _=>Qa rfl)<|p (fun _=>Qa rfl)<|pq (fun _ hc=>Qd (hB1'.ext hc) rfl rfl)<|p (fun _=>Qa rfl)<|pq (fun _ hc=>Qd (hB1'.ext hc) rfl rfl)<|pq (fun _ hc=>Qd (hB2'.ext hc) rfl rfl) <|
   p (fun _=>QQ (i:=s) rfl rfl (by omega))<|pq (fun _ hc=>KT (i:=s) (hBF'.ext hc) rfl (by omega))<|p (fun _=>Qa rfl)<|pq (fun _ hc=>Qd (hB1'.ext hc) rfl rfl) <|
   pq (fun _ hc=>Qd (hB2'.ext hc) rfl rfl)<|p (fun _=>Qy rfl rfl ⟨by omega,by omega⟩)<|p (fun _=>QQ (i:=s+1) rfl rfl (by omega))<|pq (fun _ hc=>KT (i:=s+1) (hBF'.ext hc) rfl (by omega)) <|
   Qlt (lo:=lo) (hi:=hi) rfl hE rfl (congrArg (Value.int .i64) hlo) (congrArg (Value.int .i64) hhi) hlh hhl fun v20 hA20=>p (fun _=>Qr hA20 rfl)<|p (fun _=>Qm)<|pe ?_
  have hS:Uf L w.heap v20 (Zv a.ed s):=by
   unfold Uf
   rw[hol,←hseg,←zp,←zq];exact hA20
  have hd0:Step [] W { W with drawn:=W.drawn+1 }:=Step.drew _ _
  refine ZG<|KJ (α:=Nat×List { e:Ed // e∈a.ed }) [(5,5),(22,30)] (fun z=>[(22,.int .i64 z.1)]) (fun z ds W'=>ds=[]∧z.1≤(Zv a.ed s).length∧Step L w W'∧z.2.map (·.1)=(Zv a.ed s).take z.1∧J z.2 W') (fun z=>(Zv a.ed s).length - z.1) (by rfl) (0,[]) ⟨rfl,trivial⟩
   ⟨rfl,Nat.zero_le _,(hwW.trans hd0).any,rfl,ab h0 hd0⟩ ?_
  rintro ⟨k,ys⟩ g ds w1 ⟨rfl,hk,hs1,hys,hJ1⟩
  simp only[] at hk hys hJ1
  refine QZ<|QH (by rfl) (by rfl) ?_
  refine x (QB rfl rfl)<|xe ?_
  refine QZ<|qm rfl (fun h23=>?_) (fun h23=>?_)
  ·refine Jl ?_
   have hke:(Zv a.ed s).length≤k:=by
    have h24:¬(k:Int)<((hi - lo:Nat):Int):=h23
    omega
   rw[List.take_of_length_le hke] at hys
   exact ⟨fun _ h=>(by cases h),List.nodup_nil,[],fun W' hW'=>⟨trivial,.inl ⟨ys,hys,ab hJ1 hW'⟩⟩⟩
  refine Z2 ?_
  have hlt:k<(Zv a.ed s).length:=by
   have h24:(k:Int)<((hi - lo:Nat):Int):=h23
   omega
  have hel2:=X0 a.ed s
  have htk:(Zv a.ed s).take (k+1)=(Zv a.ed s).take k++[(Zv a.ed s)[k]'hlt]:=List.take_succ_eq_append_getElem hlt
  have hme:=hmem _ (List.getElem_mem hlt)
  have hyl:ys.length=k:=by have:=congrArg List.length hys;rw[List.length_map,List.length_take] at this;omega
  refine Zf ((Zv a.ed s)[k]'hlt) fun e he=>?_
  rw[he] at htk hme
  refine QZ<|ZG<|QZ<|QH (by rfl) (by rfl) ?_
  refine xie (i:=k) (hS.st hs1) rfl rfl hlt fun a24 h24=>?_
  rw[he] at h24
  refine x (QK h24 rfl rfl)<|xl rfl<|Qu (us:=[.int .i64 0,.int .i64 0,.int .i64 0]) rfl fun b5 w2 hs2 hb5 hB5=>xl rfl<|Qo (us:=QC e) hB5 rfl rfl rfl rfl ⟨rfl,rfl,rfl,trivial⟩ fun w3 hs3 hB5'=>xe ?_
  have hs13:Step [] w1 w3:=hs2.then1 hs3 hb5
  refine QZ<|Ke (by rfl) ?_
  refine Xx.pre2 ?_
  refine Qb<|x (Qq hB5' rfl rfl)<|xe ?_
  refine xy (l:=l) rfl (hY ys ⟨e,hme⟩ w3 (ab hJ1 hs13) (by omega)) fun en W3 hen=>Or.elim hen (fun h1=>⟨.bool true,h1.1,?_⟩) (fun h1=>⟨.bool false,h1.1,?_⟩)
  ·refine Xx.of_XL<|x (Zo rfl)<|xe ?_
   refine Kf rfl<|Z2 ?_
   refine QH (by rfl) (by rfl) ?_
   refine x (Qy rfl rfl ⟨by omega,by omega⟩)<|Qb<|xe ?_
   exact ⟨(k+1,ys++[⟨e,hme⟩]),by simp only[];omega,⟨rfl,trivial⟩,rfl,hlt,(hs1.trans hs13).lw h1.2.2,by rw[htk,List.map_append,hys];rfl,h1.2.1⟩
  ·refine Xx.of_XL<|x (Zo rfl)<|xe ?_
   refine yO rfl ?_
   refine JY ⟨fun _ h=>(by cases h),List.nodup_nil,[],fun W' hW'=>⟨trivial,.inr ⟨ys++[⟨e,hme⟩],trivial,?_⟩⟩⟩
   exact hJx _ W3 W' none h1.2 ⟨hW'.os,hW'.tape,hW'.output,hW'.size,fun k hk _=>hW'.block k hk (by simp)⟩ (fun r e=>by cases e)
 refine (callsIn_wide (n:=m)).2 ?_
 have ea:(#[.func (.yield l) #[] #[]]++[.pointer (some ⟨b1,0,none⟩),.pointer (some ⟨b2,0,none⟩)].toArray:Array Value)=[.func (.yield l) #[] #[],.pointer (some ⟨b1,0,none⟩),.pointer (some ⟨b2,0,none⟩)].toArray:=by simp
 rw[ea]
 unfold QG at key
 refine Calls.mono key fun e w' he=>?_
 cases e with
 | returned v=>exact ⟨⟨v,rfl⟩,he⟩
 | panicked c=>exact he.elim
 | outgrown=>exact he.elim
def Par (n:Nat) (ed:List Ed):Prop:=∀j:Nat,0<j→j<n→∃e∈ed,e.2.2=(j:Int)∧e.1<(j:Int)
theorem QgS {aa:List QM}{i:Nat}{t:LI}{s s':Sy}{v:Int}(h:Par s.tup.length s.ed) (hi:i<s.tup.length) (e:syE aa i t s v=some s'):Par s'.tup.length s'.ed∧i<s'.tup.length:=by
 unfold syE at e
 cases hs:ZV v aa t with
 | none=>rw[hs] at e;cases e;exact ⟨h,hi⟩
 | some u =>
  rw[hs] at e
  simp only[] at e
  by_cases hu:u∈s.tup
  ·rw[if_pos hu] at e
   cases e
   refine ⟨fun j h0 hj=>?_,hi⟩
   obtain ⟨d,hd,h1⟩:=h j h0 hj
   exact ⟨d,List.mem_append_left _ hd,h1⟩
  ·rw[if_neg hu] at e
   split at e
   ·cases e
   ·cases e
    refine ⟨fun j h0 hj=>?_,by simp;omega⟩
    simp only[List.length_append,List.length_singleton] at hj
    by_cases hjl:j=s.tup.length
    ·exact ⟨((i:Int),v,(s.tup.length:Int)),by simp,by rw[hjl],by simp only[];omega⟩
    ·obtain ⟨d,hd,h1⟩:=h j h0 (by omega)
     exact ⟨d,List.mem_append_left _ hd,h1⟩
theorem y7 {aa:List QM}{i:Nat}{t:LI}:∀(vs:LI) (s s':Sy),Par s.tup.length s.ed→i<s.tup.length→Vp aa i t vs s=some s'→Par s'.tup.length s'.ed
 | [],s,s',h,_,e=>by cases e;exact h
 | v::vs,s,s',h,hi,e=>by
  rw[Vp] at e
  obtain ⟨s1,h1,h2⟩:=Option.bind_eq_some_iff.1 e
  have:=QgS h hi h1
  exact y7 vs s1 s' this.1 this.2 h2
theorem QbN {aa:List QM}:∀(f i:Nat) (s s':Sy),Par s.tup.length s.ed→syL aa f i s=some s'→Par s'.tup.length s'.ed
 | 0,i,s,s',h,e=>by cases e;exact h
 | f+1,i,s,s',h,e=>by
  rw[syL] at e
  split at e
  ·rename_i hi
   obtain ⟨s1,h1,h2⟩:=Option.bind_eq_some_iff.1 e
   have ht:(ZC aa i (qq s i) s).tup=s.tup:=by unfold ZC;split <;> rfl
   have hed:(ZC aa i (qq s i) s).ed=s.ed:=by unfold ZC;split <;> rfl
   refine QbN f (i+1) s1 s' (y7 _ _ s1 (by rw[ht,hed];exact h) (by rw[ht];exact hi) h1) h2
  ·cases e;exact h
theorem Qd1 {aa:List QM}{A:QM}{Q:List (LI)}(h:sync aa=some (A,Q)):Par Q.length A.ed:=by
 unfold sync at h
 split at h
 ·cases h;intro j _ hj;simp at hj
 ·obtain ⟨s,h1,h2⟩:=Option.map_eq_some_iff.1 h
  cases h2
  exact QbN 4096 0 (qt aa) s (fun j h0 hj=>by simp[qt] at hj;omega) h1
def KN (st:List Ed):LI:=st.map (·.1)
def gE (st:List Ed) (k:Nat):Ed:=st.getD k (0,-1,0)
theorem Qco {st:List Ed}{k:Nat}(h:k<st.length):st[k]'h=gE st k:=by simp[gE,List.getD,h]
theorem Qjo {st:List Ed}{k:Nat}(h:k<st.length):gE st k∈st:=by rw[←Qco h];exact List.getElem_mem h
def YG (pm:Ed→Bool) (i:Nat) (st:List Ed) (e:Ed):List Ed:=if e.2.2∉KN st∧pm e=true then st++[(e.2.2,(i:Int),e.2.1)] else st
def wrd (st:List Ed):Nat→Nat→LI
 | 0,_=>[]
 | f+1,k=>if 0≤(gE st k).2.1 then (gE st k).2.2::wrd st f (gE st k).2.1.toNat else []
def JG (wt:Int→Bool) (pm:Ed→Bool) (es:List Ed):Nat→Nat→List Ed→LI×Bool
 | 0,_,_=>([],false)
 | f+1,i,st=>if i<st.length then (if wt (gE st i).1=true then ((wrd st (i+1) i).reverse,true) else JG wt pm es f (i+1) ((Zv es (gE st i).1).foldl (YG pm i) st)) else ([],false)
def pth (wt:Int→Bool) (pm:Ed→Bool) (es:List Ed) (n from0:Nat):LI×Bool:=JG wt pm es (n+1) 0 [((from0:Int),-1,-1)]
structure qk (n:Nat) (st:List Ed):Prop where
 nd:(KN st).Nodup
 rg:∀x∈st,0≤x.1∧x.1<(n:Int)
 par:∀k,k<st.length→(gE st k).2.1=-1∨(0≤(gE st k).2.1∧(gE st k).2.1<(k:Int))
theorem qk.le {n:Nat}{st:List Ed}(h:qk n st):st.length≤n:=by
 have:=pig n (KN st) h.nd (fun x hx=>by
  unfold KN at hx
  obtain ⟨y,hy,rfl⟩:=List.mem_map.1 hx
  exact h.rg y hy)
 simpa[KN] using this
theorem Ua {st:List Ed}{x:Ed}{k:Nat}(h:k<st.length):gE (st++[x]) k=gE st k:=by
 unfold gE;simp[List.getD,List.getElem?_append_left h]
theorem yv (st:List Ed) (x:Ed):gE (st++[x]) st.length=x:=by
 unfold gE;simp[List.getD]
theorem QcM {n i:Nat}{pm:Ed→Bool}{st:List Ed}{e:Ed}(h:qk n st) (hi:i<st.length) (he:0≤e.2.2∧e.2.2<(n:Int)):qk n (YG pm i st e)∧i<(YG pm i st e).length:=by
 unfold YG
 split
 ·rename_i hc
  refine ⟨⟨?_,fun x hx=>?_,fun k hk=>?_⟩,by simp;omega⟩
  ·unfold KN at hc ⊢
   rw[List.map_append]
   exact Kx h.nd hc.1
  ·simp only[List.mem_append,List.mem_singleton] at hx
   rcases hx with hx | rfl
   ·exact h.rg x hx
   ·exact he
  ·by_cases hkl:k<st.length
   ·rw[Ua hkl];exact h.par k hkl
   ·have:k=st.length:=by simp at hk;omega
    subst this
    rw[yv]
    simp only[];omega
 ·exact ⟨h,hi⟩
theorem QeH {n from0:Nat}(h:from0<n):qk n [((from0:Int),-1,-1)]:=by
 refine ⟨by simp[KN],fun x hx=>?_,fun k hk=>?_⟩
 ·simp at hx;subst hx;simp only[];omega
 ·simp at hk;subst hk;exact .inl rfl
theorem Qda {wt:Int→Bool}{pm:Ed→Bool}{es:List Ed}{f i:Nat}{st:List Ed}(h:¬i<st.length):JG wt pm es f i st=([],false):=by
 cases f with
 | zero=>rfl
 | succ f=>rw[JG,if_neg h]
theorem Qap (pm:Ed→Bool) (i:Nat) (st:List Ed) (e:Ed):st <+: YG pm i st e:=by
 unfold YG;split
 ·exact List.prefix_append _ _
 ·exact List.prefix_refl _
theorem Kd (pm:Ed→Bool) (i:Nat):∀(l:List Ed) (st:List Ed),st <+: l.foldl (YG pm i) st
 | [],_=>List.prefix_refl _
 | e::l,st=>(Qap pm i st e).trans (Kd pm i l _)
theorem Qao {n i:Nat}{pm:Ed→Bool}:∀(l:List Ed) (st:List Ed),qk n st→i<st.length→(∀e∈l,0≤e.2.2∧e.2.2<(n:Int))→qk n (l.foldl (YG pm i) st)∧i<(l.foldl (YG pm i) st).length
 | [],_,h,hi,_=>⟨h,hi⟩
 | e::l,st,h,hi,hl=>by
  have h1:=QcM (pm:=pm) h hi (hl e List.mem_cons_self)
  exact Qao l _ h1.1 h1.2 (fun d hd=>hl d (List.mem_cons_of_mem _ hd))
theorem UM {st st':List Ed}(h:st <+: st') {k:Nat}(hk:k<st.length):gE st' k=gE st k:=by
 obtain ⟨r,rfl⟩:=h
 unfold gE;simp[List.getD,List.getElem?_append_left hk]
theorem zV {st st':List Ed}(h:st <+: st') {x:Int}(hx:x∈KN st):x∈KN st':=by
 obtain ⟨r,rfl⟩:=h
 unfold KN at *;rw[List.map_append];exact List.mem_append_left _ hx
theorem zH {pm:Ed→Bool}{i:Nat}:∀(l:List Ed) (st:List Ed),(∀e∈l,pm e=true)→∀e∈l,e.2.2∈KN (l.foldl (YG pm i) st)
 | [],_,_,e,he=>by cases he
 | d::l,st,h,e,he=>by
  rcases List.mem_cons.1 he with rfl | he
  ·refine zV (Kd pm i l _) ?_
   unfold YG
   by_cases hc:e.2.2∈KN st
   ·rw[if_neg (fun h=>h.1 hc)];exact hc
   ·rw[if_pos ⟨hc,h e List.mem_cons_self⟩]
    unfold KN;rw[List.map_append];simp
  ·exact zH l _ (fun e he=>h e (List.mem_cons_of_mem _ he)) e he
theorem Qa1 {wt:Int→Bool}{pm:Ed→Bool}{es:List Ed}{n:Nat}(hpar:Par n es) (hes:∀e∈es,0≤e.1∧0≤e.2.2∧e.2.2<(n:Int)) (hpm:∀e∈es,pm e=true) {s:Nat}(hs:s<n) (hw:wt s=true) :
  ∀(f i:Nat) (st:List Ed),qk n st→(0:Int)∈KN st→n+1≤f+i→(∀k,k<i→k<st.length→wt (gE st k).1=false∧∀e∈es,e.1=(gE st k).1→e.2.2∈KN st)→(JG wt pm es f i st).2=true:=by
 have fin:∀(i:Nat) (st:List Ed),qk n st→(0:Int)∈KN st→¬i<st.length→(∀k,k<i→k<st.length→wt (gE st k).1=false∧∀e∈es,e.1=(gE st k).1→e.2.2∈KN st)→False:=by
  intro i st hok h0 hi hcl
  have idx:∀x∈KN st,∃k,k<st.length∧(gE st k).1=x:=by
   intro x hx
   unfold KN at hx
   obtain ⟨y,hy,rfl⟩:=List.mem_map.1 hx
   obtain ⟨k,hk,rfl⟩:=List.getElem_of_mem hy
   exact ⟨k,hk,by rw[Qco hk]⟩
  have all:∀(m j:Nat),j<m→j<n→(j:Int)∈KN st:=by
   intro m
   induction m with
   | zero=>intro j hj;omega
   | succ m ih =>
    intro j hj hjn
    by_cases hj0:j=0
    ·subst hj0;exact h0
    ·obtain ⟨e,he,h1,h2⟩:=hpar j (by omega) hjn
     have he0:=(hes e he).1
     have h3:=ih e.1.toNat (by omega) (by omega)
     have h4:((e.1.toNat:Nat):Int)=e.1:=by omega
     rw[h4] at h3
     obtain ⟨k,hk,hke⟩:=idx _ h3
     have h5:=(hcl k (by omega) hk).2 e he hke.symm
     rw[h1] at h5;exact h5
  obtain ⟨k,hk,hke⟩:=idx _ (all (s+1) s (by omega) hs)
  have:=(hcl k (by omega) hk).1
  rw[hke,hw] at this;cases this
 intro f
 induction f with
 | zero =>
  intro i st hok h0 hf hcl
  have:=hok.le
  exact (fin i st hok h0 (by omega) hcl).elim
 | succ f ih =>
  intro i st hok h0 hf hcl
  by_cases hi:i<st.length
  ·rw[JG,if_pos hi]
   split
   ·rfl
   ·rename_i hwn
    have ho:=fun e (he:e∈Zv es (gE st i).1)=>Z8 he
    have hk:=Qao (pm:=pm) (Zv es (gE st i).1) st hok hi (fun e he=>(hes e (ho e he).1).2)
    have hpre:=Kd pm i (Zv es (gE st i).1) st
    have hl:st.length≤((Zv es (gE st i).1).foldl (YG pm i) st).length:=hpre.length_le
    refine ih (i+1) _ hk.1 (zV hpre h0) (by omega) (fun k hki hkl=>?_)
    by_cases e:k=i
    ·subst e
     rw[UM hpre hi]
     refine ⟨by simpa using hwn,fun e he h1=>?_⟩
     exact zH _ st (fun d hd=>hpm d (ho d hd).1) e (by unfold Zv;simp[he,h1])
    ·have hks:k<st.length:=by omega
     rw[UM hpre hks]
     have:=hcl k (by omega) hks
     exact ⟨this.1,fun e he h1=>zV hpre (this.2 e he h1)⟩
  ·exact (fin i st hok h0 hi hcl).elim
theorem Qc9 {wt:Int→Bool}{pm:Ed→Bool}{es:List Ed}{n:Nat}(hpar:Par n es) (hes:∀e∈es,0≤e.1∧0≤e.2.2∧e.2.2<(n:Int)) (hpm:∀e∈es,pm e=true) {s:Nat}(hs:s<n) (hw:wt s=true):(pth wt pm es n 0).2=true :=
 Qa1 hpar hes hpm hs hw (n+1) 0 _ (QeH (by omega)) (by simp[KN]) (by omega) (fun k hk=>by omega)
abbrev Lf:=List Bool
def lft (l:Lf) (s:Int):Bool:=l.getD s.toNat false
def cut (l:Lf) (s:Int):Lf:=l.set s.toNat false
def JL (ul:LI) (lf:Lf) (out:List (Int×Int)) (e:Ed):List (Int×Int) :=
 if lft lf e.1=false∨lft lf e.2.2=true∨e.2.1∉ul then out else if out.getLast?.map (·.1)=some e.1 then out else out++[(e.1,e.2.1)]
def lost (a:QM) (ul:LI) (lf:Lf):List (Int×Int):=a.ed.foldl (JL ul lf) []
def dsE (lf:Lf) (x:Int) (z:LI×LI) (y:Int):LI×LI:=if lft lf y=true∧cget z.1 y.toNat<0 then (z.1.set y.toNat (cget z.1 x.toNat+1),z.2++[y]) else z
def dsL (es:List Ed) (lf:Lf):Nat→Nat→LI×LI→LI×LI
 | 0,_,z=>z
 | f+1,i,z=>if i<z.2.length then dsL es lf f (i+1) ((Zz es (cget z.2 i).toNat).foldl (dsE lf (cget z.2 i)) z) else z
def yS (lf:Lf) (z:LI×LI) (x:Int):LI×LI:=if lft lf x=true then (z.1.set x.toNat 0,z.2++[x]) else z
def ds0 (a:QM) (lf:Lf):LI×LI:=a.mr.foldl (yS lf) (List.replicate a.st.toNat (-1),[])
def dsts (a:QM) (lf:Lf):LI:=(dsL a.ed lf a.st.toNat 0 (ds0 a lf)).1
def KG (lf:Lf):Nat→LI→LI
 | _,[]=>[]
 | i,d::l=>if lf.getD i false=true∧d<0 then (i:Int)::KG lf (i+1) l else KG lf (i+1) l
def nxs (a:QM) (ul:LI) (lf:Lf):LI:=if (lost a ul lf).length≠0 then (lost a ul lf).map (·.1) else KG lf 0 (dsts a lf)
def qE (a:QM) (ul:LI):Nat→Lf→Lf
 | 0,lf=>lf
 | f+1,lf=>if (nxs a ul lf).length=0 then lf else qE a ul f ((nxs a ul lf).foldl cut lf)
def lf0 (n:Nat) (fb:LI):Lf:=fb.foldl cut (List.replicate n true)
def Qkv (a:QM) (fb ul:LI):Lf:=qE a ul (a.st.toNat+1) (lf0 a.st.toNat fb)
def rstr (a:QM) (lf:Lf):QM:=⟨a.al,a.st,a.mr,a.ed.filter fun e=>lft lf e.2.2⟩
def QaL (a:QM) (lf:Lf):QM:=if a.st=0∨lft lf 0=false then ⟨a.al,0,[],[]⟩ else Jw (rstr a lf)
def Qlm (a:QM) (fb ul:LI):Int:=if Y8 a≠0 then Y8 a else if YT a.st none fb≠0 then YT a.st none fb else YT 32 none ul
def zU (a:QM) (fb ul:LI):QM:=QaL a (Qkv a fb ul)
def fbs (s:Spc):LI:=s.fb.map (·.st)
def suE (c:Zy):Int:=Y0 c
def V2 (c:Zy):QM:=zU (spc c).a (fbs (spc c)) (unc c.ev)
def orB (b:Nat) (k:Nat):Nat:=b ||| (1 <<< k)
def rqB (x:Jb):Nat→Nat→List Jb→Nat
 | _,b,[]=>b
 | k,b,y::l=>rqB x (k+1) (if (y.a.al.any fun e=>decide (e∈x.a.al))=true then orB b k else b) l
def prB (ls:List (Int×Int)):Nat:=ls.foldl (fun b l=>orB b l.1.toNat) 0
def srR (c:Zy):LN:=c.rq.map fun x=>rqB x 0 0 c.co
def srX (c:Zy):LN:=c.ex.map fun x=>prB x.ls
def srC (c:Zy):LN:=c.cs.map fun x=>prB x.ts
def srK (c:Zy) (k:Int):LN:=if k=1 then srR c else if k=2 then srX c else srC c
structure Mdl where
 kd:Int
 ix:Int
 co:LI
def UB (k:Int):Nat→LN→List Mdl
 | _,[]=>[]
 | i,b::l=>⟨k,i,setK b 8⟩::UB k (i+1) l
def mods (c:Zy):List Mdl:=UB 1 0 (srR c)++(UB 2 0 (srX c)++UB 3 0 (srC c))
def sets (c:Zy):LN:=srR c++(srX c++srC c)
def QaR (c:Zy):Nat:=(sets c).foldl (fun l b=>l &&& (65535 ^^^ b)) (2 ^ c.co.length - 1)
def rem (c:Zy):LI:=setK (QaR c) 8
def mdE (c:Zy) (m:Mdl):Int:=if Zg c≠0 then Zg c else if m.kd<1∨3<m.kd then 11 else if m.ix<0∨((srK c m.kd).length:Int)≤m.ix then 10 else if m.co=setK ((srK c m.kd).getD m.ix.toNat 0) 8 then 0 else 13
structure Prt where
 co:LI
 rq:LI
 ex:LI
 cs:LI
def chs (l:List Jb) (ix:LI):List Jb:=ix.map fun i=>l.getD i.toNat ⟨.empty,⟨[],0,[],[]⟩⟩
def ixP (co:LI) (ls:List (Int×Int)):List (Int×Int):=ls.map fun l=>((co.idxOf l.1:Int),l.2)
def mis (co:LI) (ls:List (Int×Int)):Bool:=ls.any fun l=>decide (l.1∉co)
def Qg3 (c:Zy) (p:Prt):List Exc:=p.ex.map fun i=>⟨(c.ex.getD i.toNat ⟨.empty,[]⟩).nm,ixP p.co (c.ex.getD i.toNat ⟨.empty,[]⟩).ls⟩
def Qg5 (c:Zy) (p:Prt):List XS:=p.cs.map fun i=>⟨(c.cs.getD i.toNat ⟨.empty,[],0⟩).nm,ixP p.co (c.cs.getD i.toNat ⟨.empty,[],0⟩).ts,(c.cs.getD i.toNat ⟨.empty,[],0⟩).bd⟩
def QcZ (c:Zy) (p:Prt):Zy:=⟨c.ev,chs c.co p.co,chs c.rq p.rq,Qg3 c p,Qg5 c p⟩
def Qkt (c:Zy) (p:Prt):Bool:=(p.ex.any fun i=>mis p.co (c.ex.getD i.toNat ⟨.empty,[]⟩).ls) || (p.cs.any fun i=>mis p.co (c.cs.getD i.toNat ⟨.empty,[],0⟩).ts)
def zX (c:Zy) (p:Prt):Int :=
 if Zg c≠0 then Zg c else if YT c.co.length none p.co≠0 then YT c.co.length none p.co else if YT c.rq.length none p.rq≠0 then YT c.rq.length none p.rq else
 if YT c.ex.length none p.ex≠0 then YT c.ex.length none p.ex else if YT c.cs.length none p.cs≠0 then YT c.cs.length none p.cs else if Qkt c p=true then 13 else Zg (QcZ c p)
def prt (m:Mdl):Prt:=⟨m.co,if m.kd=1 then [m.ix] else [],if m.kd=2 then [m.ix] else [],if m.kd≠1∧m.kd≠2 then [m.ix] else []⟩
def mcE (c:Zy) (m:Mdl):Int:=if mdE c m≠0 then mdE c m else zX c (prt m)
def mcC (c:Zy) (m:Mdl):Zy:=QcZ c (prt m)
def msE (c:Zy) (m:Mdl):Int:=if mcE c m≠0 then mcE c m else suE (mcC c m)
def msA (c:Zy) (m:Mdl):QM:=V2 (mcC c m)
def msL (c:Zy):List Mdl→Int
 | []=>0
 | m::l=>if msE c m≠0 then msE c m else msL c l
def KQ (c:Zy):Int:=if Zg c≠0 then Zg c else msL c (mods c)
def Xl (c:Zy):List QM:=(mods c).map (msA c)++(rem c).map fun i=>(c.co.getD i.toNat ⟨.empty,⟨[],0,[],[]⟩⟩).a
def XX (l:List QM):Int:=if Kc l≠0 then Kc l else match sync l with | none=>3 | some _=>0
def XW (c:Zy):Int:=if KQ c≠0 then KQ c else XX (Xl c)
def Z7 (c:Zy):QM:=syA (Xl c)
def tgQ (c:Zy):List (LI):=syQ (Xl c)
def ownr (c:Zy) (v:Int):LI:=ixs (fun x:Jb=>decide (v∈x.a.al)) 0 c.co
def shd (c:Zy):LI→Option (Int×Int×Int)
 | []=>none
 | v::l=>if 2≤(ownr c v).length then some (v,cget (ownr c v) 0,cget (ownr c v) 1) else shd c l
def Un (c:Zy):Option (Int×Int×Int):=shd c (Ki c.ev.length)
theorem QjA (lf:Lf) (x:Int) (z:LI×LI) (y:Int):dsE lf x z y=if lft lf y=true then qv x z y else z:=by
 unfold dsE qv
 by_cases h:lft lf y=true <;> by_cases h2:cget z.1 y.toNat<0 <;> simp[h,h2]
structure DsI (n:Nat) (z:LI×LI):Prop where
 ok:QbJ n z.1 z.2
 cnt:neg z.1+z.2.length=n
 s0:Qgl z.1 z.2
theorem DsI.le {n:Nat}{z:LI×LI}(h:DsI n z):z.2.length≤n:=by have:=h.cnt;omega
theorem QfP {n:Nat}{lf:Lf}{x y:Int}{z:LI×LI}(h:DsI n z) (hx:0≤x∧x<(n:Int)) (hx0:0≤cget z.1 x.toNat) (hy:0≤y∧y<(n:Int)) :
  DsI n (dsE lf x z y)∧0≤cget (dsE lf x z y).1 x.toNat:=by
 rw[QjA]
 split
 ·obtain ⟨h1,h2,h3⟩:=Qf8 h.ok hx hx0 hy
  exact ⟨⟨h1,by have:=h.cnt;omega,Qak h.ok hx0 hy h.s0⟩,h3⟩
 ·exact ⟨h,hx0⟩
theorem Qh7 (lf:Lf) (x:Int) (z:LI×LI) (y:Int):∃r,(dsE lf x z y).2=z.2++r:=by
 unfold dsE;split
 ·exact ⟨[y],rfl⟩
 ·exact ⟨[],by simp⟩
theorem Qh6 {n:Nat}{lf:Lf}{x:Int}(hx:0≤x∧x<(n:Int)):∀(l:LI) (z:LI×LI),DsI n z→0≤cget z.1 x.toNat→(∀y∈l,0≤y∧y<(n:Int)) →
  DsI n (l.foldl (dsE lf x) z)∧∃r,(l.foldl (dsE lf x) z).2=z.2++r
 | [],z,h,_,_=>⟨h,[],by simp⟩
 | y::l,z,h,h0,hl=>by
  obtain ⟨h1,h2⟩:=QfP (lf:=lf) h hx h0 (hl y List.mem_cons_self)
  obtain ⟨h3,r2,h4⟩:=Qh6 hx l _ h1 h2 (fun y hy=>hl y (List.mem_cons_of_mem _ hy))
  obtain ⟨r1,h5⟩:=Qh7 lf x z y
  exact ⟨h3,r1++r2,by rw[List.foldl_cons,h4,h5,List.append_assoc]⟩
theorem QfO {es:List Ed}{lf:Lf}{f i:Nat}{z:LI×LI}(h:¬i<z.2.length):dsL es lf f i z=z:=by
 cases f with
 | zero=>rfl
 | succ f=>rw[dsL,if_neg h]
theorem QcG {n:Nat}{l:LI}{x:Int}(h0:0≤x):(Vh n l).set x.toNat 0=Vh n (l++[x]):=by
 apply List.ext_getElem
 ·simp[Vh]
 ·intro i h2 h3
  rw[List.getElem_set]
  by_cases e:x.toNat=i
  ·have:(i:Int)=x:=by omega
   rw[if_pos e];simp[Vh,this]
  ·have:(i:Int)≠x:=by omega
   rw[if_neg e];simp[Vh,this]
theorem j0 {a:QM}{lf:Lf}(hm:∀x∈a.mr,0≤x) (k:Nat):(a.mr.take k).foldl (yS lf) (List.replicate a.st.toNat (-1),[])=(Vh a.st.toNat ((a.mr.take k).filter (lft lf)),(a.mr.take k).filter (lft lf)):=by
 induction k with
 | zero =>
  simp only[List.take_zero,List.foldl_nil,List.filter_nil]
  congr 1
  apply List.ext_getElem
  ·simp[Vh]
  ·intro i h1 h2;simp[Vh]
 | succ k ih =>
  by_cases hk:k<a.mr.length
  ·rw[List.take_succ_eq_append_getElem hk,List.foldl_append,ih,List.filter_append]
   simp only[List.foldl_cons,List.foldl_nil,yS]
   by_cases hl:lft lf (a.mr[k]'hk)=true
   ·rw[if_pos hl,QcG (hm _ (List.getElem_mem hk))]
    simp[hl]
   ·rw[if_neg hl]
    simp[hl]
  ·have e:a.mr.take (k+1)=a.mr.take k:=by rw[List.take_of_length_le (by omega),List.take_of_length_le (by omega)]
   rw[e];exact ih
theorem QjC {a:QM}{lf:Lf}(hm:∀x∈a.mr,0≤x):ds0 a lf=(Vh a.st.toNat (a.mr.filter (lft lf)),a.mr.filter (lft lf)):=by
 have:=j0 (lf:=lf) hm a.mr.length
 rw[List.take_length] at this
 exact this
theorem Qhk {n:Nat}(l:LI) (hn:l.Nodup) (hb:∀x∈l,0≤x∧x<(n:Int)):neg (Vh n l)+l.length=n:=by
 have key:∀k,k≤l.length→neg (Vh n (l.take k))+k=n:=by
  intro k
  induction k with
  | zero =>
   intro _
   have e:Vh n (l.take 0)=List.replicate n (-1):=by
    apply List.ext_getElem
    ·simp[Vh]
    ·intro i h1 h2;simp[Vh]
   rw[e]
   unfold neg
   simp
  | succ k ih =>
   intro hk
   have h1:=ih (by omega)
   have hx:=hb _ (List.getElem_mem (show k<l.length by omega))
   rw[List.take_succ_eq_append_getElem (show k<l.length by omega),←QcG hx.1]
   have hxl:(l[k]'(by omega)).toNat<(Vh n (l.take k)).length:=by rw[Jk];omega
   have hng:=KW (Vh n (l.take k)) (l[k]'(by omega)).toNat 0 hxl (by
    have e:(((l[k]'(by omega)).toNat:Nat):Int)=l[k]'(by omega):=by omega
    have hnm:(l[k]'(by omega))∉l.take k:=fun h=>by
     obtain ⟨j,hj,he⟩:=List.getElem_of_mem h
     rw[List.getElem_take] at he
     have hj':j<k:=by simp at hj;omega
     have:=(List.pairwise_iff_getElem.1 hn) j k (by omega) (by omega) hj'
     exact this he
    simp[Vh,e,hnm]) (Int.le_refl _)
   omega
 have:=key l.length (Nat.le_refl _)
 rwa [List.take_length] at this
theorem QjB {a:QM}{lf:Lf}{n:Nat}(ho:Q4 a) (hn:a.st=(n:Int)):DsI n (ds0 a lf):=by
 have hb:∀x∈a.mr.filter (lft lf),0≤x∧x<(n:Int):=fun x hx=>by rw[←hn];exact ho.mr x (List.mem_filter.1 hx).1
 have e:a.st.toNat=n:=by omega
 rw[QjC (fun x hx=>(ho.mr x hx).1),e]
 refine ⟨Qf9 hb,Qhk _ ((ho.mri.imp (fun h=>by omega)).filter _) hb,fun x hx=>?_⟩
 rw[QcH (hb x hx) hx];exact Int.le_refl _
def KA (l:Lf):Nat:=l.countP (· == true)
theorem Qic (l:Lf):KA l≤l.length:=List.countP_le_length
theorem Qcy (l:Lf) (s:Int):(cut l s).length=l.length:=by simp[cut]
theorem UY:∀(xs:LI) (l:Lf),(xs.foldl cut l).length=l.length
 | [],_=>rfl
 | x::xs,l=>by rw[List.foldl_cons,UY xs,Qcy]
theorem Qcz:∀(l:Lf) (i:Nat),KA (l.set i false)+(if l.getD i false=true then 1 else 0)=KA l
 | [],i=>by simp[KA]
 | b::l,0=>by cases b <;> simp[KA]
 | b::l,i+1=>by
  have ih:=Qcz l i
  unfold KA at *
  simp only[List.set_cons_succ,List.countP_cons,List.getD_cons_succ]
  omega
theorem QcA (l:Lf) (s:Int):KA (cut l s)+(if lft l s=true then 1 else 0)=KA l:=Qcz l s.toNat
theorem j7:∀(xs:LI) (l:Lf),KA (xs.foldl cut l)≤KA l
 | [],_=>Nat.le_refl _
 | x::xs,l=>by
  have h1:=j7 xs (cut l x)
  have h2:=QcA l x
  rw[List.foldl_cons];omega
theorem QfU {xs:LI}{l:Lf}(h:0<xs.length) (h0:∀x∈xs,lft l x=true):KA (xs.foldl cut l)<KA l:=by
 cases xs with
 | nil=>simp at h
 | cons x xs =>
  have h1:=j7 xs (cut l x)
  have h2:=QcA l x
  rw[if_pos (h0 x List.mem_cons_self)] at h2
  rw[List.foldl_cons];omega
def Qgr (a:QM) (lf:Lf) (out:List (Int×Int)):Prop:=∀p∈out,lft lf p.1=true∧∃e∈a.ed,e.1=p.1∧e.2.1=p.2
theorem Qhs {a:QM}{ul:LI}{lf:Lf}{out:List (Int×Int)}{e:Ed}(h:Qgr a lf out) (he:e∈a.ed):Qgr a lf (JL ul lf out e)∧(JL ul lf out e).length≤out.length+1:=by
 unfold JL
 split
 ·exact ⟨h,by omega⟩
 ·rename_i hc
  split
  ·exact ⟨h,by omega⟩
  ·refine ⟨fun p hp=>?_,by simp⟩
   simp only[List.mem_append,List.mem_singleton] at hp
   rcases hp with hp | rfl
   ·exact h p hp
   ·exact ⟨by cases hl:lft lf e.1 with | true=>rfl | false=>exact absurd (.inl hl) hc,e,he,rfl,rfl⟩
theorem UD {a:QM}{ul:LI}{lf:Lf}:∀(l:List Ed) (out:List (Int×Int)),(∀e∈l,e∈a.ed)→Qgr a lf out→Qgr a lf (l.foldl (JL ul lf) out)∧(l.foldl (JL ul lf) out).length≤out.length+l.length
 | [],out,_,h=>⟨h,by simp⟩
 | e::l,out,hl,h=>by
  obtain ⟨h1,h2⟩:=Qhs (ul:=ul) h (hl e List.mem_cons_self)
  obtain ⟨h3,h4⟩:=UD l _ (fun e he=>hl e (List.mem_cons_of_mem _ he)) h1
  exact ⟨h3,by rw[List.foldl_cons,List.length_cons];omega⟩
theorem yl (a:QM) (ul:LI) (lf:Lf):Qgr a lf (lost a ul lf)∧(lost a ul lf).length≤a.ed.length:=by
 have:=UD (ul:=ul) (lf:=lf) a.ed [] (fun _ h=>h) (fun p hp=>by cases hp)
 unfold lost
 simpa using this
theorem Vi (lf:Lf):∀(l:LI) (i:Nat),(∀x∈KG lf i l,lft lf x=true∧(i:Int)≤x∧x<(i:Int)+l.length)∧(KG lf i l).length≤l.length
 | [],i=>⟨fun x hx=>(by cases hx),Nat.le_refl _⟩
 | d::l,i=>by
  obtain ⟨h1,h2⟩:=Vi lf l (i+1)
  unfold KG
  split
  ·rename_i hc
   refine ⟨fun x hx=>?_,by simp;omega⟩
   rcases List.mem_cons.1 hx with rfl | hx
   ·exact ⟨by unfold lft;simpa using hc.1,Int.le_refl _,by simp;omega⟩
   ·have:=h1 x hx
    exact ⟨this.1,by omega,by simp only[List.length_cons];omega⟩
  ·refine ⟨fun x hx=>?_,by simp;omega⟩
   have:=h1 x hx
   exact ⟨this.1,by omega,by simp only[List.length_cons];omega⟩
theorem QeT {a:QM}{ul:LI}{lf:Lf}(x:Int) (hx:x∈nxs a ul lf):lft lf x=true:=by
 unfold nxs at hx
 split at hx
 ·obtain ⟨p,hp,rfl⟩:=List.mem_map.1 hx
  exact ((yl a ul lf).1 p hp).1
 ·exact ((Vi lf (dsts a lf) 0).1 x hx).1
theorem Qc5 {a:QM}{ul:LI}{f:Nat}{lf:Lf}(h:(nxs a ul lf).length=0):qE a ul f lf=lf:=by
 cases f with
 | zero=>rfl
 | succ f=>rw[qE,if_pos h]
theorem Qc4 {a:QM}{ul:LI}{f:Nat}{lf:Lf}(h:(nxs a ul lf).length≠0):qE a ul (f+1) lf=qE a ul f ((nxs a ul lf).foldl cut lf):=by rw[qE,if_neg h]
theorem QeU {a:QM}{ul:LI}{lf:Lf}(h:(nxs a ul lf).length≠0):KA ((nxs a ul lf).foldl cut lf)<KA lf:=QfU (by omega) (fun x hx=>QeT x hx)
theorem qX {a:QM}(h:Q4 a) (lf:Lf):Q4 (rstr a lf) :=
 ⟨h.al,h.ali,h.st0,h.st1,h.mr,h.mri,fun e he=>h.ed e (List.mem_filter.1 he).1,h.edi.filter _⟩
structure PI (w0:World) (b4 b7 b10 b11 bS n:Nat) (gc:LV) (pf:Value) (bi i:Nat) (vs:Value) (st:List Ed) (W:World):Prop where
 stp:Step [] w0 W
 B4:QS W.heap b4 156 gc
 B7:QS W.heap b7 225 [pf]
 B10:QS W.heap b10 263 [vs]
 B11:QS W.heap b11 222 [.slice (some ⟨bS,0,none⟩) n n]
 BS:QS W.heap bS 4 ((flg n (KN st)).map Value.bool)
 BI:QS W.heap bi 3 [.int .i64 i]
 R:ZT 262 w0.heap.size W vs st
 ne:∀b∈ob vs,b≠b4∧b≠b7∧b≠b10∧b≠b11∧b≠bS∧b≠bi
theorem PI.ext {w0:World}{b4 b7 b10 b11 bS n:Nat}{gc:LV}{pf:Value}{bi i:Nat}{vs:Value}{st:List Ed}{W W':World}(h:PI w0 b4 b7 b10 b11 bS n gc pf bi i vs st W) (hs:Step [] W W'):PI w0 b4 b7 b10 b11 bS n gc pf bi i vs st W' :=
 ⟨h.stp.trans hs,h.B4.ext hs,h.B7.ext hs,h.B10.ext hs,h.B11.ext hs,h.BS.ext hs,h.BI.ext hs,Qt h.R hs,h.ne⟩
theorem PI.stb {w0:World}{b4 b7 b10 b11 bS n:Nat}{gc:LV}{pf:Value}{bi i:Nat}{vs:Value}{st:List Ed}{B:Nat}(hB:w0.heap.size≤B):ZW B (fun W=>PI w0 b4 b7 b10 b11 bS n gc pf bi i vs st W):=fun W W' X h hs hX =>
 ⟨ZW.step hB W W' X h.stp hs hX,ZW.blk W W' X h.B4 hs hX,ZW.blk W W' X h.B7 hs hX,ZW.blk W W' X h.B10 hs hX,ZW.blk W W' X h.B11 hs hX,ZW.blk W W' X h.BS hs hX,ZW.blk W W' X h.BI hs hX,ZW.row W W' X h.R hs hX,h.ne⟩
def Kg (lo hi:Nat) (ds:LN) (W:World):Prop:=ds.Nodup∧∀D∈ds,lo≤D∧D<hi∧W.heap[D]?=some (.deferred (some []))
theorem Kg.step {lo hi:Nat}{ds:LN}{W W':World}{X:LN}(h:Kg lo hi ds W) (hs:Step X W W') (hX:∀b∈X,∃o:Obj,W.heap[b]?=some o∧o.isCells=true):Kg lo hi ds W':=by
 refine ⟨h.1,fun D hD=>⟨(h.2 D hD).1,(h.2 D hD).2.1,?_⟩⟩
 have h3:=(h.2 D hD).2.2
 refine (hs.block D (Array.getElem?_eq_some_iff.1 h3).1 (fun hx=>?_)).trans h3
 obtain ⟨o,h4,h5⟩:=hX D hx
 rw[h3] at h4;cases h4;cases h5
theorem Kg.ext {lo hi:Nat}{ds:LN}{W W':World}(h:Kg lo hi ds W) (hs:Step [] W W'):Kg lo hi ds W':=h.step hs (fun _ hb=>by cases hb)
theorem Kg.blk {lo hi:Nat}{ds:LN}{W W':World}{b T:Nat}{cs:LV}(h:Kg lo hi ds W) (hs:Step [b] W W') (hb:QS W.heap b T cs):Kg lo hi ds W' :=
 h.step hs (fun c hc=>by
  have e:c=b:=by simpa using hc
  subst e;exact hb.cells)
theorem Kg.up {lo hi hi':Nat}{ds:LN}{W:World}(h:Kg lo hi ds W) (hh:hi≤hi'):Kg lo hi' ds W:=⟨h.1,fun D hD=>⟨(h.2 D hD).1,by have:=(h.2 D hD).2.1;omega,(h.2 D hD).2.2⟩⟩
theorem Kg.cons {lo hi:Nat}{ds:LN}{W:World}{D:Nat}(h:Kg lo hi ds W) (hl:lo≤hi) (hD:hi≤D) (hd:W.heap[D]?=some (.deferred (some []))):Kg lo W.heap.size (D::ds) W:=by
 have hlt:=(Array.getElem?_eq_some_iff.1 hd).1
 refine ⟨List.nodup_cons.2 ⟨fun hm=>by have:=(h.2 D hm).2.1;omega,h.1⟩,fun E hE=>?_⟩
 rcases List.mem_cons.1 hE with rfl | hE
 ·exact ⟨by omega,hlt,hd⟩
 ·have:=h.2 E hE
  exact ⟨this.1,(Array.getElem?_eq_some_iff.1 this.2.2).1,this.2.2⟩
theorem Kg.stb {lo hi B:Nat}{ds:LN}(hh:hi≤B):ZW B (fun W=>Kg lo hi ds W):=fun W W' X h hs hX=>by
 refine ⟨h.1,fun D hD=>⟨(h.2 D hD).1,(h.2 D hD).2.1,?_⟩⟩
 have h3:=(h.2 D hD).2.2
 refine (hs.block D (Array.getElem?_eq_some_iff.1 h3).1 (fun hx=>?_)).trans h3
 have:=(hX D hx).1
 have:=(h.2 D hD).2.1
 omega
theorem Kg.own {lo hi:Nat}{ds:LN}{W:World}{base e sz n:Nat}{v:Value}{cs:LV}(h:Kg lo hi ds W) (ho:W.ownsRow base e sz v n cs):∀b∈ob v,b∉ds:=fun b hb hd=>by
 obtain ⟨o,h1,h2⟩:=Zk ho b hb
 rw[(h.2 b hd).2.2] at h1;cases h1;cases h2
theorem Kg.rst {lo hi B:Nat}{L ds:LN}{W W':World}(h:Kg lo hi ds W) (hs:Xj B L W W'):Kg lo hi ds W':=⟨h.1,fun D hD=>⟨(h.2 D hD).1,(h.2 D hD).2.1,hs.other D _ (h.2 D hD).2.2 rfl⟩⟩
theorem PI.add {w0:World}{b4 b7 b10 b11 bS n:Nat}{gc:LV}{pf:Value}{bi i:Nat}{v v':Value}{st:List Ed}{x:Ed}{W W1 W2 W3 W4:World}{B:Nat}{L0:LN}(h:PI w0 b4 b7 b10 b11 bS n gc pf bi i v st W)
  (hd:bS≠b4∧bS≠b7∧bS≠b10∧bS≠b11∧bS≠bi∧b10≠b4∧b10≠b7∧b10≠b11∧b10≠bi) (hB:B≤W.heap.size) (hbS:w0.heap.size≤bS) (hb10:w0.heap.size≤b10) (hlt:b4<W.heap.size∧b7<W.heap.size∧b11<W.heap.size∧bi<W.heap.size)
  (h1:Step [bS] W W1) (hS:QS W1.heap bS 4 ((flg n (KN (st++[x]))).map Value.bool)) (h2:Step [] W1 W2) (h3:Step (ob v) W2 W3) (hR:ZT 262 w0.heap.size W3 v' (st++[x])) (hn:∀b∈ob v',b∈ob v∨W2.heap.size≤b)
  (h4:Step [b10] W3 W4) (h10:QS W4.heap b10 263 [v']) (hv:∀b∈ob v,b∈L0∨B≤b) :
  PI w0 b4 b7 b10 b11 bS n gc pf bi i v' (st++[x]) W4∧Xj B (bS::b10::L0) W W4∧(∀b∈ob v',b∈L0∨B≤b):=by
 have hz1:=h1.size
 have hz2:=h2.size
 have hz3:=h3.size
 have hlS:=h.BS.lt
 have hl10:=h.B10.lt
 have key:∀b T cs,QS W.heap b T cs→b≠bS→b∉ob v→b≠b10→QS W4.heap b T cs:=fun b T cs hb e1 e2 e3=>(((hb.step h1 (by simpa using e1)).ext h2).step h3 e2).step h4 (by simpa using e3)
 have hne:=h.ne
 have nin:∀b,(∀c∈ob v,c≠b)→b∉ob v:=fun b hb hm=>hb b hm rfl
 have hb10v:b10∉ob v:=nin _ fun c hc=>(hne c hc).2.2.1
 have hbSv:bS∉ob v:=nin _ fun c hc=>(hne c hc).2.2.2.2.1
 have hRow:W2.ownsRow w0.heap.size 262 3 v st.length (st.flatMap QC):=Qt (Qk h.R h1 (fun b hb=>by have:=(hne b hb).2.2.2.2.1;simpa using this)) h2
 have hge:∀b∈ob v',b≠b4∧b≠b7∧b≠b10∧b≠b11∧b≠bS∧b≠bi:=fun b hb=>by
  rcases hn b hb with hb | hb
  ·exact hne b hb
  ·omega
 refine ⟨⟨?_,key _ _ _ h.B4 hd.1.symm (nin _ fun c hc=>(hne c hc).1) hd.2.2.2.2.2.1.symm,key _ _ _ h.B7 hd.2.1.symm (nin _ fun c hc=>(hne c hc).2.1) hd.2.2.2.2.2.2.1.symm,h10,
  key _ _ _ h.B11 hd.2.2.2.1.symm (nin _ fun c hc=>(hne c hc).2.2.2.1) hd.2.2.2.2.2.2.2.1.symm,((hS.ext h2).step h3 hbSv).step h4 (by have:=hd.2.2.1;simpa using this),key _ _ _ h.BI hd.2.2.2.2.1.symm (nin _ fun c hc=>(hne c hc).2.2.2.2.2) hd.2.2.2.2.2.2.2.2.symm,
  Qk hR h4 (fun b hb=>by have:=(hge b hb).2.2.1;simpa using this),hge⟩,?_,fun b hb=>?_⟩
 ·exact (((h.stp.then1 h1 hbS).trans h2).then h3 (fun b hb=>.inr (Qp h.R b hb).1)).then1 h4 hb10
 ·have r1:Xj B (bS::b10::L0) W W1:=Xj.blk h1 hB h.BS (.inl (by simp))
  have r2:Xj B (bS::b10::L0) W1 W2:=Xj.ext h2 (by omega)
  have r3:Xj B (bS::b10::L0) W2 W3:=Xj.step h3 (by omega) (fun b hb=>⟨(hv b hb).imp (fun h=>by simp[h]) id,Zk hRow b hb⟩)
  have r4:Xj B (bS::b10::L0) W3 W4:=Xj.blk h4 (by omega) ((((h.B10.step h1 (by have:=hd.2.2.1;simpa using this.symm)).ext h2).step h3 hb10v)) (.inl (by simp))
  exact ((r1.trans r2).trans r3).trans r4
 ·rcases hn b hb with hb | hb
  ·exact hv b hb
  ·exact .inr (by omega)
theorem yz {n:Nat}{l:LI}{x:Int}(h0:0≤x) (h1:x<(n:Int)):((flg n l).map Value.bool)[0+x.toNat*1]?=some (.bool (decide (x∈l))):=by
 have hlt:x.toNat<(flg n l).length:=by rw[Ub];omega
 have e:((x.toNat:Nat):Int)=x:=by omega
 simp only[Nat.zero_add,Nat.mul_one,List.getElem?_map,List.getElem?_eq_getElem hlt,Option.map_some,yy,e]
theorem Qhe {w:World}{va vm ve:Value}{a:QM}{n bF from0 gw gp:Nat}{fw fp:Func}[Fu Tryz.prog gw fw] [Fu Tryz.prog gp fp] {cw cp:LV}{wt:Int→Bool}{pm:Ed→Bool}
  (hA:Zp [] w.heap va vm ve a) (hn:a.st=(n:Int)) (hst1:n≤4096) (hed:∀e∈a.ed,0≤e.2.2∧e.2.2<(n:Int)) (hso:a.ed.Pairwise fun x y=>x.1≤y.1) (hBF:QS w.heap bF 3 ((gA (n+1) (fS a.ed)).map (Value.int .i64))) (hf:from0<n)
  (hwt:∀(s:Int) (w':World),0≤s→s<(n:Int)→Step [] w w'→QG Tryz.prog gw (.int .i64 s::cw) w' fun r w''=>r=.bool (wt s)∧Step [] w' w'')
  (hpm:∀(e:Ed) (w':World),e∈a.ed→Step [] w w'→QG Tryz.prog gp (.agg (QC e).toArray::cp) w' fun r w''=>r=.bool (pm e)∧Step [] w' w'') :
  QG Tryz.prog 113 [.agg #[va,.int .i64 a.st,vm,ve,.slice (some ⟨bF,0,none⟩) (n+1) (n+1)],.int .i64 from0,.func (.func gw) #[] cw.toArray,.func (.func gp) #[] cp.toArray] w fun r w' =>
   Step [] w w'∧∃v,r=.tuple #[v,.bool (pth wt pm a.ed n from0).2]∧Qs 3 w.heap.size w' v (pth wt pm a.ed n from0).1:=by
 refine QG.of_G 3 Tryz.func113 rfl Tryz.ntmps113 Tryz.results113 (by simp) ?_
 refine QZ<|QH (by rfl) (by rfl) ?_
 refine xl rfl<|QR (us:=[va,.int .i64 a.st,vm,ve,.slice (some ⟨bF,0,none⟩) (n+1) (n+1)]) rfl fun b4 w1 hs1 hb4 hB4=>xl rfl<|QR (us:=[.func (.func gp) #[] cp.toArray]) rfl fun b7 w2 hs2 hb7 hB7=>x Qe<|Qf ?_
 refine QZ<|QH (by rfl) (by rfl) ?_
 refine Qb<|x (QN ⟨rfl,rfl,rfl,trivial⟩)<|xl rfl<|QI (us:=[[.int .i64 from0,.int .i64 (-1),.int .i64 (-1)]]) rfl rfl (by decide) (by simp) ⟨rfl,rfl,trivial⟩ fun bL w3 hs3 hbL hBL =>
  xl rfl<|Qu (us:=[nS]) rfl fun b10 w4 hs4 hb10 hB10=>xl rfl<|QF (u:=.slice (some ⟨bL,0,none⟩) 1 1) hB10 rfl rfl (by decide) rfl fun w5 hs5 hB10'=>xe ?_
 have hl4:=hB4.lt
 have hl7:=hB7.lt
 have hlL:=hBL.lt
 have hl10:=hB10.lt
 have hz1:=hs1.size
 have hz2:=hs2.size
 have hz3:=hs3.size
 have hz4:=hs4.size
 have hz5:=hs5.size
 have hs15:Step [] w1 w5:=((hs2.trans hs3).trans hs4).then1 hs5 (by omega)
 have hs25:Step [] w2 w5:=(hs3.trans hs4).then1 hs5 (by omega)
 have hs35:Step [] w3 w5:=hs4.then1 hs5 (by omega)
 refine QZ<|QH (by rfl) (by rfl) ?_
 refine x (Qa rfl)<|x (Qa rfl)<|x (Qd (hB4.ext hs15) rfl rfl)<|xl rfl<|Y5 (n:=n) (congrArg (Value.int .i64) hn) (congrArg (Value.int .i64) hn) (by omega) fun bS w6 hs6 hbS hBS=>xl rfl<|Qu (us:=[nS]) rfl fun b11 w7 hs7 hb11 hB11 =>
  xl rfl<|QF (u:=.slice (some ⟨bS,0,none⟩) n n) hB11 rfl rfl (by decide) rfl fun w8 hs8 hB11'=>xe ?_
 have hlS:=hBS.lt
 have hl11:=hB11.lt
 have hz6:=hs6.size
 have hz7:=hs7.size
 have hz8:=hs8.size
 have hs58:Step [] w5 w8:=(hs6.trans hs7).then1 hs8 (by omega)
 have hs68:Step [] w6 w8:=hs7.then1 hs8 (by omega)
 have hBS0:QS w6.heap bS 4 ((flg n []).map Value.bool):=by
  have e:(List.replicate n (Value.bool false).cells.toList).flatten=(flg n []).map Value.bool:=by
   simp only[flg,List.not_mem_nil,decide_false,List.map_map]
   apply List.ext_getElem
   ·simp[Value.cells]
   ·intro i h1 h2
    simp[Value.cells]
  rw[←e];exact hBS
 refine QZ<|QH (by rfl) (by rfl) ?_
 refine x (Qd hB11' rfl rfl)<|Qb<|x (QQ (i:=from0) rfl rfl hf)<|xl rfl<|QF (j:=0+from0*1) (u:=.bool true) (hBS0.ext hs68) rfl rfl (by rw[List.length_map,Ub];omega) rfl fun w9 hs9 hBS9=>xe ?_
 have hz9:=hs9.size
 have hBS9':QS w9.heap bS 4 ((flg n [(from0:Int)]).map Value.bool):=by
  have e1:=yx (n:=n) (l:=[]) (x:=(from0:Int)) (by omega)
  rw[List.nil_append] at e1
  rw[←e1,List.map_set]
  simpa using hBS9
 refine QZ<|QZ<|QH (by rfl) (by rfl) ?_
 refine xl rfl<|Qu (us:=[.int .i64 0]) rfl fun b12 w10 hs10 hb12 hB12=>xl rfl<|QF (u:=.int .i64 0) hB12 rfl rfl (by decide) rfl fun w11 hs11 hB12'=>xe ?_
 have hl12:=hB12.lt
 have hz10:=hs10.size
 have hz11:=hs11.size
 have hs911:Step [] w9 w11:=hs10.then1 hs11 hb12
 have hst0:Step [] w w11:=(((hs1.trans hs15).trans hs58).then1 hs9 (by omega)).trans hs911
 have hPI:PI w b4 b7 b10 b11 bS n [va,.int .i64 a.st,vm,ve,.slice (some ⟨bF,0,none⟩) (n+1) (n+1)] (.func (.func gp) #[] cp.toArray) b12 0 (.slice (some ⟨bL,0,none⟩) 1 1) [((from0:Int),-1,-1)] w11:=by
  refine ⟨hst0,(((hB4.ext hs15).ext hs58).step hs9 (by simp;omega)).ext hs911,(((hB7.ext hs25).ext hs58).step hs9 (by simp;omega)).ext hs911,((hB10'.ext hs58).step hs9 (by simp;omega)).ext hs911,
   (hB11'.step hs9 (by simp;omega)).ext hs911,hBS9'.ext hs911,hB12',?_,fun b hb=>?_⟩
  ·have hBL11:=(((hBL.ext hs35).ext hs58).step hs9 (by simp;omega)).ext hs911
   exact hBL11.own (n:=1) (sz:=3) rfl (by omega) (by omega)
  ·have e:b=bL:=by simpa[ob] using hb
   subst e;omega
 have hel:=hA.ed.le
 refine ZG<|KJ (α:=Nat×Nat×Nat×Value×List Ed) [(8,9),(12,15),(26,68),(70,94)] (fun z=>[(12,.pointer (some ⟨z.2.1,0,none⟩))])
  (fun z ds W=>PI w b4 b7 b10 b11 bS n [va,.int .i64 a.st,vm,ve,.slice (some ⟨bF,0,none⟩) (n+1) (n+1)] (.func (.func gp) #[] cp.toArray) z.2.1 z.1 z.2.2.2.1 z.2.2.2.2 W∧qk n z.2.2.2.2∧Kg w.heap.size W.heap.size ds W∧w11.heap.size≤W.heap.size ∧
   (z.2.1≠b4∧z.2.1≠b7∧z.2.1≠b10∧z.2.1≠b11∧z.2.1≠bS)∧w.heap.size≤z.2.1∧z.1≤z.2.2.2.2.length∧n+1≤z.2.2.1+z.1∧JG wt pm a.ed z.2.2.1 z.1 z.2.2.2.2=pth wt pm a.ed n from0)
  (fun z=>n+1 - z.1) (by rfl) (0,b12,n+1,.slice (some ⟨bL,0,none⟩) 1 1,[((from0:Int),-1,-1)]) ⟨rfl,trivial⟩
  ⟨hPI,QeH hf,⟨List.nodup_nil,fun _ h=>by cases h⟩,Nat.le_refl _,by simp only[];omega,by simp only[];omega,by simp,by simp,rfl⟩ ?_
 rintro ⟨i,bi,fu,vs,st⟩ g ds w12 ⟨hP,hok,hds,hz12,hbi,hbi0,hil,hfu,hres⟩
 simp only[] at hP hok hds hbi hbi0 hil hfu hres
 have hstl:=hok.le
 refine QZ<|QZ<|QH (by rfl) (by rfl) ?_
 refine x (Qd hP.BI rfl rfl)<|x (Qd hP.B10 rfl rfl)<|x (Qr (QX (L:=[]) hP.R (by omega) (by simp)) rfl)<|x (QB rfl rfl)<|xe ?_
 refine qm rfl (fun h29=>?_) (fun h29=>?_)
 ·refine Jl ?_
  have hie:¬i<st.length:=by have h30:¬(i:Int)<(st.length:Int):=h29;omega
  rw[Qda hie] at hres
  refine QZ<|QH (by rfl) (by rfl) ?_
  refine x Qe<|Qf ?_
  refine JY ⟨fun D hD=>(hds.2 D hD).2.2,hds.1,[nS,.bool false],fun w' hw'=>⟨⟨rfl,rfl,trivial⟩,hP.stp.then hw' (fun D hD=>.inr (hds.2 D hD).1),_,by rw[←hres];rfl,?_⟩⟩
  rw[←hres];exact QP _ _ _ _
 have hlt:i<st.length:=by have h30:(i:Int)<(st.length:Int):=h29;omega
 refine Exists.elim (Nat.exists_eq_succ_of_ne_zero (show fu≠0 by omega)) fun fu' hfe=>?_
 subst hfe
 rw[JG,if_pos hlt] at hres
 have hrg:=hok.rg _ (Qjo hlt)
 have hge:=Qco hlt
 refine Zf (gE st i) fun s0 hs0=>?_
 rw[hs0] at hres hrg hge
 refine Z2 ?_
 refine QZ<|ZG<|QZ<|QZ<|QH (by rfl) (by rfl) ?_
 refine Qb<|x (Qd hP.B10 rfl rfl)<|x (Qd hP.BI rfl rfl)<|xie (i:=i) (QX (L:=[]) hP.R (by omega) (by simp)) rfl rfl hlt fun a35 h35=>?_
 rw[hge] at h35
 refine x (Zd rfl)<|x (Qv (h35.fld 0 (.int .i64 s0.1) rfl) rfl)<|xl rfl<|xc (first:=[]) (capt:=cw) rfl<|(hwt s0.1 _ hrg.1 hrg.2 hP.stp).mono ?_
 rintro r13 w13 ⟨rfl,hs13⟩
 have hz13:=hs13.size
 have hP13:=hP.ext hs13
 have hds13:=hds.ext hs13
 refine xe ?_
 refine JZ rfl (fun h38=>?_) (fun h38=>?_)
 ·rw[if_pos h38] at hres
  have hds0:Kg w.heap.size w12.heap.size ds w13:=hds13
  refine QZ<|QH (by rfl) (by rfl) ?_
  refine Qf ?_
  refine QZ<|QZ<|QH (by rfl) (by rfl) ?_
  refine x (Qd hP13.BI rfl rfl)<|Qf ?_
  refine ZG<|KJ (α:=Nat×Nat×Value×LI) [(13,14),(40,58)] (fun z=>[(13,z.2.2.1),(14,.int .i64 z.2.1)])
   (fun z ds' W=>ds'=ds∧Step [] w13 W∧Kg w.heap.size w12.heap.size ds W∧z.2.1<z.1∧z.2.1<st.length∧Qs 3 w13.heap.size W z.2.2.1 z.2.2.2∧z.2.2.2.length+z.1≤i+1∧z.2.2.2++wrd st z.1 z.2.1=wrd st (i+1) i)
   (fun z=>z.1) (by rfl) (i+1,i,nS,[]) ⟨rfl,rfl,trivial⟩ ⟨rfl,Step.refl _ _,hds0,by simp,hlt,QP _ _ _ _,by simp,rfl⟩ ?_
  rintro ⟨f,k,v,acc⟩ g ds' w14 ⟨rfl,hs14,hds14,hkf,hkl,hO14,hal,hwr⟩
  simp only[] at hkf hkl hO14 hal hwr
  refine Exists.elim (Nat.exists_eq_succ_of_ne_zero (show f≠0 by omega)) fun f' hfe=>?_
  subst hfe
  rw[wrd] at hwr
  have hgk:=Qco hkl
  have hpk:=hok.par k hkl
  refine Zf (gE st k) fun s1 hs1'=>?_
  rw[hs1'] at hwr hgk hpk
  have hP14:=hP13.ext hs14
  have hz14:=hs14.size
  refine QZ<|QZ<|QH (by rfl) (by rfl) ?_
  refine x (Qd hP14.B10 rfl rfl)<|Qb<|xie (i:=k) (QX (L:=[]) hP14.R (by omega) (by simp)) rfl rfl hkl fun a42 h42=>?_
  rw[hgk] at h42
  refine x (Zd rfl)<|x (Qv (h42.fld 1 (.int .i64 s1.2.1) rfl) rfl)<|x (ZH rfl rfl)<|xe ?_
  refine qm rfl (fun h45=>?_) (fun h45=>?_)
  ·refine Jl ?_
   rw[if_neg h45,List.append_nil] at hwr
   refine QZ<|QH (by rfl) (by rfl) ?_
   refine Qb<|xl rfl<|xf<|(qj hO14 (by omega)).mono ?_
   rintro r15 w15 ⟨hO15,hs15'⟩
   have hds15:=hds14.step hs15' (Zk hO14)
   refine xe ?_
   refine QZ<|QH (by rfl) (by rfl) ?_
   refine Qb<|x Qe<|Qf ?_
   refine JY ⟨fun D hD=>(hds15.2 D hD).2.2,hds15.1,[v,.bool true],fun w' hw'=>⟨⟨rfl,rfl,trivial⟩,?_,v,by rw[←hres];rfl,?_⟩⟩
   ·exact ((hP14.stp).then hs15' (fun b hb=>.inr (by have:=(Qp hO14 b hb).1;omega))).then hw' (fun D hD=>.inr (hds15.2 D hD).1)
   ·rw[←hres,←hwr]
    exact Zc (Qk hO15 hw' (hds15.own hO15)) (by omega)
  rw[if_pos h45] at hwr
  have h46:0≤s1.2.1:=h45
  refine Z2 ?_
  refine QZ<|ZG<|QH (by rfl) (by rfl) ?_
  refine Qb<|x (Qd hP14.B10 rfl rfl)<|Qb<|xie (i:=k) (QX (L:=[]) hP14.R (by omega) (by simp)) rfl rfl hkl fun a54 h54=>?_
  rw[hgk] at h54
  refine x (Zd rfl)<|x (Qv (h54.fld 2 (.int .i64 s1.2.2) rfl) rfl)<|xl rfl<|QI (us:=[[.int .i64 s1.2.2]]) rfl rfl (by decide) (by simp) ⟨rfl,rfl,trivial⟩ fun b57 w16 hs16 hb57 hB57=>xl rfl<|Q2 (m:=1) (news:=[.int .i64 s1.2.2]) (Qt hO14 hs16) rfl rfl rfl (hB57.at (L:=[]) (by simp)) (by simp[Value.oneCell']) (by omega) (by have:=hs16.size;omega) fun v17 w17 hO17 hs17 hn17 =>
   Qf ?_
  have hs1417:Step [] w13 w17:=(hs14.trans hs16).then hs17 (fun b hb=>.inr (Qp hO14 b hb).1)
  have hP17:=hP13.ext hs1417
  have hds17:=(hds14.ext hs16).step hs17 (Zk (Qt hO14 hs16))
  refine QH (by rfl) (by rfl) ?_
  refine x (Qd hP17.B10 rfl rfl)<|Qb<|xie (i:=k) (QX (L:=[]) hP17.R (by omega) (by simp)) rfl rfl hkl fun a48 h48=>?_
  rw[hgk] at h48
  refine x (Zd rfl)<|x (Qv (h48.fld 1 (.int .i64 s1.2.1) rfl) rfl)<|Qf ?_
  have hkn:s1.2.1=(s1.2.1.toNat:Int):=by omega
  refine ⟨(f',s1.2.1.toNat,v17,acc++[s1.2.2]),by simp only[];omega,⟨rfl,congrArg (Value.int .i64) hkn,trivial⟩,rfl,hs1417,hds17,by simp only[];omega,by simp only[];omega,Qs.snoc hO17,?_,?_⟩
  ·simp only[List.length_append,List.length_singleton];omega
  ·rw[List.append_assoc];exact hwr
 rw[if_neg (by rw[h38];decide)] at hres
 have hsn:s0.1=(s0.1.toNat:Int):=by omega
 refine Z2 ?_
 have hd0:Step [] w13 { w13 with drawn:=w13.drawn+1 }:=Step.drew _ _
 refine QZ<|yP (Step [] w13) [(0,true),(1,true),(2,true),(3,true),(4,true),(5,true),(6,false)] Tryz.mixed (by rfl) (by rfl) (by kernel_rfl) (Step.drew _ _) ?_
 refine pq (fun _ hc=>Qq (hP13.B4.ext hc) rfl rfl)<|pq (fun _ hc=>Qd (hP13.B10.ext hc) rfl rfl)<|pq (fun _ hc=>Qd (hP13.BI.ext hc) rfl rfl) <|
  pie (i:=i) rfl (QX (L:=[]) hP13.R (by omega) (by simp)) rfl rfl hlt fun a65 h65=>?_
 rw[hge] at h65
 refine p (fun _=>Zd rfl)<|pq (fun _ hc=>Qv ((h65.fld 0 (.int .i64 s0.1) rfl).ext hc) rfl)<|pk<|xf<|(QfN (va:=va) (vm:=vm) (ve:=ve) (vf:=.slice (some ⟨bF,0,none⟩) (n+1) (n+1)) (st:=a.st) (s:=s0.1)).mono ?_
 rintro r18 w14 ⟨hs14,b1,b2,rfl,hb1,hb2,hB1,hB2⟩
 have hs1314:=hd0.trans hs14
 refine ⟨hs1314,pe ?_⟩
 have hP14:=hP13.ext hs1314
 have hds14:Kg w.heap.size w12.heap.size ds w14:=hds13.ext hs1314
 have hz14:=hs1314.size
 have hE14:Uf (bS::b10::ob vs) w14.heap ve a.ed:=by
  refine (hA.ed.up (L':=bS::b10::ob vs) (fun b hb=>.inr ?_)).step hP14.stp (fun _ hb=>by cases hb)
  rcases List.mem_cons.1 hb with rfl | hb
  ·omega
  ·rcases List.mem_cons.1 hb with rfl | hb
   ·omega
   ·exact (Qp hP14.R b hb).1
 rw[hsn] at hB2
 have hzw:w.heap.size≤w14.heap.size:=hP14.stp.size
 have hdist:bS≠b4∧bS≠b7∧bS≠b10∧bS≠b11∧bS≠bi∧b10≠b4∧b10≠b7∧b10≠b11∧b10≠bi:=by omega
 have hq4:=hP14.B4.lt
 have hq7:=hP14.B7.lt
 have hq10:=hP14.B10.lt
 have hq11:=hP14.B11.lt
 have hqS:=hP14.BS.lt
 have hqi:=hP14.BI.lt
 refine ZG<|Qix (α:={ e:Ed // e∈a.ed }) (bS::b10::ob vs) (by omega) (capt:=[.pointer (some ⟨b1,0,none⟩),.pointer (some ⟨b2,0,none⟩)]) rfl (enc:=fun x=>.agg (QC x.1).toArray) (by decide)
  (Qbi hB1 hB2 (hBF.ext hP14.stp) hE14 hso (by omega) hst1)
  (fun pre W=>∃v,PI w b4 b7 b10 b11 bS n [va,.int .i64 a.st,vm,ve,.slice (some ⟨bF,0,none⟩) (n+1) (n+1)] (.func (.func gp) #[] cp.toArray) bi i v ((pre.map (·.1)).foldl (YG pm i) st) W∧qk n ((pre.map (·.1)).foldl (YG pm i) st)∧i<((pre.map (·.1)).foldl (YG pm i) st).length ∧
   (∀b∈ob v,b∈ob vs∨w14.heap.size≤b)∧Kg w.heap.size w12.heap.size ds W∧w14.heap.size≤W.heap.size)
  (fun pre=>ZW.ex fun v=>(PI.stb hzw).and ((ZW.pure _).and ((ZW.pure _).and ((ZW.pure _).and ((Kg.stb (by omega)).and (fun W W' X h hs _=>Nat.le_trans h hs.size))))))
  ⟨vs,hP14,hok,hlt,fun b hb=>.inl hb,hds14,Nat.le_refl _⟩
  (fun f x f' W=>∃b,f'=upd (upd f 69 (.agg (QC x.1).toArray)) 15 (.pointer (some ⟨b,0,none⟩))∧w14.heap.size≤b∧QS W.heap b 126 (QC x.1))
  (fun x f'=>ZW.ex fun b=>(ZW.pure _).and ((ZW.pure _).and ZW.blk)) ?_ ?_ ?_
 ·rintro l pre ⟨e,he⟩ W ⟨v,hPv,hokv,hiv,hobv,hdv,hzv⟩
  refine QH (by rfl) (by rfl) ?_
  refine xl rfl<|Qu (us:=[.int .i64 0,.int .i64 0,.int .i64 0]) rfl fun b15 w15 hs15' hb15 hB15=>xl rfl<|Qo (us:=QC e) hB15 rfl rfl rfl rfl ⟨rfl,rfl,rfl,trivial⟩ fun w16 hs16 hB15'=>xe ?_
  have hsW:Step [] W w16:=hs15'.then1 hs16 hb15
  have hzs:=hsW.size
  exact ⟨rfl,Xj.ext hsW hzv,⟨v,hPv.ext hsW,hokv,hiv,hobv,hdv.ext hsW,by omega⟩,b15,rfl,by omega,hB15'⟩
 ·rintro l pre ⟨e,he⟩ f' W ⟨v,hPv,hokv,hiv,hobv,hdv,hzv⟩ ⟨b15,rfl,hb15,hB15⟩ _
  have hfo:((pre++[(⟨e,he⟩:{ e:Ed // e∈a.ed })]).map (·.1)).foldl (YG pm i) st=YG pm i ((pre.map (·.1)).foldl (YG pm i) st) e:=by rw[List.map_append,List.foldl_append];rfl
  refine Zf ((pre.map (·.1)).foldl (YG pm i) st) fun st' hst'=>?_
  rw[hst'] at hPv hokv hiv hfo
  have heb:=hed e he
  have hetn:e.2.2=(e.2.2.toNat:Int):=by omega
  have hadd:=QcM (pm:=pm) hokv hiv heb
  have hfla:=yz (l:=KN st') heb.1 heb.2
  have hsl:=hokv.le
  have hzs:=hPv.stp.size
  refine ZG<|QZ<|QH (by rfl) (by rfl) ?_
  by_cases hin:e.2.2∈KN st'
  ·rw[decide_eq_true hin] at hfla
   have hst2:YG pm i st' e=st':=by unfold YG;rw[if_neg (fun h=>h.1 hin)]
   refine x (Qd hPv.B11 rfl rfl)<|x (Qa rfl)<|x (Qd hB15 rfl rfl)<|x (QQ (i:=e.2.2.toNat) rfl (congrArg (Value.int .i64) hetn) (by omega))<|x (Qd hPv.BS rfl hfla)<|x (Zo rfl)<|x Qm <|
    xs rfl<|xs rfl<|xs rfl<|x (Qn rfl)<|xe ?_
   refine Kf rfl<|Z2 ?_
   refine ⟨Xj.refl _ _ _,v,?_⟩
   rw[hfo,hst2]
   exact ⟨hPv,hokv,hiv,hobv,hdv,hzv⟩
  rw[decide_eq_false hin] at hfla
  refine x (Qd hPv.B11 rfl rfl)<|x (Qa rfl)<|x (Qd hB15 rfl rfl)<|x (QQ (i:=e.2.2.toNat) rfl (congrArg (Value.int .i64) hetn) (by omega))<|x (Qd hPv.BS rfl hfla)<|x (Zo rfl)<|x Qm <|
   x (Qd hPv.B7 rfl rfl)<|x (Qq hB15 rfl rfl)<|xl rfl<|xc (first:=[]) (capt:=cp) rfl<|(hpm e _ he hPv.stp).mono ?_
  rintro r19 w15 ⟨rfl,hs15'⟩
  refine x (Qn rfl)<|xe ?_
  have hPv15:=hPv.ext hs15'
  have hz15:=hs15'.size
  refine JZ rfl (fun hp=>?_) (fun hp=>?_)
  ·have hst2:YG pm i st' e=st'++[(e.2.2,(i:Int),e.2.1)]:=by unfold YG;rw[if_pos ⟨hin,hp⟩]
   rw[hst2] at hfo hadd
   have hB15b:=hB15.ext hs15'
   refine QZ<|QH (by rfl) (by rfl) ?_
   refine x (Qd hPv15.B11 rfl rfl)<|x (Qa rfl)<|x (Qd hB15b rfl rfl)<|x (QQ (i:=e.2.2.toNat) rfl (congrArg (Value.int .i64) hetn) (by omega))<|xl rfl<|QF (j:=0+e.2.2.toNat*1) (u:=.bool true) hPv15.BS rfl rfl (by rw[List.length_map,Ub];omega) rfl fun w16 hs16 hBS16=>xe ?_
   have hBS16':QS w16.heap bS 4 ((flg n (KN (st'++[(e.2.2,(i:Int),e.2.1)]))).map Value.bool):=by
    have e1:=yx (n:=n) (l:=KN st') heb.1
    have e2:KN (st'++[(e.2.2,(i:Int),e.2.1)])=KN st'++[e.2.2]:=by unfold KN;rw[List.map_append];rfl
    rw[e2,←e1,List.map_set]
    simpa using hBS16
   have hz16:=hs16.size
   have hB10':=hPv15.B10.step hs16 (by have:=hdist.2.2.1;simpa using this.symm)
   have hBI':=hPv15.BI.step hs16 (by have:=hdist.2.2.2.2.1;simpa using this.symm)
   have hR16:ZT 262 w.heap.size w16 v st':=Qk hPv15.R hs16 (fun b hb=>by have:=(hPv15.ne b hb).2.2.2.2.1;simpa using this)
   have hB15c:=hB15b.step hs16 (by simp;omega)
   refine QH (by rfl) (by rfl) ?_
   refine x (Qd hB10' rfl rfl)<|x (Qa rfl)<|x (Qd hB15c rfl rfl)<|x (Qd hBI' rfl rfl)<|x (Qa rfl)<|x (Qd hB15c rfl rfl)<|x (QN ⟨rfl,rfl,rfl,trivial⟩) <|
    xl rfl<|QI (us:=[[.int .i64 e.2.2,.int .i64 i,.int .i64 e.2.1]]) rfl rfl (by decide) (by simp) ⟨rfl,rfl,trivial⟩ fun b92 w17 hs17 hb92 hB92 =>
    xl rfl<|Q2 (m:=1) (news:=[.int .i64 e.2.2,.int .i64 i,.int .i64 e.2.1]) (Qt hR16 hs17) rfl rfl rfl (hB92.at (L:=[]) (by simp)) (by simp[Value.oneCell']) (by omega) (by have:=hs17.size;omega) fun v18 w18 hO18 hs18 hn18=>?_
   have hB10v:b10∉ob v:=fun hm=>(hPv15.ne b10 hm).2.2.1 rfl
   refine xl rfl<|QF (u:=v18) ((hB10'.ext hs17).step hs18 hB10v) rfl rfl (by simp) (QX (L:=[]) hO18 (by omega) (by simp)).one fun w19 hs19 hB19=>xe ?_
   have hfin:=hPv15.add (B:=w14.heap.size) (L0:=ob vs) hdist (by omega) (by omega) (by omega) ⟨by omega,by omega,by omega,by omega⟩ hs16 hBS16' hs17 hs18 (ZT.snoc hO18) hn18 hs19 hB19 hobv
   have hrs:Xj w14.heap.size (bS::b10::ob vs) W w19:=(Xj.ext hs15' hzv).trans hfin.2.1
   have hzf:=hrs.lw.size
   refine ⟨hrs,v18,?_⟩
   rw[hfo]
   exact ⟨hfin.1,hadd.1,hadd.2,hfin.2.2,hdv.rst hrs,by omega⟩
  ·have hst2:YG pm i st' e=st':=by unfold YG;rw[if_neg (fun h=>by rw[hp] at h;exact absurd h.2 (by decide))]
   refine Z2 ?_
   refine ⟨Xj.ext hs15' hzv,v,?_⟩
   rw[hfo,hst2]
   exact ⟨hPv15,hokv,hiv,hobv,hdv.ext hs15',by omega⟩
 ·rintro D xs W hD hxs ⟨v,hPv,hokv,hiv,hobv,hdv,hzv⟩ hdD
  rw[hxs,←hsn] at hPv hokv hiv
  refine Zf ((Zv a.ed s0.1).foldl (YG pm i) st) fun st' hst'=>?_
  rw[hst'] at hPv hokv hiv hres
  have hsl:=hokv.le
  have hdn:=hdv.cons (by omega) (by omega) hdD
  have hzW:=hPv.stp.size
  refine QZ<|QZ<|QH (by rfl) (by rfl) ?_
  refine x (Qd hPv.BI rfl rfl)<|xe ?_
  refine QH (by rfl) (by rfl) ?_
  refine xl rfl<|Qu (us:=[.int .i64 0]) rfl fun bj w20 hs20 hbj hBj=>xl rfl<|QF (u:=.int .i64 i) hBj rfl rfl (by simp) rfl fun w21 hs21 hBj'=>xe ?_
  refine QH (by rfl) (by rfl) ?_
  refine x (Qd hBj' rfl rfl)<|x (Qy rfl rfl ⟨by omega,by omega⟩)<|xl rfl<|QF (u:=.int .i64 ((i:Int)+1)) hBj' rfl rfl (by simp) rfl fun w22 hs22 hBj2=>xe ?_
  have hs2022:Step [] W w22:=(hs20.then1 hs21 hbj).then1 hs22 hbj
  have hz22:=hs2022.size
  have hPn:=hPv.ext hs2022
  have hdf:=(hdn.ext hs2022).up hz22
  have hjn:∀b∈ob v,b≠bj:=fun b hb e=>by have:=Q0 hPv.R b hb;omega
  refine ⟨(i+1,bj,fu',v,st'),by simp only[];omega,⟨rfl,trivial⟩,⟨hPn.stp,hPn.B4,hPn.B7,hPn.B10,hPn.B11,hPn.BS,hBj2,hPn.R,fun b hb=>⟨(hPn.ne b hb).1,(hPn.ne b hb).2.1,(hPn.ne b hb).2.2.1,(hPn.ne b hb).2.2.2.1,(hPn.ne b hb).2.2.2.2.1,hjn b hb⟩⟩,hokv,hdf,by omega,?_,by simp only[];omega,hiv,by simp only[];omega,hres⟩
  have t4:=hPv.B4.lt
  have t7:=hPv.B7.lt
  have t10:=hPv.B10.lt
  have t11:=hPv.B11.lt
  have tS:=hPv.BS.lt
  simp only[];omega
end Go.Proofs.YtgmifemhkjdblaaGreatDoor
namespace Go.Lg
open Go.RowKit
def sl (d:Option Nat) (f:Fr):Value:=match d with | some d=>f d | none=>undef
def ow:Value→LN
 | .slice (some a) _ _=>[a.block]
 | .pointer (some a)=>[a.block]
 | .map (some b)=>[b]
 | _=>[]
def Fa (p:Nat→Prop):LN→Prop
 | []=>True
 | i::l=>p i∧Fa p l
theorem Fa.all {p:Nat→Prop}:∀{l:LN},Fa p l→∀i∈l,p i
 | [],_,_,hi=>by cases hi
 | j::l,h,i,hi=>by
  rcases List.mem_cons.1 hi with rfl | hi
  ·exact h.1
  ·exact Fa.all h.2 i hi
theorem Fa.of {p:Nat→Prop}:∀{l:LN},(∀i∈l,p i)→Fa p l
 | [],_=>trivial
 | i::_,h=>⟨h i List.mem_cons_self,Fa.of fun j hj=>h j (List.mem_cons_of_mem _ hj)⟩
def Ux (all:Array Oper) (opn:LN) (rest:List (Nat×Bool)):Nat→Array Bool→Bool
 | 0,ls=>YC all rest ls && opn.all fun i=>ls.getD i false
 | k+1,ls=>!(Region.ready .any all ls).isEmpty && (Region.ready .any all ls).all fun i=>opn.contains i && Ux all opn rest k (ls.setIfInBounds i true)
def VN (all:List Oper) (D:List (Nat×Nat)):LN→Bool
 | []=>true
 | i::l=>(QJ all i).guard.isNone && (match (QJ all i).dst with | some d=>YQ D d && l.all (fun j=>!((QJ all j).dst == some d)) | none=>false) && !l.contains i && VN all D l
theorem ZU {all:List Oper}{D:List (Nat×Nat)}:∀{l:LN},VN all D l=true→(∀i∈l,(QJ all i).guard=none∧∃d,(QJ all i).dst=some d∧YQ D d=true)∧∀i∈l,∀j∈l,i≠j→(QJ all i).dst≠(QJ all j).dst
 | [],_=>⟨fun _ h=>(by cases h),fun _ h=>(by cases h)⟩
 | i::l,h=>by
  simp only[VN,Bool.and_eq_true,Option.isNone_iff_eq_none] at h
  obtain ⟨⟨⟨hg,hd⟩,hc⟩,hl⟩:=h
  have ih:=ZU hl
  cases hdd:(QJ all i).dst with
  | none=>rw[hdd] at hd;cases hd
  | some d =>
   rw[hdd] at hd
   simp only[Bool.and_eq_true,List.all_eq_true,Bool.not_eq_true',beq_eq_false_iff_ne,ne_eq] at hd
   have hij:∀j∈l,(QJ all j).dst≠some d:=fun j hj=>hd.2 j hj
   refine ⟨fun j hj=>?_,fun j hj k hk hjk=>?_⟩
   ·rcases List.mem_cons.1 hj with rfl | hj
    ·exact ⟨hg,d,hdd,hd.1⟩
    ·exact ih.1 j hj
   ·rcases List.mem_cons.1 hj with hj1 | hj1
    ·rcases List.mem_cons.1 hk with hk1 | hk1
     ·exact absurd (hj1.trans hk1.symm) hjk
     ·rw[hj1,hdd];exact fun e=>hij k hk1 e.symm
    ·rcases List.mem_cons.1 hk with hk1 | hk1
     ·rw[hk1,hdd];exact hij j hj1
     ·exact ih.2 j hj1 k hk1 hjk
def QkP (all:List Oper) (pre:List (Nat×Bool)) (opn:LN) (rest:List (Nat×Bool)) (D:List (Nat×Nat)):Bool :=
 Region.noSelect all.toArray && (pre.length+(opn.length+rest.length) == all.length) && YY all.toArray pre (Array.replicate all.length false) && VN all D opn && Ux all.toArray opn rest opn.length (Zq pre (Array.replicate all.length false))
  && opn.all fun i=>!((Zq pre (Array.replicate all.length false)).getD i false)
section
variable {P:Program} {n:Nat} {f:Fr} {w:World} {all:List Oper} {C:World→Prop} {K:Fr→World→Prop}
theorem Xq {o:Oper}(h:o.guard=none):ZY all f o=true:=by unfold ZY;rw[h]
theorem QcR {α:Type}{D:List (Nat×Nat)}{opn:LN}{rest:List (Nat×Bool)}{Φ:Nat→Value→World→Prop}{S:α→List (Nat×Value)}{I:α→World→Prop}{f1:Fr}(hs:Region.noSelect all.toArray=true) (hop:VN all D opn=true)
  (hCs:∀w w',C w→Step [] w w'→C w') (stab:∀i v w w',Φ i v w→Step [] w w'→Φ i v w')
  (hconv:∀(g:Fr) w,Fa (fun i=>Φ i (sl (QJ all i).dst g) w) opn→(∀i∈opn,∀j∈opn,i≠j→∀b∈ow (sl (QJ all i).dst g),b∉ow (sl (QJ all j).dst g))→∃z,Yz g (S z)∧I z w)
  (spec:Fa (fun i=>∀g w,C w→XO P (QJ all i) (mix D f1 g) w (fun f' w'=>Step [] w w'∧Φ i (sl (QJ all i).dst f') w'∧∀b∈ow (sl (QJ all i).dst f'),w.heap.size≤b∧b<w'.heap.size)) opn)
  (fin:∀z g w,C w→I z w→XP P all C K rest (Kt (S z) (mix D f1 g)) w) :
  ∀(k:Nat) (ls:Array Bool) (f:Fr) (w:World),ls.size=all.length→C w→Ux all.toArray opn rest k ls=true→(∀t,YQ D t=false→f t=f1 t)→(∀i∈opn,ls.getD i false=true→Φ i (sl (QJ all i).dst f) w) →
   (∀i∈opn,ls.getD i false=true→(∀b∈ow (sl (QJ all i).dst f),b<w.heap.size)∧∀j∈opn,ls.getD j false=true→i≠j→∀b∈ow (sl (QJ all i).dst f),b∉ow (sl (QJ all j).dst f))→XA P all C K (k+rest.length) ls f w
 | 0,ls,f,w,hsz,hC,hp,hf,hphi,hdj=>by
  simp only[Ux,Bool.and_eq_true,List.all_eq_true] at hp
  obtain ⟨z,h1,h2⟩:=hconv f w (Fa.of fun i hi=>hphi i hi (hp.2 i hi)) (fun i hi j hj hij=>(hdj i hi (hp.2 i hi)).2 j hj (hp.2 j hj) hij)
  have h3:=fin z f w hC h2
  rw[YM hf,Ye h1] at h3
  rw[Nat.zero_add]
  exact Zr hs rest ls f w hsz (.inl hC) hp.1 h3
 | k+1,ls,f,w,hsz,hC,hp,hf,hphi,hdj=>by
  simp only[Ux,Bool.and_eq_true,List.all_eq_true,List.contains_iff_mem] at hp
  obtain ⟨hne,hp⟩:=hp
  rw[Nat.add_right_comm]
  refine YB (fun h0=>(by rw[h0] at hne;cases hne)) ?_
  intro i hi o ho
  obtain ⟨hio,hgo⟩:=hp i hi
  obtain ⟨hg,d,hd,hdD⟩:=(ZU hop).1 i hio
  have hdis:=(ZU hop).2
  have hsp:=Fa.all spec i hio f w hC
  rw[YM hf] at hsp
  have hoi:=Q9 ho
  rw[hoi] at hg hd hsp
  rw[Xq hg,cond_true]
  refine hsp.mono fun v w' hx=>?_
  have hC':=hCs w w' hC hx.1
  have hz:=hx.1.size
  have old:∀j∈opn,j≠i→sl (QJ all j).dst (QU f o.dst v)=sl (QJ all j).dst f:=fun j hj hij=>by
   obtain ⟨_,dj,hdj',_⟩:=(ZU hop).1 j hj
   have hne:o.dst≠some dj:=fun e=>hdis j hj i hio hij (by rw[hdj',hoi];exact e.symm)
   rw[hdj']
   exact ZL hne v
  have lsj:∀j,j≠i→(ls.setIfInBounds i true).getD j false=true→ls.getD j false=true:=fun j hij h=>by rw[getD_set_ne false (Ne.symm hij)] at h;exact h
  refine ⟨.inr (.inr hC'),QcR hs hop hCs stab hconv spec fin k _ _ _ (by simpa using hsz) hC' hgo (fun t ht=>?_) (fun j hj hlj=>?_) (fun j hj hlj=>⟨fun b hb=>?_,fun k hk hlk hjk b hb hbk=>?_⟩)⟩
  ·rw[ZL (by rw[hd];intro e;cases e;rw[hdD] at ht;cases ht)];exact hf t ht
  ·by_cases hij:j=i
   ·subst hij
    have h2:=hx.2.1
    rw[hoi];exact h2
   ·rw[old j hj hij]
    exact stab _ _ _ _ (hphi j hj (lsj j hij hlj)) hx.1
  ·by_cases hij:j=i
   ·subst hij
    rw[hoi] at hb
    exact (hx.2.2 b hb).2
   ·rw[old j hj hij] at hb
    have:=(hdj j hj (lsj j hij hlj)).1 b hb
    omega
  ·by_cases hij:j=i
   ·subst hij
    have hki:k≠j:=Ne.symm hjk
    rw[old k hk hki] at hbk
    rw[hoi] at hb
    have h1:=(hdj k hk (lsj k hki hlk)).1 b hbk
    have h2:=(hx.2.2 b hb).1
    omega
   ·rw[old j hj hij] at hb
    have h1:=(hdj j hj (lsj j hij hlj)).1 b hb
    by_cases hki:k=i
    ·subst hki
     rw[hoi] at hbk
     have h2:=(hx.2.2 b hbk).1
     omega
    ·rw[old k hk hki] at hbk
     exact (hdj j hj (lsj j hij hlj)).2 k hk (lsj k hki hlk) hjk b hb hbk
theorem QcS {α:Type}{Q:Exit→Fr→World→Prop}{id:Nat}(C:World→Prop) (pre:List (Nat×Bool)) (opn:LN) (rest:List (Nat×Bool)) (D:List (Nat×Nat)) (Φ:Nat→Value→World→Prop) (S:α→List (Nat×Value)) (I:α→World→Prop)
  (hm:P.follows .mixedOrders=true) (hn:YS n all=true) (hp:QkP all pre opn rest D=true) (hC:C { w with drawn:=w.drawn+1 }) (hCs:∀w w',C w→Step [] w w'→C w') (stab:∀i v w w',Φ i v w→Step [] w w'→Φ i v w')
  (hconv:∀(g:Fr) w,Fa (fun i=>Φ i (sl (QJ all i).dst g) w) opn→(∀i∈opn,∀j∈opn,i≠j→∀b∈ow (sl (QJ all i).dst g),b∉ow (sl (QJ all j).dst g))→∃z,Yz g (S z)∧I z w)
  (h:XP P all C (fun f1 _=>Fa (fun i=>∀g w,C w→XO P (QJ all i) (mix D f1 g) w (fun f' w'=>Step [] w w'∧Φ i (sl (QJ all i).dst f') w'∧∀b∈ow (sl (QJ all i).dst f'),w.heap.size≤b∧b<w'.heap.size)) opn ∧
   ∀z g w,C w→I z w→XP P all C (fun f w=>Q .normal f w) rest (Kt (S z) (mix D f1 g)) w) pre f { w with drawn:=w.drawn+1 }):W P n (.region id all.toArray true) Q f w:=by
 simp only[QkP,Bool.and_eq_true,beq_iff_eq,List.all_eq_true,Bool.not_eq_true'] at hp
 obtain ⟨⟨⟨⟨⟨hs,hl⟩,hq⟩,hop⟩,hgo⟩,hun⟩:=hp
 refine YH C hm hn ?_
 rw[←hl]
 have hsz:(Array.replicate all.length false).size=all.length:=by simp
 have h1:=ZF (K:=fun f w=>Q .normal f w) (m:=opn.length+rest.length) hs pre (Array.replicate all.length false) f _ hC hq (fun f1 hB=>QcR (P:=P) (C:=C) hs hop hCs stab hconv hB.1 hB.2 opn.length (Zq pre (Array.replicate all.length false)) f1 _ (by rw[ZD];exact hsz) hC hgo (fun _ _=>rfl) (fun i hi ht=>by rw[hun i hi] at ht;cases ht) (fun i hi ht=>by rw[hun i hi] at ht;cases ht)) h
 rw[hl] at h1 ⊢
 exact h1
end
end Go.Lg
namespace Go.Proofs.YtgmifemhkjdblaaGreatDoor
open Go.Lg
theorem QeA {P:Program}{f:Fr}{w:World}{d:Option Nat}{ty:Nat}{ps:String}{af:Array Edge}{gd:Option (Nat×Bool)}{x y:Operand}{t m e:Nat}[h:Ay P t m e 1] [h1:Y9 P e] {cs:LV}{k:IntKind}{i:Nat}{u:Value}(hx:ev f x=.agg cs.toArray) (hy:ev f y=.int k i) (hi:i<m) (hu:cs[i]?=some u) :
  (execOp (ev f) ⟨d,.index t x y,ty,ps,af,gd⟩).run P w=.ok (.value u) w:=by
 have hz:=Um (P:=P) (w:=w) (t:=e)
 have hg:=zl (P:=P) (w:=w) (t:=e)
 simp[execOp,hx,hy,Instr.index,asIntOf,run_underlying h.u,hz,part,hg,hu]
 intro h2;omega
theorem Qgq {w:World}{b bs n:Nat}{l:LI}{s:Int}(hB:QS w.heap b 222 [.slice (some ⟨bs,0,none⟩) n n]) (hS:QS w.heap bs 4 ((flg n l).map Value.bool)) (h0:0≤s) (h1:s<(n:Int)) :
  QG Tryz.prog 114 [.int .i64 s,.pointer (some ⟨b,0,none⟩)] w fun r w'=>r=.bool (decide (s∈l))∧Step [] w w':=by
 refine QG.of_W Tryz.func114 rfl Tryz.ntmps114 Tryz.results114 (by simp) ?_
 have hsn:s=(s.toNat:Int):=by omega
 refine Qc<|Qf ?_
 refine Qc<|x (Qd hB rfl rfl)<|Qb<|x (QQ (i:=s.toNat) rfl (congrArg (Value.int .i64) hsn) (by omega))<|x (Qd hS rfl (yz h0 h1))<|Qf ?_
 exact Ql ⟨[_],⟨rfl,trivial⟩,rfl,Step.refl _ _⟩
theorem Qgp {w:World}{b bs n:Nat}{l:LI}{e:Ed}(hB:QS w.heap b 222 [.slice (some ⟨bs,0,none⟩) n n]) (hS:QS w.heap bs 4 ((flg n l).map Value.bool)) (h0:0≤e.2.2) (h1:e.2.2<(n:Int)) :
  QG Tryz.prog 115 [.agg (QC e).toArray,.pointer (some ⟨b,0,none⟩)] w fun r w'=>r=.bool (decide (e.2.2∈l))∧Step [] w w':=by
 refine QG.of_W Tryz.func115 rfl Tryz.ntmps115 Tryz.results115 (by simp) ?_
 have hsn:e.2.2=(e.2.2.toNat:Int):=by omega
 refine Qc<|xl rfl<|QR (us:=QC e) rfl fun b2 w1 hs1 hb2 hB2=>Qf ?_
 refine Qc<|x (Qd (hB.ext hs1) rfl rfl)<|x (Qa rfl)<|x (Qd hB2 rfl rfl)<|x (QQ (i:=e.2.2.toNat) rfl (congrArg (Value.int .i64) hsn) (by omega))<|x (Qd (hS.ext hs1) rfl (yz h0 h1))<|Qf ?_
 exact Ql ⟨[_],⟨rfl,trivial⟩,rfl,hs1⟩
instance:Ay Tryz.prog 221 2 40 1:=⟨by kernel_rfl,by kernel_rfl⟩
def ptR (a:QM) (n from0:Nat) (tg wi:LI):LI×Bool:=pth (fun s=>decide (s∈tg)) (fun e=>decide (e.2.2∈wi)) a.ed n from0
def phP (N n:Nat) (tg wi:LI) (i:Nat) (v:Value) (w:World):Prop :=
 if i=2 then ∃b,v=.slice (some ⟨b,0,none⟩) n n∧N≤b∧QS w.heap b 4 ((flg n wi).map Value.bool)
 else if i=5 then ∃b,v=.slice (some ⟨b,0,none⟩) n n∧N≤b∧QS w.heap b 4 ((flg n tg).map Value.bool)
 else ∃b,v=.pointer (some ⟨b,0,none⟩)∧N≤b∧QS w.heap b 222 [nS]
theorem Qhd {N n:Nat}{tg wi:LI}(i:Nat) (v:Value) (w w':World) (h:phP N n tg wi i v w) (hs:Step [] w w'):phP N n tg wi i v w':=by
 unfold phP at *
 split
 ·rename_i e;rw[if_pos e] at h;obtain ⟨b,h1,h2,h3⟩:=h;exact ⟨b,h1,h2,h3.ext hs⟩
 ·rename_i e
  rw[if_neg e] at h
  split
  ·rename_i e2;rw[if_pos e2] at h;obtain ⟨b,h1,h2,h3⟩:=h;exact ⟨b,h1,h2,h3.ext hs⟩
  ·rename_i e2;rw[if_neg e2] at h;obtain ⟨b,h1,h2,h3⟩:=h;exact ⟨b,h1,h2,h3.ext hs⟩
structure PhZ where
 bi:Nat
 bt:Nat
 b15:Nat
 b16:Nat
theorem Qiu {w:World}{va vm ve vt vi:Value}{a:QM}{n from0:Nat}{tg wi:LI}(h:Zp [] w.heap va vm ve a) (hck:Y8 a=0) (hn:a.st=(n:Int)) (hf:from0<n) (ht:QL [] w.heap vt tg) (hi:QL [] w.heap vi wi)
  (htk:YT a.st none tg=0) (hik:YT a.st none wi=0) (hin:(from0:Int)∈wi) :
  QG Tryz.prog 66 [.agg #[va,.int .i64 a.st,vm,ve],.int .i64 from0,vt,vi] w fun r w'=>Step [] w w'∧∃v,r=.tuple #[v,.bool (ptR a n from0 tg wi).2,.int .i64 0]∧Qs 3 w.heap.size w' v (ptR a n from0 tg wi).1:=by
 have ho:=(Zt a).1 hck
 have hst1:=ho.st1
 refine QG.of_W Tryz.func66 rfl Tryz.ntmps66 Tryz.results66 (by simp) ?_
 refine Qc<|xl rfl<|QR (us:=[va,.int .i64 a.st,vm,ve]) rfl fun b4 w1 hs1 hb4 hB4=>x Qe<|x Qe<|Qf ?_
 refine Qg<|Qc<|x (Qq hB4 rfl rfl)<|xl rfl<|xf<|(YP (h.ext hs1)).mono ?_
 rintro r2 w2 ⟨rfl,hs2⟩
 refine Qf ?_
 refine Qc<|Qb<|x (Q6 rfl rfl)<|xe ?_
 refine Q3 rfl (fun h20=>absurd hck h20) (fun h20=>?_)
 refine Qi ?_
 have hs12:=hs1.trans hs2
 have hB42:=hB4.ext hs2
 have hfst:¬(from0:Int)≥a.st:=by omega
 refine Qg<|Qc<|Qb<|xb (QB rfl rfl) (fun h23=>absurd h23 (by omega)) (fun h23=>?_)
 refine Qb<|Qb<|x (Qa rfl)<|x (Qd hB42 rfl rfl)<|x (ZH rfl rfl)<|x (Qn rfl)<|xe ?_
 refine Q3 rfl (fun h29=>absurd h29 hfst) (fun h29=>?_)
 refine Qi ?_
 refine Qg<|Qc<|Qb<|Qb<|x (QN ⟨ht.cells,hi.cells,trivial⟩)<|Qb<|xe ?_
 refine Qh<|QA (α:=Nat) [(8,10),(13,14),(33,42)] (fun z=>[(33,.int .i64 z)]) (fun z w'=>z≤2∧Step [] w2 w') (fun z=>2 - z) (by rfl) 0 ⟨rfl,trivial⟩ ⟨by omega,Step.refl _ _⟩ ?_
 rintro k g w4 ⟨hk,hs4⟩
 refine Qc<|x (QB rfl rfl)<|xe ?_
 refine Qg<|QD rfl (fun h34=>?_) (fun h34=>?_)
 ·refine Qz ?_
  have hs04:=hs12.trans hs4
  have hA4:=h.ext hs04
  have hz04:=hs04.size
  have hB44:=hB42.ext hs4
  have htm:=((Ya a.st tg none).1 htk).1
  have him:=((Ya a.st wi none).1 hik).1
  refine Qg<|QcS (α:=PhZ) (Step [] w4) [(0,true),(1,true),(3,true),(4,true)] [2,5,6,7] [(8,false),(9,false)] [(15,16),(45,45),(48,48)] (phP w4.heap.size n tg wi)
   (fun z=>[(45,.slice (some ⟨z.bi,0,none⟩) n n),(48,.slice (some ⟨z.bt,0,none⟩) n n),(15,.pointer (some ⟨z.b15,0,none⟩)),(16,.pointer (some ⟨z.b16,0,none⟩))])
   (fun z w'=>QS w'.heap z.bi 4 ((flg n wi).map Value.bool)∧QS w'.heap z.bt 4 ((flg n tg).map Value.bool)∧QS w'.heap z.b15 222 [nS]∧QS w'.heap z.b16 222 [nS]∧(z.b15≠z.b16∧z.bi≠z.b15∧z.bi≠z.b16∧z.bt≠z.b15∧z.bt≠z.b16)∧w4.heap.size≤z.b15∧w4.heap.size≤z.b16)
   Tryz.mixed (by rfl) (by kernel_rfl) (Step.drew _ _) (fun _ _ h1 h2=>h1.trans h2) Qhd ?_ ?_
  ·rintro g w' ⟨⟨bi,e1,_,hbi⟩,⟨bt,e2,_,hbt⟩,⟨b15,e3,h15,hb15⟩,⟨b16,e4,h16,hb16⟩,_⟩ hdj
   refine ⟨⟨bi,bt,b15,b16⟩,⟨e1,e2,e3,e4,trivial⟩,hbi,hbt,hb15,hb16,?_,h15,h16⟩
   have d1:=hdj 6 (by simp) 7 (by simp) (by decide)
   have d2:=hdj 2 (by simp) 6 (by simp) (by decide)
   have d3:=hdj 2 (by simp) 7 (by simp) (by decide)
   have d4:=hdj 5 (by simp) 6 (by simp) (by decide)
   have d5:=hdj 5 (by simp) 7 (by simp) (by decide)
   rw[e3,e4] at d1
   rw[e1,e3] at d2
   rw[e1,e4] at d3
   rw[e2,e3] at d4
   rw[e2,e4] at d5
   simp only[ow,List.mem_singleton,forall_eq] at d1 d2 d3 d4 d5
   exact ⟨d1,d2,d3,d4,d5⟩
  ·refine pq (fun _ hc=>Qq (hB44.ext hc) rfl rfl)<|p (fun _=>Qm)<|pq (fun _ hc=>Qq (hB44.ext hc) rfl rfl)<|p (fun _=>Qm)<|pe ⟨⟨?_,?_,?_,?_,trivial⟩,?_⟩
   ·intro g w' hc
    refine xf<|(jS ((hi.ext hs04).ext hc) hn hst1 him).mono ?_
    rintro r5 w5 ⟨hs5,b,rfl,hb,hB⟩
    exact ⟨hs5,⟨b,rfl,Nat.le_trans hc.size hb,hB⟩,fun c hc'=>by rw[List.mem_singleton.1 (show c∈[b] from hc')];exact ⟨hb,hB.lt⟩⟩
   ·intro g w' hc
    refine xf<|(jS ((ht.ext hs04).ext hc) hn hst1 htm).mono ?_
    rintro r5 w5 ⟨hs5,b,rfl,hb,hB⟩
    exact ⟨hs5,⟨b,rfl,Nat.le_trans hc.size hb,hB⟩,fun c hc'=>by rw[List.mem_singleton.1 (show c∈[b] from hc')];exact ⟨hb,hB.lt⟩⟩
   ·intro g w' hc
    exact Qu (us:=[nS]) rfl fun b w5 hs5 hb hB=>⟨hs5,⟨b,rfl,Nat.le_trans hc.size hb,hB⟩,fun c hc'=>by rw[List.mem_singleton.1 (show c∈[b] from hc')];exact ⟨hb,hB.lt⟩⟩
   ·intro g w' hc
    exact Qu (us:=[nS]) rfl fun b w5 hs5 hb hB=>⟨hs5,⟨b,rfl,Nat.le_trans hc.size hb,hB⟩,fun c hc'=>by rw[List.mem_singleton.1 (show c∈[b] from hc')];exact ⟨hb,hB.lt⟩⟩
   rintro ⟨bi,bt,b15,b16⟩ g w5 hc5 ⟨hbi,hbt,hb15,hb16,hne,h15,h16⟩
   simp only[] at hbi hbt hb15 hb16 hne h15 h16
   refine pk<|QF (u:=.slice (some ⟨bi,0,none⟩) n n) hb15 rfl rfl (by simp) rfl fun w6 hs6 hb15'=>⟨hc5.then1 hs6 h15,?_⟩
   refine pk<|QF (u:=.slice (some ⟨bt,0,none⟩) n n) (hb16.step hs6 (by simp;omega)) rfl rfl (by simp) rfl fun w7 hs7 hb16'=>⟨(hc5.then1 hs6 h15).then1 hs7 h16,pe ?_⟩
   have hs47:Step [] w4 w7:=(hc5.then1 hs6 h15).then1 hs7 h16
   have hb15'':=hb15'.step hs7 (by simp;omega)
   have hbi7:=(hbi.step hs6 (by simp;omega)).step hs7 (by simp;omega)
   have hbt7:=(hbt.step hs6 (by simp;omega)).step hs7 (by simp;omega)
   have hz47:=hs47.size
   have hfl:((flg n wi).map Value.bool)[0+from0*1]?=some (.bool true):=by
    have e1:=yz (n:=n) (l:=wi) (x:=(from0:Int)) (by omega) (by omega)
    rw[decide_eq_true hin] at e1;exact e1
   refine Qg<|Qc<|x (Qd hb15'' rfl rfl)<|Qb<|x (QQ (i:=from0) rfl rfl hf)<|x (Qd hbi7 rfl hfl)<|x (Zo rfl)<|xe ?_
   refine ZZ rfl<|Qi ?_
   refine Qc<|x (Qq (hB44.ext hs47) rfl rfl)<|xl rfl<|xf<|(JJ (hA4.ext hs47) hn hst1 (fun e he=>⟨(ho.ed e he).1,(ho.ed e he).2.1⟩)).mono ?_
   rintro r8 w8 ⟨hs8,bF,rfl,hbF,hBF⟩
   have hs48:=hs47.trans hs8
   have hz8:=hs8.size
   refine Qb<|x (Zj (l:=[]) (l':=[_]))<|x (Zj (l:=[]) (l':=[_]))<|xl rfl<|xf <|
    (Qhe (wt:=fun s=>decide (s∈tg)) (pm:=fun e=>decide (e.2.2∈wi)) (cw:=[.pointer (some ⟨b16,0,none⟩)]) (cp:=[.pointer (some ⟨b15,0,none⟩)]) (gw:=114) (gp:=115) (hA4.ext hs48) hn (by omega) (fun e he=>by have:=(ho.ed e he).2.2.2;omega) ho.eds hBF hf
     (fun s w' h0 h1 hs'=>Qgq ((hb16'.ext hs8).ext hs') ((hbt7.ext hs8).ext hs') h0 h1) (fun e w' he hs'=>Qgp ((hb15''.ext hs8).ext hs') ((hbi7.ext hs8).ext hs') (by have:=(ho.ed e he).2.2.2;omega) (by have:=(ho.ed e he).2.2.2;omega))).mono ?_
   rintro r9 w9 ⟨hs9,v,rfl,hv⟩
   refine Qb<|x (Qj rfl rfl)<|x (Qj rfl rfl)<|x Qe<|Qf ?_
   refine Qc<|Qb<|Qb<|x Qe<|x Qe<|Qf ?_
   exact Ql ⟨[_,_,_],⟨rfl,rfl,rfl,trivial⟩,hs04.trans (hs48.trans hs9),v,rfl,Zc hv (by omega)⟩
 refine Qi ?_
 have hk2:k<2:=by have h35:(k:Int)<2:=h34;omega
 have hex:∃u l,[vt,vi][k]?=some u∧QL [] w.heap u l∧YT a.st none l=0:=by
  rcases k with _ | k
  ·exact ⟨vt,tg,rfl,ht,htk⟩
  ·have:k=0:=by omega
   subst this;exact ⟨vi,wi,rfl,hi,hik⟩
 refine Exists.elim hex fun u hu=>Exists.elim hu fun l hl=>?_
 refine Qg<|Qh<|Qc<|x (QeA (i:=k) (cs:=[vt,vi]) rfl rfl hk2 hl.1)<|Qf ?_
 refine Qc<|x (Qq (hB42.ext hs4) rfl rfl)<|Qb<|xl rfl<|xf<|(JS (va:=va) (vm:=vm) (ve:=ve) (a:=a) ((hl.2.1.ext hs12).ext hs4)).mono ?_
 rintro r5 w5 ⟨rfl,hs5⟩
 refine Qf ?_
 refine Qc<|Qb<|x (Q6 rfl rfl)<|xe ?_
 refine Q3 rfl (fun h40=>absurd hl.2.2 h40) (fun h40=>?_)
 refine Qi ?_
 refine Qw<|x (Qy rfl rfl ⟨by omega,by omega⟩)<|Qb<|xe ?_
 exact ⟨k+1,by omega,⟨rfl,trivial⟩,by omega,hs4.trans hs5⟩
theorem QbZ {P:Program}{f:Fr}{w:World}{d:Option Nat}{ty:Nat}{ps:String}{af:Array Edge}{gd:Option (Nat×Bool)}{t kt et:Nat}[hm:Mp P t kt et (.int .i64 0)] [hk:Key P kt ZM] {x y:Operand}{b:Nat}{s:QM}{q v:Int}(h:ZA ZM w.heap b (Jq [] s.ed))
  (hs:s.ed.Pairwise fun x y=>x.1<y.1∨(x.1=y.1∧x.2.1<y.2.1)) (hx:ev f x=.map (some b)) (hy:ev f y=ZM (q,v)) :
  (execOp (ev f) ⟨d,.lookup t x y true,ty,ps,af,gd⟩).run P w=.ok (.value (.tuple #[.int .i64 ((eget s.ed q v).getD 0),.bool (decide ((eget s.ed q v).isSome=true))])) w:=by
 rw[JF h hx hy,VB s.ed [] q v hs]
 cases eget s.ed q v <;> rfl
def X1 (k:Nat):LI:=(List.range k).map fun i:Nat=>(i:Int)
theorem jx (k:Nat):(X1 k).length=k:=by simp[X1]
theorem q8 (k:Nat):X1 (k+1)=X1 k++[(k:Int)]:=by unfold X1;rw[List.range_succ,List.map_append];rfl
theorem JK (k:Nat) (x:Int):x∈X1 k↔0≤x∧x<(k:Int):=by
 unfold X1
 simp only[List.mem_map,List.mem_range]
 constructor
 ·rintro ⟨i,hi,rfl⟩;omega
 ·intro h;exact ⟨x.toNat,by omega,by omega⟩
theorem Uz (k:Nat):Yu (X1 k):=by
 induction k with
 | zero=>exact List.Pairwise.nil
 | succ k ih =>
  rw[q8]
  refine List.pairwise_append.2 ⟨ih,List.pairwise_singleton _ _,fun x hx y hy=>?_⟩
  have:=(JK k x).1 hx
  simp at hy;omega
theorem QfQ (d:LI) (k:Nat) (x:Int):x∈Vc d k→0≤x∧x<(k:Int):=by
 unfold Vc
 simp only[List.mem_map,List.mem_filter,List.mem_range]
 rintro ⟨i,hi,rfl⟩;omega
theorem j6 (d:LI) (k:Nat):Yu (Vc d k):=by
 induction k with
 | zero=>exact List.Pairwise.nil
 | succ k ih =>
  rw[zx]
  split
  ·refine List.pairwise_append.2 ⟨ih,List.pairwise_singleton _ _,fun x hx y hy=>?_⟩
   have:=QfQ d k x hx
   simp at hy;omega
  ·exact ih
theorem Qh9 (A:QM):Yu (cor A):=j6 _ _
def Yi (A:QM):LI:=mrg (fun p q=>p && !q) (X1 A.st.toNat) (cor A)
theorem qd (A:QM):Yu (Yi A):=yi _ _ _ _ (Nat.le_refl _) (Uz _) (j6 _ _)
theorem Xu (A:QM) (x:Int):x∈Yi A↔(0≤x∧x<(A.st.toNat:Int))∧x∉cor A:=by
 unfold Yi
 rw[V8 (Uz _) (Qh9 A)]
 have hm:=JK A.st.toNat x
 by_cases h1:x∈cor A
 ·simp[h1]
 ·by_cases h2:x∈X1 A.st.toNat
  ·have:=hm.1 h2
   simp[h1,h2];omega
  ·have:¬(0≤x∧x<(A.st.toNat:Int)):=fun h=>h2 (hm.2 h)
   simp only[h1,h2,false_or,false_and,this]
theorem Qbo {n:Int}{l:LI}(h1:∀x∈l,0≤x∧x<n) (h2:Yu l):YT n none l=0:=(Ya n l none).2 ⟨h1,h2,fun y hy=>by cases hy⟩
structure Vs where
 x:Int
 y:Int
 b:Int
 v:Int
def Vs.ky (p:Vs):Int×Int:=(p.x,p.y)
def zj (a b:QM) (i:Nat) (p:Vs) (v:Int):Vs:=⟨nxt a.ed p.x v,nxt b.ed p.y v,(i:Int),v⟩
def UE (a:QM) (kd x:Int):Bool:=decide (0≤x) && (decide (kd=1) || decide (x∈a.mr))
def lgC (a b:QM) (kd:Int) (p:Vs):Bool:=!(UE a kd p.x == UE b kd p.y)
def lgA (a b:QM) (i:Nat) (p:Vs) (V:List Vs) (v:Int):List Vs:=if (zj a b i p v).ky≠(-1,-1)∧(zj a b i p v).ky∉V.map Vs.ky then V++[zj a b i p v] else V
def vs0:Vs:=⟨-1,-1,-1,0⟩
def gV (V:List Vs) (k:Nat):Vs:=V.getD k vs0
def lgW (V:List Vs):Nat→Nat→LI
 | 0,_=>[]
 | f+1,k=>if 0≤(gV V k).b then (gV V k).v::lgW V f (gV V k).b.toNat else []
def lgL (a b:QM) (kd:Int) (al:LI):Nat→Nat→List Vs→Option (LI)
 | 0,_,_=>none
 | f+1,i,V=>if i<V.length then (if lgC a b kd (gV V i)=true then some (lgW V (i+1) i).reverse else lgL a b kd al f (i+1) (al.foldl (lgA a b i (gV V i)) V)) else none
def fst (a:QM):Int:=if a.st=0 then -1 else 0
def lgq (a b:QM) (kd:Int):Option (LI):=lgL a b kd (mrg (· || ·) a.al b.al) ((a.st.toNat+1)*(b.st.toNat+1)+1) 0 [⟨fst a,fst b,-1,0⟩]
def lgE (a b:QM) (kd:Int):Int:=if Y8 a≠0 then Y8 a else if Y8 b≠0 then Y8 b else if kd≠1∧kd≠2 then 11 else 0
structure Rpt where
 ps:Bool
 ev:Int
 f1:Int
 f2:Int
 nc:Bool
 wd:LI
 sts:LI
 tg:Int
def VY (s:Option (Int×Int×Int)):Int×Int×Int:=s.getD (0,0,0)
def Y1 (A:QM):LI:=if (Yi A).length=0 then [] else (ptR A A.st.toNat 0 (Yi A) (X1 A.st.toNat)).1
def Ja (c:Zy):Rpt:=⟨(Un c).isNone,(VY (Un c)).1,(VY (Un c)).2.1,(VY (Un c)).2.2,decide ((Yi (Z7 c)).length=0),Y1 (Z7 c),(Xl c).map (·.st),(Z7 c).st⟩
def cdA (c:Zy):QM:=zU (Z7 c) [] (unc c.ev)
def cdE (c:Zy):Int:=if XW c≠0 then XW c else Qlm (Z7 c) [] (unc c.ev)
def ccE (c:Zy):Int:=if cdE c≠0 then cdE c else XX [Z7 c,cdA c]
def ccA (c:Zy):QM:=syA [Z7 c,cdA c]
def Qdj:LI→LI→Bool
 | a::v,b::w=>if a=b then Qdj v w else decide (a<b)
 | _,_=>false
def less (v w:LI):Bool:=if v.length≠w.length then decide (v.length<w.length) else Qdj v w
def own (c:Zy) (k:Bool):QM:=if k=true then ccA c else Z7 c
def cmE (c:Zy) (k:Bool):Int:=if XW c≠0 then XW c else if suE c≠0 then suE c else if k=true∧ccE c≠0 then ccE c else lgE (own c k) (V2 c) 1
def cm1 (z:Option (LI)) (w:Option (LI)):Option (LI):=match w with
 | none=>z
 | some w=>match z with
  | none=>some w
  | some v=>if less w v=true then some w else some v
def cmW (a b:QM):Option (LI):=cm1 (cm1 none (lgq a b 1)) (lgq a b 2)
abbrev Q8 (p:Int×Int):LV:=[.int .i64 p.1,.int .i64 p.2]
theorem XM (p:Int×Int):(Q8 p).length=2:=rfl
abbrev P2s (L:LN) (H:Array Obj) (v:Value) (l:List (Int×Int)):Prop:=Zs L H v l.length 2 (l.flatMap Q8)
abbrev Zn (e:KK):LV:=[.string e.nm,.bool e.co,.bool e.ob,.bool e.fo,.int .i64 e.fl]
theorem yD (e:KK):(Zn e).length=5:=rfl
abbrev VZ (s:ByteArray):Prop:=s.size≤9223372036854775807
structure Jz (L:LN) (H:Array Obj) (v:Value) (l:List KK):Prop where
 arr:Zs L H v l.length 5 (l.flatMap Zn)
 nm:∀e∈l,VZ e.nm
theorem Jz.ext {L:LN}{w w':World}{v:Value}{l:List KK}(h:Jz L w.heap v l) (hs:Step [] w w'):Jz L w'.heap v l:=⟨h.arr.ext hs,h.nm⟩
theorem Jz.st {L:LN}{w w':World}{v:Value}{l:List KK}(h:Jz L w.heap v l) (hs:Step L w w'):Jz L w'.heap v l:=⟨h.arr.st hs,h.nm⟩
theorem Jz.up {L L':LN}{H:Array Obj}{v:Value}{l:List KK}(h:Jz L H v l) (hL:∀b∈L',b∈L∨H.size≤b):Jz L' H v l:=⟨h.arr.up hL,h.nm⟩
structure IV where
 nm:ByteArray
 p:AV
def IV.it (q:IV):Jb:=⟨q.nm,q.p.a⟩
abbrev Zh (q:IV):LV:=[.string q.nm,q.p.va,.int .i64 q.p.a.st,q.p.vm,q.p.ve]
theorem Y6 (q:IV):(Zh q).length=5:=rfl
structure YR (L:LN) (H:Array Obj) (v:Value) (qs:List IV):Prop where
 arr:Zs L H v qs.length 5 (qs.flatMap Zh)
 each:∀q∈qs,Zp L H q.p.va q.p.vm q.p.ve q.p.a
 nm:∀q∈qs,VZ q.nm
structure XV where
 nm:ByteArray
 v:Value
 ls:List (Int×Int)
def XV.x (q:XV):Exc:=⟨q.nm,q.ls⟩
abbrev Zu (q:XV):LV:=[.string q.nm,q.v]
theorem JA (q:XV):(Zu q).length=2:=rfl
structure Ud (L:LN) (H:Array Obj) (v:Value) (qs:List XV):Prop where
 arr:Zs L H v qs.length 2 (qs.flatMap Zu)
 each:∀q∈qs,P2s L H q.v q.ls
 nm:∀q∈qs,VZ q.nm
structure KV where
 nm:ByteArray
 v:Value
 ts:List (Int×Int)
 bd:Int
def KV.k (q:KV):XS:=⟨q.nm,q.ts,q.bd⟩
abbrev Zx (q:KV):LV:=[.string q.nm,q.v,.int .i64 q.bd]
theorem Jg (q:KV):(Zx q).length=3:=rfl
structure zM (L:LN) (H:Array Obj) (v:Value) (qs:List KV):Prop where
 arr:Zs L H v qs.length 3 (qs.flatMap Zx)
 each:∀q∈qs,P2s L H q.v q.ts
 nm:∀q∈qs,VZ q.nm
theorem YR.ext {L:LN}{w w':World}{v:Value}{qs:List IV}(h:YR L w.heap v qs) (hs:Step [] w w'):YR L w'.heap v qs:=⟨h.arr.ext hs,fun q hq=>(h.each q hq).ext hs,h.nm⟩
theorem YR.st {L:LN}{w w':World}{v:Value}{qs:List IV}(h:YR L w.heap v qs) (hs:Step L w w'):YR L w'.heap v qs:=⟨h.arr.st hs,fun q hq=>(h.each q hq).st hs,h.nm⟩
theorem YR.up {L L':LN}{H:Array Obj}{v:Value}{qs:List IV}(h:YR L H v qs) (hL:∀b∈L',b∈L∨H.size≤b):YR L' H v qs:=⟨h.arr.up hL,fun q hq=>(h.each q hq).up hL,h.nm⟩
theorem Ud.ext {L:LN}{w w':World}{v:Value}{qs:List XV}(h:Ud L w.heap v qs) (hs:Step [] w w'):Ud L w'.heap v qs:=⟨h.arr.ext hs,fun q hq=>(h.each q hq).ext hs,h.nm⟩
theorem Ud.st {L:LN}{w w':World}{v:Value}{qs:List XV}(h:Ud L w.heap v qs) (hs:Step L w w'):Ud L w'.heap v qs:=⟨h.arr.st hs,fun q hq=>(h.each q hq).st hs,h.nm⟩
theorem Ud.up {L L':LN}{H:Array Obj}{v:Value}{qs:List XV}(h:Ud L H v qs) (hL:∀b∈L',b∈L∨H.size≤b):Ud L' H v qs:=⟨h.arr.up hL,fun q hq=>(h.each q hq).up hL,h.nm⟩
theorem zM.ext {L:LN}{w w':World}{v:Value}{qs:List KV}(h:zM L w.heap v qs) (hs:Step [] w w'):zM L w'.heap v qs:=⟨h.arr.ext hs,fun q hq=>(h.each q hq).ext hs,h.nm⟩
theorem zM.st {L:LN}{w w':World}{v:Value}{qs:List KV}(h:zM L w.heap v qs) (hs:Step L w w'):zM L w'.heap v qs:=⟨h.arr.st hs,fun q hq=>(h.each q hq).st hs,h.nm⟩
theorem zM.up {L L':LN}{H:Array Obj}{v:Value}{qs:List KV}(h:zM L H v qs) (hL:∀b∈L',b∈L∨H.size≤b):zM L' H v qs:=⟨h.arr.up hL,fun q hq=>(h.each q hq).up hL,h.nm⟩
structure CL where
 ve:Value
 vc:Value
 vr:Value
 vx:Value
 vk:Value
 ev:List KK
 co:List IV
 rq:List IV
 ex:List XV
 cs:List KV
def CL.cel (c:CL):Zy:=⟨c.ev,c.co.map (·.it),c.rq.map (·.it),c.ex.map (·.x),c.cs.map (·.k)⟩
abbrev CL.cells (c:CL):LV:=[c.ve,c.vc,c.vr,c.vx,c.vk]
abbrev CL.val (c:CL):Value:=.agg #[c.ve,c.vc,c.vr,c.vx,c.vk]
structure ZI (L:LN) (H:Array Obj) (c:CL):Prop where
 ev:Jz L H c.ve c.ev
 co:YR L H c.vc c.co
 rq:YR L H c.vr c.rq
 ex:Ud L H c.vx c.ex
 cs:zM L H c.vk c.cs
theorem ZI.ext {L:LN}{w w':World}{c:CL}(h:ZI L w.heap c) (hs:Step [] w w'):ZI L w'.heap c:=⟨h.ev.ext hs,h.co.ext hs,h.rq.ext hs,h.ex.ext hs,h.cs.ext hs⟩
theorem ZI.st {L:LN}{w w':World}{c:CL}(h:ZI L w.heap c) (hs:Step L w w'):ZI L w'.heap c:=⟨h.ev.st hs,h.co.st hs,h.rq.st hs,h.ex.st hs,h.cs.st hs⟩
theorem ZI.up {L L':LN}{H:Array Obj}{c:CL}(h:ZI L H c) (hL:∀b∈L',b∈L∨H.size≤b):ZI L' H c:=⟨h.ev.up hL,h.co.up hL,h.rq.up hL,h.ex.up hL,h.cs.up hL⟩
theorem ZI.ones {L:LN}{H:Array Obj}{c:CL}(h:ZI L H c):ZB c.cells:=⟨h.ev.arr.one,h.co.arr.one,h.rq.arr.one,h.ex.arr.one,h.cs.arr.one,trivial⟩
def QiB (N:Nat) (H:Array Obj) (v:Value) (k:Zy):Prop:=∃c:CL,v=c.val∧c.cel=k∧∀L:LN,(∀b∈L,b<N)→ZI L H c
theorem VM (s:ByteArray) (hnb:VZ s) (w:World):QG Tryz.prog 161 [.string s] w fun r w'=>r=.bool (Kz s)∧w'=w:=by
 unfold VZ at hnb
 refine QG.of_W Tryz.func161 rfl Tryz.ntmps161 Tryz.results161 (by simp) ?_
 refine Qc<|Qf ?_
 refine Qg<|Qc<|Qb<|x (QaX rfl)<|Qb<|xe ?_
 refine Qh<|QA (α:=Nat) [(2,5),(8,46)] (fun z=>[(8,.int .i64 z)]) (fun z w'=>w'=w∧z≤s.size∧(List.range' z (s.size - z)).all (nmQ s)=(List.range' 0 s.size).all (nmQ s)) (fun z=>s.size - z) (by rfl) 0 ⟨rfl,trivial⟩ ⟨rfl,Nat.zero_le _,by rw[Nat.sub_zero]⟩ ?_
 rintro k g w1 ⟨rfl,hk,hall⟩
 refine Qc<|x (QB rfl rfl)<|xe ?_
 refine Qg<|QD rfl (fun h9=>?_) (fun h9=>?_)
 ·refine Qz ?_
  have hke:s.size≤k:=by have h10:¬(k:Int)<(s.size:Int):=h9;omega
  rw[Qha hke] at hall
  have hr:Kz s=decide (0<s.size∧s.size≤32):=by unfold Kz;rw[←hall];simp
  rw[hr]
  refine QV (α:=Bool) [(2,2),(47,54)] (fun z=>[(2,.bool z)]) (fun z w'=>w'=w1∧z=decide (0<s.size∧s.size≤32)) (by rfl) ?_ ?_
  ·refine Qw<|Qb<|x (QaX rfl)<|xb (ZK rfl rfl) (fun h49=>?_) (fun h49=>?_)
   ·refine Qb<|Qb<|x (QaX rfl)<|x (Jp rfl rfl)<|x (Qn rfl)<|Qf ?_
    exact ⟨_,⟨rfl,trivial⟩,rfl,by first | exact bT (by omega) | exact bF (by omega) | exact bD (by omega)⟩
   refine Qb<|xs rfl<|xs rfl<|xs rfl<|x (Qn rfl)<|Qf ?_
   exact ⟨_,⟨rfl,trivial⟩,rfl,by first | exact bT (by omega) | exact bF (by omega) | exact bD (by omega)⟩
  rintro z g w2 ⟨rfl,rfl⟩
  exact Ql ⟨[_],⟨rfl,trivial⟩,rfl,rfl⟩
 have hlt:k<s.size:=by have h10:(k:Int)<(s.size:Int):=h9;omega
 rw[Qeq hlt,List.all_cons] at hall
 refine Qi ?_
 refine Qg<|Qh<|Qc<|Qb<|Qf ?_
 refine Qc<|Qb<|Qb<|x (QeB (i:=k) rfl rfl hlt)<|Qf ?_
 have hq:nmQ s k=decide (nmP k (chr s k)):=rfl
 refine Zf (chr s k) fun c hc=>?_
 rw[hc] at hq
 refine QV (α:=Bool) [(5,5),(14,31)] (fun z=>[(5,.bool z)]) (fun z w'=>w'=w1∧z=decide ((97≤c∧c≤122)∨(65≤c∧c≤90)∨c=95)) (by rfl) ?_ ?_
 ·rw[←hc]
  refine Qw<|Qb<|xb (ZH rfl rfl) (fun h15=>?_) (fun h15=>?_)
  ·refine Qb<|Qb<|xb (Jp rfl rfl) (fun h18=>?_) (fun h18=>?_)
   ·refine x (Qn rfl)<|Qb<|xs rfl<|xs rfl<|xs rfl<|xs rfl<|xs rfl<|xs rfl<|x (Qn rfl)<|Qb<|xs rfl<|xs rfl<|x (Qn rfl) <|
     Qf ?_
    exact ⟨_,⟨rfl,trivial⟩,rfl,by first | exact bT (by omega) | exact bF (by omega) | exact bD (by omega)⟩
   refine x (Qn rfl)<|Qb<|Qb<|xb (ZH rfl rfl) (fun h22=>?_) (fun h22=>?_)
   ·refine Qb<|Qb<|xb (Jp rfl rfl) (fun h25=>?_) (fun h25=>?_)
    ·refine x (Qn rfl)<|x (Qn rfl)<|Qb<|xs rfl<|xs rfl<|x (Qn rfl)<|Qf ?_
     exact ⟨_,⟨rfl,trivial⟩,rfl,by first | exact bT (by omega) | exact bF (by omega) | exact bD (by omega)⟩
    refine x (Qn rfl)<|x (Qn rfl)<|Qb<|Qb<|x (Zm rfl rfl)<|x (Qn rfl)<|Qf ?_
    exact ⟨_,⟨rfl,trivial⟩,rfl,by first | exact bT (by omega) | exact bF (by omega) | exact bD (by omega)⟩
   refine Qb<|xs rfl<|xs rfl<|x (Qn rfl)<|x (Qn rfl)<|Qb<|Qb<|x (Zm rfl rfl)<|x (Qn rfl)<|x Qe <|
    xe ?_
   exact ⟨_,⟨rfl,trivial⟩,rfl,by first | exact bT (by omega) | exact bF (by omega) | exact bD (by omega)⟩
  refine Qb<|xs rfl<|xs rfl<|x (Qn rfl)<|Qb<|Qb<|xb (ZH rfl rfl) (fun h22=>?_) (fun h22=>?_)
  ·refine Qb<|Qb<|xb (Jp rfl rfl) (fun h25=>?_) (fun h25=>?_)
   ·refine x (Qn rfl)<|x (Qn rfl)<|Qb<|xs rfl<|xs rfl<|x (Qn rfl)<|Qf ?_
    exact ⟨_,⟨rfl,trivial⟩,rfl,by first | exact bT (by omega) | exact bF (by omega) | exact bD (by omega)⟩
   refine x (Qn rfl)<|x (Qn rfl)<|Qb<|Qb<|x (Zm rfl rfl)<|x (Qn rfl)<|Qf ?_
   exact ⟨_,⟨rfl,trivial⟩,rfl,by first | exact bT (by omega) | exact bF (by omega) | exact bD (by omega)⟩
  refine Qb<|xs rfl<|xs rfl<|x (Qn rfl)<|x (Qn rfl)<|Qb<|Qb<|x (Zm rfl rfl)<|x (Qn rfl)<|x Qe <|
   xe ?_
  exact ⟨_,⟨rfl,trivial⟩,rfl,by first | exact bT (by omega) | exact bF (by omega) | exact bD (by omega)⟩
 rintro z g w4 ⟨rfl,rfl⟩
 refine QV (α:=Bool) [(32,45)] (fun z=>[(45,.bool z)]) (fun z w'=>w'=w4∧z=decide (¬nmP k c)) (by rfl) ?_ ?_
 ·unfold nmP
  rw[←hc]
  refine Qw<|Qb<|xb (Uv rfl) (fun h33=>?_) (fun h33=>?_)
  ·refine Qb<|Qb<|xb (Zm rfl rfl) (fun h36=>?_) (fun h36=>?_)
   ·refine Qb<|xs rfl<|xs rfl<|x (Qn rfl)<|Qb<|xs rfl<|xs rfl<|x (Qn rfl)<|x (Qn rfl)<|xe ?_
    exact ⟨_,⟨rfl,trivial⟩,rfl,by first | exact bT (by omega) | exact bF (by omega) | exact bD (by omega)⟩
   refine Qb<|Qb<|xb (QB rfl rfl) (fun h39=>?_) (fun h39=>?_)
   ·refine x (Qn rfl)<|Qb<|xs rfl<|xs rfl<|x (Qn rfl)<|x (Qn rfl)<|xe ?_
    exact ⟨_,⟨rfl,trivial⟩,rfl,by first | exact bT (by omega) | exact bF (by omega) | exact bD (by omega)⟩
   refine x (Qn rfl)<|Qb<|Qb<|x (ZK rfl rfl)<|x (Qn rfl)<|x (Qn rfl)<|xe ?_
   exact ⟨_,⟨rfl,trivial⟩,rfl,by first | exact bT (by omega) | exact bF (by omega) | exact bD (by omega)⟩
  refine Qb<|xs rfl<|xs rfl<|xs rfl<|xs rfl<|xs rfl<|xs rfl<|xs rfl<|xs rfl<|xs rfl<|xs rfl<|x (Qn rfl)<|xe ?_
  exact ⟨_,⟨rfl,trivial⟩,rfl,by first | exact bT (by omega) | exact bF (by omega) | exact bD (by omega)⟩
 rintro z g w5 ⟨rfl,rfl⟩
 refine Q3 rfl (fun h45=>?_) (fun h45=>?_)
 ·refine Qc<|Qf ?_
  have hr:Kz s=false:=by
   unfold Kz
   rw[←hall,hq,decide_eq_false h45];rfl
  exact Ql ⟨[_],⟨rfl,trivial⟩,by rw[hr];rfl,rfl⟩
 refine Qi ?_
 have h46:nmP k c:=Decidable.not_not.1 h45
 refine Qw<|x (Qy rfl rfl ⟨by omega,by omega⟩)<|Qb<|xe ?_
 rw[hq,decide_eq_true h46,Bool.true_and] at hall
 exact ⟨k+1,by omega,⟨rfl,trivial⟩,rfl,hlt,hall⟩
def nmM (l:List ByteArray):List (ByteArray×Value):=l.map fun s=>(s,.bool true)
theorem Qhj (l:List ByteArray) (s:ByteArray):mget (nmM l) s=if s∈l then some (.bool true) else none:=by
 induction l with
 | nil=>rfl
 | cons a l ih =>
  show (if a=s then some (Value.bool true) else mget (nmM l) s)=_
  rw[ih]
  by_cases h:a=s
  ·subst h;simp
  ·have:s≠a:=fun e=>h e.symm
   simp[h,this]
theorem Qb7 {l:List ByteArray}{s:ByteArray}(h:s∉l):mput (nmM l) s (.bool true)=nmM (l++[s]):=by
 induction l with
 | nil=>rfl
 | cons a l ih =>
  have h1:a≠s:=fun e=>h (by subst e;exact List.mem_cons_self)
  show (if a=s then (a,Value.bool true)::nmM l else (a,Value.bool true)::mput (nmM l) s (.bool true))=_
  rw[if_neg h1,ih (fun hm=>h (List.mem_cons_of_mem _ hm))]
  rfl
section
variable {P:Program} {f:Fr} {w:World} {d:Option Nat} {ty:Nat} {ps:String} {af:Array Edge} {gd:Option (Nat×Bool)}
theorem jq {t kt et:Nat}[hm:Mp P t kt et (.bool false)] [hk:Key P kt Xp] {x y:Operand}{b:Nat}{l:List ByteArray}{s:ByteArray}(h:ZA Xp w.heap b (nmM l)) (hx:ev f x=.map (some b)) (hy:ev f y=.string s) :
  (execOp (ev f) ⟨d,.lookup t x y false,ty,ps,af,gd⟩).run P w=.ok (.value (.bool (decide (s∈l)))) w:=by
 rw[XZ h hx hy,Qhj]
 by_cases hs:s∈l <;> simp[hs]
end
theorem Qbq {s:List ByteArray}{l:List KK}{k:Nat}(h:k<l.length):U6 s (l.drop k)=if XJ s (l[k]'h)≠0 then XJ s (l[k]'h) else U6 (s++[(l[k]'h).nm]) (l.drop (k+1)):=by
 rw[Q5 h];rfl
theorem UW {L:LN}{w:World}{v:Value}{l:List KK}(h:Jz L w.heap v l):QG Tryz.prog 117 [v] w fun r w'=>r=.int .i64 (JR l)∧Step [] w w':=by
 have hle:=h.arr.le
 refine QG.of_W Tryz.func117 rfl Tryz.ntmps117 Tryz.results117 (by simp) ?_
 refine Qc<|Qf ?_
 refine Qg<|Qc<|Qb<|x (Qr h.arr rfl)<|x (ZK rfl rfl)<|xe ?_
 refine Q3 rfl (fun h8=>?_) (fun h8=>?_)
 ·refine Qc<|Qf ?_
  exact Ql ⟨[_],⟨rfl,trivial⟩,by unfold JR;rw[if_pos (by have h9:(32:Int)<(l.length:Int):=h8;omega)];rfl,Step.refl _ _⟩
 have hck:JR l=U6 [] l:=by unfold JR;rw[if_neg (by have h9:¬(32:Int)<(l.length:Int):=h8;omega)]
 rw[hck]
 refine Qi ?_
 refine Qc<|xl rfl<|ZS Xp fun b9 w1 hs1 hb9 hm9=>Qf ?_
 refine Qg<|Qc<|Qb<|x (Qr (h.arr.ext hs1) rfl)<|Qb<|xe ?_
 refine Qh<|QA (α:=Nat×List ByteArray) [(2,2),(5,5),(12,50)] (fun z=>[(12,.int .i64 z.1)]) (fun z w'=>z.1≤l.length∧Step [] w w'∧ZA Xp w'.heap b9 (nmM z.2)∧U6 z.2 (l.drop z.1)=U6 [] l) (fun z=>l.length - z.1) (by rfl) (0,[]) ⟨rfl,trivial⟩
  ⟨Nat.zero_le _,hs1,hm9,rfl⟩ ?_
 rintro ⟨k,sn⟩ g w2 ⟨hk,hs2,hm2,hcl⟩
 simp only[] at hk hm2 hcl
 refine Qc<|x (QB rfl rfl)<|xe ?_
 refine Qg<|QD rfl (fun h13=>?_) (fun h13=>?_)
 ·refine Qz ?_
  have hke:l.length≤k:=by have h10:¬(k:Int)<(l.length:Int):=h13;omega
  rw[List.drop_of_length_le hke] at hcl
  refine Qc<|Qf ?_
  exact Ql ⟨[_],⟨rfl,trivial⟩,by rw[←hcl];rfl,hs2⟩
 have hlt:k<l.length:=by have h10:(k:Int)<(l.length:Int):=h13;omega
 rw[Qbq hlt] at hcl
 have hnm:=h.nm _ (List.getElem_mem hlt)
 refine Qi ?_
 refine Qg<|Qh<|Qc<|xig yD (h.arr.ext hs2) rfl rfl hlt fun a14 h14=>?_
 refine Zf (l[k]'hlt) fun e he=>?_
 rw[he] at h14 hcl hnm
 refine x (QK h14 rfl rfl)<|xl rfl<|Qu (us:=[.string .empty,.bool false,.bool false,.bool false,.int .i64 0]) rfl fun b5 w3 hs3 hb5 hB5=>xl rfl<|Qo (us:=Zn e) hB5 rfl rfl rfl rfl ⟨rfl,rfl,rfl,rfl,rfl,trivial⟩ fun w4 hs4 hB5 =>
  xe ?_
 have hs24:Step [] w2 w4:=hs3.then1 hs4 hb5
 have hm4:=hm2.ext hs24
 refine Qg<|Qh<|Qc<|x (Qa rfl)<|x (Qd hB5 rfl rfl)<|xl rfl<|xf<|(VM e.nm hnm _).mono ?_
 rintro r5 w5 ⟨rfl,rfl⟩
 refine x (Zo rfl)<|Qf ?_
 refine QW rfl (fun h16=>?_) (fun h16=>?_)
 ·have hn:Kz e.nm=false:=by simpa using h16
  have h1:XJ sn e=7:=by unfold XJ;rw[if_pos hn]
  refine Qc<|Qf ?_
  exact Ql ⟨[_],⟨rfl,trivial⟩,by rw[←hcl,h1];rfl,hs2.trans hs24⟩
 have hn:¬Kz e.nm=false:=by simpa using h16
 refine Qc<|Qb<|x (Qa rfl)<|x (Qd hB5 rfl rfl)<|x (jq hm4 rfl rfl)<|Qf ?_
 refine Q3 rfl (fun h21=>?_) (fun h21=>?_)
 ·have h1:XJ sn e=8:=by unfold XJ;rw[if_neg hn,if_pos h21]
  refine Qc<|Qf ?_
  exact Ql ⟨[_],⟨rfl,trivial⟩,by rw[←hcl,h1];rfl,hs2.trans hs24⟩
 refine QV (α:=Bool) [(26,34)] (fun z=>[(26,.bool z)]) (fun z w'=>w'=w5∧z=decide (e.fl<0∨4<e.fl)) (by rfl) ?_ ?_
 ·refine Qw<|x (Qa rfl)<|x (Qd hB5 rfl rfl)<|xb (QB rfl rfl) (fun h29=>?_) (fun h29=>?_)
  ·refine Qb<|xs rfl<|xs rfl<|xs rfl<|x (Qn rfl)<|Qf ?_
   exact ⟨_,⟨rfl,trivial⟩,rfl,by first | exact bT (by omega) | exact bF (by omega) | exact bD (by omega)⟩
  refine Qb<|x (Qa rfl)<|x (Qd hB5 rfl rfl)<|x (ZK rfl rfl)<|x (Qn rfl)<|Qf ?_
  exact ⟨_,⟨rfl,trivial⟩,rfl,by first | exact bT (by omega) | exact bF (by omega) | exact bD (by omega)⟩
 rintro z g w6 ⟨rfl,rfl⟩
 refine Q3 rfl (fun h26=>?_) (fun h26=>?_)
 ·have h1:XJ sn e=2:=by unfold XJ;rw[if_neg hn,if_neg h21,if_pos h26]
  refine Qc<|Qf ?_
  exact Ql ⟨[_],⟨rfl,trivial⟩,by rw[←hcl,h1];rfl,hs2.trans hs24⟩
 refine QV (α:=Bool) [(35,46)] (fun z=>[(35,.bool z)]) (fun z w'=>w'=w6∧z=decide (e.fl≠0∧(e.co || e.ob)=true)) (by rfl) ?_ ?_
 ·refine Qw<|x (Qa rfl)<|x (Qd hB5 rfl rfl)<|xb (Q6 rfl rfl) (fun h38=>?_) (fun h38=>?_)
  ·refine Qb<|x (Qa rfl)<|xB (Qd hB5 rfl rfl) (fun h41=>?_) (fun h41=>?_)
   ·refine Qb<|xs rfl<|xs rfl<|x (Qn rfl)<|x (Qn rfl)<|Qf ?_
    exact ⟨_,⟨rfl,trivial⟩,rfl,by rw[h41,decide_eq_true ⟨h38,by simp⟩]⟩
   ·refine Qb<|x (Qa rfl)<|x (Qd hB5 rfl rfl)<|x (Qn rfl)<|x (Qn rfl)<|Qf ?_
    refine ⟨_,⟨rfl,trivial⟩,rfl,?_⟩
    show e.ob=_
    rw[h41];cases e.ob <;> simp[show ¬e.fl=0 from h38]
  refine Qb<|xs rfl<|xs rfl<|xs rfl<|xs rfl<|xs rfl<|xs rfl<|x (Qn rfl)<|Qf ?_
  exact ⟨_,⟨rfl,trivial⟩,rfl,bF (fun h1=>h38 h1.1)⟩
 rintro z g w7 ⟨rfl,rfl⟩
 refine Q3 rfl (fun h35=>?_) (fun h35=>?_)
 ·have h1:XJ sn e=13:=by unfold XJ;rw[if_neg hn,if_neg h21,if_neg h26,if_pos h35]
  refine Qc<|Qf ?_
  exact Ql ⟨[_],⟨rfl,trivial⟩,by rw[←hcl,h1];rfl,hs2.trans hs24⟩
 have h1:XJ sn e=0:=by unfold XJ;rw[if_neg hn,if_neg h21,if_neg h26,if_neg h35]
 rw[h1,if_neg (fun h=>h rfl)] at hcl
 refine Qi ?_
 refine Qw<|Qb<|x (Qa rfl)<|x (Qd hB5 rfl rfl)<|xl rfl<|Yw (k:=e.nm) hm4 rfl rfl fun w8 hs8 hm8=>xe ?_
 refine Qw<|x (Qy rfl rfl ⟨by omega,by omega⟩)<|Qb<|xe ?_
 have hm8':ZA Xp w8.heap b9 (nmM (sn++[e.nm])):=by rw[←Qb7 h21];exact hm8
 exact ⟨(k+1,sn++[e.nm]),by simp only[];omega,⟨rfl,trivial⟩,hlt,(hs2.trans hs24).then1 hs8 hb9,hm8',hcl⟩
theorem jJ {α:Type}(q:α→Bool) (x:α):∀(l:List α) (i:Nat),ixs q i (l++[x])=ixs q i l++if q x=true then [((i+l.length:Nat):Int)] else []
 | [],i=>by simp[ixs]
 | a::l,i=>by
  have ih:=jJ q x l (i+1)
  simp only[List.cons_append,ixs,ih,List.length_cons]
  rw[show i+1+l.length=i+(l.length+1) by omega]
  split <;> simp
theorem V9 {α:Type}(q:α→Bool):∀(l:List α) (i:Nat),(ixs q i l).length≤l.length
 | [],i=>by simp[ixs]
 | a::l,i=>by
  have ih:=V9 q l (i+1)
  unfold ixs;split <;> simp <;> omega
theorem jI {α:Type}(q:α→Bool) {l:List α}{k:Nat}(h:k<l.length):ixs q 0 (l.take (k+1))=ixs q 0 (l.take k)++if q (l[k]'h)=true then [(k:Int)] else []:=by
 rw[List.take_succ_eq_append_getElem h,jJ]
 simp[Nat.min_eq_left (Nat.le_of_lt h)]
theorem Qdv {g:Nat}{fn:Func}[Fu Tryz.prog g fn] {q:KK→Bool}(hq:∀(e:KK) (w:World),QG Tryz.prog g [.agg (Zn e).toArray] w fun r w'=>r=.bool (q e)∧Step [] w w') {L:LN}{w:World}{v:Value}{l:List KK}(h:Jz L w.heap v l) :
  QG Tryz.prog 124 [v,.func (.func g) #[] #[]] w fun r w'=>Step [] w w'∧Qs 3 w.heap.size w' r (ixs q 0 l):=by
 have hle:=h.arr.le
 refine QG.of_W Tryz.func124 rfl Tryz.ntmps124 Tryz.results124 (by simp) ?_
 refine Qc<|Qf ?_
 refine Qc<|Qf ?_
 refine Qg<|Qc<|Qb<|x (Qr h.arr rfl)<|Qb<|xe ?_
 refine Qh<|QA (α:=Nat×Value) [(5,7),(10,22)] (fun z=>[(5,z.2),(10,.int .i64 z.1)]) (fun z w'=>z.1≤l.length∧Step [] w w'∧Qs 3 w.heap.size w' z.2 (ixs q 0 (l.take z.1))) (fun z=>l.length - z.1) (by rfl) (0,nS) ⟨rfl,rfl,trivial⟩
  ⟨Nat.zero_le _,Step.refl _ _,QP _ _ _ _⟩ ?_
 rintro ⟨k,vo⟩ g w1 ⟨hk,hs1,ho1⟩
 simp only[] at hk ho1
 refine Qc<|x (QB rfl rfl)<|xe ?_
 refine Qg<|QD rfl (fun h11=>?_) (fun h11=>?_)
 ·refine Qz ?_
  have hke:l.length≤k:=by have h10:¬(k:Int)<(l.length:Int):=h11;omega
  rw[List.take_of_length_le hke] at ho1
  refine Qc<|Qb<|Qf ?_
  exact Ql ⟨[_],⟨rfl,trivial⟩,hs1,ho1⟩
 have hlt:k<l.length:=by have h10:(k:Int)<(l.length:Int):=h11;omega
 have htk:=jI q hlt
 have hil:=V9 q (l.take k) 0
 have htl:(l.take k).length=k:=by simp;omega
 refine Qi ?_
 refine Qg<|Qh<|Qc<|Qb<|xig yD (h.arr.ext hs1) rfl rfl hlt fun a13 h13=>?_
 refine Zf (l[k]'hlt) fun e he=>?_
 rw[he] at h13 htk
 refine x (QK h13 rfl rfl)<|xl rfl<|Qu (us:=[.string .empty,.bool false,.bool false,.bool false,.int .i64 0]) rfl fun b7 w2 hs2 hb7 hB7=>x Qe <|
  xl rfl<|Qo (us:=Zn e) hB7 rfl rfl rfl rfl ⟨rfl,rfl,rfl,rfl,rfl,trivial⟩ fun w3 hs3 hB7=>xe ?_
 have hs13:Step [] w1 w3:=hs2.then1 hs3 hb7
 refine Qc<|Qb<|x (Qq hB7 rfl rfl)<|xl rfl<|xc (first:=[]) (capt:=[]) rfl<|(hq e w3).mono ?_
 rintro r4 w4 ⟨rfl,hs4⟩
 have hs14:=hs13.trans hs4
 have ho4:=Qt ho1 hs14
 have hz4:=(hs1.trans hs14).size
 refine xe ?_
 refine QW rfl (fun h17=>?_) (fun h17=>?_)
 ·rw[if_pos h17] at htk
  refine Qw<|Qb<|Qb<|xl rfl<|QI (us:=[[.int .i64 k]]) rfl rfl (by decide) (by simp) ⟨rfl,rfl,trivial⟩ fun b20 w5 hs5 hb20 hB20=>?_
  have ho5:=Qt ho4 hs5
  have hz5:=hs5.size
  refine xl rfl<|Q2 (news:=[.int .i64 k]) (L:=[]) ho5 rfl rfl rfl (hB20.at (by simp)) (by simp[Value.oneCell']) (by omega) (by omega) fun v6 w6 ho6 hs6 hn6 =>
   Qf ?_
  have hge:=Qp ho4
  refine Qw<|x (Qy rfl rfl ⟨by omega,by omega⟩)<|Qb<|xe ?_
  refine ⟨(k+1,v6),by simp only[];omega,⟨rfl,rfl,trivial⟩,hlt,((hs1.trans hs14).trans hs5).then hs6 (fun b hb=>.inr (hge b hb).1),?_⟩
  simp only[]
  rw[htk];exact Qs.snoc ho6
 rw[if_neg (by rw[h17];decide),List.append_nil] at htk
 refine Qi ?_
 refine Qw<|x (Qy rfl rfl ⟨by omega,by omega⟩)<|Qb<|xe ?_
 exact ⟨(k+1,vo),by simp only[];omega,⟨rfl,rfl,trivial⟩,hlt,hs1.trans hs14,by simp only[];rw[htk];exact ho4⟩
theorem Qbz (e:KK) (w:World):QG Tryz.prog 119 [.agg (Zn e).toArray] w fun r w'=>r=.bool (!e.co)∧Step [] w w':=by
 refine QG.of_W Tryz.func119 rfl Tryz.ntmps119 Tryz.results119 (by simp) ?_
 refine Qc<|xl rfl<|QR (us:=Zn e) rfl fun b1 w1 hs1 hb1 hB1=>Qf ?_
 refine Qc<|x (Qa rfl)<|x (Qd hB1 rfl rfl)<|x (Zo rfl)<|Qf ?_
 exact Ql ⟨[_],⟨rfl,trivial⟩,rfl,hs1⟩
theorem QdE {L:LN}{w:World}{v:Value}{l:List KK}(h:Jz L w.heap v l):QG Tryz.prog 72 [v,.int .i64 2] w fun r w'=>Step [] w w' ∧
  ∃vo,r=.tuple #[vo,.int .i64 (JR l)]∧Qs 3 w.heap.size w' vo (if JR l=0 then unc l else []):=by
 refine QG.of_W Tryz.func72 rfl Tryz.ntmps72 Tryz.results72 (by simp) ?_
 refine Qc<|x Qe<|Qf ?_
 refine Qg<|Qc<|Qb<|xl rfl<|xf<|(UW h).mono ?_
 rintro r1 w1 ⟨rfl,hs1⟩
 refine Qf ?_
 refine Qc<|Qb<|x (Q6 rfl rfl)<|xe ?_
 refine Q3 rfl (fun h13=>?_) (fun h13=>?_)
 ·refine Qc<|Qb<|x Qe<|Qf ?_
  exact Ql ⟨[_,_],⟨rfl,rfl,trivial⟩,hs1,_,rfl,by rw[if_neg h13];exact QP _ _ _ _⟩
 have h14:JR l=0:=Decidable.not_not.1 h13
 refine Qi ?_
 refine Qc<|xl rfl<|ZS XN fun b15 w2 hs2 hb15 hm2=>xl rfl<|Z9 (k:=1) hm2 rfl rfl fun w3 hs3 hm3=>xl rfl<|Z9 (k:=2) hm3 rfl rfl fun w4 hs4 hm4 =>
  xl rfl<|Z9 (k:=3) hm4 rfl rfl fun w5 hs5 hm5=>xl rfl<|Z9 (k:=4) hm5 rfl rfl fun w6 hs6 hm6=>xl rfl<|Z9 (k:=5) hm6 rfl rfl fun w7 hs7 hm7=>xl rfl<|Z9 (k:=6) hm7 rfl rfl fun w8 hs8 hm8 =>
  Qb<|Qf ?_
 have hb15':w1.heap.size≤b15:=hb15
 have hs18:Step [] w1 w8:=(((((hs2.then1 hs3 hb15).then1 hs4 hb15).then1 hs5 hb15).then1 hs6 hb15).then1 hs7 hb15).then1 hs8 hb15
 refine Qc<|Qb<|Qb<|x (qY (k:=(2:Int)) hm8 rfl rfl rfl)<|Qb<|x (Qj rfl rfl)<|x (Qj rfl rfl)<|x Qe<|Qf ?_
 refine Qg<|Qc<|Qb<|x (Zo rfl)<|xe ?_
 refine ZZ rfl ?_
 refine Qi ?_
 have hs08:=hs1.trans hs18
 refine Qc<|Qb<|Qb<|xl rfl<|xf<|(Qdv Qbz (h.ext hs08)).mono ?_
 rintro r9 w9 ⟨hs9,ho9⟩
 refine x Qe<|Qf ?_
 refine Ql ⟨[_,_],⟨rfl,rfl,trivial⟩,hs08.trans hs9,_,by rw[h14];rfl,?_⟩
 rw[if_pos h14];exact Zc ho9 hs08.size
theorem jN (n:Int) (w:World):QG Tryz.prog 218 [.int .i64 n] w fun r w'=>r=.bool (grt n)∧w'=w:=by
 refine QG.of_W Tryz.func218 rfl Tryz.ntmps218 Tryz.results218 (by simp) ?_
 refine Qc<|Qf ?_
 refine QV (α:=Bool) [(2,8)] (fun z=>[(2,.bool z)]) (fun z w'=>w'=w∧z=grt n) (by rfl) ?_ ?_
 ·refine Qw<|Qb<|xb (QB rfl rfl) (fun h4=>?_) (fun h4=>?_)
  ·refine Qb<|xs rfl<|xs rfl<|x (Qn rfl)<|Qf ?_
   exact ⟨_,⟨rfl,trivial⟩,rfl,by unfold grt;rw[decide_eq_true h4];rfl⟩
  refine Qb<|Qb<|x (ZK rfl rfl)<|x (Qn rfl)<|Qf ?_
  exact ⟨_,⟨rfl,trivial⟩,rfl,by unfold grt;rw[decide_eq_false h4];rfl⟩
 rintro z g w1 ⟨rfl,rfl⟩
 exact Ql ⟨[_],⟨rfl,trivial⟩,rfl,rfl⟩
theorem Qbp {sz:LI}{ls:List (Int×Int)}{k:Nat}(h:k<ls.length):Ve sz (pv (ls.map (·.1)) k) (ls.drop k)=if (ls[k]'h).1<0∨(sz.length:Int)≤(ls[k]'h).1 then 2 else if yo (pv (ls.map (·.1)) k) (ls[k]'h).1=true then 5 else if (ls[k]'h).2<0∨cget sz (ls[k]'h).1.toNat≤(ls[k]'h).2 then 2 else Ve sz (pv (ls.map (·.1)) (k+1)) (ls.drop (k+1)):=by
 rw[Q5 h,Jd (by simpa using h),List.getElem_map];rfl
theorem Vf {w:World}{vs vx vk vl:Value}{sz:LI}{ls:List (Int×Int)}{nm:ByteArray}(hS:QL [] w.heap vs sz) (hl:P2s [] w.heap vl ls) :
  QG Tryz.prog 184 [.agg #[vs,vx,vk],.agg #[.string nm,vl]] w fun r w'=>r=.int .i64 (Js sz ls)∧Step [] w w':=by
 have hle:=hl.le
 have hsl:=hS.le
 refine QG.of_W Tryz.func184 rfl Tryz.ntmps184 Tryz.results184 (by simp) ?_
 refine Qc<|xl rfl<|QR (us:=[vs,vx,vk]) rfl fun b2 w1 hs1 hb2 hB2=>xl rfl<|QR (us:=[.string nm,vl]) rfl fun b3 w2 hs2 hb3 hB3=>Qf ?_
 have hW2:=hs1.trans hs2
 replace hB2:=hB2.ext hs2
 refine Qg<|Qc<|x (Qa rfl)<|x (Qd hB3 rfl rfl)<|x (Qr (hl.ext hW2) rfl)<|x (Zm rfl rfl)<|xe ?_
 refine Q3 rfl (fun h10=>?_) (fun h10=>?_)
 ·refine Qc<|Qf ?_
  exact Ql ⟨[_],⟨rfl,trivial⟩,by unfold Js;rw[if_pos (by have h11:(ls.length:Int)=0:=h10;omega)];rfl,hW2⟩
 have hne:ls.length≠0:=by have h11:¬(ls.length:Int)=0:=h10;omega
 have hun:Js sz ls=Ve sz none ls:=by unfold Js;rw[if_neg hne]
 rw[hun]
 refine Qi ?_
 refine Qg<|Qc<|x (Qa rfl)<|x (Qd hB3 rfl rfl)<|x (Qr (hl.ext hW2) rfl)<|Qb<|xe ?_
 refine Qh<|QA (α:=Nat) [(4,6),(14,61)] (fun z=>[(14,.int .i64 z)]) (fun z w'=>z≤ls.length∧Step [] w2 w'∧Ve sz (pv (ls.map (·.1)) z) (ls.drop z)=Ve sz none ls) (fun z=>ls.length - z) (by rfl) 0 ⟨rfl,trivial⟩
  ⟨Nat.zero_le _,Step.refl _ _,rfl⟩ ?_
 rintro k g w3 ⟨hk,hs3,hck⟩
 have hW3:=hW2.trans hs3
 have hB23:=hB2.ext hs3
 have hB33:=hB3.ext hs3
 have hl3:=hl.ext hW3
 have hS3:=hS.ext hW3
 refine Qc<|x (QB rfl rfl)<|xe ?_
 refine Qg<|QD rfl (fun h15=>?_) (fun h15=>?_)
 ·refine Qz ?_
  have hke:ls.length≤k:=by have h16:¬(k:Int)<(ls.length:Int):=h15;omega
  rw[List.drop_of_length_le hke] at hck
  refine Qc<|Qf ?_
  exact Ql ⟨[_],⟨rfl,trivial⟩,by rw[←hck];rfl,hW3⟩
 have hlt:k<ls.length:=by have h16:(k:Int)<(ls.length:Int):=h15;omega
 rw[Qbp hlt] at hck
 refine Qi ?_
 refine Qg<|Qh<|Qc<|Qb<|xig XM hl3 rfl rfl hlt fun a17 h17=>?_
 refine Zf (ls[k]'hlt) fun e he=>?_
 rw[he] at h17 hck
 refine x (QK h17 rfl rfl)<|xl rfl<|Qu (us:=[.int .i64 0,.int .i64 0]) rfl fun b6 w4 hs4 hb6 hB6=>x Qe<|xl rfl<|Qo (us:=Q8 e) hB6 rfl rfl rfl rfl ⟨rfl,rfl,trivial⟩ fun w5 hs5 hB6=>xe ?_
 have hs35:Step [] w3 w5:=hs4.then1 hs5 hb6
 have hW5:=hs3.trans hs35
 refine Qh<|QV (α:=Bool) [(19,30)] (fun z=>[(19,.bool z)]) (fun z w'=>w'=w5∧z=decide (e.1<0∨(sz.length:Int)≤e.1)) (by rfl) ?_ ?_
 ·refine Qw<|x (Qa rfl)<|x (Qd hB6 rfl rfl)<|xb (QB rfl rfl) (fun h22=>?_) (fun h22=>?_)
  ·refine Qb<|xs rfl<|xs rfl<|xs rfl<|xs rfl<|xs rfl<|xs rfl<|x (Qn rfl)<|Qf ?_
   exact ⟨_,⟨rfl,trivial⟩,rfl,by first | exact bT (by omega) | exact bF (by omega) | exact bD (by omega)⟩
  refine Qb<|x (Qa rfl)<|x (Qd hB6 rfl rfl)<|x (Qa rfl)<|x (Qd (hB23.ext hs35) rfl rfl)<|x (Qr (hS3.ext hs35) rfl)<|x (ZH rfl rfl) <|
   x (Qn rfl)<|Qf ?_
  exact ⟨_,⟨rfl,trivial⟩,rfl,by first | exact bT (by omega) | exact bF (by omega) | exact bD (by omega)⟩
 rintro z g w6 ⟨rfl,rfl⟩
 refine Q3 rfl (fun h19=>?_) (fun h19=>?_)
 ·rw[if_pos h19] at hck
  refine Qc<|Qf ?_
  exact Ql ⟨[_],⟨rfl,trivial⟩,by rw[←hck];rfl,hW2.trans hW5⟩
 rw[if_neg h19] at hck
 have he0:e.1=((e.1.toNat:Nat):Int):=by omega
 have hes:e.1.toNat<sz.length:=by omega
 refine QV (α:=Bool) [(31,45)] (fun z=>[(31,.bool z)]) (fun z w'=>Step [] w6 w'∧z=yo (pv (ls.map (·.1)) k) e.1) (by rfl) ?_ ?_
 ·refine QT (Step [] w6) [(0,true),(1,true),(2,true),(3,true),(4,true),(5,true),(6,true),(7,true),(8,true),(9,true),(10,true),(11,true),(12,true),(13,true),(14,true)] Tryz.mixed (by rfl) (by kernel_rfl) (Step.drew _ _) ?_
  refine p (fun _=>Qm)<|pb (fun _=>ZK rfl rfl) (fun h33=>?_) (fun h33=>?_)
  ·have hk0:k≠0:=by have h34:(0:Int)<(k:Int):=h33;omega
   have hk1:((k:Int) - 1)=((k - 1:Nat):Int):=by omega
   have hkl:k - 1<ls.length:=by omega
   refine p (fun _=>Qm)<|p (fun _=>Qa rfl)<|pq (fun _ hc=>Qd (hB6.ext hc) rfl rfl)<|p (fun _=>Qa rfl)<|pq (fun _ hc=>Qd ((hB33.ext hs35).ext hc) rfl rfl) <|
    p (fun _=>Qm)<|p (fun _=>XY rfl rfl ⟨by omega,by omega⟩)<|Lg.pig (g:=Q8) (i:=k - 1) rfl XM (hl3.ext hs35) rfl (congrArg (Value.int .i64) hk1) hkl fun a41 h41=>p (fun _=>Zd rfl) <|
    pq (fun _ hc=>Qv ((h41.fld 0 _ rfl).ext hc) rfl)<|p (fun _=>Jp rfl rfl)<|p (fun _=>Qn rfl)<|p (fun _=>Qe)<|pe ?_
   refine ⟨_,⟨rfl,trivial⟩,Step.drew _ _,?_⟩
   have:pv (ls.map (·.1)) k=some (ls[k - 1]'hkl).1:=by simp[pv,hk0,hkl]
   rw[this];rfl
  have hk0:k=0:=by have h34:¬(0:Int)<(k:Int):=h33;omega
  refine p (fun _=>Qm)<|ps<|ps<|ps<|ps<|ps<|ps<|ps<|ps<|ps<|ps<|p (fun _=>Qn rfl)<|p (fun _=>Qe)<|pe ?_
  exact ⟨false,⟨rfl,trivial⟩,Step.drew _ _,by simp[pv,hk0,yo]⟩
 rintro z g w7 ⟨hs7,rfl⟩
 have hW7:=hW5.trans hs7
 refine QW rfl (fun h31=>?_) (fun h31=>?_)
 ·rw[if_pos h31] at hck
  refine Qc<|Qf ?_
  exact Ql ⟨[_],⟨rfl,trivial⟩,by rw[←hck];rfl,hW2.trans hW7⟩
 rw[if_neg (by simp[h31])] at hck
 have hB67:=hB6.ext hs7
 refine QV (α:=Bool) [(46,60)] (fun z=>[(46,.bool z)]) (fun z w'=>Step [] w7 w'∧z=decide (e.2<0∨cget sz e.1.toNat≤e.2)) (by rfl) ?_ ?_
 ·refine QT (Step [] w7) [(0,true),(1,true),(2,true),(3,true),(4,true),(5,true),(6,true),(7,true),(8,true),(9,true),(10,true),(11,true),(12,true),(13,true),(14,true)] Tryz.mixed (by rfl) (by kernel_rfl) (Step.drew _ _) ?_
  refine p (fun _=>Qa rfl)<|pq (fun _ hc=>Qd (hB67.ext hc) rfl rfl)<|pb (fun _=>QB rfl rfl) (fun h49=>?_) (fun h49=>?_)
  ·refine p (fun _=>Qm)<|ps<|ps<|ps<|ps<|ps<|ps<|ps<|ps<|ps<|p (fun _=>Qn rfl)<|p (fun _=>Qe)<|pe ?_
   exact ⟨_,⟨rfl,trivial⟩,Step.drew _ _,by first | exact bT (by omega) | exact bF (by omega) | exact bD (by omega)⟩
  refine p (fun _=>Qm)<|p (fun _=>Qa rfl)<|pq (fun _ hc=>Qd (hB67.ext hc) rfl rfl)<|p (fun _=>Qa rfl)<|pq (fun _ hc=>Qd (((hB23.ext hs35).ext hs7).ext hc) rfl rfl) <|
   p (fun _=>Qa rfl)<|pq (fun _ hc=>Qd (hB67.ext hc) rfl rfl)<|pic (i:=e.1.toNat) rfl ((hS3.ext hs35).ext hs7) rfl (congrArg (Value.int .i64) he0) hes fun a57 h57=>pq (fun _ hc=>Qv (h57.ext hc) rfl) <|
   p (fun _=>ZH rfl rfl)<|p (fun _=>Qn rfl)<|p (fun _=>Qe)<|pe ?_
  exact ⟨_,⟨rfl,trivial⟩,Step.drew _ _,by first | exact bT (by omega) | exact bF (by omega) | exact bD (by omega)⟩
 rintro z g w8 ⟨hs8,rfl⟩
 have hW8:=hW7.trans hs8
 refine Q3 rfl (fun h46=>?_) (fun h46=>?_)
 ·rw[if_pos h46] at hck
  refine Qc<|Qf ?_
  exact Ql ⟨[_],⟨rfl,trivial⟩,by rw[←hck];rfl,hW2.trans hW8⟩
 rw[if_neg h46] at hck
 refine Qi ?_
 refine Qw<|x (Qy rfl rfl ⟨by omega,by omega⟩)<|Qb<|xe ?_
 exact ⟨k+1,by omega,⟨rfl,trivial⟩,hlt,hW8,hck⟩
theorem Qbm {sz:LI}{ls:List (Int×Int)}{k:Nat}(h:k<ls.length):Jr sz (pv (ls.map (·.1)) k) (ls.drop k)=if (ls[k]'h).1<0∨(sz.length:Int)≤(ls[k]'h).1 then 2 else if yo (pv (ls.map (·.1)) k) (ls[k]'h).1=true then 5 else if (ls[k]'h).2=0∨grt (ls[k]'h).2=true then 2 else Jr sz (pv (ls.map (·.1)) (k+1)) (ls.drop (k+1)):=by
 rw[Q5 h,Jd (by simpa using h),List.getElem_map];rfl
theorem KD {w:World}{vs vx vk vl:Value}{sz:LI}{ls:List (Int×Int)}{nm:ByteArray}{bd:Int}(hS:QL [] w.heap vs sz) (hl:P2s [] w.heap vl ls) :
  QG Tryz.prog 186 [.agg #[vs,vx,vk],.agg #[.string nm,vl,.int .i64 bd]] w fun r w'=>r=.int .i64 (Jt sz ⟨nm,ls,bd⟩)∧Step [] w w':=by
 have hle:=hl.le
 have hsl:=hS.le
 refine QG.of_W Tryz.func186 rfl Tryz.ntmps186 Tryz.results186 (by simp) ?_
 refine Qc<|xl rfl<|QR (us:=[vs,vx,vk]) rfl fun b2 w1 hs1 hb2 hB2=>xl rfl<|QR (us:=[.string nm,vl,.int .i64 bd]) rfl fun b3 w2 hs2 hb3 hB3=>Qf ?_
 have hW2:=hs1.trans hs2
 replace hB2:=hB2.ext hs2
 refine Qg<|Qc<|x (Qa rfl)<|x (Qd hB3 rfl rfl)<|x (Qr (hl.ext hW2) rfl)<|x (Zm rfl rfl)<|xe ?_
 refine Q3 rfl (fun h10=>?_) (fun h10=>?_)
 ·refine Qc<|Qf ?_
  exact Ql ⟨[_],⟨rfl,trivial⟩,by unfold Jt;rw[if_pos (by have h11:(ls.length:Int)=0:=h10;show ls.length=0;omega)];rfl,hW2⟩
 have hne:ls.length≠0:=by have h11:¬(ls.length:Int)=0:=h10;omega
 have hun:Jt sz ⟨nm,ls,bd⟩=if Jr sz none ls≠0 then Jr sz none ls else if grt bd=true then 2 else 0:=by unfold Jt;rw[if_neg hne]
 rw[hun]
 refine Qi ?_
 refine Qg<|Qc<|x (Qa rfl)<|x (Qd hB3 rfl rfl)<|x (Qr (hl.ext hW2) rfl)<|Qb<|xe ?_
 refine Qh<|QA (α:=Nat) [(4,6),(14,55)] (fun z=>[(14,.int .i64 z)]) (fun z w'=>z≤ls.length∧Step [] w2 w'∧Jr sz (pv (ls.map (·.1)) z) (ls.drop z)=Jr sz none ls) (fun z=>ls.length - z) (by rfl) 0 ⟨rfl,trivial⟩
  ⟨Nat.zero_le _,Step.refl _ _,rfl⟩ ?_
 rintro k g w3 ⟨hk,hs3,hck⟩
 have hW3:=hW2.trans hs3
 have hB23:=hB2.ext hs3
 have hB33:=hB3.ext hs3
 have hl3:=hl.ext hW3
 have hS3:=hS.ext hW3
 refine Qc<|x (QB rfl rfl)<|xe ?_
 refine Qg<|QD rfl (fun h15=>?_) (fun h15=>?_)
 ·refine Qz ?_
  have hke:ls.length≤k:=by have h16:¬(k:Int)<(ls.length:Int):=h15;omega
  rw[List.drop_of_length_le hke] at hck
  have hck0:Jr sz none ls=0:=hck.symm
  rw[hck0,if_neg (fun h=>h rfl)]
  refine Qg<|Qc<|x (Qa rfl)<|x (Qd hB33 rfl rfl)<|xl rfl<|xf<|(jN bd _).mono ?_
  rintro r4 w4 ⟨rfl,rfl⟩
  refine xe ?_
  refine QW rfl (fun h58=>?_) (fun h58=>?_)
  ·rw[if_pos h58]
   refine Qc<|Qf ?_
   exact Ql ⟨[_],⟨rfl,trivial⟩,rfl,hW3⟩
  rw[if_neg (by simp[h58])]
  refine Qi ?_
  refine Qc<|Qf ?_
  exact Ql ⟨[_],⟨rfl,trivial⟩,rfl,hW3⟩
 have hlt:k<ls.length:=by have h16:(k:Int)<(ls.length:Int):=h15;omega
 rw[Qbm hlt] at hck
 refine Qi ?_
 refine Qg<|Qh<|Qc<|Qb<|xig XM hl3 rfl rfl hlt fun a17 h17=>?_
 refine Zf (ls[k]'hlt) fun e he=>?_
 rw[he] at h17 hck
 refine x (QK h17 rfl rfl)<|xl rfl<|Qu (us:=[.int .i64 0,.int .i64 0]) rfl fun b6 w4 hs4 hb6 hB6=>x Qe<|xl rfl<|Qo (us:=Q8 e) hB6 rfl rfl rfl rfl ⟨rfl,rfl,trivial⟩ fun w5 hs5 hB6=>xe ?_
 have hs35:Step [] w3 w5:=hs4.then1 hs5 hb6
 have hW5:=hs3.trans hs35
 refine Qh<|QV (α:=Bool) [(19,30)] (fun z=>[(19,.bool z)]) (fun z w'=>w'=w5∧z=decide (e.1<0∨(sz.length:Int)≤e.1)) (by rfl) ?_ ?_
 ·refine Qw<|x (Qa rfl)<|x (Qd hB6 rfl rfl)<|xb (QB rfl rfl) (fun h22=>?_) (fun h22=>?_)
  ·refine Qb<|xs rfl<|xs rfl<|xs rfl<|xs rfl<|xs rfl<|xs rfl<|x (Qn rfl)<|Qf ?_
   exact ⟨_,⟨rfl,trivial⟩,rfl,by first | exact bT (by omega) | exact bF (by omega) | exact bD (by omega)⟩
  refine Qb<|x (Qa rfl)<|x (Qd hB6 rfl rfl)<|x (Qa rfl)<|x (Qd (hB23.ext hs35) rfl rfl)<|x (Qr (hS3.ext hs35) rfl)<|x (ZH rfl rfl) <|
   x (Qn rfl)<|Qf ?_
  exact ⟨_,⟨rfl,trivial⟩,rfl,by first | exact bT (by omega) | exact bF (by omega) | exact bD (by omega)⟩
 rintro z g w6 ⟨rfl,rfl⟩
 refine Q3 rfl (fun h19=>?_) (fun h19=>?_)
 ·rw[if_pos h19] at hck
  refine Qc<|Qf ?_
  exact Ql ⟨[_],⟨rfl,trivial⟩,by rw[←hck,if_pos (by decide)];rfl,hW2.trans hW5⟩
 rw[if_neg h19] at hck
 have he0:e.1=((e.1.toNat:Nat):Int):=by omega
 have hes:e.1.toNat<sz.length:=by omega
 refine QV (α:=Bool) [(31,45)] (fun z=>[(31,.bool z)]) (fun z w'=>Step [] w6 w'∧z=yo (pv (ls.map (·.1)) k) e.1) (by rfl) ?_ ?_
 ·refine QT (Step [] w6) [(0,true),(1,true),(2,true),(3,true),(4,true),(5,true),(6,true),(7,true),(8,true),(9,true),(10,true),(11,true),(12,true),(13,true),(14,true)] Tryz.mixed (by rfl) (by kernel_rfl) (Step.drew _ _) ?_
  refine p (fun _=>Qm)<|pb (fun _=>ZK rfl rfl) (fun h33=>?_) (fun h33=>?_)
  ·have hk0:k≠0:=by have h34:(0:Int)<(k:Int):=h33;omega
   have hk1:((k:Int) - 1)=((k - 1:Nat):Int):=by omega
   have hkl:k - 1<ls.length:=by omega
   refine p (fun _=>Qm)<|p (fun _=>Qa rfl)<|pq (fun _ hc=>Qd (hB6.ext hc) rfl rfl)<|p (fun _=>Qa rfl)<|pq (fun _ hc=>Qd ((hB33.ext hs35).ext hc) rfl rfl) <|
    p (fun _=>Qm)<|p (fun _=>XY rfl rfl ⟨by omega,by omega⟩)<|Lg.pig (g:=Q8) (i:=k - 1) rfl XM (hl3.ext hs35) rfl (congrArg (Value.int .i64) hk1) hkl fun a41 h41=>p (fun _=>Zd rfl) <|
    pq (fun _ hc=>Qv ((h41.fld 0 _ rfl).ext hc) rfl)<|p (fun _=>Jp rfl rfl)<|p (fun _=>Qn rfl)<|p (fun _=>Qe)<|pe ?_
   refine ⟨_,⟨rfl,trivial⟩,Step.drew _ _,?_⟩
   have:pv (ls.map (·.1)) k=some (ls[k - 1]'hkl).1:=by simp[pv,hk0,hkl]
   rw[this];rfl
  have hk0:k=0:=by have h34:¬(0:Int)<(k:Int):=h33;omega
  refine p (fun _=>Qm)<|ps<|ps<|ps<|ps<|ps<|ps<|ps<|ps<|ps<|ps<|p (fun _=>Qn rfl)<|p (fun _=>Qe)<|pe ?_
  exact ⟨false,⟨rfl,trivial⟩,Step.drew _ _,by simp[pv,hk0,yo]⟩
 rintro z g w7 ⟨hs7,rfl⟩
 have hW7:=hW5.trans hs7
 refine QW rfl (fun h31=>?_) (fun h31=>?_)
 ·rw[if_pos h31] at hck
  refine Qc<|Qf ?_
  exact Ql ⟨[_],⟨rfl,trivial⟩,by rw[←hck,if_pos (by decide)];rfl,hW2.trans hW7⟩
 rw[if_neg (by simp[h31])] at hck
 have hB67:=hB6.ext hs7
 refine QV (α:=Bool) [(46,54)] (fun z=>[(46,.bool z)]) (fun z w'=>Step [] w7 w'∧z=decide (e.2=0∨grt e.2=true)) (by rfl) ?_ ?_
 ·refine Qw<|x (Qa rfl)<|x (Qd hB67 rfl rfl)<|xb (Zm rfl rfl) (fun h49=>?_) (fun h49=>?_)
  ·refine Qb<|xs rfl<|xs rfl<|xs rfl<|x (Qn rfl)<|Qf ?_
   exact ⟨_,⟨rfl,trivial⟩,Step.refl _ _,bT (.inl h49)⟩
  refine Qb<|x (Qa rfl)<|x (Qd hB67 rfl rfl)<|xl rfl<|xf<|(jN e.2 _).mono ?_
  rintro r9 w9 ⟨rfl,rfl⟩
  refine x (Qn rfl)<|Qf ?_
  refine ⟨grt e.2,⟨rfl,trivial⟩,Step.refl _ _,?_⟩
  cases hg:grt e.2 with
  | true=>exact bT (.inr rfl)
  | false=>exact bF (fun h=>by rcases h with h | h;exact h49 h;cases h)
 rintro z g w8 ⟨hs8,rfl⟩
 have hW8:=hW7.trans hs8
 refine Q3 rfl (fun h46=>?_) (fun h46=>?_)
 ·rw[if_pos h46] at hck
  refine Qc<|Qf ?_
  exact Ql ⟨[_],⟨rfl,trivial⟩,by rw[←hck,if_pos (by decide)];rfl,hW2.trans hW8⟩
 rw[if_neg h46] at hck
 refine Qi ?_
 refine Qw<|x (Qy rfl rfl ⟨by omega,by omega⟩)<|Qb<|xe ?_
 exact ⟨k+1,by omega,⟨rfl,trivial⟩,hlt,hW8,hck⟩
end Go.Proofs.YtgmifemhkjdblaaGreatDoor
namespace Go.Lg
open Go.RowKit
def QaF:Fr→LN→LV→Fr
 | f,p::ps,v::vs=>QaF (upd f p v) ps vs
 | f,_,_=>f
theorem Vu {n:Nat}{ds:LN}:∀(ps:LN) (vs:LV) (a:Act) (f:Fr),Yt n ds a f→(∀p∈ps,p<n) →
  Yt n ds { tmps:=(ps.zip vs).foldl (fun t (x:Nat×Value)=>t.setIfInBounds x.1 x.2) a.tmps,defers:=a.defers } (QaF f ps vs)
 | [],_,a,f,h,_=>by cases h;exact ⟨by assumption,by assumption,by assumption⟩
 | p::ps,[],a,f,h,_=>by cases h;exact ⟨by assumption,by assumption,by assumption⟩
 | p::ps,v::vs,a,f,h,hp=>by
  have h2:=h.put (dst:=some p) (fun d e=>by cases e;exact hp p List.mem_cons_self) v
  exact Vu ps vs _ _ h2 (fun q hq=>hp q (List.mem_cons_of_mem _ hq))
def rdE {α:Type}(B:Nat) (L:LN) (I:List α→World→Prop) (X:Exit→List α→World→Prop) (xs:List α) (W:World):Exit→LN→Fr→World→Prop
 | .normal,_,_,W'=>Xj B L W W'∧I xs W'
 | .ret,_,_,W'=>Xj B L W W'∧X .ret xs W'
 | .exit i,_,_,W'=>Xj B L W W'∧X (.exit i) xs W'
 | _,_,_,_=>False
theorem Qgt {α:Type}{m:Nat}{P:Program}{n:Nat}{Q:Exit→LN→Fr→World→Prop}{ds:LN}{f:Fr}{w:World}{g:Operand}{ps:LN}{assign body:Code}(L:LN) (h1:1≤m)
  {gf:Nat} {fn:Func} [hF:Fu P gf fn] {capt:LV} (hg:ev f g=.func (.func gf) #[] capt.toArray) {encs:α→LV} {S Sp:List α→Prop} {N:Nat} (hp:∀p∈ps,p<n) (hlen:∀x,(encs x).length=ps.length)
  (hseq:SeqStopsK (fen none) (m - 1) P gf capt.toArray (fun x=>(encs x).toArray) (Lw w.heap.size L) S Sp N w)
  (I:List α→World→Prop) (hI:∀s,ZW w.heap.size (I s)) (X:Exit→List α→World→Prop) (hX:∀e s,ZW w.heap.size (X e s)) (h0:I [] w) (A:Fr→α→Fr→World→Prop) (hA:∀x f',ZW w.heap.size (A f x f'))
  (hassign:∀l pre x W,I pre W→WG (some l) (m - 1 - 1) P n assign (QaG (fun ds' f' W'=>ds'=[]∧Xj w.heap.size L W W'∧I pre W'∧A f x f' W') (fun _ _ _ _=>False)) [] (QaF f ps (encs x)) W)
  (hbody:∀l pre x f' W,I pre W→A f x f' W→pre.length<N→WG (some l) (m - 1 - 1) P n body (rdE w.heap.size L I X (pre++[x]) W) [] f' W)
  (hdone:∀D xs W,w.heap.size≤D→S xs→I xs W→W.heap[D]?=some (.deferred (some []))→Q .normal (D::ds) f W)
  (hstop:∀D e pre W,w.heap.size≤D→Sp pre→X e pre W→W.heap[D]?=some (.deferred (some []))→(e=.ret∨∃i,e=.exit i)→Q e (D::ds) f W) :
  WG none m P n (.rangeFunc g ps.toArray assign body) Q ds f w:=by
 unfold WG at hassign hbody ⊢
 intro a ha
 have eg:∀args w,(callFunc gf args).run P w=.ok (.enter gf args) w:=by
  intro args w
  have h1:¬fn.name = "runtime.NumGoroutine" := by simpa using hF.nm
  have h2:¬fn.body=none:=by have:=hF.b;intro e;rw[e] at this;cases this
  simp[callFunc,hF.f,h1,h2]
 have keep:∀{W W':World},Xj w.heap.size L W W'→KeepsFrom w.heap.size W W':=fun h=>⟨h.lw.size,fun k o _ hk ho=>h.other k o hk ho⟩
 refine wpIn_rangeFunc_ownH (F:=fen none) rfl h1 (gf:=gf) (lb:=capt.toArray) (by rw[ha.eval];exact hg) trivial eg hseq (fun h k=>h.trans k)
  (fun W l o o' hl ho _ _=>⟨rfl,rfl,rfl,by simp,fun k hk _=>World.putObj_heap_other (by omega)⟩) (Below.refl _ _) (fun x=>by simp[hlen x]) I
  (fun c pre W=>match c with | .ret=>X .ret pre W | .exit i=>X (.exit i) pre W | _=>False) (ZW.own hI) (fun c=>ZW.own fun s=>?_) h0
  (fun x a' W=>∃f',Yt n [] a' f'∧A f x f' W) (fun x a'=>ZW.own fun _=>ZW.ex fun f'=>ZW.and (ZW.pure _) (hA x f')) ?_ ?_ ?_ ?_
 ·cases c <;> first | exact hX _ s | exact ZW.pure _
 ·intro l pre x W K hi hK
  have hr:Yt n [] { tmps:=(ps.toArray.zip (encs x).toArray).foldl (fun t (p,v)=>t.setIfInBounds p v) a.tmps,defers:=[] } (QaF f ps (encs x)):=by
   have h2:Yt n [] { a with defers:=[] } f:=⟨ha.size,rfl,ha.get⟩
   have h3:=Vu ps (encs x) _ _ h2 hp
   have e:(ps.toArray.zip (encs x).toArray).foldl (fun t (p,v)=>t.setIfInBounds p v) a.tmps=(ps.zip (encs x)).foldl (fun t (x:Nat×Value)=>t.setIfInBounds x.1 x.2) a.tmps:=by simp
   rw[e];exact h3
  refine wpIn_mono (hassign l pre x W hi _ hr) ?_
  rintro e a' W' ⟨ds',f',h2,_,h3⟩
  cases e with
  | normal=>obtain ⟨rfl,h4,h5,h6⟩:=h3;exact hK a' W' (keep h4) h4.lw h5 ⟨f',h2,h6⟩
  | exit id=>exact h3.elim
  | goto l=>exact h3.elim
  | ret=>exact h3.elim
  | panic ch=>exact h3.elim
  | outgrown=>exact h3.elim
 ·rintro l pre x a' W _ _ hi ⟨f',h2,h3⟩ hlt
  refine wpIn_mono (hbody l pre x f' W hi h3 hlt a' h2) ?_
  rintro e a'' W' ⟨ds',f'',h4,_,h5⟩
  cases e with
  | normal=>exact ⟨keep h5.1,h5.1.lw,h5.2⟩
  | exit id=>exact ⟨keep h5.1,h5.2⟩
  | goto l=>exact h5.elim
  | ret=>exact ⟨keep h5.1,h5.2⟩
  | panic ch=>exact h5.elim
  | outgrown=>exact h5.elim
 ·intro D xs W hD hS hi hd
  exact ⟨D::ds,f,⟨ha.size,by rw[show coll (D::ds)={ target:=.collected D,args:=#[] }::coll ds from rfl,ha.defers],ha.get⟩,fun _ _=>rfl,hdone D xs W hD hS hi hd⟩
 ·intro D c pre W hD hS hx hd
  have hrel:Yt n (D::ds) { a with defers:={ target:=.collected D,args:=#[] }::a.defers } f:=⟨ha.size,by rw[show coll (D::ds)={ target:=.collected D,args:=#[] }::coll ds from rfl,ha.defers],ha.get⟩
  cases c with
  | ret=>exact wpIn_ret ⟨_,f,hrel,fun _ _=>rfl,hstop D .ret pre W hD hS hx hd (.inl rfl)⟩
  | exit i=>exact wpIn_exit ⟨_,f,hrel,fun _ _=>rfl,hstop D (.exit i) pre W hD hS hx hd (.inr ⟨i,rfl⟩)⟩
  | _=>exact hx.elim
end Go.Lg
namespace Go.Proofs.YtgmifemhkjdblaaGreatDoor
open Go.Lg
theorem Qfv {α:Type}(g:α→LV) (sz:Nat) (hg:∀x,(g x).length=sz):∀(l:List α) (k:Nat),(l.flatMap g).take (k*sz)=(l.take k).flatMap g
 | [],k=>by simp
 | e::l,0=>by simp
 | e::l,k+1=>by
  simp only[List.flatMap_cons,List.take_succ_cons,Nat.add_mul,Nat.one_mul]
  rw[Nat.add_comm,List.take_append,hg,show sz+k*sz - sz=k*sz by omega,Qfv g sz hg l k,List.take_of_length_le (by rw[hg];omega)]
theorem Qb8 {gf:Nat}{fn:Func}[Fu Tryz.prog gf fn] {capt:LV}{nms:List ByteArray}{s:ByteArray}(hnb:VZ s) {w:World}{N:Nat}
  (hseq:∀(w':World) (L:LN),Step [] w w'→(∀b∈L,w.heap.size≤b)→SeqStopsK (fen none) 9 Tryz.prog gf capt.toArray (fun x:{ x:ByteArray // x∈nms }=>[Value.string x.1].toArray) (Lw w'.heap.size L) (fun ys=>ys.map (·.1)=nms) (fun _=>True) N w') :
  QG Tryz.prog 183 [.string s,.func (.func gf) #[] capt.toArray] w fun r w'=>r=.int .i64 (VF nms s)∧Step [] w w':=by
 refine QG.of_G 10 Tryz.func183 rfl Tryz.ntmps183 Tryz.results183 (by simp) ?_
 refine QZ<|QH (by rfl) (by rfl) ?_
 refine xl rfl<|QR (us:=[.string s]) rfl fun b2 w1 hs1 hb2 hB2=>xl rfl<|Qu (us:=[.int .i64 0]) rfl fun b4 w2 hs2 hb4 hB4=>xe ?_
 have hW2:=hs1.trans hs2
 have hz1:=hs1.size
 have hl4:=hB4.lt
 have hB22:=hB2.ext hs2
 have hl2:=hB2.lt
 refine QZ<|QZ<|QH (by rfl) (by rfl) ?_
 refine x (Qd hB22 rfl rfl)<|xl rfl<|xf<|(VM s hnb _).mono ?_
 rintro r3 w3 ⟨rfl,rfl⟩
 refine x (Zo rfl)<|xe ?_
 refine JZ rfl (fun h8=>?_) (fun h8=>?_)
 ·have hn:Kz s=false:=by simpa using h8
  have hr:VF nms s=7:=by unfold VF;rw[if_pos hn]
  refine QZ<|QH (by rfl) (by rfl) ?_
  refine xl rfl<|QF (j:=0) (u:=.int .i64 7) hB4 rfl rfl (by decide) rfl fun w4 hs4 hB4'=>xe ?_
  refine JY ⟨fun _ h=>(by cases h),List.nodup_nil,[.int .i64 7],fun W' hW'=>⟨⟨⟨_,rfl,YA (At.one ((hB4'.ext hW').at (L:=[]) (by simp)))⟩,trivial⟩,by rw[hr];rfl,(hW2.then1 hs4 (by omega)).trans hW'⟩⟩
 have hn:¬Kz s=false:=by simpa using h8
 refine Z2 ?_
 refine QZ<|QZ<|QH (by rfl) (by rfl) ?_
 refine Qb<|xe ?_
 refine ZG<|Qgt (α:={ x:ByteArray // x∈nms }) (ps:=[10]) [b4] (by omega) (capt:=capt) rfl (encs:=fun x=>[.string x.1]) (by simp) (fun _=>rfl)
  (hseq w3 [b4] hW2 (fun b hb=>by simp at hb;omega))
  (fun pre W=>Step [b4] w3 W∧QS W.heap b2 9 [.string s]∧QS W.heap b4 41 [.int .i64 0]∧∀x∈pre,x.1≠s)
  (fun pre=>(ZW.step (Nat.le_refl _)).and (ZW.blk.and (ZW.blk.and (ZW.pure _))))
  (fun e pre W=>e=.ret∧Step [b4] w3 W∧QS W.heap b4 41 [.int .i64 8]∧s∈nms)
  (fun e pre=>(ZW.pure _).and ((ZW.step (Nat.le_refl _)).and (ZW.blk.and (ZW.pure _))))
  ⟨Step.refl _ _,hB22,hB4,fun x hx=>by cases hx⟩
  (fun f x f' W=>f'=upd (QaF f [10] [.string x.1]) 5 (.string x.1)) (fun x f'=>ZW.pure _) ?_ ?_ ?_ ?_
 ·rintro l pre x W ⟨h1,h2,h3,h4⟩
  refine QH (by rfl) (by rfl) ?_
  refine Lg.Qf ?_
  exact ⟨rfl,Xj.refl _ _ _,⟨h1,h2,h3,h4⟩,rfl⟩
 ·rintro l pre x f' W ⟨h1,h2,h3,h4⟩ rfl _
  refine ZG<|QZ<|QH (by rfl) (by rfl) ?_
  refine Lg.Qb<|Lg.x (Qd h2 rfl rfl)<|Lg.x (yb rfl rfl)<|xe ?_
  refine QjY rfl (fun h13=>?_) (fun h13=>?_)
  ·refine QZ<|QH (by rfl) (by rfl) ?_
   refine xl rfl<|QF (j:=0) (u:=.int .i64 8) h3 rfl rfl (by decide) rfl fun w4 hs4 hB4'=>xe ?_
   refine JY ?_
   exact ⟨Xj.blk hs4 h1.size h3 (.inl (by simp)),rfl,h1.trans' hs4,hB4',by rw[←h13];exact x.2⟩
  ·refine Z2 ?_
   refine ⟨Xj.refl _ _ _,h1,h2,h3,fun y hy=>?_⟩
   rcases List.mem_append.1 hy with hy | hy
   ·exact h4 y hy
   ·simp only[List.mem_singleton] at hy;subst hy;exact h13
 ·rintro D xs W hD hxs ⟨h1,h2,h3,h4⟩ hdD
  have hr:VF nms s=0:=by
   unfold VF
   rw[if_neg hn,if_neg]
   intro hm
   rw[←hxs] at hm
   obtain ⟨y,hy,e⟩:=List.mem_map.1 hm
   exact h4 y hy e
  refine QZ<|QH (by rfl) (by rfl) ?_
  refine xl rfl<|QF (j:=0) (u:=.int .i64 0) h3 rfl rfl (by decide) rfl fun w4 hs4 hB4'=>xe ?_
  have hne:D≠b4:=by omega
  have hD4:w4.heap[D]?=some (.deferred (some [])):=by rw[hs4.block D (Array.getElem?_eq_some_iff.1 hdD).1 (by simpa using hne)];exact hdD
  refine JY ⟨fun E hE=>by simp only[List.mem_singleton] at hE;subst hE;exact hD4,by simp,[.int .i64 0],fun W' hW'=>?_⟩
  refine ⟨⟨⟨_,rfl,YA (At.one ((hB4'.step hW' (by simpa using hne.symm)).at (L:=[]) (by simp)))⟩,trivial⟩,by rw[hr];rfl,?_⟩
  exact ((hW2.then h1 (fun b hb=>.inr (by simp at hb;omega))).then1 hs4 (by omega)).then hW' (fun b hb=>.inr (by simp at hb;have:=hW2.size;omega))
 ·rintro D e pre W hD _ ⟨rfl,h1,h3,h4⟩ hdD _
  have hr:VF nms s=8:=by unfold VF;rw[if_neg hn,if_pos h4]
  have hne:D≠b4:=by omega
  refine ⟨fun E hE=>by simp only[List.mem_singleton] at hE;subst hE;exact hdD,by simp,[.int .i64 8],fun W' hW'=>?_⟩
  refine ⟨⟨⟨_,rfl,YA (At.one ((h3.step hW' (by simpa using hne.symm)).at (L:=[]) (by simp)))⟩,trivial⟩,by rw[hr];rfl,?_⟩
  exact (hW2.then h1 (fun b hb=>.inr (by simp at hb;omega))).then hW' (fun b hb=>.inr (by simp at hb;have:=hW2.size;omega))
end Go.Proofs.YtgmifemhkjdblaaGreatDoor
namespace Go.Lg
theorem Xx.pre3 {P:Program}{m:Nat}{ops:List Oper}{K:Fr→World→Prop}{o1 o2 o3:Oper}{l2:List Oper}{f:Fr}{w:World}(h:XL P ops (fun f w=>Xx P m ops K l2 f w) [o1,o2,o3] f w):Xx P m ops K (o1::o2::o3::l2) f w:=Xx.pre [o1,o2,o3] f w h
end Go.Lg
namespace Go.Proofs.YtgmifemhkjdblaaGreatDoor
open Go.Lg
theorem QfI {L:LN}{w:World}{b1 b2 i m:Nat}{vs vx vk:Value}{qs:List XV}{nms:List ByteArray}(hB1:QS w.heap b1 252 [vs,vx,vk]) (hB2:QS w.heap b2 3 [.int .i64 i]) (hX:Ud L w.heap vx qs) (hi:i≤qs.length) (hn:nms=(qs.take i).map (·.nm)) :
  SeqStopsK (fen none) m Tryz.prog 182 [.pointer (some ⟨b1,0,none⟩),.pointer (some ⟨b2,0,none⟩)].toArray (fun x:{ x:ByteArray // x∈nms }=>[Value.string x.1].toArray) (Lw w.heap.size L)
   (fun ys=>ys.map (·.1)=nms) (fun _=>True) (nms.length+1) w:=by
 intro l J Jx W hbel hJ hJx hY h0
 have hwW:Step [] w W:=Step.of_below hbel
 have ab:∀{ys:List { x:ByteArray // x∈nms }} {W1 W2:World},J ys W1→Step [] W1 W2→J ys W2:=fun {ys W1 W2} hj hst=>hJ ys W1 W2 none hj ⟨hst.os,hst.tape,hst.output,hst.size,fun k hk _=>hst.block k hk (by simp)⟩ (fun r e=>by cases e)
 have hle:=hX.arr.le
 have hnl:nms.length=i:=by rw[hn];simp;omega
 have key:QG Tryz.prog 182 [.func (.yield l) #[] #[],.pointer (some ⟨b1,0,none⟩),.pointer (some ⟨b2,0,none⟩)] W (fun _ W'=>(∃ys,ys.map (·.1)=nms∧J ys W')∨(∃pre,True∧Jx pre W')):=by
  refine QG.of_G m Tryz.func182 rfl Tryz.ntmps182 Tryz.results182 (by simp) ?_
  have hB1':=hB1.ext hwW
  have hB2':=hB2.ext hwW
  refine QZ<|QH (by rfl) (by rfl) ?_
  refine x (Qa rfl)<|x (Qd hB1' rfl rfl)<|x (Qd hB2' rfl rfl)<|Qkl hX.arr rfl rfl hi fun v9 hA9=>x (Qr hA9 rfl)<|Qb<|xe ?_
  have hel:(qs.take i).length=i:=by simp;omega
  have hS:Zs L w.heap v9 (qs.take i).length 2 ((qs.take i).flatMap Zu):=by
   rw[hel,←Qfv Zu 2 JA];exact hA9
  refine ZG<|KJ (α:=Nat×List { x:ByteArray // x∈nms }) [(5,5),(11,20)] (fun z=>[(11,.int .i64 z.1)]) (fun z ds W'=>ds=[]∧z.1≤i∧Step L w W'∧z.2.map (·.1)=nms.take z.1∧J z.2 W') (fun z=>i - z.1) (by rfl) (0,[]) ⟨rfl,trivial⟩
   ⟨rfl,Nat.zero_le _,hwW.any,rfl,h0⟩ ?_
  rintro ⟨k,ys⟩ g ds w1 ⟨rfl,hk,hs1,hys,hJ1⟩
  simp only[] at hk hys hJ1
  refine QZ<|QH (by rfl) (by rfl) ?_
  refine x (QB rfl rfl)<|xe ?_
  refine QZ<|qm rfl (fun h12=>?_) (fun h12=>?_)
  ·refine Jl ?_
   have hke:i≤k:=by have h13:¬(k:Int)<(i:Int):=h12;omega
   rw[List.take_of_length_le (by omega)] at hys
   exact ⟨fun _ h=>(by cases h),List.nodup_nil,[],fun W' hW'=>⟨trivial,.inl ⟨ys,hys,ab hJ1 hW'⟩⟩⟩
  refine Z2 ?_
  have hlt:k<i:=by have h13:(k:Int)<(i:Int):=h12;omega
  have hkq:k<(qs.take i).length:=by omega
  have hkn:k<nms.length:=by omega
  have htk:nms.take (k+1)=nms.take k++[nms[k]'hkn]:=List.take_succ_eq_append_getElem hkn
  have hyl:ys.length=k:=by have:=congrArg List.length hys;rw[List.length_map,List.length_take] at this;omega
  have hnq:nms[k]'hkn=((qs.take i)[k]'hkq).nm:=by subst hn;simp
  have hme:=List.getElem_mem hkn
  rw[hnq] at htk hme
  refine QZ<|ZG<|QZ<|QH (by rfl) (by rfl) ?_
  refine xig JA (i:=k) (hS.st hs1) rfl rfl hkq fun a13 h13=>?_
  refine Zf ((qs.take i)[k]'hkq) fun q hq=>?_
  rw[hq] at h13 htk hme
  have h1c:=(hX.each q (List.mem_of_mem_take (by rw[←hq];exact List.getElem_mem hkq))).one
  refine x (QK h13 rfl rfl)<|xl rfl<|Qu (us:=[.string .empty,nS]) rfl fun b5 w2 hs2 hb5 hB5=>xl rfl<|Qo (us:=Zu q) hB5 rfl rfl rfl rfl ⟨rfl,h1c,trivial⟩ fun w3 hs3 hB5'=>xe ?_
  have hs13:Step [] w1 w3:=hs2.then1 hs3 hb5
  refine QZ<|Ke (by rfl) ?_
  refine Xx.pre3 ?_
  refine Qb<|x (Qa rfl)<|x (Qd hB5' rfl rfl)<|xe ?_
  refine xy (l:=l) rfl (hY ys ⟨q.nm,hme⟩ w3 (ab hJ1 hs13) (by omega)) fun en W3 hen=>Or.elim hen (fun h1=>⟨.bool true,h1.1,?_⟩) (fun h1=>⟨.bool false,h1.1,?_⟩)
  ·refine Xx.of_XL<|x (Zo rfl)<|xe ?_
   refine Kf rfl<|Z2 ?_
   refine QH (by rfl) (by rfl) ?_
   refine x (Qy rfl rfl ⟨by omega,by omega⟩)<|Qb<|xe ?_
   exact ⟨(k+1,ys++[⟨q.nm,hme⟩]),by simp only[];omega,⟨rfl,trivial⟩,rfl,hlt,(hs1.trans hs13).lw h1.2.2,by rw[htk,List.map_append,hys];rfl,h1.2.1⟩
  ·refine Xx.of_XL<|x (Zo rfl)<|xe ?_
   refine yO rfl ?_
   refine JY ⟨fun _ h=>(by cases h),List.nodup_nil,[],fun W' hW'=>⟨trivial,.inr ⟨ys++[⟨q.nm,hme⟩],trivial,?_⟩⟩⟩
   exact hJx _ W3 W' none h1.2 ⟨hW'.os,hW'.tape,hW'.output,hW'.size,fun k hk _=>hW'.block k hk (by simp)⟩ (fun r e=>by cases e)
 refine (callsIn_wide (n:=m)).2 ?_
 have ea:(#[.func (.yield l) #[] #[]]++[.pointer (some ⟨b1,0,none⟩),.pointer (some ⟨b2,0,none⟩)].toArray:Array Value)=[.func (.yield l) #[] #[],.pointer (some ⟨b1,0,none⟩),.pointer (some ⟨b2,0,none⟩)].toArray:=by simp
 rw[ea]
 unfold QG at key
 refine Calls.mono key fun e w' he=>?_
 cases e with
 | returned v=>exact ⟨⟨v,rfl⟩,he⟩
 | panicked c=>exact he.elim
 | outgrown=>exact he.elim
theorem QfT {L:LN}{w:World}{b1 b2 i m:Nat}{vs vx vk:Value}{qs:List KV}{nms:List ByteArray}(hB1:QS w.heap b1 252 [vs,vx,vk]) (hB2:QS w.heap b2 3 [.int .i64 i]) (hX:zM L w.heap vk qs) (hi:i≤qs.length) (hn:nms=(qs.take i).map (·.nm)) :
  SeqStopsK (fen none) m Tryz.prog 185 [.pointer (some ⟨b1,0,none⟩),.pointer (some ⟨b2,0,none⟩)].toArray (fun x:{ x:ByteArray // x∈nms }=>[Value.string x.1].toArray) (Lw w.heap.size L)
   (fun ys=>ys.map (·.1)=nms) (fun _=>True) (nms.length+1) w:=by
 intro l J Jx W hbel hJ hJx hY h0
 have hwW:Step [] w W:=Step.of_below hbel
 have ab:∀{ys:List { x:ByteArray // x∈nms }} {W1 W2:World},J ys W1→Step [] W1 W2→J ys W2:=fun {ys W1 W2} hj hst=>hJ ys W1 W2 none hj ⟨hst.os,hst.tape,hst.output,hst.size,fun k hk _=>hst.block k hk (by simp)⟩ (fun r e=>by cases e)
 have hle:=hX.arr.le
 have hnl:nms.length=i:=by rw[hn];simp;omega
 have key:QG Tryz.prog 185 [.func (.yield l) #[] #[],.pointer (some ⟨b1,0,none⟩),.pointer (some ⟨b2,0,none⟩)] W (fun _ W'=>(∃ys,ys.map (·.1)=nms∧J ys W')∨(∃pre,True∧Jx pre W')):=by
  refine QG.of_G m Tryz.func185 rfl Tryz.ntmps185 Tryz.results185 (by simp) ?_
  have hB1':=hB1.ext hwW
  have hB2':=hB2.ext hwW
  refine QZ<|QH (by rfl) (by rfl) ?_
  refine x (Qa rfl)<|x (Qd hB1' rfl rfl)<|x (Qd hB2' rfl rfl)<|Qkl hX.arr rfl rfl hi fun v9 hA9=>x (Qr hA9 rfl)<|Qb<|xe ?_
  have hel:(qs.take i).length=i:=by simp;omega
  have hS:Zs L w.heap v9 (qs.take i).length 3 ((qs.take i).flatMap Zx):=by
   rw[hel,←Qfv Zx 3 Jg];exact hA9
  refine ZG<|KJ (α:=Nat×List { x:ByteArray // x∈nms }) [(5,5),(11,20)] (fun z=>[(11,.int .i64 z.1)]) (fun z ds W'=>ds=[]∧z.1≤i∧Step L w W'∧z.2.map (·.1)=nms.take z.1∧J z.2 W') (fun z=>i - z.1) (by rfl) (0,[]) ⟨rfl,trivial⟩
   ⟨rfl,Nat.zero_le _,hwW.any,rfl,h0⟩ ?_
  rintro ⟨k,ys⟩ g ds w1 ⟨rfl,hk,hs1,hys,hJ1⟩
  simp only[] at hk hys hJ1
  refine QZ<|QH (by rfl) (by rfl) ?_
  refine x (QB rfl rfl)<|xe ?_
  refine QZ<|qm rfl (fun h12=>?_) (fun h12=>?_)
  ·refine Jl ?_
   have hke:i≤k:=by have h13:¬(k:Int)<(i:Int):=h12;omega
   rw[List.take_of_length_le (by omega)] at hys
   exact ⟨fun _ h=>(by cases h),List.nodup_nil,[],fun W' hW'=>⟨trivial,.inl ⟨ys,hys,ab hJ1 hW'⟩⟩⟩
  refine Z2 ?_
  have hlt:k<i:=by have h13:(k:Int)<(i:Int):=h12;omega
  have hkq:k<(qs.take i).length:=by omega
  have hkn:k<nms.length:=by omega
  have htk:nms.take (k+1)=nms.take k++[nms[k]'hkn]:=List.take_succ_eq_append_getElem hkn
  have hyl:ys.length=k:=by have:=congrArg List.length hys;rw[List.length_map,List.length_take] at this;omega
  have hnq:nms[k]'hkn=((qs.take i)[k]'hkq).nm:=by subst hn;simp
  have hme:=List.getElem_mem hkn
  rw[hnq] at htk hme
  refine QZ<|ZG<|QZ<|QH (by rfl) (by rfl) ?_
  refine xig Jg (i:=k) (hS.st hs1) rfl rfl hkq fun a13 h13=>?_
  refine Zf ((qs.take i)[k]'hkq) fun q hq=>?_
  rw[hq] at h13 htk hme
  have h1c:=(hX.each q (List.mem_of_mem_take (by rw[←hq];exact List.getElem_mem hkq))).one
  refine x (QK h13 rfl rfl)<|xl rfl<|Qu (us:=[.string .empty,nS,.int .i64 0]) rfl fun b5 w2 hs2 hb5 hB5=>xl rfl<|Qo (us:=Zx q) hB5 rfl rfl rfl rfl ⟨rfl,h1c,rfl,trivial⟩ fun w3 hs3 hB5'=>xe ?_
  have hs13:Step [] w1 w3:=hs2.then1 hs3 hb5
  refine QZ<|Ke (by rfl) ?_
  refine Xx.pre3 ?_
  refine Qb<|x (Qa rfl)<|x (Qd hB5' rfl rfl)<|xe ?_
  refine xy (l:=l) rfl (hY ys ⟨q.nm,hme⟩ w3 (ab hJ1 hs13) (by omega)) fun en W3 hen=>Or.elim hen (fun h1=>⟨.bool true,h1.1,?_⟩) (fun h1=>⟨.bool false,h1.1,?_⟩)
  ·refine Xx.of_XL<|x (Zo rfl)<|xe ?_
   refine Kf rfl<|Z2 ?_
   refine QH (by rfl) (by rfl) ?_
   refine x (Qy rfl rfl ⟨by omega,by omega⟩)<|Qb<|xe ?_
   exact ⟨(k+1,ys++[⟨q.nm,hme⟩]),by simp only[];omega,⟨rfl,trivial⟩,rfl,hlt,(hs1.trans hs13).lw h1.2.2,by rw[htk,List.map_append,hys];rfl,h1.2.1⟩
  ·refine Xx.of_XL<|x (Zo rfl)<|xe ?_
   refine yO rfl ?_
   refine JY ⟨fun _ h=>(by cases h),List.nodup_nil,[],fun W' hW'=>⟨trivial,.inr ⟨ys++[⟨q.nm,hme⟩],trivial,?_⟩⟩⟩
   exact hJx _ W3 W' none h1.2 ⟨hW'.os,hW'.tape,hW'.output,hW'.size,fun k hk _=>hW'.block k hk (by simp)⟩ (fun r e=>by cases e)
 refine (callsIn_wide (n:=m)).2 ?_
 have ea:(#[.func (.yield l) #[] #[]]++[.pointer (some ⟨b1,0,none⟩),.pointer (some ⟨b2,0,none⟩)].toArray:Array Value)=[.func (.yield l) #[] #[],.pointer (some ⟨b1,0,none⟩),.pointer (some ⟨b2,0,none⟩)].toArray:=by simp
 rw[ea]
 unfold QG at key
 refine Calls.mono key fun e w' he=>?_
 cases e with
 | returned v=>exact ⟨⟨v,rfl⟩,he⟩
 | panicked c=>exact he.elim
 | outgrown=>exact he.elim
set_option maxHeartbeats 4000000 in
theorem UV {w:World}{vs vx vk:Value}{sz:LI}{qx:List XV}{ks:List KV}(hS:QL [] w.heap vs sz) (hX:Ud [] w.heap vx qx) (hK:zM [] w.heap vk ks) :
  QG Tryz.prog 145 [.agg #[vs,vx,vk]] w fun r w'=>r=.int .i64 (YE sz (qx.map (·.x)) (ks.map (·.k)))∧Step [] w w':=by
 have hsl:=hS.le
 have hxl:=hX.arr.le
 have hkl:=hK.arr.le
 refine QG.of_W Tryz.func145 rfl Tryz.ntmps145 Tryz.results145 (by simp) ?_
 refine Qc<|xl rfl<|QR (us:=[vs,vx,vk]) rfl fun b1 w1 hs1 hb1 hB1=>Qf ?_
 refine Qg<|Qc<|x (Qa rfl)<|x (Qd hB1 rfl rfl)<|x (Qr (hS.ext hs1) rfl)<|x (ZK rfl rfl)<|xe ?_
 refine Q3 rfl (fun h18=>?_) (fun h18=>?_)
 ·refine Qc<|Qf ?_
  exact Ql ⟨[_],⟨rfl,trivial⟩,by unfold YE;rw[if_pos (by have h19:(8:Int)<(sz.length:Int):=h18;omega)];rfl,hs1⟩
 have hn8:¬8<sz.length:=by have h19:¬(8:Int)<(sz.length:Int):=h18;omega
 refine Qi ?_
 refine Qg<|Qc<|x (Qa rfl)<|x (Qd hB1 rfl rfl)<|x (Qr (hS.ext hs1) rfl)<|Qb<|xe ?_
 refine Qh<|QA (α:=Nat) [(2,2),(4,4),(22,32)] (fun z=>[(22,.int .i64 z)]) (fun z w'=>z≤sz.length∧w'=w1∧(sz.drop z).any Ko=sz.any Ko) (fun z=>sz.length - z) (by rfl) 0 ⟨rfl,trivial⟩
  ⟨Nat.zero_le _,rfl,rfl⟩ ?_
 rintro k g w2 ⟨hk,rfl,hany⟩
 refine Qc<|x (QB rfl rfl)<|xe ?_
 refine Qg<|QD rfl (fun h23=>?_) (fun h23=>?_)
 ·refine Qz ?_
  have hke:sz.length≤k:=by have h24:¬(k:Int)<(sz.length:Int):=h23;omega
  rw[List.drop_of_length_le hke] at hany
  have hany0:¬sz.any Ko=true:=by rw[←hany];decide
  refine Qg<|QV (α:=Bool) [(33,42)] (fun z=>[(42,.bool z)]) (fun z w'=>w'=w2∧z=decide (32<qx.length∨32<ks.length)) (by rfl) ?_ ?_
  ·refine Qw<|x (Qa rfl)<|x (Qd hB1 rfl rfl)<|x (Qr (hX.ext hs1).arr rfl)<|xb (ZK rfl rfl) (fun h36=>?_) (fun h36=>?_)
   ·refine Qb<|xs rfl<|xs rfl<|xs rfl<|xs rfl<|x (Qn rfl)<|xe ?_
    exact ⟨_,⟨rfl,trivial⟩,rfl,by first | exact bT (by omega) | exact bF (by omega) | exact bD (by omega)⟩
   refine Qb<|x (Qa rfl)<|x (Qd hB1 rfl rfl)<|x (Qr (hK.ext hs1).arr rfl)<|x (ZK rfl rfl)<|x (Qn rfl)<|xe ?_
   exact ⟨_,⟨rfl,trivial⟩,rfl,by first | exact bT (by omega) | exact bF (by omega) | exact bD (by omega)⟩
  rintro z g w3 ⟨rfl,rfl⟩
  refine Q3 rfl (fun h42=>?_) (fun h42=>?_)
  ·refine Qc<|Qf ?_
   exact Ql ⟨[_],⟨rfl,trivial⟩,by unfold YE;rw[if_neg hn8,if_neg hany0,if_pos (by simpa using h42)];rfl,hs1⟩
  have hn32:¬(32<(qx.map (·.x)).length∨32<(ks.map (·.k)).length):=by simpa using h42
  have hcx:Yo sz [] (qx.map (·.x))≠0→YE sz (qx.map (·.x)) (ks.map (·.k))=Yo sz [] (qx.map (·.x)):=fun h=>by
   unfold YE;rw[if_neg hn8,if_neg hany0,if_neg hn32,if_pos h]
  have hcc0:Yo sz [] (qx.map (·.x))=0→YE sz (qx.map (·.x)) (ks.map (·.k))=YO sz [] (ks.map (·.k)):=fun h=>by
   unfold YE;rw[if_neg hn8,if_neg hany0,if_neg hn32,if_neg (by rw[h];exact fun h=>h rfl)]
  refine Qi ?_
  refine Qg<|Qc<|x (Qa rfl)<|x (Qd (hB1.ext (Step.refl [] w3)) rfl rfl)<|x (Qr ((hX.ext hs1).ext (Step.refl [] w3)).arr rfl)<|Qb<|xe ?_
  refine Qh<|QA (α:=Nat) [(2,2),(5,9),(46,65)] (fun z=>[(46,.int .i64 z)]) (fun z w'=>z≤qx.length∧Step [] w3 w'∧Yo sz ((qx.take z).map (·.nm)) ((qx.drop z).map (·.x))=Yo sz [] (qx.map (·.x))) (fun z=>qx.length - z) (by rfl) 0 ⟨rfl,trivial⟩
   ⟨Nat.zero_le _,(Step.refl [] w3),rfl⟩ ?_
  rintro k g wA ⟨hk,hsA,hck⟩
  refine Qc<|x (QB rfl rfl)<|xe ?_
  refine Qg<|QD rfl (fun hc1=>?_) (fun hc1=>?_)
  ·refine Qz ?_
   have hke:qx.length≤k:=by have h16:¬(k:Int)<(qx.length:Int):=hc1;omega
   rw[List.drop_of_length_le hke] at hck
   have hz1:Yo sz [] (qx.map (·.x))=0:=hck.symm
   have hcc:=hcc0 hz1
   refine Qg<|Qc<|x (Qa rfl)<|x (Qd (hB1.ext hsA) rfl rfl)<|x (Qr ((hK.ext hs1).ext hsA).arr rfl)<|Qb<|xe ?_
   refine Qh<|QA (α:=Nat) [(2,2),(10,14),(69,88)] (fun z=>[(69,.int .i64 z)]) (fun z w'=>z≤ks.length∧Step [] w3 w'∧YO sz ((ks.take z).map (·.nm)) ((ks.drop z).map (·.k))=YO sz [] (ks.map (·.k))) (fun z=>ks.length - z) (by rfl) 0 ⟨rfl,trivial⟩
    ⟨Nat.zero_le _,hsA,rfl⟩ ?_
   rintro k g wA ⟨hk,hsA,hck⟩
   refine Qc<|x (QB rfl rfl)<|xe ?_
   refine Qg<|QD rfl (fun hc1=>?_) (fun hc1=>?_)
   ·refine Qz ?_
    have hke:ks.length≤k:=by have h16:¬(k:Int)<(ks.length:Int):=hc1;omega
    rw[List.drop_of_length_le hke] at hck
    have hz2:YO sz [] (ks.map (·.k))=0:=hck.symm
    refine Qc<|Qf ?_
    exact Ql ⟨[_],⟨rfl,trivial⟩,by rw[hcc,hz2];rfl,hs1.trans hsA⟩
   have hlt:k<ks.length:=by have h16:(k:Int)<(ks.length:Int):=hc1;omega
   have htk:(ks.take (k+1)).map (·.nm)=(ks.take k).map (·.nm)++[(ks[k]'hlt).nm]:=by rw[List.take_succ_eq_append_getElem hlt,List.map_append];rfl
   rw[Q5 hlt,List.map_cons] at hck
   have hmem:=List.getElem_mem hlt
   have hXA:=(hK.ext hs1).ext hsA
   have hB1A:=hB1.ext hsA
   refine Qi ?_
   refine Qg<|Qh<|Qc<|Qb<|xig Jg hXA.arr rfl rfl hlt fun aA hA=>?_
   refine Zf (ks[k]'hlt) fun q hq=>?_
   rw[hq] at hA hck htk hmem
   have hqA:=hXA.each q hmem
   refine x (QK hA rfl rfl)<|xl rfl<|Qu (us:=[.int .i64 0]) rfl fun b5 w3 hs3 hb5 hB5=>xl rfl<|Qu (us:=[.string .empty,nS,.int .i64 0]) rfl fun b6 w4 hs4 hb6 hB6 =>
    xl rfl<|QF (j:=0) (u:=.int .i64 k) (hB5.ext hs4) rfl rfl (by decide) rfl fun w5 hs5 hB5'=>xl rfl<|Qo (us:=Zx q) (hB6.step hs5 (by have:=hB5.lt;simp;omega)) rfl rfl rfl rfl ⟨rfl,hqA.one,rfl,trivial⟩ fun w6 hs6 hB6'=>xe ?_
   have hb56:b5<b6:=by have:=hB5.lt;omega
   have hsA6:Step [] wA w6:=((hs3.trans hs4).then1 hs5 hb5).then1 hs6 (by have:=hs3.size;omega)
   have hB56:QS w6.heap b5 3 [.int .i64 k]:=hB5'.step hs6 (by simp;omega)
   have hB16:=hB1A.ext hsA6
   have hX6:=hXA.ext hsA6
   refine Qc<|x Zj<|Qf ?_
   refine Qg<|Qc<|x (Qa rfl)<|x (Qd hB6' rfl rfl)<|Qb<|xl rfl<|xf<|(Qb8 (nms:=(ks.take k).map (·.nm)) (capt:=[.pointer (some ⟨b1,0,none⟩),.pointer (some ⟨b5,0,none⟩)]) (hXA.nm q hmem) (fun w' L hw' hL=>QfT (hB16.ext hw') (hB56.ext hw') ((hX6.up (fun b hb=>.inr (hL b hb))).ext hw') hk rfl)).mono ?_
   rintro r7 w7 ⟨rfl,hs7⟩
   refine Qf ?_
   have hsA7:=hsA6.trans hs7
   refine Qc<|Qb<|x (Q6 rfl rfl)<|xe ?_
   refine Q3 rfl (fun hc2=>?_) (fun hc2=>?_)
   ·have e1:YO sz [] (ks.map (·.k))=VF ((ks.take k).map (·.nm)) q.nm:=by rw[←hck];exact if_pos hc2
    refine Qc<|Qb<|Qf ?_
    exact Ql ⟨[_],⟨rfl,trivial⟩,by rw[hcc,e1];rfl,hs1.trans (hsA.trans hsA7)⟩
   have hck1:(if Jt sz q.k≠0 then Jt sz q.k else YO sz ((ks.take k).map (·.nm)++[q.nm]) ((ks.drop (k+1)).map (·.k)))=YO sz [] (ks.map (·.k)):=by rw[←hck];exact (if_neg hc2).symm
   refine Qi ?_
   have hB17:=hB16.ext hs7
   have hB67:=hB6'.ext hs7
   refine Qc<|x (Qq hB17 rfl rfl)<|x (Qq hB67 rfl rfl)<|xl rfl<|xf<|(KD (((hS.ext hs1).ext hsA).ext hsA7) (hqA.ext hsA7)).mono ?_
   rintro r8 w8 ⟨rfl,hs8⟩
   refine Qf ?_
   have hsA8:=hsA7.trans hs8
   refine Qc<|Qb<|x (Q6 rfl rfl)<|xe ?_
   refine Q3 rfl (fun hc3=>?_) (fun hc3=>?_)
   ·have e1:YO sz [] (ks.map (·.k))=Jt sz q.k:=by rw[←hck1];exact if_pos hc3
    have hc3':Jt sz q.k≠0:=hc3
    refine Qc<|Qb<|Qf ?_
    exact Ql ⟨[_],⟨rfl,trivial⟩,by rw[hcc,e1];rfl,hs1.trans (hsA.trans hsA8)⟩
   have hck2:YO sz ((ks.take k).map (·.nm)++[q.nm]) ((ks.drop (k+1)).map (·.k))=YO sz [] (ks.map (·.k)):=by rw[←hck1];exact (if_neg hc3).symm
   refine Qi ?_
   refine Qw<|x (Qy rfl rfl ⟨by omega,by omega⟩)<|Qb<|xe ?_
   exact ⟨k+1,by omega,⟨rfl,trivial⟩,hlt,hsA.trans hsA8,by rw[htk];exact hck2⟩
  have hlt:k<qx.length:=by have h16:(k:Int)<(qx.length:Int):=hc1;omega
  have htk:(qx.take (k+1)).map (·.nm)=(qx.take k).map (·.nm)++[(qx[k]'hlt).nm]:=by rw[List.take_succ_eq_append_getElem hlt,List.map_append];rfl
  rw[Q5 hlt,List.map_cons] at hck
  have hmem:=List.getElem_mem hlt
  have hXA:=(hX.ext hs1).ext hsA
  have hB1A:=hB1.ext hsA
  refine Qi ?_
  refine Qg<|Qh<|Qc<|Qb<|xig JA hXA.arr rfl rfl hlt fun aA hA=>?_
  refine Zf (qx[k]'hlt) fun q hq=>?_
  rw[hq] at hA hck htk hmem
  have hqA:=hXA.each q hmem
  refine x (QK hA rfl rfl)<|xl rfl<|Qu (us:=[.int .i64 0]) rfl fun b5 w3 hs3 hb5 hB5=>xl rfl<|Qu (us:=[.string .empty,nS]) rfl fun b6 w4 hs4 hb6 hB6 =>
   xl rfl<|QF (j:=0) (u:=.int .i64 k) (hB5.ext hs4) rfl rfl (by decide) rfl fun w5 hs5 hB5'=>xl rfl<|Qo (us:=Zu q) (hB6.step hs5 (by have:=hB5.lt;simp;omega)) rfl rfl rfl rfl ⟨rfl,hqA.one,trivial⟩ fun w6 hs6 hB6'=>xe ?_
  have hb56:b5<b6:=by have:=hB5.lt;omega
  have hsA6:Step [] wA w6:=((hs3.trans hs4).then1 hs5 hb5).then1 hs6 (by have:=hs3.size;omega)
  have hB56:QS w6.heap b5 3 [.int .i64 k]:=hB5'.step hs6 (by simp;omega)
  have hB16:=hB1A.ext hsA6
  have hX6:=hXA.ext hsA6
  refine Qc<|x Zj<|Qf ?_
  refine Qg<|Qc<|x (Qa rfl)<|x (Qd hB6' rfl rfl)<|Qb<|xl rfl<|xf<|(Qb8 (nms:=(qx.take k).map (·.nm)) (capt:=[.pointer (some ⟨b1,0,none⟩),.pointer (some ⟨b5,0,none⟩)]) (hXA.nm q hmem) (fun w' L hw' hL=>QfI (hB16.ext hw') (hB56.ext hw') ((hX6.up (fun b hb=>.inr (hL b hb))).ext hw') hk rfl)).mono ?_
  rintro r7 w7 ⟨rfl,hs7⟩
  refine Qf ?_
  have hsA7:=hsA6.trans hs7
  refine Qc<|Qb<|x (Q6 rfl rfl)<|xe ?_
  refine Q3 rfl (fun hc2=>?_) (fun hc2=>?_)
  ·have e1:Yo sz [] (qx.map (·.x))=VF ((qx.take k).map (·.nm)) q.nm:=by rw[←hck];exact if_pos hc2
   refine Qc<|Qb<|Qf ?_
   exact Ql ⟨[_],⟨rfl,trivial⟩,by rw[hcx (by rw[e1];exact hc2),e1];rfl,hs1.trans (hsA.trans hsA7)⟩
  have hck1:(if Js sz q.ls≠0 then Js sz q.ls else Yo sz ((qx.take k).map (·.nm)++[q.nm]) ((qx.drop (k+1)).map (·.x)))=Yo sz [] (qx.map (·.x)):=by rw[←hck];exact (if_neg hc2).symm
  refine Qi ?_
  have hB17:=hB16.ext hs7
  have hB67:=hB6'.ext hs7
  refine Qc<|x (Qq hB17 rfl rfl)<|x (Qq hB67 rfl rfl)<|xl rfl<|xf<|(Vf (((hS.ext hs1).ext hsA).ext hsA7) (hqA.ext hsA7)).mono ?_
  rintro r8 w8 ⟨rfl,hs8⟩
  refine Qf ?_
  have hsA8:=hsA7.trans hs8
  refine Qc<|Qb<|x (Q6 rfl rfl)<|xe ?_
  refine Q3 rfl (fun hc3=>?_) (fun hc3=>?_)
  ·have e1:Yo sz [] (qx.map (·.x))=Js sz q.ls:=by rw[←hck1];exact if_pos hc3
   have hc3':Js sz q.ls≠0:=hc3
   refine Qc<|Qb<|Qf ?_
   exact Ql ⟨[_],⟨rfl,trivial⟩,by rw[hcx (by rw[e1];exact hc3'),e1];rfl,hs1.trans (hsA.trans hsA8)⟩
  have hck2:Yo sz ((qx.take k).map (·.nm)++[q.nm]) ((qx.drop (k+1)).map (·.x))=Yo sz [] (qx.map (·.x)):=by rw[←hck1];exact (if_neg hc3).symm
  refine Qi ?_
  refine Qw<|x (Qy rfl rfl ⟨by omega,by omega⟩)<|Qb<|xe ?_
  exact ⟨k+1,by omega,⟨rfl,trivial⟩,hlt,hsA.trans hsA8,by rw[htk];exact hck2⟩
 have hlt:k<sz.length:=by have h24:(k:Int)<(sz.length:Int):=h23;omega
 rw[Q5 hlt,List.any_cons] at hany
 refine Qi ?_
 refine Qg<|Qh<|Qc<|xii (hS.ext hs1) rfl rfl hlt fun a24 h24=>?_
 refine Zf (sz[k]'hlt) fun n hn=>?_
 rw[hn] at h24 hany
 refine x (Qv h24 rfl)<|Qf ?_
 refine QV (α:=Bool) [(26,31)] (fun z=>[(31,.bool z)]) (fun z w'=>w'=w2∧z=Ko n) (by rfl) ?_ ?_
 ·refine Qw<|Qb<|xb (QB rfl rfl) (fun h27=>?_) (fun h27=>?_)
  ·refine Qb<|xs rfl<|xs rfl<|x (Qn rfl)<|xe ?_
   exact ⟨_,⟨rfl,trivial⟩,rfl,by unfold Ko;rw[decide_eq_true h27];rfl⟩
  refine Qb<|Qb<|x (ZK rfl rfl)<|x (Qn rfl)<|xe ?_
  exact ⟨_,⟨rfl,trivial⟩,rfl,by unfold Ko;rw[decide_eq_false h27];rfl⟩
 rintro z g w3 ⟨rfl,rfl⟩
 refine QW rfl (fun h31=>?_) (fun h31=>?_)
 ·refine Qc<|Qf ?_
  exact Ql ⟨[_],⟨rfl,trivial⟩,by unfold YE;rw[if_neg hn8,if_pos (by rw[←hany,h31];rfl)];rfl,hs1⟩
 rw[h31,Bool.false_or] at hany
 refine Qi ?_
 refine Qw<|x (Qy rfl rfl ⟨by omega,by omega⟩)<|Qb<|xe ?_
 exact ⟨k+1,by omega,⟨rfl,trivial⟩,hlt,rfl,hany⟩
theorem Z0 {α:Type}(q:α→Bool) (i:Nat) (a:α) (l:List α):fix q i (a::l)=if q a=true then (i:Int) else fix q (i+1) l:=rfl
theorem Qbf {α:Type}(q:α→Bool):∀(l:List α) (i:Nat),fix q i l=-1∨((i:Int)≤fix q i l∧fix q i l<(i:Int)+l.length)
 | [],i=>.inl rfl
 | a::l,i=>by
  rw[Z0]
  split
  ·right;simp only[List.length_cons];omega
  ·rcases Qbf q l (i+1) with h | h
   ·exact .inl h
   ·right;simp only[List.length_cons];omega
theorem yA {α:Type}(q:α→Bool):∀(l:List α) (i:Nat),decide (0≤fix q i l)=l.any q
 | [],i=>rfl
 | a::l,i=>by
  rw[Z0,List.any_cons]
  cases h:q a with
  | true=>rw[if_pos rfl];simp
  | false=>rw[if_neg (by decide),yA q l (i+1)];rfl
theorem US {α:Type}(q:α→Bool) (m:List α):∀(l:List α) (i:Nat),fix q i (l++m)=if 0≤fix q i l then fix q i l else fix q (i+l.length) m
 | [],i=>by
  show fix q i m=if (0:Int)≤-1 then (-1) else fix q i m
  rw[if_neg (by decide)]
 | a::l,i=>by
  rw[List.cons_append,Z0,Z0]
  by_cases h:q a=true
  ·rw[if_pos h,if_pos h,if_pos (by omega)]
  ·rw[if_neg h,if_neg h,US q m l (i+1),List.length_cons]
   rw[show i+1+l.length=i+(l.length+1) by omega]
theorem zr {α:Type}(q:α→Bool) (d:Nat):∀(l:List α) (i:Nat),fix q (i+d) l=if 0≤fix q i l then fix q i l+d else -1
 | [],i=>rfl
 | a::l,i=>by
  rw[Z0,Z0]
  by_cases h:q a=true
  ·rw[if_pos h,if_pos h,if_pos (by omega)];omega
  ·rw[if_neg h,if_neg h,show i+d+1=(i+1)+d by omega,zr q d l (i+1)]
theorem J8 {α β:Type}(q:β→Bool) (g:α→β):∀(l:List α) (i:Nat),fix q i (l.map g)=fix (fun a=>q (g a)) i l
 | [],i=>rfl
 | a::l,i=>by rw[List.map_cons,Z0,Z0,J8 q g l (i+1)]
theorem Qdo {α:Type}{q q':α→Bool}:∀{l:List α}{i:Nat},(∀a∈l,q a=q' a)→fix q i l=fix q' i l
 | [],i,_=>rfl
 | a::l,i,h=>by rw[Z0,Z0,h a List.mem_cons_self,Qdo (fun b hb=>h b (List.mem_cons_of_mem _ hb))]
theorem Qjh {gp:Nat}{fn:Func}[Fu Tryz.prog gp fn] {cap:LV}{q:(Int×Int)→Bool}{L:LN}{w:World}{v:Value}{l:List (Int×Int)}(h:Zs L w.heap v l.length 2 (l.flatMap Q8))
  (hk:∀e∈l,∀(w1:World),Step [] w w1→QG Tryz.prog gp ([.agg (Q8 e).toArray]++cap) w1 fun r w'=>r=.bool (q e)∧Step [] w1 w') :
  QG Tryz.prog 258 [v,.func (.func gp) #[] cap.toArray] w fun r w'=>r=.int .i64 (fix q 0 l)∧Step [] w w':=by
 have hle:=h.le
 refine QG.of_W Tryz.func258 rfl Tryz.ntmps258 Tryz.results258 (by simp) ?_
 refine Qc<|Qf ?_
 refine Qg<|Qc<|Qb<|x (Qr h rfl)<|Qb<|xe ?_
 refine Qh<|QA (α:=Nat) [(4,5),(8,18)] (fun z=>[(8,.int .i64 z)]) (fun z w'=>z≤l.length∧Step [] w w'∧fix q z (l.drop z)=fix q 0 l) (fun z=>l.length - z) (by rfl) 0 ⟨rfl,trivial⟩
  ⟨Nat.zero_le _,Step.refl _ _,rfl⟩ ?_
 rintro k g w1 ⟨hk1,hs1,hfx⟩
 refine Qc<|x (QB rfl rfl)<|xe ?_
 refine Qg<|QD rfl (fun h9=>?_) (fun h9=>?_)
 ·refine Qz ?_
  have hke:l.length≤k:=by have h10:¬(k:Int)<(l.length:Int):=h9;omega
  rw[List.drop_of_length_le hke] at hfx
  refine Qc<|Qf ?_
  exact Ql ⟨[_],⟨rfl,trivial⟩,by rw[←hfx];rfl,hs1⟩
 have hlt:k<l.length:=by have h10:(k:Int)<(l.length:Int):=h9;omega
 rw[Q5 hlt,Z0] at hfx
 have hmem:=List.getElem_mem hlt
 refine Qi ?_
 refine Qg<|Qh<|Qc<|Qb<|Qf ?_
 refine Qc<|Qb<|Qb<|Qb<|xig XM (h.ext hs1) rfl rfl hlt fun a14 h14=>?_
 refine Zf (l[k]'hlt) fun e he=>?_
 rw[he] at h14 hfx hmem
 refine x (QK h14 rfl rfl)<|xl rfl<|xc (first:=[]) (capt:=cap) rfl<|(hk e hmem w1 hs1).mono ?_
 rintro r2 w2 ⟨rfl,hs2⟩
 refine xe ?_
 refine QW rfl (fun h16=>?_) (fun h16=>?_)
 ·rw[if_pos h16] at hfx
  refine Qc<|Qb<|Qf ?_
  exact Ql ⟨[_],⟨rfl,trivial⟩,by rw[←hfx];rfl,hs1.trans hs2⟩
 rw[if_neg (by rw[h16];decide)] at hfx
 refine Qi ?_
 refine Qw<|x (Qy rfl rfl ⟨by omega,by omega⟩)<|Qb<|xe ?_
 exact ⟨k+1,by omega,⟨rfl,trivial⟩,hlt,hs1.trans hs2,hfx⟩
theorem QjH {gp:Nat}{fn:Func}[Fu Tryz.prog gp fn] {cap:LV}{q:(Int×Int)→Bool}{L:LN}{w:World}{v:Value}{l:List (Int×Int)}(h:Zs L w.heap v l.length 2 (l.flatMap Q8))
  (hk:∀e∈l,∀(w1:World),Step [] w w1→QG Tryz.prog gp ([.agg (Q8 e).toArray]++cap) w1 fun r w'=>r=.bool (q e)∧Step [] w1 w') :
  QG Tryz.prog 251 [v,.func (.func gp) #[] cap.toArray] w fun r w'=>r=.bool (l.any q)∧Step [] w w':=by
 refine QG.of_W Tryz.func251 rfl Tryz.ntmps251 Tryz.results251 (by simp) ?_
 refine Qc<|Qf ?_
 refine Qc<|Qb<|Qb<|xl rfl<|xf<|(Qjh h hk).mono ?_
 rintro r1 w1 ⟨rfl,hs1⟩
 refine x (ZH rfl rfl)<|Qf ?_
 exact Ql ⟨[_],⟨rfl,trivial⟩,congrArg Value.bool (yA q l 0),hs1⟩
theorem U3 (sz:LI):∀(ls:List (Int×Int)) (pr:Option Int),Ve sz pr ls=0→(∀p∈ls,0≤p.1∧p.1<(sz.length:Int))∧Yu (ls.map (·.1))∧∀y,pr=some y→∀p∈ls,y<p.1
 | [],pr,_=>⟨fun p hp=>(by cases hp),List.Pairwise.nil,fun y _ p hp=>(by cases hp)⟩
 | l::ls,pr,h=>by
  unfold Ve at h
  split at h
  ·cases h
  ·rename_i h1
   split at h
   ·cases h
   ·rename_i h2
    split at h
    ·cases h
    ·obtain ⟨h4,h5,h6⟩:=U3 sz ls (some l.1) h
     have h7:=h6 l.1 rfl
     refine ⟨fun p hp=>?_,List.pairwise_cons.2 ⟨fun x hx=>?_,h5⟩,fun y hy p hp=>?_⟩
     ·rcases List.mem_cons.1 hp with rfl | hp
      ·omega
      ·exact h4 p hp
     ·obtain ⟨p,hp,rfl⟩:=List.mem_map.1 hx
      exact h7 p hp
     ·subst hy
      have h8:¬l.1≤y:=fun e=>h2 (decide_eq_true e)
      rcases List.mem_cons.1 hp with rfl | hp
      ·omega
      ·have:=h7 p hp;omega
theorem U1 (sz:LI):∀(ls:List (Int×Int)) (pr:Option Int),Jr sz pr ls=0→(∀p∈ls,0≤p.1∧p.1<(sz.length:Int)∧-65536≤p.2∧p.2≤65536)∧Yu (ls.map (·.1))∧∀y,pr=some y→∀p∈ls,y<p.1
 | [],pr,_=>⟨fun p hp=>(by cases hp),List.Pairwise.nil,fun y _ p hp=>(by cases hp)⟩
 | l::ls,pr,h=>by
  unfold Jr at h
  split at h
  ·cases h
  ·rename_i h1
   split at h
   ·cases h
   ·rename_i h2
    split at h
    ·cases h
    ·rename_i h3
     obtain ⟨h4,h5,h6⟩:=U1 sz ls (some l.1) h
     have h7:=h6 l.1 rfl
     have h9:grt l.2=false:=by cases hg:grt l.2 with | true=>exact absurd (.inr hg) h3 | false=>rfl
     unfold grt at h9
     simp only[Bool.or_eq_false_iff,decide_eq_false_iff_not] at h9
     refine ⟨fun p hp=>?_,List.pairwise_cons.2 ⟨fun x hx=>?_,h5⟩,fun y hy p hp=>?_⟩
     ·rcases List.mem_cons.1 hp with rfl | hp
      ·omega
      ·exact h4 p hp
     ·obtain ⟨p,hp,rfl⟩:=List.mem_map.1 hx
      exact h7 p hp
     ·subst hy
      have h8:¬l.1≤y:=fun e=>h2 (decide_eq_true e)
      rcases List.mem_cons.1 hp with rfl | hp
      ·omega
      ·have:=h7 p hp;omega
theorem VP (sz:LI):∀(l:List Exc) (sn:List ByteArray),Yo sz sn l=0→∀x∈l,Js sz x.ls=0
 | [],_,_,x,hx=>by cases hx
 | a::l,sn,h,x,hx=>by
  unfold Yo at h
  split at h
  ·rename_i h1;exact absurd h h1
  ·split at h
   ·rename_i h1;exact absurd h h1
   ·rename_i h1
    rcases List.mem_cons.1 hx with rfl | hx
    ·exact Decidable.not_not.1 h1
    ·exact VP sz l _ h x hx
theorem VQ (sz:LI):∀(l:List XS) (sn:List ByteArray),YO sz sn l=0→∀x∈l,Jt sz x=0
 | [],_,_,x,hx=>by cases hx
 | a::l,sn,h,x,hx=>by
  unfold YO at h
  split at h
  ·rename_i h1;exact absurd h h1
  ·split at h
   ·rename_i h1;exact absurd h h1
   ·rename_i h1
    rcases List.mem_cons.1 hx with rfl | hx
    ·exact Decidable.not_not.1 h1
    ·exact VQ sz l _ h x hx
structure QlP (sz:LI) (ex:List Exc) (cs:List XS):Prop where
 s8:sz.length≤8
 s:∀n∈sz,1≤n∧n≤4096
 xl:ex.length≤32
 kl:cs.length≤32
 x:∀e∈ex,∀p∈e.ls,0≤p.1∧p.1<(sz.length:Int)
 k:∀e∈cs,(∀p∈e.ts,0≤p.1∧p.1<(sz.length:Int)∧-65536≤p.2∧p.2≤65536)∧e.ts.length≤8
theorem VR {sz:LI}{ex:List Exc}{cs:List XS}(h:YE sz ex cs=0):QlP sz ex cs:=by
 unfold YE at h
 split at h
 ·cases h
 ·rename_i h8
  split at h
  ·cases h
  ·rename_i hs
   split at h
   ·cases h
   ·rename_i h32
    split at h
    ·rename_i hx;exact absurd h hx
    ·rename_i hx
     have hx0:=Decidable.not_not.1 hx
     refine ⟨by omega,fun n hn=>?_,by omega,by omega,fun e he p hp=>?_,fun e he=>?_⟩
     ·have h1:Ko n=false:=by
       cases hb:Ko n with
       | false=>rfl
       | true=>exact absurd (List.any_eq_true.2 ⟨n,hn,hb⟩) hs
      unfold Ko at h1
      simp only[Bool.or_eq_false_iff,decide_eq_false_iff_not] at h1
      omega
     ·have h1:=VP sz ex [] hx0 e he
      unfold Js at h1
      split at h1
      ·cases h1
      ·exact (U3 sz e.ls none h1).1 p hp
     ·have h1:=VQ sz cs [] h e he
      unfold Jt at h1
      split at h1
      ·cases h1
      ·split at h1
       ·rename_i h2;exact absurd h1 h2
       ·rename_i h2
        obtain ⟨h3,h4,_⟩:=U1 sz e.ts none (Decidable.not_not.1 h2)
        refine ⟨h3,?_⟩
        have:=Go.Proofs.YtgmifemhkjdblaaGreatDoor.pig sz.length (e.ts.map (·.1)) (List.Pairwise.imp (fun {a b} (h:a<b)=>(by omega:a≠b)) h4) (fun x hx=>by
         obtain ⟨p,hp,rfl⟩:=List.mem_map.1 hx
         exact ⟨(h3 p hp).1,(h3 p hp).2.1⟩)
        rw[List.length_map] at this
        omega
def Qit (sz t:LI):Prop:=t.length=sz.length∧∀i,i<t.length→0≤cget t i∧cget t i<cget sz i
theorem QcW (t:LI) (p:Int×Int) (l:List (Int×Int)) (s:Int):(l++[p]).foldl (fun s p=>s+p.2*t.getD p.1.toNat 0) s=l.foldl (fun s p=>s+p.2*t.getD p.1.toNat 0) s+p.2*cget t p.1.toNat:=by
 rw[List.foldl_append];rfl
theorem QdV {w:World}{vl vt:Value}{nm:ByteArray}{ts:List (Int×Int)}{bd:Int}{t:LI}(hl:P2s [] w.heap vl ts) (ht:QL [] w.heap vt t)
  (hts:∀p∈ts,0≤p.1∧p.1<(t.length:Int)∧-65536≤p.2∧p.2≤65536) (h8:ts.length≤8) (htb:∀i,i<t.length→0≤cget t i∧cget t i≤4096) :
  QG Tryz.prog 254 [.agg #[.string nm,vl,.int .i64 bd],vt] w fun r w'=>r=.int .i64 (Qkr t ⟨nm,ts,bd⟩)∧Step [] w w':=by
 refine QG.of_W Tryz.func254 rfl Tryz.ntmps254 Tryz.results254 (by simp) ?_
 refine Qc<|xl rfl<|QR (us:=[.string nm,vl,.int .i64 bd]) rfl fun b2 w1 hs1 hb2 hB2=>Qf ?_
 refine Qc<|Qf ?_
 refine Qg<|Qc<|x (Qa rfl)<|x (Qd hB2 rfl rfl)<|x (Qr (hl.ext hs1) rfl)<|Qb<|xe ?_
 refine Qh<|QA (α:=Nat×Int) [(5,5),(7,7),(11,25)] (fun z=>[(5,.int .i64 z.2),(11,.int .i64 z.1)]) (fun z w'=>z.1≤ts.length∧Step [] w w'∧z.2=(ts.take z.1).foldl (fun s p=>s+p.2*t.getD p.1.toNat 0) 0∧-(268435456*(z.1:Int))≤z.2∧z.2≤268435456*(z.1:Int)) (fun z=>ts.length - z.1) (by rfl) (0,0) ⟨rfl,rfl,trivial⟩
  ⟨Nat.zero_le _,hs1,rfl,by simp only[];omega,by simp only[];omega⟩ ?_
 rintro ⟨k,s⟩ g w2 ⟨hk,hs2,hsum,hlo,hhi⟩
 simp only[] at hk hsum hlo hhi
 refine Qc<|x (QB rfl rfl)<|xe ?_
 refine Qg<|QD rfl (fun h12=>?_) (fun h12=>?_)
 ·refine Qz ?_
  have hke:ts.length≤k:=by have h13:¬(k:Int)<(ts.length:Int):=h12;omega
  rw[List.take_of_length_le hke] at hsum
  refine Qc<|Qb<|Qf ?_
  exact Ql ⟨[_],⟨rfl,trivial⟩,by rw[hsum];rfl,hs2⟩
 have hlt:k<ts.length:=by have h13:(k:Int)<(ts.length:Int):=h12;omega
 have hmem:=hts _ (List.getElem_mem hlt)
 have htk:ts.take (k+1)=ts.take k++[ts[k]'hlt]:=List.take_succ_eq_append_getElem hlt
 refine Qi ?_
 refine Qg<|Qh<|Qc<|xig XM (hl.ext hs2) rfl rfl hlt fun a13 h13=>?_
 refine Zf (ts[k]'hlt) fun e he=>?_
 rw[he] at h13 hmem htk
 refine x (QK h13 rfl rfl)<|xl rfl<|Qu (us:=[.int .i64 0,.int .i64 0]) rfl fun b7 w3 hs3 hb7 hB7=>xl rfl<|Qo (us:=Q8 e) hB7 rfl rfl rfl rfl ⟨rfl,rfl,trivial⟩ fun w4 hs4 hB7=>xe ?_
 have hs24:Step [] w2 w4:=hs3.then1 hs4 hb7
 have hW4:=hs2.trans hs24
 have he0:e.1=((e.1.toNat:Nat):Int):=by omega
 have het:e.1.toNat<t.length:=by omega
 have hcb:=htb _ het
 have hmul:-268435456≤e.2*cget t e.1.toNat∧e.2*cget t e.1.toNat≤268435456:=by
  have h1:(-65536)*cget t e.1.toNat≤e.2*cget t e.1.toNat:=Int.mul_le_mul_of_nonneg_right hmem.2.2.1 hcb.1
  have h2:e.2*cget t e.1.toNat≤65536*cget t e.1.toNat:=Int.mul_le_mul_of_nonneg_right hmem.2.2.2 hcb.1
  omega
 refine Zf (e.2*cget t e.1.toNat) fun pr hpr=>?_
 refine QT (Step [] w4) [(0,true),(1,true),(2,true),(3,true),(4,true),(5,true),(6,true),(7,true),(8,true),(9,true),(10,true)] Tryz.mixed (by rfl) (by kernel_rfl) (Step.drew _ _) ?_
 refine p (fun _=>Qm)<|p (fun _=>Qa rfl)<|pq (fun _ hc=>Qd (hB7.ext hc) rfl rfl)<|p (fun _=>Qm)<|p (fun _=>Qa rfl) <|
  pq (fun _ hc=>Qd (hB7.ext hc) rfl rfl)<|pic (i:=e.1.toNat) rfl (ht.ext hW4) rfl (congrArg (Value.int .i64) he0) het fun a21 h21=>pq (fun _ hc=>Qv (h21.ext hc) rfl) <|
  p (fun _=>Qkx rfl rfl ⟨by omega,by omega⟩)<|p (fun _=>Qy rfl rfl ⟨by omega,by omega⟩)<|p (fun _=>Qe)<|pe ?_
 refine Qw<|x (Qy rfl rfl ⟨by omega,by omega⟩)<|Qb<|xe ?_
 refine ⟨(k+1,s+e.2*cget t e.1.toNat),by simp only[];omega,⟨rfl,rfl,trivial⟩,hlt,hW4.trans (Step.drew _ _),?_,by simp only[];omega,by simp only[];omega⟩
 simp only[]
 rw[htk,QcW,←hsum]
theorem QfH {w:World}{bt:Nat}{vt:Value}{t:LI}(hB:QS w.heap bt 40 [vt]) (ht:QL [] w.heap vt t) (e:Int×Int) (he:0≤e.1∧e.1<(t.length:Int)) :
  QG Tryz.prog 252 ([.agg (Q8 e).toArray]++[.pointer (some ⟨bt,0,none⟩)]) w fun r w'=>r=.bool (!decide (t.getD e.1.toNat 0=e.2))∧Step [] w w':=by
 refine QG.of_W Tryz.func252 rfl Tryz.ntmps252 Tryz.results252 (by simp) ?_
 refine Qc<|xl rfl<|QR (us:=Q8 e) rfl fun b2 w1 hs1 hb2 hB2=>Qf ?_
 have he0:e.1=((e.1.toNat:Nat):Int):=by omega
 have het:e.1.toNat<t.length:=by omega
 refine Qg<|QT (Step [] w1) [(0,true),(1,true),(2,true),(3,true),(4,true),(5,true),(6,true),(7,true),(8,true)] Tryz.mixed (by rfl) (by kernel_rfl) (Step.drew _ _) ?_
 refine pq (fun _ hc=>Qd ((hB.ext hs1).ext hc) rfl rfl)<|p (fun _=>Qa rfl)<|pq (fun _ hc=>Qd (hB2.ext hc) rfl rfl)<|pic (i:=e.1.toNat) rfl (ht.ext hs1) rfl (congrArg (Value.int .i64) he0) het fun a7 h7 =>
  pq (fun _ hc=>Qv (h7.ext hc) rfl)<|p (fun _=>Qa rfl)<|pq (fun _ hc=>Qd (hB2.ext hc) rfl rfl)<|p (fun _=>Q6 rfl rfl) <|
  p (fun _=>Qe)<|pe ?_
 refine Ql ⟨[_],⟨rfl,trivial⟩,?_,hs1.trans (Step.drew _ _)⟩
 show Value.bool (decide (¬cget t e.1.toNat=e.2))=_
 unfold cget
 simp
theorem QdT (t:LI) (x:Exc):(!(x.ls.any fun l=>!decide (t.getD l.1.toNat 0=l.2)))=Ks t x:=by
 unfold Ks
 induction x.ls with
 | nil=>rfl
 | cons a l ih=>rw[List.any_cons,List.all_cons,←ih];cases decide (t.getD a.1.toNat 0=a.2) <;> simp
theorem Qh2 {w:World}{b:Nat}{q:XV}{vt:Value}{t:LI}(hB:QS w.heap b 107 (Zu q)) (hq:P2s [] w.heap q.v q.ls) (ht:QL [] w.heap vt t) (hr:∀p∈q.ls,0≤p.1∧p.1<(t.length:Int)) :
  QG Tryz.prog 250 ([vt]++[.pointer (some ⟨b,0,none⟩)]) w fun r w'=>r=.bool (Ks t q.x)∧Step [] w w':=by
 refine QG.of_W Tryz.func250 rfl Tryz.ntmps250 Tryz.results250 (by simp) ?_
 refine Qc<|xl rfl<|QR (us:=[vt]) ht.cells fun b2 w1 hs1 hb2 hB2=>Qf ?_
 refine Qc<|x (Qa rfl)<|x (Qd (hB.ext hs1) rfl rfl)<|x Zj<|xl rfl<|xf<|(QjH (q:=fun l=>!decide (t.getD l.1.toNat 0=l.2)) (cap:=[.pointer (some ⟨b2,0,none⟩)]) (hq.ext hs1) (fun e he w2 hs2=>QfH (hB2.ext hs2) ((ht.ext hs1).ext hs2) e (hr e he))).mono ?_
 rintro r2 w2 ⟨rfl,hs2⟩
 refine x (Zo rfl)<|Qf ?_
 exact Ql ⟨[_],⟨rfl,trivial⟩,congrArg Value.bool (QdT t q.x),hs1.trans hs2⟩
theorem Qh1 {w:World}{b:Nat}{q:KV}{vt:Value}{t:LI}(hB:QS w.heap b 173 (Zx q)) (hq:P2s [] w.heap q.v q.ts) (ht:QL [] w.heap vt t)
  (hts:∀p∈q.ts,0≤p.1∧p.1<(t.length:Int)∧-65536≤p.2∧p.2≤65536) (h8:q.ts.length≤8) (htb:∀i,i<t.length→0≤cget t i∧cget t i≤4096) :
  QG Tryz.prog 253 ([vt]++[.pointer (some ⟨b,0,none⟩)]) w fun r w'=>r=.bool (Vn t q.k)∧Step [] w w':=by
 refine QG.of_W Tryz.func253 rfl Tryz.ntmps253 Tryz.results253 (by simp) ?_
 refine Qc<|Qf ?_
 have hd:Step [] w { w with drawn:=w.drawn+1 }:=Step.drew _ _
 refine Qg<|QT (Step [] { w with drawn:=w.drawn+1 }) [(0,true),(1,true),(3,true),(4,true),(2,false),(5,true),(6,true)] Tryz.mixed (by rfl) (by kernel_rfl) (Step.refl _ _) ?_
 refine pq (fun _ hc=>Qq ((hB.ext hd).ext hc) rfl rfl)<|p (fun _=>Qm)<|p (fun _=>Qa rfl)<|pq (fun _ hc=>Qd ((hB.ext hd).ext hc) rfl rfl)<|pk<|xf<|(QdV (hq.ext hd) (ht.ext hd) hts h8 htb).mono ?_
 rintro r1 w1 ⟨rfl,hs1⟩
 refine ⟨hs1,?_⟩
 refine p (fun _=>ZK rfl rfl)<|p (fun _=>Qe)<|pe ?_
 exact Ql ⟨[_],⟨rfl,trivial⟩,rfl,hd.trans hs1⟩
inductive Cd where
 | ex (b:Nat) (q:XV)
 | co (b:Nat) (q:KV)
def Cd.val:Cd→Value
 | .ex b _=>.func (.func 250) #[] #[.pointer (some ⟨b,0,none⟩)]
 | .co b _=>.func (.func 253) #[] #[.pointer (some ⟨b,0,none⟩)]
def Cd.src:Cd→Sum XV KV
 | .ex _ q=>.inl q
 | .co _ q=>.inr q
def QcX (t:LI):Sum XV KV→Bool
 | .inl q=>Ks t q.x
 | .inr q=>Vn t q.k
def Cd.vio (t:LI) (c:Cd):Bool:=QcX t c.src
abbrev Vg (c:Cd):LV:=[c.val]
theorem QjJ (c:Cd):(Vg c).length=1:=rfl
def CdA (H:Array Obj):Cd→Prop
 | .ex b q=>QS H b 107 (Zu q)∧P2s [] H q.v q.ls
 | .co b q=>QS H b 173 (Zx q)∧P2s [] H q.v q.ts
theorem CdA.ext {w w':World}{c:Cd}(h:CdA w.heap c) (hs:Step [] w w'):CdA w'.heap c:=by
 cases c with
 | ex b q=>exact ⟨h.1.ext hs,h.2.ext hs⟩
 | co b q=>exact ⟨h.1.ext hs,h.2.ext hs⟩
def Cd.rg (n:Nat):Cd→Prop
 | .ex _ q=>∀p∈q.ls,0≤p.1∧p.1<(n:Int)
 | .co _ q=>(∀p∈q.ts,0≤p.1∧p.1<(n:Int)∧-65536≤p.2∧p.2≤65536)∧q.ts.length≤8
theorem jT {q:XV}(w:World):QG Tryz.prog 239 [.agg (Zu q).toArray] w fun r w'=>Step [] w w'∧∃b,r=(Cd.ex b q).val∧w.heap.size≤b∧QS w'.heap b 107 (Zu q):=by
 refine QG.of_W Tryz.func239 rfl Tryz.ntmps239 Tryz.results239 (by simp) ?_
 refine Qc<|xl rfl<|QR (us:=Zu q) rfl fun b1 w1 hs1 hb1 hB1=>Qf ?_
 refine Qc<|x Zj<|Qf ?_
 exact Ql ⟨[_],⟨rfl,trivial⟩,hs1,b1,rfl,hb1,hB1⟩
theorem Qbg {q:KV}(w:World):QG Tryz.prog 240 [.agg (Zx q).toArray] w fun r w'=>Step [] w w'∧∃b,r=(Cd.co b q).val∧w.heap.size≤b∧QS w'.heap b 173 (Zx q):=by
 refine QG.of_W Tryz.func240 rfl Tryz.ntmps240 Tryz.results240 (by simp) ?_
 refine Qc<|xl rfl<|QR (us:=Zx q) rfl fun b1 w1 hs1 hb1 hB1=>Qf ?_
 refine Qc<|x Zj<|Qf ?_
 exact Ql ⟨[_],⟨rfl,trivial⟩,hs1,b1,rfl,hb1,hB1⟩
def CdB (H:Array Obj):Cd→Prop
 | .ex b q=>QS H b 107 (Zu q)
 | .co b q=>QS H b 173 (Zx q)
def Cd.blk:Cd→Nat
 | .ex b _=>b
 | .co b _=>b
theorem CdB.lt {H:Array Obj}{c:Cd}(h:CdB H c):c.blk<H.size:=by cases c <;> exact QS.lt h
theorem CdB.step {X:LN}{w w':World}{c:Cd}(h:CdB w.heap c) (hs:Step X w w') (hX:c.blk∉X):CdB w'.heap c:=by
 cases c <;> exact QS.step h hs hX
structure CdL (base:Nat) (w:World) (v:Value) (cds:List Cd):Prop where
 own:w.ownsRow base 355 1 v cds.length (cds.flatMap Vg)
 bx:∀c∈cds,CdB w.heap c∧c.blk∉ob v
theorem CdL.add {base:Nat}{w w7 w8:World}{v v8:Value}{cds:List Cd}{c:Cd}(h:CdL base w v cds) (hs:Step [] w w7) (hc:CdB w7.heap c) (hb:w.heap.size≤c.blk)
  (ho:w8.ownsRow base 355 1 v8 (cds.length+1) (cds.flatMap Vg++[c.val])) (hs8:Step (ob v) w7 w8) (hn:∀b∈ob v8,b∈ob v∨w7.heap.size≤b):CdL base w8 v8 (cds++[c]):=by
 have hlt:=Q0 h.own
 have hcv:c.blk∉ob v:=fun hm=>by have:=hlt _ hm;omega
 refine ⟨?_,fun d hd=>?_⟩
 ·rw[List.length_append,List.flatMap_append];simpa using ho
 ·have key:CdB w7.heap d∧d.blk∉ob v:=by
   rcases List.mem_append.1 hd with hd | hd
   ·exact ⟨(h.bx d hd).1.step hs (by simp),(h.bx d hd).2⟩
   ·simp only[List.mem_singleton] at hd;subst hd;exact ⟨hc,hcv⟩
  refine ⟨key.1.step hs8 key.2,fun hm=>?_⟩
  rcases hn _ hm with h1 | h1
  ·exact key.2 h1
  ·have:=key.1.lt;omega
set_option maxHeartbeats 4000000 in
theorem QfS {w:World}{vs vx vk:Value}{qx:List XV}{ks:List KV}(hX:Ud [] w.heap vx qx) (hK:zM [] w.heap vk ks) (hxl:qx.length≤32) (hkl:ks.length≤32) :
  QG Tryz.prog 214 [.agg #[vs,vx,vk]] w fun r w'=>Step [] w w'∧∃cds,CdL w.heap.size w' r cds∧cds.map Cd.src=qx.map Sum.inl++ks.map Sum.inr:=by
 refine QG.of_W Tryz.func214 rfl Tryz.ntmps214 Tryz.results214 (by simp) ?_
 refine Qc<|xl rfl<|QR (us:=[vs,vx,vk]) rfl fun b1 w1 hs1 hb1 hB1=>Qf ?_
 have hz1:=hs1.size
 refine Qc<|Qf ?_
 refine Qg<|Qc<|x (Qa rfl)<|x (Qd hB1 rfl rfl)<|x (Qr (hX.ext hs1).arr rfl)<|Qb<|xe ?_
 refine Qh<|QA (α:=Nat×Value×List Cd) [(3,3),(5,5),(11,20)] (fun z=>[(3,z.2.1),(11,.int .i64 z.1)]) (fun z w'=>z.1≤qx.length∧Step [] w1 w'∧CdL w1.heap.size w' z.2.1 z.2.2∧z.2.2.map Cd.src=(qx.take z.1).map Sum.inl) (fun z=>qx.length - z.1) (by rfl) (0,nS,[]) ⟨rfl,rfl,trivial⟩
  ⟨Nat.zero_le _,Step.refl _ _,⟨QP _ _ _ _,fun c hc=>(by cases hc)⟩,rfl⟩ ?_
 rintro ⟨k,vo,cds⟩ g wA ⟨hk,hsA,hL,hsrc⟩
 simp only[] at hk hL hsrc
 have hcl:cds.length=k:=by have:=congrArg List.length hsrc;simp at this;omega
 refine Qc<|x (QB rfl rfl)<|xe ?_
 refine Qg<|QD rfl (fun hc1=>?_) (fun hc1=>?_)
 ·refine Qz ?_
  have hke:qx.length≤k:=by have h16:¬(k:Int)<(qx.length:Int):=hc1;omega
  rw[List.take_of_length_le hke] at hsrc
  refine Qg<|Qc<|x (Qa rfl)<|x (Qd (hB1.ext hsA) rfl rfl)<|x (Qr ((hK.ext hs1).ext hsA).arr rfl)<|Qb<|xe ?_
  refine Qh<|QA (α:=Nat×Value×List Cd) [(3,3),(7,7),(24,33)] (fun z=>[(3,z.2.1),(24,.int .i64 z.1)]) (fun z w'=>z.1≤ks.length∧Step [] w1 w'∧CdL w1.heap.size w' z.2.1 z.2.2∧z.2.2.map Cd.src=qx.map Sum.inl++(ks.take z.1).map Sum.inr) (fun z=>ks.length - z.1) (by rfl) (0,vo,cds) ⟨rfl,rfl,trivial⟩
   ⟨Nat.zero_le _,hsA,hL,by simp only[];rw[hsrc];simp⟩ ?_
  rintro ⟨j,vp,cdt⟩ g wB ⟨hj,hsB,hLB,hsrcB⟩
  simp only[] at hj hLB hsrcB
  have hclB:cdt.length=qx.length+j:=by have:=congrArg List.length hsrcB;simp at this;omega
  refine Qc<|x (QB rfl rfl)<|xe ?_
  refine Qg<|QD rfl (fun hc2=>?_) (fun hc2=>?_)
  ·refine Qz ?_
   have hje:ks.length≤j:=by have h16:¬(j:Int)<(ks.length:Int):=hc2;omega
   rw[List.take_of_length_le hje] at hsrcB
   refine Qc<|Qb<|Qf ?_
   exact Ql ⟨[_],⟨rfl,trivial⟩,hs1.trans hsB,cdt,⟨Zc hLB.own hz1,hLB.bx⟩,hsrcB⟩
  have hltB:j<ks.length:=by have h16:(j:Int)<(ks.length:Int):=hc2;omega
  have hmemB:=List.getElem_mem hltB
  have htkB:ks.take (j+1)=ks.take j++[ks[j]'hltB]:=List.take_succ_eq_append_getElem hltB
  refine Qi ?_
  refine Qg<|Qh<|Qc<|xig Jg ((hK.ext hs1).ext hsB).arr rfl rfl hltB fun aA hA=>?_
  refine Zf (ks[j]'hltB) fun q hq=>?_
  rw[hq] at hA hmemB htkB
  have hqA:=((hK.ext hs1).ext hsB).each q hmemB
  refine x (QK hA rfl rfl)<|xl rfl<|Qu (us:=[.string .empty,nS,.int .i64 0]) rfl fun b7 w4 hs4 hb7 hB7=>xl rfl<|Qo (us:=Zx q) hB7 rfl rfl rfl rfl ⟨rfl,hqA.one,rfl,trivial⟩ fun w5 hs5 hB7'=>xe ?_
  have hsB5:Step [] wB w5:=hs4.then1 hs5 hb7
  refine Qw<|Qb<|x (Qq hB7' rfl rfl)<|xl rfl<|xf<|(Qbg w5).mono ?_
  rintro r6 w6 ⟨hs6,b6,rfl,hb6,hB6⟩
  refine xl rfl<|QI (us:=[[(Cd.co b6 q).val]]) rfl rfl (by decide) (by simp) ⟨rfl,rfl,trivial⟩ fun b31 w7 hs7 hb31 hB31=>?_
  have hsB7:=(hsB5.trans hs6).trans hs7
  have hz7:=(hsB.trans hsB7).size
  have hz5:=hsB5.size
  refine xl rfl<|Q2 (news:=[(Cd.co b6 q).val]) (L:=[]) (Qt hLB.own hsB7) rfl rfl rfl (hB31.at (by simp)) (by simp[Cd.val,Value.oneCell']) (by omega) (by omega) fun v8 w8 ho8 hs8 hn8 =>
   Qf ?_
  have hge:=Qp hLB.own
  have hL8:=hLB.add (c:=Cd.co b6 q) hsB7 (QS.ext hB6 hs7) (by show _≤b6;omega) ho8 hs8 hn8
  have hsB8:Step [] w1 w8:=(hsB.trans hsB7).then hs8 (fun b hb=>.inr (hge b hb).1)
  refine Qw<|x (Qy rfl rfl ⟨by omega,by omega⟩)<|Qb<|xe ?_
  exact ⟨(j+1,v8,cdt++[Cd.co b6 q]),by simp only[];omega,⟨rfl,rfl,trivial⟩,hltB,hsB8,hL8,by simp only[];rw[List.map_append,hsrcB,htkB];simp[Cd.src]⟩
 have hltA:k<qx.length:=by have h16:(k:Int)<(qx.length:Int):=hc1;omega
 have hmemA:=List.getElem_mem hltA
 have htkA:qx.take (k+1)=qx.take k++[qx[k]'hltA]:=List.take_succ_eq_append_getElem hltA
 refine Qi ?_
 refine Qg<|Qh<|Qc<|xig JA ((hX.ext hs1).ext hsA).arr rfl rfl hltA fun aA hA=>?_
 refine Zf (qx[k]'hltA) fun q hq=>?_
 rw[hq] at hA hmemA htkA
 have hqA:=((hX.ext hs1).ext hsA).each q hmemA
 refine x (QK hA rfl rfl)<|xl rfl<|Qu (us:=[.string .empty,nS]) rfl fun b7 w4 hs4 hb7 hB7=>xl rfl<|Qo (us:=Zu q) hB7 rfl rfl rfl rfl ⟨rfl,hqA.one,trivial⟩ fun w5 hs5 hB7'=>xe ?_
 have hsB5:Step [] wA w5:=hs4.then1 hs5 hb7
 refine Qw<|Qb<|x (Qq hB7' rfl rfl)<|xl rfl<|xf<|(jT w5).mono ?_
 rintro r6 w6 ⟨hs6,b6,rfl,hb6,hB6⟩
 refine xl rfl<|QI (us:=[[(Cd.ex b6 q).val]]) rfl rfl (by decide) (by simp) ⟨rfl,rfl,trivial⟩ fun b31 w7 hs7 hb31 hB31=>?_
 have hsB7:=(hsB5.trans hs6).trans hs7
 have hz7:=(hsA.trans hsB7).size
 have hz5:=hsB5.size
 refine xl rfl<|Q2 (news:=[(Cd.ex b6 q).val]) (L:=[]) (Qt hL.own hsB7) rfl rfl rfl (hB31.at (by simp)) (by simp[Cd.val,Value.oneCell']) (by omega) (by omega) fun v8 w8 ho8 hs8 hn8 =>
  Qf ?_
 have hge:=Qp hL.own
 have hL8:=hL.add (c:=Cd.ex b6 q) hsB7 (QS.ext hB6 hs7) (by show _≤b6;omega) ho8 hs8 hn8
 have hsB8:Step [] w1 w8:=(hsA.trans hsB7).then hs8 (fun b hb=>.inr (hge b hb).1)
 refine Qw<|x (Qy rfl rfl ⟨by omega,by omega⟩)<|Qb<|xe ?_
 exact ⟨(k+1,v8,cds++[Cd.ex b6 q]),by simp only[];omega,⟨rfl,rfl,trivial⟩,hltA,hsB8,hL8,by simp only[];rw[List.map_append,hsrc,htkA];simp[Cd.src]⟩
theorem Qjj {gp:Nat}{fn:Func}[Fu Tryz.prog gp fn] {cap:LV}{q:Cd→Bool}{L:LN}{w:World}{v:Value}{l:List Cd}(h:Zs L w.heap v l.length 1 (l.flatMap Vg))
  (hk:∀e∈l,∀(w1:World),Step [] w w1→QG Tryz.prog gp ([e.val]++cap) w1 fun r w'=>r=.bool (q e)∧Step [] w1 w') :
  QG Tryz.prog 237 [v,.func (.func gp) #[] cap.toArray] w fun r w'=>r=.int .i64 (fix q 0 l)∧Step [] w w':=by
 have hle:=h.le
 refine QG.of_W Tryz.func237 rfl Tryz.ntmps237 Tryz.results237 (by simp) ?_
 refine Qc<|Qf ?_
 refine Qg<|Qc<|Qb<|x (Qr h rfl)<|Qb<|xe ?_
 refine Qh<|QA (α:=Nat) [(4,5),(8,18)] (fun z=>[(8,.int .i64 z)]) (fun z w'=>z≤l.length∧Step [] w w'∧fix q z (l.drop z)=fix q 0 l) (fun z=>l.length - z) (by rfl) 0 ⟨rfl,trivial⟩
  ⟨Nat.zero_le _,Step.refl _ _,rfl⟩ ?_
 rintro k g w1 ⟨hk1,hs1,hfx⟩
 refine Qc<|x (QB rfl rfl)<|xe ?_
 refine Qg<|QD rfl (fun h9=>?_) (fun h9=>?_)
 ·refine Qz ?_
  have hke:l.length≤k:=by have h10:¬(k:Int)<(l.length:Int):=h9;omega
  rw[List.drop_of_length_le hke] at hfx
  refine Qc<|Qf ?_
  exact Ql ⟨[_],⟨rfl,trivial⟩,by rw[←hfx];rfl,hs1⟩
 have hlt:k<l.length:=by have h10:(k:Int)<(l.length:Int):=h9;omega
 rw[Q5 hlt,Z0] at hfx
 have hmem:=List.getElem_mem hlt
 refine Qi ?_
 refine Qg<|Qh<|Qc<|Qb<|Qf ?_
 refine Qc<|Qb<|Qb<|Qb<|xig QjJ (h.ext hs1) rfl rfl hlt fun a14 h14=>?_
 refine Zf (l[k]'hlt) fun e he=>?_
 rw[he] at h14 hfx hmem
 refine x (Qv h14 rfl)<|xl rfl<|xc (first:=[]) (capt:=cap) rfl<|(hk e hmem w1 hs1).mono ?_
 rintro r2 w2 ⟨rfl,hs2⟩
 refine xe ?_
 refine QW rfl (fun h16=>?_) (fun h16=>?_)
 ·rw[if_pos h16] at hfx
  refine Qc<|Qb<|Qf ?_
  exact Ql ⟨[_],⟨rfl,trivial⟩,by rw[←hfx];rfl,hs1.trans hs2⟩
 rw[if_neg (by rw[h16];decide)] at hfx
 refine Qi ?_
 refine Qw<|x (Qy rfl rfl ⟨by omega,by omega⟩)<|Qb<|xe ?_
 exact ⟨k+1,by omega,⟨rfl,trivial⟩,hlt,hs1.trans hs2,hfx⟩
theorem Qib {w:World}{c:Cd}{vt:Value}{t:LI}(hc:CdA w.heap c) (ht:QL [] w.heap vt t) (hr:c.rg t.length) (htb:∀i,i<t.length→0≤cget t i∧cget t i≤4096) :
  ∃g fn cap,c.val=.func (.func g) #[] [cap].toArray∧Fu Tryz.prog g fn∧QG Tryz.prog g ([vt]++[cap]) w fun r w'=>r=.bool (c.vio t)∧Step [] w w':=by
 cases c with
 | ex b q=>exact ⟨_,_,_,rfl,inferInstance,Qh2 hc.1 hc.2 ht hr⟩
 | co b q=>exact ⟨_,_,_,rfl,inferInstance,Qh1 hc.1 hc.2 ht hr.1 hr.2 htb⟩
theorem QdR {w:World}{bt:Nat}{c:Cd}{vt:Value}{t:LI}(hB:QS w.heap bt 40 [vt]) (hc:CdA w.heap c) (ht:QL [] w.heap vt t) (hr:c.rg t.length) (htb:∀i,i<t.length→0≤cget t i∧cget t i≤4096) :
  QG Tryz.prog 238 ([c.val]++[.pointer (some ⟨bt,0,none⟩)]) w fun r w'=>r=.bool (c.vio t)∧Step [] w w':=by
 obtain ⟨gq,fn,cap,hv,hF,hcall⟩:=Qib hc ht hr htb
 rw[hv]
 refine QG.of_W Tryz.func238 rfl Tryz.ntmps238 Tryz.results238 (by simp) ?_
 refine Qc<|Qf ?_
 refine Qc<|Qb<|x (Qd hB rfl rfl)<|xl rfl<|xc (g:=gq) (fn:=fn) (first:=[]) (capt:=[cap]) rfl<|hcall.mono ?_
 rintro r1 w1 ⟨rfl,hs1⟩
 refine Qf ?_
 exact Ql ⟨[_],⟨rfl,trivial⟩,rfl,hs1⟩
theorem yW {L:LN}{w:World}{v vt:Value}{cds:List Cd}{t:LI}(h:Zs L w.heap v cds.length 1 (cds.flatMap Vg)) (hc:∀c∈cds,CdA w.heap c) (ht:QL [] w.heap vt t) (hr:∀c∈cds,c.rg t.length) (htb:∀i,i<t.length→0≤cget t i∧cget t i≤4096) :
  QG Tryz.prog 213 [v,vt] w fun r w'=>r=.int .i64 (fix (Cd.vio t) 0 cds)∧Step [] w w':=by
 refine QG.of_W Tryz.func213 rfl Tryz.ntmps213 Tryz.results213 (by simp) ?_
 refine Qc<|xl rfl<|QR (us:=[vt]) ht.cells fun b3 w1 hs1 hb3 hB3=>Qf ?_
 refine Qc<|Qb<|x Zj<|xl rfl<|xf<|(Qjj (q:=Cd.vio t) (cap:=[.pointer (some ⟨b3,0,none⟩)]) (h.ext hs1) (fun c hm w2 hs2=>QdR (hB3.ext hs2) (((hc c hm).ext hs1).ext hs2) ((ht.ext hs1).ext hs2) (hr c hm) htb)).mono ?_
 rintro r2 w2 ⟨rfl,hs2⟩
 refine Qf ?_
 exact Ql ⟨[_],⟨rfl,trivial⟩,rfl,hs1.trans hs2⟩
theorem QfX {w:World}{vs vx vk vt:Value}{sz t:LI}(hS:QL [] w.heap vs sz) (ht:QL [] w.heap vt t) (h:Qit sz t) :
  QG Tryz.prog 236 [.agg #[vs,vx,vk],vt] w fun r w'=>r=.int .i64 0∧Step [] w w':=by
 have htl:=ht.le
 have h0:=h.1
 refine QG.of_W Tryz.func236 rfl Tryz.ntmps236 Tryz.results236 (by simp) ?_
 refine Qc<|xl rfl<|QR (us:=[vs,vx,vk]) rfl fun b2 w1 hs1 hb2 hB2=>Qf ?_
 refine Qg<|Qc<|Qb<|x (Qr (ht.ext hs1) rfl)<|x (Qa rfl)<|x (Qd hB2 rfl rfl)<|x (Qr (hS.ext hs1) rfl)<|x (Q6 rfl rfl) <|
  xe ?_
 refine QD rfl (fun h12=>?_) (fun h12=>?_)
 ·refine Qi ?_
  refine Qg<|Qc<|Qb<|x (Qr (ht.ext hs1) rfl)<|Qb<|xe ?_
  refine Qh<|QA (α:=Nat) [(4,6),(15,31)] (fun z=>[(15,.int .i64 z)]) (fun z w'=>z≤t.length∧w'=w1) (fun z=>t.length - z) (by rfl) 0 ⟨rfl,trivial⟩ ⟨Nat.zero_le _,rfl⟩ ?_
  rintro k g w2 ⟨hk,rfl⟩
  refine Qc<|x (QB rfl rfl)<|xe ?_
  refine Qg<|QD rfl (fun h16=>?_) (fun h16=>?_)
  ·refine Qz ?_
   refine Qc<|Qf ?_
   exact Ql ⟨[_],⟨rfl,trivial⟩,rfl,hs1⟩
  have hlt:k<t.length:=by have h17:(k:Int)<(t.length:Int):=h16;omega
  have hb:=h.2 k hlt
  refine Qi ?_
  refine Qg<|Qh<|Qc<|Qb<|xic (i:=k) (ht.ext hs1) rfl rfl hlt fun a18 h18=>x (Qv h18 rfl)<|x Qe<|Qf ?_
  refine QV (α:=Unit) [(20,30)] (fun z=>[(30,.bool false)]) (fun z w'=>w'=w2) (by rfl) ?_ ?_
  ·refine Qw<|Qb<|xb (QB rfl rfl) (fun h21=>by omega) (fun h21=>?_)
   refine Qb<|Qb<|x (Qa rfl)<|x (Qd hB2 rfl rfl)<|Qb<|xic (i:=k) (hS.ext hs1) rfl rfl (by omega) fun a27 h27=>x (Qv h27 rfl) <|
    x (ZH rfl rfl)<|x (Qn rfl)<|xe ?_
   exact ⟨(),⟨congrArg Value.bool (decide_eq_false (by omega)),trivial⟩,rfl⟩
  rintro _ g w3 rfl
  refine ZZ rfl ?_
  refine Qi ?_
  refine Qw<|x (Qy rfl rfl ⟨by omega,by omega⟩)<|Qb<|xe ?_
  exact ⟨k+1,by omega,⟨rfl,trivial⟩,hlt,rfl⟩
 ·exact absurd (show (t.length:Int)=(sz.length:Int) by omega) h12
theorem qL {w:World}{vs vx vk vt:Value}{sz t:LI}{qx:List XV}{ks:List KV}(hS:QL [] w.heap vs sz) (hX:Ud [] w.heap vx qx) (hK:zM [] w.heap vk ks) (ht:QL [] w.heap vt t) (hc:YE sz (qx.map (·.x)) (ks.map (·.k))=0) (h:Qit sz t) :
  QG Tryz.prog 212 [.agg #[vs,vx,vk],vt] w fun r w'=>r=.int .i64 0∧Step [] w w':=by
 refine QG.of_W Tryz.func212 rfl Tryz.ntmps212 Tryz.results212 (by simp) ?_
 refine Qc<|xl rfl<|QR (us:=[vs,vx,vk]) rfl fun b2 w1 hs1 hb2 hB2=>Qf ?_
 refine Qg<|Qc<|x (Qq hB2 rfl rfl)<|xl rfl<|xf<|(UV (hS.ext hs1) (hX.ext hs1) (hK.ext hs1)).mono ?_
 rintro r2 w2 ⟨hr2,hs2⟩
 rw[hc] at hr2
 subst hr2
 refine Qf ?_
 refine Qc<|Qb<|x (Q6 rfl rfl)<|xe ?_
 refine ZZ rfl ?_
 refine Qi ?_
 have hs12:=hs1.trans hs2
 refine Qc<|x (Qq (hB2.ext hs2) rfl rfl)<|Qb<|xl rfl<|xf<|(QfX (hS.ext hs12) (ht.ext hs12) h).mono ?_
 rintro r3 w3 ⟨rfl,hs3⟩
 refine Qf ?_
 exact Ql ⟨[_],⟨rfl,trivial⟩,rfl,hs12.trans hs3⟩
def qz (qx:List Exc) (ks:List XS) (t:LI):Int×Int×Bool :=
 if 0≤fix (Ks t) 0 qx then (1,fix (Ks t) 0 qx,true) else if 0≤fix (Vn t) 0 ks then (2,fix (Vn t) 0 ks,true) else (0,0,false)
theorem QhP {cds:List Cd}{qx:List XV}{ks:List KV}(t:LI) (h:cds.map Cd.src=qx.map Sum.inl++ks.map Sum.inr) :
  fix (Cd.vio t) 0 cds=if 0≤fix (Ks t) 0 (qx.map (·.x)) then fix (Ks t) 0 (qx.map (·.x)) else if 0≤fix (Vn t) 0 (ks.map (·.k)) then fix (Vn t) 0 (ks.map (·.k))+qx.length else -1:=by
 have h1:fix (Cd.vio t) 0 cds=fix (QcX t) 0 (cds.map Cd.src):=(J8 (QcX t) Cd.src cds 0).symm
 rw[h1,h,US,J8,List.length_map,zr,J8 (QcX t) Sum.inr ks 0]
 have e1:fix (fun a=>QcX t (Sum.inl a)) 0 qx=fix (Ks t) 0 (qx.map (·.x)):=(J8 (Ks t) XV.x qx 0).symm
 have e2:fix (fun a=>QcX t (Sum.inr a)) 0 ks=fix (Vn t) 0 (ks.map (·.k)):=(J8 (Vn t) KV.k ks 0).symm
 rw[e1,e2]
theorem QiW {P:Int×Int×Bool}{a b:Int}{c:Bool}(h:P=(a,b,c)):(Value.tuple #[.int .i64 a,.int .i64 b,.bool c,.int .i64 0])=.tuple #[.int .i64 P.1,.int .i64 P.2.1,.bool P.2.2,.int .i64 0]:=by rw[h]
set_option maxHeartbeats 4000000 in
theorem Qav {w:World}{vs vx vk vt:Value}{sz t:LI}{qx:List XV}{ks:List KV}(hS:QL [] w.heap vs sz) (hX:Ud [] w.heap vx qx) (hK:zM [] w.heap vk ks) (ht:QL [] w.heap vt t) (hc:YE sz (qx.map (·.x)) (ks.map (·.k))=0) (h:Qit sz t) :
  QG Tryz.prog 176 [.agg #[vs,vx,vk],vt] w fun r w'=>Step [] w w'∧r=.tuple #[.int .i64 (qz (qx.map (·.x)) (ks.map (·.k)) t).1,.int .i64 (qz (qx.map (·.x)) (ks.map (·.k)) t).2.1,.bool (qz (qx.map (·.x)) (ks.map (·.k)) t).2.2,.int .i64 0]:=by
 have hok:=VR hc
 have hxl:qx.length≤32:=by have:=hok.xl;simpa using this
 have hkl:ks.length≤32:=by have:=hok.kl;simpa using this
 refine QG.of_W Tryz.func176 rfl Tryz.ntmps176 Tryz.results176 (by simp) ?_
 refine Qc<|xl rfl<|QR (us:=[vs,vx,vk]) rfl fun b2 w1 hs1 hb2 hB2=>x Qe<|x Qe<|x Qe<|Qf ?_
 refine Qg<|Qc<|x (Qq hB2 rfl rfl)<|Qb<|xl rfl<|xf<|(qL (hS.ext hs1) (hX.ext hs1) (hK.ext hs1) (ht.ext hs1) hc h).mono ?_
 rintro r2 w2 ⟨rfl,hs2⟩
 refine Qf ?_
 refine Qc<|Qb<|x (Q6 rfl rfl)<|xe ?_
 refine ZZ rfl ?_
 refine Qi ?_
 have hs12:=hs1.trans hs2
 have hB22:=hB2.ext hs2
 refine Qc<|x (Qq hB22 rfl rfl)<|xl rfl<|xf<|(QfS (hX.ext hs12) (hK.ext hs12) hxl hkl).mono ?_
 rintro r3 w3 ⟨hs3,cds,hL,hsrc⟩
 have hs13:=hs12.trans hs3
 have hcl:cds.length=qx.length+ks.length:=by have:=congrArg List.length hsrc;simpa using this
 have htb:∀i,i<t.length→0≤cget t i∧cget t i≤4096:=fun i hi=>by
  have h1:=h.2 i hi
  have h2:i<sz.length:=by rw[←h.1];exact hi
  have h3:=hok.s _ (List.getElem_mem h2)
  rw[Zl h2] at h3
  omega
 have hmem:∀c∈cds,c.src∈qx.map Sum.inl++ks.map Sum.inr:=fun c hm=>by rw[←hsrc];exact List.mem_map_of_mem hm
 have hcA:∀c∈cds,CdA w3.heap c:=fun c hm=>by
  have h1:=hmem c hm
  have h2:=(hL.bx c hm).1
  cases c with
  | ex b q =>
   have hq:q∈qx:=by simpa[Cd.src] using h1
   exact ⟨h2,(hX.each q hq).ext hs13⟩
  | co b q =>
   have hq:q∈ks:=by simpa[Cd.src] using h1
   exact ⟨h2,(hK.each q hq).ext hs13⟩
 have hrg:∀c∈cds,c.rg t.length:=fun c hm=>by
  have h1:=hmem c hm
  rw[h.1]
  cases c with
  | ex b q =>
   have hq:q∈qx:=by simpa[Cd.src] using h1
   exact hok.x q.x (List.mem_map_of_mem hq)
  | co b q =>
   have hq:q∈ks:=by simpa[Cd.src] using h1
   exact hok.k q.k (List.mem_map_of_mem hq)
 have hfx:=QhP t hsrc
 have g1:=Qbf (Ks t) (qx.map (·.x)) 0
 have g2:=Qbf (Vn t) (ks.map (·.k)) 0
 simp only[List.length_map] at g1 g2
 refine Qb<|xl rfl<|xf<|(yW (QX (L:=[]) hL.own (by omega) (by simp)) hcA (ht.ext hs13) hrg htb).mono ?_
 rintro r4 w4 ⟨rfl,hs4⟩
 rw[hfx]
 have hs14:=hs13.trans hs4
 refine Zf (qz (qx.map (·.x)) (ks.map (·.k)) t) fun P hP=>?_
 rw[hP]
 unfold qz at hP
 refine Zf (fix (Ks t) 0 (qx.map (·.x))) fun i1 hi1=>?_
 refine Zf (fix (Vn t) 0 (ks.map (·.k))) fun i2 hi2=>?_
 rw[hi1,hi2] at hP
 rw[hi1] at g1
 rw[hi2] at g2
 refine Zf (if 0≤i1 then i1 else if 0≤i2 then i2+(qx.length:Int) else -1) fun r hr=>?_
 rw[hi1,hi2,hr]
 refine Qf ?_
 refine Qh<|Qc<|Qb<|x (QB rfl rfl)<|Qf ?_
 refine Q3 rfl (fun h25=>?_) (fun h25=>?_)
 ·have n1:¬0≤i1:=fun h=>by rw[if_pos h] at hr;omega
  have n2:¬0≤i2:=fun h=>by rw[if_neg n1,if_pos h] at hr;omega
  refine Qc<|x Qe<|x Qe<|x Qe<|Qf ?_
  exact Ql ⟨[_,_,_,_],⟨rfl,rfl,rfl,rfl,trivial⟩,hs14,QiW (by rw[←hP,if_neg n1,if_neg n2])⟩
 have hB24:=(hB22.ext hs3).ext hs4
 refine Qc<|Qb<|x (Qa rfl)<|x (Qd hB24 rfl rfl)<|x (Qr (hX.ext hs14).arr rfl)<|x (QB rfl rfl)<|Qf ?_
 refine Q3 rfl (fun h28=>?_) (fun h28=>?_)
 ·have p1:0≤i1:=by
   refine Decidable.not_not.1 fun n1=>?_
   by_cases h:0≤i2
   ·rw[if_neg n1,if_pos h] at hr;omega
   ·rw[if_neg n1,if_neg h] at hr;omega
  have e:r=i1:=by rw[if_pos p1] at hr;exact hr.symm
  refine Qc<|Qb<|x Qe<|x Qe<|x Qe<|Qf ?_
  exact Ql ⟨[_,_,_,_],⟨rfl,rfl,rfl,rfl,trivial⟩,hs14,QiW (by rw[←hP,if_pos p1,e])⟩
 have n1:¬0≤i1:=fun h=>by rw[if_pos h] at hr;omega
 have p2:0≤i2:=by
  refine Decidable.not_not.1 fun n2=>?_
  rw[if_neg n1,if_neg n2] at hr;omega
 have e:r - (qx.length:Int)=i2:=by rw[if_neg n1,if_pos p2] at hr;omega
 refine Qg<|QT (Step [] w4) [(0,true),(1,true),(2,true),(3,true),(4,true),(5,true),(6,true),(7,true),(8,true)] Tryz.mixed (by rfl) (by kernel_rfl) (Step.drew _ _) ?_
 refine p (fun _=>Qm)<|p (fun _=>Qa rfl)<|pq (fun _ hc=>Qd (hB24.ext hc) rfl rfl)<|p (fun _=>Qr (hX.ext hs14).arr rfl) <|
  p (fun _=>XY rfl rfl ⟨by omega,by omega⟩)<|p (fun _=>Qe)<|p (fun _=>Qe)<|p (fun _=>Qe)<|p (fun _=>Qe) <|
  pe ?_
 exact Ql ⟨[_,_,_,_],⟨rfl,rfl,rfl,rfl,trivial⟩,hs14.trans (Step.drew _ _),QiW (by rw[←hP,if_neg n1,if_pos p2,←e])⟩
def ZO (base:Nat) (av:LN) (H:Array Obj) (v:Value) (n sz:Nat) (cs:LV):Prop:=∀L:LN,(∀b∈L,b<base∨b∈av)→Zs L H v n sz cs
theorem ZO.ext {base:Nat}{av:LN}{w w':World}{v:Value}{n sz:Nat}{cs:LV}(h:ZO base av w.heap v n sz cs) (hs:Step [] w w'):ZO base av w'.heap v n sz cs:=fun L hL=>(h L hL).ext hs
theorem ZO.app {base:Nat}{av av':LN}{w w':World}{v:Value}{n sz:Nat}{cs:LV}(h:ZO base av w.heap v n sz cs) (hs:Step av w w') (hn:∀b∈av',b∈av∨w.heap.size≤b):ZO base av' w'.heap v n sz cs:=by
 intro L hL
 have h1:Zs (av++L.filter fun b=>decide (b<base)) w.heap v n sz cs:=h _ (fun b hb=>by
  rcases List.mem_append.1 hb with hb | hb
  ·exact .inr hb
  ·exact .inl (by simpa using (List.mem_filter.1 hb).2))
 refine h1.grow hs (fun b hb=>List.mem_append.2 (.inl hb)) fun b hb=>?_
 rcases hL b hb with h2 | h2
 ·exact .inl (List.mem_append.2 (.inr (List.mem_filter.2 ⟨hb,by simpa using h2⟩)))
 ·rcases hn b h2 with h3 | h3
  ·exact .inl (List.mem_append.2 (.inl h3))
  ·exact .inr h3
theorem ZO.of_own {base N:Nat}{av:LN}{w:World}{v:Value}{e n sz:Nat}{cs:LV}(h:w.ownsRow N e sz v n cs) (hn:n≤1099511627776) (hb:base≤N) (hav:∀b∈av,b<N):ZO base av w.heap v n sz cs:=fun L hL =>
 QX h hn fun b hb hbL=>by
  have h1:=(Qp h b hb).1
  rcases hL b hbL with h2 | h2
  ·omega
  ·have:=hav b h2;omega
structure ZX {α:Type}(g:α→LV) (sz T:Nat) (p:α→Value×Nat×Nat×LV) (base:Nat) (w:World) (v:Value) (l:List α):Prop where
 own:w.ownsRow base T sz v l.length (l.flatMap g)
 each:∀q∈l,ZO base (ob v) w.heap (p q).1 (p q).2.1 (p q).2.2.1 (p q).2.2.2
theorem ZX.nil {α:Type}{g:α→LV}{sz T:Nat}{p:α→Value×Nat×Nat×LV}{base:Nat}{w:World}:ZX g sz T p base w (nS) []:=⟨QP _ _ _ _,fun q hq=>by cases hq⟩
theorem ZX.ext {α:Type}{g:α→LV}{sz T:Nat}{p:α→Value×Nat×Nat×LV}{base:Nat}{w w':World}{v:Value}{l:List α}(h:ZX g sz T p base w v l) (hs:Step [] w w'):ZX g sz T p base w' v l:=⟨Qt h.own hs,fun q hq=>(h.each q hq).ext hs⟩
theorem ZX.app {α:Type}{g:α→LV}{sz T:Nat}{p:α→Value×Nat×Nat×LV}{base N e:Nat}{w w7 w8:World}{v v8:Value}{l:List α}{q:α}(h:ZX g sz T p base w v l) (hs:Step [] w w7)
  (hq:w7.ownsRow N e (p q).2.2.1 (p q).1 (p q).2.1 (p q).2.2.2) (hqn:(p q).2.1≤1099511627776) (hN:w.heap.size≤N) (hb:base≤w.heap.size)
  (ho:w8.ownsRow base T sz v8 (l.length+1) (l.flatMap g++g q)) (hs8:Step (ob v) w7 w8) (hn:∀b∈ob v8,b∈ob v∨w7.heap.size≤b):ZX g sz T p base w8 v8 (l++[q]):=by
 have hlt:=Q0 h.own
 refine ⟨?_,fun d hd=>?_⟩
 ·rw[List.length_append,List.flatMap_append];simpa using ho
 ·rcases List.mem_append.1 hd with hd | hd
  ·exact ((h.each d hd).ext hs).app hs8 hn
  ·simp only[List.mem_singleton] at hd;subst hd
   exact (ZO.of_own hq hqn (by omega) (fun b hb=>by have:=hlt b hb;omega)).app hs8 hn
theorem Qgw {L L':LN}{w:World}{va vm ve va' vm' ve':Value}{a b:QM}(h:Zp L w.heap va vm ve a) (h':Zp L' w.heap va' vm' ve' b) :
  QG Tryz.prog 27 [.agg #[va,.int .i64 a.st,vm,ve],.agg #[va',.int .i64 b.st,vm',ve']] w fun r w'=>r=.bool (decide (a.st=b.st∧a.al=b.al∧a.mr=b.mr∧a.ed=b.ed))∧Step [] w w':=by
 refine QG.of_W Tryz.func27 rfl Tryz.ntmps27 Tryz.results27 (by simp) ?_
 refine Qc<|xl rfl<|QR (us:=[va,.int .i64 a.st,vm,ve]) rfl fun b2 w1 hs1 hb2 hB2=>xl rfl<|QR (us:=[va',.int .i64 b.st,vm',ve']) rfl fun b3 w2 hs2 hb3 hB3=>Qf ?_
 have hs12:=hs1.trans hs2
 have hB22:=hB2.ext hs2
 refine QV (α:=Bool) [(4,30)] (fun z=>[(4,.bool z)]) (fun z w'=>Step [] w w'∧z=decide (a.st=b.st∧a.al=b.al∧a.mr=b.mr∧a.ed=b.ed)) (by rfl) ?_ ?_
 ·refine Qw<|x (Qa rfl)<|x (Qd hB22 rfl rfl)<|x (Qa rfl)<|x (Qd hB3 rfl rfl)<|xb (Zm rfl rfl) (fun h9=>?_) (fun h9=>?_)
  ·refine Qb<|x (Qa rfl)<|x (Qd hB22 rfl rfl)<|x (Qa rfl)<|x (Qd hB3 rfl rfl)<|xl rfl<|xf<|(J9 (h.al.ext hs12) (h'.al.ext hs12)).mono ?_
   rintro r3 w3 ⟨hr3,hs3⟩
   have hs13:=hs12.trans hs3
   refine QfJ (decide (a.al=b.al)) (fun hb3=>?_) (fun hb3=>?_)
   ·rw[hb3] at hr3;subst hr3
    refine x (Qn rfl)<|Qb<|x (Qa rfl)<|x (Qd (hB22.ext hs3) rfl rfl)<|x (Qa rfl)<|x (Qd (hB3.ext hs3) rfl rfl)<|xl rfl<|xf<|(J9 (h.mr.ext hs13) (h'.mr.ext hs13)).mono ?_
    rintro r4 w4 ⟨hr4,hs4⟩
    have hs14:=hs13.trans hs4
    have hs34:=hs3.trans hs4
    refine QfJ (decide (a.mr=b.mr)) (fun hb4=>?_) (fun hb4=>?_)
    ·rw[hb4] at hr4;subst hr4
     refine x (Qn rfl)<|Qb<|x (Qa rfl)<|x (Qd (hB22.ext hs34) rfl rfl)<|x (Qa rfl)<|x (Qd (hB3.ext hs34) rfl rfl)<|xl rfl<|xf<|(Qdr (h.ed.ext hs14) (h'.ed.ext hs14)).mono ?_
     rintro r5 w5 ⟨rfl,hs5⟩
     refine x (Qn rfl)<|Qf ?_
     exact ⟨_,⟨rfl,trivial⟩,hs14.trans hs5,bD ⟨fun e=>⟨h9,of_decide_eq_true hb3,of_decide_eq_true hb4,e⟩,fun e=>e.2.2.2⟩⟩
    rw[hb4] at hr4;subst hr4
    refine x (Qn rfl)<|Qb<|xs rfl<|xs rfl<|xs rfl<|xs rfl<|xs rfl<|x (Qn rfl)<|Qf ?_
    exact ⟨_,⟨rfl,trivial⟩,hs14,bF (fun e=>of_decide_eq_false hb4 e.2.2.1)⟩
   rw[hb3] at hr3;subst hr3
   refine x (Qn rfl)<|Qb<|xs rfl<|xs rfl<|xs rfl<|xs rfl<|xs rfl<|x (Qn rfl)<|Qb<|xs rfl<|xs rfl<|xs rfl<|xs rfl<|xs rfl<|x (Qn rfl) <|
    Qf ?_
   exact ⟨_,⟨rfl,trivial⟩,hs13,bF (fun e=>of_decide_eq_false hb3 e.2.1)⟩
  refine Qb<|xs rfl<|xs rfl<|xs rfl<|xs rfl<|xs rfl<|x (Qn rfl)<|Qb<|xs rfl<|xs rfl<|xs rfl<|xs rfl<|xs rfl<|x (Qn rfl) <|
   Qb<|xs rfl<|xs rfl<|xs rfl<|xs rfl<|xs rfl<|x (Qn rfl)<|Qf ?_
  exact ⟨_,⟨rfl,trivial⟩,hs12,bF (fun e=>h9 e.1)⟩
 rintro z g w6 ⟨hs6,rfl⟩
 exact Ql ⟨[_],⟨rfl,trivial⟩,rfl,hs6⟩
theorem Qgs {L:LN}{w:World}{va vm ve:Value}{a:QM}(h:Zp L w.heap va vm ve a) :
  QG Tryz.prog 179 [.agg #[va,.int .i64 a.st,vm,ve]] w fun r w'=>r=.bool (VO a)∧Step [] w w':=by
 refine QG.of_W Tryz.func179 rfl Tryz.ntmps179 Tryz.results179 (by simp) ?_
 refine Qc<|xl rfl<|QR (us:=[va,.int .i64 a.st,vm,ve]) rfl fun b1 w1 hs1 hb1 hB1=>Qf ?_
 refine QV (α:=Bool) [(2,11)] (fun z=>[(2,.bool z)]) (fun z w'=>Step [] w w'∧z=VO a) (by rfl) ?_ ?_
 ·refine QT (Step [] w1) [(0,true),(1,false),(2,true),(3,true),(4,true),(5,true),(6,false),(7,false),(8,true),(9,true)] Tryz.mixed (by rfl) (by kernel_rfl) (Step.drew _ _) ?_
  have hs1d:=hs1.trans (Step.drew [] w1)
  refine pq (fun _ hc=>Qq (hB1.step hc (by simp)) rfl rfl)<|pk<|xf<|(YP (h.ext hs1d)).mono ?_
  rintro r2 w2 ⟨rfl,hs2⟩
  have hs12:=hs1d.trans hs2
  have hd2:=(Step.drew [] w1).trans hs2
  refine ⟨hd2,?_⟩
  refine pb (fun _=>Zm rfl rfl) (fun h5=>?_) (fun h5=>?_)
  ·have hc:Y8 a=0:=h5
   refine p (fun _=>Qm)<|pq (fun _ hc=>Qq (hB1.step hc (by simp)) rfl rfl)<|pq (fun _ hc=>Qq (hB1.step hc (by simp)) rfl rfl) <|
    pk<|xf<|(yG (h.ext hs12) ((Zt a).1 hc)).mono ?_
   rintro r3 w3 ⟨hs3,va3,vm3,ve3,rfl,hA3⟩
   have hs13:=hs12.trans hs3
   refine ⟨hd2.trans hs3,?_⟩
   refine pk<|xf<|(Qgw (h.ext hs13) (hA3 [] (by simp))).mono ?_
   rintro r4 w4 ⟨rfl,hs4⟩
   refine ⟨(hd2.trans hs3).trans hs4,?_⟩
   refine p (fun _=>Qn rfl)<|p (fun _=>Qe)<|pe ?_
   refine ⟨_,⟨rfl,trivial⟩,hs13.trans hs4,?_⟩
   unfold VO
   rw[decide_eq_true hc,Bool.true_and]
   exact bD ⟨fun e=>⟨e.1.symm,e.2.1.symm,e.2.2.1.symm,e.2.2.2.symm⟩,fun e=>⟨e.1.symm,e.2.1.symm,e.2.2.1.symm,e.2.2.2.symm⟩⟩
  have hc:¬Y8 a=0:=h5
  refine p (fun _=>Qm)<|ps<|ps<|ps<|ps<|p (fun _=>Qn rfl)<|p (fun _=>Qe)<|pe ?_
  exact ⟨_,⟨rfl,trivial⟩,hs12,by unfold VO;rw[decide_eq_false hc];rfl⟩
 rintro z g w5 ⟨hs5,rfl⟩
 exact Ql ⟨[_],⟨rfl,trivial⟩,rfl,hs5⟩
section
variable {P:Program} {f:Fr} {w:World} {d:Option Nat} {ty:Nat} {ps:String} {af:Array Edge} {gd:Option (Nat×Bool)}
theorem ZE {t sz:Nat}[Ag P t sz] {x:Operand}{b T o:Nat}{cs us:LV}(h:QS w.heap b T cs) (hx:ev f x=.pointer (some ⟨b,o,none⟩)) (hl:us.length=sz) (hu:(cs.drop o).take sz=us) :
  (execOp (ev f) ⟨d,.load t x,ty,ps,af,gd⟩).run P w=.ok (.value (.agg us.toArray)) w:=V4 hx hl fun j v hv=>by
 rw[Ym,Xi,h.cell]
 rw[←hu,List.getElem?_take] at hv
 split at hv
 ·simpa using hv
 ·cases hv
end
theorem Qbb {L:LN}{w:World}{v:Value}{qs:List IV}(h:YR L w.heap v qs) :
  QG Tryz.prog 211 [v] w fun r w'=>Step [] w w'∧w'.ownsRow w.heap.size 50 4 r (qs.map (·.p)).length ((qs.map (·.p)).flatMap Zb):=by
 have hle:=h.arr.le
 refine QG.of_W Tryz.func211 rfl Tryz.ntmps211 Tryz.results211 (by simp) ?_
 refine Qc<|Qf ?_
 refine Qc<|Qf ?_
 refine Qg<|Qc<|Qb<|x (Qr h.arr rfl)<|Qb<|xe ?_
 refine Qh<|QA (α:=Nat×Value) [(3,3),(5,5),(8,17)] (fun z=>[(3,z.2),(8,.int .i64 z.1)]) (fun z w'=>z.1≤qs.length∧Step [] w w'∧w'.ownsRow w.heap.size 50 4 z.2 z.1 (((qs.take z.1).map (·.p)).flatMap Zb)) (fun z=>qs.length - z.1) (by rfl) (0,nS) ⟨rfl,rfl,trivial⟩
  ⟨Nat.zero_le _,Step.refl _ _,QP _ _ _ _⟩ ?_
 rintro ⟨k,vo⟩ g w1 ⟨hk,hs1,ho1⟩
 simp only[] at hk ho1
 refine Qc<|x (QB rfl rfl)<|xe ?_
 refine Qg<|QD rfl (fun h9=>?_) (fun h9=>?_)
 ·refine Qz ?_
  have hke:k=qs.length:=by have h10:¬(k:Int)<(qs.length:Int):=h9;omega
  subst hke
  rw[List.take_of_length_le (Nat.le_refl _)] at ho1
  refine Qc<|Qb<|Qf ?_
  exact Ql ⟨[_],⟨rfl,trivial⟩,hs1,by rw[List.length_map];exact ho1⟩
 have hlt:k<qs.length:=by have h10:(k:Int)<(qs.length:Int):=h9;omega
 have hmem:=List.getElem_mem hlt
 have htk:qs.take (k+1)=qs.take k++[qs[k]'hlt]:=List.take_succ_eq_append_getElem hlt
 refine Qi ?_
 refine Qg<|Qh<|Qc<|xig Y6 (h.arr.ext hs1) rfl rfl hlt fun a10 h10=>?_
 refine Zf (qs[k]'hlt) fun q hq=>?_
 rw[hq] at h10 hmem htk
 have hqA:=h.each q hmem
 refine x (QK h10 rfl rfl)<|xl rfl<|Qu (us:=[.string .empty,nS,.int .i64 0,nS,nS]) rfl fun b5 w2 hs2 hb5 hB5=>xl rfl<|Qo (us:=Zh q) hB5 rfl rfl rfl rfl ⟨rfl,hqA.al.one,rfl,hqA.mr.one,hqA.ed.one,trivial⟩ fun w3 hs3 hB5 =>
  xe ?_
 have hs13:Step [] w1 w3:=hs2.then1 hs3 hb5
 refine Qw<|Qb<|x (Qa rfl)<|x (ZE (us:=Zb q.p) hB5 rfl rfl rfl)<|xl rfl<|QI (us:=[Zb q.p]) rfl rfl (by decide) (by simp) ⟨rfl,rfl,trivial⟩ fun b15 w4 hs4 hb15 hB15=>?_
 have hs14:=hs13.trans hs4
 have ho4:=Qt ho1 hs14
 have hz4:=(hs1.trans hs14).size
 have h1s:∀u∈Zb q.p,u.oneCell'=true:=by
  intro u hu
  simp only[List.mem_cons,List.not_mem_nil,or_false] at hu
  rcases hu with rfl | rfl | rfl | rfl
  ·exact hqA.al.one
  ·rfl
  ·exact hqA.mr.one
  ·exact hqA.ed.one
 refine xl rfl<|Q2 (news:=Zb q.p) (L:=[]) ho4 rfl rfl rfl (hB15.at (by simp)) h1s (by omega) (by omega) fun v5 w5 ho5 hs5 hn5=>Qf ?_
 have hge:=Qp ho4
 refine Qw<|x (Qy rfl rfl ⟨by omega,by omega⟩)<|Qb<|xe ?_
 refine ⟨(k+1,v5),by simp only[];omega,⟨rfl,rfl,trivial⟩,hlt,(hs1.trans hs14).then hs5 (fun b hb=>.inr (hge b hb).1),?_⟩
 simp only[]
 rw[htk,List.map_append,List.flatMap_append]
 simpa using ho5
theorem Qfl {L:LN}{w:World}{r:Value}{base e:Nat}{ps:List AV}(h:w.ownsRow base e 4 r ps.length (ps.flatMap Zb)) (hn:ps.length≤1099511627776) (hL:∀b∈L,b<base) (he:∀p∈ps,Zp L w.heap p.va p.vm p.ve p.a):YJ L w.heap r ps :=
 ⟨QX h hn (fun b hb hbL=>by have:=(Qp h b hb).1;have:=hL b hbL;omega),he⟩
theorem Qfk {w:World}{b:Nat}{n m:Int}(hB:QS w.heap b 3 [.int .i64 m]) :
  QG Tryz.prog 180 ([.int .i64 n]++[.pointer (some ⟨b,0,none⟩)]) w fun r w'=>r=.bool (decide (m≤n))∧Step [] w w':=by
 refine QG.of_W Tryz.func180 rfl Tryz.ntmps180 Tryz.results180 (by simp) ?_
 refine Qc<|Qf ?_
 refine Qc<|Qb<|x (Qd hB rfl rfl)<|x (ZH rfl rfl)<|Qf ?_
 exact Ql ⟨[_],⟨rfl,trivial⟩,rfl,Step.refl _ _⟩
abbrev K5 (n:Int):LV:=[.int .i64 n]
theorem Qjk (n:Int):(K5 n).length=1:=rfl
theorem QiM:∀l:LI,l.flatMap K5=l.map (.int .i64)
 | []=>rfl
 | a::l=>by rw[List.flatMap_cons,QiM l];rfl
theorem QL.fl {L:LN}{H:Array Obj}{v:Value}{l:LI}(h:QL L H v l):Zs L H v l.length 1 (l.flatMap K5):=by
 rw[QiM l];exact h
theorem Qji {gp:Nat}{fn:Func}[Fu Tryz.prog gp fn] {cap:LV}{q:Int→Bool}{L:LN}{w:World}{v:Value}{l:LI}(h:Zs L w.heap v l.length 1 (l.flatMap K5))
  (hk:∀e∈l,∀(w1:World),Step [] w w1→QG Tryz.prog gp ([.int .i64 e]++cap) w1 fun r w'=>r=.bool (q e)∧Step [] w1 w') :
  QG Tryz.prog 103 [v,.func (.func gp) #[] cap.toArray] w fun r w'=>r=.int .i64 (fix q 0 l)∧Step [] w w':=by
 have hle:=h.le
 refine QG.of_W Tryz.func103 rfl Tryz.ntmps103 Tryz.results103 (by simp) ?_
 refine Qc<|Qf ?_
 refine Qg<|Qc<|Qb<|x (Qr h rfl)<|Qb<|xe ?_
 refine Qh<|QA (α:=Nat) [(4,5),(8,18)] (fun z=>[(8,.int .i64 z)]) (fun z w'=>z≤l.length∧Step [] w w'∧fix q z (l.drop z)=fix q 0 l) (fun z=>l.length - z) (by rfl) 0 ⟨rfl,trivial⟩
  ⟨Nat.zero_le _,Step.refl _ _,rfl⟩ ?_
 rintro k g w1 ⟨hk1,hs1,hfx⟩
 refine Qc<|x (QB rfl rfl)<|xe ?_
 refine Qg<|QD rfl (fun h9=>?_) (fun h9=>?_)
 ·refine Qz ?_
  have hke:l.length≤k:=by have h10:¬(k:Int)<(l.length:Int):=h9;omega
  rw[List.drop_of_length_le hke] at hfx
  refine Qc<|Qf ?_
  exact Ql ⟨[_],⟨rfl,trivial⟩,by rw[←hfx];rfl,hs1⟩
 have hlt:k<l.length:=by have h10:(k:Int)<(l.length:Int):=h9;omega
 rw[Q5 hlt,Z0] at hfx
 have hmem:=List.getElem_mem hlt
 refine Qi ?_
 refine Qg<|Qh<|Qc<|Qb<|Qf ?_
 refine Qc<|Qb<|Qb<|Qb<|xig Qjk (h.ext hs1) rfl rfl hlt fun a14 h14=>?_
 refine Zf (l[k]'hlt) fun e he=>?_
 rw[he] at h14 hfx hmem
 refine x (Qv h14 rfl)<|xl rfl<|xc (first:=[]) (capt:=cap) rfl<|(hk e hmem w1 hs1).mono ?_
 rintro r2 w2 ⟨rfl,hs2⟩
 refine xe ?_
 refine QW rfl (fun h16=>?_) (fun h16=>?_)
 ·rw[if_pos h16] at hfx
  refine Qc<|Qb<|Qf ?_
  exact Ql ⟨[_],⟨rfl,trivial⟩,by rw[←hfx];rfl,hs1.trans hs2⟩
 rw[if_neg (by rw[h16];decide)] at hfx
 refine Qi ?_
 refine Qw<|x (Qy rfl rfl ⟨by omega,by omega⟩)<|Qb<|xe ?_
 exact ⟨k+1,by omega,⟨rfl,trivial⟩,hlt,hs1.trans hs2,hfx⟩
theorem QjI {gp:Nat}{fn:Func}[Fu Tryz.prog gp fn] {cap:LV}{q:Int→Bool}{L:LN}{w:World}{v:Value}{l:LI}(h:Zs L w.heap v l.length 1 (l.flatMap K5))
  (hk:∀e∈l,∀(w1:World),Step [] w w1→QG Tryz.prog gp ([.int .i64 e]++cap) w1 fun r w'=>r=.bool (q e)∧Step [] w1 w') :
  QG Tryz.prog 55 [v,.func (.func gp) #[] cap.toArray] w fun r w'=>r=.bool (l.any q)∧Step [] w w':=by
 refine QG.of_W Tryz.func55 rfl Tryz.ntmps55 Tryz.results55 (by simp) ?_
 refine Qc<|Qf ?_
 refine Qc<|Qb<|Qb<|xl rfl<|xf<|(Qji h hk).mono ?_
 rintro r1 w1 ⟨rfl,hs1⟩
 refine x (ZH rfl rfl)<|Qf ?_
 exact Ql ⟨[_],⟨rfl,trivial⟩,congrArg Value.bool (yA q l 0),hs1⟩
theorem Qcl {L L':LN}{w:World}{q:IV}{nev:Nat}{vg:Value}{amg:LI}{bm:Nat}{seen:List ByteArray}(hA:Zp L w.heap q.p.va q.p.vm q.p.ve q.p.a) (hnm:VZ q.nm) (hg:QL L' w.heap vg amg) (hgl:amg.length≤4096) (hm:ZA Xp w.heap bm (nmM seen)) (hbL:bm∈L) (hbL':bm∈L') :
  QG Tryz.prog 144 [.agg (Zh q).toArray,.int .i64 nev,vg,.map (some bm)] w fun r w'=>r=.int .i64 (Yb nev amg seen q.it)∧Step [bm] w w'∧(Yb nev amg seen q.it=0→ZA Xp w'.heap bm (nmM (seen++[q.nm]))):=by
 have hr:Yb nev amg seen q.it=(if Kz q.nm=false then 7 else if q.nm∈seen then 8 else if Y8 q.p.a≠0 then Y8 q.p.a else if VO q.p.a=false then 6 else if q.p.a.st=0 then 12 else
  if (q.p.a.al.any fun e=>decide ((nev:Int)≤e))=true then 2 else if (mns q.p.a.al amg).length≠0 then 9 else 0):=rfl
 refine Zf (Yb nev amg seen q.it) fun R hR=>?_
 rw[hR] at hr ⊢
 refine QG.of_W Tryz.func144 rfl Tryz.ntmps144 Tryz.results144 (by simp) ?_
 refine Qc<|xl rfl<|QR (us:=Zh q) rfl fun b4 w1 hs1 hb4 hB4=>xl rfl<|QR (us:=[.int .i64 nev]) rfl fun b5 w2 hs2 hb5 hB5=>Qf ?_
 have hs12:=hs1.trans hs2
 have hB42:=hB4.ext hs2
 refine Qg<|Qh<|Qc<|x (Qa rfl)<|x (Qd hB42 rfl rfl)<|xl rfl<|xf<|(VM q.nm hnm w2).mono ?_
 rintro r3 w3 ⟨rfl,rfl⟩
 refine x (Zo rfl)<|Qf ?_
 refine QW rfl (fun h10=>?_) (fun h10=>?_)
 ·have hn:Kz q.nm=false:=by simpa using h10
  rw[if_pos hn] at hr
  subst hr
  refine Qc<|Qf ?_
  exact Ql ⟨[_],⟨rfl,trivial⟩,rfl,hs12.any,fun e=>absurd e (by decide)⟩
 have hn:¬Kz q.nm=false:=by simpa using h10
 rw[if_neg hn] at hr
 have hm2:=hm.ext hs12
 refine Qc<|Qb<|x (Qa rfl)<|x (Qd hB42 rfl rfl)<|x (jq hm2 rfl rfl)<|Qf ?_
 refine Q3 rfl (fun h15=>?_) (fun h15=>?_)
 ·rw[if_pos h15] at hr
  subst hr
  refine Qc<|Qf ?_
  exact Ql ⟨[_],⟨rfl,trivial⟩,rfl,hs12.any,fun e=>absurd e (by decide)⟩
 rw[if_neg h15] at hr
 refine Qi ?_
 have hbm:=hm.lt
 refine Qc<|Qb<|x (Qa rfl)<|x (Qd hB42 rfl rfl)<|xl rfl<|Yw (k:=q.nm) hm2 rfl rfl fun w4 hs4 hm4=>xe ?_
 rw[show ev _ _=Value.bool true from rfl,Qb7 h15] at hm4
 have hsb4:Step [bm] w w4:=hs12.any.trans' hs4
 have hz1:=hs1.size
 have hB4':=hB42.step hs4 (by simp;omega)
 have hB5':=hB5.step hs4 (by simp;omega)
 have hA4:Zp L w4.heap q.p.va q.p.vm q.p.ve q.p.a:=hA.st (hsb4.mono (fun b hb=>by simp at hb;subst hb;exact hbL))
 have hg4:QL L' w4.heap vg amg:=hg.st (hsb4.mono (fun b hb=>by simp at hb;subst hb;exact hbL'))
 refine Qg<|Qc<|x (Qa rfl)<|x (ZE (us:=Zb q.p) hB4' rfl rfl rfl)<|xl rfl<|xf<|(YP hA4).mono ?_
 rintro r5 w5 ⟨rfl,hs5⟩
 refine Qf ?_
 refine Qc<|Qb<|x (Q6 rfl rfl)<|xe ?_
 refine Q3 rfl (fun h27=>?_) (fun h27=>?_)
 ·rw[if_pos h27] at hr
  subst hr
  refine Qc<|Qb<|Qf ?_
  exact Ql ⟨[_],⟨rfl,trivial⟩,rfl,hsb4.trans hs5,fun e=>absurd e h27⟩
 rw[if_neg h27] at hr
 have hok:=(Zt q.p.a).1 (Decidable.not_not.1 h27)
 refine Qi ?_
 refine Qg<|Qh<|Qc<|x (Qa rfl)<|x (ZE (us:=Zb q.p) (hB4'.ext hs5) rfl rfl rfl)<|xl rfl<|xf<|(Qgs (hA4.ext hs5)).mono ?_
 rintro r6 w6 ⟨rfl,hs6⟩
 have hs46:=hs5.trans hs6
 have hsb6:=hsb4.trans hs46
 have hB46:=hB4'.ext hs46
 refine x (Zo rfl)<|Qf ?_
 refine QW rfl (fun h29=>?_) (fun h29=>?_)
 ·have hn:VO q.p.a=false:=by simpa using h29
  rw[if_pos hn] at hr
  subst hr
  refine Qc<|Qf ?_
  exact Ql ⟨[_],⟨rfl,trivial⟩,rfl,hsb6,fun e=>absurd e (by decide)⟩
 have hn:¬VO q.p.a=false:=by simpa using h29
 rw[if_neg hn] at hr
 refine Qc<|x (Qa rfl)<|x (Qa rfl)<|x (Qd hB46 rfl rfl)<|x (Zm rfl rfl)<|Qf ?_
 refine Q3 rfl (fun h34=>?_) (fun h34=>?_)
 ·have h35:q.p.a.st=0:=h34
  rw[if_pos h35] at hr
  subst hr
  refine Qc<|Qf ?_
  exact Ql ⟨[_],⟨rfl,trivial⟩,rfl,hsb6,fun e=>absurd e (by decide)⟩
 have h35:¬q.p.a.st=0:=h34
 rw[if_neg h35] at hr
 refine Qc<|x (Qa rfl)<|x (Qa rfl)<|x (Qd hB46 rfl rfl)<|x Zj<|xl rfl<|xf<|(QjI (q:=fun e=>decide ((nev:Int)≤e)) (cap:=[.pointer (some ⟨b5,0,none⟩)]) (QL.fl (hA4.al.ext hs46)) (fun e he w2 hs2=>Qfk ((hB5'.ext hs46).ext hs2))).mono ?_
 rintro r7 w7 ⟨rfl,hs7⟩
 have hs47:=hs46.trans hs7
 have hsb7:=hsb4.trans hs47
 refine Qf ?_
 refine QW rfl (fun h39=>?_) (fun h39=>?_)
 ·rw[if_pos h39] at hr
  subst hr
  refine Qc<|Qf ?_
  exact Ql ⟨[_],⟨rfl,trivial⟩,rfl,hsb7,fun e=>absurd e (by decide)⟩
 rw[if_neg (by rw[h39];decide)] at hr
 have hall:=hok.al_le
 refine Qc<|x (Qa rfl)<|x (Qa rfl)<|x (Qd (hB4'.ext hs47) rfl rfl)<|Qb<|xl rfl<|xf<|(QdC (hA4.al.ext hs47) (hg4.ext hs47) (by omega)).mono ?_
 rintro r8 w8 ⟨hs8,rfl⟩
 have hs48:=hs47.trans hs8
 have hsb8:=hsb4.trans hs48
 refine x (Uv rfl)<|Qf ?_
 refine Q3 rfl (fun h45=>?_) (fun h45=>?_)
 ·have h46:(mns q.p.a.al amg).length≠0:=fun e=>h45 (List.eq_nil_of_length_eq_zero e)
  rw[if_pos h46] at hr
  subst hr
  refine Qc<|Qf ?_
  exact Ql ⟨[_],⟨rfl,trivial⟩,rfl,hsb8,fun e=>absurd e (by decide)⟩
 have h46:¬(mns q.p.a.al amg).length≠0:=fun e=>h45 (fun h=>e (by rw[show mns q.p.a.al amg=[] from h];rfl))
 rw[if_neg h46] at hr
 subst hr
 refine Qi ?_
 refine Qc<|Qf ?_
 exact Ql ⟨[_],⟨rfl,trivial⟩,rfl,hsb8,fun _=>hm4.ext hs48⟩
theorem Qdu {L:LN}{w:World}{v:Value}{l:List (Int×Int)}(h:P2s L w.heap v l) :
  QG Tryz.prog 187 [v] w fun r w'=>Step [] w w'∧w'.ownsRow w.heap.size 109 2 r l.length (l.flatMap Q8):=by
 have hle:=h.le
 refine QG.of_W Tryz.func187 rfl Tryz.ntmps187 Tryz.results187 (by simp) ?_
 refine Qc<|Qf ?_
 obtain ⟨ao,cap,hv⟩:=h.shape
 refine Qg<|Qc<|Qb<|x (KU (show ev _ _=_ from hv) rfl)<|xe ?_
 refine QW rfl (fun h4=>?_) (fun h4=>?_)
 ·refine Qc<|Qf ?_
  refine Ql ⟨[nS],⟨rfl,trivial⟩,Step.refl _ _,?_⟩
  rcases h.2.2 with ⟨h1,h2⟩ | ⟨a,c,h1,_⟩
  ·have:l=[]:=List.eq_nil_of_length_eq_zero h2
   subst this;exact QP _ _ _ _
  ·rw[h1] at hv;cases hv;cases h4
 rcases h.2.2 with ⟨h1,h2⟩ | ⟨a,c,h1,h2,h3⟩
 ·rw[h1] at hv;injection hv with e1;subst e1;cases h4
 refine Qi ?_
 refine Qc ?_
 have ho:∀u∈l.flatMap Q8,u.oneCell'=true:=by
  intro u hu
  obtain ⟨p,_,hp⟩:=List.mem_flatMap.1 hu
  simp only[List.mem_cons,List.not_mem_nil,or_false] at hp
  rcases hp with rfl | rfl <;> rfl
 refine xl rfl<|Vx fun b5 w1 hs1 hb5 hB5=>Qb<|xl rfl<|Q2 (base:=w.heap.size) (hB5.own (n:=0) (sz:=2) rfl (by omega) hb5) rfl (show ev _ _=_ from h1) h.1 (h3.ext hs1) ho (by omega) (by have:=hB5.lt;omega) fun v2 w2 ho2 hs2 hn2=>Qf ?_
 refine Ql ⟨[v2],⟨rfl,trivial⟩,hs1.then1 hs2 hb5,?_⟩
 simpa[tup] using ho2
theorem Qdt {L:LN}{w:World}{v:Value}{l:List (Int×Int)}(h:P2s L w.heap v l) :
  QG Tryz.prog 188 [v] w fun r w'=>Step [] w w'∧w'.ownsRow w.heap.size 175 2 r l.length (l.flatMap Q8):=by
 have hle:=h.le
 refine QG.of_W Tryz.func188 rfl Tryz.ntmps188 Tryz.results188 (by simp) ?_
 refine Qc<|Qf ?_
 obtain ⟨ao,cap,hv⟩:=h.shape
 refine Qg<|Qc<|Qb<|x (KU (show ev _ _=_ from hv) rfl)<|xe ?_
 refine QW rfl (fun h4=>?_) (fun h4=>?_)
 ·refine Qc<|Qf ?_
  refine Ql ⟨[nS],⟨rfl,trivial⟩,Step.refl _ _,?_⟩
  rcases h.2.2 with ⟨h1,h2⟩ | ⟨a,c,h1,_⟩
  ·have:l=[]:=List.eq_nil_of_length_eq_zero h2
   subst this;exact QP _ _ _ _
  ·rw[h1] at hv;cases hv;cases h4
 rcases h.2.2 with ⟨h1,h2⟩ | ⟨a,c,h1,h2,h3⟩
 ·rw[h1] at hv;injection hv with e1;subst e1;cases h4
 refine Qi ?_
 refine Qc ?_
 have ho:∀u∈l.flatMap Q8,u.oneCell'=true:=by
  intro u hu
  obtain ⟨p,_,hp⟩:=List.mem_flatMap.1 hu
  simp only[List.mem_cons,List.not_mem_nil,or_false] at hp
  rcases hp with rfl | rfl <;> rfl
 refine xl rfl<|Vx fun b5 w1 hs1 hb5 hB5=>Qb<|xl rfl<|Q2 (base:=w.heap.size) (hB5.own (n:=0) (sz:=2) rfl (by omega) hb5) rfl (show ev _ _=_ from h1) h.1 (h3.ext hs1) ho (by omega) (by have:=hB5.lt;omega) fun v2 w2 ho2 hs2 hn2=>Qf ?_
 refine Ql ⟨[v2],⟨rfl,trivial⟩,hs1.then1 hs2 hb5,?_⟩
 simpa[tup] using ho2
end Go.Proofs.YtgmifemhkjdblaaGreatDoor
