/- Merged out of 19 texts. -/
import Derived.Test.YtdffckgdcegpaaaGreatDoorKlb
namespace Go.Lg
open Go.RowKit
def jX:Fr→LN→LV→Fr
 | f,p::ps,v::vs=>jX (upd f p v) ps vs
 | f,_,_=>f
theorem Vm {n:Nat}{ds:LN}:∀(ps:LN) (vs:LV) (a:Act) (f:Fr),Yp n ds a f→(∀p∈ps,p<n) →
  Yp n ds { tmps:=(ps.zip vs).foldl (λt (x:Nat×Value)=>t.setIfInBounds x.1 x.2) a.tmps,defers:=a.defers } (jX f ps vs)
 | [],_,a,f,h,_=>by cases h;exact ⟨by assumption,by assumption,by assumption⟩
 | p::ps,[],a,f,h,_=>by cases h;exact ⟨by assumption,by assumption,by assumption⟩
 | p::ps,v::vs,a,f,h,hp=>by
  have h2:=h.put (dst:=some p) (λd e=>by cases e;exact hp p List.mem_cons_self) v
  exact Vm ps vs _ _ h2 (λq hq=>hp q (List.mem_cons_of_mem _ hq))
def rdE {α:Type}(B:Nat) (L:LN) (I:List α→World→Prop) (X:Exit→List α→World→Prop) (xs:List α) (W:World):Exit→LN→Fr→World→Prop
 | .normal,_,_,W'=>Jm B L W W'∧I xs W'
 | .ret,_,_,W'=>Jm B L W W'∧X .ret xs W'
 | .exit i,_,_,W'=>Jm B L W W'∧X (.exit i) xs W'
 | _,_,_,_=>False
theorem Qga {α:Type}{m:Nat}{P:Program}{n:Nat}{Q:Exit→LN→Fr→World→Prop}{ds:LN}{f:Fr}{w:World}{g:Operand}{ps:LN}{assign body:Code}(L:LN) (h1:1≤m)
  {gf:Nat} {fn:Func} [hF:Fu P gf fn] {capt:LV} (hg:ev f g=.func (.func gf) #[] capt.toArray) {encs:α→LV} {S Sp:List α→Prop} {N:Nat} (hp:∀p∈ps,p<n) (hlen:∀x,(encs x).length=ps.length)
  (hseq:SeqStopsK (fen none) (m - 1) P gf capt.toArray (λx=>(encs x).toArray) (Lw w.heap.size L) S Sp N w)
  (I:List α→World→Prop) (hI:∀s,ZW w.heap.size (I s)) (X:Exit→List α→World→Prop) (hX:∀e s,ZW w.heap.size (X e s)) (h0:I [] w) (A:Fr→α→Fr→World→Prop) (hA:∀x f',ZW w.heap.size (A f x f'))
  (hassign:∀l pre x W,I pre W→WG (some l) (m - 1 - 1) P n assign (jZ (λds' f' W'=>ds'=[]∧Jm w.heap.size L W W'∧I pre W'∧A f x f' W') (λ_ _ _ _=>False)) [] (jX f ps (encs x)) W)
  (hbody:∀l pre x f' W,I pre W→A f x f' W→pre.length<N→WG (some l) (m - 1 - 1) P n body (rdE w.heap.size L I X (pre++[x]) W) [] f' W)
  (hdone:∀D xs W,w.heap.size≤D→S xs→I xs W→W.heap[D]?=some (.deferred (some []))→Q .normal (D::ds) f W)
  (hstop:∀D e pre W,w.heap.size≤D→Sp pre→X e pre W→W.heap[D]?=some (.deferred (some []))→(e=.ret∨∃i,e=.exit i)→Q e (D::ds) f W) :
  WG none m P n (.rangeFunc g ps.toArray assign body) Q ds f w:=by
 unfold WG at hassign hbody ⊢
 intro a ha
 have eg:∀args w,(callFunc gf args).run P w=.ok (.enter gf args) w:=by
  intro args w
  have h1:¬fn.name = "runtime.NumGoroutine" := by simpa using hF.nm
  have h2:¬fn.body=none:=by have:=hF.b;intro e;rw[e] at this;cases this
  simp[callFunc,hF.f,h1,h2]
 have keep:∀{W W':World},Jm w.heap.size L W W'→KeepsFrom w.heap.size W W':=λh=>⟨h.lw.size,λk o _ hk ho=>h.other k o hk ho⟩
 refine wpIn_rangeFunc_ownH (F:=fen none) rfl h1 (gf:=gf) (lb:=capt.toArray) (by rw[ha.eval];exact hg) trivial eg hseq (λh k=>h.trans k)
  (λW l o o' hl ho _ _=>⟨rfl,rfl,rfl,by simp,λk hk _=>World.putObj_heap_other (by omega)⟩) (Below.refl _ _) (λx=>by simp[hlen x]) I
  (λc pre W=>match c with | .ret=>X .ret pre W | .exit i=>X (.exit i) pre W | _=>False) (ZW.own hI) (λc=>ZW.own λs=>?_) h0
  (λx a' W=>∃f',Yp n [] a' f'∧A f x f' W) (λx a'=>ZW.own λ_=>ZW.ex λf'=>ZW.and (ZW.pure _) (hA x f')) ?_ ?_ ?_ ?_
 ·cases c <;> first | exact hX _ s | exact ZW.pure _
 ·intro l pre x W K hi hK
  have hr:Yp n [] { tmps:=(ps.toArray.zip (encs x).toArray).foldl (λt (p,v)=>t.setIfInBounds p v) a.tmps,defers:=[] } (jX f ps (encs x)):=by
   have h2:Yp n [] { a with defers:=[] } f:=⟨ha.size,rfl,ha.get⟩
   have h3:=Vm ps (encs x) _ _ h2 hp
   have e:(ps.toArray.zip (encs x).toArray).foldl (λt (p,v)=>t.setIfInBounds p v) a.tmps=(ps.zip (encs x)).foldl (λt (x:Nat×Value)=>t.setIfInBounds x.1 x.2) a.tmps:=by simp
   rw[e];exact h3
  refine wpIn_mono (hassign l pre x W hi _ hr) ?_
  rintro e a' W' ⟨ds',f',h2,_,h3⟩
  cases e with
  | normal=>obtain ⟨rfl,h4,h5,h6⟩:=h3;exact hK a' W' (keep h4) h4.lw h5 ⟨f',h2,h6⟩
  | exit id=>exact h3.elim
  | goto l=>exact h3.elim
  | ret=>exact h3.elim
  | panic ch=>exact h3.elim
  | outgrown=>exact h3.elim
 ·rintro l pre x a' W _ _ hi ⟨f',h2,h3⟩ hlt
  refine wpIn_mono (hbody l pre x f' W hi h3 hlt a' h2) ?_
  rintro e a'' W' ⟨ds',f'',h4,_,h5⟩
  cases e with
  | normal=>exact ⟨keep h5.1,h5.1.lw,h5.2⟩
  | exit id=>exact ⟨keep h5.1,h5.2⟩
  | goto l=>exact h5.elim
  | ret=>exact ⟨keep h5.1,h5.2⟩
  | panic ch=>exact h5.elim
  | outgrown=>exact h5.elim
 ·intro D xs W hD hS hi hd
  exact ⟨D::ds,f,⟨ha.size,by rw[show coll (D::ds)={ target:=.collected D,args:=#[] }::coll ds from rfl,ha.defers],ha.get⟩,λ_ _=>rfl,hdone D xs W hD hS hi hd⟩
 ·intro D c pre W hD hS hx hd
  have hrel:Yp n (D::ds) { a with defers:={ target:=.collected D,args:=#[] }::a.defers } f:=⟨ha.size,by rw[show coll (D::ds)={ target:=.collected D,args:=#[] }::coll ds from rfl,ha.defers],ha.get⟩
  cases c with
  | ret=>exact wpIn_ret ⟨_,f,hrel,λ_ _=>rfl,hstop D .ret pre W hD hS hx hd (.inl rfl)⟩
  | exit i=>exact wpIn_exit ⟨_,f,hrel,λ_ _=>rfl,hstop D (.exit i) pre W hD hS hx hd (.inr ⟨i,rfl⟩)⟩
  | _=>exact hx.elim
end Go.Lg
namespace Go.Proofs.YtdffckgdcegpaaaGreatDoor
open Go.Proofs.Tryz
open Go.Lg
theorem Qfa {α:Type}(g:α→LV) (sz:Nat) (hg:∀x,(g x).length=sz):∀(l:List α) (k:Nat),(l.flatMap g).take (k*sz)=(l.take k).flatMap g
 | [],k=>by simp
 | e::l,0=>by simp
 | e::l,k+1=>by
  simp only[List.flatMap_cons,List.take_succ_cons,Nat.add_mul,Nat.one_mul]
  rw[Nat.add_comm,List.take_append,hg,show sz+k*sz - sz=k*sz by omega,Qfa g sz hg l k,List.take_of_length_le (by rw[hg];omega)]
theorem Qbs {gf:Nat}{fn:Func}[Fu prog gf fn] {capt:LV}{nms:List ByteArray}{s:ByteArray}(hnb:VW s) {w:World}{N:Nat}
  (hseq:∀(w':World) (L:LN),Step [] w w'→(∀b∈L,w.heap.size≤b)→SeqStopsK (fen none) 9 prog gf capt.toArray (λx:{ x:ByteArray // x∈nms }=>[Value.string x.1].toArray) (Lw w'.heap.size L) (λys=>ys.map (·.1)=nms) (λ_=>True) N w') :
  QJ prog 169 [.string s,.func (.func gf) #[] capt.toArray] w λr w'=>r=.int .i64 (JN nms s)∧Step [] w w':=by
 refine QJ.of_G 10 func169 rfl ntmps169 results169 (by simp) ?_
 refine Q0<|QK (by rfl) (by rfl) ?_
 refine xl rfl<|QQ (us:=[.string s]) rfl λb2 w1 hs1 hb2 hB2=>xl rfl<|Qt (us:=[.int .i64 0]) rfl λb4 w2 hs2 hb4 hB4=>xe ?_
 have hW2:=hs1.trans hs2
 have hz1:=hs1.size
 have hl4:=hB4.lt
 have hB22:=hB2.ext hs2
 have hl2:=hB2.lt
 refine Q0<|Q0<|QK (by rfl) (by rfl) ?_
 refine x (Qd hB22 rfl rfl)<|xl rfl<|xf<|(VI s hnb _).mono ?_
 rintro r3 w3 ⟨rfl,rfl⟩
 refine x (Zn rfl)<|xe ?_
 refine Ku rfl (λh8=>?_) (λh8=>?_)
 ·have hn:Yy s=false:=by simpa using h8
  have hr:JN nms s=7:=by unfold JN;rw[if_pos hn]
  refine Q0<|QK (by rfl) (by rfl) ?_
  refine xl rfl<|QF (j:=0) (u:=.int .i64 7) hB4 rfl rfl (by decide) rfl λw4 hs4 hB4'=>xe ?_
  refine JR ⟨λ_ h=>(by cases h),List.nodup_nil,[.int .i64 7],λW' hW'=>⟨⟨⟨_,rfl,Yx (At.one ((hB4'.ext hW').at (L:=[]) (by simp)))⟩,trivial⟩,by rw[hr];rfl,(hW2.then1 hs4 (by omega)).trans hW'⟩⟩
 have hn:¬Yy s=false:=by simpa using h8
 refine Yb ?_
 refine Q0<|Q0<|QK (by rfl) (by rfl) ?_
 refine Qb<|xe ?_
 refine ZC<|Qga (α:={ x:ByteArray // x∈nms }) (ps:=[10]) [b4] (by omega) (capt:=capt) rfl (encs:=λx=>[.string x.1]) (by simp) (λ_=>rfl)
  (hseq w3 [b4] hW2 (λb hb=>by simp at hb;omega))
  (λpre W=>Step [b4] w3 W∧Q2 W.heap b2 9 [.string s]∧Q2 W.heap b4 49 [.int .i64 0]∧∀x∈pre,x.1≠s)
  (λpre=>(ZW.step (Nat.le_refl _)).and (ZW.blk.and (ZW.blk.and (ZW.pure _))))
  (λe pre W=>e=.ret∧Step [b4] w3 W∧Q2 W.heap b4 49 [.int .i64 8]∧s∈nms)
  (λe pre=>(ZW.pure _).and ((ZW.step (Nat.le_refl _)).and (ZW.blk.and (ZW.pure _))))
  ⟨Step.refl _ _,hB22,hB4,λx hx=>by cases hx⟩
  (λf x f' W=>f'=upd (jX f [10] [.string x.1]) 5 (.string x.1)) (λx f'=>ZW.pure _) ?_ ?_ ?_ ?_
 ·rintro l pre x W ⟨h1,h2,h3,h4⟩
  refine QK (by rfl) (by rfl) ?_
  refine Lg.Qe ?_
  exact ⟨rfl,Jm.refl _ _ _,⟨h1,h2,h3,h4⟩,rfl⟩
 ·rintro l pre x f' W ⟨h1,h2,h3,h4⟩ rfl _
  refine ZC<|Q0<|QK (by rfl) (by rfl) ?_
  refine Lg.Qb<|Lg.x (Qd h2 rfl rfl)<|Lg.x (Y9 rfl rfl)<|xe ?_
  refine Qh4 rfl (λh13=>?_) (λh13=>?_)
  ·refine Q0<|QK (by rfl) (by rfl) ?_
   refine xl rfl<|QF (j:=0) (u:=.int .i64 8) h3 rfl rfl (by decide) rfl λw4 hs4 hB4'=>xe ?_
   refine JR ?_
   exact ⟨Jm.blk hs4 h1.size h3 (.inl (by simp)),rfl,h1.trans' hs4,hB4',by rw[←h13];exact x.2⟩
  ·refine Yb ?_
   refine ⟨Jm.refl _ _ _,h1,h2,h3,λy hy=>?_⟩
   rcases List.mem_append.1 hy with hy | hy
   ·exact h4 y hy
   ·simp only[List.mem_singleton] at hy;subst hy;exact h13
 ·rintro D xs W hD hxs ⟨h1,h2,h3,h4⟩ hdD
  have hr:JN nms s=0:=by
   unfold JN
   rw[if_neg hn,if_neg]
   intro hm
   rw[←hxs] at hm
   obtain ⟨y,hy,e⟩:=List.mem_map.1 hm
   exact h4 y hy e
  refine Q0<|QK (by rfl) (by rfl) ?_
  refine xl rfl<|QF (j:=0) (u:=.int .i64 0) h3 rfl rfl (by decide) rfl λw4 hs4 hB4'=>xe ?_
  have hne:D≠b4:=by omega
  have hD4:w4.heap[D]?=some (.deferred (some [])):=by rw[hs4.block D (Array.getElem?_eq_some_iff.1 hdD).1 (by simpa using hne)];exact hdD
  refine JR ⟨λE hE=>by simp only[List.mem_singleton] at hE;subst hE;exact hD4,by simp,[.int .i64 0],λW' hW'=>?_⟩
  refine ⟨⟨⟨_,rfl,Yx (At.one ((hB4'.step hW' (by simpa using hne.symm)).at (L:=[]) (by simp)))⟩,trivial⟩,by rw[hr];rfl,?_⟩
  exact ((hW2.then h1 (λb hb=>.inr (by simp at hb;omega))).then1 hs4 (by omega)).then hW' (λb hb=>.inr (by simp at hb;have:=hW2.size;omega))
 ·rintro D e pre W hD _ ⟨rfl,h1,h3,h4⟩ hdD _
  have hr:JN nms s=8:=by unfold JN;rw[if_neg hn,if_pos h4]
  have hne:D≠b4:=by omega
  refine ⟨λE hE=>by simp only[List.mem_singleton] at hE;subst hE;exact hdD,by simp,[.int .i64 8],λW' hW'=>?_⟩
  refine ⟨⟨⟨_,rfl,Yx (At.one ((h3.step hW' (by simpa using hne.symm)).at (L:=[]) (by simp)))⟩,trivial⟩,by rw[hr];rfl,?_⟩
  exact (hW2.then h1 (λb hb=>.inr (by simp at hb;omega))).then hW' (λb hb=>.inr (by simp at hb;have:=hW2.size;omega))
end Go.Proofs.YtdffckgdcegpaaaGreatDoor
namespace Go.Lg
theorem Xu.pre3 {P:Program}{m:Nat}{ops:List Oper}{K:Fr→World→Prop}{o1 o2 o3:Oper}{l2:List Oper}{f:Fr}{w:World}(h:XL P ops (λf w=>Xu P m ops K l2 f w) [o1,o2,o3] f w):Xu P m ops K (o1::o2::o3::l2) f w:=Xu.pre [o1,o2,o3] f w h
end Go.Lg
namespace Go.Proofs.YtdffckgdcegpaaaGreatDoor
open Go.Proofs.Tryz
open Go.Lg
theorem Qfn {L:LN}{w:World}{b1 b2 i m:Nat}{vs vx vk:Value}{qs:List XV}{nms:List ByteArray}(hB1:Q2 w.heap b1 151 [vs,vx,vk]) (hB2:Q2 w.heap b2 3 [.int .i64 i]) (hX:qd L w.heap vx qs) (hi:i≤qs.length) (hn:nms=(qs.take i).map (·.nm)) :
  SeqStopsK (fen none) m prog 168 [.pointer (some ⟨b1,0,none⟩),.pointer (some ⟨b2,0,none⟩)].toArray (λx:{ x:ByteArray // x∈nms }=>[Value.string x.1].toArray) (Lw w.heap.size L)
   (λys=>ys.map (·.1)=nms) (λ_=>True) (nms.length+1) w:=by
 intro l J Jx W hbel hJ hJx hY h0
 have hwW:Step [] w W:=Step.of_below hbel
 have ab:∀{ys:List { x:ByteArray // x∈nms }} {W1 W2:World},J ys W1→Step [] W1 W2→J ys W2:=λ{ys W1 W2} hj hst=>hJ ys W1 W2 none hj ⟨hst.os,hst.tape,hst.output,hst.size,λk hk _=>hst.block k hk (by simp)⟩ (λr e=>by cases e)
 have hle:=hX.arr.le
 have hnl:nms.length=i:=by rw[hn];simp;omega
 have key:QJ prog 168 [.func (.yield l) #[] #[],.pointer (some ⟨b1,0,none⟩),.pointer (some ⟨b2,0,none⟩)] W (λ_ W'=>(∃ys,ys.map (·.1)=nms∧J ys W')∨(∃pre,True∧Jx pre W')):=by
  refine QJ.of_G m func168 rfl ntmps168 results168 (by simp) ?_
  have hB1':=hB1.ext hwW
  have hB2':=hB2.ext hwW
  refine Q0<|QK (by rfl) (by rfl) ?_
  refine x (Qa rfl)<|x (Qd hB1' rfl rfl)<|x (Qd hB2' rfl rfl)<|Qiq hX.arr rfl rfl hi λv9 hA9=>x (Qr hA9 rfl)<|Qb<|xe ?_
  have hel:(qs.take i).length=i:=by simp;omega
  have hS:Zj L w.heap v9 (qs.take i).length 2 ((qs.take i).flatMap Q9):=by
   rw[hel,←Qfa Q9 2 YZ];exact hA9
  refine ZC<|VJ (α:=Nat×List { x:ByteArray // x∈nms }) [(5,5),(11,20)] (λz=>[(11,.int .i64 z.1)]) (λz ds W'=>ds=[]∧z.1≤i∧Step L w W'∧z.2.map (·.1)=nms.take z.1∧J z.2 W') (λz=>i - z.1) (by rfl) (0,[]) ⟨rfl,trivial⟩
   ⟨rfl,Nat.zero_le _,hwW.any,rfl,h0⟩ ?_
  rintro ⟨k,ys⟩ g ds w1 ⟨rfl,hk,hs1,hys,hJ1⟩
  simp only[] at hk hys hJ1
  refine Q0<|QK (by rfl) (by rfl) ?_
  refine x (QB rfl rfl)<|xe ?_
  refine Q0<|zf rfl (λh12=>?_) (λh12=>?_)
  ·refine JS ?_
   have hke:i≤k:=by have h13:¬(k:Int)<(i:Int):=h12;omega
   rw[List.take_of_length_le (by omega)] at hys
   exact ⟨λ_ h=>(by cases h),List.nodup_nil,[],λW' hW'=>⟨trivial,.inl ⟨ys,hys,ab hJ1 hW'⟩⟩⟩
  refine Yb ?_
  have hlt:k<i:=by have h13:(k:Int)<(i:Int):=h12;omega
  have hkq:k<(qs.take i).length:=by omega
  have hkn:k<nms.length:=by omega
  have htk:nms.take (k+1)=nms.take k++[nms[k]'hkn]:=List.take_succ_eq_append_getElem hkn
  have hyl:ys.length=k:=by have:=congrArg List.length hys;rw[List.length_map,List.length_take] at this;omega
  have hnq:nms[k]'hkn=((qs.take i)[k]'hkq).nm:=by subst hn;simp
  have hme:=List.getElem_mem hkn
  rw[hnq] at htk hme
  refine Q0<|ZC<|Q0<|QK (by rfl) (by rfl) ?_
  refine xig YZ (i:=k) (hS.st hs1) rfl rfl hkq λa13 h13=>?_
  refine Zd ((qs.take i)[k]'hkq) λq hq=>?_
  rw[hq] at h13 htk hme
  have h1c:=(hX.each q (List.mem_of_mem_take (by rw[←hq];exact List.getElem_mem hkq))).one
  refine x (QC h13 rfl rfl)<|xl rfl<|Qt (us:=[.string .empty,nS]) rfl λb5 w2 hs2 hb5 hB5=>xl rfl<|Qn (us:=Q9 q) hB5 rfl rfl rfl rfl ⟨rfl,h1c,trivial⟩ λw3 hs3 hB5'=>xe ?_
  have hs13:Step [] w1 w3:=hs2.then1 hs3 hb5
  refine Q0<|J1 (by rfl) ?_
  refine Xu.pre3 ?_
  refine Qb<|x (Qa rfl)<|x (Qd hB5' rfl rfl)<|xe ?_
  refine xy (l:=l) rfl (hY ys ⟨q.nm,hme⟩ w3 (ab hJ1 hs13) (by omega)) λen W3 hen=>Or.elim hen (λh1=>⟨.bool true,h1.1,?_⟩) (λh1=>⟨.bool false,h1.1,?_⟩)
  ·refine Xu.of_XL<|x (Zn rfl)<|xe ?_
   refine J2 rfl<|Yb ?_
   refine QK (by rfl) (by rfl) ?_
   refine QO rfl rfl<|Qb<|xe ?_
   exact ⟨(k+1,ys++[⟨q.nm,hme⟩]),by simp only[];omega,⟨rfl,trivial⟩,rfl,hlt,(hs1.trans hs13).lw h1.2.2,by rw[htk,List.map_append,hys];rfl,h1.2.1⟩
  ·refine Xu.of_XL<|x (Zn rfl)<|xe ?_
   refine yi rfl ?_
   refine JR ⟨λ_ h=>(by cases h),List.nodup_nil,[],λW' hW'=>⟨trivial,.inr ⟨ys++[⟨q.nm,hme⟩],trivial,?_⟩⟩⟩
   exact hJx _ W3 W' none h1.2 ⟨hW'.os,hW'.tape,hW'.output,hW'.size,λk hk _=>hW'.block k hk (by simp)⟩ (λr e=>by cases e)
 refine (callsIn_wide (n:=m)).2 ?_
 have ea:(#[.func (.yield l) #[] #[]]++[.pointer (some ⟨b1,0,none⟩),.pointer (some ⟨b2,0,none⟩)].toArray:Array Value)=[.func (.yield l) #[] #[],.pointer (some ⟨b1,0,none⟩),.pointer (some ⟨b2,0,none⟩)].toArray:=by simp
 rw[ea]
 unfold QJ at key
 refine Calls.mono key λe w' he=>?_
 cases e with
 | returned v=>exact ⟨⟨v,rfl⟩,he⟩
 | panicked c=>exact he.elim
 | outgrown=>exact he.elim
theorem Qfz {L:LN}{w:World}{b1 b2 i m:Nat}{vs vx vk:Value}{qs:List KV}{nms:List ByteArray}(hB1:Q2 w.heap b1 151 [vs,vx,vk]) (hB2:Q2 w.heap b2 3 [.int .i64 i]) (hX:U5 L w.heap vk qs) (hi:i≤qs.length) (hn:nms=(qs.take i).map (·.nm)) :
  SeqStopsK (fen none) m prog 171 [.pointer (some ⟨b1,0,none⟩),.pointer (some ⟨b2,0,none⟩)].toArray (λx:{ x:ByteArray // x∈nms }=>[Value.string x.1].toArray) (Lw w.heap.size L)
   (λys=>ys.map (·.1)=nms) (λ_=>True) (nms.length+1) w:=by
 intro l J Jx W hbel hJ hJx hY h0
 have hwW:Step [] w W:=Step.of_below hbel
 have ab:∀{ys:List { x:ByteArray // x∈nms }} {W1 W2:World},J ys W1→Step [] W1 W2→J ys W2:=λ{ys W1 W2} hj hst=>hJ ys W1 W2 none hj ⟨hst.os,hst.tape,hst.output,hst.size,λk hk _=>hst.block k hk (by simp)⟩ (λr e=>by cases e)
 have hle:=hX.arr.le
 have hnl:nms.length=i:=by rw[hn];simp;omega
 have key:QJ prog 171 [.func (.yield l) #[] #[],.pointer (some ⟨b1,0,none⟩),.pointer (some ⟨b2,0,none⟩)] W (λ_ W'=>(∃ys,ys.map (·.1)=nms∧J ys W')∨(∃pre,True∧Jx pre W')):=by
  refine QJ.of_G m func171 rfl ntmps171 results171 (by simp) ?_
  have hB1':=hB1.ext hwW
  have hB2':=hB2.ext hwW
  refine Q0<|QK (by rfl) (by rfl) ?_
  refine x (Qa rfl)<|x (Qd hB1' rfl rfl)<|x (Qd hB2' rfl rfl)<|Qiq hX.arr rfl rfl hi λv9 hA9=>x (Qr hA9 rfl)<|Qb<|xe ?_
  have hel:(qs.take i).length=i:=by simp;omega
  have hS:Zj L w.heap v9 (qs.take i).length 3 ((qs.take i).flatMap Za):=by
   rw[hel,←Qfa Za 3 YN];exact hA9
  refine ZC<|VJ (α:=Nat×List { x:ByteArray // x∈nms }) [(5,5),(11,20)] (λz=>[(11,.int .i64 z.1)]) (λz ds W'=>ds=[]∧z.1≤i∧Step L w W'∧z.2.map (·.1)=nms.take z.1∧J z.2 W') (λz=>i - z.1) (by rfl) (0,[]) ⟨rfl,trivial⟩
   ⟨rfl,Nat.zero_le _,hwW.any,rfl,h0⟩ ?_
  rintro ⟨k,ys⟩ g ds w1 ⟨rfl,hk,hs1,hys,hJ1⟩
  simp only[] at hk hys hJ1
  refine Q0<|QK (by rfl) (by rfl) ?_
  refine x (QB rfl rfl)<|xe ?_
  refine Q0<|zf rfl (λh12=>?_) (λh12=>?_)
  ·refine JS ?_
   have hke:i≤k:=by have h13:¬(k:Int)<(i:Int):=h12;omega
   rw[List.take_of_length_le (by omega)] at hys
   exact ⟨λ_ h=>(by cases h),List.nodup_nil,[],λW' hW'=>⟨trivial,.inl ⟨ys,hys,ab hJ1 hW'⟩⟩⟩
  refine Yb ?_
  have hlt:k<i:=by have h13:(k:Int)<(i:Int):=h12;omega
  have hkq:k<(qs.take i).length:=by omega
  have hkn:k<nms.length:=by omega
  have htk:nms.take (k+1)=nms.take k++[nms[k]'hkn]:=List.take_succ_eq_append_getElem hkn
  have hyl:ys.length=k:=by have:=congrArg List.length hys;rw[List.length_map,List.length_take] at this;omega
  have hnq:nms[k]'hkn=((qs.take i)[k]'hkq).nm:=by subst hn;simp
  have hme:=List.getElem_mem hkn
  rw[hnq] at htk hme
  refine Q0<|ZC<|Q0<|QK (by rfl) (by rfl) ?_
  refine xig YN (i:=k) (hS.st hs1) rfl rfl hkq λa13 h13=>?_
  refine Zd ((qs.take i)[k]'hkq) λq hq=>?_
  rw[hq] at h13 htk hme
  have h1c:=(hX.each q (List.mem_of_mem_take (by rw[←hq];exact List.getElem_mem hkq))).one
  refine x (QC h13 rfl rfl)<|xl rfl<|Qt (us:=[.string .empty,nS,.int .i64 0]) rfl λb5 w2 hs2 hb5 hB5=>xl rfl<|Qn (us:=Za q) hB5 rfl rfl rfl rfl ⟨rfl,h1c,rfl,trivial⟩ λw3 hs3 hB5'=>xe ?_
  have hs13:Step [] w1 w3:=hs2.then1 hs3 hb5
  refine Q0<|J1 (by rfl) ?_
  refine Xu.pre3 ?_
  refine Qb<|x (Qa rfl)<|x (Qd hB5' rfl rfl)<|xe ?_
  refine xy (l:=l) rfl (hY ys ⟨q.nm,hme⟩ w3 (ab hJ1 hs13) (by omega)) λen W3 hen=>Or.elim hen (λh1=>⟨.bool true,h1.1,?_⟩) (λh1=>⟨.bool false,h1.1,?_⟩)
  ·refine Xu.of_XL<|x (Zn rfl)<|xe ?_
   refine J2 rfl<|Yb ?_
   refine QK (by rfl) (by rfl) ?_
   refine QO rfl rfl<|Qb<|xe ?_
   exact ⟨(k+1,ys++[⟨q.nm,hme⟩]),by simp only[];omega,⟨rfl,trivial⟩,rfl,hlt,(hs1.trans hs13).lw h1.2.2,by rw[htk,List.map_append,hys];rfl,h1.2.1⟩
  ·refine Xu.of_XL<|x (Zn rfl)<|xe ?_
   refine yi rfl ?_
   refine JR ⟨λ_ h=>(by cases h),List.nodup_nil,[],λW' hW'=>⟨trivial,.inr ⟨ys++[⟨q.nm,hme⟩],trivial,?_⟩⟩⟩
   exact hJx _ W3 W' none h1.2 ⟨hW'.os,hW'.tape,hW'.output,hW'.size,λk hk _=>hW'.block k hk (by simp)⟩ (λr e=>by cases e)
 refine (callsIn_wide (n:=m)).2 ?_
 have ea:(#[.func (.yield l) #[] #[]]++[.pointer (some ⟨b1,0,none⟩),.pointer (some ⟨b2,0,none⟩)].toArray:Array Value)=[.func (.yield l) #[] #[],.pointer (some ⟨b1,0,none⟩),.pointer (some ⟨b2,0,none⟩)].toArray:=by simp
 rw[ea]
 unfold QJ at key
 refine Calls.mono key λe w' he=>?_
 cases e with
 | returned v=>exact ⟨⟨v,rfl⟩,he⟩
 | panicked c=>exact he.elim
 | outgrown=>exact he.elim
set_option maxHeartbeats 4000000 in
theorem UP {w:World}{vs vx vk:Value}{sz:LI}{qx:List XV}{ks:List KV}(hS:QL [] w.heap vs sz) (hX:qd [] w.heap vx qx) (hK:U5 [] w.heap vk ks) :
  QJ prog 97 [.agg #[vs,vx,vk]] w λr w'=>r=.int .i64 (Yr sz (qx.map (·.x)) (ks.map (·.k)))∧Step [] w w':=by
 have hsl:=hS.le
 have hxl:=hX.arr.le
 have hkl:=hK.arr.le
 refine QJ.of_W func97 rfl ntmps97 results97 (by simp) ?_
 refine Qc<|xl rfl<|QQ (us:=[vs,vx,vk]) rfl λb1 w1 hs1 hb1 hB1=>Qe<|Qf<|Qc<|x (Qa rfl)<|x (Qd hB1 rfl rfl)<|x (Qr (hS.ext hs1) rfl)<|x (ZO rfl rfl)<|xe ?_
 refine Q4 rfl (λh18=>?_) (λh18=>?_)
 ·refine Qc<|Qe ?_
  exact Ql ⟨[_],⟨rfl,trivial⟩,by unfold Yr;rw[if_pos (by have h19:(8:Int)<(sz.length:Int):=h18;omega)];rfl,hs1⟩
 have hn8:¬8<sz.length:=by have h19:¬(8:Int)<(sz.length:Int):=h18;omega
 refine Qi<|Qf<|Qc<|x (Qa rfl)<|x (Qd hB1 rfl rfl)<|x (Qr (hS.ext hs1) rfl)<|Qb<|xe ?_
 refine Qg<|QA (α:=Nat) [(2,2),(4,4),(22,32)] (λz=>[(22,.int .i64 z)]) (λz w'=>z≤sz.length∧w'=w1∧(sz.drop z).any Jq=sz.any Jq) (λz=>sz.length - z) (by rfl) 0 ⟨rfl,trivial⟩
  ⟨Nat.zero_le _,rfl,rfl⟩ ?_
 rintro k g w2 ⟨hk,rfl,hany⟩
 refine Qc<|x (QB rfl rfl)<|xe ?_
 refine Qf<|QG rfl (λh23=>?_) (λh23=>?_)
 ·refine Qx ?_
  have hke:sz.length≤k:=by have h24:¬(k:Int)<(sz.length:Int):=h23;omega
  rw[List.drop_of_length_le hke] at hany
  have hany0:¬sz.any Jq=true:=by rw[←hany];decide
  refine Qf<|QU (α:=Bool) [(33,42)] (λz=>[(42,.bool z)]) (λz w'=>w'=w2∧z=decide (32<qx.length∨32<ks.length)) (by rfl) ?_ ?_
  ·refine Qw<|x (Qa rfl)<|x (Qd hB1 rfl rfl)<|x (Qr (hX.ext hs1).arr rfl)<|xb (ZO rfl rfl) (λh36=>?_) (λh36=>?_)
   ·refine Qb<|xs rfl<|xs rfl<|xs rfl<|xs rfl<|x (Qm rfl)<|xe ?_
    exact ⟨_,⟨rfl,trivial⟩,rfl,by first | exact bT (by omega) | exact bF (by omega) | exact bD (by omega)⟩
   refine Qb<|x (Qa rfl)<|x (Qd hB1 rfl rfl)<|x (Qr (hK.ext hs1).arr rfl)<|x (ZO rfl rfl)<|x (Qm rfl)<|xe ?_
   exact ⟨_,⟨rfl,trivial⟩,rfl,by first | exact bT (by omega) | exact bF (by omega) | exact bD (by omega)⟩
  rintro z g w3 ⟨rfl,rfl⟩
  refine Q4 rfl (λh42=>?_) (λh42=>?_)
  ·refine Qc<|Qe ?_
   exact Ql ⟨[_],⟨rfl,trivial⟩,by unfold Yr;rw[if_neg hn8,if_neg hany0,if_pos (by simpa using h42)];rfl,hs1⟩
  have hn32:¬(32<(qx.map (·.x)).length∨32<(ks.map (·.k)).length):=by simpa using h42
  have hcx:Ya sz [] (qx.map (·.x))≠0→Yr sz (qx.map (·.x)) (ks.map (·.k))=Ya sz [] (qx.map (·.x)):=λh=>by
   unfold Yr;rw[if_neg hn8,if_neg hany0,if_neg hn32,if_pos h]
  have hcc0:Ya sz [] (qx.map (·.x))=0→Yr sz (qx.map (·.x)) (ks.map (·.k))=YA sz [] (ks.map (·.k)):=λh=>by
   unfold Yr;rw[if_neg hn8,if_neg hany0,if_neg hn32,if_neg (by rw[h];exact λh=>h rfl)]
  refine Qi<|Qf<|Qc<|x (Qa rfl)<|x (Qd (hB1.ext (Step.refl [] w3)) rfl rfl)<|x (Qr ((hX.ext hs1).ext (Step.refl [] w3)).arr rfl)<|Qb<|xe ?_
  refine Qg<|QA (α:=Nat) [(2,2),(5,9),(46,65)] (λz=>[(46,.int .i64 z)]) (λz w'=>z≤qx.length∧Step [] w3 w'∧Ya sz ((qx.take z).map (·.nm)) ((qx.drop z).map (·.x))=Ya sz [] (qx.map (·.x))) (λz=>qx.length - z) (by rfl) 0 ⟨rfl,trivial⟩
   ⟨Nat.zero_le _,(Step.refl [] w3),rfl⟩ ?_
  rintro k g wA ⟨hk,hsA,hck⟩
  refine Qc<|x (QB rfl rfl)<|xe ?_
  refine Qf<|QG rfl (λhc1=>?_) (λhc1=>?_)
  ·refine Qx ?_
   have hke:qx.length≤k:=by have h16:¬(k:Int)<(qx.length:Int):=hc1;omega
   rw[List.drop_of_length_le hke] at hck
   have hz1:Ya sz [] (qx.map (·.x))=0:=hck.symm
   have hcc:=hcc0 hz1
   refine Qf<|Qc<|x (Qa rfl)<|x (Qd (hB1.ext hsA) rfl rfl)<|x (Qr ((hK.ext hs1).ext hsA).arr rfl)<|Qb<|xe ?_
   refine Qg<|QA (α:=Nat) [(2,2),(10,14),(69,88)] (λz=>[(69,.int .i64 z)]) (λz w'=>z≤ks.length∧Step [] w3 w'∧YA sz ((ks.take z).map (·.nm)) ((ks.drop z).map (·.k))=YA sz [] (ks.map (·.k))) (λz=>ks.length - z) (by rfl) 0 ⟨rfl,trivial⟩
    ⟨Nat.zero_le _,hsA,rfl⟩ ?_
   rintro k g wA ⟨hk,hsA,hck⟩
   refine Qc<|x (QB rfl rfl)<|xe ?_
   refine Qf<|QG rfl (λhc1=>?_) (λhc1=>?_)
   ·refine Qx ?_
    have hke:ks.length≤k:=by have h16:¬(k:Int)<(ks.length:Int):=hc1;omega
    rw[List.drop_of_length_le hke] at hck
    have hz2:YA sz [] (ks.map (·.k))=0:=hck.symm
    refine Qc<|Qe ?_
    exact Ql ⟨[_],⟨rfl,trivial⟩,by rw[hcc,hz2];rfl,hs1.trans hsA⟩
   have hlt:k<ks.length:=by have h16:(k:Int)<(ks.length:Int):=hc1;omega
   have htk:(ks.take (k+1)).map (·.nm)=(ks.take k).map (·.nm)++[(ks[k]'hlt).nm]:=by rw[List.take_succ_eq_append_getElem hlt,List.map_append];rfl
   rw[QX hlt,List.map_cons] at hck
   have hmem:=List.getElem_mem hlt
   have hXA:=(hK.ext hs1).ext hsA
   have hB1A:=hB1.ext hsA
   refine Qi<|Qf<|Qg<|Qc<|Qb<|xig YN hXA.arr rfl rfl hlt λaA hA=>?_
   refine Zd (ks[k]'hlt) λq hq=>?_
   rw[hq] at hA hck htk hmem
   have hqA:=hXA.each q hmem
   refine x (QC hA rfl rfl)<|xl rfl<|Qt (us:=[.int .i64 0]) rfl λb5 w3 hs3 hb5 hB5=>xl rfl<|Qt (us:=[.string .empty,nS,.int .i64 0]) rfl λb6 w4 hs4 hb6 hB6 =>
    xl rfl<|QF (j:=0) (u:=.int .i64 k) (hB5.ext hs4) rfl rfl (by decide) rfl λw5 hs5 hB5'=>xl rfl<|Qn (us:=Za q) (hB6.step hs5 (by have:=hB5.lt;simp;omega)) rfl rfl rfl rfl ⟨rfl,hqA.one,rfl,trivial⟩ λw6 hs6 hB6'=>xe ?_
   have hb56:b5<b6:=by have:=hB5.lt;omega
   have hsA6:Step [] wA w6:=((hs3.trans hs4).then1 hs5 hb5).then1 hs6 (by have:=hs3.size;omega)
   have hB56:Q2 w6.heap b5 3 [.int .i64 k]:=hB5'.step hs6 (by simp;omega)
   have hB16:=hB1A.ext hsA6
   have hX6:=hXA.ext hsA6
   refine Qc<|x Zr<|Qe<|Qf<|Qc<|x (Qa rfl)<|x (Qd hB6' rfl rfl)<|Qb<|xl rfl<|xf<|(Qbs (nms:=(ks.take k).map (·.nm)) (capt:=[.pointer (some ⟨b1,0,none⟩),.pointer (some ⟨b5,0,none⟩)]) (hXA.nm q hmem) (λw' L hw' hL=>Qfz (hB16.ext hw') (hB56.ext hw') ((hX6.up (λb hb=>.inr (hL b hb))).ext hw') hk rfl)).mono ?_
   rintro r7 w7 ⟨rfl,hs7⟩
   refine Qe ?_
   have hsA7:=hsA6.trans hs7
   refine Qc<|Qb<|x (Q8 rfl rfl)<|xe ?_
   refine Q4 rfl (λhc2=>?_) (λhc2=>?_)
   ·have e1:YA sz [] (ks.map (·.k))=JN ((ks.take k).map (·.nm)) q.nm:=by rw[←hck];exact if_pos hc2
    refine Qc<|Qb<|Qe ?_
    exact Ql ⟨[_],⟨rfl,trivial⟩,by rw[hcc,e1];rfl,hs1.trans (hsA.trans hsA7)⟩
   have hck1:(if YH sz q.k≠0 then YH sz q.k else YA sz ((ks.take k).map (·.nm)++[q.nm]) ((ks.drop (k+1)).map (·.k)))=YA sz [] (ks.map (·.k)):=by rw[←hck];exact (if_neg hc2).symm
   refine Qi ?_
   have hB17:=hB16.ext hs7
   have hB67:=hB6'.ext hs7
   refine Qc<|x (Qq hB17 rfl rfl)<|x (Qq hB67 rfl rfl)<|xl rfl<|xf<|(Ko (((hS.ext hs1).ext hsA).ext hsA7) (hqA.ext hsA7)).mono ?_
   rintro r8 w8 ⟨rfl,hs8⟩
   refine Qe ?_
   have hsA8:=hsA7.trans hs8
   refine Qc<|Qb<|x (Q8 rfl rfl)<|xe ?_
   refine Q4 rfl (λhc3=>?_) (λhc3=>?_)
   ·have e1:YA sz [] (ks.map (·.k))=YH sz q.k:=by rw[←hck1];exact if_pos hc3
    have hc3':YH sz q.k≠0:=hc3
    refine Qc<|Qb<|Qe ?_
    exact Ql ⟨[_],⟨rfl,trivial⟩,by rw[hcc,e1];rfl,hs1.trans (hsA.trans hsA8)⟩
   have hck2:YA sz ((ks.take k).map (·.nm)++[q.nm]) ((ks.drop (k+1)).map (·.k))=YA sz [] (ks.map (·.k)):=by rw[←hck1];exact (if_neg hc3).symm
   refine Qi<|Qw<|QO rfl rfl<|Qb<|xe ?_
   exact ⟨k+1,by omega,⟨rfl,trivial⟩,hlt,hsA.trans hsA8,by rw[htk];exact hck2⟩
  have hlt:k<qx.length:=by have h16:(k:Int)<(qx.length:Int):=hc1;omega
  have htk:(qx.take (k+1)).map (·.nm)=(qx.take k).map (·.nm)++[(qx[k]'hlt).nm]:=by rw[List.take_succ_eq_append_getElem hlt,List.map_append];rfl
  rw[QX hlt,List.map_cons] at hck
  have hmem:=List.getElem_mem hlt
  have hXA:=(hX.ext hs1).ext hsA
  have hB1A:=hB1.ext hsA
  refine Qi<|Qf<|Qg<|Qc<|Qb<|xig YZ hXA.arr rfl rfl hlt λaA hA=>?_
  refine Zd (qx[k]'hlt) λq hq=>?_
  rw[hq] at hA hck htk hmem
  have hqA:=hXA.each q hmem
  refine x (QC hA rfl rfl)<|xl rfl<|Qt (us:=[.int .i64 0]) rfl λb5 w3 hs3 hb5 hB5=>xl rfl<|Qt (us:=[.string .empty,nS]) rfl λb6 w4 hs4 hb6 hB6 =>
   xl rfl<|QF (j:=0) (u:=.int .i64 k) (hB5.ext hs4) rfl rfl (by decide) rfl λw5 hs5 hB5'=>xl rfl<|Qn (us:=Q9 q) (hB6.step hs5 (by have:=hB5.lt;simp;omega)) rfl rfl rfl rfl ⟨rfl,hqA.one,trivial⟩ λw6 hs6 hB6'=>xe ?_
  have hb56:b5<b6:=by have:=hB5.lt;omega
  have hsA6:Step [] wA w6:=((hs3.trans hs4).then1 hs5 hb5).then1 hs6 (by have:=hs3.size;omega)
  have hB56:Q2 w6.heap b5 3 [.int .i64 k]:=hB5'.step hs6 (by simp;omega)
  have hB16:=hB1A.ext hsA6
  have hX6:=hXA.ext hsA6
  refine Qc<|x Zr<|Qe<|Qf<|Qc<|x (Qa rfl)<|x (Qd hB6' rfl rfl)<|Qb<|xl rfl<|xf<|(Qbs (nms:=(qx.take k).map (·.nm)) (capt:=[.pointer (some ⟨b1,0,none⟩),.pointer (some ⟨b5,0,none⟩)]) (hXA.nm q hmem) (λw' L hw' hL=>Qfn (hB16.ext hw') (hB56.ext hw') ((hX6.up (λb hb=>.inr (hL b hb))).ext hw') hk rfl)).mono ?_
  rintro r7 w7 ⟨rfl,hs7⟩
  refine Qe ?_
  have hsA7:=hsA6.trans hs7
  refine Qc<|Qb<|x (Q8 rfl rfl)<|xe ?_
  refine Q4 rfl (λhc2=>?_) (λhc2=>?_)
  ·have e1:Ya sz [] (qx.map (·.x))=JN ((qx.take k).map (·.nm)) q.nm:=by rw[←hck];exact if_pos hc2
   refine Qc<|Qb<|Qe ?_
   exact Ql ⟨[_],⟨rfl,trivial⟩,by rw[hcx (by rw[e1];exact hc2),e1];rfl,hs1.trans (hsA.trans hsA7)⟩
  have hck1:(if XK sz q.ls≠0 then XK sz q.ls else Ya sz ((qx.take k).map (·.nm)++[q.nm]) ((qx.drop (k+1)).map (·.x)))=Ya sz [] (qx.map (·.x)):=by rw[←hck];exact (if_neg hc2).symm
  refine Qi ?_
  have hB17:=hB16.ext hs7
  have hB67:=hB6'.ext hs7
  refine Qc<|x (Qq hB17 rfl rfl)<|x (Qq hB67 rfl rfl)<|xl rfl<|xf<|(K9 (((hS.ext hs1).ext hsA).ext hsA7) (hqA.ext hsA7)).mono ?_
  rintro r8 w8 ⟨rfl,hs8⟩
  refine Qe ?_
  have hsA8:=hsA7.trans hs8
  refine Qc<|Qb<|x (Q8 rfl rfl)<|xe ?_
  refine Q4 rfl (λhc3=>?_) (λhc3=>?_)
  ·have e1:Ya sz [] (qx.map (·.x))=XK sz q.ls:=by rw[←hck1];exact if_pos hc3
   have hc3':XK sz q.ls≠0:=hc3
   refine Qc<|Qb<|Qe ?_
   exact Ql ⟨[_],⟨rfl,trivial⟩,by rw[hcx (by rw[e1];exact hc3'),e1];rfl,hs1.trans (hsA.trans hsA8)⟩
  have hck2:Ya sz ((qx.take k).map (·.nm)++[q.nm]) ((qx.drop (k+1)).map (·.x))=Ya sz [] (qx.map (·.x)):=by rw[←hck1];exact (if_neg hc3).symm
  refine Qi<|Qw<|QO rfl rfl<|Qb<|xe ?_
  exact ⟨k+1,by omega,⟨rfl,trivial⟩,hlt,hsA.trans hsA8,by rw[htk];exact hck2⟩
 have hlt:k<sz.length:=by have h24:(k:Int)<(sz.length:Int):=h23;omega
 rw[QX hlt,List.any_cons] at hany
 refine Qi<|Qf<|Qg<|Qc<|xii (hS.ext hs1) rfl rfl hlt λa24 h24=>?_
 refine Zd (sz[k]'hlt) λn hn=>?_
 rw[hn] at h24 hany
 refine x (Qv h24 rfl)<|Qe<|QU (α:=Bool) [(26,31)] (λz=>[(31,.bool z)]) (λz w'=>w'=w2∧z=Jq n) (by rfl) ?_ ?_
 ·refine Qw<|Qb<|xb (QB rfl rfl) (λh27=>?_) (λh27=>?_)
  ·refine Qb<|xs rfl<|xs rfl<|x (Qm rfl)<|xe ?_
   exact ⟨_,⟨rfl,trivial⟩,rfl,by unfold Jq;rw[decide_eq_true h27];rfl⟩
  refine Qb<|Qb<|x (ZO rfl rfl)<|x (Qm rfl)<|xe ?_
  exact ⟨_,⟨rfl,trivial⟩,rfl,by unfold Jq;rw[decide_eq_false h27];rfl⟩
 rintro z g w3 ⟨rfl,rfl⟩
 refine Q5 rfl (λh31=>?_) (λh31=>?_)
 ·refine Qc<|Qe ?_
  exact Ql ⟨[_],⟨rfl,trivial⟩,by unfold Yr;rw[if_neg hn8,if_pos (by rw[←hany,h31];rfl)];rfl,hs1⟩
 rw[h31,Bool.false_or] at hany
 refine Qi<|Qw<|QO rfl rfl<|Qb<|xe ?_
 exact ⟨k+1,by omega,⟨rfl,trivial⟩,hlt,rfl,hany⟩
theorem ZM {α:Type}(q:α→Bool) (i:Nat) (a:α) (l:List α):fix q i (a::l)=if q a=true then (i:Int) else fix q (i+1) l:=rfl
theorem Qay {α:Type}(q:α→Bool):∀(l:List α) (i:Nat),fix q i l=-1∨((i:Int)≤fix q i l∧fix q i l<(i:Int)+l.length)
 | [],i=>.inl rfl
 | a::l,i=>by
  rw[ZM]
  split
  ·right;simp only[List.length_cons];omega
  ·rcases Qay q l (i+1) with h | h
   ·exact .inl h
   ·right;simp only[List.length_cons];omega
theorem z7 {α:Type}(q:α→Bool):∀(l:List α) (i:Nat),decide (0≤fix q i l)=l.any q
 | [],i=>rfl
 | a::l,i=>by
  rw[ZM,List.any_cons]
  cases h:q a with
  | true=>rw[if_pos rfl];simp
  | false=>rw[if_neg (by decide),z7 q l (i+1)];rfl
theorem UM {α:Type}(q:α→Bool) (m:List α):∀(l:List α) (i:Nat),fix q i (l++m)=if 0≤fix q i l then fix q i l else fix q (i+l.length) m
 | [],i=>by
  show fix q i m=if (0:Int)≤-1 then (-1) else fix q i m
  rw[if_neg (by decide)]
 | a::l,i=>by
  rw[List.cons_append,ZM,ZM]
  by_cases h:q a=true
  ·rw[if_pos h,if_pos h,if_pos (by omega)]
  ·rw[if_neg h,if_neg h,UM q m l (i+1),List.length_cons]
   rw[show i+1+l.length=i+(l.length+1) by omega]
theorem qV {α:Type}(q:α→Bool) (d:Nat):∀(l:List α) (i:Nat),fix q (i+d) l=if 0≤fix q i l then fix q i l+d else -1
 | [],i=>rfl
 | a::l,i=>by
  rw[ZM,ZM]
  by_cases h:q a=true
  ·rw[if_pos h,if_pos h,if_pos (by omega)];omega
  ·rw[if_neg h,if_neg h,show i+d+1=(i+1)+d by omega,qV q d l (i+1)]
theorem JX {α β:Type}(q:β→Bool) (g:α→β):∀(l:List α) (i:Nat),fix q i (l.map g)=fix (λa=>q (g a)) i l
 | [],i=>rfl
 | a::l,i=>by rw[List.map_cons,ZM,ZM,JX q g l (i+1)]
theorem QcQ {α:Type}{q q':α→Bool}:∀{l:List α}{i:Nat},(∀a∈l,q a=q' a)→fix q i l=fix q' i l
 | [],i,_=>rfl
 | a::l,i,h=>by rw[ZM,ZM,h a List.mem_cons_self,QcQ (λb hb=>h b (List.mem_cons_of_mem _ hb))]
theorem Qja {gp:Nat}{fn:Func}[Fu prog gp fn] {cap:LV}{q:(Int×Int)→Bool}{L:LN}{w:World}{v:Value}{l:List (Int×Int)}(h:Zj L w.heap v l.length 2 (l.flatMap QN))
  (hk:∀e∈l,∀(w1:World),Step [] w w1→QJ prog gp ([.agg (QN e).toArray]++cap) w1 λr w'=>r=.bool (q e)∧Step [] w1 w') :
  QJ prog 287 [v,.func (.func gp) #[] cap.toArray] w λr w'=>r=.int .i64 (fix q 0 l)∧Step [] w w':=by
 have hle:=h.le
 refine QJ.of_W func287 rfl ntmps287 results287 (by simp) ?_
 refine Qc<|Qe<|Qf<|Qc<|Qb<|x (Qr h rfl)<|Qb<|xe ?_
 refine Qg<|QA (α:=Nat) [(4,5),(8,18)] (λz=>[(8,.int .i64 z)]) (λz w'=>z≤l.length∧Step [] w w'∧fix q z (l.drop z)=fix q 0 l) (λz=>l.length - z) (by rfl) 0 ⟨rfl,trivial⟩
  ⟨Nat.zero_le _,Step.refl _ _,rfl⟩ ?_
 rintro k g w1 ⟨hk1,hs1,hfx⟩
 refine Qc<|x (QB rfl rfl)<|xe ?_
 refine Qf<|QG rfl (λh9=>?_) (λh9=>?_)
 ·refine Qx ?_
  have hke:l.length≤k:=by have h10:¬(k:Int)<(l.length:Int):=h9;omega
  rw[List.drop_of_length_le hke] at hfx
  refine Qc<|Qe ?_
  exact Ql ⟨[_],⟨rfl,trivial⟩,by rw[←hfx];rfl,hs1⟩
 have hlt:k<l.length:=by have h10:(k:Int)<(l.length:Int):=h9;omega
 rw[QX hlt,ZM] at hfx
 have hmem:=List.getElem_mem hlt
 refine Qi<|Qf<|Qg<|Qc<|Qb<|Qe<|Qc<|Qb<|Qb<|Qb<|xig ZZ (h.ext hs1) rfl rfl hlt λa14 h14=>?_
 refine Zd (l[k]'hlt) λe he=>?_
 rw[he] at h14 hfx hmem
 refine x (QC h14 rfl rfl)<|xl rfl<|xc (first:=[]) (capt:=cap) rfl<|(hk e hmem w1 hs1).mono ?_
 rintro r2 w2 ⟨rfl,hs2⟩
 refine xe ?_
 refine Q5 rfl (λh16=>?_) (λh16=>?_)
 ·rw[if_pos h16] at hfx
  refine Qc<|Qb<|Qe ?_
  exact Ql ⟨[_],⟨rfl,trivial⟩,by rw[←hfx];rfl,hs1.trans hs2⟩
 rw[if_neg (by rw[h16];decide)] at hfx
 refine Qi<|Qw<|QO rfl rfl<|Qb<|xe ?_
 exact ⟨k+1,by omega,⟨rfl,trivial⟩,hlt,hs1.trans hs2,hfx⟩
theorem QjA {gp:Nat}{fn:Func}[Fu prog gp fn] {cap:LV}{q:(Int×Int)→Bool}{L:LN}{w:World}{v:Value}{l:List (Int×Int)}(h:Zj L w.heap v l.length 2 (l.flatMap QN))
  (hk:∀e∈l,∀(w1:World),Step [] w w1→QJ prog gp ([.agg (QN e).toArray]++cap) w1 λr w'=>r=.bool (q e)∧Step [] w1 w') :
  QJ prog 260 [v,.func (.func gp) #[] cap.toArray] w λr w'=>r=.bool (l.any q)∧Step [] w w':=by
 refine QJ.of_W func260 rfl ntmps260 results260 (by simp) ?_
 refine Qc<|Qe<|Qc<|Qb<|Qb<|xl rfl<|xf<|(Qja h hk).mono ?_
 rintro r1 w1 ⟨rfl,hs1⟩
 refine x (ZR rfl rfl)<|Qe ?_
 exact Ql ⟨[_],⟨rfl,trivial⟩,congrArg Value.bool (z7 q l 0),hs1⟩
theorem Km (sz:LI):∀(ls:List (Int×Int)) (pr:Option Int),YJ sz pr ls=0→(∀p∈ls,0≤p.1∧p.1<(sz.length:Int))∧Yi (ls.map (·.1))∧∀y,pr=some y→∀p∈ls,y<p.1
 | [],pr,_=>⟨λp hp=>(by cases hp),List.Pairwise.nil,λy _ p hp=>(by cases hp)⟩
 | l::ls,pr,h=>by
  unfold YJ at h
  split at h
  ·cases h
  ·rename_i h1
   split at h
   ·cases h
   ·rename_i h2
    split at h
    ·cases h
    ·obtain ⟨h4,h5,h6⟩:=Km sz ls (some l.1) h
     have h7:=h6 l.1 rfl
     refine ⟨λp hp=>?_,List.pairwise_cons.2 ⟨λx hx=>?_,h5⟩,λy hy p hp=>?_⟩
     ·rcases List.mem_cons.1 hp with rfl | hp
      ·omega
      ·exact h4 p hp
     ·obtain ⟨p,hp,rfl⟩:=List.mem_map.1 hx
      exact h7 p hp
     ·subst hy
      have h8:¬l.1≤y:=λe=>h2 (decide_eq_true e)
      rcases List.mem_cons.1 hp with rfl | hp
      ·omega
      ·have:=h7 p hp;omega
theorem Kl (sz:LI):∀(ls:List (Int×Int)) (pr:Option Int),Xn sz pr ls=0→(∀p∈ls,0≤p.1∧p.1<(sz.length:Int)∧-65536≤p.2∧p.2≤65536)∧Yi (ls.map (·.1))∧∀y,pr=some y→∀p∈ls,y<p.1
 | [],pr,_=>⟨λp hp=>(by cases hp),List.Pairwise.nil,λy _ p hp=>(by cases hp)⟩
 | l::ls,pr,h=>by
  unfold Xn at h
  split at h
  ·cases h
  ·rename_i h1
   split at h
   ·cases h
   ·rename_i h2
    split at h
    ·cases h
    ·rename_i h3
     obtain ⟨h4,h5,h6⟩:=Kl sz ls (some l.1) h
     have h7:=h6 l.1 rfl
     have h9:grt l.2=false:=by cases hg:grt l.2 with | true=>exact absurd (.inr hg) h3 | false=>rfl
     unfold grt at h9
     simp only[Bool.or_eq_false_iff,decide_eq_false_iff_not] at h9
     refine ⟨λp hp=>?_,List.pairwise_cons.2 ⟨λx hx=>?_,h5⟩,λy hy p hp=>?_⟩
     ·rcases List.mem_cons.1 hp with rfl | hp
      ·omega
      ·exact h4 p hp
     ·obtain ⟨p,hp,rfl⟩:=List.mem_map.1 hx
      exact h7 p hp
     ·subst hy
      have h8:¬l.1≤y:=λe=>h2 (decide_eq_true e)
      rcases List.mem_cons.1 hp with rfl | hp
      ·omega
      ·have:=h7 p hp;omega
theorem VN (sz:LI):∀(l:List zg) (sn:List ByteArray),Ya sz sn l=0→∀x∈l,XK sz x.ls=0
 | [],_,_,x,hx=>by cases hx
 | a::l,sn,h,x,hx=>by
  unfold Ya at h
  split at h
  ·rename_i h1;exact absurd h h1
  ·split at h
   ·rename_i h1;exact absurd h h1
   ·rename_i h1
    rcases List.mem_cons.1 hx with rfl | hx
    ·exact Decidable.not_not.1 h1
    ·exact VN sz l _ h x hx
theorem VP (sz:LI):∀(l:List Y3) (sn:List ByteArray),YA sz sn l=0→∀x∈l,YH sz x=0
 | [],_,_,x,hx=>by cases hx
 | a::l,sn,h,x,hx=>by
  unfold YA at h
  split at h
  ·rename_i h1;exact absurd h h1
  ·split at h
   ·rename_i h1;exact absurd h h1
   ·rename_i h1
    rcases List.mem_cons.1 hx with rfl | hx
    ·exact Decidable.not_not.1 h1
    ·exact VP sz l _ h x hx
structure Qlw (sz:LI) (ex:List zg) (cs:List Y3):Prop where
 s8:sz.length≤8
 s:∀n∈sz,1≤n∧n≤4096
 xl:ex.length≤32
 kl:cs.length≤32
 x:∀e∈ex,∀p∈e.ls,0≤p.1∧p.1<(sz.length:Int)
 k:∀e∈cs,(∀p∈e.ts,0≤p.1∧p.1<(sz.length:Int)∧-65536≤p.2∧p.2≤65536)∧e.ts.length≤8
theorem VQ {sz:LI}{ex:List zg}{cs:List Y3}(h:Yr sz ex cs=0):Qlw sz ex cs:=by
 unfold Yr at h
 split at h
 ·cases h
 ·rename_i h8
  split at h
  ·cases h
  ·rename_i hs
   split at h
   ·cases h
   ·rename_i h32
    split at h
    ·rename_i hx;exact absurd h hx
    ·rename_i hx
     have hx0:=Decidable.not_not.1 hx
     refine ⟨by omega,λn hn=>?_,by omega,by omega,λe he p hp=>?_,λe he=>?_⟩
     ·have h1:Jq n=false:=by
       cases hb:Jq n with
       | false=>rfl
       | true=>exact absurd (List.any_eq_true.2 ⟨n,hn,hb⟩) hs
      unfold Jq at h1
      simp only[Bool.or_eq_false_iff,decide_eq_false_iff_not] at h1
      omega
     ·have h1:=VN sz ex [] hx0 e he
      unfold XK at h1
      split at h1
      ·cases h1
      ·exact (Km sz e.ls none h1).1 p hp
     ·have h1:=VP sz cs [] h e he
      unfold YH at h1
      split at h1
      ·cases h1
      ·split at h1
       ·rename_i h2;exact absurd h1 h2
       ·rename_i h2
        obtain ⟨h3,h4,_⟩:=Kl sz e.ts none (Decidable.not_not.1 h2)
        refine ⟨h3,?_⟩
        have:=Go.Proofs.YtdffckgdcegpaaaGreatDoor.pig sz.length (e.ts.map (·.1)) (List.Pairwise.imp (λ{a b} (h:a<b)=>(by omega:a≠b)) h4) (λx hx=>by
         obtain ⟨p,hp,rfl⟩:=List.mem_map.1 hx
         exact ⟨(h3 p hp).1,(h3 p hp).2.1⟩)
        rw[List.length_map] at this
        omega
def Qh1 (sz t:LI):Prop:=t.length=sz.length∧∀i,i<t.length→0≤cget t i∧cget t i<cget sz i
theorem Qcf (t:LI) (p:Int×Int) (l:List (Int×Int)) (s:Int):(l++[p]).foldl (λs p=>s+p.2*t.getD p.1.toNat 0) s=l.foldl (λs p=>s+p.2*t.getD p.1.toNat 0) s+p.2*cget t p.1.toNat:=by
 rw[List.foldl_append];rfl
theorem Qdr {w:World}{vl vt:Value}{nm:ByteArray}{ts:List (Int×Int)}{bd:Int}{t:LI}(hl:jQ [] w.heap vl ts) (ht:QL [] w.heap vt t)
  (hts:∀p∈ts,0≤p.1∧p.1<(t.length:Int)∧-65536≤p.2∧p.2≤65536) (h8:ts.length≤8) (htb:∀i,i<t.length→0≤cget t i∧cget t i≤4096) :
  QJ prog 263 [.agg #[.string nm,vl,.int .i64 bd],vt] w λr w'=>r=.int .i64 (Qj7 t ⟨nm,ts,bd⟩)∧Step [] w w':=by
 refine QJ.of_W func263 rfl ntmps263 results263 (by simp) ?_
 refine Qc<|xl rfl<|QQ (us:=[.string nm,vl,.int .i64 bd]) rfl λb2 w1 hs1 hb2 hB2=>Qe<|Qc<|Qe<|Qf<|Qc<|x (Qa rfl)<|x (Qd hB2 rfl rfl)<|x (Qr (hl.ext hs1) rfl)<|Qb<|xe ?_
 refine Qg<|QA (α:=Nat×Int) [(5,5),(7,7),(11,25)] (λz=>[(5,.int .i64 z.2),(11,.int .i64 z.1)]) (λz w'=>z.1≤ts.length∧Step [] w w'∧z.2=(ts.take z.1).foldl (λs p=>s+p.2*t.getD p.1.toNat 0) 0∧-(268435456*(z.1:Int))≤z.2∧z.2≤268435456*(z.1:Int)) (λz=>ts.length - z.1) (by rfl) (0,0) ⟨rfl,rfl,trivial⟩
  ⟨Nat.zero_le _,hs1,rfl,by simp only[];omega,by simp only[];omega⟩ ?_
 rintro ⟨k,s⟩ g w2 ⟨hk,hs2,hsum,hlo,hhi⟩
 simp only[] at hk hsum hlo hhi
 refine Qc<|x (QB rfl rfl)<|xe ?_
 refine Qf<|QG rfl (λh12=>?_) (λh12=>?_)
 ·refine Qx ?_
  have hke:ts.length≤k:=by have h13:¬(k:Int)<(ts.length:Int):=h12;omega
  rw[List.take_of_length_le hke] at hsum
  refine Qc<|Qb<|Qe ?_
  exact Ql ⟨[_],⟨rfl,trivial⟩,by rw[hsum];rfl,hs2⟩
 have hlt:k<ts.length:=by have h13:(k:Int)<(ts.length:Int):=h12;omega
 have hmem:=hts _ (List.getElem_mem hlt)
 have htk:ts.take (k+1)=ts.take k++[ts[k]'hlt]:=List.take_succ_eq_append_getElem hlt
 refine Qi<|Qf<|Qg<|Qc<|xig ZZ (hl.ext hs2) rfl rfl hlt λa13 h13=>?_
 refine Zd (ts[k]'hlt) λe he=>?_
 rw[he] at h13 hmem htk
 refine x (QC h13 rfl rfl)<|xl rfl<|Qt (us:=[.int .i64 0,.int .i64 0]) rfl λb7 w3 hs3 hb7 hB7=>xl rfl<|Qn (us:=QN e) hB7 rfl rfl rfl rfl ⟨rfl,rfl,trivial⟩ λw4 hs4 hB7=>xe ?_
 have hs24:Step [] w2 w4:=hs3.then1 hs4 hb7
 have hW4:=hs2.trans hs24
 have he0:e.1=((e.1.toNat:Nat):Int):=by omega
 have het:e.1.toNat<t.length:=by omega
 have hcb:=htb _ het
 have hmul:-268435456≤e.2*cget t e.1.toNat∧e.2*cget t e.1.toNat≤268435456:=by
  have h1:(-65536)*cget t e.1.toNat≤e.2*cget t e.1.toNat:=Int.mul_le_mul_of_nonneg_right hmem.2.2.1 hcb.1
  have h2:e.2*cget t e.1.toNat≤65536*cget t e.1.toNat:=Int.mul_le_mul_of_nonneg_right hmem.2.2.2 hcb.1
  omega
 refine Zd (e.2*cget t e.1.toNat) λpr hpr=>?_
 refine QS (Step [] w4) [(0,true),(1,true),(2,true),(3,true),(4,true),(5,true),(6,true),(7,true),(8,true),(9,true),(10,true)] mixed (by rfl) (by kernel_rfl) (Step.drew _ _) ?_
 refine p (λ_=>Qo)<|p (λ_=>Qa rfl)<|pq (λ_ hc=>Qd (hB7.ext hc) rfl rfl)<|p (λ_=>Qo)<|p (λ_=>Qa rfl) <|
  pq (λ_ hc=>Qd (hB7.ext hc) rfl rfl)<|pic (i:=e.1.toNat) rfl (ht.ext hW4) rfl (congrArg (Value.int .i64) he0) het λa21 h21=>pq (λ_ hc=>Qv (h21.ext hc) rfl) <|
  p (λ_=>Qd6 rfl rfl ⟨by omega,by omega⟩)<|p (λ_=>XY rfl rfl ⟨by omega,by omega⟩)<|p (λ_=>Qh)<|pe ?_
 refine Qw<|QO rfl rfl<|Qb<|xe ?_
 refine ⟨(k+1,s+e.2*cget t e.1.toNat),by simp only[];omega,⟨rfl,rfl,trivial⟩,hlt,hW4.trans (Step.drew _ _),?_,by simp only[];omega,by simp only[];omega⟩
 simp only[]
 rw[htk,Qcf,←hsum]
theorem Qfm {w:World}{bt:Nat}{vt:Value}{t:LI}(hB:Q2 w.heap bt 37 [vt]) (ht:QL [] w.heap vt t) (e:Int×Int) (he:0≤e.1∧e.1<(t.length:Int)) :
  QJ prog 261 ([.agg (QN e).toArray]++[.pointer (some ⟨bt,0,none⟩)]) w λr w'=>r=.bool (!decide (t.getD e.1.toNat 0=e.2))∧Step [] w w':=by
 refine QJ.of_W func261 rfl ntmps261 results261 (by simp) ?_
 refine Qc<|xl rfl<|QQ (us:=QN e) rfl λb2 w1 hs1 hb2 hB2=>Qe ?_
 have he0:e.1=((e.1.toNat:Nat):Int):=by omega
 have het:e.1.toNat<t.length:=by omega
 refine Qf<|QS (Step [] w1) [(0,true),(1,true),(2,true),(3,true),(4,true),(5,true),(6,true),(7,true),(8,true)] mixed (by rfl) (by kernel_rfl) (Step.drew _ _) ?_
 refine pq (λ_ hc=>Qd ((hB.ext hs1).ext hc) rfl rfl)<|p (λ_=>Qa rfl)<|pq (λ_ hc=>Qd (hB2.ext hc) rfl rfl)<|pic (i:=e.1.toNat) rfl (ht.ext hs1) rfl (congrArg (Value.int .i64) he0) het λa7 h7 =>
  pq (λ_ hc=>Qv (h7.ext hc) rfl)<|p (λ_=>Qa rfl)<|pq (λ_ hc=>Qd (hB2.ext hc) rfl rfl)<|p (λ_=>Q8 rfl rfl) <|
  p (λ_=>Qh)<|pe ?_
 refine Ql ⟨[_],⟨rfl,trivial⟩,?_,hs1.trans (Step.drew _ _)⟩
 show Value.bool (decide (¬cget t e.1.toNat=e.2))=_
 unfold cget
 simp
theorem Qdp (t:LI) (x:zg):(!(x.ls.any λl=>!decide (t.getD l.1.toNat 0=l.2)))=Ka t x:=by
 unfold Ka
 induction x.ls with
 | nil=>rfl
 | cons a l ih=>rw[List.any_cons,List.all_cons,←ih];cases decide (t.getD a.1.toNat 0=a.2) <;> simp
theorem Qhv {w:World}{b:Nat}{q:XV}{vt:Value}{t:LI}(hB:Q2 w.heap b 122 (Q9 q)) (hq:jQ [] w.heap q.v q.ls) (ht:QL [] w.heap vt t) (hr:∀p∈q.ls,0≤p.1∧p.1<(t.length:Int)) :
  QJ prog 259 ([vt]++[.pointer (some ⟨b,0,none⟩)]) w λr w'=>r=.bool (Ka t q.x)∧Step [] w w':=by
 refine QJ.of_W func259 rfl ntmps259 results259 (by simp) ?_
 refine Qc<|xl rfl<|QQ (us:=[vt]) ht.cells λb2 w1 hs1 hb2 hB2=>Qe<|Qc<|x (Qa rfl)<|x (Qd (hB.ext hs1) rfl rfl)<|x Zr<|xl rfl<|xf<|(QjA (q:=λl=>!decide (t.getD l.1.toNat 0=l.2)) (cap:=[.pointer (some ⟨b2,0,none⟩)]) (hq.ext hs1) (λe he w2 hs2=>Qfm (hB2.ext hs2) ((ht.ext hs1).ext hs2) e (hr e he))).mono ?_
 rintro r2 w2 ⟨rfl,hs2⟩
 refine x (Zn rfl)<|Qe ?_
 exact Ql ⟨[_],⟨rfl,trivial⟩,congrArg Value.bool (Qdp t q.x),hs1.trans hs2⟩
theorem Qhu {w:World}{b:Nat}{q:KV}{vt:Value}{t:LI}(hB:Q2 w.heap b 127 (Za q)) (hq:jQ [] w.heap q.v q.ts) (ht:QL [] w.heap vt t)
  (hts:∀p∈q.ts,0≤p.1∧p.1<(t.length:Int)∧-65536≤p.2∧p.2≤65536) (h8:q.ts.length≤8) (htb:∀i,i<t.length→0≤cget t i∧cget t i≤4096) :
  QJ prog 262 ([vt]++[.pointer (some ⟨b,0,none⟩)]) w λr w'=>r=.bool (Vi t q.k)∧Step [] w w':=by
 refine QJ.of_W func262 rfl ntmps262 results262 (by simp) ?_
 refine Qc<|Qe ?_
 have hd:Step [] w { w with drawn:=w.drawn+1 }:=Step.drew _ _
 refine Qf<|QS (Step [] { w with drawn:=w.drawn+1 }) [(0,true),(1,true),(3,true),(4,true),(2,false),(5,true),(6,true)] mixed (by rfl) (by kernel_rfl) (Step.refl _ _) ?_
 refine pq (λ_ hc=>Qq ((hB.ext hd).ext hc) rfl rfl)<|p (λ_=>Qo)<|p (λ_=>Qa rfl)<|pq (λ_ hc=>Qd ((hB.ext hd).ext hc) rfl rfl)<|pk<|xf<|(Qdr (hq.ext hd) (ht.ext hd) hts h8 htb).mono ?_
 rintro r1 w1 ⟨rfl,hs1⟩
 refine ⟨hs1,?_⟩
 refine p (λ_=>ZO rfl rfl)<|p (λ_=>Qh)<|pe ?_
 exact Ql ⟨[_],⟨rfl,trivial⟩,rfl,hd.trans hs1⟩
inductive Cd where
 | ex (b:Nat) (q:XV)
 | co (b:Nat) (q:KV)
def Cd.val:Cd→Value
 | .ex b _=>.func (.func 259) #[] #[.pointer (some ⟨b,0,none⟩)]
 | .co b _=>.func (.func 262) #[] #[.pointer (some ⟨b,0,none⟩)]
def Cd.src:Cd→Sum XV KV
 | .ex _ q=>.inl q
 | .co _ q=>.inr q
def Qch (t:LI):Sum XV KV→Bool
 | .inl q=>Ka t q.x
 | .inr q=>Vi t q.k
def Cd.vio (t:LI) (c:Cd):Bool:=Qch t c.src
abbrev Va (c:Cd):LV:=[c.val]
theorem QjC (c:Cd):(Va c).length=1:=rfl
def CdA (H:Array Obj):Cd→Prop
 | .ex b q=>Q2 H b 122 (Q9 q)∧jQ [] H q.v q.ls
 | .co b q=>Q2 H b 127 (Za q)∧jQ [] H q.v q.ts
theorem CdA.ext {w w':World}{c:Cd}(h:CdA w.heap c) (hs:Step [] w w'):CdA w'.heap c:=by
 cases c with
 | ex b q=>exact ⟨h.1.ext hs,h.2.ext hs⟩
 | co b q=>exact ⟨h.1.ext hs,h.2.ext hs⟩
def Cd.rg (n:Nat):Cd→Prop
 | .ex _ q=>∀p∈q.ls,0≤p.1∧p.1<(n:Int)
 | .co _ q=>(∀p∈q.ts,0≤p.1∧p.1<(n:Int)∧-65536≤p.2∧p.2≤65536)∧q.ts.length≤8
theorem ji {q:XV}(w:World):QJ prog 209 [.agg (Q9 q).toArray] w λr w'=>Step [] w w'∧∃b,r=(Cd.ex b q).val∧w.heap.size≤b∧Q2 w'.heap b 122 (Q9 q):=by
 refine QJ.of_W func209 rfl ntmps209 results209 (by simp) ?_
 refine Qc<|xl rfl<|QQ (us:=Q9 q) rfl λb1 w1 hs1 hb1 hB1=>Qe<|Qc<|x Zr<|Qe ?_
 exact Ql ⟨[_],⟨rfl,trivial⟩,hs1,b1,rfl,hb1,hB1⟩
theorem QaA {q:KV}(w:World):QJ prog 210 [.agg (Za q).toArray] w λr w'=>Step [] w w'∧∃b,r=(Cd.co b q).val∧w.heap.size≤b∧Q2 w'.heap b 127 (Za q):=by
 refine QJ.of_W func210 rfl ntmps210 results210 (by simp) ?_
 refine Qc<|xl rfl<|QQ (us:=Za q) rfl λb1 w1 hs1 hb1 hB1=>Qe<|Qc<|x Zr<|Qe ?_
 exact Ql ⟨[_],⟨rfl,trivial⟩,hs1,b1,rfl,hb1,hB1⟩
def CdB (H:Array Obj):Cd→Prop
 | .ex b q=>Q2 H b 122 (Q9 q)
 | .co b q=>Q2 H b 127 (Za q)
def Cd.blk:Cd→Nat
 | .ex b _=>b
 | .co b _=>b
theorem CdB.lt {H:Array Obj}{c:Cd}(h:CdB H c):c.blk<H.size:=by cases c <;> exact Q2.lt h
theorem CdB.step {X:LN}{w w':World}{c:Cd}(h:CdB w.heap c) (hs:Step X w w') (hX:c.blk∉X):CdB w'.heap c:=by
 cases c <;> exact Q2.step h hs hX
structure CdL (base:Nat) (w:World) (v:Value) (cds:List Cd):Prop where
 own:w.ownsRow base 313 1 v cds.length (cds.flatMap Va)
 bx:∀c∈cds,CdB w.heap c∧c.blk∉ob v
theorem CdL.add {base:Nat}{w w7 w8:World}{v v8:Value}{cds:List Cd}{c:Cd}(h:CdL base w v cds) (hs:Step [] w w7) (hc:CdB w7.heap c) (hb:w.heap.size≤c.blk)
  (ho:w8.ownsRow base 313 1 v8 (cds.length+1) (cds.flatMap Va++[c.val])) (hs8:Step (ob v) w7 w8) (hn:∀b∈ob v8,b∈ob v∨w7.heap.size≤b):CdL base w8 v8 (cds++[c]):=by
 have hlt:=QR h.own
 have hcv:c.blk∉ob v:=λhm=>by have:=hlt _ hm;omega
 refine ⟨?_,λd hd=>?_⟩
 ·rw[List.length_append,List.flatMap_append];simpa using ho
 ·have key:CdB w7.heap d∧d.blk∉ob v:=by
   rcases List.mem_append.1 hd with hd | hd
   ·exact ⟨(h.bx d hd).1.step hs (by simp),(h.bx d hd).2⟩
   ·simp only[List.mem_singleton] at hd;subst hd;exact ⟨hc,hcv⟩
  refine ⟨key.1.step hs8 key.2,λhm=>?_⟩
  rcases hn _ hm with h1 | h1
  ·exact key.2 h1
  ·have:=key.1.lt;omega
set_option maxHeartbeats 4000000 in
theorem Qfy {w:World}{vs vx vk:Value}{qx:List XV}{ks:List KV}(hX:qd [] w.heap vx qx) (hK:U5 [] w.heap vk ks) (hxl:qx.length≤32) (hkl:ks.length≤32) :
  QJ prog 150 [.agg #[vs,vx,vk]] w λr w'=>Step [] w w'∧∃cds,CdL w.heap.size w' r cds∧cds.map Cd.src=qx.map Sum.inl++ks.map Sum.inr:=by
 refine QJ.of_W func150 rfl ntmps150 results150 (by simp) ?_
 refine Qc<|xl rfl<|QQ (us:=[vs,vx,vk]) rfl λb1 w1 hs1 hb1 hB1=>Qe ?_
 have hz1:=hs1.size
 refine Qc<|Qe<|Qf<|Qc<|x (Qa rfl)<|x (Qd hB1 rfl rfl)<|x (Qr (hX.ext hs1).arr rfl)<|Qb<|xe ?_
 refine Qg<|QA (α:=Nat×Value×List Cd) [(3,3),(5,5),(11,20)] (λz=>[(3,z.2.1),(11,.int .i64 z.1)]) (λz w'=>z.1≤qx.length∧Step [] w1 w'∧CdL w1.heap.size w' z.2.1 z.2.2∧z.2.2.map Cd.src=(qx.take z.1).map Sum.inl) (λz=>qx.length - z.1) (by rfl) (0,nS,[]) ⟨rfl,rfl,trivial⟩
  ⟨Nat.zero_le _,Step.refl _ _,⟨QP _ _ _ _,λc hc=>(by cases hc)⟩,rfl⟩ ?_
 rintro ⟨k,vo,cds⟩ g wA ⟨hk,hsA,hL,hsrc⟩
 simp only[] at hk hL hsrc
 have hcl:cds.length=k:=by have:=congrArg List.length hsrc;simp at this;omega
 refine Qc<|x (QB rfl rfl)<|xe ?_
 refine Qf<|QG rfl (λhc1=>?_) (λhc1=>?_)
 ·refine Qx ?_
  have hke:qx.length≤k:=by have h16:¬(k:Int)<(qx.length:Int):=hc1;omega
  rw[List.take_of_length_le hke] at hsrc
  refine Qf<|Qc<|x (Qa rfl)<|x (Qd (hB1.ext hsA) rfl rfl)<|x (Qr ((hK.ext hs1).ext hsA).arr rfl)<|Qb<|xe ?_
  refine Qg<|QA (α:=Nat×Value×List Cd) [(3,3),(7,7),(24,33)] (λz=>[(3,z.2.1),(24,.int .i64 z.1)]) (λz w'=>z.1≤ks.length∧Step [] w1 w'∧CdL w1.heap.size w' z.2.1 z.2.2∧z.2.2.map Cd.src=qx.map Sum.inl++(ks.take z.1).map Sum.inr) (λz=>ks.length - z.1) (by rfl) (0,vo,cds) ⟨rfl,rfl,trivial⟩
   ⟨Nat.zero_le _,hsA,hL,by simp only[];rw[hsrc];simp⟩ ?_
  rintro ⟨j,vp,cdt⟩ g wB ⟨hj,hsB,hLB,hsrcB⟩
  simp only[] at hj hLB hsrcB
  have hclB:cdt.length=qx.length+j:=by have:=congrArg List.length hsrcB;simp at this;omega
  refine Qc<|x (QB rfl rfl)<|xe ?_
  refine Qf<|QG rfl (λhc2=>?_) (λhc2=>?_)
  ·refine Qx ?_
   have hje:ks.length≤j:=by have h16:¬(j:Int)<(ks.length:Int):=hc2;omega
   rw[List.take_of_length_le hje] at hsrcB
   refine Qc<|Qb<|Qe ?_
   exact Ql ⟨[_],⟨rfl,trivial⟩,hs1.trans hsB,cdt,⟨Zo hLB.own hz1,hLB.bx⟩,hsrcB⟩
  have hltB:j<ks.length:=by have h16:(j:Int)<(ks.length:Int):=hc2;omega
  have hmemB:=List.getElem_mem hltB
  have htkB:ks.take (j+1)=ks.take j++[ks[j]'hltB]:=List.take_succ_eq_append_getElem hltB
  refine Qi<|Qf<|Qg<|Qc<|xig YN ((hK.ext hs1).ext hsB).arr rfl rfl hltB λaA hA=>?_
  refine Zd (ks[j]'hltB) λq hq=>?_
  rw[hq] at hA hmemB htkB
  have hqA:=((hK.ext hs1).ext hsB).each q hmemB
  refine x (QC hA rfl rfl)<|xl rfl<|Qt (us:=[.string .empty,nS,.int .i64 0]) rfl λb7 w4 hs4 hb7 hB7=>xl rfl<|Qn (us:=Za q) hB7 rfl rfl rfl rfl ⟨rfl,hqA.one,rfl,trivial⟩ λw5 hs5 hB7'=>xe ?_
  have hsB5:Step [] wB w5:=hs4.then1 hs5 hb7
  refine Qw<|Qb<|x (Qq hB7' rfl rfl)<|xl rfl<|xf<|(QaA w5).mono ?_
  rintro r6 w6 ⟨hs6,b6,rfl,hb6,hB6⟩
  refine xl rfl<|QD (us:=[[(Cd.co b6 q).val]]) rfl rfl (by decide) (by simp) ⟨rfl,rfl,trivial⟩ λb31 w7 hs7 hb31 hB31=>?_
  have hsB7:=(hsB5.trans hs6).trans hs7
  have hz7:=(hsB.trans hsB7).size
  have hz5:=hsB5.size
  refine xl rfl<|QZ (news:=[(Cd.co b6 q).val]) (L:=[]) (Qs hLB.own hsB7) rfl rfl rfl (hB31.at (by simp)) (by simp[Cd.val,Value.oneCell']) (by omega) (by omega) λv8 w8 ho8 hs8 hn8 =>
   Qe ?_
  have hge:=Qk hLB.own
  have hL8:=hLB.add (c:=Cd.co b6 q) hsB7 (Q2.ext hB6 hs7) (by show _≤b6;omega) ho8 hs8 hn8
  have hsB8:Step [] w1 w8:=(hsB.trans hsB7).then hs8 (λb hb=>.inr (hge b hb).1)
  refine Qw<|QO rfl rfl<|Qb<|xe ?_
  exact ⟨(j+1,v8,cdt++[Cd.co b6 q]),by simp only[];omega,⟨rfl,rfl,trivial⟩,hltB,hsB8,hL8,by simp only[];rw[List.map_append,hsrcB,htkB];simp[Cd.src]⟩
 have hltA:k<qx.length:=by have h16:(k:Int)<(qx.length:Int):=hc1;omega
 have hmemA:=List.getElem_mem hltA
 have htkA:qx.take (k+1)=qx.take k++[qx[k]'hltA]:=List.take_succ_eq_append_getElem hltA
 refine Qi<|Qf<|Qg<|Qc<|xig YZ ((hX.ext hs1).ext hsA).arr rfl rfl hltA λaA hA=>?_
 refine Zd (qx[k]'hltA) λq hq=>?_
 rw[hq] at hA hmemA htkA
 have hqA:=((hX.ext hs1).ext hsA).each q hmemA
 refine x (QC hA rfl rfl)<|xl rfl<|Qt (us:=[.string .empty,nS]) rfl λb7 w4 hs4 hb7 hB7=>xl rfl<|Qn (us:=Q9 q) hB7 rfl rfl rfl rfl ⟨rfl,hqA.one,trivial⟩ λw5 hs5 hB7'=>xe ?_
 have hsB5:Step [] wA w5:=hs4.then1 hs5 hb7
 refine Qw<|Qb<|x (Qq hB7' rfl rfl)<|xl rfl<|xf<|(ji w5).mono ?_
 rintro r6 w6 ⟨hs6,b6,rfl,hb6,hB6⟩
 refine xl rfl<|QD (us:=[[(Cd.ex b6 q).val]]) rfl rfl (by decide) (by simp) ⟨rfl,rfl,trivial⟩ λb31 w7 hs7 hb31 hB31=>?_
 have hsB7:=(hsB5.trans hs6).trans hs7
 have hz7:=(hsA.trans hsB7).size
 have hz5:=hsB5.size
 refine xl rfl<|QZ (news:=[(Cd.ex b6 q).val]) (L:=[]) (Qs hL.own hsB7) rfl rfl rfl (hB31.at (by simp)) (by simp[Cd.val,Value.oneCell']) (by omega) (by omega) λv8 w8 ho8 hs8 hn8 =>
  Qe ?_
 have hge:=Qk hL.own
 have hL8:=hL.add (c:=Cd.ex b6 q) hsB7 (Q2.ext hB6 hs7) (by show _≤b6;omega) ho8 hs8 hn8
 have hsB8:Step [] w1 w8:=(hsA.trans hsB7).then hs8 (λb hb=>.inr (hge b hb).1)
 refine Qw<|QO rfl rfl<|Qb<|xe ?_
 exact ⟨(k+1,v8,cds++[Cd.ex b6 q]),by simp only[];omega,⟨rfl,rfl,trivial⟩,hltA,hsB8,hL8,by simp only[];rw[List.map_append,hsrc,htkA];simp[Cd.src]⟩
theorem Qjb {gp:Nat}{fn:Func}[Fu prog gp fn] {cap:LV}{q:Cd→Bool}{L:LN}{w:World}{v:Value}{l:List Cd}(h:Zj L w.heap v l.length 1 (l.flatMap Va))
  (hk:∀e∈l,∀(w1:World),Step [] w w1→QJ prog gp ([e.val]++cap) w1 λr w'=>r=.bool (q e)∧Step [] w1 w') :
  QJ prog 207 [v,.func (.func gp) #[] cap.toArray] w λr w'=>r=.int .i64 (fix q 0 l)∧Step [] w w':=by
 have hle:=h.le
 refine QJ.of_W func207 rfl ntmps207 results207 (by simp) ?_
 refine Qc<|Qe<|Qf<|Qc<|Qb<|x (Qr h rfl)<|Qb<|xe ?_
 refine Qg<|QA (α:=Nat) [(4,5),(8,18)] (λz=>[(8,.int .i64 z)]) (λz w'=>z≤l.length∧Step [] w w'∧fix q z (l.drop z)=fix q 0 l) (λz=>l.length - z) (by rfl) 0 ⟨rfl,trivial⟩
  ⟨Nat.zero_le _,Step.refl _ _,rfl⟩ ?_
 rintro k g w1 ⟨hk1,hs1,hfx⟩
 refine Qc<|x (QB rfl rfl)<|xe ?_
 refine Qf<|QG rfl (λh9=>?_) (λh9=>?_)
 ·refine Qx ?_
  have hke:l.length≤k:=by have h10:¬(k:Int)<(l.length:Int):=h9;omega
  rw[List.drop_of_length_le hke] at hfx
  refine Qc<|Qe ?_
  exact Ql ⟨[_],⟨rfl,trivial⟩,by rw[←hfx];rfl,hs1⟩
 have hlt:k<l.length:=by have h10:(k:Int)<(l.length:Int):=h9;omega
 rw[QX hlt,ZM] at hfx
 have hmem:=List.getElem_mem hlt
 refine Qi<|Qf<|Qg<|Qc<|Qb<|Qe<|Qc<|Qb<|Qb<|Qb<|xig QjC (h.ext hs1) rfl rfl hlt λa14 h14=>?_
 refine Zd (l[k]'hlt) λe he=>?_
 rw[he] at h14 hfx hmem
 refine x (Qv h14 rfl)<|xl rfl<|xc (first:=[]) (capt:=cap) rfl<|(hk e hmem w1 hs1).mono ?_
 rintro r2 w2 ⟨rfl,hs2⟩
 refine xe ?_
 refine Q5 rfl (λh16=>?_) (λh16=>?_)
 ·rw[if_pos h16] at hfx
  refine Qc<|Qb<|Qe ?_
  exact Ql ⟨[_],⟨rfl,trivial⟩,by rw[←hfx];rfl,hs1.trans hs2⟩
 rw[if_neg (by rw[h16];decide)] at hfx
 refine Qi<|Qw<|QO rfl rfl<|Qb<|xe ?_
 exact ⟨k+1,by omega,⟨rfl,trivial⟩,hlt,hs1.trans hs2,hfx⟩
theorem QhK {w:World}{c:Cd}{vt:Value}{t:LI}(hc:CdA w.heap c) (ht:QL [] w.heap vt t) (hr:c.rg t.length) (htb:∀i,i<t.length→0≤cget t i∧cget t i≤4096) :
  ∃g fn cap,c.val=.func (.func g) #[] [cap].toArray∧Fu prog g fn∧QJ prog g ([vt]++[cap]) w λr w'=>r=.bool (c.vio t)∧Step [] w w':=by
 cases c with
 | ex b q=>exact ⟨_,_,_,rfl,inferInstance,Qhv hc.1 hc.2 ht hr⟩
 | co b q=>exact ⟨_,_,_,rfl,inferInstance,Qhu hc.1 hc.2 ht hr.1 hr.2 htb⟩
theorem Qdn {w:World}{bt:Nat}{c:Cd}{vt:Value}{t:LI}(hB:Q2 w.heap bt 37 [vt]) (hc:CdA w.heap c) (ht:QL [] w.heap vt t) (hr:c.rg t.length) (htb:∀i,i<t.length→0≤cget t i∧cget t i≤4096) :
  QJ prog 208 ([c.val]++[.pointer (some ⟨bt,0,none⟩)]) w λr w'=>r=.bool (c.vio t)∧Step [] w w':=by
 obtain ⟨gq,fn,cap,hv,hF,hcall⟩:=QhK hc ht hr htb
 rw[hv]
 refine QJ.of_W func208 rfl ntmps208 results208 (by simp) ?_
 refine Qc<|Qe<|Qc<|Qb<|x (Qd hB rfl rfl)<|xl rfl<|xc (g:=gq) (fn:=fn) (first:=[]) (capt:=[cap]) rfl<|hcall.mono ?_
 rintro r1 w1 ⟨rfl,hs1⟩
 refine Qe ?_
 exact Ql ⟨[_],⟨rfl,trivial⟩,rfl,hs1⟩
theorem yq {L:LN}{w:World}{v vt:Value}{cds:List Cd}{t:LI}(h:Zj L w.heap v cds.length 1 (cds.flatMap Va)) (hc:∀c∈cds,CdA w.heap c) (ht:QL [] w.heap vt t) (hr:∀c∈cds,c.rg t.length) (htb:∀i,i<t.length→0≤cget t i∧cget t i≤4096) :
  QJ prog 149 [v,vt] w λr w'=>r=.int .i64 (fix (Cd.vio t) 0 cds)∧Step [] w w':=by
 refine QJ.of_W func149 rfl ntmps149 results149 (by simp) ?_
 refine Qc<|xl rfl<|QQ (us:=[vt]) ht.cells λb3 w1 hs1 hb3 hB3=>Qe<|Qc<|Qb<|x Zr<|xl rfl<|xf<|(Qjb (q:=Cd.vio t) (cap:=[.pointer (some ⟨b3,0,none⟩)]) (h.ext hs1) (λc hm w2 hs2=>Qdn (hB3.ext hs2) (((hc c hm).ext hs1).ext hs2) ((ht.ext hs1).ext hs2) (hr c hm) htb)).mono ?_
 rintro r2 w2 ⟨rfl,hs2⟩
 refine Qe ?_
 exact Ql ⟨[_],⟨rfl,trivial⟩,rfl,hs1.trans hs2⟩
theorem QfE {w:World}{vs vx vk vt:Value}{sz t:LI}(hS:QL [] w.heap vs sz) (ht:QL [] w.heap vt t) (h:Qh1 sz t) :
  QJ prog 206 [.agg #[vs,vx,vk],vt] w λr w'=>r=.int .i64 0∧Step [] w w':=by
 have htl:=ht.le
 have h0:=h.1
 refine QJ.of_W func206 rfl ntmps206 results206 (by simp) ?_
 refine Qc<|xl rfl<|QQ (us:=[vs,vx,vk]) rfl λb2 w1 hs1 hb2 hB2=>Qe<|Qf<|Qc<|Qb<|x (Qr (ht.ext hs1) rfl)<|x (Qa rfl)<|x (Qd hB2 rfl rfl)<|x (Qr (hS.ext hs1) rfl)<|x (Q8 rfl rfl) <|
  xe ?_
 refine QG rfl (λh12=>?_) (λh12=>?_)
 ·refine Qi<|Qf<|Qc<|Qb<|x (Qr (ht.ext hs1) rfl)<|Qb<|xe ?_
  refine Qg<|QA (α:=Nat) [(4,6),(15,31)] (λz=>[(15,.int .i64 z)]) (λz w'=>z≤t.length∧w'=w1) (λz=>t.length - z) (by rfl) 0 ⟨rfl,trivial⟩ ⟨Nat.zero_le _,rfl⟩ ?_
  rintro k g w2 ⟨hk,rfl⟩
  refine Qc<|x (QB rfl rfl)<|xe ?_
  refine Qf<|QG rfl (λh16=>?_) (λh16=>?_)
  ·refine Qx ?_
   refine Qc<|Qe ?_
   exact Ql ⟨[_],⟨rfl,trivial⟩,rfl,hs1⟩
  have hlt:k<t.length:=by have h17:(k:Int)<(t.length:Int):=h16;omega
  have hb:=h.2 k hlt
  refine Qi<|Qf<|Qg<|Qc<|Qb<|xic (i:=k) (ht.ext hs1) rfl rfl hlt λa18 h18=>x (Qv h18 rfl)<|x Qh<|Qe<|QU (α:=Unit) [(20,30)] (λz=>[(30,.bool false)]) (λz w'=>w'=w2) (by rfl) ?_ ?_
  ·refine Qw<|Qb<|xb (QB rfl rfl) (λh21=>by omega) (λh21=>?_)
   refine Qb<|Qb<|x (Qa rfl)<|x (Qd hB2 rfl rfl)<|Qb<|xic (i:=k) (hS.ext hs1) rfl rfl (by omega) λa27 h27=>x (Qv h27 rfl) <|
    x (ZR rfl rfl)<|x (Qm rfl)<|xe ?_
   exact ⟨(),⟨congrArg Value.bool (decide_eq_false (by omega)),trivial⟩,rfl⟩
  rintro _ g w3 rfl
  refine Zy rfl ?_
  refine Qi<|Qw<|QO rfl rfl<|Qb<|xe ?_
  exact ⟨k+1,by omega,⟨rfl,trivial⟩,hlt,rfl⟩
 ·exact absurd (show (t.length:Int)=(sz.length:Int) by omega) h12
theorem qu {w:World}{vs vx vk vt:Value}{sz t:LI}{qx:List XV}{ks:List KV}(hS:QL [] w.heap vs sz) (hX:qd [] w.heap vx qx) (hK:U5 [] w.heap vk ks) (ht:QL [] w.heap vt t) (hc:Yr sz (qx.map (·.x)) (ks.map (·.k))=0) (h:Qh1 sz t) :
  QJ prog 148 [.agg #[vs,vx,vk],vt] w λr w'=>r=.int .i64 0∧Step [] w w':=by
 refine QJ.of_W func148 rfl ntmps148 results148 (by simp) ?_
 refine Qc<|xl rfl<|QQ (us:=[vs,vx,vk]) rfl λb2 w1 hs1 hb2 hB2=>Qe<|Qf<|Qc<|x (Qq hB2 rfl rfl)<|xl rfl<|xf<|(UP (hS.ext hs1) (hX.ext hs1) (hK.ext hs1)).mono ?_
 rintro r2 w2 ⟨hr2,hs2⟩
 rw[hc] at hr2
 subst hr2
 refine Qe<|Qc<|Qb<|x (Q8 rfl rfl)<|xe ?_
 refine Zy rfl ?_
 refine Qi ?_
 have hs12:=hs1.trans hs2
 refine Qc<|x (Qq (hB2.ext hs2) rfl rfl)<|Qb<|xl rfl<|xf<|(QfE (hS.ext hs12) (ht.ext hs12) h).mono ?_
 rintro r3 w3 ⟨rfl,hs3⟩
 refine Qe ?_
 exact Ql ⟨[_],⟨rfl,trivial⟩,rfl,hs12.trans hs3⟩
def KA (qx:List zg) (ks:List Y3) (t:LI):Int×Int×Bool :=
 if 0≤fix (Ka t) 0 qx then (1,fix (Ka t) 0 qx,true) else if 0≤fix (Vi t) 0 ks then (2,fix (Vi t) 0 ks,true) else (0,0,false)
theorem Qhs {cds:List Cd}{qx:List XV}{ks:List KV}(t:LI) (h:cds.map Cd.src=qx.map Sum.inl++ks.map Sum.inr) :
  fix (Cd.vio t) 0 cds=if 0≤fix (Ka t) 0 (qx.map (·.x)) then fix (Ka t) 0 (qx.map (·.x)) else if 0≤fix (Vi t) 0 (ks.map (·.k)) then fix (Vi t) 0 (ks.map (·.k))+qx.length else -1:=by
 have h1:fix (Cd.vio t) 0 cds=fix (Qch t) 0 (cds.map Cd.src):=(JX (Qch t) Cd.src cds 0).symm
 rw[h1,h,UM,JX,List.length_map,qV,JX (Qch t) Sum.inr ks 0]
 have e1:fix (λa=>Qch t (Sum.inl a)) 0 qx=fix (Ka t) 0 (qx.map (·.x)):=(JX (Ka t) XV.x qx 0).symm
 have e2:fix (λa=>Qch t (Sum.inr a)) 0 ks=fix (Vi t) 0 (ks.map (·.k)):=(JX (Vi t) KV.k ks 0).symm
 rw[e1,e2]
theorem Qit {P:Int×Int×Bool}{a b:Int}{c:Bool}(h:P=(a,b,c)):(Value.tuple #[.int .i64 a,.int .i64 b,.bool c,.int .i64 0])=.tuple #[.int .i64 P.1,.int .i64 P.2.1,.bool P.2.2,.int .i64 0]:=by rw[h]
set_option maxHeartbeats 4000000 in
theorem VS {w:World}{vs vx vk vt:Value}{sz t:LI}{qx:List XV}{ks:List KV}(hS:QL [] w.heap vs sz) (hX:qd [] w.heap vx qx) (hK:U5 [] w.heap vk ks) (ht:QL [] w.heap vt t) (hc:Yr sz (qx.map (·.x)) (ks.map (·.k))=0) (h:Qh1 sz t) :
  QJ prog 73 [.agg #[vs,vx,vk],vt] w λr w'=>Step [] w w'∧r=.tuple #[.int .i64 (KA (qx.map (·.x)) (ks.map (·.k)) t).1,.int .i64 (KA (qx.map (·.x)) (ks.map (·.k)) t).2.1,.bool (KA (qx.map (·.x)) (ks.map (·.k)) t).2.2,.int .i64 0]:=by
 have hok:=VQ hc
 have hxl:qx.length≤32:=by have:=hok.xl;simpa using this
 have hkl:ks.length≤32:=by have:=hok.kl;simpa using this
 refine QJ.of_W func73 rfl ntmps73 results73 (by simp) ?_
 refine Qc<|xl rfl<|QQ (us:=[vs,vx,vk]) rfl λb2 w1 hs1 hb2 hB2=>x Qh<|x Qh<|x Qh<|Qe<|Qf<|Qc<|x (Qq hB2 rfl rfl)<|Qb<|xl rfl<|xf<|(qu (hS.ext hs1) (hX.ext hs1) (hK.ext hs1) (ht.ext hs1) hc h).mono ?_
 rintro r2 w2 ⟨rfl,hs2⟩
 refine Qe<|Qc<|Qb<|x (Q8 rfl rfl)<|xe ?_
 refine Zy rfl ?_
 refine Qi ?_
 have hs12:=hs1.trans hs2
 have hB22:=hB2.ext hs2
 refine Qc<|x (Qq hB22 rfl rfl)<|xl rfl<|xf<|(Qfy (hX.ext hs12) (hK.ext hs12) hxl hkl).mono ?_
 rintro r3 w3 ⟨hs3,cds,hL,hsrc⟩
 have hs13:=hs12.trans hs3
 have hcl:cds.length=qx.length+ks.length:=by have:=congrArg List.length hsrc;simpa using this
 have htb:∀i,i<t.length→0≤cget t i∧cget t i≤4096:=λi hi=>by
  have h1:=h.2 i hi
  have h2:i<sz.length:=by rw[←h.1];exact hi
  have h3:=hok.s _ (List.getElem_mem h2)
  rw[Zl h2] at h3
  omega
 have hmem:∀c∈cds,c.src∈qx.map Sum.inl++ks.map Sum.inr:=λc hm=>by rw[←hsrc];exact List.mem_map_of_mem hm
 have hcA:∀c∈cds,CdA w3.heap c:=λc hm=>by
  have h1:=hmem c hm
  have h2:=(hL.bx c hm).1
  cases c with
  | ex b q =>
   have hq:q∈qx:=by simpa[Cd.src] using h1
   exact ⟨h2,(hX.each q hq).ext hs13⟩
  | co b q =>
   have hq:q∈ks:=by simpa[Cd.src] using h1
   exact ⟨h2,(hK.each q hq).ext hs13⟩
 have hrg:∀c∈cds,c.rg t.length:=λc hm=>by
  have h1:=hmem c hm
  rw[h.1]
  cases c with
  | ex b q =>
   have hq:q∈qx:=by simpa[Cd.src] using h1
   exact hok.x q.x (List.mem_map_of_mem hq)
  | co b q =>
   have hq:q∈ks:=by simpa[Cd.src] using h1
   exact hok.k q.k (List.mem_map_of_mem hq)
 have hfx:=Qhs t hsrc
 have g1:=Qay (Ka t) (qx.map (·.x)) 0
 have g2:=Qay (Vi t) (ks.map (·.k)) 0
 simp only[List.length_map] at g1 g2
 refine Qb<|xl rfl<|xf<|(yq (QT (L:=[]) hL.own (by omega) (by simp)) hcA (ht.ext hs13) hrg htb).mono ?_
 rintro r4 w4 ⟨rfl,hs4⟩
 rw[hfx]
 have hs14:=hs13.trans hs4
 refine Zd (KA (qx.map (·.x)) (ks.map (·.k)) t) λP hP=>?_
 rw[hP]
 unfold KA at hP
 refine Zd (fix (Ka t) 0 (qx.map (·.x))) λi1 hi1=>?_
 refine Zd (fix (Vi t) 0 (ks.map (·.k))) λi2 hi2=>?_
 rw[hi1,hi2] at hP
 rw[hi1] at g1
 rw[hi2] at g2
 refine Zd (if 0≤i1 then i1 else if 0≤i2 then i2+(qx.length:Int) else -1) λr hr=>?_
 rw[hi1,hi2,hr]
 refine Qe<|Qg<|Qc<|Qb<|x (QB rfl rfl)<|Qe<|Q4 rfl (λh25=>?_) (λh25=>?_)
 ·have n1:¬0≤i1:=λh=>by rw[if_pos h] at hr;omega
  have n2:¬0≤i2:=λh=>by rw[if_neg n1,if_pos h] at hr;omega
  refine Qc<|x Qh<|x Qh<|x Qh<|Qe ?_
  exact Ql ⟨[_,_,_,_],⟨rfl,rfl,rfl,rfl,trivial⟩,hs14,Qit (by rw[←hP,if_neg n1,if_neg n2])⟩
 have hB24:=(hB22.ext hs3).ext hs4
 refine Qc<|Qb<|x (Qa rfl)<|x (Qd hB24 rfl rfl)<|x (Qr (hX.ext hs14).arr rfl)<|x (QB rfl rfl)<|Qe<|Q4 rfl (λh28=>?_) (λh28=>?_)
 ·have p1:0≤i1:=by
   refine Decidable.not_not.1 λn1=>?_
   by_cases h:0≤i2
   ·rw[if_neg n1,if_pos h] at hr;omega
   ·rw[if_neg n1,if_neg h] at hr;omega
  have e:r=i1:=by rw[if_pos p1] at hr;exact hr.symm
  refine Qc<|Qb<|x Qh<|x Qh<|x Qh<|Qe ?_
  exact Ql ⟨[_,_,_,_],⟨rfl,rfl,rfl,rfl,trivial⟩,hs14,Qit (by rw[←hP,if_pos p1,e])⟩
 have n1:¬0≤i1:=λh=>by rw[if_pos h] at hr;omega
 have p2:0≤i2:=by
  refine Decidable.not_not.1 λn2=>?_
  rw[if_neg n1,if_neg n2] at hr;omega
 have e:r - (qx.length:Int)=i2:=by rw[if_neg n1,if_pos p2] at hr;omega
 refine Qf<|QS (Step [] w4) [(0,true),(1,true),(2,true),(3,true),(4,true),(5,true),(6,true),(7,true),(8,true)] mixed (by rfl) (by kernel_rfl) (Step.drew _ _) ?_
 refine p (λ_=>Qo)<|p (λ_=>Qa rfl)<|pq (λ_ hc=>Qd (hB24.ext hc) rfl rfl)<|p (λ_=>Qr (hX.ext hs14).arr rfl) <|
  p (λ_=>Jp rfl rfl ⟨by omega,by omega⟩)<|p (λ_=>Qh)<|p (λ_=>Qh)<|p (λ_=>Qh)<|p (λ_=>Qh) <|
  pe ?_
 exact Ql ⟨[_,_,_,_],⟨rfl,rfl,rfl,rfl,trivial⟩,hs14.trans (Step.drew _ _),Qit (by rw[←hP,if_neg n1,if_pos p2,←e])⟩
def ZH (base:Nat) (av:LN) (H:Array Obj) (v:Value) (n sz:Nat) (cs:LV):Prop:=∀L:LN,(∀b∈L,b<base∨b∈av)→Zj L H v n sz cs
theorem ZH.ext {base:Nat}{av:LN}{w w':World}{v:Value}{n sz:Nat}{cs:LV}(h:ZH base av w.heap v n sz cs) (hs:Step [] w w'):ZH base av w'.heap v n sz cs:=λL hL=>(h L hL).ext hs
theorem ZH.app {base:Nat}{av av':LN}{w w':World}{v:Value}{n sz:Nat}{cs:LV}(h:ZH base av w.heap v n sz cs) (hs:Step av w w') (hn:∀b∈av',b∈av∨w.heap.size≤b):ZH base av' w'.heap v n sz cs:=by
 intro L hL
 have h1:Zj (av++L.filter λb=>decide (b<base)) w.heap v n sz cs:=h _ (λb hb=>by
  rcases List.mem_append.1 hb with hb | hb
  ·exact .inr hb
  ·exact .inl (by simpa using (List.mem_filter.1 hb).2))
 refine h1.grow hs (λb hb=>List.mem_append.2 (.inl hb)) λb hb=>?_
 rcases hL b hb with h2 | h2
 ·exact .inl (List.mem_append.2 (.inr (List.mem_filter.2 ⟨hb,by simpa using h2⟩)))
 ·rcases hn b h2 with h3 | h3
  ·exact .inl (List.mem_append.2 (.inl h3))
  ·exact .inr h3
theorem ZH.of_own {base N:Nat}{av:LN}{w:World}{v:Value}{e n sz:Nat}{cs:LV}(h:w.ownsRow N e sz v n cs) (hn:n≤1099511627776) (hb:base≤N) (hav:∀b∈av,b<N):ZH base av w.heap v n sz cs:=λL hL =>
 QT h hn λb hb hbL=>by
  have h1:=(Qk h b hb).1
  rcases hL b hbL with h2 | h2
  ·omega
  ·have:=hav b h2;omega
structure ZN {α:Type}(g:α→LV) (sz T:Nat) (p:α→Value×Nat×Nat×LV) (base:Nat) (w:World) (v:Value) (l:List α):Prop where
 own:w.ownsRow base T sz v l.length (l.flatMap g)
 each:∀q∈l,ZH base (ob v) w.heap (p q).1 (p q).2.1 (p q).2.2.1 (p q).2.2.2
theorem ZN.nil {α:Type}{g:α→LV}{sz T:Nat}{p:α→Value×Nat×Nat×LV}{base:Nat}{w:World}:ZN g sz T p base w (nS) []:=⟨QP _ _ _ _,λq hq=>by cases hq⟩
theorem ZN.ext {α:Type}{g:α→LV}{sz T:Nat}{p:α→Value×Nat×Nat×LV}{base:Nat}{w w':World}{v:Value}{l:List α}(h:ZN g sz T p base w v l) (hs:Step [] w w'):ZN g sz T p base w' v l:=⟨Qs h.own hs,λq hq=>(h.each q hq).ext hs⟩
theorem ZN.app {α:Type}{g:α→LV}{sz T:Nat}{p:α→Value×Nat×Nat×LV}{base N e:Nat}{w w7 w8:World}{v v8:Value}{l:List α}{q:α}(h:ZN g sz T p base w v l) (hs:Step [] w w7)
  (hq:w7.ownsRow N e (p q).2.2.1 (p q).1 (p q).2.1 (p q).2.2.2) (hqn:(p q).2.1≤1099511627776) (hN:w.heap.size≤N) (hb:base≤w.heap.size)
  (ho:w8.ownsRow base T sz v8 (l.length+1) (l.flatMap g++g q)) (hs8:Step (ob v) w7 w8) (hn:∀b∈ob v8,b∈ob v∨w7.heap.size≤b):ZN g sz T p base w8 v8 (l++[q]):=by
 have hlt:=QR h.own
 refine ⟨?_,λd hd=>?_⟩
 ·rw[List.length_append,List.flatMap_append];simpa using ho
 ·rcases List.mem_append.1 hd with hd | hd
  ·exact ((h.each d hd).ext hs).app hs8 hn
  ·simp only[List.mem_singleton] at hd;subst hd
   exact (ZH.of_own hq hqn (by omega) (λb hb=>by have:=hlt b hb;omega)).app hs8 hn
theorem U8 {L L':LN}{w:World}{va vm ve va' vm' ve':Value}{a b:QV}(h:Zt L w.heap va vm ve a) (h':Zt L' w.heap va' vm' ve' b) :
  QJ prog 25 [.agg #[va,.int .i64 a.st,vm,ve],.agg #[va',.int .i64 b.st,vm',ve']] w λr w'=>r=.bool (decide (a.st=b.st∧a.al=b.al∧a.mr=b.mr∧a.ed=b.ed))∧Step [] w w':=by
 refine QJ.of_W func25 rfl ntmps25 results25 (by simp) ?_
 refine Qc<|xl rfl<|QQ (us:=[va,.int .i64 a.st,vm,ve]) rfl λb2 w1 hs1 hb2 hB2=>xl rfl<|QQ (us:=[va',.int .i64 b.st,vm',ve']) rfl λb3 w2 hs2 hb3 hB3=>Qe ?_
 have hs12:=hs1.trans hs2
 have hB22:=hB2.ext hs2
 refine QU (α:=Bool) [(4,30)] (λz=>[(4,.bool z)]) (λz w'=>Step [] w w'∧z=decide (a.st=b.st∧a.al=b.al∧a.mr=b.mr∧a.ed=b.ed)) (by rfl) ?_ ?_
 ·refine Qw<|x (Qa rfl)<|x (Qd hB22 rfl rfl)<|x (Qa rfl)<|x (Qd hB3 rfl rfl)<|xb (Q7 rfl rfl) (λh9=>?_) (λh9=>?_)
  ·refine Qb<|x (Qa rfl)<|x (Qd hB22 rfl rfl)<|x (Qa rfl)<|x (Qd hB3 rfl rfl)<|xl rfl<|xf<|(JZ (h.al.ext hs12) (h'.al.ext hs12)).mono ?_
   rintro r3 w3 ⟨hr3,hs3⟩
   have hs13:=hs12.trans hs3
   refine Qfp (decide (a.al=b.al)) (λhb3=>?_) (λhb3=>?_)
   ·rw[hb3] at hr3;subst hr3
    refine x (Qm rfl)<|Qb<|x (Qa rfl)<|x (Qd (hB22.ext hs3) rfl rfl)<|x (Qa rfl)<|x (Qd (hB3.ext hs3) rfl rfl)<|xl rfl<|xf<|(JZ (h.mr.ext hs13) (h'.mr.ext hs13)).mono ?_
    rintro r4 w4 ⟨hr4,hs4⟩
    have hs14:=hs13.trans hs4
    have hs34:=hs3.trans hs4
    refine Qfp (decide (a.mr=b.mr)) (λhb4=>?_) (λhb4=>?_)
    ·rw[hb4] at hr4;subst hr4
     refine x (Qm rfl)<|Qb<|x (Qa rfl)<|x (Qd (hB22.ext hs34) rfl rfl)<|x (Qa rfl)<|x (Qd (hB3.ext hs34) rfl rfl)<|xl rfl<|xf<|(QcU (h.ed.ext hs14) (h'.ed.ext hs14)).mono ?_
     rintro r5 w5 ⟨rfl,hs5⟩
     refine x (Qm rfl)<|Qe ?_
     exact ⟨_,⟨rfl,trivial⟩,hs14.trans hs5,bD ⟨λe=>⟨h9,of_decide_eq_true hb3,of_decide_eq_true hb4,e⟩,λe=>e.2.2.2⟩⟩
    rw[hb4] at hr4;subst hr4
    refine x (Qm rfl)<|Qb<|xs rfl<|xs rfl<|xs rfl<|xs rfl<|xs rfl<|x (Qm rfl)<|Qe ?_
    exact ⟨_,⟨rfl,trivial⟩,hs14,bF (λe=>of_decide_eq_false hb4 e.2.2.1)⟩
   rw[hb3] at hr3;subst hr3
   refine x (Qm rfl)<|Qb<|xs rfl<|xs rfl<|xs rfl<|xs rfl<|xs rfl<|x (Qm rfl)<|Qb<|xs rfl<|xs rfl<|xs rfl<|xs rfl<|xs rfl<|x (Qm rfl) <|
    Qe ?_
   exact ⟨_,⟨rfl,trivial⟩,hs13,bF (λe=>of_decide_eq_false hb3 e.2.1)⟩
  refine Qb<|xs rfl<|xs rfl<|xs rfl<|xs rfl<|xs rfl<|x (Qm rfl)<|Qb<|xs rfl<|xs rfl<|xs rfl<|xs rfl<|xs rfl<|x (Qm rfl) <|
   Qb<|xs rfl<|xs rfl<|xs rfl<|xs rfl<|xs rfl<|x (Qm rfl)<|Qe ?_
  exact ⟨_,⟨rfl,trivial⟩,hs12,bF (λe=>h9 e.1)⟩
 rintro z g w6 ⟨hs6,rfl⟩
 exact Ql ⟨[_],⟨rfl,trivial⟩,rfl,hs6⟩
theorem Qf9 {L:LN}{w:World}{va vm ve:Value}{a:QV}(h:Zt L w.heap va vm ve a) :
  QJ prog 163 [.agg #[va,.int .i64 a.st,vm,ve]] w λr w'=>r=.bool (JH a)∧Step [] w w':=by
 refine QJ.of_W func163 rfl ntmps163 results163 (by simp) ?_
 refine Qc<|xl rfl<|QQ (us:=[va,.int .i64 a.st,vm,ve]) rfl λb1 w1 hs1 hb1 hB1=>Qe<|QU (α:=Bool) [(2,11)] (λz=>[(2,.bool z)]) (λz w'=>Step [] w w'∧z=JH a) (by rfl) ?_ ?_
 ·refine QS (Step [] w1) [(0,true),(1,false),(2,true),(3,true),(4,true),(5,true),(6,false),(7,false),(8,true),(9,true)] mixed (by rfl) (by kernel_rfl) (Step.drew _ _) ?_
  have hs1d:=hs1.trans (Step.drew [] w1)
  refine pq (λ_ hc=>Qq (hB1.step hc (by simp)) rfl rfl)<|pk<|xf<|(Xo (h.ext hs1d)).mono ?_
  rintro r2 w2 ⟨rfl,hs2⟩
  have hs12:=hs1d.trans hs2
  have hd2:=(Step.drew [] w1).trans hs2
  refine ⟨hd2,?_⟩
  refine pb (λ_=>Q7 rfl rfl) (λh5=>?_) (λh5=>?_)
  ·have hc:Jh a=0:=h5
   refine p (λ_=>Qo)<|pq (λ_ hc=>Qq (hB1.step hc (by simp)) rfl rfl)<|pq (λ_ hc=>Qq (hB1.step hc (by simp)) rfl rfl) <|
    pk<|xf<|(Ji (h.ext hs12) ((ZE a).1 hc)).mono ?_
   rintro r3 w3 ⟨hs3,va3,vm3,ve3,rfl,hA3⟩
   have hs13:=hs12.trans hs3
   refine ⟨hd2.trans hs3,?_⟩
   refine pk<|xf<|(U8 (h.ext hs13) (hA3 [] (by simp))).mono ?_
   rintro r4 w4 ⟨rfl,hs4⟩
   refine ⟨(hd2.trans hs3).trans hs4,?_⟩
   refine p (λ_=>Qm rfl)<|p (λ_=>Qh)<|pe ?_
   refine ⟨_,⟨rfl,trivial⟩,hs13.trans hs4,?_⟩
   unfold JH
   rw[decide_eq_true hc,Bool.true_and]
   exact bD ⟨λe=>⟨e.1.symm,e.2.1.symm,e.2.2.1.symm,e.2.2.2.symm⟩,λe=>⟨e.1.symm,e.2.1.symm,e.2.2.1.symm,e.2.2.2.symm⟩⟩
  have hc:¬Jh a=0:=h5
  refine p (λ_=>Qo)<|ps<|ps<|ps<|ps<|p (λ_=>Qm rfl)<|p (λ_=>Qh)<|pe ?_
  exact ⟨_,⟨rfl,trivial⟩,hs12,by unfold JH;rw[decide_eq_false hc];rfl⟩
 rintro z g w5 ⟨hs5,rfl⟩
 exact Ql ⟨[_],⟨rfl,trivial⟩,rfl,hs5⟩
section
variable {P:Program} {f:Fr} {w:World} {d:Option Nat} {ty:Nat} {ps:String} {af:Array Edge} {gd:Option (Nat×Bool)}
theorem Yv {t sz:Nat}[Ag P t sz] {x:Operand}{b T o:Nat}{cs us:LV}(h:Q2 w.heap b T cs) (hx:ev f x=.pointer (some ⟨b,o,none⟩)) (hl:us.length=sz) (hu:(cs.drop o).take sz=us) :
  (execOp (ev f) ⟨d,.load t x,ty,ps,af,gd⟩).run P w=.ok (.value (.agg us.toArray)) w:=V6 hx hl λj v hv=>by
 rw[JF,X7,h.cell]
 rw[←hu,List.getElem?_take] at hv
 split at hv
 ·simpa using hv
 ·cases hv
end
theorem Qau {L:LN}{w:World}{v:Value}{qs:List IV}(h:Y2 L w.heap v qs) :
  QJ prog 75 [v] w λr w'=>Step [] w w'∧w'.ownsRow w.heap.size 58 4 r (qs.map (·.p)).length ((qs.map (·.p)).flatMap Zm):=by
 have hle:=h.arr.le
 refine QJ.of_W func75 rfl ntmps75 results75 (by simp) ?_
 refine Qc<|Qe<|Qc<|Qe<|Qf<|Qc<|Qb<|x (Qr h.arr rfl)<|Qb<|xe ?_
 refine Qg<|QA (α:=Nat×Value) [(3,3),(5,5),(8,17)] (λz=>[(3,z.2),(8,.int .i64 z.1)]) (λz w'=>z.1≤qs.length∧Step [] w w'∧w'.ownsRow w.heap.size 58 4 z.2 z.1 (((qs.take z.1).map (·.p)).flatMap Zm)) (λz=>qs.length - z.1) (by rfl) (0,nS) ⟨rfl,rfl,trivial⟩
  ⟨Nat.zero_le _,Step.refl _ _,QP _ _ _ _⟩ ?_
 rintro ⟨k,vo⟩ g w1 ⟨hk,hs1,ho1⟩
 simp only[] at hk ho1
 refine Qc<|x (QB rfl rfl)<|xe ?_
 refine Qf<|QG rfl (λh9=>?_) (λh9=>?_)
 ·refine Qx ?_
  have hke:k=qs.length:=by have h10:¬(k:Int)<(qs.length:Int):=h9;omega
  subst hke
  rw[List.take_of_length_le (Nat.le_refl _)] at ho1
  refine Qc<|Qb<|Qe ?_
  exact Ql ⟨[_],⟨rfl,trivial⟩,hs1,by rw[List.length_map];exact ho1⟩
 have hlt:k<qs.length:=by have h10:(k:Int)<(qs.length:Int):=h9;omega
 have hmem:=List.getElem_mem hlt
 have htk:qs.take (k+1)=qs.take k++[qs[k]'hlt]:=List.take_succ_eq_append_getElem hlt
 refine Qi<|Qf<|Qg<|Qc<|xig Yq (h.arr.ext hs1) rfl rfl hlt λa10 h10=>?_
 refine Zd (qs[k]'hlt) λq hq=>?_
 rw[hq] at h10 hmem htk
 have hqA:=h.each q hmem
 refine x (QC h10 rfl rfl)<|xl rfl<|Qt (us:=[.string .empty,nS,.int .i64 0,nS,nS]) rfl λb5 w2 hs2 hb5 hB5=>xl rfl<|Qn (us:=QW q) hB5 rfl rfl rfl rfl ⟨rfl,hqA.al.one,rfl,hqA.mr.one,hqA.ed.one,trivial⟩ λw3 hs3 hB5 =>
  xe ?_
 have hs13:Step [] w1 w3:=hs2.then1 hs3 hb5
 refine Qw<|Qb<|x (Qa rfl)<|x (Yv (us:=Zm q.p) hB5 rfl rfl rfl)<|xl rfl<|QD (us:=[Zm q.p]) rfl rfl (by decide) (by simp) ⟨rfl,rfl,trivial⟩ λb15 w4 hs4 hb15 hB15=>?_
 have hs14:=hs13.trans hs4
 have ho4:=Qs ho1 hs14
 have hz4:=(hs1.trans hs14).size
 have h1s:∀u∈Zm q.p,u.oneCell'=true:=by
  intro u hu
  simp only[List.mem_cons,List.not_mem_nil,or_false] at hu
  rcases hu with rfl | rfl | rfl | rfl
  ·exact hqA.al.one
  ·rfl
  ·exact hqA.mr.one
  ·exact hqA.ed.one
 refine xl rfl<|QZ (news:=Zm q.p) (L:=[]) ho4 rfl rfl rfl (hB15.at (by simp)) h1s (by omega) (by omega) λv5 w5 ho5 hs5 hn5=>Qe ?_
 have hge:=Qk ho4
 refine Qw<|QO rfl rfl<|Qb<|xe ?_
 refine ⟨(k+1,v5),by simp only[];omega,⟨rfl,rfl,trivial⟩,hlt,(hs1.trans hs14).then hs5 (λb hb=>.inr (hge b hb).1),?_⟩
 simp only[]
 rw[htk,List.map_append,List.flatMap_append]
 simpa using ho5
theorem QeZ {L:LN}{w:World}{r:Value}{base e:Nat}{ps:List AV}(h:w.ownsRow base e 4 r ps.length (ps.flatMap Zm)) (hn:ps.length≤1099511627776) (hL:∀b∈L,b<base) (he:∀p∈ps,Zt L w.heap p.va p.vm p.ve p.a):Xx L w.heap r ps :=
 ⟨QT h hn (λb hb hbL=>by have:=(Qk h b hb).1;have:=hL b hbL;omega),he⟩
theorem QeY {w:World}{b:Nat}{n m:Int}(hB:Q2 w.heap b 3 [.int .i64 m]) :
  QJ prog 164 ([.int .i64 n]++[.pointer (some ⟨b,0,none⟩)]) w λr w'=>r=.bool (decide (m≤n))∧Step [] w w':=by
 refine QJ.of_W func164 rfl ntmps164 results164 (by simp) ?_
 refine Qc<|Qe<|Qc<|Qb<|x (Qd hB rfl rfl)<|x (ZR rfl rfl)<|Qe ?_
 exact Ql ⟨[_],⟨rfl,trivial⟩,rfl,Step.refl _ _⟩
abbrev KX (n:Int):LV:=[.int .i64 n]
theorem Qjc (n:Int):(KX n).length=1:=rfl
theorem Qig:∀l:LI,l.flatMap KX=l.map (.int .i64)
 | []=>rfl
 | a::l=>by rw[List.flatMap_cons,Qig l];rfl
theorem QL.fl {L:LN}{H:Array Obj}{v:Value}{l:LI}(h:QL L H v l):Zj L H v l.length 1 (l.flatMap KX):=by
 rw[Qig l];exact h
theorem QeW {gp:Nat}{fn:Func}[Fu prog gp fn] {cap:LV}{q:Int→Bool}{L:LN}{w:World}{v:Value}{l:LI}(h:Zj L w.heap v l.length 1 (l.flatMap KX))
  (hk:∀e∈l,∀(w1:World),Step [] w w1→QJ prog gp ([.int .i64 e]++cap) w1 λr w'=>r=.bool (q e)∧Step [] w1 w') :
  QJ prog 131 [v,.func (.func gp) #[] cap.toArray] w λr w'=>r=.int .i64 (fix q 0 l)∧Step [] w w':=by
 have hle:=h.le
 refine QJ.of_W func131 rfl ntmps131 results131 (by simp) ?_
 refine Qc<|Qe<|Qf<|Qc<|Qb<|x (Qr h rfl)<|Qb<|xe ?_
 refine Qg<|QA (α:=Nat) [(4,5),(8,18)] (λz=>[(8,.int .i64 z)]) (λz w'=>z≤l.length∧Step [] w w'∧fix q z (l.drop z)=fix q 0 l) (λz=>l.length - z) (by rfl) 0 ⟨rfl,trivial⟩
  ⟨Nat.zero_le _,Step.refl _ _,rfl⟩ ?_
 rintro k g w1 ⟨hk1,hs1,hfx⟩
 refine Qc<|x (QB rfl rfl)<|xe ?_
 refine Qf<|QG rfl (λh9=>?_) (λh9=>?_)
 ·refine Qx ?_
  have hke:l.length≤k:=by have h10:¬(k:Int)<(l.length:Int):=h9;omega
  rw[List.drop_of_length_le hke] at hfx
  refine Qc<|Qe ?_
  exact Ql ⟨[_],⟨rfl,trivial⟩,by rw[←hfx];rfl,hs1⟩
 have hlt:k<l.length:=by have h10:(k:Int)<(l.length:Int):=h9;omega
 rw[QX hlt,ZM] at hfx
 have hmem:=List.getElem_mem hlt
 refine Qi<|Qf<|Qg<|Qc<|Qb<|Qe<|Qc<|Qb<|Qb<|Qb<|xig Qjc (h.ext hs1) rfl rfl hlt λa14 h14=>?_
 refine Zd (l[k]'hlt) λe he=>?_
 rw[he] at h14 hfx hmem
 refine x (Qv h14 rfl)<|xl rfl<|xc (first:=[]) (capt:=cap) rfl<|(hk e hmem w1 hs1).mono ?_
 rintro r2 w2 ⟨rfl,hs2⟩
 refine xe ?_
 refine Q5 rfl (λh16=>?_) (λh16=>?_)
 ·rw[if_pos h16] at hfx
  refine Qc<|Qb<|Qe ?_
  exact Ql ⟨[_],⟨rfl,trivial⟩,by rw[←hfx];rfl,hs1.trans hs2⟩
 rw[if_neg (by rw[h16];decide)] at hfx
 refine Qi<|Qw<|QO rfl rfl<|Qb<|xe ?_
 exact ⟨k+1,by omega,⟨rfl,trivial⟩,hlt,hs1.trans hs2,hfx⟩
theorem QjB {gp:Nat}{fn:Func}[Fu prog gp fn] {cap:LV}{q:Int→Bool}{L:LN}{w:World}{v:Value}{l:LI}(h:Zj L w.heap v l.length 1 (l.flatMap KX))
  (hk:∀e∈l,∀(w1:World),Step [] w w1→QJ prog gp ([.int .i64 e]++cap) w1 λr w'=>r=.bool (q e)∧Step [] w1 w') :
  QJ prog 135 [v,.func (.func gp) #[] cap.toArray] w λr w'=>r=.bool (l.any q)∧Step [] w w':=by
 refine QJ.of_W func135 rfl ntmps135 results135 (by simp) ?_
 refine Qc<|Qe<|Qc<|Qb<|Qb<|xl rfl<|xf<|(QeW h hk).mono ?_
 rintro r1 w1 ⟨rfl,hs1⟩
 refine x (ZR rfl rfl)<|Qe ?_
 exact Ql ⟨[_],⟨rfl,trivial⟩,congrArg Value.bool (z7 q l 0),hs1⟩
theorem QbE {L L':LN}{w:World}{q:IV}{nev:Nat}{vg:Value}{amg:LI}{bm:Nat}{seen:List ByteArray}(hA:Zt L w.heap q.p.va q.p.vm q.p.ve q.p.a) (hnm:VW q.nm) (hg:QL L' w.heap vg amg) (hgl:amg.length≤4096) (hm:Z2 Xl w.heap bm (nmM seen)) (hbL:bm∈L) (hbL':bm∈L') :
  QJ prog 95 [.agg (QW q).toArray,.int .i64 nev,vg,.map (some bm)] w λr w'=>r=.int .i64 (Z0 nev amg seen q.it)∧Step [bm] w w'∧(Z0 nev amg seen q.it=0→Z2 Xl w'.heap bm (nmM (seen++[q.nm]))):=by
 have hr:Z0 nev amg seen q.it=(if Yy q.nm=false then 7 else if q.nm∈seen then 8 else if Jh q.p.a≠0 then Jh q.p.a else if JH q.p.a=false then 6 else if q.p.a.st=0 then 12 else
  if (q.p.a.al.any λe=>decide ((nev:Int)≤e))=true then 2 else if (mns q.p.a.al amg).length≠0 then 9 else 0):=rfl
 refine Zd (Z0 nev amg seen q.it) λR hR=>?_
 rw[hR] at hr ⊢
 refine QJ.of_W func95 rfl ntmps95 results95 (by simp) ?_
 refine Qc<|xl rfl<|QQ (us:=QW q) rfl λb4 w1 hs1 hb4 hB4=>xl rfl<|QQ (us:=[.int .i64 nev]) rfl λb5 w2 hs2 hb5 hB5=>Qe ?_
 have hs12:=hs1.trans hs2
 have hB42:=hB4.ext hs2
 refine Qf<|Qg<|Qc<|x (Qa rfl)<|x (Qd hB42 rfl rfl)<|xl rfl<|xf<|(VI q.nm hnm w2).mono ?_
 rintro r3 w3 ⟨rfl,rfl⟩
 refine x (Zn rfl)<|Qe<|Q5 rfl (λh10=>?_) (λh10=>?_)
 ·have hn:Yy q.nm=false:=by simpa using h10
  rw[if_pos hn] at hr
  subst hr
  refine Qc<|Qe ?_
  exact Ql ⟨[_],⟨rfl,trivial⟩,rfl,hs12.any,λe=>absurd e (by decide)⟩
 have hn:¬Yy q.nm=false:=by simpa using h10
 rw[if_neg hn] at hr
 have hm2:=hm.ext hs12
 refine Qc<|Qb<|x (Qa rfl)<|x (Qd hB42 rfl rfl)<|x (yL hm2 rfl rfl)<|Qe<|Q4 rfl (λh15=>?_) (λh15=>?_)
 ·rw[if_pos h15] at hr
  subst hr
  refine Qc<|Qe ?_
  exact Ql ⟨[_],⟨rfl,trivial⟩,rfl,hs12.any,λe=>absurd e (by decide)⟩
 rw[if_neg h15] at hr
 refine Qi ?_
 have hbm:=hm.lt
 refine Qc<|Qb<|x (Qa rfl)<|x (Qd hB42 rfl rfl)<|xl rfl<|Xi (k:=q.nm) hm2 rfl rfl λw4 hs4 hm4=>xe ?_
 rw[show ev _ _=Value.bool true from rfl,Qbr h15] at hm4
 have hsb4:Step [bm] w w4:=hs12.any.trans' hs4
 have hz1:=hs1.size
 have hB4':=hB42.step hs4 (by simp;omega)
 have hB5':=hB5.step hs4 (by simp;omega)
 have hA4:Zt L w4.heap q.p.va q.p.vm q.p.ve q.p.a:=hA.st (hsb4.mono (λb hb=>by simp at hb;subst hb;exact hbL))
 have hg4:QL L' w4.heap vg amg:=hg.st (hsb4.mono (λb hb=>by simp at hb;subst hb;exact hbL'))
 refine Qf<|Qc<|x (Qa rfl)<|x (Yv (us:=Zm q.p) hB4' rfl rfl rfl)<|xl rfl<|xf<|(Xo hA4).mono ?_
 rintro r5 w5 ⟨rfl,hs5⟩
 refine Qe<|Qc<|Qb<|x (Q8 rfl rfl)<|xe ?_
 refine Q4 rfl (λh27=>?_) (λh27=>?_)
 ·rw[if_pos h27] at hr
  subst hr
  refine Qc<|Qb<|Qe ?_
  exact Ql ⟨[_],⟨rfl,trivial⟩,rfl,hsb4.trans hs5,λe=>absurd e h27⟩
 rw[if_neg h27] at hr
 have hok:=(ZE q.p.a).1 (Decidable.not_not.1 h27)
 refine Qi<|Qf<|Qg<|Qc<|x (Qa rfl)<|x (Yv (us:=Zm q.p) (hB4'.ext hs5) rfl rfl rfl)<|xl rfl<|xf<|(Qf9 (hA4.ext hs5)).mono ?_
 rintro r6 w6 ⟨rfl,hs6⟩
 have hs46:=hs5.trans hs6
 have hsb6:=hsb4.trans hs46
 have hB46:=hB4'.ext hs46
 refine x (Zn rfl)<|Qe<|Q5 rfl (λh29=>?_) (λh29=>?_)
 ·have hn:JH q.p.a=false:=by simpa using h29
  rw[if_pos hn] at hr
  subst hr
  refine Qc<|Qe ?_
  exact Ql ⟨[_],⟨rfl,trivial⟩,rfl,hsb6,λe=>absurd e (by decide)⟩
 have hn:¬JH q.p.a=false:=by simpa using h29
 rw[if_neg hn] at hr
 refine Qc<|x (Qa rfl)<|x (Qa rfl)<|x (Qd hB46 rfl rfl)<|x (Q7 rfl rfl)<|Qe<|Q4 rfl (λh34=>?_) (λh34=>?_)
 ·have h35:q.p.a.st=0:=h34
  rw[if_pos h35] at hr
  subst hr
  refine Qc<|Qe ?_
  exact Ql ⟨[_],⟨rfl,trivial⟩,rfl,hsb6,λe=>absurd e (by decide)⟩
 have h35:¬q.p.a.st=0:=h34
 rw[if_neg h35] at hr
 refine Qc<|x (Qa rfl)<|x (Qa rfl)<|x (Qd hB46 rfl rfl)<|x Zr<|xl rfl<|xf<|(QjB (q:=λe=>decide ((nev:Int)≤e)) (cap:=[.pointer (some ⟨b5,0,none⟩)]) (QL.fl (hA4.al.ext hs46)) (λe he w2 hs2=>QeY ((hB5'.ext hs46).ext hs2))).mono ?_
 rintro r7 w7 ⟨rfl,hs7⟩
 have hs47:=hs46.trans hs7
 have hsb7:=hsb4.trans hs47
 refine Qe<|Q5 rfl (λh39=>?_) (λh39=>?_)
 ·rw[if_pos h39] at hr
  subst hr
  refine Qc<|Qe ?_
  exact Ql ⟨[_],⟨rfl,trivial⟩,rfl,hsb7,λe=>absurd e (by decide)⟩
 rw[if_neg (by rw[h39];decide)] at hr
 have hall:=hok.al_le
 refine Qc<|x (Qa rfl)<|x (Qa rfl)<|x (Qd (hB4'.ext hs47) rfl rfl)<|Qb<|xl rfl<|xf<|(Qc6 (hA4.al.ext hs47) (hg4.ext hs47) (by omega)).mono ?_
 rintro r8 w8 ⟨hs8,rfl⟩
 have hs48:=hs47.trans hs8
 have hsb8:=hsb4.trans hs48
 refine x (Us rfl)<|Qe<|Q4 rfl (λh45=>?_) (λh45=>?_)
 ·have h46:(mns q.p.a.al amg).length≠0:=λe=>h45 (List.eq_nil_of_length_eq_zero e)
  rw[if_pos h46] at hr
  subst hr
  refine Qc<|Qe ?_
  exact Ql ⟨[_],⟨rfl,trivial⟩,rfl,hsb8,λe=>absurd e (by decide)⟩
 have h46:¬(mns q.p.a.al amg).length≠0:=λe=>h45 (λh=>e (by rw[show mns q.p.a.al amg=[] from h];rfl))
 rw[if_neg h46] at hr
 subst hr
 refine Qi<|Qc<|Qe ?_
 exact Ql ⟨[_],⟨rfl,trivial⟩,rfl,hsb8,λ_=>hm4.ext hs48⟩
theorem QcY {L:LN}{w:World}{v:Value}{l:List (Int×Int)}(h:jQ L w.heap v l) :
  QJ prog 173 [v] w λr w'=>Step [] w w'∧w'.ownsRow w.heap.size 124 2 r l.length (l.flatMap QN):=by
 have hle:=h.le
 refine QJ.of_W func173 rfl ntmps173 results173 (by simp) ?_
 refine Qc<|Qe ?_
 obtain ⟨ao,cap,hv⟩:=h.shape
 refine Qf<|Qc<|Qb<|x (KL (show ev _ _=_ from hv) rfl)<|xe ?_
 refine Q5 rfl (λh4=>?_) (λh4=>?_)
 ·refine Qc<|Qe<|Ql ⟨[nS],⟨rfl,trivial⟩,Step.refl _ _,?_⟩
  rcases h.2.2 with ⟨h1,h2⟩ | ⟨a,c,h1,_⟩
  ·have:l=[]:=List.eq_nil_of_length_eq_zero h2
   subst this;exact QP _ _ _ _
  ·rw[h1] at hv;cases hv;cases h4
 rcases h.2.2 with ⟨h1,h2⟩ | ⟨a,c,h1,h2,h3⟩
 ·rw[h1] at hv;injection hv with e1;subst e1;cases h4
 refine Qi<|Qc ?_
 have ho:∀u∈l.flatMap QN,u.oneCell'=true:=by
  intro u hu
  obtain ⟨p,_,hp⟩:=List.mem_flatMap.1 hu
  simp only[List.mem_cons,List.not_mem_nil,or_false] at hp
  rcases hp with rfl | rfl <;> rfl
 refine xl rfl<|Kg λb5 w1 hs1 hb5 hB5=>Qb<|xl rfl<|QZ (base:=w.heap.size) (hB5.own (n:=0) (sz:=2) rfl (by omega) hb5) rfl (show ev _ _=_ from h1) h.1 (h3.ext hs1) ho (by omega) (by have:=hB5.lt;omega) λv2 w2 ho2 hs2 hn2=>Qe<|Ql ⟨[v2],⟨rfl,trivial⟩,hs1.then1 hs2 hb5,?_⟩
 simpa[tup] using ho2
theorem QcX {L:LN}{w:World}{v:Value}{l:List (Int×Int)}(h:jQ L w.heap v l) :
  QJ prog 174 [v] w λr w'=>Step [] w w'∧w'.ownsRow w.heap.size 129 2 r l.length (l.flatMap QN):=by
 have hle:=h.le
 refine QJ.of_W func174 rfl ntmps174 results174 (by simp) ?_
 refine Qc<|Qe ?_
 obtain ⟨ao,cap,hv⟩:=h.shape
 refine Qf<|Qc<|Qb<|x (KL (show ev _ _=_ from hv) rfl)<|xe ?_
 refine Q5 rfl (λh4=>?_) (λh4=>?_)
 ·refine Qc<|Qe<|Ql ⟨[nS],⟨rfl,trivial⟩,Step.refl _ _,?_⟩
  rcases h.2.2 with ⟨h1,h2⟩ | ⟨a,c,h1,_⟩
  ·have:l=[]:=List.eq_nil_of_length_eq_zero h2
   subst this;exact QP _ _ _ _
  ·rw[h1] at hv;cases hv;cases h4
 rcases h.2.2 with ⟨h1,h2⟩ | ⟨a,c,h1,h2,h3⟩
 ·rw[h1] at hv;injection hv with e1;subst e1;cases h4
 refine Qi<|Qc ?_
 have ho:∀u∈l.flatMap QN,u.oneCell'=true:=by
  intro u hu
  obtain ⟨p,_,hp⟩:=List.mem_flatMap.1 hu
  simp only[List.mem_cons,List.not_mem_nil,or_false] at hp
  rcases hp with rfl | rfl <;> rfl
 refine xl rfl<|Kg λb5 w1 hs1 hb5 hB5=>Qb<|xl rfl<|QZ (base:=w.heap.size) (hB5.own (n:=0) (sz:=2) rfl (by omega) hb5) rfl (show ev _ _=_ from h1) h.1 (h3.ext hs1) ho (by omega) (by have:=hB5.lt;omega) λv2 w2 ho2 hs2 hn2=>Qe<|Ql ⟨[v2],⟨rfl,trivial⟩,hs1.then1 hs2 hb5,?_⟩
 simpa[tup] using ho2
theorem ZH.low {base:Nat}{av X:LN}{w w':World}{v:Value}{n sz:Nat}{cs:LV}(h:ZH base av w.heap v n sz cs) (hs:Step X w w') (hX:∀b∈X,b<base):ZH base av w'.heap v n sz cs:=by
 intro L hL
 have h1:Zj (X++L) w.heap v n sz cs:=h _ (λb hb=>by
  rcases List.mem_append.1 hb with hb | hb
  ·exact .inl (hX b hb)
  ·exact hL b hb)
 exact (h1.step hs (λb hb=>List.mem_append.2 (.inl hb))).up (λb hb=>.inl (List.mem_append.2 (.inr hb)))
theorem ZN.low {α:Type}{g:α→LV}{sz T:Nat}{p:α→Value×Nat×Nat×LV}{base:Nat}{X:LN}{w w':World}{v:Value}{l:List α}(h:ZN g sz T p base w v l) (hs:Step X w w') (hX:∀b∈X,b<base):ZN g sz T p base w' v l :=
 ⟨Qj h.own hs (λb hb hm=>by have:=(Qk h.own b hb).1;have:=hX b hm;omega),λq hq=>(h.each q hq).low hs hX⟩
theorem ZN.arr {α:Type}{g:α→LV}{sz T:Nat}{p:α→Value×Nat×Nat×LV}{base:Nat}{w:World}{v:Value}{l:List α}{L:LN}(h:ZN g sz T p base w v l) (hn:l.length≤1099511627776) (hL:∀b∈L,b<base):Zj L w.heap v l.length sz (l.flatMap g) :=
 QT h.own hn (λb hb hbL=>by have:=(Qk h.own b hb).1;have:=hL b hbL;omega)
abbrev xvP (q:XV):Value×Nat×Nat×LV:=(q.v,q.ls.length,2,q.ls.flatMap QN)
abbrev kvP (q:KV):Value×Nat×Nat×LV:=(q.v,q.ts.length,2,q.ts.flatMap QN)
abbrev XvN (base:Nat) (w:World) (v:Value) (l:List XV):Prop:=ZN Q9 2 122 xvP base w v l
abbrev KvN (base:Nat) (w:World) (v:Value) (l:List KV):Prop:=ZN Za 3 127 kvP base w v l
theorem XvN.xcs {base:Nat}{w:World}{v:Value}{l:List XV}{qs:List XV}{L:LN}(h:XvN base w v l) (he:l.map (·.x)=qs.map (·.x)) (hq:∀q∈qs,VW q.nm) (hn:l.length≤1099511627776) (hL:∀b∈L,b<base):qd L w.heap v l:=by
 refine ⟨h.arr hn hL,λq hq=>h.each q hq L (λb hb=>.inl (hL b hb)),λq hm=>?_⟩
 have h1:q.x∈qs.map (·.x):=by rw[←he];exact List.mem_map_of_mem hm
 obtain ⟨q',hq',e⟩:=List.mem_map.1 h1
 have h2:=hq q' hq'
 have h3:q'.nm=q.nm:=congrArg zg.nm e
 rw[h3] at h2;exact h2
theorem KvN.kcs {base:Nat}{w:World}{v:Value}{l:List KV}{qs:List KV}{L:LN}(h:KvN base w v l) (he:l.map (·.k)=qs.map (·.k)) (hq:∀q∈qs,VW q.nm) (hn:l.length≤1099511627776) (hL:∀b∈L,b<base):U5 L w.heap v l:=by
 refine ⟨h.arr hn hL,λq hq=>h.each q hq L (λb hb=>.inl (hL b hb)),λq hm=>?_⟩
 have h1:q.k∈qs.map (·.k):=by rw[←he];exact List.mem_map_of_mem hm
 obtain ⟨q',hq',e⟩:=List.mem_map.1 h1
 have h2:=hq q' hq'
 have h3:q'.nm=q.nm:=congrArg Y3.nm e
 rw[h3] at h2;exact h2
theorem QH {w:World}{base e sz n:Nat}{v:Value}{cs:LV}(h:w.ownsRow base e sz v n cs):v.oneCell'=true:=by
 rcases h.2 with ⟨h1,_⟩ | ⟨g,cap,cur,h1,_⟩ <;> subst h1 <;> rfl
theorem Q3 {w:World}{base e sz n:Nat}{v:Value}{cs:LV}(h:w.ownsRow base e sz v n cs):v.cells=[v].toArray:=by
 rcases h.2 with ⟨h1,_⟩ | ⟨g,cap,cur,h1,_⟩ <;> subst h1 <;> rfl
theorem zi {q:XV}(h:q.v.oneCell'=true):∀u∈Q9 q,u.oneCell'=true:=by
 intro u hu
 simp only[List.mem_cons,List.not_mem_nil,or_false] at hu
 rcases hu with rfl | rfl
 ·rfl
 ·exact h
theorem QbB {q:KV}(h:q.v.oneCell'=true):∀u∈Za q,u.oneCell'=true:=by
 intro u hu
 simp only[List.mem_cons,List.not_mem_nil,or_false] at hu
 rcases hu with rfl | rfl | rfl
 ·rfl
 ·exact h
 ·rfl
def Qlv (N:Nat) (w:World) (r:Value) (sz:LI) (ex:List zg) (cs:List Y3):Prop:=∃vs vx vk qx ks,r=.agg #[vs,vx,vk]∧qx.map (·.x)=ex∧ks.map (·.k)=cs∧∀L:LN,(∀b∈L,b<N)→QL L w.heap vs sz∧qd L w.heap vx qx∧U5 L w.heap vk ks
set_option maxHeartbeats 4000000 in
theorem q9 {L:LN}{w:World}{c:CL}(h:Zu L w.heap c) :
  QJ prog 98 [c.val] w λr w'=>Step [] w w'∧Qlv w.heap.size w' r (szs c.cel.co) c.cel.ex c.cel.cs:=by
 have hcl:=h.co.arr.le
 have hxl:=h.ex.arr.le
 have hkl:=h.cs.arr.le
 refine QJ.of_W func98 rfl ntmps98 results98 (by simp) ?_
 refine Qc<|xl rfl<|QQ (us:=c.cells) rfl λb1 w1 hs1 hb1 hB1=>xl rfl<|Qt (us:=[nS,nS,nS]) rfl λb2 w2 hs2 hb2 hB2=>xe ?_
 have hz1:=hs1.size
 have hz2:=hs2.size
 have hl1:=hB1.lt
 have hl2:=hB2.lt
 refine Qc<|x (QE trivial)<|xl rfl<|Qt (us:=[nS,nS,nS]) rfl λb3 w3 hs3 hb3 hB3=>xl rfl<|Qn (us:=[nS,nS,nS]) hB3 rfl rfl rfl rfl ⟨rfl,rfl,rfl,trivial⟩ λw4 hs4 hB3 =>
  xe ?_
 have hl3:=hB3.lt
 have hs24:Step [] w2 w4:=hs3.then1 hs4 hb3
 have hs04:Step [] w w4:=(hs1.trans hs2).trans hs24
 have hz4:=hs04.size
 have hB14:=(hB1.ext hs2).ext hs24
 have hB24:=hB2.ext hs24
 have h4:=h.ext hs04
 have hlt1:b1<b3:=by omega
 have hlt2:b2<b3:=by omega
 have hge3:w.heap.size≤b3:=by omega
 have hbk:∀{wa wb:World},Step [b3] wa wb→Step [] w wa→Step [] w wb:=λha hb=>hb.then1 ha hge3
 refine Qf<|Qc<|x (Qa rfl)<|x (Qd hB14 rfl rfl)<|x (Qr h4.co.arr rfl)<|Qb<|xe ?_
 refine Qg<|QA (α:=Nat×Value) [(5,5),(14,26)] (λz=>[(14,.int .i64 z.1)]) (λz w'=>z.1≤c.co.length∧Step [b3] w4 w'∧Q2 w'.heap b3 151 [z.2,nS,nS]∧Qu 3 w4.heap.size w' z.2 ((c.co.take z.1).map (·.p.a.st))) (λz=>c.co.length - z.1) (by rfl) (0,nS) ⟨rfl,trivial⟩
  ⟨Nat.zero_le _,Step.refl _ _,hB3,QP _ _ _ _⟩ ?_
 rintro ⟨k,vs⟩ g w5 ⟨hk,hs5,hB35,ho5⟩
 simp only[] at hk hB35 ho5
 have hs05:=hbk hs5 hs04
 have h5:=h.ext hs05
 have hB15:=hB14.step hs5 (by simp;omega)
 have hB25:=hB24.step hs5 (by simp;omega)
 have hz5:=hs5.size
 refine Qc<|x (QB rfl rfl)<|xe ?_
 refine Qf<|QG rfl (λh15=>?_) (λh15=>?_)
 ·refine Qx ?_
  have hke:c.co.length≤k:=by have h16:¬(k:Int)<(c.co.length:Int):=h15;omega
  rw[List.take_of_length_le hke] at ho5
  refine Qf<|Qc<|x (Qa rfl)<|x (Qd hB15 rfl rfl)<|x (Qr h5.ex.arr rfl)<|Qb<|xe ?_
  refine Qg<|QA (α:=Nat×Value×List XV) [(7,7),(30,45)] (λz=>[(30,.int .i64 z.1)]) (λz w'=>z.1≤c.ex.length∧Step [b3] w5 w'∧Q2 w'.heap b3 151 [vs,z.2.1,nS]∧XvN w5.heap.size w' z.2.1 z.2.2∧z.2.2.map (·.x)=(c.ex.take z.1).map (·.x)) (λz=>c.ex.length - z.1) (by rfl) (0,nS,[]) ⟨rfl,trivial⟩
   ⟨Nat.zero_le _,Step.refl _ _,hB35,ZN.nil,rfl⟩ ?_
  rintro ⟨j,vx,qx⟩ g w6 ⟨hj,hs6,hB36,hX6,hx6⟩
  simp only[] at hj hB36 hX6 hx6
  have hs06:=hbk hs6 hs05
  have h6:=h.ext hs06
  have hB16:=hB15.step hs6 (by simp;omega)
  have hB26:=hB25.step hs6 (by simp;omega)
  have hz6:=hs6.size
  have hqxl:qx.length=j:=by have:=congrArg List.length hx6;simp at this;omega
  refine Qc<|x (QB rfl rfl)<|xe ?_
  refine Qf<|QG rfl (λh31=>?_) (λh31=>?_)
  ·refine Qx ?_
   have hje:c.ex.length≤j:=by have h16:¬(j:Int)<(c.ex.length:Int):=h31;omega
   rw[List.take_of_length_le hje] at hx6
   refine Qf<|Qc<|x (Qa rfl)<|x (Qd hB16 rfl rfl)<|x (Qr h6.cs.arr rfl)<|Qb<|xe ?_
   refine Qg<|QA (α:=Nat×Value×List KV) [(9,9),(49,66)] (λz=>[(49,.int .i64 z.1)]) (λz w'=>z.1≤c.cs.length∧Step [b3] w6 w'∧Q2 w'.heap b3 151 [vs,vx,z.2.1]∧KvN w6.heap.size w' z.2.1 z.2.2∧z.2.2.map (·.k)=(c.cs.take z.1).map (·.k)) (λz=>c.cs.length - z.1) (by rfl) (0,nS,[]) ⟨rfl,trivial⟩
    ⟨Nat.zero_le _,Step.refl _ _,hB36,ZN.nil,rfl⟩ ?_
   rintro ⟨i,vk,ks⟩ g w7 ⟨hi,hs7,hB37,hK7,hk7⟩
   simp only[] at hi hB37 hK7 hk7
   have hs07:=hbk hs7 hs06
   have h7:=h.ext hs07
   have hB27:=hB26.step hs7 (by simp;omega)
   have hz7:=hs7.size
   have hksl:ks.length=i:=by have:=congrArg List.length hk7;simp at this;omega
   refine Qc<|x (QB rfl rfl)<|xe ?_
   refine Qf<|QG rfl (λh50=>?_) (λh50=>?_)
   ·refine Qx ?_
    have hie:c.cs.length≤i:=by have h16:¬(i:Int)<(c.cs.length:Int):=h50;omega
    rw[List.take_of_length_le hie] at hk7
    have hvs1:=(ho5.1)
    have hone:Zw [vs,vx,vk]:=⟨QH ho5,QH hX6.own,QH hK7.own,trivial⟩
    refine Qc<|x (Qq hB37 rfl rfl)<|xl rfl<|Qn (us:=[vs,vx,vk]) hB27 rfl rfl rfl rfl hone λw8 hs8 hB28=>xe ?_
    have hs78:Step [b2] w7 w8:=hs8
    refine Ql ⟨[.agg #[vs,vx,vk]],⟨⟨_,rfl,Qz rfl (hB28.at (L:=[]) (by simp)).cells⟩,trivial⟩,hs07.then1 hs8 (by omega),?_⟩
    have ho8:=Qj ((Qj ho5 hs6 (λb hb hm=>by have:=(Qk ho5 b hb).1;simp at hm;omega))) hs7 (λb hb hm=>by have:=(Qk ho5 b hb).1;simp at hm;omega)
    have ho9:=Qj ho8 hs8 (λb hb hm=>by have:=(Qk ho5 b hb).1;simp at hm;omega)
    have hX8:=(ZN.low hX6 hs7 (by simp;omega)).low hs8 (by simp;omega)
    have hK8:=ZN.low hK7 hs8 (by simp;omega)
    refine ⟨vs,vx,vk,qx,ks,rfl,hx6,hk7,λL hL=>⟨?_,XvN.xcs hX8 hx6 h.ex.nm (by omega) (λb hb=>by have:=hL b hb;omega),KvN.kcs hK8 hk7 h.cs.nm (by omega) (λb hb=>by have:=hL b hb;omega)⟩⟩
    have he:szs c.cel.co=c.co.map (·.p.a.st):=by show ((c.co.map IV.it).map _)=_;rw[List.map_map];rfl
    rw[he]
    exact Qu.ints ho9 (by rw[List.length_map];omega) (λb hb=>by have:=hL b hb;omega)
   have hltC:i<c.cs.length:=by have h16:(i:Int)<(c.cs.length:Int):=h50;omega
   have hmemC:=List.getElem_mem hltC
   have htkC:c.cs.take (i+1)=c.cs.take i++[c.cs[i]'hltC]:=List.take_succ_eq_append_getElem hltC
   refine Qi<|Qf<|Qg<|Qc<|xig YN h7.cs.arr rfl rfl hltC λa51 h51=>?_
   refine Zd (c.cs[i]'hltC) λq hq=>?_
   rw[hq] at h51 hmemC htkC
   have hqA:=h7.cs.each q hmemC
   refine x (QC h51 rfl rfl)<|xl rfl<|Qt (us:=[.string .empty,nS,.int .i64 0]) rfl λb9 w9 hs9 hb9 hB9=>xl rfl<|Qn (us:=Za q) hB9 rfl rfl rfl rfl ⟨rfl,hqA.one,rfl,trivial⟩ λw10 hs10 hB9 =>
    xe ?_
   have hs710:Step [] w7 w10:=hs9.then1 hs10 hb9
   have hB310:=hB37.ext hs710
   have hKlt:=Qk hK7.own
   have hb3v:b3∉ob vk:=λhm=>by have:=(hKlt b3 hm).1;omega
   have hb9v:b9∉ob vk:=λhm=>by have:=(hKlt b9 hm).2;omega
   refine QS (Step (ob vk) w10) [(0,true),(1,true),(2,true),(3,true),(4,true),(5,true),(7,true),(8,true),(6,false),(9,true),(10,false),(11,false),(12,true),(13,false)] mixed (by rfl) (by kernel_rfl) (Step.drew _ _) ?_
   have hs710d:=hs710.trans (Step.drew [] w10)
   refine p (λ_=>Qa rfl)<|pq (λ_ hc=>Qd (hB310.step hc hb3v) rfl rfl)<|p (λ_=>Qa rfl)<|pq (λ_ hc=>Qd (hB9.step hc hb9v) rfl rfl) <|
    p (λ_=>Qa rfl)<|pq (λ_ hc=>Qd (hB9.step hc hb9v) rfl rfl)<|p (λ_=>Qa rfl)<|pq (λ_ hc=>Qd (hB9.step hc hb9v) rfl rfl) <|
    pk<|xf<|(QcX (hqA.ext hs710d)).mono ?_
   rintro r11 w11 ⟨hs11,ho11⟩
   have hs1011:=(Step.drew [] w10).trans hs11
   refine ⟨hs1011.any,?_⟩
   refine p (λ_=>QE ⟨rfl,Q3 ho11,rfl,trivial⟩)<|pk<|QD (us:=[Za ⟨q.nm,r11,q.ts,q.bd⟩]) rfl rfl (by decide) (by simp) ⟨rfl,rfl,trivial⟩ λb63 w12 hs12 hb63 hB63=>⟨(hs1011.trans hs12).any,?_⟩
   have hs712:=(hs710.trans hs1011).trans hs12
   have hzd:w10.heap.size=({ w10 with drawn:=w10.drawn+1 }:World).heap.size:=rfl
   have hz710:=hs710.size
   have hz712:=hs712.size
   refine pk<|QZ (news:=Za ⟨q.nm,r11,q.ts,q.bd⟩) (L:=[]) (Qs hK7.own hs712) rfl rfl rfl (hB63.at (by simp)) (QbB (q:=⟨q.nm,r11,q.ts,q.bd⟩) (QH ho11)) (by omega) (by omega) λv13 w13 ho13 hs13 hn13=>⟨((hs1011.trans hs12).any (L:=ob vk)).trans' hs13,?_⟩
   have hK13:KvN w6.heap.size w13 v13 (ks++[⟨q.nm,r11,q.ts,q.bd⟩]):=ZN.app hK7 hs712 (Qs ho11 hs12) hqA.le (by rw[←hzd];omega) (by omega) ho13 hs13 hn13
   have hB313:=(hB310.step ((hs1011.trans hs12).any (L:=ob vk)) hb3v).step hs13 hb3v
   refine p (λ_=>Qa rfl)<|pkl (hl:=by kernel_rfl)<|QF (j:=2) (u:=v13) hB313 rfl rfl (by simp) (QH ho13) λw14 hs14 hB314=>pe ?_
   have hs613:Step [b3] w6 w13:=(hs7.trans hs712).then hs13 (λb hb=>.inr (hKlt b hb).1)
   refine Qw<|QO rfl rfl<|Qb<|xe ?_
   refine ⟨(i+1,v13,ks++[⟨q.nm,r11,q.ts,q.bd⟩]),by simp only[];omega,⟨rfl,trivial⟩,hltC,?_,hB314,ZN.low hK13 hs14 (by simp;omega),?_⟩
   ·exact hs613.trans' hs14
   ·simp only[];rw[List.map_append,hk7,htkC,List.map_append];rfl
  have hltB:j<c.ex.length:=by have h16:(j:Int)<(c.ex.length:Int):=h31;omega
  have hmemB:=List.getElem_mem hltB
  have htkB:c.ex.take (j+1)=c.ex.take j++[c.ex[j]'hltB]:=List.take_succ_eq_append_getElem hltB
  refine Qi<|Qf<|Qg<|Qc<|xig YZ h6.ex.arr rfl rfl hltB λa32 h32=>?_
  refine Zd (c.ex[j]'hltB) λq hq=>?_
  rw[hq] at h32 hmemB htkB
  have hqA:=h6.ex.each q hmemB
  refine x (QC h32 rfl rfl)<|xl rfl<|Qt (us:=[.string .empty,nS]) rfl λb7 w15 hs15 hb7 hB7=>xl rfl<|Qn (us:=Q9 q) hB7 rfl rfl rfl rfl ⟨rfl,hqA.one,trivial⟩ λw16 hs16 hB7 =>
   xe ?_
  have hs616:Step [] w6 w16:=hs15.then1 hs16 hb7
  have hB316:=hB36.ext hs616
  have hXlt:=Qk hX6.own
  have hb3v:b3∉ob vx:=λhm=>by have:=(hXlt b3 hm).1;omega
  have hb7v:b7∉ob vx:=λhm=>by have:=(hXlt b7 hm).2;omega
  refine QS (Step (ob vx) w16) [(0,true),(1,true),(2,true),(3,true),(4,true),(5,true),(6,false),(7,true),(8,false),(9,false),(10,true),(11,false)] mixed (by rfl) (by kernel_rfl) (Step.drew _ _) ?_
  have hs616d:=hs616.trans (Step.drew [] w16)
  refine p (λ_=>Qa rfl)<|pq (λ_ hc=>Qd (hB316.step hc hb3v) rfl rfl)<|p (λ_=>Qa rfl)<|pq (λ_ hc=>Qd (hB7.step hc hb7v) rfl rfl) <|
   p (λ_=>Qa rfl)<|pq (λ_ hc=>Qd (hB7.step hc hb7v) rfl rfl)<|pk<|xf<|(QcY (hqA.ext hs616d)).mono ?_
  rintro r17 w17 ⟨hs17,ho17⟩
  have hs1617:=(Step.drew [] w16).trans hs17
  refine ⟨hs1617.any,?_⟩
  refine p (λ_=>QE ⟨rfl,Q3 ho17,trivial⟩)<|pk<|QD (us:=[Q9 ⟨q.nm,r17,q.ls⟩]) rfl rfl (by decide) (by simp) ⟨rfl,rfl,trivial⟩ λb42 w18 hs18 hb42 hB42=>⟨(hs1617.trans hs18).any,?_⟩
  have hs618:=(hs616.trans hs1617).trans hs18
  have hzd:w16.heap.size=({ w16 with drawn:=w16.drawn+1 }:World).heap.size:=rfl
  have hz616:=hs616.size
  have hz618:=hs618.size
  refine pk<|QZ (news:=Q9 ⟨q.nm,r17,q.ls⟩) (L:=[]) (Qs hX6.own hs618) rfl rfl rfl (hB42.at (by simp)) (zi (q:=⟨q.nm,r17,q.ls⟩) (QH ho17)) (by omega) (by omega) λv19 w19 ho19 hs19 hn19=>⟨((hs1617.trans hs18).any (L:=ob vx)).trans' hs19,?_⟩
  have hX19:XvN w5.heap.size w19 v19 (qx++[⟨q.nm,r17,q.ls⟩]):=ZN.app hX6 hs618 (Qs ho17 hs18) hqA.le (by rw[←hzd];omega) (by omega) ho19 hs19 hn19
  have hB319:=(hB316.step ((hs1617.trans hs18).any (L:=ob vx)) hb3v).step hs19 hb3v
  have hs519:Step [b3] w5 w19:=(hs6.trans hs618).then hs19 (λb hb=>.inr (hXlt b hb).1)
  refine p (λ_=>Qa rfl)<|pkl (hl:=by kernel_rfl)<|QF (j:=1) (u:=v19) hB319 rfl rfl (by simp) (QH ho19) λw20 hs20 hB320=>pe ?_
  refine Qw<|QO rfl rfl<|Qb<|xe ?_
  refine ⟨(j+1,v19,qx++[⟨q.nm,r17,q.ls⟩]),by simp only[];omega,⟨rfl,trivial⟩,hltB,?_,hB320,ZN.low hX19 hs20 (by simp;omega),?_⟩
  ·exact hs519.trans' hs20
  ·simp only[];rw[List.map_append,hx6,htkB,List.map_append];rfl
 have hltA:k<c.co.length:=by have h16:(k:Int)<(c.co.length:Int):=h15;omega
 have hmemA:=List.getElem_mem hltA
 have htkA:c.co.take (k+1)=c.co.take k++[c.co[k]'hltA]:=List.take_succ_eq_append_getElem hltA
 have htl:((c.co.take k).map (·.p.a.st)).length=k:=by simp;omega
 refine Qi<|Qf<|Qg<|Qc<|xig Yq h5.co.arr rfl rfl hltA λa16 h16=>?_
 refine Zd (c.co[k]'hltA) λq hq=>?_
 rw[hq] at h16 hmemA htkA
 have hqA:=h5.co.each q hmemA
 refine x (QC h16 rfl rfl)<|xl rfl<|Qt (us:=[.string .empty,nS,.int .i64 0,nS,nS]) rfl λb5 w21 hs21 hb5 hB5=>xl rfl<|Qn (us:=QW q) hB5 rfl rfl rfl rfl ⟨rfl,hqA.al.one,rfl,hqA.mr.one,hqA.ed.one,trivial⟩ λw22 hs22 hB5 =>
  xe ?_
 have hs522:Step [] w5 w22:=hs21.then1 hs22 hb5
 have hB322:=hB35.ext hs522
 refine Qw<|x (Qa rfl)<|x (Qd hB322 rfl rfl)<|x (Qa rfl)<|x (Qa rfl)<|x (Qd hB5 rfl rfl)<|xl rfl<|QD (us:=[[.int .i64 q.p.a.st]]) rfl rfl (by decide) (by simp) ⟨rfl,rfl,trivial⟩ λb23 w23 hs23 hb23 hB23=>?_
 have hs523:=hs522.trans hs23
 have hz523:=hs523.size
 have hlt5:=Qk ho5
 have hb3v:b3∉ob vs:=λhm=>by have:=(hlt5 b3 hm).1;omega
 refine xl rfl<|QZ (news:=[.int .i64 q.p.a.st]) (L:=[]) (Qs ho5 hs523) rfl rfl rfl (hB23.at (by simp)) (by simp[Value.oneCell']) (by omega) (by omega) λv24 w24 ho24 hs24 hn24=>?_
 have hB324:=(hB35.ext hs523).step hs24 hb3v
 have hs424:Step [b3] w4 w24:=(hs5.trans hs523).then hs24 (λb hb=>.inr (hlt5 b hb).1)
 refine x (Qa rfl)<|xl rfl<|QF (j:=0) (u:=v24) hB324 rfl rfl (by simp) (QH ho24) λw25 hs25 hB325 =>
  xe ?_
 have ho25:=Qj ho24 hs25 (λb hb hm=>by have:=(Qk ho24 b hb).1;simp at hm;omega)
 refine Qw<|QO rfl rfl<|Qb<|xe ?_
 refine ⟨(k+1,v24),by simp only[];omega,⟨rfl,trivial⟩,hltA,hs424.trans' hs25,hB325,?_⟩
 simp only[]
 rw[htkA,List.map_append]
 exact Qu.snoc (n:=q.p.a.st) ho25
theorem Qdt (n:Nat):Jw (n+1)=Jw n++[(n:Int)]:=by unfold Jw;rw[List.range_succ,List.map_append];rfl
theorem zl (n:Nat):(Jw n).length=n:=by unfold Jw;simp
theorem XG {k:Nat}{l:List IV}(h:k<l.length):(l.drop k).map (·.it)=(l[k]'h).it::(l.drop (k+1)).map (·.it):=by rw[QX h];rfl
theorem UU {n:Nat}{u:LI}{s:List ByteArray}{x:YE}(h:Z0 n u s x=0):Zs x.a:=by
 unfold Z0 at h
 split at h
 ·cases h
 ·split at h
  ·cases h
  ·split at h
   ·rename_i h1 h2;exact absurd h h2
   ·rename_i h1;exact (ZE _).1 (Decidable.not_not.1 h1)
theorem Kn {n:Nat}{al:LI}{s:List ByteArray}{u:LI}{x:YE}{l:List YE}:Z5 n al s u (x::l)=if Z0 n al s x≠0 then (Z0 n al s x,s,u) else Z5 n al (s++[x.nm]) (mrg (· || ·) u x.a.al) l:=rfl
theorem UT {n:Nat}{u:LI}{s:List ByteArray}{x:YE}{l:List YE}:X5 n u s (x::l)=if Z0 n u s x≠0 then Z0 n u s x else X5 n u (s++[x.nm]) l:=rfl
set_option maxHeartbeats 4000000 in
theorem YO {L:LN}{w:World}{c:CL}(h:Zu L w.heap c) :
  QJ prog 37 [c.val] w λr w'=>r=.int .i64 (Zi c.cel)∧Step [] w w':=by
 have hcl:=h.co.arr.le
 have hql:=h.rq.arr.le
 have hr:Zi c.cel=(if Jg c.ev≠0 then Jg c.ev else if c.co.length=0 then 12 else if 8<c.co.length∨12<c.co.length+c.rq.length then 3 else
  if (Z5 c.ev.length (Jw c.ev.length) [] [] (c.co.map (·.it))).1≠0 then (Z5 c.ev.length (Jw c.ev.length) [] [] (c.co.map (·.it))).1 else
  if X5 c.ev.length (Z5 c.ev.length (Jw c.ev.length) [] [] (c.co.map (·.it))).2.2 (Z5 c.ev.length (Jw c.ev.length) [] [] (c.co.map (·.it))).2.1 (c.rq.map (·.it))≠0 then X5 c.ev.length (Z5 c.ev.length (Jw c.ev.length) [] [] (c.co.map (·.it))).2.2 (Z5 c.ev.length (Jw c.ev.length) [] [] (c.co.map (·.it))).2.1 (c.rq.map (·.it)) else
  Yr (szs c.cel.co) c.cel.ex c.cel.cs):=by
  unfold Zi
  rw[show c.cel.co.length=c.co.length from List.length_map ..,show c.cel.rq.length=c.rq.length from List.length_map ..]
  rfl
 refine Zd (Zi c.cel) λR hR=>?_
 rw[hR] at hr ⊢
 refine Zd (Z5 c.ev.length (Jw c.ev.length) [] [] (c.co.map (·.it))) λCO hCO=>?_
 rw[hCO] at hr
 refine QJ.of_W func37 rfl ntmps37 results37 (by simp) ?_
 refine Qc<|xl rfl<|QQ (us:=c.cells) rfl λb1 w1 hs1 hb1 hB1=>Qe ?_
 have hz1:=hs1.size
 have hl1:=hB1.lt
 refine Qf<|Qc<|x (Qa rfl)<|x (Qd hB1 rfl rfl)<|xl rfl<|xf<|(UQ (h.ev.ext hs1)).mono ?_
 rintro r2 w2 ⟨rfl,hs2⟩
 refine Qe ?_
 have hs02:=hs1.trans hs2
 have hB12:=hB1.ext hs2
 have h2:=h.ext hs02
 refine Qc<|Qb<|x (Q8 rfl rfl)<|xe ?_
 refine Q4 rfl (λh19=>?_) (λh19=>?_)
 ·rw[if_pos h19] at hr
  subst hr
  refine Qc<|Qb<|Qe ?_
  exact Ql ⟨[_],⟨rfl,trivial⟩,rfl,hs02⟩
 rw[if_neg h19] at hr
 have hev:c.ev.length≤32:=by
  refine Decidable.not_not.1 λhn=>?_
  apply h19
  unfold Jg
  rw[if_pos (by omega)];decide
 refine Qi<|Qf<|Qc<|x (Qa rfl)<|x (Qd hB12 rfl rfl)<|x (Qr h2.co.arr rfl)<|Qe<|Qg<|Qc<|Qb<|x (Q7 rfl rfl)<|Qe<|Q4 rfl (λh24=>?_) (λh24=>?_)
 ·have h25:c.co.length=0:=by have h26:(c.co.length:Int)=0:=h24;omega
  rw[if_pos h25] at hr
  subst hr
  refine Qc<|Qe ?_
  exact Ql ⟨[_],⟨rfl,trivial⟩,rfl,hs02⟩
 have h25:¬c.co.length=0:=by have h26:¬(c.co.length:Int)=0:=h24;omega
 rw[if_neg h25] at hr
 refine QU (α:=Bool) [(27,37)] (λz=>[(27,.bool z)]) (λz w'=>w'=w2∧z=decide (8<c.co.length∨12<c.co.length+c.rq.length)) (by rfl) ?_ ?_
 ·refine Qw<|Qb<|xb (ZO rfl rfl) (λh29=>?_) (λh29=>?_)
  ·refine Qb<|xs rfl<|xs rfl<|xs rfl<|xs rfl<|xs rfl<|xs rfl<|x (Qm rfl)<|Qe ?_
   exact ⟨_,⟨rfl,trivial⟩,rfl,bT (.inl (by omega))⟩
  refine Qb<|Qb<|x (Qa rfl)<|x (Qd hB12 rfl rfl)<|x (Qr h2.rq.arr rfl)<|x (XY rfl rfl ⟨by omega,by omega⟩) <|
   x (ZO rfl rfl)<|x (Qm rfl)<|Qe ?_
  exact ⟨_,⟨rfl,trivial⟩,rfl,bD (by omega)⟩
 rintro z g w3 ⟨rfl,rfl⟩
 refine Q4 rfl (λh27=>?_) (λh27=>?_)
 ·rw[if_pos h27] at hr
  subst hr
  refine Qc<|Qe ?_
  exact Ql ⟨[_],⟨rfl,trivial⟩,rfl,hs02⟩
 rw[if_neg h27] at hr
 refine Qi<|Qc<|xl rfl<|Yn Xl λbm w4 hs4 hbm hm4=>Qe ?_
 have hlm:=hm4.lt
 have hl12:=hB12.lt
 have hz2:=hs02.size
 have hs04:=hs02.trans hs4
 have hB14:=hB12.ext hs4
 have hnm1:b1≠bm:=by omega
 have hge:w.heap.size≤bm:=by omega
 have hM:Zu [bm] w.heap c:=h.up (λb hb=>.inr (by simp at hb;omega))
 have hM4:=hM.ext hs04
 refine Qc<|x Qh<|Qe<|Qf<|Qc<|x (Qa rfl)<|x (Qd hB14 rfl rfl)<|x (Qr hM4.ev.arr rfl)<|Qb<|xe ?_
 refine Qg<|QA (α:=Nat×Value) [(6,6),(8,8),(42,49)] (λz=>[(6,z.2),(42,.int .i64 z.1)]) (λz w'=>z.1≤c.ev.length∧Step [] w4 w'∧Qu 3 w4.heap.size w' z.2 (Jw z.1)) (λz=>c.ev.length - z.1) (by rfl) (0,nS) ⟨rfl,rfl,trivial⟩
  ⟨Nat.zero_le _,Step.refl _ _,QP _ _ _ _⟩ ?_
 rintro ⟨k,vg⟩ g w5 ⟨hk,hs5,ho5⟩
 simp only[] at hk ho5
 have hul:=zl k
 refine Qc<|x (QB rfl rfl)<|xe ?_
 refine Qf<|QG rfl (λh43=>?_) (λh43=>?_)
 ·refine Qx ?_
  have hke:k=c.ev.length:=by have h16:¬(k:Int)<(c.ev.length:Int):=h43;omega
  subst hke
  have hg5:QL [bm] w5.heap vg (Jw c.ev.length):=Qu.ints ho5 (by omega) (by simp;omega)
  have hm5:=hm4.ext hs5
  have hB15:=hB14.ext hs5
  have hM5:=hM4.ext hs5
  have hs05:=hs04.trans hs5
  refine Qf<|Qc<|x (Qa rfl)<|x (Qd hB15 rfl rfl)<|x (Qr hM5.co.arr rfl)<|Qb<|xe ?_
  refine Qg<|QA (α:=Nat×Value×List ByteArray×LI) [(2,2),(7,7),(10,11),(53,72)] (λz=>[(7,z.2.1),(53,.int .i64 z.1)]) (λz w'=>z.1≤c.co.length∧Step [bm] w5 w'∧Z2 Xl w'.heap bm (nmM z.2.2.1)∧QL [bm] w'.heap z.2.1 z.2.2.2∧z.2.2.2.length≤32*z.1∧Z5 c.ev.length (Jw c.ev.length) z.2.2.1 z.2.2.2 ((c.co.drop z.1).map (·.it))=CO) (λz=>c.co.length - z.1) (by rfl) (0,nS,[],[]) ⟨rfl,rfl,trivial⟩
   ⟨Nat.zero_le _,Step.refl _ _,hm5,Zj.nil _ _ _,by simp,hCO⟩ ?_
  rintro ⟨k,vu,sn,u⟩ g w6 ⟨hk,hs6,hm6,hu6,hul6,hco⟩
  simp only[] at hk hm6 hu6 hul6 hco
  have hs06:Step [] w w6:=hs05.then1 hs6 hge
  have hB16:=hB15.step hs6 (by simpa using hnm1)
  have hM6:=hM5.st hs6
  refine Qc<|x (QB rfl rfl)<|xe ?_
  refine Qf<|QG rfl (λh54=>?_) (λh54=>?_)
  ·refine Qx ?_
   have hke:k=c.co.length:=by have h16:¬(k:Int)<(c.co.length:Int):=h54;omega
   subst hke
   rw[List.drop_of_length_le (Nat.le_refl _)] at hco
   have hco':CO=(0,sn,u):=hco.symm
   subst hco'
   rw[if_neg (by simp)] at hr
   simp only[] at hr
   refine Zd (X5 c.ev.length u sn (c.rq.map (·.it))) λRQ hRQ=>?_
   rw[hRQ] at hr
   refine Qf<|Qc<|x (Qa rfl)<|x (Qd hB16 rfl rfl)<|x (Qr hM6.rq.arr rfl)<|Qb<|xe ?_
   refine Qg<|QA (α:=Nat×List ByteArray) [(2,2),(13,14),(76,90)] (λz=>[(76,.int .i64 z.1)]) (λz w'=>z.1≤c.rq.length∧Step [bm] w6 w'∧Z2 Xl w'.heap bm (nmM z.2)∧X5 c.ev.length u z.2 ((c.rq.drop z.1).map (·.it))=RQ) (λz=>c.rq.length - z.1) (by rfl) (0,sn) ⟨rfl,trivial⟩
    ⟨Nat.zero_le _,Step.refl _ _,hm6,hRQ⟩ ?_
   rintro ⟨k,sm⟩ g w7 ⟨hk,hs7,hm7,hrq⟩
   simp only[] at hk hm7 hrq
   have hs07:Step [] w w7:=hs06.then1 hs7 hge
   have hB17:=hB16.step hs7 (by simpa using hnm1)
   have hM7:=hM6.st hs7
   have hu7:=hu6.st hs7
   refine Qc<|x (QB rfl rfl)<|xe ?_
   refine Qf<|QG rfl (λh77=>?_) (λh77=>?_)
   ·refine Qx ?_
    have hke:c.rq.length≤k:=by have h16:¬(k:Int)<(c.rq.length:Int):=h77;omega
    rw[List.drop_of_length_le hke] at hrq
    have hRQ0:RQ=0:=hrq.symm
    rw[if_neg (by rw[hRQ0];decide)] at hr
    refine Qc<|x (Qq hB17 rfl rfl)<|xl rfl<|xf<|(q9 hM7).mono ?_
    rintro r8 w8 ⟨hs8,vs,vx,vk,qx,ks,rfl,hqx,hks,hF⟩
    obtain ⟨hS8,hX8,hK8⟩:=hF [] (by simp)
    refine xl rfl<|xf<|(UP hS8 hX8 hK8).mono ?_
    rintro r9 w9 ⟨rfl,hs9⟩
    rw[hqx,hks,←hr]
    refine Qe ?_
    exact Ql ⟨[_],⟨rfl,trivial⟩,rfl,(hs07.trans hs8).trans hs9⟩
   have hlt:k<c.rq.length:=by have h16:(k:Int)<(c.rq.length:Int):=h77;omega
   have hmem:=List.getElem_mem hlt
   rw[XG hlt,UT] at hrq
   refine Qi<|Qf<|Qg<|Qc<|xig Yq hM7.rq.arr rfl rfl hlt λa78 h78=>?_
   refine Zd (c.rq[k]'hlt) λq hq=>?_
   rw[hq] at h78 hmem hrq
   have hqA:=hM7.rq.each q hmem
   refine x (QC h78 rfl rfl)<|xl rfl<|Qt (us:=[.string .empty,nS,.int .i64 0,nS,nS]) rfl λb13 w10 hs10 hb13 hB13=>xl rfl<|Qn (us:=QW q) hB13 rfl rfl rfl rfl ⟨rfl,hqA.al.one,rfl,hqA.mr.one,hqA.ed.one,trivial⟩ λw11 hs11 hB13 =>
    xe ?_
   have hs711:Step [] w7 w11:=hs10.then1 hs11 hb13
   refine Qc<|x (Qq hB13 rfl rfl)<|x (Qa rfl)<|x (Qd (hB17.ext hs711) rfl rfl)<|x (Qr (hM7.ev.ext hs711).arr rfl)<|Qb<|Qb<|xl rfl<|xf<|(QbE (hqA.ext hs711) (hM7.rq.nm q hmem) (hu7.ext hs711) (by omega) (hm7.ext hs711) (by simp) (by simp)).mono ?_
   rintro r12 w12 ⟨rfl,hs12,hm12⟩
   refine Qe<|Qc<|Qb<|x (Q8 rfl rfl)<|xe ?_
   refine Q4 rfl (λh88=>?_) (λh88=>?_)
   ·rw[if_pos h88] at hrq
    rw[if_pos (by rw[←hrq];exact h88)] at hr
    refine Qc<|Qb<|Qe ?_
    exact Ql ⟨[_],⟨rfl,trivial⟩,by rw[hr,←hrq];rfl,(hs07.trans hs711).then1 hs12 hge⟩
   rw[if_neg h88] at hrq
   refine Qi<|Qw<|QO rfl rfl<|Qb<|xe ?_
   exact ⟨(k+1,sm++[q.nm]),by simp only[];omega,⟨rfl,trivial⟩,hlt,(hs7.trans hs711).trans' hs12,hm12 (Decidable.not_not.1 h88),hrq⟩
  have hlt:k<c.co.length:=by have h16:(k:Int)<(c.co.length:Int):=h54;omega
  have hmem:=List.getElem_mem hlt
  rw[XG hlt,Kn] at hco
  refine Qi<|Qf<|Qg<|Qc<|xig Yq hM6.co.arr rfl rfl hlt λa55 h55=>?_
  refine Zd (c.co[k]'hlt) λq hq=>?_
  rw[hq] at h55 hmem hco
  have hqA:=hM6.co.each q hmem
  have hg6:=hg5.st hs6
  refine x (QC h55 rfl rfl)<|xl rfl<|Qt (us:=[.string .empty,nS,.int .i64 0,nS,nS]) rfl λb10 w13 hs13 hb10 hB10=>xl rfl<|Qn (us:=QW q) hB10 rfl rfl rfl rfl ⟨rfl,hqA.al.one,rfl,hqA.mr.one,hqA.ed.one,trivial⟩ λw14 hs14 hB10 =>
   xe ?_
  have hs614:Step [] w6 w14:=hs13.then1 hs14 hb10
  have hl6:=hm6.lt
  refine Qf<|Qc<|x (Qq hB10 rfl rfl)<|x (Qa rfl)<|x (Qd (hB16.ext hs614) rfl rfl)<|x (Qr (hM6.ev.ext hs614).arr rfl)<|Qb<|Qb<|xl rfl<|xf<|(QbE (hqA.ext hs614) (hM6.co.nm q hmem) (hg6.ext hs614) (by omega) (hm6.ext hs614) (by simp) (by simp)).mono ?_
  rintro r15 w15 ⟨rfl,hs15,hm15⟩
  refine Qe<|Qc<|Qb<|x (Q8 rfl rfl)<|xe ?_
  refine Q4 rfl (λh65=>?_) (λh65=>?_)
  ·rw[if_pos h65] at hco
   rw[if_pos (by rw[←hco];exact h65)] at hr
   refine Qc<|Qb<|Qe ?_
   exact Ql ⟨[_],⟨rfl,trivial⟩,by rw[hr,←hco];rfl,(hs06.trans hs614).then1 hs15 hge⟩
  rw[if_neg h65] at hco
  have hz0:Z0 c.ev.length (Jw c.ev.length) sn q.it=0:=Decidable.not_not.1 h65
  have hal:=(UU hz0).al_le
  have hal':q.p.a.al.length≤32:=hal
  refine Qi ?_
  have hs615:Step [bm] w6 w15:=hs614.any.trans' hs15
  have hu15:=hu6.st hs615
  have hz615:=hs615.size
  refine Qw<|Qb<|x (Qa rfl)<|x (Qa rfl)<|x (Qd (hB10.step hs15 (by simp;omega)) rfl rfl)<|xl rfl<|xf<|(jO hu15 (hM6.st hs615 |>.co.each q hmem |>.al) (by omega)).mono ?_
  rintro r16 w16 ⟨hs16,ho16⟩
  refine Qe ?_
  have hml:=zL (· || ·) u q.p.a.al
  refine Qw<|QO rfl rfl<|Qb<|xe ?_
  exact ⟨(k+1,r16,sn++[q.nm],mrg (· || ·) u q.p.a.al),by simp only[];omega,⟨rfl,rfl,trivial⟩,hlt,(hs6.trans' hs615).trans hs16,(hm15 hz0).ext hs16,Qu.ints ho16 (by show (mrg _ _ _).length≤_;omega) (by simp;omega),by simp only[];omega,hco⟩
 have hlt:k<c.ev.length:=by have h16:(k:Int)<(c.ev.length:Int):=h43;omega
 refine Qi<|Qf<|Qg<|Qc<|Qb<|Qe<|Qw<|Qb<|Qb<|xl rfl<|QD (us:=[[.int .i64 k]]) rfl rfl (by decide) (by simp) ⟨rfl,rfl,trivial⟩ λb47 w17 hs17 hb47 hB47=>?_
 have hs517:=hs5.trans hs17
 have hz517:=hs517.size
 have hge5:=Qk ho5
 refine xl rfl<|QZ (news:=[.int .i64 k]) (L:=[]) (Qs ho5 hs17) rfl rfl rfl (hB47.at (by simp)) (by simp[Value.oneCell']) (by omega) (by omega) λv18 w18 ho18 hs18 hn18 =>
  Qe<|Qw<|QO rfl rfl<|Qb<|xe ?_
 refine ⟨(k+1,v18),by simp only[];omega,⟨rfl,rfl,trivial⟩,hlt,hs517.then hs18 (λb hb=>.inr (hge5 b hb).1),?_⟩
 simp only[]
 rw[Qdt]
 exact Qu.snoc (n:=(k:Int)) ho18
end Go.Proofs.YtdffckgdcegpaaaGreatDoor
namespace Go.Lg
theorem Qk8 {P:Program}{ops:List Oper}{K:Fr→World→Prop}{f:Fr}{w:World}{d:Option Nat}{ty:Nat}{ps:String}{af:Array Edge}{gd:Option (Nat×Bool)}{C:World→Prop}{pl:List (Nat×Bool)}{i0:Nat}
  {t e sz bys:Nat} {z:Value} {x y1 y2:Operand} {L:LN} {v:Value} {n:Nat} {cs:LV} {H:Array Obj} {k k':IntKind} {hi:Nat} [h:Sl P t e sz bys z]
  (ho:Q6 ops i0=⟨d,.slice t x none (some y1) (some y2),ty,ps,af,gd⟩) (hA:Zj L H v n sz cs) (hx:ev f x=v) (hh:ev f y1=.int k hi) (hm:ev f y2=.int k' hi) (h1:hi≤n)
  (hK:∀v',Zj L H v' hi sz (cs.take (hi*sz))→XP P ops C K pl (QY f d v') w)
  (hg:Yd ops f (Q6 ops i0)=true:=by rfl):XP P ops C K ((i0,true)::pl) f w:=by
 obtain ⟨v',h3,h4⟩:=Qd2 (P:=P) (d:=d) (ty:=ty) (ps:=ps) (af:=af) (gd:=gd) (t:=t) hA hx hh hm h1
 exact Lg.p (λw'=>by rw[ho];exact h4 w') (by rw[ho];exact hK v' h3) hg
end Go.Lg
namespace Go.Proofs.YtdffckgdcegpaaaGreatDoor
open Go.Proofs.Tryz
open Go.Lg
structure Qgc (c:Zv):Prop where
 ev:c.ev.length≤32
 c0:c.co.length≠0
 c8:c.co.length≤8
 cr:c.co.length+c.rq.length≤12
 co:∀x∈c.co,Zs x.a
 rq:∀x∈c.rq,Zs x.a
 ce:∀x∈c.co,∀e∈x.a.al,e<(c.ev.length:Int)
 re:∀x∈c.rq,∀e∈x.a.al,e<(c.ev.length:Int)
 cd:Yr (szs c.co) c.ex c.cs=0
 e0:Jg c.ev=0
theorem jy {n:Nat}{u:LI}{s:List ByteArray}{x:YE}(h:Z0 n u s x=0):∀e∈x.a.al,e<(n:Int):=by
 unfold Z0 at h
 split at h
 ·cases h
 ·split at h
  ·cases h
  ·split at h
   ·rename_i h1 h2;exact absurd h h2
   ·split at h
    ·cases h
    ·split at h
     ·cases h
     ·split at h
      ·cases h
      ·rename_i h1
       intro e he
       refine Decidable.not_not.1 λhn=>h1 ?_
       rw[List.any_eq_true]
       exact ⟨e,he,decide_eq_true (by omega)⟩
theorem jB {n:Nat}{al:LI}:∀{l:List YE}{s:List ByteArray}{u:LI},(Z5 n al s u l).1=0→∀x∈l,Zs x.a∧∀e∈x.a.al,e<(n:Int)
 | [],_,_,_,x,hx=>by cases hx
 | y::l,s,u,h,x,hx=>by
  rw[Kn] at h
  by_cases h1:Z0 n al s y≠0
  ·rw[if_pos h1] at h;exact absurd h h1
  ·rw[if_neg h1] at h
   have h2:Z0 n al s y=0:=Decidable.not_not.1 h1
   rcases List.mem_cons.1 hx with rfl | hx
   ·exact ⟨UU h2,jy h2⟩
   ·exact jB h x hx
theorem jw {n:Nat}{u:LI}:∀{l:List YE}{s:List ByteArray},X5 n u s l=0→∀x∈l,Zs x.a∧∀e∈x.a.al,e<(n:Int)
 | [],_,_,x,hx=>by cases hx
 | y::l,s,h,x,hx=>by
  rw[UT] at h
  by_cases h1:Z0 n u s y≠0
  ·rw[if_pos h1] at h;exact absurd h h1
  ·rw[if_neg h1] at h
   have h2:Z0 n u s y=0:=Decidable.not_not.1 h1
   rcases List.mem_cons.1 hx with rfl | hx
   ·exact ⟨UU h2,jy h2⟩
   ·exact jw h x hx
theorem ZV {c:Zv}(h:Zi c=0):Qgc c:=by
 unfold Zi at h
 by_cases h1:Jg c.ev≠0
 ·rw[if_pos h1] at h;exact absurd h h1
 rw[if_neg h1] at h
 by_cases h2:c.co.length=0
 ·rw[if_pos h2] at h;cases h
 rw[if_neg h2] at h
 by_cases h3:8<c.co.length∨12<c.co.length+c.rq.length
 ·rw[if_pos h3] at h;cases h
 rw[if_neg h3] at h
 by_cases h4:(Z5 c.ev.length (Jw c.ev.length) [] [] c.co).1≠0
 ·rw[if_pos h4] at h;exact absurd h h4
 rw[if_neg h4] at h
 by_cases h5:X5 c.ev.length (Z5 c.ev.length (Jw c.ev.length) [] [] c.co).2.2 (Z5 c.ev.length (Jw c.ev.length) [] [] c.co).2.1 c.rq≠0
 ·rw[if_pos h5] at h;exact absurd h h5
 rw[if_neg h5] at h
 have a4:=jB (Decidable.not_not.1 h4)
 have a5:=jw (Decidable.not_not.1 h5)
 have hev:c.ev.length≤32:=by
  refine Decidable.not_not.1 λhn=>?_
  apply h1
  unfold Jg
  rw[if_pos (by omega)];decide
 exact ⟨hev,h2,by omega,by omega,λx hx=>(a4 x hx).1,λx hx=>(a5 x hx).1,λx hx=>(a4 x hx).2,λx hx=>(a5 x hx).2,h,Decidable.not_not.1 h1⟩
theorem Yc.e {N:Nat}{H:Array Obj}{aa:List QV}{va vt:Value}{c:Int}(h:Yc N H aa va vt c):c=yv aa:=by
 unfold Yc at h;unfold yv
 by_cases h1:Vf aa≠0
 ·rw[if_pos h1] at h ⊢;exact h.1
 ·rw[if_neg h1] at h ⊢
  cases hs:sync aa with
  | none=>rw[hs] at h;exact h.1
  | some z=>rw[hs] at h;exact h.1
theorem Yc.bad {N:Nat}{H:Array Obj}{aa:List QV}{va vt:Value}{c:Int}(h:Yc N H aa va vt c) (hc:c≠0):va=zA∧vt=Zb:=by
 unfold Yc at h
 by_cases h1:Vf aa≠0
 ·rw[if_pos h1] at h;exact h.2
 ·rw[if_neg h1] at h
  cases hs:sync aa with
  | none=>rw[hs] at h;exact h.2
  | some z=>rw[hs] at h;exact absurd h.1 hc
theorem Yc.good {N:Nat}{H:Array Obj}{aa:List QV}{va vt:Value}{c:Int}(h:Yc N H aa va vt c) (hc:c=0):Xr N H va (syA aa)∧QaS N H vt (syQ aa)∧sync aa=some (syA aa,syQ aa)∧Vf aa=0:=by
 unfold Yc at h;unfold syA syQ
 by_cases h1:Vf aa≠0
 ·rw[if_pos h1] at h;exact absurd (h.1.symm.trans hc) h1
 ·rw[if_neg h1] at h
  cases hs:sync aa with
  | none=>rw[hs] at h;rw[h.1] at hc;cases hc
  | some z=>rw[hs] at h;exact ⟨h.2.1,h.2.2,rfl,Decidable.not_not.1 h1⟩
theorem Yc.st1 {N b:Nat}{w w':World}{aa:List QV}{va vt:Value}{c:Int}(h:Yc N w.heap aa va vt c) (hb:b<N) (hs:Step [b] w w'):Yc N w'.heap aa va vt c:=by
 unfold Yc at *
 split
 ·rename_i h1;rw[if_pos h1] at h;exact h
 ·rename_i h1;rw[if_neg h1] at h
  cases hq:sync aa with
  | none=>rw[hq] at h;exact h
  | some z=>rw[hq] at h;exact ⟨h.1,Ja h.2.1 hb hs,QfZ h.2.2 hb hs⟩
theorem Yc.mono {N M:Nat}{H:Array Obj}{aa:List QV}{va vt:Value}{c:Int}(h:Yc N H aa va vt c) (hM:M≤N):Yc M H aa va vt c:=by
 unfold Yc at *
 split
 ·rename_i h1;rw[if_pos h1] at h;exact h
 ·rename_i h1;rw[if_neg h1] at h
  cases hq:sync aa with
  | none=>rw[hq] at h;exact h
  | some z=>rw[hq] at h;exact ⟨h.1,h.2.1.mono hM,h.2.2.mono hM⟩
theorem Qgz (c:Zv):Yu c=if Zi c≠0 then Zi c else if yv (auts c.co)≠0 then yv (auts c.co) else yv (auts c.co++auts c.rq):=by
 unfold Yu
 split
 ·rfl
 ·have e:yv (auts c.co)=if Vf (auts c.co)≠0 then Vf (auts c.co) else match sync (auts c.co) with | none=>3 | some _=>0:=rfl
  by_cases h1:Vf (auts c.co)≠0
  ·rw[if_pos h1] at e
   rw[if_pos h1,e,if_pos h1]
  ·rw[if_neg h1] at e
   rw[if_neg h1]
   cases hs:sync (auts c.co) with
   | none=>rw[hs] at e;simp only[] at e;rw[e];rfl
   | some z=>rw[hs] at e;simp only[] at e;rw[e];rfl
theorem Qb4 (c:CL):(c.co.map (·.p)).map (·.a)=auts c.cel.co:=by unfold auts;show _=(c.co.map IV.it).map _;rw[List.map_map,List.map_map];rfl
theorem QhW (c:CL):(c.rq.map (·.p)).map (·.a)=auts c.cel.rq:=by unfold auts;show _=(c.rq.map IV.it).map _;rw[List.map_map,List.map_map];rfl
theorem Qbo {ps:List AV}(h:∀p∈ps,Zs p.a):∀p∈ps,p.a.st≤4096:=λp hp=>(h p hp).st1
def ze (N:Nat) (H:Array Obj) (c:Zv) (va vt:Value) (e:Int):Prop:=if Zi c≠0 then e=Zi c∧va=zA∧vt=Zb else Yc N H (auts c.co) va vt e
theorem Qf5 {L:LN}{w:World}{c:CL}(h:Zu L w.heap c) (hkb:Kb w 4096) :
  QJ prog 28 [c.val] w λr w'=>Step [] w w'∧∃va vt e,r=.tuple #[va,vt,.int .i64 e]∧ze w.heap.size w'.heap c.cel va vt e:=by
 refine QJ.of_W func28 rfl ntmps28 results28 (by simp) ?_
 refine Qc<|xl rfl<|QQ (us:=c.cells) rfl λb1 w1 hs1 hb1 hB1=>xl rfl<|Qt (us:=[nS,.int .i64 0,nS,nS]) rfl λb2 w2 hs2 hb2 hB2=>x Qh<|Qe ?_
 have hs02:=hs1.trans hs2
 have hz1:=hs1.size
 have hB12:=hB1.ext hs2
 refine Qf<|Qc<|x (Qq hB12 rfl rfl)<|xl rfl<|xf<|(YO (h.ext hs02)).mono ?_
 rintro r3 w3 ⟨rfl,hs3⟩
 refine Qe ?_
 have hs03:=hs02.trans hs3
 have hl2:=hB2.lt
 refine Qc<|Qb<|x (Q8 rfl rfl)<|xe ?_
 refine Q4 rfl (λh9=>?_) (λh9=>?_)
 ·refine Qc<|x (QE trivial)<|Qb<|xl rfl<|Qn (us:=[nS,.int .i64 0,nS,nS]) (hB2.ext hs3) rfl rfl rfl rfl ⟨rfl,rfl,rfl,rfl,trivial⟩ λw4 hs4 hB4=>x Qh<|Qe ?_
  exact Ql ⟨[zA,Zb,.int .i64 (Zi c.cel)],⟨⟨_,rfl,Qz rfl (hB4.at (L:=[]) (by simp)).cells⟩,rfl,rfl,trivial⟩,hs03.then1 hs4 (by omega),zA,Zb,_,rfl,by unfold ze;rw[if_pos h9];exact ⟨rfl,rfl,rfl⟩⟩
 have hok:=ZV (Decidable.not_not.1 h9)
 refine Qi<|Qc ?_
 have h3:=h.ext hs03
 refine x (Qa rfl)<|x (Qd (hB12.ext hs3) rfl rfl)<|xl rfl<|xf<|(Qau h3.co).mono ?_
 rintro r5 w5 ⟨hs5,ho5⟩
 have hs05:=hs03.trans hs5
 have hco:∀p∈c.co.map (·.p),Zs p.a:=λp hp=>by
  obtain ⟨q,hq,rfl⟩:=List.mem_map.1 hp
  exact hok.co q.it (List.mem_map_of_mem hq)
 have hcl:=h.co.arr.le
 have hA5:Xx [] w5.heap r5 (c.co.map (·.p)):=QeZ ho5 (by rw[List.length_map];omega) (by simp) (λp hp=>by
  obtain ⟨q,hq,rfl⟩:=List.mem_map.1 hp
  exact (((h.co.each q hq).up (L':=[]) (by simp)).ext hs05))
 refine xl rfl<|xf<|(jP (km:=4096) hA5 (hkb.ext hs05) (by decide) (Qbo hco)).mono ?_
 rintro r6 w6 ⟨hs6,va,vt,e,rfl,hR⟩
 rw[Qb4] at hR
 have hs06:=hs05.trans hs6
 have hz5:=hs05.size
 have hsh:∃us,va=.agg us.toArray∧us.length=4∧Zw us:=by
  by_cases he:e=0
  ·exact Xq (hR.good he).1
  ·exact ⟨[nS,.int .i64 0,nS,nS],(hR.bad he).1,rfl,rfl,rfl,rfl,rfl,trivial⟩
 refine Exists.elim hsh λus hus=>?_
 refine x (Qp rfl rfl)<|x (Qp rfl rfl)<|x (Qp rfl rfl)<|xl rfl<|Qn (us:=us) ((hB2.ext hs3).ext (hs5.trans hs6)) rfl hus.1 hus.2.1 rfl hus.2.2 λw7 hs7 hB7 =>
  x Qh<|Qe<|Ql ⟨[.agg us.toArray,vt,.int .i64 e],⟨⟨_,rfl,Qz hus.2.1 (hB7.at (L:=[]) (by simp)).cells⟩,rfl,rfl,trivial⟩,hs06.then1 hs7 (by omega),va,vt,e,by rw[hus.1];rfl,?_⟩
 unfold ze
 rw[if_neg h9]
 exact (hR.st1 (by have:=hs5.size;have:=hs3.size;omega) hs7).mono hz5
theorem yg {L:LN}{w:World}{v:Value}{l:LI}{m:Int}(h:QL L w.heap v l) (hkb:Kb w m) (hb:∀n∈l,0≤n∧n<m) (hl:l.length≤1000000) :
  QJ prog 72 [v] w λr w'=>r=.string ⟨(Xs l).toArray⟩∧Step [] w w':=by
 refine QJ.of_W func72 rfl ntmps72 results72 (by simp) ?_
 refine Qc<|Qe<|Qc<|xl rfl<|Qt (us:=[.pointer none,nS]) rfl λb3 w1 hs1 hb3 hB3=>xe ?_
 refine Qf<|Qc<|Qb<|x (Qr h rfl)<|Qb<|xe ?_
 refine Qg<|QA (α:=Nat×Value) [(5,5),(8,16)] (λz=>[(8,.int .i64 z.1)]) (λz w'=>z.1≤l.length∧Step [] w w'∧(z.2=.pointer none∨z.2=me b3)∧Bl z.2 b3 (Xs (l.take z.1)) w'∧(Xs (l.take z.1)).length≤8*z.1) (λz=>l.length - z.1) (by rfl) (0,.pointer none) ⟨rfl,trivial⟩
  ⟨Nat.zero_le _,hs1,.inl rfl,⟨_,hB3,QP _ _ _ _⟩,Nat.le_refl _⟩ ?_
 rintro ⟨k,p⟩ g w2 ⟨hk,hs2,hp,hBl,hlen⟩
 simp only[] at hk hp hBl hlen
 refine Qc<|x (QB rfl rfl)<|xe ?_
 refine Qf<|QG rfl (λh9=>?_) (λh9=>?_)
 ·refine Qx ?_
  refine Qc ?_
  rw[List.take_of_length_le (by omega)] at hBl
  refine xl rfl<|xf<|(qC hs2 hb3 hp hBl).mono ?_
  rintro r3 w3 ⟨rfl,hs3⟩
  refine Qe ?_
  exact Ql ⟨[.string ⟨(Xs l).toArray⟩],⟨rfl,trivial⟩,rfl,hs3⟩
 have hlt:k<l.length:=by omega
 have hbd:=hb l[k] (List.getElem_mem hlt)
 obtain ⟨q,hq⟩:∃q:Nat,l[k]=q:=⟨l[k].toNat,by omega⟩
 have hqn:l[k].toNat=q:=by omega
 have hds:=VC 7 q (by have:=hkb.le;omega)
 have htk:Xs (l.take (k+1))=Xs (l.take k)++(Lib.decDigits q++[32]):=by
  rw[List.take_succ_eq_append_getElem hlt]
  unfold Xs
  rw[List.flatMap_append,List.flatMap_singleton,hqn]
 refine Qi<|Qf<|Qg<|Qc<|xii (h.ext hs2) rfl rfl hlt λa10 h10=>x (Qv h10 rfl)<|Qe<|Qw<|Qb<|xl rfl<|xf ?_
 refine (show QJ _ _ [.int .i64 l[k]] _ _ by rw[hq];exact (QbD q (by omega) w2 (hkb.ext hs2))).mono ?_
 rintro r4 w4 ⟨rfl,hs4⟩
 have hsz:(⟨(Lib.decDigits q).toArray⟩:ByteArray).size+(⟨#[32]⟩:ByteArray).size≤1000000000:=by show (Lib.decDigits q).toArray.size+1≤_;simp;omega
 refine x (Z8 rfl rfl hsz)<|xl rfl<|xf<|(Jz (hs2.trans hs4) hb3 hp (hBl.ext hs4) ((⟨(Lib.decDigits q).toArray⟩:ByteArray)++(⟨#[32]⟩:ByteArray)) (by rw[ByteArray.size_append];show _+((Lib.decDigits q).toArray.size+1)≤_;simp;omega)).mono ?_
 rintro r5 w5 ⟨hs5,hBl5⟩
 refine xe ?_
 refine Qw<|QO rfl rfl<|Qb<|xe ?_
 refine ⟨(k+1,me b3),by simp only[];omega,⟨rfl,trivial⟩,by simp only[];omega,hs5,.inr rfl,?_,?_⟩
 ·simp only[];rw[htk]
  have e:((⟨(Lib.decDigits q).toArray⟩++⟨#[32]⟩:ByteArray)).data.toList=Lib.decDigits q++[32]:=by rw[ByteArray.data_append];simp
  rw[e] at hBl5
  exact hBl5
 ·simp only[];rw[htk];simp;omega
structure Sty where
 c:CL
 p:AV
 vq:Value
 qs:List TV
 s:AV
 vt:Value
 ts:List TV
 vs:Value
 vx:Value
 vk:Value
 qx:List XV
 ks:List KV
 bm:Nat
 mm:List (ByteArray×Value)
abbrev Sty.cells (q:Sty):LV:=[q.c.ve,q.c.vc,q.c.vr,q.c.vx,q.c.vk,q.p.va,.int .i64 q.p.a.st,q.p.vm,q.p.ve,q.vq,q.s.va,.int .i64 q.s.a.st,q.s.vm,q.s.ve,q.vt,q.vs,q.vx,q.vk,.map (some q.bm)]
structure Xw (L:LN) (b:Nat) (H:Array Obj) (q:Sty):Prop where
 B:Q2 H b 154 q.cells
 bL:b∉L
 c:Zu L H q.c
 p:Zt L H q.p.va q.p.vm q.p.ve q.p.a
 s:Zt L H q.s.va q.s.vm q.s.ve q.s.a
 qs:Xv L H q.vq q.qs
 ts:Xv L H q.vt q.ts
 k1:QL L H q.vs (szs q.c.cel.co)
 k2:qd L H q.vx q.qx
 k3:U5 L H q.vk q.ks
 mL:q.bm∉L
 m:Z2 Xl H q.bm q.mm
theorem Xw.ext {L:LN}{b:Nat}{w w':World}{q:Sty}(h:Xw L b w.heap q) (hs:Step [] w w'):Xw L b w'.heap q:=⟨h.B.ext hs,h.bL,h.c.ext hs,h.p.ext hs,h.s.ext hs,h.qs.ext hs,h.ts.ext hs,h.k1.ext hs,h.k2.ext hs,h.k3.ext hs,h.mL,h.m.ext hs⟩
theorem Xw.st {L:LN}{b:Nat}{w w':World}{q:Sty}(h:Xw L b w.heap q) (hs:Step L w w'):Xw L b w'.heap q:=⟨h.B.step hs h.bL,h.bL,h.c.st hs,h.p.st hs,h.s.st hs,h.qs.st hs,h.ts.st hs,h.k1.st hs,h.k2.st hs,h.k3.st hs,h.mL,h.m.step hs h.mL⟩
theorem Xw.up {L L':LN}{b:Nat}{H:Array Obj}{q:Sty}(h:Xw L b H q) (hL:∀b∈L',b∈L∨H.size≤b):Xw L' b H q :=
 ⟨h.B,λhm=>by rcases hL _ hm with h1 | h1;exact h.bL h1;have:=h.B.lt;omega,h.c.up hL,h.p.up hL,h.s.up hL,h.qs.up hL,h.ts.up hL,h.k1.up hL,h.k2.up hL,h.k3.up hL,λhm=>by rcases hL _ hm with h1 | h1;exact h.mL h1;have:=h.m.lt;omega,h.m⟩
structure Qlp (q:Sty):Prop where
 ok:Zi q.c.cel=0
 p:sync (auts q.c.cel.co)=some (q.p.a,q.qs.map (·.2))
 s:sync (auts q.c.cel.co++auts q.c.cel.rq)=some (q.s.a,q.ts.map (·.2))
 ex:q.qx.map (·.x)=q.c.cel.ex
 cs:q.ks.map (·.k)=q.c.cel.cs
 m:VH q.c.co.length q.mm (q.qs.map (·.2))
theorem Yh {l:List YE}(h:∀x∈l,Zs x.a):∀a∈auts l,Zs a:=λa ha=>by
 obtain ⟨x,hx,rfl⟩:=List.mem_map.1 ha
 exact h x hx
def stp (a:QV) (s v:Int):Int×Bool×Int:=if cks a s≠0 then (0,false,cks a s) else if v∉a.al then (0,false,9) else if 0≤nxt a.ed s v then (nxt a.ed s v,true,0) else (0,false,0)
theorem QfV {L:LN}{w:World}{va vm ve:Value}{a:QV}(h:Zt L w.heap va vm ve a) (s v:Int) :
  QJ prog 30 [.agg #[va,.int .i64 a.st,vm,ve],.int .i64 s,.int .i64 v] w λr w'=>r=.tuple #[.int .i64 (stp a s v).1,.bool (stp a s v).2.1,.int .i64 (stp a s v).2.2]∧Step [] w w':=by
 have hr:stp a s v=(if cks a s≠0 then (0,false,cks a s) else if v∉a.al then (0,false,9) else if 0≤nxt a.ed s v then (nxt a.ed s v,true,0) else (0,false,0)):=rfl
 refine Zd (stp a s v) λR hR=>?_
 rw[hR] at hr ⊢
 refine QJ.of_W func30 rfl ntmps30 results30 (by simp) ?_
 refine Qc<|xl rfl<|QQ (us:=[va,.int .i64 a.st,vm,ve]) rfl λb3 w1 hs1 hb3 hB3=>x Qh<|x Qh<|Qe<|Qf<|Qc<|x (Qq hB3 rfl rfl)<|Qb<|xl rfl<|xf<|(XR (h.ext hs1) s).mono ?_
 rintro r2 w2 ⟨rfl,hs2⟩
 refine Qe ?_
 have hs12:=hs1.trans hs2
 refine Qc<|Qb<|x (Q8 rfl rfl)<|xe ?_
 refine Q4 rfl (λh14=>?_) (λh14=>?_)
 ·rw[if_pos h14] at hr
  subst hr
  refine Qc<|Qb<|x Qh<|x Qh<|Qe ?_
  exact Ql ⟨[_,_,_],⟨rfl,rfl,rfl,trivial⟩,rfl,hs12⟩
 rw[if_neg h14] at hr
 refine Qi<|Qf<|Qc<|x (Qa rfl)<|x (Qd (hB3.ext hs2) rfl rfl)<|Qb<|xl rfl<|xf<|(ZI (h.al.ext hs12) v).mono ?_
 rintro r3 w3 ⟨rfl,rfl⟩
 refine x (Us rfl)<|xe ?_
 refine Q4 rfl (λh20=>?_) (λh20=>?_)
 ·rw[if_pos h20] at hr
  subst hr
  refine Qc<|x Qh<|x Qh<|Qe ?_
  exact Ql ⟨[_,_,_],⟨rfl,rfl,rfl,trivial⟩,rfl,hs12⟩
 rw[if_neg h20] at hr
 refine Qi ?_
 have hc:cks a s=0:=Decidable.not_not.1 h14
 have hck:Jh a=0:=by
  unfold cks at hc
  refine Decidable.not_not.1 λhn=>?_
  rw[if_pos hn] at hc;exact hn hc
 have hsr:0≤s∧s<a.st:=by
  unfold cks at hc
  rw[if_neg (by rw[hck];decide)] at hc
  refine Decidable.not_not.1 λhn=>?_
  rw[if_pos (by omega)] at hc;cases hc
 refine Qf<|Qc<|x (Qq (hB3.ext hs2) rfl rfl)<|Qb<|Qb<|xl rfl<|xf<|(jK (h.ed.ext hs12) ((ZE a).1 hck) s v hsr.1 hsr.2).mono ?_
 rintro r4 w4 ⟨rfl,hs4⟩
 refine Qe<|Qc<|Qb<|x (ZR rfl rfl)<|xe ?_
 refine Q4 rfl (λh26=>?_) (λh26=>?_)
 ·rw[if_pos h26] at hr
  subst hr
  refine Qc<|Qb<|x Qh<|x Qh<|Qe ?_
  exact Ql ⟨[_,_,_],⟨rfl,rfl,rfl,trivial⟩,rfl,hs12.trans hs4⟩
 rw[if_neg h26] at hr
 subst hr
 refine Qi<|Qc<|x Qh<|x Qh<|Qe ?_
 exact Ql ⟨[_,_,_],⟨rfl,rfl,rfl,trivial⟩,rfl,hs12.trans hs4⟩
theorem Qeo (es:List Ed) (s v:Int):nxt es s v=(eget es s v).getD (-1):=by
 induction es with
 | nil=>rfl
 | cons e es ih =>
  rw[nxt,eget]
  by_cases h:e.1=s∧e.2.1=v
  ·rw[if_pos h,if_pos h];rfl
  ·rw[if_neg h,if_neg h];exact ih
theorem Qix {a:QV}(h:Zs a) {s v:Int}(h0:0≤s) (h1:s<a.st) (hv:v∈a.al):(stp a s v).2.1=(eget a.ed s v).isSome:=by
 have hc:cks a s=0:=by unfold cks;rw[if_neg (by rw[(ZE a).2 h];decide),if_neg (by omega)]
 unfold stp
 rw[if_neg (by rw[hc];decide),if_neg (by simpa using hv),Qeo]
 cases he:eget a.ed s v with
 | none=>rfl
 | some t =>
  have:=(h.ed _ (jo he)).2.2.2.1
  rw[Option.getD_some,if_pos (by simpa using this)];rfl
theorem yB {L L':LN}{w:World}{b:Nat}{q:Sty}{vt:Value}{t:LI}(hS:Xw L b w.heap q) (ht:QL L' w.heap vt t) (hn:q.c.co.length≤t.length) :
  QJ prog 71 [.pointer (some ⟨b,0,none⟩),vt] w λr w'=>Step [] w w'∧∃v1 v2,r=.tuple #[v1,v2]∧QL L' w'.heap v1 (t.take q.c.co.length)∧QL L' w'.heap v2 (t.drop q.c.co.length):=by
 refine QJ.of_W func71 rfl ntmps71 results71 (by simp) ?_
 refine Qc<|x Qh<|Qe<|Qc<|Qb<|x (QI rfl)<|x (Qa rfl)<|x (Qa rfl)<|x (Qd hS.B rfl rfl)<|x (Qr hS.c.co.arr rfl)<|Qe<|Qf<|QS (Step [] w) [(0,true),(1,true),(2,true),(3,true),(4,true),(5,true),(6,true),(7,true),(8,true)] mixed (by rfl) (by kernel_rfl) (Step.drew _ _) ?_
 refine p (λ_=>Qo)<|p (λ_=>Qo)<|p (λ_=>Qo)<|Qk8 (hi:=q.c.co.length) rfl ht rfl rfl rfl hn λv1 h1=>p (λ_=>Qo)<|p (λ_=>Qo)<|QiP (lo:=q.c.co.length) rfl ht rfl rfl hn λv2 h2 =>
  p (λ_=>Qh)<|p (λ_=>Qh)<|pe ?_
 refine Ql ⟨[_,_],⟨rfl,rfl,trivial⟩,Step.drew _ _,v1,v2,rfl,?_,?_⟩
 ·rw[Nat.mul_one,←List.map_take] at h1
  have e:(t.take q.c.co.length).length=q.c.co.length:=by rw[List.length_take];omega
  unfold QL
  rw[e];exact h1
 ·exact QL.drop h2
theorem QdZ {v:Int}{i:Nat}{y:YE}{l:List YE}{s:Int}{ss:LI}:rfr v i (y::l) (s::ss)=if v∈y.a.al∧(eget y.a.ed s v).isSome=false then (i:Int) else rfr v (i+1) l ss:=rfl
set_option maxHeartbeats 1000000 in
theorem Qac {L L':LN}{w:World}{b:Nat}{q:Sty}{vr:Value}{rs:LI}{v:Int}(hS:Xw L b w.heap q) (hr:QL L' w.heap vr rs) (hok:∀x∈q.c.rq,Zs x.p.a) (hv:Vt (auts q.c.cel.rq) rs) :
  QJ prog 152 [.pointer (some ⟨b,0,none⟩),vr,.int .i64 v] w λr w'=>r=.int .i64 (rfr v 0 q.c.cel.rq rs)∧Step [] w w':=by
 have hle:=hS.c.rq.arr.le
 have hlen:rs.length=q.c.rq.length:=by rw[hv.1];unfold auts;show ((q.c.rq.map IV.it).map _).length=_;simp
 refine Zd (rfr v 0 q.c.cel.rq rs) λR hR=>?_
 rw[hR]
 refine QJ.of_W func152 rfl ntmps152 results152 (by simp) ?_
 refine Qc<|Qe<|Qf<|Qc<|Qb<|x (QI rfl)<|x (Qa rfl)<|x (Qa rfl)<|x (Qd hS.B rfl rfl)<|x (Qr hS.c.rq.arr rfl)<|Qb<|xe ?_
 refine Qg<|QA (α:=Nat) [(6,11),(18,44)] (λz=>[(18,.int .i64 z)]) (λz w'=>z≤q.c.rq.length∧Step [] w w'∧rfr v z ((q.c.rq.drop z).map (·.it)) (rs.drop z)=R) (λz=>q.c.rq.length - z) (by rfl) 0 ⟨rfl,trivial⟩
  ⟨Nat.zero_le _,Step.refl _ _,hR⟩ ?_
 rintro k g w1 ⟨hk,hs1,hrf⟩
 refine Qc<|x (QB rfl rfl)<|xe ?_
 refine Qf<|QG rfl (λh19=>?_) (λh19=>?_)
 ·refine Qx ?_
  have hke:q.c.rq.length≤k:=by have h20:¬(k:Int)<(q.c.rq.length:Int):=h19;omega
  rw[List.drop_of_length_le hke] at hrf
  have hm1:R=-1:=hrf.symm
  refine Qc<|Qe ?_
  exact Ql ⟨[_],⟨rfl,trivial⟩,by rw[hm1];rfl,hs1⟩
 have hlt:k<q.c.rq.length:=by have h20:(k:Int)<(q.c.rq.length:Int):=h19;omega
 have hltr:k<rs.length:=by omega
 have hmem:=List.getElem_mem hlt
 rw[XG hlt,QX hltr,QdZ] at hrf
 have hvk:∀hz:k<(auts q.c.cel.rq).length,0≤rs[k]'hltr∧rs[k]'hltr<((auts q.c.cel.rq)[k]'hz).st:=λhz=>hv.2 k hltr hz
 have hal:k<(auts q.c.cel.rq).length:=by unfold auts;show k<((q.c.rq.map IV.it).map _).length;simpa using hlt
 have hvk:=hvk hal
 have hae:(auts q.c.cel.rq)[k]'hal=(q.c.rq[k]'hlt).p.a:=by unfold auts;show ((q.c.rq.map IV.it).map _)[k]'_=_;simp[IV.it]
 rw[hae,Zl hltr] at hvk
 rw[Zl hltr] at hrf
 refine Qi<|Qf<|Qg<|Qc<|Qb<|xig Yq (hS.c.rq.arr.ext hs1) rfl rfl hlt λa21 h21=>?_
 refine Zd (q.c.rq[k]'hlt) λy hy=>?_
 rw[hy] at h21 hmem hrf hvk
 have hyA:=(hS.c.rq.each y hmem).ext hs1
 have hyo:=hok y hmem
 refine x (QC h21 rfl rfl)<|xl rfl<|Qt (us:=[.string .empty,nS,.int .i64 0,nS,nS]) rfl λb8 w2 hs2 hb8 hB8=>x Qh <|
  xl rfl<|Qn (us:=QW y) hB8 rfl rfl rfl rfl ⟨rfl,hyA.al.one,rfl,hyA.mr.one,hyA.ed.one,trivial⟩ λw3 hs3 hB8=>xe ?_
 have hs13:Step [] w1 w3:=hs2.then1 hs3 hb8
 refine Qf<|Qc<|x (Qa rfl)<|x (Qa rfl)<|x (Qd hB8 rfl rfl)<|Qb<|xl rfl<|xf<|(XS (hyA.al.ext hs13) hyo.ali v).mono ?_
 rintro r4 w4 ⟨rfl,rfl⟩
 refine x (Us rfl)<|xe ?_
 refine Q4 rfl (λh28=>?_) (λh28=>?_)
 ·rw[if_neg (λe=>h28 e.1)] at hrf
  refine Qx ?_
  refine Qw<|QO rfl rfl<|Qb<|xe ?_
  exact ⟨k+1,by omega,⟨rfl,trivial⟩,hlt,hs1.trans hs13,hrf⟩
 have hva:v∈y.p.a.al:=Decidable.not_not.1 h28
 have hst:=Qix hyo hvk.1 hvk.2 hva
 refine Qi ?_
 have hrk:=(hr.ext hs1).ext hs13
 refine Qf<|QS (Step [] w4) [(0,true),(1,true),(2,true),(3,true),(4,true),(5,true),(6,true),(7,false),(8,true),(9,true),(10,true),(11,true),(12,true),(13,true),(14,true)] mixed (by rfl) (by kernel_rfl) (Step.drew _ _) ?_
 refine p (λ_=>Qa rfl)<|pq (λ_ hc=>Yv (us:=Zm y.p) (hB8.step hc (by simp)) rfl rfl rfl)<|p (λ_=>Qo)<|p (λ_=>Qo)<|pic (i:=k) rfl hrk rfl rfl hltr λa34 h34 =>
  pq (λ_ hc=>Qv (h34.ext hc) rfl)<|p (λ_=>Qo)<|pk<|xf<|(QfV ((hyA.ext hs13).ext (Step.drew _ _)) (cget rs k) v).mono ?_
 rintro r5 w5 ⟨rfl,hs5⟩
 have hs45:=(Step.drew [] w4).trans hs5
 refine ⟨hs45,?_⟩
 refine p (λ_=>Qo)<|p (λ_=>Qp rfl rfl)<|p (λ_=>Qp rfl rfl)<|p (λ_=>Qp rfl rfl)<|p (λ_=>Qh) <|
  p (λ_=>Qh)<|p (λ_=>Qh)<|pe ?_
 have hs15:=(hs1.trans hs13).trans hs45
 refine Qc<|Qb<|x (Zn rfl)<|xe ?_
 refine Q5 rfl (λh42=>?_) (λh42=>?_)
 ·have h43:(eget y.p.a.ed (cget rs k) v).isSome=false:=by rw[←hst];simpa using h42
  rw[if_pos ⟨hva,h43⟩] at hrf
  refine Qc<|Qb<|Qe ?_
  exact Ql ⟨[_],⟨rfl,trivial⟩,by rw[←hrf];rfl,hs15⟩
 have h43:¬(eget y.p.a.ed (cget rs k) v).isSome=false:=by rw[←hst];simpa using h42
 rw[if_neg (λe=>h43 e.2)] at hrf
 refine Qi<|Qw<|QO rfl rfl<|Qb<|xe ?_
 exact ⟨k+1,by omega,⟨rfl,trivial⟩,hlt,hs15,hrf⟩
end Go.Proofs.YtdffckgdcegpaaaGreatDoor
namespace Go.Lg
open Go.RowKit
def Y3 (L:LN) (W W':World):Prop:=∀(k:Nat) (o:Obj),k∉L→W.heap[k]?=some o→o.isCells=true→W'.heap[k]?=some o
theorem Y3.refl (L:LN) (W:World):Y3 L W W:=λ_ _ _ h _=>h
theorem Y3.trans {L:LN}{A B C:World}(h:Y3 L A B) (k:Y3 L B C):Y3 L A C:=λi o hn ho hc=>k i o hn (h i o hn ho hc) hc
theorem Y3.step {L:LN}{W W':World}(h:Step L W W'):Y3 L W W':=λk _ hn ho _=>(h.block k (Array.getElem?_eq_some_iff.1 ho).1 hn).trans ho
theorem At.cst {L:LN}{W W':World}{a:Addr}{us:LV}(h:At L W.heap a us) (hc:Y3 L W W') (hz:W.heap.size≤W'.heap.size):At L W'.heap a us:=by
 refine ⟨h.out,λu hu=>Nat.lt_of_lt_of_le (h.lt u hu) hz,λj u hu=>?_⟩
 have h1:=h.cell j u hu
 unfold cel at h1 ⊢
 rw[Z1] at h1 ⊢
 cases ho:W.heap[a.block]? with
 | none=>rw[ho] at h1;cases h1
 | some o =>
  rw[ho] at h1
  cases o with
  | cells c t m=>rw[hc a.block _ (h.out u (List.mem_of_getElem? hu)) ho rfl];exact h1
  | _=>cases h1
theorem Zj.cst {L:LN}{W W':World}{v:Value}{n sz:Nat}{cs:LV}(h:Zj L W.heap v n sz cs) (hc:Y3 L W W') (hz:W.heap.size≤W'.heap.size):Zj L W'.heap v n sz cs :=
 ⟨h.1,h.2.1,h.2.2.imp id λ⟨a,cap,h1,h2,h3⟩=>⟨a,cap,h1,h2,h3.cst hc hz⟩⟩
structure LwC (B:Nat) (L:LN) (W W':World):Prop where
 lw:Lw B L W W'
 cst:Y3 L W W'
theorem LwC.trans {B:Nat}{L:LN}{w0 w w':World}(h:LwC B L w0 w) (k:LwC B L w w'):LwC B L w0 w':=⟨h.lw.trans k.lw,h.cst.trans k.cst⟩
def rdC {α:Type}(B:Nat) (L:LN) (I:List α→World→Prop) (X:Exit→List α→World→Prop) (xs:List α) (W:World):Exit→LN→Fr→World→Prop
 | .normal,_,_,W'=>Jm B L W W'∧Y3 L W W'∧I xs W'
 | .ret,_,_,W'=>Jm B L W W'∧X .ret xs W'
 | .exit i,_,_,W'=>Jm B L W W'∧X (.exit i) xs W'
 | _,_,_,_=>False
theorem jR {α:Type}{m:Nat}{P:Program}{n:Nat}{Q:Exit→LN→Fr→World→Prop}{ds:LN}{f:Fr}{w:World}{g:Operand}{ps:LN}{assign body:Code}(L:LN) (h1:1≤m)
  {gf:Nat} {fn:Func} [hF:Fu P gf fn] {capt:LV} (hg:ev f g=.func (.func gf) #[] capt.toArray) {encs:α→LV} {S Sp:List α→Prop} {N:Nat} (hp:∀p∈ps,p<n) (hlen:∀x,(encs x).length=ps.length)
  (hseq:SeqStopsK (fen none) (m - 1) P gf capt.toArray (λx=>(encs x).toArray) (LwC w.heap.size L) S Sp N w)
  (I:List α→World→Prop) (hI:∀s,ZW w.heap.size (I s)) (X:Exit→List α→World→Prop) (hX:∀e s,ZW w.heap.size (X e s)) (h0:I [] w) (A:Fr→α→Fr→World→Prop) (hA:∀x f',ZW w.heap.size (A f x f'))
  (hassign:∀l pre x W,I pre W→WG (some l) (m - 1 - 1) P n assign (jZ (λds' f' W'=>ds'=[]∧Jm w.heap.size L W W'∧Y3 L W W'∧I pre W'∧A f x f' W') (λ_ _ _ _=>False)) [] (jX f ps (encs x)) W)
  (hbody:∀l pre x f' W,I pre W→A f x f' W→pre.length<N→WG (some l) (m - 1 - 1) P n body (rdC w.heap.size L I X (pre++[x]) W) [] f' W)
  (hdone:∀D xs W,w.heap.size≤D→S xs→I xs W→W.heap[D]?=some (.deferred (some []))→Q .normal (D::ds) f W)
  (hstop:∀D e pre W,w.heap.size≤D→Sp pre→X e pre W→W.heap[D]?=some (.deferred (some []))→(e=.ret∨∃i,e=.exit i)→Q e (D::ds) f W) :
  WG none m P n (.rangeFunc g ps.toArray assign body) Q ds f w:=by
 unfold WG at hassign hbody ⊢
 intro a ha
 have eg:∀args w,(callFunc gf args).run P w=.ok (.enter gf args) w:=by
  intro args w
  have h1:¬fn.name = "runtime.NumGoroutine" := by simpa using hF.nm
  have h2:¬fn.body=none:=by have:=hF.b;intro e;rw[e] at this;cases this
  simp[callFunc,hF.f,h1,h2]
 have keep:∀{W W':World},Jm w.heap.size L W W'→KeepsFrom w.heap.size W W':=λh=>⟨h.lw.size,λk o _ hk ho=>h.other k o hk ho⟩
 refine wpIn_rangeFunc_ownH (F:=fen none) rfl h1 (gf:=gf) (lb:=capt.toArray) (by rw[ha.eval];exact hg) trivial eg hseq (λh k=>h.trans k)
  (λW l o o' hl ho hoc _=>⟨⟨rfl,rfl,rfl,by simp,λk hk _=>World.putObj_heap_other (by omega)⟩,λk o2 _ hk hc=>by
   have hne:k≠l:=λe=>by subst e;rw[ho] at hk;cases hk;rw[hoc] at hc;cases hc
   rw[World.putObj_heap_other hne];exact hk⟩) (Below.refl _ _) (λx=>by simp[hlen x]) I
  (λc pre W=>match c with | .ret=>X .ret pre W | .exit i=>X (.exit i) pre W | _=>False) (ZW.own hI) (λc=>ZW.own λs=>?_) h0
  (λx a' W=>∃f',Yp n [] a' f'∧A f x f' W) (λx a'=>ZW.own λ_=>ZW.ex λf'=>ZW.and (ZW.pure _) (hA x f')) ?_ ?_ ?_ ?_
 ·cases c <;> first | exact hX _ s | exact ZW.pure _
 ·intro l pre x W K hi hK
  have hr:Yp n [] { tmps:=(ps.toArray.zip (encs x).toArray).foldl (λt (p,v)=>t.setIfInBounds p v) a.tmps,defers:=[] } (jX f ps (encs x)):=by
   have h2:Yp n [] { a with defers:=[] } f:=⟨ha.size,rfl,ha.get⟩
   have h3:=Vm ps (encs x) _ _ h2 hp
   have e:(ps.toArray.zip (encs x).toArray).foldl (λt (p,v)=>t.setIfInBounds p v) a.tmps=(ps.zip (encs x)).foldl (λt (x:Nat×Value)=>t.setIfInBounds x.1 x.2) a.tmps:=by simp
   rw[e];exact h3
  refine wpIn_mono (hassign l pre x W hi _ hr) ?_
  rintro e a' W' ⟨ds',f',h2,_,h3⟩
  cases e with
  | normal=>obtain ⟨rfl,h4,h4c,h5,h6⟩:=h3;exact hK a' W' (keep h4) ⟨h4.lw,h4c⟩ h5 ⟨f',h2,h6⟩
  | exit id=>exact h3.elim
  | goto l=>exact h3.elim
  | ret=>exact h3.elim
  | panic ch=>exact h3.elim
  | outgrown=>exact h3.elim
 ·rintro l pre x a' W _ _ hi ⟨f',h2,h3⟩ hlt
  refine wpIn_mono (hbody l pre x f' W hi h3 hlt a' h2) ?_
  rintro e a'' W' ⟨ds',f'',h4,_,h5⟩
  cases e with
  | normal=>exact ⟨keep h5.1,⟨h5.1.lw,h5.2.1⟩,h5.2.2⟩
  | exit id=>exact ⟨keep h5.1,h5.2⟩
  | goto l=>exact h5.elim
  | ret=>exact ⟨keep h5.1,h5.2⟩
  | panic ch=>exact h5.elim
  | outgrown=>exact h5.elim
 ·intro D xs W hD hS hi hd
  exact ⟨D::ds,f,⟨ha.size,by rw[show coll (D::ds)={ target:=.collected D,args:=#[] }::coll ds from rfl,ha.defers],ha.get⟩,λ_ _=>rfl,hdone D xs W hD hS hi hd⟩
 ·intro D c pre W hD hS hx hd
  have hrel:Yp n (D::ds) { a with defers:={ target:=.collected D,args:=#[] }::a.defers } f:=⟨ha.size,by rw[show coll (D::ds)={ target:=.collected D,args:=#[] }::coll ds from rfl,ha.defers],ha.get⟩
  cases c with
  | ret=>exact wpIn_ret ⟨_,f,hrel,λ_ _=>rfl,hstop D .ret pre W hD hS hx hd (.inl rfl)⟩
  | exit i=>exact wpIn_exit ⟨_,f,hrel,λ_ _=>rfl,hstop D (.exit i) pre W hD hS hx hd (.inr ⟨i,rfl⟩)⟩
  | _=>exact hx.elim
theorem xy2 {m:Nat}{P:Program}{ops:List Oper}{rest:List Oper}{f:Fr}{w:World}{K:Fr→World→Prop}{d:Option Nat}{ty:Nat}{ps:String}{af:Array Edge}{gd:Option (Nat×Bool)}{x y z:Operand}{at_:Array Nat}{l:Nat}{R:Ending→World→Prop}
  (hx:ev f x=.func (.yield l) #[] #[]) (hy:YieldAt (fen none) (m - 1) P l #[ev f y,ev f z] w R) (hK:∀e w',R e w'→∃v,e=.returned v∧Xu P m ops K rest (QY f d v) w')
  (hg:Yd ops f ⟨d,.call ⟨.value x,[y,z].toArray,at_⟩,ty,ps,af,gd⟩=true:=by rfl) :
  Xu P m ops K (⟨d,.call ⟨.value x,[y,z].toArray,at_⟩,ty,ps,af,gd⟩::rest) f w:=by
 obtain ⟨fn,tmps,assign,body,h1,h2⟩:=hy
 have hr:(execOp (ev f) ⟨d,.call ⟨.value x,[y,z].toArray,at_⟩,ty,ps,af,gd⟩).run P w=.ok (.round l fn tmps assign body) w:=by
  simp[execOp,resolve,hx,Deferred.ofValue,invoke,h1]
 unfold Xu
 rw[hg]
 simp only[XOY,hr,upY,cond_true]
 exact h2.mono λe w' h=>by obtain ⟨v,rfl,hk⟩:=hK e w' h;exact hk
end Go.Lg
namespace Go.Proofs.YtdffckgdcegpaaaGreatDoor
open Go.Proofs.Tryz
open Go.Lg
def wrf (rq:List YE) (rs:LI):LI→List (Int×Int)
 | []=>[]
 | v::l=>if 0≤rfr v 0 rq rs then (v,rfr v 0 rq rs)::wrf rq rs l else wrf rq rs l
theorem yp (rq:List YE) (rs:LI) (v:Int):∀l,wrf rq rs (l++[v])=wrf rq rs l++if 0≤rfr v 0 rq rs then [(v,rfr v 0 rq rs)] else []
 | []=>by simp only[List.nil_append,wrf]
 | a::l=>by
  simp only[List.cons_append,wrf,yp rq rs v l]
  by_cases h:0≤rfr a 0 rq rs
  ·rw[if_pos h,if_pos h];rfl
  ·rw[if_neg h,if_neg h]
theorem J8 (rq:List YE) (rs:LI) (b:LI):∀a,wrf rq rs (a++b)=wrf rq rs a++wrf rq rs b
 | []=>rfl
 | x::a=>by
  simp only[List.cons_append,wrf,J8 rq rs b a]
  by_cases h:0≤rfr x 0 rq rs
  ·rw[if_pos h,if_pos h];rfl
  ·rw[if_neg h,if_neg h]
theorem Qgp (rq:List YE) (rs:LI) (l:LI) (k:Nat):(wrf rq rs (l.take k)).length≤(wrf rq rs l).length:=by
 have h:=J8 rq rs (l.drop k) (l.take k)
 rw[List.take_append_drop] at h
 rw[h,List.length_append];omega
theorem Qdl {rq:List YE}{rs:LI}{l:LI}{k:Nat}(h:k<l.length):wrf rq rs (l.take (k+1))=wrf rq rs (l.take k)++if 0≤rfr (cget l k) 0 rq rs then [(cget l k,rfr (cget l k) 0 rq rs)] else []:=by
 rw[List.take_succ_eq_append_getElem h,yp,Zl h]
theorem V3 {rq:List YE}{rs:LI}{x:Int×Int}:∀{l:LI},x∈wrf rq rs l↔x.1∈l∧0≤x.2∧x.2=rfr x.1 0 rq rs
 | []=>by simp[wrf]
 | v::l=>by
  rw[wrf]
  have ih:=V3 (rq:=rq) (rs:=rs) (x:=x) (l:=l)
  by_cases h:0≤rfr v 0 rq rs
  ·rw[if_pos h,List.mem_cons,ih,List.mem_cons]
   constructor
   ·rintro (rfl | ⟨h1,h2⟩)
    ·exact ⟨.inl rfl,h,rfl⟩
    ·exact ⟨.inr h1,h2⟩
   ·rintro ⟨h1 | h1,h2,h3⟩
    ·exact .inl (by rw[←h1];exact Prod.ext_iff.2 ⟨rfl,h3⟩)
    ·exact .inr ⟨h1,h2,h3⟩
  ·rw[if_neg h,ih,List.mem_cons]
   constructor
   ·rintro ⟨h1,h2⟩;exact ⟨.inr h1,h2⟩
   ·rintro ⟨h1 | h1,h2,h3⟩
    ·exact absurd (by rw[←h1,←h3];exact h2) h
    ·exact ⟨h1,h2,h3⟩
theorem VK {w:World}{b:Nat}{st:Int}{vr:Value}(hr1:vr.cells=[vr].toArray) :
  QJ prog 74 [.pointer (some ⟨b,0,none⟩),.int .i64 st,vr] w λr w'=>Step [] w w'∧∃b1 b2 b3,r=.func (.func 151) #[] #[.pointer (some ⟨b1,0,none⟩),.pointer (some ⟨b2,0,none⟩),.pointer (some ⟨b3,0,none⟩)] ∧
   w.heap.size≤b1∧w.heap.size≤b2∧w.heap.size≤b3∧Q2 w'.heap b1 147 [.pointer (some ⟨b,0,none⟩)]∧Q2 w'.heap b2 3 [.int .i64 st]∧Q2 w'.heap b3 37 [vr]:=by
 refine QJ.of_W func74 rfl ntmps74 results74 (by simp) ?_
 refine Qc<|xl rfl<|QQ (us:=[.pointer (some ⟨b,0,none⟩)]) rfl λb3 w1 hs1 hb3 hB3=>xl rfl<|QQ (us:=[.int .i64 st]) rfl λb4 w2 hs2 hb4 hB4=>xl rfl<|QQ (us:=[vr]) hr1 λb5 w3 hs3 hb5 hB5=>x Qh <|
  xe ?_
 have hz1:=hs1.size
 have hz2:=hs2.size
 refine Qc<|x Zr<|Qe ?_
 exact Ql ⟨[_],⟨rfl,trivial⟩,(hs1.trans hs2).trans hs3,b3,b4,b5,rfl,hb3,by omega,by omega,(hB3.ext hs2).ext hs3,hB4.ext hs3,hB5⟩
set_option maxHeartbeats 4000000 in
theorem KI {L:LN}{w:World}{b1 b2 b3 b m:Nat}{q:Sty}{vr:Value}{rs es:LI}{st:Int}{fl:List (Int×Int)}(hB1:Q2 w.heap b1 147 [.pointer (some ⟨b,0,none⟩)]) (hB2:Q2 w.heap b2 3 [.int .i64 st]) (hB3:Q2 w.heap b3 37 [vr])
  (h1L:b1∉L) (h3L:b3∉L) (hLw:∀x∈L,x<w.heap.size) (hS:Xw L b w.heap q) (hr:QL L w.heap vr rs) (hok:∀x∈q.c.rq,Zs x.p.a) (hv:Vt (auts q.c.cel.rq) rs) (hc:cks q.p.a st=0) (hes:enb q.p.a st=es) (hfl:wrf q.c.cel.rq rs es=fl) :
  SeqStopsK (fen none) m prog 151 [.pointer (some ⟨b1,0,none⟩),.pointer (some ⟨b2,0,none⟩),.pointer (some ⟨b3,0,none⟩)].toArray (λx:{ x:Int×Int // x∈fl }=>[Value.int .i64 x.1.1,.int .i64 x.1.2].toArray) (LwC w.heap.size L)
   (λys=>ys.map (·.1)=fl) (λpre=>pre.map (·.1) <+: fl) fl.length w:=by
 intro l J Jx W hbel hJ hJx hY h0
 have hwW:Step [] w W:=Step.of_below hbel
 have ab:∀{ys:List { x:Int×Int // x∈fl }} {W1 W2:World},J ys W1→Step [] W1 W2→J ys W2:=λ{ys W1 W2} hj hst=>hJ ys W1 W2 none hj ⟨hst.os,hst.tape,hst.output,hst.size,λk hk _=>hst.block k hk (by simp)⟩ (λr e=>by cases e)
 have hel:es.length≤1099511627776:=by
  have h1:=hS.p.ed.le
  have h2:=JB q.p.a.ed st
  rw[←hes];unfold enb;rw[List.length_map];omega
 have hlk:=Qgp q.c.cel.rq rs es
 rw[hfl] at hlk
 have key:QJ prog 151 [.func (.yield l) #[] #[],.pointer (some ⟨b1,0,none⟩),.pointer (some ⟨b2,0,none⟩),.pointer (some ⟨b3,0,none⟩)] W (λ_ W'=>(∃ys,ys.map (·.1)=fl∧J ys W')∨(∃pre,pre.map (·.1) <+: fl∧Jx pre W')):=by
  refine QJ.of_G m func151 rfl ntmps151 results151 (by simp) ?_
  have hB1':=hB1.ext hwW
  have hB2':=hB2.ext hwW
  have hSW:=hS.ext hwW
  refine Q0<|U7 (Step [] W) [(0,true),(1,true),(2,true),(3,true),(4,true),(5,false),(6,true),(7,true),(8,true),(9,true),(10,true)] mixed (by rfl) (by rfl) (by kernel_rfl) (Step.drew _ _) ?_
  refine pq (λ_ hc=>Qd (hB1'.ext hc) rfl rfl)<|p (λ_=>QI rfl)<|p (λ_=>Qa rfl)<|pq (λ_ hc=>Yv (us:=Zm q.p) (hSW.B.ext hc) rfl rfl rfl)<|pq (λ_ hc=>Qd (hB2'.ext hc) rfl rfl)<|pk<|xf<|(Qa0 (hSW.p.ext (Step.drew _ _)) st).mono ?_
  rintro r1 w1 ⟨hs1,ve,rfl,_,hve⟩
  have hve:=hve hc
  have hs01:=(Step.drew [] W).trans hs1
  refine ⟨hs01,?_⟩
  refine p (λ_=>Qo)<|p (λ_=>Qp rfl rfl)<|p (λ_=>Qp rfl rfl)<|p (λ_=>Qh)<|p (λ_=>Qh)<|pe ?_
  have hzw:=hwW.size
  have hzd:({ W with drawn:=W.drawn+1 }:World).heap.size=W.heap.size:=rfl
  rw[hes] at hve
  have hE1:QL L w1.heap ve es:=Qu.ints hve hel (λx hx=>by have:=hLw x hx;omega)
  refine Q0<|QK (by rfl) (by rfl) ?_
  refine Qb<|x (Qr hE1 rfl)<|Qb<|xe ?_
  refine ZC<|VJ (α:=Nat×List { x:Int×Int // x∈fl }) [(8,9),(21,38)] (λz=>[(21,.int .i64 z.1)]) (λz ds W'=>ds=[]∧z.1≤es.length∧Step L w W'∧QL L W'.heap ve es∧z.2.map (·.1)=wrf q.c.cel.rq rs (es.take z.1)∧J z.2 W') (λz=>es.length - z.1) (by rfl) (0,[]) ⟨rfl,trivial⟩
   ⟨rfl,Nat.zero_le _,(hwW.trans hs01).any,hE1,rfl,ab h0 hs01⟩ ?_
  rintro ⟨k,ys⟩ g ds w2 ⟨rfl,hk,hs2,hE2,hys,hJ2⟩
  simp only[] at hk hE2 hys hJ2
  refine Q0<|QK (by rfl) (by rfl) ?_
  refine x (QB rfl rfl)<|xe ?_
  refine Q0<|zf rfl (λh22=>?_) (λh22=>?_)
  ·refine JS ?_
   have hke:es.length≤k:=by have h23:¬(k:Int)<(es.length:Int):=h22;omega
   rw[List.take_of_length_le hke,hfl] at hys
   exact ⟨λ_ h=>(by cases h),List.nodup_nil,[],λW' hW'=>⟨trivial,.inl ⟨ys,hys,ab hJ2 hW'⟩⟩⟩
  refine Yb ?_
  have hlt:k<es.length:=by have h23:(k:Int)<(es.length:Int):=h22;omega
  have htk:=Qdl (rq:=q.c.cel.rq) (rs:=rs) hlt
  have hcm:cget es k∈es:=by rw[←Zl hlt];exact List.getElem_mem hlt
  refine Zd (cget es k) λv hvv=>?_
  rw[hvv] at htk hcm
  refine Zd (rfr v 0 q.c.cel.rq rs) λj hj=>?_
  rw[hj] at htk
  refine Q0<|ZC<|Q0<|QK (by rfl) (by rfl) ?_
  refine xic (i:=k) hE2 rfl rfl hlt λa23 h23=>?_
  rw[hvv] at h23
  refine x (Qv h23 rfl)<|Qe<|Q0<|QK (by rfl) (by rfl) ?_
  refine x (Qd (hB1.step hs2 h1L) rfl rfl)<|x (Qd (hB3.step hs2 h3L) rfl rfl)<|Qb<|xl rfl<|xf<|(Qac (v:=v) (hS.st hs2) (hr.st hs2) hok hv).mono ?_
  rintro r3 w3 ⟨hr3,hs3⟩
  rw[hj] at hr3
  subst hr3
  refine Qe<|Q0<|J1 (by rfl) ?_
  refine Xu.pre3 ?_
  refine Qb<|xb (ZR rfl rfl) (λh30=>?_) (λh30=>?_)
  ·have h31:0≤j:=h30
   have hme:(v,j)∈fl:=by rw[←hfl];exact V3.2 ⟨hcm,h31,hj.symm⟩
   rw[if_pos h31] at htk
   have hpre:(ys++[(⟨(v,j),hme⟩:{ x:Int×Int // x∈fl })]).map (·.1) <+: fl:=by
    rw[List.map_append,hys,show [(⟨(v,j),hme⟩:{ x:Int×Int // x∈fl })].map (·.1)=[(v,j)] from rfl,←htk,←hfl]
    have h9:=J8 q.c.cel.rq rs (es.drop (k+1)) (es.take (k+1))
    rw[List.take_append_drop] at h9
    exact ⟨_,h9.symm⟩
   have hyl:ys.length<fl.length:=by have h1:=hpre.length_le;rw[List.length_map,List.length_append,List.length_singleton] at h1;omega
   refine Qb<|xe ?_
   refine Xu.pre3 ?_
   refine Qb<|Qb<|Qb<|xe ?_
   refine xy2 (l:=l) rfl (hY ys ⟨(v,j),hme⟩ w3 (ab hJ2 hs3) hyl) λen W3 hen=>Or.elim hen (λh1=>⟨.bool true,h1.1,?_⟩) (λh1=>⟨.bool false,h1.1,?_⟩)
   ·refine Xu.of_XL<|x (Zn rfl)<|x (Qm rfl)<|xe ?_
    refine J2 rfl<|Yb ?_
    refine QK (by rfl) (by rfl) ?_
    refine QO rfl rfl<|Qb<|xe ?_
    exact ⟨(k+1,ys++[⟨(v,j),hme⟩]),by simp only[];omega,⟨rfl,trivial⟩,rfl,hlt,(hs2.trans hs3).lw h1.2.2.lw,(hE2.ext hs3).cst h1.2.2.cst h1.2.2.lw.size,by simp only[];rw[htk,List.map_append,hys];rfl,h1.2.1⟩
   ·refine Xu.of_XL<|x (Zn rfl)<|x (Qm rfl)<|xe ?_
    refine yi rfl ?_
    refine JR ⟨λ_ h=>(by cases h),List.nodup_nil,[],λW' hW'=>⟨trivial,.inr ⟨ys++[⟨(v,j),hme⟩],hpre,?_⟩⟩⟩
    exact hJx _ W3 W' none h1.2 ⟨hW'.os,hW'.tape,hW'.output,hW'.size,λk hk _=>hW'.block k hk (by simp)⟩ (λr e=>by cases e)
  have h31:¬0≤j:=h30
  rw[if_neg h31,List.append_nil] at htk
  refine Qb<|xe ?_
  refine Xu.of_XL<|xs rfl<|xs rfl<|xs rfl<|xs rfl<|xs rfl<|x (Qm rfl)<|xe ?_
  refine J2 rfl<|Yb ?_
  refine QK (by rfl) (by rfl) ?_
  refine QO rfl rfl<|Qb<|xe ?_
  exact ⟨(k+1,ys),by simp only[];omega,⟨rfl,trivial⟩,rfl,hlt,hs2.trans hs3,hE2.ext hs3,by simp only[];rw[htk,hys],ab hJ2 hs3⟩
 refine (callsIn_wide (n:=m)).2 ?_
 have ea:(#[.func (.yield l) #[] #[]]++[.pointer (some ⟨b1,0,none⟩),.pointer (some ⟨b2,0,none⟩),.pointer (some ⟨b3,0,none⟩)].toArray:Array Value)=[.func (.yield l) #[] #[],.pointer (some ⟨b1,0,none⟩),.pointer (some ⟨b2,0,none⟩),.pointer (some ⟨b3,0,none⟩)].toArray:=by simp
 rw[ea]
 unfold QJ at key
 refine Calls.mono key λe w' he=>?_
 cases e with
 | returned v=>exact ⟨⟨v,rfl⟩,he⟩
 | panicked c=>exact he.elim
 | outgrown=>exact he.elim
end Go.Proofs.YtdffckgdcegpaaaGreatDoor
namespace Go.Lg
section
variable {P:Program} {K:Fr→World→Prop} {f:Fr} {w:World} {d:Option Nat} {ty:Nat} {ps:String} {af:Array Edge} {gd:Option (Nat×Bool)}
theorem XZ {t sz:Nat}[h1:Ag P t sz] {x y:Operand}{b T o:Nat}{cs us cs':LV}(hB:Q2 w.heap b T cs) (hx:ev f x=.pointer (some ⟨b,o,none⟩)) (hy:ev f y=.agg us.toArray) (hl:us.length=sz) (hj:o+sz≤cs.length) (hu:Zw us) (he:cs.take o++us++cs.drop (o+sz)=cs')
  (hK:∀w',Step [b] w w'→Q2 w'.heap b T cs'→K (QY f d undef) w'):XO P ⟨d,.store t x y,ty,ps,af,gd⟩ f w K:=by
 have hr:=run_storeCells_at P b o T us 0 cs.toArray w hB (by simp;omega) hu.all
 subst hl
 simp only[Nat.add_zero,he] at hr
 refine xk (w':=w.setRow b cs'.toArray) ?_ (hK _ (Step.setRow _ _ _) (Jb hB))
 simp[execOp,hx,hy,Instr.storeAt,Instr.sureAddr,storeVar,Vj (sz:=us.length),Value.cells,hr]
end
end Go.Lg
namespace Go.Proofs.YtdffckgdcegpaaaGreatDoor
open Go.Proofs.Tryz
open Go.Lg
instance:Bw prog 154 [nS,nS,nS,nS,nS,nS,.int .i64 0,nS,nS,nS,nS,.int .i64 0,nS,nS,nS,nS,nS,nS,.map none] [(0,5),(5,4),(9,1),(10,4),(14,1),(15,3),(18,1)]:=⟨by kernel_rfl,by decide⟩
theorem Yc.shape {N:Nat}{H:Array Obj}{aa:List QV}{v vt:Value}{c:Int}(h:Yc N H aa v vt c):∃(a:QV) (va vm ve:Value) (qs:List TV),v=.agg #[va,.int .i64 a.st,vm,ve]∧Zw [va,.int .i64 a.st,vm,ve]∧vt.oneCell'=true ∧
  (c=0→sync aa=some (a,qs.map (·.2))∧Vf aa=0∧∀L:LN,(∀b∈L,b<N)→Zt L H va vm ve a∧Xv L H vt qs):=by
 by_cases hc:c=0
 ·obtain ⟨⟨va,vm,ve,h1,h2⟩,⟨qs,h3,h4⟩,h5,h6⟩:=h.good hc
  have hA:=h2 [] (by simp)
  exact ⟨syA aa,va,vm,ve,qs,h1,⟨hA.al.one,rfl,hA.mr.one,hA.ed.one,trivial⟩,(h4 [] (by simp)).arr.one,λ_=>⟨by rw[h3];exact h5,h6,λL hL=>⟨h2 L hL,h4 L hL⟩⟩⟩
 ·obtain ⟨h1,h2⟩:=h.bad hc
  exact ⟨⟨[],0,[],[]⟩,Zb,Zb,Zb,[],h1,⟨rfl,rfl,rfl,rfl,trivial⟩,by rw[h2];rfl,λe=>absurd e hc⟩
def plE (c:Zv):Int:=if Zi c≠0 then Zi c else yv (auts c.co)
theorem ze.shape {N:Nat}{H:Array Obj}{c:Zv}{v vt:Value}{e:Int}(h:ze N H c v vt e):e=plE c∧∃(a:QV) (va vm ve:Value) (qs:List TV),v=.agg #[va,.int .i64 a.st,vm,ve]∧Zw [va,.int .i64 a.st,vm,ve]∧vt.oneCell'=true ∧
  (e=0→Zi c=0∧sync (auts c.co)=some (a,qs.map (·.2))∧Vf (auts c.co)=0∧∀L:LN,(∀b∈L,b<N)→Zt L H va vm ve a∧Xv L H vt qs):=by
 unfold ze at h
 unfold plE
 by_cases hc:Zi c≠0
 ·rw[if_pos hc] at h ⊢
  obtain ⟨h1,h2,h3⟩:=h
  exact ⟨h1,⟨[],0,[],[]⟩,Zb,Zb,Zb,[],h2,⟨rfl,rfl,rfl,rfl,trivial⟩,by rw[h3];rfl,λe=>absurd (h1.symm.trans e) hc⟩
 ·rw[if_neg hc] at h ⊢
  obtain ⟨a,va,vm,ve,qs,h1,h2,h3,h4⟩:=h.shape
  exact ⟨h.e,a,va,vm,ve,qs,h1,h2,h3,λe=>⟨Decidable.not_not.1 hc,h4 e⟩⟩
theorem Qgy (c:Zv):Yu c=if plE c≠0 then plE c else yv (auts c.co++auts c.rq):=by
 rw[Qgz];unfold plE
 by_cases h:Zi c≠0
 ·rw[if_pos h,if_pos h,if_pos h]
 ·rw[if_neg h,if_neg h]
theorem QhV {L:LN}{H:Array Obj}{ps:List AV}(h:∀p∈ps,Zt L H p.va p.vm p.ve p.a):∀u∈ps.flatMap Zm,u.oneCell'=true:=by
 intro u hu
 obtain ⟨p,hp,hup⟩:=List.mem_flatMap.1 hu
 have hA:=h p hp
 simp only[List.mem_cons,List.not_mem_nil,or_false] at hup
 rcases hup with rfl | rfl | rfl | rfl
 ·exact hA.al.one
 ·rfl
 ·exact hA.mr.one
 ·exact hA.ed.one
theorem Qji {F:LN→Array Obj→Prop}(st:∀{L:LN}{w w':World},F L w.heap→Step L w w'→F L w'.heap) (up:∀{L L':LN}{H:Array Obj},F L H→(∀b∈L',b∈L∨H.size≤b)→F L' H) {N b:Nat}{w w':World}
  (h:∀L:LN,(∀x∈L,x<N)→F L w.heap) (hb:b<N) (hs:Step [b] w w'):∀L:LN,(∀x∈L,x<N)→F L w'.heap:=λL hL =>
 up (st (h (b::L) (λx hx=>by
  rcases List.mem_cons.1 hx with rfl | hx
  ·exact hb
  ·exact hL x hx)) (hs.mono (λx hx=>by simp only[List.mem_singleton] at hx;subst hx;exact List.mem_cons_self))) (λx hx=>.inl (List.mem_cons_of_mem _ hx))
theorem VH.nil (n:Nat):VH n [] []:=λu _ _=>by simp[mget]
set_option maxHeartbeats 8000000 in
theorem jH {L:LN}{w:World}{c:CL}(h0:Zu L w.heap c) (hkb:Kb w 4096) :
  QJ prog 70 [c.val] w λr w'=>Step [] w w'∧∃vp,r=.tuple #[vp,.int .i64 (Yu c.cel)]∧(Yu c.cel≠0→vp=.pointer none) ∧
   (Yu c.cel=0→∃b q,vp=.pointer (some ⟨b,0,none⟩)∧q.c=c∧Qlp q∧Xw [] b w'.heap q∧∀L:LN,(∀x∈L,x<w.heap.size)→Zt L w'.heap q.s.va q.s.vm q.s.ve q.s.a∧(Zu L w.heap c→Xw L b w'.heap q)):=by
 have h:=h0.up (L':=[]) (by simp)
 have hE:=Qgy c.cel
 refine Zd (Yu c.cel) λE hEq=>?_
 rw[hEq] at hE ⊢
 refine QJ.of_W func70 rfl ntmps70 results70 (by simp) ?_
 refine Qc<|xl rfl<|QQ (us:=c.cells) rfl λb1 w1 hs1 hb1 hB1=>x Qh<|Qe ?_
 have hz1:=hs1.size
 have hl1:=hB1.lt
 have hones:=h.ones
 refine Qc<|x (Qq hB1 rfl rfl)<|x (ZS [(0,c.cells)] ⟨rfl,rfl,trivial⟩)<|xl rfl<|QQ (us:=[c.ve,c.vc,c.vr,c.vx,c.vk,nS,.int .i64 0,nS,nS,nS,nS,.int .i64 0,nS,nS,nS,nS,nS,nS,.map none]) rfl λb10 w2 hs2 hb10 hB10=>Qe ?_
 have hs02:=hs1.trans hs2
 have hz2:=hs02.size
 have hl10:=hB10.lt
 have hB12:=hB1.ext hs2
 have h2:=h.ext hs02
 have hge:w.heap.size≤b10:=by omega
 have hne:b1≠b10:=by omega
 refine Qc<|Qe<|Qf<|Qc<|Qb<|Qb<|x (Qq hB12 rfl rfl)<|xl rfl<|xf<|(Qf5 h2 (hkb.ext hs02)).mono ?_
 rintro r3 w3 ⟨hs3,v3,vq,e3,rfl,hP⟩
 obtain ⟨hPe,pa,pva,pvm,pve,qs,rfl,hP1,hP2,hP3⟩:=hP.shape
 have hs03:=hs02.trans hs3
 refine Qb<|x (Qp rfl rfl)<|x (Qp rfl rfl)<|x (Qp rfl rfl)<|x (QI rfl)<|x (Qa rfl)<|xl rfl<|XZ (us:=[pva,.int .i64 pa.st,pvm,pve]) (hB10.ext hs3) rfl rfl rfl (by simp) hP1 rfl λw4 hs4 hB10 =>
  x (QI rfl)<|x (Qa rfl)<|xl rfl<|QF (j:=9) (u:=vq) hB10 rfl rfl (by simp) hP2 λw5 hs5 hB10=>Qe ?_
 have hs35:Step [b10] w3 w5:=hs4.trans' hs5
 have hs05:Step [] w w5:=hs03.then1 hs35 hge
 refine Qc<|Qb<|x (Q8 rfl rfl)<|xe ?_
 refine Q4 rfl (λh24=>?_) (λh24=>?_)
 ·have hpl:plE c.cel≠0:=by rw[←hPe];exact h24
  rw[if_pos hpl,←hPe] at hE
  subst hE
  refine Qc<|Qb<|x Qh<|Qe ?_
  exact Ql ⟨[_,_],⟨rfl,rfl,trivial⟩,hs05,.pointer none,rfl,λ_=>rfl,λe=>absurd e h24⟩
 have he3:e3=0:=Decidable.not_not.1 h24
 rw[if_neg (by rw[←hPe,he3];decide)] at hE
 obtain ⟨hck,hsy,hcp,hPA⟩:=hP3 he3
 have hok:=ZV hck
 refine Qi ?_
 have hB15:=(hB12.ext hs3).step hs35 (by simp;omega)
 have h5:=h.ext hs05
 have hcl:=h.co.arr.le
 have hrl:=h.rq.arr.le
 have hc8:c.co.length≤8:=by have:=hok.c8;have e:c.cel.co.length=c.co.length:=List.length_map ..;omega
 have hcr:c.co.length+c.rq.length≤12:=by have:=hok.cr;have e:c.cel.co.length=c.co.length:=List.length_map ..;have e':c.cel.rq.length=c.rq.length:=List.length_map ..;omega
 refine Qf<|Qf<|QS (Step [] w5) [(0,true),(1,true),(2,true),(3,true),(5,true),(6,true),(4,false),(7,false),(8,false),(9,false),(10,true),(11,true),(12,true),(13,true),(14,true),(15,true),(16,false),(17,true),(18,true),(19,false),(20,true)] mixed (by rfl) (by kernel_rfl) (Step.drew _ _) ?_
 refine p (λ_=>Qo)<|p (λ_=>Qo)<|p (λ_=>Qa rfl)<|pq (λ_ hc=>Qd (hB15.step hc (by simp)) rfl rfl)<|p (λ_=>Qa rfl) <|
  pq (λ_ hc=>Qd (hB15.step hc (by simp)) rfl rfl)<|pk<|xf<|(Qau (h5.co.ext (Step.drew _ _))).mono ?_
 rintro r6 w6 ⟨hs6,ho6⟩
 have hs56:=(Step.drew [] w5).trans hs6
 refine ⟨hs56,?_⟩
 refine pk<|xf<|(Qau (h5.rq.ext hs56)).mono ?_
 rintro r7 w7 ⟨hs7,ho7⟩
 have hs57:=hs56.trans hs7
 refine ⟨hs57,?_⟩
 have hz6:=hs6.size
 have hz7:=hs7.size
 have hzd:({ w5 with drawn:=w5.drawn+1 }:World).heap.size=w5.heap.size:=rfl
 have hA7:Zj [] w7.heap r7 (c.rq.map (·.p)).length 4 ((c.rq.map (·.p)).flatMap Zm):=QT ho7 (by rw[List.length_map];omega) (by simp)
 have hge6:=Qk ho6
 refine pk<|zH (Qs ho6 hs7) rfl hA7 rfl (QhV λp hp=>by
   obtain ⟨q,hq,rfl⟩:=List.mem_map.1 hp
   exact (h.rq.each q hq)) (by rw[List.length_map,List.length_map];omega) (by omega) λv8 w8 ho8 hs8 hn8=>?_
 have hs58:Step [] w5 w8:=hs57.then hs8 (λb hb=>.inr (by have:=(hge6 b hb).1;omega))
 refine ⟨hs58,?_⟩
 have hs08:=hs05.trans hs58
 have hz58:=hs58.size
 have hA8:Xx [] w8.heap v8 (c.co.map (·.p)++c.rq.map (·.p)):=by
  rw[←List.length_append,←List.flatMap_append] at ho8
  exact QeZ ho8 (by rw[List.length_append,List.length_map,List.length_map];omega) (by simp) (λp hp=>by
   rcases List.mem_append.1 hp with hp | hp
   ·obtain ⟨q,hq,rfl⟩:=List.mem_map.1 hp
    exact (h.co.each q hq).ext hs08
   ·obtain ⟨q,hq,rfl⟩:=List.mem_map.1 hp
    exact (h.rq.each q hq).ext hs08)
 have hoks:∀p∈c.co.map (·.p)++c.rq.map (·.p),Zs p.a:=λp hp=>by
   rcases List.mem_append.1 hp with hp | hp
   ·obtain ⟨q,hq,rfl⟩:=List.mem_map.1 hp
    exact hok.co q.it (List.mem_map_of_mem hq)
   ·obtain ⟨q,hq,rfl⟩:=List.mem_map.1 hp
    exact hok.rq q.it (List.mem_map_of_mem hq)
 refine pk<|xf<|(jP (km:=4096) hA8 (hkb.ext hs08) (by decide) (Qbo hoks)).mono ?_
 rintro r9 w9 ⟨hs9,v9,vt,e9,rfl,hR⟩
 rw[List.map_append,Qb4,QhW] at hR
 have hRe:=hR.e
 obtain ⟨sa,sva,svm,sve,ts,rfl,hR1,hR2,hR3⟩:=hR.shape
 have hs59:=hs58.trans hs9
 refine ⟨hs59,?_⟩
 refine p (λ_=>Qo)<|p (λ_=>Qp rfl rfl)<|p (λ_=>Qp rfl rfl)<|p (λ_=>Qp rfl rfl)<|p (λ_=>QI rfl) <|
  p (λ_=>Qa rfl)<|pkl (hl:=by kernel_rfl)<|XZ (us:=[sva,.int .i64 sa.st,svm,sve]) (hB10.ext hs59) rfl rfl rfl (by simp) hR1 rfl λw10 hs10 hB10=>p (λ_=>QI rfl)<|p (λ_=>Qa rfl) <|
  pkl (hl:=by kernel_rfl)<|QF (j:=14) (u:=vt) hB10 rfl rfl (by simp) hR2 λw11 hs11 hB10=>p (λ_=>Qh)<|pe ?_
 have hs911:Step [b10] w9 w11:=hs10.trans' hs11
 have hs511:Step [b10] w5 w11:=hs59.any.trans' hs911
 have hs011:Step [] w w11:=hs05.then1 hs511 hge
 refine Qc<|Qb<|x (Q8 rfl rfl)<|xe ?_
 refine Q4 rfl (λh45=>?_) (λh45=>?_)
 ·rw[←hRe] at hE
  subst hE
  refine Qc<|Qb<|x Qh<|Qe ?_
  exact Ql ⟨[_,_],⟨rfl,rfl,trivial⟩,hs011,.pointer none,rfl,λ_=>rfl,λe=>absurd e h45⟩
 have he9:e9=0:=Decidable.not_not.1 h45
 have hE0:E=0:=by rw[hE,←hRe,he9]
 obtain ⟨hsy2,hcp2,hRA⟩:=hR3 he9
 refine Qi ?_
 have hB111:=hB15.step hs511 (by simp;omega)
 refine Qc<|Qb<|Qb<|x (Qq hB111 rfl rfl)<|xl rfl<|xf<|(q9 (h.ext hs011)).mono ?_
 rintro r12 w12 ⟨hs12,vs,vx,vk,qx,ks,rfl,hqx,hks,hCF⟩
 have hC0:=hCF [] (by simp)
 refine xl rfl<|Yn Xl λbm w13 hs13 hbm hm13=>x (QI rfl)<|x (Qa rfl)<|xl rfl<|XZ (us:=[vs,vx,vk]) ((hB10.ext hs12).ext hs13) rfl rfl rfl (by simp) ⟨hC0.1.one,hC0.2.1.arr.one,hC0.2.2.arr.one,trivial⟩ rfl λw14 hs14 hB10 =>
  x (QI rfl)<|x (Qa rfl)<|xl rfl<|QF (j:=18) (u:=.map (some bm)) hB10 rfl rfl (by simp) rfl λw15 hs15 hB10=>xe ?_
 have hz11:=hs011.size
 have hz12:=hs12.size
 have hz511:=hs511.size
 have hz35:=hs35.size
 have hz3:=hs3.size
 have hz59:=hs59.size
 have hlb:b10<w12.heap.size:=by omega
 have hnb:bm≠b10:=by omega
 have hs1215:Step [b10] w12 w15:=(hs13.any.trans' hs14).trans' hs15
 have hs1315:Step [b10] w13 w15:=hs14.trans' hs15
 have hm15:Z2 Xl w15.heap bm []:=hm13.step hs1315 (by simpa using hnb)
 have hs312:Step [b10] w3 w12:=(hs35.trans' hs511).trans hs12
 have hs912:Step [b10] w9 w12:=hs911.trans hs12
 have hs012:=hs011.trans hs12
 have fP:∀{w':World},Step [b10] w12 w'→∀L:LN,(∀x∈L,x<w2.heap.size)→Zt L w'.heap pva pvm pve pa∧Xv L w'.heap vq qs:=λhs =>
  Qji (F:=λL H=>Zt L H pva pvm pve pa∧Xv L H vq qs) (λh hs=>⟨h.1.st hs,h.2.st hs⟩) (λh hL=>⟨h.1.up hL,h.2.up hL⟩) hPA hl10 (hs312.trans' hs)
 have fS:∀{w':World},Step [b10] w12 w'→∀L:LN,(∀x∈L,x<w8.heap.size)→Zt L w'.heap sva svm sve sa∧Xv L w'.heap vt ts:=λhs =>
  Qji (F:=λL H=>Zt L H sva svm sve sa∧Xv L H vt ts) (λh hs=>⟨h.1.st hs,h.2.st hs⟩) (λh hL=>⟨h.1.up hL,h.2.up hL⟩) hRA (by omega) (hs912.trans' hs)
 have fC:∀{w':World},Step [b10] w12 w'→∀L:LN,(∀x∈L,x<w11.heap.size)→QL L w'.heap vs (szs c.cel.co)∧qd L w'.heap vx qx∧U5 L w'.heap vk ks:=λhs =>
  Qji (F:=λL H=>QL L H vs (szs c.cel.co)∧qd L H vx qx∧U5 L H vk ks) (λh hs=>⟨h.1.st hs,h.2.1.st hs,h.2.2.st hs⟩) (λh hL=>⟨h.1.up hL,h.2.1.up hL,h.2.2.up hL⟩) hCF (by omega) hs
 have hVs:=(V4 (Yh hok.co) hsy).1
 have hnd:=(Xe (Yh hok.co) hsy).1.nd
 simp only[] at hVs
 have hal:(auts c.cel.co).length=c.co.length:=by unfold auts;show ((c.co.map IV.it).map _).length=_;simp
 have hQ15:=(fP hs1215 [] (by simp)).2
 have hql:=hQ15.arr.le
 refine Qf<|Qc<|Qb<|x (QI rfl)<|x (Qa rfl)<|x (Qd hB10 rfl rfl)<|x (Qr hQ15.arr rfl)<|Qb<|xe ?_
 refine Qg<|QA (α:=Nat×List (ByteArray×Value)) [(6,7),(61,73)] (λz=>[(61,.int .i64 z.1)]) (λz w'=>z.1≤qs.length∧Step [b10] w12 w'∧Q2 w'.heap b10 154 [c.ve,c.vc,c.vr,c.vx,c.vk,pva,.int .i64 pa.st,pvm,pve,vq,sva,.int .i64 sa.st,svm,sve,vt,vs,vx,vk,.map (some bm)]∧Z2 Xl w'.heap bm z.2∧VH c.co.length z.2 ((qs.take z.1).map (·.2))) (λz=>qs.length - z.1) (by rfl) (0,[]) ⟨rfl,trivial⟩
  ⟨Nat.zero_le _,hs1215,hB10,hm15,VH.nil _⟩ ?_
 rintro ⟨k,mm⟩ g w16 ⟨hk,hs16,hB16,hm16,hkn⟩
 simp only[] at hk hm16 hkn
 have hs016:Step [] w w16:=hs012.then1 hs16 hge
 refine Qc<|x (QB rfl rfl)<|xe ?_
 refine Qf<|QG rfl (λh62=>?_) (λh62=>?_)
 ·refine Qx ?_
  have hke:qs.length≤k:=by have h63:¬(k:Int)<(qs.length:Int):=h62;omega
  rw[List.take_of_length_le hke] at hkn
  refine Qc<|Qb<|x Qh<|Qe ?_
  have aP:=fP hs16 [] (by simp)
  have aS:=fS hs16 [] (by simp)
  have aC:=fC hs16 [] (by simp)
  refine Ql ⟨[_,_],⟨rfl,rfl,trivial⟩,hs016,.pointer (some ⟨b10,0,none⟩),by rw[hE0];rfl,λe=>absurd hE0 e,λ_=>⟨b10,⟨c,⟨pva,pvm,pve,pa⟩,vq,qs,⟨sva,svm,sve,sa⟩,vt,ts,vs,vx,vk,qx,ks,bm,mm⟩,rfl,rfl,⟨hck,hsy,hsy2,hqx,hks,hkn⟩,⟨hB16,by simp,h.ext hs016,aP.1,aS.1,aP.2,aS.2,aC.1,aC.2.1,aC.2.2,by simp,hm16⟩,λL hL=>?_⟩⟩
  have bP:=fP hs16 L (λb hb=>by have:=hL b hb;omega)
  have bS:=fS hs16 L (λb hb=>by have:=hL b hb;omega)
  have bC:=fC hs16 L (λb hb=>by have:=hL b hb;omega)
  exact ⟨bS.1,λhcL=>⟨hB16,λhm=>by have:=hL _ hm;omega,hcL.ext hs016,bP.1,bS.1,bP.2,bS.2,bC.1,bC.2.1,bC.2.2,λhm=>by have h9:bm<w.heap.size:=hL bm hm;omega,hm16⟩⟩
 have hlt:k<qs.length:=by have h63:(k:Int)<(qs.length:Int):=h62;omega
 have hQ16:=(fP hs16 [] (by simp)).2
 have hmem:=List.getElem_mem hlt
 have htk:(qs.take (k+1)).map (·.2)=(qs.take k).map (·.2)++[(qs[k]'hlt).2]:=by rw[List.take_succ_eq_append_getElem hlt,List.map_append];rfl
 have hnin:(qs[k]'hlt).2∉(qs.take k).map (·.2):=by
  have h1:((qs.take (k+1)).map (·.2)).Nodup:=by
   rw[List.map_take]
   exact hnd.sublist (List.take_sublist _ _)
  rw[htk] at h1
  intro hm
  exact (List.nodup_append.1 h1).2.2 _ hm _ (List.mem_singleton.2 rfl) rfl
 have htl:((qs.take k).map (·.2)).length=k:=by rw[List.length_map,List.length_take];omega
 refine Qi<|Qf<|Qg<|Qc<|Qb<|xig (g:=Z7) Kd hQ16.arr rfl rfl hlt λa64 h64=>?_
 refine Zd (qs[k]'hlt) λq hq=>?_
 rw[hq] at h64 hmem htk hnin
 have hqI:=hQ16.each q hmem
 have hVq:=hVs q.2 (List.mem_map_of_mem hmem)
 have hbd:=hVq.bd (m:=4096) (λa ha=>(Yh hok.co a ha).st1)
 have hql2:q.2.length=c.co.length:=by rw[hVq.1,hal]
 refine x (Qv h64 rfl)<|x Qh<|Qe<|QS (Step [] w16) [(0,true),(1,true),(2,true),(3,true),(4,true),(6,true),(5,false),(7,false)] mixed (by rfl) (by kernel_rfl) (Step.drew _ _) ?_
 refine p (λ_=>Qo)<|p (λ_=>QI rfl)<|p (λ_=>Qa rfl)<|pq (λ_ hc=>Qd (hB16.step hc (by simp)) rfl rfl) <|
  p (λ_=>Qo)<|p (λ_=>Qo)<|pk<|xf<|(yg (hqI.ext (Step.drew _ _)) ((hkb.ext hs016).ext (Step.drew _ _)) hbd (by omega)).mono ?_
 rintro r17 w17 ⟨rfl,hs17⟩
 have hs1617:=(Step.drew [] w16).trans hs17
 refine ⟨hs1617,?_⟩
 refine pkl (hl:=by kernel_rfl)<|Xi (k:=Js q.2) (hm16.ext hs1617) rfl rfl λw18 hs18 hm18=>pe ?_
 have hz16:=hs16.size
 have hs1218:Step [b10] w12 w18:=(hs16.trans hs1617).then1 hs18 (by omega)
 have hB18:=(hB16.ext hs1617).step hs18 (by simp;omega)
 have hkn2:=hkn.add hnin (λx hx=>(hbd x hx).1)
 rw[htl] at hkn2
 refine Qw<|QO rfl rfl<|Qb<|xe ?_
 exact ⟨(k+1,mput mm (Js q.2) (.int .i64 (k:Int))),by simp only[];omega,⟨rfl,trivial⟩,hlt,hs1218,hB18,hm18,by simp only[];rw[htk];exact hkn2⟩
def Vg (lo hi:Nat) (ds:LN) (W:World):Prop:=ds.Nodup∧∀D∈ds,lo≤D∧D<hi∧W.heap[D]?=some (.deferred (some []))
theorem Vg.step {lo hi:Nat}{ds:LN}{W W':World}{X:LN}(h:Vg lo hi ds W) (hs:Step X W W') (hX:∀b∈X,∃o:Obj,W.heap[b]?=some o∧o.isCells=true):Vg lo hi ds W':=by
 refine ⟨h.1,λD hD=>⟨(h.2 D hD).1,(h.2 D hD).2.1,?_⟩⟩
 have h3:=(h.2 D hD).2.2
 refine (hs.block D (Array.getElem?_eq_some_iff.1 h3).1 (λhx=>?_)).trans h3
 obtain ⟨o,h4,h5⟩:=hX D hx
 rw[h3] at h4;cases h4;cases h5
theorem Vg.ext {lo hi:Nat}{ds:LN}{W W':World}(h:Vg lo hi ds W) (hs:Step [] W W'):Vg lo hi ds W':=h.step hs (λ_ hb=>by cases hb)
theorem Vg.blk {lo hi:Nat}{ds:LN}{W W':World}{b T:Nat}{cs:LV}(h:Vg lo hi ds W) (hs:Step [b] W W') (hb:Q2 W.heap b T cs):Vg lo hi ds W' :=
 h.step hs (λc hc=>by
  have e:c=b:=by simpa using hc
  subst e;exact hb.cells)
theorem Vg.up {lo hi hi':Nat}{ds:LN}{W:World}(h:Vg lo hi ds W) (hh:hi≤hi'):Vg lo hi' ds W:=⟨h.1,λD hD=>⟨(h.2 D hD).1,by have:=(h.2 D hD).2.1;omega,(h.2 D hD).2.2⟩⟩
theorem Vg.cons {lo hi:Nat}{ds:LN}{W:World}{D:Nat}(h:Vg lo hi ds W) (hl:lo≤hi) (hD:hi≤D) (hd:W.heap[D]?=some (.deferred (some []))):Vg lo W.heap.size (D::ds) W:=by
 have hlt:=(Array.getElem?_eq_some_iff.1 hd).1
 refine ⟨List.nodup_cons.2 ⟨λhm=>by have:=(h.2 D hm).2.1;omega,h.1⟩,λE hE=>?_⟩
 rcases List.mem_cons.1 hE with rfl | hE
 ·exact ⟨by omega,hlt,hd⟩
 ·have:=h.2 E hE
  exact ⟨this.1,(Array.getElem?_eq_some_iff.1 this.2.2).1,this.2.2⟩
theorem Vg.stb {lo hi B:Nat}{ds:LN}(hh:hi≤B):ZW B (λW=>Vg lo hi ds W):=λW W' X h hs hX=>by
 refine ⟨h.1,λD hD=>⟨(h.2 D hD).1,(h.2 D hD).2.1,?_⟩⟩
 have h3:=(h.2 D hD).2.2
 refine (hs.block D (Array.getElem?_eq_some_iff.1 h3).1 (λhx=>?_)).trans h3
 have:=(hX D hx).1
 have:=(h.2 D hD).2.1
 omega
end Go.Proofs.YtdffckgdcegpaaaGreatDoor
namespace Go.Lg
theorem V9 {W W':World}{base e sz n:Nat}{v:Value}{cs:LV}(h:W.ownsRow base e sz v n cs) (hc:Y3 [] W W'):W'.ownsRow base e sz v n cs :=
 ⟨h.1,h.2.imp id λ⟨g,cap,cur,h1,h2,h3,h4⟩=>⟨g,cap,cur,h1,h2,hc g _ (by simp) h3 rfl,h4⟩⟩
theorem Y3.mono {L L':LN}{W W':World}(h:Y3 L W W') (hL:∀b∈L,b∈L'):Y3 L' W W':=λk o hn=>h k o (λhm=>hn (hL k hm))
theorem Y3.nonc {X:LN}{W W':World}(hs:Step X W W') (hX:∀r∈X,∃o:Obj,W.heap[r]?=some o∧o.isCells=false):Y3 [] W W':=λk o _ hk hc =>
 (hs.block k (Array.getElem?_eq_some_iff.1 hk).1 (λhx=>by
  obtain ⟨o',h1,h2⟩:=hX k hx
  rw[hk] at h1;cases h1;rw[hc] at h2;cases h2)).trans hk
theorem ZW.cst {B:Nat}{I:World→Prop}(h:∀W W',I W→Y3 [] W W'→W.heap.size≤W'.heap.size→I W'):ZW B I:=λW W' _ hi hs hX=>h W W' hi (Y3.nonc hs (λr hr=>(hX r hr).2)) hs.size
end Go.Lg
namespace Go.Proofs.YtdffckgdcegpaaaGreatDoor
open Go.Lg
theorem ZH.cst {base:Nat}{av:LN}{W W':World}{v:Value}{n sz:Nat}{cs:LV}(h:ZH base av W.heap v n sz cs) (hc:Lg.Y3 [] W W') (hz:W.heap.size≤W'.heap.size):ZH base av W'.heap v n sz cs:=λL hL=>(h L hL).cst (hc.mono (by simp)) hz
abbrev Zz (r:Rsn):LV:=[.int .i64 r.st,.int .i64 r.kd,.int .i64 r.ix,.int .i64 r.ev]
theorem QdV (r:Rsn):(Zz r).length=4:=rfl
structure X9 (base:Nat) (w:World) (v1 v2 v3 v4:Value) (cos rqs:List TV) (pls:LI) (fbs:List Rsn):Prop where
 o1:w.ownsRow base 37 1 v1 cos.length (cos.flatMap Z7)
 o2:w.ownsRow base 37 1 v2 rqs.length (rqs.flatMap Z7)
 o3:Qu 3 base w v3 pls
 o4:w.ownsRow base 83 4 v4 fbs.length (fbs.flatMap Zz)
 d12:Dj v1 v2
 d13:Dj v1 v3
 d14:Dj v1 v4
 d23:Dj v2 v3
 d24:Dj v2 v4
 d34:Dj v3 v4
 e1:∀p∈cos,ZH base (ob v1++(ob v2++(ob v3++ob v4))) w.heap p.1 p.2.length 1 (p.2.map (.int .i64))
 e2:∀p∈rqs,ZH base (ob v1++(ob v2++(ob v3++ob v4))) w.heap p.1 p.2.length 1 (p.2.map (.int .i64))
theorem VA {v:Value}:Dj (nS) v:=λb hb=>by simp[ob] at hb
theorem X9.nil (base:Nat) (w:World):X9 base w (nS) (nS) (nS) (nS) [] [] [] [] :=
 ⟨QP _ _ _ _,QP _ _ _ _,QP _ _ _ _,QP _ _ _ _,VA,VA,VA,VA,VA,VA,λp hp=>(by cases hp),λp hp=>(by cases hp)⟩
variable {base:Nat} {w w7 w8:World} {v1 v2 v3 v4 v':Value} {cos rqs:List TV} {pls:LI} {fbs:List Rsn}
theorem X9.ext (h:X9 base w v1 v2 v3 v4 cos rqs pls fbs) (hs:Step [] w w7):X9 base w7 v1 v2 v3 v4 cos rqs pls fbs :=
 ⟨Qs h.o1 hs,Qs h.o2 hs,Qs h.o3 hs,Qs h.o4 hs,h.d12,h.d13,h.d14,h.d23,h.d24,h.d34,λp hp=>(h.e1 p hp).ext hs,λp hp=>(h.e2 p hp).ext hs⟩
theorem X9.low {X:LN}(h:X9 base w v1 v2 v3 v4 cos rqs pls fbs) (hs:Step X w w7) (hX:∀b∈X,b<base):X9 base w7 v1 v2 v3 v4 cos rqs pls fbs:=by
 have k:∀{e sz n:Nat} {v:Value} {cs:LV},w.ownsRow base e sz v n cs→w7.ownsRow base e sz v n cs:=λo=>Qj o hs (λb hb hm=>by have:=(Qk o b hb).1;have:=hX b hm;omega)
 exact ⟨k h.o1,k h.o2,k h.o3,k h.o4,h.d12,h.d13,h.d14,h.d23,h.d24,h.d34,λp hp=>(h.e1 p hp).low hs hX,λp hp=>(h.e2 p hp).low hs hX⟩
theorem X9.cst (h:X9 base w v1 v2 v3 v4 cos rqs pls fbs) (hc:Lg.Y3 [] w w7) (hz:w.heap.size≤w7.heap.size):X9 base w7 v1 v2 v3 v4 cos rqs pls fbs :=
 ⟨V9 h.o1 hc,V9 h.o2 hc,V9 h.o3 hc,V9 h.o4 hc,h.d12,h.d13,h.d14,h.d23,h.d24,h.d34,λp hp=>(h.e1 p hp).cst hc hz,λp hp=>(h.e2 p hp).cst hc hz⟩
theorem VB {a b a':Value}{n:Nat}(h:Dj a b) (hn:∀x∈ob a',x∈ob a∨n≤x) (hb:∀x∈ob b,x<n):Dj a' b:=λx hx hm=>by
 rcases hn x hx with h1 | h1
 ·exact h x h1 hm
 ·have:=hb x hm;omega
theorem J0 {a b b':Value}{n:Nat}(h:Dj a b) (hn:∀x∈ob b',x∈ob b∨n≤x) (ha:∀x∈ob a,x<n):Dj a b':=λx hx hm=>by
 rcases hn x hm with h1 | h1
 ·exact h x hx h1
 ·have:=ha x hx;omega
theorem X9.lt (h:X9 base w v1 v2 v3 v4 cos rqs pls fbs):(∀x∈ob v1,x<w.heap.size)∧(∀x∈ob v2,x<w.heap.size)∧(∀x∈ob v3,x<w.heap.size)∧∀x∈ob v4,x<w.heap.size:=⟨QR h.o1,QR h.o2,QR h.o3,QR h.o4⟩
theorem yY {a b c d:LN}{x:Nat}(h:x∈a++(b++(c++d))):x∈a∨x∈b∨x∈c∨x∈d:=by simpa using h
theorem UI {a b c d:LN}{x:Nat}(h:x∈a∨x∈b∨x∈c∨x∈d):x∈a++(b++(c++d)):=by simpa using h
theorem X9.a1 {N e:Nat}{q:TV}(h:X9 base w v1 v2 v3 v4 cos rqs pls fbs) (hs:Step [] w w7) (hq:w7.ownsRow N e 1 q.1 q.2.length (q.2.map (.int .i64))) (hql:q.2.length≤1099511627776) (hN:w.heap.size≤N) (hb:base≤w.heap.size) (ho:w8.ownsRow base 37 1 v' (cos.length+1) (cos.flatMap Z7++Z7 q))
  (hs8:Step (ob v1) w7 w8) (hn:∀b∈ob v',b∈ob v1∨w7.heap.size≤b):X9 base w8 v' v2 v3 v4 (cos++[q]) rqs pls fbs:=by
 have l:=h.lt
 have hz:=hs.size
 have h7:=h.ext hs
 have av:∀b∈ob v'++(ob v2++(ob v3++ob v4)),b∈ob v1++(ob v2++(ob v3++ob v4))∨w7.heap.size≤b:=by
  intro b hb
  rcases yY hb with h1 | h1 | h1 | h1
  ·rcases hn b h1 with h2 | h2
   ·exact .inl (UI (.inl h2))
   ·exact .inr h2
  ·exact .inl (UI (.inr (.inl h1)))
  ·exact .inl (UI (.inr (.inr (.inl h1))))
  ·exact .inl (UI (.inr (.inr (.inr h1))))
 have st:Step (ob v1++(ob v2++(ob v3++ob v4))) w7 w8:=hs8.mono (λb hb=>UI (.inl hb))
 have g:∀{v:Value} {n sz:Nat} {cs:LV},ZH base (ob v1++(ob v2++(ob v3++ob v4))) w7.heap v n sz cs→ZH base (ob v'++(ob v2++(ob v3++ob v4))) w8.heap v n sz cs:=λa=>a.app st av
 refine ⟨by rw[List.length_append,List.flatMap_append];simpa using ho,Qj h7.o2 hs8 (λb hb hm=>h.d12 b hm hb),Qj h7.o3 hs8 (λb hb hm=>h.d13 b hm hb),Qj h7.o4 hs8 (λb hb hm=>h.d14 b hm hb),VB h.d12 hn (λx hx=>by have:=l.2.1 x hx;omega),VB h.d13 hn (λx hx=>by have:=l.2.2.1 x hx;omega),VB h.d14 hn (λx hx=>by have:=l.2.2.2 x hx;omega),h.d23,h.d24,h.d34,?_,?_⟩
 ·exact λp hp=>by
   rcases List.mem_append.1 hp with hp | hp
   ·exact g (h7.e1 p hp)
   ·simp only[List.mem_singleton] at hp;subst hp
    exact g (ZH.of_own hq hql (by omega) (λb hb=>by
    rcases yY hb with h1 | h1 | h1 | h1
    ·have:=l.1 b h1;omega
    ·have:=l.2.1 b h1;omega
    ·have:=l.2.2.1 b h1;omega
    ·have:=l.2.2.2 b h1;omega))
 ·exact λp hp=>g (h7.e2 p hp)
theorem X9.a2 {N e:Nat}{q:TV}(h:X9 base w v1 v2 v3 v4 cos rqs pls fbs) (hs:Step [] w w7) (hq:w7.ownsRow N e 1 q.1 q.2.length (q.2.map (.int .i64))) (hql:q.2.length≤1099511627776) (hN:w.heap.size≤N) (hb:base≤w.heap.size) (ho:w8.ownsRow base 37 1 v' (rqs.length+1) (rqs.flatMap Z7++Z7 q))
  (hs8:Step (ob v2) w7 w8) (hn:∀b∈ob v',b∈ob v2∨w7.heap.size≤b):X9 base w8 v1 v' v3 v4 cos (rqs++[q]) pls fbs:=by
 have l:=h.lt
 have hz:=hs.size
 have h7:=h.ext hs
 have av:∀b∈ob v1++(ob v'++(ob v3++ob v4)),b∈ob v1++(ob v2++(ob v3++ob v4))∨w7.heap.size≤b:=by
  intro b hb
  rcases yY hb with h1 | h1 | h1 | h1
  ·exact .inl (UI (.inl h1))
  ·rcases hn b h1 with h2 | h2
   ·exact .inl (UI (.inr (.inl h2)))
   ·exact .inr h2
  ·exact .inl (UI (.inr (.inr (.inl h1))))
  ·exact .inl (UI (.inr (.inr (.inr h1))))
 have st:Step (ob v1++(ob v2++(ob v3++ob v4))) w7 w8:=hs8.mono (λb hb=>UI (.inr (.inl hb)))
 have g:∀{v:Value} {n sz:Nat} {cs:LV},ZH base (ob v1++(ob v2++(ob v3++ob v4))) w7.heap v n sz cs→ZH base (ob v1++(ob v'++(ob v3++ob v4))) w8.heap v n sz cs:=λa=>a.app st av
 refine ⟨Qj h7.o1 hs8 (λb hb hm=>h.d12 b hb hm),by rw[List.length_append,List.flatMap_append];simpa using ho,Qj h7.o3 hs8 (λb hb hm=>h.d23 b hm hb),Qj h7.o4 hs8 (λb hb hm=>h.d24 b hm hb),J0 h.d12 hn (λx hx=>by have:=l.1 x hx;omega),h.d13,h.d14,VB h.d23 hn (λx hx=>by have:=l.2.2.1 x hx;omega),VB h.d24 hn (λx hx=>by have:=l.2.2.2 x hx;omega),h.d34,?_,?_⟩
 ·exact λp hp=>g (h7.e1 p hp)
 ·exact λp hp=>by
   rcases List.mem_append.1 hp with hp | hp
   ·exact g (h7.e2 p hp)
   ·simp only[List.mem_singleton] at hp;subst hp
    exact g (ZH.of_own hq hql (by omega) (λb hb=>by
    rcases yY hb with h1 | h1 | h1 | h1
    ·have:=l.1 b h1;omega
    ·have:=l.2.1 b h1;omega
    ·have:=l.2.2.1 b h1;omega
    ·have:=l.2.2.2 b h1;omega))
theorem X9.a3 {q:Int}(h:X9 base w v1 v2 v3 v4 cos rqs pls fbs) (hs:Step [] w w7) (ho:w8.ownsRow base 3 1 v' (pls.length+1) (pls.map (.int .i64)++[.int .i64 q]))
  (hs8:Step (ob v3) w7 w8) (hn:∀b∈ob v',b∈ob v3∨w7.heap.size≤b):X9 base w8 v1 v2 v' v4 cos rqs (pls++[q]) fbs:=by
 have l:=h.lt
 have hz:=hs.size
 have h7:=h.ext hs
 have av:∀b∈ob v1++(ob v2++(ob v'++ob v4)),b∈ob v1++(ob v2++(ob v3++ob v4))∨w7.heap.size≤b:=by
  intro b hb
  rcases yY hb with h1 | h1 | h1 | h1
  ·exact .inl (UI (.inl h1))
  ·exact .inl (UI (.inr (.inl h1)))
  ·rcases hn b h1 with h2 | h2
   ·exact .inl (UI (.inr (.inr (.inl h2))))
   ·exact .inr h2
  ·exact .inl (UI (.inr (.inr (.inr h1))))
 have st:Step (ob v1++(ob v2++(ob v3++ob v4))) w7 w8:=hs8.mono (λb hb=>UI (.inr (.inr (.inl hb))))
 have g:∀{v:Value} {n sz:Nat} {cs:LV},ZH base (ob v1++(ob v2++(ob v3++ob v4))) w7.heap v n sz cs→ZH base (ob v1++(ob v2++(ob v'++ob v4))) w8.heap v n sz cs:=λa=>a.app st av
 refine ⟨Qj h7.o1 hs8 (λb hb hm=>h.d13 b hb hm),Qj h7.o2 hs8 (λb hb hm=>h.d23 b hb hm),Qu.snoc ho,Qj h7.o4 hs8 (λb hb hm=>h.d34 b hm hb),h.d12,J0 h.d13 hn (λx hx=>by have:=l.1 x hx;omega),h.d14,J0 h.d23 hn (λx hx=>by have:=l.2.1 x hx;omega),h.d24,VB h.d34 hn (λx hx=>by have:=l.2.2.2 x hx;omega),?_,?_⟩
 ·exact λp hp=>g (h7.e1 p hp)
 ·exact λp hp=>g (h7.e2 p hp)
theorem X9.a4 {q:Rsn}(h:X9 base w v1 v2 v3 v4 cos rqs pls fbs) (hs:Step [] w w7) (ho:w8.ownsRow base 83 4 v' (fbs.length+1) (fbs.flatMap Zz++Zz q))
  (hs8:Step (ob v4) w7 w8) (hn:∀b∈ob v',b∈ob v4∨w7.heap.size≤b):X9 base w8 v1 v2 v3 v' cos rqs pls (fbs++[q]):=by
 have l:=h.lt
 have hz:=hs.size
 have h7:=h.ext hs
 have av:∀b∈ob v1++(ob v2++(ob v3++ob v')),b∈ob v1++(ob v2++(ob v3++ob v4))∨w7.heap.size≤b:=by
  intro b hb
  rcases yY hb with h1 | h1 | h1 | h1
  ·exact .inl (UI (.inl h1))
  ·exact .inl (UI (.inr (.inl h1)))
  ·exact .inl (UI (.inr (.inr (.inl h1))))
  ·rcases hn b h1 with h2 | h2
   ·exact .inl (UI (.inr (.inr (.inr h2))))
   ·exact .inr h2
 have st:Step (ob v1++(ob v2++(ob v3++ob v4))) w7 w8:=hs8.mono (λb hb=>UI (.inr (.inr (.inr hb))))
 have g:∀{v:Value} {n sz:Nat} {cs:LV},ZH base (ob v1++(ob v2++(ob v3++ob v4))) w7.heap v n sz cs→ZH base (ob v1++(ob v2++(ob v3++ob v'))) w8.heap v n sz cs:=λa=>a.app st av
 refine ⟨Qj h7.o1 hs8 (λb hb hm=>h.d14 b hb hm),Qj h7.o2 hs8 (λb hb hm=>h.d24 b hb hm),Qj h7.o3 hs8 (λb hb hm=>h.d34 b hb hm),by rw[List.length_append,List.flatMap_append];simpa using ho,h.d12,h.d13,J0 h.d14 hn (λx hx=>by have:=l.1 x hx;omega),h.d23,J0 h.d24 hn (λx hx=>by have:=l.2.1 x hx;omega),J0 h.d34 hn (λx hx=>by have:=l.2.2.1 x hx;omega),?_,?_⟩
 ·exact λp hp=>g (h7.e1 p hp)
 ·exact λp hp=>g (h7.e2 p hp)
theorem qE (c:Zv) (pl:QV) (ps:List (LI)):∀(l:List (LI)) (i:Nat) (s:Spc),(l.zipIdx i).foldl (Qiz c pl ps) s =
  ⟨s.a,s.co++l.map (·.take c.co.length),s.rq++l.map (·.drop c.co.length),s.pl++l.map (λt=>plx ps (t.take c.co.length)),s.fb++(l.zipIdx i).filterMap (λp=>rsn c pl (plx ps (p.1.take c.co.length)) p.2 p.1)⟩
 | [],i,s=>by simp
 | t::l,i,s=>by
  rw[List.zipIdx_cons,List.foldl_cons,qE c pl ps l (i+1)]
  unfold Qiz
  simp only[List.map_cons,List.append_assoc,List.cons_append,List.nil_append,List.filterMap_cons]
  cases rsn c pl (plx ps (t.take c.co.length)) i t with
  | none=>rfl
  | some r=>simp
theorem Uq {c:Zv}{rs:LI}:∀{l:LI},(∀x∈wrf c.rq rs l,(c.ev.getD x.1.toNat ⟨.empty,false,false,false,0⟩).co=true)→rfd c rs l=none
 | [],_=>rfl
 | v::l,h=>by
  rw[wrf] at h
  rw[rfd]
  by_cases h1:0≤rfr v 0 c.rq rs
  ·rw[if_pos h1] at h
   have h2:=h _ List.mem_cons_self
   simp only[] at h2
   rw[if_neg (λe=>by rw[h2] at e;cases e.2)]
   exact Uq λx hx=>h x (List.mem_cons_of_mem _ hx)
  ·rw[if_neg h1] at h
   rw[if_neg (λe=>h1 e.1)]
   exact Uq h
theorem Up {c:Zv}{rs:LI}{x:Int×Int}{t:List (Int×Int)}:∀{l:LI}{p:List (Int×Int)},wrf c.rq rs l=p++x::t→(∀y∈p,(c.ev.getD y.1.toNat ⟨.empty,false,false,false,0⟩).co=true)→(c.ev.getD x.1.toNat ⟨.empty,false,false,false,0⟩).co=false→rfd c rs l=some (x.2,x.1)
 | [],p,h,_,_=>by simp[wrf] at h
 | v::l,p,h,hp,hx=>by
  rw[wrf] at h
  rw[rfd]
  by_cases h1:0≤rfr v 0 c.rq rs
  ·rw[if_pos h1] at h
   cases p with
   | nil =>
    simp only[List.nil_append,List.cons.injEq] at h
    obtain ⟨h2,_⟩:=h
    subst h2
    rw[if_pos ⟨h1,hx⟩]
   | cons y p =>
    simp only[List.cons_append,List.cons.injEq] at h
    obtain ⟨h2,h3⟩:=h
    have h4:=hp y List.mem_cons_self
    subst h2
    rw[if_neg (λe=>by simp only[] at h4;rw[h4] at e;cases e.2)]
    exact Up h3 (λy hy=>hp y (List.mem_cons_of_mem _ hy)) hx
  ·rw[if_neg h1] at h
   rw[if_neg (λe=>h1 e.1)]
   exact Up h hp hx
theorem Qdo (c:Zv) (t:LI):vio c t=if (KA c.ex c.cs t).2.2=true then some ((KA c.ex c.cs t).1,(KA c.ex c.cs t).2.1) else none:=by
 unfold vio KA
 by_cases h1:0≤fix (Ka t) 0 c.ex
 ·rw[if_pos h1,if_pos h1];rfl
 ·rw[if_neg h1,if_neg h1]
  by_cases h2:0≤fix (Vi t) 0 c.cs
  ·rw[if_pos h2,if_pos h2];rfl
  ·rw[if_neg h2,if_neg h2];rfl
def Qlr (N:Nat) (H:Array Obj) (v:Value) (s:Spc):Prop:=∃va vm ve v1 v2 v3 v4 cos rqs,v=.agg #[va,.int .i64 s.a.st,vm,ve,v1,v2,v3,v4]∧cos.map (·.2)=s.co∧rqs.map (·.2)=s.rq ∧
 ∀L:LN,(∀b∈L,b<N)→Zt L H va vm ve s.a∧Xv L H v1 cos∧Xv L H v2 rqs∧QL L H v3 s.pl∧Zj L H v4 s.fb.length 4 (s.fb.flatMap Zz)
end Go.Proofs.YtdffckgdcegpaaaGreatDoor
namespace Go.Lg
open Go.RowKit
def sl (d:Option Nat) (f:Fr):Value:=match d with | some d=>f d | none=>undef
def ow:Value→LN
 | .slice (some a) _ _=>[a.block]
 | .pointer (some a)=>[a.block]
 | .map (some b)=>[b]
 | _=>[]
section
variable {P:Program} {n:Nat} {f:Fr} {w:World} {all:List Oper} {C:World→Prop} {K:Fr→World→Prop}
theorem KZ {o:Oper}(h:o.guard=none):Yd all f o=true:=by unfold Yd;rw[h]
end
def UL (all:Array Oper) (i:Nat) (rest:List (Nat×Bool)):List (Nat×Bool)→Array Bool→Bool
 | [],ls=>Region.ready .any all ls == [i] && Y1 all rest (ls.setIfInBounds i true)
 | (j,true)::l,ls=>(Region.ready .any all ls).contains j && Region.free .any all ls j && UL all i rest l (ls.setIfInBounds j true)
 | (j,false)::l,ls=>!(Region.ready .any all ls).isEmpty && (Region.ready .any all ls).all (λk=>k == j || k == i) && Y1 all ((j,false)::(l++rest)) (ls.setIfInBounds i true) && UL all i rest l (ls.setIfInBounds j true)
def Z9 (all:List Oper) (d:Nat) (l:List (Nat×Bool)):Bool:=l.all λp=>!((Q6 all p.1).looksAt all.toArray).contains d && !((Q6 all p.1).dst == some d)
def Qfb (all:List Oper) (pre l:List (Nat×Bool)) (i:Nat) (rest:List (Nat×Bool)):Bool :=
 Region.noSelect all.toArray && (pre.length+(l.length+1+rest.length) == all.length) && JT all.toArray pre (Array.replicate all.length false) && UL all.toArray i rest l (ZX pre (Array.replicate all.length false))
  && (Q6 all i).guard.isNone && (match (Q6 all i).dst with | some d=>Z9 all d l | none=>false)
def XF (P:Program) (all:List Oper) (C:World→Prop) (K:Fr→World→Prop):List (Nat×Bool)→LN→Fr→World→Prop
 | [],_,f,w=>K f w
 | (j,true)::l,own,f,w=>Yd all f (Q6 all j)=true∧∃v,(∀w',(qb (Q6 all j)=true→C w')→(execOp (ev f) (Q6 all j)).run P w'=.ok (.value v) w')∧XF P all C K l own (QY f (Q6 all j).dst v) w
 | (j,false)::l,own,f,w=>Yd all f (Q6 all j)=true∧∀w1,Step [] w w1→C w1→XO P (Q6 all j) f w1 λf' w'=>C w'∧∃own',Step own w1 w'∧(∀b∈own',b∈own∨(w1.heap.size≤b∧b<w'.heap.size))∧XF P all C K l own' f' w'
section
variable {P:Program} {n:Nat} {f:Fr} {w:World} {all:List Oper} {C:World→Prop} {K KF:Fr→World→Prop}
theorem XF.ext (hK:∀f w w',KF f w→Step [] w w'→KF f w'):∀{l:List (Nat×Bool)}{own:LN}{f:Fr}{w w':World},XF P all C KF l own f w→Step [] w w'→XF P all C KF l own f w'
 | [],_,_,_,_,h,hs=>hK _ _ _ h hs
 | (_,true)::_,_,_,_,_,h,hs=>by
  obtain ⟨hg,v,hv,hx⟩:=h
  exact ⟨hg,v,hv,XF.ext hK hx hs⟩
 | (_,false)::_,_,_,_,_,h,hs=>⟨h.1,λw1 h1 hc=>h.2 w1 (hs.trans h1) hc⟩
attribute [local semireducible] XO in
theorem Qb6 {o:Oper}(hs:∀cs b,o.op≠.select cs b) {d:Nat}{v:Value}{K':Fr→World→Prop}(h1:d∉o.looksAt all.toArray) (h2:o.dst≠some d) (hK:∀u w',K (QY f o.dst u) w'→K' (QY (QY f o.dst u) (some d) v) w')
  (h:XO P o f w K):XO P o (QY f (some d) v) w K':=by
 have hc:∀u,QY (QY f (some d) v) o.dst u=QY (QY f o.dst u) (some d) v:=λu=>JU f v u (λe he=>by cases he;exact h2)
 unfold XO at *
 rw[YW (all:=all) hs f (some d) v (λe he=>by cases he;exact h1)]
 generalize (execOp (ev f) o).run P w=r at *
 cases r with
 | ok nx w' =>
  cases nx <;> simp only[upF] at h ⊢
  case value u=>rw[hc];exact hK u w' h
  case skip=>rw[hc];exact hK _ w' h
  case enter g args =>
   refine Calls.mono h λe w'' he=>?_
   cases e with
   | returned u=>simp only at he ⊢;rw[hc];exact hK u w'' he
   | panicked c=>exact he.elim
   | outgrown=>exact he.elim
 | halt x w'=>exact h.elim
theorem JG {D:List (Nat×Nat)}{f f0:Fr}{dst:Option Nat}{v:Value}(hd:inD D dst=true) (h:∀t,Xj D t=false→f t=f0 t):∀t,Xj D t=false→QY f dst v t=f0 t:=λt ht =>
 (YL (λe=>by rw[e] at hd;simp only[inD] at hd;rw[hd] at ht;cases ht) v).trans (h t ht)
def Z6 (all:List Oper) (D:List (Nat×Nat)) (l:List (Nat×Bool)):Bool:=l.all λp=>inD D (Q6 all p.1).dst
structure Fl (P:Program) (all:List Oper) (C:World→Prop) (K KF:Fr→World→Prop) (i d:Nat) (rest:List (Nat×Bool)) (Φ:Value→World→Prop) (Dc:List (Nat×Nat)) (f1:Fr):Prop where
 stab:∀v (own:LN) w w',Φ v w→Step own w w'→(∀b∈ow v,b∉own)→Φ v w'
 spec:∀f w,(∀t,Xj Dc t=false→f t=f1 t)→C w→XO P (Q6 all i) f w λf' w'=>Step [] w w'∧C w'∧Φ (f' d) w'∧∀b∈ow (f' d),w.heap.size≤b∧b<w'.heap.size
 fin:∀f w,KF f w→∀v,C w→Φ v w→XP P all C K rest (QY f (some d) v) w
 mono:∀f w w',KF f w→Step [] w w'→KF f w'
attribute [local semireducible] XP in
theorem UZ {i d:Nat}{rest:List (Nat×Bool)}{Φ:Value→World→Prop}{Dc:List (Nat×Nat)}{f1:Fr}(hF:Fl P all C K KF i d rest Φ Dc f1) (hs:Region.noSelect all.toArray=true) {v:Value}:∀(l:List (Nat×Bool)) (own:LN) (f:Fr) (w:World),Z9 all d l=true→XF P all C KF l own f w→C w→Φ v w →
  (∀b∈ow v,b∉own∧b<w.heap.size)→XP P all C K (l++rest) (QY f (some d) v) w
 | [],own,f,w,_,h,hC,hv,_=>hF.fin f w h v hC hv
 | (j,q)::l,own,f,w,hfr,h,hC,hv,hb=>by
  simp only[Z9,List.all_cons,Bool.and_eq_true,Bool.not_eq_true',List.contains_eq_mem,decide_eq_false_iff_not,beq_eq_false_iff_ne,ne_eq] at hfr
  obtain ⟨⟨h1,h2⟩,hfr⟩:=hfr
  have hfr':Z9 all d l=true:=by simpa[Z9] using hfr
  have hsel:∀cs b,(Q6 all j).op≠.select cs b:=by
   intro cs b
   cases ho:all[j]? with
   | none =>
    have:Q6 all j=default:=by
     clear h h1 h2 hfr hfr'
     have key:∀(l:List Oper) (j:Nat),l[j]?=none→Q6 l j=default:=by
      intro l
      induction l with
      | nil=>intro j _;rfl
      | cons a l ih=>intro j hj;cases j with | zero=>simp at hj | succ j=>exact ih j (by simpa using hj)
     exact key all j ho
    rw[this]
    intro e;cases e
   | some o=>rw[Zq ho];exact Region.noSelect_spec hs j o cs b (by simpa using ho)
  have hd:∀e,some d=some e→e∉(Q6 all j).looksAt all.toArray:=λe he=>by cases he;exact h1
  cases q with
  | true =>
   obtain ⟨hg,u,hu,hx⟩:=h
   simp only[List.cons_append,XP]
   rw[X4 (Q6 all j) f (some d) v hd,hg,cond_true,cond_true]
   refine ⟨u,λw' hc=>?_,?_⟩
   ·rw[YW (all:=all) hsel f (some d) v hd];exact hu w' hc
   ·rw[JU f v u (λe he=>by cases he;exact h2)]
    exact UZ hF hs l own _ w hfr' hx hC hv hb
  | false =>
   simp only[List.cons_append,XP]
   rw[X4 (Q6 all j) f (some d) v hd,h.1,cond_true,cond_false]
   refine Qb6 (all:=all) hsel h1 h2 (λu w' hx=>?_) (h.2 w (Step.refl _ _) hC)
   obtain ⟨hC',own',hst,how,hx⟩:=hx
   refine ⟨.inr (.inr hC'),UZ hF hs l own' _ w' hfr' hx hC' (hF.stab v own w w' hv hst (λb hbb=>(hb b hbb).1)) (λb hbb=>⟨λhm=>?_,Nat.lt_of_lt_of_le (hb b hbb).2 hst.size⟩)⟩
   rcases how b hm with h3 | h3
   ·exact (hb b hbb).1 h3
   ·exact Nat.lt_irrefl _ (Nat.lt_of_lt_of_le (hb b hbb).2 h3.1)
theorem QfX {i d:Nat}{rest:List (Nat×Bool)}{Φ:Value→World→Prop}{Dc:List (Nat×Nat)}{f1:Fr}(hF:Fl P all C K KF i d rest Φ Dc f1) (hs:Region.noSelect all.toArray=true) (hg:(Q6 all i).guard=none) (hd:(Q6 all i).dst=some d):∀(l:List (Nat×Bool)) (ls:Array Bool) (own:LN) (f:Fr) (w:World),ls.size=all.length→Z9 all d l=true→Z6 all Dc l=true→(∀t,Xj Dc t=false→f t=f1 t) →
  XF P all C KF l own f w→C w→(∀b∈own,b<w.heap.size)→UL all.toArray i rest l ls=true→XA P all C K (l.length+1+rest.length) ls f w
 | [],ls,own,f,w,hsz,hfr,hin,hk1,h,hC,hown,hp=>by
  simp only[UL,Bool.and_eq_true,beq_iff_eq] at hp
  obtain ⟨hr,hp⟩:=hp
  rw[show ([]:List (Nat×Bool)).length+1+rest.length=rest.length+1 by simp;omega]
  refine Jl (λh0=>(by rw[h0] at hr;cases hr)) ?_
  rw[hr]
  intro k hk o ho
  have hki:k=i:=by simpa using hk
  subst hki
  have hoi:=Zq ho
  have hx:=hF.spec f w hk1 hC
  rw[hoi] at hg hd hx
  rw[KZ hg,cond_true]
  refine hx.mono λv w' hx=>?_
  rw[hd] at hx ⊢
  obtain ⟨h1,h2,h3,h4⟩:=hx
  simp only[QY,Yt] at h3 h4
  refine ⟨.inr (.inr h2),ZA hs rest _ _ _ (by simpa using hsz) (.inl h2) hp (hF.fin f w' (hF.mono f w w' h h1) v h2 h3)⟩
 | (j,true)::l,ls,own,f,w,hsz,hfr,hin,hk1,h,hC,hown,hp=>by
  simp only[UL,Bool.and_eq_true] at hp
  obtain ⟨⟨hr,hf⟩,hp'⟩:=hp
  have hri:j∈Region.ready .any all.toArray ls:=by simpa using hr
  have e:(List.length ((j,true)::l))+1+rest.length=(l.length+1+rest.length)+1:=by simp;omega
  rw[e]
  have hfr':Z9 all d l=true:=by simp only[Z9,List.all_cons,Bool.and_eq_true] at hfr;exact hfr.2
  simp only[Z6,List.all_cons,Bool.and_eq_true] at hin
  have hin':Z6 all Dc l=true:=hin.2
  cases ho:all[j]? with
  | none =>
   exfalso
   obtain ⟨_,o,hoo,_⟩:=mem_ready.1 hri
   simp[ho] at hoo
  | some o =>
   obtain ⟨hgj,v,hv,hx⟩:=h
   rw[Zq ho] at hgj hv hx
   have hsel:∀(j:Nat) (o:Oper) cs b,all[j]?=some o→o.op≠.select cs b:=λj o cs b hj=>Region.noSelect_spec hs j o cs b (by simpa using hj)
   have hfree:=λk ok hk=>Region.free_spec (ops:=all.toArray) (md:=.any) (i:=j) (oi:=o) (listed:=ls) (by simpa using ho) hf k ok (by simpa using hk)
   exact YX (v:=v) (D:=λw=>qb o=true→C w) ho (λ_ h=>h) hsel _ ls f w (λ_=>hC) hfree hri (.inl ⟨hgj,hv⟩) (QfX hF hs hg hd l _ own _ w (by simpa using hsz) hfr' hin' (by have:=JG (v:=v) hin.1 hk1;rw[Zq ho] at this;exact this) hx hC hown hp')
 | (j,false)::l,ls,own,f,w,hsz,hfr,hin,hk1,h,hC,hown,hp=>by
  simp only[UL,Bool.and_eq_true,List.all_eq_true,Bool.or_eq_true,beq_iff_eq,Bool.not_eq_true'] at hp
  obtain ⟨⟨⟨hne,hr⟩,hpl⟩,hp'⟩:=hp
  have e:(List.length ((j,false)::l))+1+rest.length=(l.length+1+rest.length)+1:=by simp;omega
  rw[e]
  have hfr':Z9 all d l=true:=by simp only[Z9,List.all_cons,Bool.and_eq_true] at hfr;exact hfr.2
  simp only[Z6,List.all_cons,Bool.and_eq_true] at hin
  have hin':Z6 all Dc l=true:=hin.2
  refine Jl (λh0=>(by rw[h0] at hne;cases hne)) ?_
  intro k hk o ho
  have hoi:=Zq ho
  have hsz':(ls.setIfInBounds k true).size=all.length:=by simpa using hsz
  by_cases hki:k=i
  ·subst hki
   have hx:=hF.spec f w hk1 hC
   rw[hoi] at hg hd hx
   rw[KZ hg,cond_true]
   refine hx.mono λv w' hx=>?_
   rw[hd] at hx ⊢
   obtain ⟨h1,h2,h3,h4⟩:=hx
   simp only[QY,Yt] at h3 h4
   refine ⟨.inr (.inr h2),?_⟩
   have hx:=UZ hF hs ((j,false)::l) own f w' hfr (XF.ext hF.mono h h1) h2 h3 (λb hb=>⟨λhm=>Nat.lt_irrefl _ (Nat.lt_of_lt_of_le (hown b hm) (h4 b hb).1),(h4 b hb).2⟩)
   have:=ZA hs ((j,false)::(l++rest)) _ _ _ hsz' (.inl h2) hpl hx
   rw[show ((j,false)::(l++rest)).length=l.length+1+rest.length by simp;omega] at this
   exact this
  ·have hkj:k=j:=(hr k hk).resolve_right hki
   subst hkj
   have h1:=h.1
   have h2:=h.2 w (Step.refl _ _) hC
   rw[hoi] at h1 h2
   rw[h1,cond_true]
   refine h2.mono λv w' hx=>?_
   obtain ⟨hC',own',hst,how,hx⟩:=hx
   refine ⟨.inr (.inr hC'),QfX hF hs hg hd l _ own' _ w' hsz' hfr' hin' (by have:=JG (v:=v) hin.1 hk1;rw[hoi] at this;exact this) hx hC' (λb hb=>?_) hp'⟩
   rcases how b hb with h3 | h3
   ·exact Nat.lt_of_lt_of_le (hown b h3) hst.size
   ·exact h3.2
theorem Qh5 {ro:Option Nat}{m:Nat}{ds:LN}{Q:Exit→LN→Fr→World→Prop}{id:Nat}(C:World→Prop) (pre l:List (Nat×Bool)) (i d:Nat) (rest:List (Nat×Bool)) (own:LN) (KF:Fr→World→Prop) (Φ:Value→World→Prop) (Dc:List (Nat×Nat)) (hm:P.follows .mixedOrders=true) (hn:XJ n all=true) (hnd:yQ all=true)
  (hp:Qfb all pre l i rest=true) (hin:Z6 all Dc l=true) (hd:(Q6 all i).dst=some d) (hC:C { w with drawn:=w.drawn+1 }) (hown:∀b∈own,b<w.heap.size)
  (h:XP P all C (λf1 _=>Fl P all C (λf w=>Q .normal ds f w) KF i d rest Φ Dc f1∧XF P all C KF l own f1 { w with drawn:=w.drawn+1 }) pre f { w with drawn:=w.drawn+1 }):WG ro m P n (.region id all.toArray true) Q ds f w:=by
 unfold WG
 intro a ha
 simp only[Qfb,Bool.and_eq_true,beq_iff_eq,Option.isNone_iff_eq_none] at hp
 obtain ⟨⟨⟨⟨⟨hs,hl⟩,hq⟩,hgo⟩,hg⟩,hfr⟩:=hp
 rw[hd] at hfr
 refine wpIn_region_any hm ?_
 have h1:=YD (K:=λf w=>Q .normal ds f w) (m:=l.length+1+rest.length) hs pre (Array.replicate all.length false) f _ hC hq
  (λf1 hB=>QfX hB.1 hs hg hd l (ZX pre (Array.replicate all.length false)) own f1 _ (by rw[YF];simp) hfr hin (λ_ _=>rfl) hB.2 hC hown hgo) h
 rw[hl] at h1
 have h2:=Uf (ro:=ro) (m:=m) (n:=n) (ds:=ds) (Q:=λe a' w'=>∃ds' f',Yp n ds' a' f'∧(∀t,ZF all t=false→f' t=f t)∧Q e ds' f' w') (Yz hn) (Kh hnd) f
  (λa f' w hr hk hq=>⟨ds,f',hr,hk,hq⟩) _ _ a f _ ha (λ_ _=>rfl) h1
 simpa[Y0] using h2
theorem XP.keeps_mono {K':Fr→World→Prop}:∀(l:List (Nat×Bool)) (f:Fr) (w:World),XP P all C K l f w→(∀f w,K f w→K' f w)→XP P all C K' l f w
 | [],f,w,h,hk=>by simp only[XP] at h ⊢;exact hk _ _ h
 | (j,q)::l,f,w,h,hk=>by
  simp only[XP] at h ⊢
  cases hg:Yd all f (Q6 all j) with
  | false=>rw[hg] at h;exact XP.keeps_mono l _ _ h hk
  | true =>
   rw[hg] at h
   cases q with
   | true=>obtain ⟨v,hv,hx⟩:=h;exact ⟨v,hv,XP.keeps_mono l _ _ hx hk⟩
   | false=>exact XO.mono (λv w' hx=>⟨hx.1,XP.keeps_mono l _ _ hx.2 hk⟩) h
theorem XP.keeps {D:List (Nat×Nat)}{f0:Fr}:∀(l:List (Nat×Bool)) (f:Fr) (w:World),Z6 all D l=true→(∀t,Xj D t=false→f t=f0 t)→XP P all C K l f w→XP P all C (λf' w'=>(∀t,Xj D t=false→f' t=f0 t)∧K f' w') l f w
 | [],f,w,_,hf,h=>by simp only[XP] at h ⊢;exact ⟨hf,h⟩
 | (j,q)::l,f,w,hd,hf,h=>by
  simp only[Z6,List.all_cons,Bool.and_eq_true] at hd
  have hd':Z6 all D l=true:=hd.2
  simp only[XP] at h ⊢
  cases hg:Yd all f (Q6 all j) with
  | false=>rw[hg] at h;exact XP.keeps l _ _ hd' (JG hd.1 hf) h
  | true =>
   rw[hg] at h
   cases q with
   | true=>obtain ⟨v,hv,hx⟩:=h;exact ⟨v,hv,XP.keeps l _ _ hd' (JG hd.1 hf) hx⟩
   | false=>exact XO.mono (λv w' hx=>⟨hx.1,XP.keeps l _ _ hd' (JG hd.1 hf) hx.2⟩) h
theorem XF.keeps {D:List (Nat×Nat)}{f0:Fr}:∀(l:List (Nat×Bool)) (own:LN) (f:Fr) (w:World),Z6 all D l=true→(∀t,Xj D t=false→f t=f0 t)→XF P all C K l own f w→XF P all C (λf' w'=>(∀t,Xj D t=false→f' t=f0 t)∧K f' w') l own f w
 | [],own,f,w,_,hf,h=>⟨hf,h⟩
 | (j,true)::l,own,f,w,hd,hf,h=>by
  simp only[Z6,List.all_cons,Bool.and_eq_true] at hd
  obtain ⟨hg,v,hv,hx⟩:=h
  exact ⟨hg,v,hv,XF.keeps l own _ _ hd.2 (JG hd.1 hf) hx⟩
 | (j,false)::l,own,f,w,hd,hf,h=>by
  simp only[Z6,List.all_cons,Bool.and_eq_true] at hd
  refine ⟨h.1,λw1 h1 hc=>XO.mono (λv w' hx=>?_) (h.2 w1 h1 hc)⟩
  obtain ⟨hC',own',hst,how,hx⟩:=hx
  exact ⟨hC',own',hst,how,XF.keeps l own' _ _ hd.2 (JG hd.1 hf) hx⟩
theorem Qgb {ro:Option Nat}{m:Nat}{ds:LN}{Q:Exit→LN→Fr→World→Prop}{id:Nat}{α:Type}(C:World→Prop) (pre l:List (Nat×Bool)) (i d:Nat) (rest:List (Nat×Bool)) (own:LN) (D Dc:List (Nat×Nat)) (S:α→List (Nat×Value)) (I:α→World→Prop) (Φ:Value→World→Prop) (hm:P.follows .mixedOrders=true) (hn:XJ n all=true) (hnd:yQ all=true)
  (hp:Qfb all pre l i rest=true) (hin:(Z6 all D pre && Z6 all D l && Z6 all Dc l)=true) (hd:(Q6 all i).dst=some d) (hC:C { w with drawn:=w.drawn+1 }) (hown:∀b∈own,b<w.heap.size)
  (stab:∀v (own:LN) w w',Φ v w→Step own w w'→(∀b∈ow v,b∉own)→Φ v w') (mono:∀z w w',I z w→Step [] w w'→I z w')
  (fin:∀z g w v,I z w→C w→Φ v w→XP P all C (λf w=>Q .normal ds f w) rest (QY (zk (S z) (mix D f g)) (some d) v) w)
  (h:XP P all C (λf1 _=>(∀g w,C w→XO P (Q6 all i) (mix Dc f1 g) w λf' w'=>Step [] w w'∧C w'∧Φ (f' d) w'∧∀b∈ow (f' d),w.heap.size≤b∧b<w'.heap.size)∧XF P all C (λf' w'=>∃z,Xp f' (S z)∧I z w') l own f1 { w with drawn:=w.drawn+1 }) pre f { w with drawn:=w.drawn+1 }):WG ro m P n (.region id all.toArray true) Q ds f w:=by
 rw[Bool.and_eq_true,Bool.and_eq_true] at hin
 refine Qh5 C pre l i d rest own (λf' w'=>(∀t,Xj D t=false→f' t=f t)∧∃z,Xp f' (S z)∧I z w') Φ Dc hm hn hnd hp hin.2 hd hC hown ?_
 refine XP.keeps_mono _ _ _ (XP.keeps pre f _ hin.1.1 (λ_ _=>rfl) h) (λf1 w1 hx=>⟨⟨stab,?_,?_,?_⟩,XF.keeps l own _ _ hin.1.2 hx.1 hx.2.2⟩)
 ·intro f' w' hk hC'
  have:=hx.2.1 f' w' hC'
  rw[JD hk] at this
  exact this
 ·rintro f' w' ⟨hk,z,hs,hi⟩ v hC' hv
  have:=fin z f' w' v hi hC' hv
  rw[JD hk,YK hs] at this
  exact this
 ·rintro f' w' w'' ⟨hk,z,hs,hi⟩ hst
  exact ⟨hk,z,hs,mono z _ _ hi hst⟩
theorem fp {j:Nat}{l:List (Nat×Bool)}{own:LN}{v:Value}(hr:∀w',(execOp (ev f) (Q6 all j)).run P w'=.ok (.value v) w') (h:XF P all C K l own (QY f (Q6 all j).dst v) w)
  (hg:Yd all f (Q6 all j)=true:=by rfl):XF P all C K ((j,true)::l) own f w:=⟨hg,v,λw' _=>hr w',h⟩
theorem fk {j:Nat}{l:List (Nat×Bool)}{own:LN}(h:∀w1,Step [] w w1→C w1→XO P (Q6 all j) f w1 λf' w'=>C w'∧∃own',Step own w1 w'∧(∀b∈own',b∈own∨(w1.heap.size≤b∧b<w'.heap.size))∧XF P all C K l own' f' w')
  (hg:Yd all f (Q6 all j)=true:=by rfl):XF P all C K ((j,false)::l) own f w:=⟨hg,h⟩
theorem fe {own:LN}(h:K f w):XF P all C K [] own f w:=h
end
attribute [irreducible] XF
end Go.Lg
namespace Go.Proofs.YtdffckgdcegpaaaGreatDoor
open Go.Proofs.Tryz
open Go.Lg
instance:Bw prog 77 [nS,.int .i64 0,nS,nS,nS,nS,nS,nS] [(0,4),(4,1),(5,1),(6,1),(7,1)]:=⟨by kernel_rfl,by decide⟩
def spF (c:Zv) (pl:QV) (ps:List (LI)) (l:List (LI)):List Rsn:=l.zipIdx.filterMap (λp=>rsn c pl (plx ps (p.1.take c.co.length)) p.2 p.1)
theorem QdR {c:Zv}{pl:QV}{ps:List (LI)}{l:List (LI)}{k:Nat}(h:k<l.length):spF c pl ps (l.take (k+1))=spF c pl ps (l.take k)++(rsn c pl (plx ps ((l[k]'h).take c.co.length)) k (l[k]'h)).toList:=by
 unfold spF
 rw[List.take_succ_eq_append_getElem h,List.zipIdx_append,List.filterMap_append]
 have e:0+(l.take k).length=k:=by rw[List.length_take];omega
 rw[e]
 simp only[List.zipIdx_cons,List.zipIdx_nil,List.filterMap_cons,List.filterMap_nil]
 cases rsn c pl (plx ps ((l[k]'h).take c.co.length)) k (l[k]'h) <;> rfl
theorem Qa9 (c:Zv) (pl:QV) (ps:List (LI)) (l:List (LI)):(spF c pl ps l).length≤l.length:=by
 unfold spF
 refine Nat.le_trans (List.length_filterMap_le _ _) ?_
 rw[List.length_zipIdx];exact Nat.le_refl _
theorem j4 {c:Zv}{pl sa:QV}{ps ts:List (LI)}(hp:sync (auts c.co)=some (pl,ps)) (hs:sync (auts c.co++auts c.rq)=some (sa,ts)) :
  spc c=⟨sa,ts.map (·.take c.co.length),ts.map (·.drop c.co.length),ts.map (λt=>plx ps (t.take c.co.length)),spF c pl ps ts⟩:=by
 unfold spc syA syQ
 rw[hp,hs]
 simp only[]
 rw[qE]
 simp[spF]
theorem QfH {n:Nat}{u:LI}{s:List ByteArray}{x:YE}(h:Z0 n u s x=0):x.a.st≠0:=by
 unfold Z0 at h
 split at h
 ·cases h
 ·split at h
  ·cases h
  ·split at h
   ·rename_i h1 h2;exact absurd h h2
   ·split at h
    ·cases h
    ·split at h
     ·cases h
     ·assumption
theorem jA {n:Nat}{al:LI}:∀{l:List YE}{s:List ByteArray}{u:LI},(Z5 n al s u l).1=0→∀x∈l,x.a.st≠0
 | [],_,_,_,x,hx=>by cases hx
 | y::l,s,u,h,x,hx=>by
  rw[Kn] at h
  by_cases h1:Z0 n al s y≠0
  ·rw[if_pos h1] at h;exact absurd h h1
  ·rw[if_neg h1] at h
   have h2:Z0 n al s y=0:=Decidable.not_not.1 h1
   rcases List.mem_cons.1 hx with rfl | hx
   ·exact QfH h2
   ·exact jA h x hx
theorem QfI {c:Zv}(h:Zi c=0):∀x∈c.co,x.a.st≠0:=by
 unfold Zi at h
 by_cases h1:Jg c.ev≠0
 ·rw[if_pos h1] at h;exact absurd h h1
 rw[if_neg h1] at h
 by_cases h2:c.co.length=0
 ·rw[if_pos h2] at h;cases h
 rw[if_neg h2] at h
 by_cases h3:8<c.co.length∨12<c.co.length+c.rq.length
 ·rw[if_pos h3] at h;cases h
 rw[if_neg h3] at h
 by_cases h4:(Z5 c.ev.length (Jw c.ev.length) [] [] c.co).1≠0
 ·rw[if_pos h4] at h;exact absurd h h4
 exact jA (Decidable.not_not.1 h4)
theorem yO {c:Zv}(h:Zi c=0) {A:QV}{Q:List (LI)}(hs:sync (auts c.co)=some (A,Q)):Zs A∧A.st=(Q.length:Int)∧0<Q.length∧∀e∈A.al,0≤e∧e<(c.ev.length:Int):=by
 have hok:=ZV h
 have ho:=Yh hok.co
 have hsp:=Xe ho hs
 refine ⟨hsp.1.okay ho,hsp.1.st,?_,λe he=>?_⟩
 ·refine Nat.pos_of_ne_zero λh0=>?_
  obtain ⟨a,ha,h1⟩:=hsp.2.1 h0
  obtain ⟨x,hx,rfl⟩:=List.mem_map.1 ha
  exact QfI h x hx h1
 ·rw[hsp.1.al] at he
  obtain ⟨a,ha,h1⟩:=(QbM ho e).1 he
  obtain ⟨x,hx,rfl⟩:=List.mem_map.1 ha
  exact ⟨((hok.co x hx).al e h1).1,hok.ce x hx e h1⟩
theorem Qec {Q:List (LI)}(h:0<Q.length) (t:LI):0≤plx Q t∧plx Q t<(Q.length:Int):=by
 unfold plx
 split
 ·rename_i hm;have:=List.idxOf_lt_length_of_mem hm;omega
 ·omega
theorem Vt.take {a b:List QV}{t:LI}(h:Vt (a++b) t):Vt a (t.take a.length):=by
 have hl:=h.1
 rw[List.length_append] at hl
 refine ⟨by rw[List.length_take];omega,λi h1 h2=>?_⟩
 have:=h.2 i (by omega) (by rw[List.length_append];omega)
 rw[List.getElem_append_left h2] at this
 rw[List.getElem_take];exact this
theorem Vt.drop {a b:List QV}{t:LI}(h:Vt (a++b) t):Vt b (t.drop a.length):=by
 have hl:=h.1
 rw[List.length_append] at hl
 refine ⟨by rw[List.length_drop];omega,λi h1 h2=>?_⟩
 have:=h.2 (a.length+i) (by omega) (by rw[List.length_append];omega)
 rw[List.getElem_append_right (by omega)] at this
 rw[List.getElem_drop]
 simpa using this
theorem Vt.tpOk {l:List YE}{t:LI}(h:Vt (auts l) t):Qh1 (szs l) t:=by
 have hl:=h.1
 unfold auts at hl
 rw[List.length_map] at hl
 refine ⟨by unfold szs;rw[List.length_map];exact hl,λi hi=>?_⟩
 have h1:=h.2 i hi (by unfold auts;rw[List.length_map];omega)
 have hi2:i<(szs l).length:=by unfold szs;rw[List.length_map];omega
 rw[←Zl hi,←Zl hi2]
 unfold auts szs at *
 simpa using h1
theorem X9.add {base b6 T:Nat}{W y1 y2 y3:World}{v1 v2 v3 v4 v' c0 c1 c2 c3:Value}{cos rqs:List TV}{pls:LI}{fbs:List Rsn}{q:Rsn}(hB:Q2 W.heap b6 T [c0,c1,c2,c3,v1,v2,v3,v4]) (hS:X9 base W v1 v2 v3 v4 cos rqs pls fbs) (hb6:b6<base) (h1:Step [] W y1)
  (ho:y2.ownsRow base 83 4 v' (fbs.length+1) (fbs.flatMap Zz++Zz q)) (h2:Step (ob v4) y1 y2) (hn:∀b∈ob v',b∈ob v4∨y1.heap.size≤b) (h3:Step [b6] y2 y3) :
  Step (b6::ob v4) W y3∧X9 base y3 v1 v2 v3 v' cos rqs pls (fbs++[q])∧(∀x∈b6::ob v4,∃o:Obj,W.heap[x]?=some o∧o.isCells=true):=by
 refine ⟨((h1.any).trans' (h2.mono λx hx=>List.mem_cons_of_mem _ hx)).trans' (h3.mono λx hx=>?_),(hS.a4 h1 ho h2 hn).low h3 (λx hx=>?_),λx hx=>?_⟩
 ·simp only[List.mem_singleton] at hx;subst hx;exact List.mem_cons_self
 ·simp only[List.mem_singleton] at hx;subst hx;exact hb6
 ·rcases List.mem_cons.1 hx with rfl | hx
  ·exact hB.cells
  ·exact Go.Lg.Q3 hS.o4 x hx
set_option maxHeartbeats 40000000 in
theorem Kt {L:LN}{w:World}{c:CL}(h0:Zu L w.heap c) (hkb:Kb w 4096) :
  QJ prog 27 [c.val] w λr w'=>Step [] w w'∧∃v,r=.tuple #[v,.int .i64 (Yu c.cel)]∧(∃us,v=.agg us.toArray∧us.length=8∧Zw us)∧(Yu c.cel=0→Qlr w.heap.size w'.heap v (spc c.cel)):=by
 have h:=h0.up (L':=[]) (by simp)
 refine Zd (Yu c.cel) λE hE=>?_
 refine QJ.of_G 20 func27 rfl ntmps27 results27 (by simp) ?_
 refine Q0<|QK (by rfl) (by rfl) ?_
 refine xl rfl<|QQ (us:=c.cells) rfl λb1 w1 hs1 hb1 hB1=>xl rfl<|Qt (us:=[nS,.int .i64 0,nS,nS,nS,nS,nS,nS]) rfl λb2 w2 hs2 hb2 hB2=>Qe ?_
 have hs02:=hs1.trans hs2
 have hz1:=hs1.size
 have hz2:=hs2.size
 have hl1:=hB1.lt
 have hl2:=hB2.lt
 have hB12:=hB1.ext hs2
 refine Q0<|QK (by rfl) (by rfl) ?_
 refine x (Qq hB12 rfl rfl)<|xl rfl<|xf<|(jH (h.ext hs02) (hkb.ext hs02)).mono ?_
 rintro r3 w3 ⟨hs3,vp,rfl,hbad,hgood⟩
 rw[hE] at hbad hgood ⊢
 have hs03:=hs02.trans hs3
 refine Qb<|x (Qp rfl rfl)<|x (Qp rfl rfl)<|x Qh<|Qe<|Q0<|Q0<|QK (by rfl) (by rfl) ?_
 refine Qb<|x (Q8 rfl rfl)<|xe ?_
 refine Qh4 rfl (λh24=>?_) (λh24=>?_)
 ·refine Q0<|QK (by rfl) (by rfl) ?_
  refine x (ZS [] trivial)<|Qb<|xl rfl<|Qn (us:=[nS,.int .i64 0,nS,nS,nS,nS,nS,nS]) (hB2.ext hs3) rfl rfl rfl rfl ⟨rfl,rfl,rfl,rfl,rfl,rfl,rfl,rfl,trivial⟩ λw4 hs4 hB4=>Qe<|JR ⟨λ_ h=>(by cases h),List.nodup_nil,[.agg [nS,.int .i64 0,nS,nS,nS,nS,nS,nS].toArray,.int .i64 E],λW' hW'=>⟨⟨⟨_,rfl,Qz rfl ((hB4.ext hW').at (L:=[]) (by simp)).cells⟩,rfl,trivial⟩,(hs03.then1 hs4 (by omega)).trans hW',_,rfl,⟨_,rfl,rfl,rfl,rfl,rfl,rfl,rfl,rfl,rfl,rfl,trivial⟩,λe=>absurd e h24⟩⟩
 have hE0:E=0:=Decidable.not_not.1 h24
 obtain ⟨b,q,rfl,rfl,hQ,hA3,hF3⟩:=hgood hE0
 refine Yb ?_
 have hlb:=hA3.B.lt
 refine Q0<|QK (by rfl) (by rfl) ?_
 refine Qb<|x (QI rfl)<|x (Qa rfl)<|x (Yv (us:=Zm q.s) hA3.B rfl rfl rfl)<|x (ZS [(0,Zm q.s)] ⟨rfl,rfl,trivial⟩)<|xl rfl<|Qt (us:=[nS,.int .i64 0,nS,nS,nS,nS,nS,nS]) rfl λb6 w5 hs5 hb6 hB6 =>
  xl rfl<|Qn (us:=[q.s.va,.int .i64 q.s.a.st,q.s.vm,q.s.ve,nS,nS,nS,nS]) hB6 rfl rfl rfl rfl ⟨hA3.s.al.one,rfl,hA3.s.mr.one,hA3.s.ed.one,rfl,rfl,rfl,rfl,trivial⟩ λw6 hs6 hB6=>xe ?_
 have hs36:Step [] w3 w6:=hs5.then1 hs6 hb6
 have hl6:=hB6.lt
 have hA6:=hA3.ext hs36
 have hs06:=hs03.trans hs36
 have hz3:=hs3.size
 have hz36:=hs36.size
 refine Q0<|Q0<|QK (by rfl) (by rfl) ?_
 refine Qb<|x (QI rfl)<|x (Qa rfl)<|x (Qd hA6.B rfl rfl)<|x (Qr hA6.ts.arr rfl)<|Qb<|xe ?_
 have hQv:=(V4 (λa ha=>by
  rcases List.mem_append.1 ha with ha | ha
  ·exact Yh (ZV hQ.ok).co a ha
  ·exact Yh (ZV hQ.ok).rq a ha) hQ.s)
 have hVt:=hQv.1
 have hTl:=hQv.2
 simp only[] at hVt hTl
 have hok:=ZV hQ.ok
 have hckc:=hok.c8
 have hcel:q.c.cel.co.length=q.c.co.length:=List.length_map ..
 have hrel:q.c.cel.rq.length=q.c.rq.length:=List.length_map ..
 have hcr:=hok.cr
 have hal:(auts q.c.cel.co++auts q.c.cel.rq).length=q.c.co.length+q.c.rq.length:=by rw[List.length_append];unfold auts;rw[List.length_map,List.length_map,hcel,hrel]
 refine Zd (q.ts.map (·.2)) λT hT=>?_
 rw[hT] at hVt hTl
 have hTn:q.ts.length=T.length:=by rw[←hT,List.length_map]
 refine ZC<|VJ (α:=Nat×(Value×Value×Value×Value)×List TV×List TV×LI) [(7,17),(37,99),(100,118)] (λz=>[(37,.int .i64 z.1)]) (λz ds W'=>z.1≤q.ts.length∧Step [b6] w6 W'∧Vg w6.heap.size W'.heap.size ds W'∧Q2 W'.heap b6 77 [q.s.va,.int .i64 q.s.a.st,q.s.vm,q.s.ve,z.2.1.1,z.2.1.2.1,z.2.1.2.2.1,z.2.1.2.2.2] ∧
  X9 w6.heap.size W' z.2.1.1 z.2.1.2.1 z.2.1.2.2.1 z.2.1.2.2.2 z.2.2.1 z.2.2.2.1 z.2.2.2.2 (spF q.c.cel q.p.a (q.qs.map (·.2)) (T.take z.1))∧z.2.2.1.map (·.2)=(T.take z.1).map (·.take q.c.co.length)∧z.2.2.2.1.map (·.2)=(T.take z.1).map (·.drop q.c.co.length)∧z.2.2.2.2=(T.take z.1).map (λt=>plx (q.qs.map (·.2)) (t.take q.c.co.length)))
  (λz=>q.ts.length - z.1) (by rfl) (0,(nS,nS,nS,nS),[],[],[]) ⟨rfl,trivial⟩
  ⟨Nat.zero_le _,Step.refl _ _,⟨List.nodup_nil,λD hD=>by cases hD⟩,hB6,X9.nil _ _,rfl,rfl,rfl⟩ ?_
 rintro ⟨k,⟨v1,v2,v3,v4⟩,cos,rqs,pls⟩ g ds w7 ⟨hk,hs7,hD7,hB7,hS7,hco,hrq,hpl⟩
 simp only[] at hk hB7 hS7 hco hrq hpl
 have hs37:Step [] w3 w7:=hs36.then1 hs7 hb6
 have hs07:=hs03.trans hs37
 have hz7:=hs7.size
 have hTk:(T.take k).length=k:=by rw[List.length_take];omega
 have hcosl:cos.length=k:=by have:=congrArg List.length hco;rw[List.length_map,List.length_map,hTk] at this;exact this
 have hrqsl:rqs.length=k:=by have:=congrArg List.length hrq;rw[List.length_map,List.length_map,hTk] at this;exact this
 have hplsl:pls.length=k:=by rw[hpl,List.length_map,hTk]
 have hfbl:=Qa9 q.c.cel q.p.a (q.qs.map (·.2)) (T.take k)
 rw[hTk] at hfbl
 refine Zd (spF q.c.cel q.p.a (q.qs.map (·.2)) (T.take k)) λfbs hfbs=>?_
 rw[hfbs] at hS7 hfbl
 have l7:=hS7.lt
 refine Zd (ob v1++(ob v2++(ob v3++ob v4))) λav hav=>?_
 have havlt:∀x∈av,w6.heap.size≤x∧x<w7.heap.size:=λx hx=>by
  rw[←hav] at hx
  rcases yY hx with h1 | h1 | h1 | h1
  ·exact Qk hS7.o1 x h1
  ·exact Qk hS7.o2 x h1
  ·exact Qk hS7.o3 x h1
  ·exact Qk hS7.o4 x h1
 have h6av:b6∉av:=λhm=>by have:=(havlt b6 hm).1;omega
 have havL:∀x∈av,x∈b6::av:=λx hx=>List.mem_cons_of_mem _ hx
 have hA7:Xw (b6::av) b w7.heap q:=(hA3.up (λx hx=>.inr (by
  rcases List.mem_cons.1 hx with rfl | hx
  ·exact hb6
  ·have:=(havlt x hx).1;omega))).ext hs37
 refine Q0<|QK (by rfl) (by rfl) ?_
 refine x (QB rfl rfl)<|xe ?_
 refine Q0<|zf rfl (λh38=>?_) (λh38=>?_)
 ·refine JS ?_
  have hke:q.ts.length≤k:=by have h39:¬(k:Int)<(q.ts.length:Int):=h38;omega
  rw[List.take_of_length_le (by omega)] at hco hrq hpl hfbs
  have hsp:=j4 hQ.p hQ.s
  rw[hT,hcel,←hco,←hrq,←hpl,hfbs] at hsp
  have hs27:=hs3.trans hs37
  refine Q0<|QK (by rfl) (by rfl) ?_
  refine x (Qq hB7 rfl rfl)<|xl rfl<|Qn (us:=[q.s.va,.int .i64 q.s.a.st,q.s.vm,q.s.ve,v1,v2,v3,v4]) (hB2.ext hs27) rfl rfl rfl rfl ⟨hA3.s.al.one,rfl,hA3.s.mr.one,hA3.s.ed.one,QH hS7.o1,QH hS7.o2,QH hS7.o3,QH hS7.o4,trivial⟩ λw8 hs8 hB8=>Qe ?_
  have hb2w:b2<w6.heap.size:=by omega
  have hD8:Vg w6.heap.size w7.heap.size ds w8:=hD7.blk hs8 (hB2.ext hs27)
  have hb2d:b2∉ds:=λhm=>by have:=(hD8.2 b2 hm).1;omega
  have hS8:=hS7.low hs8 (λx hx=>by simp only[List.mem_singleton] at hx;subst hx;exact hb2w)
  refine JR ⟨λD hD=>(hD8.2 D hD).2.2,hD8.1,[.agg [q.s.va,.int .i64 q.s.a.st,q.s.vm,q.s.ve,v1,v2,v3,v4].toArray,.int .i64 E],λW' hW'=>?_⟩
  have hc8:Lg.Y3 [] w8 W':=Lg.Y3.nonc hW' (λD hD=>⟨_,(hD8.2 D hD).2.2,rfl⟩)
  have hzW:=hW'.size
  have hS9:=hS8.cst hc8 hzW
  refine ⟨⟨⟨_,rfl,Qz rfl ((hB8.step hW' hb2d).at (L:=[]) (by simp)).cells⟩,congrArg (Value.int .i64) hE0.symm,trivial⟩,(hs07.then1 hs8 (by omega)).then hW' (λD hD=>.inr (by have:=(hD8.2 D hD).1;omega)),_,rfl,⟨_,rfl,rfl,hA3.s.al.one,rfl,hA3.s.mr.one,hA3.s.ed.one,QH hS7.o1,QH hS7.o2,QH hS7.o3,QH hS7.o4,trivial⟩,λ_=>?_⟩
  have hl9:pls.length≤1099511627776:=by omega
  have hl8:fbs.length≤1099511627776:=by omega
  rw[hsp]
  refine ⟨q.s.va,q.s.vm,q.s.ve,v1,v2,v3,v4,cos,rqs,rfl,rfl,rfl,λL hL=>⟨?_,⟨QT hS9.o1 (by omega) (λx hx hm=>?_),λp hp=>hS9.e1 p hp L (λx hx=>?_)⟩,⟨QT hS9.o2 (by omega) (λx hx hm=>?_),λp hp=>hS9.e2 p hp L (λx hx=>?_)⟩,QT hS9.o3 hl9 (λx hx hm=>?_),QT hS9.o4 hl8 (λx hx hm=>?_)⟩⟩
  ·have h1:=((hF3 (b2::L) (λx hx=>by
    rcases List.mem_cons.1 hx with rfl | hx
    ·exact hl2
    ·have:=hL x hx;omega)).1.ext hs37).st (hs8.mono (λx hx=>by simp only[List.mem_singleton] at hx;subst hx;exact List.mem_cons_self))
   have h2:=h1.up (L':=L) (λx hx=>.inl (List.mem_cons_of_mem _ hx))
   exact ⟨h2.al.cst (hc8.mono (by simp)) hzW,h2.mr.cst (hc8.mono (by simp)) hzW,h2.ed.cst (hc8.mono (by simp)) hzW⟩
  ·have:=(Qk hS9.o1 x hx).1;have:=hL x hm;omega
  ·exact .inl (by have:=hL x hx;omega)
  ·have:=(Qk hS9.o2 x hx).1;have:=hL x hm;omega
  ·exact .inl (by have:=hL x hx;omega)
  ·have:=(Qk hS9.o3 x hx).1;have:=hL x hm;omega
  ·have:=(Qk hS9.o4 x hx).1;have:=hL x hm;omega
 have hlt:k<q.ts.length:=by have h39:(k:Int)<(q.ts.length:Int):=h38;omega
 have hltT:k<T.length:=by omega
 have hmem:=List.getElem_mem hlt
 have hTe:T[k]'hltT=(q.ts[k]'hlt).2:=by subst hT;simp
 have htk:=QdR (c:=q.c.cel) (pl:=q.p.a) (ps:=q.qs.map (·.2)) hltT
 have htt:T.take (k+1)=T.take k++[T[k]'hltT]:=List.take_succ_eq_append_getElem hltT
 have hVk:=hVt _ (List.getElem_mem hltT)
 rw[hfbs] at htk
 rw[hTe] at htk htt hVk
 refine Yb ?_
 refine Qcb (α:=(Value×Value×Value×Value)×List TV×List TV×LI) [(7,17),(38,117)] (λz=>[(37,.int .i64 k)]) (λz ds' W'=>Step [b6] w6 W'∧Vg w6.heap.size W'.heap.size ds' W'∧Q2 W'.heap b6 77 [q.s.va,.int .i64 q.s.a.st,q.s.vm,q.s.ve,z.1.1,z.1.2.1,z.1.2.2.1,z.1.2.2.2] ∧
  X9 w6.heap.size W' z.1.1 z.1.2.1 z.1.2.2.1 z.1.2.2.2 z.2.1 z.2.2.1 z.2.2.2 (spF q.c.cel q.p.a (q.qs.map (·.2)) (T.take (k+1)))∧z.2.1.map (·.2)=(T.take (k+1)).map (·.take q.c.co.length)∧z.2.2.1.map (·.2)=(T.take (k+1)).map (·.drop q.c.co.length)∧z.2.2.2=(T.take (k+1)).map (λt=>plx (q.qs.map (·.2)) (t.take q.c.co.length))) (by rfl) ?_ ?_
 rotate_left
 ·rintro ⟨⟨u1,u2,u3,u4⟩,cos',rqs',pls'⟩ g ds' W ⟨hsW,hDW,hBW,hSW,h1,h2,h3⟩
  refine QK (by rfl) (by rfl) ?_
  refine QO rfl rfl<|Qb<|xe ?_
  exact ⟨(k+1,(u1,u2,u3,u4),cos',rqs',pls'),by simp only[];omega,⟨rfl,trivial⟩,hlt,hsW,hDW,hBW,hSW,h1,h2,h3⟩
 refine ZC<|Q0<|QK (by rfl) (by rfl) ?_
 refine Qb<|xig (g:=Z7) Kd hA7.ts.arr rfl rfl hlt λa40 h40=>?_
 refine Zd (q.ts[k]'hlt) λt ht=>?_
 rw[ht] at h40 hmem htk htt hVk
 have htI:=hA7.ts.each t hmem
 have htl:t.2.length=q.c.co.length+q.c.rq.length:=by rw[hVk.1,hal]
 refine x (Qv h40 rfl)<|xl rfl<|Qt (us:=[.int .i64 0]) rfl λb7 w9 hs9 hb7 hB9=>xl rfl<|QF (j:=0) (u:=.int .i64 k) hB9 rfl rfl (by decide) rfl λw10 hs10 hB10 =>
  Qe ?_
 have hs710:Step [] w7 w10:=hs9.then1 hs10 hb7
 refine Q0<|QK (by rfl) (by rfl) ?_
 refine Qb<|Qb<|xl rfl<|xf<|(yB (hA7.ext hs710) (htI.ext hs710) (by omega)).mono ?_
 rintro r11 w11 ⟨hs11,v9,v10,rfl,hI9,hI10⟩
 refine Qb<|x (Qp rfl rfl)<|x (Qp rfl rfl)<|x Qh<|Qe ?_
 have hs711:=hs710.trans hs11
 have hA11:=hA7.ext hs711
 refine Zd (t.2.take q.c.co.length) λtc htc=>?_
 refine Zd (t.2.drop q.c.co.length) λtr htr=>?_
 rw[hcel] at htk
 rw[htc] at hI9 htk
 rw[htr] at hI10
 have htcl:tc.length=q.c.co.length:=by rw[←htc,List.length_take];omega
 have htrl:tr.length=q.c.rq.length:=by rw[←htr,List.length_drop];omega
 have hbdt:=hVk.bd (m:=4096) (λa ha=>by
  rcases List.mem_append.1 ha with ha | ha
  ·exact (Yh hok.co a ha).st1
  ·exact (Yh hok.rq a ha).st1)
 have hbdc:∀x∈tc,0≤x∧x<4096:=λx hx=>hbdt x (List.mem_of_mem_take (by rw[htc];exact hx))
 refine Q0<|U7 (Step [] w11) [(0,true),(1,true),(2,true),(3,true),(4,true),(5,false),(6,true),(7,true)] mixed (by rfl) (by rfl) (by kernel_rfl) (Step.drew _ _) ?_
 refine p (λ_=>Qo)<|p (λ_=>QI rfl)<|p (λ_=>Qa rfl)<|pq (λ_ hc=>Qd (hA11.B.ext hc) rfl rfl)<|p (λ_=>Qo)<|pk<|xf<|(yg (hI9.ext (Step.drew _ _)) ((hkb.ext (hs07.trans hs711)).ext (Step.drew _ _)) hbdc (by omega)).mono ?_
 rintro r12 w12 ⟨rfl,hs12⟩
 have hs1112:=(Step.drew [] w11).trans hs12
 refine ⟨hs1112,?_⟩
 have hplx:(match mget q.mm (Js tc) with | some u=>u | none=>.int .i64 0)=Value.int .i64 (plx (q.qs.map (·.2)) tc):=by
  rw[hQ.m tc htcl (λx hx=>(hbdc x hx).1)]
  unfold plx
  by_cases hm:tc∈q.qs.map (·.2)
  ·rw[if_pos hm,if_pos hm]
  ·rw[if_neg hm,if_neg hm]
 refine Zd (plx (q.qs.map (·.2)) tc) λpi hpi=>?_
 rw[hpi] at hplx htk
 refine pq (λ_ hc=>(XW (k:=Js tc) (hA11.m.ext hc) rfl rfl).trans (congrArg (λv=>Result.ok (Next.value v) _) hplx))<|p (λ_=>Qh)<|pe ?_
 have hs712:=hs711.trans hs1112
 have hs012:=hs07.trans hs712
 have hI9:=hI9.ext hs1112
 have hI10:=hI10.ext hs1112
 have hB6:=hB7.ext hs712
 have hS12:=hS7.ext hs712
 have hS12d:=hS12.ext (Step.drew [] w12)
 have hz712:=hs712.size
 have hzd:({ w12 with drawn:=w12.drawn+1 }:World).heap.size=w12.heap.size:=rfl
 have hC0:Step av w12 { w12 with drawn:=w12.drawn+1 }:=Step.drew _ _
 have fin:∀{v1' v2' v3' r58 r64:Value} {wx wy:World},Step av w12 wx→X9 w6.heap.size wx v1' v2' v3' v4 (cos++[(r58,tc)]) (rqs++[(r64,tr)]) (pls++[pi]) fbs→Step [b6] wx wy→Q2 wy.heap b6 77 [q.s.va,.int .i64 q.s.a.st,q.s.vm,q.s.ve,v1',v2',v3',v4] →
   Step (b6::av) w12 wy∧Q2 wy.heap b6 77 [q.s.va,.int .i64 q.s.a.st,q.s.vm,q.s.ve,v1',v2',v3',v4]∧X9 w6.heap.size wy v1' v2' v3' v4 (cos++[(r58,tc)]) (rqs++[(r64,tr)]) (pls++[pi]) fbs:=λhC hP hs hB =>
  ⟨(hC.mono havL).trans' (hs.mono (λx hx=>by simp only[List.mem_singleton] at hx;subst hx;exact List.mem_cons_self)),hB,hP.low hs (λx hx=>by simp only[List.mem_singleton] at hx;subst hx;exact hl6)⟩
 have hkl:k≤4096:=by omega
 have htc16:tc.length≤16:=by omega
 have htr16:tr.length≤16:=by omega
 have htc40:tc.length≤1099511627776:=by omega
 have htr40:tr.length≤1099511627776:=by omega
 have hl1:cos.length+1≤1099511627776:=by omega
 have hl2:rqs.length+1≤1099511627776:=by omega
 have hl3:pls.length+1≤1099511627776:=by omega
 have hb0:w6.heap.size≤w12.heap.size:=by omega
 refine Qcb (α:=Value×Value×Value×Value×Value) [(55,74)] (λ_=>[]) (λz ds' w'=>ds'=ds∧Step (b6::av) w12 w'∧Q2 w'.heap b6 77 [q.s.va,.int .i64 q.s.a.st,q.s.vm,q.s.ve,z.1,z.2.1,z.2.2.1,v4]∧X9 w6.heap.size w' z.1 z.2.1 z.2.2.1 v4 (cos++[(z.2.2.2.1,tc)]) (rqs++[(z.2.2.2.2,tr)]) (pls++[pi]) fbs) (by rfl) ?_ ?_
 ·refine Qgb (α:=Value×Value×Value×Value) (Step av w12) [(0,true),(1,true),(2,true),(6,true),(7,true),(8,true),(12,true),(13,true),(14,true)] [(3,false),(4,false),(5,false),(17,true),(9,false),(10,false),(11,false)] 15 70
   [(16,false),(18,false),(19,true),(20,false),(21,true),(22,false)] av [(55,74)] [(58,60),(64,66),(72,72)] (λz=>[(60,z.1),(66,z.2.1),(68,v3),(72,.pointer (some ⟨b6,4,none⟩))]) (λz w'=>Step av w12 w'∧X9 w6.heap.size w' z.1 z.2.1 v3 v4 (cos++[(z.2.2.1,tc)]) (rqs++[(z.2.2.2,tr)]) pls fbs)
   (λv w'=>∃b,v=.slice (some ⟨b,0,none⟩) 1 1∧Q2 w'.heap b 3 [.int .i64 pi]) mixed (by rfl) (by rfl) (by kernel_rfl) (by rfl) rfl hC0 (λx hx=>Nat.lt_of_lt_of_le (havlt x hx).2 hz712) ?_ ?_ ?_ ?_
  ·rintro v own w w' ⟨b,rfl,hB⟩ hs hn
   exact ⟨b,rfl,hB.step hs (hn b (by simp[ow]))⟩
  ·rintro z w w' ⟨h1,h2⟩ hs
   exact ⟨h1.trans hs,h2.ext hs⟩
  ·rintro ⟨v1',v2',r58,r64⟩ g wz v ⟨hCz,hP⟩ _ ⟨b15,rfl,hB15⟩
   simp only[] at hP
   have hcz:=hCz.size
   refine pk<|QZ (news:=[.int .i64 pi]) (L:=[]) hP.o3 rfl rfl rfl (hB15.at (by simp)) (by simp[Value.oneCell']) hl3 (Nat.le_trans hb0 hcz) λv3' y1 ho1 hs1 hn1=>?_
   have Q1:=X9.a3 (q:=pi) hP (Step.refl [] _) ho1 hs1 hn1
   have hC1:Step av w12 y1:=hCz.trans' (hs1.mono (λb hb=>by rw[←hav];exact UI (.inr (.inr (.inl hb)))))
   refine ⟨hC1,?_⟩
   refine pkl (hl:=by kernel_rfl)<|QF (j:=4) (u:=v1') (hB6.step hC1 h6av) rfl rfl (by simp) (QH Q1.o1) λy2 hs2 hB2'=>p (λ_=>Qa rfl) <|
    pkl (hl:=by kernel_rfl)<|QF (j:=5) (u:=v2') hB2' rfl rfl (by simp) (QH Q1.o2) λy3 hs3 hB3'=>p (λ_=>Qa rfl) <|
    pkl (hl:=by kernel_rfl)<|QF (j:=6) (u:=v3') hB3' rfl rfl (by simp) (QH Q1.o3) λy4 hs4 hB4'=>pe ?_
   exact ⟨(v1',v2',v3',r58,r64),trivial,rfl,fin hC1 Q1 ((hs2.trans' hs3).trans' hs4) hB4'⟩
  refine p (λ_=>Qa rfl)<|pq (λ_ hc=>Qd (hB6.step hc h6av) rfl rfl)<|p (λ_=>Qo)<|p (λ_=>Qa rfl)<|pq (λ_ hc=>Qd (hB6.step hc h6av) rfl rfl)<|p (λ_=>Qo) <|
   p (λ_=>Qa rfl)<|pq (λ_ hc=>Qd (hB6.step hc h6av) rfl rfl)<|p (λ_=>Qo)<|pe ⟨λg wf hCf=>QD (us:=[[.int .i64 pi]]) rfl rfl (by decide) (by simp) ⟨rfl,rfl,trivial⟩ λb wf' hsf hbf hBf=>⟨hsf,hCf.trans hsf,⟨b,rfl,hBf⟩,λx hx=>?_⟩,?_⟩
  ·have hxe:x=b:=by
    have hx':x∈[b]:=hx
    simpa using hx'
   subst hxe
   exact ⟨hbf,hBf.lt⟩
  have own1:∀{X:LN},(∀x∈X,x∈ob v1∨x∈ob v2)→∀x∈X,x∈av:=λhX x hx=>by rw[←hav];exact UI ((hX x hx).imp id .inl)
  refine fk λx1 p1 c1=>xf<|(ZU (hI9.step c1 havL)).mono ?_
  rintro r58 y1 ⟨hs1,ho1⟩
  have P1:=hS12d.ext p1
  have pb1:=Nat.le_trans hb0 c1.size
  refine ⟨c1.trans hs1,av,hs1.any,λb hb=>.inl hb,?_⟩
  refine fk λx2 p2 c2=>QD (us:=[[r58]]) rfl rfl (by decide) (by simp) ⟨Q3 ho1,rfl,trivial⟩ λb2' y2 hs2 hb2' hB2'=>⟨c2.trans hs2,av,hs2.any,λb hb=>.inl hb,?_⟩
  refine fk λx3 p3 c3=>?_
  have sh3:=((hs1.trans p2).trans hs2).trans p3
  have ho3:=Qs ho1 ((p2.trans hs2).trans p3)
  refine QZ (news:=[r58]) (L:=[]) (Qs P1.o1 sh3) rfl rfl rfl ((hB2'.ext p3).at (by simp)) (λu hu=>by rw[List.mem_singleton] at hu;subst hu;exact QH ho3) hl1 (Nat.le_trans hb0 c3.size) λv1' y3 ho4 hs3 hn3=>?_
  have P2:=X9.a1 (q:=(r58,tc)) P1 sh3 ho3 htc40 (Nat.le_refl _) pb1 ho4 hs3 hn3
  have hs3':Step av x3 y3:=hs3.mono (own1 λx hx=>.inl hx)
  refine ⟨c3.trans' hs3',av,hs3',λb hb=>.inl hb,?_⟩
  refine fp (λ_=>Qa rfl) ?_
  refine fk λx4 p4 c4=>xf<|(ZU (hI10.step c4 havL)).mono ?_
  rintro r64 y4 ⟨hs4,ho5⟩
  have P3:=P2.ext p4
  have pb3:=Nat.le_trans hb0 c4.size
  refine ⟨c4.trans hs4,av,hs4.any,λb hb=>.inl hb,?_⟩
  refine fk λx5 p5 c5=>QD (us:=[[r64]]) rfl rfl (by decide) (by simp) ⟨Q3 ho5,rfl,trivial⟩ λb5' y5 hs5 hb5' hB5'=>⟨c5.trans hs5,av,hs5.any,λb hb=>.inl hb,?_⟩
  refine fk λx6 p6 c6=>?_
  have sh6:=((hs4.trans p5).trans hs5).trans p6
  have ho6:=Qs ho5 ((p5.trans hs5).trans p6)
  refine QZ (news:=[r64]) (L:=[]) (Qs P3.o2 sh6) rfl rfl rfl ((hB5'.ext p6).at (by simp)) (λu hu=>by rw[List.mem_singleton] at hu;subst hu;exact QH ho6) hl2 (Nat.le_trans hb0 c6.size) λv2' y6 ho7 hs6 hn6=>?_
  have P4:=X9.a2 (q:=(r64,tr)) P3 sh6 ho6 htr40 (Nat.le_refl _) pb3 ho7 hs6 hn6
  have hs6':Step av x6 y6:=hs6.mono (own1 λx hx=>.inr hx)
  refine ⟨c6.trans' hs6',av,hs6',λb hb=>.inl hb,?_⟩
  exact fe ⟨(v1',v2',r58,r64),⟨rfl,rfl,rfl,rfl,trivial⟩,c6.trans' hs6',P4⟩
 rintro ⟨v1',v2',v3',r58,r64⟩ g ds' w13 ⟨rfl,hs13,hB13,hS13⟩
 simp only[] at hB13 hS13
 have hz13:=hs13.size
 have hA13:=(hA11.ext hs1112).st hs13
 have hI9:=hI9.st hs13
 have hI10:=hI10.st hs13
 have hA130:Xw [] b w13.heap q:=hA13.up (by simp)
 have hcell:∀x∈b6::av,∃o:Obj,w12.heap[x]?=some o∧o.isCells=true:=λx hx=>by
  rcases List.mem_cons.1 hx with rfl | hx
  ·exact hB6.cells
  ·rw[←hav] at hx
   rcases yY hx with h1 | h1 | h1 | h1
   ·exact Go.Lg.Q3 hS12.o1 x h1
   ·exact Go.Lg.Q3 hS12.o2 x h1
   ·exact Go.Lg.Q3 hS12.o3 x h1
   ·exact Go.Lg.Q3 hS12.o4 x h1
 have hD13:Vg w6.heap.size w7.heap.size ds' w13:=((hD7.up (Nat.le_refl _)).ext hs712).step hs13 hcell
 have hl7:=hB10.lt
 have hz910:=hs10.size
 have hb7n:b7∉b6::av:=λhm=>by
  rcases List.mem_cons.1 hm with h1 | h1
  ·omega
  ·have:=(havlt _ h1).2;omega
 have hb1n:b1∉b6::av:=λhm=>by
  rcases List.mem_cons.1 hm with h1 | h1
  ·omega
  ·have:=(havlt _ h1).1;omega
 have hB7k:=((hB10.ext hs11).ext hs1112).step hs13 hb7n
 have hB1c:=((hB12.ext (hs3.trans hs37)).ext hs712).step hs13 hb1n
 have hs613:Step [b6] w6 w13:=(hs7.trans hs712).then hs13 (λx hx=>by
  rcases List.mem_cons.1 hx with h1 | h1
  ·subst h1;exact .inl List.mem_cons_self
  ·exact .inr (havlt x h1).1)
 have hco':(cos++[(r58,tc)]).map (·.2)=(T.take (k+1)).map (·.take q.c.co.length):=by rw[htt,List.map_append,List.map_append,hco,List.map_singleton,List.map_singleton,htc]
 have hrq':(rqs++[(r64,tr)]).map (·.2)=(T.take (k+1)).map (·.drop q.c.co.length):=by rw[htt,List.map_append,List.map_append,hrq,List.map_singleton,List.map_singleton,htr]
 have hpl':pls++[pi]=(T.take (k+1)).map (λt=>plx (q.qs.map (·.2)) (t.take q.c.co.length)):=by rw[htt,List.map_append,hpl,List.map_singleton,htc,hpi]
 have hVc:Vt (auts q.c.cel.co) tc:=by
  have h1:=hVk.take
  rw[show (auts q.c.cel.co).length=q.c.co.length by unfold auts;rw[List.length_map];exact hcel,htc] at h1
  exact h1
 have hVr:Vt (auts q.c.cel.rq) tr:=by
  have h1:=hVk.drop
  rw[show (auts q.c.cel.co).length=q.c.co.length by unfold auts;rw[List.length_map];exact hcel,htr] at h1
  exact h1
 have hpo:=yO hQ.ok hQ.p
 have hpr:=Qec hpo.2.2.1 tc
 rw[hpi,←hpo.2.1] at hpr
 have hckp:cks q.p.a pi=0:=by
  unfold cks
  rw[if_neg (by rw[(ZE q.p.a).2 hpo.1];decide),if_neg (by omega)]
 have hvo:=VS hA130.k1 hA130.k2 hA130.k3 (hI9.up (L':=[]) (by simp)) (by rw[hQ.ex,hQ.cs];exact hok.cd) hVc.tpOk
 have hrsn:rsn q.c.cel q.p.a pi k t.2=(match vio q.c.cel tc with | some (kd,j)=>some ⟨k,kd,j,-1⟩ | none=>match rfd q.c.cel tr (QcT q.p.a pi) with | some (j,v)=>some ⟨k,3,j,v⟩ | none=>none):=by unfold rsn;rw[hcel,htc,htr];rfl
 rw[Qdo] at hrsn
 rw[hQ.ex,hQ.cs] at hvo
 refine Zd (KA q.c.cel.ex q.c.cel.cs tc) λV hV=>?_
 rw[hV] at hvo hrsn
 refine Q0<|Q0<|QK (by rfl) (by rfl) ?_
 refine Qb<|x (QI rfl)<|x (Qa rfl)<|x (Yv (us:=[q.vs,q.vx,q.vk]) hA130.B rfl rfl rfl)<|Qb<|xl rfl<|xf<|hvo.mono ?_
 rintro r14 w14 ⟨hs14,rfl⟩
 refine Qb<|x (Qp rfl rfl)<|x (Qp rfl rfl)<|x (Qp rfl rfl)<|x (Qp rfl rfl)<|x Qh<|x Qh<|x Qh<|Qe ?_
 have hB14:=hB13.ext hs14
 have hS14:=hS13.ext hs14
 have hD14:=hD13.ext hs14
 have hs614:=hs613.trans hs14
 have hz14:=hs14.size
 have hfl1:fbs.length+1≤1099511627776:=by omega
 have hb014:w6.heap.size≤w14.heap.size:=by omega
 have hz714:w7.heap.size≤w14.heap.size:=by omega
 refine Q0<|QK (by rfl) (by rfl) ?_
 refine Qb<|xe ?_
 refine Ku rfl (λh86=>?_) (λh86=>?_)
 ·rw[if_pos h86] at hrsn
  simp only[] at hrsn
  rw[hrsn] at htk
  refine Q0<|QK (by rfl) (by rfl) ?_
  refine x (Qa rfl)<|x (Qd hB14 rfl rfl)<|x (Qd (hB7k.ext hs14) rfl rfl)<|Qb<|Qb<|x (QE ⟨rfl,rfl,rfl,rfl,trivial⟩) <|
   xl rfl<|QD (us:=[Zz ⟨k,V.1,V.2.1,-1⟩]) rfl rfl (by decide) (by simp) ⟨rfl,rfl,trivial⟩ λb93 y1 hy1 hb93 hB93=>?_
  have zy1:=hy1.size
  refine xl rfl<|QZ (m:=1) (news:=Zz ⟨k,V.1,V.2.1,-1⟩) (L:=[]) (Qs hS14.o4 hy1) rfl rfl rfl (hB93.at (by simp)) (by simp[Value.oneCell']) hfl1 (Nat.le_trans hb014 zy1) λu4 y2 ho2 hy2 hn2=>?_
  have hb6v:b6∉ob v4:=λhm=>by have:=(Qk hS14.o4 _ hm).1;omega
  refine x (Qa rfl)<|xl rfl<|QF (j:=7) (u:=u4) ((hB14.ext hy1).step hy2 hb6v) rfl rfl (by simp) (QH ho2) λy3 hy3 hB3=>xe ?_
  have had:=X9.add (q:=⟨k,V.1,V.2.1,-1⟩) hB14 hS14 hl6 hy1 ho2 hy2 hn2 hy3
  refine JS ?_
  refine ⟨((v1',v2',v3',u4),cos++[(r58,tc)],rqs++[(r64,tr)],pls++[pi]),⟨rfl,trivial⟩,hs614.then had.1 (λx hx=>?_),((hD14.step had.1 had.2.2).up (Nat.le_trans hz714 had.1.size)),hB3,?_,hco',hrq',hpl'⟩
  ·rcases List.mem_cons.1 hx with h1 | h1
   ·subst h1;exact .inl List.mem_cons_self
   ·exact .inr (Qk hS14.o4 x h1).1
  ·simp only[];rw[htk];exact had.2.1
 rw[if_neg (by rw[h86];decide)] at hrsn
 simp only[] at hrsn
 refine Yb ?_
 have hA14:=hA13.ext hs14
 have hI10:=hI10.ext hs14
 refine Q0<|QK (by rfl) (by rfl) ?_
 refine Qb<|Qb<|Qb<|xl rfl<|xf<|(VK (b:=b) (st:=pi) (vr:=v10) hI10.cells).mono ?_
 rintro r15 w15 ⟨hs15,c1,c2,c3,rfl,hc1,hc2,hc3,hR1,hR2,hR3⟩
 refine xe ?_
 have hz15:=hs15.size
 have hB15:=hB14.ext hs15
 have hS15:=hS14.ext hs15
 have hD15:=hD14.ext hs15
 have hs615:=hs614.trans hs15
 have hA15:=hA14.ext hs15
 have hB7k:=hB7k.ext (hs14.trans hs15)
 have hB1c:=hB1c.ext (hs14.trans hs15)
 have hI10:=hI10.ext hs15
 refine Zd (wrf q.c.cel.rq tr (enb q.p.a pi)) λfl hfl=>?_
 have hok4:∀x∈b6::ob v4,x∈b6::av:=λx hx=>by
  rcases List.mem_cons.1 hx with rfl | hx
  ·exact List.mem_cons_self
  ·exact List.mem_cons_of_mem _ (by rw[←hav];exact UI (.inr (.inr (.inr hx))))
 have hlow4:∀x∈b6::ob v4,x<w14.heap.size:=λx hx=>by
  rcases List.mem_cons.1 hx with rfl | hx
  ·omega
  ·exact (Qk hS14.o4 x hx).2
 have hSt15:Xw (b6::ob v4) b w15.heap q:=hA15.up (λx hx=>.inl (hok4 x hx))
 have hIr15:QL (b6::ob v4) w15.heap v10 tr:=hI10.up (λx hx=>.inl (hok4 x hx))
 have hEv:∀p∈fl,0≤p.1∧p.1<(q.c.ev.length:Int):=λp hp=>by
  rw[←hfl] at hp
  have h1:=(V3.1 hp).1
  unfold enb at h1
  obtain ⟨e,he,h2⟩:=List.mem_map.1 h1
  have h3:=hpo.2.2.2 _ (hpo.1.ed e (ZL he).1).2.2.1
  rw[h2] at h3
  exact h3
 refine ZC<|jR (α:={ x:Int×Int // x∈fl }) (b6::ob v4) (by omega) (capt:=[.pointer (some ⟨c1,0,none⟩),.pointer (some ⟨c2,0,none⟩),.pointer (some ⟨c3,0,none⟩)]) rfl (encs:=λx=>[.int .i64 x.1.1,.int .i64 x.1.2]) (by decide) (λ_=>rfl)
  (KI hR1 hR2 hR3 (λhm=>by have:=hlow4 _ hm;omega) (λhm=>by have:=hlow4 _ hm;omega) (λx hx=>by have:=hlow4 _ hx;omega) hSt15 hIr15 (λx hx=>hok.rq x.it (List.mem_map_of_mem hx)) hVr hckp rfl hfl)
  (λpre W=>(∀y∈pre,(q.c.cel.ev.getD y.1.1.toNat ⟨.empty,false,false,false,0⟩).co=true)∧Step [] w15 W) (λpre=>(ZW.pure _).and (ZW.step (Nat.le_refl _)))
  (λe pre W=>e=.exit 2∧(∃p y,pre=p++[y]∧(∀y∈p,(q.c.cel.ev.getD y.1.1.toNat ⟨.empty,false,false,false,0⟩).co=true)∧(q.c.cel.ev.getD y.1.1.toNat ⟨.empty,false,false,false,0⟩).co=false ∧
   ∃u4,Step (b6::ob v4) w15 W∧Q2 W.heap b6 77 [q.s.va,.int .i64 q.s.a.st,q.s.vm,q.s.ve,v1',v2',v3',u4]∧X9 w6.heap.size W v1' v2' v3' u4 (cos++[(r58,tc)]) (rqs++[(r64,tr)]) (pls++[pi]) (fbs++[⟨k,3,y.1.2,y.1.1⟩])∧Vg w6.heap.size w7.heap.size ds' W))
  (λe pre=>(ZW.pure _).and (ZW.ex λp=>ZW.ex λy=>(ZW.pure _).and ((ZW.pure _).and ((ZW.pure _).and (ZW.ex λu4=>(ZW.step (Nat.le_refl _)).and (ZW.blk.and ((ZW.cst λW W' h hc hz=>h.cst hc hz).and (Vg.stb (by omega)))))))))
  ⟨λy hy=>(by cases hy),Step.refl _ _⟩
  (λf x f' W=>f'=upd (upd (upd (upd f 100 (.int .i64 x.1.1)) 101 (.int .i64 x.1.2)) 16 (.int .i64 x.1.1)) 17 (.int .i64 x.1.2)) (λx f'=>ZW.pure _) ?_ ?_ ?_ ?_
 ·rintro l pre ⟨⟨e,i⟩,he⟩ W hW
  refine Q0<|QK (by rfl) (by rfl) ?_
  refine Qe<|QK (by rfl) (by rfl) ?_
  refine Qe ?_
  exact ⟨rfl,Jm.refl _ _ _,Lg.Y3.refl _ _,hW,rfl⟩
 ·rintro l pre ⟨⟨e,i⟩,he⟩ f' W ⟨hpre,hW⟩ rfl _
  have hee:=hEv _ he
  simp only[] at hee
  have hen:e=(e.toNat:Int):=by omega
  have hel:e.toNat<q.c.ev.length:=by omega
  have hAW:=hSt15.ext hW
  refine ZC<|Q0<|QK (by rfl) (by rfl) ?_
  refine x (Qa rfl)<|x (Qd (hB1c.ext hW) rfl rfl)<|Qb<|xig (g:=Zf) (i:=e.toNat) K5 hAW.c.ev.arr rfl (congrArg (Value.int .i64) hen) hel λa105 h105=>?_
  have hge:q.c.cel.ev.getD e.toNat ⟨.empty,false,false,false,0⟩=q.c.ev[e.toNat]'hel:=by
   show q.c.ev.getD e.toNat _=_
   simp[List.getD,hel]
  refine Zd (q.c.ev[e.toNat]'hel) λv hv=>?_
  rw[hv] at h105 hge
  refine x (Zc rfl)<|x (Qv (h105.fld 1 (.bool v.co) rfl) rfl)<|x (Zn rfl)<|xe ?_
  refine Ku rfl (λh108=>?_) (λh108=>?_)
  ·have hvc:v.co=false:=by simpa using h108
   have hS:=hS15.ext hW
   have hB:=hB15.ext hW
   have hzW:=hW.size
   refine Q0<|QK (by rfl) (by rfl) ?_
   refine x (Qa rfl)<|x (Qd hB rfl rfl)<|x (Qd (hB7k.ext hW) rfl rfl)<|Qb<|Qb<|x (QE ⟨rfl,rfl,rfl,rfl,trivial⟩) <|
    xl rfl<|QD (us:=[Zz ⟨k,3,i,e⟩]) rfl rfl (by decide) (by simp) ⟨rfl,rfl,trivial⟩ λb93 y1 hy1 hb93 hB93=>?_
   have zy1:=hy1.size
   refine xl rfl<|QZ (m:=1) (news:=Zz ⟨k,3,i,e⟩) (L:=[]) (Qs hS.o4 hy1) rfl rfl rfl (hB93.at (by simp)) (by simp[Value.oneCell']) hfl1 (by omega) λu4 y2 ho2 hy2 hn2=>?_
   have hb6v:b6∉ob v4:=λhm=>by have:=(Qk hS14.o4 _ hm).1;omega
   refine x (Qa rfl)<|xl rfl<|QF (j:=7) (u:=u4) ((hB.ext hy1).step hy2 hb6v) rfl rfl (by simp) (QH ho2) λy3 hy3 hB3=>xe ?_
   have had:=X9.add (q:=⟨k,3,i,e⟩) hB hS hl6 hy1 ho2 hy2 hn2 hy3
   refine JS ?_
   exact ⟨Jm.step had.1 hzW (λx hx=>⟨.inl hx,had.2.2 x hx⟩),rfl,pre,_,rfl,hpre,by simp only[];rw[hge];exact hvc,u4,hW.any.trans' had.1,hB3,had.2.1,(hD15.ext hW).step had.1 had.2.2⟩
  ·have hvc:v.co=true:=by simpa using h108
   refine Yb ?_
   refine ⟨Jm.refl _ _ _,Lg.Y3.refl _ _,λy hy=>?_,hW⟩
   rcases List.mem_append.1 hy with h1 | h1
   ·exact hpre y h1
   ·simp only[List.mem_singleton] at h1;subst h1;simp only[];rw[hge];exact hvc
 ·rintro D xs W hD hxs ⟨hpre,hW⟩ hdD
  have hrf:rfd q.c.cel tr (QcT q.p.a pi)=none:=Uq λx hx=>by
   rw[show wrf q.c.cel.rq tr (QcT q.p.a pi)=fl from hfl,←hxs] at hx
   obtain ⟨y,hy,rfl⟩:=List.mem_map.1 hx
   exact hpre y hy
  rw[hrf] at hrsn
  rw[hrsn] at htk
  refine ⟨((v1',v2',v3',v4),cos++[(r58,tc)],rqs++[(r64,tr)],pls++[pi]),⟨rfl,trivial⟩,hs615.trans hW,(hD15.ext hW).cons (by omega) (by omega) hdD,hB15.ext hW,?_,hco',hrq',hpl'⟩
  simp only[];rw[htk]
  have h9:=hS15.ext hW
  simpa using h9
 ·rintro D e pre W hD hSp ⟨rfl,p,y,rfl,hp,hy,u4,hst,hBu,hSu,hDu⟩ hdD _
  have hrf:rfd q.c.cel tr (QcT q.p.a pi)=some (y.1.2,y.1.1):=by
   obtain ⟨rs,hrs⟩:=hSp
   rw[List.map_append] at hrs
   refine Up (x:=y.1) (t:=rs) (p:=p.map (·.1)) ?_ (λz hz=>?_) hy
   ·exact (show wrf q.c.cel.rq tr (QcT q.p.a pi)=fl from hfl).trans (hrs.symm.trans (by simp))
   ·obtain ⟨z',hz',rfl⟩:=List.mem_map.1 hz
    exact hp z' hz'
  rw[hrf] at hrsn
  simp only[] at hrsn
  rw[hrsn] at htk
  refine ⟨((v1',v2',v3',u4),cos++[(r58,tc)],rqs++[(r64,tr)],pls++[pi]),⟨rfl,trivial⟩,hs615.then hst (λx hx=>?_),hDu.cons (by omega) (by omega) hdD,hBu,?_,hco',hrq',hpl'⟩
  ·rcases List.mem_cons.1 hx with h1 | h1
   ·subst h1;exact .inl List.mem_cons_self
   ·exact .inr (Qk hS14.o4 x h1).1
  ·simp only[];rw[htk];exact hSu
end Go.Proofs.YtdffckgdcegpaaaGreatDoor
namespace Go.Lg
theorem At.from {L:LN}{H:Array Obj}{a:Addr}{us:LV}(h:At L H a us) (j:Nat):At L H (a.add j) (us.drop j) :=
 ⟨λu hu=>by rw[Z1];exact h.out u (List.mem_of_mem_drop hu),λu hu=>by rw[Z1];exact h.lt u (List.mem_of_mem_drop hu),λi v hv=>by
  rw[Addr.add_add];exact h.cell (j+i) v (by rw[←List.getElem?_drop];exact hv)⟩
end Go.Lg
namespace Go.Proofs.YtdffckgdcegpaaaGreatDoor
open Go.Proofs.Tryz
open Go.Lg
def lwB (l:LI) (n:Int):Nat:=(l.filter λx=>decide (x<n)).length
theorem Qi0 {l:LI}{n:Int}{i:Nat}(_:Yi l) (hi:i≤l.length) (h1:∀m (hm:m<l.length),m<i→l[m]<n) (h2:∀m (hm:m<l.length),i≤m→n≤l[m]):lwB l n=i:=by
 unfold lwB
 have e1:(l.take i).filter (λx=>decide (x<n))=l.take i:=List.filter_eq_self.2 λx hx=>by
  obtain ⟨m,hm,rfl⟩:=List.getElem_of_mem hx
  rw[List.getElem_take]
  have hm':m<i∧m<l.length:=by rw[List.length_take] at hm;omega
  exact decide_eq_true (h1 m hm'.2 hm'.1)
 have e2:(l.drop i).filter (λx=>decide (x<n))=[]:=List.filter_eq_nil_iff.2 λx hx=>by
  obtain ⟨m,hm,rfl⟩:=List.getElem_of_mem hx
  rw[List.getElem_drop]
  have hm':i+m<l.length:=by rw[List.length_drop] at hm;omega
  have:=h2 (i+m) hm' (by omega)
  simp;omega
 have e3:l.filter (λx=>decide (x<n))=l.take i:=by
  conv=>lhs;rw[←List.take_append_drop i l]
  rw[List.filter_append,e1,e2,List.append_nil]
 rw[e3,List.length_take];omega
theorem Qbx:∀{l:LI}{n:Int},Yi l→n∈l→lwB l n=l.idxOf n
 | [],_,_,h=>by cases h
 | a::l,n,hi,h=>by
  have hi':=List.pairwise_cons.1 hi
  unfold lwB
  by_cases e:a=n
  ·subst e
   have e2:l.filter (λx=>decide (x<a))=[]:=List.filter_eq_nil_iff.2 λx hx=>by have:=hi'.1 x hx;simp;omega
   rw[List.filter_cons,if_neg (by simp),e2]
   simp
  ·have hm:n∈l:=by
    rcases List.mem_cons.1 h with h1 | h1
    ·exact absurd h1.symm e
    ·exact h1
   have ih:=Qbx hi'.2 hm
   unfold lwB at ih
   have ha:=hi'.1 n hm
   rw[List.filter_cons,if_pos (decide_eq_true ha),List.length_cons,ih,List.idxOf_cons]
   have:(a == n)=false:=by simpa using e
   rw[this];rfl
theorem jJ {L:LN}{w:World}{v:Value}{l:LI}(h:QL L w.heap v l) (hi:Yi l) (n:Int) :
  QJ prog 84 [v,.int .i64 n] w λr w'=>w'=w∧r=.tuple #[.int .i64 (lwB l n),.bool (decide (n∈l))]:=by
 have hle:=h.le
 refine QJ.of_W func84 rfl ntmps84 results84 (by simp) ?_
 refine Qc<|x Qh<|Qe<|Qc<|Qb<|x (Qr h rfl)<|Qe<|Qc<|Qb<|x Qh<|Qe<|Qf<|Qg<|QA (α:=Nat×Nat) [(7,9),(13,30)] (λz=>[(7,.int .i64 z.1),(8,.int .i64 z.2)])
  (λz w'=>w'=w∧z.1≤z.2∧z.2≤l.length∧(∀m (hm:m<l.length),m<z.1→l[m]<n)∧(∀m (hm:m<l.length),z.2≤m→n≤l[m])) (λz=>z.2 - z.1) (by rfl) (0,l.length) ⟨rfl,rfl,trivial⟩
  ⟨rfl,Nat.zero_le _,Nat.le_refl _,λm _ h0=>absurd h0 (Nat.not_lt_zero m),λm h1 h0=>absurd h1 (by simp only[] at h0;omega)⟩ ?_
 rintro ⟨i,j⟩ g w1 ⟨rfl,hij,hj,hlo,hhi⟩
 simp only[] at hij hj hlo hhi
 refine Qf<|Qc<|Qb<|Qb<|x (QB rfl rfl)<|xe ?_
 refine QG rfl (λh15=>?_) (λh15=>?_)
 ·have e:i=j:=by omega
  subst e
  refine Qx ?_
  refine QU (α:=Bool) [(4,5),(31,53)] (λz=>[(4,.int .i64 i),(5,.bool z)]) (λz w'=>w'=w1∧z=decide (n∈l)) (by rfl) ?_ ?_
  ·refine Qw<|Qb<|Qb<|Qb<|xb (QB rfl rfl) (λh34=>?_) (λh34=>?_)
   ·have hlt:i<l.length:=by omega
    refine Qb<|Qb<|Qb<|xii h rfl rfl hlt λa38 h38=>x (Qv h38 rfl)<|Qb<|xb (Q7 rfl rfl) (λh41=>?_) (λh41=>?_)
    ·refine Qb<|xs rfl<|xs rfl<|xs rfl<|xs rfl<|xs rfl<|xs rfl<|xs rfl<|xs rfl<|xs rfl<|x (Qm rfl)<|x (Qm rfl)<|x Qh<|Qe ?_
     have:n∈l:=by rw[←h41];exact List.getElem_mem hlt
     exact ⟨true,⟨rfl,rfl,trivial⟩,rfl,by simp[this]⟩
    refine Qb<|Qb<|Qb<|xii h rfl rfl hlt λa45 h45=>x (Qv h45 rfl)<|xl rfl<|xf<|(jc _).mono ?_
    rintro r3 w3 ⟨rfl,rfl⟩
    refine Qb<|xs rfl<|xs rfl<|x (Qm rfl)<|x (Qm rfl)<|x (Qm rfl)<|x Qh<|Qe<|⟨false,⟨rfl,rfl,trivial⟩,rfl,?_⟩
    have:n∉l:=by
     intro hm
     obtain ⟨m,hm1,hm2⟩:=List.getElem_of_mem hm
     by_cases hmi:m<i
     ·have:=hlo m hm1 hmi;omega
     ·by_cases hme:m=i
      ·subst hme;exact h41 hm2
      ·have:=Yi.get hi hm1 (show i<m by omega)
       have:=hhi i hlt (Nat.le_refl _)
       omega
    simp[this]
   refine Qb<|xs rfl<|xs rfl<|xs rfl<|xs rfl<|xs rfl<|xs rfl<|xs rfl<|xs rfl<|xs rfl<|xs rfl<|xs rfl<|xs rfl<|xs rfl<|xs rfl<|xs rfl<|xs rfl<|xs rfl <|
    x (Qm rfl)<|x Qh<|Qe<|⟨false,⟨rfl,rfl,trivial⟩,rfl,?_⟩
   have:n∉l:=by
    intro hm
    obtain ⟨m,hm1,hm2⟩:=List.getElem_of_mem hm
    have:=hlo m hm1 (by omega);omega
   simp[this]
  rintro z g w7 ⟨rfl,rfl⟩
  exact Ql ⟨[.int .i64 i,.bool (decide (n∈l))],⟨rfl,rfl,trivial⟩,rfl,by rw[Qi0 hi (show i≤l.length by omega) hlo hhi];rfl⟩
 have hij':i<j:=by omega
 refine Qi<|Qg<|Qc<|Qb<|Qb<|QO rfl rfl<|x (ZK rfl (by exact ⟨by omega,by omega⟩))<|x (qK (n:=1) rfl rfl (by decide))<|x (ZK rfl (by exact ⟨by omega,by omega⟩))<|Qe ?_
 have hh:(((i:Int)+(j:Int)) / 2 ^ 1)=(((i+j) / 2:Nat):Int):=by omega
 rw[hh]
 generalize hq:(i+j) / 2=q
 have hqi:i≤q:=by omega
 have hqj:q<j:=by omega
 have hql:q<l.length:=by omega
 refine Qc<|Qb<|Qb<|xii h rfl rfl hql λa24 h24=>x (Qv h24 rfl)<|Qb<|xl rfl<|xf<|(QbA _ _).mono ?_
 rintro r8 w8 ⟨rfl,rfl⟩
 refine xe ?_
 refine QG rfl (λh27=>?_) (λh27=>?_)
 ·refine Qw<|Qb<|Qe<|⟨(i,q),by simp only[];omega,⟨rfl,rfl,trivial⟩,rfl,hqi,by omega,hlo,λm hm hqm=>?_⟩
  by_cases e:q=m
  ·subst e;omega
  ·have:=Yi.get hi hm (show q<m by simp only[] at hqm;omega);omega
 refine Qw<|Qb<|QO rfl rfl<|Qe<|⟨(q+1,j),by simp only[];omega,⟨rfl,rfl,trivial⟩,rfl,hqj,hj,λm hm hmq=>?_,hhi⟩
 by_cases e:m=q
 ·subst e;exact h27
 ·have:=Yi.get hi hql (show m<q by simp only[] at hmq;omega);omega
theorem Kk {L:LN}{w:World}{v:Value}{l:List Ed}(h:Zj L w.heap v l.length 3 (l.flatMap Qy)) :
  QJ prog 67 [v] w λr w'=>Step [] w w'∧w'.ownsRow w.heap.size 144 3 r l.length (l.flatMap Qy):=by
 have hle:=h.le
 refine QJ.of_W func67 rfl ntmps67 results67 (by simp) ?_
 refine Qc<|Qe ?_
 obtain ⟨ao,cap,hv⟩:=h.shape
 refine Qf<|Qc<|Qb<|x (KL (show ev _ _=_ from hv) rfl)<|xe ?_
 refine Q5 rfl (λh4=>?_) (λh4=>?_)
 ·refine Qc<|Qe<|Ql ⟨[nS],⟨rfl,trivial⟩,Step.refl _ _,?_⟩
  rcases h.2.2 with ⟨h1,h2⟩ | ⟨a,c,h1,_⟩
  ·have:l=[]:=List.eq_nil_of_length_eq_zero h2
   subst this;exact QP _ _ _ _
  ·rw[h1] at hv;cases hv;cases h4
 rcases h.2.2 with ⟨h1,h2⟩ | ⟨a,c,h1,h2,h3⟩
 ·rw[h1] at hv;injection hv with e1;subst e1;cases h4
 refine Qi<|Qc ?_
 have ho:∀u∈l.flatMap Qy,u.oneCell'=true:=by
  intro u hu
  obtain ⟨p,_,hp⟩:=List.mem_flatMap.1 hu
  simp only[Qy,List.mem_cons,List.not_mem_nil,or_false] at hp
  rcases hp with rfl | rfl | rfl <;> rfl
 refine xl rfl<|Kg λb5 w1 hs1 hb5 hB5=>Qb<|xl rfl<|QZ (base:=w.heap.size) (hB5.own (n:=0) (sz:=3) rfl (by omega) hb5) rfl (show ev _ _=_ from h1) h.1 (h3.ext hs1) ho (by omega) (by have:=hB5.lt;omega) λv2 w2 ho2 hs2 hn2=>Qe<|Ql ⟨[v2],⟨rfl,trivial⟩,hs1.then1 hs2 hb5,?_⟩
 simpa[tup] using ho2
theorem QaK {L:LN}{w:World}{v:Value}{l:List J3}(h:Zj L w.heap v l.length 5 (l.flatMap Zf)) :
  QJ prog 81 [v] w λr w'=>Step [] w w'∧w'.ownsRow w.heap.size 87 5 r l.length (l.flatMap Zf):=by
 have hle:=h.le
 refine QJ.of_W func81 rfl ntmps81 results81 (by simp) ?_
 refine Qc<|Qe ?_
 obtain ⟨ao,cap,hv⟩:=h.shape
 refine Qf<|Qc<|Qb<|x (KL (show ev _ _=_ from hv) rfl)<|xe ?_
 refine Q5 rfl (λh4=>?_) (λh4=>?_)
 ·refine Qc<|Qe<|Ql ⟨[nS],⟨rfl,trivial⟩,Step.refl _ _,?_⟩
  rcases h.2.2 with ⟨h1,h2⟩ | ⟨a,c,h1,_⟩
  ·have:l=[]:=List.eq_nil_of_length_eq_zero h2
   subst this;exact QP _ _ _ _
  ·rw[h1] at hv;cases hv;cases h4
 rcases h.2.2 with ⟨h1,h2⟩ | ⟨a,c,h1,h2,h3⟩
 ·rw[h1] at hv;injection hv with e1;subst e1;cases h4
 refine Qi<|Qc ?_
 have ho:∀u∈l.flatMap Zf,u.oneCell'=true:=by
  intro u hu
  obtain ⟨p,_,hp⟩:=List.mem_flatMap.1 hu
  simp only[Zf,List.mem_cons,List.not_mem_nil,or_false] at hp
  rcases hp with rfl | rfl | rfl | rfl | rfl <;> rfl
 refine xl rfl<|Kg λb5 w1 hs1 hb5 hB5=>Qb<|xl rfl<|QZ (base:=w.heap.size) (hB5.own (n:=0) (sz:=5) rfl (by omega) hb5) rfl (show ev _ _=_ from h1) h.1 (h3.ext hs1) ho (by omega) (by have:=hB5.lt;omega) λv2 w2 ho2 hs2 hn2=>Qe<|Ql ⟨[v2],⟨rfl,trivial⟩,hs1.then1 hs2 hb5,?_⟩
 simpa[tup] using ho2
structure YY {α:Type}(g:α→LV) (sz T:Nat) (ps:α→List (Value×Nat×Nat×LV)) (base:Nat) (w:World) (v:Value) (l:List α):Prop where
 own:w.ownsRow base T sz v l.length (l.flatMap g)
 each:∀q∈l,∀t∈ps q,ZH base (ob v) w.heap t.1 t.2.1 t.2.2.1 t.2.2.2
section
variable {α:Type} {g:α→LV} {sz T:Nat} {ps:α→List (Value×Nat×Nat×LV)} {base:Nat} {w w':World} {v:Value} {l:List α}
theorem YY.nil:YY g sz T ps base w (nS) []:=⟨QP _ _ _ _,λq hq=>by cases hq⟩
theorem YY.ext (h:YY g sz T ps base w v l) (hs:Step [] w w'):YY g sz T ps base w' v l:=⟨Qs h.own hs,λq hq t ht=>(h.each q hq t ht).ext hs⟩
theorem YY.low {X:LN}(h:YY g sz T ps base w v l) (hs:Step X w w') (hX:∀b∈X,b<base):YY g sz T ps base w' v l :=
 ⟨Qj h.own hs (λb hb hm=>by have:=(Qk h.own b hb).1;have:=hX b hm;omega),λq hq t ht=>(h.each q hq t ht).low hs hX⟩
theorem YY.app {w7 w8:World}{v8:Value}{q:α}(h:YY g sz T ps base w v l) (hs:Step [] w w7)
  (hq:∀t∈ps q,∃N e,w7.ownsRow N e t.2.2.1 t.1 t.2.1 t.2.2.2∧t.2.1≤1099511627776∧w.heap.size≤N) (hb:base≤w.heap.size)
  (ho:w8.ownsRow base T sz v8 (l.length+1) (l.flatMap g++g q)) (hs8:Step (ob v) w7 w8) (hn:∀b∈ob v8,b∈ob v∨w7.heap.size≤b):YY g sz T ps base w8 v8 (l++[q]):=by
 have hlt:=QR h.own
 refine ⟨?_,λd hd t ht=>?_⟩
 ·rw[List.length_append,List.flatMap_append];simpa using ho
 ·rcases List.mem_append.1 hd with hd | hd
  ·exact ((h.each d hd t ht).ext hs).app hs8 hn
  ·simp only[List.mem_singleton] at hd;subst hd
   obtain ⟨N,e,h1,h2,h3⟩:=hq t ht
   exact (ZH.of_own h1 h2 (by omega) (λb hb=>by have:=hlt b hb;omega)).app hs8 hn
end
abbrev QcI (q:IV):List (Value×Nat×Nat×LV):=[(q.p.va,q.p.a.al.length,1,q.p.a.al.map (.int .i64)),(q.p.vm,q.p.a.mr.length,1,q.p.a.mr.map (.int .i64)),(q.p.ve,q.p.a.ed.length,3,q.p.a.ed.flatMap Qy)]
abbrev IvP (base:Nat) (w:World) (v:Value) (l:List IV):Prop:=YY QW 5 66 QcI base w v l
def Qlt (N:Nat) (H:Array Obj) (v:Value) (l:List YE):Prop:=∃qs:List IV,qs.map IV.it=l∧∀L:LN,(∀b∈L,b<N)→Y2 L H v qs
theorem IvP.itms {base:Nat}{w:World}{v:Value}{l:List IV}{L:LN}(h:IvP base w v l) (hn:l.length≤1099511627776) (hm:∀q∈l,VW q.nm) (hL:∀b∈L,b<base):Y2 L w.heap v l :=
 ⟨QT h.own hn (λb hb hbL=>by have:=(Qk h.own b hb).1;have:=hL b hbL;omega),λq hq=>⟨h.each q hq (q.p.va,q.p.a.al.length,1,q.p.a.al.map (.int .i64)) (by simp) L (λb hb=>.inl (hL b hb)),h.each q hq (q.p.vm,q.p.a.mr.length,1,q.p.a.mr.map (.int .i64)) (by simp) L (λb hb=>.inl (hL b hb)),h.each q hq (q.p.ve,q.p.a.ed.length,3,q.p.a.ed.flatMap Qy) (by simp) L (λb hb=>.inl (hL b hb))⟩,hm⟩
instance:Bw prog 66 [.string .empty,nS,.int .i64 0,nS,nS] [(0,1),(1,4)]:=⟨by kernel_rfl,by decide⟩
set_option maxHeartbeats 4000000 in
theorem UX {L:LN}{w:World}{v vi:Value}{qs:List IV}{ix:LI}(h0:Y2 L w.heap v qs) (hi0:QL L w.heap vi ix) (hb:∀i∈ix,0≤i∧i<(qs.length:Int)) :
  QJ prog 82 [v,vi] w λr w'=>Step [] w w'∧Qlt w.heap.size w'.heap r (chs (qs.map IV.it) ix)∧r.oneCell'=true:=by
 have h:Y2 [] w.heap v qs:=h0.up (by simp)
 have hi:QL [] w.heap vi ix:=hi0.up (by simp)
 have hil:=hi.le
 refine QJ.of_W func82 rfl ntmps82 results82 (by simp) ?_
 refine Qc<|Qe<|Qc<|Qe<|Qf<|Qc<|Qb<|x (Qr hi rfl)<|Qb<|xe ?_
 refine Qg<|QA (α:=Nat×Value×List IV) [(5,5),(7,8),(11,41)] (λz=>[(5,z.2.1),(11,.int .i64 z.1)]) (λz w'=>z.1≤ix.length∧Step [] w w'∧IvP w.heap.size w' z.2.1 z.2.2∧z.2.2.map IV.it=chs (qs.map IV.it) (ix.take z.1)∧∀q∈z.2.2,VW q.nm) (λz=>ix.length - z.1) (by rfl) (0,nS,[]) ⟨rfl,rfl,trivial⟩
  ⟨Nat.zero_le _,Step.refl _ _,YY.nil,rfl,λq hq=>by cases hq⟩ ?_
 rintro ⟨k,vo,qo⟩ g w1 ⟨hk,hs1,hR1,hq1,hnm1⟩
 simp only[] at hk hR1 hq1 hnm1
 have hqol:qo.length=k:=by have:=congrArg List.length hq1;unfold chs at this;rw[List.length_map,List.length_map,List.length_take] at this;omega
 refine Qc<|x (QB rfl rfl)<|xe ?_
 refine Qf<|QG rfl (λh12=>?_) (λh12=>?_)
 ·refine Qx ?_
  have hke:ix.length≤k:=by have h13:¬(k:Int)<(ix.length:Int):=h12;omega
  rw[List.take_of_length_le hke] at hq1
  refine Qc<|Qb<|Qe ?_
  exact Ql ⟨[_],⟨rfl,trivial⟩,hs1,⟨qo,hq1,λL hL=>hR1.itms (by omega) hnm1 hL⟩,QH hR1.own⟩
 refine Qi ?_
 have hlt:k<ix.length:=by have h13:(k:Int)<(ix.length:Int):=h12;omega
 have hik:=hb _ (List.getElem_mem hlt)
 have htk:ix.take (k+1)=ix.take k++[ix[k]'hlt]:=List.take_succ_eq_append_getElem hlt
 refine Zd (ix[k]'hlt) λi hii=>?_
 rw[hii] at hik htk
 have hin:i=(i.toNat:Int):=by omega
 have hil2:i.toNat<qs.length:=by omega
 have hchs:chs (qs.map IV.it) (ix.take (k+1))=chs (qs.map IV.it) (ix.take k)++[(qs[i.toNat]'hil2).it]:=by
  rw[htk];unfold chs;rw[List.map_append];simp[List.getD,hil2]
 have h1:=h.ext hs1
 have hmem:=List.getElem_mem hil2
 refine Zd (qs[i.toNat]'hil2) λq hq=>?_
 rw[hq] at hchs hmem
 have hqA:=h1.each q hmem
 have hqn:=h1.nm q hmem
 refine Qf<|Qg<|Qc<|xii (i:=k) (hi.ext hs1) rfl rfl hlt λa13 h13=>?_
 rw[hii] at h13
 refine x (Qv h13 rfl)<|Qe<|Qc<|Qb<|Qb<|xig (g:=QW) (i:=i.toNat) Yq h1.arr rfl (congrArg (Value.int .i64) hin) hil2 λa17 h17=>?_
 rw[hq] at h17
 refine x (Zc rfl)<|x (QC (us:=[q.p.va,.int .i64 q.p.a.st,q.p.vm,q.p.ve]) (h17.from 1) rfl rfl)<|xl rfl<|Qt (us:=[nS,.int .i64 0,nS,nS]) rfl λb8 w2 hs2 hb8 hB8 =>
  xl rfl<|Qn (us:=[q.p.va,.int .i64 q.p.a.st,q.p.vm,q.p.ve]) hB8 rfl rfl rfl rfl ⟨hqA.al.one,rfl,hqA.mr.one,hqA.ed.one,trivial⟩ λw3 hs3 hB8=>xe ?_
 have hs13:Step [] w1 w3:=hs2.then1 hs3 hb8
 have hd3:Step [] w3 { w3 with drawn:=w3.drawn+1 }:=Step.drew _ _
 have hz13:=hs13.size
 have hz1:=hs1.size
 have hvoL:=Qk hR1.own
 have h3:Y2 (ob vo) w3.heap v qs:=(h.up (L':=ob vo) (λb hb=>.inr (hvoL b hb).1)).ext (hs1.trans hs13)
 have hb8v:b8∉ob vo:=λhm=>by have:=(hvoL b8 hm).2;omega
 have hqA3:=hqA.ext hs13
 refine QS (Step (ob vo) w3) [(0,true),(1,true),(2,true),(3,true),(4,true),(5,true),(6,true),(7,true),(9,true),(10,true),(11,true),(12,true),(14,true),(15,true),(8,false),(13,false),(16,false),(17,true),(18,true),(19,false),(20,false),(21,true)] mixed (by rfl) (by kernel_rfl) (Step.drew _ _) ?_
 refine p (λ_=>Qo)<|p (λ_=>Qo)<|p (λ_=>Qo)<|Go.Lg.pig (g:=QW) (i:=i.toNat) rfl Yq h3.arr rfl (congrArg (Value.int .i64) hin) hil2 λa23 h23=>?_
 rw[hq] at h23
 refine p (λ_=>Zc rfl)<|pq (λ_ hc=>Qv ((h23.fld 0 (.string q.nm) rfl).st hc) rfl)<|p (λ_=>Qa rfl)<|pq (λ_ hc=>Qd (hB8.step hc hb8v) rfl rfl)<|p (λ_=>Qa rfl) <|
  pq (λ_ hc=>Qd (hB8.step hc hb8v) rfl rfl)<|p (λ_=>Qa rfl)<|pq (λ_ hc=>Qd (hB8.step hc hb8v) rfl rfl) <|
  p (λ_=>Qa rfl)<|pq (λ_ hc=>Qd (hB8.step hc hb8v) rfl rfl)<|pk<|xf<|(ZU (hqA3.al.ext hd3)).mono ?_
 rintro r4 w4 ⟨hs4,ho4⟩
 refine ⟨(hd3.trans hs4).any,?_⟩
 refine pk<|xf<|(ZU ((hqA3.mr.ext hd3).ext hs4)).mono ?_
 rintro r5 w5 ⟨hs5,ho5⟩
 refine ⟨((hd3.trans hs4).trans hs5).any,?_⟩
 refine pk<|xf<|(Kk (((hqA3.ed.ext hd3).ext hs4).ext hs5)).mono ?_
 rintro r6 w6 ⟨hs6,ho6⟩
 have hs36:=((hd3.trans hs4).trans hs5).trans hs6
 refine ⟨hs36.any,?_⟩
 refine p (λ_=>QE ⟨Q3 ho4,rfl,Q3 ho5,Q3 ho6,trivial⟩)<|p (λ_=>ZS [(0,[.string q.nm]),(1,[r4,.int .i64 q.p.a.st,r5,r6])] ⟨rfl,rfl,rfl,rfl,trivial⟩)<|pk<|QD (us:=[QW ⟨q.nm,⟨r4,r5,r6,q.p.a⟩⟩]) rfl rfl (by decide) (by simp) ⟨rfl,rfl,trivial⟩ λb39 w7 hs7 hb39 hB39=>⟨(hs36.trans hs7).any,?_⟩
 have hs17:=(hs13.trans hs36).trans hs7
 have hz17:=hs17.size
 have hzd:({ w3 with drawn:=w3.drawn+1 }:World).heap.size=w3.heap.size:=rfl
 have hz4:=hs4.size
 have hz5:=hs5.size
 refine pk<|QZ (m:=1) (news:=QW ⟨q.nm,⟨r4,r5,r6,q.p.a⟩⟩) (L:=[]) (Qs hR1.own hs17) rfl rfl rfl (hB39.at (by simp)) (λu hu=>by
   simp only[List.mem_cons,List.not_mem_nil,or_false] at hu
   rcases hu with rfl | rfl | rfl | rfl | rfl
   ·rfl
   ·exact QH ho4
   ·rfl
   ·exact QH ho5
   ·exact QH ho6) (by omega) (by omega) λv8 w8 ho8 hs8 hn8=>⟨(hs36.trans hs7).any.trans' hs8,?_⟩
 refine p (λ_=>Qh)<|pe ?_
 have hal:=hqA.al.le
 have hml:=hqA.mr.le
 have hedl:=hqA.ed.le
 have hR8:IvP w.heap.size w8 v8 (qo++[⟨q.nm,⟨r4,r5,r6,q.p.a⟩⟩]):=hR1.app hs17 (λt ht=>by
  simp only[List.mem_cons,List.not_mem_nil,or_false] at ht
  rcases ht with rfl | rfl | rfl
  ·exact ⟨_,_,Qs (Qs (Qs ho4 hs5) hs6) hs7,hal,by omega⟩
  ·exact ⟨_,_,Qs (Qs ho5 hs6) hs7,hml,by omega⟩
  ·exact ⟨_,_,Qs ho6 hs7,hedl,by omega⟩) (by omega) ho8 hs8 hn8
 refine Qw<|QO rfl rfl<|Qb<|xe ?_
 refine ⟨(k+1,v8,_),by simp only[];omega,⟨rfl,rfl,trivial⟩,hlt,(hs1.trans hs17).then hs8 (λb hb=>.inr (hvoL b hb).1),hR8,?_,λq' hq'=>?_⟩
 ·simp only[]
  rw[hchs,List.map_append,hq1];rfl
 ·rcases List.mem_append.1 hq' with h9 | h9
  ·exact hnm1 q' h9
  ·simp only[List.mem_singleton] at h9;subst h9;exact hqn
theorem qI {L:LN}{w:World}{bp bm:Nat}{v0 v1 v2 v3:Value}{co:LI}{mi:Bool}(hB:Q2 w.heap bp 95 [v0,v1,v2,v3]) (hm:Q2 w.heap bm 4 [.bool mi]) (hco:QL L w.heap v0 co) (hi:Yi co) (n:Int) :
  QJ prog 83 [.int .i64 n,.pointer (some ⟨bp,0,none⟩),.pointer (some ⟨bm,0,none⟩)] w λr w'=>Step [bm] w w'∧r=.int .i64 (lwB co n)∧Q2 w'.heap bm 4 [.bool (mi || !decide (n∈co))]:=by
 refine QJ.of_W func83 rfl ntmps83 results83 (by simp) ?_
 refine Qc<|Qe<|Qc<|x (Qa rfl)<|x (Qd hB rfl rfl)<|Qb<|xl rfl<|xf<|(jJ hco hi n).mono ?_
 rintro r1 w1 ⟨rfl,rfl⟩
 refine Qb<|x (Qp rfl rfl)<|x (Qp rfl rfl)<|x Qh<|Qe<|QU (α:=Bool) [(14,18)] (λz=>[]) (λz w'=>Step [bm] w1 w'∧Q2 w'.heap bm 4 [.bool (mi || !decide (n∈co))]) (by rfl) ?_ ?_
 ·refine Qw<|xB (Qd hm rfl rfl) (λh14=>?_) (λh14=>?_)
  ·refine Qb<|xs rfl<|xs rfl<|x (Qm rfl)<|xl rfl<|QF (j:=0) (u:=.bool true) hm rfl rfl (by simp) rfl λw2 hs2 hB2=>xe ?_
   exact ⟨true,trivial,hs2,by rw[h14];exact hB2⟩
  refine Qb<|Qb<|x (Zn rfl)<|x (Qm rfl)<|xl rfl<|QF (j:=0) (u:=.bool (!decide (n∈co))) hm rfl rfl (by simp) rfl λw3 hs3 hB3=>xe ?_
  exact ⟨true,trivial,hs3,by rw[h14];exact hB3⟩
 rintro z g w4 ⟨hs4,hB4⟩
 refine Qc<|Qb<|Qe ?_
 exact Ql ⟨[_],⟨rfl,trivial⟩,hs4,rfl,hB4⟩
theorem ZH.of_lt {base N:Nat}{av:LN}{H:Array Obj}{v:Value}{n sz:Nat}{cs:LV}(h:∀L:LN,(∀b∈L,b<N)→Zj L H v n sz cs) (hb:base≤N) (hav:∀b∈av,b<N):ZH base av H v n sz cs:=λL hL =>
 h L (λb hbL=>(hL b hbL).elim (λh=>by omega) (hav b))
theorem Jd (L:LN) (H:Array Obj):QL L H (nS) []:=Zj.nil L H 1
end Go.Proofs.YtdffckgdcegpaaaGreatDoor
namespace Go.Lg
open Go.RowKit
def U0 (P:Program) (all:List Oper) (C:World→Prop) (K:LN→Fr→World→Prop):List (Nat×Bool)→LN→Fr→World→Prop
 | [],own,f,w=>K own f w
 | (j,true)::l,own,f,w=>Yd all f (Q6 all j)=true∧∃v,(∀w',(qb (Q6 all j)=true→C w')→(execOp (ev f) (Q6 all j)).run P w'=.ok (.value v) w')∧U0 P all C K l own (QY f (Q6 all j).dst v) w
 | (j,false)::l,own,f,w=>Yd all f (Q6 all j)=true∧∀w1,Step [] w w1→C w1→XO P (Q6 all j) f w1 λf' w'=>C w'∧∃own',Step own w1 w'∧(∀b∈own',b∈own∨(w1.heap.size≤b∧b<w'.heap.size))∧U0 P all C K l own' f' w'
section
variable {P:Program} {n:Nat} {f:Fr} {w:World} {all:List Oper} {C:World→Prop} {K:Fr→World→Prop} {KF:LN→Fr→World→Prop}
theorem U0.ext (hK:∀own f w w',KF own f w→Step [] w w'→KF own f w'):∀{l:List (Nat×Bool)}{own:LN}{f:Fr}{w w':World},U0 P all C KF l own f w→Step [] w w'→U0 P all C KF l own f w'
 | [],_,_,_,_,h,hs=>hK _ _ _ _ h hs
 | (_,true)::_,_,_,_,_,h,hs=>by
  obtain ⟨hg,v,hv,hx⟩:=h
  exact ⟨hg,v,hv,U0.ext hK hx hs⟩
 | (_,false)::_,_,_,_,_,h,hs=>⟨h.1,λw1 h1 hc=>h.2 w1 (hs.trans h1) hc⟩
structure Fl2 (P:Program) (all:List Oper) (C:World→Prop) (K:Fr→World→Prop) (KF:LN→Fr→World→Prop) (i d:Nat) (rest:List (Nat×Bool)) (Φ:Value→World→Prop) (Dc:List (Nat×Nat)) (f1:Fr):Prop where
 stab:∀v (own:LN) w w',Φ v w→Step own w w'→(∀b∈ow v,b∉own)→Φ v w'
 spec:∀f w,(∀t,Xj Dc t=false→f t=f1 t)→C w→XO P (Q6 all i) f w λf' w'=>Step [] w w'∧C w'∧Φ (f' d) w'∧∀b∈ow (f' d),w.heap.size≤b∧b<w'.heap.size
 fin:∀own f w,KF own f w→∀v,C w→Φ v w→(∀b∈ow v,b∉own∧b<w.heap.size)→XP P all C K rest (QY f (some d) v) w
 mono:∀own f w w',KF own f w→Step [] w w'→KF own f w'
attribute [local semireducible] XP in
theorem VE {i d:Nat}{rest:List (Nat×Bool)}{Φ:Value→World→Prop}{Dc:List (Nat×Nat)}{f1:Fr}(hF:Fl2 P all C K KF i d rest Φ Dc f1) (hs:Region.noSelect all.toArray=true) {v:Value}:∀(l:List (Nat×Bool)) (own:LN) (f:Fr) (w:World),Z9 all d l=true→U0 P all C KF l own f w→C w→Φ v w →
  (∀b∈ow v,b∉own∧b<w.heap.size)→XP P all C K (l++rest) (QY f (some d) v) w
 | [],own,f,w,_,h,hC,hv,hb=>hF.fin own f w h v hC hv hb
 | (j,q)::l,own,f,w,hfr,h,hC,hv,hb=>by
  simp only[Z9,List.all_cons,Bool.and_eq_true,Bool.not_eq_true',List.contains_eq_mem,decide_eq_false_iff_not,beq_eq_false_iff_ne,ne_eq] at hfr
  obtain ⟨⟨h1,h2⟩,hfr⟩:=hfr
  have hfr':Z9 all d l=true:=by simpa[Z9] using hfr
  have hsel:∀cs b,(Q6 all j).op≠.select cs b:=by
   intro cs b
   cases ho:all[j]? with
   | none =>
    have:Q6 all j=default:=by
     clear h h1 h2 hfr hfr'
     have key:∀(l:List Oper) (j:Nat),l[j]?=none→Q6 l j=default:=by
      intro l
      induction l with
      | nil=>intro j _;rfl
      | cons a l ih=>intro j hj;cases j with | zero=>simp at hj | succ j=>exact ih j (by simpa using hj)
     exact key all j ho
    rw[this]
    intro e;cases e
   | some o=>rw[Zq ho];exact Region.noSelect_spec hs j o cs b (by simpa using ho)
  have hd:∀e,some d=some e→e∉(Q6 all j).looksAt all.toArray:=λe he=>by cases he;exact h1
  cases q with
  | true =>
   obtain ⟨hg,u,hu,hx⟩:=h
   simp only[List.cons_append,XP]
   rw[X4 (Q6 all j) f (some d) v hd,hg,cond_true,cond_true]
   refine ⟨u,λw' hc=>?_,?_⟩
   ·rw[YW (all:=all) hsel f (some d) v hd];exact hu w' hc
   ·rw[JU f v u (λe he=>by cases he;exact h2)]
    exact VE hF hs l own _ w hfr' hx hC hv hb
  | false =>
   simp only[List.cons_append,XP]
   rw[X4 (Q6 all j) f (some d) v hd,h.1,cond_true,cond_false]
   refine Qb6 (all:=all) hsel h1 h2 (λu w' hx=>?_) (h.2 w (Step.refl _ _) hC)
   obtain ⟨hC',own',hst,how,hx⟩:=hx
   refine ⟨.inr (.inr hC'),VE hF hs l own' _ w' hfr' hx hC' (hF.stab v own w w' hv hst (λb hbb=>(hb b hbb).1)) (λb hbb=>⟨λhm=>?_,Nat.lt_of_lt_of_le (hb b hbb).2 hst.size⟩)⟩
   rcases how b hm with h3 | h3
   ·exact (hb b hbb).1 h3
   ·exact Nat.lt_irrefl _ (Nat.lt_of_lt_of_le (hb b hbb).2 h3.1)
theorem QaR {i d:Nat}{rest:List (Nat×Bool)}{Φ:Value→World→Prop}{Dc:List (Nat×Nat)}{f1:Fr}(hF:Fl2 P all C K KF i d rest Φ Dc f1) (hs:Region.noSelect all.toArray=true) (hg:(Q6 all i).guard=none) (hd:(Q6 all i).dst=some d):∀(l:List (Nat×Bool)) (ls:Array Bool) (own:LN) (f:Fr) (w:World),ls.size=all.length→Z9 all d l=true→Z6 all Dc l=true→(∀t,Xj Dc t=false→f t=f1 t) →
  U0 P all C KF l own f w→C w→(∀b∈own,b<w.heap.size)→UL all.toArray i rest l ls=true→XA P all C K (l.length+1+rest.length) ls f w
 | [],ls,own,f,w,hsz,hfr,hin,hk1,h,hC,hown,hp=>by
  simp only[UL,Bool.and_eq_true,beq_iff_eq] at hp
  obtain ⟨hr,hp⟩:=hp
  rw[show ([]:List (Nat×Bool)).length+1+rest.length=rest.length+1 by simp;omega]
  refine Jl (λh0=>(by rw[h0] at hr;cases hr)) ?_
  rw[hr]
  intro k hk o ho
  have hki:k=i:=by simpa using hk
  subst hki
  have hoi:=Zq ho
  have hx:=hF.spec f w hk1 hC
  rw[hoi] at hg hd hx
  rw[KZ hg,cond_true]
  refine hx.mono λv w' hx=>?_
  rw[hd] at hx ⊢
  obtain ⟨h1,h2,h3,h4⟩:=hx
  simp only[QY,Yt] at h3 h4
  refine ⟨.inr (.inr h2),ZA hs rest _ _ _ (by simpa using hsz) (.inl h2) hp (hF.fin own f w' (hF.mono own f w w' h h1) v h2 h3 (λb hb=>⟨λhm=>Nat.lt_irrefl _ (Nat.lt_of_lt_of_le (hown b hm) (h4 b hb).1),(h4 b hb).2⟩))⟩
 | (j,true)::l,ls,own,f,w,hsz,hfr,hin,hk1,h,hC,hown,hp=>by
  simp only[UL,Bool.and_eq_true] at hp
  obtain ⟨⟨hr,hf⟩,hp'⟩:=hp
  have hri:j∈Region.ready .any all.toArray ls:=by simpa using hr
  have e:(List.length ((j,true)::l))+1+rest.length=(l.length+1+rest.length)+1:=by simp;omega
  rw[e]
  have hfr':Z9 all d l=true:=by simp only[Z9,List.all_cons,Bool.and_eq_true] at hfr;exact hfr.2
  simp only[Z6,List.all_cons,Bool.and_eq_true] at hin
  have hin':Z6 all Dc l=true:=hin.2
  cases ho:all[j]? with
  | none =>
   exfalso
   obtain ⟨_,o,hoo,_⟩:=mem_ready.1 hri
   simp[ho] at hoo
  | some o =>
   obtain ⟨hgj,v,hv,hx⟩:=h
   rw[Zq ho] at hgj hv hx
   have hsel:∀(j:Nat) (o:Oper) cs b,all[j]?=some o→o.op≠.select cs b:=λj o cs b hj=>Region.noSelect_spec hs j o cs b (by simpa using hj)
   have hfree:=λk ok hk=>Region.free_spec (ops:=all.toArray) (md:=.any) (i:=j) (oi:=o) (listed:=ls) (by simpa using ho) hf k ok (by simpa using hk)
   exact YX (v:=v) (D:=λw=>qb o=true→C w) ho (λ_ h=>h) hsel _ ls f w (λ_=>hC) hfree hri (.inl ⟨hgj,hv⟩) (QaR hF hs hg hd l _ own _ w (by simpa using hsz) hfr' hin' (by have:=JG (v:=v) hin.1 hk1;rw[Zq ho] at this;exact this) hx hC hown hp')
 | (j,false)::l,ls,own,f,w,hsz,hfr,hin,hk1,h,hC,hown,hp=>by
  simp only[UL,Bool.and_eq_true,List.all_eq_true,Bool.or_eq_true,beq_iff_eq,Bool.not_eq_true'] at hp
  obtain ⟨⟨⟨hne,hr⟩,hpl⟩,hp'⟩:=hp
  have e:(List.length ((j,false)::l))+1+rest.length=(l.length+1+rest.length)+1:=by simp;omega
  rw[e]
  have hfr':Z9 all d l=true:=by simp only[Z9,List.all_cons,Bool.and_eq_true] at hfr;exact hfr.2
  simp only[Z6,List.all_cons,Bool.and_eq_true] at hin
  have hin':Z6 all Dc l=true:=hin.2
  refine Jl (λh0=>(by rw[h0] at hne;cases hne)) ?_
  intro k hk o ho
  have hoi:=Zq ho
  have hsz':(ls.setIfInBounds k true).size=all.length:=by simpa using hsz
  by_cases hki:k=i
  ·subst hki
   have hx:=hF.spec f w hk1 hC
   rw[hoi] at hg hd hx
   rw[KZ hg,cond_true]
   refine hx.mono λv w' hx=>?_
   rw[hd] at hx ⊢
   obtain ⟨h1,h2,h3,h4⟩:=hx
   simp only[QY,Yt] at h3 h4
   refine ⟨.inr (.inr h2),?_⟩
   have hx:=VE hF hs ((j,false)::l) own f w' hfr (U0.ext hF.mono h h1) h2 h3 (λb hb=>⟨λhm=>Nat.lt_irrefl _ (Nat.lt_of_lt_of_le (hown b hm) (h4 b hb).1),(h4 b hb).2⟩)
   have:=ZA hs ((j,false)::(l++rest)) _ _ _ hsz' (.inl h2) hpl hx
   rw[show ((j,false)::(l++rest)).length=l.length+1+rest.length by simp;omega] at this
   exact this
  ·have hkj:k=j:=(hr k hk).resolve_right hki
   subst hkj
   have h1:=h.1
   have h2:=h.2 w (Step.refl _ _) hC
   rw[hoi] at h1 h2
   rw[h1,cond_true]
   refine h2.mono λv w' hx=>?_
   obtain ⟨hC',own',hst,how,hx⟩:=hx
   refine ⟨.inr (.inr hC'),QaR hF hs hg hd l _ own' _ w' hsz' hfr' hin' (by have:=JG (v:=v) hin.1 hk1;rw[hoi] at this;exact this) hx hC' (λb hb=>?_) hp'⟩
   rcases how b hb with h3 | h3
   ·exact Nat.lt_of_lt_of_le (hown b h3) hst.size
   ·exact h3.2
theorem U0.keeps {D:List (Nat×Nat)}{f0:Fr}:∀(l:List (Nat×Bool)) (own:LN) (f:Fr) (w:World),Z6 all D l=true→(∀t,Xj D t=false→f t=f0 t)→U0 P all C KF l own f w→U0 P all C (λo f' w'=>(∀t,Xj D t=false→f' t=f0 t)∧KF o f' w') l own f w
 | [],own,f,w,_,hf,h=>⟨hf,h⟩
 | (j,true)::l,own,f,w,hd,hf,h=>by
  simp only[Z6,List.all_cons,Bool.and_eq_true] at hd
  obtain ⟨hg,v,hv,hx⟩:=h
  exact ⟨hg,v,hv,U0.keeps l own _ _ hd.2 (JG hd.1 hf) hx⟩
 | (j,false)::l,own,f,w,hd,hf,h=>by
  simp only[Z6,List.all_cons,Bool.and_eq_true] at hd
  refine ⟨h.1,λw1 h1 hc=>XO.mono (λv w' hx=>?_) (h.2 w1 h1 hc)⟩
  obtain ⟨hC',own',hst,how,hx⟩:=hx
  exact ⟨hC',own',hst,how,U0.keeps l own' _ _ hd.2 (JG hd.1 hf) hx⟩
theorem f2p {j:Nat}{l:List (Nat×Bool)}{own:LN}{v:Value}(hr:∀w',(execOp (ev f) (Q6 all j)).run P w'=.ok (.value v) w') (h:U0 P all C KF l own (QY f (Q6 all j).dst v) w)
  (hg:Yd all f (Q6 all j)=true:=by rfl):U0 P all C KF ((j,true)::l) own f w:=⟨hg,v,λw' _=>hr w',h⟩
theorem f2k {j:Nat}{l:List (Nat×Bool)}{own:LN}(h:∀w1,Step [] w w1→C w1→XO P (Q6 all j) f w1 λf' w'=>C w'∧∃own',Step own w1 w'∧(∀b∈own',b∈own∨(w1.heap.size≤b∧b<w'.heap.size))∧U0 P all C KF l own' f' w')
  (hg:Yd all f (Q6 all j)=true:=by rfl):U0 P all C KF ((j,false)::l) own f w:=⟨hg,h⟩
theorem f2e {own:LN}(h:KF own f w):U0 P all C KF [] own f w:=h
theorem VF {Q:Exit→Fr→World→Prop}{id:Nat}{α:Type}(C:World→Prop) (pre l:List (Nat×Bool)) (i d:Nat) (rest:List (Nat×Bool)) (own:LN) (D Dc:List (Nat×Nat)) (S:α→List (Nat×Value)) (I:α→LN→World→Prop) (Φ:Value→World→Prop) (hm:P.follows .mixedOrders=true) (hn:XJ n all=true)
  (hp:Qfb all pre l i rest=true) (hin:(Z6 all D pre && Z6 all D l && Z6 all Dc l)=true) (hd:(Q6 all i).dst=some d) (hC:C { w with drawn:=w.drawn+1 }) (hown:∀b∈own,b<w.heap.size)
  (stab:∀v (own:LN) w w',Φ v w→Step own w w'→(∀b∈ow v,b∉own)→Φ v w') (mono:∀z own w w',I z own w→Step [] w w'→I z own w')
  (fin:∀z g own w v,I z own w→C w→Φ v w→(∀b∈ow v,b∉own∧b<w.heap.size)→XP P all C (λf w=>Q .normal f w) rest (QY (zk (S z) (mix D f g)) (some d) v) w)
  (h:XP P all C (λf1 _=>(∀g w,C w→XO P (Q6 all i) (mix Dc f1 g) w λf' w'=>Step [] w w'∧C w'∧Φ (f' d) w'∧∀b∈ow (f' d),w.heap.size≤b∧b<w'.heap.size)∧U0 P all C (λo f' w'=>∃z,Xp f' (S z)∧I z o w') l own f1 { w with drawn:=w.drawn+1 }) pre f { w with drawn:=w.drawn+1 }):W P n (.region id all.toArray true) Q f w:=by
 rw[Bool.and_eq_true,Bool.and_eq_true] at hin
 simp only[Qfb,Bool.and_eq_true,beq_iff_eq,Option.isNone_iff_eq_none] at hp
 obtain ⟨⟨⟨⟨⟨hs,hl⟩,hq⟩,hgo⟩,hg⟩,hfr⟩:=hp
 rw[hd] at hfr
 refine Ks C hm hn ?_
 have h1:=YD (K:=λf w=>Q .normal f w) (m:=l.length+1+rest.length) hs pre (Array.replicate all.length false) f _ hC hq
  (B:=λf1 _=>Fl2 P all C (λf w=>Q .normal f w) (λo f' w'=>(∀t,Xj D t=false→f' t=f t)∧∃z,Xp f' (S z)∧I z o w') i d rest Φ Dc f1∧U0 P all C (λo f' w'=>(∀t,Xj D t=false→f' t=f t)∧∃z,Xp f' (S z)∧I z o w') l own f1 { w with drawn:=w.drawn+1 })
  (λf1 hB=>QaR hB.1 hs hg hd l (ZX pre (Array.replicate all.length false)) own f1 _ (by rw[YF];simp) hfr hin.2 (λ_ _=>rfl) hB.2 hC hown hgo)
  (XP.keeps_mono _ _ _ (XP.keeps pre f _ hin.1.1 (λ_ _=>rfl) h) (λf1 w1 hx=>⟨⟨stab,?_,?_,?_⟩,U0.keeps l own _ _ hin.1.2 hx.1 hx.2.2⟩))
 ·rw[hl] at h1
  exact h1
 ·intro f' w' hk hC'
  have:=hx.2.1 f' w' hC'
  rw[JD hk] at this
  exact this
 ·rintro o f' w' ⟨hk,z,hs,hi⟩ v hC' hv hb
  have:=fin z f' o w' v hi hC' hv hb
  rw[JD hk,YK hs] at this
  exact this
 ·rintro o f' w' w'' ⟨hk,z,hs,hi⟩ hst
  exact ⟨hk,z,hs,mono z o _ _ hi hst⟩
end
attribute [irreducible] U0
end Go.Lg
namespace Go.Proofs.YtdffckgdcegpaaaGreatDoor
open Go.Lg
abbrev Z3:LV:=[nS,nS,nS,nS,nS]
abbrev VX:LV:=[nS,.int .i64 0,nS,nS]
theorem YM {a:Array UInt8}(h:a.size≤100):(⟨a⟩:ByteArray).size≤9223372036854775807:=by
 show a.size≤_
 omega
def yI (N M:Nat):LN:=(List.range M).filter λb=>decide (N≤b)
theorem ZT {N M b:Nat}:b∈yI N M↔N≤b∧b<M:=by
 unfold yI
 rw[List.mem_filter,List.mem_range,decide_eq_true_iff]
 exact And.comm
end Go.Proofs.YtdffckgdcegpaaaGreatDoor
