/- Merged out of 19 texts. -/
import Derived.Test.YtdffckgdcegpaaaGreatDoorKqb
namespace Go.Proofs.YtdffckgdcegpaaaGreatDoor
open Go.Proofs.Tryz
open Go.Lg
inductive Cd where
 | ex (b:Nat) (q:XV)
 | co (b:Nat) (q:KV)
def Cd.val:Cd→Value
 | .ex b _=>.func (.func 259) #[] #[.pointer (some ⟨b,0,none⟩)]
 | .co b _=>.func (.func 262) #[] #[.pointer (some ⟨b,0,none⟩)]
def Cd.src:Cd→Sum XV KV
 | .ex _ q=>.inl q
 | .co _ q=>.inr q
def Qde (t:LI):Sum XV KV→Bool
 | .inl q=>Ks t q.x
 | .inr q=>Vx t q.k
def Cd.vio (t:LI) (c:Cd):Bool:=Qde t c.src
abbrev Vp (c:Cd):LV:=[c.val]
theorem Qk0 (c:Cd):(Vp c).length=1:=rfl
def CdA (H:Array Obj):Cd→Prop
 | .ex b q=>Q3 H b 122 (Zt q)∧P2s [] H q.v q.ls
 | .co b q=>Q3 H b 127 (Zv q)∧P2s [] H q.v q.ts
theorem CdA.ext {w w':World}{c:Cd}(h:CdA w.heap c) (E:Step [] w w'):CdA w'.heap c:=by
 cases c with
 | ex b q=>exact ⟨h.1.ext E,h.2.ext E⟩
 | co b q=>exact ⟨h.1.ext E,h.2.ext E⟩
def Cd.rg (n:Nat):Cd→Prop
 | .ex _ q=>∀p∈q.ls,0≤p.1∧p.1<(n:Int)
 | .co _ q=>(∀p∈q.ts,0≤p.1∧p.1<(n:Int)∧-65536≤p.2∧p.2≤65536)∧q.ts.length≤8
theorem j7 {q:XV}(w:World):QJ prog 209 [.agg (Zt q).toArray] w λr w'=>Step [] w w'∧∃b,r=(Cd.ex b q).val∧w.heap.size≤b∧Q3 w'.heap b 122 (Zt q):=by
 refine QJ.of_W func209 O ntmps209 results209 (by simp) ?_;refine Qc<|xl O<|QT (us:=Zt q) O λE J G H I=>Qe<|Qc<|x Zq<|Qe ?_;exact Qn ⟨[_],Z,G,E,O,H,I⟩
theorem Qbr {q:KV}(w:World):QJ prog 210 [.agg (Zv q).toArray] w λr w'=>Step [] w w'∧∃b,r=(Cd.co b q).val∧w.heap.size≤b∧Q3 w'.heap b 127 (Zv q):=by
 refine QJ.of_W func210 O ntmps210 results210 (by simp) ?_;refine Qc<|xl O<|QT (us:=Zv q) O λE J G H I=>Qe<|Qc<|x Zq<|Qe ?_;exact Qn ⟨[_],Z,G,E,O,H,I⟩
def CdB (H:Array Obj):Cd→Prop
 | .ex b q=>Q3 H b 122 (Zt q)
 | .co b q=>Q3 H b 127 (Zv q)
def Cd.blk:Cd→Nat
 | .ex b _=>b
 | .co b _=>b
theorem CdB.lt {H:Array Obj}{c:Cd}(h:CdB H c):c.blk<H.size:=by cases c <;> exact Q3.lt h
theorem CdB.step {X:LN}{w w':World}{c:Cd}(h:CdB w.heap c) (E:Step X w w') (G:c.blk∉X):CdB w'.heap c:=by
 cases c <;> exact Q3.step h E G
structure CdL (base:Nat) (w:World) (v:Value) (cds:List Cd):Prop where
 own:w.ownsRow base 313 1 v cds.length (cds.flatMap Vp)
 bx:∀c∈cds,CdB w.heap c∧c.blk∉ob v
theorem CdL.add {base:Nat}{w E G:World}{v H:Value}{cds:List Cd}{c:Cd}(h:CdL base w v cds) (I:Step [] w E) (hc:CdB E.heap c) (hb:w.heap.size≤c.blk)
  (J:G.ownsRow base 313 1 H (cds.length+1) (cds.flatMap Vp++[c.val])) (S:Step (ob v) E G) (T:∀b∈ob H,b∈ob v∨E.heap.size≤b):CdL base G H (cds++[c]):=by
 have V:=QP h.own;have Y:c.blk∉ob v:=λhm=>by have:=V _ hm;omega
 refine ⟨?_,λd hd=>?_⟩
 ·rw[Li,Lz];simpa using J
 have key:CdB E.heap d∧d.blk∉ob v:=by
  rcases Lj.1 hd with hd | hd
  ·exact ⟨(h.bx d hd).1.step I (by simp),(h.bx d hd).2⟩
  simp only[List.mem_singleton] at hd;subst hd;exact ⟨hc,Y⟩
 refine ⟨key.1.step S key.2,λhm=>?_⟩;rcases T _ hm with h1 | h1
 ·exact key.2 h1
 have:=key.1.lt;omega
set_option maxHeartbeats 4000000 in
theorem Qgz {w:World}{vs vx vk:Value}{qx:List XV}{ks:List KV}(hX:qP [] w.heap vx qx) (hK:qG [] w.heap vk ks) (hJ:qx.length≤32) (hM:ks.length≤32) :
  QJ prog 150 [.agg #[vs,vx,vk]] w λr w'=>Step [] w w'∧∃cds,CdL w.heap.size w' r cds∧cds.map Cd.src=qx.map Sum.inl++ks.map Sum.inr:=by
 refine QJ.of_W func150 O ntmps150 results150 (by simp) ?_;refine Qc<|xl O<|QT (us:=[vs,vx,vk]) O λb1 J H hN h5=>Qe ?_;have hB:=H.size;refine Qc<|Qe<|Qf<|Qc<|x (Qa O)<|x (Qd h5 O O)<|x (Qq (hX.ext H).arr O)<|Qb<|xe ?_
 refine Qg<|Qy (α:=Nat×Value×List Cd) [(3,3),(5,5),(11,20)] (λz=>[(3,z.2.1),(11,.int .i64 z.1)]) (λz w'=>z.1≤qx.length∧Step [] J w'∧CdL J.heap.size w' z.2.1 z.2.2∧z.2.2.map Cd.src=(qx.take z.1).map Sum.inl) (λz=>qx.length - z.1) (by rfl) (0,nS,[]) ⟨O,O,U⟩
  ⟨Lk _,Step.refl _ _,⟨QO _ _ _ _,λc hc=>(by cases hc)⟩,rfl⟩ ?_
 rintro ⟨k,vo,cds⟩ g wA ⟨hk,I,Y,ha⟩;simp only[] at hk Y ha;have hO:cds.length=k:=by have:=congrArg List.length ha;simp at this;omega
 refine Qc<|x (QA O O)<|xe<|Qf<|QE O (λhn=>?_) (λhn=>?_)
 ·refine Qw ?_;have hC:qx.length≤k:=by have ho:¬(k:Int)<(qx.length:Int):=hn;omega
  rw[Lm hC] at ha;refine Qf<|Qc<|x (Qa O)<|x (Qd (h5.ext I) O O)<|x (Qq ((hK.ext H).ext I).arr O)<|Qb<|xe ?_
  refine Qg<|Qy (α:=Nat×Value×List Cd) [(3,3),(7,7),(24,33)] (λz=>[(3,z.2.1),(24,.int .i64 z.1)]) (λz w'=>z.1≤ks.length∧Step [] J w'∧CdL J.heap.size w' z.2.1 z.2.2∧z.2.2.map Cd.src=qx.map Sum.inl++(ks.take z.1).map Sum.inr) (λz=>ks.length - z.1) (by rfl) (0,vo,cds) ⟨O,O,U⟩
   ⟨Lk _,I,Y,by simp only[];rw[ha];simp⟩ ?_
  rintro ⟨j,vp,cdt⟩ g wB ⟨hj,he,S,hf⟩;simp only[] at hj S hf;have hP:cdt.length=qx.length+j:=by have:=congrArg List.length hf;simp at this;omega
  refine Qc<|x (QA O O)<|xe<|Qf<|QE O (λhp=>?_) (λhp=>?_)
  ·refine Qw ?_;have hD:ks.length≤j:=by have ho:¬(j:Int)<(ks.length:Int):=hp;omega
   rw[Lm hD] at hf;refine Qc<|Qb<|Qe ?_;exact Qn ⟨[_],Z,H.trans he,cdt,⟨Zg S.own hB,S.bx⟩,hf⟩
  have T:j<ks.length:=by have ho:(j:Int)<(ks.length:Int):=hp;omega
  have h6:=Lh T;have h7:ks.take (j+1)=ks.take j++[ks[j]'T]:=Le T;refine Qi<|Qf<|Qg<|Qc<|xig Xq ((hK.ext H).ext he).arr O O T λaA hA=>?_;refine Zb (ks[j]'T) λq hq=>?_;rw[hq] at hA h6 h7;have hr:=((hK.ext H).ext he).each q h6
  refine x (QI hA O O)<|xl O<|Qv (us:=[.string .empty,nS,.int .i64 0]) O λb7 w4 hs ht hu=>xl O<|Qr (us:=Zv q) hu O O O O ⟨O,hr.one,O,U⟩ λw5 hv hw=>xe ?_;have hg:Step [] wB w5:=hs.then1 hv ht;refine Qx<|Qb<|x (Qs hw O O)<|xl O<|xf<|(Qbr w5).mono ?_;rintro r6 w6 ⟨hy,E,rfl,hE,hz⟩
  refine xl O<|QC (us:=[[(Cd.co E q).val]]) O O (by decide) (by simp) ⟨rfl,rfl,U⟩ λhF w7 hh hG h0=>?_;have G:=(hg.trans hy).trans hh;have hH:=(he.trans G).size;have hI:=hg.size;refine xl O<|QU (news:=[(Cd.co E q).val]) (L:=[]) (Qm S.own G) O O O (h0.at (by simp)) (by simp[Cd.val,Value.oneCell']) (by omega) (by omega) λv8 w8 h1 hl h2 =>
   Qe ?_
  have hge:=Qk S.own;have h3:=S.add (c:=Cd.co E q) G (Q3.ext hz hh) (by show _≤E;omega) h1 hl h2;have h4:Step [] J w8:=(he.trans G).then hl (λb hb=>.inr (hge b hb).1);refine Qx<|QN O O<|Qb<|xe ?_;exact ⟨(j+1,v8,cdt++[Cd.co E q]),by simp only[];omega,⟨O,O,U⟩,T,h4,h3,by simp only[];rw[Ls,hf,h7];simp[Cd.src]⟩
 have V:k<qx.length:=by have ho:(k:Int)<(qx.length:Int):=hn;omega
 have h8:=Lh V;have h9:qx.take (k+1)=qx.take k++[qx[k]'V]:=Le V;refine Qi<|Qf<|Qg<|Qc<|xig XX ((hX.ext H).ext I).arr O O V λaA hA=>?_;refine Zb (qx[k]'V) λq hq=>?_;rw[hq] at hA h8 h9;have hr:=((hX.ext H).ext I).each q h8
 refine x (QI hA O O)<|xl O<|Qv (us:=[.string .empty,nS]) O λb7 w4 hs ht hu=>xl O<|Qr (us:=Zt q) hu O O O O ⟨O,hr.one,U⟩ λw5 hv hw=>xe ?_;have hg:Step [] wA w5:=hs.then1 hv ht;refine Qx<|Qb<|x (Qs hw O O)<|xl O<|xf<|(j7 w5).mono ?_;rintro r6 w6 ⟨hy,E,rfl,hE,hz⟩;refine xl rfl<|QC (us:=[[(Cd.ex E q).val]]) O O (by decide) (by simp) ⟨rfl,rfl,U⟩ λhF w7 hh hG h0=>?_
 have G:=(hg.trans hy).trans hh;have hH:=(I.trans G).size;have hI:=hg.size;refine xl rfl<|QU (news:=[(Cd.ex E q).val]) (L:=[]) (Qm Y.own G) O O O (h0.at (by simp)) (by simp[Cd.val,Value.oneCell']) (by omega) (by omega) λv8 w8 h1 hl h2 =>
  Qe ?_
 have hge:=Qk Y.own;have h3:=Y.add (c:=Cd.ex E q) G (Q3.ext hz hh) (by show _≤E;omega) h1 hl h2;have h4:Step [] J w8:=(I.trans G).then hl (λb hb=>.inr (hge b hb).1);refine Qx<|QN O O<|Qb<|xe ?_;exact ⟨(k+1,v8,cds++[Cd.ex E q]),by simp only[];omega,⟨O,O,U⟩,V,h4,h3,by simp only[];rw[Ls,ha,h9];simp[Cd.src]⟩
theorem Qkx {gp:Nat}{fn:Func}[Fu prog gp fn] {cap:LV}{q:Cd→Bool}{L:LN}{w:World}{v:Value}{l:List Cd}(h:Zo L w.heap v l.length 1 (l.flatMap Vp))
  (hk:∀e∈l,∀(G:World),Step [] w G→QJ prog gp ([e.val]++cap) G λr w'=>r=.bool (q e)∧Step [] G w') :
  QJ prog 207 [v,.func (.func gp) #[] cap.toArray] w λr w'=>r=.int .i64 (fix q 0 l)∧Step [] w w':=by
 have hb:=h.le;refine QJ.of_W func207 O ntmps207 results207 (by simp) ?_;refine Qc<|Qe<|Qf<|Qc<|Qb<|x (Qq h O)<|Qb<|xe<|Qg<|Qy (α:=Nat) [(4,5),(8,18)] (λz=>[(8,.int .i64 z)]) (λz w'=>z≤l.length∧Step [] w w'∧fix q z (l.drop z)=fix q 0 l) (λz=>l.length - z) (by rfl) 0 Z
  ⟨Lk _,Step.refl _ _,O⟩ ?_
 rintro k g G ⟨hc,H,E⟩;refine Qc<|x (QA O O)<|xe<|Qf<|QE O (λh9=>?_) (λh9=>?_)
 ·refine Qw ?_;have Y:l.length≤k:=by have ha:¬(k:Int)<(l.length:Int):=h9;omega
  rw[Lq Y] at E;refine Qc<|Qe ?_;exact Qn ⟨[_],Z,by rw[←E];rfl,H⟩
 have I:k<l.length:=by have ha:(k:Int)<(l.length:Int):=h9;omega
 rw[QY I,ZN] at E;have S:=Lh I;refine Qi<|Qf<|Qg<|Qc<|Qb<|Qe<|Qc<|Qb<|Qb<|Qb<|xig Qk0 (h.ext H) O O I λhf T=>?_;refine Zb (l[k]'I) λe he=>?_;rw[he] at T E S;refine x (Qu T O)<|xl O<|xc (first:=[]) (capt:=cap) O<|(hk e S G H).mono ?_;rintro r2 w2 ⟨rfl,V⟩;refine xe<|Q2 rfl (λJ=>?_) (λJ=>?_)
 ·rw[if_pos J] at E;refine Qc<|Qb<|Qe ?_;exact Qn ⟨[_],Z,by rw[←E];rfl,H.trans V⟩
 rw[if_neg (by rw[J];decide)] at E;refine Qi<|Qx<|QN O O<|Qb<|xe ?_;exact ⟨k+1,by omega,Z,I,H.trans V,E⟩
theorem QiX {w:World}{c:Cd}{vt:Value}{t:LI}(hc:CdA w.heap c) (G:QL [] w.heap vt t) (E:c.rg t.length) (H:∀i,i<t.length→0≤cget t i∧cget t i≤4096) :
  ∃g fn cap,c.val=.func (.func g) #[] [cap].toArray∧Fu prog g fn∧QJ prog g ([vt]++[cap]) w λr w'=>r=.bool (c.vio t)∧Step [] w w':=by
 cases c with
 | ex b q=>exact ⟨_,_,_,O,inferInstance,QiI hc.1 hc.2 G E⟩
 | co b q=>exact ⟨_,_,_,O,inferInstance,QiH hc.1 hc.2 G E.1 E.2 H⟩
theorem Qeo {w:World}{bt:Nat}{c:Cd}{vt:Value}{t:LI}(E:Q3 w.heap bt 37 [vt]) (hc:CdA w.heap c) (G:QL [] w.heap vt t) (H:c.rg t.length) (I:∀i,i<t.length→0≤cget t i∧cget t i≤4096) :
  QJ prog 208 ([c.val]++[.pointer (some ⟨bt,0,none⟩)]) w λr w'=>r=.bool (c.vio t)∧Step [] w w':=by
 obtain ⟨gq,fn,cap,J,T,hcall⟩:=QiX hc G H I;rw[J];refine QJ.of_W func208 O ntmps208 results208 (by simp) ?_;refine Qc<|Qe<|Qc<|Qb<|x (Qd E O O)<|xl O<|xc (g:=gq) (fn:=fn) (first:=[]) (capt:=[cap]) O<|hcall.mono ?_;rintro V Y ⟨rfl,S⟩;refine Qe ?_;exact Qn ⟨[_],Z,O,S⟩
theorem jq {L:LN}{w:World}{v vt:Value}{cds:List Cd}{t:LI}(h:Zo L w.heap v cds.length 1 (cds.flatMap Vp)) (hc:∀c∈cds,CdA w.heap c) (H:QL [] w.heap vt t) (I:∀c∈cds,c.rg t.length) (J:∀i,i<t.length→0≤cget t i∧cget t i≤4096) :
  QJ prog 149 [v,vt] w λr w'=>r=.int .i64 (fix (Cd.vio t) 0 cds)∧Step [] w w':=by
 refine QJ.of_W func149 O ntmps149 results149 (by simp) ?_;refine Qc<|xl O<|QT (us:=[vt]) H.cells λS Y G ha T=>Qe<|Qc<|Qb<|x Zq<|xl O<|xf<|(Qkx (q:=Cd.vio t) (cap:=[.pointer (some ⟨S,0,none⟩)]) (h.ext G) (λc hm V E=>Qeo (T.ext E) (((hc c hm).ext G).ext E) ((H.ext G).ext E) (I c hm) J)).mono ?_;rintro r2 V ⟨rfl,E⟩;refine Qe ?_;exact Qn ⟨[_],Z,O,G.trans E⟩
theorem QgG {w:World}{vs vx vk vt:Value}{sz t:LI}(I:QL [] w.heap vs sz) (G:QL [] w.heap vt t) (h:Qjg sz t) :
  QJ prog 206 [.agg #[vs,vx,vk],vt] w λr w'=>r=.int .i64 0∧Step [] w w':=by
 have hf:=G.le;have h0:=h.1;refine QJ.of_W func206 O ntmps206 results206 (by simp) ?_;refine Qc<|xl O<|QT (us:=[vs,vx,vk]) O λb2 V E hg J=>Qe<|Qf<|Qc<|Qb<|x (Qq (G.ext E) O)<|x (Qa O)<|x (Qd J O O)<|x (Qq (I.ext E) O)<|x (Q9 O O) <|
  xe ?_
 refine QE rfl (λS=>?_) (λS=>?_)
 ·refine Qi<|Qf<|Qc<|Qb<|x (Qq (G.ext E) O)<|Qb<|xe<|Qg<|Qy (α:=Nat) [(4,6),(15,31)] (λz=>[(15,.int .i64 z)]) (λz w'=>z≤t.length∧w'=V) (λz=>t.length - z) (by rfl) 0 Z ⟨Lk _,O⟩ ?_;rintro k g Y ⟨hk,rfl⟩;refine Qc<|x (QA O O)<|xe<|Qf<|QE O (λT=>?_) (λT=>?_)
  ·refine Qw<|Qc<|Qe ?_;exact Qn ⟨[_],Z,O,E⟩
  have H:k<t.length:=by have hh:(k:Int)<(t.length:Int):=T;omega
  have hb:=h.2 k H;refine Qi<|Qf<|Qg<|Qc<|Qb<|xic (i:=k) (G.ext E) O O H λhj ha=>x (Qu ha O)<|x Qh<|Qe<|QW (α:=Unit) [(20,30)] (λz=>[(30,.bool false)]) (λz w'=>w'=Y) (by rfl) ?_ ?_
  ·refine Qx<|Qb<|xb (QA O O) (λhc=>by omega) (λhc=>?_);refine Qb<|Qb<|x (Qa O)<|x (Qd J O O)<|Qb<|xic (i:=k) (I.ext E) O O (by omega) λhl he=>x (Qu he O) <|
    x (ZU rfl O)<|x (Qo O)<|xe ?_
   exact ⟨(),⟨congrArg Value.bool (decide_eq_false (by omega)),U⟩,O⟩
  rintro _ g w3 rfl;refine ZX O ?_;refine Qi<|Qx<|QN O O<|Qb<|xe ?_;exact ⟨k+1,by omega,Z,H,O⟩
 exact absurd (show (t.length:Int)=(sz.length:Int) by omega) S
theorem q9 {w:World}{vs vx vk vt:Value}{sz t:LI}{qx:List XV}{ks:List KV}(H:QL [] w.heap vs sz) (T:qP [] w.heap vx qx) (V:qG [] w.heap vk ks) (Y:QL [] w.heap vt t) (hc:Ys sz (qx.map (·.x)) (ks.map (·.k))=0) (h:Qjg sz t) :
  QJ prog 148 [.agg #[vs,vx,vk],vt] w λr w'=>r=.int .i64 0∧Step [] w w':=by
 refine QJ.of_W func148 O ntmps148 results148 (by simp) ?_;refine Qc<|xl O<|QT (us:=[vs,vx,vk]) O λb2 w1 E hb I=>Qe<|Qf<|Qc<|x (Qs I O O)<|xl O<|xf<|(qp (H.ext E) (T.ext E) (V.ext E)).mono ?_;rintro r2 w2 ⟨J,S⟩;rw[hc] at J;subst J;refine Qe<|Qc<|Qb<|x (Q9 O O)<|xe<|ZX rfl ?_;refine Qi ?_;have G:=E.trans S
 refine Qc<|x (Qs (I.ext S) O O)<|Qb<|xl O<|xf<|(QgG (H.ext G) (Y.ext G) h).mono ?_;rintro r3 w3 ⟨rfl,ha⟩;refine Qe ?_;exact Qn ⟨[_],Z,O,G.trans ha⟩
def KR (qx:List jo) (ks:List Xj) (t:LI):Int×Int×Bool :=
 if 0≤fix (Ks t) 0 qx then (1,fix (Ks t) 0 qx,true) else if 0≤fix (Vx t) 0 ks then (2,fix (Vx t) 0 ks,true) else (0,0,false)
theorem QiF {cds:List Cd}{qx:List XV}{ks:List KV}(t:LI) (h:cds.map Cd.src=qx.map Sum.inl++ks.map Sum.inr) :
  fix (Cd.vio t) 0 cds=if 0≤fix (Ks t) 0 (qx.map (·.x)) then fix (Ks t) 0 (qx.map (·.x)) else if 0≤fix (Vx t) 0 (ks.map (·.k)) then fix (Vx t) 0 (ks.map (·.k))+qx.length else -1:=by
 have h1:fix (Cd.vio t) 0 cds=fix (Qde t) 0 (cds.map Cd.src):=(Kf (Qde t) Cd.src cds 0).symm;rw[h1,h,qh,Kf,Lb,zH,Kf (Qde t) Sum.inr ks 0];have e1:fix (λa=>Qde t (Sum.inl a)) 0 qx=fix (Ks t) 0 (qx.map (·.x)):=(Kf (Ks t) XV.x qx 0).symm;have e2:fix (λa=>Qde t (Sum.inr a)) 0 ks=fix (Vx t) 0 (ks.map (·.k)):=(Kf (Vx t) KV.k ks 0).symm;rw[e1,e2]
theorem QjI {P:Int×Int×Bool}{a b:Int}{c:Bool}(h:P=(a,b,c)):(Value.tuple #[.int .i64 a,.int .i64 b,.bool c,.int .i64 0])=.tuple #[.int .i64 P.1,.int .i64 P.2.1,.bool P.2.2,.int .i64 0]:=by rw[h]
set_option maxHeartbeats 4000000 in
theorem Ua {w:World}{vs vx vk vt:Value}{sz t:LI}{qx:List XV}{ks:List KV}(hS:QL [] w.heap vs sz) (I:qP [] w.heap vx qx) (Y:qG [] w.heap vk ks) (ht:QL [] w.heap vt t) (hc:Ys sz (qx.map (·.x)) (ks.map (·.k))=0) (h:Qjg sz t) :
  QJ prog 73 [.agg #[vs,vx,vk],vt] w λr w'=>Step [] w w'∧r=.tuple #[.int .i64 (KR (qx.map (·.x)) (ks.map (·.k)) t).1,.int .i64 (KR (qx.map (·.x)) (ks.map (·.k)) t).2.1,.bool (KR (qx.map (·.x)) (ks.map (·.k)) t).2.2,.int .i64 0]:=by
 have J:=V8 hc;have hs:qx.length≤32:=by have:=J.xl;simpa using this
 have hu:ks.length≤32:=by have:=J.kl;simpa using this
 refine QJ.of_W func73 O ntmps73 results73 (by simp) ?_;refine Qc<|xl O<|QT (us:=[vs,vx,vk]) O λb2 w1 S h5 hg=>x Qh<|x Qh<|x Qh<|Qe<|Qf<|Qc<|x (Qs hg O O)<|Qb<|xl O<|xf<|(q9 (hS.ext S) (I.ext S) (Y.ext S) (ht.ext S) hc h).mono ?_;rintro r2 w2 ⟨rfl,hh⟩;refine Qe<|Qc<|Qb<|x (Q9 O O)<|xe<|ZX rfl ?_;refine Qi ?_;have ha:=S.trans hh;have hj:=hg.ext hh
 refine Qc<|x (Qs hj O O)<|xl O<|xf<|(Qgz (I.ext ha) (Y.ext ha) hs hu).mono ?_;rintro r3 w3 ⟨hl,cds,hL,hb⟩;have V:=ha.trans hl;have h6:cds.length=qx.length+ks.length:=by have:=congrArg List.length hb;simpa using this
 have hv:∀i,i<t.length→0≤cget t i∧cget t i≤4096:=λi hi=>by
  have h1:=h.2 i hi;have h2:i<sz.length:=by rw[←h.1];exact hi
  have h3:=J.s _ (Lh h2);rw[Zk h2] at h3;omega
 have hn:∀c∈cds,c.src∈qx.map Sum.inl++ks.map Sum.inr:=λc hm=>by rw[←hb];exact LL hm
 have hw:∀c∈cds,CdA w3.heap c:=λc hm=>by
  have h1:=hn c hm;have h2:=(hL.bx c hm).1;cases c with
  | ex b q =>
   have hq:q∈qx:=by simpa[Cd.src] using h1
   exact ⟨h2,(I.each q hq).ext V⟩
  | co b q =>
   have hq:q∈ks:=by simpa[Cd.src] using h1
   exact ⟨h2,(Y.each q hq).ext V⟩
 have hy:∀c∈cds,c.rg t.length:=λc hm=>by
  have h1:=hn c hm;rw[h.1];cases c with
  | ex b q =>
   have hq:q∈qx:=by simpa[Cd.src] using h1
   exact J.x q.x (LL hq)
  | co b q =>
   have hq:q∈ks:=by simpa[Cd.src] using h1
   exact J.k q.k (LL hq)
 have hz:=QiF t hb;have g1:=Qbp (Ks t) (qx.map (·.x)) 0;have g2:=Qbp (Vx t) (ks.map (·.k)) 0;simp only[List.length_map] at g1 g2;refine Qb<|xl O<|xf<|(jq (QR (L:=[]) hL.own (by omega) (by simp)) hw (ht.ext V) hy hv).mono ?_;rintro r4 w4 ⟨rfl,ho⟩;rw[hz];have T:=V.trans ho;refine Zb (KR (qx.map (·.x)) (ks.map (·.k)) t) λP G=>?_;rw[G];unfold KR at G
 refine Zb (fix (Ks t) 0 (qx.map (·.x))) λH he=>?_;refine Zb (fix (Vx t) 0 (ks.map (·.k))) λi2 hf=>?_;rw[he,hf] at G;rw[he] at g1;rw[hf] at g2;refine Zb (if 0≤H then H else if 0≤i2 then i2+(qx.length:Int) else -1) λr E=>?_
 rw[he,hf,E];refine Qe<|Qg<|Qc<|Qb<|x (QA O O)<|Qe<|Q7 O (λh0=>?_) (λh0=>?_)
 ·have n1:¬0≤H:=λh=>by rw[if_pos h] at E;omega
  have n2:¬0≤i2:=λh=>by rw[if_neg n1,if_pos h] at E;omega
  refine Qc<|x Qh<|x Qh<|x Qh<|Qe ?_;exact Qn ⟨[_,_,_,_],⟨O,O,O,O,U⟩,T,QjI (by rw[←G,if_neg n1,if_neg n2])⟩
 have hp:=(hj.ext hl).ext ho;refine Qc<|Qb<|x (Qa O)<|x (Qd hp O O)<|x (Qq (I.ext T).arr O)<|x (QA O O)<|Qe<|Q7 O (λh4=>?_) (λh4=>?_)
 ·have p1:0≤H:=by
   refine Lu.1 λn1=>?_;by_cases h:0≤i2
   ·rw[if_neg n1,if_pos h] at E;omega
   rw[if_neg n1,if_neg h] at E;omega
  have e:r=H:=by rw[if_pos p1] at E;exact E.symm
  refine Qc<|Qb<|x Qh<|x Qh<|x Qh<|Qe ?_;exact Qn ⟨[_,_,_,_],⟨O,O,O,O,U⟩,T,QjI (by rw[←G,if_pos p1,e])⟩
 have n1:¬0≤H:=λh=>by rw[if_pos h] at E;omega
 have p2:0≤i2:=by
  refine Lu.1 λn2=>?_;rw[if_neg n1,if_neg n2] at E;omega
 have e:r - (qx.length:Int)=i2:=by rw[if_neg n1,if_pos p2] at E;omega
 refine Qf<|QS (Step [] w4) [(0,true),(1,true),(2,true),(3,true),(4,true),(5,true),(6,true),(7,true),(8,true)] mixed (by rfl) (by kernel_rfl) (Step.drew _ _) ?_;refine p (λ_=>Ql)<|p (λ_=>Qa O)<|pq (λ_ hc=>Qd (hp.ext hc) O O)<|p (λ_=>Qq (I.ext T).arr O) <|
  p (λ_=>X2 O O ⟨by omega,by omega⟩)<|p (λ_=>Qh)<|p (λ_=>Qh)<|p (λ_=>Qh)<|p (λ_=>Qh) <|
  pe ?_
 exact Qn ⟨[_,_,_,_],⟨O,O,O,O,U⟩,T.trans (Step.drew _ _),QjI (by rw[←G,if_neg n1,if_pos p2,←e])⟩
def ZC (base:Nat) (av:LN) (H:Array Obj) (v:Value) (n sz:Nat) (cs:LV):Prop:=∀L:LN,(∀b∈L,b<base∨b∈av)→Zo L H v n sz cs
theorem ZC.ext {base:Nat}{av:LN}{w w':World}{v:Value}{n sz:Nat}{cs:LV}(h:ZC base av w.heap v n sz cs) (E:Step [] w w'):ZC base av w'.heap v n sz cs:=λL G=>(h L G).ext E
theorem ZC.app {base:Nat}{av E:LN}{w w':World}{v:Value}{n sz:Nat}{cs:LV}(h:ZC base av w.heap v n sz cs) (G:Step av w w') (H:∀b∈E,b∈av∨w.heap.size≤b):ZC base E w'.heap v n sz cs:=by
 intro L I;have h1:Zo (av++L.filter λb=>decide (b<base)) w.heap v n sz cs:=h _ (λb hb=>by
  rcases Lj.1 hb with hb | hb
  ·exact .inr hb
  exact .inl (by simpa using (Md.1 hb).2))
 refine h1.grow G (λb hb=>Lj.2 (.inl hb)) λb hb=>?_;rcases I b hb with h2 | h2
 ·exact .inl (Lj.2 (.inr (Md.2 ⟨hb,by simpa using h2⟩)))
 rcases H b h2 with h3 | h3
 ·exact .inl (Lj.2 (.inl h3))
 exact .inr h3
theorem ZC.of_own {base N:Nat}{av:LN}{w:World}{v:Value}{e n sz:Nat}{cs:LV}(h:w.ownsRow N e sz v n cs) (E:n≤1099511627776) (hb:base≤N) (G:∀b∈av,b<N):ZC base av w.heap v n sz cs:=λL H =>
 QR h E λb hb I=>by
  have h1:=(Qk h b hb).1;rcases H b I with h2 | h2
  ·omega
  have:=G b h2;omega
structure ZQ {α:Type}(g:α→LV) (sz T:Nat) (p:α→Value×Nat×Nat×LV) (base:Nat) (w:World) (v:Value) (l:List α):Prop where
 own:w.ownsRow base T sz v l.length (l.flatMap g)
 each:∀q∈l,ZC base (ob v) w.heap (p q).1 (p q).2.1 (p q).2.2.1 (p q).2.2.2
theorem ZQ.nil {α:Type}{g:α→LV}{sz T:Nat}{p:α→Value×Nat×Nat×LV}{base:Nat}{w:World}:ZQ g sz T p base w (nS) []:=⟨QO _ _ _ _,λq hq=>by cases hq⟩
theorem ZQ.ext {α:Type}{g:α→LV}{sz T:Nat}{p:α→Value×Nat×Nat×LV}{base:Nat}{w w':World}{v:Value}{l:List α}(h:ZQ g sz T p base w v l) (E:Step [] w w'):ZQ g sz T p base w' v l:=⟨Qm h.own E,λq hq=>(h.each q hq).ext E⟩
theorem ZQ.app {α:Type}{g:α→LV}{sz T:Nat}{p:α→Value×Nat×Nat×LV}{base N e:Nat}{w E G:World}{v H:Value}{l:List α}{q:α}(h:ZQ g sz T p base w v l) (S:Step [] w E)
  (hq:E.ownsRow N e (p q).2.2.1 (p q).1 (p q).2.1 (p q).2.2.2) (V:(p q).2.1≤1099511627776) (hN:w.heap.size≤N) (hb:base≤w.heap.size)
  (Y:G.ownsRow base T sz H (l.length+1) (l.flatMap g++g q)) (I:Step (ob v) E G) (J:∀b∈ob H,b∈ob v∨E.heap.size≤b):ZQ g sz T p base G H (l++[q]):=by
 have ha:=QP h.own;refine ⟨?_,λd hd=>?_⟩
 ·rw[Li,Lz];simpa using Y
 rcases Lj.1 hd with hd | hd
 ·exact ((h.each d hd).ext S).app I J
 simp only[List.mem_singleton] at hd;subst hd;exact (ZC.of_own hq V (by omega) (λb hb=>by have:=ha b hb;omega)).app I J
theorem Qhd {L L':LN}{w:World}{va vm ve hb hc he:Value}{a b:QV}(h:Zu L w.heap va vm ve a) (h':Zu L' w.heap hb hc he b) :
  QJ prog 25 [.agg #[va,.int .i64 a.st,vm,ve],.agg #[hb,.int .i64 b.st,hc,he]] w λr w'=>r=.bool (decide (a.st=b.st∧a.al=b.al∧a.mr=b.mr∧a.ed=b.ed))∧Step [] w w':=by
 refine QJ.of_W func25 O ntmps25 results25 (by simp) ?_;refine Qc<|xl O<|QT (us:=[va,.int .i64 a.st,vm,ve]) O λb2 w1 hj hp hl=>xl O<|QT (us:=[hb,.int .i64 b.st,hc,he]) O λb3 w2 hf E H=>Qe ?_;have I:=hj.trans hf;have J:=hl.ext hf;refine QW (α:=Bool) [(4,30)] (λz=>[(4,.bool z)]) (λz w'=>Step [] w w'∧z=decide (a.st=b.st∧a.al=b.al∧a.mr=b.mr∧a.ed=b.ed)) (by rfl) ?_ ?_
 ·refine Qx<|x (Qa O)<|x (Qd J O O)<|x (Qa O)<|x (Qd H O O)<|xb (Q8 O O) (λh9=>?_) (λh9=>?_)
  ·refine Qb<|x (Qa O)<|x (Qd J O O)<|x (Qa O)<|x (Qd H O O)<|xl O<|xf<|(Kh (h.al.ext I) (h'.al.ext I)).mono ?_;rintro r3 w3 ⟨S,T⟩;have V:=I.trans T;refine Qgq (decide (a.al=b.al)) (λE=>?_) (λE=>?_)
   ·rw[E] at S;subst S;refine x (Qo O)<|Qb<|x (Qa O)<|x (Qd (J.ext T) O O)<|x (Qa O)<|x (Qd (H.ext T) O O)<|xl O<|xf<|(Kh (h.mr.ext V) (h'.mr.ext V)).mono ?_;rintro r4 w4 ⟨Y,hg⟩;have ha:=V.trans hg;have hh:=T.trans hg;refine Qgq (decide (a.mr=b.mr)) (λG=>?_) (λG=>?_)
    ·rw[G] at Y;subst Y;refine x (Qo O)<|Qb<|x (Qa O)<|x (Qd (J.ext hh) O O)<|x (Qa O)<|x (Qd (H.ext hh) O O)<|xl O<|xf<|(QdX (h.ed.ext ha) (h'.ed.ext ha)).mono ?_;rintro r5 w5 ⟨rfl,hn⟩;refine x (Qo O)<|Qe ?_;exact ⟨_,Z,ha.trans hn,bD ⟨λe=>⟨h9,of_decide_eq_true E,of_decide_eq_true G,e⟩,λe=>e.2.2.2⟩⟩
    rw[G] at Y;subst Y;refine x (Qo O)<|Qb<|xs O<|xs O<|xs O<|xs O<|xs O<|x (Qo O)<|Qe ?_;exact ⟨_,Z,ha,bF (λe=>of_decide_eq_false G e.2.2.1)⟩
   rw[E] at S;subst S;refine x (Qo O)<|Qb<|xs O<|xs O<|xs O<|xs O<|xs O<|x (Qo O)<|Qb<|xs O<|xs O<|xs O<|xs O<|xs O<|x (Qo O) <|
    Qe ?_
   exact ⟨_,Z,V,bF (λe=>of_decide_eq_false E e.2.1)⟩
  refine Qb<|xs O<|xs O<|xs O<|xs O<|xs O<|x (Qo O)<|Qb<|xs O<|xs O<|xs O<|xs O<|xs O<|x (Qo O) <|
   Qb<|xs rfl<|xs O<|xs O<|xs O<|xs O<|x (Qo O)<|Qe ?_
  exact ⟨_,Z,I,bF (λe=>h9 e.1)⟩
 rintro z g w6 ⟨ho,rfl⟩;exact Qn ⟨[_],Z,O,ho⟩
theorem Qha {L:LN}{w:World}{va vm ve:Value}{a:QV}(h:Zu L w.heap va vm ve a) :
  QJ prog 163 [.agg #[va,.int .i64 a.st,vm,ve]] w λr w'=>r=.bool (JW a)∧Step [] w w':=by
 refine QJ.of_W func163 O ntmps163 results163 (by simp) ?_;refine Qc<|xl O<|QT (us:=[va,.int .i64 a.st,vm,ve]) O λb1 E ha hf G=>Qe<|QW (α:=Bool) [(2,11)] (λz=>[(2,.bool z)]) (λz w'=>Step [] w w'∧z=JW a) (by rfl) ?_ ?_
 ·refine QS (Step [] E) [(0,true),(1,false),(2,true),(3,true),(4,true),(5,true),(6,false),(7,false),(8,true),(9,true)] mixed (by rfl) (by kernel_rfl) (Step.drew _ _) ?_;have S:=ha.trans (Step.drew [] E);refine pq (λ_ hc=>Qs (G.step hc (by simp)) rfl rfl)<|pk<|xf<|(Xt (h.ext S)).mono ?_;rintro r2 w2 ⟨rfl,T⟩;have H:=S.trans T;have I:=(Step.drew [] E).trans T
  refine ⟨I,?_⟩;refine pb (λ_=>Q8 O O) (λh5=>?_) (λh5=>?_)
  ·have hc:Jt a=0:=h5;refine p (λ_=>Ql)<|pq (λ_ hc=>Qs (G.step hc (by simp)) rfl rfl)<|pq (λ_ hc=>Qs (G.step hc (by simp)) rfl rfl) <|
    pk<|xf<|(Ju (h.ext H) ((ZG a).1 hc)).mono ?_
   rintro r3 w3 ⟨J,hg,hh,hj,rfl,hb⟩;have V:=H.trans J;refine ⟨I.trans J,?_⟩;refine pk<|xf<|(Qhd (h.ext V) (hb [] (by simp))).mono ?_;rintro r4 w4 ⟨rfl,Y⟩;refine ⟨(I.trans J).trans Y,?_⟩;refine p (λ_=>Qo O)<|p (λ_=>Qh)<|pe ?_;refine ⟨_,Z,V.trans Y,?_⟩;unfold JW;rw[decide_eq_true hc,Bool.true_and]
   exact bD ⟨λe=>⟨e.1.symm,e.2.1.symm,e.2.2.1.symm,e.2.2.2.symm⟩,λe=>⟨e.1.symm,e.2.1.symm,e.2.2.1.symm,e.2.2.2.symm⟩⟩
  have hc:¬Jt a=0:=h5;refine p (λ_=>Ql)<|ps<|ps<|ps<|ps<|p (λ_=>Qo O)<|p (λ_=>Qh)<|pe ?_;exact ⟨_,Z,H,by unfold JW;rw[decide_eq_false hc];rfl⟩
 rintro z g w5 ⟨he,rfl⟩;exact Qn ⟨[_],Z,O,he⟩
section
variable {P:Program} {f:Fr} {w:World} {d:Option Nat} {ty:Nat} {ps:String} {af:Array Edge} {gd:Option (Nat×Bool)}
theorem Yv {t sz:Nat}[Ag P t sz] {x:Operand}{b T o:Nat}{cs us:LV}(h:Q3 w.heap b T cs) (hx:ev f x=.pointer (some ⟨b,o,none⟩)) (hl:us.length=sz) (hu:(cs.drop o).take sz=us) :
  (execOp (ev f) ⟨d,.load t x,ty,ps,af,gd⟩).run P w=.ok (.value (.agg us.toArray)) w:=Ur hx hl λj v E=>by
 rw[JU,Jg,h.cell];rw[←hu,LW] at E;split at E
 ·simpa using E
 cases E
end
theorem Qbj {L:LN}{w:World}{v:Value}{qs:List IV}(h:Y6 L w.heap v qs) :
  QJ prog 75 [v] w λr w'=>Step [] w w'∧w'.ownsRow w.heap.size 58 4 r (qs.map (·.p)).length ((qs.map (·.p)).flatMap Zl):=by
 have hr:=h.arr.le;refine QJ.of_W func75 O ntmps75 results75 (by simp) ?_;refine Qc<|Qe<|Qc<|Qe<|Qf<|Qc<|Qb<|x (Qq h.arr O)<|Qb<|xe<|Qg<|Qy (α:=Nat×Value) [(3,3),(5,5),(8,17)] (λz=>[(3,z.2),(8,.int .i64 z.1)]) (λz w'=>z.1≤qs.length∧Step [] w w'∧w'.ownsRow w.heap.size 58 4 z.2 z.1 (((qs.take z.1).map (·.p)).flatMap Zl)) (λz=>qs.length - z.1) (by rfl) (0,nS) ⟨O,O,U⟩
  ⟨Lk _,Step.refl _ _,QO _ _ _ _⟩ ?_
 rintro ⟨k,vo⟩ g w1 ⟨hk,H,I⟩;simp only[] at hk I;refine Qc<|x (QA O O)<|xe<|Qf<|QE O (λh9=>?_) (λh9=>?_)
 ·refine Qw ?_;have hc:k=qs.length:=by have J:¬(k:Int)<(qs.length:Int):=h9;omega
  subst hc;rw[Lm (Lr _)] at I;refine Qc<|Qb<|Qe ?_;exact Qn ⟨[_],Z,H,by rw[Lb];exact I⟩
 have E:k<qs.length:=by have J:(k:Int)<(qs.length:Int):=h9;omega
 have V:=Lh E;have Y:qs.take (k+1)=qs.take k++[qs[k]'E]:=Le E;refine Qi<|Qf<|Qg<|Qc<|xig YK (h.arr.ext H) O O E λhs J=>?_;refine Zb (qs[k]'E) λq hq=>?_;rw[hq] at J V Y;have G:=h.each q V
 refine x (QI J O O)<|xl O<|Qv (us:=[.string .empty,nS,.int .i64 0,nS,nS]) O λb5 w2 he hf S=>xl O<|Qr (us:=Zf q) S O O O O ⟨O,G.al.one,O,G.mr.one,G.ed.one,U⟩ λw3 hg S =>
  xe ?_
 have hh:Step [] w1 w3:=he.then1 hg hf;refine Qx<|Qb<|x (Qa O)<|x (Yv (us:=Zl q.p) S O O O)<|xl O<|QC (us:=[Zl q.p]) O O (by decide) (by simp) ⟨rfl,rfl,U⟩ λht w4 hj hv hl=>?_;have T:=hh.trans hj;have ha:=Qm I T;have hw:=(H.trans T).size;have hn:∀u∈Zl q.p,u.oneCell'=true:=by
  intro u hu;simp only[List.mem_cons,List.not_mem_nil,or_false] at hu;rcases hu with rfl | rfl | rfl | rfl
  ·exact G.al.one
  ·rfl
  ·exact G.mr.one
  exact G.ed.one
 refine xl rfl<|QU (news:=Zl q.p) (L:=[]) ha O O O (hl.at (by simp)) hn (by omega) (by omega) λv5 w5 ho hp hy=>Qe ?_;have hge:=Qk ha;refine Qx<|QN O O<|Qb<|xe<|⟨(k+1,v5),by simp only[];omega,⟨O,O,U⟩,E,(H.trans T).then hp (λb hb=>.inr (hge b hb).1),?_⟩;simp only[];rw[Y,Ls,Lz];simpa using ho
theorem QfZ {L:LN}{w:World}{r:Value}{base e:Nat}{ps:List AV}(h:w.ownsRow base e 4 r ps.length (ps.flatMap Zl)) (E:ps.length≤1099511627776) (G:∀b∈L,b<base) (he:∀p∈ps,Zu L w.heap p.va p.vm p.ve p.a):XD L w.heap r ps :=
 ⟨QR h E (λb hb H=>by have:=(Qk h b hb).1;have:=G b H;omega),he⟩
theorem QfY {w:World}{b:Nat}{n m:Int}(E:Q3 w.heap b 3 [.int .i64 m]) :
  QJ prog 164 ([.int .i64 n]++[.pointer (some ⟨b,0,none⟩)]) w λr w'=>r=.bool (decide (m≤n))∧Step [] w w':=by
 refine QJ.of_W func164 O ntmps164 results164 (by simp) ?_;refine Qc<|Qe<|Qc<|Qb<|x (Qd E O O)<|x (ZU O O)<|Qe ?_;exact Qn ⟨[_],Z,O,Step.refl _ _⟩
abbrev Vc (n:Int):LV:=[.int .i64 n]
theorem Qky (n:Int):(Vc n).length=1:=rfl
theorem Qjx:∀l:LI,l.flatMap Vc=l.map (.int .i64)
 | []=>rfl
 | a::l=>by rw[LB,Qjx l];rfl
theorem QL.fl {L:LN}{H:Array Obj}{v:Value}{l:LI}(h:QL L H v l):Zo L H v l.length 1 (l.flatMap Vc):=by
 rw[Qjx l];exact h
theorem QfW {gp:Nat}{fn:Func}[Fu prog gp fn] {cap:LV}{q:Int→Bool}{L:LN}{w:World}{v:Value}{l:LI}(h:Zo L w.heap v l.length 1 (l.flatMap Vc))
  (hk:∀e∈l,∀(G:World),Step [] w G→QJ prog gp ([.int .i64 e]++cap) G λr w'=>r=.bool (q e)∧Step [] G w') :
  QJ prog 131 [v,.func (.func gp) #[] cap.toArray] w λr w'=>r=.int .i64 (fix q 0 l)∧Step [] w w':=by
 have hb:=h.le;refine QJ.of_W func131 O ntmps131 results131 (by simp) ?_;refine Qc<|Qe<|Qf<|Qc<|Qb<|x (Qq h O)<|Qb<|xe<|Qg<|Qy (α:=Nat) [(4,5),(8,18)] (λz=>[(8,.int .i64 z)]) (λz w'=>z≤l.length∧Step [] w w'∧fix q z (l.drop z)=fix q 0 l) (λz=>l.length - z) (by rfl) 0 Z
  ⟨Lk _,Step.refl _ _,O⟩ ?_
 rintro k g G ⟨hc,H,E⟩;refine Qc<|x (QA O O)<|xe<|Qf<|QE O (λh9=>?_) (λh9=>?_)
 ·refine Qw ?_;have Y:l.length≤k:=by have ha:¬(k:Int)<(l.length:Int):=h9;omega
  rw[Lq Y] at E;refine Qc<|Qe ?_;exact Qn ⟨[_],Z,by rw[←E];rfl,H⟩
 have I:k<l.length:=by have ha:(k:Int)<(l.length:Int):=h9;omega
 rw[QY I,ZN] at E;have S:=Lh I;refine Qi<|Qf<|Qg<|Qc<|Qb<|Qe<|Qc<|Qb<|Qb<|Qb<|xig Qky (h.ext H) O O I λhf T=>?_;refine Zb (l[k]'I) λe he=>?_;rw[he] at T E S;refine x (Qu T O)<|xl O<|xc (first:=[]) (capt:=cap) O<|(hk e S G H).mono ?_;rintro r2 w2 ⟨rfl,V⟩;refine xe<|Q2 rfl (λJ=>?_) (λJ=>?_)
 ·rw[if_pos J] at E;refine Qc<|Qb<|Qe ?_;exact Qn ⟨[_],Z,by rw[←E];rfl,H.trans V⟩
 rw[if_neg (by rw[J];decide)] at E;refine Qi<|Qx<|QN O O<|Qb<|xe ?_;exact ⟨k+1,by omega,Z,I,H.trans V,E⟩
theorem QkZ {gp:Nat}{fn:Func}[Fu prog gp fn] {cap:LV}{q:Int→Bool}{L:LN}{w:World}{v:Value}{l:LI}(h:Zo L w.heap v l.length 1 (l.flatMap Vc))
  (hk:∀e∈l,∀(E:World),Step [] w E→QJ prog gp ([.int .i64 e]++cap) E λr w'=>r=.bool (q e)∧Step [] E w') :
  QJ prog 135 [v,.func (.func gp) #[] cap.toArray] w λr w'=>r=.bool (l.any q)∧Step [] w w':=by
 refine QJ.of_W func135 O ntmps135 results135 (by simp) ?_;refine Qc<|Qe<|Qc<|Qb<|Qb<|xl O<|xf<|(QfW h hk).mono ?_;rintro H E ⟨rfl,G⟩;refine x (ZU O O)<|Qe ?_;exact Qn ⟨[_],Z,congrArg Value.bool (yX q l 0),G⟩
theorem Qcx {L L':LN}{w:World}{q:IV}{nev:Nat}{vg:Value}{amg:LI}{bm:Nat}{seen:List ByteArray}(hA:Zu L w.heap q.p.va q.p.vm q.p.ve q.p.a) (h3:Ue q.nm) (hg:QL L' w.heap vg amg) (hG:amg.length≤4096) (hm:Z3 Xr w.heap bm (nmM seen)) (h4:bm∈L) (h5:bm∈L') :
  QJ prog 95 [.agg (Zf q).toArray,.int .i64 nev,vg,.map (some bm)] w λr w'=>r=.int .i64 (Z1 nev amg seen q.it)∧Step [bm] w w'∧(Z1 nev amg seen q.it=0→Z3 Xr w'.heap bm (nmM (seen++[q.nm]))):=by
 have E:Z1 nev amg seen q.it=(if Yz q.nm=false then 7 else if q.nm∈seen then 8 else if Jt q.p.a≠0 then Jt q.p.a else if JW q.p.a=false then 6 else if q.p.a.st=0 then 12 else
  if (q.p.a.al.any λe=>decide ((nev:Int)≤e))=true then 2 else if (mns q.p.a.al amg).length≠0 then 9 else 0):=rfl
 refine Zb (Z1 nev amg seen q.it) λR hR=>?_;rw[hR] at E ⊢;refine QJ.of_W func95 O ntmps95 results95 (by simp) ?_;refine Qc<|xl O<|QT (us:=Zf q) O λb4 w1 hv hH h6=>xl O<|QT (us:=[.int .i64 nev]) O λb5 w2 T hI h7=>Qe ?_;have V:=hv.trans T;have Y:=h6.ext T;refine Qf<|Qg<|Qc<|x (Qa O)<|x (Qd Y O O)<|xl O<|xf<|(VZ q.nm h3 w2).mono ?_;rintro r3 w3 ⟨rfl,rfl⟩
 refine x (Zm O)<|Qe<|Q2 O (λhj=>?_) (λhj=>?_)
 ·have G:Yz q.nm=false:=by simpa using hj
  rw[if_pos G] at E;subst E;refine Qc<|Qe ?_;exact Qn ⟨[_],Z,O,V.any,λe=>absurd e (by decide)⟩
 have G:¬Yz q.nm=false:=by simpa using hj
 rw[if_neg G] at E;have hw:=hm.ext V;refine Qc<|Qb<|x (Qa O)<|x (Qd Y O O)<|x (jH hw O O)<|Qe<|Q7 O (λha=>?_) (λha=>?_)
 ·rw[if_pos ha] at E;subst E;refine Qc<|Qe ?_;exact Qn ⟨[_],Z,O,V.any,λe=>absurd e (by decide)⟩
 rw[if_neg ha] at E;refine Qi ?_;have hJ:=hm.lt;refine Qc<|Qb<|x (Qa O)<|x (Qd Y O O)<|xl O<|Xn (k:=q.nm) hw O O λw4 hl hy=>xe ?_;rw[show ev _ _=Value.bool true from rfl,Qcj ha] at hy;have H:Step [bm] w w4:=V.any.trans' hl;have hK:=hv.size;have hc:=Y.step hl (by simp;omega);have h8:=h7.step hl (by simp;omega)
 have hf:Zu L w4.heap q.p.va q.p.vm q.p.ve q.p.a:=hA.st (H.mono (λb hb=>by simp at hb;subst hb;exact h4));have h9:QL L' w4.heap vg amg:=hg.st (H.mono (λb hb=>by simp at hb;subst hb;exact h5));refine Qf<|Qc<|x (Qa O)<|x (Yv (us:=Zl q.p) hc O O O)<|xl O<|xf<|(Xt hf).mono ?_;rintro r5 w5 ⟨rfl,hh⟩;refine Qe<|Qc<|Qb<|x (Q9 O O)<|xe<|Q7 rfl (λI=>?_) (λI=>?_)
 ·rw[if_pos I] at E;subst E;refine Qc<|Qb<|Qe ?_;exact Qn ⟨[_],Z,O,H.trans hh,λe=>absurd e I⟩
 rw[if_neg I] at E;have hB:=(ZG q.p.a).1 (Lu.1 I);refine Qi<|Qf<|Qg<|Qc<|x (Qa O)<|x (Yv (us:=Zl q.p) (hc.ext hh) O O O)<|xl O<|xf<|(Qha (hf.ext hh)).mono ?_;rintro r6 w6 ⟨rfl,hC⟩;have J:=hh.trans hC;have hz:=H.trans J;have h0:=hc.ext J;refine x (Zm O)<|Qe<|Q2 O (λho=>?_) (λho=>?_)
 ·have G:JW q.p.a=false:=by simpa using ho
  rw[if_pos G] at E;subst E;refine Qc<|Qe ?_;exact Qn ⟨[_],Z,O,hz,λe=>absurd e (by decide)⟩
 have G:¬JW q.p.a=false:=by simpa using ho
 rw[if_neg G] at E;refine Qc<|x (Qa O)<|x (Qa O)<|x (Qd h0 O O)<|x (Q8 O O)<|Qe<|Q7 O (λhp=>?_) (λhp=>?_)
 ·have hq:q.p.a.st=0:=hp;rw[if_pos hq] at E;subst E;refine Qc<|Qe ?_;exact Qn ⟨[_],Z,O,hz,λe=>absurd e (by decide)⟩
 have hq:¬q.p.a.st=0:=hp;rw[if_neg hq] at E;refine Qc<|x (Qa O)<|x (Qa O)<|x (Qd h0 O O)<|x Zq<|xl O<|xf<|(QkZ (q:=λe=>decide ((nev:Int)≤e)) (cap:=[.pointer (some ⟨b5,0,none⟩)]) (QL.fl (hf.al.ext J)) (λe he w2 T=>QfY ((h8.ext J).ext T))).mono ?_;rintro r7 w7 ⟨rfl,hD⟩;have S:=J.trans hD;have hE:=H.trans S;refine Qe<|Q2 O (λhs=>?_) (λhs=>?_)
 ·rw[if_pos hs] at E;subst E;refine Qc<|Qe ?_;exact Qn ⟨[_],Z,O,hE,λe=>absurd e (by decide)⟩
 rw[if_neg (by rw[hs];decide)] at E;have hL:=hB.al_le;refine Qc<|x (Qa O)<|x (Qa O)<|x (Qd (hc.ext S) O O)<|Qb<|xl O<|xf<|(Qd8 (hf.al.ext S) (h9.ext S) (by omega)).mono ?_;rintro r8 w8 ⟨hF,rfl⟩;have h1:=S.trans hF;have h2:=H.trans h1;refine x (UT O)<|Qe<|Q7 O (λht=>?_) (λht=>?_)
 ·have hu:(mns q.p.a.al amg).length≠0:=λe=>ht (Lo e);rw[if_pos hu] at E;subst E;refine Qc<|Qe ?_;exact Qn ⟨[_],Z,O,h2,λe=>absurd e (by decide)⟩
 have hu:¬(mns q.p.a.al amg).length≠0:=λe=>ht (λh=>e (by rw[show mns q.p.a.al amg=[] from h];rfl));rw[if_neg hu] at E;subst E;refine Qi<|Qc<|Qe ?_;exact Qn ⟨[_],Z,O,h2,λ_=>hy.ext h1⟩
theorem Qd1 {L:LN}{w:World}{v:Value}{l:List (Int×Int)}(h:P2s L w.heap v l) :
  QJ prog 173 [v] w λr w'=>Step [] w w'∧w'.ownsRow w.heap.size 124 2 r l.length (l.flatMap QQ):=by
 have ha:=h.le;refine QJ.of_W func173 O ntmps173 results173 (by simp) ?_;refine Qc<|Qe ?_;obtain ⟨ao,cap,E⟩:=h.shape;refine Qf<|Qc<|Qb<|x (K2 (show ev _ _=_ from E) O)<|xe<|Q2 rfl (λG=>?_) (λG=>?_)
 ·refine Qc<|Qe<|Qn ⟨[nS],Z,Step.refl _ _,?_⟩;rcases h.2.2 with ⟨h1,h2⟩ | ⟨a,c,h1,_⟩
  ·have:l=[]:=Lo h2;subst this;exact QO _ _ _ _
  rw[h1] at E;cases E;cases G
 rcases h.2.2 with ⟨h1,h2⟩ | ⟨a,c,h1,h2,h3⟩
 ·rw[h1] at E;injection E with e1;subst e1;cases G
 refine Qi<|Qc ?_;have S:∀u∈l.flatMap QQ,u.oneCell'=true:=by
  intro u hu;obtain ⟨p,_,hp⟩:=ME.1 hu;simp only[List.mem_cons,List.not_mem_nil,or_false] at hp;rcases hp with rfl | rfl <;> rfl
 refine xl rfl<|Kw λb5 w1 H I J=>Qb<|xl O<|QU (base:=w.heap.size) (J.own (n:=0) (sz:=2) O (by omega) I) O (show ev _ _=_ from h1) h.1 (h3.ext H) S (by omega) (by have:=J.lt;omega) λT w2 V Y hb=>Qe<|Qn ⟨[T],Z,H.then1 Y I,?_⟩;simpa[tup] using V
theorem Qd0 {L:LN}{w:World}{v:Value}{l:List (Int×Int)}(h:P2s L w.heap v l) :
  QJ prog 174 [v] w λr w'=>Step [] w w'∧w'.ownsRow w.heap.size 129 2 r l.length (l.flatMap QQ):=by
 have ha:=h.le;refine QJ.of_W func174 O ntmps174 results174 (by simp) ?_;refine Qc<|Qe ?_;obtain ⟨ao,cap,E⟩:=h.shape;refine Qf<|Qc<|Qb<|x (K2 (show ev _ _=_ from E) O)<|xe<|Q2 rfl (λG=>?_) (λG=>?_)
 ·refine Qc<|Qe<|Qn ⟨[nS],Z,Step.refl _ _,?_⟩;rcases h.2.2 with ⟨h1,h2⟩ | ⟨a,c,h1,_⟩
  ·have:l=[]:=Lo h2;subst this;exact QO _ _ _ _
  rw[h1] at E;cases E;cases G
 rcases h.2.2 with ⟨h1,h2⟩ | ⟨a,c,h1,h2,h3⟩
 ·rw[h1] at E;injection E with e1;subst e1;cases G
 refine Qi<|Qc ?_;have S:∀u∈l.flatMap QQ,u.oneCell'=true:=by
  intro u hu;obtain ⟨p,_,hp⟩:=ME.1 hu;simp only[List.mem_cons,List.not_mem_nil,or_false] at hp;rcases hp with rfl | rfl <;> rfl
 refine xl rfl<|Kw λb5 w1 H I J=>Qb<|xl O<|QU (base:=w.heap.size) (J.own (n:=0) (sz:=2) O (by omega) I) O (show ev _ _=_ from h1) h.1 (h3.ext H) S (by omega) (by have:=J.lt;omega) λT w2 V Y hb=>Qe<|Qn ⟨[T],Z,H.then1 Y I,?_⟩;simpa[tup] using V
theorem ZC.low {base:Nat}{av X:LN}{w w':World}{v:Value}{n sz:Nat}{cs:LV}(h:ZC base av w.heap v n sz cs) (E:Step X w w') (G:∀b∈X,b<base):ZC base av w'.heap v n sz cs:=by
 intro L H;have h1:Zo (X++L) w.heap v n sz cs:=h _ (λb hb=>by
  rcases Lj.1 hb with hb | hb
  ·exact .inl (G b hb)
  exact H b hb)
 exact (h1.step E (λb hb=>Lj.2 (.inl hb))).up (λb hb=>.inl (Lj.2 (.inr hb)))
theorem ZQ.low {α:Type}{g:α→LV}{sz T:Nat}{p:α→Value×Nat×Nat×LV}{base:Nat}{X:LN}{w w':World}{v:Value}{l:List α}(h:ZQ g sz T p base w v l) (E:Step X w w') (G:∀b∈X,b<base):ZQ g sz T p base w' v l :=
 ⟨Qj h.own E (λb hb hm=>by have:=(Qk h.own b hb).1;have:=G b hm;omega),λq hq=>(h.each q hq).low E G⟩
theorem ZQ.arr {α:Type}{g:α→LV}{sz T:Nat}{p:α→Value×Nat×Nat×LV}{base:Nat}{w:World}{v:Value}{l:List α}{L:LN}(h:ZQ g sz T p base w v l) (E:l.length≤1099511627776) (G:∀b∈L,b<base):Zo L w.heap v l.length sz (l.flatMap g) :=
 QR h.own E (λb hb H=>by have:=(Qk h.own b hb).1;have:=G b H;omega)
abbrev xvP (q:XV):Value×Nat×Nat×LV:=(q.v,q.ls.length,2,q.ls.flatMap QQ)
abbrev kvP (q:KV):Value×Nat×Nat×LV:=(q.v,q.ts.length,2,q.ts.flatMap QQ)
abbrev XvN (base:Nat) (w:World) (v:Value) (l:List XV):Prop:=ZQ Zt 2 122 xvP base w v l
abbrev KvN (base:Nat) (w:World) (v:Value) (l:List KV):Prop:=ZQ Zv 3 127 kvP base w v l
theorem XvN.xcs {base:Nat}{w:World}{v:Value}{l:List XV}{qs:List XV}{L:LN}(h:XvN base w v l) (he:l.map (·.x)=qs.map (·.x)) (hq:∀q∈qs,Ue q.nm) (G:l.length≤1099511627776) (E:∀b∈L,b<base):qP L w.heap v l:=by
 refine ⟨h.arr G E,λq hq=>h.each q hq L (λb hb=>.inl (E b hb)),λq hm=>?_⟩;have h1:q.x∈qs.map (·.x):=by rw[←he];exact LL hm
 obtain ⟨q',H,e⟩:=Ly.1 h1;have h2:=hq q' H;have h3:q'.nm=q.nm:=congrArg jo.nm e;rw[h3] at h2;exact h2
theorem KvN.kcs {base:Nat}{w:World}{v:Value}{l:List KV}{qs:List KV}{L:LN}(h:KvN base w v l) (he:l.map (·.k)=qs.map (·.k)) (hq:∀q∈qs,Ue q.nm) (G:l.length≤1099511627776) (E:∀b∈L,b<base):qG L w.heap v l:=by
 refine ⟨h.arr G E,λq hq=>h.each q hq L (λb hb=>.inl (E b hb)),λq hm=>?_⟩;have h1:q.k∈qs.map (·.k):=by rw[←he];exact LL hm
 obtain ⟨q',H,e⟩:=Ly.1 h1;have h2:=hq q' H;have h3:q'.nm=q.nm:=congrArg Xj.nm e;rw[h3] at h2;exact h2
theorem QD {w:World}{base e sz n:Nat}{v:Value}{cs:LV}(h:w.ownsRow base e sz v n cs):v.oneCell'=true:=by
 rcases h.2 with ⟨h1,_⟩ | ⟨g,cap,cur,h1,_⟩ <;> subst h1 <;> rfl
theorem QZ {w:World}{base e sz n:Nat}{v:Value}{cs:LV}(h:w.ownsRow base e sz v n cs):v.cells=[v].toArray:=by
 rcases h.2 with ⟨h1,_⟩ | ⟨g,cap,cur,h1,_⟩ <;> subst h1 <;> rfl
theorem zY {q:XV}(h:q.v.oneCell'=true):∀u∈Zt q,u.oneCell'=true:=by
 intro u hu;simp only[List.mem_cons,List.not_mem_nil,or_false] at hu;rcases hu with rfl | rfl
 ·rfl
 exact h
theorem Qcu {q:KV}(h:q.v.oneCell'=true):∀u∈Zv q,u.oneCell'=true:=by
 intro u hu;simp only[List.mem_cons,List.not_mem_nil,or_false] at hu;rcases hu with rfl | rfl | rfl
 ·rfl
 ·exact h
 rfl
def QmT (N:Nat) (w:World) (r:Value) (sz:LI) (ex:List jo) (cs:List Xj):Prop:=∃vs vx vk qx ks,r=.agg #[vs,vx,vk]∧qx.map (·.x)=ex∧ks.map (·.k)=cs∧∀L:LN,(∀b∈L,b<N)→QL L w.heap vs sz∧qP L w.heap vx qx∧qG L w.heap vk ks
set_option maxHeartbeats 4000000 in
theorem zP {L:LN}{w:World}{c:CL}(h:Zx L w.heap c) :
  QJ prog 98 [c.val] w λr w'=>Step [] w w'∧QmT w.heap.size w' r (szs c.cel.co) c.cel.ex c.cel.cs:=by
 have m7:=h.co.arr.le;have m8:=h.ex.arr.le;have m9:=h.cs.arr.le;refine QJ.of_W func98 O ntmps98 results98 (by simp) ?_;refine Qc<|xl O<|QT (us:=c.cells) O λb1 w1 ga pa gb=>xl O<|Qv (us:=[nS,nS,nS]) O λb2 w2 hH pc gc=>xe ?_;have pd:=ga.size;have pf:=hH.size;have pg:=gb.lt;have ph:=gc.lt
 refine Qc<|x (QF U)<|xl O<|Qv (us:=[nS,nS,nS]) O λE w3 g6 g7 h3=>xl O<|Qr (us:=[nS,nS,nS]) h3 O O O O ⟨O,O,O,U⟩ λw4 g8 h3 =>
  xe ?_
 have pj:=h3.lt;have V:Step [] w2 w4:=g6.then1 g8 g7;have hI:Step [] w w4:=(ga.trans hH).trans V;have pm:=hI.size;have ge:=(gb.ext hH).ext V;have g9:=gc.ext V;have h4:=h.ext hI;have pn:b1<E:=by omega
 have po:b2<E:=by omega
 have ka:w.heap.size≤E:=by omega
 have hJ:∀{wa wb:World},Step [E] wa wb→Step [] w wa→Step [] w wb:=λha hb=>hb.then1 ha ka;refine Qf<|Qc<|x (Qa O)<|x (Qd ge O O)<|x (Qq h4.co.arr O)<|Qb<|xe ?_
 refine Qg<|Qy (α:=Nat×Value) [(5,5),(14,26)] (λz=>[(14,.int .i64 z.1)]) (λz w'=>z.1≤c.co.length∧Step [E] w4 w'∧Q3 w'.heap E 151 [z.2,nS,nS]∧Qt 3 w4.heap.size w' z.2 ((c.co.take z.1).map (·.p.a.st))) (λz=>c.co.length - z.1) (by rfl) (0,nS) Z
  ⟨Lk _,Step.refl _ _,h3,QO _ _ _ _⟩ ?_
 rintro ⟨k,vs⟩ g w5 ⟨hk,ht,h8,H⟩;simp only[] at hk h8 H;have gg:=hJ ht hI;have h5:=h.ext gg;have gh:=ge.step ht (by simp;omega);have kb:=g9.step ht (by simp;omega);have pp:=ht.size;refine Qc<|x (QA O O)<|xe<|Qf<|QE O (λhK=>?_) (λhK=>?_)
 ·refine Qw ?_;have kc:c.co.length≤k:=by have J:¬(k:Int)<(c.co.length:Int):=hK;omega
  rw[Lm kc] at H;refine Qf<|Qc<|x (Qa O)<|x (Qd gh O O)<|x (Qq h5.ex.arr O)<|Qb<|xe<|Qg<|Qy (α:=Nat×Value×List XV) [(7,7),(30,45)] (λz=>[(30,.int .i64 z.1)]) (λz w'=>z.1≤c.ex.length∧Step [E] w5 w'∧Q3 w'.heap E 151 [vs,z.2.1,nS]∧XvN w5.heap.size w' z.2.1 z.2.2∧z.2.2.map (·.x)=(c.ex.take z.1).map (·.x)) (λz=>c.ex.length - z.1) (by rfl) (0,nS,[]) Z
   ⟨Lk _,Step.refl _ _,h8,ZQ.nil,O⟩ ?_
  rintro ⟨j,vx,qx⟩ g w6 ⟨hj,Y,hM,hf,hg⟩;simp only[] at hj hM hf hg;have gi:=hJ Y gg;have h6:=h.ext gi;have ke:=gh.step Y (by simp;omega);have kf:=kb.step Y (by simp;omega);have pt:=Y.size;have pu:qx.length=j:=by have:=congrArg List.length hg;simp at this;omega
  refine Qc<|x (QA O O)<|xe<|Qf<|QE O (λhN=>?_) (λhN=>?_)
  ·refine Qw ?_;have kg:c.ex.length≤j:=by have J:¬(j:Int)<(c.ex.length:Int):=hN;omega
   rw[Lm kg] at hg;refine Qf<|Qc<|x (Qa O)<|x (Qd ke O O)<|x (Qq h6.cs.arr O)<|Qb<|xe<|Qg<|Qy (α:=Nat×Value×List KV) [(9,9),(49,66)] (λz=>[(49,.int .i64 z.1)]) (λz w'=>z.1≤c.cs.length∧Step [E] w6 w'∧Q3 w'.heap E 151 [vs,vx,z.2.1]∧KvN w6.heap.size w' z.2.1 z.2.2∧z.2.2.map (·.k)=(c.cs.take z.1).map (·.k)) (λz=>c.cs.length - z.1) (by rfl) (0,nS,[]) Z
    ⟨Lk _,Step.refl _ _,hM,ZQ.nil,O⟩ ?_
   rintro ⟨i,vk,ks⟩ g w7 ⟨hi,hh,hO,hn,ho⟩;simp only[] at hi hO hn ho;have gj:=hJ hh gi;have h7:=h.ext gj;have kh:=kf.step hh (by simp;omega);have pw:=hh.size;have pz:ks.length=i:=by have:=congrArg List.length ho;simp at this;omega
   refine Qc<|x (QA O O)<|xe<|Qf<|QE O (λhP=>?_) (λhP=>?_)
   ·refine Qw ?_;have ki:c.cs.length≤i:=by have J:¬(i:Int)<(c.cs.length:Int):=hP;omega
    rw[Lm ki] at ho;have p0:=(H.1);have kj:ZP [vs,vx,vk]:=⟨QD H,QD hf.own,QD hn.own,U⟩;refine Qc<|x (Qs hO O O)<|xl O<|Qr (us:=[vs,vx,vk]) kh O O O O kj λw8 hu kk=>xe ?_;have p1:Step [b2] w7 w8:=hu;refine Qn ⟨[.agg #[vs,vx,vk]],⟨⟨_,O,QB O (kk.at (L:=[]) (by simp)).cells⟩,U⟩,gj.then1 hu (by omega),?_⟩
    have kn:=Qj ((Qj H Y (λb hb hm=>by have:=(Qk H b hb).1;simp at hm;omega))) hh (λb hb hm=>by have:=(Qk H b hb).1;simp at hm;omega);have ko:=Qj kn hu (λb hb hm=>by have:=(Qk H b hb).1;simp at hm;omega);have kp:=(ZQ.low hf hh (by simp;omega)).low hu (by simp;omega);have kq:=ZQ.low hn hu (by simp;omega)
    refine ⟨vs,vx,vk,qx,ks,O,hg,ho,λL hL=>⟨?_,XvN.xcs kp hg h.ex.nm (by omega) (λb hb=>by have:=hL b hb;omega),KvN.kcs kq ho h.cs.nm (by omega) (λb hb=>by have:=hL b hb;omega)⟩⟩;have he:szs c.cel.co=c.co.map (·.p.a.st):=by show ((c.co.map IV.it).map _)=_;rw[Me];rfl
    rw[he];exact Qt.ints ko (by rw[Lb];omega) (λb hb=>by have:=hL b hb;omega)
   have hp:i<c.cs.length:=by have J:(i:Int)<(c.cs.length:Int):=hP;omega
   have gk:=Lh hp;have gl:c.cs.take (i+1)=c.cs.take i++[c.cs[i]'hp]:=Le hp;refine Qi<|Qf<|Qg<|Qc<|xig Xq h7.cs.arr O O hp λp2 gm=>?_;refine Zb (c.cs[i]'hp) λq hq=>?_;rw[hq] at gm gk gl;have G:=h7.cs.each q gk
   refine x (QI gm O O)<|xl O<|Qv (us:=[.string .empty,nS,.int .i64 0]) O λb9 w9 kr kt hv=>xl O<|Qr (us:=Zv q) hv O O O O ⟨O,G.one,O,U⟩ λS ku hv =>
    xe ?_
   have h9:Step [] w7 S:=kr.then1 ku kt;have gn:=hO.ext h9;have hQ:=Qk hn.own;have I:E∉ob vk:=λhm=>by have:=(hQ E hm).1;omega
   have hR:b9∉ob vk:=λhm=>by have:=(hQ b9 hm).2;omega
   refine QS (Step (ob vk) S) [(0,true),(1,true),(2,true),(3,true),(4,true),(5,true),(7,true),(8,true),(6,false),(9,true),(10,false),(11,false),(12,true),(13,false)] mixed (by rfl) (by kernel_rfl) (Step.drew _ _) ?_;have kv:=h9.trans (Step.drew [] S);refine p (λ_=>Qa O)<|pq (λ_ hc=>Qd (gn.step hc I) O O)<|p (λ_=>Qa O)<|pq (λ_ hc=>Qd (hv.step hc hR) O O) <|
    p (λ_=>Qa O)<|pq (λ_ hc=>Qd (hv.step hc hR) O O)<|p (λ_=>Qa O)<|pq (λ_ hc=>Qd (hv.step hc hR) O O) <|
    pk<|xf<|(Qd0 (G.ext kv)).mono ?_
   rintro hw p3 ⟨kw,hS⟩;have hy:=(Step.drew [] S).trans kw;refine ⟨hy.any,?_⟩;refine p (λ_=>QF ⟨O,QZ hS,O,U⟩)<|pk<|QC (us:=[Zv ⟨q.nm,hw,q.ts,q.bd⟩]) O O (by decide) (by simp) ⟨rfl,rfl,U⟩ λp4 p5 hz p6 ky=>⟨(hy.trans hz).any,?_⟩;have hA:=(h9.trans hy).trans hz;have hT:S.heap.size=({ S with drawn:=S.drawn+1 }:World).heap.size:=rfl
   have p7:=h9.size;have p8:=hA.size;refine pk<|QU (news:=Zv ⟨q.nm,hw,q.ts,q.bd⟩) (L:=[]) (Qm hn.own hA) O O O (ky.at (by simp)) (Qcu (q:=⟨q.nm,hw,q.ts,q.bd⟩) (QD hS)) (by omega) (by omega) λhU go gp hB kz=>⟨((hy.trans hz).any (L:=ob vk)).trans' hB,?_⟩
   have k0:KvN w6.heap.size go hU (ks++[⟨q.nm,hw,q.ts,q.bd⟩]):=ZQ.app hn hA (Qm hS hz) G.le (by rw[←hT];omega) (by omega) gp hB kz;have k4:=(gn.step ((hy.trans hz).any (L:=ob vk)) I).step hB I;refine p (λ_=>Qa O)<|pkl (hl:=by kernel_rfl)<|QG (j:=2) (u:=hU) k4 O O (by simp) (QD gp) λp9 gq k5=>pe ?_
   have k6:Step [E] w6 go:=(hh.trans hA).then hB (λb hb=>.inr (hQ b hb).1);refine Qx<|QN O O<|Qb<|xe<|⟨(i+1,hU,ks++[⟨q.nm,hw,q.ts,q.bd⟩]),by simp only[];omega,Z,hp,?_,k5,ZQ.low k0 gq (by simp;omega),?_⟩
   ·exact k6.trans' gq
   simp only[];rw[Ls,ho,gl,Ls];rfl
  have hr:j<c.ex.length:=by have J:(j:Int)<(c.ex.length:Int):=hN;omega
  have gr:=Lh hr;have gs:c.ex.take (j+1)=c.ex.take j++[c.ex[j]'hr]:=Le hr;refine Qi<|Qf<|Qg<|Qc<|xig XX h6.ex.arr O O hr λqb gt=>?_;refine Zb (c.ex[j]'hr) λq hq=>?_;rw[hq] at gt gr gs;have G:=h6.ex.each q gr
  refine x (QI gt O O)<|xl O<|Qv (us:=[.string .empty,nS]) O λb7 qc k7 k8 hC=>xl O<|Qr (us:=Zt q) hC O O O O ⟨O,G.one,U⟩ λT k9 hC =>
   xe ?_
  have hD:Step [] w6 T:=k7.then1 k9 k8;have gu:=hM.ext hD;have hV:=Qk hf.own;have I:E∉ob vx:=λhm=>by have:=(hV E hm).1;omega
  have gv:b7∉ob vx:=λhm=>by have:=(hV b7 hm).2;omega
  refine QS (Step (ob vx) T) [(0,true),(1,true),(2,true),(3,true),(4,true),(5,true),(6,false),(7,true),(8,false),(9,false),(10,true),(11,false)] mixed (by rfl) (by kernel_rfl) (Step.drew _ _) ?_;have ma:=hD.trans (Step.drew [] T);refine p (λ_=>Qa O)<|pq (λ_ hc=>Qd (gu.step hc I) O O)<|p (λ_=>Qa O)<|pq (λ_ hc=>Qd (hC.step hc gv) O O) <|
   p (λ_=>Qa O)<|pq (λ_ hc=>Qd (hC.step hc gv) O O)<|pk<|xf<|(Qd1 (G.ext ma)).mono ?_
  rintro h0 qf ⟨mc,hW⟩;have h1:=(Step.drew [] T).trans mc;refine ⟨h1.any,?_⟩;refine p (λ_=>QF ⟨O,QZ hW,U⟩)<|pk<|QC (us:=[Zt ⟨q.nm,h0,q.ls⟩]) O O (by decide) (by simp) ⟨rfl,rfl,U⟩ λqj qk h2 ql mf=>⟨(h1.trans h2).any,?_⟩;have hE:=(hD.trans h1).trans h2;have hT:T.heap.size=({ T with drawn:=T.drawn+1 }:World).heap.size:=rfl
  have qm:=hD.size;have qo:=hE.size;refine pk<|QU (news:=Zt ⟨q.nm,h0,q.ls⟩) (L:=[]) (Qm hf.own hE) O O O (mf.at (by simp)) (zY (q:=⟨q.nm,h0,q.ls⟩) (QD hW)) (by omega) (by omega) λhX gw gx hF mg=>⟨((h1.trans h2).any (L:=ob vx)).trans' hF,?_⟩
  have mh:XvN w5.heap.size gw hX (qx++[⟨q.nm,h0,q.ls⟩]):=ZQ.app hf hE (Qm hW h2) G.le (by rw[←hT];omega) (by omega) gx hF mg;have mj:=(gu.step ((h1.trans h2).any (L:=ob vx)) I).step hF I;have mo:Step [E] w5 gw:=(Y.trans hE).then hF (λb hb=>.inr (hV b hb).1)
  refine p (λ_=>Qa O)<|pkl (hl:=by kernel_rfl)<|QG (j:=1) (u:=hX) mj O O (by simp) (QD gx) λqq gy mq=>pe ?_;refine Qx<|QN O O<|Qb<|xe<|⟨(j+1,hX,qx++[⟨q.nm,h0,q.ls⟩]),by simp only[];omega,Z,hr,?_,mq,ZQ.low mh gy (by simp;omega),?_⟩
  ·exact mo.trans' gy
  simp only[];rw[Ls,hg,gs,Ls];rfl
 have hs:k<c.co.length:=by have J:(k:Int)<(c.co.length:Int):=hK;omega
 have gz:=Lh hs;have g0:c.co.take (k+1)=c.co.take k++[c.co[k]'hs]:=Le hs;have qr:((c.co.take k).map (·.p.a.st)).length=k:=by simp;omega
 refine Qi<|Qf<|Qg<|Qc<|xig YK h5.co.arr O O hs λq0 J=>?_;refine Zb (c.co[k]'hs) λq hq=>?_;rw[hq] at J gz g0;have G:=h5.co.each q gz;refine x (QI J O O)<|xl O<|Qv (us:=[.string .empty,nS,.int .i64 0,nS,nS]) O λb5 q1 mu mv hY=>xl O<|Qr (us:=Zf q) hY O O O O ⟨O,G.al.one,O,G.mr.one,G.ed.one,U⟩ λmw my hY =>
  xe ?_
 have g2:Step [] w5 mw:=mu.then1 my mv;have mz:=h8.ext g2;refine Qx<|x (Qa O)<|x (Qd mz O O)<|x (Qa O)<|x (Qa O)<|x (Qd hY O O)<|xl O<|QC (us:=[[.int .i64 q.p.a.st]]) O O (by decide) (by simp) ⟨rfl,rfl,U⟩ λq2 q3 m0 q4 m1=>?_;have hG:=g2.trans m0;have q5:=hG.size;have g3:=Qk H;have I:E∉ob vs:=λhm=>by have:=(g3 E hm).1;omega
 refine xl rfl<|QU (news:=[.int .i64 q.p.a.st]) (L:=[]) (Qm H hG) O O O (m1.at (by simp)) (by simp[Value.oneCell']) (by omega) (by omega) λg4 m2 hZ V za=>?_;have m3:=(h8.ext hG).step V I;have m4:Step [E] w4 m2:=(ht.trans hG).then V (λb hb=>.inr (g3 b hb).1);refine x (Qa O)<|xl O<|QG (j:=0) (u:=g4) m3 O O (by simp) (QD hZ) λzv g5 m5 =>
  xe ?_
 have m6:=Qj hZ g5 (λb hb hm=>by have:=(Qk hZ b hb).1;simp at hm;omega);refine Qx<|QN O O<|Qb<|xe<|⟨(k+1,g4),by simp only[];omega,Z,hs,m4.trans' g5,m5,?_⟩;simp only[];rw[g0,Ls];exact Qt.snoc (n:=q.p.a.st) m6
theorem Qeu (n:Nat):JJ (n+1)=JJ n++[(n:Int)]:=by unfold JJ;rw[Nu,Ls];rfl
theorem z6 (n:Nat):(JJ n).length=n:=by unfold JJ;simp
theorem XM {k:Nat}{l:List IV}(h:k<l.length):(l.drop k).map (·.it)=(l[k]'h).it::(l.drop (k+1)).map (·.it):=by rw[QY h];rfl
theorem qw {n:Nat}{u:LI}{s:List ByteArray}{x:YH}(h:Z1 n u s x=0):Zr x.a:=by
 unfold Z1 at h;split at h
 ·cases h
 split at h
 ·cases h
 split at h
 ·rename_i h1 h2;exact absurd h h2
 rename_i h1;exact (ZG _).1 (Lu.1 h1)
theorem KC {n:Nat}{al:LI}{s:List ByteArray}{u:LI}{x:YH}{l:List YH}:Z5 n al s u (x::l)=if Z1 n al s x≠0 then (Z1 n al s x,s,u) else Z5 n al (s++[x.nm]) (mrg (· || ·) u x.a.al) l:=rfl
theorem qv {n:Nat}{u:LI}{s:List ByteArray}{x:YH}{l:List YH}:Je n u s (x::l)=if Z1 n u s x≠0 then Z1 n u s x else Je n u (s++[x.nm]) l:=rfl
set_option maxHeartbeats 4000000 in
theorem YF {L:LN}{w:World}{c:CL}(h:Zx L w.heap c) :
  QJ prog 37 [c.val] w λr w'=>r=.int .i64 (Zc c.cel)∧Step [] w w':=by
 have kf:=h.co.arr.le;have kg:=h.rq.arr.le;have E:Zc c.cel=(if Js c.ev≠0 then Js c.ev else if c.co.length=0 then 12 else if 8<c.co.length∨12<c.co.length+c.rq.length then 3 else
  if (Z5 c.ev.length (JJ c.ev.length) [] [] (c.co.map (·.it))).1≠0 then (Z5 c.ev.length (JJ c.ev.length) [] [] (c.co.map (·.it))).1 else
  if Je c.ev.length (Z5 c.ev.length (JJ c.ev.length) [] [] (c.co.map (·.it))).2.2 (Z5 c.ev.length (JJ c.ev.length) [] [] (c.co.map (·.it))).2.1 (c.rq.map (·.it))≠0 then Je c.ev.length (Z5 c.ev.length (JJ c.ev.length) [] [] (c.co.map (·.it))).2.2 (Z5 c.ev.length (JJ c.ev.length) [] [] (c.co.map (·.it))).2.1 (c.rq.map (·.it)) else
  Ys (szs c.cel.co) c.cel.ex c.cel.cs):=by
  unfold Zc;rw[show c.cel.co.length=c.co.length from Lb ..,show c.cel.rq.length=c.rq.length from Lb ..];rfl
 refine Zb (Zc c.cel) λR hR=>?_;rw[hR] at E ⊢;refine Zb (Z5 c.ev.length (JJ c.ev.length) [] [] (c.co.map (·.it))) λCO hB=>?_;rw[hB] at E;refine QJ.of_W func37 O ntmps37 results37 (by simp) ?_;refine Qc<|xl O<|QT (us:=c.cells) O λb1 w1 hy kh hz=>Qe ?_;have ki:=hy.size;have kj:=hz.lt;refine Qf<|Qc<|x (Qa O)<|x (Qd hz O O)<|xl O<|xf<|(qt (h.ev.ext hy)).mono ?_;rintro r2 w2 ⟨rfl,hC⟩
 refine Qe ?_;have ha:=hy.trans hC;have hp:=hz.ext hC;have h2:=h.ext ha;refine Qc<|Qb<|x (Q9 O O)<|xe<|Q7 rfl (λhs=>?_) (λhs=>?_)
 ·rw[if_pos hs] at E;subst E;refine Qc<|Qb<|Qe ?_;exact Qn ⟨[_],Z,O,ha⟩
 rw[if_neg hs] at E;have kk:c.ev.length≤32:=by
  refine Lu.1 λhn=>?_;apply hs;unfold Js;rw[if_pos (by omega)];decide
 refine Qi<|Qf<|Qc<|x (Qa O)<|x (Qd hp O O)<|x (Qq h2.co.arr O)<|Qe<|Qg<|Qc<|Qb<|x (Q8 O O)<|Qe<|Q7 O (λh0=>?_) (λh0=>?_)
 ·have h1:c.co.length=0:=by have ga:(c.co.length:Int)=0:=h0;omega
  rw[if_pos h1] at E;subst E;refine Qc<|Qe ?_;exact Qn ⟨[_],Z,O,ha⟩
 have h1:¬c.co.length=0:=by have ga:¬(c.co.length:Int)=0:=h0;omega
 rw[if_neg h1] at E;refine QW (α:=Bool) [(27,37)] (λz=>[(27,.bool z)]) (λz w'=>w'=w2∧z=decide (8<c.co.length∨12<c.co.length+c.rq.length)) (by rfl) ?_ ?_
 ·refine Qx<|Qb<|xb (ZR O O) (λgb=>?_) (λgb=>?_)
  ·refine Qb<|xs O<|xs O<|xs O<|xs O<|xs O<|xs O<|x (Qo O)<|Qe ?_;exact ⟨_,Z,O,bT (.inl (by omega))⟩
  refine Qb<|Qb<|x (Qa O)<|x (Qd hp O O)<|x (Qq h2.rq.arr O)<|x (X5 O O ⟨by omega,by omega⟩) <|
   x (ZR rfl O)<|x (Qo O)<|Qe ?_
  exact ⟨_,Z,O,bD (by omega)⟩
 rintro z g w3 ⟨rfl,rfl⟩;refine Q7 rfl (λh3=>?_) (λh3=>?_)
 ·rw[if_pos h3] at E;subst E;refine Qc<|Qe ?_;exact Qn ⟨[_],Z,O,ha⟩
 rw[if_neg h3] at E;refine Qi<|Qc<|xl O<|Yn Xr λbm w4 hD kn hE=>Qe ?_;have ko:=hE.lt;have kp:=hp.lt;have kq:=ha.size;have hG:=ha.trans hD;have hH:=hp.ext hD;have hI:b1≠bm:=by omega
 have hge:w.heap.size≤bm:=by omega
 have hM:Zx [bm] w.heap c:=h.up (λb hb=>.inr (by simp at hb;omega));have hJ:=hM.ext hG;refine Qc<|x Qh<|Qe<|Qf<|Qc<|x (Qa O)<|x (Qd hH O O)<|x (Qq hJ.ev.arr O)<|Qb<|xe<|Qg<|Qy (α:=Nat×Value) [(6,6),(8,8),(42,49)] (λz=>[(6,z.2),(42,.int .i64 z.1)]) (λz w'=>z.1≤c.ev.length∧Step [] w4 w'∧Qt 3 w4.heap.size w' z.2 (JJ z.1)) (λz=>c.ev.length - z.1) (by rfl) (0,nS) ⟨O,O,U⟩
  ⟨Lk _,Step.refl _ _,QO _ _ _ _⟩ ?_
 rintro ⟨k,vg⟩ g w5 ⟨hk,hc,ht⟩;simp only[] at hk ht;have kr:=z6 k;refine Qc<|x (QA O O)<|xe<|Qf<|QE O (λh4=>?_) (λh4=>?_)
 ·refine Qw ?_;have he:k=c.ev.length:=by have hf:¬(k:Int)<(c.ev.length:Int):=h4;omega
  subst he;have gc:QL [bm] w5.heap vg (JJ c.ev.length):=Qt.ints ht (by omega) (by simp;omega);have ge:=hE.ext hc;have hK:=hH.ext hc;have hL:=hJ.ext hc;have gg:=hG.trans hc;refine Qf<|Qc<|x (Qa O)<|x (Qd hK O O)<|x (Qq hL.co.arr O)<|Qb<|xe ?_
  refine Qg<|Qy (α:=Nat×Value×List ByteArray×LI) [(2,2),(7,7),(10,11),(53,72)] (λz=>[(7,z.2.1),(53,.int .i64 z.1)]) (λz w'=>z.1≤c.co.length∧Step [bm] w5 w'∧Z3 Xr w'.heap bm (nmM z.2.2.1)∧QL [bm] w'.heap z.2.1 z.2.2.2∧z.2.2.2.length≤32*z.1∧Z5 c.ev.length (JJ c.ev.length) z.2.2.1 z.2.2.2 ((c.co.drop z.1).map (·.it))=CO) (λz=>c.co.length - z.1) (by rfl) (0,nS,[],[]) ⟨O,O,U⟩
   ⟨Lk _,Step.refl _ _,ge,Zo.nil _ _ _,by simp,hB⟩ ?_
  rintro ⟨k,vu,sn,u⟩ g w6 ⟨hk,hg,hu,h5,gh,H⟩;simp only[] at hk hu h5 gh H;have hN:Step [] w w6:=gg.then1 hg hge;have h6:=hK.step hg (by simpa using hI);have T:=hL.st hg;refine Qc<|x (QA O O)<|xe<|Qf<|QE O (λh7=>?_) (λh7=>?_)
  ·refine Qw ?_;have he:k=c.co.length:=by have hf:¬(k:Int)<(c.co.length:Int):=h7;omega
   subst he;rw[Lq (Lr _)] at H;have gi:CO=(0,sn,u):=H.symm;subst gi;rw[if_neg (by simp)] at E;simp only[] at E;refine Zb (Je c.ev.length u sn (c.rq.map (·.it))) λRQ hO=>?_;rw[hO] at E;refine Qf<|Qc<|x (Qa O)<|x (Qd h6 O O)<|x (Qq T.rq.arr O)<|Qb<|xe ?_
   refine Qg<|Qy (α:=Nat×List ByteArray) [(2,2),(13,14),(76,90)] (λz=>[(76,.int .i64 z.1)]) (λz w'=>z.1≤c.rq.length∧Step [bm] w6 w'∧Z3 Xr w'.heap bm (nmM z.2)∧Je c.ev.length u z.2 ((c.rq.drop z.1).map (·.it))=RQ) (λz=>c.rq.length - z.1) (by rfl) (0,sn) Z
    ⟨Lk _,Step.refl _ _,hu,hO⟩ ?_
   rintro ⟨k,sm⟩ g w7 ⟨hk,hh,hP,I⟩;simp only[] at hk hP I;have hQ:Step [] w w7:=hN.then1 hh hge;have hS:=h6.step hh (by simpa using hI);have hj:=T.st hh;have gj:=h5.st hh;refine Qc<|x (QA O O)<|xe<|Qf<|QE O (λh8=>?_) (λh8=>?_)
   ·refine Qw ?_;have he:c.rq.length≤k:=by have hf:¬(k:Int)<(c.rq.length:Int):=h8;omega
    rw[Lq he] at I;have gk:RQ=0:=I.symm;rw[if_neg (by rw[gk];decide)] at E;refine Qc<|x (Qs hS O O)<|xl O<|xf<|(zP hj).mono ?_;rintro r8 w8 ⟨gl,vs,vx,vk,qx,ks,rfl,gm,gn,hF⟩;obtain ⟨go,gp,gq⟩:=hF [] (by simp);refine xl O<|xf<|(qp go gp gq).mono ?_;rintro r9 w9 ⟨rfl,gr⟩;rw[gm,gn,←E];refine Qe ?_;exact Qn ⟨[_],Z,O,(hQ.trans gl).trans gr⟩
   have G:k<c.rq.length:=by have hf:(k:Int)<(c.rq.length:Int):=h8;omega
   have S:=Lh G;rw[XM G,qv] at I;refine Qi<|Qf<|Qg<|Qc<|xig YK hj.rq.arr O O G λkt hT=>?_;refine Zb (c.rq[k]'G) λq hq=>?_;rw[hq] at hT S I;have J:=hj.rq.each q S
   refine x (QI hT O O)<|xl O<|Qv (us:=[.string .empty,nS,.int .i64 0,nS,nS]) O λku kv gs gt h9=>xl O<|Qr (us:=Zf q) h9 O O O O ⟨O,J.al.one,O,J.mr.one,J.ed.one,U⟩ λgu gv h9 =>
    xe ?_
   have V:Step [] w7 gu:=gs.then1 gv gt;refine Qc<|x (Qs h9 O O)<|x (Qa O)<|x (Qd (hS.ext V) O O)<|x (Qq (hj.ev.ext V).arr O)<|Qb<|Qb<|xl O<|xf<|(Qcx (J.ext V) (hj.rq.nm q S) (gj.ext V) (by omega) (hP.ext V) (by simp) (by simp)).mono ?_;rintro kw ky ⟨rfl,hU,gw⟩;refine Qe<|Qc<|Qb<|x (Q9 O O)<|xe<|Q7 O (λhl=>?_) (λhl=>?_)
   ·rw[if_pos hl] at I;rw[if_pos (by rw[←I];exact hl)] at E;refine Qc<|Qb<|Qe ?_;exact Qn ⟨[_],Z,by rw[E,←I];rfl,(hQ.trans V).then1 hU hge⟩
   rw[if_neg hl] at I;refine Qi<|Qx<|QN O O<|Qb<|xe ?_;exact ⟨(k+1,sm++[q.nm]),by simp only[];omega,Z,G,(hh.trans V).trans' hU,gw (Lu.1 hl),I⟩
  have G:k<c.co.length:=by have hf:(k:Int)<(c.co.length:Int):=h7;omega
  have S:=Lh G;rw[XM G,KC] at H;refine Qi<|Qf<|Qg<|Qc<|xig YK T.co.arr O O G λkz hV=>?_;refine Zb (c.co[k]'G) λq hq=>?_;rw[hq] at hV S H;have J:=T.co.each q S;have gx:=gc.st hg
  refine x (QI hV O O)<|xl O<|Qv (us:=[.string .empty,nS,.int .i64 0,nS,nS]) O λk0 k4 gy gz hv=>xl O<|Qr (us:=Zf q) hv O O O O ⟨O,J.al.one,O,J.mr.one,J.ed.one,U⟩ λg0 g2 hv =>
   xe ?_
  have Y:Step [] w6 g0:=gy.then1 g2 gz;have k5:=hu.lt;refine Qf<|Qc<|x (Qs hv O O)<|x (Qa O)<|x (Qd (h6.ext Y) O O)<|x (Qq (T.ev.ext Y).arr O)<|Qb<|Qb<|xl O<|xf<|(Qcx (J.ext Y) (T.co.nm q S) (gx.ext Y) (by omega) (hu.ext Y) (by simp) (by simp)).mono ?_;rintro k6 g3 ⟨rfl,hA,g4⟩;refine Qe<|Qc<|Qb<|x (Q9 O O)<|xe ?_
  refine Q7 O (λho=>?_) (λho=>?_)
  ·rw[if_pos ho] at H;rw[if_pos (by rw[←H];exact ho)] at E;refine Qc<|Qb<|Qe ?_;exact Qn ⟨[_],Z,by rw[E,←H];rfl,(hN.trans Y).then1 hA hge⟩
  rw[if_neg ho] at H;have hW:Z1 c.ev.length (JJ c.ev.length) sn q.it=0:=Lu.1 ho;have g5:=(qw hW).al_le;have k7:q.p.a.al.length≤32:=g5;refine Qi ?_;have hw:Step [bm] w6 g3:=Y.any.trans' hA;have g6:=h5.st hw;have k8:=hw.size
  refine Qx<|Qb<|x (Qa O)<|x (Qa O)<|x (Qd (hv.step hA (by simp;omega)) O O)<|xl O<|xf<|(QaD g6 (T.st hw |>.co.each q S |>.al) (by omega)).mono ?_;rintro g7 k9 ⟨hX,g8⟩;refine Qe ?_;have ma:=yE (· || ·) u q.p.a.al;refine Qx<|QN O O<|Qb<|xe ?_
  exact ⟨(k+1,g7,sn++[q.nm],mrg (· || ·) u q.p.a.al),by simp only[];omega,⟨O,O,U⟩,G,(hg.trans' hw).trans hX,(g4 hW).ext hX,Qt.ints g8 (by show (mrg _ _ _).length≤_;omega) (by simp;omega),by simp only[];omega,H⟩
 have G:k<c.ev.length:=by have hf:(k:Int)<(c.ev.length:Int):=h4;omega
 refine Qi<|Qf<|Qg<|Qc<|Qb<|Qe<|Qx<|Qb<|Qb<|xl O<|QC (us:=[[.int .i64 k]]) O O (by decide) (by simp) ⟨rfl,rfl,U⟩ λmc mf hY mg g9=>?_;have hZ:=hc.trans hY;have mh:=hZ.size;have ka:=Qk ht;refine xl rfl<|QU (news:=[.int .i64 k]) (L:=[]) (Qm ht hY) O O O (g9.at (by simp)) (by simp[Value.oneCell']) (by omega) (by omega) λkb mj kc ke mo =>
  Qe<|Qx<|QN O O<|Qb<|xe ?_
 refine ⟨(k+1,kb),by simp only[];omega,⟨O,O,U⟩,G,hZ.then ke (λb hb=>.inr (ka b hb).1),?_⟩;simp only[];rw[Qeu];exact Qt.snoc (n:=(k:Int)) kc
end Go.Proofs.YtdffckgdcegpaaaGreatDoor
namespace Go.Lg
theorem Qmy {P:Program}{ops:List Oper}{K:Fr→World→Prop}{f:Fr}{w:World}{d:Option Nat}{ty:Nat}{ps:String}{af:Array Edge}{gd:Option (Nat×Bool)}{C:World→Prop}{pl:List (Nat×Bool)}{E:Nat}
  {t e sz bys:Nat} {z:Value} {x G I:Operand} {L:LN} {v:Value} {n:Nat} {cs:LV} {H:Array Obj} {k k':IntKind} {hi:Nat} [h:Sl P t e sz bys z]
  (J:Q6 ops E=⟨d,.slice t x none (some G) (some I),ty,ps,af,gd⟩) (S:Zo L H v n sz cs) (hx:ev f x=v) (T:ev f G=.int k hi) (hm:ev f I=.int k' hi) (h1:hi≤n)
  (V:∀v',Zo L H v' hi sz (cs.take (hi*sz))→XP P ops C K pl (QX f d v') w)
  (Y:Yc ops f (Q6 ops E)=true:=by rfl):XP P ops C K ((E,true)::pl) f w:=by
 obtain ⟨v',h3,h4⟩:=QeZ (P:=P) (d:=d) (ty:=ty) (ps:=ps) (af:=af) (gd:=gd) (t:=t) S hx T hm h1;exact Lg.p (λw'=>by rw[J];exact h4 w') (by rw[J];exact V v' h3) Y
end Go.Lg
namespace Go.Proofs.YtdffckgdcegpaaaGreatDoor
open Go.Proofs.Tryz
open Go.Lg
structure Qhe (c:Zw):Prop where
 ev:c.ev.length≤32
 c0:c.co.length≠0
 c8:c.co.length≤8
 cr:c.co.length+c.rq.length≤12
 co:∀x∈c.co,Zr x.a
 rq:∀x∈c.rq,Zr x.a
 ce:∀x∈c.co,∀e∈x.a.al,e<(c.ev.length:Int)
 re:∀x∈c.rq,∀e∈x.a.al,e<(c.ev.length:Int)
 cd:Ys (szs c.co) c.ex c.cs=0
 e0:Js c.ev=0
theorem Qan {n:Nat}{u:LI}{s:List ByteArray}{x:YH}(h:Z1 n u s x=0):∀e∈x.a.al,e<(n:Int):=by
 unfold Z1 at h;split at h
 ·cases h
 split at h
 ·cases h
 split at h
 ·rename_i h1 h2;exact absurd h h2
 split at h
 ·cases h
 split at h
 ·cases h
 split at h
 ·cases h
 rename_i h1;intro e he;refine Lu.1 λE=>h1 ?_;rw[Ml];exact ⟨e,he,decide_eq_true (by omega)⟩
theorem Qaq {n:Nat}{al:LI}:∀{l:List YH}{s:List ByteArray}{u:LI},(Z5 n al s u l).1=0→∀x∈l,Zr x.a∧∀e∈x.a.al,e<(n:Int)
 | [],_,_,_,x,hx=>by cases hx
 | y::l,s,u,h,x,hx=>by
  rw[KC] at h;by_cases h1:Z1 n al s y≠0
  ·rw[if_pos h1] at h;exact absurd h h1
  rw[if_neg h1] at h;have h2:Z1 n al s y=0:=Lu.1 h1;rcases Lc.1 hx with rfl | hx
  ·exact ⟨qw h2,Qan h2⟩
  exact Qaq h x hx
theorem Qal {n:Nat}{u:LI}:∀{l:List YH}{s:List ByteArray},Je n u s l=0→∀x∈l,Zr x.a∧∀e∈x.a.al,e<(n:Int)
 | [],_,_,x,hx=>by cases hx
 | y::l,s,h,x,hx=>by
  rw[qv] at h;by_cases h1:Z1 n u s y≠0
  ·rw[if_pos h1] at h;exact absurd h h1
  rw[if_neg h1] at h;have h2:Z1 n u s y=0:=Lu.1 h1;rcases Lc.1 hx with rfl | hx
  ·exact ⟨qw h2,Qan h2⟩
  exact Qal h x hx
theorem ZO {c:Zw}(h:Zc c=0):Qhe c:=by
 unfold Zc at h;by_cases h1:Js c.ev≠0
 ·rw[if_pos h1] at h;exact absurd h h1
 rw[if_neg h1] at h;by_cases h2:c.co.length=0
 ·rw[if_pos h2] at h;cases h
 rw[if_neg h2] at h;by_cases h3:8<c.co.length∨12<c.co.length+c.rq.length
 ·rw[if_pos h3] at h;cases h
 rw[if_neg h3] at h;by_cases E:(Z5 c.ev.length (JJ c.ev.length) [] [] c.co).1≠0
 ·rw[if_pos E] at h;exact absurd h E
 rw[if_neg E] at h;by_cases h5:Je c.ev.length (Z5 c.ev.length (JJ c.ev.length) [] [] c.co).2.2 (Z5 c.ev.length (JJ c.ev.length) [] [] c.co).2.1 c.rq≠0
 ·rw[if_pos h5] at h;exact absurd h h5
 rw[if_neg h5] at h;have a4:=Qaq (Lu.1 E);have G:=Qal (Lu.1 h5);have H:c.ev.length≤32:=by
  refine Lu.1 λI=>?_;apply h1;unfold Js;rw[if_pos (by omega)];decide
 exact ⟨H,h2,by omega,by omega,λx hx=>(a4 x hx).1,λx hx=>(G x hx).1,λx hx=>(a4 x hx).2,λx hx=>(G x hx).2,h,Lu.1 h1⟩
theorem Yb.e {N:Nat}{H:Array Obj}{aa:List QV}{va vt:Value}{c:Int}(h:Yb N H aa va vt c):c=ju aa:=by
 unfold Yb at h;unfold ju;by_cases h1:Vu aa≠0
 ·rw[if_pos h1] at h ⊢;exact h.1
 rw[if_neg h1] at h ⊢;cases E:sync aa with
 | none=>rw[E] at h;exact h.1
 | some z=>rw[E] at h;exact h.1
theorem Yb.bad {N:Nat}{H:Array Obj}{aa:List QV}{va vt:Value}{c:Int}(h:Yb N H aa va vt c) (hc:c≠0):va=zA∧vt=Za:=by
 unfold Yb at h;by_cases h1:Vu aa≠0
 ·rw[if_pos h1] at h;exact h.2
 rw[if_neg h1] at h;cases E:sync aa with
 | none=>rw[E] at h;exact h.2
 | some z=>rw[E] at h;exact absurd h.1 hc
theorem Yb.good {N:Nat}{H:Array Obj}{aa:List QV}{va vt:Value}{c:Int}(h:Yb N H aa va vt c) (hc:c=0):Xw N H va (syA aa)∧q6 N H vt (syQ aa)∧sync aa=some (syA aa,syQ aa)∧Vu aa=0:=by
 unfold Yb at h;unfold syA syQ;by_cases h1:Vu aa≠0
 ·rw[if_pos h1] at h;exact absurd (h.1.symm.trans hc) h1
 rw[if_neg h1] at h;cases E:sync aa with
 | none=>rw[E] at h;rw[h.1] at hc;cases hc
 | some z=>rw[E] at h;exact ⟨h.2.1,h.2.2,O,Lu.1 h1⟩
theorem Yb.st1 {N b:Nat}{w w':World}{aa:List QV}{va vt:Value}{c:Int}(h:Yb N w.heap aa va vt c) (hb:b<N) (E:Step [b] w w'):Yb N w'.heap aa va vt c:=by
 unfold Yb at *;split
 ·rename_i h1;rw[if_pos h1] at h;exact h
 rename_i h1;rw[if_neg h1] at h;cases hq:sync aa with
 | none=>rw[hq] at h;exact h
 | some z=>rw[hq] at h;exact ⟨h.1,Jj h.2.1 hb E,Qg1 h.2.2 hb E⟩
theorem Yb.mono {N M:Nat}{H:Array Obj}{aa:List QV}{va vt:Value}{c:Int}(h:Yb N H aa va vt c) (E:M≤N):Yb M H aa va vt c:=by
 unfold Yb at *;split
 ·rename_i h1;rw[if_pos h1] at h;exact h
 rename_i h1;rw[if_neg h1] at h;cases hq:sync aa with
 | none=>rw[hq] at h;exact h
 | some z=>rw[hq] at h;exact ⟨h.1,h.2.1.mono E,h.2.2.mono E⟩
theorem QhH (c:Zw):Yy c=if Zc c≠0 then Zc c else if ju (auts c.co)≠0 then ju (auts c.co) else ju (auts c.co++auts c.rq):=by
 unfold Yy;split
 ·rfl
 have e:ju (auts c.co)=if Vu (auts c.co)≠0 then Vu (auts c.co) else match sync (auts c.co) with | none=>3 | some _=>0:=rfl
 by_cases h1:Vu (auts c.co)≠0
 ·rw[if_pos h1] at e;rw[if_pos h1,e,if_pos h1]
 rw[if_neg h1] at e;rw[if_neg h1];cases E:sync (auts c.co) with
 | none=>rw[E] at e;simp only[] at e;rw[e];rfl
 | some z=>rw[E] at e;simp only[] at e;rw[e];rfl
theorem Qc2 (c:CL):(c.co.map (·.p)).map (·.a)=auts c.cel.co:=by unfold auts;show _=(c.co.map IV.it).map _;rw[Me,Me];rfl
theorem Qi9 (c:CL):(c.rq.map (·.p)).map (·.a)=auts c.cel.rq:=by unfold auts;show _=(c.rq.map IV.it).map _;rw[Me,Me];rfl
theorem Qcf {ps:List AV}(h:∀p∈ps,Zr p.a):∀p∈ps,p.a.st≤4096:=λp hp=>(h p hp).st1
def zV (N:Nat) (H:Array Obj) (c:Zw) (va vt:Value) (e:Int):Prop:=if Zc c≠0 then e=Zc c∧va=zA∧vt=Za else Yb N H (auts c.co) va vt e
theorem Qg6 {L:LN}{w:World}{c:CL}(h:Zx L w.heap c) (hg:Kb w 4096) :
  QJ prog 28 [c.val] w λr w'=>Step [] w w'∧∃va vt e,r=.tuple #[va,vt,.int .i64 e]∧zV w.heap.size w'.heap c.cel va vt e:=by
 refine QJ.of_W func28 O ntmps28 results28 (by simp) ?_;refine Qc<|xl O<|QT (us:=c.cells) O λb1 w1 V hy hh=>xl O<|Qv (us:=[nS,.int .i64 0,nS,nS]) O λb2 w2 Y hz J=>x Qh<|Qe ?_;have ha:=V.trans Y;have h0:=V.size;have hb:=hh.ext Y;refine Qf<|Qc<|x (Qs hb O O)<|xl O<|xf<|(YF (h.ext ha)).mono ?_;rintro r3 w3 ⟨rfl,E⟩;refine Qe ?_;have S:=ha.trans E;have h1:=J.lt
 refine Qc<|Qb<|x (Q9 O O)<|xe<|Q7 rfl (λh9=>?_) (λh9=>?_)
 ·refine Qc<|x (QF U)<|Qb<|xl O<|Qr (us:=[nS,.int .i64 0,nS,nS]) (J.ext E) O O O O ⟨O,O,O,O,U⟩ λw4 hj hl=>x Qh<|Qe ?_;exact Qn ⟨[zA,Za,.int .i64 (Zc c.cel)],⟨⟨_,O,QB O (hl.at (L:=[]) (by simp)).cells⟩,rfl,rfl,U⟩,S.then1 hj (by omega),zA,Za,_,rfl,by unfold zV;rw[if_pos h9];exact ⟨O,O,O⟩⟩
 have hn:=ZO (Lu.1 h9);refine Qi<|Qc ?_;have h3:=h.ext S;refine x (Qa O)<|x (Qd (hb.ext E) O O)<|xl O<|xf<|(Qbj h3.co).mono ?_;rintro r5 w5 ⟨T,ho⟩;have H:=S.trans T;have hr:∀p∈c.co.map (·.p),Zr p.a:=λp hp=>by
  obtain ⟨q,hq,rfl⟩:=Ly.1 hp;exact hn.co q.it (LL hq)
 have h2:=h.co.arr.le;have hs:XD [] w5.heap r5 (c.co.map (·.p)):=QfZ ho (by rw[Lb];omega) (by simp) (λp hp=>by
  obtain ⟨q,hq,rfl⟩:=Ly.1 hp;exact (((h.co.each q hq).up (L':=[]) (by simp)).ext H))
 refine xl rfl<|xf<|(QaE (km:=4096) hs (hg.ext H) (by decide) (Qcf hr)).mono ?_;rintro r6 w6 ⟨hc,va,vt,e,rfl,I⟩;rw[Qc2] at I;have ht:=H.trans hc;have hu:=H.size;have hv:∃us,va=.agg us.toArray∧us.length=4∧ZP us:=by
  by_cases he:e=0
  ·exact Xv (I.good he).1
  exact ⟨[nS,.int .i64 0,nS,nS],(I.bad he).1,O,O,O,O,O,U⟩
 refine Exists.elim hv λus G=>?_;refine x (Qp O O)<|x (Qp O O)<|x (Qp O O)<|xl O<|Qr (us:=us) ((J.ext E).ext (T.trans hc)) O G.1 G.2.1 O G.2.2 λw7 hf hw =>
  x Qh<|Qe<|Qn ⟨[.agg us.toArray,vt,.int .i64 e],⟨⟨_,O,QB G.2.1 (hw.at (L:=[]) (by simp)).cells⟩,rfl,rfl,U⟩,ht.then1 hf (by omega),va,vt,e,by rw[G.1];rfl,?_⟩
 unfold zV;rw[if_neg h9];exact (I.st1 (by have:=T.size;have:=E.size;omega) hf).mono hu
theorem jd {L:LN}{w:World}{v:Value}{l:LI}{m:Int}(h:QL L w.heap v l) (J:Kb w m) (hb:∀n∈l,0≤n∧n<m) (hl:l.length≤1000000) :
  QJ prog 72 [v] w λr w'=>r=.string ⟨(Xx l).toArray⟩∧Step [] w w':=by
 refine QJ.of_W func72 O ntmps72 results72 (by simp) ?_;refine Qc<|Qe<|Qc<|xl O<|Qv (us:=[.pointer none,nS]) O λH w1 ha S hc=>xe ?_;refine Qf<|Qc<|Qb<|x (Qq h O)<|Qb<|xe ?_
 refine Qg<|Qy (α:=Nat×Value) [(5,5),(8,16)] (λz=>[(8,.int .i64 z.1)]) (λz w'=>z.1≤l.length∧Step [] w w'∧(z.2=.pointer none∨z.2=me H)∧Bl z.2 H (Xx (l.take z.1)) w'∧(Xx (l.take z.1)).length≤8*z.1) (λz=>l.length - z.1) (by rfl) (0,.pointer none) Z
  ⟨Lk _,ha,.inl O,⟨_,hc,QO _ _ _ _⟩,Lr _⟩ ?_
 rintro ⟨k,p⟩ g w2 ⟨hk,E,hp,G,he⟩;simp only[] at hk hp G he;refine Qc<|x (QA O O)<|xe<|Qf<|QE O (λh9=>?_) (λh9=>?_)
 ·refine Qw<|Qc ?_;rw[Lm (by omega)] at G;refine xl O<|xf<|(zh E S hp G).mono ?_;rintro r3 w3 ⟨rfl,hf⟩;refine Qe ?_;exact Qn ⟨[.string ⟨(Xx l).toArray⟩],Z,O,hf⟩
 have I:k<l.length:=by omega
 have ho:=hb l[k] (Lh I);obtain ⟨q,hq⟩:∃q:Nat,l[k]=q:=⟨l[k].toNat,by omega⟩;have hg:l[k].toNat=q:=by omega
 have hr:=VT 7 q (by have:=J.le;omega);have T:Xx (l.take (k+1))=Xx (l.take k)++(Lib.decDigits q++[32]):=by
  rw[Le I];unfold Xx;rw[Lz,List.flatMap_singleton,hg]
 refine Qi<|Qf<|Qg<|Qc<|xii (h.ext E) O O I λhs hh=>x (Qu hh O)<|Qe<|Qx<|Qb<|xl O<|xf ?_;refine (show QJ _ _ [.int .i64 l[k]] _ _ by rw[hq];exact (Qcw q (by omega) w2 (J.ext E))).mono ?_;rintro r4 w4 ⟨rfl,V⟩;have hj:(⟨(Lib.decDigits q).toArray⟩:ByteArray).size+(⟨#[32]⟩:ByteArray).size≤1000000000:=by show (Lib.decDigits q).toArray.size+1≤_;simp;omega
 refine x (Z7 O O hj)<|xl O<|xf<|(JL (E.trans V) S hp (G.ext V) ((⟨(Lib.decDigits q).toArray⟩:ByteArray)++(⟨#[32]⟩:ByteArray)) (by rw[ByteArray.size_append];show _+((Lib.decDigits q).toArray.size+1)≤_;simp;omega)).mono ?_;rintro r5 w5 ⟨hn,Y⟩;refine xe<|Qx<|QN O O<|Qb<|xe<|⟨(k+1,me H),by simp only[];omega,Z,by simp only[];omega,hn,.inr O,?_,?_⟩
 ·simp only[];rw[T];have e:((⟨(Lib.decDigits q).toArray⟩++⟨#[32]⟩:ByteArray)).data.toList=Lib.decDigits q++[32]:=by rw[ByteArray.data_append];simp
  rw[e] at Y;exact Y
 simp only[];rw[T];simp;omega
structure Sty where
 c:CL
 p:AV
 vq:Value
 qs:List TV
 s:AV
 vt:Value
 ts:List TV
 vs:Value
 vx:Value
 vk:Value
 qx:List XV
 ks:List KV
 bm:Nat
 mm:List (ByteArray×Value)
abbrev Sty.cells (q:Sty):LV:=[q.c.ve,q.c.vc,q.c.vr,q.c.vx,q.c.vk,q.p.va,.int .i64 q.p.a.st,q.p.vm,q.p.ve,q.vq,q.s.va,.int .i64 q.s.a.st,q.s.vm,q.s.ve,q.vt,q.vs,q.vx,q.vk,.map (some q.bm)]
structure XB (L:LN) (b:Nat) (H:Array Obj) (q:Sty):Prop where
 B:Q3 H b 154 q.cells
 bL:b∉L
 c:Zx L H q.c
 p:Zu L H q.p.va q.p.vm q.p.ve q.p.a
 s:Zu L H q.s.va q.s.vm q.s.ve q.s.a
 qs:Xh L H q.vq q.qs
 ts:Xh L H q.vt q.ts
 k1:QL L H q.vs (szs q.c.cel.co)
 k2:qP L H q.vx q.qx
 k3:qG L H q.vk q.ks
 mL:q.bm∉L
 m:Z3 Xr H q.bm q.mm
theorem XB.ext {L:LN}{b:Nat}{w w':World}{q:Sty}(h:XB L b w.heap q) (E:Step [] w w'):XB L b w'.heap q:=⟨h.B.ext E,h.bL,h.c.ext E,h.p.ext E,h.s.ext E,h.qs.ext E,h.ts.ext E,h.k1.ext E,h.k2.ext E,h.k3.ext E,h.mL,h.m.ext E⟩
theorem XB.st {L:LN}{b:Nat}{w w':World}{q:Sty}(h:XB L b w.heap q) (E:Step L w w'):XB L b w'.heap q:=⟨h.B.step E h.bL,h.bL,h.c.st E,h.p.st E,h.s.st E,h.qs.st E,h.ts.st E,h.k1.st E,h.k2.st E,h.k3.st E,h.mL,h.m.step E h.mL⟩
theorem XB.up {L L':LN}{b:Nat}{H:Array Obj}{q:Sty}(h:XB L b H q) (E:∀b∈L',b∈L∨H.size≤b):XB L' b H q :=
 ⟨h.B,λhm=>by rcases E _ hm with h1 | h1;exact h.bL h1;have:=h.B.lt;omega,h.c.up E,h.p.up E,h.s.up E,h.qs.up E,h.ts.up E,h.k1.up E,h.k2.up E,h.k3.up E,λhm=>by rcases E _ hm with h1 | h1;exact h.mL h1;have:=h.m.lt;omega,h.m⟩
structure QmN (q:Sty):Prop where
 ok:Zc q.c.cel=0
 p:sync (auts q.c.cel.co)=some (q.p.a,q.qs.map (·.2))
 s:sync (auts q.c.cel.co++auts q.c.cel.rq)=some (q.s.a,q.ts.map (·.2))
 ex:q.qx.map (·.x)=q.c.cel.ex
 cs:q.ks.map (·.k)=q.c.cel.cs
 m:VY q.c.co.length q.mm (q.qs.map (·.2))
theorem Yh {l:List YH}(h:∀x∈l,Zr x.a):∀a∈auts l,Zr a:=λa ha=>by
 obtain ⟨x,hx,rfl⟩:=Ly.1 ha;exact h x hx
def stp (a:QV) (s v:Int):Int×Bool×Int:=if cks a s≠0 then (0,false,cks a s) else if v∉a.al then (0,false,9) else if 0≤nxt a.ed s v then (nxt a.ed s v,true,0) else (0,false,0)
theorem QgX {L:LN}{w:World}{va vm ve:Value}{a:QV}(h:Zu L w.heap va vm ve a) (s v:Int) :
  QJ prog 30 [.agg #[va,.int .i64 a.st,vm,ve],.int .i64 s,.int .i64 v] w λr w'=>r=.tuple #[.int .i64 (stp a s v).1,.bool (stp a s v).2.1,.int .i64 (stp a s v).2.2]∧Step [] w w':=by
 have E:stp a s v=(if cks a s≠0 then (0,false,cks a s) else if v∉a.al then (0,false,9) else if 0≤nxt a.ed s v then (nxt a.ed s v,true,0) else (0,false,0)):=rfl
 refine Zb (stp a s v) λR hR=>?_;rw[hR] at E ⊢;refine QJ.of_W func30 O ntmps30 results30 (by simp) ?_;refine Qc<|xl O<|QT (us:=[va,.int .i64 a.st,vm,ve]) O λb3 w1 Y he I=>x Qh<|x Qh<|Qe<|Qf<|Qc<|x (Qs I O O)<|Qb<|xl O<|xf<|(X0 (h.ext Y) s).mono ?_;rintro r2 w2 ⟨rfl,J⟩;refine Qe ?_;have G:=Y.trans J;refine Qc<|Qb<|x (Q9 O O)<|xe<|Q7 rfl (λH=>?_) (λH=>?_)
 ·rw[if_pos H] at E;subst E;refine Qc<|Qb<|x Qh<|x Qh<|Qe ?_;exact Qn ⟨[_,_,_],⟨O,O,O,U⟩,O,G⟩
 rw[if_neg H] at E;refine Qi<|Qf<|Qc<|x (Qa O)<|x (Qd (I.ext J) O O)<|Qb<|xl O<|xf<|(ZJ (h.al.ext G) v).mono ?_;rintro r3 w3 ⟨rfl,rfl⟩;refine x (UT O)<|xe<|Q7 rfl (λS=>?_) (λS=>?_)
 ·rw[if_pos S] at E;subst E;refine Qc<|x Qh<|x Qh<|Qe ?_;exact Qn ⟨[_,_,_],⟨O,O,O,U⟩,O,G⟩
 rw[if_neg S] at E;refine Qi ?_;have hc:cks a s=0:=Lu.1 H;have ha:Jt a=0:=by
  unfold cks at hc;refine Lu.1 λT=>?_;rw[if_pos T] at hc;exact T hc
 have hsr:0≤s∧s<a.st:=by
  unfold cks at hc;rw[if_neg (by rw[ha];decide)] at hc;refine Lu.1 λT=>?_;rw[if_pos (by omega)] at hc;cases hc
 refine Qf<|Qc<|x (Qs (I.ext J) O O)<|Qb<|Qb<|xl O<|xf<|(Qaz (h.ed.ext G) ((ZG a).1 ha) s v hsr.1 hsr.2).mono ?_;rintro r4 w4 ⟨rfl,hb⟩;refine Qe<|Qc<|Qb<|x (ZU O O)<|xe<|Q7 rfl (λV=>?_) (λV=>?_)
 ·rw[if_pos V] at E;subst E;refine Qc<|Qb<|x Qh<|x Qh<|Qe ?_;exact Qn ⟨[_,_,_],⟨O,O,O,U⟩,O,G.trans hb⟩
 rw[if_neg V] at E;subst E;refine Qi<|Qc<|x Qh<|x Qh<|Qe ?_;exact Qn ⟨[_,_,_],⟨O,O,O,U⟩,O,G.trans hb⟩
theorem Qfl (E:List Ed) (s v:Int):nxt E s v=(eget E s v).getD (-1):=by
 induction E with
 | nil=>rfl
 | cons e E ih =>
  rw[nxt,eget];by_cases h:e.1=s∧e.2.1=v
  ·rw[if_pos h,if_pos h];rfl
  rw[if_neg h,if_neg h];exact ih
theorem QjN {a:QV}(h:Zr a) {s v:Int}(G:0≤s) (h1:s<a.st) (E:v∈a.al):(stp a s v).2.1=(eget a.ed s v).isSome:=by
 have hc:cks a s=0:=by unfold cks;rw[if_neg (by rw[(ZG a).2 h];decide),if_neg (by omega)]
 unfold stp;rw[if_neg (by rw[hc];decide),if_neg (by simpa using E),Qfl];cases he:eget a.ed s v with
 | none=>rfl
 | some t =>
  have:=(h.ed _ (Qad he)).2.2.2.1;rw[Option.getD_some,if_pos (by simpa using this)];rfl
theorem jz {L L':LN}{w:World}{b:Nat}{q:Sty}{vt:Value}{t:LI}(H:XB L b w.heap q) (I:QL L' w.heap vt t) (J:q.c.co.length≤t.length) :
  QJ prog 71 [.pointer (some ⟨b,0,none⟩),vt] w λr w'=>Step [] w w'∧∃E G,r=.tuple #[E,G]∧QL L' w'.heap E (t.take q.c.co.length)∧QL L' w'.heap G (t.drop q.c.co.length):=by
 refine QJ.of_W func71 O ntmps71 results71 (by simp) ?_;refine Qc<|x Qh<|Qe<|Qc<|Qb<|x (QH O)<|x (Qa O)<|x (Qa O)<|x (Qd H.B O O)<|x (Qq H.c.co.arr O)<|Qe<|Qf<|QS (Step [] w) [(0,true),(1,true),(2,true),(3,true),(4,true),(5,true),(6,true),(7,true),(8,true)] mixed (by rfl) (by kernel_rfl) (Step.drew _ _) ?_
 refine p (λ_=>Ql)<|p (λ_=>Ql)<|p (λ_=>Ql)<|Qmy (hi:=q.c.co.length) O I O O O J λE h1=>p (λ_=>Ql)<|p (λ_=>Ql)<|Qj8 (lo:=q.c.co.length) O I O O J λG h2 =>
  p (λ_=>Qh)<|p (λ_=>Qh)<|pe ?_
 refine Qn ⟨[_,_],⟨O,O,U⟩,Step.drew _ _,E,G,O,?_,?_⟩
 ·rw[Nat.mul_one,←List.map_take] at h1;have e:(t.take q.c.co.length).length=q.c.co.length:=by rw[Lx];omega
  unfold QL;rw[e];exact h1
 exact QL.drop h2
theorem QeW {v:Int}{i:Nat}{y:YH}{l:List YH}{s:Int}{ss:LI}:rfr v i (y::l) (s::ss)=if v∈y.a.al∧(eget y.a.ed s v).isSome=false then (i:Int) else rfr v (i+1) l ss:=rfl
set_option maxHeartbeats 1000000 in
theorem Qa1 {L L':LN}{w:World}{b:Nat}{q:Sty}{vr:Value}{rs:LI}{v:Int}(S:XB L b w.heap q) (hr:QL L' w.heap vr rs) (hs:∀x∈q.c.rq,Zr x.p.a) (hv:Vt (auts q.c.cel.rq) rs) :
  QJ prog 152 [.pointer (some ⟨b,0,none⟩),vr,.int .i64 v] w λr w'=>r=.int .i64 (rfr v 0 q.c.cel.rq rs)∧Step [] w w':=by
 have h7:=S.c.rq.arr.le;have h8:rs.length=q.c.rq.length:=by rw[hv.1];unfold auts;show ((q.c.rq.map IV.it).map _).length=_;simp
 refine Zb (rfr v 0 q.c.cel.rq rs) λR hR=>?_;rw[hR];refine QJ.of_W func152 O ntmps152 results152 (by simp) ?_;refine Qc<|Qe<|Qf<|Qc<|Qb<|x (QH O)<|x (Qa O)<|x (Qa O)<|x (Qd S.B O O)<|x (Qq S.c.rq.arr O)<|Qb<|xe ?_
 refine Qg<|Qy (α:=Nat) [(6,11),(18,44)] (λz=>[(18,.int .i64 z)]) (λz w'=>z≤q.c.rq.length∧Step [] w w'∧rfr v z ((q.c.rq.drop z).map (·.it)) (rs.drop z)=R) (λz=>q.c.rq.length - z) (by rfl) 0 Z
  ⟨Lk _,Step.refl _ _,hR⟩ ?_
 rintro k g w1 ⟨hk,I,E⟩;refine Qc<|x (QA O O)<|xe<|Qf<|QE O (λha=>?_) (λha=>?_)
 ·refine Qw ?_;have ht:q.c.rq.length≤k:=by have hu:¬(k:Int)<(q.c.rq.length:Int):=ha;omega
  rw[Lq ht] at E;have hw:R=-1:=E.symm;refine Qc<|Qe ?_;exact Qn ⟨[_],Z,by rw[hw];rfl,I⟩
 have G:k<q.c.rq.length:=by have hu:(k:Int)<(q.c.rq.length:Int):=ha;omega
 have H:k<rs.length:=by omega
 have hb:=Lh G;rw[XM G,QY H,QeW] at E;have J:∀hz:k<(auts q.c.cel.rq).length,0≤rs[k]'H∧rs[k]'H<((auts q.c.cel.rq)[k]'hz).st:=λhz=>hv.2 k H hz;have hh:k<(auts q.c.cel.rq).length:=by unfold auts;show k<((q.c.rq.map IV.it).map _).length;simpa using G
 have J:=J hh;have h0:(auts q.c.cel.rq)[k]'hh=(q.c.rq[k]'G).p.a:=by unfold auts;show ((q.c.rq.map IV.it).map _)[k]'_=_;simp[IV.it]
 rw[h0,Zk H] at J;rw[Zk H] at E;refine Qi<|Qf<|Qg<|Qc<|Qb<|xig YK (S.c.rq.arr.ext I) O O G λh9 hj=>?_;refine Zb (q.c.rq[k]'G) λy hy=>?_;rw[hy] at hj hb E J;have T:=(S.c.rq.each y hb).ext I;have hl:=hs y hb;refine x (QI hj O O)<|xl O<|Qv (us:=[.string .empty,nS,.int .i64 0,nS,nS]) O λb8 w2 h1 h2 Y=>x Qh <|
  xl rfl<|Qr (us:=Zf y) Y O O O O ⟨O,T.al.one,O,T.mr.one,T.ed.one,U⟩ λw3 h3 Y=>xe ?_
 have V:Step [] w1 w3:=h1.then1 h3 h2;refine Qf<|Qc<|x (Qa O)<|x (Qa O)<|x (Qd Y O O)<|Qb<|xl O<|xf<|(X1 (T.al.ext V) hl.ali v).mono ?_;rintro r4 w4 ⟨rfl,rfl⟩;refine x (UT O)<|xe<|Q7 rfl (λhe=>?_) (λhe=>?_)
 ·rw[if_neg (λe=>he e.1)] at E;refine Qw<|Qx<|QN O O<|Qb<|xe ?_;exact ⟨k+1,by omega,Z,G,I.trans V,E⟩
 have hn:v∈y.p.a.al:=Lu.1 he;have ho:=QjN hl J.1 J.2 hn;refine Qi ?_;have h4:=(hr.ext I).ext V;refine Qf<|QS (Step [] w4) [(0,true),(1,true),(2,true),(3,true),(4,true),(5,true),(6,true),(7,false),(8,true),(9,true),(10,true),(11,true),(12,true),(13,true),(14,true)] mixed (by rfl) (by kernel_rfl) (Step.drew _ _) ?_
 refine p (λ_=>Qa O)<|pq (λ_ hc=>Yv (us:=Zl y.p) (Y.step hc (by simp)) rfl rfl rfl)<|p (λ_=>Ql)<|p (λ_=>Ql)<|pic (i:=k) rfl h4 rfl rfl H λhA h5 =>
  pq (λ_ hc=>Qu (h5.ext hc) O)<|p (λ_=>Ql)<|pk<|xf<|(QgX ((T.ext V).ext (Step.drew _ _)) (cget rs k) v).mono ?_
 rintro r5 w5 ⟨rfl,h6⟩;have hp:=(Step.drew [] w4).trans h6;refine ⟨hp,?_⟩;refine p (λ_=>Ql)<|p (λ_=>Qp O O)<|p (λ_=>Qp O O)<|p (λ_=>Qp O O)<|p (λ_=>Qh) <|
  p (λ_=>Qh)<|p (λ_=>Qh)<|pe ?_
 have hq:=(I.trans V).trans hp;refine Qc<|Qb<|x (Zm O)<|xe<|Q2 rfl (λhf=>?_) (λhf=>?_)
 ·have hg:(eget y.p.a.ed (cget rs k) v).isSome=false:=by rw[←ho];simpa using hf
  rw[if_pos ⟨hn,hg⟩] at E;refine Qc<|Qb<|Qe ?_;exact Qn ⟨[_],Z,by rw[←E];rfl,hq⟩
 have hg:¬(eget y.p.a.ed (cget rs k) v).isSome=false:=by rw[←ho];simpa using hf
 rw[if_neg (λe=>hg e.2)] at E;refine Qi<|Qx<|QN O O<|Qb<|xe ?_;exact ⟨k+1,by omega,Z,G,hq,E⟩
end Go.Proofs.YtdffckgdcegpaaaGreatDoor
namespace Go.Lg
open Go.RowKit
def Xj (L:LN) (W W':World):Prop:=∀(k:Nat) (o:Obj),k∉L→W.heap[k]?=some o→o.isCells=true→W'.heap[k]?=some o
theorem Xj.refl (L:LN) (W:World):Xj L W W:=λ_ _ _ h _=>h
theorem Xj.trans {L:LN}{A B C:World}(h:Xj L A B) (k:Xj L B C):Xj L A C:=λi o E G hc=>k i o E (h i o E G hc) hc
theorem Xj.step {L:LN}{W W':World}(h:Step L W W'):Xj L W W':=λk _ G E _=>(h.block k (LC.1 E).1 G).trans E
theorem At.cst {L:LN}{W W':World}{a:Addr}{us:LV}(h:At L W.heap a us) (hc:Xj L W W') (hz:W.heap.size≤W'.heap.size):At L W'.heap a us:=by
 refine ⟨h.out,λu hu=>L4 (h.lt u hu) hz,λj u hu=>?_⟩;have h1:=h.cell j u hu;unfold cel at h1 ⊢;rw[Z2] at h1 ⊢;cases E:W.heap[a.block]? with
 | none=>rw[E] at h1;cases h1
 | some o =>
  rw[E] at h1;cases o with
  | cells c t m=>rw[hc a.block _ (h.out u (LT hu)) E rfl];exact h1
  | _=>cases h1
theorem Zo.cst {L:LN}{W W':World}{v:Value}{n sz:Nat}{cs:LV}(h:Zo L W.heap v n sz cs) (hc:Xj L W W') (hz:W.heap.size≤W'.heap.size):Zo L W'.heap v n sz cs :=
 ⟨h.1,h.2.1,h.2.2.imp id λ⟨a,cap,h1,h2,h3⟩=>⟨a,cap,h1,h2,h3.cst hc hz⟩⟩
structure LwC (B:Nat) (L:LN) (W W':World):Prop where
 lw:Lw B L W W'
 cst:Xj L W W'
theorem LwC.trans {B:Nat}{L:LN}{E w w':World}(h:LwC B L E w) (k:LwC B L w w'):LwC B L E w':=⟨h.lw.trans k.lw,h.cst.trans k.cst⟩
def rdC {α:Type}(B:Nat) (L:LN) (I:List α→World→Prop) (X:Exit→List α→World→Prop) (xs:List α) (W:World):Exit→LN→Fr→World→Prop
 | .normal,_,_,W'=>JA B L W W'∧Xj L W W'∧I xs W'
 | .ret,_,_,W'=>JA B L W W'∧X .ret xs W'
 | .exit i,_,_,W'=>JA B L W W'∧X (.exit i) xs W'
 | _,_,_,_=>False
theorem QaF {α:Type}{m:Nat}{P:Program}{n:Nat}{Q:Exit→LN→Fr→World→Prop}{ds:LN}{f:Fr}{w:World}{g:Operand}{ps:LN}{assign body:Code}(L:LN) (h1:1≤m)
  {gf:Nat} {fn:Func} [hF:Fu P gf fn] {capt:LV} (hg:ev f g=.func (.func gf) #[] capt.toArray) {encs:α→LV} {S Sp:List α→Prop} {N:Nat} (hp:∀p∈ps,p<n) (hh:∀x,(encs x).length=ps.length)
  (hj:SeqStopsK (fen none) (m - 1) P gf capt.toArray (λx=>(encs x).toArray) (LwC w.heap.size L) S Sp N w)
  (I:List α→World→Prop) (hI:∀s,ZY w.heap.size (I s)) (X:Exit→List α→World→Prop) (hX:∀e s,ZY w.heap.size (X e s)) (h0:I [] w) (A:Fr→α→Fr→World→Prop) (hA:∀x E,ZY w.heap.size (A f x E))
  (Y:∀l pre x W,I pre W→WG (some l) (m - 1 - 1) P n assign (QaO (λJ E W'=>J=[]∧JA w.heap.size L W W'∧Xj L W W'∧I pre W'∧A f x E W') (λ_ _ _ _=>False)) [] (QaL f ps (encs x)) W)
  (hb:∀l pre x E W,I pre W→A f x E W→pre.length<N→WG (some l) (m - 1 - 1) P n body (rdC w.heap.size L I X (pre++[x]) W) [] E W)
  (hn:∀D xs W,w.heap.size≤D→S xs→I xs W→W.heap[D]?=some (.deferred (some []))→Q .normal (D::ds) f W)
  (he:∀D e pre W,w.heap.size≤D→Sp pre→X e pre W→W.heap[D]?=some (.deferred (some []))→(e=.ret∨∃i,e=.exit i)→Q e (D::ds) f W) :
  WG none m P n (.rangeFunc g ps.toArray assign body) Q ds f w:=by
 unfold WG at Y hb ⊢;intro a ha;have eg:∀args w,(callFunc gf args).run P w=.ok (.enter gf args) w:=by
  intro args w;have h1:¬fn.name = "runtime.NumGoroutine" := by simpa using hF.nm
  have h2:¬fn.body=none:=by have:=hF.b;intro e;rw[e] at this;cases this
  simp[callFunc,hF.f,h1,h2]
 have keep:∀{W W':World},JA w.heap.size L W W'→KeepsFrom w.heap.size W W':=λh=>⟨h.lw.size,λk o _ hk T=>h.other k o hk T⟩;refine wpIn_rangeFunc_ownH (F:=fen none) O h1 (gf:=gf) (lb:=capt.toArray) (by rw[ha.eval];exact hg) U eg hj (λh k=>h.trans k)
  (λW l o o' hl T hq _=>⟨⟨O,O,O,by simp,λk hk _=>World.putObj_heap_other (by omega)⟩,λk o2 _ hk hc=>by
   have hs:k≠l:=λe=>by subst e;rw[T] at hk;cases hk;rw[hq] at hc;cases hc
   rw[World.putObj_heap_other hs];exact hk⟩) (Below.refl _ _) (λx=>by simp[hh x]) I
  (λc pre W=>match c with | .ret=>X .ret pre W | .exit i=>X (.exit i) pre W | _=>False) (ZY.own hI) (λc=>ZY.own λs=>?_) h0
  (λx G W=>∃E,Yq n [] G E∧A f x E W) (λx G=>ZY.own λ_=>ZY.ex λE=>ZY.and (ZY.pure _) (hA x E)) ?_ ?_ ?_ ?_
 ·cases c <;> first | exact hX _ s | exact ZY.pure _
 ·intro l pre x W K hi hK;have hr:Yq n [] { tmps:=(ps.toArray.zip (encs x).toArray).foldl (λt (p,v)=>t.setIfInBounds p v) a.tmps,defers:=[] } (QaL f ps (encs x)):=by
   have h2:Yq n [] { a with defers:=[] } f:=⟨ha.size,O,ha.get⟩
   have h3:=VB ps (encs x) _ _ h2 hp;have e:(ps.toArray.zip (encs x).toArray).foldl (λt (p,v)=>t.setIfInBounds p v) a.tmps=(ps.zip (encs x)).foldl (λt (x:Nat×Value)=>t.setIfInBounds x.1 x.2) a.tmps:=by simp
   rw[e];exact h3
  refine wpIn_mono (Y l pre x W hi _ hr) ?_;rintro e G W' ⟨J,E,h2,_,h3⟩;cases e with
  | normal=>obtain ⟨rfl,V,ht,h5,h6⟩:=h3;exact hK G W' (keep V) ⟨V.lw,ht⟩ h5 ⟨E,h2,h6⟩
  | exit id=>exact h3.elim
  | goto l=>exact h3.elim
  | ret=>exact h3.elim
  | panic ch=>exact h3.elim
  | outgrown=>exact h3.elim
 ·rintro l pre x G W _ _ hi ⟨E,h2,h3⟩ hu;refine wpIn_mono (hb l pre x E W hi h3 hu G h2) ?_;rintro e hv W' ⟨J,hw,V,_,h5⟩;cases e with
  | normal=>exact ⟨keep h5.1,⟨h5.1.lw,h5.2.1⟩,h5.2.2⟩
  | exit id=>exact ⟨keep h5.1,h5.2⟩
  | goto l=>exact h5.elim
  | ret=>exact ⟨keep h5.1,h5.2⟩
  | panic ch=>exact h5.elim
  | outgrown=>exact h5.elim
 ·intro D xs W hD H hi hd;exact ⟨D::ds,f,⟨ha.size,by rw[show coll (D::ds)={ target:=.collected D,args:=#[] }::coll ds from rfl,ha.defers],ha.get⟩,λ_ _=>rfl,hn D xs W hD H hi hd⟩
 intro D c pre W hD H hx hd;have hf:Yq n (D::ds) { a with defers:={ target:=.collected D,args:=#[] }::a.defers } f:=⟨ha.size,by rw[show coll (D::ds)={ target:=.collected D,args:=#[] }::coll ds from rfl,ha.defers],ha.get⟩
 cases c with
 | ret=>exact wpIn_ret ⟨_,f,hf,λ_ _=>O,he D .ret pre W hD H hx hd (.inl O)⟩
 | exit i=>exact wpIn_exit ⟨_,f,hf,λ_ _=>O,he D (.exit i) pre W hD H hx hd (.inr ⟨i,O⟩)⟩
 | _=>exact hx.elim
theorem xy2 {m:Nat}{P:Program}{ops:List Oper}{rest:List Oper}{f:Fr}{w:World}{K:Fr→World→Prop}{d:Option Nat}{ty:Nat}{ps:String}{af:Array Edge}{gd:Option (Nat×Bool)}{x y z:Operand}{at_:Array Nat}{l:Nat}{R:Ending→World→Prop}
  (hx:ev f x=.func (.yield l) #[] #[]) (hy:YieldAt (fen none) (m - 1) P l #[ev f y,ev f z] w R) (E:∀e w',R e w'→∃v,e=.returned v∧Xz P m ops K rest (QX f d v) w')
  (G:Yc ops f ⟨d,.call ⟨.value x,[y,z].toArray,at_⟩,ty,ps,af,gd⟩=true:=by rfl) :
  Xz P m ops K (⟨d,.call ⟨.value x,[y,z].toArray,at_⟩,ty,ps,af,gd⟩::rest) f w:=by
 obtain ⟨fn,tmps,assign,body,h1,h2⟩:=hy;have H:(execOp (ev f) ⟨d,.call ⟨.value x,[y,z].toArray,at_⟩,ty,ps,af,gd⟩).run P w=.ok (.round l fn tmps assign body) w:=by
  simp[execOp,resolve,hx,Deferred.ofValue,invoke,h1]
 unfold Xz;rw[G];simp only[XOY,H,upY,cond_true];exact h2.mono λe w' h=>by obtain ⟨v,rfl,hk⟩:=E e w' h;exact hk
end Go.Lg
namespace Go.Proofs.YtdffckgdcegpaaaGreatDoor
open Go.Proofs.Tryz
open Go.Lg
def wrf (rq:List YH) (rs:LI):LI→List (Int×Int)
 | []=>[]
 | v::l=>if 0≤rfr v 0 rq rs then (v,rfr v 0 rq rs)::wrf rq rs l else wrf rq rs l
theorem jp (rq:List YH) (rs:LI) (v:Int):∀l,wrf rq rs (l++[v])=wrf rq rs l++if 0≤rfr v 0 rq rs then [(v,rfr v 0 rq rs)] else []
 | []=>by simp only[List.nil_append,wrf]
 | a::l=>by
  simp only[List.cons_append,wrf,jp rq rs v l];by_cases h:0≤rfr a 0 rq rs
  ·rw[if_pos h,if_pos h];rfl
  rw[if_neg h,if_neg h]
theorem Kq (rq:List YH) (rs:LI) (b:LI):∀a,wrf rq rs (a++b)=wrf rq rs a++wrf rq rs b
 | []=>rfl
 | x::a=>by
  simp only[List.cons_append,wrf,Kq rq rs b a];by_cases h:0≤rfr x 0 rq rs
  ·rw[if_pos h,if_pos h];rfl
  rw[if_neg h,if_neg h]
theorem Qhx (rq:List YH) (rs:LI) (l:LI) (k:Nat):(wrf rq rs (l.take k)).length≤(wrf rq rs l).length:=by
 have h:=Kq rq rs (l.drop k) (l.take k);rw[Mv] at h;rw[h,Li];omega
theorem Qem {rq:List YH}{rs:LI}{l:LI}{k:Nat}(h:k<l.length):wrf rq rs (l.take (k+1))=wrf rq rs (l.take k)++if 0≤rfr (cget l k) 0 rq rs then [(cget l k,rfr (cget l k) 0 rq rs)] else []:=by
 rw[Le h,jp,Zk h]
theorem Um {rq:List YH}{rs:LI}{x:Int×Int}:∀{l:LI},x∈wrf rq rs l↔x.1∈l∧0≤x.2∧x.2=rfr x.1 0 rq rs
 | []=>by simp[wrf]
 | v::l=>by
  rw[wrf];have ih:=Um (rq:=rq) (rs:=rs) (x:=x) (l:=l);by_cases h:0≤rfr v 0 rq rs
  ·rw[if_pos h,Lc,ih,Lc];constructor
   ·rintro (rfl | ⟨h1,h2⟩)
    ·exact ⟨.inl O,h,O⟩
    exact ⟨.inr h1,h2⟩
   rintro ⟨h1 | h1,h2,h3⟩
   ·exact .inl (by rw[←h1];exact Prod.ext_iff.2 ⟨O,h3⟩)
   exact .inr ⟨h1,h2,h3⟩
  rw[if_neg h,ih,Lc];constructor
  ·rintro ⟨h1,h2⟩;exact ⟨.inr h1,h2⟩
  rintro ⟨h1 | h1,h2,h3⟩
  ·exact absurd (by rw[←h1,←h3];exact h2) h
  exact ⟨h1,h2,h3⟩
theorem V1 {w:World}{b:Nat}{st:Int}{vr:Value}(J:vr.cells=[vr].toArray) :
  QJ prog 74 [.pointer (some ⟨b,0,none⟩),.int .i64 st,vr] w λr w'=>Step [] w w'∧∃b1 b2 E,r=.func (.func 151) #[] #[.pointer (some ⟨b1,0,none⟩),.pointer (some ⟨b2,0,none⟩),.pointer (some ⟨E,0,none⟩)] ∧
   w.heap.size≤b1∧w.heap.size≤b2∧w.heap.size≤E∧Q3 w'.heap b1 147 [.pointer (some ⟨b,0,none⟩)]∧Q3 w'.heap b2 3 [.int .i64 st]∧Q3 w'.heap E 37 [vr]:=by
 refine QJ.of_W func74 O ntmps74 results74 (by simp) ?_;refine Qc<|xl O<|QT (us:=[.pointer (some ⟨b,0,none⟩)]) O λE w1 I S T=>xl O<|QT (us:=[.int .i64 st]) O λV w2 G hb Y=>xl O<|QT (us:=[vr]) J λb5 w3 H hc ha=>x Qh <|
  xe ?_
 have he:=I.size;have hf:=G.size;refine Qc<|x Zq<|Qe ?_;exact Qn ⟨[_],Z,(I.trans G).trans H,E,V,b5,O,S,by omega,by omega,(T.ext G).ext H,Y.ext H,ha⟩
set_option maxHeartbeats 4000000 in
theorem KZ {L:LN}{w:World}{S b2 T b m:Nat}{q:Sty}{vr:Value}{rs E:LI}{st:Int}{fl:List (Int×Int)}(hy:Q3 w.heap S 147 [.pointer (some ⟨b,0,none⟩)]) (hA:Q3 w.heap b2 3 [.int .i64 st]) (hB:Q3 w.heap T 37 [vr])
  (hC:S∉L) (hD:T∉L) (hE:∀x∈L,x<w.heap.size) (hS:XB L b w.heap q) (hr:QL L w.heap vr rs) (hF:∀x∈q.c.rq,Zr x.p.a) (hv:Vt (auts q.c.cel.rq) rs) (hc:cks q.p.a st=0) (hz:enb q.p.a st=E) (hl:wrf q.c.cel.rq rs E=fl) :
  SeqStopsK (fen none) m prog 151 [.pointer (some ⟨S,0,none⟩),.pointer (some ⟨b2,0,none⟩),.pointer (some ⟨T,0,none⟩)].toArray (λx:{ x:Int×Int // x∈fl }=>[Value.int .i64 x.1.1,.int .i64 x.1.2].toArray) (LwC w.heap.size L)
   (λG=>G.map (·.1)=fl) (λpre=>pre.map (·.1) <+: fl) fl.length w:=by
 intro l J Jx W hG hJ hH hY h0;have hf:Step [] w W:=Step.of_below hG;have ab:∀{G:List { x:Int×Int // x∈fl }} {W1 W2:World},J G W1→Step [] W1 W2→J G W2:=λ{G W1 W2} hj hg=>hJ G W1 W2 none hj ⟨hg.os,hg.tape,hg.output,hg.size,λk hk _=>hg.block k hk (by simp)⟩ (λr e=>by cases e);have hI:E.length≤1099511627776:=by
  have h1:=hS.p.ed.le;have h2:=JP q.p.a.ed st;rw[←hz];unfold enb;rw[Lb];omega
 have hK:=Qhx q.c.cel.rq rs E;rw[hl] at hK;have key:QJ prog 151 [.func (.yield l) #[] #[],.pointer (some ⟨S,0,none⟩),.pointer (some ⟨b2,0,none⟩),.pointer (some ⟨T,0,none⟩)] W (λ_ W'=>(∃G,G.map (·.1)=fl∧J G W')∨(∃pre,pre.map (·.1) <+: fl∧Jx pre W')):=by
  refine QJ.of_G m func151 O ntmps151 results151 (by simp) ?_;have hL:=hy.ext hf;have hM:=hA.ext hf;have h3:=hS.ext hf;refine Q0<|qJ (Step [] W) [(0,true),(1,true),(2,true),(3,true),(4,true),(5,false),(6,true),(7,true),(8,true),(9,true),(10,true)] mixed (by rfl) (by rfl) (by kernel_rfl) (Step.drew _ _) ?_
  refine pq (λ_ hc=>Qd (hL.ext hc) O O)<|p (λ_=>QH O)<|p (λ_=>Qa O)<|pq (λ_ hc=>Yv (us:=Zl q.p) (h3.B.ext hc) O O O)<|pq (λ_ hc=>Qd (hM.ext hc) O O)<|pk<|xf<|(QbQ (h3.p.ext (Step.drew _ _)) st).mono ?_;rintro r1 w1 ⟨hN,ve,rfl,_,hn⟩;have hn:=hn hc;have ht:=(Step.drew [] W).trans hN;refine ⟨ht,?_⟩;refine p (λ_=>Ql)<|p (λ_=>Qp O O)<|p (λ_=>Qp O O)<|p (λ_=>Qh)<|p (λ_=>Qh)<|pe ?_
  have hR:=hf.size;have hT:({ W with drawn:=W.drawn+1 }:World).heap.size=W.heap.size:=rfl
  rw[hz] at hn;have h4:QL L w1.heap ve E:=Qt.ints hn hI (λx hx=>by have:=hE x hx;omega);refine Q0<|QK (by rfl) (by rfl) ?_;refine Qb<|x (Qq h4 O)<|Qb<|xe ?_
  refine ZE<|V0 (α:=Nat×List { x:Int×Int // x∈fl }) [(8,9),(21,38)] (λz=>[(21,.int .i64 z.1)]) (λz ds W'=>ds=[]∧z.1≤E.length∧Step L w W'∧QL L W'.heap ve E∧z.2.map (·.1)=wrf q.c.cel.rq rs (E.take z.1)∧J z.2 W') (λz=>E.length - z.1) (by rfl) (0,[]) Z
   ⟨O,Lk _,(hf.trans ht).any,h4,O,ab h0 ht⟩ ?_
  rintro ⟨k,G⟩ g ds w2 ⟨rfl,hk,V,ho,Y,hp⟩;simp only[] at hk ho Y hp;refine Q0<|QK (by rfl) (by rfl) ?_;refine x (QA O O)<|xe<|Q0<|zW O (λhu=>?_) (λhu=>?_)
  ·refine J7 ?_;have hO:E.length≤k:=by have hq:¬(k:Int)<(E.length:Int):=hu;omega
   rw[Lm hO,hl] at Y;exact ⟨λ_ h=>(by cases h),MQ,[],λW' H=>⟨U,.inl ⟨G,Y,ab hp H⟩⟩⟩
  refine Ya ?_;have ha:k<E.length:=by have hq:(k:Int)<(E.length:Int):=hu;omega
  have I:=Qem (rq:=q.c.cel.rq) (rs:=rs) ha;have h5:cget E k∈E:=by rw[←Zk ha];exact Lh ha
  refine Zb (cget E k) λv h6=>?_;rw[h6] at I h5;refine Zb (rfr v 0 q.c.cel.rq rs) λj hj=>?_;rw[hj] at I;refine Q0<|ZE<|Q0<|QK (by rfl) (by rfl) ?_;refine xic (i:=k) ho O O ha λhU hq=>?_;rw[h6] at hq;refine x (Qu hq O)<|Qe<|Q0<|QK (by rfl) (by rfl) ?_
  refine x (Qd (hy.step V hC) O O)<|x (Qd (hB.step V hD) O O)<|Qb<|xl O<|xf<|(Qa1 (v:=v) (hS.st V) (hr.st V) hF hv).mono ?_;rintro r3 w3 ⟨h7,hb⟩;rw[hj] at h7;subst h7;refine Qe<|Q0<|Kj (by rfl) ?_;refine Xz.pre3 ?_;refine Qb<|xb (ZU O O) (λhw=>?_) (λhw=>?_)
  ·have hs:0≤j:=hw;have hh:(v,j)∈fl:=by rw[←hl];exact Um.2 ⟨h5,hs,hj.symm⟩
   rw[if_pos hs] at I;have h8:(G++[(⟨(v,j),hh⟩:{ x:Int×Int // x∈fl })]).map (·.1) <+: fl:=by
    rw[Ls,Y,show [(⟨(v,j),hh⟩:{ x:Int×Int // x∈fl })].map (·.1)=[(v,j)] from rfl,←I,←hl];have h9:=Kq q.c.cel.rq rs (E.drop (k+1)) (E.take (k+1));rw[Mv] at h9;exact ⟨_,h9.symm⟩
   have hP:G.length<fl.length:=by have h1:=h8.length_le;rw[Lb,Li,LD] at h1;omega
   refine Qb<|xe<|Xz.pre3 ?_;refine Qb<|Qb<|Qb<|xe<|xy2 (l:=l) O (hY G ⟨(v,j),hh⟩ w3 (ab hp hb) hP) λen W3 hQ=>Or.elim hQ (λh1=>⟨.bool true,h1.1,?_⟩) (λh1=>⟨.bool false,h1.1,?_⟩)
   ·refine Xz.of_XL<|x (Zm O)<|x (Qo O)<|xe<|Kk O<|Ya ?_;refine QK (by rfl) (by rfl) ?_;refine QN O O<|Qb<|xe ?_;exact ⟨(k+1,G++[⟨(v,j),hh⟩]),by simp only[];omega,Z,O,ha,(V.trans hb).lw h1.2.2.lw,(ho.ext hb).cst h1.2.2.cst h1.2.2.lw.size,by simp only[];rw[I,Ls,Y];rfl,h1.2.1⟩
   refine Xz.of_XL<|x (Zm O)<|x (Qo O)<|xe<|jh O ?_;refine J6 ⟨λ_ h=>(by cases h),MQ,[],λW' H=>⟨U,.inr ⟨G++[⟨(v,j),hh⟩],h8,?_⟩⟩⟩;exact hH _ W3 W' none h1.2 ⟨H.os,H.tape,H.output,H.size,λk hk _=>H.block k hk (by simp)⟩ (λr e=>by cases e)
  have hs:¬0≤j:=hw;rw[if_neg hs,LH] at I;refine Qb<|xe<|Xz.of_XL<|xs O<|xs O<|xs O<|xs O<|xs O<|x (Qo O)<|xe<|Kk O<|Ya ?_;refine QK (by rfl) (by rfl) ?_;refine QN O O<|Qb<|xe ?_;exact ⟨(k+1,G),by simp only[];omega,Z,O,ha,V.trans hb,ho.ext hb,by simp only[];rw[I,Y],ab hp hb⟩
 refine (callsIn_wide (n:=m)).2 ?_;have ea:(#[.func (.yield l) #[] #[]]++[.pointer (some ⟨S,0,none⟩),.pointer (some ⟨b2,0,none⟩),.pointer (some ⟨T,0,none⟩)].toArray:Array Value)=[.func (.yield l) #[] #[],.pointer (some ⟨S,0,none⟩),.pointer (some ⟨b2,0,none⟩),.pointer (some ⟨T,0,none⟩)].toArray:=by simp
 rw[ea];unfold QJ at key;refine Calls.mono key λe w' he=>?_;cases e with
 | returned v=>exact ⟨⟨v,O⟩,he⟩
 | panicked c=>exact he.elim
 | outgrown=>exact he.elim
end Go.Proofs.YtdffckgdcegpaaaGreatDoor
namespace Go.Lg
section
variable {P:Program} {K:Fr→World→Prop} {f:Fr} {w:World} {d:Option Nat} {ty:Nat} {ps:String} {af:Array Edge} {gd:Option (Nat×Bool)}
theorem X8 {t sz:Nat}[h1:Ag P t sz] {x y:Operand}{b T o:Nat}{cs us E:LV}(G:Q3 w.heap b T cs) (hx:ev f x=.pointer (some ⟨b,o,none⟩)) (hy:ev f y=.agg us.toArray) (hl:us.length=sz) (J:o+sz≤cs.length) (hu:ZP us) (he:cs.take o++us++cs.drop (o+sz)=E)
  (I:∀w',Step [b] w w'→Q3 w'.heap b T E→K (QX f d undef) w'):XO P ⟨d,.store t x y,ty,ps,af,gd⟩ f w K:=by
 have H:=run_storeCells_at P b o T us 0 cs.toArray w G (by simp;omega) hu.all;subst hl;simp only[Nat.add_zero,he] at H;refine xk (w':=w.setRow b E.toArray) ?_ (I _ (Step.setRow _ _ _) (Xl G));simp[execOp,hx,hy,Instr.storeAt,Instr.sureAddr,storeVar,Vz (sz:=us.length),Value.cells,H]
end
end Go.Lg
namespace Go.Proofs.YtdffckgdcegpaaaGreatDoor
open Go.Proofs.Tryz
open Go.Lg
instance:Bw prog 154 [nS,nS,nS,nS,nS,nS,.int .i64 0,nS,nS,nS,nS,.int .i64 0,nS,nS,nS,nS,nS,nS,.map none] [(0,5),(5,4),(9,1),(10,4),(14,1),(15,3),(18,1)]:=⟨by kernel_rfl,by decide⟩
theorem Yb.shape {N:Nat}{H:Array Obj}{aa:List QV}{v vt:Value}{c:Int}(h:Yb N H aa v vt c):∃(a:QV) (va vm ve:Value) (qs:List TV),v=.agg #[va,.int .i64 a.st,vm,ve]∧ZP [va,.int .i64 a.st,vm,ve]∧vt.oneCell'=true ∧
  (c=0→sync aa=some (a,qs.map (·.2))∧Vu aa=0∧∀L:LN,(∀b∈L,b<N)→Zu L H va vm ve a∧Xh L H vt qs):=by
 by_cases hc:c=0
 ·obtain ⟨⟨va,vm,ve,h1,h2⟩,⟨qs,h3,G⟩,h5,J⟩:=h.good hc;have E:=h2 [] (by simp);exact ⟨syA aa,va,vm,ve,qs,h1,⟨E.al.one,O,E.mr.one,E.ed.one,U⟩,(G [] (by simp)).arr.one,λ_=>⟨by rw[h3];exact h5,J,λL I=>⟨h2 L I,G L I⟩⟩⟩
 obtain ⟨h1,h2⟩:=h.bad hc;exact ⟨⟨[],0,[],[]⟩,Za,Za,Za,[],h1,⟨O,O,O,O,U⟩,by rw[h2];rfl,λe=>absurd e hc⟩
def plE (c:Zw):Int:=if Zc c≠0 then Zc c else ju (auts c.co)
theorem zV.shape {N:Nat}{H:Array Obj}{c:Zw}{v vt:Value}{e:Int}(h:zV N H c v vt e):e=plE c∧∃(a:QV) (va vm ve:Value) (qs:List TV),v=.agg #[va,.int .i64 a.st,vm,ve]∧ZP [va,.int .i64 a.st,vm,ve]∧vt.oneCell'=true ∧
  (e=0→Zc c=0∧sync (auts c.co)=some (a,qs.map (·.2))∧Vu (auts c.co)=0∧∀L:LN,(∀b∈L,b<N)→Zu L H va vm ve a∧Xh L H vt qs):=by
 unfold zV at h;unfold plE;by_cases hc:Zc c≠0
 ·rw[if_pos hc] at h ⊢;obtain ⟨h1,h2,h3⟩:=h;exact ⟨h1,⟨[],0,[],[]⟩,Za,Za,Za,[],h2,⟨O,O,O,O,U⟩,by rw[h3];rfl,λe=>absurd (h1.symm.trans e) hc⟩
 rw[if_neg hc] at h ⊢;obtain ⟨a,va,vm,ve,qs,h1,h2,h3,E⟩:=h.shape;exact ⟨h.e,a,va,vm,ve,qs,h1,h2,h3,λe=>⟨Lu.1 hc,E e⟩⟩
theorem QhG (c:Zw):Yy c=if plE c≠0 then plE c else ju (auts c.co++auts c.rq):=by
 rw[QhH];unfold plE;by_cases h:Zc c≠0
 ·rw[if_pos h,if_pos h,if_pos h]
 rw[if_neg h,if_neg h]
theorem Qi8 {L:LN}{H:Array Obj}{ps:List AV}(h:∀p∈ps,Zu L H p.va p.vm p.ve p.a):∀u∈ps.flatMap Zl,u.oneCell'=true:=by
 intro u hu;obtain ⟨p,hp,G⟩:=ME.1 hu;have E:=h p hp;simp only[List.mem_cons,List.not_mem_nil,or_false] at G;rcases G with rfl | rfl | rfl | rfl
 ·exact E.al.one
 ·rfl
 ·exact E.mr.one
 exact E.ed.one
theorem QkH {F:LN→Array Obj→Prop}(st:∀{L:LN}{w w':World},F L w.heap→Step L w w'→F L w'.heap) (up:∀{L L':LN}{H:Array Obj},F L H→(∀b∈L',b∈L∨H.size≤b)→F L' H) {N b:Nat}{w w':World}
  (h:∀L:LN,(∀x∈L,x<N)→F L w.heap) (hb:b<N) (E:Step [b] w w'):∀L:LN,(∀x∈L,x<N)→F L w'.heap:=λL G =>
 up (st (h (b::L) (λx hx=>by
  rcases Lc.1 hx with rfl | hx
  ·exact hb
  exact G x hx)) (E.mono (λx hx=>by simp only[List.mem_singleton] at hx;subst hx;exact Ln))) (λx hx=>.inl (Ll _ hx))
theorem VY.nil (n:Nat):VY n [] []:=λu _ _=>by simp[mget]
set_option maxHeartbeats 8000000 in
theorem Qaw {L:LN}{w:World}{c:CL}(h0:Zx L w.heap c) (h8:Kb w 4096) :
  QJ prog 70 [c.val] w λr w'=>Step [] w w'∧∃vp,r=.tuple #[vp,.int .i64 (Yy c.cel)]∧(Yy c.cel≠0→vp=.pointer none) ∧
   (Yy c.cel=0→∃b q,vp=.pointer (some ⟨b,0,none⟩)∧q.c=c∧QmN q∧XB [] b w'.heap q∧∀L:LN,(∀x∈L,x<w.heap.size)→Zu L w'.heap q.s.va q.s.vm q.s.ve q.s.a∧(Zx L w.heap c→XB L b w'.heap q)):=by
 have h:=h0.up (L':=[]) (by simp);have hE:=QhG c.cel;refine Zb (Yy c.cel) λE gv=>?_;rw[gv] at hE ⊢;refine QJ.of_W func70 O ntmps70 results70 (by simp) ?_;refine Qc<|xl O<|QT (us:=c.cells) O λb1 w1 hS mj hA=>x Qh<|Qe ?_;have mo:=hS.size;have mq:=hA.lt;have mu:=h.ones
 refine Qc<|x (Qs hA O O)<|x (ZV [(0,c.cells)] ⟨O,O,U⟩)<|xl O<|QT (us:=[c.ve,c.vc,c.vr,c.vx,c.vk,nS,.int .i64 0,nS,nS,nS,nS,.int .i64 0,nS,nS,nS,nS,nS,nS,.map none]) O λG w2 hT mv I=>Qe ?_;have hh:=hS.trans hT;have mw:=hh.size;have gw:=I.lt;have hU:=hA.ext hT;have h2:=h.ext hh;have hge:w.heap.size≤G:=by omega
 have my:b1≠G:=by omega
 refine Qc<|Qe<|Qf<|Qc<|Qb<|Qb<|x (Qs hU O O)<|xl O<|xf<|(Qg6 h2 (h8.ext hh)).mono ?_;rintro r3 w3 ⟨hj,v3,vq,e3,rfl,hP⟩;obtain ⟨hB,pa,pva,pvm,pve,qs,rfl,gx,gy,gz⟩:=hP.shape;have g0:=hh.trans hj;refine Qb<|x (Qp O O)<|x (Qp O O)<|x (Qp O O)<|x (QH O)<|x (Qa O)<|xl O<|X8 (us:=[pva,.int .i64 pa.st,pvm,pve]) (I.ext hj) O O O (by simp) gx rfl λw4 g2 I =>
  x (QH rfl)<|x (Qa O)<|xl O<|QG (j:=9) (u:=vq) I O O (by simp) gy λV g3 I=>Qe ?_
 have hn:Step [G] w3 V:=g2.trans' g3;have ho:Step [] w V:=g0.then1 hn hge;refine Qc<|Qb<|x (Q9 O O)<|xe<|Q7 rfl (λhr=>?_) (λhr=>?_)
 ·have g4:plE c.cel≠0:=by rw[←hB];exact hr
  rw[if_pos g4,←hB] at hE;subst hE;refine Qc<|Qb<|x Qh<|Qe ?_;exact Qn ⟨[_,_],⟨O,O,U⟩,ho,.pointer none,O,λ_=>O,λe=>absurd e hr⟩
 have hV:e3=0:=Lu.1 hr;rw[if_neg (by rw[←hB,hV];decide)] at hE;obtain ⟨hW,hC,mz,g5⟩:=gz hV;have he:=ZO hW;refine Qi ?_;have hD:=(hU.ext hj).step hn (by simp;omega);have h5:=h.ext ho;have m0:=h.co.arr.le;have m1:=h.rq.arr.le;have m2:c.co.length≤8:=by have:=he.c8;have e:c.cel.co.length=c.co.length:=Lb ..;omega
 have m3:c.co.length+c.rq.length≤12:=by have:=he.cr;have e:c.cel.co.length=c.co.length:=Lb ..;have e':c.cel.rq.length=c.rq.length:=Lb ..;omega
 refine Qf<|Qf<|QS (Step [] V) [(0,true),(1,true),(2,true),(3,true),(5,true),(6,true),(4,false),(7,false),(8,false),(9,false),(10,true),(11,true),(12,true),(13,true),(14,true),(15,true),(16,false),(17,true),(18,true),(19,false),(20,true)] mixed (by rfl) (by kernel_rfl) (Step.drew _ _) ?_
 refine p (λ_=>Ql)<|p (λ_=>Ql)<|p (λ_=>Qa O)<|pq (λ_ hc=>Qd (hD.step hc (by simp)) rfl rfl)<|p (λ_=>Qa rfl) <|
  pq (λ_ hc=>Qd (hD.step hc (by simp)) rfl rfl)<|pk<|xf<|(Qbj (h5.co.ext (Step.drew _ _))).mono ?_
 rintro r6 w6 ⟨hX,hY⟩;have hF:=(Step.drew [] V).trans hX;refine ⟨hF,?_⟩;refine pk<|xf<|(Qbj (h5.rq.ext hF)).mono ?_;rintro r7 w7 ⟨hG,g6⟩;have hZ:=hF.trans hG;refine ⟨hZ,?_⟩;have m4:=hX.size;have m5:=hG.size;have m6:({ V with drawn:=V.drawn+1 }:World).heap.size=V.heap.size:=rfl
 have g7:Zo [] w7.heap r7 (c.rq.map (·.p)).length 4 ((c.rq.map (·.p)).flatMap Zl):=QR g6 (by rw[Lb];omega) (by simp);have g8:=Qk hY;refine pk<|yA (Qm hY hG) O g7 O (Qi8 λp hp=>by
   obtain ⟨q,hq,rfl⟩:=Ly.1 hp;exact (h.rq.each q hq)) (by rw[Lb,Lb];omega) (by omega) λv8 w8 ga g9 m7=>?_
 have ht:Step [] V w8:=hZ.then g9 (λb hb=>.inr (by have:=(g8 b hb).1;omega));refine ⟨ht,?_⟩;have hH:=ho.trans ht;have m8:=ht.size;have ka:XD [] w8.heap v8 (c.co.map (·.p)++c.rq.map (·.p)):=by
  rw[←Li,←Lz] at ga;exact QfZ ga (by rw[Li,Lb,Lb];omega) (by simp) (λp hp=>by
   rcases Lj.1 hp with hp | hp
   ·obtain ⟨q,hq,rfl⟩:=Ly.1 hp;exact (h.co.each q hq).ext hH
   obtain ⟨q,hq,rfl⟩:=Ly.1 hp;exact (h.rq.each q hq).ext hH)
 have kb:∀p∈c.co.map (·.p)++c.rq.map (·.p),Zr p.a:=λp hp=>by
   rcases Lj.1 hp with hp | hp
   ·obtain ⟨q,hq,rfl⟩:=Ly.1 hp;exact he.co q.it (LL hq)
   obtain ⟨q,hq,rfl⟩:=Ly.1 hp;exact he.rq q.it (LL hq)
 refine pk<|xf<|(QaE (km:=4096) ka (h8.ext hH) (by decide) (Qcf kb)).mono ?_;rintro r9 w9 ⟨kc,v9,vt,e9,rfl,hR⟩;rw[Ls,Qc2,Qi9] at hR;have gb:=hR.e;obtain ⟨sa,sva,svm,sve,ts,rfl,ke,kf,kg⟩:=hR.shape;have hu:=ht.trans kc;refine ⟨hu,?_⟩;refine p (λ_=>Ql)<|p (λ_=>Qp O O)<|p (λ_=>Qp O O)<|p (λ_=>Qp O O)<|p (λ_=>QH O) <|
  p (λ_=>Qa O)<|pkl (hl:=by kernel_rfl)<|X8 (us:=[sva,.int .i64 sa.st,svm,sve]) (I.ext hu) O O O (by simp) ke rfl λm9 kh I=>p (λ_=>QH rfl)<|p (λ_=>Qa rfl) <|
  pkl (hl:=by kernel_rfl)<|QG (j:=14) (u:=vt) I O O (by simp) kf λhv ki I=>p (λ_=>Qh)<|pe ?_
 have gc:Step [G] w9 hv:=kh.trans' ki;have hw:Step [G] V hv:=hu.any.trans' gc;have hy:Step [] w hv:=ho.then1 hw hge;refine Qc<|Qb<|x (Q9 O O)<|xe<|Q7 rfl (λhI=>?_) (λhI=>?_)
 ·rw[←gb] at hE;subst hE;refine Qc<|Qb<|x Qh<|Qe ?_;exact Qn ⟨[_,_],⟨O,O,U⟩,hy,.pointer none,O,λ_=>O,λe=>absurd e hI⟩
 have ge:e9=0:=Lu.1 hI;have gg:E=0:=by rw[hE,←gb,ge]
 obtain ⟨kj,pc,kk⟩:=kg ge;refine Qi ?_;have kn:=hD.step hw (by simp;omega);refine Qc<|Qb<|Qb<|x (Qs kn O O)<|xl O<|xf<|(zP (h.ext hy)).mono ?_;rintro pd Y ⟨hg,vs,vx,vk,qx,ks,rfl,ko,kp,gh⟩;have hJ:=gh [] (by simp)
 refine xl rfl<|Yn Xr λbm kq gi pf kr=>x (QH O)<|x (Qa O)<|xl O<|X8 (us:=[vs,vx,vk]) ((I.ext hg).ext gi) O O O (by simp) ⟨hJ.1.one,hJ.2.1.arr.one,hJ.2.2.arr.one,U⟩ rfl λpg gj I =>
  x (QH rfl)<|x (Qa O)<|xl O<|QG (j:=18) (u:=.map (some bm)) I O O (by simp) rfl λhK gk I=>xe ?_
 have ph:=hy.size;have pj:=hg.size;have pm:=hw.size;have pn:=hn.size;have po:=hj.size;have pp:=hu.size;have pt:G<Y.heap.size:=by omega
 have kt:bm≠G:=by omega
 have gl:Step [G] Y hK:=(gi.any.trans' gj).trans' gk;have ku:Step [G] kq hK:=gj.trans' gk;have kv:Z3 Xr hK.heap bm []:=kr.step ku (by simpa using kt);have kw:Step [G] w3 Y:=(hn.trans' hw).trans hg;have ky:Step [G] w9 Y:=gc.trans hg;have kz:=hy.trans hg
 have fP:∀{w':World},Step [G] Y w'→∀L:LN,(∀x∈L,x<w2.heap.size)→Zu L w'.heap pva pvm pve pa∧Xh L w'.heap vq qs:=λJ =>
  QkH (F:=λL H=>Zu L H pva pvm pve pa∧Xh L H vq qs) (λh J=>⟨h.1.st J,h.2.st J⟩) (λh S=>⟨h.1.up S,h.2.up S⟩) g5 gw (kw.trans' J)
 have fS:∀{w':World},Step [G] Y w'→∀L:LN,(∀x∈L,x<w8.heap.size)→Zu L w'.heap sva svm sve sa∧Xh L w'.heap vt ts:=λJ =>
  QkH (F:=λL H=>Zu L H sva svm sve sa∧Xh L H vt ts) (λh J=>⟨h.1.st J,h.2.st J⟩) (λh S=>⟨h.1.up S,h.2.up S⟩) kk (by omega) (ky.trans' J)
 have fC:∀{w':World},Step [G] Y w'→∀L:LN,(∀x∈L,x<hv.heap.size)→QL L w'.heap vs (szs c.cel.co)∧qP L w'.heap vx qx∧qG L w'.heap vk ks:=λJ =>
  QkH (F:=λL H=>QL L H vs (szs c.cel.co)∧qP L H vx qx∧qG L H vk ks) (λh J=>⟨h.1.st J,h.2.1.st J,h.2.2.st J⟩) (λh S=>⟨h.1.up S,h.2.1.up S,h.2.2.up S⟩) gh (by omega) J
 have gm:=(Un (Yh he.co) hC).1;have k0:=(Xi (Yh he.co) hC).1.nd;simp only[] at gm;have k4:(auts c.cel.co).length=c.co.length:=by unfold auts;show ((c.co.map IV.it).map _).length=_;simp
 have gn:=(fP gl [] (by simp)).2;have pu:=gn.arr.le;refine Qf<|Qc<|Qb<|x (QH O)<|x (Qa O)<|x (Qd I O O)<|x (Qq gn.arr O)<|Qb<|xe ?_
 refine Qg<|Qy (α:=Nat×List (ByteArray×Value)) [(6,7),(61,73)] (λz=>[(61,.int .i64 z.1)]) (λz w'=>z.1≤qs.length∧Step [G] Y w'∧Q3 w'.heap G 154 [c.ve,c.vc,c.vr,c.vx,c.vk,pva,.int .i64 pa.st,pvm,pve,vq,sva,.int .i64 sa.st,svm,sve,vt,vs,vx,vk,.map (some bm)]∧Z3 Xr w'.heap bm z.2∧VY c.co.length z.2 ((qs.take z.1).map (·.2))) (λz=>qs.length - z.1) (by rfl) (0,[]) Z
  ⟨Lk _,gl,I,kv,VY.nil _⟩ ?_
 rintro ⟨k,mm⟩ g hM ⟨hk,T,hz,h3,h4⟩;simp only[] at hk h3 h4;have h6:Step [] w hM:=kz.then1 T hge;refine Qc<|x (QA O O)<|xe<|Qf<|QE O (λhN=>?_) (λhN=>?_)
 ·refine Qw ?_;have k5:qs.length≤k:=by have k6:¬(k:Int)<(qs.length:Int):=hN;omega
  rw[Lm k5] at h4;refine Qc<|Qb<|x Qh<|Qe ?_;have aP:=fP T [] (by simp);have aS:=fS T [] (by simp);have aC:=fC T [] (by simp)
  refine Qn ⟨[_,_],⟨O,O,U⟩,h6,.pointer (some ⟨G,0,none⟩),by rw[gg];rfl,λe=>absurd gg e,λ_=>⟨G,⟨c,⟨pva,pvm,pve,pa⟩,vq,qs,⟨sva,svm,sve,sa⟩,vt,ts,vs,vx,vk,qx,ks,bm,mm⟩,O,O,⟨hW,hC,kj,ko,kp,h4⟩,⟨hz,by simp,h.ext h6,aP.1,aS.1,aP.2,aS.2,aC.1,aC.2.1,aC.2.2,by simp,h3⟩,λL S=>?_⟩⟩;have bP:=fP T L (λb hb=>by have:=S b hb;omega);have bS:=fS T L (λb hb=>by have:=S b hb;omega)
  have bC:=fC T L (λb hb=>by have:=S b hb;omega);exact ⟨bS.1,λk7=>⟨hz,λhm=>by have:=S _ hm;omega,k7.ext h6,bP.1,bS.1,bP.2,bS.2,bC.1,bC.2.1,bC.2.2,λhm=>by have h9:bm<w.heap.size:=S bm hm;omega,h3⟩⟩
 have hf:k<qs.length:=by have k6:(k:Int)<(qs.length:Int):=hN;omega
 have go:=(fP T [] (by simp)).2;have hO:=Lh hf;have hQ:(qs.take (k+1)).map (·.2)=(qs.take k).map (·.2)++[(qs[k]'hf).2]:=by rw[Le hf,Ls];rfl
 have gp:(qs[k]'hf).2∉(qs.take k).map (·.2):=by
  have h1:((qs.take (k+1)).map (·.2)).Nodup:=by
   rw[List.map_take];exact k0.sublist (List.take_sublist _ _)
  rw[hQ] at h1;intro hm;exact (MM.1 h1).2.2 _ hm _ (La.2 O) O
 have k8:((qs.take k).map (·.2)).length=k:=by rw[Lb,Lx];omega
 refine Qi<|Qf<|Qg<|Qc<|Qb<|xig (g:=Zz) Ku go.arr O O hf λpw gq=>?_;refine Zb (qs[k]'hf) λq hq=>?_;rw[hq] at gq hO hQ gp;have k9:=go.each q hO;have gr:=gm q.2 (LL hO);have gs:=gr.bd (m:=4096) (λa ha=>(Yh he.co a ha).st1);have pz:q.2.length=c.co.length:=by rw[gr.1,k4]
 refine x (Qu gq O)<|x Qh<|Qe<|QS (Step [] hM) [(0,true),(1,true),(2,true),(3,true),(4,true),(6,true),(5,false),(7,false)] mixed (by rfl) (by kernel_rfl) (Step.drew _ _) ?_;refine p (λ_=>Ql)<|p (λ_=>QH O)<|p (λ_=>Qa O)<|pq (λ_ hc=>Qd (hz.step hc (by simp)) rfl rfl) <|
  p (λ_=>Ql)<|p (λ_=>Ql)<|pk<|xf<|(jd (k9.ext (Step.drew _ _)) ((h8.ext h6).ext (Step.drew _ _)) gs (by omega)).mono ?_
 rintro p0 p1 ⟨rfl,ma⟩;have h7:=(Step.drew [] hM).trans ma;refine ⟨h7,?_⟩;refine pkl (hl:=by kernel_rfl)<|Xn (k:=JE q.2) (h3.ext h7) O O λmc gt mf=>pe ?_;have p2:=T.size;have mg:Step [G] Y mc:=(T.trans h7).then1 gt (by omega);have mh:=(hz.ext h7).step gt (by simp;omega);have gu:=h4.add gp (λx hx=>(gs x hx).1);rw[k8] at gu
 refine Qx<|QN O O<|Qb<|xe ?_;exact ⟨(k+1,mput mm (JE q.2) (.int .i64 (k:Int))),by simp only[];omega,Z,hf,mg,mh,mf,by simp only[];rw[hQ];exact gu⟩
def Vv (lo hi:Nat) (ds:LN) (W:World):Prop:=ds.Nodup∧∀D∈ds,lo≤D∧D<hi∧W.heap[D]?=some (.deferred (some []))
theorem Vv.step {lo hi:Nat}{ds:LN}{W W':World}{X:LN}(h:Vv lo hi ds W) (G:Step X W W') (H:∀b∈X,∃o:Obj,W.heap[b]?=some o∧o.isCells=true):Vv lo hi ds W':=by
 refine ⟨h.1,λD hD=>⟨(h.2 D hD).1,(h.2 D hD).2.1,?_⟩⟩;have h3:=(h.2 D hD).2.2;refine (G.block D (LC.1 h3).1 (λhx=>?_)).trans h3;obtain ⟨o,E,h5⟩:=H D hx;rw[h3] at E;cases E;cases h5
theorem Vv.ext {lo hi:Nat}{ds:LN}{W W':World}(h:Vv lo hi ds W) (E:Step [] W W'):Vv lo hi ds W':=h.step E (λ_ hb=>by cases hb)
theorem Vv.blk {lo hi:Nat}{ds:LN}{W W':World}{b T:Nat}{cs:LV}(h:Vv lo hi ds W) (E:Step [b] W W') (hb:Q3 W.heap b T cs):Vv lo hi ds W' :=
 h.step E (λc hc=>by
  have e:c=b:=by simpa using hc
  subst e;exact hb.cells)
theorem Vv.up {lo hi E:Nat}{ds:LN}{W:World}(h:Vv lo hi ds W) (G:hi≤E):Vv lo E ds W:=⟨h.1,λD hD=>⟨(h.2 D hD).1,by have:=(h.2 D hD).2.1;omega,(h.2 D hD).2.2⟩⟩
theorem Vv.cons {lo hi:Nat}{ds:LN}{W:World}{D:Nat}(h:Vv lo hi ds W) (hl:lo≤hi) (hD:hi≤D) (hd:W.heap[D]?=some (.deferred (some []))):Vv lo W.heap.size (D::ds) W:=by
 have G:=(LC.1 hd).1;refine ⟨List.nodup_cons.2 ⟨λhm=>by have:=(h.2 D hm).2.1;omega,h.1⟩,λE hE=>?_⟩;rcases Lc.1 hE with rfl | hE
 ·exact ⟨by omega,G,hd⟩
 have:=h.2 E hE;exact ⟨this.1,(LC.1 this.2.2).1,this.2.2⟩
theorem Vv.stb {lo hi B:Nat}{ds:LN}(H:hi≤B):ZY B (λW=>Vv lo hi ds W):=λW W' X h E G=>by
 refine ⟨h.1,λD hD=>⟨(h.2 D hD).1,(h.2 D hD).2.1,?_⟩⟩;have h3:=(h.2 D hD).2.2;refine (E.block D (LC.1 h3).1 (λhx=>?_)).trans h3;have:=(G D hx).1;have:=(h.2 D hD).2.1;omega
end Go.Proofs.YtdffckgdcegpaaaGreatDoor
namespace Go.Lg
theorem Uu {W W':World}{base e sz n:Nat}{v:Value}{cs:LV}(h:W.ownsRow base e sz v n cs) (hc:Xj [] W W'):W'.ownsRow base e sz v n cs :=
 ⟨h.1,h.2.imp id λ⟨g,cap,cur,h1,h2,h3,E⟩=>⟨g,cap,cur,h1,h2,hc g _ (by simp) h3 rfl,E⟩⟩
theorem Xj.mono {L L':LN}{W W':World}(h:Xj L W W') (E:∀b∈L,b∈L'):Xj L' W W':=λk o G=>h k o (λhm=>G (E k hm))
theorem Xj.nonc {X:LN}{W W':World}(E:Step X W W') (G:∀r∈X,∃o:Obj,W.heap[r]?=some o∧o.isCells=false):Xj [] W W':=λk o _ hk hc =>
 (E.block k (LC.1 hk).1 (λhx=>by
  obtain ⟨H,h1,h2⟩:=G k hx;rw[hk] at h1;cases h1;rw[hc] at h2;cases h2)).trans hk
theorem ZY.cst {B:Nat}{I:World→Prop}(h:∀W W',I W→Xj [] W W'→W.heap.size≤W'.heap.size→I W'):ZY B I:=λW W' _ hi E G=>h W W' hi (Xj.nonc E (λr H=>(G r H).2)) E.size
end Go.Lg
namespace Go.Proofs.YtdffckgdcegpaaaGreatDoor
open Go.Lg
theorem ZC.cst {base:Nat}{av:LN}{W W':World}{v:Value}{n sz:Nat}{cs:LV}(h:ZC base av W.heap v n sz cs) (hc:Lg.Xj [] W W') (hz:W.heap.size≤W'.heap.size):ZC base av W'.heap v n sz cs:=λL E=>(h L E).cst (hc.mono (by simp)) hz
abbrev ZA (r:Rsn):LV:=[.int .i64 r.st,.int .i64 r.kd,.int .i64 r.ix,.int .i64 r.ev]
theorem QeS (r:Rsn):(ZA r).length=4:=rfl
structure Ji (base:Nat) (w:World) (v1 v2 v3 v4:Value) (cos rqs:List TV) (pls:LI) (fbs:List Rsn):Prop where
 o1:w.ownsRow base 37 1 v1 cos.length (cos.flatMap Zz)
 o2:w.ownsRow base 37 1 v2 rqs.length (rqs.flatMap Zz)
 o3:Qt 3 base w v3 pls
 o4:w.ownsRow base 83 4 v4 fbs.length (fbs.flatMap ZA)
 d12:Dj v1 v2
 d13:Dj v1 v3
 d14:Dj v1 v4
 d23:Dj v2 v3
 d24:Dj v2 v4
 d34:Dj v3 v4
 e1:∀p∈cos,ZC base (ob v1++(ob v2++(ob v3++ob v4))) w.heap p.1 p.2.length 1 (p.2.map (.int .i64))
 e2:∀p∈rqs,ZC base (ob v1++(ob v2++(ob v3++ob v4))) w.heap p.1 p.2.length 1 (p.2.map (.int .i64))
theorem VR {v:Value}:Dj (nS) v:=λb hb=>by simp[ob] at hb
theorem Ji.nil (base:Nat) (w:World):Ji base w (nS) (nS) (nS) (nS) [] [] [] [] :=
 ⟨QO _ _ _ _,QO _ _ _ _,QO _ _ _ _,QO _ _ _ _,VR,VR,VR,VR,VR,VR,λp hp=>(by cases hp),λp hp=>(by cases hp)⟩
variable {base:Nat} {w w7 w8:World} {v1 v2 v3 v4 v':Value} {cos rqs:List TV} {pls:LI} {fbs:List Rsn}
theorem Ji.ext (h:Ji base w v1 v2 v3 v4 cos rqs pls fbs) (E:Step [] w w7):Ji base w7 v1 v2 v3 v4 cos rqs pls fbs :=
 ⟨Qm h.o1 E,Qm h.o2 E,Qm h.o3 E,Qm h.o4 E,h.d12,h.d13,h.d14,h.d23,h.d24,h.d34,λp hp=>(h.e1 p hp).ext E,λp hp=>(h.e2 p hp).ext E⟩
theorem Ji.low {X:LN}(h:Ji base w v1 v2 v3 v4 cos rqs pls fbs) (E:Step X w w7) (G:∀b∈X,b<base):Ji base w7 v1 v2 v3 v4 cos rqs pls fbs:=by
 have k:∀{e sz n:Nat} {v:Value} {cs:LV},w.ownsRow base e sz v n cs→w7.ownsRow base e sz v n cs:=λo=>Qj o E (λb hb hm=>by have:=(Qk o b hb).1;have:=G b hm;omega);exact ⟨k h.o1,k h.o2,k h.o3,k h.o4,h.d12,h.d13,h.d14,h.d23,h.d24,h.d34,λp hp=>(h.e1 p hp).low E G,λp hp=>(h.e2 p hp).low E G⟩
theorem Ji.cst (h:Ji base w v1 v2 v3 v4 cos rqs pls fbs) (hc:Lg.Xj [] w w7) (hz:w.heap.size≤w7.heap.size):Ji base w7 v1 v2 v3 v4 cos rqs pls fbs :=
 ⟨Uu h.o1 hc,Uu h.o2 hc,Uu h.o3 hc,Uu h.o4 hc,h.d12,h.d13,h.d14,h.d23,h.d24,h.d34,λp hp=>(h.e1 p hp).cst hc hz,λp hp=>(h.e2 p hp).cst hc hz⟩
theorem VS {a b E:Value}{n:Nat}(h:Dj a b) (G:∀x∈ob E,x∈ob a∨n≤x) (hb:∀x∈ob b,x<n):Dj E b:=λx hx hm=>by
 rcases G x hx with h1 | h1
 ·exact h x h1 hm
 have:=hb x hm;omega
theorem Ki {a b b':Value}{n:Nat}(h:Dj a b) (E:∀x∈ob b',x∈ob b∨n≤x) (ha:∀x∈ob a,x<n):Dj a b':=λx hx hm=>by
 rcases E x hm with h1 | h1
 ·exact h x hx h1
 have:=ha x hx;omega
theorem Ji.lt (h:Ji base w v1 v2 v3 v4 cos rqs pls fbs):(∀x∈ob v1,x<w.heap.size)∧(∀x∈ob v2,x<w.heap.size)∧(∀x∈ob v3,x<w.heap.size)∧∀x∈ob v4,x<w.heap.size:=⟨QP h.o1,QP h.o2,QP h.o3,QP h.o4⟩
theorem jR {a b c d:LN}{x:Nat}(h:x∈a++(b++(c++d))):x∈a∨x∈b∨x∈c∨x∈d:=by simpa using h
theorem qa {a b c d:LN}{x:Nat}(h:x∈a∨x∈b∨x∈c∨x∈d):x∈a++(b++(c++d)):=by simpa using h
theorem Ji.a1 {N e:Nat}{q:TV}(h:Ji base w v1 v2 v3 v4 cos rqs pls fbs) (I:Step [] w w7) (hq:w7.ownsRow N e 1 q.1 q.2.length (q.2.map (.int .i64))) (J:q.2.length≤1099511627776) (T:w.heap.size≤N) (hb:base≤w.heap.size) (S:w8.ownsRow base 37 1 v' (cos.length+1) (cos.flatMap Zz++Zz q))
  (G:Step (ob v1) w7 w8) (H:∀b∈ob v',b∈ob v1∨w7.heap.size≤b):Ji base w8 v' v2 v3 v4 (cos++[q]) rqs pls fbs:=by
 have l:=h.lt;have hz:=I.size;have E:=h.ext I;have av:∀b∈ob v'++(ob v2++(ob v3++ob v4)),b∈ob v1++(ob v2++(ob v3++ob v4))∨w7.heap.size≤b:=by
  intro b hb;rcases jR hb with h1 | h1 | h1 | h1
  ·rcases H b h1 with h2 | h2
   ·exact .inl (qa (.inl h2))
   exact .inr h2
  ·exact .inl (qa (.inr (.inl h1)))
  ·exact .inl (qa (.inr (.inr (.inl h1))))
  exact .inl (qa (.inr (.inr (.inr h1))))
 have st:Step (ob v1++(ob v2++(ob v3++ob v4))) w7 w8:=G.mono (λb hb=>qa (.inl hb));have g:∀{v:Value} {n sz:Nat} {cs:LV},ZC base (ob v1++(ob v2++(ob v3++ob v4))) w7.heap v n sz cs→ZC base (ob v'++(ob v2++(ob v3++ob v4))) w8.heap v n sz cs:=λa=>a.app st av
 refine ⟨by rw[Li,Lz];simpa using S,Qj E.o2 G (λb hb hm=>h.d12 b hm hb),Qj E.o3 G (λb hb hm=>h.d13 b hm hb),Qj E.o4 G (λb hb hm=>h.d14 b hm hb),VS h.d12 H (λx hx=>by have:=l.2.1 x hx;omega),VS h.d13 H (λx hx=>by have:=l.2.2.1 x hx;omega),VS h.d14 H (λx hx=>by have:=l.2.2.2 x hx;omega),h.d23,h.d24,h.d34,?_,?_⟩
 ·exact λp hp=>by
   rcases Lj.1 hp with hp | hp
   ·exact g (E.e1 p hp)
   simp only[List.mem_singleton] at hp;subst hp;exact g (ZC.of_own hq J (by omega) (λb hb=>by
   rcases jR hb with h1 | h1 | h1 | h1
   ·have:=l.1 b h1;omega
   ·have:=l.2.1 b h1;omega
   ·have:=l.2.2.1 b h1;omega
   have:=l.2.2.2 b h1;omega))
 exact λp hp=>g (E.e2 p hp)
theorem Ji.a2 {N e:Nat}{q:TV}(h:Ji base w v1 v2 v3 v4 cos rqs pls fbs) (I:Step [] w w7) (hq:w7.ownsRow N e 1 q.1 q.2.length (q.2.map (.int .i64))) (J:q.2.length≤1099511627776) (T:w.heap.size≤N) (hb:base≤w.heap.size) (S:w8.ownsRow base 37 1 v' (rqs.length+1) (rqs.flatMap Zz++Zz q))
  (G:Step (ob v2) w7 w8) (H:∀b∈ob v',b∈ob v2∨w7.heap.size≤b):Ji base w8 v1 v' v3 v4 cos (rqs++[q]) pls fbs:=by
 have l:=h.lt;have hz:=I.size;have E:=h.ext I;have av:∀b∈ob v1++(ob v'++(ob v3++ob v4)),b∈ob v1++(ob v2++(ob v3++ob v4))∨w7.heap.size≤b:=by
  intro b hb;rcases jR hb with h1 | h1 | h1 | h1
  ·exact .inl (qa (.inl h1))
  ·rcases H b h1 with h2 | h2
   ·exact .inl (qa (.inr (.inl h2)))
   exact .inr h2
  ·exact .inl (qa (.inr (.inr (.inl h1))))
  exact .inl (qa (.inr (.inr (.inr h1))))
 have st:Step (ob v1++(ob v2++(ob v3++ob v4))) w7 w8:=G.mono (λb hb=>qa (.inr (.inl hb)));have g:∀{v:Value} {n sz:Nat} {cs:LV},ZC base (ob v1++(ob v2++(ob v3++ob v4))) w7.heap v n sz cs→ZC base (ob v1++(ob v'++(ob v3++ob v4))) w8.heap v n sz cs:=λa=>a.app st av
 refine ⟨Qj E.o1 G (λb hb hm=>h.d12 b hb hm),by rw[Li,Lz];simpa using S,Qj E.o3 G (λb hb hm=>h.d23 b hm hb),Qj E.o4 G (λb hb hm=>h.d24 b hm hb),Ki h.d12 H (λx hx=>by have:=l.1 x hx;omega),h.d13,h.d14,VS h.d23 H (λx hx=>by have:=l.2.2.1 x hx;omega),VS h.d24 H (λx hx=>by have:=l.2.2.2 x hx;omega),h.d34,?_,?_⟩
 ·exact λp hp=>g (E.e1 p hp)
 exact λp hp=>by
  rcases Lj.1 hp with hp | hp
  ·exact g (E.e2 p hp)
  simp only[List.mem_singleton] at hp;subst hp;exact g (ZC.of_own hq J (by omega) (λb hb=>by
  rcases jR hb with h1 | h1 | h1 | h1
  ·have:=l.1 b h1;omega
  ·have:=l.2.1 b h1;omega
  ·have:=l.2.2.1 b h1;omega
  have:=l.2.2.2 b h1;omega))
theorem Ji.a3 {q:Int}(h:Ji base w v1 v2 v3 v4 cos rqs pls fbs) (I:Step [] w w7) (J:w8.ownsRow base 3 1 v' (pls.length+1) (pls.map (.int .i64)++[.int .i64 q]))
  (G:Step (ob v3) w7 w8) (H:∀b∈ob v',b∈ob v3∨w7.heap.size≤b):Ji base w8 v1 v2 v' v4 cos rqs (pls++[q]) fbs:=by
 have l:=h.lt;have hz:=I.size;have E:=h.ext I;have av:∀b∈ob v1++(ob v2++(ob v'++ob v4)),b∈ob v1++(ob v2++(ob v3++ob v4))∨w7.heap.size≤b:=by
  intro b hb;rcases jR hb with h1 | h1 | h1 | h1
  ·exact .inl (qa (.inl h1))
  ·exact .inl (qa (.inr (.inl h1)))
  ·rcases H b h1 with h2 | h2
   ·exact .inl (qa (.inr (.inr (.inl h2))))
   exact .inr h2
  exact .inl (qa (.inr (.inr (.inr h1))))
 have st:Step (ob v1++(ob v2++(ob v3++ob v4))) w7 w8:=G.mono (λb hb=>qa (.inr (.inr (.inl hb))));have g:∀{v:Value} {n sz:Nat} {cs:LV},ZC base (ob v1++(ob v2++(ob v3++ob v4))) w7.heap v n sz cs→ZC base (ob v1++(ob v2++(ob v'++ob v4))) w8.heap v n sz cs:=λa=>a.app st av
 refine ⟨Qj E.o1 G (λb hb hm=>h.d13 b hb hm),Qj E.o2 G (λb hb hm=>h.d23 b hb hm),Qt.snoc J,Qj E.o4 G (λb hb hm=>h.d34 b hm hb),h.d12,Ki h.d13 H (λx hx=>by have:=l.1 x hx;omega),h.d14,Ki h.d23 H (λx hx=>by have:=l.2.1 x hx;omega),h.d24,VS h.d34 H (λx hx=>by have:=l.2.2.2 x hx;omega),?_,?_⟩
 ·exact λp hp=>g (E.e1 p hp)
 exact λp hp=>g (E.e2 p hp)
theorem Ji.a4 {q:Rsn}(h:Ji base w v1 v2 v3 v4 cos rqs pls fbs) (I:Step [] w w7) (J:w8.ownsRow base 83 4 v' (fbs.length+1) (fbs.flatMap ZA++ZA q))
  (G:Step (ob v4) w7 w8) (H:∀b∈ob v',b∈ob v4∨w7.heap.size≤b):Ji base w8 v1 v2 v3 v' cos rqs pls (fbs++[q]):=by
 have l:=h.lt;have hz:=I.size;have E:=h.ext I;have av:∀b∈ob v1++(ob v2++(ob v3++ob v')),b∈ob v1++(ob v2++(ob v3++ob v4))∨w7.heap.size≤b:=by
  intro b hb;rcases jR hb with h1 | h1 | h1 | h1
  ·exact .inl (qa (.inl h1))
  ·exact .inl (qa (.inr (.inl h1)))
  ·exact .inl (qa (.inr (.inr (.inl h1))))
  rcases H b h1 with h2 | h2
  ·exact .inl (qa (.inr (.inr (.inr h2))))
  exact .inr h2
 have st:Step (ob v1++(ob v2++(ob v3++ob v4))) w7 w8:=G.mono (λb hb=>qa (.inr (.inr (.inr hb))));have g:∀{v:Value} {n sz:Nat} {cs:LV},ZC base (ob v1++(ob v2++(ob v3++ob v4))) w7.heap v n sz cs→ZC base (ob v1++(ob v2++(ob v3++ob v'))) w8.heap v n sz cs:=λa=>a.app st av
 refine ⟨Qj E.o1 G (λb hb hm=>h.d14 b hb hm),Qj E.o2 G (λb hb hm=>h.d24 b hb hm),Qj E.o3 G (λb hb hm=>h.d34 b hb hm),by rw[Li,Lz];simpa using J,h.d12,h.d13,Ki h.d14 H (λx hx=>by have:=l.1 x hx;omega),h.d23,Ki h.d24 H (λx hx=>by have:=l.2.1 x hx;omega),Ki h.d34 H (λx hx=>by have:=l.2.2.1 x hx;omega),?_,?_⟩
 ·exact λp hp=>g (E.e1 p hp)
 exact λp hp=>g (E.e2 p hp)
theorem zj (c:Zw) (pl:QV) (ps:List (LI)):∀(l:List (LI)) (i:Nat) (s:Spc),(l.zipIdx i).foldl (QjP c pl ps) s =
  ⟨s.a,s.co++l.map (·.take c.co.length),s.rq++l.map (·.drop c.co.length),s.pl++l.map (λt=>plx ps (t.take c.co.length)),s.fb++(l.zipIdx i).filterMap (λp=>rsn c pl (plx ps (p.1.take c.co.length)) p.2 p.1)⟩
 | [],i,s=>by simp
 | t::l,i,s=>by
  rw[Nn,LO,zj c pl ps l (i+1)];unfold QjP;simp only[List.map_cons,List.append_assoc,List.cons_append,List.nil_append,List.filterMap_cons];cases rsn c pl (plx ps (t.take c.co.length)) i t with
  | none=>rfl
  | some r=>simp
theorem UN {c:Zw}{rs:LI}:∀{l:LI},(∀x∈wrf c.rq rs l,(c.ev.getD x.1.toNat ⟨.empty,false,false,false,0⟩).co=true)→rfd c rs l=none
 | [],_=>rfl
 | v::l,h=>by
  rw[wrf] at h;rw[rfd];by_cases h1:0≤rfr v 0 c.rq rs
  ·rw[if_pos h1] at h;have h2:=h _ Ln;simp only[] at h2;rw[if_neg (λe=>by rw[h2] at e;cases e.2)];exact UN λx hx=>h x (Ll _ hx)
  rw[if_neg h1] at h;rw[if_neg (λe=>h1 e.1)];exact UN h
theorem UM {c:Zw}{rs:LI}{x:Int×Int}{t:List (Int×Int)}:∀{l:LI}{p:List (Int×Int)},wrf c.rq rs l=p++x::t→(∀y∈p,(c.ev.getD y.1.toNat ⟨.empty,false,false,false,0⟩).co=true)→(c.ev.getD x.1.toNat ⟨.empty,false,false,false,0⟩).co=false→rfd c rs l=some (x.2,x.1)
 | [],p,h,_,_=>by simp[wrf] at h
 | v::l,p,h,hp,hx=>by
  rw[wrf] at h;rw[rfd];by_cases h1:0≤rfr v 0 c.rq rs
  ·rw[if_pos h1] at h;cases p with
   | nil =>
    simp only[List.nil_append,List.cons.injEq] at h;obtain ⟨h2,_⟩:=h;subst h2;rw[if_pos ⟨h1,hx⟩]
   | cons y p =>
    simp only[List.cons_append,List.cons.injEq] at h;obtain ⟨h2,h3⟩:=h;have E:=hp y Ln;subst h2;rw[if_neg (λe=>by simp only[] at E;rw[E] at e;cases e.2)];exact UM h3 (λy hy=>hp y (Ll _ hy)) hx
  rw[if_neg h1] at h;rw[if_neg (λe=>h1 e.1)];exact UM h hp hx
theorem Qep (c:Zw) (t:LI):vio c t=if (KR c.ex c.cs t).2.2=true then some ((KR c.ex c.cs t).1,(KR c.ex c.cs t).2.1) else none:=by
 unfold vio KR;by_cases h1:0≤fix (Ks t) 0 c.ex
 ·rw[if_pos h1,if_pos h1];rfl
 rw[if_neg h1,if_neg h1];by_cases h2:0≤fix (Vx t) 0 c.cs
 ·rw[if_pos h2,if_pos h2];rfl
 rw[if_neg h2,if_neg h2];rfl
def QmP (N:Nat) (H:Array Obj) (v:Value) (s:Spc):Prop:=∃va vm ve v1 v2 v3 v4 cos rqs,v=.agg #[va,.int .i64 s.a.st,vm,ve,v1,v2,v3,v4]∧cos.map (·.2)=s.co∧rqs.map (·.2)=s.rq ∧
 ∀L:LN,(∀b∈L,b<N)→Zu L H va vm ve s.a∧Xh L H v1 cos∧Xh L H v2 rqs∧QL L H v3 s.pl∧Zo L H v4 s.fb.length 4 (s.fb.flatMap ZA)
end Go.Proofs.YtdffckgdcegpaaaGreatDoor
namespace Go.Lg
open Go.RowKit
def sl (d:Option Nat) (f:Fr):Value:=match d with | some d=>f d | none=>undef
def ow:Value→LN
 | .slice (some a) _ _=>[a.block]
 | .pointer (some a)=>[a.block]
 | .map (some b)=>[b]
 | _=>[]
section
variable {P:Program} {n:Nat} {f:Fr} {w:World} {all:List Oper} {C:World→Prop} {K:Fr→World→Prop}
theorem Ve {o:Oper}(h:o.guard=none):Yc all f o=true:=by unfold Yc;rw[h]
end
def qg (all:Array Oper) (i:Nat) (rest:List (Nat×Bool)):List (Nat×Bool)→Array Bool→Bool
 | [],ls=>Region.ready .any all ls == [i] && Y5 all rest (ls.setIfInBounds i true)
 | (j,true)::l,ls=>(Region.ready .any all ls).contains j && Region.free .any all ls j && qg all i rest l (ls.setIfInBounds j true)
 | (j,false)::l,ls=>!(Region.ready .any all ls).isEmpty && (Region.ready .any all ls).all (λk=>k == j || k == i) && Y5 all ((j,false)::(l++rest)) (ls.setIfInBounds i true) && qg all i rest l (ls.setIfInBounds j true)
def Z8 (all:List Oper) (d:Nat) (l:List (Nat×Bool)):Bool:=l.all λp=>!((Q6 all p.1).looksAt all.toArray).contains d && !((Q6 all p.1).dst == some d)
def Qgc (all:List Oper) (pre l:List (Nat×Bool)) (i:Nat) (rest:List (Nat×Bool)):Bool :=
 Region.noSelect all.toArray && (pre.length+(l.length+1+rest.length) == all.length) && J9 all.toArray pre (Array.replicate all.length false) && qg all.toArray i rest l (ZZ pre (Array.replicate all.length false))
  && (Q6 all i).guard.isNone && (match (Q6 all i).dst with | some d=>Z8 all d l | none=>false)
def XF (P:Program) (all:List Oper) (C:World→Prop) (K:Fr→World→Prop):List (Nat×Bool)→LN→Fr→World→Prop
 | [],_,f,w=>K f w
 | (j,true)::l,own,f,w=>Yc all f (Q6 all j)=true∧∃v,(∀w',(qM (Q6 all j)=true→C w')→(execOp (ev f) (Q6 all j)).run P w'=.ok (.value v) w')∧XF P all C K l own (QX f (Q6 all j).dst v) w
 | (j,false)::l,own,f,w=>Yc all f (Q6 all j)=true∧∀w1,Step [] w w1→C w1→XO P (Q6 all j) f w1 λE w'=>C w'∧∃own',Step own w1 w'∧(∀b∈own',b∈own∨(w1.heap.size≤b∧b<w'.heap.size))∧XF P all C K l own' E w'
section
variable {P:Program} {n:Nat} {f:Fr} {w:World} {all:List Oper} {C:World→Prop} {K KF:Fr→World→Prop}
theorem XF.ext (G:∀f w w',KF f w→Step [] w w'→KF f w'):∀{l:List (Nat×Bool)}{own:LN}{f:Fr}{w w':World},XF P all C KF l own f w→Step [] w w'→XF P all C KF l own f w'
 | [],_,_,_,_,h,E=>G _ _ _ h E
 | (_,true)::_,_,_,_,_,h,E=>by
  obtain ⟨H,v,I,hx⟩:=h;exact ⟨H,v,I,XF.ext G hx E⟩
 | (_,false)::_,_,_,_,_,h,E=>⟨h.1,λJ h1 hc=>h.2 J (E.trans h1) hc⟩
attribute [local semireducible] XO in
theorem Qc4 {o:Oper}(G:∀cs b,o.op≠.select cs b) {d:Nat}{v:Value}{K':Fr→World→Prop}(h1:d∉o.looksAt all.toArray) (h2:o.dst≠some d) (E:∀u w',K (QX f o.dst u) w'→K' (QX (QX f o.dst u) (some d) v) w')
  (h:XO P o f w K):XO P o (QX f (some d) v) w K':=by
 have hc:∀u,QX (QX f (some d) v) o.dst u=QX (QX f o.dst u) (some d) v:=λu=>Ka f v u (λe he=>by cases he;exact h2);unfold XO at *;rw[Y1 (all:=all) G f (some d) v (λe he=>by cases he;exact h1)];generalize (execOp (ev f) o).run P w=r at *;cases r with
 | ok nx w' =>
  cases nx <;> simp only[upF] at h ⊢
  case value u=>rw[hc];exact E u w' h
  case skip=>rw[hc];exact E _ w' h
  case enter g args =>
   refine Calls.mono h λe H he=>?_;cases e with
   | returned u=>simp only at he ⊢;rw[hc];exact E u H he
   | panicked c=>exact he.elim
   | outgrown=>exact he.elim
 | halt x w'=>exact h.elim
theorem JV {D:List (Nat×Nat)}{f f0:Fr}{dst:Option Nat}{v:Value}(hd:inD D dst=true) (h:∀t,Xo D t=false→f t=f0 t):∀t,Xo D t=false→QX f dst v t=f0 t:=λt E =>
 (YP (λe=>by rw[e] at hd;simp only[inD] at hd;rw[hd] at E;cases E) v).trans (h t E)
def Z6 (all:List Oper) (D:List (Nat×Nat)) (l:List (Nat×Bool)):Bool:=l.all λp=>inD D (Q6 all p.1).dst
structure Fl (P:Program) (all:List Oper) (C:World→Prop) (K KF:Fr→World→Prop) (i d:Nat) (rest:List (Nat×Bool)) (Φ:Value→World→Prop) (Dc:List (Nat×Nat)) (f1:Fr):Prop where
 stab:∀v (own:LN) w w',Φ v w→Step own w w'→(∀b∈ow v,b∉own)→Φ v w'
 spec:∀f w,(∀t,Xo Dc t=false→f t=f1 t)→C w→XO P (Q6 all i) f w λf' w'=>Step [] w w'∧C w'∧Φ (f' d) w'∧∀b∈ow (f' d),w.heap.size≤b∧b<w'.heap.size
 fin:∀f w,KF f w→∀v,C w→Φ v w→XP P all C K rest (QX f (some d) v) w
 mono:∀f w w',KF f w→Step [] w w'→KF f w'
attribute [local semireducible] XP in
theorem qB {i d:Nat}{rest:List (Nat×Bool)}{Φ:Value→World→Prop}{Dc:List (Nat×Nat)}{f1:Fr}(G:Fl P all C K KF i d rest Φ Dc f1) (J:Region.noSelect all.toArray=true) {v:Value}:∀(l:List (Nat×Bool)) (own:LN) (f:Fr) (w:World),Z8 all d l=true→XF P all C KF l own f w→C w→Φ v w →
  (∀b∈ow v,b∉own∧b<w.heap.size)→XP P all C K (l++rest) (QX f (some d) v) w
 | [],own,f,w,_,h,H,I,_=>G.fin f w h v H I
 | (j,q)::l,own,f,w,hfr,h,H,I,hb=>by
  simp only[Z8,List.all_cons,Bool.and_eq_true,Bool.not_eq_true',List.contains_eq_mem,decide_eq_false_iff_not,beq_eq_false_iff_ne,ne_eq] at hfr;obtain ⟨⟨h1,h2⟩,hfr⟩:=hfr;have S:Z8 all d l=true:=by simpa[Z8] using hfr
  have V:∀cs b,(Q6 all j).op≠.select cs b:=by
   intro cs b;cases T:all[j]? with
   | none =>
    have:Q6 all j=default:=by
     clear h h1 h2 hfr S;have key:∀(l:List Oper) (j:Nat),l[j]?=none→Q6 l j=default:=by
      intro l;induction l with
      | nil=>intro j _;rfl
      | cons a l ih=>intro j Y;cases j with | zero=>simp at Y | succ j=>exact ih j (by simpa using Y)
     exact key all j T
    rw[this];intro e;cases e
   | some o=>rw[Zp T];exact Region.noSelect_spec J j o cs b (by simpa using T)
  have hd:∀e,some d=some e→e∉(Q6 all j).looksAt all.toArray:=λe he=>by cases he;exact h1
  cases q with
  | true =>
   obtain ⟨hg,u,hu,hx⟩:=h;simp only[List.cons_append,XP];rw[Jd (Q6 all j) f (some d) v hd,hg,cond_true,cond_true];refine ⟨u,λw' hc=>?_,?_⟩
   ·rw[Y1 (all:=all) V f (some d) v hd];exact hu w' hc
   rw[Ka f v u (λe he=>by cases he;exact h2)];exact qB G J l own _ w S hx H I hb
  | false =>
   simp only[List.cons_append,XP];rw[Jd (Q6 all j) f (some d) v hd,h.1,cond_true,cond_false];refine Qc4 (all:=all) V h1 h2 (λu w' hx=>?_) (h.2 w (Step.refl _ _) H);obtain ⟨ha,own',hf,hh,hx⟩:=hx;refine ⟨.inr (.inr ha),qB G J l own' _ w' S hx ha (G.stab v own w w' I hf (λb E=>(hb b E).1)) (λb E=>⟨λhm=>?_,L4 (hb b E).2 hf.size⟩)⟩
   rcases hh b hm with h3 | h3
   ·exact (hb b E).1 h3
   exact Nat.lt_irrefl _ (L4 (hb b E).2 h3.1)
theorem QgZ {i d:Nat}{rest:List (Nat×Bool)}{Φ:Value→World→Prop}{Dc:List (Nat×Nat)}{f1:Fr}(G:Fl P all C K KF i d rest Φ Dc f1) (S:Region.noSelect all.toArray=true) (T:(Q6 all i).guard=none) (hd:(Q6 all i).dst=some d):∀(l:List (Nat×Bool)) (ls:Array Bool) (own:LN) (f:Fr) (w:World),ls.size=all.length→Z8 all d l=true→Z6 all Dc l=true→(∀t,Xo Dc t=false→f t=f1 t) →
  XF P all C KF l own f w→C w→(∀b∈own,b<w.heap.size)→qg all.toArray i rest l ls=true→XA P all C K (l.length+1+rest.length) ls f w
 | [],ls,own,f,w,Y,hfr,H,V,h,I,ha,hp=>by
  simp only[qg,Bool.and_eq_true,beq_iff_eq] at hp;obtain ⟨J,hp⟩:=hp;rw[show ([]:List (Nat×Bool)).length+1+rest.length=rest.length+1 by simp;omega];refine Jy (λh0=>(by rw[h0] at J;cases J)) ?_;rw[J];intro k hk o E;have he:k=i:=by simpa using hk
  subst he;have hc:=Zp E;have hx:=G.spec f w V I;rw[hc] at T hd hx;rw[Ve T,cond_true];refine hx.mono λv w' hx=>?_;rw[hd] at hx ⊢;obtain ⟨h1,h2,h3,h4⟩:=hx;simp only[QX,Yu] at h3 h4;refine ⟨.inr (.inr h2),ZB S rest _ _ _ (by simpa using Y) (.inl h2) hp (G.fin f w' (G.mono f w w' h h1) v h2 h3)⟩
 | (j,true)::l,ls,own,f,w,Y,hfr,H,V,h,I,ha,hp=>by
  simp only[qg,Bool.and_eq_true] at hp;obtain ⟨⟨J,hf⟩,hh⟩:=hp;have hq:j∈Region.ready .any all.toArray ls:=by simpa using J
  have e:(List.length ((j,true)::l))+1+rest.length=(l.length+1+rest.length)+1:=by simp;omega
  rw[e];have hl:Z8 all d l=true:=by simp only[Z8,List.all_cons,Bool.and_eq_true] at hfr;exact hfr.2
  simp only[Z6,List.all_cons,Bool.and_eq_true] at H;have hn:Z6 all Dc l=true:=H.2;cases E:all[j]? with
  | none =>
   exfalso;obtain ⟨_,o,hz,_⟩:=mem_ready.1 hq;simp[E] at hz
  | some o =>
   obtain ⟨ht,v,hv,hx⟩:=h;rw[Zp E] at ht hv hx;have h5:∀(j:Nat) (o:Oper) cs b,all[j]?=some o→o.op≠.select cs b:=λj o cs b hj=>Region.noSelect_spec S j o cs b (by simpa using hj);have h6:=λk ok hk=>Region.free_spec (ops:=all.toArray) (md:=.any) (i:=j) (oi:=o) (listed:=ls) (by simpa using E) hf k ok (by simpa using hk)
   exact Y2 (v:=v) (D:=λw=>qM o=true→C w) E (λ_ h=>h) h5 _ ls f w (λ_=>I) h6 hq (.inl ⟨ht,hv⟩) (QgZ G S T hd l _ own _ w (by simpa using Y) hl hn (by have:=JV (v:=v) H.1 V;rw[Zp E] at this;exact this) hx I ha hh)
 | (j,false)::l,ls,own,f,w,Y,hfr,H,V,h,I,ha,hp=>by
  simp only[qg,Bool.and_eq_true,List.all_eq_true,Bool.or_eq_true,beq_iff_eq,Bool.not_eq_true'] at hp;obtain ⟨⟨⟨hu,J⟩,h7⟩,hh⟩:=hp;have e:(List.length ((j,false)::l))+1+rest.length=(l.length+1+rest.length)+1:=by simp;omega
  rw[e];have hl:Z8 all d l=true:=by simp only[Z8,List.all_cons,Bool.and_eq_true] at hfr;exact hfr.2
  simp only[Z6,List.all_cons,Bool.and_eq_true] at H;have hn:Z6 all Dc l=true:=H.2;refine Jy (λh0=>(by rw[h0] at hu;cases hu)) ?_;intro k hk o E;have hc:=Zp E;have hw:(ls.setIfInBounds k true).size=all.length:=by simpa using Y
  by_cases he:k=i
  ·subst he;have hx:=G.spec f w V I;rw[hc] at T hd hx;rw[Ve T,cond_true];refine hx.mono λv w' hx=>?_;rw[hd] at hx ⊢;obtain ⟨h1,h2,h3,h4⟩:=hx;simp only[QX,Yu] at h3 h4;refine ⟨.inr (.inr h2),?_⟩;have hx:=qB G S ((j,false)::l) own f w' hfr (XF.ext G.mono h h1) h2 h3 (λb hb=>⟨λhm=>Nat.lt_irrefl _ (L4 (ha b hm) (h4 b hb).1),(h4 b hb).2⟩)
   have:=ZB S ((j,false)::(l++rest)) _ _ _ hw (.inl h2) h7 hx;rw[show ((j,false)::(l++rest)).length=l.length+1+rest.length by simp;omega] at this;exact this
  have h8:k=j:=(J k hk).resolve_right he;subst h8;have h1:=h.1;have h2:=h.2 w (Step.refl _ _) I;rw[hc] at h1 h2;rw[h1,cond_true];refine h2.mono λv w' hx=>?_;obtain ⟨hy,own',h9,hA,hx⟩:=hx;refine ⟨.inr (.inr hy),QgZ G S T hd l _ own' _ w' hw hl hn (by have:=JV (v:=v) H.1 V;rw[hc] at this;exact this) hx hy (λb hb=>?_) hh⟩;rcases hA b hb with h3 | h3
  ·exact L4 (ha b h3) h9.size
  exact h3.2
theorem Qjk {ro:Option Nat}{m:Nat}{ds:LN}{Q:Exit→LN→Fr→World→Prop}{id:Nat}(C:World→Prop) (pre l:List (Nat×Bool)) (i d:Nat) (rest:List (Nat×Bool)) (own:LN) (KF:Fr→World→Prop) (Φ:Value→World→Prop) (Dc:List (Nat×Nat)) (hm:P.follows .mixedOrders=true) (J:XR n all=true) (S:jL all=true)
  (hp:Qgc all pre l i rest=true) (T:Z6 all Dc l=true) (hd:(Q6 all i).dst=some d) (G:C { w with drawn:=w.drawn+1 }) (V:∀b∈own,b<w.heap.size)
  (h:XP P all C (λf1 _=>Fl P all C (λf w=>Q .normal ds f w) KF i d rest Φ Dc f1∧XF P all C KF l own f1 { w with drawn:=w.drawn+1 }) pre f { w with drawn:=w.drawn+1 }):WG ro m P n (.region id all.toArray true) Q ds f w:=by
 unfold WG;intro a ha;simp only[Qgc,Bool.and_eq_true,beq_iff_eq,Option.isNone_iff_eq_none] at hp;obtain ⟨⟨⟨⟨⟨H,hl⟩,hq⟩,Y⟩,hg⟩,hfr⟩:=hp;rw[hd] at hfr;refine wpIn_region_any hm ?_;have h1:=YG (K:=λf w=>Q .normal ds f w) (m:=l.length+1+rest.length) H pre (Array.replicate all.length false) f _ G hq
  (λf1 I=>QgZ I.1 H hg hd l (ZZ pre (Array.replicate all.length false)) own f1 _ (by rw[YI];simp) hfr T (λ_ _=>rfl) I.2 G V Y) h
 rw[hl] at h1;have h2:=UD (ro:=ro) (m:=m) (n:=n) (ds:=ds) (Q:=λe a' w'=>∃ds' E,Yq n ds' a' E∧(∀t,ZH all t=false→E t=f t)∧Q e ds' E w') (YA J) (Kx S) f
  (λa E w hr hk hq=>⟨ds,E,hr,hk,hq⟩) _ _ a f _ ha (λ_ _=>O) h1
 simpa[Y4] using h2
theorem XP.keeps_mono {K':Fr→World→Prop}:∀(l:List (Nat×Bool)) (f:Fr) (w:World),XP P all C K l f w→(∀f w,K f w→K' f w)→XP P all C K' l f w
 | [],f,w,h,hk=>by simp only[XP] at h ⊢;exact hk _ _ h
 | (j,q)::l,f,w,h,hk=>by
  simp only[XP] at h ⊢;cases E:Yc all f (Q6 all j) with
  | false=>rw[E] at h;exact XP.keeps_mono l _ _ h hk
  | true =>
   rw[E] at h;cases q with
   | true=>obtain ⟨v,G,hx⟩:=h;exact ⟨v,G,XP.keeps_mono l _ _ hx hk⟩
   | false=>exact XO.mono (λv w' hx=>⟨hx.1,XP.keeps_mono l _ _ hx.2 hk⟩) h
theorem XP.keeps {D:List (Nat×Nat)}{f0:Fr}:∀(l:List (Nat×Bool)) (f:Fr) (w:World),Z6 all D l=true→(∀t,Xo D t=false→f t=f0 t)→XP P all C K l f w→XP P all C (λH w'=>(∀t,Xo D t=false→H t=f0 t)∧K H w') l f w
 | [],f,w,_,E,h=>by simp only[XP] at h ⊢;exact ⟨E,h⟩
 | (j,q)::l,f,w,hd,E,h=>by
  simp only[Z6,List.all_cons,Bool.and_eq_true] at hd;have G:Z6 all D l=true:=hd.2;simp only[XP] at h ⊢;cases I:Yc all f (Q6 all j) with
  | false=>rw[I] at h;exact XP.keeps l _ _ G (JV hd.1 E) h
  | true =>
   rw[I] at h;cases q with
   | true=>obtain ⟨v,J,hx⟩:=h;exact ⟨v,J,XP.keeps l _ _ G (JV hd.1 E) hx⟩
   | false=>exact XO.mono (λv w' hx=>⟨hx.1,XP.keeps l _ _ G (JV hd.1 E) hx.2⟩) h
theorem XF.keeps {D:List (Nat×Nat)}{f0:Fr}:∀(l:List (Nat×Bool)) (own:LN) (f:Fr) (w:World),Z6 all D l=true→(∀t,Xo D t=false→f t=f0 t)→XF P all C K l own f w→XF P all C (λG w'=>(∀t,Xo D t=false→G t=f0 t)∧K G w') l own f w
 | [],own,f,w,_,E,h=>⟨E,h⟩
 | (j,true)::l,own,f,w,hd,E,h=>by
  simp only[Z6,List.all_cons,Bool.and_eq_true] at hd;obtain ⟨H,v,I,hx⟩:=h;exact ⟨H,v,I,XF.keeps l own _ _ hd.2 (JV hd.1 E) hx⟩
 | (j,false)::l,own,f,w,hd,E,h=>by
  simp only[Z6,List.all_cons,Bool.and_eq_true] at hd;refine ⟨h.1,λJ h1 hc=>XO.mono (λv w' hx=>?_) (h.2 J h1 hc)⟩;obtain ⟨S,own',T,V,hx⟩:=hx;exact ⟨S,own',T,V,XF.keeps l own' _ _ hd.2 (JV hd.1 E) hx⟩
theorem Qhc {ro:Option Nat}{m:Nat}{ds:LN}{Q:Exit→LN→Fr→World→Prop}{id:Nat}{α:Type}(C:World→Prop) (pre l:List (Nat×Bool)) (i d:Nat) (rest:List (Nat×Bool)) (own:LN) (D Dc:List (Nat×Nat)) (S:α→List (Nat×Value)) (I:α→World→Prop) (Φ:Value→World→Prop) (hm:P.follows .mixedOrders=true) (T:XR n all=true) (V:jL all=true)
  (hp:Qgc all pre l i rest=true) (G:(Z6 all D pre && Z6 all D l && Z6 all Dc l)=true) (hd:(Q6 all i).dst=some d) (Y:C { w with drawn:=w.drawn+1 }) (ha:∀b∈own,b<w.heap.size)
  (stab:∀v (own:LN) w w',Φ v w→Step own w w'→(∀b∈ow v,b∉own)→Φ v w') (mono:∀z w w',I z w→Step [] w w'→I z w')
  (fin:∀z g w v,I z w→C w→Φ v w→XP P all C (λf w=>Q .normal ds f w) rest (QX (z1 (S z) (mix D f g)) (some d) v) w)
  (h:XP P all C (λf1 _=>(∀g w,C w→XO P (Q6 all i) (mix Dc f1 g) w λE w'=>Step [] w w'∧C w'∧Φ (E d) w'∧∀b∈ow (E d),w.heap.size≤b∧b<w'.heap.size)∧XF P all C (λE w'=>∃z,Xu E (S z)∧I z w') l own f1 { w with drawn:=w.drawn+1 }) pre f { w with drawn:=w.drawn+1 }):WG ro m P n (.region id all.toArray true) Q ds f w:=by
 rw[Lv,Lv] at G;refine Qjk C pre l i d rest own (λE w'=>(∀t,Xo D t=false→E t=f t)∧∃z,Xu E (S z)∧I z w') Φ Dc hm T V hp G.2 hd Y ha ?_;refine XP.keeps_mono _ _ _ (XP.keeps pre f _ G.1.1 (λ_ _=>O) h) (λf1 w1 hx=>⟨⟨stab,?_,?_,?_⟩,XF.keeps l own _ _ G.1.2 hx.1 hx.2.2⟩)
 ·intro E w' hk H;have:=hx.2.1 E w' H;rw[JS hk] at this;exact this
 ·rintro E w' ⟨hk,z,J,hi⟩ v H hv;have:=fin z E w' v hi H hv;rw[JS hk,YO J] at this;exact this
 rintro E w' hc ⟨hk,z,J,hi⟩ hb;exact ⟨hk,z,J,mono z _ _ hi hb⟩
theorem fp {j:Nat}{l:List (Nat×Bool)}{own:LN}{v:Value}(E:∀w',(execOp (ev f) (Q6 all j)).run P w'=.ok (.value v) w') (h:XF P all C K l own (QX f (Q6 all j).dst v) w)
  (G:Yc all f (Q6 all j)=true:=by rfl):XF P all C K ((j,true)::l) own f w:=⟨G,v,λw' _=>E w',h⟩
theorem fk {j:Nat}{l:List (Nat×Bool)}{own:LN}(h:∀w1,Step [] w w1→C w1→XO P (Q6 all j) f w1 λE w'=>C w'∧∃own',Step own w1 w'∧(∀b∈own',b∈own∨(w1.heap.size≤b∧b<w'.heap.size))∧XF P all C K l own' E w')
  (G:Yc all f (Q6 all j)=true:=by rfl):XF P all C K ((j,false)::l) own f w:=⟨G,h⟩
theorem fe {own:LN}(h:K f w):XF P all C K [] own f w:=h
end
attribute [irreducible] XF
end Go.Lg
namespace Go.Proofs.YtdffckgdcegpaaaGreatDoor
open Go.Proofs.Tryz
open Go.Lg
instance:Bw prog 77 [nS,.int .i64 0,nS,nS,nS,nS,nS,nS] [(0,4),(4,1),(5,1),(6,1),(7,1)]:=⟨by kernel_rfl,by decide⟩
def spF (c:Zw) (pl:QV) (ps:List (LI)) (l:List (LI)):List Rsn:=l.zipIdx.filterMap (λp=>rsn c pl (plx ps (p.1.take c.co.length)) p.2 p.1)
theorem QeO {c:Zw}{pl:QV}{ps:List (LI)}{l:List (LI)}{k:Nat}(h:k<l.length):spF c pl ps (l.take (k+1))=spF c pl ps (l.take k)++(rsn c pl (plx ps ((l[k]'h).take c.co.length)) k (l[k]'h)).toList:=by
 unfold spF;rw[Le h,List.zipIdx_append,List.filterMap_append];have e:0+(l.take k).length=k:=by rw[Lx];omega
 rw[e];simp only[List.zipIdx_cons,List.zipIdx_nil,List.filterMap_cons,List.filterMap_nil];cases rsn c pl (plx ps ((l[k]'h).take c.co.length)) k (l[k]'h) <;> rfl
theorem QbZ (c:Zw) (pl:QV) (ps:List (LI)) (l:List (LI)):(spF c pl ps l).length≤l.length:=by
 unfold spF;refine LS (List.length_filterMap_le _ _) ?_;rw[List.length_zipIdx];exact Lr _
theorem QaT {c:Zw}{pl sa:QV}{ps ts:List (LI)}(hp:sync (auts c.co)=some (pl,ps)) (E:sync (auts c.co++auts c.rq)=some (sa,ts)) :
  spc c=⟨sa,ts.map (·.take c.co.length),ts.map (·.drop c.co.length),ts.map (λt=>plx ps (t.take c.co.length)),spF c pl ps ts⟩:=by
 unfold spc syA syQ;rw[hp,E];simp only[];rw[zj];simp[spF]
theorem QgJ {n:Nat}{u:LI}{s:List ByteArray}{x:YH}(h:Z1 n u s x=0):x.a.st≠0:=by
 unfold Z1 at h;split at h
 ·cases h
 split at h
 ·cases h
 split at h
 ·rename_i h1 h2;exact absurd h h2
 split at h
 ·cases h
 split at h
 ·cases h
 assumption
theorem Qap {n:Nat}{al:LI}:∀{l:List YH}{s:List ByteArray}{u:LI},(Z5 n al s u l).1=0→∀x∈l,x.a.st≠0
 | [],_,_,_,x,hx=>by cases hx
 | y::l,s,u,h,x,hx=>by
  rw[KC] at h;by_cases h1:Z1 n al s y≠0
  ·rw[if_pos h1] at h;exact absurd h h1
  rw[if_neg h1] at h;have h2:Z1 n al s y=0:=Lu.1 h1;rcases Lc.1 hx with rfl | hx
  ·exact QgJ h2
  exact Qap h x hx
theorem QgK {c:Zw}(h:Zc c=0):∀x∈c.co,x.a.st≠0:=by
 unfold Zc at h;by_cases h1:Js c.ev≠0
 ·rw[if_pos h1] at h;exact absurd h h1
 rw[if_neg h1] at h;by_cases h2:c.co.length=0
 ·rw[if_pos h2] at h;cases h
 rw[if_neg h2] at h;by_cases h3:8<c.co.length∨12<c.co.length+c.rq.length
 ·rw[if_pos h3] at h;cases h
 rw[if_neg h3] at h;by_cases E:(Z5 c.ev.length (JJ c.ev.length) [] [] c.co).1≠0
 ·rw[if_pos E] at h;exact absurd h E
 exact Qap (Lu.1 E)
theorem jJ {c:Zw}(h:Zc c=0) {A:QV}{Q:List (LI)}(H:sync (auts c.co)=some (A,Q)):Zr A∧A.st=(Q.length:Int)∧0<Q.length∧∀e∈A.al,0≤e∧e<(c.ev.length:Int):=by
 have E:=ZO h;have G:=Yh E.co;have hsp:=Xi G H;refine ⟨hsp.1.okay G,hsp.1.st,?_,λe he=>?_⟩
 ·refine Nat.pos_of_ne_zero λI=>?_;obtain ⟨a,ha,h1⟩:=hsp.2.1 I;obtain ⟨x,hx,rfl⟩:=Ly.1 ha;exact QgK h x hx h1
 rw[hsp.1.al] at he;obtain ⟨a,ha,h1⟩:=(QcK G e).1 he;obtain ⟨x,hx,rfl⟩:=Ly.1 ha;exact ⟨((E.co x hx).al e h1).1,E.ce x hx e h1⟩
theorem Qe9 {Q:List (LI)}(h:0<Q.length) (t:LI):0≤plx Q t∧plx Q t<(Q.length:Int):=by
 unfold plx;split
 ·rename_i hm;have:=MJ hm;omega
 omega
theorem Vt.take {a b:List QV}{t:LI}(h:Vt (a++b) t):Vt a (t.take a.length):=by
 have hl:=h.1;rw[Li] at hl;refine ⟨by rw[Lx];omega,λi h1 h2=>?_⟩;have:=h.2 i (by omega) (by rw[Li];omega);rw[L2 h2] at this;rw[MY];exact this
theorem Vt.drop {a b:List QV}{t:LI}(h:Vt (a++b) t):Vt b (t.drop a.length):=by
 have hl:=h.1;rw[Li] at hl;refine ⟨by rw[L7];omega,λi h1 h2=>?_⟩;have:=h.2 (a.length+i) (by omega) (by rw[Li];omega);rw[Mw (by omega)] at this;rw[List.getElem_drop];simpa using this
theorem Vt.tpOk {l:List YH}{t:LI}(h:Vt (auts l) t):Qjg (szs l) t:=by
 have hl:=h.1;unfold auts at hl;rw[Lb] at hl;refine ⟨by unfold szs;rw[Lb];exact hl,λi hi=>?_⟩;have h1:=h.2 i hi (by unfold auts;rw[Lb];omega);have E:i<(szs l).length:=by unfold szs;rw[Lb];omega
 rw[←Zk hi,←Zk E];unfold auts szs at *;simpa using h1
theorem Ji.add {base G T:Nat}{W H I J:World}{S V Y E v' c0 c1 c2 c3:Value}{cos rqs:List TV}{pls:LI}{fbs:List Rsn}{q:Rsn}(hB:Q3 W.heap G T [c0,c1,c2,c3,S,V,Y,E]) (hS:Ji base W S V Y E cos rqs pls fbs) (ha:G<base) (h1:Step [] W H)
  (ho:I.ownsRow base 83 4 v' (fbs.length+1) (fbs.flatMap ZA++ZA q)) (h2:Step (ob E) H I) (hn:∀b∈ob v',b∈ob E∨H.heap.size≤b) (h3:Step [G] I J) :
  Step (G::ob E) W J∧Ji base J S V Y v' cos rqs pls (fbs++[q])∧(∀x∈G::ob E,∃o:Obj,W.heap[x]?=some o∧o.isCells=true):=by
 refine ⟨((h1.any).trans' (h2.mono λx hx=>Ll _ hx)).trans' (h3.mono λx hx=>?_),(hS.a4 h1 ho h2 hn).low h3 (λx hx=>?_),λx hx=>?_⟩
 ·simp only[List.mem_singleton] at hx;subst hx;exact Ln
 ·simp only[List.mem_singleton] at hx;subst hx;exact ha
 rcases Lc.1 hx with rfl | hx
 ·exact hB.cells
 exact Go.Lg.QZ hS.o4 x hx
set_option maxHeartbeats 40000000 in
theorem KJ {L:LN}{w:World}{c:CL}(h0:Zx L w.heap c) (m1:Kb w 4096) :
  QJ prog 27 [c.val] w λr w'=>Step [] w w'∧∃v,r=.tuple #[v,.int .i64 (Yy c.cel)]∧(∃us,v=.agg us.toArray∧us.length=8∧ZP us)∧(Yy c.cel=0→QmP w.heap.size w'.heap v (spc c.cel)):=by
 have h:=h0.up (L':=[]) (by simp);refine Zb (Yy c.cel) λE hE=>?_;refine QJ.of_G 20 func27 O ntmps27 results27 (by simp) ?_;refine Q0<|QK (by rfl) (by rfl) ?_;refine xl rfl<|QT (us:=c.cells) O λb1 w1 hG hb1 m2=>xl O<|Qv (us:=[nS,.int .i64 0,nS,nS,nS,nS,nS,nS]) O λb2 w2 h6 hb2 gx=>Qe ?_;have kh:=hG.trans h6;have hz1:=hG.size;have hz2:=h6.size;have m3:=m2.lt;have ki:=gx.lt
 have m4:=m2.ext h6;refine Q0<|QK (by rfl) (by rfl) ?_;refine x (Qs m4 O O)<|xl O<|xf<|(Qaw (h.ext kh) (m1.ext kh)).mono ?_;rintro r3 w3 ⟨h7,vp,rfl,zv,m5⟩;rw[hE] at zv m5 ⊢;have kj:=kh.trans h7;refine Qb<|x (Qp O O)<|x (Qp O O)<|x Qh<|Qe<|Q0<|Q0<|QK (by rfl) (by rfl) ?_;refine Qb<|x (Q9 O O)<|xe<|Qjj O (λkk=>?_) (λkk=>?_)
 ·refine Q0<|QK (by rfl) (by rfl) ?_
  refine x (ZV [] U)<|Qb<|xl O<|Qr (us:=[nS,.int .i64 0,nS,nS,nS,nS,nS,nS]) (gx.ext h7) O O O O ⟨O,O,O,O,O,O,O,O,U⟩ λw4 hN z0=>Qe<|J6 ⟨λ_ h=>(by cases h),MQ,[.agg [nS,.int .i64 0,nS,nS,nS,nS,nS,nS].toArray,.int .i64 E],λW' hO=>⟨⟨⟨_,rfl,QB rfl ((z0.ext hO).at (L:=[]) (by simp)).cells⟩,rfl,U⟩,(kj.then1 hN (by omega)).trans hO,_,rfl,⟨_,rfl,rfl,rfl,rfl,rfl,rfl,rfl,rfl,rfl,rfl,U⟩,λe=>absurd e kk⟩⟩
 have m6:E=0:=Lu.1 kk;obtain ⟨b,q,rfl,rfl,hQ,ho,z2⟩:=m5 m6;refine Ya ?_;have hlb:=ho.B.lt;refine Q0<|QK (by rfl) (by rfl) ?_;refine Qb<|x (QH O)<|x (Qa O)<|x (Yv (us:=Zl q.s) ho.B O O O)<|x (ZV [(0,Zl q.s)] ⟨O,O,U⟩)<|xl O<|Qv (us:=[nS,.int .i64 0,nS,nS,nS,nS,nS,nS]) O λG w5 hZ kn h8 =>
  xl rfl<|Qr (us:=[q.s.va,.int .i64 q.s.a.st,q.s.vm,q.s.ve,nS,nS,nS,nS]) h8 O O O O ⟨ho.s.al.one,O,ho.s.mr.one,ho.s.ed.one,O,O,O,O,U⟩ λH gy h8=>xe ?_
 have gz:Step [] w3 H:=hZ.then1 gy kn;have ko:=h8.lt;have m7:=ho.ext gz;have hs06:=kj.trans gz;have hz3:=h7.size;have hz36:=gz.size;refine Q0<|Q0<|QK (by rfl) (by rfl) ?_;refine Qb<|x (QH O)<|x (Qa O)<|x (Qd m7.B O O)<|x (Qq m7.ts.arr O)<|Qb<|xe ?_;have m8:=(Un (λa ha=>by
  rcases Lj.1 ha with ha | ha
  ·exact Yh (ZO hQ.ok).co a ha
  exact Yh (ZO hQ.ok).rq a ha) hQ.s)
 have kp:=m8.1;have m9:=m8.2;simp only[] at kp m9;have ga:=ZO hQ.ok;have hckc:=ga.c8;have gb:q.c.cel.co.length=q.c.co.length:=Lb ..;have z3:q.c.cel.rq.length=q.c.rq.length:=Lb ..;have hcr:=ga.cr;have z4:(auts q.c.cel.co++auts q.c.cel.rq).length=q.c.co.length+q.c.rq.length:=by rw[Li];unfold auts;rw[Lb,Lb,gb,z3]
 refine Zb (q.ts.map (·.2)) λT hT=>?_;rw[hT] at kp m9;have hTn:q.ts.length=T.length:=by rw[←hT,Lb]
 refine ZE<|V0 (α:=Nat×(Value×Value×Value×Value)×List TV×List TV×LI) [(7,17),(37,99),(100,118)] (λz=>[(37,.int .i64 z.1)]) (λz ds W'=>z.1≤q.ts.length∧Step [G] H W'∧Vv H.heap.size W'.heap.size ds W'∧Q3 W'.heap G 77 [q.s.va,.int .i64 q.s.a.st,q.s.vm,q.s.ve,z.2.1.1,z.2.1.2.1,z.2.1.2.2.1,z.2.1.2.2.2] ∧
  Ji H.heap.size W' z.2.1.1 z.2.1.2.1 z.2.1.2.2.1 z.2.1.2.2.2 z.2.2.1 z.2.2.2.1 z.2.2.2.2 (spF q.c.cel q.p.a (q.qs.map (·.2)) (T.take z.1))∧z.2.2.1.map (·.2)=(T.take z.1).map (·.take q.c.co.length)∧z.2.2.2.1.map (·.2)=(T.take z.1).map (·.drop q.c.co.length)∧z.2.2.2.2=(T.take z.1).map (λt=>plx (q.qs.map (·.2)) (t.take q.c.co.length)))
  (λz=>q.ts.length - z.1) (by rfl) (0,(nS,nS,nS,nS),[],[],[]) Z
  ⟨Lk _,Step.refl _ _,⟨MQ,λD hD=>by cases hD⟩,h8,Ji.nil _ _,rfl,rfl,rfl⟩ ?_
 rintro ⟨k,⟨v1,v2,v3,I⟩,cos,rqs,pls⟩ g ds w7 ⟨hk,kq,pa,kr,J,gi,gj,gk⟩;simp only[] at hk kr J gi gj gk;have gl:Step [] w3 w7:=gz.then1 kq kn;have kt:=kj.trans gl;have hz7:=kq.size;have g0:(T.take k).length=k:=by rw[Lx];omega
 have hcosl:cos.length=k:=by have:=congrArg List.length gi;rw[Lb,Lb,g0] at this;exact this
 have hrqsl:rqs.length=k:=by have:=congrArg List.length gj;rw[Lb,Lb,g0] at this;exact this
 have hplsl:pls.length=k:=by rw[gk,Lb,g0]
 have pc:=QbZ q.c.cel q.p.a (q.qs.map (·.2)) (T.take k);rw[g0] at pc;refine Zb (spF q.c.cel q.p.a (q.qs.map (·.2)) (T.take k)) λfbs g2=>?_;rw[g2] at J pc;have l7:=J.lt;refine Zb (ob v1++(ob v2++(ob v3++ob I))) λav gm=>?_;have gc:∀x∈av,H.heap.size≤x∧x<w7.heap.size:=λx hx=>by
  rw[←gm] at hx;rcases jR hx with h1 | h1 | h1 | h1
  ·exact Qk J.o1 x h1
  ·exact Qk J.o2 x h1
  ·exact Qk J.o3 x h1
  exact Qk J.o4 x h1
 have g3:G∉av:=λhm=>by have:=(gc G hm).1;omega
 have ku:∀x∈av,x∈G::av:=λx hx=>Ll _ hx;have g4:XB (G::av) b w7.heap q:=(ho.up (λx hx=>.inr (by
  rcases Lc.1 hx with rfl | hx
  ·exact kn
  have:=(gc x hx).1;omega))).ext gl
 refine Q0<|QK (by rfl) (by rfl) ?_;refine x (QA O O)<|xe<|Q0<|zW O (λkv=>?_) (λkv=>?_)
 ·refine J7 ?_;have hke:q.ts.length≤k:=by have z5:¬(k:Int)<(q.ts.length:Int):=kv;omega
  rw[Lm (by omega)] at gi gj gk g2;have hsp:=QaT hQ.p hQ.s;rw[hT,gb,←gi,←gj,←gk,g2] at hsp;have pd:=h7.trans gl;refine Q0<|QK (by rfl) (by rfl) ?_
  refine x (Qs kr O O)<|xl O<|Qr (us:=[q.s.va,.int .i64 q.s.a.st,q.s.vm,q.s.ve,v1,v2,v3,I]) (gx.ext pd) O O O O ⟨ho.s.al.one,O,ho.s.mr.one,ho.s.ed.one,QD J.o1,QD J.o2,QD J.o3,QD J.o4,U⟩ λw8 g5 z9=>Qe ?_;have hb2w:b2<H.heap.size:=by omega
  have gn:Vv H.heap.size w7.heap.size ds w8:=pa.blk g5 (gx.ext pd);have hb2d:b2∉ds:=λhm=>by have:=(gn.2 b2 hm).1;omega
  have hS8:=J.low g5 (λx hx=>by simp only[List.mem_singleton] at hx;subst hx;exact hb2w);refine J6 ⟨λD hD=>(gn.2 D hD).2.2,gn.1,[.agg [q.s.va,.int .i64 q.s.a.st,q.s.vm,q.s.ve,v1,v2,v3,I].toArray,.int .i64 E],λW' hO=>?_⟩;have g6:Lg.Xj [] w8 W':=Lg.Xj.nonc hO (λD hD=>⟨_,(gn.2 D hD).2.2,O⟩);have ge:=hO.size;have hA:=hS8.cst g6 ge
  refine ⟨⟨⟨_,O,QB O ((z9.step hO hb2d).at (L:=[]) (by simp)).cells⟩,congrArg (Value.int .i64) m6.symm,U⟩,(kt.then1 g5 (by omega)).then hO (λD hD=>.inr (by have:=(gn.2 D hD).1;omega)),_,O,⟨_,O,O,ho.s.al.one,O,ho.s.mr.one,ho.s.ed.one,QD J.o1,QD J.o2,QD J.o3,QD J.o4,U⟩,λ_=>?_⟩;have hl9:pls.length≤1099511627776:=by omega
  have hl8:fbs.length≤1099511627776:=by omega
  rw[hsp];refine ⟨q.s.va,q.s.vm,q.s.ve,v1,v2,v3,I,cos,rqs,O,O,O,λL hL=>⟨?_,⟨QR hA.o1 (by omega) (λx hx hm=>?_),λp hp=>hA.e1 p hp L (λx hx=>?_)⟩,⟨QR hA.o2 (by omega) (λx hx hm=>?_),λp hp=>hA.e2 p hp L (λx hx=>?_)⟩,QR hA.o3 hl9 (λx hx hm=>?_),QR hA.o4 hl8 (λx hx hm=>?_)⟩⟩
  ·have h1:=((z2 (b2::L) (λx hx=>by
    rcases Lc.1 hx with rfl | hx
    ·exact ki
    have:=hL x hx;omega)).1.ext gl).st (g5.mono (λx hx=>by simp only[List.mem_singleton] at hx;subst hx;exact Ln))
   have h2:=h1.up (L':=L) (λx hx=>.inl (Ll _ hx));exact ⟨h2.al.cst (g6.mono (by simp)) ge,h2.mr.cst (g6.mono (by simp)) ge,h2.ed.cst (g6.mono (by simp)) ge⟩
  ·have:=(Qk hA.o1 x hx).1;have:=hL x hm;omega
  ·exact .inl (by have:=hL x hx;omega)
  ·have:=(Qk hA.o2 x hx).1;have:=hL x hm;omega
  ·exact .inl (by have:=hL x hx;omega)
  ·have:=(Qk hA.o3 x hx).1;have:=hL x hm;omega
  have:=(Qk hA.o4 x hx).1;have:=hL x hm;omega
 have go:k<q.ts.length:=by have z5:(k:Int)<(q.ts.length:Int):=kv;omega
 have gp:k<T.length:=by omega
 have pf:=Lh go;have hTe:T[k]'gp=(q.ts[k]'go).2:=by subst hT;simp
 have hr:=QeO (c:=q.c.cel) (pl:=q.p.a) (ps:=q.qs.map (·.2)) gp;have gq:T.take (k+1)=T.take k++[T[k]'gp]:=Le gp;have gg:=kp _ (Lh gp);rw[g2] at hr;rw[hTe] at hr gq gg;refine Ya ?_
 refine Qc9 (α:=(Value×Value×Value×Value)×List TV×List TV×LI) [(7,17),(38,117)] (λz=>[(37,.int .i64 k)]) (λz hR W'=>Step [G] H W'∧Vv H.heap.size W'.heap.size hR W'∧Q3 W'.heap G 77 [q.s.va,.int .i64 q.s.a.st,q.s.vm,q.s.ve,z.1.1,z.1.2.1,z.1.2.2.1,z.1.2.2.2] ∧
  Ji H.heap.size W' z.1.1 z.1.2.1 z.1.2.2.1 z.1.2.2.2 z.2.1 z.2.2.1 z.2.2.2 (spF q.c.cel q.p.a (q.qs.map (·.2)) (T.take (k+1)))∧z.2.1.map (·.2)=(T.take (k+1)).map (·.take q.c.co.length)∧z.2.2.1.map (·.2)=(T.take (k+1)).map (·.drop q.c.co.length)∧z.2.2.2=(T.take (k+1)).map (λt=>plx (q.qs.map (·.2)) (t.take q.c.co.length))) (by rfl) ?_ ?_
 rotate_left
 ·rintro ⟨⟨u1,u2,u3,u4⟩,cos',rqs',pls'⟩ g hR W ⟨hsW,hDW,hBW,hSW,h1,h2,h3⟩;refine QK (by rfl) (by rfl) ?_;refine QN O O<|Qb<|xe ?_;exact ⟨(k+1,(u1,u2,u3,u4),cos',rqs',pls'),by simp only[];omega,Z,go,hsW,hDW,hBW,hSW,h1,h2,h3⟩
 refine ZE<|Q0<|QK (by rfl) (by rfl) ?_;refine Qb<|xig (g:=Zz) Ku g4.ts.arr O O go λa40 pg=>?_;refine Zb (q.ts[k]'go) λt ht=>?_;rw[ht] at pg pf hr gq gg;have htI:=g4.ts.each t pf;have htl:t.2.length=q.c.co.length+q.c.rq.length:=by rw[gg.1,z4]
 refine x (Qu pg O)<|xl O<|Qv (us:=[.int .i64 0]) O λb7 w9 hs9 hb7 hB9=>xl O<|QG (j:=0) (u:=.int .i64 k) hB9 O O (by decide) O λw10 ph pj =>
  Qe ?_
 have kw:Step [] w7 w10:=hs9.then1 ph hb7;refine Q0<|QK (by rfl) (by rfl) ?_;refine Qb<|Qb<|xl O<|xf<|(jz (g4.ext kw) (htI.ext kw) (by omega)).mono ?_;rintro r11 pm ⟨pn,v9,po,rfl,hJ,hw⟩;refine Qb<|x (Qp O O)<|x (Qp O O)<|x Qh<|Qe ?_;have ky:=kw.trans pn;have kz:=g4.ext ky;refine Zb (t.2.take q.c.co.length) λtc hU=>?_;refine Zb (t.2.drop q.c.co.length) λtr gr=>?_
 rw[gb] at hr;rw[hU] at hJ hr;rw[gr] at hw;have htcl:tc.length=q.c.co.length:=by rw[←hU,Lx];omega
 have htrl:tr.length=q.c.rq.length:=by rw[←gr,L7];omega
 have hbdt:=gg.bd (m:=4096) (λa ha=>by
  rcases Lj.1 ha with ha | ha
  ·exact (Yh ga.co a ha).st1
  exact (Yh ga.rq a ha).st1)
 have pp:∀x∈tc,0≤x∧x<4096:=λx hx=>hbdt x (LZ (by rw[hU];exact hx));refine Q0<|qJ (Step [] pm) [(0,true),(1,true),(2,true),(3,true),(4,true),(5,false),(6,true),(7,true)] mixed (by rfl) (by rfl) (by kernel_rfl) (Step.drew _ _) ?_
 refine p (λ_=>Ql)<|p (λ_=>QH O)<|p (λ_=>Qa O)<|pq (λ_ hc=>Qd (kz.B.ext hc) O O)<|p (λ_=>Ql)<|pk<|xf<|(jd (hJ.ext (Step.drew _ _)) ((m1.ext (kt.trans ky)).ext (Step.drew _ _)) pp (by omega)).mono ?_;rintro r12 Y ⟨rfl,hs12⟩;have gh:=(Step.drew [] pm).trans hs12;refine ⟨gh,?_⟩
 have pt:(match mget q.mm (JE tc) with | some u=>u | none=>.int .i64 0)=Value.int .i64 (plx (q.qs.map (·.2)) tc):=by
  rw[hQ.m tc htcl (λx hx=>(pp x hx).1)];unfold plx;by_cases hm:tc∈q.qs.map (·.2)
  ·rw[if_pos hm,if_pos hm]
  rw[if_neg hm,if_neg hm]
 refine Zb (plx (q.qs.map (·.2)) tc) λpi k0=>?_;rw[k0] at pt hr;refine pq (λ_ hc=>(X3 (k:=JE tc) (kz.m.ext hc) O O).trans (congrArg (λv=>Result.ok (Next.value v) _) pt))<|p (λ_=>Qh)<|pe ?_;have hY:=ky.trans gh;have hs012:=kt.trans hY;have hJ:=hJ.ext gh;have hw:=hw.ext gh;have h8:=kr.ext hY;have gs:=J.ext hY;have hS12d:=gs.ext (Step.drew [] Y)
 have hz712:=hY.size;have hzd:({ Y with drawn:=Y.drawn+1 }:World).heap.size=Y.heap.size:=rfl
 have hC0:Step av Y { Y with drawn:=Y.drawn+1 }:=Step.drew _ _
 have fin:∀{hf hg hq hh hj:Value} {wx wy:World},Step av Y wx→Ji H.heap.size wx hf hg hq I (cos++[(hh,tc)]) (rqs++[(hj,tr)]) (pls++[pi]) fbs→Step [G] wx wy→Q3 wy.heap G 77 [q.s.va,.int .i64 q.s.a.st,q.s.vm,q.s.ve,hf,hg,hq,I] →
   Step (G::av) Y wy∧Q3 wy.heap G 77 [q.s.va,.int .i64 q.s.a.st,q.s.vm,q.s.ve,hf,hg,hq,I]∧Ji H.heap.size wy hf hg hq I (cos++[(hh,tc)]) (rqs++[(hj,tr)]) (pls++[pi]) fbs:=λhC hP hs hB =>
  ⟨(hC.mono ku).trans' (hs.mono (λx hx=>by simp only[List.mem_singleton] at hx;subst hx;exact Ln)),hB,hP.low hs (λx hx=>by simp only[List.mem_singleton] at hx;subst hx;exact ko)⟩
 have hkl:k≤4096:=by omega
 have htc16:tc.length≤16:=by omega
 have htr16:tr.length≤16:=by omega
 have htc40:tc.length≤1099511627776:=by omega
 have htr40:tr.length≤1099511627776:=by omega
 have m3:cos.length+1≤1099511627776:=by omega
 have ki:rqs.length+1≤1099511627776:=by omega
 have hl3:pls.length+1≤1099511627776:=by omega
 have gt:H.heap.size≤Y.heap.size:=by omega
 refine Qc9 (α:=Value×Value×Value×Value×Value) [(55,74)] (λ_=>[]) (λz hR w'=>hR=ds∧Step (G::av) Y w'∧Q3 w'.heap G 77 [q.s.va,.int .i64 q.s.a.st,q.s.vm,q.s.ve,z.1,z.2.1,z.2.2.1,I]∧Ji H.heap.size w' z.1 z.2.1 z.2.2.1 I (cos++[(z.2.2.2.1,tc)]) (rqs++[(z.2.2.2.2,tr)]) (pls++[pi]) fbs) (by rfl) ?_ ?_
 ·refine Qhc (α:=Value×Value×Value×Value) (Step av Y) [(0,true),(1,true),(2,true),(6,true),(7,true),(8,true),(12,true),(13,true),(14,true)] [(3,false),(4,false),(5,false),(17,true),(9,false),(10,false),(11,false)] 15 70
   [(16,false),(18,false),(19,true),(20,false),(21,true),(22,false)] av [(55,74)] [(58,60),(64,66),(72,72)] (λz=>[(60,z.1),(66,z.2.1),(68,v3),(72,.pointer (some ⟨G,4,none⟩))]) (λz w'=>Step av Y w'∧Ji H.heap.size w' z.1 z.2.1 v3 I (cos++[(z.2.2.1,tc)]) (rqs++[(z.2.2.2,tr)]) pls fbs)
   (λv w'=>∃b,v=.slice (some ⟨b,0,none⟩) 1 1∧Q3 w'.heap b 3 [.int .i64 pi]) mixed (by rfl) (by rfl) (by kernel_rfl) (by rfl) O hC0 (λx hx=>L4 (gc x hx).2 hz712) ?_ ?_ ?_ ?_
  ·rintro v own w w' ⟨b,rfl,hB⟩ hs hn;exact ⟨b,O,hB.step hs (hn b (by simp[ow]))⟩
  ·rintro z w w' ⟨h1,h2⟩ hs;exact ⟨h1.trans hs,h2.ext hs⟩
  ·rintro ⟨hf,hg,hh,hj⟩ g wz v ⟨pu,hP⟩ _ ⟨b15,rfl,g7⟩;simp only[] at hP;have hcz:=pu.size;refine pk<|QU (news:=[.int .i64 pi]) (L:=[]) hP.o3 O O O (g7.at (by simp)) (by simp[Value.oneCell']) hl3 (LS gt hcz) λhq y1 g8 hG hn1=>?_;have Q1:=Ji.a3 (q:=pi) hP (Step.refl [] _) g8 hG hn1
   have k4:Step av Y y1:=pu.trans' (hG.mono (λb hb=>by rw[←gm];exact qa (.inr (.inr (.inl hb)))));refine ⟨k4,?_⟩;refine pkl (hl:=by kernel_rfl)<|QG (j:=4) (u:=hf) (h8.step k4 g3) O O (by simp) (QD Q1.o1) λy2 h6 k5=>p (λ_=>Qa rfl) <|
    pkl (hl:=by kernel_rfl)<|QG (j:=5) (u:=hg) k5 O O (by simp) (QD Q1.o2) λy3 h7 hB3'=>p (λ_=>Qa rfl) <|
    pkl (hl:=by kernel_rfl)<|QG (j:=6) (u:=hq) hB3' O O (by simp) (QD Q1.o3) λy4 hN hB4'=>pe ?_
   exact ⟨(hf,hg,hq,hh,hj),U,O,fin k4 Q1 ((h6.trans' h7).trans' hN) hB4'⟩
  refine p (λ_=>Qa O)<|pq (λ_ hc=>Qd (h8.step hc g3) O O)<|p (λ_=>Ql)<|p (λ_=>Qa O)<|pq (λ_ hc=>Qd (h8.step hc g3) O O)<|p (λ_=>Ql) <|
   p (λ_=>Qa O)<|pq (λ_ hc=>Qd (h8.step hc g3) O O)<|p (λ_=>Ql)<|pe ⟨λg wf hCf=>QC (us:=[[.int .i64 pi]]) O O (by decide) (by simp) ⟨rfl,rfl,U⟩ λb wf' pw hbf pz=>⟨pw,hCf.trans pw,⟨b,rfl,pz⟩,λx hx=>?_⟩,?_⟩
  ·have hxe:x=b:=by
    have hx':x∈[b]:=hx;simpa using hx'
   subst hxe;exact ⟨hbf,pz.lt⟩
  have p0:∀{X:LN},(∀x∈X,x∈ob v1∨x∈ob v2)→∀x∈X,x∈av:=λhX x hx=>by rw[←gm];exact qa ((hX x hx).imp id .inl)
  refine fk λx1 p1 c1=>xf<|(ZW (hJ.step c1 ku)).mono ?_;rintro hh y1 ⟨hG,g8⟩;have P1:=hS12d.ext p1;have pb1:=LS gt c1.size;refine ⟨c1.trans hG,av,hG.any,λb hb=>.inl hb,?_⟩;refine fk λx2 p2 c2=>QC (us:=[[hh]]) O O (by decide) (by simp) ⟨QZ g8,rfl,U⟩ λb2' y2 h6 hb2' k5=>⟨c2.trans h6,av,h6.any,λb hb=>.inl hb,?_⟩;refine fk λx3 p3 c3=>?_
  have p7:=((hG.trans p2).trans h6).trans p3;have p8:=Qm g8 ((p2.trans h6).trans p3);refine QU (news:=[hh]) (L:=[]) (Qm P1.o1 p7) O O O ((k5.ext p3).at (by simp)) (λu hu=>by rw[List.mem_singleton] at hu;subst hu;exact QD p8) m3 (LS gt c3.size) λhf y3 ho4 h7 hn3=>?_;have P2:=Ji.a1 (q:=(hh,tc)) P1 p7 p8 htc40 (Lr _) pb1 ho4 h7 hn3
  have p9:Step av x3 y3:=h7.mono (p0 λx hx=>.inl hx);refine ⟨c3.trans' p9,av,p9,λb hb=>.inl hb,?_⟩;refine fp (λ_=>Qa O) ?_;refine fk λx4 p4 c4=>xf<|(ZW (hw.step c4 ku)).mono ?_;rintro hj y4 ⟨hN,qb⟩;have P3:=P2.ext p4;have pb3:=LS gt c4.size;refine ⟨c4.trans hN,av,hN.any,λb hb=>.inl hb,?_⟩
  refine fk λx5 p5 c5=>QC (us:=[[hj]]) O O (by decide) (by simp) ⟨QZ qb,rfl,U⟩ λb5' y5 hZ hb5' hB5'=>⟨c5.trans hZ,av,hZ.any,λb hb=>.inl hb,?_⟩;refine fk λx6 p6 c6=>?_;have qc:=((hN.trans p5).trans hZ).trans p6;have qf:=Qm qb ((p5.trans hZ).trans p6)
  refine QU (news:=[hj]) (L:=[]) (Qm P3.o2 qc) O O O ((hB5'.ext p6).at (by simp)) (λu hu=>by rw[List.mem_singleton] at hu;subst hu;exact QD qf) ki (LS gt c6.size) λhg y6 ho7 gy hn6=>?_;have P4:=Ji.a2 (q:=(hj,tr)) P3 qc qf htr40 (Lr _) pb3 ho7 gy hn6;have k6:Step av x6 y6:=gy.mono (p0 λx hx=>.inr hx);refine ⟨c6.trans' k6,av,k6,λb hb=>.inl hb,?_⟩
  exact fe ⟨(hf,hg,hh,hj),⟨O,O,O,O,U⟩,c6.trans' k6,P4⟩
 rintro ⟨hf,hg,hq,hh,hj⟩ g hR k7 ⟨rfl,hK,qj,qk⟩;simp only[] at qj qk;have hz13:=hK.size;have ql:=(kz.ext gh).st hK;have hJ:=hJ.st hK;have hw:=hw.st hK;have g9:XB [] b k7.heap q:=ql.up (by simp);have hcell:∀x∈G::av,∃o:Obj,Y.heap[x]?=some o∧o.isCells=true:=λx hx=>by
  rcases Lc.1 hx with rfl | hx
  ·exact h8.cells
  rw[←gm] at hx;rcases jR hx with h1 | h1 | h1 | h1
  ·exact Go.Lg.QZ gs.o1 x h1
  ·exact Go.Lg.QZ gs.o2 x h1
  ·exact Go.Lg.QZ gs.o3 x h1
  exact Go.Lg.QZ gs.o4 x h1
 have hD13:Vv H.heap.size w7.heap.size hR k7:=((pa.up (Lr _)).ext hY).step hK hcell;have hl7:=pj.lt;have hz910:=ph.size;have hb7n:b7∉G::av:=λhm=>by
  rcases Lc.1 hm with h1 | h1
  ·omega
  have:=(gc _ h1).2;omega
 have hb1n:b1∉G::av:=λhm=>by
  rcases Lc.1 hm with h1 | h1
  ·omega
  have:=(gc _ h1).1;omega
 have ka:=((pj.ext pn).ext gh).step hK hb7n;have k8:=((m4.ext (h7.trans gl)).ext hY).step hK hb1n;have hs613:Step [G] H k7:=(kq.trans hY).then hK (λx hx=>by
  rcases Lc.1 hx with h1 | h1
  ·subst h1;exact .inl Ln
  exact .inr (gc x h1).1)
 have k9:(cos++[(hh,tc)]).map (·.2)=(T.take (k+1)).map (·.take q.c.co.length):=by rw[gq,Ls,Ls,gi,Mt,Mt,hU]
 have ma:(rqs++[(hj,tr)]).map (·.2)=(T.take (k+1)).map (·.drop q.c.co.length):=by rw[gq,Ls,Ls,gj,Mt,Mt,gr]
 have mc:pls++[pi]=(T.take (k+1)).map (λt=>plx (q.qs.map (·.2)) (t.take q.c.co.length)):=by rw[gq,Ls,gk,Mt,hU,k0]
 have hVc:Vt (auts q.c.cel.co) tc:=by
  have h1:=gg.take;rw[show (auts q.c.cel.co).length=q.c.co.length by unfold auts;rw[Lb];exact gb,hU] at h1;exact h1
 have hVr:Vt (auts q.c.cel.rq) tr:=by
  have h1:=gg.drop;rw[show (auts q.c.cel.co).length=q.c.co.length by unfold auts;rw[Lb];exact gb,gr] at h1;exact h1
 have gu:=jJ hQ.ok hQ.p;have hpr:=Qe9 gu.2.2.1 tc;rw[k0,←gu.2.1] at hpr;have hckp:cks q.p.a pi=0:=by
  unfold cks;rw[if_neg (by rw[(ZG q.p.a).2 gu.1];decide),if_neg (by omega)]
 have hvo:=Ua g9.k1 g9.k2 g9.k3 (hJ.up (L':=[]) (by simp)) (by rw[hQ.ex,hQ.cs];exact ga.cd) hVc.tpOk;have h4:rsn q.c.cel q.p.a pi k t.2=(match vio q.c.cel tc with | some (kd,j)=>some ⟨k,kd,j,-1⟩ | none=>match rfd q.c.cel tr (QdW q.p.a pi) with | some (j,v)=>some ⟨k,3,j,v⟩ | none=>none):=by unfold rsn;rw[gb,hU,gr];rfl
 rw[Qep] at h4;rw[hQ.ex,hQ.cs] at hvo;refine Zb (KR q.c.cel.ex q.c.cel.cs tc) λV hV=>?_;rw[hV] at hvo h4;refine Q0<|Q0<|QK (by rfl) (by rfl) ?_;refine Qb<|x (QH O)<|x (Qa O)<|x (Yv (us:=[q.vs,q.vx,q.vk]) g9.B O O O)<|Qb<|xl O<|xf<|hvo.mono ?_;rintro r14 mf ⟨hF,rfl⟩;refine Qb<|x (Qp O O)<|x (Qp O O)<|x (Qp O O)<|x (Qp O O)<|x Qh<|x Qh<|x Qh<|Qe ?_;have kb:=qj.ext hF
 have hM:=qk.ext hF;have qm:=hD13.ext hF;have qo:=hs613.trans hF;have hz14:=hF.size;have qq:fbs.length+1≤1099511627776:=by omega
 have hb014:H.heap.size≤mf.heap.size:=by omega
 have hz714:w7.heap.size≤mf.heap.size:=by omega
 refine Q0<|QK (by rfl) (by rfl) ?_;refine Qb<|xe<|KM rfl (λmg=>?_) (λmg=>?_)
 ·rw[if_pos mg] at h4;simp only[] at h4;rw[h4] at hr;refine Q0<|QK (by rfl) (by rfl) ?_;refine x (Qa O)<|x (Qd kb O O)<|x (Qd (ka.ext hF) O O)<|Qb<|Qb<|x (QF ⟨O,O,O,O,U⟩) <|
   xl rfl<|QC (us:=[ZA ⟨k,V.1,V.2.1,-1⟩]) O O (by decide) (by simp) ⟨rfl,rfl,U⟩ λb93 y1 hH hb93 mh=>?_
  have qr:=hH.size;refine xl O<|QU (m:=1) (news:=ZA ⟨k,V.1,V.2.1,-1⟩) (L:=[]) (Qm hM.o4 hH) O O O (mh.at (by simp)) (by simp[Value.oneCell']) qq (LS hb014 qr) λu4 y2 gv gw mj=>?_;have mo:G∉ob I:=λhm=>by have:=(Qk hM.o4 _ hm).1;omega
  refine x (Qa O)<|xl O<|QG (j:=7) (u:=u4) ((kb.ext hH).step gw mo) O O (by simp) (QD gv) λy3 mq mu=>xe ?_;have h5:=Ji.add (q:=⟨k,V.1,V.2.1,-1⟩) kb hM ko hH gv gw mj mq;refine J7<|⟨((hf,hg,hq,u4),cos++[(hh,tc)],rqs++[(hj,tr)],pls++[pi]),Z,qo.then h5.1 (λx hx=>?_),((qm.step h5.1 h5.2.2).up (LS hz714 h5.1.size)),mu,?_,k9,ma,mc⟩
  ·rcases Lc.1 hx with h1 | h1
   ·subst h1;exact .inl Ln
   exact .inr (Qk hM.o4 x h1).1
  simp only[];rw[hr];exact h5.2.1
 rw[if_neg (by rw[mg];decide)] at h4;simp only[] at h4;refine Ya ?_;have hA14:=ql.ext hF;have hw:=hw.ext hF;refine Q0<|QK (by rfl) (by rfl) ?_;refine Qb<|Qb<|Qb<|xl O<|xf<|(V1 (b:=b) (st:=pi) (vr:=po) hw.cells).mono ?_;rintro r15 kc ⟨hI,c1,c2,c3,rfl,hc1,hc2,hc3,hR1,hR2,hR3⟩;refine xe ?_;have hz15:=hI.size;have g7:=kb.ext hI;have q0:=hM.ext hI
 have q1:=qm.ext hI;have q2:=qo.trans hI;have hA15:=hA14.ext hI;have ka:=ka.ext (hF.trans hI);have k8:=k8.ext (hF.trans hI);have hw:=hw.ext hI;refine Zb (wrf q.c.cel.rq tr (enb q.p.a pi)) λfl ke=>?_;have q3:∀x∈G::ob I,x∈G::av:=λx hx=>by
  rcases Lc.1 hx with rfl | hx
  ·exact Ln
  exact Ll _ (by rw[←gm];exact qa (.inr (.inr (.inr hx))))
 have mv:∀x∈G::ob I,x<mf.heap.size:=λx hx=>by
  rcases Lc.1 hx with rfl | hx
  ·omega
  exact (Qk hM.o4 x hx).2
 have q4:XB (G::ob I) b kc.heap q:=hA15.up (λx hx=>.inl (q3 x hx));have hIr15:QL (G::ob I) kc.heap po tr:=hw.up (λx hx=>.inl (q3 x hx));have hEv:∀p∈fl,0≤p.1∧p.1<(q.c.ev.length:Int):=λp hp=>by
  rw[←ke] at hp;have h1:=(Um.1 hp).1;unfold enb at h1;obtain ⟨e,he,h2⟩:=Ly.1 h1;have h3:=gu.2.2.2 _ (gu.1.ed e (ZM he).1).2.2.1;rw[h2] at h3;exact h3
 refine ZE<|QaF (α:={ x:Int×Int // x∈fl }) (G::ob I) (by omega) (capt:=[.pointer (some ⟨c1,0,none⟩),.pointer (some ⟨c2,0,none⟩),.pointer (some ⟨c3,0,none⟩)]) O (encs:=λx=>[.int .i64 x.1.1,.int .i64 x.1.2]) (by decide) (λ_=>O)
  (KZ hR1 hR2 hR3 (λhm=>by have:=mv _ hm;omega) (λhm=>by have:=mv _ hm;omega) (λx hx=>by have:=mv _ hx;omega) q4 hIr15 (λx hx=>ga.rq x.it (LL hx)) hVr hckp O ke)
  (λpre W=>(∀y∈pre,(q.c.cel.ev.getD y.1.1.toNat ⟨.empty,false,false,false,0⟩).co=true)∧Step [] kc W) (λpre=>(ZY.pure _).and (ZY.step (Lr _)))
  (λe pre W=>e=.exit 2∧(∃p y,pre=p++[y]∧(∀y∈p,(q.c.cel.ev.getD y.1.1.toNat ⟨.empty,false,false,false,0⟩).co=true)∧(q.c.cel.ev.getD y.1.1.toNat ⟨.empty,false,false,false,0⟩).co=false ∧
   ∃u4,Step (G::ob I) kc W∧Q3 W.heap G 77 [q.s.va,.int .i64 q.s.a.st,q.s.vm,q.s.ve,hf,hg,hq,u4]∧Ji H.heap.size W hf hg hq u4 (cos++[(hh,tc)]) (rqs++[(hj,tr)]) (pls++[pi]) (fbs++[⟨k,3,y.1.2,y.1.1⟩])∧Vv H.heap.size w7.heap.size hR W))
  (λe pre=>(ZY.pure _).and (ZY.ex λp=>ZY.ex λy=>(ZY.pure _).and ((ZY.pure _).and ((ZY.pure _).and (ZY.ex λu4=>(ZY.step (Lr _)).and (ZY.blk.and ((ZY.cst λW W' h hc hz=>h.cst hc hz).and (Vv.stb (by omega)))))))))
  ⟨λy hy=>(by cases hy),Step.refl _ _⟩
  (λf x f' W=>f'=upd (upd (upd (upd f 100 (.int .i64 x.1.1)) 101 (.int .i64 x.1.2)) 16 (.int .i64 x.1.1)) 17 (.int .i64 x.1.2)) (λx f'=>ZY.pure _) ?_ ?_ ?_ ?_
 ·rintro l pre ⟨⟨e,i⟩,he⟩ W S;refine Q0<|QK (by rfl) (by rfl) ?_;refine Qe<|QK (by rfl) (by rfl) ?_;refine Qe ?_;exact ⟨O,JA.refl _ _ _,Lg.Xj.refl _ _,S,O⟩
 ·rintro l pre ⟨⟨e,i⟩,he⟩ f' W ⟨kf,S⟩ rfl _;have hee:=hEv _ he;simp only[] at hee;have hen:e=(e.toNat:Int):=by omega
  have kg:e.toNat<q.c.ev.length:=by omega
  have hAW:=q4.ext S;refine ZE<|Q0<|QK (by rfl) (by rfl) ?_;refine x (Qa O)<|x (Qd (k8.ext S) O O)<|Qb<|xig (g:=Zn) (i:=e.toNat) y7 hAW.c.ev.arr O (congrArg (Value.int .i64) hen) kg λa105 q5=>?_;have hge:q.c.cel.ev.getD e.toNat ⟨.empty,false,false,false,0⟩=q.c.ev[e.toNat]'kg:=by
   show q.c.ev.getD e.toNat _=_;simp[List.getD,kg]
  refine Zb (q.c.ev[e.toNat]'kg) λv hv=>?_;rw[hv] at q5 hge;refine x (Q4 O)<|x (Qu (q5.fld 1 (.bool v.co) O) O)<|x (Zm O)<|xe<|KM O (λmw=>?_) (λmw=>?_)
  ·have my:v.co=false:=by simpa using mw
   have hS:=q0.ext S;have hB:=g7.ext S;have ge:=S.size;refine Q0<|QK (by rfl) (by rfl) ?_;refine x (Qa O)<|x (Qd hB O O)<|x (Qd (ka.ext S) O O)<|Qb<|Qb<|x (QF ⟨O,O,O,O,U⟩) <|
    xl rfl<|QC (us:=[ZA ⟨k,3,i,e⟩]) O O (by decide) (by simp) ⟨rfl,rfl,U⟩ λb93 y1 hH hb93 mh=>?_
   have qr:=hH.size;refine xl O<|QU (m:=1) (news:=ZA ⟨k,3,i,e⟩) (L:=[]) (Qm hS.o4 hH) O O O (mh.at (by simp)) (by simp[Value.oneCell']) qq (by omega) λu4 y2 gv gw mj=>?_;have mo:G∉ob I:=λhm=>by have:=(Qk hM.o4 _ hm).1;omega
   refine x (Qa O)<|xl O<|QG (j:=7) (u:=u4) ((hB.ext hH).step gw mo) O O (by simp) (QD gv) λy3 mq mu=>xe ?_;have h5:=Ji.add (q:=⟨k,3,i,e⟩) hB hS ko hH gv gw mj mq;refine J7 ?_;exact ⟨JA.step h5.1 ge (λx hx=>⟨.inl hx,h5.2.2 x hx⟩),O,pre,_,O,kf,by simp only[];rw[hge];exact my,u4,S.any.trans' h5.1,mu,h5.2.1,(q1.ext S).step h5.1 h5.2.2⟩
  have my:v.co=true:=by simpa using mw
  refine Ya<|⟨JA.refl _ _ _,Lg.Xj.refl _ _,λy hy=>?_,S⟩;rcases Lj.1 hy with h1 | h1
  ·exact kf y h1
  simp only[List.mem_singleton] at h1;subst h1;simp only[];rw[hge];exact my
 ·rintro D xs W hD hxs ⟨kf,S⟩ mz;have m0:rfd q.c.cel tr (QdW q.p.a pi)=none:=UN λx hx=>by
   rw[show wrf q.c.cel.rq tr (QdW q.p.a pi)=fl from ke,←hxs] at hx;obtain ⟨y,hy,rfl⟩:=Ly.1 hx;exact kf y hy
  rw[m0] at h4;rw[h4] at hr;refine ⟨((hf,hg,hq,I),cos++[(hh,tc)],rqs++[(hj,tr)],pls++[pi]),Z,q2.trans S,(q1.ext S).cons (by omega) (by omega) mz,g7.ext S,?_,k9,ma,mc⟩;simp only[];rw[hr];have h9:=q0.ext S;simpa using h9
 rintro D e pre W hD hSp ⟨rfl,p,y,rfl,hp,hy,u4,hst,hBu,hSu,hDu⟩ mz _;have m0:rfd q.c.cel tr (QdW q.p.a pi)=some (y.1.2,y.1.1):=by
  obtain ⟨rs,za⟩:=hSp;rw[Ls] at za;refine UM (x:=y.1) (t:=rs) (p:=p.map (·.1)) ?_ (λz hz=>?_) hy
  ·exact (show wrf q.c.cel.rq tr (QdW q.p.a pi)=fl from ke).trans (za.symm.trans (by simp))
  obtain ⟨z',hz',rfl⟩:=Ly.1 hz;exact hp z' hz'
 rw[m0] at h4;simp only[] at h4;rw[h4] at hr;refine ⟨((hf,hg,hq,u4),cos++[(hh,tc)],rqs++[(hj,tr)],pls++[pi]),Z,q2.then hst (λx hx=>?_),hDu.cons (by omega) (by omega) mz,hBu,?_,k9,ma,mc⟩
 ·rcases Lc.1 hx with h1 | h1
  ·subst h1;exact .inl Ln
  exact .inr (Qk hM.o4 x h1).1
 simp only[];rw[hr];exact hSu
end Go.Proofs.YtdffckgdcegpaaaGreatDoor
namespace Go.Lg
theorem At.from {L:LN}{H:Array Obj}{a:Addr}{us:LV}(h:At L H a us) (j:Nat):At L H (a.add j) (us.drop j) :=
 ⟨λu hu=>by rw[Z2];exact h.out u (Mz hu),λu hu=>by rw[Z2];exact h.lt u (Mz hu),λi v E=>by
  rw[Addr.add_add];exact h.cell (j+i) v (by rw[←MH];exact E)⟩
end Go.Lg
namespace Go.Proofs.YtdffckgdcegpaaaGreatDoor
open Go.Proofs.Tryz
open Go.Lg
def lwB (l:LI) (n:Int):Nat:=(l.filter λx=>decide (x<n)).length
theorem Qkm {l:LI}{n:Int}{i:Nat}(_:Yd l) (hi:i≤l.length) (h1:∀m (hm:m<l.length),m<i→l[m]<n) (h2:∀m (hm:m<l.length),i≤m→n≤l[m]):lwB l n=i:=by
 unfold lwB;have e1:(l.take i).filter (λx=>decide (x<n))=l.take i:=Nl.2 λx hx=>by
  obtain ⟨m,hm,rfl⟩:=LE hx;rw[MY];have E:m<i∧m<l.length:=by rw[Lx] at hm;omega
  exact decide_eq_true (h1 m E.2 E.1)
 have e2:(l.drop i).filter (λx=>decide (x<n))=[]:=Na.2 λx hx=>by
  obtain ⟨m,hm,rfl⟩:=LE hx;rw[List.getElem_drop];have E:i+m<l.length:=by rw[L7] at hm;omega
  have:=h2 (i+m) E (by omega);simp;omega
 have G:l.filter (λx=>decide (x<n))=l.take i:=by
  conv=>lhs;rw[←Mv i l]
  rw[L3,e1,e2,LH]
 rw[G,Lx];omega
theorem Qcq:∀{l:LI}{n:Int},Yd l→n∈l→lwB l n=l.idxOf n
 | [],_,_,h=>by cases h
 | a::l,n,hi,h=>by
  have E:=LG.1 hi;unfold lwB;by_cases e:a=n
  ·subst e;have e2:l.filter (λx=>decide (x<a))=[]:=Na.2 λx hx=>by have:=E.1 x hx;simp;omega
   rw[MD,if_neg (by simp),e2];simp
  have hm:n∈l:=by
   rcases Lc.1 h with h1 | h1
   ·exact absurd h1.symm e
   exact h1
  have ih:=Qcq E.2 hm;unfold lwB at ih;have ha:=E.1 n hm;rw[MD,if_pos (decide_eq_true ha),LM,ih,List.idxOf_cons];have:(a == n)=false:=by simpa using e
  rw[this];rfl
theorem Qay {L:LN}{w:World}{v:Value}{l:LI}(h:QL L w.heap v l) (hi:Yd l) (n:Int) :
  QJ prog 84 [v,.int .i64 n] w λr w'=>w'=w∧r=.tuple #[.int .i64 (lwB l n),.bool (decide (n∈l))]:=by
 have hv:=h.le;refine QJ.of_W func84 O ntmps84 results84 (by simp) ?_;refine Qc<|x Qh<|Qe<|Qc<|Qb<|x (Qq h O)<|Qe<|Qc<|Qb<|x Qh<|Qe<|Qf<|Qg<|Qy (α:=Nat×Nat) [(7,9),(13,30)] (λz=>[(7,.int .i64 z.1),(8,.int .i64 z.2)])
  (λz w'=>w'=w∧z.1≤z.2∧z.2≤l.length∧(∀m (hm:m<l.length),m<z.1→l[m]<n)∧(∀m (hm:m<l.length),z.2≤m→n≤l[m])) (λz=>z.2 - z.1) (by rfl) (0,l.length) ⟨O,O,U⟩
  ⟨O,Lk _,Lr _,λm _ J=>absurd J (Nw m),λm h1 J=>absurd h1 (by simp only[] at J;omega)⟩ ?_
 rintro ⟨i,j⟩ g w1 ⟨rfl,hc,V,E,G⟩;simp only[] at hc V E G;refine Qf<|Qc<|Qb<|Qb<|x (QA O O)<|xe<|QE rfl (λhe=>?_) (λhe=>?_)
 ·have e:i=j:=by omega
  subst e;refine Qw<|QW (α:=Bool) [(4,5),(31,53)] (λz=>[(4,.int .i64 i),(5,.bool z)]) (λz w'=>w'=w1∧z=decide (n∈l)) (by rfl) ?_ ?_
  ·refine Qx<|Qb<|Qb<|Qb<|xb (QA O O) (λhf=>?_) (λhf=>?_)
   ·have H:i<l.length:=by omega
    refine Qb<|Qb<|Qb<|xii h O O H λhw hg=>x (Qu hg O)<|Qb<|xb (Q8 O O) (λS=>?_) (λS=>?_)
    ·refine Qb<|xs O<|xs O<|xs O<|xs O<|xs O<|xs O<|xs O<|xs O<|xs O<|x (Qo O)<|x (Qo O)<|x Qh<|Qe ?_;have:n∈l:=by rw[←S];exact Lh H
     exact ⟨true,⟨O,O,U⟩,O,by simp[this]⟩
    refine Qb<|Qb<|Qb<|xii h O O H λhy hl=>x (Qu hl O)<|xl O<|xf<|(j0 _).mono ?_;rintro r3 w3 ⟨rfl,rfl⟩;refine Qb<|xs O<|xs O<|x (Qo O)<|x (Qo O)<|x (Qo O)<|x Qh<|Qe<|⟨false,⟨O,O,U⟩,O,?_⟩;have:n∉l:=by
     intro hm;obtain ⟨m,I,Y⟩:=LE hm;by_cases hn:m<i
     ·have:=E m I hn;omega
     by_cases ho:m=i
     ·subst ho;exact S Y
     have:=Yd.get hi I (show i<m by omega);have:=G i H (Lr _);omega
    simp[this]
   refine Qb<|xs O<|xs O<|xs O<|xs O<|xs O<|xs O<|xs O<|xs O<|xs O<|xs O<|xs O<|xs O<|xs O<|xs O<|xs O<|xs O<|xs O <|
    x (Qo rfl)<|x Qh<|Qe<|⟨false,⟨O,O,U⟩,O,?_⟩
   have:n∉l:=by
    intro hm;obtain ⟨m,I,Y⟩:=LE hm;have:=E m I (by omega);omega
   simp[this]
  rintro z g w7 ⟨rfl,rfl⟩;exact Qn ⟨[.int .i64 i,.bool (decide (n∈l))],⟨O,O,U⟩,O,by rw[Qkm hi (show i≤l.length by omega) E G];rfl⟩
 have hz:i<j:=by omega
 refine Qi<|Qg<|Qc<|Qb<|Qb<|QN O O<|x (ZL O (by exact ⟨by omega,by omega⟩))<|x (zp (n:=1) O O (by decide))<|x (ZL O (by exact ⟨by omega,by omega⟩))<|Qe ?_;have hh:(((i:Int)+(j:Int)) / 2 ^ 1)=(((i+j) / 2:Nat):Int):=by omega
 rw[hh];generalize hq:(i+j) / 2=q;have hp:i≤q:=by omega
 have hr:q<j:=by omega
 have ha:q<l.length:=by omega
 refine Qc<|Qb<|Qb<|xii h O O ha λh2 hs=>x (Qu hs O)<|Qb<|xl O<|xf<|(Qct _ _).mono ?_;rintro r8 w8 ⟨rfl,rfl⟩;refine xe<|QE rfl (λhb=>?_) (λhb=>?_)
 ·refine Qx<|Qb<|Qe<|⟨(i,q),by simp only[];omega,⟨O,O,U⟩,O,hp,by omega,E,λm hm ht=>?_⟩;by_cases e:q=m
  ·subst e;omega
  have:=Yd.get hi hm (show q<m by simp only[] at ht;omega);omega
 refine Qx<|Qb<|QN O O<|Qe<|⟨(q+1,j),by simp only[];omega,⟨O,O,U⟩,O,hr,V,λm hm hu=>?_,G⟩;by_cases e:m=q
 ·subst e;exact hb
 have:=Yd.get hi ha (show m<q by simp only[] at hu;omega);omega
theorem KB {L:LN}{w:World}{v:Value}{l:List Ed}(h:Zo L w.heap v l.length 3 (l.flatMap Qz)) :
  QJ prog 67 [v] w λr w'=>Step [] w w'∧w'.ownsRow w.heap.size 144 3 r l.length (l.flatMap Qz):=by
 have hb:=h.le;refine QJ.of_W func67 O ntmps67 results67 (by simp) ?_;refine Qc<|Qe ?_;obtain ⟨ao,cap,E⟩:=h.shape;refine Qf<|Qc<|Qb<|x (K2 (show ev _ _=_ from E) O)<|xe<|Q2 rfl (λG=>?_) (λG=>?_)
 ·refine Qc<|Qe<|Qn ⟨[nS],Z,Step.refl _ _,?_⟩;rcases h.2.2 with ⟨h1,h2⟩ | ⟨a,c,h1,_⟩
  ·have:l=[]:=Lo h2;subst this;exact QO _ _ _ _
  rw[h1] at E;cases E;cases G
 rcases h.2.2 with ⟨h1,h2⟩ | ⟨a,c,h1,h2,h3⟩
 ·rw[h1] at E;injection E with e1;subst e1;cases G
 refine Qi<|Qc ?_;have S:∀u∈l.flatMap Qz,u.oneCell'=true:=by
  intro u hu;obtain ⟨p,_,hp⟩:=ME.1 hu;simp only[Qz,List.mem_cons,List.not_mem_nil,or_false] at hp;rcases hp with rfl | rfl | rfl <;> rfl
 refine xl rfl<|Kw λb5 w1 H I J=>Qb<|xl O<|QU (base:=w.heap.size) (J.own (n:=0) (sz:=3) O (by omega) I) O (show ev _ _=_ from h1) h.1 (h3.ext H) S (by omega) (by have:=J.lt;omega) λV w2 Y ha hc=>Qe<|Qn ⟨[V],Z,H.then1 ha I,?_⟩;simpa[tup] using Y
theorem Qbz {L:LN}{w:World}{v:Value}{l:List Km}(h:Zo L w.heap v l.length 5 (l.flatMap Zn)) :
  QJ prog 81 [v] w λr w'=>Step [] w w'∧w'.ownsRow w.heap.size 87 5 r l.length (l.flatMap Zn):=by
 have hb:=h.le;refine QJ.of_W func81 O ntmps81 results81 (by simp) ?_;refine Qc<|Qe ?_;obtain ⟨ao,cap,E⟩:=h.shape;refine Qf<|Qc<|Qb<|x (K2 (show ev _ _=_ from E) O)<|xe<|Q2 rfl (λG=>?_) (λG=>?_)
 ·refine Qc<|Qe<|Qn ⟨[nS],Z,Step.refl _ _,?_⟩;rcases h.2.2 with ⟨h1,h2⟩ | ⟨a,c,h1,_⟩
  ·have:l=[]:=Lo h2;subst this;exact QO _ _ _ _
  rw[h1] at E;cases E;cases G
 rcases h.2.2 with ⟨h1,h2⟩ | ⟨a,c,h1,h2,h3⟩
 ·rw[h1] at E;injection E with e1;subst e1;cases G
 refine Qi<|Qc ?_;have S:∀u∈l.flatMap Zn,u.oneCell'=true:=by
  intro u hu;obtain ⟨p,_,hp⟩:=ME.1 hu;simp only[Zn,List.mem_cons,List.not_mem_nil,or_false] at hp;rcases hp with rfl | rfl | rfl | rfl | rfl <;> rfl
 refine xl rfl<|Kw λb5 w1 H I J=>Qb<|xl O<|QU (base:=w.heap.size) (J.own (n:=0) (sz:=5) O (by omega) I) O (show ev _ _=_ from h1) h.1 (h3.ext H) S (by omega) (by have:=J.lt;omega) λV w2 Y ha hc=>Qe<|Qn ⟨[V],Z,H.then1 ha I,?_⟩;simpa[tup] using Y
structure Y3 {α:Type}(g:α→LV) (sz T:Nat) (ps:α→List (Value×Nat×Nat×LV)) (base:Nat) (w:World) (v:Value) (l:List α):Prop where
 own:w.ownsRow base T sz v l.length (l.flatMap g)
 each:∀q∈l,∀t∈ps q,ZC base (ob v) w.heap t.1 t.2.1 t.2.2.1 t.2.2.2
section
variable {α:Type} {g:α→LV} {sz T:Nat} {ps:α→List (Value×Nat×Nat×LV)} {base:Nat} {w w':World} {v:Value} {l:List α}
theorem Y3.nil:Y3 g sz T ps base w (nS) []:=⟨QO _ _ _ _,λq hq=>by cases hq⟩
theorem Y3.ext (h:Y3 g sz T ps base w v l) (E:Step [] w w'):Y3 g sz T ps base w' v l:=⟨Qm h.own E,λq hq t G=>(h.each q hq t G).ext E⟩
theorem Y3.low {X:LN}(h:Y3 g sz T ps base w v l) (E:Step X w w') (G:∀b∈X,b<base):Y3 g sz T ps base w' v l :=
 ⟨Qj h.own E (λb hb hm=>by have:=(Qk h.own b hb).1;have:=G b hm;omega),λq hq t H=>(h.each q hq t H).low E G⟩
theorem Y3.app {E G:World}{H:Value}{q:α}(h:Y3 g sz T ps base w v l) (V:Step [] w E)
  (hq:∀t∈ps q,∃N e,E.ownsRow N e t.2.2.1 t.1 t.2.1 t.2.2.2∧t.2.1≤1099511627776∧w.heap.size≤N) (hb:base≤w.heap.size)
  (Y:G.ownsRow base T sz H (l.length+1) (l.flatMap g++g q)) (I:Step (ob v) E G) (J:∀b∈ob H,b∈ob v∨E.heap.size≤b):Y3 g sz T ps base G H (l++[q]):=by
 have ha:=QP h.own;refine ⟨?_,λd hd t S=>?_⟩
 ·rw[Li,Lz];simpa using Y
 rcases Lj.1 hd with hd | hd
 ·exact ((h.each d hd t S).ext V).app I J
 simp only[List.mem_singleton] at hd;subst hd;obtain ⟨N,e,h1,h2,h3⟩:=hq t S;exact (ZC.of_own h1 h2 (by omega) (λb hb=>by have:=ha b hb;omega)).app I J
end
abbrev QdH (q:IV):List (Value×Nat×Nat×LV):=[(q.p.va,q.p.a.al.length,1,q.p.a.al.map (.int .i64)),(q.p.vm,q.p.a.mr.length,1,q.p.a.mr.map (.int .i64)),(q.p.ve,q.p.a.ed.length,3,q.p.a.ed.flatMap Qz)]
abbrev IvP (base:Nat) (w:World) (v:Value) (l:List IV):Prop:=Y3 Zf 5 66 QdH base w v l
def QmR (N:Nat) (H:Array Obj) (v:Value) (l:List YH):Prop:=∃qs:List IV,qs.map IV.it=l∧∀L:LN,(∀b∈L,b<N)→Y6 L H v qs
theorem IvP.itms {base:Nat}{w:World}{v:Value}{l:List IV}{L:LN}(h:IvP base w v l) (G:l.length≤1099511627776) (hm:∀q∈l,Ue q.nm) (E:∀b∈L,b<base):Y6 L w.heap v l :=
 ⟨QR h.own G (λb hb H=>by have:=(Qk h.own b hb).1;have:=E b H;omega),λq hq=>⟨h.each q hq (q.p.va,q.p.a.al.length,1,q.p.a.al.map (.int .i64)) (by simp) L (λb hb=>.inl (E b hb)),h.each q hq (q.p.vm,q.p.a.mr.length,1,q.p.a.mr.map (.int .i64)) (by simp) L (λb hb=>.inl (E b hb)),h.each q hq (q.p.ve,q.p.a.ed.length,3,q.p.a.ed.flatMap Qz) (by simp) L (λb hb=>.inl (E b hb))⟩,hm⟩
instance:Bw prog 66 [.string .empty,nS,.int .i64 0,nS,nS] [(0,1),(1,4)]:=⟨by kernel_rfl,by decide⟩
set_option maxHeartbeats 4000000 in
theorem qz {L:LN}{w:World}{v vi:Value}{qs:List IV}{ix:LI}(h0:Y6 L w.heap v qs) (hD:QL L w.heap vi ix) (hb:∀i∈ix,0≤i∧i<(qs.length:Int)) :
  QJ prog 82 [v,vi] w λr w'=>Step [] w w'∧QmR w.heap.size w'.heap r (chs (qs.map IV.it) ix)∧r.oneCell'=true:=by
 have h:Y6 [] w.heap v qs:=h0.up (by simp);have hi:QL [] w.heap vi ix:=hD.up (by simp);have hS:=hi.le;refine QJ.of_W func82 O ntmps82 results82 (by simp) ?_;refine Qc<|Qe<|Qc<|Qe<|Qf<|Qc<|Qb<|x (Qq hi O)<|Qb<|xe ?_
 refine Qg<|Qy (α:=Nat×Value×List IV) [(5,5),(7,8),(11,41)] (λz=>[(5,z.2.1),(11,.int .i64 z.1)]) (λz w'=>z.1≤ix.length∧Step [] w w'∧IvP w.heap.size w' z.2.1 z.2.2∧z.2.2.map IV.it=chs (qs.map IV.it) (ix.take z.1)∧∀q∈z.2.2,Ue q.nm) (λz=>ix.length - z.1) (by rfl) (0,nS,[]) ⟨O,O,U⟩
  ⟨Lk _,Step.refl _ _,Y3.nil,O,λq hq=>by cases hq⟩ ?_
 rintro ⟨k,vo,qo⟩ g w1 ⟨hk,H,I,hf,hp⟩;simp only[] at hk I hf hp;have hT:qo.length=k:=by have:=congrArg List.length hf;unfold chs at this;rw[Lb,Lb,Lx] at this;omega
 refine Qc<|x (QA O O)<|xe<|Qf<|QE O (λhr=>?_) (λhr=>?_)
 ·refine Qw ?_;have hE:ix.length≤k:=by have hh:¬(k:Int)<(ix.length:Int):=hr;omega
  rw[Lm hE] at hf;refine Qc<|Qb<|Qe ?_;exact Qn ⟨[_],Z,H,⟨qo,hf,λL hL=>I.itms (by omega) hp hL⟩,QD I.own⟩
 refine Qi ?_;have J:k<ix.length:=by have hh:(k:Int)<(ix.length:Int):=hr;omega
 have hik:=hb _ (Lh J);have h6:ix.take (k+1)=ix.take k++[ix[k]'J]:=Le J;refine Zb (ix[k]'J) λi h7=>?_;rw[h7] at hik h6;have h8:i=(i.toNat:Int):=by omega
 have S:i.toNat<qs.length:=by omega
 have hA:chs (qs.map IV.it) (ix.take (k+1))=chs (qs.map IV.it) (ix.take k)++[(qs[i.toNat]'S).it]:=by
  rw[h6];unfold chs;rw[Ls];simp[List.getD,S]
 have h1:=h.ext H;have hs:=Lh S;refine Zb (qs[i.toNat]'S) λq hq=>?_;rw[hq] at hA hs;have G:=h1.each q hs;have hF:=h1.nm q hs;refine Qf<|Qg<|Qc<|xii (i:=k) (hi.ext H) O O J λhU hh=>?_;rw[h7] at hh;refine x (Qu hh O)<|Qe<|Qc<|Qb<|Qb<|xig (g:=Zf) (i:=i.toNat) YK h1.arr O (congrArg (Value.int .i64) h8) S λhV hB=>?_;rw[hq] at hB
 refine x (Q4 O)<|x (QI (us:=[q.p.va,.int .i64 q.p.a.st,q.p.vm,q.p.ve]) (hB.from 1) O O)<|xl O<|Qv (us:=[nS,.int .i64 0,nS,nS]) O λb8 w2 hG hH V =>
  xl rfl<|Qr (us:=[q.p.va,.int .i64 q.p.a.st,q.p.vm,q.p.ve]) V O O O O ⟨G.al.one,O,G.mr.one,G.ed.one,U⟩ λE hI V=>xe ?_
 have hj:Step [] w1 E:=hG.then1 hI hH;have Y:Step [] E { E with drawn:=E.drawn+1 }:=Step.drew _ _
 have hW:=hj.size;have hX:=H.size;have hv:=Qk I.own;have h3:Y6 (ob vo) E.heap v qs:=(h.up (L':=ob vo) (λb hb=>.inr (hv b hb).1)).ext (H.trans hj);have hl:b8∉ob vo:=λhm=>by have:=(hv b8 hm).2;omega
 have hw:=G.ext hj;refine QS (Step (ob vo) E) [(0,true),(1,true),(2,true),(3,true),(4,true),(5,true),(6,true),(7,true),(9,true),(10,true),(11,true),(12,true),(14,true),(15,true),(8,false),(13,false),(16,false),(17,true),(18,true),(19,false),(20,false),(21,true)] mixed (by rfl) (by kernel_rfl) (Step.drew _ _) ?_
 refine p (λ_=>Ql)<|p (λ_=>Ql)<|p (λ_=>Ql)<|Go.Lg.pig (g:=Zf) (i:=i.toNat) O YK h3.arr O (congrArg (Value.int .i64) h8) S λhY hC=>?_;rw[hq] at hC;refine p (λ_=>Q4 O)<|pq (λ_ hc=>Qu ((hC.fld 0 (.string q.nm) O).st hc) O)<|p (λ_=>Qa O)<|pq (λ_ hc=>Qd (V.step hc hl) O O)<|p (λ_=>Qa O) <|
  pq (λ_ hc=>Qd (V.step hc hl) O O)<|p (λ_=>Qa O)<|pq (λ_ hc=>Qd (V.step hc hl) O O) <|
  p (λ_=>Qa O)<|pq (λ_ hc=>Qd (V.step hc hl) O O)<|pk<|xf<|(ZW (hw.al.ext Y)).mono ?_
 rintro r4 w4 ⟨ha,hy⟩;refine ⟨(Y.trans ha).any,?_⟩;refine pk<|xf<|(ZW ((hw.mr.ext Y).ext ha)).mono ?_;rintro r5 w5 ⟨hg,hz⟩;refine ⟨((Y.trans ha).trans hg).any,?_⟩;refine pk<|xf<|(KB (((hw.ed.ext Y).ext ha).ext hg)).mono ?_;rintro r6 w6 ⟨h2,h4⟩;have hn:=((Y.trans ha).trans hg).trans h2;refine ⟨hn.any,?_⟩
 refine p (λ_=>QF ⟨QZ hy,O,QZ hz,QZ h4,U⟩)<|p (λ_=>ZV [(0,[.string q.nm]),(1,[r4,.int .i64 q.p.a.st,r5,r6])] ⟨O,O,O,O,U⟩)<|pk<|QC (us:=[Zf ⟨q.nm,⟨r4,r5,r6,q.p.a⟩⟩]) O O (by decide) (by simp) ⟨rfl,rfl,U⟩ λhZ w7 he ga hJ=>⟨(hn.trans he).any,?_⟩;have ho:=(hj.trans hn).trans he;have gb:=ho.size;have gc:({ E with drawn:=E.drawn+1 }:World).heap.size=E.heap.size:=rfl
 have ge:=ha.size;have gg:=hg.size;refine pk<|QU (m:=1) (news:=Zf ⟨q.nm,⟨r4,r5,r6,q.p.a⟩⟩) (L:=[]) (Qm I.own ho) O O O (hJ.at (by simp)) (λu hu=>by
   simp only[List.mem_cons,List.not_mem_nil,or_false] at hu;rcases hu with rfl | rfl | rfl | rfl | rfl
   ·rfl
   ·exact QD hy
   ·rfl
   ·exact QD hz
   exact QD h4) (by omega) (by omega) λv8 w8 hK h5 hM=>⟨(hn.trans he).any.trans' h5,?_⟩
 refine p (λ_=>Qh)<|pe ?_;have hN:=G.al.le;have hO:=G.mr.le;have hP:=G.ed.le;have hQ:IvP w.heap.size w8 v8 (qo++[⟨q.nm,⟨r4,r5,r6,q.p.a⟩⟩]):=I.app ho (λt ht=>by
  simp only[List.mem_cons,List.not_mem_nil,or_false] at ht;rcases ht with rfl | rfl | rfl
  ·exact ⟨_,_,Qm (Qm (Qm hy hg) h2) he,hN,by omega⟩
  ·exact ⟨_,_,Qm (Qm hz h2) he,hO,by omega⟩
  exact ⟨_,_,Qm h4 he,hP,by omega⟩) (by omega) hK h5 hM
 refine Qx<|QN O O<|Qb<|xe<|⟨(k+1,v8,_),by simp only[];omega,⟨O,O,U⟩,J,(H.trans ho).then h5 (λb hb=>.inr (hv b hb).1),hQ,?_,λq' hR=>?_⟩
 ·simp only[];rw[hA,Ls,hf];rfl
 rcases Lj.1 hR with h9 | h9
 ·exact hp q' h9
 simp only[List.mem_singleton] at h9;subst h9;exact hF
theorem zm {L:LN}{w:World}{bp bm:Nat}{G H I J:Value}{co:LI}{mi:Bool}(S:Q3 w.heap bp 95 [G,H,I,J]) (hm:Q3 w.heap bm 4 [.bool mi]) (V:QL L w.heap G co) (hi:Yd co) (n:Int) :
  QJ prog 83 [.int .i64 n,.pointer (some ⟨bp,0,none⟩),.pointer (some ⟨bm,0,none⟩)] w λr w'=>Step [bm] w w'∧r=.int .i64 (lwB co n)∧Q3 w'.heap bm 4 [.bool (mi || !decide (n∈co))]:=by
 refine QJ.of_W func83 O ntmps83 results83 (by simp) ?_;refine Qc<|Qe<|Qc<|x (Qa O)<|x (Qd S O O)<|Qb<|xl O<|xf<|(Qay V hi n).mono ?_;rintro r1 Y ⟨rfl,rfl⟩;refine Qb<|x (Qp O O)<|x (Qp O O)<|x Qh<|Qe<|QW (α:=Bool) [(14,18)] (λz=>[]) (λz w'=>Step [bm] Y w'∧Q3 w'.heap bm 4 [.bool (mi || !decide (n∈co))]) (by rfl) ?_ ?_
 ·refine Qx<|xB (Qd hm O O) (λE=>?_) (λE=>?_)
  ·refine Qb<|xs O<|xs O<|x (Qo O)<|xl O<|QG (j:=0) (u:=.bool true) hm O O (by simp) rfl λw2 ha hb=>xe ?_;exact ⟨true,U,ha,by rw[E];exact hb⟩
  refine Qb<|Qb<|x (Zm O)<|x (Qo O)<|xl O<|QG (j:=0) (u:=.bool (!decide (n∈co))) hm O O (by simp) rfl λw3 hc he=>xe ?_;exact ⟨true,U,hc,by rw[E];exact he⟩
 rintro z g w4 ⟨hf,hg⟩;refine Qc<|Qb<|Qe ?_;exact Qn ⟨[_],Z,hf,O,hg⟩
theorem ZC.of_lt {base N:Nat}{av:LN}{H:Array Obj}{v:Value}{n sz:Nat}{cs:LV}(h:∀L:LN,(∀b∈L,b<N)→Zo L H v n sz cs) (hb:base≤N) (E:∀b∈av,b<N):ZC base av H v n sz cs:=λL G =>
 h L (λb I=>(G b I).elim (λh=>by omega) (E b))
theorem Jl (L:LN) (H:Array Obj):QL L H (nS) []:=Zo.nil L H 1
end Go.Proofs.YtdffckgdcegpaaaGreatDoor
namespace Go.Lg
open Go.RowKit
def qC (P:Program) (all:List Oper) (C:World→Prop) (K:LN→Fr→World→Prop):List (Nat×Bool)→LN→Fr→World→Prop
 | [],own,f,w=>K own f w
 | (j,true)::l,own,f,w=>Yc all f (Q6 all j)=true∧∃v,(∀w',(qM (Q6 all j)=true→C w')→(execOp (ev f) (Q6 all j)).run P w'=.ok (.value v) w')∧qC P all C K l own (QX f (Q6 all j).dst v) w
 | (j,false)::l,own,f,w=>Yc all f (Q6 all j)=true∧∀w1,Step [] w w1→C w1→XO P (Q6 all j) f w1 λE w'=>C w'∧∃own',Step own w1 w'∧(∀b∈own',b∈own∨(w1.heap.size≤b∧b<w'.heap.size))∧qC P all C K l own' E w'
section
variable {P:Program} {n:Nat} {f:Fr} {w:World} {all:List Oper} {C:World→Prop} {K:Fr→World→Prop} {KF:LN→Fr→World→Prop}
theorem qC.ext (G:∀own f w w',KF own f w→Step [] w w'→KF own f w'):∀{l:List (Nat×Bool)}{own:LN}{f:Fr}{w w':World},qC P all C KF l own f w→Step [] w w'→qC P all C KF l own f w'
 | [],_,_,_,_,h,E=>G _ _ _ _ h E
 | (_,true)::_,_,_,_,_,h,E=>by
  obtain ⟨H,v,I,hx⟩:=h;exact ⟨H,v,I,qC.ext G hx E⟩
 | (_,false)::_,_,_,_,_,h,E=>⟨h.1,λJ h1 hc=>h.2 J (E.trans h1) hc⟩
structure Fl2 (P:Program) (all:List Oper) (C:World→Prop) (K:Fr→World→Prop) (KF:LN→Fr→World→Prop) (i d:Nat) (rest:List (Nat×Bool)) (Φ:Value→World→Prop) (Dc:List (Nat×Nat)) (f1:Fr):Prop where
 stab:∀v (own:LN) w w',Φ v w→Step own w w'→(∀b∈ow v,b∉own)→Φ v w'
 spec:∀f w,(∀t,Xo Dc t=false→f t=f1 t)→C w→XO P (Q6 all i) f w λf' w'=>Step [] w w'∧C w'∧Φ (f' d) w'∧∀b∈ow (f' d),w.heap.size≤b∧b<w'.heap.size
 fin:∀own f w,KF own f w→∀v,C w→Φ v w→(∀b∈ow v,b∉own∧b<w.heap.size)→XP P all C K rest (QX f (some d) v) w
 mono:∀own f w w',KF own f w→Step [] w w'→KF own f w'
attribute [local semireducible] XP in
theorem VW {i d:Nat}{rest:List (Nat×Bool)}{Φ:Value→World→Prop}{Dc:List (Nat×Nat)}{f1:Fr}(G:Fl2 P all C K KF i d rest Φ Dc f1) (J:Region.noSelect all.toArray=true) {v:Value}:∀(l:List (Nat×Bool)) (own:LN) (f:Fr) (w:World),Z8 all d l=true→qC P all C KF l own f w→C w→Φ v w →
  (∀b∈ow v,b∉own∧b<w.heap.size)→XP P all C K (l++rest) (QX f (some d) v) w
 | [],own,f,w,_,h,H,I,hb=>G.fin own f w h v H I hb
 | (j,q)::l,own,f,w,hfr,h,H,I,hb=>by
  simp only[Z8,List.all_cons,Bool.and_eq_true,Bool.not_eq_true',List.contains_eq_mem,decide_eq_false_iff_not,beq_eq_false_iff_ne,ne_eq] at hfr;obtain ⟨⟨h1,h2⟩,hfr⟩:=hfr;have S:Z8 all d l=true:=by simpa[Z8] using hfr
  have V:∀cs b,(Q6 all j).op≠.select cs b:=by
   intro cs b;cases T:all[j]? with
   | none =>
    have:Q6 all j=default:=by
     clear h h1 h2 hfr S;have key:∀(l:List Oper) (j:Nat),l[j]?=none→Q6 l j=default:=by
      intro l;induction l with
      | nil=>intro j _;rfl
      | cons a l ih=>intro j Y;cases j with | zero=>simp at Y | succ j=>exact ih j (by simpa using Y)
     exact key all j T
    rw[this];intro e;cases e
   | some o=>rw[Zp T];exact Region.noSelect_spec J j o cs b (by simpa using T)
  have hd:∀e,some d=some e→e∉(Q6 all j).looksAt all.toArray:=λe he=>by cases he;exact h1
  cases q with
  | true =>
   obtain ⟨hg,u,hu,hx⟩:=h;simp only[List.cons_append,XP];rw[Jd (Q6 all j) f (some d) v hd,hg,cond_true,cond_true];refine ⟨u,λw' hc=>?_,?_⟩
   ·rw[Y1 (all:=all) V f (some d) v hd];exact hu w' hc
   rw[Ka f v u (λe he=>by cases he;exact h2)];exact VW G J l own _ w S hx H I hb
  | false =>
   simp only[List.cons_append,XP];rw[Jd (Q6 all j) f (some d) v hd,h.1,cond_true,cond_false];refine Qc4 (all:=all) V h1 h2 (λu w' hx=>?_) (h.2 w (Step.refl _ _) H);obtain ⟨ha,own',hf,hh,hx⟩:=hx;refine ⟨.inr (.inr ha),VW G J l own' _ w' S hx ha (G.stab v own w w' I hf (λb E=>(hb b E).1)) (λb E=>⟨λhm=>?_,L4 (hb b E).2 hf.size⟩)⟩
   rcases hh b hm with h3 | h3
   ·exact (hb b E).1 h3
   exact Nat.lt_irrefl _ (L4 (hb b E).2 h3.1)
theorem QbI {i d:Nat}{rest:List (Nat×Bool)}{Φ:Value→World→Prop}{Dc:List (Nat×Nat)}{f1:Fr}(G:Fl2 P all C K KF i d rest Φ Dc f1) (T:Region.noSelect all.toArray=true) (V:(Q6 all i).guard=none) (hd:(Q6 all i).dst=some d):∀(l:List (Nat×Bool)) (ls:Array Bool) (own:LN) (f:Fr) (w:World),ls.size=all.length→Z8 all d l=true→Z6 all Dc l=true→(∀t,Xo Dc t=false→f t=f1 t) →
  qC P all C KF l own f w→C w→(∀b∈own,b<w.heap.size)→qg all.toArray i rest l ls=true→XA P all C K (l.length+1+rest.length) ls f w
 | [],ls,own,f,w,hc,hfr,H,Y,h,I,ha,hp=>by
  simp only[qg,Bool.and_eq_true,beq_iff_eq] at hp;obtain ⟨J,hp⟩:=hp;rw[show ([]:List (Nat×Bool)).length+1+rest.length=rest.length+1 by simp;omega];refine Jy (λh0=>(by rw[h0] at J;cases J)) ?_;rw[J];intro k hk o E;have hh:k=i:=by simpa using hk
  subst hh;have he:=Zp E;have hx:=G.spec f w Y I;rw[he] at V hd hx;rw[Ve V,cond_true];refine hx.mono λv w' hx=>?_;rw[hd] at hx ⊢;obtain ⟨h1,h2,h3,S⟩:=hx;simp only[QX,Yu] at h3 S
  refine ⟨.inr (.inr h2),ZB T rest _ _ _ (by simpa using hc) (.inl h2) hp (G.fin own f w' (G.mono own f w w' h h1) v h2 h3 (λb hb=>⟨λhm=>Nat.lt_irrefl _ (L4 (ha b hm) (S b hb).1),(S b hb).2⟩))⟩
 | (j,true)::l,ls,own,f,w,hc,hfr,H,Y,h,I,ha,hp=>by
  simp only[qg,Bool.and_eq_true] at hp;obtain ⟨⟨J,hf⟩,hl⟩:=hp;have ht:j∈Region.ready .any all.toArray ls:=by simpa using J
  have e:(List.length ((j,true)::l))+1+rest.length=(l.length+1+rest.length)+1:=by simp;omega
  rw[e];have hn:Z8 all d l=true:=by simp only[Z8,List.all_cons,Bool.and_eq_true] at hfr;exact hfr.2
  simp only[Z6,List.all_cons,Bool.and_eq_true] at H;have hq:Z6 all Dc l=true:=H.2;cases E:all[j]? with
  | none =>
   exfalso;obtain ⟨_,o,h5,_⟩:=mem_ready.1 ht;simp[E] at h5
  | some o =>
   obtain ⟨hu,v,hv,hx⟩:=h;rw[Zp E] at hu hv hx;have h6:∀(j:Nat) (o:Oper) cs b,all[j]?=some o→o.op≠.select cs b:=λj o cs b hj=>Region.noSelect_spec T j o cs b (by simpa using hj);have h7:=λk ok hk=>Region.free_spec (ops:=all.toArray) (md:=.any) (i:=j) (oi:=o) (listed:=ls) (by simpa using E) hf k ok (by simpa using hk)
   exact Y2 (v:=v) (D:=λw=>qM o=true→C w) E (λ_ h=>h) h6 _ ls f w (λ_=>I) h7 ht (.inl ⟨hu,hv⟩) (QbI G T V hd l _ own _ w (by simpa using hc) hn hq (by have:=JV (v:=v) H.1 Y;rw[Zp E] at this;exact this) hx I ha hl)
 | (j,false)::l,ls,own,f,w,hc,hfr,H,Y,h,I,ha,hp=>by
  simp only[qg,Bool.and_eq_true,List.all_eq_true,Bool.or_eq_true,beq_iff_eq,Bool.not_eq_true'] at hp;obtain ⟨⟨⟨hw,J⟩,h8⟩,hl⟩:=hp;have e:(List.length ((j,false)::l))+1+rest.length=(l.length+1+rest.length)+1:=by simp;omega
  rw[e];have hn:Z8 all d l=true:=by simp only[Z8,List.all_cons,Bool.and_eq_true] at hfr;exact hfr.2
  simp only[Z6,List.all_cons,Bool.and_eq_true] at H;have hq:Z6 all Dc l=true:=H.2;refine Jy (λh0=>(by rw[h0] at hw;cases hw)) ?_;intro k hk o E;have he:=Zp E;have hy:(ls.setIfInBounds k true).size=all.length:=by simpa using hc
  by_cases hh:k=i
  ·subst hh;have hx:=G.spec f w Y I;rw[he] at V hd hx;rw[Ve V,cond_true];refine hx.mono λv w' hx=>?_;rw[hd] at hx ⊢;obtain ⟨h1,h2,h3,S⟩:=hx;simp only[QX,Yu] at h3 S;refine ⟨.inr (.inr h2),?_⟩;have hx:=VW G T ((j,false)::l) own f w' hfr (qC.ext G.mono h h1) h2 h3 (λb hb=>⟨λhm=>Nat.lt_irrefl _ (L4 (ha b hm) (S b hb).1),(S b hb).2⟩)
   have:=ZB T ((j,false)::(l++rest)) _ _ _ hy (.inl h2) h8 hx;rw[show ((j,false)::(l++rest)).length=l.length+1+rest.length by simp;omega] at this;exact this
  have h9:k=j:=(J k hk).resolve_right hh;subst h9;have h1:=h.1;have h2:=h.2 w (Step.refl _ _) I;rw[he] at h1 h2;rw[h1,cond_true];refine h2.mono λv w' hx=>?_;obtain ⟨hz,own',hA,hB,hx⟩:=hx;refine ⟨.inr (.inr hz),QbI G T V hd l _ own' _ w' hy hn hq (by have:=JV (v:=v) H.1 Y;rw[he] at this;exact this) hx hz (λb hb=>?_) hl⟩;rcases hB b hb with h3 | h3
  ·exact L4 (ha b h3) hA.size
  exact h3.2
theorem qC.keeps {D:List (Nat×Nat)}{f0:Fr}:∀(l:List (Nat×Bool)) (own:LN) (f:Fr) (w:World),Z6 all D l=true→(∀t,Xo D t=false→f t=f0 t)→qC P all C KF l own f w→qC P all C (λo G w'=>(∀t,Xo D t=false→G t=f0 t)∧KF o G w') l own f w
 | [],own,f,w,_,E,h=>⟨E,h⟩
 | (j,true)::l,own,f,w,hd,E,h=>by
  simp only[Z6,List.all_cons,Bool.and_eq_true] at hd;obtain ⟨H,v,I,hx⟩:=h;exact ⟨H,v,I,qC.keeps l own _ _ hd.2 (JV hd.1 E) hx⟩
 | (j,false)::l,own,f,w,hd,E,h=>by
  simp only[Z6,List.all_cons,Bool.and_eq_true] at hd;refine ⟨h.1,λJ h1 hc=>XO.mono (λv w' hx=>?_) (h.2 J h1 hc)⟩;obtain ⟨S,own',T,V,hx⟩:=hx;exact ⟨S,own',T,V,qC.keeps l own' _ _ hd.2 (JV hd.1 E) hx⟩
theorem f2p {j:Nat}{l:List (Nat×Bool)}{own:LN}{v:Value}(E:∀w',(execOp (ev f) (Q6 all j)).run P w'=.ok (.value v) w') (h:qC P all C KF l own (QX f (Q6 all j).dst v) w)
  (G:Yc all f (Q6 all j)=true:=by rfl):qC P all C KF ((j,true)::l) own f w:=⟨G,v,λw' _=>E w',h⟩
theorem f2k {j:Nat}{l:List (Nat×Bool)}{own:LN}(h:∀w1,Step [] w w1→C w1→XO P (Q6 all j) f w1 λE w'=>C w'∧∃own',Step own w1 w'∧(∀b∈own',b∈own∨(w1.heap.size≤b∧b<w'.heap.size))∧qC P all C KF l own' E w')
  (G:Yc all f (Q6 all j)=true:=by rfl):qC P all C KF ((j,false)::l) own f w:=⟨G,h⟩
theorem f2e {own:LN}(h:KF own f w):qC P all C KF [] own f w:=h
theorem zT {Q:Exit→Fr→World→Prop}{id:Nat}{α:Type}(C:World→Prop) (pre l:List (Nat×Bool)) (i d:Nat) (rest:List (Nat×Bool)) (own:LN) (D Dc:List (Nat×Nat)) (S:α→List (Nat×Value)) (I:α→LN→World→Prop) (Φ:Value→World→Prop) (hm:P.follows .mixedOrders=true) (Y:XR n all=true)
  (hp:Qgc all pre l i rest=true) (H:(Z6 all D pre && Z6 all D l && Z6 all Dc l)=true) (hd:(Q6 all i).dst=some d) (T:C { w with drawn:=w.drawn+1 }) (ha:∀b∈own,b<w.heap.size)
  (stab:∀v (own:LN) w w',Φ v w→Step own w w'→(∀b∈ow v,b∉own)→Φ v w') (mono:∀z own w w',I z own w→Step [] w w'→I z own w')
  (fin:∀z g own w v,I z own w→C w→Φ v w→(∀b∈ow v,b∉own∧b<w.heap.size)→XP P all C (λf w=>Q .normal f w) rest (QX (z1 (S z) (mix D f g)) (some d) v) w)
  (h:XP P all C (λf1 _=>(∀g w,C w→XO P (Q6 all i) (mix Dc f1 g) w λE w'=>Step [] w w'∧C w'∧Φ (E d) w'∧∀b∈ow (E d),w.heap.size≤b∧b<w'.heap.size)∧qC P all C (λo E w'=>∃z,Xu E (S z)∧I z o w') l own f1 { w with drawn:=w.drawn+1 }) pre f { w with drawn:=w.drawn+1 }):W P n (.region id all.toArray true) Q f w:=by
 rw[Lv,Lv] at H;simp only[Qgc,Bool.and_eq_true,beq_iff_eq,Option.isNone_iff_eq_none] at hp;obtain ⟨⟨⟨⟨⟨G,hl⟩,hq⟩,hc⟩,hg⟩,hfr⟩:=hp;rw[hd] at hfr;refine KI C hm Y ?_;have h1:=YG (K:=λf w=>Q .normal f w) (m:=l.length+1+rest.length) G pre (Array.replicate all.length false) f _ T hq
  (B:=λf1 _=>Fl2 P all C (λf w=>Q .normal f w) (λo E w'=>(∀t,Xo D t=false→E t=f t)∧∃z,Xu E (S z)∧I z o w') i d rest Φ Dc f1∧qC P all C (λo E w'=>(∀t,Xo D t=false→E t=f t)∧∃z,Xu E (S z)∧I z o w') l own f1 { w with drawn:=w.drawn+1 })
  (λf1 V=>QbI V.1 G hg hd l (ZZ pre (Array.replicate all.length false)) own f1 _ (by rw[YI];simp) hfr H.2 (λ_ _=>rfl) V.2 T ha hc)
  (XP.keeps_mono _ _ _ (XP.keeps pre f _ H.1.1 (λ_ _=>O) h) (λf1 w1 hx=>⟨⟨stab,?_,?_,?_⟩,qC.keeps l own _ _ H.1.2 hx.1 hx.2.2⟩))
 ·rw[hl] at h1;exact h1
 ·intro E w' hk J;have:=hx.2.1 E w' J;rw[JS hk] at this;exact this
 ·rintro o E w' ⟨hk,z,G,hi⟩ v J hv hb;have:=fin z E o w' v hi J hv hb;rw[JS hk,YO G] at this;exact this
 rintro o E w' hf ⟨hk,z,G,hi⟩ he;exact ⟨hk,z,G,mono z o _ _ hi he⟩
end
attribute [irreducible] qC
end Go.Lg
namespace Go.Proofs.YtdffckgdcegpaaaGreatDoor
open Go.Lg
abbrev Yi:LV:=[nS,nS,nS,nS,nS]
abbrev qV:LV:=[nS,.int .i64 0,nS,nS]
theorem YQ {a:Array UInt8}(h:a.size≤100):(⟨a⟩:ByteArray).size≤9223372036854775807:=by
 show a.size≤_;omega
def rgB (N M:Nat):LN:=(List.range M).filter λb=>decide (N≤b)
theorem Yo {N M b:Nat}:b∈rgB N M↔N≤b∧b<M:=by
 unfold rgB;rw[Md,Np,decide_eq_true_iff];exact And.comm
open Go.Proofs.Tryz
def Ko (co:LI) (ls:List (Int×Int)):List (Int×Int):=ls.map λl=>((lwB co l.1:Int),l.2)
theorem Qcv {co:LI}(hi:Yd co) {ls:List (Int×Int)}(h:mis co ls=false):Ko co ls=ixP co ls:=by
 unfold Ko ixP;refine List.map_congr_left λl hl=>?_;unfold mis at h;have h1:=Ni.1 h l hl;have hm:l.1∈co:=by simpa using h1
 rw[Qcq hi hm]
abbrev exG (c:Zw) (i:Int):jo:=c.ex.getD i.toNat ⟨.empty,[]⟩
abbrev csG (c:Zw) (i:Int):Xj:=c.cs.getD i.toNat ⟨.empty,[],0⟩
def exB (c:Zw) (co ix:LI):List jo:=ix.map λi=>⟨(exG c i).nm,Ko co (exG c i).ls⟩
def csB (c:Zw) (co ix:LI):List Xj:=ix.map λi=>⟨(csG c i).nm,Ko co (csG c i).ts,(csG c i).bd⟩
def exM (c:Zw) (co ix:LI):Bool:=ix.any λi=>mis co (exG c i).ls
def csM (c:Zw) (co ix:LI):Bool:=ix.any λi=>mis co (csG c i).ts
theorem QhM (c:Zw) (p:Prt):Qly c p=(exM c p.co p.ex || csM c p.co p.cs):=rfl
theorem QiK {c:Zw}{p:Prt}(hi:Yd p.co) (h:exM c p.co p.ex=false):exB c p.co p.ex=QhL c p:=by
 unfold exB QhL;refine List.map_congr_left λi E=>?_;rw[Qcv hi (by have:=Ni.1 h i E;simpa using this)]
theorem QiV {c:Zw}{p:Prt}(hi:Yd p.co) (h:csM c p.co p.cs=false):csB c p.co p.cs=QhN c p:=by
 unfold csB QhN;refine List.map_congr_left λi E=>?_;rw[Qcv hi (by have:=Ni.1 h i E;simpa using this)]
def ck4:List (Value×LI×Int)→Int
 | []=>0
 | (_,s,n)::l=>if Xy n none s≠0 then Xy n none s else ck4 l
abbrev skC (x:Value×LI×Int):LV:=[x.1,.int .i64 x.2.2]
theorem QjR (x:Value×LI×Int):(skC x).length=2:=rfl
theorem Qar:∀{l:List (Value×LI×Int)},ck4 l=0→∀x∈l,Xy x.2.2 none x.2.1=0
 | [],_,x,hx=>by cases hx
 | (v,s,n)::l,h,x,hx=>by
  rw[ck4] at h;by_cases h1:Xy n none s≠0
  ·rw[if_pos h1] at h;exact absurd h h1
  rw[if_neg h1] at h;rcases Lc.1 hx with rfl | hx
  ·exact Lu.1 h1
  exact Qar h x hx
theorem ZQ.app2 {α:Type}{g:α→LV}{sz T:Nat}{p:α→Value×Nat×Nat×LV}{base N e:Nat}{E G:World}{v H:Value}{l:List α}{q:α}(h:ZQ g sz T p base E v l)
  (hq:E.ownsRow N e (p q).2.2.1 (p q).1 (p q).2.1 (p q).2.2.2) (S:(p q).2.1≤1099511627776) (hb:base≤N) (V:∀b∈ob v,b<N)
  (Y:G.ownsRow base T sz H (l.length+1) (l.flatMap g++g q)) (I:Step (ob v) E G) (J:∀b∈ob H,b∈ob v∨E.heap.size≤b):ZQ g sz T p base G H (l++[q]):=by
 refine ⟨?_,λd hd=>?_⟩
 ·rw[Li,Lz];simpa using Y
 rcases Lj.1 hd with hd | hd
 ·exact (h.each d hd).app I J
 simp only[List.mem_singleton] at hd;subst hd;exact (ZC.of_own hq S hb V).app I J
instance:Bw prog 47 [nS,nS,nS,nS,nS] [(0,1),(1,1),(2,1),(3,1),(4,1)]:=⟨by kernel_rfl,by decide⟩
theorem zt {v:Value}(h:v.oneCell'=true):v.cells=[v].toArray:=by
 cases v <;> first | rfl | cases h
theorem QfX {N M:Nat}{w':World}{v:Value}{qs:List IV}(h:∀L:LN,(∀b∈L,b<N)→Y6 L w'.heap v qs) (H:w'.heap.size=M) {L:LN}(E:∀b∈L,b∉rgB N M):Y6 L w'.heap v qs:=by
 refine (h (L.filter λb=>decide (b<N)) (λb hb=>by have:=(Md.1 hb).2;exact of_decide_eq_true this)).up (λb hb=>?_);by_cases G:b<N
 ·exact .inl (Md.2 ⟨hb,decide_eq_true G⟩)
 refine .inr ?_;have:=E b hb;rw[Yo] at this;omega
structure EiA (L:LN) (H:Array Obj) (z:Value×Value×Value) (ev:List Km) (qc qr:List IV):Prop where
 ev:KN L H z.1 ev
 co:Y6 L H z.2.1 qc
 rq:Y6 L H z.2.2 qr
theorem EiA.ext {L:LN}{w w':World}{z:Value×Value×Value}{ev:List Km}{qc qr:List IV}(h:EiA L w.heap z ev qc qr) (E:Step [] w w'):EiA L w'.heap z ev qc qr:=⟨h.ev.ext E,h.co.ext E,h.rq.ext E⟩
theorem EiA.st {L:LN}{w w':World}{z:Value×Value×Value}{ev:List Km}{qc qr:List IV}(h:EiA L w.heap z ev qc qr) (E:Step L w w'):EiA L w'.heap z ev qc qr:=⟨h.ev.st E,h.co.st E,h.rq.st E⟩
theorem EiA.up {L L':LN}{H:Array Obj}{z:Value×Value×Value}{ev:List Km}{qc qr:List IV}(h:EiA L H z ev qc qr) (E:∀b∈L',b∈L∨H.size≤b):EiA L' H z ev qc qr:=⟨h.ev.up E,h.co.up E,h.rq.up E⟩
set_option maxRecDepth 4096 in
set_option maxHeartbeats 16000000 in
theorem QbD {L:LN}{w:World}{c:CL}{v0 v1 v2 v3:Value}{p:Prt}(J:Zx L w.heap c) (hc0:QL L w.heap v0 p.co) (hr0:QL L w.heap v1 p.rq) (hx0:QL L w.heap v2 p.ex) (hk0:QL L w.heap v3 p.cs) :
  QJ prog 33 [c.val,.agg #[v0,v1,v2,v3]] w λr w'=>Step [] w w'∧∃us,r=.tuple #[.agg us.toArray,.int .i64 (ye c.cel p)]∧us.length=5∧ZP us∧(ye c.cel p≠0→us=Yi)∧(ye c.cel p=0→Qhf w.heap.size w'.heap (.agg us.toArray) (Qdm c.cel p)):=by
 have h:=J.up (L':=[]) (by simp);have hc:=hc0.up (L':=[]) (by simp);have hr:=hr0.up (L':=[]) (by simp);have hx:=hx0.up (L':=[]) (by simp);have hk:=hk0.up (L':=[]) (by simp)
 have S:ye c.cel p=if Zc c.cel≠0 then Zc c.cel else if ck4 [(v0,p.co,(c.co.length:Int)),(v1,p.rq,(c.rq.length:Int)),(v2,p.ex,(c.ex.length:Int)),(v3,p.cs,(c.cs.length:Int))]≠0 then ck4 [(v0,p.co,(c.co.length:Int)),(v1,p.rq,(c.rq.length:Int)),(v2,p.ex,(c.ex.length:Int)),(v3,p.cs,(c.cs.length:Int))]
   else if (exM c.cel p.co p.ex || csM c.cel p.co p.cs)=true then 13 else Zc (Qdm c.cel p):=by
  have e1:c.cel.co.length=c.co.length:=Lb ..;have e2:c.cel.rq.length=c.rq.length:=Lb ..;have e3:c.cel.ex.length=c.ex.length:=Lb ..;have e4:c.cel.cs.length=c.cs.length:=Lb ..;unfold ye;rw[e1,e2,e3,e4,QhM];simp only[ck4];by_cases q0:Zc c.cel≠0
  ·rw[if_pos q0,if_pos q0]
  rw[if_neg q0,if_neg q0];by_cases q1:Xy (c.co.length:Int) none p.co≠0
  ·simp only[if_pos q1]
  simp only[if_neg q1];by_cases q2:Xy (c.rq.length:Int) none p.rq≠0
  ·simp only[if_pos q2]
  simp only[if_neg q2];by_cases q3:Xy (c.ex.length:Int) none p.ex≠0
  ·simp only[if_pos q3]
  simp only[if_neg q3];by_cases q4:Xy (c.cs.length:Int) none p.cs≠0
  ·simp only[if_pos q4]
  simp only[if_neg q4];simp
 refine Zb (ye c.cel p) λE hE=>?_;rw[hE] at S ⊢;refine Zb [(v0,p.co,(c.co.length:Int)),(v1,p.rq,(c.rq.length:Int)),(v2,p.ex,(c.ex.length:Int)),(v3,p.cs,(c.cs.length:Int))] λI gm=>?_;rw[gm] at S;have hl4n:I.length=4:=by rw[←gm];rfl
 have hl4i:∀x∈I,QL [] w.heap x.1 x.2.1:=by
  rw[←gm];intro x hm;simp only[List.mem_cons,List.not_mem_nil,or_false] at hm;rcases hm with rfl | rfl | rfl | rfl
  ·exact hc
  ·exact hr
  ·exact hx
  exact hk
 have hl4z:ck4 I=0→Xy (c.co.length:Int) none p.co=0∧Xy (c.rq.length:Int) none p.rq=0∧Xy (c.ex.length:Int) none p.ex=0∧Xy (c.cs.length:Int) none p.cs=0:=by
  intro J;have h1:=Qar J;rw[←gm] at h1;exact ⟨h1 (v0,p.co,_) (by simp),h1 (v1,p.rq,_) (by simp),h1 (v2,p.ex,_) (by simp),h1 (v3,p.cs,_) (by simp)⟩
 have hcl:=hc.le;have hrl:=hr.le;have hxl:=hx.le;have hkl:=hk.le;have hexl:=h.ex.arr.le;have hcsl:=h.cs.arr.le;refine QJ.of_W func33 O ntmps33 results33 (by simp) ?_;refine Qc<|xl O<|QT (us:=c.cells) O λb2 w1 z4 hb2 m1=>xl O<|QT (us:=[v0,v1,v2,v3]) O λb3 w2 kh hb3 z5=>xl O<|Qv (us:=Yi) O λb4 w3 gn hb4 z9=>Qe ?_;have hz1:=z4.size;have hz2:=kh.size;have hz3:=gn.size;have hl2:=m1.lt
 have hl3:=z5.lt;have hl4':=z9.lt;have hs03:=(z4.trans kh).trans gn;refine Qf<|Qc<|x (Qs ((m1.ext kh).ext gn) O O)<|xl O<|xf<|(YF (h.ext hs03)).mono ?_;rintro r4 w4 ⟨rfl,go⟩;refine Qe ?_;have m2:=hs03.trans go;have hz4:=go.size;have gp:=((m1.ext kh).ext gn).ext go;have gq:=(z5.ext gn).ext go;have m3:=z9.ext go;refine Qc<|Qb<|x (Q9 O O)<|xe ?_
 refine Q7 rfl (λki=>?_) (λki=>?_)
 ·rw[if_pos ki] at S;subst S;refine Qc<|x (QF U)<|Qb<|xl O<|Qr (us:=Yi) m3 O O O O ⟨O,O,O,O,O,U⟩ λw5 hs5 hB45=>Qe ?_;exact Qn ⟨[.agg Yi.toArray,.int .i64 (Zc c.cel)],⟨⟨_,O,QB O (hB45.at (L:=[]) (by simp)).cells⟩,rfl,U⟩,m2.then1 hs5 (by omega),Yi,rfl,rfl,⟨rfl,rfl,rfl,rfl,rfl,U⟩,λ_=>rfl,λJ=>absurd J ki⟩
 rw[if_neg ki] at S;refine Qi ?_;have h4:=h.ext m2;refine Qf<|Qc<|x (Qa O)<|x (Qd gq O O)<|x (Qa O)<|x (Qd gp O O)<|x (Qq h4.co.arr O)<|x (QF ⟨hc.cells,O,U⟩) <|
  x (Qa rfl)<|x (Qd gq O O)<|x (Qa O)<|x (Qd gp O O)<|x (Qq h4.rq.arr O)<|x (QF ⟨hr.cells,O,U⟩) <|
  x (Qa rfl)<|x (Qd gq O O)<|x (Qa O)<|x (Qd gp O O)<|x (Qq h4.ex.arr O)<|x (QF ⟨hx.cells,O,U⟩) <|
  x (Qa rfl)<|x (Qd gq O O)<|x (Qa O)<|x (Qd gp O O)<|x (Qq h4.cs.arr O)<|x (QF ⟨hk.cells,O,U⟩) <|
  xl rfl<|QC (us:=[skC (v0,p.co,(c.co.length:Int)),skC (v1,p.rq,(c.rq.length:Int)),skC (v2,p.ex,(c.ex.length:Int)),skC (v3,p.cs,(c.cs.length:Int))]) O O (by decide) (by simp) ⟨rfl,rfl,rfl,rfl,rfl,rfl,rfl,rfl,U⟩ λb54 w6 hW hb54 hB54=>?_
 have hA54:Zo [] w6.heap (.slice (some ⟨b54,0,none⟩) 4 4) I.length 2 (I.flatMap skC):=by
  have:=hB54.arr (L:=[]) (by simp) (n:=4) (cap:=4) (sz:=2) (by rfl) (by omega) (Lr _);rw[hl4n,←gm];exact this
 refine x (Qq hA54 O)<|Qb<|xe ?_;have hs06:=m2.trans hW;have hz6:=hW.size;refine Qg<|Qy (α:=Nat) [(5,5),(8,9),(56,69)] (λz=>[(56,.int .i64 z)]) (λz w'=>z≤I.length∧Step [] w6 w'∧ck4 (I.drop z)=ck4 I) (λz=>I.length - z) (by rfl) 0 Z ⟨Lk _,Step.refl _ _,O⟩ ?_;rintro k g V ⟨hkl4,hA,hC⟩;have gr:=hs06.trans hA;have hz7:=hA.size;refine Qc<|x (QA O O)<|xe ?_
 refine Qf<|QE O (λm4=>?_) (λm4=>?_)
 ·refine Qw ?_;have hke:I.length≤k:=by have hw:¬(k:Int)<(I.length:Int):=m4;omega
  rw[Lq hke] at hC;have hck0:ck4 I=0:=hC.symm;rw[if_neg (λJ=>J hck0)] at S;obtain ⟨zco,zrq,zex,zcs⟩:=hl4z hck0;have gs:=(YL _ _ _).1 zco;have hrq:=(YL _ _ _).1 zrq;have hexz:=(YL _ _ _).1 zex;have hcsz:=(YL _ _ _).1 zcs;have h7:=h.ext gr;have kj:Q3 V.heap b2 47 c.cells:=(gp.ext hW).ext hA;have m5:Q3 V.heap b3 95 [v0,v1,v2,v3]:=(gq.ext hW).ext hA
  have hB47:Q3 V.heap b4 47 Yi:=(m3.ext hW).ext hA;have hsd:Step [] V { V with drawn:=V.drawn+1 }:=Step.drew _ _
  refine QW (α:=Nat×(Value×Value×Value)×List IV×List IV) [(70,83),(10,10)] (λz=>[(10,.pointer (some ⟨z.1,0,none⟩))]) (λz w'=>Step [] V w'∧V.heap.size≤z.1∧Q3 w'.heap z.1 47 [z.2.1.1,z.2.1.2.1,z.2.1.2.2,nS,nS] ∧
   z.2.2.1.map IV.it=chs c.cel.co p.co∧z.2.2.2.map IV.it=chs c.cel.rq p.rq∧ZP [z.2.1.1,z.2.1.2.1,z.2.1.2.2]∧∀L:LN,(∀b∈L,b<V.heap.size∨b=z.1)→EiA L w'.heap z.2.1 c.ev z.2.2.1 z.2.2.2) (by rfl) ?_ ?_
  ·refine zT (α:=(Value×Value×Value)×List IV×List IV) (Step [] V) [(0,true),(1,true),(3,true),(4,true),(5,true),(6,true),(8,true),(9,true),(10,true),(11,true)] [(2,false),(7,false),(12,false),(13,true)] 14 10 [(15,false)] []
    [(70,83)] [(72,72),(77,77),(82,83)] (λz=>[(83,.agg [z.1.1,z.1.2.1,z.1.2.2,nS,nS].toArray)])
    (λz own w'=>(∀b∈own,V.heap.size≤b)∧z.2.1.map IV.it=chs c.cel.co p.co∧z.2.2.map IV.it=chs c.cel.rq p.rq∧ZP [z.1.1,z.1.2.1,z.1.2.2]∧∀L:LN,(∀b∈L,b∉own)→EiA L w'.heap z.1 c.ev z.2.1 z.2.2)
    (λv w'=>∃b,v=.pointer (some ⟨b,0,none⟩)∧V.heap.size≤b∧Q3 w'.heap b 47 Yi) mixed (by rfl) (by kernel_rfl) (by rfl) O hsd (by simp) ?_ ?_ ?_ ?_
   ·rintro v own wa wb ⟨b,rfl,hb,hB⟩ hs hn;exact ⟨b,O,hb,hB.step hs (hn b (by simp[ow]))⟩
   ·rintro z own wa wb ⟨h1,h2,h3,h4,h5⟩ hs;exact ⟨h1,h2,h3,h4,λL hL=>(h5 L hL).ext hs⟩
   ·rintro ⟨zv,qc,qr⟩ g own wz v ⟨i1,i2,i3,i4,i5⟩ hCz ⟨H,rfl,kk,hB10⟩ hbo;simp only[] at i2 i3 i4 i5;have hb10o:=(hbo H (by simp[ow])).1;refine pkl (hl:=by kernel_rfl)<|Qr (us:=[zv.1,zv.2.1,zv.2.2,nS,nS]) hB10 O O O O ⟨i4.1,i4.2.1,i4.2.2.1,O,O,U⟩ λw8 hX hB108=>pe ?_;refine ⟨(H,zv,qc,qr),Z,hCz.then1 hX kk,kk,hB108,i2,i3,i4,λL hL=>?_⟩;have h1:=i5 (H::L) (λb hb=>by
     rcases Lc.1 hb with rfl | hb
     ·exact hb10o
     rcases hL b hb with h2 | h2
     ·exact λh3=>by have:=i1 b h3;omega
     subst h2;exact hb10o)
    exact (h1.st (hX.mono (by simp))).up (λb hb=>.inl (by simp[hb]))
   refine Go.Lg.p (λ_=>Qa O)<|pq (λ_ hc=>Qd (kj.ext hc) O O)<|Go.Lg.p (λ_=>Qa O)<|pq (λ_ hc=>Qd (kj.ext hc) O O) <|
    Go.Lg.p (λ_=>Qa O)<|pq (λ_ hc=>Qd (m5.ext hc) O O)<|Go.Lg.p (λ_=>Qa O)<|pq (λ_ hc=>Qd (kj.ext hc) O O) <|
    Go.Lg.p (λ_=>Qa O)<|pq (λ_ hc=>Qd (m5.ext hc) O O)<|pe ⟨λg wf hCf=>Qv (us:=Yi) O λb wf' hsf hbf hBf=>⟨hsf,hCf.trans hsf,⟨b,O,LS hCf.size hbf,hBf⟩,λx hx=>?_⟩,?_⟩
   ·have hxe:x=b:=by
     have hx':x∈[b]:=hx;simpa using hx'
    subst hxe;exact ⟨hbf,hBf.lt⟩
   refine f2k λx1 p1 c1=>xf<|(Qbz (h7.ev.ext c1).arr).mono ?_;rintro m6 y1 ⟨hs1',hY⟩;refine ⟨c1.trans hs1',rgB x1.heap.size y1.heap.size,hs1'.any,λb hb=>.inr (Yo.1 hb),?_⟩;refine f2k λx2 p2 c2=>xf<|(qz (h7.co.ext c2) (hc.ext (gr.trans c2)) (λi hi=>gs.1 i hi)).mono ?_;rintro r77 y2 ⟨m7,⟨qc,kn,hqcI⟩,ko⟩
   refine ⟨c2.trans m7,rgB x1.heap.size y1.heap.size++rgB x2.heap.size y2.heap.size,m7.any,λb hb=>(Lj.1 hb).imp id λhb=>Yo.1 hb,?_⟩;refine f2k λx3 p3 c3=>xf<|(qz (h7.rq.ext c3) (hr.ext (gr.trans c3)) (λi hi=>hrq.1 i hi)).mono ?_;rintro r82 y3 ⟨kp,⟨qr,kq,hqrI⟩,kr⟩
   refine ⟨c3.trans kp,(rgB x1.heap.size y1.heap.size++rgB x2.heap.size y2.heap.size)++rgB x3.heap.size y3.heap.size,kp.any,λb hb=>(Lj.1 hb).imp id λhb=>Yo.1 hb,?_⟩;refine f2p (λ_=>ZV [(0,[m6]),(1,[r77]),(2,[r82])] ⟨QZ hY,O,zt ko,O,zt kr,O,U⟩)<|f2e ?_;refine ⟨((m6,r77,r82),qc,qr),Z,λb hb=>?_,kn,kq,⟨QD hY,ko,kr,U⟩,λL hL=>?_⟩
   ·have e1:=c1.size;have e2:=c2.size;have e3:=c3.size;rcases Lj.1 hb with hb | hb
    ·rcases Lj.1 hb with hb | hb
     ·have:=Yo.1 hb;omega
     have:=Yo.1 hb;omega
    have:=Yo.1 hb;omega
   have hL1:∀b∈L,b∉rgB x1.heap.size y1.heap.size:=λb hb hm=>hL b hb (by simp[hm]);have hL2:∀b∈L,b∉rgB x2.heap.size y2.heap.size:=λb hb hm=>hL b hb (by simp[hm]);have hL3:∀b∈L,b∉rgB x3.heap.size y3.heap.size:=λb hb hm=>hL b hb (by simp[hm]);have hev1:KN L y1.heap m6 c.ev:=⟨QR hY h.ev.arr.le (λb hb hm=>hL1 b hm (Yo.2 (Qk hY b hb))),h.ev.nm⟩
   exact ⟨(((hev1.ext p2).ext m7).ext p3).ext kp,((QfX hqcI O hL2).ext p3).ext kp,QfX hqrI O hL3⟩
  rintro ⟨H,zv,qc,qr⟩ g wc ⟨hsc,kk,m8,kn,kq,kt,hEi⟩;simp only[] at kk m8 kn kq kt hEi;have hl10:=m8.lt;have hzc:=hsc.size;refine Qc<|xl O<|Qv (us:=[.bool false]) O λG w8 hX hb11 hB11=>xl O<|QG (j:=0) (u:=.bool false) hB11 O O (by simp) rfl λw9 m9 ku=>xe ?_;have kv:Step [] wc w9:=hX.then1 m9 hb11;have hD:=hsc.trans kv;have hZ:=gr.trans hD
  have hz9:=kv.size;have hl11:=ku.lt;have hB109:=m8.ext kv;have hB29:=kj.ext hD;have hB39:=m5.ext hD;have hB49:=hB47.ext hD;have h9:=h.ext hZ;have hn10:H≠G:=by omega
  have hup:∀b∈[H,G],w.heap.size≤b:=λb hb=>by simp only[List.mem_cons,List.not_mem_nil,or_false] at hb;omega
  have kw:∀b∈[H,G],b<w9.heap.size:=λb hb=>by simp only[List.mem_cons,List.not_mem_nil,or_false] at hb;omega
  have hn2:b2∉[H,G]:=λhb=>by simp only[List.mem_cons,List.not_mem_nil,or_false] at hb;omega
  have hn3:b3∉[H,G]:=λhb=>by simp only[List.mem_cons,List.not_mem_nil,or_false] at hb;omega
  have hn4:b4∉[H,G]:=λhb=>by simp only[List.mem_cons,List.not_mem_nil,or_false] at hb;omega
  have ky:∀b∈[H],b∈[H,G]:=λb hb=>by simp only[List.mem_singleton] at hb;simp[hb]
  have kz:∀b∈[G],b∈[H,G]:=λb hb=>by simp only[List.mem_singleton] at hb;simp[hb]
  have hY:=kt.1;have ko:=kt.2.1;have kr:=kt.2.2.1;refine Qc<|x (Zq (l:=[]) (l':=[_,_]))<|Qe<|Qf<|Qc<|x (Qa O)<|x (Qd hB39 O O)<|x (Qq (hx.ext hZ) O)<|Qb<|xe<|Qg<|Qy (α:=Nat×Bool×Value×List XV) [(14,15),(17,17),(88,129)] (λz=>[(88,.int .i64 z.1)]) (λz w'=>z.1≤p.ex.length∧Step [H,G] w9 w'∧Q3 w'.heap H 47 [zv.1,zv.2.1,zv.2.2,z.2.2.1,nS]∧Q3 w'.heap G 4 [.bool z.2.1] ∧
   XvN w9.heap.size w' z.2.2.1 z.2.2.2∧z.2.2.2.map (·.x)=exB c.cel p.co (p.ex.take z.1)∧z.2.1=exM c.cel p.co (p.ex.take z.1)∧∀q∈z.2.2.2,Ue q.nm) (λz=>p.ex.length - z.1) (by rfl) (0,false,nS,[]) Z
   ⟨Lk _,Step.refl _ _,hB109,ku,ZQ.nil,O,O,λq hq=>by cases hq⟩ ?_
  rintro ⟨k,mi,vx,qx⟩ g Y ⟨hk10,hJ,pa,gt,k0,gu,k4,pc⟩;simp only[] at hk10 pa gt k0 gu k4 pc;have gv:Step [] w Y:=hZ.then hJ (λb hb=>.inr (hup b hb));have pd:=h.ext gv;have pf:=hB29.step hJ hn2;have pg:=hB39.step hJ hn3;have ph:=hB49.step hJ hn4;have hz10:=hJ.size
  have hqxl:qx.length=k:=by have:=congrArg List.length gu;unfold exB at this;rw[Lb,Lb,Lx] at this;omega
  refine Qc<|x (QA O O)<|xe<|Qf<|QE O (λhK=>?_) (λhK=>?_)
  ·refine Qw ?_;have pj:p.ex.length≤k:=by have hw:¬(k:Int)<(p.ex.length:Int):=hK;omega
   rw[Lm pj] at gu k4;have hlt10:∀b∈[H,G],b<Y.heap.size:=λb hb=>by have:=kw b hb;omega
   refine Qf<|Qc<|x (Qa O)<|x (Qd pg O O)<|x (Qq (hk.ext gv) O)<|Qb<|xe<|Qg<|Qy (α:=Nat×Bool×Value×List KV) [(19,20),(22,22),(133,180)] (λz=>[(133,.int .i64 z.1)]) (λz w'=>z.1≤p.cs.length∧Step [H,G] Y w'∧Q3 w'.heap H 47 [zv.1,zv.2.1,zv.2.2,vx,z.2.2.1]∧Q3 w'.heap G 4 [.bool z.2.1] ∧
    KvN Y.heap.size w' z.2.2.1 z.2.2.2∧z.2.2.2.map (·.k)=csB c.cel p.co (p.cs.take z.1)∧z.2.1=(mi || csM c.cel p.co (p.cs.take z.1))∧∀q∈z.2.2.2,Ue q.nm) (λz=>p.cs.length - z.1) (by rfl) (0,mi,nS,[]) Z
    ⟨Lk _,Step.refl _ _,pa,gt,ZQ.nil,O,by simp[csM],λq hq=>by cases hq⟩ ?_
   rintro ⟨k,mk,vk,kx⟩ g ho ⟨hkk10,hF,kB1010,kB1110,kX10,gw,k5,pm⟩;simp only[] at hkk10 kB1010 kB1110 kX10 gw k5 pm;have gx:Step [] w ho:=gv.then hF (λb hb=>.inr (hup b hb));have k6:=h.ext gx;have kB210:=pf.step hF hn2;have kB310:=pg.step hF hn3;have kB410:=ph.step hF hn4;have kz10:=hF.size
   have hkxl:kx.length=k:=by have:=congrArg List.length gw;unfold csB at this;rw[Lb,Lb,Lx] at this;omega
   refine Qc<|x (QA O O)<|xe<|Qf<|QE O (λhK=>?_) (λhK=>?_)
   ·refine Qw ?_;have pj:p.cs.length≤k:=by have hw:¬(k:Int)<(p.cs.length:Int):=hK;omega
    rw[Lm pj] at gw k5;have hmm:mk=(exM c.cel p.co p.ex || csM c.cel p.co p.cs):=by rw[k5,k4]
    rw[←hmm] at S;have kXu:XvN w9.heap.size ho vx qx:=ZQ.low k0 hF kw;refine Qf<|Qc<|x (Qd kB1110 O O)<|xe<|Q2 O (λk7=>?_) (λk7=>?_)
    ·rw[if_pos k7] at S;subst S;refine Qc<|x (QF U)<|xl O<|Qr (us:=Yi) kB410 O O O O ⟨O,O,O,O,O,U⟩ λu11 k8 kB411=>Qe ?_;exact Qn ⟨[.agg Yi.toArray,.int .i64 13],⟨⟨_,O,QB O (kB411.at (L:=[]) (by simp)).cells⟩,rfl,U⟩,gx.then1 k8 (by omega),Yi,rfl,rfl,⟨rfl,rfl,rfl,rfl,rfl,U⟩,λ_=>rfl,λJ=>absurd J (by decide)⟩
    rw[if_neg (by rw[k7];simp)] at S;refine Qi ?_;have hmf:(exM c.cel p.co p.ex || csM c.cel p.co p.cs)=false:=by rw[←hmm];exact k7
    have hmf2:=MG.1 hmf;have hE1:qx.map (·.x)=QhL c.cel p:=gu.trans (QiK gs.2.1 hmf2.1);have hE2:kx.map (·.k)=QhN c.cel p:=gw.trans (QiV gs.2.1 hmf2.2);have hcel:(CL.mk zv.1 zv.2.1 zv.2.2 vx vk c.ev qc qr qx kx).cel=Qdm c.cel p:=by
     show Zw.mk c.ev (qc.map IV.it) (qr.map IV.it) (qx.map (·.x)) (kx.map (·.k))=Zw.mk c.cel.ev _ _ _ _;rw[kn,kq,hE1,hE2];rfl
    have hCu:∀L:LN,(∀b∈L,b<w.heap.size)→Zx (b4::L) ho.heap (CL.mk zv.1 zv.2.1 zv.2.2 vx vk c.ev qc qr qx kx):=by
     intro L hL;have e1:=hEi (b4::H::L) (λb hb=>by
      rcases Lc.1 hb with rfl | hb
      ·exact .inl (by omega)
      rcases Lc.1 hb with rfl | hb
      ·exact .inr O
      have:=hL b hb;exact .inl (by omega))
     have e2:EiA (G::b4::H::L) wc.heap zv c.ev qc qr:=e1.up (λb hb=>by
      rcases Lc.1 hb with rfl | hb
      ·exact .inr hb11
      exact .inl hb)
     have hm2:∀b∈[H,G],b∈G::b4::H::L:=λb hb=>by
      simp only[List.mem_cons,List.not_mem_nil,or_false] at hb;rcases hb with rfl | rfl <;> simp
     have e3:=((e2.ext kv).st (hJ.mono hm2)).st (hF.mono hm2);have e4:EiA (b4::L) ho.heap zv c.ev qc qr:=e3.up (λb hb=>by
      rcases Lc.1 hb with rfl | hb
      ·exact .inl (by simp)
      exact .inl (by simp[hb]))
     have hqx40:qx.length≤1099511627776:=by omega
     have hkx40:kx.length≤1099511627776:=by omega
     have pn:∀b∈b4::L,b<w9.heap.size:=λb hb=>by
      rcases Lc.1 hb with rfl | hb
      ·omega
      have:=hL b hb;omega
     have hLt10:∀b∈b4::L,b<Y.heap.size:=λb hb=>by have:=pn b hb;omega
     exact ⟨e4.ev,e4.co,e4.rq,⟨ZQ.arr kXu hqx40 pn,λq hq=>kXu.each q hq _ (λb hb=>.inl (pn b hb)),pc⟩,⟨ZQ.arr kX10 hkx40 hLt10,λq hq=>kX10.each q hq _ (λb hb=>.inl (hLt10 b hb)),pm⟩⟩
    rw[←hcel] at S;subst S;refine Qf<|Qc<|x (Qs kB1010 O O)<|xl O<|xf<|(YF (hCu [] (by simp))).mono ?_;rintro r12 hM ⟨rfl,ga⟩;refine Qe ?_;have gy:=gx.trans ga;have kB412:=kB410.ext ga;refine Qc<|Qb<|x (Q9 O O)<|xe<|Q7 O (λk9=>?_) (λk9=>?_)
    ·refine Qc<|x (QF U)<|Qb<|xl O<|Qr (us:=Yi) kB412 O O O O ⟨O,O,O,O,O,U⟩ λhG ma kB413=>Qe ?_;exact Qn ⟨[.agg Yi.toArray,.int .i64 (Zc (CL.mk zv.1 zv.2.1 zv.2.2 vx vk c.ev qc qr qx kx).cel)],⟨⟨_,O,QB O (kB413.at (L:=[]) (by simp)).cells⟩,rfl,U⟩,gy.then1 ma (by omega),Yi,rfl,rfl,⟨rfl,rfl,rfl,rfl,rfl,U⟩,λ_=>rfl,λJ=>absurd J k9⟩
    refine Qi ?_;have hone5:ZP [zv.1,zv.2.1,zv.2.2,vx,vk]:=⟨hY,ko,kr,QD kXu.own,QD kX10.own,U⟩
    refine Qc<|x (Qs (kB1010.ext ga) O O)<|xl O<|Qr (us:=[zv.1,zv.2.1,zv.2.2,vx,vk]) kB412 O O O O hone5 λhG ma kB413=>Qe<|Qn ⟨[.agg [zv.1,zv.2.1,zv.2.2,vx,vk].toArray,.int .i64 0],⟨⟨_,O,QB O (kB413.at (L:=[]) (by simp)).cells⟩,rfl,U⟩,gy.then1 ma (by omega),[zv.1,zv.2.1,zv.2.2,vx,vk],?_,rfl,hone5,λJ=>absurd J k9,λ_=>⟨(CL.mk zv.1 zv.2.1 zv.2.2 vx vk c.ev qc qr qx kx),rfl,hcel,λL hL=>?_⟩⟩
    ·have J:Zc (CL.mk zv.1 zv.2.1 zv.2.2 vx vk c.ev qc qr qx kx).cel=0:=Lu.1 k9;rw[J];rfl
    exact ((((hCu L hL).ext ga).st (ma.mono (by simp)))).up (λb hb=>.inl (by simp[hb]))
   refine Qi ?_;have ha:k<p.cs.length:=by have hw:(k:Int)<(p.cs.length:Int):=hK;omega
   have hN:p.cs.take (k+1)=p.cs.take k++[p.cs[k]'ha]:=Le ha;have po:=hcsz.1 _ (Lh ha);refine Zb (p.cs[k]'ha) λi gz=>?_;rw[gz] at hN po;have gb:i=(i.toNat:Int):=by omega
   have T:i.toNat<c.cs.length:=by omega
   have hy:=Lh T;have hO:csG c.cel i=(c.cs[i.toNat]'T).k:=by
    show (c.cs.map (·.k)).getD i.toNat ⟨.empty,[],0⟩=_;simp[List.getD,T]
   refine Zb (c.cs[i.toNat]'T) λq hq=>?_;rw[hq] at hy hO;have g0:=k6.cs.each q hy;have pp:=k6.cs.nm q hy;have hql:=g0.le;have hcsB:csB c.cel p.co (p.cs.take (k+1))=csB c.cel p.co (p.cs.take k)++[⟨q.nm,Ko p.co q.ts,q.bd⟩]:=by
    rw[hN];unfold csB;rw[Ls,Mt,hO];rfl
   have hcsM:csM c.cel p.co (p.cs.take (k+1))=(csM c.cel p.co (p.cs.take k) || mis p.co q.ts):=by
    rw[hN];unfold csM;rw[List.any_append,List.any_cons,List.any_nil,Bool.or_false,hO];rfl
   refine Qf<|Qg<|Qc<|xii (i:=k) (hk.ext gx) O O ha λa90 g2=>?_;rw[gz] at g2;refine x (Qu g2 O)<|Qe<|Qf<|QS (Step [] ho) [(0,true),(1,true),(2,true),(3,true),(4,true),(5,true),(6,true),(7,true),(8,true),(9,true),(10,true),(11,true),(12,true),(13,false),(14,false)] mixed (by rfl) (by kernel_rfl) (Step.drew _ _) ?_
   refine Go.Lg.p (λ_=>Qa O)<|pq (λ_ hc=>Qd (kB210.ext hc) O O)<|Go.Lg.p (λ_=>Ql)<|Go.Lg.pig (g:=Zv) (i:=i.toNat) O Xq k6.cs.arr O (congrArg (Value.int .i64) gb) T λa140 h140=>?_;rw[hq] at h140
   refine Go.Lg.p (λ_=>Q4 O)<|pq (λ_ hc=>Qu ((h140.fld 0 (.string q.nm) O).st hc) O)<|Go.Lg.p (λ_=>Qa O)<|pq (λ_ hc=>Qd (kB210.ext hc) O O)<|Go.Lg.p (λ_=>Ql)<|Go.Lg.pig (g:=Zv) (i:=i.toNat) O Xq k6.cs.arr O (congrArg (Value.int .i64) gb) T λa146 h146=>?_;rw[hq] at h146
   refine Go.Lg.p (λ_=>Q4 O)<|pq (λ_ hc=>Qu ((h146.fld 2 (.int .i64 q.bd) O).st hc) O)<|Go.Lg.p (λ_=>QF ⟨O,O,U⟩)<|pk<|Qv (us:=[.string .empty,nS,.int .i64 0]) O λhe u11 k8 hz kB15=>⟨(Step.drew [] ho).trans k8,?_⟩;refine pkl (hl:=by kernel_rfl)<|Qr (us:=[.string q.nm,nS,.int .i64 q.bd]) kB15 O O O O ⟨O,O,O,U⟩ λhM ga kB15=>pe ?_;have hz:ho.heap.size≤he:=hz
   have hH:Step [] ho hM:=((Step.drew [] ho).trans k8).then1 ga hz;have gy:=gx.trans hH;have k12:=h.ext gy;have kB212:=kB210.ext hH;have kz12:=hH.size;have hl15:=kB15.lt;have pt:=g0.ext hH;refine Qf<|Qc<|x (Qa O)<|x (Qd kB212 O O)<|Qb<|xig (g:=Zv) (i:=i.toNat) Xq k12.cs.arr O (congrArg (Value.int .i64) gb) T λa102 g3=>?_;rw[hq] at g3
   refine x (Q4 O)<|x (Qu (g3.fld 1 q.v O) O)<|x (Qq pt O)<|Qb<|xe ?_;have pu:∀b∈[he,G],w.heap.size≤b:=λb hb=>by simp only[List.mem_cons,List.not_mem_nil,or_false] at hb;omega
   have pw:b3∉[he,G]:=λhb=>by simp only[List.mem_cons,List.not_mem_nil,or_false] at hb;omega
   have hn1510:H∉[he,G]:=λhb=>by simp only[List.mem_cons,List.not_mem_nil,or_false] at hb;omega
   refine Qg<|Qy (α:=Nat×Bool×Value) [(22,22),(157,173)] (λz=>[(157,.int .i64 z.1)]) (λz w'=>z.1≤q.ts.length∧Step [he,G] hM w'∧Q3 w'.heap he 127 [.string q.nm,z.2.2,.int .i64 q.bd]∧Q3 w'.heap G 4 [.bool z.2.1] ∧
    w'.ownsRow hM.heap.size 129 2 z.2.2 z.1 ((Ko p.co (q.ts.take z.1)).flatMap QQ)∧z.2.1=(mk || mis p.co (q.ts.take z.1))) (λz=>q.ts.length - z.1) (by rfl) (0,mk,nS) Z
    ⟨Lk _,Step.refl _ _,kB15,kB1110.ext hH,QO _ _ _ _,by simp[mis]⟩ ?_
   rintro ⟨j,mj,vl⟩ g hG ⟨hj,gc,kB1513,kB1113,kO13,h6⟩;simp only[] at hj kB1513 kB1113 kO13 h6;have ks013:Step [] w hG:=gy.then gc (λb hb=>.inr (pu b hb));have kz13:=gc.size;have h8:=Qk kO13;refine Qc<|x (QA O O)<|xe<|Qf<|QE O (λhP=>?_) (λhP=>?_)
   ·refine Qw ?_;have g4:j=q.ts.length:=by have hw:¬(j:Int)<(q.ts.length:Int):=hP;omega
    rw[g4,MU] at kO13;rw[g4,MU] at h6;have mc:Step [G] ho hG:=(hH.any (L:=[G])).then gc (λb hb=>by
     simp only[List.mem_cons,List.not_mem_nil,or_false] at hb;rcases hb with rfl | rfl
     ·exact .inr hz
     exact .inl (by simp))
    have kB1013:=kB1010.step mc (by simpa using hn10);have kX13:KvN Y.heap.size hG vk kx:=ZQ.low kX10 mc (λb hb=>hlt10 b (kz b hb));have kXge:=Qk kX10.own;have pz:(Ko p.co q.ts).length=q.ts.length:=Lb ..
    refine Qx<|x (Qa O)<|x (Qd kB1013 O O)<|x (Qs kB1513 O O)<|xl O<|QC (us:=[Zv ⟨q.nm,vl,Ko p.co q.ts,q.bd⟩]) O O (by decide) (by simp) ⟨rfl,rfl,U⟩ λb126 u14 ht hb126 kB126 =>
     xl rfl<|QU (news:=Zv ⟨q.nm,vl,Ko p.co q.ts,q.bd⟩) (L:=[]) (Qm kX13.own ht) O O O (kB126.at (by simp)) (Qcu (q:=⟨q.nm,vl,Ko p.co q.ts,q.bd⟩) (QD kO13)) (by omega) (by have:=ht.size;omega) λhQ hf g5 ge p0=>?_
    have kz14:=ht.size;have kX15:KvN Y.heap.size hf hQ (kx++[⟨q.nm,vl,Ko p.co q.ts,q.bd⟩]):=ZQ.app2 (N:=hM.heap.size) (kX13.ext ht) (by show u14.ownsRow _ _ 2 vl (Ko p.co q.ts).length _;rw[pz];exact Qm kO13 ht) (by show (Ko p.co q.ts).length≤_;omega) (by omega) (λb hb=>by have:=kXge b hb;omega) g5 ge p0;have p4:H∉ob vk:=λhm=>by have:=(kXge H hm).1;omega
    have p5:G∉ob vk:=λhm=>by have:=(kXge G hm).1;omega
    have ks915:Step [H,G] Y hf:=((hF.trans' (mc.mono kz)).trans ht).then ge (λb hb=>.inr (kXge b hb).1);have kB1015:=(kB1013.ext ht).step ge p4;have kB1115:=(kB1113.ext ht).step ge p5;refine x (Qa O)<|xl O<|QG (j:=4) (u:=hQ) kB1015 O O (by simp) (QD g5) λu16 g6 kB1016=>xe ?_;refine Qx<|QN O O<|Qb<|xe ?_
    refine ⟨(k+1,mj,hQ,kx++[⟨q.nm,vl,Ko p.co q.ts,q.bd⟩]),by simp only[];omega,Z,ha,ks915.trans' (g6.mono ky),kB1016,kB1115.step g6 (by simp only[List.mem_singleton];omega),ZQ.low kX15 g6 (λb hb=>hlt10 b (ky b hb)),?_,?_,?_⟩
    ·simp only[];rw[hcsB,Ls,gw];rfl
    ·simp only[];rw[hcsM,h6,k5,Bool.or_assoc]
    intro q' p6;rcases Lj.1 p6 with h9' | h9'
    ·exact pm q' h9'
    simp only[List.mem_singleton] at h9';subst h9';exact pp
   refine Qi ?_;have hp:j<q.ts.length:=by have hw:(j:Int)<(q.ts.length:Int):=hP;omega
   have hR:q.ts.take (j+1)=q.ts.take j++[q.ts[j]'hp]:=Le hp;have mc:Step [G] ho hG:=(hH.any (L:=[G])).then gc (λb hb=>by
    simp only[List.mem_cons,List.not_mem_nil,or_false] at hb;rcases hb with rfl | rfl
    ·exact .inr hz
    exact .inl (by simp))
   have p7:P2s [] hG.heap q.v q.ts:=(h.ext ks013).cs.each q hy;refine Qf<|Qg<|Qc<|xig (g:=QQ) Yr p7 O O hp λa108 g7=>?_;refine Zb (q.ts[j]'hp) λlc p8=>?_;rw[p8] at g7 hR;have p9:Ko p.co (q.ts.take (j+1))=Ko p.co (q.ts.take j)++[((lwB p.co lc.1:Int),lc.2)]:=by
    rw[hR];unfold Ko;rw[Ls];rfl
   have qb:mis p.co (q.ts.take (j+1))=(mis p.co (q.ts.take j) || !decide (lc.1∈p.co)):=by
    rw[hR];unfold mis;rw[List.any_append];simp
   refine x (QI g7 O O)<|xl O<|Qv (us:=[.int .i64 0,.int .i64 0]) O λb22 u14 ht qf kB17=>xl O<|Qr (us:=QQ lc) kB17 O O O O ⟨O,O,U⟩ λhf ge kB17=>xe ?_;have hS:Step [] hG hf:=ht.then1 ge qf;have ks015:=ks013.trans hS;have kz15:=hS.size;have kB1515:=kB1513.ext hS;have kB1115:=kB1113.ext hS
   have kB315:Q3 hf.heap b3 95 [v0,v1,v2,v3]:=(((kB310.ext hH).step gc pw)).ext hS;have g8:he∉G::ob vl:=λhb=>by
    rcases Lc.1 hb with rfl | hb
    ·omega
    have:=(h8 he hb).1;omega
   have g9:b22∉G::ob vl:=λhb=>by
    rcases Lc.1 hb with rfl | hb
    ·omega
    have:=(h8 b22 hb).2;omega
   have ka:G∉ob vl:=λhb=>by have:=(h8 G hb).1;omega
   have qj:he∉ob vl:=λhb=>g8 (Ll _ hb);refine QS (Step (G::ob vl) hf) [(0,true),(1,true),(2,true),(3,true),(4,true),(6,true),(7,true),(5,false),(8,true),(9,false),(10,false),(11,true),(12,false)] mixed (by rfl) (by kernel_rfl) (Step.drew _ _) ?_;have mf:Step [] hf { hf with drawn:=hf.drawn+1 }:=Step.drew _ _
   have hzd:({ hf with drawn:=hf.drawn+1 }:World).heap.size=hf.heap.size:=rfl
   refine Go.Lg.p (λ_=>Qa O)<|pq (λ_ hc=>Qd (kB1515.step hc g8) O O)<|Go.Lg.p (λ_=>Ql)<|Go.Lg.p (λ_=>Qa O)<|pq (λ_ hc=>Qd (kB17.step hc g9) O O) <|
    Go.Lg.p (λ_=>Qa O)<|pq (λ_ hc=>Qd (kB17.step hc g9) O O)<|pk<|xc (first:=[]) (capt:=[.pointer (some ⟨b3,0,none⟩),.pointer (some ⟨G,0,none⟩)]) O<|(zm (kB315.ext mf) (kB1115.ext mf) (hc.ext (ks015.trans mf)) gs.2.1 lc.1).mono ?_
   rintro r16 u16 ⟨g6,rfl,kB1116⟩;have mg:=mf.any.trans' g6;have kz16:=mg.size;have hT:∀b∈[G],b∈G::ob vl:=λb hb=>by simp only[List.mem_singleton] at hb;simp[hb]
   refine ⟨mg.mono hT,?_⟩;refine Go.Lg.p (λ_=>QF ⟨O,O,U⟩)<|pk<|QC (us:=[QQ ((lwB p.co lc.1:Int),lc.2)]) O O (by decide) (by simp) ⟨rfl,rfl,U⟩ λb119 u17 qk hb119 gt=>⟨(mg.trans qk).mono hT,?_⟩;have kb:=mg.trans qk
   have kO17:u17.ownsRow hM.heap.size 129 2 vl j ((Ko p.co (q.ts.take j)).flatMap QQ):=Qj (Qm kO13 hS) kb (λb hb hm=>by simp only[List.mem_singleton] at hm;subst hm;exact ka hb);have kz17:=kb.size;refine pk<|QU (news:=QQ ((lwB p.co lc.1:Int),lc.2)) (L:=[]) kO17 O O O (gt.at (by simp)) (λu hu=>by
    simp only[List.mem_cons,List.not_mem_nil,or_false] at hu;rcases hu with rfl | rfl <;> rfl) (by omega) (by omega) λkc u18 hU mh hn18=>⟨(kb.mono hT).trans' (mh.mono (λb hb=>Ll _ hb)),?_⟩
   have kB1518:=((kB1515.step kb (by simp only[List.mem_singleton];omega))).step mh qj;have kB1118:=(kB1116.ext qk).step mh ka;refine Go.Lg.p (λ_=>Qa O)<|pkl (hl:=by kernel_rfl)<|QG (j:=1) (u:=kc) kB1518 O O (by simp) (QD hU) λu19 ql kB1519=>pe ?_;refine Qx<|QN O O<|Qb<|xe ?_;have qm:∀b∈[G],b∈[he,G]:=λb hb=>by simp only[List.mem_singleton] at hb;simp[hb]
   have qo:∀b∈[he],b∈[he,G]:=λb hb=>by simp only[List.mem_singleton] at hb;simp[hb]
   have ks1218:Step [he,G] hM u18:=((gc.trans hS).trans' (kb.mono qm)).then mh (λb hb=>.inr (h8 b hb).1);refine ⟨(j+1,mj || !decide (lc.1∈p.co),kc),by simp only[];omega,Z,hp,ks1218.trans' (ql.mono qo),kB1519,kB1118.step ql (by simp only[List.mem_singleton];omega),?_,?_⟩
   ·simp only[];rw[p9,Lz];have:=Qj hU ql (λb hb=>by
     simp only[List.mem_singleton];have:=(Qk hU b hb).1;omega)
    simpa using this
   simp only[];rw[qb,h6,Bool.or_assoc]
  refine Qi ?_;have ha:k<p.ex.length:=by have hw:(k:Int)<(p.ex.length:Int):=hK;omega
  have hN:p.ex.take (k+1)=p.ex.take k++[p.ex[k]'ha]:=Le ha;have po:=hexz.1 _ (Lh ha);refine Zb (p.ex[k]'ha) λi gz=>?_;rw[gz] at hN po;have gb:i=(i.toNat:Int):=by omega
  have T:i.toNat<c.ex.length:=by omega
  have hy:=Lh T;have hO:exG c.cel i=(c.ex[i.toNat]'T).x:=by
   show (c.ex.map (·.x)).getD i.toNat ⟨.empty,[]⟩=_;simp[List.getD,T]
  refine Zb (c.ex[i.toNat]'T) λq hq=>?_;rw[hq] at hy hO;have g0:=pd.ex.each q hy;have pp:=pd.ex.nm q hy;have hql:=g0.le;have hexB:exB c.cel p.co (p.ex.take (k+1))=exB c.cel p.co (p.ex.take k)++[⟨q.nm,Ko p.co q.ls⟩]:=by
   rw[hN];unfold exB;rw[Ls,Mt,hO];rfl
  have hexM:exM c.cel p.co (p.ex.take (k+1))=(exM c.cel p.co (p.ex.take k) || mis p.co q.ls):=by
   rw[hN];unfold exM;rw[List.any_append,List.any_cons,List.any_nil,Bool.or_false,hO];rfl
  refine Qf<|Qg<|Qc<|xii (i:=k) (hx.ext gv) O O ha λa90 g2=>?_;rw[gz] at g2;refine x (Qu g2 O)<|Qe<|Qc<|x (Qa O)<|x (Qd pf O O)<|Qb<|xig (g:=Zt) (i:=i.toNat) XX pd.ex.arr O (congrArg (Value.int .i64) gb) T λa95 h95=>?_;rw[hq] at h95;refine x (Q4 O)<|x (Qu (h95.fld 0 (.string q.nm) O) O)<|x (QF Z)<|xl O<|Qv (us:=[.string .empty,nS]) O λhg w11 qq hz mo =>
   xl rfl<|Qr (us:=[.string q.nm,nS]) mo O O O O ⟨O,O,U⟩ λgg hs12 mo=>xe ?_
  have hI:Step [] Y gg:=qq.then1 hs12 hz;have hs012:=gv.trans hI;have h12:=h.ext hs012;have hB212:=pf.ext hI;have hz12:=hI.size;have hl15:=mo.lt;have pt:=g0.ext hI;refine Qf<|Qc<|x (Qa O)<|x (Qd hB212 O O)<|Qb<|xig (g:=Zt) (i:=i.toNat) XX h12.ex.arr O (congrArg (Value.int .i64) gb) T λa102 g3=>?_;rw[hq] at g3
  refine x (Q4 O)<|x (Qu (g3.fld 1 q.v O) O)<|x (Qq pt O)<|Qb<|xe ?_;have pu:∀b∈[hg,G],w.heap.size≤b:=λb hb=>by simp only[List.mem_cons,List.not_mem_nil,or_false] at hb;omega
  have pw:b3∉[hg,G]:=λhb=>by simp only[List.mem_cons,List.not_mem_nil,or_false] at hb;omega
  have hn1510:H∉[hg,G]:=λhb=>by simp only[List.mem_cons,List.not_mem_nil,or_false] at hb;omega
  refine Qg<|Qy (α:=Nat×Bool×Value) [(17,17),(106,122)] (λz=>[(106,.int .i64 z.1)]) (λz w'=>z.1≤q.ls.length∧Step [hg,G] gg w'∧Q3 w'.heap hg 122 [.string q.nm,z.2.2]∧Q3 w'.heap G 4 [.bool z.2.1] ∧
   w'.ownsRow gg.heap.size 124 2 z.2.2 z.1 ((Ko p.co (q.ls.take z.1)).flatMap QQ)∧z.2.1=(mi || mis p.co (q.ls.take z.1))) (λz=>q.ls.length - z.1) (by rfl) (0,mi,nS) Z
   ⟨Lk _,Step.refl _ _,mo,gt.ext hI,QO _ _ _ _,by simp[mis]⟩ ?_
  rintro ⟨j,mj,vl⟩ g gh ⟨hj,gi,q5,za,gj,h6⟩;simp only[] at hj q5 za gj h6;have hs013:Step [] w gh:=hs012.then gi (λb hb=>.inr (pu b hb));have hz13:=gi.size;have h8:=Qk gj;refine Qc<|x (QA O O)<|xe<|Qf<|QE O (λhP=>?_) (λhP=>?_)
  ·refine Qw ?_;have g4:j=q.ls.length:=by have hw:¬(j:Int)<(q.ls.length:Int):=hP;omega
   rw[g4,MU] at gj;rw[g4,MU] at h6;have mq:Step [G] Y gh:=(hI.any (L:=[G])).then gi (λb hb=>by
    simp only[List.mem_cons,List.not_mem_nil,or_false] at hb;rcases hb with rfl | rfl
    ·exact .inr hz
    exact .inl (by simp))
   have hB1013:=pa.step mq (by simpa using hn10);have hX13:XvN w9.heap.size gh vx qx:=ZQ.low k0 mq (λb hb=>kw b (kz b hb));have mu:=Qk k0.own;have pz:(Ko p.co q.ls).length=q.ls.length:=Lb ..
   refine Qx<|x (Qa O)<|x (Qd hB1013 O O)<|x (Qs q5 O O)<|xl O<|QC (us:=[Zt ⟨q.nm,vl,Ko p.co q.ls⟩]) O O (by decide) (by simp) ⟨rfl,rfl,U⟩ λb126 w14 hv hb126 hB126 =>
    xl rfl<|QU (news:=Zt ⟨q.nm,vl,Ko p.co q.ls⟩) (L:=[]) (Qm hX13.own hv) O O O (hB126.at (by simp)) (zY (q:=⟨q.nm,vl,Ko p.co q.ls⟩) (QD gj)) (by omega) (by have:=hv.size;omega) λhQ hh g5 gk p0=>?_
   have hz14:=hv.size;have hX15:XvN w9.heap.size hh hQ (qx++[⟨q.nm,vl,Ko p.co q.ls⟩]):=ZQ.app2 (N:=gg.heap.size) (hX13.ext hv) (by show w14.ownsRow _ _ 2 vl (Ko p.co q.ls).length _;rw[pz];exact Qm gj hv) (by show (Ko p.co q.ls).length≤_;omega) (by omega) (λb hb=>by have:=mu b hb;omega) g5 gk p0;have p4:H∉ob vx:=λhm=>by have:=(mu H hm).1;omega
   have p5:G∉ob vx:=λhm=>by have:=(mu G hm).1;omega
   have hs915:Step [H,G] w9 hh:=((hJ.trans' (mq.mono kz)).trans hv).then gk (λb hb=>.inr (mu b hb).1);have hB1015:=(hB1013.ext hv).step gk p4;have z0:=(za.ext hv).step gk p5;refine x (Qa O)<|xl O<|QG (j:=3) (u:=hQ) hB1015 O O (by simp) (QD g5) λw16 ke hB1016=>xe ?_;refine Qx<|QN O O<|Qb<|xe ?_
   refine ⟨(k+1,mj,hQ,qx++[⟨q.nm,vl,Ko p.co q.ls⟩]),by simp only[];omega,Z,ha,hs915.trans' (ke.mono ky),hB1016,z0.step ke (by simp only[List.mem_singleton];omega),ZQ.low hX15 ke (λb hb=>kw b (ky b hb)),?_,?_,?_⟩
   ·simp only[];rw[hexB,Ls,gu];rfl
   ·simp only[];rw[hexM,h6,k4]
   intro q' p6;rcases Lj.1 p6 with h9' | h9'
   ·exact pc q' h9'
   simp only[List.mem_singleton] at h9';subst h9';exact pp
  refine Qi ?_;have hp:j<q.ls.length:=by have hw:(j:Int)<(q.ls.length:Int):=hP;omega
  have hR:q.ls.take (j+1)=q.ls.take j++[q.ls[j]'hp]:=Le hp;have mq:Step [G] Y gh:=(hI.any (L:=[G])).then gi (λb hb=>by
   simp only[List.mem_cons,List.not_mem_nil,or_false] at hb;rcases hb with rfl | rfl
   ·exact .inr hz
   exact .inl (by simp))
  have p7:P2s [] gh.heap q.v q.ls:=(h.ext hs013).ex.each q hy;refine Qf<|Qg<|Qc<|xig (g:=QQ) Yr p7 O O hp λa108 g7=>?_;refine Zb (q.ls[j]'hp) λlc p8=>?_;rw[p8] at g7 hR;have p9:Ko p.co (q.ls.take (j+1))=Ko p.co (q.ls.take j)++[((lwB p.co lc.1:Int),lc.2)]:=by
   rw[hR];unfold Ko;rw[Ls];rfl
  have qb:mis p.co (q.ls.take (j+1))=(mis p.co (q.ls.take j) || !decide (lc.1∈p.co)):=by
   rw[hR];unfold mis;rw[List.any_append];simp
  refine x (QI g7 O O)<|xl O<|Qv (us:=[.int .i64 0,.int .i64 0]) O λb17 w14 hv qf mv=>xl O<|Qr (us:=QQ lc) mv O O O O ⟨O,O,U⟩ λhh gk mv=>xe ?_;have hV:Step [] gh hh:=hv.then1 gk qf;have hs015:=hs013.trans hV;have hz15:=hV.size;have hB1515:=q5.ext hV;have z0:=za.ext hV
  have hB315:Q3 hh.heap b3 95 [v0,v1,v2,v3]:=(((pg.ext hI).step gi pw)).ext hV;have g8:hg∉G::ob vl:=λhb=>by
   rcases Lc.1 hb with rfl | hb
   ·omega
   have:=(h8 hg hb).1;omega
  have g9:b17∉G::ob vl:=λhb=>by
   rcases Lc.1 hb with rfl | hb
   ·omega
   have:=(h8 b17 hb).2;omega
  have ka:G∉ob vl:=λhb=>by have:=(h8 G hb).1;omega
  have qj:hg∉ob vl:=λhb=>g8 (Ll _ hb);refine QS (Step (G::ob vl) hh) [(0,true),(1,true),(2,true),(3,true),(4,true),(6,true),(7,true),(5,false),(8,true),(9,false),(10,false),(11,true),(12,false)] mixed (by rfl) (by kernel_rfl) (Step.drew _ _) ?_;have mw:Step [] hh { hh with drawn:=hh.drawn+1 }:=Step.drew _ _
  have hzd:({ hh with drawn:=hh.drawn+1 }:World).heap.size=hh.heap.size:=rfl
  refine Go.Lg.p (λ_=>Qa O)<|pq (λ_ hc=>Qd (hB1515.step hc g8) O O)<|Go.Lg.p (λ_=>Ql)<|Go.Lg.p (λ_=>Qa O)<|pq (λ_ hc=>Qd (mv.step hc g9) O O) <|
   Go.Lg.p (λ_=>Qa O)<|pq (λ_ hc=>Qd (mv.step hc g9) O O)<|pk<|xc (first:=[]) (capt:=[.pointer (some ⟨b3,0,none⟩),.pointer (some ⟨G,0,none⟩)]) O<|(zm (hB315.ext mw) (z0.ext mw) (hc.ext (hs015.trans mw)) gs.2.1 lc.1).mono ?_
  rintro r16 w16 ⟨ke,rfl,hB1116⟩;have my:=mw.any.trans' ke;have hz16:=my.size;have hT:∀b∈[G],b∈G::ob vl:=λb hb=>by simp only[List.mem_singleton] at hb;simp[hb]
  refine ⟨my.mono hT,?_⟩;refine Go.Lg.p (λ_=>QF ⟨O,O,U⟩)<|pk<|QC (us:=[QQ ((lwB p.co lc.1:Int),lc.2)]) O O (by decide) (by simp) ⟨rfl,rfl,U⟩ λb119 w17 z2 hb119 ku=>⟨(my.trans z2).mono hT,?_⟩;have kf:=my.trans z2
  have hO17:w17.ownsRow gg.heap.size 124 2 vl j ((Ko p.co (q.ls.take j)).flatMap QQ):=Qj (Qm gj hV) kf (λb hb hm=>by simp only[List.mem_singleton] at hm;subst hm;exact ka hb);have hz17:=kf.size;refine pk<|QU (news:=QQ ((lwB p.co lc.1:Int),lc.2)) (L:=[]) hO17 O O O (ku.at (by simp)) (λu hu=>by
   simp only[List.mem_cons,List.not_mem_nil,or_false] at hu;rcases hu with rfl | rfl <;> rfl) (by omega) (by omega) λkc w18 hU mz hn18=>⟨(kf.mono hT).trans' (mz.mono (λb hb=>Ll _ hb)),?_⟩
  have hB1518:=((hB1515.step kf (by simp only[List.mem_singleton];omega))).step mz qj;have hB1118:=(hB1116.ext z2).step mz ka;refine Go.Lg.p (λ_=>Qa O)<|pkl (hl:=by kernel_rfl)<|QG (j:=1) (u:=kc) hB1518 O O (by simp) (QD hU) λw19 z3 hB1519=>pe ?_;refine Qx<|QN O O<|Qb<|xe ?_;have qm:∀b∈[G],b∈[hg,G]:=λb hb=>by simp only[List.mem_singleton] at hb;simp[hb]
  have qo:∀b∈[hg],b∈[hg,G]:=λb hb=>by simp only[List.mem_singleton] at hb;simp[hb]
  have hs1218:Step [hg,G] gg w18:=((gi.trans hV).trans' (kf.mono qm)).then mz (λb hb=>.inr (h8 b hb).1);refine ⟨(j+1,mj || !decide (lc.1∈p.co),kc),by simp only[];omega,Z,hp,hs1218.trans' (z3.mono qo),hB1519,hB1118.step z3 (by simp only[List.mem_singleton];omega),?_,?_⟩
  ·simp only[];rw[p9,Lz];have:=Qj hU z3 (λb hb=>by
    simp only[List.mem_singleton];have:=(Qk hU b hb).1;omega)
   simpa using this
  simp only[];rw[qb,h6,Bool.or_assoc]
 refine Qi ?_;have gl:k<I.length:=by have hw:(k:Int)<(I.length:Int):=m4;omega
 have hmem:=Lh gl;have hdr:I.drop k=I[k]'gl::I.drop (k+1):=LJ gl;refine Qf<|Qg<|Qc<|xig (g:=skC) QjR (hA54.ext hA) O O gl λa58 h58=>?_;refine Zb (I[k]'gl) λq hq=>?_;rw[hq] at h58 hmem hdr;have hqi:=hl4i q hmem;rw[hdr,show q=(q.1,q.2.1,q.2.2) from rfl,ck4] at hC
 refine x (QI h58 O O)<|xl O<|Qv (us:=[nS,.int .i64 0]) O λb8 w8 hX hb8 m0=>xl O<|Qr (us:=skC q) m0 O O O O ⟨hqi.one,O,U⟩ λw9 m9 m0=>xe ?_;have hD:Step [] V w9:=hX.then1 m9 hb8;have hZ:=gr.trans hD;refine Qc<|x (Qa O)<|x (Qd m0 O O)<|x (Qa O)<|x (Qd m0 O O)<|xl O<|xf<|(QaI (hqi.ext hZ) q.2.2).mono ?_;rintro r10 Y ⟨rfl,rfl⟩;refine Qe<|Qc<|Qb<|x (Q9 O O)<|xe ?_
 refine Q7 rfl (λkg=>?_) (λkg=>?_)
 ·rw[if_pos kg] at hC;have hne:ck4 I≠0:=by rw[←hC];exact kg
  rw[if_pos hne,←hC] at S;subst S;have ph:Q3 Y.heap b4 47 Yi:=((m3.ext hW).ext hA).ext hD;refine Qc<|x (QF U)<|Qb<|xl O<|Qr (us:=Yi) ph O O O O ⟨O,O,O,O,O,U⟩ λw11 qq hB411=>Qe ?_
  exact Qn ⟨[.agg Yi.toArray,.int .i64 (Xy q.2.2 none q.2.1)],⟨⟨_,O,QB O (hB411.at (L:=[]) (by simp)).cells⟩,rfl,U⟩,hZ.then1 qq (by omega),Yi,rfl,rfl,⟨rfl,rfl,rfl,rfl,rfl,U⟩,λ_=>rfl,λJ=>absurd J kg⟩
 rw[if_neg kg] at hC;refine Qi<|Qx<|QN O O<|Qb<|xe ?_;exact ⟨k+1,by omega,Z,gl,hA.trans hD,hC⟩
theorem jA (n:Nat):(1:Int)*(2:Int) ^ n=((1 <<< n:Nat):Int):=by
 rw[Nat.shiftLeft_eq,Ns,Int.one_mul,Int.natCast_pow];rfl
theorem JN {n:Nat}(h:n<16):1 <<< n<65536:=by
 rw[Nat.shiftLeft_eq,Ns];exact Nat.pow_lt_pow_right (by decide) h
theorem Qa7 {b k:Nat}(hb:b<65536) (hk:k<16):orB b k<65536:=Qcd hb (JN hk)
theorem QiA {n:Nat}(h:n<16):inK .u16 ((1:Int)*(2:Int) ^ n):=by
 rw[jA];have h1:=JN h;generalize 1 <<< n=m at h1;exact ⟨by omega,by omega⟩
theorem QeT {x:YH}:∀(l:List YH) (k b:Nat),b<65536→k+l.length≤16→rqB x k b l<65536
 | [],_,_,hb,_=>hb
 | y::l,k,b,hb,hk=>by
  rw[rqB];refine QeT l _ _ ?_ (by simp at hk;omega);by_cases h:(y.a.al.any λe=>decide (e∈x.a.al))=true
  ·rw[if_pos h];exact Qa7 hb (by simp at hk;omega)
  rw[if_neg h];exact hb
theorem jI (ls:List (Int×Int)) (l:Int×Int):qN (ls++[l])=orB (qN ls) l.1.toNat:=by
 unfold qN;rw[MA];rfl
theorem yu:∀(ls:List (Int×Int)),(∀l∈ls,0≤l.1∧l.1<16)→qN ls<65536:=by
 intro ls;unfold qN;have key:∀(ls:List (Int×Int)) (b:Nat),b<65536→(∀l∈ls,0≤l.1∧l.1<16)→ls.foldl (λb l=>orB b l.1.toNat) b<65536:=by
  intro ls;induction ls with
  | nil=>intro b hb _;exact hb
  | cons l ls ih =>
   intro b hb h;exact ih _ (Qa7 hb (by have:=h l Ln;omega)) (λl' hl=>h l' (Ll _ hl))
 exact key ls 0 (by decide)
theorem yL (m:Nat) (hm:m<65536) (w:World):QJ prog 65 [.int .u16 m] w λr w'=>Step [] w w'∧Qt 3 w.heap.size w' r (setK m 8):=by
 refine QJ.of_W func65 O ntmps65 results65 (by simp) ?_;refine Qc<|Qe<|Qc<|Qe<|Qf<|Qc<|Qb<|xe<|Qg<|Qy (α:=Nat×Value) [(3,17)] (λz=>[(3,z.2),(5,.int .i64 z.1)]) (λz w'=>z.1≤8∧Step [] w w'∧Qt 3 w.heap.size w' z.2 (setK m z.1)) (λz=>8 - z.1) (by rfl) (0,nS) ⟨O,O,U⟩
  ⟨Lk _,Step.refl _ _,QO _ _ _ _⟩ ?_
 rintro ⟨k,v⟩ g w1 ⟨hk,G,E⟩;simp only[] at hk E;have hg:=YV m k;have hh:=G.size;refine Qc<|x (QA O O)<|xe<|Qf<|QE O (λT=>?_) (λT=>?_)
 ·refine Qw<|Qc<|Qb<|Qe ?_;have V:k=8:=by omega
  rw[V] at E;exact Qn ⟨[v],Z,G,E⟩
 have J:k<8:=by omega
 have Y:m / 2 ^ k<65536:=Nat.lt_of_le_of_lt (Nat.div_le_self _ _) hm;have H:=VA m k;refine Qi<|Qf<|Qg<|Qc<|Qb<|Qe<|Qc<|Qb<|Qb<|x (zp (n:=k) O O (by show k≤16;omega))<|x (Qb7 (a:=m / 2 ^ k) (b:=1) (congrArg (Value.int .u16) (yd m k)) O Y (by decide))<|x (Q8 O O)<|xe<|QE rfl (λS=>?_) (λS=>?_)
 ·rw[if_neg (λe=>S (by rw[e];rfl))] at H;refine Qi<|Qx<|QN O O<|Qb<|xe ?_;exact ⟨(k+1,v),by simp only[];omega,⟨O,O,U⟩,J,G,by simp only[];rw[H];exact E⟩
 rw[if_pos (by omega)] at H;refine Qx<|Qb<|Qb<|xl O<|QC (us:=[[.int .i64 k]]) O O (by decide) (by simp) ⟨rfl,rfl,U⟩ λhj w2 I hl ha=>?_;have hc:=Qm E I;have hn:=I.size;refine xl rfl<|QU (news:=[.int .i64 k]) (L:=[]) hc O O O (ha.at (by simp)) (by simp[Value.oneCell']) (by omega) (by omega) λv3 w3 he hf ho =>
  Qe ?_
 have hge:=Qk E;refine Qx<|QN O O<|Qb<|xe<|⟨(k+1,v3),by simp only[];omega,⟨O,O,U⟩,J,(G.trans I).then hf (λb hb=>.inr (hge b hb).1),?_⟩;simp only[];rw[H];exact Qt.snoc he
theorem QeK {w:World}{c:CL}{E G i:Nat}(J:Q3 w.heap E 47 c.cells) (S:Q3 w.heap G 3 [.int .i64 i]) (hc:Zx [] w.heap c) {q:IV}(hi:c.rq[i]?=some q) (e:Int) :
  QJ prog 136 [.int .i64 e,.pointer (some ⟨E,0,none⟩),.pointer (some ⟨G,0,none⟩)] w λr w'=>r=.bool (decide (e∈q.p.a.al))∧Step [] w w':=by
 obtain ⟨H,hq⟩:=LX.1 hi;have T:=hc.rq.each q (hq ▸ Lh H);refine QJ.of_W func136 O ntmps136 results136 (by simp) ?_;refine Qc<|Qe<|Qc<|x (Qa O)<|x (Qd J O O)<|x (Qd S O O)<|xig (g:=Zf) (i:=i) YK hc.rq.arr O O H λV I=>?_;rw[hq] at I;refine x (Q4 O)<|x (Q4 O)<|x (Qu ((I.fld 1 q.p.va O)) O)<|Qb<|xl O<|xf<|(ZJ T.al e).mono ?_
 rintro Y w1 ⟨rfl,rfl⟩;refine Qe ?_;exact Qn ⟨[_],Z,O,Step.refl _ _⟩
theorem QhF {w:World}{c:CL}{T i:Nat}(hg:Q3 w.heap T 47 c.cells) (hc:Zx [] w.heap c) (h8:c.co.length≤8) {q:IV}(hi:c.rq[i]?=some q) :
  QJ prog 134 [.int .i64 i,.pointer (some ⟨T,0,none⟩)] w λr w'=>r=.int .u16 (rqB q.it 0 0 c.cel.co)∧Step [] w w':=by
 refine QJ.of_W func134 O ntmps134 results134 (by simp) ?_;refine Qc<|xl O<|QT (us:=[.int .i64 i]) O λb2 w1 V hz ho=>Qe<|Qc<|Qe<|Qf<|Qc<|x (Qa O)<|x (Qd (hg.ext V) O O)<|x (Qq (hc.ext V).co.arr O)<|Qb<|xe ?_
 refine Qg<|Qy (α:=Nat×Nat) [(4,6),(10,24)] (λz=>[(4,.int .u16 z.2),(10,.int .i64 z.1)]) (λz w'=>z.1≤c.co.length∧Step [] w1 w'∧z.2<65536∧rqB q.it z.1 z.2 ((c.co.drop z.1).map (·.it))=rqB q.it 0 0 c.cel.co) (λz=>c.co.length - z.1) (by rfl) (0,0) ⟨O,O,U⟩
  ⟨Lk _,Step.refl _ _,by decide,O⟩ ?_
 rintro ⟨k,b⟩ g w2 ⟨hk,J,hb,E⟩;simp only[] at hk hb E;have Y:=V.trans J;have h2:=hc.ext Y;refine Qc<|x (QA O O)<|xe<|Qf<|QE O (λha=>?_) (λha=>?_)
 ·refine Qw ?_;have hp:c.co.length≤k:=by have hq:¬(k:Int)<(c.co.length:Int):=ha;omega
  rw[Lq hp] at E;have hs:b=rqB q.it 0 0 c.cel.co:=E;refine Qc<|Qb<|Qe ?_;exact Qn ⟨[.int .u16 b],Z,by rw[hs];rfl,Y⟩
 have G:k<c.co.length:=by have hq:(k:Int)<(c.co.length:Int):=ha;omega
 have hh:=Lh G;rw[XM G,rqB] at E;refine Qi<|Qf<|Qg<|Qc<|Qb<|xig (g:=Zf) (i:=k) YK h2.co.arr O O G λh1 hj=>?_;refine Zb (c.co[k]'G) λy hy=>?_;rw[hy] at hj hh E;have S:=h2.co.each y hh;refine x (QI hj O O)<|xl O<|Qv (us:=[.string .empty,nS,.int .i64 0,nS,nS]) O λb6 w3 ht hu he=>x Qh <|
  xl rfl<|Qr (us:=Zf y) he O O O O ⟨O,S.al.one,O,S.mr.one,S.ed.one,U⟩ λw4 hv he=>xe ?_
 have I:Step [] w2 w4:=ht.then1 hv hu;have hl:=Y.trans I;refine Qc<|x (Qa O)<|x (Qa O)<|x (Qd he O O)<|x (Zq (l:=[]) (l':=[_,_]))<|xl O<|xf<|(QcR (q:=λe=>decide (e∈q.p.a.al)) (cap:=[.pointer (some ⟨T,0,none⟩),.pointer (some ⟨b2,0,none⟩)]) (S.al.ext I)
  (λe w5 H=>QeK ((hg.ext hl).ext H) ((ho.ext (J.trans I)).ext H) ((hc.ext hl).ext H) hi e)).mono ?_
 rintro r5 w5 ⟨rfl,H⟩;refine xe<|Q2 rfl (λhf=>?_) (λhf=>?_)
 ·rw[if_pos (by exact hf)] at E;refine Qx<|Qb<|Qb<|x (Qb5 (n:=k) O O (by show k≤16;omega) (QiA (by omega)))<|x (yn (a:=b) (b:=1 <<< k) O (congrArg (Value.int .u16) (jA k)) hb (JN (by omega)))<|Qe<|Qx<|QN O O<|Qb<|xe ?_;exact ⟨(k+1,orB b k),by simp only[];omega,⟨O,O,U⟩,G,(J.trans I).trans H,Qa7 hb (by omega),E⟩
 rw[if_neg (by intro h0;have hw:(y.p.a.al.any λe=>decide (e∈q.p.a.al))=false:=hf;have hn:(y.p.a.al.any λe=>decide (e∈q.p.a.al))=true:=h0;rw[hw] at hn;cases hn)] at E;refine Qi<|Qx<|QN O O<|Qb<|xe ?_;exact ⟨(k+1,b),by simp only[];omega,⟨O,O,U⟩,G,(J.trans I).trans H,hb,E⟩
theorem QhE {w:World}{c:CL}{T i:Nat}(hf:Q3 w.heap T 47 c.cells) (hc:Zx [] w.heap c) {q:XV}(hi:c.ex[i]?=some q) (hm:∀l∈q.ls,0≤l.1∧l.1<16) :
  QJ prog 137 [.int .i64 i,.pointer (some ⟨T,0,none⟩)] w λr w'=>r=.int .u16 (qN q.ls)∧Step [] w w':=by
 obtain ⟨V,hq⟩:=LX.1 hi;have H:=hc.ex.each q (hq ▸ Lh V);have ht:=H.le;refine QJ.of_W func137 O ntmps137 results137 (by simp) ?_;refine Qc<|Qe<|Qc<|Qe<|Qf<|Qc<|x (Qa O)<|x (Qd hf O O)<|Qb<|xig (g:=Zt) (i:=i) XX hc.ex.arr O O V λhu Y=>?_;rw[hq] at Y;refine x (Q4 O)<|x (Qu (Y.fld 1 q.v O) O)<|x (Qq H O)<|Qb<|xe ?_
 refine Qg<|Qy (α:=Nat×Nat) [(4,4),(6,6),(14,23)] (λz=>[(4,.int .u16 z.2),(14,.int .i64 z.1)]) (λz w'=>z.1≤q.ls.length∧Step [] w w'∧z.2=qN (q.ls.take z.1)) (λz=>q.ls.length - z.1) (by rfl) (0,0) ⟨O,O,U⟩
  ⟨Lk _,Step.refl _ _,O⟩ ?_
 rintro ⟨k,b⟩ g w1 ⟨hk,I,hb⟩;simp only[] at hk hb;have hg:b<65536:=by rw[hb];exact yu _ (λl hl=>hm l (LZ hl))
 refine Qc<|x (QA O O)<|xe<|Qf<|QE O (λJ=>?_) (λJ=>?_)
 ·refine Qw ?_;have hh:q.ls.length≤k:=by have G:¬(k:Int)<(q.ls.length:Int):=J;omega
  rw[Lm hh] at hb;refine Qc<|Qb<|Qe ?_;exact Qn ⟨[.int .u16 b],Z,by rw[hb];rfl,I⟩
 have E:k<q.ls.length:=by have G:(k:Int)<(q.ls.length:Int):=J;omega
 have ha:q.ls.take (k+1)=q.ls.take k++[q.ls[k]'E]:=Le E;have hj:=hm _ (Lh E);refine Qi<|Qf<|Qg<|Qc<|xig (g:=QQ) Yr (H.ext I) O O E λhv G=>?_;refine Zb (q.ls[k]'E) λl hl=>?_;rw[hl] at G ha hj;have hn:l.1=(l.1.toNat:Int):=by omega
 have he:l.1.toNat<16:=by omega
 refine x (QI G O O)<|xl O<|Qv (us:=[.int .i64 0,.int .i64 0]) O λb6 w2 ho hp S=>xl O<|Qr (us:=QQ l) S O O O O ⟨O,O,U⟩ λw3 hr S =>
  xe ?_
 have hs:Step [] w1 w3:=ho.then1 hr hp;refine Qx<|Qb<|x (Qa O)<|x (Qd S O O)<|x (Qb5 (n:=l.1.toNat) O (congrArg (Value.int .i64) hn) (by show l.1.toNat≤16;omega) (QiA he))<|x (yn (a:=b) (b:=1 <<< l.1.toNat) O (congrArg (Value.int .u16) (jA _)) hg (JN he))<|Qe<|Qx<|QN O O<|Qb<|xe ?_
 exact ⟨(k+1,orB b l.1.toNat),by simp only[];omega,⟨O,O,U⟩,E,I.trans hs,by simp only[];rw[ha,jI,hb]⟩
theorem QhD {w:World}{c:CL}{T i:Nat}(hf:Q3 w.heap T 47 c.cells) (hc:Zx [] w.heap c) {q:KV}(hi:c.cs[i]?=some q) (hm:∀l∈q.ts,0≤l.1∧l.1<16) :
  QJ prog 138 [.int .i64 i,.pointer (some ⟨T,0,none⟩)] w λr w'=>r=.int .u16 (qN q.ts)∧Step [] w w':=by
 obtain ⟨V,hq⟩:=LX.1 hi;have H:=hc.cs.each q (hq ▸ Lh V);have ht:=H.le;refine QJ.of_W func138 O ntmps138 results138 (by simp) ?_;refine Qc<|Qe<|Qc<|Qe<|Qf<|Qc<|x (Qa O)<|x (Qd hf O O)<|Qb<|xig (g:=Zv) (i:=i) Xq hc.cs.arr O O V λhu Y=>?_;rw[hq] at Y;refine x (Q4 O)<|x (Qu (Y.fld 1 q.v O) O)<|x (Qq H O)<|Qb<|xe ?_
 refine Qg<|Qy (α:=Nat×Nat) [(4,4),(6,6),(14,23)] (λz=>[(4,.int .u16 z.2),(14,.int .i64 z.1)]) (λz w'=>z.1≤q.ts.length∧Step [] w w'∧z.2=qN (q.ts.take z.1)) (λz=>q.ts.length - z.1) (by rfl) (0,0) ⟨O,O,U⟩
  ⟨Lk _,Step.refl _ _,O⟩ ?_
 rintro ⟨k,b⟩ g w1 ⟨hk,I,hb⟩;simp only[] at hk hb;have hg:b<65536:=by rw[hb];exact yu _ (λl hl=>hm l (LZ hl))
 refine Qc<|x (QA O O)<|xe<|Qf<|QE O (λJ=>?_) (λJ=>?_)
 ·refine Qw ?_;have hh:q.ts.length≤k:=by have G:¬(k:Int)<(q.ts.length:Int):=J;omega
  rw[Lm hh] at hb;refine Qc<|Qb<|Qe ?_;exact Qn ⟨[.int .u16 b],Z,by rw[hb];rfl,I⟩
 have E:k<q.ts.length:=by have G:(k:Int)<(q.ts.length:Int):=J;omega
 have ha:q.ts.take (k+1)=q.ts.take k++[q.ts[k]'E]:=Le E;have hj:=hm _ (Lh E);refine Qi<|Qf<|Qg<|Qc<|xig (g:=QQ) Yr (H.ext I) O O E λhv G=>?_;refine Zb (q.ts[k]'E) λl hl=>?_;rw[hl] at G ha hj;have hn:l.1=(l.1.toNat:Int):=by omega
 have he:l.1.toNat<16:=by omega
 refine x (QI G O O)<|xl O<|Qv (us:=[.int .i64 0,.int .i64 0]) O λb6 w2 ho hp S=>xl O<|Qr (us:=QQ l) S O O O O ⟨O,O,U⟩ λw3 hr S =>
  xe ?_
 have hs:Step [] w1 w3:=ho.then1 hr hp;refine Qx<|Qb<|x (Qa O)<|x (Qd S O O)<|x (Qb5 (n:=l.1.toNat) O (congrArg (Value.int .i64) hn) (by show l.1.toNat≤16;omega) (QiA he))<|x (yn (a:=b) (b:=1 <<< l.1.toNat) O (congrArg (Value.int .u16) (jA _)) hg (JN he))<|Qe<|Qx<|QN O O<|Qb<|xe ?_
 exact ⟨(k+1,orB b l.1.toNat),by simp only[];omega,⟨O,O,U⟩,E,I.trans hs,by simp only[];rw[ha,jI,hb]⟩
end Go.Proofs.YtdffckgdcegpaaaGreatDoor
namespace Go.Lg
theorem xcG {P:Program}{f:Fr}{w:World}{K:Fr→World→Prop}{d:Option Nat}{ty:Nat}{ps:String}{af:Array Edge}{gd:Option (Nat×Bool)}{x:Operand}{l:List Operand}{at_:Array Nat}
  {g:Nat} {first capt:LV} (E:∃fn,Fu P g fn) (hx:ev f x=.func (.func g) first.toArray capt.toArray) (h:QJ P g (first++l.map (ev f)++capt) w λv w'=>K (QX f d v) w') :
  XO P ⟨d,.call ⟨.value x,l.toArray,at_⟩,ty,ps,af,gd⟩ f w K:=by
 obtain ⟨fn,G⟩:=E;exact xc (fn:=fn) hx h
end Go.Lg
namespace Go.Proofs.YtdffckgdcegpaaaGreatDoor
open Go.Proofs.Tryz
open Go.Lg
def gK (m:Nat):Nat:=if m=0 then 134 else if m=1 then 137 else 138
theorem Qf6 (m:Nat):∃fn,Fu prog (gK m) fn:=by
 unfold gK;split
 ·exact ⟨_,inferInstance⟩
 split
 ·exact ⟨_,inferInstance⟩
 exact ⟨_,inferInstance⟩
abbrev Xb (c:Zw) (m:Nat):LN:=srK c ((m:Int)+1)
theorem QeN (c:Zw):Xb c 0=srR c:=rfl
theorem QeM (c:Zw):Xb c 1=srX c:=rfl
theorem QeL (c:Zw):Xb c 2=srC c:=rfl
structure Kl (c:Zw):Prop where
 c8:c.co.length≤8
 r:c.rq.length≤32
 x:c.ex.length≤32
 k:c.cs.length≤32
 xl:∀e∈c.ex,∀l∈e.ls,0≤l.1∧l.1<16
 kl:∀e∈c.cs,∀l∈e.ts,0≤l.1∧l.1<16
theorem Qhe.sr {c:Zw}(h:Qhe c):Kl c:=by
 have h1:=V8 h.cd;have h2:(szs c.co).length=c.co.length:=Lb ..;have E:=h.c8;have G:=h.cr;refine ⟨E,by omega,h1.xl,h1.kl,λe he l hl=>?_,λe he l hl=>?_⟩
 ·have:=h1.x e he l hl;omega
 have:=(h1.k e he).1 l hl;omega
theorem KU {c:Zw}(h:Kl c) {m:Nat}(hm:m<3):(Xb c m).length≤32:=by
 have h1:=h.r;have h2:=h.x;have h3:=h.k;rcases m with _ | _ | _ | m
 ·rw[QeN];unfold srR;rw[Lb];exact h1
 ·rw[QeM];unfold srX;rw[Lb];exact h2
 ·rw[QeL];unfold srC;rw[Lb];exact h3
 omega
theorem JM {c:Zw}(h:Kl c) {m:Nat}(hm:m<3):∀b∈Xb c m,b<65536:=by
 have E:=h.c8;rcases m with _ | _ | _ | m
 ·rw[QeN];unfold srR;intro b hb;obtain ⟨x,_,rfl⟩:=Ly.1 hb;exact QeT _ _ _ (by decide) (by omega)
 ·rw[QeM];unfold srX;intro b hb;obtain ⟨x,hx,rfl⟩:=Ly.1 hb;exact yu _ (h.xl x hx)
 ·rw[QeL];unfold srC;intro b hb;obtain ⟨x,hx,rfl⟩:=Ly.1 hb;exact yu _ (h.kl x hx)
 omega
abbrev jk (b1:Nat) (c:Zw) (m:Nat):LV:=[.int .i64 ((m:Int)+1),.int .i64 (Xb c m).length,.func (.func (gK m)) #[] #[.pointer (some ⟨b1,0,none⟩)]]
theorem UH (E:Nat) (c:Zw) (m:Nat):(jk E c m).length=3:=rfl
theorem QaS {w:World}{c:CL}{I m i:Nat}(G:Q3 w.heap I 47 c.cells) (hc:Zx [] w.heap c) (H:Kl c.cel) (hm:m<3) (hi:i<(Xb c.cel m).length) :
  QJ prog (gK m) [.int .i64 i,.pointer (some ⟨I,0,none⟩)] w λr w'=>r=.int .u16 ((Xb c.cel m)[i]'hi:Nat)∧Step [] w w':=by
 rcases m with _ | _ | _ | m
 ·have hl:(Xb c.cel 0).length=c.rq.length:=by rw[QeN];unfold srR;rw[Lb];exact Lb ..
  have E:i<c.rq.length:=Nat.lt_of_lt_of_eq hi hl;have e:(Xb c.cel 0)[i]'hi=rqB (c.rq[i]'E).it 0 0 c.cel.co:=by
   show (srR c.cel)[i]'_=_;simp[srR,CL.cel]
  rw[e];have J:c.co.length≤8:=by have:=H.c8;rw[show c.cel.co.length=c.co.length from Lb ..] at this;exact this
  exact QhF G hc J (Lt E)
 ·have hl:(Xb c.cel 1).length=c.ex.length:=by rw[QeM];unfold srX;rw[Lb];exact Lb ..
  have E:i<c.ex.length:=Nat.lt_of_lt_of_eq hi hl;have e:(Xb c.cel 1)[i]'hi=qN (c.ex[i]'E).ls:=by
   show (srX c.cel)[i]'_=_;simp[srX,CL.cel,XV.x]
  rw[e];exact QhE G hc (Lt E) (λl hl=>H.xl (c.ex[i]'E).x (LL (Lh E)) l hl)
 ·have hl:(Xb c.cel 2).length=c.cs.length:=by rw[QeL];unfold srC;rw[Lb];exact Lb ..
  have E:i<c.cs.length:=Nat.lt_of_lt_of_eq hi hl;have e:(Xb c.cel 2)[i]'hi=qN (c.cs[i]'E).ts:=by
   show (srC c.cel)[i]'_=_;simp[srC,CL.cel,KV.k]
  rw[e];exact QhD G hc (Lt E) (λl hl=>H.kl (c.cs[i]'E).k (LL (Lh E)) l hl)
 omega
structure QmO (N:Nat) (w:World) (c:CL) (r:Value) (b1 b:Nat):Prop where
 r:r=.slice (some ⟨b,0,none⟩) 3 3
 n1:N≤b1
 n:N≤b
 B1:Q3 w.heap b1 47 c.cells
 B:Q3 w.heap b 137 ([0,1,2].flatMap (jk b1 c.cel))
theorem Kv {L:LN}{w:World}{c:CL}(J:Zx L w.heap c) :
  QJ prog 61 [c.val] w λr w'=>Step [] w w'∧∃E b,QmO w.heap.size w' c r E b:=by
 have h:=J.up (L':=[]) (by simp);have e0:(Xb c.cel 0).length=c.rq.length:=by rw[QeN];unfold srR;rw[Lb];exact Lb ..
 have e1:(Xb c.cel 1).length=c.ex.length:=by rw[QeM];unfold srX;rw[Lb];exact Lb ..
 have e2:(Xb c.cel 2).length=c.cs.length:=by rw[QeL];unfold srC;rw[Lb];exact Lb ..
 refine QJ.of_W func61 O ntmps61 results61 (by simp) ?_;refine Qc<|xl O<|QT (us:=c.cells) O λE Y H S G=>Qe ?_;have h1:=h.ext H;refine Qc<|x (Qa O)<|x (Qd G O O)<|x (Qq h1.rq.arr O)<|x (Zq (l:=[]) (l':=[_]))<|x (QF ⟨O,O,O,U⟩)<|x (Qa O) <|
  x (Qd G O O)<|x (Qq h1.ex.arr O)<|x (Zq (l:=[]) (l':=[_]))<|x (QF ⟨O,O,O,U⟩)<|x (Qa O)<|x (Qd G O O) <|
  x (Qq h1.cs.arr O)<|x (Zq (l:=[]) (l':=[_]))<|x (QF ⟨O,O,O,U⟩) <|
  xl rfl<|QC (us:=[[.int .i64 1,.int .i64 c.rq.length,.func (.func 134) #[] #[.pointer (some ⟨E,0,none⟩)]],[.int .i64 2,.int .i64 c.ex.length,.func (.func 137) #[] #[.pointer (some ⟨E,0,none⟩)]],[.int .i64 3,.int .i64 c.cs.length,.func (.func 138) #[] #[.pointer (some ⟨E,0,none⟩)]]]) O O (by decide) (by simp) ⟨rfl,rfl,rfl,rfl,rfl,rfl,U⟩ λT w2 I ha V =>
  Qe ?_
 have hb:=H.size;have hc:=I.size;refine Qn ⟨[_],Z,H.trans I,E,T,O,S,by omega,G.ext I,?_⟩
 have e:[0,1,2].flatMap (jk E c.cel)=[.int .i64 1,.int .i64 c.rq.length,.func (.func 134) #[] #[.pointer (some ⟨E,0,none⟩)],.int .i64 2,.int .i64 c.ex.length,.func (.func 137) #[] #[.pointer (some ⟨E,0,none⟩)],.int .i64 3,.int .i64 c.cs.length,.func (.func 138) #[] #[.pointer (some ⟨E,0,none⟩)]]:=by
  simp only[List.flatMap_cons,List.flatMap_nil,jk,e0,e1,e2];rfl
 rw[e];exact V
def srP (c:Zw):Nat→LN
 | 0=>[]
 | m+1=>srP c m++Xb c m
theorem UI (c:Zw):srP c 3=sets c:=by
 simp only[srP,QeN,QeM,QeL,sets,List.nil_append,List.append_assoc]
theorem Uo {c:Zw}(h:Kl c):∀m,m≤3→(srP c m).length≤32*m
 | 0,_=>Lk _
 | m+1,hm=>by
  have h1:=Uo h m (by omega);have h2:=KU h (show m<3 by omega);rw[srP,Li];omega
abbrev QaN (l:LN):LV:=l.map λb=>.int .u16 (b:Nat)
abbrev qL (base:Nat) (w:World) (v:Value) (l:LN):Prop:=w.ownsRow base 140 1 v l.length (QaN l)
theorem qL.snoc {base:Nat}{w:World}{v:Value}{l:LN}{b:Nat}(h:w.ownsRow base 140 1 v (l.length+1) (QaN l++[.int .u16 (b:Nat)])):qL base w v (l++[b]):=by
 unfold qL QaN;rw[Li,Ls];exact h
set_option maxHeartbeats 4000000 in
theorem Qb0 {L:LN}{w:World}{c:CL}(h0:Zx L w.heap c) (hc:Kl c.cel) :
  QJ prog 99 [c.val] w λr w'=>Step [] w w'∧qL w.heap.size w' r (sets c.cel):=by
 have h:=h0.up (L':=[]) (by simp);refine QJ.of_W func99 O ntmps99 results99 (by simp) ?_;refine Qc<|xl O<|QT (us:=c.cells) O λb1 w1 he hH hu=>Qe<|Qc<|Qe<|Qf<|Qc<|x (Qs hu O O)<|xl O<|xf<|(Kv (h.ext he)).mono ?_;rintro r2 G ⟨hq,E,bs,H⟩;have hv:=H.r;subst hv;have hf:=he.trans hq;have hI:=he.size;have hJ:=hq.size;have hK:=H.B.lt;have hL:=H.B1.lt
 have hA:∀{w':World},Step [] G w'→Zo [] w'.heap (.slice (some ⟨bs,0,none⟩) 3 3) [0,1,2].length 3 ([0,1,2].flatMap (jk E c.cel)):=λhs =>
  (H.B.ext hs).arr (by simp) (n:=3) (cap:=3) (sz:=3) (by rfl) (by omega) (Lr _)
 refine x (Qq (hA (Step.refl _ _)) O)<|Qb<|xe<|Qg<|Qy (α:=Nat×Value) [(3,3),(5,6),(10,27)] (λz=>[(3,z.2),(10,.int .i64 z.1)]) (λz w'=>z.1≤3∧Step [] G w'∧qL G.heap.size w' z.2 (srP c.cel z.1)) (λz=>3 - z.1) (by rfl) (0,nS) ⟨O,O,U⟩
  ⟨Lk _,Step.refl _ _,QO _ _ _ _⟩ ?_
 rintro ⟨m,v⟩ g w3 ⟨hm,V,I⟩;simp only[] at hm I;have hM:=Uo hc m hm;refine Qc<|x (QA O O)<|xe<|Qf<|QE O (λhg=>?_) (λhg=>?_)
 ·refine Qw ?_;have hw:m=3:=by have hh:¬(m:Int)<(3:Nat):=hg;omega
  rw[hw,UI] at I;refine Qc<|Qb<|Qe ?_;exact Qn ⟨[v],Z,hf.trans V,Zg I hf.size⟩
 have J:m<3:=by have hh:(m:Int)<(3:Nat):=hg;omega
 have hN:=KU hc J;refine Qi ?_;have hO:=V.size;have hge:=Qk I;have hy:([0,1,2]:LN)[m]'J=m:=by rcases m with _ | _ | _ | m <;> first | rfl | omega
 refine Qf<|Qg<|Qc<|xig (g:=jk E c.cel) (i:=m) (UH E c.cel) (hA V) O O J λhP hr=>?_;rw[hy] at hr;refine x (QI hr O O)<|xl O<|Qv (us:=[.int .i64 0,.int .i64 0,.nilFunc]) O λb5 w4 hz h1 Y=>xl O<|Qr (us:=jk E c.cel m) Y O O O O ⟨O,O,O,U⟩ λw5 h2 Y =>
  xe ?_
 have hj:Step [] w3 w5:=hz.then1 h2 h1;have hQ:=hj.size;refine Qc<|x (Qa O)<|x (Qd Y O O)<|Qb<|xe<|Qg<|Qy (α:=Nat×Value) [(3,3),(6,6),(16,26)] (λz=>[(3,z.2),(16,.int .i64 z.1)]) (λz w'=>z.1≤(Xb c.cel m).length∧Step (ob v) w5 w'∧qL G.heap.size w' z.2 (srP c.cel m++(Xb c.cel m).take z.1)∧∀b∈ob z.2,b∈ob v∨w5.heap.size≤b) (λz=>(Xb c.cel m).length - z.1) (by rfl) (0,v) ⟨O,O,U⟩
  ⟨Lk _,Step.refl _ _,by simp only[List.take_zero,List.append_nil];exact Qm I hj,λb hb=>.inl hb⟩ ?_
 rintro ⟨i,vi⟩ g w6 ⟨hi,ha,S,hl⟩;simp only[] at hi S hl;have hR:=ha.size;have hT:=Qk S;have hn:Step [] G w6:=(V.trans hj).then ha (λb hb=>.inr (hge b hb).1);have h3:b5∉ob v:=λhb=>by have:=(hge b5 hb).2;omega
 have h4:=Y.step ha h3;have h6:=h.ext (hf.trans hn);have h5:Q3 w6.heap E 47 c.cells:=H.B1.ext hn;refine Qc<|x (QA O O)<|xe<|Qf<|QE O (λho=>?_) (λho=>?_)
 ·refine Qw ?_;have h7:(Xb c.cel m).length≤i:=by have hh:¬(i:Int)<((Xb c.cel m).length:Int):=ho;omega
  rw[Lm h7] at S;refine Qx<|QN O O<|Qb<|xe ?_;exact ⟨(m+1,vi),by simp only[];omega,⟨O,O,U⟩,J,hn,S⟩
 have T:i<(Xb c.cel m).length:=by have hh:(i:Int)<((Xb c.cel m).length:Int):=ho;omega
 have ht:(Xb c.cel m).take (i+1)=(Xb c.cel m).take i++[(Xb c.cel m)[i]'T]:=Le T;have hU:(srP c.cel m++(Xb c.cel m).take i).length≤200:=by rw[Li,Lx];omega
 refine Qi<|Qf<|Qg<|Qc<|Qb<|Qe<|Qx<|Qb<|x (Qa O)<|x (Qd h4 O O)<|Qb<|xl O<|xcG (first:=[]) (capt:=[.pointer (some ⟨E,0,none⟩)]) (Qf6 m) O<|(QaS h5 h6 hc J T).mono ?_;rintro r7 w7 ⟨rfl,h8⟩;refine Zb ((Xb c.cel m)[i]'T) λbv hB=>?_;rw[hB] at ht ⊢;refine xl rfl<|QC (us:=[[.int .u16 (bv:Nat)]]) O O (by decide) (by simp) ⟨rfl,rfl,U⟩ λhV w8 hC hW hD=>?_;have hp:=h8.trans hC
 have hX:=hp.size;refine xl rfl<|QU (news:=[.int .u16 (bv:Nat)]) (L:=[]) (Qm S hp) O O O (hD.at (by simp)) (by simp[Value.oneCell']) (by omega) (by omega) λv9 w9 hE hF hG =>
  Qe<|Qx<|QN O O<|Qb<|xe ?_
 refine ⟨(i+1,v9),by simp only[];omega,⟨O,O,U⟩,T,(ha.trans hp).then hF hl,?_,λb hb=>?_⟩
 ·simp only[];rw[ht,←LA];exact qL.snoc hE
 rcases hG b hb with h9 | h9
 ·exact hl b h9
 exact .inr (by omega)
structure MV where
 kd:Int
 ix:Int
 v:Value
 co:LI
def MV.m (q:MV):KL:=⟨q.kd,q.ix,q.co⟩
abbrev Zi (q:MV):LV:=[.int .i64 q.kd,.int .i64 q.ix,q.v]
theorem JR (q:MV):(Zi q).length=3:=rfl
abbrev mvP (q:MV):Value×Nat×Nat×LV:=(q.v,q.co.length,1,q.co.map (.int .i64))
abbrev MvN (base:Nat) (w:World) (v:Value) (l:List MV):Prop:=ZQ Zi 3 39 mvP base w v l
theorem Uw {q:MV}(h:q.v.oneCell'=true):∀u∈Zi q,u.oneCell'=true:=by
 intro u hu;simp only[Zi,List.mem_cons,List.not_mem_nil,or_false] at hu;rcases hu with rfl | rfl | rfl
 ·rfl
 ·rfl
 exact h
theorem K6 (k:Int):∀(l:LN) (i:Nat),(XZ k i l).length=l.length
 | [],_=>rfl
 | _::l,i=>by rw[XZ,LM,K6 k l,LM]
theorem zC (k:Int):∀(l:LN) (i j:Nat) (h:j<l.length),(XZ k i l).take (j+1)=(XZ k i l).take j++[⟨k,((i+j:Nat):Int),setK (l[j]'h) 8⟩]
 | [],_,j,h=>absurd h (Nw _)
 | b::l,i,0,h=>by rw[XZ];rfl
 | b::l,i,j+1,h=>by
  rw[XZ,L5,L5,zC k l (i+1) j (by simpa using h),Mc];have e:((i+1+j:Nat):Int)=((i+(j+1):Nat):Int):=by omega
  rw[e];rfl
abbrev mdG (c:Zw) (m:Nat):List KL:=XZ ((m:Int)+1) 0 (Xb c m)
def mdP (c:Zw):Nat→List KL
 | 0=>[]
 | m+1=>mdP c m++mdG c m
theorem jU (c:Zw):mdP c 3=mods c:=by
 simp only[mdP,mods,List.nil_append,List.append_assoc];rfl
theorem yJ {c:Zw}(h:Kl c):∀m,m≤3→(mdP c m).length≤32*m
 | 0,_=>Lk _
 | m+1,hm=>by
  have h1:=yJ h m (by omega);have h2:=KU h (show m<3 by omega);rw[mdP,Li,K6];omega
set_option maxHeartbeats 4000000 in
theorem KK {L:LN}{w:World}{c:CL}(V:Zx L w.heap c) :
  QJ prog 31 [c.val] w λr w'=>Step [] w w'∧∃v l,r=.tuple #[v,.int .i64 (Zc c.cel)]∧MvN w.heap.size w' v l∧(Zc c.cel≠0→v=nS∧l=[])∧(Zc c.cel=0→l.map MV.m=mods c.cel):=by
 have h:=V.up (L':=[]) (by simp);refine Zb (Zc c.cel) λE hE=>?_;rw[hE];refine QJ.of_W func31 O ntmps31 results31 (by simp) ?_;refine Qc<|xl O<|QT (us:=c.cells) O λb1 w1 hC gk hD=>x Qh<|Qe<|Qf<|Qc<|x (Qs hD O O)<|xl O<|xf<|(YF (h.ext hC)).mono ?_;rintro rc wc ⟨hF,hG⟩;rw[hE] at hF;subst hF;have hP:=hD.ext hG;have hl:=hC.trans hG;refine Qe<|Qc<|Qb<|x (Q9 O O)<|xe ?_
 refine Q7 rfl (λH=>?_) (λH=>?_)
 ·refine Qc<|Qb<|x Qh<|Qe ?_;exact Qn ⟨[nS,.int .i64 E],⟨O,O,U⟩,hl,nS,[],O,ZQ.nil,λ_=>⟨O,O⟩,λV=>absurd V H⟩
 have hw:E=0:=Lu.1 H;have hn:Kl c.cel:=(ZO (hE.trans hw)).sr;refine Qi<|Qc<|Qe<|Qf<|Qc<|x (Qs hP O O)<|xl O<|xf<|(Kv (h.ext hl)).mono ?_;rintro r2 I ⟨hH,J,bs,Y⟩;have hQ:=Y.r;subst hQ;have hy:=hl.trans hH;have gl:=hl.size;have gm:=hH.size;have gn:=Y.B.lt;have go:=Y.B1.lt
 have hA:∀{w':World},Step [] I w'→Zo [] w'.heap (.slice (some ⟨bs,0,none⟩) 3 3) [0,1,2].length 3 ([0,1,2].flatMap (jk J c.cel)):=λhs =>
  (Y.B.ext hs).arr (by simp) (n:=3) (cap:=3) (sz:=3) (by rfl) (by omega) (Lr _)
 refine x (Qq (hA (Step.refl _ _)) O)<|Qb<|xe<|Qg<|Qy (α:=Nat×Value×List MV) [(5,5),(7,8),(17,39)] (λz=>[(5,z.2.1),(17,.int .i64 z.1)]) (λz w'=>z.1≤3∧Step [] I w'∧MvN I.heap.size w' z.2.1 z.2.2∧z.2.2.map MV.m=mdP c.cel z.1) (λz=>3 - z.1) (by rfl) (0,nS,[]) ⟨O,O,U⟩
  ⟨Lk _,Step.refl _ _,ZQ.nil,O⟩ ?_
 rintro ⟨m,v,l⟩ g w3 ⟨hm,ho,ha,he⟩;simp only[] at hm ha he;have gp:=yJ hn m hm;have gq:l.length=(mdP c.cel m).length:=by rw[←he,Lb]
 refine Qc<|x (QA O O)<|xe<|Qf<|QE O (λhz=>?_) (λhz=>?_)
 ·refine Qw ?_;have hR:m=3:=by have h1:¬(m:Int)<(3:Nat):=hz;omega
  rw[hR,jU] at he;refine Qc<|Qb<|x Qh<|Qe ?_;have hT:=hy.size;exact Qn ⟨[v,.int .i64 0],⟨O,O,U⟩,hy.trans ho,v,l,by rw[hw];rfl,⟨Zg ha.own hT,λq hq L hL=>ha.each q hq L (λb hb=>(hL b hb).imp (λh=>by omega) id)⟩,λV=>absurd hw V,λ_=>he⟩
 have S:m<3:=by have h1:(m:Int)<(3:Nat):=hz;omega
 have gr:=KU hn S;refine Qi ?_;have gs:=ho.size;have hge:=Qk ha.own;have hU:([0,1,2]:LN)[m]'S=m:=by rcases m with _ | _ | _ | m <;> first | rfl | omega
 refine Qf<|Qg<|Qc<|xig (g:=jk J c.cel) (i:=m) (UH J c.cel) (hA ho) O O S λgt H=>?_;rw[hU] at H;refine x (QI H O O)<|xl O<|Qv (us:=[.int .i64 0,.int .i64 0,.nilFunc]) O λb7 w4 hV hW hf=>xl O<|Qr (us:=jk J c.cel m) hf O O O O ⟨O,O,O,U⟩ λw5 hX hf =>
  xe ?_
 have h2:Step [] w3 w5:=hV.then1 hX hW;have gu:=h2.size;refine Qc<|x (Qa O)<|x (Qd hf O O)<|Qb<|xe ?_
 refine Qg<|Qy (α:=Nat×Value×List MV) [(5,5),(8,8),(23,38)] (λz=>[(5,z.2.1),(23,.int .i64 z.1)]) (λz w'=>z.1≤(Xb c.cel m).length∧Step (ob v) w5 w'∧MvN I.heap.size w' z.2.1 z.2.2∧z.2.2.map MV.m=mdP c.cel m++(mdG c.cel m).take z.1∧∀b∈ob z.2.1,b∈ob v∨w5.heap.size≤b) (λz=>(Xb c.cel m).length - z.1) (by rfl) (0,v,l) ⟨O,O,U⟩
  ⟨Lk _,Step.refl _ _,ha.ext h2,by simp only[List.take_zero,List.append_nil];exact he,λb hb=>.inl hb⟩ ?_
 rintro ⟨i,vi,li⟩ g G ⟨hi,hp,hg,hh,hr⟩;simp only[] at hi hg hh hr;have gv:=hp.size;have hY:=Qk hg.own;have ht:Step [] I G:=(ho.trans h2).then hp (λb hb=>.inr (hge b hb).1);have hI:b7∉ob v:=λhb=>by have:=(hge b7 hb).2;omega
 have hJ:=hf.step hp hI;have h6:=h.ext (hy.trans ht);have hZ:Q3 G.heap J 47 c.cells:=Y.B1.ext ht;have gw:li.length≤200:=by
  have e1:=congrArg List.length hh;rw[Lb,Li,Lx] at e1;have e2:(mdG c.cel m).length=(Xb c.cel m).length:=K6 _ _ _;omega
 refine Qc<|x (QA O O)<|xe<|Qf<|QE O (λh3=>?_) (λh3=>?_)
 ·refine Qw ?_;have ga:(Xb c.cel m).length≤i:=by have h1:¬(i:Int)<((Xb c.cel m).length:Int):=h3;omega
  rw[Lm (by rw[K6];exact ga)] at hh;refine Qx<|QN O O<|Qb<|xe ?_;exact ⟨(m+1,vi,li),by simp only[];omega,⟨O,O,U⟩,S,ht,hg,hh⟩
 have T:i<(Xb c.cel m).length:=by have h1:(i:Int)<((Xb c.cel m).length:Int):=h3;omega
 have h4:(mdG c.cel m).take (i+1)=(mdG c.cel m).take i++[⟨(m:Int)+1,((0+i:Nat):Int),setK ((Xb c.cel m)[i]'T) 8⟩]:=zC _ _ _ _ T;rw[LP] at h4;have hK:=JM hn S _ (Lh T);refine Qi<|Qf<|Qg<|Qc<|Qb<|Qe ?_;have hM:b7∉ob vi:=λhb=>by
  rcases hr b7 hb with h9 | h9
  ·exact hI h9
  have:=hf.lt;omega
 have h5:Step [] G { G with drawn:=G.drawn+1 }:=Step.drew _ _
 have gx:({ G with drawn:=G.drawn+1 }:World).heap.size=G.heap.size:=rfl
 refine QS (Step (ob vi) G) [(0,true),(1,true),(2,true),(3,true),(4,true),(5,true),(6,true),(7,false),(8,false),(9,true),(10,false),(11,false),(12,true)] mixed (by rfl) (by kernel_rfl) (Step.drew _ _) ?_;refine p (λ_=>Ql)<|p (λ_=>Qa O)<|pq (λ_ hc=>Qd (hJ.step hc hM) O O)<|p (λ_=>Ql)<|p (λ_=>Qa O) <|
  pq (λ_ hc=>Qd (hJ.step hc hM) O O)<|p (λ_=>Ql)<|pk<|xcG (first:=[]) (capt:=[.pointer (some ⟨J,0,none⟩)]) (Qf6 m) O<|(QaS (hZ.ext h5) (h6.ext h5) hn S T).mono ?_
 rintro r8 w8 ⟨rfl,gb⟩;refine Zb ((Xb c.cel m)[i]'T) λbv gc=>?_;rw[gc] at h4 hK ⊢;have h7:=h5.trans gb;refine ⟨h7.any,?_⟩;refine pk<|xf<|(yL bv hK w8).mono ?_;rintro r9 w9 ⟨ge,h8⟩;have hu:=h7.trans ge;have gy:=h7.size;have gz:=hu.size;refine ⟨hu.any,?_⟩
 refine p (λ_=>QF ⟨O,O,QZ h8,U⟩)<|pk<|QC (us:=[Zi ⟨(m:Int)+1,i,r9,setK bv 8⟩]) O O (by decide) (by simp) ⟨rfl,rfl,U⟩ λg0 g2 hv g3 gg=>⟨(hu.trans hv).any,?_⟩;have hj:=hu.trans hv;have g4:=hj.size;have g5:=hv.size
 refine pk<|QU (news:=Zi ⟨(m:Int)+1,i,r9,setK bv 8⟩) (L:=[]) (Qm hg.own hj) O O O (gg.at (by simp)) (Uw (q:=⟨(m:Int)+1,i,r9,setK bv 8⟩) (QD h8)) (by omega) (by omega) λhN gh gi hB hO=>⟨hj.any.trans' hB,?_⟩;refine p (λ_=>Qh)<|pe ?_;have g6:=YV bv 8
 have gj:MvN I.heap.size gh hN (li++[⟨(m:Int)+1,i,r9,setK bv 8⟩]):=ZQ.app2 (N:=w8.heap.size) (hg.ext hj) (Qm h8 hv) (by show (setK bv 8).length≤_;omega) (by have:=ht.size;omega) (λb hb=>by have:=hY b hb;omega) gi hB hO;refine Qx<|QN O O<|Qb<|xe ?_
 refine ⟨(i+1,hN,li++[⟨(m:Int)+1,i,r9,setK bv 8⟩]),by simp only[];omega,⟨O,O,U⟩,T,(hp.trans hj).then hB hr,gj,?_,λb hb=>?_⟩
 ·simp only[];rw[h4,Ls,hh,LA];rfl
 rcases hO b hb with h9 | h9
 ·exact hr b h9
 exact .inr (by omega)
theorem Qmz {n:Nat}(h:n≤8):2 ^ n≤256:=Nat.pow_le_pow_right (by decide) h
set_option maxHeartbeats 4000000 in
theorem Jz {L:LN}{w:World}{c:CL}(I:Zx L w.heap c) :
  QJ prog 38 [c.val] w λr w'=>Step [] w w'∧∃v,r=.tuple #[v,.int .i64 (Zc c.cel)]∧(Zc c.cel≠0→v=nS)∧(Zc c.cel=0→Qt 3 w.heap.size w' v (rem c.cel)):=by
 have h:=I.up (L':=[]) (by simp);refine Zb (Zc c.cel) λE hE=>?_;rw[hE];refine QJ.of_W func38 O ntmps38 results38 (by simp) ?_;refine Qc<|xl O<|QT (us:=c.cells) O λb1 w1 hf hC hg=>x Qh<|Qe<|Qf<|Qc<|x (Qs hg O O)<|xl O<|xf<|(YF (h.ext hf)).mono ?_;rintro rc wc ⟨hh,hj⟩;rw[hE] at hh;subst hh;have hl:=hg.ext hj;have S:=hf.trans hj;refine Qe<|Qc<|Qb<|x (Q9 O O)<|xe ?_
 refine Q7 rfl (λT=>?_) (λT=>?_)
 ·refine Qc<|Qb<|x Qh<|Qe ?_;exact Qn ⟨[nS,.int .i64 E],⟨O,O,U⟩,S,nS,O,λ_=>O,λI=>absurd I T⟩
 have V:E=0:=Lu.1 T;have G:Kl c.cel:=(ZO (hE.trans V)).sr;have hv:c.cel.co.length=c.co.length:=Lb ..;have h8:c.co.length≤8:=by have:=G.c8;omega
 have hD:=Qmz h8;have hF:0<2 ^ c.co.length:=Nat.pow_pos (by decide);have he:(1:Int)*(2:Int) ^ c.co.length - 1=((2 ^ c.co.length - 1:Nat):Int):=by
  rw[jA,Nat.shiftLeft_eq,Ns];omega
 have hw:inK .u16 ((1:Int)*(2:Int) ^ c.co.length - 1):=by rw[he];exact ⟨by omega,by omega⟩
 have hn:2 ^ c.co.length - 1<65536:=by omega
 have hz:=Uo G 3 (by omega);rw[UI] at hz;have ho:ym c.cel=(sets c.cel).foldl (λl b=>l &&& (65535 ^^^ b)) (2 ^ c.co.length - 1):=by unfold ym;rw[hv]
 have h1:∀b∈sets c.cel,b<65536:=by
  intro b hb;unfold sets at hb;rcases Lj.1 hb with hb | hb
  ·exact JM G (m:=0) (by omega) b hb
  rcases Lj.1 hb with hb | hb
  ·exact JM G (m:=1) (by omega) b hb
  exact JM G (m:=2) (by omega) b hb
 refine Zb (2 ^ c.co.length - 1) λb0 h2=>?_;rw[h2] at he ho hn;have hp:=h.ext S;refine Qi<|Qc<|x (Qa O)<|x (Qd hl O O)<|x (Qq hp.co.arr O)<|x (Qb5 (n:=c.co.length) O O (by show c.co.length≤16;omega) (QiA (by omega)))<|x (X2 O O hw)<|Qe<|Qf<|Qc<|x (Qs hl O O)<|xl O<|xf<|(Qb0 hp G).mono ?_;rintro r2 Y ⟨h3,h4⟩
 have hA:Zo [] Y.heap r2 (sets c.cel).length 1 (QaN (sets c.cel)):=QR h4 (by omega) (by simp);have h5:Zo [] Y.heap r2 (sets c.cel).length 1 ((sets c.cel).flatMap λb=>[.int .u16 (b:Nat)]):=by
  have e:(sets c.cel).flatMap (λb=>[Value.int .u16 (b:Nat)])=QaN (sets c.cel):=by
   generalize sets c.cel=l;induction l with
   | nil=>rfl
   | cons a l ih=>rw[LB,ih];rfl
  rw[e];exact hA
 refine x (Qq hA O)<|Qb<|xe<|Qg<|Qy (α:=Nat×Nat) [(5,5),(7,7),(21,28)] (λz=>[(5,.int .u16 z.2),(21,.int .i64 z.1)]) (λz w'=>z.1≤(sets c.cel).length∧Step [] Y w'∧z.2<65536∧((sets c.cel).drop z.1).foldl (λl b=>l &&& (65535 ^^^ b)) z.2=ym c.cel) (λz=>(sets c.cel).length - z.1) (by rfl) (0,b0) ⟨congrArg (Value.int .u16) he,O,U⟩
  ⟨Lk _,Step.refl _ _,hn,ho.symm⟩ ?_
 rintro ⟨k,b⟩ g w3 ⟨hk,ha,hb,H⟩;simp only[] at hk hb H;have hq:=(S.trans h3).trans ha;refine Qc<|x (QA O O)<|xe<|Qf<|QE O (λhc=>?_) (λhc=>?_)
 ·refine Qw ?_;have h6:(sets c.cel).length≤k:=by have h7:¬(k:Int)<((sets c.cel).length:Int):=hc;omega
  rw[Lq h6] at H;have h9:b=ym c.cel:=H;refine Qc<|Qb<|xl O<|xf<|(yL b hb w3).mono ?_;rintro r4 w4 ⟨hB,hs⟩;refine x Qh<|Qe ?_;rw[h9] at hs;exact Qn ⟨[r4,.int .i64 0],⟨O,O,U⟩,hq.trans hB,r4,by rw[V];rfl,λI=>absurd V I,λ_=>Zg hs hq.size⟩
 have J:k<(sets c.cel).length:=by have h7:(k:Int)<((sets c.cel).length:Int):=hc;omega
 have ht:=h1 _ (Lh J);rw[LJ J,LO] at H;refine Qi<|Qf<|Qg<|Qc<|xig (g:=λb:Nat=>[.int .u16 (b:Nat)]) (i:=k) (λ_=>O) (h5.ext ha) O O J λhG hu=>?_;refine Zb ((sets c.cel)[k]'J) λy hy=>?_;rw[hy] at hu ht H;refine x (Qu hu O)<|Qe<|Qx<|Qb<|Qb<|x (Qa4 (a:=b) (b:=y) O O hb ht)<|Qe<|Qx<|QN O O<|Qb<|xe ?_
 exact ⟨(k+1,b &&& (65535 ^^^ y)),by simp only[];omega,⟨O,O,U⟩,J,ha,Nat.lt_of_le_of_lt Nat.and_le_left hb,H⟩
end Go.Proofs.YtdffckgdcegpaaaGreatDoor
