/- Merged out of 19 texts. -/
import Derived.Test.YtdffckgdcegpaaaGreatDoorKpb
namespace Go.Proofs.YtdffckgdcegpaaaGreatDoor
open Go.Proofs.Tryz
open Go.Lg
inductive Cd where
 | ex (b:Nat) (q:XV)
 | co (b:Nat) (q:KV)
def Cd.val:Cd→Value
 | .ex b _=>.func (.func 259) #[] #[.pointer (some ⟨b,0,none⟩)]
 | .co b _=>.func (.func 262) #[] #[.pointer (some ⟨b,0,none⟩)]
def Cd.src:Cd→Sum XV KV
 | .ex _ q=>.inl q
 | .co _ q=>.inr q
def QdZ (t:LI):Sum XV KV→Bool
 | .inl q=>Jh t q.x
 | .inr q=>JT t q.k
def Cd.vio (t:LI) (c:Cd):Bool:=QdZ t c.src
abbrev VO (c:Cd):LV:=[c.val]
theorem Ql6 (c:Cd):(VO c).length=1:=rfl
def CdA (H:Array Obj):Cd→Prop
 | .ex b q=>QZ H b 122 (Zu q)∧P2s [] H q.v q.ls
 | .co b q=>QZ H b 127 (Zw q)∧P2s [] H q.v q.ts
theorem CdA.ext {w w':World}{c:Cd}(h:CdA w.heap c) (hs:Step [] w w'):CdA w'.heap c:=by
 cases c with
 | ex b q=>exact ⟨h.1.ext hs,h.2.ext hs⟩
 | co b q=>exact ⟨h.1.ext hs,h.2.ext hs⟩
def Cd.rg (n:Nat):Cd→Prop
 | .ex _ q=>∀p∈q.ls,0≤p.1∧p.1<(n:Int)
 | .co _ q=>(∀p∈q.ts,0≤p.1∧p.1<(n:Int)∧-65536≤p.2∧p.2≤65536)∧q.ts.length≤8
theorem Qay {q:XV}(w:World):QK prog 209 [.agg (Zu q).toArray] w λr w'=>Step [] w w'∧∃b,r=(Cd.ex b q).val∧w.heap.size≤b∧QZ w'.heap b 122 (Zu q):=by
 refine QK.of_W func209 O ntmps209 results209 (by simp) ?_;refine Qc<|xl O<|QS (us:=Zu q) O λE J G H I=>Qe<|Qc<|x Zq<|Qe ?_;exact Qn ⟨[_],Z,G,E,O,H,I⟩
theorem Qb1 {q:KV}(w:World):QK prog 210 [.agg (Zw q).toArray] w λr w'=>Step [] w w'∧∃b,r=(Cd.co b q).val∧w.heap.size≤b∧QZ w'.heap b 127 (Zw q):=by
 refine QK.of_W func210 O ntmps210 results210 (by simp) ?_;refine Qc<|xl O<|QS (us:=Zw q) O λE J G H I=>Qe<|Qc<|x Zq<|Qe ?_;exact Qn ⟨[_],Z,G,E,O,H,I⟩
def CdB (H:Array Obj):Cd→Prop
 | .ex b q=>QZ H b 122 (Zu q)
 | .co b q=>QZ H b 127 (Zw q)
def Cd.blk:Cd→Nat
 | .ex b _=>b
 | .co b _=>b
theorem CdB.lt {H:Array Obj}{c:Cd}(h:CdB H c):c.blk<H.size:=by cases c <;> exact QZ.lt h
theorem CdB.step {X:LN}{w w':World}{c:Cd}(h:CdB w.heap c) (hs:Step X w w') (E:c.blk∉X):CdB w'.heap c:=by
 cases c <;> exact QZ.step h hs E
structure CdL (base:Nat) (w:World) (v:Value) (cds:List Cd):Prop where
 own:w.ownsRow base 313 1 v cds.length (cds.flatMap VO)
 bx:∀c∈cds,CdB w.heap c∧c.blk∉ob v
theorem CdL.add {base:Nat}{w E G:World}{v H:Value}{cds:List Cd}{c:Cd}(h:CdL base w v cds) (hs:Step [] w E) (hc:CdB E.heap c) (hb:w.heap.size≤c.blk)
  (I:G.ownsRow base 313 1 H (cds.length+1) (cds.flatMap VO++[c.val])) (J:Step (ob v) E G) (S:∀b∈ob H,b∈ob v∨E.heap.size≤b):CdL base G H (cds++[c]):=by
 have V:=QR h.own;have Y:c.blk∉ob v:=λhm=>by have:=V _ hm;omega
 refine ⟨?_,λd hd=>?_⟩
 ·rw[Lh,Ly];simpa using I
 have key:CdB E.heap d∧d.blk∉ob v:=by
  rcases Lj.1 hd with hd | hd
  ·exact ⟨(h.bx d hd).1.step hs (by simp),(h.bx d hd).2⟩
  simp only[List.mem_singleton] at hd;subst hd;exact ⟨hc,Y⟩
 refine ⟨key.1.step J key.2,λhm=>?_⟩;rcases S _ hm with h1 | h1
 ·exact key.2 h1
 have:=key.1.lt;omega
set_option maxHeartbeats 4000000 in
theorem Qhw {w:World}{vs vx vk:Value}{qx:List XV}{ks:List KV}(hX:zm [] w.heap vx qx) (hK:zg [] w.heap vk ks) (hJ:qx.length≤32) (hM:ks.length≤32) :
  QK prog 150 [.agg #[vs,vx,vk]] w λr w'=>Step [] w w'∧∃cds,CdL w.heap.size w' r cds∧cds.map Cd.src=qx.map Sum.inl++ks.map Sum.inr:=by
 refine QK.of_W func150 O ntmps150 results150 (by simp) ?_;refine Qc<|xl O<|QS (us:=[vs,vx,vk]) O λb1 J H hN h5=>Qe ?_;have hB:=H.size;refine Qc<|Qe<|Qf<|Qc<|x (Qa O)<|x (Qd h5 O O)<|x (Qs (hX.ext H).arr O)<|Qb<|xe ?_
 refine Qh<|QA (α:=Nat×Value×List Cd) [(3,3),(5,5),(11,20)] (λz=>[(3,z.2.1),(11,.int .i64 z.1)]) (λz w'=>z.1≤qx.length∧Step [] J w'∧CdL J.heap.size w' z.2.1 z.2.2∧z.2.2.map Cd.src=(qx.take z.1).map Sum.inl) (λz=>qx.length - z.1) (by rfl) (0,nS,[]) ⟨O,O,U⟩
  ⟨Ll _,Step.refl _ _,⟨QP _ _ _ _,λc hc=>(by cases hc)⟩,rfl⟩ ?_
 rintro ⟨k,vo,cds⟩ g wA ⟨hk,I,hL,ha⟩;simp only[] at hk hL ha;have hO:cds.length=k:=by have:=congrArg List.length ha;simp at this;omega
 refine Qc<|x (QB O O)<|xe<|Qf<|QG O (λhm=>?_) (λhm=>?_)
 ·refine Qz ?_;have hC:qx.length≤k:=by have hn:¬(k:Int)<(qx.length:Int):=hm;omega
  rw[Lo hC] at ha;refine Qf<|Qc<|x (Qa O)<|x (Qd (h5.ext I) O O)<|x (Qs ((hK.ext H).ext I).arr O)<|Qb<|xe ?_
  refine Qh<|QA (α:=Nat×Value×List Cd) [(3,3),(7,7),(24,33)] (λz=>[(3,z.2.1),(24,.int .i64 z.1)]) (λz w'=>z.1≤ks.length∧Step [] J w'∧CdL J.heap.size w' z.2.1 z.2.2∧z.2.2.map Cd.src=qx.map Sum.inl++(ks.take z.1).map Sum.inr) (λz=>ks.length - z.1) (by rfl) (0,vo,cds) ⟨O,O,U⟩
   ⟨Ll _,I,hL,by simp only[];rw[ha];simp⟩ ?_
  rintro ⟨j,vp,cdt⟩ g wB ⟨hj,he,S,hf⟩;simp only[] at hj S hf;have hP:cdt.length=qx.length+j:=by have:=congrArg List.length hf;simp at this;omega
  refine Qc<|x (QB O O)<|xe<|Qf<|QG O (λho=>?_) (λho=>?_)
  ·refine Qz ?_;have hD:ks.length≤j:=by have hn:¬(j:Int)<(ks.length:Int):=ho;omega
   rw[Lo hD] at hf;refine Qc<|Qb<|Qe ?_;exact Qn ⟨[_],Z,H.trans he,cdt,⟨Zr S.own hB,S.bx⟩,hf⟩
  have V:j<ks.length:=by have hn:(j:Int)<(ks.length:Int):=ho;omega
  have h6:=Lc V;have h7:ks.take (j+1)=ks.take j++[ks[j]'V]:=Li V;refine Qi<|Qf<|Qh<|Qc<|xig JE ((hK.ext H).ext he).arr O O V λaA hA=>?_;refine Zc (ks[j]'V) λq hq=>?_;rw[hq] at hA h6 h7;have hp:=((hK.ext H).ext he).each q h6
  refine x (QI hA O O)<|xl O<|Qt (us:=[.string .empty,nS,.int .i64 0]) O λb7 w4 hr ht hu=>xl O<|Qo (us:=Zw q) hu O O O O ⟨O,hp.one,O,U⟩ λw5 hv hw=>xe ?_;have hg:Step [] wB w5:=hr.then1 hv ht;refine Qy<|Qb<|x (Qr hw O O)<|xl O<|xf<|(Qb1 w5).mono ?_;rintro r6 w6 ⟨hy,E,rfl,hE,hz⟩
  refine xl O<|QC (us:=[[(Cd.co E q).val]]) O O (by decide) (by simp) ⟨rfl,rfl,U⟩ λhF w7 hh hG h0=>?_;have G:=(hg.trans hy).trans hh;have hH:=(he.trans G).size;have hI:=hg.size;refine xl O<|Q5 (news:=[(Cd.co E q).val]) (L:=[]) (Qq S.own G) O O O (h0.at (by simp)) (by simp[Cd.val,Value.oneCell']) (by omega) (by omega) λv8 w8 h1 hl h2 =>
   Qe ?_
  have hge:=Qm S.own;have h3:=S.add (c:=Cd.co E q) G (QZ.ext hz hh) (by show _≤E;omega) h1 hl h2;have h4:Step [] J w8:=(he.trans G).then hl (λb hb=>.inr (hge b hb).1);refine Qy<|QO O O<|Qb<|xe ?_;exact ⟨(j+1,v8,cdt++[Cd.co E q]),by simp only[];omega,⟨O,O,U⟩,V,h4,h3,by simp only[];rw[Lu,hf,h7];simp[Cd.src]⟩
 have Y:k<qx.length:=by have hn:(k:Int)<(qx.length:Int):=hm;omega
 have h8:=Lc Y;have h9:qx.take (k+1)=qx.take k++[qx[k]'Y]:=Li Y;refine Qi<|Qf<|Qh<|Qc<|xig JZ ((hX.ext H).ext I).arr O O Y λaA hA=>?_;refine Zc (qx[k]'Y) λq hq=>?_;rw[hq] at hA h8 h9;have hp:=((hX.ext H).ext I).each q h8
 refine x (QI hA O O)<|xl O<|Qt (us:=[.string .empty,nS]) O λb7 w4 hr ht hu=>xl O<|Qo (us:=Zu q) hu O O O O ⟨O,hp.one,U⟩ λw5 hv hw=>xe ?_;have hg:Step [] wA w5:=hr.then1 hv ht;refine Qy<|Qb<|x (Qr hw O O)<|xl O<|xf<|(Qay w5).mono ?_;rintro r6 w6 ⟨hy,E,rfl,hE,hz⟩;refine xl rfl<|QC (us:=[[(Cd.ex E q).val]]) O O (by decide) (by simp) ⟨rfl,rfl,U⟩ λhF w7 hh hG h0=>?_
 have G:=(hg.trans hy).trans hh;have hH:=(I.trans G).size;have hI:=hg.size;refine xl rfl<|Q5 (news:=[(Cd.ex E q).val]) (L:=[]) (Qq hL.own G) O O O (h0.at (by simp)) (by simp[Cd.val,Value.oneCell']) (by omega) (by omega) λv8 w8 h1 hl h2 =>
  Qe ?_
 have hge:=Qm hL.own;have h3:=hL.add (c:=Cd.ex E q) G (QZ.ext hz hh) (by show _≤E;omega) h1 hl h2;have h4:Step [] J w8:=(I.trans G).then hl (λb hb=>.inr (hge b hb).1);refine Qy<|QO O O<|Qb<|xe ?_;exact ⟨(k+1,v8,cds++[Cd.ex E q]),by simp only[];omega,⟨O,O,U⟩,Y,h4,h3,by simp only[];rw[Lu,ha,h9];simp[Cd.src]⟩
theorem QlE {gp:Nat}{fn:Func}[Fu prog gp fn] {cap:LV}{q:Cd→Bool}{L:LN}{w:World}{v:Value}{l:List Cd}(h:Zs L w.heap v l.length 1 (l.flatMap VO))
  (hk:∀e∈l,∀(G:World),Step [] w G→QK prog gp ([e.val]++cap) G λr w'=>r=.bool (q e)∧Step [] G w') :
  QK prog 207 [v,.func (.func gp) #[] cap.toArray] w λr w'=>r=.int .i64 (fix q 0 l)∧Step [] w w':=by
 have hc:=h.le;refine QK.of_W func207 O ntmps207 results207 (by simp) ?_;refine Qc<|Qe<|Qf<|Qc<|Qb<|x (Qs h O)<|Qb<|xe<|Qh<|QA (α:=Nat) [(4,5),(8,18)] (λz=>[(8,.int .i64 z)]) (λz w'=>z≤l.length∧Step [] w w'∧fix q z (l.drop z)=fix q 0 l) (λz=>l.length - z) (by rfl) 0 Z
  ⟨Ll _,Step.refl _ _,O⟩ ?_
 rintro k g G ⟨hf,H,E⟩;refine Qc<|x (QB O O)<|xe<|Qf<|QG O (λh9=>?_) (λh9=>?_)
 ·refine Qz ?_;have ha:l.length≤k:=by have hb:¬(k:Int)<(l.length:Int):=h9;omega
  rw[Lr ha] at E;refine Qc<|Qe ?_;exact Qn ⟨[_],Z,by rw[←E];rfl,H⟩
 have I:k<l.length:=by have hb:(k:Int)<(l.length:Int):=h9;omega
 rw[QX I,ZT] at E;have S:=Lc I;refine Qi<|Qf<|Qh<|Qc<|Qb<|Qe<|Qc<|Qb<|Qb<|Qb<|xig Ql6 (h.ext H) O O I λhg V=>?_;refine Zc (l[k]'I) λe he=>?_;rw[he] at V E S;refine x (Qw V O)<|xl O<|xc (first:=[]) (capt:=cap) O<|(hk e S G H).mono ?_;rintro r2 w2 ⟨rfl,Y⟩;refine xe<|Q3 rfl (λJ=>?_) (λJ=>?_)
 ·rw[if_pos J] at E;refine Qc<|Qb<|Qe ?_;exact Qn ⟨[_],Z,by rw[←E];rfl,H.trans Y⟩
 rw[if_neg (by rw[J];decide)] at E;refine Qi<|Qy<|QO O O<|Qb<|xe ?_;exact ⟨k+1,by omega,Z,I,H.trans Y,E⟩
theorem QjT {w:World}{c:Cd}{vt:Value}{t:LI}(hc:CdA w.heap c) (ht:QL [] w.heap vt t) (E:c.rg t.length) (G:∀i,i<t.length→0≤cget t i∧cget t i≤4096) :
  ∃g fn cap,c.val=.func (.func g) #[] [cap].toArray∧Fu prog g fn∧QK prog g ([vt]++[cap]) w λr w'=>r=.bool (c.vio t)∧Step [] w w':=by
 cases c with
 | ex b q=>exact ⟨_,_,_,O,inferInstance,QjH hc.1 hc.2 ht E⟩
 | co b q=>exact ⟨_,_,_,O,inferInstance,QjG hc.1 hc.2 ht E.1 E.2 G⟩
theorem Qe0 {w:World}{bt:Nat}{c:Cd}{vt:Value}{t:LI}(E:QZ w.heap bt 37 [vt]) (hc:CdA w.heap c) (ht:QL [] w.heap vt t) (G:c.rg t.length) (H:∀i,i<t.length→0≤cget t i∧cget t i≤4096) :
  QK prog 208 ([c.val]++[.pointer (some ⟨bt,0,none⟩)]) w λr w'=>r=.bool (c.vio t)∧Step [] w w':=by
 obtain ⟨gq,fn,cap,I,S,hcall⟩:=QjT hc ht G H;rw[I];refine QK.of_W func208 O ntmps208 results208 (by simp) ?_;refine Qc<|Qe<|Qc<|Qb<|x (Qd E O O)<|xl O<|xc (g:=gq) (fn:=fn) (first:=[]) (capt:=[cap]) O<|hcall.mono ?_;rintro V Y ⟨rfl,J⟩;refine Qe ?_;exact Qn ⟨[_],Z,O,J⟩
theorem jN {L:LN}{w:World}{v vt:Value}{cds:List Cd}{t:LI}(h:Zs L w.heap v cds.length 1 (cds.flatMap VO)) (hc:∀c∈cds,CdA w.heap c) (ht:QL [] w.heap vt t) (H:∀c∈cds,c.rg t.length) (I:∀i,i<t.length→0≤cget t i∧cget t i≤4096) :
  QK prog 149 [v,vt] w λr w'=>r=.int .i64 (fix (Cd.vio t) 0 cds)∧Step [] w w':=by
 refine QK.of_W func149 O ntmps149 results149 (by simp) ?_;refine Qc<|xl O<|QS (us:=[vt]) ht.cells λJ Y G ha S=>Qe<|Qc<|Qb<|x Zq<|xl O<|xf<|(QlE (q:=Cd.vio t) (cap:=[.pointer (some ⟨J,0,none⟩)]) (h.ext G) (λc hm V E=>Qe0 (S.ext E) (((hc c hm).ext G).ext E) ((ht.ext G).ext E) (H c hm) I)).mono ?_;rintro r2 V ⟨rfl,E⟩;refine Qe ?_;exact Qn ⟨[_],Z,O,G.trans E⟩
theorem QhD {w:World}{vs vx vk vt:Value}{sz t:LI}(H:QL [] w.heap vs sz) (ht:QL [] w.heap vt t) (h:Qkb sz t) :
  QK prog 206 [.agg #[vs,vx,vk],vt] w λr w'=>r=.int .i64 0∧Step [] w w':=by
 have hf:=ht.le;have h0:=h.1;refine QK.of_W func206 O ntmps206 results206 (by simp) ?_;refine Qc<|xl O<|QS (us:=[vs,vx,vk]) O λb2 V E hg I=>Qe<|Qf<|Qc<|Qb<|x (Qs (ht.ext E) O)<|x (Qa O)<|x (Qd I O O)<|x (Qs (H.ext E) O)<|x (Q9 O O) <|
  xe ?_
 refine QG rfl (λJ=>?_) (λJ=>?_)
 ·refine Qi<|Qf<|Qc<|Qb<|x (Qs (ht.ext E) O)<|Qb<|xe<|Qh<|QA (α:=Nat) [(4,6),(15,31)] (λz=>[(15,.int .i64 z)]) (λz w'=>z≤t.length∧w'=V) (λz=>t.length - z) (by rfl) 0 Z ⟨Ll _,O⟩ ?_;rintro k g Y ⟨hk,rfl⟩;refine Qc<|x (QB O O)<|xe<|Qf<|QG O (λS=>?_) (λS=>?_)
  ·refine Qz<|Qc<|Qe ?_;exact Qn ⟨[_],Z,O,E⟩
  have G:k<t.length:=by have hh:(k:Int)<(t.length:Int):=S;omega
  have hb:=h.2 k G;refine Qi<|Qf<|Qh<|Qc<|Qb<|xic (i:=k) (ht.ext E) O O G λhj ha=>x (Qw ha O)<|x Qg<|Qe<|QT (α:=Unit) [(20,30)] (λz=>[(30,.bool false)]) (λz w'=>w'=Y) (by rfl) ?_ ?_
  ·refine Qy<|Qb<|xb (QB O O) (λhc=>by omega) (λhc=>?_);refine Qb<|Qb<|x (Qa O)<|x (Qd I O O)<|Qb<|xic (i:=k) (H.ext E) O O (by omega) λhl he=>x (Qw he O) <|
    x (ZV rfl O)<|x (Ql O)<|xe ?_
   exact ⟨(),⟨congrArg Value.bool (decide_eq_false (by omega)),U⟩,O⟩
  rintro _ g w3 rfl;refine ZM O ?_;refine Qi<|Qy<|QO O O<|Qb<|xe ?_;exact ⟨k+1,by omega,Z,G,O⟩
 exact absurd (show (t.length:Int)=(sz.length:Int) by omega) J
theorem zD {w:World}{vs vx vk vt:Value}{sz t:LI}{qx:List XV}{ks:List KV}(H:QL [] w.heap vs sz) (V:zm [] w.heap vx qx) (Y:zg [] w.heap vk ks) (ht:QL [] w.heap vt t) (hc:YH sz (qx.map (·.x)) (ks.map (·.k))=0) (h:Qkb sz t) :
  QK prog 148 [.agg #[vs,vx,vk],vt] w λr w'=>r=.int .i64 0∧Step [] w w':=by
 refine QK.of_W func148 O ntmps148 results148 (by simp) ?_;refine Qc<|xl O<|QS (us:=[vs,vx,vk]) O λb2 w1 E hb I=>Qe<|Qf<|Qc<|x (Qr I O O)<|xl O<|xf<|(qR (H.ext E) (V.ext E) (Y.ext E)).mono ?_;rintro r2 w2 ⟨J,S⟩;rw[hc] at J;subst J;refine Qe<|Qc<|Qb<|x (Q9 O O)<|xe<|ZM rfl ?_;refine Qi ?_;have G:=E.trans S
 refine Qc<|x (Qr (I.ext S) O O)<|Qb<|xl O<|xf<|(QhD (H.ext G) (ht.ext G) h).mono ?_;rintro r3 w3 ⟨rfl,ha⟩;refine Qe ?_;exact Qn ⟨[_],Z,O,G.trans ha⟩
def Vd (qx:List jF) (ks:List Xr) (t:LI):Int×Int×Bool :=
 if 0≤fix (Jh t) 0 qx then (1,fix (Jh t) 0 qx,true) else if 0≤fix (JT t) 0 ks then (2,fix (JT t) 0 ks,true) else (0,0,false)
theorem QjE {cds:List Cd}{qx:List XV}{ks:List KV}(t:LI) (h:cds.map Cd.src=qx.map Sum.inl++ks.map Sum.inr) :
  fix (Cd.vio t) 0 cds=if 0≤fix (Jh t) 0 (qx.map (·.x)) then fix (Jh t) 0 (qx.map (·.x)) else if 0≤fix (JT t) 0 (ks.map (·.k)) then fix (JT t) 0 (ks.map (·.k))+qx.length else -1:=by
 have h1:fix (Cd.vio t) 0 cds=fix (QdZ t) 0 (cds.map Cd.src):=(Kx (QdZ t) Cd.src cds 0).symm;rw[h1,h,qO,Kx,Le,yc,Kx (QdZ t) Sum.inr ks 0];have e1:fix (λa=>QdZ t (Sum.inl a)) 0 qx=fix (Jh t) 0 (qx.map (·.x)):=(Kx (Jh t) XV.x qx 0).symm;have e2:fix (λa=>QdZ t (Sum.inr a)) 0 ks=fix (JT t) 0 (ks.map (·.k)):=(Kx (JT t) KV.k ks 0).symm;rw[e1,e2]
theorem QkM {P:Int×Int×Bool}{a b:Int}{c:Bool}(h:P=(a,b,c)):(Value.tuple #[.int .i64 a,.int .i64 b,.bool c,.int .i64 0])=.tuple #[.int .i64 P.1,.int .i64 P.2.1,.bool P.2.2,.int .i64 0]:=by rw[h]
set_option maxHeartbeats 4000000 in
theorem Uv {w:World}{vs vx vk vt:Value}{sz t:LI}{qx:List XV}{ks:List KV}(hS:QL [] w.heap vs sz) (I:zm [] w.heap vx qx) (hK:zg [] w.heap vk ks) (ht:QL [] w.heap vt t) (hc:YH sz (qx.map (·.x)) (ks.map (·.k))=0) (h:Qkb sz t) :
  QK prog 73 [.agg #[vs,vx,vk],vt] w λr w'=>Step [] w w'∧r=.tuple #[.int .i64 (Vd (qx.map (·.x)) (ks.map (·.k)) t).1,.int .i64 (Vd (qx.map (·.x)) (ks.map (·.k)) t).2.1,.bool (Vd (qx.map (·.x)) (ks.map (·.k)) t).2.2,.int .i64 0]:=by
 have J:=Ut hc;have hp:qx.length≤32:=by have:=J.xl;simpa using this
 have hu:ks.length≤32:=by have:=J.kl;simpa using this
 refine QK.of_W func73 O ntmps73 results73 (by simp) ?_;refine Qc<|xl O<|QS (us:=[vs,vx,vk]) O λb2 w1 S h5 hg=>x Qg<|x Qg<|x Qg<|Qe<|Qf<|Qc<|x (Qr hg O O)<|Qb<|xl O<|xf<|(zD (hS.ext S) (I.ext S) (hK.ext S) (ht.ext S) hc h).mono ?_;rintro r2 w2 ⟨rfl,hh⟩;refine Qe<|Qc<|Qb<|x (Q9 O O)<|xe<|ZM rfl ?_;refine Qi ?_;have ha:=S.trans hh;have hj:=hg.ext hh
 refine Qc<|x (Qr hj O O)<|xl O<|xf<|(Qhw (I.ext ha) (hK.ext ha) hp hu).mono ?_;rintro r3 w3 ⟨hk,cds,hL,hb⟩;have Y:=ha.trans hk;have h6:cds.length=qx.length+ks.length:=by have:=congrArg List.length hb;simpa using this
 have hv:∀i,i<t.length→0≤cget t i∧cget t i≤4096:=λi hi=>by
  have h1:=h.2 i hi;have h2:i<sz.length:=by rw[←h.1];exact hi
  have h3:=J.s _ (Lc h2);rw[Za h2] at h3;omega
 have hl:∀c∈cds,c.src∈qx.map Sum.inl++ks.map Sum.inr:=λc hm=>by rw[←hb];exact LK hm
 have hw:∀c∈cds,CdA w3.heap c:=λc hm=>by
  have h1:=hl c hm;have h2:=(hL.bx c hm).1;cases c with
  | ex b q =>
   have hq:q∈qx:=by simpa[Cd.src] using h1
   exact ⟨h2,(I.each q hq).ext Y⟩
  | co b q =>
   have hq:q∈ks:=by simpa[Cd.src] using h1
   exact ⟨h2,(hK.each q hq).ext Y⟩
 have hy:∀c∈cds,c.rg t.length:=λc hm=>by
  have h1:=hl c hm;rw[h.1];cases c with
  | ex b q =>
   have hq:q∈qx:=by simpa[Cd.src] using h1
   exact J.x q.x (LK hq)
  | co b q =>
   have hq:q∈ks:=by simpa[Cd.src] using h1
   exact J.k q.k (LK hq)
 have hz:=QjE t hb;have g1:=QbZ (Jh t) (qx.map (·.x)) 0;have g2:=QbZ (JT t) (ks.map (·.k)) 0;simp only[List.length_map] at g1 g2;refine Qb<|xl O<|xf<|(jN (QU (L:=[]) hL.own (by omega) (by simp)) hw (ht.ext Y) hy hv).mono ?_;rintro r4 w4 ⟨rfl,hn⟩;rw[hz];have V:=Y.trans hn;refine Zc (Vd (qx.map (·.x)) (ks.map (·.k)) t) λP G=>?_;rw[G];unfold Vd at G
 refine Zc (fix (Jh t) 0 (qx.map (·.x))) λH he=>?_;refine Zc (fix (JT t) 0 (ks.map (·.k))) λi2 hf=>?_;rw[he,hf] at G;rw[he] at g1;rw[hf] at g2;refine Zc (if 0≤H then H else if 0≤i2 then i2+(qx.length:Int) else -1) λr E=>?_
 rw[he,hf,E];refine Qe<|Qh<|Qc<|Qb<|x (QB O O)<|Qe<|Q7 O (λh0=>?_) (λh0=>?_)
 ·have n1:¬0≤H:=λh=>by rw[if_pos h] at E;omega
  have n2:¬0≤i2:=λh=>by rw[if_neg n1,if_pos h] at E;omega
  refine Qc<|x Qg<|x Qg<|x Qg<|Qe ?_;exact Qn ⟨[_,_,_,_],⟨O,O,O,O,U⟩,V,QkM (by rw[←G,if_neg n1,if_neg n2])⟩
 have ho:=(hj.ext hk).ext hn;refine Qc<|Qb<|x (Qa O)<|x (Qd ho O O)<|x (Qs (I.ext V).arr O)<|x (QB O O)<|Qe<|Q7 O (λh4=>?_) (λh4=>?_)
 ·have p1:0≤H:=by
   refine Ls.1 λn1=>?_;by_cases h:0≤i2
   ·rw[if_neg n1,if_pos h] at E;omega
   rw[if_neg n1,if_neg h] at E;omega
  have e:r=H:=by rw[if_pos p1] at E;exact E.symm
  refine Qc<|Qb<|x Qg<|x Qg<|x Qg<|Qe ?_;exact Qn ⟨[_,_,_,_],⟨O,O,O,O,U⟩,V,QkM (by rw[←G,if_pos p1,e])⟩
 have n1:¬0≤H:=λh=>by rw[if_pos h] at E;omega
 have p2:0≤i2:=by
  refine Ls.1 λn2=>?_;rw[if_neg n1,if_neg n2] at E;omega
 have e:r - (qx.length:Int)=i2:=by rw[if_neg n1,if_pos p2] at E;omega
 refine Qf<|QW (Step [] w4) [(0,true),(1,true),(2,true),(3,true),(4,true),(5,true),(6,true),(7,true),(8,true)] mixed (by rfl) (by kernel_rfl) (Step.drew _ _) ?_;refine p (λ_=>Qp)<|p (λ_=>Qa O)<|pq (λ_ hc=>Qd (ho.ext hc) O O)<|p (λ_=>Qs (I.ext V).arr O) <|
  p (λ_=>JR O O ⟨by omega,by omega⟩)<|p (λ_=>Qg)<|p (λ_=>Qg)<|p (λ_=>Qg)<|p (λ_=>Qg) <|
  pe ?_
 exact Qn ⟨[_,_,_,_],⟨O,O,O,O,U⟩,V.trans (Step.drew _ _),QkM (by rw[←G,if_neg n1,if_pos p2,←e])⟩
def ZN (base:Nat) (av:LN) (H:Array Obj) (v:Value) (n sz:Nat) (cs:LV):Prop:=∀L:LN,(∀b∈L,b<base∨b∈av)→Zs L H v n sz cs
theorem ZN.ext {base:Nat}{av:LN}{w w':World}{v:Value}{n sz:Nat}{cs:LV}(h:ZN base av w.heap v n sz cs) (hs:Step [] w w'):ZN base av w'.heap v n sz cs:=λL E=>(h L E).ext hs
theorem ZN.app {base:Nat}{av E:LN}{w w':World}{v:Value}{n sz:Nat}{cs:LV}(h:ZN base av w.heap v n sz cs) (hs:Step av w w') (G:∀b∈E,b∈av∨w.heap.size≤b):ZN base E w'.heap v n sz cs:=by
 intro L H;have h1:Zs (av++L.filter λb=>decide (b<base)) w.heap v n sz cs:=h _ (λb hb=>by
  rcases Lj.1 hb with hb | hb
  ·exact .inr hb
  exact .inl (by simpa using (LR.1 hb).2))
 refine h1.grow hs (λb hb=>Lj.2 (.inl hb)) λb hb=>?_;rcases H b hb with h2 | h2
 ·exact .inl (Lj.2 (.inr (LR.2 ⟨hb,by simpa using h2⟩)))
 rcases G b h2 with h3 | h3
 ·exact .inl (Lj.2 (.inl h3))
 exact .inr h3
theorem ZN.of_own {base N:Nat}{av:LN}{w:World}{v:Value}{e n sz:Nat}{cs:LV}(h:w.ownsRow N e sz v n cs) (E:n≤1099511627776) (hb:base≤N) (G:∀b∈av,b<N):ZN base av w.heap v n sz cs:=λL H =>
 QU h E λb hb I=>by
  have h1:=(Qm h b hb).1;rcases H b I with h2 | h2
  ·omega
  have:=G b h2;omega
structure Z2 {α:Type}(g:α→LV) (sz T:Nat) (p:α→Value×Nat×Nat×LV) (base:Nat) (w:World) (v:Value) (l:List α):Prop where
 own:w.ownsRow base T sz v l.length (l.flatMap g)
 each:∀q∈l,ZN base (ob v) w.heap (p q).1 (p q).2.1 (p q).2.2.1 (p q).2.2.2
theorem Z2.nil {α:Type}{g:α→LV}{sz T:Nat}{p:α→Value×Nat×Nat×LV}{base:Nat}{w:World}:Z2 g sz T p base w (nS) []:=⟨QP _ _ _ _,λq hq=>by cases hq⟩
theorem Z2.ext {α:Type}{g:α→LV}{sz T:Nat}{p:α→Value×Nat×Nat×LV}{base:Nat}{w w':World}{v:Value}{l:List α}(h:Z2 g sz T p base w v l) (hs:Step [] w w'):Z2 g sz T p base w' v l:=⟨Qq h.own hs,λq hq=>(h.each q hq).ext hs⟩
theorem Z2.app {α:Type}{g:α→LV}{sz T:Nat}{p:α→Value×Nat×Nat×LV}{base N e:Nat}{w E G:World}{v H:Value}{l:List α}{q:α}(h:Z2 g sz T p base w v l) (hs:Step [] w E)
  (hq:E.ownsRow N e (p q).2.2.1 (p q).1 (p q).2.1 (p q).2.2.2) (S:(p q).2.1≤1099511627776) (hN:w.heap.size≤N) (hb:base≤w.heap.size)
  (V:G.ownsRow base T sz H (l.length+1) (l.flatMap g++g q)) (I:Step (ob v) E G) (J:∀b∈ob H,b∈ob v∨E.heap.size≤b):Z2 g sz T p base G H (l++[q]):=by
 have Y:=QR h.own;refine ⟨?_,λd hd=>?_⟩
 ·rw[Lh,Ly];simpa using V
 rcases Lj.1 hd with hd | hd
 ·exact ((h.each d hd).ext hs).app I J
 simp only[List.mem_singleton] at hd;subst hd;exact (ZN.of_own hq S (by omega) (λb hb=>by have:=Y b hb;omega)).app I J
theorem Qie {L L':LN}{w:World}{va vm ve hc he hf:Value}{a b:QN}(h:Zv L w.heap va vm ve a) (h':Zv L' w.heap hc he hf b) :
  QK prog 25 [.agg #[va,.int .i64 a.st,vm,ve],.agg #[hc,.int .i64 b.st,he,hf]] w λr w'=>r=.bool (decide (a.st=b.st∧a.al=b.al∧a.mr=b.mr∧a.ed=b.ed))∧Step [] w w':=by
 refine QK.of_W func25 O ntmps25 results25 (by simp) ?_;refine Qc<|xl O<|QS (us:=[va,.int .i64 a.st,vm,ve]) O λb2 w1 hk ho hl=>xl O<|QS (us:=[hc,.int .i64 b.st,he,hf]) O λb3 w2 hg E H=>Qe ?_;have I:=hk.trans hg;have J:=hl.ext hg;refine QT (α:=Bool) [(4,30)] (λz=>[(4,.bool z)]) (λz w'=>Step [] w w'∧z=decide (a.st=b.st∧a.al=b.al∧a.mr=b.mr∧a.ed=b.ed)) (by rfl) ?_ ?_
 ·refine Qy<|x (Qa O)<|x (Qd J O O)<|x (Qa O)<|x (Qd H O O)<|xb (Q4 O O) (λh9=>?_) (λh9=>?_)
  ·refine Qb<|x (Qa O)<|x (Qd J O O)<|x (Qa O)<|x (Qd H O O)<|xl O<|xf<|(Ky (h.al.ext I) (h'.al.ext I)).mono ?_;rintro r3 w3 ⟨S,V⟩;have Y:=I.trans V;refine Qhl (decide (a.al=b.al)) (λE=>?_) (λE=>?_)
   ·rw[E] at S;subst S;refine x (Ql O)<|Qb<|x (Qa O)<|x (Qd (J.ext V) O O)<|x (Qa O)<|x (Qd (H.ext V) O O)<|xl O<|xf<|(Ky (h.mr.ext Y) (h'.mr.ext Y)).mono ?_;rintro r4 w4 ⟨ha,hh⟩;have hb:=Y.trans hh;have hj:=V.trans hh;refine Qhl (decide (a.mr=b.mr)) (λG=>?_) (λG=>?_)
    ·rw[G] at ha;subst ha;refine x (Ql O)<|Qb<|x (Qa O)<|x (Qd (J.ext hj) O O)<|x (Qa O)<|x (Qd (H.ext hj) O O)<|xl O<|xf<|(Qez (h.ed.ext hb) (h'.ed.ext hb)).mono ?_;rintro r5 w5 ⟨rfl,hm⟩;refine x (Ql O)<|Qe ?_;exact ⟨_,Z,hb.trans hm,bD ⟨λe=>⟨h9,of_decide_eq_true E,of_decide_eq_true G,e⟩,λe=>e.2.2.2⟩⟩
    rw[G] at ha;subst ha;refine x (Ql O)<|Qb<|xs O<|xs O<|xs O<|xs O<|xs O<|x (Ql O)<|Qe ?_;exact ⟨_,Z,hb,bF (λe=>of_decide_eq_false G e.2.2.1)⟩
   rw[E] at S;subst S;refine x (Ql O)<|Qb<|xs O<|xs O<|xs O<|xs O<|xs O<|x (Ql O)<|Qb<|xs O<|xs O<|xs O<|xs O<|xs O<|x (Ql O) <|
    Qe ?_
   exact ⟨_,Z,Y,bF (λe=>of_decide_eq_false E e.2.1)⟩
  refine Qb<|xs O<|xs O<|xs O<|xs O<|xs O<|x (Ql O)<|Qb<|xs O<|xs O<|xs O<|xs O<|xs O<|x (Ql O) <|
   Qb<|xs rfl<|xs O<|xs O<|xs O<|xs O<|x (Ql O)<|Qe ?_
  exact ⟨_,Z,I,bF (λe=>h9 e.1)⟩
 rintro z g w6 ⟨hn,rfl⟩;exact Qn ⟨[_],Z,O,hn⟩
theorem Qib {L:LN}{w:World}{va vm ve:Value}{a:QN}(h:Zv L w.heap va vm ve a) :
  QK prog 163 [.agg #[va,.int .i64 a.st,vm,ve]] w λr w'=>r=.bool (Kd a)∧Step [] w w':=by
 refine QK.of_W func163 O ntmps163 results163 (by simp) ?_;refine Qc<|xl O<|QS (us:=[va,.int .i64 a.st,vm,ve]) O λb1 E hb hg G=>Qe<|QT (α:=Bool) [(2,11)] (λz=>[(2,.bool z)]) (λz w'=>Step [] w w'∧z=Kd a) (by rfl) ?_ ?_
 ·refine QW (Step [] E) [(0,true),(1,false),(2,true),(3,true),(4,true),(5,true),(6,false),(7,false),(8,true),(9,true)] mixed (by rfl) (by kernel_rfl) (Step.drew _ _) ?_;have S:=hb.trans (Step.drew [] E);refine pq (λ_ hc=>Qr (G.step hc (by simp)) rfl rfl)<|pk<|xf<|(XJ (h.ext S)).mono ?_;rintro r2 w2 ⟨rfl,V⟩;have H:=S.trans V;have I:=(Step.drew [] E).trans V
  refine ⟨I,?_⟩;refine pb (λ_=>Q4 O O) (λh5=>?_) (λh5=>?_)
  ·have hc:JI a=0:=h5;refine p (λ_=>Qp)<|pq (λ_ hc=>Qr (G.step hc (by simp)) rfl rfl)<|pq (λ_ hc=>Qr (G.step hc (by simp)) rfl rfl) <|
    pk<|xf<|(JK (h.ext H) ((ZE a).1 hc)).mono ?_
   rintro r3 w3 ⟨J,hh,hj,hk,rfl,he⟩;have Y:=H.trans J;refine ⟨I.trans J,?_⟩;refine pk<|xf<|(Qie (h.ext Y) (he [] (by simp))).mono ?_;rintro r4 w4 ⟨rfl,ha⟩;refine ⟨(I.trans J).trans ha,?_⟩;refine p (λ_=>Ql O)<|p (λ_=>Qg)<|pe ?_;refine ⟨_,Z,Y.trans ha,?_⟩;unfold Kd;rw[decide_eq_true hc,Bool.true_and]
   exact bD ⟨λe=>⟨e.1.symm,e.2.1.symm,e.2.2.1.symm,e.2.2.2.symm⟩,λe=>⟨e.1.symm,e.2.1.symm,e.2.2.1.symm,e.2.2.2.symm⟩⟩
  have hc:¬JI a=0:=h5;refine p (λ_=>Qp)<|ps<|ps<|ps<|ps<|p (λ_=>Ql O)<|p (λ_=>Qg)<|pe ?_;exact ⟨_,Z,H,by unfold Kd;rw[decide_eq_false hc];rfl⟩
 rintro z g w5 ⟨hf,rfl⟩;exact Qn ⟨[_],Z,O,hf⟩
section
variable {P:Program} {f:Fr} {w:World} {d:Option Nat} {ty:Nat} {ps:String} {af:Array Edge} {gd:Option (Nat×Bool)}
theorem Ys {t sz:Nat}[Ag P t sz] {x:Operand}{b T o:Nat}{cs us:LV}(h:QZ w.heap b T cs) (hx:ev f x=.pointer (some ⟨b,o,none⟩)) (hl:us.length=sz) (hu:(cs.drop o).take sz=us) :
  (execOp (ev f) ⟨d,.load t x,ty,ps,af,gd⟩).run P w=.ok (.value (.agg us.toArray)) w:=UO hx hl λj v E=>by
 rw[Ka,Xx,h.cell];rw[←hu,LW] at E;split at E
 ·simpa using E
 cases E
end
theorem QbV {L:LN}{w:World}{v:Value}{qs:List IV}(h:Xm L w.heap v qs) :
  QK prog 75 [v] w λr w'=>Step [] w w'∧w'.ownsRow w.heap.size 58 4 r (qs.map (·.p)).length ((qs.map (·.p)).flatMap Zk):=by
 have hr:=h.arr.le;refine QK.of_W func75 O ntmps75 results75 (by simp) ?_;refine Qc<|Qe<|Qc<|Qe<|Qf<|Qc<|Qb<|x (Qs h.arr O)<|Qb<|xe<|Qh<|QA (α:=Nat×Value) [(3,3),(5,5),(8,17)] (λz=>[(3,z.2),(8,.int .i64 z.1)]) (λz w'=>z.1≤qs.length∧Step [] w w'∧w'.ownsRow w.heap.size 58 4 z.2 z.1 (((qs.take z.1).map (·.p)).flatMap Zk)) (λz=>qs.length - z.1) (by rfl) (0,nS) ⟨O,O,U⟩
  ⟨Ll _,Step.refl _ _,QP _ _ _ _⟩ ?_
 rintro ⟨k,vo⟩ g w1 ⟨hk,H,I⟩;simp only[] at hk I;refine Qc<|x (QB O O)<|xe<|Qf<|QG O (λh9=>?_) (λh9=>?_)
 ·refine Qz ?_;have he:k=qs.length:=by have J:¬(k:Int)<(qs.length:Int):=h9;omega
  subst he;rw[Lo (Lt _)] at I;refine Qc<|Qb<|Qe ?_;exact Qn ⟨[_],Z,H,by rw[Le];exact I⟩
 have E:k<qs.length:=by have J:(k:Int)<(qs.length:Int):=h9;omega
 have Y:=Lc E;have ha:qs.take (k+1)=qs.take k++[qs[k]'E]:=Li E;refine Qi<|Qf<|Qh<|Qc<|xig Xl (h.arr.ext H) O O E λht J=>?_;refine Zc (qs[k]'E) λq hq=>?_;rw[hq] at J Y ha;have G:=h.each q Y
 refine x (QI J O O)<|xl O<|Qt (us:=[.string .empty,nS,.int .i64 0,nS,nS]) O λb5 w2 hf hg S=>xl O<|Qo (us:=Zh q) S O O O O ⟨O,G.al.one,O,G.mr.one,G.ed.one,U⟩ λw3 hh S =>
  xe ?_
 have hj:Step [] w1 w3:=hf.then1 hh hg;refine Qy<|Qb<|x (Qa O)<|x (Ys (us:=Zk q.p) S O O O)<|xl O<|QC (us:=[Zk q.p]) O O (by decide) (by simp) ⟨rfl,rfl,U⟩ λhv w4 hl hw hm=>?_;have V:=hj.trans hl;have hc:=Qq I V;have hy:=(H.trans V).size;have hn:∀u∈Zk q.p,u.oneCell'=true:=by
  intro u hu;simp only[List.mem_cons,List.not_mem_nil,or_false] at hu;rcases hu with rfl | rfl | rfl | rfl
  ·exact G.al.one
  ·rfl
  ·exact G.mr.one
  exact G.ed.one
 refine xl rfl<|Q5 (news:=Zk q.p) (L:=[]) hc O O O (hm.at (by simp)) hn (by omega) (by omega) λv5 w5 ho hp hz=>Qe ?_;have hge:=Qm hc;refine Qy<|QO O O<|Qb<|xe<|⟨(k+1,v5),by simp only[];omega,⟨O,O,U⟩,E,(H.trans V).then hp (λb hb=>.inr (hge b hb).1),?_⟩;simp only[];rw[ha,Lu,Ly];simpa using ho
theorem QgU {L:LN}{w:World}{r:Value}{base e:Nat}{ps:List AV}(h:w.ownsRow base e 4 r ps.length (ps.flatMap Zk)) (E:ps.length≤1099511627776) (G:∀b∈L,b<base) (he:∀p∈ps,Zv L w.heap p.va p.vm p.ve p.a):XM L w.heap r ps :=
 ⟨QU h E (λb hb H=>by have:=(Qm h b hb).1;have:=G b H;omega),he⟩
theorem QgT {w:World}{b:Nat}{n m:Int}(E:QZ w.heap b 3 [.int .i64 m]) :
  QK prog 164 ([.int .i64 n]++[.pointer (some ⟨b,0,none⟩)]) w λr w'=>r=.bool (decide (m≤n))∧Step [] w w':=by
 refine QK.of_W func164 O ntmps164 results164 (by simp) ?_;refine Qc<|Qe<|Qc<|Qb<|x (Qd E O O)<|x (ZV O O)<|Qe ?_;exact Qn ⟨[_],Z,O,Step.refl _ _⟩
abbrev Vy (n:Int):LV:=[.int .i64 n]
theorem QlF (n:Int):(Vy n).length=1:=rfl
theorem Qkv:∀l:LI,l.flatMap Vy=l.map (.int .i64)
 | []=>rfl
 | a::l=>by rw[LF,Qkv l];rfl
theorem QL.fl {L:LN}{H:Array Obj}{v:Value}{l:LI}(h:QL L H v l):Zs L H v l.length 1 (l.flatMap Vy):=by
 rw[Qkv l];exact h
theorem QgR {gp:Nat}{fn:Func}[Fu prog gp fn] {cap:LV}{q:Int→Bool}{L:LN}{w:World}{v:Value}{l:LI}(h:Zs L w.heap v l.length 1 (l.flatMap Vy))
  (hk:∀e∈l,∀(G:World),Step [] w G→QK prog gp ([.int .i64 e]++cap) G λr w'=>r=.bool (q e)∧Step [] G w') :
  QK prog 131 [v,.func (.func gp) #[] cap.toArray] w λr w'=>r=.int .i64 (fix q 0 l)∧Step [] w w':=by
 have hc:=h.le;refine QK.of_W func131 O ntmps131 results131 (by simp) ?_;refine Qc<|Qe<|Qf<|Qc<|Qb<|x (Qs h O)<|Qb<|xe<|Qh<|QA (α:=Nat) [(4,5),(8,18)] (λz=>[(8,.int .i64 z)]) (λz w'=>z≤l.length∧Step [] w w'∧fix q z (l.drop z)=fix q 0 l) (λz=>l.length - z) (by rfl) 0 Z
  ⟨Ll _,Step.refl _ _,O⟩ ?_
 rintro k g G ⟨hf,H,E⟩;refine Qc<|x (QB O O)<|xe<|Qf<|QG O (λh9=>?_) (λh9=>?_)
 ·refine Qz ?_;have ha:l.length≤k:=by have hb:¬(k:Int)<(l.length:Int):=h9;omega
  rw[Lr ha] at E;refine Qc<|Qe ?_;exact Qn ⟨[_],Z,by rw[←E];rfl,H⟩
 have I:k<l.length:=by have hb:(k:Int)<(l.length:Int):=h9;omega
 rw[QX I,ZT] at E;have S:=Lc I;refine Qi<|Qf<|Qh<|Qc<|Qb<|Qe<|Qc<|Qb<|Qb<|Qb<|xig QlF (h.ext H) O O I λhg V=>?_;refine Zc (l[k]'I) λe he=>?_;rw[he] at V E S;refine x (Qw V O)<|xl O<|xc (first:=[]) (capt:=cap) O<|(hk e S G H).mono ?_;rintro r2 w2 ⟨rfl,Y⟩;refine xe<|Q3 rfl (λJ=>?_) (λJ=>?_)
 ·rw[if_pos J] at E;refine Qc<|Qb<|Qe ?_;exact Qn ⟨[_],Z,by rw[←E];rfl,H.trans Y⟩
 rw[if_neg (by rw[J];decide)] at E;refine Qi<|Qy<|QO O O<|Qb<|xe ?_;exact ⟨k+1,by omega,Z,I,H.trans Y,E⟩
theorem Ql5 {gp:Nat}{fn:Func}[Fu prog gp fn] {cap:LV}{q:Int→Bool}{L:LN}{w:World}{v:Value}{l:LI}(h:Zs L w.heap v l.length 1 (l.flatMap Vy))
  (hk:∀e∈l,∀(E:World),Step [] w E→QK prog gp ([.int .i64 e]++cap) E λr w'=>r=.bool (q e)∧Step [] E w') :
  QK prog 135 [v,.func (.func gp) #[] cap.toArray] w λr w'=>r=.bool (l.any q)∧Step [] w w':=by
 refine QK.of_W func135 O ntmps135 results135 (by simp) ?_;refine Qc<|Qe<|Qc<|Qb<|Qb<|xl O<|xf<|(QgR h hk).mono ?_;rintro H E ⟨rfl,G⟩;refine x (ZV O O)<|Qe ?_;exact Qn ⟨[_],Z,congrArg Value.bool (VF q l 0),G⟩
theorem Qdm {L L':LN}{w:World}{q:IV}{nev:Nat}{vg:Value}{amg:LI}{bm:Nat}{seen:List ByteArray}(hA:Zv L w.heap q.p.va q.p.vm q.p.ve q.p.a) (h4:UC q.nm) (hg:QL L' w.heap vg amg) (hH:amg.length≤4096) (hm:Z7 XG w.heap bm (nmM seen)) (h5:bm∈L) (h6:bm∈L') :
  QK prog 95 [.agg (Zh q).toArray,.int .i64 nev,vg,.map (some bm)] w λr w'=>r=.int .i64 (Z5 nev amg seen q.it)∧Step [bm] w w'∧(Z5 nev amg seen q.it=0→Z7 XG w'.heap bm (nmM (seen++[q.nm]))):=by
 have E:Z5 nev amg seen q.it=(if YG q.nm=false then 7 else if q.nm∈seen then 8 else if JI q.p.a≠0 then JI q.p.a else if Kd q.p.a=false then 6 else if q.p.a.st=0 then 12 else
  if (q.p.a.al.any λe=>decide ((nev:Int)≤e))=true then 2 else if (mns q.p.a.al amg).length≠0 then 9 else 0):=rfl
 refine Zc (Z5 nev amg seen q.it) λR hR=>?_;rw[hR] at E ⊢;refine QK.of_W func95 O ntmps95 results95 (by simp) ?_;refine Qc<|xl O<|QS (us:=Zh q) O λb4 w1 hw hI h7=>xl O<|QS (us:=[.int .i64 nev]) O λb5 w2 V hJ h8=>Qe ?_;have Y:=hw.trans V;have ha:=h7.ext V;refine Qf<|Qh<|Qc<|x (Qa O)<|x (Qd ha O O)<|xl O<|xf<|(Uh q.nm h4 w2).mono ?_;rintro r3 w3 ⟨rfl,rfl⟩
 refine x (Zm O)<|Qe<|Q3 O (λhk=>?_) (λhk=>?_)
 ·have G:YG q.nm=false:=by simpa using hk
  rw[if_pos G] at E;subst E;refine Qc<|Qe ?_;exact Qn ⟨[_],Z,O,Y.any,λe=>absurd e (by decide)⟩
 have G:¬YG q.nm=false:=by simpa using hk
 rw[if_neg G] at E;have hy:=hm.ext Y;refine Qc<|Qb<|x (Qa O)<|x (Qd ha O O)<|x (j8 hy O O)<|Qe<|Q7 O (λhc=>?_) (λhc=>?_)
 ·rw[if_pos hc] at E;subst E;refine Qc<|Qe ?_;exact Qn ⟨[_],Z,O,Y.any,λe=>absurd e (by decide)⟩
 rw[if_neg hc] at E;refine Qi ?_;have hK:=hm.lt;refine Qc<|Qb<|x (Qa O)<|x (Qd ha O O)<|xl O<|XB (k:=q.nm) hy O O λw4 hl hz=>xe ?_;rw[show ev _ _=Value.bool true from rfl,Qc5 hc] at hz;have H:Step [bm] w w4:=Y.any.trans' hl;have hL:=hw.size;have hf:=ha.step hl (by simp;omega);have h9:=h8.step hl (by simp;omega)
 have hh:Zv L w4.heap q.p.va q.p.vm q.p.ve q.p.a:=hA.st (H.mono (λb hb=>by simp at hb;subst hb;exact h5));have hB:QL L' w4.heap vg amg:=hg.st (H.mono (λb hb=>by simp at hb;subst hb;exact h6));refine Qf<|Qc<|x (Qa O)<|x (Ys (us:=Zk q.p) hf O O O)<|xl O<|xf<|(XJ hh).mono ?_;rintro r5 w5 ⟨rfl,hj⟩;refine Qe<|Qc<|Qb<|x (Q9 O O)<|xe<|Q7 rfl (λI=>?_) (λI=>?_)
 ·rw[if_pos I] at E;subst E;refine Qc<|Qb<|Qe ?_;exact Qn ⟨[_],Z,O,H.trans hj,λe=>absurd e I⟩
 rw[if_neg I] at E;have hC:=(ZE q.p.a).1 (Ls.1 I);refine Qi<|Qf<|Qh<|Qc<|x (Qa O)<|x (Ys (us:=Zk q.p) (hf.ext hj) O O O)<|xl O<|xf<|(Qib (hh.ext hj)).mono ?_;rintro r6 w6 ⟨rfl,hD⟩;have J:=hj.trans hD;have h0:=H.trans J;have h1:=hf.ext J;refine x (Zm O)<|Qe<|Q3 O (λho=>?_) (λho=>?_)
 ·have G:Kd q.p.a=false:=by simpa using ho
  rw[if_pos G] at E;subst E;refine Qc<|Qe ?_;exact Qn ⟨[_],Z,O,h0,λe=>absurd e (by decide)⟩
 have G:¬Kd q.p.a=false:=by simpa using ho
 rw[if_neg G] at E;refine Qc<|x (Qa O)<|x (Qa O)<|x (Qd h1 O O)<|x (Q4 O O)<|Qe<|Q7 O (λhp=>?_) (λhp=>?_)
 ·have hq:q.p.a.st=0:=hp;rw[if_pos hq] at E;subst E;refine Qc<|Qe ?_;exact Qn ⟨[_],Z,O,h0,λe=>absurd e (by decide)⟩
 have hq:¬q.p.a.st=0:=hp;rw[if_neg hq] at E;refine Qc<|x (Qa O)<|x (Qa O)<|x (Qd h1 O O)<|x Zq<|xl O<|xf<|(Ql5 (q:=λe=>decide ((nev:Int)≤e)) (cap:=[.pointer (some ⟨b5,0,none⟩)]) (QL.fl (hh.al.ext J)) (λe he w2 V=>QgT ((h9.ext J).ext V))).mono ?_;rintro r7 w7 ⟨rfl,hE⟩;have S:=J.trans hE;have hF:=H.trans S;refine Qe<|Q3 O (λht=>?_) (λht=>?_)
 ·rw[if_pos ht] at E;subst E;refine Qc<|Qe ?_;exact Qn ⟨[_],Z,O,hF,λe=>absurd e (by decide)⟩
 rw[if_neg (by rw[ht];decide)] at E;have hM:=hC.al_le;refine Qc<|x (Qa O)<|x (Qa O)<|x (Qd (hf.ext S) O O)<|Qb<|xl O<|xf<|(QeN (hh.al.ext S) (hB.ext S) (by omega)).mono ?_;rintro r8 w8 ⟨hG,rfl⟩;have h2:=S.trans hG;have h3:=H.trans h2;refine x (qn O)<|Qe<|Q7 O (λhu=>?_) (λhu=>?_)
 ·have hv:(mns q.p.a.al amg).length≠0:=λe=>hu (Ln e);rw[if_pos hv] at E;subst E;refine Qc<|Qe ?_;exact Qn ⟨[_],Z,O,h3,λe=>absurd e (by decide)⟩
 have hv:¬(mns q.p.a.al amg).length≠0:=λe=>hu (λh=>e (by rw[show mns q.p.a.al amg=[] from h];rfl));rw[if_neg hv] at E;subst E;refine Qi<|Qc<|Qe ?_;exact Qn ⟨[_],Z,O,h3,λ_=>hz.ext h2⟩
theorem QeE {L:LN}{w:World}{v:Value}{l:List (Int×Int)}(h:P2s L w.heap v l) :
  QK prog 173 [v] w λr w'=>Step [] w w'∧w'.ownsRow w.heap.size 124 2 r l.length (l.flatMap QQ):=by
 have hb:=h.le;refine QK.of_W func173 O ntmps173 results173 (by simp) ?_;refine Qc<|Qe ?_;obtain ⟨ao,cap,E⟩:=h.shape;refine Qf<|Qc<|Qb<|x (Vn (show ev _ _=_ from E) O)<|xe<|Q3 rfl (λG=>?_) (λG=>?_)
 ·refine Qc<|Qe<|Qn ⟨[nS],Z,Step.refl _ _,?_⟩;rcases h.2.2 with ⟨h1,h2⟩ | ⟨a,c,h1,_⟩
  ·have:l=[]:=Ln h2;subst this;exact QP _ _ _ _
  rw[h1] at E;cases E;cases G
 rcases h.2.2 with ⟨h1,h2⟩ | ⟨a,c,h1,h2,h3⟩
 ·rw[h1] at E;injection E with e1;subst e1;cases G
 refine Qi<|Qc ?_;have S:∀u∈l.flatMap QQ,u.oneCell'=true:=by
  intro u hu;obtain ⟨p,_,hp⟩:=Mv.1 hu;simp only[List.mem_cons,List.not_mem_nil,or_false] at hp;rcases hp with rfl | rfl <;> rfl
 refine xl rfl<|KS λb5 w1 H I J=>Qb<|xl O<|Q5 (base:=w.heap.size) (J.own (n:=0) (sz:=2) O (by omega) I) O (show ev _ _=_ from h1) h.1 (h3.ext H) S (by omega) (by have:=J.lt;omega) λV w2 Y ha hc=>Qe<|Qn ⟨[V],Z,H.then1 ha I,?_⟩;simpa[tup] using Y
theorem QeD {L:LN}{w:World}{v:Value}{l:List (Int×Int)}(h:P2s L w.heap v l) :
  QK prog 174 [v] w λr w'=>Step [] w w'∧w'.ownsRow w.heap.size 129 2 r l.length (l.flatMap QQ):=by
 have hb:=h.le;refine QK.of_W func174 O ntmps174 results174 (by simp) ?_;refine Qc<|Qe ?_;obtain ⟨ao,cap,E⟩:=h.shape;refine Qf<|Qc<|Qb<|x (Vn (show ev _ _=_ from E) O)<|xe<|Q3 rfl (λG=>?_) (λG=>?_)
 ·refine Qc<|Qe<|Qn ⟨[nS],Z,Step.refl _ _,?_⟩;rcases h.2.2 with ⟨h1,h2⟩ | ⟨a,c,h1,_⟩
  ·have:l=[]:=Ln h2;subst this;exact QP _ _ _ _
  rw[h1] at E;cases E;cases G
 rcases h.2.2 with ⟨h1,h2⟩ | ⟨a,c,h1,h2,h3⟩
 ·rw[h1] at E;injection E with e1;subst e1;cases G
 refine Qi<|Qc ?_;have S:∀u∈l.flatMap QQ,u.oneCell'=true:=by
  intro u hu;obtain ⟨p,_,hp⟩:=Mv.1 hu;simp only[List.mem_cons,List.not_mem_nil,or_false] at hp;rcases hp with rfl | rfl <;> rfl
 refine xl rfl<|KS λb5 w1 H I J=>Qb<|xl O<|Q5 (base:=w.heap.size) (J.own (n:=0) (sz:=2) O (by omega) I) O (show ev _ _=_ from h1) h.1 (h3.ext H) S (by omega) (by have:=J.lt;omega) λV w2 Y ha hc=>Qe<|Qn ⟨[V],Z,H.then1 ha I,?_⟩;simpa[tup] using Y
theorem ZN.low {base:Nat}{av X:LN}{w w':World}{v:Value}{n sz:Nat}{cs:LV}(h:ZN base av w.heap v n sz cs) (hs:Step X w w') (E:∀b∈X,b<base):ZN base av w'.heap v n sz cs:=by
 intro L G;have h1:Zs (X++L) w.heap v n sz cs:=h _ (λb hb=>by
  rcases Lj.1 hb with hb | hb
  ·exact .inl (E b hb)
  exact G b hb)
 exact (h1.step hs (λb hb=>Lj.2 (.inl hb))).up (λb hb=>.inl (Lj.2 (.inr hb)))
theorem Z2.low {α:Type}{g:α→LV}{sz T:Nat}{p:α→Value×Nat×Nat×LV}{base:Nat}{X:LN}{w w':World}{v:Value}{l:List α}(h:Z2 g sz T p base w v l) (hs:Step X w w') (E:∀b∈X,b<base):Z2 g sz T p base w' v l :=
 ⟨Qj h.own hs (λb hb hm=>by have:=(Qm h.own b hb).1;have:=E b hm;omega),λq hq=>(h.each q hq).low hs E⟩
theorem Z2.arr {α:Type}{g:α→LV}{sz T:Nat}{p:α→Value×Nat×Nat×LV}{base:Nat}{w:World}{v:Value}{l:List α}{L:LN}(h:Z2 g sz T p base w v l) (E:l.length≤1099511627776) (G:∀b∈L,b<base):Zs L w.heap v l.length sz (l.flatMap g) :=
 QU h.own E (λb hb H=>by have:=(Qm h.own b hb).1;have:=G b H;omega)
abbrev xvP (q:XV):Value×Nat×Nat×LV:=(q.v,q.ls.length,2,q.ls.flatMap QQ)
abbrev kvP (q:KV):Value×Nat×Nat×LV:=(q.v,q.ts.length,2,q.ts.flatMap QQ)
abbrev XvN (base:Nat) (w:World) (v:Value) (l:List XV):Prop:=Z2 Zu 2 122 xvP base w v l
abbrev KvN (base:Nat) (w:World) (v:Value) (l:List KV):Prop:=Z2 Zw 3 127 kvP base w v l
theorem XvN.xcs {base:Nat}{w:World}{v:Value}{l:List XV}{qs:List XV}{L:LN}(h:XvN base w v l) (he:l.map (·.x)=qs.map (·.x)) (hq:∀q∈qs,UC q.nm) (G:l.length≤1099511627776) (E:∀b∈L,b<base):zm L w.heap v l:=by
 refine ⟨h.arr G E,λq hq=>h.each q hq L (λb hb=>.inl (E b hb)),λq hm=>?_⟩;have h1:q.x∈qs.map (·.x):=by rw[←he];exact LK hm
 obtain ⟨q',H,e⟩:=Lp.1 h1;have h2:=hq q' H;have h3:q'.nm=q.nm:=congrArg jF.nm e;rw[h3] at h2;exact h2
theorem KvN.kcs {base:Nat}{w:World}{v:Value}{l:List KV}{qs:List KV}{L:LN}(h:KvN base w v l) (he:l.map (·.k)=qs.map (·.k)) (hq:∀q∈qs,UC q.nm) (G:l.length≤1099511627776) (E:∀b∈L,b<base):zg L w.heap v l:=by
 refine ⟨h.arr G E,λq hq=>h.each q hq L (λb hb=>.inl (E b hb)),λq hm=>?_⟩;have h1:q.k∈qs.map (·.k):=by rw[←he];exact LK hm
 obtain ⟨q',H,e⟩:=Lp.1 h1;have h2:=hq q' H;have h3:q'.nm=q.nm:=congrArg Xr.nm e;rw[h3] at h2;exact h2
theorem QH {w:World}{base e sz n:Nat}{v:Value}{cs:LV}(h:w.ownsRow base e sz v n cs):v.oneCell'=true:=by
 rcases h.2 with ⟨h1,_⟩ | ⟨g,cap,cur,h1,_⟩ <;> subst h1 <;> rfl
theorem Q0 {w:World}{base e sz n:Nat}{v:Value}{cs:LV}(h:w.ownsRow base e sz v n cs):v.cells=[v].toArray:=by
 rcases h.2 with ⟨h1,_⟩ | ⟨g,cap,cur,h1,_⟩ <;> subst h1 <;> rfl
theorem yw {q:XV}(h:q.v.oneCell'=true):∀u∈Zu q,u.oneCell'=true:=by
 intro u hu;simp only[List.mem_cons,List.not_mem_nil,or_false] at hu;rcases hu with rfl | rfl
 ·rfl
 exact h
theorem Qdh {q:KV}(h:q.v.oneCell'=true):∀u∈Zw q,u.oneCell'=true:=by
 intro u hu;simp only[List.mem_cons,List.not_mem_nil,or_false] at hu;rcases hu with rfl | rfl | rfl
 ·rfl
 ·exact h
 rfl
def Qn0 (N:Nat) (w:World) (r:Value) (sz:LI) (ex:List jF) (cs:List Xr):Prop:=∃vs vx vk qx ks,r=.agg #[vs,vx,vk]∧qx.map (·.x)=ex∧ks.map (·.k)=cs∧∀L:LN,(∀b∈L,b<N)→QL L w.heap vs sz∧zm L w.heap vx qx∧zg L w.heap vk ks
set_option maxHeartbeats 4000000 in
theorem ym {L:LN}{w:World}{c:CL}(h:ZF L w.heap c) :
  QK prog 98 [c.val] w λr w'=>Step [] w w'∧Qn0 w.heap.size w' r (szs c.cel.co) c.cel.ex c.cel.cs:=by
 have m6:=h.co.arr.le;have m7:=h.ex.arr.le;have m8:=h.cs.arr.le;refine QK.of_W func98 O ntmps98 results98 (by simp) ?_;refine Qc<|xl O<|QS (us:=c.cells) O λb1 w1 gc m9 ge=>xl O<|Qt (us:=[nS,nS,nS]) O λb2 w2 hJ pa gg=>xe ?_;have pc:=gc.size;have pd:=hJ.size;have pf:=ge.lt;have pg:=gg.lt
 refine Qc<|x (QD U)<|xl O<|Qt (us:=[nS,nS,nS]) O λE w3 g8 g9 h9=>xl O<|Qo (us:=[nS,nS,nS]) h9 O O O O ⟨O,O,O,U⟩ λw4 ka h9 =>
  xe ?_
 have ph:=h9.lt;have Y:Step [] w2 w4:=g8.then1 ka g9;have hK:Step [] w w4:=(gc.trans hJ).trans Y;have pj:=hK.size;have gh:=(ge.ext hJ).ext Y;have kb:=gg.ext Y;have h4:=h.ext hK;have pm:b1<E:=by omega
 have pn:b2<E:=by omega
 have kc:w.heap.size≤E:=by omega
 have hM:∀{wa wb:World},Step [E] wa wb→Step [] w wa→Step [] w wb:=λha hb=>hb.then1 ha kc;refine Qf<|Qc<|x (Qa O)<|x (Qd gh O O)<|x (Qs h4.co.arr O)<|Qb<|xe ?_
 refine Qh<|QA (α:=Nat×Value) [(5,5),(14,26)] (λz=>[(14,.int .i64 z.1)]) (λz w'=>z.1≤c.co.length∧Step [E] w4 w'∧QZ w'.heap E 151 [z.2,nS,nS]∧Qu 3 w4.heap.size w' z.2 ((c.co.take z.1).map (·.p.a.st))) (λz=>c.co.length - z.1) (by rfl) (0,nS) Z
  ⟨Ll _,Step.refl _ _,h9,QP _ _ _ _⟩ ?_
 rintro ⟨k,vs⟩ g w5 ⟨hk,hv,hA,H⟩;simp only[] at hk hA H;have gi:=hM hv hK;have h5:=h.ext gi;have gj:=gh.step hv (by simp;omega);have ke:=kb.step hv (by simp;omega);have po:=hv.size;refine Qc<|x (QB O O)<|xe<|Qf<|QG O (λhN=>?_) (λhN=>?_)
 ·refine Qz ?_;have kf:c.co.length≤k:=by have J:¬(k:Int)<(c.co.length:Int):=hN;omega
  rw[Lo kf] at H;refine Qf<|Qc<|x (Qa O)<|x (Qd gj O O)<|x (Qs h5.ex.arr O)<|Qb<|xe<|Qh<|QA (α:=Nat×Value×List XV) [(7,7),(30,45)] (λz=>[(30,.int .i64 z.1)]) (λz w'=>z.1≤c.ex.length∧Step [E] w5 w'∧QZ w'.heap E 151 [vs,z.2.1,nS]∧XvN w5.heap.size w' z.2.1 z.2.2∧z.2.2.map (·.x)=(c.ex.take z.1).map (·.x)) (λz=>c.ex.length - z.1) (by rfl) (0,nS,[]) Z
   ⟨Ll _,Step.refl _ _,hA,Z2.nil,O⟩ ?_
  rintro ⟨j,vx,qx⟩ g w6 ⟨hj,hf,hO,hg,hh⟩;simp only[] at hj hO hg hh;have gk:=hM hf gi;have h6:=h.ext gk;have kg:=gj.step hf (by simp;omega);have kh:=ke.step hf (by simp;omega);have pp:=hf.size;have pt:qx.length=j:=by have:=congrArg List.length hh;simp at this;omega
  refine Qc<|x (QB O O)<|xe<|Qf<|QG O (λhP=>?_) (λhP=>?_)
  ·refine Qz ?_;have ki:c.ex.length≤j:=by have J:¬(j:Int)<(c.ex.length:Int):=hP;omega
   rw[Lo ki] at hh;refine Qf<|Qc<|x (Qa O)<|x (Qd kg O O)<|x (Qs h6.cs.arr O)<|Qb<|xe<|Qh<|QA (α:=Nat×Value×List KV) [(9,9),(49,66)] (λz=>[(49,.int .i64 z.1)]) (λz w'=>z.1≤c.cs.length∧Step [E] w6 w'∧QZ w'.heap E 151 [vs,vx,z.2.1]∧KvN w6.heap.size w' z.2.1 z.2.2∧z.2.2.map (·.k)=(c.cs.take z.1).map (·.k)) (λz=>c.cs.length - z.1) (by rfl) (0,nS,[]) Z
    ⟨Ll _,Step.refl _ _,hO,Z2.nil,O⟩ ?_
   rintro ⟨i,vk,ks⟩ g w7 ⟨hi,hn,hQ,ho,hp⟩;simp only[] at hi hQ ho hp;have gl:=hM hn gk;have h7:=h.ext gl;have kj:=kh.step hn (by simp;omega);have pu:=hn.size;have pw:ks.length=i:=by have:=congrArg List.length hp;simp at this;omega
   refine Qc<|x (QB O O)<|xe<|Qf<|QG O (λhR=>?_) (λhR=>?_)
   ·refine Qz ?_;have kk:c.cs.length≤i:=by have J:¬(i:Int)<(c.cs.length:Int):=hR;omega
    rw[Lo kk] at hp;have pz:=(H.1);have kn:ZQ [vs,vx,vk]:=⟨QH H,QH hg.own,QH ho.own,U⟩;refine Qc<|x (Qr hQ O O)<|xl O<|Qo (us:=[vs,vx,vk]) kj O O O O kn λw8 hw ko=>xe ?_;have p0:Step [b2] w7 w8:=hw;refine Qn ⟨[.agg #[vs,vx,vk]],⟨⟨_,O,Qv O (ko.at (L:=[]) (by simp)).cells⟩,U⟩,gl.then1 hw (by omega),?_⟩
    have kp:=Qj ((Qj H hf (λb hb hm=>by have:=(Qm H b hb).1;simp at hm;omega))) hn (λb hb hm=>by have:=(Qm H b hb).1;simp at hm;omega);have kq:=Qj kp hw (λb hb hm=>by have:=(Qm H b hb).1;simp at hm;omega);have kr:=(Z2.low hg hn (by simp;omega)).low hw (by simp;omega);have kt:=Z2.low ho hw (by simp;omega)
    refine ⟨vs,vx,vk,qx,ks,O,hh,hp,λL hL=>⟨?_,XvN.xcs kr hh h.ex.nm (by omega) (λb hb=>by have:=hL b hb;omega),KvN.kcs kt hp h.cs.nm (by omega) (λb hb=>by have:=hL b hb;omega)⟩⟩;have he:szs c.cel.co=c.co.map (·.p.a.st):=by show ((c.co.map IV.it).map _)=_;rw[Mj];rfl
    rw[he];exact Qu.ints kq (by rw[Le];omega) (λb hb=>by have:=hL b hb;omega)
   have hr:i<c.cs.length:=by have J:(i:Int)<(c.cs.length:Int):=hR;omega
   have gm:=Lc hr;have gn:c.cs.take (i+1)=c.cs.take i++[c.cs[i]'hr]:=Li hr;refine Qi<|Qf<|Qh<|Qc<|xig JE h7.cs.arr O O hr λp1 go=>?_;refine Zc (c.cs[i]'hr) λq hq=>?_;rw[hq] at go gm gn;have G:=h7.cs.each q gm
   refine x (QI go O O)<|xl O<|Qt (us:=[.string .empty,nS,.int .i64 0]) O λb9 w9 ku kv hy=>xl O<|Qo (us:=Zw q) hy O O O O ⟨O,G.one,O,U⟩ λS kw hy =>
    xe ?_
   have hB:Step [] w7 S:=ku.then1 kw kv;have gp:=hQ.ext hB;have hS:=Qm ho.own;have I:E∉ob vk:=λhm=>by have:=(hS E hm).1;omega
   have hT:b9∉ob vk:=λhm=>by have:=(hS b9 hm).2;omega
   refine QW (Step (ob vk) S) [(0,true),(1,true),(2,true),(3,true),(4,true),(5,true),(7,true),(8,true),(6,false),(9,true),(10,false),(11,false),(12,true),(13,false)] mixed (by rfl) (by kernel_rfl) (Step.drew _ _) ?_;have kx:=hB.trans (Step.drew [] S);refine p (λ_=>Qa O)<|pq (λ_ hc=>Qd (gp.step hc I) O O)<|p (λ_=>Qa O)<|pq (λ_ hc=>Qd (hy.step hc hT) O O) <|
    p (λ_=>Qa O)<|pq (λ_ hc=>Qd (hy.step hc hT) O O)<|p (λ_=>Qa O)<|pq (λ_ hc=>Qd (hy.step hc hT) O O) <|
    pk<|xf<|(QeD (G.ext kx)).mono ?_
   rintro hz p2 ⟨ky,hU⟩;have h0:=(Step.drew [] S).trans ky;refine ⟨h0.any,?_⟩;refine p (λ_=>QD ⟨O,Q0 hU,O,U⟩)<|pk<|QC (us:=[Zw ⟨q.nm,hz,q.ts,q.bd⟩]) O O (by decide) (by simp) ⟨rfl,rfl,U⟩ λp3 p4 h1 p5 kz=>⟨(h0.trans h1).any,?_⟩;have hC:=(hB.trans h0).trans h1;have hV:S.heap.size=({ S with drawn:=S.drawn+1 }:World).heap.size:=rfl
   have p6:=hB.size;have p7:=hC.size;refine pk<|Q5 (news:=Zw ⟨q.nm,hz,q.ts,q.bd⟩) (L:=[]) (Qq ho.own hC) O O O (kz.at (by simp)) (Qdh (q:=⟨q.nm,hz,q.ts,q.bd⟩) (QH hU)) (by omega) (by omega) λhW gq gr hD k0=>⟨((h0.trans h1).any (L:=ob vk)).trans' hD,?_⟩
   have k4:KvN w6.heap.size gq hW (ks++[⟨q.nm,hz,q.ts,q.bd⟩]):=Z2.app ho hC (Qq hU h1) G.le (by rw[←hV];omega) (by omega) gr hD k0;have k5:=(gp.step ((h0.trans h1).any (L:=ob vk)) I).step hD I;refine p (λ_=>Qa O)<|pkl (hl:=by kernel_rfl)<|QF (j:=2) (u:=hW) k5 O O (by simp) (QH gr) λp8 gs k6=>pe ?_
   have k7:Step [E] w6 gq:=(hn.trans hC).then hD (λb hb=>.inr (hS b hb).1);refine Qy<|QO O O<|Qb<|xe<|⟨(i+1,hW,ks++[⟨q.nm,hz,q.ts,q.bd⟩]),by simp only[];omega,Z,hr,?_,k6,Z2.low k4 gs (by simp;omega),?_⟩
   ·exact k7.trans' gs
   simp only[];rw[Lu,hp,gn,Lu];rfl
  have ht:j<c.ex.length:=by have J:(j:Int)<(c.ex.length:Int):=hP;omega
  have gt:=Lc ht;have gu:c.ex.take (j+1)=c.ex.take j++[c.ex[j]'ht]:=Li ht;refine Qi<|Qf<|Qh<|Qc<|xig JZ h6.ex.arr O O ht λp9 gv=>?_;refine Zc (c.ex[j]'ht) λq hq=>?_;rw[hq] at gv gt gu;have G:=h6.ex.each q gt
  refine x (QI gv O O)<|xl O<|Qt (us:=[.string .empty,nS]) O λb7 qc k8 k9 hE=>xl O<|Qo (us:=Zu q) hE O O O O ⟨O,G.one,U⟩ λV ma hE =>
   xe ?_
  have hF:Step [] w6 V:=k8.then1 ma k9;have gw:=hO.ext hF;have hX:=Qm hg.own;have I:E∉ob vx:=λhm=>by have:=(hX E hm).1;omega
  have gx:b7∉ob vx:=λhm=>by have:=(hX b7 hm).2;omega
  refine QW (Step (ob vx) V) [(0,true),(1,true),(2,true),(3,true),(4,true),(5,true),(6,false),(7,true),(8,false),(9,false),(10,true),(11,false)] mixed (by rfl) (by kernel_rfl) (Step.drew _ _) ?_;have mc:=hF.trans (Step.drew [] V);refine p (λ_=>Qa O)<|pq (λ_ hc=>Qd (gw.step hc I) O O)<|p (λ_=>Qa O)<|pq (λ_ hc=>Qd (hE.step hc gx) O O) <|
   p (λ_=>Qa O)<|pq (λ_ hc=>Qd (hE.step hc gx) O O)<|pk<|xf<|(QeE (G.ext mc)).mono ?_
  rintro h2 qf ⟨mf,hY⟩;have h3:=(Step.drew [] V).trans mf;refine ⟨h3.any,?_⟩;refine p (λ_=>QD ⟨O,Q0 hY,U⟩)<|pk<|QC (us:=[Zu ⟨q.nm,h2,q.ls⟩]) O O (by decide) (by simp) ⟨rfl,rfl,U⟩ λql qo h8 qr mg=>⟨(h3.trans h8).any,?_⟩;have hG:=(hF.trans h3).trans h8;have hV:V.heap.size=({ V with drawn:=V.drawn+1 }:World).heap.size:=rfl
  have q0:=hF.size;have q1:=hG.size;refine pk<|Q5 (news:=Zu ⟨q.nm,h2,q.ls⟩) (L:=[]) (Qq hg.own hG) O O O (mg.at (by simp)) (yw (q:=⟨q.nm,h2,q.ls⟩) (QH hY)) (by omega) (by omega) λhZ gy gz hH mh=>⟨((h3.trans h8).any (L:=ob vx)).trans' hH,?_⟩
  have mj:XvN w5.heap.size gy hZ (qx++[⟨q.nm,h2,q.ls⟩]):=Z2.app hg hG (Qq hY h8) G.le (by rw[←hV];omega) (by omega) gz hH mh;have mo:=(gw.step ((h3.trans h8).any (L:=ob vx)) I).step hH I;have mq:Step [E] w5 gy:=(hf.trans hG).then hH (λb hb=>.inr (hX b hb).1)
  refine p (λ_=>Qa O)<|pkl (hl:=by kernel_rfl)<|QF (j:=1) (u:=hZ) mo O O (by simp) (QH gz) λq2 g0 ms=>pe ?_;refine Qy<|QO O O<|Qb<|xe<|⟨(j+1,hZ,qx++[⟨q.nm,h2,q.ls⟩]),by simp only[];omega,Z,ht,?_,ms,Z2.low mj g0 (by simp;omega),?_⟩
  ·exact mq.trans' g0
  simp only[];rw[Lu,hh,gu,Lu];rfl
 have hu:k<c.co.length:=by have J:(k:Int)<(c.co.length:Int):=hN;omega
 have g2:=Lc hu;have g3:c.co.take (k+1)=c.co.take k++[c.co[k]'hu]:=Li hu;have q3:((c.co.take k).map (·.p.a.st)).length=k:=by simp;omega
 refine Qi<|Qf<|Qh<|Qc<|xig Xl h5.co.arr O O hu λq4 J=>?_;refine Zc (c.co[k]'hu) λq hq=>?_;rw[hq] at J g2 g3;have G:=h5.co.each q g2;refine x (QI J O O)<|xl O<|Qt (us:=[.string .empty,nS,.int .i64 0,nS,nS]) O λb5 q5 mt mu ga=>xl O<|Qo (us:=Zh q) ga O O O O ⟨O,G.al.one,O,G.mr.one,G.ed.one,U⟩ λmv mw ga =>
  xe ?_
 have g4:Step [] w5 mv:=mt.then1 mw mu;have my:=hA.ext g4;refine Qy<|x (Qa O)<|x (Qd my O O)<|x (Qa O)<|x (Qa O)<|x (Qd ga O O)<|xl O<|QC (us:=[[.int .i64 q.p.a.st]]) O O (by decide) (by simp) ⟨rfl,rfl,U⟩ λza zv mz z0 m0=>?_;have hI:=g4.trans mz;have z1:=hI.size;have g5:=Qm H;have I:E∉ob vs:=λhm=>by have:=(g5 E hm).1;omega
 refine xl rfl<|Q5 (news:=[.int .i64 q.p.a.st]) (L:=[]) (Qq H hI) O O O (m0.at (by simp)) (by simp[Value.oneCell']) (by omega) (by omega) λg6 m1 gb Y z2=>?_;have m2:=(hA.ext hI).step Y I;have m3:Step [E] w4 m1:=(hv.trans hI).then Y (λb hb=>.inr (g5 b hb).1);refine x (Qa O)<|xl O<|QF (j:=0) (u:=g6) m2 O O (by simp) (QH gb) λz3 g7 m4 =>
  xe ?_
 have m5:=Qj gb g7 (λb hb hm=>by have:=(Qm gb b hb).1;simp at hm;omega);refine Qy<|QO O O<|Qb<|xe<|⟨(k+1,g6),by simp only[];omega,Z,hu,m3.trans' g7,m4,?_⟩;simp only[];rw[g3,Lu];exact Qu.snoc (n:=q.p.a.st) m5
theorem Qe6 (n:Nat):JY (n+1)=JY n++[(n:Int)]:=by unfold JY;rw[List.range_succ,Lu];rfl
theorem yz (n:Nat):(JY n).length=n:=by unfold JY;simp
theorem X4 {k:Nat}{l:List IV}(h:k<l.length):(l.drop k).map (·.it)=(l[k]'h).it::(l.drop (k+1)).map (·.it):=by rw[QX h];rfl
theorem qX {n:Nat}{u:LI}{s:List ByteArray}{x:Yp}(h:Z5 n u s x=0):Q2 x.a:=by
 unfold Z5 at h;split at h
 ·cases h
 split at h
 ·cases h
 split at h
 ·rename_i h1 h2;exact absurd h h2
 rename_i h1;exact (ZE _).1 (Ls.1 h1)
theorem K1 {n:Nat}{al:LI}{s:List ByteArray}{u:LI}{x:Yp}{l:List Yp}:Z9 n al s u (x::l)=if Z5 n al s x≠0 then (Z5 n al s x,s,u) else Z9 n al (s++[x.nm]) (mrg (· || ·) u x.a.al) l:=rfl
theorem qW {n:Nat}{u:LI}{s:List ByteArray}{x:Yp}{l:List Yp}:Js n u s (x::l)=if Z5 n u s x≠0 then Z5 n u s x else Js n u (s++[x.nm]) l:=rfl
set_option maxHeartbeats 4000000 in
theorem Y4 {L:LN}{w:World}{c:CL}(h:ZF L w.heap c) :
  QK prog 37 [c.val] w λr w'=>r=.int .i64 (Zb c.cel)∧Step [] w w':=by
 have kg:=h.co.arr.le;have kh:=h.rq.arr.le;have E:Zb c.cel=(if Je c.ev≠0 then Je c.ev else if c.co.length=0 then 12 else if 8<c.co.length∨12<c.co.length+c.rq.length then 3 else
  if (Z9 c.ev.length (JY c.ev.length) [] [] (c.co.map (·.it))).1≠0 then (Z9 c.ev.length (JY c.ev.length) [] [] (c.co.map (·.it))).1 else
  if Js c.ev.length (Z9 c.ev.length (JY c.ev.length) [] [] (c.co.map (·.it))).2.2 (Z9 c.ev.length (JY c.ev.length) [] [] (c.co.map (·.it))).2.1 (c.rq.map (·.it))≠0 then Js c.ev.length (Z9 c.ev.length (JY c.ev.length) [] [] (c.co.map (·.it))).2.2 (Z9 c.ev.length (JY c.ev.length) [] [] (c.co.map (·.it))).2.1 (c.rq.map (·.it)) else
  YH (szs c.cel.co) c.cel.ex c.cel.cs):=by
  unfold Zb;rw[show c.cel.co.length=c.co.length from Le ..,show c.cel.rq.length=c.rq.length from Le ..];rfl
 refine Zc (Zb c.cel) λR hR=>?_;rw[hR] at E ⊢;refine Zc (Z9 c.ev.length (JY c.ev.length) [] [] (c.co.map (·.it))) λCO hC=>?_;rw[hC] at E;refine QK.of_W func37 O ntmps37 results37 (by simp) ?_;refine Qc<|xl O<|QS (us:=c.cells) O λb1 w1 hz ki h0=>Qe ?_;have kj:=hz.size;have kk:=h0.lt;refine Qf<|Qc<|x (Qa O)<|x (Qd h0 O O)<|xl O<|xf<|(qS (h.ev.ext hz)).mono ?_;rintro r2 w2 ⟨rfl,hD⟩
 refine Qe ?_;have hc:=hz.trans hD;have hp:=h0.ext hD;have h2:=h.ext hc;refine Qc<|Qb<|x (Q9 O O)<|xe<|Q7 rfl (λht=>?_) (λht=>?_)
 ·rw[if_pos ht] at E;subst E;refine Qc<|Qb<|Qe ?_;exact Qn ⟨[_],Z,O,hc⟩
 rw[if_neg ht] at E;have kn:c.ev.length≤32:=by
  refine Ls.1 λhn=>?_;apply ht;unfold Je;rw[if_pos (by omega)];decide
 refine Qi<|Qf<|Qc<|x (Qa O)<|x (Qd hp O O)<|x (Qs h2.co.arr O)<|Qe<|Qh<|Qc<|Qb<|x (Q4 O O)<|Qe<|Q7 O (λh1=>?_) (λh1=>?_)
 ·have h3:c.co.length=0:=by have gb:(c.co.length:Int)=0:=h1;omega
  rw[if_pos h3] at E;subst E;refine Qc<|Qe ?_;exact Qn ⟨[_],Z,O,hc⟩
 have h3:¬c.co.length=0:=by have gb:¬(c.co.length:Int)=0:=h1;omega
 rw[if_neg h3] at E;refine QT (α:=Bool) [(27,37)] (λz=>[(27,.bool z)]) (λz w'=>w'=w2∧z=decide (8<c.co.length∨12<c.co.length+c.rq.length)) (by rfl) ?_ ?_
 ·refine Qy<|Qb<|xb (ZR O O) (λgc=>?_) (λgc=>?_)
  ·refine Qb<|xs O<|xs O<|xs O<|xs O<|xs O<|xs O<|x (Ql O)<|Qe ?_;exact ⟨_,Z,O,bT (.inl (by omega))⟩
  refine Qb<|Qb<|x (Qa O)<|x (Qd hp O O)<|x (Qs h2.rq.arr O)<|x (Jk O O ⟨by omega,by omega⟩) <|
   x (ZR rfl O)<|x (Ql O)<|Qe ?_
  exact ⟨_,Z,O,bD (by omega)⟩
 rintro z g w3 ⟨rfl,rfl⟩;refine Q7 rfl (λh4=>?_) (λh4=>?_)
 ·rw[if_pos h4] at E;subst E;refine Qc<|Qe ?_;exact Qn ⟨[_],Z,O,hc⟩
 rw[if_neg h4] at E;refine Qi<|Qc<|xl O<|YB XG λbm w4 hE ko hG=>Qe ?_;have kp:=hG.lt;have kq:=hp.lt;have kr:=hc.size;have hH:=hc.trans hE;have hI:=hp.ext hE;have hJ:b1≠bm:=by omega
 have hge:w.heap.size≤bm:=by omega
 have hM:ZF [bm] w.heap c:=h.up (λb hb=>.inr (by simp at hb;omega));have hK:=hM.ext hH;refine Qc<|x Qg<|Qe<|Qf<|Qc<|x (Qa O)<|x (Qd hI O O)<|x (Qs hK.ev.arr O)<|Qb<|xe<|Qh<|QA (α:=Nat×Value) [(6,6),(8,8),(42,49)] (λz=>[(6,z.2),(42,.int .i64 z.1)]) (λz w'=>z.1≤c.ev.length∧Step [] w4 w'∧Qu 3 w4.heap.size w' z.2 (JY z.1)) (λz=>c.ev.length - z.1) (by rfl) (0,nS) ⟨O,O,U⟩
  ⟨Ll _,Step.refl _ _,QP _ _ _ _⟩ ?_
 rintro ⟨k,vg⟩ g w5 ⟨hk,he,hu⟩;simp only[] at hk hu;have kt:=yz k;refine Qc<|x (QB O O)<|xe<|Qf<|QG O (λh5=>?_) (λh5=>?_)
 ·refine Qz ?_;have hf:k=c.ev.length:=by have hg:¬(k:Int)<(c.ev.length:Int):=h5;omega
  subst hf;have ge:QL [bm] w5.heap vg (JY c.ev.length):=Qu.ints hu (by omega) (by simp;omega);have gg:=hG.ext he;have hL:=hI.ext he;have hN:=hK.ext he;have gh:=hH.trans he;refine Qf<|Qc<|x (Qa O)<|x (Qd hL O O)<|x (Qs hN.co.arr O)<|Qb<|xe ?_
  refine Qh<|QA (α:=Nat×Value×List ByteArray×LI) [(2,2),(7,7),(10,11),(53,72)] (λz=>[(7,z.2.1),(53,.int .i64 z.1)]) (λz w'=>z.1≤c.co.length∧Step [bm] w5 w'∧Z7 XG w'.heap bm (nmM z.2.2.1)∧QL [bm] w'.heap z.2.1 z.2.2.2∧z.2.2.2.length≤32*z.1∧Z9 c.ev.length (JY c.ev.length) z.2.2.1 z.2.2.2 ((c.co.drop z.1).map (·.it))=CO) (λz=>c.co.length - z.1) (by rfl) (0,nS,[],[]) ⟨O,O,U⟩
   ⟨Ll _,Step.refl _ _,gg,Zs.nil _ _ _,by simp,hC⟩ ?_
  rintro ⟨k,vu,sn,u⟩ g w6 ⟨hk,hh,hv,h6,gi,H⟩;simp only[] at hk hv h6 gi H;have hO:Step [] w w6:=gh.then1 hh hge;have h7:=hL.step hh (by simpa using hJ);have V:=hN.st hh;refine Qc<|x (QB O O)<|xe<|Qf<|QG O (λh8=>?_) (λh8=>?_)
  ·refine Qz ?_;have hf:k=c.co.length:=by have hg:¬(k:Int)<(c.co.length:Int):=h8;omega
   subst hf;rw[Lr (Lt _)] at H;have gj:CO=(0,sn,u):=H.symm;subst gj;rw[if_neg (by simp)] at E;simp only[] at E;refine Zc (Js c.ev.length u sn (c.rq.map (·.it))) λRQ hP=>?_;rw[hP] at E;refine Qf<|Qc<|x (Qa O)<|x (Qd h7 O O)<|x (Qs V.rq.arr O)<|Qb<|xe ?_
   refine Qh<|QA (α:=Nat×List ByteArray) [(2,2),(13,14),(76,90)] (λz=>[(76,.int .i64 z.1)]) (λz w'=>z.1≤c.rq.length∧Step [bm] w6 w'∧Z7 XG w'.heap bm (nmM z.2)∧Js c.ev.length u z.2 ((c.rq.drop z.1).map (·.it))=RQ) (λz=>c.rq.length - z.1) (by rfl) (0,sn) Z
    ⟨Ll _,Step.refl _ _,hv,hP⟩ ?_
   rintro ⟨k,sm⟩ g w7 ⟨hk,hj,hQ,I⟩;simp only[] at hk hQ I;have hS:Step [] w w7:=hO.then1 hj hge;have hT:=h7.step hj (by simpa using hJ);have hl:=V.st hj;have gk:=h6.st hj;refine Qc<|x (QB O O)<|xe<|Qf<|QG O (λh9=>?_) (λh9=>?_)
   ·refine Qz ?_;have hf:c.rq.length≤k:=by have hg:¬(k:Int)<(c.rq.length:Int):=h9;omega
    rw[Lr hf] at I;have gl:RQ=0:=I.symm;rw[if_neg (by rw[gl];decide)] at E;refine Qc<|x (Qr hT O O)<|xl O<|xf<|(ym hl).mono ?_;rintro r8 w8 ⟨gm,vs,vx,vk,qx,ks,rfl,gn,go,hF⟩;obtain ⟨gp,gq,gr⟩:=hF [] (by simp);refine xl O<|xf<|(qR gp gq gr).mono ?_;rintro r9 w9 ⟨rfl,gs⟩;rw[gn,go,←E];refine Qe ?_;exact Qn ⟨[_],Z,O,(hS.trans gm).trans gs⟩
   have G:k<c.rq.length:=by have hg:(k:Int)<(c.rq.length:Int):=h9;omega
   have S:=Lc G;rw[X4 G,qW] at I;refine Qi<|Qf<|Qh<|Qc<|xig Xl hl.rq.arr O O G λku hU=>?_;refine Zc (c.rq[k]'G) λq hq=>?_;rw[hq] at hU S I;have J:=hl.rq.each q S
   refine x (QI hU O O)<|xl O<|Qt (us:=[.string .empty,nS,.int .i64 0,nS,nS]) O λkv kw gt gu hA=>xl O<|Qo (us:=Zh q) hA O O O O ⟨O,J.al.one,O,J.mr.one,J.ed.one,U⟩ λgv gw hA =>
    xe ?_
   have Y:Step [] w7 gv:=gt.then1 gw gu;refine Qc<|x (Qr hA O O)<|x (Qa O)<|x (Qd (hT.ext Y) O O)<|x (Qs (hl.ev.ext Y).arr O)<|Qb<|Qb<|xl O<|xf<|(Qdm (J.ext Y) (hl.rq.nm q S) (gk.ext Y) (by omega) (hQ.ext Y) (by simp) (by simp)).mono ?_;rintro kx ky ⟨rfl,hV,gx⟩;refine Qe<|Qc<|Qb<|x (Q9 O O)<|xe<|Q7 O (λhm=>?_) (λhm=>?_)
   ·rw[if_pos hm] at I;rw[if_pos (by rw[←I];exact hm)] at E;refine Qc<|Qb<|Qe ?_;exact Qn ⟨[_],Z,by rw[E,←I];rfl,(hS.trans Y).then1 hV hge⟩
   rw[if_neg hm] at I;refine Qi<|Qy<|QO O O<|Qb<|xe ?_;exact ⟨(k+1,sm++[q.nm]),by simp only[];omega,Z,G,(hj.trans Y).trans' hV,gx (Ls.1 hm),I⟩
  have G:k<c.co.length:=by have hg:(k:Int)<(c.co.length:Int):=h8;omega
  have S:=Lc G;rw[X4 G,K1] at H;refine Qi<|Qf<|Qh<|Qc<|xig Xl V.co.arr O O G λkz hW=>?_;refine Zc (c.co[k]'G) λq hq=>?_;rw[hq] at hW S H;have J:=V.co.each q S;have gy:=ge.st hh
  refine x (QI hW O O)<|xl O<|Qt (us:=[.string .empty,nS,.int .i64 0,nS,nS]) O λk0 k4 gz g0 hw=>xl O<|Qo (us:=Zh q) hw O O O O ⟨O,J.al.one,O,J.mr.one,J.ed.one,U⟩ λg2 g3 hw =>
   xe ?_
  have ha:Step [] w6 g2:=gz.then1 g3 g0;have k5:=hv.lt;refine Qf<|Qc<|x (Qr hw O O)<|x (Qa O)<|x (Qd (h7.ext ha) O O)<|x (Qs (V.ev.ext ha).arr O)<|Qb<|Qb<|xl O<|xf<|(Qdm (J.ext ha) (V.co.nm q S) (gy.ext ha) (by omega) (hv.ext ha) (by simp) (by simp)).mono ?_;rintro k6 g4 ⟨rfl,hB,g5⟩;refine Qe<|Qc<|Qb<|x (Q9 O O)<|xe ?_
  refine Q7 O (λho=>?_) (λho=>?_)
  ·rw[if_pos ho] at H;rw[if_pos (by rw[←H];exact ho)] at E;refine Qc<|Qb<|Qe ?_;exact Qn ⟨[_],Z,by rw[E,←H];rfl,(hO.trans ha).then1 hB hge⟩
  rw[if_neg ho] at H;have hX:Z5 c.ev.length (JY c.ev.length) sn q.it=0:=Ls.1 ho;have g6:=(qX hX).al_le;have k7:q.p.a.al.length≤32:=g6;refine Qi ?_;have hy:Step [bm] w6 g4:=ha.any.trans' hB;have g7:=h6.st hy;have k8:=hy.size
  refine Qy<|Qb<|x (Qa O)<|x (Qa O)<|x (Qd (hw.step hB (by simp;omega)) O O)<|xl O<|xf<|(Qa3 g7 (V.st hy |>.co.each q S |>.al) (by omega)).mono ?_;rintro g8 k9 ⟨hY,g9⟩;refine Qe ?_;have ma:=y8 (· || ·) u q.p.a.al;refine Qy<|QO O O<|Qb<|xe ?_
  exact ⟨(k+1,g8,sn++[q.nm],mrg (· || ·) u q.p.a.al),by simp only[];omega,⟨O,O,U⟩,G,(hh.trans' hy).trans hY,(g5 hX).ext hY,Qu.ints g9 (by show (mrg _ _ _).length≤_;omega) (by simp;omega),by simp only[];omega,H⟩
 have G:k<c.ev.length:=by have hg:(k:Int)<(c.ev.length:Int):=h5;omega
 refine Qi<|Qf<|Qh<|Qc<|Qb<|Qe<|Qy<|Qb<|Qb<|xl O<|QC (us:=[[.int .i64 k]]) O O (by decide) (by simp) ⟨rfl,rfl,U⟩ λmc mf hZ mg ka=>?_;have ga:=he.trans hZ;have mh:=ga.size;have kb:=Qm hu;refine xl rfl<|Q5 (news:=[.int .i64 k]) (L:=[]) (Qq hu hZ) O O O (ka.at (by simp)) (by simp[Value.oneCell']) (by omega) (by omega) λkc mj ke kf mo =>
  Qe<|Qy<|QO O O<|Qb<|xe ?_
 refine ⟨(k+1,kc),by simp only[];omega,⟨O,O,U⟩,G,ga.then kf (λb hb=>.inr (kb b hb).1),?_⟩;simp only[];rw[Qe6];exact Qu.snoc (n:=(k:Int)) ke
end Go.Proofs.YtdffckgdcegpaaaGreatDoor
namespace Go.Lg
theorem QnF {P:Program}{ops:List Oper}{K:Fr→World→Prop}{f:Fr}{w:World}{d:Option Nat}{ty:Nat}{ps:String}{af:Array Edge}{gd:Option (Nat×Bool)}{C:World→Prop}{pl:List (Nat×Bool)}{E:Nat}
  {t e sz bys:Nat} {z:Value} {x G I:Operand} {L:LN} {v:Value} {n:Nat} {cs:LV} {H:Array Obj} {k k':IntKind} {hi:Nat} [h:Sl P t e sz bys z]
  (J:Q6 ops E=⟨d,.slice t x none (some G) (some I),ty,ps,af,gd⟩) (S:Zs L H v n sz cs) (hx:ev f x=v) (V:ev f G=.int k hi) (hm:ev f I=.int k' hi) (h1:hi≤n)
  (Y:∀v',Zs L H v' hi sz (cs.take (hi*sz))→XP P ops C K pl (QV f d v') w)
  (hg:Yk ops f (Q6 ops E)=true:=by rfl):XP P ops C K ((E,true)::pl) f w:=by
 obtain ⟨v',h3,h4⟩:=QfP (P:=P) (d:=d) (ty:=ty) (ps:=ps) (af:=af) (gd:=gd) (t:=t) S hx V hm h1;exact Lg.p (λw'=>by rw[J];exact h4 w') (by rw[J];exact Y v' h3) hg
end Go.Lg
namespace Go.Proofs.YtdffckgdcegpaaaGreatDoor
open Go.Proofs.Tryz
open Go.Lg
structure Qif (c:Q8):Prop where
 ev:c.ev.length≤32
 c0:c.co.length≠0
 c8:c.co.length≤8
 cr:c.co.length+c.rq.length≤12
 co:∀x∈c.co,Q2 x.a
 rq:∀x∈c.rq,Q2 x.a
 ce:∀x∈c.co,∀e∈x.a.al,e<(c.ev.length:Int)
 re:∀x∈c.rq,∀e∈x.a.al,e<(c.ev.length:Int)
 cd:YH (szs c.co) c.ex c.cs=0
 e0:Je c.ev=0
theorem QaO {n:Nat}{u:LI}{s:List ByteArray}{x:Yp}(h:Z5 n u s x=0):∀e∈x.a.al,e<(n:Int):=by
 unfold Z5 at h;split at h
 ·cases h
 split at h
 ·cases h
 split at h
 ·rename_i h1 h2;exact absurd h h2
 split at h
 ·cases h
 split at h
 ·cases h
 split at h
 ·cases h
 rename_i h1;intro e he;refine Ls.1 λE=>h1 ?_;rw[Mr];exact ⟨e,he,decide_eq_true (by omega)⟩
theorem QaR {n:Nat}{al:LI}:∀{l:List Yp}{s:List ByteArray}{u:LI},(Z9 n al s u l).1=0→∀x∈l,Q2 x.a∧∀e∈x.a.al,e<(n:Int)
 | [],_,_,_,x,hx=>by cases hx
 | y::l,s,u,h,x,hx=>by
  rw[K1] at h;by_cases h1:Z5 n al s y≠0
  ·rw[if_pos h1] at h;exact absurd h h1
  rw[if_neg h1] at h;have h2:Z5 n al s y=0:=Ls.1 h1;rcases Lb.1 hx with rfl | hx
  ·exact ⟨qX h2,QaO h2⟩
  exact QaR h x hx
theorem QaM {n:Nat}{u:LI}:∀{l:List Yp}{s:List ByteArray},Js n u s l=0→∀x∈l,Q2 x.a∧∀e∈x.a.al,e<(n:Int)
 | [],_,_,x,hx=>by cases hx
 | y::l,s,h,x,hx=>by
  rw[qW] at h;by_cases h1:Z5 n u s y≠0
  ·rw[if_pos h1] at h;exact absurd h h1
  rw[if_neg h1] at h;have h2:Z5 n u s y=0:=Ls.1 h1;rcases Lb.1 hx with rfl | hx
  ·exact ⟨qX h2,QaO h2⟩
  exact QaM h x hx
theorem ZU {c:Q8}(h:Zb c=0):Qif c:=by
 unfold Zb at h;by_cases h1:Je c.ev≠0
 ·rw[if_pos h1] at h;exact absurd h h1
 rw[if_neg h1] at h;by_cases h2:c.co.length=0
 ·rw[if_pos h2] at h;cases h
 rw[if_neg h2] at h;by_cases h3:8<c.co.length∨12<c.co.length+c.rq.length
 ·rw[if_pos h3] at h;cases h
 rw[if_neg h3] at h;by_cases E:(Z9 c.ev.length (JY c.ev.length) [] [] c.co).1≠0
 ·rw[if_pos E] at h;exact absurd h E
 rw[if_neg E] at h;by_cases h5:Js c.ev.length (Z9 c.ev.length (JY c.ev.length) [] [] c.co).2.2 (Z9 c.ev.length (JY c.ev.length) [] [] c.co).2.1 c.rq≠0
 ·rw[if_pos h5] at h;exact absurd h h5
 rw[if_neg h5] at h;have a4:=QaR (Ls.1 E);have G:=QaM (Ls.1 h5);have H:c.ev.length≤32:=by
  refine Ls.1 λI=>?_;apply h1;unfold Je;rw[if_pos (by omega)];decide
 exact ⟨H,h2,by omega,by omega,λx hx=>(a4 x hx).1,λx hx=>(G x hx).1,λx hx=>(a4 x hx).2,λx hx=>(G x hx).2,h,Ls.1 h1⟩
theorem Yb.e {N:Nat}{H:Array Obj}{aa:List QN}{va vt:Value}{c:Int}(h:Yb N H aa va vt c):c=J2 aa:=by
 unfold Yb at h;unfold J2;by_cases h1:KB aa≠0
 ·rw[if_pos h1] at h ⊢;exact h.1
 rw[if_neg h1] at h ⊢;cases hs:sync aa with
 | none=>rw[hs] at h;exact h.1
 | some z=>rw[hs] at h;exact h.1
theorem Yb.bad {N:Nat}{H:Array Obj}{aa:List QN}{va vt:Value}{c:Int}(h:Yb N H aa va vt c) (hc:c≠0):va=zA∧vt=Zg:=by
 unfold Yb at h;by_cases h1:KB aa≠0
 ·rw[if_pos h1] at h;exact h.2
 rw[if_neg h1] at h;cases hs:sync aa with
 | none=>rw[hs] at h;exact h.2
 | some z=>rw[hs] at h;exact absurd h.1 hc
theorem Yb.good {N:Nat}{H:Array Obj}{aa:List QN}{va vt:Value}{c:Int}(h:Yb N H aa va vt c) (hc:c=0):Y0 N H va (XN aa)∧Qa4 N H vt (YV aa)∧sync aa=some (XN aa,YV aa)∧KB aa=0:=by
 unfold Yb at h;unfold XN YV;by_cases h1:KB aa≠0
 ·rw[if_pos h1] at h;exact absurd (h.1.symm.trans hc) h1
 rw[if_neg h1] at h;cases hs:sync aa with
 | none=>rw[hs] at h;rw[h.1] at hc;cases hc
 | some z=>rw[hs] at h;exact ⟨h.2.1,h.2.2,O,Ls.1 h1⟩
theorem Yb.st1 {N b:Nat}{w w':World}{aa:List QN}{va vt:Value}{c:Int}(h:Yb N w.heap aa va vt c) (hb:b<N) (hs:Step [b] w w'):Yb N w'.heap aa va vt c:=by
 unfold Yb at *;split
 ·rename_i h1;rw[if_pos h1] at h;exact h
 rename_i h1;rw[if_neg h1] at h;cases hq:sync aa with
 | none=>rw[hq] at h;exact h
 | some z=>rw[hq] at h;exact ⟨h.1,Xi h.2.1 hb hs,Qh2 h.2.2 hb hs⟩
theorem Yb.mono {N M:Nat}{H:Array Obj}{aa:List QN}{va vt:Value}{c:Int}(h:Yb N H aa va vt c) (E:M≤N):Yb M H aa va vt c:=by
 unfold Yb at *;split
 ·rename_i h1;rw[if_pos h1] at h;exact h
 rename_i h1;rw[if_neg h1] at h;cases hq:sync aa with
 | none=>rw[hq] at h;exact h
 | some z=>rw[hq] at h;exact ⟨h.1,h.2.1.mono E,h.2.2.mono E⟩
theorem QiF (c:Q8):Yz c=if Zb c≠0 then Zb c else if J2 (auts c.co)≠0 then J2 (auts c.co) else J2 (auts c.co++auts c.rq):=by
 unfold Yz;split
 ·rfl
 have e:J2 (auts c.co)=if KB (auts c.co)≠0 then KB (auts c.co) else match sync (auts c.co) with | none=>3 | some _=>0:=rfl
 by_cases h1:KB (auts c.co)≠0
 ·rw[if_pos h1] at e;rw[if_pos h1,e,if_pos h1]
 rw[if_neg h1] at e;rw[if_neg h1];cases hs:sync (auts c.co) with
 | none=>rw[hs] at e;simp only[] at e;rw[e];rfl
 | some z=>rw[hs] at e;simp only[] at e;rw[e];rfl
theorem QdO (c:CL):(c.co.map (·.p)).map (·.a)=auts c.cel.co:=by unfold auts;show _=(c.co.map IV.it).map _;rw[Mj,Mj];rfl
theorem Qj6 (c:CL):(c.rq.map (·.p)).map (·.a)=auts c.cel.rq:=by unfold auts;show _=(c.rq.map IV.it).map _;rw[Mj,Mj];rfl
theorem yW {ps:List AV}(h:∀p∈ps,Q2 p.a):∀p∈ps,p.a.st≤4096:=λp hp=>(h p hp).st1
def Uw (N:Nat) (H:Array Obj) (c:Q8) (va vt:Value) (e:Int):Prop:=if Zb c≠0 then e=Zb c∧va=zA∧vt=Zg else Yb N H (auts c.co) va vt e
theorem Qa6 {L:LN}{w:World}{c:CL}(h:ZF L w.heap c) (hh:Kb w 4096) :
  QK prog 28 [c.val] w λr w'=>Step [] w w'∧∃va vt e,r=.tuple #[va,vt,.int .i64 e]∧Uw w.heap.size w'.heap c.cel va vt e:=by
 refine QK.of_W func28 O ntmps28 results28 (by simp) ?_;refine Qc<|xl O<|QS (us:=c.cells) O λb1 w1 Y hy hj=>xl O<|Qt (us:=[nS,.int .i64 0,nS,nS]) O λb2 w2 ha hz J=>x Qg<|Qe ?_;have hb:=Y.trans ha;have h0:=Y.size;have hc:=hj.ext ha;refine Qf<|Qc<|x (Qr hc O O)<|xl O<|xf<|(Y4 (h.ext hb)).mono ?_;rintro r3 w3 ⟨rfl,E⟩;refine Qe ?_;have S:=hb.trans E;have h1:=J.lt
 refine Qc<|Qb<|x (Q9 O O)<|xe<|Q7 rfl (λh9=>?_) (λh9=>?_)
 ·refine Qc<|x (QD U)<|Qb<|xl O<|Qo (us:=[nS,.int .i64 0,nS,nS]) (J.ext E) O O O O ⟨O,O,O,O,U⟩ λw4 hk hl=>x Qg<|Qe ?_;exact Qn ⟨[zA,Zg,.int .i64 (Zb c.cel)],⟨⟨_,O,Qv O (hl.at (L:=[]) (by simp)).cells⟩,rfl,rfl,U⟩,S.then1 hk (by omega),zA,Zg,_,rfl,by unfold Uw;rw[if_pos h9];exact ⟨O,O,O⟩⟩
 have hm:=ZU (Ls.1 h9);refine Qi<|Qc ?_;have h3:=h.ext S;refine x (Qa O)<|x (Qd (hc.ext E) O O)<|xl O<|xf<|(QbV h3.co).mono ?_;rintro r5 w5 ⟨V,hn⟩;have H:=S.trans V;have ho:∀p∈c.co.map (·.p),Q2 p.a:=λp hp=>by
  obtain ⟨q,hq,rfl⟩:=Lp.1 hp;exact hm.co q.it (LK hq)
 have h2:=h.co.arr.le;have hr:XM [] w5.heap r5 (c.co.map (·.p)):=QgU hn (by rw[Le];omega) (by simp) (λp hp=>by
  obtain ⟨q,hq,rfl⟩:=Lp.1 hp;exact (((h.co.each q hq).up (L':=[]) (by simp)).ext H))
 refine xl rfl<|xf<|(zd (km:=4096) hr (hh.ext H) (by decide) (yW ho)).mono ?_;rintro r6 w6 ⟨hf,va,vt,e,rfl,I⟩;rw[QdO] at I;have ht:=H.trans hf;have hu:=H.size;have hv:∃us,va=.agg us.toArray∧us.length=4∧ZQ us:=by
  by_cases he:e=0
  ·exact Y5 (I.good he).1
  exact ⟨[nS,.int .i64 0,nS,nS],(I.bad he).1,O,O,O,O,O,U⟩
 refine Exists.elim hv λus G=>?_;refine x (Qk O O)<|x (Qk O O)<|x (Qk O O)<|xl O<|Qo (us:=us) ((J.ext E).ext (V.trans hf)) O G.1 G.2.1 O G.2.2 λw7 hg hw =>
  x Qg<|Qe<|Qn ⟨[.agg us.toArray,vt,.int .i64 e],⟨⟨_,O,Qv G.2.1 (hw.at (L:=[]) (by simp)).cells⟩,rfl,rfl,U⟩,ht.then1 hg (by omega),va,vt,e,by rw[G.1];rfl,?_⟩
 unfold Uw;rw[if_neg h9];exact (I.st1 (by have:=V.size;have:=E.size;omega) hg).mono hu
theorem jB {L:LN}{w:World}{v:Value}{l:LI}{m:Int}(h:QL L w.heap v l) (J:Kb w m) (hb:∀n∈l,0≤n∧n<m) (hl:l.length≤1000000) :
  QK prog 72 [v] w λr w'=>r=.string ⟨(XS l).toArray⟩∧Step [] w w':=by
 refine QK.of_W func72 O ntmps72 results72 (by simp) ?_;refine Qc<|Qe<|Qc<|xl O<|Qt (us:=[.pointer none,nS]) O λH w1 hc S he=>xe ?_;refine Qf<|Qc<|Qb<|x (Qs h O)<|Qb<|xe ?_
 refine Qh<|QA (α:=Nat×Value) [(5,5),(8,16)] (λz=>[(8,.int .i64 z.1)]) (λz w'=>z.1≤l.length∧Step [] w w'∧(z.2=.pointer none∨z.2=me H)∧Bl z.2 H (XS (l.take z.1)) w'∧(XS (l.take z.1)).length≤8*z.1) (λz=>l.length - z.1) (by rfl) (0,.pointer none) Z
  ⟨Ll _,hc,.inl O,⟨_,he,QP _ _ _ _⟩,Lt _⟩ ?_
 rintro ⟨k,p⟩ g w2 ⟨hk,E,hp,G,hf⟩;simp only[] at hk hp G hf;refine Qc<|x (QB O O)<|xe<|Qf<|QG O (λh9=>?_) (λh9=>?_)
 ·refine Qz<|Qc ?_;rw[Lo (by omega)] at G;refine xl O<|xf<|(zI E S hp G).mono ?_;rintro r3 w3 ⟨rfl,hg⟩;refine Qe ?_;exact Qn ⟨[.string ⟨(XS l).toArray⟩],Z,O,hg⟩
 have I:k<l.length:=by omega
 have ho:=hb l[k] (Lc I);obtain ⟨q,hq⟩:∃q:Nat,l[k]=q:=⟨l[k].toNat,by omega⟩;have hh:l[k].toNat=q:=by omega
 have hr:=Ub 7 q (by have:=J.le;omega);have V:XS (l.take (k+1))=XS (l.take k)++(Lib.decDigits q++[32]):=by
  rw[Li I];unfold XS;rw[Ly,List.flatMap_singleton,hh]
 refine Qi<|Qf<|Qh<|Qc<|xii (h.ext E) O O I λht hj=>x (Qw hj O)<|Qe<|Qy<|Qb<|xl O<|xf ?_;refine (show QK _ _ [.int .i64 l[k]] _ _ by rw[hq];exact (Qdl q (by omega) w2 (J.ext E))).mono ?_;rintro r4 w4 ⟨rfl,Y⟩;have hm:(⟨(Lib.decDigits q).toArray⟩:ByteArray).size+(⟨#[32]⟩:ByteArray).size≤1000000000:=by show (Lib.decDigits q).toArray.size+1≤_;simp;omega
 refine x (Yd O O hm)<|xl O<|xf<|(J1 (E.trans Y) S hp (G.ext Y) ((⟨(Lib.decDigits q).toArray⟩:ByteArray)++(⟨#[32]⟩:ByteArray)) (by rw[ByteArray.size_append];show _+((Lib.decDigits q).toArray.size+1)≤_;simp;omega)).mono ?_;rintro r5 w5 ⟨hn,ha⟩;refine xe<|Qy<|QO O O<|Qb<|xe<|⟨(k+1,me H),by simp only[];omega,Z,by simp only[];omega,hn,.inr O,?_,?_⟩
 ·simp only[];rw[V];have e:((⟨(Lib.decDigits q).toArray⟩++⟨#[32]⟩:ByteArray)).data.toList=Lib.decDigits q++[32]:=by rw[ByteArray.data_append];simp
  rw[e] at ha;exact ha
 simp only[];rw[V];simp;omega
structure Sty where
 c:CL
 p:AV
 vq:Value
 qs:List TV
 s:AV
 vt:Value
 ts:List TV
 vs:Value
 vx:Value
 vk:Value
 qx:List XV
 ks:List KV
 bm:Nat
 mm:List (ByteArray×Value)
abbrev Sty.cells (q:Sty):LV:=[q.c.ve,q.c.vc,q.c.vr,q.c.vx,q.c.vk,q.p.va,.int .i64 q.p.a.st,q.p.vm,q.p.ve,q.vq,q.s.va,.int .i64 q.s.a.st,q.s.vm,q.s.ve,q.vt,q.vs,q.vx,q.vk,.map (some q.bm)]
structure XY (L:LN) (b:Nat) (H:Array Obj) (q:Sty):Prop where
 B:QZ H b 154 q.cells
 bL:b∉L
 c:ZF L H q.c
 p:Zv L H q.p.va q.p.vm q.p.ve q.p.a
 s:Zv L H q.s.va q.s.vm q.s.ve q.s.a
 qs:XX L H q.vq q.qs
 ts:XX L H q.vt q.ts
 k1:QL L H q.vs (szs q.c.cel.co)
 k2:zm L H q.vx q.qx
 k3:zg L H q.vk q.ks
 mL:q.bm∉L
 m:Z7 XG H q.bm q.mm
theorem XY.ext {L:LN}{b:Nat}{w w':World}{q:Sty}(h:XY L b w.heap q) (hs:Step [] w w'):XY L b w'.heap q:=⟨h.B.ext hs,h.bL,h.c.ext hs,h.p.ext hs,h.s.ext hs,h.qs.ext hs,h.ts.ext hs,h.k1.ext hs,h.k2.ext hs,h.k3.ext hs,h.mL,h.m.ext hs⟩
theorem XY.st {L:LN}{b:Nat}{w w':World}{q:Sty}(h:XY L b w.heap q) (hs:Step L w w'):XY L b w'.heap q:=⟨h.B.step hs h.bL,h.bL,h.c.st hs,h.p.st hs,h.s.st hs,h.qs.st hs,h.ts.st hs,h.k1.st hs,h.k2.st hs,h.k3.st hs,h.mL,h.m.step hs h.mL⟩
theorem XY.up {L L':LN}{b:Nat}{H:Array Obj}{q:Sty}(h:XY L b H q) (E:∀b∈L',b∈L∨H.size≤b):XY L' b H q :=
 ⟨h.B,λhm=>by rcases E _ hm with h1 | h1;exact h.bL h1;have:=h.B.lt;omega,h.c.up E,h.p.up E,h.s.up E,h.qs.up E,h.ts.up E,h.k1.up E,h.k2.up E,h.k3.up E,λhm=>by rcases E _ hm with h1 | h1;exact h.mL h1;have:=h.m.lt;omega,h.m⟩
structure QnU (q:Sty):Prop where
 ok:Zb q.c.cel=0
 p:sync (auts q.c.cel.co)=some (q.p.a,q.qs.map (·.2))
 s:sync (auts q.c.cel.co++auts q.c.cel.rq)=some (q.s.a,q.ts.map (·.2))
 ex:q.qx.map (·.x)=q.c.cel.ex
 cs:q.ks.map (·.k)=q.c.cel.cs
 m:Ug q.c.co.length q.mm (q.qs.map (·.2))
theorem Yo {l:List Yp}(h:∀x∈l,Q2 x.a):∀a∈auts l,Q2 a:=λa ha=>by
 obtain ⟨x,hx,rfl⟩:=Lp.1 ha;exact h x hx
def stp (a:QN) (s v:Int):Int×Bool×Int:=if cks a s≠0 then (0,false,cks a s) else if v∉a.al then (0,false,9) else if 0≤nxt a.ed s v then (nxt a.ed s v,true,0) else (0,false,0)
theorem q8 {L:LN}{w:World}{va vm ve:Value}{a:QN}(h:Zv L w.heap va vm ve a) (s v:Int) :
  QK prog 30 [.agg #[va,.int .i64 a.st,vm,ve],.int .i64 s,.int .i64 v] w λr w'=>r=.tuple #[.int .i64 (stp a s v).1,.bool (stp a s v).2.1,.int .i64 (stp a s v).2.2]∧Step [] w w':=by
 have E:stp a s v=(if cks a s≠0 then (0,false,cks a s) else if v∉a.al then (0,false,9) else if 0≤nxt a.ed s v then (nxt a.ed s v,true,0) else (0,false,0)):=rfl
 refine Zc (stp a s v) λR hR=>?_;rw[hR] at E ⊢;refine QK.of_W func30 O ntmps30 results30 (by simp) ?_;refine Qc<|xl O<|QS (us:=[va,.int .i64 a.st,vm,ve]) O λb3 w1 ha hf I=>x Qg<|x Qg<|Qe<|Qf<|Qc<|x (Qr I O O)<|Qb<|xl O<|xf<|(Jf (h.ext ha) s).mono ?_;rintro r2 w2 ⟨rfl,J⟩;refine Qe ?_;have G:=ha.trans J;refine Qc<|Qb<|x (Q9 O O)<|xe<|Q7 rfl (λH=>?_) (λH=>?_)
 ·rw[if_pos H] at E;subst E;refine Qc<|Qb<|x Qg<|x Qg<|Qe ?_;exact Qn ⟨[_,_,_],⟨O,O,O,U⟩,O,G⟩
 rw[if_neg H] at E;refine Qi<|Qf<|Qc<|x (Qa O)<|x (Qd (I.ext J) O O)<|Qb<|xl O<|xf<|(ZP (h.al.ext G) v).mono ?_;rintro r3 w3 ⟨rfl,rfl⟩;refine x (qn O)<|xe<|Q7 rfl (λS=>?_) (λS=>?_)
 ·rw[if_pos S] at E;subst E;refine Qc<|x Qg<|x Qg<|Qe ?_;exact Qn ⟨[_,_,_],⟨O,O,O,U⟩,O,G⟩
 rw[if_neg S] at E;refine Qi ?_;have hc:cks a s=0:=Ls.1 H;have hb:JI a=0:=by
  unfold cks at hc;refine Ls.1 λV=>?_;rw[if_pos V] at hc;exact V hc
 have hsr:0≤s∧s<a.st:=by
  unfold cks at hc;rw[if_neg (by rw[hb];decide)] at hc;refine Ls.1 λV=>?_;rw[if_pos (by omega)] at hc;cases hc
 refine Qf<|Qc<|x (Qr (I.ext J) O O)<|Qb<|Qb<|xl O<|xf<|(QaZ (h.ed.ext G) ((ZE a).1 hb) s v hsr.1 hsr.2).mono ?_;rintro r4 w4 ⟨rfl,he⟩;refine Qe<|Qc<|Qb<|x (ZV O O)<|xe<|Q7 rfl (λY=>?_) (λY=>?_)
 ·rw[if_pos Y] at E;subst E;refine Qc<|Qb<|x Qg<|x Qg<|Qe ?_;exact Qn ⟨[_,_,_],⟨O,O,O,U⟩,O,G.trans he⟩
 rw[if_neg Y] at E;subst E;refine Qi<|Qc<|x Qg<|x Qg<|Qe ?_;exact Qn ⟨[_,_,_],⟨O,O,O,U⟩,O,G.trans he⟩
theorem Qgb (E:List Ed) (s v:Int):nxt E s v=(eget E s v).getD (-1):=by
 induction E with
 | nil=>rfl
 | cons e E ih =>
  rw[nxt,eget];by_cases h:e.1=s∧e.2.1=v
  ·rw[if_pos h,if_pos h];rfl
  rw[if_neg h,if_neg h];exact ih
theorem QkR {a:QN}(h:Q2 a) {s v:Int}(G:0≤s) (h1:s<a.st) (E:v∈a.al):(stp a s v).2.1=(eget a.ed s v).isSome:=by
 have hc:cks a s=0:=by unfold cks;rw[if_neg (by rw[(ZE a).2 h];decide),if_neg (by omega)]
 unfold stp;rw[if_neg (by rw[hc];decide),if_neg (by simpa using E),Qgb];cases he:eget a.ed s v with
 | none=>rfl
 | some t =>
  have:=(h.ed _ (YY he)).2.2.2.1;rw[Option.getD_some,if_pos (by simpa using this)];rfl
theorem jZ {L L':LN}{w:World}{b:Nat}{q:Sty}{vt:Value}{t:LI}(H:XY L b w.heap q) (ht:QL L' w.heap vt t) (I:q.c.co.length≤t.length) :
  QK prog 71 [.pointer (some ⟨b,0,none⟩),vt] w λr w'=>Step [] w w'∧∃E G,r=.tuple #[E,G]∧QL L' w'.heap E (t.take q.c.co.length)∧QL L' w'.heap G (t.drop q.c.co.length):=by
 refine QK.of_W func71 O ntmps71 results71 (by simp) ?_;refine Qc<|x Qg<|Qe<|Qc<|Qb<|x (QE O)<|x (Qa O)<|x (Qa O)<|x (Qd H.B O O)<|x (Qs H.c.co.arr O)<|Qe<|Qf<|QW (Step [] w) [(0,true),(1,true),(2,true),(3,true),(4,true),(5,true),(6,true),(7,true),(8,true)] mixed (by rfl) (by kernel_rfl) (Step.drew _ _) ?_
 refine p (λ_=>Qp)<|p (λ_=>Qp)<|p (λ_=>Qp)<|QnF (hi:=q.c.co.length) O ht O O O I λE h1=>p (λ_=>Qp)<|p (λ_=>Qp)<|Qlb (lo:=q.c.co.length) O ht O O I λG h2 =>
  p (λ_=>Qg)<|p (λ_=>Qg)<|pe ?_
 refine Qn ⟨[_,_],⟨O,O,U⟩,Step.drew _ _,E,G,O,?_,?_⟩
 ·rw[Nat.mul_one,←List.map_take] at h1;have e:(t.take q.c.co.length).length=q.c.co.length:=by rw[Lx];omega
  unfold QL;rw[e];exact h1
 exact QL.drop h2
theorem j6 {v:Int}{i:Nat}{y:Yp}{l:List Yp}{s:Int}{ss:LI}:rfr v i (y::l) (s::ss)=if v∈y.a.al∧(eget y.a.ed s v).isSome=false then (i:Int) else rfr v (i+1) l ss:=rfl
set_option maxHeartbeats 1000000 in
theorem Qbz {L L':LN}{w:World}{b:Nat}{q:Sty}{vr:Value}{rs:LI}{v:Int}(S:XY L b w.heap q) (hr:QL L' w.heap vr rs) (ht:∀x∈q.c.rq,Q2 x.p.a) (hv:Vt (auts q.c.cel.rq) rs) :
  QK prog 152 [.pointer (some ⟨b,0,none⟩),vr,.int .i64 v] w λr w'=>r=.int .i64 (rfr v 0 q.c.cel.rq rs)∧Step [] w w':=by
 have h8:=S.c.rq.arr.le;have h9:rs.length=q.c.rq.length:=by rw[hv.1];unfold auts;show ((q.c.rq.map IV.it).map _).length=_;simp
 refine Zc (rfr v 0 q.c.cel.rq rs) λR hR=>?_;rw[hR];refine QK.of_W func152 O ntmps152 results152 (by simp) ?_;refine Qc<|Qe<|Qf<|Qc<|Qb<|x (QE O)<|x (Qa O)<|x (Qa O)<|x (Qd S.B O O)<|x (Qs S.c.rq.arr O)<|Qb<|xe ?_
 refine Qh<|QA (α:=Nat) [(6,11),(18,44)] (λz=>[(18,.int .i64 z)]) (λz w'=>z≤q.c.rq.length∧Step [] w w'∧rfr v z ((q.c.rq.drop z).map (·.it)) (rs.drop z)=R) (λz=>q.c.rq.length - z) (by rfl) 0 Z
  ⟨Ll _,Step.refl _ _,hR⟩ ?_
 rintro k g w1 ⟨hk,I,E⟩;refine Qc<|x (QB O O)<|xe<|Qf<|QG O (λhb=>?_) (λhb=>?_)
 ·refine Qz ?_;have hu:q.c.rq.length≤k:=by have hw:¬(k:Int)<(q.c.rq.length:Int):=hb;omega
  rw[Lr hu] at E;have h0:R=-1:=E.symm;refine Qc<|Qe ?_;exact Qn ⟨[_],Z,by rw[h0];rfl,I⟩
 have G:k<q.c.rq.length:=by have hw:(k:Int)<(q.c.rq.length:Int):=hb;omega
 have H:k<rs.length:=by omega
 have he:=Lc G;rw[X4 G,QX H,j6] at E;have J:∀hz:k<(auts q.c.cel.rq).length,0≤rs[k]'H∧rs[k]'H<((auts q.c.cel.rq)[k]'hz).st:=λhz=>hv.2 k H hz;have hj:k<(auts q.c.cel.rq).length:=by unfold auts;show k<((q.c.rq.map IV.it).map _).length;simpa using G
 have J:=J hj;have h1:(auts q.c.cel.rq)[k]'hj=(q.c.rq[k]'G).p.a:=by unfold auts;show ((q.c.rq.map IV.it).map _)[k]'_=_;simp[IV.it]
 rw[h1,Za H] at J;rw[Za H] at E;refine Qi<|Qf<|Qh<|Qc<|Qb<|xig Xl (S.c.rq.arr.ext I) O O G λhA hl=>?_;refine Zc (q.c.rq[k]'G) λy hy=>?_;rw[hy] at hl he E J;have V:=(S.c.rq.each y he).ext I;have hm:=ht y he;refine x (QI hl O O)<|xl O<|Qt (us:=[.string .empty,nS,.int .i64 0,nS,nS]) O λb8 w2 h2 h3 ha=>x Qg <|
  xl rfl<|Qo (us:=Zh y) ha O O O O ⟨O,V.al.one,O,V.mr.one,V.ed.one,U⟩ λw3 h4 ha=>xe ?_
 have Y:Step [] w1 w3:=h2.then1 h4 h3;refine Qf<|Qc<|x (Qa O)<|x (Qa O)<|x (Qd ha O O)<|Qb<|xl O<|xf<|(Jg (V.al.ext Y) hm.ali v).mono ?_;rintro r4 w4 ⟨rfl,rfl⟩;refine x (qn O)<|xe<|Q7 rfl (λhf=>?_) (λhf=>?_)
 ·rw[if_neg (λe=>hf e.1)] at E;refine Qz<|Qy<|QO O O<|Qb<|xe ?_;exact ⟨k+1,by omega,Z,G,I.trans Y,E⟩
 have hn:v∈y.p.a.al:=Ls.1 hf;have ho:=QkR hm J.1 J.2 hn;refine Qi ?_;have h5:=(hr.ext I).ext Y;refine Qf<|QW (Step [] w4) [(0,true),(1,true),(2,true),(3,true),(4,true),(5,true),(6,true),(7,false),(8,true),(9,true),(10,true),(11,true),(12,true),(13,true),(14,true)] mixed (by rfl) (by kernel_rfl) (Step.drew _ _) ?_
 refine p (λ_=>Qa O)<|pq (λ_ hc=>Ys (us:=Zk y.p) (ha.step hc (by simp)) rfl rfl rfl)<|p (λ_=>Qp)<|p (λ_=>Qp)<|pic (i:=k) rfl h5 rfl rfl H λhB h6 =>
  pq (λ_ hc=>Qw (h6.ext hc) O)<|p (λ_=>Qp)<|pk<|xf<|(q8 ((V.ext Y).ext (Step.drew _ _)) (cget rs k) v).mono ?_
 rintro r5 w5 ⟨rfl,h7⟩;have hp:=(Step.drew [] w4).trans h7;refine ⟨hp,?_⟩;refine p (λ_=>Qp)<|p (λ_=>Qk O O)<|p (λ_=>Qk O O)<|p (λ_=>Qk O O)<|p (λ_=>Qg) <|
  p (λ_=>Qg)<|p (λ_=>Qg)<|pe ?_
 have hq:=(I.trans Y).trans hp;refine Qc<|Qb<|x (Zm O)<|xe<|Q3 rfl (λhg=>?_) (λhg=>?_)
 ·have hh:(eget y.p.a.ed (cget rs k) v).isSome=false:=by rw[←ho];simpa using hg
  rw[if_pos ⟨hn,hh⟩] at E;refine Qc<|Qb<|Qe ?_;exact Qn ⟨[_],Z,by rw[←E];rfl,hq⟩
 have hh:¬(eget y.p.a.ed (cget rs k) v).isSome=false:=by rw[←ho];simpa using hg
 rw[if_neg (λe=>hh e.2)] at E;refine Qi<|Qy<|QO O O<|Qb<|xe ?_;exact ⟨k+1,by omega,Z,G,hq,E⟩
end Go.Proofs.YtdffckgdcegpaaaGreatDoor
namespace Go.Lg
open Go.RowKit
def Xr (L:LN) (W W':World):Prop:=∀(k:Nat) (o:Obj),k∉L→W.heap[k]?=some o→o.isCells=true→W'.heap[k]?=some o
theorem Xr.refl (L:LN) (W:World):Xr L W W:=λ_ _ _ h _=>h
theorem Xr.trans {L:LN}{A B C:World}(h:Xr L A B) (k:Xr L B C):Xr L A C:=λi o E G hc=>k i o E (h i o E G hc) hc
theorem Xr.step {L:LN}{W W':World}(h:Step L W W'):Xr L W W':=λk _ G E _=>(h.block k (LE.1 E).1 G).trans E
theorem At.cst {L:LN}{W W':World}{a:Addr}{us:LV}(h:At L W.heap a us) (hc:Xr L W W') (G:W.heap.size≤W'.heap.size):At L W'.heap a us:=by
 refine ⟨h.out,λu hu=>L2 (h.lt u hu) G,λj u hu=>?_⟩;have h1:=h.cell j u hu;unfold cel at h1 ⊢;rw[Z6] at h1 ⊢;cases E:W.heap[a.block]? with
 | none=>rw[E] at h1;cases h1
 | some o =>
  rw[E] at h1;cases o with
  | cells c t m=>rw[hc a.block _ (h.out u (Mf hu)) E rfl];exact h1
  | _=>cases h1
theorem Zs.cst {L:LN}{W W':World}{v:Value}{n sz:Nat}{cs:LV}(h:Zs L W.heap v n sz cs) (hc:Xr L W W') (E:W.heap.size≤W'.heap.size):Zs L W'.heap v n sz cs :=
 ⟨h.1,h.2.1,h.2.2.imp id λ⟨a,cap,h1,h2,h3⟩=>⟨a,cap,h1,h2,h3.cst hc E⟩⟩
structure LwC (B:Nat) (L:LN) (W W':World):Prop where
 lw:Lw B L W W'
 cst:Xr L W W'
theorem LwC.trans {B:Nat}{L:LN}{E w w':World}(h:LwC B L E w) (k:LwC B L w w'):LwC B L E w':=⟨h.lw.trans k.lw,h.cst.trans k.cst⟩
def rdC {α:Type}(B:Nat) (L:LN) (I:List α→World→Prop) (X:Exit→List α→World→Prop) (xs:List α) (W:World):Exit→LN→Fr→World→Prop
 | .normal,_,_,W'=>JO B L W W'∧Xr L W W'∧I xs W'
 | .ret,_,_,W'=>JO B L W W'∧X .ret xs W'
 | .exit i,_,_,W'=>JO B L W W'∧X (.exit i) xs W'
 | _,_,_,_=>False
theorem Qa7 {α:Type}{m:Nat}{P:Program}{n:Nat}{Q:Exit→LN→Fr→World→Prop}{ds:LN}{f:Fr}{w:World}{g:Operand}{ps:LN}{assign body:Code}(L:LN) (h1:1≤m)
  {gf:Nat} {fn:Func} [hF:Fu P gf fn] {capt:LV} (hg:ev f g=.func (.func gf) #[] capt.toArray) {encs:α→LV} {S Sp:List α→Prop} {N:Nat} (hp:∀p∈ps,p<n) (hj:∀x,(encs x).length=ps.length)
  (hm:SeqStopsK (fen none) (m - 1) P gf capt.toArray (λx=>(encs x).toArray) (LwC w.heap.size L) S Sp N w)
  (I:List α→World→Prop) (hI:∀s,Z1 w.heap.size (I s)) (X:Exit→List α→World→Prop) (hX:∀e s,Z1 w.heap.size (X e s)) (h0:I [] w) (A:Fr→α→Fr→World→Prop) (hA:∀x E,Z1 w.heap.size (A f x E))
  (hb:∀l pre x W,I pre W→WG (some l) (m - 1 - 1) P n assign (Qbi (λJ E W'=>J=[]∧JO w.heap.size L W W'∧Xr L W W'∧I pre W'∧A f x E W') (λ_ _ _ _=>False)) [] (Qbg f ps (encs x)) W)
  (he:∀l pre x E W,I pre W→A f x E W→pre.length<N→WG (some l) (m - 1 - 1) P n body (rdC w.heap.size L I X (pre++[x]) W) [] E W)
  (hn:∀D xs W,w.heap.size≤D→S xs→I xs W→W.heap[D]?=some (.deferred (some []))→Q .normal (D::ds) f W)
  (hf:∀D e pre W,w.heap.size≤D→Sp pre→X e pre W→W.heap[D]?=some (.deferred (some []))→(e=.ret∨∃i,e=.exit i)→Q e (D::ds) f W) :
  WG none m P n (.rangeFunc g ps.toArray assign body) Q ds f w:=by
 unfold WG at hb he ⊢;intro a ha;have eg:∀args w,(callFunc gf args).run P w=.ok (.enter gf args) w:=by
  intro args w;have h1:¬fn.name = "runtime.NumGoroutine" := by simpa using hF.nm
  have h2:¬fn.body=none:=by have:=hF.b;intro e;rw[e] at this;cases this
  simp[callFunc,hF.f,h1,h2]
 have keep:∀{W W':World},JO w.heap.size L W W'→KeepsFrom w.heap.size W W':=λh=>⟨h.lw.size,λk o _ hk V=>h.other k o hk V⟩;refine wpIn_rangeFunc_ownH (F:=fen none) O h1 (gf:=gf) (lb:=capt.toArray) (by rw[ha.eval];exact hg) U eg hm (λh k=>h.trans k)
  (λW l o o' hl V hq _=>⟨⟨O,O,O,by simp,λk hk _=>World.putObj_heap_other (by omega)⟩,λk o2 _ hk hc=>by
   have ht:k≠l:=λe=>by subst e;rw[V] at hk;cases hk;rw[hq] at hc;cases hc
   rw[World.putObj_heap_other ht];exact hk⟩) (Below.refl _ _) (λx=>by simp[hj x]) I
  (λc pre W=>match c with | .ret=>X .ret pre W | .exit i=>X (.exit i) pre W | _=>False) (Z1.own hI) (λc=>Z1.own λs=>?_) h0
  (λx G W=>∃E,YF n [] G E∧A f x E W) (λx G=>Z1.own λ_=>Z1.ex λE=>Z1.and (Z1.pure _) (hA x E)) ?_ ?_ ?_ ?_
 ·cases c <;> first | exact hX _ s | exact Z1.pure _
 ·intro l pre x W K hi hK;have hr:YF n [] { tmps:=(ps.toArray.zip (encs x).toArray).foldl (λt (p,v)=>t.setIfInBounds p v) a.tmps,defers:=[] } (Qbg f ps (encs x)):=by
   have h2:YF n [] { a with defers:=[] } f:=⟨ha.size,O,ha.get⟩
   have h3:=VX ps (encs x) _ _ h2 hp;have e:(ps.toArray.zip (encs x).toArray).foldl (λt (p,v)=>t.setIfInBounds p v) a.tmps=(ps.zip (encs x)).foldl (λt (x:Nat×Value)=>t.setIfInBounds x.1 x.2) a.tmps:=by simp
   rw[e];exact h3
  refine wpIn_mono (hb l pre x W hi _ hr) ?_;rintro e G W' ⟨J,E,h2,_,h3⟩;cases e with
  | normal=>obtain ⟨rfl,Y,hu,h5,h6⟩:=h3;exact hK G W' (keep Y) ⟨Y.lw,hu⟩ h5 ⟨E,h2,h6⟩
  | exit id=>exact h3.elim
  | goto l=>exact h3.elim
  | ret=>exact h3.elim
  | panic ch=>exact h3.elim
  | outgrown=>exact h3.elim
 ·rintro l pre x G W _ _ hi ⟨E,h2,h3⟩ hv;refine wpIn_mono (he l pre x E W hi h3 hv G h2) ?_;rintro e hw W' ⟨J,hy,Y,_,h5⟩;cases e with
  | normal=>exact ⟨keep h5.1,⟨h5.1.lw,h5.2.1⟩,h5.2.2⟩
  | exit id=>exact ⟨keep h5.1,h5.2⟩
  | goto l=>exact h5.elim
  | ret=>exact ⟨keep h5.1,h5.2⟩
  | panic ch=>exact h5.elim
  | outgrown=>exact h5.elim
 ·intro D xs W hD H hi hd;exact ⟨D::ds,f,⟨ha.size,by rw[show coll (D::ds)={ target:=.collected D,args:=#[] }::coll ds from rfl,ha.defers],ha.get⟩,λ_ _=>rfl,hn D xs W hD H hi hd⟩
 intro D c pre W hD H hx hd;have hh:YF n (D::ds) { a with defers:={ target:=.collected D,args:=#[] }::a.defers } f:=⟨ha.size,by rw[show coll (D::ds)={ target:=.collected D,args:=#[] }::coll ds from rfl,ha.defers],ha.get⟩
 cases c with
 | ret=>exact wpIn_ret ⟨_,f,hh,λ_ _=>O,hf D .ret pre W hD H hx hd (.inl O)⟩
 | exit i=>exact wpIn_exit ⟨_,f,hh,λ_ _=>O,hf D (.exit i) pre W hD H hx hd (.inr ⟨i,O⟩)⟩
 | _=>exact hx.elim
theorem xy2 {m:Nat}{P:Program}{ops:List Oper}{rest:List Oper}{f:Fr}{w:World}{K:Fr→World→Prop}{d:Option Nat}{ty:Nat}{ps:String}{af:Array Edge}{gd:Option (Nat×Bool)}{x y z:Operand}{at_:Array Nat}{l:Nat}{R:Ending→World→Prop}
  (hx:ev f x=.func (.yield l) #[] #[]) (hy:YieldAt (fen none) (m - 1) P l #[ev f y,ev f z] w R) (E:∀e w',R e w'→∃v,e=.returned v∧XW P m ops K rest (QV f d v) w')
  (G:Yk ops f ⟨d,.call ⟨.value x,[y,z].toArray,at_⟩,ty,ps,af,gd⟩=true:=by rfl) :
  XW P m ops K (⟨d,.call ⟨.value x,[y,z].toArray,at_⟩,ty,ps,af,gd⟩::rest) f w:=by
 obtain ⟨fn,tmps,assign,body,h1,h2⟩:=hy;have H:(execOp (ev f) ⟨d,.call ⟨.value x,[y,z].toArray,at_⟩,ty,ps,af,gd⟩).run P w=.ok (.round l fn tmps assign body) w:=by
  simp[execOp,resolve,hx,Deferred.ofValue,invoke,h1]
 unfold XW;rw[G];simp only[XOY,H,upY,cond_true];exact h2.mono λe w' h=>by obtain ⟨v,rfl,hk⟩:=E e w' h;exact hk
end Go.Lg
namespace Go.Proofs.YtdffckgdcegpaaaGreatDoor
open Go.Proofs.Tryz
open Go.Lg
def wrf (rq:List Yp) (rs:LI):LI→List (Int×Int)
 | []=>[]
 | v::l=>if 0≤rfr v 0 rq rs then (v,rfr v 0 rq rs)::wrf rq rs l else wrf rq rs l
theorem jM (rq:List Yp) (rs:LI) (v:Int):∀l,wrf rq rs (l++[v])=wrf rq rs l++if 0≤rfr v 0 rq rs then [(v,rfr v 0 rq rs)] else []
 | []=>by simp only[List.nil_append,wrf]
 | a::l=>by
  simp only[List.cons_append,wrf,jM rq rs v l];by_cases h:0≤rfr a 0 rq rs
  ·rw[if_pos h,if_pos h];rfl
  rw[if_neg h,if_neg h]
theorem KK (rq:List Yp) (rs:LI) (b:LI):∀a,wrf rq rs (a++b)=wrf rq rs a++wrf rq rs b
 | []=>rfl
 | x::a=>by
  simp only[List.cons_append,wrf,KK rq rs b a];by_cases h:0≤rfr x 0 rq rs
  ·rw[if_pos h,if_pos h];rfl
  rw[if_neg h,if_neg h]
theorem Qis (rq:List Yp) (rs:LI) (l:LI) (k:Nat):(wrf rq rs (l.take k)).length≤(wrf rq rs l).length:=by
 have h:=KK rq rs (l.drop k) (l.take k);rw[MK] at h;rw[h,Lh];omega
theorem QeY {rq:List Yp}{rs:LI}{l:LI}{k:Nat}(h:k<l.length):wrf rq rs (l.take (k+1))=wrf rq rs (l.take k)++if 0≤rfr (cget l k) 0 rq rs then [(cget l k,rfr (cget l k) 0 rq rs)] else []:=by
 rw[Li h,jM,Za h]
theorem UI {rq:List Yp}{rs:LI}{x:Int×Int}:∀{l:LI},x∈wrf rq rs l↔x.1∈l∧0≤x.2∧x.2=rfr x.1 0 rq rs
 | []=>by simp[wrf]
 | v::l=>by
  rw[wrf];have ih:=UI (rq:=rq) (rs:=rs) (x:=x) (l:=l);by_cases h:0≤rfr v 0 rq rs
  ·rw[if_pos h,Lb,ih,Lb];constructor
   ·rintro (rfl | ⟨h1,h2⟩)
    ·exact ⟨.inl O,h,O⟩
    exact ⟨.inr h1,h2⟩
   rintro ⟨h1 | h1,h2,h3⟩
   ·exact .inl (by rw[←h1];exact Prod.ext_iff.2 ⟨O,h3⟩)
   exact .inr ⟨h1,h2,h3⟩
  rw[if_neg h,ih,Lb];constructor
  ·rintro ⟨h1,h2⟩;exact ⟨.inr h1,h2⟩
  rintro ⟨h1 | h1,h2,h3⟩
  ·exact absurd (by rw[←h1,←h3];exact h2) h
  exact ⟨h1,h2,h3⟩
theorem Uk {w:World}{b:Nat}{st:Int}{vr:Value}(J:vr.cells=[vr].toArray) :
  QK prog 74 [.pointer (some ⟨b,0,none⟩),.int .i64 st,vr] w λr w'=>Step [] w w'∧∃b1 b2 E,r=.func (.func 151) #[] #[.pointer (some ⟨b1,0,none⟩),.pointer (some ⟨b2,0,none⟩),.pointer (some ⟨E,0,none⟩)] ∧
   w.heap.size≤b1∧w.heap.size≤b2∧w.heap.size≤E∧QZ w'.heap b1 147 [.pointer (some ⟨b,0,none⟩)]∧QZ w'.heap b2 3 [.int .i64 st]∧QZ w'.heap E 37 [vr]:=by
 refine QK.of_W func74 O ntmps74 results74 (by simp) ?_;refine Qc<|xl O<|QS (us:=[.pointer (some ⟨b,0,none⟩)]) O λE w1 I S V=>xl O<|QS (us:=[.int .i64 st]) O λY w2 G hc ha=>xl O<|QS (us:=[vr]) J λb5 w3 H he hb=>x Qg <|
  xe ?_
 have hf:=I.size;have hg:=G.size;refine Qc<|x Zq<|Qe ?_;exact Qn ⟨[_],Z,(I.trans G).trans H,E,Y,b5,O,S,by omega,by omega,(V.ext G).ext H,ha.ext H,hb⟩
set_option maxHeartbeats 4000000 in
theorem Vk {L:LN}{w:World}{S b2 V b m:Nat}{q:Sty}{vr:Value}{rs E:LI}{st:Int}{fl:List (Int×Int)}(hz:QZ w.heap S 147 [.pointer (some ⟨b,0,none⟩)]) (hB:QZ w.heap b2 3 [.int .i64 st]) (hC:QZ w.heap V 37 [vr])
  (hD:S∉L) (hE:V∉L) (hF:∀x∈L,x<w.heap.size) (hS:XY L b w.heap q) (hr:QL L w.heap vr rs) (hG:∀x∈q.c.rq,Q2 x.p.a) (hv:Vt (auts q.c.cel.rq) rs) (hc:cks q.p.a st=0) (h3:enb q.p.a st=E) (hm:wrf q.c.cel.rq rs E=fl) :
  SeqStopsK (fen none) m prog 151 [.pointer (some ⟨S,0,none⟩),.pointer (some ⟨b2,0,none⟩),.pointer (some ⟨V,0,none⟩)].toArray (λx:{ x:Int×Int // x∈fl }=>[Value.int .i64 x.1.1,.int .i64 x.1.2].toArray) (LwC w.heap.size L)
   (λG=>G.map (·.1)=fl) (λpre=>pre.map (·.1) <+: fl) fl.length w:=by
 intro l J Jx W hH hJ hI hY h0;have hg:Step [] w W:=Step.of_below hH;have ab:∀{G:List { x:Int×Int // x∈fl }} {W1 W2:World},J G W1→Step [] W1 W2→J G W2:=λ{G W1 W2} hj hh=>hJ G W1 W2 none hj ⟨hh.os,hh.tape,hh.output,hh.size,λk hk _=>hh.block k hk (by simp)⟩ (λr e=>by cases e);have hK:E.length≤1099511627776:=by
  have h1:=hS.p.ed.le;have h2:=J6 q.p.a.ed st;rw[←h3];unfold enb;rw[Le];omega
 have hL:=Qis q.c.cel.rq rs E;rw[hm] at hL;have key:QK prog 151 [.func (.yield l) #[] #[],.pointer (some ⟨S,0,none⟩),.pointer (some ⟨b2,0,none⟩),.pointer (some ⟨V,0,none⟩)] W (λ_ W'=>(∃G,G.map (·.1)=fl∧J G W')∨(∃pre,pre.map (·.1) <+: fl∧Jx pre W')):=by
  refine QK.of_G m func151 O ntmps151 results151 (by simp) ?_;have hM:=hz.ext hg;have hN:=hB.ext hg;have h4:=hS.ext hg;refine QY<|zi (Step [] W) [(0,true),(1,true),(2,true),(3,true),(4,true),(5,false),(6,true),(7,true),(8,true),(9,true),(10,true)] mixed (by rfl) (by rfl) (by kernel_rfl) (Step.drew _ _) ?_
  refine pq (λ_ hc=>Qd (hM.ext hc) O O)<|p (λ_=>QE O)<|p (λ_=>Qa O)<|pq (λ_ hc=>Ys (us:=Zk q.p) (h4.B.ext hc) O O O)<|pq (λ_ hc=>Qd (hN.ext hc) O O)<|pk<|xf<|(K9 (h4.p.ext (Step.drew _ _)) st).mono ?_;rintro r1 w1 ⟨hO,ve,rfl,_,hn⟩;have hn:=hn hc;have hu:=(Step.drew [] W).trans hO;refine ⟨hu,?_⟩;refine p (λ_=>Qp)<|p (λ_=>Qk O O)<|p (λ_=>Qk O O)<|p (λ_=>Qg)<|p (λ_=>Qg)<|pe ?_
  have hT:=hg.size;have hU:({ W with drawn:=W.drawn+1 }:World).heap.size=W.heap.size:=rfl
  rw[h3] at hn;have h5:QL L w1.heap ve E:=Qu.ints hn hK (λx hx=>by have:=hF x hx;omega);refine QY<|QJ (by rfl) (by rfl) ?_;refine Qb<|x (Qs h5 O)<|Qb<|xe ?_
  refine ZI<|Ui (α:=Nat×List { x:Int×Int // x∈fl }) [(8,9),(21,38)] (λz=>[(21,.int .i64 z.1)]) (λz ds W'=>ds=[]∧z.1≤E.length∧Step L w W'∧QL L W'.heap ve E∧z.2.map (·.1)=wrf q.c.cel.rq rs (E.take z.1)∧J z.2 W') (λz=>E.length - z.1) (by rfl) (0,[]) Z
   ⟨O,Ll _,(hg.trans hu).any,h5,O,ab h0 hu⟩ ?_
  rintro ⟨k,G⟩ g ds w2 ⟨rfl,hk,Y,ho,ha,hp⟩;simp only[] at hk ho ha hp;refine QY<|QJ (by rfl) (by rfl) ?_;refine x (QB O O)<|xe<|QY<|yu O (λhw=>?_) (λhw=>?_)
  ·refine Kp ?_;have hP:E.length≤k:=by have hq:¬(k:Int)<(E.length:Int):=hw;omega
   rw[Lo hP,hm] at ha;exact ⟨λ_ h=>(by cases h),MH,[],λW' H=>⟨U,.inl ⟨G,ha,ab hp H⟩⟩⟩
  refine Yg ?_;have hb:k<E.length:=by have hq:(k:Int)<(E.length:Int):=hw;omega
  have I:=QeY (rq:=q.c.cel.rq) (rs:=rs) hb;have h6:cget E k∈E:=by rw[←Za hb];exact Lc hb
  refine Zc (cget E k) λv h7=>?_;rw[h7] at I h6;refine Zc (rfr v 0 q.c.cel.rq rs) λj hj=>?_;rw[hj] at I;refine QY<|ZI<|QY<|QJ (by rfl) (by rfl) ?_;refine xic (i:=k) ho O O hb λhV hq=>?_;rw[h7] at hq;refine x (Qw hq O)<|Qe<|QY<|QJ (by rfl) (by rfl) ?_
  refine x (Qd (hz.step Y hD) O O)<|x (Qd (hC.step Y hE) O O)<|Qb<|xl O<|xf<|(Qbz (v:=v) (hS.st Y) (hr.st Y) hG hv).mono ?_;rintro r3 w3 ⟨h8,hf⟩;rw[hj] at h8;subst h8;refine Qe<|QY<|KC (by rfl) ?_;refine XW.pre3 ?_;refine Qb<|xb (ZV O O) (λhy=>?_) (λhy=>?_)
  ·have ht:0≤j:=hy;have hl:(v,j)∈fl:=by rw[←hm];exact UI.2 ⟨h6,ht,hj.symm⟩
   rw[if_pos ht] at I;have hA:(G++[(⟨(v,j),hl⟩:{ x:Int×Int // x∈fl })]).map (·.1) <+: fl:=by
    rw[Lu,ha,show [(⟨(v,j),hl⟩:{ x:Int×Int // x∈fl })].map (·.1)=[(v,j)] from rfl,←I,←hm];have h9:=KK q.c.cel.rq rs (E.drop (k+1)) (E.take (k+1));rw[MK] at h9;exact ⟨_,h9.symm⟩
   have hQ:G.length<fl.length:=by have h1:=hA.length_le;rw[Le,Lh,LA] at h1;omega
   refine Qb<|xe<|XW.pre3 ?_;refine Qb<|Qb<|Qb<|xe<|xy2 (l:=l) O (hY G ⟨(v,j),hl⟩ w3 (ab hp hf) hQ) λen W3 hR=>Or.elim hR (λh1=>⟨.bool true,h1.1,?_⟩) (λh1=>⟨.bool false,h1.1,?_⟩)
   ·refine XW.of_XL<|x (Zm O)<|x (Ql O)<|xe<|KD O<|Yg ?_;refine QJ (by rfl) (by rfl) ?_;refine QO O O<|Qb<|xe ?_;exact ⟨(k+1,G++[⟨(v,j),hl⟩]),by simp only[];omega,Z,O,hb,(Y.trans hf).lw h1.2.2.lw,(ho.ext hf).cst h1.2.2.cst h1.2.2.lw.size,by simp only[];rw[I,Lu,ha];rfl,h1.2.1⟩
   refine XW.of_XL<|x (Zm O)<|x (Ql O)<|xe<|jE O ?_;refine Ko ⟨λ_ h=>(by cases h),MH,[],λW' H=>⟨U,.inr ⟨G++[⟨(v,j),hl⟩],hA,?_⟩⟩⟩;exact hI _ W3 W' none h1.2 ⟨H.os,H.tape,H.output,H.size,λk hk _=>H.block k hk (by simp)⟩ (λr e=>by cases e)
  have ht:¬0≤j:=hy;rw[if_neg ht,LH] at I;refine Qb<|xe<|XW.of_XL<|xs O<|xs O<|xs O<|xs O<|xs O<|x (Ql O)<|xe<|KD O<|Yg ?_;refine QJ (by rfl) (by rfl) ?_;refine QO O O<|Qb<|xe ?_;exact ⟨(k+1,G),by simp only[];omega,Z,O,hb,Y.trans hf,ho.ext hf,by simp only[];rw[I,ha],ab hp hf⟩
 refine (callsIn_wide (n:=m)).2 ?_;have ea:(#[.func (.yield l) #[] #[]]++[.pointer (some ⟨S,0,none⟩),.pointer (some ⟨b2,0,none⟩),.pointer (some ⟨V,0,none⟩)].toArray:Array Value)=[.func (.yield l) #[] #[],.pointer (some ⟨S,0,none⟩),.pointer (some ⟨b2,0,none⟩),.pointer (some ⟨V,0,none⟩)].toArray:=by simp
 rw[ea];unfold QK at key;refine Calls.mono key λe w' he=>?_;cases e with
 | returned v=>exact ⟨⟨v,O⟩,he⟩
 | panicked c=>exact he.elim
 | outgrown=>exact he.elim
end Go.Proofs.YtdffckgdcegpaaaGreatDoor
namespace Go.Lg
section
variable {P:Program} {K:Fr→World→Prop} {f:Fr} {w:World} {d:Option Nat} {ty:Nat} {ps:String} {af:Array Edge} {gd:Option (Nat×Bool)}
theorem Jl {t sz:Nat}[h1:Ag P t sz] {x y:Operand}{b T o:Nat}{cs us E:LV}(G:QZ w.heap b T cs) (hx:ev f x=.pointer (some ⟨b,o,none⟩)) (hy:ev f y=.agg us.toArray) (hl:us.length=sz) (J:o+sz≤cs.length) (hu:ZQ us) (he:cs.take o++us++cs.drop (o+sz)=E)
  (I:∀w',Step [b] w w'→QZ w'.heap b T E→K (QV f d undef) w'):XO P ⟨d,.store t x y,ty,ps,af,gd⟩ f w K:=by
 have H:=run_storeCells_at P b o T us 0 cs.toArray w G (by simp;omega) hu.all;subst hl;simp only[Nat.add_zero,he] at H;refine xk (w':=w.setRow b E.toArray) ?_ (I _ (Step.setRow _ _ _) (Jy G));simp[execOp,hx,hy,Instr.storeAt,Instr.sureAddr,storeVar,VV (sz:=us.length),Value.cells,H]
end
end Go.Lg
namespace Go.Proofs.YtdffckgdcegpaaaGreatDoor
open Go.Proofs.Tryz
open Go.Lg
instance:Bw prog 154 [nS,nS,nS,nS,nS,nS,.int .i64 0,nS,nS,nS,nS,.int .i64 0,nS,nS,nS,nS,nS,nS,.map none] [(0,5),(5,4),(9,1),(10,4),(14,1),(15,3),(18,1)]:=⟨by kernel_rfl,by decide⟩
theorem Yb.shape {N:Nat}{H:Array Obj}{aa:List QN}{v vt:Value}{c:Int}(h:Yb N H aa v vt c):∃(a:QN) (va vm ve:Value) (qs:List TV),v=.agg #[va,.int .i64 a.st,vm,ve]∧ZQ [va,.int .i64 a.st,vm,ve]∧vt.oneCell'=true ∧
  (c=0→sync aa=some (a,qs.map (·.2))∧KB aa=0∧∀L:LN,(∀b∈L,b<N)→Zv L H va vm ve a∧XX L H vt qs):=by
 by_cases hc:c=0
 ·obtain ⟨⟨va,vm,ve,h1,h2⟩,⟨qs,h3,G⟩,h5,J⟩:=h.good hc;have E:=h2 [] (by simp);exact ⟨XN aa,va,vm,ve,qs,h1,⟨E.al.one,O,E.mr.one,E.ed.one,U⟩,(G [] (by simp)).arr.one,λ_=>⟨by rw[h3];exact h5,J,λL I=>⟨h2 L I,G L I⟩⟩⟩
 obtain ⟨h1,h2⟩:=h.bad hc;exact ⟨⟨[],0,[],[]⟩,Zg,Zg,Zg,[],h1,⟨O,O,O,O,U⟩,by rw[h2];rfl,λe=>absurd e hc⟩
def plE (c:Q8):Int:=if Zb c≠0 then Zb c else J2 (auts c.co)
theorem Uw.shape {N:Nat}{H:Array Obj}{c:Q8}{v vt:Value}{e:Int}(h:Uw N H c v vt e):e=plE c∧∃(a:QN) (va vm ve:Value) (qs:List TV),v=.agg #[va,.int .i64 a.st,vm,ve]∧ZQ [va,.int .i64 a.st,vm,ve]∧vt.oneCell'=true ∧
  (e=0→Zb c=0∧sync (auts c.co)=some (a,qs.map (·.2))∧KB (auts c.co)=0∧∀L:LN,(∀b∈L,b<N)→Zv L H va vm ve a∧XX L H vt qs):=by
 unfold Uw at h;unfold plE;by_cases hc:Zb c≠0
 ·rw[if_pos hc] at h ⊢;obtain ⟨h1,h2,h3⟩:=h;exact ⟨h1,⟨[],0,[],[]⟩,Zg,Zg,Zg,[],h2,⟨O,O,O,O,U⟩,by rw[h3];rfl,λe=>absurd (h1.symm.trans e) hc⟩
 rw[if_neg hc] at h ⊢;obtain ⟨a,va,vm,ve,qs,h1,h2,h3,E⟩:=h.shape;exact ⟨h.e,a,va,vm,ve,qs,h1,h2,h3,λe=>⟨Ls.1 hc,E e⟩⟩
theorem QiE (c:Q8):Yz c=if plE c≠0 then plE c else J2 (auts c.co++auts c.rq):=by
 rw[QiF];unfold plE;by_cases h:Zb c≠0
 ·rw[if_pos h,if_pos h,if_pos h]
 rw[if_neg h,if_neg h]
theorem Qj5 {L:LN}{H:Array Obj}{ps:List AV}(h:∀p∈ps,Zv L H p.va p.vm p.ve p.a):∀u∈ps.flatMap Zk,u.oneCell'=true:=by
 intro u hu;obtain ⟨p,hp,G⟩:=Mv.1 hu;have E:=h p hp;simp only[List.mem_cons,List.not_mem_nil,or_false] at G;rcases G with rfl | rfl | rfl | rfl
 ·exact E.al.one
 ·rfl
 ·exact E.mr.one
 exact E.ed.one
theorem QlM {F:LN→Array Obj→Prop}(st:∀{L:LN}{w w':World},F L w.heap→Step L w w'→F L w'.heap) (up:∀{L L':LN}{H:Array Obj},F L H→(∀b∈L',b∈L∨H.size≤b)→F L' H) {N b:Nat}{w w':World}
  (h:∀L:LN,(∀x∈L,x<N)→F L w.heap) (hb:b<N) (hs:Step [b] w w'):∀L:LN,(∀x∈L,x<N)→F L w'.heap:=λL E =>
 up (st (h (b::L) (λx hx=>by
  rcases Lb.1 hx with rfl | hx
  ·exact hb
  exact E x hx)) (hs.mono (λx hx=>by simp only[List.mem_singleton] at hx;subst hx;exact Lm))) (λx hx=>.inl (Lk _ hx))
theorem Ug.nil (n:Nat):Ug n [] []:=λu _ _=>by simp[mget]
set_option maxHeartbeats 8000000 in
theorem QaW {L:LN}{w:World}{c:CL}(h0:ZF L w.heap c) (h8:Kb w 4096) :
  QK prog 70 [c.val] w λr w'=>Step [] w w'∧∃vp,r=.tuple #[vp,.int .i64 (Yz c.cel)]∧(Yz c.cel≠0→vp=.pointer none) ∧
   (Yz c.cel=0→∃b q,vp=.pointer (some ⟨b,0,none⟩)∧q.c=c∧QnU q∧XY [] b w'.heap q∧∀L:LN,(∀x∈L,x<w.heap.size)→Zv L w'.heap q.s.va q.s.vm q.s.ve q.s.a∧(ZF L w.heap c→XY L b w'.heap q)):=by
 have h:=h0.up (L':=[]) (by simp);have hE:=QiE c.cel;refine Zc (Yz c.cel) λE gv=>?_;rw[gv] at hE ⊢;refine QK.of_W func70 O ntmps70 results70 (by simp) ?_;refine Qc<|xl O<|QS (us:=c.cells) O λb1 w1 hS mh hA=>x Qg<|Qe ?_;have mj:=hS.size;have mo:=hA.lt;have mq:=h.ones
 refine Qc<|x (Qr hA O O)<|x (ZY [(0,c.cells)] ⟨O,O,U⟩)<|xl O<|QS (us:=[c.ve,c.vc,c.vr,c.vx,c.vk,nS,.int .i64 0,nS,nS,nS,nS,.int .i64 0,nS,nS,nS,nS,nS,nS,.map none]) O λG w2 hT ms I=>Qe ?_;have hh:=hS.trans hT;have mt:=hh.size;have gw:=I.lt;have hU:=hA.ext hT;have h2:=h.ext hh;have hge:w.heap.size≤G:=by omega
 have mu:b1≠G:=by omega
 refine Qc<|Qe<|Qf<|Qc<|Qb<|Qb<|x (Qr hU O O)<|xl O<|xf<|(Qa6 h2 (h8.ext hh)).mono ?_;rintro r3 w3 ⟨hj,v3,vq,e3,rfl,hP⟩;obtain ⟨hB,pa,pva,pvm,pve,qs,rfl,gx,gy,gz⟩:=hP.shape;have g0:=hh.trans hj;refine Qb<|x (Qk O O)<|x (Qk O O)<|x (Qk O O)<|x (QE O)<|x (Qa O)<|xl O<|Jl (us:=[pva,.int .i64 pa.st,pvm,pve]) (I.ext hj) O O O (by simp) gx rfl λw4 g2 I =>
  x (QE rfl)<|x (Qa O)<|xl O<|QF (j:=9) (u:=vq) I O O (by simp) gy λV g3 I=>Qe ?_
 have hn:Step [G] w3 V:=g2.trans' g3;have ho:Step [] w V:=g0.then1 hn hge;refine Qc<|Qb<|x (Q9 O O)<|xe<|Q7 rfl (λhr=>?_) (λhr=>?_)
 ·have g4:plE c.cel≠0:=by rw[←hB];exact hr
  rw[if_pos g4,←hB] at hE;subst hE;refine Qc<|Qb<|x Qg<|Qe ?_;exact Qn ⟨[_,_],⟨O,O,U⟩,ho,.pointer none,O,λ_=>O,λe=>absurd e hr⟩
 have hV:e3=0:=Ls.1 hr;rw[if_neg (by rw[←hB,hV];decide)] at hE;obtain ⟨hW,hC,mv,g5⟩:=gz hV;have he:=ZU hW;refine Qi ?_;have hD:=(hU.ext hj).step hn (by simp;omega);have h5:=h.ext ho;have mw:=h.co.arr.le;have my:=h.rq.arr.le;have mz:c.co.length≤8:=by have:=he.c8;have e:c.cel.co.length=c.co.length:=Le ..;omega
 have m0:c.co.length+c.rq.length≤12:=by have:=he.cr;have e:c.cel.co.length=c.co.length:=Le ..;have e':c.cel.rq.length=c.rq.length:=Le ..;omega
 refine Qf<|Qf<|QW (Step [] V) [(0,true),(1,true),(2,true),(3,true),(5,true),(6,true),(4,false),(7,false),(8,false),(9,false),(10,true),(11,true),(12,true),(13,true),(14,true),(15,true),(16,false),(17,true),(18,true),(19,false),(20,true)] mixed (by rfl) (by kernel_rfl) (Step.drew _ _) ?_
 refine p (λ_=>Qp)<|p (λ_=>Qp)<|p (λ_=>Qa O)<|pq (λ_ hc=>Qd (hD.step hc (by simp)) rfl rfl)<|p (λ_=>Qa rfl) <|
  pq (λ_ hc=>Qd (hD.step hc (by simp)) rfl rfl)<|pk<|xf<|(QbV (h5.co.ext (Step.drew _ _))).mono ?_
 rintro r6 w6 ⟨hX,hY⟩;have hF:=(Step.drew [] V).trans hX;refine ⟨hF,?_⟩;refine pk<|xf<|(QbV (h5.rq.ext hF)).mono ?_;rintro r7 w7 ⟨hG,g6⟩;have hZ:=hF.trans hG;refine ⟨hZ,?_⟩;have m1:=hX.size;have m2:=hG.size;have m3:({ V with drawn:=V.drawn+1 }:World).heap.size=V.heap.size:=rfl
 have g7:Zs [] w7.heap r7 (c.rq.map (·.p)).length 4 ((c.rq.map (·.p)).flatMap Zk):=QU g6 (by rw[Le];omega) (by simp);have g8:=Qm hY;refine pk<|yY (Qq hY hG) O g7 O (Qj5 λp hp=>by
   obtain ⟨q,hq,rfl⟩:=Lp.1 hp;exact (h.rq.each q hq)) (by rw[Le,Le];omega) (by omega) λv8 w8 ga g9 m4=>?_
 have ht:Step [] V w8:=hZ.then g9 (λb hb=>.inr (by have:=(g8 b hb).1;omega));refine ⟨ht,?_⟩;have hH:=ho.trans ht;have m5:=ht.size;have ka:XM [] w8.heap v8 (c.co.map (·.p)++c.rq.map (·.p)):=by
  rw[←Lh,←Ly] at ga;exact QgU ga (by rw[Lh,Le,Le];omega) (by simp) (λp hp=>by
   rcases Lj.1 hp with hp | hp
   ·obtain ⟨q,hq,rfl⟩:=Lp.1 hp;exact (h.co.each q hq).ext hH
   obtain ⟨q,hq,rfl⟩:=Lp.1 hp;exact (h.rq.each q hq).ext hH)
 have kb:∀p∈c.co.map (·.p)++c.rq.map (·.p),Q2 p.a:=λp hp=>by
   rcases Lj.1 hp with hp | hp
   ·obtain ⟨q,hq,rfl⟩:=Lp.1 hp;exact he.co q.it (LK hq)
   obtain ⟨q,hq,rfl⟩:=Lp.1 hp;exact he.rq q.it (LK hq)
 refine pk<|xf<|(zd (km:=4096) ka (h8.ext hH) (by decide) (yW kb)).mono ?_;rintro r9 w9 ⟨kc,v9,vt,e9,rfl,hR⟩;rw[Lu,QdO,Qj6] at hR;have gb:=hR.e;obtain ⟨sa,sva,svm,sve,ts,rfl,ke,kf,kg⟩:=hR.shape;have hu:=ht.trans kc;refine ⟨hu,?_⟩;refine p (λ_=>Qp)<|p (λ_=>Qk O O)<|p (λ_=>Qk O O)<|p (λ_=>Qk O O)<|p (λ_=>QE O) <|
  p (λ_=>Qa O)<|pkl (hl:=by kernel_rfl)<|Jl (us:=[sva,.int .i64 sa.st,svm,sve]) (I.ext hu) O O O (by simp) ke rfl λm6 kh I=>p (λ_=>QE rfl)<|p (λ_=>Qa rfl) <|
  pkl (hl:=by kernel_rfl)<|QF (j:=14) (u:=vt) I O O (by simp) kf λhv ki I=>p (λ_=>Qg)<|pe ?_
 have gc:Step [G] w9 hv:=kh.trans' ki;have hw:Step [G] V hv:=hu.any.trans' gc;have hy:Step [] w hv:=ho.then1 hw hge;refine Qc<|Qb<|x (Q9 O O)<|xe<|Q7 rfl (λhI=>?_) (λhI=>?_)
 ·rw[←gb] at hE;subst hE;refine Qc<|Qb<|x Qg<|Qe ?_;exact Qn ⟨[_,_],⟨O,O,U⟩,hy,.pointer none,O,λ_=>O,λe=>absurd e hI⟩
 have ge:e9=0:=Ls.1 hI;have gg:E=0:=by rw[hE,←gb,ge]
 obtain ⟨kj,m7,kk⟩:=kg ge;refine Qi ?_;have kn:=hD.step hw (by simp;omega);refine Qc<|Qb<|Qb<|x (Qr kn O O)<|xl O<|xf<|(ym (h.ext hy)).mono ?_;rintro m8 Y ⟨hg,vs,vx,vk,qx,ks,rfl,ko,kp,gh⟩;have hJ:=gh [] (by simp)
 refine xl rfl<|YB XG λbm kq gi m9 kr=>x (QE O)<|x (Qa O)<|xl O<|Jl (us:=[vs,vx,vk]) ((I.ext hg).ext gi) O O O (by simp) ⟨hJ.1.one,hJ.2.1.arr.one,hJ.2.2.arr.one,U⟩ rfl λpc gj I =>
  x (QE rfl)<|x (Qa O)<|xl O<|QF (j:=18) (u:=.map (some bm)) I O O (by simp) rfl λhK gk I=>xe ?_
 have pd:=hy.size;have pf:=hg.size;have pg:=hw.size;have ph:=hn.size;have pj:=hj.size;have pm:=hu.size;have pn:G<Y.heap.size:=by omega
 have kt:bm≠G:=by omega
 have gl:Step [G] Y hK:=(gi.any.trans' gj).trans' gk;have ku:Step [G] kq hK:=gj.trans' gk;have kv:Z7 XG hK.heap bm []:=kr.step ku (by simpa using kt);have kw:Step [G] w3 Y:=(hn.trans' hw).trans hg;have kx:Step [G] w9 Y:=gc.trans hg;have ky:=hy.trans hg
 have fP:∀{w':World},Step [G] Y w'→∀L:LN,(∀x∈L,x<w2.heap.size)→Zv L w'.heap pva pvm pve pa∧XX L w'.heap vq qs:=λhs =>
  QlM (F:=λL H=>Zv L H pva pvm pve pa∧XX L H vq qs) (λh hs=>⟨h.1.st hs,h.2.st hs⟩) (λh J=>⟨h.1.up J,h.2.up J⟩) g5 gw (kw.trans' hs)
 have fS:∀{w':World},Step [G] Y w'→∀L:LN,(∀x∈L,x<w8.heap.size)→Zv L w'.heap sva svm sve sa∧XX L w'.heap vt ts:=λhs =>
  QlM (F:=λL H=>Zv L H sva svm sve sa∧XX L H vt ts) (λh hs=>⟨h.1.st hs,h.2.st hs⟩) (λh J=>⟨h.1.up J,h.2.up J⟩) kk (by omega) (kx.trans' hs)
 have fC:∀{w':World},Step [G] Y w'→∀L:LN,(∀x∈L,x<hv.heap.size)→QL L w'.heap vs (szs c.cel.co)∧zm L w'.heap vx qx∧zg L w'.heap vk ks:=λhs =>
  QlM (F:=λL H=>QL L H vs (szs c.cel.co)∧zm L H vx qx∧zg L H vk ks) (λh hs=>⟨h.1.st hs,h.2.1.st hs,h.2.2.st hs⟩) (λh J=>⟨h.1.up J,h.2.1.up J,h.2.2.up J⟩) gh (by omega) hs
 have gm:=(UL (Yo he.co) hC).1;have kz:=(Yj (Yo he.co) hC).1.nd;simp only[] at gm;have k0:(auts c.cel.co).length=c.co.length:=by unfold auts;show ((c.co.map IV.it).map _).length=_;simp
 have gn:=(fP gl [] (by simp)).2;have po:=gn.arr.le;refine Qf<|Qc<|Qb<|x (QE O)<|x (Qa O)<|x (Qd I O O)<|x (Qs gn.arr O)<|Qb<|xe ?_
 refine Qh<|QA (α:=Nat×List (ByteArray×Value)) [(6,7),(61,73)] (λz=>[(61,.int .i64 z.1)]) (λz w'=>z.1≤qs.length∧Step [G] Y w'∧QZ w'.heap G 154 [c.ve,c.vc,c.vr,c.vx,c.vk,pva,.int .i64 pa.st,pvm,pve,vq,sva,.int .i64 sa.st,svm,sve,vt,vs,vx,vk,.map (some bm)]∧Z7 XG w'.heap bm z.2∧Ug c.co.length z.2 ((qs.take z.1).map (·.2))) (λz=>qs.length - z.1) (by rfl) (0,[]) Z
  ⟨Ll _,gl,I,kv,Ug.nil _⟩ ?_
 rintro ⟨k,mm⟩ g hM ⟨hk,S,hz,h3,h4⟩;simp only[] at hk h3 h4;have h6:Step [] w hM:=ky.then1 S hge;refine Qc<|x (QB O O)<|xe<|Qf<|QG O (λhN=>?_) (λhN=>?_)
 ·refine Qz ?_;have k4:qs.length≤k:=by have k5:¬(k:Int)<(qs.length:Int):=hN;omega
  rw[Lo k4] at h4;refine Qc<|Qb<|x Qg<|Qe ?_;have aP:=fP S [] (by simp);have aS:=fS S [] (by simp);have aC:=fC S [] (by simp)
  refine Qn ⟨[_,_],⟨O,O,U⟩,h6,.pointer (some ⟨G,0,none⟩),by rw[gg];rfl,λe=>absurd gg e,λ_=>⟨G,⟨c,⟨pva,pvm,pve,pa⟩,vq,qs,⟨sva,svm,sve,sa⟩,vt,ts,vs,vx,vk,qx,ks,bm,mm⟩,O,O,⟨hW,hC,kj,ko,kp,h4⟩,⟨hz,by simp,h.ext h6,aP.1,aS.1,aP.2,aS.2,aC.1,aC.2.1,aC.2.2,by simp,h3⟩,λL J=>?_⟩⟩;have bP:=fP S L (λb hb=>by have:=J b hb;omega);have bS:=fS S L (λb hb=>by have:=J b hb;omega)
  have bC:=fC S L (λb hb=>by have:=J b hb;omega);exact ⟨bS.1,λk6=>⟨hz,λhm=>by have:=J _ hm;omega,k6.ext h6,bP.1,bS.1,bP.2,bS.2,bC.1,bC.2.1,bC.2.2,λhm=>by have h9:bm<w.heap.size:=J bm hm;omega,h3⟩⟩
 have hf:k<qs.length:=by have k5:(k:Int)<(qs.length:Int):=hN;omega
 have go:=(fP S [] (by simp)).2;have hO:=Lc hf;have hQ:(qs.take (k+1)).map (·.2)=(qs.take k).map (·.2)++[(qs[k]'hf).2]:=by rw[Li hf,Lu];rfl
 have gp:(qs[k]'hf).2∉(qs.take k).map (·.2):=by
  have h1:((qs.take (k+1)).map (·.2)).Nodup:=by
   rw[List.map_take];exact kz.sublist (List.take_sublist _ _)
  rw[hQ] at h1;intro hm;exact (MD.1 h1).2.2 _ hm _ (La.2 O) O
 have k7:((qs.take k).map (·.2)).length=k:=by rw[Le,Lx];omega
 refine Qi<|Qf<|Qh<|Qc<|Qb<|xig (g:=Yc) KN go.arr O O hf λpp gq=>?_;refine Zc (qs[k]'hf) λq hq=>?_;rw[hq] at gq hO hQ gp;have k8:=go.each q hO;have gr:=gm q.2 (LK hO);have gs:=gr.bd (m:=4096) (λa ha=>(Yo he.co a ha).st1);have pt:q.2.length=c.co.length:=by rw[gr.1,k0]
 refine x (Qw gq O)<|x Qg<|Qe<|QW (Step [] hM) [(0,true),(1,true),(2,true),(3,true),(4,true),(6,true),(5,false),(7,false)] mixed (by rfl) (by kernel_rfl) (Step.drew _ _) ?_;refine p (λ_=>Qp)<|p (λ_=>QE O)<|p (λ_=>Qa O)<|pq (λ_ hc=>Qd (hz.step hc (by simp)) rfl rfl) <|
  p (λ_=>Qp)<|p (λ_=>Qp)<|pk<|xf<|(jB (k8.ext (Step.drew _ _)) ((h8.ext h6).ext (Step.drew _ _)) gs (by omega)).mono ?_
 rintro pu pw ⟨rfl,k9⟩;have h7:=(Step.drew [] hM).trans k9;refine ⟨h7,?_⟩;refine pkl (hl:=by kernel_rfl)<|XB (k:=JW q.2) (h3.ext h7) O O λma gt mc=>pe ?_;have pz:=S.size;have mf:Step [G] Y ma:=(S.trans h7).then1 gt (by omega);have mg:=(hz.ext h7).step gt (by simp;omega);have gu:=h4.add gp (λx hx=>(gs x hx).1);rw[k7] at gu
 refine Qy<|QO O O<|Qb<|xe ?_;exact ⟨(k+1,mput mm (JW q.2) (.int .i64 (k:Int))),by simp only[];omega,Z,hf,mf,mg,mc,by simp only[];rw[hQ];exact gu⟩
def VT (lo hi:Nat) (ds:LN) (W:World):Prop:=ds.Nodup∧∀D∈ds,lo≤D∧D<hi∧W.heap[D]?=some (.deferred (some []))
theorem VT.step {lo hi:Nat}{ds:LN}{W W':World}{X:LN}(h:VT lo hi ds W) (hs:Step X W W') (G:∀b∈X,∃o:Obj,W.heap[b]?=some o∧o.isCells=true):VT lo hi ds W':=by
 refine ⟨h.1,λD hD=>⟨(h.2 D hD).1,(h.2 D hD).2.1,?_⟩⟩;have h3:=(h.2 D hD).2.2;refine (hs.block D (LE.1 h3).1 (λhx=>?_)).trans h3;obtain ⟨o,E,h5⟩:=G D hx;rw[h3] at E;cases E;cases h5
theorem VT.ext {lo hi:Nat}{ds:LN}{W W':World}(h:VT lo hi ds W) (hs:Step [] W W'):VT lo hi ds W':=h.step hs (λ_ hb=>by cases hb)
theorem VT.blk {lo hi:Nat}{ds:LN}{W W':World}{b T:Nat}{cs:LV}(h:VT lo hi ds W) (hs:Step [b] W W') (hb:QZ W.heap b T cs):VT lo hi ds W' :=
 h.step hs (λc hc=>by
  have e:c=b:=by simpa using hc
  subst e;exact hb.cells)
theorem VT.up {lo hi E:Nat}{ds:LN}{W:World}(h:VT lo hi ds W) (G:hi≤E):VT lo E ds W:=⟨h.1,λD hD=>⟨(h.2 D hD).1,by have:=(h.2 D hD).2.1;omega,(h.2 D hD).2.2⟩⟩
theorem VT.cons {lo hi:Nat}{ds:LN}{W:World}{D:Nat}(h:VT lo hi ds W) (hl:lo≤hi) (hD:hi≤D) (hd:W.heap[D]?=some (.deferred (some []))):VT lo W.heap.size (D::ds) W:=by
 have G:=(LE.1 hd).1;refine ⟨List.nodup_cons.2 ⟨λhm=>by have:=(h.2 D hm).2.1;omega,h.1⟩,λE hE=>?_⟩;rcases Lb.1 hE with rfl | hE
 ·exact ⟨by omega,G,hd⟩
 have:=h.2 E hE;exact ⟨this.1,(LE.1 this.2.2).1,this.2.2⟩
theorem VT.stb {lo hi B:Nat}{ds:LN}(G:hi≤B):Z1 B (λW=>VT lo hi ds W):=λW W' X h hs E=>by
 refine ⟨h.1,λD hD=>⟨(h.2 D hD).1,(h.2 D hD).2.1,?_⟩⟩;have h3:=(h.2 D hD).2.2;refine (hs.block D (LE.1 h3).1 (λhx=>?_)).trans h3;have:=(E D hx).1;have:=(h.2 D hD).2.1;omega
end Go.Proofs.YtdffckgdcegpaaaGreatDoor
namespace Go.Lg
theorem UR {W W':World}{base e sz n:Nat}{v:Value}{cs:LV}(h:W.ownsRow base e sz v n cs) (hc:Xr [] W W'):W'.ownsRow base e sz v n cs :=
 ⟨h.1,h.2.imp id λ⟨g,cap,cur,h1,h2,h3,E⟩=>⟨g,cap,cur,h1,h2,hc g _ (by simp) h3 rfl,E⟩⟩
theorem Xr.mono {L L':LN}{W W':World}(h:Xr L W W') (E:∀b∈L,b∈L'):Xr L' W W':=λk o G=>h k o (λhm=>G (E k hm))
theorem Xr.nonc {X:LN}{W W':World}(hs:Step X W W') (E:∀r∈X,∃o:Obj,W.heap[r]?=some o∧o.isCells=false):Xr [] W W':=λk o _ hk hc =>
 (hs.block k (LE.1 hk).1 (λhx=>by
  obtain ⟨G,h1,h2⟩:=E k hx;rw[hk] at h1;cases h1;rw[hc] at h2;cases h2)).trans hk
theorem Z1.cst {B:Nat}{I:World→Prop}(h:∀W W',I W→Xr [] W W'→W.heap.size≤W'.heap.size→I W'):Z1 B I:=λW W' _ hi hs E=>h W W' hi (Xr.nonc hs (λr G=>(E r G).2)) hs.size
end Go.Lg
namespace Go.Proofs.YtdffckgdcegpaaaGreatDoor
open Go.Lg
theorem ZN.cst {base:Nat}{av:LN}{W W':World}{v:Value}{n sz:Nat}{cs:LV}(h:ZN base av W.heap v n sz cs) (hc:Lg.Xr [] W W') (E:W.heap.size≤W'.heap.size):ZN base av W'.heap v n sz cs:=λL G=>(h L G).cst (hc.mono (by simp)) E
abbrev Zy (r:Rsn):LV:=[.int .i64 r.st,.int .i64 r.kd,.int .i64 r.ix,.int .i64 r.ev]
theorem Qbu (r:Rsn):(Zy r).length=4:=rfl
structure Jv (base:Nat) (w:World) (v1 v2 v3 v4:Value) (cos rqs:List TV) (pls:LI) (fbs:List Rsn):Prop where
 o1:w.ownsRow base 37 1 v1 cos.length (cos.flatMap Yc)
 o2:w.ownsRow base 37 1 v2 rqs.length (rqs.flatMap Yc)
 o3:Qu 3 base w v3 pls
 o4:w.ownsRow base 83 4 v4 fbs.length (fbs.flatMap Zy)
 d12:Dj v1 v2
 d13:Dj v1 v3
 d14:Dj v1 v4
 d23:Dj v2 v3
 d24:Dj v2 v4
 d34:Dj v3 v4
 e1:∀p∈cos,ZN base (ob v1++(ob v2++(ob v3++ob v4))) w.heap p.1 p.2.length 1 (p.2.map (.int .i64))
 e2:∀p∈rqs,ZN base (ob v1++(ob v2++(ob v3++ob v4))) w.heap p.1 p.2.length 1 (p.2.map (.int .i64))
theorem V9 {v:Value}:Dj (nS) v:=λb hb=>by simp[ob] at hb
theorem Jv.nil (base:Nat) (w:World):Jv base w (nS) (nS) (nS) (nS) [] [] [] [] :=
 ⟨QP _ _ _ _,QP _ _ _ _,QP _ _ _ _,QP _ _ _ _,V9,V9,V9,V9,V9,V9,λp hp=>(by cases hp),λp hp=>(by cases hp)⟩
variable {base:Nat} {w w7 w8:World} {v1 v2 v3 v4 v':Value} {cos rqs:List TV} {pls:LI} {fbs:List Rsn}
theorem Jv.ext (h:Jv base w v1 v2 v3 v4 cos rqs pls fbs) (hs:Step [] w w7):Jv base w7 v1 v2 v3 v4 cos rqs pls fbs :=
 ⟨Qq h.o1 hs,Qq h.o2 hs,Qq h.o3 hs,Qq h.o4 hs,h.d12,h.d13,h.d14,h.d23,h.d24,h.d34,λp hp=>(h.e1 p hp).ext hs,λp hp=>(h.e2 p hp).ext hs⟩
theorem Jv.low {X:LN}(h:Jv base w v1 v2 v3 v4 cos rqs pls fbs) (hs:Step X w w7) (E:∀b∈X,b<base):Jv base w7 v1 v2 v3 v4 cos rqs pls fbs:=by
 have k:∀{e sz n:Nat} {v:Value} {cs:LV},w.ownsRow base e sz v n cs→w7.ownsRow base e sz v n cs:=λo=>Qj o hs (λb hb hm=>by have:=(Qm o b hb).1;have:=E b hm;omega);exact ⟨k h.o1,k h.o2,k h.o3,k h.o4,h.d12,h.d13,h.d14,h.d23,h.d24,h.d34,λp hp=>(h.e1 p hp).low hs E,λp hp=>(h.e2 p hp).low hs E⟩
theorem Jv.cst (h:Jv base w v1 v2 v3 v4 cos rqs pls fbs) (hc:Lg.Xr [] w w7) (E:w.heap.size≤w7.heap.size):Jv base w7 v1 v2 v3 v4 cos rqs pls fbs :=
 ⟨UR h.o1 hc,UR h.o2 hc,UR h.o3 hc,UR h.o4 hc,h.d12,h.d13,h.d14,h.d23,h.d24,h.d34,λp hp=>(h.e1 p hp).cst hc E,λp hp=>(h.e2 p hp).cst hc E⟩
theorem Ua {a b E:Value}{n:Nat}(h:Dj a b) (G:∀x∈ob E,x∈ob a∨n≤x) (hb:∀x∈ob b,x<n):Dj E b:=λx hx hm=>by
 rcases G x hx with h1 | h1
 ·exact h x h1 hm
 have:=hb x hm;omega
theorem KA {a b b':Value}{n:Nat}(h:Dj a b) (E:∀x∈ob b',x∈ob b∨n≤x) (ha:∀x∈ob a,x<n):Dj a b':=λx hx hm=>by
 rcases E x hm with h1 | h1
 ·exact h x hx h1
 have:=ha x hx;omega
theorem Jv.lt (h:Jv base w v1 v2 v3 v4 cos rqs pls fbs):(∀x∈ob v1,x<w.heap.size)∧(∀x∈ob v2,x<w.heap.size)∧(∀x∈ob v3,x<w.heap.size)∧∀x∈ob v4,x<w.heap.size:=⟨QR h.o1,QR h.o2,QR h.o3,QR h.o4⟩
theorem Qak {a b c d:LN}{x:Nat}(h:x∈a++(b++(c++d))):x∈a∨x∈b∨x∈c∨x∈d:=by simpa using h
theorem qJ {a b c d:LN}{x:Nat}(h:x∈a∨x∈b∨x∈c∨x∈d):x∈a++(b++(c++d)):=by simpa using h
theorem Jv.a1 {N e:Nat}{q:TV}(h:Jv base w v1 v2 v3 v4 cos rqs pls fbs) (hs:Step [] w w7) (hq:w7.ownsRow N e 1 q.1 q.2.length (q.2.map (.int .i64))) (I:q.2.length≤1099511627776) (S:w.heap.size≤N) (hb:base≤w.heap.size) (J:w8.ownsRow base 37 1 v' (cos.length+1) (cos.flatMap Yc++Yc q))
  (G:Step (ob v1) w7 w8) (H:∀b∈ob v',b∈ob v1∨w7.heap.size≤b):Jv base w8 v' v2 v3 v4 (cos++[q]) rqs pls fbs:=by
 have l:=h.lt;have V:=hs.size;have E:=h.ext hs;have av:∀b∈ob v'++(ob v2++(ob v3++ob v4)),b∈ob v1++(ob v2++(ob v3++ob v4))∨w7.heap.size≤b:=by
  intro b hb;rcases Qak hb with h1 | h1 | h1 | h1
  ·rcases H b h1 with h2 | h2
   ·exact .inl (qJ (.inl h2))
   exact .inr h2
  ·exact .inl (qJ (.inr (.inl h1)))
  ·exact .inl (qJ (.inr (.inr (.inl h1))))
  exact .inl (qJ (.inr (.inr (.inr h1))))
 have st:Step (ob v1++(ob v2++(ob v3++ob v4))) w7 w8:=G.mono (λb hb=>qJ (.inl hb));have g:∀{v:Value} {n sz:Nat} {cs:LV},ZN base (ob v1++(ob v2++(ob v3++ob v4))) w7.heap v n sz cs→ZN base (ob v'++(ob v2++(ob v3++ob v4))) w8.heap v n sz cs:=λa=>a.app st av
 refine ⟨by rw[Lh,Ly];simpa using J,Qj E.o2 G (λb hb hm=>h.d12 b hm hb),Qj E.o3 G (λb hb hm=>h.d13 b hm hb),Qj E.o4 G (λb hb hm=>h.d14 b hm hb),Ua h.d12 H (λx hx=>by have:=l.2.1 x hx;omega),Ua h.d13 H (λx hx=>by have:=l.2.2.1 x hx;omega),Ua h.d14 H (λx hx=>by have:=l.2.2.2 x hx;omega),h.d23,h.d24,h.d34,?_,?_⟩
 ·exact λp hp=>by
   rcases Lj.1 hp with hp | hp
   ·exact g (E.e1 p hp)
   simp only[List.mem_singleton] at hp;subst hp;exact g (ZN.of_own hq I (by omega) (λb hb=>by
   rcases Qak hb with h1 | h1 | h1 | h1
   ·have:=l.1 b h1;omega
   ·have:=l.2.1 b h1;omega
   ·have:=l.2.2.1 b h1;omega
   have:=l.2.2.2 b h1;omega))
 exact λp hp=>g (E.e2 p hp)
theorem Jv.a2 {N e:Nat}{q:TV}(h:Jv base w v1 v2 v3 v4 cos rqs pls fbs) (hs:Step [] w w7) (hq:w7.ownsRow N e 1 q.1 q.2.length (q.2.map (.int .i64))) (I:q.2.length≤1099511627776) (S:w.heap.size≤N) (hb:base≤w.heap.size) (J:w8.ownsRow base 37 1 v' (rqs.length+1) (rqs.flatMap Yc++Yc q))
  (G:Step (ob v2) w7 w8) (H:∀b∈ob v',b∈ob v2∨w7.heap.size≤b):Jv base w8 v1 v' v3 v4 cos (rqs++[q]) pls fbs:=by
 have l:=h.lt;have V:=hs.size;have E:=h.ext hs;have av:∀b∈ob v1++(ob v'++(ob v3++ob v4)),b∈ob v1++(ob v2++(ob v3++ob v4))∨w7.heap.size≤b:=by
  intro b hb;rcases Qak hb with h1 | h1 | h1 | h1
  ·exact .inl (qJ (.inl h1))
  ·rcases H b h1 with h2 | h2
   ·exact .inl (qJ (.inr (.inl h2)))
   exact .inr h2
  ·exact .inl (qJ (.inr (.inr (.inl h1))))
  exact .inl (qJ (.inr (.inr (.inr h1))))
 have st:Step (ob v1++(ob v2++(ob v3++ob v4))) w7 w8:=G.mono (λb hb=>qJ (.inr (.inl hb)));have g:∀{v:Value} {n sz:Nat} {cs:LV},ZN base (ob v1++(ob v2++(ob v3++ob v4))) w7.heap v n sz cs→ZN base (ob v1++(ob v'++(ob v3++ob v4))) w8.heap v n sz cs:=λa=>a.app st av
 refine ⟨Qj E.o1 G (λb hb hm=>h.d12 b hb hm),by rw[Lh,Ly];simpa using J,Qj E.o3 G (λb hb hm=>h.d23 b hm hb),Qj E.o4 G (λb hb hm=>h.d24 b hm hb),KA h.d12 H (λx hx=>by have:=l.1 x hx;omega),h.d13,h.d14,Ua h.d23 H (λx hx=>by have:=l.2.2.1 x hx;omega),Ua h.d24 H (λx hx=>by have:=l.2.2.2 x hx;omega),h.d34,?_,?_⟩
 ·exact λp hp=>g (E.e1 p hp)
 exact λp hp=>by
  rcases Lj.1 hp with hp | hp
  ·exact g (E.e2 p hp)
  simp only[List.mem_singleton] at hp;subst hp;exact g (ZN.of_own hq I (by omega) (λb hb=>by
  rcases Qak hb with h1 | h1 | h1 | h1
  ·have:=l.1 b h1;omega
  ·have:=l.2.1 b h1;omega
  ·have:=l.2.2.1 b h1;omega
  have:=l.2.2.2 b h1;omega))
theorem Jv.a3 {q:Int}(h:Jv base w v1 v2 v3 v4 cos rqs pls fbs) (hs:Step [] w w7) (I:w8.ownsRow base 3 1 v' (pls.length+1) (pls.map (.int .i64)++[.int .i64 q]))
  (G:Step (ob v3) w7 w8) (H:∀b∈ob v',b∈ob v3∨w7.heap.size≤b):Jv base w8 v1 v2 v' v4 cos rqs (pls++[q]) fbs:=by
 have l:=h.lt;have J:=hs.size;have E:=h.ext hs;have av:∀b∈ob v1++(ob v2++(ob v'++ob v4)),b∈ob v1++(ob v2++(ob v3++ob v4))∨w7.heap.size≤b:=by
  intro b hb;rcases Qak hb with h1 | h1 | h1 | h1
  ·exact .inl (qJ (.inl h1))
  ·exact .inl (qJ (.inr (.inl h1)))
  ·rcases H b h1 with h2 | h2
   ·exact .inl (qJ (.inr (.inr (.inl h2))))
   exact .inr h2
  exact .inl (qJ (.inr (.inr (.inr h1))))
 have st:Step (ob v1++(ob v2++(ob v3++ob v4))) w7 w8:=G.mono (λb hb=>qJ (.inr (.inr (.inl hb))));have g:∀{v:Value} {n sz:Nat} {cs:LV},ZN base (ob v1++(ob v2++(ob v3++ob v4))) w7.heap v n sz cs→ZN base (ob v1++(ob v2++(ob v'++ob v4))) w8.heap v n sz cs:=λa=>a.app st av
 refine ⟨Qj E.o1 G (λb hb hm=>h.d13 b hb hm),Qj E.o2 G (λb hb hm=>h.d23 b hb hm),Qu.snoc I,Qj E.o4 G (λb hb hm=>h.d34 b hm hb),h.d12,KA h.d13 H (λx hx=>by have:=l.1 x hx;omega),h.d14,KA h.d23 H (λx hx=>by have:=l.2.1 x hx;omega),h.d24,Ua h.d34 H (λx hx=>by have:=l.2.2.2 x hx;omega),?_,?_⟩
 ·exact λp hp=>g (E.e1 p hp)
 exact λp hp=>g (E.e2 p hp)
theorem Jv.a4 {q:Rsn}(h:Jv base w v1 v2 v3 v4 cos rqs pls fbs) (hs:Step [] w w7) (I:w8.ownsRow base 83 4 v' (fbs.length+1) (fbs.flatMap Zy++Zy q))
  (G:Step (ob v4) w7 w8) (H:∀b∈ob v',b∈ob v4∨w7.heap.size≤b):Jv base w8 v1 v2 v3 v' cos rqs pls (fbs++[q]):=by
 have l:=h.lt;have J:=hs.size;have E:=h.ext hs;have av:∀b∈ob v1++(ob v2++(ob v3++ob v')),b∈ob v1++(ob v2++(ob v3++ob v4))∨w7.heap.size≤b:=by
  intro b hb;rcases Qak hb with h1 | h1 | h1 | h1
  ·exact .inl (qJ (.inl h1))
  ·exact .inl (qJ (.inr (.inl h1)))
  ·exact .inl (qJ (.inr (.inr (.inl h1))))
  rcases H b h1 with h2 | h2
  ·exact .inl (qJ (.inr (.inr (.inr h2))))
  exact .inr h2
 have st:Step (ob v1++(ob v2++(ob v3++ob v4))) w7 w8:=G.mono (λb hb=>qJ (.inr (.inr (.inr hb))));have g:∀{v:Value} {n sz:Nat} {cs:LV},ZN base (ob v1++(ob v2++(ob v3++ob v4))) w7.heap v n sz cs→ZN base (ob v1++(ob v2++(ob v3++ob v'))) w8.heap v n sz cs:=λa=>a.app st av
 refine ⟨Qj E.o1 G (λb hb hm=>h.d14 b hb hm),Qj E.o2 G (λb hb hm=>h.d24 b hb hm),Qj E.o3 G (λb hb hm=>h.d34 b hb hm),by rw[Lh,Ly];simpa using I,h.d12,h.d13,KA h.d14 H (λx hx=>by have:=l.1 x hx;omega),h.d23,KA h.d24 H (λx hx=>by have:=l.2.1 x hx;omega),KA h.d34 H (λx hx=>by have:=l.2.2.1 x hx;omega),?_,?_⟩
 ·exact λp hp=>g (E.e1 p hp)
 exact λp hp=>g (E.e2 p hp)
theorem zL (c:Q8) (pl:QN) (ps:List (LI)):∀(l:List (LI)) (i:Nat) (s:Spc),(l.zipIdx i).foldl (QkS c pl ps) s =
  ⟨s.a,s.co++l.map (·.take c.co.length),s.rq++l.map (·.drop c.co.length),s.pl++l.map (λt=>plx ps (t.take c.co.length)),s.fb++(l.zipIdx i).filterMap (λp=>rsn c pl (plx ps (p.1.take c.co.length)) p.2 p.1)⟩
 | [],i,s=>by simp
 | t::l,i,s=>by
  rw[Nr,LM,zL c pl ps l (i+1)];unfold QkS;simp only[List.map_cons,List.append_assoc,List.cons_append,List.nil_append,List.filterMap_cons];cases rsn c pl (plx ps (t.take c.co.length)) i t with
  | none=>rfl
  | some r=>simp
theorem qk {c:Q8}{rs:LI}:∀{l:LI},(∀x∈wrf c.rq rs l,(c.ev.getD x.1.toNat ⟨.empty,false,false,false,0⟩).co=true)→rfd c rs l=none
 | [],_=>rfl
 | v::l,h=>by
  rw[wrf] at h;rw[rfd];by_cases h1:0≤rfr v 0 c.rq rs
  ·rw[if_pos h1] at h;have h2:=h _ Lm;simp only[] at h2;rw[if_neg (λe=>by rw[h2] at e;cases e.2)];exact qk λx hx=>h x (Lk _ hx)
  rw[if_neg h1] at h;rw[if_neg (λe=>h1 e.1)];exact qk h
theorem qj {c:Q8}{rs:LI}{x:Int×Int}{t:List (Int×Int)}:∀{l:LI}{p:List (Int×Int)},wrf c.rq rs l=p++x::t→(∀y∈p,(c.ev.getD y.1.toNat ⟨.empty,false,false,false,0⟩).co=true)→(c.ev.getD x.1.toNat ⟨.empty,false,false,false,0⟩).co=false→rfd c rs l=some (x.2,x.1)
 | [],p,h,_,_=>by simp[wrf] at h
 | v::l,p,h,hp,hx=>by
  rw[wrf] at h;rw[rfd];by_cases h1:0≤rfr v 0 c.rq rs
  ·rw[if_pos h1] at h;cases p with
   | nil =>
    simp only[List.nil_append,List.cons.injEq] at h;obtain ⟨h2,_⟩:=h;subst h2;rw[if_pos ⟨h1,hx⟩]
   | cons y p =>
    simp only[List.cons_append,List.cons.injEq] at h;obtain ⟨h2,h3⟩:=h;have E:=hp y Lm;subst h2;rw[if_neg (λe=>by simp only[] at E;rw[E] at e;cases e.2)];exact qj h3 (λy hy=>hp y (Lk _ hy)) hx
  rw[if_neg h1] at h;rw[if_neg (λe=>h1 e.1)];exact qj h hp hx
theorem Qe1 (c:Q8) (t:LI):vio c t=if (Vd c.ex c.cs t).2.2=true then some ((Vd c.ex c.cs t).1,(Vd c.ex c.cs t).2.1) else none:=by
 unfold vio Vd;by_cases h1:0≤fix (Jh t) 0 c.ex
 ·rw[if_pos h1,if_pos h1];rfl
 rw[if_neg h1,if_neg h1];by_cases h2:0≤fix (JT t) 0 c.cs
 ·rw[if_pos h2,if_pos h2];rfl
 rw[if_neg h2,if_neg h2];rfl
def QnW (N:Nat) (H:Array Obj) (v:Value) (s:Spc):Prop:=∃va vm ve v1 v2 v3 v4 cos rqs,v=.agg #[va,.int .i64 s.a.st,vm,ve,v1,v2,v3,v4]∧cos.map (·.2)=s.co∧rqs.map (·.2)=s.rq ∧
 ∀L:LN,(∀b∈L,b<N)→Zv L H va vm ve s.a∧XX L H v1 cos∧XX L H v2 rqs∧QL L H v3 s.pl∧Zs L H v4 s.fb.length 4 (s.fb.flatMap Zy)
end Go.Proofs.YtdffckgdcegpaaaGreatDoor
namespace Go.Lg
open Go.RowKit
def sl (d:Option Nat) (f:Fr):Value:=match d with | some d=>f d | none=>undef
def ow:Value→LN
 | .slice (some a) _ _=>[a.block]
 | .pointer (some a)=>[a.block]
 | .map (some b)=>[b]
 | _=>[]
section
variable {P:Program} {n:Nat} {f:Fr} {w:World} {all:List Oper} {C:World→Prop} {K:Fr→World→Prop}
theorem VA {o:Oper}(h:o.guard=none):Yk all f o=true:=by unfold Yk;rw[h]
end
def qN (all:Array Oper) (i:Nat) (rest:List (Nat×Bool)):List (Nat×Bool)→Array Bool→Bool
 | [],ls=>Region.ready .any all ls == [i] && Xk all rest (ls.setIfInBounds i true)
 | (j,true)::l,ls=>(Region.ready .any all ls).contains j && Region.free .any all ls j && qN all i rest l (ls.setIfInBounds j true)
 | (j,false)::l,ls=>!(Region.ready .any all ls).isEmpty && (Region.ready .any all ls).all (λk=>k == j || k == i) && Xk all ((j,false)::(l++rest)) (ls.setIfInBounds i true) && qN all i rest l (ls.setIfInBounds j true)
def Ye (all:List Oper) (d:Nat) (l:List (Nat×Bool)):Bool:=l.all λp=>!((Q6 all p.1).looksAt all.toArray).contains d && !((Q6 all p.1).dst == some d)
def Qg6 (all:List Oper) (pre l:List (Nat×Bool)) (i:Nat) (rest:List (Nat×Bool)):Bool :=
 Region.noSelect all.toArray && (pre.length+(l.length+1+rest.length) == all.length) && Kr all.toArray pre (Array.replicate all.length false) && qN all.toArray i rest l (Z3 pre (Array.replicate all.length false))
  && (Q6 all i).guard.isNone && (match (Q6 all i).dst with | some d=>Ye all d l | none=>false)
def XF (P:Program) (all:List Oper) (C:World→Prop) (K:Fr→World→Prop):List (Nat×Bool)→LN→Fr→World→Prop
 | [],_,f,w=>K f w
 | (j,true)::l,own,f,w=>Yk all f (Q6 all j)=true∧∃v,(∀w',(zl (Q6 all j)=true→C w')→(execOp (ev f) (Q6 all j)).run P w'=.ok (.value v) w')∧XF P all C K l own (QV f (Q6 all j).dst v) w
 | (j,false)::l,own,f,w=>Yk all f (Q6 all j)=true∧∀w1,Step [] w w1→C w1→XO P (Q6 all j) f w1 λE w'=>C w'∧∃own',Step own w1 w'∧(∀b∈own',b∈own∨(w1.heap.size≤b∧b<w'.heap.size))∧XF P all C K l own' E w'
section
variable {P:Program} {n:Nat} {f:Fr} {w:World} {all:List Oper} {C:World→Prop} {K KF:Fr→World→Prop}
theorem XF.ext (E:∀f w w',KF f w→Step [] w w'→KF f w'):∀{l:List (Nat×Bool)}{own:LN}{f:Fr}{w w':World},XF P all C KF l own f w→Step [] w w'→XF P all C KF l own f w'
 | [],_,_,_,_,h,hs=>E _ _ _ h hs
 | (_,true)::_,_,_,_,_,h,hs=>by
  obtain ⟨G,v,H,hx⟩:=h;exact ⟨G,v,H,XF.ext E hx hs⟩
 | (_,false)::_,_,_,_,_,h,hs=>⟨h.1,λI h1 hc=>h.2 I (hs.trans h1) hc⟩
attribute [local semireducible] XO in
theorem QdQ {o:Oper}(hs:∀cs b,o.op≠.select cs b) {d:Nat}{v:Value}{K':Fr→World→Prop}(h1:d∉o.looksAt all.toArray) (h2:o.dst≠some d) (E:∀u w',K (QV f o.dst u) w'→K' (QV (QV f o.dst u) (some d) v) w')
  (h:XO P o f w K):XO P o (QV f (some d) v) w K':=by
 have hc:∀u,QV (QV f (some d) v) o.dst u=QV (QV f o.dst u) (some d) v:=λu=>Ks f v u (λe he=>by cases he;exact h2);unfold XO at *;rw[Xf (all:=all) hs f (some d) v (λe he=>by cases he;exact h1)];generalize (execOp (ev f) o).run P w=r at *;cases r with
 | ok nx w' =>
  cases nx <;> simp only[upF] at h ⊢
  case value u=>rw[hc];exact E u w' h
  case skip=>rw[hc];exact E _ w' h
  case enter g args =>
   refine Calls.mono h λe G he=>?_;cases e with
   | returned u=>simp only at he ⊢;rw[hc];exact E u G he
   | panicked c=>exact he.elim
   | outgrown=>exact he.elim
 | halt x w'=>exact h.elim
theorem Kc {D:List (Nat×Nat)}{f f0:Fr}{dst:Option Nat}{v:Value}(hd:inD D dst=true) (h:∀t,XC D t=false→f t=f0 t):∀t,XC D t=false→QV f dst v t=f0 t:=λt ht =>
 (Y2 (λe=>by rw[e] at hd;simp only[inD] at hd;rw[hd] at ht;cases ht) v).trans (h t ht)
def Ya (all:List Oper) (D:List (Nat×Nat)) (l:List (Nat×Bool)):Bool:=l.all λp=>inD D (Q6 all p.1).dst
structure Fl (P:Program) (all:List Oper) (C:World→Prop) (K KF:Fr→World→Prop) (i d:Nat) (rest:List (Nat×Bool)) (Φ:Value→World→Prop) (Dc:List (Nat×Nat)) (f1:Fr):Prop where
 stab:∀v (own:LN) w w',Φ v w→Step own w w'→(∀b∈ow v,b∉own)→Φ v w'
 spec:∀f w,(∀t,XC Dc t=false→f t=f1 t)→C w→XO P (Q6 all i) f w λf' w'=>Step [] w w'∧C w'∧Φ (f' d) w'∧∀b∈ow (f' d),w.heap.size≤b∧b<w'.heap.size
 fin:∀f w,KF f w→∀v,C w→Φ v w→XP P all C K rest (QV f (some d) v) w
 mono:∀f w w',KF f w→Step [] w w'→KF f w'
attribute [local semireducible] XP in
theorem q9 {i d:Nat}{rest:List (Nat×Bool)}{Φ:Value→World→Prop}{Dc:List (Nat×Nat)}{f1:Fr}(G:Fl P all C K KF i d rest Φ Dc f1) (hs:Region.noSelect all.toArray=true) {v:Value}:∀(l:List (Nat×Bool)) (own:LN) (f:Fr) (w:World),Ye all d l=true→XF P all C KF l own f w→C w→Φ v w →
  (∀b∈ow v,b∉own∧b<w.heap.size)→XP P all C K (l++rest) (QV f (some d) v) w
 | [],own,f,w,_,h,hC,H,_=>G.fin f w h v hC H
 | (j,q)::l,own,f,w,hfr,h,hC,H,hb=>by
  simp only[Ye,List.all_cons,Bool.and_eq_true,Bool.not_eq_true',List.contains_eq_mem,decide_eq_false_iff_not,beq_eq_false_iff_ne,ne_eq] at hfr;obtain ⟨⟨h1,h2⟩,hfr⟩:=hfr;have I:Ye all d l=true:=by simpa[Ye] using hfr
  have S:∀cs b,(Q6 all j).op≠.select cs b:=by
   intro cs b;cases J:all[j]? with
   | none =>
    have:Q6 all j=default:=by
     clear h h1 h2 hfr I;have key:∀(l:List Oper) (j:Nat),l[j]?=none→Q6 l j=default:=by
      intro l;induction l with
      | nil=>intro j _;rfl
      | cons a l ih=>intro j V;cases j with | zero=>simp at V | succ j=>exact ih j (by simpa using V)
     exact key all j J
    rw[this];intro e;cases e
   | some o=>rw[Zp J];exact Region.noSelect_spec hs j o cs b (by simpa using J)
  have hd:∀e,some d=some e→e∉(Q6 all j).looksAt all.toArray:=λe he=>by cases he;exact h1
  cases q with
  | true =>
   obtain ⟨hg,u,hu,hx⟩:=h;simp only[List.cons_append,XP];rw[Jq (Q6 all j) f (some d) v hd,hg,cond_true,cond_true];refine ⟨u,λw' hc=>?_,?_⟩
   ·rw[Xf (all:=all) S f (some d) v hd];exact hu w' hc
   rw[Ks f v u (λe he=>by cases he;exact h2)];exact q9 G hs l own _ w I hx hC H hb
  | false =>
   simp only[List.cons_append,XP];rw[Jq (Q6 all j) f (some d) v hd,h.1,cond_true,cond_false];refine QdQ (all:=all) S h1 h2 (λu w' hx=>?_) (h.2 w (Step.refl _ _) hC);obtain ⟨Y,own',ha,hf,hx⟩:=hx;refine ⟨.inr (.inr Y),q9 G hs l own' _ w' I hx Y (G.stab v own w w' H ha (λb E=>(hb b E).1)) (λb E=>⟨λhm=>?_,L2 (hb b E).2 ha.size⟩)⟩
   rcases hf b hm with h3 | h3
   ·exact (hb b E).1 h3
   exact Nat.lt_irrefl _ (L2 (hb b E).2 h3.1)
theorem Qh0 {i d:Nat}{rest:List (Nat×Bool)}{Φ:Value→World→Prop}{Dc:List (Nat×Nat)}{f1:Fr}(G:Fl P all C K KF i d rest Φ Dc f1) (hs:Region.noSelect all.toArray=true) (J:(Q6 all i).guard=none) (hd:(Q6 all i).dst=some d):∀(l:List (Nat×Bool)) (ls:Array Bool) (own:LN) (f:Fr) (w:World),ls.size=all.length→Ye all d l=true→Ya all Dc l=true→(∀t,XC Dc t=false→f t=f1 t) →
  XF P all C KF l own f w→C w→(∀b∈own,b<w.heap.size)→qN all.toArray i rest l ls=true→XA P all C K (l.length+1+rest.length) ls f w
 | [],ls,own,f,w,V,hfr,H,S,h,hC,Y,hp=>by
  simp only[qN,Bool.and_eq_true,beq_iff_eq] at hp;obtain ⟨I,hp⟩:=hp;rw[show ([]:List (Nat×Bool)).length+1+rest.length=rest.length+1 by simp;omega];refine JM (λh0=>(by rw[h0] at I;cases I)) ?_;rw[I];intro k hk o E;have hc:k=i:=by simpa using hk
  subst hc;have ha:=Zp E;have hx:=G.spec f w S hC;rw[ha] at J hd hx;rw[VA J,cond_true];refine hx.mono λv w' hx=>?_;rw[hd] at hx ⊢;obtain ⟨h1,h2,h3,h4⟩:=hx;simp only[QV,YL] at h3 h4;refine ⟨.inr (.inr h2),ZD hs rest _ _ _ (by simpa using V) (.inl h2) hp (G.fin f w' (G.mono f w w' h h1) v h2 h3)⟩
 | (j,true)::l,ls,own,f,w,V,hfr,H,S,h,hC,Y,hp=>by
  simp only[qN,Bool.and_eq_true] at hp;obtain ⟨⟨I,hf⟩,he⟩:=hp;have hn:j∈Region.ready .any all.toArray ls:=by simpa using I
  have e:(List.length ((j,true)::l))+1+rest.length=(l.length+1+rest.length)+1:=by simp;omega
  rw[e];have hh:Ye all d l=true:=by simp only[Ye,List.all_cons,Bool.and_eq_true] at hfr;exact hfr.2
  simp only[Ya,List.all_cons,Bool.and_eq_true] at H;have hl:Ya all Dc l=true:=H.2;cases E:all[j]? with
  | none =>
   exfalso;obtain ⟨_,o,hy,_⟩:=mem_ready.1 hn;simp[E] at hy
  | some o =>
   obtain ⟨hq,v,hv,hx⟩:=h;rw[Zp E] at hq hv hx;have hz:∀(j:Nat) (o:Oper) cs b,all[j]?=some o→o.op≠.select cs b:=λj o cs b hj=>Region.noSelect_spec hs j o cs b (by simpa using hj);have h5:=λk ok hk=>Region.free_spec (ops:=all.toArray) (md:=.any) (i:=j) (oi:=o) (listed:=ls) (by simpa using E) hf k ok (by simpa using hk)
   exact Xg (v:=v) (D:=λw=>zl o=true→C w) E (λ_ h=>h) hz _ ls f w (λ_=>hC) h5 hn (.inl ⟨hq,hv⟩) (Qh0 G hs J hd l _ own _ w (by simpa using V) hh hl (by have:=Kc (v:=v) H.1 S;rw[Zp E] at this;exact this) hx hC Y he)
 | (j,false)::l,ls,own,f,w,V,hfr,H,S,h,hC,Y,hp=>by
  simp only[qN,Bool.and_eq_true,List.all_eq_true,Bool.or_eq_true,beq_iff_eq,Bool.not_eq_true'] at hp;obtain ⟨⟨⟨ht,I⟩,h6⟩,he⟩:=hp;have e:(List.length ((j,false)::l))+1+rest.length=(l.length+1+rest.length)+1:=by simp;omega
  rw[e];have hh:Ye all d l=true:=by simp only[Ye,List.all_cons,Bool.and_eq_true] at hfr;exact hfr.2
  simp only[Ya,List.all_cons,Bool.and_eq_true] at H;have hl:Ya all Dc l=true:=H.2;refine JM (λh0=>(by rw[h0] at ht;cases ht)) ?_;intro k hk o E;have ha:=Zp E;have hu:(ls.setIfInBounds k true).size=all.length:=by simpa using V
  by_cases hc:k=i
  ·subst hc;have hx:=G.spec f w S hC;rw[ha] at J hd hx;rw[VA J,cond_true];refine hx.mono λv w' hx=>?_;rw[hd] at hx ⊢;obtain ⟨h1,h2,h3,h4⟩:=hx;simp only[QV,YL] at h3 h4;refine ⟨.inr (.inr h2),?_⟩;have hx:=q9 G hs ((j,false)::l) own f w' hfr (XF.ext G.mono h h1) h2 h3 (λb hb=>⟨λhm=>Nat.lt_irrefl _ (L2 (Y b hm) (h4 b hb).1),(h4 b hb).2⟩)
   have:=ZD hs ((j,false)::(l++rest)) _ _ _ hu (.inl h2) h6 hx;rw[show ((j,false)::(l++rest)).length=l.length+1+rest.length by simp;omega] at this;exact this
  have h7:k=j:=(I k hk).resolve_right hc;subst h7;have h1:=h.1;have h2:=h.2 w (Step.refl _ _) hC;rw[ha] at h1 h2;rw[h1,cond_true];refine h2.mono λv w' hx=>?_;obtain ⟨hw,own',h8,h9,hx⟩:=hx;refine ⟨.inr (.inr hw),Qh0 G hs J hd l _ own' _ w' hu hh hl (by have:=Kc (v:=v) H.1 S;rw[ha] at this;exact this) hx hw (λb hb=>?_) he⟩;rcases h9 b hb with h3 | h3
  ·exact L2 (Y b h3) h8.size
  exact h3.2
theorem Qkf {ro:Option Nat}{m:Nat}{ds:LN}{Q:Exit→LN→Fr→World→Prop}{id:Nat}(C:World→Prop) (pre l:List (Nat×Bool)) (i d:Nat) (rest:List (Nat×Bool)) (own:LN) (KF:Fr→World→Prop) (Φ:Value→World→Prop) (Dc:List (Nat×Nat)) (hm:P.follows .mixedOrders=true) (H:X7 n all=true) (I:Qad all=true)
  (hp:Qg6 all pre l i rest=true) (J:Ya all Dc l=true) (hd:(Q6 all i).dst=some d) (hC:C { w with drawn:=w.drawn+1 }) (S:∀b∈own,b<w.heap.size)
  (h:XP P all C (λf1 _=>Fl P all C (λf w=>Q .normal ds f w) KF i d rest Φ Dc f1∧XF P all C KF l own f1 { w with drawn:=w.drawn+1 }) pre f { w with drawn:=w.drawn+1 }):WG ro m P n (.region id all.toArray true) Q ds f w:=by
 unfold WG;intro a ha;simp only[Qg6,Bool.and_eq_true,beq_iff_eq,Option.isNone_iff_eq_none] at hp;obtain ⟨⟨⟨⟨⟨hs,hl⟩,hq⟩,V⟩,Y⟩,hfr⟩:=hp;rw[hd] at hfr;refine wpIn_region_any hm ?_;have h1:=YU (K:=λf w=>Q .normal ds f w) (m:=l.length+1+rest.length) hs pre (Array.replicate all.length false) f _ hC hq
  (λf1 G=>Qh0 G.1 hs Y hd l (Z3 pre (Array.replicate all.length false)) own f1 _ (by rw[YW];simp) hfr J (λ_ _=>rfl) G.2 hC S V) h
 rw[hl] at h1;have h2:=U3 (ro:=ro) (m:=m) (n:=n) (ds:=ds) (Q:=λe a' w'=>∃ds' E,YF n ds' a' E∧(∀t,ZK all t=false→E t=f t)∧Q e ds' E w') (YP H) (KW I) f
  (λa E w hr hk hq=>⟨ds,E,hr,hk,hq⟩) _ _ a f _ ha (λ_ _=>O) h1
 simpa[Xj] using h2
theorem XP.keeps_mono {K':Fr→World→Prop}:∀(l:List (Nat×Bool)) (f:Fr) (w:World),XP P all C K l f w→(∀f w,K f w→K' f w)→XP P all C K' l f w
 | [],f,w,h,hk=>by simp only[XP] at h ⊢;exact hk _ _ h
 | (j,q)::l,f,w,h,hk=>by
  simp only[XP] at h ⊢;cases E:Yk all f (Q6 all j) with
  | false=>rw[E] at h;exact XP.keeps_mono l _ _ h hk
  | true =>
   rw[E] at h;cases q with
   | true=>obtain ⟨v,G,hx⟩:=h;exact ⟨v,G,XP.keeps_mono l _ _ hx hk⟩
   | false=>exact XO.mono (λv w' hx=>⟨hx.1,XP.keeps_mono l _ _ hx.2 hk⟩) h
theorem XP.keeps {D:List (Nat×Nat)}{f0:Fr}:∀(l:List (Nat×Bool)) (f:Fr) (w:World),Ya all D l=true→(∀t,XC D t=false→f t=f0 t)→XP P all C K l f w→XP P all C (λH w'=>(∀t,XC D t=false→H t=f0 t)∧K H w') l f w
 | [],f,w,_,E,h=>by simp only[XP] at h ⊢;exact ⟨E,h⟩
 | (j,q)::l,f,w,hd,E,h=>by
  simp only[Ya,List.all_cons,Bool.and_eq_true] at hd;have G:Ya all D l=true:=hd.2;simp only[XP] at h ⊢;cases I:Yk all f (Q6 all j) with
  | false=>rw[I] at h;exact XP.keeps l _ _ G (Kc hd.1 E) h
  | true =>
   rw[I] at h;cases q with
   | true=>obtain ⟨v,J,hx⟩:=h;exact ⟨v,J,XP.keeps l _ _ G (Kc hd.1 E) hx⟩
   | false=>exact XO.mono (λv w' hx=>⟨hx.1,XP.keeps l _ _ G (Kc hd.1 E) hx.2⟩) h
theorem XF.keeps {D:List (Nat×Nat)}{f0:Fr}:∀(l:List (Nat×Bool)) (own:LN) (f:Fr) (w:World),Ya all D l=true→(∀t,XC D t=false→f t=f0 t)→XF P all C K l own f w→XF P all C (λG w'=>(∀t,XC D t=false→G t=f0 t)∧K G w') l own f w
 | [],own,f,w,_,E,h=>⟨E,h⟩
 | (j,true)::l,own,f,w,hd,E,h=>by
  simp only[Ya,List.all_cons,Bool.and_eq_true] at hd;obtain ⟨H,v,I,hx⟩:=h;exact ⟨H,v,I,XF.keeps l own _ _ hd.2 (Kc hd.1 E) hx⟩
 | (j,false)::l,own,f,w,hd,E,h=>by
  simp only[Ya,List.all_cons,Bool.and_eq_true] at hd;refine ⟨h.1,λJ h1 hc=>XO.mono (λv w' hx=>?_) (h.2 J h1 hc)⟩;obtain ⟨S,own',V,Y,hx⟩:=hx;exact ⟨S,own',V,Y,XF.keeps l own' _ _ hd.2 (Kc hd.1 E) hx⟩
theorem Qid {ro:Option Nat}{m:Nat}{ds:LN}{Q:Exit→LN→Fr→World→Prop}{id:Nat}{α:Type}(C:World→Prop) (pre l:List (Nat×Bool)) (i d:Nat) (rest:List (Nat×Bool)) (own:LN) (D Dc:List (Nat×Nat)) (S:α→List (Nat×Value)) (I:α→World→Prop) (Φ:Value→World→Prop) (hm:P.follows .mixedOrders=true) (J:X7 n all=true) (V:Qad all=true)
  (hp:Qg6 all pre l i rest=true) (G:(Ya all D pre && Ya all D l && Ya all Dc l)=true) (hd:(Q6 all i).dst=some d) (hC:C { w with drawn:=w.drawn+1 }) (Y:∀b∈own,b<w.heap.size)
  (stab:∀v (own:LN) w w',Φ v w→Step own w w'→(∀b∈ow v,b∉own)→Φ v w') (mono:∀z w w',I z w→Step [] w w'→I z w')
  (fin:∀z g w v,I z w→C w→Φ v w→XP P all C (λf w=>Q .normal ds f w) rest (QV (yy (S z) (mix D f g)) (some d) v) w)
  (h:XP P all C (λf1 _=>(∀g w,C w→XO P (Q6 all i) (mix Dc f1 g) w λE w'=>Step [] w w'∧C w'∧Φ (E d) w'∧∀b∈ow (E d),w.heap.size≤b∧b<w'.heap.size)∧XF P all C (λE w'=>∃z,XK E (S z)∧I z w') l own f1 { w with drawn:=w.drawn+1 }) pre f { w with drawn:=w.drawn+1 }):WG ro m P n (.region id all.toArray true) Q ds f w:=by
 rw[Lv,Lv] at G;refine Qkf C pre l i d rest own (λE w'=>(∀t,XC D t=false→E t=f t)∧∃z,XK E (S z)∧I z w') Φ Dc hm J V hp G.2 hd hC Y ?_;refine XP.keeps_mono _ _ _ (XP.keeps pre f _ G.1.1 (λ_ _=>O) h) (λf1 w1 hx=>⟨⟨stab,?_,?_,?_⟩,XF.keeps l own _ _ G.1.2 hx.1 hx.2.2⟩)
 ·intro E w' hk H;have:=hx.2.1 E w' H;rw[J8 hk] at this;exact this
 ·rintro E w' ⟨hk,z,hs,hi⟩ v H hv;have:=fin z E w' v hi H hv;rw[J8 hk,Y1 hs] at this;exact this
 rintro E w' hb ⟨hk,z,hs,hi⟩ ha;exact ⟨hk,z,hs,mono z _ _ hi ha⟩
theorem fp {j:Nat}{l:List (Nat×Bool)}{own:LN}{v:Value}(E:∀w',(execOp (ev f) (Q6 all j)).run P w'=.ok (.value v) w') (h:XF P all C K l own (QV f (Q6 all j).dst v) w)
  (G:Yk all f (Q6 all j)=true:=by rfl):XF P all C K ((j,true)::l) own f w:=⟨G,v,λw' _=>E w',h⟩
theorem fk {j:Nat}{l:List (Nat×Bool)}{own:LN}(h:∀w1,Step [] w w1→C w1→XO P (Q6 all j) f w1 λE w'=>C w'∧∃own',Step own w1 w'∧(∀b∈own',b∈own∨(w1.heap.size≤b∧b<w'.heap.size))∧XF P all C K l own' E w')
  (G:Yk all f (Q6 all j)=true:=by rfl):XF P all C K ((j,false)::l) own f w:=⟨G,h⟩
theorem fe {own:LN}(h:K f w):XF P all C K [] own f w:=h
end
attribute [irreducible] XF
end Go.Lg
namespace Go.Proofs.YtdffckgdcegpaaaGreatDoor
open Go.Proofs.Tryz
open Go.Lg
instance:Bw prog 77 [nS,.int .i64 0,nS,nS,nS,nS,nS,nS] [(0,4),(4,1),(5,1),(6,1),(7,1)]:=⟨by kernel_rfl,by decide⟩
def spF (c:Q8) (pl:QN) (ps:List (LI)) (l:List (LI)):List Rsn:=l.zipIdx.filterMap (λp=>rsn c pl (plx ps (p.1.take c.co.length)) p.2 p.1)
theorem QfF {c:Q8}{pl:QN}{ps:List (LI)}{l:List (LI)}{k:Nat}(h:k<l.length):spF c pl ps (l.take (k+1))=spF c pl ps (l.take k)++(rsn c pl (plx ps ((l[k]'h).take c.co.length)) k (l[k]'h)).toList:=by
 unfold spF;rw[Li h,List.zipIdx_append,List.filterMap_append];have e:0+(l.take k).length=k:=by rw[Lx];omega
 rw[e];simp only[List.zipIdx_cons,List.zipIdx_nil,List.filterMap_cons,List.filterMap_nil];cases rsn c pl (plx ps ((l[k]'h).take c.co.length)) k (l[k]'h) <;> rfl
theorem QcK (c:Q8) (pl:QN) (ps:List (LI)) (l:List (LI)):(spF c pl ps l).length≤l.length:=by
 unfold spF;refine LS (List.length_filterMap_le _ _) ?_;rw[List.length_zipIdx];exact Lt _
theorem yE {c:Q8}{pl sa:QN}{ps ts:List (LI)}(hp:sync (auts c.co)=some (pl,ps)) (hs:sync (auts c.co++auts c.rq)=some (sa,ts)) :
  spc c=⟨sa,ts.map (·.take c.co.length),ts.map (·.drop c.co.length),ts.map (λt=>plx ps (t.take c.co.length)),spF c pl ps ts⟩:=by
 unfold spc XN YV;rw[hp,hs];simp only[];rw[zL];simp[spF]
theorem QhG {n:Nat}{u:LI}{s:List ByteArray}{x:Yp}(h:Z5 n u s x=0):x.a.st≠0:=by
 unfold Z5 at h;split at h
 ·cases h
 split at h
 ·cases h
 split at h
 ·rename_i h1 h2;exact absurd h h2
 split at h
 ·cases h
 split at h
 ·cases h
 assumption
theorem QaQ {n:Nat}{al:LI}:∀{l:List Yp}{s:List ByteArray}{u:LI},(Z9 n al s u l).1=0→∀x∈l,x.a.st≠0
 | [],_,_,_,x,hx=>by cases hx
 | y::l,s,u,h,x,hx=>by
  rw[K1] at h;by_cases h1:Z5 n al s y≠0
  ·rw[if_pos h1] at h;exact absurd h h1
  rw[if_neg h1] at h;have h2:Z5 n al s y=0:=Ls.1 h1;rcases Lb.1 hx with rfl | hx
  ·exact QhG h2
  exact QaQ h x hx
theorem QhH {c:Q8}(h:Zb c=0):∀x∈c.co,x.a.st≠0:=by
 unfold Zb at h;by_cases h1:Je c.ev≠0
 ·rw[if_pos h1] at h;exact absurd h h1
 rw[if_neg h1] at h;by_cases h2:c.co.length=0
 ·rw[if_pos h2] at h;cases h
 rw[if_neg h2] at h;by_cases h3:8<c.co.length∨12<c.co.length+c.rq.length
 ·rw[if_pos h3] at h;cases h
 rw[if_neg h3] at h;by_cases E:(Z9 c.ev.length (JY c.ev.length) [] [] c.co).1≠0
 ·rw[if_pos E] at h;exact absurd h E
 exact QaQ (Ls.1 E)
theorem Qaa {c:Q8}(h:Zb c=0) {A:QN}{Q:List (LI)}(hs:sync (auts c.co)=some (A,Q)):Q2 A∧A.st=(Q.length:Int)∧0<Q.length∧∀e∈A.al,0≤e∧e<(c.ev.length:Int):=by
 have E:=ZU h;have G:=Yo E.co;have hsp:=Yj G hs;refine ⟨hsp.1.okay G,hsp.1.st,?_,λe he=>?_⟩
 ·refine Nat.pos_of_ne_zero λH=>?_;obtain ⟨a,ha,h1⟩:=hsp.2.1 H;obtain ⟨x,hx,rfl⟩:=Lp.1 ha;exact QhH h x hx h1
 rw[hsp.1.al] at he;obtain ⟨a,ha,h1⟩:=(Yn G e).1 he;obtain ⟨x,hx,rfl⟩:=Lp.1 ha;exact ⟨((E.co x hx).al e h1).1,E.ce x hx e h1⟩
theorem QfY {Q:List (LI)}(h:0<Q.length) (t:LI):0≤plx Q t∧plx Q t<(Q.length:Int):=by
 unfold plx;split
 ·rename_i hm;have:=LZ hm;omega
 omega
theorem Vt.take {a b:List QN}{t:LI}(h:Vt (a++b) t):Vt a (t.take a.length):=by
 have hl:=h.1;rw[Lh] at hl;refine ⟨by rw[Lx];omega,λi h1 h2=>?_⟩;have:=h.2 i (by omega) (by rw[Lh];omega);rw[Mc h2] at this;rw[M6];exact this
theorem Vt.drop {a b:List QN}{t:LI}(h:Vt (a++b) t):Vt b (t.drop a.length):=by
 have hl:=h.1;rw[Lh] at hl;refine ⟨by rw[Mq];omega,λi h1 h2=>?_⟩;have:=h.2 (a.length+i) (by omega) (by rw[Lh];omega);rw[MQ (by omega)] at this;rw[List.getElem_drop];simpa using this
theorem Vt.tpOk {l:List Yp}{t:LI}(h:Vt (auts l) t):Qkb (szs l) t:=by
 have hl:=h.1;unfold auts at hl;rw[Le] at hl;refine ⟨by unfold szs;rw[Le];exact hl,λi hi=>?_⟩;have h1:=h.2 i hi (by unfold auts;rw[Le];omega);have E:i<(szs l).length:=by unfold szs;rw[Le];omega
 rw[←Za hi,←Za E];unfold auts szs at *;simpa using h1
theorem Jv.add {base G T:Nat}{W H I J:World}{S V Y E v' c0 c1 c2 c3:Value}{cos rqs:List TV}{pls:LI}{fbs:List Rsn}{q:Rsn}(hB:QZ W.heap G T [c0,c1,c2,c3,S,V,Y,E]) (hS:Jv base W S V Y E cos rqs pls fbs) (ha:G<base) (h1:Step [] W H)
  (ho:I.ownsRow base 83 4 v' (fbs.length+1) (fbs.flatMap Zy++Zy q)) (h2:Step (ob E) H I) (hn:∀b∈ob v',b∈ob E∨H.heap.size≤b) (h3:Step [G] I J) :
  Step (G::ob E) W J∧Jv base J S V Y v' cos rqs pls (fbs++[q])∧(∀x∈G::ob E,∃o:Obj,W.heap[x]?=some o∧o.isCells=true):=by
 refine ⟨((h1.any).trans' (h2.mono λx hx=>Lk _ hx)).trans' (h3.mono λx hx=>?_),(hS.a4 h1 ho h2 hn).low h3 (λx hx=>?_),λx hx=>?_⟩
 ·simp only[List.mem_singleton] at hx;subst hx;exact Lm
 ·simp only[List.mem_singleton] at hx;subst hx;exact ha
 rcases Lb.1 hx with rfl | hx
 ·exact hB.cells
 exact Go.Lg.Q0 hS.o4 x hx
set_option maxHeartbeats 40000000 in
theorem JN {L:LN}{w:World}{c:CL}(h0:ZF L w.heap c) (my:Kb w 4096) :
  QK prog 27 [c.val] w λr w'=>Step [] w w'∧∃v,r=.tuple #[v,.int .i64 (Yz c.cel)]∧(∃us,v=.agg us.toArray∧us.length=8∧ZQ us)∧(Yz c.cel=0→QnW w.heap.size w'.heap v (spc c.cel)):=by
 have h:=h0.up (L':=[]) (by simp);refine Zc (Yz c.cel) λE hE=>?_;refine QK.of_G 20 func27 O ntmps27 results27 (by simp) ?_;refine QY<|QJ (by rfl) (by rfl) ?_;refine xl rfl<|QS (us:=c.cells) O λb1 w1 hG hb1 mz=>xl O<|Qt (us:=[nS,.int .i64 0,nS,nS,nS,nS,nS,nS]) O λb2 w2 h6 hb2 gx=>Qe ?_;have kh:=hG.trans h6;have hz1:=hG.size;have hz2:=h6.size;have m0:=mz.lt;have ki:=gx.lt
 have m1:=mz.ext h6;refine QY<|QJ (by rfl) (by rfl) ?_;refine x (Qr m1 O O)<|xl O<|xf<|(QaW (h.ext kh) (my.ext kh)).mono ?_;rintro r3 w3 ⟨h7,vp,rfl,z1,m2⟩;rw[hE] at z1 m2 ⊢;have kj:=kh.trans h7;refine Qb<|x (Qk O O)<|x (Qk O O)<|x Qg<|Qe<|QY<|QY<|QJ (by rfl) (by rfl) ?_;refine Qb<|x (Q9 O O)<|xe<|Qke O (λkk=>?_) (λkk=>?_)
 ·refine QY<|QJ (by rfl) (by rfl) ?_
  refine x (ZY [] U)<|Qb<|xl O<|Qo (us:=[nS,.int .i64 0,nS,nS,nS,nS,nS,nS]) (gx.ext h7) O O O O ⟨O,O,O,O,O,O,O,O,U⟩ λw4 hN z2=>Qe<|Ko ⟨λ_ h=>(by cases h),MH,[.agg [nS,.int .i64 0,nS,nS,nS,nS,nS,nS].toArray,.int .i64 E],λW' hO=>⟨⟨⟨_,rfl,Qv rfl ((z2.ext hO).at (L:=[]) (by simp)).cells⟩,rfl,U⟩,(kj.then1 hN (by omega)).trans hO,_,rfl,⟨_,rfl,rfl,rfl,rfl,rfl,rfl,rfl,rfl,rfl,rfl,U⟩,λe=>absurd e kk⟩⟩
 have m3:E=0:=Ls.1 kk;obtain ⟨b,q,rfl,rfl,hQ,ho,z3⟩:=m2 m3;refine Yg ?_;have hlb:=ho.B.lt;refine QY<|QJ (by rfl) (by rfl) ?_;refine Qb<|x (QE O)<|x (Qa O)<|x (Ys (us:=Zk q.s) ho.B O O O)<|x (ZY [(0,Zk q.s)] ⟨O,O,U⟩)<|xl O<|Qt (us:=[nS,.int .i64 0,nS,nS,nS,nS,nS,nS]) O λG w5 hZ kn h8 =>
  xl rfl<|Qo (us:=[q.s.va,.int .i64 q.s.a.st,q.s.vm,q.s.ve,nS,nS,nS,nS]) h8 O O O O ⟨ho.s.al.one,O,ho.s.mr.one,ho.s.ed.one,O,O,O,O,U⟩ λH gy h8=>xe ?_
 have gz:Step [] w3 H:=hZ.then1 gy kn;have ko:=h8.lt;have m4:=ho.ext gz;have hs06:=kj.trans gz;have hz3:=h7.size;have hz36:=gz.size;refine QY<|QY<|QJ (by rfl) (by rfl) ?_;refine Qb<|x (QE O)<|x (Qa O)<|x (Qd m4.B O O)<|x (Qs m4.ts.arr O)<|Qb<|xe ?_;have m5:=(UL (λa ha=>by
  rcases Lj.1 ha with ha | ha
  ·exact Yo (ZU hQ.ok).co a ha
  exact Yo (ZU hQ.ok).rq a ha) hQ.s)
 have kp:=m5.1;have m6:=m5.2;simp only[] at kp m6;have ga:=ZU hQ.ok;have hckc:=ga.c8;have gb:q.c.cel.co.length=q.c.co.length:=Le ..;have z4:q.c.cel.rq.length=q.c.rq.length:=Le ..;have hcr:=ga.cr;have z5:(auts q.c.cel.co++auts q.c.cel.rq).length=q.c.co.length+q.c.rq.length:=by rw[Lh];unfold auts;rw[Le,Le,gb,z4]
 refine Zc (q.ts.map (·.2)) λT hT=>?_;rw[hT] at kp m6;have hTn:q.ts.length=T.length:=by rw[←hT,Le]
 refine ZI<|Ui (α:=Nat×(Value×Value×Value×Value)×List TV×List TV×LI) [(7,17),(37,99),(100,118)] (λz=>[(37,.int .i64 z.1)]) (λz ds W'=>z.1≤q.ts.length∧Step [G] H W'∧VT H.heap.size W'.heap.size ds W'∧QZ W'.heap G 77 [q.s.va,.int .i64 q.s.a.st,q.s.vm,q.s.ve,z.2.1.1,z.2.1.2.1,z.2.1.2.2.1,z.2.1.2.2.2] ∧
  Jv H.heap.size W' z.2.1.1 z.2.1.2.1 z.2.1.2.2.1 z.2.1.2.2.2 z.2.2.1 z.2.2.2.1 z.2.2.2.2 (spF q.c.cel q.p.a (q.qs.map (·.2)) (T.take z.1))∧z.2.2.1.map (·.2)=(T.take z.1).map (·.take q.c.co.length)∧z.2.2.2.1.map (·.2)=(T.take z.1).map (·.drop q.c.co.length)∧z.2.2.2.2=(T.take z.1).map (λt=>plx (q.qs.map (·.2)) (t.take q.c.co.length)))
  (λz=>q.ts.length - z.1) (by rfl) (0,(nS,nS,nS,nS),[],[],[]) Z
  ⟨Ll _,Step.refl _ _,⟨MH,λD hD=>by cases hD⟩,h8,Jv.nil _ _,rfl,rfl,rfl⟩ ?_
 rintro ⟨k,⟨v1,v2,v3,I⟩,cos,rqs,pls⟩ g ds w7 ⟨hk,kq,m7,kr,J,gi,gj,gk⟩;simp only[] at hk kr J gi gj gk;have gl:Step [] w3 w7:=gz.then1 kq kn;have kt:=kj.trans gl;have hz7:=kq.size;have g0:(T.take k).length=k:=by rw[Lx];omega
 have hcosl:cos.length=k:=by have:=congrArg List.length gi;rw[Le,Le,g0] at this;exact this
 have hrqsl:rqs.length=k:=by have:=congrArg List.length gj;rw[Le,Le,g0] at this;exact this
 have hplsl:pls.length=k:=by rw[gk,Le,g0]
 have m8:=QcK q.c.cel q.p.a (q.qs.map (·.2)) (T.take k);rw[g0] at m8;refine Zc (spF q.c.cel q.p.a (q.qs.map (·.2)) (T.take k)) λfbs g2=>?_;rw[g2] at J m8;have l7:=J.lt;refine Zc (ob v1++(ob v2++(ob v3++ob I))) λav gm=>?_;have gc:∀x∈av,H.heap.size≤x∧x<w7.heap.size:=λx hx=>by
  rw[←gm] at hx;rcases Qak hx with h1 | h1 | h1 | h1
  ·exact Qm J.o1 x h1
  ·exact Qm J.o2 x h1
  ·exact Qm J.o3 x h1
  exact Qm J.o4 x h1
 have g3:G∉av:=λhm=>by have:=(gc G hm).1;omega
 have ku:∀x∈av,x∈G::av:=λx hx=>Lk _ hx;have g4:XY (G::av) b w7.heap q:=(ho.up (λx hx=>.inr (by
  rcases Lb.1 hx with rfl | hx
  ·exact kn
  have:=(gc x hx).1;omega))).ext gl
 refine QY<|QJ (by rfl) (by rfl) ?_;refine x (QB O O)<|xe<|QY<|yu O (λkv=>?_) (λkv=>?_)
 ·refine Kp ?_;have hke:q.ts.length≤k:=by have z9:¬(k:Int)<(q.ts.length:Int):=kv;omega
  rw[Lo (by omega)] at gi gj gk g2;have hsp:=yE hQ.p hQ.s;rw[hT,gb,←gi,←gj,←gk,g2] at hsp;have m9:=h7.trans gl;refine QY<|QJ (by rfl) (by rfl) ?_
  refine x (Qr kr O O)<|xl O<|Qo (us:=[q.s.va,.int .i64 q.s.a.st,q.s.vm,q.s.ve,v1,v2,v3,I]) (gx.ext m9) O O O O ⟨ho.s.al.one,O,ho.s.mr.one,ho.s.ed.one,QH J.o1,QH J.o2,QH J.o3,QH J.o4,U⟩ λw8 g5 hB8=>Qe ?_;have hb2w:b2<H.heap.size:=by omega
  have gn:VT H.heap.size w7.heap.size ds w8:=m7.blk g5 (gx.ext m9);have hb2d:b2∉ds:=λhm=>by have:=(gn.2 b2 hm).1;omega
  have hS8:=J.low g5 (λx hx=>by simp only[List.mem_singleton] at hx;subst hx;exact hb2w);refine Ko ⟨λD hD=>(gn.2 D hD).2.2,gn.1,[.agg [q.s.va,.int .i64 q.s.a.st,q.s.vm,q.s.ve,v1,v2,v3,I].toArray,.int .i64 E],λW' hO=>?_⟩;have g6:Lg.Xr [] w8 W':=Lg.Xr.nonc hO (λD hD=>⟨_,(gn.2 D hD).2.2,O⟩);have ge:=hO.size;have hA:=hS8.cst g6 ge
  refine ⟨⟨⟨_,O,Qv O ((hB8.step hO hb2d).at (L:=[]) (by simp)).cells⟩,congrArg (Value.int .i64) m3.symm,U⟩,(kt.then1 g5 (by omega)).then hO (λD hD=>.inr (by have:=(gn.2 D hD).1;omega)),_,O,⟨_,O,O,ho.s.al.one,O,ho.s.mr.one,ho.s.ed.one,QH J.o1,QH J.o2,QH J.o3,QH J.o4,U⟩,λ_=>?_⟩;have hl9:pls.length≤1099511627776:=by omega
  have hl8:fbs.length≤1099511627776:=by omega
  rw[hsp];refine ⟨q.s.va,q.s.vm,q.s.ve,v1,v2,v3,I,cos,rqs,O,O,O,λL hL=>⟨?_,⟨QU hA.o1 (by omega) (λx hx hm=>?_),λp hp=>hA.e1 p hp L (λx hx=>?_)⟩,⟨QU hA.o2 (by omega) (λx hx hm=>?_),λp hp=>hA.e2 p hp L (λx hx=>?_)⟩,QU hA.o3 hl9 (λx hx hm=>?_),QU hA.o4 hl8 (λx hx hm=>?_)⟩⟩
  ·have h1:=((z3 (b2::L) (λx hx=>by
    rcases Lb.1 hx with rfl | hx
    ·exact ki
    have:=hL x hx;omega)).1.ext gl).st (g5.mono (λx hx=>by simp only[List.mem_singleton] at hx;subst hx;exact Lm))
   have h2:=h1.up (L':=L) (λx hx=>.inl (Lk _ hx));exact ⟨h2.al.cst (g6.mono (by simp)) ge,h2.mr.cst (g6.mono (by simp)) ge,h2.ed.cst (g6.mono (by simp)) ge⟩
  ·have:=(Qm hA.o1 x hx).1;have:=hL x hm;omega
  ·exact .inl (by have:=hL x hx;omega)
  ·have:=(Qm hA.o2 x hx).1;have:=hL x hm;omega
  ·exact .inl (by have:=hL x hx;omega)
  ·have:=(Qm hA.o3 x hx).1;have:=hL x hm;omega
  have:=(Qm hA.o4 x hx).1;have:=hL x hm;omega
 have go:k<q.ts.length:=by have z9:(k:Int)<(q.ts.length:Int):=kv;omega
 have gp:k<T.length:=by omega
 have pa:=Lc go;have hTe:T[k]'gp=(q.ts[k]'go).2:=by subst hT;simp
 have hr:=QfF (c:=q.c.cel) (pl:=q.p.a) (ps:=q.qs.map (·.2)) gp;have gq:T.take (k+1)=T.take k++[T[k]'gp]:=Li gp;have gg:=kp _ (Lc gp);rw[g2] at hr;rw[hTe] at hr gq gg;refine Yg ?_
 refine QdV (α:=(Value×Value×Value×Value)×List TV×List TV×LI) [(7,17),(38,117)] (λz=>[(37,.int .i64 k)]) (λz hR W'=>Step [G] H W'∧VT H.heap.size W'.heap.size hR W'∧QZ W'.heap G 77 [q.s.va,.int .i64 q.s.a.st,q.s.vm,q.s.ve,z.1.1,z.1.2.1,z.1.2.2.1,z.1.2.2.2] ∧
  Jv H.heap.size W' z.1.1 z.1.2.1 z.1.2.2.1 z.1.2.2.2 z.2.1 z.2.2.1 z.2.2.2 (spF q.c.cel q.p.a (q.qs.map (·.2)) (T.take (k+1)))∧z.2.1.map (·.2)=(T.take (k+1)).map (·.take q.c.co.length)∧z.2.2.1.map (·.2)=(T.take (k+1)).map (·.drop q.c.co.length)∧z.2.2.2=(T.take (k+1)).map (λt=>plx (q.qs.map (·.2)) (t.take q.c.co.length))) (by rfl) ?_ ?_
 rotate_left
 ·rintro ⟨⟨u1,u2,u3,u4⟩,cos',rqs',pls'⟩ g hR W ⟨hsW,hDW,hBW,hSW,h1,h2,h3⟩;refine QJ (by rfl) (by rfl) ?_;refine QO O O<|Qb<|xe ?_;exact ⟨(k+1,(u1,u2,u3,u4),cos',rqs',pls'),by simp only[];omega,Z,go,hsW,hDW,hBW,hSW,h1,h2,h3⟩
 refine ZI<|QY<|QJ (by rfl) (by rfl) ?_;refine Qb<|xig (g:=Yc) KN g4.ts.arr O O go λa40 pc=>?_;refine Zc (q.ts[k]'go) λt ht=>?_;rw[ht] at pc pa hr gq gg;have htI:=g4.ts.each t pa;have htl:t.2.length=q.c.co.length+q.c.rq.length:=by rw[gg.1,z5]
 refine x (Qw pc O)<|xl O<|Qt (us:=[.int .i64 0]) O λb7 w9 hs9 hb7 hB9=>xl O<|QF (j:=0) (u:=.int .i64 k) hB9 O O (by decide) O λw10 pd pf =>
  Qe ?_
 have kw:Step [] w7 w10:=hs9.then1 pd hb7;refine QY<|QJ (by rfl) (by rfl) ?_;refine Qb<|Qb<|xl O<|xf<|(jZ (g4.ext kw) (htI.ext kw) (by omega)).mono ?_;rintro r11 pg ⟨ph,v9,pj,rfl,hJ,hw⟩;refine Qb<|x (Qk O O)<|x (Qk O O)<|x Qg<|Qe ?_;have kx:=kw.trans ph;have ky:=g4.ext kx;refine Zc (t.2.take q.c.co.length) λtc hU=>?_;refine Zc (t.2.drop q.c.co.length) λtr gr=>?_
 rw[gb] at hr;rw[hU] at hJ hr;rw[gr] at hw;have htcl:tc.length=q.c.co.length:=by rw[←hU,Lx];omega
 have htrl:tr.length=q.c.rq.length:=by rw[←gr,Mq];omega
 have hbdt:=gg.bd (m:=4096) (λa ha=>by
  rcases Lj.1 ha with ha | ha
  ·exact (Yo ga.co a ha).st1
  exact (Yo ga.rq a ha).st1)
 have pm:∀x∈tc,0≤x∧x<4096:=λx hx=>hbdt x (LT (by rw[hU];exact hx));refine QY<|zi (Step [] pg) [(0,true),(1,true),(2,true),(3,true),(4,true),(5,false),(6,true),(7,true)] mixed (by rfl) (by rfl) (by kernel_rfl) (Step.drew _ _) ?_
 refine p (λ_=>Qp)<|p (λ_=>QE O)<|p (λ_=>Qa O)<|pq (λ_ hc=>Qd (ky.B.ext hc) O O)<|p (λ_=>Qp)<|pk<|xf<|(jB (hJ.ext (Step.drew _ _)) ((my.ext (kt.trans kx)).ext (Step.drew _ _)) pm (by omega)).mono ?_;rintro r12 Y ⟨rfl,hs12⟩;have gh:=(Step.drew [] pg).trans hs12;refine ⟨gh,?_⟩
 have pn:(match mget q.mm (JW tc) with | some u=>u | none=>.int .i64 0)=Value.int .i64 (plx (q.qs.map (·.2)) tc):=by
  rw[hQ.m tc htcl (λx hx=>(pm x hx).1)];unfold plx;by_cases hm:tc∈q.qs.map (·.2)
  ·rw[if_pos hm,if_pos hm]
  rw[if_neg hm,if_neg hm]
 refine Zc (plx (q.qs.map (·.2)) tc) λpi kz=>?_;rw[kz] at pn hr;refine pq (λ_ hc=>(Jj (k:=JW tc) (ky.m.ext hc) O O).trans (congrArg (λv=>Result.ok (Next.value v) _) pn))<|p (λ_=>Qg)<|pe ?_;have hY:=kx.trans gh;have hs012:=kt.trans hY;have hJ:=hJ.ext gh;have hw:=hw.ext gh;have h8:=kr.ext hY;have gs:=J.ext hY;have hS12d:=gs.ext (Step.drew [] Y)
 have hz712:=hY.size;have hzd:({ Y with drawn:=Y.drawn+1 }:World).heap.size=Y.heap.size:=rfl
 have hC0:Step av Y { Y with drawn:=Y.drawn+1 }:=Step.drew _ _
 have fin:∀{hf hg hq hh hj:Value} {wx wy:World},Step av Y wx→Jv H.heap.size wx hf hg hq I (cos++[(hh,tc)]) (rqs++[(hj,tr)]) (pls++[pi]) fbs→Step [G] wx wy→QZ wy.heap G 77 [q.s.va,.int .i64 q.s.a.st,q.s.vm,q.s.ve,hf,hg,hq,I] →
   Step (G::av) Y wy∧QZ wy.heap G 77 [q.s.va,.int .i64 q.s.a.st,q.s.vm,q.s.ve,hf,hg,hq,I]∧Jv H.heap.size wy hf hg hq I (cos++[(hh,tc)]) (rqs++[(hj,tr)]) (pls++[pi]) fbs:=λhC hP hs hB =>
  ⟨(hC.mono ku).trans' (hs.mono (λx hx=>by simp only[List.mem_singleton] at hx;subst hx;exact Lm)),hB,hP.low hs (λx hx=>by simp only[List.mem_singleton] at hx;subst hx;exact ko)⟩
 have hkl:k≤4096:=by omega
 have htc16:tc.length≤16:=by omega
 have htr16:tr.length≤16:=by omega
 have htc40:tc.length≤1099511627776:=by omega
 have htr40:tr.length≤1099511627776:=by omega
 have m0:cos.length+1≤1099511627776:=by omega
 have ki:rqs.length+1≤1099511627776:=by omega
 have hl3:pls.length+1≤1099511627776:=by omega
 have gt:H.heap.size≤Y.heap.size:=by omega
 refine QdV (α:=Value×Value×Value×Value×Value) [(55,74)] (λ_=>[]) (λz hR w'=>hR=ds∧Step (G::av) Y w'∧QZ w'.heap G 77 [q.s.va,.int .i64 q.s.a.st,q.s.vm,q.s.ve,z.1,z.2.1,z.2.2.1,I]∧Jv H.heap.size w' z.1 z.2.1 z.2.2.1 I (cos++[(z.2.2.2.1,tc)]) (rqs++[(z.2.2.2.2,tr)]) (pls++[pi]) fbs) (by rfl) ?_ ?_
 ·refine Qid (α:=Value×Value×Value×Value) (Step av Y) [(0,true),(1,true),(2,true),(6,true),(7,true),(8,true),(12,true),(13,true),(14,true)] [(3,false),(4,false),(5,false),(17,true),(9,false),(10,false),(11,false)] 15 70
   [(16,false),(18,false),(19,true),(20,false),(21,true),(22,false)] av [(55,74)] [(58,60),(64,66),(72,72)] (λz=>[(60,z.1),(66,z.2.1),(68,v3),(72,.pointer (some ⟨G,4,none⟩))]) (λz w'=>Step av Y w'∧Jv H.heap.size w' z.1 z.2.1 v3 I (cos++[(z.2.2.1,tc)]) (rqs++[(z.2.2.2,tr)]) pls fbs)
   (λv w'=>∃b,v=.slice (some ⟨b,0,none⟩) 1 1∧QZ w'.heap b 3 [.int .i64 pi]) mixed (by rfl) (by rfl) (by kernel_rfl) (by rfl) O hC0 (λx hx=>L2 (gc x hx).2 hz712) ?_ ?_ ?_ ?_
  ·rintro v own w w' ⟨b,rfl,hB⟩ hs hn;exact ⟨b,O,hB.step hs (hn b (by simp[ow]))⟩
  ·rintro z w w' ⟨h1,h2⟩ hs;exact ⟨h1.trans hs,h2.ext hs⟩
  ·rintro ⟨hf,hg,hh,hj⟩ g wz v ⟨po,hP⟩ _ ⟨b15,rfl,g7⟩;simp only[] at hP;have hcz:=po.size;refine pk<|Q5 (news:=[.int .i64 pi]) (L:=[]) hP.o3 O O O (g7.at (by simp)) (by simp[Value.oneCell']) hl3 (LS gt hcz) λhq y1 g8 hG hn1=>?_;have Q1:=Jv.a3 (q:=pi) hP (Step.refl [] _) g8 hG hn1
   have k0:Step av Y y1:=po.trans' (hG.mono (λb hb=>by rw[←gm];exact qJ (.inr (.inr (.inl hb)))));refine ⟨k0,?_⟩;refine pkl (hl:=by kernel_rfl)<|QF (j:=4) (u:=hf) (h8.step k0 g3) O O (by simp) (QH Q1.o1) λy2 h6 k4=>p (λ_=>Qa rfl) <|
    pkl (hl:=by kernel_rfl)<|QF (j:=5) (u:=hg) k4 O O (by simp) (QH Q1.o2) λy3 h7 hB3'=>p (λ_=>Qa rfl) <|
    pkl (hl:=by kernel_rfl)<|QF (j:=6) (u:=hq) hB3' O O (by simp) (QH Q1.o3) λy4 hN hB4'=>pe ?_
   exact ⟨(hf,hg,hq,hh,hj),U,O,fin k0 Q1 ((h6.trans' h7).trans' hN) hB4'⟩
  refine p (λ_=>Qa O)<|pq (λ_ hc=>Qd (h8.step hc g3) O O)<|p (λ_=>Qp)<|p (λ_=>Qa O)<|pq (λ_ hc=>Qd (h8.step hc g3) O O)<|p (λ_=>Qp) <|
   p (λ_=>Qa O)<|pq (λ_ hc=>Qd (h8.step hc g3) O O)<|p (λ_=>Qp)<|pe ⟨λg wf hCf=>QC (us:=[[.int .i64 pi]]) O O (by decide) (by simp) ⟨rfl,rfl,U⟩ λb wf' pp hbf pt=>⟨pp,hCf.trans pp,⟨b,rfl,pt⟩,λx hx=>?_⟩,?_⟩
  ·have hxe:x=b:=by
    have hx':x∈[b]:=hx;simpa using hx'
   subst hxe;exact ⟨hbf,pt.lt⟩
  have pu:∀{X:LN},(∀x∈X,x∈ob v1∨x∈ob v2)→∀x∈X,x∈av:=λhX x hx=>by rw[←gm];exact qJ ((hX x hx).imp id .inl)
  refine fk λx1 p1 c1=>xf<|(ZZ (hJ.step c1 ku)).mono ?_;rintro hh y1 ⟨hG,g8⟩;have P1:=hS12d.ext p1;have pb1:=LS gt c1.size;refine ⟨c1.trans hG,av,hG.any,λb hb=>.inl hb,?_⟩;refine fk λx2 p2 c2=>QC (us:=[[hh]]) O O (by decide) (by simp) ⟨Q0 g8,rfl,U⟩ λb2' y2 h6 hb2' k4=>⟨c2.trans h6,av,h6.any,λb hb=>.inl hb,?_⟩;refine fk λx3 p3 c3=>?_
  have pw:=((hG.trans p2).trans h6).trans p3;have pz:=Qq g8 ((p2.trans h6).trans p3);refine Q5 (news:=[hh]) (L:=[]) (Qq P1.o1 pw) O O O ((k4.ext p3).at (by simp)) (λu hu=>by rw[List.mem_singleton] at hu;subst hu;exact QH pz) m0 (LS gt c3.size) λhf y3 ho4 h7 hn3=>?_;have P2:=Jv.a1 (q:=(hh,tc)) P1 pw pz htc40 (Lt _) pb1 ho4 h7 hn3
  have p0:Step av x3 y3:=h7.mono (pu λx hx=>.inl hx);refine ⟨c3.trans' p0,av,p0,λb hb=>.inl hb,?_⟩;refine fp (λ_=>Qa O) ?_;refine fk λx4 p4 c4=>xf<|(ZZ (hw.step c4 ku)).mono ?_;rintro hj y4 ⟨hN,p7⟩;have P3:=P2.ext p4;have pb3:=LS gt c4.size;refine ⟨c4.trans hN,av,hN.any,λb hb=>.inl hb,?_⟩
  refine fk λx5 p5 c5=>QC (us:=[[hj]]) O O (by decide) (by simp) ⟨Q0 p7,rfl,U⟩ λb5' y5 hZ hb5' hB5'=>⟨c5.trans hZ,av,hZ.any,λb hb=>.inl hb,?_⟩;refine fk λx6 p6 c6=>?_;have p8:=((hN.trans p5).trans hZ).trans p6;have p9:=Qq p7 ((p5.trans hZ).trans p6)
  refine Q5 (news:=[hj]) (L:=[]) (Qq P3.o2 p8) O O O ((hB5'.ext p6).at (by simp)) (λu hu=>by rw[List.mem_singleton] at hu;subst hu;exact QH p9) ki (LS gt c6.size) λhg y6 ho7 gy hn6=>?_;have P4:=Jv.a2 (q:=(hj,tr)) P3 p8 p9 htr40 (Lt _) pb3 ho7 gy hn6;have k5:Step av x6 y6:=gy.mono (pu λx hx=>.inr hx);refine ⟨c6.trans' k5,av,k5,λb hb=>.inl hb,?_⟩
  exact fe ⟨(hf,hg,hh,hj),⟨O,O,O,O,U⟩,c6.trans' k5,P4⟩
 rintro ⟨hf,hg,hq,hh,hj⟩ g hR k6 ⟨rfl,hK,qc,qf⟩;simp only[] at qc qf;have hz13:=hK.size;have ql:=(ky.ext gh).st hK;have hJ:=hJ.st hK;have hw:=hw.st hK;have g9:XY [] b k6.heap q:=ql.up (by simp);have hcell:∀x∈G::av,∃o:Obj,Y.heap[x]?=some o∧o.isCells=true:=λx hx=>by
  rcases Lb.1 hx with rfl | hx
  ·exact h8.cells
  rw[←gm] at hx;rcases Qak hx with h1 | h1 | h1 | h1
  ·exact Go.Lg.Q0 gs.o1 x h1
  ·exact Go.Lg.Q0 gs.o2 x h1
  ·exact Go.Lg.Q0 gs.o3 x h1
  exact Go.Lg.Q0 gs.o4 x h1
 have hD13:VT H.heap.size w7.heap.size hR k6:=((m7.up (Lt _)).ext hY).step hK hcell;have hl7:=pf.lt;have hz910:=pd.size;have hb7n:b7∉G::av:=λhm=>by
  rcases Lb.1 hm with h1 | h1
  ·omega
  have:=(gc _ h1).2;omega
 have hb1n:b1∉G::av:=λhm=>by
  rcases Lb.1 hm with h1 | h1
  ·omega
  have:=(gc _ h1).1;omega
 have ka:=((pf.ext ph).ext gh).step hK hb7n;have k7:=((m1.ext (h7.trans gl)).ext hY).step hK hb1n;have hs613:Step [G] H k6:=(kq.trans hY).then hK (λx hx=>by
  rcases Lb.1 hx with h1 | h1
  ·subst h1;exact .inl Lm
  exact .inr (gc x h1).1)
 have k8:(cos++[(hh,tc)]).map (·.2)=(T.take (k+1)).map (·.take q.c.co.length):=by rw[gq,Lu,Lu,gi,MO,MO,hU]
 have k9:(rqs++[(hj,tr)]).map (·.2)=(T.take (k+1)).map (·.drop q.c.co.length):=by rw[gq,Lu,Lu,gj,MO,MO,gr]
 have ma:pls++[pi]=(T.take (k+1)).map (λt=>plx (q.qs.map (·.2)) (t.take q.c.co.length)):=by rw[gq,Lu,gk,MO,hU,kz]
 have hVc:Vt (auts q.c.cel.co) tc:=by
  have h1:=gg.take;rw[show (auts q.c.cel.co).length=q.c.co.length by unfold auts;rw[Le];exact gb,hU] at h1;exact h1
 have hVr:Vt (auts q.c.cel.rq) tr:=by
  have h1:=gg.drop;rw[show (auts q.c.cel.co).length=q.c.co.length by unfold auts;rw[Le];exact gb,gr] at h1;exact h1
 have gu:=Qaa hQ.ok hQ.p;have hpr:=QfY gu.2.2.1 tc;rw[kz,←gu.2.1] at hpr;have hckp:cks q.p.a pi=0:=by
  unfold cks;rw[if_neg (by rw[(ZE q.p.a).2 gu.1];decide),if_neg (by omega)]
 have hvo:=Uv g9.k1 g9.k2 g9.k3 (hJ.up (L':=[]) (by simp)) (by rw[hQ.ex,hQ.cs];exact ga.cd) hVc.tpOk;have h4:rsn q.c.cel q.p.a pi k t.2=(match vio q.c.cel tc with | some (kd,j)=>some ⟨k,kd,j,-1⟩ | none=>match rfd q.c.cel tr (zu q.p.a pi) with | some (j,v)=>some ⟨k,3,j,v⟩ | none=>none):=by unfold rsn;rw[gb,hU,gr];rfl
 rw[Qe1] at h4;rw[hQ.ex,hQ.cs] at hvo;refine Zc (Vd q.c.cel.ex q.c.cel.cs tc) λV hV=>?_;rw[hV] at hvo h4;refine QY<|QY<|QJ (by rfl) (by rfl) ?_;refine Qb<|x (QE O)<|x (Qa O)<|x (Ys (us:=[q.vs,q.vx,q.vk]) g9.B O O O)<|Qb<|xl O<|xf<|hvo.mono ?_;rintro r14 mc ⟨hF,rfl⟩;refine Qb<|x (Qk O O)<|x (Qk O O)<|x (Qk O O)<|x (Qk O O)<|x Qg<|x Qg<|x Qg<|Qe ?_;have kb:=qc.ext hF
 have hM:=qf.ext hF;have qo:=hD13.ext hF;have qr:=hs613.trans hF;have hz14:=hF.size;have q0:fbs.length+1≤1099511627776:=by omega
 have hb014:H.heap.size≤mc.heap.size:=by omega
 have hz714:w7.heap.size≤mc.heap.size:=by omega
 refine QY<|QJ (by rfl) (by rfl) ?_;refine Qb<|xe<|K7 rfl (λmf=>?_) (λmf=>?_)
 ·rw[if_pos mf] at h4;simp only[] at h4;rw[h4] at hr;refine QY<|QJ (by rfl) (by rfl) ?_;refine x (Qa O)<|x (Qd kb O O)<|x (Qd (ka.ext hF) O O)<|Qb<|Qb<|x (QD ⟨O,O,O,O,U⟩) <|
   xl rfl<|QC (us:=[Zy ⟨k,V.1,V.2.1,-1⟩]) O O (by decide) (by simp) ⟨rfl,rfl,U⟩ λb93 y1 hH hb93 mg=>?_
  have q1:=hH.size;refine xl O<|Q5 (m:=1) (news:=Zy ⟨k,V.1,V.2.1,-1⟩) (L:=[]) (Qq hM.o4 hH) O O O (mg.at (by simp)) (by simp[Value.oneCell']) q0 (LS hb014 q1) λu4 y2 gv gw mh=>?_;have mj:G∉ob I:=λhm=>by have:=(Qm hM.o4 _ hm).1;omega
  refine x (Qa O)<|xl O<|QF (j:=7) (u:=u4) ((kb.ext hH).step gw mj) O O (by simp) (QH gv) λy3 mo mq=>xe ?_;have h5:=Jv.add (q:=⟨k,V.1,V.2.1,-1⟩) kb hM ko hH gv gw mh mo;refine Kp<|⟨((hf,hg,hq,u4),cos++[(hh,tc)],rqs++[(hj,tr)],pls++[pi]),Z,qr.then h5.1 (λx hx=>?_),((qo.step h5.1 h5.2.2).up (LS hz714 h5.1.size)),mq,?_,k8,k9,ma⟩
  ·rcases Lb.1 hx with h1 | h1
   ·subst h1;exact .inl Lm
   exact .inr (Qm hM.o4 x h1).1
  simp only[];rw[hr];exact h5.2.1
 rw[if_neg (by rw[mf];decide)] at h4;simp only[] at h4;refine Yg ?_;have hA14:=ql.ext hF;have hw:=hw.ext hF;refine QY<|QJ (by rfl) (by rfl) ?_;refine Qb<|Qb<|Qb<|xl O<|xf<|(Uk (b:=b) (st:=pi) (vr:=pj) hw.cells).mono ?_;rintro r15 kc ⟨hI,c1,c2,c3,rfl,hc1,hc2,hc3,hR1,hR2,hR3⟩;refine xe ?_;have hz15:=hI.size;have g7:=kb.ext hI;have q2:=hM.ext hI
 have q3:=qo.ext hI;have q4:=qr.trans hI;have hA15:=hA14.ext hI;have ka:=ka.ext (hF.trans hI);have k7:=k7.ext (hF.trans hI);have hw:=hw.ext hI;refine Zc (wrf q.c.cel.rq tr (enb q.p.a pi)) λfl ke=>?_;have q5:∀x∈G::ob I,x∈G::av:=λx hx=>by
  rcases Lb.1 hx with rfl | hx
  ·exact Lm
  exact Lk _ (by rw[←gm];exact qJ (.inr (.inr (.inr hx))))
 have ms:∀x∈G::ob I,x<mc.heap.size:=λx hx=>by
  rcases Lb.1 hx with rfl | hx
  ·omega
  exact (Qm hM.o4 x hx).2
 have za:XY (G::ob I) b kc.heap q:=hA15.up (λx hx=>.inl (q5 x hx));have hIr15:QL (G::ob I) kc.heap pj tr:=hw.up (λx hx=>.inl (q5 x hx));have hEv:∀p∈fl,0≤p.1∧p.1<(q.c.ev.length:Int):=λp hp=>by
  rw[←ke] at hp;have h1:=(UI.1 hp).1;unfold enb at h1;obtain ⟨e,he,h2⟩:=Lp.1 h1;have h3:=gu.2.2.2 _ (gu.1.ed e (Zt he).1).2.2.1;rw[h2] at h3;exact h3
 refine ZI<|Qa7 (α:={ x:Int×Int // x∈fl }) (G::ob I) (by omega) (capt:=[.pointer (some ⟨c1,0,none⟩),.pointer (some ⟨c2,0,none⟩),.pointer (some ⟨c3,0,none⟩)]) O (encs:=λx=>[.int .i64 x.1.1,.int .i64 x.1.2]) (by decide) (λ_=>O)
  (Vk hR1 hR2 hR3 (λhm=>by have:=ms _ hm;omega) (λhm=>by have:=ms _ hm;omega) (λx hx=>by have:=ms _ hx;omega) za hIr15 (λx hx=>ga.rq x.it (LK hx)) hVr hckp O ke)
  (λpre W=>(∀y∈pre,(q.c.cel.ev.getD y.1.1.toNat ⟨.empty,false,false,false,0⟩).co=true)∧Step [] kc W) (λpre=>(Z1.pure _).and (Z1.step (Lt _)))
  (λe pre W=>e=.exit 2∧(∃p y,pre=p++[y]∧(∀y∈p,(q.c.cel.ev.getD y.1.1.toNat ⟨.empty,false,false,false,0⟩).co=true)∧(q.c.cel.ev.getD y.1.1.toNat ⟨.empty,false,false,false,0⟩).co=false ∧
   ∃u4,Step (G::ob I) kc W∧QZ W.heap G 77 [q.s.va,.int .i64 q.s.a.st,q.s.vm,q.s.ve,hf,hg,hq,u4]∧Jv H.heap.size W hf hg hq u4 (cos++[(hh,tc)]) (rqs++[(hj,tr)]) (pls++[pi]) (fbs++[⟨k,3,y.1.2,y.1.1⟩])∧VT H.heap.size w7.heap.size hR W))
  (λe pre=>(Z1.pure _).and (Z1.ex λp=>Z1.ex λy=>(Z1.pure _).and ((Z1.pure _).and ((Z1.pure _).and (Z1.ex λu4=>(Z1.step (Lt _)).and (Z1.blk.and ((Z1.cst λW W' h hc hz=>h.cst hc hz).and (VT.stb (by omega)))))))))
  ⟨λy hy=>(by cases hy),Step.refl _ _⟩
  (λf x f' W=>f'=upd (upd (upd (upd f 100 (.int .i64 x.1.1)) 101 (.int .i64 x.1.2)) 16 (.int .i64 x.1.1)) 17 (.int .i64 x.1.2)) (λx f'=>Z1.pure _) ?_ ?_ ?_ ?_
 ·rintro l pre ⟨⟨e,i⟩,he⟩ W S;refine QY<|QJ (by rfl) (by rfl) ?_;refine Qe<|QJ (by rfl) (by rfl) ?_;refine Qe ?_;exact ⟨O,JO.refl _ _ _,Lg.Xr.refl _ _,S,O⟩
 ·rintro l pre ⟨⟨e,i⟩,he⟩ f' W ⟨kf,S⟩ rfl _;have hee:=hEv _ he;simp only[] at hee;have hen:e=(e.toNat:Int):=by omega
  have kg:e.toNat<q.c.ev.length:=by omega
  have hAW:=za.ext S;refine ZI<|QY<|QJ (by rfl) (by rfl) ?_;refine x (Qa O)<|x (Qd (k7.ext S) O O)<|Qb<|xig (g:=Zn) (i:=e.toNat) U1 hAW.c.ev.arr O (congrArg (Value.int .i64) hen) kg λa105 zv=>?_;have hge:q.c.cel.ev.getD e.toNat ⟨.empty,false,false,false,0⟩=q.c.ev[e.toNat]'kg:=by
   show q.c.ev.getD e.toNat _=_;simp[List.getD,kg]
  refine Zc (q.c.ev[e.toNat]'kg) λv hv=>?_;rw[hv] at zv hge;refine x (Zo O)<|x (Qw (zv.fld 1 (.bool v.co) O) O)<|x (Zm O)<|xe<|K7 O (λmt=>?_) (λmt=>?_)
  ·have mu:v.co=false:=by simpa using mt
   have hS:=q2.ext S;have hB:=g7.ext S;have ge:=S.size;refine QY<|QJ (by rfl) (by rfl) ?_;refine x (Qa O)<|x (Qd hB O O)<|x (Qd (ka.ext S) O O)<|Qb<|Qb<|x (QD ⟨O,O,O,O,U⟩) <|
    xl rfl<|QC (us:=[Zy ⟨k,3,i,e⟩]) O O (by decide) (by simp) ⟨rfl,rfl,U⟩ λb93 y1 hH hb93 mg=>?_
   have q1:=hH.size;refine xl O<|Q5 (m:=1) (news:=Zy ⟨k,3,i,e⟩) (L:=[]) (Qq hS.o4 hH) O O O (mg.at (by simp)) (by simp[Value.oneCell']) q0 (by omega) λu4 y2 gv gw mh=>?_;have mj:G∉ob I:=λhm=>by have:=(Qm hM.o4 _ hm).1;omega
   refine x (Qa O)<|xl O<|QF (j:=7) (u:=u4) ((hB.ext hH).step gw mj) O O (by simp) (QH gv) λy3 mo mq=>xe ?_;have h5:=Jv.add (q:=⟨k,3,i,e⟩) hB hS ko hH gv gw mh mo;refine Kp ?_;exact ⟨JO.step h5.1 ge (λx hx=>⟨.inl hx,h5.2.2 x hx⟩),O,pre,_,O,kf,by simp only[];rw[hge];exact mu,u4,S.any.trans' h5.1,mq,h5.2.1,(q3.ext S).step h5.1 h5.2.2⟩
  have mu:v.co=true:=by simpa using mt
  refine Yg<|⟨JO.refl _ _ _,Lg.Xr.refl _ _,λy hy=>?_,S⟩;rcases Lj.1 hy with h1 | h1
  ·exact kf y h1
  simp only[List.mem_singleton] at h1;subst h1;simp only[];rw[hge];exact mu
 ·rintro D xs W hD hxs ⟨kf,S⟩ mv;have mw:rfd q.c.cel tr (zu q.p.a pi)=none:=qk λx hx=>by
   rw[show wrf q.c.cel.rq tr (zu q.p.a pi)=fl from ke,←hxs] at hx;obtain ⟨y,hy,rfl⟩:=Lp.1 hx;exact kf y hy
  rw[mw] at h4;rw[h4] at hr;refine ⟨((hf,hg,hq,I),cos++[(hh,tc)],rqs++[(hj,tr)],pls++[pi]),Z,q4.trans S,(q3.ext S).cons (by omega) (by omega) mv,g7.ext S,?_,k8,k9,ma⟩;simp only[];rw[hr];have h9:=q2.ext S;simpa using h9
 rintro D e pre W hD hSp ⟨rfl,p,y,rfl,hp,hy,u4,hst,hBu,hSu,hDu⟩ mv _;have mw:rfd q.c.cel tr (zu q.p.a pi)=some (y.1.2,y.1.1):=by
  obtain ⟨rs,z0⟩:=hSp;rw[Lu] at z0;refine qj (x:=y.1) (t:=rs) (p:=p.map (·.1)) ?_ (λz hz=>?_) hy
  ·exact (show wrf q.c.cel.rq tr (zu q.p.a pi)=fl from ke).trans (z0.symm.trans (by simp))
  obtain ⟨z',hz',rfl⟩:=Lp.1 hz;exact hp z' hz'
 rw[mw] at h4;simp only[] at h4;rw[h4] at hr;refine ⟨((hf,hg,hq,u4),cos++[(hh,tc)],rqs++[(hj,tr)],pls++[pi]),Z,q4.then hst (λx hx=>?_),hDu.cons (by omega) (by omega) mv,hBu,?_,k8,k9,ma⟩
 ·rcases Lb.1 hx with h1 | h1
  ·subst h1;exact .inl Lm
  exact .inr (Qm hM.o4 x h1).1
 simp only[];rw[hr];exact hSu
end Go.Proofs.YtdffckgdcegpaaaGreatDoor
namespace Go.Lg
theorem At.from {L:LN}{H:Array Obj}{a:Addr}{us:LV}(h:At L H a us) (j:Nat):At L H (a.add j) (us.drop j) :=
 ⟨λu hu=>by rw[Z6];exact h.out u (MN hu),λu hu=>by rw[Z6];exact h.lt u (MN hu),λi v E=>by
  rw[Addr.add_add];exact h.cell (j+i) v (by rw[←MM];exact E)⟩
end Go.Lg
namespace Go.Proofs.YtdffckgdcegpaaaGreatDoor
open Go.Proofs.Tryz
open Go.Lg
def lwB (l:LI) (n:Int):Nat:=(l.filter λx=>decide (x<n)).length
theorem Qls {l:LI}{n:Int}{i:Nat}(_:Z0 l) (hi:i≤l.length) (h1:∀m (hm:m<l.length),m<i→l[m]<n) (h2:∀m (hm:m<l.length),i≤m→n≤l[m]):lwB l n=i:=by
 unfold lwB;have e1:(l.take i).filter (λx=>decide (x<n))=l.take i:=Nm.2 λx hx=>by
  obtain ⟨m,hm,rfl⟩:=LD hx;rw[M6];have E:m<i∧m<l.length:=by rw[Lx] at hm;omega
  exact decide_eq_true (h1 m E.2 E.1)
 have e2:(l.drop i).filter (λx=>decide (x<n))=[]:=Nc.2 λx hx=>by
  obtain ⟨m,hm,rfl⟩:=LD hx;rw[List.getElem_drop];have E:i+m<l.length:=by rw[Mq] at hm;omega
  have:=h2 (i+m) E (by omega);simp;omega
 have G:l.filter (λx=>decide (x<n))=l.take i:=by
  conv=>lhs;rw[←MK i l]
  rw[L7,e1,e2,LH]
 rw[G,Lx];omega
theorem Qdb:∀{l:LI}{n:Int},Z0 l→n∈l→lwB l n=l.idxOf n
 | [],_,_,h=>by cases h
 | a::l,n,hi,h=>by
  have E:=L0.1 hi;unfold lwB;by_cases e:a=n
  ·subst e;have e2:l.filter (λx=>decide (x<a))=[]:=Nc.2 λx hx=>by have:=E.1 x hx;simp;omega
   rw[Mh,if_neg (by simp),e2];simp
  have hm:n∈l:=by
   rcases Lb.1 h with h1 | h1
   ·exact absurd h1.symm e
   exact h1
  have ih:=Qdb E.2 hm;unfold lwB at ih;have ha:=E.1 n hm;rw[Mh,if_pos (decide_eq_true ha),LJ,ih,List.idxOf_cons];have:(a == n)=false:=by simpa using e
  rw[this];rfl
theorem QaY {L:LN}{w:World}{v:Value}{l:LI}(h:QL L w.heap v l) (hi:Z0 l) (n:Int) :
  QK prog 84 [v,.int .i64 n] w λr w'=>w'=w∧r=.tuple #[.int .i64 (lwB l n),.bool (decide (n∈l))]:=by
 have hv:=h.le;refine QK.of_W func84 O ntmps84 results84 (by simp) ?_;refine Qc<|x Qg<|Qe<|Qc<|Qb<|x (Qs h O)<|Qe<|Qc<|Qb<|x Qg<|Qe<|Qf<|Qh<|QA (α:=Nat×Nat) [(7,9),(13,30)] (λz=>[(7,.int .i64 z.1),(8,.int .i64 z.2)])
  (λz w'=>w'=w∧z.1≤z.2∧z.2≤l.length∧(∀m (hm:m<l.length),m<z.1→l[m]<n)∧(∀m (hm:m<l.length),z.2≤m→n≤l[m])) (λz=>z.2 - z.1) (by rfl) (0,l.length) ⟨O,O,U⟩
  ⟨O,Ll _,Lt _,λm _ J=>absurd J (Nh m),λm h1 J=>absurd h1 (by simp only[] at J;omega)⟩ ?_
 rintro ⟨i,j⟩ g w1 ⟨rfl,hc,V,E,G⟩;simp only[] at hc V E G;refine Qf<|Qc<|Qb<|Qb<|x (QB O O)<|xe<|QG rfl (λhe=>?_) (λhe=>?_)
 ·have e:i=j:=by omega
  subst e;refine Qz<|QT (α:=Bool) [(4,5),(31,53)] (λz=>[(4,.int .i64 i),(5,.bool z)]) (λz w'=>w'=w1∧z=decide (n∈l)) (by rfl) ?_ ?_
  ·refine Qy<|Qb<|Qb<|Qb<|xb (QB O O) (λhf=>?_) (λhf=>?_)
   ·have H:i<l.length:=by omega
    refine Qb<|Qb<|Qb<|xii h O O H λhw hg=>x (Qw hg O)<|Qb<|xb (Q4 O O) (λS=>?_) (λS=>?_)
    ·refine Qb<|xs O<|xs O<|xs O<|xs O<|xs O<|xs O<|xs O<|xs O<|xs O<|x (Ql O)<|x (Ql O)<|x Qg<|Qe ?_;have:n∈l:=by rw[←S];exact Lc H
     exact ⟨true,⟨O,O,U⟩,O,by simp[this]⟩
    refine Qb<|Qb<|Qb<|xii h O O H λhy hk=>x (Qw hk O)<|xl O<|xf<|(Qas _).mono ?_;rintro r3 w3 ⟨rfl,rfl⟩;refine Qb<|xs O<|xs O<|x (Ql O)<|x (Ql O)<|x (Ql O)<|x Qg<|Qe<|⟨false,⟨O,O,U⟩,O,?_⟩;have:n∉l:=by
     intro hm;obtain ⟨m,I,Y⟩:=LD hm;by_cases hl:m<i
     ·have:=E m I hl;omega
     by_cases hn:m=i
     ·subst hn;exact S Y
     have:=Z0.get hi I (show i<m by omega);have:=G i H (Lt _);omega
    simp[this]
   refine Qb<|xs O<|xs O<|xs O<|xs O<|xs O<|xs O<|xs O<|xs O<|xs O<|xs O<|xs O<|xs O<|xs O<|xs O<|xs O<|xs O<|xs O <|
    x (Ql rfl)<|x Qg<|Qe<|⟨false,⟨O,O,U⟩,O,?_⟩
   have:n∉l:=by
    intro hm;obtain ⟨m,I,Y⟩:=LD hm;have:=E m I (by omega);omega
   simp[this]
  rintro z g w7 ⟨rfl,rfl⟩;exact Qn ⟨[.int .i64 i,.bool (decide (n∈l))],⟨O,O,U⟩,O,by rw[Qls hi (show i≤l.length by omega) E G];rfl⟩
 have hz:i<j:=by omega
 refine Qi<|Qh<|Qc<|Qb<|Qb<|QO O O<|x (ZL O (by exact ⟨by omega,by omega⟩))<|x (zS (n:=1) O O (by decide))<|x (ZL O (by exact ⟨by omega,by omega⟩))<|Qe ?_;have hh:(((i:Int)+(j:Int)) / 2 ^ 1)=(((i+j) / 2:Nat):Int):=by omega
 rw[hh];generalize hq:(i+j) / 2=q;have ho:i≤q:=by omega
 have hp:q<j:=by omega
 have ha:q<l.length:=by omega
 refine Qc<|Qb<|Qb<|xii h O O ha λh2 hr=>x (Qw hr O)<|Qb<|xl O<|xf<|(Qdg _ _).mono ?_;rintro r8 w8 ⟨rfl,rfl⟩;refine xe<|QG rfl (λhb=>?_) (λhb=>?_)
 ·refine Qy<|Qb<|Qe<|⟨(i,q),by simp only[];omega,⟨O,O,U⟩,O,ho,by omega,E,λm hm ht=>?_⟩;by_cases e:q=m
  ·subst e;omega
  have:=Z0.get hi hm (show q<m by simp only[] at ht;omega);omega
 refine Qy<|Qb<|QO O O<|Qe<|⟨(q+1,j),by simp only[];omega,⟨O,O,U⟩,O,hp,V,λm hm hu=>?_,G⟩;by_cases e:m=q
 ·subst e;exact hb
 have:=Z0.get hi ha (show m<q by simp only[] at hu;omega);omega
theorem K0 {L:LN}{w:World}{v:Value}{l:List Ed}(h:Zs L w.heap v l.length 3 (l.flatMap Qx)) :
  QK prog 67 [v] w λr w'=>Step [] w w'∧w'.ownsRow w.heap.size 144 3 r l.length (l.flatMap Qx):=by
 have hb:=h.le;refine QK.of_W func67 O ntmps67 results67 (by simp) ?_;refine Qc<|Qe ?_;obtain ⟨ao,cap,E⟩:=h.shape;refine Qf<|Qc<|Qb<|x (Vn (show ev _ _=_ from E) O)<|xe<|Q3 rfl (λG=>?_) (λG=>?_)
 ·refine Qc<|Qe<|Qn ⟨[nS],Z,Step.refl _ _,?_⟩;rcases h.2.2 with ⟨h1,h2⟩ | ⟨a,c,h1,_⟩
  ·have:l=[]:=Ln h2;subst this;exact QP _ _ _ _
  rw[h1] at E;cases E;cases G
 rcases h.2.2 with ⟨h1,h2⟩ | ⟨a,c,h1,h2,h3⟩
 ·rw[h1] at E;injection E with e1;subst e1;cases G
 refine Qi<|Qc ?_;have S:∀u∈l.flatMap Qx,u.oneCell'=true:=by
  intro u hu;obtain ⟨p,_,hp⟩:=Mv.1 hu;simp only[Qx,List.mem_cons,List.not_mem_nil,or_false] at hp;rcases hp with rfl | rfl | rfl <;> rfl
 refine xl rfl<|KS λb5 w1 H I J=>Qb<|xl O<|Q5 (base:=w.heap.size) (J.own (n:=0) (sz:=3) O (by omega) I) O (show ev _ _=_ from h1) h.1 (h3.ext H) S (by omega) (by have:=J.lt;omega) λV w2 Y ha hc=>Qe<|Qn ⟨[V],Z,H.then1 ha I,?_⟩;simpa[tup] using Y
theorem Qca {L:LN}{w:World}{v:Value}{l:List KG}(h:Zs L w.heap v l.length 5 (l.flatMap Zn)) :
  QK prog 81 [v] w λr w'=>Step [] w w'∧w'.ownsRow w.heap.size 87 5 r l.length (l.flatMap Zn):=by
 have hb:=h.le;refine QK.of_W func81 O ntmps81 results81 (by simp) ?_;refine Qc<|Qe ?_;obtain ⟨ao,cap,E⟩:=h.shape;refine Qf<|Qc<|Qb<|x (Vn (show ev _ _=_ from E) O)<|xe<|Q3 rfl (λG=>?_) (λG=>?_)
 ·refine Qc<|Qe<|Qn ⟨[nS],Z,Step.refl _ _,?_⟩;rcases h.2.2 with ⟨h1,h2⟩ | ⟨a,c,h1,_⟩
  ·have:l=[]:=Ln h2;subst this;exact QP _ _ _ _
  rw[h1] at E;cases E;cases G
 rcases h.2.2 with ⟨h1,h2⟩ | ⟨a,c,h1,h2,h3⟩
 ·rw[h1] at E;injection E with e1;subst e1;cases G
 refine Qi<|Qc ?_;have S:∀u∈l.flatMap Zn,u.oneCell'=true:=by
  intro u hu;obtain ⟨p,_,hp⟩:=Mv.1 hu;simp only[Zn,List.mem_cons,List.not_mem_nil,or_false] at hp;rcases hp with rfl | rfl | rfl | rfl | rfl <;> rfl
 refine xl rfl<|KS λb5 w1 H I J=>Qb<|xl O<|Q5 (base:=w.heap.size) (J.own (n:=0) (sz:=5) O (by omega) I) O (show ev _ _=_ from h1) h.1 (h3.ext H) S (by omega) (by have:=J.lt;omega) λV w2 Y ha hc=>Qe<|Qn ⟨[V],Z,H.then1 ha I,?_⟩;simpa[tup] using Y
structure Xh {α:Type}(g:α→LV) (sz T:Nat) (ps:α→List (Value×Nat×Nat×LV)) (base:Nat) (w:World) (v:Value) (l:List α):Prop where
 own:w.ownsRow base T sz v l.length (l.flatMap g)
 each:∀q∈l,∀t∈ps q,ZN base (ob v) w.heap t.1 t.2.1 t.2.2.1 t.2.2.2
section
variable {α:Type} {g:α→LV} {sz T:Nat} {ps:α→List (Value×Nat×Nat×LV)} {base:Nat} {w w':World} {v:Value} {l:List α}
theorem Xh.nil:Xh g sz T ps base w (nS) []:=⟨QP _ _ _ _,λq hq=>by cases hq⟩
theorem Xh.ext (h:Xh g sz T ps base w v l) (hs:Step [] w w'):Xh g sz T ps base w' v l:=⟨Qq h.own hs,λq hq t ht=>(h.each q hq t ht).ext hs⟩
theorem Xh.low {X:LN}(h:Xh g sz T ps base w v l) (hs:Step X w w') (E:∀b∈X,b<base):Xh g sz T ps base w' v l :=
 ⟨Qj h.own hs (λb hb hm=>by have:=(Qm h.own b hb).1;have:=E b hm;omega),λq hq t ht=>(h.each q hq t ht).low hs E⟩
theorem Xh.app {E G:World}{H:Value}{q:α}(h:Xh g sz T ps base w v l) (hs:Step [] w E)
  (hq:∀t∈ps q,∃N e,E.ownsRow N e t.2.2.1 t.1 t.2.1 t.2.2.2∧t.2.1≤1099511627776∧w.heap.size≤N) (hb:base≤w.heap.size)
  (S:G.ownsRow base T sz H (l.length+1) (l.flatMap g++g q)) (I:Step (ob v) E G) (J:∀b∈ob H,b∈ob v∨E.heap.size≤b):Xh g sz T ps base G H (l++[q]):=by
 have V:=QR h.own;refine ⟨?_,λd hd t ht=>?_⟩
 ·rw[Lh,Ly];simpa using S
 rcases Lj.1 hd with hd | hd
 ·exact ((h.each d hd t ht).ext hs).app I J
 simp only[List.mem_singleton] at hd;subst hd;obtain ⟨N,e,h1,h2,h3⟩:=hq t ht;exact (ZN.of_own h1 h2 (by omega) (λb hb=>by have:=V b hb;omega)).app I J
end
abbrev Qeo (q:IV):List (Value×Nat×Nat×LV):=[(q.p.va,q.p.a.al.length,1,q.p.a.al.map (.int .i64)),(q.p.vm,q.p.a.mr.length,1,q.p.a.mr.map (.int .i64)),(q.p.ve,q.p.a.ed.length,3,q.p.a.ed.flatMap Qx)]
abbrev IvP (base:Nat) (w:World) (v:Value) (l:List IV):Prop:=Xh Zh 5 66 Qeo base w v l
def QnY (N:Nat) (H:Array Obj) (v:Value) (l:List Yp):Prop:=∃qs:List IV,qs.map IV.it=l∧∀L:LN,(∀b∈L,b<N)→Xm L H v qs
theorem IvP.itms {base:Nat}{w:World}{v:Value}{l:List IV}{L:LN}(h:IvP base w v l) (G:l.length≤1099511627776) (hm:∀q∈l,UC q.nm) (E:∀b∈L,b<base):Xm L w.heap v l :=
 ⟨QU h.own G (λb hb H=>by have:=(Qm h.own b hb).1;have:=E b H;omega),λq hq=>⟨h.each q hq (q.p.va,q.p.a.al.length,1,q.p.a.al.map (.int .i64)) (by simp) L (λb hb=>.inl (E b hb)),h.each q hq (q.p.vm,q.p.a.mr.length,1,q.p.a.mr.map (.int .i64)) (by simp) L (λb hb=>.inl (E b hb)),h.each q hq (q.p.ve,q.p.a.ed.length,3,q.p.a.ed.flatMap Qx) (by simp) L (λb hb=>.inl (E b hb))⟩,hm⟩
instance:Bw prog 66 [.string .empty,nS,.int .i64 0,nS,nS] [(0,1),(1,4)]:=⟨by kernel_rfl,by decide⟩
set_option maxHeartbeats 4000000 in
theorem q6 {L:LN}{w:World}{v vi:Value}{qs:List IV}{ix:LI}(h0:Xm L w.heap v qs) (hE:QL L w.heap vi ix) (hb:∀i∈ix,0≤i∧i<(qs.length:Int)) :
  QK prog 82 [v,vi] w λr w'=>Step [] w w'∧QnY w.heap.size w'.heap r (chs (qs.map IV.it) ix)∧r.oneCell'=true:=by
 have h:Xm [] w.heap v qs:=h0.up (by simp);have hi:QL [] w.heap vi ix:=hE.up (by simp);have hU:=hi.le;refine QK.of_W func82 O ntmps82 results82 (by simp) ?_;refine Qc<|Qe<|Qc<|Qe<|Qf<|Qc<|Qb<|x (Qs hi O)<|Qb<|xe ?_
 refine Qh<|QA (α:=Nat×Value×List IV) [(5,5),(7,8),(11,41)] (λz=>[(5,z.2.1),(11,.int .i64 z.1)]) (λz w'=>z.1≤ix.length∧Step [] w w'∧IvP w.heap.size w' z.2.1 z.2.2∧z.2.2.map IV.it=chs (qs.map IV.it) (ix.take z.1)∧∀q∈z.2.2,UC q.nm) (λz=>ix.length - z.1) (by rfl) (0,nS,[]) ⟨O,O,U⟩
  ⟨Ll _,Step.refl _ _,Xh.nil,O,λq hq=>by cases hq⟩ ?_
 rintro ⟨k,vo,qo⟩ g w1 ⟨hk,H,I,hf,hp⟩;simp only[] at hk I hf hp;have hV:qo.length=k:=by have:=congrArg List.length hf;unfold chs at this;rw[Le,Le,Lx] at this;omega
 refine Qc<|x (QB O O)<|xe<|Qf<|QG O (λhr=>?_) (λhr=>?_)
 ·refine Qz ?_;have hF:ix.length≤k:=by have hh:¬(k:Int)<(ix.length:Int):=hr;omega
  rw[Lo hF] at hf;refine Qc<|Qb<|Qe ?_;exact Qn ⟨[_],Z,H,⟨qo,hf,λL hL=>I.itms (by omega) hp hL⟩,QH I.own⟩
 refine Qi ?_;have J:k<ix.length:=by have hh:(k:Int)<(ix.length:Int):=hr;omega
 have hG:=hb _ (Lc J);have h7:ix.take (k+1)=ix.take k++[ix[k]'J]:=Li J;refine Zc (ix[k]'J) λi h8=>?_;rw[h8] at hG h7;have hA:i=(i.toNat:Int):=by omega
 have S:i.toNat<qs.length:=by omega
 have hB:chs (qs.map IV.it) (ix.take (k+1))=chs (qs.map IV.it) (ix.take k)++[(qs[i.toNat]'S).it]:=by
  rw[h7];unfold chs;rw[Lu];simp[List.getD,S]
 have h1:=h.ext H;have hv:=Lc S;refine Zc (qs[i.toNat]'S) λq hq=>?_;rw[hq] at hB hv;have G:=h1.each q hv;have hH:=h1.nm q hv;refine Qf<|Qh<|Qc<|xii (i:=k) (hi.ext H) O O J λhW hh=>?_;rw[h8] at hh;refine x (Qw hh O)<|Qe<|Qc<|Qb<|Qb<|xig (g:=Zh) (i:=i.toNat) Xl h1.arr O (congrArg (Value.int .i64) hA) S λhX hC=>?_;rw[hq] at hC
 refine x (Zo O)<|x (QI (us:=[q.p.va,.int .i64 q.p.a.st,q.p.vm,q.p.ve]) (hC.from 1) O O)<|xl O<|Qt (us:=[nS,.int .i64 0,nS,nS]) O λb8 w2 hI hJ V =>
  xl rfl<|Qo (us:=[q.p.va,.int .i64 q.p.a.st,q.p.vm,q.p.ve]) V O O O O ⟨G.al.one,O,G.mr.one,G.ed.one,U⟩ λE hK V=>xe ?_
 have hj:Step [] w1 E:=hI.then1 hK hJ;have Y:Step [] E { E with drawn:=E.drawn+1 }:=Step.drew _ _
 have hY:=hj.size;have hZ:=H.size;have hw:=Qm I.own;have h3:Xm (ob vo) E.heap v qs:=(h.up (L':=ob vo) (λb hb=>.inr (hw b hb).1)).ext (H.trans hj);have hl:b8∉ob vo:=λhm=>by have:=(hw b8 hm).2;omega
 have hy:=G.ext hj;refine QW (Step (ob vo) E) [(0,true),(1,true),(2,true),(3,true),(4,true),(5,true),(6,true),(7,true),(9,true),(10,true),(11,true),(12,true),(14,true),(15,true),(8,false),(13,false),(16,false),(17,true),(18,true),(19,false),(20,false),(21,true)] mixed (by rfl) (by kernel_rfl) (Step.drew _ _) ?_
 refine p (λ_=>Qp)<|p (λ_=>Qp)<|p (λ_=>Qp)<|Go.Lg.pig (g:=Zh) (i:=i.toNat) O Xl h3.arr O (congrArg (Value.int .i64) hA) S λga hD=>?_;rw[hq] at hD;refine p (λ_=>Zo O)<|pq (λ_ hc=>Qw ((hD.fld 0 (.string q.nm) O).st hc) O)<|p (λ_=>Qa O)<|pq (λ_ hc=>Qd (V.step hc hl) O O)<|p (λ_=>Qa O) <|
  pq (λ_ hc=>Qd (V.step hc hl) O O)<|p (λ_=>Qa O)<|pq (λ_ hc=>Qd (V.step hc hl) O O) <|
  p (λ_=>Qa O)<|pq (λ_ hc=>Qd (V.step hc hl) O O)<|pk<|xf<|(ZZ (hy.al.ext Y)).mono ?_
 rintro r4 w4 ⟨ha,hz⟩;refine ⟨(Y.trans ha).any,?_⟩;refine pk<|xf<|(ZZ ((hy.mr.ext Y).ext ha)).mono ?_;rintro r5 w5 ⟨hg,h2⟩;refine ⟨((Y.trans ha).trans hg).any,?_⟩;refine pk<|xf<|(K0 (((hy.ed.ext Y).ext ha).ext hg)).mono ?_;rintro r6 w6 ⟨h4,h5⟩;have hn:=((Y.trans ha).trans hg).trans h4;refine ⟨hn.any,?_⟩
 refine p (λ_=>QD ⟨Q0 hz,O,Q0 h2,Q0 h5,U⟩)<|p (λ_=>ZY [(0,[.string q.nm]),(1,[r4,.int .i64 q.p.a.st,r5,r6])] ⟨O,O,O,O,U⟩)<|pk<|QC (us:=[Zh ⟨q.nm,⟨r4,r5,r6,q.p.a⟩⟩]) O O (by decide) (by simp) ⟨rfl,rfl,U⟩ λgb w7 he gc hM=>⟨(hn.trans he).any,?_⟩;have ho:=(hj.trans hn).trans he;have ge:=ho.size;have gg:({ E with drawn:=E.drawn+1 }:World).heap.size=E.heap.size:=rfl
 have gh:=ha.size;have gi:=hg.size;refine pk<|Q5 (m:=1) (news:=Zh ⟨q.nm,⟨r4,r5,r6,q.p.a⟩⟩) (L:=[]) (Qq I.own ho) O O O (hM.at (by simp)) (λu hu=>by
   simp only[List.mem_cons,List.not_mem_nil,or_false] at hu;rcases hu with rfl | rfl | rfl | rfl | rfl
   ·rfl
   ·exact QH hz
   ·rfl
   ·exact QH h2
   exact QH h5) (by omega) (by omega) λv8 w8 hN h6 hO=>⟨(hn.trans he).any.trans' h6,?_⟩
 refine p (λ_=>Qg)<|pe ?_;have hP:=G.al.le;have hQ:=G.mr.le;have hR:=G.ed.le;have hS:IvP w.heap.size w8 v8 (qo++[⟨q.nm,⟨r4,r5,r6,q.p.a⟩⟩]):=I.app ho (λt ht=>by
  simp only[List.mem_cons,List.not_mem_nil,or_false] at ht;rcases ht with rfl | rfl | rfl
  ·exact ⟨_,_,Qq (Qq (Qq hz hg) h4) he,hP,by omega⟩
  ·exact ⟨_,_,Qq (Qq h2 h4) he,hQ,by omega⟩
  exact ⟨_,_,Qq h5 he,hR,by omega⟩) (by omega) hN h6 hO
 refine Qy<|QO O O<|Qb<|xe<|⟨(k+1,v8,_),by simp only[];omega,⟨O,O,U⟩,J,(H.trans ho).then h6 (λb hb=>.inr (hw b hb).1),hS,?_,λq' hT=>?_⟩
 ·simp only[];rw[hB,Lu,hf];rfl
 rcases Lj.1 hT with h9 | h9
 ·exact hp q' h9
 simp only[List.mem_singleton] at h9;subst h9;exact hH
theorem zP {L:LN}{w:World}{bp bm:Nat}{G H I J:Value}{co:LI}{mi:Bool}(S:QZ w.heap bp 95 [G,H,I,J]) (hm:QZ w.heap bm 4 [.bool mi]) (V:QL L w.heap G co) (hi:Z0 co) (n:Int) :
  QK prog 83 [.int .i64 n,.pointer (some ⟨bp,0,none⟩),.pointer (some ⟨bm,0,none⟩)] w λr w'=>Step [bm] w w'∧r=.int .i64 (lwB co n)∧QZ w'.heap bm 4 [.bool (mi || !decide (n∈co))]:=by
 refine QK.of_W func83 O ntmps83 results83 (by simp) ?_;refine Qc<|Qe<|Qc<|x (Qa O)<|x (Qd S O O)<|Qb<|xl O<|xf<|(QaY V hi n).mono ?_;rintro r1 Y ⟨rfl,rfl⟩;refine Qb<|x (Qk O O)<|x (Qk O O)<|x Qg<|Qe<|QT (α:=Bool) [(14,18)] (λz=>[]) (λz w'=>Step [bm] Y w'∧QZ w'.heap bm 4 [.bool (mi || !decide (n∈co))]) (by rfl) ?_ ?_
 ·refine Qy<|xB (Qd hm O O) (λE=>?_) (λE=>?_)
  ·refine Qb<|xs O<|xs O<|x (Ql O)<|xl O<|QF (j:=0) (u:=.bool true) hm O O (by simp) rfl λw2 ha hb=>xe ?_;exact ⟨true,U,ha,by rw[E];exact hb⟩
  refine Qb<|Qb<|x (Zm O)<|x (Ql O)<|xl O<|QF (j:=0) (u:=.bool (!decide (n∈co))) hm O O (by simp) rfl λw3 hc he=>xe ?_;exact ⟨true,U,hc,by rw[E];exact he⟩
 rintro z g w4 ⟨hf,hg⟩;refine Qc<|Qb<|Qe ?_;exact Qn ⟨[_],Z,hf,O,hg⟩
theorem ZN.of_lt {base N:Nat}{av:LN}{H:Array Obj}{v:Value}{n sz:Nat}{cs:LV}(h:∀L:LN,(∀b∈L,b<N)→Zs L H v n sz cs) (hb:base≤N) (E:∀b∈av,b<N):ZN base av H v n sz cs:=λL G =>
 h L (λb I=>(G b I).elim (λh=>by omega) (E b))
theorem JA (L:LN) (H:Array Obj):QL L H (nS) []:=Zs.nil L H 1
end Go.Proofs.YtdffckgdcegpaaaGreatDoor
namespace Go.Lg
open Go.RowKit
def zb (P:Program) (all:List Oper) (C:World→Prop) (K:LN→Fr→World→Prop):List (Nat×Bool)→LN→Fr→World→Prop
 | [],own,f,w=>K own f w
 | (j,true)::l,own,f,w=>Yk all f (Q6 all j)=true∧∃v,(∀w',(zl (Q6 all j)=true→C w')→(execOp (ev f) (Q6 all j)).run P w'=.ok (.value v) w')∧zb P all C K l own (QV f (Q6 all j).dst v) w
 | (j,false)::l,own,f,w=>Yk all f (Q6 all j)=true∧∀w1,Step [] w w1→C w1→XO P (Q6 all j) f w1 λE w'=>C w'∧∃own',Step own w1 w'∧(∀b∈own',b∈own∨(w1.heap.size≤b∧b<w'.heap.size))∧zb P all C K l own' E w'
section
variable {P:Program} {n:Nat} {f:Fr} {w:World} {all:List Oper} {C:World→Prop} {K:Fr→World→Prop} {KF:LN→Fr→World→Prop}
theorem zb.ext (E:∀own f w w',KF own f w→Step [] w w'→KF own f w'):∀{l:List (Nat×Bool)}{own:LN}{f:Fr}{w w':World},zb P all C KF l own f w→Step [] w w'→zb P all C KF l own f w'
 | [],_,_,_,_,h,hs=>E _ _ _ _ h hs
 | (_,true)::_,_,_,_,_,h,hs=>by
  obtain ⟨G,v,H,hx⟩:=h;exact ⟨G,v,H,zb.ext E hx hs⟩
 | (_,false)::_,_,_,_,_,h,hs=>⟨h.1,λI h1 hc=>h.2 I (hs.trans h1) hc⟩
structure Fl2 (P:Program) (all:List Oper) (C:World→Prop) (K:Fr→World→Prop) (KF:LN→Fr→World→Prop) (i d:Nat) (rest:List (Nat×Bool)) (Φ:Value→World→Prop) (Dc:List (Nat×Nat)) (f1:Fr):Prop where
 stab:∀v (own:LN) w w',Φ v w→Step own w w'→(∀b∈ow v,b∉own)→Φ v w'
 spec:∀f w,(∀t,XC Dc t=false→f t=f1 t)→C w→XO P (Q6 all i) f w λf' w'=>Step [] w w'∧C w'∧Φ (f' d) w'∧∀b∈ow (f' d),w.heap.size≤b∧b<w'.heap.size
 fin:∀own f w,KF own f w→∀v,C w→Φ v w→(∀b∈ow v,b∉own∧b<w.heap.size)→XP P all C K rest (QV f (some d) v) w
 mono:∀own f w w',KF own f w→Step [] w w'→KF own f w'
attribute [local semireducible] XP in
theorem Ue {i d:Nat}{rest:List (Nat×Bool)}{Φ:Value→World→Prop}{Dc:List (Nat×Nat)}{f1:Fr}(G:Fl2 P all C K KF i d rest Φ Dc f1) (hs:Region.noSelect all.toArray=true) {v:Value}:∀(l:List (Nat×Bool)) (own:LN) (f:Fr) (w:World),Ye all d l=true→zb P all C KF l own f w→C w→Φ v w →
  (∀b∈ow v,b∉own∧b<w.heap.size)→XP P all C K (l++rest) (QV f (some d) v) w
 | [],own,f,w,_,h,hC,H,hb=>G.fin own f w h v hC H hb
 | (j,q)::l,own,f,w,hfr,h,hC,H,hb=>by
  simp only[Ye,List.all_cons,Bool.and_eq_true,Bool.not_eq_true',List.contains_eq_mem,decide_eq_false_iff_not,beq_eq_false_iff_ne,ne_eq] at hfr;obtain ⟨⟨h1,h2⟩,hfr⟩:=hfr;have I:Ye all d l=true:=by simpa[Ye] using hfr
  have S:∀cs b,(Q6 all j).op≠.select cs b:=by
   intro cs b;cases J:all[j]? with
   | none =>
    have:Q6 all j=default:=by
     clear h h1 h2 hfr I;have key:∀(l:List Oper) (j:Nat),l[j]?=none→Q6 l j=default:=by
      intro l;induction l with
      | nil=>intro j _;rfl
      | cons a l ih=>intro j V;cases j with | zero=>simp at V | succ j=>exact ih j (by simpa using V)
     exact key all j J
    rw[this];intro e;cases e
   | some o=>rw[Zp J];exact Region.noSelect_spec hs j o cs b (by simpa using J)
  have hd:∀e,some d=some e→e∉(Q6 all j).looksAt all.toArray:=λe he=>by cases he;exact h1
  cases q with
  | true =>
   obtain ⟨hg,u,hu,hx⟩:=h;simp only[List.cons_append,XP];rw[Jq (Q6 all j) f (some d) v hd,hg,cond_true,cond_true];refine ⟨u,λw' hc=>?_,?_⟩
   ·rw[Xf (all:=all) S f (some d) v hd];exact hu w' hc
   rw[Ks f v u (λe he=>by cases he;exact h2)];exact Ue G hs l own _ w I hx hC H hb
  | false =>
   simp only[List.cons_append,XP];rw[Jq (Q6 all j) f (some d) v hd,h.1,cond_true,cond_false];refine QdQ (all:=all) S h1 h2 (λu w' hx=>?_) (h.2 w (Step.refl _ _) hC);obtain ⟨Y,own',ha,hf,hx⟩:=hx;refine ⟨.inr (.inr Y),Ue G hs l own' _ w' I hx Y (G.stab v own w w' H ha (λb E=>(hb b E).1)) (λb E=>⟨λhm=>?_,L2 (hb b E).2 ha.size⟩)⟩
   rcases hf b hm with h3 | h3
   ·exact (hb b E).1 h3
   exact Nat.lt_irrefl _ (L2 (hb b E).2 h3.1)
theorem Qcj {i d:Nat}{rest:List (Nat×Bool)}{Φ:Value→World→Prop}{Dc:List (Nat×Nat)}{f1:Fr}(G:Fl2 P all C K KF i d rest Φ Dc f1) (hs:Region.noSelect all.toArray=true) (S:(Q6 all i).guard=none) (hd:(Q6 all i).dst=some d):∀(l:List (Nat×Bool)) (ls:Array Bool) (own:LN) (f:Fr) (w:World),ls.size=all.length→Ye all d l=true→Ya all Dc l=true→(∀t,XC Dc t=false→f t=f1 t) →
  zb P all C KF l own f w→C w→(∀b∈own,b<w.heap.size)→qN all.toArray i rest l ls=true→XA P all C K (l.length+1+rest.length) ls f w
 | [],ls,own,f,w,ha,hfr,H,V,h,hC,Y,hp=>by
  simp only[qN,Bool.and_eq_true,beq_iff_eq] at hp;obtain ⟨I,hp⟩:=hp;rw[show ([]:List (Nat×Bool)).length+1+rest.length=rest.length+1 by simp;omega];refine JM (λh0=>(by rw[h0] at I;cases I)) ?_;rw[I];intro k hk o E;have he:k=i:=by simpa using hk
  subst he;have hc:=Zp E;have hx:=G.spec f w V hC;rw[hc] at S hd hx;rw[VA S,cond_true];refine hx.mono λv w' hx=>?_;rw[hd] at hx ⊢;obtain ⟨h1,h2,h3,J⟩:=hx;simp only[QV,YL] at h3 J
  refine ⟨.inr (.inr h2),ZD hs rest _ _ _ (by simpa using ha) (.inl h2) hp (G.fin own f w' (G.mono own f w w' h h1) v h2 h3 (λb hb=>⟨λhm=>Nat.lt_irrefl _ (L2 (Y b hm) (J b hb).1),(J b hb).2⟩))⟩
 | (j,true)::l,ls,own,f,w,ha,hfr,H,V,h,hC,Y,hp=>by
  simp only[qN,Bool.and_eq_true] at hp;obtain ⟨⟨I,hf⟩,hh⟩:=hp;have hq:j∈Region.ready .any all.toArray ls:=by simpa using I
  have e:(List.length ((j,true)::l))+1+rest.length=(l.length+1+rest.length)+1:=by simp;omega
  rw[e];have hl:Ye all d l=true:=by simp only[Ye,List.all_cons,Bool.and_eq_true] at hfr;exact hfr.2
  simp only[Ya,List.all_cons,Bool.and_eq_true] at H;have hn:Ya all Dc l=true:=H.2;cases E:all[j]? with
  | none =>
   exfalso;obtain ⟨_,o,hz,_⟩:=mem_ready.1 hq;simp[E] at hz
  | some o =>
   obtain ⟨ht,v,hv,hx⟩:=h;rw[Zp E] at ht hv hx;have h5:∀(j:Nat) (o:Oper) cs b,all[j]?=some o→o.op≠.select cs b:=λj o cs b hj=>Region.noSelect_spec hs j o cs b (by simpa using hj);have h6:=λk ok hk=>Region.free_spec (ops:=all.toArray) (md:=.any) (i:=j) (oi:=o) (listed:=ls) (by simpa using E) hf k ok (by simpa using hk)
   exact Xg (v:=v) (D:=λw=>zl o=true→C w) E (λ_ h=>h) h5 _ ls f w (λ_=>hC) h6 hq (.inl ⟨ht,hv⟩) (Qcj G hs S hd l _ own _ w (by simpa using ha) hl hn (by have:=Kc (v:=v) H.1 V;rw[Zp E] at this;exact this) hx hC Y hh)
 | (j,false)::l,ls,own,f,w,ha,hfr,H,V,h,hC,Y,hp=>by
  simp only[qN,Bool.and_eq_true,List.all_eq_true,Bool.or_eq_true,beq_iff_eq,Bool.not_eq_true'] at hp;obtain ⟨⟨⟨hu,I⟩,h7⟩,hh⟩:=hp;have e:(List.length ((j,false)::l))+1+rest.length=(l.length+1+rest.length)+1:=by simp;omega
  rw[e];have hl:Ye all d l=true:=by simp only[Ye,List.all_cons,Bool.and_eq_true] at hfr;exact hfr.2
  simp only[Ya,List.all_cons,Bool.and_eq_true] at H;have hn:Ya all Dc l=true:=H.2;refine JM (λh0=>(by rw[h0] at hu;cases hu)) ?_;intro k hk o E;have hc:=Zp E;have hw:(ls.setIfInBounds k true).size=all.length:=by simpa using ha
  by_cases he:k=i
  ·subst he;have hx:=G.spec f w V hC;rw[hc] at S hd hx;rw[VA S,cond_true];refine hx.mono λv w' hx=>?_;rw[hd] at hx ⊢;obtain ⟨h1,h2,h3,J⟩:=hx;simp only[QV,YL] at h3 J;refine ⟨.inr (.inr h2),?_⟩;have hx:=Ue G hs ((j,false)::l) own f w' hfr (zb.ext G.mono h h1) h2 h3 (λb hb=>⟨λhm=>Nat.lt_irrefl _ (L2 (Y b hm) (J b hb).1),(J b hb).2⟩)
   have:=ZD hs ((j,false)::(l++rest)) _ _ _ hw (.inl h2) h7 hx;rw[show ((j,false)::(l++rest)).length=l.length+1+rest.length by simp;omega] at this;exact this
  have h8:k=j:=(I k hk).resolve_right he;subst h8;have h1:=h.1;have h2:=h.2 w (Step.refl _ _) hC;rw[hc] at h1 h2;rw[h1,cond_true];refine h2.mono λv w' hx=>?_;obtain ⟨hy,own',h9,hA,hx⟩:=hx;refine ⟨.inr (.inr hy),Qcj G hs S hd l _ own' _ w' hw hl hn (by have:=Kc (v:=v) H.1 V;rw[hc] at this;exact this) hx hy (λb hb=>?_) hh⟩;rcases hA b hb with h3 | h3
  ·exact L2 (Y b h3) h9.size
  exact h3.2
theorem zb.keeps {D:List (Nat×Nat)}{f0:Fr}:∀(l:List (Nat×Bool)) (own:LN) (f:Fr) (w:World),Ya all D l=true→(∀t,XC D t=false→f t=f0 t)→zb P all C KF l own f w→zb P all C (λo G w'=>(∀t,XC D t=false→G t=f0 t)∧KF o G w') l own f w
 | [],own,f,w,_,E,h=>⟨E,h⟩
 | (j,true)::l,own,f,w,hd,E,h=>by
  simp only[Ya,List.all_cons,Bool.and_eq_true] at hd;obtain ⟨H,v,I,hx⟩:=h;exact ⟨H,v,I,zb.keeps l own _ _ hd.2 (Kc hd.1 E) hx⟩
 | (j,false)::l,own,f,w,hd,E,h=>by
  simp only[Ya,List.all_cons,Bool.and_eq_true] at hd;refine ⟨h.1,λJ h1 hc=>XO.mono (λv w' hx=>?_) (h.2 J h1 hc)⟩;obtain ⟨S,own',V,Y,hx⟩:=hx;exact ⟨S,own',V,Y,zb.keeps l own' _ _ hd.2 (Kc hd.1 E) hx⟩
theorem f2p {j:Nat}{l:List (Nat×Bool)}{own:LN}{v:Value}(E:∀w',(execOp (ev f) (Q6 all j)).run P w'=.ok (.value v) w') (h:zb P all C KF l own (QV f (Q6 all j).dst v) w)
  (G:Yk all f (Q6 all j)=true:=by rfl):zb P all C KF ((j,true)::l) own f w:=⟨G,v,λw' _=>E w',h⟩
theorem f2k {j:Nat}{l:List (Nat×Bool)}{own:LN}(h:∀w1,Step [] w w1→C w1→XO P (Q6 all j) f w1 λE w'=>C w'∧∃own',Step own w1 w'∧(∀b∈own',b∈own∨(w1.heap.size≤b∧b<w'.heap.size))∧zb P all C KF l own' E w')
  (G:Yk all f (Q6 all j)=true:=by rfl):zb P all C KF ((j,false)::l) own f w:=⟨G,h⟩
theorem f2e {own:LN}(h:KF own f w):zb P all C KF [] own f w:=h
theorem yp {Q:Exit→Fr→World→Prop}{id:Nat}{α:Type}(C:World→Prop) (pre l:List (Nat×Bool)) (i d:Nat) (rest:List (Nat×Bool)) (own:LN) (D Dc:List (Nat×Nat)) (S:α→List (Nat×Value)) (I:α→LN→World→Prop) (Φ:Value→World→Prop) (hm:P.follows .mixedOrders=true) (V:X7 n all=true)
  (hp:Qg6 all pre l i rest=true) (G:(Ya all D pre && Ya all D l && Ya all Dc l)=true) (hd:(Q6 all i).dst=some d) (hC:C { w with drawn:=w.drawn+1 }) (Y:∀b∈own,b<w.heap.size)
  (stab:∀v (own:LN) w w',Φ v w→Step own w w'→(∀b∈ow v,b∉own)→Φ v w') (mono:∀z own w w',I z own w→Step [] w w'→I z own w')
  (fin:∀z g own w v,I z own w→C w→Φ v w→(∀b∈ow v,b∉own∧b<w.heap.size)→XP P all C (λf w=>Q .normal f w) rest (QV (yy (S z) (mix D f g)) (some d) v) w)
  (h:XP P all C (λf1 _=>(∀g w,C w→XO P (Q6 all i) (mix Dc f1 g) w λE w'=>Step [] w w'∧C w'∧Φ (E d) w'∧∀b∈ow (E d),w.heap.size≤b∧b<w'.heap.size)∧zb P all C (λo E w'=>∃z,XK E (S z)∧I z o w') l own f1 { w with drawn:=w.drawn+1 }) pre f { w with drawn:=w.drawn+1 }):W P n (.region id all.toArray true) Q f w:=by
 rw[Lv,Lv] at G;simp only[Qg6,Bool.and_eq_true,beq_iff_eq,Option.isNone_iff_eq_none] at hp;obtain ⟨⟨⟨⟨⟨hs,hl⟩,hq⟩,ha⟩,hg⟩,hfr⟩:=hp;rw[hd] at hfr;refine K6 C hm V ?_;have h1:=YU (K:=λf w=>Q .normal f w) (m:=l.length+1+rest.length) hs pre (Array.replicate all.length false) f _ hC hq
  (B:=λf1 _=>Fl2 P all C (λf w=>Q .normal f w) (λo E w'=>(∀t,XC D t=false→E t=f t)∧∃z,XK E (S z)∧I z o w') i d rest Φ Dc f1∧zb P all C (λo E w'=>(∀t,XC D t=false→E t=f t)∧∃z,XK E (S z)∧I z o w') l own f1 { w with drawn:=w.drawn+1 })
  (λf1 J=>Qcj J.1 hs hg hd l (Z3 pre (Array.replicate all.length false)) own f1 _ (by rw[YW];simp) hfr G.2 (λ_ _=>rfl) J.2 hC Y ha)
  (XP.keeps_mono _ _ _ (XP.keeps pre f _ G.1.1 (λ_ _=>O) h) (λf1 w1 hx=>⟨⟨stab,?_,?_,?_⟩,zb.keeps l own _ _ G.1.2 hx.1 hx.2.2⟩))
 ·rw[hl] at h1;exact h1
 ·intro E w' hk H;have:=hx.2.1 E w' H;rw[J8 hk] at this;exact this
 ·rintro o E w' ⟨hk,z,hs,hi⟩ v H hv hb;have:=fin z E o w' v hi H hv hb;rw[J8 hk,Y1 hs] at this;exact this
 rintro o E w' he ⟨hk,z,hs,hi⟩ hc;exact ⟨hk,z,hs,mono z o _ _ hi hc⟩
end
attribute [irreducible] zb
end Go.Lg
namespace Go.Proofs.YtdffckgdcegpaaaGreatDoor
open Go.Lg
abbrev Yq:LV:=[nS,nS,nS,nS,nS]
abbrev JV:LV:=[nS,.int .i64 0,nS,nS]
theorem Y3 {a:Array UInt8}(h:a.size≤100):(⟨a⟩:ByteArray).size≤9223372036854775807:=by
 show a.size≤_;omega
def rgB (N M:Nat):LN:=(List.range M).filter λb=>decide (N≤b)
theorem YC {N M b:Nat}:b∈rgB N M↔N≤b∧b<M:=by
 unfold rgB;rw[LR,MU,decide_eq_true_iff];exact And.comm
open Go.Proofs.Tryz
def KI (co:LI) (ls:List (Int×Int)):List (Int×Int):=ls.map λl=>((lwB co l.1:Int),l.2)
theorem Qdk {co:LI}(hi:Z0 co) {ls:List (Int×Int)}(h:mis co ls=false):KI co ls=jj co ls:=by
 unfold KI jj;refine Na λl hl=>?_;unfold mis at h;have h1:=M7.1 h l hl;have hm:l.1∈co:=by simpa using h1
 rw[Qdb hi hm]
abbrev exG (c:Q8) (i:Int):jF:=c.ex.getD i.toNat ⟨.empty,[]⟩
abbrev csG (c:Q8) (i:Int):Xr:=c.cs.getD i.toNat ⟨.empty,[],0⟩
def exB (c:Q8) (co ix:LI):List jF:=ix.map λi=>⟨(exG c i).nm,KI co (exG c i).ls⟩
def csB (c:Q8) (co ix:LI):List Xr:=ix.map λi=>⟨(csG c i).nm,KI co (csG c i).ts,(csG c i).bd⟩
def exM (c:Q8) (co ix:LI):Bool:=ix.any λi=>mis co (exG c i).ls
def csM (c:Q8) (co ix:LI):Bool:=ix.any λi=>mis co (csG c i).ts
theorem QiJ (c:Q8) (p:Prt):QfJ c p=(exM c p.co p.ex || csM c p.co p.cs):=rfl
theorem QjJ {c:Q8}{p:Prt}(hi:Z0 p.co) (h:exM c p.co p.ex=false):exB c p.co p.ex=QiI c p:=by
 unfold exB QiI;refine Na λi E=>?_;rw[Qdk hi (by have:=M7.1 h i E;simpa using this)]
theorem QjR {c:Q8}{p:Prt}(hi:Z0 p.co) (h:csM c p.co p.cs=false):csB c p.co p.cs=QiK c p:=by
 unfold csB QiK;refine Na λi E=>?_;rw[Qdk hi (by have:=M7.1 h i E;simpa using this)]
def ck4:List (Value×LI×Int)→Int
 | []=>0
 | (_,s,n)::l=>if Xp n none s≠0 then Xp n none s else ck4 l
abbrev skC (x:Value×LI×Int):LV:=[x.1,.int .i64 x.2.2]
theorem QkU (x:Value×LI×Int):(skC x).length=2:=rfl
theorem QaS:∀{l:List (Value×LI×Int)},ck4 l=0→∀x∈l,Xp x.2.2 none x.2.1=0
 | [],_,x,hx=>by cases hx
 | (v,s,n)::l,h,x,hx=>by
  rw[ck4] at h;by_cases h1:Xp n none s≠0
  ·rw[if_pos h1] at h;exact absurd h h1
  rw[if_neg h1] at h;rcases Lb.1 hx with rfl | hx
  ·exact Ls.1 h1
  exact QaS h x hx
theorem Z2.app2 {α:Type}{g:α→LV}{sz T:Nat}{p:α→Value×Nat×Nat×LV}{base N e:Nat}{E G:World}{v H:Value}{l:List α}{q:α}(h:Z2 g sz T p base E v l)
  (hq:E.ownsRow N e (p q).2.2.1 (p q).1 (p q).2.1 (p q).2.2.2) (S:(p q).2.1≤1099511627776) (hb:base≤N) (V:∀b∈ob v,b<N)
  (Y:G.ownsRow base T sz H (l.length+1) (l.flatMap g++g q)) (I:Step (ob v) E G) (J:∀b∈ob H,b∈ob v∨E.heap.size≤b):Z2 g sz T p base G H (l++[q]):=by
 refine ⟨?_,λd hd=>?_⟩
 ·rw[Lh,Ly];simpa using Y
 rcases Lj.1 hd with hd | hd
 ·exact (h.each d hd).app I J
 simp only[List.mem_singleton] at hd;subst hd;exact (ZN.of_own hq S hb V).app I J
instance:Bw prog 47 [nS,nS,nS,nS,nS] [(0,1),(1,1),(2,1),(3,1),(4,1)]:=⟨by kernel_rfl,by decide⟩
theorem zV {v:Value}(h:v.oneCell'=true):v.cells=[v].toArray:=by
 cases v <;> first | rfl | cases h
theorem QgS {N M:Nat}{w':World}{v:Value}{qs:List IV}(h:∀L:LN,(∀b∈L,b<N)→Xm L w'.heap v qs) (H:w'.heap.size=M) {L:LN}(E:∀b∈L,b∉rgB N M):Xm L w'.heap v qs:=by
 refine (h (L.filter λb=>decide (b<N)) (λb hb=>by have:=(LR.1 hb).2;exact of_decide_eq_true this)).up (λb hb=>?_);by_cases G:b<N
 ·exact .inl (LR.2 ⟨hb,decide_eq_true G⟩)
 refine .inr ?_;have:=E b hb;rw[YC] at this;omega
structure EiA (L:LN) (H:Array Obj) (z:Value×Value×Value) (ev:List KG) (qc qr:List IV):Prop where
 ev:K8 L H z.1 ev
 co:Xm L H z.2.1 qc
 rq:Xm L H z.2.2 qr
theorem EiA.ext {L:LN}{w w':World}{z:Value×Value×Value}{ev:List KG}{qc qr:List IV}(h:EiA L w.heap z ev qc qr) (hs:Step [] w w'):EiA L w'.heap z ev qc qr:=⟨h.ev.ext hs,h.co.ext hs,h.rq.ext hs⟩
theorem EiA.st {L:LN}{w w':World}{z:Value×Value×Value}{ev:List KG}{qc qr:List IV}(h:EiA L w.heap z ev qc qr) (hs:Step L w w'):EiA L w'.heap z ev qc qr:=⟨h.ev.st hs,h.co.st hs,h.rq.st hs⟩
theorem EiA.up {L L':LN}{H:Array Obj}{z:Value×Value×Value}{ev:List KG}{qc qr:List IV}(h:EiA L H z ev qc qr) (E:∀b∈L',b∈L∨H.size≤b):EiA L' H z ev qc qr:=⟨h.ev.up E,h.co.up E,h.rq.up E⟩
set_option maxRecDepth 4096 in
set_option maxHeartbeats 16000000 in
theorem Qcf {L:LN}{w:World}{c:CL}{v0 v1 v2 v3:Value}{p:Prt}(J:ZF L w.heap c) (hc0:QL L w.heap v0 p.co) (hr0:QL L w.heap v1 p.rq) (hx0:QL L w.heap v2 p.ex) (hk0:QL L w.heap v3 p.cs) :
  QK prog 33 [c.val,.agg #[v0,v1,v2,v3]] w λr w'=>Step [] w w'∧∃us,r=.tuple #[.agg us.toArray,.int .i64 (qe c.cel p)]∧us.length=5∧ZQ us∧(qe c.cel p≠0→us=Yq)∧(qe c.cel p=0→Qig w.heap.size w'.heap (.agg us.toArray) (Qd3 c.cel p)):=by
 have h:=J.up (L':=[]) (by simp);have hc:=hc0.up (L':=[]) (by simp);have hr:=hr0.up (L':=[]) (by simp);have hx:=hx0.up (L':=[]) (by simp);have hk:=hk0.up (L':=[]) (by simp)
 have S:qe c.cel p=if Zb c.cel≠0 then Zb c.cel else if ck4 [(v0,p.co,(c.co.length:Int)),(v1,p.rq,(c.rq.length:Int)),(v2,p.ex,(c.ex.length:Int)),(v3,p.cs,(c.cs.length:Int))]≠0 then ck4 [(v0,p.co,(c.co.length:Int)),(v1,p.rq,(c.rq.length:Int)),(v2,p.ex,(c.ex.length:Int)),(v3,p.cs,(c.cs.length:Int))]
   else if (exM c.cel p.co p.ex || csM c.cel p.co p.cs)=true then 13 else Zb (Qd3 c.cel p):=by
  have e1:c.cel.co.length=c.co.length:=Le ..;have e2:c.cel.rq.length=c.rq.length:=Le ..;have e3:c.cel.ex.length=c.ex.length:=Le ..;have e4:c.cel.cs.length=c.cs.length:=Le ..;unfold qe;rw[e1,e2,e3,e4,QiJ];simp only[ck4];by_cases q0:Zb c.cel≠0
  ·rw[if_pos q0,if_pos q0]
  rw[if_neg q0,if_neg q0];by_cases q1:Xp (c.co.length:Int) none p.co≠0
  ·simp only[if_pos q1]
  simp only[if_neg q1];by_cases q2:Xp (c.rq.length:Int) none p.rq≠0
  ·simp only[if_pos q2]
  simp only[if_neg q2];by_cases q3:Xp (c.ex.length:Int) none p.ex≠0
  ·simp only[if_pos q3]
  simp only[if_neg q3];by_cases q4:Xp (c.cs.length:Int) none p.cs≠0
  ·simp only[if_pos q4]
  simp only[if_neg q4];simp
 refine Zc (qe c.cel p) λE hE=>?_;rw[hE] at S ⊢;refine Zc [(v0,p.co,(c.co.length:Int)),(v1,p.rq,(c.rq.length:Int)),(v2,p.ex,(c.ex.length:Int)),(v3,p.cs,(c.cs.length:Int))] λI gn=>?_;rw[gn] at S;have hl4n:I.length=4:=by rw[←gn];rfl
 have hl4i:∀x∈I,QL [] w.heap x.1 x.2.1:=by
  rw[←gn];intro x hm;simp only[List.mem_cons,List.not_mem_nil,or_false] at hm;rcases hm with rfl | rfl | rfl | rfl
  ·exact hc
  ·exact hr
  ·exact hx
  exact hk
 have hl4z:ck4 I=0→Xp (c.co.length:Int) none p.co=0∧Xp (c.rq.length:Int) none p.rq=0∧Xp (c.ex.length:Int) none p.ex=0∧Xp (c.cs.length:Int) none p.cs=0:=by
  intro J;have h1:=QaS J;rw[←gn] at h1;exact ⟨h1 (v0,p.co,_) (by simp),h1 (v1,p.rq,_) (by simp),h1 (v2,p.ex,_) (by simp),h1 (v3,p.cs,_) (by simp)⟩
 have hcl:=hc.le;have hrl:=hr.le;have hxl:=hx.le;have hkl:=hk.le;have hexl:=h.ex.arr.le;have hcsl:=h.cs.arr.le;refine QK.of_W func33 O ntmps33 results33 (by simp) ?_;refine Qc<|xl O<|QS (us:=c.cells) O λb2 w1 hs1 hb2 m0=>xl O<|QS (us:=[v0,v1,v2,v3]) O λb3 w2 ki hb3 hB3=>xl O<|Qt (us:=Yq) O λb4 w3 go hb4 hB4=>Qe ?_;have hz1:=hs1.size;have hz2:=ki.size;have hz3:=go.size;have hl2:=m0.lt
 have hl3:=hB3.lt;have hl4':=hB4.lt;have hs03:=(hs1.trans ki).trans go;refine Qf<|Qc<|x (Qr ((m0.ext ki).ext go) O O)<|xl O<|xf<|(Y4 (h.ext hs03)).mono ?_;rintro r4 w4 ⟨rfl,gp⟩;refine Qe ?_;have m1:=hs03.trans gp;have hz4:=gp.size;have gq:=((m0.ext ki).ext go).ext gp;have gr:=(hB3.ext go).ext gp;have m2:=hB4.ext gp;refine Qc<|Qb<|x (Q9 O O)<|xe ?_
 refine Q7 rfl (λkj=>?_) (λkj=>?_)
 ·rw[if_pos kj] at S;subst S;refine Qc<|x (QD U)<|Qb<|xl O<|Qo (us:=Yq) m2 O O O O ⟨O,O,O,O,O,U⟩ λw5 hs5 hB45=>Qe ?_;exact Qn ⟨[.agg Yq.toArray,.int .i64 (Zb c.cel)],⟨⟨_,O,Qv O (hB45.at (L:=[]) (by simp)).cells⟩,rfl,U⟩,m1.then1 hs5 (by omega),Yq,rfl,rfl,⟨rfl,rfl,rfl,rfl,rfl,U⟩,λ_=>rfl,λJ=>absurd J kj⟩
 rw[if_neg kj] at S;refine Qi ?_;have h4:=h.ext m1;refine Qf<|Qc<|x (Qa O)<|x (Qd gr O O)<|x (Qa O)<|x (Qd gq O O)<|x (Qs h4.co.arr O)<|x (QD ⟨hc.cells,O,U⟩) <|
  x (Qa rfl)<|x (Qd gr O O)<|x (Qa O)<|x (Qd gq O O)<|x (Qs h4.rq.arr O)<|x (QD ⟨hr.cells,O,U⟩) <|
  x (Qa rfl)<|x (Qd gr O O)<|x (Qa O)<|x (Qd gq O O)<|x (Qs h4.ex.arr O)<|x (QD ⟨hx.cells,O,U⟩) <|
  x (Qa rfl)<|x (Qd gr O O)<|x (Qa O)<|x (Qd gq O O)<|x (Qs h4.cs.arr O)<|x (QD ⟨hk.cells,O,U⟩) <|
  xl rfl<|QC (us:=[skC (v0,p.co,(c.co.length:Int)),skC (v1,p.rq,(c.rq.length:Int)),skC (v2,p.ex,(c.ex.length:Int)),skC (v3,p.cs,(c.cs.length:Int))]) O O (by decide) (by simp) ⟨rfl,rfl,rfl,rfl,rfl,rfl,rfl,rfl,U⟩ λb54 w6 hX hb54 hB54=>?_
 have hA54:Zs [] w6.heap (.slice (some ⟨b54,0,none⟩) 4 4) I.length 2 (I.flatMap skC):=by
  have:=hB54.arr (L:=[]) (by simp) (n:=4) (cap:=4) (sz:=2) (by rfl) (by omega) (Lt _);rw[hl4n,←gn];exact this
 refine x (Qs hA54 O)<|Qb<|xe ?_;have hs06:=m1.trans hX;have hz6:=hX.size;refine Qh<|QA (α:=Nat) [(5,5),(8,9),(56,69)] (λz=>[(56,.int .i64 z)]) (λz w'=>z≤I.length∧Step [] w6 w'∧ck4 (I.drop z)=ck4 I) (λz=>I.length - z) (by rfl) 0 Z ⟨Ll _,Step.refl _ _,O⟩ ?_;rintro k g Y ⟨hkl4,hC,hD⟩;have gs:=hs06.trans hC;have hz7:=hC.size;refine Qc<|x (QB O O)<|xe ?_
 refine Qf<|QG O (λm3=>?_) (λm3=>?_)
 ·refine Qz ?_;have hke:I.length≤k:=by have hy:¬(k:Int)<(I.length:Int):=m3;omega
  rw[Lr hke] at hD;have hck0:ck4 I=0:=hD.symm;rw[if_neg (λJ=>J hck0)] at S;obtain ⟨zco,zrq,zex,zcs⟩:=hl4z hck0;have gt:=(Yu _ _ _).1 zco;have hrq:=(Yu _ _ _).1 zrq;have hexz:=(Yu _ _ _).1 zex;have hcsz:=(Yu _ _ _).1 zcs;have h7:=h.ext gs;have kk:QZ Y.heap b2 47 c.cells:=(gq.ext hX).ext hC;have m4:QZ Y.heap b3 95 [v0,v1,v2,v3]:=(gr.ext hX).ext hC
  have hB47:QZ Y.heap b4 47 Yq:=(m2.ext hX).ext hC;have hsd:Step [] Y { Y with drawn:=Y.drawn+1 }:=Step.drew _ _
  refine QT (α:=Nat×(Value×Value×Value)×List IV×List IV) [(70,83),(10,10)] (λz=>[(10,.pointer (some ⟨z.1,0,none⟩))]) (λz w'=>Step [] Y w'∧Y.heap.size≤z.1∧QZ w'.heap z.1 47 [z.2.1.1,z.2.1.2.1,z.2.1.2.2,nS,nS] ∧
   z.2.2.1.map IV.it=chs c.cel.co p.co∧z.2.2.2.map IV.it=chs c.cel.rq p.rq∧ZQ [z.2.1.1,z.2.1.2.1,z.2.1.2.2]∧∀L:LN,(∀b∈L,b<Y.heap.size∨b=z.1)→EiA L w'.heap z.2.1 c.ev z.2.2.1 z.2.2.2) (by rfl) ?_ ?_
  ·refine yp (α:=(Value×Value×Value)×List IV×List IV) (Step [] Y) [(0,true),(1,true),(3,true),(4,true),(5,true),(6,true),(8,true),(9,true),(10,true),(11,true)] [(2,false),(7,false),(12,false),(13,true)] 14 10 [(15,false)] []
    [(70,83)] [(72,72),(77,77),(82,83)] (λz=>[(83,.agg [z.1.1,z.1.2.1,z.1.2.2,nS,nS].toArray)])
    (λz own w'=>(∀b∈own,Y.heap.size≤b)∧z.2.1.map IV.it=chs c.cel.co p.co∧z.2.2.map IV.it=chs c.cel.rq p.rq∧ZQ [z.1.1,z.1.2.1,z.1.2.2]∧∀L:LN,(∀b∈L,b∉own)→EiA L w'.heap z.1 c.ev z.2.1 z.2.2)
    (λv w'=>∃b,v=.pointer (some ⟨b,0,none⟩)∧Y.heap.size≤b∧QZ w'.heap b 47 Yq) mixed (by rfl) (by kernel_rfl) (by rfl) O hsd (by simp) ?_ ?_ ?_ ?_
   ·rintro v own wa wb ⟨b,rfl,hb,hB⟩ hs hn;exact ⟨b,O,hb,hB.step hs (hn b (by simp[ow]))⟩
   ·rintro z own wa wb ⟨h1,h2,h3,h4,h5⟩ hs;exact ⟨h1,h2,h3,h4,λL hL=>(h5 L hL).ext hs⟩
   ·rintro ⟨zv,qc,qr⟩ g own wz v ⟨i1,i2,i3,i4,i5⟩ hCz ⟨H,rfl,kn,hB10⟩ hbo;simp only[] at i2 i3 i4 i5;have hb10o:=(hbo H (by simp[ow])).1;refine pkl (hl:=by kernel_rfl)<|Qo (us:=[zv.1,zv.2.1,zv.2.2,nS,nS]) hB10 O O O O ⟨i4.1,i4.2.1,i4.2.2.1,O,O,U⟩ λw8 hY hB108=>pe ?_;refine ⟨(H,zv,qc,qr),Z,hCz.then1 hY kn,kn,hB108,i2,i3,i4,λL hL=>?_⟩;have h1:=i5 (H::L) (λb hb=>by
     rcases Lb.1 hb with rfl | hb
     ·exact hb10o
     rcases hL b hb with h2 | h2
     ·exact λh3=>by have:=i1 b h3;omega
     subst h2;exact hb10o)
    exact (h1.st (hY.mono (by simp))).up (λb hb=>.inl (by simp[hb]))
   refine Go.Lg.p (λ_=>Qa O)<|pq (λ_ hc=>Qd (kk.ext hc) O O)<|Go.Lg.p (λ_=>Qa O)<|pq (λ_ hc=>Qd (kk.ext hc) O O) <|
    Go.Lg.p (λ_=>Qa O)<|pq (λ_ hc=>Qd (m4.ext hc) O O)<|Go.Lg.p (λ_=>Qa O)<|pq (λ_ hc=>Qd (kk.ext hc) O O) <|
    Go.Lg.p (λ_=>Qa O)<|pq (λ_ hc=>Qd (m4.ext hc) O O)<|pe ⟨λg wf hCf=>Qt (us:=Yq) O λb wf' hsf hbf hBf=>⟨hsf,hCf.trans hsf,⟨b,O,LS hCf.size hbf,hBf⟩,λx hx=>?_⟩,?_⟩
   ·have hxe:x=b:=by
     have hx':x∈[b]:=hx;simpa using hx'
    subst hxe;exact ⟨hbf,hBf.lt⟩
   refine f2k λx1 p1 c1=>xf<|(Qca (h7.ev.ext c1).arr).mono ?_;rintro m5 y1 ⟨hs1',hZ⟩;refine ⟨c1.trans hs1',rgB x1.heap.size y1.heap.size,hs1'.any,λb hb=>.inr (YC.1 hb),?_⟩;refine f2k λx2 p2 c2=>xf<|(q6 (h7.co.ext c2) (hc.ext (gs.trans c2)) (λi hi=>gt.1 i hi)).mono ?_;rintro r77 y2 ⟨m6,⟨qc,ko,hqcI⟩,kp⟩
   refine ⟨c2.trans m6,rgB x1.heap.size y1.heap.size++rgB x2.heap.size y2.heap.size,m6.any,λb hb=>(Lj.1 hb).imp id λhb=>YC.1 hb,?_⟩;refine f2k λx3 p3 c3=>xf<|(q6 (h7.rq.ext c3) (hr.ext (gs.trans c3)) (λi hi=>hrq.1 i hi)).mono ?_;rintro r82 y3 ⟨kq,⟨qr,kr,hqrI⟩,kt⟩
   refine ⟨c3.trans kq,(rgB x1.heap.size y1.heap.size++rgB x2.heap.size y2.heap.size)++rgB x3.heap.size y3.heap.size,kq.any,λb hb=>(Lj.1 hb).imp id λhb=>YC.1 hb,?_⟩;refine f2p (λ_=>ZY [(0,[m5]),(1,[r77]),(2,[r82])] ⟨Q0 hZ,O,zV kp,O,zV kt,O,U⟩)<|f2e ?_;refine ⟨((m5,r77,r82),qc,qr),Z,λb hb=>?_,ko,kr,⟨QH hZ,kp,kt,U⟩,λL hL=>?_⟩
   ·have e1:=c1.size;have e2:=c2.size;have e3:=c3.size;rcases Lj.1 hb with hb | hb
    ·rcases Lj.1 hb with hb | hb
     ·have:=YC.1 hb;omega
     have:=YC.1 hb;omega
    have:=YC.1 hb;omega
   have hL1:∀b∈L,b∉rgB x1.heap.size y1.heap.size:=λb hb hm=>hL b hb (by simp[hm]);have hL2:∀b∈L,b∉rgB x2.heap.size y2.heap.size:=λb hb hm=>hL b hb (by simp[hm]);have hL3:∀b∈L,b∉rgB x3.heap.size y3.heap.size:=λb hb hm=>hL b hb (by simp[hm]);have hev1:K8 L y1.heap m5 c.ev:=⟨QU hZ h.ev.arr.le (λb hb hm=>hL1 b hm (YC.2 (Qm hZ b hb))),h.ev.nm⟩
   exact ⟨(((hev1.ext p2).ext m6).ext p3).ext kq,((QgS hqcI O hL2).ext p3).ext kq,QgS hqrI O hL3⟩
  rintro ⟨H,zv,qc,qr⟩ g wc ⟨hsc,kn,m7,ko,kr,ku,hEi⟩;simp only[] at kn m7 ko kr ku hEi;have hl10:=m7.lt;have hzc:=hsc.size;refine Qc<|xl O<|Qt (us:=[.bool false]) O λG w8 hY hb11 hB11=>xl O<|QF (j:=0) (u:=.bool false) hB11 O O (by simp) rfl λw9 m8 kv=>xe ?_;have kw:Step [] wc w9:=hY.then1 m8 hb11;have hF:=hsc.trans kw;have ga:=gs.trans hF
  have hz9:=kw.size;have hl11:=kv.lt;have hB109:=m7.ext kw;have hB29:=kk.ext hF;have hB39:=m4.ext hF;have hB49:=hB47.ext hF;have h9:=h.ext ga;have hn10:H≠G:=by omega
  have hup:∀b∈[H,G],w.heap.size≤b:=λb hb=>by simp only[List.mem_cons,List.not_mem_nil,or_false] at hb;omega
  have ky:∀b∈[H,G],b<w9.heap.size:=λb hb=>by simp only[List.mem_cons,List.not_mem_nil,or_false] at hb;omega
  have hn2:b2∉[H,G]:=λhb=>by simp only[List.mem_cons,List.not_mem_nil,or_false] at hb;omega
  have hn3:b3∉[H,G]:=λhb=>by simp only[List.mem_cons,List.not_mem_nil,or_false] at hb;omega
  have hn4:b4∉[H,G]:=λhb=>by simp only[List.mem_cons,List.not_mem_nil,or_false] at hb;omega
  have kz:∀b∈[H],b∈[H,G]:=λb hb=>by simp only[List.mem_singleton] at hb;simp[hb]
  have k0:∀b∈[G],b∈[H,G]:=λb hb=>by simp only[List.mem_singleton] at hb;simp[hb]
  have hZ:=ku.1;have kp:=ku.2.1;have kt:=ku.2.2.1;refine Qc<|x (Zq (l:=[]) (l':=[_,_]))<|Qe<|Qf<|Qc<|x (Qa O)<|x (Qd hB39 O O)<|x (Qs (hx.ext ga) O)<|Qb<|xe<|Qh<|QA (α:=Nat×Bool×Value×List XV) [(14,15),(17,17),(88,129)] (λz=>[(88,.int .i64 z.1)]) (λz w'=>z.1≤p.ex.length∧Step [H,G] w9 w'∧QZ w'.heap H 47 [zv.1,zv.2.1,zv.2.2,z.2.2.1,nS]∧QZ w'.heap G 4 [.bool z.2.1] ∧
   XvN w9.heap.size w' z.2.2.1 z.2.2.2∧z.2.2.2.map (·.x)=exB c.cel p.co (p.ex.take z.1)∧z.2.1=exM c.cel p.co (p.ex.take z.1)∧∀q∈z.2.2.2,UC q.nm) (λz=>p.ex.length - z.1) (by rfl) (0,false,nS,[]) Z
   ⟨Ll _,Step.refl _ _,hB109,kv,Z2.nil,O,O,λq hq=>by cases hq⟩ ?_
  rintro ⟨k,mi,vx,qx⟩ g ha ⟨hk10,hK,m9,gu,k4,gv,k5,pa⟩;simp only[] at hk10 m9 gu k4 gv k5 pa;have gw:Step [] w ha:=ga.then hK (λb hb=>.inr (hup b hb));have pc:=h.ext gw;have pd:=hB29.step hK hn2;have pf:=hB39.step hK hn3;have pg:=hB49.step hK hn4;have hz10:=hK.size
  have hqxl:qx.length=k:=by have:=congrArg List.length gv;unfold exB at this;rw[Le,Le,Lx] at this;omega
  refine Qc<|x (QB O O)<|xe<|Qf<|QG O (λhM=>?_) (λhM=>?_)
  ·refine Qz ?_;have ph:p.ex.length≤k:=by have hy:¬(k:Int)<(p.ex.length:Int):=hM;omega
   rw[Lo ph] at gv k5;have hlt10:∀b∈[H,G],b<ha.heap.size:=λb hb=>by have:=ky b hb;omega
   refine Qf<|Qc<|x (Qa O)<|x (Qd pf O O)<|x (Qs (hk.ext gw) O)<|Qb<|xe<|Qh<|QA (α:=Nat×Bool×Value×List KV) [(19,20),(22,22),(133,180)] (λz=>[(133,.int .i64 z.1)]) (λz w'=>z.1≤p.cs.length∧Step [H,G] ha w'∧QZ w'.heap H 47 [zv.1,zv.2.1,zv.2.2,vx,z.2.2.1]∧QZ w'.heap G 4 [.bool z.2.1] ∧
    KvN ha.heap.size w' z.2.2.1 z.2.2.2∧z.2.2.2.map (·.k)=csB c.cel p.co (p.cs.take z.1)∧z.2.1=(mi || csM c.cel p.co (p.cs.take z.1))∧∀q∈z.2.2.2,UC q.nm) (λz=>p.cs.length - z.1) (by rfl) (0,mi,nS,[]) Z
    ⟨Ll _,Step.refl _ _,m9,gu,Z2.nil,O,by simp[csM],λq hq=>by cases hq⟩ ?_
   rintro ⟨k,mk,vk,kx⟩ g hp ⟨hkk10,hG,kB1010,kB1110,kX10,gx,k6,pj⟩;simp only[] at hkk10 kB1010 kB1110 kX10 gx k6 pj;have gy:Step [] w hp:=gw.then hG (λb hb=>.inr (hup b hb));have k7:=h.ext gy;have kB210:=pd.step hG hn2;have kB310:=pf.step hG hn3;have kB410:=pg.step hG hn4;have kz10:=hG.size
   have hkxl:kx.length=k:=by have:=congrArg List.length gx;unfold csB at this;rw[Le,Le,Lx] at this;omega
   refine Qc<|x (QB O O)<|xe<|Qf<|QG O (λhM=>?_) (λhM=>?_)
   ·refine Qz ?_;have ph:p.cs.length≤k:=by have hy:¬(k:Int)<(p.cs.length:Int):=hM;omega
    rw[Lo ph] at gx k6;have hmm:mk=(exM c.cel p.co p.ex || csM c.cel p.co p.cs):=by rw[k6,k5]
    rw[←hmm] at S;have kXu:XvN w9.heap.size hp vx qx:=Z2.low k4 hG ky;refine Qf<|Qc<|x (Qd kB1110 O O)<|xe<|Q3 O (λk8=>?_) (λk8=>?_)
    ·rw[if_pos k8] at S;subst S;refine Qc<|x (QD U)<|xl O<|Qo (us:=Yq) kB410 O O O O ⟨O,O,O,O,O,U⟩ λu11 k9 kB411=>Qe ?_;exact Qn ⟨[.agg Yq.toArray,.int .i64 13],⟨⟨_,O,Qv O (kB411.at (L:=[]) (by simp)).cells⟩,rfl,U⟩,gy.then1 k9 (by omega),Yq,rfl,rfl,⟨rfl,rfl,rfl,rfl,rfl,U⟩,λ_=>rfl,λJ=>absurd J (by decide)⟩
    rw[if_neg (by rw[k8];simp)] at S;refine Qi ?_;have hmf:(exM c.cel p.co p.ex || csM c.cel p.co p.cs)=false:=by rw[←hmm];exact k8
    have hmf2:=MF.1 hmf;have hE1:qx.map (·.x)=QiI c.cel p:=gv.trans (QjJ gt.2.1 hmf2.1);have hE2:kx.map (·.k)=QiK c.cel p:=gx.trans (QjR gt.2.1 hmf2.2);have hcel:(CL.mk zv.1 zv.2.1 zv.2.2 vx vk c.ev qc qr qx kx).cel=Qd3 c.cel p:=by
     show Q8.mk c.ev (qc.map IV.it) (qr.map IV.it) (qx.map (·.x)) (kx.map (·.k))=Q8.mk c.cel.ev _ _ _ _;rw[ko,kr,hE1,hE2];rfl
    have hCu:∀L:LN,(∀b∈L,b<w.heap.size)→ZF (b4::L) hp.heap (CL.mk zv.1 zv.2.1 zv.2.2 vx vk c.ev qc qr qx kx):=by
     intro L hL;have e1:=hEi (b4::H::L) (λb hb=>by
      rcases Lb.1 hb with rfl | hb
      ·exact .inl (by omega)
      rcases Lb.1 hb with rfl | hb
      ·exact .inr O
      have:=hL b hb;exact .inl (by omega))
     have e2:EiA (G::b4::H::L) wc.heap zv c.ev qc qr:=e1.up (λb hb=>by
      rcases Lb.1 hb with rfl | hb
      ·exact .inr hb11
      exact .inl hb)
     have hm2:∀b∈[H,G],b∈G::b4::H::L:=λb hb=>by
      simp only[List.mem_cons,List.not_mem_nil,or_false] at hb;rcases hb with rfl | rfl <;> simp
     have e3:=((e2.ext kw).st (hK.mono hm2)).st (hG.mono hm2);have e4:EiA (b4::L) hp.heap zv c.ev qc qr:=e3.up (λb hb=>by
      rcases Lb.1 hb with rfl | hb
      ·exact .inl (by simp)
      exact .inl (by simp[hb]))
     have hqx40:qx.length≤1099511627776:=by omega
     have hkx40:kx.length≤1099511627776:=by omega
     have pm:∀b∈b4::L,b<w9.heap.size:=λb hb=>by
      rcases Lb.1 hb with rfl | hb
      ·omega
      have:=hL b hb;omega
     have hLt10:∀b∈b4::L,b<ha.heap.size:=λb hb=>by have:=pm b hb;omega
     exact ⟨e4.ev,e4.co,e4.rq,⟨Z2.arr kXu hqx40 pm,λq hq=>kXu.each q hq _ (λb hb=>.inl (pm b hb)),pa⟩,⟨Z2.arr kX10 hkx40 hLt10,λq hq=>kX10.each q hq _ (λb hb=>.inl (hLt10 b hb)),pj⟩⟩
    rw[←hcel] at S;subst S;refine Qf<|Qc<|x (Qr kB1010 O O)<|xl O<|xf<|(Y4 (hCu [] (by simp))).mono ?_;rintro r12 hN ⟨rfl,gb⟩;refine Qe ?_;have gz:=gy.trans gb;have kB412:=kB410.ext gb;refine Qc<|Qb<|x (Q9 O O)<|xe<|Q7 O (λma=>?_) (λma=>?_)
    ·refine Qc<|x (QD U)<|Qb<|xl O<|Qo (us:=Yq) kB412 O O O O ⟨O,O,O,O,O,U⟩ λhH mc kB413=>Qe ?_;exact Qn ⟨[.agg Yq.toArray,.int .i64 (Zb (CL.mk zv.1 zv.2.1 zv.2.2 vx vk c.ev qc qr qx kx).cel)],⟨⟨_,O,Qv O (kB413.at (L:=[]) (by simp)).cells⟩,rfl,U⟩,gz.then1 mc (by omega),Yq,rfl,rfl,⟨rfl,rfl,rfl,rfl,rfl,U⟩,λ_=>rfl,λJ=>absurd J ma⟩
    refine Qi ?_;have hone5:ZQ [zv.1,zv.2.1,zv.2.2,vx,vk]:=⟨hZ,kp,kt,QH kXu.own,QH kX10.own,U⟩
    refine Qc<|x (Qr (kB1010.ext gb) O O)<|xl O<|Qo (us:=[zv.1,zv.2.1,zv.2.2,vx,vk]) kB412 O O O O hone5 λhH mc kB413=>Qe<|Qn ⟨[.agg [zv.1,zv.2.1,zv.2.2,vx,vk].toArray,.int .i64 0],⟨⟨_,O,Qv O (kB413.at (L:=[]) (by simp)).cells⟩,rfl,U⟩,gz.then1 mc (by omega),[zv.1,zv.2.1,zv.2.2,vx,vk],?_,rfl,hone5,λJ=>absurd J ma,λ_=>⟨(CL.mk zv.1 zv.2.1 zv.2.2 vx vk c.ev qc qr qx kx),rfl,hcel,λL hL=>?_⟩⟩
    ·have J:Zb (CL.mk zv.1 zv.2.1 zv.2.2 vx vk c.ev qc qr qx kx).cel=0:=Ls.1 ma;rw[J];rfl
    exact ((((hCu L hL).ext gb).st (mc.mono (by simp)))).up (λb hb=>.inl (by simp[hb]))
   refine Qi ?_;have he:k<p.cs.length:=by have hy:(k:Int)<(p.cs.length:Int):=hM;omega
   have hO:p.cs.take (k+1)=p.cs.take k++[p.cs[k]'he]:=Li he;have pn:=hcsz.1 _ (Lc he);refine Zc (p.cs[k]'he) λi g0=>?_;rw[g0] at hO pn;have gc:i=(i.toNat:Int):=by omega
   have V:i.toNat<c.cs.length:=by omega
   have hz:=Lc V;have hP:csG c.cel i=(c.cs[i.toNat]'V).k:=by
    show (c.cs.map (·.k)).getD i.toNat ⟨.empty,[],0⟩=_;simp[List.getD,V]
   refine Zc (c.cs[i.toNat]'V) λq hq=>?_;rw[hq] at hz hP;have g2:=k7.cs.each q hz;have po:=k7.cs.nm q hz;have hql:=g2.le;have hcsB:csB c.cel p.co (p.cs.take (k+1))=csB c.cel p.co (p.cs.take k)++[⟨q.nm,KI p.co q.ts,q.bd⟩]:=by
    rw[hO];unfold csB;rw[Lu,MO,hP];rfl
   have hcsM:csM c.cel p.co (p.cs.take (k+1))=(csM c.cel p.co (p.cs.take k) || mis p.co q.ts):=by
    rw[hO];unfold csM;rw[List.any_append,Nw,List.any_nil,Bool.or_false,hP];rfl
   refine Qf<|Qh<|Qc<|xii (i:=k) (hk.ext gy) O O he λa90 g3=>?_;rw[g0] at g3;refine x (Qw g3 O)<|Qe<|Qf<|QW (Step [] hp) [(0,true),(1,true),(2,true),(3,true),(4,true),(5,true),(6,true),(7,true),(8,true),(9,true),(10,true),(11,true),(12,true),(13,false),(14,false)] mixed (by rfl) (by kernel_rfl) (Step.drew _ _) ?_
   refine Go.Lg.p (λ_=>Qa O)<|pq (λ_ hc=>Qd (kB210.ext hc) O O)<|Go.Lg.p (λ_=>Qp)<|Go.Lg.pig (g:=Zw) (i:=i.toNat) O JE k7.cs.arr O (congrArg (Value.int .i64) gc) V λa140 h140=>?_;rw[hq] at h140
   refine Go.Lg.p (λ_=>Zo O)<|pq (λ_ hc=>Qw ((h140.fld 0 (.string q.nm) O).st hc) O)<|Go.Lg.p (λ_=>Qa O)<|pq (λ_ hc=>Qd (kB210.ext hc) O O)<|Go.Lg.p (λ_=>Qp)<|Go.Lg.pig (g:=Zw) (i:=i.toNat) O JE k7.cs.arr O (congrArg (Value.int .i64) gc) V λa146 h146=>?_;rw[hq] at h146
   refine Go.Lg.p (λ_=>Zo O)<|pq (λ_ hc=>Qw ((h146.fld 2 (.int .i64 q.bd) O).st hc) O)<|Go.Lg.p (λ_=>QD ⟨O,O,U⟩)<|pk<|Qt (us:=[.string .empty,nS,.int .i64 0]) O λhf u11 k9 h6 kB15=>⟨(Step.drew [] hp).trans k9,?_⟩;refine pkl (hl:=by kernel_rfl)<|Qo (us:=[.string q.nm,nS,.int .i64 q.bd]) kB15 O O O O ⟨O,O,O,U⟩ λhN gb kB15=>pe ?_;have h6:hp.heap.size≤hf:=h6
   have hI:Step [] hp hN:=((Step.drew [] hp).trans k9).then1 gb h6;have gz:=gy.trans hI;have k12:=h.ext gz;have kB212:=kB210.ext hI;have kz12:=hI.size;have hl15:=kB15.lt;have pp:=g2.ext hI;refine Qf<|Qc<|x (Qa O)<|x (Qd kB212 O O)<|Qb<|xig (g:=Zw) (i:=i.toNat) JE k12.cs.arr O (congrArg (Value.int .i64) gc) V λa102 g4=>?_;rw[hq] at g4
   refine x (Zo O)<|x (Qw (g4.fld 1 q.v O) O)<|x (Qs pp O)<|Qb<|xe ?_;have pt:∀b∈[hf,G],w.heap.size≤b:=λb hb=>by simp only[List.mem_cons,List.not_mem_nil,or_false] at hb;omega
   have pu:b3∉[hf,G]:=λhb=>by simp only[List.mem_cons,List.not_mem_nil,or_false] at hb;omega
   have hn1510:H∉[hf,G]:=λhb=>by simp only[List.mem_cons,List.not_mem_nil,or_false] at hb;omega
   refine Qh<|QA (α:=Nat×Bool×Value) [(22,22),(157,173)] (λz=>[(157,.int .i64 z.1)]) (λz w'=>z.1≤q.ts.length∧Step [hf,G] hN w'∧QZ w'.heap hf 127 [.string q.nm,z.2.2,.int .i64 q.bd]∧QZ w'.heap G 4 [.bool z.2.1] ∧
    w'.ownsRow hN.heap.size 129 2 z.2.2 z.1 ((KI p.co (q.ts.take z.1)).flatMap QQ)∧z.2.1=(mk || mis p.co (q.ts.take z.1))) (λz=>q.ts.length - z.1) (by rfl) (0,mk,nS) Z
    ⟨Ll _,Step.refl _ _,kB15,kB1110.ext hI,QP _ _ _ _,by simp[mis]⟩ ?_
   rintro ⟨j,mj,vl⟩ g hH ⟨hj,ge,kB1513,kB1113,kO13,h8⟩;simp only[] at hj kB1513 kB1113 kO13 h8;have ks013:Step [] w hH:=gz.then ge (λb hb=>.inr (pt b hb));have kz13:=ge.size;have hA:=Qm kO13;refine Qc<|x (QB O O)<|xe<|Qf<|QG O (λhQ=>?_) (λhQ=>?_)
   ·refine Qz ?_;have g5:j=q.ts.length:=by have hy:¬(j:Int)<(q.ts.length:Int):=hQ;omega
    rw[g5,M0] at kO13;rw[g5,M0] at h8;have mf:Step [G] hp hH:=(hI.any (L:=[G])).then ge (λb hb=>by
     simp only[List.mem_cons,List.not_mem_nil,or_false] at hb;rcases hb with rfl | rfl
     ·exact .inr h6
     exact .inl (by simp))
    have kB1013:=kB1010.step mf (by simpa using hn10);have kX13:KvN ha.heap.size hH vk kx:=Z2.low kX10 mf (λb hb=>hlt10 b (k0 b hb));have kXge:=Qm kX10.own;have pw:(KI p.co q.ts).length=q.ts.length:=Le ..
    refine Qy<|x (Qa O)<|x (Qd kB1013 O O)<|x (Qr kB1513 O O)<|xl O<|QC (us:=[Zw ⟨q.nm,vl,KI p.co q.ts,q.bd⟩]) O O (by decide) (by simp) ⟨rfl,rfl,U⟩ λb126 u14 hv hb126 kB126 =>
     xl rfl<|Q5 (news:=Zw ⟨q.nm,vl,KI p.co q.ts,q.bd⟩) (L:=[]) (Qq kX13.own hv) O O O (kB126.at (by simp)) (Qdh (q:=⟨q.nm,vl,KI p.co q.ts,q.bd⟩) (QH kO13)) (by omega) (by have:=hv.size;omega) λhR hg g6 gg pz=>?_
    have kz14:=hv.size;have kX15:KvN ha.heap.size hg hR (kx++[⟨q.nm,vl,KI p.co q.ts,q.bd⟩]):=Z2.app2 (N:=hN.heap.size) (kX13.ext hv) (by show u14.ownsRow _ _ 2 vl (KI p.co q.ts).length _;rw[pw];exact Qq kO13 hv) (by show (KI p.co q.ts).length≤_;omega) (by omega) (λb hb=>by have:=kXge b hb;omega) g6 gg pz;have p0:H∉ob vk:=λhm=>by have:=(kXge H hm).1;omega
    have p4:G∉ob vk:=λhm=>by have:=(kXge G hm).1;omega
    have ks915:Step [H,G] ha hg:=((hG.trans' (mf.mono k0)).trans hv).then gg (λb hb=>.inr (kXge b hb).1);have kB1015:=(kB1013.ext hv).step gg p0;have kB1115:=(kB1113.ext hv).step gg p4;refine x (Qa O)<|xl O<|QF (j:=4) (u:=hR) kB1015 O O (by simp) (QH g6) λu16 g7 kB1016=>xe ?_;refine Qy<|QO O O<|Qb<|xe ?_
    refine ⟨(k+1,mj,hR,kx++[⟨q.nm,vl,KI p.co q.ts,q.bd⟩]),by simp only[];omega,Z,he,ks915.trans' (g7.mono kz),kB1016,kB1115.step g7 (by simp only[List.mem_singleton];omega),Z2.low kX15 g7 (λb hb=>hlt10 b (kz b hb)),?_,?_,?_⟩
    ·simp only[];rw[hcsB,Lu,gx];rfl
    ·simp only[];rw[hcsM,h8,k6,Bool.or_assoc]
    intro q' p5;rcases Lj.1 p5 with h9' | h9'
    ·exact pj q' h9'
    simp only[List.mem_singleton] at h9';subst h9';exact po
   refine Qi ?_;have ht:j<q.ts.length:=by have hy:(j:Int)<(q.ts.length:Int):=hQ;omega
   have hS:q.ts.take (j+1)=q.ts.take j++[q.ts[j]'ht]:=Li ht;have mf:Step [G] hp hH:=(hI.any (L:=[G])).then ge (λb hb=>by
    simp only[List.mem_cons,List.not_mem_nil,or_false] at hb;rcases hb with rfl | rfl
    ·exact .inr h6
    exact .inl (by simp))
   have p6:P2s [] hH.heap q.v q.ts:=(h.ext ks013).cs.each q hz;refine Qf<|Qh<|Qc<|xig (g:=QQ) YX p6 O O ht λa108 g8=>?_;refine Zc (q.ts[j]'ht) λlc p7=>?_;rw[p7] at g8 hS;have p8:KI p.co (q.ts.take (j+1))=KI p.co (q.ts.take j)++[((lwB p.co lc.1:Int),lc.2)]:=by
    rw[hS];unfold KI;rw[Lu];rfl
   have p9:mis p.co (q.ts.take (j+1))=(mis p.co (q.ts.take j) || !decide (lc.1∈p.co)):=by
    rw[hS];unfold mis;rw[List.any_append];simp
   refine x (QI g8 O O)<|xl O<|Qt (us:=[.int .i64 0,.int .i64 0]) O λb22 u14 hv qf kB17=>xl O<|Qo (us:=QQ lc) kB17 O O O O ⟨O,O,U⟩ λhg gg kB17=>xe ?_;have hT:Step [] hH hg:=hv.then1 gg qf;have ks015:=ks013.trans hT;have kz15:=hT.size;have kB1515:=kB1513.ext hT;have kB1115:=kB1113.ext hT
   have kB315:QZ hg.heap b3 95 [v0,v1,v2,v3]:=(((kB310.ext hI).step ge pu)).ext hT;have g9:hf∉G::ob vl:=λhb=>by
    rcases Lb.1 hb with rfl | hb
    ·omega
    have:=(hA hf hb).1;omega
   have ka:b22∉G::ob vl:=λhb=>by
    rcases Lb.1 hb with rfl | hb
    ·omega
    have:=(hA b22 hb).2;omega
   have kb:G∉ob vl:=λhb=>by have:=(hA G hb).1;omega
   have ql:hf∉ob vl:=λhb=>g9 (Lk _ hb);refine QW (Step (G::ob vl) hg) [(0,true),(1,true),(2,true),(3,true),(4,true),(6,true),(7,true),(5,false),(8,true),(9,false),(10,false),(11,true),(12,false)] mixed (by rfl) (by kernel_rfl) (Step.drew _ _) ?_;have mg:Step [] hg { hg with drawn:=hg.drawn+1 }:=Step.drew _ _
   have hzd:({ hg with drawn:=hg.drawn+1 }:World).heap.size=hg.heap.size:=rfl
   refine Go.Lg.p (λ_=>Qa O)<|pq (λ_ hc=>Qd (kB1515.step hc g9) O O)<|Go.Lg.p (λ_=>Qp)<|Go.Lg.p (λ_=>Qa O)<|pq (λ_ hc=>Qd (kB17.step hc ka) O O) <|
    Go.Lg.p (λ_=>Qa O)<|pq (λ_ hc=>Qd (kB17.step hc ka) O O)<|pk<|xc (first:=[]) (capt:=[.pointer (some ⟨b3,0,none⟩),.pointer (some ⟨G,0,none⟩)]) O<|(zP (kB315.ext mg) (kB1115.ext mg) (hc.ext (ks015.trans mg)) gt.2.1 lc.1).mono ?_
   rintro r16 u16 ⟨g7,rfl,kB1116⟩;have mh:=mg.any.trans' g7;have kz16:=mh.size;have hU:∀b∈[G],b∈G::ob vl:=λb hb=>by simp only[List.mem_singleton] at hb;simp[hb]
   refine ⟨mh.mono hU,?_⟩;refine Go.Lg.p (λ_=>QD ⟨O,O,U⟩)<|pk<|QC (us:=[QQ ((lwB p.co lc.1:Int),lc.2)]) O O (by decide) (by simp) ⟨rfl,rfl,U⟩ λb119 u17 qo hb119 gu=>⟨(mh.trans qo).mono hU,?_⟩;have kc:=mh.trans qo
   have kO17:u17.ownsRow hN.heap.size 129 2 vl j ((KI p.co (q.ts.take j)).flatMap QQ):=Qj (Qq kO13 hT) kc (λb hb hm=>by simp only[List.mem_singleton] at hm;subst hm;exact kb hb);have kz17:=kc.size;refine pk<|Q5 (news:=QQ ((lwB p.co lc.1:Int),lc.2)) (L:=[]) kO17 O O O (gu.at (by simp)) (λu hu=>by
    simp only[List.mem_cons,List.not_mem_nil,or_false] at hu;rcases hu with rfl | rfl <;> rfl) (by omega) (by omega) λke u18 hV mo hn18=>⟨(kc.mono hU).trans' (mo.mono (λb hb=>Lk _ hb)),?_⟩
   have kB1518:=((kB1515.step kc (by simp only[List.mem_singleton];omega))).step mo ql;have kB1118:=(kB1116.ext qo).step mo kb;refine Go.Lg.p (λ_=>Qa O)<|pkl (hl:=by kernel_rfl)<|QF (j:=1) (u:=ke) kB1518 O O (by simp) (QH hV) λu19 q5 kB1519=>pe ?_;refine Qy<|QO O O<|Qb<|xe ?_;have za:∀b∈[G],b∈[hf,G]:=λb hb=>by simp only[List.mem_singleton] at hb;simp[hb]
   have z0:∀b∈[hf],b∈[hf,G]:=λb hb=>by simp only[List.mem_singleton] at hb;simp[hb]
   have ks1218:Step [hf,G] hN u18:=((ge.trans hT).trans' (kc.mono za)).then mo (λb hb=>.inr (hA b hb).1);refine ⟨(j+1,mj || !decide (lc.1∈p.co),ke),by simp only[];omega,Z,ht,ks1218.trans' (q5.mono z0),kB1519,kB1118.step q5 (by simp only[List.mem_singleton];omega),?_,?_⟩
   ·simp only[];rw[p8,Ly];have:=Qj hV q5 (λb hb=>by
     simp only[List.mem_singleton];have:=(Qm hV b hb).1;omega)
    simpa using this
   simp only[];rw[p9,h8,Bool.or_assoc]
  refine Qi ?_;have he:k<p.ex.length:=by have hy:(k:Int)<(p.ex.length:Int):=hM;omega
  have hO:p.ex.take (k+1)=p.ex.take k++[p.ex[k]'he]:=Li he;have pn:=hexz.1 _ (Lc he);refine Zc (p.ex[k]'he) λi g0=>?_;rw[g0] at hO pn;have gc:i=(i.toNat:Int):=by omega
  have V:i.toNat<c.ex.length:=by omega
  have hz:=Lc V;have hP:exG c.cel i=(c.ex[i.toNat]'V).x:=by
   show (c.ex.map (·.x)).getD i.toNat ⟨.empty,[]⟩=_;simp[List.getD,V]
  refine Zc (c.ex[i.toNat]'V) λq hq=>?_;rw[hq] at hz hP;have g2:=pc.ex.each q hz;have po:=pc.ex.nm q hz;have hql:=g2.le;have hexB:exB c.cel p.co (p.ex.take (k+1))=exB c.cel p.co (p.ex.take k)++[⟨q.nm,KI p.co q.ls⟩]:=by
   rw[hO];unfold exB;rw[Lu,MO,hP];rfl
  have hexM:exM c.cel p.co (p.ex.take (k+1))=(exM c.cel p.co (p.ex.take k) || mis p.co q.ls):=by
   rw[hO];unfold exM;rw[List.any_append,Nw,List.any_nil,Bool.or_false,hP];rfl
  refine Qf<|Qh<|Qc<|xii (i:=k) (hx.ext gw) O O he λa90 g3=>?_;rw[g0] at g3;refine x (Qw g3 O)<|Qe<|Qc<|x (Qa O)<|x (Qd pd O O)<|Qb<|xig (g:=Zu) (i:=i.toNat) JZ pc.ex.arr O (congrArg (Value.int .i64) gc) V λa95 h95=>?_;rw[hq] at h95;refine x (Zo O)<|x (Qw (h95.fld 0 (.string q.nm) O) O)<|x (QD Z)<|xl O<|Qt (us:=[.string .empty,nS]) O λhh w11 z1 h6 mq =>
   xl rfl<|Qo (us:=[.string q.nm,nS]) mq O O O O ⟨O,O,U⟩ λgh hs12 mq=>xe ?_
  have hJ:Step [] ha gh:=z1.then1 hs12 h6;have hs012:=gw.trans hJ;have h12:=h.ext hs012;have hB212:=pd.ext hJ;have hz12:=hJ.size;have hl15:=mq.lt;have pp:=g2.ext hJ;refine Qf<|Qc<|x (Qa O)<|x (Qd hB212 O O)<|Qb<|xig (g:=Zu) (i:=i.toNat) JZ h12.ex.arr O (congrArg (Value.int .i64) gc) V λa102 g4=>?_;rw[hq] at g4
  refine x (Zo O)<|x (Qw (g4.fld 1 q.v O) O)<|x (Qs pp O)<|Qb<|xe ?_;have pt:∀b∈[hh,G],w.heap.size≤b:=λb hb=>by simp only[List.mem_cons,List.not_mem_nil,or_false] at hb;omega
  have pu:b3∉[hh,G]:=λhb=>by simp only[List.mem_cons,List.not_mem_nil,or_false] at hb;omega
  have hn1510:H∉[hh,G]:=λhb=>by simp only[List.mem_cons,List.not_mem_nil,or_false] at hb;omega
  refine Qh<|QA (α:=Nat×Bool×Value) [(17,17),(106,122)] (λz=>[(106,.int .i64 z.1)]) (λz w'=>z.1≤q.ls.length∧Step [hh,G] gh w'∧QZ w'.heap hh 122 [.string q.nm,z.2.2]∧QZ w'.heap G 4 [.bool z.2.1] ∧
   w'.ownsRow gh.heap.size 124 2 z.2.2 z.1 ((KI p.co (q.ls.take z.1)).flatMap QQ)∧z.2.1=(mi || mis p.co (q.ls.take z.1))) (λz=>q.ls.length - z.1) (by rfl) (0,mi,nS) Z
   ⟨Ll _,Step.refl _ _,mq,gu.ext hJ,QP _ _ _ _,by simp[mis]⟩ ?_
  rintro ⟨j,mj,vl⟩ g gi ⟨hj,gj,z2,z3,gk,h8⟩;simp only[] at hj z2 z3 gk h8;have hs013:Step [] w gi:=hs012.then gj (λb hb=>.inr (pt b hb));have hz13:=gj.size;have hA:=Qm gk;refine Qc<|x (QB O O)<|xe<|Qf<|QG O (λhQ=>?_) (λhQ=>?_)
  ·refine Qz ?_;have g5:j=q.ls.length:=by have hy:¬(j:Int)<(q.ls.length:Int):=hQ;omega
   rw[g5,M0] at gk;rw[g5,M0] at h8;have ms:Step [G] ha gi:=(hJ.any (L:=[G])).then gj (λb hb=>by
    simp only[List.mem_cons,List.not_mem_nil,or_false] at hb;rcases hb with rfl | rfl
    ·exact .inr h6
    exact .inl (by simp))
   have hB1013:=m9.step ms (by simpa using hn10);have hX13:XvN w9.heap.size gi vx qx:=Z2.low k4 ms (λb hb=>ky b (k0 b hb));have mt:=Qm k4.own;have pw:(KI p.co q.ls).length=q.ls.length:=Le ..
   refine Qy<|x (Qa O)<|x (Qd hB1013 O O)<|x (Qr z2 O O)<|xl O<|QC (us:=[Zu ⟨q.nm,vl,KI p.co q.ls⟩]) O O (by decide) (by simp) ⟨rfl,rfl,U⟩ λb126 w14 hw hb126 hB126 =>
    xl rfl<|Q5 (news:=Zu ⟨q.nm,vl,KI p.co q.ls⟩) (L:=[]) (Qq hX13.own hw) O O O (hB126.at (by simp)) (yw (q:=⟨q.nm,vl,KI p.co q.ls⟩) (QH gk)) (by omega) (by have:=hw.size;omega) λhR ho g6 gl pz=>?_
   have hz14:=hw.size;have hX15:XvN w9.heap.size ho hR (qx++[⟨q.nm,vl,KI p.co q.ls⟩]):=Z2.app2 (N:=gh.heap.size) (hX13.ext hw) (by show w14.ownsRow _ _ 2 vl (KI p.co q.ls).length _;rw[pw];exact Qq gk hw) (by show (KI p.co q.ls).length≤_;omega) (by omega) (λb hb=>by have:=mt b hb;omega) g6 gl pz;have p0:H∉ob vx:=λhm=>by have:=(mt H hm).1;omega
   have p4:G∉ob vx:=λhm=>by have:=(mt G hm).1;omega
   have hs915:Step [H,G] w9 ho:=((hK.trans' (ms.mono k0)).trans hw).then gl (λb hb=>.inr (mt b hb).1);have hB1015:=(hB1013.ext hw).step gl p0;have z4:=(z3.ext hw).step gl p4;refine x (Qa O)<|xl O<|QF (j:=3) (u:=hR) hB1015 O O (by simp) (QH g6) λw16 kf hB1016=>xe ?_;refine Qy<|QO O O<|Qb<|xe ?_
   refine ⟨(k+1,mj,hR,qx++[⟨q.nm,vl,KI p.co q.ls⟩]),by simp only[];omega,Z,he,hs915.trans' (kf.mono kz),hB1016,z4.step kf (by simp only[List.mem_singleton];omega),Z2.low hX15 kf (λb hb=>ky b (kz b hb)),?_,?_,?_⟩
   ·simp only[];rw[hexB,Lu,gv];rfl
   ·simp only[];rw[hexM,h8,k5]
   intro q' p5;rcases Lj.1 p5 with h9' | h9'
   ·exact pa q' h9'
   simp only[List.mem_singleton] at h9';subst h9';exact po
  refine Qi ?_;have ht:j<q.ls.length:=by have hy:(j:Int)<(q.ls.length:Int):=hQ;omega
  have hS:q.ls.take (j+1)=q.ls.take j++[q.ls[j]'ht]:=Li ht;have ms:Step [G] ha gi:=(hJ.any (L:=[G])).then gj (λb hb=>by
   simp only[List.mem_cons,List.not_mem_nil,or_false] at hb;rcases hb with rfl | rfl
   ·exact .inr h6
   exact .inl (by simp))
  have p6:P2s [] gi.heap q.v q.ls:=(h.ext hs013).ex.each q hz;refine Qf<|Qh<|Qc<|xig (g:=QQ) YX p6 O O ht λa108 g8=>?_;refine Zc (q.ls[j]'ht) λlc p7=>?_;rw[p7] at g8 hS;have p8:KI p.co (q.ls.take (j+1))=KI p.co (q.ls.take j)++[((lwB p.co lc.1:Int),lc.2)]:=by
   rw[hS];unfold KI;rw[Lu];rfl
  have p9:mis p.co (q.ls.take (j+1))=(mis p.co (q.ls.take j) || !decide (lc.1∈p.co)):=by
   rw[hS];unfold mis;rw[List.any_append];simp
  refine x (QI g8 O O)<|xl O<|Qt (us:=[.int .i64 0,.int .i64 0]) O λb17 w14 hw qf mu=>xl O<|Qo (us:=QQ lc) mu O O O O ⟨O,O,U⟩ λho gl mu=>xe ?_;have hW:Step [] gi ho:=hw.then1 gl qf;have hs015:=hs013.trans hW;have hz15:=hW.size;have hB1515:=z2.ext hW;have z4:=z3.ext hW
  have hB315:QZ ho.heap b3 95 [v0,v1,v2,v3]:=(((pf.ext hJ).step gj pu)).ext hW;have g9:hh∉G::ob vl:=λhb=>by
   rcases Lb.1 hb with rfl | hb
   ·omega
   have:=(hA hh hb).1;omega
  have ka:b17∉G::ob vl:=λhb=>by
   rcases Lb.1 hb with rfl | hb
   ·omega
   have:=(hA b17 hb).2;omega
  have kb:G∉ob vl:=λhb=>by have:=(hA G hb).1;omega
  have ql:hh∉ob vl:=λhb=>g9 (Lk _ hb);refine QW (Step (G::ob vl) ho) [(0,true),(1,true),(2,true),(3,true),(4,true),(6,true),(7,true),(5,false),(8,true),(9,false),(10,false),(11,true),(12,false)] mixed (by rfl) (by kernel_rfl) (Step.drew _ _) ?_;have mv:Step [] ho { ho with drawn:=ho.drawn+1 }:=Step.drew _ _
  have hzd:({ ho with drawn:=ho.drawn+1 }:World).heap.size=ho.heap.size:=rfl
  refine Go.Lg.p (λ_=>Qa O)<|pq (λ_ hc=>Qd (hB1515.step hc g9) O O)<|Go.Lg.p (λ_=>Qp)<|Go.Lg.p (λ_=>Qa O)<|pq (λ_ hc=>Qd (mu.step hc ka) O O) <|
   Go.Lg.p (λ_=>Qa O)<|pq (λ_ hc=>Qd (mu.step hc ka) O O)<|pk<|xc (first:=[]) (capt:=[.pointer (some ⟨b3,0,none⟩),.pointer (some ⟨G,0,none⟩)]) O<|(zP (hB315.ext mv) (z4.ext mv) (hc.ext (hs015.trans mv)) gt.2.1 lc.1).mono ?_
  rintro r16 w16 ⟨kf,rfl,hB1116⟩;have mw:=mv.any.trans' kf;have hz16:=mw.size;have hU:∀b∈[G],b∈G::ob vl:=λb hb=>by simp only[List.mem_singleton] at hb;simp[hb]
  refine ⟨mw.mono hU,?_⟩;refine Go.Lg.p (λ_=>QD ⟨O,O,U⟩)<|pk<|QC (us:=[QQ ((lwB p.co lc.1:Int),lc.2)]) O O (by decide) (by simp) ⟨rfl,rfl,U⟩ λb119 w17 z5 hb119 kv=>⟨(mw.trans z5).mono hU,?_⟩;have kg:=mw.trans z5
  have hO17:w17.ownsRow gh.heap.size 124 2 vl j ((KI p.co (q.ls.take j)).flatMap QQ):=Qj (Qq gk hW) kg (λb hb hm=>by simp only[List.mem_singleton] at hm;subst hm;exact kb hb);have hz17:=kg.size;refine pk<|Q5 (news:=QQ ((lwB p.co lc.1:Int),lc.2)) (L:=[]) hO17 O O O (kv.at (by simp)) (λu hu=>by
   simp only[List.mem_cons,List.not_mem_nil,or_false] at hu;rcases hu with rfl | rfl <;> rfl) (by omega) (by omega) λke w18 hV my hn18=>⟨(kg.mono hU).trans' (my.mono (λb hb=>Lk _ hb)),?_⟩
  have hB1518:=((hB1515.step kg (by simp only[List.mem_singleton];omega))).step my ql;have hB1118:=(hB1116.ext z5).step my kb;refine Go.Lg.p (λ_=>Qa O)<|pkl (hl:=by kernel_rfl)<|QF (j:=1) (u:=ke) hB1518 O O (by simp) (QH hV) λw19 z9 hB1519=>pe ?_;refine Qy<|QO O O<|Qb<|xe ?_;have za:∀b∈[G],b∈[hh,G]:=λb hb=>by simp only[List.mem_singleton] at hb;simp[hb]
  have z0:∀b∈[hh],b∈[hh,G]:=λb hb=>by simp only[List.mem_singleton] at hb;simp[hb]
  have hs1218:Step [hh,G] gh w18:=((gj.trans hW).trans' (kg.mono za)).then my (λb hb=>.inr (hA b hb).1);refine ⟨(j+1,mj || !decide (lc.1∈p.co),ke),by simp only[];omega,Z,ht,hs1218.trans' (z9.mono z0),hB1519,hB1118.step z9 (by simp only[List.mem_singleton];omega),?_,?_⟩
  ·simp only[];rw[p8,Ly];have:=Qj hV z9 (λb hb=>by
    simp only[List.mem_singleton];have:=(Qm hV b hb).1;omega)
   simpa using this
  simp only[];rw[p9,h8,Bool.or_assoc]
 refine Qi ?_;have gm:k<I.length:=by have hy:(k:Int)<(I.length:Int):=m3;omega
 have hmem:=Lc gm;have hdr:I.drop k=I[k]'gm::I.drop (k+1):=LP gm;refine Qf<|Qh<|Qc<|xig (g:=skC) QkU (hA54.ext hC) O O gm λa58 h58=>?_;refine Zc (I[k]'gm) λq hq=>?_;rw[hq] at h58 hmem hdr;have hqi:=hl4i q hmem;rw[hdr,show q=(q.1,q.2.1,q.2.2) from rfl,ck4] at hD
 refine x (QI h58 O O)<|xl O<|Qt (us:=[nS,.int .i64 0]) O λb8 w8 hY hb8 mz=>xl O<|Qo (us:=skC q) mz O O O O ⟨hqi.one,O,U⟩ λw9 m8 mz=>xe ?_;have hF:Step [] Y w9:=hY.then1 m8 hb8;have ga:=gs.trans hF;refine Qc<|x (Qa O)<|x (Qd mz O O)<|x (Qa O)<|x (Qd mz O O)<|xl O<|xf<|(Qba (hqi.ext ga) q.2.2).mono ?_;rintro r10 ha ⟨rfl,rfl⟩;refine Qe<|Qc<|Qb<|x (Q9 O O)<|xe ?_
 refine Q7 rfl (λkh=>?_) (λkh=>?_)
 ·rw[if_pos kh] at hD;have hne:ck4 I≠0:=by rw[←hD];exact kh
  rw[if_pos hne,←hD] at S;subst S;have pg:QZ ha.heap b4 47 Yq:=((m2.ext hX).ext hC).ext hF;refine Qc<|x (QD U)<|Qb<|xl O<|Qo (us:=Yq) pg O O O O ⟨O,O,O,O,O,U⟩ λw11 z1 hB411=>Qe ?_
  exact Qn ⟨[.agg Yq.toArray,.int .i64 (Xp q.2.2 none q.2.1)],⟨⟨_,O,Qv O (hB411.at (L:=[]) (by simp)).cells⟩,rfl,U⟩,ga.then1 z1 (by omega),Yq,rfl,rfl,⟨rfl,rfl,rfl,rfl,rfl,U⟩,λ_=>rfl,λJ=>absurd J kh⟩
 rw[if_neg kh] at hD;refine Qi<|Qy<|QO O O<|Qb<|xe ?_;exact ⟨k+1,by omega,Z,gm,hC.trans hF,hD⟩
theorem j0 (n:Nat):(1:Int)*(2:Int) ^ n=((1 <<< n:Nat):Int):=by
 rw[Nat.shiftLeft_eq,Nt,Int.one_mul,Int.natCast_pow];rfl
theorem J3 {n:Nat}(h:n<16):1 <<< n<65536:=by
 rw[Nat.shiftLeft_eq,Nt];exact Nat.pow_lt_pow_right (by decide) h
theorem QbK {b k:Nat}(hb:b<65536) (hk:k<16):orB b k<65536:=Qc1 hb (J3 hk)
theorem QjB {n:Nat}(h:n<16):inK .u16 ((1:Int)*(2:Int) ^ n):=by
 rw[j0];have h1:=J3 h;generalize 1 <<< n=m at h1;exact ⟨by omega,by omega⟩
theorem QfK {x:Yp}:∀(l:List Yp) (k b:Nat),b<65536→k+l.length≤16→rqB x k b l<65536
 | [],_,_,hb,_=>hb
 | y::l,k,b,hb,hk=>by
  rw[rqB];refine QfK l _ _ ?_ (by simp at hk;omega);by_cases h:(y.a.al.any λe=>decide (e∈x.a.al))=true
  ·rw[if_pos h];exact QbK hb (by simp at hk;omega)
  rw[if_neg h];exact hb
theorem j9 (ls:List (Int×Int)) (l:Int×Int):zr (ls++[l])=orB (zr ls) l.1.toNat:=by
 unfold zr;rw[Mx];rfl
theorem yS:∀(ls:List (Int×Int)),(∀l∈ls,0≤l.1∧l.1<16)→zr ls<65536:=by
 intro ls;unfold zr;have key:∀(ls:List (Int×Int)) (b:Nat),b<65536→(∀l∈ls,0≤l.1∧l.1<16)→ls.foldl (λb l=>orB b l.1.toNat) b<65536:=by
  intro ls;induction ls with
  | nil=>intro b hb _;exact hb
  | cons l ls ih =>
   intro b hb h;exact ih _ (QbK hb (by have:=h l Lm;omega)) (λl' hl=>h l' (Lk _ hl))
 exact key ls 0 (by decide)
theorem je (m:Nat) (hm:m<65536) (w:World):QK prog 65 [.int .u16 m] w λr w'=>Step [] w w'∧Qu 3 w.heap.size w' r (setK m 8):=by
 refine QK.of_W func65 O ntmps65 results65 (by simp) ?_;refine Qc<|Qe<|Qc<|Qe<|Qf<|Qc<|Qb<|xe<|Qh<|QA (α:=Nat×Value) [(3,17)] (λz=>[(3,z.2),(5,.int .i64 z.1)]) (λz w'=>z.1≤8∧Step [] w w'∧Qu 3 w.heap.size w' z.2 (setK m z.1)) (λz=>8 - z.1) (by rfl) (0,nS) ⟨O,O,U⟩
  ⟨Ll _,Step.refl _ _,QP _ _ _ _⟩ ?_
 rintro ⟨k,v⟩ g w1 ⟨hk,G,E⟩;simp only[] at hk E;have hh:=Xa m k;have hj:=G.size;refine Qc<|x (QB O O)<|xe<|Qf<|QG O (λV=>?_) (λV=>?_)
 ·refine Qz<|Qc<|Qb<|Qe ?_;have Y:k=8:=by omega
  rw[Y] at E;exact Qn ⟨[v],Z,G,E⟩
 have J:k<8:=by omega
 have ha:m / 2 ^ k<65536:=Nat.lt_of_le_of_lt (Nat.div_le_self _ _) hm;have H:=VW m k;refine Qi<|Qf<|Qh<|Qc<|Qb<|Qe<|Qc<|Qb<|Qb<|x (zS (n:=k) O O (by show k≤16;omega))<|x (QiV (a:=m / 2 ^ k) (b:=1) (congrArg (Value.int .u16) (yG m k)) O ha (by decide))<|x (Q4 O O)<|xe<|QG rfl (λS=>?_) (λS=>?_)
 ·rw[if_neg (λe=>S (by rw[e];rfl))] at H;refine Qi<|Qy<|QO O O<|Qb<|xe ?_;exact ⟨(k+1,v),by simp only[];omega,⟨O,O,U⟩,J,G,by simp only[];rw[H];exact E⟩
 rw[if_pos (by omega)] at H;refine Qy<|Qb<|Qb<|xl O<|QC (us:=[[.int .i64 k]]) O O (by decide) (by simp) ⟨rfl,rfl,U⟩ λhl w2 I hn hc=>?_;have he:=Qq E I;have ho:=I.size;refine xl rfl<|Q5 (news:=[.int .i64 k]) (L:=[]) he O O O (hc.at (by simp)) (by simp[Value.oneCell']) (by omega) (by omega) λv3 w3 hf hg hp =>
  Qe ?_
 have hge:=Qm E;refine Qy<|QO O O<|Qb<|xe<|⟨(k+1,v3),by simp only[];omega,⟨O,O,U⟩,J,(G.trans I).then hg (λb hb=>.inr (hge b hb).1),?_⟩;simp only[];rw[H];exact Qu.snoc hf
theorem Qfw {w:World}{c:CL}{E G i:Nat}(J:QZ w.heap E 47 c.cells) (S:QZ w.heap G 3 [.int .i64 i]) (hc:ZF [] w.heap c) {q:IV}(hi:c.rq[i]?=some q) (e:Int) :
  QK prog 136 [.int .i64 e,.pointer (some ⟨E,0,none⟩),.pointer (some ⟨G,0,none⟩)] w λr w'=>r=.bool (decide (e∈q.p.a.al))∧Step [] w w':=by
 obtain ⟨H,hq⟩:=L4.1 hi;have V:=hc.rq.each q (hq ▸ Lc H);refine QK.of_W func136 O ntmps136 results136 (by simp) ?_;refine Qc<|Qe<|Qc<|x (Qa O)<|x (Qd J O O)<|x (Qd S O O)<|xig (g:=Zh) (i:=i) Xl hc.rq.arr O O H λY I=>?_;rw[hq] at I;refine x (Zo O)<|x (Zo O)<|x (Qw ((I.fld 1 q.p.va O)) O)<|Qb<|xl O<|xf<|(ZP V.al e).mono ?_
 rintro r1 w1 ⟨rfl,rfl⟩;refine Qe ?_;exact Qn ⟨[_],Z,O,Step.refl _ _⟩
theorem QiD {w:World}{c:CL}{V i:Nat}(hh:QZ w.heap V 47 c.cells) (hc:ZF [] w.heap c) (h8:c.co.length≤8) {q:IV}(hi:c.rq[i]?=some q) :
  QK prog 134 [.int .i64 i,.pointer (some ⟨V,0,none⟩)] w λr w'=>r=.int .u16 (rqB q.it 0 0 c.cel.co)∧Step [] w w':=by
 refine QK.of_W func134 O ntmps134 results134 (by simp) ?_;refine Qc<|xl O<|QS (us:=[.int .i64 i]) O λb2 w1 Y h1 ho=>Qe<|Qc<|Qe<|Qf<|Qc<|x (Qa O)<|x (Qd (hh.ext Y) O O)<|x (Qs (hc.ext Y).co.arr O)<|Qb<|xe ?_
 refine Qh<|QA (α:=Nat×Nat) [(4,6),(10,24)] (λz=>[(4,.int .u16 z.2),(10,.int .i64 z.1)]) (λz w'=>z.1≤c.co.length∧Step [] w1 w'∧z.2<65536∧rqB q.it z.1 z.2 ((c.co.drop z.1).map (·.it))=rqB q.it 0 0 c.cel.co) (λz=>c.co.length - z.1) (by rfl) (0,0) ⟨O,O,U⟩
  ⟨Ll _,Step.refl _ _,by decide,O⟩ ?_
 rintro ⟨k,b⟩ g w2 ⟨hk,J,hb,E⟩;simp only[] at hk hb E;have ha:=Y.trans J;have h2:=hc.ext ha;refine Qc<|x (QB O O)<|xe<|Qf<|QG O (λhe=>?_) (λhe=>?_)
 ·refine Qz ?_;have hp:c.co.length≤k:=by have hq:¬(k:Int)<(c.co.length:Int):=he;omega
  rw[Lr hp] at E;have ht:b=rqB q.it 0 0 c.cel.co:=E;refine Qc<|Qb<|Qe ?_;exact Qn ⟨[.int .u16 b],Z,by rw[ht];rfl,ha⟩
 have G:k<c.co.length:=by have hq:(k:Int)<(c.co.length:Int):=he;omega
 have hj:=Lc G;rw[X4 G,rqB] at E;refine Qi<|Qf<|Qh<|Qc<|Qb<|xig (g:=Zh) (i:=k) Xl h2.co.arr O O G λh3 hl=>?_;refine Zc (c.co[k]'G) λy hy=>?_;rw[hy] at hl hj E;have S:=h2.co.each y hj;refine x (QI hl O O)<|xl O<|Qt (us:=[.string .empty,nS,.int .i64 0,nS,nS]) O λb6 w3 hu hv hf=>x Qg <|
  xl rfl<|Qo (us:=Zh y) hf O O O O ⟨O,S.al.one,O,S.mr.one,S.ed.one,U⟩ λw4 hw hf=>xe ?_
 have I:Step [] w2 w4:=hu.then1 hw hv;have hm:=ha.trans I;refine Qc<|x (Qa O)<|x (Qa O)<|x (Qd hf O O)<|x (Zq (l:=[]) (l':=[_,_]))<|xl O<|xf<|(QdD (q:=λe=>decide (e∈q.p.a.al)) (cap:=[.pointer (some ⟨V,0,none⟩),.pointer (some ⟨b2,0,none⟩)]) (S.al.ext I)
  (λe w5 H=>Qfw ((hh.ext hm).ext H) ((ho.ext (J.trans I)).ext H) ((hc.ext hm).ext H) hi e)).mono ?_
 rintro r5 w5 ⟨rfl,H⟩;refine xe<|Q3 rfl (λhg=>?_) (λhg=>?_)
 ·rw[if_pos (by exact hg)] at E;refine Qy<|Qb<|Qb<|x (QcT (n:=k) O O (by show k≤16;omega) (QjB (by omega)))<|x (QbA (a:=b) (b:=1 <<< k) O (congrArg (Value.int .u16) (j0 k)) hb (J3 (by omega)))<|Qe<|Qy<|QO O O<|Qb<|xe ?_;exact ⟨(k+1,orB b k),by simp only[];omega,⟨O,O,U⟩,G,(J.trans I).trans H,QbK hb (by omega),E⟩
 rw[if_neg (by intro h0;have hz:(y.p.a.al.any λe=>decide (e∈q.p.a.al))=false:=hg;have hn:(y.p.a.al.any λe=>decide (e∈q.p.a.al))=true:=h0;rw[hz] at hn;cases hn)] at E;refine Qi<|Qy<|QO O O<|Qb<|xe ?_;exact ⟨(k+1,b),by simp only[];omega,⟨O,O,U⟩,G,(J.trans I).trans H,hb,E⟩
theorem QiC {w:World}{c:CL}{V i:Nat}(hg:QZ w.heap V 47 c.cells) (hc:ZF [] w.heap c) {q:XV}(hi:c.ex[i]?=some q) (hm:∀l∈q.ls,0≤l.1∧l.1<16) :
  QK prog 137 [.int .i64 i,.pointer (some ⟨V,0,none⟩)] w λr w'=>r=.int .u16 (zr q.ls)∧Step [] w w':=by
 obtain ⟨Y,hq⟩:=L4.1 hi;have H:=hc.ex.each q (hq ▸ Lc Y);have hv:=H.le;refine QK.of_W func137 O ntmps137 results137 (by simp) ?_;refine Qc<|Qe<|Qc<|Qe<|Qf<|Qc<|x (Qa O)<|x (Qd hg O O)<|Qb<|xig (g:=Zu) (i:=i) JZ hc.ex.arr O O Y λhw ha=>?_;rw[hq] at ha;refine x (Zo O)<|x (Qw (ha.fld 1 q.v O) O)<|x (Qs H O)<|Qb<|xe ?_
 refine Qh<|QA (α:=Nat×Nat) [(4,4),(6,6),(14,23)] (λz=>[(4,.int .u16 z.2),(14,.int .i64 z.1)]) (λz w'=>z.1≤q.ls.length∧Step [] w w'∧z.2=zr (q.ls.take z.1)) (λz=>q.ls.length - z.1) (by rfl) (0,0) ⟨O,O,U⟩
  ⟨Ll _,Step.refl _ _,O⟩ ?_
 rintro ⟨k,b⟩ g w1 ⟨hk,I,hb⟩;simp only[] at hk hb;have hh:b<65536:=by rw[hb];exact yS _ (λl hl=>hm l (LT hl))
 refine Qc<|x (QB O O)<|xe<|Qf<|QG O (λJ=>?_) (λJ=>?_)
 ·refine Qz ?_;have hj:q.ls.length≤k:=by have G:¬(k:Int)<(q.ls.length:Int):=J;omega
  rw[Lo hj] at hb;refine Qc<|Qb<|Qe ?_;exact Qn ⟨[.int .u16 b],Z,by rw[hb];rfl,I⟩
 have E:k<q.ls.length:=by have G:(k:Int)<(q.ls.length:Int):=J;omega
 have he:q.ls.take (k+1)=q.ls.take k++[q.ls[k]'E]:=Li E;have hn:=hm _ (Lc E);refine Qi<|Qf<|Qh<|Qc<|xig (g:=QQ) YX (H.ext I) O O E λhy G=>?_;refine Zc (q.ls[k]'E) λl hl=>?_;rw[hl] at G he hn;have ho:l.1=(l.1.toNat:Int):=by omega
 have hf:l.1.toNat<16:=by omega
 refine x (QI G O O)<|xl O<|Qt (us:=[.int .i64 0,.int .i64 0]) O λb6 w2 hp hr S=>xl O<|Qo (us:=QQ l) S O O O O ⟨O,O,U⟩ λw3 ht S =>
  xe ?_
 have hu:Step [] w1 w3:=hp.then1 ht hr;refine Qy<|Qb<|x (Qa O)<|x (Qd S O O)<|x (QcT (n:=l.1.toNat) O (congrArg (Value.int .i64) ho) (by show l.1.toNat≤16;omega) (QjB hf))<|x (QbA (a:=b) (b:=1 <<< l.1.toNat) O (congrArg (Value.int .u16) (j0 _)) hh (J3 hf))<|Qe<|Qy<|QO O O<|Qb<|xe ?_
 exact ⟨(k+1,orB b l.1.toNat),by simp only[];omega,⟨O,O,U⟩,E,I.trans hu,by simp only[];rw[he,j9,hb]⟩
theorem QiB {w:World}{c:CL}{V i:Nat}(hg:QZ w.heap V 47 c.cells) (hc:ZF [] w.heap c) {q:KV}(hi:c.cs[i]?=some q) (hm:∀l∈q.ts,0≤l.1∧l.1<16) :
  QK prog 138 [.int .i64 i,.pointer (some ⟨V,0,none⟩)] w λr w'=>r=.int .u16 (zr q.ts)∧Step [] w w':=by
 obtain ⟨Y,hq⟩:=L4.1 hi;have H:=hc.cs.each q (hq ▸ Lc Y);have hv:=H.le;refine QK.of_W func138 O ntmps138 results138 (by simp) ?_;refine Qc<|Qe<|Qc<|Qe<|Qf<|Qc<|x (Qa O)<|x (Qd hg O O)<|Qb<|xig (g:=Zw) (i:=i) JE hc.cs.arr O O Y λhw ha=>?_;rw[hq] at ha;refine x (Zo O)<|x (Qw (ha.fld 1 q.v O) O)<|x (Qs H O)<|Qb<|xe ?_
 refine Qh<|QA (α:=Nat×Nat) [(4,4),(6,6),(14,23)] (λz=>[(4,.int .u16 z.2),(14,.int .i64 z.1)]) (λz w'=>z.1≤q.ts.length∧Step [] w w'∧z.2=zr (q.ts.take z.1)) (λz=>q.ts.length - z.1) (by rfl) (0,0) ⟨O,O,U⟩
  ⟨Ll _,Step.refl _ _,O⟩ ?_
 rintro ⟨k,b⟩ g w1 ⟨hk,I,hb⟩;simp only[] at hk hb;have hh:b<65536:=by rw[hb];exact yS _ (λl hl=>hm l (LT hl))
 refine Qc<|x (QB O O)<|xe<|Qf<|QG O (λJ=>?_) (λJ=>?_)
 ·refine Qz ?_;have hj:q.ts.length≤k:=by have G:¬(k:Int)<(q.ts.length:Int):=J;omega
  rw[Lo hj] at hb;refine Qc<|Qb<|Qe ?_;exact Qn ⟨[.int .u16 b],Z,by rw[hb];rfl,I⟩
 have E:k<q.ts.length:=by have G:(k:Int)<(q.ts.length:Int):=J;omega
 have he:q.ts.take (k+1)=q.ts.take k++[q.ts[k]'E]:=Li E;have hn:=hm _ (Lc E);refine Qi<|Qf<|Qh<|Qc<|xig (g:=QQ) YX (H.ext I) O O E λhy G=>?_;refine Zc (q.ts[k]'E) λl hl=>?_;rw[hl] at G he hn;have ho:l.1=(l.1.toNat:Int):=by omega
 have hf:l.1.toNat<16:=by omega
 refine x (QI G O O)<|xl O<|Qt (us:=[.int .i64 0,.int .i64 0]) O λb6 w2 hp hr S=>xl O<|Qo (us:=QQ l) S O O O O ⟨O,O,U⟩ λw3 ht S =>
  xe ?_
 have hu:Step [] w1 w3:=hp.then1 ht hr;refine Qy<|Qb<|x (Qa O)<|x (Qd S O O)<|x (QcT (n:=l.1.toNat) O (congrArg (Value.int .i64) ho) (by show l.1.toNat≤16;omega) (QjB hf))<|x (QbA (a:=b) (b:=1 <<< l.1.toNat) O (congrArg (Value.int .u16) (j0 _)) hh (J3 hf))<|Qe<|Qy<|QO O O<|Qb<|xe ?_
 exact ⟨(k+1,orB b l.1.toNat),by simp only[];omega,⟨O,O,U⟩,E,I.trans hu,by simp only[];rw[he,j9,hb]⟩
end Go.Proofs.YtdffckgdcegpaaaGreatDoor
namespace Go.Lg
theorem xcG {P:Program}{f:Fr}{w:World}{K:Fr→World→Prop}{d:Option Nat}{ty:Nat}{ps:String}{af:Array Edge}{gd:Option (Nat×Bool)}{x:Operand}{l:List Operand}{at_:Array Nat}
  {g:Nat} {first capt:LV} (E:∃fn,Fu P g fn) (hx:ev f x=.func (.func g) first.toArray capt.toArray) (h:QK P g (first++l.map (ev f)++capt) w λv w'=>K (QV f d v) w') :
  XO P ⟨d,.call ⟨.value x,l.toArray,at_⟩,ty,ps,af,gd⟩ f w K:=by
 obtain ⟨fn,G⟩:=E;exact xc (fn:=fn) hx h
end Go.Lg
namespace Go.Proofs.YtdffckgdcegpaaaGreatDoor
open Go.Proofs.Tryz
open Go.Lg
def gK (m:Nat):Nat:=if m=0 then 134 else if m=1 then 137 else 138
theorem Qg0 (m:Nat):∃fn,Fu prog (gK m) fn:=by
 unfold gK;split
 ·exact ⟨_,inferInstance⟩
 split
 ·exact ⟨_,inferInstance⟩
 exact ⟨_,inferInstance⟩
abbrev Xs (c:Q8) (m:Nat):LN:=srK c ((m:Int)+1)
theorem QfC (c:Q8):Xs c 0=srR c:=rfl
theorem QfB (c:Q8):Xs c 1=srX c:=rfl
theorem QfA (c:Q8):Xs c 2=srC c:=rfl
structure UF (c:Q8):Prop where
 c8:c.co.length≤8
 r:c.rq.length≤32
 x:c.ex.length≤32
 k:c.cs.length≤32
 xl:∀e∈c.ex,∀l∈e.ls,0≤l.1∧l.1<16
 kl:∀e∈c.cs,∀l∈e.ts,0≤l.1∧l.1<16
theorem Qif.sr {c:Q8}(h:Qif c):UF c:=by
 have h1:=Ut h.cd;have h2:(szs c.co).length=c.co.length:=Le ..;have E:=h.c8;have G:=h.cr;refine ⟨E,by omega,h1.xl,h1.kl,λe he l hl=>?_,λe he l hl=>?_⟩
 ·have:=h1.x e he l hl;omega
 have:=(h1.k e he).1 l hl;omega
theorem Vf {c:Q8}(h:UF c) {m:Nat}(hm:m<3):(Xs c m).length≤32:=by
 have h1:=h.r;have h2:=h.x;have h3:=h.k;rcases m with _ | _ | _ | m
 ·rw[QfC];unfold srR;rw[Le];exact h1
 ·rw[QfB];unfold srX;rw[Le];exact h2
 ·rw[QfA];unfold srC;rw[Le];exact h3
 omega
theorem qd {c:Q8}(h:UF c) {m:Nat}(hm:m<3):∀b∈Xs c m,b<65536:=by
 have E:=h.c8;rcases m with _ | _ | _ | m
 ·rw[QfC];unfold srR;intro b hb;obtain ⟨x,_,rfl⟩:=Lp.1 hb;exact QfK _ _ _ (by decide) (by omega)
 ·rw[QfB];unfold srX;intro b hb;obtain ⟨x,hx,rfl⟩:=Lp.1 hb;exact yS _ (h.xl x hx)
 ·rw[QfA];unfold srC;intro b hb;obtain ⟨x,hx,rfl⟩:=Lp.1 hb;exact yS _ (h.kl x hx)
 omega
abbrev jI (b1:Nat) (c:Q8) (m:Nat):LV:=[.int .i64 ((m:Int)+1),.int .i64 (Xs c m).length,.func (.func (gK m)) #[] #[.pointer (some ⟨b1,0,none⟩)]]
theorem qb (E:Nat) (c:Q8) (m:Nat):(jI E c m).length=3:=rfl
theorem Qbq {w:World}{c:CL}{I m i:Nat}(G:QZ w.heap I 47 c.cells) (hc:ZF [] w.heap c) (H:UF c.cel) (hm:m<3) (hi:i<(Xs c.cel m).length) :
  QK prog (gK m) [.int .i64 i,.pointer (some ⟨I,0,none⟩)] w λr w'=>r=.int .u16 ((Xs c.cel m)[i]'hi:Nat)∧Step [] w w':=by
 rcases m with _ | _ | _ | m
 ·have hl:(Xs c.cel 0).length=c.rq.length:=by rw[QfC];unfold srR;rw[Le];exact Le ..
  have E:i<c.rq.length:=Nat.lt_of_lt_of_eq hi hl;have e:(Xs c.cel 0)[i]'hi=rqB (c.rq[i]'E).it 0 0 c.cel.co:=by
   show (srR c.cel)[i]'_=_;simp[srR,CL.cel]
  rw[e];have J:c.co.length≤8:=by have:=H.c8;rw[show c.cel.co.length=c.co.length from Le ..] at this;exact this
  exact QiD G hc J (LB E)
 ·have hl:(Xs c.cel 1).length=c.ex.length:=by rw[QfB];unfold srX;rw[Le];exact Le ..
  have E:i<c.ex.length:=Nat.lt_of_lt_of_eq hi hl;have e:(Xs c.cel 1)[i]'hi=zr (c.ex[i]'E).ls:=by
   show (srX c.cel)[i]'_=_;simp[srX,CL.cel,XV.x]
  rw[e];exact QiC G hc (LB E) (λl hl=>H.xl (c.ex[i]'E).x (LK (Lc E)) l hl)
 ·have hl:(Xs c.cel 2).length=c.cs.length:=by rw[QfA];unfold srC;rw[Le];exact Le ..
  have E:i<c.cs.length:=Nat.lt_of_lt_of_eq hi hl;have e:(Xs c.cel 2)[i]'hi=zr (c.cs[i]'E).ts:=by
   show (srC c.cel)[i]'_=_;simp[srC,CL.cel,KV.k]
  rw[e];exact QiB G hc (LB E) (λl hl=>H.kl (c.cs[i]'E).k (LK (Lc E)) l hl)
 omega
structure QnV (N:Nat) (w:World) (c:CL) (r:Value) (b1 b:Nat):Prop where
 r:r=.slice (some ⟨b,0,none⟩) 3 3
 n1:N≤b1
 n:N≤b
 B1:QZ w.heap b1 47 c.cells
 B:QZ w.heap b 137 ([0,1,2].flatMap (jI b1 c.cel))
theorem KR {L:LN}{w:World}{c:CL}(J:ZF L w.heap c) :
  QK prog 61 [c.val] w λr w'=>Step [] w w'∧∃E b,QnV w.heap.size w' c r E b:=by
 have h:=J.up (L':=[]) (by simp);have e0:(Xs c.cel 0).length=c.rq.length:=by rw[QfC];unfold srR;rw[Le];exact Le ..
 have e1:(Xs c.cel 1).length=c.ex.length:=by rw[QfB];unfold srX;rw[Le];exact Le ..
 have e2:(Xs c.cel 2).length=c.cs.length:=by rw[QfA];unfold srC;rw[Le];exact Le ..
 refine QK.of_W func61 O ntmps61 results61 (by simp) ?_;refine Qc<|xl O<|QS (us:=c.cells) O λE w1 H S G=>Qe ?_;have h1:=h.ext H;refine Qc<|x (Qa O)<|x (Qd G O O)<|x (Qs h1.rq.arr O)<|x (Zq (l:=[]) (l':=[_]))<|x (QD ⟨O,O,O,U⟩)<|x (Qa O) <|
  x (Qd G O O)<|x (Qs h1.ex.arr O)<|x (Zq (l:=[]) (l':=[_]))<|x (QD ⟨O,O,O,U⟩)<|x (Qa O)<|x (Qd G O O) <|
  x (Qs h1.cs.arr O)<|x (Zq (l:=[]) (l':=[_]))<|x (QD ⟨O,O,O,U⟩) <|
  xl rfl<|QC (us:=[[.int .i64 1,.int .i64 c.rq.length,.func (.func 134) #[] #[.pointer (some ⟨E,0,none⟩)]],[.int .i64 2,.int .i64 c.ex.length,.func (.func 137) #[] #[.pointer (some ⟨E,0,none⟩)]],[.int .i64 3,.int .i64 c.cs.length,.func (.func 138) #[] #[.pointer (some ⟨E,0,none⟩)]]]) O O (by decide) (by simp) ⟨rfl,rfl,rfl,rfl,rfl,rfl,U⟩ λV w2 I ha Y =>
  Qe ?_
 have hb:=H.size;have hc:=I.size;refine Qn ⟨[_],Z,H.trans I,E,V,O,S,by omega,G.ext I,?_⟩
 have e:[0,1,2].flatMap (jI E c.cel)=[.int .i64 1,.int .i64 c.rq.length,.func (.func 134) #[] #[.pointer (some ⟨E,0,none⟩)],.int .i64 2,.int .i64 c.ex.length,.func (.func 137) #[] #[.pointer (some ⟨E,0,none⟩)],.int .i64 3,.int .i64 c.cs.length,.func (.func 138) #[] #[.pointer (some ⟨E,0,none⟩)]]:=by
  simp only[List.flatMap_cons,List.flatMap_nil,jI,e0,e1,e2];rfl
 rw[e];exact Y
def srP (c:Q8):Nat→LN
 | 0=>[]
 | m+1=>srP c m++Xs c m
theorem jY (c:Q8):srP c 3=sets c:=by
 simp only[srP,QfC,QfB,QfA,sets,List.nil_append,List.append_assoc]
theorem yD {c:Q8}(h:UF c):∀m,m≤3→(srP c m).length≤32*m
 | 0,_=>Ll _
 | m+1,hm=>by
  have h1:=yD h m (by omega);have h2:=Vf h (show m<3 by omega);rw[srP,Lh];omega
abbrev Qfa (l:LN):LV:=l.map λb=>.int .u16 (b:Nat)
abbrev zk (base:Nat) (w:World) (v:Value) (l:LN):Prop:=w.ownsRow base 140 1 v l.length (Qfa l)
theorem zk.snoc {base:Nat}{w:World}{v:Value}{l:LN}{b:Nat}(h:w.ownsRow base 140 1 v (l.length+1) (Qfa l++[.int .u16 (b:Nat)])):zk base w v (l++[b]):=by
 unfold zk Qfa;rw[Lh,Lu];exact h
set_option maxHeartbeats 4000000 in
theorem QiG {L:LN}{w:World}{c:CL}(h0:ZF L w.heap c) (he:UF c.cel) :
  QK prog 99 [c.val] w λr w'=>Step [] w w'∧zk w.heap.size w' r (sets c.cel):=by
 have h:=h0.up (L':=[]) (by simp);refine QK.of_W func99 O ntmps99 results99 (by simp) ?_;refine Qc<|xl O<|QS (us:=c.cells) O λb1 w1 hf hH hu=>Qe<|Qc<|Qe<|Qf<|Qc<|x (Qr hu O O)<|xl O<|xf<|(KR (h.ext hf)).mono ?_;rintro r2 G ⟨hq,E,bs,H⟩;have hv:=H.r;subst hv;have hg:=hf.trans hq;have hI:=hf.size;have hJ:=hq.size;have hK:=H.B.lt;have hL:=H.B1.lt
 have hA:∀{w':World},Step [] G w'→Zs [] w'.heap (.slice (some ⟨bs,0,none⟩) 3 3) [0,1,2].length 3 ([0,1,2].flatMap (jI E c.cel)):=λhs =>
  (H.B.ext hs).arr (by simp) (n:=3) (cap:=3) (sz:=3) (by rfl) (by omega) (Lt _)
 refine x (Qs (hA (Step.refl _ _)) O)<|Qb<|xe<|Qh<|QA (α:=Nat×Value) [(3,3),(5,6),(10,27)] (λz=>[(3,z.2),(10,.int .i64 z.1)]) (λz w'=>z.1≤3∧Step [] G w'∧zk G.heap.size w' z.2 (srP c.cel z.1)) (λz=>3 - z.1) (by rfl) (0,nS) ⟨O,O,U⟩
  ⟨Ll _,Step.refl _ _,QP _ _ _ _⟩ ?_
 rintro ⟨m,v⟩ g w3 ⟨hm,Y,I⟩;simp only[] at hm I;have hM:=yD he m hm;refine Qc<|x (QB O O)<|xe<|Qf<|QG O (λhh=>?_) (λhh=>?_)
 ·refine Qz ?_;have hw:m=3:=by have hj:¬(m:Int)<(3:Nat):=hh;omega
  rw[hw,jY] at I;refine Qc<|Qb<|Qe ?_;exact Qn ⟨[v],Z,hg.trans Y,Zr I hg.size⟩
 have J:m<3:=by have hj:(m:Int)<(3:Nat):=hh;omega
 have hN:=Vf he J;refine Qi ?_;have hO:=Y.size;have hge:=Qm I;have hy:([0,1,2]:LN)[m]'J=m:=by rcases m with _ | _ | _ | m <;> first | rfl | omega
 refine Qf<|Qh<|Qc<|xig (g:=jI E c.cel) (i:=m) (qb E c.cel) (hA Y) O O J λhP hr=>?_;rw[hy] at hr;refine x (QI hr O O)<|xl O<|Qt (us:=[.int .i64 0,.int .i64 0,.nilFunc]) O λb5 w4 hz h1 ha=>xl O<|Qo (us:=jI E c.cel m) ha O O O O ⟨O,O,O,U⟩ λw5 h2 ha =>
  xe ?_
 have hk:Step [] w3 w5:=hz.then1 h2 h1;have hQ:=hk.size;refine Qc<|x (Qa O)<|x (Qd ha O O)<|Qb<|xe<|Qh<|QA (α:=Nat×Value) [(3,3),(6,6),(16,26)] (λz=>[(3,z.2),(16,.int .i64 z.1)]) (λz w'=>z.1≤(Xs c.cel m).length∧Step (ob v) w5 w'∧zk G.heap.size w' z.2 (srP c.cel m++(Xs c.cel m).take z.1)∧∀b∈ob z.2,b∈ob v∨w5.heap.size≤b) (λz=>(Xs c.cel m).length - z.1) (by rfl) (0,v) ⟨O,O,U⟩
  ⟨Ll _,Step.refl _ _,by simp only[List.take_zero,List.append_nil];exact Qq I hk,λb hb=>.inl hb⟩ ?_
 rintro ⟨i,vi⟩ g w6 ⟨hi,hc,S,hl⟩;simp only[] at hi S hl;have hR:=hc.size;have hT:=Qm S;have hn:Step [] G w6:=(Y.trans hk).then hc (λb hb=>.inr (hge b hb).1);have h3:b5∉ob v:=λhb=>by have:=(hge b5 hb).2;omega
 have h4:=ha.step hc h3;have h6:=h.ext (hg.trans hn);have h5:QZ w6.heap E 47 c.cells:=H.B1.ext hn;refine Qc<|x (QB O O)<|xe<|Qf<|QG O (λho=>?_) (λho=>?_)
 ·refine Qz ?_;have h7:(Xs c.cel m).length≤i:=by have hj:¬(i:Int)<((Xs c.cel m).length:Int):=ho;omega
  rw[Lo h7] at S;refine Qy<|QO O O<|Qb<|xe ?_;exact ⟨(m+1,vi),by simp only[];omega,⟨O,O,U⟩,J,hn,S⟩
 have V:i<(Xs c.cel m).length:=by have hj:(i:Int)<((Xs c.cel m).length:Int):=ho;omega
 have ht:(Xs c.cel m).take (i+1)=(Xs c.cel m).take i++[(Xs c.cel m)[i]'V]:=Li V;have hU:(srP c.cel m++(Xs c.cel m).take i).length≤200:=by rw[Lh,Lx];omega
 refine Qi<|Qf<|Qh<|Qc<|Qb<|Qe<|Qy<|Qb<|x (Qa O)<|x (Qd h4 O O)<|Qb<|xl O<|xcG (first:=[]) (capt:=[.pointer (some ⟨E,0,none⟩)]) (Qg0 m) O<|(Qbq h5 h6 he J V).mono ?_;rintro r7 w7 ⟨rfl,h8⟩;refine Zc ((Xs c.cel m)[i]'V) λbv hB=>?_;rw[hB] at ht ⊢;refine xl rfl<|QC (us:=[[.int .u16 (bv:Nat)]]) O O (by decide) (by simp) ⟨rfl,rfl,U⟩ λhV w8 hC hW hD=>?_;have hp:=h8.trans hC
 have hX:=hp.size;refine xl rfl<|Q5 (news:=[.int .u16 (bv:Nat)]) (L:=[]) (Qq S hp) O O O (hD.at (by simp)) (by simp[Value.oneCell']) (by omega) (by omega) λv9 w9 hE hF hG =>
  Qe<|Qy<|QO O O<|Qb<|xe ?_
 refine ⟨(i+1,v9),by simp only[];omega,⟨O,O,U⟩,V,(hc.trans hp).then hF hl,?_,λb hb=>?_⟩
 ·simp only[];rw[ht,←LC];exact zk.snoc hE
 rcases hG b hb with h9 | h9
 ·exact hl b h9
 exact .inr (by omega)
structure MV where
 kd:Int
 ix:Int
 v:Value
 co:LI
def MV.m (q:MV):YO:=⟨q.kd,q.ix,q.co⟩
abbrev ZG (q:MV):LV:=[.int .i64 q.kd,.int .i64 q.ix,q.v]
theorem QbM (q:MV):(ZG q).length=3:=rfl
abbrev mvP (q:MV):Value×Nat×Nat×LV:=(q.v,q.co.length,1,q.co.map (.int .i64))
abbrev MvN (base:Nat) (w:World) (v:Value) (l:List MV):Prop:=Z2 ZG 3 39 mvP base w v l
theorem Qi6 {q:MV}(h:q.v.oneCell'=true):∀u∈ZG q,u.oneCell'=true:=by
 intro u hu;simp only[ZG,List.mem_cons,List.not_mem_nil,or_false] at hu;rcases hu with rfl | rfl | rfl
 ·rfl
 ·rfl
 exact h
theorem Vu (k:Int):∀(l:LN) (i:Nat),(XQ k i l).length=l.length
 | [],_=>rfl
 | _::l,i=>by rw[XQ,LJ,Vu k l,LJ]
theorem z6 (k:Int):∀(l:LN) (i j:Nat) (h:j<l.length),(XQ k i l).take (j+1)=(XQ k i l).take j++[⟨k,((i+j:Nat):Int),setK (l[j]'h) 8⟩]
 | [],_,j,h=>absurd h (Nh _)
 | b::l,i,0,h=>by rw[XQ];rfl
 | b::l,i,j+1,h=>by
  rw[XQ,MA,MA,z6 k l (i+1) j (by simpa using h),Mm];have e:((i+1+j:Nat):Int)=((i+(j+1):Nat):Int):=by omega
  rw[e];rfl
abbrev mdG (c:Q8) (m:Nat):List YO:=XQ ((m:Int)+1) 0 (Xs c m)
def mdP (c:Q8):Nat→List YO
 | 0=>[]
 | m+1=>mdP c m++mdG c m
theorem Qam (c:Q8):mdP c 3=mods c:=by
 simp only[mdP,mods,List.nil_append,List.append_assoc];rfl
theorem ja {c:Q8}(h:UF c):∀m,m≤3→(mdP c m).length≤32*m
 | 0,_=>Ll _
 | m+1,hm=>by
  have h1:=ja h m (by omega);have h2:=Vf h (show m<3 by omega);rw[mdP,Lh,Vu];omega
set_option maxHeartbeats 4000000 in
theorem ze {L:LN}{w:World}{c:CL}(Y:ZF L w.heap c) :
  QK prog 31 [c.val] w λr w'=>Step [] w w'∧∃v l,r=.tuple #[v,.int .i64 (Zb c.cel)]∧MvN w.heap.size w' v l∧(Zb c.cel≠0→v=nS∧l=[])∧(Zb c.cel=0→l.map MV.m=mods c.cel):=by
 have h:=Y.up (L':=[]) (by simp);refine Zc (Zb c.cel) λE hE=>?_;rw[hE];refine QK.of_W func31 O ntmps31 results31 (by simp) ?_;refine Qc<|xl O<|QS (us:=c.cells) O λb1 w1 hB gj hC=>x Qg<|Qe<|Qf<|Qc<|x (Qr hC O O)<|xl O<|xf<|(Y4 (h.ext hB)).mono ?_;rintro rc wc ⟨hD,hF⟩;rw[hE] at hD;subst hD;have hO:=hC.ext hF;have hk:=hB.trans hF;refine Qe<|Qc<|Qb<|x (Q9 O O)<|xe ?_
 refine Q7 rfl (λH=>?_) (λH=>?_)
 ·refine Qc<|Qb<|x Qg<|Qe ?_;exact Qn ⟨[nS,.int .i64 E],⟨O,O,U⟩,hk,nS,[],O,Z2.nil,λ_=>⟨O,O⟩,λY=>absurd Y H⟩
 have hv:E=0:=Ls.1 H;have hl:UF c.cel:=(ZU (hE.trans hv)).sr;refine Qi<|Qc<|Qe<|Qf<|Qc<|x (Qr hO O O)<|xl O<|xf<|(KR (h.ext hk)).mono ?_;rintro r2 I ⟨hG,J,bs,hS⟩;have hP:=hS.r;subst hP;have hw:=hk.trans hG;have gk:=hk.size;have gl:=hG.size;have gm:=hS.B.lt;have gn:=hS.B1.lt
 have hA:∀{w':World},Step [] I w'→Zs [] w'.heap (.slice (some ⟨bs,0,none⟩) 3 3) [0,1,2].length 3 ([0,1,2].flatMap (jI J c.cel)):=λhs =>
  (hS.B.ext hs).arr (by simp) (n:=3) (cap:=3) (sz:=3) (by rfl) (by omega) (Lt _)
 refine x (Qs (hA (Step.refl _ _)) O)<|Qb<|xe<|Qh<|QA (α:=Nat×Value×List MV) [(5,5),(7,8),(17,39)] (λz=>[(5,z.2.1),(17,.int .i64 z.1)]) (λz w'=>z.1≤3∧Step [] I w'∧MvN I.heap.size w' z.2.1 z.2.2∧z.2.2.map MV.m=mdP c.cel z.1) (λz=>3 - z.1) (by rfl) (0,nS,[]) ⟨O,O,U⟩
  ⟨Ll _,Step.refl _ _,Z2.nil,O⟩ ?_
 rintro ⟨m,v,l⟩ g w3 ⟨hm,hn,ha,he⟩;simp only[] at hm ha he;have go:=ja hl m hm;have gp:l.length=(mdP c.cel m).length:=by rw[←he,Le]
 refine Qc<|x (QB O O)<|xe<|Qf<|QG O (λhy=>?_) (λhy=>?_)
 ·refine Qz ?_;have hQ:m=3:=by have hz:¬(m:Int)<(3:Nat):=hy;omega
  rw[hQ,Qam] at he;refine Qc<|Qb<|x Qg<|Qe ?_;have hR:=hw.size;exact Qn ⟨[v,.int .i64 0],⟨O,O,U⟩,hw.trans hn,v,l,by rw[hv];rfl,⟨Zr ha.own hR,λq hq L hL=>ha.each q hq L (λb hb=>(hL b hb).imp (λh=>by omega) id)⟩,λY=>absurd hv Y,λ_=>he⟩
 have S:m<3:=by have hz:(m:Int)<(3:Nat):=hy;omega
 have gq:=Vf hl S;refine Qi ?_;have gr:=hn.size;have hge:=Qm ha.own;have hT:([0,1,2]:LN)[m]'S=m:=by rcases m with _ | _ | _ | m <;> first | rfl | omega
 refine Qf<|Qh<|Qc<|xig (g:=jI J c.cel) (i:=m) (qb J c.cel) (hA hn) O O S λgs H=>?_;rw[hT] at H;refine x (QI H O O)<|xl O<|Qt (us:=[.int .i64 0,.int .i64 0,.nilFunc]) O λb7 w4 hU hV hf=>xl O<|Qo (us:=jI J c.cel m) hf O O O O ⟨O,O,O,U⟩ λw5 hW hf =>
  xe ?_
 have h1:Step [] w3 w5:=hU.then1 hW hV;have gt:=h1.size;refine Qc<|x (Qa O)<|x (Qd hf O O)<|Qb<|xe ?_
 refine Qh<|QA (α:=Nat×Value×List MV) [(5,5),(8,8),(23,38)] (λz=>[(5,z.2.1),(23,.int .i64 z.1)]) (λz w'=>z.1≤(Xs c.cel m).length∧Step (ob v) w5 w'∧MvN I.heap.size w' z.2.1 z.2.2∧z.2.2.map MV.m=mdP c.cel m++(mdG c.cel m).take z.1∧∀b∈ob z.2.1,b∈ob v∨w5.heap.size≤b) (λz=>(Xs c.cel m).length - z.1) (by rfl) (0,v,l) ⟨O,O,U⟩
  ⟨Ll _,Step.refl _ _,ha.ext h1,by simp only[List.take_zero,List.append_nil];exact he,λb hb=>.inl hb⟩ ?_
 rintro ⟨i,vi,li⟩ g G ⟨hi,ho,hg,hh,hp⟩;simp only[] at hi hg hh hp;have gu:=ho.size;have hX:=Qm hg.own;have hr:Step [] I G:=(hn.trans h1).then ho (λb hb=>.inr (hge b hb).1);have hH:b7∉ob v:=λhb=>by have:=(hge b7 hb).2;omega
 have hI:=hf.step ho hH;have h6:=h.ext (hw.trans hr);have hY:QZ G.heap J 47 c.cells:=hS.B1.ext hr;have gv:li.length≤200:=by
  have e1:=congrArg List.length hh;rw[Le,Lh,Lx] at e1;have e2:(mdG c.cel m).length=(Xs c.cel m).length:=Vu _ _ _;omega
 refine Qc<|x (QB O O)<|xe<|Qf<|QG O (λh2=>?_) (λh2=>?_)
 ·refine Qz ?_;have hZ:(Xs c.cel m).length≤i:=by have hz:¬(i:Int)<((Xs c.cel m).length:Int):=h2;omega
  rw[Lo (by rw[Vu];exact hZ)] at hh;refine Qy<|QO O O<|Qb<|xe ?_;exact ⟨(m+1,vi,li),by simp only[];omega,⟨O,O,U⟩,S,hr,hg,hh⟩
 have V:i<(Xs c.cel m).length:=by have hz:(i:Int)<((Xs c.cel m).length:Int):=h2;omega
 have h3:(mdG c.cel m).take (i+1)=(mdG c.cel m).take i++[⟨(m:Int)+1,((0+i:Nat):Int),setK ((Xs c.cel m)[i]'V) 8⟩]:=z6 _ _ _ _ V;rw[LG] at h3;have hJ:=qd hl S _ (Lc V);refine Qi<|Qf<|Qh<|Qc<|Qb<|Qe ?_;have hK:b7∉ob vi:=λhb=>by
  rcases hp b7 hb with h9 | h9
  ·exact hH h9
  have:=hf.lt;omega
 have h4:Step [] G { G with drawn:=G.drawn+1 }:=Step.drew _ _
 have gw:({ G with drawn:=G.drawn+1 }:World).heap.size=G.heap.size:=rfl
 refine QW (Step (ob vi) G) [(0,true),(1,true),(2,true),(3,true),(4,true),(5,true),(6,true),(7,false),(8,false),(9,true),(10,false),(11,false),(12,true)] mixed (by rfl) (by kernel_rfl) (Step.drew _ _) ?_;refine p (λ_=>Qp)<|p (λ_=>Qa O)<|pq (λ_ hc=>Qd (hI.step hc hK) O O)<|p (λ_=>Qp)<|p (λ_=>Qa O) <|
  pq (λ_ hc=>Qd (hI.step hc hK) O O)<|p (λ_=>Qp)<|pk<|xcG (first:=[]) (capt:=[.pointer (some ⟨J,0,none⟩)]) (Qg0 m) O<|(Qbq (hY.ext h4) (h6.ext h4) hl S V).mono ?_
 rintro r8 w8 ⟨rfl,ga⟩;refine Zc ((Xs c.cel m)[i]'V) λbv gb=>?_;rw[gb] at h3 hJ ⊢;have h5:=h4.trans ga;refine ⟨h5.any,?_⟩;refine pk<|xf<|(je bv hJ w8).mono ?_;rintro r9 w9 ⟨gc,h7⟩;have ht:=h5.trans gc;have gx:=h5.size;have gy:=ht.size;refine ⟨ht.any,?_⟩
 refine p (λ_=>QD ⟨O,O,Q0 h7,U⟩)<|pk<|QC (us:=[ZG ⟨(m:Int)+1,i,r9,setK bv 8⟩]) O O (by decide) (by simp) ⟨rfl,rfl,U⟩ λgz g0 hu g2 ge=>⟨(ht.trans hu).any,?_⟩;have hj:=ht.trans hu;have g3:=hj.size;have g4:=hu.size
 refine pk<|Q5 (news:=ZG ⟨(m:Int)+1,i,r9,setK bv 8⟩) (L:=[]) (Qq hg.own hj) O O O (ge.at (by simp)) (Qi6 (q:=⟨(m:Int)+1,i,r9,setK bv 8⟩) (QH h7)) (by omega) (by omega) λhM gg gh h8 hN=>⟨hj.any.trans' h8,?_⟩;refine p (λ_=>Qg)<|pe ?_;have g5:=Xa bv 8
 have gi:MvN I.heap.size gg hM (li++[⟨(m:Int)+1,i,r9,setK bv 8⟩]):=Z2.app2 (N:=w8.heap.size) (hg.ext hj) (Qq h7 hu) (by show (setK bv 8).length≤_;omega) (by have:=hr.size;omega) (λb hb=>by have:=hX b hb;omega) gh h8 hN;refine Qy<|QO O O<|Qb<|xe ?_
 refine ⟨(i+1,hM,li++[⟨(m:Int)+1,i,r9,setK bv 8⟩]),by simp only[];omega,⟨O,O,U⟩,V,(ho.trans hj).then h8 hp,gi,?_,λb hb=>?_⟩
 ·simp only[];rw[h3,Lu,hh,LC];rfl
 rcases hN b hb with h9 | h9
 ·exact hp b h9
 exact .inr (by omega)
theorem QnG {n:Nat}(h:n≤8):2 ^ n≤256:=Nat.pow_le_pow_right (by decide) h
set_option maxHeartbeats 4000000 in
theorem VS {L:LN}{w:World}{c:CL}(I:ZF L w.heap c) :
  QK prog 38 [c.val] w λr w'=>Step [] w w'∧∃v,r=.tuple #[v,.int .i64 (Zb c.cel)]∧(Zb c.cel≠0→v=nS)∧(Zb c.cel=0→Qu 3 w.heap.size w' v (rem c.cel)):=by
 have h:=I.up (L':=[]) (by simp);refine Zc (Zb c.cel) λE hE=>?_;rw[hE];refine QK.of_W func38 O ntmps38 results38 (by simp) ?_;refine Qc<|xl O<|QS (us:=c.cells) O λb1 w1 hf hC hg=>x Qg<|Qe<|Qf<|Qc<|x (Qr hg O O)<|xl O<|xf<|(Y4 (h.ext hf)).mono ?_;rintro rc wc ⟨hh,hj⟩;rw[hE] at hh;subst hh;have hl:=hg.ext hj;have S:=hf.trans hj;refine Qe<|Qc<|Qb<|x (Q9 O O)<|xe ?_
 refine Q7 rfl (λV=>?_) (λV=>?_)
 ·refine Qc<|Qb<|x Qg<|Qe ?_;exact Qn ⟨[nS,.int .i64 E],⟨O,O,U⟩,S,nS,O,λ_=>O,λI=>absurd I V⟩
 have Y:E=0:=Ls.1 V;have G:UF c.cel:=(ZU (hE.trans Y)).sr;have hv:c.cel.co.length=c.co.length:=Le ..;have h8:c.co.length≤8:=by have:=G.c8;omega
 have hD:=QnG h8;have hF:0<2 ^ c.co.length:=Nat.pow_pos (by decide);have he:(1:Int)*(2:Int) ^ c.co.length - 1=((2 ^ c.co.length - 1:Nat):Int):=by
  rw[j0,Nat.shiftLeft_eq,Nt];omega
 have hw:inK .u16 ((1:Int)*(2:Int) ^ c.co.length - 1):=by rw[he];exact ⟨by omega,by omega⟩
 have hm:2 ^ c.co.length - 1<65536:=by omega
 have hz:=yD G 3 (by omega);rw[jY] at hz;have hn:yN c.cel=(sets c.cel).foldl (λl b=>l &&& (65535 ^^^ b)) (2 ^ c.co.length - 1):=by unfold yN;rw[hv]
 have h1:∀b∈sets c.cel,b<65536:=by
  intro b hb;unfold sets at hb;rcases Lj.1 hb with hb | hb
  ·exact qd G (m:=0) (by omega) b hb
  rcases Lj.1 hb with hb | hb
  ·exact qd G (m:=1) (by omega) b hb
  exact qd G (m:=2) (by omega) b hb
 refine Zc (2 ^ c.co.length - 1) λb0 h2=>?_;rw[h2] at he hn hm;have ho:=h.ext S;refine Qi<|Qc<|x (Qa O)<|x (Qd hl O O)<|x (Qs ho.co.arr O)<|x (QcT (n:=c.co.length) O O (by show c.co.length≤16;omega) (QjB (by omega)))<|x (JR O O hw)<|Qe<|Qf<|Qc<|x (Qr hl O O)<|xl O<|xf<|(QiG ho G).mono ?_;rintro r2 w2 ⟨h3,h4⟩
 have hA:Zs [] w2.heap r2 (sets c.cel).length 1 (Qfa (sets c.cel)):=QU h4 (by omega) (by simp);have h5:Zs [] w2.heap r2 (sets c.cel).length 1 ((sets c.cel).flatMap λb=>[.int .u16 (b:Nat)]):=by
  have e:(sets c.cel).flatMap (λb=>[Value.int .u16 (b:Nat)])=Qfa (sets c.cel):=by
   generalize sets c.cel=l;induction l with
   | nil=>rfl
   | cons a l ih=>rw[LF,ih];rfl
  rw[e];exact hA
 refine x (Qs hA O)<|Qb<|xe<|Qh<|QA (α:=Nat×Nat) [(5,5),(7,7),(21,28)] (λz=>[(5,.int .u16 z.2),(21,.int .i64 z.1)]) (λz w'=>z.1≤(sets c.cel).length∧Step [] w2 w'∧z.2<65536∧((sets c.cel).drop z.1).foldl (λl b=>l &&& (65535 ^^^ b)) z.2=yN c.cel) (λz=>(sets c.cel).length - z.1) (by rfl) (0,b0) ⟨congrArg (Value.int .u16) he,O,U⟩
  ⟨Ll _,Step.refl _ _,hm,hn.symm⟩ ?_
 rintro ⟨k,b⟩ g w3 ⟨hk,ha,hb,H⟩;simp only[] at hk hb H;have hp:=(S.trans h3).trans ha;refine Qc<|x (QB O O)<|xe<|Qf<|QG O (λhc=>?_) (λhc=>?_)
 ·refine Qz ?_;have h6:(sets c.cel).length≤k:=by have h7:¬(k:Int)<((sets c.cel).length:Int):=hc;omega
  rw[Lr h6] at H;have h9:b=yN c.cel:=H;refine Qc<|Qb<|xl O<|xf<|(je b hb w3).mono ?_;rintro r4 w4 ⟨hB,hq⟩;refine x Qg<|Qe ?_;rw[h9] at hq;exact Qn ⟨[r4,.int .i64 0],⟨O,O,U⟩,hp.trans hB,r4,by rw[Y];rfl,λI=>absurd Y I,λ_=>Zr hq hp.size⟩
 have J:k<(sets c.cel).length:=by have h7:(k:Int)<((sets c.cel).length:Int):=hc;omega
 have ht:=h1 _ (Lc J);rw[LP J,LM] at H;refine Qi<|Qf<|Qh<|Qc<|xig (g:=λb:Nat=>[.int .u16 (b:Nat)]) (i:=k) (λ_=>O) (h5.ext ha) O O J λhG hu=>?_;refine Zc ((sets c.cel)[k]'J) λy hy=>?_;rw[hy] at hu ht H;refine x (Qw hu O)<|Qe<|Qy<|Qb<|Qb<|x (QbC (a:=b) (b:=y) O O hb ht)<|Qe<|Qy<|QO O O<|Qb<|xe ?_
 exact ⟨(k+1,b &&& (65535 ^^^ y)),by simp only[];omega,⟨O,O,U⟩,J,ha,Nat.lt_of_le_of_lt Nat.and_le_left hb,H⟩
end Go.Proofs.YtdffckgdcegpaaaGreatDoor
