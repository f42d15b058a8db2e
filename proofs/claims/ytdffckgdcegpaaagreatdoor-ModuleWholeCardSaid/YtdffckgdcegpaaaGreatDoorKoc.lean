/- Merged out of 19 texts. -/
import Derived.Test.YtdffckgdcegpaaaGreatDoorKob
namespace Go.Proofs.YtdffckgdcegpaaaGreatDoor
open Go.Proofs.Tryz
open Go.Lg
inductive Cd where
 | ex (b:Nat) (q:XV)
 | co (b:Nat) (q:KV)
def Cd.val:Cd→Value
 | .ex b _=>.func (.func 259) #[] #[.pointer (some ⟨b,0,none⟩)]
 | .co b _=>.func (.func 262) #[] #[.pointer (some ⟨b,0,none⟩)]
def Cd.src:Cd→Sum XV KV
 | .ex _ q=>.inl q
 | .co _ q=>.inr q
def QcC (t:LI):Sum XV KV→Bool
 | .inl q=>Kl t q.x
 | .inr q=>Vr t q.k
def Cd.vio (t:LI) (c:Cd):Bool:=QcC t c.src
abbrev Vk (c:Cd):LV:=[c.val]
theorem QjV (c:Cd):(Vk c).length=1:=rfl
def CdA (H:Array Obj):Cd→Prop
 | .ex b q=>QZ H b 122 (Zs q)∧P2s [] H q.v q.ls
 | .co b q=>QZ H b 127 (Zx q)∧P2s [] H q.v q.ts
theorem CdA.ext {w w':World}{c:Cd}(h:CdA w.heap c) (hs:Step [] w w'):CdA w'.heap c:=by
 cases c with
 | ex b q=>exact ⟨h.1.ext hs,h.2.ext hs⟩
 | co b q=>exact ⟨h.1.ext hs,h.2.ext hs⟩
def Cd.rg (n:Nat):Cd→Prop
 | .ex _ q=>∀p∈q.ls,0≤p.1∧p.1<(n:Int)
 | .co _ q=>(∀p∈q.ts,0≤p.1∧p.1<(n:Int)∧-65536≤p.2∧p.2≤65536)∧q.ts.length≤8
theorem jE {q:XV}(w:World):QK prog 209 [.agg (Zs q).toArray] w λr w'=>Step [] w w'∧∃b,r=(Cd.ex b q).val∧w.heap.size≤b∧QZ w'.heap b 122 (Zs q):=by
 refine QK.of_W func209 O ntmps209 results209 (by simp) ?_;refine Qc<|xl O<|QS (us:=Zs q) O λE J G H I=>Qe<|Qc<|x Zo<|Qe ?_;exact Qn ⟨[_],Z,G,E,O,H,I⟩
theorem QaV {q:KV}(w:World):QK prog 210 [.agg (Zx q).toArray] w λr w'=>Step [] w w'∧∃b,r=(Cd.co b q).val∧w.heap.size≤b∧QZ w'.heap b 127 (Zx q):=by
 refine QK.of_W func210 O ntmps210 results210 (by simp) ?_;refine Qc<|xl O<|QS (us:=Zx q) O λE J G H I=>Qe<|Qc<|x Zo<|Qe ?_;exact Qn ⟨[_],Z,G,E,O,H,I⟩
def CdB (H:Array Obj):Cd→Prop
 | .ex b q=>QZ H b 122 (Zs q)
 | .co b q=>QZ H b 127 (Zx q)
def Cd.blk:Cd→Nat
 | .ex b _=>b
 | .co b _=>b
theorem CdB.lt {H:Array Obj}{c:Cd}(h:CdB H c):c.blk<H.size:=by cases c <;> exact QZ.lt h
theorem CdB.step {X:LN}{w w':World}{c:Cd}(h:CdB w.heap c) (hs:Step X w w') (E:c.blk∉X):CdB w'.heap c:=by
 cases c <;> exact QZ.step h hs E
structure CdL (base:Nat) (w:World) (v:Value) (cds:List Cd):Prop where
 own:w.ownsRow base 313 1 v cds.length (cds.flatMap Vk)
 bx:∀c∈cds,CdB w.heap c∧c.blk∉ob v
theorem CdL.add {base:Nat}{w E G:World}{v H:Value}{cds:List Cd}{c:Cd}(h:CdL base w v cds) (hs:Step [] w E) (hc:CdB E.heap c) (hb:w.heap.size≤c.blk)
  (I:G.ownsRow base 313 1 H (cds.length+1) (cds.flatMap Vk++[c.val])) (J:Step (ob v) E G) (S:∀b∈ob H,b∈ob v∨E.heap.size≤b):CdL base G H (cds++[c]):=by
 have T:=QR h.own;have V:c.blk∉ob v:=λhm=>by have:=T _ hm;omega
 refine ⟨?_,λd hd=>?_⟩
 ·rw[Lh,Ly];simpa using I
 have key:CdB E.heap d∧d.blk∉ob v:=by
  rcases Lj.1 hd with hd | hd
  ·exact ⟨(h.bx d hd).1.step hs (by simp),(h.bx d hd).2⟩
  simp only[List.mem_singleton] at hd;subst hd;exact ⟨hc,V⟩
 refine ⟨key.1.step J key.2,λhm=>?_⟩;rcases S _ hm with h1 | h1
 ·exact key.2 h1
 have:=key.1.lt;omega
set_option maxHeartbeats 4000000 in
theorem QfS {w:World}{vs vx vk:Value}{qx:List XV}{ks:List KV}(hX:qy [] w.heap vx qx) (hK:qm [] w.heap vk ks) (hH:qx.length≤32) (hI:ks.length≤32) :
  QK prog 150 [.agg #[vs,vx,vk]] w λr w'=>Step [] w w'∧∃cds,CdL w.heap.size w' r cds∧cds.map Cd.src=qx.map Sum.inl++ks.map Sum.inr:=by
 refine QK.of_W func150 O ntmps150 results150 (by simp) ?_;refine Qc<|xl O<|QS (us:=[vs,vx,vk]) O λb1 J H hJ h3=>Qe ?_;have h8:=H.size;refine Qc<|Qe<|Qf<|Qc<|x (Qa O)<|x (Qd h3 O O)<|x (Qs (hX.ext H).arr O)<|Qb<|xe ?_
 refine Qh<|QB (α:=Nat×Value×List Cd) [(3,3),(5,5),(11,20)] (λz=>[(3,z.2.1),(11,.int .i64 z.1)]) (λz w'=>z.1≤qx.length∧Step [] J w'∧CdL J.heap.size w' z.2.1 z.2.2∧z.2.2.map Cd.src=(qx.take z.1).map Sum.inl) (λz=>qx.length - z.1) (by rfl) (0,nS,[]) ⟨O,O,U⟩
  ⟨Lk _,Step.refl _ _,⟨QN _ _ _ _,λc hc=>(by cases hc)⟩,rfl⟩ ?_
 rintro ⟨k,vo,cds⟩ g wA ⟨hk,I,Y,ha⟩;simp only[] at hk Y ha;have hM:cds.length=k:=by have:=congrArg List.length ha;simp at this;omega
 refine Qc<|x (QA O O)<|xe<|Qf<|QG O (λhl=>?_) (λhl=>?_)
 ·refine Qz ?_;have h9:qx.length≤k:=by have hm:¬(k:Int)<(qx.length:Int):=hl;omega
  rw[Lm h9] at ha;refine Qf<|Qc<|x (Qa O)<|x (Qd (h3.ext I) O O)<|x (Qs ((hK.ext H).ext I).arr O)<|Qb<|xe ?_
  refine Qh<|QB (α:=Nat×Value×List Cd) [(3,3),(7,7),(24,33)] (λz=>[(3,z.2.1),(24,.int .i64 z.1)]) (λz w'=>z.1≤ks.length∧Step [] J w'∧CdL J.heap.size w' z.2.1 z.2.2∧z.2.2.map Cd.src=qx.map Sum.inl++(ks.take z.1).map Sum.inr) (λz=>ks.length - z.1) (by rfl) (0,vo,cds) ⟨O,O,U⟩
   ⟨Lk _,I,Y,by simp only[];rw[ha];simp⟩ ?_
  rintro ⟨j,vp,cdt⟩ g wB ⟨hj,he,S,hf⟩;simp only[] at hj S hf;have hN:cdt.length=qx.length+j:=by have:=congrArg List.length hf;simp at this;omega
  refine Qc<|x (QA O O)<|xe<|Qf<|QG O (λhn=>?_) (λhn=>?_)
  ·refine Qz ?_;have hB:ks.length≤j:=by have hm:¬(j:Int)<(ks.length:Int):=hn;omega
   rw[Lm hB] at hf;refine Qc<|Qb<|Qe ?_;exact Qn ⟨[_],Z,H.trans he,cdt,⟨Zq S.own h8,S.bx⟩,hf⟩
  have T:j<ks.length:=by have hm:(j:Int)<(ks.length:Int):=hn;omega
  have h4:=Li T;have h5:ks.take (j+1)=ks.take j++[ks[j]'T]:=Le T;refine Qi<|Qf<|Qh<|Qc<|xig Jk ((hK.ext H).ext he).arr O O T λaA hA=>?_;refine Zd (ks[j]'T) λq hq=>?_;rw[hq] at hA h4 h5;have ho:=((hK.ext H).ext he).each q h4
  refine x (QI hA O O)<|xl O<|Qt (us:=[.string .empty,nS,.int .i64 0]) O λb7 w4 hp hr hs=>xl O<|Qp (us:=Zx q) hs O O O O ⟨O,ho.one,O,U⟩ λw5 ht hu=>xe ?_;have hg:Step [] wB w5:=hp.then1 ht hr;refine Qy<|Qb<|x (Qr hu O O)<|xl O<|xf<|(QaV w5).mono ?_;rintro r6 w6 ⟨hv,E,rfl,hC,hw⟩
  refine xl O<|QC (us:=[[(Cd.co E q).val]]) O O (by decide) (by simp) ⟨rfl,rfl,U⟩ λhD w7 hh hE hy=>?_;have G:=(hg.trans hv).trans hh;have hF:=(he.trans G).size;have hG:=hg.size;refine xl O<|Q2 (news:=[(Cd.co E q).val]) (L:=[]) (Qq S.own G) O O O (hy.at (by simp)) (by simp[Cd.val,Value.oneCell']) (by omega) (by omega) λv8 w8 hz hi h0 =>
   Qe ?_
  have hge:=Qk S.own;have h1:=S.add (c:=Cd.co E q) G (QZ.ext hw hh) (by show _≤E;omega) hz hi h0;have h2:Step [] J w8:=(he.trans G).then hi (λb hb=>.inr (hge b hb).1);refine Qy<|QP O O<|Qb<|xe ?_;exact ⟨(j+1,v8,cdt++[Cd.co E q]),by simp only[];omega,⟨O,O,U⟩,T,h2,h1,by simp only[];rw[Lt,hf,h5];simp[Cd.src]⟩
 have V:k<qx.length:=by have hm:(k:Int)<(qx.length:Int):=hl;omega
 have h6:=Li V;have h7:qx.take (k+1)=qx.take k++[qx[k]'V]:=Le V;refine Qi<|Qf<|Qh<|Qc<|xig JC ((hX.ext H).ext I).arr O O V λaA hA=>?_;refine Zd (qx[k]'V) λq hq=>?_;rw[hq] at hA h6 h7;have ho:=((hX.ext H).ext I).each q h6
 refine x (QI hA O O)<|xl O<|Qt (us:=[.string .empty,nS]) O λb7 w4 hp hr hs=>xl O<|Qp (us:=Zs q) hs O O O O ⟨O,ho.one,U⟩ λw5 ht hu=>xe ?_;have hg:Step [] wA w5:=hp.then1 ht hr;refine Qy<|Qb<|x (Qr hu O O)<|xl O<|xf<|(jE w5).mono ?_;rintro r6 w6 ⟨hv,E,rfl,hC,hw⟩;refine xl rfl<|QC (us:=[[(Cd.ex E q).val]]) O O (by decide) (by simp) ⟨rfl,rfl,U⟩ λhD w7 hh hE hy=>?_
 have G:=(hg.trans hv).trans hh;have hF:=(I.trans G).size;have hG:=hg.size;refine xl rfl<|Q2 (news:=[(Cd.ex E q).val]) (L:=[]) (Qq Y.own G) O O O (hy.at (by simp)) (by simp[Cd.val,Value.oneCell']) (by omega) (by omega) λv8 w8 hz hi h0 =>
  Qe ?_
 have hge:=Qk Y.own;have h1:=Y.add (c:=Cd.ex E q) G (QZ.ext hw hh) (by show _≤E;omega) hz hi h0;have h2:Step [] J w8:=(I.trans G).then hi (λb hb=>.inr (hge b hb).1);refine Qy<|QP O O<|Qb<|xe ?_;exact ⟨(k+1,v8,cds++[Cd.ex E q]),by simp only[];omega,⟨O,O,U⟩,V,h2,h1,by simp only[];rw[Lt,ha,h7];simp[Cd.src]⟩
theorem Qjw {gp:Nat}{fn:Func}[Fu prog gp fn] {cap:LV}{q:Cd→Bool}{L:LN}{w:World}{v:Value}{l:List Cd}(h:Zp L w.heap v l.length 1 (l.flatMap Vk))
  (hk:∀e∈l,∀(G:World),Step [] w G→QK prog gp ([e.val]++cap) G λr w'=>r=.bool (q e)∧Step [] G w') :
  QK prog 207 [v,.func (.func gp) #[] cap.toArray] w λr w'=>r=.int .i64 (fix q 0 l)∧Step [] w w':=by
 have hb:=h.le;refine QK.of_W func207 O ntmps207 results207 (by simp) ?_;refine Qc<|Qe<|Qf<|Qc<|Qb<|x (Qs h O)<|Qb<|xe<|Qh<|QB (α:=Nat) [(4,5),(8,18)] (λz=>[(8,.int .i64 z)]) (λz w'=>z≤l.length∧Step [] w w'∧fix q z (l.drop z)=fix q 0 l) (λz=>l.length - z) (by rfl) 0 Z
  ⟨Lk _,Step.refl _ _,O⟩ ?_
 rintro k g G ⟨hc,H,E⟩;refine Qc<|x (QA O O)<|xe<|Qf<|QG O (λh9=>?_) (λh9=>?_)
 ·refine Qz ?_;have Y:l.length≤k:=by have ha:¬(k:Int)<(l.length:Int):=h9;omega
  rw[Lq Y] at E;refine Qc<|Qe ?_;exact Qn ⟨[_],Z,by rw[←E];rfl,H⟩
 have I:k<l.length:=by have ha:(k:Int)<(l.length:Int):=h9;omega
 rw[QY I,ZQ] at E;have S:=Li I;refine Qi<|Qf<|Qh<|Qc<|Qb<|Qe<|Qc<|Qb<|Qb<|Qb<|xig QjV (h.ext H) O O I λhf T=>?_;refine Zd (l[k]'I) λe he=>?_;rw[he] at T E S;refine x (Qx T O)<|xl O<|xc (first:=[]) (capt:=cap) O<|(hk e S G H).mono ?_;rintro r2 w2 ⟨rfl,V⟩;refine xe<|Q3 rfl (λJ=>?_) (λJ=>?_)
 ·rw[if_pos J] at E;refine Qc<|Qb<|Qe ?_;exact Qn ⟨[_],Z,by rw[←E];rfl,H.trans V⟩
 rw[if_neg (by rw[J];decide)] at E;refine Qi<|Qy<|QP O O<|Qb<|xe ?_;exact ⟨k+1,by omega,Z,I,H.trans V,E⟩
theorem Qh2 {w:World}{c:Cd}{vt:Value}{t:LI}(hc:CdA w.heap c) (G:QL [] w.heap vt t) (E:c.rg t.length) (H:∀i,i<t.length→0≤cget t i∧cget t i≤4096) :
  ∃g fn cap,c.val=.func (.func g) #[] [cap].toArray∧Fu prog g fn∧QK prog g ([vt]++[cap]) w λr w'=>r=.bool (c.vio t)∧Step [] w w':=by
 cases c with
 | ex b q=>exact ⟨_,_,_,O,inferInstance,QhR hc.1 hc.2 G E⟩
 | co b q=>exact ⟨_,_,_,O,inferInstance,QhQ hc.1 hc.2 G E.1 E.2 H⟩
theorem QdG {w:World}{bt:Nat}{c:Cd}{vt:Value}{t:LI}(E:QZ w.heap bt 37 [vt]) (hc:CdA w.heap c) (G:QL [] w.heap vt t) (H:c.rg t.length) (I:∀i,i<t.length→0≤cget t i∧cget t i≤4096) :
  QK prog 208 ([c.val]++[.pointer (some ⟨bt,0,none⟩)]) w λr w'=>r=.bool (c.vio t)∧Step [] w w':=by
 obtain ⟨gq,fn,cap,J,T,hcall⟩:=Qh2 hc G H I;rw[J];refine QK.of_W func208 O ntmps208 results208 (by simp) ?_;refine Qc<|Qe<|Qc<|Qb<|x (Qd E O O)<|xl O<|xc (g:=gq) (fn:=fn) (first:=[]) (capt:=[cap]) O<|hcall.mono ?_;rintro V Y ⟨rfl,S⟩;refine Qe ?_;exact Qn ⟨[_],Z,O,S⟩
theorem yN {L:LN}{w:World}{v vt:Value}{cds:List Cd}{t:LI}(h:Zp L w.heap v cds.length 1 (cds.flatMap Vk)) (hc:∀c∈cds,CdA w.heap c) (H:QL [] w.heap vt t) (I:∀c∈cds,c.rg t.length) (J:∀i,i<t.length→0≤cget t i∧cget t i≤4096) :
  QK prog 149 [v,vt] w λr w'=>r=.int .i64 (fix (Cd.vio t) 0 cds)∧Step [] w w':=by
 refine QK.of_W func149 O ntmps149 results149 (by simp) ?_;refine Qc<|xl O<|QS (us:=[vt]) H.cells λS Y G ha T=>Qe<|Qc<|Qb<|x Zo<|xl O<|xf<|(Qjw (q:=Cd.vio t) (cap:=[.pointer (some ⟨S,0,none⟩)]) (h.ext G) (λc hm V E=>QdG (T.ext E) (((hc c hm).ext G).ext E) ((H.ext G).ext E) (I c hm) J)).mono ?_;rintro r2 V ⟨rfl,E⟩;refine Qe ?_;exact Qn ⟨[_],Z,O,G.trans E⟩
theorem QfZ {w:World}{vs vx vk vt:Value}{sz t:LI}(I:QL [] w.heap vs sz) (G:QL [] w.heap vt t) (h:Qik sz t) :
  QK prog 206 [.agg #[vs,vx,vk],vt] w λr w'=>r=.int .i64 0∧Step [] w w':=by
 have hf:=G.le;have h0:=h.1;refine QK.of_W func206 O ntmps206 results206 (by simp) ?_;refine Qc<|xl O<|QS (us:=[vs,vx,vk]) O λb2 V E hg J=>Qe<|Qf<|Qc<|Qb<|x (Qs (G.ext E) O)<|x (Qa O)<|x (Qd J O O)<|x (Qs (I.ext E) O)<|x (Q9 O O) <|
  xe ?_
 refine QG rfl (λS=>?_) (λS=>?_)
 ·refine Qi<|Qf<|Qc<|Qb<|x (Qs (G.ext E) O)<|Qb<|xe<|Qh<|QB (α:=Nat) [(4,6),(15,31)] (λz=>[(15,.int .i64 z)]) (λz w'=>z≤t.length∧w'=V) (λz=>t.length - z) (by rfl) 0 Z ⟨Lk _,O⟩ ?_;rintro k g Y ⟨hk,rfl⟩;refine Qc<|x (QA O O)<|xe<|Qf<|QG O (λT=>?_) (λT=>?_)
  ·refine Qz<|Qc<|Qe ?_;exact Qn ⟨[_],Z,O,E⟩
  have H:k<t.length:=by have hh:(k:Int)<(t.length:Int):=T;omega
  have hb:=h.2 k H;refine Qi<|Qf<|Qh<|Qc<|Qb<|xic (i:=k) (G.ext E) O O H λhi ha=>x (Qx ha O)<|x Qg<|Qe<|QU (α:=Unit) [(20,30)] (λz=>[(30,.bool false)]) (λz w'=>w'=Y) (by rfl) ?_ ?_
  ·refine Qy<|Qb<|xb (QA O O) (λhc=>by omega) (λhc=>?_);refine Qb<|Qb<|x (Qa O)<|x (Qd J O O)<|Qb<|xic (i:=k) (I.ext E) O O (by omega) λhj he=>x (Qx he O) <|
    x (ZU rfl O)<|x (Qm O)<|xe ?_
   exact ⟨(),⟨congrArg Value.bool (decide_eq_false (by omega)),U⟩,O⟩
  rintro _ g w3 rfl;refine Yl O ?_;refine Qi<|Qy<|QP O O<|Qb<|xe ?_;exact ⟨k+1,by omega,Z,H,O⟩
 exact absurd (show (t.length:Int)=(sz.length:Int) by omega) S
theorem qL {w:World}{vs vx vk vt:Value}{sz t:LI}{qx:List XV}{ks:List KV}(H:QL [] w.heap vs sz) (T:qy [] w.heap vx qx) (V:qm [] w.heap vk ks) (Y:QL [] w.heap vt t) (hc:Yu sz (qx.map (·.x)) (ks.map (·.k))=0) (h:Qik sz t) :
  QK prog 148 [.agg #[vs,vx,vk],vt] w λr w'=>r=.int .i64 0∧Step [] w w':=by
 refine QK.of_W func148 O ntmps148 results148 (by simp) ?_;refine Qc<|xl O<|QS (us:=[vs,vx,vk]) O λb2 w1 E hb I=>Qe<|Qf<|Qc<|x (Qr I O O)<|xl O<|xf<|(U3 (H.ext E) (T.ext E) (V.ext E)).mono ?_;rintro r2 w2 ⟨J,S⟩;rw[hc] at J;subst J;refine Qe<|Qc<|Qb<|x (Q9 O O)<|xe<|Yl rfl ?_;refine Qi ?_;have G:=E.trans S
 refine Qc<|x (Qr (I.ext S) O O)<|Qb<|xl O<|xf<|(QfZ (H.ext G) (Y.ext G) h).mono ?_;rintro r3 w3 ⟨rfl,ha⟩;refine Qe ?_;exact Qn ⟨[_],Z,O,G.trans ha⟩
def KM (qx:List Exc) (ks:List Xv) (t:LI):Int×Int×Bool :=
 if 0≤fix (Kl t) 0 qx then (1,fix (Kl t) 0 qx,true) else if 0≤fix (Vr t) 0 ks then (2,fix (Vr t) 0 ks,true) else (0,0,false)
theorem QhO {cds:List Cd}{qx:List XV}{ks:List KV}(t:LI) (h:cds.map Cd.src=qx.map Sum.inl++ks.map Sum.inr) :
  fix (Cd.vio t) 0 cds=if 0≤fix (Kl t) 0 (qx.map (·.x)) then fix (Kl t) 0 (qx.map (·.x)) else if 0≤fix (Vr t) 0 (ks.map (·.k)) then fix (Vr t) 0 (ks.map (·.k))+qx.length else -1:=by
 have h1:fix (Cd.vio t) 0 cds=fix (QcC t) 0 (cds.map Cd.src):=(J5 (QcC t) Cd.src cds 0).symm;rw[h1,h,U0,J5,Lc,zh,J5 (QcC t) Sum.inr ks 0];have e1:fix (λa=>QcC t (Sum.inl a)) 0 qx=fix (Kl t) 0 (qx.map (·.x)):=(J5 (Kl t) XV.x qx 0).symm;have e2:fix (λa=>QcC t (Sum.inr a)) 0 ks=fix (Vr t) 0 (ks.map (·.k)):=(J5 (Vr t) KV.k ks 0).symm;rw[e1,e2]
theorem QiL {P:Int×Int×Bool}{a b:Int}{c:Bool}(h:P=(a,b,c)):(Value.tuple #[.int .i64 a,.int .i64 b,.bool c,.int .i64 0])=.tuple #[.int .i64 P.1,.int .i64 P.2.1,.bool P.2.2,.int .i64 0]:=by rw[h]
set_option maxHeartbeats 4000000 in
theorem V3 {w:World}{vs vx vk vt:Value}{sz t:LI}{qx:List XV}{ks:List KV}(hS:QL [] w.heap vs sz) (I:qy [] w.heap vx qx) (Y:qm [] w.heap vk ks) (ht:QL [] w.heap vt t) (hc:Yu sz (qx.map (·.x)) (ks.map (·.k))=0) (h:Qik sz t) :
  QK prog 73 [.agg #[vs,vx,vk],vt] w λr w'=>Step [] w w'∧r=.tuple #[.int .i64 (KM (qx.map (·.x)) (ks.map (·.k)) t).1,.int .i64 (KM (qx.map (·.x)) (ks.map (·.k)) t).2.1,.bool (KM (qx.map (·.x)) (ks.map (·.k)) t).2.2,.int .i64 0]:=by
 have J:=V1 hc;have hp:qx.length≤32:=by have:=J.xl;simpa using this
 have hs:ks.length≤32:=by have:=J.kl;simpa using this
 refine QK.of_W func73 O ntmps73 results73 (by simp) ?_;refine Qc<|xl O<|QS (us:=[vs,vx,vk]) O λb2 w1 S h4 hg=>x Qg<|x Qg<|x Qg<|Qe<|Qf<|Qc<|x (Qr hg O O)<|Qb<|xl O<|xf<|(qL (hS.ext S) (I.ext S) (Y.ext S) (ht.ext S) hc h).mono ?_;rintro r2 w2 ⟨rfl,hh⟩;refine Qe<|Qc<|Qb<|x (Q9 O O)<|xe<|Yl rfl ?_;refine Qi ?_;have ha:=S.trans hh;have hj:=hg.ext hh
 refine Qc<|x (Qr hj O O)<|xl O<|xf<|(QfS (I.ext ha) (Y.ext ha) hp hs).mono ?_;rintro r3 w3 ⟨hk,cds,hL,hb⟩;have V:=ha.trans hk;have h5:cds.length=qx.length+ks.length:=by have:=congrArg List.length hb;simpa using this
 have hu:∀i,i<t.length→0≤cget t i∧cget t i≤4096:=λi hi=>by
  have h1:=h.2 i hi;have h2:i<sz.length:=by rw[←h.1];exact hi
  have h3:=J.s _ (Li h2);rw[Zi h2] at h3;omega
 have hl:∀c∈cds,c.src∈qx.map Sum.inl++ks.map Sum.inr:=λc hm=>by rw[←hb];exact LH hm
 have hv:∀c∈cds,CdA w3.heap c:=λc hm=>by
  have h1:=hl c hm;have h2:=(hL.bx c hm).1;cases c with
  | ex b q =>
   have hq:q∈qx:=by simpa[Cd.src] using h1
   exact ⟨h2,(I.each q hq).ext V⟩
  | co b q =>
   have hq:q∈ks:=by simpa[Cd.src] using h1
   exact ⟨h2,(Y.each q hq).ext V⟩
 have hw:∀c∈cds,c.rg t.length:=λc hm=>by
  have h1:=hl c hm;rw[h.1];cases c with
  | ex b q =>
   have hq:q∈qx:=by simpa[Cd.src] using h1
   exact J.x q.x (LH hq)
  | co b q =>
   have hq:q∈ks:=by simpa[Cd.src] using h1
   exact J.k q.k (LH hq)
 have hy:=QhO t hb;have g1:=QaT (Kl t) (qx.map (·.x)) 0;have g2:=QaT (Vr t) (ks.map (·.k)) 0;simp only[List.length_map] at g1 g2;refine Qb<|xl O<|xf<|(yN (QT (L:=[]) hL.own (by omega) (by simp)) hv (ht.ext V) hw hu).mono ?_;rintro r4 w4 ⟨rfl,hn⟩;rw[hy];have T:=V.trans hn;refine Zd (KM (qx.map (·.x)) (ks.map (·.k)) t) λP G=>?_;rw[G];unfold KM at G
 refine Zd (fix (Kl t) 0 (qx.map (·.x))) λH he=>?_;refine Zd (fix (Vr t) 0 (ks.map (·.k))) λi2 hf=>?_;rw[he,hf] at G;rw[he] at g1;rw[hf] at g2;refine Zd (if 0≤H then H else if 0≤i2 then i2+(qx.length:Int) else -1) λr E=>?_
 rw[he,hf,E];refine Qe<|Qh<|Qc<|Qb<|x (QA O O)<|Qe<|Q6 O (λhz=>?_) (λhz=>?_)
 ·have n1:¬0≤H:=λh=>by rw[if_pos h] at E;omega
  have n2:¬0≤i2:=λh=>by rw[if_neg n1,if_pos h] at E;omega
  refine Qc<|x Qg<|x Qg<|x Qg<|Qe ?_;exact Qn ⟨[_,_,_,_],⟨O,O,O,O,U⟩,T,QiL (by rw[←G,if_neg n1,if_neg n2])⟩
 have ho:=(hj.ext hk).ext hn;refine Qc<|Qb<|x (Qa O)<|x (Qd ho O O)<|x (Qs (I.ext T).arr O)<|x (QA O O)<|Qe<|Q6 O (λh0=>?_) (λh0=>?_)
 ·have p1:0≤H:=by
   refine Ls.1 λn1=>?_;by_cases h:0≤i2
   ·rw[if_neg n1,if_pos h] at E;omega
   rw[if_neg n1,if_neg h] at E;omega
  have e:r=H:=by rw[if_pos p1] at E;exact E.symm
  refine Qc<|Qb<|x Qg<|x Qg<|x Qg<|Qe ?_;exact Qn ⟨[_,_,_,_],⟨O,O,O,O,U⟩,T,QiL (by rw[←G,if_pos p1,e])⟩
 have n1:¬0≤H:=λh=>by rw[if_pos h] at E;omega
 have p2:0≤i2:=by
  refine Ls.1 λn2=>?_;rw[if_neg n1,if_neg n2] at E;omega
 have e:r - (qx.length:Int)=i2:=by rw[if_neg n1,if_pos p2] at E;omega
 refine Qf<|QW (Step [] w4) [(0,true),(1,true),(2,true),(3,true),(4,true),(5,true),(6,true),(7,true),(8,true)] mixed (by rfl) (by kernel_rfl) (Step.drew _ _) ?_;refine p (λ_=>Qo)<|p (λ_=>Qa O)<|pq (λ_ hc=>Qd (ho.ext hc) O O)<|p (λ_=>Qs (I.ext T).arr O) <|
  p (λ_=>Jv O O ⟨by omega,by omega⟩)<|p (λ_=>Qg)<|p (λ_=>Qg)<|p (λ_=>Qg)<|p (λ_=>Qg) <|
  pe ?_
 exact Qn ⟨[_,_,_,_],⟨O,O,O,O,U⟩,T.trans (Step.drew _ _),QiL (by rw[←G,if_neg n1,if_pos p2,←e])⟩
def ZL (base:Nat) (av:LN) (H:Array Obj) (v:Value) (n sz:Nat) (cs:LV):Prop:=∀L:LN,(∀b∈L,b<base∨b∈av)→Zp L H v n sz cs
theorem ZL.ext {base:Nat}{av:LN}{w w':World}{v:Value}{n sz:Nat}{cs:LV}(h:ZL base av w.heap v n sz cs) (hs:Step [] w w'):ZL base av w'.heap v n sz cs:=λL E=>(h L E).ext hs
theorem ZL.app {base:Nat}{av E:LN}{w w':World}{v:Value}{n sz:Nat}{cs:LV}(h:ZL base av w.heap v n sz cs) (hs:Step av w w') (G:∀b∈E,b∈av∨w.heap.size≤b):ZL base E w'.heap v n sz cs:=by
 intro L H;have h1:Zp (av++L.filter λb=>decide (b<base)) w.heap v n sz cs:=h _ (λb hb=>by
  rcases Lj.1 hb with hb | hb
  ·exact .inr hb
  exact .inl (by simpa using (LS.1 hb).2))
 refine h1.grow hs (λb hb=>Lj.2 (.inl hb)) λb hb=>?_;rcases H b hb with h2 | h2
 ·exact .inl (Lj.2 (.inr (LS.2 ⟨hb,by simpa using h2⟩)))
 rcases G b h2 with h3 | h3
 ·exact .inl (Lj.2 (.inl h3))
 exact .inr h3
theorem ZL.of_own {base N:Nat}{av:LN}{w:World}{v:Value}{e n sz:Nat}{cs:LV}(h:w.ownsRow N e sz v n cs) (E:n≤1099511627776) (hb:base≤N) (G:∀b∈av,b<N):ZL base av w.heap v n sz cs:=λL H =>
 QT h E λb hb I=>by
  have h1:=(Qk h b hb).1;rcases H b I with h2 | h2
  ·omega
  have:=G b h2;omega
structure ZZ {α:Type}(g:α→LV) (sz T:Nat) (p:α→Value×Nat×Nat×LV) (base:Nat) (w:World) (v:Value) (l:List α):Prop where
 own:w.ownsRow base T sz v l.length (l.flatMap g)
 each:∀q∈l,ZL base (ob v) w.heap (p q).1 (p q).2.1 (p q).2.2.1 (p q).2.2.2
theorem ZZ.nil {α:Type}{g:α→LV}{sz T:Nat}{p:α→Value×Nat×Nat×LV}{base:Nat}{w:World}:ZZ g sz T p base w (nS) []:=⟨QN _ _ _ _,λq hq=>by cases hq⟩
theorem ZZ.ext {α:Type}{g:α→LV}{sz T:Nat}{p:α→Value×Nat×Nat×LV}{base:Nat}{w w':World}{v:Value}{l:List α}(h:ZZ g sz T p base w v l) (hs:Step [] w w'):ZZ g sz T p base w' v l:=⟨Qq h.own hs,λq hq=>(h.each q hq).ext hs⟩
theorem ZZ.app {α:Type}{g:α→LV}{sz T:Nat}{p:α→Value×Nat×Nat×LV}{base N e:Nat}{w E G:World}{v H:Value}{l:List α}{q:α}(h:ZZ g sz T p base w v l) (hs:Step [] w E)
  (hq:E.ownsRow N e (p q).2.2.1 (p q).1 (p q).2.1 (p q).2.2.2) (S:(p q).2.1≤1099511627776) (hN:w.heap.size≤N) (hb:base≤w.heap.size)
  (V:G.ownsRow base T sz H (l.length+1) (l.flatMap g++g q)) (I:Step (ob v) E G) (J:∀b∈ob H,b∈ob v∨E.heap.size≤b):ZZ g sz T p base G H (l++[q]):=by
 have Y:=QR h.own;refine ⟨?_,λd hd=>?_⟩
 ·rw[Lh,Ly];simpa using V
 rcases Lj.1 hd with hd | hd
 ·exact ((h.each d hd).ext hs).app I J
 simp only[List.mem_singleton] at hd;subst hd;exact (ZL.of_own hq S (by omega) (λb hb=>by have:=Y b hb;omega)).app I J
theorem Qac {L L':LN}{w:World}{va vm ve hb hc he:Value}{a b:QQ}(h:Zt L w.heap va vm ve a) (h':Zt L' w.heap hb hc he b) :
  QK prog 25 [.agg #[va,.int .i64 a.st,vm,ve],.agg #[hb,.int .i64 b.st,hc,he]] w λr w'=>r=.bool (decide (a.st=b.st∧a.al=b.al∧a.mr=b.mr∧a.ed=b.ed))∧Step [] w w':=by
 refine QK.of_W func25 O ntmps25 results25 (by simp) ?_;refine Qc<|xl O<|QS (us:=[va,.int .i64 a.st,vm,ve]) O λb2 w1 hi hm hj=>xl O<|QS (us:=[hb,.int .i64 b.st,hc,he]) O λb3 w2 hf E H=>Qe ?_;have I:=hi.trans hf;have J:=hj.ext hf;refine QU (α:=Bool) [(4,30)] (λz=>[(4,.bool z)]) (λz w'=>Step [] w w'∧z=decide (a.st=b.st∧a.al=b.al∧a.mr=b.mr∧a.ed=b.ed)) (by rfl) ?_ ?_
 ·refine Qy<|x (Qa O)<|x (Qd J O O)<|x (Qa O)<|x (Qd H O O)<|xb (Q5 O O) (λh9=>?_) (λh9=>?_)
  ·refine Qb<|x (Qa O)<|x (Qd J O O)<|x (Qa O)<|x (Qd H O O)<|xl O<|xf<|(J7 (h.al.ext I) (h'.al.ext I)).mono ?_;rintro r3 w3 ⟨S,T⟩;have V:=I.trans T;refine QfH (decide (a.al=b.al)) (λE=>?_) (λE=>?_)
   ·rw[E] at S;subst S;refine x (Qm O)<|Qb<|x (Qa O)<|x (Qd (J.ext T) O O)<|x (Qa O)<|x (Qd (H.ext T) O O)<|xl O<|xf<|(J7 (h.mr.ext V) (h'.mr.ext V)).mono ?_;rintro r4 w4 ⟨Y,hg⟩;have ha:=V.trans hg;have hh:=T.trans hg;refine QfH (decide (a.mr=b.mr)) (λG=>?_) (λG=>?_)
    ·rw[G] at Y;subst Y;refine x (Qm O)<|Qb<|x (Qa O)<|x (Qd (J.ext hh) O O)<|x (Qa O)<|x (Qd (H.ext hh) O O)<|xl O<|xf<|(Qde (h.ed.ext ha) (h'.ed.ext ha)).mono ?_;rintro r5 w5 ⟨rfl,hk⟩;refine x (Qm O)<|Qe ?_;exact ⟨_,Z,ha.trans hk,bD ⟨λe=>⟨h9,of_decide_eq_true E,of_decide_eq_true G,e⟩,λe=>e.2.2.2⟩⟩
    rw[G] at Y;subst Y;refine x (Qm O)<|Qb<|xs O<|xs O<|xs O<|xs O<|xs O<|x (Qm O)<|Qe ?_;exact ⟨_,Z,ha,bF (λe=>of_decide_eq_false G e.2.2.1)⟩
   rw[E] at S;subst S;refine x (Qm O)<|Qb<|xs O<|xs O<|xs O<|xs O<|xs O<|x (Qm O)<|Qb<|xs O<|xs O<|xs O<|xs O<|xs O<|x (Qm O) <|
    Qe ?_
   exact ⟨_,Z,V,bF (λe=>of_decide_eq_false E e.2.1)⟩
  refine Qb<|xs O<|xs O<|xs O<|xs O<|xs O<|x (Qm O)<|Qb<|xs O<|xs O<|xs O<|xs O<|xs O<|x (Qm O) <|
   Qb<|xs rfl<|xs O<|xs O<|xs O<|xs O<|x (Qm O)<|Qe ?_
  exact ⟨_,Z,I,bF (λe=>h9 e.1)⟩
 rintro z g w6 ⟨hl,rfl⟩;exact Qn ⟨[_],Z,O,hl⟩
theorem Qgt {L:LN}{w:World}{va vm ve:Value}{a:QQ}(h:Zt L w.heap va vm ve a) :
  QK prog 163 [.agg #[va,.int .i64 a.st,vm,ve]] w λr w'=>r=.bool (JO a)∧Step [] w w':=by
 refine QK.of_W func163 O ntmps163 results163 (by simp) ?_;refine Qc<|xl O<|QS (us:=[va,.int .i64 a.st,vm,ve]) O λb1 E ha hf G=>Qe<|QU (α:=Bool) [(2,11)] (λz=>[(2,.bool z)]) (λz w'=>Step [] w w'∧z=JO a) (by rfl) ?_ ?_
 ·refine QW (Step [] E) [(0,true),(1,false),(2,true),(3,true),(4,true),(5,true),(6,false),(7,false),(8,true),(9,true)] mixed (by rfl) (by kernel_rfl) (Step.drew _ _) ?_;have S:=ha.trans (Step.drew [] E);refine pq (λ_ hc=>Qr (G.step hc (by simp)) rfl rfl)<|pk<|xf<|(Xt (h.ext S)).mono ?_;rintro r2 w2 ⟨rfl,T⟩;have H:=S.trans T;have I:=(Step.drew [] E).trans T
  refine ⟨I,?_⟩;refine pb (λ_=>Q5 O O) (λh5=>?_) (λh5=>?_)
  ·have hc:Jn a=0:=h5;refine p (λ_=>Qo)<|pq (λ_ hc=>Qr (G.step hc (by simp)) rfl rfl)<|pq (λ_ hc=>Qr (G.step hc (by simp)) rfl rfl) <|
    pk<|xf<|(Jo (h.ext H) ((ZJ a).1 hc)).mono ?_
   rintro r3 w3 ⟨J,hg,hh,hi,rfl,hb⟩;have V:=H.trans J;refine ⟨I.trans J,?_⟩;refine pk<|xf<|(Qac (h.ext V) (hb [] (by simp))).mono ?_;rintro r4 w4 ⟨rfl,Y⟩;refine ⟨(I.trans J).trans Y,?_⟩;refine p (λ_=>Qm O)<|p (λ_=>Qg)<|pe ?_;refine ⟨_,Z,V.trans Y,?_⟩;unfold JO;rw[decide_eq_true hc,Bool.true_and]
   exact bD ⟨λe=>⟨e.1.symm,e.2.1.symm,e.2.2.1.symm,e.2.2.2.symm⟩,λe=>⟨e.1.symm,e.2.1.symm,e.2.2.1.symm,e.2.2.2.symm⟩⟩
  have hc:¬Jn a=0:=h5;refine p (λ_=>Qo)<|ps<|ps<|ps<|ps<|p (λ_=>Qm O)<|p (λ_=>Qg)<|pe ?_;exact ⟨_,Z,H,by unfold JO;rw[decide_eq_false hc];rfl⟩
 rintro z g w5 ⟨he,rfl⟩;exact Qn ⟨[_],Z,O,he⟩
section
variable {P:Program} {f:Fr} {w:World} {d:Option Nat} {ty:Nat} {ps:String} {af:Array Edge} {gd:Option (Nat×Bool)}
theorem Yy {t sz:Nat}[Ag P t sz] {x:Operand}{b T o:Nat}{cs us:LV}(h:QZ w.heap b T cs) (hx:ev f x=.pointer (some ⟨b,o,none⟩)) (hl:us.length=sz) (hu:(cs.drop o).take sz=us) :
  (execOp (ev f) ⟨d,.load t x,ty,ps,af,gd⟩).run P w=.ok (.value (.agg us.toArray)) w:=Ui hx hl λj v E=>by
 rw[JM,Jc,h.cell];rw[←hu,LT] at E;split at E
 ·simpa using E
 cases E
end
theorem QaP {L:LN}{w:World}{v:Value}{qs:List IV}(h:Y9 L w.heap v qs) :
  QK prog 75 [v] w λr w'=>Step [] w w'∧w'.ownsRow w.heap.size 58 4 r (qs.map (·.p)).length ((qs.map (·.p)).flatMap Zj):=by
 have ho:=h.arr.le;refine QK.of_W func75 O ntmps75 results75 (by simp) ?_;refine Qc<|Qe<|Qc<|Qe<|Qf<|Qc<|Qb<|x (Qs h.arr O)<|Qb<|xe<|Qh<|QB (α:=Nat×Value) [(3,3),(5,5),(8,17)] (λz=>[(3,z.2),(8,.int .i64 z.1)]) (λz w'=>z.1≤qs.length∧Step [] w w'∧w'.ownsRow w.heap.size 58 4 z.2 z.1 (((qs.take z.1).map (·.p)).flatMap Zj)) (λz=>qs.length - z.1) (by rfl) (0,nS) ⟨O,O,U⟩
  ⟨Lk _,Step.refl _ _,QN _ _ _ _⟩ ?_
 rintro ⟨k,vo⟩ g w1 ⟨hk,H,I⟩;simp only[] at hk I;refine Qc<|x (QA O O)<|xe<|Qf<|QG O (λh9=>?_) (λh9=>?_)
 ·refine Qz ?_;have hc:k=qs.length:=by have J:¬(k:Int)<(qs.length:Int):=h9;omega
  subst hc;rw[Lm (Lr _)] at I;refine Qc<|Qb<|Qe ?_;exact Qn ⟨[_],Z,H,by rw[Lc];exact I⟩
 have E:k<qs.length:=by have J:(k:Int)<(qs.length:Int):=h9;omega
 have V:=Li E;have Y:qs.take (k+1)=qs.take k++[qs[k]'E]:=Le E;refine Qi<|Qf<|Qh<|Qc<|xig YT (h.arr.ext H) O O E λhp J=>?_;refine Zd (qs[k]'E) λq hq=>?_;rw[hq] at J V Y;have G:=h.each q V
 refine x (QI J O O)<|xl O<|Qt (us:=[.string .empty,nS,.int .i64 0,nS,nS]) O λb5 w2 he hf S=>xl O<|Qp (us:=Za q) S O O O O ⟨O,G.al.one,O,G.mr.one,G.ed.one,U⟩ λw3 hg S =>
  xe ?_
 have hh:Step [] w1 w3:=he.then1 hg hf;refine Qy<|Qb<|x (Qa O)<|x (Yy (us:=Zj q.p) S O O O)<|xl O<|QC (us:=[Zj q.p]) O O (by decide) (by simp) ⟨rfl,rfl,U⟩ λhr w4 hi hs hj=>?_;have T:=hh.trans hi;have ha:=Qq I T;have ht:=(H.trans T).size;have hl:∀u∈Zj q.p,u.oneCell'=true:=by
  intro u hu;simp only[List.mem_cons,List.not_mem_nil,or_false] at hu;rcases hu with rfl | rfl | rfl | rfl
  ·exact G.al.one
  ·rfl
  ·exact G.mr.one
  exact G.ed.one
 refine xl rfl<|Q2 (news:=Zj q.p) (L:=[]) ha O O O (hj.at (by simp)) hl (by omega) (by omega) λv5 w5 hm hn hv=>Qe ?_;have hge:=Qk ha;refine Qy<|QP O O<|Qb<|xe<|⟨(k+1,v5),by simp only[];omega,⟨O,O,U⟩,E,(H.trans T).then hn (λb hb=>.inr (hge b hb).1),?_⟩;simp only[];rw[Y,Lt,Ly];simpa using hm
theorem Qfj {L:LN}{w:World}{r:Value}{base e:Nat}{ps:List AV}(h:w.ownsRow base e 4 r ps.length (ps.flatMap Zj)) (E:ps.length≤1099511627776) (G:∀b∈L,b<base) (he:∀p∈ps,Zt L w.heap p.va p.vm p.ve p.a):Xw L w.heap r ps :=
 ⟨QT h E (λb hb H=>by have:=(Qk h b hb).1;have:=G b H;omega),he⟩
theorem Qfi {w:World}{b:Nat}{n m:Int}(E:QZ w.heap b 3 [.int .i64 m]) :
  QK prog 164 ([.int .i64 n]++[.pointer (some ⟨b,0,none⟩)]) w λr w'=>r=.bool (decide (m≤n))∧Step [] w w':=by
 refine QK.of_W func164 O ntmps164 results164 (by simp) ?_;refine Qc<|Qe<|Qc<|Qb<|x (Qd E O O)<|x (ZU O O)<|Qe ?_;exact Qn ⟨[_],Z,O,Step.refl _ _⟩
abbrev K8 (n:Int):LV:=[.int .i64 n]
theorem Qjx (n:Int):(K8 n).length=1:=rfl
theorem QiA:∀l:LI,l.flatMap K8=l.map (.int .i64)
 | []=>rfl
 | a::l=>by rw[LD,QiA l];rfl
theorem QL.fl {L:LN}{H:Array Obj}{v:Value}{l:LI}(h:QL L H v l):Zp L H v l.length 1 (l.flatMap K8):=by
 rw[QiA l];exact h
theorem Qfg {gp:Nat}{fn:Func}[Fu prog gp fn] {cap:LV}{q:Int→Bool}{L:LN}{w:World}{v:Value}{l:LI}(h:Zp L w.heap v l.length 1 (l.flatMap K8))
  (hk:∀e∈l,∀(G:World),Step [] w G→QK prog gp ([.int .i64 e]++cap) G λr w'=>r=.bool (q e)∧Step [] G w') :
  QK prog 131 [v,.func (.func gp) #[] cap.toArray] w λr w'=>r=.int .i64 (fix q 0 l)∧Step [] w w':=by
 have hb:=h.le;refine QK.of_W func131 O ntmps131 results131 (by simp) ?_;refine Qc<|Qe<|Qf<|Qc<|Qb<|x (Qs h O)<|Qb<|xe<|Qh<|QB (α:=Nat) [(4,5),(8,18)] (λz=>[(8,.int .i64 z)]) (λz w'=>z≤l.length∧Step [] w w'∧fix q z (l.drop z)=fix q 0 l) (λz=>l.length - z) (by rfl) 0 Z
  ⟨Lk _,Step.refl _ _,O⟩ ?_
 rintro k g G ⟨hc,H,E⟩;refine Qc<|x (QA O O)<|xe<|Qf<|QG O (λh9=>?_) (λh9=>?_)
 ·refine Qz ?_;have Y:l.length≤k:=by have ha:¬(k:Int)<(l.length:Int):=h9;omega
  rw[Lq Y] at E;refine Qc<|Qe ?_;exact Qn ⟨[_],Z,by rw[←E];rfl,H⟩
 have I:k<l.length:=by have ha:(k:Int)<(l.length:Int):=h9;omega
 rw[QY I,ZQ] at E;have S:=Li I;refine Qi<|Qf<|Qh<|Qc<|Qb<|Qe<|Qc<|Qb<|Qb<|Qb<|xig Qjx (h.ext H) O O I λhf T=>?_;refine Zd (l[k]'I) λe he=>?_;rw[he] at T E S;refine x (Qx T O)<|xl O<|xc (first:=[]) (capt:=cap) O<|(hk e S G H).mono ?_;rintro r2 w2 ⟨rfl,V⟩;refine xe<|Q3 rfl (λJ=>?_) (λJ=>?_)
 ·rw[if_pos J] at E;refine Qc<|Qb<|Qe ?_;exact Qn ⟨[_],Z,by rw[←E];rfl,H.trans V⟩
 rw[if_neg (by rw[J];decide)] at E;refine Qi<|Qy<|QP O O<|Qb<|xe ?_;exact ⟨k+1,by omega,Z,I,H.trans V,E⟩
theorem QjU {gp:Nat}{fn:Func}[Fu prog gp fn] {cap:LV}{q:Int→Bool}{L:LN}{w:World}{v:Value}{l:LI}(h:Zp L w.heap v l.length 1 (l.flatMap K8))
  (hk:∀e∈l,∀(E:World),Step [] w E→QK prog gp ([.int .i64 e]++cap) E λr w'=>r=.bool (q e)∧Step [] E w') :
  QK prog 135 [v,.func (.func gp) #[] cap.toArray] w λr w'=>r=.bool (l.any q)∧Step [] w w':=by
 refine QK.of_W func135 O ntmps135 results135 (by simp) ?_;refine Qc<|Qe<|Qc<|Qb<|Qb<|xl O<|xf<|(Qfg h hk).mono ?_;rintro H E ⟨rfl,G⟩;refine x (ZU O O)<|Qe ?_;exact Qn ⟨[_],Z,congrArg Value.bool (yr q l 0),G⟩
theorem Qb0 {L L':LN}{w:World}{q:IV}{nev:Nat}{vg:Value}{amg:LI}{bm:Nat}{seen:List ByteArray}(hA:Zt L w.heap q.p.va q.p.vm q.p.ve q.p.a) (h1:V7 q.nm) (hg:QL L' w.heap vg amg) (hE:amg.length≤4096) (hm:Z4 Xp w.heap bm (nmM seen)) (h2:bm∈L) (h3:bm∈L') :
  QK prog 95 [.agg (Za q).toArray,.int .i64 nev,vg,.map (some bm)] w λr w'=>r=.int .i64 (Z2 nev amg seen q.it)∧Step [bm] w w'∧(Z2 nev amg seen q.it=0→Z4 Xp w'.heap bm (nmM (seen++[q.nm]))):=by
 have E:Z2 nev amg seen q.it=(if YC q.nm=false then 7 else if q.nm∈seen then 8 else if Jn q.p.a≠0 then Jn q.p.a else if JO q.p.a=false then 6 else if q.p.a.st=0 then 12 else
  if (q.p.a.al.any λe=>decide ((nev:Int)≤e))=true then 2 else if (mns q.p.a.al amg).length≠0 then 9 else 0):=rfl
 refine Zd (Z2 nev amg seen q.it) λR hR=>?_;rw[hR] at E ⊢;refine QK.of_W func95 O ntmps95 results95 (by simp) ?_;refine Qc<|xl O<|QS (us:=Za q) O λb4 w1 ht hF h4=>xl O<|QS (us:=[.int .i64 nev]) O λb5 w2 T hG h5=>Qe ?_;have V:=ht.trans T;have Y:=h4.ext T;refine Qf<|Qh<|Qc<|x (Qa O)<|x (Qd Y O O)<|xl O<|xf<|(VS q.nm h1 w2).mono ?_;rintro r3 w3 ⟨rfl,rfl⟩
 refine x (Zr O)<|Qe<|Q3 O (λhi=>?_) (λhi=>?_)
 ·have G:YC q.nm=false:=by simpa using hi
  rw[if_pos G] at E;subst E;refine Qc<|Qe ?_;exact Qn ⟨[_],Z,O,V.any,λe=>absurd e (by decide)⟩
 have G:¬YC q.nm=false:=by simpa using hi
 rw[if_neg G] at E;have hu:=hm.ext V;refine Qc<|Qb<|x (Qa O)<|x (Qd Y O O)<|x (jd hu O O)<|Qe<|Q6 O (λha=>?_) (λha=>?_)
 ·rw[if_pos ha] at E;subst E;refine Qc<|Qe ?_;exact Qn ⟨[_],Z,O,V.any,λe=>absurd e (by decide)⟩
 rw[if_neg ha] at E;refine Qi ?_;have hH:=hm.lt;refine Qc<|Qb<|x (Qa O)<|x (Qd Y O O)<|xl O<|Xn (k:=q.nm) hu O O λw4 hj hv=>xe ?_;rw[show ev _ _=Value.bool true from rfl,QbN ha] at hv;have H:Step [bm] w w4:=V.any.trans' hj;have hI:=ht.size;have hc:=Y.step hj (by simp;omega);have h6:=h5.step hj (by simp;omega)
 have hf:Zt L w4.heap q.p.va q.p.vm q.p.ve q.p.a:=hA.st (H.mono (λb hb=>by simp at hb;subst hb;exact h2));have h7:QL L' w4.heap vg amg:=hg.st (H.mono (λb hb=>by simp at hb;subst hb;exact h3));refine Qf<|Qc<|x (Qa O)<|x (Yy (us:=Zj q.p) hc O O O)<|xl O<|xf<|(Xt hf).mono ?_;rintro r5 w5 ⟨rfl,hh⟩;refine Qe<|Qc<|Qb<|x (Q9 O O)<|xe<|Q6 rfl (λI=>?_) (λI=>?_)
 ·rw[if_pos I] at E;subst E;refine Qc<|Qb<|Qe ?_;exact Qn ⟨[_],Z,O,H.trans hh,λe=>absurd e I⟩
 rw[if_neg I] at E;have h8:=(ZJ q.p.a).1 (Ls.1 I);refine Qi<|Qf<|Qh<|Qc<|x (Qa O)<|x (Yy (us:=Zj q.p) (hc.ext hh) O O O)<|xl O<|xf<|(Qgt (hf.ext hh)).mono ?_;rintro r6 w6 ⟨rfl,h9⟩;have J:=hh.trans h9;have hw:=H.trans J;have hy:=hc.ext J;refine x (Zr O)<|Qe<|Q3 O (λhk=>?_) (λhk=>?_)
 ·have G:JO q.p.a=false:=by simpa using hk
  rw[if_pos G] at E;subst E;refine Qc<|Qe ?_;exact Qn ⟨[_],Z,O,hw,λe=>absurd e (by decide)⟩
 have G:¬JO q.p.a=false:=by simpa using hk
 rw[if_neg G] at E;refine Qc<|x (Qa O)<|x (Qa O)<|x (Qd hy O O)<|x (Q5 O O)<|Qe<|Q6 O (λhl=>?_) (λhl=>?_)
 ·have ho:q.p.a.st=0:=hl;rw[if_pos ho] at E;subst E;refine Qc<|Qe ?_;exact Qn ⟨[_],Z,O,hw,λe=>absurd e (by decide)⟩
 have ho:¬q.p.a.st=0:=hl;rw[if_neg ho] at E;refine Qc<|x (Qa O)<|x (Qa O)<|x (Qd hy O O)<|x Zo<|xl O<|xf<|(QjU (q:=λe=>decide ((nev:Int)≤e)) (cap:=[.pointer (some ⟨b5,0,none⟩)]) (QL.fl (hf.al.ext J)) (λe he w2 T=>Qfi ((h6.ext J).ext T))).mono ?_;rintro r7 w7 ⟨rfl,hB⟩;have S:=J.trans hB;have hC:=H.trans S;refine Qe<|Q3 O (λhp=>?_) (λhp=>?_)
 ·rw[if_pos hp] at E;subst E;refine Qc<|Qe ?_;exact Qn ⟨[_],Z,O,hC,λe=>absurd e (by decide)⟩
 rw[if_neg (by rw[hp];decide)] at E;have hJ:=h8.al_le;refine Qc<|x (Qa O)<|x (Qa O)<|x (Qd (hc.ext S) O O)<|Qb<|xl O<|xf<|(Qdr (hf.al.ext S) (h7.ext S) (by omega)).mono ?_;rintro r8 w8 ⟨hD,rfl⟩;have hz:=S.trans hD;have h0:=H.trans hz;refine x (UF O)<|Qe<|Q6 O (λhq=>?_) (λhq=>?_)
 ·have hs:(mns q.p.a.al amg).length≠0:=λe=>hq (Lp e);rw[if_pos hs] at E;subst E;refine Qc<|Qe ?_;exact Qn ⟨[_],Z,O,h0,λe=>absurd e (by decide)⟩
 have hs:¬(mns q.p.a.al amg).length≠0:=λe=>hq (λh=>e (by rw[show mns q.p.a.al amg=[] from h];rfl));rw[if_neg hs] at E;subst E;refine Qi<|Qc<|Qe ?_;exact Qn ⟨[_],Z,O,h0,λ_=>hv.ext hz⟩
theorem Qdi {L:LN}{w:World}{v:Value}{l:List (Int×Int)}(h:P2s L w.heap v l) :
  QK prog 173 [v] w λr w'=>Step [] w w'∧w'.ownsRow w.heap.size 124 2 r l.length (l.flatMap QO):=by
 have ha:=h.le;refine QK.of_W func173 O ntmps173 results173 (by simp) ?_;refine Qc<|Qe ?_;obtain ⟨ao,cap,E⟩:=h.shape;refine Qf<|Qc<|Qb<|x (KX (show ev _ _=_ from E) O)<|xe<|Q3 rfl (λG=>?_) (λG=>?_)
 ·refine Qc<|Qe<|Qn ⟨[nS],Z,Step.refl _ _,?_⟩;rcases h.2.2 with ⟨h1,h2⟩ | ⟨a,c,h1,_⟩
  ·have:l=[]:=Lp h2;subst this;exact QN _ _ _ _
  rw[h1] at E;cases E;cases G
 rcases h.2.2 with ⟨h1,h2⟩ | ⟨a,c,h1,h2,h3⟩
 ·rw[h1] at E;injection E with e1;subst e1;cases G
 refine Qi<|Qc ?_;have S:∀u∈l.flatMap QO,u.oneCell'=true:=by
  intro u hu;obtain ⟨p,_,hp⟩:=Mi.1 hu;simp only[List.mem_cons,List.not_mem_nil,or_false] at hp;rcases hp with rfl | rfl <;> rfl
 refine xl rfl<|Kp λb5 w1 H I J=>Qb<|xl O<|Q2 (base:=w.heap.size) (J.own (n:=0) (sz:=2) O (by omega) I) O (show ev _ _=_ from h1) h.1 (h3.ext H) S (by omega) (by have:=J.lt;omega) λT w2 V Y hb=>Qe<|Qn ⟨[T],Z,H.then1 Y I,?_⟩;simpa[tup] using V
theorem Qdh {L:LN}{w:World}{v:Value}{l:List (Int×Int)}(h:P2s L w.heap v l) :
  QK prog 174 [v] w λr w'=>Step [] w w'∧w'.ownsRow w.heap.size 129 2 r l.length (l.flatMap QO):=by
 have ha:=h.le;refine QK.of_W func174 O ntmps174 results174 (by simp) ?_;refine Qc<|Qe ?_;obtain ⟨ao,cap,E⟩:=h.shape;refine Qf<|Qc<|Qb<|x (KX (show ev _ _=_ from E) O)<|xe<|Q3 rfl (λG=>?_) (λG=>?_)
 ·refine Qc<|Qe<|Qn ⟨[nS],Z,Step.refl _ _,?_⟩;rcases h.2.2 with ⟨h1,h2⟩ | ⟨a,c,h1,_⟩
  ·have:l=[]:=Lp h2;subst this;exact QN _ _ _ _
  rw[h1] at E;cases E;cases G
 rcases h.2.2 with ⟨h1,h2⟩ | ⟨a,c,h1,h2,h3⟩
 ·rw[h1] at E;injection E with e1;subst e1;cases G
 refine Qi<|Qc ?_;have S:∀u∈l.flatMap QO,u.oneCell'=true:=by
  intro u hu;obtain ⟨p,_,hp⟩:=Mi.1 hu;simp only[List.mem_cons,List.not_mem_nil,or_false] at hp;rcases hp with rfl | rfl <;> rfl
 refine xl rfl<|Kp λb5 w1 H I J=>Qb<|xl O<|Q2 (base:=w.heap.size) (J.own (n:=0) (sz:=2) O (by omega) I) O (show ev _ _=_ from h1) h.1 (h3.ext H) S (by omega) (by have:=J.lt;omega) λT w2 V Y hb=>Qe<|Qn ⟨[T],Z,H.then1 Y I,?_⟩;simpa[tup] using V
theorem ZL.low {base:Nat}{av X:LN}{w w':World}{v:Value}{n sz:Nat}{cs:LV}(h:ZL base av w.heap v n sz cs) (hs:Step X w w') (E:∀b∈X,b<base):ZL base av w'.heap v n sz cs:=by
 intro L G;have h1:Zp (X++L) w.heap v n sz cs:=h _ (λb hb=>by
  rcases Lj.1 hb with hb | hb
  ·exact .inl (E b hb)
  exact G b hb)
 exact (h1.step hs (λb hb=>Lj.2 (.inl hb))).up (λb hb=>.inl (Lj.2 (.inr hb)))
theorem ZZ.low {α:Type}{g:α→LV}{sz T:Nat}{p:α→Value×Nat×Nat×LV}{base:Nat}{X:LN}{w w':World}{v:Value}{l:List α}(h:ZZ g sz T p base w v l) (hs:Step X w w') (E:∀b∈X,b<base):ZZ g sz T p base w' v l :=
 ⟨Qj h.own hs (λb hb hm=>by have:=(Qk h.own b hb).1;have:=E b hm;omega),λq hq=>(h.each q hq).low hs E⟩
theorem ZZ.arr {α:Type}{g:α→LV}{sz T:Nat}{p:α→Value×Nat×Nat×LV}{base:Nat}{w:World}{v:Value}{l:List α}{L:LN}(h:ZZ g sz T p base w v l) (E:l.length≤1099511627776) (G:∀b∈L,b<base):Zp L w.heap v l.length sz (l.flatMap g) :=
 QT h.own E (λb hb H=>by have:=(Qk h.own b hb).1;have:=G b H;omega)
abbrev xvP (q:XV):Value×Nat×Nat×LV:=(q.v,q.ls.length,2,q.ls.flatMap QO)
abbrev kvP (q:KV):Value×Nat×Nat×LV:=(q.v,q.ts.length,2,q.ts.flatMap QO)
abbrev XvN (base:Nat) (w:World) (v:Value) (l:List XV):Prop:=ZZ Zs 2 122 xvP base w v l
abbrev KvN (base:Nat) (w:World) (v:Value) (l:List KV):Prop:=ZZ Zx 3 127 kvP base w v l
theorem XvN.xcs {base:Nat}{w:World}{v:Value}{l:List XV}{qs:List XV}{L:LN}(h:XvN base w v l) (he:l.map (·.x)=qs.map (·.x)) (hq:∀q∈qs,V7 q.nm) (G:l.length≤1099511627776) (E:∀b∈L,b<base):qy L w.heap v l:=by
 refine ⟨h.arr G E,λq hq=>h.each q hq L (λb hb=>.inl (E b hb)),λq hm=>?_⟩;have h1:q.x∈qs.map (·.x):=by rw[←he];exact LH hm
 obtain ⟨q',H,e⟩:=Lx.1 h1;have h2:=hq q' H;have h3:q'.nm=q.nm:=congrArg Exc.nm e;rw[h3] at h2;exact h2
theorem KvN.kcs {base:Nat}{w:World}{v:Value}{l:List KV}{qs:List KV}{L:LN}(h:KvN base w v l) (he:l.map (·.k)=qs.map (·.k)) (hq:∀q∈qs,V7 q.nm) (G:l.length≤1099511627776) (E:∀b∈L,b<base):qm L w.heap v l:=by
 refine ⟨h.arr G E,λq hq=>h.each q hq L (λb hb=>.inl (E b hb)),λq hm=>?_⟩;have h1:q.k∈qs.map (·.k):=by rw[←he];exact LH hm
 obtain ⟨q',H,e⟩:=Lx.1 h1;have h2:=hq q' H;have h3:q'.nm=q.nm:=congrArg Xv.nm e;rw[h3] at h2;exact h2
theorem QH {w:World}{base e sz n:Nat}{v:Value}{cs:LV}(h:w.ownsRow base e sz v n cs):v.oneCell'=true:=by
 rcases h.2 with ⟨h1,_⟩ | ⟨g,cap,cur,h1,_⟩ <;> subst h1 <;> rfl
theorem Q0 {w:World}{base e sz n:Nat}{v:Value}{cs:LV}(h:w.ownsRow base e sz v n cs):v.cells=[v].toArray:=by
 rcases h.2 with ⟨h1,_⟩ | ⟨g,cap,cur,h1,_⟩ <;> subst h1 <;> rfl
theorem zy {q:XV}(h:q.v.oneCell'=true):∀u∈Zs q,u.oneCell'=true:=by
 intro u hu;simp only[List.mem_cons,List.not_mem_nil,or_false] at hu;rcases hu with rfl | rfl
 ·rfl
 exact h
theorem QbX {q:KV}(h:q.v.oneCell'=true):∀u∈Zx q,u.oneCell'=true:=by
 intro u hu;simp only[List.mem_cons,List.not_mem_nil,or_false] at hu;rcases hu with rfl | rfl | rfl
 ·rfl
 ·exact h
 rfl
def QlO (N:Nat) (w:World) (r:Value) (sz:LI) (ex:List Exc) (cs:List Xv):Prop:=∃vs vx vk qx ks,r=.agg #[vs,vx,vk]∧qx.map (·.x)=ex∧ks.map (·.k)=cs∧∀L:LN,(∀b∈L,b<N)→QL L w.heap vs sz∧qy L w.heap vx qx∧qm L w.heap vk ks
set_option maxHeartbeats 4000000 in
theorem zo {L:LN}{w:World}{c:CL}(h:ZA L w.heap c) :
  QK prog 98 [c.val] w λr w'=>Step [] w w'∧QlO w.heap.size w' r (szs c.cel.co) c.cel.ex c.cel.cs:=by
 have m4:=h.co.arr.le;have m5:=h.ex.arr.le;have m6:=h.cs.arr.le;refine QK.of_W func98 O ntmps98 results98 (by simp) ?_;refine Qc<|xl O<|QS (us:=c.cells) O λb1 w1 ga m7 gb=>xl O<|Qt (us:=[nS,nS,nS]) O λb2 w2 hH m8 gc=>xe ?_;have m9:=ga.size;have pa:=hH.size;have pc:=gb.lt;have pd:=gc.lt
 refine Qc<|x (QD U)<|xl O<|Qt (us:=[nS,nS,nS]) O λE w3 g6 g7 h3=>xl O<|Qp (us:=[nS,nS,nS]) h3 O O O O ⟨O,O,O,U⟩ λw4 g8 h3 =>
  xe ?_
 have pf:=h3.lt;have V:Step [] w2 w4:=g6.then1 g8 g7;have hI:Step [] w w4:=(ga.trans hH).trans V;have pg:=hI.size;have ge:=(gb.ext hH).ext V;have g9:=gc.ext V;have h4:=h.ext hI;have ph:b1<E:=by omega
 have pj:b2<E:=by omega
 have ka:w.heap.size≤E:=by omega
 have hJ:∀{wa wb:World},Step [E] wa wb→Step [] w wa→Step [] w wb:=λha hb=>hb.then1 ha ka;refine Qf<|Qc<|x (Qa O)<|x (Qd ge O O)<|x (Qs h4.co.arr O)<|Qb<|xe ?_
 refine Qh<|QB (α:=Nat×Value) [(5,5),(14,26)] (λz=>[(14,.int .i64 z.1)]) (λz w'=>z.1≤c.co.length∧Step [E] w4 w'∧QZ w'.heap E 151 [z.2,nS,nS]∧Qu 3 w4.heap.size w' z.2 ((c.co.take z.1).map (·.p.a.st))) (λz=>c.co.length - z.1) (by rfl) (0,nS) Z
  ⟨Lk _,Step.refl _ _,h3,QN _ _ _ _⟩ ?_
 rintro ⟨k,vs⟩ g w5 ⟨hk,ht,h8,H⟩;simp only[] at hk h8 H;have gg:=hJ ht hI;have h5:=h.ext gg;have gh:=ge.step ht (by simp;omega);have kb:=g9.step ht (by simp;omega);have pm:=ht.size;refine Qc<|x (QA O O)<|xe<|Qf<|QG O (λhK=>?_) (λhK=>?_)
 ·refine Qz ?_;have kc:c.co.length≤k:=by have J:¬(k:Int)<(c.co.length:Int):=hK;omega
  rw[Lm kc] at H;refine Qf<|Qc<|x (Qa O)<|x (Qd gh O O)<|x (Qs h5.ex.arr O)<|Qb<|xe<|Qh<|QB (α:=Nat×Value×List XV) [(7,7),(30,45)] (λz=>[(30,.int .i64 z.1)]) (λz w'=>z.1≤c.ex.length∧Step [E] w5 w'∧QZ w'.heap E 151 [vs,z.2.1,nS]∧XvN w5.heap.size w' z.2.1 z.2.2∧z.2.2.map (·.x)=(c.ex.take z.1).map (·.x)) (λz=>c.ex.length - z.1) (by rfl) (0,nS,[]) Z
   ⟨Lk _,Step.refl _ _,h8,ZZ.nil,O⟩ ?_
  rintro ⟨j,vx,qx⟩ g w6 ⟨hj,Y,hM,hf,hg⟩;simp only[] at hj hM hf hg;have gi:=hJ Y gg;have h6:=h.ext gi;have ke:=gh.step Y (by simp;omega);have kf:=kb.step Y (by simp;omega);have pn:=Y.size;have po:qx.length=j:=by have:=congrArg List.length hg;simp at this;omega
  refine Qc<|x (QA O O)<|xe<|Qf<|QG O (λhN=>?_) (λhN=>?_)
  ·refine Qz ?_;have kg:c.ex.length≤j:=by have J:¬(j:Int)<(c.ex.length:Int):=hN;omega
   rw[Lm kg] at hg;refine Qf<|Qc<|x (Qa O)<|x (Qd ke O O)<|x (Qs h6.cs.arr O)<|Qb<|xe<|Qh<|QB (α:=Nat×Value×List KV) [(9,9),(49,66)] (λz=>[(49,.int .i64 z.1)]) (λz w'=>z.1≤c.cs.length∧Step [E] w6 w'∧QZ w'.heap E 151 [vs,vx,z.2.1]∧KvN w6.heap.size w' z.2.1 z.2.2∧z.2.2.map (·.k)=(c.cs.take z.1).map (·.k)) (λz=>c.cs.length - z.1) (by rfl) (0,nS,[]) Z
    ⟨Lk _,Step.refl _ _,hM,ZZ.nil,O⟩ ?_
   rintro ⟨i,vk,ks⟩ g w7 ⟨hi,hh,hO,hn,ho⟩;simp only[] at hi hO hn ho;have gj:=hJ hh gi;have h7:=h.ext gj;have kh:=kf.step hh (by simp;omega);have pp:=hh.size;have pt:ks.length=i:=by have:=congrArg List.length ho;simp at this;omega
   refine Qc<|x (QA O O)<|xe<|Qf<|QG O (λhP=>?_) (λhP=>?_)
   ·refine Qz ?_;have ki:c.cs.length≤i:=by have J:¬(i:Int)<(c.cs.length:Int):=hP;omega
    rw[Lm ki] at ho;have pu:=(H.1);have kj:ZN [vs,vx,vk]:=⟨QH H,QH hf.own,QH hn.own,U⟩;refine Qc<|x (Qr hO O O)<|xl O<|Qp (us:=[vs,vx,vk]) kh O O O O kj λw8 hu kk=>xe ?_;have pw:Step [b2] w7 w8:=hu;refine Qn ⟨[.agg #[vs,vx,vk]],⟨⟨_,O,Qv O (kk.at (L:=[]) (by simp)).cells⟩,U⟩,gj.then1 hu (by omega),?_⟩
    have kn:=Qj ((Qj H Y (λb hb hm=>by have:=(Qk H b hb).1;simp at hm;omega))) hh (λb hb hm=>by have:=(Qk H b hb).1;simp at hm;omega);have ko:=Qj kn hu (λb hb hm=>by have:=(Qk H b hb).1;simp at hm;omega);have kp:=(ZZ.low hf hh (by simp;omega)).low hu (by simp;omega);have kq:=ZZ.low hn hu (by simp;omega)
    refine ⟨vs,vx,vk,qx,ks,O,hg,ho,λL hL=>⟨?_,XvN.xcs kp hg h.ex.nm (by omega) (λb hb=>by have:=hL b hb;omega),KvN.kcs kq ho h.cs.nm (by omega) (λb hb=>by have:=hL b hb;omega)⟩⟩;have he:szs c.cel.co=c.co.map (·.p.a.st):=by show ((c.co.map IV.it).map _)=_;rw[MH];rfl
    rw[he];exact Qu.ints ko (by rw[Lc];omega) (λb hb=>by have:=hL b hb;omega)
   have hp:i<c.cs.length:=by have J:(i:Int)<(c.cs.length:Int):=hP;omega
   have gk:=Li hp;have gl:c.cs.take (i+1)=c.cs.take i++[c.cs[i]'hp]:=Le hp;refine Qi<|Qf<|Qh<|Qc<|xig Jk h7.cs.arr O O hp λpz gm=>?_;refine Zd (c.cs[i]'hp) λq hq=>?_;rw[hq] at gm gk gl;have G:=h7.cs.each q gk
   refine x (QI gm O O)<|xl O<|Qt (us:=[.string .empty,nS,.int .i64 0]) O λb9 w9 kr kt hv=>xl O<|Qp (us:=Zx q) hv O O O O ⟨O,G.one,O,U⟩ λS ku hv =>
    xe ?_
   have h9:Step [] w7 S:=kr.then1 ku kt;have gn:=hO.ext h9;have hQ:=Qk hn.own;have I:E∉ob vk:=λhm=>by have:=(hQ E hm).1;omega
   have hR:b9∉ob vk:=λhm=>by have:=(hQ b9 hm).2;omega
   refine QW (Step (ob vk) S) [(0,true),(1,true),(2,true),(3,true),(4,true),(5,true),(7,true),(8,true),(6,false),(9,true),(10,false),(11,false),(12,true),(13,false)] mixed (by rfl) (by kernel_rfl) (Step.drew _ _) ?_;have kv:=h9.trans (Step.drew [] S);refine p (λ_=>Qa O)<|pq (λ_ hc=>Qd (gn.step hc I) O O)<|p (λ_=>Qa O)<|pq (λ_ hc=>Qd (hv.step hc hR) O O) <|
    p (λ_=>Qa O)<|pq (λ_ hc=>Qd (hv.step hc hR) O O)<|p (λ_=>Qa O)<|pq (λ_ hc=>Qd (hv.step hc hR) O O) <|
    pk<|xf<|(Qdh (G.ext kv)).mono ?_
   rintro hw p0 ⟨kw,hS⟩;have hy:=(Step.drew [] S).trans kw;refine ⟨hy.any,?_⟩;refine p (λ_=>QD ⟨O,Q0 hS,O,U⟩)<|pk<|QC (us:=[Zx ⟨q.nm,hw,q.ts,q.bd⟩]) O O (by decide) (by simp) ⟨rfl,rfl,U⟩ λp1 p2 hz p3 kx=>⟨(hy.trans hz).any,?_⟩;have hA:=(h9.trans hy).trans hz;have hT:S.heap.size=({ S with drawn:=S.drawn+1 }:World).heap.size:=rfl
   have p4:=h9.size;have p5:=hA.size;refine pk<|Q2 (news:=Zx ⟨q.nm,hw,q.ts,q.bd⟩) (L:=[]) (Qq hn.own hA) O O O (kx.at (by simp)) (QbX (q:=⟨q.nm,hw,q.ts,q.bd⟩) (QH hS)) (by omega) (by omega) λhU go gp hB ky=>⟨((hy.trans hz).any (L:=ob vk)).trans' hB,?_⟩
   have kz:KvN w6.heap.size go hU (ks++[⟨q.nm,hw,q.ts,q.bd⟩]):=ZZ.app hn hA (Qq hS hz) G.le (by rw[←hT];omega) (by omega) gp hB ky;have k0:=(gn.step ((hy.trans hz).any (L:=ob vk)) I).step hB I;refine p (λ_=>Qa O)<|pkl (hl:=by kernel_rfl)<|QE (j:=2) (u:=hU) k0 O O (by simp) (QH gp) λp6 gq k4=>pe ?_
   have k5:Step [E] w6 go:=(hh.trans hA).then hB (λb hb=>.inr (hQ b hb).1);refine Qy<|QP O O<|Qb<|xe<|⟨(i+1,hU,ks++[⟨q.nm,hw,q.ts,q.bd⟩]),by simp only[];omega,Z,hp,?_,k4,ZZ.low kz gq (by simp;omega),?_⟩
   ·exact k5.trans' gq
   simp only[];rw[Lt,ho,gl,Lt];rfl
  have hr:j<c.ex.length:=by have J:(j:Int)<(c.ex.length:Int):=hN;omega
  have gr:=Li hr;have gs:c.ex.take (j+1)=c.ex.take j++[c.ex[j]'hr]:=Le hr;refine Qi<|Qf<|Qh<|Qc<|xig JC h6.ex.arr O O hr λp7 gt=>?_;refine Zd (c.ex[j]'hr) λq hq=>?_;rw[hq] at gt gr gs;have G:=h6.ex.each q gr
  refine x (QI gt O O)<|xl O<|Qt (us:=[.string .empty,nS]) O λb7 p8 k6 k7 hC=>xl O<|Qp (us:=Zs q) hC O O O O ⟨O,G.one,U⟩ λT k8 hC =>
   xe ?_
  have hD:Step [] w6 T:=k6.then1 k8 k7;have gu:=hM.ext hD;have hV:=Qk hf.own;have I:E∉ob vx:=λhm=>by have:=(hV E hm).1;omega
  have gv:b7∉ob vx:=λhm=>by have:=(hV b7 hm).2;omega
  refine QW (Step (ob vx) T) [(0,true),(1,true),(2,true),(3,true),(4,true),(5,true),(6,false),(7,true),(8,false),(9,false),(10,true),(11,false)] mixed (by rfl) (by kernel_rfl) (Step.drew _ _) ?_;have k9:=hD.trans (Step.drew [] T);refine p (λ_=>Qa O)<|pq (λ_ hc=>Qd (gu.step hc I) O O)<|p (λ_=>Qa O)<|pq (λ_ hc=>Qd (hC.step hc gv) O O) <|
   p (λ_=>Qa O)<|pq (λ_ hc=>Qd (hC.step hc gv) O O)<|pk<|xf<|(Qdi (G.ext k9)).mono ?_
  rintro h0 p9 ⟨ma,hW⟩;have h1:=(Step.drew [] T).trans ma;refine ⟨h1.any,?_⟩;refine p (λ_=>QD ⟨O,Q0 hW,U⟩)<|pk<|QC (us:=[Zs ⟨q.nm,h0,q.ls⟩]) O O (by decide) (by simp) ⟨rfl,rfl,U⟩ λqc qf h2 ql mc=>⟨(h1.trans h2).any,?_⟩;have hE:=(hD.trans h1).trans h2;have hT:T.heap.size=({ T with drawn:=T.drawn+1 }:World).heap.size:=rfl
  have qo:=hD.size;have qr:=hE.size;refine pk<|Q2 (news:=Zs ⟨q.nm,h0,q.ls⟩) (L:=[]) (Qq hf.own hE) O O O (mc.at (by simp)) (zy (q:=⟨q.nm,h0,q.ls⟩) (QH hW)) (by omega) (by omega) λhX gw gx hF mf=>⟨((h1.trans h2).any (L:=ob vx)).trans' hF,?_⟩
  have mg:XvN w5.heap.size gw hX (qx++[⟨q.nm,h0,q.ls⟩]):=ZZ.app hf hE (Qq hW h2) G.le (by rw[←hT];omega) (by omega) gx hF mf;have mh:=(gu.step ((h1.trans h2).any (L:=ob vx)) I).step hF I;have mj:Step [E] w5 gw:=(Y.trans hE).then hF (λb hb=>.inr (hV b hb).1)
  refine p (λ_=>Qa O)<|pkl (hl:=by kernel_rfl)<|QE (j:=1) (u:=hX) mh O O (by simp) (QH gx) λq0 gy mo=>pe ?_;refine Qy<|QP O O<|Qb<|xe<|⟨(j+1,hX,qx++[⟨q.nm,h0,q.ls⟩]),by simp only[];omega,Z,hr,?_,mo,ZZ.low mg gy (by simp;omega),?_⟩
  ·exact mj.trans' gy
  simp only[];rw[Lt,hg,gs,Lt];rfl
 have hs:k<c.co.length:=by have J:(k:Int)<(c.co.length:Int):=hK;omega
 have gz:=Li hs;have g0:c.co.take (k+1)=c.co.take k++[c.co[k]'hs]:=Le hs;have q1:((c.co.take k).map (·.p.a.st)).length=k:=by simp;omega
 refine Qi<|Qf<|Qh<|Qc<|xig YT h5.co.arr O O hs λq2 J=>?_;refine Zd (c.co[k]'hs) λq hq=>?_;rw[hq] at J gz g0;have G:=h5.co.each q gz;refine x (QI J O O)<|xl O<|Qt (us:=[.string .empty,nS,.int .i64 0,nS,nS]) O λb5 q3 mq ms hY=>xl O<|Qp (us:=Za q) hY O O O O ⟨O,G.al.one,O,G.mr.one,G.ed.one,U⟩ λmt mu hY =>
  xe ?_
 have g2:Step [] w5 mt:=mq.then1 mu ms;have mv:=h8.ext g2;refine Qy<|x (Qa O)<|x (Qd mv O O)<|x (Qa O)<|x (Qa O)<|x (Qd hY O O)<|xl O<|QC (us:=[[.int .i64 q.p.a.st]]) O O (by decide) (by simp) ⟨rfl,rfl,U⟩ λq4 q5 mw za my=>?_;have hG:=g2.trans mw;have zv:=hG.size;have g3:=Qk H;have I:E∉ob vs:=λhm=>by have:=(g3 E hm).1;omega
 refine xl rfl<|Q2 (news:=[.int .i64 q.p.a.st]) (L:=[]) (Qq H hG) O O O (my.at (by simp)) (by simp[Value.oneCell']) (by omega) (by omega) λg4 mz hZ V z0=>?_;have m0:=(h8.ext hG).step V I;have m1:Step [E] w4 mz:=(ht.trans hG).then V (λb hb=>.inr (g3 b hb).1);refine x (Qa O)<|xl O<|QE (j:=0) (u:=g4) m0 O O (by simp) (QH hZ) λz2 g5 m2 =>
  xe ?_
 have m3:=Qj hZ g5 (λb hb hm=>by have:=(Qk hZ b hb).1;simp at hm;omega);refine Qy<|QP O O<|Qb<|xe<|⟨(k+1,g4),by simp only[];omega,Z,hs,m1.trans' g5,m2,?_⟩;simp only[];rw[g0,Lt];exact Qu.snoc (n:=q.p.a.st) m3
theorem QdM (n:Nat):JB (n+1)=JB n++[(n:Int)]:=by unfold JB;rw[List.range_succ,Lt];rfl
theorem zC (n:Nat):(JB n).length=n:=by unfold JB;simp
theorem XK {k:Nat}{l:List IV}(h:k<l.length):(l.drop k).map (·.it)=(l[k]'h).it::(l.drop (k+1)).map (·.it):=by rw[QY h];rfl
theorem U9 {n:Nat}{u:LI}{s:List ByteArray}{x:YN}(h:Z2 n u s x=0):Q8 x.a:=by
 unfold Z2 at h;split at h
 ·cases h
 split at h
 ·cases h
 split at h
 ·rename_i h1 h2;exact absurd h h2
 rename_i h1;exact (ZJ _).1 (Ls.1 h1)
theorem Kx {n:Nat}{al:LI}{s:List ByteArray}{u:LI}{x:YN}{l:List YN}:Z6 n al s u (x::l)=if Z2 n al s x≠0 then (Z2 n al s x,s,u) else Z6 n al (s++[x.nm]) (mrg (· || ·) u x.a.al) l:=rfl
theorem U7 {n:Nat}{u:LI}{s:List ByteArray}{x:YN}{l:List YN}:Ja n u s (x::l)=if Z2 n u s x≠0 then Z2 n u s x else Ja n u (s++[x.nm]) l:=rfl
set_option maxHeartbeats 4000000 in
theorem YU {L:LN}{w:World}{c:CL}(h:ZA L w.heap c) :
  QK prog 37 [c.val] w λr w'=>r=.int .i64 (Zb c.cel)∧Step [] w w':=by
 have kc:=h.co.arr.le;have ke:=h.rq.arr.le;have E:Zb c.cel=(if Jm c.ev≠0 then Jm c.ev else if c.co.length=0 then 12 else if 8<c.co.length∨12<c.co.length+c.rq.length then 3 else
  if (Z6 c.ev.length (JB c.ev.length) [] [] (c.co.map (·.it))).1≠0 then (Z6 c.ev.length (JB c.ev.length) [] [] (c.co.map (·.it))).1 else
  if Ja c.ev.length (Z6 c.ev.length (JB c.ev.length) [] [] (c.co.map (·.it))).2.2 (Z6 c.ev.length (JB c.ev.length) [] [] (c.co.map (·.it))).2.1 (c.rq.map (·.it))≠0 then Ja c.ev.length (Z6 c.ev.length (JB c.ev.length) [] [] (c.co.map (·.it))).2.2 (Z6 c.ev.length (JB c.ev.length) [] [] (c.co.map (·.it))).2.1 (c.rq.map (·.it)) else
  Yu (szs c.cel.co) c.cel.ex c.cel.cs):=by
  unfold Zb;rw[show c.cel.co.length=c.co.length from Lc ..,show c.cel.rq.length=c.rq.length from Lc ..];rfl
 refine Zd (Zb c.cel) λR hR=>?_;rw[hR] at E ⊢;refine Zd (Z6 c.ev.length (JB c.ev.length) [] [] (c.co.map (·.it))) λCO h9=>?_;rw[h9] at E;refine QK.of_W func37 O ntmps37 results37 (by simp) ?_;refine Qc<|xl O<|QS (us:=c.cells) O λb1 w1 hv kf hw=>Qe ?_;have kg:=hv.size;have kh:=hw.lt;refine Qf<|Qc<|x (Qa O)<|x (Qd hw O O)<|xl O<|xf<|(U4 (h.ev.ext hv)).mono ?_;rintro r2 w2 ⟨rfl,hA⟩
 refine Qe ?_;have ha:=hv.trans hA;have hm:=hw.ext hA;have h2:=h.ext ha;refine Qc<|Qb<|x (Q9 O O)<|xe<|Q6 rfl (λho=>?_) (λho=>?_)
 ·rw[if_pos ho] at E;subst E;refine Qc<|Qb<|Qe ?_;exact Qn ⟨[_],Z,O,ha⟩
 rw[if_neg ho] at E;have ki:c.ev.length≤32:=by
  refine Ls.1 λhn=>?_;apply ho;unfold Jm;rw[if_pos (by omega)];decide
 refine Qi<|Qf<|Qc<|x (Qa O)<|x (Qd hm O O)<|x (Qs h2.co.arr O)<|Qe<|Qh<|Qc<|Qb<|x (Q5 O O)<|Qe<|Q6 O (λhy=>?_) (λhy=>?_)
 ·have hz:c.co.length=0:=by have hY:(c.co.length:Int)=0:=hy;omega
  rw[if_pos hz] at E;subst E;refine Qc<|Qe ?_;exact Qn ⟨[_],Z,O,ha⟩
 have hz:¬c.co.length=0:=by have hY:¬(c.co.length:Int)=0:=hy;omega
 rw[if_neg hz] at E;refine QU (α:=Bool) [(27,37)] (λz=>[(27,.bool z)]) (λz w'=>w'=w2∧z=decide (8<c.co.length∨12<c.co.length+c.rq.length)) (by rfl) ?_ ?_
 ·refine Qy<|Qb<|xb (ZO O O) (λhZ=>?_) (λhZ=>?_)
  ·refine Qb<|xs O<|xs O<|xs O<|xs O<|xs O<|xs O<|x (Qm O)<|Qe ?_;exact ⟨_,Z,O,bT (.inl (by omega))⟩
  refine Qb<|Qb<|x (Qa O)<|x (Qd hm O O)<|x (Qs h2.rq.arr O)<|x (X2 O O ⟨by omega,by omega⟩) <|
   x (ZO rfl O)<|x (Qm O)<|Qe ?_
  exact ⟨_,Z,O,bD (by omega)⟩
 rintro z g w3 ⟨rfl,rfl⟩;refine Q6 rfl (λh0=>?_) (λh0=>?_)
 ·rw[if_pos h0] at E;subst E;refine Qc<|Qe ?_;exact Qn ⟨[_],Z,O,ha⟩
 rw[if_neg h0] at E;refine Qi<|Qc<|xl O<|Yq Xp λbm w4 hB kj hC=>Qe ?_;have kk:=hC.lt;have kn:=hm.lt;have ko:=ha.size;have hD:=ha.trans hB;have hE:=hm.ext hB;have hG:b1≠bm:=by omega
 have hge:w.heap.size≤bm:=by omega
 have hM:ZA [bm] w.heap c:=h.up (λb hb=>.inr (by simp at hb;omega));have hH:=hM.ext hD;refine Qc<|x Qg<|Qe<|Qf<|Qc<|x (Qa O)<|x (Qd hE O O)<|x (Qs hH.ev.arr O)<|Qb<|xe<|Qh<|QB (α:=Nat×Value) [(6,6),(8,8),(42,49)] (λz=>[(6,z.2),(42,.int .i64 z.1)]) (λz w'=>z.1≤c.ev.length∧Step [] w4 w'∧Qu 3 w4.heap.size w' z.2 (JB z.1)) (λz=>c.ev.length - z.1) (by rfl) (0,nS) ⟨O,O,U⟩
  ⟨Lk _,Step.refl _ _,QN _ _ _ _⟩ ?_
 rintro ⟨k,vg⟩ g w5 ⟨hk,hc,hp⟩;simp only[] at hk hp;have kp:=zC k;refine Qc<|x (QA O O)<|xe<|Qf<|QG O (λh1=>?_) (λh1=>?_)
 ·refine Qz ?_;have he:k=c.ev.length:=by have hf:¬(k:Int)<(c.ev.length:Int):=h1;omega
  subst he;have ga:QL [bm] w5.heap vg (JB c.ev.length):=Qu.ints hp (by omega) (by simp;omega);have gb:=hC.ext hc;have hI:=hE.ext hc;have hJ:=hH.ext hc;have gc:=hD.trans hc;refine Qf<|Qc<|x (Qa O)<|x (Qd hI O O)<|x (Qs hJ.co.arr O)<|Qb<|xe ?_
  refine Qh<|QB (α:=Nat×Value×List ByteArray×LI) [(2,2),(7,7),(10,11),(53,72)] (λz=>[(7,z.2.1),(53,.int .i64 z.1)]) (λz w'=>z.1≤c.co.length∧Step [bm] w5 w'∧Z4 Xp w'.heap bm (nmM z.2.2.1)∧QL [bm] w'.heap z.2.1 z.2.2.2∧z.2.2.2.length≤32*z.1∧Z6 c.ev.length (JB c.ev.length) z.2.2.1 z.2.2.2 ((c.co.drop z.1).map (·.it))=CO) (λz=>c.co.length - z.1) (by rfl) (0,nS,[],[]) ⟨O,O,U⟩
   ⟨Lk _,Step.refl _ _,gb,Zp.nil _ _ _,by simp,h9⟩ ?_
  rintro ⟨k,vu,sn,u⟩ g w6 ⟨hk,hg,hs,h3,ge,H⟩;simp only[] at hk hs h3 ge H;have hK:Step [] w w6:=gc.then1 hg hge;have h4:=hI.step hg (by simpa using hG);have T:=hJ.st hg;refine Qc<|x (QA O O)<|xe<|Qf<|QG O (λh5=>?_) (λh5=>?_)
  ·refine Qz ?_;have he:k=c.co.length:=by have hf:¬(k:Int)<(c.co.length:Int):=h5;omega
   subst he;rw[Lq (Lr _)] at H;have gg:CO=(0,sn,u):=H.symm;subst gg;rw[if_neg (by simp)] at E;simp only[] at E;refine Zd (Ja c.ev.length u sn (c.rq.map (·.it))) λRQ hL=>?_;rw[hL] at E;refine Qf<|Qc<|x (Qa O)<|x (Qd h4 O O)<|x (Qs T.rq.arr O)<|Qb<|xe ?_
   refine Qh<|QB (α:=Nat×List ByteArray) [(2,2),(13,14),(76,90)] (λz=>[(76,.int .i64 z.1)]) (λz w'=>z.1≤c.rq.length∧Step [bm] w6 w'∧Z4 Xp w'.heap bm (nmM z.2)∧Ja c.ev.length u z.2 ((c.rq.drop z.1).map (·.it))=RQ) (λz=>c.rq.length - z.1) (by rfl) (0,sn) Z
    ⟨Lk _,Step.refl _ _,hs,hL⟩ ?_
   rintro ⟨k,sm⟩ g w7 ⟨hk,hh,hN,I⟩;simp only[] at hk hN I;have hO:Step [] w w7:=hK.then1 hh hge;have hP:=h4.step hh (by simpa using hG);have hi:=T.st hh;have gh:=h3.st hh;refine Qc<|x (QA O O)<|xe<|Qf<|QG O (λh6=>?_) (λh6=>?_)
   ·refine Qz ?_;have he:c.rq.length≤k:=by have hf:¬(k:Int)<(c.rq.length:Int):=h6;omega
    rw[Lq he] at I;have gi:RQ=0:=I.symm;rw[if_neg (by rw[gi];decide)] at E;refine Qc<|x (Qr hP O O)<|xl O<|xf<|(zo hi).mono ?_;rintro r8 w8 ⟨gj,vs,vx,vk,qx,ks,rfl,gk,gl,hF⟩;obtain ⟨gm,gn,go⟩:=hF [] (by simp);refine xl O<|xf<|(U3 gm gn go).mono ?_;rintro r9 w9 ⟨rfl,gp⟩;rw[gk,gl,←E];refine Qe ?_;exact Qn ⟨[_],Z,O,(hO.trans gj).trans gp⟩
   have G:k<c.rq.length:=by have hf:(k:Int)<(c.rq.length:Int):=h6;omega
   have S:=Li G;rw[XK G,U7] at I;refine Qi<|Qf<|Qh<|Qc<|xig YT hi.rq.arr O O G λkq hQ=>?_;refine Zd (c.rq[k]'G) λq hq=>?_;rw[hq] at hQ S I;have J:=hi.rq.each q S
   refine x (QI hQ O O)<|xl O<|Qt (us:=[.string .empty,nS,.int .i64 0,nS,nS]) O λkr kt gq gr h7=>xl O<|Qp (us:=Za q) h7 O O O O ⟨O,J.al.one,O,J.mr.one,J.ed.one,U⟩ λgs gt h7 =>
    xe ?_
   have V:Step [] w7 gs:=gq.then1 gt gr;refine Qc<|x (Qr h7 O O)<|x (Qa O)<|x (Qd (hP.ext V) O O)<|x (Qs (hi.ev.ext V).arr O)<|Qb<|Qb<|xl O<|xf<|(Qb0 (J.ext V) (hi.rq.nm q S) (gh.ext V) (by omega) (hN.ext V) (by simp) (by simp)).mono ?_;rintro ku kv ⟨rfl,hS,gu⟩;refine Qe<|Qc<|Qb<|x (Q9 O O)<|xe<|Q6 O (λhj=>?_) (λhj=>?_)
   ·rw[if_pos hj] at I;rw[if_pos (by rw[←I];exact hj)] at E;refine Qc<|Qb<|Qe ?_;exact Qn ⟨[_],Z,by rw[E,←I];rfl,(hO.trans V).then1 hS hge⟩
   rw[if_neg hj] at I;refine Qi<|Qy<|QP O O<|Qb<|xe ?_;exact ⟨(k+1,sm++[q.nm]),by simp only[];omega,Z,G,(hh.trans V).trans' hS,gu (Ls.1 hj),I⟩
  have G:k<c.co.length:=by have hf:(k:Int)<(c.co.length:Int):=h5;omega
  have S:=Li G;rw[XK G,Kx] at H;refine Qi<|Qf<|Qh<|Qc<|xig YT T.co.arr O O G λkw hT=>?_;refine Zd (c.co[k]'G) λq hq=>?_;rw[hq] at hT S H;have J:=T.co.each q S;have gv:=ga.st hg
  refine x (QI hT O O)<|xl O<|Qt (us:=[.string .empty,nS,.int .i64 0,nS,nS]) O λkx ky gw gx ht=>xl O<|Qp (us:=Za q) ht O O O O ⟨O,J.al.one,O,J.mr.one,J.ed.one,U⟩ λgy gz ht =>
   xe ?_
  have Y:Step [] w6 gy:=gw.then1 gz gx;have kz:=hs.lt;refine Qf<|Qc<|x (Qr ht O O)<|x (Qa O)<|x (Qd (h4.ext Y) O O)<|x (Qs (T.ev.ext Y).arr O)<|Qb<|Qb<|xl O<|xf<|(Qb0 (J.ext Y) (T.co.nm q S) (gv.ext Y) (by omega) (hs.ext Y) (by simp) (by simp)).mono ?_;rintro k0 g0 ⟨rfl,h8,g2⟩;refine Qe<|Qc<|Qb<|x (Q9 O O)<|xe ?_
  refine Q6 O (λhl=>?_) (λhl=>?_)
  ·rw[if_pos hl] at H;rw[if_pos (by rw[←H];exact hl)] at E;refine Qc<|Qb<|Qe ?_;exact Qn ⟨[_],Z,by rw[E,←H];rfl,(hK.trans Y).then1 h8 hge⟩
  rw[if_neg hl] at H;have hU:Z2 c.ev.length (JB c.ev.length) sn q.it=0:=Ls.1 hl;have g3:=(U9 hU).al_le;have k4:q.p.a.al.length≤32:=g3;refine Qi ?_;have hu:Step [bm] w6 g0:=Y.any.trans' h8;have g4:=h3.st hu;have k5:=hu.size
  refine Qy<|Qb<|x (Qa O)<|x (Qa O)<|x (Qd (ht.step h8 (by simp;omega)) O O)<|xl O<|xf<|(j7 g4 (T.st hu |>.co.each q S |>.al) (by omega)).mono ?_;rintro g5 k6 ⟨hV,g6⟩;refine Qe ?_;have k7:=ya (· || ·) u q.p.a.al;refine Qy<|QP O O<|Qb<|xe ?_
  exact ⟨(k+1,g5,sn++[q.nm],mrg (· || ·) u q.p.a.al),by simp only[];omega,⟨O,O,U⟩,G,(hg.trans' hu).trans hV,(g2 hU).ext hV,Qu.ints g6 (by show (mrg _ _ _).length≤_;omega) (by simp;omega),by simp only[];omega,H⟩
 have G:k<c.ev.length:=by have hf:(k:Int)<(c.ev.length:Int):=h1;omega
 refine Qi<|Qf<|Qh<|Qc<|Qb<|Qe<|Qy<|Qb<|Qb<|xl O<|QC (us:=[[.int .i64 k]]) O O (by decide) (by simp) ⟨rfl,rfl,U⟩ λk8 k9 hW ma g7=>?_;have hX:=hc.trans hW;have mc:=hX.size;have g8:=Qk hp;refine xl rfl<|Q2 (news:=[.int .i64 k]) (L:=[]) (Qq hp hW) O O O (g7.at (by simp)) (by simp[Value.oneCell']) (by omega) (by omega) λg9 mf ka kb mg =>
  Qe<|Qy<|QP O O<|Qb<|xe ?_
 refine ⟨(k+1,g9),by simp only[];omega,⟨O,O,U⟩,G,hX.then kb (λb hb=>.inr (g8 b hb).1),?_⟩;simp only[];rw[QdM];exact Qu.snoc (n:=(k:Int)) ka
end Go.Proofs.YtdffckgdcegpaaaGreatDoor
namespace Go.Lg
theorem Qlt {P:Program}{ops:List Oper}{K:Fr→World→Prop}{f:Fr}{w:World}{d:Option Nat}{ty:Nat}{ps:String}{af:Array Edge}{gd:Option (Nat×Bool)}{C:World→Prop}{pl:List (Nat×Bool)}{E:Nat}
  {t e sz bys:Nat} {z:Value} {x G I:Operand} {L:LN} {v:Value} {n:Nat} {cs:LV} {H:Array Obj} {k k':IntKind} {hi:Nat} [h:Sl P t e sz bys z]
  (J:Q4 ops E=⟨d,.slice t x none (some G) (some I),ty,ps,af,gd⟩) (S:Zp L H v n sz cs) (hx:ev f x=v) (T:ev f G=.int k hi) (hm:ev f I=.int k' hi) (h1:hi≤n)
  (V:∀v',Zp L H v' hi sz (cs.take (hi*sz))→XP P ops C K pl (QV f d v') w)
  (Y:Yh ops f (Q4 ops E)=true:=by rfl):XP P ops C K ((E,true)::pl) f w:=by
 obtain ⟨v',h3,h4⟩:=Qeo (P:=P) (d:=d) (ty:=ty) (ps:=ps) (af:=af) (gd:=gd) (t:=t) S hx T hm h1;exact Lg.p (λw'=>by rw[J];exact h4 w') (by rw[J];exact V v' h3) Y
end Go.Lg
namespace Go.Proofs.YtdffckgdcegpaaaGreatDoor
open Go.Proofs.Tryz
open Go.Lg
structure Qgw (c:Zw):Prop where
 ev:c.ev.length≤32
 c0:c.co.length≠0
 c8:c.co.length≤8
 cr:c.co.length+c.rq.length≤12
 co:∀x∈c.co,Q8 x.a
 rq:∀x∈c.rq,Q8 x.a
 ce:∀x∈c.co,∀e∈x.a.al,e<(c.ev.length:Int)
 re:∀x∈c.rq,∀e∈x.a.al,e<(c.ev.length:Int)
 cd:Yu (szs c.co) c.ex c.cs=0
 e0:Jm c.ev=0
theorem jR {n:Nat}{u:LI}{s:List ByteArray}{x:YN}(h:Z2 n u s x=0):∀e∈x.a.al,e<(n:Int):=by
 unfold Z2 at h;split at h
 ·cases h
 split at h
 ·cases h
 split at h
 ·rename_i h1 h2;exact absurd h h2
 split at h
 ·cases h
 split at h
 ·cases h
 split at h
 ·cases h
 rename_i h1;intro e he;refine Ls.1 λE=>h1 ?_;rw[Mz];exact ⟨e,he,decide_eq_true (by omega)⟩
theorem jU {n:Nat}{al:LI}:∀{l:List YN}{s:List ByteArray}{u:LI},(Z6 n al s u l).1=0→∀x∈l,Q8 x.a∧∀e∈x.a.al,e<(n:Int)
 | [],_,_,_,x,hx=>by cases hx
 | y::l,s,u,h,x,hx=>by
  rw[Kx] at h;by_cases h1:Z2 n al s y≠0
  ·rw[if_pos h1] at h;exact absurd h h1
  rw[if_neg h1] at h;have h2:Z2 n al s y=0:=Ls.1 h1;rcases Lb.1 hx with rfl | hx
  ·exact ⟨U9 h2,jR h2⟩
  exact jU h x hx
theorem jQ {n:Nat}{u:LI}:∀{l:List YN}{s:List ByteArray},Ja n u s l=0→∀x∈l,Q8 x.a∧∀e∈x.a.al,e<(n:Int)
 | [],_,_,x,hx=>by cases hx
 | y::l,s,h,x,hx=>by
  rw[U7] at h;by_cases h1:Z2 n u s y≠0
  ·rw[if_pos h1] at h;exact absurd h h1
  rw[if_neg h1] at h;have h2:Z2 n u s y=0:=Ls.1 h1;rcases Lb.1 hx with rfl | hx
  ·exact ⟨U9 h2,jR h2⟩
  exact jQ h x hx
theorem ZR {c:Zw}(h:Zb c=0):Qgw c:=by
 unfold Zb at h;by_cases h1:Jm c.ev≠0
 ·rw[if_pos h1] at h;exact absurd h h1
 rw[if_neg h1] at h;by_cases h2:c.co.length=0
 ·rw[if_pos h2] at h;cases h
 rw[if_neg h2] at h;by_cases h3:8<c.co.length∨12<c.co.length+c.rq.length
 ·rw[if_pos h3] at h;cases h
 rw[if_neg h3] at h;by_cases E:(Z6 c.ev.length (JB c.ev.length) [] [] c.co).1≠0
 ·rw[if_pos E] at h;exact absurd h E
 rw[if_neg E] at h;by_cases h5:Ja c.ev.length (Z6 c.ev.length (JB c.ev.length) [] [] c.co).2.2 (Z6 c.ev.length (JB c.ev.length) [] [] c.co).2.1 c.rq≠0
 ·rw[if_pos h5] at h;exact absurd h h5
 rw[if_neg h5] at h;have a4:=jU (Ls.1 E);have G:=jQ (Ls.1 h5);have H:c.ev.length≤32:=by
  refine Ls.1 λI=>?_;apply h1;unfold Jm;rw[if_pos (by omega)];decide
 exact ⟨H,h2,by omega,by omega,λx hx=>(a4 x hx).1,λx hx=>(G x hx).1,λx hx=>(a4 x hx).2,λx hx=>(G x hx).2,h,Ls.1 h1⟩
theorem Yf.e {N:Nat}{H:Array Obj}{aa:List QQ}{va vt:Value}{c:Int}(h:Yf N H aa va vt c):c=KO aa:=by
 unfold Yf at h;unfold KO;by_cases h1:KK aa≠0
 ·rw[if_pos h1] at h ⊢;exact h.1
 rw[if_neg h1] at h ⊢;cases hs:sync aa with
 | none=>rw[hs] at h;exact h.1
 | some z=>rw[hs] at h;exact h.1
theorem Yf.bad {N:Nat}{H:Array Obj}{aa:List QQ}{va vt:Value}{c:Int}(h:Yf N H aa va vt c) (hc:c≠0):va=zA∧vt=Zf:=by
 unfold Yf at h;by_cases h1:KK aa≠0
 ·rw[if_pos h1] at h;exact h.2
 rw[if_neg h1] at h;cases hs:sync aa with
 | none=>rw[hs] at h;exact h.2
 | some z=>rw[hs] at h;exact absurd h.1 hc
theorem Yf.good {N:Nat}{H:Array Obj}{aa:List QQ}{va vt:Value}{c:Int}(h:Yf N H aa va vt c) (hc:c=0):YO N H va (syA aa)∧Qbd N H vt (syQ aa)∧sync aa=some (syA aa,syQ aa)∧KK aa=0:=by
 unfold Yf at h;unfold syA syQ;by_cases h1:KK aa≠0
 ·rw[if_pos h1] at h;exact absurd (h.1.symm.trans hc) h1
 rw[if_neg h1] at h;cases hs:sync aa with
 | none=>rw[hs] at h;rw[h.1] at hc;cases hc
 | some z=>rw[hs] at h;exact ⟨h.2.1,h.2.2,O,Ls.1 h1⟩
theorem Yf.st1 {N b:Nat}{w w':World}{aa:List QQ}{va vt:Value}{c:Int}(h:Yf N w.heap aa va vt c) (hb:b<N) (hs:Step [b] w w'):Yf N w'.heap aa va vt c:=by
 unfold Yf at *;split
 ·rename_i h1;rw[if_pos h1] at h;exact h
 rename_i h1;rw[if_neg h1] at h;cases hq:sync aa with
 | none=>rw[hq] at h;exact h
 | some z=>rw[hq] at h;exact ⟨h.1,Y6 h.2.1 hb hs,Qgk h.2.2 hb hs⟩
theorem Yf.mono {N M:Nat}{H:Array Obj}{aa:List QQ}{va vt:Value}{c:Int}(h:Yf N H aa va vt c) (E:M≤N):Yf M H aa va vt c:=by
 unfold Yf at *;split
 ·rename_i h1;rw[if_pos h1] at h;exact h
 rename_i h1;rw[if_neg h1] at h;cases hq:sync aa with
 | none=>rw[hq] at h;exact h
 | some z=>rw[hq] at h;exact ⟨h.1,h.2.1.mono E,h.2.2.mono E⟩
theorem QgT (c:Zw):Yx c=if Zb c≠0 then Zb c else if KO (auts c.co)≠0 then KO (auts c.co) else KO (auts c.co++auts c.rq):=by
 unfold Yx;split
 ·rfl
 have e:KO (auts c.co)=if KK (auts c.co)≠0 then KK (auts c.co) else match sync (auts c.co) with | none=>3 | some _=>0:=rfl
 by_cases h1:KK (auts c.co)≠0
 ·rw[if_pos h1] at e;rw[if_pos h1,e,if_pos h1]
 rw[if_neg h1] at e;rw[if_neg h1];cases hs:sync (auts c.co) with
 | none=>rw[hs] at e;simp only[] at e;rw[e];rfl
 | some z=>rw[hs] at e;simp only[] at e;rw[e];rfl
theorem Qcq (c:CL):(c.co.map (·.p)).map (·.a)=auts c.cel.co:=by unfold auts;show _=(c.co.map IV.it).map _;rw[MH,MH];rfl
theorem Qif (c:CL):(c.rq.map (·.p)).map (·.a)=auts c.cel.rq:=by unfold auts;show _=(c.rq.map IV.it).map _;rw[MH,MH];rfl
theorem zX {ps:List AV}(h:∀p∈ps,Q8 p.a):∀p∈ps,p.a.st≤4096:=λp hp=>(h p hp).st1
def zu (N:Nat) (H:Array Obj) (c:Zw) (va vt:Value) (e:Int):Prop:=if Zb c≠0 then e=Zb c∧va=zA∧vt=Zf else Yf N H (auts c.co) va vt e
theorem Qgp {L:LN}{w:World}{c:CL}(h:ZA L w.heap c) (hg:Kb w 4096) :
  QK prog 28 [c.val] w λr w'=>Step [] w w'∧∃va vt e,r=.tuple #[va,vt,.int .i64 e]∧zu w.heap.size w'.heap c.cel va vt e:=by
 refine QK.of_W func28 O ntmps28 results28 (by simp) ?_;refine Qc<|xl O<|QS (us:=c.cells) O λb1 w1 V hu hh=>xl O<|Qt (us:=[nS,.int .i64 0,nS,nS]) O λb2 w2 Y hv J=>x Qg<|Qe ?_;have ha:=V.trans Y;have hw:=V.size;have hb:=hh.ext Y;refine Qf<|Qc<|x (Qr hb O O)<|xl O<|xf<|(YU (h.ext ha)).mono ?_;rintro r3 w3 ⟨rfl,E⟩;refine Qe ?_;have S:=ha.trans E;have hy:=J.lt
 refine Qc<|Qb<|x (Q9 O O)<|xe<|Q6 rfl (λh9=>?_) (λh9=>?_)
 ·refine Qc<|x (QD U)<|Qb<|xl O<|Qp (us:=[nS,.int .i64 0,nS,nS]) (J.ext E) O O O O ⟨O,O,O,O,U⟩ λw4 hi hj=>x Qg<|Qe ?_;exact Qn ⟨[zA,Zf,.int .i64 (Zb c.cel)],⟨⟨_,O,Qv O (hj.at (L:=[]) (by simp)).cells⟩,rfl,rfl,U⟩,S.then1 hi (by omega),zA,Zf,_,rfl,by unfold zu;rw[if_pos h9];exact ⟨O,O,O⟩⟩
 have hk:=ZR (Ls.1 h9);refine Qi<|Qc ?_;have h3:=h.ext S;refine x (Qa O)<|x (Qd (hb.ext E) O O)<|xl O<|xf<|(QaP h3.co).mono ?_;rintro r5 w5 ⟨T,hl⟩;have H:=S.trans T;have hm:∀p∈c.co.map (·.p),Q8 p.a:=λp hp=>by
  obtain ⟨q,hq,rfl⟩:=Lx.1 hp;exact hk.co q.it (LH hq)
 have hz:=h.co.arr.le;have hn:Xw [] w5.heap r5 (c.co.map (·.p)):=Qfj hl (by rw[Lc];omega) (by simp) (λp hp=>by
  obtain ⟨q,hq,rfl⟩:=Lx.1 hp;exact (((h.co.each q hq).up (L':=[]) (by simp)).ext H))
 refine xl rfl<|xf<|(qj (km:=4096) hn (hg.ext H) (by decide) (zX hm)).mono ?_;rintro r6 w6 ⟨hc,va,vt,e,rfl,I⟩;rw[Qcq] at I;have ho:=H.trans hc;have hr:=H.size;have hs:∃us,va=.agg us.toArray∧us.length=4∧ZN us:=by
  by_cases he:e=0
  ·exact YV (I.good he).1
  exact ⟨[nS,.int .i64 0,nS,nS],(I.bad he).1,O,O,O,O,O,U⟩
 refine Exists.elim hs λus G=>?_;refine x (Ql O O)<|x (Ql O O)<|x (Ql O O)<|xl O<|Qp (us:=us) ((J.ext E).ext (T.trans hc)) O G.1 G.2.1 O G.2.2 λw7 hf ht =>
  x Qg<|Qe<|Qn ⟨[.agg us.toArray,vt,.int .i64 e],⟨⟨_,O,Qv G.2.1 (ht.at (L:=[]) (by simp)).cells⟩,rfl,rfl,U⟩,ho.then1 hf (by omega),va,vt,e,by rw[G.1];rfl,?_⟩
 unfold zu;rw[if_neg h9];exact (I.st1 (by have:=T.size;have:=E.size;omega) hf).mono hr
theorem yD {L:LN}{w:World}{v:Value}{l:LI}{m:Int}(h:QL L w.heap v l) (J:Kb w m) (hb:∀n∈l,0≤n∧n<m) (hl:l.length≤1000000) :
  QK prog 72 [v] w λr w'=>r=.string ⟨(Xy l).toArray⟩∧Step [] w w':=by
 refine QK.of_W func72 O ntmps72 results72 (by simp) ?_;refine Qc<|Qe<|Qc<|xl O<|Qt (us:=[.pointer none,nS]) O λH w1 ha S hc=>xe ?_;refine Qf<|Qc<|Qb<|x (Qs h O)<|Qb<|xe ?_
 refine Qh<|QB (α:=Nat×Value) [(5,5),(8,16)] (λz=>[(8,.int .i64 z.1)]) (λz w'=>z.1≤l.length∧Step [] w w'∧(z.2=.pointer none∨z.2=me H)∧Bl z.2 H (Xy (l.take z.1)) w'∧(Xy (l.take z.1)).length≤8*z.1) (λz=>l.length - z.1) (by rfl) (0,.pointer none) Z
  ⟨Lk _,ha,.inl O,⟨_,hc,QN _ _ _ _⟩,Lr _⟩ ?_
 rintro ⟨k,p⟩ g w2 ⟨hk,E,hp,G,he⟩;simp only[] at hk hp G he;refine Qc<|x (QA O O)<|xe<|Qf<|QG O (λh9=>?_) (λh9=>?_)
 ·refine Qz<|Qc ?_;rw[Lm (by omega)] at G;refine xl O<|xf<|(qQ E S hp G).mono ?_;rintro r3 w3 ⟨rfl,hf⟩;refine Qe ?_;exact Qn ⟨[.string ⟨(Xy l).toArray⟩],Z,O,hf⟩
 have I:k<l.length:=by omega
 have hm:=hb l[k] (Li I);obtain ⟨q,hq⟩:∃q:Nat,l[k]=q:=⟨l[k].toNat,by omega⟩;have hg:l[k].toNat=q:=by omega
 have hn:=VM 7 q (by have:=J.le;omega);have T:Xy (l.take (k+1))=Xy (l.take k)++(Lib.decDigits q++[32]):=by
  rw[Le I];unfold Xy;rw[Ly,List.flatMap_singleton,hg]
 refine Qi<|Qf<|Qh<|Qc<|xii (h.ext E) O O I λho hh=>x (Qx hh O)<|Qe<|Qy<|Qb<|xl O<|xf ?_;refine (show QK _ _ [.int .i64 l[k]] _ _ by rw[hq];exact (QbZ q (by omega) w2 (J.ext E))).mono ?_;rintro r4 w4 ⟨rfl,V⟩;have hi:(⟨(Lib.decDigits q).toArray⟩:ByteArray).size+(⟨#[32]⟩:ByteArray).size≤1000000000:=by show (Lib.decDigits q).toArray.size+1≤_;simp;omega
 refine x (Z9 O O hi)<|xl O<|xf<|(JE (E.trans V) S hp (G.ext V) ((⟨(Lib.decDigits q).toArray⟩:ByteArray)++(⟨#[32]⟩:ByteArray)) (by rw[ByteArray.size_append];show _+((Lib.decDigits q).toArray.size+1)≤_;simp;omega)).mono ?_;rintro r5 w5 ⟨hj,Y⟩;refine xe<|Qy<|QP O O<|Qb<|xe<|⟨(k+1,me H),by simp only[];omega,Z,by simp only[];omega,hj,.inr O,?_,?_⟩
 ·simp only[];rw[T];have e:((⟨(Lib.decDigits q).toArray⟩++⟨#[32]⟩:ByteArray)).data.toList=Lib.decDigits q++[32]:=by rw[ByteArray.data_append];simp
  rw[e] at Y;exact Y
 simp only[];rw[T];simp;omega
structure Sty where
 c:CL
 p:AV
 vq:Value
 qs:List TV
 s:AV
 vt:Value
 ts:List TV
 vs:Value
 vx:Value
 vk:Value
 qx:List XV
 ks:List KV
 bm:Nat
 mm:List (ByteArray×Value)
abbrev Sty.cells (q:Sty):LV:=[q.c.ve,q.c.vc,q.c.vr,q.c.vx,q.c.vk,q.p.va,.int .i64 q.p.a.st,q.p.vm,q.p.ve,q.vq,q.s.va,.int .i64 q.s.a.st,q.s.vm,q.s.ve,q.vt,q.vs,q.vx,q.vk,.map (some q.bm)]
structure XC (L:LN) (b:Nat) (H:Array Obj) (q:Sty):Prop where
 B:QZ H b 154 q.cells
 bL:b∉L
 c:ZA L H q.c
 p:Zt L H q.p.va q.p.vm q.p.ve q.p.a
 s:Zt L H q.s.va q.s.vm q.s.ve q.s.a
 qs:XB L H q.vq q.qs
 ts:XB L H q.vt q.ts
 k1:QL L H q.vs (szs q.c.cel.co)
 k2:qy L H q.vx q.qx
 k3:qm L H q.vk q.ks
 mL:q.bm∉L
 m:Z4 Xp H q.bm q.mm
theorem XC.ext {L:LN}{b:Nat}{w w':World}{q:Sty}(h:XC L b w.heap q) (hs:Step [] w w'):XC L b w'.heap q:=⟨h.B.ext hs,h.bL,h.c.ext hs,h.p.ext hs,h.s.ext hs,h.qs.ext hs,h.ts.ext hs,h.k1.ext hs,h.k2.ext hs,h.k3.ext hs,h.mL,h.m.ext hs⟩
theorem XC.st {L:LN}{b:Nat}{w w':World}{q:Sty}(h:XC L b w.heap q) (hs:Step L w w'):XC L b w'.heap q:=⟨h.B.step hs h.bL,h.bL,h.c.st hs,h.p.st hs,h.s.st hs,h.qs.st hs,h.ts.st hs,h.k1.st hs,h.k2.st hs,h.k3.st hs,h.mL,h.m.step hs h.mL⟩
theorem XC.up {L L':LN}{b:Nat}{H:Array Obj}{q:Sty}(h:XC L b H q) (E:∀b∈L',b∈L∨H.size≤b):XC L' b H q :=
 ⟨h.B,λhm=>by rcases E _ hm with h1 | h1;exact h.bL h1;have:=h.B.lt;omega,h.c.up E,h.p.up E,h.s.up E,h.qs.up E,h.ts.up E,h.k1.up E,h.k2.up E,h.k3.up E,λhm=>by rcases E _ hm with h1 | h1;exact h.mL h1;have:=h.m.lt;omega,h.m⟩
structure QlI (q:Sty):Prop where
 ok:Zb q.c.cel=0
 p:sync (auts q.c.cel.co)=some (q.p.a,q.qs.map (·.2))
 s:sync (auts q.c.cel.co++auts q.c.cel.rq)=some (q.s.a,q.ts.map (·.2))
 ex:q.qx.map (·.x)=q.c.cel.ex
 cs:q.ks.map (·.k)=q.c.cel.cs
 m:VR q.c.co.length q.mm (q.qs.map (·.2))
theorem Yk {l:List YN}(h:∀x∈l,Q8 x.a):∀a∈auts l,Q8 a:=λa ha=>by
 obtain ⟨x,hx,rfl⟩:=Lx.1 ha;exact h x hx
def stp (a:QQ) (s v:Int):Int×Bool×Int:=if cks a s≠0 then (0,false,cks a s) else if v∉a.al then (0,false,9) else if 0≤nxt a.ed s v then (nxt a.ed s v,true,0) else (0,false,0)
theorem Qgg {L:LN}{w:World}{va vm ve:Value}{a:QQ}(h:Zt L w.heap va vm ve a) (s v:Int) :
  QK prog 30 [.agg #[va,.int .i64 a.st,vm,ve],.int .i64 s,.int .i64 v] w λr w'=>r=.tuple #[.int .i64 (stp a s v).1,.bool (stp a s v).2.1,.int .i64 (stp a s v).2.2]∧Step [] w w':=by
 have E:stp a s v=(if cks a s≠0 then (0,false,cks a s) else if v∉a.al then (0,false,9) else if 0≤nxt a.ed s v then (nxt a.ed s v,true,0) else (0,false,0)):=rfl
 refine Zd (stp a s v) λR hR=>?_;rw[hR] at E ⊢;refine QK.of_W func30 O ntmps30 results30 (by simp) ?_;refine Qc<|xl O<|QS (us:=[va,.int .i64 a.st,vm,ve]) O λb3 w1 Y he I=>x Qg<|x Qg<|Qe<|Qf<|Qc<|x (Qr I O O)<|Qb<|xl O<|xf<|(XY (h.ext Y) s).mono ?_;rintro r2 w2 ⟨rfl,J⟩;refine Qe ?_;have G:=Y.trans J;refine Qc<|Qb<|x (Q9 O O)<|xe<|Q6 rfl (λH=>?_) (λH=>?_)
 ·rw[if_pos H] at E;subst E;refine Qc<|Qb<|x Qg<|x Qg<|Qe ?_;exact Qn ⟨[_,_,_],⟨O,O,O,U⟩,O,G⟩
 rw[if_neg H] at E;refine Qi<|Qf<|Qc<|x (Qa O)<|x (Qd (I.ext J) O O)<|Qb<|xl O<|xf<|(ZM (h.al.ext G) v).mono ?_;rintro r3 w3 ⟨rfl,rfl⟩;refine x (UF O)<|xe<|Q6 rfl (λS=>?_) (λS=>?_)
 ·rw[if_pos S] at E;subst E;refine Qc<|x Qg<|x Qg<|Qe ?_;exact Qn ⟨[_,_,_],⟨O,O,O,U⟩,O,G⟩
 rw[if_neg S] at E;refine Qi ?_;have hc:cks a s=0:=Ls.1 H;have ha:Jn a=0:=by
  unfold cks at hc;refine Ls.1 λT=>?_;rw[if_pos T] at hc;exact T hc
 have hsr:0≤s∧s<a.st:=by
  unfold cks at hc;rw[if_neg (by rw[ha];decide)] at hc;refine Ls.1 λT=>?_;rw[if_pos (by omega)] at hc;cases hc
 refine Qf<|Qc<|x (Qr (I.ext J) O O)<|Qb<|Qb<|xl O<|xf<|(j3 (h.ed.ext G) ((ZJ a).1 ha) s v hsr.1 hsr.2).mono ?_;rintro r4 w4 ⟨rfl,hb⟩;refine Qe<|Qc<|Qb<|x (ZU O O)<|xe<|Q6 rfl (λV=>?_) (λV=>?_)
 ·rw[if_pos V] at E;subst E;refine Qc<|Qb<|x Qg<|x Qg<|Qe ?_;exact Qn ⟨[_,_,_],⟨O,O,O,U⟩,O,G.trans hb⟩
 rw[if_neg V] at E;subst E;refine Qi<|Qc<|x Qg<|x Qg<|Qe ?_;exact Qn ⟨[_,_,_],⟨O,O,O,U⟩,O,G.trans hb⟩
theorem QeJ (E:List Ed) (s v:Int):nxt E s v=(eget E s v).getD (-1):=by
 induction E with
 | nil=>rfl
 | cons e E ih =>
  rw[nxt,eget];by_cases h:e.1=s∧e.2.1=v
  ·rw[if_pos h,if_pos h];rfl
  rw[if_neg h,if_neg h];exact ih
theorem QiP {a:QQ}(h:Q8 a) {s v:Int}(G:0≤s) (h1:s<a.st) (E:v∈a.al):(stp a s v).2.1=(eget a.ed s v).isSome:=by
 have hc:cks a s=0:=by unfold cks;rw[if_neg (by rw[(ZJ a).2 h];decide),if_neg (by omega)]
 unfold stp;rw[if_neg (by rw[hc];decide),if_neg (by simpa using E),QeJ];cases he:eget a.ed s v with
 | none=>rfl
 | some t =>
  have:=(h.ed _ (JT he)).2.2.2.1;rw[Option.getD_some,if_pos (by simpa using this)];rfl
theorem yX {L L':LN}{w:World}{b:Nat}{q:Sty}{vt:Value}{t:LI}(H:XC L b w.heap q) (I:QL L' w.heap vt t) (J:q.c.co.length≤t.length) :
  QK prog 71 [.pointer (some ⟨b,0,none⟩),vt] w λr w'=>Step [] w w'∧∃E G,r=.tuple #[E,G]∧QL L' w'.heap E (t.take q.c.co.length)∧QL L' w'.heap G (t.drop q.c.co.length):=by
 refine QK.of_W func71 O ntmps71 results71 (by simp) ?_;refine Qc<|x Qg<|Qe<|Qc<|Qb<|x (QF O)<|x (Qa O)<|x (Qa O)<|x (Qd H.B O O)<|x (Qs H.c.co.arr O)<|Qe<|Qf<|QW (Step [] w) [(0,true),(1,true),(2,true),(3,true),(4,true),(5,true),(6,true),(7,true),(8,true)] mixed (by rfl) (by kernel_rfl) (Step.drew _ _) ?_
 refine p (λ_=>Qo)<|p (λ_=>Qo)<|p (λ_=>Qo)<|Qlt (hi:=q.c.co.length) O I O O O J λE h1=>p (λ_=>Qo)<|p (λ_=>Qo)<|Qi7 (lo:=q.c.co.length) O I O O J λG h2 =>
  p (λ_=>Qg)<|p (λ_=>Qg)<|pe ?_
 refine Qn ⟨[_,_],⟨O,O,U⟩,Step.drew _ _,E,G,O,?_,?_⟩
 ·rw[Nat.mul_one,←List.map_take] at h1;have e:(t.take q.c.co.length).length=q.c.co.length:=by rw[Lv];omega
  unfold QL;rw[e];exact h1
 exact QL.drop h2
theorem Qek {v:Int}{i:Nat}{y:YN}{l:List YN}{s:Int}{ss:LI}:rfr v i (y::l) (s::ss)=if v∈y.a.al∧(eget y.a.ed s v).isSome=false then (i:Int) else rfr v (i+1) l ss:=rfl
set_option maxHeartbeats 1000000 in
theorem QaC {L L':LN}{w:World}{b:Nat}{q:Sty}{vr:Value}{rs:LI}{v:Int}(S:XC L b w.heap q) (hr:QL L' w.heap vr rs) (hp:∀x∈q.c.rq,Q8 x.p.a) (hv:Vt (auts q.c.cel.rq) rs) :
  QK prog 152 [.pointer (some ⟨b,0,none⟩),vr,.int .i64 v] w λr w'=>r=.int .i64 (rfr v 0 q.c.cel.rq rs)∧Step [] w w':=by
 have h5:=S.c.rq.arr.le;have h6:rs.length=q.c.rq.length:=by rw[hv.1];unfold auts;show ((q.c.rq.map IV.it).map _).length=_;simp
 refine Zd (rfr v 0 q.c.cel.rq rs) λR hR=>?_;rw[hR];refine QK.of_W func152 O ntmps152 results152 (by simp) ?_;refine Qc<|Qe<|Qf<|Qc<|Qb<|x (QF O)<|x (Qa O)<|x (Qa O)<|x (Qd S.B O O)<|x (Qs S.c.rq.arr O)<|Qb<|xe ?_
 refine Qh<|QB (α:=Nat) [(6,11),(18,44)] (λz=>[(18,.int .i64 z)]) (λz w'=>z≤q.c.rq.length∧Step [] w w'∧rfr v z ((q.c.rq.drop z).map (·.it)) (rs.drop z)=R) (λz=>q.c.rq.length - z) (by rfl) 0 Z
  ⟨Lk _,Step.refl _ _,hR⟩ ?_
 rintro k g w1 ⟨hk,I,E⟩;refine Qc<|x (QA O O)<|xe<|Qf<|QG O (λha=>?_) (λha=>?_)
 ·refine Qz ?_;have hq:q.c.rq.length≤k:=by have hs:¬(k:Int)<(q.c.rq.length:Int):=ha;omega
  rw[Lq hq] at E;have ht:R=-1:=E.symm;refine Qc<|Qe ?_;exact Qn ⟨[_],Z,by rw[ht];rfl,I⟩
 have G:k<q.c.rq.length:=by have hs:(k:Int)<(q.c.rq.length:Int):=ha;omega
 have H:k<rs.length:=by omega
 have hb:=Li G;rw[XK G,QY H,Qek] at E;have J:∀hz:k<(auts q.c.cel.rq).length,0≤rs[k]'H∧rs[k]'H<((auts q.c.cel.rq)[k]'hz).st:=λhz=>hv.2 k H hz;have hh:k<(auts q.c.cel.rq).length:=by unfold auts;show k<((q.c.rq.map IV.it).map _).length;simpa using G
 have J:=J hh;have hu:(auts q.c.cel.rq)[k]'hh=(q.c.rq[k]'G).p.a:=by unfold auts;show ((q.c.rq.map IV.it).map _)[k]'_=_;simp[IV.it]
 rw[hu,Zi H] at J;rw[Zi H] at E;refine Qi<|Qf<|Qh<|Qc<|Qb<|xig YT (S.c.rq.arr.ext I) O O G λh7 hi=>?_;refine Zd (q.c.rq[k]'G) λy hy=>?_;rw[hy] at hi hb E J;have T:=(S.c.rq.each y hb).ext I;have hj:=hp y hb;refine x (QI hi O O)<|xl O<|Qt (us:=[.string .empty,nS,.int .i64 0,nS,nS]) O λb8 w2 hw h0 Y=>x Qg <|
  xl rfl<|Qp (us:=Za y) Y O O O O ⟨O,T.al.one,O,T.mr.one,T.ed.one,U⟩ λw3 h1 Y=>xe ?_
 have V:Step [] w1 w3:=hw.then1 h1 h0;refine Qf<|Qc<|x (Qa O)<|x (Qa O)<|x (Qd Y O O)<|Qb<|xl O<|xf<|(XZ (T.al.ext V) hj.ali v).mono ?_;rintro r4 w4 ⟨rfl,rfl⟩;refine x (UF O)<|xe<|Q6 rfl (λhe=>?_) (λhe=>?_)
 ·rw[if_neg (λe=>he e.1)] at E;refine Qz<|Qy<|QP O O<|Qb<|xe ?_;exact ⟨k+1,by omega,Z,G,I.trans V,E⟩
 have hl:v∈y.p.a.al:=Ls.1 he;have hm:=QiP hj J.1 J.2 hl;refine Qi ?_;have h2:=(hr.ext I).ext V;refine Qf<|QW (Step [] w4) [(0,true),(1,true),(2,true),(3,true),(4,true),(5,true),(6,true),(7,false),(8,true),(9,true),(10,true),(11,true),(12,true),(13,true),(14,true)] mixed (by rfl) (by kernel_rfl) (Step.drew _ _) ?_
 refine p (λ_=>Qa O)<|pq (λ_ hc=>Yy (us:=Zj y.p) (Y.step hc (by simp)) rfl rfl rfl)<|p (λ_=>Qo)<|p (λ_=>Qo)<|pic (i:=k) rfl h2 rfl rfl H λh8 h3 =>
  pq (λ_ hc=>Qx (h3.ext hc) O)<|p (λ_=>Qo)<|pk<|xf<|(Qgg ((T.ext V).ext (Step.drew _ _)) (cget rs k) v).mono ?_
 rintro r5 w5 ⟨rfl,h4⟩;have hn:=(Step.drew [] w4).trans h4;refine ⟨hn,?_⟩;refine p (λ_=>Qo)<|p (λ_=>Ql O O)<|p (λ_=>Ql O O)<|p (λ_=>Ql O O)<|p (λ_=>Qg) <|
  p (λ_=>Qg)<|p (λ_=>Qg)<|pe ?_
 have ho:=(I.trans V).trans hn;refine Qc<|Qb<|x (Zr O)<|xe<|Q3 rfl (λhf=>?_) (λhf=>?_)
 ·have hg:(eget y.p.a.ed (cget rs k) v).isSome=false:=by rw[←hm];simpa using hf
  rw[if_pos ⟨hl,hg⟩] at E;refine Qc<|Qb<|Qe ?_;exact Qn ⟨[_],Z,by rw[←E];rfl,ho⟩
 have hg:¬(eget y.p.a.ed (cget rs k) v).isSome=false:=by rw[←hm];simpa using hf
 rw[if_neg (λe=>hg e.2)] at E;refine Qi<|Qy<|QP O O<|Qb<|xe ?_;exact ⟨k+1,by omega,Z,G,ho,E⟩
end Go.Proofs.YtdffckgdcegpaaaGreatDoor
namespace Go.Lg
open Go.RowKit
def Xv (L:LN) (W W':World):Prop:=∀(k:Nat) (o:Obj),k∉L→W.heap[k]?=some o→o.isCells=true→W'.heap[k]?=some o
theorem Xv.refl (L:LN) (W:World):Xv L W W:=λ_ _ _ h _=>h
theorem Xv.trans {L:LN}{A B C:World}(h:Xv L A B) (k:Xv L B C):Xv L A C:=λi o E G hc=>k i o E (h i o E G hc) hc
theorem Xv.step {L:LN}{W W':World}(h:Step L W W'):Xv L W W':=λk _ G E _=>(h.block k (LC.1 E).1 G).trans E
theorem At.cst {L:LN}{W W':World}{a:Addr}{us:LV}(h:At L W.heap a us) (hc:Xv L W W') (G:W.heap.size≤W'.heap.size):At L W'.heap a us:=by
 refine ⟨h.out,λu hu=>LW (h.lt u hu) G,λj u hu=>?_⟩;have h1:=h.cell j u hu;unfold cel at h1 ⊢;rw[Z3] at h1 ⊢;cases E:W.heap[a.block]? with
 | none=>rw[E] at h1;cases h1
 | some o =>
  rw[E] at h1;cases o with
  | cells c t m=>rw[hc a.block _ (h.out u (L7 hu)) E rfl];exact h1
  | _=>cases h1
theorem Zp.cst {L:LN}{W W':World}{v:Value}{n sz:Nat}{cs:LV}(h:Zp L W.heap v n sz cs) (hc:Xv L W W') (E:W.heap.size≤W'.heap.size):Zp L W'.heap v n sz cs :=
 ⟨h.1,h.2.1,h.2.2.imp id λ⟨a,cap,h1,h2,h3⟩=>⟨a,cap,h1,h2,h3.cst hc E⟩⟩
structure LwC (B:Nat) (L:LN) (W W':World):Prop where
 lw:Lw B L W W'
 cst:Xv L W W'
theorem LwC.trans {B:Nat}{L:LN}{E w w':World}(h:LwC B L E w) (k:LwC B L w w'):LwC B L E w':=⟨h.lw.trans k.lw,h.cst.trans k.cst⟩
def rdC {α:Type}(B:Nat) (L:LN) (I:List α→World→Prop) (X:Exit→List α→World→Prop) (xs:List α) (W:World):Exit→LN→Fr→World→Prop
 | .normal,_,_,W'=>Jr B L W W'∧Xv L W W'∧I xs W'
 | .ret,_,_,W'=>Jr B L W W'∧X .ret xs W'
 | .exit i,_,_,W'=>Jr B L W W'∧X (.exit i) xs W'
 | _,_,_,_=>False
theorem j9 {α:Type}{m:Nat}{P:Program}{n:Nat}{Q:Exit→LN→Fr→World→Prop}{ds:LN}{f:Fr}{w:World}{g:Operand}{ps:LN}{assign body:Code}(L:LN) (h1:1≤m)
  {gf:Nat} {fn:Func} [hF:Fu P gf fn] {capt:LV} (hg:ev f g=.func (.func gf) #[] capt.toArray) {encs:α→LV} {S Sp:List α→Prop} {N:Nat} (hp:∀p∈ps,p<n) (hh:∀x,(encs x).length=ps.length)
  (hj:SeqStopsK (fen none) (m - 1) P gf capt.toArray (λx=>(encs x).toArray) (LwC w.heap.size L) S Sp N w)
  (I:List α→World→Prop) (hI:∀s,ZY w.heap.size (I s)) (X:Exit→List α→World→Prop) (hX:∀e s,ZY w.heap.size (X e s)) (h0:I [] w) (A:Fr→α→Fr→World→Prop) (hA:∀x E,ZY w.heap.size (A f x E))
  (Y:∀l pre x W,I pre W→WG (some l) (m - 1 - 1) P n assign (Qak (λJ E W'=>J=[]∧Jr w.heap.size L W W'∧Xv L W W'∧I pre W'∧A f x E W') (λ_ _ _ _=>False)) [] (Qai f ps (encs x)) W)
  (hb:∀l pre x E W,I pre W→A f x E W→pre.length<N→WG (some l) (m - 1 - 1) P n body (rdC w.heap.size L I X (pre++[x]) W) [] E W)
  (hm:∀D xs W,w.heap.size≤D→S xs→I xs W→W.heap[D]?=some (.deferred (some []))→Q .normal (D::ds) f W)
  (he:∀D e pre W,w.heap.size≤D→Sp pre→X e pre W→W.heap[D]?=some (.deferred (some []))→(e=.ret∨∃i,e=.exit i)→Q e (D::ds) f W) :
  WG none m P n (.rangeFunc g ps.toArray assign body) Q ds f w:=by
 unfold WG at Y hb ⊢;intro a ha;have eg:∀args w,(callFunc gf args).run P w=.ok (.enter gf args) w:=by
  intro args w;have h1:¬fn.name = "runtime.NumGoroutine" := by simpa using hF.nm
  have h2:¬fn.body=none:=by have:=hF.b;intro e;rw[e] at this;cases this
  simp[callFunc,hF.f,h1,h2]
 have keep:∀{W W':World},Jr w.heap.size L W W'→KeepsFrom w.heap.size W W':=λh=>⟨h.lw.size,λk o _ hk T=>h.other k o hk T⟩;refine wpIn_rangeFunc_ownH (F:=fen none) O h1 (gf:=gf) (lb:=capt.toArray) (by rw[ha.eval];exact hg) U eg hj (λh k=>h.trans k)
  (λW l o o' hl T hn _=>⟨⟨O,O,O,by simp,λk hk _=>World.putObj_heap_other (by omega)⟩,λk o2 _ hk hc=>by
   have hq:k≠l:=λe=>by subst e;rw[T] at hk;cases hk;rw[hn] at hc;cases hc
   rw[World.putObj_heap_other hq];exact hk⟩) (Below.refl _ _) (λx=>by simp[hh x]) I
  (λc pre W=>match c with | .ret=>X .ret pre W | .exit i=>X (.exit i) pre W | _=>False) (ZY.own hI) (λc=>ZY.own λs=>?_) h0
  (λx G W=>∃E,Yt n [] G E∧A f x E W) (λx G=>ZY.own λ_=>ZY.ex λE=>ZY.and (ZY.pure _) (hA x E)) ?_ ?_ ?_ ?_
 ·cases c <;> first | exact hX _ s | exact ZY.pure _
 ·intro l pre x W K hi hK;have hr:Yt n [] { tmps:=(ps.toArray.zip (encs x).toArray).foldl (λt (p,v)=>t.setIfInBounds p v) a.tmps,defers:=[] } (Qai f ps (encs x)):=by
   have h2:Yt n [] { a with defers:=[] } f:=⟨ha.size,O,ha.get⟩
   have h3:=Vy ps (encs x) _ _ h2 hp;have e:(ps.toArray.zip (encs x).toArray).foldl (λt (p,v)=>t.setIfInBounds p v) a.tmps=(ps.zip (encs x)).foldl (λt (x:Nat×Value)=>t.setIfInBounds x.1 x.2) a.tmps:=by simp
   rw[e];exact h3
  refine wpIn_mono (Y l pre x W hi _ hr) ?_;rintro e G W' ⟨J,E,h2,_,h3⟩;cases e with
  | normal=>obtain ⟨rfl,V,hs,h5,h6⟩:=h3;exact hK G W' (keep V) ⟨V.lw,hs⟩ h5 ⟨E,h2,h6⟩
  | exit id=>exact h3.elim
  | goto l=>exact h3.elim
  | ret=>exact h3.elim
  | panic ch=>exact h3.elim
  | outgrown=>exact h3.elim
 ·rintro l pre x G W _ _ hi ⟨E,h2,h3⟩ ht;refine wpIn_mono (hb l pre x E W hi h3 ht G h2) ?_;rintro e hu W' ⟨J,hv,V,_,h5⟩;cases e with
  | normal=>exact ⟨keep h5.1,⟨h5.1.lw,h5.2.1⟩,h5.2.2⟩
  | exit id=>exact ⟨keep h5.1,h5.2⟩
  | goto l=>exact h5.elim
  | ret=>exact ⟨keep h5.1,h5.2⟩
  | panic ch=>exact h5.elim
  | outgrown=>exact h5.elim
 ·intro D xs W hD H hi hd;exact ⟨D::ds,f,⟨ha.size,by rw[show coll (D::ds)={ target:=.collected D,args:=#[] }::coll ds from rfl,ha.defers],ha.get⟩,λ_ _=>rfl,hm D xs W hD H hi hd⟩
 intro D c pre W hD H hx hd;have hf:Yt n (D::ds) { a with defers:={ target:=.collected D,args:=#[] }::a.defers } f:=⟨ha.size,by rw[show coll (D::ds)={ target:=.collected D,args:=#[] }::coll ds from rfl,ha.defers],ha.get⟩
 cases c with
 | ret=>exact wpIn_ret ⟨_,f,hf,λ_ _=>O,he D .ret pre W hD H hx hd (.inl O)⟩
 | exit i=>exact wpIn_exit ⟨_,f,hf,λ_ _=>O,he D (.exit i) pre W hD H hx hd (.inr ⟨i,O⟩)⟩
 | _=>exact hx.elim
theorem xy2 {m:Nat}{P:Program}{ops:List Oper}{rest:List Oper}{f:Fr}{w:World}{K:Fr→World→Prop}{d:Option Nat}{ty:Nat}{ps:String}{af:Array Edge}{gd:Option (Nat×Bool)}{x y z:Operand}{at_:Array Nat}{l:Nat}{R:Ending→World→Prop}
  (hx:ev f x=.func (.yield l) #[] #[]) (hy:YieldAt (fen none) (m - 1) P l #[ev f y,ev f z] w R) (E:∀e w',R e w'→∃v,e=.returned v∧Xz P m ops K rest (QV f d v) w')
  (G:Yh ops f ⟨d,.call ⟨.value x,[y,z].toArray,at_⟩,ty,ps,af,gd⟩=true:=by rfl) :
  Xz P m ops K (⟨d,.call ⟨.value x,[y,z].toArray,at_⟩,ty,ps,af,gd⟩::rest) f w:=by
 obtain ⟨fn,tmps,assign,body,h1,h2⟩:=hy;have H:(execOp (ev f) ⟨d,.call ⟨.value x,[y,z].toArray,at_⟩,ty,ps,af,gd⟩).run P w=.ok (.round l fn tmps assign body) w:=by
  simp[execOp,resolve,hx,Deferred.ofValue,invoke,h1]
 unfold Xz;rw[G];simp only[XOY,H,upY,cond_true];exact h2.mono λe w' h=>by obtain ⟨v,rfl,hk⟩:=E e w' h;exact hk
end Go.Lg
namespace Go.Proofs.YtdffckgdcegpaaaGreatDoor
open Go.Proofs.Tryz
open Go.Lg
def wrf (rq:List YN) (rs:LI):LI→List (Int×Int)
 | []=>[]
 | v::l=>if 0≤rfr v 0 rq rs then (v,rfr v 0 rq rs)::wrf rq rs l else wrf rq rs l
theorem yM (rq:List YN) (rs:LI) (v:Int):∀l,wrf rq rs (l++[v])=wrf rq rs l++if 0≤rfr v 0 rq rs then [(v,rfr v 0 rq rs)] else []
 | []=>by simp only[List.nil_append,wrf]
 | a::l=>by
  simp only[List.cons_append,wrf,yM rq rs v l];by_cases h:0≤rfr a 0 rq rs
  ·rw[if_pos h,if_pos h];rfl
  rw[if_neg h,if_neg h]
theorem Kj (rq:List YN) (rs:LI) (b:LI):∀a,wrf rq rs (a++b)=wrf rq rs a++wrf rq rs b
 | []=>rfl
 | x::a=>by
  simp only[List.cons_append,wrf,Kj rq rs b a];by_cases h:0≤rfr x 0 rq rs
  ·rw[if_pos h,if_pos h];rfl
  rw[if_neg h,if_neg h]
theorem QgL (rq:List YN) (rs:LI) (l:LI) (k:Nat):(wrf rq rs (l.take k)).length≤(wrf rq rs l).length:=by
 have h:=Kj rq rs (l.drop k) (l.take k);rw[MC] at h;rw[h,Lh];omega
theorem QdD {rq:List YN}{rs:LI}{l:LI}{k:Nat}(h:k<l.length):wrf rq rs (l.take (k+1))=wrf rq rs (l.take k)++if 0≤rfr (cget l k) 0 rq rs then [(cget l k,rfr (cget l k) 0 rq rs)] else []:=by
 rw[Le h,yM,Zi h]
theorem Ud {rq:List YN}{rs:LI}{x:Int×Int}:∀{l:LI},x∈wrf rq rs l↔x.1∈l∧0≤x.2∧x.2=rfr x.1 0 rq rs
 | []=>by simp[wrf]
 | v::l=>by
  rw[wrf];have ih:=Ud (rq:=rq) (rs:=rs) (x:=x) (l:=l);by_cases h:0≤rfr v 0 rq rs
  ·rw[if_pos h,Lb,ih,Lb];constructor
   ·rintro (rfl | ⟨h1,h2⟩)
    ·exact ⟨.inl O,h,O⟩
    exact ⟨.inr h1,h2⟩
   rintro ⟨h1 | h1,h2,h3⟩
   ·exact .inl (by rw[←h1];exact Prod.ext_iff.2 ⟨O,h3⟩)
   exact .inr ⟨h1,h2,h3⟩
  rw[if_neg h,ih,Lb];constructor
  ·rintro ⟨h1,h2⟩;exact ⟨.inr h1,h2⟩
  rintro ⟨h1 | h1,h2,h3⟩
  ·exact absurd (by rw[←h1,←h3];exact h2) h
  exact ⟨h1,h2,h3⟩
theorem VU {w:World}{b:Nat}{st:Int}{vr:Value}(J:vr.cells=[vr].toArray) :
  QK prog 74 [.pointer (some ⟨b,0,none⟩),.int .i64 st,vr] w λr w'=>Step [] w w'∧∃b1 b2 E,r=.func (.func 151) #[] #[.pointer (some ⟨b1,0,none⟩),.pointer (some ⟨b2,0,none⟩),.pointer (some ⟨E,0,none⟩)] ∧
   w.heap.size≤b1∧w.heap.size≤b2∧w.heap.size≤E∧QZ w'.heap b1 147 [.pointer (some ⟨b,0,none⟩)]∧QZ w'.heap b2 3 [.int .i64 st]∧QZ w'.heap E 37 [vr]:=by
 refine QK.of_W func74 O ntmps74 results74 (by simp) ?_;refine Qc<|xl O<|QS (us:=[.pointer (some ⟨b,0,none⟩)]) O λE w1 I S T=>xl O<|QS (us:=[.int .i64 st]) O λV w2 G hb Y=>xl O<|QS (us:=[vr]) J λb5 w3 H hc ha=>x Qg <|
  xe ?_
 have he:=I.size;have hf:=G.size;refine Qc<|x Zo<|Qe ?_;exact Qn ⟨[_],Z,(I.trans G).trans H,E,V,b5,O,S,by omega,by omega,(T.ext G).ext H,Y.ext H,ha⟩
set_option maxHeartbeats 4000000 in
theorem KT {L:LN}{w:World}{S b2 T b m:Nat}{q:Sty}{vr:Value}{rs E:LI}{st:Int}{fl:List (Int×Int)}(hu:QZ w.heap S 147 [.pointer (some ⟨b,0,none⟩)]) (h7:QZ w.heap b2 3 [.int .i64 st]) (h8:QZ w.heap T 37 [vr])
  (hA:S∉L) (hB:T∉L) (hC:∀x∈L,x<w.heap.size) (hS:XC L b w.heap q) (hr:QL L w.heap vr rs) (hD:∀x∈q.c.rq,Q8 x.p.a) (hv:Vt (auts q.c.cel.rq) rs) (hc:cks q.p.a st=0) (hw:enb q.p.a st=E) (hi:wrf q.c.cel.rq rs E=fl) :
  SeqStopsK (fen none) m prog 151 [.pointer (some ⟨S,0,none⟩),.pointer (some ⟨b2,0,none⟩),.pointer (some ⟨T,0,none⟩)].toArray (λx:{ x:Int×Int // x∈fl }=>[Value.int .i64 x.1.1,.int .i64 x.1.2].toArray) (LwC w.heap.size L)
   (λG=>G.map (·.1)=fl) (λpre=>pre.map (·.1) <+: fl) fl.length w:=by
 intro l J Jx W hE hJ hF hY h0;have hf:Step [] w W:=Step.of_below hE;have ab:∀{G:List { x:Int×Int // x∈fl }} {W1 W2:World},J G W1→Step [] W1 W2→J G W2:=λ{G W1 W2} hj hg=>hJ G W1 W2 none hj ⟨hg.os,hg.tape,hg.output,hg.size,λk hk _=>hg.block k hk (by simp)⟩ (λr e=>by cases e);have hG:E.length≤1099511627776:=by
  have h1:=hS.p.ed.le;have h2:=JH q.p.a.ed st;rw[←hw];unfold enb;rw[Lc];omega
 have hH:=QgL q.c.cel.rq rs E;rw[hi] at hH;have key:QK prog 151 [.func (.yield l) #[] #[],.pointer (some ⟨S,0,none⟩),.pointer (some ⟨b2,0,none⟩),.pointer (some ⟨T,0,none⟩)] W (λ_ W'=>(∃G,G.map (·.1)=fl∧J G W')∨(∃pre,pre.map (·.1) <+: fl∧Jx pre W')):=by
  refine QK.of_G m func151 O ntmps151 results151 (by simp) ?_;have hI:=hu.ext hf;have hK:=h7.ext hf;have hy:=hS.ext hf;refine QX<|qp (Step [] W) [(0,true),(1,true),(2,true),(3,true),(4,true),(5,false),(6,true),(7,true),(8,true),(9,true),(10,true)] mixed (by rfl) (by rfl) (by kernel_rfl) (Step.drew _ _) ?_
  refine pq (λ_ hc=>Qd (hI.ext hc) O O)<|p (λ_=>QF O)<|p (λ_=>Qa O)<|pq (λ_ hc=>Yy (us:=Zj q.p) (hy.B.ext hc) O O O)<|pq (λ_ hc=>Qd (hK.ext hc) O O)<|pk<|xf<|(Qbl (hy.p.ext (Step.drew _ _)) st).mono ?_;rintro r1 w1 ⟨hL,ve,rfl,_,hl⟩;have hl:=hl hc;have hq:=(Step.drew [] W).trans hL;refine ⟨hq,?_⟩;refine p (λ_=>Qo)<|p (λ_=>Ql O O)<|p (λ_=>Ql O O)<|p (λ_=>Qg)<|p (λ_=>Qg)<|pe ?_
  have hP:=hf.size;have hQ:({ W with drawn:=W.drawn+1 }:World).heap.size=W.heap.size:=rfl
  rw[hw] at hl;have hz:QL L w1.heap ve E:=Qu.ints hl hG (λx hx=>by have:=hC x hx;omega);refine QX<|QJ (by rfl) (by rfl) ?_;refine Qb<|x (Qs hz O)<|Qb<|xe ?_
  refine ZH<|VT (α:=Nat×List { x:Int×Int // x∈fl }) [(8,9),(21,38)] (λz=>[(21,.int .i64 z.1)]) (λz ds W'=>ds=[]∧z.1≤E.length∧Step L w W'∧QL L W'.heap ve E∧z.2.map (·.1)=wrf q.c.cel.rq rs (E.take z.1)∧J z.2 W') (λz=>E.length - z.1) (by rfl) (0,[]) Z
   ⟨O,Lk _,(hf.trans hq).any,hz,O,ab h0 hq⟩ ?_
  rintro ⟨k,G⟩ g ds w2 ⟨rfl,hk,V,hm,Y,hn⟩;simp only[] at hk hm Y hn;refine QX<|QJ (by rfl) (by rfl) ?_;refine x (QA O O)<|xe<|QX<|zw O (λhs=>?_) (λhs=>?_)
  ·refine J0 ?_;have hM:E.length≤k:=by have ho:¬(k:Int)<(E.length:Int):=hs;omega
   rw[Lm hM,hi] at Y;exact ⟨λ_ h=>(by cases h),My,[],λW' H=>⟨U,.inl ⟨G,Y,ab hn H⟩⟩⟩
  refine Ye ?_;have ha:k<E.length:=by have ho:(k:Int)<(E.length:Int):=hs;omega
  have I:=QdD (rq:=q.c.cel.rq) (rs:=rs) ha;have h3:cget E k∈E:=by rw[←Zi ha];exact Li ha
  refine Zd (cget E k) λv h4=>?_;rw[h4] at I h3;refine Zd (rfr v 0 q.c.cel.rq rs) λj hj=>?_;rw[hj] at I;refine QX<|ZH<|QX<|QJ (by rfl) (by rfl) ?_;refine xic (i:=k) hm O O ha λhR ho=>?_;rw[h4] at ho;refine x (Qx ho O)<|Qe<|QX<|QJ (by rfl) (by rfl) ?_
  refine x (Qd (hu.step V hA) O O)<|x (Qd (h8.step V hB) O O)<|Qb<|xl O<|xf<|(QaC (v:=v) (hS.st V) (hr.st V) hD hv).mono ?_;rintro r3 w3 ⟨h5,hb⟩;rw[hj] at h5;subst h5;refine Qe<|QX<|Ka (by rfl) ?_;refine Xz.pre3 ?_;refine Qb<|xb (ZU O O) (λht=>?_) (λht=>?_)
  ·have hp:0≤j:=ht;have hh:(v,j)∈fl:=by rw[←hi];exact Ud.2 ⟨h3,hp,hj.symm⟩
   rw[if_pos hp] at I;have h6:(G++[(⟨(v,j),hh⟩:{ x:Int×Int // x∈fl })]).map (·.1) <+: fl:=by
    rw[Lt,Y,show [(⟨(v,j),hh⟩:{ x:Int×Int // x∈fl })].map (·.1)=[(v,j)] from rfl,←I,←hi];have h9:=Kj q.c.cel.rq rs (E.drop (k+1)) (E.take (k+1));rw[MC] at h9;exact ⟨_,h9.symm⟩
   have hN:G.length<fl.length:=by have h1:=h6.length_le;rw[Lc,Lh,LA] at h1;omega
   refine Qb<|xe<|Xz.pre3 ?_;refine Qb<|Qb<|Qb<|xe<|xy2 (l:=l) O (hY G ⟨(v,j),hh⟩ w3 (ab hn hb) hN) λen W3 hO=>Or.elim hO (λh1=>⟨.bool true,h1.1,?_⟩) (λh1=>⟨.bool false,h1.1,?_⟩)
   ·refine Xz.of_XL<|x (Zr O)<|x (Qm O)<|xe<|Kc O<|Ye ?_;refine QJ (by rfl) (by rfl) ?_;refine QP O O<|Qb<|xe ?_;exact ⟨(k+1,G++[⟨(v,j),hh⟩]),by simp only[];omega,Z,O,ha,(V.trans hb).lw h1.2.2.lw,(hm.ext hb).cst h1.2.2.cst h1.2.2.lw.size,by simp only[];rw[I,Lt,Y];rfl,h1.2.1⟩
   refine Xz.of_XL<|x (Zr O)<|x (Qm O)<|xe<|yF O ?_;refine JZ ⟨λ_ h=>(by cases h),My,[],λW' H=>⟨U,.inr ⟨G++[⟨(v,j),hh⟩],h6,?_⟩⟩⟩;exact hF _ W3 W' none h1.2 ⟨H.os,H.tape,H.output,H.size,λk hk _=>H.block k hk (by simp)⟩ (λr e=>by cases e)
  have hp:¬0≤j:=ht;rw[if_neg hp,LF] at I;refine Qb<|xe<|Xz.of_XL<|xs O<|xs O<|xs O<|xs O<|xs O<|x (Qm O)<|xe<|Kc O<|Ye ?_;refine QJ (by rfl) (by rfl) ?_;refine QP O O<|Qb<|xe ?_;exact ⟨(k+1,G),by simp only[];omega,Z,O,ha,V.trans hb,hm.ext hb,by simp only[];rw[I,Y],ab hn hb⟩
 refine (callsIn_wide (n:=m)).2 ?_;have ea:(#[.func (.yield l) #[] #[]]++[.pointer (some ⟨S,0,none⟩),.pointer (some ⟨b2,0,none⟩),.pointer (some ⟨T,0,none⟩)].toArray:Array Value)=[.func (.yield l) #[] #[],.pointer (some ⟨S,0,none⟩),.pointer (some ⟨b2,0,none⟩),.pointer (some ⟨T,0,none⟩)].toArray:=by simp
 rw[ea];unfold QK at key;refine Calls.mono key λe w' he=>?_;cases e with
 | returned v=>exact ⟨⟨v,O⟩,he⟩
 | panicked c=>exact he.elim
 | outgrown=>exact he.elim
end Go.Proofs.YtdffckgdcegpaaaGreatDoor
namespace Go.Lg
section
variable {P:Program} {K:Fr→World→Prop} {f:Fr} {w:World} {d:Option Nat} {ty:Nat} {ps:String} {af:Array Edge} {gd:Option (Nat×Bool)}
theorem X3 {t sz:Nat}[h1:Ag P t sz] {x y:Operand}{b T o:Nat}{cs us E:LV}(G:QZ w.heap b T cs) (hx:ev f x=.pointer (some ⟨b,o,none⟩)) (hy:ev f y=.agg us.toArray) (hl:us.length=sz) (J:o+sz≤cs.length) (hu:ZN us) (he:cs.take o++us++cs.drop (o+sz)=E)
  (I:∀w',Step [b] w w'→QZ w'.heap b T E→K (QV f d undef) w'):XO P ⟨d,.store t x y,ty,ps,af,gd⟩ f w K:=by
 have H:=run_storeCells_at P b o T us 0 cs.toArray w G (by simp;omega) hu.all;subst hl;simp only[Nat.add_zero,he] at H;refine xk (w':=w.setRow b E.toArray) ?_ (I _ (Step.setRow _ _ _) (Jg G));simp[execOp,hx,hy,Instr.storeAt,Instr.sureAddr,storeVar,Vv (sz:=us.length),Value.cells,H]
end
end Go.Lg
namespace Go.Proofs.YtdffckgdcegpaaaGreatDoor
open Go.Proofs.Tryz
open Go.Lg
instance:Bw prog 154 [nS,nS,nS,nS,nS,nS,.int .i64 0,nS,nS,nS,nS,.int .i64 0,nS,nS,nS,nS,nS,nS,.map none] [(0,5),(5,4),(9,1),(10,4),(14,1),(15,3),(18,1)]:=⟨by kernel_rfl,by decide⟩
theorem Yf.shape {N:Nat}{H:Array Obj}{aa:List QQ}{v vt:Value}{c:Int}(h:Yf N H aa v vt c):∃(a:QQ) (va vm ve:Value) (qs:List TV),v=.agg #[va,.int .i64 a.st,vm,ve]∧ZN [va,.int .i64 a.st,vm,ve]∧vt.oneCell'=true ∧
  (c=0→sync aa=some (a,qs.map (·.2))∧KK aa=0∧∀L:LN,(∀b∈L,b<N)→Zt L H va vm ve a∧XB L H vt qs):=by
 by_cases hc:c=0
 ·obtain ⟨⟨va,vm,ve,h1,h2⟩,⟨qs,h3,G⟩,h5,J⟩:=h.good hc;have E:=h2 [] (by simp);exact ⟨syA aa,va,vm,ve,qs,h1,⟨E.al.one,O,E.mr.one,E.ed.one,U⟩,(G [] (by simp)).arr.one,λ_=>⟨by rw[h3];exact h5,J,λL I=>⟨h2 L I,G L I⟩⟩⟩
 obtain ⟨h1,h2⟩:=h.bad hc;exact ⟨⟨[],0,[],[]⟩,Zf,Zf,Zf,[],h1,⟨O,O,O,O,U⟩,by rw[h2];rfl,λe=>absurd e hc⟩
def plE (c:Zw):Int:=if Zb c≠0 then Zb c else KO (auts c.co)
theorem zu.shape {N:Nat}{H:Array Obj}{c:Zw}{v vt:Value}{e:Int}(h:zu N H c v vt e):e=plE c∧∃(a:QQ) (va vm ve:Value) (qs:List TV),v=.agg #[va,.int .i64 a.st,vm,ve]∧ZN [va,.int .i64 a.st,vm,ve]∧vt.oneCell'=true ∧
  (e=0→Zb c=0∧sync (auts c.co)=some (a,qs.map (·.2))∧KK (auts c.co)=0∧∀L:LN,(∀b∈L,b<N)→Zt L H va vm ve a∧XB L H vt qs):=by
 unfold zu at h;unfold plE;by_cases hc:Zb c≠0
 ·rw[if_pos hc] at h ⊢;obtain ⟨h1,h2,h3⟩:=h;exact ⟨h1,⟨[],0,[],[]⟩,Zf,Zf,Zf,[],h2,⟨O,O,O,O,U⟩,by rw[h3];rfl,λe=>absurd (h1.symm.trans e) hc⟩
 rw[if_neg hc] at h ⊢;obtain ⟨a,va,vm,ve,qs,h1,h2,h3,E⟩:=h.shape;exact ⟨h.e,a,va,vm,ve,qs,h1,h2,h3,λe=>⟨Ls.1 hc,E e⟩⟩
theorem QgS (c:Zw):Yx c=if plE c≠0 then plE c else KO (auts c.co++auts c.rq):=by
 rw[QgT];unfold plE;by_cases h:Zb c≠0
 ·rw[if_pos h,if_pos h,if_pos h]
 rw[if_neg h,if_neg h]
theorem Qie {L:LN}{H:Array Obj}{ps:List AV}(h:∀p∈ps,Zt L H p.va p.vm p.ve p.a):∀u∈ps.flatMap Zj,u.oneCell'=true:=by
 intro u hu;obtain ⟨p,hp,G⟩:=Mi.1 hu;have E:=h p hp;simp only[List.mem_cons,List.not_mem_nil,or_false] at G;rcases G with rfl | rfl | rfl | rfl
 ·exact E.al.one
 ·rfl
 ·exact E.mr.one
 exact E.ed.one
theorem QjD {F:LN→Array Obj→Prop}(st:∀{L:LN}{w w':World},F L w.heap→Step L w w'→F L w'.heap) (up:∀{L L':LN}{H:Array Obj},F L H→(∀b∈L',b∈L∨H.size≤b)→F L' H) {N b:Nat}{w w':World}
  (h:∀L:LN,(∀x∈L,x<N)→F L w.heap) (hb:b<N) (hs:Step [b] w w'):∀L:LN,(∀x∈L,x<N)→F L w'.heap:=λL E =>
 up (st (h (b::L) (λx hx=>by
  rcases Lb.1 hx with rfl | hx
  ·exact hb
  exact E x hx)) (hs.mono (λx hx=>by simp only[List.mem_singleton] at hx;subst hx;exact Ln))) (λx hx=>.inl (Ll _ hx))
theorem VR.nil (n:Nat):VR n [] []:=λu _ _=>by simp[mget]
set_option maxHeartbeats 8000000 in
theorem j0 {L:LN}{w:World}{c:CL}(h0:ZA L w.heap c) (h6:Kb w 4096) :
  QK prog 70 [c.val] w λr w'=>Step [] w w'∧∃vp,r=.tuple #[vp,.int .i64 (Yx c.cel)]∧(Yx c.cel≠0→vp=.pointer none) ∧
   (Yx c.cel=0→∃b q,vp=.pointer (some ⟨b,0,none⟩)∧q.c=c∧QlI q∧XC [] b w'.heap q∧∀L:LN,(∀x∈L,x<w.heap.size)→Zt L w'.heap q.s.va q.s.vm q.s.ve q.s.a∧(ZA L w.heap c→XC L b w'.heap q)):=by
 have h:=h0.up (L':=[]) (by simp);have hE:=QgS c.cel;refine Zd (Yx c.cel) λE gt=>?_;rw[gt] at hE ⊢;refine QK.of_W func70 O ntmps70 results70 (by simp) ?_;refine Qc<|xl O<|QS (us:=c.cells) O λb1 w1 hO mf h7=>x Qg<|Qe ?_;have mg:=hO.size;have mh:=h7.lt;have mj:=h.ones
 refine Qc<|x (Qr h7 O O)<|x (ZV [(0,c.cells)] ⟨O,O,U⟩)<|xl O<|QS (us:=[c.ve,c.vc,c.vr,c.vx,c.vk,nS,.int .i64 0,nS,nS,nS,nS,.int .i64 0,nS,nS,nS,nS,nS,nS,.map none]) O λG w2 hQ mo I=>Qe ?_;have hg:=hO.trans hQ;have mq:=hg.size;have gu:=I.lt;have hS:=h7.ext hQ;have h2:=h.ext hg;have hge:w.heap.size≤G:=by omega
 have ms:b1≠G:=by omega
 refine Qc<|Qe<|Qf<|Qc<|Qb<|Qb<|x (Qr hS O O)<|xl O<|xf<|(Qgp h2 (h6.ext hg)).mono ?_;rintro r3 w3 ⟨hh,v3,vq,e3,rfl,hP⟩;obtain ⟨h8,pa,pva,pvm,pve,qs,rfl,gv,gw,gx⟩:=hP.shape;have gy:=hg.trans hh;refine Qb<|x (Ql O O)<|x (Ql O O)<|x (Ql O O)<|x (QF O)<|x (Qa O)<|xl O<|X3 (us:=[pva,.int .i64 pa.st,pvm,pve]) (I.ext hh) O O O (by simp) gv rfl λw4 gz I =>
  x (QF rfl)<|x (Qa O)<|xl O<|QE (j:=9) (u:=vq) I O O (by simp) gw λT g0 I=>Qe ?_
 have hi:Step [G] w3 T:=gz.trans' g0;have hj:Step [] w T:=gy.then1 hi hge;refine Qc<|Qb<|x (Q9 O O)<|xe<|Q6 rfl (λhn=>?_) (λhn=>?_)
 ·have g2:plE c.cel≠0:=by rw[←h8];exact hn
  rw[if_pos g2,←h8] at hE;subst hE;refine Qc<|Qb<|x Qg<|Qe ?_;exact Qn ⟨[_,_],⟨O,O,U⟩,hj,.pointer none,O,λ_=>O,λe=>absurd e hn⟩
 have hT:e3=0:=Ls.1 hn;rw[if_neg (by rw[←h8,hT];decide)] at hE;obtain ⟨hU,hA,mt,g3⟩:=gx hT;have Y:=ZR hU;refine Qi ?_;have hB:=(hS.ext hh).step hi (by simp;omega);have h5:=h.ext hj;have mu:=h.co.arr.le;have mv:=h.rq.arr.le;have mw:c.co.length≤8:=by have:=Y.c8;have e:c.cel.co.length=c.co.length:=Lc ..;omega
 have my:c.co.length+c.rq.length≤12:=by have:=Y.cr;have e:c.cel.co.length=c.co.length:=Lc ..;have e':c.cel.rq.length=c.rq.length:=Lc ..;omega
 refine Qf<|Qf<|QW (Step [] T) [(0,true),(1,true),(2,true),(3,true),(5,true),(6,true),(4,false),(7,false),(8,false),(9,false),(10,true),(11,true),(12,true),(13,true),(14,true),(15,true),(16,false),(17,true),(18,true),(19,false),(20,true)] mixed (by rfl) (by kernel_rfl) (Step.drew _ _) ?_
 refine p (λ_=>Qo)<|p (λ_=>Qo)<|p (λ_=>Qa O)<|pq (λ_ hc=>Qd (hB.step hc (by simp)) rfl rfl)<|p (λ_=>Qa rfl) <|
  pq (λ_ hc=>Qd (hB.step hc (by simp)) rfl rfl)<|pk<|xf<|(QaP (h5.co.ext (Step.drew _ _))).mono ?_
 rintro r6 w6 ⟨hV,hW⟩;have hC:=(Step.drew [] T).trans hV;refine ⟨hC,?_⟩;refine pk<|xf<|(QaP (h5.rq.ext hC)).mono ?_;rintro r7 w7 ⟨hD,g4⟩;have hX:=hC.trans hD;refine ⟨hX,?_⟩;have mz:=hV.size;have m0:=hD.size;have m1:({ T with drawn:=T.drawn+1 }:World).heap.size=T.heap.size:=rfl
 have g5:Zp [] w7.heap r7 (c.rq.map (·.p)).length 4 ((c.rq.map (·.p)).flatMap Zj):=QT g4 (by rw[Lc];omega) (by simp);have g6:=Qk hW;refine pk<|zZ (Qq hW hD) O g5 O (Qie λp hp=>by
   obtain ⟨q,hq,rfl⟩:=Lx.1 hp;exact (h.rq.each q hq)) (by rw[Lc,Lc];omega) (by omega) λv8 w8 hY g7 m2=>?_
 have ho:Step [] T w8:=hX.then g7 (λb hb=>.inr (by have:=(g6 b hb).1;omega));refine ⟨ho,?_⟩;have hF:=hj.trans ho;have m3:=ho.size;have g8:Xw [] w8.heap v8 (c.co.map (·.p)++c.rq.map (·.p)):=by
  rw[←Lh,←Ly] at hY;exact Qfj hY (by rw[Lh,Lc,Lc];omega) (by simp) (λp hp=>by
   rcases Lj.1 hp with hp | hp
   ·obtain ⟨q,hq,rfl⟩:=Lx.1 hp;exact (h.co.each q hq).ext hF
   obtain ⟨q,hq,rfl⟩:=Lx.1 hp;exact (h.rq.each q hq).ext hF)
 have g9:∀p∈c.co.map (·.p)++c.rq.map (·.p),Q8 p.a:=λp hp=>by
   rcases Lj.1 hp with hp | hp
   ·obtain ⟨q,hq,rfl⟩:=Lx.1 hp;exact Y.co q.it (LH hq)
   obtain ⟨q,hq,rfl⟩:=Lx.1 hp;exact Y.rq q.it (LH hq)
 refine pk<|xf<|(qj (km:=4096) g8 (h6.ext hF) (by decide) (zX g9)).mono ?_;rintro r9 w9 ⟨ka,v9,vt,e9,rfl,hR⟩;rw[Lt,Qcq,Qif] at hR;have hZ:=hR.e;obtain ⟨sa,sva,svm,sve,ts,rfl,kb,kc,ke⟩:=hR.shape;have hr:=ho.trans ka;refine ⟨hr,?_⟩;refine p (λ_=>Qo)<|p (λ_=>Ql O O)<|p (λ_=>Ql O O)<|p (λ_=>Ql O O)<|p (λ_=>QF O) <|
  p (λ_=>Qa O)<|pkl (hl:=by kernel_rfl)<|X3 (us:=[sva,.int .i64 sa.st,svm,sve]) (I.ext hr) O O O (by simp) kb rfl λm4 kf I=>p (λ_=>QF rfl)<|p (λ_=>Qa rfl) <|
  pkl (hl:=by kernel_rfl)<|QE (j:=14) (u:=vt) I O O (by simp) kc λht kg I=>p (λ_=>Qg)<|pe ?_
 have ga:Step [G] w9 ht:=kf.trans' kg;have hu:Step [G] T ht:=hr.any.trans' ga;have hv:Step [] w ht:=hj.then1 hu hge;refine Qc<|Qb<|x (Q9 O O)<|xe<|Q6 rfl (λhG=>?_) (λhG=>?_)
 ·rw[←hZ] at hE;subst hE;refine Qc<|Qb<|x Qg<|Qe ?_;exact Qn ⟨[_,_],⟨O,O,U⟩,hv,.pointer none,O,λ_=>O,λe=>absurd e hG⟩
 have gb:e9=0:=Ls.1 hG;have gc:E=0:=by rw[hE,←hZ,gb]
 obtain ⟨kh,m5,ki⟩:=ke gb;refine Qi ?_;have kj:=hB.step hu (by simp;omega);refine Qc<|Qb<|Qb<|x (Qr kj O O)<|xl O<|xf<|(zo (h.ext hv)).mono ?_;rintro m6 V ⟨hf,vs,vx,vk,qx,ks,rfl,kk,kn,ge⟩;have hH:=ge [] (by simp)
 refine xl rfl<|Yq Xp λbm ko gg m7 kp=>x (QF O)<|x (Qa O)<|xl O<|X3 (us:=[vs,vx,vk]) ((I.ext hf).ext gg) O O O (by simp) ⟨hH.1.one,hH.2.1.arr.one,hH.2.2.arr.one,U⟩ rfl λm8 gh I =>
  x (QF rfl)<|x (Qa O)<|xl O<|QE (j:=18) (u:=.map (some bm)) I O O (by simp) rfl λhI gi I=>xe ?_
 have m9:=hv.size;have pc:=hf.size;have pd:=hu.size;have pf:=hi.size;have pg:=hh.size;have ph:=hr.size;have pj:G<V.heap.size:=by omega
 have kq:bm≠G:=by omega
 have gj:Step [G] V hI:=(gg.any.trans' gh).trans' gi;have kr:Step [G] ko hI:=gh.trans' gi;have kt:Z4 Xp hI.heap bm []:=kp.step kr (by simpa using kq);have ku:Step [G] w3 V:=(hi.trans' hu).trans hf;have kv:Step [G] w9 V:=ga.trans hf;have kw:=hv.trans hf
 have fP:∀{w':World},Step [G] V w'→∀L:LN,(∀x∈L,x<w2.heap.size)→Zt L w'.heap pva pvm pve pa∧XB L w'.heap vq qs:=λhs =>
  QjD (F:=λL H=>Zt L H pva pvm pve pa∧XB L H vq qs) (λh hs=>⟨h.1.st hs,h.2.st hs⟩) (λh J=>⟨h.1.up J,h.2.up J⟩) g3 gu (ku.trans' hs)
 have fS:∀{w':World},Step [G] V w'→∀L:LN,(∀x∈L,x<w8.heap.size)→Zt L w'.heap sva svm sve sa∧XB L w'.heap vt ts:=λhs =>
  QjD (F:=λL H=>Zt L H sva svm sve sa∧XB L H vt ts) (λh hs=>⟨h.1.st hs,h.2.st hs⟩) (λh J=>⟨h.1.up J,h.2.up J⟩) ki (by omega) (kv.trans' hs)
 have fC:∀{w':World},Step [G] V w'→∀L:LN,(∀x∈L,x<ht.heap.size)→QL L w'.heap vs (szs c.cel.co)∧qy L w'.heap vx qx∧qm L w'.heap vk ks:=λhs =>
  QjD (F:=λL H=>QL L H vs (szs c.cel.co)∧qy L H vx qx∧qm L H vk ks) (λh hs=>⟨h.1.st hs,h.2.1.st hs,h.2.2.st hs⟩) (λh J=>⟨h.1.up J,h.2.1.up J,h.2.2.up J⟩) ge (by omega) hs
 have gk:=(Uf (Yk Y.co) hA).1;have kx:=(Xk (Yk Y.co) hA).1.nd;simp only[] at gk;have ky:(auts c.cel.co).length=c.co.length:=by unfold auts;show ((c.co.map IV.it).map _).length=_;simp
 have gl:=(fP gj [] (by simp)).2;have pm:=gl.arr.le;refine Qf<|Qc<|Qb<|x (QF O)<|x (Qa O)<|x (Qd I O O)<|x (Qs gl.arr O)<|Qb<|xe ?_
 refine Qh<|QB (α:=Nat×List (ByteArray×Value)) [(6,7),(61,73)] (λz=>[(61,.int .i64 z.1)]) (λz w'=>z.1≤qs.length∧Step [G] V w'∧QZ w'.heap G 154 [c.ve,c.vc,c.vr,c.vx,c.vk,pva,.int .i64 pa.st,pvm,pve,vq,sva,.int .i64 sa.st,svm,sve,vt,vs,vx,vk,.map (some bm)]∧Z4 Xp w'.heap bm z.2∧VR c.co.length z.2 ((qs.take z.1).map (·.2))) (λz=>qs.length - z.1) (by rfl) (0,[]) Z
  ⟨Lk _,gj,I,kt,VR.nil _⟩ ?_
 rintro ⟨k,mm⟩ g hJ ⟨hk,S,hw,hy,hz⟩;simp only[] at hk hy hz;have h3:Step [] w hJ:=kw.then1 S hge;refine Qc<|x (QA O O)<|xe<|Qf<|QG O (λhK=>?_) (λhK=>?_)
 ·refine Qz ?_;have kz:qs.length≤k:=by have k0:¬(k:Int)<(qs.length:Int):=hK;omega
  rw[Lm kz] at hz;refine Qc<|Qb<|x Qg<|Qe ?_;have aP:=fP S [] (by simp);have aS:=fS S [] (by simp);have aC:=fC S [] (by simp)
  refine Qn ⟨[_,_],⟨O,O,U⟩,h3,.pointer (some ⟨G,0,none⟩),by rw[gc];rfl,λe=>absurd gc e,λ_=>⟨G,⟨c,⟨pva,pvm,pve,pa⟩,vq,qs,⟨sva,svm,sve,sa⟩,vt,ts,vs,vx,vk,qx,ks,bm,mm⟩,O,O,⟨hU,hA,kh,kk,kn,hz⟩,⟨hw,by simp,h.ext h3,aP.1,aS.1,aP.2,aS.2,aC.1,aC.2.1,aC.2.2,by simp,hy⟩,λL J=>?_⟩⟩;have bP:=fP S L (λb hb=>by have:=J b hb;omega);have bS:=fS S L (λb hb=>by have:=J b hb;omega)
  have bC:=fC S L (λb hb=>by have:=J b hb;omega);exact ⟨bS.1,λk4=>⟨hw,λhm=>by have:=J _ hm;omega,k4.ext h3,bP.1,bS.1,bP.2,bS.2,bC.1,bC.2.1,bC.2.2,λhm=>by have h9:bm<w.heap.size:=J bm hm;omega,hy⟩⟩
 have he:k<qs.length:=by have k0:(k:Int)<(qs.length:Int):=hK;omega
 have gm:=(fP S [] (by simp)).2;have hM:=Li he;have hN:(qs.take (k+1)).map (·.2)=(qs.take k).map (·.2)++[(qs[k]'he).2]:=by rw[Le he,Lt];rfl
 have gn:(qs[k]'he).2∉(qs.take k).map (·.2):=by
  have h1:((qs.take (k+1)).map (·.2)).Nodup:=by
   rw[List.map_take];exact kx.sublist (List.take_sublist _ _)
  rw[hN] at h1;intro hm;exact (MP.1 h1).2.2 _ hm _ (La.2 O) O
 have k5:((qs.take k).map (·.2)).length=k:=by rw[Lc,Lv];omega
 refine Qi<|Qf<|Qh<|Qc<|Qb<|xig (g:=Z8) Kn gm.arr O O he λpn go=>?_;refine Zd (qs[k]'he) λq hq=>?_;rw[hq] at go hM hN gn;have k6:=gm.each q hM;have gp:=gk q.2 (LH hM);have gq:=gp.bd (m:=4096) (λa ha=>(Yk Y.co a ha).st1);have po:q.2.length=c.co.length:=by rw[gp.1,ky]
 refine x (Qx go O)<|x Qg<|Qe<|QW (Step [] hJ) [(0,true),(1,true),(2,true),(3,true),(4,true),(6,true),(5,false),(7,false)] mixed (by rfl) (by kernel_rfl) (Step.drew _ _) ?_;refine p (λ_=>Qo)<|p (λ_=>QF O)<|p (λ_=>Qa O)<|pq (λ_ hc=>Qd (hw.step hc (by simp)) rfl rfl) <|
  p (λ_=>Qo)<|p (λ_=>Qo)<|pk<|xf<|(yD (k6.ext (Step.drew _ _)) ((h6.ext h3).ext (Step.drew _ _)) gq (by omega)).mono ?_
 rintro pp pt ⟨rfl,k7⟩;have h4:=(Step.drew [] hJ).trans k7;refine ⟨h4,?_⟩;refine pkl (hl:=by kernel_rfl)<|Xn (k:=Jz q.2) (hy.ext h4) O O λk8 gr k9=>pe ?_;have pu:=S.size;have ma:Step [G] V k8:=(S.trans h4).then1 gr (by omega);have mc:=(hw.ext h4).step gr (by simp;omega);have gs:=hz.add gn (λx hx=>(gq x hx).1);rw[k5] at gs
 refine Qy<|QP O O<|Qb<|xe ?_;exact ⟨(k+1,mput mm (Jz q.2) (.int .i64 (k:Int))),by simp only[];omega,Z,he,ma,mc,k9,by simp only[];rw[hN];exact gs⟩
def Vp (lo hi:Nat) (ds:LN) (W:World):Prop:=ds.Nodup∧∀D∈ds,lo≤D∧D<hi∧W.heap[D]?=some (.deferred (some []))
theorem Vp.step {lo hi:Nat}{ds:LN}{W W':World}{X:LN}(h:Vp lo hi ds W) (hs:Step X W W') (G:∀b∈X,∃o:Obj,W.heap[b]?=some o∧o.isCells=true):Vp lo hi ds W':=by
 refine ⟨h.1,λD hD=>⟨(h.2 D hD).1,(h.2 D hD).2.1,?_⟩⟩;have h3:=(h.2 D hD).2.2;refine (hs.block D (LC.1 h3).1 (λhx=>?_)).trans h3;obtain ⟨o,E,h5⟩:=G D hx;rw[h3] at E;cases E;cases h5
theorem Vp.ext {lo hi:Nat}{ds:LN}{W W':World}(h:Vp lo hi ds W) (hs:Step [] W W'):Vp lo hi ds W':=h.step hs (λ_ hb=>by cases hb)
theorem Vp.blk {lo hi:Nat}{ds:LN}{W W':World}{b T:Nat}{cs:LV}(h:Vp lo hi ds W) (hs:Step [b] W W') (hb:QZ W.heap b T cs):Vp lo hi ds W' :=
 h.step hs (λc hc=>by
  have e:c=b:=by simpa using hc
  subst e;exact hb.cells)
theorem Vp.up {lo hi E:Nat}{ds:LN}{W:World}(h:Vp lo hi ds W) (G:hi≤E):Vp lo E ds W:=⟨h.1,λD hD=>⟨(h.2 D hD).1,by have:=(h.2 D hD).2.1;omega,(h.2 D hD).2.2⟩⟩
theorem Vp.cons {lo hi:Nat}{ds:LN}{W:World}{D:Nat}(h:Vp lo hi ds W) (hl:lo≤hi) (hD:hi≤D) (hd:W.heap[D]?=some (.deferred (some []))):Vp lo W.heap.size (D::ds) W:=by
 have G:=(LC.1 hd).1;refine ⟨List.nodup_cons.2 ⟨λhm=>by have:=(h.2 D hm).2.1;omega,h.1⟩,λE hE=>?_⟩;rcases Lb.1 hE with rfl | hE
 ·exact ⟨by omega,G,hd⟩
 have:=h.2 E hE;exact ⟨this.1,(LC.1 this.2.2).1,this.2.2⟩
theorem Vp.stb {lo hi B:Nat}{ds:LN}(G:hi≤B):ZY B (λW=>Vp lo hi ds W):=λW W' X h hs E=>by
 refine ⟨h.1,λD hD=>⟨(h.2 D hD).1,(h.2 D hD).2.1,?_⟩⟩;have h3:=(h.2 D hD).2.2;refine (hs.block D (LC.1 h3).1 (λhx=>?_)).trans h3;have:=(E D hx).1;have:=(h.2 D hD).2.1;omega
end Go.Proofs.YtdffckgdcegpaaaGreatDoor
namespace Go.Lg
theorem Ul {W W':World}{base e sz n:Nat}{v:Value}{cs:LV}(h:W.ownsRow base e sz v n cs) (hc:Xv [] W W'):W'.ownsRow base e sz v n cs :=
 ⟨h.1,h.2.imp id λ⟨g,cap,cur,h1,h2,h3,E⟩=>⟨g,cap,cur,h1,h2,hc g _ (by simp) h3 rfl,E⟩⟩
theorem Xv.mono {L L':LN}{W W':World}(h:Xv L W W') (E:∀b∈L,b∈L'):Xv L' W W':=λk o G=>h k o (λhm=>G (E k hm))
theorem Xv.nonc {X:LN}{W W':World}(hs:Step X W W') (E:∀r∈X,∃o:Obj,W.heap[r]?=some o∧o.isCells=false):Xv [] W W':=λk o _ hk hc =>
 (hs.block k (LC.1 hk).1 (λhx=>by
  obtain ⟨G,h1,h2⟩:=E k hx;rw[hk] at h1;cases h1;rw[hc] at h2;cases h2)).trans hk
theorem ZY.cst {B:Nat}{I:World→Prop}(h:∀W W',I W→Xv [] W W'→W.heap.size≤W'.heap.size→I W'):ZY B I:=λW W' _ hi hs E=>h W W' hi (Xv.nonc hs (λr G=>(E r G).2)) hs.size
end Go.Lg
namespace Go.Proofs.YtdffckgdcegpaaaGreatDoor
open Go.Lg
theorem ZL.cst {base:Nat}{av:LN}{W W':World}{v:Value}{n sz:Nat}{cs:LV}(h:ZL base av W.heap v n sz cs) (hc:Lg.Xv [] W W') (E:W.heap.size≤W'.heap.size):ZL base av W'.heap v n sz cs:=λL G=>(h L G).cst (hc.mono (by simp)) E
abbrev ZB (r:Rsn):LV:=[.int .i64 r.st,.int .i64 r.kd,.int .i64 r.ix,.int .i64 r.ev]
theorem Qeg (r:Rsn):(ZB r).length=4:=rfl
structure Je (base:Nat) (w:World) (v1 v2 v3 v4:Value) (cos rqs:List TV) (pls:LI) (fbs:List Rsn):Prop where
 o1:w.ownsRow base 37 1 v1 cos.length (cos.flatMap Z8)
 o2:w.ownsRow base 37 1 v2 rqs.length (rqs.flatMap Z8)
 o3:Qu 3 base w v3 pls
 o4:w.ownsRow base 83 4 v4 fbs.length (fbs.flatMap ZB)
 d12:Dj v1 v2
 d13:Dj v1 v3
 d14:Dj v1 v4
 d23:Dj v2 v3
 d24:Dj v2 v4
 d34:Dj v3 v4
 e1:∀p∈cos,ZL base (ob v1++(ob v2++(ob v3++ob v4))) w.heap p.1 p.2.length 1 (p.2.map (.int .i64))
 e2:∀p∈rqs,ZL base (ob v1++(ob v2++(ob v3++ob v4))) w.heap p.1 p.2.length 1 (p.2.map (.int .i64))
theorem VK {v:Value}:Dj (nS) v:=λb hb=>by simp[ob] at hb
theorem Je.nil (base:Nat) (w:World):Je base w (nS) (nS) (nS) (nS) [] [] [] [] :=
 ⟨QN _ _ _ _,QN _ _ _ _,QN _ _ _ _,QN _ _ _ _,VK,VK,VK,VK,VK,VK,λp hp=>(by cases hp),λp hp=>(by cases hp)⟩
variable {base:Nat} {w w7 w8:World} {v1 v2 v3 v4 v':Value} {cos rqs:List TV} {pls:LI} {fbs:List Rsn}
theorem Je.ext (h:Je base w v1 v2 v3 v4 cos rqs pls fbs) (hs:Step [] w w7):Je base w7 v1 v2 v3 v4 cos rqs pls fbs :=
 ⟨Qq h.o1 hs,Qq h.o2 hs,Qq h.o3 hs,Qq h.o4 hs,h.d12,h.d13,h.d14,h.d23,h.d24,h.d34,λp hp=>(h.e1 p hp).ext hs,λp hp=>(h.e2 p hp).ext hs⟩
theorem Je.low {X:LN}(h:Je base w v1 v2 v3 v4 cos rqs pls fbs) (hs:Step X w w7) (E:∀b∈X,b<base):Je base w7 v1 v2 v3 v4 cos rqs pls fbs:=by
 have k:∀{e sz n:Nat} {v:Value} {cs:LV},w.ownsRow base e sz v n cs→w7.ownsRow base e sz v n cs:=λo=>Qj o hs (λb hb hm=>by have:=(Qk o b hb).1;have:=E b hm;omega);exact ⟨k h.o1,k h.o2,k h.o3,k h.o4,h.d12,h.d13,h.d14,h.d23,h.d24,h.d34,λp hp=>(h.e1 p hp).low hs E,λp hp=>(h.e2 p hp).low hs E⟩
theorem Je.cst (h:Je base w v1 v2 v3 v4 cos rqs pls fbs) (hc:Lg.Xv [] w w7) (E:w.heap.size≤w7.heap.size):Je base w7 v1 v2 v3 v4 cos rqs pls fbs :=
 ⟨Ul h.o1 hc,Ul h.o2 hc,Ul h.o3 hc,Ul h.o4 hc,h.d12,h.d13,h.d14,h.d23,h.d24,h.d34,λp hp=>(h.e1 p hp).cst hc E,λp hp=>(h.e2 p hp).cst hc E⟩
theorem VL {a b E:Value}{n:Nat}(h:Dj a b) (G:∀x∈ob E,x∈ob a∨n≤x) (hb:∀x∈ob b,x<n):Dj E b:=λx hx hm=>by
 rcases G x hx with h1 | h1
 ·exact h x h1 hm
 have:=hb x hm;omega
theorem J9 {a b b':Value}{n:Nat}(h:Dj a b) (E:∀x∈ob b',x∈ob b∨n≤x) (ha:∀x∈ob a,x<n):Dj a b':=λx hx hm=>by
 rcases E x hm with h1 | h1
 ·exact h x hx h1
 have:=ha x hx;omega
theorem Je.lt (h:Je base w v1 v2 v3 v4 cos rqs pls fbs):(∀x∈ob v1,x<w.heap.size)∧(∀x∈ob v2,x<w.heap.size)∧(∀x∈ob v3,x<w.heap.size)∧∀x∈ob v4,x<w.heap.size:=⟨QR h.o1,QR h.o2,QR h.o3,QR h.o4⟩
theorem jq {a b c d:LN}{x:Nat}(h:x∈a++(b++(c++d))):x∈a∨x∈b∨x∈c∨x∈d:=by simpa using h
theorem UV {a b c d:LN}{x:Nat}(h:x∈a∨x∈b∨x∈c∨x∈d):x∈a++(b++(c++d)):=by simpa using h
theorem Je.a1 {N e:Nat}{q:TV}(h:Je base w v1 v2 v3 v4 cos rqs pls fbs) (hs:Step [] w w7) (hq:w7.ownsRow N e 1 q.1 q.2.length (q.2.map (.int .i64))) (I:q.2.length≤1099511627776) (S:w.heap.size≤N) (hb:base≤w.heap.size) (J:w8.ownsRow base 37 1 v' (cos.length+1) (cos.flatMap Z8++Z8 q))
  (G:Step (ob v1) w7 w8) (H:∀b∈ob v',b∈ob v1∨w7.heap.size≤b):Je base w8 v' v2 v3 v4 (cos++[q]) rqs pls fbs:=by
 have l:=h.lt;have T:=hs.size;have E:=h.ext hs;have av:∀b∈ob v'++(ob v2++(ob v3++ob v4)),b∈ob v1++(ob v2++(ob v3++ob v4))∨w7.heap.size≤b:=by
  intro b hb;rcases jq hb with h1 | h1 | h1 | h1
  ·rcases H b h1 with h2 | h2
   ·exact .inl (UV (.inl h2))
   exact .inr h2
  ·exact .inl (UV (.inr (.inl h1)))
  ·exact .inl (UV (.inr (.inr (.inl h1))))
  exact .inl (UV (.inr (.inr (.inr h1))))
 have st:Step (ob v1++(ob v2++(ob v3++ob v4))) w7 w8:=G.mono (λb hb=>UV (.inl hb));have g:∀{v:Value} {n sz:Nat} {cs:LV},ZL base (ob v1++(ob v2++(ob v3++ob v4))) w7.heap v n sz cs→ZL base (ob v'++(ob v2++(ob v3++ob v4))) w8.heap v n sz cs:=λa=>a.app st av
 refine ⟨by rw[Lh,Ly];simpa using J,Qj E.o2 G (λb hb hm=>h.d12 b hm hb),Qj E.o3 G (λb hb hm=>h.d13 b hm hb),Qj E.o4 G (λb hb hm=>h.d14 b hm hb),VL h.d12 H (λx hx=>by have:=l.2.1 x hx;omega),VL h.d13 H (λx hx=>by have:=l.2.2.1 x hx;omega),VL h.d14 H (λx hx=>by have:=l.2.2.2 x hx;omega),h.d23,h.d24,h.d34,?_,?_⟩
 ·exact λp hp=>by
   rcases Lj.1 hp with hp | hp
   ·exact g (E.e1 p hp)
   simp only[List.mem_singleton] at hp;subst hp;exact g (ZL.of_own hq I (by omega) (λb hb=>by
   rcases jq hb with h1 | h1 | h1 | h1
   ·have:=l.1 b h1;omega
   ·have:=l.2.1 b h1;omega
   ·have:=l.2.2.1 b h1;omega
   have:=l.2.2.2 b h1;omega))
 exact λp hp=>g (E.e2 p hp)
theorem Je.a2 {N e:Nat}{q:TV}(h:Je base w v1 v2 v3 v4 cos rqs pls fbs) (hs:Step [] w w7) (hq:w7.ownsRow N e 1 q.1 q.2.length (q.2.map (.int .i64))) (I:q.2.length≤1099511627776) (S:w.heap.size≤N) (hb:base≤w.heap.size) (J:w8.ownsRow base 37 1 v' (rqs.length+1) (rqs.flatMap Z8++Z8 q))
  (G:Step (ob v2) w7 w8) (H:∀b∈ob v',b∈ob v2∨w7.heap.size≤b):Je base w8 v1 v' v3 v4 cos (rqs++[q]) pls fbs:=by
 have l:=h.lt;have T:=hs.size;have E:=h.ext hs;have av:∀b∈ob v1++(ob v'++(ob v3++ob v4)),b∈ob v1++(ob v2++(ob v3++ob v4))∨w7.heap.size≤b:=by
  intro b hb;rcases jq hb with h1 | h1 | h1 | h1
  ·exact .inl (UV (.inl h1))
  ·rcases H b h1 with h2 | h2
   ·exact .inl (UV (.inr (.inl h2)))
   exact .inr h2
  ·exact .inl (UV (.inr (.inr (.inl h1))))
  exact .inl (UV (.inr (.inr (.inr h1))))
 have st:Step (ob v1++(ob v2++(ob v3++ob v4))) w7 w8:=G.mono (λb hb=>UV (.inr (.inl hb)));have g:∀{v:Value} {n sz:Nat} {cs:LV},ZL base (ob v1++(ob v2++(ob v3++ob v4))) w7.heap v n sz cs→ZL base (ob v1++(ob v'++(ob v3++ob v4))) w8.heap v n sz cs:=λa=>a.app st av
 refine ⟨Qj E.o1 G (λb hb hm=>h.d12 b hb hm),by rw[Lh,Ly];simpa using J,Qj E.o3 G (λb hb hm=>h.d23 b hm hb),Qj E.o4 G (λb hb hm=>h.d24 b hm hb),J9 h.d12 H (λx hx=>by have:=l.1 x hx;omega),h.d13,h.d14,VL h.d23 H (λx hx=>by have:=l.2.2.1 x hx;omega),VL h.d24 H (λx hx=>by have:=l.2.2.2 x hx;omega),h.d34,?_,?_⟩
 ·exact λp hp=>g (E.e1 p hp)
 exact λp hp=>by
  rcases Lj.1 hp with hp | hp
  ·exact g (E.e2 p hp)
  simp only[List.mem_singleton] at hp;subst hp;exact g (ZL.of_own hq I (by omega) (λb hb=>by
  rcases jq hb with h1 | h1 | h1 | h1
  ·have:=l.1 b h1;omega
  ·have:=l.2.1 b h1;omega
  ·have:=l.2.2.1 b h1;omega
  have:=l.2.2.2 b h1;omega))
theorem Je.a3 {q:Int}(h:Je base w v1 v2 v3 v4 cos rqs pls fbs) (hs:Step [] w w7) (I:w8.ownsRow base 3 1 v' (pls.length+1) (pls.map (.int .i64)++[.int .i64 q]))
  (G:Step (ob v3) w7 w8) (H:∀b∈ob v',b∈ob v3∨w7.heap.size≤b):Je base w8 v1 v2 v' v4 cos rqs (pls++[q]) fbs:=by
 have l:=h.lt;have J:=hs.size;have E:=h.ext hs;have av:∀b∈ob v1++(ob v2++(ob v'++ob v4)),b∈ob v1++(ob v2++(ob v3++ob v4))∨w7.heap.size≤b:=by
  intro b hb;rcases jq hb with h1 | h1 | h1 | h1
  ·exact .inl (UV (.inl h1))
  ·exact .inl (UV (.inr (.inl h1)))
  ·rcases H b h1 with h2 | h2
   ·exact .inl (UV (.inr (.inr (.inl h2))))
   exact .inr h2
  exact .inl (UV (.inr (.inr (.inr h1))))
 have st:Step (ob v1++(ob v2++(ob v3++ob v4))) w7 w8:=G.mono (λb hb=>UV (.inr (.inr (.inl hb))));have g:∀{v:Value} {n sz:Nat} {cs:LV},ZL base (ob v1++(ob v2++(ob v3++ob v4))) w7.heap v n sz cs→ZL base (ob v1++(ob v2++(ob v'++ob v4))) w8.heap v n sz cs:=λa=>a.app st av
 refine ⟨Qj E.o1 G (λb hb hm=>h.d13 b hb hm),Qj E.o2 G (λb hb hm=>h.d23 b hb hm),Qu.snoc I,Qj E.o4 G (λb hb hm=>h.d34 b hm hb),h.d12,J9 h.d13 H (λx hx=>by have:=l.1 x hx;omega),h.d14,J9 h.d23 H (λx hx=>by have:=l.2.1 x hx;omega),h.d24,VL h.d34 H (λx hx=>by have:=l.2.2.2 x hx;omega),?_,?_⟩
 ·exact λp hp=>g (E.e1 p hp)
 exact λp hp=>g (E.e2 p hp)
theorem Je.a4 {q:Rsn}(h:Je base w v1 v2 v3 v4 cos rqs pls fbs) (hs:Step [] w w7) (I:w8.ownsRow base 83 4 v' (fbs.length+1) (fbs.flatMap ZB++ZB q))
  (G:Step (ob v4) w7 w8) (H:∀b∈ob v',b∈ob v4∨w7.heap.size≤b):Je base w8 v1 v2 v3 v' cos rqs pls (fbs++[q]):=by
 have l:=h.lt;have J:=hs.size;have E:=h.ext hs;have av:∀b∈ob v1++(ob v2++(ob v3++ob v')),b∈ob v1++(ob v2++(ob v3++ob v4))∨w7.heap.size≤b:=by
  intro b hb;rcases jq hb with h1 | h1 | h1 | h1
  ·exact .inl (UV (.inl h1))
  ·exact .inl (UV (.inr (.inl h1)))
  ·exact .inl (UV (.inr (.inr (.inl h1))))
  rcases H b h1 with h2 | h2
  ·exact .inl (UV (.inr (.inr (.inr h2))))
  exact .inr h2
 have st:Step (ob v1++(ob v2++(ob v3++ob v4))) w7 w8:=G.mono (λb hb=>UV (.inr (.inr (.inr hb))));have g:∀{v:Value} {n sz:Nat} {cs:LV},ZL base (ob v1++(ob v2++(ob v3++ob v4))) w7.heap v n sz cs→ZL base (ob v1++(ob v2++(ob v3++ob v'))) w8.heap v n sz cs:=λa=>a.app st av
 refine ⟨Qj E.o1 G (λb hb hm=>h.d14 b hb hm),Qj E.o2 G (λb hb hm=>h.d24 b hb hm),Qj E.o3 G (λb hb hm=>h.d34 b hb hm),by rw[Lh,Ly];simpa using I,h.d12,h.d13,J9 h.d14 H (λx hx=>by have:=l.1 x hx;omega),h.d23,J9 h.d24 H (λx hx=>by have:=l.2.1 x hx;omega),J9 h.d34 H (λx hx=>by have:=l.2.2.1 x hx;omega),?_,?_⟩
 ·exact λp hp=>g (E.e1 p hp)
 exact λp hp=>g (E.e2 p hp)
theorem qS (c:Zw) (pl:QQ) (ps:List (LI)):∀(l:List (LI)) (i:Nat) (s:Spc),(l.zipIdx i).foldl (QiQ c pl ps) s =
  ⟨s.a,s.co++l.map (·.take c.co.length),s.rq++l.map (·.drop c.co.length),s.pl++l.map (λt=>plx ps (t.take c.co.length)),s.fb++(l.zipIdx i).filterMap (λp=>rsn c pl (plx ps (p.1.take c.co.length)) p.2 p.1)⟩
 | [],i,s=>by simp
 | t::l,i,s=>by
  rw[Nk,LJ,qS c pl ps l (i+1)];unfold QiQ;simp only[List.map_cons,List.append_assoc,List.cons_append,List.nil_append,List.filterMap_cons];cases rsn c pl (plx ps (t.take c.co.length)) i t with
  | none=>rfl
  | some r=>simp
theorem UD {c:Zw}{rs:LI}:∀{l:LI},(∀x∈wrf c.rq rs l,(c.ev.getD x.1.toNat ⟨.empty,false,false,false,0⟩).co=true)→rfd c rs l=none
 | [],_=>rfl
 | v::l,h=>by
  rw[wrf] at h;rw[rfd];by_cases h1:0≤rfr v 0 c.rq rs
  ·rw[if_pos h1] at h;have h2:=h _ Ln;simp only[] at h2;rw[if_neg (λe=>by rw[h2] at e;cases e.2)];exact UD λx hx=>h x (Ll _ hx)
  rw[if_neg h1] at h;rw[if_neg (λe=>h1 e.1)];exact UD h
theorem UC {c:Zw}{rs:LI}{x:Int×Int}{t:List (Int×Int)}:∀{l:LI}{p:List (Int×Int)},wrf c.rq rs l=p++x::t→(∀y∈p,(c.ev.getD y.1.toNat ⟨.empty,false,false,false,0⟩).co=true)→(c.ev.getD x.1.toNat ⟨.empty,false,false,false,0⟩).co=false→rfd c rs l=some (x.2,x.1)
 | [],p,h,_,_=>by simp[wrf] at h
 | v::l,p,h,hp,hx=>by
  rw[wrf] at h;rw[rfd];by_cases h1:0≤rfr v 0 c.rq rs
  ·rw[if_pos h1] at h;cases p with
   | nil =>
    simp only[List.nil_append,List.cons.injEq] at h;obtain ⟨h2,_⟩:=h;subst h2;rw[if_pos ⟨h1,hx⟩]
   | cons y p =>
    simp only[List.cons_append,List.cons.injEq] at h;obtain ⟨h2,h3⟩:=h;have E:=hp y Ln;subst h2;rw[if_neg (λe=>by simp only[] at E;rw[E] at e;cases e.2)];exact UC h3 (λy hy=>hp y (Ll _ hy)) hx
  rw[if_neg h1] at h;rw[if_neg (λe=>h1 e.1)];exact UC h hp hx
theorem QdH (c:Zw) (t:LI):vio c t=if (KM c.ex c.cs t).2.2=true then some ((KM c.ex c.cs t).1,(KM c.ex c.cs t).2.1) else none:=by
 unfold vio KM;by_cases h1:0≤fix (Kl t) 0 c.ex
 ·rw[if_pos h1,if_pos h1];rfl
 rw[if_neg h1,if_neg h1];by_cases h2:0≤fix (Vr t) 0 c.cs
 ·rw[if_pos h2,if_pos h2];rfl
 rw[if_neg h2,if_neg h2];rfl
def QlK (N:Nat) (H:Array Obj) (v:Value) (s:Spc):Prop:=∃va vm ve v1 v2 v3 v4 cos rqs,v=.agg #[va,.int .i64 s.a.st,vm,ve,v1,v2,v3,v4]∧cos.map (·.2)=s.co∧rqs.map (·.2)=s.rq ∧
 ∀L:LN,(∀b∈L,b<N)→Zt L H va vm ve s.a∧XB L H v1 cos∧XB L H v2 rqs∧QL L H v3 s.pl∧Zp L H v4 s.fb.length 4 (s.fb.flatMap ZB)
end Go.Proofs.YtdffckgdcegpaaaGreatDoor
namespace Go.Lg
open Go.RowKit
def sl (d:Option Nat) (f:Fr):Value:=match d with | some d=>f d | none=>undef
def ow:Value→LN
 | .slice (some a) _ _=>[a.block]
 | .pointer (some a)=>[a.block]
 | .map (some b)=>[b]
 | _=>[]
section
variable {P:Program} {n:Nat} {f:Fr} {w:World} {all:List Oper} {C:World→Prop} {K:Fr→World→Prop}
theorem Va {o:Oper}(h:o.guard=none):Yh all f o=true:=by unfold Yh;rw[h]
end
def UZ (all:Array Oper) (i:Nat) (rest:List (Nat×Bool)):List (Nat×Bool)→Array Bool→Bool
 | [],ls=>Region.ready .any all ls == [i] && Y8 all rest (ls.setIfInBounds i true)
 | (j,true)::l,ls=>(Region.ready .any all ls).contains j && Region.free .any all ls j && UZ all i rest l (ls.setIfInBounds j true)
 | (j,false)::l,ls=>!(Region.ready .any all ls).isEmpty && (Region.ready .any all ls).all (λk=>k == j || k == i) && Y8 all ((j,false)::(l++rest)) (ls.setIfInBounds i true) && UZ all i rest l (ls.setIfInBounds j true)
def Yb (all:List Oper) (d:Nat) (l:List (Nat×Bool)):Bool:=l.all λp=>!((Q4 all p.1).looksAt all.toArray).contains d && !((Q4 all p.1).dst == some d)
def Qft (all:List Oper) (pre l:List (Nat×Bool)) (i:Nat) (rest:List (Nat×Bool)):Bool :=
 Region.noSelect all.toArray && (pre.length+(l.length+1+rest.length) == all.length) && J1 all.toArray pre (Array.replicate all.length false) && UZ all.toArray i rest l (Z0 pre (Array.replicate all.length false))
  && (Q4 all i).guard.isNone && (match (Q4 all i).dst with | some d=>Yb all d l | none=>false)
def XF (P:Program) (all:List Oper) (C:World→Prop) (K:Fr→World→Prop):List (Nat×Bool)→LN→Fr→World→Prop
 | [],_,f,w=>K f w
 | (j,true)::l,own,f,w=>Yh all f (Q4 all j)=true∧∃v,(∀w',(qw (Q4 all j)=true→C w')→(execOp (ev f) (Q4 all j)).run P w'=.ok (.value v) w')∧XF P all C K l own (QV f (Q4 all j).dst v) w
 | (j,false)::l,own,f,w=>Yh all f (Q4 all j)=true∧∀w1,Step [] w w1→C w1→XO P (Q4 all j) f w1 λE w'=>C w'∧∃own',Step own w1 w'∧(∀b∈own',b∈own∨(w1.heap.size≤b∧b<w'.heap.size))∧XF P all C K l own' E w'
section
variable {P:Program} {n:Nat} {f:Fr} {w:World} {all:List Oper} {C:World→Prop} {K KF:Fr→World→Prop}
theorem XF.ext (E:∀f w w',KF f w→Step [] w w'→KF f w'):∀{l:List (Nat×Bool)}{own:LN}{f:Fr}{w w':World},XF P all C KF l own f w→Step [] w w'→XF P all C KF l own f w'
 | [],_,_,_,_,h,hs=>E _ _ _ h hs
 | (_,true)::_,_,_,_,_,h,hs=>by
  obtain ⟨G,v,H,hx⟩:=h;exact ⟨G,v,H,XF.ext E hx hs⟩
 | (_,false)::_,_,_,_,_,h,hs=>⟨h.1,λI h1 hc=>h.2 I (hs.trans h1) hc⟩
attribute [local semireducible] XO in
theorem Qcs {o:Oper}(hs:∀cs b,o.op≠.select cs b) {d:Nat}{v:Value}{K':Fr→World→Prop}(h1:d∉o.looksAt all.toArray) (h2:o.dst≠some d) (E:∀u w',K (QV f o.dst u) w'→K' (QV (QV f o.dst u) (some d) v) w')
  (h:XO P o f w K):XO P o (QV f (some d) v) w K':=by
 have hc:∀u,QV (QV f (some d) v) o.dst u=QV (QV f o.dst u) (some d) v:=λu=>J2 f v u (λe he=>by cases he;exact h2);unfold XO at *;rw[Y3 (all:=all) hs f (some d) v (λe he=>by cases he;exact h1)];generalize (execOp (ev f) o).run P w=r at *;cases r with
 | ok nx w' =>
  cases nx <;> simp only[upF] at h ⊢
  case value u=>rw[hc];exact E u w' h
  case skip=>rw[hc];exact E _ w' h
  case enter g args =>
   refine Calls.mono h λe G he=>?_;cases e with
   | returned u=>simp only at he ⊢;rw[hc];exact E u G he
   | panicked c=>exact he.elim
   | outgrown=>exact he.elim
 | halt x w'=>exact h.elim
theorem JN {D:List (Nat×Nat)}{f f0:Fr}{dst:Option Nat}{v:Value}(hd:inD D dst=true) (h:∀t,Xo D t=false→f t=f0 t):∀t,Xo D t=false→QV f dst v t=f0 t:=λt E =>
 (YR (λe=>by rw[e] at hd;simp only[inD] at hd;rw[hd] at E;cases E) v).trans (h t E)
def Z7 (all:List Oper) (D:List (Nat×Nat)) (l:List (Nat×Bool)):Bool:=l.all λp=>inD D (Q4 all p.1).dst
structure Fl (P:Program) (all:List Oper) (C:World→Prop) (K KF:Fr→World→Prop) (i d:Nat) (rest:List (Nat×Bool)) (Φ:Value→World→Prop) (Dc:List (Nat×Nat)) (f1:Fr):Prop where
 stab:∀v (own:LN) w w',Φ v w→Step own w w'→(∀b∈ow v,b∉own)→Φ v w'
 spec:∀f w,(∀t,Xo Dc t=false→f t=f1 t)→C w→XO P (Q4 all i) f w λf' w'=>Step [] w w'∧C w'∧Φ (f' d) w'∧∀b∈ow (f' d),w.heap.size≤b∧b<w'.heap.size
 fin:∀f w,KF f w→∀v,C w→Φ v w→XP P all C K rest (QV f (some d) v) w
 mono:∀f w w',KF f w→Step [] w w'→KF f w'
attribute [local semireducible] XP in
theorem qg {i d:Nat}{rest:List (Nat×Bool)}{Φ:Value→World→Prop}{Dc:List (Nat×Nat)}{f1:Fr}(G:Fl P all C K KF i d rest Φ Dc f1) (hs:Region.noSelect all.toArray=true) {v:Value}:∀(l:List (Nat×Bool)) (own:LN) (f:Fr) (w:World),Yb all d l=true→XF P all C KF l own f w→C w→Φ v w →
  (∀b∈ow v,b∉own∧b<w.heap.size)→XP P all C K (l++rest) (QV f (some d) v) w
 | [],own,f,w,_,h,hC,H,_=>G.fin f w h v hC H
 | (j,q)::l,own,f,w,hfr,h,hC,H,hb=>by
  simp only[Yb,List.all_cons,Bool.and_eq_true,Bool.not_eq_true',List.contains_eq_mem,decide_eq_false_iff_not,beq_eq_false_iff_ne,ne_eq] at hfr;obtain ⟨⟨h1,h2⟩,hfr⟩:=hfr;have I:Yb all d l=true:=by simpa[Yb] using hfr
  have S:∀cs b,(Q4 all j).op≠.select cs b:=by
   intro cs b;cases J:all[j]? with
   | none =>
    have:Q4 all j=default:=by
     clear h h1 h2 hfr I;have key:∀(l:List Oper) (j:Nat),l[j]?=none→Q4 l j=default:=by
      intro l;induction l with
      | nil=>intro j _;rfl
      | cons a l ih=>intro j T;cases j with | zero=>simp at T | succ j=>exact ih j (by simpa using T)
     exact key all j J
    rw[this];intro e;cases e
   | some o=>rw[Zm J];exact Region.noSelect_spec hs j o cs b (by simpa using J)
  have hd:∀e,some d=some e→e∉(Q4 all j).looksAt all.toArray:=λe he=>by cases he;exact h1
  cases q with
  | true =>
   obtain ⟨hg,u,hu,hx⟩:=h;simp only[List.cons_append,XP];rw[X9 (Q4 all j) f (some d) v hd,hg,cond_true,cond_true];refine ⟨u,λw' hc=>?_,?_⟩
   ·rw[Y3 (all:=all) S f (some d) v hd];exact hu w' hc
   rw[J2 f v u (λe he=>by cases he;exact h2)];exact qg G hs l own _ w I hx hC H hb
  | false =>
   simp only[List.cons_append,XP];rw[X9 (Q4 all j) f (some d) v hd,h.1,cond_true,cond_false];refine Qcs (all:=all) S h1 h2 (λu w' hx=>?_) (h.2 w (Step.refl _ _) hC);obtain ⟨V,own',Y,ha,hx⟩:=hx;refine ⟨.inr (.inr V),qg G hs l own' _ w' I hx V (G.stab v own w w' H Y (λb E=>(hb b E).1)) (λb E=>⟨λhm=>?_,LW (hb b E).2 Y.size⟩)⟩
   rcases ha b hm with h3 | h3
   ·exact (hb b E).1 h3
   exact Ns _ (LW (hb b E).2 h3.1)
theorem Qgi {i d:Nat}{rest:List (Nat×Bool)}{Φ:Value→World→Prop}{Dc:List (Nat×Nat)}{f1:Fr}(G:Fl P all C K KF i d rest Φ Dc f1) (hs:Region.noSelect all.toArray=true) (J:(Q4 all i).guard=none) (hd:(Q4 all i).dst=some d):∀(l:List (Nat×Bool)) (ls:Array Bool) (own:LN) (f:Fr) (w:World),ls.size=all.length→Yb all d l=true→Z7 all Dc l=true→(∀t,Xo Dc t=false→f t=f1 t) →
  XF P all C KF l own f w→C w→(∀b∈own,b<w.heap.size)→UZ all.toArray i rest l ls=true→XA P all C K (l.length+1+rest.length) ls f w
 | [],ls,own,f,w,T,hfr,H,S,h,hC,V,hp=>by
  simp only[UZ,Bool.and_eq_true,beq_iff_eq] at hp;obtain ⟨I,hp⟩:=hp;rw[show ([]:List (Nat×Bool)).length+1+rest.length=rest.length+1 by simp;omega];refine Jq (λh0=>(by rw[h0] at I;cases I)) ?_;rw[I];intro k hk o E;have ha:k=i:=by simpa using hk
  subst ha;have Y:=Zm E;have hx:=G.spec f w S hC;rw[Y] at J hd hx;rw[Va J,cond_true];refine hx.mono λv w' hx=>?_;rw[hd] at hx ⊢;obtain ⟨h1,h2,h3,h4⟩:=hx;simp only[QV,Yw] at h3 h4;refine ⟨.inr (.inr h2),ZE hs rest _ _ _ (by simpa using T) (.inl h2) hp (G.fin f w' (G.mono f w w' h h1) v h2 h3)⟩
 | (j,true)::l,ls,own,f,w,T,hfr,H,S,h,hC,V,hp=>by
  simp only[UZ,Bool.and_eq_true] at hp;obtain ⟨⟨I,hf⟩,hc⟩:=hp;have hi:j∈Region.ready .any all.toArray ls:=by simpa using I
  have e:(List.length ((j,true)::l))+1+rest.length=(l.length+1+rest.length)+1:=by simp;omega
  rw[e];have he:Yb all d l=true:=by simp only[Yb,List.all_cons,Bool.and_eq_true] at hfr;exact hfr.2
  simp only[Z7,List.all_cons,Bool.and_eq_true] at H;have hh:Z7 all Dc l=true:=H.2;cases E:all[j]? with
  | none =>
   exfalso;obtain ⟨_,o,hu,_⟩:=mem_ready.1 hi;simp[E] at hu
  | some o =>
   obtain ⟨hl,v,hv,hx⟩:=h;rw[Zm E] at hl hv hx;have hw:∀(j:Nat) (o:Oper) cs b,all[j]?=some o→o.op≠.select cs b:=λj o cs b hj=>Region.noSelect_spec hs j o cs b (by simpa using hj);have hy:=λk ok hk=>Region.free_spec (ops:=all.toArray) (md:=.any) (i:=j) (oi:=o) (listed:=ls) (by simpa using E) hf k ok (by simpa using hk)
   exact Y4 (v:=v) (D:=λw=>qw o=true→C w) E (λ_ h=>h) hw _ ls f w (λ_=>hC) hy hi (.inl ⟨hl,hv⟩) (Qgi G hs J hd l _ own _ w (by simpa using T) he hh (by have:=JN (v:=v) H.1 S;rw[Zm E] at this;exact this) hx hC V hc)
 | (j,false)::l,ls,own,f,w,T,hfr,H,S,h,hC,V,hp=>by
  simp only[UZ,Bool.and_eq_true,List.all_eq_true,Bool.or_eq_true,beq_iff_eq,Bool.not_eq_true'] at hp;obtain ⟨⟨⟨hn,I⟩,hz⟩,hc⟩:=hp;have e:(List.length ((j,false)::l))+1+rest.length=(l.length+1+rest.length)+1:=by simp;omega
  rw[e];have he:Yb all d l=true:=by simp only[Yb,List.all_cons,Bool.and_eq_true] at hfr;exact hfr.2
  simp only[Z7,List.all_cons,Bool.and_eq_true] at H;have hh:Z7 all Dc l=true:=H.2;refine Jq (λh0=>(by rw[h0] at hn;cases hn)) ?_;intro k hk o E;have Y:=Zm E;have hq:(ls.setIfInBounds k true).size=all.length:=by simpa using T
  by_cases ha:k=i
  ·subst ha;have hx:=G.spec f w S hC;rw[Y] at J hd hx;rw[Va J,cond_true];refine hx.mono λv w' hx=>?_;rw[hd] at hx ⊢;obtain ⟨h1,h2,h3,h4⟩:=hx;simp only[QV,Yw] at h3 h4;refine ⟨.inr (.inr h2),?_⟩;have hx:=qg G hs ((j,false)::l) own f w' hfr (XF.ext G.mono h h1) h2 h3 (λb hb=>⟨λhm=>Ns _ (LW (V b hm) (h4 b hb).1),(h4 b hb).2⟩)
   have:=ZE hs ((j,false)::(l++rest)) _ _ _ hq (.inl h2) hz hx;rw[show ((j,false)::(l++rest)).length=l.length+1+rest.length by simp;omega] at this;exact this
  have h5:k=j:=(I k hk).resolve_right ha;subst h5;have h1:=h.1;have h2:=h.2 w (Step.refl _ _) hC;rw[Y] at h1 h2;rw[h1,cond_true];refine h2.mono λv w' hx=>?_;obtain ⟨ht,own',h6,h7,hx⟩:=hx;refine ⟨.inr (.inr ht),Qgi G hs J hd l _ own' _ w' hq he hh (by have:=JN (v:=v) H.1 S;rw[Y] at this;exact this) hx ht (λb hb=>?_) hc⟩;rcases h7 b hb with h3 | h3
  ·exact LW (V b h3) h6.size
  exact h3.2
theorem Qio {ro:Option Nat}{m:Nat}{ds:LN}{Q:Exit→LN→Fr→World→Prop}{id:Nat}(C:World→Prop) (pre l:List (Nat×Bool)) (i d:Nat) (rest:List (Nat×Bool)) (own:LN) (KF:Fr→World→Prop) (Φ:Value→World→Prop) (Dc:List (Nat×Nat)) (hm:P.follows .mixedOrders=true) (H:XQ n all=true) (I:ji all=true)
  (hp:Qft all pre l i rest=true) (J:Z7 all Dc l=true) (hd:(Q4 all i).dst=some d) (hC:C { w with drawn:=w.drawn+1 }) (S:∀b∈own,b<w.heap.size)
  (h:XP P all C (λf1 _=>Fl P all C (λf w=>Q .normal ds f w) KF i d rest Φ Dc f1∧XF P all C KF l own f1 { w with drawn:=w.drawn+1 }) pre f { w with drawn:=w.drawn+1 }):WG ro m P n (.region id all.toArray true) Q ds f w:=by
 unfold WG;intro a ha;simp only[Qft,Bool.and_eq_true,beq_iff_eq,Option.isNone_iff_eq_none] at hp;obtain ⟨⟨⟨⟨⟨hs,hl⟩,hq⟩,T⟩,V⟩,hfr⟩:=hp;rw[hd] at hfr;refine wpIn_region_any hm ?_;have h1:=YI (K:=λf w=>Q .normal ds f w) (m:=l.length+1+rest.length) hs pre (Array.replicate all.length false) f _ hC hq
  (λf1 G=>Qgi G.1 hs V hd l (Z0 pre (Array.replicate all.length false)) own f1 _ (by rw[YJ];simp) hfr J (λ_ _=>rfl) G.2 hC S T) h
 rw[hl] at h1;have h2:=Ur (ro:=ro) (m:=m) (n:=n) (ds:=ds) (Q:=λe Y w'=>∃ds' E,Yt n ds' Y E∧(∀t,ZK all t=false→E t=f t)∧Q e ds' E w') (YD H) (Kq I) f
  (λa E w hr hk hq=>⟨ds,E,hr,hk,hq⟩) _ _ a f _ ha (λ_ _=>O) h1
 simpa[Y7] using h2
theorem XP.keeps_mono {K':Fr→World→Prop}:∀(l:List (Nat×Bool)) (f:Fr) (w:World),XP P all C K l f w→(∀f w,K f w→K' f w)→XP P all C K' l f w
 | [],f,w,h,hk=>by simp only[XP] at h ⊢;exact hk _ _ h
 | (j,q)::l,f,w,h,hk=>by
  simp only[XP] at h ⊢;cases E:Yh all f (Q4 all j) with
  | false=>rw[E] at h;exact XP.keeps_mono l _ _ h hk
  | true =>
   rw[E] at h;cases q with
   | true=>obtain ⟨v,G,hx⟩:=h;exact ⟨v,G,XP.keeps_mono l _ _ hx hk⟩
   | false=>exact XO.mono (λv w' hx=>⟨hx.1,XP.keeps_mono l _ _ hx.2 hk⟩) h
theorem XP.keeps {D:List (Nat×Nat)}{f0:Fr}:∀(l:List (Nat×Bool)) (f:Fr) (w:World),Z7 all D l=true→(∀t,Xo D t=false→f t=f0 t)→XP P all C K l f w→XP P all C (λH w'=>(∀t,Xo D t=false→H t=f0 t)∧K H w') l f w
 | [],f,w,_,E,h=>by simp only[XP] at h ⊢;exact ⟨E,h⟩
 | (j,q)::l,f,w,hd,E,h=>by
  simp only[Z7,List.all_cons,Bool.and_eq_true] at hd;have G:Z7 all D l=true:=hd.2;simp only[XP] at h ⊢;cases I:Yh all f (Q4 all j) with
  | false=>rw[I] at h;exact XP.keeps l _ _ G (JN hd.1 E) h
  | true =>
   rw[I] at h;cases q with
   | true=>obtain ⟨v,J,hx⟩:=h;exact ⟨v,J,XP.keeps l _ _ G (JN hd.1 E) hx⟩
   | false=>exact XO.mono (λv w' hx=>⟨hx.1,XP.keeps l _ _ G (JN hd.1 E) hx.2⟩) h
theorem XF.keeps {D:List (Nat×Nat)}{f0:Fr}:∀(l:List (Nat×Bool)) (own:LN) (f:Fr) (w:World),Z7 all D l=true→(∀t,Xo D t=false→f t=f0 t)→XF P all C K l own f w→XF P all C (λG w'=>(∀t,Xo D t=false→G t=f0 t)∧K G w') l own f w
 | [],own,f,w,_,E,h=>⟨E,h⟩
 | (j,true)::l,own,f,w,hd,E,h=>by
  simp only[Z7,List.all_cons,Bool.and_eq_true] at hd;obtain ⟨H,v,I,hx⟩:=h;exact ⟨H,v,I,XF.keeps l own _ _ hd.2 (JN hd.1 E) hx⟩
 | (j,false)::l,own,f,w,hd,E,h=>by
  simp only[Z7,List.all_cons,Bool.and_eq_true] at hd;refine ⟨h.1,λJ h1 hc=>XO.mono (λv w' hx=>?_) (h.2 J h1 hc)⟩;obtain ⟨S,own',T,V,hx⟩:=hx;exact ⟨S,own',T,V,XF.keeps l own' _ _ hd.2 (JN hd.1 E) hx⟩
theorem Qgv {ro:Option Nat}{m:Nat}{ds:LN}{Q:Exit→LN→Fr→World→Prop}{id:Nat}{α:Type}(C:World→Prop) (pre l:List (Nat×Bool)) (i d:Nat) (rest:List (Nat×Bool)) (own:LN) (D Dc:List (Nat×Nat)) (S:α→List (Nat×Value)) (I:α→World→Prop) (Φ:Value→World→Prop) (hm:P.follows .mixedOrders=true) (J:XQ n all=true) (T:ji all=true)
  (hp:Qft all pre l i rest=true) (G:(Z7 all D pre && Z7 all D l && Z7 all Dc l)=true) (hd:(Q4 all i).dst=some d) (hC:C { w with drawn:=w.drawn+1 }) (V:∀b∈own,b<w.heap.size)
  (stab:∀v (own:LN) w w',Φ v w→Step own w w'→(∀b∈ow v,b∉own)→Φ v w') (mono:∀z w w',I z w→Step [] w w'→I z w')
  (fin:∀z g w v,I z w→C w→Φ v w→XP P all C (λf w=>Q .normal ds f w) rest (QV (zB (S z) (mix D f g)) (some d) v) w)
  (h:XP P all C (λf1 _=>(∀g w,C w→XO P (Q4 all i) (mix Dc f1 g) w λE w'=>Step [] w w'∧C w'∧Φ (E d) w'∧∀b∈ow (E d),w.heap.size≤b∧b<w'.heap.size)∧XF P all C (λE w'=>∃z,Xu E (S z)∧I z w') l own f1 { w with drawn:=w.drawn+1 }) pre f { w with drawn:=w.drawn+1 }):WG ro m P n (.region id all.toArray true) Q ds f w:=by
 rw[Lu,Lu] at G;refine Qio C pre l i d rest own (λE w'=>(∀t,Xo D t=false→E t=f t)∧∃z,Xu E (S z)∧I z w') Φ Dc hm J T hp G.2 hd hC V ?_;refine XP.keeps_mono _ _ _ (XP.keeps pre f _ G.1.1 (λ_ _=>O) h) (λf1 w1 hx=>⟨⟨stab,?_,?_,?_⟩,XF.keeps l own _ _ G.1.2 hx.1 hx.2.2⟩)
 ·intro E w' hk H;have:=hx.2.1 E w' H;rw[JJ hk] at this;exact this
 ·rintro E w' ⟨hk,z,hs,hi⟩ v H Y;have:=fin z E w' v hi H Y;rw[JJ hk,YQ hs] at this;exact this
 rintro E w' hb ⟨hk,z,hs,hi⟩ ha;exact ⟨hk,z,hs,mono z _ _ hi ha⟩
theorem fp {j:Nat}{l:List (Nat×Bool)}{own:LN}{v:Value}(E:∀w',(execOp (ev f) (Q4 all j)).run P w'=.ok (.value v) w') (h:XF P all C K l own (QV f (Q4 all j).dst v) w)
  (G:Yh all f (Q4 all j)=true:=by rfl):XF P all C K ((j,true)::l) own f w:=⟨G,v,λw' _=>E w',h⟩
theorem fk {j:Nat}{l:List (Nat×Bool)}{own:LN}(h:∀w1,Step [] w w1→C w1→XO P (Q4 all j) f w1 λE w'=>C w'∧∃own',Step own w1 w'∧(∀b∈own',b∈own∨(w1.heap.size≤b∧b<w'.heap.size))∧XF P all C K l own' E w')
  (G:Yh all f (Q4 all j)=true:=by rfl):XF P all C K ((j,false)::l) own f w:=⟨G,h⟩
theorem fe {own:LN}(h:K f w):XF P all C K [] own f w:=h
end
attribute [irreducible] XF
end Go.Lg
namespace Go.Proofs.YtdffckgdcegpaaaGreatDoor
open Go.Proofs.Tryz
open Go.Lg
instance:Bw prog 77 [nS,.int .i64 0,nS,nS,nS,nS,nS,nS] [(0,4),(4,1),(5,1),(6,1),(7,1)]:=⟨by kernel_rfl,by decide⟩
def spF (c:Zw) (pl:QQ) (ps:List (LI)) (l:List (LI)):List Rsn:=l.zipIdx.filterMap (λp=>rsn c pl (plx ps (p.1.take c.co.length)) p.2 p.1)
theorem Qea {c:Zw}{pl:QQ}{ps:List (LI)}{l:List (LI)}{k:Nat}(h:k<l.length):spF c pl ps (l.take (k+1))=spF c pl ps (l.take k)++(rsn c pl (plx ps ((l[k]'h).take c.co.length)) k (l[k]'h)).toList:=by
 unfold spF;rw[Le h,List.zipIdx_append,List.filterMap_append];have e:0+(l.take k).length=k:=by rw[Lv];omega
 rw[e];simp only[List.zipIdx_cons,List.zipIdx_nil,List.filterMap_cons,List.filterMap_nil];cases rsn c pl (plx ps ((l[k]'h).take c.co.length)) k (l[k]'h) <;> rfl
theorem Qbw (c:Zw) (pl:QQ) (ps:List (LI)) (l:List (LI)):(spF c pl ps l).length≤l.length:=by
 unfold spF;refine LR (List.length_filterMap_le _ _) ?_;rw[List.length_zipIdx];exact Lr _
theorem Qau {c:Zw}{pl sa:QQ}{ps ts:List (LI)}(hp:sync (auts c.co)=some (pl,ps)) (hs:sync (auts c.co++auts c.rq)=some (sa,ts)) :
  spc c=⟨sa,ts.map (·.take c.co.length),ts.map (·.drop c.co.length),ts.map (λt=>plx ps (t.take c.co.length)),spF c pl ps ts⟩:=by
 unfold spc syA syQ;rw[hp,hs];simp only[];rw[qS];simp[spF]
theorem Qf2 {n:Nat}{u:LI}{s:List ByteArray}{x:YN}(h:Z2 n u s x=0):x.a.st≠0:=by
 unfold Z2 at h;split at h
 ·cases h
 split at h
 ·cases h
 split at h
 ·rename_i h1 h2;exact absurd h h2
 split at h
 ·cases h
 split at h
 ·cases h
 assumption
theorem jT {n:Nat}{al:LI}:∀{l:List YN}{s:List ByteArray}{u:LI},(Z6 n al s u l).1=0→∀x∈l,x.a.st≠0
 | [],_,_,_,x,hx=>by cases hx
 | y::l,s,u,h,x,hx=>by
  rw[Kx] at h;by_cases h1:Z2 n al s y≠0
  ·rw[if_pos h1] at h;exact absurd h h1
  rw[if_neg h1] at h;have h2:Z2 n al s y=0:=Ls.1 h1;rcases Lb.1 hx with rfl | hx
  ·exact Qf2 h2
  exact jT h x hx
theorem Qf3 {c:Zw}(h:Zb c=0):∀x∈c.co,x.a.st≠0:=by
 unfold Zb at h;by_cases h1:Jm c.ev≠0
 ·rw[if_pos h1] at h;exact absurd h h1
 rw[if_neg h1] at h;by_cases h2:c.co.length=0
 ·rw[if_pos h2] at h;cases h
 rw[if_neg h2] at h;by_cases h3:8<c.co.length∨12<c.co.length+c.rq.length
 ·rw[if_pos h3] at h;cases h
 rw[if_neg h3] at h;by_cases E:(Z6 c.ev.length (JB c.ev.length) [] [] c.co).1≠0
 ·rw[if_pos E] at h;exact absurd h E
 exact jT (Ls.1 E)
theorem jg {c:Zw}(h:Zb c=0) {A:QQ}{Q:List (LI)}(hs:sync (auts c.co)=some (A,Q)):Q8 A∧A.st=(Q.length:Int)∧0<Q.length∧∀e∈A.al,0≤e∧e<(c.ev.length:Int):=by
 have E:=ZR h;have G:=Yk E.co;have hsp:=Xk G hs;refine ⟨hsp.1.okay G,hsp.1.st,?_,λe he=>?_⟩
 ·refine Nat.pos_of_ne_zero λH=>?_;obtain ⟨a,ha,h1⟩:=hsp.2.1 H;obtain ⟨x,hx,rfl⟩:=Lx.1 ha;exact Qf3 h x hx h1
 rw[hsp.1.al] at he;obtain ⟨a,ha,h1⟩:=(Qb9 G e).1 he;obtain ⟨x,hx,rfl⟩:=Lx.1 ha;exact ⟨((E.co x hx).al e h1).1,E.ce x hx e h1⟩
theorem Qex {Q:List (LI)}(h:0<Q.length) (t:LI):0≤plx Q t∧plx Q t<(Q.length:Int):=by
 unfold plx;split
 ·rename_i hm;have:=Me hm;omega
 omega
theorem Vt.take {a b:List QQ}{t:LI}(h:Vt (a++b) t):Vt a (t.take a.length):=by
 have hl:=h.1;rw[Lh] at hl;refine ⟨by rw[Lv];omega,λi h1 h2=>?_⟩;have:=h.2 i (by omega) (by rw[Lh];omega);rw[Mm h2] at this;rw[M0];exact this
theorem Vt.drop {a b:List QQ}{t:LI}(h:Vt (a++b) t):Vt b (t.drop a.length):=by
 have hl:=h.1;rw[Lh] at hl;refine ⟨by rw[Mg];omega,λi h1 h2=>?_⟩;have:=h.2 (a.length+i) (by omega) (by rw[Lh];omega);rw[MS (by omega)] at this;rw[List.getElem_drop];simpa using this
theorem Vt.tpOk {l:List YN}{t:LI}(h:Vt (auts l) t):Qik (szs l) t:=by
 have hl:=h.1;unfold auts at hl;rw[Lc] at hl;refine ⟨by unfold szs;rw[Lc];exact hl,λi hi=>?_⟩;have h1:=h.2 i hi (by unfold auts;rw[Lc];omega);have E:i<(szs l).length:=by unfold szs;rw[Lc];omega
 rw[←Zi hi,←Zi E];unfold auts szs at *;simpa using h1
theorem Je.add {base G T:Nat}{W H I J:World}{S V Y E v' c0 c1 c2 c3:Value}{cos rqs:List TV}{pls:LI}{fbs:List Rsn}{q:Rsn}(hB:QZ W.heap G T [c0,c1,c2,c3,S,V,Y,E]) (hS:Je base W S V Y E cos rqs pls fbs) (ha:G<base) (h1:Step [] W H)
  (ho:I.ownsRow base 83 4 v' (fbs.length+1) (fbs.flatMap ZB++ZB q)) (h2:Step (ob E) H I) (hn:∀b∈ob v',b∈ob E∨H.heap.size≤b) (h3:Step [G] I J) :
  Step (G::ob E) W J∧Je base J S V Y v' cos rqs pls (fbs++[q])∧(∀x∈G::ob E,∃o:Obj,W.heap[x]?=some o∧o.isCells=true):=by
 refine ⟨((h1.any).trans' (h2.mono λx hx=>Ll _ hx)).trans' (h3.mono λx hx=>?_),(hS.a4 h1 ho h2 hn).low h3 (λx hx=>?_),λx hx=>?_⟩
 ·simp only[List.mem_singleton] at hx;subst hx;exact Ln
 ·simp only[List.mem_singleton] at hx;subst hx;exact ha
 rcases Lb.1 hx with rfl | hx
 ·exact hB.cells
 exact Go.Lg.Q0 hS.o4 x hx
set_option maxHeartbeats 40000000 in
theorem KD {L:LN}{w:World}{c:CL}(h0:ZA L w.heap c) (mw:Kb w 4096) :
  QK prog 27 [c.val] w λr w'=>Step [] w w'∧∃v,r=.tuple #[v,.int .i64 (Yx c.cel)]∧(∃us,v=.agg us.toArray∧us.length=8∧ZN us)∧(Yx c.cel=0→QlK w.heap.size w'.heap v (spc c.cel)):=by
 have h:=h0.up (L':=[]) (by simp);refine Zd (Yx c.cel) λE hE=>?_;refine QK.of_G 20 func27 O ntmps27 results27 (by simp) ?_;refine QX<|QJ (by rfl) (by rfl) ?_;refine xl rfl<|QS (us:=c.cells) O λb1 w1 hF hb1 my=>xl O<|Qt (us:=[nS,.int .i64 0,nS,nS,nS,nS,nS,nS]) O λb2 w2 h5 hb2 gw=>Qe ?_;have kg:=hF.trans h5;have hz1:=hF.size;have hz2:=h5.size;have mz:=my.lt;have kh:=gw.lt
 have m0:=my.ext h5;refine QX<|QJ (by rfl) (by rfl) ?_;refine x (Qr m0 O O)<|xl O<|xf<|(j0 (h.ext kg) (mw.ext kg)).mono ?_;rintro r3 w3 ⟨h6,vp,rfl,z0,m1⟩;rw[hE] at z0 m1 ⊢;have ki:=kg.trans h6;refine Qb<|x (Ql O O)<|x (Ql O O)<|x Qg<|Qe<|QX<|QX<|QJ (by rfl) (by rfl) ?_;refine Qb<|x (Q9 O O)<|xe<|Qin O (λkj=>?_) (λkj=>?_)
 ·refine QX<|QJ (by rfl) (by rfl) ?_
  refine x (ZV [] U)<|Qb<|xl O<|Qp (us:=[nS,.int .i64 0,nS,nS,nS,nS,nS,nS]) (gw.ext h6) O O O O ⟨O,O,O,O,O,O,O,O,U⟩ λw4 hM z2=>Qe<|JZ ⟨λ_ h=>(by cases h),My,[.agg [nS,.int .i64 0,nS,nS,nS,nS,nS,nS].toArray,.int .i64 E],λW' hN=>⟨⟨⟨_,rfl,Qv rfl ((z2.ext hN).at (L:=[]) (by simp)).cells⟩,rfl,U⟩,(ki.then1 hM (by omega)).trans hN,_,rfl,⟨_,rfl,rfl,rfl,rfl,rfl,rfl,rfl,rfl,rfl,rfl,U⟩,λe=>absurd e kj⟩⟩
 have m2:E=0:=Ls.1 kj;obtain ⟨b,q,rfl,rfl,hQ,hj,z3⟩:=m1 m2;refine Ye ?_;have hlb:=hj.B.lt;refine QX<|QJ (by rfl) (by rfl) ?_;refine Qb<|x (QF O)<|x (Qa O)<|x (Yy (us:=Zj q.s) hj.B O O O)<|x (ZV [(0,Zj q.s)] ⟨O,O,U⟩)<|xl O<|Qt (us:=[nS,.int .i64 0,nS,nS,nS,nS,nS,nS]) O λG w5 hY kk h7 =>
  xl rfl<|Qp (us:=[q.s.va,.int .i64 q.s.a.st,q.s.vm,q.s.ve,nS,nS,nS,nS]) h7 O O O O ⟨hj.s.al.one,O,hj.s.mr.one,hj.s.ed.one,O,O,O,O,U⟩ λH gx h7=>xe ?_
 have gy:Step [] w3 H:=hY.then1 gx kk;have kn:=h7.lt;have m3:=hj.ext gy;have hs06:=ki.trans gy;have hz3:=h6.size;have hz36:=gy.size;refine QX<|QX<|QJ (by rfl) (by rfl) ?_;refine Qb<|x (QF O)<|x (Qa O)<|x (Qd m3.B O O)<|x (Qs m3.ts.arr O)<|Qb<|xe ?_;have m4:=(Uf (λa ha=>by
  rcases Lj.1 ha with ha | ha
  ·exact Yk (ZR hQ.ok).co a ha
  exact Yk (ZR hQ.ok).rq a ha) hQ.s)
 have ko:=m4.1;have m5:=m4.2;simp only[] at ko m5;have hZ:=ZR hQ.ok;have hckc:=hZ.c8;have ga:q.c.cel.co.length=q.c.co.length:=Lc ..;have z4:q.c.cel.rq.length=q.c.rq.length:=Lc ..;have hcr:=hZ.cr;have z5:(auts q.c.cel.co++auts q.c.cel.rq).length=q.c.co.length+q.c.rq.length:=by rw[Lh];unfold auts;rw[Lc,Lc,ga,z4]
 refine Zd (q.ts.map (·.2)) λT hT=>?_;rw[hT] at ko m5;have hTn:q.ts.length=T.length:=by rw[←hT,Lc]
 refine ZH<|VT (α:=Nat×(Value×Value×Value×Value)×List TV×List TV×LI) [(7,17),(37,99),(100,118)] (λz=>[(37,.int .i64 z.1)]) (λz ds W'=>z.1≤q.ts.length∧Step [G] H W'∧Vp H.heap.size W'.heap.size ds W'∧QZ W'.heap G 77 [q.s.va,.int .i64 q.s.a.st,q.s.vm,q.s.ve,z.2.1.1,z.2.1.2.1,z.2.1.2.2.1,z.2.1.2.2.2] ∧
  Je H.heap.size W' z.2.1.1 z.2.1.2.1 z.2.1.2.2.1 z.2.1.2.2.2 z.2.2.1 z.2.2.2.1 z.2.2.2.2 (spF q.c.cel q.p.a (q.qs.map (·.2)) (T.take z.1))∧z.2.2.1.map (·.2)=(T.take z.1).map (·.take q.c.co.length)∧z.2.2.2.1.map (·.2)=(T.take z.1).map (·.drop q.c.co.length)∧z.2.2.2.2=(T.take z.1).map (λt=>plx (q.qs.map (·.2)) (t.take q.c.co.length)))
  (λz=>q.ts.length - z.1) (by rfl) (0,(nS,nS,nS,nS),[],[],[]) Z
  ⟨Lk _,Step.refl _ _,⟨My,λD hD=>by cases hD⟩,h7,Je.nil _ _,rfl,rfl,rfl⟩ ?_
 rintro ⟨k,⟨v1,v2,v3,I⟩,cos,rqs,pls⟩ g ds w7 ⟨hk,kp,m6,kq,J,gh,gi,gj⟩;simp only[] at hk kq J gh gi gj;have gk:Step [] w3 w7:=gy.then1 kp kk;have kr:=ki.trans gk;have hz7:=kp.size;have gz:(T.take k).length=k:=by rw[Lv];omega
 have hcosl:cos.length=k:=by have:=congrArg List.length gh;rw[Lc,Lc,gz] at this;exact this
 have hrqsl:rqs.length=k:=by have:=congrArg List.length gi;rw[Lc,Lc,gz] at this;exact this
 have hplsl:pls.length=k:=by rw[gj,Lc,gz]
 have m7:=Qbw q.c.cel q.p.a (q.qs.map (·.2)) (T.take k);rw[gz] at m7;refine Zd (spF q.c.cel q.p.a (q.qs.map (·.2)) (T.take k)) λfbs g0=>?_;rw[g0] at J m7;have l7:=J.lt;refine Zd (ob v1++(ob v2++(ob v3++ob I))) λav gl=>?_;have gb:∀x∈av,H.heap.size≤x∧x<w7.heap.size:=λx hx=>by
  rw[←gl] at hx;rcases jq hx with h1 | h1 | h1 | h1
  ·exact Qk J.o1 x h1
  ·exact Qk J.o2 x h1
  ·exact Qk J.o3 x h1
  exact Qk J.o4 x h1
 have g2:G∉av:=λhm=>by have:=(gb G hm).1;omega
 have kt:∀x∈av,x∈G::av:=λx hx=>Ll _ hx;have g3:XC (G::av) b w7.heap q:=(hj.up (λx hx=>.inr (by
  rcases Lb.1 hx with rfl | hx
  ·exact kk
  have:=(gb x hx).1;omega))).ext gk
 refine QX<|QJ (by rfl) (by rfl) ?_;refine x (QA O O)<|xe<|QX<|zw O (λku=>?_) (λku=>?_)
 ·refine J0 ?_;have hke:q.ts.length≤k:=by have z9:¬(k:Int)<(q.ts.length:Int):=ku;omega
  rw[Lm (by omega)] at gh gi gj g0;have hsp:=Qau hQ.p hQ.s;rw[hT,ga,←gh,←gi,←gj,g0] at hsp;have m8:=h6.trans gk;refine QX<|QJ (by rfl) (by rfl) ?_
  refine x (Qr kq O O)<|xl O<|Qp (us:=[q.s.va,.int .i64 q.s.a.st,q.s.vm,q.s.ve,v1,v2,v3,I]) (gw.ext m8) O O O O ⟨hj.s.al.one,O,hj.s.mr.one,hj.s.ed.one,QH J.o1,QH J.o2,QH J.o3,QH J.o4,U⟩ λw8 g4 hB8=>Qe ?_;have hb2w:b2<H.heap.size:=by omega
  have gm:Vp H.heap.size w7.heap.size ds w8:=m6.blk g4 (gw.ext m8);have hb2d:b2∉ds:=λhm=>by have:=(gm.2 b2 hm).1;omega
  have hS8:=J.low g4 (λx hx=>by simp only[List.mem_singleton] at hx;subst hx;exact hb2w);refine JZ ⟨λD hD=>(gm.2 D hD).2.2,gm.1,[.agg [q.s.va,.int .i64 q.s.a.st,q.s.vm,q.s.ve,v1,v2,v3,I].toArray,.int .i64 E],λW' hN=>?_⟩;have g5:Lg.Xv [] w8 W':=Lg.Xv.nonc hN (λD hD=>⟨_,(gm.2 D hD).2.2,O⟩);have gc:=hN.size;have h8:=hS8.cst g5 gc
  refine ⟨⟨⟨_,O,Qv O ((hB8.step hN hb2d).at (L:=[]) (by simp)).cells⟩,congrArg (Value.int .i64) m2.symm,U⟩,(kr.then1 g4 (by omega)).then hN (λD hD=>.inr (by have:=(gm.2 D hD).1;omega)),_,O,⟨_,O,O,hj.s.al.one,O,hj.s.mr.one,hj.s.ed.one,QH J.o1,QH J.o2,QH J.o3,QH J.o4,U⟩,λ_=>?_⟩;have hl9:pls.length≤1099511627776:=by omega
  have hl8:fbs.length≤1099511627776:=by omega
  rw[hsp];refine ⟨q.s.va,q.s.vm,q.s.ve,v1,v2,v3,I,cos,rqs,O,O,O,λL hL=>⟨?_,⟨QT h8.o1 (by omega) (λx hx hm=>?_),λp hp=>h8.e1 p hp L (λx hx=>?_)⟩,⟨QT h8.o2 (by omega) (λx hx hm=>?_),λp hp=>h8.e2 p hp L (λx hx=>?_)⟩,QT h8.o3 hl9 (λx hx hm=>?_),QT h8.o4 hl8 (λx hx hm=>?_)⟩⟩
  ·have h1:=((z3 (b2::L) (λx hx=>by
    rcases Lb.1 hx with rfl | hx
    ·exact kh
    have:=hL x hx;omega)).1.ext gk).st (g4.mono (λx hx=>by simp only[List.mem_singleton] at hx;subst hx;exact Ln))
   have h2:=h1.up (L':=L) (λx hx=>.inl (Ll _ hx));exact ⟨h2.al.cst (g5.mono (by simp)) gc,h2.mr.cst (g5.mono (by simp)) gc,h2.ed.cst (g5.mono (by simp)) gc⟩
  ·have:=(Qk h8.o1 x hx).1;have:=hL x hm;omega
  ·exact .inl (by have:=hL x hx;omega)
  ·have:=(Qk h8.o2 x hx).1;have:=hL x hm;omega
  ·exact .inl (by have:=hL x hx;omega)
  ·have:=(Qk h8.o3 x hx).1;have:=hL x hm;omega
  have:=(Qk h8.o4 x hx).1;have:=hL x hm;omega
 have gn:k<q.ts.length:=by have z9:(k:Int)<(q.ts.length:Int):=ku;omega
 have go:k<T.length:=by omega
 have m9:=Li gn;have hTe:T[k]'go=(q.ts[k]'gn).2:=by subst hT;simp
 have hq:=Qea (c:=q.c.cel) (pl:=q.p.a) (ps:=q.qs.map (·.2)) go;have gp:T.take (k+1)=T.take k++[T[k]'go]:=Le go;have ge:=ko _ (Li go);rw[g0] at hq;rw[hTe] at hq gp ge;refine Ye ?_
 refine Qcx (α:=(Value×Value×Value×Value)×List TV×List TV×LI) [(7,17),(38,117)] (λz=>[(37,.int .i64 k)]) (λz hO W'=>Step [G] H W'∧Vp H.heap.size W'.heap.size hO W'∧QZ W'.heap G 77 [q.s.va,.int .i64 q.s.a.st,q.s.vm,q.s.ve,z.1.1,z.1.2.1,z.1.2.2.1,z.1.2.2.2] ∧
  Je H.heap.size W' z.1.1 z.1.2.1 z.1.2.2.1 z.1.2.2.2 z.2.1 z.2.2.1 z.2.2.2 (spF q.c.cel q.p.a (q.qs.map (·.2)) (T.take (k+1)))∧z.2.1.map (·.2)=(T.take (k+1)).map (·.take q.c.co.length)∧z.2.2.1.map (·.2)=(T.take (k+1)).map (·.drop q.c.co.length)∧z.2.2.2=(T.take (k+1)).map (λt=>plx (q.qs.map (·.2)) (t.take q.c.co.length))) (by rfl) ?_ ?_
 rotate_left
 ·rintro ⟨⟨u1,u2,u3,u4⟩,cos',rqs',pls'⟩ g hO W ⟨hsW,hDW,hBW,hSW,h1,h2,h3⟩;refine QJ (by rfl) (by rfl) ?_;refine QP O O<|Qb<|xe ?_;exact ⟨(k+1,(u1,u2,u3,u4),cos',rqs',pls'),by simp only[];omega,Z,gn,hsW,hDW,hBW,hSW,h1,h2,h3⟩
 refine ZH<|QX<|QJ (by rfl) (by rfl) ?_;refine Qb<|xig (g:=Z8) Kn g3.ts.arr O O gn λa40 pa=>?_;refine Zd (q.ts[k]'gn) λt ht=>?_;rw[ht] at pa m9 hq gp ge;have htI:=g3.ts.each t m9;have htl:t.2.length=q.c.co.length+q.c.rq.length:=by rw[ge.1,z5]
 refine x (Qx pa O)<|xl O<|Qt (us:=[.int .i64 0]) O λb7 w9 hs9 hb7 hB9=>xl O<|QE (j:=0) (u:=.int .i64 k) hB9 O O (by decide) O λw10 pc pd =>
  Qe ?_
 have kv:Step [] w7 w10:=hs9.then1 pc hb7;refine QX<|QJ (by rfl) (by rfl) ?_;refine Qb<|Qb<|xl O<|xf<|(yX (g3.ext kv) (htI.ext kv) (by omega)).mono ?_;rintro r11 pf ⟨pg,v9,ph,rfl,hI,hr⟩;refine Qb<|x (Ql O O)<|x (Ql O O)<|x Qg<|Qe ?_;have kw:=kv.trans pg;have kx:=g3.ext kw;refine Zd (t.2.take q.c.co.length) λtc hR=>?_;refine Zd (t.2.drop q.c.co.length) λtr gq=>?_
 rw[ga] at hq;rw[hR] at hI hq;rw[gq] at hr;have htcl:tc.length=q.c.co.length:=by rw[←hR,Lv];omega
 have htrl:tr.length=q.c.rq.length:=by rw[←gq,Mg];omega
 have hbdt:=ge.bd (m:=4096) (λa ha=>by
  rcases Lj.1 ha with ha | ha
  ·exact (Yk hZ.co a ha).st1
  exact (Yk hZ.rq a ha).st1)
 have pj:∀x∈tc,0≤x∧x<4096:=λx hx=>hbdt x (LM (by rw[hR];exact hx));refine QX<|qp (Step [] pf) [(0,true),(1,true),(2,true),(3,true),(4,true),(5,false),(6,true),(7,true)] mixed (by rfl) (by rfl) (by kernel_rfl) (Step.drew _ _) ?_
 refine p (λ_=>Qo)<|p (λ_=>QF O)<|p (λ_=>Qa O)<|pq (λ_ hc=>Qd (kx.B.ext hc) O O)<|p (λ_=>Qo)<|pk<|xf<|(yD (hI.ext (Step.drew _ _)) ((mw.ext (kr.trans kw)).ext (Step.drew _ _)) pj (by omega)).mono ?_;rintro r12 Y ⟨rfl,hs12⟩;have gg:=(Step.drew [] pf).trans hs12;refine ⟨gg,?_⟩
 have pm:(match mget q.mm (Jz tc) with | some u=>u | none=>.int .i64 0)=Value.int .i64 (plx (q.qs.map (·.2)) tc):=by
  rw[hQ.m tc htcl (λx hx=>(pj x hx).1)];unfold plx;by_cases hm:tc∈q.qs.map (·.2)
  ·rw[if_pos hm,if_pos hm]
  rw[if_neg hm,if_neg hm]
 refine Zd (plx (q.qs.map (·.2)) tc) λpi ky=>?_;rw[ky] at pm hq;refine pq (λ_ hc=>(X0 (k:=Jz tc) (kx.m.ext hc) O O).trans (congrArg (λv=>Result.ok (Next.value v) _) pm))<|p (λ_=>Qg)<|pe ?_;have hU:=kw.trans gg;have hs012:=kr.trans hU;have hI:=hI.ext gg;have hr:=hr.ext gg;have h7:=kq.ext hU;have gr:=J.ext hU;have hS12d:=gr.ext (Step.drew [] Y)
 have hz712:=hU.size;have hzd:({ Y with drawn:=Y.drawn+1 }:World).heap.size=Y.heap.size:=rfl
 have hC0:Step av Y { Y with drawn:=Y.drawn+1 }:=Step.drew _ _
 have fin:∀{hf hg ho hh hi:Value} {wx wy:World},Step av Y wx→Je H.heap.size wx hf hg ho I (cos++[(hh,tc)]) (rqs++[(hi,tr)]) (pls++[pi]) fbs→Step [G] wx wy→QZ wy.heap G 77 [q.s.va,.int .i64 q.s.a.st,q.s.vm,q.s.ve,hf,hg,ho,I] →
   Step (G::av) Y wy∧QZ wy.heap G 77 [q.s.va,.int .i64 q.s.a.st,q.s.vm,q.s.ve,hf,hg,ho,I]∧Je H.heap.size wy hf hg ho I (cos++[(hh,tc)]) (rqs++[(hi,tr)]) (pls++[pi]) fbs:=λhC hP hs hB =>
  ⟨(hC.mono kt).trans' (hs.mono (λx hx=>by simp only[List.mem_singleton] at hx;subst hx;exact Ln)),hB,hP.low hs (λx hx=>by simp only[List.mem_singleton] at hx;subst hx;exact kn)⟩
 have hkl:k≤4096:=by omega
 have htc16:tc.length≤16:=by omega
 have htr16:tr.length≤16:=by omega
 have htc40:tc.length≤1099511627776:=by omega
 have htr40:tr.length≤1099511627776:=by omega
 have mz:cos.length+1≤1099511627776:=by omega
 have kh:rqs.length+1≤1099511627776:=by omega
 have hl3:pls.length+1≤1099511627776:=by omega
 have gs:H.heap.size≤Y.heap.size:=by omega
 refine Qcx (α:=Value×Value×Value×Value×Value) [(55,74)] (λ_=>[]) (λz hO w'=>hO=ds∧Step (G::av) Y w'∧QZ w'.heap G 77 [q.s.va,.int .i64 q.s.a.st,q.s.vm,q.s.ve,z.1,z.2.1,z.2.2.1,I]∧Je H.heap.size w' z.1 z.2.1 z.2.2.1 I (cos++[(z.2.2.2.1,tc)]) (rqs++[(z.2.2.2.2,tr)]) (pls++[pi]) fbs) (by rfl) ?_ ?_
 ·refine Qgv (α:=Value×Value×Value×Value) (Step av Y) [(0,true),(1,true),(2,true),(6,true),(7,true),(8,true),(12,true),(13,true),(14,true)] [(3,false),(4,false),(5,false),(17,true),(9,false),(10,false),(11,false)] 15 70
   [(16,false),(18,false),(19,true),(20,false),(21,true),(22,false)] av [(55,74)] [(58,60),(64,66),(72,72)] (λz=>[(60,z.1),(66,z.2.1),(68,v3),(72,.pointer (some ⟨G,4,none⟩))]) (λz w'=>Step av Y w'∧Je H.heap.size w' z.1 z.2.1 v3 I (cos++[(z.2.2.1,tc)]) (rqs++[(z.2.2.2,tr)]) pls fbs)
   (λv w'=>∃b,v=.slice (some ⟨b,0,none⟩) 1 1∧QZ w'.heap b 3 [.int .i64 pi]) mixed (by rfl) (by rfl) (by kernel_rfl) (by rfl) O hC0 (λx hx=>LW (gb x hx).2 hz712) ?_ ?_ ?_ ?_
  ·rintro v own w w' ⟨b,rfl,hB⟩ hs hn;exact ⟨b,O,hB.step hs (hn b (by simp[ow]))⟩
  ·rintro z w w' ⟨h1,h2⟩ hs;exact ⟨h1.trans hs,h2.ext hs⟩
  ·rintro ⟨hf,hg,hh,hi⟩ g wz v ⟨pn,hP⟩ _ ⟨b15,rfl,g6⟩;simp only[] at hP;have hcz:=pn.size;refine pk<|Q2 (news:=[.int .i64 pi]) (L:=[]) hP.o3 O O O (g6.at (by simp)) (by simp[Value.oneCell']) hl3 (LR gs hcz) λho y1 g7 hF hn1=>?_;have Q1:=Je.a3 (q:=pi) hP (Step.refl [] _) g7 hF hn1
   have kz:Step av Y y1:=pn.trans' (hF.mono (λb hb=>by rw[←gl];exact UV (.inr (.inr (.inl hb)))));refine ⟨kz,?_⟩;refine pkl (hl:=by kernel_rfl)<|QE (j:=4) (u:=hf) (h7.step kz g2) O O (by simp) (QH Q1.o1) λy2 h5 k0=>p (λ_=>Qa rfl) <|
    pkl (hl:=by kernel_rfl)<|QE (j:=5) (u:=hg) k0 O O (by simp) (QH Q1.o2) λy3 h6 hB3'=>p (λ_=>Qa rfl) <|
    pkl (hl:=by kernel_rfl)<|QE (j:=6) (u:=ho) hB3' O O (by simp) (QH Q1.o3) λy4 hM hB4'=>pe ?_
   exact ⟨(hf,hg,ho,hh,hi),U,O,fin kz Q1 ((h5.trans' h6).trans' hM) hB4'⟩
  refine p (λ_=>Qa O)<|pq (λ_ hc=>Qd (h7.step hc g2) O O)<|p (λ_=>Qo)<|p (λ_=>Qa O)<|pq (λ_ hc=>Qd (h7.step hc g2) O O)<|p (λ_=>Qo) <|
   p (λ_=>Qa O)<|pq (λ_ hc=>Qd (h7.step hc g2) O O)<|p (λ_=>Qo)<|pe ⟨λg wf hCf=>QC (us:=[[.int .i64 pi]]) O O (by decide) (by simp) ⟨rfl,rfl,U⟩ λb wf' po hbf pp=>⟨po,hCf.trans po,⟨b,rfl,pp⟩,λx hx=>?_⟩,?_⟩
  ·have hxe:x=b:=by
    have hx':x∈[b]:=hx;simpa using hx'
   subst hxe;exact ⟨hbf,pp.lt⟩
  have pt:∀{X:LN},(∀x∈X,x∈ob v1∨x∈ob v2)→∀x∈X,x∈av:=λhX x hx=>by rw[←gl];exact UV ((hX x hx).imp id .inl)
  refine fk λx1 p1 c1=>xf<|(ZW (hI.step c1 kt)).mono ?_;rintro hh y1 ⟨hF,g7⟩;have P1:=hS12d.ext p1;have pb1:=LR gs c1.size;refine ⟨c1.trans hF,av,hF.any,λb hb=>.inl hb,?_⟩;refine fk λx2 p2 c2=>QC (us:=[[hh]]) O O (by decide) (by simp) ⟨Q0 g7,rfl,U⟩ λb2' y2 h5 hb2' k0=>⟨c2.trans h5,av,h5.any,λb hb=>.inl hb,?_⟩;refine fk λx3 p3 c3=>?_
  have pu:=((hF.trans p2).trans h5).trans p3;have pw:=Qq g7 ((p2.trans h5).trans p3);refine Q2 (news:=[hh]) (L:=[]) (Qq P1.o1 pu) O O O ((k0.ext p3).at (by simp)) (λu hu=>by rw[List.mem_singleton] at hu;subst hu;exact QH pw) mz (LR gs c3.size) λhf y3 ho4 h6 hn3=>?_;have P2:=Je.a1 (q:=(hh,tc)) P1 pu pw htc40 (Lr _) pb1 ho4 h6 hn3
  have pz:Step av x3 y3:=h6.mono (pt λx hx=>.inl hx);refine ⟨c3.trans' pz,av,pz,λb hb=>.inl hb,?_⟩;refine fp (λ_=>Qa O) ?_;refine fk λx4 p4 c4=>xf<|(ZW (hr.step c4 kt)).mono ?_;rintro hi y4 ⟨hM,p0⟩;have P3:=P2.ext p4;have pb3:=LR gs c4.size;refine ⟨c4.trans hM,av,hM.any,λb hb=>.inl hb,?_⟩
  refine fk λx5 p5 c5=>QC (us:=[[hi]]) O O (by decide) (by simp) ⟨Q0 p0,rfl,U⟩ λb5' y5 hY hb5' hB5'=>⟨c5.trans hY,av,hY.any,λb hb=>.inl hb,?_⟩;refine fk λx6 p6 c6=>?_;have p7:=((hM.trans p5).trans hY).trans p6;have p8:=Qq p0 ((p5.trans hY).trans p6)
  refine Q2 (news:=[hi]) (L:=[]) (Qq P3.o2 p7) O O O ((hB5'.ext p6).at (by simp)) (λu hu=>by rw[List.mem_singleton] at hu;subst hu;exact QH p8) kh (LR gs c6.size) λhg y6 ho7 gx hn6=>?_;have P4:=Je.a2 (q:=(hi,tr)) P3 p7 p8 htr40 (Lr _) pb3 ho7 gx hn6;have k4:Step av x6 y6:=gx.mono (pt λx hx=>.inr hx);refine ⟨c6.trans' k4,av,k4,λb hb=>.inl hb,?_⟩
  exact fe ⟨(hf,hg,hh,hi),⟨O,O,O,O,U⟩,c6.trans' k4,P4⟩
 rintro ⟨hf,hg,ho,hh,hi⟩ g hO k5 ⟨rfl,hJ,p9,qc⟩;simp only[] at p9 qc;have hz13:=hJ.size;have qf:=(kx.ext gg).st hJ;have hI:=hI.st hJ;have hr:=hr.st hJ;have g8:XC [] b k5.heap q:=qf.up (by simp);have hcell:∀x∈G::av,∃o:Obj,Y.heap[x]?=some o∧o.isCells=true:=λx hx=>by
  rcases Lb.1 hx with rfl | hx
  ·exact h7.cells
  rw[←gl] at hx;rcases jq hx with h1 | h1 | h1 | h1
  ·exact Go.Lg.Q0 gr.o1 x h1
  ·exact Go.Lg.Q0 gr.o2 x h1
  ·exact Go.Lg.Q0 gr.o3 x h1
  exact Go.Lg.Q0 gr.o4 x h1
 have hD13:Vp H.heap.size w7.heap.size hO k5:=((m6.up (Lr _)).ext hU).step hJ hcell;have hl7:=pd.lt;have hz910:=pc.size;have hb7n:b7∉G::av:=λhm=>by
  rcases Lb.1 hm with h1 | h1
  ·omega
  have:=(gb _ h1).2;omega
 have hb1n:b1∉G::av:=λhm=>by
  rcases Lb.1 hm with h1 | h1
  ·omega
  have:=(gb _ h1).1;omega
 have g9:=((pd.ext pg).ext gg).step hJ hb7n;have k6:=((m0.ext (h6.trans gk)).ext hU).step hJ hb1n;have hs613:Step [G] H k5:=(kp.trans hU).then hJ (λx hx=>by
  rcases Lb.1 hx with h1 | h1
  ·subst h1;exact .inl Ln
  exact .inr (gb x h1).1)
 have k7:(cos++[(hh,tc)]).map (·.2)=(T.take (k+1)).map (·.take q.c.co.length):=by rw[gp,Lt,Lt,gh,Mx,Mx,hR]
 have k8:(rqs++[(hi,tr)]).map (·.2)=(T.take (k+1)).map (·.drop q.c.co.length):=by rw[gp,Lt,Lt,gi,Mx,Mx,gq]
 have k9:pls++[pi]=(T.take (k+1)).map (λt=>plx (q.qs.map (·.2)) (t.take q.c.co.length)):=by rw[gp,Lt,gj,Mx,hR,ky]
 have hVc:Vt (auts q.c.cel.co) tc:=by
  have h1:=ge.take;rw[show (auts q.c.cel.co).length=q.c.co.length by unfold auts;rw[Lc];exact ga,hR] at h1;exact h1
 have hVr:Vt (auts q.c.cel.rq) tr:=by
  have h1:=ge.drop;rw[show (auts q.c.cel.co).length=q.c.co.length by unfold auts;rw[Lc];exact ga,gq] at h1;exact h1
 have gt:=jg hQ.ok hQ.p;have hpr:=Qex gt.2.2.1 tc;rw[ky,←gt.2.1] at hpr;have hckp:cks q.p.a pi=0:=by
  unfold cks;rw[if_neg (by rw[(ZJ q.p.a).2 gt.1];decide),if_neg (by omega)]
 have hvo:=V3 g8.k1 g8.k2 g8.k3 (hI.up (L':=[]) (by simp)) (by rw[hQ.ex,hQ.cs];exact hZ.cd) hVc.tpOk;have hw:rsn q.c.cel q.p.a pi k t.2=(match vio q.c.cel tc with | some (kd,j)=>some ⟨k,kd,j,-1⟩ | none=>match rfd q.c.cel tr (Qdc q.p.a pi) with | some (j,v)=>some ⟨k,3,j,v⟩ | none=>none):=by unfold rsn;rw[ga,hR,gq];rfl
 rw[QdH] at hw;rw[hQ.ex,hQ.cs] at hvo;refine Zd (KM q.c.cel.ex q.c.cel.cs tc) λV hV=>?_;rw[hV] at hvo hw;refine QX<|QX<|QJ (by rfl) (by rfl) ?_;refine Qb<|x (QF O)<|x (Qa O)<|x (Yy (us:=[q.vs,q.vx,q.vk]) g8.B O O O)<|Qb<|xl O<|xf<|hvo.mono ?_;rintro r14 ma ⟨hA,rfl⟩;refine Qb<|x (Ql O O)<|x (Ql O O)<|x (Ql O O)<|x (Ql O O)<|x Qg<|x Qg<|x Qg<|Qe ?_;have ka:=p9.ext hA
 have hK:=qc.ext hA;have ql:=hD13.ext hA;have qo:=hs613.trans hA;have hz14:=hA.size;have qr:fbs.length+1≤1099511627776:=by omega
 have hb014:H.heap.size≤ma.heap.size:=by omega
 have hz714:w7.heap.size≤ma.heap.size:=by omega
 refine QX<|QJ (by rfl) (by rfl) ?_;refine Qb<|xe<|KG rfl (λmc=>?_) (λmc=>?_)
 ·rw[if_pos mc] at hw;simp only[] at hw;rw[hw] at hq;refine QX<|QJ (by rfl) (by rfl) ?_;refine x (Qa O)<|x (Qd ka O O)<|x (Qd (g9.ext hA) O O)<|Qb<|Qb<|x (QD ⟨O,O,O,O,U⟩) <|
   xl rfl<|QC (us:=[ZB ⟨k,V.1,V.2.1,-1⟩]) O O (by decide) (by simp) ⟨rfl,rfl,U⟩ λb93 y1 hG hb93 mf=>?_
  have q0:=hG.size;refine xl O<|Q2 (m:=1) (news:=ZB ⟨k,V.1,V.2.1,-1⟩) (L:=[]) (Qq hK.o4 hG) O O O (mf.at (by simp)) (by simp[Value.oneCell']) qr (LR hb014 q0) λu4 y2 gu gv mg=>?_;have mh:G∉ob I:=λhm=>by have:=(Qk hK.o4 _ hm).1;omega
  refine x (Qa O)<|xl O<|QE (j:=7) (u:=u4) ((ka.ext hG).step gv mh) O O (by simp) (QH gu) λy3 mj mo=>xe ?_;have h4:=Je.add (q:=⟨k,V.1,V.2.1,-1⟩) ka hK kn hG gu gv mg mj;refine J0<|⟨((hf,hg,ho,u4),cos++[(hh,tc)],rqs++[(hi,tr)],pls++[pi]),Z,qo.then h4.1 (λx hx=>?_),((ql.step h4.1 h4.2.2).up (LR hz714 h4.1.size)),mo,?_,k7,k8,k9⟩
  ·rcases Lb.1 hx with h1 | h1
   ·subst h1;exact .inl Ln
   exact .inr (Qk hK.o4 x h1).1
  simp only[];rw[hq];exact h4.2.1
 rw[if_neg (by rw[mc];decide)] at hw;simp only[] at hw;refine Ye ?_;have hA14:=qf.ext hA;have hr:=hr.ext hA;refine QX<|QJ (by rfl) (by rfl) ?_;refine Qb<|Qb<|Qb<|xl O<|xf<|(VU (b:=b) (st:=pi) (vr:=ph) hr.cells).mono ?_;rintro r15 kb ⟨hH,c1,c2,c3,rfl,hc1,hc2,hc3,hR1,hR2,hR3⟩;refine xe ?_;have hz15:=hH.size;have g6:=ka.ext hH;have q1:=hK.ext hH
 have q2:=ql.ext hH;have q3:=qo.trans hH;have hA15:=hA14.ext hH;have g9:=g9.ext (hA.trans hH);have k6:=k6.ext (hA.trans hH);have hr:=hr.ext hH;refine Zd (wrf q.c.cel.rq tr (enb q.p.a pi)) λfl kc=>?_;have q4:∀x∈G::ob I,x∈G::av:=λx hx=>by
  rcases Lb.1 hx with rfl | hx
  ·exact Ln
  exact Ll _ (by rw[←gl];exact UV (.inr (.inr (.inr hx))))
 have mq:∀x∈G::ob I,x<ma.heap.size:=λx hx=>by
  rcases Lb.1 hx with rfl | hx
  ·omega
  exact (Qk hK.o4 x hx).2
 have q5:XC (G::ob I) b kb.heap q:=hA15.up (λx hx=>.inl (q4 x hx));have hIr15:QL (G::ob I) kb.heap ph tr:=hr.up (λx hx=>.inl (q4 x hx));have hEv:∀p∈fl,0≤p.1∧p.1<(q.c.ev.length:Int):=λp hp=>by
  rw[←kc] at hp;have h1:=(Ud.1 hp).1;unfold enb at h1;obtain ⟨e,he,h2⟩:=Lx.1 h1;have h3:=gt.2.2.2 _ (gt.1.ed e (Zu he).1).2.2.1;rw[h2] at h3;exact h3
 refine ZH<|j9 (α:={ x:Int×Int // x∈fl }) (G::ob I) (by omega) (capt:=[.pointer (some ⟨c1,0,none⟩),.pointer (some ⟨c2,0,none⟩),.pointer (some ⟨c3,0,none⟩)]) O (encs:=λx=>[.int .i64 x.1.1,.int .i64 x.1.2]) (by decide) (λ_=>O)
  (KT hR1 hR2 hR3 (λhm=>by have:=mq _ hm;omega) (λhm=>by have:=mq _ hm;omega) (λx hx=>by have:=mq _ hx;omega) q5 hIr15 (λx hx=>hZ.rq x.it (LH hx)) hVr hckp O kc)
  (λpre W=>(∀y∈pre,(q.c.cel.ev.getD y.1.1.toNat ⟨.empty,false,false,false,0⟩).co=true)∧Step [] kb W) (λpre=>(ZY.pure _).and (ZY.step (Lr _)))
  (λe pre W=>e=.exit 2∧(∃p y,pre=p++[y]∧(∀y∈p,(q.c.cel.ev.getD y.1.1.toNat ⟨.empty,false,false,false,0⟩).co=true)∧(q.c.cel.ev.getD y.1.1.toNat ⟨.empty,false,false,false,0⟩).co=false ∧
   ∃u4,Step (G::ob I) kb W∧QZ W.heap G 77 [q.s.va,.int .i64 q.s.a.st,q.s.vm,q.s.ve,hf,hg,ho,u4]∧Je H.heap.size W hf hg ho u4 (cos++[(hh,tc)]) (rqs++[(hi,tr)]) (pls++[pi]) (fbs++[⟨k,3,y.1.2,y.1.1⟩])∧Vp H.heap.size w7.heap.size hO W))
  (λe pre=>(ZY.pure _).and (ZY.ex λp=>ZY.ex λy=>(ZY.pure _).and ((ZY.pure _).and ((ZY.pure _).and (ZY.ex λu4=>(ZY.step (Lr _)).and (ZY.blk.and ((ZY.cst λW W' h hc hz=>h.cst hc hz).and (Vp.stb (by omega)))))))))
  ⟨λy hy=>(by cases hy),Step.refl _ _⟩
  (λf x f' W=>f'=upd (upd (upd (upd f 100 (.int .i64 x.1.1)) 101 (.int .i64 x.1.2)) 16 (.int .i64 x.1.1)) 17 (.int .i64 x.1.2)) (λx f'=>ZY.pure _) ?_ ?_ ?_ ?_
 ·rintro l pre ⟨⟨e,i⟩,he⟩ W S;refine QX<|QJ (by rfl) (by rfl) ?_;refine Qe<|QJ (by rfl) (by rfl) ?_;refine Qe ?_;exact ⟨O,Jr.refl _ _ _,Lg.Xv.refl _ _,S,O⟩
 ·rintro l pre ⟨⟨e,i⟩,he⟩ f' W ⟨ke,S⟩ rfl _;have hee:=hEv _ he;simp only[] at hee;have hen:e=(e.toNat:Int):=by omega
  have kf:e.toNat<q.c.ev.length:=by omega
  have hAW:=q5.ext S;refine ZH<|QX<|QJ (by rfl) (by rfl) ?_;refine x (Qa O)<|x (Qd (k6.ext S) O O)<|Qb<|xig (g:=Zk) (i:=e.toNat) yv hAW.c.ev.arr O (congrArg (Value.int .i64) hen) kf λa105 za=>?_;have hge:q.c.cel.ev.getD e.toNat ⟨.empty,false,false,false,0⟩=q.c.ev[e.toNat]'kf:=by
   show q.c.ev.getD e.toNat _=_;simp[List.getD,kf]
  refine Zd (q.c.ev[e.toNat]'kf) λv hv=>?_;rw[hv] at za hge;refine x (Zl O)<|x (Qx (za.fld 1 (.bool v.co) O) O)<|x (Zr O)<|xe<|KG O (λms=>?_) (λms=>?_)
  ·have mt:v.co=false:=by simpa using ms
   have hS:=q1.ext S;have hB:=g6.ext S;have gc:=S.size;refine QX<|QJ (by rfl) (by rfl) ?_;refine x (Qa O)<|x (Qd hB O O)<|x (Qd (g9.ext S) O O)<|Qb<|Qb<|x (QD ⟨O,O,O,O,U⟩) <|
    xl rfl<|QC (us:=[ZB ⟨k,3,i,e⟩]) O O (by decide) (by simp) ⟨rfl,rfl,U⟩ λb93 y1 hG hb93 mf=>?_
   have q0:=hG.size;refine xl O<|Q2 (m:=1) (news:=ZB ⟨k,3,i,e⟩) (L:=[]) (Qq hS.o4 hG) O O O (mf.at (by simp)) (by simp[Value.oneCell']) qr (by omega) λu4 y2 gu gv mg=>?_;have mh:G∉ob I:=λhm=>by have:=(Qk hK.o4 _ hm).1;omega
   refine x (Qa O)<|xl O<|QE (j:=7) (u:=u4) ((hB.ext hG).step gv mh) O O (by simp) (QH gu) λy3 mj mo=>xe ?_;have h4:=Je.add (q:=⟨k,3,i,e⟩) hB hS kn hG gu gv mg mj;refine J0 ?_;exact ⟨Jr.step h4.1 gc (λx hx=>⟨.inl hx,h4.2.2 x hx⟩),O,pre,_,O,ke,by simp only[];rw[hge];exact mt,u4,S.any.trans' h4.1,mo,h4.2.1,(q2.ext S).step h4.1 h4.2.2⟩
  have mt:v.co=true:=by simpa using ms
  refine Ye<|⟨Jr.refl _ _ _,Lg.Xv.refl _ _,λy hy=>?_,S⟩;rcases Lj.1 hy with h1 | h1
  ·exact ke y h1
  simp only[List.mem_singleton] at h1;subst h1;simp only[];rw[hge];exact mt
 ·rintro D xs W hD hxs ⟨ke,S⟩ mu;have mv:rfd q.c.cel tr (Qdc q.p.a pi)=none:=UD λx hx=>by
   rw[show wrf q.c.cel.rq tr (Qdc q.p.a pi)=fl from kc,←hxs] at hx;obtain ⟨y,hy,rfl⟩:=Lx.1 hx;exact ke y hy
  rw[mv] at hw;rw[hw] at hq;refine ⟨((hf,hg,ho,I),cos++[(hh,tc)],rqs++[(hi,tr)],pls++[pi]),Z,q3.trans S,(q2.ext S).cons (by omega) (by omega) mu,g6.ext S,?_,k7,k8,k9⟩;simp only[];rw[hq];have h9:=q1.ext S;simpa using h9
 rintro D e pre W hD hSp ⟨rfl,p,y,rfl,hp,hy,u4,hst,hBu,hSu,hDu⟩ mu _;have mv:rfd q.c.cel tr (Qdc q.p.a pi)=some (y.1.2,y.1.1):=by
  obtain ⟨rs,zv⟩:=hSp;rw[Lt] at zv;refine UC (x:=y.1) (t:=rs) (p:=p.map (·.1)) ?_ (λz hz=>?_) hy
  ·exact (show wrf q.c.cel.rq tr (Qdc q.p.a pi)=fl from kc).trans (zv.symm.trans (by simp))
  obtain ⟨z',hz',rfl⟩:=Lx.1 hz;exact hp z' hz'
 rw[mv] at hw;simp only[] at hw;rw[hw] at hq;refine ⟨((hf,hg,ho,u4),cos++[(hh,tc)],rqs++[(hi,tr)],pls++[pi]),Z,q3.then hst (λx hx=>?_),hDu.cons (by omega) (by omega) mu,hBu,?_,k7,k8,k9⟩
 ·rcases Lb.1 hx with h1 | h1
  ·subst h1;exact .inl Ln
  exact .inr (Qk hK.o4 x h1).1
 simp only[];rw[hq];exact hSu
end Go.Proofs.YtdffckgdcegpaaaGreatDoor
namespace Go.Lg
theorem At.from {L:LN}{H:Array Obj}{a:Addr}{us:LV}(h:At L H a us) (j:Nat):At L H (a.add j) (us.drop j) :=
 ⟨λu hu=>by rw[Z3];exact h.out u (MF hu),λu hu=>by rw[Z3];exact h.lt u (MF hu),λi v E=>by
  rw[Addr.add_add];exact h.cell (j+i) v (by rw[←ME];exact E)⟩
end Go.Lg
namespace Go.Proofs.YtdffckgdcegpaaaGreatDoor
open Go.Proofs.Tryz
open Go.Lg
def lwB (l:LI) (n:Int):Nat:=(l.filter λx=>decide (x<n)).length
theorem Qjk {l:LI}{n:Int}{i:Nat}(_:Yg l) (hi:i≤l.length) (h1:∀m (hm:m<l.length),m<i→l[m]<n) (h2:∀m (hm:m<l.length),i≤m→n≤l[m]):lwB l n=i:=by
 unfold lwB;have e1:(l.take i).filter (λx=>decide (x<n))=l.take i:=Ng.2 λx hx=>by
  obtain ⟨m,hm,rfl⟩:=LE hx;rw[M0];have E:m<i∧m<l.length:=by rw[Lv] at hm;omega
  exact decide_eq_true (h1 m E.2 E.1)
 have e2:(l.drop i).filter (λx=>decide (x<n))=[]:=M5.2 λx hx=>by
  obtain ⟨m,hm,rfl⟩:=LE hx;rw[List.getElem_drop];have E:i+m<l.length:=by rw[Mg] at hm;omega
  have:=h2 (i+m) E (by omega);simp;omega
 have G:l.filter (λx=>decide (x<n))=l.take i:=by
  conv=>lhs;rw[←MC i l]
  rw[L0,e1,e2,LF]
 rw[G,Lv];omega
theorem QbT:∀{l:LI}{n:Int},Yg l→n∈l→lwB l n=l.idxOf n
 | [],_,_,h=>by cases h
 | a::l,n,hi,h=>by
  have E:=LU.1 hi;unfold lwB;by_cases e:a=n
  ·subst e;have e2:l.filter (λx=>decide (x<a))=[]:=M5.2 λx hx=>by have:=E.1 x hx;simp;omega
   rw[L9,if_neg (by simp),e2];simp
  have hm:n∈l:=by
   rcases Lb.1 h with h1 | h1
   ·exact absurd h1.symm e
   exact h1
  have ih:=QbT E.2 hm;unfold lwB at ih;have ha:=E.1 n hm;rw[L9,if_pos (decide_eq_true ha),LG,ih,List.idxOf_cons];have:(a == n)=false:=by simpa using e
  rw[this];rfl
theorem j2 {L:LN}{w:World}{v:Value}{l:LI}(h:QL L w.heap v l) (hi:Yg l) (n:Int) :
  QK prog 84 [v,.int .i64 n] w λr w'=>w'=w∧r=.tuple #[.int .i64 (lwB l n),.bool (decide (n∈l))]:=by
 have hu:=h.le;refine QK.of_W func84 O ntmps84 results84 (by simp) ?_;refine Qc<|x Qg<|Qe<|Qc<|Qb<|x (Qs h O)<|Qe<|Qc<|Qb<|x Qg<|Qe<|Qf<|Qh<|QB (α:=Nat×Nat) [(7,9),(13,30)] (λz=>[(7,.int .i64 z.1),(8,.int .i64 z.2)])
  (λz w'=>w'=w∧z.1≤z.2∧z.2≤l.length∧(∀m (hm:m<l.length),m<z.1→l[m]<n)∧(∀m (hm:m<l.length),z.2≤m→n≤l[m])) (λz=>z.2 - z.1) (by rfl) (0,l.length) ⟨O,O,U⟩
  ⟨O,Lk _,Lr _,λm _ J=>absurd J (Nr m),λm h1 J=>absurd h1 (by simp only[] at J;omega)⟩ ?_
 rintro ⟨i,j⟩ g w1 ⟨rfl,hc,V,E,G⟩;simp only[] at hc V E G;refine Qf<|Qc<|Qb<|Qb<|x (QA O O)<|xe<|QG rfl (λhe=>?_) (λhe=>?_)
 ·have e:i=j:=by omega
  subst e;refine Qz<|QU (α:=Bool) [(4,5),(31,53)] (λz=>[(4,.int .i64 i),(5,.bool z)]) (λz w'=>w'=w1∧z=decide (n∈l)) (by rfl) ?_ ?_
  ·refine Qy<|Qb<|Qb<|Qb<|xb (QA O O) (λhf=>?_) (λhf=>?_)
   ·have H:i<l.length:=by omega
    refine Qb<|Qb<|Qb<|xii h O O H λhv hg=>x (Qx hg O)<|Qb<|xb (Q5 O O) (λS=>?_) (λS=>?_)
    ·refine Qb<|xs O<|xs O<|xs O<|xs O<|xs O<|xs O<|xs O<|xs O<|xs O<|x (Qm O)<|x (Qm O)<|x Qg<|Qe ?_;have:n∈l:=by rw[←S];exact Li H
     exact ⟨true,⟨O,O,U⟩,O,by simp[this]⟩
    refine Qb<|Qb<|Qb<|xii h O O H λhw hk=>x (Qx hk O)<|xl O<|xf<|(jz _).mono ?_;rintro r3 w3 ⟨rfl,rfl⟩;refine Qb<|xs O<|xs O<|x (Qm O)<|x (Qm O)<|x (Qm O)<|x Qg<|Qe<|⟨false,⟨O,O,U⟩,O,?_⟩;have:n∉l:=by
     intro hm;obtain ⟨m,I,Y⟩:=LE hm;by_cases hl:m<i
     ·have:=E m I hl;omega
     by_cases hn:m=i
     ·subst hn;exact S Y
     have:=Yg.get hi I (show i<m by omega);have:=G i H (Lr _);omega
    simp[this]
   refine Qb<|xs O<|xs O<|xs O<|xs O<|xs O<|xs O<|xs O<|xs O<|xs O<|xs O<|xs O<|xs O<|xs O<|xs O<|xs O<|xs O<|xs O <|
    x (Qm rfl)<|x Qg<|Qe<|⟨false,⟨O,O,U⟩,O,?_⟩
   have:n∉l:=by
    intro hm;obtain ⟨m,I,Y⟩:=LE hm;have:=E m I (by omega);omega
   simp[this]
  rintro z g w7 ⟨rfl,rfl⟩;exact Qn ⟨[.int .i64 i,.bool (decide (n∈l))],⟨O,O,U⟩,O,by rw[Qjk hi (show i≤l.length by omega) E G];rfl⟩
 have hy:i<j:=by omega
 refine Qi<|Qh<|Qc<|Qb<|Qb<|QP O O<|x (ZP O (by exact ⟨by omega,by omega⟩))<|x (qY (n:=1) O O (by decide))<|x (ZP O (by exact ⟨by omega,by omega⟩))<|Qe ?_;have hh:(((i:Int)+(j:Int)) / 2 ^ 1)=(((i+j) / 2:Nat):Int):=by omega
 rw[hh];generalize hq:(i+j) / 2=q;have ho:i≤q:=by omega
 have hp:q<j:=by omega
 have ha:q<l.length:=by omega
 refine Qc<|Qb<|Qb<|xii h O O ha λhz hr=>x (Qx hr O)<|Qb<|xl O<|xf<|(QbW _ _).mono ?_;rintro r8 w8 ⟨rfl,rfl⟩;refine xe<|QG rfl (λhb=>?_) (λhb=>?_)
 ·refine Qy<|Qb<|Qe<|⟨(i,q),by simp only[];omega,⟨O,O,U⟩,O,ho,by omega,E,λm hm hs=>?_⟩;by_cases e:q=m
  ·subst e;omega
  have:=Yg.get hi hm (show q<m by simp only[] at hs;omega);omega
 refine Qy<|Qb<|QP O O<|Qe<|⟨(q+1,j),by simp only[];omega,⟨O,O,U⟩,O,hp,V,λm hm ht=>?_,G⟩;by_cases e:m=q
 ·subst e;exact hb
 have:=Yg.get hi ha (show m<q by simp only[] at ht;omega);omega
theorem Ku {L:LN}{w:World}{v:Value}{l:List Ed}(h:Zp L w.heap v l.length 3 (l.flatMap Qw)) :
  QK prog 67 [v] w λr w'=>Step [] w w'∧w'.ownsRow w.heap.size 144 3 r l.length (l.flatMap Qw):=by
 have hb:=h.le;refine QK.of_W func67 O ntmps67 results67 (by simp) ?_;refine Qc<|Qe ?_;obtain ⟨ao,cap,E⟩:=h.shape;refine Qf<|Qc<|Qb<|x (KX (show ev _ _=_ from E) O)<|xe<|Q3 rfl (λG=>?_) (λG=>?_)
 ·refine Qc<|Qe<|Qn ⟨[nS],Z,Step.refl _ _,?_⟩;rcases h.2.2 with ⟨h1,h2⟩ | ⟨a,c,h1,_⟩
  ·have:l=[]:=Lp h2;subst this;exact QN _ _ _ _
  rw[h1] at E;cases E;cases G
 rcases h.2.2 with ⟨h1,h2⟩ | ⟨a,c,h1,h2,h3⟩
 ·rw[h1] at E;injection E with e1;subst e1;cases G
 refine Qi<|Qc ?_;have S:∀u∈l.flatMap Qw,u.oneCell'=true:=by
  intro u hu;obtain ⟨p,_,hp⟩:=Mi.1 hu;simp only[Qw,List.mem_cons,List.not_mem_nil,or_false] at hp;rcases hp with rfl | rfl | rfl <;> rfl
 refine xl rfl<|Kp λb5 w1 H I J=>Qb<|xl O<|Q2 (base:=w.heap.size) (J.own (n:=0) (sz:=3) O (by omega) I) O (show ev _ _=_ from h1) h.1 (h3.ext H) S (by omega) (by have:=J.lt;omega) λV w2 Y ha hc=>Qe<|Qn ⟨[V],Z,H.then1 ha I,?_⟩;simpa[tup] using Y
theorem Qa4 {L:LN}{w:World}{v:Value}{l:List Ke}(h:Zp L w.heap v l.length 5 (l.flatMap Zk)) :
  QK prog 81 [v] w λr w'=>Step [] w w'∧w'.ownsRow w.heap.size 87 5 r l.length (l.flatMap Zk):=by
 have hb:=h.le;refine QK.of_W func81 O ntmps81 results81 (by simp) ?_;refine Qc<|Qe ?_;obtain ⟨ao,cap,E⟩:=h.shape;refine Qf<|Qc<|Qb<|x (KX (show ev _ _=_ from E) O)<|xe<|Q3 rfl (λG=>?_) (λG=>?_)
 ·refine Qc<|Qe<|Qn ⟨[nS],Z,Step.refl _ _,?_⟩;rcases h.2.2 with ⟨h1,h2⟩ | ⟨a,c,h1,_⟩
  ·have:l=[]:=Lp h2;subst this;exact QN _ _ _ _
  rw[h1] at E;cases E;cases G
 rcases h.2.2 with ⟨h1,h2⟩ | ⟨a,c,h1,h2,h3⟩
 ·rw[h1] at E;injection E with e1;subst e1;cases G
 refine Qi<|Qc ?_;have S:∀u∈l.flatMap Zk,u.oneCell'=true:=by
  intro u hu;obtain ⟨p,_,hp⟩:=Mi.1 hu;simp only[Zk,List.mem_cons,List.not_mem_nil,or_false] at hp;rcases hp with rfl | rfl | rfl | rfl | rfl <;> rfl
 refine xl rfl<|Kp λb5 w1 H I J=>Qb<|xl O<|Q2 (base:=w.heap.size) (J.own (n:=0) (sz:=5) O (by omega) I) O (show ev _ _=_ from h1) h.1 (h3.ext H) S (by omega) (by have:=J.lt;omega) λV w2 Y ha hc=>Qe<|Qn ⟨[V],Z,H.then1 ha I,?_⟩;simpa[tup] using Y
structure Y5 {α:Type}(g:α→LV) (sz T:Nat) (ps:α→List (Value×Nat×Nat×LV)) (base:Nat) (w:World) (v:Value) (l:List α):Prop where
 own:w.ownsRow base T sz v l.length (l.flatMap g)
 each:∀q∈l,∀t∈ps q,ZL base (ob v) w.heap t.1 t.2.1 t.2.2.1 t.2.2.2
section
variable {α:Type} {g:α→LV} {sz T:Nat} {ps:α→List (Value×Nat×Nat×LV)} {base:Nat} {w w':World} {v:Value} {l:List α}
theorem Y5.nil:Y5 g sz T ps base w (nS) []:=⟨QN _ _ _ _,λq hq=>by cases hq⟩
theorem Y5.ext (h:Y5 g sz T ps base w v l) (hs:Step [] w w'):Y5 g sz T ps base w' v l:=⟨Qq h.own hs,λq hq t E=>(h.each q hq t E).ext hs⟩
theorem Y5.low {X:LN}(h:Y5 g sz T ps base w v l) (hs:Step X w w') (E:∀b∈X,b<base):Y5 g sz T ps base w' v l :=
 ⟨Qj h.own hs (λb hb hm=>by have:=(Qk h.own b hb).1;have:=E b hm;omega),λq hq t G=>(h.each q hq t G).low hs E⟩
theorem Y5.app {E G:World}{H:Value}{q:α}(h:Y5 g sz T ps base w v l) (hs:Step [] w E)
  (hq:∀t∈ps q,∃N e,E.ownsRow N e t.2.2.1 t.1 t.2.1 t.2.2.2∧t.2.1≤1099511627776∧w.heap.size≤N) (hb:base≤w.heap.size)
  (V:G.ownsRow base T sz H (l.length+1) (l.flatMap g++g q)) (I:Step (ob v) E G) (J:∀b∈ob H,b∈ob v∨E.heap.size≤b):Y5 g sz T ps base G H (l++[q]):=by
 have Y:=QR h.own;refine ⟨?_,λd hd t S=>?_⟩
 ·rw[Lh,Ly];simpa using V
 rcases Lj.1 hd with hd | hd
 ·exact ((h.each d hd t S).ext hs).app I J
 simp only[List.mem_singleton] at hd;subst hd;obtain ⟨N,e,h1,h2,h3⟩:=hq t S;exact (ZL.of_own h1 h2 (by omega) (λb hb=>by have:=Y b hb;omega)).app I J
end
abbrev Qc1 (q:IV):List (Value×Nat×Nat×LV):=[(q.p.va,q.p.a.al.length,1,q.p.a.al.map (.int .i64)),(q.p.vm,q.p.a.mr.length,1,q.p.a.mr.map (.int .i64)),(q.p.ve,q.p.a.ed.length,3,q.p.a.ed.flatMap Qw)]
abbrev IvP (base:Nat) (w:World) (v:Value) (l:List IV):Prop:=Y5 Za 5 66 Qc1 base w v l
def QlM (N:Nat) (H:Array Obj) (v:Value) (l:List YN):Prop:=∃qs:List IV,qs.map IV.it=l∧∀L:LN,(∀b∈L,b<N)→Y9 L H v qs
theorem IvP.itms {base:Nat}{w:World}{v:Value}{l:List IV}{L:LN}(h:IvP base w v l) (G:l.length≤1099511627776) (hm:∀q∈l,V7 q.nm) (E:∀b∈L,b<base):Y9 L w.heap v l :=
 ⟨QT h.own G (λb hb H=>by have:=(Qk h.own b hb).1;have:=E b H;omega),λq hq=>⟨h.each q hq (q.p.va,q.p.a.al.length,1,q.p.a.al.map (.int .i64)) (by simp) L (λb hb=>.inl (E b hb)),h.each q hq (q.p.vm,q.p.a.mr.length,1,q.p.a.mr.map (.int .i64)) (by simp) L (λb hb=>.inl (E b hb)),h.each q hq (q.p.ve,q.p.a.ed.length,3,q.p.a.ed.flatMap Qw) (by simp) L (λb hb=>.inl (E b hb))⟩,hm⟩
instance:Bw prog 66 [.string .empty,nS,.int .i64 0,nS,nS] [(0,1),(1,4)]:=⟨by kernel_rfl,by decide⟩
set_option maxHeartbeats 4000000 in
theorem qd {L:LN}{w:World}{v vi:Value}{qs:List IV}{ix:LI}(h0:Y9 L w.heap v qs) (hD:QL L w.heap vi ix) (hb:∀i∈ix,0≤i∧i<(qs.length:Int)) :
  QK prog 82 [v,vi] w λr w'=>Step [] w w'∧QlM w.heap.size w'.heap r (chs (qs.map IV.it) ix)∧r.oneCell'=true:=by
 have h:Y9 [] w.heap v qs:=h0.up (by simp);have hi:QL [] w.heap vi ix:=hD.up (by simp);have hT:=hi.le;refine QK.of_W func82 O ntmps82 results82 (by simp) ?_;refine Qc<|Qe<|Qc<|Qe<|Qf<|Qc<|Qb<|x (Qs hi O)<|Qb<|xe ?_
 refine Qh<|QB (α:=Nat×Value×List IV) [(5,5),(7,8),(11,41)] (λz=>[(5,z.2.1),(11,.int .i64 z.1)]) (λz w'=>z.1≤ix.length∧Step [] w w'∧IvP w.heap.size w' z.2.1 z.2.2∧z.2.2.map IV.it=chs (qs.map IV.it) (ix.take z.1)∧∀q∈z.2.2,V7 q.nm) (λz=>ix.length - z.1) (by rfl) (0,nS,[]) ⟨O,O,U⟩
  ⟨Lk _,Step.refl _ _,Y5.nil,O,λq hq=>by cases hq⟩ ?_
 rintro ⟨k,vo,qo⟩ g w1 ⟨hk,H,I,hf,hp⟩;simp only[] at hk I hf hp;have hU:qo.length=k:=by have:=congrArg List.length hf;unfold chs at this;rw[Lc,Lc,Lv] at this;omega
 refine Qc<|x (QA O O)<|xe<|Qf<|QG O (λhr=>?_) (λhr=>?_)
 ·refine Qz ?_;have hE:ix.length≤k:=by have hh:¬(k:Int)<(ix.length:Int):=hr;omega
  rw[Lm hE] at hf;refine Qc<|Qb<|Qe ?_;exact Qn ⟨[_],Z,H,⟨qo,hf,λL hL=>I.itms (by omega) hp hL⟩,QH I.own⟩
 refine Qi ?_;have J:k<ix.length:=by have hh:(k:Int)<(ix.length:Int):=hr;omega
 have hF:=hb _ (Li J);have h6:ix.take (k+1)=ix.take k++[ix[k]'J]:=Le J;refine Zd (ix[k]'J) λi h7=>?_;rw[h7] at hF h6;have h8:i=(i.toNat:Int):=by omega
 have S:i.toNat<qs.length:=by omega
 have hA:chs (qs.map IV.it) (ix.take (k+1))=chs (qs.map IV.it) (ix.take k)++[(qs[i.toNat]'S).it]:=by
  rw[h6];unfold chs;rw[Lt];simp[List.getD,S]
 have h1:=h.ext H;have hs:=Li S;refine Zd (qs[i.toNat]'S) λq hq=>?_;rw[hq] at hA hs;have G:=h1.each q hs;have hG:=h1.nm q hs;refine Qf<|Qh<|Qc<|xii (i:=k) (hi.ext H) O O J λhV hh=>?_;rw[h7] at hh;refine x (Qx hh O)<|Qe<|Qc<|Qb<|Qb<|xig (g:=Za) (i:=i.toNat) YT h1.arr O (congrArg (Value.int .i64) h8) S λhW hB=>?_;rw[hq] at hB
 refine x (Zl O)<|x (QI (us:=[q.p.va,.int .i64 q.p.a.st,q.p.vm,q.p.ve]) (hB.from 1) O O)<|xl O<|Qt (us:=[nS,.int .i64 0,nS,nS]) O λb8 w2 hH hI V =>
  xl rfl<|Qp (us:=[q.p.va,.int .i64 q.p.a.st,q.p.vm,q.p.ve]) V O O O O ⟨G.al.one,O,G.mr.one,G.ed.one,U⟩ λE hJ V=>xe ?_
 have hj:Step [] w1 E:=hH.then1 hJ hI;have Y:Step [] E { E with drawn:=E.drawn+1 }:=Step.drew _ _
 have hX:=hj.size;have hY:=H.size;have hv:=Qk I.own;have h3:Y9 (ob vo) E.heap v qs:=(h.up (L':=ob vo) (λb hb=>.inr (hv b hb).1)).ext (H.trans hj);have hl:b8∉ob vo:=λhm=>by have:=(hv b8 hm).2;omega
 have hw:=G.ext hj;refine QW (Step (ob vo) E) [(0,true),(1,true),(2,true),(3,true),(4,true),(5,true),(6,true),(7,true),(9,true),(10,true),(11,true),(12,true),(14,true),(15,true),(8,false),(13,false),(16,false),(17,true),(18,true),(19,false),(20,false),(21,true)] mixed (by rfl) (by kernel_rfl) (Step.drew _ _) ?_
 refine p (λ_=>Qo)<|p (λ_=>Qo)<|p (λ_=>Qo)<|Go.Lg.pig (g:=Za) (i:=i.toNat) O YT h3.arr O (congrArg (Value.int .i64) h8) S λhZ hC=>?_;rw[hq] at hC;refine p (λ_=>Zl O)<|pq (λ_ hc=>Qx ((hC.fld 0 (.string q.nm) O).st hc) O)<|p (λ_=>Qa O)<|pq (λ_ hc=>Qd (V.step hc hl) O O)<|p (λ_=>Qa O) <|
  pq (λ_ hc=>Qd (V.step hc hl) O O)<|p (λ_=>Qa O)<|pq (λ_ hc=>Qd (V.step hc hl) O O) <|
  p (λ_=>Qa O)<|pq (λ_ hc=>Qd (V.step hc hl) O O)<|pk<|xf<|(ZW (hw.al.ext Y)).mono ?_
 rintro r4 w4 ⟨ha,hy⟩;refine ⟨(Y.trans ha).any,?_⟩;refine pk<|xf<|(ZW ((hw.mr.ext Y).ext ha)).mono ?_;rintro r5 w5 ⟨hg,hz⟩;refine ⟨((Y.trans ha).trans hg).any,?_⟩;refine pk<|xf<|(Ku (((hw.ed.ext Y).ext ha).ext hg)).mono ?_;rintro r6 w6 ⟨h2,h4⟩;have hn:=((Y.trans ha).trans hg).trans h2;refine ⟨hn.any,?_⟩
 refine p (λ_=>QD ⟨Q0 hy,O,Q0 hz,Q0 h4,U⟩)<|p (λ_=>ZV [(0,[.string q.nm]),(1,[r4,.int .i64 q.p.a.st,r5,r6])] ⟨O,O,O,O,U⟩)<|pk<|QC (us:=[Za ⟨q.nm,⟨r4,r5,r6,q.p.a⟩⟩]) O O (by decide) (by simp) ⟨rfl,rfl,U⟩ λga w7 he gb hK=>⟨(hn.trans he).any,?_⟩;have ho:=(hj.trans hn).trans he;have gc:=ho.size;have ge:({ E with drawn:=E.drawn+1 }:World).heap.size=E.heap.size:=rfl
 have gg:=ha.size;have gh:=hg.size;refine pk<|Q2 (m:=1) (news:=Za ⟨q.nm,⟨r4,r5,r6,q.p.a⟩⟩) (L:=[]) (Qq I.own ho) O O O (hK.at (by simp)) (λu hu=>by
   simp only[List.mem_cons,List.not_mem_nil,or_false] at hu;rcases hu with rfl | rfl | rfl | rfl | rfl
   ·rfl
   ·exact QH hy
   ·rfl
   ·exact QH hz
   exact QH h4) (by omega) (by omega) λv8 w8 hM h5 hN=>⟨(hn.trans he).any.trans' h5,?_⟩
 refine p (λ_=>Qg)<|pe ?_;have hO:=G.al.le;have hP:=G.mr.le;have hQ:=G.ed.le;have hR:IvP w.heap.size w8 v8 (qo++[⟨q.nm,⟨r4,r5,r6,q.p.a⟩⟩]):=I.app ho (λt ht=>by
  simp only[List.mem_cons,List.not_mem_nil,or_false] at ht;rcases ht with rfl | rfl | rfl
  ·exact ⟨_,_,Qq (Qq (Qq hy hg) h2) he,hO,by omega⟩
  ·exact ⟨_,_,Qq (Qq hz h2) he,hP,by omega⟩
  exact ⟨_,_,Qq h4 he,hQ,by omega⟩) (by omega) hM h5 hN
 refine Qy<|QP O O<|Qb<|xe<|⟨(k+1,v8,_),by simp only[];omega,⟨O,O,U⟩,J,(H.trans ho).then h5 (λb hb=>.inr (hv b hb).1),hR,?_,λq' hS=>?_⟩
 ·simp only[];rw[hA,Lt,hf];rfl
 rcases Lj.1 hS with h9 | h9
 ·exact hp q' h9
 simp only[List.mem_singleton] at h9;subst h9;exact hG
theorem qW {L:LN}{w:World}{bp bm:Nat}{G H I J:Value}{co:LI}{mi:Bool}(S:QZ w.heap bp 95 [G,H,I,J]) (hm:QZ w.heap bm 4 [.bool mi]) (V:QL L w.heap G co) (hi:Yg co) (n:Int) :
  QK prog 83 [.int .i64 n,.pointer (some ⟨bp,0,none⟩),.pointer (some ⟨bm,0,none⟩)] w λr w'=>Step [bm] w w'∧r=.int .i64 (lwB co n)∧QZ w'.heap bm 4 [.bool (mi || !decide (n∈co))]:=by
 refine QK.of_W func83 O ntmps83 results83 (by simp) ?_;refine Qc<|Qe<|Qc<|x (Qa O)<|x (Qd S O O)<|Qb<|xl O<|xf<|(j2 V hi n).mono ?_;rintro r1 Y ⟨rfl,rfl⟩;refine Qb<|x (Ql O O)<|x (Ql O O)<|x Qg<|Qe<|QU (α:=Bool) [(14,18)] (λz=>[]) (λz w'=>Step [bm] Y w'∧QZ w'.heap bm 4 [.bool (mi || !decide (n∈co))]) (by rfl) ?_ ?_
 ·refine Qy<|xB (Qd hm O O) (λE=>?_) (λE=>?_)
  ·refine Qb<|xs O<|xs O<|x (Qm O)<|xl O<|QE (j:=0) (u:=.bool true) hm O O (by simp) rfl λw2 ha hb=>xe ?_;exact ⟨true,U,ha,by rw[E];exact hb⟩
  refine Qb<|Qb<|x (Zr O)<|x (Qm O)<|xl O<|QE (j:=0) (u:=.bool (!decide (n∈co))) hm O O (by simp) rfl λw3 hc he=>xe ?_;exact ⟨true,U,hc,by rw[E];exact he⟩
 rintro z g w4 ⟨hf,hg⟩;refine Qc<|Qb<|Qe ?_;exact Qn ⟨[_],Z,hf,O,hg⟩
theorem ZL.of_lt {base N:Nat}{av:LN}{H:Array Obj}{v:Value}{n sz:Nat}{cs:LV}(h:∀L:LN,(∀b∈L,b<N)→Zp L H v n sz cs) (hb:base≤N) (E:∀b∈av,b<N):ZL base av H v n sz cs:=λL G =>
 h L (λb I=>(G b I).elim (λh=>by omega) (E b))
theorem Ji (L:LN) (H:Array Obj):QL L H (nS) []:=Zp.nil L H 1
end Go.Proofs.YtdffckgdcegpaaaGreatDoor
namespace Go.Lg
open Go.RowKit
def qh (P:Program) (all:List Oper) (C:World→Prop) (K:LN→Fr→World→Prop):List (Nat×Bool)→LN→Fr→World→Prop
 | [],own,f,w=>K own f w
 | (j,true)::l,own,f,w=>Yh all f (Q4 all j)=true∧∃v,(∀w',(qw (Q4 all j)=true→C w')→(execOp (ev f) (Q4 all j)).run P w'=.ok (.value v) w')∧qh P all C K l own (QV f (Q4 all j).dst v) w
 | (j,false)::l,own,f,w=>Yh all f (Q4 all j)=true∧∀w1,Step [] w w1→C w1→XO P (Q4 all j) f w1 λE w'=>C w'∧∃own',Step own w1 w'∧(∀b∈own',b∈own∨(w1.heap.size≤b∧b<w'.heap.size))∧qh P all C K l own' E w'
section
variable {P:Program} {n:Nat} {f:Fr} {w:World} {all:List Oper} {C:World→Prop} {K:Fr→World→Prop} {KF:LN→Fr→World→Prop}
theorem qh.ext (E:∀own f w w',KF own f w→Step [] w w'→KF own f w'):∀{l:List (Nat×Bool)}{own:LN}{f:Fr}{w w':World},qh P all C KF l own f w→Step [] w w'→qh P all C KF l own f w'
 | [],_,_,_,_,h,hs=>E _ _ _ _ h hs
 | (_,true)::_,_,_,_,_,h,hs=>by
  obtain ⟨G,v,H,hx⟩:=h;exact ⟨G,v,H,qh.ext E hx hs⟩
 | (_,false)::_,_,_,_,_,h,hs=>⟨h.1,λI h1 hc=>h.2 I (hs.trans h1) hc⟩
structure Fl2 (P:Program) (all:List Oper) (C:World→Prop) (K:Fr→World→Prop) (KF:LN→Fr→World→Prop) (i d:Nat) (rest:List (Nat×Bool)) (Φ:Value→World→Prop) (Dc:List (Nat×Nat)) (f1:Fr):Prop where
 stab:∀v (own:LN) w w',Φ v w→Step own w w'→(∀b∈ow v,b∉own)→Φ v w'
 spec:∀f w,(∀t,Xo Dc t=false→f t=f1 t)→C w→XO P (Q4 all i) f w λf' w'=>Step [] w w'∧C w'∧Φ (f' d) w'∧∀b∈ow (f' d),w.heap.size≤b∧b<w'.heap.size
 fin:∀own f w,KF own f w→∀v,C w→Φ v w→(∀b∈ow v,b∉own∧b<w.heap.size)→XP P all C K rest (QV f (some d) v) w
 mono:∀own f w w',KF own f w→Step [] w w'→KF own f w'
attribute [local semireducible] XP in
theorem VP {i d:Nat}{rest:List (Nat×Bool)}{Φ:Value→World→Prop}{Dc:List (Nat×Nat)}{f1:Fr}(G:Fl2 P all C K KF i d rest Φ Dc f1) (hs:Region.noSelect all.toArray=true) {v:Value}:∀(l:List (Nat×Bool)) (own:LN) (f:Fr) (w:World),Yb all d l=true→qh P all C KF l own f w→C w→Φ v w →
  (∀b∈ow v,b∉own∧b<w.heap.size)→XP P all C K (l++rest) (QV f (some d) v) w
 | [],own,f,w,_,h,hC,H,hb=>G.fin own f w h v hC H hb
 | (j,q)::l,own,f,w,hfr,h,hC,H,hb=>by
  simp only[Yb,List.all_cons,Bool.and_eq_true,Bool.not_eq_true',List.contains_eq_mem,decide_eq_false_iff_not,beq_eq_false_iff_ne,ne_eq] at hfr;obtain ⟨⟨h1,h2⟩,hfr⟩:=hfr;have I:Yb all d l=true:=by simpa[Yb] using hfr
  have S:∀cs b,(Q4 all j).op≠.select cs b:=by
   intro cs b;cases J:all[j]? with
   | none =>
    have:Q4 all j=default:=by
     clear h h1 h2 hfr I;have key:∀(l:List Oper) (j:Nat),l[j]?=none→Q4 l j=default:=by
      intro l;induction l with
      | nil=>intro j _;rfl
      | cons a l ih=>intro j T;cases j with | zero=>simp at T | succ j=>exact ih j (by simpa using T)
     exact key all j J
    rw[this];intro e;cases e
   | some o=>rw[Zm J];exact Region.noSelect_spec hs j o cs b (by simpa using J)
  have hd:∀e,some d=some e→e∉(Q4 all j).looksAt all.toArray:=λe he=>by cases he;exact h1
  cases q with
  | true =>
   obtain ⟨hg,u,hu,hx⟩:=h;simp only[List.cons_append,XP];rw[X9 (Q4 all j) f (some d) v hd,hg,cond_true,cond_true];refine ⟨u,λw' hc=>?_,?_⟩
   ·rw[Y3 (all:=all) S f (some d) v hd];exact hu w' hc
   rw[J2 f v u (λe he=>by cases he;exact h2)];exact VP G hs l own _ w I hx hC H hb
  | false =>
   simp only[List.cons_append,XP];rw[X9 (Q4 all j) f (some d) v hd,h.1,cond_true,cond_false];refine Qcs (all:=all) S h1 h2 (λu w' hx=>?_) (h.2 w (Step.refl _ _) hC);obtain ⟨V,own',Y,ha,hx⟩:=hx;refine ⟨.inr (.inr V),VP G hs l own' _ w' I hx V (G.stab v own w w' H Y (λb E=>(hb b E).1)) (λb E=>⟨λhm=>?_,LW (hb b E).2 Y.size⟩)⟩
   rcases ha b hm with h3 | h3
   ·exact (hb b E).1 h3
   exact Ns _ (LW (hb b E).2 h3.1)
theorem Qbc {i d:Nat}{rest:List (Nat×Bool)}{Φ:Value→World→Prop}{Dc:List (Nat×Nat)}{f1:Fr}(G:Fl2 P all C K KF i d rest Φ Dc f1) (hs:Region.noSelect all.toArray=true) (S:(Q4 all i).guard=none) (hd:(Q4 all i).dst=some d):∀(l:List (Nat×Bool)) (ls:Array Bool) (own:LN) (f:Fr) (w:World),ls.size=all.length→Yb all d l=true→Z7 all Dc l=true→(∀t,Xo Dc t=false→f t=f1 t) →
  qh P all C KF l own f w→C w→(∀b∈own,b<w.heap.size)→UZ all.toArray i rest l ls=true→XA P all C K (l.length+1+rest.length) ls f w
 | [],ls,own,f,w,Y,hfr,H,T,h,hC,V,hp=>by
  simp only[UZ,Bool.and_eq_true,beq_iff_eq] at hp;obtain ⟨I,hp⟩:=hp;rw[show ([]:List (Nat×Bool)).length+1+rest.length=rest.length+1 by simp;omega];refine Jq (λh0=>(by rw[h0] at I;cases I)) ?_;rw[I];intro k hk o E;have hc:k=i:=by simpa using hk
  subst hc;have ha:=Zm E;have hx:=G.spec f w T hC;rw[ha] at S hd hx;rw[Va S,cond_true];refine hx.mono λv w' hx=>?_;rw[hd] at hx ⊢;obtain ⟨h1,h2,h3,J⟩:=hx;simp only[QV,Yw] at h3 J
  refine ⟨.inr (.inr h2),ZE hs rest _ _ _ (by simpa using Y) (.inl h2) hp (G.fin own f w' (G.mono own f w w' h h1) v h2 h3 (λb hb=>⟨λhm=>Ns _ (LW (V b hm) (J b hb).1),(J b hb).2⟩))⟩
 | (j,true)::l,ls,own,f,w,Y,hfr,H,T,h,hC,V,hp=>by
  simp only[UZ,Bool.and_eq_true] at hp;obtain ⟨⟨I,hf⟩,he⟩:=hp;have hl:j∈Region.ready .any all.toArray ls:=by simpa using I
  have e:(List.length ((j,true)::l))+1+rest.length=(l.length+1+rest.length)+1:=by simp;omega
  rw[e];have hh:Yb all d l=true:=by simp only[Yb,List.all_cons,Bool.and_eq_true] at hfr;exact hfr.2
  simp only[Z7,List.all_cons,Bool.and_eq_true] at H;have hi:Z7 all Dc l=true:=H.2;cases E:all[j]? with
  | none =>
   exfalso;obtain ⟨_,o,hw,_⟩:=mem_ready.1 hl;simp[E] at hw
  | some o =>
   obtain ⟨hn,v,hv,hx⟩:=h;rw[Zm E] at hn hv hx;have hy:∀(j:Nat) (o:Oper) cs b,all[j]?=some o→o.op≠.select cs b:=λj o cs b hj=>Region.noSelect_spec hs j o cs b (by simpa using hj);have hz:=λk ok hk=>Region.free_spec (ops:=all.toArray) (md:=.any) (i:=j) (oi:=o) (listed:=ls) (by simpa using E) hf k ok (by simpa using hk)
   exact Y4 (v:=v) (D:=λw=>qw o=true→C w) E (λ_ h=>h) hy _ ls f w (λ_=>hC) hz hl (.inl ⟨hn,hv⟩) (Qbc G hs S hd l _ own _ w (by simpa using Y) hh hi (by have:=JN (v:=v) H.1 T;rw[Zm E] at this;exact this) hx hC V he)
 | (j,false)::l,ls,own,f,w,Y,hfr,H,T,h,hC,V,hp=>by
  simp only[UZ,Bool.and_eq_true,List.all_eq_true,Bool.or_eq_true,beq_iff_eq,Bool.not_eq_true'] at hp;obtain ⟨⟨⟨hq,I⟩,h5⟩,he⟩:=hp;have e:(List.length ((j,false)::l))+1+rest.length=(l.length+1+rest.length)+1:=by simp;omega
  rw[e];have hh:Yb all d l=true:=by simp only[Yb,List.all_cons,Bool.and_eq_true] at hfr;exact hfr.2
  simp only[Z7,List.all_cons,Bool.and_eq_true] at H;have hi:Z7 all Dc l=true:=H.2;refine Jq (λh0=>(by rw[h0] at hq;cases hq)) ?_;intro k hk o E;have ha:=Zm E;have ht:(ls.setIfInBounds k true).size=all.length:=by simpa using Y
  by_cases hc:k=i
  ·subst hc;have hx:=G.spec f w T hC;rw[ha] at S hd hx;rw[Va S,cond_true];refine hx.mono λv w' hx=>?_;rw[hd] at hx ⊢;obtain ⟨h1,h2,h3,J⟩:=hx;simp only[QV,Yw] at h3 J;refine ⟨.inr (.inr h2),?_⟩;have hx:=VP G hs ((j,false)::l) own f w' hfr (qh.ext G.mono h h1) h2 h3 (λb hb=>⟨λhm=>Ns _ (LW (V b hm) (J b hb).1),(J b hb).2⟩)
   have:=ZE hs ((j,false)::(l++rest)) _ _ _ ht (.inl h2) h5 hx;rw[show ((j,false)::(l++rest)).length=l.length+1+rest.length by simp;omega] at this;exact this
  have h6:k=j:=(I k hk).resolve_right hc;subst h6;have h1:=h.1;have h2:=h.2 w (Step.refl _ _) hC;rw[ha] at h1 h2;rw[h1,cond_true];refine h2.mono λv w' hx=>?_;obtain ⟨hu,own',h7,h8,hx⟩:=hx;refine ⟨.inr (.inr hu),Qbc G hs S hd l _ own' _ w' ht hh hi (by have:=JN (v:=v) H.1 T;rw[ha] at this;exact this) hx hu (λb hb=>?_) he⟩;rcases h8 b hb with h3 | h3
  ·exact LW (V b h3) h7.size
  exact h3.2
theorem qh.keeps {D:List (Nat×Nat)}{f0:Fr}:∀(l:List (Nat×Bool)) (own:LN) (f:Fr) (w:World),Z7 all D l=true→(∀t,Xo D t=false→f t=f0 t)→qh P all C KF l own f w→qh P all C (λo G w'=>(∀t,Xo D t=false→G t=f0 t)∧KF o G w') l own f w
 | [],own,f,w,_,E,h=>⟨E,h⟩
 | (j,true)::l,own,f,w,hd,E,h=>by
  simp only[Z7,List.all_cons,Bool.and_eq_true] at hd;obtain ⟨H,v,I,hx⟩:=h;exact ⟨H,v,I,qh.keeps l own _ _ hd.2 (JN hd.1 E) hx⟩
 | (j,false)::l,own,f,w,hd,E,h=>by
  simp only[Z7,List.all_cons,Bool.and_eq_true] at hd;refine ⟨h.1,λJ h1 hc=>XO.mono (λv w' hx=>?_) (h.2 J h1 hc)⟩;obtain ⟨S,own',T,V,hx⟩:=hx;exact ⟨S,own',T,V,qh.keeps l own' _ _ hd.2 (JN hd.1 E) hx⟩
theorem f2p {j:Nat}{l:List (Nat×Bool)}{own:LN}{v:Value}(E:∀w',(execOp (ev f) (Q4 all j)).run P w'=.ok (.value v) w') (h:qh P all C KF l own (QV f (Q4 all j).dst v) w)
  (G:Yh all f (Q4 all j)=true:=by rfl):qh P all C KF ((j,true)::l) own f w:=⟨G,v,λw' _=>E w',h⟩
theorem f2k {j:Nat}{l:List (Nat×Bool)}{own:LN}(h:∀w1,Step [] w w1→C w1→XO P (Q4 all j) f w1 λE w'=>C w'∧∃own',Step own w1 w'∧(∀b∈own',b∈own∨(w1.heap.size≤b∧b<w'.heap.size))∧qh P all C KF l own' E w')
  (G:Yh all f (Q4 all j)=true:=by rfl):qh P all C KF ((j,false)::l) own f w:=⟨G,h⟩
theorem f2e {own:LN}(h:KF own f w):qh P all C KF [] own f w:=h
theorem zr {Q:Exit→Fr→World→Prop}{id:Nat}{α:Type}(C:World→Prop) (pre l:List (Nat×Bool)) (i d:Nat) (rest:List (Nat×Bool)) (own:LN) (D Dc:List (Nat×Nat)) (S:α→List (Nat×Value)) (I:α→LN→World→Prop) (Φ:Value→World→Prop) (hm:P.follows .mixedOrders=true) (T:XQ n all=true)
  (hp:Qft all pre l i rest=true) (G:(Z7 all D pre && Z7 all D l && Z7 all Dc l)=true) (hd:(Q4 all i).dst=some d) (hC:C { w with drawn:=w.drawn+1 }) (V:∀b∈own,b<w.heap.size)
  (stab:∀v (own:LN) w w',Φ v w→Step own w w'→(∀b∈ow v,b∉own)→Φ v w') (mono:∀z own w w',I z own w→Step [] w w'→I z own w')
  (fin:∀z g own w v,I z own w→C w→Φ v w→(∀b∈ow v,b∉own∧b<w.heap.size)→XP P all C (λf w=>Q .normal f w) rest (QV (zB (S z) (mix D f g)) (some d) v) w)
  (h:XP P all C (λf1 _=>(∀g w,C w→XO P (Q4 all i) (mix Dc f1 g) w λE w'=>Step [] w w'∧C w'∧Φ (E d) w'∧∀b∈ow (E d),w.heap.size≤b∧b<w'.heap.size)∧qh P all C (λo E w'=>∃z,Xu E (S z)∧I z o w') l own f1 { w with drawn:=w.drawn+1 }) pre f { w with drawn:=w.drawn+1 }):W P n (.region id all.toArray true) Q f w:=by
 rw[Lu,Lu] at G;simp only[Qft,Bool.and_eq_true,beq_iff_eq,Option.isNone_iff_eq_none] at hp;obtain ⟨⟨⟨⟨⟨hs,hl⟩,hq⟩,Y⟩,hg⟩,hfr⟩:=hp;rw[hd] at hfr;refine KC C hm T ?_;have h1:=YI (K:=λf w=>Q .normal f w) (m:=l.length+1+rest.length) hs pre (Array.replicate all.length false) f _ hC hq
  (B:=λf1 _=>Fl2 P all C (λf w=>Q .normal f w) (λo E w'=>(∀t,Xo D t=false→E t=f t)∧∃z,Xu E (S z)∧I z o w') i d rest Φ Dc f1∧qh P all C (λo E w'=>(∀t,Xo D t=false→E t=f t)∧∃z,Xu E (S z)∧I z o w') l own f1 { w with drawn:=w.drawn+1 })
  (λf1 J=>Qbc J.1 hs hg hd l (Z0 pre (Array.replicate all.length false)) own f1 _ (by rw[YJ];simp) hfr G.2 (λ_ _=>rfl) J.2 hC V Y)
  (XP.keeps_mono _ _ _ (XP.keeps pre f _ G.1.1 (λ_ _=>O) h) (λf1 w1 hx=>⟨⟨stab,?_,?_,?_⟩,qh.keeps l own _ _ G.1.2 hx.1 hx.2.2⟩))
 ·rw[hl] at h1;exact h1
 ·intro E w' hk H;have:=hx.2.1 E w' H;rw[JJ hk] at this;exact this
 ·rintro o E w' ⟨hk,z,hs,hi⟩ v H hv hb;have:=fin z E o w' v hi H hv hb;rw[JJ hk,YQ hs] at this;exact this
 rintro o E w' hc ⟨hk,z,hs,hi⟩ ha;exact ⟨hk,z,hs,mono z o _ _ hi ha⟩
end
attribute [irreducible] qh
end Go.Lg
namespace Go.Proofs.YtdffckgdcegpaaaGreatDoor
open Go.Lg
abbrev Ym:LV:=[nS,nS,nS,nS,nS]
abbrev Jy:LV:=[nS,.int .i64 0,nS,nS]
theorem YS {a:Array UInt8}(h:a.size≤100):(⟨a⟩:ByteArray).size≤9223372036854775807:=by
 show a.size≤_;omega
def rgB (N M:Nat):LN:=(List.range M).filter λb=>decide (N≤b)
theorem Yr {N M b:Nat}:b∈rgB N M↔N≤b∧b<M:=by
 unfold rgB;rw[LS,List.mem_range,decide_eq_true_iff];exact And.comm
open Go.Proofs.Tryz
def Kg (co:LI) (ls:List (Int×Int)):List (Int×Int):=ls.map λl=>((lwB co l.1:Int),l.2)
theorem QbY {co:LI}(hi:Yg co) {ls:List (Int×Int)}(h:mis co ls=false):Kg co ls=ixP co ls:=by
 unfold Kg ixP;refine List.map_congr_left λl hl=>?_;unfold mis at h;have h1:=Nb.1 h l hl;have hm:l.1∈co:=by simpa using h1
 rw[QbT hi hm]
abbrev exG (c:Zw) (i:Int):Exc:=c.ex.getD i.toNat ⟨.empty,[]⟩
abbrev csG (c:Zw) (i:Int):Xv:=c.cs.getD i.toNat ⟨.empty,[],0⟩
def exB (c:Zw) (co ix:LI):List Exc:=ix.map λi=>⟨(exG c i).nm,Kg co (exG c i).ls⟩
def csB (c:Zw) (co ix:LI):List Xv:=ix.map λi=>⟨(csG c i).nm,Kg co (csG c i).ts,(csG c i).bd⟩
def exM (c:Zw) (co ix:LI):Bool:=ix.any λi=>mis co (exG c i).ls
def csM (c:Zw) (co ix:LI):Bool:=ix.any λi=>mis co (csG c i).ts
theorem QgX (c:Zw) (p:Prt):QiW c p=(exM c p.co p.ex || csM c p.co p.cs):=rfl
theorem QhT {c:Zw}{p:Prt}(hi:Yg p.co) (h:exM c p.co p.ex=false):exB c p.co p.ex=Qee c p:=by
 unfold exB Qee;refine List.map_congr_left λi E=>?_;rw[QbY hi (by have:=Nb.1 h i E;simpa using this)]
theorem Qh0 {c:Zw}{p:Prt}(hi:Yg p.co) (h:csM c p.co p.cs=false):csB c p.co p.cs=Qef c p:=by
 unfold csB Qef;refine List.map_congr_left λi E=>?_;rw[QbY hi (by have:=Nb.1 h i E;simpa using this)]
def ck4:List (Value×LI×Int)→Int
 | []=>0
 | (_,s,n)::l=>if Xj n none s≠0 then Xj n none s else ck4 l
abbrev skC (x:Value×LI×Int):LV:=[x.1,.int .i64 x.2.2]
theorem QiS (x:Value×LI×Int):(skC x).length=2:=rfl
theorem jV:∀{l:List (Value×LI×Int)},ck4 l=0→∀x∈l,Xj x.2.2 none x.2.1=0
 | [],_,x,hx=>by cases hx
 | (v,s,n)::l,h,x,hx=>by
  rw[ck4] at h;by_cases h1:Xj n none s≠0
  ·rw[if_pos h1] at h;exact absurd h h1
  rw[if_neg h1] at h;rcases Lb.1 hx with rfl | hx
  ·exact Ls.1 h1
  exact jV h x hx
theorem ZZ.app2 {α:Type}{g:α→LV}{sz T:Nat}{p:α→Value×Nat×Nat×LV}{base N e:Nat}{E G:World}{v H:Value}{l:List α}{q:α}(h:ZZ g sz T p base E v l)
  (hq:E.ownsRow N e (p q).2.2.1 (p q).1 (p q).2.1 (p q).2.2.2) (S:(p q).2.1≤1099511627776) (hb:base≤N) (V:∀b∈ob v,b<N)
  (Y:G.ownsRow base T sz H (l.length+1) (l.flatMap g++g q)) (I:Step (ob v) E G) (J:∀b∈ob H,b∈ob v∨E.heap.size≤b):ZZ g sz T p base G H (l++[q]):=by
 refine ⟨?_,λd hd=>?_⟩
 ·rw[Lh,Ly];simpa using Y
 rcases Lj.1 hd with hd | hd
 ·exact (h.each d hd).app I J
 simp only[List.mem_singleton] at hd;subst hd;exact (ZL.of_own hq S hb V).app I J
instance:Bw prog 47 [nS,nS,nS,nS,nS] [(0,1),(1,1),(2,1),(3,1),(4,1)]:=⟨by kernel_rfl,by decide⟩
theorem q7 {v:Value}(h:v.oneCell'=true):v.cells=[v].toArray:=by
 cases v <;> first | rfl | cases h
theorem Qfh {N M:Nat}{w':World}{v:Value}{qs:List IV}(h:∀L:LN,(∀b∈L,b<N)→Y9 L w'.heap v qs) (H:w'.heap.size=M) {L:LN}(E:∀b∈L,b∉rgB N M):Y9 L w'.heap v qs:=by
 refine (h (L.filter λb=>decide (b<N)) (λb hb=>by have:=(LS.1 hb).2;exact of_decide_eq_true this)).up (λb hb=>?_);by_cases G:b<N
 ·exact .inl (LS.2 ⟨hb,decide_eq_true G⟩)
 refine .inr ?_;have:=E b hb;rw[Yr] at this;omega
structure EiA (L:LN) (H:Array Obj) (z:Value×Value×Value) (ev:List Ke) (qc qr:List IV):Prop where
 ev:KH L H z.1 ev
 co:Y9 L H z.2.1 qc
 rq:Y9 L H z.2.2 qr
theorem EiA.ext {L:LN}{w w':World}{z:Value×Value×Value}{ev:List Ke}{qc qr:List IV}(h:EiA L w.heap z ev qc qr) (hs:Step [] w w'):EiA L w'.heap z ev qc qr:=⟨h.ev.ext hs,h.co.ext hs,h.rq.ext hs⟩
theorem EiA.st {L:LN}{w w':World}{z:Value×Value×Value}{ev:List Ke}{qc qr:List IV}(h:EiA L w.heap z ev qc qr) (hs:Step L w w'):EiA L w'.heap z ev qc qr:=⟨h.ev.st hs,h.co.st hs,h.rq.st hs⟩
theorem EiA.up {L L':LN}{H:Array Obj}{z:Value×Value×Value}{ev:List Ke}{qc qr:List IV}(h:EiA L H z ev qc qr) (E:∀b∈L',b∈L∨H.size≤b):EiA L' H z ev qc qr:=⟨h.ev.up E,h.co.up E,h.rq.up E⟩
set_option maxRecDepth 4096 in
set_option maxHeartbeats 16000000 in
theorem Qa8 {L:LN}{w:World}{c:CL}{v0 v1 v2 v3:Value}{p:Prt}(J:ZA L w.heap c) (hc0:QL L w.heap v0 p.co) (hr0:QL L w.heap v1 p.rq) (hx0:QL L w.heap v2 p.ex) (hk0:QL L w.heap v3 p.cs) :
  QK prog 33 [c.val,.agg #[v0,v1,v2,v3]] w λr w'=>Step [] w w'∧∃us,r=.tuple #[.agg us.toArray,.int .i64 (Uy c.cel p)]∧us.length=5∧ZN us∧(Uy c.cel p≠0→us=Ym)∧(Uy c.cel p=0→Qgx w.heap.size w'.heap (.agg us.toArray) (y7 c.cel p)):=by
 have h:=J.up (L':=[]) (by simp);have hc:=hc0.up (L':=[]) (by simp);have hr:=hr0.up (L':=[]) (by simp);have hx:=hx0.up (L':=[]) (by simp);have hk:=hk0.up (L':=[]) (by simp)
 have S:Uy c.cel p=if Zb c.cel≠0 then Zb c.cel else if ck4 [(v0,p.co,(c.co.length:Int)),(v1,p.rq,(c.rq.length:Int)),(v2,p.ex,(c.ex.length:Int)),(v3,p.cs,(c.cs.length:Int))]≠0 then ck4 [(v0,p.co,(c.co.length:Int)),(v1,p.rq,(c.rq.length:Int)),(v2,p.ex,(c.ex.length:Int)),(v3,p.cs,(c.cs.length:Int))]
   else if (exM c.cel p.co p.ex || csM c.cel p.co p.cs)=true then 13 else Zb (y7 c.cel p):=by
  have e1:c.cel.co.length=c.co.length:=Lc ..;have e2:c.cel.rq.length=c.rq.length:=Lc ..;have e3:c.cel.ex.length=c.ex.length:=Lc ..;have e4:c.cel.cs.length=c.cs.length:=Lc ..;unfold Uy;rw[e1,e2,e3,e4,QgX];simp only[ck4];by_cases q0:Zb c.cel≠0
  ·rw[if_pos q0,if_pos q0]
  rw[if_neg q0,if_neg q0];by_cases q1:Xj (c.co.length:Int) none p.co≠0
  ·simp only[if_pos q1]
  simp only[if_neg q1];by_cases q2:Xj (c.rq.length:Int) none p.rq≠0
  ·simp only[if_pos q2]
  simp only[if_neg q2];by_cases q3:Xj (c.ex.length:Int) none p.ex≠0
  ·simp only[if_pos q3]
  simp only[if_neg q3];by_cases q4:Xj (c.cs.length:Int) none p.cs≠0
  ·simp only[if_pos q4]
  simp only[if_neg q4];simp
 refine Zd (Uy c.cel p) λE hE=>?_;rw[hE] at S ⊢;refine Zd [(v0,p.co,(c.co.length:Int)),(v1,p.rq,(c.rq.length:Int)),(v2,p.ex,(c.ex.length:Int)),(v3,p.cs,(c.cs.length:Int))] λI gm=>?_;rw[gm] at S;have hl4n:I.length=4:=by rw[←gm];rfl
 have hl4i:∀x∈I,QL [] w.heap x.1 x.2.1:=by
  rw[←gm];intro x hm;simp only[List.mem_cons,List.not_mem_nil,or_false] at hm;rcases hm with rfl | rfl | rfl | rfl
  ·exact hc
  ·exact hr
  ·exact hx
  exact hk
 have hl4z:ck4 I=0→Xj (c.co.length:Int) none p.co=0∧Xj (c.rq.length:Int) none p.rq=0∧Xj (c.ex.length:Int) none p.ex=0∧Xj (c.cs.length:Int) none p.cs=0:=by
  intro J;have h1:=jV J;rw[←gm] at h1;exact ⟨h1 (v0,p.co,_) (by simp),h1 (v1,p.rq,_) (by simp),h1 (v2,p.ex,_) (by simp),h1 (v3,p.cs,_) (by simp)⟩
 have hcl:=hc.le;have hrl:=hr.le;have hxl:=hx.le;have hkl:=hk.le;have hexl:=h.ex.arr.le;have hcsl:=h.cs.arr.le;refine QK.of_W func33 O ntmps33 results33 (by simp) ?_;refine Qc<|xl O<|QS (us:=c.cells) O λb2 w1 hs1 hb2 mz=>xl O<|QS (us:=[v0,v1,v2,v3]) O λb3 w2 kh hb3 hB3=>xl O<|Qt (us:=Ym) O λb4 w3 gn hb4 hB4=>Qe ?_;have hz1:=hs1.size;have hz2:=kh.size;have hz3:=gn.size;have hl2:=mz.lt
 have hl3:=hB3.lt;have hl4':=hB4.lt;have hs03:=(hs1.trans kh).trans gn;refine Qf<|Qc<|x (Qr ((mz.ext kh).ext gn) O O)<|xl O<|xf<|(YU (h.ext hs03)).mono ?_;rintro r4 w4 ⟨rfl,go⟩;refine Qe ?_;have m0:=hs03.trans go;have hz4:=go.size;have gp:=((mz.ext kh).ext gn).ext go;have gq:=(hB3.ext gn).ext go;have m1:=hB4.ext go;refine Qc<|Qb<|x (Q9 O O)<|xe ?_
 refine Q6 rfl (λki=>?_) (λki=>?_)
 ·rw[if_pos ki] at S;subst S;refine Qc<|x (QD U)<|Qb<|xl O<|Qp (us:=Ym) m1 O O O O ⟨O,O,O,O,O,U⟩ λw5 hs5 hB45=>Qe ?_;exact Qn ⟨[.agg Ym.toArray,.int .i64 (Zb c.cel)],⟨⟨_,O,Qv O (hB45.at (L:=[]) (by simp)).cells⟩,rfl,U⟩,m0.then1 hs5 (by omega),Ym,rfl,rfl,⟨rfl,rfl,rfl,rfl,rfl,U⟩,λ_=>rfl,λJ=>absurd J ki⟩
 rw[if_neg ki] at S;refine Qi ?_;have h4:=h.ext m0;refine Qf<|Qc<|x (Qa O)<|x (Qd gq O O)<|x (Qa O)<|x (Qd gp O O)<|x (Qs h4.co.arr O)<|x (QD ⟨hc.cells,O,U⟩) <|
  x (Qa rfl)<|x (Qd gq O O)<|x (Qa O)<|x (Qd gp O O)<|x (Qs h4.rq.arr O)<|x (QD ⟨hr.cells,O,U⟩) <|
  x (Qa rfl)<|x (Qd gq O O)<|x (Qa O)<|x (Qd gp O O)<|x (Qs h4.ex.arr O)<|x (QD ⟨hx.cells,O,U⟩) <|
  x (Qa rfl)<|x (Qd gq O O)<|x (Qa O)<|x (Qd gp O O)<|x (Qs h4.cs.arr O)<|x (QD ⟨hk.cells,O,U⟩) <|
  xl rfl<|QC (us:=[skC (v0,p.co,(c.co.length:Int)),skC (v1,p.rq,(c.rq.length:Int)),skC (v2,p.ex,(c.ex.length:Int)),skC (v3,p.cs,(c.cs.length:Int))]) O O (by decide) (by simp) ⟨rfl,rfl,rfl,rfl,rfl,rfl,rfl,rfl,U⟩ λb54 w6 hW hb54 hB54=>?_
 have hA54:Zp [] w6.heap (.slice (some ⟨b54,0,none⟩) 4 4) I.length 2 (I.flatMap skC):=by
  have:=hB54.arr (L:=[]) (by simp) (n:=4) (cap:=4) (sz:=2) (by rfl) (by omega) (Lr _);rw[hl4n,←gm];exact this
 refine x (Qs hA54 O)<|Qb<|xe ?_;have hs06:=m0.trans hW;have hz6:=hW.size;refine Qh<|QB (α:=Nat) [(5,5),(8,9),(56,69)] (λz=>[(56,.int .i64 z)]) (λz w'=>z≤I.length∧Step [] w6 w'∧ck4 (I.drop z)=ck4 I) (λz=>I.length - z) (by rfl) 0 Z ⟨Lk _,Step.refl _ _,O⟩ ?_;rintro k g V ⟨hkl4,hA,hC⟩;have gr:=hs06.trans hA;have hz7:=hA.size;refine Qc<|x (QA O O)<|xe ?_
 refine Qf<|QG O (λm2=>?_) (λm2=>?_)
 ·refine Qz ?_;have hke:I.length≤k:=by have hw:¬(k:Int)<(I.length:Int):=m2;omega
  rw[Lq hke] at hC;have hck0:ck4 I=0:=hC.symm;rw[if_neg (λJ=>J hck0)] at S;obtain ⟨zco,zrq,zex,zcs⟩:=hl4z hck0;have gs:=(Yz _ _ _).1 zco;have hrq:=(Yz _ _ _).1 zrq;have hexz:=(Yz _ _ _).1 zex;have hcsz:=(Yz _ _ _).1 zcs;have h7:=h.ext gr;have kj:QZ V.heap b2 47 c.cells:=(gp.ext hW).ext hA;have m3:QZ V.heap b3 95 [v0,v1,v2,v3]:=(gq.ext hW).ext hA
  have hB47:QZ V.heap b4 47 Ym:=(m1.ext hW).ext hA;have hsd:Step [] V { V with drawn:=V.drawn+1 }:=Step.drew _ _
  refine QU (α:=Nat×(Value×Value×Value)×List IV×List IV) [(70,83),(10,10)] (λz=>[(10,.pointer (some ⟨z.1,0,none⟩))]) (λz w'=>Step [] V w'∧V.heap.size≤z.1∧QZ w'.heap z.1 47 [z.2.1.1,z.2.1.2.1,z.2.1.2.2,nS,nS] ∧
   z.2.2.1.map IV.it=chs c.cel.co p.co∧z.2.2.2.map IV.it=chs c.cel.rq p.rq∧ZN [z.2.1.1,z.2.1.2.1,z.2.1.2.2]∧∀L:LN,(∀b∈L,b<V.heap.size∨b=z.1)→EiA L w'.heap z.2.1 c.ev z.2.2.1 z.2.2.2) (by rfl) ?_ ?_
  ·refine zr (α:=(Value×Value×Value)×List IV×List IV) (Step [] V) [(0,true),(1,true),(3,true),(4,true),(5,true),(6,true),(8,true),(9,true),(10,true),(11,true)] [(2,false),(7,false),(12,false),(13,true)] 14 10 [(15,false)] []
    [(70,83)] [(72,72),(77,77),(82,83)] (λz=>[(83,.agg [z.1.1,z.1.2.1,z.1.2.2,nS,nS].toArray)])
    (λz own w'=>(∀b∈own,V.heap.size≤b)∧z.2.1.map IV.it=chs c.cel.co p.co∧z.2.2.map IV.it=chs c.cel.rq p.rq∧ZN [z.1.1,z.1.2.1,z.1.2.2]∧∀L:LN,(∀b∈L,b∉own)→EiA L w'.heap z.1 c.ev z.2.1 z.2.2)
    (λv w'=>∃b,v=.pointer (some ⟨b,0,none⟩)∧V.heap.size≤b∧QZ w'.heap b 47 Ym) mixed (by rfl) (by kernel_rfl) (by rfl) O hsd (by simp) ?_ ?_ ?_ ?_
   ·rintro v own wa wb ⟨b,rfl,hb,hB⟩ hs hn;exact ⟨b,O,hb,hB.step hs (hn b (by simp[ow]))⟩
   ·rintro z own wa wb ⟨h1,h2,h3,h4,h5⟩ hs;exact ⟨h1,h2,h3,h4,λL hL=>(h5 L hL).ext hs⟩
   ·rintro ⟨zv,qc,qr⟩ g own wz v ⟨i1,i2,i3,i4,i5⟩ hCz ⟨H,rfl,kk,hB10⟩ hbo;simp only[] at i2 i3 i4 i5;have hb10o:=(hbo H (by simp[ow])).1;refine pkl (hl:=by kernel_rfl)<|Qp (us:=[zv.1,zv.2.1,zv.2.2,nS,nS]) hB10 O O O O ⟨i4.1,i4.2.1,i4.2.2.1,O,O,U⟩ λw8 hX hB108=>pe ?_;refine ⟨(H,zv,qc,qr),Z,hCz.then1 hX kk,kk,hB108,i2,i3,i4,λL hL=>?_⟩;have h1:=i5 (H::L) (λb hb=>by
     rcases Lb.1 hb with rfl | hb
     ·exact hb10o
     rcases hL b hb with h2 | h2
     ·exact λh3=>by have:=i1 b h3;omega
     subst h2;exact hb10o)
    exact (h1.st (hX.mono (by simp))).up (λb hb=>.inl (by simp[hb]))
   refine Go.Lg.p (λ_=>Qa O)<|pq (λ_ hc=>Qd (kj.ext hc) O O)<|Go.Lg.p (λ_=>Qa O)<|pq (λ_ hc=>Qd (kj.ext hc) O O) <|
    Go.Lg.p (λ_=>Qa O)<|pq (λ_ hc=>Qd (m3.ext hc) O O)<|Go.Lg.p (λ_=>Qa O)<|pq (λ_ hc=>Qd (kj.ext hc) O O) <|
    Go.Lg.p (λ_=>Qa O)<|pq (λ_ hc=>Qd (m3.ext hc) O O)<|pe ⟨λg wf hCf=>Qt (us:=Ym) O λb wf' hsf hbf hBf=>⟨hsf,hCf.trans hsf,⟨b,O,LR hCf.size hbf,hBf⟩,λx hx=>?_⟩,?_⟩
   ·have hxe:x=b:=by
     have hx':x∈[b]:=hx;simpa using hx'
    subst hxe;exact ⟨hbf,hBf.lt⟩
   refine f2k λx1 p1 c1=>xf<|(Qa4 (h7.ev.ext c1).arr).mono ?_;rintro m4 y1 ⟨hs1',hY⟩;refine ⟨c1.trans hs1',rgB x1.heap.size y1.heap.size,hs1'.any,λb hb=>.inr (Yr.1 hb),?_⟩;refine f2k λx2 p2 c2=>xf<|(qd (h7.co.ext c2) (hc.ext (gr.trans c2)) (λi hi=>gs.1 i hi)).mono ?_;rintro r77 y2 ⟨m5,⟨qc,kn,hqcI⟩,ko⟩
   refine ⟨c2.trans m5,rgB x1.heap.size y1.heap.size++rgB x2.heap.size y2.heap.size,m5.any,λb hb=>(Lj.1 hb).imp id λhb=>Yr.1 hb,?_⟩;refine f2k λx3 p3 c3=>xf<|(qd (h7.rq.ext c3) (hr.ext (gr.trans c3)) (λi hi=>hrq.1 i hi)).mono ?_;rintro r82 y3 ⟨kp,⟨qr,kq,hqrI⟩,kr⟩
   refine ⟨c3.trans kp,(rgB x1.heap.size y1.heap.size++rgB x2.heap.size y2.heap.size)++rgB x3.heap.size y3.heap.size,kp.any,λb hb=>(Lj.1 hb).imp id λhb=>Yr.1 hb,?_⟩;refine f2p (λ_=>ZV [(0,[m4]),(1,[r77]),(2,[r82])] ⟨Q0 hY,O,q7 ko,O,q7 kr,O,U⟩)<|f2e ?_;refine ⟨((m4,r77,r82),qc,qr),Z,λb hb=>?_,kn,kq,⟨QH hY,ko,kr,U⟩,λL hL=>?_⟩
   ·have e1:=c1.size;have e2:=c2.size;have e3:=c3.size;rcases Lj.1 hb with hb | hb
    ·rcases Lj.1 hb with hb | hb
     ·have:=Yr.1 hb;omega
     have:=Yr.1 hb;omega
    have:=Yr.1 hb;omega
   have hL1:∀b∈L,b∉rgB x1.heap.size y1.heap.size:=λb hb hm=>hL b hb (by simp[hm]);have hL2:∀b∈L,b∉rgB x2.heap.size y2.heap.size:=λb hb hm=>hL b hb (by simp[hm]);have hL3:∀b∈L,b∉rgB x3.heap.size y3.heap.size:=λb hb hm=>hL b hb (by simp[hm]);have hev1:KH L y1.heap m4 c.ev:=⟨QT hY h.ev.arr.le (λb hb hm=>hL1 b hm (Yr.2 (Qk hY b hb))),h.ev.nm⟩
   exact ⟨(((hev1.ext p2).ext m5).ext p3).ext kp,((Qfh hqcI O hL2).ext p3).ext kp,Qfh hqrI O hL3⟩
  rintro ⟨H,zv,qc,qr⟩ g wc ⟨hsc,kk,m6,kn,kq,kt,hEi⟩;simp only[] at kk m6 kn kq kt hEi;have hl10:=m6.lt;have hzc:=hsc.size;refine Qc<|xl O<|Qt (us:=[.bool false]) O λG w8 hX hb11 hB11=>xl O<|QE (j:=0) (u:=.bool false) hB11 O O (by simp) rfl λw9 m7 ku=>xe ?_;have kv:Step [] wc w9:=hX.then1 m7 hb11;have hD:=hsc.trans kv;have hZ:=gr.trans hD
  have hz9:=kv.size;have hl11:=ku.lt;have hB109:=m6.ext kv;have hB29:=kj.ext hD;have hB39:=m3.ext hD;have hB49:=hB47.ext hD;have h9:=h.ext hZ;have hn10:H≠G:=by omega
  have hup:∀b∈[H,G],w.heap.size≤b:=λb hb=>by simp only[List.mem_cons,List.not_mem_nil,or_false] at hb;omega
  have kw:∀b∈[H,G],b<w9.heap.size:=λb hb=>by simp only[List.mem_cons,List.not_mem_nil,or_false] at hb;omega
  have hn2:b2∉[H,G]:=λhb=>by simp only[List.mem_cons,List.not_mem_nil,or_false] at hb;omega
  have hn3:b3∉[H,G]:=λhb=>by simp only[List.mem_cons,List.not_mem_nil,or_false] at hb;omega
  have hn4:b4∉[H,G]:=λhb=>by simp only[List.mem_cons,List.not_mem_nil,or_false] at hb;omega
  have ky:∀b∈[H],b∈[H,G]:=λb hb=>by simp only[List.mem_singleton] at hb;simp[hb]
  have kz:∀b∈[G],b∈[H,G]:=λb hb=>by simp only[List.mem_singleton] at hb;simp[hb]
  have hY:=kt.1;have ko:=kt.2.1;have kr:=kt.2.2.1;refine Qc<|x (Zo (l:=[]) (l':=[_,_]))<|Qe<|Qf<|Qc<|x (Qa O)<|x (Qd hB39 O O)<|x (Qs (hx.ext hZ) O)<|Qb<|xe<|Qh<|QB (α:=Nat×Bool×Value×List XV) [(14,15),(17,17),(88,129)] (λz=>[(88,.int .i64 z.1)]) (λz w'=>z.1≤p.ex.length∧Step [H,G] w9 w'∧QZ w'.heap H 47 [zv.1,zv.2.1,zv.2.2,z.2.2.1,nS]∧QZ w'.heap G 4 [.bool z.2.1] ∧
   XvN w9.heap.size w' z.2.2.1 z.2.2.2∧z.2.2.2.map (·.x)=exB c.cel p.co (p.ex.take z.1)∧z.2.1=exM c.cel p.co (p.ex.take z.1)∧∀q∈z.2.2.2,V7 q.nm) (λz=>p.ex.length - z.1) (by rfl) (0,false,nS,[]) Z
   ⟨Lk _,Step.refl _ _,hB109,ku,ZZ.nil,O,O,λq hq=>by cases hq⟩ ?_
  rintro ⟨k,mi,vx,qx⟩ g Y ⟨hk10,hJ,m8,gt,k0,gu,k4,m9⟩;simp only[] at hk10 m8 gt k0 gu k4 m9;have gv:Step [] w Y:=hZ.then hJ (λb hb=>.inr (hup b hb));have pa:=h.ext gv;have pc:=hB29.step hJ hn2;have pd:=hB39.step hJ hn3;have pf:=hB49.step hJ hn4;have hz10:=hJ.size
  have hqxl:qx.length=k:=by have:=congrArg List.length gu;unfold exB at this;rw[Lc,Lc,Lv] at this;omega
  refine Qc<|x (QA O O)<|xe<|Qf<|QG O (λhK=>?_) (λhK=>?_)
  ·refine Qz ?_;have pg:p.ex.length≤k:=by have hw:¬(k:Int)<(p.ex.length:Int):=hK;omega
   rw[Lm pg] at gu k4;have hlt10:∀b∈[H,G],b<Y.heap.size:=λb hb=>by have:=kw b hb;omega
   refine Qf<|Qc<|x (Qa O)<|x (Qd pd O O)<|x (Qs (hk.ext gv) O)<|Qb<|xe<|Qh<|QB (α:=Nat×Bool×Value×List KV) [(19,20),(22,22),(133,180)] (λz=>[(133,.int .i64 z.1)]) (λz w'=>z.1≤p.cs.length∧Step [H,G] Y w'∧QZ w'.heap H 47 [zv.1,zv.2.1,zv.2.2,vx,z.2.2.1]∧QZ w'.heap G 4 [.bool z.2.1] ∧
    KvN Y.heap.size w' z.2.2.1 z.2.2.2∧z.2.2.2.map (·.k)=csB c.cel p.co (p.cs.take z.1)∧z.2.1=(mi || csM c.cel p.co (p.cs.take z.1))∧∀q∈z.2.2.2,V7 q.nm) (λz=>p.cs.length - z.1) (by rfl) (0,mi,nS,[]) Z
    ⟨Lk _,Step.refl _ _,m8,gt,ZZ.nil,O,by simp[csM],λq hq=>by cases hq⟩ ?_
   rintro ⟨k,mk,vk,kx⟩ g ho ⟨hkk10,hF,kB1010,kB1110,kX10,gw,k5,ph⟩;simp only[] at hkk10 kB1010 kB1110 kX10 gw k5 ph;have gx:Step [] w ho:=gv.then hF (λb hb=>.inr (hup b hb));have k6:=h.ext gx;have kB210:=pc.step hF hn2;have kB310:=pd.step hF hn3;have kB410:=pf.step hF hn4;have kz10:=hF.size
   have hkxl:kx.length=k:=by have:=congrArg List.length gw;unfold csB at this;rw[Lc,Lc,Lv] at this;omega
   refine Qc<|x (QA O O)<|xe<|Qf<|QG O (λhK=>?_) (λhK=>?_)
   ·refine Qz ?_;have pg:p.cs.length≤k:=by have hw:¬(k:Int)<(p.cs.length:Int):=hK;omega
    rw[Lm pg] at gw k5;have hmm:mk=(exM c.cel p.co p.ex || csM c.cel p.co p.cs):=by rw[k5,k4]
    rw[←hmm] at S;have kXu:XvN w9.heap.size ho vx qx:=ZZ.low k0 hF kw;refine Qf<|Qc<|x (Qd kB1110 O O)<|xe<|Q3 O (λk7=>?_) (λk7=>?_)
    ·rw[if_pos k7] at S;subst S;refine Qc<|x (QD U)<|xl O<|Qp (us:=Ym) kB410 O O O O ⟨O,O,O,O,O,U⟩ λu11 k8 kB411=>Qe ?_;exact Qn ⟨[.agg Ym.toArray,.int .i64 13],⟨⟨_,O,Qv O (kB411.at (L:=[]) (by simp)).cells⟩,rfl,U⟩,gx.then1 k8 (by omega),Ym,rfl,rfl,⟨rfl,rfl,rfl,rfl,rfl,U⟩,λ_=>rfl,λJ=>absurd J (by decide)⟩
    rw[if_neg (by rw[k7];simp)] at S;refine Qi ?_;have hmf:(exM c.cel p.co p.ex || csM c.cel p.co p.cs)=false:=by rw[←hmm];exact k7
    have hmf2:=Mu.1 hmf;have hE1:qx.map (·.x)=Qee c.cel p:=gu.trans (QhT gs.2.1 hmf2.1);have hE2:kx.map (·.k)=Qef c.cel p:=gw.trans (Qh0 gs.2.1 hmf2.2);have hcel:(CL.mk zv.1 zv.2.1 zv.2.2 vx vk c.ev qc qr qx kx).cel=y7 c.cel p:=by
     show Zw.mk c.ev (qc.map IV.it) (qr.map IV.it) (qx.map (·.x)) (kx.map (·.k))=Zw.mk c.cel.ev _ _ _ _;rw[kn,kq,hE1,hE2];rfl
    have hCu:∀L:LN,(∀b∈L,b<w.heap.size)→ZA (b4::L) ho.heap (CL.mk zv.1 zv.2.1 zv.2.2 vx vk c.ev qc qr qx kx):=by
     intro L hL;have e1:=hEi (b4::H::L) (λb hb=>by
      rcases Lb.1 hb with rfl | hb
      ·exact .inl (by omega)
      rcases Lb.1 hb with rfl | hb
      ·exact .inr O
      have:=hL b hb;exact .inl (by omega))
     have e2:EiA (G::b4::H::L) wc.heap zv c.ev qc qr:=e1.up (λb hb=>by
      rcases Lb.1 hb with rfl | hb
      ·exact .inr hb11
      exact .inl hb)
     have hm2:∀b∈[H,G],b∈G::b4::H::L:=λb hb=>by
      simp only[List.mem_cons,List.not_mem_nil,or_false] at hb;rcases hb with rfl | rfl <;> simp
     have e3:=((e2.ext kv).st (hJ.mono hm2)).st (hF.mono hm2);have e4:EiA (b4::L) ho.heap zv c.ev qc qr:=e3.up (λb hb=>by
      rcases Lb.1 hb with rfl | hb
      ·exact .inl (by simp)
      exact .inl (by simp[hb]))
     have hqx40:qx.length≤1099511627776:=by omega
     have hkx40:kx.length≤1099511627776:=by omega
     have pj:∀b∈b4::L,b<w9.heap.size:=λb hb=>by
      rcases Lb.1 hb with rfl | hb
      ·omega
      have:=hL b hb;omega
     have hLt10:∀b∈b4::L,b<Y.heap.size:=λb hb=>by have:=pj b hb;omega
     exact ⟨e4.ev,e4.co,e4.rq,⟨ZZ.arr kXu hqx40 pj,λq hq=>kXu.each q hq _ (λb hb=>.inl (pj b hb)),m9⟩,⟨ZZ.arr kX10 hkx40 hLt10,λq hq=>kX10.each q hq _ (λb hb=>.inl (hLt10 b hb)),ph⟩⟩
    rw[←hcel] at S;subst S;refine Qf<|Qc<|x (Qr kB1010 O O)<|xl O<|xf<|(YU (hCu [] (by simp))).mono ?_;rintro r12 hM ⟨rfl,ga⟩;refine Qe ?_;have gy:=gx.trans ga;have kB412:=kB410.ext ga;refine Qc<|Qb<|x (Q9 O O)<|xe<|Q6 O (λk9=>?_) (λk9=>?_)
    ·refine Qc<|x (QD U)<|Qb<|xl O<|Qp (us:=Ym) kB412 O O O O ⟨O,O,O,O,O,U⟩ λhG ma kB413=>Qe ?_;exact Qn ⟨[.agg Ym.toArray,.int .i64 (Zb (CL.mk zv.1 zv.2.1 zv.2.2 vx vk c.ev qc qr qx kx).cel)],⟨⟨_,O,Qv O (kB413.at (L:=[]) (by simp)).cells⟩,rfl,U⟩,gy.then1 ma (by omega),Ym,rfl,rfl,⟨rfl,rfl,rfl,rfl,rfl,U⟩,λ_=>rfl,λJ=>absurd J k9⟩
    refine Qi ?_;have hone5:ZN [zv.1,zv.2.1,zv.2.2,vx,vk]:=⟨hY,ko,kr,QH kXu.own,QH kX10.own,U⟩
    refine Qc<|x (Qr (kB1010.ext ga) O O)<|xl O<|Qp (us:=[zv.1,zv.2.1,zv.2.2,vx,vk]) kB412 O O O O hone5 λhG ma kB413=>Qe<|Qn ⟨[.agg [zv.1,zv.2.1,zv.2.2,vx,vk].toArray,.int .i64 0],⟨⟨_,O,Qv O (kB413.at (L:=[]) (by simp)).cells⟩,rfl,U⟩,gy.then1 ma (by omega),[zv.1,zv.2.1,zv.2.2,vx,vk],?_,rfl,hone5,λJ=>absurd J k9,λ_=>⟨(CL.mk zv.1 zv.2.1 zv.2.2 vx vk c.ev qc qr qx kx),rfl,hcel,λL hL=>?_⟩⟩
    ·have J:Zb (CL.mk zv.1 zv.2.1 zv.2.2 vx vk c.ev qc qr qx kx).cel=0:=Ls.1 k9;rw[J];rfl
    exact ((((hCu L hL).ext ga).st (ma.mono (by simp)))).up (λb hb=>.inl (by simp[hb]))
   refine Qi ?_;have ha:k<p.cs.length:=by have hw:(k:Int)<(p.cs.length:Int):=hK;omega
   have hN:p.cs.take (k+1)=p.cs.take k++[p.cs[k]'ha]:=Le ha;have pm:=hcsz.1 _ (Li ha);refine Zd (p.cs[k]'ha) λi gz=>?_;rw[gz] at hN pm;have gb:i=(i.toNat:Int):=by omega
   have T:i.toNat<c.cs.length:=by omega
   have hy:=Li T;have hO:csG c.cel i=(c.cs[i.toNat]'T).k:=by
    show (c.cs.map (·.k)).getD i.toNat ⟨.empty,[],0⟩=_;simp[List.getD,T]
   refine Zd (c.cs[i.toNat]'T) λq hq=>?_;rw[hq] at hy hO;have g0:=k6.cs.each q hy;have pn:=k6.cs.nm q hy;have hql:=g0.le;have hcsB:csB c.cel p.co (p.cs.take (k+1))=csB c.cel p.co (p.cs.take k)++[⟨q.nm,Kg p.co q.ts,q.bd⟩]:=by
    rw[hN];unfold csB;rw[Lt,Mx,hO];rfl
   have hcsM:csM c.cel p.co (p.cs.take (k+1))=(csM c.cel p.co (p.cs.take k) || mis p.co q.ts):=by
    rw[hN];unfold csM;rw[List.any_append,List.any_cons,List.any_nil,Bool.or_false,hO];rfl
   refine Qf<|Qh<|Qc<|xii (i:=k) (hk.ext gx) O O ha λa90 g2=>?_;rw[gz] at g2;refine x (Qx g2 O)<|Qe<|Qf<|QW (Step [] ho) [(0,true),(1,true),(2,true),(3,true),(4,true),(5,true),(6,true),(7,true),(8,true),(9,true),(10,true),(11,true),(12,true),(13,false),(14,false)] mixed (by rfl) (by kernel_rfl) (Step.drew _ _) ?_
   refine Go.Lg.p (λ_=>Qa O)<|pq (λ_ hc=>Qd (kB210.ext hc) O O)<|Go.Lg.p (λ_=>Qo)<|Go.Lg.pig (g:=Zx) (i:=i.toNat) O Jk k6.cs.arr O (congrArg (Value.int .i64) gb) T λa140 h140=>?_;rw[hq] at h140
   refine Go.Lg.p (λ_=>Zl O)<|pq (λ_ hc=>Qx ((h140.fld 0 (.string q.nm) O).st hc) O)<|Go.Lg.p (λ_=>Qa O)<|pq (λ_ hc=>Qd (kB210.ext hc) O O)<|Go.Lg.p (λ_=>Qo)<|Go.Lg.pig (g:=Zx) (i:=i.toNat) O Jk k6.cs.arr O (congrArg (Value.int .i64) gb) T λa146 h146=>?_;rw[hq] at h146
   refine Go.Lg.p (λ_=>Zl O)<|pq (λ_ hc=>Qx ((h146.fld 2 (.int .i64 q.bd) O).st hc) O)<|Go.Lg.p (λ_=>QD ⟨O,O,U⟩)<|pk<|Qt (us:=[.string .empty,nS,.int .i64 0]) O λhe u11 k8 hz kB15=>⟨(Step.drew [] ho).trans k8,?_⟩;refine pkl (hl:=by kernel_rfl)<|Qp (us:=[.string q.nm,nS,.int .i64 q.bd]) kB15 O O O O ⟨O,O,O,U⟩ λhM ga kB15=>pe ?_;have hz:ho.heap.size≤he:=hz
   have hH:Step [] ho hM:=((Step.drew [] ho).trans k8).then1 ga hz;have gy:=gx.trans hH;have k12:=h.ext gy;have kB212:=kB210.ext hH;have kz12:=hH.size;have hl15:=kB15.lt;have po:=g0.ext hH;refine Qf<|Qc<|x (Qa O)<|x (Qd kB212 O O)<|Qb<|xig (g:=Zx) (i:=i.toNat) Jk k12.cs.arr O (congrArg (Value.int .i64) gb) T λa102 g3=>?_;rw[hq] at g3
   refine x (Zl O)<|x (Qx (g3.fld 1 q.v O) O)<|x (Qs po O)<|Qb<|xe ?_;have pp:∀b∈[he,G],w.heap.size≤b:=λb hb=>by simp only[List.mem_cons,List.not_mem_nil,or_false] at hb;omega
   have pt:b3∉[he,G]:=λhb=>by simp only[List.mem_cons,List.not_mem_nil,or_false] at hb;omega
   have hn1510:H∉[he,G]:=λhb=>by simp only[List.mem_cons,List.not_mem_nil,or_false] at hb;omega
   refine Qh<|QB (α:=Nat×Bool×Value) [(22,22),(157,173)] (λz=>[(157,.int .i64 z.1)]) (λz w'=>z.1≤q.ts.length∧Step [he,G] hM w'∧QZ w'.heap he 127 [.string q.nm,z.2.2,.int .i64 q.bd]∧QZ w'.heap G 4 [.bool z.2.1] ∧
    w'.ownsRow hM.heap.size 129 2 z.2.2 z.1 ((Kg p.co (q.ts.take z.1)).flatMap QO)∧z.2.1=(mk || mis p.co (q.ts.take z.1))) (λz=>q.ts.length - z.1) (by rfl) (0,mk,nS) Z
    ⟨Lk _,Step.refl _ _,kB15,kB1110.ext hH,QN _ _ _ _,by simp[mis]⟩ ?_
   rintro ⟨j,mj,vl⟩ g hG ⟨hj,gc,kB1513,kB1113,kO13,h6⟩;simp only[] at hj kB1513 kB1113 kO13 h6;have ks013:Step [] w hG:=gy.then gc (λb hb=>.inr (pp b hb));have kz13:=gc.size;have h8:=Qk kO13;refine Qc<|x (QA O O)<|xe<|Qf<|QG O (λhP=>?_) (λhP=>?_)
   ·refine Qz ?_;have g4:j=q.ts.length:=by have hw:¬(j:Int)<(q.ts.length:Int):=hP;omega
    rw[g4,MU] at kO13;rw[g4,MU] at h6;have mc:Step [G] ho hG:=(hH.any (L:=[G])).then gc (λb hb=>by
     simp only[List.mem_cons,List.not_mem_nil,or_false] at hb;rcases hb with rfl | rfl
     ·exact .inr hz
     exact .inl (by simp))
    have kB1013:=kB1010.step mc (by simpa using hn10);have kX13:KvN Y.heap.size hG vk kx:=ZZ.low kX10 mc (λb hb=>hlt10 b (kz b hb));have kXge:=Qk kX10.own;have pu:(Kg p.co q.ts).length=q.ts.length:=Lc ..
    refine Qy<|x (Qa O)<|x (Qd kB1013 O O)<|x (Qr kB1513 O O)<|xl O<|QC (us:=[Zx ⟨q.nm,vl,Kg p.co q.ts,q.bd⟩]) O O (by decide) (by simp) ⟨rfl,rfl,U⟩ λb126 u14 ht hb126 kB126 =>
     xl rfl<|Q2 (news:=Zx ⟨q.nm,vl,Kg p.co q.ts,q.bd⟩) (L:=[]) (Qq kX13.own ht) O O O (kB126.at (by simp)) (QbX (q:=⟨q.nm,vl,Kg p.co q.ts,q.bd⟩) (QH kO13)) (by omega) (by have:=ht.size;omega) λhQ hf g5 ge pw=>?_
    have kz14:=ht.size;have kX15:KvN Y.heap.size hf hQ (kx++[⟨q.nm,vl,Kg p.co q.ts,q.bd⟩]):=ZZ.app2 (N:=hM.heap.size) (kX13.ext ht) (by show u14.ownsRow _ _ 2 vl (Kg p.co q.ts).length _;rw[pu];exact Qq kO13 ht) (by show (Kg p.co q.ts).length≤_;omega) (by omega) (λb hb=>by have:=kXge b hb;omega) g5 ge pw;have pz:H∉ob vk:=λhm=>by have:=(kXge H hm).1;omega
    have p0:G∉ob vk:=λhm=>by have:=(kXge G hm).1;omega
    have ks915:Step [H,G] Y hf:=((hF.trans' (mc.mono kz)).trans ht).then ge (λb hb=>.inr (kXge b hb).1);have kB1015:=(kB1013.ext ht).step ge pz;have kB1115:=(kB1113.ext ht).step ge p0;refine x (Qa O)<|xl O<|QE (j:=4) (u:=hQ) kB1015 O O (by simp) (QH g5) λu16 g6 kB1016=>xe ?_;refine Qy<|QP O O<|Qb<|xe ?_
    refine ⟨(k+1,mj,hQ,kx++[⟨q.nm,vl,Kg p.co q.ts,q.bd⟩]),by simp only[];omega,Z,ha,ks915.trans' (g6.mono ky),kB1016,kB1115.step g6 (by simp only[List.mem_singleton];omega),ZZ.low kX15 g6 (λb hb=>hlt10 b (ky b hb)),?_,?_,?_⟩
    ·simp only[];rw[hcsB,Lt,gw];rfl
    ·simp only[];rw[hcsM,h6,k5,Bool.or_assoc]
    intro q' p4;rcases Lj.1 p4 with h9' | h9'
    ·exact ph q' h9'
    simp only[List.mem_singleton] at h9';subst h9';exact pn
   refine Qi ?_;have hp:j<q.ts.length:=by have hw:(j:Int)<(q.ts.length:Int):=hP;omega
   have hR:q.ts.take (j+1)=q.ts.take j++[q.ts[j]'hp]:=Le hp;have mc:Step [G] ho hG:=(hH.any (L:=[G])).then gc (λb hb=>by
    simp only[List.mem_cons,List.not_mem_nil,or_false] at hb;rcases hb with rfl | rfl
    ·exact .inr hz
    exact .inl (by simp))
   have p5:P2s [] hG.heap q.v q.ts:=(h.ext ks013).cs.each q hy;refine Qf<|Qh<|Qc<|xig (g:=QO) YK p5 O O hp λa108 g7=>?_;refine Zd (q.ts[j]'hp) λlc p6=>?_;rw[p6] at g7 hR;have p7:Kg p.co (q.ts.take (j+1))=Kg p.co (q.ts.take j)++[((lwB p.co lc.1:Int),lc.2)]:=by
    rw[hR];unfold Kg;rw[Lt];rfl
   have p8:mis p.co (q.ts.take (j+1))=(mis p.co (q.ts.take j) || !decide (lc.1∈p.co)):=by
    rw[hR];unfold mis;rw[List.any_append];simp
   refine x (QI g7 O O)<|xl O<|Qt (us:=[.int .i64 0,.int .i64 0]) O λb22 u14 ht p9 kB17=>xl O<|Qp (us:=QO lc) kB17 O O O O ⟨O,O,U⟩ λhf ge kB17=>xe ?_;have hS:Step [] hG hf:=ht.then1 ge p9;have ks015:=ks013.trans hS;have kz15:=hS.size;have kB1515:=kB1513.ext hS;have kB1115:=kB1113.ext hS
   have kB315:QZ hf.heap b3 95 [v0,v1,v2,v3]:=(((kB310.ext hH).step gc pt)).ext hS;have g8:he∉G::ob vl:=λhb=>by
    rcases Lb.1 hb with rfl | hb
    ·omega
    have:=(h8 he hb).1;omega
   have g9:b22∉G::ob vl:=λhb=>by
    rcases Lb.1 hb with rfl | hb
    ·omega
    have:=(h8 b22 hb).2;omega
   have ka:G∉ob vl:=λhb=>by have:=(h8 G hb).1;omega
   have qf:he∉ob vl:=λhb=>g8 (Ll _ hb);refine QW (Step (G::ob vl) hf) [(0,true),(1,true),(2,true),(3,true),(4,true),(6,true),(7,true),(5,false),(8,true),(9,false),(10,false),(11,true),(12,false)] mixed (by rfl) (by kernel_rfl) (Step.drew _ _) ?_;have mf:Step [] hf { hf with drawn:=hf.drawn+1 }:=Step.drew _ _
   have hzd:({ hf with drawn:=hf.drawn+1 }:World).heap.size=hf.heap.size:=rfl
   refine Go.Lg.p (λ_=>Qa O)<|pq (λ_ hc=>Qd (kB1515.step hc g8) O O)<|Go.Lg.p (λ_=>Qo)<|Go.Lg.p (λ_=>Qa O)<|pq (λ_ hc=>Qd (kB17.step hc g9) O O) <|
    Go.Lg.p (λ_=>Qa O)<|pq (λ_ hc=>Qd (kB17.step hc g9) O O)<|pk<|xc (first:=[]) (capt:=[.pointer (some ⟨b3,0,none⟩),.pointer (some ⟨G,0,none⟩)]) O<|(qW (kB315.ext mf) (kB1115.ext mf) (hc.ext (ks015.trans mf)) gs.2.1 lc.1).mono ?_
   rintro r16 u16 ⟨g6,rfl,kB1116⟩;have mg:=mf.any.trans' g6;have kz16:=mg.size;have hT:∀b∈[G],b∈G::ob vl:=λb hb=>by simp only[List.mem_singleton] at hb;simp[hb]
   refine ⟨mg.mono hT,?_⟩;refine Go.Lg.p (λ_=>QD ⟨O,O,U⟩)<|pk<|QC (us:=[QO ((lwB p.co lc.1:Int),lc.2)]) O O (by decide) (by simp) ⟨rfl,rfl,U⟩ λb119 u17 ql hb119 gt=>⟨(mg.trans ql).mono hT,?_⟩;have kb:=mg.trans ql
   have kO17:u17.ownsRow hM.heap.size 129 2 vl j ((Kg p.co (q.ts.take j)).flatMap QO):=Qj (Qq kO13 hS) kb (λb hb hm=>by simp only[List.mem_singleton] at hm;subst hm;exact ka hb);have kz17:=kb.size;refine pk<|Q2 (news:=QO ((lwB p.co lc.1:Int),lc.2)) (L:=[]) kO17 O O O (gt.at (by simp)) (λu hu=>by
    simp only[List.mem_cons,List.not_mem_nil,or_false] at hu;rcases hu with rfl | rfl <;> rfl) (by omega) (by omega) λkc u18 hU mh hn18=>⟨(kb.mono hT).trans' (mh.mono (λb hb=>Ll _ hb)),?_⟩
   have kB1518:=((kB1515.step kb (by simp only[List.mem_singleton];omega))).step mh qf;have kB1118:=(kB1116.ext ql).step mh ka;refine Go.Lg.p (λ_=>Qa O)<|pkl (hl:=by kernel_rfl)<|QE (j:=1) (u:=kc) kB1518 O O (by simp) (QH hU) λu19 qo kB1519=>pe ?_;refine Qy<|QP O O<|Qb<|xe ?_;have q5:∀b∈[G],b∈[he,G]:=λb hb=>by simp only[List.mem_singleton] at hb;simp[hb]
   have za:∀b∈[he],b∈[he,G]:=λb hb=>by simp only[List.mem_singleton] at hb;simp[hb]
   have ks1218:Step [he,G] hM u18:=((gc.trans hS).trans' (kb.mono q5)).then mh (λb hb=>.inr (h8 b hb).1);refine ⟨(j+1,mj || !decide (lc.1∈p.co),kc),by simp only[];omega,Z,hp,ks1218.trans' (qo.mono za),kB1519,kB1118.step qo (by simp only[List.mem_singleton];omega),?_,?_⟩
   ·simp only[];rw[p7,Ly];have:=Qj hU qo (λb hb=>by
     simp only[List.mem_singleton];have:=(Qk hU b hb).1;omega)
    simpa using this
   simp only[];rw[p8,h6,Bool.or_assoc]
  refine Qi ?_;have ha:k<p.ex.length:=by have hw:(k:Int)<(p.ex.length:Int):=hK;omega
  have hN:p.ex.take (k+1)=p.ex.take k++[p.ex[k]'ha]:=Le ha;have pm:=hexz.1 _ (Li ha);refine Zd (p.ex[k]'ha) λi gz=>?_;rw[gz] at hN pm;have gb:i=(i.toNat:Int):=by omega
  have T:i.toNat<c.ex.length:=by omega
  have hy:=Li T;have hO:exG c.cel i=(c.ex[i.toNat]'T).x:=by
   show (c.ex.map (·.x)).getD i.toNat ⟨.empty,[]⟩=_;simp[List.getD,T]
  refine Zd (c.ex[i.toNat]'T) λq hq=>?_;rw[hq] at hy hO;have g0:=pa.ex.each q hy;have pn:=pa.ex.nm q hy;have hql:=g0.le;have hexB:exB c.cel p.co (p.ex.take (k+1))=exB c.cel p.co (p.ex.take k)++[⟨q.nm,Kg p.co q.ls⟩]:=by
   rw[hN];unfold exB;rw[Lt,Mx,hO];rfl
  have hexM:exM c.cel p.co (p.ex.take (k+1))=(exM c.cel p.co (p.ex.take k) || mis p.co q.ls):=by
   rw[hN];unfold exM;rw[List.any_append,List.any_cons,List.any_nil,Bool.or_false,hO];rfl
  refine Qf<|Qh<|Qc<|xii (i:=k) (hx.ext gv) O O ha λa90 g2=>?_;rw[gz] at g2;refine x (Qx g2 O)<|Qe<|Qc<|x (Qa O)<|x (Qd pc O O)<|Qb<|xig (g:=Zs) (i:=i.toNat) JC pa.ex.arr O (congrArg (Value.int .i64) gb) T λa95 h95=>?_;rw[hq] at h95;refine x (Zl O)<|x (Qx (h95.fld 0 (.string q.nm) O) O)<|x (QD Z)<|xl O<|Qt (us:=[.string .empty,nS]) O λhg w11 z0 hz mo =>
   xl rfl<|Qp (us:=[.string q.nm,nS]) mo O O O O ⟨O,O,U⟩ λgg hs12 mo=>xe ?_
  have hI:Step [] Y gg:=z0.then1 hs12 hz;have hs012:=gv.trans hI;have h12:=h.ext hs012;have hB212:=pc.ext hI;have hz12:=hI.size;have hl15:=mo.lt;have po:=g0.ext hI;refine Qf<|Qc<|x (Qa O)<|x (Qd hB212 O O)<|Qb<|xig (g:=Zs) (i:=i.toNat) JC h12.ex.arr O (congrArg (Value.int .i64) gb) T λa102 g3=>?_;rw[hq] at g3
  refine x (Zl O)<|x (Qx (g3.fld 1 q.v O) O)<|x (Qs po O)<|Qb<|xe ?_;have pp:∀b∈[hg,G],w.heap.size≤b:=λb hb=>by simp only[List.mem_cons,List.not_mem_nil,or_false] at hb;omega
  have pt:b3∉[hg,G]:=λhb=>by simp only[List.mem_cons,List.not_mem_nil,or_false] at hb;omega
  have hn1510:H∉[hg,G]:=λhb=>by simp only[List.mem_cons,List.not_mem_nil,or_false] at hb;omega
  refine Qh<|QB (α:=Nat×Bool×Value) [(17,17),(106,122)] (λz=>[(106,.int .i64 z.1)]) (λz w'=>z.1≤q.ls.length∧Step [hg,G] gg w'∧QZ w'.heap hg 122 [.string q.nm,z.2.2]∧QZ w'.heap G 4 [.bool z.2.1] ∧
   w'.ownsRow gg.heap.size 124 2 z.2.2 z.1 ((Kg p.co (q.ls.take z.1)).flatMap QO)∧z.2.1=(mi || mis p.co (q.ls.take z.1))) (λz=>q.ls.length - z.1) (by rfl) (0,mi,nS) Z
   ⟨Lk _,Step.refl _ _,mo,gt.ext hI,QN _ _ _ _,by simp[mis]⟩ ?_
  rintro ⟨j,mj,vl⟩ g gh ⟨hj,gi,z2,z3,gj,h6⟩;simp only[] at hj z2 z3 gj h6;have hs013:Step [] w gh:=hs012.then gi (λb hb=>.inr (pp b hb));have hz13:=gi.size;have h8:=Qk gj;refine Qc<|x (QA O O)<|xe<|Qf<|QG O (λhP=>?_) (λhP=>?_)
  ·refine Qz ?_;have g4:j=q.ls.length:=by have hw:¬(j:Int)<(q.ls.length:Int):=hP;omega
   rw[g4,MU] at gj;rw[g4,MU] at h6;have mq:Step [G] Y gh:=(hI.any (L:=[G])).then gi (λb hb=>by
    simp only[List.mem_cons,List.not_mem_nil,or_false] at hb;rcases hb with rfl | rfl
    ·exact .inr hz
    exact .inl (by simp))
   have hB1013:=m8.step mq (by simpa using hn10);have hX13:XvN w9.heap.size gh vx qx:=ZZ.low k0 mq (λb hb=>kw b (kz b hb));have ms:=Qk k0.own;have pu:(Kg p.co q.ls).length=q.ls.length:=Lc ..
   refine Qy<|x (Qa O)<|x (Qd hB1013 O O)<|x (Qr z2 O O)<|xl O<|QC (us:=[Zs ⟨q.nm,vl,Kg p.co q.ls⟩]) O O (by decide) (by simp) ⟨rfl,rfl,U⟩ λb126 w14 hv hb126 hB126 =>
    xl rfl<|Q2 (news:=Zs ⟨q.nm,vl,Kg p.co q.ls⟩) (L:=[]) (Qq hX13.own hv) O O O (hB126.at (by simp)) (zy (q:=⟨q.nm,vl,Kg p.co q.ls⟩) (QH gj)) (by omega) (by have:=hv.size;omega) λhQ hh g5 gk pw=>?_
   have hz14:=hv.size;have hX15:XvN w9.heap.size hh hQ (qx++[⟨q.nm,vl,Kg p.co q.ls⟩]):=ZZ.app2 (N:=gg.heap.size) (hX13.ext hv) (by show w14.ownsRow _ _ 2 vl (Kg p.co q.ls).length _;rw[pu];exact Qq gj hv) (by show (Kg p.co q.ls).length≤_;omega) (by omega) (λb hb=>by have:=ms b hb;omega) g5 gk pw;have pz:H∉ob vx:=λhm=>by have:=(ms H hm).1;omega
   have p0:G∉ob vx:=λhm=>by have:=(ms G hm).1;omega
   have hs915:Step [H,G] w9 hh:=((hJ.trans' (mq.mono kz)).trans hv).then gk (λb hb=>.inr (ms b hb).1);have hB1015:=(hB1013.ext hv).step gk pz;have z4:=(z3.ext hv).step gk p0;refine x (Qa O)<|xl O<|QE (j:=3) (u:=hQ) hB1015 O O (by simp) (QH g5) λw16 ke hB1016=>xe ?_;refine Qy<|QP O O<|Qb<|xe ?_
   refine ⟨(k+1,mj,hQ,qx++[⟨q.nm,vl,Kg p.co q.ls⟩]),by simp only[];omega,Z,ha,hs915.trans' (ke.mono ky),hB1016,z4.step ke (by simp only[List.mem_singleton];omega),ZZ.low hX15 ke (λb hb=>kw b (ky b hb)),?_,?_,?_⟩
   ·simp only[];rw[hexB,Lt,gu];rfl
   ·simp only[];rw[hexM,h6,k4]
   intro q' p4;rcases Lj.1 p4 with h9' | h9'
   ·exact m9 q' h9'
   simp only[List.mem_singleton] at h9';subst h9';exact pn
  refine Qi ?_;have hp:j<q.ls.length:=by have hw:(j:Int)<(q.ls.length:Int):=hP;omega
  have hR:q.ls.take (j+1)=q.ls.take j++[q.ls[j]'hp]:=Le hp;have mq:Step [G] Y gh:=(hI.any (L:=[G])).then gi (λb hb=>by
   simp only[List.mem_cons,List.not_mem_nil,or_false] at hb;rcases hb with rfl | rfl
   ·exact .inr hz
   exact .inl (by simp))
  have p5:P2s [] gh.heap q.v q.ls:=(h.ext hs013).ex.each q hy;refine Qf<|Qh<|Qc<|xig (g:=QO) YK p5 O O hp λa108 g7=>?_;refine Zd (q.ls[j]'hp) λlc p6=>?_;rw[p6] at g7 hR;have p7:Kg p.co (q.ls.take (j+1))=Kg p.co (q.ls.take j)++[((lwB p.co lc.1:Int),lc.2)]:=by
   rw[hR];unfold Kg;rw[Lt];rfl
  have p8:mis p.co (q.ls.take (j+1))=(mis p.co (q.ls.take j) || !decide (lc.1∈p.co)):=by
   rw[hR];unfold mis;rw[List.any_append];simp
  refine x (QI g7 O O)<|xl O<|Qt (us:=[.int .i64 0,.int .i64 0]) O λb17 w14 hv p9 mt=>xl O<|Qp (us:=QO lc) mt O O O O ⟨O,O,U⟩ λhh gk mt=>xe ?_;have hV:Step [] gh hh:=hv.then1 gk p9;have hs015:=hs013.trans hV;have hz15:=hV.size;have hB1515:=z2.ext hV;have z4:=z3.ext hV
  have hB315:QZ hh.heap b3 95 [v0,v1,v2,v3]:=(((pd.ext hI).step gi pt)).ext hV;have g8:hg∉G::ob vl:=λhb=>by
   rcases Lb.1 hb with rfl | hb
   ·omega
   have:=(h8 hg hb).1;omega
  have g9:b17∉G::ob vl:=λhb=>by
   rcases Lb.1 hb with rfl | hb
   ·omega
   have:=(h8 b17 hb).2;omega
  have ka:G∉ob vl:=λhb=>by have:=(h8 G hb).1;omega
  have qf:hg∉ob vl:=λhb=>g8 (Ll _ hb);refine QW (Step (G::ob vl) hh) [(0,true),(1,true),(2,true),(3,true),(4,true),(6,true),(7,true),(5,false),(8,true),(9,false),(10,false),(11,true),(12,false)] mixed (by rfl) (by kernel_rfl) (Step.drew _ _) ?_;have mu:Step [] hh { hh with drawn:=hh.drawn+1 }:=Step.drew _ _
  have hzd:({ hh with drawn:=hh.drawn+1 }:World).heap.size=hh.heap.size:=rfl
  refine Go.Lg.p (λ_=>Qa O)<|pq (λ_ hc=>Qd (hB1515.step hc g8) O O)<|Go.Lg.p (λ_=>Qo)<|Go.Lg.p (λ_=>Qa O)<|pq (λ_ hc=>Qd (mt.step hc g9) O O) <|
   Go.Lg.p (λ_=>Qa O)<|pq (λ_ hc=>Qd (mt.step hc g9) O O)<|pk<|xc (first:=[]) (capt:=[.pointer (some ⟨b3,0,none⟩),.pointer (some ⟨G,0,none⟩)]) O<|(qW (hB315.ext mu) (z4.ext mu) (hc.ext (hs015.trans mu)) gs.2.1 lc.1).mono ?_
  rintro r16 w16 ⟨ke,rfl,hB1116⟩;have mv:=mu.any.trans' ke;have hz16:=mv.size;have hT:∀b∈[G],b∈G::ob vl:=λb hb=>by simp only[List.mem_singleton] at hb;simp[hb]
  refine ⟨mv.mono hT,?_⟩;refine Go.Lg.p (λ_=>QD ⟨O,O,U⟩)<|pk<|QC (us:=[QO ((lwB p.co lc.1:Int),lc.2)]) O O (by decide) (by simp) ⟨rfl,rfl,U⟩ λb119 w17 z5 hb119 ku=>⟨(mv.trans z5).mono hT,?_⟩;have kf:=mv.trans z5
  have hO17:w17.ownsRow gg.heap.size 124 2 vl j ((Kg p.co (q.ls.take j)).flatMap QO):=Qj (Qq gj hV) kf (λb hb hm=>by simp only[List.mem_singleton] at hm;subst hm;exact ka hb);have hz17:=kf.size;refine pk<|Q2 (news:=QO ((lwB p.co lc.1:Int),lc.2)) (L:=[]) hO17 O O O (ku.at (by simp)) (λu hu=>by
   simp only[List.mem_cons,List.not_mem_nil,or_false] at hu;rcases hu with rfl | rfl <;> rfl) (by omega) (by omega) λkc w18 hU mw hn18=>⟨(kf.mono hT).trans' (mw.mono (λb hb=>Ll _ hb)),?_⟩
  have hB1518:=((hB1515.step kf (by simp only[List.mem_singleton];omega))).step mw qf;have hB1118:=(hB1116.ext z5).step mw ka;refine Go.Lg.p (λ_=>Qa O)<|pkl (hl:=by kernel_rfl)<|QE (j:=1) (u:=kc) hB1518 O O (by simp) (QH hU) λw19 z9 hB1519=>pe ?_;refine Qy<|QP O O<|Qb<|xe ?_;have q5:∀b∈[G],b∈[hg,G]:=λb hb=>by simp only[List.mem_singleton] at hb;simp[hb]
  have za:∀b∈[hg],b∈[hg,G]:=λb hb=>by simp only[List.mem_singleton] at hb;simp[hb]
  have hs1218:Step [hg,G] gg w18:=((gi.trans hV).trans' (kf.mono q5)).then mw (λb hb=>.inr (h8 b hb).1);refine ⟨(j+1,mj || !decide (lc.1∈p.co),kc),by simp only[];omega,Z,hp,hs1218.trans' (z9.mono za),hB1519,hB1118.step z9 (by simp only[List.mem_singleton];omega),?_,?_⟩
  ·simp only[];rw[p7,Ly];have:=Qj hU z9 (λb hb=>by
    simp only[List.mem_singleton];have:=(Qk hU b hb).1;omega)
   simpa using this
  simp only[];rw[p8,h6,Bool.or_assoc]
 refine Qi ?_;have gl:k<I.length:=by have hw:(k:Int)<(I.length:Int):=m2;omega
 have hmem:=Li gl;have hdr:I.drop k=I[k]'gl::I.drop (k+1):=LK gl;refine Qf<|Qh<|Qc<|xig (g:=skC) QiS (hA54.ext hA) O O gl λa58 h58=>?_;refine Zd (I[k]'gl) λq hq=>?_;rw[hq] at h58 hmem hdr;have hqi:=hl4i q hmem;rw[hdr,show q=(q.1,q.2.1,q.2.2) from rfl,ck4] at hC
 refine x (QI h58 O O)<|xl O<|Qt (us:=[nS,.int .i64 0]) O λb8 w8 hX hb8 my=>xl O<|Qp (us:=skC q) my O O O O ⟨hqi.one,O,U⟩ λw9 m7 my=>xe ?_;have hD:Step [] V w9:=hX.then1 m7 hb8;have hZ:=gr.trans hD;refine Qc<|x (Qa O)<|x (Qd my O O)<|x (Qa O)<|x (Qd my O O)<|xl O<|xf<|(Qae (hqi.ext hZ) q.2.2).mono ?_;rintro r10 Y ⟨rfl,rfl⟩;refine Qe<|Qc<|Qb<|x (Q9 O O)<|xe ?_
 refine Q6 rfl (λkg=>?_) (λkg=>?_)
 ·rw[if_pos kg] at hC;have hne:ck4 I≠0:=by rw[←hC];exact kg
  rw[if_pos hne,←hC] at S;subst S;have pf:QZ Y.heap b4 47 Ym:=((m1.ext hW).ext hA).ext hD;refine Qc<|x (QD U)<|Qb<|xl O<|Qp (us:=Ym) pf O O O O ⟨O,O,O,O,O,U⟩ λw11 z0 hB411=>Qe ?_
  exact Qn ⟨[.agg Ym.toArray,.int .i64 (Xj q.2.2 none q.2.1)],⟨⟨_,O,Qv O (hB411.at (L:=[]) (by simp)).cells⟩,rfl,U⟩,hZ.then1 z0 (by omega),Ym,rfl,rfl,⟨rfl,rfl,rfl,rfl,rfl,U⟩,λ_=>rfl,λJ=>absurd J kg⟩
 rw[if_neg kg] at hC;refine Qi<|Qy<|QP O O<|Qb<|xe ?_;exact ⟨k+1,by omega,Z,gl,hA.trans hD,hC⟩
theorem yY (n:Nat):(1:Int)*(2:Int) ^ n=((1 <<< n:Nat):Int):=by
 rw[Nat.shiftLeft_eq,Nm,Int.one_mul,Int.natCast_pow];rfl
theorem JF {n:Nat}(h:n<16):1 <<< n<65536:=by
 rw[Nat.shiftLeft_eq,Nm];exact Nat.pow_lt_pow_right (by decide) h
theorem QaI {b k:Nat}(hb:b<65536) (hk:k<16):orB b k<65536:=QbJ hb (JF hk)
theorem QhL {n:Nat}(h:n<16):inK .u16 ((1:Int)*(2:Int) ^ n):=by
 rw[yY];have h1:=JF h;generalize 1 <<< n=m at h1;exact ⟨by omega,by omega⟩
theorem Qeh {x:YN}:∀(l:List YN) (k b:Nat),b<65536→k+l.length≤16→rqB x k b l<65536
 | [],_,_,hb,_=>hb
 | y::l,k,b,hb,hk=>by
  rw[rqB];refine Qeh l _ _ ?_ (by simp at hk;omega);by_cases h:(y.a.al.any λe=>decide (e∈x.a.al))=true
  ·rw[if_pos h];exact QaI hb (by simp at hk;omega)
  rw[if_neg h];exact hb
theorem jf (ls:List (Int×Int)) (l:Int×Int):qF (ls++[l])=orB (qF ls) l.1.toNat:=by
 unfold qF;rw[Mk];rfl
theorem zT:∀(ls:List (Int×Int)),(∀l∈ls,0≤l.1∧l.1<16)→qF ls<65536:=by
 intro ls;unfold qF;have key:∀(ls:List (Int×Int)) (b:Nat),b<65536→(∀l∈ls,0≤l.1∧l.1<16)→ls.foldl (λb l=>orB b l.1.toNat) b<65536:=by
  intro ls;induction ls with
  | nil=>intro b hb _;exact hb
  | cons l ls ih =>
   intro b hb h;exact ih _ (QaI hb (by have:=h l Ln;omega)) (λl' hl=>h l' (Ll _ hl))
 exact key ls 0 (by decide)
theorem yh (m:Nat) (hm:m<65536) (w:World):QK prog 65 [.int .u16 m] w λr w'=>Step [] w w'∧Qu 3 w.heap.size w' r (setK m 8):=by
 refine QK.of_W func65 O ntmps65 results65 (by simp) ?_;refine Qc<|Qe<|Qc<|Qe<|Qf<|Qc<|Qb<|xe<|Qh<|QB (α:=Nat×Value) [(3,17)] (λz=>[(3,z.2),(5,.int .i64 z.1)]) (λz w'=>z.1≤8∧Step [] w w'∧Qu 3 w.heap.size w' z.2 (setK m z.1)) (λz=>8 - z.1) (by rfl) (0,nS) ⟨O,O,U⟩
  ⟨Lk _,Step.refl _ _,QN _ _ _ _⟩ ?_
 rintro ⟨k,v⟩ g w1 ⟨hk,G,E⟩;simp only[] at hk E;have hg:=YY m k;have hh:=G.size;refine Qc<|x (QA O O)<|xe<|Qf<|QG O (λT=>?_) (λT=>?_)
 ·refine Qz<|Qc<|Qb<|Qe ?_;have V:k=8:=by omega
  rw[V] at E;exact Qn ⟨[v],Z,G,E⟩
 have J:k<8:=by omega
 have Y:m / 2 ^ k<65536:=Nat.lt_of_le_of_lt (Nat.div_le_self _ _) hm;have H:=Vw m k;refine Qi<|Qf<|Qh<|Qc<|Qb<|Qe<|Qc<|Qb<|Qb<|x (qY (n:=k) O O (by show k≤16;omega))<|x (Qg6 (a:=m / 2 ^ k) (b:=1) (congrArg (Value.int .u16) (zH m k)) O Y (by decide))<|x (Q5 O O)<|xe<|QG rfl (λS=>?_) (λS=>?_)
 ·rw[if_neg (λe=>S (by rw[e];rfl))] at H;refine Qi<|Qy<|QP O O<|Qb<|xe ?_;exact ⟨(k+1,v),by simp only[];omega,⟨O,O,U⟩,J,G,by simp only[];rw[H];exact E⟩
 rw[if_pos (by omega)] at H;refine Qy<|Qb<|Qb<|xl O<|QC (us:=[[.int .i64 k]]) O O (by decide) (by simp) ⟨rfl,rfl,U⟩ λhi w2 I hj ha=>?_;have hc:=Qq E I;have hl:=I.size;refine xl rfl<|Q2 (news:=[.int .i64 k]) (L:=[]) hc O O O (ha.at (by simp)) (by simp[Value.oneCell']) (by omega) (by omega) λv3 w3 he hf hn =>
  Qe ?_
 have hge:=Qk E;refine Qy<|QP O O<|Qb<|xe<|⟨(k+1,v3),by simp only[];omega,⟨O,O,U⟩,J,(G.trans I).then hf (λb hb=>.inr (hge b hb).1),?_⟩;simp only[];rw[H];exact Qu.snoc he
theorem Qd2 {w:World}{c:CL}{E G i:Nat}(J:QZ w.heap E 47 c.cells) (S:QZ w.heap G 3 [.int .i64 i]) (hc:ZA [] w.heap c) {q:IV}(hi:c.rq[i]?=some q) (e:Int) :
  QK prog 136 [.int .i64 e,.pointer (some ⟨E,0,none⟩),.pointer (some ⟨G,0,none⟩)] w λr w'=>r=.bool (decide (e∈q.p.a.al))∧Step [] w w':=by
 obtain ⟨H,hq⟩:=LY.1 hi;have T:=hc.rq.each q (hq ▸ Li H);refine QK.of_W func136 O ntmps136 results136 (by simp) ?_;refine Qc<|Qe<|Qc<|x (Qa O)<|x (Qd J O O)<|x (Qd S O O)<|xig (g:=Za) (i:=i) YT hc.rq.arr O O H λV I=>?_;rw[hq] at I;refine x (Zl O)<|x (Zl O)<|x (Qx ((I.fld 1 q.p.va O)) O)<|Qb<|xl O<|xf<|(ZM T.al e).mono ?_
 rintro Y w1 ⟨rfl,rfl⟩;refine Qe ?_;exact Qn ⟨[_],Z,O,Step.refl _ _⟩
theorem QgR {w:World}{c:CL}{T i:Nat}(hg:QZ w.heap T 47 c.cells) (hc:ZA [] w.heap c) (h8:c.co.length≤8) {q:IV}(hi:c.rq[i]?=some q) :
  QK prog 134 [.int .i64 i,.pointer (some ⟨T,0,none⟩)] w λr w'=>r=.int .u16 (rqB q.it 0 0 c.cel.co)∧Step [] w w':=by
 refine QK.of_W func134 O ntmps134 results134 (by simp) ?_;refine Qc<|xl O<|QS (us:=[.int .i64 i]) O λb2 w1 V hw hn=>Qe<|Qc<|Qe<|Qf<|Qc<|x (Qa O)<|x (Qd (hg.ext V) O O)<|x (Qs (hc.ext V).co.arr O)<|Qb<|xe ?_
 refine Qh<|QB (α:=Nat×Nat) [(4,6),(10,24)] (λz=>[(4,.int .u16 z.2),(10,.int .i64 z.1)]) (λz w'=>z.1≤c.co.length∧Step [] w1 w'∧z.2<65536∧rqB q.it z.1 z.2 ((c.co.drop z.1).map (·.it))=rqB q.it 0 0 c.cel.co) (λz=>c.co.length - z.1) (by rfl) (0,0) ⟨O,O,U⟩
  ⟨Lk _,Step.refl _ _,by decide,O⟩ ?_
 rintro ⟨k,b⟩ g w2 ⟨hk,J,hb,E⟩;simp only[] at hk hb E;have Y:=V.trans J;have h2:=hc.ext Y;refine Qc<|x (QA O O)<|xe<|Qf<|QG O (λha=>?_) (λha=>?_)
 ·refine Qz ?_;have ho:c.co.length≤k:=by have hp:¬(k:Int)<(c.co.length:Int):=ha;omega
  rw[Lq ho] at E;have hq:b=rqB q.it 0 0 c.cel.co:=E;refine Qc<|Qb<|Qe ?_;exact Qn ⟨[.int .u16 b],Z,by rw[hq];rfl,Y⟩
 have G:k<c.co.length:=by have hp:(k:Int)<(c.co.length:Int):=ha;omega
 have hh:=Li G;rw[XK G,rqB] at E;refine Qi<|Qf<|Qh<|Qc<|Qb<|xig (g:=Za) (i:=k) YT h2.co.arr O O G λhz hj=>?_;refine Zd (c.co[k]'G) λy hy=>?_;rw[hy] at hj hh E;have S:=h2.co.each y hh;refine x (QI hj O O)<|xl O<|Qt (us:=[.string .empty,nS,.int .i64 0,nS,nS]) O λb6 w3 hs ht he=>x Qg <|
  xl rfl<|Qp (us:=Za y) he O O O O ⟨O,S.al.one,O,S.mr.one,S.ed.one,U⟩ λw4 hu he=>xe ?_
 have I:Step [] w2 w4:=hs.then1 hu ht;have hl:=Y.trans I;refine Qc<|x (Qa O)<|x (Qa O)<|x (Qd he O O)<|x (Zo (l:=[]) (l':=[_,_]))<|xl O<|xf<|(Qcf (q:=λe=>decide (e∈q.p.a.al)) (cap:=[.pointer (some ⟨T,0,none⟩),.pointer (some ⟨b2,0,none⟩)]) (S.al.ext I)
  (λe w5 H=>Qd2 ((hg.ext hl).ext H) ((hn.ext (J.trans I)).ext H) ((hc.ext hl).ext H) hi e)).mono ?_
 rintro r5 w5 ⟨rfl,H⟩;refine xe<|Q3 rfl (λhf=>?_) (λhf=>?_)
 ·rw[if_pos (by exact hf)] at E;refine Qy<|Qb<|Qb<|x (QbB (n:=k) O O (by show k≤16;omega) (QhL (by omega)))<|x (QaD (a:=b) (b:=1 <<< k) O (congrArg (Value.int .u16) (yY k)) hb (JF (by omega)))<|Qe<|Qy<|QP O O<|Qb<|xe ?_;exact ⟨(k+1,orB b k),by simp only[];omega,⟨O,O,U⟩,G,(J.trans I).trans H,QaI hb (by omega),E⟩
 rw[if_neg (by intro h0;have hv:(y.p.a.al.any λe=>decide (e∈q.p.a.al))=false:=hf;have hm:(y.p.a.al.any λe=>decide (e∈q.p.a.al))=true:=h0;rw[hv] at hm;cases hm)] at E;refine Qi<|Qy<|QP O O<|Qb<|xe ?_;exact ⟨(k+1,b),by simp only[];omega,⟨O,O,U⟩,G,(J.trans I).trans H,hb,E⟩
theorem QgQ {w:World}{c:CL}{T i:Nat}(hf:QZ w.heap T 47 c.cells) (hc:ZA [] w.heap c) {q:XV}(hi:c.ex[i]?=some q) (hm:∀l∈q.ls,0≤l.1∧l.1<16) :
  QK prog 137 [.int .i64 i,.pointer (some ⟨T,0,none⟩)] w λr w'=>r=.int .u16 (qF q.ls)∧Step [] w w':=by
 obtain ⟨V,hq⟩:=LY.1 hi;have H:=hc.ex.each q (hq ▸ Li V);have ht:=H.le;refine QK.of_W func137 O ntmps137 results137 (by simp) ?_;refine Qc<|Qe<|Qc<|Qe<|Qf<|Qc<|x (Qa O)<|x (Qd hf O O)<|Qb<|xig (g:=Zs) (i:=i) JC hc.ex.arr O O V λhu Y=>?_;rw[hq] at Y;refine x (Zl O)<|x (Qx (Y.fld 1 q.v O) O)<|x (Qs H O)<|Qb<|xe ?_
 refine Qh<|QB (α:=Nat×Nat) [(4,4),(6,6),(14,23)] (λz=>[(4,.int .u16 z.2),(14,.int .i64 z.1)]) (λz w'=>z.1≤q.ls.length∧Step [] w w'∧z.2=qF (q.ls.take z.1)) (λz=>q.ls.length - z.1) (by rfl) (0,0) ⟨O,O,U⟩
  ⟨Lk _,Step.refl _ _,O⟩ ?_
 rintro ⟨k,b⟩ g w1 ⟨hk,I,hb⟩;simp only[] at hk hb;have hg:b<65536:=by rw[hb];exact zT _ (λl hl=>hm l (LM hl))
 refine Qc<|x (QA O O)<|xe<|Qf<|QG O (λJ=>?_) (λJ=>?_)
 ·refine Qz ?_;have hh:q.ls.length≤k:=by have G:¬(k:Int)<(q.ls.length:Int):=J;omega
  rw[Lm hh] at hb;refine Qc<|Qb<|Qe ?_;exact Qn ⟨[.int .u16 b],Z,by rw[hb];rfl,I⟩
 have E:k<q.ls.length:=by have G:(k:Int)<(q.ls.length:Int):=J;omega
 have ha:q.ls.take (k+1)=q.ls.take k++[q.ls[k]'E]:=Le E;have hj:=hm _ (Li E);refine Qi<|Qf<|Qh<|Qc<|xig (g:=QO) YK (H.ext I) O O E λhv G=>?_;refine Zd (q.ls[k]'E) λl hl=>?_;rw[hl] at G ha hj;have hn:l.1=(l.1.toNat:Int):=by omega
 have he:l.1.toNat<16:=by omega
 refine x (QI G O O)<|xl O<|Qt (us:=[.int .i64 0,.int .i64 0]) O λb6 w2 ho hp S=>xl O<|Qp (us:=QO l) S O O O O ⟨O,O,U⟩ λw3 hr S =>
  xe ?_
 have hs:Step [] w1 w3:=ho.then1 hr hp;refine Qy<|Qb<|x (Qa O)<|x (Qd S O O)<|x (QbB (n:=l.1.toNat) O (congrArg (Value.int .i64) hn) (by show l.1.toNat≤16;omega) (QhL he))<|x (QaD (a:=b) (b:=1 <<< l.1.toNat) O (congrArg (Value.int .u16) (yY _)) hg (JF he))<|Qe<|Qy<|QP O O<|Qb<|xe ?_
 exact ⟨(k+1,orB b l.1.toNat),by simp only[];omega,⟨O,O,U⟩,E,I.trans hs,by simp only[];rw[ha,jf,hb]⟩
theorem QgP {w:World}{c:CL}{T i:Nat}(hf:QZ w.heap T 47 c.cells) (hc:ZA [] w.heap c) {q:KV}(hi:c.cs[i]?=some q) (hm:∀l∈q.ts,0≤l.1∧l.1<16) :
  QK prog 138 [.int .i64 i,.pointer (some ⟨T,0,none⟩)] w λr w'=>r=.int .u16 (qF q.ts)∧Step [] w w':=by
 obtain ⟨V,hq⟩:=LY.1 hi;have H:=hc.cs.each q (hq ▸ Li V);have ht:=H.le;refine QK.of_W func138 O ntmps138 results138 (by simp) ?_;refine Qc<|Qe<|Qc<|Qe<|Qf<|Qc<|x (Qa O)<|x (Qd hf O O)<|Qb<|xig (g:=Zx) (i:=i) Jk hc.cs.arr O O V λhu Y=>?_;rw[hq] at Y;refine x (Zl O)<|x (Qx (Y.fld 1 q.v O) O)<|x (Qs H O)<|Qb<|xe ?_
 refine Qh<|QB (α:=Nat×Nat) [(4,4),(6,6),(14,23)] (λz=>[(4,.int .u16 z.2),(14,.int .i64 z.1)]) (λz w'=>z.1≤q.ts.length∧Step [] w w'∧z.2=qF (q.ts.take z.1)) (λz=>q.ts.length - z.1) (by rfl) (0,0) ⟨O,O,U⟩
  ⟨Lk _,Step.refl _ _,O⟩ ?_
 rintro ⟨k,b⟩ g w1 ⟨hk,I,hb⟩;simp only[] at hk hb;have hg:b<65536:=by rw[hb];exact zT _ (λl hl=>hm l (LM hl))
 refine Qc<|x (QA O O)<|xe<|Qf<|QG O (λJ=>?_) (λJ=>?_)
 ·refine Qz ?_;have hh:q.ts.length≤k:=by have G:¬(k:Int)<(q.ts.length:Int):=J;omega
  rw[Lm hh] at hb;refine Qc<|Qb<|Qe ?_;exact Qn ⟨[.int .u16 b],Z,by rw[hb];rfl,I⟩
 have E:k<q.ts.length:=by have G:(k:Int)<(q.ts.length:Int):=J;omega
 have ha:q.ts.take (k+1)=q.ts.take k++[q.ts[k]'E]:=Le E;have hj:=hm _ (Li E);refine Qi<|Qf<|Qh<|Qc<|xig (g:=QO) YK (H.ext I) O O E λhv G=>?_;refine Zd (q.ts[k]'E) λl hl=>?_;rw[hl] at G ha hj;have hn:l.1=(l.1.toNat:Int):=by omega
 have he:l.1.toNat<16:=by omega
 refine x (QI G O O)<|xl O<|Qt (us:=[.int .i64 0,.int .i64 0]) O λb6 w2 ho hp S=>xl O<|Qp (us:=QO l) S O O O O ⟨O,O,U⟩ λw3 hr S =>
  xe ?_
 have hs:Step [] w1 w3:=ho.then1 hr hp;refine Qy<|Qb<|x (Qa O)<|x (Qd S O O)<|x (QbB (n:=l.1.toNat) O (congrArg (Value.int .i64) hn) (by show l.1.toNat≤16;omega) (QhL he))<|x (QaD (a:=b) (b:=1 <<< l.1.toNat) O (congrArg (Value.int .u16) (yY _)) hg (JF he))<|Qe<|Qy<|QP O O<|Qb<|xe ?_
 exact ⟨(k+1,orB b l.1.toNat),by simp only[];omega,⟨O,O,U⟩,E,I.trans hs,by simp only[];rw[ha,jf,hb]⟩
end Go.Proofs.YtdffckgdcegpaaaGreatDoor
namespace Go.Lg
theorem xcG {P:Program}{f:Fr}{w:World}{K:Fr→World→Prop}{d:Option Nat}{ty:Nat}{ps:String}{af:Array Edge}{gd:Option (Nat×Bool)}{x:Operand}{l:List Operand}{at_:Array Nat}
  {g:Nat} {first capt:LV} (E:∃fn,Fu P g fn) (hx:ev f x=.func (.func g) first.toArray capt.toArray) (h:QK P g (first++l.map (ev f)++capt) w λv w'=>K (QV f d v) w') :
  XO P ⟨d,.call ⟨.value x,l.toArray,at_⟩,ty,ps,af,gd⟩ f w K:=by
 obtain ⟨fn,G⟩:=E;exact xc (fn:=fn) hx h
end Go.Lg
namespace Go.Proofs.YtdffckgdcegpaaaGreatDoor
open Go.Proofs.Tryz
open Go.Lg
def gK (m:Nat):Nat:=if m=0 then 134 else if m=1 then 137 else 138
theorem Qfo (m:Nat):∃fn,Fu prog (gK m) fn:=by
 unfold gK;split
 ·exact ⟨_,inferInstance⟩
 split
 ·exact ⟨_,inferInstance⟩
 exact ⟨_,inferInstance⟩
abbrev Xe (c:Zw) (m:Nat):LN:=srK c ((m:Int)+1)
theorem Qd8 (c:Zw):Xe c 0=srR c:=rfl
theorem Qd7 (c:Zw):Xe c 1=srX c:=rfl
theorem Qd6 (c:Zw):Xe c 2=srC c:=rfl
structure Ua (c:Zw):Prop where
 c8:c.co.length≤8
 r:c.rq.length≤32
 x:c.ex.length≤32
 k:c.cs.length≤32
 xl:∀e∈c.ex,∀l∈e.ls,0≤l.1∧l.1<16
 kl:∀e∈c.cs,∀l∈e.ts,0≤l.1∧l.1<16
theorem Qgw.sr {c:Zw}(h:Qgw c):Ua c:=by
 have h1:=V1 h.cd;have h2:(szs c.co).length=c.co.length:=Lc ..;have E:=h.c8;have G:=h.cr;refine ⟨E,by omega,h1.xl,h1.kl,λe he l hl=>?_,λe he l hl=>?_⟩
 ·have:=h1.x e he l hl;omega
 have:=(h1.k e he).1 l hl;omega
theorem KP {c:Zw}(h:Ua c) {m:Nat}(hm:m<3):(Xe c m).length≤32:=by
 have h1:=h.r;have h2:=h.x;have h3:=h.k;rcases m with _ | _ | _ | m
 ·rw[Qd8];unfold srR;rw[Lc];exact h1
 ·rw[Qd7];unfold srX;rw[Lc];exact h2
 ·rw[Qd6];unfold srC;rw[Lc];exact h3
 omega
theorem Ux {c:Zw}(h:Ua c) {m:Nat}(hm:m<3):∀b∈Xe c m,b<65536:=by
 have E:=h.c8;rcases m with _ | _ | _ | m
 ·rw[Qd8];unfold srR;intro b hb;obtain ⟨x,_,rfl⟩:=Lx.1 hb;exact Qeh _ _ _ (by decide) (by omega)
 ·rw[Qd7];unfold srX;intro b hb;obtain ⟨x,hx,rfl⟩:=Lx.1 hb;exact zT _ (h.xl x hx)
 ·rw[Qd6];unfold srC;intro b hb;obtain ⟨x,hx,rfl⟩:=Lx.1 hb;exact zT _ (h.kl x hx)
 omega
abbrev yI (b1:Nat) (c:Zw) (m:Nat):LV:=[.int .i64 ((m:Int)+1),.int .i64 (Xe c m).length,.func (.func (gK m)) #[] #[.pointer (some ⟨b1,0,none⟩)]]
theorem Uw (E:Nat) (c:Zw) (m:Nat):(yI E c m).length=3:=rfl
theorem Qas {w:World}{c:CL}{I m i:Nat}(G:QZ w.heap I 47 c.cells) (hc:ZA [] w.heap c) (H:Ua c.cel) (hm:m<3) (hi:i<(Xe c.cel m).length) :
  QK prog (gK m) [.int .i64 i,.pointer (some ⟨I,0,none⟩)] w λr w'=>r=.int .u16 ((Xe c.cel m)[i]'hi:Nat)∧Step [] w w':=by
 rcases m with _ | _ | _ | m
 ·have hl:(Xe c.cel 0).length=c.rq.length:=by rw[Qd8];unfold srR;rw[Lc];exact Lc ..
  have E:i<c.rq.length:=Nat.lt_of_lt_of_eq hi hl;have e:(Xe c.cel 0)[i]'hi=rqB (c.rq[i]'E).it 0 0 c.cel.co:=by
   show (srR c.cel)[i]'_=_;simp[srR,CL.cel]
  rw[e];have J:c.co.length≤8:=by have:=H.c8;rw[show c.cel.co.length=c.co.length from Lc ..] at this;exact this
  exact QgR G hc J (LB E)
 ·have hl:(Xe c.cel 1).length=c.ex.length:=by rw[Qd7];unfold srX;rw[Lc];exact Lc ..
  have E:i<c.ex.length:=Nat.lt_of_lt_of_eq hi hl;have e:(Xe c.cel 1)[i]'hi=qF (c.ex[i]'E).ls:=by
   show (srX c.cel)[i]'_=_;simp[srX,CL.cel,XV.x]
  rw[e];exact QgQ G hc (LB E) (λl hl=>H.xl (c.ex[i]'E).x (LH (Li E)) l hl)
 ·have hl:(Xe c.cel 2).length=c.cs.length:=by rw[Qd6];unfold srC;rw[Lc];exact Lc ..
  have E:i<c.cs.length:=Nat.lt_of_lt_of_eq hi hl;have e:(Xe c.cel 2)[i]'hi=qF (c.cs[i]'E).ts:=by
   show (srC c.cel)[i]'_=_;simp[srC,CL.cel,KV.k]
  rw[e];exact QgP G hc (LB E) (λl hl=>H.kl (c.cs[i]'E).k (LH (Li E)) l hl)
 omega
structure QlJ (N:Nat) (w:World) (c:CL) (r:Value) (b1 b:Nat):Prop where
 r:r=.slice (some ⟨b,0,none⟩) 3 3
 n1:N≤b1
 n:N≤b
 B1:QZ w.heap b1 47 c.cells
 B:QZ w.heap b 137 ([0,1,2].flatMap (yI b1 c.cel))
theorem Ko {L:LN}{w:World}{c:CL}(J:ZA L w.heap c) :
  QK prog 61 [c.val] w λr w'=>Step [] w w'∧∃E b,QlJ w.heap.size w' c r E b:=by
 have h:=J.up (L':=[]) (by simp);have e0:(Xe c.cel 0).length=c.rq.length:=by rw[Qd8];unfold srR;rw[Lc];exact Lc ..
 have e1:(Xe c.cel 1).length=c.ex.length:=by rw[Qd7];unfold srX;rw[Lc];exact Lc ..
 have e2:(Xe c.cel 2).length=c.cs.length:=by rw[Qd6];unfold srC;rw[Lc];exact Lc ..
 refine QK.of_W func61 O ntmps61 results61 (by simp) ?_;refine Qc<|xl O<|QS (us:=c.cells) O λE Y H S G=>Qe ?_;have h1:=h.ext H;refine Qc<|x (Qa O)<|x (Qd G O O)<|x (Qs h1.rq.arr O)<|x (Zo (l:=[]) (l':=[_]))<|x (QD ⟨O,O,O,U⟩)<|x (Qa O) <|
  x (Qd G O O)<|x (Qs h1.ex.arr O)<|x (Zo (l:=[]) (l':=[_]))<|x (QD ⟨O,O,O,U⟩)<|x (Qa O)<|x (Qd G O O) <|
  x (Qs h1.cs.arr O)<|x (Zo (l:=[]) (l':=[_]))<|x (QD ⟨O,O,O,U⟩) <|
  xl rfl<|QC (us:=[[.int .i64 1,.int .i64 c.rq.length,.func (.func 134) #[] #[.pointer (some ⟨E,0,none⟩)]],[.int .i64 2,.int .i64 c.ex.length,.func (.func 137) #[] #[.pointer (some ⟨E,0,none⟩)]],[.int .i64 3,.int .i64 c.cs.length,.func (.func 138) #[] #[.pointer (some ⟨E,0,none⟩)]]]) O O (by decide) (by simp) ⟨rfl,rfl,rfl,rfl,rfl,rfl,U⟩ λT w2 I ha V =>
  Qe ?_
 have hb:=H.size;have hc:=I.size;refine Qn ⟨[_],Z,H.trans I,E,T,O,S,by omega,G.ext I,?_⟩
 have e:[0,1,2].flatMap (yI E c.cel)=[.int .i64 1,.int .i64 c.rq.length,.func (.func 134) #[] #[.pointer (some ⟨E,0,none⟩)],.int .i64 2,.int .i64 c.ex.length,.func (.func 137) #[] #[.pointer (some ⟨E,0,none⟩)],.int .i64 3,.int .i64 c.cs.length,.func (.func 138) #[] #[.pointer (some ⟨E,0,none⟩)]]:=by
  simp only[List.flatMap_cons,List.flatMap_nil,yI,e0,e1,e2];rfl
 rw[e];exact V
def srP (c:Zw):Nat→LN
 | 0=>[]
 | m+1=>srP c m++Xe c m
theorem yW (c:Zw):srP c 3=sets c:=by
 simp only[srP,Qd8,Qd7,Qd6,sets,List.nil_append,List.append_assoc]
theorem zF {c:Zw}(h:Ua c):∀m,m≤3→(srP c m).length≤32*m
 | 0,_=>Lk _
 | m+1,hm=>by
  have h1:=zF h m (by omega);have h2:=KP h (show m<3 by omega);rw[srP,Lh];omega
abbrev QdQ (l:LN):LV:=l.map λb=>.int .u16 (b:Nat)
abbrev qt (base:Nat) (w:World) (v:Value) (l:LN):Prop:=w.ownsRow base 140 1 v l.length (QdQ l)
theorem qt.snoc {base:Nat}{w:World}{v:Value}{l:LN}{b:Nat}(h:w.ownsRow base 140 1 v (l.length+1) (QdQ l++[.int .u16 (b:Nat)])):qt base w v (l++[b]):=by
 unfold qt QdQ;rw[Lh,Lt];exact h
set_option maxHeartbeats 4000000 in
theorem QgV {L:LN}{w:World}{c:CL}(h0:ZA L w.heap c) (hc:Ua c.cel) :
  QK prog 99 [c.val] w λr w'=>Step [] w w'∧qt w.heap.size w' r (sets c.cel):=by
 have h:=h0.up (L':=[]) (by simp);refine QK.of_W func99 O ntmps99 results99 (by simp) ?_;refine Qc<|xl O<|QS (us:=c.cells) O λb1 w1 he hG ht=>Qe<|Qc<|Qe<|Qf<|Qc<|x (Qr ht O O)<|xl O<|xf<|(Ko (h.ext he)).mono ?_;rintro r2 G ⟨hp,E,bs,H⟩;have hu:=H.r;subst hu;have hf:=he.trans hp;have hH:=he.size;have hI:=hp.size;have hJ:=H.B.lt;have hK:=H.B1.lt
 have hA:∀{w':World},Step [] G w'→Zp [] w'.heap (.slice (some ⟨bs,0,none⟩) 3 3) [0,1,2].length 3 ([0,1,2].flatMap (yI E c.cel)):=λhs =>
  (H.B.ext hs).arr (by simp) (n:=3) (cap:=3) (sz:=3) (by rfl) (by omega) (Lr _)
 refine x (Qs (hA (Step.refl _ _)) O)<|Qb<|xe<|Qh<|QB (α:=Nat×Value) [(3,3),(5,6),(10,27)] (λz=>[(3,z.2),(10,.int .i64 z.1)]) (λz w'=>z.1≤3∧Step [] G w'∧qt G.heap.size w' z.2 (srP c.cel z.1)) (λz=>3 - z.1) (by rfl) (0,nS) ⟨O,O,U⟩
  ⟨Lk _,Step.refl _ _,QN _ _ _ _⟩ ?_
 rintro ⟨m,v⟩ g w3 ⟨hm,V,I⟩;simp only[] at hm I;have hL:=zF hc m hm;refine Qc<|x (QA O O)<|xe<|Qf<|QG O (λhg=>?_) (λhg=>?_)
 ·refine Qz ?_;have hv:m=3:=by have hh:¬(m:Int)<(3:Nat):=hg;omega
  rw[hv,yW] at I;refine Qc<|Qb<|Qe ?_;exact Qn ⟨[v],Z,hf.trans V,Zq I hf.size⟩
 have J:m<3:=by have hh:(m:Int)<(3:Nat):=hg;omega
 have hM:=KP hc J;refine Qi ?_;have hN:=V.size;have hge:=Qk I;have hw:([0,1,2]:LN)[m]'J=m:=by rcases m with _ | _ | _ | m <;> first | rfl | omega
 refine Qf<|Qh<|Qc<|xig (g:=yI E c.cel) (i:=m) (Uw E c.cel) (hA V) O O J λhO hq=>?_;rw[hw] at hq;refine x (QI hq O O)<|xl O<|Qt (us:=[.int .i64 0,.int .i64 0,.nilFunc]) O λb5 w4 hy hz Y=>xl O<|Qp (us:=yI E c.cel m) Y O O O O ⟨O,O,O,U⟩ λw5 h1 Y =>
  xe ?_
 have hj:Step [] w3 w5:=hy.then1 h1 hz;have hP:=hj.size;refine Qc<|x (Qa O)<|x (Qd Y O O)<|Qb<|xe<|Qh<|QB (α:=Nat×Value) [(3,3),(6,6),(16,26)] (λz=>[(3,z.2),(16,.int .i64 z.1)]) (λz w'=>z.1≤(Xe c.cel m).length∧Step (ob v) w5 w'∧qt G.heap.size w' z.2 (srP c.cel m++(Xe c.cel m).take z.1)∧∀b∈ob z.2,b∈ob v∨w5.heap.size≤b) (λz=>(Xe c.cel m).length - z.1) (by rfl) (0,v) ⟨O,O,U⟩
  ⟨Lk _,Step.refl _ _,by simp only[List.take_zero,List.append_nil];exact Qq I hj,λb hb=>.inl hb⟩ ?_
 rintro ⟨i,vi⟩ g w6 ⟨hi,ha,S,hk⟩;simp only[] at hi S hk;have hQ:=ha.size;have hR:=Qk S;have hl:Step [] G w6:=(V.trans hj).then ha (λb hb=>.inr (hge b hb).1);have h2:b5∉ob v:=λhb=>by have:=(hge b5 hb).2;omega
 have h3:=Y.step ha h2;have h6:=h.ext (hf.trans hl);have h4:QZ w6.heap E 47 c.cells:=H.B1.ext hl;refine Qc<|x (QA O O)<|xe<|Qf<|QG O (λhn=>?_) (λhn=>?_)
 ·refine Qz ?_;have h5:(Xe c.cel m).length≤i:=by have hh:¬(i:Int)<((Xe c.cel m).length:Int):=hn;omega
  rw[Lm h5] at S;refine Qy<|QP O O<|Qb<|xe ?_;exact ⟨(m+1,vi),by simp only[];omega,⟨O,O,U⟩,J,hl,S⟩
 have T:i<(Xe c.cel m).length:=by have hh:(i:Int)<((Xe c.cel m).length:Int):=hn;omega
 have hr:(Xe c.cel m).take (i+1)=(Xe c.cel m).take i++[(Xe c.cel m)[i]'T]:=Le T;have hT:(srP c.cel m++(Xe c.cel m).take i).length≤200:=by rw[Lh,Lv];omega
 refine Qi<|Qf<|Qh<|Qc<|Qb<|Qe<|Qy<|Qb<|x (Qa O)<|x (Qd h3 O O)<|Qb<|xl O<|xcG (first:=[]) (capt:=[.pointer (some ⟨E,0,none⟩)]) (Qfo m) O<|(Qas h4 h6 hc J T).mono ?_;rintro r7 w7 ⟨rfl,h7⟩;refine Zd ((Xe c.cel m)[i]'T) λbv h8=>?_;rw[h8] at hr ⊢;refine xl rfl<|QC (us:=[[.int .u16 (bv:Nat)]]) O O (by decide) (by simp) ⟨rfl,rfl,U⟩ λhU w8 hB hV hC=>?_;have ho:=h7.trans hB
 have hW:=ho.size;refine xl rfl<|Q2 (news:=[.int .u16 (bv:Nat)]) (L:=[]) (Qq S ho) O O O (hC.at (by simp)) (by simp[Value.oneCell']) (by omega) (by omega) λv9 w9 hD hE hF =>
  Qe<|Qy<|QP O O<|Qb<|xe ?_
 refine ⟨(i+1,v9),by simp only[];omega,⟨O,O,U⟩,T,(ha.trans ho).then hE hk,?_,λb hb=>?_⟩
 ·simp only[];rw[hr,←Lz];exact qt.snoc hD
 rcases hF b hb with h9 | h9
 ·exact hk b h9
 exact .inr (by omega)
structure MV where
 kd:Int
 ix:Int
 v:Value
 co:LI
def MV.m (q:MV):Js:=⟨q.kd,q.ix,q.co⟩
abbrev ZC (q:MV):LV:=[.int .i64 q.kd,.int .i64 q.ix,q.v]
theorem z7 (q:MV):(ZC q).length=3:=rfl
abbrev mvP (q:MV):Value×Nat×Nat×LV:=(q.v,q.co.length,1,q.co.map (.int .i64))
abbrev MvN (base:Nat) (w:World) (v:Value) (l:List MV):Prop:=ZZ ZC 3 39 mvP base w v l
theorem Qhi {q:MV}(h:q.v.oneCell'=true):∀u∈ZC q,u.oneCell'=true:=by
 intro u hu;simp only[ZC,List.mem_cons,List.not_mem_nil,or_false] at hu;rcases hu with rfl | rfl | rfl
 ·rfl
 ·rfl
 exact h
theorem K2 (k:Int):∀(l:LN) (i:Nat),(Xx k i l).length=l.length
 | [],_=>rfl
 | _::l,i=>by rw[Xx,LG,K2 k l,LG]
theorem zc (k:Int):∀(l:LN) (i j:Nat) (h:j<l.length),(Xx k i l).take (j+1)=(Xx k i l).take j++[⟨k,((i+j:Nat):Int),setK (l[j]'h) 8⟩]
 | [],_,j,h=>absurd h (Nr _)
 | b::l,i,0,h=>by rw[Xx];rfl
 | b::l,i,j+1,h=>by
  rw[Xx,Mo,Mo,zc k l (i+1) j (by simpa using h),Ma];have e:((i+1+j:Nat):Int)=((i+(j+1):Nat):Int):=by omega
  rw[e];rfl
abbrev mdG (c:Zw) (m:Nat):List Js:=Xx ((m:Int)+1) 0 (Xe c m)
def mdP (c:Zw):Nat→List Js
 | 0=>[]
 | m+1=>mdP c m++mdG c m
theorem js (c:Zw):mdP c 3=mods c:=by
 simp only[mdP,mods,List.nil_append,List.append_assoc];rfl
theorem ye {c:Zw}(h:Ua c):∀m,m≤3→(mdP c m).length≤32*m
 | 0,_=>Lk _
 | m+1,hm=>by
  have h1:=ye h m (by omega);have h2:=KP h (show m<3 by omega);rw[mdP,Lh,K2];omega
set_option maxHeartbeats 4000000 in
theorem KE {L:LN}{w:World}{c:CL}(V:ZA L w.heap c) :
  QK prog 31 [c.val] w λr w'=>Step [] w w'∧∃v l,r=.tuple #[v,.int .i64 (Zb c.cel)]∧MvN w.heap.size w' v l∧(Zb c.cel≠0→v=nS∧l=[])∧(Zb c.cel=0→l.map MV.m=mods c.cel):=by
 have h:=V.up (L':=[]) (by simp);refine Zd (Zb c.cel) λE hE=>?_;rw[hE];refine QK.of_W func31 O ntmps31 results31 (by simp) ?_;refine Qc<|xl O<|QS (us:=c.cells) O λb1 w1 hB gj hC=>x Qg<|Qe<|Qf<|Qc<|x (Qr hC O O)<|xl O<|xf<|(YU (h.ext hB)).mono ?_;rintro rc wc ⟨hD,hF⟩;rw[hE] at hD;subst hD;have hO:=hC.ext hF;have hk:=hB.trans hF;refine Qe<|Qc<|Qb<|x (Q9 O O)<|xe ?_
 refine Q6 rfl (λH=>?_) (λH=>?_)
 ·refine Qc<|Qb<|x Qg<|Qe ?_;exact Qn ⟨[nS,.int .i64 E],⟨O,O,U⟩,hk,nS,[],O,ZZ.nil,λ_=>⟨O,O⟩,λV=>absurd V H⟩
 have hv:E=0:=Ls.1 H;have hl:Ua c.cel:=(ZR (hE.trans hv)).sr;refine Qi<|Qc<|Qe<|Qf<|Qc<|x (Qr hO O O)<|xl O<|xf<|(Ko (h.ext hk)).mono ?_;rintro r2 I ⟨hG,J,bs,Y⟩;have hP:=Y.r;subst hP;have hw:=hk.trans hG;have gk:=hk.size;have gl:=hG.size;have gm:=Y.B.lt;have gn:=Y.B1.lt
 have hA:∀{w':World},Step [] I w'→Zp [] w'.heap (.slice (some ⟨bs,0,none⟩) 3 3) [0,1,2].length 3 ([0,1,2].flatMap (yI J c.cel)):=λhs =>
  (Y.B.ext hs).arr (by simp) (n:=3) (cap:=3) (sz:=3) (by rfl) (by omega) (Lr _)
 refine x (Qs (hA (Step.refl _ _)) O)<|Qb<|xe<|Qh<|QB (α:=Nat×Value×List MV) [(5,5),(7,8),(17,39)] (λz=>[(5,z.2.1),(17,.int .i64 z.1)]) (λz w'=>z.1≤3∧Step [] I w'∧MvN I.heap.size w' z.2.1 z.2.2∧z.2.2.map MV.m=mdP c.cel z.1) (λz=>3 - z.1) (by rfl) (0,nS,[]) ⟨O,O,U⟩
  ⟨Lk _,Step.refl _ _,ZZ.nil,O⟩ ?_
 rintro ⟨m,v,l⟩ g w3 ⟨hm,hn,ha,he⟩;simp only[] at hm ha he;have go:=ye hl m hm;have gp:l.length=(mdP c.cel m).length:=by rw[←he,Lc]
 refine Qc<|x (QA O O)<|xe<|Qf<|QG O (λhy=>?_) (λhy=>?_)
 ·refine Qz ?_;have hQ:m=3:=by have hz:¬(m:Int)<(3:Nat):=hy;omega
  rw[hQ,js] at he;refine Qc<|Qb<|x Qg<|Qe ?_;have hR:=hw.size;exact Qn ⟨[v,.int .i64 0],⟨O,O,U⟩,hw.trans hn,v,l,by rw[hv];rfl,⟨Zq ha.own hR,λq hq L hL=>ha.each q hq L (λb hb=>(hL b hb).imp (λh=>by omega) id)⟩,λV=>absurd hv V,λ_=>he⟩
 have S:m<3:=by have hz:(m:Int)<(3:Nat):=hy;omega
 have gq:=KP hl S;refine Qi ?_;have gr:=hn.size;have hge:=Qk ha.own;have hT:([0,1,2]:LN)[m]'S=m:=by rcases m with _ | _ | _ | m <;> first | rfl | omega
 refine Qf<|Qh<|Qc<|xig (g:=yI J c.cel) (i:=m) (Uw J c.cel) (hA hn) O O S λgs H=>?_;rw[hT] at H;refine x (QI H O O)<|xl O<|Qt (us:=[.int .i64 0,.int .i64 0,.nilFunc]) O λb7 w4 hU hV hf=>xl O<|Qp (us:=yI J c.cel m) hf O O O O ⟨O,O,O,U⟩ λw5 hW hf =>
  xe ?_
 have h1:Step [] w3 w5:=hU.then1 hW hV;have gt:=h1.size;refine Qc<|x (Qa O)<|x (Qd hf O O)<|Qb<|xe ?_
 refine Qh<|QB (α:=Nat×Value×List MV) [(5,5),(8,8),(23,38)] (λz=>[(5,z.2.1),(23,.int .i64 z.1)]) (λz w'=>z.1≤(Xe c.cel m).length∧Step (ob v) w5 w'∧MvN I.heap.size w' z.2.1 z.2.2∧z.2.2.map MV.m=mdP c.cel m++(mdG c.cel m).take z.1∧∀b∈ob z.2.1,b∈ob v∨w5.heap.size≤b) (λz=>(Xe c.cel m).length - z.1) (by rfl) (0,v,l) ⟨O,O,U⟩
  ⟨Lk _,Step.refl _ _,ha.ext h1,by simp only[List.take_zero,List.append_nil];exact he,λb hb=>.inl hb⟩ ?_
 rintro ⟨i,vi,li⟩ g G ⟨hi,ho,hg,hh,hp⟩;simp only[] at hi hg hh hp;have gu:=ho.size;have hX:=Qk hg.own;have hr:Step [] I G:=(hn.trans h1).then ho (λb hb=>.inr (hge b hb).1);have hH:b7∉ob v:=λhb=>by have:=(hge b7 hb).2;omega
 have hI:=hf.step ho hH;have h6:=h.ext (hw.trans hr);have hY:QZ G.heap J 47 c.cells:=Y.B1.ext hr;have gv:li.length≤200:=by
  have e1:=congrArg List.length hh;rw[Lc,Lh,Lv] at e1;have e2:(mdG c.cel m).length=(Xe c.cel m).length:=K2 _ _ _;omega
 refine Qc<|x (QA O O)<|xe<|Qf<|QG O (λh2=>?_) (λh2=>?_)
 ·refine Qz ?_;have hZ:(Xe c.cel m).length≤i:=by have hz:¬(i:Int)<((Xe c.cel m).length:Int):=h2;omega
  rw[Lm (by rw[K2];exact hZ)] at hh;refine Qy<|QP O O<|Qb<|xe ?_;exact ⟨(m+1,vi,li),by simp only[];omega,⟨O,O,U⟩,S,hr,hg,hh⟩
 have T:i<(Xe c.cel m).length:=by have hz:(i:Int)<((Xe c.cel m).length:Int):=h2;omega
 have h3:(mdG c.cel m).take (i+1)=(mdG c.cel m).take i++[⟨(m:Int)+1,((0+i:Nat):Int),setK ((Xe c.cel m)[i]'T) 8⟩]:=zc _ _ _ _ T;rw[LP] at h3;have hJ:=Ux hl S _ (Li T);refine Qi<|Qf<|Qh<|Qc<|Qb<|Qe ?_;have hK:b7∉ob vi:=λhb=>by
  rcases hp b7 hb with h9 | h9
  ·exact hH h9
  have:=hf.lt;omega
 have h4:Step [] G { G with drawn:=G.drawn+1 }:=Step.drew _ _
 have gw:({ G with drawn:=G.drawn+1 }:World).heap.size=G.heap.size:=rfl
 refine QW (Step (ob vi) G) [(0,true),(1,true),(2,true),(3,true),(4,true),(5,true),(6,true),(7,false),(8,false),(9,true),(10,false),(11,false),(12,true)] mixed (by rfl) (by kernel_rfl) (Step.drew _ _) ?_;refine p (λ_=>Qo)<|p (λ_=>Qa O)<|pq (λ_ hc=>Qd (hI.step hc hK) O O)<|p (λ_=>Qo)<|p (λ_=>Qa O) <|
  pq (λ_ hc=>Qd (hI.step hc hK) O O)<|p (λ_=>Qo)<|pk<|xcG (first:=[]) (capt:=[.pointer (some ⟨J,0,none⟩)]) (Qfo m) O<|(Qas (hY.ext h4) (h6.ext h4) hl S T).mono ?_
 rintro r8 w8 ⟨rfl,ga⟩;refine Zd ((Xe c.cel m)[i]'T) λbv gb=>?_;rw[gb] at h3 hJ ⊢;have h5:=h4.trans ga;refine ⟨h5.any,?_⟩;refine pk<|xf<|(yh bv hJ w8).mono ?_;rintro r9 w9 ⟨gc,h7⟩;have ht:=h5.trans gc;have gx:=h5.size;have gy:=ht.size;refine ⟨ht.any,?_⟩
 refine p (λ_=>QD ⟨O,O,Q0 h7,U⟩)<|pk<|QC (us:=[ZC ⟨(m:Int)+1,i,r9,setK bv 8⟩]) O O (by decide) (by simp) ⟨rfl,rfl,U⟩ λgz g0 hu g2 ge=>⟨(ht.trans hu).any,?_⟩;have hj:=ht.trans hu;have g3:=hj.size;have g4:=hu.size
 refine pk<|Q2 (news:=ZC ⟨(m:Int)+1,i,r9,setK bv 8⟩) (L:=[]) (Qq hg.own hj) O O O (ge.at (by simp)) (Qhi (q:=⟨(m:Int)+1,i,r9,setK bv 8⟩) (QH h7)) (by omega) (by omega) λhM gg gh h8 hN=>⟨hj.any.trans' h8,?_⟩;refine p (λ_=>Qg)<|pe ?_;have g5:=YY bv 8
 have gi:MvN I.heap.size gg hM (li++[⟨(m:Int)+1,i,r9,setK bv 8⟩]):=ZZ.app2 (N:=w8.heap.size) (hg.ext hj) (Qq h7 hu) (by show (setK bv 8).length≤_;omega) (by have:=hr.size;omega) (λb hb=>by have:=hX b hb;omega) gh h8 hN;refine Qy<|QP O O<|Qb<|xe ?_
 refine ⟨(i+1,hM,li++[⟨(m:Int)+1,i,r9,setK bv 8⟩]),by simp only[];omega,⟨O,O,U⟩,T,(ho.trans hj).then h8 hp,gi,?_,λb hb=>?_⟩
 ·simp only[];rw[h3,Lt,hh,Lz];rfl
 rcases hN b hb with h9 | h9
 ·exact hp b h9
 exact .inr (by omega)
theorem Qlu {n:Nat}(h:n≤8):2 ^ n≤256:=Nat.pow_le_pow_right (by decide) h
set_option maxHeartbeats 4000000 in
theorem Vo {L:LN}{w:World}{c:CL}(I:ZA L w.heap c) :
  QK prog 38 [c.val] w λr w'=>Step [] w w'∧∃v,r=.tuple #[v,.int .i64 (Zb c.cel)]∧(Zb c.cel≠0→v=nS)∧(Zb c.cel=0→Qu 3 w.heap.size w' v (rem c.cel)):=by
 have h:=I.up (L':=[]) (by simp);refine Zd (Zb c.cel) λE hE=>?_;rw[hE];refine QK.of_W func38 O ntmps38 results38 (by simp) ?_;refine Qc<|xl O<|QS (us:=c.cells) O λb1 w1 hf h9 hg=>x Qg<|Qe<|Qf<|Qc<|x (Qr hg O O)<|xl O<|xf<|(YU (h.ext hf)).mono ?_;rintro rc wc ⟨hh,hi⟩;rw[hE] at hh;subst hh;have hj:=hg.ext hi;have S:=hf.trans hi;refine Qe<|Qc<|Qb<|x (Q9 O O)<|xe ?_
 refine Q6 rfl (λT=>?_) (λT=>?_)
 ·refine Qc<|Qb<|x Qg<|Qe ?_;exact Qn ⟨[nS,.int .i64 E],⟨O,O,U⟩,S,nS,O,λ_=>O,λI=>absurd I T⟩
 have V:E=0:=Ls.1 T;have G:Ua c.cel:=(ZR (hE.trans V)).sr;have ht:c.cel.co.length=c.co.length:=Lc ..;have h8:c.co.length≤8:=by have:=G.c8;omega
 have hB:=Qlu h8;have hC:0<2 ^ c.co.length:=Nat.pow_pos (by decide);have he:(1:Int)*(2:Int) ^ c.co.length - 1=((2 ^ c.co.length - 1:Nat):Int):=by
  rw[yY,Nat.shiftLeft_eq,Nm];omega
 have hu:inK .u16 ((1:Int)*(2:Int) ^ c.co.length - 1):=by rw[he];exact ⟨by omega,by omega⟩
 have hl:2 ^ c.co.length - 1<65536:=by omega
 have hv:=zF G 3 (by omega);rw[yW] at hv;have hm:zO c.cel=(sets c.cel).foldl (λl b=>l &&& (65535 ^^^ b)) (2 ^ c.co.length - 1):=by unfold zO;rw[ht]
 have hw:∀b∈sets c.cel,b<65536:=by
  intro b hb;unfold sets at hb;rcases Lj.1 hb with hb | hb
  ·exact Ux G (m:=0) (by omega) b hb
  rcases Lj.1 hb with hb | hb
  ·exact Ux G (m:=1) (by omega) b hb
  exact Ux G (m:=2) (by omega) b hb
 refine Zd (2 ^ c.co.length - 1) λb0 hz=>?_;rw[hz] at he hm hl;have hn:=h.ext S;refine Qi<|Qc<|x (Qa O)<|x (Qd hj O O)<|x (Qs hn.co.arr O)<|x (QbB (n:=c.co.length) O O (by show c.co.length≤16;omega) (QhL (by omega)))<|x (Jv O O hu)<|Qe<|Qf<|Qc<|x (Qr hj O O)<|xl O<|xf<|(QgV hn G).mono ?_;rintro r2 Y ⟨h1,h2⟩
 have hA:Zp [] Y.heap r2 (sets c.cel).length 1 (QdQ (sets c.cel)):=QT h2 (by omega) (by simp);have h3:Zp [] Y.heap r2 (sets c.cel).length 1 ((sets c.cel).flatMap λb=>[.int .u16 (b:Nat)]):=by
  have e:(sets c.cel).flatMap (λb=>[Value.int .u16 (b:Nat)])=QdQ (sets c.cel):=by
   generalize sets c.cel=l;induction l with
   | nil=>rfl
   | cons a l ih=>rw[LD,ih];rfl
  rw[e];exact hA
 refine x (Qs hA O)<|Qb<|xe<|Qh<|QB (α:=Nat×Nat) [(5,5),(7,7),(21,28)] (λz=>[(5,.int .u16 z.2),(21,.int .i64 z.1)]) (λz w'=>z.1≤(sets c.cel).length∧Step [] Y w'∧z.2<65536∧((sets c.cel).drop z.1).foldl (λl b=>l &&& (65535 ^^^ b)) z.2=zO c.cel) (λz=>(sets c.cel).length - z.1) (by rfl) (0,b0) ⟨congrArg (Value.int .u16) he,O,U⟩
  ⟨Lk _,Step.refl _ _,hl,hm.symm⟩ ?_
 rintro ⟨k,b⟩ g w3 ⟨hk,ha,hb,H⟩;simp only[] at hk hb H;have ho:=(S.trans h1).trans ha;refine Qc<|x (QA O O)<|xe<|Qf<|QG O (λhc=>?_) (λhc=>?_)
 ·refine Qz ?_;have h4:(sets c.cel).length≤k:=by have h5:¬(k:Int)<((sets c.cel).length:Int):=hc;omega
  rw[Lq h4] at H;have h6:b=zO c.cel:=H;refine Qc<|Qb<|xl O<|xf<|(yh b hb w3).mono ?_;rintro r4 w4 ⟨h7,hp⟩;refine x Qg<|Qe ?_;rw[h6] at hp;exact Qn ⟨[r4,.int .i64 0],⟨O,O,U⟩,ho.trans h7,r4,by rw[V];rfl,λI=>absurd V I,λ_=>Zq hp ho.size⟩
 have J:k<(sets c.cel).length:=by have h5:(k:Int)<((sets c.cel).length:Int):=hc;omega
 have hq:=hw _ (Li J);rw[LK J,LJ] at H;refine Qi<|Qf<|Qh<|Qc<|xig (g:=λb:Nat=>[.int .u16 (b:Nat)]) (i:=k) (λ_=>O) (h3.ext ha) O O J λhD hs=>?_;refine Zd ((sets c.cel)[k]'J) λy hy=>?_;rw[hy] at hs hq H;refine x (Qx hs O)<|Qe<|Qy<|Qb<|Qb<|x (QaF (a:=b) (b:=y) O O hb hq)<|Qe<|Qy<|QP O O<|Qb<|xe ?_
 exact ⟨(k+1,b &&& (65535 ^^^ y)),by simp only[];omega,⟨O,O,U⟩,J,ha,Nat.lt_of_le_of_lt Nat.and_le_left hb,H⟩
end Go.Proofs.YtdffckgdcegpaaaGreatDoor
