/- Merged out of 49 texts. -/
import Derived.Test.YtjcgijbhaemldaaGreatDoorMce
import Derived.ChangeSame
import Derived.Carry
import Derived.OpenShut
import Derived.RowKit
import Derived.ChangeSlices
import Derived.WideShapes
import Derived.ProofKit
import Derived.ChangeArms
import Derived.Lib.LaidTab
import Derived.Stop.LaidErr
import Derived.MakeChecks
import Derived.Test.YtjcgijbhaemldaaGreatDoorRows
import Derived.JoinedOf
import Derived.Test.YtjcgijbhaemldaaGreatDoorCards
import Derived.SevenTiedAt
namespace Go.Proofs.YtjcgijbhaemldaaGreatDoor
open Go.Proofs.Tryz
open Go.Lg
instance ayAz1:Ay prog 66 3 65 1:=⟨by kernel_rfl,by kernel_rfl⟩
instance ayAz2:Ay prog 67 2 65 1:=⟨by kernel_rfl,by kernel_rfl⟩
instance ayAz3:Ay prog 68 2 25 27:=⟨by kernel_rfl,by kernel_rfl⟩
instance ayAz4:Ay prog 71 3 70 1:=⟨by kernel_rfl,by kernel_rfl⟩
abbrev X4V:={r:LN // r.length=4∧∀n∈r,n<256}
abbrev YM (r:X4V):LV:=bys r.1
theorem qn (r:X4V):(YM r).length=4:=by show(bys r.1).length=4;unfold bys;rw[Lh,r.2.1]
structure PlV where
 ns:LN
 vx:Value
 xs:List X4V
 f0:Int
 f1:Int
 f2:Int
 bd:Int
abbrev Yy (l:PlV):LV:=bys l.ns++[l.vx,.int .i8 l.f0,.int .i8 l.f1,.int .i8 l.f2,.int .i8 l.bd]
abbrev i8R (n:Int):Prop:=-128≤n∧n≤127
structure PlA (L:LN)(H:Array Obj)(l:PlV):Prop where
 n:l.ns.length=147
 b:∀n∈l.ns,n<256
 x:Zv L H l.vx l.xs.length 4 (l.xs.flatMap YM)
 f0:i8R l.f0
 f1:i8R l.f1
 f2:i8R l.f2
 bd:i8R l.bd
theorem Qlw {l:PlV}(h:l.ns.length=147):(Yy l).length=152:=by rw[Yy,Lj,ZG,h];rfl
theorem Qgo {l:PlV}(h:l.ns.length=147)(j:Nat):(Yy l)[147+j]?=([l.vx,.int .i8 l.f0,.int .i8 l.f1,.int .i8 l.f2,.int .i8 l.bd]:LV)[j]?:=by
 rw[Yy,Mf (by rw[ZG];omega),ZG,h,Mv]
theorem Qds {l:PlV}(h:l.ns.length=147){j:Nat}(hj:j<147):(Yy l)[j]?=some (.int .u8 ((l.ns.getD j 0:Nat):Int)):=by
 rw[Yy,LZ (by rw[ZG];omega)];exact JV (by omega)
theorem Qcg {l:PlV}{o m:Nat}(j:Nat)(u:Value)(h:(bys ((l.ns.drop o).take m))[j]?=some u):(Yy l)[o+j]?=some u:=by
 have h1:=Qeg (ns:=l.ns) (o:=o) (n:=m) j u h;have h2:=(LS.1 h1).1;rw[Yy,LZ h2];exact h1
theorem Qeb {sz:LI}:∀(ls:List (Int×Int)) (pr:Option Int),(∀b,pr=some b→∀p∈ls,b<p.1)→ls.Pairwise (λp q=>p.1<q.1)→(∀p∈ls,0≤p.1∧p.1<(sz.length:Int)∧0≤p.2∧p.2<cget sz p.1.toNat)→Yq sz pr ls=0
 | [],_,_,_,_=>rfl
 | p::ls,pr,hp,hs,hb=>by
  obtain⟨h1,h2,h3,h4⟩:=hb p Lp;obtain⟨k1,k2⟩:=LW.1 hs;have hl:U8 pr p.1=false:=by
   cases pr with
   | none=>rfl
   | some b=>have:=hp b O p Lp;unfold U8;exact decide_eq_false (by omega)
  rw[Yq,if_neg (by omega),if_neg (by rw[hl];decide),if_neg (by omega)];exact Qeb ls (some p.1) (λb hb' q hq=>by cases hb';exact k1 q hq) k2 (λq hq=>hb q (Lk _ hq))
theorem Qd9 {sz:LI}:∀(ls:List (Int×Int)) (pr:Option Int),(∀b,pr=some b→∀p∈ls,b<p.1)→ls.Pairwise (λp q=>p.1<q.1)→(∀p∈ls,0≤p.1∧p.1<(sz.length:Int)∧p.2≠0∧-65536≤p.2∧p.2≤65536)→Jm sz pr ls=0
 | [],_,_,_,_=>rfl
 | p::ls,pr,hp,hs,hb=>by
  obtain⟨h1,h2,h3,h4,h5⟩:=hb p Lp;obtain⟨k1,k2⟩:=LW.1 hs;have hl:U8 pr p.1=false:=by
   cases pr with
   | none=>rfl
   | some b=>have:=hp b O p Lp;unfold U8;exact decide_eq_false (by omega)
  have E:grt p.2=false:=by unfold grt;rw[decide_eq_false (by omega),decide_eq_false (by omega)];rfl
  rw[Jm,if_neg (by omega),if_neg (by rw[hl];decide),if_neg (by rw[E];simpa using h3)];exact Qd9 ls (some p.1) (λb hb' q hq=>by cases hb';exact k1 q hq) k2 (λq hq=>hb q (Lk _ hq))
theorem Qc6 (a:Int){b:Int}(h:0<b):-b<a.tmod b∧a.tmod b<b:=⟨Int.lt_tmod_of_pos a h,Int.tmod_lt_of_pos a h⟩
structure ItG (c:Nat)(k:Nat)(q:IV):Prop where
 nm:q.nm=⟨#[UInt8.ofNat c]⟩++⟨#[UInt8.ofNat (48+k)]⟩
 g:zO q.p.a
 e:∀e∈q.p.a.al,e<5
theorem QgB (k:Nat)(h:k<3):YD (zZ 99 k)=true∧YD (zZ 114 k)=true∧YD (zZ 101 k)=true:=by
 match k,h with
 | 0,_=>decide
 | 1,_=>decide
 | 2,_=>decide
theorem QeP:∀n,n<4→∀m,m<3→((List.range n).map (zZ 99)++(List.range m).map (zZ 114)).Nodup:=by decide
theorem yH {c:Nat}{co:List IV}(h:∀k (hk:k<co.length),ItG c k (co[k]'hk)):(co.map IV.it).map (·.nm)=(List.range co.length).map (zZ c):=by
 apply LY
 ·simp
 intro i h1 h2;simp only[List.getElem_map,List.getElem_range];exact(h i (by simpa using h1)).nm
theorem Ql6 {ns:LN}{co rq:List IV}{qx:List XV}{ks:List KV}{al:LI}(h1:1≤co.length)(h3:co.length≤3)(G:∀k (hk:k<co.length),ItG 99 k (co[k]'hk))(J:∀e,e∈al↔∃q∈co,e∈q.p.a.al)(ha:rq.length≤2)
  (H:∀k (hk:k<rq.length),ItG 114 k (rq[k]'hk)∧∀e∈(rq[k]'hk).p.a.al,e∈al) (hb:qx.length≤2) (T:(qx.map (·.nm)).Nodup) (U:∀q∈qx,(∃k,k<2∧q.nm=⟨#[101]⟩++⟨#[UInt8.ofNat (48+k)]⟩)∧q.ls≠[]∧q.ls.length≤3∧Yq (co.map (·.p.a.st)) none q.ls=0)
  (hc:ks.length≤1) (V:∀q∈ks,q.nm=⟨#[107]⟩∧Xd (co.map (·.p.a.st)) q.k=0):D25 ⟨X3 ns 5,co.map IV.it,rq.map IV.it,qx.map XV.x,ks.map KV.k⟩:=by
 have I:szs (co.map IV.it)=co.map (·.p.a.st):=by unfold szs;rw[MG];rfl
 refine⟨⟨KT ns 5,Qhw ns⟩,by simp only[List.length_map];omega,by simp only[List.length_map];omega,by simp only[List.length_map];omega,λx hx=>?_,λx hx=>?_,?_,by simp only[List.length_map];omega,λx hx=>?_,?_,by simp only[List.length_map];omega,λx hx=>?_⟩
 ·obtain⟨q,hq,rfl⟩:=Lx.1 hx;obtain⟨k,hk,rfl⟩:=LF hq;have g:=G k hk;exact⟨by show YD (co[k]'hk).nm=true;rw[g.nm];exact(QgB k (by omega)).1,g.g,g.e⟩
 ·obtain⟨q,hq,rfl⟩:=Lx.1 hx;obtain⟨k,hk,rfl⟩:=LF hq;have g:=H k hk;refine⟨by show YD (rq[k]'hk).nm=true;rw[g.1.nm];exact(QgB k (by omega)).2.1,g.1.g,λe he=>?_⟩;obtain⟨y,hy,Y⟩:=(J e).1 (g.2 e he);exact⟨y.it,LL hy,Y⟩
 ·show((co.map IV.it).map (·.nm)++(rq.map IV.it).map (·.nm)).Nodup;rw[yH G,yH (λk hk=>(H k hk).1)];exact QeP _ (by omega) _ (by omega)
 ·obtain⟨q,hq,rfl⟩:=Lx.1 hx;obtain⟨⟨k,k1,k2⟩,E,_,g4⟩:=U q hq;refine⟨by show YD q.nm=true;rw[k2];exact(QgB k (by omega)).2.2,E,?_⟩;show Yq (szs (co.map IV.it)) none q.ls=0;rw[I];exact g4
 ·show((qx.map XV.x).map (·.nm)).Nodup;rw[MG];exact T
 obtain⟨q,hq,rfl⟩:=Lx.1 hx;obtain⟨g1,E⟩:=V q hq;refine⟨by show YD q.nm=true;rw[g1];decide,?_⟩;show Xd (szs (co.map IV.it)) q.k=0;rw[I];exact E
def flk (l:PlV)(i:Nat):Int:=[l.f0,l.f1,l.f2].getD i 0
theorem Qm6 {l:PlV}(h:l.ns.length=147){i:Nat}(hi:i<3):(Yy l)[0+148+i*1]?=some (.int .i8 (flk l i)):=by
 rw[show 0+148+i*1=147+(1+i) by omega,Qgo h]
 match i,hi with
 | 0,_=>rfl
 | 1,_=>rfl
 | 2,_=>rfl
theorem Qm5 {L:LN}{H:Array Obj}{l:PlV}(h:PlA L H l)(i:Nat)(hi:i<3):i8R (flk l i):=by
 match i,hi with
 | 0,_=>exact h.f0
 | 1,_=>exact h.f1
 | 2,_=>exact h.f2
theorem Qhv (ns:LN):∀e∈X3 ns 5,Uq e.nm:=λe he=>by
 unfold X3 at he;obtain⟨k,_,rfl⟩:=Lx.1 he;unfold JS;split <;> exact YZ (by simp)
set_option maxRecDepth 100000 in
set_option maxHeartbeats 8000000 in
theorem QeS {w:World}{l:PlV}(h:PlA [] w.heap l):
  QE prog 20 [.agg (Yy l).toArray] w λr w'=>Step [] w w'∧∃k,Qiq w.heap.size w'.heap r k∧D25 k:=by
 refine Zb (1+l.ns.getD 5 0 % 3) λn hn=>?_;have hn3:1≤n∧n≤3:=by omega
 refine QE.of_W func20 O ntmps20 results20 (by simp) ?_;refine Qc<|xl O<|QQ (us:=Yy l) O λb1 w1 hs1 hb1 m6=>xl O<|Qu (us:=YR) O λb2 w2 kv hb2 m7=>xe ?_;have m8:=hs1.trans kv;have hl1:=m6.lt;have hl2:=m7.lt;have gt:=m6.ext kv;have m9:((l.ns.drop 0).take 5).length=5:=by rw[Ly,L5,h.n];rfl
 have hflt:∀n∈(l.ns.drop 0).take 5,n<256:=λn hn=>h.b n (Mz (LR hn));refine Qc<|x (Qa O)<|x (KN (us:=bys ((l.ns.drop 0).take 5)) gt O (by rw[ZG];exact m9) (λj u hu=>Qcg (l:=l) (o:=0) (m:=5) j u hu))<|xl O<|xf<|(QbS (ns:=(l.ns.drop 0).take 5) m9 hflt).mono ?_;rintro ve w3 ⟨pa,gj⟩;refine Zb (X3 ((l.ns.drop 0).take 5) 5) λev kg=>?_;rw[kg]at gj
 refine x (QN ⟨Zo gj,Z⟩)<|xl O<|Qu (us:=YR) O λE w4 hs4 hb3 hB3=>xl O<|Qo (us:=[ve,Q0,Q0,Q0,Q0]) hB3 O O O O ⟨QK gj,O,O,O,O,Z⟩ λw5 hs5 pc =>
  xe ?_
 have pd:Step [] w3 w5:=hs4.then1 hs5 hb3;refine Qc<|xl O<|Qu (us:=[Q0]) O λb4 w6 pf hb4 pg=>xe ?_;have ph:=pd.trans pf;have gu:=pa.trans ph;have H:=kv.trans gu;have hz3:=pa.size;have hz35:=pd.size;have hl3:=pc.lt;have hl4:=pg.lt;have kw:=gt.ext gu;have hB36:=pc.ext pf;have q5:=Qds (l:=l) h.n (j:=5) (by omega);have q5l:=YO h.b 5
 refine Zb (l.ns.getD 5 0) λcn hcn=>?_;rw[hcn]at q5 q5l hn
 refine Qc<|x (Qa O)<|x (Qd kw O q5)<|x (JZ (a:=(cn:Int)) (b:=3) O O (by omega) (by omega))<|x (ZQ (k':=.i64) O ⟨by omega,by omega⟩)<|QM O O<|Qe<|QX (α:=Value×List IV×Value×LI) [(6,7),(26,55)] (λ_=>[]) (λz w'=>Step [E,b4] w6 w'∧QT w'.heap E 37 [ve,z.1,Q0,Q0,Q0]∧QT w'.heap b4 39 [z.2.2.1]∧Ug w6.heap.size w' z.1 z.2.2.1 z.2.1 z.2.2.2∧z.2.1.length=n∧(∀k (hk:k<z.2.1.length),ItG 99 k (z.2.1[k]'hk))∧z.2.2.2.length≤5*n∧∀e,e∈z.2.2.2↔∃q∈z.2.1,e∈q.p.a.al) (by rfl) ?_ ?_
 ·refine Qc<|Qb<|Qb<|xe<|Qh<|QA (α:=Nat×Value×List IV×Value×LI) [(6,7),(27,55)] (λz=>[(27,.int .i64 z.1)])
   (λz w'=>z.1≤n∧Step [E,b4] w6 w'∧QT w'.heap E 37 [ve,z.2.1,Q0,Q0,Q0]∧QT w'.heap b4 39 [z.2.2.2.1]∧Ug w6.heap.size w' z.2.1 z.2.2.2.1 z.2.2.1 z.2.2.2.2∧z.2.2.1.length=z.1∧(∀k (hk:k<z.2.2.1.length),ItG 99 k (z.2.2.1[k]'hk))∧z.2.2.2.2.length≤5*z.1∧∀e,e∈z.2.2.2.2↔∃q∈z.2.2.1,e∈q.p.a.al)
   (λz=>n - z.1) (by rfl) (0,Q0,[],Q0,[]) La
   ⟨Ll _,Step.refl _ _,hB36,pg,Ug.nil,O,λk hk=>absurd hk (by simp),by simp,by simp⟩ ?_
  rintro⟨i,vc,co,va,al⟩ g7 w7 ⟨hi,h7,gk,hZ,hg,gv,hR,kx,gl⟩;simp only[]at hi gk hZ hg gv hR kx gl;refine Qc<|x (Qz O O)<|xe<|Qg<|QC O (λkz=>?_) (λkz=>?_)
  ·refine Qy ?_;have k0:i=n:=by have h29:¬(i:Int)<1+(cn:Int) % 3:=kz;omega
   exact⟨(vc,co,va,al),Z,h7,gk,hZ,hg,by simp only[];omega,hR,by simp only[];omega,gl⟩
  have hy:i<n:=by have h29:(i:Int)<1+(cn:Int) % 3:=kz;omega
  have k4:b1∉[E,b4]:=by simp only[List.mem_cons,List.not_mem_nil,or_false];omega
  have hS:=kw.step h7 k4;have qs:=Qds (l:=l) h.n (j:=0+6+i*1) (by omega);have qsl:=YO h.b (0+6+i*1);refine Zb (l.ns.getD (0+6+i*1) 0) λm hm=>?_;rw[hm]at qs qsl;have k5:=YH m 5;have gx:=Kj m 5;have ga:=jn m 5;refine Zb (setK m 5) λsk gy=>?_;rw[gy]at k5 gx ga
  refine Qi<|Qg<|Qh<|Qc<|Qb<|Qe<|Qc<|Qb<|x (Qa O)<|x (Zw (i:=i) O O (by omega))<|x (Qd hS O qs)<|xl O<|xf<|(VK m qsl _).mono ?_;rintro vs w8 ⟨Y,kh⟩;rw[gy]at kh;refine Qe ?_;have pj:=Y.size;have h8:=hg.ext Y;have hI8:=Qt.ints (L:=[]) h8.a (by omega) (by simp);have hJ8:=Qt.ints (L:=[]) kh (by omega) (by simp)
  refine Qc<|x (Qd (hZ.ext Y) O O)<|Qb<|xl O<|xf<|(QbZ hI8 hJ8 (by omega)).mono ?_;rintro pn w9 ⟨I,po,hal2,pp,gb⟩;have ki:=Y.trans I;have k6:=I.size;have hz7:=h7.size;refine xl O<|QB (hZ.ext ki) O O (by simp) (QK gb) λU hh hB410=>xe ?_;have hl36:E<w6.heap.size:=by omega
  have h0:Ug w6.heap.size w9 vc pn co po:=h8.setA (Zc gb (by omega)) I.any (λb hb=>.inr (Qp gb b hb).1);have hj:=h0.low hh (λb hb=>by rw[Lb.1 hb];omega);have gz:QT U.heap E 37 [ve,vc,Q0,Q0,Q0]:=(gk.ext ki).step hh (by simp only[List.mem_singleton];omega);have k7:=(hS.ext ki).step hh (by simp only[List.mem_singleton];omega)
  have k8:QH [] U.heap vs sk:=Qt.ints (L:=[]) (Ql (Qs kh I) hh (λb hb hm=>by have:=(Qp kh b hb).1;rw[Lb.1 hm]at this;omega)) (by omega) (by simp);have hz10:=hh.size;have n3v:E∉ob vc:=QR hj.c (by omega);have n1v:b1∉ob vc:=QR hj.c (by omega);have gc:=Qcv (ns:=l.ns) (o:=0+9+i*27) (by have:=h.n;omega);have g0:=Qg4 (o:=0+9+i*27) h.b
  have g1:=λj u=>Qcg (l:=l) (o:=0+9+i*27) (m:=27) j u;refine Zb (grN l.ns (0+9+i*27)) λgr h4=>?_;have k9:∀j u,(bys gr)[j]?=some u→(Yy l)[0+9+i*27+j]?=some u:=by rw[←h4];exact g1
  rw[h4]at gc g0;have g2:Step [] U { U with drawn:=U.drawn+1 }:=Step.drew _ _
  have g3:(48:Int)+(i:Int)=((48+i:Nat):Int):=by omega
  refine Zb (⟨#[99]⟩++⟨#[UInt8.ofNat (48+i)]⟩:ByteArray) λnm hB=>?_;refine QV (Step (ob vc) U) [(0,true),(1,true),(2,true),(3,true),(4,true),(5,true),(6,true),(7,true),(8,true),(9,true),(10,true),(11,true),(12,false),(13,true),(14,false),(15,false),(16,true),(17,false)] mixed (by rfl) (by kernel_rfl) (Step.drew _ _) ?_
  refine p (λ_=>Qa O)<|pq (λ_ hc=>Qd (gz.step hc n3v) O O)<|p (λ_=>Qm)<|p (λ_=>Xa O O ⟨by omega,by omega⟩)<|p (λ_=>ZQ (k':=.i32) O ⟨by omega,by omega⟩)<|p (λ_=>Qcc (n:=48+i) (congrArg (Value.int .i32) g3) (by omega)) <|
   p (λ_=>Yx (a:=⟨#[99]⟩) (b:=⟨#[UInt8.ofNat (48+i)]⟩) O O (by show 1+1≤1000000000;omega))<|p (λ_=>Qm)<|p (λ_=>Qm)<|p (λ_=>Qa O)<|p (λ_=>Zw (i:=i) O O (by omega))<|pq (λ_ hc=>KN (us:=bys gr) (k7.step hc n1v) O (by rw[ZG];exact gc) k9)<|?_
  refine pk<|xf<|(qY (k8.ext g2) (λe he=>by have:=ga e he;omega) gx gc g0).mono ?_;rintro r11 hf ⟨ge,a,⟨xa,xm,hz,rfl,hA⟩,hG,gm⟩;have hC:=g2.trans ge;have pt:=hC.size;have gg:=hA [] (by simp);refine⟨hC.any,?_⟩
  refine p (λ_=>Zx [(0,[.string nm]),(1,[xa,.int .i64 a.st,xm,hz])] ⟨congrArg (λb=>(Value.string b).cells) hB,O,O,O,Z⟩)<|pk<|QF (us:=[Zi ⟨nm,⟨xa,xm,hz,a⟩⟩]) O O (by decide) (show 1*5≤1000000 by omega) ⟨O,O,Z⟩ λb14 hT V hb14 ma=>⟨(hC.trans V).any,?_⟩;have ho:=hC.trans V;have g4:=hj.ext ho
  refine pk<|Q5 (news:=Zi ⟨nm,⟨xa,xm,hz,a⟩⟩) (L:=[]) g4.c O O O (ma.at (by simp)) (U9 gg.al.one gg.mr.one gg.ed.one) (by omega) (by have:=ho.size;omega) λmc hE g5 G mf=>⟨(ho.any (L:=ob vc)).trans' G,?_⟩;have mg:=g4.setC (VW (q:=⟨nm,⟨xa,xm,hz,a⟩⟩) (N:=U.heap.size) (λL hL=>(hA L hL).ext V) (by omega) hj.avlt) g5 G mf
  refine p (λ_=>Qa O)<|pkl (hl:=by kernel_rfl)<|QB ((gz.ext ho).step G n3v) O O (by simp) (QK g5) λhH H hU=>pe ?_;have hge:=Qp hj.c;have n4v:b4∉ob vc:=QR hj.c (by omega);have hB416:=((hB410.ext ho).step G n4v).step H (by simp only[List.mem_singleton];omega);have hs710:Step [b4] w7 U:=ki.any.trans' hh
  have hs615:Step [E,b4] w6 hE:=((h7.trans' (hs710.mono (by simp))).trans ho.any).then G (λb hb=>.inr (hge b hb).1);refine Qx<|QM O O<|Qb<|xe ?_
  refine⟨(i+1,mc,co++[⟨nm,⟨xa,xm,hz,a⟩⟩],pn,po),by simp only[];omega,La,hy,hs615.trans' (H.mono (by simp)),hU,hB416,mg.low H (λb hb=>by rw[List.mem_singleton.1 hb];omega),by simp only[List.length_append,List.length_singleton];omega,λk hk=>?_,by simp only[];omega,λe=>?_⟩
  ·simp only[]at hk ⊢;by_cases ha:k<co.length
   ·rw[LX ha];exact hR k ha
   have g6:k=i:=by simp only[List.length_append,List.length_singleton]at hk;omega
   subst g6;rw[Mr (by omega)];simp only[gv,Nat.sub_self,List.getElem_cons_zero];exact⟨hB.symm,hG,λe he=>by rw[gm]at he;exact(ga e he).2⟩
  simp only[]at pp ⊢;rw[pp,gl];constructor
  ·rintro(⟨q,hq,he⟩|he)
   ·exact⟨q,LQ _ hq,he⟩
   exact⟨_,M1 _ (Lb.2 O),by rw[gm];exact he⟩
  rintro⟨q,hq,he⟩;rcases Lq.1 hq with hq|hq
  ·exact .inl ⟨q,hq,he⟩
  rw[Lb.1 hq,gm]at he;exact .inr he
 rintro⟨vc,co,va,al⟩ g7 w7 ⟨h7,gk,hZ,hg,gv,hR,kx,gl⟩;simp only[]at gk hZ hg gv hR kx gl;have hz7:=h7.size;have k4:b1∉[E,b4]:=by simp only[List.mem_cons,List.not_mem_nil,or_false];omega
 have hS:=kw.step h7 k4;have mh:b1∉[E]:=by simp only[List.mem_singleton];omega
 have n43:b4∉[E]:=by simp only[List.mem_singleton];omega
 have pu:=Qds (l:=l) h.n (j:=90) (by omega);have q90l:=YO h.b 90;refine Zb (l.ns.getD 90 0) λrn hrn=>?_;rw[hrn]at pu q90l;refine Zb (rn % 3) λr hr=>?_;refine QX (α:=Value×List IV) [(8,9),(56,87)] (λ_=>[]) (λz w'=>Step [E] w7 w'∧QT w'.heap E 37 [ve,vc,z.1,Q0,Q0]∧Ug w7.heap.size w' z.1 Q0 z.2 []∧z.2.length=r∧∀k (hk:k<z.2.length),ItG 114 k (z.2[k]'hk)∧∀e∈(z.2[k]'hk).p.a.al,e∈al) (by rfl) ?_ ?_
 ·refine Qc<|x (Qa O)<|x (Qd hS O pu)<|x (JZ (a:=(rn:Int)) (b:=3) O O (by omega) (by omega))<|x (ZQ (k':=.i64) O ⟨by omega,by omega⟩)<|Qb<|xe<|Qh<|QA (α:=Nat×Value×List IV) [(8,9),(60,87)] (λz=>[(60,.int .i64 z.1)])
   (λz w'=>z.1≤r∧Step [E] w7 w'∧QT w'.heap E 37 [ve,vc,z.2.1,Q0,Q0]∧Ug w7.heap.size w' z.2.1 Q0 z.2.2 []∧z.2.2.length=z.1∧∀k (hk:k<z.2.2.length),ItG 114 k (z.2.2[k]'hk)∧∀e∈(z.2.2[k]'hk).p.a.al,e∈al)
   (λz=>r - z.1) (by rfl) (0,Q0,[]) La
   ⟨Ll _,Step.refl _ _,gk,Ug.nil,O,λk hk=>absurd hk (by simp)⟩ ?_
  rintro⟨i,vr,rq⟩ g8 w8 ⟨hi,Y,gn,h8,kj,h4⟩;simp only[]at hi gn h8 kj h4;refine Qc<|x (Qz O O)<|xe<|Qg<|QC O (λmj=>?_) (λmj=>?_)
  ·refine Qy ?_;have k0:i=r:=by have h62:¬(i:Int)<(rn:Int) % 3:=mj;omega
   exact⟨(vr,rq),Z,Y,gn,h8,by simp only[];omega,h4⟩
  have hy:i<r:=by have h62:(i:Int)<(rn:Int) % 3:=mj;omega
  have ka:=hS.step Y mh;have hB48:=hZ.step Y n43;have qs:=Qds (l:=l) h.n (j:=0+91+i*1) (by omega);have qsl:=YO h.b (0+91+i*1);refine Zb (l.ns.getD (0+91+i*1) 0) λm hm=>?_;rw[hm]at qs qsl;have k5:=YH m 5;have gx:=Kj m 5;have ga:=jn m 5;refine Zb (setK m 5) λsk gy=>?_;rw[gy]at k5 gx ga
  refine Qi<|Qg<|Qh<|Qc<|Qb<|Qe<|Qc<|Qb<|x (Qa O)<|x (Zw (i:=i) O O (by omega))<|x (Qd ka O qs)<|xl O<|xf<|(VK m qsl _).mono ?_;rintro vs w9 ⟨I,gb⟩;rw[gy]at gb;have pj:=Y.size;have k6:=I.size;have hva8:=Qs (Ql hg.a Y (λb hb hm=>by rw[Lb.1 hm]at hb;exact QR hg.a (by omega) hb)) I;have g1:=Qp gb;have hlv:=Q3 hg.a
  have hD:=Qkg gb (by omega) (hB48.ext I) (λhm=>by have:=(g1 b4 hm).1;omega) (QW hva8 (by omega) (λb hb hbs=>by have:=(g1 b hbs).1;have:=hlv b hb;omega));refine x (Zn (l:=[]) (l':=[_]))<|xl O<|xf<|hD.mono ?_;rintro vd U ⟨hh,pw⟩;have pz:Yn (sk.filter λx=>decide (x∈al)):=List.Pairwise.filter _ gx;have hFL:=L3 (λx=>decide (x∈al)) sk
  have kk:∀e∈sk.filter λx=>decide (x∈al),e∈sk∧e∈al:=λe he=>by
   have:=LP.1 he;exact⟨this.1,of_decide_eq_true this.2⟩
  refine Zb (sk.filter λx=>decide (x∈al)) λF hF=>?_;rw[hF]at pw pz hFL kk;refine Qe ?_;have kb:Step [] w8 U:=I.then hh (λb hb=>.inr (g1 b hb).1);have hz10:=kb.size;have hj:=h8.ext kb;have gz:=gn.ext kb;have k7:=ka.ext kb;have k8:QH [] U.heap vd F:=Qt.ints (L:=[]) pw (by omega) (by simp);have n3v:E∉ob vr:=QR hj.c (by omega)
  have n1v:b1∉ob vr:=QR hj.c (by omega);have gc:=Qcv (ns:=l.ns) (o:=0+93+i*27) (by have:=h.n;omega);have g0:=Qg4 (o:=0+93+i*27) h.b;have k9:=λj u=>Qcg (l:=l) (o:=0+93+i*27) (m:=27) j u;refine Zb (grN l.ns (0+93+i*27)) λgr p0=>?_;have hgs2:∀j u,(bys gr)[j]?=some u→(Yy l)[0+93+i*27+j]?=some u:=by rw[←p0];exact k9
  rw[p0]at gc g0;have g2:Step [] U { U with drawn:=U.drawn+1 }:=Step.drew _ _
  have g3:(48:Int)+(i:Int)=((48+i:Nat):Int):=by omega
  refine Zb (⟨#[114]⟩++⟨#[UInt8.ofNat (48+i)]⟩:ByteArray) λnm hB=>?_;refine QV (Step (ob vr) U) [(0,true),(1,true),(2,true),(3,true),(4,true),(5,true),(6,true),(7,true),(8,true),(9,true),(10,true),(11,true),(12,false),(13,true),(14,false),(15,false),(16,true),(17,false)] mixed (by rfl) (by kernel_rfl) (Step.drew _ _) ?_
  refine p (λ_=>Qa O)<|pq (λ_ hc=>Qd (gz.step hc n3v) O O)<|p (λ_=>Qm)<|p (λ_=>Xa O O ⟨by omega,by omega⟩)<|p (λ_=>ZQ (k':=.i32) O ⟨by omega,by omega⟩)<|p (λ_=>Qcc (n:=48+i) (congrArg (Value.int .i32) g3) (by omega)) <|
   p (λ_=>Yx (a:=⟨#[114]⟩) (b:=⟨#[UInt8.ofNat (48+i)]⟩) O O (by show 1+1≤1000000000;omega))<|p (λ_=>Qm)<|p (λ_=>Qm)<|p (λ_=>Qa O)<|p (λ_=>Zw (i:=i) O O (by omega))<|pq (λ_ hc=>KN (us:=bys gr) (k7.step hc n1v) O (by rw[ZG];exact gc) hgs2)<|?_
  refine pk<|xf<|(qY (k8.ext g2) (λe he=>by have:=ga e (kk e he).1;omega) pz gc g0).mono ?_;rintro r11 hf ⟨ge,a,⟨xa,xm,hz,rfl,hA⟩,hG,gm⟩;have hC:=g2.trans ge;have pt:=hC.size;have gg:=hA [] (by simp);refine⟨hC.any,?_⟩
  refine p (λ_=>Zx [(0,[.string nm]),(1,[xa,.int .i64 a.st,xm,hz])] ⟨congrArg (λb=>(Value.string b).cells) hB,O,O,O,Z⟩)<|pk<|QF (us:=[Zi ⟨nm,⟨xa,xm,hz,a⟩⟩]) O O (by decide) (show 1*5≤1000000 by omega) ⟨O,O,Z⟩ λb14 hT V hb14 ma=>⟨(hC.trans V).any,?_⟩;have ho:=hC.trans V;have g4:=hj.ext ho
  refine pk<|Q5 (news:=Zi ⟨nm,⟨xa,xm,hz,a⟩⟩) (L:=[]) g4.c O O O (ma.at (by simp)) (U9 gg.al.one gg.mr.one gg.ed.one) (by omega) (by have:=ho.size;omega) λmc hE g5 G mf=>⟨(ho.any (L:=ob vr)).trans' G,?_⟩;have mg:=g4.setC (VW (q:=⟨nm,⟨xa,xm,hz,a⟩⟩) (N:=U.heap.size) (λL hL=>(hA L hL).ext V) (by omega) hj.avlt) g5 G mf
  refine p (λ_=>Qa O)<|pkl (hl:=by kernel_rfl)<|QB ((gz.ext ho).step G n3v) O O (by simp) (QK g5) λhH H hU=>pe ?_;have hge:=Qp hj.c;have hs715:Step [E] w7 hE:=((Y.trans kb.any).trans ho.any).then G (λb hb=>.inr (hge b hb).1);refine Qx<|QM O O<|Qb<|xe ?_
  refine⟨(i+1,mc,rq++[⟨nm,⟨xa,xm,hz,a⟩⟩]),by simp only[];omega,La,hy,hs715.trans' H,hU,mg.low H (λb hb=>by rw[Lb.1 hb];omega),by simp only[List.length_append,List.length_singleton];omega,λk hk=>?_⟩;simp only[]at hk ⊢;by_cases ha:k<rq.length
  ·rw[LX ha];exact h4 k ha
  have g6:k=i:=by simp only[List.length_append,List.length_singleton]at hk;omega
  subst g6;rw[Mr (by omega)];simp only[kj,Nat.sub_self,List.getElem_cons_zero];exact⟨⟨hB.symm,hG,λe he=>by rw[gm]at he;exact(ga e (kk e he).1).2⟩,λe he=>by rw[gm]at he;exact(kk e he).2⟩
 rintro⟨vr,rq⟩ g8 w8 ⟨Y,gn,h8,kj,h4⟩;simp only[]at gn h8 kj h4;have pj:=Y.size;have ka:=hS.step Y mh;have g147:=Qgo (l:=l) h.n 0;have hX6:Zv [E,b4] w6.heap l.vx l.xs.length 4 (l.xs.flatMap YM):=((h.x.up (L':=[E,b4]) (λb hb=>.inr (by simp only[List.mem_cons,List.not_mem_nil,or_false]at hb;omega))).ext m8).ext gu
 have p4:Zv [E] w8.heap l.vx l.xs.length 4 (l.xs.flatMap YM):=((hX6.st h7).up (L':=[E]) (λb hb=>.inl (by simp only[List.mem_singleton]at hb;simp[hb]))).st Y
 refine QX (α:=Value×List XV) [(10,14),(88,151)] (λ_=>[]) (λz w'=>Step [E] w8 w'∧QT w'.heap E 37 [ve,vc,vr,z.1,Q0]∧Xj Zs 2 99 (λq=>[(q.v,q.ls.length,2,q.ls.flatMap QU)]) w8.heap.size w' z.1 z.2∧z.2.length≤2∧(z.2.map (·.nm)).Nodup∧∀q∈z.2,(∃k,k<2∧q.nm=⟨#[101]⟩++⟨#[UInt8.ofNat (48+k)]⟩)∧q.ls≠[]∧q.ls.length≤3∧Yq (co.map (·.p.a.st)) none q.ls=0) (by rfl) ?_ ?_
 ·refine Qc<|x (Qa O)<|x (Qd ka O g147)<|x (Qr p4 O)<|Qb<|xe<|Qh<|QA (α:=Nat×Value×List XV) [(10,14),(91,151)] (λz=>[(91,.int .i64 z.1)])
   (λz w'=>z.1≤l.xs.length∧z.1≤2∧Step [E] w8 w'∧QT w'.heap E 37 [ve,vc,vr,z.2.1,Q0]∧Xj Zs 2 99 (λq=>[(q.v,q.ls.length,2,q.ls.flatMap QU)]) w8.heap.size w' z.2.1 z.2.2∧z.2.2.length≤z.1∧(z.2.2.map (·.nm)).Nodup∧∀q∈z.2.2,(∃k,k<z.1∧q.nm=⟨#[101]⟩++⟨#[UInt8.ofNat (48+k)]⟩)∧q.ls≠[]∧q.ls.length≤3∧Yq (co.map (·.p.a.st)) none q.ls=0)
   (λz=>l.xs.length - z.1) (by rfl) (0,Q0,[]) La
   ⟨Ll _,Ll _,Step.refl _ _,gn,Xj.nil,Lt _,List.Pairwise.nil,λq hq=>by cases hq⟩ ?_
  rintro⟨i,vx,qx⟩ g9 w9 ⟨hi,hi2,I,hV,h0,kn,hW,hI⟩;simp only[]at hi hi2 hV h0 kn hW hI;have p5:(∀q∈qx,(∃k,k<2∧q.nm=⟨#[101]⟩++⟨#[UInt8.ofNat (48+k)]⟩)∧q.ls≠[]∧q.ls.length≤3∧Yq (co.map (·.p.a.st)) none q.ls=0):=λq hq=>by
   obtain⟨⟨k,k1,k2⟩,h2⟩:=hI q hq;exact⟨⟨k,by omega,k2⟩,h2⟩
  refine Qc<|x (Qz O O)<|xe<|Qg<|QC O (λp6=>?_) (λp6=>?_)
  ·refine Qy ?_;exact⟨(vx,qx),Z,I,hV,h0,by simp only[];omega,hW,p5⟩
  have hy:i<l.xs.length:=by have h93:(i:Int)<(l.xs.length:Int):=p6;omega
  have hX9:=p4.st I;refine Qi<|Qg<|Qh<|Qc<|Qb<|xig qn hX9 O O hy λa94 p7=>?_;refine Zb (l.xs[i]'hy) λxr hxr=>?_;rw[hxr]at p7;refine x (QI p7 O (qn xr))<|xl O<|Qu (us:=[.int .u8 0,.int .u8 0,.int .u8 0,.int .u8 0]) O λb11 U hh hb11 hB11=>x Qf<|xl O<|Qo (us:=YM xr) hB11 O O (qn xr) O (Uc xr.1) λhf ge p8=>xe ?_;have h5:Step [] w9 hf:=hh.then1 ge hb11
  refine Qg<|Qc<|Qb<|x (Zl O O)<|xe<|Q4 O (λp9=>?_) (λp9=>?_)
  ·refine Qy ?_;exact⟨(vx,qx),Z,I.trans h5.any,hV.ext h5,h0.ext h5,by simp only[];omega,hW,p5⟩
  have hi3:i<2:=by have h98:¬(i:Int)=2:=p9;omega
  have g3:(48:Int)+(i:Int)=((48+i:Nat):Int):=by omega
  have pt:=h5.size;have hl11:=p8.lt;refine Zb (⟨#[101]⟩++⟨#[UInt8.ofNat (48+i)]⟩:ByteArray) λnm hB=>?_;refine Qi<|Qc<|Qb<|QM O O<|x (ZQ (k':=.i32) O ⟨by omega,by omega⟩)<|x (Qcc (n:=48+i) (congrArg (Value.int .i32) g3) (by omega))<|x (Yx (a:=⟨#[101]⟩) (b:=⟨#[UInt8.ofNat (48+i)]⟩) O O (by show 1+1≤1000000000;omega))<|x (QN La) <|
   xl rfl<|Qu (us:=[.string .empty,Q0]) O λhJ hT V qc gt=>xl O<|Qo (us:=[.string nm,Q0]) gt O (show Go.Lg.ev _ _=_ from congrArg (λs=>Value.agg #[.string s,Q0]) hB) O O ⟨O,O,Z⟩ λhK hM hB1213=>xe ?_
  have ko:Step [] hf hK:=V.then1 hM qc;have mo:=h5.trans ko;have hz1113:=ko.size;have k6:=I.size;have hltC:=Q3 hg.c;have nc3:E∉ob vc:=QR hg.c (by omega);have ql:∀b∈ob vc,b∉[E]:=λb hb hm=>by rw[Lb.1 hm]at hb;exact nc3 hb
  have hC13:=Qs (Ql (Ql hg.c Y ql) I ql) mo;have mq:=hV.ext mo;have hB1113:=p8.ext ko;have hl12:=gt.lt;have qo:E∉[hJ]:=by simp only[List.mem_singleton];omega
  have n1112:b11∉[hJ]:=by simp only[List.mem_singleton];omega
  have qr:=QW (L:=[hJ]) hC13 (by omega) (λb hb hm=>by rw[Lb.1 hm]at hb;have:=hltC hJ hb;omega)
  refine QX (α:=Value×List (Int×Int)) [(13,14),(104,140)] (λ_=>[]) (λz w'=>Step [hJ] hK w'∧QT w'.heap hJ 99 [.string nm,z.1]∧w'.ownsRow hK.heap.size 101 2 z.1 z.2.length (z.2.flatMap QU)∧z.2.length≤co.length∧z.2.Pairwise (λp q=>p.1<q.1)∧∀p∈z.2,0≤p.1∧p.1<(co.length:Int)∧0≤p.2∧p.2<cget (co.map (·.p.a.st)) p.1.toNat) (by rfl) ?_ ?_
  ·refine Qc<|x (Qa O)<|x (Qd mq O O)<|x (Qr qr O)<|Qb<|xe<|Qh<|QA (α:=Nat×Value×List (Int×Int)) [(13,14),(107,140)] (λz=>[(107,.int .i64 z.1)])
    (λz w'=>z.1≤co.length∧Step [hJ] hK w'∧QT w'.heap hJ 99 [.string nm,z.2.1]∧w'.ownsRow hK.heap.size 101 2 z.2.1 z.2.2.length (z.2.2.flatMap QU)∧z.2.2.length≤z.1∧z.2.2.Pairwise (λp q=>p.1<q.1)∧∀p∈z.2.2,0≤p.1∧p.1<(z.1:Int)∧0≤p.2∧p.2<cget (co.map (·.p.a.st)) p.1.toNat)
    (λz=>co.length - z.1) (by rfl) (0,Q0,[]) La
    ⟨Ll _,Step.refl _ _,hB1213,QP _ _ _ _,Lt _,List.Pairwise.nil,λp hp=>by cases hp⟩ ?_
   rintro⟨k,vl,ls⟩ g14 h6 ⟨hk,J,hN,T,ms,gh,hO⟩;simp only[]at hk hN T ms gh hO;refine Qc<|x (Qz O O)<|xe<|Qg<|QC O (λmt=>?_) (λmt=>?_)
   ·refine Qy ?_;have g6:k=co.length:=by have h109:¬(k:Int)<(co.length:Int):=mt;omega
    rw[g6]at hO;exact⟨(vl,ls),Z,J,hN,T,by simp only[];omega,gh,hO⟩
   have ha:k<co.length:=by have h109:(k:Int)<(co.length:Int):=mt;omega
   have hAC14:=qr.st J;have hX:=mq.step J qo;have q0:=hB1113.step J n1112;refine Qi<|Qg<|Qh<|Qc<|Qb<|Qe<|Qc<|x (Qa O)<|x (Qd hX O O)<|Qb<|xig Xf hAC14 O O ha λa113 q4=>?_;refine Zb (co[k]'ha) λq hq=>?_;rw[hq]at q4;refine x (Zg O)<|x (Zg O)<|x (Qv ((q4.from 1).fld 1 (.int .i64 q.p.a.st) O) O)<|Qe ?_;have mu:=(hR k ha).g;rw[hq]at mu;have hqp:=mu.p
   have hqs:=mu.s;have mv:=JV (ns:=xr.1) (j:=0+k*1) (by rw[xr.2.1];omega);have qx0l:=YO xr.2.2 (0+k*1);refine Zb (xr.1.getD (0+k*1) 0) λxk hxk=>?_;rw[hxk]at mv qx0l;have hmod:0≤(xk:Int) % (q.p.a.st+2):=Int.emod_nonneg _ (by omega)
   refine Qc<|Qb<|x (Zw (i:=k) O O (by omega))<|x (Qd q0 O mv)<|x (ZQ (k':=.i64) O ⟨by omega,by omega⟩)<|Qb<|QM O O<|x (JZ (a:=(xk:Int)) (b:=q.p.a.st+2) O O (by omega) (by omega))<|Qb<|x (Qz O O)<|xe ?_;have hgeL:=Qp T;have q9:=J.size;have j1:=hM.size;have j2:hJ∉ob vl:=QR T (by omega);have hn11v:b11∉ob vl:=QR T (by omega)
   have hcget:cget (co.map (·.p.a.st)) k=q.p.a.st:=by
    unfold cget;simp[List.getD,List.getElem?_map,List.getElem?_eq_getElem ha,hq]
   refine QC O (λh125=>?_) (λh125=>?_)
   ·refine Qi<|Qx<|QM O O<|Qb<|xe ?_;exact⟨(k+1,vl,ls),by simp only[];omega,La,ha,J,hN,T,by simp only[];omega,gh,λp hp=>by have:=hO p hp;simp only[];omega⟩
   have hd14:Step [] h6 { h6 with drawn:=h6.drawn+1 }:=Step.drew _ _
   refine Zb ((xk:Int) % (q.p.a.st+2)) λst hst=>?_;refine QV (Step (ob vl) h6) [(0,true),(1,true),(2,true),(3,true),(4,true),(5,true),(6,true),(7,true),(8,true),(9,true),(10,true),(11,false),(12,false),(13,true),(14,false)] mixed (by rfl) (by kernel_rfl) (Step.drew _ _) ?_
   refine p (λ_=>Qa O)<|pq (λ_ hc=>Qd (hN.step hc j2) O O)<|p (λ_=>Qm)<|p (λ_=>Qm)<|p (λ_=>Zw (i:=k) O O (by omega))<|pq (λ_ hc=>Qd (q0.step hc hn11v) O mv)<|p (λ_=>ZQ (k':=.i64) O ⟨by omega,by omega⟩)<|p (λ_=>Qm)<|p (λ_=>Xa O O ⟨by omega,by omega⟩) <|
    p (λ_=>JZ (a:=(xk:Int)) (b:=q.p.a.st+2) O O (by omega) (by omega))<|p (λ_=>QN ⟨O,O,Z⟩)<|pk<|QF (us:=[QU ((k:Int),(xk:Int) % (q.p.a.st+2))]) O O (by decide) (show 1*2≤1000000 by omega) ⟨O,O,Z⟩ λb137 hE G hb137 hB137=>?_
   have go:=hd14.trans G;have hz1415:=go.size;refine⟨go.any,?_⟩;refine pk<|Q5 (news:=QU ((k:Int),(xk:Int) % (q.p.a.st+2))) (L:=[]) (Qs T go) O O O (hB137.at (by simp)) (jF _) (by omega) (by omega) λkp hH gq H j3=>⟨(go.any (L:=ob vl)).trans' H,?_⟩;have hge16:∀b∈ob kp,hK.heap.size≤b:=λb hb=>(Qp gq b hb).1
   refine p (λ_=>Qa O)<|pkl (hl:=by kernel_rfl)<|QB ((hN.ext go).step H j2) O O (by simp) (QK gq) λmw hv hS=>pe ?_;refine Qx<|QM O O<|Qb<|xe ?_
   refine⟨(k+1,kp,ls++[((k:Int),(xk:Int) % (q.p.a.st+2))]),by simp only[];omega,La,ha,((J.trans go.any).then H (λb hb=>.inr (hgeL b hb).1)).trans' hv,hS,?_,by simp only[List.length_append,List.length_singleton];omega,?_,λp hp=>?_⟩
   ·have h9:=Ql gq hv (λb hb=>by have:=hge16 b hb;simp only[List.mem_singleton];omega);simp only[List.length_append,List.flatMap_append];simpa using h9
   ·simp only[];rw[Mt];exact⟨gh,M9 _ _,λp hp p' mx=>by rw[Lb.1 mx];have:=hO p hp;simp only[];omega⟩
   simp only[]at hp ⊢;rcases Lq.1 hp with hp|hp
   ·have:=hO p hp;omega
   rw[Lb.1 hp];simp only[Int.toNat_natCast];rw[hcget];omega
  rintro⟨vl,ls⟩ g14 h6 ⟨J,hN,T,ms,gh,hO⟩;simp only[]at hN T ms gh hO;have q9:=J.size;have j1:=hM.size;have hY:Step [] w9 h6:=mo.then1 J (by omega);have hX:=mq.step J qo;have kq:=h0.ext hY;refine Qc<|x (Qa O)<|x (Qd hN O O)<|x (Qr (QW (L:=[]) T (by omega) (by simp)) rfl)<|x (ZL rfl rfl)<|xe<|QC O (λj4=>?_) (λj4=>?_)
  ·refine Qi<|Qx<|QM O O<|Qb<|xe<|⟨(i+1,vx,qx),by simp only[];omega,La,hy,by simp only[];omega,I.trans hY.any,hX,kq,by simp only[];omega,hW,λq hq=>?_⟩;obtain⟨⟨k,k1,k2⟩,h2⟩:=hI q hq;exact⟨⟨k,by simp only[];omega,k2⟩,h2⟩
  have za:(0:Int)<(ls.length:Int):=j4;have hxx:=QK T;refine Qx<|x (Qa O)<|x (Qd hX O O)<|x (Qn hN O O)<|xl O<|QF (us:=[Zs ⟨nm,vl,ls⟩]) O O (by decide) (show 1*2≤1000000 by omega) ⟨O,O,Z⟩ λb148 hE G hb148 hB148=>?_
  refine xl O<|Q5 (news:=Zs ⟨nm,vl,ls⟩) (L:=[]) (Qs kq.own G) O O O (hB148.at (by simp)) (U1 hxx) (by omega) (by have:=hY.size;have:=G.size;omega) λkp hH gq H j3=>?_;have hs1115:Step [] hf hE:=(ko.then1 J qc).trans G
  have hM16:=(h0.ext h5).app hs1115 (q:=⟨nm,vl,ls⟩) (λt ht=>by rw[Lb.1 ht];exact⟨hK.heap.size,101,Qs T G,by show ls.length≤_;omega,hz1113⟩) (by omega) gq H j3;have hgeX:=Qp kq.own;have n3x:E∉ob vx:=QR kq.own (by omega);refine x (Qa O)<|xl O<|QB ((hX.ext G).step H n3x) O O (by simp) (QK gq) λmw hv hB317=>xe ?_;refine Qx<|QM O O<|Qb<|xe ?_
  have kr:Step [E] w8 hH:=((I.trans hY.any).trans G.any).then H (λb hb=>.inr (hgeX b hb).1);refine⟨(i+1,kp,qx++[⟨nm,vl,ls⟩]),by simp only[];omega,La,hy,by simp only[];omega,kr.trans' hv,hB317,hM16.low hv (λb hb=>by rw[Lb.1 hb];omega),by simp only[List.length_append,List.length_singleton];omega,?_,λq hq=>?_⟩
  ·simp only[List.map_append,List.map_cons,List.map_nil];rw[Mx];refine⟨hW,by simp,λs hs s' hs' e=>?_⟩;obtain⟨q,hq,rfl⟩:=Lx.1 hs;obtain⟨⟨k,k1,k2⟩,_⟩:=hI q hq;have hk0:k=0:=by omega
   have hi1:i=1:=by omega
   rw[Lb.1 hs',k2,←hB,hk0,hi1]at e;exact absurd e (by decide)
  rcases Lq.1 hq with hq|hq
  ·obtain⟨⟨k,k1,k2⟩,h2⟩:=hI q hq;exact⟨⟨k,by simp only[];omega,k2⟩,h2⟩
  rw[Lb.1 hq];refine⟨⟨i,Nat.lt_succ_self _,hB.symm⟩,λe=>by rw[show ls=[] from e]at za;exact absurd za (by decide),by show ls.length≤3;omega,Qeb ls none (λb hb=>by cases hb) gh (λp hp=>?_)⟩;rw[Lh];exact hO p hp
 rintro⟨vx,qx⟩ g9 w9 ⟨I,hV,h0,kn,hW,hI⟩;simp only[]at hV h0 kn hW hI;have k6:=I.size;have zb:=ka.step I mh;have g151:=Qgo (l:=l) h.n 4;have hbd:=h.bd;have hbdb:=Qc6 l.bd (b:=8) (by decide);refine Zb (l.bd.tmod 8) λbd zv=>?_;rw[zv]at hbdb
 refine Qc<|x (Qa O)<|x (Qd zb O g151)<|x (ZQ (k':=.i64) O ⟨by omega,by omega⟩)<|x (Qge O O (by decide))<|x (QN ⟨O,O,Z⟩)<|xl O<|Qu (us:=[.string .empty,Q0,.int .i64 0]) O λb15 U hh my mz =>
  xl rfl<|Qo (us:=[.string ⟨#[107]⟩,Q0,.int .i64 bd]) mz O (show Go.Lg.ev _ _=_ from congrArg (λn=>Value.agg #[.string ⟨#[107]⟩,Q0,.int .i64 n]) zv) O O ⟨O,O,O,Z⟩ λhf ge z0=>xe ?_
 have h5:Step [] w9 hf:=hh.then1 ge my;have hB111:=zb.ext h5;have hB311:=hV.ext h5;have n115:b1∉[b15]:=by simp only[List.mem_singleton];omega
 have n315:E∉[b15]:=by simp only[List.mem_singleton];omega
 have hl15:=z0.lt;refine QX (α:=Value×List (Int×Int)) [(16,16),(157,179)] (λ_=>[]) (λz w'=>Step [b15] hf w'∧QT w'.heap b15 153 [.string ⟨#[107]⟩,z.1,.int .i64 bd]∧w'.ownsRow hf.heap.size 155 2 z.1 z.2.length (z.2.flatMap QU)∧z.2.length≤n∧z.2.Pairwise (λp q=>p.1<q.1)∧∀p∈z.2,0≤p.1∧p.1<(n:Int)∧-4<p.2∧p.2<4) (by rfl) ?_ ?_
 ·refine Qc<|Qb<|Qb<|xe<|Qh<|QA (α:=Nat×Value×List (Int×Int)) [(16,16),(158,179)] (λz=>[(158,.int .i64 z.1)])
   (λz w'=>z.1≤n∧Step [b15] hf w'∧QT w'.heap b15 153 [.string ⟨#[107]⟩,z.2.1,.int .i64 bd]∧w'.ownsRow hf.heap.size 155 2 z.2.1 z.2.2.length (z.2.2.flatMap QU)∧z.2.2.length≤z.1∧z.2.2.Pairwise (λp q=>p.1<q.1)∧∀p∈z.2.2,0≤p.1∧p.1<(z.1:Int)∧-4<p.2∧p.2<4)
   (λz=>n - z.1) (by rfl) (0,Q0,[]) La
   ⟨Ll _,Step.refl _ _,z0,QP _ _ _ _,Lt _,List.Pairwise.nil,λp hp=>by cases hp⟩ ?_
  rintro⟨i,vt,ts⟩ g12 hT ⟨hi,V,hP,hw,kc,gi,hQ⟩;simp only[]at hi hP hw kc gi hQ;refine Qc<|x (Qz O O)<|xe<|Qg<|QC O (λm0=>?_) (λm0=>?_)
  ·refine Qy ?_;have k0:i=n:=by have h160:¬(i:Int)<1+(cn:Int) % 3:=m0;omega
   rw[k0]at kc hQ;exact⟨(vt,ts),Z,V,hP,hw,kc,gi,hQ⟩
  have hy:i<n:=by have h160:(i:Int)<1+(cn:Int) % 3:=m0;omega
  have z2:=hB111.step V n115;have qf:=Qm6 (l:=l) h.n (i:=i) (by omega);have qfb:=Qm5 h i (by omega);refine Zb (flk l i) λfk hfk=>?_;rw[hfk]at qf qfb;refine Qi<|Qg<|Qh<|Qc<|Qb<|Qe<|Qc<|Qb<|x (Qa O)<|x (Zw (i:=i) O O (by omega))<|x (Qd z2 O qf)<|x (Q7 O O)<|xe<|QC O (λh165=>?_) (λh165=>?_)
  ·refine Qi<|Qx<|QM O O<|Qb<|xe ?_;exact⟨(i+1,vt,ts),by simp only[];omega,La,hy,V,hP,hw,by simp only[];omega,gi,λp hp=>by have:=hQ p hp;simp only[];omega⟩
  have hmd:=Qc6 fk (b:=4) (by decide);have hd12:Step [] hT { hT with drawn:=hT.drawn+1 }:=Step.drew _ _
  have hz12:=V.size;have hgeT:=Qp hw;have z3:b15∉ob vt:=QR hw (by omega);have hn1v:b1∉ob vt:=QR hw (by omega);refine QV (Step (ob vt) hT) [(0,true),(1,true),(2,true),(3,true),(4,true),(5,true),(6,true),(7,true),(8,true),(9,true),(10,false),(11,false),(12,true),(13,false)] mixed (by rfl) (by kernel_rfl) (Step.drew _ _) ?_
  refine p (λ_=>Qa O)<|pq (λ_ hc=>Qd (hP.step hc z3) O O)<|p (λ_=>Qm)<|p (λ_=>Qm)<|p (λ_=>Qa O)<|p (λ_=>Zw (i:=i) O O (by omega))<|pq (λ_ hc=>Qd (z2.step hc hn1v) O qf)<|p (λ_=>ZQ (k':=.i64) O ⟨by omega,by omega⟩) <|
   p (λ_=>Qge O O (by decide))<|p (λ_=>QN ⟨O,O,Z⟩)<|pk<|QF (us:=[QU ((i:Int),fk.tmod 4)]) O O (by decide) (show 1*2≤1000000 by omega) ⟨O,O,Z⟩ λb176 hK hM hb176 hB176=>?_
  have gs:=hd12.trans hM;have hz1213:=gs.size;refine⟨gs.any,?_⟩;refine pk<|Q5 (news:=QU ((i:Int),fk.tmod 4)) (L:=[]) (Qs hw gs) O O O (hB176.at (by simp)) (jF _) (by omega) (by omega) λz4 h6 T J hn14=>⟨(gs.any (L:=ob vt)).trans' J,?_⟩;have hge14:∀b∈ob z4,hf.heap.size≤b:=λb hb=>(Qp T b hb).1
  refine p (λ_=>Qa O)<|pkl (hl:=by kernel_rfl)<|QB ((hP.ext gs).step J z3) O O (by simp) (QK T) λhE G mz=>pe ?_;refine Qx<|QM O O<|Qb<|xe<|⟨(i+1,z4,ts++[((i:Int),fk.tmod 4)]),by simp only[];omega,La,hy,((V.trans gs.any).then J (λb hb=>.inr (hgeT b hb).1)).trans' G,mz,?_,by simp only[List.length_append,List.length_singleton];omega,?_,λp hp=>?_⟩
  ·have h9:=Ql T G (λb hb=>by have:=hge14 b hb;simp only[List.mem_singleton];omega);simp only[List.length_append,List.flatMap_append];simpa using h9
  ·simp only[];rw[Mt];exact⟨gi,M9 _ _,λp hp p' mx=>by rw[Lb.1 mx];have:=hQ p hp;simp only[];omega⟩
  simp only[]at hp ⊢;rcases Lq.1 hp with hp|hp
  ·have:=hQ p hp;omega
  rw[Lb.1 hp];simp only[];omega
 rintro⟨vt,ts⟩ g12 hT ⟨V,hP,hw,kc,gi,hQ⟩;simp only[]at hP hw kc gi hQ;have hz12:=V.size;have hgT:=Qp hw;refine Qc<|x (Qa O)<|x (Qd hP O O)<|xl O<|xf<|(Qkf hw (by omega)).mono ?_;rintro vu hK ⟨hM,kt⟩;have z5:(nzT ts).Pairwise (λp q=>p.1<q.1):=List.Pairwise.filter _ gi;have hul:=L3 (λp:Int×Int=>!decide (p.2=0)) ts
 have z9:∀p∈nzT ts,0≤p.1∧p.1<(n:Int)∧p.2≠0∧-65536≤p.2∧p.2≤65536:=λp hp=>by
  have h1:=LP.1 hp;have h2:=hQ p h1.1;have h3:¬p.2=0:=by simpa using h1.2
  omega
 refine Zb (nzT ts) λus hus=>?_;have hul':us.length≤3:=by rw[←hus];exact LJ hul (by omega)
 rw[hus]at kt z5 z9;have n15t:b15∉ob vt:=QR hw (by omega);refine x (Qa O)<|xl O<|QB (hP.step hM n15t) O O (by simp) (QK kt) λh6 J hB1514=>xe ?_;have hY:Step [] w9 h6:=(((h5.then1 V my).then hM (λb hb=>.inr (by have:=(hgT b hb).1;omega)))).then1 J my;have j1:=hM.size;have q9:=J.size;have hgU:=Qp kt
 have T:=Ql kt J (λb hb=>by have:=(hgU b hb).1;simp only[List.mem_singleton];omega);have hX:=hV.ext hY;refine QX (α:=Value×List KV) [(184,190)] (λ_=>[]) (λz w'=>Step [E] h6 w'∧QT w'.heap E 37 [ve,vc,vr,vx,z.1]∧z.2.length≤1∧(∀q∈z.2,q.nm=⟨#[107]⟩∧Xd (co.map (·.p.a.st)) q.k=0)∧∀L:LN,(∀b∈L,b<w6.heap.size)→zU L w'.heap z.1 z.2) (by rfl) ?_ ?_
 ·refine Qc<|x (Qa O)<|x (Qd hB1514 O O)<|x (Qr (QW (L:=[]) T (by omega) (by simp)) rfl)<|x (ZL rfl rfl)<|xe<|QC O (λh187=>?_) (λh187=>?_)
  ·refine Qi ?_;exact⟨(Q0,[]),Z,Step.refl _ _,hX,by decide,λq hq=>(by cases hq),λL _=>⟨Zv.nil _ _ 3,λq hq=>(by cases hq),λq hq=>(by cases hq)⟩⟩
  refine Qx<|x (Qn hB1514 O O)<|xl O<|QF (us:=[ZD ⟨⟨#[107]⟩,vu,us,bd⟩]) O O (by decide) (show 1*3≤1000000 by omega) ⟨O,O,Z⟩ λb189 hE G hb189 hB189=>?_;refine x (Qa O)<|xl O<|QB (hX.ext G) O O (by simp) rfl λhH H hU=>xe ?_;refine⟨(_,[⟨⟨#[107]⟩,vu,us,bd⟩]),Z,G.any.trans' H,hU,Lt _,λq hq=>?_,λL hL=>?_⟩
  ·rw[Lb.1 hq];refine⟨rfl,?_⟩;have hgr0:grt bd=false:=by unfold grt;rw[decide_eq_false (by omega),decide_eq_false (by omega)];rfl
   have hct:=Qd9 (sz:=co.map (·.p.a.st)) us none (λb hb=>by cases hb) z5 (λp hp=>by rw[Lh,gv];exact z9 p hp);show Xd _ ⟨_,us,bd⟩=0;unfold Xd;rw[if_neg (by simp only[];omega),if_neg (by rw[hct];decide),if_neg (by simp only[];rw[hgr0];decide)]
  have ku:∀b∈E::L,b<hf.heap.size:=λb hb=>by
   rcases Lc.1 hb with rfl|hb
   ·omega
   have:=hL b hb;omega
  have h1:zU (E::L) hE.heap (.slice (some ⟨b189,0,none⟩) 1 1) [⟨⟨#[107]⟩,vu,us,bd⟩]:=by
   refine⟨hB189.arr (λhb=>by have:=ku _ hb;omega) O (by decide) (Lt _),λq hq=>?_,λq hq=>?_⟩
   ·rw[Lb.1 hq];exact(QW (L:=E::L) T (by omega) (λb hb ke=>by have:=(hgU b hb).1;have:=ku b ke;omega)).ext G
   rw[Lb.1 hq];exact YZ (by decide)
  exact(h1.st (H.mono (by simp))).up (λb hb=>.inl (Lk _ hb))
 rintro⟨vk,ks⟩ g16 hH ⟨H,hU,ha,hgk,m1⟩;simp only[]at hU ha hgk m1;have hge3:=Qp gj;have hlt3:=Q3 gj;have kr:Step [E] w8 hH:=(I.trans hY.any).trans' H;have hs716:Step [E] w7 hH:=Y.trans' kr;have m2:Step [E,b4] w6 hH:=h7.trans' (hs716.mono (by simp));have m3:∀b∈[E],b<w6.heap.size:=λb hb=>by rw[Lb.1 hb];omega
 have hE16:=Ql (Qs gj ph) m2 (λb hb hm=>by have:=hlt3 b hb;simp only[List.mem_cons,List.not_mem_nil,or_false]at hm;omega);have hC16:=hg.low hs716 m3;have hR16:=h8.low kr (λb hb=>by have:=m3 b hb;omega);have hX16:=(h0.ext hY).low H (λb hb=>by have:=m3 b hb;omega);have n23:b2∉[E]:=by simp only[List.mem_singleton];omega
 have n234:b2∉[E,b4]:=by simp only[List.mem_cons,List.not_mem_nil,or_false];omega
 have hB216:=(m7.ext gu).step m2 n234;refine Qc<|x (Qn hU O O)<|xl O<|Qo (us:=[ve,vc,vr,vx,vk]) hB216 O O O O ⟨QK hE16,QK hC16.c,QK hR16.c,QK hX16.own,(m1 [] (by simp)).arr.one,Z⟩ λmw hv hB217=>xe ?_;have m4:∀b∈[b2],b<w6.heap.size:=λb hb=>by rw[Lb.1 hb];omega
 have lo2':∀b∈[b2],b<w2.heap.size:=λb hb=>by rw[Lb.1 hb];omega
 have hE17:=Ql hE16 hv (λb hb hm=>by have:=(hge3 b hb).1;have:=lo2' b hm;omega);have hC17:=hC16.low hv m4;have hR17:=hR16.low hv (λb hb=>by have:=m4 b hb;omega);have m5:=hX16.low hv (λb hb=>by have:=m4 b hb;omega);have hs017:Step [] w mw:=((m8.trans gu).then m2 (λb hb=>.inr (by simp only[List.mem_cons,List.not_mem_nil,or_false]at hb;omega))).then1 hv (by omega)
 have hcon:∀q∈co,Uq q.nm:=λq hq=>by
  obtain⟨k,hk,rfl⟩:=LF hq;rw[(hR k hk).nm];exact Jz 99 k
 have hrqn:∀q∈rq,Uq q.nm:=λq hq=>by
  obtain⟨k,hk,rfl⟩:=LF hq;rw[(h4 k hk).1.nm];exact Jz 114 k
 have hxnm:∀q∈qx,Uq q.nm:=λq hq=>by
  obtain⟨⟨k,_,k2⟩,_⟩:=hI q hq;rw[k2];exact Jz 101 k
 have hevn:∀e∈ev,Uq e.nm:=λe he=>Qhv _ e (by rw[kg];exact he);have hevl:ev.length=5:=by rw[←kg];exact KT _ _
 refine Qk ⟨[.agg [ve,vc,vr,vx,vk].toArray],⟨⟨_,O,Qw O (hB217.at (L:=[]) (by simp)).cells⟩,Z⟩,hs017,⟨ev,co.map IV.it,rq.map IV.it,qx.map XV.x,ks.map KV.k⟩,⟨⟨ve,vc,vr,vx,vk,ev,co,rq,qx,ks⟩,rfl,rfl,λL hL=>?_⟩,?_⟩
 ·have ku:∀b∈L,b<w2.heap.size:=λb hb=>by have:=hL b hb;omega
  have hLn:b2∉L:=λhm=>by have:=hL b2 hm;omega
  have kf:∀b∈b2::L,b<w6.heap.size:=λb hb=>by
   rcases Lc.1 hb with rfl|hb
   ·omega
   have:=hL b hb;omega
  refine⟨⟨QW hE17 (by show ev.length≤_;omega) (λb hb ke=>by have:=(hge3 b hb).1;have:=ku b ke;omega),hevn⟩,hC17.itms (by omega) hcon (λb hb=>by have:=kf b (Lk _ hb);omega),hR17.itms (by omega) hrqn (λb hb=>by have:=kf b (Lk _ hb);omega),⟨QW m5.own (by show qx.length≤_;omega) (λb hb ke=>by have:=(Qp m5.own b hb).1;have:=kf b (Lk _ ke);omega),λq hq=>?_,hxnm⟩,?_⟩
  ·exact m5.each q hq _ (Lb.2 O) L (λb hb=>.inl (by have:=kf b (Lk _ hb);omega))
  exact((m1 (b2::L) kf).st (hv.mono (by simp))).up (λb hb=>.inl (Lk _ hb))
 rw[←kg];exact Ql6 (by omega) (by omega) hR gl (by omega) h4 kn hW hI ha hgk
section
variable {base:Nat}{w w':World}{vc va vc' va':Value}{co:List IV}{al:List Kc}
end
end Go.Proofs.YtjcgijbhaemldaaGreatDoor
namespace Go.Lg
section
variable {P:Program}{f:Fr}{w:World}{d:Option Nat}{ty:Nat}{ps:String}{af:Array Edge}{gd:Option (Nat×Bool)}
abbrev i4 (p:Int×Int×Int×Int):LV:=[.int .i64 p.1,.int .i64 p.2.1,.int .i64 p.2.2.1,.int .i64 p.2.2.2]
end
end Go.Lg
namespace Go.Proofs.YtjcgijbhaemldaaGreatDoor
open Go.Lg
def enc (u:LI):Int:=u.foldl (λn e=>n*33+(e+1)) 0
def rn (a:QO)(x:Int)(u:LI):Int:=u.foldl (λs v=>nxt a.ed s v) x
def x0 (a:QO):Int:=if 0<a.st then 0 else -1
end Go.Proofs.YtjcgijbhaemldaaGreatDoor
namespace Go.Lg
section
variable {P:Program}{ops:List Oper}{K:Fr→World→Prop}{f:Fr}{w:World}{d:Option Nat}{ty:Nat}{ps:String}{af:Array Edge}{gd:Option (Nat×Bool)}
end
section
variable {P:Program}{ops:List Oper}{K:Fr→World→Prop}{f:Fr}{w:World}{d:Option Nat}{ty:Nat}{ps:String}{af:Array Edge}{gd:Option (Nat×Bool)}{C:World→Prop}{pl:List (Nat×Bool)}{i0:Nat}
end
end Go.Lg
namespace Go.Proofs.YtjcgijbhaemldaaGreatDoor
open Go.Lg
end Go.Proofs.YtjcgijbhaemldaaGreatDoor
namespace Go.Lg
end Go.Lg
namespace Go.Proofs.YtjcgijbhaemldaaGreatDoor
open Go.Lg
end Go.Proofs.YtjcgijbhaemldaaGreatDoor
namespace Go.Lg
open Go.ChangeShapes Go.WideShapes Go.RowKit
section
variable {H:Type}{enc:TypeId×Value→H}{P:Program}
theorem yY (hl:laidOutB P=true){W W':World}(hS:Step [] W W'){sp:Nat→Bool}:∀{ts:List TypeId}{vs:LV}{ds:List (DataW H)}{ps:List MemPlace},
  (ts.all λt=>P.readableRec t && decide (t<P.types.size))=true→DataW.TrodAll enc P W 0 (λ_=>true) true ts vs ds ps→(∀x∈ps,x.block<W.heap.size)→(∀x∈ps,sp x.block=true)→DataW.TrodAll enc P W' 0 sp true ts vs ds ps
 | [],vs,ds,ps,_,h,_,_=>by
  obtain⟨rfl,rfl,rfl⟩:=trodAll_nil h;exact trodAll_mk0
 | t::ts,vs,ds,ps,E,h,G,hsp=>by
  obtain⟨v,I,d,ds1,a,b,rfl,rfl,rfl,h1,h2⟩:=trodAll_cons h;simp only[List.all_cons,Bool.and_eq_true,decide_eq_true_eq]at E;have hb:Below W.heap.size W W':=hS.below;refine trodAll_cons_mk (WideElems.Trod_stays hl E.1.1 E.1.2 h1 (λx hx=>hb.same (G x (LQ _ hx))) (λx hx=>hsp x (LQ _ hx))) ?_
  exact yY hl hS (by simpa using E.2) h2 (λx hx=>G x (M1 _ hx)) (λx hx=>hsp x (M1 _ hx))
theorem QgQ {f:Func}{s:ChangeSpec}{apart fresh handsOn again:Bool}{W W':World}{args:Array Value}{ds gs:List (DataW H)}{before:List MemPlace}{tb:TypeId}
  (hl:laidOutB P=true) (hg:(f.params.toList.all λt=>P.readableRec t && decide (t<P.types.size))=true) (J:f.resultTypes=#[tb]) (T:P.underlying tb=some .bool) (U:s.vars=[])
  (E:s.fn H (ds++gs)={ results:=[.lit (.bool true)],args:=ds })
  (G:DataW.Whole enc P f.params.toList s.vars apart W args.toList ds gs before) (hS:Step [] W W'):s.post enc P f apart fresh handsOn again W args (.bool true) W':=by
 have I:=G.lt;have hh:=G;obtain⟨p,q,hA,V,rfl,hz,hn⟩:=G;rw[U]at V;obtain⟨rfl,rfl⟩:=trodVars_none V;rw[LK]at *;have Y:∀sp:Nat→Bool,(∀x∈p,sp x.block=true)→DataW.TrodAll enc P W' 0 sp true f.params.toList args.toList ds p:=λsp hsp=>yY hl hS hg hA I hsp
 have hc:∀(b:Nat) (sp:Nat→Bool) (hd:Bool),DataW.TrodAll enc P W' b sp hd f.resultTypes.toList ((Value.bool true).resultList f.resultTypes.size) [.lit (.bool true)] []:=λb sp hd=>by
  rw[J];exact trodAll_mk1 (shut_bool T true)
 have hb:Below W.heap.size W W':=hS.below;have he:∀sp:Nat→Bool,DataW.TrodVars enc P W' sp s.vars ([]:List (DataW H)) []:=λsp=>by rw[U];rfl
 have hi:(s.fn H ds).results=[.lit (.bool true)]:=by rw[E]
 have hj:(s.fn H ds).args=ds:=by rw[E]
 have hk:(s.fn H ds).vars=[]:=by rw[E]
 have hm:∀(j:Nat) (t:TypeId) (r:Value),f.resultTypes[j]?=some t→((Value.bool true).resultList f.resultTypes.size)[j]?=some r→Value.okWide P W' .any 0 t r:=ok_one J O (okWide_bool_mk T true);refine⟨ds,[],p,[],p,[],hh,?_,?_,?_,?_,λ_=>⟨hm,[.lit (.bool true)]++ds,[],([]++p)++[],⟨[]++p,[],?_,?_,O,?_,?_⟩,?_⟩⟩
 ·rw[LK,hi];exact hc _ _ _
 ·rw[LK,hj];exact Y _ (λx hx=>by simpa using I x hx)
 ·rw[LK,hk];exact he _
 ·exact World.keptBut_mono (λ_ f=>f.elim) (hb.frame (λ_=>False))
 ·exact trodAll_append (Y _ (λ_ _=>O)) (hc _ _ _)
 ·exact he _
 ·intro b off hp;have hf:MemPlace.cell b off∈p:=by simpa using hp
  rw[hb.frozen (p:=⟨b,off,none⟩) (I _ hf)];exact hz b off hf
 ·intro ha;have:=hn ha;simpa using this
 intro x hx _;simpa using hx
end
end Go.Lg
namespace Go.Proofs.YtjcgijbhaemldaaGreatDoor
open Go.ChangeShapes Go.WideShapes Go.RowKit Go.Lg
theorem zB:∀(l:LV),(∀v∈l,∃n:Nat,v=.int .u8 (n:Int)∧n<256)→∃ns:LN,l=bys ns∧ns.length=l.length∧∀n∈ns,n<256
 | [],_=>⟨[],O,O,by simp⟩
 | v::l,h=>by
  obtain⟨n,rfl,E⟩:=h v Lp;obtain⟨ns,h1,h2,h3⟩:=zB l (λv G=>h v (Lk _ G));refine⟨n::ns,by rw[h1];rfl,by simp[h2],λm hm=>?_⟩;rcases Lc.1 hm with rfl|hm
  ·exact E
  exact h3 m hm
theorem Qle {n:Int}(h:(Lit.int .u8 n).wf=true):∃m:Nat,n=m∧m<256:=by
 simp only[Lit.wf,Bool.and_eq_true,decide_eq_true_eq]at h;rw[show IntKind.u8.min=0 from rfl,show IntKind.u8.max=255 from rfl]at h;exact⟨n.toNat,by omega,by omega⟩
open Go.Proofs.Tryz
theorem Qlo {w:World}{b:Nat}{s:TypeId×Nat}(h:w.shape? b=some s):b<w.heap.size:=by
 unfold World.shape? at h;cases hb:w.heap[b]? with
 | none=>simp[hb]at h
 | some o=>exact(LD.1 hb).1
theorem QjQ {P:Program}{w:World}{base:Nat}{a:Addr}{e:TypeId}{n:Nat}(h:w.has P .any base a e n):a.block<w.heap.size:=by
 obtain⟨_,_,row,cells,h1,_⟩:=h;exact Qlo h1
theorem Qdj {P:Program}{w:World}{base:Nat}{t e:TypeId}{a:Addr}{n c:Nat}(ht:P.underlying t=some (.slice e))(h:Cell.okWide P w .any base t (.slice (some a) n c)):a.block<w.heap.size:=by
 simp only[Cell.okWide,Cell.ok,ht]at h;exact QjQ h.2.2
theorem Qcp {α:Type}{p:Nat→α→Prop}:∀(n:Nat),(∀i,i<n→∃e,p i e)→∃l:List α,l.length=n∧∀i (h:i<l.length),p i (l[i]'h)
 | 0,_=>⟨[],O,λi h=>by simp at h⟩
 | n+1,h=>by
  obtain⟨l,h1,h2⟩:=Qcp n (λi hi=>h i (by omega));obtain⟨e,he⟩:=h n (by omega);refine⟨l++[e],by simp[h1],λi hi=>?_⟩;by_cases E:i<l.length
  ·rw[LX E];exact h2 i E
  have:i=n:=by simp at hi;omega
  subst this;rw[Mr (by omega)];simpa[h1]using he
theorem Ko {α:Type}{f:α→Option Value}:∀{L:List α}{l:LV},L.mapM f=some l→l.length=L.length∧∀(i:Nat) (a:α),L[i]?=some a→f a=l[i]?
 | [],l,h=>by
  simp at h;subst h;exact⟨O,λi a h=>by simp at h⟩
 | x::L,l,h=>by
  simp only[List.mapM_cons,Option.bind_eq_bind,Option.pure_def,Option.bind_eq_some_iff]at h;obtain⟨v,E,G,h1,h2⟩:=h;cases h2
  obtain⟨h3,h4⟩:=Ko h1;refine⟨by simp[h3],λi a hi=>?_⟩;cases i with
  | zero=>simp at hi;subst hi;simpa using E
  | succ i=>simpa using h4 i a (by simpa using hi)
def kT (P:Program)(k:IntKind):Nat→TypeId→Bool
 | 0,_=>false
 | m+1,t=>match P.underlying t with
  | some (.int k')=>k' == k
  | some (.array n e)=>kT P k m e && decide (0<P.cellsOf e) && decide (P.cellsOf t=n*P.cellsOf e)
  | some (.struct fs)=>(List.range (P.cellsOf t)).all λj=>fs.toList.any λf=>kT P k m f.type && decide (f.offset≤j∧j<f.offset+P.cellsOf f.type)
  | _=>false
theorem j0 {cs:LV}{o n j:Nat}{c:Value}(h:cs[j]?=some c)(h1:o≤j)(h2:j<o+n):c∈(cs.drop o).take n:=by
 refine Md (i:=j - o) ?_;rw[L1,if_pos (by omega),MB,show o+(j - o)=j by omega];exact h
section
variable {H:Type}{enc:TypeId×Value→H}{P:Program}{W:World}{base b0:Nat}{sp:Nat→Bool}{held:Bool}
theorem Ks {k:IntKind}:∀(m:Nat) {t:TypeId}{cs:LV}{fuel:Nat}{x:DataW H×List MemPlace},kT P k m t=true→DataW.trod enc P W b0 sp held fuel t cs=some x→∀c∈cs,∃n,c=.int k n∧(Lit.int k n).wf=true
 | 0,_,_,_,_,h,_,_,_=>by cases h
 | m+1,t,cs,fuel,x,h,G,c,hc=>by
  unfold kT at h;obtain⟨j,hj,J⟩:=LF hc;have I:cs[j]?=some c:=by rw[Lz hj,J]
  split at h
  ·rename_i k' hu;have hk:k'=k:=by simpa using h
   subst hk;obtain⟨n,h1,_,h2⟩:=DataW.trod_int hu G;rw[h1]at hc;exact⟨n,Lb.1 hc,h2⟩
  ·rename_i n e hu;simp only[Bool.and_eq_true,decide_eq_true_eq]at h;obtain⟨⟨h1,h2⟩,h3⟩:=h;obtain⟨xs,T,_,_,hl,U,hx⟩:=DataW.trod_array hu G;have V:=Nat.div_add_mod j (P.cellsOf e);have hg:=Nat.mod_lt j h2;have hi:j / P.cellsOf e<n:=by
    refine(Nat.div_lt_iff_lt_mul h2).2 ?_;omega
   have E:=hx (j / P.cellsOf e) hi;rw[Lz (show j / P.cellsOf e<xs.length by omega)]at E;rw[Nat.mul_comm]at V;exact Ks m h1 E c (j0 I (by omega) (by omega))
  ·rename_i fs hu;obtain⟨xs,T,_,_,hl,U,hx⟩:=DataW.trod_struct hu G;have h1:=LU.1 h j (MU.2 (by omega));obtain⟨f,Y,h2⟩:=M6.1 h1;simp only[Bool.and_eq_true,decide_eq_true_eq]at h2;obtain⟨i,hi,ha⟩:=LF Y;have hb:i<fs.size:=by simpa using hi
   have he:fs[i]?=some f:=by rw[ML hb,←ha];simp
   have E:=hx i f he;rw[Lz (show i<xs.length by omega)]at E;exact Ks m h2.1 E c (j0 I h2.2.1 h2.2.2)
  cases h
theorem Xp {k:IntKind}{m:Nat}{fs:Array Field}{cs:LV}{xs:List (DataW H×List MemPlace)}{I:Nat}(J:xs.length=fs.size)
  (hx:∀(i:Nat) (f:Field),fs[i]?=some f→DataW.trod enc P W b0 sp held I f.type ((cs.drop f.offset).take (P.cellsOf f.type))=xs[i]?) {i j:Nat} {f:Field} {c:Value} (E:fs[i]?=some f) (hk:kT P k m f.type=true) (h1:f.offset≤j) (h2:j<f.offset+P.cellsOf f.type) (hc:cs[j]?=some c):
  ∃n,c=.int k n∧(Lit.int k n).wf=true:=by
 have G:=hx i f E;have hi:i<fs.size:=(LD.1 E).1;rw[Lz (show i<xs.length by omega)]at G;exact Ks m hk G c (j0 hc h1 h2)
theorem Kg {c:Value}(h:∃n,c=.int .u8 n∧(Lit.int .u8 n).wf=true):∃n:Nat,c=.int .u8 (n:Int)∧n<256:=by
 obtain⟨n,rfl,h1⟩:=h;obtain⟨m,rfl,h2⟩:=Qle h1;exact⟨m,O,h2⟩
end
theorem QkW {P:Program}{W:World}{base:Nat}{ts:List TypeId}{cs:Array Value}(h:∀(i:Nat) (v:Value),cs[i]?=some v→∃u,ts[i % ts.length]?=some u∧Cell.okWide P W .any base u v)(i:Nat)(t:TypeId)(v:Value)(E:cs[i]?=some v)(ht:ts[i % ts.length]?=some t):Cell.okWide P W .any base t v:=by
 obtain⟨u,hu,k⟩:=h i v E;rw[ht]at hu;cases hu
 exact k
theorem Qhd {H:Type}{enc:TypeId×Value→H}{P:Program}{W:World}{b0 m:Nat}{sp:Nat→Bool}{held:Bool}{fs:Array Field}{cs:LV}{xs:List (DataW H×List MemPlace)}
  (h:∀(i:Nat) (f:Field),fs[i]?=some f→DataW.trod enc P W b0 sp held m f.type ((cs.drop f.offset).take (P.cellsOf f.type))=xs[i]?) (i:Nat) {f:Field} {t o:Nat} {c:Value} (E:fs[i]?=some f) (ht:f.type=t) (G:f.offset=o) (hc:P.cellsOf t=1) (I:(cs.drop o).take 1=[c]) (hi:i<xs.length):
  DataW.trod enc P W b0 sp held m t [c]=some (xs[i]'hi):=by
 have e:=h i f E;rw[ht,G,hc,I]at e;rw[e];simp[hi]
theorem QmU {W:World}{l:List (String×DataW Unit)}{a b:String×DataW Unit}(hl:l=[a,b,("internal/strconv.uint64pow10",Lib.tabData .u64 Lib.pow10Tab)]) (h:laidMetH prog l W) (hp:(l.all λx=>x.2.handleName?.isNone)=true):Tb W:=by
 rw[Go.MakeChecks.laidMetH_plain _ _ _ hp,hl]at h;exact Lib.tabIs_of_head (n:=20) (g:=0) (by kernel_rfl) (t:=375) (by kernel_rfl) (by kernel_rfl) (e:=334) (by kernel_rfl) (by kernel_rfl) (by kernel_rfl) h.tail.tail
structure PwV where
 ns:LN
 ad:Option Addr
 n:Nat
 cp:Nat
 f0:Int
 f1:Int
 f2:Int
 bd:Int
def PwV.pl (l:PwV)(rs:List X4V):PlV:=⟨l.ns,.slice l.ad l.n l.cp,rs,l.f0,l.f1,l.f2,l.bd⟩
abbrev Xo (l:PwV):LV:=bys l.ns++[.slice l.ad l.n l.cp,.int .i8 l.f0,.int .i8 l.f1,.int .i8 l.f2,.int .i8 l.bd]
structure PwA (w:World)(l:PwV):Prop where
 n:l.ns.length=147
 b:∀n∈l.ns,n<256
 f0:i8R l.f0
 f1:i8R l.f1
 f2:i8R l.f2
 bd:i8R l.bd
 r:l.n≤4→∃rs:List X4V,rs.length=l.n∧Zv [] w.heap (.slice l.ad l.n l.cp) l.n 4 (rs.flatMap YM)
theorem PwA.pl {w w':World}{l:PwV}(h:PwA w l)(hs:Step [] w w')(E:l.n≤4):∃rs,PlA [] w'.heap (l.pl rs)∧rs.length=l.n:=by
 obtain⟨rs,h1,h2⟩:=h.r E;exact⟨rs,⟨h.n,h.b,by show Zv _ _ _ rs.length 4 _;rw[h1];exact h2.ext hs,h.f0,h.f1,h.f2,h.bd⟩,h1⟩
theorem Qm3 {l:PwV}(h:l.ns.length=147):(Xo l)[147]?=some (.slice l.ad l.n l.cp):=by
 show(Xo l)[147+0]?=_;rw[Xo,Mf (by rw[ZG];omega),ZG,h,Mv];rfl
theorem QdR {c:Value}(h:∃n,c=.int .i8 n∧(Lit.int .i8 n).wf=true):∃n:Int,c=.int .i8 n∧i8R n:=by
 obtain⟨n,rfl,h⟩:=h;simp only[Lit.wf,Bool.and_eq_true,decide_eq_true_eq]at h;rw[show IntKind.i8.min=-128 from rfl,show IntKind.i8.max=127 from rfl]at h;exact⟨n,O,by omega⟩
def Qk4 (P:Program)(fs:Array Field)(n:Nat):Bool:=(List.range n).all λj=>fs.toList.any λf=>kT P .u8 5 f.type && decide (f.offset≤j∧j<f.offset+P.cellsOf f.type)
section
variable {H:Type}{enc:TypeId×Value→H}{P:Program}{W:World}{base b0:Nat}{sp:Nat→Bool}{held:Bool}
theorem Qh0 {fs:Array Field}{n m:Nat}{cs:LV}{xs:List (DataW H×List MemPlace)}(h:Qk4 P fs n=true)(E:xs.length=fs.size)
  (hx:∀(i:Nat) (f:Field),fs[i]?=some f→DataW.trod enc P W b0 sp held m f.type ((cs.drop f.offset).take (P.cellsOf f.type))=xs[i]?) {j:Nat} {c:Value} (hj:j<n) (hc:cs[j]?=some c):∃k:Nat,c=.int .u8 (k:Int)∧k<256:=by
 have h1:=LU.1 h j (MU.2 hj);obtain⟨f,G,h2⟩:=M6.1 h1;simp only[Bool.and_eq_true,decide_eq_true_eq]at h2;obtain⟨i,hi,I⟩:=LF G;have J:i<fs.size:=by simpa using hi
 have T:fs[i]?=some f:=by rw[ML J,←I];simp
 exact Kg (Xp E hx T h2.1 h2.2.1 h2.2.2 hc)
theorem Qnw {t e:TypeId}{c:Value}{fuel:Nat}{x:DataW H×List MemPlace}(ht:P.underlying t=some (.slice e))(he:kT P .u8 5 e=true)(hc:P.cellsOf e=4)
  (V:Cell.okWide P W .any base t c) (Y:DataW.trod enc P W b0 sp held fuel t [c]=some x):∃a n cp,c=.slice a n cp∧(n≤12→∃u:List X4V,u.length=n∧Zv [] W.heap (.slice a n cp) n 4 (u.flatMap YM)):=by
 rcases DataW.trod_slice ht Y with⟨E,_⟩|⟨a,len,cap,elems,rest,m,_,E,_,_,hl,_,hk,ha,_,_⟩
 ·simp at E;subst E;exact⟨none,0,0,O,λ_=>⟨[],O,Zv.nil _ _ _⟩⟩
 simp at E;subst E;refine⟨some a,len,cap,O,λhm=>?_⟩;have each:∀i,i<len→∃d:X4V,∀r v,(YM d)[r]?=some v→W.cell? (a.add (i*4+r))=some v:=by
  intro i hi;have I:=ha i hi;rw[hc,Lz (show i<elems.length by omega)]at I;obtain⟨cs,E,hb⟩:=Mg.1 I;have hf:=Ks 5 he hb;obtain⟨ns,h1,h2,h3⟩:=zB cs (λv G=>Kg (hf v G));unfold World.cells? at E;split at E
  ·have hn:cs.length=4:=by
    simpa using(Ko E).1
   refine⟨⟨ns,by omega,h3⟩,λr v G=>?_⟩;have hv':cs[r]?=some v:=by rw[h1];exact G
   have hg:r<4:=by have:=(LS.1 hv').1;omega
   have h4:=(Ko E).2 r r (by simp[hg]);rw[Lg.Addr.add_add,hv']at h4;exact h4
  cases E
 obtain⟨u,J,hu⟩:=Qcp len each;refine⟨u,J,?_⟩;have T:(u.flatMap YM).length=u.length*4:=Go.Lg.Kx YM 4 qn u;refine⟨by rw[T,J],by omega,.inr ⟨a,cap,rfl,by omega,λ_ _=>by simp,λ_ _=>Qdj ht V,λj v G=>?_⟩⟩;have hj:j<u.length*4:=by
  rw[←T];exact(LS.1 G).1
 have hi:j / 4<u.length:=by omega
 have hh:=Jl YM 4 qn u (j / 4) hi;have U:j=j / 4*4+j % 4:=by omega
 have h3:(YM (u[j / 4]'hi))[j % 4]?=some v:=by
  rw[←hh,L1,if_pos (Nat.mod_lt _ (by omega)),MB,←U];exact G
 rw[←Xg];have:=hu (j / 4) hi (j % 4) v h3;rw[←U]at this;exact this
theorem Qfd {v:Value}{d:DataW H}{ps:List MemPlace}{t tp te:Nat}{fs:Array Field}{f7 f8 f9:Field}(hu:P.underlying t=some (.struct fs))(U:(P.cellTypes P.depth t).map (λts=>(ts.length,ts[147]?))=some (152,some tp))(hc:P.cellsOf t=152)
  (V:fs[7]?=some f7) (J:fs[8]?=some f8) (g9:fs[9]?=some f9) (hh:f7.type=tp) (o7:f7.offset=147) (o8:f8.offset=148) (o9:f9.offset=151) (c7:P.cellsOf tp=1) (c8:P.cellsOf f8.type=3) (c9:P.cellsOf f9.type=1)
  (kb:Qk4 P fs 147=true) (T:kT P .i8 5 f8.type=true) (k9:kT P .i8 5 f9.type=true) (hi:P.underlying tp=some (.slice te)) (hk:kT P .u8 5 te=true) (hn:P.cellsOf te=4)
  (Y:Value.okWide P W .any base t v) (h:DataW.Trod enc P W b0 sp held t v d ps):∃l:PwV,v=.agg (Xo l).toArray∧PwA W l:=by
 simp only[Value.okWide,hu]at Y;obtain⟨cs,rfl,ha,ts,ho,_,hp⟩:=Y;rw[ho]at U;have hb:=Option.some.inj U;have hq:ts.length=152:=congrArg Prod.fst hb;have hr:ts[147]?=some tp:=congrArg Prod.snd hb;rw[hc]at ha;obtain⟨l⟩:=cs;have hl:l.length=152:=ha;obtain⟨fuel,hf⟩:=h;obtain⟨xs,m,_,_,_,G,hs⟩:=DataW.trod_struct hu hf
 have E:∀(i:Nat) (f:Field),fs[i]?=some f→DataW.trod enc P W b0 sp held m f.type ((l.drop f.offset).take (P.cellsOf f.type))=xs[i]?:=hs;have hy:7<fs.size:=(LD.1 V).1;have g0:∀c∈l.take 147,∃n:Nat,c=.int .u8 (n:Int)∧n<256:=λc hm=>by
  obtain⟨j,hj,he⟩:=LF hm;have ht:j<147:=by simp at hj;omega
  have hv:l[j]?=some c:=by
   rw[MY]at he;rw[Lz (by omega),he]
  exact Qh0 kb G E ht hv
 obtain⟨ns,e1,e2,e3⟩:=zB _ g0;have hw:ns.length=147:=by rw[e2];simp;omega
 have I:∀j,j<152→∃c,l[j]?=some c:=λj hj=>⟨l[j]'(by omega),Lz (by omega)⟩;obtain⟨x1,q1⟩:=I 147 (by omega);obtain⟨x2,q2⟩:=I 148 (by omega);obtain⟨x3,q3⟩:=I 149 (by omega);obtain⟨x4,q4⟩:=I 150 (by omega);obtain⟨x5,q5⟩:=I 151 (by omega);have hg:l.drop 147=[x1,x2,x3,x4,x5]:=by
  apply Nq;intro i;rw[MB]
  match i with
  | 0=>exact q1
  | 1=>exact q2
  | 2=>exact q3
  | 3=>exact q4
  | 4=>exact q5
  | i+5=>rw[M4 (by omega)];rfl
 obtain⟨y2,rfl,z2⟩:=QdR (Xp G E J T (by omega) (by omega) q2);obtain⟨y3,rfl,z3⟩:=QdR (Xp G E J T (by omega) (by omega) q3);obtain⟨y4,rfl,z4⟩:=QdR (Xp G E J T (by omega) (by omega) q4);obtain⟨y5,rfl,z5⟩:=QdR (Xp G E g9 k9 (by omega) (by omega) q5);have w7:=QkW hp 147 tp x1 (by simpa using q1) (by rw[hq];exact hr)
 have t7:=Qhd (c:=x1) E 7 V hh o7 c7 (by rw[hg];rfl) (by omega);obtain⟨a,n,cp,rfl,hP⟩:=Qnw hi hk hn w7 t7;refine⟨⟨ns,a,n,cp,y2,y3,y4,y5⟩,?_,hw,e3,z2,z3,z4,z5,λh3=>hP (by have h4:n≤4:=h3;omega)⟩;show Value.agg l.toArray=.agg (bys ns++_).toArray;rw[←e1,←hg,Mu]
end
set_option maxRecDepth 100000 in
theorem Qnx {H:Type}{enc:TypeId×Value→H}{W:World}{base b0:Nat}{sp:Nat→Bool}{held:Bool}{v:Value}{d:DataW H}{ps:List MemPlace}(E:Value.okWide prog W .any base 73 v)(h:DataW.Trod enc prog W b0 sp held 73 v d ps):
  ∃l:PwV,v=.agg (Xo l).toArray∧PwA W l :=
 Qfd underlying73 (tp:=69) (by kernel_rfl) (by kernel_rfl) O O O O O O O (by kernel_rfl) (by kernel_rfl) (by kernel_rfl) (by kernel_rfl) (by kernel_rfl) (by kernel_rfl) underlying69 (by kernel_rfl) (by kernel_rfl) E h
theorem Qic {w:World}{l:PwV}(h:PwA w l):QE prog 19 [.agg (Xo l).toArray] w λr w'=>r=.bool (decide (l.n≤4))∧Step [] w w':=by
 have E:=Qm3 h.n;refine QE.of_W func19 O ntmps19 results19 (by simp) ?_;refine Qc<|xl O<|QQ (us:=Xo l) O λI J G T H=>Qe<|Qc<|x (Qa O)<|x (Qd H O E)<|x (qI O)<|x (Jv O O)<|Qe<|Qk ⟨[_],La,?_,G⟩;exact congrArg Value.bool (decide_eq_decide.2 (by omega))
theorem QhD {c:ZA}(h:D25 c):(∀a∈auts c.co++auts c.rq,zO a):=λa ha=>by
 rcases Lq.1 ha with ha|ha
 ·obtain⟨x,hx,rfl⟩:=Lx.1 ha;exact(h.co x hx).2.1
 obtain⟨x,hx,rfl⟩:=Lx.1 ha;exact(h.rq x hx).2.1
theorem zG (l:List XC):(auts l).length=l.length:=by unfold auts;rw[Lh]
theorem Qbb {aa:List QO}(h:∀a∈aa,zO a)(hl:aa.length≤5):JJ aa=0∧∃z,sync aa=some z:=by
 refine⟨?_,QfE (k:=3) (λa ha=>(h a ha).ok) (λa ha=>(h a ha).s) ?_⟩
 ·unfold JJ;rw[if_neg (by omega)];exact(KA _).2 λa ha=>(h a ha).ok
 exact LJ (Nat.pow_le_pow_right (by omega) hl) (by decide)
theorem Qd1 {c:ZA}(h:D25 c):∃pl ps sa ts,sync (auts c.co)=some (pl,ps)∧sync (auts c.co++auts c.rq)=some (sa,ts)∧Y1 c=0:=by
 have h3:=h.c3;have h2:=h.r2;have E:=QhD h;obtain⟨k1,⟨pl,ps⟩,e1⟩:=Qbb (aa:=auts c.co) (λa ha=>E a (LQ _ ha)) (by rw[zG];omega);obtain⟨k2,⟨sa,ts⟩,e2⟩:=Qbb (aa:=auts c.co++auts c.rq) E (by rw[Lj,zG,zG];omega);refine⟨pl,ps,sa,ts,e1,e2,?_⟩;unfold Y1;rw[if_neg (not_not_intro h.ck),if_neg (not_not_intro k1),e1];simp only[];rw[if_neg (not_not_intro k2),e2]
abbrev mB (c:ZA)(m:Mdl):QO:=(spc (mcC c m)).a
abbrev mL (c:ZA)(m:Mdl):Lf:=QeF (mB c m) (fbs (spc (mcC c m))) (unc c.ev)
section
variable {c:ZA}(h:D25 c)
end
section
variable {c:ZA}
end
section
variable {c:ZA}
end
section
variable {c:ZA}
end
section
variable {c:ZA}
end
section
variable {c:ZA}
end
theorem zh {f:Nat→Bool}{seen:List ByteArray}{k:Nat}(hk:k<5)(hs:nm1 97 k∉seen):Xc seen (evL f k)=0:=by
 unfold Xc;rw[show(evL f k).nm=nm1 97 k from rfl,if_neg (by rw[QaU hk];decide),if_neg hs,if_neg (show ¬((evL f k).fl<0∨4<(evL f k).fl) by rw[show(evL f k).fl=0 from rfl];decide),if_neg (λh=>h.1 O)]
theorem Qkc (f:Nat→Bool):XM ((List.range 5).map (evL f))=0:=by
 have e:(List.range 5).map (evL f)=[evL f 0,evL f 1,evL f 2,evL f 3,evL f 4]:=rfl;have E:∀k,(evL f k).nm=nm1 97 k:=λk=>O;unfold XM;rw[e,if_neg (by simp)];simp only[V8,E];rw[zh (by decide) (by decide),zh (by decide) (by decide),zh (by decide) (by decide),zh (by decide) (by decide),zh (by decide) (by decide)];simp
theorem Qjn:∀n,n<4→((List.range n).map (zZ 109)).Nodup:=by decide
theorem QlC:∀a,a<3→∀b,b<2→zZ 109 a≠zZ 114 b:=by decide
theorem QgA:∀a,a<3→YD (zZ 109 a)=true∧YD (zZ 114 a)=true:=by
 intro a ha;have h:a=0∨a=1∨a=2:=by omega
 rcases h with rfl|rfl|rfl <;> exact⟨by decide,by decide⟩
theorem Qmn:∀n,n<4→∀e∈zH n,∃i,i<n∧e∈J6 i:=by
 intro n E e he;have h:n=0∨n=1∨n=2∨n=3:=by omega
 rcases h with rfl|rfl|rfl|rfl
 ·cases he
 ·exact⟨0,by decide,he⟩
 ·simp only[zH,List.take,List.mem_cons,List.not_mem_nil,or_false]at he;rcases he with rfl|rfl|rfl
  ·exact⟨0,by decide,by decide⟩
  ·exact⟨1,by decide,by decide⟩
  exact⟨1,by decide,by decide⟩
 simp only[zH,List.take,List.mem_cons,List.not_mem_nil,or_false]at he;rcases he with rfl|rfl|rfl|rfl|rfl
 ·exact⟨0,by decide,by decide⟩
 ·exact⟨1,by decide,by decide⟩
 ·exact⟨1,by decide,by decide⟩
 ·exact⟨2,by decide,by decide⟩
 exact⟨2,by decide,by decide⟩
theorem Qi1:∀i,i<3→∀e∈J6 i,e<5:=by
 intro i hi;have h:i=0∨i=1∨i=2:=by omega
 rcases h with rfl|rfl|rfl <;> decide
section
variable {k:ZA}
theorem LnC.d25 (h:LnC k):D25 k:=by
 have E:=h.n;have G:k.co.map (·.nm)=(List.range k.co.length).map (zZ 109):=by
  refine LY (by simp) λi h1 h2=>?_;rw[Ml,Ml,Nh];exact(h.co i (by simpa using h1)).1
 refine⟨?_,by omega,E.2,h.r,λx hx=>?_,λx hx=>?_,?_,by have:=h.x;omega,λx hx=>?_,?_,by rw[h.cs];exact Ll 1,λx hx=>?_⟩
 ·obtain⟨f,e⟩:=h.ev;rw[e];exact⟨O,Qkc f⟩
 ·obtain⟨i,hi,rfl⟩:=LF hx;obtain⟨h1,h2,h3⟩:=h.co i hi;exact⟨by rw[h1];exact(QgA i (by omega)).1,h2,λe he=>Qi1 i (by omega) e (by rw[←h3];exact he)⟩
 ·obtain⟨⟨j,hj,h1⟩,h2,_,h4⟩:=h.rq.each x hx;refine⟨by rw[h1];exact(QgA j (by omega)).2,h2,λe he=>?_⟩;obtain⟨i,hi,h5⟩:=Qmn _ (by omega) e (h4 e he);exact⟨k.co[i]'hi,Li hi,by rw[(h.co i hi).2.2];exact h5⟩
 ·rw[G,Mx];refine⟨Qjn _ (by omega),h.rq.nd,λa ha b hb e=>?_⟩;obtain⟨i,hi,rfl⟩:=Lx.1 ha;obtain⟨x,hx,rfl⟩:=Lx.1 hb;obtain⟨⟨j,hj,h1⟩,_⟩:=h.rq.each x hx;have:=MU.1 hi;exact QlC i (by omega) j hj (by rw[←h1];exact e)
 ·obtain⟨h1,h2,h3⟩:=h.ex x hx;exact⟨by rw[h1];decide,h2,h3⟩
 ·have h1:=h.x
  match k.ex,h1 with
  | [],_=>exact Mw
  | [x],_=>exact M9 _ _
 rw[h.cs]at hx;cases hx
end
structure LwV where
 ns:LN
 ct:Nat
 ad:Option Addr
 n:Nat
 cp:Nat
 x0:Nat
 x1:Nat
 cl:Nat
abbrev Jk (l:LwV):LV:=bys l.ns++[.int .u8 (l.ct:Int),.slice l.ad l.n l.cp,.int .u8 (l.x0:Int),.int .u8 (l.x1:Int),.int .u8 (l.cl:Int)]
structure LwA (w:World)(l:LwV):Prop where
 n:l.ns.length=81
 b:∀n∈l.ns,n<256
 ct:l.ct<256
 x0:l.x0<256
 x1:l.x1<256
 cl:l.cl<256
 r:l.n≤3→∃rs:List PtV,rs.length=l.n∧Zv [] w.heap (.slice l.ad l.n l.cp) l.n 28 (rs.flatMap Yp)
def LwV.ln (l:LwV)(rs:List PtV):LnV:=⟨l.ns,l.ct,.slice l.ad l.n l.cp,rs,l.x0,l.x1,l.cl⟩
theorem LwA.ln {w w':World}{l:LwV}(h:LwA w l)(hs:Step [] w w')(E:l.n≤3):∃rs,LnA [] w'.heap (l.ln rs):=by
 obtain⟨rs,h1,h2⟩:=h.r E;exact⟨rs,h.n,h.b,h.ct,h.x0,h.x1,h.cl,by show Zv _ _ _ rs.length 28 _;rw[h1];exact h2.ext hs⟩
theorem Qnc {l:LwV}(h:l.ns.length=81):(Jk l)[82]?=some (.slice l.ad l.n l.cp):=by
 show(Jk l)[81+1]?=_;rw[Jk,Mf (by rw[ZG];omega),ZG,h,Mv];rfl
section
variable {H:Type}{enc:TypeId×Value→H}{P:Program}{W:World}{base b0:Nat}{sp:Nat→Bool}{held:Bool}
theorem Qml {t e:TypeId}{c:Value}{fuel:Nat}{x:DataW H×List MemPlace}(ht:P.underlying t=some (.slice e))(he:kT P .u8 5 e=true)(hc:P.cellsOf e=28)
  (V:Cell.okWide P W .any base t c) (Y:DataW.trod enc P W b0 sp held fuel t [c]=some x):∃a n cp,c=.slice a n cp∧(n≤12→∃u:List PtV,u.length=n∧Zv [] W.heap (.slice a n cp) n 28 (u.flatMap Yp)):=by
 rcases DataW.trod_slice ht Y with⟨E,_⟩|⟨a,len,cap,elems,rest,m,_,E,_,_,hl,_,hk,ha,_,_⟩
 ·simp at E;subst E;exact⟨none,0,0,O,λ_=>⟨[],O,Zv.nil _ _ _⟩⟩
 simp at E;subst E;refine⟨some a,len,cap,O,λhm=>?_⟩;have each:∀i,i<len→∃d:PtV,∀r v,(Yp d)[r]?=some v→W.cell? (a.add (i*28+r))=some v:=by
  intro i hi;have I:=ha i hi;rw[hc,Lz (show i<elems.length by omega)]at I;obtain⟨cs,E,hb⟩:=Mg.1 I;have hf:=Ks 5 he hb;obtain⟨ns,h1,h2,h3⟩:=zB cs (λv G=>Kg (hf v G));unfold World.cells? at E;split at E
  ·have hn:cs.length=28:=by
    simpa using(Ko E).1
   refine⟨⟨ns,by omega,h3⟩,λr v G=>?_⟩;have hv':cs[r]?=some v:=by rw[h1];exact G
   have hg:r<28:=by have:=(LS.1 hv').1;omega
   have h4:=(Ko E).2 r r (by simp[hg]);rw[Lg.Addr.add_add,hv']at h4;exact h4
  cases E
 obtain⟨u,J,hu⟩:=Qcp len each;refine⟨u,J,?_⟩;have T:(u.flatMap Yp).length=u.length*28:=Go.Lg.Kx Yp 28 jB u;refine⟨by rw[T,J],by omega,.inr ⟨a,cap,rfl,by omega,λ_ _=>by simp,λ_ _=>Qdj ht V,λj v G=>?_⟩⟩;have hj:j<u.length*28:=by
  rw[←T];exact(LS.1 G).1
 have hi:j / 28<u.length:=by omega
 have hh:=Jl Yp 28 jB u (j / 28) hi;have U:j=j / 28*28+j % 28:=by omega
 have h3:(Yp (u[j / 28]'hi))[j % 28]?=some v:=by
  rw[←hh,L1,if_pos (Nat.mod_lt _ (by omega)),MB,←U];exact G
 rw[←Xg];have:=hu (j / 28) hi (j % 28) v h3;rw[←U]at this;exact this
end
section
variable {H:Type}{enc:TypeId×Value→H}{P:Program}{W:World}{base b0:Nat}{sp:Nat→Bool}{held:Bool}
theorem Qfe {v:Value}{d:DataW H}{ps:List MemPlace}{t tp te:Nat}{f0 f1 f2 f3 E:Field}(hu:P.underlying t=some (.struct #[f0,f1,f2,f3,E]))(U:(P.cellTypes P.depth t).map (λts=>(ts.length,ts[82]?))=some (86,some tp))(hc:P.cellsOf t=86)
  (ho:f2.type=tp) (o0:f0.offset=0) (o1:f1.offset=81) (o2:f2.offset=82) (o3:f3.offset=83) (o4:E.offset=85) (c0:P.cellsOf f0.type=81) (c1:P.cellsOf f1.type=1) (c2:P.cellsOf tp=1) (c3:P.cellsOf f3.type=2) (c4:P.cellsOf E.type=1)
  (k0:kT P .u8 5 f0.type=true) (k1:kT P .u8 5 f1.type=true) (k3:kT P .u8 5 f3.type=true) (k4:kT P .u8 5 E.type=true) (hp:P.underlying tp=some (.slice te)) (hq:kT P .u8 5 te=true) (hr:P.cellsOf te=28)
  (V:Value.okWide P W .any base t v) (h:DataW.Trod enc P W b0 sp held t v d ps):∃l:LwV,v=.agg (Jk l).toArray∧LwA W l:=by
 simp only[Value.okWide,hu]at V;obtain⟨cs,rfl,Y,ts,hs,_,ht⟩:=V;rw[hs]at U;have ha:=Option.some.inj U;have hv:ts.length=86:=congrArg Prod.fst ha;have hw:ts[82]?=some tp:=congrArg Prod.snd ha;rw[hc]at Y;obtain⟨l⟩:=cs;have hl:l.length=86:=Y;obtain⟨fuel,hf⟩:=h;obtain⟨xs,m,_,_,_,G,hy⟩:=DataW.trod_struct hu hf
 have I:∀(i:Nat) (f:Field),(#[f0,f1,f2,f3,E]:Array Field)[i]?=some f→DataW.trod enc P W b0 sp held m f.type ((l.drop f.offset).take (P.cellsOf f.type))=xs[i]?:=hy;have hD:xs.length=5:=G;have g0:∀c∈l.take 81,∃n:Nat,c=.int .u8 (n:Int)∧n<256:=λc hm=>by
  obtain⟨j,hj,hb⟩:=LF hm;have hE:j<81:=by simp at hj;omega
  have hz:l[j]?=some c:=by
   rw[MY]at hb;rw[Lz (by omega),hb]
  exact Kg (Xp G I (i:=0) (f:=f0) O k0 (by omega) (by omega) hz)
 obtain⟨ns,e1,e2,e3⟩:=zB _ g0;have h0:ns.length=81:=by rw[e2];simp;omega
 have J:∀j,j<86→∃c,l[j]?=some c:=λj hj=>⟨l[j]'(by omega),Lz (by omega)⟩;obtain⟨h1,he⟩:=J 81 (by omega);obtain⟨T,hg⟩:=J 82 (by omega);obtain⟨h2,hh⟩:=J 83 (by omega);obtain⟨h5,hi⟩:=J 84 (by omega);obtain⟨h6,hk⟩:=J 85 (by omega);have hn:l.drop 81=[h1,T,h2,h5,h6]:=by
  apply Nq;intro i;rw[MB]
  match i with
  | 0=>exact he
  | 1=>exact hg
  | 2=>exact hh
  | 3=>exact hi
  | 4=>exact hk
  | i+5=>rw[M4 (by omega)];rfl
 obtain⟨ct,rfl,h7⟩:=Kg (Xp G I (i:=1) (f:=f1) O k1 (by omega) (by omega) he);obtain⟨y0,rfl,h8⟩:=Kg (Xp G I (i:=3) (f:=f3) O k3 (by omega) (by omega) hh);obtain⟨y1,rfl,h9⟩:=Kg (Xp G I (i:=3) (f:=f3) O k3 (by omega) (by omega) hi);obtain⟨cl,rfl,hA⟩:=Kg (Xp G I (i:=4) (f:=E) O k4 (by omega) (by omega) hk)
 have hB:=QkW ht 82 tp T (by simpa using hg) (by rw[hv];exact hw);have hC:=Qhd (c:=T) I 2 O ho o2 c2 (by rw[←Nx (i:=1) (j:=81),hn];rfl) (by omega);obtain⟨a,n,cp,rfl,hP⟩:=Qml hp hq hr hB hC;refine⟨⟨ns,ct,a,n,cp,y0,y1,cl⟩,?_,h0,e3,h7,h8,h9,hA,λh3=>hP (by have h4:n≤3:=h3;omega)⟩;show Value.agg l.toArray=.agg (bys ns++_).toArray
 rw[←e1,←hn,Mu]
end
set_option maxRecDepth 100000 in
theorem Qny {H:Type}{enc:TypeId×Value→H}{W:World}{base b0:Nat}{sp:Nat→Bool}{held:Bool}{v:Value}{d:DataW H}{ps:List MemPlace}(E:Value.okWide prog W .any base 30 v)(h:DataW.Trod enc prog W b0 sp held 30 v d ps):
  ∃l:LwV,v=.agg (Jk l).toArray∧LwA W l :=
 Qfe underlying30 (tp:=27) (by kernel_rfl) (by kernel_rfl) O O O O O O (by kernel_rfl) (by kernel_rfl) (by kernel_rfl) (by kernel_rfl) (by kernel_rfl) (by kernel_rfl) (by kernel_rfl) (by kernel_rfl) (by kernel_rfl) underlying27 (by kernel_rfl) (by kernel_rfl) E h
abbrev jX (s:Int):QO:=⟨[s,s+1],2,[0],[(0,s,1),(1,s+1,0)]⟩
theorem QdV {w:World}{nm:ByteArray}{s:Int}(hs:0≤s∧s<100):
  QE prog 69 [.string nm,.int .i64 s] w λr w'=>Step [] w w'∧∃va vm ve,r=.agg #[.string nm,va,.int .i64 2,vm,ve]∧ZH [va,vm,ve]∧∀L:LN,(∀b∈L,b<w.heap.size)→Zp L w'.heap va vm ve (jX s):=by
 refine QE.of_W func69 O ntmps69 results69 (by simp) ?_;refine Qc<|xl O<|Qu (us:=[.string .empty,nS,.int .i64 0,nS,nS]) O λb4 w1 U hh V=>xe ?_;refine Qc<|Qb<|Qb<|Qb<|QM O O<|xl O<|QF (us:=[[.int .i64 s],[.int .i64 (s+1)]]) O O (by decide) (by simp) ⟨rfl,rfl,rfl,rfl,Z⟩ λG w2 J hi Y =>
  xl rfl<|QF (us:=[[.int .i64 0]]) O O (by decide) (by simp) ⟨rfl,rfl,Z⟩ λb10 w3 H hj ha=>Qb<|x (QN ⟨rfl,rfl,rfl,Z⟩) <|
  Qb<|QM rfl O<|x (QN ⟨O,O,O,Z⟩)<|xl O<|QF (us:=[QD (0,s,1),QD (1,s+1,0)]) O O (by decide) (show 2*3≤1000000 by omega) ⟨O,O,O,O,Z⟩ λb16 w4 E hk hc =>
  x (QN ⟨rfl,O,O,O,Z⟩)<|x (Zx [(0,[.string nm]),(1,[.slice (some ⟨G,0,none⟩) 2 2,.int .i64 2,.slice (some ⟨b10,0,none⟩) 1 1,.slice (some ⟨b16,0,none⟩) 2 2])] ⟨O,O,O,O,Z⟩)<|xl O<|Qo (us:=[.string nm,.slice (some ⟨G,0,none⟩) 2 2,.int .i64 2,.slice (some ⟨b10,0,none⟩) 1 1,.slice (some ⟨b16,0,none⟩) 2 2]) (((V.ext J).ext H).ext E) O O O O ⟨O,O,O,O,O,Z⟩ λT I he =>
  xe ?_
 have hl:=U.size;have hn:=J.size;have ho:=H.size;have hp:=E.size;have hq:=V.lt;have hr:=Y.lt;have ht:=ha.lt
 refine Qk ⟨[.agg [.string nm,.slice (some ⟨G,0,none⟩) 2 2,.int .i64 2,.slice (some ⟨b10,0,none⟩) 1 1,.slice (some ⟨b16,0,none⟩) 2 2].toArray],⟨⟨_,O,Qw O (he.at (L:=[]) (by simp)).cells⟩,Z⟩,(((U.trans J).trans H).trans E).then1 I (by omega),_,_,_,rfl,⟨rfl,rfl,rfl,Z⟩,λL hL=>?_⟩
 have k9:QT T.heap G 3 [.int .i64 s,.int .i64 (s+1)]:=(((Y.ext H).ext E)).step I (by simp only[List.mem_singleton];omega);have hf:QT T.heap b10 3 [.int .i64 0]:=((ha.ext E)).step I (by simp only[List.mem_singleton];omega)
 have hg:QT T.heap b16 129 [.int .i64 0,.int .i64 s,.int .i64 1,.int .i64 1,.int .i64 (s+1),.int .i64 0]:=hc.step I (by simp only[List.mem_singleton];omega);have nL:∀{b:Nat},w.heap.size≤b→b∉L:=λhb hm=>by have:=hL _ hm;omega
 exact⟨k9.arr (nL (by omega)) (n:=2) (cap:=2) (sz:=1) O (by omega) (Lt _),hf.arr (nL (by omega)) (n:=1) (cap:=1) (sz:=1) O (by omega) (Lt _),hg.arr (nL (by omega)) (n:=2) (cap:=2) (sz:=3) O (by omega) (Lt _)⟩
abbrev fs1:ByteArray:=⟨#[111,110,101]⟩
abbrev fs2:ByteArray:=⟨#[116,119,111]⟩
abbrev fs3:ByteArray:=⟨#[98,117,102,102,101,114]⟩
abbrev fcE:List Kc:=[⟨⟨#[97]⟩,true,false,false,0⟩,⟨⟨#[98]⟩,false,false,false,0⟩,⟨⟨#[99]⟩,true,false,false,0⟩,⟨⟨#[100]⟩,false,false,false,0⟩]
def JE:ZA:=⟨fcE,[⟨fs1,jX 0⟩,⟨fs2,jX 2⟩],[⟨fs3,jX 1⟩],[],[]⟩
def fcP (N:Nat)(i:Nat)(v:Value)(w:World):Prop :=
 if i=4 then ∃b,v=.slice (some ⟨b,0,none⟩) 4 4∧N≤b∧QT w.heap b 89 (fcE.flatMap Zh)
 else if i=6 then ∃va vm ve,v=.agg #[.string fs1,va,.int .i64 2,vm,ve]∧ZH [va,vm,ve]∧∀L:LN,(∀b∈L,b<N)→Zp L w.heap va vm ve (jX 0)
 else if i=8 then ∃va vm ve,v=.agg #[.string fs2,va,.int .i64 2,vm,ve]∧ZH [va,vm,ve]∧∀L:LN,(∀b∈L,b<N)→Zp L w.heap va vm ve (jX 2)
 else if i=9 then K8 N w.heap v [⟨fs1,jX 0⟩,⟨fs2,jX 2⟩]
 else K8 N w.heap v [⟨fs3,jX 1⟩]
theorem K8.ext {N:Nat}{w w':World}{v:Value}{l:List XC}(h:K8 N w.heap v l)(hs:Step [] w w'):K8 N w'.heap v l:=let⟨qs,h1,h2⟩:=h;⟨qs,h1,λL E=>(h2 L E).ext hs⟩
theorem QjX {N:Nat}:∀i v w w',fcP N i v w→Step [] w w'→fcP N i v w':=by
 intro i v w w' h hs;unfold fcP at h ⊢;by_cases h4:i=4
 ·rw[if_pos h4]at h ⊢;obtain⟨b,e,n,J⟩:=h;exact⟨b,e,n,J.ext hs⟩
 rw[if_neg h4]at h ⊢;by_cases H:i=6
 ·rw[if_pos H]at h ⊢;obtain⟨va,vm,ve,e,o,E⟩:=h;exact⟨va,vm,ve,e,o,λL G=>(E L G).ext hs⟩
 rw[if_neg H]at h ⊢;by_cases I:i=8
 ·rw[if_pos I]at h ⊢;obtain⟨va,vm,ve,e,o,E⟩:=h;exact⟨va,vm,ve,e,o,λL G=>(E L G).ext hs⟩
 rw[if_neg I]at h ⊢;by_cases h9:i=9
 ·rw[if_pos h9]at h ⊢;exact K8.ext h hs
 rw[if_neg h9]at h ⊢;exact K8.ext h hs
theorem K8.one {N:Nat}{H:Array Obj}{v:Value}{l:List XC}(h:K8 N H v l):v.oneCell'=true:=by
 obtain⟨qs,_,h2⟩:=h;exact(h2 [] (by simp)).arr.one
set_option maxHeartbeats 4000000 in
theorem JR (w:World):QE prog 29 [] w λr w'=>Step [] w w'∧Qiq w.heap.size w'.heap r JE:=by
 refine QE.of_W func29 O ntmps29 results29 (by simp) ?_;refine Qc<|xl O<|Qu (us:=YR) O λV T hj h0 hk=>xe ?_;refine Qc<|Qe<|Qc<|xl O<|QF (us:=[[.int .i64 1],[.int .i64 2]]) O O (by decide) (by simp) ⟨rfl,rfl,rfl,rfl,Z⟩ λY w2 hn hT hp=>xl rfl<|QF (us:=[[.int .i64 0]]) rfl rfl (by decide) (by simp) ⟨rfl,rfl,Z⟩ λb4 w3 hh hU hr =>
  x (QN ⟨rfl,O,O,Z⟩)<|x (QN ⟨O,O,O,Z⟩)<|xl O<|QF (us:=[QD (0,1,1),QD (1,2,0)]) O O (by decide) (show 2*3≤1000000 by omega) ⟨O,O,O,O,Z⟩ λb7 w4 ha hV h3 =>
  x (QN ⟨rfl,O,O,O,Z⟩)<|xl O<|Qu (us:=[nS,.int .i64 0,nS,nS]) O λb2 w5 h5 h6 h7=>xl O<|Qo (us:=[.slice (some ⟨Y,0,none⟩) 2 2,.int .i64 2,.slice (some ⟨b4,0,none⟩) 1 1,.slice (some ⟨b7,0,none⟩) 2 2]) h7 O O O O ⟨O,O,O,O,Z⟩ λw6 h8 hD =>
  xe ?_
 have hW:=hj.size;have hX:=hn.size;have hY:=hh.size;have hZ:=ha.size;have hE:=hk.lt;have ga:=hp.lt;have gb:=hr.lt;have hf:Step [] w4 w6:=h5.then1 h8 h6;have hi:=((hn.trans hh).trans ha).trans hf;have hs:=hj.trans hi;have gc:=hs.size;have ge:=hi.size;have hF:=hk.ext hi;have k3:=((hp.ext hh).ext ha).ext hf;have k4:=(hr.ext ha).ext hf
 have k7:=h3.ext hf;have hG:∀{L:LN},(∀b∈L,b<T.heap.size)→Zp L w6.heap (.slice (some ⟨Y,0,none⟩) 2 2) (.slice (some ⟨b4,0,none⟩) 1 1) (.slice (some ⟨b7,0,none⟩) 2 2) (jX 1):=λ{L} E=>by
  have nL:∀{b:Nat},T.heap.size≤b→b∉L:=λhb hm=>by have:=E _ hm;omega
  exact⟨k3.arr (nL (by omega)) (n:=2) (cap:=2) (sz:=1) O (by omega) (Lt _),k4.arr (nL (by omega)) (n:=1) (cap:=1) (sz:=1) O (by omega) (Lt _),k7.arr (nL (by omega)) (n:=2) (cap:=2) (sz:=3) O (by omega) (Lt _)⟩
 refine QX (α:=CL) [(9,22)] (λz=>[]) (λz w'=>Step [] w w'∧QT w'.heap V 37 z.cells∧z.cel=JE∧(∀L:LN,(∀b∈L,b<w.heap.size)→ZJ L w'.heap z)) (by rfl) ?_ ?_
 ·refine Qia (α:=Value×Value×Value) (Step [] w6) [(0,true),(1,true),(2,true),(3,true),(5,true),(7,true),(10,true),(11,true)] (λi=>if i=9 then[6,8]else[]) [4,6,8,9,12] [(13,true),(14,false)] [(13,13),(15,15),(17,18),(21,21)] (fcP T.heap.size)
   (λz=>[(13,z.1),(18,z.2.1),(21,z.2.2)])
   (λz w'=>(∃b,z.1=.slice (some ⟨b,0,none⟩) 4 4∧T.heap.size≤b∧QT w'.heap b 89 (fcE.flatMap Zh))∧K8 T.heap.size w'.heap z.2.1 [⟨fs1,jX 0⟩,⟨fs2,jX 2⟩]∧K8 T.heap.size w'.heap z.2.2 [⟨fs3,jX 1⟩])
   mixed (by rfl) (by kernel_rfl) (Step.drew _ _) (λ_ _ h1 h2=>h1.trans h2) QjX ?_ ?_
  ·rintro g w' ⟨h4,_,_,h9,U,_⟩ gg;exact⟨(g 13,g 18,g 21),⟨O,O,O,Z⟩,h4,h9,U⟩
  refine p (λ_=>QN ⟨O,O,Z⟩)<|p (λ_=>QN La)<|p (λ_=>QN ⟨O,O,Z⟩)<|p (λ_=>QN La) <|
   p (λ_=>Qm)<|p (λ_=>Qm)<|pq (λ_ hc=>Qn (hD.ext hc) O O)<|p (λ_=>Zx [(0,[.string fs3]),(1,[.slice (some ⟨Y,0,none⟩) 2 2,.int .i64 2,.slice (some ⟨b4,0,none⟩) 1 1,.slice (some ⟨b7,0,none⟩) 2 2])] ⟨O,O,O,O,Z⟩) <|
   pe ⟨⟨?_,?_,?_,?_,?_,Z⟩,?_⟩
  ·intro g w' hc _;have hz:=hc.size;exact QF (us:=[Zh ⟨⟨#[97]⟩,true,false,false,0⟩,Zh ⟨⟨#[98]⟩,false,false,false,0⟩,Zh ⟨⟨#[99]⟩,true,false,false,0⟩,Zh ⟨⟨#[100]⟩,false,false,false,0⟩]) O O (by decide) (show 4*5≤1000000 by omega) ⟨O,O,O,O,O,O,O,O,Z⟩ λb w7 G hb H=>⟨G,⟨b,O,by omega,H⟩,λc J=>by rw[Lb.1 (show c∈[b] from J)];exact⟨hb,H.lt⟩⟩
  ·intro g w' hc _;have hz:=hc.size;refine xc (first:=[]) (capt:=[]) O<|(QdV (nm:=fs1) (s:=0) (by omega)).mono ?_;rintro r w7 ⟨G,va,vm,ve,rfl,ho,hA⟩;exact⟨G,⟨va,vm,ve,O,ho,λL E=>hA L (λb hb=>by have:=E b hb;omega)⟩,λc J=>by cases J⟩
  ·intro g w' hc _;have hz:=hc.size;refine xc (first:=[]) (capt:=[]) O<|(QdV (nm:=fs2) (s:=2) (by omega)).mono ?_;rintro r w7 ⟨G,va,vm,ve,rfl,ho,hA⟩;exact⟨G,⟨va,vm,ve,O,ho,λL E=>hA L (λb hb=>by have:=E b hb;omega)⟩,λc J=>by cases J⟩
  ·rintro g w' hc ⟨⟨va,vm,ve,e6,o6,hH⟩,⟨va',vm',ve',e8,o8,hI⟩,_⟩;have hz:=hc.size;refine QF (us:=[Zi ⟨fs1,⟨va,vm,ve,jX 0⟩⟩,Zi ⟨fs2,⟨va',vm',ve',jX 2⟩⟩]) O O (by decide) (show 2*5≤1000000 by omega) ⟨congrArg Value.cells e6,O,congrArg Value.cells e8,O,Z⟩ λb w7 G hb H=>⟨G,?_,λc J=>by rw[Lb.1 (show c∈[b] from J)];exact⟨hb,H.lt⟩⟩
   refine⟨[⟨fs1,⟨va,vm,ve,jX 0⟩⟩,⟨fs2,⟨va',vm',ve',jX 2⟩⟩],O,λL E=>⟨H.arr (λhm=>by have:=E _ hm;omega) (n:=2) (cap:=2) (sz:=5) O (by omega) (Lt _),λq hq=>?_,λq hq=>?_⟩⟩
   ·simp only[List.mem_cons,List.not_mem_nil,or_false]at hq;rcases hq with rfl|rfl
    ·exact(hH L E).ext G
    exact(hI L E).ext G
   simp only[List.mem_cons,List.not_mem_nil,or_false]at hq;rcases hq with rfl|rfl
   ·exact YZ (by decide)
   exact YZ (by decide)
  ·intro g w' hc _;have hz:=hc.size;refine QF (us:=[Zi ⟨fs3,⟨.slice (some ⟨Y,0,none⟩) 2 2,.slice (some ⟨b4,0,none⟩) 1 1,.slice (some ⟨b7,0,none⟩) 2 2,jX 1⟩⟩]) O O (by decide) (show 1*5≤1000000 by omega) ⟨O,O,Z⟩ λb w7 G hb H=>⟨G,?_,λc J=>by rw[Lb.1 (show c∈[b] from J)];exact⟨hb,H.lt⟩⟩
   refine⟨[⟨fs3,⟨.slice (some ⟨Y,0,none⟩) 2 2,.slice (some ⟨b4,0,none⟩) 1 1,.slice (some ⟨b7,0,none⟩) 2 2,jX 1⟩⟩],O,λL E=>⟨H.arr (λhm=>by have:=E _ hm;omega) (n:=1) (cap:=1) (sz:=5) O (by omega) (Lt _),λq hq=>?_,λq hq=>?_⟩⟩
   ·simp only[List.mem_singleton]at hq;subst hq;exact((hG E).ext hc).ext G
   simp only[List.mem_singleton]at hq;subst hq;exact YZ (by decide)
  rintro⟨v1,v2,v3⟩ g w9 ht ⟨⟨b,e,n,H⟩,h9,U⟩;simp only[]at e h9 U;subst e;have hJ:=hF.ext ht;refine p (λ_=>Zx [(0,[.slice (some ⟨b,0,none⟩) 4 4]),(1,[v2]),(2,[v3])] ⟨O,O,XQ (K8.one h9),O,XQ (K8.one U),O,Z⟩)<|pkl (hl:=by kernel_rfl)<|Qo (us:=[.slice (some ⟨b,0,none⟩) 4 4,v2,v3,nS,nS]) hJ O O O O ⟨O,K8.one h9,K8.one U,O,O,Z⟩ λhu hg hK=>pe ?_;obtain⟨q9,e9,hM⟩:=h9
  obtain⟨hv,hN,hO⟩:=U;refine⟨⟨.slice (some ⟨b,0,none⟩) 4 4,v2,v3,nS,nS,fcE,q9,hv,[],[]⟩,Z,(hs.trans ht).then1 hg h0,hK,?_,λL E=>?_⟩
  ·show ZA.mk fcE (q9.map IV.it) (hv.map IV.it) [] []=_;rw[e9,hN];rfl
  have hw:∀I∈V::L,I<T.heap.size:=λI hb'=>by
   rcases Lc.1 hb' with rfl|hb'
   ·exact hE
   have:=E I hb';omega
  have m1:∀I∈[V],I∈V::L:=λI hb'=>by simp only[List.mem_singleton]at hb';simp[hb']
  have hy:∀I∈L,I∈V::L∨hu.heap.size≤I:=λI hb'=>.inl (Lk _ hb');have hP:QT hu.heap b 89 (fcE.flatMap Zh):=H.step hg (by simp only[List.mem_singleton];omega)
  refine⟨⟨hP.arr (λhm=>by have:=E _ hm;omega) (n:=4) (cap:=4) (sz:=5) O (by omega) (Lt _),λe he=>?_⟩,((hM _ hw).st (hg.mono m1)).up hy,((hO _ hw).st (hg.mono m1)).up hy,⟨Zv.nil _ _ 2,λq hq=>(by cases hq),λq hq=>(by cases hq)⟩,⟨Zv.nil _ _ 3,λq hq=>(by cases hq),λq hq=>(by cases hq)⟩⟩;simp only[List.mem_cons,List.not_mem_nil,or_false]at he
  rcases he with rfl|rfl|rfl|rfl <;> exact YZ (by decide)
 rintro c g w9 ⟨hQ,hR,hS,hC⟩;refine Qk ⟨[_],⟨⟨_,O,Qw O (hR.at (L:=[]) (by simp)).cells⟩,Z⟩,hQ,c,rfl,hS,hC⟩
theorem Ql0:X7 JE=0:=by kernel_rfl
theorem Ql1:(Vu JE).ps=true:=by kernel_rfl
theorem Ql2:(Vu JE).nc=true:=by kernel_rfl
theorem QjZ:(Vu JE).sts.length=1:=by kernel_rfl
theorem QjY:decide (1<(Vu JE).tg)=true:=by kernel_rfl
theorem Qj1:pmE JE [0,1]=0:=by kernel_rfl
theorem Qj0:pmL JE [0,1]=[2]:=by kernel_rfl
theorem Qj3:mrE JE [0,1] 0=0:=by kernel_rfl
theorem Qj2:mrL JE [0,1] 0=[0]:=by kernel_rfl
theorem Qj5:cmE JE false=0:=by kernel_rfl
theorem Qj4:(cmW (Xe JE) (K9 JE)).isNone=true:=by kernel_rfl
theorem Qhq {w:World}{c:CL}(hC:ZJ [] w.heap c)(G:c.cel=JE)(H:Kb w 4096):
  QE prog 10 [c.val] w λr w'=>Step [] w w'∧∃ev f1 f2 vw vs tg,r=.tuple #[.agg #[.bool true,.int .i64 ev,.int .i64 f1,.int .i64 f2,.bool true,vw,vs,.int .i64 tg],.int .i64 0]∧ZH [vw,vs]∧(∃s,QH [] w'.heap vs [s])∧1<tg:=by
 refine(Qc4 hC H).mono ?_;rintro r w' ⟨hs,us,rfl,_,U,I⟩;rw[G,Ql0]at *;obtain⟨vw,vs,rfl,J,E⟩:=I O;rw[Ql1,Ql2]at *;have hl:=QjZ;obtain⟨s,T⟩:∃s,(Vu JE).sts=[s]:=by
  match (Vu JE).sts,hl with
  | [s],_=>exact⟨s,O⟩
 rw[T]at E;exact⟨hs,_,_,_,vw,vs,_,O,⟨QK J,QK E,Z⟩,⟨s,Qt.ints E (by simp) (by simp)⟩,of_decide_eq_true QjY⟩
theorem Qho {w:World}{c:CL}{v:Value}(hC:ZJ [] w.heap c)(E:c.cel=JE)(G:QH [] w.heap v [0,1])(H:Kb w 4096):
  QE prog 16 [c.val,v] w λr w'=>Step [] w w'∧∃v',r=.tuple #[v',.int .i64 0]∧QH [] w'.heap v' [2]:=by
 refine(Qac hC G H).mono ?_;rintro r w' ⟨hs,v',rfl,_,I⟩;rw[E,Qj1]at *;have h1:=I O;rw[Qj0]at h1;exact⟨hs,v',O,Qt.ints h1 (by simp) (by simp)⟩
theorem Qhn {w:World}{c:CL}{v:Value}(hC:ZJ [] w.heap c)(E:c.cel=JE)(G:QH [] w.heap v [0,1])(H:Kb w 4096):
  QE prog 17 [c.val,v,.int .i64 0] w λr w'=>Step [] w w'∧∃v',r=.tuple #[v',.int .i64 0]∧QH [] w'.heap v' [0]:=by
 refine(jI hC G 0 H).mono ?_;rintro r w' ⟨hs,v',rfl,_,I⟩;rw[E,Qj3]at *;have h1:=I O;rw[Qj2]at h1;exact⟨hs,v',O,Qt.ints h1 (by simp) (by simp)⟩
theorem Qhp {w:World}{c:CL}(hC:ZJ [] w.heap c)(E:c.cel=JE)(G:Kb w 4096):
  QE prog 11 [c.val,.bool false] w λr w'=>Step [] w w'∧∃v,r=.tuple #[v,.bool true,.int .i64 0]:=by
 refine(Qc3 hC G).mono ?_;rintro r w' ⟨hs,v,e,rfl,H⟩;rw[E,Qj5]at *;have h1:=H O;rw[Qj4]at h1;subst h1;exact⟨hs,v,O⟩
abbrev rpF (ev f1 f2:Int)(vw vs:Value)(tg:Int):LV:=[.bool true,.int .i64 ev,.int .i64 f1,.int .i64 f2,.bool true,vw,vs,.int .i64 tg]
set_option maxHeartbeats 4000000 in
theorem qS {w:World}(E:Kb w 4096):QE prog 8 [] w λr w'=>r=.bool true∧Step [] w w':=by
 refine QE.of_W func8 O ntmps8 results8 (by simp) ?_;refine Qc<|Qe<|Qc<|xl O<|xf<|(JR w).mono ?_;rintro r1 w1 ⟨V,⟨c1,rfl,h0,h1⟩⟩;refine xl rfl<|xf<|(Qhq (h1 [] (by simp)) h0 (E.ext V)).mono ?_;rintro r2 w2 ⟨h2,ev,f1,f2,vw,vs,tg,rfl,Y,⟨s,h3⟩,h4⟩
 refine Qb<|x (Qj O O)<|x (Qj O O)<|xl O<|Qu (us:=rp0) O λb1 w3 h5 h6 h7=>xl O<|Qo (us:=rpF ev f1 f2 vw vs tg) h7 O O O O ⟨O,O,O,O,O,Y.1,Y.2.1,O,Z⟩ λw4 h8 h9 =>
  Qe ?_
 have ha:Step [] w2 w4:=h5.then1 h8 h6;have hb:=(V.trans h2).trans ha;refine Qc<|xl O<|xf<|(JR w4).mono ?_;rintro r5 w5 ⟨hc,⟨c5,rfl,hA,hB⟩⟩
 refine xl rfl<|QF (us:=[[.int .i64 0],[.int .i64 1]]) O O (by decide) (by simp) ⟨rfl,rfl,rfl,rfl,Z⟩ λhV w6 I hW hC=>xl rfl<|xf<|(Qho ((hB [] (by simp)).ext I) hA (hC.arr (by simp) (n:=2) (cap:=2) (sz:=1) rfl (by omega) (Lt _)) (((E.ext hb).ext hc).ext I)).mono ?_;rintro r7 w7 ⟨hD,v3,rfl,hE⟩;refine Qb<|x (Qj O O)<|x (Qj O O)<|x Qf<|Qe ?_
 have he:=(hc.trans I).trans hD;have hf:=hb.trans he;refine Qc<|xl O<|xf<|(JR w7).mono ?_;rintro r8 w8 ⟨hg,⟨c8,rfl,hF,hG⟩⟩
 refine xl rfl<|QF (us:=[[.int .i64 0],[.int .i64 1]]) O O (by decide) (by simp) ⟨rfl,rfl,rfl,rfl,Z⟩ λhX w9 J hY hH=>xl rfl<|xf<|(Qhn ((hG [] (by simp)).ext J) hF (hH.arr (by simp) (n:=2) (cap:=2) (sz:=1) rfl (by omega) (Lt _)) (((E.ext hf).ext hg).ext J)).mono ?_;rintro hZ hI ⟨hJ,v5,rfl,hK⟩;refine Qb<|x (Qj O O)<|x (Qj O O)<|x Qf<|Qe ?_
 have T:=(hg.trans J).trans hJ;have hh:=hf.trans T;refine Qc<|xl O<|xf<|(JR hI).mono ?_;rintro ga gb ⟨hi,⟨gc,rfl,hL,hM⟩⟩;refine xl rfl<|xf<|(Qhp (hM [] (by simp)) hL ((E.ext hh).ext hi)).mono ?_;rintro ge hj ⟨hN,v7,rfl⟩;refine Qb<|x (Qj O O)<|x (Qj O O)<|x (Qj O O)<|x Qf<|x Qf<|Qe ?_;have G:=hi.trans hN;have hO:=hh.trans G
 have hk:=(he.trans T).trans G;have H:=h9.ext hk;have hP:QH [] hj.heap vs [s]:=(h3.ext ha).ext hk;have hl:=(hE.ext T).ext G;have hm:=hK.ext G;refine QX (α:=Unit) [(0,0),(33,88)] (λz=>[(0,.bool true)]) (λz w'=>Step [] hj w') (by rfl) ?_ ?_
 ·refine Qx<|Qb<|xb (Zl O O) (λhn=>?_) (λhn=>absurd O hn);refine Qb<|x (Qa O)<|x (Qd (u:=.bool true) H O O)<|x (Qq O)<|Qb<|x (Qa O)<|x (Qd (u:=.bool true) H O O)<|x (Qq O)<|Qb<|x (Qa O)<|x (Qd H O O)<|x (Qr hP O)<|xb (Zl O O) (λhp=>?_) (λhp=>absurd O hp);refine x (Qq O)<|Qb<|x (Qa O)<|x (Qd H O O)<|xb (ZL O O) (λhq=>?_) (λhq=>absurd h4 hq)
  refine x (Qq O)<|Qb<|Qb<|xb (Zl O O) (λhr=>?_) (λhr=>absurd O hr);refine x (Qq O)<|Qb<|Qb<|xl O<|QF (us:=[[.int .i64 2]]) O O (by decide) (by simp) ⟨rfl,rfl,Z⟩ λgg gh hs gi hQ=>xl rfl<|xf<|(Ui (hl.ext hs) (jL (L:=[]) hQ (by simp))).mono ?_;rintro gj gk ⟨rfl,hR⟩;have U:=hs.trans hR
  refine x (Qq O)<|Qb<|Qb<|x (Qr (hl.ext U) O)<|xb (Zl O O) (λht=>?_) (λht=>absurd O ht);refine x (Qq O)<|Qb<|Qb<|xb (Zl O O) (λhu=>?_) (λhu=>absurd O hu);refine x (Qq O)<|Qb<|Qb<|xl O<|QF (us:=[[.int .i64 0]]) O O (by decide) (by simp) ⟨rfl,rfl,Z⟩ λgl gm hv gn hS=>xl rfl<|xf<|(Ui ((hm.ext U).ext hv) (jL (L:=[]) hS (by simp))).mono ?_;rintro go gq ⟨rfl,hT⟩
  have hw:=(U.trans hv).trans hT;refine x (Qq O)<|Qb<|Qb<|x (Qr (hm.ext hw) O)<|xb (Zl O O) (λhy=>?_) (λhy=>absurd O hy);refine x (Qq O)<|Qb<|Qb<|xb (Zl O O) (λhz=>?_) (λhz=>absurd O hz);refine x (Qq O)<|Qb<|Qb<|x (Qq O)<|Qe ?_;exact⟨(),La,hw⟩
 rintro z g gr hU;exact Qk ⟨[.bool true],La,O,hO.trans hU⟩
set_option maxRecDepth 100000 in
set_option maxHeartbeats 8000000 in
theorem Qcr {w:World}{l:PwV}{m:LwV}{fg:Bool}(hl:PwA w l)(hm:LwA w m)(hi:Kb w 4096):
  QE prog 7 [.agg (Xo l).toArray,.agg (Jk m).toArray,.bool fg] w λr w'=>r=.bool true∧Step [] w w':=by
 have gs:=Qnc hm.n;have hF:(Xo l).length=152:=Qlw (l:=l.pl []) hl.n;have gt:(Jk m).length=86:=QgN (l:=m.ln []) hm.n;refine QE.of_W func7 O ntmps7 results7 (by simp) ?_;refine Qc<|xl O<|QQ (us:=Xo l) O λb2 w1 gu mw gv=>xl O<|QQ (us:=Jk m) O λb3 w2 hG mx hH=>Qe ?_;have hj:=gu.trans hG;have hI:=gv.ext hG
 refine Qg<|QX (α:=Bool) [(18,30)] (λz=>[(30,.bool z)]) (λz w'=>Step [] w2 w'∧(z=false→l.n≤4∧m.n≤3)) (by rfl) ?_ ?_
 ·refine Qx<|xl O<|xf<|(qS (hi.ext hj)).mono ?_;rintro r3 w3 ⟨rfl,I⟩;refine x (Zq O)<|Qb<|x (Qn (hI.ext I) O hF)<|xl O<|xf<|(Qic (l:=l) ⟨hl.n,hl.b,hl.f0,hl.f1,hl.f2,hl.bd,λhn=>by
   obtain⟨rs,h1,h2⟩:=hl.r hn;exact⟨rs,h1,(h2.ext hj).ext I⟩⟩).mono ?_
  rintro r4 w4 ⟨rfl,ho⟩;refine xB (Zq O) (λhJ=>?_) (λhJ=>?_)
  ·refine x (Qq O)<|Qb<|xs O<|xs O<|xs O<|xs O<|x (Qq O)<|xe ?_;exact⟨true,La,I.trans ho,λh=>by cases h⟩
  have hp:l.n≤4:=by simpa using hJ
  refine x (Qq O)<|Qb<|x (Qa O)<|x (Qd ((hH.ext I).ext ho) O gs)<|x (qI O)<|x (ZL O O)<|x (Qq O)<|xe<|⟨decide ((3:Int)<(m.n:Int)),La,I.trans ho,λh=>⟨hp,?_⟩⟩;have:=of_decide_eq_false h;omega
 rintro z g Y ⟨hr,hz⟩;have J:=hj.trans hr;refine QY rfl (λhK=>?_) (λhK=>?_)
 ·refine Qc<|xl O<|xf<|(qS (hi.ext J)).mono ?_;rintro r6 w6 ⟨rfl,gx⟩;refine Qe ?_;exact Qk ⟨[_],La,O,J.trans gx⟩
 obtain⟨hp,gy⟩:=hz hK;refine Qi<|Exists.elim (hl.pl J hp) λrs gz=>?_;refine Qg<|Qg<|QV (Step [] Y) [(0,true),(2,true),(6,true),(1,false),(3,false),(4,false),(5,true)] mixed (by rfl) (by kernel_rfl) (Step.drew _ _) ?_;refine pq (λ_ hc=>Qn ((hI.ext hr).ext hc) O hF)<|pq (λ_ hc=>Qn ((hH.ext hr).ext hc) O gt)<|p (λ_=>Qm)<|pk<|xf<|(QeS (w:={ Y with drawn:=Y.drawn+1 }) gz.1).mono ?_
 rintro r7 w7 ⟨g0,_,⟨c,rfl,rfl,hC⟩,g1⟩;have ht:Step [] Y w7:=(Step.drew _ _).trans g0;refine⟨ht,?_⟩;refine Exists.elim (hm.ln (J.trans ht) gy) λts g2=>?_;refine pk<|xf<|(Qco g2).mono ?_;rintro r8 w8 ⟨hL,_,⟨d,rfl,rfl,hD⟩,g3⟩;have hu:=ht.trans hL;refine⟨hu,?_⟩
 refine pk<|QF (us:=[c.cells,d.cells]) O O (by decide) (by exact(by decide:2*5≤1000000)) ⟨O,O,O,O,Z⟩ λg4 w9 ha my g5=>⟨hu.trans ha,?_⟩;have g6:=hu.trans ha;have g7:=J.trans g6;have hM:∀w',Step [] w9 w'→Zv [] w'.heap (.slice (some ⟨g4,0,none⟩) 2 2) [c,d].length 5 ([c,d].flatMap CL.cells):=λw' hs=>(g5.ext hs).arr (by simp) rfl (by simp) (Lt 2)
 have g8:∀q∈[c,d],ZJ [] w9.heap q∧D25 q.cel:=λq hq=>by
  rcases Lc.1 hq with rfl|hq
  ·exact⟨((hC [] (by simp)).ext hL).ext ha,g1⟩
  rw[Lb.1 hq];exact⟨(hD [] (by simp)).ext ha,g3.d25⟩
 refine p (λ_=>Qr (hM w9 (Step.refl _ _)) O)<|pe ?_;refine Qh<|QA (α:=Nat) [(6,6),(8,17),(38,101)] (λz=>[(38,.int .i64 z)]) (λz w'=>z≤2∧Step [] w9 w') (λz=>2 - z) (by rfl) 0 La ⟨by omega,Step.refl _ _⟩ ?_;rintro k g hN ⟨hk,T⟩;have hO:=g7.trans T;refine Qc<|x (Qz O O)<|xe<|Qg<|QC O (λhP=>?_) (λhP=>?_)
 ·refine Qy<|Qc<|Qe ?_;exact Qk ⟨[.bool true],La,O,hO⟩
 have g9:k<2:=by have hv:(k:Int)<(2:Int):=hP;omega
 have hy:k<[c,d].length:=g9;refine Qi<|Qg<|Qh<|Qc<|xig (g:=CL.cells) (i:=k) (λ_=>O) (hM hN T) O O hy λmz hv=>?_;have hQ:=Li hy;refine Zb ([c,d][k]'hy) λq hq=>?_;rw[hq]at hv hQ;obtain⟨ka,hR⟩:=g8 q hQ;have hS:=ka.ext T;have hsp:Y1 q.cel=0:=by obtain⟨_,_,_,_,_,_,e⟩:=Qd1 hR;exact e
 have U:suE q.cel=0:=by obtain⟨_,_,_,_,_,_,e⟩:=Qd1 hR;exact e
 have G:=QhK q.cel fg;refine x (QI hv O O)<|xl O<|Qu (us:=YR) O λb8 m0 kb kc ke=>xl O<|Qo (us:=q.cells) ke O O O O hS.ones λkf kg h0=>xe ?_;have h3:Step [] hN kf:=kb.then1 kg kc;have h4:=hS.ext h3;have h5:=(hi.ext hO).ext h3;refine Qc<|x (Qn h0 O O)<|Qb<|xl O<|xf<|(UR fg h4 h5).mono ?_;rintro m1 hT ⟨he,kh,m2,rfl,ki,kj⟩
 refine Qb<|x (Qj O O)<|x (Qj O O)<|x (Qj O O)<|x Qf<|x Qf<|Qe<|Qc<|x (Qn (h0.ext he) O O)<|xl O<|xf<|(UQ (h4.ext he) (h5.ext he)).mono ?_;rintro m3 h6 ⟨hU,va,rfl,hV⟩;have kk:RA hT.heap.size h6.heap va (X7 q.cel) (Xe q.cel):=hV;refine Exists.elim kk.shape λkn h7=>?_;have hW:=h7.1
 refine Qb<|x (Qj O O)<|x (Qj O O)<|xl O<|Qu (us:=VP) O λhX m4 ko hZ kp=>xl O<|Qo (us:=kn) kp O (show Go.Lg.ev _ _=_ from hW) h7.2.1 O h7.2.2 λga kq gb =>
  Qe ?_
 have E:Step [] h6 ga:=ko.then1 kq hZ;have hf:=he.trans hU;have gc:=h3.trans hf;have ge:=h0.ext hf;have gg:=h4.ext hf;have gh:=h5.ext hf;refine Qg<|Qc<|Qb<|x (Q7 O O)<|xe<|Q4 rfl (λh8=>?_) (λh8=>?_)
 ·have gi:X7 q.cel≠0:=h8;rw[if_pos gi]at G;obtain⟨rfl,rfl⟩:=ki (by rw[G];exact gi);refine Qg<|QX (α:=Unit) [(56,66)] (λz=>[(66,.bool false)]) (λz w'=>w'=ga) (by rfl) ?_ ?_
  ·refine Qx<|Qb<|x (qI O)<|x (Vk O O O)<|Qb<|Qb<|x (Qq O)<|Qb<|Qb<|Qb<|x (Vk O O G)<|x (Qq O)<|xe ?_;exact⟨(),La,O⟩
  rintro⟨⟩ g m5 rfl;refine ZO O<|Qi<|Qy ?_;refine Qx<|QM O O<|Qb<|xe ?_;exact⟨k+1,by omega,La,by omega,(T.trans gc).trans E⟩
 have V:X7 q.cel=0:=Lm.1 h8;have kr:=qh V;have gj:Q2 (own q.cel fg):=by
  unfold own;split
  ·exact kr.2.2.1
  exact(JK V).2
 rw[if_neg (not_not_intro V),if_neg (not_not_intro U),Kq gj (VH U) (.inl rfl)]at G;obtain⟨kt,ku,gk⟩:=kj G;have kv:QH [] hT.heap kh ((cmW (own q.cel fg) (K9 q.cel)).getD []):=by
  cases hw:cmW (own q.cel fg) (K9 q.cel)with
  | none=>rw[ku hw];exact Zv.nil _ _ _
  | some u=>exact(gk u hw).1.ints (by have:=(gk u hw).2;show u.length≤_;omega) (by simp)
 refine Exists.elim (hV.2 V) λxa q1=>Exists.elim q1 λxm q1=>Exists.elim q1 λkw q1=>?_;have kx:=(q1.2 [] (by simp)).ext E;have gl:=Qmi gb hW q1.1;refine Qi<|QX (α:=Value×Value×Value) [(67,72)] (λz=>[]) (λz w'=>Zp [] w'.heap z.1 z.2.1 z.2.2 (own q.cel fg)∧QT w'.heap hX 50 [z.1,.int .i64 (own q.cel fg).st,z.2.1,z.2.2]∧Step [] h6 w') (by rfl) ?_ ?_
 ·refine Qc<|Qb<|xe<|QY O (λh9=>?_) (λh9=>?_)
  ·subst h9;refine Qx<|x (Qn (ge.ext E) O O)<|xl O<|xf<|(z6 (gg.ext E) (gh.ext E) V).mono ?_;rintro m6 m7 ⟨gm,vp,vq,rfl,kz⟩;refine Exists.elim kz.2 λsa H=>Exists.elim H λsm H=>Exists.elim H λse H=>?_;have k0:=H.1;have hg:=H.2 [hX] (λb hb=>by rw[Lb.1 hb];exact gb.lt)
   refine Qb<|x (Qj O O)<|x (Qj O O)<|xl O<|Qo (us:=[sa,.int .i64 (ccA q.cel).st,sm,se]) (gl.ext gm) O (show Go.Lg.ev _ _=_ from k0) O O ⟨hg.al.one,O,hg.mr.one,hg.ed.one,Z⟩ λm8 gn k4=>xe ?_;exact⟨(sa,sm,se),Z,(hg.st gn).up (by simp),k4,(E.trans gm).then1 gn hZ⟩
  subst h9;refine Qi ?_;exact⟨(xa,xm,kw),Z,kx,gl,E⟩
 rintro⟨ya,ym,ye⟩ g m9 ⟨hY,go,hh⟩;simp only[]at hY go;refine Qc<|x (Qn (ge.ext hh) O O)<|xl O<|xf<|(Js (gg.ext hh) (gh.ext hh)).mono ?_;rintro pa k5 ⟨k6,sa,sm,se,rfl,hA,_,k7⟩;rw[if_pos hsp,U];have k8:=k7 U [] (by simp)
 refine Qb<|x (Qj O O)<|x (Qj O O)<|xl O<|Qu (us:=VP) O λpc pd k9 ma mc=>xl O<|Qo (us:=[sa,.int .i64 (K9 q.cel).st,sm,se]) mc O O O O ⟨hA.1,O,hA.2.1,hA.2.2.1,Z⟩ λmf mg mh =>
  Qe ?_
 have gq:Step [] k5 mf:=k9.then1 mg ma;have hB:=k6.trans gq;refine Qc<|x (Qn (go.ext hB) O O)<|x (Qn mh O O)<|xl O<|xf<|(Qe5 (hY.ext hB) (k8.ext gq) gj (VH U)).mono ?_;rintro pf mj ⟨mo,pg,rfl,mq⟩;refine Qb<|x (Qj O O)<|x (Qj O O)<|x Qf<|Qe ?_;have gr:=(hh.trans hB).trans mo;have ms:=hU.trans gr;subst kt
 refine QX (α:=Bool) [(84,100)] (λz=>[(100,.bool z)]) (λz w'=>z=false∧Step [] mj w') (by rfl) ?_ ?_
 ·refine Qx<|Qb<|x (Vk O O G)<|Qb<|Qb<|x (Vk O O O)<|x (Qq O)<|Qb<|Qb<|Qb<|xl O<|xf<|(Ui (kv.ext ms) mq).mono ?_;rintro mt ph ⟨hE,mu⟩
  replace hE:mt=.bool true:=hE.trans (congrArg Value.bool (decide_eq_true O));subst hE;refine x (Zq O)<|x (Qq O)<|Qb<|Qb<|Qb<|x (qH O O)<|x (Qq O)<|xe ?_;exact⟨_,La,by simp,mu⟩
 rintro z g pj ⟨rfl,mv⟩;refine ZO rfl<|Qi<|Qx<|QM O O<|Qb<|xe ?_;exact⟨k+1,by omega,La,by omega,(T.trans gc).trans (gr.trans mv)⟩
theorem YV {a b:Bool}(h1:a=true)(h2:b=true):(a && b)=true:=by rw[h1,h2];rfl
theorem jP {P:Program}{f:FuncId}{fn:Func}{s:ChangeSpec}{c:OpenClaim}(h1:(c.wf (OpenSpec.ofChange s))=true)(h2:(laidOutB P)=true)(h3:(mapsRowed P)=true)(h4:(fn.params.all (P.readableRec ·))=true)(h5:(namedTie P c.named s.vars)=true)(E:((c.stops == []))=true)(G:((P.stops == []))=true)(H:((c.knobs == []))=true)(h9:((P.stopKnobs == []))=true)(I:((c.inPlace == P.inPlace f))=true)(J:((c.unfollowed == P.unfollowed f))=true)(T:((c.recurses == P.recurses f))=true)(U:((c.named == P.varsNamed f))=true)(V:((c.maps == (fn.params.toList++s.plain.varTypes P).any (P.mapsRec ·)))=true)(Y:((c.ifaces == (fn.params.toList++s.plain.varTypes P).any (P.ifacesRec ·)))=true)(ha:((c.mapsOut == P.mapsAmong fn.resultTypes.toList))=true)(hb:((c.loops == (fn.params.toList++s.plain.varTypes P).any (P.loopsFrom ·)))=true)(hc:((c.wideKeys == (fn.params.toList++s.plain.varTypes P++fn.resultTypes.toList).any (P.wideKeysFrom ·)))=true)(he:(s.vars.all (P.varReadable ·))=true)(hf:(fn.resultTypes.all (λt=>P.readableRec t && decide (t<P.types.size)))=true)(hg:((c.ifacesOut == fn.resultTypes.toList.any (P.ifacesRec ·)))=true)(hh:((c.loopsOut == fn.resultTypes.toList.any (P.loopsFrom ·)))=true)(hi:((c.plainKeys == P.plainKeys))=true)(hj:(c.shortTexts.isNone)=true)(hk:(P.stopsHeard)=true)(hl:(P.mayEnter)=true)(hm:((c.lifted == P.liftsFinal))=true)(hn:((P.make == some c.make))=true)(ho:((c.kinds == (if c.domain.isEmpty then[]else fn.params.toList.map λt=>match P.underlying t with|some (.int k)=>some k|_=>none)))=true)(hp:((c.pinned == c.pinnedBy))=true)(hq:((c.veiled == (fn.params.toList++s.plain.varTypes P++fn.resultTypes.toList).any (P.veiledRec ·)))=true)(hr:(c.veiledFits P fn.params.toList (fn.params.toList++s.plain.varTypes P++fn.resultTypes.toList))=true):joinedFacts P f fn s c=true:=by
 unfold joinedFacts;exact(YV (YV (YV (YV (YV (YV (YV (YV (YV (YV (YV (YV (YV (YV (YV (YV (YV (YV (YV (YV (YV (YV (YV (YV (YV (YV (YV (YV (YV (YV (YV h1 h2) h3) h4) h5) E) G) H) h9) I) J) T) U) V) Y) ha) hb) hc) he) hf) hg) hh) hi) hj) hk) hl) hm) hn) ho) hp) hq) hr)
theorem qT:laidOutB prog=true:=by kernel_rfl
theorem QgS:mapsRowed prog=true:=by kernel_rfl
theorem QgU:prog.stopsHeard=true:=by kernel_rfl
theorem QgV:prog.mayEnter=true:=by kernel_rfl
theorem QgT:(false == prog.liftsFinal)=true:=by kernel_rfl
theorem QjE:(prog.make == some Make.cut)=true:=by kernel_rfl
theorem QjI:(Rows.modularComparesRow.inPlace == prog.inPlace 7)=true:=by kernel_rfl
theorem QjH:(Rows.modularComparesRow.unfollowed == prog.unfollowed 7)=true:=by kernel_rfl
theorem QjG:(Rows.modularComparesRow.recurses == prog.recurses 7)=true:=by kernel_rfl
theorem QjF:(Rows.modularComparesRow.named == prog.varsNamed 7)=true:=by kernel_rfl
theorem QlI:Rows.modularComparesRow.wfByText (OpenSpec.ofChange Rows.modularComparesSpec)=true:=by kernel_rfl
theorem QlL:Tryz.pinned.checked.prog.mainIs=some (true, "0087da35e19dff2b1c72cbf1a82bebf57530b191c9b8d180c93c2df9ec22b342".toList):=by kernel_rfl
theorem QlK:prog.funcNamed "overseer/overseerlaw34.ModularCompares" = some 7:=by kernel_rfl
theorem QlM:false=prog.looks []:=by kernel_rfl
theorem QlJ:([73,30,4].all λu=>!prog.wantsStandIn u)=true:=by kernel_rfl
theorem QlN:false=Rows.modularComparesRow.goesBy Tryz.pinned.checked.prog:=by kernel_rfl
end Go.Proofs.YtjcgijbhaemldaaGreatDoor
