/- Merged out of 37 texts. -/
import Derived.Test.YtpfnhheoeaiomaaGreatDoorPad
import Derived.ChangeSame
import Derived.Carry
import Derived.OpenShut
import Derived.RowKit
import Derived.ChangeSlices
import Derived.WideShapes
import Derived.ProofKit
import Derived.ChangeArms
import Derived.Lib.LaidTab
import Derived.Stop.LaidErr
import Derived.MakeChecks
import Derived.Test.YtpfnhheoeaiomaaGreatDoorRows
import Derived.JoinedOf
import Derived.Test.YtpfnhheoeaiomaaGreatDoorCards
import Derived.SevenTiedAt
set_option maxHeartbeats 40000000
set_option maxRecDepth 100000
set_option linter.all false
open Go Go.Lg
open Go.Value renaming int->oB
open Go.IntKind renaming i64->oC
open _root_.List renaming mem_singleton->oF,not_mem_nil->oH,mem_cons->oJ,range->oK,length_singleton->oL,length_append->oM,getD->oO,map_cons->oT,getElem?_eq_getElem->oU,length->oY,all_cons->Oa,size_toArray->Oc,getElem?_append_left->Of,getElem_cons_zero->Oj,nil_append->Ol,length_map->Om,append_assoc->Oq,drop_zero->OA,map_nil->OG
open _root_.Bool renaming and_eq_true->oI
open _root_.Nat renaming zero_add->oX,add_mul->Ok,mul_le_mul->Oz,le_refl->OB,lt_or_ge->OJ
open _root_.Int renaming toNat_natCast->Ox
open Go renaming World->OX,Value->OY,Operand->OZ,Program->O0
open Go.Proofs Go.Proofs.Tryz
open Go.Proofs.Tryz renaming prog->sV
open Go.Proofs.YtpfnhheoeaiomaaGreatDoor
variable {w w' W':OX}{L L' X ds ns:LN}{n t i sz base T N j E m g id B kt ty G hi et off:Nat}{a:QF}{l o u un al rs:LI}{cs us cap capt:LV}{α:Type}{y:OZ}{ve va vm z vt vl vs vk vx v' vb vr vh vo vu vz:OY}{f:Fr}{P:O0}{fn:Func}{c:CL}{s:Int}{es ed:List Ed}{K:xt}{d:xA}{pS:String}{af:xx}{gd:xj}{k':IntKind}{at_:Array Nat}{ops:xz}{q:Prop}{qx:List XV}{ks:List KV}
namespace Go.Lg
structure ItG (c:Nat)(k:Nat)(q:IV):Prop where
 nm:q.nm=⟨#[UInt8.ofNat c]⟩++⟨#[UInt8.ofNat (48+k)]⟩
 g:GdA q.p.a
 e:∀e∈q.p.a.al,e<5
theorem Qhj (k:Nat)(h:k<3):Xn (nmI 99 k)=true/\Xn (nmI 114 k)=true/\Xn (nmI 101 k)=true:=by
 match k,h with
 | 0,_=>decide
 | 1,_=>decide
 | 2,_=>decide
theorem Qfb:∀n,n<4->∀m,m<3->((oK n).map (nmI 99)++(oK m).map (nmI 114)).Nodup:=og
theorem yP {c:Nat}{co:List IV}(h:∀k (E:k<co.length),ItG c k (co[k]'E)):(co.map IV.it).map (·.nm)=(oK co.length).map (nmI c):=by
 apply LZ
 ·simp
 intro i G I;simp only[List.getElem_map,List.getElem_range];exact(h i (ou G)).nm
theorem Qnm {co rq:List IV}(h1:1<=co.length)(h3:co.length<=3)(J:∀k (E:k<co.length),ItG 99 k (co[k]'E))(U:∀e,e∈al↔∃q∈co,e∈q.p.a.al)(hf:rq.length<=2)
  (S:∀k (E:k<rq.length),ItG 114 k (rq[k]'E)/\∀e∈(rq[k]'E).p.a.al,e∈al) (hg:qx.length<=2) (V:(qx.map (·.nm)).Nodup) (Y:∀q∈qx,(∃k,k<2/\q.nm=⟨#[101]⟩++⟨#[UInt8.ofNat (48+k)]⟩)/\q.ls≠[]/\q.ls.length<=3/\XD (co.map (·.p.a.st)) none q.ls=0)
  (hh:ks.length<=1) (ha:∀q∈ks,q.nm=⟨#[107]⟩/\Xk (co.map (·.p.a.st)) q.k=0):D25 ⟨Jg ns 5,co.map IV.it,rq.map IV.it,qx.map XV.x,ks.map KV.k⟩:=by
 have T:szs (co.map IV.it)=co.map (·.p.a.st):=by unfold szs;rw[Mm];rfl
 refine⟨⟨KT ns 5,Qij ns⟩,by simp only[Om];omega,by simp only[Om];omega,by simp only[Om];omega,λx hx=>?_,λx hx=>?_,?_,by simp only[Om];omega,λx hx=>?_,?_,by simp only[Om];omega,λx hx=>?_⟩
 ·obtain⟨q,G,rfl⟩:=Lz.1 hx;obtain⟨k,E,rfl⟩:=LM G;have g:=J k E;exact⟨by show Xn (co[k]'E).nm=true;rw[g.nm];exact(Qhj k oa).1,g.g,g.e⟩
 ·obtain⟨q,G,rfl⟩:=Lz.1 hx;obtain⟨k,E,rfl⟩:=LM G;have g:=S k E;refine⟨by show Xn (rq[k]'E).nm=true;rw[g.1.nm];exact(Qhj k oa).2.1,g.1.g,λe he=>?_⟩;obtain⟨y,hy,hc⟩:=(U e).1 (g.2 e he);exact⟨y.it,LG hy,hc⟩
 ·show((co.map IV.it).map (·.nm)++(rq.map IV.it).map (·.nm)).Nodup;rw[yP J,yP (λk E=>(S k E).1)];exact Qfb _ oa _ oa
 ·obtain⟨q,G,rfl⟩:=Lz.1 hx;obtain⟨⟨k,k1,k2⟩,I,_,g4⟩:=Y q G;refine⟨by show Xn q.nm=true;rw[k2];exact(Qhj k oa).2.2,I,?_⟩;show XD (szs (co.map IV.it)) none q.ls=0;rw[T];exact g4
 ·show((qx.map XV.x).map (·.nm)).Nodup;rw[Mm];exact V
 obtain⟨q,G,rfl⟩:=Lz.1 hx;obtain⟨g1,I⟩:=ha q G;refine⟨by show Xn q.nm=true;rw[g1];decide,?_⟩;show Xk (szs (co.map IV.it)) q.k=0;rw[T];exact I
def flk (l:PlV)(i:Nat):Int:=[l.f0,l.f1,l.f2].getD i 0
theorem Qom {l:PlV}(h:l.ns.length=147)(hi:i<3):(YZ l)[0+148+i*1]?=some (.int .i8 (flk l i)):=by
 rw[show 0+148+i*1=147+(1+i) by omega,QgT h]
 match i,hi with
 | 0,_=>rfl
 | 1,_=>rfl
 | 2,_=>rfl
theorem Qol {H:xw}{l:PlV}(h:PlA L H l)(i:Nat)(hi:i<3):i8R (flk l i):=by
 match i,hi with
 | 0,_=>exact h.f0
 | 1,_=>exact h.f1
 | 2,_=>exact h.f2
theorem Qii (ns:LN):∀e∈Jg ns 5,z7 e.nm:=λe E=>by
 unfold Jg at E;obtain⟨k,_,rfl⟩:=Lz.1 E;unfold Ka;split <;> exact X2 od
theorem Qfg {l:PlV}(h:PlA [] ↑w l):
  QT sV 34 [sT (YZ l)] w λr w'=>sW w w'/\∃k,ym ↑w ↑w' r k/\D25 k:=by
 refine Zf (1+l.ns.getD 5 0 % 3) λn hn=>?_;have hn3:1<=n/\n<=3:=oa
 refine Zn func34 ?_;refine Qc<|Zd (YZ l) λb1 w1 hs1 hb1 pg=>QP Jo λb2 w2 k0 hb2 ph=>xe ?_;have pj:=hs1.D k0;have hl1:=pg.lt;have hl2:=ph.lt;have gx:=pg.I k0;have pn:((l.ns.drop 0).take 5).length=5:=by rw[LA,Mf,h.n];rfl
 have hflt:∀n∈(l.ns.drop 0).take 5,n<256:=λn hn=>h.b n (MK (L3 hn));refine Qc<|Q7 O<|x (Up (us:=bys ((l.ns.drop 0).take 5)) gx O (by rw[Xi];exact pn) (λj u hu=>Qcy (l:=l) (o:=0) (m:=5) j u hu))<|Qw<|(Qb3 (ns:=(l.ns.drop 0).take 5) pn hflt).Y ?_;rintro ve w3 ⟨po,gm⟩;refine Zf (Jg ((l.ns.drop 0).take 5) 5) λev kk=>?_;rw[kk]at gm;refine x (QB ⟨xH gm,Z⟩)<|QP Jo λG w4 hs4 hb3 hB3=>Q0 [ve,Zo,Zo,Zo,Zo] hB3 ⟨Qz gm,O,O,O,O,Z⟩ λw5 hs5 pp =>
  xe ?_
 have pt:sW w3 w5:=hs4.O hs5 hb3;refine Qc<|QP [Zo] λb4 w6 pu hb4 pw=>xe ?_;have pz:=pt.D pu;have gy:=po.D pz;have U:=k0.D gy;have hz3:=po.size;have hz35:=pt.size;have hl3:=pp.lt;have hl4:=pw.lt;have k4:=gx.I gy;have hB36:=pp.I pu;have q5:=QdS (l:=l) h.n (j:=5) oa;have q5l:=XW h.b 5;refine Zf (l.ns.getD 5 0) λcn hcn=>?_;rw[hcn]at q5 q5l hn;refine Qc<|Qr O k4 O q5<|x (qQ (a:=(cn:Int)) (b:=3) O O oa oa)<|x (Z9 (k':=.i64) O ⟨oa,oa⟩)<|QC O O<|Qb<|QV (α:=OY×List IV×OY×LI) [(6,7),(26,55)] (λ_=>[]) (λz w'=>O1 [G,b4] w6 w'/\QK ↑w' G 46 [ve,z.1,Zo,Zo,Zo]/\QK ↑w' b4 47 [z.2.2.1]/\qc ↑w6 w' z.1 z.2.2.1 z.2.1 z.2.2.2/\z.2.1.length=n/\(∀k (S:k<z.2.1.length),ItG 99 k (z.2.1[k]'S))/\z.2.2.2.length<=5*n/\∀e,e∈z.2.2.2↔∃q∈z.2.1,e∈q.p.a.al) oh ?_ ?_
 ·refine Ql<|Qa<|xe<|QW (α:=Nat×OY×List IV×OY×LI) [(6,7),(27,55)] (λz=>[(27,sS z.1)])
   (λz w'=>z.1<=n/\O1 [G,b4] w6 w'/\QK ↑w' G 46 [ve,z.2.1,Zo,Zo,Zo]/\QK ↑w' b4 47 [z.2.2.2.1]/\qc ↑w6 w' z.2.1 z.2.2.2.1 z.2.2.1 z.2.2.2.2/\z.2.2.1.length=z.1/\(∀k (S:k<z.2.2.1.length),ItG 99 k (z.2.2.1[k]'S))/\z.2.2.2.2.length<=5*z.1/\∀e,e∈z.2.2.2.2↔∃q∈z.2.2.1,e∈q.p.a.al)
   (λz=>n - z.1) (0,Zo,[],Zo,[]) La
   ⟨Ln _,O1.Z _ _,hB36,pw,qc.nil,O,λk S=>OS S od,od,od⟩ ?_
  rintro⟨i,vc,co,va,al⟩ g7 w7 ⟨hi,hB,gn,gb,ho,gz,hU,k5,go⟩;simp only[]at hi gn gb ho gz hU k5 go;refine Zi O O (λk6=>?_) (λk6=>?_)
  ·refine Qu ?_;have k9:i=n:=by have h29:¬(i:Int)<1+(cn:Int) % 3:=k6;omega
   exact⟨(vc,co,va,al),Z,hB,gn,gb,ho,oe,hU,oe,go⟩
  have h4:i<n:=by have h29:(i:Int)<1+(cn:Int) % 3:=k6;omega
  have ma:b1∉[G,b4]:=by simp only[oJ,oH,or_false];omega
  have hV:=k4.J hB ma;have qs:=QdS (l:=l) h.n (j:=0+6+i*1) oa;have qsl:=XW h.b (0+6+i*1);refine Zf (l.ns.getD (0+6+i*1) 0) λm hm=>?_;rw[hm]at qs qsl;have mc:=Vy m 5;have g0:=QaO m 5;have gc:=QdK m 5;refine Zf (setK m 5) λsk g2=>?_;rw[g2]at mc g0 gc;refine Qf<|Qe<|Qn<|Ql<|Qb<|Ql<|Q7 O<|x (ZQ (i:=i) O O oa)<|ZA hV O qs<|Qw<|(Vz m qsl _).Y ?_;rintro vs w8 ⟨hg,kn⟩;rw[g2]at kn;refine Qb ?_;have p0:=hg.size;have hC:=ho.I hg;have hI8:=Qh.ints (L:=[]) hC.a oa od;have hJ8:=Qh.ints (L:=[]) kn oa od;refine Qc<|ZA (gb.I hg) O O<|Qa<|Qw<|(Qch hI8 hJ8 oa).Y ?_;rintro p4 w9 ⟨V,p5,hal2,p6,ge⟩;have ko:=hg.D V;have mf:=V.size;have hz7:=hB.size;refine Qo<|Qv (gb.I ko) O O od (Qz ge) λhh hv hB410=>xe ?_;have hl36:G<w6.heap.size:=oa
  have h6:qc ↑w6 w9 vc p4 co p5:=hC.setA (Q8 ge oa) V.any (λb hb=>.inr (Qi ge b hb).1);have hw:=h6.low hv (λb hb=>by rw[Lb.1 hb];omega);have g3:QK ↑hh G 46 [ve,vc,Zo,Zo,Zo]:=(gn.I ko).J hv ol;have mg:=(hV.I ko).J hv ol;have mh:Qt [] ↑hh vs sk:=Qh.ints (L:=[]) (Qg (Qm kn V) hv (λb hb hm=>by have:=(Qi kn b hb).1;rw[Lb.1 hm]at this;omega)) oa od;have hz10:=hv.size;have n3v:G∉ob vc:=QJ hw.c oa;have n1v:b1∉ob vc:=QJ hw.c oa;have gg:=QhW (ns:=l.ns) (o:=0+9+i*27) (oo h.n);have g4:=QlP (o:=0+9+i*27) h.b;have g5:=λj u=>Qcy (l:=l) (o:=0+9+i*27) (m:=27) j u;refine Zf (grN l.ns (0+9+i*27)) λgr h7=>?_;have mj:∀j u,(bys gr)[j]?=some u->(YZ l)[0+9+i*27+j]?=some u:=by rw[<-h7];exact g5
  rw[h7]at gg g4;have g6:sW hh { hh with drawn:=hh.drawn+1 }:=O1.C _ _
  have ka:(48:Int)+(i:Int)=((48+i:Nat):Int):=oa
  refine Zf (⟨#[99]⟩++⟨#[UInt8.ofNat (48+i)]⟩:ByteArray) λnm hE=>?_;refine ZJ (ob vc) (Y4 0 18 [12,14,15,17])<|p (QH O)<|pq (λ_ hc=>Qk (g3.J hc n3v) O O)<|p Qy<|p (λ_=>YE O O ⟨oa,oa⟩)<|p (λ_=>Z9 (k':=.i32) O ⟨oa,oa⟩)<|p (λ_=>Uk (n:=48+i) (OR (Value.int .i32) ka) oa) <|
   p (λ_=>YA (a:=⟨#[99]⟩) (b:=⟨#[UInt8.ofNat (48+i)]⟩) O O (by show 1+1<=1000000000;omega))<|p Qy<|p Qy<|p (QH O)<|p (λ_=>ZQ (i:=i) O O oa)<|pq (λ_ hc=>Up (us:=bys gr) (mg.J hc n1v) O (by rw[Xi];exact gg) mj)<|?_
  refine pk<|xg<|(zn (mh.I g6) (λe T=>oo (gc e T)) g0 gg g4).Y ?_;rintro r11 hl ⟨gh,a,⟨xa,xm,h5,rfl,hA⟩,hG,gq⟩;have hH:=g6.D gh;have p7:=hH.size;have gi:=hA [] od;refine⟨hH.any,?_⟩;refine p (λ_=>Zq [(0,[.string nm]),(1,[xa,sS a.st,xm,h5])] ⟨OR (λb=>(Value.string b).cells) hE,O,O,O,Z⟩)<|pk<|Q5 [Zm ⟨nm,⟨xa,xm,h5,a⟩⟩] λb14 gj hf hb14 mo=>⟨(hH.D hf).any,?_⟩;have hy:=hH.D hf;have kb:=hw.I hy;refine pk<|Q2 (news:=Zm ⟨nm,⟨xa,xm,h5,a⟩⟩) (L:=[]) kb.c O O O (mo.at od) (jX gi.al.one gi.mr.one gi.ed.one) oa (oo hy.size) λmq hI kc J ms=>⟨(hy.any (L:=ob vc)).Q J,?_⟩;have mt:=kb.setC (zj (q:=⟨nm,⟨xa,xm,h5,a⟩⟩) (N:=↑hh) (λL hL=>(hA L hL).I hf) oa hw.avlt) kc J ms;refine p (QH O)<|pkk<|Qv ((g3.I hy).J J n3v) O O od (Qz kc) λhJ U hW=>pe ?_;have hge:=Qi hw.c;have n4v:b4∉ob vc:=QJ hw.c oa;have hB416:=((hB410.I hy).J J n4v).J U ol;have hs710:O1 [b4] w7 hh:=ko.any.Q hv;have hs615:O1 [G,b4] w6 hI:=((hB.Q (hs710.Y od)).D hy.any).S J (λb hb=>.inr (hge b hb).1);refine Qs<|QC O O<|Qa<|xe<|⟨(i+1,mq,co++[⟨nm,⟨xa,xm,h5,a⟩⟩],p4,p5),oe,La,h4,hs615.Q (U.Y od),hW,hB416,mt.low U (λb hb=>by rw[List.mem_singleton.1 hb];omega),by simp only[oM,oL];omega,λk S=>?_,oe,λe=>?_⟩
  ·simp only[]at S ⊢;by_cases hj:k<co.length
   ·rw[Mi hj];exact hU k hj
   have ke:k=i:=by simp only[oM,oL]at S;omega
   subst ke;rw[M8 oa];simp only[gz,Nat.sub_self,Oj];exact⟨hE.symm,hG,λe T=>by rw[gq]at T;exact(gc e T).2⟩
  simp only[]at p6 ⊢;rw[p6,go];constructor
  ·rintro(⟨q,E,T⟩|T)
   ·exact⟨q,L8 _ E,T⟩
   exact⟨_,Nm _ (Lb.2 O),by rw[gq];exact T⟩
  rintro⟨q,E,T⟩;rcases Le.1 E with E|E
  ·exact .inl ⟨q,E,T⟩
  rw[Lb.1 E,gq]at T;exact .inr T
 rintro⟨vc,co,va,al⟩ g7 w7 ⟨hB,gn,gb,ho,gz,hU,k5,go⟩;simp only[]at gn gb ho gz hU k5 go;have hz7:=hB.size;have ma:b1∉[G,b4]:=by simp only[oJ,oH,or_false];omega
 have hV:=k4.J hB ma;have mu:b1∉[G]:=ol
 have n43:b4∉[G]:=ol
 have p8:=QdS (l:=l) h.n (j:=90) oa;have q90l:=XW h.b 90;refine Zf (l.ns.getD 90 0) λrn hrn=>?_;rw[hrn]at p8 q90l;refine Zf (rn % 3) λr hr=>?_;refine QV (α:=OY×List IV) [(8,9),(56,87)] (λ_=>[]) (λz w'=>O1 [G] w7 w'/\QK ↑w' G 46 [ve,vc,z.1,Zo,Zo]/\qc ↑w7 w' z.1 Zo z.2 []/\z.2.length=r/\∀k (S:k<z.2.length),ItG 114 k (z.2[k]'S)/\∀e∈(z.2[k]'S).p.a.al,e∈al) oh ?_ ?_
 ·refine Qc<|Qr O hV O p8<|x (qQ (a:=(rn:Int)) (b:=3) O O oa oa)<|x (Z9 (k':=.i64) O ⟨oa,oa⟩)<|Qa<|xe<|QW (α:=Nat×OY×List IV) [(8,9),(60,87)] (λz=>[(60,sS z.1)])
   (λz w'=>z.1<=r/\O1 [G] w7 w'/\QK ↑w' G 46 [ve,vc,z.2.1,Zo,Zo]/\qc ↑w7 w' z.2.1 Zo z.2.2 []/\z.2.2.length=z.1/\∀k (S:k<z.2.2.length),ItG 114 k (z.2.2[k]'S)/\∀e∈(z.2.2[k]'S).p.a.al,e∈al)
   (λz=>r - z.1) (0,Zo,[]) La
   ⟨Ln _,O1.Z _ _,gn,qc.nil,O,λk S=>OS S od⟩ ?_
  rintro⟨i,vr,rq⟩ g8 w8 ⟨hi,hg,gs,hC,kp,h7⟩;simp only[]at hi gs hC kp h7;refine Zi O O (λmv=>?_) (λmv=>?_)
  ·refine Qu ?_;have k9:i=r:=by have h62:¬(i:Int)<(rn:Int) % 3:=mv;omega
   exact⟨(vr,rq),Z,hg,gs,hC,oe,h7⟩
  have h4:i<r:=by have h62:(i:Int)<(rn:Int) % 3:=mv;omega
  have kf:=hV.J hg mu;have hB48:=gb.J hg n43;have qs:=QdS (l:=l) h.n (j:=0+91+i*1) oa;have qsl:=XW h.b (0+91+i*1);refine Zf (l.ns.getD (0+91+i*1) 0) λm hm=>?_;rw[hm]at qs qsl;have mc:=Vy m 5;have g0:=QaO m 5;have gc:=QdK m 5;refine Zf (setK m 5) λsk g2=>?_;rw[g2]at mc g0 gc;refine Qf<|Qe<|Qn<|Ql<|Qb<|Ql<|Q7 O<|x (ZQ (i:=i) O O oa)<|ZA kf O qs<|Qw<|(Vz m qsl _).Y ?_;rintro vs w9 ⟨V,ge⟩;rw[g2]at ge;have p0:=hg.size;have mf:=V.size;have hva8:=Qm (Qg ho.a hg (λb hb hm=>by rw[Lb.1 hm]at hb;exact QJ ho.a oa hb)) V;have g5:=Qi ge;have hlv:=QU ho.a;have hD:=Qk5 ge oa (hB48.I V) (λhm=>oo (g5 b4 hm).1) (QN hva8 oa (λb hb hbs=>oq (g5 b hbs).1 (hlv b hb)));refine x (Zl (l:=[]) (l':=[_]))<|Qw<|hD.Y ?_;rintro vd hh ⟨hv,p9⟩;have qj:YN (sk.filter λx=>decide (x∈al)):=List.Pairwise.filter _ g0;have hFL:=LF (λx=>decide (x∈al)) sk;have kq:∀e∈sk.filter λx=>decide (x∈al),e∈sk/\e∈al:=λe T=>by
   have:=LS.1 T;exact⟨this.1,OU this.2⟩
  refine Zf (sk.filter λx=>decide (x∈al)) λF hF=>?_;rw[hF]at p9 qj hFL kq;refine Qb ?_;have kg:sW w8 hh:=V.S hv (λb hb=>.inr (g5 b hb).1);have hz10:=kg.size;have hw:=hC.I kg;have g3:=gs.I kg;have mg:=kf.I kg;have mh:Qt [] ↑hh vd F:=Qh.ints (L:=[]) p9 oa od;have n3v:G∉ob vr:=QJ hw.c oa;have n1v:b1∉ob vr:=QJ hw.c oa;have gg:=QhW (ns:=l.ns) (o:=0+93+i*27) (oo h.n);have g4:=QlP (o:=0+93+i*27) h.b;have mj:=λj u=>Qcy (l:=l) (o:=0+93+i*27) (m:=27) j u;refine Zf (grN l.ns (0+93+i*27)) λgr ql=>?_;have hgs2:∀j u,(bys gr)[j]?=some u->(YZ l)[0+93+i*27+j]?=some u:=by rw[<-ql];exact mj
  rw[ql]at gg g4;have g6:sW hh { hh with drawn:=hh.drawn+1 }:=O1.C _ _
  have ka:(48:Int)+(i:Int)=((48+i:Nat):Int):=oa
  refine Zf (⟨#[114]⟩++⟨#[UInt8.ofNat (48+i)]⟩:ByteArray) λnm hE=>?_;refine ZJ (ob vr) (Y4 0 18 [12,14,15,17])<|p (QH O)<|pq (λ_ hc=>Qk (g3.J hc n3v) O O)<|p Qy<|p (λ_=>YE O O ⟨oa,oa⟩)<|p (λ_=>Z9 (k':=.i32) O ⟨oa,oa⟩)<|p (λ_=>Uk (n:=48+i) (OR (Value.int .i32) ka) oa) <|
   p (λ_=>YA (a:=⟨#[114]⟩) (b:=⟨#[UInt8.ofNat (48+i)]⟩) O O (by show 1+1<=1000000000;omega))<|p Qy<|p Qy<|p (QH O)<|p (λ_=>ZQ (i:=i) O O oa)<|pq (λ_ hc=>Up (us:=bys gr) (mg.J hc n1v) O (by rw[Xi];exact gg) hgs2)<|?_
  refine pk<|xg<|(zn (mh.I g6) (λe T=>oo (gc e (kq e T).1)) qj gg g4).Y ?_;rintro r11 hl ⟨gh,a,⟨xa,xm,h5,rfl,hA⟩,hG,gq⟩;have hH:=g6.D gh;have p7:=hH.size;have gi:=hA [] od;refine⟨hH.any,?_⟩;refine p (λ_=>Zq [(0,[.string nm]),(1,[xa,sS a.st,xm,h5])] ⟨OR (λb=>(Value.string b).cells) hE,O,O,O,Z⟩)<|pk<|Q5 [Zm ⟨nm,⟨xa,xm,h5,a⟩⟩] λb14 gj hf hb14 mo=>⟨(hH.D hf).any,?_⟩;have hy:=hH.D hf;have kb:=hw.I hy;refine pk<|Q2 (news:=Zm ⟨nm,⟨xa,xm,h5,a⟩⟩) (L:=[]) kb.c O O O (mo.at od) (jX gi.al.one gi.mr.one gi.ed.one) oa (oo hy.size) λmq hI kc J ms=>⟨(hy.any (L:=ob vr)).Q J,?_⟩;have mt:=kb.setC (zj (q:=⟨nm,⟨xa,xm,h5,a⟩⟩) (N:=↑hh) (λL hL=>(hA L hL).I hf) oa hw.avlt) kc J ms;refine p (QH O)<|pkk<|Qv ((g3.I hy).J J n3v) O O od (Qz kc) λhJ U hW=>pe ?_;have hge:=Qi hw.c;have hs715:O1 [G] w7 hI:=((hg.D kg.any).D hy.any).S J (λb hb=>.inr (hge b hb).1);refine Qs<|QC O O<|Qa<|xe<|⟨(i+1,mq,rq++[⟨nm,⟨xa,xm,h5,a⟩⟩]),oe,La,h4,hs715.Q U,hW,mt.low U (λb hb=>by rw[Lb.1 hb];omega),by simp only[oM,oL];omega,λk S=>?_⟩;simp only[]at S ⊢;by_cases hj:k<rq.length
  ·rw[Mi hj];exact h7 k hj
  have ke:k=i:=by simp only[oM,oL]at S;omega
  subst ke;rw[M8 oa];simp only[kp,Nat.sub_self,Oj];exact⟨⟨hE.symm,hG,λe T=>by rw[gq]at T;exact(gc e (kq e T).1).2⟩,λe T=>by rw[gq]at T;exact(kq e T).2⟩
 rintro⟨vr,rq⟩ g8 w8 ⟨hg,gs,hC,kp,h7⟩;simp only[]at gs hC kp h7;have p0:=hg.size;have kf:=hV.J hg mu;have g147:=QgT (l:=l) h.n 0;have hX6:Zs [G,b4] ↑w6 l.vx l.xs.length 4 (l.xs.flatMap Y5):=((h.x.up (L':=[G,b4]) (λb hb=>.inr (by simp only[oJ,oH,or_false]at hb;omega))).I pj).I gy;have q0:Zs [G] ↑w8 l.vx l.xs.length 4 (l.xs.flatMap Y5):=((hX6.st hB).up (L':=[G]) (λb hb=>.inl (by simp only[oF]at hb;simp[hb]))).st hg;refine QV (α:=OY×List XV) [(10,14),(88,151)] (λ_=>[]) (λz w'=>O1 [G] w8 w'/\QK ↑w' G 46 [ve,vc,vr,z.1,Zo]/\KK ZY 2 186 (λq=>[(q.v,q.ls.length,2,q.ls.flatMap Zg)]) ↑w8 w' z.1 z.2/\z.2.length<=2/\(z.2.map (·.nm)).Nodup/\∀q∈z.2,(∃k,k<2/\q.nm=⟨#[101]⟩++⟨#[UInt8.ofNat (48+k)]⟩)/\q.ls≠[]/\q.ls.length<=3/\XD (co.map (·.p.a.st)) none q.ls=0) oh ?_ ?_
 ·refine Qc<|Qr O kf O g147<|QG q0 O<|Qa<|xe<|QW (α:=Nat×OY×List XV) [(10,14),(91,151)] (λz=>[(91,sS z.1)])
   (λz w'=>z.1<=l.xs.length/\z.1<=2/\O1 [G] w8 w'/\QK ↑w' G 46 [ve,vc,vr,z.2.1,Zo]/\KK ZY 2 186 (λq=>[(q.v,q.ls.length,2,q.ls.flatMap Zg)]) ↑w8 w' z.2.1 z.2.2/\z.2.2.length<=z.1/\(z.2.2.map (·.nm)).Nodup/\∀q∈z.2.2,(∃k,k<z.1/\q.nm=⟨#[101]⟩++⟨#[UInt8.ofNat (48+k)]⟩)/\q.ls≠[]/\q.ls.length<=3/\XD (co.map (·.p.a.st)) none q.ls=0)
   (λz=>l.xs.length - z.1) (0,Zo,[]) La
   ⟨Ln _,Ln _,O1.Z _ _,gs,KK.nil,Lp _,List.Pairwise.nil,λq E=>by cases E⟩ ?_
  rintro⟨i,vx,qx⟩ g9 w9 ⟨hi,hi2,V,hX,h6,kr,hY,hK⟩;simp only[]at hi hi2 hX h6 kr hY hK;have q4:(∀q∈qx,(∃k,k<2/\q.nm=⟨#[101]⟩++⟨#[UInt8.ofNat (48+k)]⟩)/\q.ls≠[]/\q.ls.length<=3/\XD (co.map (·.p.a.st)) none q.ls=0):=λq E=>by
   obtain⟨⟨k,k1,k2⟩,h2⟩:=hK q E;exact⟨⟨k,oa,k2⟩,h2⟩
  refine Zi O O (λj1=>?_) (λj1=>?_)
  ·refine Qu ?_;exact⟨(vx,qx),Z,V,hX,h6,oe,hY,q4⟩
  have h4:i<l.xs.length:=by have h93:(i:Int)<(l.xs.length:Int):=j1;omega
  have hX9:=q0.st V;refine Qf<|Qe<|Qn<|Ql<|O4 qB hX9 O O h4 λa94 j2=>?_;refine Zf (l.xs[i]'h4) λxr hxr=>?_;rw[hxr]at j2;refine x (QE j2 O (qB xr))<|QP [.int .u8 0,.int .u8 0,.int .u8 0,.int .u8 0] λb11 hh hv hb11 hB11=>x Qd<|Qo<|Zk (us:=Y5 xr) hB11 O O (qB xr) O (QbP xr.1) λhl gh j3=>xe ?_;have h8:sW w9 hl:=hv.O gh hb11;refine Qe<|Ql<|x (Q6 O O)<|xe<|Za O (λj4=>?_) (λj4=>?_)
  ·refine Qu ?_;exact⟨(vx,qx),Z,V.D h8.any,hX.I h8,h6.I h8,oe,hY,q4⟩
  have hi3:i<2:=by have h98:¬(i:Int)=2:=j4;omega
  have ka:(48:Int)+(i:Int)=((48+i:Nat):Int):=oa
  have p7:=h8.size;have hl11:=j3.lt;refine Zf (⟨#[101]⟩++⟨#[UInt8.ofNat (48+i)]⟩:ByteArray) λnm hE=>?_;refine Qf<|Ql<|QC O O<|x (Z9 (k':=.i32) O ⟨oa,oa⟩)<|x (Uk (n:=48+i) (OR (Value.int .i32) ka) oa)<|x (YA (a:=⟨#[101]⟩) (b:=⟨#[UInt8.ofNat (48+i)]⟩) O O (by show 1+1<=1000000000;omega))<|x (QB La) <|
   QP [.string .empty,Zo] λhM gj hf za gx=>Qo<|Zk (us:=[.string nm,Zo]) gx O (show Go.Lg.ev _ _=_ from OR (λs=>Value.agg #[.string s,Zo]) hE) O O ov λhN hO hB1213=>xe ?_
  have kt:sW hl hN:=hf.O hO za;have mw:=h8.D kt;have hz1113:=kt.size;have mf:=V.size;have hltC:=QU ho.c;have nc3:G∉ob vc:=QJ ho.c oa;have z2:∀b∈ob vc,b∉[G]:=λb hb hm=>by rw[Lb.1 hm]at hb;exact nc3 hb
  have hC13:=Qm (Qg (Qg ho.c hg z2) V z2) mw;have my:=hX.I mw;have hB1113:=j3.I kt;have hl12:=gx.lt;have z3:G∉[hM]:=ol
  have n1112:b11∉[hM]:=ol
  have z4:=QN (L:=[hM]) hC13 oa (λb hb hm=>by rw[Lb.1 hm]at hb;have:=hltC hM hb;omega);refine QV (α:=OY×xq) [(13,14),(104,140)] (λ_=>[]) (λz w'=>O1 [hM] hN w'/\QK ↑w' hM 186 [.string nm,z.1]/\w'.ownsRow ↑hN 188 2 z.1 z.2.length (z.2.flatMap Zg)/\z.2.length<=co.length/\z.2.Pairwise (λp q=>p.1<q.1)/\∀p∈z.2,0<=p.1/\p.1<(co.length:Int)/\0<=p.2/\p.2<O2 (co.map (·.p.a.st)) p.1.toNat) oh ?_ ?_
  ·refine Qc<|Qr O my O O<|QG z4 O<|Qa<|xe<|QW (α:=Nat×OY×xq) [(13,14),(107,140)] (λz=>[(107,sS z.1)])
    (λz w'=>z.1<=co.length/\O1 [hM] hN w'/\QK ↑w' hM 186 [.string nm,z.2.1]/\w'.ownsRow ↑hN 188 2 z.2.1 z.2.2.length (z.2.2.flatMap Zg)/\z.2.2.length<=z.1/\z.2.2.Pairwise (λp q=>p.1<q.1)/\∀p∈z.2.2,0<=p.1/\p.1<(z.1:Int)/\0<=p.2/\p.2<O2 (co.map (·.p.a.st)) p.1.toNat)
    (λz=>co.length - z.1) (0,Zo,[]) La
    ⟨Ln _,O1.Z _ _,hB1213,QM _ _ _ _,Lp _,List.Pairwise.nil,λp I=>by cases I⟩ ?_
   rintro⟨k,vl,ls⟩ g14 hP ⟨S,Y,hQ,ha,mz,gk,hR⟩;simp only[]at S hQ ha mz gk hR;refine Zi O O (λm0=>?_) (λm0=>?_)
   ·refine Qu ?_;have ke:k=co.length:=by have h109:¬(k:Int)<(co.length:Int):=m0;omega
    rw[ke]at hR;exact⟨(vl,ls),Z,Y,hQ,ha,oe,gk,hR⟩
   have hj:k<co.length:=by have h109:(k:Int)<(co.length:Int):=m0;omega
   have hAC14:=z4.st Y;have hZ:=my.J Y z3;have z5:=hB1113.J Y n1112;refine Qf<|Qe<|Qn<|Ql<|Qb<|Qc<|Qr O hZ O O<|Qa<|O4 Uw hAC14 O O hj λa113 h113=>?_;refine Zf (co[k]'hj) λq E=>?_;rw[E]at h113;refine x (ZN O)<|x (ZN O)<|x (Qq ((h113.from 1).fld 1 (sS q.p.a.st) O) O)<|Qb ?_;have m1:=(hU k hj).g;rw[E]at m1;have hqp:=m1.p;have hqs:=m1.s;have m2:=UJ (ns:=xr.1) (j:=0+k*1) (by rw[xr.2.1];omega);have qx0l:=XW xr.2.2 (0+k*1);refine Zf (xr.1.getD (0+k*1) 0) λxk hxk=>?_;rw[hxk]at m2 qx0l;have hmod:0<=(xk:Int) % (q.p.a.st+2):=Int.emod_nonneg _ oa;refine Ql<|x (ZQ (i:=k) O O oa)<|ZA z5 O m2<|x (Z9 (k':=.i64) O ⟨oa,oa⟩)<|Qa<|QC O O<|x (qQ (a:=(xk:Int)) (b:=q.p.a.st+2) O O oa oa)<|Qa<|ZX O O<|xe ?_;have hgeL:=Qi ha;have hz14:=Y.size;have hz13:=hO.size;have hn12v:hM∉ob vl:=QJ ha oa;have hn11v:b11∉ob vl:=QJ ha oa;have hcget:O2 (co.map (·.p.a.st)) k=q.p.a.st:=by
    unfold O2;simp[oO,List.getElem?_map,oU hj,E]
   refine Zp O (λh125=>?_) (λh125=>?_)
   ·refine Qf<|Qs<|QC O O<|Qa<|xe ?_;exact⟨(k+1,vl,ls),oe,La,hj,Y,hQ,ha,oe,gk,λp I=>by have:=hR p I;simp only[];omega⟩
   have hd14:sW hP { hP with drawn:=hP.drawn+1 }:=O1.C _ _
   refine Zf ((xk:Int) % (q.p.a.st+2)) λst hst=>?_;refine ZJ (ob vl) (Y4 0 15 [11,12,14])<|p (QH O)<|pq (λ_ hc=>Qk (hQ.J hc hn12v) O O)<|p Qy<|p Qy<|p (λ_=>ZQ (i:=k) O O oa)<|pq (λ_ hc=>Qk (z5.J hc hn11v) O m2)<|p (λ_=>Z9 (k':=.i64) O ⟨oa,oa⟩)<|p Qy<|p (λ_=>YE O O ⟨oa,oa⟩) <|
    p (λ_=>qQ (a:=(xk:Int)) (b:=q.p.a.st+2) O O oa oa)<|p (λ_=>QB ⟨O,O,Z⟩)<|pk<|Q5 [Zg ((k:Int),(xk:Int) % (q.p.a.st+2))] λb137 hI J hb137 hB137=>?_
   have gt:=hd14.D J;have hz1415:=gt.size;refine⟨gt.any,?_⟩;refine pk<|Q2 (news:=Zg ((k:Int),(xk:Int) % (q.p.a.st+2))) (L:=[]) (Qm ha gt) O O O (hB137.at od) (QdX _) oa oa λku hJ gu U hn16=>⟨(gt.any (L:=ob vl)).Q U,?_⟩;have hge16:∀b∈ob ku,↑hN<=b:=λb hb=>(Qi gu b hb).1;refine p (QH O)<|pkk<|Qv ((hQ.I gt).J U hn12v) O O od (Qz gu) λm3 hz hV=>pe ?_;refine Qs<|QC O O<|Qa<|xe<|⟨(k+1,ku,ls++[((k:Int),(xk:Int) % (q.p.a.st+2))]),oe,La,hj,((Y.D gt.any).S U (λb hb=>.inr (hgeL b hb).1)).Q hz,hV,?_,by simp only[oM,oL];omega,?_,λp I=>?_⟩
   ·have h9:=Qg gu hz (λb hb=>by have:=hge16 b hb;simp only[oF];omega);simp only[oM,List.flatMap_append];simpa using h9
   ·simp only[];rw[Mj];exact⟨gk,Nw _ _,λp I p' m4=>by rw[Lb.1 m4];have:=hR p I;simp only[];omega⟩
   simp only[]at I ⊢;rcases Le.1 I with I|I
   ·have:=hR p I;omega
   rw[Lb.1 I];simp only[Ox];rw[hcget];omega
  rintro⟨vl,ls⟩ g14 hP ⟨Y,hQ,ha,mz,gk,hR⟩;simp only[]at hQ ha mz gk hR;have hz14:=Y.size;have hz13:=hO.size;have ga:sW w9 hP:=mw.O Y oa;have hZ:=my.J Y z3;have kv:=h6.I ga;refine Qc<|Qr O hQ O O<|QG (QN (L:=[]) ha oa od) rfl<|x (Z2 rfl rfl)<|xe<|Zp O (λh144=>?_) (λh144=>?_)
  ·refine Qf<|Qs<|QC O O<|Qa<|xe<|⟨(i+1,vx,qx),oe,La,h4,oe,V.D ga.any,hZ,kv,oe,hY,λq E=>?_⟩;obtain⟨⟨k,k1,k2⟩,h2⟩:=hK q E;exact⟨⟨k,oe,k2⟩,h2⟩
  have h145:(0:Int)<(ls.length:Int):=h144;have hxx:=Qz ha;refine Qs<|Qr O hZ O O<|QY hQ O O<|Qo<|Q5 [ZY ⟨nm,vl,ls⟩] λb148 hI J hb148 hB148=>?_;refine Qo<|Q2 (news:=ZY ⟨nm,vl,ls⟩) (L:=[]) (Qm kv.own J) O O O (hB148.at od) (Qdv hxx) oa (oq ga.size J.size) λku hJ gu U hn16=>?_;have hs1115:sW hl hI:=(kt.O Y za).D J;have hM16:=(h6.I h8).app hs1115 (q:=⟨nm,vl,ls⟩) (λt ht=>by rw[Lb.1 ht];exact⟨↑hN,188,Qm ha J,by show ls.length<=_;omega,hz1113⟩) oa gu U hn16;have hgeX:=Qi kv.own;have n3x:G∉ob vx:=QJ kv.own oa;refine Q7 O<|Qo<|Qv ((hZ.I J).J U n3x) O O od (Qz gu) λm3 hz hB317=>xe ?_;refine Qs<|QC O O<|Qa<|xe ?_;have kw:O1 [G] w8 hJ:=((V.D ga.any).D J.any).S U (λb hb=>.inr (hgeX b hb).1);refine⟨(i+1,ku,qx++[⟨nm,vl,ls⟩]),oe,La,h4,oe,kw.Q hz,hB317,hM16.low hz (λb hb=>by rw[Lb.1 hb];omega),by simp only[oM,oL];omega,?_,λq E=>?_⟩
  ·simp only[List.map_append,oT,OG];rw[Mr];refine⟨hY,od,λs hs s' hs' e=>?_⟩;obtain⟨q,E,rfl⟩:=Lz.1 hs;obtain⟨⟨k,k1,k2⟩,_⟩:=hK q E;have hk0:k=0:=oa
   have hi1:i=1:=oa
   rw[Lb.1 hs',k2,<-hE,hk0,hi1]at e;exact OS e og
  rcases Le.1 E with E|E
  ·obtain⟨⟨k,k1,k2⟩,h2⟩:=hK q E;exact⟨⟨k,oe,k2⟩,h2⟩
  rw[Lb.1 E];refine⟨⟨i,Nat.lt_succ_self _,hE.symm⟩,λe=>by rw[show ls=[] from e]at h145;exact OS h145 og,by show ls.length<=3;omega,Qey ls none (λb hb=>by cases hb) gk (λp I=>?_)⟩;rw[Lj];exact hR p I
 rintro⟨vx,qx⟩ g9 w9 ⟨V,hX,h6,kr,hY,hK⟩;simp only[]at hX h6 kr hY hK;have mf:=V.size;have hB19:=kf.J V mu;have g151:=QgT (l:=l) h.n 4;have hbd:=h.bd;have hbdb:=QdA l.bd (b:=8) og;refine Zf (l.bd.tmod 8) λbd hbde=>?_;rw[hbde]at hbdb;refine Qc<|Qr O hB19 O g151<|x (Z9 (k':=.i64) O ⟨oa,oa⟩)<|x (QgI O O og)<|x (QB ⟨O,O,Z⟩)<|QP [.string .empty,Zo,sS 0] λb15 hh hv m5 m6 =>
  Qo<|Zk (us:=[.string ⟨#[107]⟩,Zo,sS bd]) m6 O (show Go.Lg.ev _ _=_ from OR (λn=>Value.agg #[.string ⟨#[107]⟩,Zo,sS n]) hbde) O O ox λhl gh hB1511=>xe ?_
 have h8:sW w9 hl:=hv.O gh m5;have hB111:=hB19.I h8;have hB311:=hX.I h8;have n115:b1∉[b15]:=ol
 have n315:G∉[b15]:=ol
 have hl15:=hB1511.lt;refine QV (α:=OY×xq) [(16,16),(157,179)] (λ_=>[]) (λz w'=>O1 [b15] hl w'/\QK ↑w' b15 191 [.string ⟨#[107]⟩,z.1,sS bd]/\w'.ownsRow ↑hl 193 2 z.1 z.2.length (z.2.flatMap Zg)/\z.2.length<=n/\z.2.Pairwise (λp q=>p.1<q.1)/\∀p∈z.2,0<=p.1/\p.1<(n:Int)/\-4<p.2/\p.2<4) oh ?_ ?_
 ·refine Ql<|Qa<|xe<|QW (α:=Nat×OY×xq) [(16,16),(158,179)] (λz=>[(158,sS z.1)])
   (λz w'=>z.1<=n/\O1 [b15] hl w'/\QK ↑w' b15 191 [.string ⟨#[107]⟩,z.2.1,sS bd]/\w'.ownsRow ↑hl 193 2 z.2.1 z.2.2.length (z.2.2.flatMap Zg)/\z.2.2.length<=z.1/\z.2.2.Pairwise (λp q=>p.1<q.1)/\∀p∈z.2.2,0<=p.1/\p.1<(z.1:Int)/\-4<p.2/\p.2<4)
   (λz=>n - z.1) (0,Zo,[]) La
   ⟨Ln _,O1.Z _ _,hB1511,QM _ _ _ _,Lp _,List.Pairwise.nil,λp I=>by cases I⟩ ?_
  rintro⟨i,vt,ts⟩ g12 gj ⟨hi,hf,hS,h0,kh,gl,hT⟩;simp only[]at hi hS h0 kh gl hT;refine Zi O O (λm7=>?_) (λm7=>?_)
  ·refine Qu ?_;have k9:i=n:=by have h160:¬(i:Int)<1+(cn:Int) % 3:=m7;omega
   rw[k9]at kh hT;exact⟨(vt,ts),Z,hf,hS,h0,kh,gl,hT⟩
  have h4:i<n:=by have h160:(i:Int)<1+(cn:Int) % 3:=m7;omega
  have hB112:=hB111.J hf n115;have qf:=Qom (l:=l) h.n (i:=i) oa;have qfb:=Qol h i oa;refine Zf (flk l i) λfk hfk=>?_;rw[hfk]at qf qfb;refine Qf<|Qe<|Qn<|Ql<|Qb<|Ql<|Q7 O<|x (ZQ (i:=i) O O oa)<|ZA hB112 O qf<|ZI O O<|xe<|Zp O (λh165=>?_) (λh165=>?_)
  ·refine Qf<|Qs<|QC O O<|Qa<|xe ?_;exact⟨(i+1,vt,ts),oe,La,h4,hf,hS,h0,oe,gl,λp I=>by have:=hT p I;simp only[];omega⟩
  have hmd:=QdA fk (b:=4) og;have hd12:sW gj { gj with drawn:=gj.drawn+1 }:=O1.C _ _
  have hz12:=hf.size;have hgeT:=Qi h0;have hn15v:b15∉ob vt:=QJ h0 oa;have hn1v:b1∉ob vt:=QJ h0 oa;refine ZJ (ob vt) (Y4 0 14 [10,11,13])<|p (QH O)<|pq (λ_ hc=>Qk (hS.J hc hn15v) O O)<|p Qy<|p Qy<|p (QH O)<|p (λ_=>ZQ (i:=i) O O oa)<|pq (λ_ hc=>Qk (hB112.J hc hn1v) O qf)<|p (λ_=>Z9 (k':=.i64) O ⟨oa,oa⟩) <|
   p (λ_=>QgI O O og)<|p (λ_=>QB ⟨O,O,Z⟩)<|pk<|Q5 [Zg ((i:Int),fk.tmod 4)] λb176 hN hO hb176 hB176=>?_
  have gv:=hd12.D hO;have hz1213:=gv.size;refine⟨gv.any,?_⟩;refine pk<|Q2 (news:=Zg ((i:Int),fk.tmod 4)) (L:=[]) (Qm h0 gv) O O O (hB176.at od) (QdX _) oa oa λv14 hP ha Y hn14=>⟨(gv.any (L:=ob vt)).Q Y,?_⟩;have hge14:∀b∈ob v14,↑hl<=b:=λb hb=>(Qi ha b hb).1;refine p (QH O)<|pkk<|Qv ((hS.I gv).J Y hn15v) O O od (Qz ha) λhI J m6=>pe ?_;refine Qs<|QC O O<|Qa<|xe<|⟨(i+1,v14,ts++[((i:Int),fk.tmod 4)]),oe,La,h4,((hf.D gv.any).S Y (λb hb=>.inr (hgeT b hb).1)).Q J,m6,?_,by simp only[oM,oL];omega,?_,λp I=>?_⟩
  ·have h9:=Qg ha J (λb hb=>by have:=hge14 b hb;simp only[oF];omega);simp only[oM,List.flatMap_append];simpa using h9
  ·simp only[];rw[Mj];exact⟨gl,Nw _ _,λp I p' m4=>by rw[Lb.1 m4];have:=hT p I;simp only[];omega⟩
  simp only[]at I ⊢;rcases Le.1 I with I|I
  ·have:=hT p I;omega
  rw[Lb.1 I];simp only[];omega
 rintro⟨vt,ts⟩ g12 gj ⟨hf,hS,h0,kh,gl,hT⟩;simp only[]at hS h0 kh gl hT;have hz12:=hf.size;have hgT:=Qi h0;refine Qc<|Qr O hS O O<|Qw<|(Qk4 h0 oa).Y ?_;rintro vu hN ⟨hO,kx⟩;have hup:(nzT ts).Pairwise (λp q=>p.1<q.1):=List.Pairwise.filter _ gl;have hul:=LF (λp:Int×Int=>!decide (p.2=0)) ts;have hub:∀p∈nzT ts,0<=p.1/\p.1<(n:Int)/\p.2≠0/\-65536<=p.2/\p.2<=65536:=λp I=>by
  have h1:=LS.1 I;have h2:=hT p h1.1;have h3:¬p.2=0:=by simpa using h1.2
  omega
 refine Zf (nzT ts) λus hus=>?_;have hul':us.length<=3:=by rw[<-hus];exact Lx hul oa
 rw[hus]at kx hup hub;have n15t:b15∉ob vt:=QJ h0 oa;refine Q7 rfl<|Qo<|Qv (hS.J hO n15t) O O od (Qz kx) λhP Y hB1514=>xe ?_;have ga:sW w9 hP:=(((h8.O hf m5).S hO (λb hb=>.inr (oo (hgT b hb).1)))).O Y m5;have hz13:=hO.size;have hz14:=Y.size;have hgU:=Qi kx;have ha:=Qg kx Y (λb hb=>by have:=(hgU b hb).1;simp only[oF];omega);have hZ:=hX.I ga;refine QV (α:=OY×List KV) [(184,190)] (λ_=>[]) (λz w'=>O1 [G] hP w'/\QK ↑w' G 46 [ve,vc,vr,vx,z.1]/\z.2.length<=1/\(∀q∈z.2,q.nm=⟨#[107]⟩/\Xk (co.map (·.p.a.st)) q.k=0)/\∀L:LN,(∀b∈L,b<↑w6)->zY L ↑w' z.1 z.2) oh ?_ ?_
 ·refine Qc<|Qr O hB1514 O O<|QG (QN (L:=[]) ha oa od) rfl<|x (Z2 rfl rfl)<|xe<|Zp O (λh187=>?_) (λh187=>?_)
  ·refine Qf ?_;exact⟨(Zo,[]),Z,O1.Z _ _,hZ,og,λq E=>(by cases E),λL _=>⟨Zs.nil _ _ 3,λq E=>(by cases E),λq E=>(by cases E)⟩⟩
  refine Qs<|QY hB1514 O O<|Qo<|Q5 [Yb ⟨⟨#[107]⟩,vu,us,bd⟩] λb189 hI J hb189 hB189=>?_;refine Q7 O<|Qo<|Qv (hZ.I J) O O od rfl λhJ U hW=>xe ?_;refine⟨(_,[⟨⟨#[107]⟩,vu,us,bd⟩]),Z,J.any.Q U,hW,Lp _,λq E=>?_,λL hL=>?_⟩
  ·rw[Lb.1 E];refine⟨rfl,?_⟩;have hgr0:grt bd=false:=by unfold grt;rw[OV oa,OV oa];rfl
   have hct:=Qex (sz:=co.map (·.p.a.st)) us none (λb hb=>by cases hb) hup (λp I=>by rw[Lj,gz];exact hub p I);show Xk _ ⟨_,us,bd⟩=0;unfold Xk;rw[OP oe,OP (by rw[hct];decide),OP (by simp only[];rw[hgr0];decide)]
  have kz:∀b∈G::L,b<hl.heap.size:=λb hb=>by
   rcases Ll.1 hb with rfl|hb
   ·omega
   have:=hL b hb;omega
  have h1:zY (G::L) ↑hI (sL b189 1 1) [⟨⟨#[107]⟩,vu,us,bd⟩]:=by
   refine⟨hB189.arr (λhb=>oo (kz _ hb)) O og (Lp _),λq E=>?_,λq E=>?_⟩
   ·rw[Lb.1 E];exact(QN (L:=G::L) ha oa (λb hb ki=>oq (hgU b hb).1 (kz b ki))).I J
   rw[Lb.1 E];exact X2 og
  exact(h1.st (U.Y od)).up (λb hb=>.inl (Lm _ hb))
 rintro⟨vk,ks⟩ g16 hJ ⟨U,hW,hj,hgk,m8⟩;simp only[]at hW hj hgk m8;have hge3:=Qi gm;have hlt3:=QU gm;have kw:O1 [G] w8 hJ:=(V.D ga.any).Q U;have hs716:O1 [G] w7 hJ:=hg.Q kw;have m9:O1 [G,b4] w6 hJ:=hB.Q (hs716.Y od);have pc:∀b∈[G],b<w6.heap.size:=λb hb=>by rw[Lb.1 hb];omega
 have hE16:=Qg (Qm gm pz) m9 (λb hb hm=>by have:=hlt3 b hb;simp only[oJ,oH,or_false]at hm;omega);have hC16:=ho.low hs716 pc;have hR16:=hC.low kw (λb hb=>oo (pc b hb));have hX16:=(h6.I ga).low U (λb hb=>oo (pc b hb));have n23:b2∉[G]:=ol
 have n234:b2∉[G,b4]:=by simp only[oJ,oH,or_false];omega
 have hB216:=(ph.I gy).J m9 n234;refine Qc<|QY hW O O<|Q0 [ve,vc,vr,vx,vk] hB216 ⟨Qz hE16,Qz hC16.c,Qz hR16.c,Qz hX16.own,(m8 [] od).arr.one,Z⟩ λm3 hz hB217=>xe ?_;have pd:∀b∈[b2],b<w6.heap.size:=λb hb=>by rw[Lb.1 hb];omega
 have lo2':∀b∈[b2],b<w2.heap.size:=λb hb=>by rw[Lb.1 hb];omega
 have hE17:=Qg hE16 hz (λb hb hm=>oq (hge3 b hb).1 (lo2' b hm));have hC17:=hC16.low hz pd;have hR17:=hR16.low hz (λb hb=>oo (pd b hb));have pf:=hX16.low hz (λb hb=>oo (pd b hb));have hs017:sW w m3:=((pj.D gy).S m9 (λb hb=>.inr (by simp only[oJ,oH,or_false]at hb;omega))).O hz oa;have hcon:∀q∈co,z7 q.nm:=λq E=>by
  obtain⟨k,S,rfl⟩:=LM E;rw[(hU k S).nm];exact Uu 99 k
 have hrqn:∀q∈rq,z7 q.nm:=λq E=>by
  obtain⟨k,S,rfl⟩:=LM E;rw[(h7 k S).1.nm];exact Uu 114 k
 have hxnm:∀q∈qx,z7 q.nm:=λq E=>by
  obtain⟨⟨k,_,k2⟩,_⟩:=hK q E;rw[k2];exact Uu 101 k
 have hevn:∀e∈ev,z7 e.nm:=λe T=>Qii _ e (by rw[kk];exact T);have hevl:ev.length=5:=by rw[<-kk];exact KT _ _
 refine Qj ⟨[.agg #[ve,vc,vr,vx,vk]],⟨Jm hB217,Z⟩,hs017,⟨ev,co.map IV.it,rq.map IV.it,qx.map XV.x,ks.map KV.k⟩,⟨⟨ve,vc,vr,vx,vk,ev,co,rq,qx,ks⟩,O,O,λL hL=>?_⟩,?_⟩
 ·have kz:∀b∈L,b<w2.heap.size:=λb hb=>oo (hL b hb)
  have hLn:b2∉L:=λhm=>oo (hL b2 hm)
  have kj:∀b∈b2::L,b<w6.heap.size:=λb hb=>by
   rcases Ll.1 hb with rfl|hb
   ·omega
   have:=hL b hb;omega
  refine⟨⟨QN hE17 (by show ev.length<=_;omega) (λb hb ki=>oq (hge3 b hb).1 (kz b ki)),hevn⟩,hC17.itms oa hcon (λb hb=>oo (kj b (Lm _ hb))),hR17.itms oa hrqn (λb hb=>oo (kj b (Lm _ hb))),⟨QN pf.own (by show qx.length<=_;omega) (λb hb ki=>oq (Qi pf.own b hb).1 (kj b (Lm _ ki))),λq E=>?_,hxnm⟩,?_⟩
  ·exact pf.each q E _ (Lb.2 O) L (λb hb=>.inl (oo (kj b (Lm _ hb))))
  exact((m8 (b2::L) kj).st (hz.Y od)).up (λb hb=>.inl (Lm _ hb))
 rw[<-kk];exact Qnm oa oa hU go oa h7 kr hY hK hj hgk
structure yk (base:Nat)(w:OX)(vc va:OY)(co:List IV)(al:List KX):Prop where
 c:w.ownsRow base 81 5 vc co.length (co.flatMap Zm)
 a:w.ownsRow base 94 5 va al.length (al.flatMap Zv)
 dj:Dj vc va
 each:∀q∈co,∀t∈Qfj q,Yv base (ob vc++ob va) ↑w t.1 t.2.1 t.2.2.1 t.2.2.2
section
variable {vc vc' va':OY}{co:List IV}{al:List KX}
theorem yk.nil:yk base w (nS) (nS) [] []:=⟨QM _ _ _ _,QM _ _ _ _,Dj.nil _,λq E=>by cases E⟩
theorem yk.I (h:yk base w vc va co al)(E:sW w w'):yk base w' vc va co al:=⟨Qm h.c E,Qm h.a E,h.dj,λq G t I=>(h.each q G t I).I E⟩
theorem yk.low {X:LN}(h:yk base w vc va co al)(E:O1 X w w')(hX:∀b∈X,b<base):yk base w' vc va co al :=
 ⟨Qg h.c E (λb hb G=>oq (Qi h.c b hb).1 (hX b G)),Qg h.a E (λb hb G=>oq (Qi h.a b hb).1 (hX b G)),h.dj,λq I t J=>(h.each q I t J).low E hX⟩
theorem yk.avlt (h:yk base w vc va co al):∀b∈ob vc++ob va,b<w.heap.size:=λb hb=>(Le.1 hb).elim (QU h.c b) (QU h.a b)
theorem yk.setC {q:IV}(h:yk base w vc va co al)(V:∀t∈Qfj q,Yv base (ob vc++ob va) ↑w t.1 t.2.1 t.2.2.1 t.2.2.2)(Y:w'.ownsRow base 81 5 vc' (co.length+1) (co.flatMap Zm++Zm q))
  (E:O1 (ob vc) w w') (G:∀b∈ob vc',b∈ob vc\/↑w<=b):yk base w' vc' va (co++[q]) al:=by
 have I:O1 (ob vc++ob va) w w':=E.Y (λb hb=>Le.2 (.inl hb));have J:∀b∈ob vc'++ob va,b∈ob vc++ob va\/↑w<=b:=λb hb=>by
  rcases Le.1 hb with hb|hb
  ·exact(G b hb).imp (λh=>Le.2 (.inl h)) id
  exact .inl (Le.2 (.inr hb))
 refine⟨?_,Qg h.a E (λb hb ha=>h.dj b ha hb),λb hb S=>?_,λd hd t T=>?_⟩
 ·rw[Lc,LC];simpa using Y
 ·rcases G b hb with U|U
  ·exact h.dj b U S
  have:=QU h.a b S;omega
 rcases Le.1 hd with hd|hd
 ·exact(h.each d hd t T).app I J
 simp only[oF]at hd;subst hd;exact(V t T).app I J
theorem yk.setA {E:List KX}(h:yk base w vc va co al)(T:w'.ownsRow base 94 5 va' E.length (E.flatMap Zv))(I:O1 (ob va) w w')(J:∀b∈ob va',b∈ob va\/↑w<=b):yk base w' vc va' co E:=by
 have U:O1 (ob vc++ob va) w w':=I.Y (λb hb=>Le.2 (.inr hb));have V:∀b∈ob vc++ob va',b∈ob vc++ob va\/↑w<=b:=λb hb=>by
  rcases Le.1 hb with hb|hb
  ·exact .inl (Le.2 (.inl hb))
  exact(J b hb).imp (λh=>Le.2 (.inr h)) id
 refine⟨Qg h.c I (λb hb G=>h.dj b hb G),T,λb hb G=>?_,λd hd t Y=>(h.each d hd t Y).app U V⟩;rcases J b G with S|S
 ·exact h.dj b hb S
 have:=QU h.c b hb;omega
theorem yk.itms (h:yk base w vc va co al)(I:co.length<=1099511627776)(J:∀q∈co,z7 q.nm)(E:∀b∈L,b<base):KM L ↑w vc co :=
 ⟨QN h.c I (λb hb S=>oq (Qi h.c b hb).1 (E b S)),λq G=>⟨h.each q G (q.p.va,q.p.a.al.length,1,q.p.a.al.map (.int .i64)) od L (λb hb=>.inl (E b hb)),h.each q G (q.p.vm,q.p.a.mr.length,1,q.p.a.mr.map (.int .i64)) od L (λb hb=>.inl (E b hb)),h.each q G (q.p.ve,q.p.a.ed.length,3,q.p.a.ed.flatMap Qp) od L (λb hb=>.inl (E b hb))⟩,J⟩
end
def mzA (s f:Int):QF:=⟨[s,f],2,[0],[(0,s,1),(1,f,0)]⟩
theorem Qdp (nm:ByteArray)(s f:Int)(w:OX):QT sV 243 [.string nm,sS s,sS f] w λr w'=>sW w w'/\∃xa xm xe,r=.agg #[.string nm,xa,sS 2,xm,xe]/\ZH [xa,xm,xe]/\∀L:LN,(∀b∈L,b<↑w)->Zr L ↑w' xa xm xe (mzA s f):=by
 refine Zn func243 ?_;refine Qc<|QP [.string .empty,nS,sS 0,nS,nS] λb6 w1 ha hc J=>xe ?_;have he:=J.lt;refine Ql<|Qa<|Qo<|Q5 [[sS s],[sS f]] λb10 w2 S hr hf=>Qo<|Q5 [[sS 0]] λb11 w3 E hs hg =>
  Qa<|x (QB ⟨O,O,O,Z⟩)<|Qa<|x (QB ⟨O,O,O,Z⟩)<|Qo<|Q5 [Qp (0,s,1),Qp (1,f,0)] λb16 T G ht hh=>?_
 have U:=(S.D E).D G;have hj:=ha.D U;have hu:=S.size;have hv:=E.size;have hF:Y1 ↑w1 ↑T (.agg #[sL b10 2 2,sS 2,sL b11 1 1,sL b16 2 2]) (mzA s f):=
  jl (a:=mzA s f) ((hf.I E).I G) (hg.I G) hh oa oa oa O O O og og og
 refine x (QB ⟨O,O,O,O,Z⟩)<|QP U5 λb7 w5 hk hl hm=>Q0 [sL b10 2 2,sS 2,sL b11 1 1,sL b16 2 2] hm oy λw6 hn ho=>xe ?_;have I:sW T w6:=hk.O hn hl;refine Ql<|QY ho O O<|x (Zq [(0,[.string nm]),(1,[sL b10 2 2,sS 2,sL b11 1 1,sL b16 2 2])] ⟨O,O,O,O,Z⟩) <|
  Q0 [.string nm,sL b10 2 2,sS 2,sL b11 1 1,sL b16 2 2] ((J.I U).I I) ⟨O,O,O,O,O,Z⟩ λw7 V hp=>xe ?_
 obtain⟨xa,xm,hw,hq,hA⟩:=hF;have Y:=OR (λv=>match v with|Value.agg cs=>cs.toList|_=>[]) hq
 simp only[List.cons.injEq,and_true]at Y;obtain⟨rfl,_,rfl,rfl⟩:=Y;refine Qj ⟨[.agg #[.string nm,sL b10 2 2,sS 2,sL b11 1 1,sL b16 2 2]],⟨Jm hp,Z⟩,(hj.D I).O V hc,_,_,_,O,ox,λL hL=>?_⟩;have h1:=(hA (b6::L) (λb hb=>by
  rcases Ll.1 hb with rfl|hb
  ·exact he
  have:=hL b hb;omega)).I I
 exact(h1.st (V.Y od)).up (λb hb=>.inl (Lm _ hb))
def nmZ (p:Array UInt8)(i:Nat):ByteArray:=⟨p⟩++⟨#[UInt8.ofNat (97+i)]⟩
abbrev QgX:Array UInt8:=#[115,116,97,114,116]
abbrev QdV:Array UInt8:=#[102,105,110,105,115,104]
abbrev Jc:Array UInt8:=#[109,97,99,104,105,110,101]
def Qa7 (i:Nat):List KX:=[⟨nmZ QgX i,true,true,false,0⟩,⟨nmZ QdV i,false,true,false,0⟩]
def mzE (c:Nat):List KX:=(oK c).flatMap Qa7
def Qov (i:Nat):Kp:=⟨nmZ Jc i,mzA (2*(i:Int)) (2*(i:Int)+1)⟩
def mzC (c:Nat):Yl:=⟨mzE c,(oK c).map Qov,[],[],[]⟩
theorem Ut (p:Array UInt8)(i:Nat)(h:p.size<=10):z7 (nmZ p i):=by
 show(ByteArray.mk _++ByteArray.mk _).size<=_;rw[ByteArray.size_append];show p.size+1<=_;omega
theorem QmD (c:Nat):∀e∈mzE c,z7 e.nm:=λe E=>by
 unfold mzE at E;obtain⟨i,_,hi⟩:=Mb.1 E;simp only[Qa7,oJ,oH,or_false]at hi;rcases hi with rfl|rfl
 ·exact Ut _ _ og
 exact Ut _ _ og
theorem Qa8 (c:Nat):mzE (c+1)=mzE c++Qa7 c:=by unfold mzE;rw[Nf,LC];simp
theorem Qd6:∀c,(mzE c).length=2*c
 | 0=>rfl
 | c+1=>by rw[Qa8,Lc,Qd6 c];show 2*c+2=_;omega
theorem Qfd (i:Nat):∀u∈(Qa7 i).flatMap Zv,u.oneCell'=true:=λu E=>by
 obtain⟨e,_,G⟩:=Mb.1 E;exact Qbs e u G
theorem JD (c:Nat)(hV:c<=4)(w:OX):QT sV 182 [sS c] w λr w'=>sW w w'/\ym ↑w ↑w' r (mzC c):=by
 refine Zn func182 ?_;refine Qc<|QP Jo λb2 w1 hD hW ht=>xe ?_;refine Qc<|QP Jo λJ S hv hX hw=>xe ?_;have hY:=ht.lt;have hj:=hw.lt;refine Qe<|Ql<|Qa<|xe<|QW (α:=Nat×OY×List KX×OY×List IV) [(4,4),(6,42)] (λz=>[(6,sS z.1)])
  (λz w'=>z.1<=c/\O1 [J] S w'/\QK ↑w' J 46 [z.2.1,z.2.2.2.1,Zo,Zo,Zo]/\yk ↑S w' z.2.2.2.1 z.2.1 z.2.2.2.2 z.2.2.1/\z.2.2.1=mzE z.1/\z.2.2.2.2.map IV.it=(oK z.1).map Qov/\∀q∈z.2.2.2.2,z7 q.nm)
  (λz=>c - z.1) (0,Zo,[],Zo,[]) La ⟨Ln _,O1.Z _ _,hw,yk.nil,O,O,λq E=>by cases E⟩ ?_
 rintro⟨i,ve,ev,vc,co⟩ g3 w3 ⟨hi,ha,hf,G,T,U,hk⟩;simp only[]at hi hf G T U hk;have hZ:=ha.size;have ga:ev.length=2*i:=by rw[T];exact Qd6 i
 have gb:co.length=i:=by have:=OR oY U;simpa using this
 refine Zi rfl O (λh7=>?_) (λh7=>?_)
 ·refine Qu ?_;have hE:i=c:=by have h8:¬(i:Int)<(c:Int):=h7;omega
  rw[hE]at T U;have hF:b2∉[J]:=ol
  have hl:=(ht.I hv).J ha hF;refine Qc<|QY hf O O<|Q0 [ve,vc,Zo,Zo,Zo] hl ⟨Qz G.a,Qz G.c,O,O,O,Z⟩ λw4 I hG=>xe ?_;have hH:∀b∈[b2],b<S.heap.size:=λb hb=>by rw[Lb.1 hb];omega
  have hm:=G.low I hH;refine Qj ⟨[.agg #[ve,vc,Zo,Zo,Zo]],⟨Jm hG,Z⟩,((hD.D hv).O ha oa).O I oa,⟨ve,vc,Zo,Zo,Zo,ev,co,[],[],[]⟩,O,?_,λL hL=>?_⟩
  ·show(⟨ev,co.map IV.it,[],[],[]⟩:Yl)=mzC c;rw[T,U];rfl
  have hy:∀b∈L,b<S.heap.size:=λb hb=>oo (hL b hb)
  exact⟨⟨QN hm.a (by show ev.length<=_;omega) (λb hb hI=>oq (Qi hm.a b hb).1 (hy b hI)),λe he=>QmD c e (by rw[<-T];exact he)⟩,hm.itms oa hk hy,⟨Zs.nil _ _ 5,λq E=>(by cases E),λq E=>(by cases E)⟩,⟨Zs.nil _ _ 2,λq E=>(by cases E),λq E=>(by cases E)⟩,⟨Zs.nil _ _ 3,λq E=>(by cases E),λq E=>(by cases E)⟩⟩
 have hJ:i<c:=by have h8:(i:Int)<(c:Int):=h7;omega
 have hu:(97:Int)+(i:Int)=((97+i:Nat):Int):=oa
 refine Qf<|Qe<|Qn<|Ql<|Qb<|Qc<|Qr O hf O O<|Qa<|QC O O<|x (Z9 (k':=.i32) O ⟨oa,oa⟩)<|x (Uk (n:=97+i) (OR (Value.int .i32) hu) oa)<|x (YA (a:=⟨QgX⟩) (b:=⟨#[UInt8.ofNat (97+i)]⟩) O O (by show 5+1<=1000000000;omega))<|x (QB ⟨O,O,O,Z⟩) <|
  Qa<|QC rfl O<|x (Z9 (k':=.i32) O ⟨oa,oa⟩)<|x (Uk (n:=97+i) (OR (Value.int .i32) hu) oa)<|x (YA (a:=⟨QdV⟩) (b:=⟨#[UInt8.ofNat (97+i)]⟩) O O (by show 6+1<=1000000000;omega))<|x (QB ⟨O,O,Z⟩) <|
  Qo<|Q5 ((Qa7 i).map Zv) λgc w4 I ge hl=>?_
 have gg:=I.size;have hK:J∉ob ve:=QJ G.a hj;have hz:J∉ob vc:=QJ G.c hj;have hM:=Qi G.c;refine Qo<|Q2 (m:=2) (news:=(Qa7 i).flatMap Zv) (L:=[]) (Qm G.a I) O O O (hl.at od) (Qfd i) oa oa λhn w5 h0 ho hN=>?_;refine Q7 rfl<|Qo<|Qv (j:=0) (u:=hn) ((hf.I I).J ho hK) O O od (Qz h0) λV h1 h2=>xe ?_;have hO:yk ↑S w5 vc hn co (ev++Qa7 i):=(G.I I).setA (by rw[Lc,LC];exact h0) ho hN;have h3:∀b∈[J],b<S.heap.size:=λb hb=>by rw[Lb.1 hb];exact hj
 have h4:=hO.low h1 h3;have h5:O1 [J] S V:=((ha.D I.any).S ho (λb hb=>.inr ((Qi G.a) b hb).1)).Q h1;have gh:=h5.size;have hP:sW V { V with drawn:=V.drawn+1 }:=O1.C _ _
 refine ZJ (ob vc) (Y4 0 17 [12,13,14,16])<|p (QH O)<|pq (λ_ hc=>Qk (h2.J hc hz) O O)<|p Qy<|p (λ_=>YE O O ⟨oa,oa⟩)<|p (λ_=>Z9 (k':=.i32) O ⟨oa,oa⟩)<|p (λ_=>Uk (n:=97+i) (OR (Value.int .i32) hu) oa) <|
  p (λ_=>YA (a:=⟨Jc⟩) (b:=⟨#[UInt8.ofNat (97+i)]⟩) O O (by show 7+1<=1000000000;omega))<|p Qy<|p (λ_=>QgJ O O ⟨oa,oa⟩)<|p Qy<|p (λ_=>QgJ O O ⟨oa,oa⟩)<|p (λ_=>YE O O ⟨oa,oa⟩) <|
  pk<|xg<|(Qdp (nmZ Jc i) (2*(i:Int)) (2*(i:Int)+1) _).Y ?_
 rintro r7 w7 ⟨hQ,xa,xm,hg,rfl,hp,hA⟩;have hr:=hP.D hQ;refine⟨hr.any,?_⟩;refine pk<|Q5 [Zm ⟨nmZ Jc i,⟨xa,xm,hg,mzA (2*(i:Int)) (2*(i:Int)+1)⟩⟩] λgi w8 hs gj hR=>⟨(hr.D hs).any,?_⟩;have Y:=hr.D hs;have h6:=h4.I Y;refine pk<|Q2 (news:=Zm ⟨nmZ Jc i,⟨xa,xm,hg,mzA (2*(i:Int)) (2*(i:Int)+1)⟩⟩) (L:=[]) h6.c O O O (hR.at od) (jX hp.1 hp.2.1 hp.2.2.1) oa (oo Y.size) λh9 w9 hB hh hS=>⟨(Y.any (L:=ob vc)).Q hh,?_⟩;have hT:=h6.setC (zj (q:=⟨nmZ Jc i,⟨xa,xm,hg,mzA (2*(i:Int)) (2*(i:Int)+1)⟩⟩) (N:=↑V) (λL hL=>(hA L hL).I hs) oa h4.avlt) hB hh hS;refine p (QH O)<|pkk<|Qv (j:=1) (u:=h9) ((h2.I Y).J hh hz) O O od (Qz hB) λgk hC hU=>pe ?_;refine Qs<|QC O O<|Qa<|xe<|⟨(i+1,hn,ev++Qa7 i,h9,co++[⟨nmZ Jc i,⟨xa,xm,hg,mzA (2*(i:Int)) (2*(i:Int)+1)⟩⟩]),oe,La,hJ,((h5.D Y.any).S hh (λb hb=>.inr (hM b hb).1)).Q hC,hU,hT.low hC h3,?_,?_,λq E=>?_⟩
 ·simp only[];rw[Qa8,T]
 ·simp only[];rw[Lv,U,Nf,Lv];rfl
 rcases Le.1 E with E|E
 ·exact hk q E
 rw[Lb.1 E];exact Ut _ _ og
instance skRsn:Sk sV 173 [0,0,0,0]:=⟨⟨_,underlying173,.int og O underlying3<|.int og O underlying3<|.int og O underlying3<|.int og O underlying3 .nil⟩,oc,oc⟩
theorem Uz {v:OY}{l:List Rsn}(h:Zs L ↑w v l.length 4 (l.flatMap ZZ))(E:Zs L' ↑w v' l.length 4 (l.flatMap ZZ)):
  QT sV 184 [v,v'] w λr w'=>r=.bool true/\sW w w':=by
 haveI:DecidableEq Rsn:=λ_ _=>Classical.propDecidable _;exact(eqG ⟨_,O,func184⟩ Qgz (ldA Qgz) h E λ{_ _ _ _ _ _ _ _ _ a b} _ _ hx G=>(QaV (xs:=ZZ a) (ys:=ZZ b) O hx G).D (by cases a;cases b;simp[zx,eqV];rfl)).Y λ_ _ ⟨I,J⟩=>⟨by rw[I];simp,J⟩
def VL:ByteArray:=⟨#[110,101,118,101,114]⟩
def jN:ByteArray:=⟨#[98,111,116,104]⟩
def jM:ByteArray:=⟨#[109,111,115,116]⟩
def jZ:Kp:=⟨VL,⟨[1],1,[0],[]⟩⟩
def Qnc (i j:Int):Exc:=⟨jN,[(i,1),(j,1)]⟩
def Qno:xG:=⟨jM,[(0,1),(1,1)],1⟩
def k1C:Yl:={ mzC 1 with rq:=[jZ] }
def k2C:Yl:={ mzC 2 with ex:=[Qnc 0 1] }
def k3C:Yl:={ mzC 2 with cs:=[Qno] }
theorem QoG:Y2 k1C=0:=oc
theorem QoF:(spc k1C).fb=[⟨1,3,0,1⟩]:=oc
theorem QlO:(spc k1C).a.st=2:=oc
theorem QmS:Qew k1C=true:=oc
theorem QmT:cmB k1C=[2]:=oc
theorem Qp1:Y2 k2C=0:=oc
theorem QoD:(spc k2C).fb=[⟨3,1,0,-1⟩]:=oc
theorem QoC:(spc k2C).a.st=4:=oc
theorem Qp0:Y2 k3C=0:=oc
theorem QoA:(spc k3C).fb=[⟨3,2,0,-1⟩]:=oc
theorem QeL {v:OY}(E:v.cells=#[v]):QT sV 282 [v] w λr w'=>sW w w'/\∃b,r=.func (.func 309) #[] #[sP b]/\↑w<=b/\QK ↑w' b 47 [v]:=by
 refine Zn func282 ?_;refine Qc<|Qo<|UR (us:=[v]) E λG T I J S=>Qb<|Qc<|x Zl<|Qb<|Qj ⟨[_],La,I,G,O,J,S⟩
theorem QaB {S:Nat}{v:OY}{es:LI}(hc:QK ↑w S 47 [v])(hE:Qt L ↑w v es):
  SeqStopsK (fen none) m sV 309 #[sP S] (λx:Int=>#[sS x]) (Lw ↑w L) (λys=>ys=es) (λ_=>True) (es.length+1) w:=by
 intro l J Jx W hf hJ hg hY h0;have V:sW w W:=O1.of_below hf;have hn:=hE.le;have ab:∀{ys:LI} {W1 W2:OX},J ys W1->sW W1 W2->J ys W2:=λ{ys W1 W2} hj T=>hJ ys W1 W2 none hj ⟨T.os,T.tape,T.output,T.size,λk U _=>T.block k U od⟩ (λr e=>by cases e);have key:QT sV 309 [.func (.yield l) #[] #[],sP S] W (λ_ W'=>(∃ys,ys=es/\J ys W')\/(∃pre,True/\Jx pre W')):=by
  refine QT.of_G m func309 O ntmps309 results309 od ?_;refine QQ<|Qx oh oh<|ZA (hc.I V) O O<|QG (hE.I V) O<|Qa<|xe<|ZL<|Kf (α:=Nat) [(4,4),(7,15)] (λk=>[(7,sS k)]) (λk ds W'=>ds=[]/\k<=es.length/\O1 L w W'/\J (es.take k) W') (λk=>es.length - k) oh 0 La
   ⟨O,Ln _,V.any,h0⟩ ?_
  rintro k g ds w1 ⟨rfl,U,ha,Y⟩;refine QQ<|Qx oh oh<|ZX O O<|xe<|QQ<|V9 O (λh8=>?_) (λh8=>?_)
  ·refine Jl ?_;have hh:es.length<=k:=by have h9:¬(k:Int)<(es.length:Int):=h8;omega
   rw[Lq hh]at Y;exact⟨λ_ h=>(by cases h),Ml,[],λW' E=>⟨Z,.inl ⟨es,rfl,ab Y E⟩⟩⟩
  refine Z4 ?_;have G:k<es.length:=by have h9:(k:Int)<(es.length:Int):=h8;omega
  have hl:es.take (k+1)=es.take k++[es[k]'G]:=Lh G;have ho:(es.take k).length=k:=by rw[LA];omega
  refine QQ<|ZL<|QQ<|Qx oh oh<|xii (i:=k) (hE.st ha) O O G λa9 h9=>x (Qq h9 O)<|Qb<|QQ<|JZ oh ?_;refine X5.pre2 ?_;refine Qa<|Qa<|xe<|xy (l:=l) O (hY (es.take k) (es[k]'G) w1 Y oa) λen W3 hm=>Or.elim hm (λI=>⟨.bool true,I.1,?_⟩) (λI=>⟨.bool false,I.1,?_⟩)
  ·refine X5.of_XL<|x (Zh O)<|xe<|JF O<|Z4 ?_;refine Qx oh oh<|QC O O<|Qa<|xe ?_;exact⟨k+1,oa,La,O,G,ha.lw I.2.2,by rw[hl];exact I.2.1⟩
  refine X5.of_XL<|x (Zh O)<|xe<|z0 O ?_;refine JE ⟨λ_ h=>(by cases h),Ml,[],λW' E=>⟨Z,.inr ⟨es.take k++[es[k]'G],Z,?_⟩⟩⟩;exact hg _ W3 W' none I.2 ⟨E.os,E.tape,E.output,E.size,λk U _=>E.block k U od⟩ (λr e=>by cases e)
 refine(callsIn_wide (n:=m)).2 ?_;have ea:(#[.func (.yield l) #[] #[]]++[sP S].toArray:Array OY)=#[.func (.yield l) #[] #[],sP S]:=od
 rw[ea];unfold QT at key;refine Calls.mono key λe w' he=>?_;cases e with
 | returned v=>exact⟨⟨v,O⟩,he⟩
 | panicked c=>exact he.elim
 | outgrown=>exact he.elim
theorem QfH {V:Nat}{v:OY}{es:LI}(hk:QK ↑w V 47 [v])(hE:Qt [] ↑w v es)(hl:es.length<=1000):
  QT sV 321 [Zo,.func (.func 309) #[] #[sP V]] w λr w'=>sW w w'/\Qh 3 ↑w w' r es:=by
 refine QT.of_G 20 func321 O ntmps321 results321 od ?_;refine QQ<|Qx oh oh<|Zd [Zo] λS w1 U he hf=>Qb ?_;have hr:=U.size;have hs:=hf.lt;refine QQ<|QQ<|Qx oh oh<|Qa<|xe<|ZL<|QeI (α:=Int) [S] oa (capt:=[sP V]) O (enc:=λx=>sS x) og
  (QaB (hk.I U) ((hE.up (L':=[S]) (λb hb=>.inr (by rw[Lb.1 hb];exact he))).I U))
  (λpre W=>∃vo,O1 [S] w1 W/\QK ↑W S 47 [vo]/\Qh 3 ↑w1 W vo pre)
  (λpre=>Z7.ex λvo=>(Z7.J (Lp _)).and (Z7.blk.and Z7.row))
  ⟨Zo,O1.Z _ _,hf,QM _ _ _ _⟩
  (λf x Y W=>Y=upd (upd f 7 (sS x)) 5 (sS x)) (λx Y=>Z7.pure _) ?_ ?_ ?_
 ·rintro l pre e W ⟨vo,J,I,E⟩;refine Qx oh oh<|Qb<|⟨O,Xy.refl _ _ _,⟨vo,J,I,E⟩,O⟩
 ·rintro l pre e Y W ⟨vo,J,I,E⟩ rfl hN;have hg:S∉ob vo:=QJ E oa;have hge:=Qi E;have hn:=J.size;refine ZL<|Qx oh oh<|ZA I O O<|Qa<|Qo<|Q5 [[sS e]] λb10 w2 G ht ho=>?_;refine Qo<|Q2 (m:=1) (news:=[sS e]) (Qm E G) O O O (ho.at (L:=[]) od) om oa (oo G.size) λv3 w3 ha T hu=>?_;refine Qo<|Qv (u:=v3) ((I.I G).J T hg) O O od (Qz ha) λw4 hc hp=>xe ?_;have hv:=G.size;refine⟨((Xy.I G hn).D (Xy.J T oa (λb hb=>⟨.inr (hge b hb).1,Go.Lg.Q3 (Qm E G) b hb⟩))).D (Xy.blk hc (oo T.size) ((I.I G).J T hg) (.inl Lo)),v3,((J.D G.any).S T (λb hb=>.inr (hge b hb).1)).Q hc,hp,?_⟩;exact Qh.snoc (Qg ha hc (λb hb=>by have:=(Qi ha b hb).1;simp only[oF];omega))
 rintro D xs W hD rfl ⟨vo,J,I,E⟩ hh;refine QQ<|Qx oh oh<|ZA I O O<|Qb<|JE ⟨λD' hq=>by rw[Lb.1 hq];exact hh,Nw _ _,[vo],λW' hj=>⟨La,(U.O J he).S hj (λb hb=>.inr (by rw[Lb.1 hb];omega)),?_⟩⟩;refine Q8 (Qg E hj (λb hb hm=>?_)) oa;rw[Lb.1 hm]at hb;obtain⟨o,h1,h2⟩:=Go.Lg.Q3 E _ hb;rw[hh]at h1;cases h1
 cases h2
theorem Qc1 {v:OY}{es:LI}(G:QK ↑w E 47 [v])(hE:Qt [] ↑w v es)(I:es.length<=1000):
  QT sV 308 [.func (.func 309) #[] #[sP E]] w λr w'=>sW w w'/\Qh 3 ↑w w' r es:=by
 refine Zn func308 ?_;refine Qc<|Qb<|Ql<|Qw<|(QfH G hE I).Y ?_;rintro J U ⟨S,T⟩;refine Qb<|Qj ⟨[J],La,S,T⟩
theorem QeQ {v:OY}{es:LI}(I:QK ↑w E 47 [v])(hE:Qt [] ↑w v es)(J:es.length<=1000):
  QT sV 281 [.func (.func 309) #[] #[sP E]] w λr w'=>sW w w'/\Qh 3 ↑w w' r (es.mergeSort λx y=>decide (x<=y)):=by
 refine Zn func281 ?_;refine Qc<|Qb<|Ql<|Qw<|(Qc1 I hE J).Y ?_;rintro S Y ⟨T,G⟩;refine Qb<|Ql<|Qw<|(JL G oa).Y ?_;rintro r2 w2 ⟨U,V⟩;refine xe<|Ql<|Qb<|Qj ⟨[S],La,T.S U (λb hb=>.inr (Qi G b hb).1),V⟩
theorem Qeg {n:Int}:∀{l:LI}(i:Nat),n∈l->fix (λe=>decide (n=e)) i l=((i+l.idxOf n:Nat):Int)
 | a::l,i,h=>by
  rw[Yq,List.idxOf_cons];by_cases e:n=a
  ·simp[e]
  rw[OP (ou e),show(a == n)=false by simpa using Ne.symm e,Qeg (i+1) ((Ll.1 h).resolve_left e)];simp only[cond_false];omega
theorem Qm2 {v:OY}(h:Qt L ↑w v l){n:Int}(E:n∈l):
  QT sV 139 [v,sS n] w λr w'=>w'=w/\r=sS (l.idxOf n:Nat):=
 (yR h n).Y λ_ _ ⟨G,I⟩=>⟨G,by rw[I,Qeg 0 E,LT]⟩
def rlE (a:QF)(to:LI):List Ed:=a.ed.map λe=>(e.1,O2 to (a.al.idxOf e.2.1),e.2.2)
theorem Qdj {to sa:LI}{se:List Ed}(h:Zr [] ↑w va vm ve a)(hck:XK a=0)(ho:Zb a)(ht:Qt [] ↑w vt to)(hC:to.length=a.al.length)(hK:∀e∈to,0<=e/\e<32)(gx:to.Nodup)
  (hM:to.mergeSort (λx y=>decide (x<=y))=sa) (gy:∀l',l'.Perm (rlE a to)->l'.Pairwise Qbz->l'=se) (gz:Zb ⟨sa,a.st,a.mr,se⟩):
  QT sV 250 [.agg #[va,sS a.st,vm,ve],vt] w λr w'=>sW w w'/\∃v,r=.tuple #[v,sS 0]/\Y1 ↑w ↑w' v (X0 ⟨sa,a.st,a.mr,se⟩):=by
 have k6:=ho.st0;have k9:=ho.st1;have ma:=ho.al_le;refine Zn func250 ?_;refine Qc<|Zd [va,sS a.st,vm,ve] λb2 w1 hN mc g0=>QP U5 λb4 w2 hO mf hP=>Qb ?_;have hQ:=hN.D hO;have mg:=hN.size;have mh:=hP.lt;have hR:=g0.I hO;refine Qe<|Qc<|QY hR O O<|Qw<|(YV (h.I hQ)).Y ?_;rintro r3 w3 ⟨hS,hw⟩;rw[hck]at hS;subst hS;have hD:=hQ.D hw;have mj:=hw.size;have hf:=hR.I hw;refine Qb<|Ql<|ZI O O<|xe<|Zz rfl<|Qf ?_;have hz:=h.I hD;have V:=ht.I hD;refine Qe<|Ql<|QG V O<|Qr O hf O O<|QG hz.al O<|ZI O O<|xe<|Za rfl (λhT=>OS (OR (λm:Nat=>(m:Int)) hC) hT) (λhT=>?_);refine Qf<|QV (α:=Unit) [(5,5),(7,8),(25,47)] (λ_=>[]) (λ_ w'=>w'=w3) oh ?_ ?_
 ·refine Ql<|QG V O<|Qa<|xe<|QW (α:=Nat) [(5,5),(7,8),(27,47)] (λk=>[(27,sS k)]) (λk w'=>w'=w3/\k<=to.length) (λk=>to.length - k) 0 La ⟨O,Ln _⟩ ?_;rintro k g w' ⟨rfl,hk⟩;refine Zi O O (λhU=>?_) (λhU=>?_)
  ·refine Qu ?_;exact⟨(),Z,O⟩
  have I:k<to.length:=by have mo:(k:Int)<(to.length:Int):=hU;omega
  have g2:=hK _ (Lk I);have hV:(to[k]'I)∉to.take k:=λhm=>by
   obtain⟨j,hj,hW⟩:=LM hm;rw[MZ]at hW;have g3:j<k:=by rw[LA]at hj;omega
   have:=(Md.1 gx) j k oa I g3;exact this hW
  refine Zf (to[k]'I) λe U=>?_;rw[U]at g2 hV;refine Qf<|Qe<|Qn<|Ql<|xii V O O I λmq hX=>?_;rw[U]at hX;refine x (Qq hX O)<|x Qd<|Qb<|Qn<|Ql<|xb (Yw O O) (λhY=>OS (show e<0 from hY) oa) (λhY=>?_);refine Qa<|Qa<|x (Yd O O)<|QA O<|Qb<|Za O (λhZ=>OS (show e≥32 from hZ) oa) (λhZ=>?_);refine Ql<|Qa<|Ql3 V O O oa λg4 g5=>?_;have g6:Qt [] ↑w' g4 (to.take k):=by
   unfold Qt;have g7:(to.take k).length=k:=by rw[LA];omega
   rw[g7,List.map_take];simpa using g5
  refine Qa<|Qw<|(ZE g6 e).Y ?_;rintro ms w' ⟨rfl,rfl⟩;refine Qb<|Za O (λga=>OS ga hV) (λga=>?_);refine Qf<|Qs<|QC O O<|Qa<|xe ?_;exact⟨k+1,oa,La,O,I⟩
 rintro⟨⟩ g w' rfl;have g8:sW w' { w' with drawn:=w'.drawn+1 }:=O1.C _ _
 refine QV (α:=Nat×OY) [(9,9),(48,55)] (λz=>[(9,.pointer (some ⟨z.1,0,none⟩))]) (λz G=>sW w' G/\↑w'<=z.1/\QK ↑G z.1 53 [z.2,sS a.st,vm,nS]/\z.2.oneCell'=true/\∀L:LN,(∀b∈L,b<↑w'\/b=z.1)->Qt L ↑G z.2 sa) oh ?_ ?_
 ·refine Jj _ mixed oh (Vp (α:=OY) (sW w') [oz 0,oz 3,oz 4,oz 5,oz 6] [oA 1,oA 2,oz 7] 8 9 [oA 9] [] [(48,55)] [(49,50),(55,55)] (λz=>[(55,.agg #[z,sS a.st,vm,nS])])
   (λz own G=>(∀b∈own,↑w'<=b)/\z.oneCell'=true/\∀L:LN,(∀b∈L,b∉own)->Qt L ↑G z sa)
   (λv G=>∃b,v=sP b/\↑w'<=b/\QK ↑G b 53 U5) oc oh O g8 od ?_ ?_ ?_ ?_)
  ·rintro v own wa wb ⟨b,rfl,hb,hB⟩ hs hn;exact⟨b,O,hb,hB.J hs (hn b (by simp[ow]))⟩
  ·rintro z own wa wb ⟨h1,Y,h3⟩ hs;exact⟨h1,Y,λL hL=>(h3 L hL).I hs⟩
  ·rintro z g own wz v ⟨i1,i2,i3⟩ g9 ⟨E,rfl,hg,h0⟩ ka;have gb:=(ka E (by simp[ow])).1;refine pkk<|Us [z,sS a.st,vm,nS] h0 ⟨i2,O,hz.mr.one,O,Z⟩ λG ha kb=>pe ?_;refine⟨(E,z),La,g9.O ha hg,hg,kb,i2,λL hL=>?_⟩;have h1:=i3 (E::L) (λb hb=>by
    rcases Ll.1 hb with rfl|hb
    ·exact gb
    rcases hL b hb with Y|Y
    ·exact λh3=>oo (i1 b h3)
    subst Y;exact gb)
   exact(h1.st (ha.Y od)).up (λb hb=>.inl (by simp[hb]))
  refine Go.Lg.p Qy<|Go.Lg.p (QH O)<|pq (λ_ hc=>Qk (hf.I hc) O O)<|Go.Lg.p (QH O)<|pq (λ_ hc=>Qk (hf.I hc) O O) <|
   pe ⟨λg wf kc=>flA U5 kc,?_⟩
  refine f2k λx1 p1 c1=>xg<|(QeL V.cells).Y ?_;rintro mt y1 ⟨gc,mu,rfl,mv,hE⟩;refine⟨c1.D gc,rgB ↑x1 ↑y1,gc.any,λb hb=>.inr (VN.1 hb),?_⟩;refine f2k λx2 p2 c2=>xg<|(QeQ (hE.I p2) (V.I c2) oa).Y ?_;rintro ke y2 ⟨ge,hh⟩;rw[hM]at hh;refine⟨c2.D ge,rgB ↑x1 ↑y1++rgB ↑x2 ↑y2,ge.any,λb hb=>(Le.1 hb).imp id λhb=>VN.1 hb,?_⟩;refine f3p (λ_=>QB ⟨xH hh,O,hz.mr.cells,Z⟩)<|f2e ?_;refine⟨ke,La,λb hb=>?_,Qz hh,λL hL=>?_⟩
  ·have e1:=c1.size;have e2:=c2.size;rcases Le.1 hb with hb|hb
   ·have:=VN.1 hb;omega
   have:=VN.1 hb;omega
  exact QN hh (by rw[<-hM,(M5 to _).length_eq];omega) (λb hb hm=>hL b hm (Le.2 (.inr (VN.2 (Qi hh b hb)))))
 rintro⟨E,vs⟩ g G ⟨ha,hg,h0,hvo,kf⟩;have gg:=h0.lt;have gh:=hf.I ha;have gi:∀b∈[E],b∈([]:LN)\/↑w'<=b:=λb hb=>.inr (by rw[Lb.1 hb];exact hg);have hl:Zr [E] ↑G va vm ve a:=(hz.up gi).I ha;have kg:Qt [E] ↑G vt to:=(V.up gi).I ha;have mw:=hl.ed.le;have kh:b2∉[E]:=by have:=hf.lt;simp only[oF];omega
 have my:b4∉[E]:=ol
 have ki:(rlE a to).length=a.ed.length:=by unfold rlE;rw[Lj]
 have kj:∀e∈rlE a to,(0<=e.1/\e.1<1099511627776)/\0<=e.2.1/\e.2.1<1099511627776:=λe U=>by
  unfold rlE at U;obtain⟨d,hd,rfl⟩:=Lz.1 U;have h1:=ho.ed d hd;have Y:a.al.idxOf d.2.1<to.length:=by rw[hC];exact MG h1.2.2.1
  have h3:=hK _ (Lk Y);have h4:=Zu Y;simp only[];omega
 refine QV (α:=OY) [(11,11),(56,78)] (λ_=>[]) (λz J=>O1 [E] G J/\QK ↑J E 53 [vs,sS a.st,vm,z]/\J.ownsRow ↑G 179 3 z (rlE a to).length ((rlE a to).flatMap Qp)) oh ?_ ?_
 ·refine Qc<|Qr O gh O O<|QG hl.ed O<|Qa<|xe<|QW (α:=Nat×OY) [(11,11),(59,78)] (λz=>[(59,sS z.1)]) (λz J=>z.1<=a.ed.length/\O1 [E] G J/\QK ↑J E 53 [vs,sS a.st,vm,z.2]/\J.ownsRow ↑G 179 3 z.2 z.1 (((rlE a to).take z.1).flatMap Qp)) (λz=>a.ed.length - z.1) (0,Zo) La ⟨Ln _,O1.Z _ _,h0,QM _ _ _ _⟩ ?_;rintro⟨k,vr⟩ g J ⟨hk,S,hq,T⟩;refine Zi O O (λhG=>?_) (λhG=>?_)
  ·refine Qu ?_;have kk:k=a.ed.length:=by have h5:¬(k:Int)<(a.ed.length:Int):=hG;omega
   rw[Lq oa,kk,<-ki]at T;exact⟨vr,Z,S,hq,T⟩
  have I:k<a.ed.length:=by have h5:(k:Int)<(a.ed.length:Int):=hG;omega
  have hH:=ho.ed _ (Lk I);have kn:(rlE a to)[k]'oa=((a.ed[k]'I).1,O2 to (a.al.idxOf (a.ed[k]'I).2.1),(a.ed[k]'I).2.2):=by unfold rlE;rw[Na]
  have hr:(rlE a to).take (k+1)=(rlE a to).take k++[(rlE a to)[k]'oa]:=Lh oa;rw[kn]at hr;refine Zf (a.ed[k]'I) λe U=>?_;rw[U]at hH hr;have hix:a.al.idxOf e.2.1<to.length:=by rw[hC];exact MG hH.2.2.1
  rw[<-Zu hix]at hr;refine Zf (to[a.al.idxOf e.2.1]'hix) λy hy=>?_;rw[hy]at hr;refine Qf<|Qe<|Qn<|Qc<|xie (i:=k) (hl.ed.st S) O O I λmz h5=>?_;rw[U]at h5;refine x (QE h5 O O)<|QP [sS 0,sS 0,sS 0] λb11 w7 hu gj ko=>Q0 (Qp e) ko ox λw8 h6 gk=>xe ?_;have h7:sW J w8:=hu.O h6 gj;have kp:=S.size;refine Ql<|Qr O ((gh.J S kh).I h7) O O<|Qr O gk O O<|Qw<|(Qm2 ((hl.al.st S).I h7) hH.2.2.1).Y ?_;rintro m0 w8 ⟨rfl,rfl⟩;refine xii ((kg.st S).I h7) O O hix λm1 gl=>?_;rw[hy]at gl;refine x (Qq gl O)<|Q7 O<|Qo<|Qv (u:=sS y) gk O O (by simp[Qp]) rfl λw9 h8 kq=>xe ?_;have kr:QK ↑w9 b11 179 (Qp (e.1,y,e.2.2)):=kq;have h9:sW J w9:=h7.O h8 gj;have gm:=hq.I h9;have n9v:E∉ob vr:=QJ T gg;have m2:=h9.size;refine Qs<|Qr O gm O O<|QY kr O O<|Qo<|Q5 [Qp (e.1,y,e.2.2)] λm3 m4 hA m5 kt=>?_;refine Qo<|Q2 (m:=1) (news:=Qp (e.1,y,e.2.2)) (L:=[]) (Qm (Qm T h9) hA) O O O (kt.at od) (by simp[Qp,Value.oneCell']) oa (oo hA.size) λgn m6 hI go m7=>?_;refine Q7 O<|Qo<|Qv (u:=gn) ((gm.I hA).J go n9v) O O od (Qz hI) λm8 gq ku=>xe ?_;refine Qs<|QC O O<|Qa<|xe<|⟨(k+1,gn),oe,La,I,(((S.D h9.any).D hA.any).S go (λb hb=>.inr ((Qi T) b hb).1)).Q gq,ku,?_⟩;simp only[];rw[hr,LC];simpa using(Qg hI gq (λb hb=>by have:=(Qi hI b hb).1;simp only[oF];omega))
 rintro vr g J ⟨S,hq,T⟩;have n9r:E∉ob vr:=QJ T gg;have kp:=S.size;have gr:=Qi T;refine Qc<|Qr O hq O O<|Qw<|(jt T oa kj).Y ?_;rintro r7 w7 ⟨hu,l',hp,kv,kw⟩;have kx:=gy l' hp kv;subst kx;refine xe ?_;have kz:∀b∈E::ob vr,b∈[E]\/↑G<=b:=λb hb=>by
  rcases Ll.1 hb with rfl|hb
  ·exact .inl Lo
  exact .inr (gr b hb).1
 have gs:∀{v:OY} {l:LI},Qt [E] ↑G v l->Qt [] ↑w7 v l:=λhv=>(((hv.up kz).st (S.Y od)).st (hu.Y (λb hb=>Lm _ hb))).up (λb hb=>by cases hb);have k0:Ua [] ↑w7 vr l':=QN kw (oo hp.length_eq) od;have k4:Zr [] ↑w7 vs vm vr ⟨sa,a.st,a.mr,l'⟩:=⟨gs (kf [E] (λb hb=>.inr (Lb.1 hb))),gs hl.mr,k0⟩;have hJ:sW w' w7:=(ha.O S hg).S hu (λb hb=>.inr (oo (gr b hb).1));have m9:=hJ.size;refine Qc<|QY (hq.J hu n9r) O O<|Qw<|(Kd k4 gz).Y ?_;rintro v w8 ⟨h6,hF⟩;obtain⟨us,gt,gu,k5⟩:=Xa hF;refine Qo<|Zk (us:=us) (((hP.I hw).I hJ).I h6) O gt gu O k5 λw9 h8 hE=>Qb ?_;have gv:=hD.D hJ;refine Qj ⟨[sT us,sS 0],⟨⟨_,O,ZB gu (hE.at (L:=[]) od).cells⟩,rfl,Z⟩,(gv.D h6).O h8 oa,v,by rw[gt];rfl,?_⟩;exact(YX hF oa h8).Y (oo gv.size)
theorem Qmk {motive:LI->Prop}(nil:motive [])(append_singleton:∀u v,motive u->motive (u++[v]))(u:LI):motive u:=by
 have key:∀r:LI,motive r.reverse:=by
  intro r;induction r with
  | nil=>exact nil
  | cons v r ih=>rw[List.reverse_cons];exact append_singleton _ _ ih
 have:=key u.reverse;rw[List.reverse_reverse]at this;exact this
def enc (u:LI):Int:=u.foldl (λn e=>n*33+(e+1)) 0
theorem KG (u:LI)(v:Int):enc (u++[v])=enc u*33+(v+1):=by unfold enc;rw[Mg];rfl
def QfL (u:LI):Prop:=∀e∈u,0<=e/\e<32
theorem QfL.snoc {v:Int}(h:QfL (u++[v])):QfL u/\0<=v/\v<32:=⟨λe E=>h e (L8 _ E),h v od⟩
theorem Qnd (h:QfL u):0<=enc u:=by
 induction u using Qmk with
 | nil=>exact Mt _
 | append_singleton u v ih=>rw[KG];have:=ih h.snoc.1;have:=h.snoc.2;omega
def rn (a:QF)(x:Int)(u:LI):Int:=u.foldl (λs v=>O8 a.ed s v) x
theorem QjN (a:QF)(x:Int)(u:LI)(v:Int):rn a x (u++[v])=O8 a.ed (rn a x u) v:=by unfold rn;rw[Mg];rfl
structure Fw where
 u:LI
 s:Int
def UT:Fw:=⟨[],0⟩
def wdN (e:Fw)(d:Ed):Fw:=⟨e.u++[d.2.1],d.2.2⟩
def wdR (a:QF)(e:Fw):List Fw:=(QS a.ed e.s).map (wdN e)
def wdL (a:QF)(most:Nat):Nat->Nat->List Fw->Option (List Fw)
 | 0,_,L=>some L
 | f+1,i,L=>if i<L.length then(if(L.getD i UT).u.length=most then some L else if 1024<(L++wdR a (L.getD i UT)).length then none else wdL a most f (i+1) (L++wdR a (L.getD i UT)))else some L
def wds (a:QF)(most:Nat):Option (List Fw):=wdL a most 1025 0 [UT]
structure WdI (a:QF)(most i:Nat)(L:List Fw):Prop where
 ne:0<L.length
 le:i<=L.length
 mx:L.length<=1024
 rx:∀e∈L,e.s=rn a 0 e.u/\0<=e.s/\e.s<a.st/\(∀v∈e.u,v∈a.al)/\e.u.length<=most
 so:L.Pairwise λp q=>enc p.u<enc q.u
 hd:(L.getD 0 UT).u=[]
 pr:∀e∈L,e.u=[]\/∃j v,j<i/\e.u=(L.getD j UT).u++[v]
 ch:∀j v,j<i->0<=O8 a.ed (L.getD j UT).s v->∃e∈L,e.u=(L.getD j UT).u++[v]
theorem Qh6 {L:List Fw}(h:i<L.length):L.getD i UT∈L:=by simp[oO,h]
theorem Qh7 {L r:List Fw}(h:i<L.length):(L++r).getD i UT=L.getD i UT:=by simp[oO,Of h]
theorem WdI.J (T:Zb a){most:Nat}{L:List Fw}(h:WdI a most i L)(hi:i<L.length)(hl:(L.getD i UT).u.length≠most)(hm:¬1024<(L++wdR a (L.getD i UT)).length):WdI a most (i+1) (L++wdR a (L.getD i UT)):=by
 have V:QfL a.al:=T.al;have hSm:∀e∈L,QfL e.u:=λe E u I=>V u ((h.rx e E).2.2.2.1 u I);have hf:=Qh6 hi;obtain⟨r1,r2,r3,r4,r5⟩:=h.rx _ hf;generalize Y:L.getD i UT=ei at *;have ha:∀e∈wdR a ei,∃d∈QS a.ed ei.s,e=wdN ei d/\d.2.1∈a.al/\0<=d.2.2/\d.2.2<a.st/\O8 a.ed ei.s d.2.1=d.2.2:=λe E=>by
  unfold wdR at E;obtain⟨d,hd,rfl⟩:=Lz.1 E;obtain⟨hg,ht⟩:=ZC hd;have hc:=T.ed d hg;refine⟨d,hd,O,hc.2.2.1,hc.2.2.2.1,hc.2.2.2.2,?_⟩;rw[Qd1];obtain⟨k,hk,rfl⟩:=LM hd;refine QcF _ ei.s _ k hk (λe E=>(ZC E).2) O (λm hh e=>?_);have J:(QS a.ed ei.s).Pairwise λx y:Ed=>x.1<y.1\/(x.1=y.1/\x.2.1<y.2.1):=List.Pairwise.sublist MO T.edi;have:=Md.1 J m k oa hk hh;have e1:=(ZC (Lk (l:=QS a.ed ei.s) (show m<(QS a.ed ei.s).length by omega))).2;have e2:=(ZC (Lk hk)).2;omega
 have hw:=Qnd (hSm _ hf);have hr:∀e∈L,∀v,v∈a.al->enc e.u<enc (ei.u++[v]):=λe E v hv=>by
  have hz:=V v hv;rw[KG];rcases h.pr e E with G|⟨j,u,S,G⟩
  ·rw[G];show(0:Int)<_;omega
  rw[G,KG];have h0:enc (L.getD j UT).u<enc ei.u:=by
   have:=Md.1 h.so j i oa hi S;rw[<-Y];simpa[oO,show j<L.length by omega,hi]using this
  have h5:u<32:=by
   have:=(h.rx e E).2.2.2.1 u (by rw[G];simp);exact(V u this).2
  omega
 have keepD:∀r:List Fw,∀j,j<L.length->(L++r).getD j UT=L.getD j UT:=λr j S=>Qh7 S;refine⟨by simp;have:=h.ne;omega,by simp;omega,oa,λe E=>?_,?_,by rw[keepD _ 0 h.ne];exact h.hd,λe E=>?_,λj v S U=>?_⟩
 ·rcases Le.1 E with E|E
  ·exact h.rx e E
  obtain⟨d,_,rfl,G,h2,h3,h4⟩:=ha e E;refine⟨?_,h2,h3,λu I=>?_,?_⟩
  ·show d.2.2=rn a 0 (ei.u++[d.2.1]);rw[QjN,<-r1,h4]
  ·rcases Le.1 (show u∈ei.u++[d.2.1] from I)with I|I
   ·exact r4 u I
   simp only[oF]at I;subst I;exact G
  show(ei.u++[d.2.1]).length<=most;rw[Lc,Lt];omega
 ·rw[Mj];refine⟨h.so,?_,λp J q hq=>?_⟩
  ·unfold wdR;rw[L7];have J:(QS a.ed ei.s).Pairwise λx y:Ed=>x.1<y.1\/(x.1=y.1/\x.2.1<y.2.1):=List.Pairwise.sublist MO T.edi;refine List.Pairwise.imp_of_mem (λ{x y} hx hy h6=>?_) J;have e1:=(ZC hx).2;have e2:=(ZC hy).2;show enc (ei.u++[x.2.1])<enc (ei.u++[y.2.1]);rw[KG,KG];omega
  obtain⟨d,_,rfl,G,_⟩:=ha q hq;exact hr p J _ G
 ·rcases Le.1 E with E|E
  ·rcases h.pr e E with G|⟨j,u,S,G⟩
   ·exact .inl G
   exact .inr ⟨j,u,oa,by rw[keepD _ j oa];exact G⟩
  obtain⟨d,_,rfl,_⟩:=ha e E;exact .inr ⟨i,d.2.1,oa,by rw[keepD _ i hi,Y];rfl⟩
 rw[keepD _ j oa]at U ⊢;by_cases e:j=i
 ·subst e;rw[Y]at U ⊢;refine⟨wdN ei (ei.s,v,O8 a.ed ei.s v),Nm _ ?_,O⟩;unfold wdR;exact LG (by unfold QS;exact LS.2 ⟨(jL U),od⟩)
 obtain⟨e',hs,G⟩:=h.ch j v oa U;exact⟨e',L8 _ hs,G⟩
theorem Qoa (G:0<a.st)(most:Nat):WdI a most 0 [UT]:=by
 refine⟨od,Nat.zero_le _,od,λe E=>?_,od,by simp[oO,UT],λe E=>?_,λj v I=>oa⟩
 ·simp only[oF]at E;subst E;exact⟨O,Mt _,G,by simp[UT],by simp[UT]⟩
 simp only[oF]at E;subst E;exact .inl O
theorem U4 {e:Nat}{bys:Nat}[h:Sl P t e sz bys z]{v:OY}(E:w.ownsRow base e sz v n cs)
  {a:Addr} {c:Nat} {news:LV} (J:news.length=m*sz) (V:∀j u,news[j]?=some u->w.cell? (a.add j)=some u) (h1:∀u∈news,u.oneCell'=true)
  (hb:n+m<=1099511627776) (hs:bys<=128) (he:base<=↑w):
  ∃v' w',(Builtin.append_ #[t,t] ty #[v,.slice (some a) m c]).run P w=.ok v' w'/\w'.ownsRow base e sz v' (n+m) (cs++news)/\O1 (ob v) w w'/\(∀b∈ob v',b∈ob v\/↑w<=b)/\w'.ownsRow base e sz v n cs:=by
 obtain⟨i,hi,hz,S,ha⟩:=Sl.info h;have hc:(n+m)*bys<=140737488355328:=Lx (Oz hb hs) oa;have hf:n+m<=maxLen:=by simp only[maxLen];omega
 by_cases hg:∃g cap cur,v=sL g n cap/\w.heap[g]?=some (.cells cur e (0,0))/\n+m<=cap
 ·obtain⟨v',w',U,ho,ht,_⟩:=run_append_own (P:=P) w base t ty e i z sz bys h.u hi hz S ha h.zs h.pos v n cs E a m c news J V h1 hf hc he;have hu:O1 (ob v) w w':=by rw[jI];exact O1.of_grown ht
  refine⟨v',w',U,ho,hu,?_⟩;obtain⟨g,cap,cur,rfl,hh,T⟩:=hg;rcases E.2 with⟨h2,_⟩|⟨g2,cap2,hj,h2,h3,h4,h5,h6,h7,h8⟩
  ·cases h2
  cases h2
  have hv:n*i.size+news.length<=hj.size:=by rw[J,h7,S,<-Ms];exact MI _ T
  rw[(run_append_room (P:=P) w t ty e i h.u hi g n cap hj h4 a m c news (by rw[S];exact J) V h1 T hv)]at U;cases U
  refine⟨λb I=>.inl I,E.1,?_⟩;have hB:=E.1;rcases ho.2 with⟨e1,_⟩|⟨g3,cap3,cur3,e1,k3,k4,k5,k6,k7,k8⟩
  ·cases e1
  cases e1
  refine .inr ⟨g,cap,cur3,O,k3,k4,h5,k6,k7,?_⟩;have:=OR (List.take (n*sz)) k8;rw[List.take_take,M7 (MI _ (Nat.le_add_right n m)),List.take_append_of_le_length oa,Lq (l:=cs) oa]at this;exact this
 have new:∀(old:Nat),old<n+m->∀G,G=(Obj.cells (cs.toArray++news.toArray++Builtin.zeroCells z.cells (grownCap w (n+m) old e - (n+m))) e) ->
   (w.drew.alloc G).ownsRow base e sz (.slice (some ⟨↑w,0,none⟩) (n+m) (grownCap w (n+m) old e)) (n+m) (cs++news):=by
  intro old ho G hw;subst hw;have hge:=grownCap_ge w (n+m) old e;have hp:grownCap w (n+m) old e<=maxLen:=grownCap_le_maxLen w (n+m) old e hf;have hq:(cs++news).length=(n+m)*sz:=by rw[Lc,E.1,J,Ms]
  refine⟨hq,.inr ⟨↑w,_,_,O,he,KI w.drew _,hge,hp,?_,?_⟩⟩
  ·simp only[Array.size_append,Oc,size_zeroCells,h.zs,E.1,J,<-Ok];congr 1;omega
  simp only[Array.toList_append,Oq];rw[<-LE,<-hq];exact List.take_left
 have stp:∀G,O1 (ob v) w (w.drew.alloc G):=λG=>⟨O,O,O,by rw[qy];exact Nat.le_succ _,λk hk _=>Qal w.drew G k hk⟩;have hy:∀G,sW w (w.drew.alloc G):=λG=>⟨O,O,O,by rw[qy];exact Nat.le_succ _,λk hk _=>Qal w.drew G k hk⟩;have fin:∀(b:Nat),b∈ob (.slice (some ⟨↑w,0,none⟩) (n+m) 0)->b∈ob v\/↑w<=b:=λb I=>by simp[ob]at I;omega
 rcases E.2 with⟨rfl,rfl⟩|⟨g,cap,cur,rfl,hC,hh,hD,hp,hE,hF⟩
 ·have hx:cs=[]:=Lu (ou E.1);subst hx;by_cases hm:m=0
  ·subst hm;have Y:news=[]:=Lu (ou J);subst Y;refine⟨nS,w,?_,QM _ _ _ _,O1.Z _ _,λb I=>by simp[ob]at I,QM _ _ _ _⟩;simp[Builtin.append_,run_underlying h.u,sizeOf,typeInfo,hi,Builtin.lenOf,Builtin.firstCells,loadCells,loadCellsFrom]
  have U:=run_append_nil (P:=P) w t ty e i z h.u hi hz a m c news (by rw[S];exact J) V oa oa (by rw[ha];have h0:=hc;simp only[oX]at h0;omega);have Y:=new 0 oa _ O;simp only[oX,Ol,Array.empty_append]at Y ⊢;exact⟨_,_,U,Y,stp _,λb I=>fin b I,QM _ _ _ _⟩
 have T:cap<n+m:=by
  rcases OJ cap (n+m)with h9|hge
  ·exact h9
  exact OS ⟨g,cap,cur,O,hh,hge⟩ hg
 have hA:∀j u,cs[j]?=some u->w.cell? ((⟨g,0,none⟩:Addr).add j)=some u:=E.cells (g:=g) O;exact⟨_,_,(run_append_grow (P:=P) w t ty e i z h.u hi hz ⟨g,0,none⟩ n cap cs (by rw[S];exact E.1) hA a m c news (by rw[S];exact J) V T oa (growslice_fits T (by rw[ha];exact hc))),new cap T _ O,stp _,λb I=>fin b I,Qm E (hy _)⟩
theorem Qg8 {e bys:Nat}[h:Sl P t e sz bys z]{s:OZ}{v:OY}(E:w.ownsRow base e sz v n cs)(G:ev f s=v)
  {a:Addr} {c:Nat} {news:LV} (I:ev f y=.slice (some a) m c) (J:news.length=m*sz)  (S:At L ↑w a news) (T:∀u∈news,u.oneCell'=true)
  (hb:n+m<=1099511627776) (U:base<=↑w)
  (hK:∀v' w',w'.ownsRow base e sz v' (n+m) (cs++news)->O1 (ob v) w w'->(∀b∈ob v',b∈ob v\/↑w<=b)->w'.ownsRow base e sz v n cs->K (QO f d v') w') (V:bys<=128:=by decide):
  XO P ⟨d,.call ⟨.builtin .append,#[s,y],#[t,t]⟩,ty,pS,af,gd⟩ f w K:=by
 obtain⟨v',w',Y,h2,h3,h4,h5⟩:=U4 (P:=P) (t:=t) (ty:=ty) E J S.cells T hb V U (c:=c);have ha:(execOp (ev f) ⟨d,.call ⟨.builtin .append,#[s,y],#[t,t]⟩,ty,pS,af,gd⟩).run P w=.ok (.value v') w':=by
  simp[execOp,resolve,invoke,builtin,G,I,Y]
 exact xv ha (hK v' w' h2 h3 h4 h5)
section
variable {C:xu}{pl:xo}{i0:Nat}
theorem QpU {g:α->LV}{x:OZ}{e bys:Nat}[Sl P t e sz bys z](G:QR ops i0=⟨d,.indexAddr t x y,ty,pS,af,gd⟩)(S:∀x,(g x).length=sz){es:List α}{v:OY}{I:OX}{k:IntKind}
  (h:∀w',C w'->Zs L ↑w' v es.length sz (es.flatMap g)) (T:C I) (U:ev f x=v) (V:ev f y=.int k i) (hi:i<es.length)
  (hK:∀a,(∀w',C w'->At L ↑w' a (g es[i]))->XP P ops C K pl (QO f d (.pointer (some a))) w) (Y:Z3 ops f (QR ops i0)=true:=by rfl):
  XP P ops C K ((i0,true)::pl) f w:=by
 obtain⟨a,cap,E,_⟩:=Zs.at (h I T) hi;refine Lg.p (λw'=>by rw[G];exact Xw (U.D E) V oa oa) ?_ Y;rw[G];refine hK _ λw' hc=>?_;obtain⟨a',cap',ha,J⟩:=Zs.at (h w' hc) hi;rw[ha]at E;cases E
 rw[XX g sz S es i hi]at J;simpa using J
end
theorem QoW (b:Bool):b=true\/b=false:=by cases b;exact .inr O;exact .inl O
structure FV where
 v:OY
 f:Fw
abbrev Yc (p:FV):LV:=[p.v,sS p.f.s]
theorem j7 (p:FV):(Yc p).length=2:=rfl
structure WdM (wB:OX)(vL:OY)(es:List FV)(w:OX):Prop where
 st:sW wB w
 l:w.ownsRow ↑wB 382 2 vL es.length (es.flatMap Yc)
 each:∀p∈es,Qt (ob vL) ↑w p.v p.f.u
theorem WdM.I {wB w w':OX}{vL:OY}{es:List FV}(h:WdM wB vL es w)(E:sW w w'):WdM wB vL es w':=⟨h.st.D E,Qm h.l E,λp G=>(h.each p G).I E⟩
theorem WdM.add {wB:OX}{vL vL':OY}{es:List FV}{p:FV}(h:WdM wB vL es w)(G:O1 (ob vL) w w')(J:w'.ownsRow ↑wB 382 2 vL' (es.length+1) (es.flatMap Yc++Yc p))(I:∀b∈ob vL',b∈ob vL\/↑w<=b)(S:Qt (ob vL) ↑w p.v p.f.u):WdM wB vL' (es++[p]) w':=by
 refine⟨h.st.S G (λb hb=>.inr (Qi h.l b hb).1),by rw[Lc,LC];simpa using J,λq E=>?_⟩;rcases Le.1 E with E|E
 ·exact(h.each q E).grow G (λb hb=>hb) I
 simp only[oF]at E;subst E;exact S.grow G (λb hb=>hb) I
theorem QhZ {es:List FV}(h:i<es.length):(es.map (·.f)).getD i UT=(es[i]'h).f:=by simp[oO,h]
theorem Qj2 (E:Zb a)(s:Int):(QS a.ed s).length<=32:=by
 have G:(QS a.ed s).Pairwise λx y:Ed=>x.1<y.1\/(x.1=y.1/\x.2.1<y.2.1):=List.Pairwise.sublist MO E.edi;have hi:YN ((QS a.ed s).map λe=>e.2.1):=by
  unfold YN;rw[L7];refine List.Pairwise.imp_of_mem (λ{x y} hx I T=>?_) G;have e1:=(ZC hx).2;have e2:=(ZC I).2;omega
 have:=Xo _ 0 32 hi (λv J=>by
  obtain⟨e,S,rfl⟩:=Lz.1 J;exact E.al _ (E.ed e (ZC S).1).2.2.1)
 rw[Lj]at this;omega
def QfZ (a:QF)(most:Nat)(mk:Bool):Option (List (LI)):=if a.st=0 then some []else(wds a most).map λL=>(L.filter λf=>!mk || decide (f.s∈a.mr)).map (·.u)
def Qo4 (o:Option (List (LI)))(r:OY)(H:xw):Prop:=(o=none/\r=.tuple #[Zo,sS 3])\/∃l v ps,o=some l/\r=.tuple #[v,sS 0]/\Jq [] H v ps/\ps.map (·.2)=l
theorem QfI (h:Zr [] ↑w va vm ve a)(hck:XK a=0)(ho:Zb a)(most:Nat)(z2:most<=4096)(mk:Bool):
  QT sV 249 [.agg #[va,sS a.st,vm,ve],sS most,.bool mk] w λr w'=>sW w w'/\Qo4 (QfZ a most mk) r ↑w':=by
 have z3:=ho.st0;have z4:=ho.st1;refine Zn func249 ?_;refine Qc<|Zd [va,sS a.st,vm,ve] λb3 w1 g3 z5 g5=>x Qd<|Qb<|Qe<|Qc<|QY g5 O O<|Qw<|(YV (h.I g3)).Y ?_;rintro r2 w2 ⟨g7,g8⟩;rw[hck]at g7;subst g7;have J:=g3.D g8;refine Qb<|Ql<|ZI O O<|xe<|Zz rfl<|Qf<|Qe<|Ql<|xb (Yw O O) (λg9=>OS (show(most:Int)<0 from g9) oa) (λg9=>?_);refine Qa<|Qa<|x (Z2 O O)<|QA O<|xe<|Za rfl (λka=>OS (show(most:Int) > 4096 from ka) oa) (λka=>?_);refine Qf ?_;have hO:=g5.I g8;refine Qe<|Qc<|Qr O hO O O<|x (Q6 O O)<|xe<|Za rfl (λhP=>?_) (λhP=>?_)
 ·refine Qc<|x Qd<|Qb<|Qj ⟨[Zo,sS 0],ov,J,.inr ⟨[],Zo,[],by unfold QfZ;rw[OQ hP],rfl,⟨Zs.nil _ _ _,λp E=>by cases E⟩,rfl⟩⟩
 have ms:0<a.st:=by have h30:¬a.st=0:=hP;omega
 have hW:QfZ a most mk=(wds a most).map λL=>(L.filter λf=>!mk || decide (f.s∈a.mr)).map (·.u):=by unfold QfZ;rw[OP oa]
 refine Zf (wds a most) λR hR=>?_;rw[hR]at hW;refine Qf<|Qc<|x (QB Z)<|Qo<|Q5 [Yc ⟨nS,UT⟩] λkb w3 mt mu mv=>Qb ?_;have mw:WdM w2 (sL kb 1 1) [⟨nS,UT⟩] w3:=by
  refine⟨mt,mv.own (n:=1) O oa mu,λp E=>?_⟩;simp only[oF]at E;subst E;exact Zs.nil _ _ _
 have my:∀e∈a.ed,0<=e.1/\e.1<=1099511627776:=λe he=>oo (ho.ed e he)
 refine QV (α:=OY×List FV) [(6,7),(9,10),(12,12),(32,77)] (λz=>[(9,z.1)]) (λz w'=>WdM w2 z.1 z.2 w'/\R=some (z.2.map (·.f))/\z.2.length<=1024) oh ?_ ?_
 ·refine Qc<|Qb<|QW (α:=Nat×OY×List FV) [(6,7),(9,10),(12,12),(32,77)] (λz=>[(9,z.2.1),(10,sS z.1)])
   (λz w'=>z.1<=1025/\WdM w2 z.2.1 z.2.2 w'/\WdI a most z.1 (z.2.2.map (·.f))/\wdL a most (1025 - z.1) z.1 (z.2.2.map (·.f))=R) (λz=>1025 - z.1) (0,sL kb 1 1,[⟨nS,UT⟩]) ov
   ⟨Ln _,mw,Qoa ms most,hR⟩ ?_
  rintro⟨i,vL,es⟩ g4 w4 ⟨mz,hg,h5,G⟩;simp only[]at mz hg h5 G;have hQ:=h5.mx;have m0:=h5.le;rw[Lj]at hQ m0;have hw:Zs [] ↑w4 vL es.length 2 (es.flatMap Yc):=QN hg.l oa (λb _=>od);refine Qe<|Ql<|Qa<|QG hw O<|ZX O O<|xe<|Zp O (λhS=>?_) (λhS=>?_)
  ·refine Qu ?_;have m1:¬i<(es.map (·.f)).length:=by rw[Lj];have m2:¬(i:Int)<(es.length:Int):=hS;omega
   refine⟨(vL,es),La,hg,?_,hQ⟩;rw[<-G];generalize 1025 - i=f;cases f with
   | zero=>rfl
   | succ f=>rw[wdL,OP m1]
  have hi:i<es.length:=by have m2:(i:Int)<(es.length:Int):=hS;omega
  rw[show 1025 - i=(1025 - (i+1))+1 by omega,wdL,OQ (by rw[Lj];exact hi),QhZ hi]at G;have kc:=hg.each _ (Lk hi);have hU:=h5.rx _ (LG (f:=λq:FV=>q.f) (Lk hi));have hV:=λhl hm=>h5.J ho (by rw[Lj];exact hi) hl hm;rw[QhZ hi]at hV;refine Zf (es[i]'hi) λei hG=>?_;rw[hG]at G kc hU hV;have ke:=hg.st;refine Qf<|Qe<|Qn<|Qe<|Ql<|Qa<|O4 (g:=Yc) (i:=i) j7 hw O O hi λa40 kf=>?_;rw[hG]at kf;refine x (ZN O)<|x (Qq (kf.fld 0 _ O) O)<|QG (kc.up (L':=[]) (λb hb=>by cases hb)) rfl<|Qa<|x (Q6 rfl rfl)<|xe<|Za O (λhX=>?_) (λhX=>?_)
  ·refine Qu ?_;have hH:ei.f.u.length=most:=by have m3:(ei.f.u.length:Int)=(most:Int):=hX;omega
   rw[OQ hH]at G;exact⟨(vL,es),La,hg,G.symm,hQ⟩
  have hH:ei.f.u.length≠most:=by have m3:¬(ei.f.u.length:Int)=(most:Int):=hX;omega
  rw[OP hH]at G;have hY:=hV hH;refine Qf ?_;have m4:Zr (ob vL) ↑w4 va vm ve a:=((h.I J).up (L':=ob vL) (λb hb=>.inr (Qi hg.l b hb).1)).I ke;have m5:=Qj2 ho ei.f.s;have hout:=jG (va:=va) (vm:=vm) (st:=a.st) (m4.ed.I (O1.C [] w4)) ho.eds my ei.f.s hU.2.1 oa;refine Zf (QS a.ed ei.f.s) λos kg=>?_;rw[kg]at m5 hout;have m6:wdR a ei.f=os.map (wdN ei.f):=by unfold wdR;rw[kg]
  rw[m6]at G hY;refine Qe<|Qe<|ZJ [] [oz 0,oz 1,oz 2,oz 3,oz 4,oz 5,oz 8,oA 6,oz 7]<|pq (λ_ S=>Zj ((hO.I ke).I S) O O)<|p Qy<|p Qy<|Lg.pig (g:=Yc) (i:=i) O j7 hw O O hi λa49 kh=>?_;rw[hG]at kh;refine p (λ_=>ZN O)<|pq (λ_ S=>Qq ((kh.fld 1 _ O).I S) O)<|p Qy<|pk<|xg<|hout.Y ?_;rintro ro w5 ⟨m7,ki⟩;have kj:=(O1.C [] w4).D m7;refine⟨kj,?_⟩;refine p (λ_=>YH ki O)<|pe ?_;refine Zf (es.map (·.f)++os.map (wdN ei.f)) λL1 kk=>?_;rw[kk]at G hY;refine QW (α:=Nat×OY×List FV) [(9,9),(12,12),(54,74)] (λz=>[(9,z.2.1),(54,sS z.1)])
   (λz w'=>z.1<=os.length/\WdM w2 z.2.1 z.2.2 w'/\Ua (ob z.2.1) ↑w' ro os/\z.2.2.length=es.length+z.1/\(∃h:i<z.2.2.length,z.2.2[i]'h=ei)/\z.2.2.map (·.f)++(os.drop z.1).map (wdN ei.f)=L1) (λz=>os.length - z.1) (0,vL,es) ov
   ⟨Ln _,(hg.I kj),ki,O,⟨hi,hG⟩,kk⟩ ?_
  rintro⟨k,vL2,fs⟩ g6 w6 ⟨hk,hn,hZ,m8,kn,hh⟩;simp only[]at hk hn hZ m8 kn hh;refine Zi O O (λga=>?_) (λga=>?_)
  ·refine Qu ?_;have gb:os.length<=k:=by have hI:¬(k:Int)<(os.length:Int):=ga;omega
   rw[Ls gb,Nh,LH]at hh;have m9:Zs [] ↑w6 vL2 fs.length 2 (fs.flatMap Yc):=QN hn.l oa (λb _=>od);have hl1:L1.length=fs.length:=by rw[<-hh,Lj]
   refine Ql<|QG m9 O<|x (Z2 O O)<|xe<|Za O (λgc=>?_) (λgc=>?_)
   ·have hJ:1024<L1.length:=by have pc:(fs.length:Int) > 1024:=gc;omega
    rw[OQ hJ]at G;refine Qc<|x Qd<|Qb<|Qj ⟨[Zo,sS 3],ov,J.D hn.st,.inl ⟨by rw[hW,<-G];rfl,O⟩⟩
   have hJ:¬1024<L1.length:=by have pc:¬(fs.length:Int) > 1024:=gc;omega
   rw[OP hJ,<-hh]at G;have ko:=hY hJ;rw[<-hh]at ko;refine Qf<|Qs<|Qa<|QC O O<|Qb<|⟨(i+1,vL2,fs),oe,ov,oe,hn,ko,G⟩
  have T:k<os.length:=by have hI:(k:Int)<(os.length:Int):=ga;omega
  rw[QX T,LU]at hh;refine Zf (os[k]'T) λd hd=>?_;rw[hd]at hh;refine Qf<|Exists.elim kn λge gg=>?_;have kp:=hn.each _ (Lk ge);rw[gg]at kp;refine QV (α:=OY×OY) [(9,9),(12,12),(56,73)] (λz=>[(9,z.1)]) (λz w'=>WdM w2 z.1 (fs++[⟨z.2,wdN ei.f d⟩]) w'/\Ua (ob z.1) ↑w' ro os) oh ?_ ?_
  ·refine Qn<|Qc<|xie (i:=k) hZ O O T λa56 hI=>?_;rw[hd]at hI;refine x (QE hI O O)<|QP [sS 0,sS 0,sS 0] λkq w7 pd pf pg=>Q0 (Qp d) pg ox λI ph kr=>xe ?_;have gh:sW w6 I:=pd.O ph pf;have h6:=hn.I gh;have kt:=hZ.I gh;have pj:=kp.I gh;have ku:=pj.up (L':=[]) (λb hb=>by cases hb);have h0:sW I { I with drawn:=I.drawn+1 }:=O1.C [] I
   have hz0:=h0.size;have kv:=hU.2.2.2.2;have V:∀w',sW I w'->O1 (ob vL2) I w'/\w'.ownsRow ↑w2 382 2 vL2 fs.length (fs.flatMap Yc):=λw' hs=>⟨hs.Y od,Qm h6.l hs⟩;have kw:kq∉ob vL2:=λhb=>oo (QU hn.l kq hb)
   refine QeG (λw'=>O1 (ob vL2) I w'/\w'.ownsRow ↑w2 382 2 vL2 fs.length (fs.flatMap Yc)) (.f2 [oz 0,oz 1,oz 2,oz 3,oz 4,oz 5,oz 7,oz 8,oz 11,oz 12] 6 9 (.pl [oA 9,oA 10,oz 13,oA 14,oA 15,oz 16]) (.pl [oA 6,oA 10,oz 13,oA 14,oA 15,oz 16])) mixed oh oc (V _ h0) ?_;refine u2<|p Qy<|p Qy<|p Qy<|QpU (g:=Yc) (i:=i) (L:=[]) O j7 (λw' S=>QN S.2 oa (λb _=>od)) (V _ h0) rfl rfl ge λa61 kx=>?_;rw[gg]at kx;refine p (λ_=>ZN O)<|pq (λw' S=>Qq ((kx w' S).fld 0 _ O) O)<|p (QH O)<|pq (λ_ S=>Qk (kr.J S.1 kw) O O)<|p (QH O)<|pq (λ_ S=>Qk (kr.J S.1 kw) O O)<|pe ⟨?_,?_⟩
   ·refine ue<|xg<|(ZT (ku.I h0)).Y ?_;rintro vk w9 ⟨h7,h8⟩;have h2:=h0.D h7;have pn:=h7.size;have po:=Qi h8;refine⟨V _ h2,?_⟩;refine uP<|pk<|Q5 [[sS d.2.1]] λbl pp hq pt gi=>?_;have h9:=h2.D hq;have pu:=hq.size;refine⟨V _ h9,?_⟩;refine pk<|Q2 (news:=[sS d.2.1]) (L:=[]) (Qm h8 hq) O O O (gi.at od) om oa oa λU gj gk gl pw=>?_;have hA:sW I gj:=h9.S gl (λb hb=>.inr (oo (po b hb).1));have hr:=Qh.snoc (Q8 gk (show ↑I<=_ by omega));refine⟨V _ hA,?_⟩;have gm:=(Qh.ints (L:=[]) hr (by simp;omega) od).one;have gn:=(Qh.ints (L:=[]) hr (by simp;omega) od).cells;refine p (λ_=>QB ⟨gn,O,Z⟩)<|pk<|Q5 [Yc ⟨U,wdN ei.f d⟩] λbm go J pz hB=>?_;have ha:=hA.D J;refine⟨V _ ha,?_⟩;have ht:=h6.I ha;have gq:=ht.st.size;refine pk<|Qg8 (news:=Yc ⟨U,wdN ei.f d⟩) (L:=[]) (m:=1) ht.l O O O (hB.at od) (by intro u hu;simp only[oJ,oH,or_false]at hu;rcases hu with rfl|rfl;exact gm;rfl) oa gq λvz p0 gr hv hC gs=>⟨⟨(ha.Y od).Q hv,gs⟩,p ZK<|pe ?_⟩
    have gt:Qt (ob vL2) ↑go U (wdN ei.f d).u:=Qh.ints (Qm hr J) (by show(ei.f.u++[d.2.1]).length<=_;rw[Lc,Lt];omega) (λb hb=>QU h6.l b hb);exact⟨(vz,U),La,ht.add hv gr hC gt,(kt.I ha).grow hv (λb hb=>hb) hC⟩
   refine ue<|Q5 [[sS d.2.1]] λbl w9 h7 pt gi=>?_;have h2:=h0.D h7;have pn:=h7.size;refine⟨V _ h2,?_⟩;refine uP<|pk<|xg<|(ZT (ku.I h2)).Y ?_;rintro vk pp ⟨hq,h8⟩;have h9:=h2.D hq;have pu:=hq.size;refine⟨V _ h9,?_⟩;refine pk<|Q2 (news:=[sS d.2.1]) (L:=[]) h8 O O O ((gi.I hq).at od) om oa oa λU gj gk gl pw=>?_;have hA:sW I gj:=h9.S gl (λb hb=>.inr (oo ((Qi h8) b hb).1));have hr:=Qh.snoc (Q8 gk (show ↑I<=_ by omega));refine⟨V _ hA,?_⟩;have gm:=(Qh.ints (L:=[]) hr (by simp;omega) od).one;have gn:=(Qh.ints (L:=[]) hr (by simp;omega) od).cells;refine p (λ_=>QB ⟨gn,O,Z⟩)<|pk<|Q5 [Yc ⟨U,wdN ei.f d⟩] λbm go J pz hB=>?_;have ha:=hA.D J;refine⟨V _ ha,?_⟩;have ht:=h6.I ha;have gq:=ht.st.size;refine pk<|Qg8 (news:=Yc ⟨U,wdN ei.f d⟩) (L:=[]) (m:=1) ht.l O O O (hB.at od) (by intro u hu;simp only[oJ,oH,or_false]at hu;rcases hu with rfl|rfl;exact gm;rfl) oa gq λvz p0 gr hv hC gs=>⟨⟨(ha.Y od).Q hv,gs⟩,p ZK<|pe ?_⟩
   have gt:Qt (ob vL2) ↑go U (wdN ei.f d).u:=Qh.ints (Qm hr J) (by show(ei.f.u++[d.2.1]).length<=_;rw[Lc,Lt];omega) (λb hb=>QU h6.l b hb);exact⟨(vz,U),La,ht.add hv gr hC gt,(kt.I ha).grow hv (λb hb=>hb) hC⟩
  rintro⟨vz,U⟩ g14 w14 ⟨kz,k0⟩;simp only[]at kz k0;refine Qs<|QC O O<|Qa<|xe ?_;exact⟨(k+1,vz,fs++[⟨U,wdN ei.f d⟩]),oe,ov,T,kz,k0,by simp;omega,⟨by simp;omega,by simp only[];rw[Mi ge];exact gg⟩,by simp only[];rw[Lv,LE];exact hh⟩
 rintro⟨vL,es⟩ g20 hD ⟨h3,k4,p4⟩;simp only[]at h3 k4 p4;rw[k4]at hW;have p5:=J.D h3.st;have hw:Zs [] ↑hD vL es.length 2 (es.flatMap Yc):=QN h3.l oa (λb _=>od);refine Qc<|Qb<|Qe<|Ql<|QG hw O<|Qa<|xe<|QW (α:=Nat×OY×List TV) [(13,13),(15,15),(80,100)] (λz=>[(13,z.2.1),(80,sS z.1)])
  (λz w'=>z.1<=es.length/\sW hD w'/\qa 47 ↑hD w' z.2.1 z.2.2/\z.2.2.map (·.2)=((es.take z.1).filter λp=>!mk || decide (p.f.s∈a.mr)).map (λp=>p.f.u)/\∀p∈z.2.2,Qt (ob z.2.1) ↑w' p.1 p.2) (λz=>es.length - z.1) (0,nS,[]) ov
  ⟨Ln _,O1.Z _ _,QM _ _ _ _,O,λp E=>by cases E⟩ ?_
 rintro⟨k,vT,ps⟩ g21 k5 ⟨hk,hf,hT,hE,hK⟩;simp only[]at hk hf hT hE hK;have hpl:ps.length<=k:=by
  have h1:=OR oY hE;rw[Lj,Lj]at h1;rw[h1];refine Lx (LF _ _) ?_;rw[LA];omega
 refine Zi rfl O (λgu=>?_) (λgu=>?_)
 ·refine Qu ?_;have gb:es.length<=k:=by have hL:¬(k:Int)<(es.length:Int):=gu;omega
  refine Ql<|x Qd<|Qb<|Qj ⟨[vT,sS 0],ov,p5.D hf,.inr ⟨_,vT,ps,hW,O,⟨QN hT oa (λb _=>od),λp E=>(hK p E).up (λb hb=>by cases hb)⟩,?_⟩⟩;rw[hE,Lq gb];show _=((es.map (λp:FV=>p.f)).filter λf=>!mk || decide (f.s∈a.mr)).map (λx:Fw=>x.u);rw[List.filter_map,Mm];rfl
 have T:k<es.length:=by have hL:(k:Int)<(es.length:Int):=gu;omega
 have k6:=h3.each _ (Lk T);refine Zf (es[k]'T) λek gv=>?_;rw[gv]at k6;have k9:Qt (ob vT) ↑k5 ek.v ek.f.u:=((k6.up (L':=[]) (λb hb=>by cases hb)).up (λb hb=>.inr (Qi hT b hb).1)).I hf;refine Qf<|Qe<|Qn<|Qc<|O4 (g:=Yc) (i:=k) j7 (hw.I hf) O O T λa82 hL=>?_;rw[gv]at hL;refine x (QE hL O O)<|QP [nS,sS 0] λb15 w22 p6 p7 p8=>Q0 (Yc ek) p8 ⟨k9.one,O,Z⟩ λhj p9 ma=>xe ?_;have Y:sW k5 hj:=p6.O p9 p7;have hB:=((hO.I h3.st).I hf).I Y;have qf:Qt [] ↑hj vm a.mr:=(((h.I J).mr.I h3.st).I hf).I Y;have hF:(es.take (k+1)).filter (λp=>!mk || decide (p.f.s∈a.mr))=(es.take k).filter (λp=>!mk || decide (p.f.s∈a.mr))++(if(!mk || decide (ek.f.s∈a.mr))=true then[ek]else[]):=by
  rw[Lh T,LR,gv,L6,MU]
 refine QV (α:=Bool) [(84,92)] (λz=>[(92,.bool z)]) (λz w'=>w'=hj/\z=(!mk || decide (ek.f.s∈a.mr))) oh ?_ ?_
 ·refine Or.elim (QoW mk) (λgx=>?_) (λgx=>?_)
  ·subst gx;refine Qs<|Qa<|x (Zh O)<|Qa<|Qr O hB O O<|Qr O ma O O<|Qw<|(ZE qf ek.f.s).Y ?_;rintro r91 hj ⟨rfl,rfl⟩;refine QA O<|xe ?_;exact⟨_,La,O,O⟩
  subst gx;refine Qs<|Qa<|x (Zh O)<|Qa<|Zy<|YD<|QA O<|xe ?_;exact⟨true,La,O,O⟩
 rintro z g23 hj ⟨rfl,hz⟩;rw[<-hz]at hF;refine Q9 rfl (λgy=>?_) (λgy=>?_)
 rotate_left
 ·rw[OP (by rw[gy];decide),LH]at hF;refine Qf<|Qs<|QC O O<|Qa<|xe ?_;exact⟨(k+1,vT,ps),oe,ov,T,hf.D Y,Qm hT Y,by simp only[];rw[hF];exact hE,λp E=>(hK p E).I Y⟩
 rw[OQ gy]at hF;have mc:=k9.I Y;have mf:=Qm hT Y;have kv:=mc.le;refine Qs<|Qa<|Qo<|QcE λb94 w24 hM mg qj=>Q7 O<|x (Qk (ma.I hM) O O) <|
  Qo<|jK (base:=↑hj) (qj.own (n:=0) (sz:=1) O oa mg) O (mc.I hM) O (VJ ek.f.u) oa (oo hM.size) λh4 gz ql q0 hn25=>?_
 have q4:sW hj gz:=hM.O q0 mg;have q5:Qh 3 ↑hj gz h4 ek.f.u:=by simpa[tup]using ql
 have g0:Qt (ob vT) ↑gz h4 ek.f.u:=Qh.ints q5 kv (λb hb=>QU mf b hb);refine Qo<|Yf (us:=[[h4]]) O O og od ⟨g0.cells,rfl,Z⟩ λb98 w26 mh hb98 j1=>?_;have hN:=q4.D mh;have j2:=Qm mf hN;refine Qo<|Q2 (news:=[h4]) (L:=[]) j2 O O O (j1.at od) (λy hy=>by simp only[oF]at hy;subst hy;exact g0.one) oa (ot hf.size Y.size hN.size) λmj mo j3 g2 mq=>Qb ?_;have j4:sW hD mo:=((hf.D Y).D hN).S g2 (λb hb=>.inr (Qi hT b hb).1);have za:qa 47 ↑hD mo mj (ps++[(h4,ek.f.u)]):=qa.snoc j3;refine Qs<|QC O O<|Qa<|xe<|⟨(k+1,mj,ps++[(h4,ek.f.u)]),oe,ov,T,j4,za,?_,λp E=>?_⟩
 ·simp only[];rw[Lv,hE,hF,Lv];rfl
 rcases Le.1 E with E|E
 ·exact(((hK p E).I Y).I hN).grow g2 (λb hb=>hb) mq
 simp only[oF]at E;subst E;exact(g0.I mh).grow g2 (λb hb=>hb) mq
theorem VA {v:OY}{l':LI}(h:Qt L ↑w v l)(E:Qt L' ↑w v' l'):QT sV 252 [v,v'] w λr w'=>r=.bool (decide (l=l'))/\sW w w':=by
 have hj:=h.le;refine Zn func252 ?_;refine Qc<|Qb<|Qe<|Ql<|QG h O<|Qa<|QG E O<|ZI O O<|xe<|Za rfl (λY=>?_) (λY=>?_)
 ·refine Qc<|Qb<|Qj ⟨[.bool false],La,?_,O1.Z _ _⟩;have I:l≠l':=λe=>Y (by rw[e]);simp[tup,I]
 refine Qf<|Qe<|Qc<|Qb<|QW (α:=Nat) [(4,5),(11,25)] (λk=>[(5,sS k)]) (λk w'=>sW w w'/\k<=l.length/\(l=l'↔l.drop k=l'.drop k)) (λk=>l.length - k) 0 La ⟨O1.Z _ _,Ln _,od⟩ ?_;rintro k g w1 ⟨G,hk,J⟩
 replace h:=h.I G
 replace E:=E.I G;refine Qe<|Ql<|Qa<|QG h O<|ZX O O<|xe<|Zp rfl (λhf=>?_) (λhf=>?_)
 ·refine Qu<|Qc<|Qb<|Qj ⟨[.bool true],La,?_,G⟩;rw[Ls oa,Ls oa]at J;simp[tup,J]
 have S:k<l.length:=oa
 have T:k<l'.length:=oa
 refine Qf<|Qe<|Qn<|Qe<|ZJ [] (Y4 0 9 [])<|p Qy<|p Qy<|pii (i:=k) O h O O S λhl hg=>pq (λ_ U=>Qq (hg.I U) O)<|p Qy<|p Qy<|pii (i:=k) O E O O T λhn hh=>pq (λ_ U=>Qq (hh.I U) O)<|p (λ_=>Kw O O)<|pe ?_;have ha:=G.D (O1.C [] w1);refine Za rfl (λV=>?_) (λV=>?_)
 ·refine Qc<|Qb<|Qj ⟨[.bool false],La,?_,ha⟩;have I:l≠l':=λe=>V (by simp[e]);simp[tup,I]
 refine Qf<|Qs<|Qa<|QC O O<|Qb<|⟨k+1,oa,La,ha,oa,?_⟩;have he:l[k]'S=l'[k]'T:=Lr.1 V;rw[J,QX S,QX T,he];exact⟨λh=>(List.cons.inj h).2,λh=>by rw[h]⟩
theorem Qi0 {ua um ue:OY}(h:Zr L ↑w va vm ve a)(h':Zr L' ↑w ua um ue a):QT sV 251 [.agg #[va,sS a.st,vm,ve],.agg #[ua,sS a.st,um,ue]] w λr w'=>r=.bool true/\sW w w':=by
 have ht:=h.ed.le;refine Zn func251 ?_;refine Qc<|Zd [va,sS a.st,vm,ve] λb2 w1 ho hu hp=>Zd [ua,sS a.st,um,ue] λb3 w2 hf hv J=>Qb ?_;have U:=ho.D hf;have S:=hp.I hf;have V:=h.I U;have Y:=h'.I U;refine Qe<|QV (α:=Unit) [(6,35)] (λ_=>[(35,.bool false)]) (λ_ w'=>sW w2 w') oh ?_ ?_
 ·refine Qs<|Qr O S O O<|Qr O J O O<|Qw<|(VA V.al Y.al).Y ?_;rintro r3 w3 ⟨hg,E⟩;rw[OT rfl]at hg;subst hg;refine x (Zh O)<|Qa<|Qr O (S.I E) O O<|Qr O (J.I E) O O<|xb (Kw O O) (λhh=>OS O hh) (λhh=>?_);refine QA O<|Qa<|Qr O (S.I E) O O<|Qr O (J.I E) O O<|Qw<|(VA (V.mr.I E) (Y.mr.I E)).Y ?_;rintro r4 w4 ⟨hj,G⟩;rw[OT rfl]at hj;subst hj;have T:=E.D G;refine x (Zh O)<|QA O<|Qa<|Qr O (S.I T) O O<|QG (V.ed.I T) O<|Qr O (J.I T) O O<|QG (Y.ed.I T) O<|xb (Kw O O) (λhl=>OS O hl) (λhl=>?_);refine QA O<|xe ?_;exact⟨(),La,T⟩
 rintro⟨⟩ g w3 E;have ha:=U.D E;refine Zz rfl<|Qf<|Qe<|Qc<|Qb<|QW (α:=Nat) [(4,5),(36,53)] (λk=>[(5,sS k)]) (λk w'=>sW w3 w'/\k<=a.ed.length) (λk=>a.ed.length - k) 0 La ⟨O1.Z _ _,Ln _⟩ ?_;rintro k g w4 ⟨G,hk⟩;have h4:=(h.I ha).ed.I G;have hm:=(S.I E).I G;refine Qe<|Ql<|Qr O hm O O<|QG h4 O<|ZX O O<|xe<|Zp rfl (λhq=>?_) (λhq=>?_)
 ·refine Qu<|Qc<|Qb<|Qj ⟨[.bool true],La,O,ha.D G⟩
 have he:k<a.ed.length:=oa
 refine Qf<|Qe<|Qn<|Qe<|ZJ [] (Y4 0 11 [])<|p (QH O)<|pq (λ_ I=>Qk (hm.I I) O O)<|p Qy<|pie (i:=k) O h4 O O he λhw hr=>pq (λ_ I=>QE (hr.I I) O O)<|p (QH O)<|pq (λ_ I=>Qk (((J.I E).I G).I I) O O)<|p Qy <|
  pie (i:=k) O ((h'.I ha).ed.I G) O O he λhy hs=>pq (λ_ I=>QE (hs.I I) O O)<|p (λ_=>VE O O)<|pe ?_
 refine Za rfl (λhn=>OS O hn) (λhn=>?_);refine Qf<|Qs<|Qa<|QC O O<|Qb<|⟨k+1,oa,La,G.D (O1.C _ _),he⟩
theorem jz [h:S3 P t]{x:OZ}{p q:Ed}(hx:ev f x=sT (Qp p))(G:ev f y=sT (Qp q)):
  (execOp (ev f) ⟨d,.binOp .eql t x y E,ty,pS,af,gd⟩).run P w=.ok (.value (.bool (decide (p=q)))) w:=by
 have I:(eqGuard .eql t x y (sT (Qp p)) (sT (Qp q))).run P w=.ok () w:=by simp[eqGuard,h.g]
 simp only[execOp,hx,G,Sem.run_bind,I,Result.andThen_ok,binOp,jw,Sem.run_pure]
def ex3:QF:=⟨[0,2],3,[2],[(0,0,2),(0,2,0),(2,2,0)]⟩
def cn3:QF:=⟨[0,2],2,[1],[(0,0,1),(0,2,0),(1,2,0)]⟩
def se3:List Ed:=[(0,1,0),(0,3,1),(1,1,0)]
theorem Qig:XK ex3=0:=oc
theorem Qk0:X0 ex3=cn3:=oc
theorem Qai:XK cn3=0:=oc
theorem Qlb:QjK cn3 0 [0,0]=0:=oc
theorem Qlc:flw cn3 0 [0,0]=(1,1):=oc
theorem Qla:QfZ cn3 2 true=some [[0],[2,0]]:=oc
theorem Qmm:XK ⟨[1,3],2,[1],se3⟩=0:=oc
theorem Qml:(X0 ⟨[1,3],2,[1],se3⟩).ed=se3:=oc
theorem Qnq:rlE cn3 [3,1]=[(0,3,1),(0,1,0),(1,1,0)]:=oc
theorem QpF:([3,1]:LI).mergeSort (λx y=>decide (x<=y))=[1,3]:=by
 refine List.Perm.eq_of_pairwise (le:=λx y:Int=>x<=y) (λa b _ _ E G=>oa) ?_ og ((M5 _ _).D (List.Perm.swap _ _ _));refine(List.pairwise_mergeSort (le:=λx y:Int=>decide (x<=y)) (λa b c E G=>by simp at *;omega) (λa b=>by simp;omega) [3,1]).imp λh=>ou h
theorem Qmi (l':List Ed)(E:l'.Perm (rlE cn3 [3,1]))(S:l'.Pairwise Qbz):l'=se3:=by
 rw[Qnq]at E;refine List.Perm.eq_of_pairwise (le:=Qbz) (λa b T hb G I=>?_) S (by unfold se3 Qbz;decide) (E.D (List.Perm.swap _ _ _));have J:=E.mem_iff.1 T;simp only[oJ,oH,or_false]at J;simp only[se3,oJ,oH,or_false]at hb;unfold Qbz at G I;rcases J with rfl|rfl|rfl <;> rcases hb with rfl|rfl|rfl <;> first|rfl|(exfalso;simp only[]at G I;omega)
theorem Qbr (w:OX):QT sV 247 [] w λr w'=>sW w w'/\Y1 ↑w ↑w' r ex3:=by
 refine Zn func247 ?_;refine Qc<|QP U5 λb0 w1 T hc U=>xe ?_;refine Qc<|Qo<|Q5 [[sS 0],[sS 2]] λE w2 V hj he=>Qo<|Q5 [[sS 2]] λG w3 I hk hf =>
  x (QB ⟨rfl,O,O,Z⟩)<|x (QB ⟨O,O,O,Z⟩)<|x (QB ⟨O,O,O,Z⟩)<|Qo<|Yf (us:=[Qp (0,0,2),Qp (0,2,0),Qp (2,2,0)]) O O og (by exact(by decide:3*3<=1000000)) ⟨O,O,O,O,O,O,Z⟩ λJ w4 S hl hg=>?_
 have Y:=(V.D I).D S;have hm:=V.size;have hn:=I.size;have hF:Y1 ↑w1 ↑w4 (.agg #[sL E 2 2,sS 3,sL G 1 1,sL J 3 3]) ex3 :=
  jl (a:=ex3) ((he.I I).I S) (hf.I S) hg oa oa oa O O O og og og
 refine x (QB ⟨O,O,O,O,Z⟩)<|Q0 [sL E 2 2,sS 3,sL G 1 1,sL J 3 3] (U.I Y) oy λw5 ha hh=>xe ?_;refine Qj ⟨[.agg #[sL E 2 2,sS 3,sL G 1 1,sL J 3 3]],⟨Jm hh,Z⟩,(T.D Y).O ha hc,?_⟩;exact(YX hF U.lt ha).Y T.size
theorem Qfh (w:OX):QT sV 185 [] w λr w'=>r=.bool true/\sW w w':=by
 refine Zn func185 ?_;refine Qc<|Qb<|Qc<|Qw<|(Qbr w).Y ?_;rintro r1 w1 ⟨hF,va,vm,ve,rfl,hG⟩;refine Qw<|(Qar (hG [] od)).Y ?_;rintro r2 w2 ⟨hH,v2,rfl,_,hI⟩;have hf:=hI Qig;rw[Qk0]at hf;obtain⟨ca,cm,ce,rfl,hJ⟩:=hf;have hC:=hJ [] od;refine Qa<|QL O O<|QL O O<|QP U5 λb1 w3 hK hM hN=>Q0 [ca,sS 2,cm,ce] hN ⟨hC.al.one,O,hC.mr.one,hC.ed.one,Z⟩ λw4 hO J=>Qb ?_;have hg:sW w2 w4:=hK.O hO hM;have S:=hC.I hg;refine Qc<|QY J O O<|Qo<|Q5 [[sS 0],[sS 0]] λg3 w5 hh g4 hP=>Qw<|(QnK (u:=[0,0]) (S.I hh) (hP.arr (L:=[]) od (n:=2) (cap:=2) (sz:=1) rfl oa (Lp _)) 0).Y ?_;rintro r6 w6 ⟨hQ,hj⟩;rw[OP (by rw[Qlb];decide),Qlc]at hj;subst hj;refine Qa<|QL O O<|QL O O<|QL O O<|x Qd<|x Qd<|Qb ?_;have U:=hh.D hQ;refine Qc<|QY (J.I U) O O<|Qw<|(QfI (S.I U) Qai ((ZF _).1 Qai) 2 og true).Y ?_;rintro r7 w7 ⟨hS,hk⟩;rw[Qla]at hk;have hT:∃I G p1,r7=.tuple #[I,sS 0]/\Jq [] ↑w7 I [G,p1]/\G.2=[0]/\p1.2=[2,0]:=by
  rcases hk with⟨h,_⟩|⟨l,I,ps,hl,h2,V,E⟩
  ·cases h
  cases hl
  match ps,V,E with
  | [G,p1],V,E =>
   simp only[oT,OG,List.cons.injEq,and_true]at E;exact⟨I,G,p1,h2,V,E.1,E.2⟩
  | [],_,E=>simp at E
  | [_],_,E=>simp at E
  | _::_::_::_,_,E=>simp at E
 obtain⟨I,G,p1,rfl,hU,hV,hW⟩:=hT;refine Qa<|QL O O<|QL O O<|x Qd<|Qb ?_;have Y:=U.D hS;refine Qc<|QY (J.I Y) O O<|Qo<|Q5 [[sS 3],[sS 1]] λg5 w8 hm g6 hX =>
  Qw<|(Qdj (to:=[3,1]) ((S.I Y).I hm) Qai ((ZF _).1 Qai) (hX.arr (L:=[]) od (n:=2) (cap:=2) (sz:=1) rfl oa (Lp _)) rfl og og QpF Qmi ((ZF _).1 Qmm)).Y ?_
 rintro r9 w9 ⟨hY,v9,rfl,hZ⟩;obtain⟨ra,rm,re,rfl,ga⟩:=hZ;have hR:=ga [] od;have gb:Ua [] ↑w9 re se3:=by
  have h:=hR.ed;rw[show(X0 ⟨[1,3],cn3.st,cn3.mr,se3⟩).ed=se3 from Qml]at h;exact h
 refine Qa<|QL O O<|QL O O<|QP U5 λb8 g7 gc ge gg=>Qo<|Zk (us:=[ra,sS (X0 ⟨[1,3],cn3.st,cn3.mr,se3⟩).st,rm,re]) gg O O O O ⟨hR.al.one,O,hR.mr.one,hR.ed.one,Z⟩ λhn gh gi=>Qb ?_;have ho:sW w9 hn:=gc.O gh ge;have hp:=(hm.D hY).D ho;have ha:=Y.D hp;refine QV (α:=Unit) [(0,0),(33,98)] (λz=>[(0,.bool true)]) (λz w'=>sW hn w') oh ?_ ?_
 ·refine Qs<|Qa<|xb (Q6 O O) (λhq=>?_) (λhq=>OS Qig hq);refine Qa<|QY (J.I ha) O O<|Qo<|Q5 [[sS 0],[sS 2]] λgj g8 gk g9 gl=>Qo<|Q5 [[sS 1]] λgm ka hr kb gn =>
   x (QB ⟨O,O,O,Z⟩)<|x (QB ⟨O,O,O,Z⟩)<|x (QB ⟨O,O,O,Z⟩)<|Qo<|Yf (us:=[Qp (0,0,1),Qp (0,2,0),Qp (1,2,0)]) O O og (by exact(by decide:3*3<=1000000)) ⟨O,O,O,O,O,O,Z⟩ λgo gq hc kc gr=>?_
  have hs:=(gk.D hr).D hc;have hL:Zr [] ↑gq (sL gj 2 2) (sL gm 1 1) (sL go 3 3) cn3 :=
   ⟨((gl.I hr).I hc).arr (L:=[]) od (n:=2) (cap:=2) (sz:=1) rfl oa (OB _),(gn.I hc).arr (L:=[]) od (n:=1) (cap:=1) (sz:=1) rfl oa (OB _),gr.arr (L:=[]) od (n:=3) (cap:=3) (sz:=3) rfl oa (Lp _)⟩
  refine x (QB ⟨O,O,O,O,Z⟩)<|Qw<|(Qi0 (a:=cn3) ((S.I ha).I hs) hL).Y ?_;rintro ke kf ⟨rfl,gs⟩;have ht:=hs.D gs;have T:=(hU.I hp).I ht;refine QA O<|Qa<|Qa<|xb (Q6 O O) (λhu=>?_) (λhu=>OS O hu);refine QA O<|Qa<|Qa<|xb (Q6 O O) (λhv=>?_) (λhv=>OS O hv);refine QA O<|Qa<|Qa<|xb (Q6 O O) (λhw=>?_) (λhw=>OS O hw);refine QA O<|Qa<|Qa<|xb (Q6 O O) (λhy=>?_) (λhy=>OS O hy);refine QA O<|Qa<|Qa<|QG T.arr O<|xb (Q6 O O) (λhz=>?_) (λhz=>OS O hz);refine QA O<|Qa<|Qa<|O4 (g:=Yz) (i:=0) J2 T.arr O O od λkg gt=>x (Qq gt rfl)<|Qo<|Q5 [[sS 0]] λkh ki h0 kj gu =>
   Qw<|(VA (l:=G.2) (l':=[0]) ((T.each G od).I h0) (gu.arr (L:=[]) od (n:=1) (cap:=1) (sz:=1) rfl oa (Lp _))).Y ?_
  rintro kk kn ⟨h1,gv⟩;rw[hV,OT rfl]at h1;subst h1;have h5:=h0.D gv;have h6:=T.I h5;refine QA O<|Qa<|Qa<|O4 (g:=Yz) (i:=1) J2 h6.arr O O od λko gx=>x (Qq gx rfl)<|Qo<|Q5 [[sS 2],[sS 0]] λkp kq h7 kr gy =>
   Qw<|(VA (l:=p1.2) (l':=[2,0]) ((h6.each p1 od).I h7) (gy.arr (L:=[]) od (n:=2) (cap:=2) (sz:=1) rfl oa (Lp _))).Y ?_
  rintro kt ku ⟨h8,gz⟩;rw[hW,OT rfl]at h8;subst h8;have he:=(ht.D h5).D (h7.D gz);have h9:=gi.I he;have hA:=(gb.I ho).I he;refine QA O<|Qa<|Qa<|xb (Q6 O O) (λhB=>?_) (λhB=>OS O hB);refine QA O<|Qa<|Qr O h9 O O<|QG hA O<|xb (Q6 O O) (λhD=>?_) (λhD=>OS O hD);refine QA O<|Qa<|Qr O h9 O O<|xie (i:=1) hA O O og λkv g0=>x (QE g0 O O)<|x (QB ⟨O,O,O,Z⟩)<|xb (jz (p:=(0,3,1)) (q:=(0,3,1)) O O) (λhE=>?_) (λhE=>OS O hE);refine QA O<|Qb<|⟨(),La,he⟩
 rintro z g kw g2;exact Qj ⟨[.bool true],La,O,(((hF.D hH).D hg).D ha).D g2⟩
theorem QfN (w:OX):QT sV 116 [] w λr w'=>r=.bool true/\sW w w':=by
 refine Zn func116 ?_;refine Qc<|Qb<|Qc<|Qw<|(Qfh w).Y ?_;rintro G I ⟨rfl,E⟩;refine Qb<|Qj ⟨[.bool true],La,O,E⟩
theorem CL.cel_rq {k:Yl}(h:c.V=k)(v:OY)(qs:List IV):(CL.mk c.ve c.vc v c.vx c.vk c.ev c.co qs c.ex c.cs).V={ k with rq:=qs.map IV.it }:=by rw[<-h];rfl
theorem CL.cel_ex {k:Yl}(h:c.V=k)(v:OY)(qs:List XV):(CL.mk c.ve c.vc c.vr v c.vk c.ev c.co c.rq qs c.cs).V={ k with ex:=qs.map XV.x }:=by rw[<-h];rfl
theorem CL.cel_cs {k:Yl}(h:c.V=k)(v:OY)(qs:List KV):(CL.mk c.ve c.vc c.vr c.vx v c.ev c.co c.rq c.ex qs).V={ k with cs:=qs.map KV.k }:=by rw[<-h];rfl
theorem Qcq {k:Yl}(h:ZV [] ↑w c)(V:c.V=k)(S:Y2 k=0)(Y:Kb w 4096):
  QT sV 31 [c.val] w λr w'=>sW w w'/\∃va vm ve G I J E,r=.tuple #[.agg #[va,sS (spc k).a.st,vm,ve,G,I,J,E],sS 0]/\ZH [va,sS (spc k).a.st,vm,ve,G,I,J,E]/\Zs [] ↑w' E (spc k).fb.length 4 ((spc k).fb.flatMap ZZ):=by
 refine(zU h Y).Y ?_;rintro r w' ⟨hs,v,rfl,⟨us,hv,_,T⟩,U⟩;rw[V]at U ⊢;obtain⟨va,vm,ve,G,I,J,E,cos,rqs,rfl,_,_,hA⟩:=U S;have ha:us=[va,sS (spc k).a.st,vm,ve,G,I,J,E]:=by
  simpa using(OR (λv=>match v with|Value.agg cs=>cs.toList|_=>[]) hv).symm
 rw[ha]at T;exact⟨hs,va,vm,ve,G,I,J,E,by rw[S],T,(hA [] od).2.2.2.2⟩
theorem Qnr {k:Yl}(h:ZV [] ↑w c)(E:c.V=k)(G:Y2 k=0)(I:(spc k).a.st<4096)(J:Qew k=true)(S:Kb w 4096):
  QT sV 183 [c.val] w λr w'=>sW w w'/\∃xa xm xe vb,r=.tuple #[.agg #[xa,sS ((spc k).a.st+1),xm,xe],vb,sS 0]/\ZH [xa,xm,xe]/\Qh 3 ↑w w' vb (cmB k):=by
 subst E;exact Qb4 h S G I J
abbrev QmB:LV:=[nS,sS 0,nS,nS,nS,nS,nS,nS]
theorem Qo2 {P:Prop}{a b:Int}(e:a=b)(h:¬a=b):P:=OS e h
theorem QcL (hg:Kb w 4096):QT sV 115 [] w λr w'=>r=.bool true/\sW w w':=by
 refine Zn func115 ?_;refine Qc<|Qb<|Qc<|Qw<|(JD 1 og w).Y ?_;rintro r1 w1 ⟨hH,T,rfl,g2,g3⟩;refine Qw<|(JD 2 og w1).Y ?_;rintro r2 w2 ⟨h1,U,rfl,g4,g5⟩;refine Qw<|(JD 2 og w2).Y ?_;rintro r3 w3 ⟨hh,c3,rfl,g6,g7⟩;have hI:=((g3 [] od).I h1).I hh;have hJ:=(g5 [] od).I hh;have hK:=g7 [] od;refine QP Jo λE w4 g8 p6 hL=>QP Jo λG w5 hM p7 hN=>QP Jo λI w6 h2 p8 V=>?_;have p9:=hL.lt;have qf:=hN.lt;have qj:=V.lt;refine Q0 T.cells ((hL.I hM).I h2) hI.ones λw7 hj g9=>Q0 U.cells ((hN.I h2).J hj ol) hJ.ones λw8 hk ka =>
  Q0 c3.cells ((V.J hj ol).J hk ol) hK.ones λw9 hl kb=>xe ?_
 have hn:sW w3 w9:=((((g8.D hM).D h2).O hj oa).O hk oa).O hl oa;have V:∀b∈[E,G,I],↑w3<=b/\b<w6.heap.size:=λb hb=>by
  simp only[oJ,oH,or_false]at hb;rcases hb with rfl|rfl|rfl <;> omega
 have m1:∀b∈[E],b∈[E,G,I]:=od
 have m2:∀b∈[G],b∈[E,G,I]:=od
 have m3:∀b∈[I],b∈[E,G,I]:=od
 have ql:w6.heap.size<=w9.heap.size:=by have:=hj.size;have:=hk.size;have:=hl.size;omega
 have nB:∀b,↑w9<=b->b∉[E,G,I]:=λb hb hm=>oo (V b hm).2
 refine Qc<|Qo<|Q5 [[sS 1]] λb16 q0 hO q4 kc=>Qo<|Q5 [[sS 0]] λho q5 h3 j1 ke=>x (QB ⟨O,O,O,Z⟩) <|
  x (Zq [(0,[.string VL]),(1,[sL b16 1 1,sS 1,sL ho 1 1,nS])] ⟨O,O,O,O,Z⟩) <|
  Qo<|Q5 [[.string VL,sL b16 1 1,sS 1,sL ho 1 1,nS]] λh4 kf h5 j2 kg=>?_
 have hp:=(hO.D h3).D h5;refine Q7 rfl<|Qo<|Qv (j:=2) (u:=sL h4 1 1) (((g9.J hk ol).J hl ol).I hp) O O od rfl λh6 hr kh=>xe ?_;have j3:=hO.size;have j4:=h3.size;have he:O1 [E,G,I] w9 h6:=hp.any.Q (hr.Y m1);have ki:ZV [E,G,I] ↑h6 (CL.mk T.ve T.vc (sL h4 1 1) T.vx T.vk T.ev T.co [⟨VL,⟨sL b16 1 1,sL ho 1 1,nS,jZ.a⟩⟩] T.ex T.cs):=by
  have J:=((hI.up (L':=[E,G,I]) (λb hb=>.inr (V b hb).1)).I hn).st he;refine⟨J.ev,J.co,KM.st (w:=kf) ⟨kg.arr (nB _ oa) (n:=1) (cap:=1) (sz:=5) O og (Lp _),λq S=>?_,λq S=>?_⟩ (hr.Y m1),J.ex,J.cs⟩
  ·rw[Lb.1 S];exact⟨((kc.I h3).I h5).arr (nB _ oa) (n:=1) (cap:=1) (sz:=1) O og (Lp _),(ke.I h5).arr (nB _ oa) (n:=1) (cap:=1) (sz:=1) O og (Lp _),Zs.nil _ _ 3⟩
  rw[Lb.1 S];exact X2 og
 refine Qc<|x (QB ⟨O,O,Z⟩)<|x (QB ⟨O,O,Z⟩)<|Qo<|Q5 [Zg (0,1),Zg (1,1)] λh7 za hP z2 kj=>x (QB ⟨O,O,Z⟩) <|
  Qo<|Q5 [[.string jN,sL h7 2 2]] λh8 kk hQ z3 kn=>?_
 have hs:=hP.D hQ;refine Q7 rfl<|Qo<|Qv (j:=3) (u:=sL h8 1 1) (((ka.J hl ol).J (hp.any.Q hr) ol).I hs) O O od rfl λhA ht ko=>xe ?_;have z4:=hP.size;have hf:O1 [E,G,I] h6 hA:=hs.any.Q (ht.Y m2);have z5:=hf.size;have hz913:=he.size;have kp:ZV [E,G,I] ↑hA (CL.mk U.ve U.vc U.vr (sL h8 1 1) U.vk U.ev U.co U.rq [⟨jN,sL h7 2 2,[(0,1),(1,1)]⟩] U.cs):=by
  have J:=((hJ.up (L':=[E,G,I]) (λb hb=>.inr (V b hb).1)).I hn).st (he.Q hf);refine⟨J.ev,J.co,J.rq,yi.st (w:=kk) ⟨kn.arr (nB _ oa) (n:=1) (cap:=1) (sz:=2) O og (Lp _),λq S=>?_,λq S=>?_⟩ (ht.Y m2),J.cs⟩
  ·rw[Lb.1 S];exact(kj.I hQ).arr (nB _ oa) (n:=2) (cap:=2) (sz:=2) O og (Lp _)
  rw[Lb.1 S];exact X2 og
 refine Qc<|x (QB ⟨O,O,Z⟩)<|x (QB ⟨O,O,Z⟩)<|Qo<|Q5 [Zg (0,1),Zg (1,1)] λhB w17 hR hb30 kq=>x (QB ⟨O,O,O,Z⟩) <|
  Qo<|Q5 [[.string jM,sL hB 2 2,sS 1]] λhC kr hS hb32 kt=>?_
 have hu:=hR.D hS;refine Q7 rfl<|Qo<|Qv (j:=4) (u:=sL hC 1 1) (((kb.J (hp.any.Q hr) ol).J (hs.any.Q ht) ol).I hu) O O od rfl λha hv ku=>xe ?_;have hz17:=hR.size;have hw:O1 [E,G,I] hA ha:=hu.any.Q (hv.Y m3);have kv:ZV [E,G,I] ↑ha (CL.mk c3.ve c3.vc c3.vr c3.vx (sL hC 1 1) c3.ev c3.co c3.rq c3.ex [⟨jM,sL hB 2 2,[(0,1),(1,1)],1⟩]):=by
  have J:=((hK.up (L':=[E,G,I]) (λb hb=>.inr (V b hb).1)).I hn).st ((he.Q hf).Q hw);refine⟨J.ev,J.co,J.rq,J.ex,zY.st (w:=kr) ⟨kt.arr (nB _ oa) (n:=1) (cap:=1) (sz:=3) O og (Lp _),λq S=>?_,λq S=>?_⟩ (hv.Y m3)⟩
  ·rw[Lb.1 S];exact(kq.I hS).arr (nB _ oa) (n:=2) (cap:=2) (sz:=2) O og (Lp _)
  rw[Lb.1 S];exact X2 og
 have hT:ZV [] ↑ha _:=((ki.st hf).st hw).up (L':=[]) od;have kw:ZV [] ↑ha _:=(kp.st hw).up (L':=[]) od;have kx:ZV [] ↑ha _:=kv.up (L':=[]) od;have hU:=(kh.J (hs.any.Q ht) ol).J (hu.any.Q hv) ol;have hV:sW w ha:=(((hH.D h1).D hh).D hn).S ((he.Q hf).Q hw) (λb hb=>.inr (oq (V b hb).1 ((hH.D h1).D hh).size));have hW:=CL.cel_rq g2 (sL h4 1 1) [⟨VL,⟨sL b16 1 1,sL ho 1 1,nS,jZ.a⟩⟩];refine Qc<|QY hU O O<|Qw<|(Qcq (k:=k1C) hT hW QoG (hg.I hV)).Y ?_;rintro r20 kz ⟨k0,sa,sm,se,s1,s2,s3,s4,rfl,k4,hX⟩;rw[QoF]at hX;refine Qa<|QL O O<|QL O O<|QP QmB λb4 w21 k5 k6 k9=>Q0 [sa,sS (spc k1C).a.st,sm,se,s1,s2,s3,s4] k9 k4 λma mc mf=>Qb ?_;have hY:sW kz ma:=k5.O mc k6;have hy:=k0.D hY;have hZ:=hV.D hy;refine Qc<|QY (hU.I hy) O O<|Qw<|(Qnr (k:=k1C) (hT.I hy) hW QoG (by rw[QlO];decide) QmS (hg.I hZ)).Y ?_;rintro r23 ga ⟨mg,xa,xm,mh,vb,rfl,hD,gb⟩;rw[QmT]at gb;have mj:Qt [] ↑ga vb [2]:=Qh.ints (L:=[]) gb od od;refine Qa<|QL O O<|QL O O<|QL O O<|QP U5 λb6 w24 mo mq ms=>Q0 [xa,sS ((spc k1C).a.st+1),xm,mh] ms ⟨hD.1,O,hD.2.1,hD.2.2.1,Z⟩ λmt mu mv=>x Qd<|Qb ?_;have gc:sW ga mt:=mo.O mu mq;have hz:=mg.D gc;have hE:=hy.D hz;have ge:=hZ.D hz;refine Qc<|x (Zj ((ko.J (hu.any.Q hv) ol).I hE) O O)<|Qw<|(Qcq (k:=k2C) (kw.I hE) (CL.cel_ex g4 (sL h8 1 1) [⟨jN,sL h7 2 2,[(0,1),(1,1)]⟩]) Qp1 (hg.I ge)).Y ?_;rintro r26 mw ⟨my,ta,tm,te,t1,t2,t3,t4,rfl,mz,gg⟩;rw[QoD]at gg;refine Qa<|QL O O<|QL O O<|QP QmB λb9 w27 m0 m4 m5=>Q0 [ta,sS (spc k2C).a.st,tm,te,t1,t2,t3,t4] m5 mz λm6 m7 m8=>Qb ?_;have gh:sW mw m6:=m0.O m7 m4;have hc:=my.D gh;have gi:=hE.D hc;have gj:=ge.D hc;refine Qc<|QY (ku.I gi) O O<|Qw<|(Qcq (k:=k3C) (kx.I gi) (CL.cel_cs g6 (sL hC 1 1) [⟨jM,sL hB 2 2,[(0,1),(1,1)],1⟩]) Qp0 (hg.I gj)).Y ?_;rintro r29 m9 ⟨pc,ua,um,ue,u1,u2,u3,u4,rfl,pd,gk⟩;rw[QoA]at gk;refine Qa<|QL O O<|QL O O<|QP QmB λb11 w30 pf pg ph=>Q0 [ua,sS (spc k3C).a.st,um,ue,u1,u2,u3,u4] ph pd λgl pj pn=>Qb ?_;have gm:sW m9 gl:=pf.O pj pg;have Y:=pc.D gm;have gn:=m8.I Y;refine QV (α:=Unit) [(0,0),(55,105)] (λz=>[(0,.bool true)]) (λz w'=>sW gl w') oh ?_ ?_
 ·refine Qs<|Qa<|xb (Q6 O O) (λgo=>?_) (λgo=>OS O go);refine Qa<|Qa<|xb (Q6 O O) (λgq=>?_) (λgq=>OS O gq);refine QA O<|Qa<|Qa<|xb (Q6 O O) (λgr=>?_) (λgr=>OS O gr);refine QA O<|Qa<|Qa<|xb (Q6 O O) (λgs=>?_) (λgs=>OS O gs);refine QA O<|Qa<|Q7 O<|x (Qk (((mf.I hz).I hc).I Y) O O)<|x (QB ⟨O,O,O,O,Z⟩)<|Qo<|Q5 [ZZ ⟨1,3,0,1⟩] λb73 w32 gt hb73 po =>
   Qw<|(Uz (l:=[⟨1,3,0,1⟩]) ((((((hX.I hY).I hz).I hc).I Y)).I gt) (po.arr (L:=[]) od (n:=1) (cap:=1) (sz:=4) rfl og (Lp _))).Y ?_
  rintro r74 w33 ⟨rfl,pp⟩;have hF:=gt.D pp;refine QA O<|Qa<|Q7 O<|x (Qk (((mv.I hc).I Y).I hF) O O)<|xb (Q6 O O) (λgu=>?_) (λgu=>Qo2 (by rw[QlO];rfl) gu);refine QA O<|Qa<|Qa<|Qo<|Q5 [[sS 2]] λb83 w34 gv hb83 pt =>
   Qw<|(UA (l:=[2]) (l':=[2]) (((((mj.I gc).I hc).I Y).I hF).I gv) (pt.arr (L:=[]) od (n:=1) (cap:=1) (sz:=1) rfl oa (Lp _))).Y ?_
  rintro r84 w35 ⟨gx,pu⟩;rw[OT rfl]at gx;subst gx;have h0:=hF.D (gv.D pu);refine QA O<|Qa<|Q7 O<|Qr O (gn.I h0) O O<|xb (Q6 O O) (λgy=>?_) (λgy=>Qo2 QoC gy);refine QA O<|Qa<|Qr O (gn.I h0) O O<|x (QB ⟨O,O,O,O,Z⟩)<|Qo<|Q5 [ZZ ⟨3,1,0,-1⟩] λb96 w36 gz hb96 pw =>
   Qw<|(Uz (l:=[⟨3,1,0,-1⟩]) ((((gg.I gh).I Y).I h0).I gz) (pw.arr (L:=[]) od (n:=1) (cap:=1) (sz:=4) rfl og (Lp _))).Y ?_
  rintro r97 w37 ⟨rfl,pz⟩;have hG:=h0.D (gz.D pz);refine QA O<|Qa<|Qr O (pn.I hG) O O<|x (QB ⟨O,O,O,O,Z⟩)<|Qo<|Q5 [ZZ ⟨3,2,0,-1⟩] λb103 w38 g0 hb103 p0 =>
   Qw<|(Uz (l:=[⟨3,2,0,-1⟩]) (((gk.I gm).I hG).I g0) (p0.arr (L:=[]) od (n:=1) (cap:=1) (sz:=4) rfl og (Lp _))).Y ?_
  rintro r104 w39 ⟨rfl,p4⟩;refine QA O<|Qb<|⟨(),La,hG.D (g0.D p4)⟩
 rintro z g w40 p5;exact Qj ⟨[.bool true],La,O,(gj.D Y).D p5⟩
theorem Qdq (E:Kb w 4096):QT sV 47 [] w λr w'=>r=.bool true/\sW w w':=by
 refine Zn func47 ?_;refine Qc<|Qb<|QV (α:=Unit) [(0,4)] (λz=>[(0,.bool true)]) (λz w'=>sW w w') oh ?_ ?_
 ·refine Qs<|Qw<|(QcL E).Y ?_;rintro T G ⟨rfl,I⟩;refine Qa<|Qw<|(QfN G).Y ?_;rintro r2 U ⟨rfl,J⟩;refine QA O<|Qb<|⟨(),La,I.D J⟩
 rintro z g V S;exact Qj ⟨[.bool true],La,O,S⟩
def JQ:ByteArray:=⟨#[98,117,102,102,101,114]⟩
def VQ:Kp:=⟨JQ,⟨[1,2],2,[0,1],[(0,1,1),(1,2,0)]⟩⟩
theorem jP {α:Type}(q:α->Bool)(x:Int):∀(l:List α) (i:Nat),x∈ixs q i l↔∃k,∃h:k<l.length,x=((i+k:Nat):Int)/\q (l[k]'h)=true
 | [],i=>by simp[ixs]
 | y::l,i=>by
  rw[ixs];have ih:=jP q x l (i+1);constructor
  ·intro h;by_cases J:q y=true
   ·rw[OQ J]at h;rcases Ll.1 h with h|h
    ·exact⟨0,od,by rw[h];simp,J⟩
    obtain⟨k,S,E,G⟩:=ih.1 h;exact⟨k+1,by simp;omega,by rw[E];congr 1;omega,G⟩
   rw[OP J]at h;obtain⟨k,S,E,G⟩:=ih.1 h;exact⟨k+1,by simp;omega,by rw[E];congr 1;omega,G⟩
  rintro⟨k,S,E,G⟩;cases k with
  | zero =>
   have I:q y=true:=G;rw[OQ I];exact Ll.2 (.inl (by rw[E];simp))
  | succ k =>
   have I:=ih.2 ⟨k,ou S,by rw[E];congr 1;omega,G⟩;split
   ·exact Lm _ I
   exact I
theorem jW {α:Type}(q:α->Bool):∀(l:List α) (i:Nat),YN (ixs q i l)
 | [],_=>List.Pairwise.nil
 | y::l,i=>by
  rw[ixs];split
  ·refine L2.2 ⟨λx hx=>?_,jW q l (i+1)⟩;obtain⟨k,_,E,_⟩:=(jP q x l (i+1)).1 hx;omega
  exact jW q l (i+1)
theorem zK {c:Yl}(h:ZW c=0):Xr c.ev=0:=by
 unfold ZW at h;by_cases E:Xr c.ev≠0
 ·rw[OQ E]at h;exact OS h E
 exact Lr.1 E
theorem zJ {l:List KX}(h:Xr l=0):l.length<=32:=by
 unfold Xr at h;by_cases E:32<l.length
 ·rw[OQ E]at h;cases h
 omega
theorem Qgd {l:List KX}(h:Xr l=0):Z5 (unc l):=by
 refine⟨λx hx=>?_,jW _ _ _⟩;obtain⟨k,E,e,_⟩:=(jP _ _ _ _).1 hx;have:=zJ h;omega
theorem Qjy {l:List KX}(h:Xr l=0):(unc l).length<=32:=(Qgd h).len
def hck (c:Yl)(hi:LI):Int :=
 if ZW c≠0 then ZW c else if 0<c.ex.length+c.cs.length then 13 else if Jn (c.ev.length:Int) none hi≠0 then Jn (c.ev.length:Int) none hi else
 if(c.rq.all λr=>decide (mrg (λp q=>p && !q) r.a.al hi=[]))=true then 0 else 9
theorem zP {p:α->Bool}{l:List α}{k:Nat}(h:k<l.length):(l.drop k).all p=(p (l[k]'h) && (l.drop (k+1)).all p):=by rw[QX h,Mz]
theorem yT {hi:LI}(h:ZV [] ↑w c)(hH:Qt [] ↑w vh hi):
  QT sV 36 [c.val,vh] w λr w'=>r=sS (hck c.V hi)/\sW w w':=by
 have h7:=h.ex.arr.le;have h8:=h.cs.arr.le;have h9:=h.rq.arr.le;have hz:=hH.le;have E:hck c.V hi=if ZW c.V≠0 then ZW c.V else if 0<c.ex.length+c.cs.length then 13 else if Jn (c.ev.length:Int) none hi≠0 then Jn (c.ev.length:Int) none hi else
   if(c.rq.all λr=>decide (mrg (λp q=>p && !q) r.p.a.al hi=[]))=true then 0 else 9:=by
  unfold hck;rw[show c.V.ex.length=c.ex.length from Lj ..,show c.V.cs.length=c.cs.length from Lj ..,show c.V.rq=c.rq.map (·.it) from rfl,List.all_map];rfl
 refine Zf (hck c.V hi) λR hR=>?_;rw[hR]at E ⊢;refine Zn func36 ?_;refine Qc<|Zd c.cells λb2 w1 hp hA hs=>Qb<|Qe<|Qc<|QY hs O O<|Qw<|(UI (h.I hp)).Y ?_;rintro _ w2 ⟨rfl,ht⟩;refine Qb ?_;have G:=hp.D ht;have T:=hs.I ht;refine Ql<|ZI O O<|xe<|Za rfl (λhc=>?_) (λhc=>?_)
 ·have J:ZW c.V≠0:=hc;rw[OQ J]at E;refine Ql<|Qb<|Qj ⟨[_],La,by rw[E];rfl,G⟩
 have J:¬ZW c.V≠0:=hc;rw[OP J]at E;refine Qf<|Qe<|Qc<|Qr O T O O<|QG (h.ex.arr.I G) O<|Qr O T O O<|QG (h.cs.arr.I G) O<|QC O O<|x (Z2 O O)<|xe<|Za rfl (λhe=>?_) (λhe=>?_)
 ·have hf:0<c.ex.length+c.cs.length:=by have hg:(c.ex.length:Int)+(c.cs.length:Int) > 0:=he;omega
  rw[OQ hf]at E;refine Qc<|Qb<|Qj ⟨[_],La,by rw[E];rfl,G⟩
 have hf:¬0<c.ex.length+c.cs.length:=by have hg:¬(c.ex.length:Int)+(c.cs.length:Int) > 0:=he;omega
 rw[OP hf]at E;refine Qf<|Qe<|Ql<|Qr O T O O<|QG (h.ev.arr.I G) O<|Qw<|(KN (hH.I G) _).Y ?_;rintro _ w3 ⟨rfl,rfl⟩;refine Qb<|Ql<|ZI O O<|xe<|Za rfl (λhh=>?_) (λhh=>?_)
 ·have U:Jn (c.ev.length:Int) none hi≠0:=hh;rw[OQ U]at E;refine Ql<|Qb<|Qj ⟨[_],La,by rw[E];rfl,G⟩
 have U:¬Jn (c.ev.length:Int) none hi≠0:=hh;rw[OP U]at E;have h0:=Yr (Lr.1 J);have hB:c.ev.length<=32:=zJ (zK (Lr.1 J));have hu:=(YS _ _ _).1 (Lr.1 U);have hz:hi.length<=c.ev.length:=xD c.ev.length hi (hu.2.1.imp λhC e=>oa) hu.1;refine Qf ?_;have hv:=h.rq.arr.I G;refine Qe<|Qc<|Qr O T O O<|QG hv O<|Qa<|xe<|QW (α:=Nat) [(4,4),(8,8),(33,43)] (λz=>[(33,sS z)]) (λz w'=>z<=c.rq.length/\sW w3 w'/\R=if((c.rq.drop z).all λr=>decide (mrg (λp q=>p && !q) r.p.a.al hi=[]))=true then 0 else 9) (λz=>c.rq.length - z) 0 La ⟨Ln _,O1.Z _ _,by rw[OA];exact E⟩ ?_
 rintro k g w4 ⟨hk,hj,I⟩;have V:=G.D hj;refine Zi rfl O (λhl=>?_) (λhl=>?_)
 ·refine Qu ?_;have h1:c.rq.length<=k:=by have hg:¬(k:Int)<(c.rq.length:Int):=hl;omega
  rw[Ls h1,List.all_nil,OQ rfl]at I;refine Qc<|Qb<|Qj ⟨[_],La,by rw[I];rfl,V⟩
 have S:k<c.rq.length:=by have hg:(k:Int)<(c.rq.length:Int):=hl;omega
 have hm:=Lk S;rw[zP S]at I;refine Zf (c.rq[k]'S) λq hq=>?_;rw[hq]at hm I;have Y:=(h.rq.each q hm).I V;have hD:q.p.a.al.length<=32:=(h0.rq q.it (LG hm)).al_le;refine Qf<|Qe<|Qn<|Qc<|O4 (g:=Zm) (i:=k) (λ_=>O) (hv.I hj) O O S λhE hw=>?_;rw[hq]at hw;refine x (QE (us:=Zm q) hw O O)<|QP [.string .empty,nS,sS 0,nS,nS] λb8 w5 h2 h3 h4=>Q0 (Zm q) h4 ⟨O,Y.al.one,O,Y.mr.one,Y.ed.one,Z⟩ λw6 h5 h6=>xe ?_;have ha:sW w4 w6:=h2.O h5 h3;refine Qc<|Q7 O<|Qr O h6 O O<|Qa<|Qw<|(jg (Y.al.I ha) (hH.I (V.D ha)) oa).Y ?_;rintro _ w7 ⟨hy,rfl⟩;refine x (Zh O)<|xe<|Q9 rfl (λhn=>?_) (λhn=>?_)
 ·have ho:=J7 hn;rw[OV ho,Bool.false_and,OP MC]at I;refine Qc<|Qb<|Qj ⟨[_],La,by rw[I];rfl,V.D (ha.D hy)⟩
 have ho:=Jd hn;rw[OT ho,Ns]at I;refine Qf<|Qs<|QC O O<|Qa<|xe ?_;exact⟨k+1,by show c.rq.length - (k+1)<c.rq.length - k;omega,La,S,(hj.D ha).D hy,I⟩
structure LvV where
 c:CL
 pa:OY
 pm:OY
 pe:OY
 p:QF
 vh:OY
 vu:OY
 hi:LI
 un:LI
abbrev Ya (V:LvV):LV:=[V.c.ve,V.c.vc,V.c.vr,V.c.vx,V.c.vk,V.pa,sS V.p.st,V.pm,V.pe,V.vh,V.vu]
structure LvA (H:xw)(V:LvV):Prop where
 c:ZV [] H V.c
 a:Zr [] H V.pa V.pm V.pe V.p
 h:Qt [] H V.vh V.hi
 u:Qt [] H V.vu V.un
theorem LvA.I {w w':OX}{V:LvV}(h:LvA ↑w V)(E:sW w w'):LvA ↑w' V:=⟨h.c.I E,h.a.I E,h.h.I E,h.u.I E⟩
theorem LvA.ones {H:xw}{V:LvV}(h:LvA H V):ZH (Ya V):=⟨h.c.ev.arr.one,h.c.co.arr.one,h.c.rq.arr.one,h.c.ex.arr.one,h.c.cs.arr.one,h.a.al.one,O,h.a.mr.one,h.a.ed.one,h.h.one,h.u.one,Z⟩
abbrev JR:LV:=[ZR,ZR,ZR,ZR,ZR,ZR,sS 0,ZR,ZR,ZR,ZR]
instance:Bw sV 113 JR [(0,5),(5,4),(9,1),(10,1)]:={}
structure LvK (k:CL)(hi:LI)(V:LvV):Prop where
 c:V.c=k
 p:V.p=Kq (O3 k.V.co)
 h:V.hi=hi
 u:V.un=unc k.V.ev
theorem Ji {hi:LI}(h:ZV [] ↑w c)(hH:Qt [] ↑w vh hi)(hw:Kb w 4096)(hn:hck c.V hi=0->plE c.V=0):
  QT sV 51 [c.val,vh] w λr w'=>sW w w'/\∃us,r=.tuple #[sT us,sS (hck c.V hi)]/\us.length=11/\ZH us/\(hck c.V hi=0->∃V:LvV,us=Ya V/\LvA ↑w' V/\LvK c hi V):=by
 refine Zn func51 ?_;refine Qc<|Zd c.cells λb2 w1 ho hN hy=>QP JR λb4 w2 hp hO ha=>Qb ?_;have hc:=ho.D hp;have hQ:=ho.size;have hf:=hy.I hp;refine Qe<|Qc<|QY hf O O<|Qa<|Qw<|(yT (h.I hc) (hH.I hc)).Y ?_;rintro _ w3 ⟨rfl,G⟩;refine Zf (hck c.V hi) λE hE=>?_;rw[hE]at hn ⊢;refine Qb ?_;have S:=hc.D G;refine Ql<|ZI O O<|xe<|Za rfl (λhg=>?_) (λhg=>?_)
 ·have T:E≠0:=hg;refine Qc<|x (Zq [] Z)<|Qa<|Q0 JR (ha.I G) ⟨O,O,O,O,O,O,O,O,O,O,O,Z⟩ λw4 hz h0=>Qb<|Qj ⟨[sT JR,sS E],⟨Jm h0,O,Z⟩,S.O hz oa,JR,O,O,⟨O,O,O,O,O,O,O,O,O,O,O,Z⟩,λe=>OS e T⟩
 have T:E=0:=Lr.1 hg;have h1:=hn T;refine Qf<|Qc<|QY (hf.I G) O O<|Qw<|(QbZ (h.I S) (hw.I S)).Y ?_;rintro _ w5 ⟨U,va,vt,e,rfl,hP⟩;obtain⟨he,A,pa,pm,pe,qs,rfl,h2,hR,h3⟩:=hP.shape;rw[h1]at he;subst he;obtain⟨h4,h5,hT,hq⟩:=h3 O;have h6:=(hq [] od).1;have h7:A=Kq (O3 c.V.co):=by unfold Kq;rw[h5]
 have h8:=S.D U;refine Qa<|QL O O<|QL O O<|QL O O<|QP Yu λb7 w6 h9 hA hB=>Q0 [pa,sS A.st,pm,pe] hB h2 λw7 hC hD=>x Qd<|Qb ?_;have I:sW w5 w7:=h9.O hC hA;have hr:=h8.D I;refine Qe<|Ql<|ZI O O<|xe<|Zz rfl<|Qf ?_;have hs:=(hf.I G).I (U.D I);have hS:=jh (h.ev.I hr);have ht:Xr c.ev=0:=zK h4;rw[ht,OQ rfl]at hS;refine Qc<|Qr O hs O O<|Qw<|hS.Y ?_;rintro _ w9 ⟨J,vu,rfl,hh⟩;have hF:(unc c.ev).length<=32:=Qjy ht;have hu:Qt [] ↑w9 vu (unc c.ev):=Qh.ints hh oa od;refine Qa<|QL O O<|QL O O<|x Qd<|Qb ?_;have hj:=hr.D J;have hG:sW w3 w9:=(U.D I).D J;have Y:LvA ↑w9 ⟨c,pa,pm,pe,A,vh,vu,hi,unc c.ev⟩:=⟨h.I hj,h6.I (I.D J),hH.I hj,hu⟩;refine Qc<|QY (hs.I J) O O<|QY (hD.I J) O O<|Qa<|Qa<|x (Zq [(0,c.cells),(1,[pa,sS A.st,pm,pe]),(2,[vh]),(3,[vu])] ⟨O,O,O,O,hH.cells,O,hu.cells,O,Z⟩)<|x Um <|
  Q0 (Ya ⟨c,pa,pm,pe,A,vh,vu,hi,unc c.ev⟩) ((ha.I G).I hG) Y.ones λhv hk hI=>Qb ?_
 have hl:sW w hv:=hj.O hk oa;refine Qj ⟨[sT (Ya ⟨c,pa,pm,pe,A,vh,vu,hi,unc c.ev⟩),sS 0],⟨Jm hI,O,Z⟩,hl,_,by rw[T];rfl,O,Y.ones,λ_=>⟨⟨c,pa,pm,pe,A,vh,vu,hi,unc c.ev⟩,O,?_,⟨O,h7,O,O⟩⟩⟩;have hJ:∀L:LN,(∀b∈L,b<↑w3)->Zr L ↑w5 pa pm pe A:=λL Y=>(hq L Y).1;have hK:b4<w3.heap.size:=(ha.I G).lt;have hM:Zr [] ↑hv pa pm pe A:=(((hJ [b4] (λb hb=>by rw[Lb.1 hb];exact hK)).I (I.D J)).st hk).up λb hb=>by cases hb
 exact⟨h.I hl,hM,hH.I hl,Qh.ints (Qg hh hk λb hb hm=>by have:=(Qi hh b hb).1;rw[Lb.1 hm]at this;have:=(U.D I).size;omega) (Lx hF og) od⟩
theorem xcH {x:OZ}{l:List OZ}
   {first:LV} (E:∃fn,Fu P g fn) (hx:ev f x=.func (.func g) first.toArray capt.toArray) (h:QT P g (first++l.map (ev f)++capt) w λv w'=>K (QO f d v) w'):
  XO P ⟨d,.call ⟨.value x,l.toArray,at_⟩,ty,pS,af,gd⟩ f w K:=by
 obtain⟨fn,G⟩:=E;exact xc (fn:=fn) hx h
structure RpV where
 t:Bool
 vs:OY
 o:Bool
 vw:OY
 vo:OY
 c:Bool
 vp:OY
 ev:Int
abbrev Zx (R:RpV):LV:=[.bool R.t,R.vs,.bool R.o,R.vw,R.vo,.bool R.c,R.vp,sS R.ev]
abbrev rp8:RpV:=⟨false,nS,false,nS,nS,false,nS,0⟩
structure z8 (L:LN)(H:xw)(V:LvV)(i:Nat)(R:RpV):Prop where
 ones:ZH (Zx R)
 p1:0<i->R.t=(nbl V.p).2/\Qt L H R.vs (nbl V.p).1
 p2:1<i->R.o=(obs V.p V.hi []).isNone/\Qt L H R.vw ((obs V.p V.hi []).elim [] (·.1))/\Qt L H R.vo ((obs V.p V.hi []).elim [] (·.2))
 p3:2<i->R.c=(cns V.p V.hi V.un).isNone/\R.ev=(cns V.p V.hi V.un).elim (-1) (·.2)/\Qt L H R.vp ((cns V.p V.hi V.un).elim [] (·.1))
theorem Qt.sb {b:Nat}{v:OY}(h:Qt L ↑w v l)(hb:b∈L)(E:O1 [b] w w'):Qt L ↑w' v l:=Zs.J h E λx hx=>by rw[Lb.1 hx];exact hb
theorem Yj.b {N b:Nat}{L:LN}{w w':OX}{v:OY}{l:LI}(h:Yj N ↑w v l)(hL:∀x∈L,x<N)(hb:b∈L)(E:O1 [b] w w'):Qt L ↑w' v l:=Qt.sb (h L hL) hb E
theorem z8.J {b:Nat}{V:LvV}{R:RpV}(h:z8 L ↑w V i R)(hb:b∈L)(E:O1 [b] w w'):z8 L ↑w' V i R :=
 ⟨h.ones,λhi=>⟨(h.p1 hi).1,Qt.sb (h.p1 hi).2 hb E⟩,λhi=>⟨(h.p2 hi).1,Qt.sb (h.p2 hi).2.1 hb E,Qt.sb (h.p2 hi).2.2 hb E⟩,λhi=>⟨(h.p3 hi).1,(h.p3 hi).2.1,Qt.sb (h.p3 hi).2.2 hb E⟩⟩
theorem upN {H:xw}{v:OY}(h:Qt L H v l):Qt [] H v l:=h.up λb hb=>by cases hb
theorem z8.nil {H:xw}{V:LvV}{R:RpV}(h:z8 L H V i R):z8 [] H V i R :=
 ⟨h.ones,(λhi=>⟨(h.p1 hi).1,upN (h.p1 hi).2⟩),(λhi=>⟨(h.p2 hi).1,upN (h.p2 hi).2.1,upN (h.p2 hi).2.2⟩),(λhi=>⟨(h.p3 hi).1,(h.p3 hi).2.1,upN (h.p3 hi).2.2⟩)⟩
theorem z8.I {L:LN}{i:Nat}{w w':OX}{V:LvV}{R:RpV}(h:z8 L ↑w V i R)(E:sW w w'):z8 L ↑w' V i R :=
 ⟨h.ones,λhi=>⟨(h.p1 hi).1,(h.p1 hi).2.I E⟩,λhi=>⟨(h.p2 hi).1,(h.p2 hi).2.1.I E,(h.p2 hi).2.2.I E⟩,λhi=>⟨(h.p3 hi).1,(h.p3 hi).2.1,(h.p3 hi).2.2.I E⟩⟩
section
variable {w0:OX}{V:LvV}{b:Nat}{R:RpV}(hbL:b∈L)(hlt:∀x∈L,x<↑w)(hw:sW w0 w)(hL:LvA ↑w0 V)(hp:yj V.p)(hB:QK ↑w b 118 (Zx R++Ya V))
include hbL hlt hw hL hp hB
theorem QjB (hR:z8 L ↑w V 0 R):
  QT sV 124 [sP b] w λr w'=>r=sS 0/\O1 [b] w w'/\∃R',QK ↑w' b 118 (Zx R'++Ya V)/\z8 L ↑w' V 1 R':=by
 have h:=hL.I hw;refine Zn func124 ?_;refine Qc<|Qb<|Ql<|Qa<|Qa<|Z0 O<|Q7 O<|Q7 O<|x (ZS (us:=[V.pa,sS V.p.st,V.pm,V.pe]) hB O O O)<|Qo<|Q5 [[V.pa,sS V.p.st,V.pm,V.pe]] λb11 T E hf U =>
  Qw<|(zW (q:=⟨V.pa,V.pm,V.pe,V.p⟩) ⟨U.arr od (n:=1) (cap:=1) (sz:=4) rfl og (OB _),λp hp=>by rw[List.mem_singleton.1 hp];exact h.a.I E⟩ hp.ok (Int.le_trans hp.s9 og)).Y ?_
 rintro _ w2 ⟨Y,v,rfl,G⟩;have I:=E.D Y;refine Qa<|QL O O<|QL O O<|QL O O<|Z0 O<|Q7 O<|Q7 O<|Qo<|Qv (u:=v) (hB.I I) O O (LX O) G.ints.one λw3 J ha =>
  Z0 rfl<|Q7 O<|Q7 O<|Qo<|Qv (u:=.bool (nbl V.p).2) ha O O (LX O) O λw4 S hc=>Qb ?_
 have he:∀x∈L,x<T.heap.size:=λx hx=>LP (hlt x hx) E.size;refine Ql<|Qb<|Qj ⟨[_],La,O,(I.any.Q J).Q S,⟨(nbl V.p).2,v,R.o,R.vw,R.vo,R.c,R.vp,R.ev⟩,hc,⟨?_,λ_=>⟨O,Qt.sb (Yj.b G he hbL J) hbL S⟩,λh=>OS h og,λh=>OS h og⟩⟩;obtain⟨_,_,o3⟩:=hR.ones;exact⟨O,G.ints.one,o3⟩
theorem QjA (hi:Z5 V.hi)(hR:z8 L ↑w V 1 R):
  QT sV 125 [sP b] w λr w'=>r=sS 0/\O1 [b] w w'/\∃R',QK ↑w' b 118 (Zx R'++Ya V)/\z8 L ↑w' V 2 R':=by
 have h:=hL.I hw;have hd:sW w { w with drawn:=w.drawn+1 }:=O1.C _ _
 refine Zn func125 ?_;refine Qc<|Qb<|Qe<|ZJ [] (Y4 0 32 [13,22,26,30])<|p Qy<|p Qy<|p Qy<|p Qy<|p (YC O)<|p (QH O)<|p (QH O)<|pq (λ_ J=>ZS (us:=[V.pa,sS V.p.st,V.pm,V.pe]) (hB.I J) O O O) <|
  p Qy<|p (YC O)<|p (QH O)<|p (QH O)<|pq (λ_ J=>Qk (hB.I J) O O)<|pkk<|xg<|(Qb0 (w:={ w with drawn:=w.drawn+1 }) (h.a.I hd) (h.h.I hd) hp hi).Y ?_
 rintro _ w2 ⟨ha,Y,v2,rfl,S,T⟩;have U:=hd.D ha;refine p Qy<|p (λ_=>QZ O O)<|p (λ_=>QZ O O)<|p (λ_=>QZ O O)<|p (λ_=>QZ O O) <|
  p (YC rfl)<|p (QH O)<|p (QH O)<|pkk<|Qv (u:=Y) (hB.I U) O O (LX O) S.ints.one λw3 E he=>p (YC O) <|
  p (QH rfl)<|p (QH O)<|pkk<|Qv (u:=v2) he O O (LX O) T.ints.one λw4 G hf=>p (YC O)<|p (QH O) <|
  p (QH rfl)<|pkk<|Qv (u:=.bool (obs V.p V.hi []).isNone) hf O O (LX O) O λw5 I hg=>p ZK<|pe ?_
 refine Ql<|Qb ?_;have hh:z8 L ↑w5 V 1 R:=⟨hR.ones,λh=>⟨(hR.p1 h).1,Qt.sb (Qt.sb (Qt.sb ((hR.p1 h).2.I U) hbL E) hbL G) hbL I⟩,λh=>OS h og,λh=>OS h og⟩;refine Qj ⟨[_],La,O,((U.any.Q E).Q G).Q I,⟨R.t,R.vs,(obs V.p V.hi []).isNone,Y,v2,R.c,R.vp,R.ev⟩,hg,⟨?_,λ_=>hh.p1 og,λ_=>⟨O,Qt.sb (Qt.sb (Yj.b S hlt hbL E) hbL G) hbL I,Qt.sb (Qt.sb (Yj.b T hlt hbL E) hbL G) hbL I⟩,λh=>OS h og⟩⟩;obtain⟨_,o2,_,_,_,o6⟩:=hR.ones;exact⟨O,o2,O,S.ints.one,T.ints.one,o6⟩
theorem Qjz (hi:Z5 V.hi)(Y:Z5 V.un)(hR:z8 L ↑w V 2 R):
  QT sV 126 [sP b] w λr w'=>r=sS 0/\O1 [b] w w'/\∃R',QK ↑w' b 118 (Zx R'++Ya V)/\z8 L ↑w' V 3 R':=by
 have h:=hL.I hw;have hd:sW w { w with drawn:=w.drawn+1 }:=O1.C _ _
 refine Zn func126 ?_;refine Qc<|Qb<|Qe<|ZJ [] (Y4 0 37 [18,27,31,35])<|p Qy<|p Qy<|p Qy<|p Qy<|p (YC O)<|p (QH O)<|p (QH O)<|pq (λ_ E=>ZS (us:=[V.pa,sS V.p.st,V.pm,V.pe]) (hB.I E) O O O) <|
  p Qy<|p (YC O)<|p (QH O)<|p (QH O)<|pq (λ_ E=>Qk (hB.I E) O O)<|p Qy<|p (YC O)<|p (QH O)<|p (QH O)<|pq (λ_ E=>Qk (hB.I E) O O) <|
  pkk<|xg<|(qe (w:={ w with drawn:=w.drawn+1 }) (h.a.I hd) (h.h.I hd) (h.u.I hd) hp hi Y).Y ?_
 rintro _ w2 ⟨ha,U,rfl,G⟩;have I:=hd.D ha;refine p Qy<|p (λ_=>QZ O O)<|p (λ_=>QZ O O)<|p (λ_=>QZ O O)<|p (λ_=>QZ O O) <|
  p (YC rfl)<|p (QH O)<|p (QH O)<|pkk<|Qv (u:=U) (hB.I I) O O (LX O) G.ints.one λw3 J he=>p (YC O) <|
  p (QH rfl)<|p (QH O)<|pkk<|Qv (u:=sS ((cns V.p V.hi V.un).elim (-1) (·.2))) he O O (LX O) O λw4 S hf=>p (YC O)<|p (QH O) <|
  p (QH rfl)<|pkk<|Qv (u:=.bool (cns V.p V.hi V.un).isNone) hf O O (LX O) O λw5 T hg=>p ZK<|pe ?_
 refine Ql<|Qb ?_;have s:∀{v:OY} {l:LI},Qt L ↑w v l->Qt L ↑w5 v l:=λhv=>Qt.sb (Qt.sb (Qt.sb (hv.I I) hbL J) hbL S) hbL T;refine Qj ⟨[_],La,O,((I.any.Q J).Q S).Q T,⟨R.t,R.vs,R.o,R.vw,R.vo,(cns V.p V.hi V.un).isNone,U,(cns V.p V.hi V.un).elim (-1) (·.2)⟩,hg,⟨?_,λ_=>⟨(hR.p1 og).1,s (hR.p1 og).2⟩,λ_=>⟨(hR.p2 og).1,s (hR.p2 og).2.1,s (hR.p2 og).2.2⟩,λ_=>⟨O,O,Qt.sb (Qt.sb (Yj.b G hlt hbL J) hbL S) hbL T⟩⟩⟩;obtain⟨o1,o2,o3,o4,o5,_⟩:=hR.ones;exact⟨o1,o2,o3,o4,o5,O,G.ints.one,O,Z⟩
end
def gT (i:Nat):Nat:=if i=0 then 124 else if i=1 then 125 else 126
theorem QoK (i:Nat):∃fn,Fu sV (gT i) fn:=by
 unfold gT;by_cases E:i=0
 ·rw[OQ E];exact⟨_,inferInstance⟩
 rw[OP E];by_cases G:i=1
 ·rw[OQ G];exact⟨_,inferInstance⟩
 rw[OP G];exact⟨_,inferInstance⟩
theorem Ql8 {w0:OX}{V:LvV}{b:Nat}{R:RpV}(hbL:b∈L)(hlt:∀x∈L,x<↑w)(hw:sW w0 w)(hL:LvA ↑w0 V)(hp:yj V.p)(hi:Z5 V.hi)(E:Z5 V.un)(hB:QK ↑w b 118 (Zx R++Ya V))(hR:z8 L ↑w V i R)(I:i<3):
  QT sV (gT i) [sP b] w λr w'=>r=sS 0/\O1 [b] w w'/\∃R',QK ↑w' b 118 (Zx R'++Ya V)/\z8 L ↑w' V (i+1) R':=by
 have G:i=0\/i=1\/i=2:=oa
 rcases G with rfl|rfl|rfl
 ·exact QjB hbL hlt hw hL hp hB hR
 ·exact QjA hbL hlt hw hL hp hB hi hR
 exact Qjz hbL hlt hw hL hp hB hi E hR
abbrev tsN (i:Nat):ByteArray:=if i=0 then⟨#[116,114,105,109]⟩else if i=1 then⟨#[111,98,115,101,114,118,101,114]⟩else⟨#[99,111,110,115,105,115,116,101,110,116]⟩
abbrev tsC (i:Nat):LV:=[.string (tsN i),.func (.func (gT i)) #[] #[]]
theorem Qgf :QT sV 52 [] w λr w'=>sW w w'/\∀L:LN,(∀b∈L,b<↑w)->Zs L ↑w' r 3 2 ([0,1,2].flatMap tsC):=by
 refine Zn func52 ?_;refine Qc<|Qb<|Qc<|x (QB ⟨O,O,Z⟩)<|x (QB ⟨O,O,Z⟩)<|x (QB ⟨O,O,Z⟩)<|Qo<|Yf (us:=[tsC 0,tsC 1,tsC 2]) O O og od ⟨rfl,rfl,rfl,rfl,rfl,rfl,Z⟩ λE S G T I=>Qb<|Qj ⟨[_],⟨rfl,Z⟩,G,λL hL=>I.arr (λJ=>OS (hL E J) oa) (n:=3) (cap:=3) (sz:=2) rfl og (Lp _)⟩
abbrev Qou:LV:=Zx rp8++JR
instance:Bw sV 118 Qou [(0,8),(8,11)]:={}
instance:Bw sV 59 (Zx rp8) [(0,1),(1,1),(2,1),(3,1),(4,1),(5,1),(6,1),(7,1)]:={}
structure HOk (k:Yl)(hi:LI):Prop where
 e:plE k=0
 p:yj (Kq (O3 k.co))
theorem Vh {k:Yl}{hi:LI}(h:hck k hi=0):Z5 hi/\Z5 (unc k.ev):=by
 unfold hck at h;by_cases E:ZW k≠0
 ·rw[OQ E]at h;exact OS h E
 rw[OP E]at h;have I:=zK (Lr.1 E);by_cases J:0<k.ex.length+k.cs.length
 ·rw[OQ J]at h;cases h
 rw[OP J]at h;by_cases G:Jn (k.ev.length:Int) none hi≠0
 ·rw[OQ G]at h;exact OS h G
 have S:=(YS _ _ _).1 (Lr.1 G);have T:=zJ I;exact⟨⟨λx hx=>oo (S.1 x hx),S.2.1⟩,Qgd I⟩
theorem Qan {hi:LI}(h:ZV [] ↑w c)(hH:Qt [] ↑w vh hi)(h2:Kb w 4096)(Y:hck c.V hi=0->HOk c.V hi):
  QT sV 15 [c.val,vh] w λr w'=>sW w w'/\∃R:RpV,r=.tuple #[sT (Zx R),sS (hck c.V hi)]/\ZH (Zx R)/\(hck c.V hi≠0->R=rp8)/\(hck c.V hi=0->∃V:LvV,LvK c hi V/\z8 [] ↑w' V 3 R):=by
 refine Zn func15 ?_;refine Qc<|Zd c.cells λb2 w1 ho gi h3=>QP (Zx rp8) λJ w2 hq gj hr=>Qb ?_;have T:=ho.D hq;have gk:=ho.size;refine Qc<|QY (h3.I hq) O O<|Qa<|Qw<|(Ji (h.I T) (hH.I T) (h2.I T) λe=>(Y e).e).Y ?_;rintro _ w3 ⟨hs,us,rfl,h4,h5,hV⟩;have ha:=Vh (k:=c.V) (hi:=hi);refine Zf (hck c.V hi) λE hE=>?_;rw[hE]at Y hV ha ⊢;refine Qa<|QL O O<|QL O O<|QP JR λb6 w4 h6 h7 h8=>Qo<|Zk (us:=us) h8 O O h4 O h5 λw5 h9 hA=>Qb ?_;have hc:sW w3 w5:=h6.O h9 h7;have hB:=T.D hs;have ht:=hB.D hc;have he:=(hr.I hs).I hc;refine Qe<|Ql<|ZI O O<|xe<|Za rfl (λhf=>?_) (λhf=>?_)
 ·have I:E≠0:=hf;refine Qc<|x (Zq [] Z)<|Qa<|Q0 (Zx rp8) he ⟨O,O,O,O,O,O,O,O,Z⟩ λw6 hC hD=>Qb<|Qj ⟨[sT (Zx rp8),sS E],⟨Jm hD,O,Z⟩,ht.O hC oa,rp8,O,⟨O,O,O,O,O,O,O,O,Z⟩,λ_=>O,λe=>OS e I⟩
 have I:E=0:=Lr.1 hf;obtain⟨V,rfl,hL,hK⟩:=hV I;have hp:yj V.p:=by rw[hK.p];exact(Y I).p
 have hF:Z5 V.hi:=by rw[hK.h];exact(ha I).1
 have hG:Z5 V.un:=by rw[hK.u];exact(ha I).2
 have hI:=hL.I hc;refine Qf<|Qc<|QY hA O O<|x (Zq [(1,Ya V)] ⟨O,O,Z⟩)<|Zd (Zx rp8++Ya V) λG w7 hJ hM hu=>Qb ?_;have gl:=hr.lt;refine Qe<|Qc<|Qw<|Qgf.Y ?_;rintro v8 w8 ⟨hv,hN⟩;have hP:=hu.lt;have hw:Zs [G] ↑w8 v8 3 2 ([0,1,2].flatMap tsC):=hN [G] λb hb=>by rw[Lb.1 hb];exact hP
 refine QG hw O<|Qa<|xe ?_;have hQ:=hJ.D hv;have hR:z8 [J,G] ↑w8 V 0 rp8:=⟨⟨O,O,O,O,O,O,O,O,Z⟩,(λh=>OS h og),(λh=>OS h og),(λh=>OS h og)⟩;refine QW (α:=Nat×RpV) [(5,5),(10,11),(27,39)] (λz=>[(27,sS z.1)]) (λz w'=>z.1<=3/\O1 [G] w8 w'/\QK ↑w' G 118 (Zx z.2++Ya V)/\z8 [J,G] ↑w' V z.1 z.2) (λz=>3 - z.1) (0,rp8) La ⟨Ln _,O1.Z _ _,hu.I hv,hR⟩ ?_;rintro⟨k,R⟩ g w9 ⟨hk,hg,hh,S⟩;simp only[]at hk hh S;have hj:sW w5 w9:=hQ.O hg hM;have hS:=ht.D hj;refine Zi rfl O (λhl=>?_) (λhl=>?_)
 ·refine Qu ?_;have hT:k=3:=by have hm:¬(k:Int)<(3:Nat):=hl;omega
  subst hT;refine Ql<|Z0 O<|Q7 O<|x (ZS (us:=Zx R) hh O O O)<|Q0 (Zx R) (he.I hj) S.ones λgm hy hn=>Qb<|Qj ⟨[sT (Zx R),sS 0],⟨Jm hn,O,Z⟩,hS.O hy oa,R,by rw[I];rfl,S.ones,λe=>OS I e,λ_=>⟨V,hK,?_⟩⟩;have hU:=S.J (b:=J) od hy;exact hU.nil
 have hlt:k<[0,1,2].length:=by have hm:(k:Int)<(3:Nat):=hl;show k<3;omega
 have hW:([0,1,2]:LN)[k]'hlt=k:=by
  have hX:k=0\/k=1\/k=2:=by have hm:k<3:=hlt;omega
  rcases hX with rfl|rfl|rfl <;> rfl
 refine Qf<|Qe<|Qn<|Qc<|O4 (g:=tsC) (es:=[0,1,2]) (i:=k) (λ_=>O) (hw.st hg) O O hlt λgn hz=>?_;rw[hW]at hz;refine x (QE (us:=tsC k) hz O O)<|QP [.string .empty,.nilFunc] λb10 go hY hZ hn=>Q0 (tsC k) hn ov λh0 ga gb=>xe ?_;have U:sW w9 h0:=hY.O ga hZ;have h1:=hh.I U;have gc:∀x∈[J,G],x<h0.heap.size:=λx hx=>by
  simp only[oJ,oH,or_false]at hx;have:=he.lt;have:=h1.lt;rcases hx with rfl|rfl <;> omega
 refine Qc<|Qr O gb O O<|Qa<|Qo<|xcH (first:=[]) (capt:=[]) (QoK k) O<|(Ql8 (b:=G) (L:=[J,G]) od gc (hj.D U) hI hp hF hG h1 (S.I U) hlt).Y ?_;rintro _ gq ⟨rfl,ge,R',gg,gh⟩;refine Qb<|Ql<|ZI O O<|xe<|Zz rfl<|Qf<|Qs<|QC O O<|Qa<|xe ?_;exact⟨(k+1,R'),by show 3 - (k+1)<3 - k;have hm:k<3:=hlt;omega,La,hlt,(hg.Q U.any).Q ge,gg,gh⟩
theorem Qj0 {U e1 e2 V Y n1 n2:Nat}{E G:OY}{c1 c2:LV}(h1:w.ownsRow T e1 V E n1 c1)(h2:w.ownsRow U e2 Y G n2 c2)(he:e1≠e2):∀b∈ob E,b∉ob G:=by
 intro b hb I;rcases h1.2 with⟨rfl,_⟩|⟨g,cap,cur,rfl,_,J,_⟩
 ·cases hb
 rcases h2.2 with⟨rfl,_⟩|⟨g',cap',cur',rfl,_,S,_⟩
 ·cases I
 have ha:b=g:=Lb.1 hb;have hc:b=g':=Lb.1 I;rw[<-ha]at J;rw[<-hc,J]at S;injection S with h3
 injection h3 with h4 h5
 exact he h5
theorem Qfo (h:Zr [] ↑w va vm ve a):
  QT sV 166 [.agg #[va,sS a.st,vm,ve]] w λr w'=>sW w w'/\∃va' vm' ve',r=.agg #[va',sS a.st,vm',ve']/\Qh 3 ↑w w' va' a.al/\Qh 3 ↑w w' vm' a.mr/\w'.ownsRow ↑w 179 3 ve' a.ed.length (a.ed.flatMap Qp):=by
 refine Zn func166 ?_;refine Qc<|Zd [va,sS a.st,vm,ve] λb1 w1 hj hw hq=>QP Yu λb2 G hk hy hl=>xe ?_;have I:=hj.D hk;have hz:=hj.size;have J:=hq.I hk;have U:sW G { G with drawn:=G.drawn+1 }:=O1.C _ _
 refine Qe<|ZJ [] [oz 0,oz 1,oz 3,oz 4,oz 5,oz 6,oz 8,oz 9,oA 2,oA 7,oA 10,oz 11,oA 12]<|p (QH O)<|pq (λ_ E=>Qk (J.I E) O O)<|p (QH O)<|pq (λ_ E=>Qk (J.I E) O O)<|p (QH O)<|pq (λ_ E=>Qk (J.I E) O O)<|p (QH O)<|pq (λ_ E=>Qk (J.I E) O O) <|
  pk<|xg<|(ZT (w:={ G with drawn:=G.drawn+1 }) ((h.al.I I).I U)).Y ?_
 rintro V w3 ⟨hr,hs⟩;have S:=U.D hr;refine⟨S,?_⟩;refine pk<|xg<|(ZT (h.mr.I (I.D S))).Y ?_;rintro Y w4 ⟨hn,ht⟩;have T:=S.D hn;refine⟨T,?_⟩;refine pk<|xg<|(zE (h.ed.I (I.D T))).Y ?_;rintro v5 w5 ⟨ha,he⟩;have hf:=T.D ha;refine⟨hf,?_⟩;have hg:=Qm hs (hn.D ha);have hh:=Qm ht ha;have hu:=hl.I hf;refine p (λ_=>QB ⟨xH hg,O,xH hh,xH he,Z⟩)<|pkk<|Us [V,sS a.st,Y,v5] hu ⟨Qz hg,O,Qz hh,Qz he,Z⟩ λw6 hp hv=>pe ?_;have h0:=I.size;have k:∀{e sz n N:Nat} {v:OY} {cs:LV},w5.ownsRow N e sz v n cs->↑G<=N->w6.ownsRow ↑w e sz v n cs:=λho hN=>Q8 (Qg ho hp λb hb hm=>by have:=(Qi ho b hb).1;rw[Lb.1 hm]at this;have:=hl.lt;omega) oa;exact Qj ⟨[.agg #[V,sS a.st,Y,v5]],⟨Jm hv,Z⟩,(I.D hf).O hp oa,V,Y,v5,O,k hg U.size,k hh S.size,k he T.size⟩
def qD (c:Yl)(A:QF):Yl:=⟨c.ev,[⟨(c.co.map (·.nm)).headD .empty,A⟩],c.rq,[],[]⟩
def coP (N:Nat)(ev:List KX)(q:IV)(i:Nat)(v:OY)(w:OX):Prop :=
 if i=3 then w.ownsRow N 94 5 v ev.length (ev.flatMap Zv)else
 if i=12 then ∃b,v=sL b 1 1/\N<=b/\QK ↑w b 81 (Zm q)else
 if i=13 then ∃ve b,v=.agg #[ve,sL b 1 1,ZR,ZR,ZR]/\w.ownsRow N 94 5 ve ev.length (ev.flatMap Zv)/\N<=b/\QK ↑w b 81 (Zm q)else
 ∃b,v=sP b/\N<=b/\QK ↑w b 46 Jo
theorem Qiz {ev:List KX}{q:IV}(i:Nat)(v:OY)(w w':OX)(h:coP N ev q i v w)(E:sW w w'):coP N ev q i v w':=by
 unfold coP at *;by_cases e1:i=3
 ·rw[OQ e1]at *;exact Qm h E
 rw[OP e1]at *;by_cases e2:i=12
 ·rw[OQ e2]at *;obtain⟨b,G,I,J⟩:=h;exact⟨b,G,I,J.I E⟩
 rw[OP e2]at *;by_cases e3:i=13
 ·rw[OQ e3]at *;obtain⟨ve,b,G,I,J,S⟩:=h;exact⟨ve,b,G,Qm I E,J,S.I E⟩
 rw[OP e3]at *;obtain⟨b,G,I,J⟩:=h;exact⟨b,G,I,J.I E⟩
theorem yZ {V:LvV}(h:LvA ↑w V)(hp:yj V.p)(hi:Z5 V.hi)(hr:0<V.c.co.length):
  QT sV 91 [sT (Ya V)] w λr w'=>sW w w'/\∃us,r=.tuple #[sT us,sS 0]/\us.length=5/\ZH us/\ym ↑w ↑w' (sT us) (qD V.c.V (J4 V.p V.hi)):=by
 refine Zn func91 ?_;refine Qc<|Zd (Ya V) λb1 w1 gg pf g9=>QP Jo λb2 w2 gh pg gi=>Qb ?_;have hC:=gg.D gh;have ph:=gg.size;have hQ:=g9.I gh;refine Qc<|Q7 O<|x (ZS (us:=[V.pa,sS V.p.st,V.pm,V.pe]) hQ O O O)<|Qr O hQ O O<|Qw<|(Vr (h.a.I hC) (h.h.I hC) hp.ok hi.b hi.i hp.s9 hp.e).Y ?_;rintro _ w3 ⟨hD,_,vt,rfl,pj,Y,ha,he,rfl,hR⟩;have hE:=hR [] od;have ka:=hC.D hD;have kb:=hC.size;refine Qa<|QL O O<|QL O O<|QL O O<|QP Yu λb4 w4 kc ke kf=>Q0 [Y,sS (J4 V.p V.hi).st,ha,he] kf ⟨hE.al.one,O,hE.mr.one,hE.ed.one,Z⟩ λI kg gj=>x Qd<|Qb<|Zf (J4 V.p V.hi) λA hA=>?_;rw[hA]at hR hE gj;have hu:sW w3 I:=kc.O kg ke;have hv:=ka.D hu;refine Qe<|Ql<|ZI O O<|xe<|Zz rfl<|Qf ?_;have hS:=(hQ.I hD).I hu;obtain⟨J,hF⟩:∃J,V.c.co[0]'hr=J:=⟨_,O⟩;have kh:J∈V.c.co:=hF ▸ Lk hr;have ki:=h.c.co.arr.I hv;have kj:=h.c.ev.arr.I hv;refine Qe<|KJ (α:=OY×Nat×Nat) (sW I) [oz 0,oz 1,oz 2,oz 4,oz 5,oz 6,oz 7,oz 8,oz 9,oz 10,oz 11] (λi=>if i=13 then[3,12]else[]) [3,12,13,14] [oA 15] [(26,26),(35,36),(7,7)] (coP ↑I V.c.ev ⟨J.nm,⟨Y,ha,he,A⟩⟩)
  (λz=>[(36,.agg #[z.1,.slice (some ⟨z.2.1,0,none⟩) 1 1,ZR,ZR,ZR]),(7,.pointer (some ⟨z.2.2,0,none⟩))]) (λz w'=>w'.ownsRow ↑I 94 5 z.1 V.c.ev.length (V.c.ev.flatMap Zv)/\↑I<=z.2.1/\QK ↑w' z.2.1 81 (Zm ⟨J.nm,⟨Y,ha,he,A⟩⟩)/\↑I<=z.2.2/\QK ↑w' z.2.2 46 Jo)
  mixed oh oc (O1.C _ _) (λ_ _ h1 h2=>h1.D h2) Qiz ?_ ?_
 ·rintro g w' ⟨_,_,⟨hf,hG,kk,h1,h2,h3⟩,⟨kn,ko,h4,h5⟩,_⟩ _;exact⟨(hf,hG,kn),⟨kk,ko,Z⟩,h1,h2,h3,h4,h5⟩
 refine p (QH O)<|p (QH O)<|pq (λ_ E=>Qk (hS.I E) O O)<|p (QH O)<|p (QH O)<|pq (λ_ E=>Qk (hS.I E) O O)<|Lg.pig (g:=Zm) (i:=0) O (λ_=>O) ki O O hr λpn gk=>?_;rw[hF]at gk;refine p (λ_=>ZN O)<|pq (λ_ E=>Qq ((gk.fld 0 (.string J.nm) O).I E) O)<|pq (λ_ E=>Zj (gj.I E) O O)<|p (λ_=>Zq [(0,[.string J.nm]),(1,[Y,sS A.st,ha,he])] ⟨O,O,O,O,Z⟩) <|
  pe ⟨⟨?_,?_,?_,?_,Z⟩,?_⟩
 ·rintro g w' E _;exact xg<|(Qc2 (kj.I E)).Y λr gl ⟨hs,ho⟩=>⟨hs,Q8 ho E.size,XI ho⟩
 ·rintro g w' E _;exact Q5 [Zm ⟨J.nm,⟨Y,ha,he,A⟩⟩] λb gl hs hb hB=>⟨hs,⟨b,O,Lx E.size hb,ou hB⟩,λc hw=>by rw[List.mem_singleton.1 (show c∈[b] from hw)];exact⟨hb,hB.lt⟩⟩
 ·rintro g w' E ⟨h3,⟨hG,kp,kq,kr⟩,_⟩;refine xv (Zq [(0,[_]),(1,[sL hG 1 1])] ⟨xH (show w'.ownsRow _ _ _ _ _ _ from h3),O,OR Value.cells kp,O,Z⟩) ?_;exact⟨O1.Z _ _,⟨_,hG,O,h3,kq,kr⟩,λc hw=>by cases hw⟩
 ·rintro g w' E _;exact YK (us:=Jo) O λb gl hs hb hB=>⟨hs,⟨b,O,Lx E.size hb,hB⟩,λc hw=>by rw[Lb.1 (show c∈[b] from hw)];exact⟨hb,hB.lt⟩⟩
 rintro⟨hf,T,b7⟩ g w6 gm ⟨hH,gn,hT,hI,hJ⟩;simp only[]at hH gn hT hI hJ;refine pk<|Us [hf,sL T 1 1,ZR,ZR,ZR] hJ ⟨Qz hH,O,O,O,O,Z⟩ λw7 hK go=>⟨gm.O hK hI,pe ?_⟩;have hM:sW I w7:=gm.O hK hI;have kt:=Qg hH hK λb hb S=>Vg hH hJ og (Lb.1 S ▸ hb);have gq:T≠b7:=QK.ne hT hJ og;have gr:=hT.J hK (by simp only[oF];exact gq);have ku:=hv.D hM;have kv:=hS.I hM;have kw:=hM.size;have po:=h.c.rq.arr.le;have kx:=h.c.rq.arr.I ku;refine Qe<|Qc<|Q7 O<|Qr O kv O O<|QG kx O<|Qa<|xe<|QW (α:=Nat×OY×List IV) [(9,9),(41,56)] (λz=>[(41,sS z.1)]) (λz w'=>z.1<=V.c.rq.length/\sW I w'/\w'.ownsRow ↑I 94 5 hf V.c.ev.length (V.c.ev.flatMap Zv)/\QK ↑w' T 81 (Zm ⟨J.nm,⟨Y,ha,he,A⟩⟩)/\T∉ob z.2.1/\QK ↑w' b7 46 [hf,sL T 1 1,z.2.1,ZR,ZR]/\IvP ↑w7 w' z.2.1 z.2.2/\w7.heap.size<=↑w'/\z.2.2.length=z.1/\z.2.2.map IV.it=(V.c.rq.take z.1).map IV.it) (λz=>V.c.rq.length - z.1) (0,ZR,[]) La
  ⟨Ln _,hM,kt,gr,(λS=>by cases S),go,KK.nil,Lp _,rfl,rfl⟩ ?_
 rintro⟨k,vr,qs⟩ g w8 ⟨hk,hy,hz,gs,gt,hN,U,kz,gu,h0⟩;simp only[]at hk gt hN U gu h0;have hU:=hv.D hy;have hV:b7∉ob vr:=Vg U.own hN og;refine Zi rfl O (λhW=>?_) (λhW=>?_)
 ·refine Qu ?_;have k0:V.c.rq.length<=k:=by have k4:¬(k:Int)<(V.c.rq.length:Int):=hW;omega
  rw[Lq k0]at h0;have k5:=(gi.I (hD.D hu)).I hy;have k6:=gi.lt;have pp:=hD.size;have pt:=hu.size;refine Qc<|QY hN O O<|Q0 [hf,sL T 1 1,vr,ZR,ZR] k5 ⟨Qz hz,O,Qz U.own,O,O,Z⟩ λw9 hg k9=>Qb ?_;have n2:∀{b:Nat},↑I<=b->b∉[b2]:=λhb S=>by rw[Lb.1 S]at hb;omega
  have hX:=Qg hz hg λb hb=>n2 (Qi hz b hb).1;have gv:IvP ↑w7 w9 vr qs:=U.low hg λb hb=>by rw[Lb.1 hb];omega
  have ma:=gs.J hg (n2 gn);have pu:O1 [b2] I w9:=hy.any.Q hg;have mc:=h.c.ev.arr.le;refine Qj ⟨[.agg #[hf,sL T 1 1,vr,ZR,ZR],sS 0],⟨Jm k9,O,Z⟩,hU.O hg oa,_,O,O,⟨Qz hX,O,Qz gv.own,O,O,Z⟩,
   ⟨hf,sL T 1 1,vr,ZR,ZR,V.c.ev,[⟨J.nm,⟨Y,ha,he,A⟩⟩],qs,[],[]⟩,O,?_,λL hL=>?_⟩
  ·rw[hA];unfold qD;have mf:(V.c.V.co.map (·.nm)).headD .empty=J.nm:=by
    show((V.c.co.map IV.it).map (·.nm)).headD .empty=_;cases gx:V.c.co with
    | nil=>rw[gx]at hr;cases hr
    | cons z zs=>simp only[gx]at hF;rw[<-hF];rfl
   rw[mf];show(⟨V.c.ev,[⟨J.nm,A⟩],qs.map IV.it,[],[]⟩:Yl)=_;rw[h0];rfl
  have hY:∀b∈L,b<I.heap.size:=λb hb=>LP (hL b hb) hv.size;have mg:∀b∈b2::L,b<w2.heap.size:=λb hb=>by
   rcases Ll.1 hb with rfl|hb
   ·exact k6
   exact LP (hL b hb) kb
  have mh:Zr L ↑w9 Y ha he A:=(((hR (b2::L) mg).I (hu.D hy)).st (hg.Y λb hb=>by rw[Lb.1 hb];exact Lo)).up λb hb=>.inl (Lm _ hb);refine⟨⟨QN hX mc λb hb mj=>oq (Qi hX b hb).1 (hY b mj),h.c.ev.nm⟩,⟨?_,λq G=>by rw[Lb.1 G];exact mh,λq G=>by rw[Lb.1 G];exact h.c.co.nm J kh⟩,gv.itms oa (λq G=>?_) (λb hb=>LP (hY b hb) kw),⟨Zs.nil _ _ _,(λq G=>by cases G),(λq G=>by cases G)⟩,⟨Zs.nil _ _ _,(λq G=>by cases G),(λq G=>by cases G)⟩⟩
  ·exact ma.arr (λS=>oo (hY T S)) (n:=1) (cap:=1) (sz:=5) O og (Lp _)
  have:q.it∈V.c.rq.map IV.it:=h0 ▸ LG G;obtain⟨q',mo,e⟩:=Lz.1 this;have e':q'.nm=q.nm:=OR Kp.nm e;rw[<-e'];exact h.c.rq.nm q' mo
 have hl:k<V.c.rq.length:=by have k4:(k:Int)<(V.c.rq.length:Int):=hW;omega
 have gy:=Lk hl;have gz:V.c.rq.take (k+1)=V.c.rq.take k++[V.c.rq[k]'hl]:=Lh hl;refine Zf (V.c.rq[k]'hl) λq G=>?_;rw[G]at gy gz;have hj:=(h.c.rq.each q gy).I hU;refine Qf<|Qe<|Qn<|Qc<|O4 (g:=Zm) (i:=k) (λ_=>O) (h.c.rq.arr.I hU) O O hl λpw g0=>?_;rw[G]at g0;refine x (QE (us:=Zm q) g0 O O)<|QP [.string .empty,nS,sS 0,nS,nS] λb9 w9 hg mq ms=>Q0 (Zm q) ms ⟨O,hj.al.one,O,hj.mr.one,hj.ed.one,Z⟩ λhn mt g2=>xe ?_;have hO:sW w8 hn:=hg.O mt mq;have hZ:=hN.I hO;have ga:=hO.size;have g3:b9∉ob vr:=λS=>oo (QU U.own b9 S)
 have g4:sW hn { hn with drawn:=hn.drawn+1 }:=O1.C _ _
 refine ZJ (ob vr) (Y4 0 12 [6,8,9,11])<|p (QH O)<|pq (λ_ E=>Qk (hZ.J E hV) O O)<|p (QH O)<|pq (λ_ E=>Qk (g2.J E g3) O O)<|p (QH O)<|pq (λ_ E=>ZS (us:=[q.p.va,sS q.p.a.st,q.p.vm,q.p.ve]) (g2.J E g3) O O O) <|
  pk<|xg<|(Qfo (w:={ hn with drawn:=hn.drawn+1 }) ((hj.I hO).I g4)).Y ?_
 rintro _ pz ⟨mu,ca,cm,ce,rfl,mv,mw,my⟩;have gb:=g4.D mu;refine⟨gb.any,?_⟩;refine p (λ_=>Zq [(0,[.string q.nm]),(1,[ca,sS q.p.a.st,cm,ce])] ⟨O,O,O,O,Z⟩)<|pk<|Q5 [Zm ⟨q.nm,⟨ca,cm,ce,q.p.a⟩⟩] λp0 p4 h6 p5 mz=>⟨(gb.D h6).any,?_⟩;have h7:=gb.D h6;have h8:=hO.D h7;have p6:=h7.size;have g5:=Qm mv h6;have g6:=Qm mw h6;have g7:=Qm my h6;refine pk<|Q2 (m:=1) (news:=Zm ⟨q.nm,⟨ca,cm,ce,q.p.a⟩⟩) (L:=[]) (Qm U.own h8) O O O (by have:=mz.at (L:=[]) od;simpa using this) (ZH.all (us:=Zm ⟨q.nm,⟨ca,cm,ce,q.p.a⟩⟩) ⟨rfl,Qz g5,rfl,Qz g6,Qz g7,Z⟩) oa oa λhP m0 gc hh m1=>⟨h7.any.Q hh,?_⟩;refine p (QH O)<|pkk<|Qv (u:=hP) ((hZ.I h7).J hh hV) O O (LX O) (Qz gc) λge h9 m2=>pe ?_;refine Qs<|QC O O<|Qa<|xe ?_;have m3:=hj.al.le;have m4:=hj.mr.le;have m5:=hj.ed.le;have m6:IvP ↑w7 m0 hP (qs++[⟨q.nm,⟨ca,cm,ce,q.p.a⟩⟩]):=KK.app U h8 (λt ht=>by
  simp only[oJ,oH,or_false]at ht;rcases ht with rfl|rfl|rfl
  ·exact⟨_,_,g5,m3,ga⟩
  ·exact⟨_,_,g6,m4,ga⟩
  exact⟨_,_,g7,m5,ga⟩) kz gc hh m1
 have m7:=go.lt;have m8:=gr.lt;have m9:IvP ↑w7 ge hP (qs++[⟨q.nm,⟨ca,cm,ce,q.p.a⟩⟩]):=m6.low h9 λb hb=>by rw[Lb.1 hb];exact m7
 have p7:=hh.size;have p8:=h9.size;have g8:=Qg (Qm hz h8) hh λb hb=>Qj0 hz U.own og b hb;have pc:=Qg g8 h9 λb hb S=>Vg g8 ((hZ.I h7).J hh hV) og (Lb.1 S ▸ hb);have pd:sW I ge:=((hy.D h8).S hh λb hb=>.inr (oo (Qi U.own b hb).1)).O h9 hI;refine⟨(k+1,hP,qs++[⟨q.nm,⟨ca,cm,ce,q.p.a⟩⟩]),by show V.c.rq.length - (k+1)<V.c.rq.length - k;omega,La,hl,pd,pc,((gs.I h8).J hh gt).J h9 (by simp only[oF];exact gq),QJ gc m8,m2,m9,by show w7.heap.size<=↑ge;omega,by show(qs++[_]).length=k+1;rw[Lc,gu];rfl,?_⟩;simp only[];rw[gz,Lv,Lv,h0];rfl
theorem Qdu {ps:List AV}(h:XG [] ↑w vl ps)(ho:∀p∈ps,Zb p.a)(ha:Kb w 4096):
  QT sV 43 [vl] w λr w'=>sW w w'/\∃va,r=.tuple #[va,sS (Vd (ps.map (·.a)))]/\(Vd (ps.map (·.a))≠0->va=zA)/\(Vd (ps.map (·.a))=0->Y1 ↑w ↑w' va (Kq (ps.map (·.a)))):=by
 refine Zn func43 ?_;refine Qc<|QP U5 λb2 w1 E he S=>Qb<|Ql<|Qw<|(V7 (km:=4096) (h.I E) (ha.I E) og (jH ho)).Y ?_;rintro r2 w2 ⟨hf,vA,vt,c,rfl,hR⟩;have I:=hR.e;obtain⟨a,xa,xm,G,qs,rfl,T,hn,_⟩:=hR.shape;refine Qa<|QL O O<|QL O O<|QL O O<|QP U5 λb4 w3 hg hh hj=>Q0 [xa,sS a.st,xm,G] hj T λw4 hk hl =>
  x Qd<|Qb ?_
 have U:sW w2 w4:=hg.O hk hh;have V:=hf.D U;refine Qc<|QY hl O O<|Qa<|Q0 [xa,sS a.st,xm,G] (S.I V) T λw5 Y hm=>Qb<|Qj ⟨[.agg #[xa,sS a.st,xm,G],sS c],⟨Jm hm,O,Z⟩,(E.D V).O Y he,.agg #[xa,sS a.st,xm,G],?_,λJ=>?_,λJ=>?_⟩
 ·show Value.tuple _=Value.tuple _;rw[I]
 ·exact(hR.bad (by rw[I];exact J)).1
 have h1:=(hR.good (by rw[I];exact J)).1;exact(YX (h1.I U) S.lt Y).Y E.size
def lgP (N:Nat)(a b:QF)(i:Nat)(v:OY)(w:OX):Prop :=
 if i=1 then ∃b1 m1 m2,v=sP b1/\N<=b1/\N<=m1/\N<=m2/\Mch ↑w b1 m1 m2 a
 else if i=3 then ∃b1 m1 m2,v=sP b1/\N<=b1/\N<=m1/\N<=m2/\Mch ↑w b1 m1 m2 b
 else ∃bb,v=sP bb/\N<=bb/\QK ↑w bb 152 [.pointer none]
theorem Qko {b:QF}:∀i v w w',lgP N a b i v w->sW w w'->lgP N a b i v w':=by
 intro i v w w' h G;unfold lgP at h ⊢;split
 ·rename_i I;rw[OQ I]at h;obtain⟨J,S,T,e,E,U,V,Y⟩:=h;exact⟨J,S,T,e,E,U,V,Y.I G⟩
 rename_i I;rw[OP I]at h;split
 ·rename_i h2;rw[OQ h2]at h;obtain⟨J,S,T,e,E,U,V,Y⟩:=h;exact⟨J,S,T,e,E,U,V,Y.I G⟩
 rename_i h2;rw[OP h2]at h;obtain⟨bb,e,E,hB⟩:=h;exact⟨bb,e,E,hB.I G⟩
theorem YQ {κ:Type}{enc:κ->OY}{H:xw}{b:Nat}{m:List (κ×OY)}(h:ZP enc H b m)(E:QK H G T cs):b≠G:=by
 intro e;subst e;obtain⟨es,c,I,_⟩:=h;unfold QK at E;rw[I]at E;cases E
structure LgZ where
 p1:Nat
 p2:Nat
 p3:Nat
 q1:Nat
 q2:Nat
 q3:Nat
 b10:Nat
 b11:Nat
theorem QcI {wa wm we:OY}{b:QF}(hA:Zr [] ↑w va vm ve a)(V:Zr [] ↑w wa wm we b)(kd:Int):
  QT sV 30 [.agg #[va,sS a.st,vm,ve],.agg #[wa,sS b.st,wm,we],sS kd] w λr w'=>sW w w'/\∃v e,r=.tuple #[v,.bool e,sS (lgE a b kd)] /\
   (lgE a b kd=0->match lgq a b kd with|none=>v=Zo/\e=true|some u=>e=false/\Qh 3 ↑w w' v u):=by
 refine Zf (lgE a b kd) λE hE=>?_;refine Zf (lgq a b kd) λR hR=>?_;rw[hE,hR];refine Zn func30 ?_;refine Qc<|Zd [va,sS a.st,vm,ve] λb3 w1 hJ ge hK=>Zd [wa,sS b.st,wm,we] λb4 w2 h4 gg hL=>Zd [sS kd] λb5 w3 ht gh h5=>x Qd <|
  x Qd<|Qb ?_
 have hN:=(hJ.D h4).D ht;have h6:=(hK.I h4).I ht;have h7:=hL.I ht;refine Qe<|Qc<|ZA h5 O O<|QY h6 O O<|QY h7 O O<|Qo<|Q5 [[va,sS a.st,vm,ve],[wa,sS b.st,wm,we]] λhO w4 h8 gi hP=>?_;have hu:=hN.D h8;have hQ:XG [] ↑w4 (sL hO 2 2) [⟨va,vm,ve,a⟩,⟨wa,wm,we,b⟩]:=⟨hP.arr od (n:=2) (cap:=2) (sz:=4) rfl oa (Lp _),λp hp=>by
  simp only[oJ,oH,or_false]at hp;rcases hp with rfl|rfl
  ·exact hA.I hu
  exact V.I hu⟩
 have hck:=QcJ hQ kd;rw[show[(⟨va,vm,ve,a⟩:AV),⟨wa,wm,we,b⟩].map (·.a)=[a,b] from rfl,QoV,hE]at hck;refine Qw<|hck.Y ?_;rintro r5 w5 ⟨rfl,hk⟩;refine Qb ?_;have hq:=hu.D hk;have hv:=h8.D hk;refine Ql<|ZI O O<|xe<|Za rfl (λhw=>?_) (λhw=>?_)
 ·refine Ql<|x Qd<|x Qd<|Qb<|Qj ⟨[Zo,.bool false,sS E],ox,hq,Zo,false,O,λh0=>OS h0 hw⟩
 have h9:E=0:=Lr.1 hw;have hl:Zb a/\Zb b:=by
  have Y:lgE a b kd=0:=hE.D h9;unfold lgE at Y;by_cases h2:XK a≠0
  ·rw[OQ h2]at Y;exact OS Y h2
  rw[OP h2]at Y;by_cases h3:XK b≠0
  ·rw[OQ h3]at Y;exact OS Y h3
  exact⟨(ZF a).1 (Lr.1 h2),(ZF b).1 (Lr.1 h3)⟩
 refine Qf ?_;have hC:=h6.I hv;have hD:=h7.I hv;have hT:=h5.I hv;have hU:=hA.I hq;have hV:=V.I hq;refine QV (α:=LgZ) [(22,25),(10,11)] (λz=>[(10,.pointer (some ⟨z.b10,0,none⟩)),(11,.pointer (some ⟨z.b11,0,none⟩))]) (λz w'=>sW w5 w'/\Mch ↑w' z.p1 z.p2 z.p3 a/\Mch ↑w' z.q1 z.q2 z.q3 b/\QK ↑w' z.b10 152 [.pointer (some ⟨z.p1,0,none⟩)]/\QK ↑w' z.b11 152 [.pointer (some ⟨z.q1,0,none⟩)]) oh ?_ ?_
 ·refine KJ (α:=LgZ) (sW w5) [oz 0,oz 2] (λ_=>[]) [1,3,4,5] [oA 6,oA 7] [(23,23),(25,25),(10,11)] (lgP ↑w5 a b)
   (λz=>[(23,.pointer (some ⟨z.p1,0,none⟩)),(25,.pointer (some ⟨z.q1,0,none⟩)),(10,.pointer (some ⟨z.b10,0,none⟩)),(11,.pointer (some ⟨z.b11,0,none⟩))])
   (λz w'=>Mch ↑w' z.p1 z.p2 z.p3 a/\Mch ↑w' z.q1 z.q2 z.q3 b/\QK ↑w' z.b10 152 [.pointer none]/\QK ↑w' z.b11 152 [.pointer none]/\(z.b10≠z.b11/\z.p1≠z.b10/\z.p1≠z.b11/\z.q1≠z.b10/\z.q1≠z.b11)/\↑w5<=z.b10/\↑w5<=z.b11)
   mixed oh oc (O1.C _ _) (λ_ _ Y h2=>Y.D h2) Qko ?_ ?_
  ·rintro g w' ⟨⟨p1,p2,p3,e1,_,_,_,I⟩,⟨q1,q2,q3,e2,_,_,_,J⟩,⟨b10,e3,hn,S⟩,⟨b11,e4,hr,T⟩,_⟩ ho;refine⟨⟨p1,p2,p3,q1,q2,q3,b10,b11⟩,⟨e1,e2,e3,e4,Z⟩,I,J,S,T,?_,hn,hr⟩;have d1:=ho 4 od 5 od og;have d2:=ho 1 od 4 od og;have d3:=ho 1 od 5 od og;have d4:=ho 3 od 4 od og;have d5:=ho 3 od 5 od og;rw[e3,e4]at d1;rw[e1,e3]at d2;rw[e1,e4]at d3;rw[e2,e3]at d4;rw[e2,e4]at d5;simp only[ow,oF,forall_eq]at d1 d2 d3 d4 d5;exact⟨d1,d2,d3,d4,d5⟩
  refine pq (λ_ G=>Zj (hC.I G) O O)<|pq (λ_ G=>Zj (hD.I G) O O)<|pe ⟨⟨?_,?_,?_,?_,Z⟩,?_⟩
  ·intro g w' G _;refine xg<|(yM (hU.I G) hl.1).Y ?_;rintro r5 w6 ⟨hf,b1,m1,m2,rfl,n1,n2,n3,hM⟩;have hz:=G.size;exact⟨hf,⟨b1,m1,m2,O,Lx hz n1,Lx hz n2,Lx hz n3,hM⟩,λc hg=>by rw[Lb.1 (show c∈[b1] from hg)];exact⟨n1,hM.B.lt⟩⟩
  ·intro g w' G _;refine xg<|(yM (hV.I G) hl.2).Y ?_;rintro r5 w6 ⟨hf,b1,m1,m2,rfl,n1,n2,n3,hM⟩;have hz:=G.size;exact⟨hf,⟨b1,m1,m2,O,Lx hz n1,Lx hz n2,Lx hz n3,hM⟩,λc hg=>by rw[Lb.1 (show c∈[b1] from hg)];exact⟨n1,hM.B.lt⟩⟩
  ·intro g w' G _;exact YK (us:=[.pointer none]) O λb w5 hk hb V=>⟨hk,⟨b,O,Lx G.size hb,V⟩,λc hg=>by rw[Lb.1 (show c∈[b] from hg)];exact⟨hb,V.lt⟩⟩
  ·intro g w' G _;exact YK (us:=[.pointer none]) O λb w5 hk hb V=>⟨hk,⟨b,O,Lx G.size hb,V⟩,λc hg=>by rw[Lb.1 (show c∈[b] from hg)];exact⟨hb,V.lt⟩⟩
  rintro⟨p1,p2,p3,q1,q2,q3,b10,b11⟩ g w6 hF ⟨I,J,S,T,hh,hn,hr⟩;simp only[]at I J S T hh hn hr;have k1:=YQ I.e S;have k2:=YQ I.m S;have k3:=YQ J.e S;have k4:=YQ J.m S;have j1:=YQ I.e T;have j2:=YQ I.m T;have j3:=YQ J.e T;have j4:=YQ J.m T;refine pk<|Qv (u:=sP p1) S O O od rfl λw7 hj hW=>⟨hF.O hj hn,?_⟩;refine pkk<|Qv (u:=sP q1) (T.J hj (by simp only[oF];exact λe=>hh.1 e.symm)) O O od rfl λw8 U hX=>pe ?_;have s1:∀{x:Nat},x≠b10->x∉[b10]:=λh hm=>h (Lb.1 hm);have s2:∀{x:Nat},x≠b11->x∉[b11]:=λh hm=>h (Lb.1 hm);exact⟨⟨p1,p2,p3,q1,q2,q3,b10,b11⟩,ov,(hF.O hj hn).O U hr,(I.J hj (s1 hh.2.1) (s1 k1) (s1 k2)).J U (s2 hh.2.2.1) (s2 j1) (s2 j2),(J.J hj (s1 hh.2.2.2.1) (s1 k3) (s1 k4)).J U (s2 hh.2.2.2.2) (s2 j3) (s2 j4),hW.J U (s2 hh.1),hX⟩
 rintro⟨p1,p2,p3,q1,q2,q3,b10,b11⟩ g w6 ⟨hf,I,J,S,T⟩;simp only[]at I J S T;have hs:=hq.D hf;have gj:=hs.size;have hY:=hC.I hf;have hZ:=hD.I hf;have ga:=hT.I hf;have hy:sW w6 { w6 with drawn:=w6.drawn+1 }:=O1.C _ _
 have gk:=hA.al.le;have gl:=V.al.le;have gm:=hl.1.al_le;have gn:=hl.2.al_le;refine Qe<|ZJ [] [oz 0,oz 1,oz 2,oz 3,oz 5,oz 6,oz 7,oA 4,oA 8,oz 9,oz 10,oz 11,oz 12,oz 13]<|p (QH O)<|pq (λ_ G=>Qk (hY.I G) O O)<|p (QH O)<|pq (λ_ G=>Qk (hZ.I G) O O) <|
  pq (λ_ G=>Qk (S.I G) O O)<|pq (λ_ G=>Qk (T.I G) O O)<|p (λ_=>Zl (l:=[]) (l':=[_,_,_])) <|
  pk<|xg<|(zS ((hA.al.I hs).I hy) ((V.al.I hs).I hy) oa).Y ?_
 rintro r7 w7 ⟨hj,gb⟩;have ha:=hy.D hj;have go:=ha.size;refine⟨ha,?_⟩;have gq:(mrg (· || ·) a.al b.al).length<=64:=by
  have:=qp (· || ·) a.al b.al;omega
 have hS:=QeT (kd:=kd) (g:=72) (cap:=[sP b10,sP b5,sP b11]) (Qh.ints (L:=[]) gb oa od) (I.I ha) (J.I ha) hl.1 hl.2
  (λs t w8 U=>Qhu ((S.I ha).I U) ((T.I ha).I U) ((ga.I ha).I U) ((I.I ha).I U) ((J.I ha).I U) s t)
 have gc:lgL a b kd (mrg (· || ·) a.al b.al) ((a.st.toNat+1)*(b.st.toNat+1)+1) 0 [⟨fst a,fst b,-1,0⟩]=R:=hR;rw[gc]at hS;refine pk<|xg<|hS.Y ?_;rintro r8 w8 ⟨U,hG⟩;have hH:=ha.D U;refine⟨hH,?_⟩;have he:∃v e,r8=.tuple #[v,.bool e]/\(match R with|none=>v=Zo/\(!e)=true|some u=>(!e)=false/\Qh 3 ↑w7 w8 v u):=by
  cases R with
  | none=>exact⟨Zo,false,hG,O,O⟩
  | some u=>obtain⟨v,Y,h2⟩:=hG;exact⟨v,true,Y,O,h2⟩
 refine Exists.elim he λv he=>Exists.elim he λe he=>And.elim (λhI he=>?_) he;refine p Qy<|p (λ_=>QZ (show ev _ _=_ from hI) O)<|p (λ_=>QZ (show ev _ _=_ from hI) O)<|p ZK<|p ZK<|pe ?_;refine Ql<|Qa<|x (Zh O)<|x Qd<|x Qd<|Qb<|Qj ⟨[v,.bool (!e),sS 0],ox,hs.D hH,v,!e,by rw[h9];rfl,λ_=>?_⟩;cases R with
 | none=>exact he
 | some u=>exact⟨he.1,Q8 he.2 oa⟩
abbrev Ub (c:Yl):QF:=Kq (O3 c.co)
abbrev J9 (c:Yl)(hi:LI):Yl:=qD c (J4 (Ub c) hi)
def htE (c:Yl)(hi:LI):Int:=if z9 (J9 c hi)≠0 then z9 (J9 c hi)else Vd [Ub c,U0 (J9 c hi)]
def j0 (c:Yl)(hi:LI):QF:=Kq [Ub c,U0 (J9 c hi)]
def hsE (c:Yl)(hi:LI):Int:=if hck c hi≠0 then hck c hi else z9 (J9 c hi)
def hgE (c:Yl)(hi:LI):Int:=if hck c hi≠0 then hck c hi else htE c hi
def hcE (c:Yl)(hi:LI):Int:=if htE c hi≠0 then htE c hi else z9 c
def hcR (c:Yl)(hi:LI):Option (LI):=match lgq (j0 c hi) (U0 c) 1 with|some u=>some u|none=>lgq (j0 c hi) (U0 c) 2
theorem Qgq {l:List QF}(I:∀a∈l,Zb a)(h:Vd l=0):Zb (Kq l):=by
 unfold Vd at h;by_cases E:K5 l≠0
 ·rw[OQ E]at h;exact OS h E
 rw[OP E]at h;cases G:xd l with
 | none=>rw[G]at h;cases h
 | some z =>
  have e:Kq l=z.1:=by unfold Kq;rw[G]
  rw[e];exact(Xb I (A:=z.1) (Q:=z.2) G).1.okay I
theorem Qhv {b:QF}(E:Zb a)(hb:Zb b){kd:Int}(G:kd=1\/kd=2):lgE a b kd=0:=by
 unfold lgE;rw[OP (by rw[(ZF a).2 E];simp),OP (by rw[(ZF b).2 hb];simp),OP oa]
instance:Bw sV 53 Yu [(0,1),(1,1),(2,1),(3,1)]:={}
theorem Y0:ZH Yu:=oy
theorem QmG {E G I:OY}{J:QF}{b:Nat}(T:QK ↑w b 53 ([ZG ⟨va,vm,ve,a⟩,ZG ⟨E,G,I,J⟩]:List (LV)).flatten)(h:Zr [] ↑w va vm ve a)(U:Zr [] ↑w E G I J):
  XG [] ↑w (sL b 2 2) [⟨va,vm,ve,a⟩,⟨E,G,I,J⟩]:=
 ⟨T.arr od rfl oa (Lp 2),λp S=>by
  rcases Ll.1 S with rfl|S
  ·exact h
  rw[Lb.1 S];exact U⟩
theorem Qbd {V:LvV}(h:LvA ↑w V)(hj:Kb w 4096)(hp:yj V.p)(hi:Z5 V.hi)(hl:0<V.c.co.length):
  QT sV 92 [sT (Ya V)] w λr w'=>sW w w'/\∃us,r=.tuple #[sT us,sS (z9 (qD V.c.V (J4 V.p V.hi)))]/\us.length=4/\ZH us/\(z9 (qD V.c.V (J4 V.p V.hi))≠0->us=Yu)/\(z9 (qD V.c.V (J4 V.p V.hi))=0->Y1 ↑w ↑w' (sT us) (U0 (qD V.c.V (J4 V.p V.hi)))):=by
 refine Zn func92 ?_;refine Qc<|Zd (Ya V) λb1 w1 U h4 hm=>QP Yu λb2 w2 Y h5 ha=>Qb ?_;have hc:=U.D Y;have h6:=U.size;refine Qc<|QY (hm.I Y) O O<|Qw<|(yZ (h.I hc) hp hi hl).Y ?_;rintro _ w3 ⟨I,us,rfl,he,hn,k,hk,hf,ho⟩;refine Zf (qD V.c.V (J4 V.p V.hi)) λT hT=>?_;rw[hT]at hf ⊢;refine Qa<|QL O O<|QL O O<|QP Jo λb4 w4 hq hr hs=>Qo<|Zk (us:=us) hs O O he O hn λw5 ht hu=>Qb ?_;have G:sW w3 w5:=hq.O ht hr;have J:=(hc.D I).D G;have hv:=J.size;refine Qe<|Ql<|ZI O O<|xe<|Zz rfl<|Qf ?_;have hw:ZV [] ↑w5 k:=(ho [] od).I G;have hS:=K7 hw (hj.I J);rw[<-hk,hf]at hS;refine Qc<|QY hu O he<|Qw<|hS.Y ?_;rintro _ w7 ⟨hg,sa,sm,se,rfl,E,hy,hz⟩;have h0:=((ha.I I).I G).I hg;have h2:=ha.lt;refine QL rfl O<|QL O O<|Q0 [sa,sS (if Y2 T=0 then(U0 T).st else 0),sm,se] h0 ⟨E.1,O,E.2.1,E.2.2.1,Z⟩ λw8 hh h3=>Qb<|Qj ⟨[.agg #[sa,sS (if Y2 T=0 then(U0 T).st else 0),sm,se],sS (z9 T)],⟨Jm h3,O,Z⟩,(J.D hg).O hh oa,_,O,O,⟨E.1,O,E.2.1,E.2.2.1,Z⟩,λhE=>?_,λhE=>?_⟩
 ·obtain⟨e1,e2,e3⟩:=hy hE;have S:¬Y2 T=0:=hE;rw[e1,e2,e3,OP S]
 have S:Y2 T=0:=hE;rw[OQ S];refine⟨sa,sm,se,O,λL hL=>?_⟩;have h1:=hz hE (b2::L) λb hb=>by
  rcases Ll.1 hb with rfl|hb
  ·exact LP h2 (Lx I.size G.size)
  exact LP (hL b hb) hv
 exact(h1.st (hh.Y λb hb=>by rw[Lb.1 hb];exact Lo)).up λb hb=>.inl (Lm _ hb)
theorem Qbc {V:LvV}{c:Yl}{hi':LI}(h:LvA ↑w V)(hm:Kb w 4096)(hp:yj V.p)(hi:Z5 V.hi)(h0:0<V.c.co.length)(hc:V.c.V=c)(ha:V.p=Ub c)(h1:V.hi=hi'):
  QT sV 66 [sT (Ya V)] w λr w'=>sW w w'/\∃us,r=.tuple #[sT us,sS (htE c hi')]/\us.length=4/\ZH us/\(htE c hi'≠0->us=Yu)/\(htE c hi'=0->Y1 ↑w ↑w' (sT us) (j0 c hi')):=by
 have hT:qD V.c.V (J4 V.p V.hi)=J9 c hi':=by rw[hc,ha,h1]
 have G:htE c hi'=if z9 (J9 c hi')≠0 then z9 (J9 c hi')else Vd [V.p,U0 (J9 c hi')]:=by unfold htE;rw[ha]
 have hn:j0 c hi'=Kq [V.p,U0 (J9 c hi')]:=by unfold j0;rw[ha]
 refine Zf (htE c hi') λE hE=>?_;rw[hE]at G ⊢;refine Zn func66 ?_;refine Qc<|Zd (Ya V) λb1 w1 ho hN hr=>QP Yu λb2 w2 he hO h2=>Qb ?_;have hf:=ho.D he;have hP:=ho.size;have hS:=Qbd (h.I hf) (hm.I hf) hp hi h0;rw[hT]at hS;refine Qc<|QY (hr.I he) O O<|Qw<|hS.Y ?_;rintro _ w3 ⟨hg,us,rfl,h3,h4,h5,hh⟩;refine Zf (z9 (J9 c hi')) λF hF=>?_;have hs:F=0->Zb (U0 (J9 c hi')):=λe=>qF (hF.D e);rw[hF]at G h5 hh;refine Zf (U0 (J9 c hi')) λS h6=>?_;rw[h6]at G hn hh hs;refine Qa<|QL O O<|x (QZ O (OR (λi=>some (sS i)) hF))<|QP Yu λb4 w4 h7 h8 h9=>Qo<|Zk (us:=us) h9 O O h3 O h4 λw5 hA hB=>Qb ?_;have T:sW w3 w5:=h7.O hA h8;have ht:=(hf.D hg).D T;have hj:=(h2.I hg).I T;refine Qe<|Ql<|ZI O O<|xe<|Za rfl (λhk=>?_) (λhk=>?_)
 ·have I:F≠0:=hk;rw[OQ I]at G;refine Qc<|x (Zq [] Z)<|Qa<|Q0 Yu hj Y0 λw6 hD hG=>Qb<|Qj ⟨[sT Yu,sS F],⟨Jm hG,O,Z⟩,ht.O hD oa,Yu,by rw[G];rfl,O,Y0,λ_=>O,λe=>OS (G.symm.D e) I⟩
 have I:F=0:=Lr.1 hk;rw[OP (λe=>e I)]at G;refine Qf ?_;obtain⟨sa,sm,se,hH,hI⟩:=hh I;have hJ:us=[sa,sS S.st,sm,se]:=by
  have:=Value.agg.inj hH;exact OR Array.toList this
 subst hJ;have hK:=hI [] od;refine Qc<|Q7 O<|x (ZS (us:=[V.pa,sS V.p.st,V.pm,V.pe]) (((hr.I he).I hg).I T) O O O)<|QY hB O O<|Qo<|Q5 [ZG ⟨V.pa,V.pm,V.pe,V.p⟩,ZG ⟨sa,sm,se,S⟩] λhQ w7 U hR hL=>?_;have Y:=ht.D U;have hC:=Qdu (QmG hL (h.a.I Y) (hK.I (T.D U))) (λq hq=>by
  rcases Ll.1 hq with rfl|hq
  ·exact hp.ok
  rw[Lb.1 hq];exact hs I) (hm.I Y)
 simp only[oT,OG]at hC;rw[<-G,<-hn]at hC;refine Qw<|hC.Y ?_;rintro r8 w8 ⟨hu,va,rfl,hw,hy⟩;obtain⟨vs,hv,hl,hvo⟩:∃vs,va=sT vs/\vs.length=4/\ZH vs:=by
  by_cases J:E=0
  ·exact Xa (hy J)
  exact⟨Yu,hw J,O,Y0⟩
 subst hv;have hU:=U.size;refine QL rfl O<|QL O O<|Qo<|Zk (us:=vs) (hj.I (U.D hu)) O O hl O hvo λw9 hz hM=>Qb<|Qj ⟨[sT vs,sS E],⟨⟨_,O,ZB hl (hM.at (L:=[]) od).cells⟩,rfl,Z⟩,(Y.D hu).O hz oa,vs,rfl,hl,hvo,λJ=>?_,λJ=>?_⟩
 ·have:=Value.agg.inj (hw J);exact OR Array.toList this
 have hV:=hj.lt;exact(YX (hy J) oa hz).Y Y.size
theorem j6 {k:Yl}{hi:LI}(h:hck k hi=0):0<k.co.length:=by
 unfold hck at h;by_cases E:ZW k≠0
 ·rw[OQ E]at h;exact OS h E
 exact Nat.pos_of_ne_zero (Yr (Lr.1 E)).c0
theorem yF:ZH Jo:=⟨O,O,O,O,O,Z⟩
theorem Qjd {b:Nat}{v:OY}{k:Yl}(h:ym N ↑w v k)(hb:b<N)(E:O1 [b] w w'):ym N ↑w' v k:=by
 obtain⟨c,G,I,J⟩:=h;refine⟨c,G,I,λL S=>?_⟩;exact((J (b::L) (λx hx=>by rcases Ll.1 hx with rfl|hx;exact hb;exact S x hx)).st (E.Y od)).up (λx hx=>.inl (Lm _ hx))
theorem zm {hi:LI}(h:ZV [] ↑w c)(hH:Qt [] ↑w vh hi)(hf:Kb w 4096)(S:hck c.V hi=0->HOk c.V hi):
  QT sV 21 [c.val,vh] w λr w'=>sW w w'/\∃vw,r=.tuple #[vw,sS (hck c.V hi)]/\vw.oneCell'=true/\(hck c.V hi≠0->vw=ZR)/\(hck c.V hi=0->Qh 3 ↑w w' vw (QcV (Ub c.V) hi (unc c.V.ev))/\Z5 (QcV (Ub c.V) hi (unc c.V.ev))):=by
 refine Zn func21 ?_;refine Qc<|Zd c.cells λb2 w1 hg hv hh=>x Qd<|Qb ?_;have I:=hg;refine Qc<|QY hh O O<|Qa<|Qw<|(Ji (h.I I) (hH.I I) (hf.I I) λe=>(S e).e).Y ?_;rintro _ w3 ⟨hj,us,rfl,hk,hl,hV⟩;have T:=Vh (k:=c.V) (hi:=hi);refine Zf (hck c.V hi) λE hE=>?_;rw[hE]at S hV T ⊢;refine Qa<|QL O O<|QL O O<|QP JR λb6 w4 hm hn ho=>Qo<|Zk (us:=us) ho O O hk O hl λw5 hq ha=>Qb ?_;have hc:sW w3 w5:=hm.O hq hn;have hr:=I.D hj;have J:=hr.D hc;refine Qe<|Ql<|ZI O O<|xe<|Za rfl (λU=>?_) (λU=>?_)
 ·have G:E≠0:=U;refine Ql<|x Qd<|Qb<|Qj ⟨[ZR,sS E],ov,J,ZR,O,O,λ_=>O,λe=>OS e G⟩
 have G:E=0:=Lr.1 U;obtain⟨V,rfl,hL,hK⟩:=hV G;have hp:yj V.p:=by rw[hK.p];exact(S G).p
 have hs:Z5 V.hi:=by rw[hK.h];exact(T G).1
 have ht:Z5 V.un:=by rw[hK.u];exact(T G).2
 have he:=hL.I hc;refine Qf<|Qc<|Q7 O<|x (ZS (us:=[V.pa,sS V.p.st,V.pm,V.pe]) ha O O O)<|Qa<|Qr O ha O O<|Qw<|(QfO he.a (hH.I J) he.u hp (by rw[<-hK.h];exact hs) ht).Y ?_;rintro _ w6 ⟨hu,vw,rfl,hI,Y⟩;refine QL rfl O<|QL O O<|x Qd<|Qb ?_;rw[hK.p,hK.u]at hI Y;refine Qj ⟨[vw,sS 0],ov,J.D hu,vw,by rw[G];rfl,(Qh.ints (L:=[]) hI (oo Y.len) od:Qt [] ↑w6 vw _).one,λe=>OS G e,λ_=>⟨?_,Y⟩⟩;exact⟨hI.1,hI.2.imp id λ⟨g,cap,cur,e1,e2,r⟩=>⟨g,cap,cur,e1,Lx J.size e2,r⟩⟩
theorem QkN {hi:LI}(h:ZV [] ↑w c)(hH:Qt [] ↑w vh hi)(hm:Kb w 4096)(U:hck c.V hi=0->HOk c.V hi):
  QT sV 37 [c.val,vh] w λr w'=>sW w w'/\∃us,r=.tuple #[sT us,sS (hck c.V hi)]/\us.length=4/\ZH us/\(hck c.V hi≠0->us=Yu)/\(hck c.V hi=0->Y1 ↑w ↑w' (sT us) (J4 (Ub c.V) hi)):=by
 refine Zn func37 ?_;refine Qc<|Zd c.cells λb2 w1 he h9 hn=>QP Yu λb4 w2 hf hB hg=>Qb ?_;have J:=he.D hf;have hC:=he.size;refine Qc<|QY (hn.I hf) O O<|Qa<|Qw<|(Ji (h.I J) (hH.I J) (hm.I J) λe=>(U e).e).Y ?_;rintro _ w3 ⟨Y,us,rfl,ho,hq,hV⟩;have ha:=Vh (k:=c.V) (hi:=hi);refine Zf (hck c.V hi) λE hE=>?_;rw[hE]at U hV ha ⊢;refine Qa<|QL O O<|QL O O<|QP JR λb6 w4 hr hs ht=>Qo<|Zk (us:=us) ht O O ho O hq λw5 hu hv=>Qb ?_;have S:sW w3 w5:=hr.O hu hs;have hw:=J.D Y;have T:=hw.D S;have hh:=(hg.I Y).I S;have hD:=hg.lt;have hF:=Y.size;have hG:=S.size;refine Qe<|Ql<|ZI O O<|xe<|Za rfl (λhc=>?_) (λhc=>?_)
 ·have G:E≠0:=hc;refine Qc<|x (Zq [] Z)<|Qa<|Q0 Yu hh Y0 λw6 hz h0=>Qb<|Qj ⟨[sT (Yu),sS E],⟨Jm h0,O,Z⟩,T.O hz oa,Yu,O,O,Y0,λ_=>O,λe=>OS e G⟩
 have G:E=0:=Lr.1 hc;obtain⟨V,rfl,hL,hK⟩:=hV G;have hp:yj V.p:=by rw[hK.p];exact(U G).p
 have h1:=hL.I S;refine Qf ?_;have hPr:=Vr h1.a (hH.I T) hp.ok (λy hy=>(ha G).1.b y hy) (ha G).1.i hp.s9 hp.e;refine Qc<|Q7 O<|x (ZS (us:=[V.pa,sS V.p.st,V.pm,V.pe]) hv O O O)<|Qa<|Qw<|hPr.Y ?_;rintro _ w7 ⟨h2,vp,vt,rfl,hI,hA⟩;rw[hK.p]at hA;obtain⟨vs,rfl,I,hvo⟩:=Xa hA;refine Qa<|QL O O<|QL O O<|QL O O<|QP Yu λb8 w8 h3 h4 h5=>Qo<|Zk (us:=vs) h5 O O I O hvo λw9 h6 h7=>x Qd<|Qb ?_;have hj:sW w7 w9:=h3.O h6 h4;have hk:=h2.D hj;refine Qc<|QY h7 O I<|Qa<|Qo<|Zk (us:=vs) (hh.I hk) O O I O hvo λhJ hl h8=>Qb<|Qj ⟨[sT vs,sS 0],⟨⟨_,O,ZB I (h8.at (L:=[]) od).cells⟩,rfl,Z⟩,(T.D hk).O hl oa,vs,by rw[G];rfl,I,hvo,λe=>OS G e,λ_=>?_⟩;exact(YX (hA.I hj) oa hl).Y T.size
theorem QhV {hi:LI}(h:ZV [] ↑w c)(hH:Qt [] ↑w vh hi)(hm:Kb w 4096)(S:hck c.V hi=0->HOk c.V hi):
  QT sV 38 [c.val,vh] w λr w'=>sW w w'/\∃us,r=.tuple #[sT us,sS (hck c.V hi)]/\us.length=5/\ZH us/\(hck c.V hi≠0->us=Jo)/\(hck c.V hi=0->ym ↑w ↑w' (sT us) (J9 c.V hi)):=by
 refine Zn func38 ?_;refine Qc<|Zd c.cells λb2 w1 hc h4 hn=>QP Jo λb4 w2 he h5 hf=>Qb ?_;have I:=hc.D he;have h6:=hc.size;refine Qc<|QY (hn.I he) O O<|Qa<|Qw<|(Ji (h.I I) (hH.I I) (hm.I I) λe=>(S e).e).Y ?_;rintro _ w3 ⟨T,us,rfl,ho,hq,hV⟩;have hg:=Vh (k:=c.V) (hi:=hi);have hh:=j6 (k:=c.V) (hi:=hi);refine Zf (hck c.V hi) λE hE=>?_;rw[hE]at S hV hg hh ⊢;refine Qa<|QL O O<|QL O O<|QP JR λb6 w4 hr hs ht=>Qo<|Zk (us:=us) ht O O ho O hq λw5 hu hv=>Qb ?_;have J:sW w3 w5:=hr.O hu hs;have hw:=I.D T;have U:=hw.D J;have hj:=(hf.I T).I J;have h7:=hf.lt;have h8:=T.size;have h9:=J.size;refine Qe<|Ql<|ZI O O<|xe<|Za rfl (λY=>?_) (λY=>?_)
 ·have G:E≠0:=Y;refine Qc<|x (Zq [] Z)<|Qa<|Q0 Jo hj yF λw6 hy hz=>Qb<|Qj ⟨[sT (Jo),sS E],⟨Jm hz,O,Z⟩,U.O hy oa,Jo,O,O,yF,λ_=>O,λe=>OS e G⟩
 have G:E=0:=Lr.1 Y;obtain⟨V,rfl,hL,hK⟩:=hV G;have hp:yj V.p:=by rw[hK.p];exact(S G).p
 have h0:Z5 V.hi:=by rw[hK.h];exact(hg G).1
 have h1:0<V.c.co.length:=by rw[hK.c];have e0:=hh G;rw[show c.V.co.length=c.co.length from Lj _]at e0;exact e0
 have h2:=hL.I J;refine Qf ?_;have hT:qD V.c.V (J4 V.p V.hi)=J9 c.V hi:=by rw[hK.c,hK.p,hK.h]
 have hC:=yZ h2 hp h0 h1;rw[hT]at hC;refine Qc<|QY hv O O<|Qw<|hC.Y ?_;rintro _ w7 ⟨hk,vs,rfl,ha,hvo,hA⟩;refine QL rfl O<|QL O O<|Qo<|Zk (us:=vs) (hj.I hk) O O ha O hvo λw8 hl h3=>Qb<|Qj ⟨[sT vs,sS 0],⟨⟨_,O,ZB ha (h3.at (L:=[]) od).cells⟩,rfl,Z⟩,(U.D hk).O hl oa,vs,by rw[G];rfl,ha,hvo,λe=>OS G e,λ_=>?_⟩;exact(Qjd hA oa hl).Y U.size
theorem QkM {hi:LI}(h:ZV [] ↑w c)(hH:Qt [] ↑w vh hi)(hf:Kb w 4096)(Y:hck c.V hi=0->HOk c.V hi):
  QT sV 39 [c.val,vh] w λr w'=>sW w w'/\∃us,r=.tuple #[sT us,sS (hsE c.V hi)]/\us.length=4/\ZH us/\(hsE c.V hi≠0->us=Yu)/\(hsE c.V hi=0->Y1 ↑w ↑w' (sT us) (U0 (J9 c.V hi))):=by
 have I:hsE c.V hi=if hck c.V hi≠0 then hck c.V hi else z9 (J9 c.V hi):=rfl
 refine Zf (hsE c.V hi) λS hS=>?_;rw[hS]at I ⊢;refine Zn func39 ?_;refine Qc<|Zd c.cells λb2 w1 hg h8 hr=>QP Yu λb4 w2 hh h9 hj=>Qb ?_;have J:=hg.D hh;have hB:=hg.size;refine Qc<|QY (hr.I hh) O O<|Qa<|Qw<|(Ji (h.I J) (hH.I J) (hf.I J) λe=>(Y e).e).Y ?_;rintro _ w3 ⟨ha,us,rfl,hs,ht,hV⟩;have hk:=Vh (k:=c.V) (hi:=hi);have hl:=j6 (k:=c.V) (hi:=hi);refine Zf (hck c.V hi) λE hE=>?_;rw[hE]at Y hV hk hl I ⊢;refine Qa<|QL O O<|QL O O<|QP JR λb6 w4 hu hv hw=>Qo<|Zk (us:=us) hw O O hs O ht λw5 hy hz=>Qb ?_;have T:sW w3 w5:=hu.O hy hv;have h0:=J.D ha;have U:=h0.D T;have hm:=(hj.I ha).I T;have hD:=hj.lt;have hF:=ha.size;have hG:=T.size;refine Qe<|Ql<|ZI O O<|xe<|Za rfl (λhc=>?_) (λhc=>?_)
 ·have G:E≠0:=hc;refine Qc<|x (Zq [] Z)<|Qa<|Q0 Yu hm Y0 λw6 h1 h2=>Qb<|Qj ⟨[sT (Yu),sS E],⟨Jm h2,O,Z⟩,U.O h1 oa,Yu,by rw[I,OQ G];rfl,O,Y0,λ_=>O,λe=>OS (by rw[I,OQ G]at e;exact e) G⟩
 have G:E=0:=Lr.1 hc;obtain⟨V,rfl,hL,hK⟩:=hV G;have hp:yj V.p:=by rw[hK.p];exact(Y G).p
 have h3:Z5 V.hi:=by rw[hK.h];exact(hk G).1
 have h4:0<V.c.co.length:=by rw[hK.c];have e0:=hl G;rw[show c.V.co.length=c.co.length from Lj _]at e0;exact e0
 have h5:=hL.I T;have h6:=hf.I U;refine Qf ?_;rw[OP (λe=>e G)]at I;have hT:qD V.c.V (J4 V.p V.hi)=J9 c.V hi:=by rw[hK.c,hK.p,hK.h]
 have hC:=Qbd h5 h6 hp h3 h4;rw[hT,<-I]at hC;refine Qc<|QY hz O O<|Qw<|hC.Y ?_;rintro _ w7 ⟨ho,vs,rfl,he,hvo,hn,hA⟩;refine QL rfl O<|QL O O<|Qo<|Zk (us:=vs) (hm.I ho) O O he O hvo λw8 hq h7=>Qb<|Qj ⟨[sT vs,sS S],⟨⟨_,O,ZB he (h7.at (L:=[]) od).cells⟩,rfl,Z⟩,(U.D ho).O hq oa,vs,rfl,he,hvo,hn,λe=>?_⟩;exact(YX (hA e) oa hq).Y U.size
theorem QkL {hi:LI}(h:ZV [] ↑w c)(hH:Qt [] ↑w vh hi)(hf:Kb w 4096)(Y:hck c.V hi=0->HOk c.V hi):
  QT sV 28 [c.val,vh] w λr w'=>sW w w'/\∃us,r=.tuple #[sT us,sS (hgE c.V hi)]/\us.length=4/\ZH us/\(hgE c.V hi≠0->us=Yu)/\(hgE c.V hi=0->Y1 ↑w ↑w' (sT us) (j0 c.V hi)):=by
 have I:hgE c.V hi=if hck c.V hi≠0 then hck c.V hi else htE c.V hi:=rfl
 refine Zf (hgE c.V hi) λS hS=>?_;rw[hS]at I ⊢;refine Zn func28 ?_;refine Qc<|Zd c.cells λb2 w1 hg h8 hr=>QP Yu λb4 w2 hh h9 hj=>Qb ?_;have J:=hg.D hh;have hB:=hg.size;refine Qc<|QY (hr.I hh) O O<|Qa<|Qw<|(Ji (h.I J) (hH.I J) (hf.I J) λe=>(Y e).e).Y ?_;rintro _ w3 ⟨ha,us,rfl,hs,ht,hV⟩;have hk:=Vh (k:=c.V) (hi:=hi);have hl:=j6 (k:=c.V) (hi:=hi);refine Zf (hck c.V hi) λE hE=>?_;rw[hE]at Y hV hk hl I ⊢;refine Qa<|QL O O<|QL O O<|QP JR λb6 w4 hu hv hw=>Qo<|Zk (us:=us) hw O O hs O ht λw5 hy hz=>Qb ?_;have T:sW w3 w5:=hu.O hy hv;have h0:=J.D ha;have U:=h0.D T;have hm:=(hj.I ha).I T;have hD:=hj.lt;have hF:=ha.size;have hG:=T.size;refine Qe<|Ql<|ZI O O<|xe<|Za rfl (λhc=>?_) (λhc=>?_)
 ·have G:E≠0:=hc;refine Qc<|x (Zq [] Z)<|Qa<|Q0 Yu hm Y0 λw6 h1 h2=>Qb<|Qj ⟨[sT (Yu),sS E],⟨Jm h2,O,Z⟩,U.O h1 oa,Yu,by rw[I,OQ G];rfl,O,Y0,λ_=>O,λe=>OS (by rw[I,OQ G]at e;exact e) G⟩
 have G:E=0:=Lr.1 hc;obtain⟨V,rfl,hL,hK⟩:=hV G;have hp:yj V.p:=by rw[hK.p];exact(Y G).p
 have h3:Z5 V.hi:=by rw[hK.h];exact(hk G).1
 have h4:0<V.c.co.length:=by rw[hK.c];have e0:=hl G;rw[show c.V.co.length=c.co.length from Lj _]at e0;exact e0
 have h5:=hL.I T;have h6:=hf.I U;refine Qf ?_;rw[OP (λe=>e G)]at I;have hC:=Qbc (c:=c.V) (hi':=hi) h5 h6 hp h3 h4 (by rw[hK.c]) hK.p hK.h;rw[<-I]at hC;refine Qc<|QY hz O O<|Qw<|hC.Y ?_;rintro _ w7 ⟨ho,vs,rfl,he,hvo,hn,hA⟩;refine QL rfl O<|QL O O<|Qo<|Zk (us:=vs) (hm.I ho) O O he O hvo λw8 hq h7=>Qb<|Qj ⟨[sT vs,sS S],⟨⟨_,O,ZB he (h7.at (L:=[]) od).cells⟩,rfl,Z⟩,(U.D ho).O hq oa,vs,rfl,he,hvo,hn,λe=>?_⟩;exact(YX (hA e) oa hq).Y U.size
instance:Ay sV 143 2 3 1:=⟨oc,oc⟩
def hcX (c:Yl)(hi:LI):Int:=if hck c hi≠0 then hck c hi else hcE c hi
theorem QhS {c:Yl}{hi:LI}(I:yj (Ub c))(h:htE c hi=0):Zb (j0 c hi):=by
 unfold htE at h;by_cases E:z9 (J9 c hi)≠0
 ·rw[OQ E]at h;exact OS h E
 rw[OP E]at h;exact Qgq (λa G=>by
  rcases Ll.1 G with rfl|G
  ·exact I.ok
  rw[Lb.1 G];exact qF (Lr.1 E)) h
theorem Qee {hi:LI}(h:ZV [] ↑w c)(hH:Qt [] ↑w vh hi)(hl:Kb w 4096)(hO:hck c.V hi=0->HOk c.V hi):
  QT sV 25 [c.val,vh] w λr w'=>sW w w'/\∃v e,r=.tuple #[v,.bool e,sS (hcX c.V hi)]/\(hcX c.V hi≠0->v=ZR/\e=false) /\
   (hcX c.V hi=0->match hcR c.V hi with|none=>v=ZR/\e=true|some u=>e=false/\Qh 3 ↑w w' v u):=by
 have I:hcX c.V hi=if hck c.V hi≠0 then hck c.V hi else if htE c.V hi≠0 then htE c.V hi else z9 c.V:=rfl
 have hm:htE c.V hi=0->yj (Ub c.V)->Zb (j0 c.V hi):=λe hp=>QhS hp e;have hn:z9 c.V=0->Zb (U0 c.V):=qF;have J:hcR c.V hi=match lgq (j0 c.V hi) (U0 c.V) 1 with|some u=>some u|none=>lgq (j0 c.V hi) (U0 c.V) 2:=rfl
 refine Zf (hcX c.V hi) λX hX=>?_;refine Zf (hcR c.V hi) λR hR=>?_;rw[hX]at I;rw[hR]at J;rw[hX,hR];refine Zn func25 ?_;refine Qc<|Zd c.cells λb2 w1 hN kf h2=>x Qd<|x Qd<|Qb ?_;have hf:=hN;refine Qc<|QY h2 O O<|Qa<|Qw<|(Ji (h.I hf) (hH.I hf) (hl.I hf) λe=>(hO e).e).Y ?_;rintro _ w3 ⟨h3,us,rfl,hP,hU,hV⟩;have h4:=Vh (k:=c.V) (hi:=hi);have h5:=j6 (k:=c.V) (hi:=hi);refine Zf (hck c.V hi) λE hE=>?_;rw[hE]at hO hV h4 h5 I ⊢;refine Qa<|QL O O<|QL O O<|QP JR λb6 w4 hW hY hZ=>Qo<|Zk (us:=us) hZ O O hP O hU λw5 ga gb=>Qb ?_;have ho:sW w3 w5:=hW.O ga hY;have gc:=hf.D h3;have hr:=gc.D ho;refine Qe<|Ql<|ZI O O<|xe<|Za rfl (λhs=>?_) (λhs=>?_)
 ·have S:E≠0:=hs;rw[OQ S]at I;refine Ql<|x Qd<|x Qd<|Qb<|Qj ⟨[ZR,.bool false,sS E],ox,hr,ZR,false,by rw[I];rfl,λ_=>⟨O,O⟩,λe=>OS (I.symm.D e) S⟩
 have S:E=0:=Lr.1 hs;rw[OP (λe=>e S)]at I;obtain⟨V,rfl,hL,hK⟩:=hV S;have hp:yj V.p:=by rw[hK.p];exact(hO S).p
 have ge:Z5 V.hi:=by rw[hK.h];exact(h4 S).1
 have gg:0<V.c.co.length:=by rw[hK.c];have e0:=h5 S;rw[show c.V.co.length=c.co.length from Lj _]at e0;exact e0
 have gh:=hL.I ho;have gi:=hl.I hr;have hT:=Qbc (c:=c.V) (hi':=hi) gh gi hp ge gg (by rw[hK.c]) hK.p hK.h;have gj:yj (Ub c.V):=(hO S).p;refine Zf (htE c.V hi) λF hF=>?_;rw[hF]at I hm hT;refine Zf (j0 c.V hi) λTA gk=>?_;rw[gk]at hm hT J;refine Qf<|Qc<|QY gb O O<|Qw<|hT.Y ?_;rintro _ w6 ⟨h6,vs,rfl,gl,hvo,_,hA⟩;refine Qa<|QL O O<|QL O O<|QP Yu λb8 w7 gm gn go=>Qo<|Zk (us:=vs) go O O gl O hvo λw8 gq gr=>Qb ?_;have ht:sW w6 w8:=gm.O gq gn;have hg:=(hr.D h6).D ht;refine Qe<|Ql<|ZI O O<|xe<|Za rfl (λhu=>?_) (λhu=>?_)
 ·have Y:F≠0:=hu;rw[OQ Y]at I;refine Ql<|x Qd<|x Qd<|Qb<|Qj ⟨[ZR,.bool false,sS F],ox,hg,ZR,false,by rw[I];rfl,λ_=>⟨O,O⟩,λe=>OS (I.symm.D e) Y⟩
 have Y:F=0:=Lr.1 hu;rw[OP (λe=>e Y)]at I;refine Qf ?_;have gs:=hm Y gj;obtain⟨ta,tm,te,gt,gu⟩:=hA Y;have gv:vs=[ta,sS TA.st,tm,te]:=OR Array.toList (Value.agg.inj gt);subst gv;have gx:=gu [] od;have hS:=K7 (h.I hg) (hl.I hg);refine Zf (z9 c.V) λG hG=>?_;have hsp:Y2 c.V=G:=hG;rw[hG]at I hn hS;rw[hsp]at hS;refine Zf (U0 c.V) λSA gy=>?_;rw[gy]at hn hS J;refine Qc<|x (Zj (((h2.I h3).I ho).I (h6.D ht)) O O)<|Qw<|hS.Y ?_;rintro _ w9 ⟨gz,sa,sm,se,rfl,hw,_,g0⟩;refine Qa<|QL O O<|QL O O<|QP Yu λb9 kg g2 g3 g4=>Q0 [sa,sS (if G=0 then SA.st else 0),sm,se] g4 ⟨hw.1,O,hw.2.1,hw.2.2.1,Z⟩ λh7 g5 h8=>Qb ?_
 have h9:sW w9 h7:=g2.O g5 g3;have hy:=gz.D h9;have hB:=hg.D hy;refine Qe<|Ql<|ZI O O<|xe<|Za rfl (λhz=>?_) (λhz=>?_)
 ·have ha:G≠0:=hz;refine Ql<|x Qd<|x Qd<|Qb<|Qj ⟨[ZR,.bool false,sS G],ox,hB,ZR,false,by rw[I];rfl,λ_=>⟨O,O⟩,λe=>OS (I.symm.D e) ha⟩
 have ha:G=0:=Lr.1 hz;rw[OQ ha]at h8;have g6:=hn ha;have g7:=g0 ha [] od;have hh:X=0:=I.D ha;have g8:=gr.I hy;refine Qf<|Qe<|Qc<|x (QB ⟨O,O,Z⟩)<|Qa<|xe<|QW (α:=Nat) [(4,6),(11,11),(38,58)] (λz=>[(38,sS z)]) (λz w'=>z<=2/\sW h7 w'/\(0<z->lgq TA SA 1=none)/\(1<z->lgq TA SA 2=none)) (λz=>2 - z) 0 La ⟨oa,O1.Z _ _,λe=>OS e oa,λe=>OS e oa⟩ ?_;rintro k g kh ⟨hk,hc,hk1,g9⟩;have h0:=hB.D hc;refine Zi rfl O (λhC=>?_) (λhC=>?_)
 ·refine Qu ?_;rw[hk1 oa]at J;have hD:R=lgq TA SA 2:=J;rw[g9 oa]at hD;refine Qc<|x Qd<|x Qd<|Qb<|Qj ⟨[ZR,.bool true,sS 0],ox,h0,ZR,true,by rw[hh];rfl,λe=>OS hh e,λ_=>?_⟩;rw[hD];exact⟨O,O⟩
 have ki:(k:Int)<(2:Nat):=hC;have hI:k<2:=oa
 refine Qf<|Qe<|Qn<|Qc<|x (QaX (i:=k) (cs:=[sS 1,sS 2]) (u:=sS ((k:Int)+1)) O O hI (by rcases(by omega:k=0\/k=1)with rfl|rfl <;> rfl))<|Qb ?_
 have hq:=QcI (gx.I ((ht.D hy).D hc)) (g7.I (h9.D hc)) ((k:Int)+1);rw[Qhv gs g6 oa]at hq;refine Zf (lgq TA SA ((k:Int)+1)) λQ U=>?_;rw[U]at hq;refine Qc<|QY (g8.I hc) O O<|QY (h8.I hc) O O<|Qa<|Qw<|hq.Y ?_;rintro _ ka ⟨hJ,v,e,rfl,T⟩;have T:=T O;refine Qa<|QL O O<|QL O O<|QL O O<|x Qd<|x Qd<|Qb ?_;have kb:=h0.D hJ;refine QV (α:=Bool) [(49,54)] (λz=>[(54,.bool z)]) (λz w'=>w'=ka/\z=!e) oh ?_ ?_
 ·refine Qs<|Qa<|xb (Kw O O) (λhM=>?_) (λhM=>?_)
  ·exact OS O hM
  refine Qa<|Qa<|x (Zh O)<|QA O<|xe ?_;exact⟨!e,La,O,O⟩
 rintro z g kj ⟨rfl,rfl⟩;refine Q9 rfl (λh1=>?_) (λh1=>?_)
 ·have he:e=false:=by cases e;rfl;cases h1
  refine Ql<|Qa<|Qa<|x Qd<|x Qd<|Qb<|Qj ⟨[v,.bool e,sS 0],ox,kb,v,e,by rw[hh];rfl,λe=>OS hh e,λ_=>?_⟩;cases hj:Q with
  | none =>
   rw[hj]at T;exact OS (he.symm.D T.2) og
  | some u =>
   rw[hj]at T U;have kc:R=some u:=by
    rcases(by omega:k=0\/k=1)with rfl|rfl
    ·rw[show lgq TA SA 1=some u from U]at J;exact J
    rw[hk1 oa]at J;exact J.D U
   rw[kc];exact⟨he,T.2.1,T.2.2.imp id λ⟨g,cap,cur,e1,e2,r⟩=>⟨g,cap,cur,e1,Lx h0.size e2,r⟩⟩
 have he:e=true:=by cases e;cases h1;rfl
 have ke:Q=none:=by
  cases hj:Q with
  | none=>rfl
  | some u=>rw[hj]at T;exact OS (T.1.symm.D he) og
 rw[ke]at U;refine Qf<|Qs<|QC O O<|Qa<|xe<|⟨k+1,oa,La,hI,hc.D hJ,λ_=>?_,λkk=>?_⟩
 ·rcases(by omega:k=0\/k=1)with rfl|rfl
  ·exact U
  exact hk1 oa
 have e1:k=1:=oa
 subst e1;exact U
def Jp:Yl:={ mzC 2 with rq:=[VQ] }
theorem QhC:hck Jp [1,2]=0:=oc
theorem QmN:hck Jp [0,1,2]=0:=oc
theorem QmK:plE Jp=0:=oc
theorem QmL:XK (Ub Jp)=0:=oc
theorem QmI:(Ub Jp).st=4:=oc
theorem QmJ:(Ub Jp).ed.length=8:=oc
theorem QhB:(nbl (Ub Jp)).2=true:=oc
theorem QmR:cns (Ub Jp) [1,2] (unc Jp.ev)=some ([],1):=oc
theorem QmQ:cns (Ub Jp) [0,1,2] (unc Jp.ev)=none:=oc
theorem QmM:obs (Ub Jp) [0,1,2] []=none:=oc
theorem QoB:QcV (Ub Jp) [1,2] (unc Jp.ev)=[0,1,2]:=oc
theorem QmP:hcX Jp [0,1,2]=0:=oc
theorem QmO:hcR Jp [0,1,2]=none:=oc
theorem QeU {v:OY}{l':LI}(h:Qt L ↑w v l)(E:Qt L' ↑w v' l'):QT sV 23 [v,v'] w λr w'=>r=.bool (decide (l=l'))/\sW w w':=by
 have hj:=h.le;refine Zn func23 ?_;refine Qc<|Qb<|Qe<|Ql<|QG h O<|Qa<|QG E O<|ZI O O<|xe<|Za rfl (λY=>?_) (λY=>?_)
 ·refine Qc<|Qb<|Qj ⟨[.bool false],La,?_,O1.Z _ _⟩;have I:l≠l':=λe=>Y (by rw[e]);simp[tup,I]
 refine Qf<|Qe<|Qc<|Qb<|QW (α:=Nat) [(4,5),(11,25)] (λk=>[(5,sS k)]) (λk w'=>sW w w'/\k<=l.length/\(l=l'↔l.drop k=l'.drop k)) (λk=>l.length - k) 0 La ⟨O1.Z _ _,Ln _,od⟩ ?_;rintro k g w1 ⟨G,hk,J⟩
 replace h:=h.I G
 replace E:=E.I G;refine Qe<|Ql<|Qa<|QG h O<|ZX O O<|xe<|Zp rfl (λhf=>?_) (λhf=>?_)
 ·refine Qu<|Qc<|Qb<|Qj ⟨[.bool true],La,?_,G⟩;rw[Ls oa,Ls oa]at J;simp[tup,J]
 have S:k<l.length:=oa
 have T:k<l'.length:=oa
 refine Qf<|Qe<|Qn<|Qe<|ZJ [] (Y4 0 9 [])<|p Qy<|p Qy<|pii (i:=k) O h O O S λhl hg=>pq (λ_ U=>Qq (hg.I U) O)<|p Qy<|p Qy<|pii (i:=k) O E O O T λhn hh=>pq (λ_ U=>Qq (hh.I U) O)<|p (λ_=>Kw O O)<|pe ?_;have ha:=G.D (O1.C [] w1);refine Za rfl (λV=>?_) (λV=>?_)
 ·refine Qc<|Qb<|Qj ⟨[.bool false],La,?_,ha⟩;have I:l≠l':=λe=>V (by simp[e]);simp[tup,I]
 refine Qf<|Qs<|Qa<|QC O O<|Qb<|⟨k+1,oa,La,ha,oa,?_⟩;have he:l[k]'S=l'[k]'T:=Lr.1 V;rw[J,QX S,QX T,he];exact⟨λh=>(List.cons.inj h).2,λh=>by rw[h]⟩
theorem QhU {v:OY}(h:Qt L ↑w v l)(x:Int):
  QT sV 27 [v,sS x] w λr w'=>r=.bool (decide (x∈l))/\w'=w:=by
 have T:=h.le;refine Zn func27 ?_;refine Qc<|Lg.Qb<|Qe<|Qc<|Lg.Qb<|QW (α:=Nat) [(4,17)] (λk=>[(5,sS k)]) (λk w'=>w'=w/\k<=l.length/\(x∈l↔x∈l.drop k)) (λk=>l.length - k) 0 La ⟨O,Ln _,od⟩ ?_;rintro k g w' ⟨rfl,U,E⟩;refine Qe<|Qc<|Lg.Qa<|Lg.Qa<|Lg.x (YH h O)<|Lg.ZX O O<|xe<|Zp rfl (λJ=>?_) (λJ=>?_)
 ·refine Qu<|Qc<|Lg.Qb<|Qj ⟨[.bool false],La,?_,O⟩;rw[Ls oa]at E;simp[tup,E]
 have I:k<l.length:=oa
 have hd:=QX I;refine Qf<|Qe<|Qn<|Qc<|Lg.Qa<|Lg.Qa<|xii h O O I λV S=>Lg.x (Qq S O)<|Lg.Qa<|Lg.x (Q6 O O)<|xe<|Za rfl (λG=>?_) (λG=>?_)
 ·refine Qc<|Lg.Qb<|Qj ⟨[.bool true],La,?_,O⟩;have:x∈l:=by rw[E,hd,G];exact Lo
  simp[tup,this]
 refine Qf<|Qs<|Lg.Qa<|Lg.QC O O<|Lg.Qb<|⟨k+1,oa,La,O,oa,?_⟩;rw[E,hd,Ll];exact⟨λh=>h.resolve_left (λe=>G e.symm),.inr⟩
theorem Qja {R:RpV}  : QT sV 24 [sT (Zx R)] w λr w'=>r=.bool (R.t && R.o && R.c)/\sW w w':=by
 refine Zn func24 ?_;refine Qc<|Zd (Zx R) λT J S U G=>Qb<|QV (α:=Bool) [(2,12)] (λz=>[(2,.bool z)]) (λz w'=>w'=J/\z=(R.t && R.o && R.c)) oh ?_ ?_
 ·refine Qs<|Q7 O<|xB (Qk (u:=.bool R.t) G O O) (λE=>?_) (λE=>?_)
  ·refine Qa<|Q7 O<|xB (Qk (u:=.bool R.o) G O O) (λI=>?_) (λI=>?_)
   ·refine QA O<|Qa<|Qr O (u:=.bool R.c) G O O<|QA O<|Qb<|⟨R.c,La,O,by rw[E,I];rfl⟩
   refine QA O<|Qa<|YD<|QA O<|Qb<|⟨false,La,O,by rw[E,I];rfl⟩
  refine Qa<|YD<|QA O<|Qa<|YD<|QA O<|Qb<|⟨false,La,O,by rw[E];rfl⟩
 rintro z g V ⟨rfl,rfl⟩;exact Qj ⟨[.bool (R.t && R.o && R.c)],La,O,S⟩
theorem XY (w:OX):QT sV 114 [] w λr w'=>sW w w'/\ym ↑w ↑w' r Jp:=by
 refine Zn func114 ?_;refine Qc<|QP Jo λG w1 hu hC hf=>xe ?_;refine Qc<|Qw<|(JD 2 og w1).Y ?_;rintro r2 w2 ⟨hg,E,rfl,hv,hh⟩;refine QP Jo λI w3 hw hl hy=>Q0 E.cells hy (hh [] od).ones λV hz hn=>xe ?_;have Y:sW w2 V:=hw.O hz hl;have hD:=hg.size;refine Qc<|Qo<|Q5 [[sS 1],[sS 2]] λJ w5 ho hE h0=>Qo<|Q5 [[sS 0],[sS 1]] λS w6 hj hF h1 =>
  x (QB ⟨rfl,O,O,Z⟩)<|x (QB ⟨O,O,O,Z⟩)<|Qo<|Q5 [Qp (0,1,1),Qp (1,2,0)] λT w7 ha hG h3=>?_
 refine x (QB ⟨O,O,O,O,Z⟩)<|x (Zq [(0,[.string JQ]),(1,[sL J 2 2,sS 2,sL S 2 2,sL T 2 2])] ⟨O,O,O,O,Z⟩) <|
  Qo<|Q5 [[.string JQ,sL J 2 2,sS 2,sL S 2 2,sL T 2 2]] λb10 w8 hc hH h4=>?_
 have hp:=((ho.D hj).D ha).D hc;refine Q7 rfl<|Qo<|Qv (j:=2) (u:=sL b10 1 1) (hn.I hp) O O od rfl λw9 hr h5=>xe ?_;have hJ:=hf.lt;have hK:=Y.size;have hM:=ho.size;have hN:=hj.size;have hO:=ha.size;have hk:O1 [I] V w9:=hp.any.Q hr;have h6:G∉[I]:=ol
 have h7:ZH [E.ve,E.vc,sL b10 1 1,E.vx,E.vk]:=by
  have h9:=(hh [] od).ones;exact⟨h9.1,h9.2.1,O,h9.2.2.2.1,h9.2.2.2.2.1,Z⟩
 refine Qc<|QY h5 O O<|Q0 [E.ve,E.vc,sL b10 1 1,E.vx,E.vk] (((hf.I hg).I Y).J hk h6) h7 λhP hs h8=>xe ?_;have U:=(CL.cel_rq hv (sL b10 1 1) [⟨JQ,⟨sL J 2 2,sL S 2 2,sL T 2 2,VQ.a⟩⟩]);refine Qj ⟨[.agg #[E.ve,E.vc,sL b10 1 1,E.vx,E.vk]],⟨Jm h8,Z⟩,(((hu.D hg).D Y).O hk oa).O hs oa,_,O,U,λL hL=>?_⟩;have ht:∀b∈G::L,b<w1.heap.size:=λb hb=>by
  rcases Ll.1 hb with rfl|hb
  ·exact hf.lt
  have:=hL b hb;omega
 have hA:∀b∈I::G::L,b<V.heap.size:=λb hb=>by
  rcases Ll.1 hb with rfl|hb
  ·exact hn.lt
  have:=ht b hb;omega
 have h2:=(hh (G::L) ht).up (L':=I::G::L) (λb hb=>by
  rcases Ll.1 hb with rfl|hb
  ·exact .inr hl
  exact .inl hb)
 have he:=(h2.I Y).st (hk.Y od);have nB:∀b,↑V<=b->b∉I::G::L:=λb hb hm=>oo (hA b hm)
 have hI:KM (I::G::L) ↑w8 (sL b10 1 1) [⟨JQ,⟨sL J 2 2,sL S 2 2,sL T 2 2,VQ.a⟩⟩]:=by
  refine⟨h4.arr (nB _ oa) (n:=1) (cap:=1) (sz:=5) O og (Lp _),λq U=>?_,λq U=>?_⟩
  ·rw[Lb.1 U];exact⟨(((h0.I hj).I ha).I hc).arr (nB _ oa) (n:=2) (cap:=2) (sz:=1) O og (Lp _),((h1.I ha).I hc).arr (nB _ oa) (n:=2) (cap:=2) (sz:=1) O og (Lp _),(h3.I hc).arr (nB _ oa) (n:=2) (cap:=2) (sz:=3) O og (Lp _)⟩
  rw[Lb.1 U];exact X2 og
 have hB:ZV (I::G::L) ↑w9 (CL.mk E.ve E.vc (sL b10 1 1) E.vx E.vk E.ev E.co [⟨JQ,⟨sL J 2 2,sL S 2 2,sL T 2 2,VQ.a⟩⟩] E.ex E.cs):=
  ⟨he.ev,he.co,hI.st (hr.Y od),he.ex,he.cs⟩
 exact(hB.st (hs.Y od)).up (λb hb=>.inl (Lm _ (Lm _ hb)))
theorem qr (hi:LI):HOk Jp hi:=⟨QmK,⟨(ZF _).1 QmL,by rw[show(Kq (O3 Jp.co)).st=4 from QmI];decide,by rw[show(Kq (O3 Jp.co)).ed.length=8 from QmJ];decide⟩⟩
theorem QlH {k:Yl}{hi:LI}{V:LvV}{H:xw}{R:RpV}(E:LvK c hi V)(S:c.V=k)(h:z8 [] H V 3 R):
  (R.t=(nbl (Ub k)).2/\Qt [] H R.vs (nbl (Ub k)).1)/\(R.o=(obs (Ub k) hi []).isNone/\Qt [] H R.vw ((obs (Ub k) hi []).elim [] (·.1))/\Qt [] H R.vo ((obs (Ub k) hi []).elim [] (·.2))) /\
   R.c=(cns (Ub k) hi (unc k.ev)).isNone/\R.ev=(cns (Ub k) hi (unc k.ev)).elim (-1) (·.2)/\Qt [] H R.vp ((cns (Ub k) hi (unc k.ev)).elim [] (·.1)):=by
 subst S;have G:=h.p1 og;have I:=h.p2 og;have J:=h.p3 og;have eu:V.un=unc c.V.ev:=E.u;rw[E.p]at G;rw[E.p,E.h]at I;rw[E.p,E.h,eu]at J;exact⟨G,I,J⟩
theorem Qeb {H:xw}:Qt L H ZR []:=⟨O,og,.inl ⟨O,O⟩⟩
theorem Qox {H:xw}{b:Nat}{m n:Int}(h:QK H b T [sS m,sS n]):Qt [] H (sL b 2 2) [m,n]:=h.arr od (n:=2) (cap:=2) (sz:=1) rfl oa (Lp _)
theorem QmH {H:xw}{b:Nat}{m n o:Int}(h:QK H b T [sS m,sS n,sS o]):Qt [] H (sL b 3 3) [m,n,o]:=h.arr od (n:=3) (cap:=3) (sz:=1) rfl oa (Lp _)
theorem QcK (E:Kb w 4096):QT sV 46 [] w λr w'=>r=.bool true/\sW w w':=by
 refine Zn func46 ?_;refine Qc<|Qb<|Qc<|Qw<|(XY w).Y ?_;rintro r1 w1 ⟨h5,⟨c1,rfl,G,h6⟩⟩;refine Qo<|Q5 [[sS 1],[sS 2]] λgt w2 U gu h7=>?_;have V:=h5.D U;have hT:=Qan ((h6 [] od).I U) (Qox h7) (E.I V) λ_=>by rw[G];exact qr _
 rw[G,QhC]at hT;refine Qw<|hT.Y ?_;rintro _ w3 ⟨h8,R1,rfl,h9,_,hA⟩;obtain⟨V1,hB,hC⟩:=hA O;obtain⟨⟨Y,_⟩,_,ha,e1,_⟩:=QlH hB G hC;rw[QhB]at Y;rw[QmR]at ha e1;refine Qa<|QL O O<|QL O O<|QP (Zx rp8) λb1 w4 hD hE hF=>Q0 (Zx R1) hF h9 λw5 hG hI=>Qb ?_;have hJ:sW w3 w5:=hD.O hG hE;have he:=(V.D h8).D hJ;refine Qc<|Qw<|(XY w5).Y ?_;rintro r6 w6 ⟨hK,⟨c6,rfl,I,hL⟩⟩;refine Qo<|Yf (us:=[[sS 0],[sS 1],[sS 2]]) O O og od ⟨rfl,rfl,rfl,rfl,rfl,rfl,Z⟩ λgv w7 hf gx hM=>?_;have hg:=hK.D hf;have hT:=Qan ((hL [] od).I hf) (QmH hM) (E.I (he.D hg)) λ_=>by rw[I];exact qr _
 rw[I,QmN]at hT;refine Qw<|hT.Y ?_;rintro _ w8 ⟨hN,R2,rfl,hO,_,hP⟩;obtain⟨V2,hQ,hR⟩:=hP O;obtain⟨⟨t2,_⟩,⟨o2,_⟩,hh,_⟩:=QlH hQ I hR;rw[QhB]at t2;rw[QmM]at o2;rw[QmQ]at hh;refine Qa<|QL O O<|QL O O<|QP (Zx rp8) λb3 w9 hS hU hV=>Q0 (Zx R2) hV hO λhj hW hY=>Qb ?_;have hZ:sW w8 hj:=hS.O hW hU;have hk:=(hg.D hN).D hZ;have J:=he.D hk;refine Qc<|Qw<|(XY hj).Y ?_;rintro gy gz ⟨ga,⟨g0,rfl,hl,gb⟩⟩;refine Qo<|Q5 [[sS 1],[sS 2]] λg2 g3 hm g4 gc=>?_;have hn:=ga.D hm;have hX:=zm ((gb [] od).I hm) (Qox gc) (E.I (J.D hn)) λ_=>by rw[hl];exact qr _
 rw[hl,QhC]at hX;rw[show Ub Jp=Ub Jp from rfl,QoB]at hX;refine Qw<|hX.Y ?_;rintro _ ho ⟨ge,vx,rfl,_,_,hx⟩;have gg:Qt [] ↑ho vx [0,1,2]:=Qh.ints (hx O).1 og od;refine Qa<|QL O O<|QL O O<|x Qd<|Qb ?_;have hp:=hn.D ge;refine Qc<|Qw<|(XY ho).Y ?_;rintro g5 g6 ⟨gh,⟨g7,rfl,hq,gi⟩⟩;refine Qo<|Yf (us:=[[sS 0],[sS 1],[sS 2]]) O O og od ⟨rfl,rfl,rfl,rfl,rfl,rfl,Z⟩ λg8 g9 hr ka gj=>?_;have hs:=gh.D hr;have hX:=Qee ((gi [] od).I hr) (QmH gj) (E.I ((J.D hp).D hs)) λ_=>by rw[hq];exact qr _
 rw[hq,QmP,QmO]at hX;refine Qw<|hX.Y ?_;rintro _ ht ⟨gk,vc,ec,rfl,_,hc⟩;obtain⟨rfl,rfl⟩:=hc O;refine Qa<|QL O O<|QL O O<|QL O O<|x Qd<|x Qd<|Qb ?_;have hu:=hs.D gk;have S:=hp.D hu;have T:=(hI.I hk).I S;have gl:=hY.I S;have gm:=gg.I hu;have hH:=Qja (R:=R2) (w:=ht);rw[show(R2.t && R2.o && R2.c)=true by rw[t2,o2,hh];rfl]at hH;have et:R1.t=true:=Y;have gn:R1.c=false:=ha;have eev:R1.ev=1:=e1;refine QV (α:=Unit) [(0,0),(35,79)] (λz=>[(0,.bool true)]) (λz w'=>sW ht w') oh ?_ ?_
 ·refine Qs<|Qa<|xb (Q6 O O) (λhv=>?_) (λhv=>OS O hv);refine Qa<|Q7 O<|xB (Qk (u:=.bool R1.t) T O O) (λhw=>?_) (λhw=>OS (et.symm.D hw) og);refine QA O<|Qa<|Qr O (u:=.bool R1.c) T O O<|xB (Zh (b:=R1.c) O) (λhy=>?_) (λhy=>OS hy (by rw[gn];decide));refine QA O<|Qa<|Qr O (u:=sS R1.ev) T O O<|xb (Q6 O O) (λhz=>?_) (λhz=>OS eev hz);refine QA O<|Qa<|Qa<|xb (Q6 O O) (λh0=>?_) (λh0=>OS O h0);refine QA O<|Qa<|QY gl O O<|Qw<|hH.Y ?_;rintro kb kc ⟨rfl,h1⟩;refine QA O<|Qa<|Qa<|xb (Q6 O O) (λh2=>?_) (λh2=>OS O h2);refine QA O<|Qa<|Qa<|Qo<|Yf (us:=[[sS 0],[sS 1],[sS 2]]) O O og od ⟨rfl,rfl,rfl,rfl,rfl,rfl,Z⟩ λke kf h3 kg go=>?_;have hSm:=QeU ((gm.I h1).I h3) (QmH go);rw[show decide (([0,1,2]:LI)=[0,1,2])=true from by decide]at hSm;refine Qw<|hSm.Y ?_;rintro kh gq ⟨rfl,gr⟩;refine QA O<|Qa<|Qa<|xb (Q6 O O) (λh4=>?_) (λh4=>OS O h4);refine QA O<|Qa<|Qa<|QA O<|Qa<|Qa<|QG (Qeb (L:=[]) (H:=↑gq)) O<|x (Q6 O O)<|QA O<|Qb<|⟨(),La,(h1.D h3).D gr⟩
 rintro z g ki gs;exact Qj ⟨[.bool true],La,O,(J.D S).D gs⟩
theorem zX (E:Kb w 4096):QT sV 10 [] w λr w'=>r=.bool true/\sW w w':=by
 refine Zn func10 ?_;refine Qc<|Qb<|QV (α:=Unit) [(0,4)] (λz=>[(0,.bool true)]) (λz w'=>sW w w') oh ?_ ?_
 ·refine Qs<|Qw<|(QcK E).Y ?_;rintro S T ⟨rfl,G⟩;refine Qa<|Qw<|(Qdq (E.I G)).Y ?_;rintro r2 U ⟨rfl,I⟩;refine QA O<|Qb<|⟨(),La,G.D I⟩
 rintro z g V J;exact Qj ⟨[.bool true],La,O,J⟩
theorem QjE {a b:LI}(G:YN a)(hb:YN b):decide (mrg (λp q=>p && !q) a b=[])=a.all λy=>decide (y∈b):=by
 rw[Bool.eq_iff_iff,decide_eq_true_iff,L9];constructor
 ·intro h y E;refine OT (Decidable.byContradiction λJ=>?_);have:y∈mrg (λp q=>p && !q) a b:=(qq G hb y).2 ⟨.inl E,by simp[E,J]⟩;rw[h]at this;cases this
 intro h;refine List.eq_nil_iff_forall_not_mem.2 λy E=>?_;have S:=(qq G hb y).1 E;have I:=Bool.and_eq_true_iff.1 S.2;have T:y∈a:=OU I.1;have U:y∈b:=OU (h y T);exact OS I.2 (by simp[U])
theorem Qc7 {hi:LI}(h:ZV [] ↑w c)(hH:Qt [] ↑w vh hi):
  QT sV 35 [c.val,vh] w λr w'=>r=sS (hck c.V hi)/\sW w w':=by
 have hE:=h.ex.arr.le;have hF:=h.cs.arr.le;have hG:=h.rq.arr.le;have h5:=hH.le;have E:hck c.V hi=if ZW c.V≠0 then ZW c.V else if 0<c.ex.length+c.cs.length then 13 else if Jn (c.ev.length:Int) none hi≠0 then Jn (c.ev.length:Int) none hi else
   if(c.rq.all λr=>decide (mrg (λp q=>p && !q) r.p.a.al hi=[]))=true then 0 else 9:=by
  unfold hck;rw[show c.V.ex.length=c.ex.length from Lj ..,show c.V.cs.length=c.cs.length from Lj ..,show c.V.rq=c.rq.map (·.it) from rfl,List.all_map];rfl
 refine Zf (hck c.V hi) λR hR=>?_;rw[hR]at E ⊢;refine Zn func35 ?_;refine Qc<|Zd c.cells λb2 w1 hw hI hy=>Qb<|Qe<|Qc<|QY hy O O<|Qw<|(UI (h.I hw)).Y ?_;rintro _ w2 ⟨rfl,hz⟩;refine Qb ?_;have G:=hw.D hz;have V:=hy.I hz;refine Ql<|ZI O O<|xe<|Za rfl (λhh=>?_) (λhh=>?_)
 ·have Y:ZW c.V≠0:=hh;rw[OQ Y]at E;refine Ql<|Qb<|Qj ⟨[_],La,by rw[E];rfl,G⟩
 have Y:¬ZW c.V≠0:=hh;rw[OP Y]at E;refine Qf<|Qe<|Qc<|Qr O V O O<|QG (h.ex.arr.I G) O<|Qr O V O O<|QG (h.cs.arr.I G) O<|QC O O<|x (Z2 O O)<|xe<|Za rfl (λhl=>?_) (λhl=>?_)
 ·have hm:0<c.ex.length+c.cs.length:=by have S:(c.ex.length:Int)+(c.cs.length:Int) > 0:=hl;omega
  rw[OQ hm]at E;refine Qc<|Qb<|Qj ⟨[_],La,by rw[E];rfl,G⟩
 have hm:¬0<c.ex.length+c.cs.length:=by have S:¬(c.ex.length:Int)+(c.cs.length:Int) > 0:=hl;omega
 rw[OP hm]at E;refine Qf<|Qe<|Ql<|Qr O V O O<|QG (h.ev.arr.I G) O<|Qw<|(KN (hH.I G) _).Y ?_;rintro _ w3 ⟨rfl,rfl⟩;refine Qb<|Ql<|ZI O O<|xe<|Za rfl (λhn=>?_) (λhn=>?_)
 ·have ha:Jn (c.ev.length:Int) none hi≠0:=hn;rw[OQ ha]at E;refine Ql<|Qb<|Qj ⟨[_],La,by rw[E];rfl,G⟩
 have ha:¬Jn (c.ev.length:Int) none hi≠0:=hn;rw[OP ha]at E;have h0:=Yr (Lr.1 Y);have ho:=(YS _ _ _).1 (Lr.1 ha);have h5:hi.length<=c.ev.length:=xD c.ev.length hi (ho.2.1.imp λhJ e=>oa) ho.1;refine Qf ?_;have h1:=h.rq.arr.I G;refine Qe<|Qc<|Qr O V O O<|QG h1 O<|Qa<|xe<|QW (α:=Nat) [(4,4),(8,8),(10,10),(35,52)] (λz=>[(35,sS z)]) (λz w'=>z<=c.rq.length/\sW w3 w'/\R=if((c.rq.drop z).all λr=>decide (mrg (λp q=>p && !q) r.p.a.al hi=[]))=true then 0 else 9) (λz=>c.rq.length - z) 0 La ⟨Ln _,O1.Z _ _,by rw[OA];exact E⟩ ?_
 rintro k g w4 ⟨hk,hp,J⟩;have hc:=G.D hp;refine Zi rfl O (λhs=>?_) (λhs=>?_)
 ·refine Qu ?_;have h6:c.rq.length<=k:=by have S:¬(k:Int)<(c.rq.length:Int):=hs;omega
  rw[Ls h6,List.all_nil,OQ rfl]at J;refine Qc<|Qb<|Qj ⟨[_],La,by rw[J];rfl,hc⟩
 have T:k<c.rq.length:=by have S:(k:Int)<(c.rq.length:Int):=hs;omega
 have he:=Lk T;rw[zP T]at J;refine Zf (c.rq[k]'T) λq hq=>?_;rw[hq]at he J;have U:=(h.rq.each q he).I hc;have hK:q.p.a.al.length<=32:=(h0.rq q.it (LG he)).al_le;refine Qf<|Qe<|Qn<|Qc<|O4 (g:=Zm) (i:=k) (λ_=>O) (h1.I hp) O O T λhL h2=>?_;rw[hq]at h2;refine x (QE (us:=Zm q) h2 O O)<|QP [.string .empty,nS,sS 0,nS,nS] λb8 w5 h7 h8 h9=>Q0 (Zm q) h9 ⟨O,U.al.one,O,U.mr.one,U.ed.one,Z⟩ λw6 hA hB=>xe ?_;have h3:sW w4 w6:=h7.O hA h8;refine Qc<|Q7 O<|Qr O hB O O<|QG (U.al.I h3) O<|Qa<|xe ?_;rw[QjE (a:=q.p.a.al) (h0.rq q.it (LG he)).ali ho.2.1]at J;refine QW (α:=Nat) [(4,4),(10,10),(43,51)] (λz=>[(43,sS z)]) (λz w'=>z<=q.p.a.al.length/\sW w6 w'/\R=if(((q.p.a.al.drop z).all λy=>decide (y∈hi)) && ((c.rq.drop (k+1)).all λr=>decide (mrg (λp q=>p && !q) r.p.a.al hi=[])))=true then 0 else 9) (λz=>q.p.a.al.length - z) 0 La ⟨Ln _,O1.Z _ _,by rw[OA];exact J⟩ ?_
 rintro j g w7 ⟨hj,h4,I⟩;have hf:=h3.D h4;refine Zi rfl O (λht=>?_) (λht=>?_)
 ·refine Qu ?_;have hC:q.p.a.al.length<=j:=by have S:¬(j:Int)<(q.p.a.al.length:Int):=ht;omega
  rw[Ls hC,List.all_nil,Ns]at I;refine Qs<|QC O O<|Qa<|xe ?_;exact⟨k+1,by show c.rq.length - (k+1)<c.rq.length - k;omega,La,T,hp.D hf,I⟩
 have hg:j<q.p.a.al.length:=by have S:(j:Int)<(q.p.a.al.length:Int):=ht;omega
 rw[zP hg]at I;refine Qf<|Qe<|Qn<|Qc<|xii (U.al.I hf) O O hg λhM hD=>x (Qq hD O)<|Qb<|Ql<|Qa<|Qw<|(QhU (hH.I (hc.D hf)) (q.p.a.al[j]'hg)).Y ?_;rintro _ w8 ⟨rfl,rfl⟩;refine x (Zh O)<|xe<|Q9 rfl (λhu=>?_) (λhu=>?_)
 ·have hv:=J7 hu;rw[OV hv,Bool.false_and,Bool.false_and,OP MC]at I;refine Qc<|Qb<|Qj ⟨[_],La,by rw[I];rfl,hc.D hf⟩
 have hv:=Jd hu;rw[OT hv,Ns]at I;refine Qf<|Qs<|QC O O<|Qa<|xe ?_;exact⟨j+1,by show q.p.a.al.length - (j+1)<q.p.a.al.length - j;omega,La,hg,h4,I⟩
open Go.ChangeShapes Go.WideShapes Go.RowKit
section
variable {H:Type}{enc:TypeId×OY->H}
theorem y7 (G:laidOutB P=true){W W':OX}(hS:sW W W'){sp:Nat->Bool}:∀{ts:List TypeId}{vs:LV}{ds:List (DataW H)}{ps:List MemPlace},
  (ts.all λt=>P.readableRec t && decide (t<P.types.size))=true->DataW.TrodAll enc P W 0 (λ_=>true) true ts vs ds ps->(∀x∈ps,x.block<↑W)->(∀x∈ps,sp x.block=true)->DataW.TrodAll enc P W' 0 sp true ts vs ds ps
 | [],vs,ds,ps,_,h,_,_=>by
  obtain⟨rfl,rfl,rfl⟩:=trodAll_nil h;exact trodAll_mk0
 | t::ts,vs,ds,ps,E,h,I,hsp=>by
  obtain⟨v,T,d,ds1,a,b,rfl,rfl,rfl,J,S⟩:=trodAll_cons h;simp only[Oa,oI,decide_eq_true_eq]at E;have hb:Below ↑W W W':=hS.below;refine trodAll_cons_mk (WideElems.Trod_stays G E.1.1 E.1.2 J (λx hx=>hb.same (I x (L8 _ hx))) (λx hx=>hsp x (L8 _ hx))) ?_;exact y7 G hS (ou E.2) S (λx hx=>I x (Nm _ hx)) (λx hx=>hsp x (Nm _ hx))
theorem Qhw {f:Func}{s:ChangeSpec}{apart fresh handsOn again:Bool}{W:OX}{args:Array OY}{ds gs:List (DataW H)}{before:List MemPlace}{tb:TypeId}
  (hl:laidOutB P=true) (hf:(f.params.toList.all λt=>P.readableRec t && decide (t<P.types.size))=true) (J:f.resultTypes=#[tb]) (S:P.underlying tb=some .bool) (T:s.vars=[])
  (E:s.fn H (ds++gs)={ results:=[.lit (.bool true)],args:=ds })
  (G:DataW.Whole enc P f.params.toList s.vars apart W args.toList ds gs before) (hS:sW W W'):s.post enc P f apart fresh handsOn again W args (.bool true) W':=by
 have I:=G.lt;have hg:=G;obtain⟨p,q,hA,U,rfl,hz,hn⟩:=G;rw[T]at U;obtain⟨rfl,rfl⟩:=trodVars_none U;rw[LH]at *;have V:∀sp:Nat->Bool,(∀x∈p,sp x.block=true)->DataW.TrodAll enc P W' 0 sp true f.params.toList args.toList ds p:=λsp hsp=>y7 hl hS hf hA I hsp;have Y:∀(b:Nat) (sp:Nat->Bool) (hd:Bool),DataW.TrodAll enc P W' b sp hd f.resultTypes.toList ((Value.bool true).resultList f.resultTypes.size) [.lit (.bool true)] []:=λb sp hd=>by
  rw[J];exact trodAll_mk1 (shut_bool S true)
 have hb:Below ↑W W W':=hS.below;have hc:∀sp:Nat->Bool,DataW.TrodVars enc P W' sp s.vars ([]:List (DataW H)) []:=λsp=>by rw[T];rfl
 have hh:(s.fn H ds).results=[.lit (.bool true)]:=by rw[E]
 have hj:(s.fn H ds).args=ds:=by rw[E]
 have hk:(s.fn H ds).vars=[]:=by rw[E]
 have hm:∀(j:Nat) (t:TypeId) (r:OY),f.resultTypes[j]?=some t->((Value.bool true).resultList f.resultTypes.size)[j]?=some r->Value.okWide P W' .any 0 t r:=ok_one J O (okWide_bool_mk S true);refine⟨ds,[],p,[],p,[],hg,?_,?_,?_,?_,λ_=>⟨hm,[.lit (.bool true)]++ds,[],([]++p)++[],⟨[]++p,[],?_,?_,O,?_,?_⟩,?_⟩⟩
 ·rw[LH,hh];exact Y _ _ _
 ·rw[LH,hj];exact V _ (λx hx=>ou (I x hx))
 ·rw[LH,hk];exact hc _
 ·exact World.keptBut_mono (λ_ f=>f.elim) (hb.frame (λ_=>False))
 ·exact trodAll_append (V _ (λ_ _=>O)) (Y _ _ _)
 ·exact hc _
 ·intro b off hp;have he:MemPlace.cell b off∈p:=by simpa using hp
  rw[hb.frozen (p:=⟨b,off,none⟩) (I _ he)];exact hz b off he
 ·intro ha;have:=hn ha;simpa using this
 intro x hx _;simpa using hx
end
open Go.ChangeShapes Go.WideShapes Go.RowKit Go.Lg
theorem Qc9:∀(l:LV),(∀v∈l,∃n:Nat,v=.int .u8 (n:Int)/\n<256)->∃ns:LN,l=bys ns/\ns.length=l.length/\∀n∈ns,n<256
 | [],_=>⟨[],O,O,od⟩
 | v::l,h=>by
  obtain⟨n,rfl,G⟩:=h v Lo;obtain⟨ns,I,J,S⟩:=Qc9 l (λv T=>h v (Lm _ T));refine⟨n::ns,by rw[I];rfl,by simp[J],λm E=>?_⟩;rcases Ll.1 E with rfl|E
  ·exact G
  exact S m E
theorem Ql4 {n:Int}(h:(Lit.int .u8 n).wf=true):∃m:Nat,n=m/\m<256:=by
 simp only[Lit.wf,oI,decide_eq_true_eq]at h;rw[show IntKind.u8.min=0 from rfl,show IntKind.u8.max=255 from rfl]at h;exact⟨n.toNat,oa,oa⟩
theorem Qmg {b:Nat}{s:TypeId×Nat}(h:w.shape? b=some s):b<w.heap.size:=by
 unfold World.shape? at h;cases hb:w.heap[b]? with
 | none=>simp[hb]at h
 | some o=>exact(LJ.1 hb).1
theorem QkK {a:Addr}{e:TypeId}(h:w.has P .any base a e n):a.block<w.heap.size:=by
 obtain⟨_,_,row,cells,E,_⟩:=h;exact Qmg E
theorem QdI {t e:TypeId}{a:Addr}{c:Nat}(E:P.underlying t=some (.slice e))(h:Cell.okWide P w .any base t (.slice (some a) n c)):a.block<w.heap.size:=by
 simp only[Cell.okWide,Cell.ok,E]at h;exact QkK h.2.2
theorem Qhq {α:Type}{p:Nat->α->Prop}:∀(n:Nat),(∀i,i<n->∃e,p i e)->∃l:List α,l.length=n/\∀i (h:i<l.length),p i (l[i]'h)
 | 0,_=>⟨[],O,λi h=>by simp at h⟩
 | n+1,h=>by
  obtain⟨l,E,I⟩:=Qhq n (λi hi=>h i oa);obtain⟨e,J⟩:=h n oa;refine⟨l++[e],by simp[E],λi hi=>?_⟩;by_cases G:i<l.length
  ·rw[Mi G];exact I i G
  have:i=n:=by simp at hi;omega
  subst this;rw[M8 oa];simpa[E]using J
theorem q8 {α:Type}{f:α->Option OY}:∀{L:List α}{l:LV},L.mapM f=some l->l.length=L.length/\∀(i:Nat) (a:α),L[i]?=some a->f a=l[i]?
 | [],l,h=>by
  simp at h;subst h;exact⟨O,λi a h=>by simp at h⟩
 | x::L,l,h=>by
  simp only[List.mapM_cons,Option.bind_eq_bind,Option.pure_def,Option.bind_eq_some_iff]at h;obtain⟨v,E,T,G,I⟩:=h;cases I
  obtain⟨J,S⟩:=q8 G;refine⟨by simp[J],λi a hi=>?_⟩;cases i with
  | zero=>simp at hi;subst hi;simpa using E
  | succ i=>simpa using S i a (ou hi)
def kT (P:O0)(k:IntKind):Nat->TypeId->Bool
 | 0,_=>false
 | m+1,t=>match P.underlying t with
  | some (.int k')=>k' == k
  | some (.array n e)=>kT P k m e && decide (0<P.cellsOf e) && decide (P.cellsOf t=n*P.cellsOf e)
  | some (.struct fs)=>(oK (P.cellsOf t)).all λj=>fs.toList.any λf=>kT P k m f.type && decide (f.offset<=j/\j<f.offset+P.cellsOf f.type)
  | _=>false
theorem Qag {o:Nat}{c:OY}(h:cs[j]?=some c)(E:o<=j)(G:j<o+n):c∈(cs.drop o).take n:=by
 refine Me (i:=j - o) ?_;rw[LW,OQ oa,MJ,show o+(j - o)=j by omega];exact h
section
variable {H:Type}{enc:TypeId×OY->H}{W:OX}{b0:Nat}{sp:Nat->Bool}{held:Bool}
theorem VP {k:IntKind}:∀(m:Nat) {t:TypeId}{cs:LV}{fuel:Nat}{x:DataW H×List MemPlace},kT P k m t=true->DataW.trod enc P W b0 sp held fuel t cs=some x->∀c∈cs,∃n,c=.int k n/\(Lit.int k n).wf=true
 | 0,_,_,_,_,h,_,_,_=>by cases h
 | m+1,t,cs,fuel,x,h,J,c,S=>by
  unfold kT at h;obtain⟨j,V,Y⟩:=LM S;have U:cs[j]?=some c:=by rw[LD V,Y]
  split at h
  ·rename_i k' G;have hk:k'=k:=by simpa using h
   subst hk;obtain⟨n,T,_,E⟩:=DataW.trod_int G J;rw[T]at S;exact⟨n,Lb.1 S,E⟩
  ·rename_i n e G;simp only[oI,decide_eq_true_eq]at h;obtain⟨⟨T,E⟩,h3⟩:=h;obtain⟨xs,m',_,_,hl,ha,hx⟩:=DataW.trod_array G J;have he:=Nat.div_add_mod j (P.cellsOf e);have ho:=Nat.mod_lt j E;have hi:j / P.cellsOf e<n:=by
    refine(Nat.div_lt_iff_lt_mul E).2 ?_;omega
   have I:=hx (j / P.cellsOf e) hi;rw[LD (show j / P.cellsOf e<xs.length by omega)]at I;rw[Nat.mul_comm]at he;exact VP m T I c (Qag U oa oa)
  ·rename_i fs G;obtain⟨xs,m',_,_,hl,ha,hx⟩:=DataW.trod_struct G J;obtain⟨f,hg,E⟩:=List.any_eq_true.1 (L9.1 h j (MD.2 oa));simp only[oI,decide_eq_true_eq]at E;obtain⟨i,hi,hh⟩:=LM hg;have hm:i<fs.size:=by simpa using hi
   have hn:fs[i]?=some f:=by rw[MA hm,<-hh];simp
   have I:=hx i f hn;rw[LD (show i<xs.length by omega)]at I;exact VP m E.1 I c (Qag U E.2.1 E.2.2)
  cases h
theorem VX {k:IntKind}{fs:Array Field}{xs:List (DataW H×List MemPlace)}{I:Nat}(V:xs.length=fs.size)
  (hx:∀(i:Nat) (f:Field),fs[i]?=some f->DataW.trod enc P W b0 sp held I f.type ((cs.drop f.offset).take (P.cellsOf f.type))=xs[i]?)  {f:Field} {c:OY} (E:fs[i]?=some f) (J:kT P k m f.type=true) (S:f.offset<=j) (T:j<f.offset+P.cellsOf f.type) (U:cs[j]?=some c):
  ∃n,c=.int k n/\(Lit.int k n).wf=true:=by
 have G:=hx i f E;have hi:i<fs.size:=(LJ.1 E).1;rw[LD (show i<xs.length by omega)]at G;exact VP m J G c (Qag U S T)
theorem Qge {c:OY}(h:∃n,c=.int .u8 n/\(Lit.int .u8 n).wf=true):∃n:Nat,c=.int .u8 (n:Int)/\n<256:=by
 obtain⟨n,rfl,E⟩:=h;obtain⟨m,rfl,G⟩:=Ql4 E;exact⟨m,O,G⟩
end
theorem Qoq {W:OX}{ts:List TypeId}{cs:Array OY}(h:∀(i:Nat) (v:OY),cs[i]?=some v->∃u,ts[i % ts.length]?=some u/\Cell.okWide P W .any base u v)(i:Nat)(t:TypeId)(v:OY)(G:cs[i]?=some v)(I:ts[i % ts.length]?=some t):Cell.okWide P W .any base t v:=by
 obtain⟨u,E,k⟩:=h i v G;rw[I]at E;cases E
 exact k
theorem Qm8 {H:Type}{enc:TypeId×OY->H}{W:OX}{b0:Nat}{sp:Nat->Bool}{held:Bool}{fs:Array Field}{xs:List (DataW H×List MemPlace)}
  (h:∀(i:Nat) (f:Field),fs[i]?=some f->DataW.trod enc P W b0 sp held m f.type ((cs.drop f.offset).take (P.cellsOf f.type))=xs[i]?) (i:Nat) {f:Field} {o:Nat} {c:OY} (E:fs[i]?=some f) (G:f.type=t) (I:f.offset=o) (J:P.cellsOf t=1) (S:(cs.drop o).take 1=[c]) (hi:i<xs.length):
  DataW.trod enc P W b0 sp held m t [c]=some (xs[i]'hi):=by
 have e:=h i f E;rw[G,I,J,S]at e;rw[e];simp[hi]
theorem Qod {W:OX}{l:List (String×DataW Unit)}{a b:String×DataW Unit}(E:l=[a,b,("internal/strconv.uint64pow10",Lib.tabData .u64 Lib.pow10Tab)]) (h:laidMetH sV l W) (G:(l.all λx=>x.2.handleName?.isNone)=true):Tb W:=by
 rw[Go.MakeChecks.laidMetH_plain _ _ _ G,E]at h;exact Lib.tabIs_of_head (n:=20) (g:=0) oc (t:=410) oc oc (e:=319) oc oc oc h.tail.tail
structure PwV where
 ns:LN
 ad:Option Addr
 n:Nat
 cp:Nat
 f0:Int
 f1:Int
 f2:Int
 bd:Int
def PwV.pl (l:PwV)(rs:List X4V):PlV:=⟨l.ns,.slice l.ad l.n l.cp,rs,l.f0,l.f1,l.f2,l.bd⟩
abbrev Xx (l:PwV):LV:=bys l.ns++[.slice l.ad l.n l.cp,.int .i8 l.f0,.int .i8 l.f1,.int .i8 l.f2,.int .i8 l.bd]
structure PwA (w:OX)(l:PwV):Prop where
 n:l.ns.length=147
 b:∀n∈l.ns,n<256
 f0:i8R l.f0
 f1:i8R l.f1
 f2:i8R l.f2
 bd:i8R l.bd
 r:l.n<=4->∃rs:List X4V,rs.length=l.n/\Zs [] ↑w (.slice l.ad l.n l.cp) l.n 4 (rs.flatMap Y5)
theorem PwA.pl {w w':OX}{l:PwV}(h:PwA w l)(G:sW w w')(I:l.n<=4):∃rs,PlA [] ↑w' (l.pl rs)/\rs.length=l.n:=by
 obtain⟨rs,E,J⟩:=h.r I;exact⟨rs,⟨h.n,h.b,by show Zs _ _ _ rs.length 4 _;rw[E];exact J.I G,h.f0,h.f1,h.f2,h.bd⟩,E⟩
theorem Qoi {l:PwV}(h:l.ns.length=147):(Xx l)[147]?=some (.slice l.ad l.n l.cp):=by
 show(Xx l)[147+0]?=_;rw[Xx,Mk (by rw[Xi];omega),Xi,h,MX];rfl
theorem Qec {c:OY}(h:∃n,c=.int .i8 n/\(Lit.int .i8 n).wf=true):∃n:Int,c=.int .i8 n/\i8R n:=by
 obtain⟨n,rfl,h⟩:=h;simp only[Lit.wf,oI,decide_eq_true_eq]at h;rw[show IntKind.i8.min=-128 from rfl,show IntKind.i8.max=127 from rfl]at h;exact⟨n,O,oa⟩
def QlT (P:O0)(fs:Array Field)(n:Nat):Bool:=(oK n).all λj=>fs.toList.any λf=>kT P .u8 5 f.type && decide (f.offset<=j/\j<f.offset+P.cellsOf f.type)
section
variable {H:Type}{enc:TypeId×OY->H}{W:OX}{b0:Nat}{sp:Nat->Bool}{held:Bool}
theorem QiO {fs:Array Field}{xs:List (DataW H×List MemPlace)}(h:QlT P fs n=true)(G:xs.length=fs.size)
  (hx:∀(i:Nat) (f:Field),fs[i]?=some f->DataW.trod enc P W b0 sp held m f.type ((cs.drop f.offset).take (P.cellsOf f.type))=xs[i]?)  {c:OY} (I:j<n) (J:cs[j]?=some c):∃k:Nat,c=.int .u8 (k:Int)/\k<256:=by
 obtain⟨f,S,E⟩:=List.any_eq_true.1 (L9.1 h j (MD.2 I));simp only[oI,decide_eq_true_eq]at E;obtain⟨i,hi,T⟩:=LM S;have U:i<fs.size:=by simpa using hi
 have V:fs[i]?=some f:=by rw[MA U,<-T];simp
 exact Qge (VX G hx V E.1 E.2.1 E.2.2 J)
theorem QoY {t e:TypeId}{c:OY}{fuel:Nat}{x:DataW H×List MemPlace}(J:P.underlying t=some (.slice e))(he:kT P .u8 5 e=true)(hc:P.cellsOf e=4)
  (hf:Cell.okWide P W .any base t c) (hg:DataW.trod enc P W b0 sp held fuel t [c]=some x):∃a n cp,c=.slice a n cp/\(n<=12->∃u:List X4V,u.length=n/\Zs [] ↑W (.slice a n cp) n 4 (u.flatMap Y5)):=by
 rcases DataW.trod_slice J hg with⟨E,_⟩|⟨a,len,cap,elems,rest,m,_,E,_,_,hl,_,hn,hh,_,_⟩
 ·simp at E;subst E;exact⟨none,0,0,O,λ_=>⟨[],O,Zs.nil _ _ _⟩⟩
 simp at E;subst E;refine⟨some a,len,cap,O,λho=>?_⟩;have each:∀i,i<len->∃d:X4V,∀r v,(Y5 d)[r]?=some v->W.cell? (a.add (i*4+r))=some v:=by
  intro i hi;have S:=hh i hi;rw[hc,LD (show i<elems.length by omega)]at S;obtain⟨cs,E,hk⟩:=MH.1 S;obtain⟨ns,h1,h2,I⟩:=Qc9 cs (λv G=>Qge ((VP 5 he hk) v G));unfold World.cells? at E;split at E
  ·have hp:cs.length=4:=by
    simpa using(q8 E).1
   refine⟨⟨ns,oa,I⟩,λr v G=>?_⟩;have T:cs[r]?=some v:=by rw[h1];exact G
   have hm:r<4:=by have:=(Mc.1 T).1;omega
   have U:=(q8 E).2 r r (by simp[hm]);rw[Lg.Addr.add_add,T]at U;exact U
  cases E
 obtain⟨u,V,hu⟩:=Qhq len each;refine⟨u,V,?_⟩;have Y:(u.flatMap Y5).length=u.length*4:=Go.Lg.KE Y5 4 qB u;refine⟨by rw[Y,V],oa,.inr ⟨a,cap,rfl,oa,λ_ _=>od,λ_ _=>QdI J hf,λj v G=>?_⟩⟩;have hj:j<u.length*4:=by
  rw[<-Y];exact(Mc.1 G).1
 have hi:j / 4<u.length:=oa
 have ha:j=j / 4*4+j % 4:=oa
 have I:(Y5 (u[j / 4]'hi))[j % 4]?=some v:=by
  rw[<-(XX Y5 4 qB u (j / 4) hi),LW,OQ (Nat.mod_lt _ oa),MJ,<-ha];exact G
 rw[<-X4];have:=hu (j / 4) hi (j % 4) v I;rw[<-ha]at this;exact this
theorem QfG {v:OY}{d:DataW H}{ps:List MemPlace}{tp te:Nat}{fs:Array Field}{S f8 J:Field}(V:P.underlying t=some (.struct fs))(Y:(P.cellTypes P.depth t).map (λts=>(ts.length,ts[147]?))=some (152,some tp))(hc:P.cellsOf t=152)
  (g7:fs[7]?=some S) (T:fs[8]?=some f8) (g9:fs[9]?=some J) (hk:S.type=tp) (o7:S.offset=147) (o8:f8.offset=148) (o9:J.offset=151) (c7:P.cellsOf tp=1) (c8:P.cellsOf f8.type=3) (c9:P.cellsOf J.type=1)
  (kb:QlT P fs 147=true) (k8:kT P .i8 5 f8.type=true) (k9:kT P .i8 5 J.type=true) (hn:P.underlying tp=some (.slice te)) (ho:kT P .u8 5 te=true) (hp:P.cellsOf te=4)
  (ha:Value.okWide P W .any base t v) (h:DataW.Trod enc P W b0 sp held t v d ps):∃l:PwV,v=sT (Xx l)/\PwA W l:=by
 simp only[Value.okWide,V]at ha;obtain⟨cs,rfl,he,ts,hq,_,hr⟩:=ha;rw[hq]at Y;have hg:=Option.some.inj Y;have hs:ts.length=152:=OR Prod.fst hg;have ht:ts[147]?=some tp:=OR Prod.snd hg;rw[hc]at he;obtain⟨l⟩:=cs;have hl:l.length=152:=he;obtain⟨fuel,hf⟩:=h;obtain⟨xs,m,_,_,_,G,hv⟩:=DataW.trod_struct V hf;have E:∀(i:Nat) (f:Field),fs[i]?=some f->DataW.trod enc P W b0 sp held m f.type ((l.drop f.offset).take (P.cellsOf f.type))=xs[i]?:=hv;have h0:7<fs.size:=(LJ.1 g7).1;have g0:∀c∈l.take 147,∃n:Nat,c=.int .u8 (n:Int)/\n<256:=λc hm=>by
  obtain⟨j,hj,hh⟩:=LM hm;have hw:j<147:=by simp at hj;omega
  have hy:l[j]?=some c:=by
   rw[MZ]at hh;rw[LD oa,hh]
  exact QiO kb G E hw hy
 obtain⟨ns,e1,e2,e3⟩:=Qc9 _ g0;have hz:ns.length=147:=by rw[e2];simp;omega
 have I:∀j,j<152->∃c,l[j]?=some c:=λj hj=>⟨l[j]'oa,LD oa⟩;obtain⟨U,q1⟩:=I 147 oa;obtain⟨x2,q2⟩:=I 148 oa;obtain⟨x3,q3⟩:=I 149 oa;obtain⟨x4,q4⟩:=I 150 oa;obtain⟨x5,q5⟩:=I 151 oa;have hld:l.drop 147=[U,x2,x3,x4,x5]:=by
  apply Nq;intro i;rw[MJ]
  match i with
  | 0=>exact q1
  | 1=>exact q2
  | 2=>exact q3
  | 3=>exact q4
  | 4=>exact q5
  | i+5=>rw[Mn oa];rfl
 obtain⟨y2,rfl,z2⟩:=Qec (VX G E T k8 oa oa q2);obtain⟨y3,rfl,z3⟩:=Qec (VX G E T k8 oa oa q3);obtain⟨y4,rfl,z4⟩:=Qec (VX G E T k8 oa oa q4);obtain⟨y5,rfl,z5⟩:=Qec (VX G E g9 k9 oa oa q5);obtain⟨a,n,cp,rfl,hP⟩:=QoY hn ho hp (Qoq hr 147 tp U (ou q1) (by rw[hs];exact ht)) (Qm8 (c:=U) E 7 g7 hk o7 c7 (by rw[hld];rfl) oa);refine⟨⟨ns,a,n,cp,y2,y3,y4,y5⟩,?_,hz,e3,z2,z3,z4,z5,λh3=>hP (by have h4:n<=4:=h3;omega)⟩;show Value.agg l.toArray=sT (bys ns++_);rw[<-e1,<-hld,MF]
end
theorem QoZ {H:Type}{enc:TypeId×OY->H}{W:OX}{b0:Nat}{sp:Nat->Bool}{held:Bool}{v:OY}{d:DataW H}{ps:List MemPlace}(E:Value.okWide sV W .any base 36 v)(h:DataW.Trod enc sV W b0 sp held 36 v d ps):
  ∃l:PwV,v=sT (Xx l)/\PwA W l :=
 QfG underlying36 (tp:=32) oc oc O O O O O O O oc oc oc oc oc oc underlying32 oc oc E h
theorem QiZ {l:PwV}(h:PwA w l):QT sV 11 [sT (Xx l)] w λr w'=>r=.bool (decide (l.n<=4))/\sW w w':=by
 refine Zn func11 ?_;refine Qc<|Zd (Xx l) λI J E S G=>Qb<|Qc<|Qr O G O (Qoi h.n)<|x (qS O)<|x (Ja O O)<|Qb<|Qj ⟨[_],La,?_,E⟩;exact OR Value.bool (decide_eq_decide.2 oa)
theorem ZV.bare {H:xw}(h:ZV L H c):ZV L H { c with vx:=ZR,vk:=ZR,ex:=[],cs:=[] }:=
 ⟨h.ev,h.co,h.rq,⟨⟨O,Ln _,.inl ⟨O,O⟩⟩,(λq E=>by cases E),λq E=>by cases E⟩,⟨⟨rfl,Ln _,.inl ⟨rfl,rfl⟩⟩,(λq E=>by cases E),λq E=>by cases E⟩⟩
theorem zf {l:PwV}{bare:Bool}{ad:Option Addr}{cp:Nat}(I:PwA w l)(hh:n<=6->∃hi:LI,Qt [] ↑w (.slice ad n cp) hi)(hw:Kb w 4096):
  QT sV 8 [sT (Xx l),.bool bare,.slice ad n cp] w λr w'=>r=.bool true/\sW w w':=by
 refine Zn func8 ?_;refine Qc<|Zd (Xx l) λb3 w1 hy m7 h5=>Qb ?_;have h6:(Xx l).length=152:=Qmq (l:=l.pl []) I.n;refine Qe<|QV (α:=Bool) [(24,35)] (λz=>[(35,.bool z)]) (λz w'=>sW w1 w'/\(z=false->l.n<=4/\n<=6)) oh ?_ ?_
 ·refine Qs<|Qw<|(zX (hw.I hy)).Y ?_;rintro r2 w2 ⟨rfl,U⟩;refine x (Zh O)<|Qa<|QY (h5.I U) O h6<|Qw<|(QiZ (l:=l) ⟨I.n,I.b,I.f0,I.f1,I.f2,I.bd,λhn=>by
   obtain⟨rs,h1,h2⟩:=I.r hn;exact⟨rs,h1,(h2.I hy).I U⟩⟩).Y ?_
  rintro r3 w3 ⟨rfl,V⟩;refine Qac (!decide (l.n<=4)) (λhs=>?_) (λhs=>?_)
  ·refine xB (b:=!decide (l.n<=4)) (Zh O) (λ_=>?_) (λh0=>OS (hs.symm.D h0) og);refine QA O<|Qa<|Zy<|QA O<|xe ?_;exact⟨true,La,U.D V,λe=>OS e og⟩
  refine xB (b:=!decide (l.n<=4)) (Zh O) (λh0=>OS (hs.symm.D h0) og) (λ_=>?_);refine QA O<|Qa<|Qa<|x (qS O)<|x (Z2 O O)<|QA O<|xe<|⟨decide ((n:Int) > 6),La,U.D V,λe=>⟨?_,?_⟩⟩
  ·simpa using hs
  have:=OW e;omega
 rintro z g w2 ⟨U,hz⟩;have hf:=hy.D U;refine Q9 rfl (λh7=>?_) (λh7=>?_)
 ·refine Qc<|Qw<|(zX (hw.I hf)).Y ?_;rintro r3 w3 ⟨rfl,V⟩;refine Qb<|Qj ⟨[.bool true],La,O,hf.D V⟩
 obtain⟨ga,gb⟩:=hz h7;obtain⟨hi,hH⟩:=hh gb;refine Qf<|Exists.elim (I.pl hf ga) λrs gc=>?_;refine Qc<|QY (h5.I U) O h6<|Qw<|(Qfg gc.1).Y ?_;rintro r3 w3 ⟨V,_,⟨c,rfl,rfl,hC⟩,_⟩;have h8:=hC [] od;refine QP Jo λb7 w4 ge h9 gg=>Q0 c.cells gg h8.ones λw5 gh hA=>xe ?_;have hB:sW w3 w5:=ge.O gh h9;have gi:=(hf.D V).D hB;have m8:=(hf.D V).size;have hD:ZV [b7] ↑w5 c:=(h8.up (L':=[b7]) λb hb=>.inr (by rw[Lb.1 hb];exact h9)).I hB;refine QV (α:=CL) [(39,41)] (λz=>[]) (λz w'=>O1 [b7] w5 w'/\QK ↑w' b7 46 z.cells/\ZV [b7] ↑w' z) oh ?_ ?_
 ·refine Ql<|xe<|Q9 O (λgj=>?_) (λgj=>?_)
  ·refine Qs<|Q7 O<|Qo<|Qv (j:=3) (u:=ZR) hA O O od rfl λw6 h3 gk=>Q7 rfl<|Qo<|Qv (j:=4) (u:=ZR) gk rfl rfl od rfl λw7 ha gl=>xe ?_;have hF:=h3.Q ha;exact⟨{ c with vx:=ZR,vk:=ZR,ex:=[],cs:=[] },Z,hF,gl,(hD.st (hF.Y od)).bare⟩
  refine Qf ?_;exact⟨c,Z,O1.Z _ _,hA,hD⟩
 rintro c g w6 ⟨h3,J,gm⟩;have ht:=gi.O h3 oa;have S:ZV [] ↑w6 c:=gm.up λb hb=>by cases hb
 have T:=hH.I ht;have Y:=hw.I ht;refine Qc<|QY J O O<|Qa<|Qw<|(Qc7 S T).Y ?_;rintro _ w7 ⟨rfl,ha⟩;refine Qb ?_;have e1:hck c.V hi≠0->hsE c.V hi=hck c.V hi:=λe=>OQ e;have e2:hck c.V hi≠0->hgE c.V hi=hck c.V hi:=λe=>OQ e;have e3:hck c.V hi≠0->hcX c.V hi=hck c.V hi:=λe=>OQ e;refine Qe<|Qc<|QY (J.I ha) O O<|Qa<|Qw<|(yT (S.I ha) (T.I ha)).Y ?_;rintro _ w8 ⟨rfl,gn⟩;have hc:=ha.D gn;refine Qa<|ZI O O<|xe<|Za rfl (λhG=>OS O hG) (λhG=>?_);refine Qf<|Qe<|Ql<|x (Q6 O O)<|xe<|Za rfl (λhI=>?_) (λhI=>?_)
 ·refine Qc<|Qb<|Qj ⟨[.bool true],La,O,ht.D hc⟩
 have G:hck c.V hi≠0:=hI;refine Qf ?_;have c1:=λ{w:OX} (a:ZV [] ↑w c) (b:Qt [] ↑w (.slice ad n cp) hi) (k:Kb w 4096)=>zm a b k λe=>OS e G;have c2:=λ{w:OX} (a:ZV [] ↑w c) (b:Qt [] ↑w (.slice ad n cp) hi) (k:Kb w 4096)=>QkN a b k λe=>OS e G;have c3:=λ{w:OX} (a:ZV [] ↑w c) (b:Qt [] ↑w (.slice ad n cp) hi) (k:Kb w 4096)=>QhV a b k λe=>OS e G;have c4:=λ{w:OX} (a:ZV [] ↑w c) (b:Qt [] ↑w (.slice ad n cp) hi) (k:Kb w 4096)=>QkM a b k λe=>OS e G;have c5:=λ{w:OX} (a:ZV [] ↑w c) (b:Qt [] ↑w (.slice ad n cp) hi) (k:Kb w 4096)=>QkL a b k λe=>OS e G;have c6:=λ{w:OX} (a:ZV [] ↑w c) (b:Qt [] ↑w (.slice ad n cp) hi) (k:Kb w 4096)=>Qan a b k λe=>OS e G;have c7:=λ{w:OX} (a:ZV [] ↑w c) (b:Qt [] ↑w (.slice ad n cp) hi) (k:Kb w 4096)=>Qee a b k λe=>OS e G;rw[e1 G]at c4;rw[e2 G]at c5;rw[e3 G]at c7;refine Zf (hck c.V hi) λE hE=>?_;rw[hE]at c1 c2 c3 c4 c5 c6 c7 G;refine Qc<|QY (J.I hc) O O<|Qa<|Qw<|(c1 (S.I hc) (T.I hc) (Y.I hc)).Y ?_;rintro _ w9 ⟨go,vx,rfl,_,hx,_⟩;obtain rfl:=hx G;refine Qa<|QL O O<|QL O O<|x Qd<|Qb ?_;have hg:=hc.D go;refine Qc<|QY (J.I hg) O O<|Qa<|Qw<|(c2 (S.I hg) (T.I hg) (Y.I hg)).Y ?_;rintro _ gq ⟨gr,gs,rfl,gt,gu,gv,_⟩;refine Qa<|QL O O<|QL O O<|QP Yu λb11 m9 gx gy gz=>Qo<|Zk (us:=gs) gz O O gt O gu λg0 g2 g3=>Qb ?_;have g4:sW gq g0:=gx.O g2 gy;have g5:=gr.D g4;have hj:=hg.D g5;refine Qc<|QY (J.I hj) O O<|Qa<|Qw<|(c3 (S.I hj) (T.I hj) (Y.I hj)).Y ?_;rintro _ g6 ⟨g7,g8,rfl,g9,ka,kb,_⟩;refine Qa<|QL O O<|QL O O<|QP Jo λpc pd kc ke kf=>Qo<|Zk (us:=g8) kf O O g9 O ka λkg kh ki=>Qb ?_;have kj:sW g6 kg:=kc.O kh ke;have hJ:=g7.D kj;have hk:=hj.D hJ;refine Qc<|QY (J.I hk) O O<|Qa<|Qw<|(c4 (S.I hk) (T.I hk) (Y.I hk)).Y ?_;rintro _ kk ⟨kn,ko,rfl,kp,kq,kr,_⟩;refine Qa<|QL O O<|QL O O<|QP Yu λb15 pf kt ku kv=>Qo<|Zk (us:=ko) kv O O kp O kq λkw kx kz=>Qb ?_;have k0:sW kk kw:=kt.O kx ku;have h4:=kn.D k0;have hm:=hk.D h4;refine Qc<|QY (J.I hm) O O<|Qa<|Qw<|(c5 (S.I hm) (T.I hm) (Y.I hm)).Y ?_;rintro _ k4 ⟨k5,k6,rfl,k9,ma,mc,_⟩;refine Qa<|QL O O<|QL O O<|QP Yu λpg ph mf mg mh=>Qo<|Zk (us:=k6) mh O O k9 O ma λmj mo mq=>Qb ?_;have ms:sW k4 mj:=mf.O mo mg;have hu:=k5.D ms;have ho:=hm.D hu;refine Qc<|QY (J.I ho) O O<|Qa<|Qw<|(c6 (S.I ho) (T.I ho) (Y.I ho)).Y ?_;rintro _ mt ⟨mu,R,rfl,oR,xR,_⟩;refine Qa<|QL O O<|QL O O<|QP (Zx rp8) λpj pn mv mw my=>Q0 (Zx R) my oR λmz m0 m1=>Qb ?_;have m2:sW mt mz:=mv.O m0 mw;have hp:=mu.D m2;have hq:=ho.D hp;refine Qc<|QY (J.I hq) O O<|Qa<|Qw<|(c7 (S.I hq) (T.I hq) (Y.I hq)).Y ?_;rintro _ hv ⟨he,vc,ec,rfl,hx,_⟩;have m3:Qt [] ↑hv vc []:=by rw[(hx G).1];exact Qeb
 have m4:=(hx G).2;refine Qa<|QL O O<|QL O O<|QL O O<|x Qd<|x Qd<|Qb ?_;have m5:=hq.D he;have hK:=((((g3.I hJ).I h4).I hu).I hp).I he;rw[gv G]at hK;have hL:=(((ki.I h4).I hu).I hp).I he;rw[kb G]at hL;have hM:=((kz.I hu).I hp).I he;rw[kr G]at hM;have hN:=(mq.I hp).I he;rw[mc G]at hN;have hr:=m1.I he;rw[xR G]at hr;refine QV (α:=Bool) [(6,6),(95,172)] (λz=>[(6,.bool z)]) (λz w'=>w'=hv/\z=true) oh ?_ ?_
 ·refine Qs<|Qa<|Qa<|xb (Q6 O O) (λhO=>?_) (λhO=>OS hE.symm hO);refine Qa<|Qa<|Qa<|xb (Q6 O O) (λhP=>?_) (λhP=>OS hE.symm hP);refine QA O<|Qa<|Qa<|Qa<|xb (Q6 O O) (λhQ=>?_) (λhQ=>OS hE.symm hQ);refine QA O<|Qa<|Qa<|Qa<|xb (Q6 O O) (λhR=>?_) (λhR=>OS hE.symm hR);refine QA O<|Qa<|Qa<|Qa<|xb (Q6 O O) (λhS=>?_) (λhS=>OS hE.symm hS);refine QA O<|Qa<|Qa<|Qa<|xb (Q6 O O) (λhT=>?_) (λhT=>OS hE.symm hT);refine QA O<|Qa<|Qa<|Qa<|xb (Q6 O O) (λhU=>?_) (λhU=>OS hE.symm hU);refine QA O<|Qa<|Qa<|QG (Qeb (L:=[]) (H:=↑hv)) O<|Qr O (u:=sS 0) hK O O<|x (YE O O ⟨og,og⟩) <|
   Qr rfl (u:=ZR) hL O O<|QG (Qeb (L:=[]) (H:=↑hv)) O<|x (YE O O ⟨og,og⟩)<|Q7 O<|x (Qk (u:=sS 0) hM O O) <|
   x (YE rfl O ⟨og,og⟩)<|Qr O (u:=sS 0) hN O O<|x (YE O O ⟨og,og⟩)<|Qa<|x (YH m3 O) <|
   x (YE rfl O ⟨og,og⟩)<|xb (Q6 O O) (λhV=>?_) (λhV=>OS O hV)
  refine QA O<|Qa<|Qr O (u:=.bool false) hr O O<|xB (b:=!false) (Zh O) (λhW=>?_) (λhW=>OS hW og);refine QA O<|Qa<|Qr O (u:=.bool false) hr O O<|xB (b:=!false) (Zh O) (λhX=>?_) (λhX=>OS hX og);refine QA O<|Qa<|Qr O (u:=.bool false) hr O O<|xB (b:=!false) (Zh O) (λhY=>?_) (λhY=>OS hY og);refine QA O<|Qa<|Qr O (u:=sS 0) hr O O<|xb (Q6 O O) (λhZ=>?_) (λhZ=>OS O hZ);refine QA O<|Qa<|Qa<|x (Zh O)<|QA O<|Qb<|⟨!ec,La,O,by rw[m4];rfl⟩
 rintro z g po ⟨rfl,m6⟩;exact Qj ⟨[.bool z],La,by rw[m6];rfl,ht.D m5⟩
theorem Y9 {a b:Bool}(E:a=true)(G:b=true):(a && b)=true:=by rw[E,G];rfl
theorem jU {f:FuncId}{s:ChangeSpec}{c:OpenClaim}(E:(c.wf (OpenSpec.ofChange s))=true)(G:(laidOutB P)=true)(I:(mapsRowed P)=true)(J:(fn.params.all (P.readableRec ·))=true)(S:(namedTie P c.named s.vars)=true)(T:((c.stops == []))=true)(U:((P.stops == []))=true)(V:((c.knobs == []))=true)(Y:((P.stopKnobs == []))=true)(ha:((c.inPlace == P.inPlace f))=true)(hc:((c.unfollowed == P.unfollowed f))=true)(he:((c.recurses == P.recurses f))=true)(hf:((c.named == P.varsNamed f))=true)(hg:((c.maps == (fn.params.toList++s.plain.varTypes P).any (P.mapsRec ·)))=true)(hh:((c.ifaces == (fn.params.toList++s.plain.varTypes P).any (P.ifacesRec ·)))=true)(hj:((c.mapsOut == P.mapsAmong fn.resultTypes.toList))=true)(hk:((c.loops == (fn.params.toList++s.plain.varTypes P).any (P.loopsFrom ·)))=true)(hl:((c.wideKeys == (fn.params.toList++s.plain.varTypes P++fn.resultTypes.toList).any (P.wideKeysFrom ·)))=true)(hm:(s.vars.all (P.varReadable ·))=true)(hn:(fn.resultTypes.all (λt=>P.readableRec t && decide (t<P.types.size)))=true)(ho:((c.ifacesOut == fn.resultTypes.toList.any (P.ifacesRec ·)))=true)(hp:((c.loopsOut == fn.resultTypes.toList.any (P.loopsFrom ·)))=true)(hq:((c.plainKeys == P.plainKeys))=true)(hr:(c.shortTexts.isNone)=true)(hs:(P.stopsHeard)=true)(ht:(P.mayEnter)=true)(hu:((c.lifted == P.liftsFinal))=true)(hv:((P.make == some c.make))=true)(hw:((c.kinds == (if c.domain.isEmpty then[]else fn.params.toList.map λt=>match P.underlying t with|some (.int k)=>some k|_=>none)))=true)(hy:((c.pinned == c.pinnedBy))=true)(hz:((c.veiled == (fn.params.toList++s.plain.varTypes P++fn.resultTypes.toList).any (P.veiledRec ·)))=true)(h0:(c.veiledFits P fn.params.toList (fn.params.toList++s.plain.varTypes P++fn.resultTypes.toList))=true):joinedFacts P f fn s c=true:=by
 unfold joinedFacts;exact(Y9 (Y9 (Y9 (Y9 (Y9 (Y9 (Y9 (Y9 (Y9 (Y9 (Y9 (Y9 (Y9 (Y9 (Y9 (Y9 (Y9 (Y9 (Y9 (Y9 (Y9 (Y9 (Y9 (Y9 (Y9 (Y9 (Y9 (Y9 (Y9 (Y9 (Y9 E G) I) J) S) T) U) V) Y) ha) hc) he) hf) hg) hh) hj) hk) hl) hm) hn) ho) hp) hq) hr) hs) ht) hu) hv) hw) hy) hz) h0)
theorem zi:laidOutB sV=true:=oc
theorem QhD:mapsRowed sV=true:=oc
theorem QhF:sV.stopsHeard=true:=oc
theorem QhG:sV.mayEnter=true:=oc
theorem QhE:(false == sV.liftsFinal)=true:=oc
theorem Qkz:(sV.make == some Make.cut)=true:=oc
theorem QkD:(Rows.hierarchyRefusesRow.inPlace == sV.inPlace 8)=true:=oc
theorem QkC:(Rows.hierarchyRefusesRow.unfollowed == sV.unfollowed 8)=true:=oc
theorem QkB:(Rows.hierarchyRefusesRow.recurses == sV.recurses 8)=true:=oc
theorem QkA:(Rows.hierarchyRefusesRow.named == sV.varsNamed 8)=true:=oc
theorem QmU:Rows.hierarchyRefusesRow.wfByText (OpenSpec.ofChange Rows.hierarchyRefusesSpec)=true:=oc
theorem QmX:Tryz.pinned.checked.prog.mainIs=some (true, "7e6c111e63cd6b879c1f82077465bee9620edb040a7287706e5c7dbd129b5c95".toList):=oc
theorem QmW:sV.funcNamed "overseer/overseerlaw36.HierarchyRefuses" = some 8:=oc
theorem QmY:false=sV.looks []:=oc
theorem QmV:([36,4,47].all λu=>!sV.wantsStandIn u)=true:=oc
theorem QmZ:false=Rows.hierarchyRefusesRow.goesBy Tryz.pinned.checked.prog:=oc
theorem Qo0 {H:Type}{enc:TypeId×OY->H}{W:OX}{J:Nat}{sp:Nat->Bool}{S:Bool}{t e:TypeId}{c:OY}{fuel:Nat}{x:DataW H×List MemPlace}(I:P.underlying t=some (.slice e))(T:P.underlying e=some (.int .i64))(U:P.cellsOf e=1)
  (V:Cell.okWide P W .any base t c) (Y:DataW.trod enc P W J sp S fuel t [c]=some x):∃a n cp,c=.slice a n cp/\(n<=12->∃u:LI,u.length=n/\Qt [] ↑W (.slice a n cp) u):=by
 rcases open_ints I T U Y with⟨G,_⟩|⟨a,len,cap,zs,G,_,hl,_,hz,_,ha,_⟩
 ·simp at G;subst G;exact⟨none,0,0,O,λ_=>⟨[],O,Zs.nil _ _ _⟩⟩
 simp at G;subst G;have hg:len<=zs.length:=by rw[hz];split <;> omega
 refine⟨some a,len,cap,O,λhh=>⟨zs.take len,by simp;omega,?_⟩⟩;have hf:(zs.take len).length=len:=by simp;omega
 unfold Qt;rw[hf];refine⟨by simp;omega,oa,.inr ⟨a,cap,O,hl,λ_ _=>od,λ_ _=>QdI I V,λj v E=>?_⟩⟩;rw[Mq,LW]at E;split at E
 ·rename_i hj;have h1:=ha j oa;have h2:zs[j]?=some (zs.getD j 0):=by simp[oO,show j<zs.length by omega]
  rw[h2]at E;simp at E;rw[<-X4,h1,<-E];simp[oO,show j<zs.length by omega]
 cases E
theorem Qo1 {H:Type}{enc:TypeId×OY->H}{W:OX}{I:Nat}{sp:Nat->Bool}{J:Bool}{t e:TypeId}{c:OY}{d:DataW H}{ps:List MemPlace}(E:P.underlying t=some (.slice e))(S:P.underlying e=some (.int .i64))(T:P.cellsOf e=1)
  (G:Value.okWide P W .any base t c) (U:DataW.Trod enc P W I sp J t c d ps):∃a n cp,c=.slice a n cp/\(n<=12->∃u:LI,u.length=n/\Qt [] ↑W (.slice a n cp) u):=by
 obtain⟨ad,nb,cb,rfl⟩:=okWide_slice E G;obtain⟨fuel,V⟩:=U;exact Qo0 E S T (by simpa only[Value.okWide,E]using G) V
end Go.Lg
