/- Merged out of 65 texts. -/
import Derived.Test.YtpfnhheoeaiomaaGreatDoorPbd
import Derived.ChangeSame
import Derived.Carry
import Derived.OpenShut
import Derived.RowKit
import Derived.ChangeSlices
import Derived.WideShapes
import Derived.ProofKit
import Derived.ChangeArms
import Derived.Lib.LaidTab
import Derived.Stop.LaidErr
import Derived.MakeChecks
import Derived.Test.YtpfnhheoeaiomaaGreatDoorRows
import Derived.JoinedOf
import Derived.Test.YtpfnhheoeaiomaaGreatDoorCards
import Derived.SevenTiedAt
set_option maxHeartbeats 40000000
set_option maxRecDepth 100000
set_option linter.all false
open Go Go.Lg
open Go.Value renaming int->oB
open Go.IntKind renaming i64->oC
open _root_.List renaming mem_singleton->oF,not_mem_nil->oH,range->oJ,mem_cons->oK,length_singleton->oL,length_append->oM,range'->oN,getD->oO,length_cons->oP,map_cons->oS,getElem?_eq_getElem->oU,length->oV,getElem?_append_left->Oa,all_cons->Ob,size_toArray->Od,append_assoc->Of,mem_range'_1->Oh,mem_filter->Oi,mem_map->Ol,nil_append->On,getElem_replicate->Oq,getElem_cons_zero->Ot,length_map->Ow,filter_cons->OA,map_nil->OC
open _root_.Bool renaming and_eq_true->oI,true_and->OK
open _root_.Nat renaming zero_add->oX,add_mul->Ou,le_refl->OE,pow_succ->OH,lt_or_ge->OM,succ_mul->OO
open _root_.Int renaming toNat_natCast->Oy
open Go renaming World->O0,Value->O1,Operand->O2,Program->O3
open Go.Proofs Go.Proofs.Tryz
open Go.Proofs.Tryz renaming prog->sV
open Go.Proofs.YtpfnhheoeaiomaaGreatDoor
variable {w w' W':O0}{L L' ds ns:LN}{n t i sz base T j N E m g id B kt ty G hi et off:Nat}{a:Qz}{l o u un ul rs:LI}{cs us cap capt:LV}{α β:Type}{y:O2}{ve va vm z vt vl vs vk vx v' vb vr vo vu vh vz:O1}{f:Fr}{P:O3}{aa:List Qz}{fn:Func}{c:CL}{s:Int}{es ed:List Ed}{K:xw}{d:xD}{pS:String}{af:xA}{gd:xp}{k':IntKind}{at_:Array Nat}{ops:xC}{q:Prop}{qx:List XV}{ks:List KV}
namespace Go.Lg
instance ayAz1:Ay sV 25 3 24 1:=⟨oc,oc⟩
instance ayAz2:Ay sV 30 2 24 1:=⟨oc,oc⟩
instance ayAz3:Ay sV 31 2 28 27:=⟨oc,oc⟩
instance ayAz4:Ay sV 34 3 33 1:=⟨oc,oc⟩
abbrev X4V:={r:LN // r.length=4/\∀n∈r,n<256}
abbrev Xf (r:X4V):LV:=bys r.1
theorem zg (r:X4V):(Xf r).length=4:=by show(bys r.1).length=4;unfold bys;rw[Lm,r.2.1]
structure PlV where
 ns:LN
 vx:O1
 xs:List X4V
 f0:Int
 f1:Int
 f2:Int
 bd:Int
abbrev Y6 (l:PlV):LV:=bys l.ns++[l.vx,.int .i8 l.f0,.int .i8 l.f1,.int .i8 l.f2,.int .i8 l.bd]
abbrev i8R (n:Int):Prop:=-128<=n/\n<=127
structure PlA (L:LN)(H:xz)(l:PlV):Prop where
 n:l.ns.length=147
 b:∀n∈l.ns,n<256
 x:Zr L H l.vx l.xs.length 4 (l.xs.flatMap Xf)
 f0:i8R l.f0
 f1:i8R l.f1
 f2:i8R l.f2
 bd:i8R l.bd
theorem Qar {l:PlV}(h:l.ns.length=147):(Y6 l).length=152:=by rw[Y6,Lc,Xt,h];rfl
theorem Qh8 {l:PlV}(h:l.ns.length=147)(j:Nat):(Y6 l)[147+j]?=([l.vx,.int .i8 l.f0,.int .i8 l.f1,.int .i8 l.f2,.int .i8 l.bd]:LV)[j]?:=by
 rw[Y6,Mn (by rw[Xt];omega),Xt,h,M2]
theorem QeW {l:PlV}(h:l.ns.length=147)(E:j<147):(Y6 l)[j]?=some (.int .u8 ((l.ns.getD j 0:Nat):Int)):=by
 rw[Y6,LY (by rw[Xt];omega)];exact U5 oa
theorem Qdw {l:PlV}{o:Nat}(j:Nat)(u:O1)(h:(bys ((l.ns.drop o).take m))[j]?=some u):(Y6 l)[o+j]?=some u:=by
 have E:=QmI (ns:=l.ns) (o:=o) (n:=m) j u h;have G:=(Mh.1 E).1;rw[Y6,LY G];exact E
theorem QfE {sz:LI}:∀(ls:xu) (pr:Option Int),(∀b,pr=some b->∀p∈ls,b<p.1)->ls.Pairwise (λp q=>p.1<q.1)->(∀p∈ls,0<=p.1/\p.1<(sz.length:Int)/\0<=p.2/\p.2<O5 sz p.1.toNat)->Xv sz pr ls=0
 | [],_,_,_,_=>rfl
 | p::ls,pr,G,I,hb=>by
  obtain⟨S,T,U,V⟩:=hb p Lk;obtain⟨k1,k2⟩:=L5.1 I;have hl:zM pr p.1=false:=by
   cases pr with
   | none=>rfl
   | some b=>have:=G b O p Lk;unfold zM;exact OY oa
  rw[Xv,OS oa,OS (by rw[hl];decide),OS oa];exact QfE ls (some p.1) (λb J q E=>by cases J;exact k1 q E) k2 (λq E=>hb q (Lj _ E))
theorem QfD {sz:LI}:∀(ls:xu) (pr:Option Int),(∀b,pr=some b->∀p∈ls,b<p.1)->ls.Pairwise (λp q=>p.1<q.1)->(∀p∈ls,0<=p.1/\p.1<(sz.length:Int)/\p.2≠0/\-65536<=p.2/\p.2<=65536)->JL sz pr ls=0
 | [],_,_,_,_=>rfl
 | p::ls,pr,G,I,hb=>by
  obtain⟨U,V,J,Y,h5⟩:=hb p Lk;obtain⟨k1,k2⟩:=L5.1 I;have hl:zM pr p.1=false:=by
   cases pr with
   | none=>rfl
   | some b=>have:=G b O p Lk;unfold zM;exact OY oa
  have S:grt p.2=false:=by unfold grt;rw[OY oa,OY oa];rfl
  rw[JL,OS oa,OS (by rw[hl];decide),OS (by rw[S];simpa using J)];exact QfD ls (some p.1) (λb T q E=>by cases T;exact k1 q E) k2 (λq E=>hb q (Lj _ E))
theorem QeG (a:Int){b:Int}(h:0<b):-b<a.tmod b/\a.tmod b<b:=⟨Int.lt_tmod_of_pos a h,Int.tmod_lt_of_pos a h⟩
structure ItG (c:Nat)(k:Nat)(q:IV):Prop where
 nm:q.nm=⟨#[UInt8.ofNat c]⟩++⟨#[UInt8.ofNat (48+k)]⟩
 g:GdA q.p.a
 e:∀e∈q.p.a.al,e<5
theorem QiD (k:Nat)(h:k<3):Xi (nmI 99 k)=true/\Xi (nmI 114 k)=true/\Xi (nmI 101 k)=true:=by
 match k,h with
 | 0,_=>decide
 | 1,_=>decide
 | 2,_=>decide
theorem Qgj:∀n,n<4->∀m,m<3->((oJ n).map (nmI 99)++(oJ m).map (nmI 114)).Nodup:=og
theorem jA {c:Nat}{co:List IV}(h:∀k (E:k<co.length),ItG c k (co[k]'E)):(co.map IV.it).map (·.nm)=(oJ co.length).map (nmI c):=by
 apply LX
 ·simp
 intro i G I;simp only[List.getElem_map,List.getElem_range];exact(h i (ou G)).nm
theorem QoP {co rq:List IV}{al:LI}(h1:1<=co.length)(h3:co.length<=3)(J:∀k (E:k<co.length),ItG 99 k (co[k]'E))(U:∀e,e∈al↔∃q∈co,e∈q.p.a.al)(hf:rq.length<=2)
  (S:∀k (E:k<rq.length),ItG 114 k (rq[k]'E)/\∀e∈(rq[k]'E).p.a.al,e∈al) (hg:qx.length<=2) (V:(qx.map (·.nm)).Nodup) (Y:∀q∈qx,(∃k,k<2/\q.nm=⟨#[101]⟩++⟨#[UInt8.ofNat (48+k)]⟩)/\q.ls≠[]/\q.ls.length<=3/\Xv (co.map (·.p.a.st)) none q.ls=0)
  (hh:ks.length<=1) (ha:∀q∈ks,q.nm=⟨#[107]⟩/\Xw (co.map (·.p.a.st)) q.k=0):D25 ⟨Ju ns 5,co.map IV.it,rq.map IV.it,qx.map XV.x,ks.map KV.k⟩:=by
 have T:szs (co.map IV.it)=co.map (·.p.a.st):=by unfold szs;rw[Mw];rfl
 refine⟨⟨Vi ns 5,QjC ns⟩,by simp only[Ow];omega,by simp only[Ow];omega,by simp only[Ow];omega,λx hx=>?_,λx hx=>?_,?_,by simp only[Ow];omega,λx hx=>?_,?_,by simp only[Ow];omega,λx hx=>?_⟩
 ·obtain⟨q,G,rfl⟩:=Ly.1 hx;obtain⟨k,E,rfl⟩:=LP G;have g:=J k E;exact⟨by show Xi (co[k]'E).nm=true;rw[g.nm];exact(QiD k oa).1,g.g,g.e⟩
 ·obtain⟨q,G,rfl⟩:=Ly.1 hx;obtain⟨k,E,rfl⟩:=LP G;have g:=S k E;refine⟨by show Xi (rq[k]'E).nm=true;rw[g.1.nm];exact(QiD k oa).2.1,g.1.g,λe he=>?_⟩;obtain⟨y,hy,hc⟩:=(U e).1 (g.2 e he);exact⟨y.it,LG hy,hc⟩
 ·show((co.map IV.it).map (·.nm)++(rq.map IV.it).map (·.nm)).Nodup;rw[jA J,jA (λk E=>(S k E).1)];exact Qgj _ oa _ oa
 ·obtain⟨q,G,rfl⟩:=Ly.1 hx;obtain⟨⟨k,k1,k2⟩,I,_,g4⟩:=Y q G;refine⟨by show Xi q.nm=true;rw[k2];exact(QiD k oa).2.2,I,?_⟩;show Xv (szs (co.map IV.it)) none q.ls=0;rw[T];exact g4
 ·show((qx.map XV.x).map (·.nm)).Nodup;rw[Mw];exact V
 obtain⟨q,G,rfl⟩:=Ly.1 hx;obtain⟨g1,I⟩:=ha q G;refine⟨by show Xi q.nm=true;rw[g1];decide,?_⟩;show Xw (szs (co.map IV.it)) q.k=0;rw[T];exact I
def flk (l:PlV)(i:Nat):Int:=[l.f0,l.f1,l.f2].getD i 0
theorem QpP {l:PlV}(h:l.ns.length=147)(hi:i<3):(Y6 l)[0+148+i*1]?=some (.int .i8 (flk l i)):=by
 rw[show 0+148+i*1=147+(1+i) by omega,Qh8 h]
 match i,hi with
 | 0,_=>rfl
 | 1,_=>rfl
 | 2,_=>rfl
theorem QpO {H:xz}{l:PlV}(h:PlA L H l)(i:Nat)(hi:i<3):i8R (flk l i):=by
 match i,hi with
 | 0,_=>exact h.f0
 | 1,_=>exact h.f1
 | 2,_=>exact h.f2
theorem QjB (ns:LN):∀e∈Ju ns 5,yJ e.nm:=λe E=>by
 unfold Ju at E;obtain⟨k,_,rfl⟩:=Ly.1 E;unfold Kr;split <;> exact Jg od
theorem Qgp {l:PlV}(h:PlA [] ↑w l):
  QT sV 34 [sT (Y6 l)] w λr w'=>sW w w'/\∃k,Qm3 ↑w ↑w' r k/\D25 k:=by
 refine Zd (1+l.ns.getD 5 0 % 3) λn hn=>?_;have hn3:1<=n/\n<=3:=oa
 refine Zk func34 ?_;refine Qc<|Zc (Y6 l) λb1 w1 hs1 hb1 pj=>QS KR λb2 w2 k5 hb2 pn=>xe ?_;have po:=hs1.D k5;have hl1:=pj.lt;have hl2:=pn.lt;have gy:=pj.I k5;have pp:((l.ns.drop 0).take 5).length=5:=by rw[LB,Mo,h.n];rfl
 have hflt:∀n∈(l.ns.drop 0).take 5,n<256:=λn hn=>h.b n (MS (L2 hn));refine Qc<|Q8 O<|x (UM (us:=bys ((l.ns.drop 0).take 5)) gy O (by rw[Xt];exact pp) (λj u hu=>Qdw (l:=l) (o:=0) (m:=5) j u hu))<|Qw<|(Qc2 (ns:=(l.ns.drop 0).take 5) pp hflt).S ?_;rintro ve w3 ⟨pt,gn⟩;refine Zd (Ju ((l.ns.drop 0).take 5) 5) λev kn=>?_;rw[kn]at gn;refine x (QC ⟨xK gn,Z⟩)<|QS KR λG w4 hs4 hb3 hB3=>Q5 [ve,Zo,Zo,Zo,Zo] hB3 ⟨QA gn,O,O,O,O,Z⟩ λw5 hs5 pu =>
  xe ?_
 have pw:sW w3 w5:=hs4.Q hs5 hb3;refine Qc<|QS [Zo] λb4 w6 pz hb4 p0=>xe ?_;have p4:=pw.D pz;have gz:=pt.D p4;have U:=k5.D gz;have hz3:=pt.size;have hz35:=pw.size;have hl3:=pu.lt;have hl4:=p0.lt;have k6:=gy.I gz;have hB36:=pu.I pz;have q5:=QeW (l:=l) h.n (j:=5) oa;have q5l:=Jb h.b 5;refine Zd (l.ns.getD 5 0) λcn hcn=>?_;rw[hcn]at q5 q5l hn;refine Qc<|Qs O k6 O q5<|x (zw (a:=(cn:Int)) (b:=3) O O oa oa)<|x (Yf (k':=.i64) O ⟨oa,oa⟩)<|QB O O<|Qb<|QV (α:=O1×List IV×O1×LI) [(6,7),(26,55)] (λ_=>[]) (λz w'=>O4 [G,b4] w6 w'/\QK ↑w' G 46 [ve,z.1,Zo,Zo,Zo]/\QK ↑w' b4 47 [z.2.2.1]/\qJ ↑w6 w' z.1 z.2.2.1 z.2.1 z.2.2.2/\z.2.1.length=n/\(∀k (S:k<z.2.1.length),ItG 99 k (z.2.1[k]'S))/\z.2.2.2.length<=5*n/\∀e,e∈z.2.2.2↔∃q∈z.2.1,e∈q.p.a.al) oh ?_ ?_
 ·refine Ql<|Qa<|xe<|QX (α:=Nat×O1×List IV×O1×LI) [(6,7),(27,55)] (λz=>[(27,sS z.1)])
   (λz w'=>z.1<=n/\O4 [G,b4] w6 w'/\QK ↑w' G 46 [ve,z.2.1,Zo,Zo,Zo]/\QK ↑w' b4 47 [z.2.2.2.1]/\qJ ↑w6 w' z.2.1 z.2.2.2.1 z.2.2.1 z.2.2.2.2/\z.2.2.1.length=z.1/\(∀k (S:k<z.2.2.1.length),ItG 99 k (z.2.2.1[k]'S))/\z.2.2.2.2.length<=5*z.1/\∀e,e∈z.2.2.2.2↔∃q∈z.2.2.1,e∈q.p.a.al)
   (λz=>n - z.1) (0,Zo,[],Zo,[]) La
   ⟨Lo _,O4.Y _ _,hB36,p0,qJ.nil,O,λk S=>OV S od,od,od⟩ ?_
  rintro⟨i,vc,co,va,al⟩ g7 w7 ⟨hi,hC,go,gc,hv,g0,hV,k9,gq⟩;simp only[]at hi go gc hv g0 hV k9 gq;refine Zi O O (λma=>?_) (λma=>?_)
  ·refine Qt ?_;have mc:i=n:=by have h29:¬(i:Int)<1+(cn:Int) % 3:=ma;omega
   exact⟨(vc,co,va,al),Z,hC,go,gc,hv,oe,hV,oe,gq⟩
  have h5:i<n:=by have h29:(i:Int)<1+(cn:Int) % 3:=ma;omega
  have mf:b1∉[G,b4]:=by simp only[oK,oH,or_false];omega
  have hW:=k6.J hC mf;have qs:=QeW (l:=l) h.n (j:=0+6+i*1) oa;have qsl:=Jb h.b (0+6+i*1);refine Zd (l.ns.getD (0+6+i*1) 0) λm hm=>?_;rw[hm]at qs qsl;have mg:=VT m 5;have g2:=QbG m 5;have ge:=QeO m 5;refine Zd (setK m 5) λsk g3=>?_;rw[g3]at mg g2 ge;refine Qf<|Qe<|Qn<|Ql<|Qb<|Ql<|Q8 O<|x (ZR (i:=i) O O oa)<|ZA hW O qs<|Qw<|(VU m qsl _).S ?_;rintro vs w8 ⟨hg,ko⟩;rw[g3]at ko;refine Qb ?_;have p5:=hg.size;have hE:=hv.I hg;have hI8:=Qh.ints (L:=[]) hE.a oa od;have hJ8:=Qh.ints (L:=[]) ko oa od;refine Qc<|ZA (gc.I hg) O O<|Qa<|Qw<|(Qdf hI8 hJ8 oa).S ?_;rintro p6 w9 ⟨V,p7,hal2,p8,gg⟩;have kq:=hg.D V;have mh:=V.size;have hz7:=hC.size;refine Qo<|Qv (gc.I kq) O O od (QA gg) λhh hw hB410=>xe ?_;have hl36:G<w6.heap.size:=oa
  have h7:qJ ↑w6 w9 vc p6 co p7:=hE.setA (Q9 gg oa) V.any (λb hb=>.inr (Qi gg b hb).1);have hy:=h7.low hw (λb hb=>by rw[Lb.1 hb];omega);have g4:QK ↑hh G 46 [ve,vc,Zo,Zo,Zo]:=(go.I kq).J hw ol;have mj:=(hW.I kq).J hw ol;have mo:Qu [] ↑hh vs sk:=Qh.ints (L:=[]) (Qg (Qm ko V) hw (λb hb hm=>by have:=(Qi ko b hb).1;rw[Lb.1 hm]at this;omega)) oa od;have hz10:=hw.size;have n3v:G∉ob vc:=QJ hy.c oa;have n1v:b1∉ob vc:=QJ hy.c oa;have gh:=Qjf (ns:=l.ns) (o:=0+9+i*27) (oo h.n);have g5:=Qnh (o:=0+9+i*27) h.b;have g6:=λj u=>Qdw (l:=l) (o:=0+9+i*27) (m:=27) j u;refine Zd (grN l.ns (0+9+i*27)) λgr h8=>?_;have mq:∀j u,(bys gr)[j]?=some u->(Y6 l)[0+9+i*27+j]?=some u:=by rw[<-h8];exact g6
  rw[h8]at gh g5;have ka:sW hh { hh with drawn:=hh.drawn+1 }:=O4.X _ _
  have kb:(48:Int)+(i:Int)=((48+i:Nat):Int):=oa
  refine Zd (⟨#[99]⟩++⟨#[UInt8.ofNat (48+i)]⟩:ByteArray) λnm hH=>?_;refine ZH (ob vc) (Xc 0 18 [12,14,15,17])<|p (QH O)<|pq (λ_ hc=>Qk (g4.J hc n3v) O O)<|p Qy<|p (λ_=>Xm O O ⟨oa,oa⟩)<|p (λ_=>Yf (k':=.i32) O ⟨oa,oa⟩)<|p (λ_=>UJ (n:=48+i) (OU (Value.int .i32) kb) oa) <|
   p (λ_=>YG (a:=⟨#[99]⟩) (b:=⟨#[UInt8.ofNat (48+i)]⟩) O O (by show 1+1<=1000000000;omega))<|p Qy<|p Qy<|p (QH O)<|p (λ_=>ZR (i:=i) O O oa)<|pq (λ_ hc=>UM (us:=bys gr) (mj.J hc n1v) O (by rw[Xt];exact gh) mq)<|?_
  refine pk<|xg<|(zX (mo.I ka) (λe T=>oo (ge e T)) g2 gh g5).S ?_;rintro r11 ho ⟨gi,a,⟨xa,xm,h6,rfl,hA⟩,hG,gs⟩;have hI:=ka.D gi;have p9:=hI.size;have gj:=hA [] od;refine⟨hI.any,?_⟩;refine p (λ_=>Zw [(0,[.string nm]),(1,[xa,sS a.st,xm,h6])] ⟨OU (λb=>(Value.string b).cells) hH,O,O,O,Z⟩)<|pk<|Q7 [Zm ⟨nm,⟨xa,xm,h6,a⟩⟩] λb14 gk hf hb14 ms=>⟨(hI.D hf).any,?_⟩;have hz:=hI.D hf;have kc:=hy.I hz;refine pk<|Q2 (news:=Zm ⟨nm,⟨xa,xm,h6,a⟩⟩) (L:=[]) kc.c O O O (ms.at od) (QaN gj.al.one gj.mr.one gj.ed.one) oa (oo hz.size) λmt hJ ke J mu=>⟨(hz.any (L:=ob vc)).V J,?_⟩;have mv:=kc.setC (zR (q:=⟨nm,⟨xa,xm,h6,a⟩⟩) (N:=↑hh) (λL hL=>(hA L hL).I hf) oa hy.avlt) ke J mu;refine p (QH O)<|pkk<|Qv ((g4.I hz).J J n3v) O O od (QA ke) λhK U hX=>pe ?_;have hge:=Qi hy.c;have n4v:b4∉ob vc:=QJ hy.c oa;have hB416:=((hB410.I hz).J J n4v).J U ol;have hs710:O4 [b4] w7 hh:=kq.any.V hw;have hs615:O4 [G,b4] w6 hJ:=((hC.V (hs710.S od)).D hz.any).O J (λb hb=>.inr (hge b hb).1);refine Qr<|QB O O<|Qa<|xe<|⟨(i+1,mt,co++[⟨nm,⟨xa,xm,h6,a⟩⟩],p6,p7),oe,La,h5,hs615.V (U.S od),hX,hB416,mv.low U (λb hb=>by rw[List.mem_singleton.1 hb];omega),by simp only[oM,oL];omega,λk S=>?_,oe,λe=>?_⟩
  ·simp only[]at S ⊢;by_cases hj:k<co.length
   ·rw[Mt hj];exact hV k hj
   have kf:k=i:=by simp only[oM,oL]at S;omega
   subst kf;rw[Ng oa];simp only[g0,Nat.sub_self,Ot];exact⟨hH.symm,hG,λe T=>by rw[gs]at T;exact(ge e T).2⟩
  simp only[]at p8 ⊢;rw[p8,gq];constructor
  ·rintro(⟨q,E,T⟩|T)
   ·exact⟨q,LO _ E,T⟩
   exact⟨_,MN _ (Lb.2 O),by rw[gs];exact T⟩
  rintro⟨q,E,T⟩;rcases Le.1 E with E|E
  ·exact .inl ⟨q,E,T⟩
  rw[Lb.1 E,gs]at T;exact .inr T
 rintro⟨vc,co,va,al⟩ g7 w7 ⟨hC,go,gc,hv,g0,hV,k9,gq⟩;simp only[]at go gc hv g0 hV k9 gq;have hz7:=hC.size;have mf:b1∉[G,b4]:=by simp only[oK,oH,or_false];omega
 have hW:=k6.J hC mf;have mw:b1∉[G]:=ol
 have n43:b4∉[G]:=ol
 have qj:=QeW (l:=l) h.n (j:=90) oa;have q90l:=Jb h.b 90;refine Zd (l.ns.getD 90 0) λrn hrn=>?_;rw[hrn]at qj q90l;refine Zd (rn % 3) λr hr=>?_;refine QV (α:=O1×List IV) [(8,9),(56,87)] (λ_=>[]) (λz w'=>O4 [G] w7 w'/\QK ↑w' G 46 [ve,vc,z.1,Zo,Zo]/\qJ ↑w7 w' z.1 Zo z.2 []/\z.2.length=r/\∀k (S:k<z.2.length),ItG 114 k (z.2[k]'S)/\∀e∈(z.2[k]'S).p.a.al,e∈al) oh ?_ ?_
 ·refine Qc<|Qs O hW O qj<|x (zw (a:=(rn:Int)) (b:=3) O O oa oa)<|x (Yf (k':=.i64) O ⟨oa,oa⟩)<|Qa<|xe<|QX (α:=Nat×O1×List IV) [(8,9),(60,87)] (λz=>[(60,sS z.1)])
   (λz w'=>z.1<=r/\O4 [G] w7 w'/\QK ↑w' G 46 [ve,vc,z.2.1,Zo,Zo]/\qJ ↑w7 w' z.2.1 Zo z.2.2 []/\z.2.2.length=z.1/\∀k (S:k<z.2.2.length),ItG 114 k (z.2.2[k]'S)/\∀e∈(z.2.2[k]'S).p.a.al,e∈al)
   (λz=>r - z.1) (0,Zo,[]) La
   ⟨Lo _,O4.Y _ _,go,qJ.nil,O,λk S=>OV S od⟩ ?_
  rintro⟨i,vr,rq⟩ g8 w8 ⟨hi,hg,gt,hE,kr,h8⟩;simp only[]at hi gt hE kr h8;refine Zi O O (λmy=>?_) (λmy=>?_)
  ·refine Qt ?_;have mc:i=r:=by have h62:¬(i:Int)<(rn:Int) % 3:=my;omega
   exact⟨(vr,rq),Z,hg,gt,hE,oe,h8⟩
  have h5:i<r:=by have h62:(i:Int)<(rn:Int) % 3:=my;omega
  have kg:=hW.J hg mw;have hB48:=gc.J hg n43;have qs:=QeW (l:=l) h.n (j:=0+91+i*1) oa;have qsl:=Jb h.b (0+91+i*1);refine Zd (l.ns.getD (0+91+i*1) 0) λm hm=>?_;rw[hm]at qs qsl;have mg:=VT m 5;have g2:=QbG m 5;have ge:=QeO m 5;refine Zd (setK m 5) λsk g3=>?_;rw[g3]at mg g2 ge;refine Qf<|Qe<|Qn<|Ql<|Qb<|Ql<|Q8 O<|x (ZR (i:=i) O O oa)<|ZA kg O qs<|Qw<|(VU m qsl _).S ?_;rintro vs w9 ⟨V,gg⟩;rw[g3]at gg;have p5:=hg.size;have mh:=V.size;have hva8:=Qm (Qg hv.a hg (λb hb hm=>by rw[Lb.1 hm]at hb;exact QJ hv.a oa hb)) V;have g6:=Qi gg;have hlv:=QU hv.a;have hD:=Qmu gg oa (hB48.I V) (λhm=>oo (g6 b4 hm).1) (QM hva8 oa (λb hb hbs=>oq (g6 b hbs).1 (hlv b hb)));refine x (Zj (l:=[]) (l':=[_]))<|Qw<|hD.S ?_;rintro vd hh ⟨hw,ql⟩;have q0:Yw (sk.filter λx=>decide (x∈al)):=List.Pairwise.filter _ g2;have hFL:=LJ (λx=>decide (x∈al)) sk;have kt:∀e∈sk.filter λx=>decide (x∈al),e∈sk/\e∈al:=λe T=>by
   have:=LQ.1 T;exact⟨this.1,OX this.2⟩
  refine Zd (sk.filter λx=>decide (x∈al)) λF hF=>?_;rw[hF]at ql q0 hFL kt;refine Qb ?_;have kh:sW w8 hh:=V.O hw (λb hb=>.inr (g6 b hb).1);have hz10:=kh.size;have hy:=hE.I kh;have g4:=gt.I kh;have mj:=kg.I kh;have mo:Qu [] ↑hh vd F:=Qh.ints (L:=[]) ql oa od;have n3v:G∉ob vr:=QJ hy.c oa;have n1v:b1∉ob vr:=QJ hy.c oa;have gh:=Qjf (ns:=l.ns) (o:=0+93+i*27) (oo h.n);have g5:=Qnh (o:=0+93+i*27) h.b;have mq:=λj u=>Qdw (l:=l) (o:=0+93+i*27) (m:=27) j u;refine Zd (grN l.ns (0+93+i*27)) λgr q4=>?_;have hgs2:∀j u,(bys gr)[j]?=some u->(Y6 l)[0+93+i*27+j]?=some u:=by rw[<-q4];exact mq
  rw[q4]at gh g5;have ka:sW hh { hh with drawn:=hh.drawn+1 }:=O4.X _ _
  have kb:(48:Int)+(i:Int)=((48+i:Nat):Int):=oa
  refine Zd (⟨#[114]⟩++⟨#[UInt8.ofNat (48+i)]⟩:ByteArray) λnm hH=>?_;refine ZH (ob vr) (Xc 0 18 [12,14,15,17])<|p (QH O)<|pq (λ_ hc=>Qk (g4.J hc n3v) O O)<|p Qy<|p (λ_=>Xm O O ⟨oa,oa⟩)<|p (λ_=>Yf (k':=.i32) O ⟨oa,oa⟩)<|p (λ_=>UJ (n:=48+i) (OU (Value.int .i32) kb) oa) <|
   p (λ_=>YG (a:=⟨#[114]⟩) (b:=⟨#[UInt8.ofNat (48+i)]⟩) O O (by show 1+1<=1000000000;omega))<|p Qy<|p Qy<|p (QH O)<|p (λ_=>ZR (i:=i) O O oa)<|pq (λ_ hc=>UM (us:=bys gr) (mj.J hc n1v) O (by rw[Xt];exact gh) hgs2)<|?_
  refine pk<|xg<|(zX (mo.I ka) (λe T=>oo (ge e (kt e T).1)) q0 gh g5).S ?_;rintro r11 ho ⟨gi,a,⟨xa,xm,h6,rfl,hA⟩,hG,gs⟩;have hI:=ka.D gi;have p9:=hI.size;have gj:=hA [] od;refine⟨hI.any,?_⟩;refine p (λ_=>Zw [(0,[.string nm]),(1,[xa,sS a.st,xm,h6])] ⟨OU (λb=>(Value.string b).cells) hH,O,O,O,Z⟩)<|pk<|Q7 [Zm ⟨nm,⟨xa,xm,h6,a⟩⟩] λb14 gk hf hb14 ms=>⟨(hI.D hf).any,?_⟩;have hz:=hI.D hf;have kc:=hy.I hz;refine pk<|Q2 (news:=Zm ⟨nm,⟨xa,xm,h6,a⟩⟩) (L:=[]) kc.c O O O (ms.at od) (QaN gj.al.one gj.mr.one gj.ed.one) oa (oo hz.size) λmt hJ ke J mu=>⟨(hz.any (L:=ob vr)).V J,?_⟩;have mv:=kc.setC (zR (q:=⟨nm,⟨xa,xm,h6,a⟩⟩) (N:=↑hh) (λL hL=>(hA L hL).I hf) oa hy.avlt) ke J mu;refine p (QH O)<|pkk<|Qv ((g4.I hz).J J n3v) O O od (QA ke) λhK U hX=>pe ?_;have hge:=Qi hy.c;have hs715:O4 [G] w7 hJ:=((hg.D kh.any).D hz.any).O J (λb hb=>.inr (hge b hb).1);refine Qr<|QB O O<|Qa<|xe<|⟨(i+1,mt,rq++[⟨nm,⟨xa,xm,h6,a⟩⟩]),oe,La,h5,hs715.V U,hX,mv.low U (λb hb=>by rw[Lb.1 hb];omega),by simp only[oM,oL];omega,λk S=>?_⟩;simp only[]at S ⊢;by_cases hj:k<rq.length
  ·rw[Mt hj];exact h8 k hj
  have kf:k=i:=by simp only[oM,oL]at S;omega
  subst kf;rw[Ng oa];simp only[kr,Nat.sub_self,Ot];exact⟨⟨hH.symm,hG,λe T=>by rw[gs]at T;exact(ge e (kt e T).1).2⟩,λe T=>by rw[gs]at T;exact(kt e T).2⟩
 rintro⟨vr,rq⟩ g8 w8 ⟨hg,gt,hE,kr,h8⟩;simp only[]at gt hE kr h8;have p5:=hg.size;have kg:=hW.J hg mw;have g147:=Qh8 (l:=l) h.n 0;have hX6:Zr [G,b4] ↑w6 l.vx l.xs.length 4 (l.xs.flatMap Xf):=((h.x.up (L':=[G,b4]) (λb hb=>.inr (by simp only[oK,oH,or_false]at hb;omega))).I po).I gz;have j1:Zr [G] ↑w8 l.vx l.xs.length 4 (l.xs.flatMap Xf):=((hX6.st hC).up (L':=[G]) (λb hb=>.inl (by simp only[oF]at hb;simp[hb]))).st hg;refine QV (α:=O1×List XV) [(10,14),(88,151)] (λ_=>[]) (λz w'=>O4 [G] w8 w'/\QK ↑w' G 46 [ve,vc,vr,z.1,Zo]/\K8 ZY 2 186 (λq=>[(q.v,q.ls.length,2,q.ls.flatMap Zg)]) ↑w8 w' z.1 z.2/\z.2.length<=2/\(z.2.map (·.nm)).Nodup/\∀q∈z.2,(∃k,k<2/\q.nm=⟨#[101]⟩++⟨#[UInt8.ofNat (48+k)]⟩)/\q.ls≠[]/\q.ls.length<=3/\Xv (co.map (·.p.a.st)) none q.ls=0) oh ?_ ?_
 ·refine Qc<|Qs O kg O g147<|QG j1 O<|Qa<|xe<|QX (α:=Nat×O1×List XV) [(10,14),(91,151)] (λz=>[(91,sS z.1)])
   (λz w'=>z.1<=l.xs.length/\z.1<=2/\O4 [G] w8 w'/\QK ↑w' G 46 [ve,vc,vr,z.2.1,Zo]/\K8 ZY 2 186 (λq=>[(q.v,q.ls.length,2,q.ls.flatMap Zg)]) ↑w8 w' z.2.1 z.2.2/\z.2.2.length<=z.1/\(z.2.2.map (·.nm)).Nodup/\∀q∈z.2.2,(∃k,k<z.1/\q.nm=⟨#[101]⟩++⟨#[UInt8.ofNat (48+k)]⟩)/\q.ls≠[]/\q.ls.length<=3/\Xv (co.map (·.p.a.st)) none q.ls=0)
   (λz=>l.xs.length - z.1) (0,Zo,[]) La
   ⟨Lo _,Lo _,O4.Y _ _,gt,K8.nil,Lp _,List.Pairwise.nil,λq E=>by cases E⟩ ?_
  rintro⟨i,vx,qx⟩ g9 w9 ⟨hi,hi2,V,hY,h7,ku,hZ,hM⟩;simp only[]at hi hi2 hY h7 ku hZ hM;have j2:(∀q∈qx,(∃k,k<2/\q.nm=⟨#[101]⟩++⟨#[UInt8.ofNat (48+k)]⟩)/\q.ls≠[]/\q.ls.length<=3/\Xv (co.map (·.p.a.st)) none q.ls=0):=λq E=>by
   obtain⟨⟨k,k1,k2⟩,h2⟩:=hM q E;exact⟨⟨k,oa,k2⟩,h2⟩
  refine Zi O O (λj3=>?_) (λj3=>?_)
  ·refine Qt ?_;exact⟨(vx,qx),Z,V,hY,h7,oe,hZ,j2⟩
  have h5:i<l.xs.length:=by have h93:(i:Int)<(l.xs.length:Int):=j3;omega
  have hX9:=j1.st V;refine Qf<|Qe<|Qn<|Ql<|O7 zg hX9 O O h5 λa94 j4=>?_;refine Zd (l.xs[i]'h5) λxr hxr=>?_;rw[hxr]at j4;refine x (QF j4 O (zg xr))<|QS [.int .u8 0,.int .u8 0,.int .u8 0,.int .u8 0] λb11 hh hw hb11 hB11=>x Qd<|Qo<|Zu (us:=Xf xr) hB11 O O (zg xr) O (QcN xr.1) λho gi za=>xe ?_;have hB:sW w9 ho:=hw.Q gi hb11;refine Qe<|Ql<|x (Zb O O)<|xe<|Zf O (λz0=>?_) (λz0=>?_)
  ·refine Qt ?_;exact⟨(vx,qx),Z,V.D hB.any,hY.I hB,h7.I hB,oe,hZ,j2⟩
  have hi3:i<2:=by have h98:¬(i:Int)=2:=z0;omega
  have kb:(48:Int)+(i:Int)=((48+i:Nat):Int):=oa
  have p9:=hB.size;have hl11:=za.lt;refine Zd (⟨#[101]⟩++⟨#[UInt8.ofNat (48+i)]⟩:ByteArray) λnm hH=>?_;refine Qf<|Ql<|QB O O<|x (Yf (k':=.i32) O ⟨oa,oa⟩)<|x (UJ (n:=48+i) (OU (Value.int .i32) kb) oa)<|x (YG (a:=⟨#[101]⟩) (b:=⟨#[UInt8.ofNat (48+i)]⟩) O O (by show 1+1<=1000000000;omega))<|x (QC La) <|
   QS [.string .empty,Zo] λhN gk hf z1 gy=>Qo<|Zu (us:=[.string nm,Zo]) gy O (show Go.Lg.ev _ _=_ from OU (λs=>Value.agg #[.string s,Zo]) hH) O O ov λhO hP hB1213=>xe ?_
  have kv:sW ho hO:=hf.Q hP z1;have mz:=hB.D kv;have hz1113:=kv.size;have mh:=V.size;have hltC:=QU hv.c;have nc3:G∉ob vc:=QJ hv.c oa;have z2:∀b∈ob vc,b∉[G]:=λb hb hm=>by rw[Lb.1 hm]at hb;exact nc3 hb
  have hC13:=Qm (Qg (Qg hv.c hg z2) V z2) mz;have m0:=hY.I mz;have hB1113:=za.I kv;have hl12:=gy.lt;have z3:G∉[hN]:=ol
  have n1112:b11∉[hN]:=ol
  have z4:=QM (L:=[hN]) hC13 oa (λb hb hm=>by rw[Lb.1 hm]at hb;have:=hltC hN hb;omega);refine QV (α:=O1×xu) [(13,14),(104,140)] (λ_=>[]) (λz w'=>O4 [hN] hO w'/\QK ↑w' hN 186 [.string nm,z.1]/\w'.ownsRow ↑hO 188 2 z.1 z.2.length (z.2.flatMap Zg)/\z.2.length<=co.length/\z.2.Pairwise (λp q=>p.1<q.1)/\∀p∈z.2,0<=p.1/\p.1<(co.length:Int)/\0<=p.2/\p.2<O5 (co.map (·.p.a.st)) p.1.toNat) oh ?_ ?_
  ·refine Qc<|Qs O m0 O O<|QG z4 O<|Qa<|xe<|QX (α:=Nat×O1×xu) [(13,14),(107,140)] (λz=>[(107,sS z.1)])
    (λz w'=>z.1<=co.length/\O4 [hN] hO w'/\QK ↑w' hN 186 [.string nm,z.2.1]/\w'.ownsRow ↑hO 188 2 z.2.1 z.2.2.length (z.2.2.flatMap Zg)/\z.2.2.length<=z.1/\z.2.2.Pairwise (λp q=>p.1<q.1)/\∀p∈z.2.2,0<=p.1/\p.1<(z.1:Int)/\0<=p.2/\p.2<O5 (co.map (·.p.a.st)) p.1.toNat)
    (λz=>co.length - z.1) (0,Zo,[]) La
    ⟨Lo _,O4.Y _ _,hB1213,QL _ _ _ _,Lp _,List.Pairwise.nil,λp I=>by cases I⟩ ?_
   rintro⟨k,vl,ls⟩ g14 hQ ⟨S,Y,hR,ha,m1,gl,hS⟩;simp only[]at S hR ha m1 gl hS;refine Zi O O (λm2=>?_) (λm2=>?_)
   ·refine Qt ?_;have kf:k=co.length:=by have h109:¬(k:Int)<(co.length:Int):=m2;omega
    rw[kf]at hS;exact⟨(vl,ls),Z,Y,hR,ha,oe,gl,hS⟩
   have hj:k<co.length:=by have h109:(k:Int)<(co.length:Int):=m2;omega
   have hAC14:=z4.st Y;have ga:=m0.J Y z3;have z5:=hB1113.J Y n1112;refine Qf<|Qe<|Qn<|Ql<|Qb<|Qc<|Qs O ga O O<|Qa<|O7 UV hAC14 O O hj λa113 h113=>?_;refine Zd (co[k]'hj) λq E=>?_;rw[E]at h113;refine x (ZF O)<|x (ZF O)<|x (Qq ((h113.from 1).fld 1 (sS q.p.a.st) O) O)<|Qb ?_;have m3:=(hV k hj).g;rw[E]at m3;have hqp:=m3.p;have hqs:=m3.s;have m4:=U5 (ns:=xr.1) (j:=0+k*1) (by rw[xr.2.1];omega);have qx0l:=Jb xr.2.2 (0+k*1);refine Zd (xr.1.getD (0+k*1) 0) λxk hxk=>?_;rw[hxk]at m4 qx0l;have hmod:0<=(xk:Int) % (q.p.a.st+2):=Int.emod_nonneg _ oa;refine Ql<|x (ZR (i:=k) O O oa)<|ZA z5 O m4<|x (Yf (k':=.i64) O ⟨oa,oa⟩)<|Qa<|QB O O<|x (zw (a:=(xk:Int)) (b:=q.p.a.st+2) O O oa oa)<|Qa<|ZT O O<|xe ?_;have hgeL:=Qi ha;have hz14:=Y.size;have hz13:=hP.size;have hn12v:hN∉ob vl:=QJ ha oa;have hn11v:b11∉ob vl:=QJ ha oa;have hcget:O5 (co.map (·.p.a.st)) k=q.p.a.st:=by
    unfold O5;simp[oO,List.getElem?_map,oU hj,E]
   refine Zn O (λh125=>?_) (λh125=>?_)
   ·refine Qf<|Qr<|QB O O<|Qa<|xe ?_;exact⟨(k+1,vl,ls),oe,La,hj,Y,hR,ha,oe,gl,λp I=>by have:=hS p I;simp only[];omega⟩
   have hd14:sW hQ { hQ with drawn:=hQ.drawn+1 }:=O4.X _ _
   refine Zd ((xk:Int) % (q.p.a.st+2)) λst hst=>?_;refine ZH (ob vl) (Xc 0 15 [11,12,14])<|p (QH O)<|pq (λ_ hc=>Qk (hR.J hc hn12v) O O)<|p Qy<|p Qy<|p (λ_=>ZR (i:=k) O O oa)<|pq (λ_ hc=>Qk (z5.J hc hn11v) O m4)<|p (λ_=>Yf (k':=.i64) O ⟨oa,oa⟩)<|p Qy<|p (λ_=>Xm O O ⟨oa,oa⟩) <|
    p (λ_=>zw (a:=(xk:Int)) (b:=q.p.a.st+2) O O oa oa)<|p (λ_=>QC ⟨O,O,Z⟩)<|pk<|Q7 [Zg ((k:Int),(xk:Int) % (q.p.a.st+2))] λb137 hJ J hb137 hB137=>?_
   have gu:=hd14.D J;have hz1415:=gu.size;refine⟨gu.any,?_⟩;refine pk<|Q2 (news:=Zg ((k:Int),(xk:Int) % (q.p.a.st+2))) (L:=[]) (Qm ha gu) O O O (hB137.at od) (Qe1 _) oa oa λkw hK gv U hn16=>⟨(gu.any (L:=ob vl)).V U,?_⟩;have hge16:∀b∈ob kw,↑hO<=b:=λb hb=>(Qi gv b hb).1;refine p (QH O)<|pkk<|Qv ((hR.I gu).J U hn12v) O O od (QA gv) λm5 h0 hW=>pe ?_;refine Qr<|QB O O<|Qa<|xe<|⟨(k+1,kw,ls++[((k:Int),(xk:Int) % (q.p.a.st+2))]),oe,La,hj,((Y.D gu.any).O U (λb hb=>.inr (hgeL b hb).1)).V h0,hW,?_,by simp only[oM,oL];omega,?_,λp I=>?_⟩
   ·have h9:=Qg gv h0 (λb hb=>by have:=hge16 b hb;simp only[oF];omega);simp only[oM,List.flatMap_append];simpa using h9
   ·simp only[];rw[Mg];exact⟨gl,M5 _ _,λp I p' m6=>by rw[Lb.1 m6];have:=hS p I;simp only[];omega⟩
   simp only[]at I ⊢;rcases Le.1 I with I|I
   ·have:=hS p I;omega
   rw[Lb.1 I];simp only[Oy];rw[hcget];omega
  rintro⟨vl,ls⟩ g14 hQ ⟨Y,hR,ha,m1,gl,hS⟩;simp only[]at hR ha m1 gl hS;have hz14:=Y.size;have hz13:=hP.size;have gb:sW w9 hQ:=mz.Q Y oa;have ga:=m0.J Y z3;have kx:=h7.I gb;refine Qc<|Qs O hR O O<|QG (QM (L:=[]) ha oa od) rfl<|x (Z7 rfl rfl)<|xe<|Zn O (λh144=>?_) (λh144=>?_)
  ·refine Qf<|Qr<|QB O O<|Qa<|xe<|⟨(i+1,vx,qx),oe,La,h5,oe,V.D gb.any,ga,kx,oe,hZ,λq E=>?_⟩;obtain⟨⟨k,k1,k2⟩,h2⟩:=hM q E;exact⟨⟨k,oe,k2⟩,h2⟩
  have h145:(0:Int)<(ls.length:Int):=h144;have hxx:=QA ha;refine Qr<|Qs O ga O O<|QZ hR O O<|Qo<|Q7 [ZY ⟨nm,vl,ls⟩] λb148 hJ J hb148 hB148=>?_;refine Qo<|Q2 (news:=ZY ⟨nm,vl,ls⟩) (L:=[]) (Qm kx.own J) O O O (hB148.at od) (Qez hxx) oa (oq gb.size J.size) λkw hK gv U hn16=>?_;have hs1115:sW ho hJ:=(kv.Q Y z1).D J;have hM16:=(h7.I hB).app hs1115 (q:=⟨nm,vl,ls⟩) (λt ht=>by rw[Lb.1 ht];exact⟨↑hO,188,Qm ha J,by show ls.length<=_;omega,hz1113⟩) oa gv U hn16;have hgeX:=Qi kx.own;have n3x:G∉ob vx:=QJ kx.own oa;refine Q8 O<|Qo<|Qv ((ga.I J).J U n3x) O O od (QA gv) λm5 h0 hB317=>xe ?_;refine Qr<|QB O O<|Qa<|xe ?_;have kz:O4 [G] w8 hK:=((V.D gb.any).D J.any).O U (λb hb=>.inr (hgeX b hb).1);refine⟨(i+1,kw,qx++[⟨nm,vl,ls⟩]),oe,La,h5,oe,kz.V h0,hB317,hM16.low h0 (λb hb=>by rw[Lb.1 hb];omega),by simp only[oM,oL];omega,?_,λq E=>?_⟩
  ·simp only[List.map_append,oS,OC];rw[Mb];refine⟨hZ,od,λs hs s' hs' e=>?_⟩;obtain⟨q,E,rfl⟩:=Ly.1 hs;obtain⟨⟨k,k1,k2⟩,_⟩:=hM q E;have hk0:k=0:=oa
   have hi1:i=1:=oa
   rw[Lb.1 hs',k2,<-hH,hk0,hi1]at e;exact OV e og
  rcases Le.1 E with E|E
  ·obtain⟨⟨k,k1,k2⟩,h2⟩:=hM q E;exact⟨⟨k,oe,k2⟩,h2⟩
  rw[Lb.1 E];refine⟨⟨i,Nat.lt_succ_self _,hH.symm⟩,λe=>by rw[show ls=[] from e]at h145;exact OV h145 og,by show ls.length<=3;omega,QfE ls none (λb hb=>by cases hb) gl (λp I=>?_)⟩;rw[Lm];exact hS p I
 rintro⟨vx,qx⟩ g9 w9 ⟨V,hY,h7,ku,hZ,hM⟩;simp only[]at hY h7 ku hZ hM;have mh:=V.size;have hB19:=kg.J V mw;have g151:=Qh8 (l:=l) h.n 4;have hbd:=h.bd;have hbdb:=QeG l.bd (b:=8) og;refine Zd (l.bd.tmod 8) λbd hbde=>?_;rw[hbde]at hbdb;refine Qc<|Qs O hB19 O g151<|x (Yf (k':=.i64) O ⟨oa,oa⟩)<|x (QhX O O og)<|x (QC ⟨O,O,Z⟩)<|QS [.string .empty,Zo,sS 0] λb15 hh hw m7 m8 =>
  Qo<|Zu (us:=[.string ⟨#[107]⟩,Zo,sS bd]) m8 O (show Go.Lg.ev _ _=_ from OU (λn=>Value.agg #[.string ⟨#[107]⟩,Zo,sS n]) hbde) O O ox λho gi hB1511=>xe ?_
 have hB:sW w9 ho:=hw.Q gi m7;have hB111:=hB19.I hB;have hB311:=hY.I hB;have n115:b1∉[b15]:=ol
 have n315:G∉[b15]:=ol
 have hl15:=hB1511.lt;refine QV (α:=O1×xu) [(16,16),(157,179)] (λ_=>[]) (λz w'=>O4 [b15] ho w'/\QK ↑w' b15 191 [.string ⟨#[107]⟩,z.1,sS bd]/\w'.ownsRow ↑ho 193 2 z.1 z.2.length (z.2.flatMap Zg)/\z.2.length<=n/\z.2.Pairwise (λp q=>p.1<q.1)/\∀p∈z.2,0<=p.1/\p.1<(n:Int)/\-4<p.2/\p.2<4) oh ?_ ?_
 ·refine Ql<|Qa<|xe<|QX (α:=Nat×O1×xu) [(16,16),(158,179)] (λz=>[(158,sS z.1)])
   (λz w'=>z.1<=n/\O4 [b15] ho w'/\QK ↑w' b15 191 [.string ⟨#[107]⟩,z.2.1,sS bd]/\w'.ownsRow ↑ho 193 2 z.2.1 z.2.2.length (z.2.2.flatMap Zg)/\z.2.2.length<=z.1/\z.2.2.Pairwise (λp q=>p.1<q.1)/\∀p∈z.2.2,0<=p.1/\p.1<(z.1:Int)/\-4<p.2/\p.2<4)
   (λz=>n - z.1) (0,Zo,[]) La
   ⟨Lo _,O4.Y _ _,hB1511,QL _ _ _ _,Lp _,List.Pairwise.nil,λp I=>by cases I⟩ ?_
  rintro⟨i,vt,ts⟩ g12 gk ⟨hi,hf,hT,h4,ki,gm,hU⟩;simp only[]at hi hT h4 ki gm hU;refine Zi O O (λm9=>?_) (λm9=>?_)
  ·refine Qt ?_;have mc:i=n:=by have h160:¬(i:Int)<1+(cn:Int) % 3:=m9;omega
   rw[mc]at ki hU;exact⟨(vt,ts),Z,hf,hT,h4,ki,gm,hU⟩
  have h5:i<n:=by have h160:(i:Int)<1+(cn:Int) % 3:=m9;omega
  have hB112:=hB111.J hf n115;have qf:=QpP (l:=l) h.n (i:=i) oa;have qfb:=QpO h i oa;refine Zd (flk l i) λfk hfk=>?_;rw[hfk]at qf qfb;refine Qf<|Qe<|Qn<|Ql<|Qb<|Ql<|Q8 O<|x (ZR (i:=i) O O oa)<|ZA hB112 O qf<|ZL O O<|xe<|Zn O (λh165=>?_) (λh165=>?_)
  ·refine Qf<|Qr<|QB O O<|Qa<|xe ?_;exact⟨(i+1,vt,ts),oe,La,h5,hf,hT,h4,oe,gm,λp I=>by have:=hU p I;simp only[];omega⟩
  have hmd:=QeG fk (b:=4) og;have hd12:sW gk { gk with drawn:=gk.drawn+1 }:=O4.X _ _
  have hz12:=hf.size;have hgeT:=Qi h4;have hn15v:b15∉ob vt:=QJ h4 oa;have hn1v:b1∉ob vt:=QJ h4 oa;refine ZH (ob vt) (Xc 0 14 [10,11,13])<|p (QH O)<|pq (λ_ hc=>Qk (hT.J hc hn15v) O O)<|p Qy<|p Qy<|p (QH O)<|p (λ_=>ZR (i:=i) O O oa)<|pq (λ_ hc=>Qk (hB112.J hc hn1v) O qf)<|p (λ_=>Yf (k':=.i64) O ⟨oa,oa⟩) <|
   p (λ_=>QhX O O og)<|p (λ_=>QC ⟨O,O,Z⟩)<|pk<|Q7 [Zg ((i:Int),fk.tmod 4)] λb176 hO hP hb176 hB176=>?_
  have gx:=hd12.D hP;have hz1213:=gx.size;refine⟨gx.any,?_⟩;refine pk<|Q2 (news:=Zg ((i:Int),fk.tmod 4)) (L:=[]) (Qm h4 gx) O O O (hB176.at od) (Qe1 _) oa oa λv14 hQ ha Y hn14=>⟨(gx.any (L:=ob vt)).V Y,?_⟩;have hge14:∀b∈ob v14,↑ho<=b:=λb hb=>(Qi ha b hb).1;refine p (QH O)<|pkk<|Qv ((hT.I gx).J Y hn15v) O O od (QA ha) λhJ J m8=>pe ?_;refine Qr<|QB O O<|Qa<|xe<|⟨(i+1,v14,ts++[((i:Int),fk.tmod 4)]),oe,La,h5,((hf.D gx.any).O Y (λb hb=>.inr (hgeT b hb).1)).V J,m8,?_,by simp only[oM,oL];omega,?_,λp I=>?_⟩
  ·have h9:=Qg ha J (λb hb=>by have:=hge14 b hb;simp only[oF];omega);simp only[oM,List.flatMap_append];simpa using h9
  ·simp only[];rw[Mg];exact⟨gm,M5 _ _,λp I p' m6=>by rw[Lb.1 m6];have:=hU p I;simp only[];omega⟩
  simp only[]at I ⊢;rcases Le.1 I with I|I
  ·have:=hU p I;omega
  rw[Lb.1 I];simp only[];omega
 rintro⟨vt,ts⟩ g12 gk ⟨hf,hT,h4,ki,gm,hU⟩;simp only[]at hT h4 ki gm hU;have hz12:=hf.size;have hgT:=Qi h4;refine Qc<|Qs O hT O O<|Qw<|(Qmt h4 oa).S ?_;rintro vu hO ⟨hP,k0⟩;have hup:(nzT ts).Pairwise (λp q=>p.1<q.1):=List.Pairwise.filter _ gm;have hul:=LJ (λp:Int×Int=>!decide (p.2=0)) ts;have hub:∀p∈nzT ts,0<=p.1/\p.1<(n:Int)/\p.2≠0/\-65536<=p.2/\p.2<=65536:=λp I=>by
  have h1:=LQ.1 I;have h2:=hU p h1.1;have h3:¬p.2=0:=by simpa using h1.2
  omega
 refine Zd (nzT ts) λus hus=>?_;have hul':us.length<=3:=by rw[<-hus];exact Lx hul oa
 rw[hus]at k0 hup hub;have n15t:b15∉ob vt:=QJ h4 oa;refine Q8 rfl<|Qo<|Qv (hT.J hP n15t) O O od (QA k0) λhQ Y hB1514=>xe ?_;have gb:sW w9 hQ:=(((hB.Q hf m7).O hP (λb hb=>.inr (oo (hgT b hb).1)))).Q Y m7;have hz13:=hP.size;have hz14:=Y.size;have hgU:=Qi k0;have ha:=Qg k0 Y (λb hb=>by have:=(hgU b hb).1;simp only[oF];omega);have ga:=hY.I gb;refine QV (α:=O1×List KV) [(184,190)] (λ_=>[]) (λz w'=>O4 [G] hQ w'/\QK ↑w' G 46 [ve,vc,vr,vx,z.1]/\z.2.length<=1/\(∀q∈z.2,q.nm=⟨#[107]⟩/\Xw (co.map (·.p.a.st)) q.k=0)/\∀L:LN,(∀b∈L,b<↑w6)->yF L ↑w' z.1 z.2) oh ?_ ?_
 ·refine Qc<|Qs O hB1514 O O<|QG (QM (L:=[]) ha oa od) rfl<|x (Z7 rfl rfl)<|xe<|Zn O (λh187=>?_) (λh187=>?_)
  ·refine Qf ?_;exact⟨(Zo,[]),Z,O4.Y _ _,ga,og,λq E=>(by cases E),λL _=>⟨Zr.nil _ _ 3,λq E=>(by cases E),λq E=>(by cases E)⟩⟩
  refine Qr<|QZ hB1514 O O<|Qo<|Q7 [Yi ⟨⟨#[107]⟩,vu,us,bd⟩] λb189 hJ J hb189 hB189=>?_;refine Q8 O<|Qo<|Qv (ga.I J) O O od rfl λhK U hX=>xe ?_;refine⟨(_,[⟨⟨#[107]⟩,vu,us,bd⟩]),Z,J.any.V U,hX,Lp _,λq E=>?_,λL hL=>?_⟩
  ·rw[Lb.1 E];refine⟨rfl,?_⟩;have hgr0:grt bd=false:=by unfold grt;rw[OY oa,OY oa];rfl
   have hct:=QfD (sz:=co.map (·.p.a.st)) us none (λb hb=>by cases hb) hup (λp I=>by rw[Lm,g0];exact hub p I);show Xw _ ⟨_,us,bd⟩=0;unfold Xw;rw[OS oe,OS (by rw[hct];decide),OS (by simp only[];rw[hgr0];decide)]
  have k4:∀b∈G::L,b<ho.heap.size:=λb hb=>by
   rcases Ln.1 hb with rfl|hb
   ·omega
   have:=hL b hb;omega
  have h1:yF (G::L) ↑hJ (sL b189 1 1) [⟨⟨#[107]⟩,vu,us,bd⟩]:=by
   refine⟨hB189.arr (λhb=>oo (k4 _ hb)) O og (Lp _),λq E=>?_,λq E=>?_⟩
   ·rw[Lb.1 E];exact(QM (L:=G::L) ha oa (λb hb kj=>oq (hgU b hb).1 (k4 b kj))).I J
   rw[Lb.1 E];exact Jg og
  exact(h1.st (U.S od)).up (λb hb=>.inl (Lj _ hb))
 rintro⟨vk,ks⟩ g16 hK ⟨U,hX,hj,hgk,pc⟩;simp only[]at hX hj hgk pc;have hge3:=Qi gn;have hlt3:=QU gn;have kz:O4 [G] w8 hK:=(V.D gb.any).V U;have hs716:O4 [G] w7 hK:=hg.V kz;have pd:O4 [G,b4] w6 hK:=hC.V (hs716.S od);have pf:∀b∈[G],b<w6.heap.size:=λb hb=>by rw[Lb.1 hb];omega
 have hE16:=Qg (Qm gn p4) pd (λb hb hm=>by have:=hlt3 b hb;simp only[oK,oH,or_false]at hm;omega);have hC16:=hv.low hs716 pf;have hR16:=hE.low kz (λb hb=>oo (pf b hb));have hX16:=(h7.I gb).low U (λb hb=>oo (pf b hb));have n23:b2∉[G]:=ol
 have n234:b2∉[G,b4]:=by simp only[oK,oH,or_false];omega
 have hB216:=(pn.I gz).J pd n234;refine Qc<|QZ hX O O<|Q5 [ve,vc,vr,vx,vk] hB216 ⟨QA hE16,QA hC16.c,QA hR16.c,QA hX16.own,(pc [] od).arr.one,Z⟩ λm5 h0 hB217=>xe ?_;have pg:∀b∈[b2],b<w6.heap.size:=λb hb=>by rw[Lb.1 hb];omega
 have lo2':∀b∈[b2],b<w2.heap.size:=λb hb=>by rw[Lb.1 hb];omega
 have hE17:=Qg hE16 h0 (λb hb hm=>oq (hge3 b hb).1 (lo2' b hm));have hC17:=hC16.low h0 pg;have hR17:=hR16.low h0 (λb hb=>oo (pg b hb));have ph:=hX16.low h0 (λb hb=>oo (pg b hb));have hs017:sW w m5:=((po.D gz).O pd (λb hb=>.inr (by simp only[oK,oH,or_false]at hb;omega))).Q h0 oa;have hcon:∀q∈co,yJ q.nm:=λq E=>by
  obtain⟨k,S,rfl⟩:=LP E;rw[(hV k S).nm];exact US 99 k
 have hrqn:∀q∈rq,yJ q.nm:=λq E=>by
  obtain⟨k,S,rfl⟩:=LP E;rw[(h8 k S).1.nm];exact US 114 k
 have hxnm:∀q∈qx,yJ q.nm:=λq E=>by
  obtain⟨⟨k,_,k2⟩,_⟩:=hM q E;rw[k2];exact US 101 k
 have hevn:∀e∈ev,yJ e.nm:=λe T=>QjB _ e (by rw[kn];exact T);have hevl:ev.length=5:=by rw[<-kn];exact Vi _ _
 refine Qj ⟨[.agg #[ve,vc,vr,vx,vk]],⟨JA hB217,Z⟩,hs017,⟨ev,co.map IV.it,rq.map IV.it,qx.map XV.x,ks.map KV.k⟩,⟨⟨ve,vc,vr,vx,vk,ev,co,rq,qx,ks⟩,O,O,λL hL=>?_⟩,?_⟩
 ·have k4:∀b∈L,b<w2.heap.size:=λb hb=>oo (hL b hb)
  have hLn:b2∉L:=λhm=>oo (hL b2 hm)
  have kk:∀b∈b2::L,b<w6.heap.size:=λb hb=>by
   rcases Ln.1 hb with rfl|hb
   ·omega
   have:=hL b hb;omega
  refine⟨⟨QM hE17 (by show ev.length<=_;omega) (λb hb kj=>oq (hge3 b hb).1 (k4 b kj)),hevn⟩,hC17.itms oa hcon (λb hb=>oo (kk b (Lj _ hb))),hR17.itms oa hrqn (λb hb=>oo (kk b (Lj _ hb))),⟨QM ph.own (by show qx.length<=_;omega) (λb hb kj=>oq (Qi ph.own b hb).1 (kk b (Lj _ kj))),λq E=>?_,hxnm⟩,?_⟩
  ·exact ph.each q E _ (Lb.2 O) L (λb hb=>.inl (oo (kk b (Lj _ hb))))
  exact((pc (b2::L) kk).st (h0.S od)).up (λb hb=>.inl (Lj _ hb))
 rw[<-kn];exact QoP oa oa hV gq oa h8 ku hZ hM hj hgk
structure yU (base:Nat)(w:O0)(vc va:O1)(co:List IV)(al:List Vl):Prop where
 c:w.ownsRow base 81 5 vc co.length (co.flatMap Zm)
 a:w.ownsRow base 94 5 va al.length (al.flatMap Zv)
 dj:Dj vc va
 each:∀q∈co,∀t∈Qgs q,YC base (ob vc++ob va) ↑w t.1 t.2.1 t.2.2.1 t.2.2.2
section
variable {vc vc' va':O1}{co:List IV}{al:List Vl}
theorem yU.nil:yU base w (nS) (nS) [] []:=⟨QL _ _ _ _,QL _ _ _ _,Dj.nil _,λq E=>by cases E⟩
theorem yU.I (h:yU base w vc va co al)(E:sW w w'):yU base w' vc va co al:=⟨Qm h.c E,Qm h.a E,h.dj,λq G t I=>(h.each q G t I).I E⟩
theorem yU.low {X:LN}(h:yU base w vc va co al)(E:O4 X w w')(hX:∀b∈X,b<base):yU base w' vc va co al :=
 ⟨Qg h.c E (λb hb G=>oq (Qi h.c b hb).1 (hX b G)),Qg h.a E (λb hb G=>oq (Qi h.a b hb).1 (hX b G)),h.dj,λq I t J=>(h.each q I t J).low E hX⟩
theorem yU.avlt (h:yU base w vc va co al):∀b∈ob vc++ob va,b<w.heap.size:=λb hb=>(Le.1 hb).elim (QU h.c b) (QU h.a b)
theorem yU.setC {q:IV}(h:yU base w vc va co al)(V:∀t∈Qgs q,YC base (ob vc++ob va) ↑w t.1 t.2.1 t.2.2.1 t.2.2.2)(Y:w'.ownsRow base 81 5 vc' (co.length+1) (co.flatMap Zm++Zm q))
  (E:O4 (ob vc) w w') (G:∀b∈ob vc',b∈ob vc\/↑w<=b):yU base w' vc' va (co++[q]) al:=by
 have I:O4 (ob vc++ob va) w w':=E.S (λb hb=>Le.2 (.inl hb));have J:∀b∈ob vc'++ob va,b∈ob vc++ob va\/↑w<=b:=λb hb=>by
  rcases Le.1 hb with hb|hb
  ·exact(G b hb).imp (λh=>Le.2 (.inl h)) id
  exact .inl (Le.2 (.inr hb))
 refine⟨?_,Qg h.a E (λb hb ha=>h.dj b ha hb),λb hb S=>?_,λd hd t T=>?_⟩
 ·rw[Lc,LD];simpa using Y
 ·rcases G b hb with U|U
  ·exact h.dj b U S
  have:=QU h.a b S;omega
 rcases Le.1 hd with hd|hd
 ·exact(h.each d hd t T).app I J
 simp only[oF]at hd;subst hd;exact(V t T).app I J
theorem yU.setA {E:List Vl}(h:yU base w vc va co al)(T:w'.ownsRow base 94 5 va' E.length (E.flatMap Zv))(I:O4 (ob va) w w')(J:∀b∈ob va',b∈ob va\/↑w<=b):yU base w' vc va' co E:=by
 have U:O4 (ob vc++ob va) w w':=I.S (λb hb=>Le.2 (.inr hb));have V:∀b∈ob vc++ob va',b∈ob vc++ob va\/↑w<=b:=λb hb=>by
  rcases Le.1 hb with hb|hb
  ·exact .inl (Le.2 (.inl hb))
  exact(J b hb).imp (λh=>Le.2 (.inr h)) id
 refine⟨Qg h.c I (λb hb G=>h.dj b hb G),T,λb hb G=>?_,λd hd t Y=>(h.each d hd t Y).app U V⟩;rcases J b G with S|S
 ·exact h.dj b hb S
 have:=QU h.c b hb;omega
theorem yU.itms (h:yU base w vc va co al)(I:co.length<=1099511627776)(J:∀q∈co,yJ q.nm)(E:∀b∈L,b<base):Va L ↑w vc co :=
 ⟨QM h.c I (λb hb S=>oq (Qi h.c b hb).1 (E b S)),λq G=>⟨h.each q G (q.p.va,q.p.a.al.length,1,q.p.a.al.map (.int .i64)) od L (λb hb=>.inl (E b hb)),h.each q G (q.p.vm,q.p.a.mr.length,1,q.p.a.mr.map (.int .i64)) od L (λb hb=>.inl (E b hb)),h.each q G (q.p.ve,q.p.a.ed.length,3,q.p.a.ed.flatMap Qp) od L (λb hb=>.inl (E b hb))⟩,J⟩
end
def mzA (s f:Int):Qz:=⟨[s,f],2,[0],[(0,s,1),(1,f,0)]⟩
theorem Qes (nm:ByteArray)(s f:Int)(w:O0):QT sV 243 [.string nm,sS s,sS f] w λr w'=>sW w w'/\∃xa xm xe,r=.agg #[.string nm,xa,sS 2,xm,xe]/\ZK [xa,xm,xe]/\∀L:LN,(∀b∈L,b<↑w)->Zp L ↑w' xa xm xe (mzA s f):=by
 refine Zk func243 ?_;refine Qc<|QS [.string .empty,nS,sS 0,nS,nS] λb6 w1 ha hc J=>xe ?_;have he:=J.lt;refine Ql<|Qa<|Qo<|Q7 [[sS s],[sS f]] λb10 w2 S hs hf=>Qo<|Q7 [[sS 0]] λb11 w3 E ht hg =>
  Qa<|x (QC ⟨O,O,O,Z⟩)<|Qa<|x (QC ⟨O,O,O,Z⟩)<|Qo<|Q7 [Qp (0,s,1),Qp (1,f,0)] λb16 T G hu hh=>?_
 have U:=(S.D E).D G;have hj:=ha.D U;have hv:=S.size;have hw:=E.size;have hF:Xb ↑w1 ↑T (.agg #[sL b10 2 2,sS 2,sL b11 1 1,sL b16 2 2]) (mzA s f):=
  j6 (a:=mzA s f) ((hf.I E).I G) (hg.I G) hh oa oa oa O O O og og og
 refine x (QC ⟨O,O,O,O,Z⟩)<|QS qz λb7 w5 hk hm hn=>Q5 [sL b10 2 2,sS 2,sL b11 1 1,sL b16 2 2] hn oy λw6 ho hp=>xe ?_;have I:sW T w6:=hk.Q ho hm;refine Ql<|QZ hp O O<|x (Zw [(0,[.string nm]),(1,[sL b10 2 2,sS 2,sL b11 1 1,sL b16 2 2])] ⟨O,O,O,O,Z⟩) <|
  Q5 [.string nm,sL b10 2 2,sS 2,sL b11 1 1,sL b16 2 2] ((J.I U).I I) ⟨O,O,O,O,O,Z⟩ λw7 V hq=>xe ?_
 obtain⟨xa,xm,hy,hr,hA⟩:=hF;have Y:=OU (λv=>match v with|Value.agg cs=>cs.toList|_=>[]) hr
 simp only[List.cons.injEq,and_true]at Y;obtain⟨rfl,_,rfl,rfl⟩:=Y;refine Qj ⟨[.agg #[.string nm,sL b10 2 2,sS 2,sL b11 1 1,sL b16 2 2]],⟨JA hq,Z⟩,(hj.D I).Q V hc,_,_,_,O,ox,λL hL=>?_⟩;have h1:=(hA (b6::L) (λb hb=>by
  rcases Ln.1 hb with rfl|hb
  ·exact he
  have:=hL b hb;omega)).I I
 exact(h1.st (V.S od)).up (λb hb=>.inl (Lj _ hb))
def nmZ (p:Array UInt8)(i:Nat):ByteArray:=⟨p⟩++⟨#[UInt8.ofNat (97+i)]⟩
abbrev Qii:Array UInt8:=#[115,116,97,114,116]
abbrev QeZ:Array UInt8:=#[102,105,110,105,115,104]
abbrev Jq:Array UInt8:=#[109,97,99,104,105,110,101]
def Qb5 (i:Nat):List Vl:=[⟨nmZ Qii i,true,true,false,0⟩,⟨nmZ QeZ i,false,true,false,0⟩]
def mzE (c:Nat):List Vl:=(oJ c).flatMap Qb5
def Qp0 (i:Nat):Jj:=⟨nmZ Jq i,mzA (2*(i:Int)) (2*(i:Int)+1)⟩
def mzC (c:Nat):Z6:=⟨mzE c,(oJ c).map Qp0,[],[],[]⟩
theorem UR (p:Array UInt8)(i:Nat)(h:p.size<=10):yJ (nmZ p i):=by
 show(ByteArray.mk _++ByteArray.mk _).size<=_;rw[ByteArray.size_append];show p.size+1<=_;omega
theorem Qn7 (c:Nat):∀e∈mzE c,yJ e.nm:=λe E=>by
 unfold mzE at E;obtain⟨i,_,hi⟩:=Md.1 E;simp only[Qb5,oK,oH,or_false]at hi;rcases hi with rfl|rfl
 ·exact UR _ _ og
 exact UR _ _ og
theorem Qb6 (c:Nat):mzE (c+1)=mzE c++Qb5 c:=by unfold mzE;rw[Nf,LD];simp
theorem Qfa:∀c,(mzE c).length=2*c
 | 0=>rfl
 | c+1=>by rw[Qb6,Lc,Qfa c];show 2*c+2=_;omega
theorem Qgl (i:Nat):∀u∈(Qb5 i).flatMap Zv,u.oneCell'=true:=λu E=>by
 obtain⟨e,_,G⟩:=Md.1 E;exact Qcp e u G
theorem JP (c:Nat)(hW:c<=4)(w:O0):QT sV 182 [sS c] w λr w'=>sW w w'/\Qm3 ↑w ↑w' r (mzC c):=by
 refine Zk func182 ?_;refine Qc<|QS KR λb2 w1 hE hX hv=>xe ?_;refine Qc<|QS KR λJ S hw hY hy=>xe ?_;have hZ:=hv.lt;have hj:=hy.lt;refine Qe<|Ql<|Qa<|xe<|QX (α:=Nat×O1×List Vl×O1×List IV) [(4,4),(6,42)] (λz=>[(6,sS z.1)])
  (λz w'=>z.1<=c/\O4 [J] S w'/\QK ↑w' J 46 [z.2.1,z.2.2.2.1,Zo,Zo,Zo]/\yU ↑S w' z.2.2.2.1 z.2.1 z.2.2.2.2 z.2.2.1/\z.2.2.1=mzE z.1/\z.2.2.2.2.map IV.it=(oJ z.1).map Qp0/\∀q∈z.2.2.2.2,yJ q.nm)
  (λz=>c - z.1) (0,Zo,[],Zo,[]) La ⟨Lo _,O4.Y _ _,hy,yU.nil,O,O,λq E=>by cases E⟩ ?_
 rintro⟨i,ve,ev,vc,co⟩ g3 w3 ⟨hi,ha,hf,G,T,U,hk⟩;simp only[]at hi hf G T U hk;have ga:=ha.size;have gb:ev.length=2*i:=by rw[T];exact Qfa i
 have gc:co.length=i:=by have:=OU oV U;simpa using this
 refine Zi rfl O (λh7=>?_) (λh7=>?_)
 ·refine Qt ?_;have hF:i=c:=by have h8:¬(i:Int)<(c:Int):=h7;omega
  rw[hF]at T U;have hG:b2∉[J]:=ol
  have hm:=(hv.I hw).J ha hG;refine Qc<|QZ hf O O<|Q5 [ve,vc,Zo,Zo,Zo] hm ⟨QA G.a,QA G.c,O,O,O,Z⟩ λw4 I hH=>xe ?_;have hI:∀b∈[b2],b<S.heap.size:=λb hb=>by rw[Lb.1 hb];omega
  have hn:=G.low I hI;refine Qj ⟨[.agg #[ve,vc,Zo,Zo,Zo]],⟨JA hH,Z⟩,((hE.D hw).Q ha oa).Q I oa,⟨ve,vc,Zo,Zo,Zo,ev,co,[],[],[]⟩,O,?_,λL hL=>?_⟩
  ·show(⟨ev,co.map IV.it,[],[],[]⟩:Z6)=mzC c;rw[T,U];rfl
  have hz:∀b∈L,b<S.heap.size:=λb hb=>oo (hL b hb)
  exact⟨⟨QM hn.a (by show ev.length<=_;omega) (λb hb hJ=>oq (Qi hn.a b hb).1 (hz b hJ)),λe he=>Qn7 c e (by rw[<-T];exact he)⟩,hn.itms oa hk hz,⟨Zr.nil _ _ 5,λq E=>(by cases E),λq E=>(by cases E)⟩,⟨Zr.nil _ _ 2,λq E=>(by cases E),λq E=>(by cases E)⟩,⟨Zr.nil _ _ 3,λq E=>(by cases E),λq E=>(by cases E)⟩⟩
 have hK:i<c:=by have h8:(i:Int)<(c:Int):=h7;omega
 have hu:(97:Int)+(i:Int)=((97+i:Nat):Int):=oa
 refine Qf<|Qe<|Qn<|Ql<|Qb<|Qc<|Qs O hf O O<|Qa<|QB O O<|x (Yf (k':=.i32) O ⟨oa,oa⟩)<|x (UJ (n:=97+i) (OU (Value.int .i32) hu) oa)<|x (YG (a:=⟨Qii⟩) (b:=⟨#[UInt8.ofNat (97+i)]⟩) O O (by show 5+1<=1000000000;omega))<|x (QC ⟨O,O,O,Z⟩) <|
  Qa<|QB rfl O<|x (Yf (k':=.i32) O ⟨oa,oa⟩)<|x (UJ (n:=97+i) (OU (Value.int .i32) hu) oa)<|x (YG (a:=⟨QeZ⟩) (b:=⟨#[UInt8.ofNat (97+i)]⟩) O O (by show 6+1<=1000000000;omega))<|x (QC ⟨O,O,Z⟩) <|
  Qo<|Q7 ((Qb5 i).map Zv) λge w4 I gg hm=>?_
 have gh:=I.size;have hM:J∉ob ve:=QJ G.a hj;have h0:J∉ob vc:=QJ G.c hj;have hN:=Qi G.c;refine Qo<|Q2 (m:=2) (news:=(Qb5 i).flatMap Zv) (L:=[]) (Qm G.a I) O O O (hm.at od) (Qgl i) oa oa λho w5 h1 hp hO=>?_;refine Q8 rfl<|Qo<|Qv (j:=0) (u:=ho) ((hf.I I).J hp hM) O O od (QA h1) λV h2 h3=>xe ?_;have hP:yU ↑S w5 vc ho co (ev++Qb5 i):=(G.I I).setA (by rw[Lc,LD];exact h1) hp hO;have h4:∀b∈[J],b<S.heap.size:=λb hb=>by rw[Lb.1 hb];exact hj
 have h5:=hP.low h2 h4;have h6:O4 [J] S V:=((ha.D I.any).O hp (λb hb=>.inr ((Qi G.a) b hb).1)).V h2;have gi:=h6.size;have hQ:sW V { V with drawn:=V.drawn+1 }:=O4.X _ _
 refine ZH (ob vc) (Xc 0 17 [12,13,14,16])<|p (QH O)<|pq (λ_ hc=>Qk (h3.J hc h0) O O)<|p Qy<|p (λ_=>Xm O O ⟨oa,oa⟩)<|p (λ_=>Yf (k':=.i32) O ⟨oa,oa⟩)<|p (λ_=>UJ (n:=97+i) (OU (Value.int .i32) hu) oa) <|
  p (λ_=>YG (a:=⟨Jq⟩) (b:=⟨#[UInt8.ofNat (97+i)]⟩) O O (by show 7+1<=1000000000;omega))<|p Qy<|p (λ_=>QeU O O ⟨oa,oa⟩)<|p Qy<|p (λ_=>QeU O O ⟨oa,oa⟩)<|p (λ_=>Xm O O ⟨oa,oa⟩) <|
  pk<|xg<|(Qes (nmZ Jq i) (2*(i:Int)) (2*(i:Int)+1) _).S ?_
 rintro r7 w7 ⟨hR,xa,xm,hg,rfl,hr,hA⟩;have hs:=hQ.D hR;refine⟨hs.any,?_⟩;refine pk<|Q7 [Zm ⟨nmZ Jq i,⟨xa,xm,hg,mzA (2*(i:Int)) (2*(i:Int)+1)⟩⟩] λgj w8 ht gk hS=>⟨(hs.D ht).any,?_⟩;have Y:=hs.D ht;have h9:=h5.I Y;refine pk<|Q2 (news:=Zm ⟨nmZ Jq i,⟨xa,xm,hg,mzA (2*(i:Int)) (2*(i:Int)+1)⟩⟩) (L:=[]) h9.c O O O (hS.at od) (QaN hr.1 hr.2.1 hr.2.2.1) oa (oo Y.size) λhB w9 hC hh hT=>⟨(Y.any (L:=ob vc)).V hh,?_⟩;have hU:=h9.setC (zR (q:=⟨nmZ Jq i,⟨xa,xm,hg,mzA (2*(i:Int)) (2*(i:Int)+1)⟩⟩) (N:=↑V) (λL hL=>(hA L hL).I ht) oa h5.avlt) hC hh hT;refine p (QH O)<|pkk<|Qv (j:=1) (u:=hB) ((h3.I Y).J hh h0) O O od (QA hC) λgl hD hV=>pe ?_;refine Qr<|QB O O<|Qa<|xe<|⟨(i+1,ho,ev++Qb5 i,hB,co++[⟨nmZ Jq i,⟨xa,xm,hg,mzA (2*(i:Int)) (2*(i:Int)+1)⟩⟩]),oe,La,hK,((h6.D Y.any).O hh (λb hb=>.inr (hN b hb).1)).V hD,hV,hU.low hD h4,?_,?_,λq E=>?_⟩
 ·simp only[];rw[Qb6,T]
 ·simp only[];rw[Lv,U,Nf,Lv];rfl
 rcases Le.1 E with E|E
 ·exact hk q E
 rw[Lb.1 E];exact UR _ _ og
instance skRsn:Sk sV 173 [0,0,0,0]:=⟨⟨_,underlying173,.int og O underlying3<|.int og O underlying3<|.int og O underlying3<|.int og O underlying3 .nil⟩,oc,oc⟩
theorem UX {v:O1}{l:List Rsn}(h:Zr L ↑w v l.length 4 (l.flatMap ZZ))(E:Zr L' ↑w v' l.length 4 (l.flatMap ZZ)):
  QT sV 184 [v,v'] w λr w'=>r=.bool true/\sW w w':=by
 haveI:DecidableEq Rsn:=λ_ _=>Classical.propDecidable _;exact(eqG ⟨_,O,func184⟩ QhO (ldA QhO) h E λ{_ _ _ _ _ _ _ _ _ a b} _ _ hx G=>(QbO (xs:=ZZ a) (ys:=ZZ b) O hx G).D (by cases a;cases b;simp[yd,eqV];rfl)).S λ_ _ ⟨I,J⟩=>⟨by rw[I];simp,J⟩
def V7:ByteArray:=⟨#[110,101,118,101,114]⟩
def QaB:ByteArray:=⟨#[98,111,116,104]⟩
def QaA:ByteArray:=⟨#[109,111,115,116]⟩
def QaP:Jj:=⟨V7,⟨[1],1,[0],[]⟩⟩
def QoF (i j:Int):Exc:=⟨QaB,[(i,1),(j,1)]⟩
def QoR:xJ:=⟨QaA,[(0,1),(1,1)],1⟩
def k1C:Z6:={ mzC 1 with rq:=[QaP] }
def k2C:Z6:={ mzC 2 with ex:=[QoF 0 1] }
def k3C:Z6:={ mzC 2 with cs:=[QoR] }
theorem Qqb:YL k1C=0:=oc
theorem Qqa:(spc k1C).fb=[⟨1,3,0,1⟩]:=oc
theorem Qng:(spc k1C).a.st=2:=oc
theorem Qol:QfC k1C=true:=oc
theorem Qom:cmB k1C=[2]:=oc
theorem Qrw:YL k2C=0:=oc
theorem Qp8:(spc k2C).fb=[⟨3,1,0,-1⟩]:=oc
theorem Qp7:(spc k2C).a.st=4:=oc
theorem Qrv:YL k3C=0:=oc
theorem Qp5:(spc k3C).fb=[⟨3,2,0,-1⟩]:=oc
theorem QfU {v:O1}(E:v.cells=#[v]):QT sV 282 [v] w λr w'=>sW w w'/\∃b,r=.func (.func 309) #[] #[sP b]/\↑w<=b/\QK ↑w' b 47 [v]:=by
 refine Zk func282 ?_;refine Qc<|Qo<|qe (us:=[v]) E λG T I J S=>Qb<|Qc<|x Zj<|Qb<|Qj ⟨[_],La,I,G,O,J,S⟩
theorem Qbp {S:Nat}{v:O1}{es:LI}(hc:QK ↑w S 47 [v])(hE:Qu L ↑w v es):
  SeqStopsK (fen none) m sV 309 #[sP S] (λx:Int=>#[sS x]) (Lw ↑w L) (λys=>ys=es) (λ_=>True) (es.length+1) w:=by
 intro l J Jx W hf hJ hg hY h0;have V:sW w W:=O4.of_below hf;have ho:=hE.le;have ab:∀{ys:LI} {W1 W2:O0},J ys W1->sW W1 W2->J ys W2:=λ{ys W1 W2} hj T=>hJ ys W1 W2 none hj ⟨T.os,T.tape,T.output,T.size,λk U _=>T.block k U od⟩ (λr e=>by cases e);have key:QT sV 309 [.func (.yield l) #[] #[],sP S] W (λ_ W'=>(∃ys,ys=es/\J ys W')\/(∃pre,True/\Jx pre W')):=by
  refine QT.of_G m func309 O ntmps309 results309 od ?_;refine QQ<|Qx oh oh<|ZA (hc.I V) O O<|QG (hE.I V) O<|Qa<|xe<|ZJ<|Kv (α:=Nat) [(4,4),(7,15)] (λk=>[(7,sS k)]) (λk ds W'=>ds=[]/\k<=es.length/\O4 L w W'/\J (es.take k) W') (λk=>es.length - k) oh 0 La
   ⟨O,Lo _,V.any,h0⟩ ?_
  rintro k g ds w1 ⟨rfl,U,ha,Y⟩;refine QQ<|Qx oh oh<|ZT O O<|xe<|QQ<|Ux O (λh8=>?_) (λh8=>?_)
  ·refine Jy ?_;have hh:es.length<=k:=by have h9:¬(k:Int)<(es.length:Int):=h8;omega
   rw[Lq hh]at Y;exact⟨λ_ h=>(by cases h),Ms,[],λW' E=>⟨Z,.inl ⟨es,rfl,ab Y E⟩⟩⟩
  refine Z8 ?_;have G:k<es.length:=by have h9:(k:Int)<(es.length:Int):=h8;omega
  have hm:es.take (k+1)=es.take k++[es[k]'G]:=Lh G;have hp:(es.take k).length=k:=by rw[LB];omega
  refine QQ<|ZJ<|QQ<|Qx oh oh<|xii (i:=k) (hE.st ha) O O G λa9 h9=>x (Qq h9 O)<|Qb<|QQ<|Kk oh ?_;refine Ji.pre2 ?_;refine Qa<|Qa<|xe<|xy (l:=l) O (hY (es.take k) (es[k]'G) w1 Y oa) λen W3 hn=>Or.elim hn (λI=>⟨.bool true,I.1,?_⟩) (λI=>⟨.bool false,I.1,?_⟩)
  ·refine Ji.of_XL<|x (Zl O)<|xe<|JR O<|Z8 ?_;refine Qx oh oh<|QB O O<|Qa<|xe ?_;exact⟨k+1,oa,La,O,G,ha.lw I.2.2,by rw[hm];exact I.2.1⟩
  refine Ji.of_XL<|x (Zl O)<|xe<|yG O ?_;refine JQ ⟨λ_ h=>(by cases h),Ms,[],λW' E=>⟨Z,.inr ⟨es.take k++[es[k]'G],Z,?_⟩⟩⟩;exact hg _ W3 W' none I.2 ⟨E.os,E.tape,E.output,E.size,λk U _=>E.block k U od⟩ (λr e=>by cases e)
 refine(callsIn_wide (n:=m)).2 ?_;have ea:(#[.func (.yield l) #[] #[]]++[sP S].toArray:Array O1)=#[.func (.yield l) #[] #[],sP S]:=od
 rw[ea];unfold QT at key;refine Calls.mono key λe w' he=>?_;cases e with
 | returned v=>exact⟨⟨v,O⟩,he⟩
 | panicked c=>exact he.elim
 | outgrown=>exact he.elim
theorem QgS {V:Nat}{v:O1}{es:LI}(hk:QK ↑w V 47 [v])(hE:Qu [] ↑w v es)(hl:es.length<=1000):
  QT sV 321 [Zo,.func (.func 309) #[] #[sP V]] w λr w'=>sW w w'/\Qh 3 ↑w w' r es:=by
 refine QT.of_G 20 func321 O ntmps321 results321 od ?_;refine QQ<|Qx oh oh<|Zc [Zo] λS w1 U he hf=>Qb ?_;have hr:=U.size;have hs:=hf.lt;refine QQ<|QQ<|Qx oh oh<|Qa<|xe<|ZJ<|QfS (α:=Int) [S] oa (capt:=[sP V]) O (enc:=λx=>sS x) og
  (Qbp (hk.I U) ((hE.up (L':=[S]) (λb hb=>.inr (by rw[Lb.1 hb];exact he))).I U))
  (λpre W=>∃vo,O4 [S] w1 W/\QK ↑W S 47 [vo]/\Qh 3 ↑w1 W vo pre)
  (λpre=>Yc.ex λvo=>(Yc.J (Lp _)).and (Yc.blk.and Yc.row))
  ⟨Zo,O4.Y _ _,hf,QL _ _ _ _⟩
  (λf x Y W=>Y=upd (upd f 7 (sS x)) 5 (sS x)) (λx Y=>Yc.pure _) ?_ ?_ ?_
 ·rintro l pre e W ⟨vo,J,I,E⟩;refine Qx oh oh<|Qb<|⟨O,XQ.refl _ _ _,⟨vo,J,I,E⟩,O⟩
 ·rintro l pre e Y W ⟨vo,J,I,E⟩ rfl hN;have hg:S∉ob vo:=QJ E oa;have hge:=Qi E;have hn:=J.size;refine ZJ<|Qx oh oh<|ZA I O O<|Qa<|Qo<|Q7 [[sS e]] λb10 w2 G ht ho=>?_;refine Qo<|Q2 (m:=1) (news:=[sS e]) (Qm E G) O O O (ho.at (L:=[]) od) om oa (oo G.size) λv3 w3 ha T hu=>?_;refine Qo<|Qv (u:=v3) ((I.I G).J T hg) O O od (QA ha) λw4 hc hp=>xe ?_;have hv:=G.size;refine⟨((XQ.I G hn).D (XQ.J T oa (λb hb=>⟨.inr (hge b hb).1,Go.Lg.Q6 (Qm E G) b hb⟩))).D (XQ.blk hc (oo T.size) ((I.I G).J T hg) (.inl Lk)),v3,((J.D G.any).O T (λb hb=>.inr (hge b hb).1)).V hc,hp,?_⟩;exact Qh.snoc (Qg ha hc (λb hb=>by have:=(Qi ha b hb).1;simp only[oF];omega))
 rintro D xs W hD rfl ⟨vo,J,I,E⟩ hh;refine QQ<|Qx oh oh<|ZA I O O<|Qb<|JQ ⟨λD' hq=>by rw[Lb.1 hq];exact hh,M5 _ _,[vo],λW' hj=>⟨La,(U.Q J he).O hj (λb hb=>.inr (by rw[Lb.1 hb];omega)),?_⟩⟩;refine Q9 (Qg E hj (λb hb hm=>?_)) oa;rw[Lb.1 hm]at hb;obtain⟨o,h1,h2⟩:=Go.Lg.Q6 E _ hb;rw[hh]at h1;cases h1
 cases h2
theorem Qd5 {v:O1}{es:LI}(G:QK ↑w E 47 [v])(hE:Qu [] ↑w v es)(hl:es.length<=1000):
  QT sV 308 [.func (.func 309) #[] #[sP E]] w λr w'=>sW w w'/\Qh 3 ↑w w' r es:=by
 refine Zk func308 ?_;refine Qc<|Qb<|Ql<|Qw<|(QgS G hE hl).S ?_;rintro I T ⟨J,S⟩;refine Qb<|Qj ⟨[I],La,J,S⟩
theorem Qf0 {v:O1}{es:LI}(I:QK ↑w E 47 [v])(hE:Qu [] ↑w v es)(hl:es.length<=1000):
  QT sV 281 [.func (.func 309) #[] #[sP E]] w λr w'=>sW w w'/\Qh 3 ↑w w' r (es.mergeSort λx y=>decide (x<=y)):=by
 refine Zk func281 ?_;refine Qc<|Qb<|Ql<|Qw<|(Qd5 I hE hl).S ?_;rintro J V ⟨S,G⟩;refine Qb<|Ql<|Qw<|(JZ G oa).S ?_;rintro r2 Y ⟨T,U⟩;refine xe<|Ql<|Qb<|Qj ⟨[J],La,S.O T (λb hb=>.inr (Qi G b hb).1),U⟩
theorem Qfn {n:Int}:∀{l:LI}(i:Nat),n∈l->fix (λe=>decide (n=e)) i l=((i+l.idxOf n:Nat):Int)
 | a::l,i,h=>by
  rw[Yz,List.idxOf_cons];by_cases e:n=a
  ·simp[e]
  rw[OS (ou e),show(a == n)=false by simpa using Ne.symm e,Qfn (i+1) ((Ln.1 h).resolve_left e)];simp only[cond_false];omega
theorem Qow {v:O1}(h:Qu L ↑w v l){n:Int}(E:n∈l):
  QT sV 139 [v,sS n] w λr w'=>w'=w/\r=sS (l.idxOf n:Nat):=
 (jC h n).S λ_ _ ⟨G,I⟩=>⟨G,by rw[I,Qfn 0 E,LU]⟩
def rlE (a:Qz)(to:LI):List Ed:=a.ed.map λe=>(e.1,O5 to (a.al.idxOf e.2.1),e.2.2)
theorem Qel {to sa:LI}{se:List Ed}(h:Zp [] ↑w va vm ve a)(hck:X2 a=0)(ho:QY a)(ht:Qu [] ↑w vt to)(hD:to.length=a.al.length)(hM:∀e∈to,0<=e/\e<32)(gy:to.Nodup)
  (hN:to.mergeSort (λx y=>decide (x<=y))=sa) (gz:∀l',l'.Perm (rlE a to)->l'.Pairwise Qcw->l'=se) (hok:QY ⟨sa,a.st,a.mr,se⟩):
  QT sV 250 [.agg #[va,sS a.st,vm,ve],vt] w λr w'=>sW w w'/\∃v,r=.tuple #[v,sS 0]/\Xb ↑w ↑w' v (Xs ⟨sa,a.st,a.mr,se⟩):=by
 have k9:=ho.st0;have ma:=ho.st1;have mc:=ho.al_le;refine Zk func250 ?_;refine Qc<|Zc [va,sS a.st,vm,ve] λb2 w1 hO mf g0=>QS qz λb4 w2 hP mg hQ=>Qb ?_;have hR:=hO.D hP;have mh:=hO.size;have mj:=hQ.lt;have hS:=g0.I hP;refine Qe<|Qc<|QZ hS O O<|Qw<|(Y2 (h.I hR)).S ?_;rintro r3 w3 ⟨hT,hz⟩;rw[hck]at hT;subst hT;have hE:=hR.D hz;have mo:=hz.size;have hf:=hS.I hz;refine Qb<|Ql<|ZL O O<|xe<|Zz rfl<|Qf ?_;have h0:=h.I hE;have V:=ht.I hE;refine Qe<|Ql<|QG V O<|Qs O hf O O<|QG h0.al O<|ZL O O<|xe<|Zf rfl (λhU=>OV (OU (λm:Nat=>(m:Int)) hD) hU) (λhU=>?_);refine Qf<|QV (α:=Unit) [(5,5),(7,8),(25,47)] (λ_=>[]) (λ_ w'=>w'=w3) oh ?_ ?_
 ·refine Ql<|QG V O<|Qa<|xe<|QX (α:=Nat) [(5,5),(7,8),(27,47)] (λk=>[(27,sS k)]) (λk w'=>w'=w3/\k<=to.length) (λk=>to.length - k) 0 La ⟨O,Lo _⟩ ?_;rintro k g w' ⟨rfl,hk⟩;refine Zi O O (λhV=>?_) (λhV=>?_)
  ·refine Qt ?_;exact⟨(),Z,O⟩
  have I:k<to.length:=by have mq:(k:Int)<(to.length:Int):=hV;omega
  have g2:=hM _ (Ll I);have hW:(to[k]'I)∉to.take k:=λhm=>by
   obtain⟨j,hj,hX⟩:=LP hm;rw[M7]at hX;have g3:j<k:=by rw[LB]at hj;omega
   have:=(Mi.1 gy) j k oa I g3;exact this hX
  refine Zd (to[k]'I) λe U=>?_;rw[U]at g2 hW;refine Qf<|Qe<|Qn<|Ql<|xii V O O I λms hY=>?_;rw[U]at hY;refine x (Qq hY O)<|x Qd<|Qb<|Qn<|Ql<|xb (Yy O O) (λhZ=>OV (show e<0 from hZ) oa) (λhZ=>?_);refine Qa<|Qa<|x (Yk O O)<|QE O<|Qb<|Zf O (λga=>OV (show e≥32 from ga) oa) (λga=>?_);refine Ql<|Qa<|Qnw V O O oa λg4 g5=>?_;have g6:Qu [] ↑w' g4 (to.take k):=by
   unfold Qu;have g7:(to.take k).length=k:=by rw[LB];omega
   rw[g7,List.map_take];simpa using g5
  refine Qa<|Qw<|(ZE g6 e).S ?_;rintro mt w' ⟨rfl,rfl⟩;refine Qb<|Zf O (λgb=>OV gb hW) (λgb=>?_);refine Qf<|Qr<|QB O O<|Qa<|xe ?_;exact⟨k+1,oa,La,O,I⟩
 rintro⟨⟩ g w' rfl;have g8:sW w' { w' with drawn:=w'.drawn+1 }:=O4.X _ _
 refine QV (α:=Nat×O1) [(9,9),(48,55)] (λz=>[(9,.pointer (some ⟨z.1,0,none⟩))]) (λz G=>sW w' G/\↑w'<=z.1/\QK ↑G z.1 53 [z.2,sS a.st,vm,nS]/\z.2.oneCell'=true/\∀L:LN,(∀b∈L,b<↑w'\/b=z.1)->Qu L ↑G z.2 sa) oh ?_ ?_
 ·refine Jv _ mixed oh (VM (α:=O1) (sW w') [oz 0,oz 3,oz 4,oz 5,oz 6] [oA 1,oA 2,oz 7] 8 9 [oA 9] [] [(48,55)] [(49,50),(55,55)] (λz=>[(55,.agg #[z,sS a.st,vm,nS])])
   (λz own G=>(∀b∈own,↑w'<=b)/\z.oneCell'=true/\∀L:LN,(∀b∈L,b∉own)->Qu L ↑G z sa)
   (λv G=>∃b,v=sP b/\↑w'<=b/\QK ↑G b 53 qz) oc oh O g8 od ?_ ?_ ?_ ?_)
  ·rintro v own wa wb ⟨b,rfl,hb,hB⟩ hs hn;exact⟨b,O,hb,hB.J hs (hn b (by simp[ow]))⟩
  ·rintro z own wa wb ⟨h1,Y,h3⟩ hs;exact⟨h1,Y,λL hL=>(h3 L hL).I hs⟩
  ·rintro z g own wz v ⟨i1,i2,i3⟩ g9 ⟨E,rfl,hg,h5⟩ ka;have gc:=(ka E (by simp[ow])).1;refine pkk<|UQ [z,sS a.st,vm,nS] h5 ⟨i2,O,h0.mr.one,O,Z⟩ λG ha kb=>pe ?_;refine⟨(E,z),La,g9.Q ha hg,hg,kb,i2,λL hL=>?_⟩;have h1:=i3 (E::L) (λb hb=>by
    rcases Ln.1 hb with rfl|hb
    ·exact gc
    rcases hL b hb with Y|Y
    ·exact λh3=>oo (i1 b h3)
    subst Y;exact gc)
   exact(h1.st (ha.S od)).up (λb hb=>.inl (by simp[hb]))
  refine Go.Lg.p Qy<|Go.Lg.p (QH O)<|pq (λ_ hc=>Qk (hf.I hc) O O)<|Go.Lg.p (QH O)<|pq (λ_ hc=>Qk (hf.I hc) O O) <|
   pe ⟨λg wf kc=>flA qz kc,?_⟩
  refine f2k λx1 p1 c1=>xg<|(QfU V.cells).S ?_;rintro mu y1 ⟨ge,mv,rfl,mw,hG⟩;refine⟨c1.D ge,rgB ↑x1 ↑y1,ge.any,λb hb=>.inr (V9.1 hb),?_⟩;refine f2k λx2 p2 c2=>xg<|(Qf0 (hG.I p2) (V.I c2) oa).S ?_;rintro ke y2 ⟨gg,hh⟩;rw[hN]at hh;refine⟨c2.D gg,rgB ↑x1 ↑y1++rgB ↑x2 ↑y2,gg.any,λb hb=>(Le.1 hb).imp id λhb=>V9.1 hb,?_⟩;refine f3p (λ_=>QC ⟨xK hh,O,h0.mr.cells,Z⟩)<|f2e ?_;refine⟨ke,La,λb hb=>?_,QA hh,λL hL=>?_⟩
  ·have e1:=c1.size;have e2:=c2.size;rcases Le.1 hb with hb|hb
   ·have:=V9.1 hb;omega
   have:=V9.1 hb;omega
  exact QM hh (by rw[<-hN,(Nc to _).length_eq];omega) (λb hb hm=>hL b hm (Le.2 (.inr (V9.2 (Qi hh b hb)))))
 rintro⟨E,vs⟩ g G ⟨ha,hg,h5,hvo,kf⟩;have gh:=h5.lt;have gi:=hf.I ha;have gj:∀b∈[E],b∈([]:LN)\/↑w'<=b:=λb hb=>.inr (by rw[Lb.1 hb];exact hg);have hq:Zp [E] ↑G va vm ve a:=(h0.up gj).I ha;have kg:Qu [E] ↑G vt to:=(V.up gj).I ha;have my:=hq.ed.le;have kh:b2∉[E]:=by have:=hf.lt;simp only[oF];omega
 have mz:b4∉[E]:=ol
 have ki:(rlE a to).length=a.ed.length:=by unfold rlE;rw[Lm]
 have kj:∀e∈rlE a to,(0<=e.1/\e.1<1099511627776)/\0<=e.2.1/\e.2.1<1099511627776:=λe U=>by
  unfold rlE at U;obtain⟨d,hd,rfl⟩:=Ly.1 U;have h1:=ho.ed d hd;have Y:a.al.idxOf d.2.1<to.length:=by rw[hD];exact Me h1.2.2.1
  have h3:=hM _ (Ll Y);have h4:=Zt Y;simp only[];omega
 refine QV (α:=O1) [(11,11),(56,78)] (λ_=>[]) (λz J=>O4 [E] G J/\QK ↑J E 53 [vs,sS a.st,vm,z]/\J.ownsRow ↑G 179 3 z (rlE a to).length ((rlE a to).flatMap Qp)) oh ?_ ?_
 ·refine Qc<|Qs O gi O O<|QG hq.ed O<|Qa<|xe<|QX (α:=Nat×O1) [(11,11),(59,78)] (λz=>[(59,sS z.1)]) (λz J=>z.1<=a.ed.length/\O4 [E] G J/\QK ↑J E 53 [vs,sS a.st,vm,z.2]/\J.ownsRow ↑G 179 3 z.2 z.1 (((rlE a to).take z.1).flatMap Qp)) (λz=>a.ed.length - z.1) (0,Zo) La ⟨Lo _,O4.Y _ _,h5,QL _ _ _ _⟩ ?_;rintro⟨k,vr⟩ g J ⟨hk,S,hr,T⟩;refine Zi O O (λhH=>?_) (λhH=>?_)
  ·refine Qt ?_;have kk:k=a.ed.length:=by have h6:¬(k:Int)<(a.ed.length:Int):=hH;omega
   rw[Lq oa,kk,<-ki]at T;exact⟨vr,Z,S,hr,T⟩
  have I:k<a.ed.length:=by have h6:(k:Int)<(a.ed.length:Int):=hH;omega
  have hI:=ho.ed _ (Ll I);have kn:(rlE a to)[k]'oa=((a.ed[k]'I).1,O5 to (a.al.idxOf (a.ed[k]'I).2.1),(a.ed[k]'I).2.2):=by unfold rlE;rw[MK]
  have hu:(rlE a to).take (k+1)=(rlE a to).take k++[(rlE a to)[k]'oa]:=Lh oa;rw[kn]at hu;refine Zd (a.ed[k]'I) λe U=>?_;rw[U]at hI hu;have hix:a.al.idxOf e.2.1<to.length:=by rw[hD];exact Me hI.2.2.1
  rw[<-Zt hix]at hu;refine Zd (to[a.al.idxOf e.2.1]'hix) λy hy=>?_;rw[hy]at hu;refine Qf<|Qe<|Qn<|Qc<|xie (i:=k) (hq.ed.st S) O O I λm0 h6=>?_;rw[U]at h6;refine x (QF h6 O O)<|QS [sS 0,sS 0,sS 0] λb11 w7 hw gk ko=>Q5 (Qp e) ko ox λw8 h7 gl=>xe ?_;have h8:sW J w8:=hw.Q h7 gk;have kq:=S.size;refine Ql<|Qs O ((gi.J S kh).I h8) O O<|Qs O gl O O<|Qw<|(Qow ((hq.al.st S).I h8) hI.2.2.1).S ?_;rintro m1 w8 ⟨rfl,rfl⟩;refine xii ((kg.st S).I h8) O O hix λm2 gm=>?_;rw[hy]at gm;refine x (Qq gm O)<|Q8 O<|Qo<|Qv (u:=sS y) gl O O (by simp[Qp]) rfl λw9 h9 kr=>xe ?_;have kt:QK ↑w9 b11 179 (Qp (e.1,y,e.2.2)):=kr;have hA:sW J w9:=h8.Q h9 gk;have gn:=hr.I hA;have n9v:E∉ob vr:=QJ T gh;have m3:=hA.size;refine Qr<|Qs O gn O O<|QZ kt O O<|Qo<|Q7 [Qp (e.1,y,e.2.2)] λm4 m5 hC m6 ku=>?_;refine Qo<|Q2 (m:=1) (news:=Qp (e.1,y,e.2.2)) (L:=[]) (Qm (Qm T hA) hC) O O O (ku.at od) (by simp[Qp,Value.oneCell']) oa (oo hC.size) λgo m7 hJ gq m8=>?_;refine Q8 O<|Qo<|Qv (u:=go) ((gn.I hC).J gq n9v) O O od (QA hJ) λm9 gr kv=>xe ?_;refine Qr<|QB O O<|Qa<|xe<|⟨(k+1,go),oe,La,I,(((S.D hA.any).D hC.any).O gq (λb hb=>.inr ((Qi T) b hb).1)).V gr,kv,?_⟩;simp only[];rw[hu,LD];simpa using(Qg hJ gr (λb hb=>by have:=(Qi hJ b hb).1;simp only[oF];omega))
 rintro vr g J ⟨S,hr,T⟩;have n9r:E∉ob vr:=QJ T gh;have kq:=S.size;have gs:=Qi T;refine Qc<|Qs O hr O O<|Qw<|(Qae T oa kj).S ?_;rintro r7 w7 ⟨hw,l',hp,kw,kx⟩;have kz:=gz l' hp kw;subst kz;refine xe ?_;have k0:∀b∈E::ob vr,b∈[E]\/↑G<=b:=λb hb=>by
  rcases Ln.1 hb with rfl|hb
  ·exact .inl Lk
  exact .inr (gs b hb).1
 have gt:∀{v:O1} {l:LI},Qu [E] ↑G v l->Qu [] ↑w7 v l:=λhv=>(((hv.up k0).st (S.S od)).st (hw.S (λb hb=>Lj _ hb))).up (λb hb=>by cases hb);have k4:Uy [] ↑w7 vr l':=QM kx (oo hp.length_eq) od;have k5:Zp [] ↑w7 vs vm vr ⟨sa,a.st,a.mr,l'⟩:=⟨gt (kf [E] (λb hb=>.inr (Lb.1 hb))),gt hq.mr,k4⟩;have hK:sW w' w7:=(ha.Q S hg).O hw (λb hb=>.inr (oo (gs b hb).1));have pc:=hK.size;refine Qc<|QZ (hr.J hw n9r) O O<|Qw<|(Kt k5 hok).S ?_;rintro v w8 ⟨h7,hF⟩;obtain⟨us,gu,gv,k6⟩:=XJ hF;refine Qo<|Zu (us:=us) (((hQ.I hz).I hK).I h7) O gu gv O k6 λw9 h9 hG=>Qb ?_;have gx:=hE.D hK;refine Qj ⟨[sT us,sS 0],⟨⟨_,O,ZN gv (hG.at (L:=[]) od).cells⟩,rfl,Z⟩,(gx.D h7).Q h9 oa,v,by rw[gu];rfl,?_⟩;exact(Xe hF oa h9).S (oo gx.size)
theorem QnN {motive:LI->Prop}(nil:motive [])(append_singleton:∀u v,motive u->motive (u++[v]))(u:LI):motive u:=by
 have key:∀r:LI,motive r.reverse:=by
  intro r;induction r with
  | nil=>exact nil
  | cons v r ih=>rw[List.reverse_cons];exact append_singleton _ _ ih
 have:=key u.reverse;rw[List.reverse_reverse]at this;exact this
def enc (u:LI):Int:=u.foldl (λn e=>n*33+(e+1)) 0
theorem K3 (u:LI)(v:Int):enc (u++[v])=enc u*33+(v+1):=by unfold enc;rw[Mj];rfl
def QgW (u:LI):Prop:=∀e∈u,0<=e/\e<32
theorem QgW.snoc {v:Int}(h:QgW (u++[v])):QgW u/\0<=v/\v<32:=⟨λe E=>h e (LO _ E),h v od⟩
theorem QoG (h:QgW u):0<=enc u:=by
 induction u using QnN with
 | nil=>exact My _
 | append_singleton u v ih=>rw[K3];have:=ih h.snoc.1;have:=h.snoc.2;omega
def rn (a:Qz)(x:Int)(u:LI):Int:=u.foldl (λs v=>nxt a.ed s v) x
theorem Qlc (a:Qz)(x:Int)(u:LI)(v:Int):rn a x (u++[v])=nxt a.ed (rn a x u) v:=by unfold rn;rw[Mj];rfl
def x0 (a:Qz):Int:=if 0<a.st then 0 else -1
structure Fw where
 u:LI
 s:Int
def qg:Fw:=⟨[],0⟩
def wdN (e:Fw)(d:Ed):Fw:=⟨e.u++[d.2.1],d.2.2⟩
def wdR (a:Qz)(e:Fw):List Fw:=(QP a.ed e.s).map (wdN e)
def wdL (a:Qz)(most:Nat):Nat->Nat->List Fw->Option (List Fw)
 | 0,_,L=>some L
 | f+1,i,L=>if i<L.length then(if(L.getD i qg).u.length=most then some L else if 1024<(L++wdR a (L.getD i qg)).length then none else wdL a most f (i+1) (L++wdR a (L.getD i qg))) else some L
def wds (a:Qz)(most:Nat):Option (List Fw):=wdL a most 1025 0 [qg]
structure WdI (a:Qz)(most i:Nat)(L:List Fw):Prop where
 ne:0<L.length
 le:i<=L.length
 mx:L.length<=1024
 rx:∀e∈L,e.s=rn a 0 e.u/\0<=e.s/\e.s<a.st/\(∀v∈e.u,v∈a.al)/\e.u.length<=most
 so:L.Pairwise λp q=>enc p.u<enc q.u
 hd:(L.getD 0 qg).u=[]
 pr:∀e∈L,e.u=[]\/∃j v,j<i/\e.u=(L.getD j qg).u++[v]
 ch:∀j v,j<i->0<=nxt a.ed (L.getD j qg).s v->∃e∈L,e.u=(L.getD j qg).u++[v]
theorem Qjp {L:List Fw}(h:i<L.length):L.getD i qg∈L:=by simp[oO,h]
theorem Qjq {L r:List Fw}(h:i<L.length):(L++r).getD i qg=L.getD i qg:=by simp[oO,Oa h]
theorem WdI.J (T:QY a){most:Nat}{L:List Fw}(h:WdI a most i L)(hi:i<L.length)(hl:(L.getD i qg).u.length≠most)(hm:¬1024<(L++wdR a (L.getD i qg)).length):WdI a most (i+1) (L++wdR a (L.getD i qg)):=by
 have V:QgW a.al:=T.al;have hSm:∀e∈L,QgW e.u:=λe E u I=>V u ((h.rx e E).2.2.2.1 u I);have hf:=Qjp hi;obtain⟨r1,r2,r3,r4,r5⟩:=h.rx _ hf;generalize Y:L.getD i qg=ei at *;have ha:∀e∈wdR a ei,∃d∈QP a.ed ei.s,e=wdN ei d/\d.2.1∈a.al/\0<=d.2.2/\d.2.2<a.st/\nxt a.ed ei.s d.2.1=d.2.2:=λe E=>by
  unfold wdR at E;obtain⟨d,hd,rfl⟩:=Ly.1 E;obtain⟨hg,ht⟩:=ZC hd;have hc:=T.ed d hg;refine⟨d,hd,O,hc.2.2.1,hc.2.2.2.1,hc.2.2.2.2,?_⟩;rw[Qe5];obtain⟨k,hk,rfl⟩:=LP hd;refine QdF _ ei.s _ k hk (λe E=>(ZC E).2) O (λm hh e=>?_);have J:(QP a.ed ei.s).Pairwise λx y:Ed=>x.1<y.1\/(x.1=y.1/\x.2.1<y.2.1):=List.Pairwise.sublist ML T.edi;have:=Mi.1 J m k oa hk hh;have e1:=(ZC (Ll (l:=QP a.ed ei.s) (show m<(QP a.ed ei.s).length by omega))).2;have e2:=(ZC (Ll hk)).2;omega
 have hw:=QoG (hSm _ hf);have hr:∀e∈L,∀v,v∈a.al->enc e.u<enc (ei.u++[v]):=λe E v hv=>by
  have hz:=V v hv;rw[K3];rcases h.pr e E with G|⟨j,u,S,G⟩
  ·rw[G];show(0:Int)<_;omega
  rw[G,K3];have h0:enc (L.getD j qg).u<enc ei.u:=by
   have:=Mi.1 h.so j i oa hi S;rw[<-Y];simpa[oO,show j<L.length by omega,hi]using this
  have h5:u<32:=by
   have:=(h.rx e E).2.2.2.1 u (by rw[G];simp);exact(V u this).2
  omega
 have keepD:∀r:List Fw,∀j,j<L.length->(L++r).getD j qg=L.getD j qg:=λr j S=>Qjq S;refine⟨by simp;have:=h.ne;omega,by simp;omega,oa,λe E=>?_,?_,by rw[keepD _ 0 h.ne];exact h.hd,λe E=>?_,λj v S U=>?_⟩
 ·rcases Le.1 E with E|E
  ·exact h.rx e E
  obtain⟨d,_,rfl,G,h2,h3,h4⟩:=ha e E;refine⟨?_,h2,h3,λu I=>?_,?_⟩
  ·show d.2.2=rn a 0 (ei.u++[d.2.1]);rw[Qlc,<-r1,h4]
  ·rcases Le.1 (show u∈ei.u++[d.2.1] from I) with I|I
   ·exact r4 u I
   simp only[oF]at I;subst I;exact G
  show(ei.u++[d.2.1]).length<=most;rw[Lc,Lu];omega
 ·rw[Mg];refine⟨h.so,?_,λp J q hq=>?_⟩
  ·unfold wdR;rw[Ma];have J:(QP a.ed ei.s).Pairwise λx y:Ed=>x.1<y.1\/(x.1=y.1/\x.2.1<y.2.1):=List.Pairwise.sublist ML T.edi;refine List.Pairwise.imp_of_mem (λ{x y} hx hy h6=>?_) J;have e1:=(ZC hx).2;have e2:=(ZC hy).2;show enc (ei.u++[x.2.1])<enc (ei.u++[y.2.1]);rw[K3,K3];omega
  obtain⟨d,_,rfl,G,_⟩:=ha q hq;exact hr p J _ G
 ·rcases Le.1 E with E|E
  ·rcases h.pr e E with G|⟨j,u,S,G⟩
   ·exact .inl G
   exact .inr ⟨j,u,oa,by rw[keepD _ j oa];exact G⟩
  obtain⟨d,_,rfl,_⟩:=ha e E;exact .inr ⟨i,d.2.1,oa,by rw[keepD _ i hi,Y];rfl⟩
 rw[keepD _ j oa]at U ⊢;by_cases e:j=i
 ·subst e;rw[Y]at U ⊢;refine⟨wdN ei (ei.s,v,nxt a.ed ei.s v),MN _ ?_,O⟩;unfold wdR;exact LG (by unfold QP;exact LQ.2 ⟨(Qaz U),od⟩)
 obtain⟨e',hs,G⟩:=h.ch j v oa U;exact⟨e',LO _ hs,G⟩
theorem QpC (G:0<a.st)(most:Nat):WdI a most 0 [qg]:=by
 refine⟨od,Nat.zero_le _,od,λe E=>?_,od,by simp[oO,qg],λe E=>?_,λj v I=>oa⟩
 ·simp only[oF]at E;subst E;exact⟨O,My _,G,by simp[qg],by simp[qg]⟩
 simp only[oF]at E;subst E;exact .inl O
theorem qv {e:Nat}{bys:Nat}[h:Sl P t e sz bys z]{v:O1}(E:w.ownsRow base e sz v n cs)
  {a:Addr} {c:Nat} {news:LV} (hl:news.length=m*sz) (U:∀j u,news[j]?=some u->w.cell? (a.add j)=some u) (h1:∀u∈news,u.oneCell'=true)
  (hb:n+m<=1099511627776) (hs:bys<=128) (he:base<=↑w):
  ∃v' w',(Builtin.append_ #[t,t] ty #[v,.slice (some a) m c]).run P w=.ok v' w'/\w'.ownsRow base e sz v' (n+m) (cs++news)/\O4 (ob v) w w'/\(∀b∈ob v',b∈ob v\/↑w<=b)/\w'.ownsRow base e sz v n cs:=by
 obtain⟨i,hi,Y,J,ha⟩:=Sl.info h;have hc:(n+m)*bys<=140737488355328:=Lx (MX hb hs) oa;have hf:n+m<=maxLen:=by simp only[maxLen];omega
 by_cases hg:∃g cap cur,v=sL g n cap/\w.heap[g]?=some (.cells cur e (0,0))/\n+m<=cap
 ·obtain⟨v',w',T,ho,ht,_⟩:=run_append_own (P:=P) w base t ty e i z sz bys h.u hi Y J ha h.zs h.pos v n cs E a m c news hl U h1 hf hc he;have hu:O4 (ob v) w w':=by rw[Qaw];exact O4.of_grown ht
  refine⟨v',w',T,ho,hu,?_⟩;obtain⟨g,cap,cur,rfl,hh,S⟩:=hg;rcases E.2 with⟨h2,_⟩|⟨g2,cap2,hj,h2,h3,h4,h5,h6,h7,h8⟩
  ·cases h2
  cases h2
  have hv:n*i.size+news.length<=hj.size:=by rw[hl,h7,J,<-Mx];exact MQ _ S
  rw[(run_append_room (P:=P) w t ty e i h.u hi g n cap hj h4 a m c news (by rw[J];exact hl) U h1 S hv)]at T;cases T
  refine⟨λb I=>.inl I,E.1,?_⟩;have hB:=E.1;rcases ho.2 with⟨e1,_⟩|⟨g3,cap3,cur3,e1,k3,k4,k5,k6,k7,k8⟩
  ·cases e1
  cases e1
  refine .inr ⟨g,cap,cur3,O,k3,k4,h5,k6,k7,?_⟩;have:=OU (List.take (n*sz)) k8;rw[List.take_take,M0 (MQ _ (Nat.le_add_right n m)),List.take_append_of_le_length oa,Lq (l:=cs) oa]at this;exact this
 have new:∀(old:Nat),old<n+m->∀G,G=(Obj.cells (cs.toArray++news.toArray++Builtin.zeroCells z.cells (grownCap w (n+m) old e - (n+m))) e) ->
   (w.drew.alloc G).ownsRow base e sz (.slice (some ⟨↑w,0,none⟩) (n+m) (grownCap w (n+m) old e)) (n+m) (cs++news):=by
  intro old ho G hw;subst hw;have hge:=grownCap_ge w (n+m) old e;have hp:grownCap w (n+m) old e<=maxLen:=grownCap_le_maxLen w (n+m) old e hf;have hq:(cs++news).length=(n+m)*sz:=by rw[Lc,E.1,hl,Mx]
  refine⟨hq,.inr ⟨↑w,_,_,O,he,K6 w.drew _,hge,hp,?_,?_⟩⟩
  ·simp only[Array.size_append,Od,size_zeroCells,h.zs,E.1,hl,<-Ou];congr 1;omega
  simp only[Array.toList_append,Of];rw[<-LA,<-hq];exact List.take_left
 have stp:∀G,O4 (ob v) w (w.drew.alloc G):=λG=>⟨O,O,O,by rw[zd];exact Nat.le_succ _,λk hk _=>Qba w.drew G k hk⟩;have hy:∀G,sW w (w.drew.alloc G):=λG=>⟨O,O,O,by rw[zd];exact Nat.le_succ _,λk hk _=>Qba w.drew G k hk⟩;have fin:∀(b:Nat),b∈ob (.slice (some ⟨↑w,0,none⟩) (n+m) 0)->b∈ob v\/↑w<=b:=λb I=>by simp[ob]at I;omega
 rcases E.2 with⟨rfl,rfl⟩|⟨g,cap,cur,rfl,hC,hh,hD,hp,hE,hF⟩
 ·have hx:cs=[]:=Ls (ou E.1);subst hx;by_cases hm:m=0
  ·subst hm;have V:news=[]:=Ls (ou hl);subst V;refine⟨nS,w,?_,QL _ _ _ _,O4.Y _ _,λb I=>by simp[ob]at I,QL _ _ _ _⟩;simp[Builtin.append_,run_underlying h.u,sizeOf,typeInfo,hi,Builtin.lenOf,Builtin.firstCells,loadCells,loadCellsFrom]
  have T:=run_append_nil (P:=P) w t ty e i z h.u hi Y a m c news (by rw[J];exact hl) U oa oa (by rw[ha];have h0:=hc;simp only[oX]at h0;omega);have V:=new 0 oa _ O;simp only[oX,On,Array.empty_append]at V ⊢;exact⟨_,_,T,V,stp _,λb I=>fin b I,QL _ _ _ _⟩
 have S:cap<n+m:=by
  rcases OM cap (n+m) with h9|hge
  ·exact h9
  exact OV ⟨g,cap,cur,O,hh,hge⟩ hg
 have hA:∀j u,cs[j]?=some u->w.cell? ((⟨g,0,none⟩:Addr).add j)=some u:=E.cells (g:=g) O;exact⟨_,_,(run_append_grow (P:=P) w t ty e i z h.u hi Y ⟨g,0,none⟩ n cap cs (by rw[J];exact E.1) hA a m c news (by rw[J];exact hl) U S oa (growslice_fits S (by rw[ha];exact hc))),new cap S _ O,stp _,λb I=>fin b I,Qm E (hy _)⟩
theorem Qis {e bys:Nat}[h:Sl P t e sz bys z]{s:O2}{v:O1}(E:w.ownsRow base e sz v n cs)(G:ev f s=v)
  {a:Addr} {c:Nat} {news:LV} (I:ev f y=.slice (some a) m c) (hl:news.length=m*sz)  (J:At L ↑w a news) (S:∀u∈news,u.oneCell'=true)
  (hb:n+m<=1099511627776) (T:base<=↑w)
  (hK:∀v' w',w'.ownsRow base e sz v' (n+m) (cs++news)->O4 (ob v) w w'->(∀b∈ob v',b∈ob v\/↑w<=b)->w'.ownsRow base e sz v n cs->K (QO f d v') w') (U:bys<=128:=by decide):
  XO P ⟨d,.call ⟨.builtin .append,#[s,y],#[t,t]⟩,ty,pS,af,gd⟩ f w K:=by
 obtain⟨v',w',V,Y,h3,h4,h5⟩:=qv (P:=P) (t:=t) (ty:=ty) E hl J.cells S hb U T (c:=c);have ha:(execOp (ev f) ⟨d,.call ⟨.builtin .append,#[s,y],#[t,t]⟩,ty,pS,af,gd⟩).run P w=.ok (.value v') w':=by
  simp[execOp,resolve,invoke,builtin,G,I,V]
 exact xv ha (hK v' w' Y h3 h4 h5)
section
variable {C:xx}{pl:xq}{i0:Nat}
theorem Qrn {g:α->LV}{x:O2}{e bys:Nat}[Sl P t e sz bys z](G:QR ops i0=⟨d,.indexAddr t x y,ty,pS,af,gd⟩)(S:∀x,(g x).length=sz){es:List α}{v:O1}{I:O0}{k:IntKind}
  (h:∀w',C w'->Zr L ↑w' v es.length sz (es.flatMap g)) (T:C I) (U:ev f x=v) (V:ev f y=.int k i) (hi:i<es.length)
  (hK:∀a,(∀w',C w'->At L ↑w' a (g es[i]))->XP P ops C K pl (QO f d (.pointer (some a))) w) (Y:Z4 ops f (QR ops i0)=true:=by rfl):
  XP P ops C K ((i0,true)::pl) f w:=by
 obtain⟨a,cap,E,_⟩:=Zr.at (h I T) hi;refine Lg.p (λw'=>by rw[G];exact XN (U.D E) V oa oa) ?_ Y;rw[G];refine hK _ λw' hc=>?_;obtain⟨a',cap',ha,J⟩:=Zr.at (h w' hc) hi;rw[ha]at E;cases E
 rw[Jc g sz S es i hi]at J;simpa using J
end
theorem Qqr (b:Bool):b=true\/b=false:=by cases b;exact .inr O;exact .inl O
structure FV where
 v:O1
 f:Fw
abbrev Yj (p:FV):LV:=[p.v,sS p.f.s]
theorem QaS (p:FV):(Yj p).length=2:=rfl
structure WdM (wB:O0)(vL:O1)(es:List FV)(w:O0):Prop where
 st:sW wB w
 l:w.ownsRow ↑wB 382 2 vL es.length (es.flatMap Yj)
 each:∀p∈es,Qu (ob vL) ↑w p.v p.f.u
theorem WdM.I {wB w w':O0}{vL:O1}{es:List FV}(h:WdM wB vL es w)(E:sW w w'):WdM wB vL es w':=⟨h.st.D E,Qm h.l E,λp G=>(h.each p G).I E⟩
theorem WdM.add {wB:O0}{vL vL':O1}{es:List FV}{p:FV}(h:WdM wB vL es w)(G:O4 (ob vL) w w')(hl:w'.ownsRow ↑wB 382 2 vL' (es.length+1) (es.flatMap Yj++Yj p))(I:∀b∈ob vL',b∈ob vL\/↑w<=b)(J:Qu (ob vL) ↑w p.v p.f.u):WdM wB vL' (es++[p]) w':=by
 refine⟨h.st.O G (λb hb=>.inr (Qi h.l b hb).1),by rw[Lc,LD];simpa using hl,λq E=>?_⟩;rcases Le.1 E with E|E
 ·exact(h.each q E).grow G (λb hb=>hb) I
 simp only[oF]at E;subst E;exact J.grow G (λb hb=>hb) I
theorem Qji {es:List FV}(h:i<es.length):(es.map (·.f)).getD i qg=(es[i]'h).f:=by simp[oO,h]
theorem Qls (E:QY a)(s:Int):(QP a.ed s).length<=32:=by
 have G:(QP a.ed s).Pairwise λx y:Ed=>x.1<y.1\/(x.1=y.1/\x.2.1<y.2.1):=List.Pairwise.sublist ML E.edi;have hi:Yw ((QP a.ed s).map λe=>e.2.1):=by
  unfold Yw;rw[Ma];refine List.Pairwise.imp_of_mem (λ{x y} hx I T=>?_) G;have e1:=(ZC hx).2;have e2:=(ZC I).2;omega
 have:=XB _ 0 32 hi (λv J=>by
  obtain⟨e,S,rfl⟩:=Ly.1 J;exact E.al _ (E.ed e (ZC S).1).2.2.1)
 rw[Lm]at this;omega
def Qhe (a:Qz)(most:Nat)(mk:Bool):Option (List (LI)):=if a.st=0 then some []else(wds a most).map λL=>(L.filter λf=>!mk || decide (f.s∈a.mr)).map (·.u)
def Qqy (o:Option (List (LI)))(r:O1)(H:xz):Prop:=(o=none/\r=.tuple #[Zo,sS 3])\/∃l v ps,o=some l/\r=.tuple #[v,sS 0]/\JC [] H v ps/\ps.map (·.2)=l
theorem QgT (h:Zp [] ↑w va vm ve a)(hck:X2 a=0)(ho:QY a)(most:Nat)(z0:most<=4096)(mk:Bool):
  QT sV 249 [.agg #[va,sS a.st,vm,ve],sS most,.bool mk] w λr w'=>sW w w'/\Qqy (Qhe a most mk) r ↑w':=by
 have z1:=ho.st0;have z2:=ho.st1;refine Zk func249 ?_;refine Qc<|Zc [va,sS a.st,vm,ve] λb3 w1 g2 z3 g3=>x Qd<|Qb<|Qe<|Qc<|QZ g3 O O<|Qw<|(Y2 (h.I g2)).S ?_;rintro r2 w2 ⟨g5,g7⟩;rw[hck]at g5;subst g5;have J:=g2.D g7;refine Qb<|Ql<|ZL O O<|xe<|Zz rfl<|Qf<|Qe<|Ql<|xb (Yy O O) (λg8=>OV (show(most:Int)<0 from g8) oa) (λg8=>?_);refine Qa<|Qa<|x (Z7 O O)<|QE O<|xe<|Zf rfl (λg9=>OV (show(most:Int) > 4096 from g9) oa) (λg9=>?_);refine Qf ?_;have hN:=g3.I g7;refine Qe<|Qc<|Qs O hN O O<|x (Zb O O)<|xe<|Zf rfl (λhO=>?_) (λhO=>?_)
 ·refine Qc<|x Qd<|Qb<|Qj ⟨[Zo,sS 0],ov,J,.inr ⟨[],Zo,[],by unfold Qhe;rw[OT hO],rfl,⟨Zr.nil _ _ _,λp E=>by cases E⟩,rfl⟩⟩
 have ms:0<a.st:=by have z4:¬a.st=0:=hO;omega
 have hW:Qhe a most mk=(wds a most).map λL=>(L.filter λf=>!mk || decide (f.s∈a.mr)).map (·.u):=by unfold Qhe;rw[OS oa]
 refine Zd (wds a most) λR hR=>?_;rw[hR]at hW;refine Qf<|Qc<|x (QC Z)<|Qo<|Q7 [Yj ⟨nS,qg⟩] λka w3 mt mu mv=>Qb ?_;have mw:WdM w2 (sL ka 1 1) [⟨nS,qg⟩] w3:=by
  refine⟨mt,mv.own (n:=1) O oa mu,λp E=>?_⟩;simp only[oF]at E;subst E;exact Zr.nil _ _ _
 have my:∀e∈a.ed,0<=e.1/\e.1<=1099511627776:=λe he=>oo (ho.ed e he)
 refine QV (α:=O1×List FV) [(6,7),(9,10),(12,12),(32,77)] (λz=>[(9,z.1)]) (λz w'=>WdM w2 z.1 z.2 w'/\R=some (z.2.map (·.f))/\z.2.length<=1024) oh ?_ ?_
 ·refine Qc<|Qb<|QX (α:=Nat×O1×List FV) [(6,7),(9,10),(12,12),(32,77)] (λz=>[(9,z.2.1),(10,sS z.1)])
   (λz w'=>z.1<=1025/\WdM w2 z.2.1 z.2.2 w'/\WdI a most z.1 (z.2.2.map (·.f))/\wdL a most (1025 - z.1) z.1 (z.2.2.map (·.f))=R) (λz=>1025 - z.1) (0,sL ka 1 1,[⟨nS,qg⟩]) ov
   ⟨Lo _,mw,QpC ms most,hR⟩ ?_
  rintro⟨i,vL,es⟩ g4 w4 ⟨mz,hg,h5,G⟩;simp only[]at mz hg h5 G;have hP:=h5.mx;have m0:=h5.le;rw[Lm]at hP m0;have hw:Zr [] ↑w4 vL es.length 2 (es.flatMap Yj):=QM hg.l oa (λb _=>od);refine Qe<|Ql<|Qa<|QG hw O<|ZT O O<|xe<|Zn O (λhQ=>?_) (λhQ=>?_)
  ·refine Qt ?_;have m1:¬i<(es.map (·.f)).length:=by rw[Lm];have m2:¬(i:Int)<(es.length:Int):=hQ;omega
   refine⟨(vL,es),La,hg,?_,hP⟩;rw[<-G];generalize 1025 - i=f;cases f with
   | zero=>rfl
   | succ f=>rw[wdL,OS m1]
  have hi:i<es.length:=by have m2:(i:Int)<(es.length:Int):=hQ;omega
  rw[show 1025 - i=(1025 - (i+1))+1 by omega,wdL,OT (by rw[Lm];exact hi),Qji hi]at G;have kb:=hg.each _ (Ll hi);have hS:=h5.rx _ (LG (f:=λq:FV=>q.f) (Ll hi));have hU:=λhl hm=>h5.J ho (by rw[Lm];exact hi) hl hm;rw[Qji hi]at hU;refine Zd (es[i]'hi) λei hF=>?_;rw[hF]at G kb hS hU;have kc:=hg.st;refine Qf<|Qe<|Qn<|Qe<|Ql<|Qa<|O7 (g:=Yj) (i:=i) QaS hw O O hi λz5 ke=>?_;rw[hF]at ke;refine x (ZF O)<|x (Qq (ke.fld 0 _ O) O)<|QG (kb.up (L':=[]) (λb hb=>by cases hb)) rfl<|Qa<|x (Zb rfl rfl)<|xe<|Zf O (λhV=>?_) (λhV=>?_)
  ·refine Qt ?_;have hG:ei.f.u.length=most:=by have m3:(ei.f.u.length:Int)=(most:Int):=hV;omega
   rw[OT hG]at G;exact⟨(vL,es),La,hg,G.symm,hP⟩
  have hG:ei.f.u.length≠most:=by have m3:¬(ei.f.u.length:Int)=(most:Int):=hV;omega
  rw[OS hG]at G;have hX:=hU hG;refine Qf ?_;have m4:Zp (ob vL) ↑w4 va vm ve a:=((h.I J).up (L':=ob vL) (λb hb=>.inr (Qi hg.l b hb).1)).I kc;have m5:=Qls ho ei.f.s;have hout:=Qau (va:=va) (vm:=vm) (st:=a.st) (m4.ed.I (O4.X [] w4)) ho.eds my ei.f.s hS.2.1 oa;refine Zd (QP a.ed ei.f.s) λos kf=>?_;rw[kf]at m5 hout;have m6:wdR a ei.f=os.map (wdN ei.f):=by unfold wdR;rw[kf]
  rw[m6]at G hX;refine Qe<|Qe<|ZH [] [oz 0,oz 1,oz 2,oz 3,oz 4,oz 5,oz 8,oA 6,oz 7]<|pq (λ_ S=>Zh ((hN.I kc).I S) O O)<|p Qy<|p Qy<|Lg.pig (g:=Yj) (i:=i) O QaS hw O O hi λa49 kg=>?_;rw[hF]at kg;refine p (λ_=>ZF O)<|pq (λ_ S=>Qq ((kg.fld 1 _ O).I S) O)<|p Qy<|pk<|xg<|hout.S ?_;rintro ro w5 ⟨m7,kh⟩;have ki:=(O4.X [] w4).D m7;refine⟨ki,?_⟩;refine p (λ_=>YV kh O)<|pe ?_;refine Zd (es.map (·.f)++os.map (wdN ei.f)) λL1 kj=>?_;rw[kj]at G hX;refine QX (α:=Nat×O1×List FV) [(9,9),(12,12),(54,74)] (λz=>[(9,z.2.1),(54,sS z.1)])
   (λz w'=>z.1<=os.length/\WdM w2 z.2.1 z.2.2 w'/\Uy (ob z.2.1) ↑w' ro os/\z.2.2.length=es.length+z.1/\(∃h:i<z.2.2.length,z.2.2[i]'h=ei)/\z.2.2.map (·.f)++(os.drop z.1).map (wdN ei.f)=L1) (λz=>os.length - z.1) (0,vL,es) ov
   ⟨Lo _,(hg.I ki),kh,O,⟨hi,hF⟩,kj⟩ ?_
  rintro⟨k,vL2,fs⟩ g6 w6 ⟨hk,hn,hY,m8,kk,hh⟩;simp only[]at hk hn hY m8 kk hh;refine Zi O O (λhZ=>?_) (λhZ=>?_)
  ·refine Qt ?_;have ga:os.length<=k:=by have hH:¬(k:Int)<(os.length:Int):=hZ;omega
   rw[Lr ga,Nj,LF]at hh;have m9:Zr [] ↑w6 vL2 fs.length 2 (fs.flatMap Yj):=QM hn.l oa (λb _=>od);have hl1:L1.length=fs.length:=by rw[<-hh,Lm]
   refine Ql<|QG m9 O<|x (Z7 O O)<|xe<|Zf O (λgb=>?_) (λgb=>?_)
   ·have hI:1024<L1.length:=by have pc:(fs.length:Int) > 1024:=gb;omega
    rw[OT hI]at G;refine Qc<|x Qd<|Qb<|Qj ⟨[Zo,sS 3],ov,J.D hn.st,.inl ⟨by rw[hW,<-G];rfl,O⟩⟩
   have hI:¬1024<L1.length:=by have pc:¬(fs.length:Int) > 1024:=gb;omega
   rw[OS hI,<-hh]at G;have kn:=hX hI;rw[<-hh]at kn;refine Qf<|Qr<|Qa<|QB O O<|Qb<|⟨(i+1,vL2,fs),oe,ov,oe,hn,kn,G⟩
  have T:k<os.length:=by have hH:(k:Int)<(os.length:Int):=hZ;omega
  rw[QW T,LT]at hh;refine Zd (os[k]'T) λd hd=>?_;rw[hd]at hh;refine Qf<|Exists.elim kk λgc ge=>?_;have ko:=hn.each _ (Ll gc);rw[ge]at ko;refine QV (α:=O1×O1) [(9,9),(12,12),(56,73)] (λz=>[(9,z.1)]) (λz w'=>WdM w2 z.1 (fs++[⟨z.2,wdN ei.f d⟩]) w'/\Uy (ob z.1) ↑w' ro os) oh ?_ ?_
  ·refine Qn<|Qc<|xie (i:=k) hY O O T λa56 hH=>?_;rw[hd]at hH;refine x (QF hH O O)<|QS [sS 0,sS 0,sS 0] λkq w7 pd pf pg=>Q5 (Qp d) pg ox λI ph kr=>xe ?_;have gg:sW w6 I:=pd.Q ph pf;have h6:=hn.I gg;have kt:=hY.I gg;have pj:=ko.I gg;have ku:=pj.up (L':=[]) (λb hb=>by cases hb);have h0:sW I { I with drawn:=I.drawn+1 }:=O4.X [] I
   have hz0:=h0.size;have kv:=hS.2.2.2.2;have V:∀w',sW I w'->O4 (ob vL2) I w'/\w'.ownsRow ↑w2 382 2 vL2 fs.length (fs.flatMap Yj):=λw' hs=>⟨hs.S od,Qm h6.l hs⟩;have kw:kq∉ob vL2:=λhb=>oo (QU hn.l kq hb)
   refine QfN (λw'=>O4 (ob vL2) I w'/\w'.ownsRow ↑w2 382 2 vL2 fs.length (fs.flatMap Yj)) (.f2 [oz 0,oz 1,oz 2,oz 3,oz 4,oz 5,oz 7,oz 8,oz 11,oz 12] 6 9 (.pl [oA 9,oA 10,oz 13,oA 14,oA 15,oz 16]) (.pl [oA 6,oA 10,oz 13,oA 14,oA 15,oz 16])) mixed oh oc (V _ h0) ?_;refine u2<|p Qy<|p Qy<|p Qy<|Qrn (g:=Yj) (i:=i) (L:=[]) O QaS (λw' S=>QM S.2 oa (λb _=>od)) (V _ h0) rfl rfl gc λa61 kx=>?_;rw[ge]at kx;refine p (λ_=>ZF O)<|pq (λw' S=>Qq ((kx w' S).fld 0 _ O) O)<|p (QH O)<|pq (λ_ S=>Qk (kr.J S.1 kw) O O)<|p (QH O)<|pq (λ_ S=>Qk (kr.J S.1 kw) O O)<|pe ⟨?_,?_⟩
   ·refine ue<|xg<|(ZU (ku.I h0)).S ?_;rintro vk w9 ⟨h7,hok⟩;have h2:=h0.D h7;have pn:=h7.size;have po:=Qi hok;refine⟨V _ h2,?_⟩;refine uP<|pk<|Q7 [[sS d.2.1]] λbl pp hq pt gh=>?_;have h8:=h2.D hq;have pu:=hq.size;refine⟨V _ h8,?_⟩;refine pk<|Q2 (news:=[sS d.2.1]) (L:=[]) (Qm hok hq) O O O (gh.at od) om oa oa λU gi gj gk pw=>?_;have h9:sW I gi:=h8.O gk (λb hb=>.inr (oo (po b hb).1));have hr:=Qh.snoc (Q9 gj (show ↑I<=_ by omega));refine⟨V _ h9,?_⟩;have gl:=(Qh.ints (L:=[]) hr (by simp;omega) od).one;have gm:=(Qh.ints (L:=[]) hr (by simp;omega) od).cells;refine p (λ_=>QC ⟨gm,O,Z⟩)<|pk<|Q7 [Yj ⟨U,wdN ei.f d⟩] λbm gn J pz hA=>?_;have ha:=h9.D J;refine⟨V _ ha,?_⟩;have ht:=h6.I ha;have go:=ht.st.size;refine pk<|Qis (news:=Yj ⟨U,wdN ei.f d⟩) (L:=[]) (m:=1) ht.l O O O (hA.at od) (by intro u hu;simp only[oK,oH,or_false]at hu;rcases hu with rfl|rfl;exact gl;rfl) oa go λvz p0 gq hv hB gr=>⟨⟨(ha.S od).V hv,gr⟩,p ZI<|pe ?_⟩
    have gs:Qu (ob vL2) ↑gn U (wdN ei.f d).u:=Qh.ints (Qm hr J) (by show(ei.f.u++[d.2.1]).length<=_;rw[Lc,Lu];omega) (λb hb=>QU h6.l b hb);exact⟨(vz,U),La,ht.add hv gq hB gs,(kt.I ha).grow hv (λb hb=>hb) hB⟩
   refine ue<|Q7 [[sS d.2.1]] λbl w9 h7 pt gh=>?_;have h2:=h0.D h7;have pn:=h7.size;refine⟨V _ h2,?_⟩;refine uP<|pk<|xg<|(ZU (ku.I h2)).S ?_;rintro vk pp ⟨hq,hok⟩;have h8:=h2.D hq;have pu:=hq.size;refine⟨V _ h8,?_⟩;refine pk<|Q2 (news:=[sS d.2.1]) (L:=[]) hok O O O ((gh.I hq).at od) om oa oa λU gi gj gk pw=>?_;have h9:sW I gi:=h8.O gk (λb hb=>.inr (oo ((Qi hok) b hb).1));have hr:=Qh.snoc (Q9 gj (show ↑I<=_ by omega));refine⟨V _ h9,?_⟩;have gl:=(Qh.ints (L:=[]) hr (by simp;omega) od).one;have gm:=(Qh.ints (L:=[]) hr (by simp;omega) od).cells;refine p (λ_=>QC ⟨gm,O,Z⟩)<|pk<|Q7 [Yj ⟨U,wdN ei.f d⟩] λbm gn J pz hA=>?_;have ha:=h9.D J;refine⟨V _ ha,?_⟩;have ht:=h6.I ha;have go:=ht.st.size;refine pk<|Qis (news:=Yj ⟨U,wdN ei.f d⟩) (L:=[]) (m:=1) ht.l O O O (hA.at od) (by intro u hu;simp only[oK,oH,or_false]at hu;rcases hu with rfl|rfl;exact gl;rfl) oa go λvz p0 gq hv hB gr=>⟨⟨(ha.S od).V hv,gr⟩,p ZI<|pe ?_⟩
   have gs:Qu (ob vL2) ↑gn U (wdN ei.f d).u:=Qh.ints (Qm hr J) (by show(ei.f.u++[d.2.1]).length<=_;rw[Lc,Lu];omega) (λb hb=>QU h6.l b hb);exact⟨(vz,U),La,ht.add hv gq hB gs,(kt.I ha).grow hv (λb hb=>hb) hB⟩
  rintro⟨vz,U⟩ g14 w14 ⟨kz,k0⟩;simp only[]at kz k0;refine Qr<|QB O O<|Qa<|xe ?_;exact⟨(k+1,vz,fs++[⟨U,wdN ei.f d⟩]),oe,ov,T,kz,k0,by simp;omega,⟨by simp;omega,by simp only[];rw[Mt gc];exact ge⟩,by simp only[];rw[Lv,LA];exact hh⟩
 rintro⟨vL,es⟩ g20 hC ⟨h3,k4,p4⟩;simp only[]at h3 k4 p4;rw[k4]at hW;have p5:=J.D h3.st;have hw:Zr [] ↑hC vL es.length 2 (es.flatMap Yj):=QM h3.l oa (λb _=>od);refine Qc<|Qb<|Qe<|Ql<|QG hw O<|Qa<|xe<|QX (α:=Nat×O1×List TV) [(13,13),(15,15),(80,100)] (λz=>[(13,z.2.1),(80,sS z.1)])
  (λz w'=>z.1<=es.length/\sW hC w'/\qH 47 ↑hC w' z.2.1 z.2.2/\z.2.2.map (·.2)=((es.take z.1).filter λp=>!mk || decide (p.f.s∈a.mr)).map (λp=>p.f.u)/\∀p∈z.2.2,Qu (ob z.2.1) ↑w' p.1 p.2) (λz=>es.length - z.1) (0,nS,[]) ov
  ⟨Lo _,O4.Y _ _,QL _ _ _ _,O,λp E=>by cases E⟩ ?_
 rintro⟨k,vT,ps⟩ g21 k5 ⟨hk,hf,hT,hD,hJ⟩;simp only[]at hk hf hT hD hJ;have hpl:ps.length<=k:=by
  have h1:=OU oV hD;rw[Lm,Lm]at h1;rw[h1];refine Lx (LJ _ _) ?_;rw[LB];omega
 refine Zi rfl O (λgt=>?_) (λgt=>?_)
 ·refine Qt ?_;have ga:es.length<=k:=by have hK:¬(k:Int)<(es.length:Int):=gt;omega
  refine Ql<|x Qd<|Qb<|Qj ⟨[vT,sS 0],ov,p5.D hf,.inr ⟨_,vT,ps,hW,O,⟨QM hT oa (λb _=>od),λp E=>(hJ p E).up (λb hb=>by cases hb)⟩,?_⟩⟩;rw[hD,Lq ga];show _=((es.map (λp:FV=>p.f)).filter λf=>!mk || decide (f.s∈a.mr)).map (λx:Fw=>x.u);rw[List.filter_map,Mw];rfl
 have T:k<es.length:=by have hK:(k:Int)<(es.length:Int):=gt;omega
 have k6:=h3.each _ (Ll T);refine Zd (es[k]'T) λek gu=>?_;rw[gu]at k6;have k9:Qu (ob vT) ↑k5 ek.v ek.f.u:=((k6.up (L':=[]) (λb hb=>by cases hb)).up (λb hb=>.inr (Qi hT b hb).1)).I hf;refine Qf<|Qe<|Qn<|Qc<|O7 (g:=Yj) (i:=k) QaS (hw.I hf) O O T λa82 hK=>?_;rw[gu]at hK;refine x (QF hK O O)<|QS [nS,sS 0] λb15 w22 p6 p7 p8=>Q5 (Yj ek) p8 ⟨k9.one,O,Z⟩ λhj p9 ma=>xe ?_;have Y:sW k5 hj:=p6.Q p9 p7;have hA:=((hN.I h3.st).I hf).I Y;have qf:Qu [] ↑hj vm a.mr:=(((h.I J).mr.I h3.st).I hf).I Y;have hE:(es.take (k+1)).filter (λp=>!mk || decide (p.f.s∈a.mr))=(es.take k).filter (λp=>!mk || decide (p.f.s∈a.mr))++(if(!mk || decide (ek.f.s∈a.mr))=true then[ek]else[]):=by
  rw[Lh T,LR,gu,L4,MJ]
 refine QV (α:=Bool) [(84,92)] (λz=>[(92,.bool z)]) (λz w'=>w'=hj/\z=(!mk || decide (ek.f.s∈a.mr))) oh ?_ ?_
 ·refine Or.elim (Qqr mk) (λgv=>?_) (λgv=>?_)
  ·subst gv;refine Qr<|Qa<|x (Zl O)<|Qa<|Qs O hA O O<|Qs O ma O O<|Qw<|(ZE qf ek.f.s).S ?_;rintro r91 hj ⟨rfl,rfl⟩;refine QE O<|xe ?_;exact⟨_,La,O,O⟩
  subst gv;refine Qr<|Qa<|x (Zl O)<|Qa<|Zy<|YK<|QE O<|xe ?_;exact⟨true,La,O,O⟩
 rintro z g23 hj ⟨rfl,hz⟩;rw[<-hz]at hE;refine Q3 rfl (λgx=>?_) (λgx=>?_)
 rotate_left
 ·rw[OS (by rw[gx];decide),LF]at hE;refine Qf<|Qr<|QB O O<|Qa<|xe ?_;exact⟨(k+1,vT,ps),oe,ov,T,hf.D Y,Qm hT Y,by simp only[];rw[hE];exact hD,λp E=>(hJ p E).I Y⟩
 rw[OT gx]at hE;have mc:=k9.I Y;have mf:=Qm hT Y;have kv:=mc.le;refine Qr<|Qa<|Qo<|QdE λb94 w24 hL mg qj=>Q8 O<|x (Qk (ma.I hL) O O) <|
  Qo<|Qay (base:=↑hj) (qj.own (n:=0) (sz:=1) O oa mg) O (mc.I hL) O (V5 ek.f.u) oa (oo hL.size) λh4 gy ql q0 hn25=>?_
 have q4:sW hj gy:=hL.Q q0 mg;have q5:Qh 3 ↑hj gy h4 ek.f.u:=by simpa[tup]using ql
 have gz:Qu (ob vT) ↑gy h4 ek.f.u:=Qh.ints q5 kv (λb hb=>QU mf b hb);refine Qo<|Yg (us:=[[h4]]) O O og od ⟨gz.cells,rfl,Z⟩ λb98 w26 mh hb98 j1=>?_;have hM:=q4.D mh;have j2:=Qm mf hM;refine Qo<|Q2 (news:=[h4]) (L:=[]) j2 O O O (j1.at od) (λy hy=>by simp only[oF]at hy;subst hy;exact gz.one) oa (ot hf.size Y.size hM.size) λmj mo j3 g0 mq=>Qb ?_;have j4:sW hC mo:=((hf.D Y).D hM).O g0 (λb hb=>.inr (Qi hT b hb).1);have za:qH 47 ↑hC mo mj (ps++[(h4,ek.f.u)]):=qH.snoc j3;refine Qr<|QB O O<|Qa<|xe<|⟨(k+1,mj,ps++[(h4,ek.f.u)]),oe,ov,T,j4,za,?_,λp E=>?_⟩
 ·simp only[];rw[Lv,hD,hE,Lv];rfl
 rcases Le.1 E with E|E
 ·exact(((hJ p E).I Y).I hM).grow g0 (λb hb=>hb) mq
 simp only[oF]at E;subst E;exact(gz.I mh).grow g0 (λb hb=>hb) mq
theorem VV {v:O1}{l':LI}(h:Qu L ↑w v l)(E:Qu L' ↑w v' l'):QT sV 252 [v,v'] w λr w'=>r=.bool (decide (l=l'))/\sW w w':=by
 have hj:=h.le;refine Zk func252 ?_;refine Qc<|Qb<|Qe<|Ql<|QG h O<|Qa<|QG E O<|ZL O O<|xe<|Zf rfl (λY=>?_) (λY=>?_)
 ·refine Qc<|Qb<|Qj ⟨[.bool false],La,?_,O4.Y _ _⟩;have I:l≠l':=λe=>Y (by rw[e]);simp[tup,I]
 refine Qf<|Qe<|Qc<|Qb<|QX (α:=Nat) [(4,5),(11,25)] (λk=>[(5,sS k)]) (λk w'=>sW w w'/\k<=l.length/\(l=l'↔l.drop k=l'.drop k)) (λk=>l.length - k) 0 La ⟨O4.Y _ _,Lo _,od⟩ ?_;rintro k g w1 ⟨G,hk,J⟩
 replace h:=h.I G
 replace E:=E.I G;refine Qe<|Ql<|Qa<|QG h O<|ZT O O<|xe<|Zn rfl (λhf=>?_) (λhf=>?_)
 ·refine Qt<|Qc<|Qb<|Qj ⟨[.bool true],La,?_,G⟩;rw[Lr oa,Lr oa]at J;simp[tup,J]
 have S:k<l.length:=oa
 have T:k<l'.length:=oa
 refine Qf<|Qe<|Qn<|Qe<|ZH [] (Xc 0 9 [])<|p Qy<|p Qy<|pii (i:=k) O h O O S λhn hg=>pq (λ_ U=>Qq (hg.I U) O)<|p Qy<|p Qy<|pii (i:=k) O E O O T λho hh=>pq (λ_ U=>Qq (hh.I U) O)<|p (λ_=>J0 O O)<|pe ?_;have ha:=G.D (O4.X [] w1);refine Zf rfl (λV=>?_) (λV=>?_)
 ·refine Qc<|Qb<|Qj ⟨[.bool false],La,?_,ha⟩;have I:l≠l':=λe=>V (by simp[e]);simp[tup,I]
 refine Qf<|Qr<|Qa<|QB O O<|Qb<|⟨k+1,oa,La,ha,oa,?_⟩;have he:l[k]'S=l'[k]'T:=Lt.1 V;rw[J,QW S,QW T,he];exact⟨λh=>(List.cons.inj h).2,λh=>by rw[h]⟩
theorem Qko {ua um ue:O1}(h:Zp L ↑w va vm ve a)(h':Zp L' ↑w ua um ue a):QT sV 251 [.agg #[va,sS a.st,vm,ve],.agg #[ua,sS a.st,um,ue]] w λr w'=>r=.bool true/\sW w w':=by
 have hu:=h.ed.le;refine Zk func251 ?_;refine Qc<|Zc [va,sS a.st,vm,ve] λb2 w1 hp hv hq=>Zc [ua,sS a.st,um,ue] λb3 w2 hf hw J=>Qb ?_;have U:=hp.D hf;have S:=hq.I hf;have V:=h.I U;have Y:=h'.I U;refine Qe<|QV (α:=Unit) [(6,35)] (λ_=>[(35,.bool false)]) (λ_ w'=>sW w2 w') oh ?_ ?_
 ·refine Qr<|Qs O S O O<|Qs O J O O<|Qw<|(VV V.al Y.al).S ?_;rintro r3 w3 ⟨hg,E⟩;rw[OW rfl]at hg;subst hg;refine x (Zl O)<|Qa<|Qs O (S.I E) O O<|Qs O (J.I E) O O<|xb (J0 O O) (λhh=>OV O hh) (λhh=>?_);refine QE O<|Qa<|Qs O (S.I E) O O<|Qs O (J.I E) O O<|Qw<|(VV (V.mr.I E) (Y.mr.I E)).S ?_;rintro r4 w4 ⟨hj,G⟩;rw[OW rfl]at hj;subst hj;have T:=E.D G;refine x (Zl O)<|QE O<|Qa<|Qs O (S.I T) O O<|QG (V.ed.I T) O<|Qs O (J.I T) O O<|QG (Y.ed.I T) O<|xb (J0 O O) (λhm=>OV O hm) (λhm=>?_);refine QE O<|xe ?_;exact⟨(),La,T⟩
 rintro⟨⟩ g w3 E;have ha:=U.D E;refine Zz rfl<|Qf<|Qe<|Qc<|Qb<|QX (α:=Nat) [(4,5),(36,53)] (λk=>[(5,sS k)]) (λk w'=>sW w3 w'/\k<=a.ed.length) (λk=>a.ed.length - k) 0 La ⟨O4.Y _ _,Lo _⟩ ?_;rintro k g w4 ⟨G,hk⟩;have h4:=(h.I ha).ed.I G;have hn:=(S.I E).I G;refine Qe<|Ql<|Qs O hn O O<|QG h4 O<|ZT O O<|xe<|Zn rfl (λhr=>?_) (λhr=>?_)
 ·refine Qt<|Qc<|Qb<|Qj ⟨[.bool true],La,O,ha.D G⟩
 have he:k<a.ed.length:=oa
 refine Qf<|Qe<|Qn<|Qe<|ZH [] (Xc 0 11 [])<|p (QH O)<|pq (λ_ I=>Qk (hn.I I) O O)<|p Qy<|pie (i:=k) O h4 O O he λhy hs=>pq (λ_ I=>QF (hs.I I) O O)<|p (QH O)<|pq (λ_ I=>Qk (((J.I E).I G).I I) O O)<|p Qy <|
  pie (i:=k) O ((h'.I ha).ed.I G) O O he λhz ht=>pq (λ_ I=>QF (ht.I I) O O)<|p (λ_=>VZ O O)<|pe ?_
 refine Zf rfl (λho=>OV O ho) (λho=>?_);refine Qf<|Qr<|Qa<|QB O O<|Qb<|⟨k+1,oa,La,G.D (O4.X _ _),he⟩
theorem Qal [h:S3 P t]{x:O2}{p q:Ed}(hx:ev f x=sT (Qp p))(G:ev f y=sT (Qp q)):
  (execOp (ev f) ⟨d,.binOp .eql t x y E,ty,pS,af,gd⟩).run P w=.ok (.value (.bool (decide (p=q)))) w:=by
 have I:(eqGuard .eql t x y (sT (Qp p)) (sT (Qp q))).run P w=.ok () w:=by simp[eqGuard,h.g]
 simp only[execOp,hx,G,Sem.run_bind,I,Result.andThen_ok,binOp,Qai,Sem.run_pure]
def ex3:Qz:=⟨[0,2],3,[2],[(0,0,2),(0,2,0),(2,2,0)]⟩
def cn3:Qz:=⟨[0,2],2,[1],[(0,0,1),(0,2,0),(1,2,0)]⟩
def se3:List Ed:=[(0,1,0),(0,3,1),(1,1,0)]
theorem Qjz:X2 ex3=0:=oc
theorem Qmp:Xs ex3=cn3:=oc
theorem Qa4:X2 cn3=0:=oc
theorem QmB:Qk9 cn3 0 [0,0]=0:=oc
theorem QmC:flw cn3 0 [0,0]=(1,1):=oc
theorem QmA:Qhe cn3 2 true=some [[0],[2,0]]:=oc
theorem QnP:X2 ⟨[1,3],2,[1],se3⟩=0:=oc
theorem QnO:(Xs ⟨[1,3],2,[1],se3⟩).ed=se3:=oc
theorem QoU:rlE cn3 [3,1]=[(0,3,1),(0,1,0),(1,1,0)]:=oc
theorem Qq9:([3,1]:LI).mergeSort (λx y=>decide (x<=y))=[1,3]:=by
 refine List.Perm.eq_of_pairwise (le:=λx y:Int=>x<=y) (λa b _ _ E G=>oa) ?_ og ((Nc _ _).D (List.Perm.swap _ _ _));refine(List.pairwise_mergeSort (le:=λx y:Int=>decide (x<=y)) (λa b c E G=>by simp at *;omega) (λa b=>by simp;omega) [3,1]).imp λh=>ou h
theorem QnL (l':List Ed)(E:l'.Perm (rlE cn3 [3,1]))(S:l'.Pairwise Qcw):l'=se3:=by
 rw[QoU]at E;refine List.Perm.eq_of_pairwise (le:=Qcw) (λa b T hb G I=>?_) S (by unfold se3 Qcw;decide) (E.D (List.Perm.swap _ _ _));have J:=E.mem_iff.1 T;simp only[oK,oH,or_false]at J;simp only[se3,oK,oH,or_false]at hb;unfold Qcw at G I;rcases J with rfl|rfl|rfl <;> rcases hb with rfl|rfl|rfl <;> first|rfl|(exfalso;simp only[]at G I;omega)
theorem Qco (w:O0):QT sV 247 [] w λr w'=>sW w w'/\Xb ↑w ↑w' r ex3:=by
 refine Zk func247 ?_;refine Qc<|QS qz λb0 w1 T hc U=>xe ?_;refine Qc<|Qo<|Q7 [[sS 0],[sS 2]] λE w2 V hj he=>Qo<|Q7 [[sS 2]] λG w3 I hk hf =>
  x (QC ⟨rfl,O,O,Z⟩)<|x (QC ⟨O,O,O,Z⟩)<|x (QC ⟨O,O,O,Z⟩)<|Qo<|Yg (us:=[Qp (0,0,2),Qp (0,2,0),Qp (2,2,0)]) O O og (by exact(by decide:3*3<=1000000)) ⟨O,O,O,O,O,O,Z⟩ λJ w4 S hm hg=>?_
 have Y:=(V.D I).D S;have hn:=V.size;have ho:=I.size;have hF:Xb ↑w1 ↑w4 (.agg #[sL E 2 2,sS 3,sL G 1 1,sL J 3 3]) ex3 :=
  j6 (a:=ex3) ((he.I I).I S) (hf.I S) hg oa oa oa O O O og og og
 refine x (QC ⟨O,O,O,O,Z⟩)<|Q5 [sL E 2 2,sS 3,sL G 1 1,sL J 3 3] (U.I Y) oy λw5 ha hh=>xe ?_;refine Qj ⟨[.agg #[sL E 2 2,sS 3,sL G 1 1,sL J 3 3]],⟨JA hh,Z⟩,(T.D Y).Q ha hc,?_⟩;exact(Xe hF U.lt ha).S T.size
theorem Qgq (w:O0):QT sV 185 [] w λr w'=>r=.bool true/\sW w w':=by
 refine Zk func185 ?_;refine Qc<|Qb<|Qc<|Qw<|(Qco w).S ?_;rintro r1 w1 ⟨hF,va,vm,ve,rfl,hG⟩;refine Qw<|(Qbf (hG [] od)).S ?_;rintro r2 w2 ⟨hH,v2,rfl,_,hI⟩;have hf:=hI Qjz;rw[Qmp]at hf;obtain⟨ca,cm,ce,rfl,hJ⟩:=hf;have hC:=hJ [] od;refine Qa<|QN O O<|QN O O<|QS qz λb1 w3 hK hM hN=>Q5 [ca,sS 2,cm,ce] hN ⟨hC.al.one,O,hC.mr.one,hC.ed.one,Z⟩ λw4 hO J=>Qb ?_;have hg:sW w2 w4:=hK.Q hO hM;have S:=hC.I hg;refine Qc<|QZ J O O<|Qo<|Q7 [[sS 0],[sS 0]] λg3 w5 hh g4 hP=>Qw<|(Qpe (u:=[0,0]) (S.I hh) (hP.arr (L:=[]) od (n:=2) (cap:=2) (sz:=1) rfl oa (Lp _)) 0).S ?_;rintro r6 w6 ⟨hQ,hj⟩;rw[OS (by rw[QmB];decide),QmC]at hj;subst hj;refine Qa<|QN O O<|QN O O<|QN O O<|x Qd<|x Qd<|Qb ?_;have U:=hh.D hQ;refine Qc<|QZ (J.I U) O O<|Qw<|(QgT (S.I U) Qa4 ((Zx _).1 Qa4) 2 og true).S ?_;rintro r7 w7 ⟨hS,hk⟩;rw[QmA]at hk;have hT:∃I G p1,r7=.tuple #[I,sS 0]/\JC [] ↑w7 I [G,p1]/\G.2=[0]/\p1.2=[2,0]:=by
  rcases hk with⟨h,_⟩|⟨l,I,ps,hl,h2,V,E⟩
  ·cases h
  cases hl
  match ps,V,E with
  | [G,p1],V,E =>
   simp only[oS,OC,List.cons.injEq,and_true]at E;exact⟨I,G,p1,h2,V,E.1,E.2⟩
  | [],_,E=>simp at E
  | [_],_,E=>simp at E
  | _::_::_::_,_,E=>simp at E
 obtain⟨I,G,p1,rfl,hU,hV,hW⟩:=hT;refine Qa<|QN O O<|QN O O<|x Qd<|Qb ?_;have Y:=U.D hS;refine Qc<|QZ (J.I Y) O O<|Qo<|Q7 [[sS 3],[sS 1]] λg5 w8 hm g6 hX =>
  Qw<|(Qel (to:=[3,1]) ((S.I Y).I hm) Qa4 ((Zx _).1 Qa4) (hX.arr (L:=[]) od (n:=2) (cap:=2) (sz:=1) rfl oa (Lp _)) rfl og og Qq9 QnL ((Zx _).1 QnP)).S ?_
 rintro r9 w9 ⟨hY,v9,rfl,hZ⟩;obtain⟨ra,rm,re,rfl,ga⟩:=hZ;have hR:=ga [] od;have gb:Uy [] ↑w9 re se3:=by
  have h:=hR.ed;rw[show(Xs ⟨[1,3],cn3.st,cn3.mr,se3⟩).ed=se3 from QnO]at h;exact h
 refine Qa<|QN O O<|QN O O<|QS qz λb8 g7 gc ge gg=>Qo<|Zu (us:=[ra,sS (Xs ⟨[1,3],cn3.st,cn3.mr,se3⟩).st,rm,re]) gg O O O O ⟨hR.al.one,O,hR.mr.one,hR.ed.one,Z⟩ λhn gh gi=>Qb ?_;have ho:sW w9 hn:=gc.Q gh ge;have hp:=(hm.D hY).D ho;have ha:=Y.D hp;refine QV (α:=Unit) [(0,0),(33,98)] (λz=>[(0,.bool true)]) (λz w'=>sW hn w') oh ?_ ?_
 ·refine Qr<|Qa<|xb (Zb O O) (λhq=>?_) (λhq=>OV Qjz hq);refine Qa<|QZ (J.I ha) O O<|Qo<|Q7 [[sS 0],[sS 2]] λgj g8 gk g9 gl=>Qo<|Q7 [[sS 1]] λgm ka hr kb gn =>
   x (QC ⟨O,O,O,Z⟩)<|x (QC ⟨O,O,O,Z⟩)<|x (QC ⟨O,O,O,Z⟩)<|Qo<|Yg (us:=[Qp (0,0,1),Qp (0,2,0),Qp (1,2,0)]) O O og (by exact(by decide:3*3<=1000000)) ⟨O,O,O,O,O,O,Z⟩ λgo gq hc kc gr=>?_
  have hs:=(gk.D hr).D hc;have hL:Zp [] ↑gq (sL gj 2 2) (sL gm 1 1) (sL go 3 3) cn3 :=
   ⟨((gl.I hr).I hc).arr (L:=[]) od (n:=2) (cap:=2) (sz:=1) rfl oa (OE _),(gn.I hc).arr (L:=[]) od (n:=1) (cap:=1) (sz:=1) rfl oa (OE _),gr.arr (L:=[]) od (n:=3) (cap:=3) (sz:=3) rfl oa (Lp _)⟩
  refine x (QC ⟨O,O,O,O,Z⟩)<|Qw<|(Qko (a:=cn3) ((S.I ha).I hs) hL).S ?_;rintro ke kf ⟨rfl,gs⟩;have ht:=hs.D gs;have T:=(hU.I hp).I ht;refine QE O<|Qa<|Qa<|xb (Zb O O) (λhu=>?_) (λhu=>OV O hu);refine QE O<|Qa<|Qa<|xb (Zb O O) (λhv=>?_) (λhv=>OV O hv);refine QE O<|Qa<|Qa<|xb (Zb O O) (λhw=>?_) (λhw=>OV O hw);refine QE O<|Qa<|Qa<|xb (Zb O O) (λhy=>?_) (λhy=>OV O hy);refine QE O<|Qa<|Qa<|QG T.arr O<|xb (Zb O O) (λhz=>?_) (λhz=>OV O hz);refine QE O<|Qa<|Qa<|O7 (g:=YF) (i:=0) Kn T.arr O O od λkg gt=>x (Qq gt rfl)<|Qo<|Q7 [[sS 0]] λkh ki h0 kj gu =>
   Qw<|(VV (l:=G.2) (l':=[0]) ((T.each G od).I h0) (gu.arr (L:=[]) od (n:=1) (cap:=1) (sz:=1) rfl oa (Lp _))).S ?_
  rintro kk kn ⟨h1,gv⟩;rw[hV,OW rfl]at h1;subst h1;have h5:=h0.D gv;have h6:=T.I h5;refine QE O<|Qa<|Qa<|O7 (g:=YF) (i:=1) Kn h6.arr O O od λko gx=>x (Qq gx rfl)<|Qo<|Q7 [[sS 2],[sS 0]] λkq kr h7 kt gy =>
   Qw<|(VV (l:=p1.2) (l':=[2,0]) ((h6.each p1 od).I h7) (gy.arr (L:=[]) od (n:=2) (cap:=2) (sz:=1) rfl oa (Lp _))).S ?_
  rintro ku kv ⟨h8,gz⟩;rw[hW,OW rfl]at h8;subst h8;have he:=(ht.D h5).D (h7.D gz);have h9:=gi.I he;have hA:=(gb.I ho).I he;refine QE O<|Qa<|Qa<|xb (Zb O O) (λhB=>?_) (λhB=>OV O hB);refine QE O<|Qa<|Qs O h9 O O<|QG hA O<|xb (Zb O O) (λhD=>?_) (λhD=>OV O hD);refine QE O<|Qa<|Qs O h9 O O<|xie (i:=1) hA O O og λkw g0=>x (QF g0 O O)<|x (QC ⟨O,O,O,Z⟩)<|xb (Qal (p:=(0,3,1)) (q:=(0,3,1)) O O) (λhE=>?_) (λhE=>OV O hE);refine QE O<|Qb<|⟨(),La,he⟩
 rintro z g kx g2;exact Qj ⟨[.bool true],La,O,(((hF.D hH).D hg).D ha).D g2⟩
theorem QgZ (w:O0):QT sV 116 [] w λr w'=>r=.bool true/\sW w w':=by
 refine Zk func116 ?_;refine Qc<|Qb<|Qc<|Qw<|(Qgq w).S ?_;rintro G I ⟨rfl,E⟩;refine Qb<|Qj ⟨[.bool true],La,O,E⟩
theorem CL.cel_rq {k:Z6}(h:c.C=k)(v:O1)(qs:List IV):(CL.mk c.ve c.vc v c.vx c.vk c.ev c.co qs c.ex c.cs).C={ k with rq:=qs.map IV.it }:=by rw[<-h];rfl
theorem CL.cel_ex {k:Z6}(h:c.C=k)(v:O1)(qs:List XV):(CL.mk c.ve c.vc c.vr v c.vk c.ev c.co c.rq qs c.cs).C={ k with ex:=qs.map XV.x }:=by rw[<-h];rfl
theorem CL.cel_cs {k:Z6}(h:c.C=k)(v:O1)(qs:List KV):(CL.mk c.ve c.vc c.vr c.vx v c.ev c.co c.rq c.ex qs).C={ k with cs:=qs.map KV.k }:=by rw[<-h];rfl
theorem Qdo {k:Z6}(h:Z9 [] ↑w c)(V:c.C=k)(S:YL k=0)(Y:Kb w 4096):
  QT sV 31 [c.val] w λr w'=>sW w w'/\∃va vm ve G I J E,r=.tuple #[.agg #[va,sS (spc k).a.st,vm,ve,G,I,J,E],sS 0]/\ZK [va,sS (spc k).a.st,vm,ve,G,I,J,E]/\Zr [] ↑w' E (spc k).fb.length 4 ((spc k).fb.flatMap ZZ):=by
 refine(yA h Y).S ?_;rintro r w' ⟨hs,v,rfl,⟨us,hv,_,T⟩,U⟩;rw[V]at U ⊢;obtain⟨va,vm,ve,G,I,J,E,cos,rqs,rfl,_,_,hA⟩:=U S;have ha:us=[va,sS (spc k).a.st,vm,ve,G,I,J,E]:=by
  simpa using(OU (λv=>match v with|Value.agg cs=>cs.toList|_=>[]) hv).symm
 rw[ha]at T;exact⟨hs,va,vm,ve,G,I,J,E,by rw[S],T,(hA [] od).2.2.2.2⟩
theorem QoV {k:Z6}(h:Z9 [] ↑w c)(E:c.C=k)(G:YL k=0)(I:(spc k).a.st<4096)(J:QfC k=true)(S:Kb w 4096):
  QT sV 183 [c.val] w λr w'=>sW w w'/\∃xa xm xe vb,r=.tuple #[.agg #[xa,sS ((spc k).a.st+1),xm,xe],vb,sS 0]/\ZK [xa,xm,xe]/\Qh 3 ↑w w' vb (cmB k):=by
 subst E;exact Qc3 h S G I J
abbrev Qn5:LV:=[nS,sS 0,nS,nS,nS,nS,nS,nS]
theorem Qqw {P:Prop}{a b:Int}(e:a=b)(h:¬a=b):P:=OV e h
theorem QdK (hg:Kb w 4096):QT sV 115 [] w λr w'=>r=.bool true/\sW w w':=by
 refine Zk func115 ?_;refine Qc<|Qb<|Qc<|Qw<|(JP 1 og w).S ?_;rintro r1 w1 ⟨hI,T,rfl,g3,g4⟩;refine Qw<|(JP 2 og w1).S ?_;rintro r2 w2 ⟨h2,U,rfl,g5,g6⟩;refine Qw<|(JP 2 og w2).S ?_;rintro r3 w3 ⟨hh,c3,rfl,g7,g8⟩;have hJ:=((g4 [] od).I h2).I hh;have hK:=(g6 [] od).I hh;have hL:=g8 [] od;refine QS KR λE w4 g9 p8 hM=>QS KR λG w5 hN p9 hO=>QS KR λI w6 h3 qf V=>?_;have qj:=hM.lt;have ql:=hO.lt;have q0:=V.lt;refine Q5 T.cells ((hM.I hN).I h3) hJ.ones λw7 hj ka=>Q5 U.cells ((hO.I h3).J hj ol) hK.ones λw8 hk kb =>
  Q5 c3.cells ((V.J hj ol).J hk ol) hL.ones λw9 hn kc=>xe ?_
 have ho:sW w3 w9:=((((g9.D hN).D h3).Q hj oa).Q hk oa).Q hn oa;have V:∀b∈[E,G,I],↑w3<=b/\b<w6.heap.size:=λb hb=>by
  simp only[oK,oH,or_false]at hb;rcases hb with rfl|rfl|rfl <;> omega
 have m1:∀b∈[E],b∈[E,G,I]:=od
 have m2:∀b∈[G],b∈[E,G,I]:=od
 have m3:∀b∈[I],b∈[E,G,I]:=od
 have q4:w6.heap.size<=w9.heap.size:=by have:=hj.size;have:=hk.size;have:=hn.size;omega
 have nB:∀b,↑w9<=b->b∉[E,G,I]:=λb hb hm=>oo (V b hm).2
 refine Qc<|Qo<|Q7 [[sS 1]] λb16 q5 hP j1 ke=>Qo<|Q7 [[sS 0]] λhp j2 h4 j3 kf=>x (QC ⟨O,O,O,Z⟩) <|
  x (Zw [(0,[.string V7]),(1,[sL b16 1 1,sS 1,sL hp 1 1,nS])] ⟨O,O,O,O,Z⟩) <|
  Qo<|Q7 [[.string V7,sL b16 1 1,sS 1,sL hp 1 1,nS]] λh5 kg h6 j4 kh=>?_
 have hr:=(hP.D h4).D h6;refine Q8 rfl<|Qo<|Qv (j:=2) (u:=sL h5 1 1) (((ka.J hk ol).J hn ol).I hr) O O od rfl λh7 hs ki=>xe ?_;have za:=hP.size;have z0:=h4.size;have he:O4 [E,G,I] w9 h7:=hr.any.V (hs.S m1);have kj:Z9 [E,G,I] ↑h7 (CL.mk T.ve T.vc (sL h5 1 1) T.vx T.vk T.ev T.co [⟨V7,⟨sL b16 1 1,sL hp 1 1,nS,QaP.a⟩⟩] T.ex T.cs):=by
  have J:=((hJ.up (L':=[E,G,I]) (λb hb=>.inr (V b hb).1)).I ho).st he;refine⟨J.ev,J.co,Va.st (w:=kg) ⟨kh.arr (nB _ oa) (n:=1) (cap:=1) (sz:=5) O og (Lp _),λq S=>?_,λq S=>?_⟩ (hs.S m1),J.ex,J.cs⟩
  ·rw[Lb.1 S];exact⟨((ke.I h4).I h6).arr (nB _ oa) (n:=1) (cap:=1) (sz:=1) O og (Lp _),(kf.I h6).arr (nB _ oa) (n:=1) (cap:=1) (sz:=1) O og (Lp _),Zr.nil _ _ 3⟩
  rw[Lb.1 S];exact Jg og
 refine Qc<|x (QC ⟨O,O,Z⟩)<|x (QC ⟨O,O,Z⟩)<|Qo<|Q7 [Zg (0,1),Zg (1,1)] λh8 z1 hQ z2 kk=>x (QC ⟨O,O,Z⟩) <|
  Qo<|Q7 [[.string QaB,sL h8 2 2]] λhA kn hR z3 ko=>?_
 have ht:=hQ.D hR;refine Q8 rfl<|Qo<|Qv (j:=3) (u:=sL hA 1 1) (((kb.J hn ol).J (hr.any.V hs) ol).I ht) O O od rfl λhB hu kq=>xe ?_;have z4:=hQ.size;have hf:O4 [E,G,I] h7 hB:=ht.any.V (hu.S m2);have z5:=hf.size;have hz913:=he.size;have kr:Z9 [E,G,I] ↑hB (CL.mk U.ve U.vc U.vr (sL hA 1 1) U.vk U.ev U.co U.rq [⟨QaB,sL h8 2 2,[(0,1),(1,1)]⟩] U.cs):=by
  have J:=((hK.up (L':=[E,G,I]) (λb hb=>.inr (V b hb).1)).I ho).st (he.V hf);refine⟨J.ev,J.co,J.rq,yT.st (w:=kn) ⟨ko.arr (nB _ oa) (n:=1) (cap:=1) (sz:=2) O og (Lp _),λq S=>?_,λq S=>?_⟩ (hu.S m2),J.cs⟩
  ·rw[Lb.1 S];exact(kk.I hR).arr (nB _ oa) (n:=2) (cap:=2) (sz:=2) O og (Lp _)
  rw[Lb.1 S];exact Jg og
 refine Qc<|x (QC ⟨O,O,Z⟩)<|x (QC ⟨O,O,Z⟩)<|Qo<|Q7 [Zg (0,1),Zg (1,1)] λhC w17 hS hb30 kt=>x (QC ⟨O,O,O,Z⟩) <|
  Qo<|Q7 [[.string QaA,sL hC 2 2,sS 1]] λhD ku hT hb32 kv=>?_
 have hv:=hS.D hT;refine Q8 rfl<|Qo<|Qv (j:=4) (u:=sL hD 1 1) (((kc.J (hr.any.V hs) ol).J (ht.any.V hu) ol).I hv) O O od rfl λha hw kw=>xe ?_;have hz17:=hS.size;have hy:O4 [E,G,I] hB ha:=hv.any.V (hw.S m3);have kx:Z9 [E,G,I] ↑ha (CL.mk c3.ve c3.vc c3.vr c3.vx (sL hD 1 1) c3.ev c3.co c3.rq c3.ex [⟨QaA,sL hC 2 2,[(0,1),(1,1)],1⟩]):=by
  have J:=((hL.up (L':=[E,G,I]) (λb hb=>.inr (V b hb).1)).I ho).st ((he.V hf).V hy);refine⟨J.ev,J.co,J.rq,J.ex,yF.st (w:=ku) ⟨kv.arr (nB _ oa) (n:=1) (cap:=1) (sz:=3) O og (Lp _),λq S=>?_,λq S=>?_⟩ (hw.S m3)⟩
  ·rw[Lb.1 S];exact(kt.I hT).arr (nB _ oa) (n:=2) (cap:=2) (sz:=2) O og (Lp _)
  rw[Lb.1 S];exact Jg og
 have hU:Z9 [] ↑ha _:=((kj.st hf).st hy).up (L':=[]) od;have kz:Z9 [] ↑ha _:=(kr.st hy).up (L':=[]) od;have k0:Z9 [] ↑ha _:=kx.up (L':=[]) od;have hV:=(ki.J (ht.any.V hu) ol).J (hv.any.V hw) ol;have hW:sW w ha:=(((hI.D h2).D hh).D ho).O ((he.V hf).V hy) (λb hb=>.inr (oq (V b hb).1 ((hI.D h2).D hh).size));have hX:=CL.cel_rq g3 (sL h5 1 1) [⟨V7,⟨sL b16 1 1,sL hp 1 1,nS,QaP.a⟩⟩];refine Qc<|QZ hV O O<|Qw<|(Qdo (k:=k1C) hU hX Qqb (hg.I hW)).S ?_;rintro r20 k4 ⟨k5,sa,sm,se,s1,s2,s3,s4,rfl,k6,hY⟩;rw[Qqa]at hY;refine Qa<|QN O O<|QN O O<|QS Qn5 λb4 w21 k9 ma mc=>Q5 [sa,sS (spc k1C).a.st,sm,se,s1,s2,s3,s4] mc k6 λmf mg mh=>Qb ?_;have hZ:sW k4 mf:=k9.Q mg ma;have hz:=k5.D hZ;have ga:=hW.D hz;refine Qc<|QZ (hV.I hz) O O<|Qw<|(QoV (k:=k1C) (hU.I hz) hX Qqb (by rw[Qng];decide) Qol (hg.I ga)).S ?_;rintro r23 gb ⟨mj,xa,xm,mo,vb,rfl,hE,gc⟩;rw[Qom]at gc;have mq:Qu [] ↑gb vb [2]:=Qh.ints (L:=[]) gc od od;refine Qa<|QN O O<|QN O O<|QN O O<|QS qz λb6 w24 ms mt mu=>Q5 [xa,sS ((spc k1C).a.st+1),xm,mo] mu ⟨hE.1,O,hE.2.1,hE.2.2.1,Z⟩ λmv mw my=>x Qd<|Qb ?_;have ge:sW gb mv:=ms.Q mw mt;have h0:=mj.D ge;have hF:=hz.D h0;have gg:=ga.D h0;refine Qc<|x (Zh ((kq.J (hv.any.V hw) ol).I hF) O O)<|Qw<|(Qdo (k:=k2C) (kz.I hF) (CL.cel_ex g5 (sL hA 1 1) [⟨QaB,sL h8 2 2,[(0,1),(1,1)]⟩]) Qrw (hg.I gg)).S ?_;rintro r26 mz ⟨m0,ta,tm,te,t1,t2,t3,t4,rfl,m4,gh⟩;rw[Qp8]at gh;refine Qa<|QN O O<|QN O O<|QS Qn5 λb9 w27 m5 m6 m7=>Q5 [ta,sS (spc k2C).a.st,tm,te,t1,t2,t3,t4] m7 m4 λm8 m9 pc=>Qb ?_;have gi:sW mz m8:=m5.Q m9 m6;have hc:=m0.D gi;have gj:=hF.D hc;have gk:=gg.D hc;refine Qc<|QZ (kw.I gj) O O<|Qw<|(Qdo (k:=k3C) (k0.I gj) (CL.cel_cs g7 (sL hD 1 1) [⟨QaA,sL hC 2 2,[(0,1),(1,1)],1⟩]) Qrv (hg.I gk)).S ?_;rintro r29 pd ⟨pf,ua,um,ue,u1,u2,u3,u4,rfl,pg,gl⟩;rw[Qp5]at gl;refine Qa<|QN O O<|QN O O<|QS Qn5 λb11 w30 ph pj pn=>Q5 [ua,sS (spc k3C).a.st,um,ue,u1,u2,u3,u4] pn pg λgm po pp=>Qb ?_;have gn:sW pd gm:=ph.Q po pj;have Y:=pf.D gn;have go:=pc.I Y;refine QV (α:=Unit) [(0,0),(55,105)] (λz=>[(0,.bool true)]) (λz w'=>sW gm w') oh ?_ ?_
 ·refine Qr<|Qa<|xb (Zb O O) (λgq=>?_) (λgq=>OV O gq);refine Qa<|Qa<|xb (Zb O O) (λgr=>?_) (λgr=>OV O gr);refine QE O<|Qa<|Qa<|xb (Zb O O) (λgs=>?_) (λgs=>OV O gs);refine QE O<|Qa<|Qa<|xb (Zb O O) (λgt=>?_) (λgt=>OV O gt);refine QE O<|Qa<|Q8 O<|x (Qk (((mh.I h0).I hc).I Y) O O)<|x (QC ⟨O,O,O,O,Z⟩)<|Qo<|Q7 [ZZ ⟨1,3,0,1⟩] λb73 w32 gu hb73 pt =>
   Qw<|(UX (l:=[⟨1,3,0,1⟩]) ((((((hY.I hZ).I h0).I hc).I Y)).I gu) (pt.arr (L:=[]) od (n:=1) (cap:=1) (sz:=4) rfl og (Lp _))).S ?_
  rintro r74 w33 ⟨rfl,pu⟩;have hG:=gu.D pu;refine QE O<|Qa<|Q8 O<|x (Qk (((my.I hc).I Y).I hG) O O)<|xb (Zb O O) (λgv=>?_) (λgv=>Qqw (by rw[Qng];rfl) gv);refine QE O<|Qa<|Qa<|Qo<|Q7 [[sS 2]] λb83 w34 gx hb83 pw =>
   Qw<|(UY (l:=[2]) (l':=[2]) (((((mq.I ge).I hc).I Y).I hG).I gx) (pw.arr (L:=[]) od (n:=1) (cap:=1) (sz:=1) rfl oa (Lp _))).S ?_
  rintro r84 w35 ⟨gy,pz⟩;rw[OW rfl]at gy;subst gy;have h1:=hG.D (gx.D pz);refine QE O<|Qa<|Q8 O<|Qs O (go.I h1) O O<|xb (Zb O O) (λgz=>?_) (λgz=>Qqw Qp7 gz);refine QE O<|Qa<|Qs O (go.I h1) O O<|x (QC ⟨O,O,O,O,Z⟩)<|Qo<|Q7 [ZZ ⟨3,1,0,-1⟩] λb96 w36 g0 hb96 p0 =>
   Qw<|(UX (l:=[⟨3,1,0,-1⟩]) ((((gh.I gi).I Y).I h1).I g0) (p0.arr (L:=[]) od (n:=1) (cap:=1) (sz:=4) rfl og (Lp _))).S ?_
  rintro r97 w37 ⟨rfl,p4⟩;have hH:=h1.D (g0.D p4);refine QE O<|Qa<|Qs O (pp.I hH) O O<|x (QC ⟨O,O,O,O,Z⟩)<|Qo<|Q7 [ZZ ⟨3,2,0,-1⟩] λb103 w38 g2 hb103 p5 =>
   Qw<|(UX (l:=[⟨3,2,0,-1⟩]) (((gl.I gn).I hH).I g2) (p5.arr (L:=[]) od (n:=1) (cap:=1) (sz:=4) rfl og (Lp _))).S ?_
  rintro r104 w39 ⟨rfl,p6⟩;refine QE O<|Qb<|⟨(),La,hH.D (g2.D p6)⟩
 rintro z g w40 p7;exact Qj ⟨[.bool true],La,O,(gk.D Y).D p7⟩
theorem Qet (E:Kb w 4096):QT sV 47 [] w λr w'=>r=.bool true/\sW w w':=by
 refine Zk func47 ?_;refine Qc<|Qb<|QV (α:=Unit) [(0,4)] (λz=>[(0,.bool true)]) (λz w'=>sW w w') oh ?_ ?_
 ·refine Qr<|Qw<|(QdK E).S ?_;rintro T G ⟨rfl,I⟩;refine Qa<|Qw<|(QgZ G).S ?_;rintro r2 U ⟨rfl,J⟩;refine QE O<|Qb<|⟨(),La,I.D J⟩
 rintro z g V S;exact Qj ⟨[.bool true],La,O,S⟩
def J5:ByteArray:=⟨#[98,117,102,102,101,114]⟩
def Ud:Jj:=⟨J5,⟨[1,2],2,[0,1],[(0,1,1),(1,2,0)]⟩⟩
theorem QaF {α:Type}(q:α->Bool)(x:Int):∀(l:List α) (i:Nat),x∈ixs q i l↔∃k,∃h:k<l.length,x=((i+k:Nat):Int)/\q (l[k]'h)=true
 | [],i=>by simp[ixs]
 | y::l,i=>by
  rw[ixs];have ih:=QaF q x l (i+1);constructor
  ·intro h;by_cases J:q y=true
   ·rw[OT J]at h;rcases Ln.1 h with h|h
    ·exact⟨0,od,by rw[h];simp,J⟩
    obtain⟨k,S,E,G⟩:=ih.1 h;exact⟨k+1,by simp;omega,by rw[E];congr 1;omega,G⟩
   rw[OS J]at h;obtain⟨k,S,E,G⟩:=ih.1 h;exact⟨k+1,by simp;omega,by rw[E];congr 1;omega,G⟩
  rintro⟨k,S,E,G⟩;cases k with
  | zero =>
   have I:q y=true:=G;rw[OT I];exact Ln.2 (.inl (by rw[E];simp))
  | succ k =>
   have I:=ih.2 ⟨k,ou S,by rw[E];congr 1;omega,G⟩;split
   ·exact Lj _ I
   exact I
theorem QaM {α:Type}(q:α->Bool):∀(l:List α) (i:Nat),Yw (ixs q i l)
 | [],_=>List.Pairwise.nil
 | y::l,i=>by
  rw[ixs];split
  ·refine L5.2 ⟨λx hx=>?_,QaM q l (i+1)⟩;obtain⟨k,_,E,_⟩:=(QaF q x l (i+1)).1 hx;omega
  exact QaM q l (i+1)
theorem yq {c:Z6}(h:ZW c=0):XG c.ev=0:=by
 unfold ZW at h;by_cases E:XG c.ev≠0
 ·rw[OT E]at h;exact OV h E
 exact Lt.1 E
theorem yp {l:List Vl}(h:XG l=0):l.length<=32:=by
 unfold XG at h;by_cases E:32<l.length
 ·rw[OT E]at h;cases h
 omega
theorem Qht {l:List Vl}(h:XG l=0):Ye (unc l):=by
 refine⟨λx hx=>?_,QaM _ _ _⟩;obtain⟨k,E,e,_⟩:=(QaF _ _ _ _).1 hx;have:=yp h;omega
theorem QkW {l:List Vl}(h:XG l=0):(unc l).length<=32:=(Qht h).len
def hck (c:Z6)(hi:LI):Int :=
 if ZW c≠0 then ZW c else if 0<c.ex.length+c.cs.length then 13 else if JU (c.ev.length:Int) none hi≠0 then JU (c.ev.length:Int) none hi else
 if(c.rq.all λr=>decide (mrg (λp q=>p && !q) r.a.al hi=[]))=true then 0 else 9
theorem Qki {p:α->Bool}{l:List α}{k:Nat}(h:k<l.length):(l.drop k).all p=(p (l[k]'h) && (l.drop (k+1)).all p):=by rw[QW h,ME]
theorem Qgy {hi:LI}(h:Z9 [] ↑w c)(hH:Qu [] ↑w vh hi):
  QT sV 36 [c.val,vh] w λr w'=>r=sS (hck c.C hi)/\sW w w':=by
 have h8:=h.ex.arr.le;have h9:=h.cs.arr.le;have hA:=h.rq.arr.le;have h0:=hH.le;have E:hck c.C hi=if ZW c.C≠0 then ZW c.C else if 0<c.ex.length+c.cs.length then 13 else if JU (c.ev.length:Int) none hi≠0 then JU (c.ev.length:Int) none hi else
   if(c.rq.all λr=>decide (mrg (λp q=>p && !q) r.p.a.al hi=[]))=true then 0 else 9:=by
  unfold hck;rw[show c.C.ex.length=c.ex.length from Lm ..,show c.C.cs.length=c.cs.length from Lm ..,show c.C.rq=c.rq.map (·.it) from rfl,List.all_map];rfl
 refine Zd (hck c.C hi) λR hR=>?_;rw[hR]at E ⊢;refine Zk func36 ?_;refine Qc<|Zc c.cells λb2 w1 hs hB ht=>Qb<|Qe<|Qc<|QZ ht O O<|Qw<|(jR (h.I hs)).S ?_;rintro _ w2 ⟨rfl,hu⟩;refine Qb ?_;have G:=hs.D hu;have T:=ht.I hu;refine Ql<|ZL O O<|xe<|Zf rfl (λhc=>?_) (λhc=>?_)
 ·have J:ZW c.C≠0:=hc;rw[OT J]at E;refine Ql<|Qb<|Qj ⟨[_],La,by rw[E];rfl,G⟩
 have J:¬ZW c.C≠0:=hc;rw[OS J]at E;refine Qf<|Qe<|Qc<|Qs O T O O<|QG (h.ex.arr.I G) O<|Qs O T O O<|QG (h.cs.arr.I G) O<|QB O O<|x (Z7 O O)<|xe<|Zf rfl (λhe=>?_) (λhe=>?_)
 ·have hf:0<c.ex.length+c.cs.length:=by have hg:(c.ex.length:Int)+(c.cs.length:Int) > 0:=he;omega
  rw[OT hf]at E;refine Qc<|Qb<|Qj ⟨[_],La,by rw[E];rfl,G⟩
 have hf:¬0<c.ex.length+c.cs.length:=by have hg:¬(c.ex.length:Int)+(c.cs.length:Int) > 0:=he;omega
 rw[OS hf]at E;refine Qf<|Qe<|Ql<|Qs O T O O<|QG (h.ev.arr.I G) O<|Qw<|(qo (hH.I G) _).S ?_;rintro _ w3 ⟨rfl,rfl⟩;refine Qb<|Ql<|ZL O O<|xe<|Zf rfl (λhh=>?_) (λhh=>?_)
 ·have U:JU (c.ev.length:Int) none hi≠0:=hh;rw[OT U]at E;refine Ql<|Qb<|Qj ⟨[_],La,by rw[E];rfl,G⟩
 have U:¬JU (c.ev.length:Int) none hi≠0:=hh;rw[OS U]at E;have h1:=YN (Lt.1 J);have hC:c.ev.length<=32:=yp (yq (Lt.1 J));have hv:=(Xd _ _ _).1 (Lt.1 U);have h0:hi.length<=c.ev.length:=xG c.ev.length hi (hv.2.1.imp λhD e=>oa) hv.1;refine Qf ?_;have hw:=h.rq.arr.I G;refine Qe<|Qc<|Qs O T O O<|QG hw O<|Qa<|xe<|QX (α:=Nat) [(4,4),(8,8),(33,43)] (λz=>[(33,sS z)]) (λz w'=>z<=c.rq.length/\sW w3 w'/\R=if((c.rq.drop z).all λr=>decide (mrg (λp q=>p && !q) r.p.a.al hi=[]))=true then 0 else 9) (λz=>c.rq.length - z) 0 La ⟨Lo _,O4.Y _ _,by rw[NF];exact E⟩ ?_
 rintro k g w4 ⟨hk,hj,I⟩;have V:=G.D hj;refine Zi rfl O (λhm=>?_) (λhm=>?_)
 ·refine Qt ?_;have h2:c.rq.length<=k:=by have hg:¬(k:Int)<(c.rq.length:Int):=hm;omega
  rw[Lr h2,List.all_nil,OT rfl]at I;refine Qc<|Qb<|Qj ⟨[_],La,by rw[I];rfl,V⟩
 have S:k<c.rq.length:=by have hg:(k:Int)<(c.rq.length:Int):=hm;omega
 have hn:=Ll S;rw[Qki S]at I;refine Zd (c.rq[k]'S) λq hq=>?_;rw[hq]at hn I;have Y:=(h.rq.each q hn).I V;have hE:q.p.a.al.length<=32:=(h1.rq q.it (LG hn)).al_le;refine Qf<|Qe<|Qn<|Qc<|O7 (g:=Zm) (i:=k) (λ_=>O) (hw.I hj) O O S λhF hy=>?_;rw[hq]at hy;refine x (QF (us:=Zm q) hy O O)<|QS [.string .empty,nS,sS 0,nS,nS] λb8 w5 h3 h4 h5=>Q5 (Zm q) h5 ⟨O,Y.al.one,O,Y.mr.one,Y.ed.one,Z⟩ λw6 h6 h7=>xe ?_;have ha:sW w4 w6:=h3.Q h6 h4;refine Qc<|Q8 O<|Qs O h7 O O<|Qa<|Qw<|(jW (Y.al.I ha) (hH.I (V.D ha)) oa).S ?_;rintro _ w7 ⟨hz,rfl⟩;refine x (Zl O)<|xe<|Q3 rfl (λho=>?_) (λho=>?_)
 ·have hp:=Vd ho;rw[OY hp,Bool.false_and,OS MI]at I;refine Qc<|Qb<|Qj ⟨[_],La,by rw[I];rfl,V.D (ha.D hz)⟩
 have hp:=J6 ho;rw[OW hp,OK]at I;refine Qf<|Qr<|QB O O<|Qa<|xe ?_;exact⟨k+1,by show c.rq.length - (k+1)<c.rq.length - k;omega,La,S,(hj.D ha).D hz,I⟩
structure LvV where
 c:CL
 pa:O1
 pm:O1
 pe:O1
 p:Qz
 vh:O1
 vu:O1
 hi:LI
 un:LI
abbrev Yh (V:LvV):LV:=[V.c.ve,V.c.vc,V.c.vr,V.c.vx,V.c.vk,V.pa,sS V.p.st,V.pm,V.pe,V.vh,V.vu]
structure LvA (H:xz)(V:LvV):Prop where
 c:Z9 [] H V.c
 a:Zp [] H V.pa V.pm V.pe V.p
 h:Qu [] H V.vh V.hi
 u:Qu [] H V.vu V.un
theorem LvA.I {w w':O0}{V:LvV}(h:LvA ↑w V)(E:sW w w'):LvA ↑w' V:=⟨h.c.I E,h.a.I E,h.h.I E,h.u.I E⟩
theorem LvA.ones {H:xz}{V:LvV}(h:LvA H V):ZK (Yh V):=⟨h.c.ev.arr.one,h.c.co.arr.one,h.c.rq.arr.one,h.c.ex.arr.one,h.c.cs.arr.one,h.a.al.one,O,h.a.mr.one,h.a.ed.one,h.h.one,h.u.one,Z⟩
abbrev KS:LV:=[ZS,ZS,ZS,ZS,ZS,ZS,sS 0,ZS,ZS,ZS,ZS]
instance:Bw sV 113 KS [(0,5),(5,4),(9,1),(10,1)]:={}
structure LvK (k:CL)(hi:LI)(V:LvV):Prop where
 c:V.c=k
 p:V.p=Kz (O6 k.C.co)
 h:V.hi=hi
 u:V.un=unc k.C.ev
theorem K5 {hi:LI}(h:Z9 [] ↑w c)(hH:Qu [] ↑w vh hi)(hy:Kb w 4096)(ho:hck c.C hi=0->plE c.C=0):
  QT sV 51 [c.val,vh] w λr w'=>sW w w'/\∃us,r=.tuple #[sT us,sS (hck c.C hi)]/\us.length=11/\ZK us/\(hck c.C hi=0->∃V:LvV,us=Yh V/\LvA ↑w' V/\LvK c hi V):=by
 refine Zk func51 ?_;refine Qc<|Zc c.cells λb2 w1 hp hN hz=>QS KS λb4 w2 hq hO ha=>Qb ?_;have hc:=hp.D hq;have hQ:=hp.size;have hf:=hz.I hq;refine Qe<|Qc<|QZ hf O O<|Qa<|Qw<|(Qgy (h.I hc) (hH.I hc)).S ?_;rintro _ w3 ⟨rfl,G⟩;refine Zd (hck c.C hi) λE hE=>?_;rw[hE]at ho ⊢;refine Qb ?_;have S:=hc.D G;refine Ql<|ZL O O<|xe<|Zf rfl (λhg=>?_) (λhg=>?_)
 ·have T:E≠0:=hg;refine Qc<|x (Zw [] Z)<|Qa<|Q5 KS (ha.I G) ⟨O,O,O,O,O,O,O,O,O,O,O,Z⟩ λw4 h0 h1=>Qb<|Qj ⟨[sT KS,sS E],⟨JA h1,O,Z⟩,S.Q h0 oa,KS,O,O,⟨O,O,O,O,O,O,O,O,O,O,O,Z⟩,λe=>OV e T⟩
 have T:E=0:=Lt.1 hg;have h2:=ho T;refine Qf<|Qc<|QZ (hf.I G) O O<|Qw<|(QcX (h.I S) (hy.I S)).S ?_;rintro _ w5 ⟨U,va,vt,e,rfl,hP⟩;obtain⟨he,A,pa,pm,pe,qs,rfl,h3,hR,hok⟩:=hP.shape;rw[h2]at he;subst he;obtain⟨h4,h5,hT,hr⟩:=hok O;have h6:=(hr [] od).1;have h7:A=Kz (O6 c.C.co):=by unfold Kz;rw[h5]
 have h8:=S.D U;refine Qa<|QN O O<|QN O O<|QN O O<|QS Y7 λb7 w6 h9 hA hB=>Q5 [pa,sS A.st,pm,pe] hB h3 λw7 hC hD=>x Qd<|Qb ?_;have I:sW w5 w7:=h9.Q hC hA;have hs:=h8.D I;refine Qe<|Ql<|ZL O O<|xe<|Zz rfl<|Qf ?_;have ht:=(hf.I G).I (U.D I);have hS:=jX (h.ev.I hs);have hu:XG c.ev=0:=yq h4;rw[hu,OT rfl]at hS;refine Qc<|Qs O ht O O<|Qw<|hS.S ?_;rintro _ w9 ⟨J,vu,rfl,hh⟩;have hF:(unc c.ev).length<=32:=QkW hu;have hv:Qu [] ↑w9 vu (unc c.ev):=Qh.ints hh oa od;refine Qa<|QN O O<|QN O O<|x Qd<|Qb ?_;have hj:=hs.D J;have hG:sW w3 w9:=(U.D I).D J;have Y:LvA ↑w9 ⟨c,pa,pm,pe,A,vh,vu,hi,unc c.ev⟩:=⟨h.I hj,h6.I (I.D J),hH.I hj,hv⟩;refine Qc<|QZ (ht.I J) O O<|QZ (hD.I J) O O<|Qa<|Qa<|x (Zw [(0,c.cells),(1,[pa,sS A.st,pm,pe]),(2,[vh]),(3,[vu])] ⟨O,O,O,O,hH.cells,O,hv.cells,O,Z⟩)<|x VC <|
  Q5 (Yh ⟨c,pa,pm,pe,A,vh,vu,hi,unc c.ev⟩) ((ha.I G).I hG) Y.ones λhw hk hI=>Qb ?_
 have hn:sW w hw:=hj.Q hk oa;refine Qj ⟨[sT (Yh ⟨c,pa,pm,pe,A,vh,vu,hi,unc c.ev⟩),sS 0],⟨JA hI,O,Z⟩,hn,_,by rw[T];rfl,O,Y.ones,λ_=>⟨⟨c,pa,pm,pe,A,vh,vu,hi,unc c.ev⟩,O,?_,⟨O,h7,O,O⟩⟩⟩;have hJ:∀L:LN,(∀b∈L,b<↑w3)->Zp L ↑w5 pa pm pe A:=λL Y=>(hr L Y).1;have hK:b4<w3.heap.size:=(ha.I G).lt;have hM:Zp [] ↑hw pa pm pe A:=(((hJ [b4] (λb hb=>by rw[Lb.1 hb];exact hK)).I (I.D J)).st hk).up λb hb=>by cases hb
 exact⟨h.I hn,hM,hH.I hn,Qh.ints (Qg hh hk λb hb hm=>by have:=(Qi hh b hb).1;rw[Lb.1 hm]at this;have:=(U.D I).size;omega) (Lx hF og) od⟩
theorem xcH {x:O2}{l:List O2}
   {first:LV} (E:∃fn,Fu P g fn) (hx:ev f x=.func (.func g) first.toArray capt.toArray) (h:QT P g (first++l.map (ev f)++capt) w λv w'=>K (QO f d v) w'):
  XO P ⟨d,.call ⟨.value x,l.toArray,at_⟩,ty,pS,af,gd⟩ f w K:=by
 obtain⟨fn,G⟩:=E;exact xc (fn:=fn) hx h
structure RpV where
 t:Bool
 vs:O1
 o:Bool
 vw:O1
 vo:O1
 c:Bool
 vp:O1
 ev:Int
abbrev ZB (R:RpV):LV:=[.bool R.t,R.vs,.bool R.o,R.vw,R.vo,.bool R.c,R.vp,sS R.ev]
abbrev rp8:RpV:=⟨false,nS,false,nS,nS,false,nS,0⟩
structure yK (L:LN)(H:xz)(V:LvV)(i:Nat)(R:RpV):Prop where
 ones:ZK (ZB R)
 p1:0<i->R.t=(nbl V.p).2/\Qu L H R.vs (nbl V.p).1
 p2:1<i->R.o=(obs V.p V.hi []).isNone/\Qu L H R.vw ((obs V.p V.hi []).elim [] (·.1))/\Qu L H R.vo ((obs V.p V.hi []).elim [] (·.2))
 p3:2<i->R.c=(cns V.p V.hi V.un).isNone/\R.ev=(cns V.p V.hi V.un).elim (-1) (·.2)/\Qu L H R.vp ((cns V.p V.hi V.un).elim [] (·.1))
theorem Qu.sb {b:Nat}{v:O1}(h:Qu L ↑w v l)(hb:b∈L)(E:O4 [b] w w'):Qu L ↑w' v l:=Zr.J h E λx hx=>by rw[Lb.1 hx];exact hb
theorem Yq.b {N b:Nat}{L:LN}{w w':O0}{v:O1}{l:LI}(h:Yq N ↑w v l)(hL:∀x∈L,x<N)(hb:b∈L)(E:O4 [b] w w'):Qu L ↑w' v l:=Qu.sb (h L hL) hb E
theorem yK.J {b:Nat}{V:LvV}{R:RpV}(h:yK L ↑w V i R)(hb:b∈L)(E:O4 [b] w w'):yK L ↑w' V i R :=
 ⟨h.ones,λhi=>⟨(h.p1 hi).1,Qu.sb (h.p1 hi).2 hb E⟩,λhi=>⟨(h.p2 hi).1,Qu.sb (h.p2 hi).2.1 hb E,Qu.sb (h.p2 hi).2.2 hb E⟩,λhi=>⟨(h.p3 hi).1,(h.p3 hi).2.1,Qu.sb (h.p3 hi).2.2 hb E⟩⟩
theorem upN {H:xz}{v:O1}(h:Qu L H v l):Qu [] H v l:=h.up λb hb=>by cases hb
theorem yK.nil {H:xz}{V:LvV}{R:RpV}(h:yK L H V i R):yK [] H V i R :=
 ⟨h.ones,(λhi=>⟨(h.p1 hi).1,upN (h.p1 hi).2⟩),(λhi=>⟨(h.p2 hi).1,upN (h.p2 hi).2.1,upN (h.p2 hi).2.2⟩),(λhi=>⟨(h.p3 hi).1,(h.p3 hi).2.1,upN (h.p3 hi).2.2⟩)⟩
theorem yK.I {L:LN}{i:Nat}{w w':O0}{V:LvV}{R:RpV}(h:yK L ↑w V i R)(E:sW w w'):yK L ↑w' V i R :=
 ⟨h.ones,λhi=>⟨(h.p1 hi).1,(h.p1 hi).2.I E⟩,λhi=>⟨(h.p2 hi).1,(h.p2 hi).2.1.I E,(h.p2 hi).2.2.I E⟩,λhi=>⟨(h.p3 hi).1,(h.p3 hi).2.1,(h.p3 hi).2.2.I E⟩⟩
section
variable {w0:O0}{V:LvV}{b:Nat}{R:RpV}(hbL:b∈L)(hlt:∀x∈L,x<↑w)(hw:sW w0 w)(hL:LvA ↑w0 V)(hp:j0 V.p)(hB:QK ↑w b 118 (ZB R++Yh V))
include hbL hlt hw hL hp hB
theorem QkZ (hR:yK L ↑w V 0 R):
  QT sV 124 [sP b] w λr w'=>r=sS 0/\O4 [b] w w'/\∃R',QK ↑w' b 118 (ZB R'++Yh V)/\yK L ↑w' V 1 R':=by
 have h:=hL.I hw;refine Zk func124 ?_;refine Qc<|Qb<|Ql<|Qa<|Qa<|Z1 O<|Q8 O<|Q8 O<|x (ZQ (us:=[V.pa,sS V.p.st,V.pm,V.pe]) hB O O O)<|Qo<|Q7 [[V.pa,sS V.p.st,V.pm,V.pe]] λb11 T E hf U =>
  Qw<|(yD (q:=⟨V.pa,V.pm,V.pe,V.p⟩) ⟨U.arr od (n:=1) (cap:=1) (sz:=4) rfl og (OE _),λp hp=>by rw[List.mem_singleton.1 hp];exact h.a.I E⟩ hp.ok (Int.le_trans hp.s9 og)).S ?_
 rintro _ w2 ⟨Y,v,rfl,G⟩;have I:=E.D Y;refine Qa<|QN O O<|QN O O<|QN O O<|Z1 O<|Q8 O<|Q8 O<|Qo<|Qv (u:=v) (hB.I I) O O (L3 O) G.ints.one λw3 J ha =>
  Z1 rfl<|Q8 O<|Q8 O<|Qo<|Qv (u:=.bool (nbl V.p).2) ha O O (L3 O) O λw4 S hc=>Qb ?_
 have he:∀x∈L,x<T.heap.size:=λx hx=>LS (hlt x hx) E.size;refine Ql<|Qb<|Qj ⟨[_],La,O,(I.any.V J).V S,⟨(nbl V.p).2,v,R.o,R.vw,R.vo,R.c,R.vp,R.ev⟩,hc,⟨?_,λ_=>⟨O,Qu.sb (Yq.b G he hbL J) hbL S⟩,λh=>OV h og,λh=>OV h og⟩⟩;obtain⟨_,_,o3⟩:=hR.ones;exact⟨O,G.ints.one,o3⟩
theorem QkY (hi:Ye V.hi)(hR:yK L ↑w V 1 R):
  QT sV 125 [sP b] w λr w'=>r=sS 0/\O4 [b] w w'/\∃R',QK ↑w' b 118 (ZB R'++Yh V)/\yK L ↑w' V 2 R':=by
 have h:=hL.I hw;have hd:sW w { w with drawn:=w.drawn+1 }:=O4.X _ _
 refine Zk func125 ?_;refine Qc<|Qb<|Qe<|ZH [] (Xc 0 32 [13,22,26,30])<|p Qy<|p Qy<|p Qy<|p Qy<|p (YI O)<|p (QH O)<|p (QH O)<|pq (λ_ J=>ZQ (us:=[V.pa,sS V.p.st,V.pm,V.pe]) (hB.I J) O O O) <|
  p Qy<|p (YI O)<|p (QH O)<|p (QH O)<|pq (λ_ J=>Qk (hB.I J) O O)<|pkk<|xg<|(QcZ (w:={ w with drawn:=w.drawn+1 }) (h.a.I hd) (h.h.I hd) hp hi).S ?_
 rintro _ w2 ⟨ha,Y,v2,rfl,S,T⟩;have U:=hd.D ha;refine p Qy<|p (λ_=>Q0 O O)<|p (λ_=>Q0 O O)<|p (λ_=>Q0 O O)<|p (λ_=>Q0 O O) <|
  p (YI rfl)<|p (QH O)<|p (QH O)<|pkk<|Qv (u:=Y) (hB.I U) O O (L3 O) S.ints.one λw3 E he=>p (YI O) <|
  p (QH rfl)<|p (QH O)<|pkk<|Qv (u:=v2) he O O (L3 O) T.ints.one λw4 G hf=>p (YI O)<|p (QH O) <|
  p (QH rfl)<|pkk<|Qv (u:=.bool (obs V.p V.hi []).isNone) hf O O (L3 O) O λw5 I hg=>p ZI<|pe ?_
 refine Ql<|Qb ?_;have hh:yK L ↑w5 V 1 R:=⟨hR.ones,λh=>⟨(hR.p1 h).1,Qu.sb (Qu.sb (Qu.sb ((hR.p1 h).2.I U) hbL E) hbL G) hbL I⟩,λh=>OV h og,λh=>OV h og⟩;refine Qj ⟨[_],La,O,((U.any.V E).V G).V I,⟨R.t,R.vs,(obs V.p V.hi []).isNone,Y,v2,R.c,R.vp,R.ev⟩,hg,⟨?_,λ_=>hh.p1 og,λ_=>⟨O,Qu.sb (Qu.sb (Yq.b S hlt hbL E) hbL G) hbL I,Qu.sb (Qu.sb (Yq.b T hlt hbL E) hbL G) hbL I⟩,λh=>OV h og⟩⟩;obtain⟨_,o2,_,_,_,o6⟩:=hR.ones;exact⟨O,o2,O,S.ints.one,T.ints.one,o6⟩
theorem QkX (hi:Ye V.hi)(Y:Ye V.un)(hR:yK L ↑w V 2 R):
  QT sV 126 [sP b] w λr w'=>r=sS 0/\O4 [b] w w'/\∃R',QK ↑w' b 118 (ZB R'++Yh V)/\yK L ↑w' V 3 R':=by
 have h:=hL.I hw;have hd:sW w { w with drawn:=w.drawn+1 }:=O4.X _ _
 refine Zk func126 ?_;refine Qc<|Qb<|Qe<|ZH [] (Xc 0 37 [18,27,31,35])<|p Qy<|p Qy<|p Qy<|p Qy<|p (YI O)<|p (QH O)<|p (QH O)<|pq (λ_ E=>ZQ (us:=[V.pa,sS V.p.st,V.pm,V.pe]) (hB.I E) O O O) <|
  p Qy<|p (YI O)<|p (QH O)<|p (QH O)<|pq (λ_ E=>Qk (hB.I E) O O)<|p Qy<|p (YI O)<|p (QH O)<|p (QH O)<|pq (λ_ E=>Qk (hB.I E) O O) <|
  pkk<|xg<|(qL (w:={ w with drawn:=w.drawn+1 }) (h.a.I hd) (h.h.I hd) (h.u.I hd) hp hi Y).S ?_
 rintro _ w2 ⟨ha,U,rfl,G⟩;have I:=hd.D ha;refine p Qy<|p (λ_=>Q0 O O)<|p (λ_=>Q0 O O)<|p (λ_=>Q0 O O)<|p (λ_=>Q0 O O) <|
  p (YI rfl)<|p (QH O)<|p (QH O)<|pkk<|Qv (u:=U) (hB.I I) O O (L3 O) G.ints.one λw3 J he=>p (YI O) <|
  p (QH rfl)<|p (QH O)<|pkk<|Qv (u:=sS ((cns V.p V.hi V.un).elim (-1) (·.2))) he O O (L3 O) O λw4 S hf=>p (YI O)<|p (QH O) <|
  p (QH rfl)<|pkk<|Qv (u:=.bool (cns V.p V.hi V.un).isNone) hf O O (L3 O) O λw5 T hg=>p ZI<|pe ?_
 refine Ql<|Qb ?_;have s:∀{v:O1} {l:LI},Qu L ↑w v l->Qu L ↑w5 v l:=λhv=>Qu.sb (Qu.sb (Qu.sb (hv.I I) hbL J) hbL S) hbL T;refine Qj ⟨[_],La,O,((I.any.V J).V S).V T,⟨R.t,R.vs,R.o,R.vw,R.vo,(cns V.p V.hi V.un).isNone,U,(cns V.p V.hi V.un).elim (-1) (·.2)⟩,hg,⟨?_,λ_=>⟨(hR.p1 og).1,s (hR.p1 og).2⟩,λ_=>⟨(hR.p2 og).1,s (hR.p2 og).2.1,s (hR.p2 og).2.2⟩,λ_=>⟨O,O,Qu.sb (Qu.sb (Yq.b G hlt hbL J) hbL S) hbL T⟩⟩⟩;obtain⟨o1,o2,o3,o4,o5,_⟩:=hR.ones;exact⟨o1,o2,o3,o4,o5,O,G.ints.one,O,Z⟩
end
def gT (i:Nat):Nat:=if i=0 then 124 else if i=1 then 125 else 126
theorem Qqg (i:Nat):∃fn,Fu sV (gT i) fn:=by
 unfold gT;by_cases E:i=0
 ·rw[OT E];exact⟨_,inferInstance⟩
 rw[OS E];by_cases G:i=1
 ·rw[OT G];exact⟨_,inferInstance⟩
 rw[OS G];exact⟨_,inferInstance⟩
theorem QnB {w0:O0}{V:LvV}{b:Nat}{R:RpV}(hbL:b∈L)(hlt:∀x∈L,x<↑w)(hw:sW w0 w)(hL:LvA ↑w0 V)(hp:j0 V.p)(hi:Ye V.hi)(E:Ye V.un)(hB:QK ↑w b 118 (ZB R++Yh V))(hR:yK L ↑w V i R)(I:i<3):
  QT sV (gT i) [sP b] w λr w'=>r=sS 0/\O4 [b] w w'/\∃R',QK ↑w' b 118 (ZB R'++Yh V)/\yK L ↑w' V (i+1) R':=by
 have G:i=0\/i=1\/i=2:=oa
 rcases G with rfl|rfl|rfl
 ·exact QkZ hbL hlt hw hL hp hB hR
 ·exact QkY hbL hlt hw hL hp hB hi hR
 exact QkX hbL hlt hw hL hp hB hi E hR
abbrev tsN (i:Nat):ByteArray:=if i=0 then⟨#[116,114,105,109]⟩else if i=1 then⟨#[111,98,115,101,114,118,101,114]⟩else⟨#[99,111,110,115,105,115,116,101,110,116]⟩
abbrev tsC (i:Nat):LV:=[.string (tsN i),.func (.func (gT i)) #[] #[]]
theorem Qhu :QT sV 52 [] w λr w'=>sW w w'/\∀L:LN,(∀b∈L,b<↑w)->Zr L ↑w' r 3 2 ([0,1,2].flatMap tsC):=by
 refine Zk func52 ?_;refine Qc<|Qb<|Qc<|x (QC ⟨O,O,Z⟩)<|x (QC ⟨O,O,Z⟩)<|x (QC ⟨O,O,Z⟩)<|Qo<|Yg (us:=[tsC 0,tsC 1,tsC 2]) O O og od ⟨rfl,rfl,rfl,rfl,rfl,rfl,Z⟩ λE S G T I=>Qb<|Qj ⟨[_],⟨rfl,Z⟩,G,λL hL=>I.arr (λJ=>OV (hL E J) oa) (n:=3) (cap:=3) (sz:=2) rfl og (Lp _)⟩
abbrev QpZ:LV:=ZB rp8++KS
instance:Bw sV 118 QpZ [(0,8),(8,11)]:={}
instance:Bw sV 59 (ZB rp8) [(0,1),(1,1),(2,1),(3,1),(4,1),(5,1),(6,1),(7,1)]:={}
structure HOk (k:Z6)(hi:LI):Prop where
 e:plE k=0
 p:j0 (Kz (O6 k.co))
theorem zV {k:Z6}{hi:LI}(h:hck k hi=0):Ye hi/\Ye (unc k.ev):=by
 unfold hck at h;by_cases E:ZW k≠0
 ·rw[OT E]at h;exact OV h E
 rw[OS E]at h;have I:=yq (Lt.1 E);by_cases J:0<k.ex.length+k.cs.length
 ·rw[OT J]at h;cases h
 rw[OS J]at h;by_cases G:JU (k.ev.length:Int) none hi≠0
 ·rw[OT G]at h;exact OV h G
 have S:=(Xd _ _ _).1 (Lt.1 G);have hl:=yp I;exact⟨⟨λx hx=>oo (S.1 x hx),S.2.1⟩,Qht I⟩
theorem QfO {hi:LI}(h:Z9 [] ↑w c)(hH:Qu [] ↑w vh hi)(h3:Kb w 4096)(Y:hck c.C hi=0->HOk c.C hi):
  QT sV 15 [c.val,vh] w λr w'=>sW w w'/\∃R:RpV,r=.tuple #[sT (ZB R),sS (hck c.C hi)]/\ZK (ZB R)/\(hck c.C hi≠0->R=rp8)/\(hck c.C hi=0->∃V:LvV,LvK c hi V/\yK [] ↑w' V 3 R):=by
 refine Zk func15 ?_;refine Qc<|Zc c.cells λb2 w1 hq gj h4=>QS (ZB rp8) λJ w2 hr gk hs=>Qb ?_;have T:=hq.D hr;have gl:=hq.size;refine Qc<|QZ (h4.I hr) O O<|Qa<|Qw<|(K5 (h.I T) (hH.I T) (h3.I T) λe=>(Y e).e).S ?_;rintro _ w3 ⟨ht,us,rfl,h5,h6,hV⟩;have ha:=zV (k:=c.C) (hi:=hi);refine Zd (hck c.C hi) λE hE=>?_;rw[hE]at Y hV ha ⊢;refine Qa<|QN O O<|QN O O<|QS KS λb6 w4 h7 h8 h9=>Qo<|Zu (us:=us) h9 O O h5 O h6 λw5 hA hB=>Qb ?_;have hc:sW w3 w5:=h7.Q hA h8;have hC:=T.D ht;have hu:=hC.D hc;have he:=(hs.I ht).I hc;refine Qe<|Ql<|ZL O O<|xe<|Zf rfl (λhf=>?_) (λhf=>?_)
 ·have I:E≠0:=hf;refine Qc<|x (Zw [] Z)<|Qa<|Q5 (ZB rp8) he ⟨O,O,O,O,O,O,O,O,Z⟩ λw6 hD hF=>Qb<|Qj ⟨[sT (ZB rp8),sS E],⟨JA hF,O,Z⟩,hu.Q hD oa,rp8,O,⟨O,O,O,O,O,O,O,O,Z⟩,λ_=>O,λe=>OV e I⟩
 have I:E=0:=Lt.1 hf;obtain⟨V,rfl,hL,hK⟩:=hV I;have hp:j0 V.p:=by rw[hK.p];exact(Y I).p
 have hG:Ye V.hi:=by rw[hK.h];exact(ha I).1
 have hI:Ye V.un:=by rw[hK.u];exact(ha I).2
 have hJ:=hL.I hc;refine Qf<|Qc<|QZ hB O O<|x (Zw [(1,Yh V)] ⟨O,O,Z⟩)<|Zc (ZB rp8++Yh V) λG w7 hM hN hv=>Qb ?_;have gm:=hs.lt;refine Qe<|Qc<|Qw<|Qhu.S ?_;rintro v8 w8 ⟨hw,hP⟩;have hQ:=hv.lt;have hy:Zr [G] ↑w8 v8 3 2 ([0,1,2].flatMap tsC):=hP [G] λb hb=>by rw[Lb.1 hb];exact hQ
 refine QG hy O<|Qa<|xe ?_;have hR:=hM.D hw;have hS:yK [J,G] ↑w8 V 0 rp8:=⟨⟨O,O,O,O,O,O,O,O,Z⟩,(λh=>OV h og),(λh=>OV h og),(λh=>OV h og)⟩;refine QX (α:=Nat×RpV) [(5,5),(10,11),(27,39)] (λz=>[(27,sS z.1)]) (λz w'=>z.1<=3/\O4 [G] w8 w'/\QK ↑w' G 118 (ZB z.2++Yh V)/\yK [J,G] ↑w' V z.1 z.2) (λz=>3 - z.1) (0,rp8) La ⟨Lo _,O4.Y _ _,hv.I hw,hS⟩ ?_;rintro⟨k,R⟩ g w9 ⟨hk,hg,hh,S⟩;simp only[]at hk hh S;have hj:sW w5 w9:=hR.Q hg hN;have hT:=hu.D hj;refine Zi rfl O (λhm=>?_) (λhm=>?_)
 ·refine Qt ?_;have hU:k=3:=by have hn:¬(k:Int)<(3:Nat):=hm;omega
  subst hU;refine Ql<|Z1 O<|Q8 O<|x (ZQ (us:=ZB R) hh O O O)<|Q5 (ZB R) (he.I hj) S.ones λgn hz ho=>Qb<|Qj ⟨[sT (ZB R),sS 0],⟨JA ho,O,Z⟩,hT.Q hz oa,R,by rw[I];rfl,S.ones,λe=>OV I e,λ_=>⟨V,hK,?_⟩⟩;have hW:=S.J (b:=J) od hz;exact hW.nil
 have hlt:k<[0,1,2].length:=by have hn:(k:Int)<(3:Nat):=hm;show k<3;omega
 have hX:([0,1,2]:LN)[k]'hlt=k:=by
  have hY:k=0\/k=1\/k=2:=by have hn:k<3:=hlt;omega
  rcases hY with rfl|rfl|rfl <;> rfl
 refine Qf<|Qe<|Qn<|Qc<|O7 (g:=tsC) (es:=[0,1,2]) (i:=k) (λ_=>O) (hy.st hg) O O hlt λgo h0=>?_;rw[hX]at h0;refine x (QF (us:=tsC k) h0 O O)<|QS [.string .empty,.nilFunc] λb10 gq hZ ga ho=>Q5 (tsC k) ho ov λh1 gb gc=>xe ?_;have U:sW w9 h1:=hZ.Q gb ga;have h2:=hh.I U;have ge:∀x∈[J,G],x<h1.heap.size:=λx hx=>by
  simp only[oK,oH,or_false]at hx;have:=he.lt;have:=h2.lt;rcases hx with rfl|rfl <;> omega
 refine Qc<|Qs O gc O O<|Qa<|Qo<|xcH (first:=[]) (capt:=[]) (Qqg k) O<|(QnB (b:=G) (L:=[J,G]) od ge (hj.D U) hJ hp hG hI h2 (S.I U) hlt).S ?_;rintro _ gr ⟨rfl,gg,R',gh,gi⟩;refine Qb<|Ql<|ZL O O<|xe<|Zz rfl<|Qf<|Qr<|QB O O<|Qa<|xe ?_;exact⟨(k+1,R'),by show 3 - (k+1)<3 - k;have hn:k<3:=hlt;omega,La,hlt,(hg.V U.any).V gg,gh,gi⟩
theorem Qlq {U e1 e2 V Y n1 n2:Nat}{E G:O1}{c1 c2:LV}(h1:w.ownsRow T e1 V E n1 c1)(h2:w.ownsRow U e2 Y G n2 c2)(he:e1≠e2):∀b∈ob E,b∉ob G:=by
 intro b hb I;rcases h1.2 with⟨rfl,_⟩|⟨g,cap,cur,rfl,_,J,_⟩
 ·cases hb
 rcases h2.2 with⟨rfl,_⟩|⟨g',cap',cur',rfl,_,S,_⟩
 ·cases I
 have ha:b=g:=Lb.1 hb;have hc:b=g':=Lb.1 I;rw[<-ha]at J;rw[<-hc,J]at S;injection S with h3
 injection h3 with h4 h5
 exact he h5
theorem Qgx (h:Zp [] ↑w va vm ve a):
  QT sV 166 [.agg #[va,sS a.st,vm,ve]] w λr w'=>sW w w'/\∃va' vm' ve',r=.agg #[va',sS a.st,vm',ve']/\Qh 3 ↑w w' va' a.al/\Qh 3 ↑w w' vm' a.mr/\w'.ownsRow ↑w 179 3 ve' a.ed.length (a.ed.flatMap Qp):=by
 refine Zk func166 ?_;refine Qc<|Zc [va,sS a.st,vm,ve] λb1 w1 hj hy hr=>QS Y7 λb2 G hk hz hn=>xe ?_;have I:=hj.D hk;have h0:=hj.size;have J:=hr.I hk;have U:sW G { G with drawn:=G.drawn+1 }:=O4.X _ _
 refine Qe<|ZH [] [oz 0,oz 1,oz 3,oz 4,oz 5,oz 6,oz 8,oz 9,oA 2,oA 7,oA 10,oz 11,oA 12]<|p (QH O)<|pq (λ_ E=>Qk (J.I E) O O)<|p (QH O)<|pq (λ_ E=>Qk (J.I E) O O)<|p (QH O)<|pq (λ_ E=>Qk (J.I E) O O)<|p (QH O)<|pq (λ_ E=>Qk (J.I E) O O) <|
  pk<|xg<|(ZU (w:={ G with drawn:=G.drawn+1 }) ((h.al.I I).I U)).S ?_
 rintro V w3 ⟨hs,ht⟩;have S:=U.D hs;refine⟨S,?_⟩;refine pk<|xg<|(ZU (h.mr.I (I.D S))).S ?_;rintro Y w4 ⟨hp,hu⟩;have T:=S.D hp;refine⟨T,?_⟩;refine pk<|xg<|(yk (h.ed.I (I.D T))).S ?_;rintro v5 w5 ⟨ha,he⟩;have hf:=T.D ha;refine⟨hf,?_⟩;have hg:=Qm ht (hp.D ha);have hh:=Qm hu ha;have hv:=hn.I hf;refine p (λ_=>QC ⟨xK hg,O,xK hh,xK he,Z⟩)<|pkk<|UQ [V,sS a.st,Y,v5] hv ⟨QA hg,O,QA hh,QA he,Z⟩ λw6 hq hw=>pe ?_;have h1:=I.size;have k:∀{e sz n N:Nat} {v:O1} {cs:LV},w5.ownsRow N e sz v n cs->↑G<=N->w6.ownsRow ↑w e sz v n cs:=λho hN=>Q9 (Qg ho hq λb hb hm=>by have:=(Qi ho b hb).1;rw[Lb.1 hm]at this;have:=hn.lt;omega) oa;exact Qj ⟨[.agg #[V,sS a.st,Y,v5]],⟨JA hw,Z⟩,(I.D hf).Q hq oa,V,Y,v5,O,k hg U.size,k hh S.size,k he T.size⟩
def yL (c:Z6)(A:Qz):Z6:=⟨c.ev,[⟨(c.co.map (·.nm)).headD .empty,A⟩],c.rq,[],[]⟩
def coP (N:Nat)(ev:List Vl)(q:IV)(i:Nat)(v:O1)(w:O0):Prop :=
 if i=3 then w.ownsRow N 94 5 v ev.length (ev.flatMap Zv) else
 if i=12 then ∃b,v=sL b 1 1/\N<=b/\QK ↑w b 81 (Zm q) else
 if i=13 then ∃ve b,v=.agg #[ve,sL b 1 1,ZS,ZS,ZS]/\w.ownsRow N 94 5 ve ev.length (ev.flatMap Zv)/\N<=b/\QK ↑w b 81 (Zm q) else
 ∃b,v=sP b/\N<=b/\QK ↑w b 46 KR
theorem QjS {ev:List Vl}{q:IV}(i:Nat)(v:O1)(w w':O0)(h:coP N ev q i v w)(E:sW w w'):coP N ev q i v w':=by
 unfold coP at *;by_cases e1:i=3
 ·rw[OT e1]at *;exact Qm h E
 rw[OS e1]at *;by_cases e2:i=12
 ·rw[OT e2]at *;obtain⟨b,G,I,J⟩:=h;exact⟨b,G,I,J.I E⟩
 rw[OS e2]at *;by_cases e3:i=13
 ·rw[OT e3]at *;obtain⟨ve,b,G,I,J,S⟩:=h;exact⟨ve,b,G,Qm I E,J,S.I E⟩
 rw[OS e3]at *;obtain⟨b,G,I,J⟩:=h;exact⟨b,G,I,J.I E⟩
theorem QgK {V:LvV}(h:LvA ↑w V)(hp:j0 V.p)(hi:Ye V.hi)(hu:0<V.c.co.length):
  QT sV 91 [sT (Yh V)] w λr w'=>sW w w'/\∃us,r=.tuple #[sT us,sS 0]/\us.length=5/\ZK us/\Qm3 ↑w ↑w' (sT us) (yL V.c.C (Z3 V.p V.hi)):=by
 refine Zk func91 ?_;refine Qc<|Zc (Yh V) λb1 w1 gh ph ka=>QS KR λb2 w2 gi pj gj=>Qb ?_;have hD:=gh.D gi;have pn:=gh.size;have hR:=ka.I gi;refine Qc<|Q8 O<|x (ZQ (us:=[V.pa,sS V.p.st,V.pm,V.pe]) hR O O O)<|Qs O hR O O<|Qw<|(yC (h.a.I hD) (h.h.I hD) hp.ok hi.b hi.i hp.s9 hp.e).S ?_;rintro _ w3 ⟨hE,_,vt,rfl,po,Y,ha,he,rfl,hS⟩;have hF:=hS [] od;have kb:=hD.D hE;have kc:=hD.size;refine Qa<|QN O O<|QN O O<|QN O O<|QS Y7 λb4 w4 ke kf kg=>Q5 [Y,sS (Z3 V.p V.hi).st,ha,he] kg ⟨hF.al.one,O,hF.mr.one,hF.ed.one,Z⟩ λI kh gk=>x Qd<|Qb<|Zd (Z3 V.p V.hi) λA hA=>?_;rw[hA]at hS hF gk;have hv:sW w3 I:=ke.Q kh kf;have hw:=kb.D hv;refine Qe<|Ql<|ZL O O<|xe<|Zz rfl<|Qf ?_;have hT:=(hR.I hE).I hv;obtain⟨J,hG⟩:∃J,V.c.co[0]'hu=J:=⟨_,O⟩;have ki:J∈V.c.co:=hG ▸ Ll hu;have kj:=h.c.co.arr.I hw;have kk:=h.c.ev.arr.I hw;refine Qe<|K7 (α:=O1×Nat×Nat) (sW I) [oz 0,oz 1,oz 2,oz 4,oz 5,oz 6,oz 7,oz 8,oz 9,oz 10,oz 11] (λi=>if i=13 then[3,12]else[]) [3,12,13,14] [oA 15] [(26,26),(35,36),(7,7)] (coP ↑I V.c.ev ⟨J.nm,⟨Y,ha,he,A⟩⟩)
  (λz=>[(36,.agg #[z.1,.slice (some ⟨z.2.1,0,none⟩) 1 1,ZS,ZS,ZS]),(7,.pointer (some ⟨z.2.2,0,none⟩))]) (λz w'=>w'.ownsRow ↑I 94 5 z.1 V.c.ev.length (V.c.ev.flatMap Zv)/\↑I<=z.2.1/\QK ↑w' z.2.1 81 (Zm ⟨J.nm,⟨Y,ha,he,A⟩⟩)/\↑I<=z.2.2/\QK ↑w' z.2.2 46 KR)
  mixed oh oc (O4.X _ _) (λ_ _ h1 h2=>h1.D h2) QjS ?_ ?_
 ·rintro g w' ⟨_,_,⟨hf,hH,kn,h1,h2,h3⟩,⟨ko,kq,h4,h5⟩,_⟩ _;exact⟨(hf,hH,ko),⟨kn,kq,Z⟩,h1,h2,h3,h4,h5⟩
 refine p (QH O)<|p (QH O)<|pq (λ_ E=>Qk (hT.I E) O O)<|p (QH O)<|p (QH O)<|pq (λ_ E=>Qk (hT.I E) O O)<|Lg.pig (g:=Zm) (i:=0) O (λ_=>O) kj O O hu λpp gl=>?_;rw[hG]at gl;refine p (λ_=>ZF O)<|pq (λ_ E=>Qq ((gl.fld 0 (.string J.nm) O).I E) O)<|pq (λ_ E=>Zh (gk.I E) O O)<|p (λ_=>Zw [(0,[.string J.nm]),(1,[Y,sS A.st,ha,he])] ⟨O,O,O,O,Z⟩) <|
  pe ⟨⟨?_,?_,?_,?_,Z⟩,?_⟩
 ·rintro g w' E _;exact xg<|(Qd6 (kk.I E)).S λr gm ⟨hs,ho⟩=>⟨hs,Q9 ho E.size,X0 ho⟩
 ·rintro g w' E _;exact Q7 [Zm ⟨J.nm,⟨Y,ha,he,A⟩⟩] λb gm hs hb hB=>⟨hs,⟨b,O,Lx E.size hb,ou hB⟩,λc hy=>by rw[List.mem_singleton.1 (show c∈[b] from hy)];exact⟨hb,hB.lt⟩⟩
 ·rintro g w' E ⟨h3,⟨hH,kr,kt,ku⟩,_⟩;refine xv (Zw [(0,[_]),(1,[sL hH 1 1])] ⟨xK (show w'.ownsRow _ _ _ _ _ _ from h3),O,OU Value.cells kr,O,Z⟩) ?_;exact⟨O4.Y _ _,⟨_,hH,O,h3,kt,ku⟩,λc hy=>by cases hy⟩
 ·rintro g w' E _;exact YR (us:=KR) O λb gm hs hb hB=>⟨hs,⟨b,O,Lx E.size hb,hB⟩,λc hy=>by rw[Lb.1 (show c∈[b] from hy)];exact⟨hb,hB.lt⟩⟩
 rintro⟨hf,T,b7⟩ g w6 gn ⟨hI,go,hU,hJ,hK⟩;simp only[]at hI go hU hJ hK;refine pk<|UQ [hf,sL T 1 1,ZS,ZS,ZS] hK ⟨QA hI,O,O,O,O,Z⟩ λw7 hM gq=>⟨gn.Q hM hJ,pe ?_⟩;have hN:sW I w7:=gn.Q hM hJ;have kv:=Qg hI hM λb hb S=>VE hI hK og (Lb.1 S ▸ hb);have gr:T≠b7:=QK.ne hU hK og;have gs:=hU.J hM (by simp only[oF];exact gr);have kw:=hw.D hN;have kx:=hT.I hN;have kz:=hN.size;have pt:=h.c.rq.arr.le;have k0:=h.c.rq.arr.I kw;refine Qe<|Qc<|Q8 O<|Qs O kx O O<|QG k0 O<|Qa<|xe<|QX (α:=Nat×O1×List IV) [(9,9),(41,56)] (λz=>[(41,sS z.1)]) (λz w'=>z.1<=V.c.rq.length/\sW I w'/\w'.ownsRow ↑I 94 5 hf V.c.ev.length (V.c.ev.flatMap Zv)/\QK ↑w' T 81 (Zm ⟨J.nm,⟨Y,ha,he,A⟩⟩)/\T∉ob z.2.1/\QK ↑w' b7 46 [hf,sL T 1 1,z.2.1,ZS,ZS]/\IvP ↑w7 w' z.2.1 z.2.2/\w7.heap.size<=↑w'/\z.2.2.length=z.1/\z.2.2.map IV.it=(V.c.rq.take z.1).map IV.it) (λz=>V.c.rq.length - z.1) (0,ZS,[]) La
  ⟨Lo _,hN,kv,gs,(λS=>by cases S),gq,K8.nil,Lp _,rfl,rfl⟩ ?_
 rintro⟨k,vr,qs⟩ g w8 ⟨hk,hz,h0,gt,gu,hO,U,k4,gv,h6⟩;simp only[]at hk gu hO U gv h6;have hV:=hw.D hz;have hW:b7∉ob vr:=VE U.own hO og;refine Zi rfl O (λhX=>?_) (λhX=>?_)
 ·refine Qt ?_;have k5:V.c.rq.length<=k:=by have k6:¬(k:Int)<(V.c.rq.length:Int):=hX;omega
  rw[Lq k5]at h6;have k9:=(gj.I (hE.D hv)).I hz;have ma:=gj.lt;have pu:=hE.size;have pw:=hv.size;refine Qc<|QZ hO O O<|Q5 [hf,sL T 1 1,vr,ZS,ZS] k9 ⟨QA h0,O,QA U.own,O,O,Z⟩ λw9 hg mc=>Qb ?_;have n2:∀{b:Nat},↑I<=b->b∉[b2]:=λhb S=>by rw[Lb.1 S]at hb;omega
  have hY:=Qg h0 hg λb hb=>n2 (Qi h0 b hb).1;have gx:IvP ↑w7 w9 vr qs:=U.low hg λb hb=>by rw[Lb.1 hb];omega
  have mf:=gt.J hg (n2 go);have pz:O4 [b2] I w9:=hz.any.V hg;have mg:=h.c.ev.arr.le;refine Qj ⟨[.agg #[hf,sL T 1 1,vr,ZS,ZS],sS 0],⟨JA mc,O,Z⟩,hV.Q hg oa,_,O,O,⟨QA hY,O,QA gx.own,O,O,Z⟩,
   ⟨hf,sL T 1 1,vr,ZS,ZS,V.c.ev,[⟨J.nm,⟨Y,ha,he,A⟩⟩],qs,[],[]⟩,O,?_,λL hL=>?_⟩
  ·rw[hA];unfold yL;have mh:(V.c.C.co.map (·.nm)).headD .empty=J.nm:=by
    show((V.c.co.map IV.it).map (·.nm)).headD .empty=_;cases gy:V.c.co with
    | nil=>rw[gy]at hu;cases hu
    | cons z zs=>simp only[gy]at hG;rw[<-hG];rfl
   rw[mh];show(⟨V.c.ev,[⟨J.nm,A⟩],qs.map IV.it,[],[]⟩:Z6)=_;rw[h6];rfl
  have hZ:∀b∈L,b<I.heap.size:=λb hb=>LS (hL b hb) hw.size;have mj:∀b∈b2::L,b<w2.heap.size:=λb hb=>by
   rcases Ln.1 hb with rfl|hb
   ·exact ma
   exact LS (hL b hb) kc
  have mo:Zp L ↑w9 Y ha he A:=(((hS (b2::L) mj).I (hv.D hz)).st (hg.S λb hb=>by rw[Lb.1 hb];exact Lk)).up λb hb=>.inl (Lj _ hb);refine⟨⟨QM hY mg λb hb mq=>oq (Qi hY b hb).1 (hZ b mq),h.c.ev.nm⟩,⟨?_,λq G=>by rw[Lb.1 G];exact mo,λq G=>by rw[Lb.1 G];exact h.c.co.nm J ki⟩,gx.itms oa (λq G=>?_) (λb hb=>LS (hZ b hb) kz),⟨Zr.nil _ _ _,(λq G=>by cases G),(λq G=>by cases G)⟩,⟨Zr.nil _ _ _,(λq G=>by cases G),(λq G=>by cases G)⟩⟩
  ·exact mf.arr (λS=>oo (hZ T S)) (n:=1) (cap:=1) (sz:=5) O og (Lp _)
  have:q.it∈V.c.rq.map IV.it:=h6 ▸ LG G;obtain⟨q',ms,e⟩:=Ly.1 this;have e':q'.nm=q.nm:=OU Jj.nm e;rw[<-e'];exact h.c.rq.nm q' ms
 have hn:k<V.c.rq.length:=by have k6:(k:Int)<(V.c.rq.length:Int):=hX;omega
 have gz:=Ll hn;have g0:V.c.rq.take (k+1)=V.c.rq.take k++[V.c.rq[k]'hn]:=Lh hn;refine Zd (V.c.rq[k]'hn) λq G=>?_;rw[G]at gz g0;have hj:=(h.c.rq.each q gz).I hV;refine Qf<|Qe<|Qn<|Qc<|O7 (g:=Zm) (i:=k) (λ_=>O) (h.c.rq.arr.I hV) O O hn λp0 g2=>?_;rw[G]at g2;refine x (QF (us:=Zm q) g2 O O)<|QS [.string .empty,nS,sS 0,nS,nS] λb9 w9 hg mt mu=>Q5 (Zm q) mu ⟨O,hj.al.one,O,hj.mr.one,hj.ed.one,Z⟩ λhr mv g3=>xe ?_;have hP:sW w8 hr:=hg.Q mv mt;have ga:=hO.I hP;have gb:=hP.size;have g4:b9∉ob vr:=λS=>oo (QU U.own b9 S)
 have g5:sW hr { hr with drawn:=hr.drawn+1 }:=O4.X _ _
 refine ZH (ob vr) (Xc 0 12 [6,8,9,11])<|p (QH O)<|pq (λ_ E=>Qk (ga.J E hW) O O)<|p (QH O)<|pq (λ_ E=>Qk (g3.J E g4) O O)<|p (QH O)<|pq (λ_ E=>ZQ (us:=[q.p.va,sS q.p.a.st,q.p.vm,q.p.ve]) (g3.J E g4) O O O) <|
  pk<|xg<|(Qgx (w:={ hr with drawn:=hr.drawn+1 }) ((hj.I hP).I g5)).S ?_
 rintro _ p4 ⟨mw,ca,cm,ce,rfl,my,mz,m0⟩;have gc:=g5.D mw;refine⟨gc.any,?_⟩;refine p (λ_=>Zw [(0,[.string q.nm]),(1,[ca,sS q.p.a.st,cm,ce])] ⟨O,O,O,O,Z⟩)<|pk<|Q7 [Zm ⟨q.nm,⟨ca,cm,ce,q.p.a⟩⟩] λp5 p6 h7 p7 m1=>⟨(gc.D h7).any,?_⟩;have h8:=gc.D h7;have h9:=hP.D h8;have p8:=h8.size;have g6:=Qm my h7;have g7:=Qm mz h7;have g8:=Qm m0 h7;refine pk<|Q2 (m:=1) (news:=Zm ⟨q.nm,⟨ca,cm,ce,q.p.a⟩⟩) (L:=[]) (Qm U.own h9) O O O (by have:=m1.at (L:=[]) od;simpa using this) (ZK.all (us:=Zm ⟨q.nm,⟨ca,cm,ce,q.p.a⟩⟩) ⟨rfl,QA g6,rfl,QA g7,QA g8,Z⟩) oa oa λhQ m2 ge hh m3=>⟨h8.any.V hh,?_⟩;refine p (QH O)<|pkk<|Qv (u:=hQ) ((ga.I h8).J hh hW) O O (L3 O) (QA ge) λgg hC m4=>pe ?_;refine Qr<|QB O O<|Qa<|xe ?_;have m5:=hj.al.le;have m6:=hj.mr.le;have m7:=hj.ed.le;have m8:IvP ↑w7 m2 hQ (qs++[⟨q.nm,⟨ca,cm,ce,q.p.a⟩⟩]):=K8.app U h9 (λt ht=>by
  simp only[oK,oH,or_false]at ht;rcases ht with rfl|rfl|rfl
  ·exact⟨_,_,g6,m5,gb⟩
  ·exact⟨_,_,g7,m6,gb⟩
  exact⟨_,_,g8,m7,gb⟩) k4 ge hh m3
 have m9:=gq.lt;have pc:=gs.lt;have pd:IvP ↑w7 gg hQ (qs++[⟨q.nm,⟨ca,cm,ce,q.p.a⟩⟩]):=m8.low hC λb hb=>by rw[Lb.1 hb];exact m9
 have p9:=hh.size;have qf:=hC.size;have g9:=Qg (Qm h0 h9) hh λb hb=>Qlq h0 U.own og b hb;have pf:=Qg g9 hC λb hb S=>VE g9 ((ga.I h8).J hh hW) og (Lb.1 S ▸ hb);have pg:sW I gg:=((hz.D h9).O hh λb hb=>.inr (oo (Qi U.own b hb).1)).Q hC hJ;refine⟨(k+1,hQ,qs++[⟨q.nm,⟨ca,cm,ce,q.p.a⟩⟩]),by show V.c.rq.length - (k+1)<V.c.rq.length - k;omega,La,hn,pg,pf,((gt.I h9).J hh gu).J hC (by simp only[oF];exact gr),QJ ge pc,m4,pd,by show w7.heap.size<=↑gg;omega,by show(qs++[_]).length=k+1;rw[Lc,gv];rfl,?_⟩;simp only[];rw[g0,Lv,Lv,h6];rfl
theorem Qey {ps:List AV}(h:XY [] ↑w vl ps)(ho:∀p∈ps,QY p.a)(ha:Kb w 4096):
  QT sV 43 [vl] w λr w'=>sW w w'/\∃va,r=.tuple #[va,sS (KK (ps.map (·.a)))]/\(KK (ps.map (·.a))≠0->va=zA)/\(KK (ps.map (·.a))=0->Xb ↑w ↑w' va (Kz (ps.map (·.a)))):=by
 refine Zk func43 ?_;refine Qc<|QS qz λb2 w1 E he S=>Qb<|Ql<|Qw<|(Uu (km:=4096) (h.I E) (ha.I E) og (Qav ho)).S ?_;rintro r2 w2 ⟨hf,vA,vt,c,rfl,hR⟩;have I:=hR.e;obtain⟨a,xa,xm,G,qs,rfl,T,hp,_⟩:=hR.shape;refine Qa<|QN O O<|QN O O<|QN O O<|QS qz λb4 w3 hg hh hj=>Q5 [xa,sS a.st,xm,G] hj T λw4 hk hm =>
  x Qd<|Qb ?_
 have U:sW w2 w4:=hg.Q hk hh;have V:=hf.D U;refine Qc<|QZ hm O O<|Qa<|Q5 [xa,sS a.st,xm,G] (S.I V) T λw5 Y hn=>Qb<|Qj ⟨[.agg #[xa,sS a.st,xm,G],sS c],⟨JA hn,O,Z⟩,(E.D V).Q Y he,.agg #[xa,sS a.st,xm,G],?_,λJ=>?_,λJ=>?_⟩
 ·show Value.tuple _=Value.tuple _;rw[I]
 ·exact(hR.bad (by rw[I];exact J)).1
 have h1:=(hR.good (by rw[I];exact J)).1;exact(Xe (h1.I U) S.lt Y).S E.size
def lgP (N:Nat)(a b:Qz)(i:Nat)(v:O1)(w:O0):Prop :=
 if i=1 then ∃b1 m1 m2,v=sP b1/\N<=b1/\N<=m1/\N<=m2/\Mch ↑w b1 m1 m2 a
 else if i=3 then ∃b1 m1 m2,v=sP b1/\N<=b1/\N<=m1/\N<=m2/\Mch ↑w b1 m1 m2 b
 else ∃bb,v=sP bb/\N<=bb/\QK ↑w bb 152 [.pointer none]
theorem QlP {b:Qz}:∀i v w w',lgP N a b i v w->sW w w'->lgP N a b i v w':=by
 intro i v w w' h G;unfold lgP at h ⊢;split
 ·rename_i I;rw[OT I]at h;obtain⟨J,S,T,e,E,U,V,Y⟩:=h;exact⟨J,S,T,e,E,U,V,Y.I G⟩
 rename_i I;rw[OS I]at h;split
 ·rename_i h2;rw[OT h2]at h;obtain⟨J,S,T,e,E,U,V,Y⟩:=h;exact⟨J,S,T,e,E,U,V,Y.I G⟩
 rename_i h2;rw[OS h2]at h;obtain⟨bb,e,E,hB⟩:=h;exact⟨bb,e,E,hB.I G⟩
theorem YX {κ:Type}{enc:κ->O1}{H:xz}{b:Nat}{m:List (κ×O1)}(h:ZP enc H b m)(E:QK H G T cs):b≠G:=by
 intro e;subst e;obtain⟨es,c,I,_⟩:=h;unfold QK at E;rw[I]at E;cases E
structure LgZ where
 p1:Nat
 p2:Nat
 p3:Nat
 q1:Nat
 q2:Nat
 q3:Nat
 b10:Nat
 b11:Nat
theorem VF {wa wm we:O1}{b:Qz}(hA:Zp [] ↑w va vm ve a)(V:Zp [] ↑w wa wm we b)(kd:Int):
  QT sV 30 [.agg #[va,sS a.st,vm,ve],.agg #[wa,sS b.st,wm,we],sS kd] w λr w'=>sW w w'/\∃v e,r=.tuple #[v,.bool e,sS (lgE a b kd)] /\
   (lgE a b kd=0->match lgq a b kd with|none=>v=Zo/\e=true|some u=>e=false/\Qh 3 ↑w w' v u):=by
 refine Zd (lgE a b kd) λE hE=>?_;refine Zd (lgq a b kd) λR hR=>?_;rw[hE,hR];refine Zk func30 ?_;refine Qc<|Zc [va,sS a.st,vm,ve] λb3 w1 hJ ge hK=>Zc [wa,sS b.st,wm,we] λb4 w2 h4 gg hL=>Zc [sS kd] λb5 w3 ht gh h5=>x Qd <|
  x Qd<|Qb ?_
 have hN:=(hJ.D h4).D ht;have h6:=(hK.I h4).I ht;have h7:=hL.I ht;refine Qe<|Qc<|ZA h5 O O<|QZ h6 O O<|QZ h7 O O<|Qo<|Q7 [[va,sS a.st,vm,ve],[wa,sS b.st,wm,we]] λhO w4 h8 gi hP=>?_;have hu:=hN.D h8;have hQ:XY [] ↑w4 (sL hO 2 2) [⟨va,vm,ve,a⟩,⟨wa,wm,we,b⟩]:=⟨hP.arr od (n:=2) (cap:=2) (sz:=4) rfl oa (Lp _),λp hp=>by
  simp only[oK,oH,or_false]at hp;rcases hp with rfl|rfl
  ·exact hA.I hu
  exact V.I hu⟩
 have hck:=QdI hQ kd;rw[show[(⟨va,vm,ve,a⟩:AV),⟨wa,wm,we,b⟩].map (·.a)=[a,b] from rfl,Qqq,hE]at hck;refine Qw<|hck.S ?_;rintro r5 w5 ⟨rfl,hk⟩;refine Qb ?_;have hq:=hu.D hk;have hv:=h8.D hk;refine Ql<|ZL O O<|xe<|Zf rfl (λhw=>?_) (λhw=>?_)
 ·refine Ql<|x Qd<|x Qd<|Qb<|Qj ⟨[Zo,.bool false,sS E],ox,hq,Zo,false,O,λh0=>OV h0 hw⟩
 have h9:E=0:=Lt.1 hw;have hok:QY a/\QY b:=by
  have Y:lgE a b kd=0:=hE.D h9;unfold lgE at Y;by_cases h2:X2 a≠0
  ·rw[OT h2]at Y;exact OV Y h2
  rw[OS h2]at Y;by_cases h3:X2 b≠0
  ·rw[OT h3]at Y;exact OV Y h3
  exact⟨(Zx a).1 (Lt.1 h2),(Zx b).1 (Lt.1 h3)⟩
 refine Qf ?_;have hC:=h6.I hv;have hD:=h7.I hv;have hT:=h5.I hv;have hU:=hA.I hq;have hV:=V.I hq;refine QV (α:=LgZ) [(22,25),(10,11)] (λz=>[(10,.pointer (some ⟨z.b10,0,none⟩)),(11,.pointer (some ⟨z.b11,0,none⟩))]) (λz w'=>sW w5 w'/\Mch ↑w' z.p1 z.p2 z.p3 a/\Mch ↑w' z.q1 z.q2 z.q3 b/\QK ↑w' z.b10 152 [.pointer (some ⟨z.p1,0,none⟩)]/\QK ↑w' z.b11 152 [.pointer (some ⟨z.q1,0,none⟩)]) oh ?_ ?_
 ·refine K7 (α:=LgZ) (sW w5) [oz 0,oz 2] (λ_=>[]) [1,3,4,5] [oA 6,oA 7] [(23,23),(25,25),(10,11)] (lgP ↑w5 a b)
   (λz=>[(23,.pointer (some ⟨z.p1,0,none⟩)),(25,.pointer (some ⟨z.q1,0,none⟩)),(10,.pointer (some ⟨z.b10,0,none⟩)),(11,.pointer (some ⟨z.b11,0,none⟩))])
   (λz w'=>Mch ↑w' z.p1 z.p2 z.p3 a/\Mch ↑w' z.q1 z.q2 z.q3 b/\QK ↑w' z.b10 152 [.pointer none]/\QK ↑w' z.b11 152 [.pointer none]/\(z.b10≠z.b11/\z.p1≠z.b10/\z.p1≠z.b11/\z.q1≠z.b10/\z.q1≠z.b11)/\↑w5<=z.b10/\↑w5<=z.b11)
   mixed oh oc (O4.X _ _) (λ_ _ Y h2=>Y.D h2) QlP ?_ ?_
  ·rintro g w' ⟨⟨p1,p2,p3,e1,_,_,_,I⟩,⟨q1,q2,q3,e2,_,_,_,J⟩,⟨b10,e3,hn,S⟩,⟨b11,e4,hr,T⟩,_⟩ ho;refine⟨⟨p1,p2,p3,q1,q2,q3,b10,b11⟩,⟨e1,e2,e3,e4,Z⟩,I,J,S,T,?_,hn,hr⟩;have d1:=ho 4 od 5 od og;have d2:=ho 1 od 4 od og;have d3:=ho 1 od 5 od og;have d4:=ho 3 od 4 od og;have d5:=ho 3 od 5 od og;rw[e3,e4]at d1;rw[e1,e3]at d2;rw[e1,e4]at d3;rw[e2,e3]at d4;rw[e2,e4]at d5;simp only[ow,oF,forall_eq]at d1 d2 d3 d4 d5;exact⟨d1,d2,d3,d4,d5⟩
  refine pq (λ_ G=>Zh (hC.I G) O O)<|pq (λ_ G=>Zh (hD.I G) O O)<|pe ⟨⟨?_,?_,?_,?_,Z⟩,?_⟩
  ·intro g w' G _;refine xg<|(jx (hU.I G) hok.1).S ?_;rintro r5 w6 ⟨hf,b1,m1,m2,rfl,n1,n2,n3,hM⟩;have hz:=G.size;exact⟨hf,⟨b1,m1,m2,O,Lx hz n1,Lx hz n2,Lx hz n3,hM⟩,λc hg=>by rw[Lb.1 (show c∈[b1] from hg)];exact⟨n1,hM.B.lt⟩⟩
  ·intro g w' G _;refine xg<|(jx (hV.I G) hok.2).S ?_;rintro r5 w6 ⟨hf,b1,m1,m2,rfl,n1,n2,n3,hM⟩;have hz:=G.size;exact⟨hf,⟨b1,m1,m2,O,Lx hz n1,Lx hz n2,Lx hz n3,hM⟩,λc hg=>by rw[Lb.1 (show c∈[b1] from hg)];exact⟨n1,hM.B.lt⟩⟩
  ·intro g w' G _;exact YR (us:=[.pointer none]) O λb w5 hk hb V=>⟨hk,⟨b,O,Lx G.size hb,V⟩,λc hg=>by rw[Lb.1 (show c∈[b] from hg)];exact⟨hb,V.lt⟩⟩
  ·intro g w' G _;exact YR (us:=[.pointer none]) O λb w5 hk hb V=>⟨hk,⟨b,O,Lx G.size hb,V⟩,λc hg=>by rw[Lb.1 (show c∈[b] from hg)];exact⟨hb,V.lt⟩⟩
  rintro⟨p1,p2,p3,q1,q2,q3,b10,b11⟩ g w6 hF ⟨I,J,S,T,hh,hn,hr⟩;simp only[]at I J S T hh hn hr;have k1:=YX I.e S;have k2:=YX I.m S;have k3:=YX J.e S;have k4:=YX J.m S;have j1:=YX I.e T;have j2:=YX I.m T;have j3:=YX J.e T;have j4:=YX J.m T;refine pk<|Qv (u:=sP p1) S O O od rfl λw7 hj hW=>⟨hF.Q hj hn,?_⟩;refine pkk<|Qv (u:=sP q1) (T.J hj (by simp only[oF];exact λe=>hh.1 e.symm)) O O od rfl λw8 U hX=>pe ?_;have s1:∀{x:Nat},x≠b10->x∉[b10]:=λh hm=>h (Lb.1 hm);have s2:∀{x:Nat},x≠b11->x∉[b11]:=λh hm=>h (Lb.1 hm);exact⟨⟨p1,p2,p3,q1,q2,q3,b10,b11⟩,ov,(hF.Q hj hn).Q U hr,(I.J hj (s1 hh.2.1) (s1 k1) (s1 k2)).J U (s2 hh.2.2.1) (s2 j1) (s2 j2),(J.J hj (s1 hh.2.2.2.1) (s1 k3) (s1 k4)).J U (s2 hh.2.2.2.2) (s2 j3) (s2 j4),hW.J U (s2 hh.1),hX⟩
 rintro⟨p1,p2,p3,q1,q2,q3,b10,b11⟩ g w6 ⟨hf,I,J,S,T⟩;simp only[]at I J S T;have hs:=hq.D hf;have gj:=hs.size;have hY:=hC.I hf;have hZ:=hD.I hf;have ga:=hT.I hf;have hy:sW w6 { w6 with drawn:=w6.drawn+1 }:=O4.X _ _
 have gk:=hA.al.le;have gl:=V.al.le;have gm:=hok.1.al_le;have gn:=hok.2.al_le;refine Qe<|ZH [] [oz 0,oz 1,oz 2,oz 3,oz 5,oz 6,oz 7,oA 4,oA 8,oz 9,oz 10,oz 11,oz 12,oz 13]<|p (QH O)<|pq (λ_ G=>Qk (hY.I G) O O)<|p (QH O)<|pq (λ_ G=>Qk (hZ.I G) O O) <|
  pq (λ_ G=>Qk (S.I G) O O)<|pq (λ_ G=>Qk (T.I G) O O)<|p (λ_=>Zj (l:=[]) (l':=[_,_,_])) <|
  pk<|xg<|(yy ((hA.al.I hs).I hy) ((V.al.I hs).I hy) oa).S ?_
 rintro r7 w7 ⟨hj,gb⟩;have ha:=hy.D hj;have go:=ha.size;refine⟨ha,?_⟩;have gq:(mrg (· || ·) a.al b.al).length<=64:=by
  have:=qV (· || ·) a.al b.al;omega
 have hS:=Qf3 (kd:=kd) (g:=72) (cap:=[sP b10,sP b5,sP b11]) (Qh.ints (L:=[]) gb oa od) (I.I ha) (J.I ha) hok.1 hok.2
  (λs t w8 U=>QiP ((S.I ha).I U) ((T.I ha).I U) ((ga.I ha).I U) ((I.I ha).I U) ((J.I ha).I U) s t)
 have gc:lgL a b kd (mrg (· || ·) a.al b.al) ((a.st.toNat+1)*(b.st.toNat+1)+1) 0 [⟨fst a,fst b,-1,0⟩]=R:=hR;rw[gc]at hS;refine pk<|xg<|hS.S ?_;rintro r8 w8 ⟨U,hG⟩;have hH:=ha.D U;refine⟨hH,?_⟩;have he:∃v e,r8=.tuple #[v,.bool e]/\(match R with|none=>v=Zo/\(!e)=true|some u=>(!e)=false/\Qh 3 ↑w7 w8 v u):=by
  cases R with
  | none=>exact⟨Zo,false,hG,O,O⟩
  | some u=>obtain⟨v,Y,h2⟩:=hG;exact⟨v,true,Y,O,h2⟩
 refine Exists.elim he λv he=>Exists.elim he λe he=>And.elim (λhI he=>?_) he;refine p Qy<|p (λ_=>Q0 (show ev _ _=_ from hI) O)<|p (λ_=>Q0 (show ev _ _=_ from hI) O)<|p ZI<|p ZI<|pe ?_;refine Ql<|Qa<|x (Zl O)<|x Qd<|x Qd<|Qb<|Qj ⟨[v,.bool (!e),sS 0],ox,hs.D hH,v,!e,by rw[h9];rfl,λ_=>?_⟩;cases R with
 | none=>exact he
 | some u=>exact⟨he.1,Q9 he.2 oa⟩
abbrev Ja (c:Z6):Qz:=Kz (O6 c.co)
abbrev Ya (c:Z6)(hi:LI):Z6:=yL c (Z3 (Ja c) hi)
def qY (c:Z6)(hi:LI):Int:=if qb (Ya c hi)≠0 then qb (Ya c hi) else KK [Ja c,KM (Ya c hi)]
def qC (c:Z6)(hi:LI):Qz:=Kz [Ja c,KM (Ya c hi)]
def hsE (c:Z6)(hi:LI):Int:=if hck c hi≠0 then hck c hi else qb (Ya c hi)
def hgE (c:Z6)(hi:LI):Int:=if hck c hi≠0 then hck c hi else qY c hi
def hcE (c:Z6)(hi:LI):Int:=if qY c hi≠0 then qY c hi else qb c
def hcR (c:Z6)(hi:LI):Option (LI):=match lgq (qC c hi) (KM c) 1 with|some u=>some u|none=>lgq (qC c hi) (KM c) 2
theorem QhE {l:List Qz}(I:∀a∈l,QY a)(h:KK l=0):QY (Kz l):=by
 unfold KK at h;by_cases E:KG l≠0
 ·rw[OT E]at h;exact OV h E
 rw[OS E]at h;cases G:xj l with
 | none=>rw[G]at h;cases h
 | some z =>
  have e:Kz l=z.1:=by unfold Kz;rw[G]
  rw[e];exact(YO I (A:=z.1) (Q:=z.2) G).1.okay I
theorem zK {b:Qz}(E:QY a)(hb:QY b){kd:Int}(G:kd=1\/kd=2):lgE a b kd=0:=by
 unfold lgE;rw[OS (by rw[(Zx a).2 E];simp),OS (by rw[(Zx b).2 hb];simp),OS oa]
theorem Qmc (c:Z6)(hi:LI):Ya c hi=⟨c.ev,[⟨(c.co.map (·.nm)).headD .empty,Z3 (Ja c) hi⟩],c.rq,[],[]⟩:=rfl
instance:Bw sV 53 Y7 [(0,1),(1,1),(2,1),(3,1)]:={}
theorem Xy:ZK Y7:=oy
theorem Qoa {E G I:O1}{J:Qz}{b:Nat}(T:QK ↑w b 53 ([ZG ⟨va,vm,ve,a⟩,ZG ⟨E,G,I,J⟩]:List (LV)).flatten)(h:Zp [] ↑w va vm ve a)(U:Zp [] ↑w E G I J):
  XY [] ↑w (sL b 2 2) [⟨va,vm,ve,a⟩,⟨E,G,I,J⟩]:=
 ⟨T.arr od rfl oa (Lp 2),λp S=>by
  rcases Ln.1 S with rfl|S
  ·exact h
  rw[Lb.1 S];exact U⟩
theorem Qcb {V:LvV}(h:LvA ↑w V)(hj:Kb w 4096)(hp:j0 V.p)(hi:Ye V.hi)(hm:0<V.c.co.length):
  QT sV 92 [sT (Yh V)] w λr w'=>sW w w'/\∃us,r=.tuple #[sT us,sS (qb (yL V.c.C (Z3 V.p V.hi)))]/\us.length=4/\ZK us/\(qb (yL V.c.C (Z3 V.p V.hi))≠0->us=Y7)/\(qb (yL V.c.C (Z3 V.p V.hi))=0->Xb ↑w ↑w' (sT us) (KM (yL V.c.C (Z3 V.p V.hi)))):=by
 refine Zk func92 ?_;refine Qc<|Zc (Yh V) λb1 w1 U h5 hn=>QS Y7 λb2 w2 Y h6 ha=>Qb ?_;have hc:=U.D Y;have h7:=U.size;refine Qc<|QZ (hn.I Y) O O<|Qw<|(QgK (h.I hc) hp hi hm).S ?_;rintro _ w3 ⟨I,us,rfl,he,ho,k,hk,hf,hq⟩;refine Zd (yL V.c.C (Z3 V.p V.hi)) λT hT=>?_;rw[hT]at hf ⊢;refine Qa<|QN O O<|QN O O<|QS KR λb4 w4 hr hs ht=>Qo<|Zu (us:=us) ht O O he O ho λw5 hu hv=>Qb ?_;have G:sW w3 w5:=hr.Q hu hs;have J:=(hc.D I).D G;have hw:=J.size;refine Qe<|Ql<|ZL O O<|xe<|Zz rfl<|Qf ?_;have hy:Z9 [] ↑w5 k:=(hq [] od).I G;have hS:=JX hy (hj.I J);rw[<-hk,hf]at hS;refine Qc<|QZ hv O he<|Qw<|hS.S ?_;rintro _ w7 ⟨hg,sa,sm,se,rfl,E,hz,h0⟩;have h2:=((ha.I I).I G).I hg;have h3:=ha.lt;refine QN rfl O<|QN O O<|Q5 [sa,sS (if YL T=0 then(KM T).st else 0),sm,se] h2 ⟨E.1,O,E.2.1,E.2.2.1,Z⟩ λw8 hh h4=>Qb<|Qj ⟨[.agg #[sa,sS (if YL T=0 then(KM T).st else 0),sm,se],sS (qb T)],⟨JA h4,O,Z⟩,(J.D hg).Q hh oa,_,O,O,⟨E.1,O,E.2.1,E.2.2.1,Z⟩,λhE=>?_,λhE=>?_⟩
 ·obtain⟨e1,e2,e3⟩:=hz hE;have S:¬YL T=0:=hE;rw[e1,e2,e3,OS S]
 have S:YL T=0:=hE;rw[OT S];refine⟨sa,sm,se,O,λL hL=>?_⟩;have h1:=h0 hE (b2::L) λb hb=>by
  rcases Ln.1 hb with rfl|hb
  ·exact LS h3 (Lx I.size G.size)
  exact LS (hL b hb) hw
 exact(h1.st (hh.S λb hb=>by rw[Lb.1 hb];exact Lk)).up λb hb=>.inl (Lj _ hb)
theorem Qca {V:LvV}{c:Z6}{hi':LI}(h:LvA ↑w V)(hn:Kb w 4096)(hp:j0 V.p)(hi:Ye V.hi)(h1:0<V.c.co.length)(hc:V.c.C=c)(ha:V.p=Ja c)(h2:V.hi=hi'):
  QT sV 66 [sT (Yh V)] w λr w'=>sW w w'/\∃us,r=.tuple #[sT us,sS (qY c hi')]/\us.length=4/\ZK us/\(qY c hi'≠0->us=Y7)/\(qY c hi'=0->Xb ↑w ↑w' (sT us) (qC c hi')):=by
 have hT:yL V.c.C (Z3 V.p V.hi)=Ya c hi':=by rw[hc,ha,h2]
 have G:qY c hi'=if qb (Ya c hi')≠0 then qb (Ya c hi') else KK [V.p,KM (Ya c hi')]:=by unfold qY;rw[ha]
 have ho:qC c hi'=Kz [V.p,KM (Ya c hi')]:=by unfold qC;rw[ha]
 refine Zd (qY c hi') λE hE=>?_;rw[hE]at G ⊢;refine Zk func66 ?_;refine Qc<|Zc (Yh V) λb1 w1 hr hO hs=>QS Y7 λb2 w2 he hP h3=>Qb ?_;have hf:=hr.D he;have hQ:=hr.size;have hS:=Qcb (h.I hf) (hn.I hf) hp hi h1;rw[hT]at hS;refine Qc<|QZ (hs.I he) O O<|Qw<|hS.S ?_;rintro _ w3 ⟨hg,us,rfl,h4,h5,h6,hh⟩;refine Zd (qb (Ya c hi')) λF hF=>?_;have ht:F=0->QY (KM (Ya c hi')):=λe=>KL (hF.D e);rw[hF]at G h6 hh;refine Zd (KM (Ya c hi')) λS h7=>?_;rw[h7]at G ho hh ht;refine Qa<|QN O O<|x (Q0 O (OU (λi=>some (sS i)) hF))<|QS Y7 λb4 w4 h8 h9 hA=>Qo<|Zu (us:=us) hA O O h4 O h5 λw5 hB hD=>Qb ?_;have T:sW w3 w5:=h8.Q hB h9;have hu:=(hf.D hg).D T;have hj:=(h3.I hg).I T;refine Qe<|Ql<|ZL O O<|xe<|Zf rfl (λhk=>?_) (λhk=>?_)
 ·have I:F≠0:=hk;rw[OT I]at G;refine Qc<|x (Zw [] Z)<|Qa<|Q5 Y7 hj Xy λw6 hG hH=>Qb<|Qj ⟨[sT Y7,sS F],⟨JA hH,O,Z⟩,hu.Q hG oa,Y7,by rw[G];rfl,O,Xy,λ_=>O,λe=>OV (G.symm.D e) I⟩
 have I:F=0:=Lt.1 hk;rw[OS (λe=>e I)]at G;refine Qf ?_;obtain⟨sa,sm,se,hI,hJ⟩:=hh I;have hK:us=[sa,sS S.st,sm,se]:=by
  have:=Value.agg.inj hI;exact OU Array.toList this
 subst hK;have hL:=hJ [] od;refine Qc<|Q8 O<|x (ZQ (us:=[V.pa,sS V.p.st,V.pm,V.pe]) (((hs.I he).I hg).I T) O O O)<|QZ hD O O<|Qo<|Q7 [ZG ⟨V.pa,V.pm,V.pe,V.p⟩,ZG ⟨sa,sm,se,S⟩] λhR w7 U hU hM=>?_;have Y:=hu.D U;have hC:=Qey (Qoa hM (h.a.I Y) (hL.I (T.D U))) (λq hq=>by
  rcases Ln.1 hq with rfl|hq
  ·exact hp.ok
  rw[Lb.1 hq];exact ht I) (hn.I Y)
 simp only[oS,OC]at hC;rw[<-G,<-ho]at hC;refine Qw<|hC.S ?_;rintro r8 w8 ⟨hw,va,rfl,hy,hz⟩;obtain⟨vs,hv,hm,hvo⟩:∃vs,va=sT vs/\vs.length=4/\ZK vs:=by
  by_cases J:E=0
  ·exact XJ (hz J)
  exact⟨Y7,hy J,O,Xy⟩
 subst hv;have hV:=U.size;refine QN rfl O<|QN O O<|Qo<|Zu (us:=vs) (hj.I (U.D hw)) O O hm O hvo λw9 h0 hN=>Qb<|Qj ⟨[sT vs,sS E],⟨⟨_,O,ZN hm (hN.at (L:=[]) od).cells⟩,rfl,Z⟩,(Y.D hw).Q h0 oa,vs,rfl,hm,hvo,λJ=>?_,λJ=>?_⟩
 ·have:=Value.agg.inj (hy J);exact OU Array.toList this
 have hW:=hj.lt;exact(Xe (hz J) oa h0).S Y.size
theorem QdR {k:Z6}{hi:LI}(h:hck k hi=0):0<k.co.length:=by
 unfold hck at h;by_cases E:ZW k≠0
 ·rw[OT E]at h;exact OV h E
 exact Nat.pos_of_ne_zero (YN (Lt.1 E)).c0
theorem QdS {hi:LI}(h:Z9 [] ↑w c)(hH:Qu [] ↑w vh hi)(hf:Kb w 4096)(S:hck c.C hi=0->HOk c.C hi):
  QT sV 21 [c.val,vh] w λr w'=>sW w w'/\∃vw,r=.tuple #[vw,sS (hck c.C hi)]/\vw.oneCell'=true/\(hck c.C hi≠0->vw=ZS)/\(hck c.C hi=0->Qh 3 ↑w w' vw (QdY (Ja c.C) hi (unc c.C.ev))/\Ye (QdY (Ja c.C) hi (unc c.C.ev))):=by
 refine Zk func21 ?_;refine Qc<|Zc c.cells λb2 w1 hg hw hh=>x Qd<|Qb ?_;have I:=hg;refine Qc<|QZ hh O O<|Qa<|Qw<|(K5 (h.I I) (hH.I I) (hf.I I) λe=>(S e).e).S ?_;rintro _ w3 ⟨hj,us,rfl,hk,hm,hV⟩;have T:=zV (k:=c.C) (hi:=hi);refine Zd (hck c.C hi) λE hE=>?_;rw[hE]at S hV T ⊢;refine Qa<|QN O O<|QN O O<|QS KS λb6 w4 hn ho hq=>Qo<|Zu (us:=us) hq O O hk O hm λw5 hr ha=>Qb ?_;have hc:sW w3 w5:=hn.Q hr ho;have hs:=I.D hj;have J:=hs.D hc;refine Qe<|Ql<|ZL O O<|xe<|Zf rfl (λU=>?_) (λU=>?_)
 ·have G:E≠0:=U;refine Ql<|x Qd<|Qb<|Qj ⟨[ZS,sS E],ov,J,ZS,O,O,λ_=>O,λe=>OV e G⟩
 have G:E=0:=Lt.1 U;obtain⟨V,rfl,hL,hK⟩:=hV G;have hp:j0 V.p:=by rw[hK.p];exact(S G).p
 have ht:Ye V.hi:=by rw[hK.h];exact(T G).1
 have hu:Ye V.un:=by rw[hK.u];exact(T G).2
 have he:=hL.I hc;refine Qf<|Qc<|Q8 O<|x (ZQ (us:=[V.pa,sS V.p.st,V.pm,V.pe]) ha O O O)<|Qa<|Qs O ha O O<|Qw<|(Qg0 he.a (hH.I J) he.u hp (by rw[<-hK.h];exact ht) hu).S ?_;rintro _ w6 ⟨hv,vw,rfl,hI,Y⟩;refine QN rfl O<|QN O O<|x Qd<|Qb ?_;rw[hK.p,hK.u]at hI Y;refine Qj ⟨[vw,sS 0],ov,J.D hv,vw,by rw[G];rfl,(Qh.ints (L:=[]) hI (oo Y.len) od:Qu [] ↑w6 vw _).one,λe=>OV G e,λ_=>⟨?_,Y⟩⟩;exact⟨hI.1,hI.2.imp id λ⟨g,cap,cur,e1,e2,r⟩=>⟨g,cap,cur,e1,Lx J.size e2,r⟩⟩
theorem QqT {hi:LI}(h:Z9 [] ↑w c)(hH:Qu [] ↑w vh hi)(hf:Kb w 4096)(Y:hck c.C hi=0->HOk c.C hi):
  QT sV 39 [c.val,vh] w λr w'=>sW w w'/\∃us,r=.tuple #[sT us,sS (hsE c.C hi)]/\us.length=4/\ZK us/\(hsE c.C hi≠0->us=Y7)/\(hsE c.C hi=0->Xb ↑w ↑w' (sT us) (KM (Ya c.C hi))):=by
 have I:hsE c.C hi=if hck c.C hi≠0 then hck c.C hi else qb (Ya c.C hi):=rfl
 refine Zd (hsE c.C hi) λS hS=>?_;rw[hS]at I ⊢;refine Zk func39 ?_;refine Qc<|Zc c.cells λb2 w1 hg h9 hs=>QS Y7 λb4 w2 hh hB hj=>Qb ?_;have J:=hg.D hh;have hD:=hg.size;refine Qc<|QZ (hs.I hh) O O<|Qa<|Qw<|(K5 (h.I J) (hH.I J) (hf.I J) λe=>(Y e).e).S ?_;rintro _ w3 ⟨ha,us,rfl,ht,hu,hV⟩;have hk:=zV (k:=c.C) (hi:=hi);have hm:=QdR (k:=c.C) (hi:=hi);refine Zd (hck c.C hi) λE hE=>?_;rw[hE]at Y hV hk hm I ⊢;refine Qa<|QN O O<|QN O O<|QS KS λb6 w4 hv hw hy=>Qo<|Zu (us:=us) hy O O ht O hu λw5 hz h0=>Qb ?_;have T:sW w3 w5:=hv.Q hz hw;have h1:=J.D ha;have U:=h1.D T;have ho:=(hj.I ha).I T;have hF:=hj.lt;have hG:=ha.size;have hI:=T.size;refine Qe<|Ql<|ZL O O<|xe<|Zf rfl (λhc=>?_) (λhc=>?_)
 ·have G:E≠0:=hc;refine Qc<|x (Zw [] Z)<|Qa<|Q5 Y7 ho Xy λw6 h2 h3=>Qb<|Qj ⟨[sT (Y7),sS E],⟨JA h3,O,Z⟩,U.Q h2 oa,Y7,by rw[I,OT G];rfl,O,Xy,λ_=>O,λe=>OV (by rw[I,OT G]at e;exact e) G⟩
 have G:E=0:=Lt.1 hc;obtain⟨V,rfl,hL,hK⟩:=hV G;have hp:j0 V.p:=by rw[hK.p];exact(Y G).p
 have h4:Ye V.hi:=by rw[hK.h];exact(hk G).1
 have h5:0<V.c.co.length:=by rw[hK.c];have e0:=hm G;rw[show c.C.co.length=c.co.length from Lm _]at e0;exact e0
 have h6:=hL.I T;have h7:=hf.I U;refine Qf ?_;rw[OS (λe=>e G)]at I;have hT:yL V.c.C (Z3 V.p V.hi)=Ya c.C hi:=by rw[hK.c,hK.p,hK.h]
 have hC:=Qcb h6 h7 hp h4 h5;rw[hT,<-I]at hC;refine Qc<|QZ h0 O O<|Qw<|hC.S ?_;rintro _ w7 ⟨hq,vs,rfl,he,hvo,hn,hA⟩;refine QN rfl O<|QN O O<|Qo<|Zu (us:=vs) (ho.I hq) O O he O hvo λw8 hr h8=>Qb<|Qj ⟨[sT vs,sS S],⟨⟨_,O,ZN he (h8.at (L:=[]) od).cells⟩,rfl,Z⟩,(U.D hq).Q hr oa,vs,rfl,he,hvo,hn,λe=>?_⟩;exact(Xe (hA e) oa hr).S U.size
theorem Qmd {hi:LI}(h:Z9 [] ↑w c)(hH:Qu [] ↑w vh hi)(hf:Kb w 4096)(Y:hck c.C hi=0->HOk c.C hi):
  QT sV 28 [c.val,vh] w λr w'=>sW w w'/\∃us,r=.tuple #[sT us,sS (hgE c.C hi)]/\us.length=4/\ZK us/\(hgE c.C hi≠0->us=Y7)/\(hgE c.C hi=0->Xb ↑w ↑w' (sT us) (qC c.C hi)):=by
 have I:hgE c.C hi=if hck c.C hi≠0 then hck c.C hi else qY c.C hi:=rfl
 refine Zd (hgE c.C hi) λS hS=>?_;rw[hS]at I ⊢;refine Zk func28 ?_;refine Qc<|Zc c.cells λb2 w1 hg h9 hs=>QS Y7 λb4 w2 hh hB hj=>Qb ?_;have J:=hg.D hh;have hD:=hg.size;refine Qc<|QZ (hs.I hh) O O<|Qa<|Qw<|(K5 (h.I J) (hH.I J) (hf.I J) λe=>(Y e).e).S ?_;rintro _ w3 ⟨ha,us,rfl,ht,hu,hV⟩;have hk:=zV (k:=c.C) (hi:=hi);have hm:=QdR (k:=c.C) (hi:=hi);refine Zd (hck c.C hi) λE hE=>?_;rw[hE]at Y hV hk hm I ⊢;refine Qa<|QN O O<|QN O O<|QS KS λb6 w4 hv hw hy=>Qo<|Zu (us:=us) hy O O ht O hu λw5 hz h0=>Qb ?_;have T:sW w3 w5:=hv.Q hz hw;have h1:=J.D ha;have U:=h1.D T;have ho:=(hj.I ha).I T;have hF:=hj.lt;have hG:=ha.size;have hI:=T.size;refine Qe<|Ql<|ZL O O<|xe<|Zf rfl (λhc=>?_) (λhc=>?_)
 ·have G:E≠0:=hc;refine Qc<|x (Zw [] Z)<|Qa<|Q5 Y7 ho Xy λw6 h2 h3=>Qb<|Qj ⟨[sT (Y7),sS E],⟨JA h3,O,Z⟩,U.Q h2 oa,Y7,by rw[I,OT G];rfl,O,Xy,λ_=>O,λe=>OV (by rw[I,OT G]at e;exact e) G⟩
 have G:E=0:=Lt.1 hc;obtain⟨V,rfl,hL,hK⟩:=hV G;have hp:j0 V.p:=by rw[hK.p];exact(Y G).p
 have h4:Ye V.hi:=by rw[hK.h];exact(hk G).1
 have h5:0<V.c.co.length:=by rw[hK.c];have e0:=hm G;rw[show c.C.co.length=c.co.length from Lm _]at e0;exact e0
 have h6:=hL.I T;have h7:=hf.I U;refine Qf ?_;rw[OS (λe=>e G)]at I;have hC:=Qca (c:=c.C) (hi':=hi) h6 h7 hp h4 h5 (by rw[hK.c]) hK.p hK.h;rw[<-I]at hC;refine Qc<|QZ h0 O O<|Qw<|hC.S ?_;rintro _ w7 ⟨hq,vs,rfl,he,hvo,hn,hA⟩;refine QN rfl O<|QN O O<|Qo<|Zu (us:=vs) (ho.I hq) O O he O hvo λw8 hr h8=>Qb<|Qj ⟨[sT vs,sS S],⟨⟨_,O,ZN he (h8.at (L:=[]) od).cells⟩,rfl,Z⟩,(U.D hq).Q hr oa,vs,rfl,he,hvo,hn,λe=>?_⟩;exact(Xe (hA e) oa hr).S U.size
instance:Ay sV 143 2 3 1:=⟨oc,oc⟩
def hcX (c:Z6)(hi:LI):Int:=if hck c hi≠0 then hck c hi else hcE c hi
theorem Qcf {c:Z6}{hi:LI}(I:j0 (Ja c))(h:qY c hi=0):QY (qC c hi):=by
 unfold qY at h;by_cases E:qb (Ya c hi)≠0
 ·rw[OT E]at h;exact OV h E
 rw[OS E]at h;exact QhE (λa G=>by
  rcases Ln.1 G with rfl|G
  ·exact I.ok
  rw[Lb.1 G];exact KL (Lt.1 E)) h
theorem Qfk {hi:LI}(h:Z9 [] ↑w c)(hH:Qu [] ↑w vh hi)(hm:Kb w 4096)(hO:hck c.C hi=0->HOk c.C hi):
  QT sV 25 [c.val,vh] w λr w'=>sW w w'/\∃v e,r=.tuple #[v,.bool e,sS (hcX c.C hi)]/\(hcX c.C hi≠0->v=ZS/\e=false) /\
   (hcX c.C hi=0->match hcR c.C hi with|none=>v=ZS/\e=true|some u=>e=false/\Qh 3 ↑w w' v u):=by
 have I:hcX c.C hi=if hck c.C hi≠0 then hck c.C hi else if qY c.C hi≠0 then qY c.C hi else qb c.C:=rfl
 have hn:qY c.C hi=0->j0 (Ja c.C)->QY (qC c.C hi):=λe hp=>Qcf hp e;have ho:qb c.C=0->QY (KM c.C):=KL;have J:hcR c.C hi=match lgq (qC c.C hi) (KM c.C) 1 with|some u=>some u|none=>lgq (qC c.C hi) (KM c.C) 2:=rfl
 refine Zd (hcX c.C hi) λX hX=>?_;refine Zd (hcR c.C hi) λR hR=>?_;rw[hX]at I;rw[hR]at J;rw[hX,hR];refine Zk func25 ?_;refine Qc<|Zc c.cells λb2 w1 hP kg h3=>x Qd<|x Qd<|Qb ?_;have hf:=hP;refine Qc<|QZ h3 O O<|Qa<|Qw<|(K5 (h.I hf) (hH.I hf) (hm.I hf) λe=>(hO e).e).S ?_;rintro _ w3 ⟨h4,us,rfl,hU,hW,hV⟩;have h5:=zV (k:=c.C) (hi:=hi);have h6:=QdR (k:=c.C) (hi:=hi);refine Zd (hck c.C hi) λE hE=>?_;rw[hE]at hO hV h5 h6 I ⊢;refine Qa<|QN O O<|QN O O<|QS KS λb6 w4 hY hZ ga=>Qo<|Zu (us:=us) ga O O hU O hW λw5 gb gc=>Qb ?_;have hr:sW w3 w5:=hY.Q gb hZ;have ge:=hf.D h4;have hs:=ge.D hr;refine Qe<|Ql<|ZL O O<|xe<|Zf rfl (λht=>?_) (λht=>?_)
 ·have S:E≠0:=ht;rw[OT S]at I;refine Ql<|x Qd<|x Qd<|Qb<|Qj ⟨[ZS,.bool false,sS E],ox,hs,ZS,false,by rw[I];rfl,λ_=>⟨O,O⟩,λe=>OV (I.symm.D e) S⟩
 have S:E=0:=Lt.1 ht;rw[OS (λe=>e S)]at I;obtain⟨V,rfl,hL,hK⟩:=hV S;have hp:j0 V.p:=by rw[hK.p];exact(hO S).p
 have gg:Ye V.hi:=by rw[hK.h];exact(h5 S).1
 have gh:0<V.c.co.length:=by rw[hK.c];have e0:=h6 S;rw[show c.C.co.length=c.co.length from Lm _]at e0;exact e0
 have gi:=hL.I hr;have gj:=hm.I hs;have hT:=Qca (c:=c.C) (hi':=hi) gi gj hp gg gh (by rw[hK.c]) hK.p hK.h;have gk:j0 (Ja c.C):=(hO S).p;refine Zd (qY c.C hi) λF hF=>?_;rw[hF]at I hn hT;refine Zd (qC c.C hi) λTA gl=>?_;rw[gl]at hn hT J;refine Qf<|Qc<|QZ gc O O<|Qw<|hT.S ?_;rintro _ w6 ⟨h7,vs,rfl,gm,hvo,_,hA⟩;refine Qa<|QN O O<|QN O O<|QS Y7 λb8 w7 gn go gq=>Qo<|Zu (us:=vs) gq O O gm O hvo λw8 gr gs=>Qb ?_;have hu:sW w6 w8:=gn.Q gr go;have hg:=(hs.D h7).D hu;refine Qe<|Ql<|ZL O O<|xe<|Zf rfl (λhw=>?_) (λhw=>?_)
 ·have Y:F≠0:=hw;rw[OT Y]at I;refine Ql<|x Qd<|x Qd<|Qb<|Qj ⟨[ZS,.bool false,sS F],ox,hg,ZS,false,by rw[I];rfl,λ_=>⟨O,O⟩,λe=>OV (I.symm.D e) Y⟩
 have Y:F=0:=Lt.1 hw;rw[OS (λe=>e Y)]at I;refine Qf ?_;have gt:=hn Y gk;obtain⟨ta,tm,te,gu,gv⟩:=hA Y;have gx:vs=[ta,sS TA.st,tm,te]:=OU Array.toList (Value.agg.inj gu);subst gx;have gy:=gv [] od;have hS:=JX (h.I hg) (hm.I hg);refine Zd (qb c.C) λG hG=>?_;have hsp:YL c.C=G:=hG;rw[hG]at I ho hS;rw[hsp]at hS;refine Zd (KM c.C) λSA gz=>?_;rw[gz]at ho hS J;refine Qc<|x (Zh (((h3.I h4).I hr).I (h7.D hu)) O O)<|Qw<|hS.S ?_;rintro _ w9 ⟨g0,sa,sm,se,rfl,hy,_,g2⟩;refine Qa<|QN O O<|QN O O<|QS Y7 λb9 kh g3 g4 g5=>Q5 [sa,sS (if G=0 then SA.st else 0),sm,se] g5 ⟨hy.1,O,hy.2.1,hy.2.2.1,Z⟩ λh8 g6 h9=>Qb ?_
 have hB:sW w9 h8:=g3.Q g6 g4;have hz:=g0.D hB;have hC:=hg.D hz;refine Qe<|Ql<|ZL O O<|xe<|Zf rfl (λh0=>?_) (λh0=>?_)
 ·have ha:G≠0:=h0;refine Ql<|x Qd<|x Qd<|Qb<|Qj ⟨[ZS,.bool false,sS G],ox,hC,ZS,false,by rw[I];rfl,λ_=>⟨O,O⟩,λe=>OV (I.symm.D e) ha⟩
 have ha:G=0:=Lt.1 h0;rw[OT ha]at h9;have g7:=ho ha;have g8:=g2 ha [] od;have hh:X=0:=I.D ha;have g9:=gs.I hz;refine Qf<|Qe<|Qc<|x (QC ⟨O,O,Z⟩)<|Qa<|xe<|QX (α:=Nat) [(4,6),(11,11),(38,58)] (λz=>[(38,sS z)]) (λz w'=>z<=2/\sW h8 w'/\(0<z->lgq TA SA 1=none)/\(1<z->lgq TA SA 2=none)) (λz=>2 - z) 0 La ⟨oa,O4.Y _ _,λe=>OV e oa,λe=>OV e oa⟩ ?_;rintro k g ki ⟨hk,hc,hk1,ka⟩;have h1:=hC.D hc;refine Zi rfl O (λhD=>?_) (λhD=>?_)
 ·refine Qt ?_;rw[hk1 oa]at J;have hI:R=lgq TA SA 2:=J;rw[ka oa]at hI;refine Qc<|x Qd<|x Qd<|Qb<|Qj ⟨[ZS,.bool true,sS 0],ox,h1,ZS,true,by rw[hh];rfl,λe=>OV hh e,λ_=>?_⟩;rw[hI];exact⟨O,O⟩
 have kj:(k:Int)<(2:Nat):=hD;have hJ:k<2:=oa
 refine Qf<|Qe<|Qn<|Qc<|x (QbQ (i:=k) (cs:=[sS 1,sS 2]) (u:=sS ((k:Int)+1)) O O hJ (by rcases(by omega:k=0\/k=1) with rfl|rfl <;> rfl))<|Qb ?_
 have hq:=VF (gy.I ((hu.D hz).D hc)) (g8.I (hB.D hc)) ((k:Int)+1);rw[zK gt g7 oa]at hq;refine Zd (lgq TA SA ((k:Int)+1)) λQ U=>?_;rw[U]at hq;refine Qc<|QZ (g9.I hc) O O<|QZ (h9.I hc) O O<|Qa<|Qw<|hq.S ?_;rintro _ kb ⟨hM,v,e,rfl,T⟩;have T:=T O;refine Qa<|QN O O<|QN O O<|QN O O<|x Qd<|x Qd<|Qb ?_;have kc:=h1.D hM;refine QV (α:=Bool) [(49,54)] (λz=>[(54,.bool z)]) (λz w'=>w'=kb/\z=!e) oh ?_ ?_
 ·refine Qr<|Qa<|xb (J0 O O) (λhN=>?_) (λhN=>?_)
  ·exact OV O hN
  refine Qa<|Qa<|x (Zl O)<|QE O<|xe ?_;exact⟨!e,La,O,O⟩
 rintro z g kk ⟨rfl,rfl⟩;refine Q3 rfl (λh2=>?_) (λh2=>?_)
 ·have he:e=false:=by cases e;rfl;cases h2
  refine Ql<|Qa<|Qa<|x Qd<|x Qd<|Qb<|Qj ⟨[v,.bool e,sS 0],ox,kc,v,e,by rw[hh];rfl,λe=>OV hh e,λ_=>?_⟩;cases hj:Q with
  | none =>
   rw[hj]at T;exact OV (he.symm.D T.2) og
  | some u =>
   rw[hj]at T U;have ke:R=some u:=by
    rcases(by omega:k=0\/k=1) with rfl|rfl
    ·rw[show lgq TA SA 1=some u from U]at J;exact J
    rw[hk1 oa]at J;exact J.D U
   rw[ke];exact⟨he,T.2.1,T.2.2.imp id λ⟨g,cap,cur,e1,e2,r⟩=>⟨g,cap,cur,e1,Lx h1.size e2,r⟩⟩
 have he:e=true:=by cases e;cases h2;rfl
 have kf:Q=none:=by
  cases hj:Q with
  | none=>rfl
  | some u=>rw[hj]at T;exact OV (T.1.symm.D he) og
 rw[kf]at U;refine Qf<|Qr<|QB O O<|Qa<|xe<|⟨k+1,oa,La,hJ,hc.D hM,λ_=>?_,λkn=>?_⟩
 ·rcases(by omega:k=0\/k=1) with rfl|rfl
  ·exact U
  exact hk1 oa
 have e1:k=1:=oa
 subst e1;exact U
def JB:Z6:={ mzC 2 with rq:=[Ud] }
theorem QiX:hck JB [1,2]=0:=oc
theorem Qog:hck JB [0,1,2]=0:=oc
theorem Qod:plE JB=0:=oc
theorem Qoe:X2 (Ja JB)=0:=oc
theorem Qob:(Ja JB).st=4:=oc
theorem Qoc:(Ja JB).ed.length=8:=oc
theorem QiW:(nbl (Ja JB)).2=true:=oc
theorem Qok:cns (Ja JB) [1,2] (unc JB.ev)=some ([],1):=oc
theorem Qoj:cns (Ja JB) [0,1,2] (unc JB.ev)=none:=oc
theorem Qof:obs (Ja JB) [0,1,2] []=none:=oc
theorem Qp6:QdY (Ja JB) [1,2] (unc JB.ev)=[0,1,2]:=oc
theorem Qoi:hcX JB [0,1,2]=0:=oc
theorem Qoh:hcR JB [0,1,2]=none:=oc
theorem ji {v:O1}{l':LI}(h:Qu L ↑w v l)(E:Qu L' ↑w v' l'):QT sV 23 [v,v'] w λr w'=>r=.bool (decide (l=l'))/\sW w w':=by
 have hj:=h.le;refine Zk func23 ?_;refine Qc<|Qb<|Qe<|Ql<|QG h O<|Qa<|QG E O<|ZL O O<|xe<|Zf rfl (λY=>?_) (λY=>?_)
 ·refine Qc<|Qb<|Qj ⟨[.bool false],La,?_,O4.Y _ _⟩;have I:l≠l':=λe=>Y (by rw[e]);simp[tup,I]
 refine Qf<|Qe<|Qc<|Qb<|QX (α:=Nat) [(4,5),(11,25)] (λk=>[(5,sS k)]) (λk w'=>sW w w'/\k<=l.length/\(l=l'↔l.drop k=l'.drop k)) (λk=>l.length - k) 0 La ⟨O4.Y _ _,Lo _,od⟩ ?_;rintro k g w1 ⟨G,hk,J⟩
 replace h:=h.I G
 replace E:=E.I G;refine Qe<|Ql<|Qa<|QG h O<|ZT O O<|xe<|Zn rfl (λhf=>?_) (λhf=>?_)
 ·refine Qt<|Qc<|Qb<|Qj ⟨[.bool true],La,?_,G⟩;rw[Lr oa,Lr oa]at J;simp[tup,J]
 have S:k<l.length:=oa
 have T:k<l'.length:=oa
 refine Qf<|Qe<|Qn<|Qe<|ZH [] (Xc 0 9 [])<|p Qy<|p Qy<|pii (i:=k) O h O O S λhn hg=>pq (λ_ U=>Qq (hg.I U) O)<|p Qy<|p Qy<|pii (i:=k) O E O O T λho hh=>pq (λ_ U=>Qq (hh.I U) O)<|p (λ_=>J0 O O)<|pe ?_;have ha:=G.D (O4.X [] w1);refine Zf rfl (λV=>?_) (λV=>?_)
 ·refine Qc<|Qb<|Qj ⟨[.bool false],La,?_,ha⟩;have I:l≠l':=λe=>V (by simp[e]);simp[tup,I]
 refine Qf<|Qr<|Qa<|QB O O<|Qb<|⟨k+1,oa,La,ha,oa,?_⟩;have he:l[k]'S=l'[k]'T:=Lt.1 V;rw[J,QW S,QW T,he];exact⟨λh=>(List.cons.inj h).2,λh=>by rw[h]⟩
theorem Qje {v:O1}(h:Qu L ↑w v l)(x:Int):
  QT sV 27 [v,sS x] w λr w'=>r=.bool (decide (x∈l))/\w'=w:=by
 have T:=h.le;refine Zk func27 ?_;refine Qc<|Lg.Qb<|Qe<|Qc<|Lg.Qb<|QX (α:=Nat) [(4,17)] (λk=>[(5,sS k)]) (λk w'=>w'=w/\k<=l.length/\(x∈l↔x∈l.drop k)) (λk=>l.length - k) 0 La ⟨O,Lo _,od⟩ ?_;rintro k g w' ⟨rfl,U,E⟩;refine Qe<|Qc<|Lg.Qa<|Lg.Qa<|Lg.x (YV h O)<|Lg.ZT O O<|xe<|Zn rfl (λJ=>?_) (λJ=>?_)
 ·refine Qt<|Qc<|Lg.Qb<|Qj ⟨[.bool false],La,?_,O⟩;rw[Lr oa]at E;simp[tup,E]
 have I:k<l.length:=oa
 have hd:=QW I;refine Qf<|Qe<|Qn<|Qc<|Lg.Qa<|Lg.Qa<|xii h O O I λV S=>Lg.x (Qq S O)<|Lg.Qa<|Lg.x (Zb O O)<|xe<|Zf rfl (λG=>?_) (λG=>?_)
 ·refine Qc<|Lg.Qb<|Qj ⟨[.bool true],La,?_,O⟩;have:x∈l:=by rw[E,hd,G];exact Lk
  simp[tup,this]
 refine Qf<|Qr<|Lg.Qa<|Lg.QB O O<|Lg.Qb<|⟨k+1,oa,La,O,oa,?_⟩;rw[E,hd,Ln];exact⟨λh=>h.resolve_left (λe=>G e.symm),.inr⟩
theorem Qkx {R:RpV}  : QT sV 24 [sT (ZB R)] w λr w'=>r=.bool (R.t && R.o && R.c)/\sW w w':=by
 refine Zk func24 ?_;refine Qc<|Zc (ZB R) λT J S U G=>Qb<|QV (α:=Bool) [(2,12)] (λz=>[(2,.bool z)]) (λz w'=>w'=J/\z=(R.t && R.o && R.c)) oh ?_ ?_
 ·refine Qr<|Q8 O<|xB (Qk (u:=.bool R.t) G O O) (λE=>?_) (λE=>?_)
  ·refine Qa<|Q8 O<|xB (Qk (u:=.bool R.o) G O O) (λI=>?_) (λI=>?_)
   ·refine QE O<|Qa<|Qs O (u:=.bool R.c) G O O<|QE O<|Qb<|⟨R.c,La,O,by rw[E,I];rfl⟩
   refine QE O<|Qa<|YK<|QE O<|Qb<|⟨false,La,O,by rw[E,I];rfl⟩
  refine Qa<|YK<|QE O<|Qa<|YK<|QE O<|Qb<|⟨false,La,O,by rw[E];rfl⟩
 rintro z g V ⟨rfl,rfl⟩;exact Qj ⟨[.bool (R.t && R.o && R.c)],La,O,S⟩
theorem Jd (w:O0):QT sV 114 [] w λr w'=>sW w w'/\Qm3 ↑w ↑w' r JB:=by
 refine Zk func114 ?_;refine Qc<|QS KR λG w1 hv hD hf=>xe ?_;refine Qc<|Qw<|(JP 2 og w1).S ?_;rintro r2 w2 ⟨hg,E,rfl,hw,hh⟩;refine QS KR λI w3 hy hn hz=>Q5 E.cells hz (hh [] od).ones λV h0 ho=>xe ?_;have Y:sW w2 V:=hy.Q h0 hn;have hE:=hg.size;refine Qc<|Qo<|Q7 [[sS 1],[sS 2]] λJ w5 hp hF h1=>Qo<|Q7 [[sS 0],[sS 1]] λS w6 hj hG h3 =>
  x (QC ⟨rfl,O,O,Z⟩)<|x (QC ⟨O,O,O,Z⟩)<|Qo<|Q7 [Qp (0,1,1),Qp (1,2,0)] λT w7 ha hH h4=>?_
 refine x (QC ⟨O,O,O,O,Z⟩)<|x (Zw [(0,[.string J5]),(1,[sL J 2 2,sS 2,sL S 2 2,sL T 2 2])] ⟨O,O,O,O,Z⟩) <|
  Qo<|Q7 [[.string J5,sL J 2 2,sS 2,sL S 2 2,sL T 2 2]] λb10 w8 hc hJ h5=>?_
 have hr:=((hp.D hj).D ha).D hc;refine Q8 rfl<|Qo<|Qv (j:=2) (u:=sL b10 1 1) (ho.I hr) O O od rfl λw9 hs h6=>xe ?_;have hK:=hf.lt;have hM:=Y.size;have hN:=hp.size;have hO:=hj.size;have hP:=ha.size;have hk:O4 [I] V w9:=hr.any.V hs;have h7:G∉[I]:=ol
 have h8:ZK [E.ve,E.vc,sL b10 1 1,E.vx,E.vk]:=by
  have h9:=(hh [] od).ones;exact⟨h9.1,h9.2.1,O,h9.2.2.2.1,h9.2.2.2.2.1,Z⟩
 refine Qc<|QZ h6 O O<|Q5 [E.ve,E.vc,sL b10 1 1,E.vx,E.vk] (((hf.I hg).I Y).J hk h7) h8 λhQ ht hA=>xe ?_;have U:=(CL.cel_rq hw (sL b10 1 1) [⟨J5,⟨sL J 2 2,sL S 2 2,sL T 2 2,Ud.a⟩⟩]);refine Qj ⟨[.agg #[E.ve,E.vc,sL b10 1 1,E.vx,E.vk]],⟨JA hA,Z⟩,(((hv.D hg).D Y).Q hk oa).Q ht oa,_,O,U,λL hL=>?_⟩;have hu:∀b∈G::L,b<w1.heap.size:=λb hb=>by
  rcases Ln.1 hb with rfl|hb
  ·exact hf.lt
  have:=hL b hb;omega
 have hB:∀b∈I::G::L,b<V.heap.size:=λb hb=>by
  rcases Ln.1 hb with rfl|hb
  ·exact ho.lt
  have:=hu b hb;omega
 have h2:=(hh (G::L) hu).up (L':=I::G::L) (λb hb=>by
  rcases Ln.1 hb with rfl|hb
  ·exact .inr hn
  exact .inl hb)
 have he:=(h2.I Y).st (hk.S od);have nB:∀b,↑V<=b->b∉I::G::L:=λb hb hm=>oo (hB b hm)
 have hI:Va (I::G::L) ↑w8 (sL b10 1 1) [⟨J5,⟨sL J 2 2,sL S 2 2,sL T 2 2,Ud.a⟩⟩]:=by
  refine⟨h5.arr (nB _ oa) (n:=1) (cap:=1) (sz:=5) O og (Lp _),λq U=>?_,λq U=>?_⟩
  ·rw[Lb.1 U];exact⟨(((h1.I hj).I ha).I hc).arr (nB _ oa) (n:=2) (cap:=2) (sz:=1) O og (Lp _),((h3.I ha).I hc).arr (nB _ oa) (n:=2) (cap:=2) (sz:=1) O og (Lp _),(h4.I hc).arr (nB _ oa) (n:=2) (cap:=2) (sz:=3) O og (Lp _)⟩
  rw[Lb.1 U];exact Jg og
 have hC:Z9 (I::G::L) ↑w9 (CL.mk E.ve E.vc (sL b10 1 1) E.vx E.vk E.ev E.co [⟨J5,⟨sL J 2 2,sL S 2 2,sL T 2 2,Ud.a⟩⟩] E.ex E.cs):=
  ⟨he.ev,he.co,hI.st (hs.S od),he.ex,he.cs⟩
 exact(hC.st (ht.S od)).up (λb hb=>.inl (Lj _ (Lj _ hb)))
theorem qW (hi:LI):HOk JB hi:=⟨Qod,⟨(Zx _).1 Qoe,by rw[show(Kz (O6 JB.co)).st=4 from Qob];decide,by rw[show(Kz (O6 JB.co)).ed.length=8 from Qoc];decide⟩⟩
theorem Qm8 {k:Z6}{hi:LI}{V:LvV}{H:xz}{R:RpV}(E:LvK c hi V)(S:c.C=k)(h:yK [] H V 3 R):
  (R.t=(nbl (Ja k)).2/\Qu [] H R.vs (nbl (Ja k)).1)/\(R.o=(obs (Ja k) hi []).isNone/\Qu [] H R.vw ((obs (Ja k) hi []).elim [] (·.1))/\Qu [] H R.vo ((obs (Ja k) hi []).elim [] (·.2))) /\
   R.c=(cns (Ja k) hi (unc k.ev)).isNone/\R.ev=(cns (Ja k) hi (unc k.ev)).elim (-1) (·.2)/\Qu [] H R.vp ((cns (Ja k) hi (unc k.ev)).elim [] (·.1)):=by
 subst S;have G:=h.p1 og;have I:=h.p2 og;have J:=h.p3 og;have eu:V.un=unc c.C.ev:=E.u;rw[E.p]at G;rw[E.p,E.h]at I;rw[E.p,E.h,eu]at J;exact⟨G,I,J⟩
theorem Qi8 {H:xz}:Qu L H ZS []:=⟨O,og,.inl ⟨O,O⟩⟩
theorem Qp2 {H:xz}{b:Nat}{m n:Int}(h:QK H b T [sS m,sS n]):Qu [] H (sL b 2 2) [m,n]:=h.arr od (n:=2) (cap:=2) (sz:=1) rfl oa (Lp _)
theorem QlN {H:xz}{b:Nat}{m n o:Int}(h:QK H b T [sS m,sS n,sS o]):Qu [] H (sL b 3 3) [m,n,o]:=h.arr od (n:=3) (cap:=3) (sz:=1) rfl oa (Lp _)
theorem QdJ (E:Kb w 4096):QT sV 46 [] w λr w'=>r=.bool true/\sW w w':=by
 refine Zk func46 ?_;refine Qc<|Qb<|Qc<|Qw<|(Jd w).S ?_;rintro r1 w1 ⟨h6,⟨c1,rfl,G,h7⟩⟩;refine Qo<|Q7 [[sS 1],[sS 2]] λgu w2 U gv h8=>?_;have V:=h6.D U;have hT:=QfO ((h7 [] od).I U) (Qp2 h8) (E.I V) λ_=>by rw[G];exact qW _
 rw[G,QiX]at hT;refine Qw<|hT.S ?_;rintro _ w3 ⟨h9,R1,rfl,hA,_,hB⟩;obtain⟨V1,hC,hD⟩:=hB O;obtain⟨⟨Y,_⟩,_,ha,e1,_⟩:=Qm8 hC G hD;rw[QiW]at Y;rw[Qok]at ha e1;refine Qa<|QN O O<|QN O O<|QS (ZB rp8) λb1 w4 hE hF hG=>Q5 (ZB R1) hG hA λw5 hI hJ=>Qb ?_;have hK:sW w3 w5:=hE.Q hI hF;have he:=(V.D h9).D hK;refine Qc<|Qw<|(Jd w5).S ?_;rintro r6 w6 ⟨hL,⟨c6,rfl,I,hM⟩⟩;refine Qo<|Yg (us:=[[sS 0],[sS 1],[sS 2]]) O O og od ⟨rfl,rfl,rfl,rfl,rfl,rfl,Z⟩ λgx w7 hf gy hN=>?_;have hg:=hL.D hf;have hT:=QfO ((hM [] od).I hf) (QlN hN) (E.I (he.D hg)) λ_=>by rw[I];exact qW _
 rw[I,Qog]at hT;refine Qw<|hT.S ?_;rintro _ w8 ⟨hO,R2,rfl,hP,_,hQ⟩;obtain⟨V2,hR,hS⟩:=hQ O;obtain⟨⟨t2,_⟩,⟨o2,_⟩,hh,_⟩:=Qm8 hR I hS;rw[QiW]at t2;rw[Qof]at o2;rw[Qoj]at hh;refine Qa<|QN O O<|QN O O<|QS (ZB rp8) λb3 w9 hU hV hW=>Q5 (ZB R2) hW hP λhj hY hZ=>Qb ?_;have ga:sW w8 hj:=hU.Q hY hV;have hk:=(hg.D hO).D ga;have J:=he.D hk;refine Qc<|Qw<|(Jd hj).S ?_;rintro gz g0 ⟨gb,⟨g2,rfl,hm,gc⟩⟩;refine Qo<|Q7 [[sS 1],[sS 2]] λg3 g4 hn g5 ge=>?_;have ho:=gb.D hn;have hX:=QdS ((gc [] od).I hn) (Qp2 ge) (E.I (J.D ho)) λ_=>by rw[hm];exact qW _
 rw[hm,QiX]at hX;rw[show Ja JB=Ja JB from rfl,Qp6]at hX;refine Qw<|hX.S ?_;rintro _ hp ⟨gg,vx,rfl,_,_,hx⟩;have gh:Qu [] ↑hp vx [0,1,2]:=Qh.ints (hx O).1 og od;refine Qa<|QN O O<|QN O O<|x Qd<|Qb ?_;have hq:=ho.D gg;refine Qc<|Qw<|(Jd hp).S ?_;rintro g6 g7 ⟨gi,⟨g8,rfl,hr,gj⟩⟩;refine Qo<|Yg (us:=[[sS 0],[sS 1],[sS 2]]) O O og od ⟨rfl,rfl,rfl,rfl,rfl,rfl,Z⟩ λg9 ka hs kb gk=>?_;have ht:=gi.D hs;have hX:=Qfk ((gj [] od).I hs) (QlN gk) (E.I ((J.D hq).D ht)) λ_=>by rw[hr];exact qW _
 rw[hr,Qoi,Qoh]at hX;refine Qw<|hX.S ?_;rintro _ hu ⟨gl,vc,ec,rfl,_,hc⟩;obtain⟨rfl,rfl⟩:=hc O;refine Qa<|QN O O<|QN O O<|QN O O<|x Qd<|x Qd<|Qb ?_;have hv:=ht.D gl;have S:=hq.D hv;have T:=(hJ.I hk).I S;have gm:=hZ.I S;have gn:=gh.I hv;have hH:=Qkx (R:=R2) (w:=hu);rw[show(R2.t && R2.o && R2.c)=true by rw[t2,o2,hh];rfl]at hH;have et:R1.t=true:=Y;have go:R1.c=false:=ha;have eev:R1.ev=1:=e1;refine QV (α:=Unit) [(0,0),(35,79)] (λz=>[(0,.bool true)]) (λz w'=>sW hu w') oh ?_ ?_
 ·refine Qr<|Qa<|xb (Zb O O) (λhw=>?_) (λhw=>OV O hw);refine Qa<|Q8 O<|xB (Qk (u:=.bool R1.t) T O O) (λhy=>?_) (λhy=>OV (et.symm.D hy) og);refine QE O<|Qa<|Qs O (u:=.bool R1.c) T O O<|xB (Zl (b:=R1.c) O) (λhz=>?_) (λhz=>OV hz (by rw[go];decide));refine QE O<|Qa<|Qs O (u:=sS R1.ev) T O O<|xb (Zb O O) (λh0=>?_) (λh0=>OV eev h0);refine QE O<|Qa<|Qa<|xb (Zb O O) (λh1=>?_) (λh1=>OV O h1);refine QE O<|Qa<|QZ gm O O<|Qw<|hH.S ?_;rintro kc ke ⟨rfl,h2⟩;refine QE O<|Qa<|Qa<|xb (Zb O O) (λh3=>?_) (λh3=>OV O h3);refine QE O<|Qa<|Qa<|Qo<|Yg (us:=[[sS 0],[sS 1],[sS 2]]) O O og od ⟨rfl,rfl,rfl,rfl,rfl,rfl,Z⟩ λkf kg h4 kh gq=>?_;have hSm:=ji ((gn.I h2).I h4) (QlN gq);rw[show decide (([0,1,2]:LI)=[0,1,2])=true from by decide]at hSm;refine Qw<|hSm.S ?_;rintro ki gr ⟨rfl,gs⟩;refine QE O<|Qa<|Qa<|xb (Zb O O) (λh5=>?_) (λh5=>OV O h5);refine QE O<|Qa<|Qa<|QE O<|Qa<|Qa<|QG (Qi8 (L:=[]) (H:=↑gr)) O<|x (Zb O O)<|QE O<|Qb<|⟨(),La,(h2.D h4).D gs⟩
 rintro z g kj gt;exact Qj ⟨[.bool true],La,O,(J.D S).D gt⟩
theorem yE (E:Kb w 4096):QT sV 10 [] w λr w'=>r=.bool true/\sW w w':=by
 refine Zk func10 ?_;refine Qc<|Qb<|QV (α:=Unit) [(0,4)] (λz=>[(0,.bool true)]) (λz w'=>sW w w') oh ?_ ?_
 ·refine Qr<|Qw<|(QdJ E).S ?_;rintro S T ⟨rfl,G⟩;refine Qa<|Qw<|(Qet (E.I G)).S ?_;rintro r2 U ⟨rfl,I⟩;refine QE O<|Qb<|⟨(),La,G.D I⟩
 rintro z g V J;exact Qj ⟨[.bool true],La,O,J⟩
def VQ (l:List Jj):Int:=l.foldl (λn x=>n*max 1 x.a.st) 1
theorem QhG (l:List Jj)(x:Jj):VQ (l++[x])=VQ l*max 1 x.a.st:=by unfold VQ;rw[Mj];rfl
theorem stF:∀(l:List Jj) (n:Int),1<=n->(∀x∈l,x.a.st<=3)->1<=l.foldl (λn x=>n*max 1 x.a.st) n/\l.foldl (λn x=>n*max 1 x.a.st) n<=n*3 ^ l.length
 | [],n,h,_=>⟨h,od⟩
 | x::l,n,h,E=>by
  have S:=E x Lk;have G:1<=max 1 x.a.st/\max 1 x.a.st<=3:=oa
  have T:1*1<=n*max 1 x.a.st:=Int.mul_le_mul h G.1 og oa;obtain⟨I,i2⟩:=stF l (n*max 1 x.a.st) oa λy J=>E y (Lj _ J);refine⟨I,Int.le_trans i2 ?_⟩;rw[LK,Int.pow_succ,Int.mul_comm (3 ^ l.length) 3,<-Int.mul_assoc];exact Int.mul_le_mul_of_nonneg_right (Int.mul_le_mul_of_nonneg_left G.2 oa) (Int.pow_nonneg og)
theorem Qk3 {l:List Jj}(h:∀x∈l,x.a.st<=3):1<=VQ l/\VQ l<=3 ^ l.length:=by
 have:=stF l 1 og h;rw[Int.one_mul]at this;exact this
theorem qc (h:Z9 [] ↑w c)(hl:c.co.length<=3)(J:∀x∈c.C.co,x.a.st<=3):
  QT sV 48 [c.val] w λr w'=>r=sS (VQ c.C.co)/\sW w w':=by
 refine Zk func48 ?_;refine Qc<|Zc c.cells λb1 w1 S hg T=>Qb<|Qc<|Qb<|Qe<|Qc<|Qb ?_;have U:=h.co.arr.I S;refine QX (α:=Nat) [(3,21)] (λz=>[(3,sS (VQ ((c.co.take z).map (·.it)))),(4,sS z)]) (λz w'=>z<=c.co.length/\w'=w1) (λz=>c.co.length - z) 0 ov ⟨Lo _,O⟩ ?_;rintro k g w2 ⟨hk,rfl⟩;refine Qe<|Ql<|Qs O T O O<|QG U O<|ZT O O<|xe<|Zn rfl (λI=>?_) (λI=>?_)
 ·refine Qt ?_;have ha:c.co.length<=k:=by have hc:¬(k:Int)<(c.co.length:Int):=I;omega
  refine Ql<|Qb<|Qj ⟨[_],La,by rw[Lq ha];rfl,S⟩
 have E:k<c.co.length:=by have hc:(k:Int)<(c.co.length:Int):=I;omega
 have he:(c.co[k]'E).p.a.st<=3:=J (c.co[k]'E).it (LG (Ll E));have ht:(c.co.take (k+1)).map (·.it)=(c.co.take k).map (·.it)++[(c.co[k]'E).it]:=by rw[Lh E,Lv];rfl
 have hb:=Qk3 (l:=(c.co.take k).map (·.it)) λy hy=>by
  obtain⟨q,G,rfl⟩:=Ly.1 hy;exact J q.it (LG (L2 G))
 have hf:VQ ((c.co.take k).map (·.it))<=27:=Int.le_trans hb.2 (by
  rw[Lm,LB,M0 hk];have:k=0\/k=1\/k=2:=oa
  rcases this with rfl|rfl|rfl <;> decide)
 have V:VQ ((c.co.take (k+1)).map (·.it))=VQ ((c.co.take k).map (·.it))*max 1 (c.co[k]'E).p.a.st:=by rw[ht,QhG];rfl
 refine Zd (c.co[k]'E) λq G=>?_;rw[G]at he V;have hm:1<=max 1 q.p.a.st/\max 1 q.p.a.st<=3:=oa
 have hh:(0:Int)<=VQ ((c.co.take k).map (·.it))*max 1 q.p.a.st:=Int.mul_nonneg oa oa;have hj:VQ ((c.co.take k).map (·.it))*max 1 q.p.a.st<=27*3:=Int.mul_le_mul hf hm.2 oa og;refine Qf<|Qe<|Qn<|Qr<|Qa<|Qs O T O O<|Qa<|O7 (g:=Zm) (i:=k) (λ_=>O) U O O E λhn Y=>?_;rw[G]at Y;refine x (ZF O)<|x (ZF O)<|x (Qq (Y.fld 2 _ O) O)<|x (QpK O O)<|x (QeU O O ⟨oa,oa⟩)<|Qb<|Qr<|Qa<|QB O O<|Qb<|⟨k+1,by show c.co.length - (k+1)<c.co.length - k;omega,⟨OU sS V.symm,O,Z⟩,E,O⟩
theorem Qkz (h:Z9 [] ↑w c)(hl:c.co.length<=3)(G:∀x∈c.C.co,x.a.st<=3):
  QT sV 13 [c.val] w λr w'=>r=.bool (decide (VQ c.C.co<=9))/\sW w w':=by
 refine Zk func13 ?_;refine Qc<|Zc c.cells λS T E U I=>Qb<|Qc<|QZ I O O<|Qw<|(qc (h.I E) hl G).S ?_;rintro r2 V ⟨rfl,J⟩;refine x (X3 O O)<|Qb<|Qj ⟨[_],La,O,E.D J⟩
def y8:List Qz->List (LI)
 | []=>[[]]
 | a::l=>(Yr a.st.toNat).flatMap λs=>(y8 l).map (s::·)
theorem QiQ {α β:Type}(f:α->List β)(n:Nat):∀(l:List α),(∀a∈l,(f a).length=n)->(l.flatMap f).length=l.length*n
 | [],_=>od
 | a::l,h=>by rw[LL,Lc,h a Lk,QiQ f n l λb hb=>h b (Lj _ hb),LK,OO,MV]
theorem y7:∀l:List Qz,(y8 l).length=(l.map (·.st.toNat)).foldr (·*·) 1
 | []=>rfl
 | a::l=>by
  rw[y8,QiQ _ (y8 l).length _ λs _=>Lm _,y7 l];have:(Yr a.st.toNat).length=a.st.toNat:=by simp[Yr]
  rw[this];rfl
theorem QiG:∀(l m:List (LI)),l.Nodup->(∀x∈l,x∈m)->l.length<=m.length
 | [],_,_,_=>Lo _
 | x::l,m,J,E=>by
  have G:=List.nodup_cons.1 J;have hx:=E x Lk;have:=QiG l (m.erase x) G.2 λy I=>(List.mem_erase_of_ne (a:=y) (b:=x) (λe=>G.1 (by rw[<-e];exact I))).2 (E y (Lj _ I));rw[List.length_erase_of_mem hx]at this;have S:0<m.length:=List.length_pos_of_mem hx;rw[LK];omega
theorem Qhk:∀(aa:List Qz) (t:LI),Vt aa t->t∈y8 aa
 | [],t,h=>by
  have:t=[]:=Ls h.1;rw[this];exact Lb.2 O
 | a::l,[],h=>by have:=h.1;simp at this
 | a::l,s::u,h=>by
  have E:=h.2 0 od od;have G:Vt l u:=⟨by have:=h.1;simpa using this,λi hi I=>by
   have:=h.2 (i+1) (ou hi) (ou I);simpa using this⟩
  have J:0<=s/\s<a.st:=by simpa using E
  rw[y8];exact Md.2 ⟨s,(J7 _ _).2 ⟨J.1,oa⟩,Ly.2 ⟨u,Qhk l u G,O⟩⟩
theorem j8 {Q:List (LI)}(E:Q.Nodup)(G:∀t∈Q,Vt aa t):Q.length<=(aa.map (·.st.toNat)).foldr (·*·) 1:=by
 rw[<-y7];exact QiG Q _ E λt I=>Qhk aa t (G t I)
abbrev QgF (a:Qz):Cs:=Y8 a a.st.toNat 0 (ZX a)
theorem cn0 (S:0<a.st):CnG a 0 (ZX a):=by
 have G:0<a.st.toNat:=oa
 refine⟨⟨by simp[ZX],λs E=>by simp[ZX]at E;subst E;omega,by simp[ZX],λk T k1=>?_⟩,Lo _,⟨by simp[ZX,Z5],by simp[ZX]⟩,by simp[ZX],by simp[ZX],λj U=>oa⟩;by_cases ek:k=0
 ·subst ek;rw[OT (by simp[ZX])];unfold Z5 ZX;simp[oO,G]
 rw[OS (by simpa[ZX]using ek)];unfold ZX;have I:0≠k.toNat:=oa
 have J:k.toNat<a.st.toNat:=oa
 unfold Z5;rw[List.getD_eq_getElem?_getD,MT I];simp[J]
theorem QoT (I:QY a)(J:0<a.st):CnP a (QgF a).ord/\Xs a=⟨a.al,((QgF a).ord.length:Int),(QgF a).mk',(QgF a).ed⟩/\(QgF a).ord.length<=a.st.toNat:=by
 obtain⟨S,E,U⟩:=U4 I a.st.toNat 0 (ZX a) (cn0 J);have T:(Y8 a a.st.toNat 0 (ZX a)).ord.length<=a.st.toNat:=xG _ _ E.nu.nd (λx hx=>oo (E.nu.bd x hx));have hi':S=(Y8 a a.st.toNat 0 (ZX a)).ord.length:=by have:=E.le;omega
 subst hi';have G:Xs a=⟨a.al,((Y8 a a.st.toNat 0 (ZX a)).ord.length:Int),(Y8 a a.st.toNat 0 (ZX a)).mk',(Y8 a a.st.toNat 0 (ZX a)).ed⟩:=by unfold Xs;rw[OS oa]
 refine⟨⟨E.nu.nd,E.nu.bd,E.hd,by rw[G],by rw[G],?_,?_,E.cl⟩,G,T⟩
 ·rw[G];exact E.mk2
 rw[G];exact E.ed
def pst (v:Int)(a:Qz)(x:Int):Option Int:=if v∈a.al then xh a.ed x v else some x
def nx (v:Int)(A:Nat->Qz)(x:Nat->Int)(i:Nat):Int:=(pst v (A i) (x i)).getD 0
abbrev i2 (p:Int×Int):LV:=[sS p.1,sS p.2]
abbrev i5 (a:ByteArray)(b c e:Bool)(i:Int):LV:=[.string a,.bool b,.bool c,.bool e,sS i]
open Go.ChangeShapes Go.WideShapes Go.RowKit
section
variable {H:Type}{enc:TypeId×O1->H}
theorem jN (hl:laidOutB P=true){W W':O0}(hS:sW W W'){sp:Nat->Bool}:∀{ts:List TypeId}{vs:LV}{ds:List (DataW H)}{ps:List MemPlace},
  (ts.all λt=>P.readableRec t && decide (t<P.types.size))=true->DataW.TrodAll enc P W 0 (λ_=>true) true ts vs ds ps->(∀x∈ps,x.block<↑W)->(∀x∈ps,sp x.block=true)->DataW.TrodAll enc P W' 0 sp true ts vs ds ps
 | [],vs,ds,ps,_,h,_,_=>by
  obtain⟨rfl,rfl,rfl⟩:=trodAll_nil h;exact trodAll_mk0
 | t::ts,vs,ds,ps,E,h,G,hsp=>by
  obtain⟨v,S,d,ds1,a,b,rfl,rfl,rfl,I,J⟩:=trodAll_cons h;simp only[Ob,oI,decide_eq_true_eq]at E;have hb:Below ↑W W W':=hS.below;refine trodAll_cons_mk (WideElems.Trod_stays hl E.1.1 E.1.2 I (λx hx=>hb.same (G x (LO _ hx))) (λx hx=>hsp x (LO _ hx))) ?_;exact jN hl hS (ou E.2) J (λx hx=>G x (MN _ hx)) (λx hx=>hsp x (MN _ hx))
theorem QiR {f:Func}{s:ChangeSpec}{apart fresh handsOn again:Bool}{W:O0}{args:Array O1}{ds gs:List (DataW H)}{before:List MemPlace}{tb:TypeId}
  (hl:laidOutB P=true) (hf:(f.params.toList.all λt=>P.readableRec t && decide (t<P.types.size))=true) (J:f.resultTypes=#[tb]) (S:P.underlying tb=some .bool) (T:s.vars=[])
  (E:s.fn H (ds++gs)={ results:=[.lit (.bool true)],args:=ds })
  (G:DataW.Whole enc P f.params.toList s.vars apart W args.toList ds gs before) (hS:sW W W'):s.post enc P f apart fresh handsOn again W args (.bool true) W':=by
 have I:=G.lt;have hg:=G;obtain⟨p,q,hA,U,rfl,hz,hn⟩:=G;rw[T]at U;obtain⟨rfl,rfl⟩:=trodVars_none U;rw[LF]at *;have V:∀sp:Nat->Bool,(∀x∈p,sp x.block=true)->DataW.TrodAll enc P W' 0 sp true f.params.toList args.toList ds p:=λsp hsp=>jN hl hS hf hA I hsp;have Y:∀(b:Nat) (sp:Nat->Bool) (hd:Bool),DataW.TrodAll enc P W' b sp hd f.resultTypes.toList ((Value.bool true).resultList f.resultTypes.size) [.lit (.bool true)] []:=λb sp hd=>by
  rw[J];exact trodAll_mk1 (shut_bool S true)
 have hb:Below ↑W W W':=hS.below;have hc:∀sp:Nat->Bool,DataW.TrodVars enc P W' sp s.vars ([]:List (DataW H)) []:=λsp=>by rw[T];rfl
 have hh:(s.fn H ds).results=[.lit (.bool true)]:=by rw[E]
 have hj:(s.fn H ds).args=ds:=by rw[E]
 have hk:(s.fn H ds).vars=[]:=by rw[E]
 have hok:∀(j:Nat) (t:TypeId) (r:O1),f.resultTypes[j]?=some t->((Value.bool true).resultList f.resultTypes.size)[j]?=some r->Value.okWide P W' .any 0 t r:=ok_one J O (okWide_bool_mk S true);refine⟨ds,[],p,[],p,[],hg,?_,?_,?_,?_,λ_=>⟨hok,[.lit (.bool true)]++ds,[],([]++p)++[],⟨[]++p,[],?_,?_,O,?_,?_⟩,?_⟩⟩
 ·rw[LF,hh];exact Y _ _ _
 ·rw[LF,hj];exact V _ (λx hx=>ou (I x hx))
 ·rw[LF,hk];exact hc _
 ·exact World.keptBut_mono (λ_ f=>f.elim) (hb.frame (λ_=>False))
 ·exact trodAll_append (V _ (λ_ _=>O)) (Y _ _ _)
 ·exact hc _
 ·intro b off hp;have he:MemPlace.cell b off∈p:=by simpa using hp
  rw[hb.frozen (p:=⟨b,off,none⟩) (I _ he)];exact hz b off he
 ·intro ha;have:=hn ha;simpa using this
 intro x hx _;simpa using hx
end
open Go.ChangeShapes Go.WideShapes Go.RowKit Go.Lg
theorem Qeb:∀(l:LV),(∀v∈l,∃n:Nat,v=.int .u8 (n:Int)/\n<256)->∃ns:LN,l=bys ns/\ns.length=l.length/\∀n∈ns,n<256
 | [],_=>⟨[],O,O,od⟩
 | v::l,h=>by
  obtain⟨n,rfl,G⟩:=h v Lk;obtain⟨ns,I,J,S⟩:=Qeb l (λv T=>h v (Lj _ T));refine⟨n::ns,by rw[I];rfl,by simp[J],λm E=>?_⟩;rcases Ln.1 E with rfl|E
  ·exact G
  exact S m E
theorem Qnx {n:Int}(h:(Lit.int .u8 n).wf=true):∃m:Nat,n=m/\m<256:=by
 simp only[Lit.wf,oI,decide_eq_true_eq]at h;rw[show IntKind.u8.min=0 from rfl,show IntKind.u8.max=255 from rfl]at h;exact⟨n.toNat,oa,oa⟩
theorem QnJ {b:Nat}{s:TypeId×Nat}(h:w.shape? b=some s):b<w.heap.size:=by
 unfold World.shape? at h;cases hb:w.heap[b]? with
 | none=>simp[hb]at h
 | some o=>exact(LH.1 hb).1
theorem Qmb {a:Addr}{e:TypeId}(h:w.has P .any base a e n):a.block<w.heap.size:=by
 obtain⟨_,_,row,cells,E,_⟩:=h;exact QnJ E
theorem Qk6 {t e:TypeId}{a:Addr}{c:Nat}(E:P.underlying t=some (.slice e))(h:Cell.okWide P w .any base t (.slice (some a) n c)):a.block<w.heap.size:=by
 simp only[Cell.okWide,Cell.ok,E]at h;exact Qmb h.2.2
theorem QiM {α:Type}{p:Nat->α->Prop}:∀(n:Nat),(∀i,i<n->∃e,p i e)->∃l:List α,l.length=n/\∀i (h:i<l.length),p i (l[i]'h)
 | 0,_=>⟨[],O,λi h=>by simp at h⟩
 | n+1,h=>by
  obtain⟨l,E,I⟩:=QiM n (λi hi=>h i oa);obtain⟨e,J⟩:=h n oa;refine⟨l++[e],by simp[E],λi hi=>?_⟩;by_cases G:i<l.length
  ·rw[Mt G];exact I i G
  have:i=n:=by simp at hi;omega
  subst this;rw[Ng oa];simpa[E]using J
theorem zH {α:Type}{f:α->Option O1}:∀{L:List α}{l:LV},L.mapM f=some l->l.length=L.length/\∀(i:Nat) (a:α),L[i]?=some a->f a=l[i]?
 | [],l,h=>by
  simp at h;subst h;exact⟨O,λi a h=>by simp at h⟩
 | x::L,l,h=>by
  simp only[List.mapM_cons,Option.bind_eq_bind,Option.pure_def,Option.bind_eq_some_iff]at h;obtain⟨v,E,T,G,I⟩:=h;cases I
  obtain⟨J,S⟩:=zH G;refine⟨by simp[J],λi a hi=>?_⟩;cases i with
  | zero=>simp at hi;subst hi;simpa using E
  | succ i=>simpa using S i a (ou hi)
def kT (P:O3)(k:IntKind):Nat->TypeId->Bool
 | 0,_=>false
 | m+1,t=>match P.underlying t with
  | some (.int k')=>k' == k
  | some (.array n e)=>kT P k m e && decide (0<P.cellsOf e) && decide (P.cellsOf t=n*P.cellsOf e)
  | some (.struct fs)=>(oJ (P.cellsOf t)).all λj=>fs.toList.any λf=>kT P k m f.type && decide (f.offset<=j/\j<f.offset+P.cellsOf f.type)
  | _=>false
theorem Qa2 {o:Nat}{c:O1}(h:cs[j]?=some c)(E:o<=j)(G:j<o+n):c∈(cs.drop o).take n:=by
 refine Ml (i:=j - o) ?_;rw[LZ,OT oa,MG,show o+(j - o)=j by omega];exact h
section
variable {H:Type}{enc:TypeId×O1->H}{W:O0}{b0:Nat}{sp:Nat->Bool}{held:Bool}
theorem Uc {k:IntKind}:∀(m:Nat) {t:TypeId}{cs:LV}{fuel:Nat}{x:DataW H×List MemPlace},kT P k m t=true->DataW.trod enc P W b0 sp held fuel t cs=some x->∀c∈cs,∃n,c=.int k n/\(Lit.int k n).wf=true
 | 0,_,_,_,_,h,_,_,_=>by cases h
 | m+1,t,cs,fuel,x,h,J,c,S=>by
  unfold kT at h;obtain⟨j,V,Y⟩:=LP S;have U:cs[j]?=some c:=by rw[LE V,Y]
  split at h
  ·rename_i k' G;have hk:k'=k:=by simpa using h
   subst hk;obtain⟨n,T,_,E⟩:=DataW.trod_int G J;rw[T]at S;exact⟨n,Lb.1 S,E⟩
  ·rename_i n e G;simp only[oI,decide_eq_true_eq]at h;obtain⟨⟨T,E⟩,h3⟩:=h;obtain⟨xs,m',_,_,hl,ha,hx⟩:=DataW.trod_array G J;have he:=Nat.div_add_mod j (P.cellsOf e);have ho:=Nat.mod_lt j E;have hi:j / P.cellsOf e<n:=by
    refine(Nat.div_lt_iff_lt_mul E).2 ?_;omega
   have I:=hx (j / P.cellsOf e) hi;rw[LE (show j / P.cellsOf e<xs.length by omega)]at I;rw[Nat.mul_comm]at he;exact Uc m T I c (Qa2 U oa oa)
  ·rename_i fs G;obtain⟨xs,m',_,_,hl,ha,hx⟩:=DataW.trod_struct G J;obtain⟨f,hg,E⟩:=Ni.1 (Mc.1 h j (MB.2 oa));simp only[oI,decide_eq_true_eq]at E;obtain⟨i,hi,hh⟩:=LP hg;have hm:i<fs.size:=by simpa using hi
   have hn:fs[i]?=some f:=by rw[MF hm,<-hh];simp
   have I:=hx i f hn;rw[LE (show i<xs.length by omega)]at I;exact Uc m E.1 I c (Qa2 U E.2.1 E.2.2)
  cases h
theorem Vg {k:IntKind}{fs:Array Field}{xs:List (DataW H×List MemPlace)}{I:Nat}(V:xs.length=fs.size)
  (hx:∀(i:Nat) (f:Field),fs[i]?=some f->DataW.trod enc P W b0 sp held I f.type ((cs.drop f.offset).take (P.cellsOf f.type))=xs[i]?)  {f:Field} {c:O1} (E:fs[i]?=some f) (J:kT P k m f.type=true) (S:f.offset<=j) (T:j<f.offset+P.cellsOf f.type) (U:cs[j]?=some c):
  ∃n,c=.int k n/\(Lit.int k n).wf=true:=by
 have G:=hx i f E;have hi:i<fs.size:=(LH.1 E).1;rw[LE (show i<xs.length by omega)]at G;exact Uc m J G c (Qa2 U S T)
theorem Qdg {c:O1}(h:∃n,c=.int .u8 n/\(Lit.int .u8 n).wf=true):∃n:Nat,c=.int .u8 (n:Int)/\n<256:=by
 obtain⟨n,rfl,E⟩:=h;obtain⟨m,rfl,G⟩:=Qnx E;exact⟨m,O,G⟩
end
theorem QpV {W:O0}{ts:List TypeId}{cs:Array O1}(h:∀(i:Nat) (v:O1),cs[i]?=some v->∃u,ts[i % ts.length]?=some u/\Cell.okWide P W .any base u v)(i:Nat)(t:TypeId)(v:O1)(G:cs[i]?=some v)(I:ts[i % ts.length]?=some t):Cell.okWide P W .any base t v:=by
 obtain⟨u,E,k⟩:=h i v G;rw[I]at E;cases E
 exact k
theorem QoB {H:Type}{enc:TypeId×O1->H}{W:O0}{b0:Nat}{sp:Nat->Bool}{held:Bool}{fs:Array Field}{xs:List (DataW H×List MemPlace)}
  (h:∀(i:Nat) (f:Field),fs[i]?=some f->DataW.trod enc P W b0 sp held m f.type ((cs.drop f.offset).take (P.cellsOf f.type))=xs[i]?) (i:Nat) {f:Field} {o:Nat} {c:O1} (E:fs[i]?=some f) (G:f.type=t) (I:f.offset=o) (J:P.cellsOf t=1) (S:(cs.drop o).take 1=[c]) (hi:i<xs.length):
  DataW.trod enc P W b0 sp held m t [c]=some (xs[i]'hi):=by
 have e:=h i f E;rw[G,I,J,S]at e;rw[e];simp[hi]
theorem QpF {W:O0}{l:List (String×DataW Unit)}{a b:String×DataW Unit}(hl:l=[a,b,("internal/strconv.uint64pow10",Lib.tabData .u64 Lib.pow10Tab)]) (h:laidMetH sV l W) (E:(l.all λx=>x.2.handleName?.isNone)=true):Tb W:=by
 rw[Go.MakeChecks.laidMetH_plain _ _ _ E,hl]at h;exact Lib.tabIs_of_head (n:=20) (g:=0) oc (t:=410) oc oc (e:=319) oc oc oc h.tail.tail
structure PwV where
 ns:LN
 ad:Option Addr
 n:Nat
 cp:Nat
 f0:Int
 f1:Int
 f2:Int
 bd:Int
def PwV.pl (l:PwV)(rs:List X4V):PlV:=⟨l.ns,.slice l.ad l.n l.cp,rs,l.f0,l.f1,l.f2,l.bd⟩
abbrev Z0 (l:PwV):LV:=bys l.ns++[.slice l.ad l.n l.cp,.int .i8 l.f0,.int .i8 l.f1,.int .i8 l.f2,.int .i8 l.bd]
structure PwA (w:O0)(l:PwV):Prop where
 n:l.ns.length=147
 b:∀n∈l.ns,n<256
 f0:i8R l.f0
 f1:i8R l.f1
 f2:i8R l.f2
 bd:i8R l.bd
 r:l.n<=4->∃rs:List X4V,rs.length=l.n/\Zr [] ↑w (.slice l.ad l.n l.cp) l.n 4 (rs.flatMap Xf)
theorem PwA.pl {w w':O0}{l:PwV}(h:PwA w l)(G:sW w w')(I:l.n<=4):∃rs,PlA [] ↑w' (l.pl rs)/\rs.length=l.n:=by
 obtain⟨rs,E,J⟩:=h.r I;exact⟨rs,⟨h.n,h.b,by show Zr _ _ _ rs.length 4 _;rw[E];exact J.I G,h.f0,h.f1,h.f2,h.bd⟩,E⟩
theorem QpL {l:PwV}(h:l.ns.length=147):(Z0 l)[147]?=some (.slice l.ad l.n l.cp):=by
 show(Z0 l)[147+0]?=_;rw[Z0,Mn (by rw[Xt];omega),Xt,h,M2];rfl
theorem Qfi {c:O1}(h:∃n,c=.int .i8 n/\(Lit.int .i8 n).wf=true):∃n:Int,c=.int .i8 n/\i8R n:=by
 obtain⟨n,rfl,h⟩:=h;simp only[Lit.wf,oI,decide_eq_true_eq]at h;rw[show IntKind.i8.min=-128 from rfl,show IntKind.i8.max=127 from rfl]at h;exact⟨n,O,oa⟩
def Qnl (P:O3)(fs:Array Field)(n:Nat):Bool:=(oJ n).all λj=>fs.toList.any λf=>kT P .u8 5 f.type && decide (f.offset<=j/\j<f.offset+P.cellsOf f.type)
section
variable {H:Type}{enc:TypeId×O1->H}{W:O0}{b0:Nat}{sp:Nat->Bool}{held:Bool}
theorem Qkb {fs:Array Field}{xs:List (DataW H×List MemPlace)}(h:Qnl P fs n=true)(G:xs.length=fs.size)
  (hx:∀(i:Nat) (f:Field),fs[i]?=some f->DataW.trod enc P W b0 sp held m f.type ((cs.drop f.offset).take (P.cellsOf f.type))=xs[i]?)  {c:O1} (I:j<n) (J:cs[j]?=some c):∃k:Nat,c=.int .u8 (k:Int)/\k<256:=by
 obtain⟨f,S,E⟩:=Ni.1 (Mc.1 h j (MB.2 I));simp only[oI,decide_eq_true_eq]at E;obtain⟨i,hi,T⟩:=LP S;have U:i<fs.size:=by simpa using hi
 have V:fs[i]?=some f:=by rw[MF U,<-T];simp
 exact Qdg (Vg G hx V E.1 E.2.1 E.2.2 J)
theorem Qqt {t e:TypeId}{c:O1}{fuel:Nat}{x:DataW H×List MemPlace}(J:P.underlying t=some (.slice e))(he:kT P .u8 5 e=true)(hc:P.cellsOf e=4)
  (hok:Cell.okWide P W .any base t c) (hf:DataW.trod enc P W b0 sp held fuel t [c]=some x):∃a n cp,c=.slice a n cp/\(n<=12->∃u:List X4V,u.length=n/\Zr [] ↑W (.slice a n cp) n 4 (u.flatMap Xf)):=by
 rcases DataW.trod_slice J hf with⟨E,_⟩|⟨a,len,cap,elems,rest,m,_,E,_,_,hl,_,hm,hg,_,_⟩
 ·simp at E;subst E;exact⟨none,0,0,O,λ_=>⟨[],O,Zr.nil _ _ _⟩⟩
 simp at E;subst E;refine⟨some a,len,cap,O,λhn=>?_⟩;have each:∀i,i<len->∃d:X4V,∀r v,(Xf d)[r]?=some v->W.cell? (a.add (i*4+r))=some v:=by
  intro i hi;have S:=hg i hi;rw[hc,LE (show i<elems.length by omega)]at S;obtain⟨cs,E,hh⟩:=MP.1 S;obtain⟨ns,h1,h2,I⟩:=Qeb cs (λv G=>Qdg ((Uc 5 he hh) v G));unfold World.cells? at E;split at E
  ·have ho:cs.length=4:=by
    simpa using(zH E).1
   refine⟨⟨ns,oa,I⟩,λr v G=>?_⟩;have T:cs[r]?=some v:=by rw[h1];exact G
   have hk:r<4:=by have:=(Mh.1 T).1;omega
   have U:=(zH E).2 r r (by simp[hk]);rw[Lg.Addr.add_add,T]at U;exact U
  cases E
 obtain⟨u,V,hu⟩:=QiM len each;refine⟨u,V,?_⟩;have Y:(u.flatMap Xf).length=u.length*4:=Go.Lg.KZ Xf 4 zg u;refine⟨by rw[Y,V],oa,.inr ⟨a,cap,rfl,oa,λ_ _=>od,λ_ _=>Qk6 J hok,λj v G=>?_⟩⟩;have hj:j<u.length*4:=by
  rw[<-Y];exact(Mh.1 G).1
 have hi:j / 4<u.length:=oa
 have ha:j=j / 4*4+j % 4:=oa
 have I:(Xf (u[j / 4]'hi))[j % 4]?=some v:=by
  rw[<-(Jc Xf 4 zg u (j / 4) hi),LZ,OT (Nat.mod_lt _ oa),MG,<-ha];exact G
 rw[<-Ke];have:=hu (j / 4) hi (j % 4) v I;rw[<-ha]at this;exact this
theorem QgQ {v:O1}{d:DataW H}{ps:List MemPlace}{tp te:Nat}{fs:Array Field}{T J S:Field}(Y:P.underlying t=some (.struct fs))(ha:(P.cellTypes P.depth t).map (λts=>(ts.length,ts[147]?))=some (152,some tp))(hc:P.cellsOf t=152)
  (g7:fs[7]?=some T) (U:fs[8]?=some J) (g9:fs[9]?=some S) (hn:T.type=tp) (o7:T.offset=147) (o8:J.offset=148) (o9:S.offset=151) (c7:P.cellsOf tp=1) (c8:P.cellsOf J.type=3) (c9:P.cellsOf S.type=1)
  (kb:Qnl P fs 147=true) (k8:kT P .i8 5 J.type=true) (k9:kT P .i8 5 S.type=true) (ho:P.underlying tp=some (.slice te)) (hp:kT P .u8 5 te=true) (hq:P.cellsOf te=4)
  (he:Value.okWide P W .any base t v) (h:DataW.Trod enc P W b0 sp held t v d ps):∃l:PwV,v=sT (Z0 l)/\PwA W l:=by
 simp only[Value.okWide,Y]at he;obtain⟨cs,rfl,hg,ts,hr,_,hs⟩:=he;rw[hr]at ha;have hh:=Option.some.inj ha;have ht:ts.length=152:=OU Prod.fst hh;have hv:ts[147]?=some tp:=OU Prod.snd hh;rw[hc]at hg;obtain⟨l⟩:=cs;have hl:l.length=152:=hg;obtain⟨fuel,hf⟩:=h;obtain⟨xs,m,_,_,_,G,hw⟩:=DataW.trod_struct Y hf;have E:∀(i:Nat) (f:Field),fs[i]?=some f->DataW.trod enc P W b0 sp held m f.type ((l.drop f.offset).take (P.cellsOf f.type))=xs[i]?:=hw;have h1:7<fs.size:=(LH.1 g7).1;have g0:∀c∈l.take 147,∃n:Nat,c=.int .u8 (n:Int)/\n<256:=λc hm=>by
  obtain⟨j,hj,hk⟩:=LP hm;have hy:j<147:=by simp at hj;omega
  have hz:l[j]?=some c:=by
   rw[M7]at hk;rw[LE oa,hk]
  exact Qkb kb G E hy hz
 obtain⟨ns,e1,e2,e3⟩:=Qeb _ g0;have h0:ns.length=147:=by rw[e2];simp;omega
 have I:∀j,j<152->∃c,l[j]?=some c:=λj hj=>⟨l[j]'oa,LE oa⟩;obtain⟨V,q1⟩:=I 147 oa;obtain⟨x2,q2⟩:=I 148 oa;obtain⟨x3,q3⟩:=I 149 oa;obtain⟨x4,q4⟩:=I 150 oa;obtain⟨x5,q5⟩:=I 151 oa;have hld:l.drop 147=[V,x2,x3,x4,x5]:=by
  apply Nn;intro i;rw[MG]
  match i with
  | 0=>exact q1
  | 1=>exact q2
  | 2=>exact q3
  | 3=>exact q4
  | 4=>exact q5
  | i+5=>rw[Mq oa];rfl
 obtain⟨y2,rfl,z2⟩:=Qfi (Vg G E U k8 oa oa q2);obtain⟨y3,rfl,z3⟩:=Qfi (Vg G E U k8 oa oa q3);obtain⟨y4,rfl,z4⟩:=Qfi (Vg G E U k8 oa oa q4);obtain⟨y5,rfl,z5⟩:=Qfi (Vg G E g9 k9 oa oa q5);obtain⟨a,n,cp,rfl,hP⟩:=Qqt ho hp hq (QpV hs 147 tp V (ou q1) (by rw[ht];exact hv)) (QoB (c:=V) E 7 g7 hn o7 c7 (by rw[hld];rfl) oa);refine⟨⟨ns,a,n,cp,y2,y3,y4,y5⟩,?_,h0,e3,z2,z3,z4,z5,λh3=>hP (by have h4:n<=4:=h3;omega)⟩;show Value.agg l.toArray=sT (bys ns++_);rw[<-e1,<-hld,MA]
end
theorem Qqu {H:Type}{enc:TypeId×O1->H}{W:O0}{b0:Nat}{sp:Nat->Bool}{held:Bool}{v:O1}{d:DataW H}{ps:List MemPlace}(E:Value.okWide sV W .any base 36 v)(h:DataW.Trod enc sV W b0 sp held 36 v d ps):
  ∃l:PwV,v=sT (Z0 l)/\PwA W l :=
 QgQ underlying36 (tp:=32) oc oc O O O O O O O oc oc oc oc oc oc underlying32 oc oc E h
theorem Qkn {l:PwV}(h:PwA w l):QT sV 11 [sT (Z0 l)] w λr w'=>r=.bool (decide (l.n<=4))/\sW w w':=by
 refine Zk func11 ?_;refine Qc<|Zc (Z0 l) λI J E S G=>Qb<|Qc<|Qs O G O (QpL h.n)<|x (jl O)<|x (X3 O O)<|Qb<|Qj ⟨[_],La,?_,E⟩;exact OU Value.bool (decide_eq_decide.2 oa)
theorem QdP (h:Yw l):l.Nodup:=List.Pairwise.imp (λh=>oa) h
theorem yg {c:Z6}(h:D25 c):(∀a∈O6 c.co++O6 c.rq,GdA a):=λa E=>by
 rcases Le.1 E with E|E
 ·obtain⟨x,hx,rfl⟩:=Ly.1 E;exact(h.co x hx).2.1
 obtain⟨x,hx,rfl⟩:=Ly.1 E;exact(h.rq x hx).2.1
theorem XX (l:List Jj):(O6 l).length=l.length:=by unfold O6;rw[Lm]
theorem Ug (h:∀a∈aa,GdA a)(hl:aa.length<=5):KG aa=0/\∃z,xj aa=some z:=by
 refine⟨?_,Qbs (k:=3) (λa E=>(h a E).ok) (λa E=>(h a E).s) ?_⟩
 ·unfold KG;rw[OS oa];exact(Up _).2 λa E=>(h a E).ok
 exact Lx (Nk oa hl) og
theorem Qmv {c:Z6}(h:D25 c):∃pl ps sa ts,xj (O6 c.co)=some (pl,ps)/\xj (O6 c.co++O6 c.rq)=some (sa,ts)/\YL c=0:=by
 have I:=h.c3;have J:=h.r2;have E:=yg h;obtain⟨k1,⟨pl,ps⟩,e1⟩:=Ug (aa:=O6 c.co) (λa G=>E a (LO _ G)) (by rw[XX];omega);obtain⟨k2,⟨sa,ts⟩,e2⟩:=Ug (aa:=O6 c.co++O6 c.rq) E (by rw[Lc,XX,XX];omega);refine⟨pl,ps,sa,ts,e1,e2,?_⟩;unfold YL;rw[OS (not_not_intro h.ck),OS (not_not_intro k1),e1];simp only[];rw[OS (not_not_intro k2),e2]
abbrev mB (c:Z6)(m:Mdl):Qz:=(spc (mcC c m)).a
abbrev mL (c:Z6)(m:Mdl):Lf:=zu (mB c m) (fbs (spc (mcC c m))) (unc c.ev)
section
variable {c:Z6}(h:D25 c)
abbrev plA (c:Z6):Qz:=Kz (O6 c.co)
abbrev plQ (c:Z6):List (LI):=syQ (O6 c.co)
abbrev spQ (c:Z6):List (LI):=syQ (O6 c.co++O6 c.rq)
end
section
variable {c:Z6}
end
section
variable {c:Z6}
end
section
variable {c:Z6}
end
structure Qc4 (c:Z6):Prop where
 x:c.ex=[]
 k:c.cs=[]
 ok:∀a∈O6 c.co++O6 c.rq,QY a/\0<a.st
 eco:∀x∈c.rq,∀e∈x.a.al,∃y∈c.co,e∈y.a.al
 ev:∀x∈c.co,∀e∈x.a.al,e<(c.ev.length:Int)
 f1:∃z,xj (O6 c.co)=some z
 f2:∃z,xj (O6 c.co++O6 c.rq)=some z
section
variable {c:Z6}(h:Qc4 c)
include h
theorem Qc4.sy:SyP (O6 c.co++O6 c.rq) (spc c).a (spQ c)/\SyP (O6 c.co) (plA c) (plQ c)/\0<(spc c).a.st/\0<(plA c).st /\
  spc c=⟨(spc c).a,(spQ c).map (·.take c.co.length),(spQ c).map (·.drop c.co.length),(spQ c).map (λt=>plx (plQ c) (t.take c.co.length)),spF c (plA c) (plQ c) (spQ c)⟩:=by
 obtain⟨⟨pl,ps⟩,e1⟩:=h.f1;obtain⟨⟨sa,ts⟩,e2⟩:=h.f2;have T:=Qad e1 e2;have G:=h.ok;have a1:plA c=pl:=by unfold plA Kz;rw[e1]
 have a2:plQ c=ps:=by unfold plQ syQ;rw[e1]
 have a4:spQ c=ts:=by unfold spQ syQ;rw[e2]
 have I:(spc c).a=sa:=by rw[T]
 have J:=YO (λa E=>(G a E).1) e2;have S:=YO (λa E=>(G a (LO _ E)).1) e1;have p1:ts.length≠0:=λe=>by
  obtain⟨a,E,e0⟩:=J.2.1 e;have:=(G a E).2;omega
 have p2:ps.length≠0:=λe=>by
  obtain⟨a,E,e0⟩:=S.2.1 e;have:=(G a (LO _ E)).2;omega
 have q1:=J.1.st;have q2:=S.1.st;refine⟨by rw[I,a4];exact J.1,by rw[a1,a2];exact S.1,by rw[I];omega,by rw[a1];omega,?_⟩;rw[a1,a2,a4,I];exact T
theorem Qc4.pok:QY (plA c):=h.sy.2.1.okay λa E=>(h.ok a (LO _ E)).1
theorem Qc4.sok:QY (spc c).a:=h.sy.1.okay λa E=>(h.ok a E).1
def xE (c:Z6)(t:LI):Prop:=∀v∈unc c.ev,v∈evs (O6 c.co)->(Yn v (O6 c.co) (t.take c.co.length)).isSome=true->(Yn v (O6 c.rq) (t.drop c.co.length)).isSome=true
theorem Qc4.evb {v:Int}(I:v∈evs (O6 c.co)):0<=v/\v<(c.ev.length:Int):=by
 obtain⟨a,E,G⟩:=(zb (λa E=>(h.ok a (LO _ E)).1) v).1 I;have J:=((h.ok a (LO _ E)).1.al v G).1;obtain⟨x,hx,rfl⟩:=Ly.1 E;exact⟨J,h.ev x hx v G⟩
end
section
variable {c:Z6}(h:Qc4 c)
include h
end
def pjF (a:Qz)(er:LI)(tup:List (LI))(j:Nat)(v:Int):Option Ed:=if(pnx a er (tup.getD j []) v).length=0 then none else some ((j:Int),v,(tup.idxOf (pnx a er (tup.getD j []) v):Int))
def QcY (a:Qz)(er:LI)(tup:List (LI))(j:Nat)(vs:LI):Prop:=∀v∈vs,(pnx a er (tup.getD j []) v).length≠0->pnx a er (tup.getD j []) v∈tup
theorem Qie (a:Qz)(er:LI)(tup:List (LI)):U9 (pjF a er tup):=by
 intro j v e h;unfold pjF at h;split at h
 ·cases h
 cases h;exact⟨O,O⟩
section
variable {er:LI}
theorem QcY.pre {tup r:List (LI)}{vs:LI}(E:j<tup.length)(G:QcY a er tup j vs):QcY a er (tup++r) j vs:=by
 intro v I h;rw[YZ E]at h ⊢;exact LO _ (G v I h)
theorem QeX {tup r:List (LI)}{vs:LI}(E:j<tup.length)(G:QcY a er tup j vs):vs.filterMap (pjF a er (tup++r) j)=vs.filterMap (pjF a er tup j):=by
 refine Uk λv I=>?_;unfold pjF;rw[YZ E];by_cases h:(pnx a er (tup.getD j []) v).length=0
 ·rw[OT h,OT h]
 rw[OS h,OS h,L6,OT (G v I h)]
theorem QnU (z:Sy)(u:LI):∃r,(KQ z u).tup=z.tup++r:=by
 unfold KQ;split
 ·exact⟨[],od⟩
 exact⟨[u],O⟩
theorem Qig (i:Nat)(t:LI)(z:Sy)(v:Int):∃r,(Jp a er i t z v).tup=z.tup++r:=by
 unfold Jp;split
 ·exact⟨[],od⟩
 exact QnU _ _
theorem qT (i:Nat)(t:LI):∀(vs:LI) (z:Sy),∃r,(vs.foldl (Jp a er i t) z).tup=z.tup++r
 | [],z=>⟨[],od⟩
 | v::vs,z=>by
  obtain⟨E,G⟩:=Qig (a:=a) (er:=er) i t z v;obtain⟨r2,I⟩:=qT i t vs (Jp a er i t z v);exact⟨E++r2,by rw[LM,I,G,LA]⟩
theorem VD (i:Nat)(t:LI)(z:Sy):(qy a i t z).tup=z.tup:=(Qas a i t z).1
theorem Qid {kp:LI}:∀(f i:Nat) (z:Sy),∃r,(yO a kp er f i z).tup=z.tup++r
 | 0,i,z=>⟨[],by simp[yO]⟩
 | f+1,i,z=>by
  rw[yO];split
  ·obtain⟨E,G⟩:=qT (a:=a) (er:=er) i (Jz z i) kp (qy a i (Jz z i) z);obtain⟨r2,I⟩:=Qid (kp:=kp) f (i+1) (kp.foldl (Jp a er i (Jz z i)) (qy a i (Jz z i) z));exact⟨E++r2,by rw[I,G,VD,LA]⟩
  exact⟨[],od⟩
theorem jn {i:Nat}{t:LI}:∀(vs:LI) (z:Sy),i<z.tup.length->z.tup.Nodup->z.tup.getD i []=t ->
  ∃r,(vs.foldl (Jp a er i t) z).tup=z.tup++r/\(vs.foldl (Jp a er i t) z).mk'=z.mk'/\(vs.foldl (Jp a er i t) z).ed=z.ed++vs.filterMap (pjF a er (vs.foldl (Jp a er i t) z).tup i)/\QcY a er (vs.foldl (Jp a er i t) z).tup i vs/\(vs.foldl (Jp a er i t) z).tup.Nodup
 | [],z,_,hd,_=>⟨[],od,rfl,od,λv Y=>(by cases Y),hd⟩
 | v::vs,z,hi,hd,I=>by
  have key:∃S,(Jp a er i t z v).tup=z.tup++S/\(Jp a er i t z v).mk'=z.mk'/\(Jp a er i t z v).ed=z.ed++[v].filterMap (pjF a er (Jp a er i t z v).tup i)/\QcY a er (Jp a er i t z v).tup i [v]/\(Jp a er i t z v).tup.Nodup:=by
   by_cases G:(pnx a er t v).length=0
   ·have e:Jp a er i t z v=z:=by unfold Jp;rw[OT G]
    rw[e];refine⟨[],od,rfl,?_,λw E h=>?_,hd⟩
    ·rw[Qfm (by unfold pjF;rw[I,OT G]),LF]
    rw[Lb.1 E,I]at h;exact OV G h
   by_cases J:pnx a er t v∈z.tup
   ·have e:Jp a er i t z v=⟨z.tup,z.mk',z.ed++[((i:Int),v,(z.tup.idxOf (pnx a er t v):Int))]⟩:=by unfold Jp KQ;rw[OS G,OT J]
    rw[e];refine⟨[],od,rfl,?_,λw E h=>?_,hd⟩
    ·rw[QaU (by unfold pjF;rw[I,OS G])]
    rw[Lb.1 E];show pnx a er (z.tup.getD i []) v∈z.tup;rw[I];exact J
   have e:Jp a er i t z v=⟨z.tup++[pnx a er t v],z.mk',z.ed++[((i:Int),v,((z.tup++[pnx a er t v]).idxOf (pnx a er t v):Int))]⟩:=by unfold Jp KQ;rw[OS G,OS J]
   rw[e];have U:(z.tup++[pnx a er t v]).getD i []=t:=by rw[YZ hi,I]
   refine⟨[pnx a er t v],O,O,?_,λw E h=>?_,Jr hd J⟩
   ·rw[QaU (by unfold pjF;rw[U,OS G])]
   rw[Lb.1 E];show pnx a er ((z.tup++[pnx a er t v]).getD i []) v∈z.tup++[pnx a er t v];rw[U];simp
  obtain⟨S,k1,k2,k3,V,k5⟩:=key;have T:i<(Jp a er i t z v).tup.length:=by rw[k1];simp;omega
  obtain⟨r2,g1,g2,g3,g4,g5⟩:=jn vs (Jp a er i t z v) T k5 (by rw[k1,YZ hi,I]);rw[LM];refine⟨S++r2,by rw[g1,k1,LA],g2.D k2,?_,?_,g5⟩
  ·rw[g3,k3,LA];congr 1;rw[show v::vs=[v]++vs from rfl,List.filterMap_append];congr 1;rw[g1];exact(QeX T V).symm
  intro w E h;rcases Ln.1 E with rfl|E
  ·have:=V.pre (r:=r2) T;rw[<-g1]at this;exact this w Lk h
  exact g4 w E h
end
structure PjG (a:Qz)(o:LI)(i:Nat)(s:Sy):Prop where
 nd:s.tup.Nodup
 le:i<=s.tup.length
 hd:s.tup.getD 0 []=rch a [0] (ers a o)/\0<s.tup.length
 mk2:s.mk'=((oN 0 i).filter λj=>mkd a (s.tup.getD j [])).map λj:Nat=>(j:Int)
 ed:s.ed=grid (pjF a (ers a o) s.tup) (kpt a o) i
 cl:∀j,j<i->QcY a (ers a o) s.tup j (kpt a o)
theorem PjG.next {s:Sy}(h:PjG a o i s)(hi:i<s.tup.length):PjG a o (i+1) ((kpt a o).foldl (Jp a (ers a o) i (Jz s i)) (qy a i (Jz s i) s)):=by
 have G:=VD (a:=a) i (Jz s i) s;have U:(qy a i (Jz s i) s).ed=s.ed:=(Qas a i (Jz s i) s).2.1;obtain⟨r,g1,V,T,Y,g5⟩:=jn (a:=a) (er:=ers a o) (kpt a o) (qy a i (Jz s i) s) (i:=i) (t:=Jz s i) (by rw[G];exact hi) (by rw[G];exact h.nd) (by rw[G];rfl);generalize (kpt a o).foldl (Jp a (ers a o) i (Jz s i)) (qy a i (Jz s i) s)=I at *;rw[G]at g1;rw[U]at T;have pre:∀j,j<=i->I.tup.getD j []=s.tup.getD j []:=λj E=>by rw[g1];exact YZ oa
 refine⟨g5,by rw[g1];simp;omega,⟨by rw[pre 0 oa];exact h.hd.1,by rw[g1];simp;omega⟩,?_,?_,λj E=>?_⟩
 ·rw[V,Mm,LR,Lv,LU];have e1:((oN 0 i).filter λj=>mkd a (I.tup.getD j []))=(oN 0 i).filter λj=>mkd a (s.tup.getD j []):=by
   refine Nx λj E=>?_;rw[L7]at E;rw[pre j oa]
  rw[e1];unfold qy;by_cases J:mkd a (Jz s i)=true
  ·rw[OT J];have S:mkd a (I.tup.getD i [])=true:=by rw[pre i (Lp _)];exact J
   simp only[OA,S,if_true,List.filter_nil,oS,OC];rw[h.mk2]
  rw[OS J];have S:mkd a (I.tup.getD i [])=false:=by rw[pre i (Lp _)];exact eq_false_of_ne_true J
  rw[L4,OS (by rw[S];simp),MJ,h.mk2];simp
 ·rw[T,Ka,h.ed];congr 1;unfold grid;refine Y0 λj E=>?_;rw[L7]at E;rw[g1];exact(QeX oa (h.cl j oa)).symm
 by_cases e2:j=i
 ·subst e2;exact Y
 have:=(h.cl j oa).pre (r:=r) oa;rw[<-g1]at this;exact this
theorem QbX {a:Qz}{o:LI}:∀(f i:Nat) (s:Sy),PjG a o i s->∃E,PjG a o E (yO a (kpt a o) (ers a o) f i s)/\((yO a (kpt a o) (ers a o) f i s).tup.length=E\/E=i+f)
 | 0,i,s,h=>⟨i,h,.inr O⟩
 | f+1,i,s,h=>by
  rw[yO];split
  ·rename_i hi;obtain⟨E,G,I⟩:=QbX f (i+1) _ (h.next hi);exact⟨E,G,oa⟩
  exact⟨i,h,.inl (oo h.le)⟩
theorem Qif {a:Qz}{er:LI}{n:Nat}(E:a.st.toNat=n)(i:Nat)(t:LI):∀(vs:LI) (z:Sy),PjO n z->PjO n (vs.foldl (Jp a er i t) z)
 | [],_,h=>h
 | v::vs,z,h=>by
  refine Qif E i t vs _ ?_;unfold Jp;split
  ·exact h
  have:=h.add (u:=pnx a er t v) (by unfold pnx rch cls;rw[E];exact UE _ _);exact⟨this.v,this.d⟩
theorem Qna {a:Qz}{kp er:LI}{n:Nat}(E:a.st.toNat=n):∀(f i:Nat) (z:Sy),PjO n z->PjO n (yO a kp er f i z)
 | 0,_,_,h=>h
 | f+1,i,z,h=>by
  rw[yO];split
  ·refine Qna E f (i+1) _ (Qif E _ _ _ _ ⟨?_,?_⟩)
   ·rw[VD];exact h.v
   rw[VD];exact h.d
  exact h
structure PjP (a:Qz)(o:LI)(Q:List (LI)):Prop where
 st:(Z3 a o).st=(Q.length:Int)
 nd:Q.Nodup
 v:∀t∈Q,Ss a.st.toNat t
 le:Q.length<=2 ^ a.st.toNat
 hd:Q.getD 0 []=rch a [0] (ers a o)/\0<Q.length
 mk2:(Z3 a o).mr=((oN 0 Q.length).filter λj=>mkd a (Q.getD j [])).map λj:Nat=>(j:Int)
 ed:(Z3 a o).ed=grid (pjF a (ers a o) Q) (kpt a o) Q.length
 cl:∀j,j<Q.length->QcY a (ers a o) Q j (kpt a o)
abbrev jm (a:Qz)(o:LI):List (LI):=(prj a o).tup
theorem QpR (a:Qz)(o:LI):PjG a o 0 (pj0 a (ers a o)):=⟨by simp[pj0],od,⟨by simp[pj0],by simp[pj0]⟩,by simp[pj0],by simp[pj0,grid],λj E=>oa⟩
theorem QpQ (a:Qz)(er:LI):PjO a.st.toNat (pj0 a er):=⟨λt E=>by
 rw[show(pj0 a er).tup=[rch a [0] er] from rfl,Lb]at E;rw[E];unfold rch cls;exact UE _ _,by simp[pj0]⟩
theorem QbS (I:a.st≠0):PjP a o (jm a o):=by
 have e:prj a o=yO a (kpt a o) (ers a o) (2 ^ a.st.toNat) 0 (pj0 a (ers a o)):=by unfold prj;rw[OS I]
 obtain⟨J,E,S⟩:=QbX (2 ^ a.st.toNat) 0 _ (QpR a o);have G:=Qna (kp:=kpt a o) (er:=ers a o) (n:=a.st.toNat) O (2 ^ a.st.toNat) 0 _ (QpQ a (ers a o));rw[<-e]at E S G;have hl:J=(prj a o).tup.length:=by
  have T:=E.le;have U:=G.le;omega
 subst hl;exact⟨O,E.nd,G.v,G.le,E.hd,E.mk2,E.ed,E.cl⟩
theorem PjP.J {Q:List (LI)}(h:PjP a o Q)(I:j<Q.length)(v:Int):
  xh (Z3 a o).ed j v=if v∈kpt a o/\(pnx a (ers a o) (Q.getD j []) v).length≠0 then some (Q.idxOf (pnx a (ers a o) (Q.getD j []) v):Int) else none:=by
 rw[h.ed,jL (Qie a _ Q)];by_cases E:v∈kpt a o
 ·rw[OT ⟨I,E⟩];unfold pjF;by_cases G:(pnx a (ers a o) (Q.getD j []) v).length=0
  ·rw[OT G,OS (λe=>e.2 G)];rfl
  rw[OS G,OT ⟨E,G⟩];rfl
 rw[OS (λe=>E e.2),OS (λe=>E e.1)]
theorem PjP.to {Q:List (LI)}(h:PjP a o Q)(E:j<Q.length){v:Int}(G:v∈kpt a o)(I:(pnx a (ers a o) (Q.getD j []) v).length≠0):Q.idxOf (pnx a (ers a o) (Q.getD j []) v)<Q.length/\Q.getD (Q.idxOf (pnx a (ers a o) (Q.getD j []) v)) []=pnx a (ers a o) (Q.getD j []) v:=by
 have hl:=Me (h.cl j E v G I);generalize pnx a (ers a o) (Q.getD j []) v=u at *;refine⟨hl,?_⟩;simp[oO,hl]
theorem Qfg (E:QY a)(o:LI):Yw (kpt a o):=E.ali.filter _
theorem PjP.okay (I:QY a){Q:List (LI)}(h:PjP a o Q)(V:Q.length<=4096):QY (Z3 a o):=by
 refine⟨λe E=>I.al e (LQ.1 E).1,Qfg I o,by rw[h.st];omega,by rw[h.st];omega,λs J=>?_,?_,λe E=>?_,by rw[h.ed];exact QaR (Qie a _ Q) (Qfg I o) _⟩
 ·rw[h.mk2]at J;simp only[Ol,Oi,Oh]at J;obtain⟨i,⟨hi,_⟩,rfl⟩:=J;rw[h.st];omega
 ·rw[h.mk2];unfold Yw;rw[Ma];refine List.Pairwise.sublist ML ?_;exact(M6 (s:=0) (n:=Q.length)).imp (λh=>oa)
 rw[h.ed]at E;obtain⟨j,v,T,S,G⟩:=zW E;unfold pjF at G;split at G
 ·cases G
 rename_i U;cases G
 have:=(h.to T S U).1;rw[h.st];exact⟨oe,oe,S,oe,oe⟩
theorem PjP.mr {a:Qz}{o:LI}{Q:List (LI)}(h:PjP a o Q){j:Nat}(G:j<Q.length):(j:Int)∈(Z3 a o).mr↔mkd a (Q.getD j [])=true:=by
 rw[h.mk2];simp only[Ol,Oi,Oh];constructor
 ·rintro⟨k,⟨_,E⟩,I⟩;have:k=j:=oa
  subst this;exact E
 intro E;exact⟨j,⟨oa,E⟩,O⟩
theorem PjP.nxt {a:Qz}{o:LI}{Q:List (LI)}(h:PjP a o Q){j:Nat}(G:j<Q.length){v:Int}(I:v∈kpt a o):nxt (Z3 a o).ed j v=if(pnx a (ers a o) (Q.getD j []) v).length=0 then -1 else(Q.idxOf (pnx a (ers a o) (Q.getD j []) v):Int):=by
 rw[Qb3,h.J G v];by_cases E:(pnx a (ers a o) (Q.getD j []) v).length=0
 ·rw[OS (λe=>e.2 E),OT E]
 rw[OT ⟨I,E⟩,OS E]
theorem Qia {a:Qz}{o:LI}{Q:List (LI)}(h:PjP a o Q){i:Nat}:∀(vs:LI) (z:Sy),(∀v∈vs,v∈kpt a o)->i<z.tup.length->(∃r,Q=(vs.foldl (Jp a (ers a o) i (Q.getD i [])) z).tup++r) ->
  vs.foldl (Vm (Z3 a o) i) (Yr z.tup.length)=Yr (vs.foldl (Jp a (ers a o) i (Q.getD i [])) z).tup.length
 | [],_,_,_,_=>rfl
 | v::vs,z,T,hi,E=>by
  rw[LM]at E ⊢;rw[LM];obtain⟨r,E⟩:=E;obtain⟨r2,V⟩:=qT (a:=a) (er:=ers a o) i (Q.getD i []) vs (Jp a (ers a o) i (Q.getD i []) z v);obtain⟨r3,U⟩:=Qig (a:=a) (er:=ers a o) i (Q.getD i []) z v;have G:Q=(Jp a (ers a o) i (Q.getD i []) z v).tup++(r2++r):=by rw[<-LA,<-V];exact E
  have hc:z.tup.length<=Q.length:=by
   have:=OU oV G;rw[U]at this;simp only[oM]at this;omega
  have Y:=h.nxt (j:=i) oa (T v Lk);have ha:Vm (Z3 a o) i (Yr z.tup.length) v=Yr (Jp a (ers a o) i (Q.getD i []) z v).tup.length:=by
   unfold Vm;rw[Y];by_cases I:(pnx a (ers a o) (Q.getD i []) v).length=0
   ·have e:Jp a (ers a o) i (Q.getD i []) z v=z:=by unfold Jp;rw[OT I]
    rw[OT I,e,OS (λh=>OV h.1 og)]
   rw[OS I];by_cases J:pnx a (ers a o) (Q.getD i []) v∈z.tup
   ·have e:(Jp a (ers a o) i (Q.getD i []) z v).tup=z.tup:=by unfold Jp KQ;rw[OS I,OT J]
    rw[e]at G ⊢;have hx:Q.idxOf (pnx a (ers a o) (Q.getD i []) v)=z.tup.idxOf (pnx a (ers a o) (Q.getD i []) v):=by
     generalize pnx a (ers a o) (Q.getD i []) v=u at *;rw[G,L6,OT J]
    have:=Me J;rw[hx,OS];intro S;exact S.2 ((J7 _ _).2 ⟨oa,oa⟩)
   have e:(Jp a (ers a o) i (Q.getD i []) z v).tup=z.tup++[pnx a (ers a o) (Q.getD i []) v]:=by unfold Jp KQ;rw[OS I,OS J]
   rw[e]at G ⊢;have hx:Q.idxOf (pnx a (ers a o) (Q.getD i []) v)=z.tup.length:=by
    generalize pnx a (ers a o) (Q.getD i []) v=u at *;rw[G,LA,L6,OS J];simp
   rw[hx,OT ⟨oa,λS=>oo ((J7 _ _).1 S)⟩,Lc,Lu,UT]
  rw[ha];exact Qia h vs _ (λw hw=>T w (Lj _ hw)) (by rw[U];simp;omega) ⟨r,E⟩
theorem QbW {a:Qz}{o:LI}{Q:List (LI)}(h:PjP a o Q):∀(f g i:Nat) (z:Sy),(yO a (kpt a o) (ers a o) f i z).tup=Q->Q.length<=i+f->Q.length<=i+g->q8 (Z3 a o) g i (Yr z.tup.length)=Yr Q.length
 | 0,g,i,z,E,T,U=>by
  have e:z.tup=Q:=E;rw[e];cases g with
  | zero=>rfl
  | succ g=>rw[q8,OS (by rw[Js];omega)]
 | f+1,g,i,z,E,T,U=>by
  rw[yO]at E;by_cases hi:i<z.tup.length
  ·rw[OT hi]at E;obtain⟨I,G⟩:=Qid (a:=a) (er:=ers a o) (kp:=kpt a o) f (i+1) ((kpt a o).foldl (Jp a (ers a o) i (Jz z i)) (qy a i (Jz z i) z));obtain⟨r2,V⟩:=qT (a:=a) (er:=ers a o) i (Jz z i) (kpt a o) (qy a i (Jz z i) z);rw[E]at G;have J:Q=z.tup++(r2++I):=by rw[G,V,VD,LA]
   have hT:Jz z i=Q.getD i []:=by rw[J,YZ hi];rfl
   have hc:i<Q.length:=by rw[J,Lc];omega
   obtain⟨g,rfl⟩:∃Y,g=Y+1:=⟨g - 1,oa⟩;rw[q8,OT (by rw[Js];exact hi)];have ha:O5 (Yr z.tup.length) i=(i:Int):=by unfold O5 Yr;simp[oO,hi]
   have S:=Qia h (kpt a o) (qy a i (Jz z i) z) (λv hv=>hv) (by rw[VD];exact hi) ⟨I,by rw[<-hT];exact G⟩;rw[VD,<-hT]at S;rw[ha];unfold fdR;rw[show(Z3 a o).al=kpt a o from rfl,S];exact QbW h f g (i+1) _ E oa oa
  rw[OS hi]at E;rw[E]at hi ⊢;cases g with
  | zero=>rfl
  | succ g=>rw[q8,OS (by rw[Js];exact hi)]
theorem Qh5 (I:a.st≠0):Y3 (Z3 a o)=Z3 a o:=by
 have h:=QbS (o:=o) I;have hp:=h.hd.2;have U:xo (Z3 a o)=Yr (jm a o).length:=by
  unfold xo fd0;rw[OT (by rw[h.st];omega)];have e:prj a o=yO a (kpt a o) (ers a o) (2 ^ a.st.toNat) 0 (pj0 a (ers a o)):=by unfold prj;rw[OS I]
  refine QbW h (2 ^ a.st.toNat) _ 0 (pj0 a (ers a o)) (by rw[<-e]) (oo h.le) (by rw[h.st];omega)
 have J:∀i,i<(jm a o).length->O5 (Yr (jm a o).length) i=(i:Int):=λi hi=>by unfold O5 Yr;simp[oO,hi]
 have V:YT (Z3 a o) (Yr (jm a o).length) (jm a o).length=(Z3 a o).mr:=by
  unfold YT;rw[h.mk2];congr 1;refine Nx λi hi=>?_;rw[L7]at hi;rw[J i oa];have S:=h.mr (j:=i) oa;rw[<-h.mk2];cases E:mkd a ((jm a o).getD i []) with
  | true=>exact OW (S.2 E)
  | false=>exact OY λY=>by rw[S.1 Y]at E;cases E
 have hE:Y9 (Z3 a o) (Yr (jm a o).length) (jm a o).length=(Z3 a o).ed:=by
  unfold Y9;rw[show(Z3 a o).al=kpt a o from rfl];refine Eq.D ?_ h.ed.symm;unfold grid;refine Y0 λi hi=>?_;rw[L7]at hi;refine Uk λv T=>?_;have hi':i<(jm a o).length:=oa
  unfold Kf pjF;rw[J i hi',h.nxt hi' T];by_cases G:(pnx a (ers a o) ((jm a o).getD i []) v).length=0
  ·rw[OT G,OT G,OS og]
  have hl:=(h.to hi' T G).1;rw[OS G,OS G,OT oa];have e:qB (Yr (jm a o).length) ((jm a o).idxOf (pnx a (ers a o) ((jm a o).getD i []) v):Int)=((jm a o).idxOf (pnx a (ers a o) ((jm a o).getD i []) v):Int):=by
   generalize (jm a o).idxOf (pnx a (ers a o) ((jm a o).getD i []) v)=k at *;have E:(k:Int)∈Yr (jm a o).length:=(J7 _ _).2 ⟨oa,oa⟩;unfold qB;rw[OT E];have hx:=Me E;have e1:=List.getElem_idxOf hx;unfold Yr at e1 hx ⊢;rw[MK,Mr]at e1;exact e1
  rw[e]
 unfold Y3;rw[U,Js,V,hE,<-h.st]
theorem Qli (J:QY a)(E:a.st≠0)(S:a.st<=12):J9 (Z3 a o)=true/\QY (Z3 a o)/\0<(Z3 a o).st/\(Z3 a o).st<=2 ^ a.st.toNat:=by
 have h:=QbS (o:=o) E;have hl:(jm a o).length<=4096:=Lx h.le (Lx (Nk og (show a.st.toNat<=12 by omega)) og);have hok:=h.okay J hl;have G:0<(Z3 a o).st:=by rw[h.st];have:=h.hd.2;omega
 have I:=zS hok G;rw[Qh5 E]at I;refine⟨I,hok,G,?_⟩;rw[h.st]
 exact_mod_cast h.le
section
variable (ho:QY a)
include ho
end
section
variable (ho:QY a)
include ho
end
structure qp (c:Z6)(hi:LI):Prop where
 d:D25 c
 x:c.ex=[]
 k:c.cs=[]
 i:Yw hi
 b:∀v∈hi,0<=v/\v<5
 r:∀x∈c.rq,∀e∈x.a.al,e∈hi
theorem D25.bare {c:Z6}(h:D25 c):D25 ⟨c.ev,c.co,c.rq,[],[]⟩:=⟨h.ev,h.c0,h.c3,h.r2,h.co,h.rq,h.nd,Lo _,nofun,Ms,Lo _,nofun⟩
section
variable {c:Z6}{hi:LI}(h:qp c hi)
include h
theorem qp.hck:hck c hi=0:=by
 have E:JU (c.ev.length:Int) none hi=0:=Qa6 (λv G=>by rw[h.d.ev.1];exact h.b v G) h.i;unfold Lg.hck;rw[OS (not_not_intro h.d.ck),h.x,h.k,OS og,OS (not_not_intro E),OT];rw[Mc];intro x hx;refine OW (Ls (QaE (h.d.rq x hx).2.1.ok.ali h.i (h.r x hx)))
theorem qp.pl0:plE c=0/\∃z,xj (O6 c.co)=some z:=by
 have E:=yg h.d;have I:=h.d.c3;obtain⟨k1,z,e1⟩:=Ug (aa:=O6 c.co) (λa G=>E a (LO _ G)) (by rw[XX];omega);refine⟨?_,z,e1⟩;unfold plE KK;rw[OS (not_not_intro h.d.ck),OS (not_not_intro k1),e1]
theorem qp.celB:Qc4 c:=by
 have E:=yg h.d;have J:=h.d.c3;have S:=h.d.r2;obtain⟨_,z,e2⟩:=Ug (aa:=O6 c.co++O6 c.rq) E (by rw[Lc,XX,XX];omega);refine⟨h.x,h.k,λa G=>⟨(E a G).ok,(E a G).p⟩,λx hx=>(h.d.rq x hx).2.2,λx hx e I=>?_,h.pl0.2,z,e2⟩;rw[h.d.ev.1];exact(h.d.co x hx).2.2 e I
theorem qp.su0:qb c=0:=by
 obtain⟨_,_,_,_,_,_,E⟩:=Qmv h.d;exact E
omit h in
theorem QbA:∀(l:List Jj) (n:Int),(∀x∈l,0<x.a.st)->l.foldl (λn x=>n*max 1 x.a.st) n=n*(((O6 l).map (·.st.toNat)).foldr (·*·) 1:Nat)
 | [],n,_=>by simp[O6]
 | x::l,n,hx=>by
  have G:=hx x Lk;rw[LM,QbA l _ λy E=>hx y (Lj _ E)];have e:max 1 x.a.st=(x.a.st.toNat:Int):=oa
  rw[e,Int.mul_assoc];show n*((x.a.st.toNat:Int)*(((O6 l).map (·.st.toNat)).foldr (·*·) 1:Nat))=n*((x.a.st.toNat*((O6 l).map (·.st.toNat)).foldr (·*·) 1:Nat):Int);rw[Int.natCast_mul]
theorem qp.pst:0<(plA c).st/\(plA c).st<=VQ c.co:=by
 have E:=h.celB.sy;refine⟨E.2.2.2.1,?_⟩;have I:=j8 E.2.1.nd E.2.1.v;have G:=QbA c.co 1 λx hx=>(h.d.co x hx).2.1.p;rw[Int.one_mul]at G;rw[E.2.1.st];unfold VQ;rw[G]
 exact_mod_cast I
omit h in
theorem Qjk {α β:Type}(f:α->Option β):∀l:List α,(l.filterMap f).length<=l.length
 | []=>Lp _
 | x::l=>by
  rw[Mk];have:=Qjk f l;cases f x with
  | none=>simp only[oP];omega
  | some y=>simp only[oP];omega
omit h in
theorem Qfl (g:Nat->Int->Option Ed)(vs:LI):∀n,(grid g vs n).length<=n*vs.length
 | 0=>by simp[grid]
 | n+1=>by
  rw[Ka,Lc,OO];have:=Qfl g vs n;have:=Qjk (g n) vs;omega
theorem qp.evs5:∀v∈evs (O6 c.co),0<=v/\v<5:=λv E=>by
 have:=h.celB.evb E;rw[h.d.ev.1]at this;exact this
theorem qp.al:(plA c).al=evs (O6 c.co):=h.celB.sy.2.1.al
theorem qp.pl9 (S:VQ c.co<=9):j0 (plA c):=by
 have E:=h.celB.sy;have T:=h.pst;refine⟨h.celB.pok,oa,?_⟩;rw[E.2.1.ed];have U:=Qfl (syF (O6 c.co) (plQ c)) (evs (O6 c.co)) (plQ c).length;have G:(plQ c).length<=9:=by have:=E.2.1.st;omega
 have I:(evs (O6 c.co)).length<=5:=xG 5 _ (QdP (Qa0 λa J=>(h.celB.ok a (LO _ J)).1)) h.evs5;have V:(plQ c).length*(evs (O6 c.co)).length<=9*5:=MX G I;omega
theorem qp.hok (E:VQ c.co<=9):HOk c hi:=⟨h.pl0.1,h.pl9 E⟩
theorem qp.prj (E:VQ c.co<=9):J9 (Z3 (Ja c) hi)=true/\QY (Z3 (Ja c) hi)/\0<(Z3 (Ja c) hi).st/\(Z3 (Ja c) hi).st<=2 ^ (Ja c).st.toNat:=by
 have G:=h.pst;exact Qli h.celB.pok (o:=hi) (show(plA c).st≠0 by omega) (show(plA c).st<=12 by omega)
theorem qp.rkp:∀x∈c.rq,∀e∈x.a.al,e∈kpt (Ja c) hi:=λx hx e E=>by
 refine LQ.2 ⟨?_,OW (h.r x hx e E)⟩;show e∈(plA c).al;rw[h.al];obtain⟨y,G,I⟩:=h.celB.eco x hx e E;exact(zb (λa J=>(h.celB.ok a (LO _ J)).1) e).2 ⟨y.a,Ly.2 ⟨y,G,O⟩,I⟩
theorem qp.kp5:∀e∈kpt (Ja c) hi,0<=e/\e<5:=λe E=>h.b e (OX (LQ.1 E).2)
theorem qp.top (U:VQ c.co<=9):ZW (Ya c hi)=0:=by
 obtain⟨p1,p2,p3,p4⟩:=h.prj U;have ha:c.ev.length=5:=h.d.ev.1;have hq:=h.d.r2;have hc:(Z3 (Ja c) hi).st<=4096:=p2.st1;generalize Z3 (Ja c) hi=A at p1 p2 p3 hc;obtain⟨x0,l0,I⟩:∃x l,c.co=x::l:=by
  cases e:c.co with
  | nil=>exact OV (by rw[e];rfl) h.d.c0
  | cons x l=>exact⟨x,l,O⟩
 have hT:Ya c hi=⟨c.ev,[⟨x0.nm,Z3 (Ja c) hi⟩],c.rq,[],[]⟩:=by rw[Qmc,I];rfl
 have hf:=h.d.co x0 (by rw[I];exact Lk);have V:=h.d.nd;rw[I,LT,Mu]at V;obtain⟨n1,n2⟩:=List.nodup_cons.1 V;have n3:(x0.nm::c.rq.map (·.nm)).Nodup:=List.nodup_cons.2 ⟨λhm=>n1 (MN _ hm),(Mb.1 n2).2.1⟩;obtain⟨q1,q2,q3,q4⟩:=h.prj U;have G:∀e∈(Z3 (Ja c) hi).al,0<=e/\e<5:=h.kp5;have Y:∀x∈c.rq,∀e∈x.a.al,e∈(Z3 (Ja c) hi).al:=h.rkp;rw[hT];generalize Z3 (Ja c) hi=B at q1 q2 q3 G Y;have hr:B.st<=4096:=q2.st1;have hg:∀e∈B.al,e∈Vp c.ev.length:=λe J=>by
  have:=G e J;rw[ha,QeE];exact⟨this.1,this.2⟩
 have hh:Yu c.ev.length (Vp c.ev.length) [] ⟨x0.nm,B⟩=0:=by
  unfold Yu;rw[OS (by rw[hf.1];decide),OS od,OS (not_not_intro ((Zx B).2 q2)),OS (by rw[q1];decide),OS (by show ¬B.st=0;omega),OS,OS (not_not_intro (QaE q2.ali (QeF _) hg))];intro hn;obtain⟨e,E,S⟩:=Ni.1 hn;have T:=G e E;have:=OX S;omega
 have hj:Yv c.ev.length (Vp c.ev.length) [] [] [⟨x0.nm,B⟩]=(0,[x0.nm],mrg (· || ·) [] B.al):=by
  rw[Yv,OS (not_not_intro hh)];rfl
 have hu:∀e,e∈mrg (· || ·) [] B.al↔e∈B.al:=λe=>by
  rw[Ua List.Pairwise.nil q2.ali];constructor
  ·rintro⟨E|E,_⟩
   ·cases E
   exact E
  intro E;exact⟨.inr E,by simp[E]⟩
 have hk:=Qa7 (nev:=c.ev.length) (u:=mrg (· || ·) [] B.al) (QaD _ _ _ _ (Lp _) List.Pairwise.nil q2.ali) c.rq [x0.nm] (λx hx=>by
  obtain⟨E,S,_⟩:=h.d.rq x hx;refine⟨E,S,λe J=>?_⟩;have T:=Y x hx e J;have h4:=G e T;exact⟨oa,(hu e).2 T⟩) n3
 unfold ZW;rw[OS (not_not_intro h.d.ev.2),OS od,OS (by simp only[oL];omega),hj];simp only[];rw[OS (not_not_intro rfl),OS (not_not_intro hk)];have ho:X5 B.st=false:=by unfold X5;rw[OY oa,OY oa];rfl
 have hp:¬(szs [⟨x0.nm,B⟩]).any X5=true:=by
  show ¬(X5 B.st || false)=true;rw[ho];decide
 unfold Y1;rw[OS (show ¬8<(szs [⟨x0.nm,B⟩]).length by simp[szs]),OS hp,OS od];rfl
omit h in
theorem Qbr (E:QY a):∃z,xj [a]=some z:=by
 obtain⟨Q,G,_⟩:=Qb1 E;exact⟨_,G⟩
omit h in
theorem Qj1 {l:List Qz}(E:∀a∈l,QY a)(hl:l.length<=12):KG l=0:=by
 unfold KG;rw[OS oa];exact(Up _).2 E
theorem qp.okT (G:VQ c.co<=9):∀a∈O6 (Ya c hi).co++O6 (Ya c hi).rq,QY a/\0<a.st:=λa E=>by
 obtain⟨_,p2,p3,_⟩:=h.prj G;rcases Le.1 E with E|E
 ·rw[Lb.1 (show a∈[Z3 (Ja c) hi] from E)];exact⟨p2,p3⟩
 exact h.celB.ok a (MN _ E)
theorem qp.suT (E:VQ c.co<=9):qb (Ya c hi)=match xj (O6 (Ya c hi).co++O6 (Ya c hi).rq) with|none=>3|some _=>0:=by
 have I:=h.okT E;have T:=h.d.r2;obtain⟨z,J⟩:=Qbr (h.prj E).2.1;have S:xj (O6 (Ya c hi).co)=some z:=J;show YL (Ya c hi)=_;unfold YL;have k1:=Qj1 (l:=O6 (Ya c hi).co) (λa G=>(I a (LO _ G)).1) (show 1<=12 by decide);have k2:=Qj1 (l:=O6 (Ya c hi).co++O6 (Ya c hi).rq) (λa G=>(I a G).1) (by rw[Lc,XX,XX];show 1+c.rq.length<=12;omega);rw[OS (not_not_intro (h.top E)),OS (not_not_intro k1),S];simp only[];rw[OS (not_not_intro k2)];cases xj (O6 (Ya c hi).co++O6 (Ya c hi).rq) <;> rfl
theorem qp.celT (G:VQ c.co<=9)(I:qb (Ya c hi)=0):Qc4 (Ya c hi):=by
 refine⟨O,O,h.okT G,λx hx e E=>⟨_,Lb.2 O,h.rkp x hx e E⟩,λx hx e E=>?_,Qbr (h.prj G).2.1,?_⟩
 ·rw[Lb.1 hx]at E;have:=h.kp5 e E;show e<(c.ev.length:Int);rw[h.d.ev.1];exact this.2
 rw[h.suT G]at I;cases e:xj (O6 (Ya c hi).co++O6 (Ya c hi).rq) with
 | none=>rw[e]at I;cases I
 | some z=>exact⟨z,O⟩
omit h in
theorem y9 (E:∀a∈aa,QY a)(I:(aa.map (·.st.toNat)).foldr (·*·) 1<=4096):∃z,xj aa=some z :=
 QeH (P:=Vt aa) I (λl J S=>j8 J S) (λT=>⟨od,λi hi G=>by
  have Y:=T _ (Ll G);have h2:=(E _ (Ll G)).st0;simp only[Oq];omega⟩) λt U v _ u V=>Xl E U V
omit h in
theorem Qlh (l:List Jj)(E:∀x∈l,x.a.st<=3):((O6 l).map (·.st.toNat)).foldr (·*·) 1<=3 ^ l.length:=by
 induction l with
 | nil=>exact Lp _
 | cons x l ih =>
  have I:=E x Lk;show x.a.st.toNat*_<=_;rw[LK,OH,Nat.mul_comm];exact MX (ih λy G=>E y (Lj _ G)) oa
theorem qp.spT (J:VQ c.co<=6):((O6 (Ya c hi).co++O6 (Ya c hi).rq).map (·.st.toNat)).foldr (·*·) 1<=576:=by
 have S:=h.pst;have T:=(h.prj oa).2.2.2;have U:(2:Int) ^ (Ja c).st.toNat<=2 ^ 6:=by
  have:2 ^ (Ja c).st.toNat<=2 ^ 6:=Nk og (by show(plA c).st.toNat<=6;omega)
  exact_mod_cast this
 have E:(Z3 (Ja c) hi).st.toNat<=64:=oa
 have G:=Qlh c.rq λx hx=>(h.d.rq x hx).2.1.s;have I:3 ^ c.rq.length<=3 ^ 2:=Nk og h.d.r2;show(Z3 (Ja c) hi).st.toNat*((O6 c.rq).map (·.st.toNat)).foldr (·*·) 1<=576;exact Lx (MX E (Lx G I)) og
theorem qp.suX (E:VQ c.co<=9):qb (Ya c hi)=0\/qb (Ya c hi)=3/\6<VQ c.co:=by
 rw[h.suT E];cases e:xj (O6 (Ya c hi).co++O6 (Ya c hi).rq) with
 | some z=>exact .inl O
 | none =>
  refine .inr ⟨O,Decidable.byContradiction λJ=>?_⟩;obtain⟨z,G⟩:=y9 (aa:=O6 (Ya c hi).co++O6 (Ya c hi).rq) (λa I=>(h.okT E a I).1) (Lx (h.spT oa) og);rw[G]at e;cases e
omit h in
theorem Qk0 {B:Qz}(E:QY B)(fb ul:LI):(zi B fb ul).st<=B.st:=by
 have I:=E.st0;unfold zi Qbv;split
 ·exact I
 rename_i J;have S:0<B.st:=by
  have:B.st≠0:=λe=>J (.inl e);omega
 have G:=QoT (UG E (zu B fb ul)) S;rw[G.2.1];show((QgF (rstr B (zu B fb ul))).ord.length:Int)<=B.st;have:=G.2.2;have e:(rstr B (zu B fb ul)).st=B.st:=rfl;omega
theorem qp.htX (G:VQ c.co<=9):qY c hi=0\/qY c hi=3/\6<VQ c.co:=by
 unfold qY;rcases h.suX G with e|⟨e,e2⟩
 ·rw[OS (not_not_intro e)];have hT:=h.celT G e;have J:=KL e;have I:∀a∈[Ja c,KM (Ya c hi)],QY a:=λa E=>by
   rcases Ln.1 E with rfl|E
   ·exact h.celB.pok
   rw[Lb.1 E];exact J
  unfold KK;rw[OS (not_not_intro (Qj1 I (by show 2<=12;decide)))];cases e3:xj [Ja c,KM (Ya c hi)]with
  | some z=>exact .inl O
  | none =>
   refine .inr ⟨O,Decidable.byContradiction λT=>?_⟩;have U:=h.pst;have V:(KM (Ya c hi)).st<=(spc (Ya c hi)).a.st:=Qk0 hT.sok _ _;have Y:((spQ (Ya c hi)).length:Nat)<=576:=Lx (j8 hT.sy.1.nd hT.sy.1.v) (h.spT oa);have h4:=hT.sy.1.st;obtain⟨z,S⟩:=y9 (aa:=[Ja c,KM (Ya c hi)]) I (by
    show(plA c).st.toNat*((KM (Ya c hi)).st.toNat*1)<=4096;exact Lx (MX (show(plA c).st.toNat<=6 by omega) (show(KM (Ya c hi)).st.toNat*1<=576 by omega)) og)
   rw[S]at e3;cases e3
 rw[OT oa];exact .inr ⟨e,e2⟩
theorem qp.hcX (_h9:VQ c.co<=9):hcX c hi=qY c hi:=by
 unfold Lg.hcX hcE;rw[OS (not_not_intro h.hck),h.su0];by_cases e:qY c hi=0
 ·rw[OS (not_not_intro e),e]
 rw[OT e]
theorem qp.hgE:hgE c hi=qY c hi:=by unfold Lg.hgE;rw[OS (not_not_intro h.hck)]
end
theorem Z9.bare {H:xz}(h:Z9 L H c):Z9 L H { c with vx:=ZS,vk:=ZS,ex:=[],cs:=[] }:=
 ⟨h.ev,h.co,h.rq,⟨⟨O,Lo _,.inl ⟨O,O⟩⟩,(λq E=>by cases E),λq E=>by cases E⟩,⟨⟨rfl,Lo _,.inl ⟨rfl,rfl⟩⟩,(λq E=>by cases E),λq E=>by cases E⟩⟩
theorem Uv {v:O1}{es:LI}(h:Z9 [] ↑w c)(hE:Qu [] ↑w v es)(hl:c.co.length<=3)(U:∀x∈c.C.co,x.a.st<=3):
  QT sV 20 [c.val,v] w λr w'=>r=.bool (decide (3∈es) && decide (6<VQ c.C.co))/\sW w w':=by
 have he:=hE.le;refine Zk func20 ?_;refine Qc<|Zc c.cells λb2 V G hf Y=>Qb ?_
 replace hE:=hE.I G;refine Qe<|Qc<|Qb<|QX (α:=Nat) [(4,19)] (λz=>[(5,sS z)]) (λz w'=>w'=V/\z<=es.length/\(3∈es↔3∈es.drop z)) (λz=>es.length - z) 0 La ⟨O,Lo _,od⟩ ?_;rintro k g w2 ⟨rfl,hk,I⟩;refine Qe<|Ql<|Qa<|QG hE O<|ZT O O<|xe<|Zn rfl (λh9=>?_) (λh9=>?_)
 ·refine Qt ?_;rw[Lr oa]at I;refine Qc<|Qb<|Qj ⟨[.bool false],La,?_,G⟩;have J:¬(3:Int)∈es:=λh=>by have:=I.1 h;cases this
  rw[OY J];rfl
 have E:k<es.length:=oa
 have hd:=QW E;refine Qf<|Qe<|Qn<|Ql<|Qa<|xii (i:=k) hE O O E λhg ha=>x (Qq ha O)<|x (Zb O O)<|xe<|Zf rfl (λS=>?_) (λS=>?_)
 ·have T:es[k]'E=3:=S;refine Qc<|QZ Y O O<|Qw<|(qc (h.I G) hl U).S ?_;rintro r3 w3 ⟨rfl,hc⟩;refine x (Z7 O O)<|Qb<|Qj ⟨[_],La,?_,G.D hc⟩;have J:(3:Int)∈es:=by rw[<-T];exact Ll E
  rw[OW J];rfl
 have T:¬es[k]'E=3:=S;refine Qf<|Qr<|Qa<|QB O O<|Qb<|⟨k+1,oa,La,O,oa,?_⟩;rw[I,hd,Ln];exact⟨λh=>h.resolve_left λe=>T e.symm,.inr⟩
theorem PlA.I {L:LN}{w w':O0}{l:PlV}(h:PlA L ↑w l)(E:sW w w'):PlA L ↑w' l:=⟨h.n,h.b,h.x.I E,h.f0,h.f1,h.f2,h.bd⟩
theorem Qgo {l:PwV}{rs:List X4V}{hb:Nat}(hB:PlA [] ↑w (l.pl rs))(hV:hb<256):
  QT sV 12 [.agg (Z0 l++[Value.int .u8 (hb:Int)]).toArray] w λr w'=>sW w w'/\∃(c:CL) (vh:O1) (hi:LI),r=.tuple #[c.val,vh]/\(∀L:LN,(∀b∈L,b<↑w)->Z9 L ↑w' c)/\Qh 3 ↑w w' vh hi/\qp c.C hi:=by
 have ht:(Z0 l).length=152:=Qar (l:=l.pl rs) hB.n;have hW:(Z0 l++[Value.int .u8 (hb:Int)])[152]?=some (.int .u8 (hb:Int)):=by rw[Mn oa,ht];rfl
 refine Zk func12 ?_;refine Qc<|Zc (Z0 l++[Value.int .u8 (hb:Int)]) λb1 w1 hC g6 hX=>QS KR λb2 w2 hE g7 hF=>Qb ?_;have hu:=hC.D hE;have g8:=hC.size;have hY:=hu.size;have hG:=hX.I hE;refine Qc<|Q8 O<|x (ZQ (us:=Z0 l) hG O ht (by rw[NF,<-ht];exact List.take_left))<|Qw<|(Qgp (l:=l.pl rs) (hB.I hu)).S ?_;rintro r3 w3 ⟨hn,_,⟨c0,rfl,rfl,hH⟩,hZ⟩;have ga:=hH [] od;refine QS KR λb4 w4 gb hw gc=>Q5 c0.cells gc ga.ones λw5 ge gg=>xe ?_;refine Qc<|Q8 O<|Qo<|Qv (j:=3) (u:=ZS) gg O O od rfl λw6 gh gi=>Q8 rfl<|Qo<|Qv (j:=4) (u:=ZS) gi rfl rfl od rfl λU gj gk=>xe ?_;obtain⟨c,hc⟩:∃c:CL,c={ c0 with vx:=ZS,vk:=ZS,ex:=[],cs:=[] }:=⟨_,O⟩
 have Y:sW w3 U:=((gb.Q ge hw).Q gh hw).Q gj hw;have hI:=(hu.D hn).D Y;have g9:=hn.size;have ka:=Y.size;have gl:=(hF.I hn).I Y;have gm:=(hG.I hn).I Y;have gn:=hF.lt;have hJ:∀L:LN,(∀b∈L,b<↑w2)->Z9 L ↑U c:=λL hL=>by rw[hc];exact((hH L hL).I Y).bare
 have hK:c.cells=[c0.ve,c0.vc,c0.vr,ZS,ZS]:=by rw[hc]
 have go:QK ↑U b4 46 c.cells:=by rw[hK];exact gk
 have hz:c.C=⟨c0.C.ev,c0.C.co,c0.C.rq,[],[]⟩:=by rw[hc];rfl
 have hD:D25 c.C:=by rw[hz];exact hZ.bare
 have hM:c.C.ex=[]/\c.C.cs=[]:=by rw[hz];exact⟨O,O⟩
 clear hz hK hc;have kb:c.ev.length=5:=hD.ev.1;have ho:=hJ [] od;have kc:c.rq.length<=2:=by have G:=hD.r2;rw[show c.C.rq.length=c.rq.length from Lm ..]at G;exact G
 refine Qc<|Qb<|Qe<|Qc<|Qb<|QX (α:=Nat×O1×LI) [(5,8),(14,54)] (λz=>[(5,z.2.1),(6,sS z.1)]) (λz w'=>z.1<=5/\sW U w'/\Qh 3 ↑U w' z.2.1 z.2.2/\Yw z.2.2/\(∀v∈z.2.2,0<=v/\v<(z.1:Int))/\∀q∈c.rq,∀e∈q.p.a.al,e<(z.1:Int)->e∈z.2.2) (λz=>5 - z.1) (0,ZS,[]) ov
  ⟨Lo _,O4.Y _ _,QL _ _ _ _,List.Pairwise.nil,nofun,λq S e J hp=>by
   have:=((hD.rq q.it (LG S)).2.1.ok.al e J).1;have h2:e<0:=hp;omega⟩ ?_
 rintro⟨k,vo,m⟩ g w8 ⟨hk,I,gq,hr,hf,h6⟩;have hg:Qh 3 ↑U w8 vo m:=gq;have gr:k<=5:=hk;have ke:=I.size;have kf:m.length<=5:=Lx (xG k m (QdP hr) hf) gr;have hs:=go.I I;refine Qe<|Ql<|Qs O hs O O<|QG (ho.ev.arr.I I) O<|ZT O O<|xe<|Zn rfl (λh7=>?_) (λh7=>?_)
 ·refine Qt ?_;have gs:k=5:=by have gt:¬(k:Int)<(c.ev.length:Int):=h7;omega
  subst gs;refine Qc<|QZ hs O O<|Qa<|Q5 c.cells (gl.I I) ho.ones λw9 h8 gu=>Qb ?_;have gv:sW w w9:=(hI.D I).Q h8 oa;refine Qj ⟨[sT c.cells,vo],⟨JA gu,O,Z⟩,gv,c,vo,m,O,λL hL=>?_,?_,hD,hM.1,hM.2,hr,hf,λx hx e J=>?_⟩
  ·have G:=(hJ (b2::L) λb hb=>by
    rcases Ln.1 hb with rfl|hb
    ·exact gn
    exact LS (hL b hb) hY).I I
   exact(G.st (h8.S λb hb=>by rw[Lb.1 hb];exact Lk)).up λb hb=>.inl (Lj _ hb)
  ·have hN:=Qg hg h8 (λb hb hm=>by have:=(Qi hg b hb).1;rw[Lb.1 hm]at this;omega);exact⟨hN.1,hN.2.imp id λ⟨g,cap,cur,e1,e2,r⟩=>⟨g,cap,cur,e1,Lx hI.size e2,r⟩⟩
  obtain⟨q,S,rfl⟩:=Ly.1 hx;obtain⟨y,hy,h4⟩:=(hD.rq q.it hx).2.2 e J;exact h6 q S e J ((hD.co y hy).2.2 e h4)
 have hp:k<5:=by have gt:(k:Int)<(c.ev.length:Int):=h7;omega
 have gx:hb / 2 ^ k<256:=Nat.lt_of_le_of_lt (Nat.div_le_self _ _) hV;refine Qf<|Qe<|Qn<|QV (α:=Bool) [(7,7),(21,30)] (λz=>[(7,.bool z)]) (λz w'=>w'=w8) oh ?_ ?_
 ·refine Qr<|Qa<|xb (Yy O O) (λhO=>?_) (λhO=>OV (show(k:Int)<8 by omega) hO);refine Qa<|Qs O (gm.I I) O hW<|Qa<|x (QbN (n:=k) O O (by show k<=8;omega))<|x (UN (a:=hb / 2 ^ k) (b:=1) (OU (Value.int .u8) (Qaf hb k)) O gx og)<|x (Zb O O)<|x (VA O) <|
   Qb<|⟨_,⟨rfl,Z⟩,O⟩
 rintro z0 g gy rfl;refine Qe<|Qc<|Qb ?_;have hP:=ho.rq.arr.I I;refine QX (α:=Bool×Nat) [(7,8),(31,49)] (λz=>[(7,.bool z.1),(8,sS z.2)]) (λz w'=>sW gy w'/\z.2<=c.rq.length/\∀j (hj:j<c.rq.length),j<z.2->(k:Int)∈(c.rq[j]'hj).p.a.al->z.1=true) (λz=>c.rq.length - z.2) (z0,0) ov ⟨O4.Y _ _,Lo _,λj hj h0=>OV h0 (NJ j)⟩ ?_;rintro⟨q0,j⟩ g kg ⟨E,hj,hQ⟩;have hR:=I.D E;refine Qe<|Ql<|Qs O (hs.I E) O O<|QG (hP.I E) O<|ZT O O<|xe<|Zn rfl (λhS=>?_) (λhS=>?_)
 ·refine Qt<|Ql<|xe<|Q3 O (λhT=>?_) (λhT=>?_)
  rotate_left
  ·refine Qf<|Qr<|Qa<|QB O O<|Qb<|⟨(k+1,vo,m),by show 5 - (k+1)<5 - k;omega,ov,hp,hR,Qm hg E,hr,λv T=>?_,λq S e J h9=>?_⟩
   ·have G:=hf v T;have h2:v<(k:Int):=G.2;exact⟨G.1,by show v<((k+1:Nat):Int);omega⟩
   have h2:e<((k+1:Nat):Int):=h9;by_cases e1:e=(k:Int)
   ·obtain⟨i,hi,e2⟩:=LP S;have h3:=hQ i hi (by show i<j;omega) (by rw[e2,<-e1];exact J);have h4:q0=true:=h3;have h5:q0=false:=hT;rw[h4]at h5;cases h5
   exact h6 q S e J (by show e<(k:Int);omega)
  refine Qr<|Qa<|Qa<|Qo<|Q7 [[sS k]] λkh ki hA kj gz=>Qo<|Q2 (news:=[sS k]) (L:=[]) (Qm (Qm hg E) hA) O O O (gz.at od) om oa (oq E.size hA.size) λg0 kk g2 g3 kn =>
   Qb<|Qr<|Qa<|QB O O<|Qb<|⟨(k+1,g0,m++[(k:Int)]),by show 5 - (k+1)<5 - k;omega,ov,hp,(hR.D hA).O g3 λb hb=>.inr (Qi hg b hb).1,Qh.snoc g2,?_,λv T=>?_,λq S e J h9=>?_⟩
  ·refine Mg.2 ⟨hr,M5 _ _,λa ha b hb=>?_⟩;rw[Lb.1 hb];exact(hf a ha).2
  ·show 0<=v/\v<((k+1:Nat):Int);rcases Le.1 T with T|T
   ·have G:=hf v T;have h2:v<(k:Int):=G.2;exact⟨G.1,oa⟩
   rw[Lb.1 T];omega
  have h2:e<((k+1:Nat):Int):=h9;by_cases e1:e=(k:Int)
  ·rw[e1];exact MN _ (Lb.2 O)
  exact LO _ (h6 q S e J (by show e<(k:Int);omega))
 have V:j<c.rq.length:=by have ko:(j:Int)<(c.rq.length:Int):=hS;omega
 have g4:=Ll V;refine Qf<|Qe<|Qn<|Qr<|xB VC (λhh=>?_) (λhh=>?_)
 ·refine Qa<|Zy<|Zy<|Zy<|QE O<|Qb<|Qr<|Qa<|QB O O<|Qb<|⟨(q0,j+1),by show c.rq.length - (j+1)<c.rq.length - j;omega,⟨OU Value.bool hh.symm,O,Z⟩,E,V,λi hi hU hm=>hh⟩
 refine Qa<|Qs O (hs.I E) O O<|Qa<|O7 (g:=Zm) (i:=j) (λ_=>O) (hP.I E) O O V λkq g5=>x (ZF O)<|x (ZF O) <|
  x (Qq (g5.fld 1 _ O) O)<|Qa<|Qw<|(Qje (((ho.rq.each (c.rq[j]'V) g4).al.I I).I E) (k:Int)).S ?_
 rintro kr kt ⟨rfl,rfl⟩;refine QE rfl<|Qb<|Qr<|Qa<|QB O O<|Qb<|⟨(decide ((k:Int)∈(c.rq[j]'V).p.a.al),j+1),by show c.rq.length - (j+1)<c.rq.length - j;omega,ov,E,V,λi hi hU hm=>?_⟩;have ku:i<j+1:=hU;by_cases e:i=j
 ·subst e;exact OW hm
 have h4:q0=true:=hQ i hi (by show i<j;omega) hm;rw[h4]at hh;cases hh
theorem Qfd (V:List Vs):∀(f k:Nat),(lgW V f k).length<=f
 | 0,_=>Lp _
 | f+1,k=>by
  rw[Qcc];split
  ·have:=Qfd V f (gV V k).b.toNat;simp only[oP];omega
  exact Lo _
theorem Qfe {a b:Qz}{kd:Int}{al:LI}:∀(f i:Nat) (V:List Vs) (u:LI),lgL a b kd al f i V=some u->u.length<=f+i
 | 0,_,_,_,h=>by cases h
 | f+1,i,V,u,h=>by
  rw[lgL]at h;split at h
  ·split at h
   ·have e:(lgW V (i+1) i).reverse=u:=Option.some.inj h;rw[<-e,List.length_reverse];have:=Qfd V (i+1) i;omega
   have:=Qfe f (i+1) _ u h;omega
  cases h
theorem QlO {b:Qz}(E:QY a)(hb:QY b){kd:Int}(h:lgq a b kd=some u):u.length<=17000000:=by
 have G:=Qfe _ _ _ _ h;have I:=E.st1;have J:=hb.st1;have S:(a.st.toNat+1)*(b.st.toNat+1)<=4097*4097:=MX oa oa;omega
theorem QnV {l:PwV}{hb:Int}(h:l.ns.length=147):(Z0 l++[Value.int .u8 hb]).length=153:=by rw[Lc,show(Z0 l).length=152 from Qar (l:=l.pl []) h];rfl
theorem Qlo {l:PwV}{hb:Int}(h:l.ns.length=147):((Z0 l++[Value.int .u8 hb]).drop 0).take 152=Z0 l:=by rw[NF,<-show(Z0 l).length=152 from Qar (l:=l.pl []) h];exact List.take_left
theorem PwA.I {w w':O0}{l:PwV}(h:PwA w l)(E:sW w w'):PwA w' l:=⟨h.n,h.b,h.f0,h.f1,h.f2,h.bd,λG=>let⟨rs,I,J⟩:=h.r G;⟨rs,I,J.I E⟩⟩
theorem CL.co3 {hi:LI}(h:qp c.C hi):c.co.length<=3/\(∀x∈c.C.co,x.a.st<=3)/\c.ev.length=5:=by
 have E:=h.d.c3;rw[show c.C.co.length=c.co.length from Lm ..]at E;exact⟨E,λx hx=>(h.d.co x hx).2.1.s,h.d.ev.1⟩
theorem qp.hl {hi:LI}{c:Z6}(h:qp c hi):hi.length<=5:=xG 5 hi (QdP h.i) h.b
theorem Qrt {H:xz}{b:Nat}{m:Int}(h:QK H b T [sS m]):Qu [] H (sL b 1 1) [m]:=h.arr od (n:=1) (cap:=1) (sz:=1) rfl oa (Lp _)
def LqR (H:xz)(R:Option (LI))(v:O1)(e:Bool):Prop:=match R with|none=>v=ZS/\e=true|some u=>e=false/\Qu [] H v u
theorem Qq8 {E n:Int}(h:E=0\/E=3/\6<n)(G:E∈l)(I:(decide (3∈l) && decide (6<n))=false):E=0:=by
 rcases h with h|⟨h,J⟩
 ·exact h
 rw[h]at G;rw[OW G,OW J]at I;cases I
theorem qA {l:PwV}{hb:Nat}(hl:PwA w l)(gg:hb<256)(hh:Kb w 4096):
  QT sV 6 [.agg (Z0 l++[Value.int .u8 (hb:Int)]).toArray] w λr w'=>r=.bool true/\sW w w':=by
 refine Zk func6 ?_;refine Qc<|Zc (Z0 l++[Value.int .u8 (hb:Int)]) λb1 w1 h2 hj hK=>Qb<|Qe<|QV (α:=Bool) [(15,22)] (λz=>[(22,.bool z)]) (λz w'=>sW w1 w'/\(z=false->l.n<=4)) oh ?_ ?_
 ·refine Qr<|Qw<|(yE (hh.I h2)).S ?_;rintro r2 w2 ⟨rfl,T⟩;refine x (Zl O)<|Qa<|Q8 O<|x (ZQ (us:=Z0 l) (hK.I T) O (Qar (l:=l.pl []) hl.n) (Qlo hl.n))<|Qw<|(Qkn (l:=l) ((hl.I h2).I T)).S ?_;rintro r3 w3 ⟨rfl,hk⟩;refine x (Zl O)<|QE O<|xe ?_;exact⟨!decide (l.n<=4),La,T.D hk,λe=>ou e⟩
 rintro z g w2 ⟨T,hz⟩;have hr:=h2.D T;refine Q3 rfl (λhL=>?_) (λhL=>?_)
 ·refine Qc<|Qw<|(yE (hh.I hr)).S ?_;rintro r3 w3 ⟨rfl,hk⟩;refine Qb<|Qj ⟨[.bool true],La,O,hr.D hk⟩
 refine Qf<|Exists.elim (hl.pl hr (hz hL)) λrs gh=>?_;refine Qc<|QZ (hK.I T) O (QnV hl.n)<|Qw<|(Qgo gh.1 gg).S ?_;rintro _ w3 ⟨hk,c,vh,hi,rfl,gi,gj,hC⟩;have hM:=gi [] od;have gk:Qu [] ↑w3 vh hi:=Qh.ints gj (oo hC.hl) od;obtain⟨h3,h4,mt⟩:=CL.co3 hC;refine Qa<|QN O O<|QN O O<|QS KR λb3 w4 gl gm gn=>Q5 c.cells gn hM.ones λw5 go U =>
  Qb ?_
 have h5:sW w3 w5:=gl.Q go gm;have V:=(hr.D hk).D h5;have Y:=hM.I h5;have hN:=gk.I h5;refine Qe<|Qc<|QZ U O O<|Qw<|(Qkz Y h3 h4).S ?_;rintro _ w6 ⟨rfl,ha⟩;refine x (Zl O)<|xe<|Q3 rfl (λhP=>?_) (λhP=>?_)
 ·refine Qc<|Qb<|Qj ⟨[.bool true],La,O,V.D ha⟩
 have h9:VQ c.C.co<=9:=by simpa using hP
 have hX:=hC.hcX h9;have hg:=hC.hgE;have hQ:=hC.htX h9;have h6:=hC.su0;have hO:hck c.C hi=0->HOk c.C hi:=λ_=>hC.hok h9;have h7:qY c.C hi=0->QY (qC c.C hi):=Qcf (hC.pl9 h9);have hs:QY (KM c.C):=KL h6;have hsp:YL c.C=0:=h6;have hc:hcR c.C hi=match lgq (qC c.C hi) (KM c.C) 1 with|some u=>some u|none=>lgq (qC c.C hi) (KM c.C) 2:=rfl
 have cM:=λ{w:O0} (a:Z9 [] ↑w c) (b:Qu [] ↑w vh hi) (k:Kb w 4096)=>Qfk a b k hO;have cT:=λ{w:O0} (a:Z9 [] ↑w c) (b:Qu [] ↑w vh hi) (k:Kb w 4096)=>Qmd a b k hO;have cS:=λ{w:O0} (a:Z9 [] ↑w c) (k:Kb w 4096)=>JX a k;rw[hX]at cM;rw[hg]at cT;rw[hsp,h6]at cS;refine Zd (qY c.C hi) λE hE=>?_;rw[hE]at hQ h7 cM cT;refine Zd (qC c.C hi) λTA gq=>?_;rw[gq]at h7 cT hc;refine Zd (KM c.C) λSA gr=>?_;rw[gr]at hs cS hc;refine Zd (hcR c.C hi) λR hR=>?_;rw[hR]at hc cM;refine Qf<|Qc<|QZ (U.I ha) O O<|Qa<|Qw<|(cM (Y.I ha) (hN.I ha) (hh.I (V.D ha))).S ?_;rintro _ w7 ⟨gs,vc,ec,rfl,_,gt⟩;have hm:=ha.D gs;refine Qa<|QN O O<|QN O O<|QN O O<|x Qd<|x Qd<|Qb<|Qc<|QZ (U.I hm) O O<|Qa<|Qw<|(cT (Y.I hm) (hN.I hm) (hh.I (V.D hm))).S ?_;rintro _ w8 ⟨hS,ut,rfl,gu,gv,_,qC⟩;refine Qa<|QN O O<|QN O O<|QS Y7 λb8 w9 gx gy gz=>Qo<|Zu (us:=ut) gz O O gu O gv λg0 g2 g3 =>
  Qb ?_
 have h8:sW w8 g0:=gx.Q g2 gy;have ht:=hm.D (hS.D h8);refine Qc<|QZ (U.I ht) O O<|Qw<|(cS (Y.I ht) (hh.I (V.D ht))).S ?_;rintro _ g4 ⟨g5,sa,sm,se,rfl,hA,_,g6⟩;rw[OT rfl];refine Qa<|QN O O<|QN O O<|QS Y7 λb10 mu g7 g8 g9=>Q5 [sa,sS SA.st,sm,se] g9 ⟨hA.1,O,hA.2.1,hA.2.2.1,Z⟩ λka kb kc =>
  Qb ?_
 have hT:sW g4 ka:=g7.Q kb g8;have hv:=g5.D hT;have hw:=ht.D hv;refine Qe<|Qc<|QZ (U.I hw) O O<|Qa<|Qa<|Qa<|Qo<|Yg (us:=[[sS E],[sS E],[sS 0]]) O O og od ⟨rfl,rfl,rfl,rfl,rfl,rfl,Z⟩ λmv mw hU my ke =>
  Qw<|(Uv (es:=[E,E,0]) ((Y.I hw).I hU) (QlN ke) h3 h4).S ?_
 rintro _ kf ⟨rfl,kg⟩;have I:=hU.D kg;refine xe<|Q3 rfl (λhV=>?_) (λhV=>?_)
 ·refine Qc<|Qb<|Qj ⟨[.bool true],La,O,(V.D hw).D I⟩
 have hn:E=0:=Qq8 hQ od hV;refine Qf<|Qe<|QV (α:=Bool) [(56,65)] (λz=>[(65,.bool z)]) (λz w'=>w'=kf/\z=false) oh ?_ ?_
 ·refine Qr<|Qa<|xb (J0 O O) (λkh=>OV hn kh) (λ_=>?_);refine Qa<|Qa<|xb (J0 O O) (λki=>OV hn ki) (λ_=>?_);refine QE O<|Qa<|Qa<|ZL O O<|QE O<|xe ?_;exact⟨false,La,O,O⟩
 rintro z g mz ⟨rfl,kj⟩;refine Q3 rfl (λkk=>OV (kj.symm.D kk) og) (λ_=>?_);refine Qf ?_;have hB:=h7 hn;have hj:∀kd u,lgq TA SA kd=some u->u.length<=17000000:=λkd u J=>QlO hB hs J;have kn:∀u,R=some u->u.length<=17000000:=λu J=>by
  rw[hc]at J;cases G:lgq TA SA 1 with
  | none=>rw[G]at J;exact hj 2 u J
  | some u'=>rw[G]at J;exact hj 1 u (G.D J)
 obtain⟨ta,tm,te,ko,kq⟩:=qC hn;have kr:ut=[ta,sS TA.st,tm,te]:=OU Array.toList (Value.agg.inj ko);subst kr;have hW:=((kq [] od).I (h8.D hv)).I I;have hY:=((g6 O [] od).I hT).I I;have hZ:=(g3.I hv).I I;have ga:=kc.I I;have z1:=zK hB hs (kd:=1) (.inl O);have z2:=zK hB hs (kd:=2) (.inr O);have q1:=λ{w:O0} (a:Zp [] ↑w ta tm te TA) (b:Zp [] ↑w sa sm se SA)=>VF a b 1;have q2:=λ{w:O0} (a:Zp [] ↑w ta tm te TA) (b:Zp [] ↑w sa sm se SA)=>VF a b 2;rw[z1]at q1;rw[z2]at q2;have hD:=hw.D I;refine Qc<|QZ hZ O O<|QZ ga O O<|Qw<|(q1 hW hY).S ?_;rintro _ gb ⟨ho,v1,e1,rfl,kt⟩;have S:=kt O;refine Qa<|QN O O<|QN O O<|QN O O<|x Qd<|x Qd<|Qb<|QV (α:=O1×Bool) [(12,14),(73,84)] (λz=>[(12,z.1),(13,.bool z.2),(14,sS 0)]) (λz w'=>sW gb w'/\LqR ↑w' R z.1 z.2) oh ?_ ?_
 ·refine QV (α:=Bool) [(73,77)] (λz=>[(77,.bool z)]) (λz w'=>w'=gb/\z=e1) oh ?_ ?_
  ·refine Qr<|Qa<|xb (Zb O O) (λ_=>?_) (λku=>OV O ku);refine Qa<|Qa<|QE O<|xe ?_;exact⟨e1,La,O,O⟩
  rintro z g m0 ⟨rfl,gc⟩;refine Q3 O (λhF=>?_) (λhF=>?_)
  rotate_left
  ·have hG:e1=false:=gc.symm.D hF;refine Qf<|⟨(v1,e1),ox,O4.Y _ _,?_⟩;show LqR _ R v1 e1;rw[hc];cases G:lgq TA SA 1 with
   | none=>rw[G]at S;have:=S.2;rw[hG]at this;cases this
   | some u =>
    rw[G]at S;exact⟨S.1,Qh.ints S.2 (oo (hj 1 u G)) od⟩
  have hG:e1=true:=gc.symm.D hF;refine Qr<|QZ (hZ.I ho) O O<|QZ (ga.I ho) O O<|Qw<|(q2 (hW.I ho) (hY.I ho)).S ?_;rintro _ m1 ⟨kv,v2,e2,rfl,kw⟩;have hp:=kw O;refine Qa<|QN O O<|QN O O<|QN O O<|x Qd<|x Qd<|Qb<|⟨(v2,e2),ox,kv,?_⟩;show LqR _ R v2 e2;rw[hc];cases G:lgq TA SA 1 with
  | some u=>rw[G]at S;have:=S.1;rw[hG]at this;cases this
  | none =>
   show LqR _ (lgq TA SA 2) v2 e2;cases hH:lgq TA SA 2 with
   | none=>rw[hH]at hp;exact hp
   | some u =>
    rw[hH]at hp;exact⟨hp.1,Qh.ints hp.2 (oo (hj 2 u hH)) od⟩
 rintro⟨vz,ez⟩ g kx ⟨kz,k0⟩;have hy:=ho.D kz;refine Qe<|Qc<|QZ ((U.I hD).I hy) O O<|Qa<|Qo<|Q7 [[sS 0]] λm2 m3 ge m4 k4=>Qw<|(Uv (es:=[0]) (((Y.I hD).I hy).I ge) (Qrt k4) h3 h4).S ?_;rintro _ h0 ⟨rfl,k5⟩;have hI:=ge.D k5;refine xe<|Q3 rfl (λk6=>OV k6 (by rw[OY (by decide:¬(3:Int)∈[(0:Int)])];exact MI)) (λ_=>?_);refine Qf ?_;have he:=gt hn;have hf:LqR ↑kx R vz ez:=k0;have k9:ez=ec/\∃u,Qu [] ↑h0 vc u/\Qu [] ↑h0 vz u:=by
  cases hJ:R with
  | none =>
   rw[hJ]at he hf;exact⟨hf.2.D he.2.symm,[],by rw[he.1];exact Qi8,by rw[show vz=ZS from hf.1];exact Qi8⟩
  | some u =>
   rw[hJ]at he hf;refine⟨(show ez=false from hf.1).D he.1.symm,u,?_,hf.2.I hI⟩;have h1:Qu [] ↑w7 vc u:=Qh.ints he.2 (oo (kn u hJ)) od;have ma:sW w7 h0:=((((hS.D h8).D hv).D I).D hy).D hI;exact h1.I ma
 obtain⟨mc,u,mf,mg⟩:=k9;refine QV (α:=Bool) [(2,2),(89,100)] (λz=>[(2,.bool z)]) (λz w'=>sW h0 w'/\z=true) oh ?_ ?_
 ·refine Qr<|Qa<|xb (Zb O O) (λ_=>?_) (λmh=>OV O mh);refine Qa<|Qa<|Qa<|xB (b:=ec == ez) (Qdu O O) (λ_=>?_) (λmj=>OV mj (by rw[mc,beq_self_eq_true];decide));refine QE O<|Qa<|Qa<|Qa<|Qw<|(ji mf mg).S ?_;rintro _ m5 ⟨rfl,mo⟩;refine QE O<|Qb<|⟨decide (u=u),La,mo,OW O⟩
 rintro z g m6 ⟨mq,ms⟩;exact Qj ⟨[.bool z],La,by rw[ms];rfl,(((V.D hD).D hy).D hI).D mq⟩
theorem Xk {a b:Bool}(E:a=true)(G:b=true):(a && b)=true:=by rw[E,G];rfl
theorem QaK {f:FuncId}{s:ChangeSpec}{c:OpenClaim}(E:(c.wf (OpenSpec.ofChange s))=true)(G:(laidOutB P)=true)(I:(mapsRowed P)=true)(J:(fn.params.all (P.readableRec ·))=true)(S:(namedTie P c.named s.vars)=true)(T:((c.stops == []))=true)(U:((P.stops == []))=true)(V:((c.knobs == []))=true)(Y:((P.stopKnobs == []))=true)(ha:((c.inPlace == P.inPlace f))=true)(hc:((c.unfollowed == P.unfollowed f))=true)(he:((c.recurses == P.recurses f))=true)(hf:((c.named == P.varsNamed f))=true)(hg:((c.maps == (fn.params.toList++s.plain.varTypes P).any (P.mapsRec ·)))=true)(hh:((c.ifaces == (fn.params.toList++s.plain.varTypes P).any (P.ifacesRec ·)))=true)(hj:((c.mapsOut == P.mapsAmong fn.resultTypes.toList))=true)(hk:((c.loops == (fn.params.toList++s.plain.varTypes P).any (P.loopsFrom ·)))=true)(hm:((c.wideKeys == (fn.params.toList++s.plain.varTypes P++fn.resultTypes.toList).any (P.wideKeysFrom ·)))=true)(hn:(s.vars.all (P.varReadable ·))=true)(ho:(fn.resultTypes.all (λt=>P.readableRec t && decide (t<P.types.size)))=true)(hp:((c.ifacesOut == fn.resultTypes.toList.any (P.ifacesRec ·)))=true)(hq:((c.loopsOut == fn.resultTypes.toList.any (P.loopsFrom ·)))=true)(hr:((c.plainKeys == P.plainKeys))=true)(hs:(c.shortTexts.isNone)=true)(ht:(P.stopsHeard)=true)(hu:(P.mayEnter)=true)(hv:((c.lifted == P.liftsFinal))=true)(hw:((P.make == some c.make))=true)(hy:((c.kinds == (if c.domain.isEmpty then[]else fn.params.toList.map λt=>match P.underlying t with|some (.int k)=>some k|_=>none)))=true)(hz:((c.pinned == c.pinnedBy))=true)(h0:((c.veiled == (fn.params.toList++s.plain.varTypes P++fn.resultTypes.toList).any (P.veiledRec ·)))=true)(hA:(c.veiledFits P fn.params.toList (fn.params.toList++s.plain.varTypes P++fn.resultTypes.toList))=true):joinedFacts P f fn s c=true:=by
 unfold joinedFacts;exact(Xk (Xk (Xk (Xk (Xk (Xk (Xk (Xk (Xk (Xk (Xk (Xk (Xk (Xk (Xk (Xk (Xk (Xk (Xk (Xk (Xk (Xk (Xk (Xk (Xk (Xk (Xk (Xk (Xk (Xk (Xk E G) I) J) S) T) U) V) Y) ha) hc) he) hf) hg) hh) hj) hk) hm) hn) ho) hp) hq) hr) hs) ht) hu) hv) hw) hy) hz) h0) hA)
theorem zQ:laidOutB sV=true:=oc
theorem QiY:mapsRowed sV=true:=oc
theorem Qi0:sV.stopsHeard=true:=oc
theorem Qi1:sV.mayEnter=true:=oc
theorem QiZ:(false == sV.liftsFinal)=true:=oc
theorem Ql0:(sV.make == some Make.cut)=true:=oc
theorem Ql4:(Rows.hierarchyComparesRow.inPlace == sV.inPlace 6)=true:=oc
theorem Ql3:(Rows.hierarchyComparesRow.unfollowed == sV.unfollowed 6)=true:=oc
theorem Ql2:(Rows.hierarchyComparesRow.recurses == sV.recurses 6)=true:=oc
theorem Ql1:(Rows.hierarchyComparesRow.named == sV.varsNamed 6)=true:=oc
theorem Qon:Rows.hierarchyComparesRow.wfByText (OpenSpec.ofChange Rows.hierarchyComparesSpec)=true:=oc
theorem Qoq:Tryz.pinned.checked.prog.mainIs=some (true, "7e6c111e63cd6b879c1f82077465bee9620edb040a7287706e5c7dbd129b5c95".toList):=oc
theorem Qop:sV.funcNamed "overseer/overseerlaw36.HierarchyCompares" = some 6:=oc
theorem Qor:false=sV.looks []:=oc
theorem Qoo:([38].all λu=>!sV.wantsStandIn u)=true:=oc
theorem Qos:false=Rows.hierarchyComparesRow.goesBy Tryz.pinned.checked.prog:=oc
section
variable {H:Type}{enc:TypeId×O1->H}{W:O0}{b0:Nat}{sp:Nat->Bool}{held:Bool}
theorem QgR {v:O1}{d:DataW H}{ps:List MemPlace}{t tq:TypeId}{fs he:Array Field}{E g1:Field}(G:P.underlying t=some (.struct fs))(hg:P.underlying tq=some (.struct he))(hc:P.cellsOf t=153)(I:P.cellsOf tq=152)
  (J:(P.cellTypes P.depth t).map oV=some 153) (S:(P.cellTypes P.depth t).map (·.take 152)=P.cellTypes P.depth tq) (f0:fs[0]?=some E) (f1:fs[1]?=some g1) (t0:E.type=tq) (o0:E.offset=0) (o1:g1.offset=152) (c1:P.cellsOf g1.type=1) (k1:kT P .u8 5 g1.type=true)
  (T:Value.okWide P W .any base t v) (h:DataW.Trod enc P W b0 sp held t v d ps):∃(l:LV) (hb:Nat),v=.agg (l++[Value.int .u8 (hb:Int)]).toArray/\hb<256/\Value.okWide P W .any base tq (sT l)/\∃d' ps',DataW.Trod enc P W b0 sp held tq (sT l) d' ps':=by
 simp only[Value.okWide,G]at T;obtain⟨cs,rfl,U,ts,hh,hs,hj⟩:=T;rw[hc]at U;obtain⟨l⟩:=cs;have hl:l.length=153:=U;obtain⟨fuel,hf⟩:=h;obtain⟨xs,m,_,_,_,hk,hm⟩:=DataW.trod_struct G hf;have V:∀(i:Nat) (f:Field),fs[i]?=some f->DataW.trod enc P W b0 sp held m f.type ((l.drop f.offset).take (P.cellsOf f.type))=xs[i]?:=hm;have ht:0<fs.size:=(LH.1 f0).1;obtain⟨z,hz⟩:∃z,xs[0]?=some z:=⟨xs[0]'oa,LE oa⟩;have e0:=V 0 E f0;rw[t0,o0,I,NF,hz]at e0;obtain⟨c,Y⟩:∃c,l[152]?=some c:=⟨l[152]'oa,LE oa⟩;obtain⟨hb,rfl,hn⟩:=Qdg (Vg hk V f1 k1 oa oa Y);have ho:l=l.take 152++[Value.int .u8 (hb:Int)]:=by
  have h1:l.drop 152=[Value.int .u8 (hb:Int)]:=by
   apply Nn;intro i;rw[MG]
   match i with
   | 0=>exact Y
   | i+1=>rw[Mq oa];rfl
  rw[<-h1,MA]
 refine⟨l.take 152,hb,by show Value.agg l.toArray=_;rw[<-ho],hn,?_,z.1,z.2,m,e0⟩;rw[hh]at S J;have hp:ts.length=153:=Option.some.inj J;simp only[Value.okWide,hg];refine⟨(l.take 152).toArray,O,by rw[I];simp;omega,ts.take 152,S.symm,⟨1,by simp;omega⟩,λi v hv=>?_⟩;have hi:i<152:=by
  have:=(LH.1 hv).1;simp at this;omega
 have hq:l[i]?=some v:=by
  have h2:(l.take 152)[i]?=some v:=by simpa using hv
  rwa [LZ,OT hi]at h2
 obtain⟨u,ha,hr⟩:=hj i v (ou hq);rw[hp,NG (show i<153 by omega)]at ha;refine⟨u,?_,hr⟩;rw[show(ts.take 152).length=152 by simp;omega,NG hi,LZ,OT hi];exact ha
end
theorem Qqv {H:Type}{enc:TypeId×O1->H}{W:O0}{b0:Nat}{sp:Nat->Bool}{held:Bool}{v:O1}{d:DataW H}{ps:List MemPlace}(E:Value.okWide sV W .any base 38 v)(h:DataW.Trod enc sV W b0 sp held 38 v d ps):
  ∃(l:PwV) (hb:Nat),v=.agg (Z0 l++[Value.int .u8 (hb:Int)]).toArray/\hb<256/\PwA W l:=by
 obtain⟨cs,hb,rfl,G,I,U,V,J⟩:=QgR (tq:=36) underlying38 underlying36 oc oc oc oc O O O O O oc oc E h;obtain⟨l,S,T⟩:=Qqu I J;refine⟨l,hb,?_,G,T⟩;have:=OU Array.toList (Value.agg.inj S);rw[show cs=Z0 l from this]
end Go.Lg
