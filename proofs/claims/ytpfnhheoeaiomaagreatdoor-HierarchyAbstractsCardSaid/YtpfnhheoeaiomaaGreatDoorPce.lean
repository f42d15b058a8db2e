/- Merged out of 68 texts. -/
import Derived.Test.YtpfnhheoeaiomaaGreatDoorPcd
import Derived.ChangeSame
import Derived.Carry
import Derived.OpenShut
import Derived.RowKit
import Derived.ChangeSlices
import Derived.WideShapes
import Derived.ProofKit
import Derived.ChangeArms
import Derived.Lib.LaidTab
import Derived.Stop.LaidErr
import Derived.MakeChecks
set_option maxHeartbeats 40000000
set_option maxRecDepth 100000
set_option linter.all false
open Go Go.Lg
open Go.Value renaming int->oB
open Go.IntKind renaming i64->oC
open _root_.List renaming mem_singleton->oF,not_mem_nil->oH,range->oJ,mem_cons->oK,length_singleton->oL,length_append->oM,range'->oN,getD->oO,length_cons->oQ,map_cons->oS,length->oU,getElem?_eq_getElem->oV,getElem?_append_left->Oa,all_cons->Ob,size_toArray->Od,append_assoc->Of,mem_range'_1->Oh,mem_filter->Oi,mem_map->Ol,nil_append->On,getElem_replicate->Oq,getElem_cons_zero->Ot,length_map->Ow,filter_cons->OA,map_nil->OC
open _root_.Bool renaming and_eq_true->oI,true_and->OK
open _root_.Nat renaming zero_add->oX,add_mul->Ou,le_refl->OE,pow_succ->OH,lt_or_ge->OM,succ_mul->OO
open _root_.Int renaming toNat_natCast->Oy
open _root_.Array renaming toList->OP
open Go renaming World->O1,Value->O2,Operand->O3,Program->O4
open Go.Proofs Go.Proofs.Tryz
open Go.Proofs.Tryz renaming prog->sV
variable {w w' W':O1}{L L' ds ns:LN}{n t i sz base T j N E m g id B kt ty G et gf off:Nat}{a:Qz}{l o u un hi ul rs:LI}{cs us cap capt:LV}{α β:Type}{y:O3}{va ve vm z vt vl vs v' vk vx vb vr vo vh vu vz:O2}{f:Fr}{P:O4}{c:CL}{aa:List Qz}{fn:Func}{s:Int}{es ed:List Ed}{K:xx}{d:xE}{pS:String}{af:xC}{gd:xq}{k':IntKind}{at_:Array Nat}{ops:xD}{q:IV}{qx:List XV}{ks:List KV}
namespace Go.Lg
instance ayAz1:Ay sV 25 3 24 1:=⟨oc,oc⟩
instance ayAz2:Ay sV 30 2 24 1:=⟨oc,oc⟩
instance ayAz3:Ay sV 31 2 28 27:=⟨oc,oc⟩
instance ayAz4:Ay sV 34 3 33 1:=⟨oc,oc⟩
abbrev X4V:={r:LN // r.length=4/\∀n∈r,n<256}
abbrev Xi (r:X4V):LV:=bys r.1
theorem zz (r:X4V):(Xi r).length=4:=by show(bys r.1).length=4;unfold bys;rw[Ll,r.2.1]
structure PlV where
 ns:LN
 vx:O2
 xs:List X4V
 f0:Int
 f1:Int
 f2:Int
 bd:Int
abbrev Xb (l:PlV):LV:=bys l.ns++[l.vx,.int .i8 l.f0,.int .i8 l.f1,.int .i8 l.f2,.int .i8 l.bd]
abbrev i8R (n:Int):Prop:=-128<=n/\n<=127
structure PlA (L:LN)(H:xA)(l:PlV):Prop where
 n:l.ns.length=147
 b:∀n∈l.ns,n<256
 x:Zt L H l.vx l.xs.length 4 (l.xs.flatMap Xi)
 f0:i8R l.f0
 f1:i8R l.f1
 f2:i8R l.f2
 bd:i8R l.bd
theorem QaE {l:PlV}(h:l.ns.length=147):(Xb l).length=152:=by rw[Xb,Lc,Xx,h];rfl
theorem Qip {l:PlV}(h:l.ns.length=147)(j:Nat):(Xb l)[147+j]?=([l.vx,.int .i8 l.f0,.int .i8 l.f1,.int .i8 l.f2,.int .i8 l.bd]:LV)[j]?:=by
 rw[Xb,Mn (by rw[Xx];omega),Xx,h,M1]
theorem Qe6 {l:PlV}(h:l.ns.length=147)(E:j<147):(Xb l)[j]?=some (.int .u8 ((l.ns.getD j 0:Nat):Int)):=by
 rw[Xb,LY (by rw[Xx];omega)];exact qu oa
theorem QdH {l:PlV}{o:Nat}(j:Nat)(u:O2)(h:(bys ((l.ns.drop o).take m))[j]?=some u):(Xb l)[o+j]?=some u:=by
 have E:=Qnd (ns:=l.ns) (o:=o) (n:=m) j u h;have G:=(Mh.1 E).1;rw[Xb,LY G];exact E
theorem QfP {sz:LI}:∀(ls:xw) (pr:Option Int),(∀b,pr=some b->∀p∈ls,b<p.1)->ls.Pairwise (λp q=>p.1<q.1)->(∀p∈ls,0<=p.1/\p.1<(sz.length:Int)/\0<=p.2/\p.2<O6 sz p.1.toNat)->XB sz pr ls=0
 | [],_,_,_,_=>rfl
 | p::ls,pr,G,I,hb=>by
  obtain⟨S,T,U,V⟩:=hb p Lm;obtain⟨k1,k2⟩:=L6.1 I;have hl:z8 pr p.1=false:=by
   cases pr with
   | none=>rfl
   | some b=>have:=G b O p Lm;unfold z8;exact OZ oa
  rw[XB,OT oa,OT (by rw[hl];decide),OT oa];exact QfP ls (some p.1) (λb J q E=>by cases J;exact k1 q E) k2 (λq E=>hb q (Lk _ E))
theorem QfO {sz:LI}:∀(ls:xw) (pr:Option Int),(∀b,pr=some b->∀p∈ls,b<p.1)->ls.Pairwise (λp q=>p.1<q.1)->(∀p∈ls,0<=p.1/\p.1<(sz.length:Int)/\p.2≠0/\-65536<=p.2/\p.2<=65536)->JR sz pr ls=0
 | [],_,_,_,_=>rfl
 | p::ls,pr,G,I,hb=>by
  obtain⟨U,V,J,Y,h5⟩:=hb p Lm;obtain⟨k1,k2⟩:=L6.1 I;have hl:z8 pr p.1=false:=by
   cases pr with
   | none=>rfl
   | some b=>have:=G b O p Lm;unfold z8;exact OZ oa
  have S:grt p.2=false:=by unfold grt;rw[OZ oa,OZ oa];rfl
  rw[JR,OT oa,OT (by rw[hl];decide),OT (by rw[S];simpa using J)];exact QfO ls (some p.1) (λb T q E=>by cases T;exact k1 q E) k2 (λq E=>hb q (Lk _ E))
theorem QeQ (a:Int){b:Int}(h:0<b):-b<a.tmod b/\a.tmod b<b:=⟨Int.lt_tmod_of_pos a h,Int.tmod_lt_of_pos a h⟩
structure ItG (c:Nat)(k:Nat)(q:IV):Prop where
 nm:q.nm=⟨#[UInt8.ofNat c]⟩++⟨#[UInt8.ofNat (48+k)]⟩
 g:GdA q.p.a
 e:∀e∈q.p.a.al,e<5
theorem QiV (k:Nat)(h:k<3):Xl (nmI 99 k)=true/\Xl (nmI 114 k)=true/\Xl (nmI 101 k)=true:=by
 match k,h with
 | 0,_=>decide
 | 1,_=>decide
 | 2,_=>decide
theorem Qgx:∀n,n<4->∀m,m<3->((oJ n).map (nmI 99)++(oJ m).map (nmI 114)).Nodup:=og
theorem jQ {c:Nat}{co:List IV}(h:∀k (E:k<co.length),ItG c k (co[k]'E)):(co.map IV.it).map (·.nm)=(oJ co.length).map (nmI c):=by
 apply LX
 ·simp
 intro i G I;simp only[List.getElem_map,List.getElem_range];exact(h i (ou G)).nm
theorem Qpj {co rq:List IV}{al:LI}(h1:1<=co.length)(h3:co.length<=3)(J:∀k (E:k<co.length),ItG 99 k (co[k]'E))(U:∀e,e∈al↔∃q∈co,e∈q.p.a.al)(hf:rq.length<=2)
  (S:∀k (E:k<rq.length),ItG 114 k (rq[k]'E)/\∀e∈(rq[k]'E).p.a.al,e∈al) (hg:qx.length<=2) (V:(qx.map (·.nm)).Nodup) (Y:∀q∈qx,(∃k,k<2/\q.nm=⟨#[101]⟩++⟨#[UInt8.ofNat (48+k)]⟩)/\q.ls≠[]/\q.ls.length<=3/\XB (co.map (·.p.a.st)) none q.ls=0)
  (hh:ks.length<=1) (ha:∀q∈ks,q.nm=⟨#[107]⟩/\XC (co.map (·.p.a.st)) q.k=0):D25 ⟨Jz ns 5,co.map IV.it,rq.map IV.it,qx.map XV.x,ks.map KV.k⟩:=by
 have T:szs (co.map IV.it)=co.map (·.p.a.st):=by unfold szs;rw[Mw];rfl
 refine⟨⟨Vv ns 5,QjY ns⟩,by simp only[Ow];omega,by simp only[Ow];omega,by simp only[Ow];omega,λx hx=>?_,λx hx=>?_,?_,by simp only[Ow];omega,λx hx=>?_,?_,by simp only[Ow];omega,λx hx=>?_⟩
 ·obtain⟨q,G,rfl⟩:=Ly.1 hx;obtain⟨k,E,rfl⟩:=LP G;have g:=J k E;exact⟨by show Xl (co[k]'E).nm=true;rw[g.nm];exact(QiV k oa).1,g.g,g.e⟩
 ·obtain⟨q,G,rfl⟩:=Ly.1 hx;obtain⟨k,E,rfl⟩:=LP G;have g:=S k E;refine⟨by show Xl (rq[k]'E).nm=true;rw[g.1.nm];exact(QiV k oa).2.1,g.1.g,λe he=>?_⟩;obtain⟨y,hy,hc⟩:=(U e).1 (g.2 e he);exact⟨y.it,LG hy,hc⟩
 ·show((co.map IV.it).map (·.nm)++(rq.map IV.it).map (·.nm)).Nodup;rw[jQ J,jQ (λk E=>(S k E).1)];exact Qgx _ oa _ oa
 ·obtain⟨q,G,rfl⟩:=Ly.1 hx;obtain⟨⟨k,k1,k2⟩,I,_,g4⟩:=Y q G;refine⟨by show Xl q.nm=true;rw[k2];exact(QiV k oa).2.2,I,?_⟩;show XB (szs (co.map IV.it)) none q.ls=0;rw[T];exact g4
 ·show((qx.map XV.x).map (·.nm)).Nodup;rw[Mw];exact V
 obtain⟨q,G,rfl⟩:=Ly.1 hx;obtain⟨g1,I⟩:=ha q G;refine⟨by show Xl q.nm=true;rw[g1];decide,?_⟩;show XC (szs (co.map IV.it)) q.k=0;rw[T];exact I
def flk (l:PlV)(i:Nat):Int:=[l.f0,l.f1,l.f2].getD i 0
theorem Qql {l:PlV}(h:l.ns.length=147)(hi:i<3):(Xb l)[0+148+i*1]?=some (.int .i8 (flk l i)):=by
 rw[show 0+148+i*1=147+(1+i) by omega,Qip h]
 match i,hi with
 | 0,_=>rfl
 | 1,_=>rfl
 | 2,_=>rfl
theorem Qqk {H:xA}{l:PlV}(h:PlA L H l)(i:Nat)(hi:i<3):i8R (flk l i):=by
 match i,hi with
 | 0,_=>exact h.f0
 | 1,_=>exact h.f1
 | 2,_=>exact h.f2
theorem QjX (ns:LN):∀e∈Jz ns 5,yY e.nm:=λe E=>by
 unfold Jz at E;obtain⟨k,_,rfl⟩:=Ly.1 E;unfold KA;split <;> exact Jj od
theorem QgD {l:PlV}(h:PlA [] ↑w l):
  QR sV 34 [sT (Xb l)] w λr w'=>sW w w'/\∃k,yW ↑w ↑w' r k/\D25 k:=by
 refine Zg (1+l.ns.getD 5 0 % 3) λn hn=>?_;have hn3:1<=n/\n<=3:=oa
 refine Zm func34 ?_;refine Qc<|Za (Xb l) λb1 w1 hs1 hb1 pj=>QN X3 λb2 w2 k5 hb2 pn=>xe ?_;have po:=hs1.D k5;have hl1:=pj.lt;have hl2:=pn.lt;have gy:=pj.I k5;have pp:((l.ns.drop 0).take 5).length=5:=by rw[LC,Mo,h.n];rfl
 have hflt:∀n∈(l.ns.drop 0).take 5,n<256:=λn hn=>h.b n (MS (L3 hn));refine Qc<|Zc O<|x (U3 (us:=bys ((l.ns.drop 0).take 5)) gy O (by rw[Xx];exact pp) (λj u hu=>QdH (l:=l) (o:=0) (m:=5) j u hu))<|Qv<|(Qdd (ns:=(l.ns.drop 0).take 5) pp hflt).S ?_;rintro ve w3 ⟨pt,gn⟩;refine Zg (Jz ((l.ns.drop 0).take 5) 5) λev kn=>?_;rw[kn]at gn;refine x (QE ⟨xM gn,Z⟩)<|QN X3 λG w4 hs4 hb3 hB3=>Q2 [ve,Zs,Zs,Zs,Zs] hB3 ⟨QC gn,O,O,O,O,Z⟩ λw5 hs5 pu =>
  xe ?_
 have pw:sW w3 w5:=hs4.Q hs5 hb3;refine Qc<|QN [Zs] λb4 w6 pz hb4 p0=>xe ?_;have p4:=pw.D pz;have gz:=pt.D p4;have U:=k5.D gz;have hz3:=pt.size;have hz35:=pw.size;have hl3:=pu.lt;have hl4:=p0.lt;have k6:=gy.I gz;have hB36:=pu.I pz;have q5:=Qe6 (l:=l) h.n (j:=5) oa;have q5l:=Je h.b 5;refine Zg (l.ns.getD 5 0) λcn hcn=>?_;rw[hcn]at q5 q5l hn;refine Qc<|Qq O k6 O q5<|x (zP (a:=(cn:Int)) (b:=3) O O oa oa)<|x (Yh (k':=.i64) O ⟨oa,oa⟩)<|QD O O<|Qb<|QX (α:=O2×List IV×O2×LI) [(6,7),(26,55)] (λ_=>[]) (λz w'=>O5 [G,b4] w6 w'/\QL ↑w' G 46 [ve,z.1,Zs,Zs,Zs]/\QL ↑w' b4 47 [z.2.2.1]/\q8 ↑w6 w' z.1 z.2.2.1 z.2.1 z.2.2.2/\z.2.1.length=n/\(∀k (S:k<z.2.1.length),ItG 99 k (z.2.1[k]'S))/\z.2.2.2.length<=5*n/\∀e,e∈z.2.2.2↔∃q∈z.2.1,e∈q.p.a.al) oh ?_ ?_
 ·refine Qk<|Qa<|xe<|QW (α:=Nat×O2×List IV×O2×LI) [(6,7),(27,55)] (λz=>[(27,sS z.1)])
   (λz w'=>z.1<=n/\O5 [G,b4] w6 w'/\QL ↑w' G 46 [ve,z.2.1,Zs,Zs,Zs]/\QL ↑w' b4 47 [z.2.2.2.1]/\q8 ↑w6 w' z.2.1 z.2.2.2.1 z.2.2.1 z.2.2.2.2/\z.2.2.1.length=z.1/\(∀k (S:k<z.2.2.1.length),ItG 99 k (z.2.2.1[k]'S))/\z.2.2.2.2.length<=5*z.1/\∀e,e∈z.2.2.2.2↔∃q∈z.2.2.1,e∈q.p.a.al)
   (λz=>n - z.1) (0,Zs,[],Zs,[]) La
   ⟨Lo _,O5.Y _ _,hB36,p0,q8.nil,O,λk S=>OW S od,od,od⟩ ?_
  rintro⟨i,vc,co,va,al⟩ g7 w7 ⟨hi,hC,go,gc,hv,g0,hV,k9,gq⟩;simp only[]at hi go gc hv g0 hV k9 gq;refine Zk O O (λma=>?_) (λma=>?_)
  ·refine Qt ?_;have mc:i=n:=by have h29:¬(i:Int)<1+(cn:Int) % 3:=ma;omega
   exact⟨(vc,co,va,al),Z,hC,go,gc,hv,oe,hV,oe,gq⟩
  have h5:i<n:=by have h29:(i:Int)<1+(cn:Int) % 3:=ma;omega
  have mf:b1∉[G,b4]:=by simp only[oK,oH,or_false];omega
  have hW:=k6.J hC mf;have qs:=Qe6 (l:=l) h.n (j:=0+6+i*1) oa;have qsl:=Je h.b (0+6+i*1);refine Zg (l.ns.getD (0+6+i*1) 0) λm hm=>?_;rw[hm]at qs qsl;have mg:=V9 m 5;have g2:=QbT m 5;have ge:=QeY m 5;refine Zg (setK m 5) λsk g3=>?_;rw[g3]at mg g2 ge;refine Qf<|Qd<|Qn<|Qk<|Qb<|Qk<|Zc O<|x (ZV (i:=i) O O oa)<|ZE hW O qs<|Qv<|(Ua m qsl _).S ?_;rintro vs w8 ⟨hg,ko⟩;rw[g3]at ko;refine Qb ?_;have p5:=hg.size;have hE:=hv.I hg;have hI8:=Qi.ints (L:=[]) hE.a oa od;have hJ8:=Qi.ints (L:=[]) ko oa od;refine Qc<|ZE (gc.I hg) O O<|Qa<|Qv<|(Qdq hI8 hJ8 oa).S ?_;rintro p6 w9 ⟨V,p7,hal2,p8,gg⟩;have kq:=hg.D V;have mh:=V.size;have hz7:=hC.size;refine Qo<|Qw (gc.I kq) O O od (QC gg) λhh hw hB410=>xe ?_;have hl36:G<w6.heap.size:=oa
  have h7:q8 ↑w6 w9 vc p6 co p7:=hE.setA (Zf gg oa) V.any (λb hb=>.inr (Qj gg b hb).1);have hy:=h7.low hw (λb hb=>by rw[Lb.1 hb];omega);have g4:QL ↑hh G 46 [ve,vc,Zs,Zs,Zs]:=(go.I kq).J hw ol;have mj:=(hW.I kq).J hw ol;have mo:Qu [] ↑hh vs sk:=Qi.ints (L:=[]) (Qg (Qm ko V) hw (λb hb hm=>by have:=(Qj ko b hb).1;rw[Lb.1 hm]at this;omega)) oa od;have hz10:=hw.size;have n3v:G∉ob vc:=QK hy.c oa;have n1v:b1∉ob vc:=QK hy.c oa;have gh:=QjB (ns:=l.ns) (o:=0+9+i*27) (oo h.n);have g5:=QnL (o:=0+9+i*27) h.b;have g6:=λj u=>QdH (l:=l) (o:=0+9+i*27) (m:=27) j u;refine Zg (grN l.ns (0+9+i*27)) λgr h8=>?_;have mq:∀j u,(bys gr)[j]?=some u->(Xb l)[0+9+i*27+j]?=some u:=by rw[<-h8];exact g6
  rw[h8]at gh g5;have ka:sW hh { hh with drawn:=hh.drawn+1 }:=O5.X _ _
  have kb:(48:Int)+(i:Int)=((48+i:Nat):Int):=oa
  refine Zg (⟨#[99]⟩++⟨#[UInt8.ofNat (48+i)]⟩:ByteArray) λnm hH=>?_;refine ZL (ob vc) (Xg 0 18 [12,14,15,17])<|p (QH O)<|pq (λ_ hc=>Ql (g4.J hc n3v) O O)<|p Qx<|p (λ_=>Xp O O ⟨oa,oa⟩)<|p (λ_=>Yh (k':=.i32) O ⟨oa,oa⟩)<|p (λ_=>U0 (n:=48+i) (OV (Value.int .i32) kb) oa) <|
   p (λ_=>YJ (a:=⟨#[99]⟩) (b:=⟨#[UInt8.ofNat (48+i)]⟩) O O (by show 1+1<=1000000000;omega))<|p Qx<|p Qx<|p (QH O)<|p (λ_=>ZV (i:=i) O O oa)<|pq (λ_ hc=>U3 (us:=bys gr) (mj.J hc n1v) O (by rw[Xx];exact gh) mq)<|?_
  refine pk<|xg<|(yi (mo.I ka) (λe T=>oo (ge e T)) g2 gh g5).S ?_;rintro r11 ho ⟨gi,a,⟨xa,xm,h6,rfl,hA⟩,hG,gs⟩;have hI:=ka.D gi;have p9:=hI.size;have gj:=hA [] od;refine⟨hI.any,?_⟩;refine p (λ_=>Zu [(0,[.string nm]),(1,[xa,sS a.st,xm,h6])] ⟨OV (λb=>(Value.string b).cells) hH,O,O,O,Z⟩)<|pk<|Q9 [QZ ⟨nm,⟨xa,xm,h6,a⟩⟩] λb14 gk hf hb14 ms=>⟨(hI.D hf).any,?_⟩;have hz:=hI.D hf;have kc:=hy.I hz;refine pk<|Q8 (news:=QZ ⟨nm,⟨xa,xm,h6,a⟩⟩) (L:=[]) kc.c O O O (ms.at od) (Qa0 gj.al.one gj.mr.one gj.ed.one) oa (oo hz.size) λmt hJ ke J mu=>⟨(hz.any (L:=ob vc)).V J,?_⟩;have mv:=kc.setC (yc (q:=⟨nm,⟨xa,xm,h6,a⟩⟩) (N:=↑hh) (λL hL=>(hA L hL).I hf) oa hy.avlt) ke J mu;refine p (QH O)<|pkk<|Qw ((g4.I hz).J J n3v) O O od (QC ke) λhK U hX=>pe ?_;have hge:=Qj hy.c;have n4v:b4∉ob vc:=QK hy.c oa;have hB416:=((hB410.I hz).J J n4v).J U ol;have hs710:O5 [b4] w7 hh:=kq.any.V hw;have hs615:O5 [G,b4] w6 hJ:=((hC.V (hs710.S od)).D hz.any).O J (λb hb=>.inr (hge b hb).1);refine Qs<|QD O O<|Qa<|xe<|⟨(i+1,mt,co++[⟨nm,⟨xa,xm,h6,a⟩⟩],p6,p7),oe,La,h5,hs615.V (U.S od),hX,hB416,mv.low U (λb hb=>by rw[List.mem_singleton.1 hb];omega),by simp only[oM,oL];omega,λk S=>?_,oe,λe=>?_⟩
  ·simp only[]at S ⊢;by_cases hj:k<co.length
   ·rw[Mt hj];exact hV k hj
   have kf:k=i:=by simp only[oM,oL]at S;omega
   subst kf;rw[Ng oa];simp only[g0,Nat.sub_self,Ot];exact⟨hH.symm,hG,λe T=>by rw[gs]at T;exact(ge e T).2⟩
  simp only[]at p8 ⊢;rw[p8,gq];constructor
  ·rintro(⟨q,E,T⟩|T)
   ·exact⟨q,LM _ E,T⟩
   exact⟨_,MN _ (Lb.2 O),by rw[gs];exact T⟩
  rintro⟨q,E,T⟩;rcases Lh.1 E with E|E
  ·exact .inl ⟨q,E,T⟩
  rw[Lb.1 E,gs]at T;exact .inr T
 rintro⟨vc,co,va,al⟩ g7 w7 ⟨hC,go,gc,hv,g0,hV,k9,gq⟩;simp only[]at go gc hv g0 hV k9 gq;have hz7:=hC.size;have mf:b1∉[G,b4]:=by simp only[oK,oH,or_false];omega
 have hW:=k6.J hC mf;have mw:b1∉[G]:=ol
 have n43:b4∉[G]:=ol
 have qa:=Qe6 (l:=l) h.n (j:=90) oa;have q90l:=Je h.b 90;refine Zg (l.ns.getD 90 0) λrn hrn=>?_;rw[hrn]at qa q90l;refine Zg (rn % 3) λr hr=>?_;refine QX (α:=O2×List IV) [(8,9),(56,87)] (λ_=>[]) (λz w'=>O5 [G] w7 w'/\QL ↑w' G 46 [ve,vc,z.1,Zs,Zs]/\q8 ↑w7 w' z.1 Zs z.2 []/\z.2.length=r/\∀k (S:k<z.2.length),ItG 114 k (z.2[k]'S)/\∀e∈(z.2[k]'S).p.a.al,e∈al) oh ?_ ?_
 ·refine Qc<|Qq O hW O qa<|x (zP (a:=(rn:Int)) (b:=3) O O oa oa)<|x (Yh (k':=.i64) O ⟨oa,oa⟩)<|Qa<|xe<|QW (α:=Nat×O2×List IV) [(8,9),(60,87)] (λz=>[(60,sS z.1)])
   (λz w'=>z.1<=r/\O5 [G] w7 w'/\QL ↑w' G 46 [ve,vc,z.2.1,Zs,Zs]/\q8 ↑w7 w' z.2.1 Zs z.2.2 []/\z.2.2.length=z.1/\∀k (S:k<z.2.2.length),ItG 114 k (z.2.2[k]'S)/\∀e∈(z.2.2[k]'S).p.a.al,e∈al)
   (λz=>r - z.1) (0,Zs,[]) La
   ⟨Lo _,O5.Y _ _,go,q8.nil,O,λk S=>OW S od⟩ ?_
  rintro⟨i,vr,rq⟩ g8 w8 ⟨hi,hg,gt,hE,kr,h8⟩;simp only[]at hi gt hE kr h8;refine Zk O O (λmy=>?_) (λmy=>?_)
  ·refine Qt ?_;have mc:i=r:=by have h62:¬(i:Int)<(rn:Int) % 3:=my;omega
   exact⟨(vr,rq),Z,hg,gt,hE,oe,h8⟩
  have h5:i<r:=by have h62:(i:Int)<(rn:Int) % 3:=my;omega
  have kg:=hW.J hg mw;have hB48:=gc.J hg n43;have qs:=Qe6 (l:=l) h.n (j:=0+91+i*1) oa;have qsl:=Je h.b (0+91+i*1);refine Zg (l.ns.getD (0+91+i*1) 0) λm hm=>?_;rw[hm]at qs qsl;have mg:=V9 m 5;have g2:=QbT m 5;have ge:=QeY m 5;refine Zg (setK m 5) λsk g3=>?_;rw[g3]at mg g2 ge;refine Qf<|Qd<|Qn<|Qk<|Qb<|Qk<|Zc O<|x (ZV (i:=i) O O oa)<|ZE kg O qs<|Qv<|(Ua m qsl _).S ?_;rintro vs w9 ⟨V,gg⟩;rw[g3]at gg;have p5:=hg.size;have mh:=V.size;have hva8:=Qm (Qg hv.a hg (λb hb hm=>by rw[Lb.1 hm]at hb;exact QK hv.a oa hb)) V;have g6:=Qj gg;have hlv:=QU hv.a;have hD:=QmZ gg oa (hB48.I V) (λhm=>oo (g6 b4 hm).1) (QO hva8 oa (λb hb hbs=>oq (g6 b hbs).1 (hlv b hb)));refine x (Zn (l:=[]) (l':=[_]))<|Qv<|hD.S ?_;rintro vd hh ⟨hw,qe⟩;have qj:YA (sk.filter λx=>decide (x∈al)):=List.Pairwise.filter _ g2;have hFL:=LJ (λx=>decide (x∈al)) sk;have kt:∀e∈sk.filter λx=>decide (x∈al),e∈sk/\e∈al:=λe T=>by
   have:=LQ.1 T;exact⟨this.1,OY this.2⟩
  refine Zg (sk.filter λx=>decide (x∈al)) λF hF=>?_;rw[hF]at qe qj hFL kt;refine Qb ?_;have kh:sW w8 hh:=V.O hw (λb hb=>.inr (g6 b hb).1);have hz10:=kh.size;have hy:=hE.I kh;have g4:=gt.I kh;have mj:=kg.I kh;have mo:Qu [] ↑hh vd F:=Qi.ints (L:=[]) qe oa od;have n3v:G∉ob vr:=QK hy.c oa;have n1v:b1∉ob vr:=QK hy.c oa;have gh:=QjB (ns:=l.ns) (o:=0+93+i*27) (oo h.n);have g5:=QnL (o:=0+93+i*27) h.b;have mq:=λj u=>QdH (l:=l) (o:=0+93+i*27) (m:=27) j u;refine Zg (grN l.ns (0+93+i*27)) λgr ql=>?_;have hgs2:∀j u,(bys gr)[j]?=some u->(Xb l)[0+93+i*27+j]?=some u:=by rw[<-ql];exact mq
  rw[ql]at gh g5;have ka:sW hh { hh with drawn:=hh.drawn+1 }:=O5.X _ _
  have kb:(48:Int)+(i:Int)=((48+i:Nat):Int):=oa
  refine Zg (⟨#[114]⟩++⟨#[UInt8.ofNat (48+i)]⟩:ByteArray) λnm hH=>?_;refine ZL (ob vr) (Xg 0 18 [12,14,15,17])<|p (QH O)<|pq (λ_ hc=>Ql (g4.J hc n3v) O O)<|p Qx<|p (λ_=>Xp O O ⟨oa,oa⟩)<|p (λ_=>Yh (k':=.i32) O ⟨oa,oa⟩)<|p (λ_=>U0 (n:=48+i) (OV (Value.int .i32) kb) oa) <|
   p (λ_=>YJ (a:=⟨#[114]⟩) (b:=⟨#[UInt8.ofNat (48+i)]⟩) O O (by show 1+1<=1000000000;omega))<|p Qx<|p Qx<|p (QH O)<|p (λ_=>ZV (i:=i) O O oa)<|pq (λ_ hc=>U3 (us:=bys gr) (mj.J hc n1v) O (by rw[Xx];exact gh) hgs2)<|?_
  refine pk<|xg<|(yi (mo.I ka) (λe T=>oo (ge e (kt e T).1)) qj gh g5).S ?_;rintro r11 ho ⟨gi,a,⟨xa,xm,h6,rfl,hA⟩,hG,gs⟩;have hI:=ka.D gi;have p9:=hI.size;have gj:=hA [] od;refine⟨hI.any,?_⟩;refine p (λ_=>Zu [(0,[.string nm]),(1,[xa,sS a.st,xm,h6])] ⟨OV (λb=>(Value.string b).cells) hH,O,O,O,Z⟩)<|pk<|Q9 [QZ ⟨nm,⟨xa,xm,h6,a⟩⟩] λb14 gk hf hb14 ms=>⟨(hI.D hf).any,?_⟩;have hz:=hI.D hf;have kc:=hy.I hz;refine pk<|Q8 (news:=QZ ⟨nm,⟨xa,xm,h6,a⟩⟩) (L:=[]) kc.c O O O (ms.at od) (Qa0 gj.al.one gj.mr.one gj.ed.one) oa (oo hz.size) λmt hJ ke J mu=>⟨(hz.any (L:=ob vr)).V J,?_⟩;have mv:=kc.setC (yc (q:=⟨nm,⟨xa,xm,h6,a⟩⟩) (N:=↑hh) (λL hL=>(hA L hL).I hf) oa hy.avlt) ke J mu;refine p (QH O)<|pkk<|Qw ((g4.I hz).J J n3v) O O od (QC ke) λhK U hX=>pe ?_;have hge:=Qj hy.c;have hs715:O5 [G] w7 hJ:=((hg.D kh.any).D hz.any).O J (λb hb=>.inr (hge b hb).1);refine Qs<|QD O O<|Qa<|xe<|⟨(i+1,mt,rq++[⟨nm,⟨xa,xm,h6,a⟩⟩]),oe,La,h5,hs715.V U,hX,mv.low U (λb hb=>by rw[Lb.1 hb];omega),by simp only[oM,oL];omega,λk S=>?_⟩;simp only[]at S ⊢;by_cases hj:k<rq.length
  ·rw[Mt hj];exact h8 k hj
  have kf:k=i:=by simp only[oM,oL]at S;omega
  subst kf;rw[Ng oa];simp only[kr,Nat.sub_self,Ot];exact⟨⟨hH.symm,hG,λe T=>by rw[gs]at T;exact(ge e (kt e T).1).2⟩,λe T=>by rw[gs]at T;exact(kt e T).2⟩
 rintro⟨vr,rq⟩ g8 w8 ⟨hg,gt,hE,kr,h8⟩;simp only[]at gt hE kr h8;have p5:=hg.size;have kg:=hW.J hg mw;have g147:=Qip (l:=l) h.n 0;have hX6:Zt [G,b4] ↑w6 l.vx l.xs.length 4 (l.xs.flatMap Xi):=((h.x.up (L':=[G,b4]) (λb hb=>.inr (by simp only[oK,oH,or_false]at hb;omega))).I po).I gz;have qm:Zt [G] ↑w8 l.vx l.xs.length 4 (l.xs.flatMap Xi):=((hX6.st hC).up (L':=[G]) (λb hb=>.inl (by simp only[oF]at hb;simp[hb]))).st hg;refine QX (α:=O2×List XV) [(10,14),(88,151)] (λ_=>[]) (λz w'=>O5 [G] w8 w'/\QL ↑w' G 46 [ve,vc,vr,z.1,Zs]/\Vi Zw 2 186 (λq=>[(q.v,q.ls.length,2,q.ls.flatMap Q5)]) ↑w8 w' z.1 z.2/\z.2.length<=2/\(z.2.map (·.nm)).Nodup/\∀q∈z.2,(∃k,k<2/\q.nm=⟨#[101]⟩++⟨#[UInt8.ofNat (48+k)]⟩)/\q.ls≠[]/\q.ls.length<=3/\XB (co.map (·.p.a.st)) none q.ls=0) oh ?_ ?_
 ·refine Qc<|Qq O kg O g147<|QG qm O<|Qa<|xe<|QW (α:=Nat×O2×List XV) [(10,14),(91,151)] (λz=>[(91,sS z.1)])
   (λz w'=>z.1<=l.xs.length/\z.1<=2/\O5 [G] w8 w'/\QL ↑w' G 46 [ve,vc,vr,z.2.1,Zs]/\Vi Zw 2 186 (λq=>[(q.v,q.ls.length,2,q.ls.flatMap Q5)]) ↑w8 w' z.2.1 z.2.2/\z.2.2.length<=z.1/\(z.2.2.map (·.nm)).Nodup/\∀q∈z.2.2,(∃k,k<z.1/\q.nm=⟨#[101]⟩++⟨#[UInt8.ofNat (48+k)]⟩)/\q.ls≠[]/\q.ls.length<=3/\XB (co.map (·.p.a.st)) none q.ls=0)
   (λz=>l.xs.length - z.1) (0,Zs,[]) La
   ⟨Lo _,Lo _,O5.Y _ _,gt,Vi.nil,Lp _,List.Pairwise.nil,λq E=>by cases E⟩ ?_
  rintro⟨i,vx,qx⟩ g9 w9 ⟨hi,hi2,V,hY,h7,ku,hZ,hM⟩;simp only[]at hi hi2 hY h7 ku hZ hM;have q0:(∀q∈qx,(∃k,k<2/\q.nm=⟨#[101]⟩++⟨#[UInt8.ofNat (48+k)]⟩)/\q.ls≠[]/\q.ls.length<=3/\XB (co.map (·.p.a.st)) none q.ls=0):=λq E=>by
   obtain⟨⟨k,k1,k2⟩,h2⟩:=hM q E;exact⟨⟨k,oa,k2⟩,h2⟩
  refine Zk O O (λq4=>?_) (λq4=>?_)
  ·refine Qt ?_;exact⟨(vx,qx),Z,V,hY,h7,oe,hZ,q0⟩
  have h5:i<l.xs.length:=by have h93:(i:Int)<(l.xs.length:Int):=q4;omega
  have hX9:=qm.st V;refine Qf<|Qd<|Qn<|Qk<|O8 zz hX9 O O h5 λa94 j1=>?_;refine Zg (l.xs[i]'h5) λxr hxr=>?_;rw[hxr]at j1;refine x (QA j1 O (zz xr))<|QN [.int .u8 0,.int .u8 0,.int .u8 0,.int .u8 0] λb11 hh hw hb11 hB11=>x Qe<|Qo<|Zj (us:=Xi xr) hB11 O O (zz xr) O (QcX xr.1) λho gi j2=>xe ?_;have hB:sW w9 ho:=hw.Q gi hb11;refine Qd<|Qk<|x (Zd O O)<|xe<|Zi O (λj3=>?_) (λj3=>?_)
  ·refine Qt ?_;exact⟨(vx,qx),Z,V.D hB.any,hY.I hB,h7.I hB,oe,hZ,q0⟩
  have hi3:i<2:=by have h98:¬(i:Int)=2:=j3;omega
  have kb:(48:Int)+(i:Int)=((48+i:Nat):Int):=oa
  have p9:=hB.size;have hl11:=j2.lt;refine Zg (⟨#[101]⟩++⟨#[UInt8.ofNat (48+i)]⟩:ByteArray) λnm hH=>?_;refine Qf<|Qk<|QD O O<|x (Yh (k':=.i32) O ⟨oa,oa⟩)<|x (U0 (n:=48+i) (OV (Value.int .i32) kb) oa)<|x (YJ (a:=⟨#[101]⟩) (b:=⟨#[UInt8.ofNat (48+i)]⟩) O O (by show 1+1<=1000000000;omega))<|x (QE La) <|
   QN [.string .empty,Zs] λhN gk hf j4 gy=>Qo<|Zj (us:=[.string nm,Zs]) gy O (show Go.Lg.ev _ _=_ from OV (λs=>Value.agg #[.string s,Zs]) hH) O O ov λhO hP hB1213=>xe ?_
  have kv:sW ho hO:=hf.Q hP j4;have mz:=hB.D kv;have hz1113:=kv.size;have mh:=V.size;have hltC:=QU hv.c;have nc3:G∉ob vc:=QK hv.c oa;have za:∀b∈ob vc,b∉[G]:=λb hb hm=>by rw[Lb.1 hm]at hb;exact nc3 hb
  have hC13:=Qm (Qg (Qg hv.c hg za) V za) mz;have m0:=hY.I mz;have hB1113:=j2.I kv;have hl12:=gy.lt;have z0:G∉[hN]:=ol
  have n1112:b11∉[hN]:=ol
  have z2:=QO (L:=[hN]) hC13 oa (λb hb hm=>by rw[Lb.1 hm]at hb;have:=hltC hN hb;omega);refine QX (α:=O2×xw) [(13,14),(104,140)] (λ_=>[]) (λz w'=>O5 [hN] hO w'/\QL ↑w' hN 186 [.string nm,z.1]/\w'.ownsRow ↑hO 188 2 z.1 z.2.length (z.2.flatMap Q5)/\z.2.length<=co.length/\z.2.Pairwise (λp q=>p.1<q.1)/\∀p∈z.2,0<=p.1/\p.1<(co.length:Int)/\0<=p.2/\p.2<O6 (co.map (·.p.a.st)) p.1.toNat) oh ?_ ?_
  ·refine Qc<|Qq O m0 O O<|QG z2 O<|Qa<|xe<|QW (α:=Nat×O2×xw) [(13,14),(107,140)] (λz=>[(107,sS z.1)])
    (λz w'=>z.1<=co.length/\O5 [hN] hO w'/\QL ↑w' hN 186 [.string nm,z.2.1]/\w'.ownsRow ↑hO 188 2 z.2.1 z.2.2.length (z.2.2.flatMap Q5)/\z.2.2.length<=z.1/\z.2.2.Pairwise (λp q=>p.1<q.1)/\∀p∈z.2.2,0<=p.1/\p.1<(z.1:Int)/\0<=p.2/\p.2<O6 (co.map (·.p.a.st)) p.1.toNat)
    (λz=>co.length - z.1) (0,Zs,[]) La
    ⟨Lo _,O5.Y _ _,hB1213,QM _ _ _ _,Lp _,List.Pairwise.nil,λp I=>by cases I⟩ ?_
   rintro⟨k,vl,ls⟩ g14 hQ ⟨S,Y,hR,ha,m1,gl,hS⟩;simp only[]at S hR ha m1 gl hS;refine Zk O O (λm2=>?_) (λm2=>?_)
   ·refine Qt ?_;have kf:k=co.length:=by have h109:¬(k:Int)<(co.length:Int):=m2;omega
    rw[kf]at hS;exact⟨(vl,ls),Z,Y,hR,ha,oe,gl,hS⟩
   have hj:k<co.length:=by have h109:(k:Int)<(co.length:Int):=m2;omega
   have hAC14:=z2.st Y;have ga:=m0.J Y z0;have z3:=hB1113.J Y n1112;refine Qf<|Qd<|Qn<|Qk<|Qb<|Qc<|Qq O ga O O<|Qa<|O8 Va hAC14 O O hj λa113 z4=>?_;refine Zg (co[k]'hj) λq E=>?_;rw[E]at z4;refine x (ZI O)<|x (ZI O)<|x (Qr ((z4.from 1).fld 1 (sS q.p.a.st) O) O)<|Qb ?_;have m3:=(hV k hj).g;rw[E]at m3;have hqp:=m3.p;have hqs:=m3.s;have m4:=qu (ns:=xr.1) (j:=0+k*1) (by rw[xr.2.1];omega);have qx0l:=Je xr.2.2 (0+k*1);refine Zg (xr.1.getD (0+k*1) 0) λxk hxk=>?_;rw[hxk]at m4 qx0l;have hmod:0<=(xk:Int) % (q.p.a.st+2):=Int.emod_nonneg _ oa;refine Qk<|x (ZV (i:=k) O O oa)<|ZE z3 O m4<|x (Yh (k':=.i64) O ⟨oa,oa⟩)<|Qa<|QD O O<|x (zP (a:=(xk:Int)) (b:=q.p.a.st+2) O O oa oa)<|Qa<|ZX O O<|xe ?_;have hgeL:=Qj ha;have z5:=Y.size;have hz13:=hP.size;have hn12v:hN∉ob vl:=QK ha oa;have hn11v:b11∉ob vl:=QK ha oa;have hcget:O6 (co.map (·.p.a.st)) k=q.p.a.st:=by
    unfold O6;simp[oO,List.getElem?_map,oV hj,E]
   refine Zr O (λh125=>?_) (λh125=>?_)
   ·refine Qf<|Qs<|QD O O<|Qa<|xe ?_;exact⟨(k+1,vl,ls),oe,La,hj,Y,hR,ha,oe,gl,λp I=>by have:=hS p I;simp only[];omega⟩
   have hd14:sW hQ { hQ with drawn:=hQ.drawn+1 }:=O5.X _ _
   refine Zg ((xk:Int) % (q.p.a.st+2)) λst hst=>?_;refine ZL (ob vl) (Xg 0 15 [11,12,14])<|p (QH O)<|pq (λ_ hc=>Ql (hR.J hc hn12v) O O)<|p Qx<|p Qx<|p (λ_=>ZV (i:=k) O O oa)<|pq (λ_ hc=>Ql (z3.J hc hn11v) O m4)<|p (λ_=>Yh (k':=.i64) O ⟨oa,oa⟩)<|p Qx<|p (λ_=>Xp O O ⟨oa,oa⟩) <|
    p (λ_=>zP (a:=(xk:Int)) (b:=q.p.a.st+2) O O oa oa)<|p (λ_=>QE ⟨O,O,Z⟩)<|pk<|Q9 [Q5 ((k:Int),(xk:Int) % (q.p.a.st+2))] λb137 hJ J hb137 hB137=>?_
   have gu:=hd14.D J;have hz1415:=gu.size;refine⟨gu.any,?_⟩;refine pk<|Q8 (news:=Q5 ((k:Int),(xk:Int) % (q.p.a.st+2))) (L:=[]) (Qm ha gu) O O O (hB137.at od) (Qfb _) oa oa λkw hK gv U hn16=>⟨(gu.any (L:=ob vl)).V U,?_⟩;have hge16:∀b∈ob kw,↑hO<=b:=λb hb=>(Qj gv b hb).1;refine p (QH O)<|pkk<|Qw ((hR.I gu).J U hn12v) O O od (QC gv) λm5 h0 hW=>pe ?_;refine Qs<|QD O O<|Qa<|xe<|⟨(k+1,kw,ls++[((k:Int),(xk:Int) % (q.p.a.st+2))]),oe,La,hj,((Y.D gu.any).O U (λb hb=>.inr (hgeL b hb).1)).V h0,hW,?_,by simp only[oM,oL];omega,?_,λp I=>?_⟩
   ·have h9:=Qg gv h0 (λb hb=>by have:=hge16 b hb;simp only[oF];omega);simp only[oM,List.flatMap_append];simpa using h9
   ·simp only[];rw[Mg];exact⟨gl,M4 _ _,λp I p' m6=>by rw[Lb.1 m6];have:=hS p I;simp only[];omega⟩
   simp only[]at I ⊢;rcases Lh.1 I with I|I
   ·have:=hS p I;omega
   rw[Lb.1 I];simp only[Oy];rw[hcget];omega
  rintro⟨vl,ls⟩ g14 hQ ⟨Y,hR,ha,m1,gl,hS⟩;simp only[]at hR ha m1 gl hS;have z5:=Y.size;have hz13:=hP.size;have gb:sW w9 hQ:=mz.Q Y oa;have ga:=m0.J Y z0;have kx:=h7.I gb;refine Qc<|Qq O hR O O<|QG (QO (L:=[]) ha oa od) rfl<|x (Ya rfl rfl)<|xe<|Zr O (λh144=>?_) (λh144=>?_)
  ·refine Qf<|Qs<|QD O O<|Qa<|xe<|⟨(i+1,vx,qx),oe,La,h5,oe,V.D gb.any,ga,kx,oe,hZ,λq E=>?_⟩;obtain⟨⟨k,k1,k2⟩,h2⟩:=hM q E;exact⟨⟨k,oe,k2⟩,h2⟩
  have h145:(0:Int)<(ls.length:Int):=h144;have hxx:=QC ha;refine Qs<|Qq O ga O O<|QV hR O O<|Qo<|Q9 [Zw ⟨nm,vl,ls⟩] λb148 hJ J hb148 hB148=>?_;refine Qo<|Q8 (news:=Zw ⟨nm,vl,ls⟩) (L:=[]) (Qm kx.own J) O O O (hB148.at od) (QeJ hxx) oa (oq gb.size J.size) λkw hK gv U hn16=>?_;have hs1115:sW ho hJ:=(kv.Q Y j4).D J;have hM16:=(h7.I hB).app hs1115 (q:=⟨nm,vl,ls⟩) (λt ht=>by rw[Lb.1 ht];exact⟨↑hO,188,Qm ha J,by show ls.length<=_;omega,hz1113⟩) oa gv U hn16;have hgeX:=Qj kx.own;have n3x:G∉ob vx:=QK kx.own oa;refine Zc O<|Qo<|Qw ((ga.I J).J U n3x) O O od (QC gv) λm5 h0 hB317=>xe ?_;refine Qs<|QD O O<|Qa<|xe ?_;have kz:O5 [G] w8 hK:=((V.D gb.any).D J.any).O U (λb hb=>.inr (hgeX b hb).1);refine⟨(i+1,kw,qx++[⟨nm,vl,ls⟩]),oe,La,h5,oe,kz.V h0,hB317,hM16.low h0 (λb hb=>by rw[Lb.1 hb];omega),by simp only[oM,oL];omega,?_,λq E=>?_⟩
  ·simp only[List.map_append,oS,OC];rw[Mb];refine⟨hZ,od,λs hs s' hs' e=>?_⟩;obtain⟨q,E,rfl⟩:=Ly.1 hs;obtain⟨⟨k,k1,k2⟩,_⟩:=hM q E;have hk0:k=0:=oa
   have hi1:i=1:=oa
   rw[Lb.1 hs',k2,<-hH,hk0,hi1]at e;exact OW e og
  rcases Lh.1 E with E|E
  ·obtain⟨⟨k,k1,k2⟩,h2⟩:=hM q E;exact⟨⟨k,oe,k2⟩,h2⟩
  rw[Lb.1 E];refine⟨⟨i,Nat.lt_succ_self _,hH.symm⟩,λe=>by rw[show ls=[] from e]at h145;exact OW h145 og,by show ls.length<=3;omega,QfP ls none (λb hb=>by cases hb) gl (λp I=>?_)⟩;rw[Ll];exact hS p I
 rintro⟨vx,qx⟩ g9 w9 ⟨V,hY,h7,ku,hZ,hM⟩;simp only[]at hY h7 ku hZ hM;have mh:=V.size;have hB19:=kg.J V mw;have g151:=Qip (l:=l) h.n 4;have hbd:=h.bd;have hbdb:=QeQ l.bd (b:=8) og;refine Zg (l.bd.tmod 8) λbd hbde=>?_;rw[hbde]at hbdb;refine Qc<|Qq O hB19 O g151<|x (Yh (k':=.i64) O ⟨oa,oa⟩)<|x (Qie O O og)<|x (QE ⟨O,O,Z⟩)<|QN [.string .empty,Zs,sS 0] λb15 hh hw m7 m8 =>
  Qo<|Zj (us:=[.string ⟨#[107]⟩,Zs,sS bd]) m8 O (show Go.Lg.ev _ _=_ from OV (λn=>Value.agg #[.string ⟨#[107]⟩,Zs,sS n]) hbde) O O ox λho gi hB1511=>xe ?_
 have hB:sW w9 ho:=hw.Q gi m7;have hB111:=hB19.I hB;have hB311:=hY.I hB;have n115:b1∉[b15]:=ol
 have n315:G∉[b15]:=ol
 have hl15:=hB1511.lt;refine QX (α:=O2×xw) [(16,16),(157,179)] (λ_=>[]) (λz w'=>O5 [b15] ho w'/\QL ↑w' b15 191 [.string ⟨#[107]⟩,z.1,sS bd]/\w'.ownsRow ↑ho 193 2 z.1 z.2.length (z.2.flatMap Q5)/\z.2.length<=n/\z.2.Pairwise (λp q=>p.1<q.1)/\∀p∈z.2,0<=p.1/\p.1<(n:Int)/\-4<p.2/\p.2<4) oh ?_ ?_
 ·refine Qk<|Qa<|xe<|QW (α:=Nat×O2×xw) [(16,16),(158,179)] (λz=>[(158,sS z.1)])
   (λz w'=>z.1<=n/\O5 [b15] ho w'/\QL ↑w' b15 191 [.string ⟨#[107]⟩,z.2.1,sS bd]/\w'.ownsRow ↑ho 193 2 z.2.1 z.2.2.length (z.2.2.flatMap Q5)/\z.2.2.length<=z.1/\z.2.2.Pairwise (λp q=>p.1<q.1)/\∀p∈z.2.2,0<=p.1/\p.1<(z.1:Int)/\-4<p.2/\p.2<4)
   (λz=>n - z.1) (0,Zs,[]) La
   ⟨Lo _,O5.Y _ _,hB1511,QM _ _ _ _,Lp _,List.Pairwise.nil,λp I=>by cases I⟩ ?_
  rintro⟨i,vt,ts⟩ g12 gk ⟨hi,hf,hT,h4,ki,gm,hU⟩;simp only[]at hi hT h4 ki gm hU;refine Zk O O (λm9=>?_) (λm9=>?_)
  ·refine Qt ?_;have mc:i=n:=by have h160:¬(i:Int)<1+(cn:Int) % 3:=m9;omega
   rw[mc]at ki hU;exact⟨(vt,ts),Z,hf,hT,h4,ki,gm,hU⟩
  have h5:i<n:=by have h160:(i:Int)<1+(cn:Int) % 3:=m9;omega
  have hB112:=hB111.J hf n115;have qf:=Qql (l:=l) h.n (i:=i) oa;have qfb:=Qqk h i oa;refine Zg (flk l i) λfk hfk=>?_;rw[hfk]at qf qfb;refine Qf<|Qd<|Qn<|Qk<|Qb<|Qk<|Zc O<|x (ZV (i:=i) O O oa)<|ZE hB112 O qf<|ZM O O<|xe<|Zr O (λh165=>?_) (λh165=>?_)
  ·refine Qf<|Qs<|QD O O<|Qa<|xe ?_;exact⟨(i+1,vt,ts),oe,La,h5,hf,hT,h4,oe,gm,λp I=>by have:=hU p I;simp only[];omega⟩
  have hmd:=QeQ fk (b:=4) og;have hd12:sW gk { gk with drawn:=gk.drawn+1 }:=O5.X _ _
  have hz12:=hf.size;have hgeT:=Qj h4;have hn15v:b15∉ob vt:=QK h4 oa;have hn1v:b1∉ob vt:=QK h4 oa;refine ZL (ob vt) (Xg 0 14 [10,11,13])<|p (QH O)<|pq (λ_ hc=>Ql (hT.J hc hn15v) O O)<|p Qx<|p Qx<|p (QH O)<|p (λ_=>ZV (i:=i) O O oa)<|pq (λ_ hc=>Ql (hB112.J hc hn1v) O qf)<|p (λ_=>Yh (k':=.i64) O ⟨oa,oa⟩) <|
   p (λ_=>Qie O O og)<|p (λ_=>QE ⟨O,O,Z⟩)<|pk<|Q9 [Q5 ((i:Int),fk.tmod 4)] λb176 hO hP hb176 hB176=>?_
  have gx:=hd12.D hP;have hz1213:=gx.size;refine⟨gx.any,?_⟩;refine pk<|Q8 (news:=Q5 ((i:Int),fk.tmod 4)) (L:=[]) (Qm h4 gx) O O O (hB176.at od) (Qfb _) oa oa λv14 hQ ha Y hn14=>⟨(gx.any (L:=ob vt)).V Y,?_⟩;have hge14:∀b∈ob v14,↑ho<=b:=λb hb=>(Qj ha b hb).1;refine p (QH O)<|pkk<|Qw ((hT.I gx).J Y hn15v) O O od (QC ha) λhJ J m8=>pe ?_;refine Qs<|QD O O<|Qa<|xe<|⟨(i+1,v14,ts++[((i:Int),fk.tmod 4)]),oe,La,h5,((hf.D gx.any).O Y (λb hb=>.inr (hgeT b hb).1)).V J,m8,?_,by simp only[oM,oL];omega,?_,λp I=>?_⟩
  ·have h9:=Qg ha J (λb hb=>by have:=hge14 b hb;simp only[oF];omega);simp only[oM,List.flatMap_append];simpa using h9
  ·simp only[];rw[Mg];exact⟨gm,M4 _ _,λp I p' m6=>by rw[Lb.1 m6];have:=hU p I;simp only[];omega⟩
  simp only[]at I ⊢;rcases Lh.1 I with I|I
  ·have:=hU p I;omega
  rw[Lb.1 I];simp only[];omega
 rintro⟨vt,ts⟩ g12 gk ⟨hf,hT,h4,ki,gm,hU⟩;simp only[]at hT h4 ki gm hU;have hz12:=hf.size;have hgT:=Qj h4;refine Qc<|Qq O hT O O<|Qv<|(QmY h4 oa).S ?_;rintro vu hO ⟨hP,k0⟩;have hup:(nzT ts).Pairwise (λp q=>p.1<q.1):=List.Pairwise.filter _ gm;have hul:=LJ (λp:Int×Int=>!decide (p.2=0)) ts;have hub:∀p∈nzT ts,0<=p.1/\p.1<(n:Int)/\p.2≠0/\-65536<=p.2/\p.2<=65536:=λp I=>by
  have h1:=LQ.1 I;have h2:=hU p h1.1;have h3:¬p.2=0:=by simpa using h1.2
  omega
 refine Zg (nzT ts) λus hus=>?_;have hul':us.length<=3:=by rw[<-hus];exact Lx hul oa
 rw[hus]at k0 hup hub;have n15t:b15∉ob vt:=QK h4 oa;refine Zc rfl<|Qo<|Qw (hT.J hP n15t) O O od (QC k0) λhQ Y hB1514=>xe ?_;have gb:sW w9 hQ:=(((hB.Q hf m7).O hP (λb hb=>.inr (oo (hgT b hb).1)))).Q Y m7;have hz13:=hP.size;have z5:=Y.size;have hgU:=Qj k0;have ha:=Qg k0 Y (λb hb=>by have:=(hgU b hb).1;simp only[oF];omega);have ga:=hY.I gb;refine QX (α:=O2×List KV) [(184,190)] (λ_=>[]) (λz w'=>O5 [G] hQ w'/\QL ↑w' G 46 [ve,vc,vr,vx,z.1]/\z.2.length<=1/\(∀q∈z.2,q.nm=⟨#[107]⟩/\XC (co.map (·.p.a.st)) q.k=0)/\∀L:LN,(∀b∈L,b<↑w6)->yS L ↑w' z.1 z.2) oh ?_ ?_
 ·refine Qc<|Qq O hB1514 O O<|QG (QO (L:=[]) ha oa od) rfl<|x (Ya rfl rfl)<|xe<|Zr O (λh187=>?_) (λh187=>?_)
  ·refine Qf ?_;exact⟨(Zs,[]),Z,O5.Y _ _,ga,og,λq E=>(by cases E),λL _=>⟨Zt.nil _ _ 3,λq E=>(by cases E),λq E=>(by cases E)⟩⟩
  refine Qs<|QV hB1514 O O<|Qo<|Q9 [Zz ⟨⟨#[107]⟩,vu,us,bd⟩] λb189 hJ J hb189 hB189=>?_;refine Zc O<|Qo<|Qw (ga.I J) O O od rfl λhK U hX=>xe ?_;refine⟨(_,[⟨⟨#[107]⟩,vu,us,bd⟩]),Z,J.any.V U,hX,Lp _,λq E=>?_,λL hL=>?_⟩
  ·rw[Lb.1 E];refine⟨rfl,?_⟩;have hgr0:grt bd=false:=by unfold grt;rw[OZ oa,OZ oa];rfl
   have hct:=QfO (sz:=co.map (·.p.a.st)) us none (λb hb=>by cases hb) hup (λp I=>by rw[Ll,g0];exact hub p I);show XC _ ⟨_,us,bd⟩=0;unfold XC;rw[OT oe,OT (by rw[hct];decide),OT (by simp only[];rw[hgr0];decide)]
  have k4:∀b∈G::L,b<ho.heap.size:=λb hb=>by
   rcases Ln.1 hb with rfl|hb
   ·omega
   have:=hL b hb;omega
  have h1:yS (G::L) ↑hJ (sL b189 1 1) [⟨⟨#[107]⟩,vu,us,bd⟩]:=by
   refine⟨hB189.arr (λhb=>oo (k4 _ hb)) O og (Lp _),λq E=>?_,λq E=>?_⟩
   ·rw[Lb.1 E];exact(QO (L:=G::L) ha oa (λb hb kj=>oq (hgU b hb).1 (k4 b kj))).I J
   rw[Lb.1 E];exact Jj og
  exact(h1.st (U.S od)).up (λb hb=>.inl (Lk _ hb))
 rintro⟨vk,ks⟩ g16 hK ⟨U,hX,hj,hgk,pc⟩;simp only[]at hX hj hgk pc;have hge3:=Qj gn;have hlt3:=QU gn;have kz:O5 [G] w8 hK:=(V.D gb.any).V U;have hs716:O5 [G] w7 hK:=hg.V kz;have pd:O5 [G,b4] w6 hK:=hC.V (hs716.S od);have pf:∀b∈[G],b<w6.heap.size:=λb hb=>by rw[Lb.1 hb];omega
 have hE16:=Qg (Qm gn p4) pd (λb hb hm=>by have:=hlt3 b hb;simp only[oK,oH,or_false]at hm;omega);have hC16:=hv.low hs716 pf;have hR16:=hE.low kz (λb hb=>oo (pf b hb));have hX16:=(h7.I gb).low U (λb hb=>oo (pf b hb));have n23:b2∉[G]:=ol
 have n234:b2∉[G,b4]:=by simp only[oK,oH,or_false];omega
 have hB216:=(pn.I gz).J pd n234;refine Qc<|QV hX O O<|Q2 [ve,vc,vr,vx,vk] hB216 ⟨QC hE16,QC hC16.c,QC hR16.c,QC hX16.own,(pc [] od).arr.one,Z⟩ λm5 h0 hB217=>xe ?_;have pg:∀b∈[b2],b<w6.heap.size:=λb hb=>by rw[Lb.1 hb];omega
 have lo2':∀b∈[b2],b<w2.heap.size:=λb hb=>by rw[Lb.1 hb];omega
 have hE17:=Qg hE16 h0 (λb hb hm=>oq (hge3 b hb).1 (lo2' b hm));have hC17:=hC16.low h0 pg;have hR17:=hR16.low h0 (λb hb=>oo (pg b hb));have ph:=hX16.low h0 (λb hb=>oo (pg b hb));have hs017:sW w m5:=((po.D gz).O pd (λb hb=>.inr (by simp only[oK,oH,or_false]at hb;omega))).Q h0 oa;have hcon:∀q∈co,yY q.nm:=λq E=>by
  obtain⟨k,S,rfl⟩:=LP E;rw[(hV k S).nm];exact U8 99 k
 have hrqn:∀q∈rq,yY q.nm:=λq E=>by
  obtain⟨k,S,rfl⟩:=LP E;rw[(h8 k S).1.nm];exact U8 114 k
 have hxnm:∀q∈qx,yY q.nm:=λq E=>by
  obtain⟨⟨k,_,k2⟩,_⟩:=hM q E;rw[k2];exact U8 101 k
 have hevn:∀e∈ev,yY e.nm:=λe T=>QjX _ e (by rw[kn];exact T);have hevl:ev.length=5:=by rw[<-kn];exact Vv _ _
 refine Qh ⟨[.agg #[ve,vc,vr,vx,vk]],⟨Jl hB217,Z⟩,hs017,⟨ev,co.map IV.it,rq.map IV.it,qx.map XV.x,ks.map KV.k⟩,⟨⟨ve,vc,vr,vx,vk,ev,co,rq,qx,ks⟩,O,O,λL hL=>?_⟩,?_⟩
 ·have k4:∀b∈L,b<w2.heap.size:=λb hb=>oo (hL b hb)
  have hLn:b2∉L:=λhm=>oo (hL b2 hm)
  have kk:∀b∈b2::L,b<w6.heap.size:=λb hb=>by
   rcases Ln.1 hb with rfl|hb
   ·omega
   have:=hL b hb;omega
  refine⟨⟨QO hE17 (by show ev.length<=_;omega) (λb hb kj=>oq (hge3 b hb).1 (k4 b kj)),hevn⟩,hC17.itms oa hcon (λb hb=>oo (kk b (Lk _ hb))),hR17.itms oa hrqn (λb hb=>oo (kk b (Lk _ hb))),⟨QO ph.own (by show qx.length<=_;omega) (λb hb kj=>oq (Qj ph.own b hb).1 (kk b (Lk _ kj))),λq E=>?_,hxnm⟩,?_⟩
  ·exact ph.each q E _ (Lb.2 O) L (λb hb=>.inl (oo (kk b (Lk _ hb))))
  exact((pc (b2::L) kk).st (h0.S od)).up (λb hb=>.inl (Lk _ hb))
 rw[<-kn];exact Qpj oa oa hV gq oa h8 ku hZ hM hj hgk
structure jh (base:Nat)(w:O1)(vc va:O2)(co:List IV)(al:List KN):Prop where
 c:w.ownsRow base 81 5 vc co.length (co.flatMap QZ)
 a:w.ownsRow base 94 5 va al.length (al.flatMap Zo)
 dj:Dj vc va
 each:∀q∈co,∀t∈QgG q,YF base (ob vc++ob va) ↑w t.1 t.2.1 t.2.2.1 t.2.2.2
section
variable {vc vc' va':O2}{co:List IV}{al:List KN}
theorem jh.nil:jh base w (nS) (nS) [] []:=⟨QM _ _ _ _,QM _ _ _ _,Dj.nil _,λq E=>by cases E⟩
theorem jh.I (h:jh base w vc va co al)(E:sW w w'):jh base w' vc va co al:=⟨Qm h.c E,Qm h.a E,h.dj,λq G t I=>(h.each q G t I).I E⟩
theorem jh.low {X:LN}(h:jh base w vc va co al)(E:O5 X w w')(hX:∀b∈X,b<base):jh base w' vc va co al :=
 ⟨Qg h.c E (λb hb G=>oq (Qj h.c b hb).1 (hX b G)),Qg h.a E (λb hb G=>oq (Qj h.a b hb).1 (hX b G)),h.dj,λq I t J=>(h.each q I t J).low E hX⟩
theorem jh.avlt (h:jh base w vc va co al):∀b∈ob vc++ob va,b<w.heap.size:=λb hb=>(Lh.1 hb).elim (QU h.c b) (QU h.a b)
theorem jh.setC (h:jh base w vc va co al)(V:∀t∈QgG q,YF base (ob vc++ob va) ↑w t.1 t.2.1 t.2.2.1 t.2.2.2)(Y:w'.ownsRow base 81 5 vc' (co.length+1) (co.flatMap QZ++QZ q))
  (E:O5 (ob vc) w w') (G:∀b∈ob vc',b∈ob vc\/↑w<=b):jh base w' vc' va (co++[q]) al:=by
 have I:O5 (ob vc++ob va) w w':=E.S (λb hb=>Lh.2 (.inl hb));have J:∀b∈ob vc'++ob va,b∈ob vc++ob va\/↑w<=b:=λb hb=>by
  rcases Lh.1 hb with hb|hb
  ·exact(G b hb).imp (λh=>Lh.2 (.inl h)) id
  exact .inl (Lh.2 (.inr hb))
 refine⟨?_,Qg h.a E (λb hb ha=>h.dj b ha hb),λb hb S=>?_,λd hd t T=>?_⟩
 ·rw[Lc,LD];simpa using Y
 ·rcases G b hb with U|U
  ·exact h.dj b U S
  have:=QU h.a b S;omega
 rcases Lh.1 hd with hd|hd
 ·exact(h.each d hd t T).app I J
 simp only[oF]at hd;subst hd;exact(V t T).app I J
theorem jh.setA {E:List KN}(h:jh base w vc va co al)(T:w'.ownsRow base 94 5 va' E.length (E.flatMap Zo))(I:O5 (ob va) w w')(J:∀b∈ob va',b∈ob va\/↑w<=b):jh base w' vc va' co E:=by
 have U:O5 (ob vc++ob va) w w':=I.S (λb hb=>Lh.2 (.inr hb));have V:∀b∈ob vc++ob va',b∈ob vc++ob va\/↑w<=b:=λb hb=>by
  rcases Lh.1 hb with hb|hb
  ·exact .inl (Lh.2 (.inl hb))
  exact(J b hb).imp (λh=>Lh.2 (.inr h)) id
 refine⟨Qg h.c I (λb hb G=>h.dj b hb G),T,λb hb G=>?_,λd hd t Y=>(h.each d hd t Y).app U V⟩;rcases J b G with S|S
 ·exact h.dj b hb S
 have:=QU h.c b hb;omega
theorem jh.itms (h:jh base w vc va co al)(I:co.length<=1099511627776)(J:∀q∈co,yY q.nm)(E:∀b∈L,b<base):Vk L ↑w vc co :=
 ⟨QO h.c I (λb hb S=>oq (Qj h.c b hb).1 (E b S)),λq G=>⟨h.each q G (q.p.va,q.p.a.al.length,1,q.p.a.al.map (.int .i64)) od L (λb hb=>.inl (E b hb)),h.each q G (q.p.vm,q.p.a.mr.length,1,q.p.a.mr.map (.int .i64)) od L (λb hb=>.inl (E b hb)),h.each q G (q.p.ve,q.p.a.ed.length,3,q.p.a.ed.flatMap Qp) od L (λb hb=>.inl (E b hb))⟩,J⟩
end
def mzA (s f:Int):Qz:=⟨[s,f],2,[0],[(0,s,1),(1,f,0)]⟩
theorem QeE (nm:ByteArray)(s f:Int)(w:O1):QR sV 243 [.string nm,sS s,sS f] w λr w'=>sW w w'/\∃xa xm xe,r=.agg #[.string nm,xa,sS 2,xm,xe]/\Zv [xa,xm,xe]/\∀L:LN,(∀b∈L,b<↑w)->Zp L ↑w' xa xm xe (mzA s f):=by
 refine Zm func243 ?_;refine Qc<|QN [.string .empty,nS,sS 0,nS,nS] λb6 w1 ha hc J=>xe ?_;have he:=J.lt;refine Qk<|Qa<|Qo<|Q9 [[sS s],[sS f]] λb10 w2 S hs hf=>Qo<|Q9 [[sS 0]] λb11 w3 E ht hg =>
  Qa<|x (QE ⟨O,O,O,Z⟩)<|Qa<|x (QE ⟨O,O,O,Z⟩)<|Qo<|Q9 [Qp (0,s,1),Qp (1,f,0)] λb16 T G hu hh=>?_
 have U:=(S.D E).D G;have hj:=ha.D U;have hv:=S.size;have hw:=E.size;have hF:YT ↑w1 ↑T (.agg #[sL b10 2 2,sS 2,sL b11 1 1,sL b16 2 2]) (mzA s f):=
  Qak (a:=mzA s f) ((hf.I E).I G) (hg.I G) hh oa oa oa O O O og og og
 refine x (QE ⟨O,O,O,O,Z⟩)<|QN qU λb7 w5 hk hm hn=>Q2 [sL b10 2 2,sS 2,sL b11 1 1,sL b16 2 2] hn oy λw6 ho hp=>xe ?_;have I:sW T w6:=hk.Q ho hm;refine Qk<|QV hp O O<|x (Zu [(0,[.string nm]),(1,[sL b10 2 2,sS 2,sL b11 1 1,sL b16 2 2])] ⟨O,O,O,O,Z⟩) <|
  Q2 [.string nm,sL b10 2 2,sS 2,sL b11 1 1,sL b16 2 2] ((J.I U).I I) ⟨O,O,O,O,O,Z⟩ λw7 V hq=>xe ?_
 obtain⟨xa,xm,hy,hr,hA⟩:=hF;have Y:=OV (λv=>match v with|Value.agg cs=>cs.toList|_=>[]) hr
 simp only[List.cons.injEq,and_true]at Y;obtain⟨rfl,_,rfl,rfl⟩:=Y;refine Qh ⟨[.agg #[.string nm,sL b10 2 2,sS 2,sL b11 1 1,sL b16 2 2]],⟨Jl hq,Z⟩,(hj.D I).Q V hc,_,_,_,O,ox,λL hL=>?_⟩;have h1:=(hA (b6::L) (λb hb=>by
  rcases Ln.1 hb with rfl|hb
  ·exact he
  have:=hL b hb;omega)).I I
 exact(h1.st (V.S od)).up (λb hb=>.inl (Lk _ hb))
def nmZ (p:Array UInt8)(i:Nat):ByteArray:=⟨p⟩++⟨#[UInt8.ofNat (97+i)]⟩
abbrev Qiz:Array UInt8:=#[115,116,97,114,116]
abbrev Qe9:Array UInt8:=#[102,105,110,105,115,104]
abbrev Ju:Array UInt8:=#[109,97,99,104,105,110,101]
def Qch (i:Nat):List KN:=[⟨nmZ Qiz i,true,true,false,0⟩,⟨nmZ Qe9 i,false,true,false,0⟩]
def mzE (c:Nat):List KN:=(oJ c).flatMap Qch
def Qqx (i:Nat):X5:=⟨nmZ Ju i,mzA (2*(i:Int)) (2*(i:Int)+1)⟩
def mzC (c:Nat):Z2:=⟨mzE c,(oJ c).map Qqx,[],[],[]⟩
theorem U7 (p:Array UInt8)(i:Nat)(h:p.size<=10):yY (nmZ p i):=by
 show(ByteArray.mk _++ByteArray.mk _).size<=_;rw[ByteArray.size_append];show p.size+1<=_;omega
theorem QoA (c:Nat):∀e∈mzE c,yY e.nm:=λe E=>by
 unfold mzE at E;obtain⟨i,_,hi⟩:=Md.1 E;simp only[Qch,oK,oH,or_false]at hi;rcases hi with rfl|rfl
 ·exact U7 _ _ og
 exact U7 _ _ og
theorem Qci (c:Nat):mzE (c+1)=mzE c++Qch c:=by unfold mzE;rw[Nf,LD];simp
theorem Qfk:∀c,(mzE c).length=2*c
 | 0=>rfl
 | c+1=>by rw[Qci,Lc,Qfk c];show 2*c+2=_;omega
theorem Qgz (i:Nat):∀u∈(Qch i).flatMap Zo,u.oneCell'=true:=λu E=>by
 obtain⟨e,_,G⟩:=Md.1 E;exact Qcz e u G
theorem JV (c:Nat)(hW:c<=4)(w:O1):QR sV 182 [sS c] w λr w'=>sW w w'/\yW ↑w ↑w' r (mzC c):=by
 refine Zm func182 ?_;refine Qc<|QN X3 λb2 w1 hE hX hv=>xe ?_;refine Qc<|QN X3 λJ S hw hY hy=>xe ?_;have hZ:=hv.lt;have hj:=hy.lt;refine Qd<|Qk<|Qa<|xe<|QW (α:=Nat×O2×List KN×O2×List IV) [(4,4),(6,42)] (λz=>[(6,sS z.1)])
  (λz w'=>z.1<=c/\O5 [J] S w'/\QL ↑w' J 46 [z.2.1,z.2.2.2.1,Zs,Zs,Zs]/\jh ↑S w' z.2.2.2.1 z.2.1 z.2.2.2.2 z.2.2.1/\z.2.2.1=mzE z.1/\z.2.2.2.2.map IV.it=(oJ z.1).map Qqx/\∀q∈z.2.2.2.2,yY q.nm)
  (λz=>c - z.1) (0,Zs,[],Zs,[]) La ⟨Lo _,O5.Y _ _,hy,jh.nil,O,O,λq E=>by cases E⟩ ?_
 rintro⟨i,ve,ev,vc,co⟩ g3 w3 ⟨hi,ha,hf,G,T,U,hk⟩;simp only[]at hi hf G T U hk;have ga:=ha.size;have gb:ev.length=2*i:=by rw[T];exact Qfk i
 have gc:co.length=i:=by have:=OV oU U;simpa using this
 refine Zk rfl O (λh7=>?_) (λh7=>?_)
 ·refine Qt ?_;have hF:i=c:=by have h8:¬(i:Int)<(c:Int):=h7;omega
  rw[hF]at T U;have hG:b2∉[J]:=ol
  have hm:=(hv.I hw).J ha hG;refine Qc<|QV hf O O<|Q2 [ve,vc,Zs,Zs,Zs] hm ⟨QC G.a,QC G.c,O,O,O,Z⟩ λw4 I hH=>xe ?_;have hI:∀b∈[b2],b<S.heap.size:=λb hb=>by rw[Lb.1 hb];omega
  have hn:=G.low I hI;refine Qh ⟨[.agg #[ve,vc,Zs,Zs,Zs]],⟨Jl hH,Z⟩,((hE.D hw).Q ha oa).Q I oa,⟨ve,vc,Zs,Zs,Zs,ev,co,[],[],[]⟩,O,?_,λL hL=>?_⟩
  ·show(⟨ev,co.map IV.it,[],[],[]⟩:Z2)=mzC c;rw[T,U];rfl
  have hz:∀b∈L,b<S.heap.size:=λb hb=>oo (hL b hb)
  exact⟨⟨QO hn.a (by show ev.length<=_;omega) (λb hb hJ=>oq (Qj hn.a b hb).1 (hz b hJ)),λe he=>QoA c e (by rw[<-T];exact he)⟩,hn.itms oa hk hz,⟨Zt.nil _ _ 5,λq E=>(by cases E),λq E=>(by cases E)⟩,⟨Zt.nil _ _ 2,λq E=>(by cases E),λq E=>(by cases E)⟩,⟨Zt.nil _ _ 3,λq E=>(by cases E),λq E=>(by cases E)⟩⟩
 have hK:i<c:=by have h8:(i:Int)<(c:Int):=h7;omega
 have hu:(97:Int)+(i:Int)=((97+i:Nat):Int):=oa
 refine Qf<|Qd<|Qn<|Qk<|Qb<|Qc<|Qq O hf O O<|Qa<|QD O O<|x (Yh (k':=.i32) O ⟨oa,oa⟩)<|x (U0 (n:=97+i) (OV (Value.int .i32) hu) oa)<|x (YJ (a:=⟨Qiz⟩) (b:=⟨#[UInt8.ofNat (97+i)]⟩) O O (by show 5+1<=1000000000;omega))<|x (QE ⟨O,O,O,Z⟩) <|
  Qa<|QD rfl O<|x (Yh (k':=.i32) O ⟨oa,oa⟩)<|x (U0 (n:=97+i) (OV (Value.int .i32) hu) oa)<|x (YJ (a:=⟨Qe9⟩) (b:=⟨#[UInt8.ofNat (97+i)]⟩) O O (by show 6+1<=1000000000;omega))<|x (QE ⟨O,O,Z⟩) <|
  Qo<|Q9 ((Qch i).map Zo) λge w4 I gg hm=>?_
 have gh:=I.size;have hM:J∉ob ve:=QK G.a hj;have h0:J∉ob vc:=QK G.c hj;have hN:=Qj G.c;refine Qo<|Q8 (m:=2) (news:=(Qch i).flatMap Zo) (L:=[]) (Qm G.a I) O O O (hm.at od) (Qgz i) oa oa λho w5 h1 hp hO=>?_;refine Zc rfl<|Qo<|Qw (j:=0) (u:=ho) ((hf.I I).J hp hM) O O od (QC h1) λV h2 h3=>xe ?_;have hP:jh ↑S w5 vc ho co (ev++Qch i):=(G.I I).setA (by rw[Lc,LD];exact h1) hp hO;have h4:∀b∈[J],b<S.heap.size:=λb hb=>by rw[Lb.1 hb];exact hj
 have h5:=hP.low h2 h4;have h6:O5 [J] S V:=((ha.D I.any).O hp (λb hb=>.inr ((Qj G.a) b hb).1)).V h2;have gi:=h6.size;have hQ:sW V { V with drawn:=V.drawn+1 }:=O5.X _ _
 refine ZL (ob vc) (Xg 0 17 [12,13,14,16])<|p (QH O)<|pq (λ_ hc=>Ql (h3.J hc h0) O O)<|p Qx<|p (λ_=>Xp O O ⟨oa,oa⟩)<|p (λ_=>Yh (k':=.i32) O ⟨oa,oa⟩)<|p (λ_=>U0 (n:=97+i) (OV (Value.int .i32) hu) oa) <|
  p (λ_=>YJ (a:=⟨Ju⟩) (b:=⟨#[UInt8.ofNat (97+i)]⟩) O O (by show 7+1<=1000000000;omega))<|p Qx<|p (λ_=>Qe4 O O ⟨oa,oa⟩)<|p Qx<|p (λ_=>Qe4 O O ⟨oa,oa⟩)<|p (λ_=>Xp O O ⟨oa,oa⟩) <|
  pk<|xg<|(QeE (nmZ Ju i) (2*(i:Int)) (2*(i:Int)+1) _).S ?_
 rintro r7 w7 ⟨hR,xa,xm,hg,rfl,hr,hA⟩;have hs:=hQ.D hR;refine⟨hs.any,?_⟩;refine pk<|Q9 [QZ ⟨nmZ Ju i,⟨xa,xm,hg,mzA (2*(i:Int)) (2*(i:Int)+1)⟩⟩] λgj w8 ht gk hS=>⟨(hs.D ht).any,?_⟩;have Y:=hs.D ht;have h9:=h5.I Y;refine pk<|Q8 (news:=QZ ⟨nmZ Ju i,⟨xa,xm,hg,mzA (2*(i:Int)) (2*(i:Int)+1)⟩⟩) (L:=[]) h9.c O O O (hS.at od) (Qa0 hr.1 hr.2.1 hr.2.2.1) oa (oo Y.size) λhB w9 hC hh hT=>⟨(Y.any (L:=ob vc)).V hh,?_⟩;have hU:=h9.setC (yc (q:=⟨nmZ Ju i,⟨xa,xm,hg,mzA (2*(i:Int)) (2*(i:Int)+1)⟩⟩) (N:=↑V) (λL hL=>(hA L hL).I ht) oa h5.avlt) hC hh hT;refine p (QH O)<|pkk<|Qw (j:=1) (u:=hB) ((h3.I Y).J hh h0) O O od (QC hC) λgl hD hV=>pe ?_;refine Qs<|QD O O<|Qa<|xe<|⟨(i+1,ho,ev++Qch i,hB,co++[⟨nmZ Ju i,⟨xa,xm,hg,mzA (2*(i:Int)) (2*(i:Int)+1)⟩⟩]),oe,La,hK,((h6.D Y.any).O hh (λb hb=>.inr (hN b hb).1)).V hD,hV,hU.low hD h4,?_,?_,λq E=>?_⟩
 ·simp only[];rw[Qci,T]
 ·simp only[];rw[Lv,U,Nf,Lv];rfl
 rcases Lh.1 E with E|E
 ·exact hk q E
 rw[Lb.1 E];exact U7 _ _ og
instance skRsn:Sk sV 173 [0,0,0,0]:=⟨⟨_,underlying173,.int og O underlying3<|.int og O underlying3<|.int og O underlying3<|.int og O underlying3 .nil⟩,oc,oc⟩
theorem qg {v:O2}{l:List Rsn}(h:Zt L ↑w v l.length 4 (l.flatMap Z4))(E:Zt L' ↑w v' l.length 4 (l.flatMap Z4)):
  QR sV 184 [v,v'] w λr w'=>r=.bool true/\sW w w':=by
 haveI:DecidableEq Rsn:=λ_ _=>Classical.propDecidable _;exact(eqG ⟨_,O,func184⟩ Qh5 (ldA Qh5) h E λ{_ _ _ _ _ _ _ _ _ a b} _ _ hx G=>(KZ (xs:=Z4 a) (ys:=Z4 b) O hx G).D (by cases a;cases b;simp[VT,eqV];rfl)).S λ_ _ ⟨I,J⟩=>⟨by rw[I];simp,J⟩
def Um:ByteArray:=⟨#[110,101,118,101,114]⟩
def QaO:ByteArray:=⟨#[98,111,116,104]⟩
def QaN:ByteArray:=⟨#[109,111,115,116]⟩
def Qa2:X5:=⟨Um,⟨[1],1,[0],[]⟩⟩
def Qo9 (i j:Int):Exc:=⟨QaO,[(i,1),(j,1)]⟩
def Qpl:xL:=⟨QaN,[(0,1),(1,1)],1⟩
def k1C:Z2:={ mzC 1 with rq:=[Qa2] }
def k2C:Z2:={ mzC 2 with ex:=[Qo9 0 1] }
def k3C:Z2:={ mzC 2 with cs:=[Qpl] }
theorem QqH:YN k1C=0:=oc
theorem QqG:(spc k1C).fb=[⟨1,3,0,1⟩]:=oc
theorem QnK:(spc k1C).a.st=2:=oc
theorem QoP:QfN k1C=true:=oc
theorem QoQ:cmB k1C=[2]:=oc
theorem Qr3:YN k2C=0:=oc
theorem QqE:(spc k2C).fb=[⟨3,1,0,-1⟩]:=oc
theorem QqD:(spc k2C).a.st=4:=oc
theorem Qr2:YN k3C=0:=oc
theorem QqB:(spc k3C).fb=[⟨3,2,0,-1⟩]:=oc
theorem Qf7 {v:O2}(E:v.cells=#[v]):QR sV 282 [v] w λr w'=>sW w w'/\∃b,r=.func (.func 309) #[] #[sP b]/\↑w<=b/\QL ↑w' b 47 [v]:=by
 refine Zm func282 ?_;refine Qc<|Qo<|qD (us:=[v]) E λG T I J S=>Qb<|Qc<|x Zn<|Qb<|Qh ⟨[_],La,I,G,O,J,S⟩
theorem QbC {S:Nat}{v:O2}{es:LI}(hc:QL ↑w S 47 [v])(hE:Qu L ↑w v es):
  SeqStopsK (fen none) m sV 309 #[sP S] (λx:Int=>#[sS x]) (Lw ↑w L) (λys=>ys=es) (λ_=>True) (es.length+1) w:=by
 intro l J Jx W hf hJ hg hY h0;have V:sW w W:=O5.of_below hf;have ho:=hE.le;have ab:∀{ys:LI} {W1 W2:O1},J ys W1->sW W1 W2->J ys W2:=λ{ys W1 W2} hj T=>hJ ys W1 W2 none hj ⟨T.os,T.tape,T.output,T.size,λk U _=>T.block k U od⟩ (λr e=>by cases e);have key:QR sV 309 [.func (.yield l) #[] #[],sP S] W (λ_ W'=>(∃ys,ys=es/\J ys W')\/(∃pre,True/\Jx pre W')):=by
  refine QR.of_G m func309 O ntmps309 results309 od ?_;refine QS<|Qy oh oh<|ZE (hc.I V) O O<|QG (hE.I V) O<|Qa<|xe<|ZO<|KG (α:=Nat) [(4,4),(7,15)] (λk=>[(7,sS k)]) (λk ds W'=>ds=[]/\k<=es.length/\O5 L w W'/\J (es.take k) W') (λk=>es.length - k) oh 0 La
   ⟨O,Lo _,V.any,h0⟩ ?_
  rintro k g ds w1 ⟨rfl,U,ha,Y⟩;refine QS<|Qy oh oh<|ZX O O<|xe<|QS<|UO O (λh8=>?_) (λh8=>?_)
  ·refine JD ?_;have hh:es.length<=k:=by have h9:¬(k:Int)<(es.length:Int):=h8;omega
   rw[Lq hh]at Y;exact⟨λ_ h=>(by cases h),Ms,[],λW' E=>⟨Z,.inl ⟨es,rfl,ab Y E⟩⟩⟩
  refine Yb ?_;have G:k<es.length:=by have h9:(k:Int)<(es.length:Int):=h8;omega
  have hm:es.take (k+1)=es.take k++[es[k]'G]:=Lj G;have hp:(es.take k).length=k:=by rw[LC];omega
  refine QS<|ZO<|QS<|Qy oh oh<|xii (i:=k) (hE.st ha) O O G λa9 h9=>x (Qr h9 O)<|Qb<|QS<|Kr oh ?_;refine Jm.pre2 ?_;refine Qa<|Qa<|xe<|xy (l:=l) O (hY (es.take k) (es[k]'G) w1 Y oa) λen W3 hn=>Or.elim hn (λI=>⟨.bool true,I.1,?_⟩) (λI=>⟨.bool false,I.1,?_⟩)
  ·refine Jm.of_XL<|x (Zl O)<|xe<|JX O<|Yb ?_;refine Qy oh oh<|QD O O<|Qa<|xe ?_;exact⟨k+1,oa,La,O,G,ha.lw I.2.2,by rw[hm];exact I.2.1⟩
  refine Jm.of_XL<|x (Zl O)<|xe<|yT O ?_;refine JW ⟨λ_ h=>(by cases h),Ms,[],λW' E=>⟨Z,.inr ⟨es.take k++[es[k]'G],Z,?_⟩⟩⟩;exact hg _ W3 W' none I.2 ⟨E.os,E.tape,E.output,E.size,λk U _=>E.block k U od⟩ (λr e=>by cases e)
 refine(callsIn_wide (n:=m)).2 ?_;have ea:(#[.func (.yield l) #[] #[]]++[sP S].toArray:Array O2)=#[.func (.yield l) #[] #[],sP S]:=od
 rw[ea];unfold QR at key;refine Calls.mono key λe w' he=>?_;cases e with
 | returned v=>exact⟨⟨v,O⟩,he⟩
 | panicked c=>exact he.elim
 | outgrown=>exact he.elim
theorem Qg8 {V:Nat}{v:O2}{es:LI}(hk:QL ↑w V 47 [v])(hE:Qu [] ↑w v es)(hl:es.length<=1000):
  QR sV 321 [Zs,.func (.func 309) #[] #[sP V]] w λr w'=>sW w w'/\Qi 3 ↑w w' r es:=by
 refine QR.of_G 20 func321 O ntmps321 results321 od ?_;refine QS<|Qy oh oh<|Za [Zs] λS w1 U he hf=>Qb ?_;have hr:=U.size;have hs:=hf.lt;refine QS<|QS<|Qy oh oh<|Qa<|xe<|ZO<|Qf5 (α:=Int) [S] oa (capt:=[sP V]) O (enc:=λx=>sS x) og
  (QbC (hk.I U) ((hE.up (L':=[S]) (λb hb=>.inr (by rw[Lb.1 hb];exact he))).I U))
  (λpre W=>∃vo,O5 [S] w1 W/\QL ↑W S 47 [vo]/\Qi 3 ↑w1 W vo pre)
  (λpre=>Ye.ex λvo=>(Ye.J (Lp _)).and (Ye.blk.and Ye.row))
  ⟨Zs,O5.Y _ _,hf,QM _ _ _ _⟩
  (λf x Y W=>Y=upd (upd f 7 (sS x)) 5 (sS x)) (λx Y=>Ye.pure _) ?_ ?_ ?_
 ·rintro l pre e W ⟨vo,J,I,E⟩;refine Qy oh oh<|Qb<|⟨O,XX.refl _ _ _,⟨vo,J,I,E⟩,O⟩
 ·rintro l pre e Y W ⟨vo,J,I,E⟩ rfl hN;have hg:S∉ob vo:=QK E oa;have hge:=Qj E;have hn:=J.size;refine ZO<|Qy oh oh<|ZE I O O<|Qa<|Qo<|Q9 [[sS e]] λb10 w2 G ht ho=>?_;refine Qo<|Q8 (m:=1) (news:=[sS e]) (Qm E G) O O O (ho.at (L:=[]) od) om oa (oo G.size) λv3 w3 ha T hu=>?_;refine Qo<|Qw (u:=v3) ((I.I G).J T hg) O O od (QC ha) λw4 hc hp=>xe ?_;have hv:=G.size;refine⟨((XX.I G hn).D (XX.J T oa (λb hb=>⟨.inr (hge b hb).1,Go.Lg.Zb (Qm E G) b hb⟩))).D (XX.blk hc (oo T.size) ((I.I G).J T hg) (.inl Lm)),v3,((J.D G.any).O T (λb hb=>.inr (hge b hb).1)).V hc,hp,?_⟩;exact Qi.snoc (Qg ha hc (λb hb=>by have:=(Qj ha b hb).1;simp only[oF];omega))
 rintro D xs W hD rfl ⟨vo,J,I,E⟩ hh;refine QS<|Qy oh oh<|ZE I O O<|Qb<|JW ⟨λD' hq=>by rw[Lb.1 hq];exact hh,M4 _ _,[vo],λW' hj=>⟨La,(U.Q J he).O hj (λb hb=>.inr (by rw[Lb.1 hb];omega)),?_⟩⟩;refine Zf (Qg E hj (λb hb hm=>?_)) oa;rw[Lb.1 hm]at hb;obtain⟨o,h1,h2⟩:=Go.Lg.Zb E _ hb;rw[hh]at h1;cases h1
 cases h2
theorem Qeg {v:O2}{es:LI}(G:QL ↑w E 47 [v])(hE:Qu [] ↑w v es)(hl:es.length<=1000):
  QR sV 308 [.func (.func 309) #[] #[sP E]] w λr w'=>sW w w'/\Qi 3 ↑w w' r es:=by
 refine Zm func308 ?_;refine Qc<|Qb<|Qk<|Qv<|(Qg8 G hE hl).S ?_;rintro I T ⟨J,S⟩;refine Qb<|Qh ⟨[I],La,J,S⟩
theorem Qgd {v:O2}{es:LI}(I:QL ↑w E 47 [v])(hE:Qu [] ↑w v es)(hl:es.length<=1000):
  QR sV 281 [.func (.func 309) #[] #[sP E]] w λr w'=>sW w w'/\Qi 3 ↑w w' r (es.mergeSort λx y=>decide (x<=y)):=by
 refine Zm func281 ?_;refine Qc<|Qb<|Qk<|Qv<|(Qeg I hE hl).S ?_;rintro J V ⟨S,G⟩;refine Qb<|Qk<|Qv<|(J6 G oa).S ?_;rintro r2 Y ⟨T,U⟩;refine xe<|Qk<|Qb<|Qh ⟨[J],La,S.O T (λb hb=>.inr (Qj G b hb).1),U⟩
theorem Qfv {n:Int}:∀{l:LI}(i:Nat),n∈l->fix (λe=>decide (n=e)) i l=((i+l.idxOf n:Nat):Int)
 | a::l,i,h=>by
  rw[YD,List.idxOf_cons];by_cases e:n=a
  ·simp[e]
  rw[OT (ou e),show(a == n)=false by simpa using Ne.symm e,Qfv (i+1) ((Ln.1 h).resolve_left e)];simp only[cond_false];omega
theorem Qo0 {v:O2}(h:Qu L ↑w v l){n:Int}(E:n∈l):
  QR sV 139 [v,sS n] w λr w'=>w'=w/\r=sS (l.idxOf n:Nat):=
 (jS h n).S λ_ _ ⟨G,I⟩=>⟨G,by rw[I,Qfv 0 E,LU]⟩
def rlE (a:Qz)(to:LI):List Ed:=a.ed.map λe=>(e.1,O6 to (a.al.idxOf e.2.1),e.2.2)
theorem Qew {to sa:LI}{se:List Ed}(h:Zp [] ↑w va vm ve a)(hck:X4 a=0)(ho:Q0 a)(ht:Qu [] ↑w vt to)(hD:to.length=a.al.length)(hM:∀e∈to,0<=e/\e<32)(gy:to.Nodup)
  (hN:to.mergeSort (λx y=>decide (x<=y))=sa) (gz:∀l',l'.Perm (rlE a to)->l'.Pairwise QcG->l'=se) (hok:Q0 ⟨sa,a.st,a.mr,se⟩):
  QR sV 250 [.agg #[va,sS a.st,vm,ve],vt] w λr w'=>sW w w'/\∃v,r=.tuple #[v,sS 0]/\YT ↑w ↑w' v (Xw ⟨sa,a.st,a.mr,se⟩):=by
 have k9:=ho.st0;have ma:=ho.st1;have mc:=ho.al_le;refine Zm func250 ?_;refine Qc<|Za [va,sS a.st,vm,ve] λb2 w1 hO mf g0=>QN qU λb4 w2 hP mg hQ=>Qb ?_;have hR:=hO.D hP;have mh:=hO.size;have mj:=hQ.lt;have hS:=g0.I hP;refine Qd<|Qc<|QV hS O O<|Qv<|(Y5 (h.I hR)).S ?_;rintro r3 w3 ⟨hT,hz⟩;rw[hck]at hT;subst hT;have hE:=hR.D hz;have mo:=hz.size;have hf:=hS.I hz;refine Qb<|Qk<|ZM O O<|xe<|ZD rfl<|Qf ?_;have h0:=h.I hE;have V:=ht.I hE;refine Qd<|Qk<|QG V O<|Qq O hf O O<|QG h0.al O<|ZM O O<|xe<|Zi rfl (λhU=>OW (OV (λm:Nat=>(m:Int)) hD) hU) (λhU=>?_);refine Qf<|QX (α:=Unit) [(5,5),(7,8),(25,47)] (λ_=>[]) (λ_ w'=>w'=w3) oh ?_ ?_
 ·refine Qk<|QG V O<|Qa<|xe<|QW (α:=Nat) [(5,5),(7,8),(27,47)] (λk=>[(27,sS k)]) (λk w'=>w'=w3/\k<=to.length) (λk=>to.length - k) 0 La ⟨O,Lo _⟩ ?_;rintro k g w' ⟨rfl,hk⟩;refine Zk O O (λhV=>?_) (λhV=>?_)
  ·refine Qt ?_;exact⟨(),Z,O⟩
  have I:k<to.length:=by have mq:(k:Int)<(to.length:Int):=hV;omega
  have g2:=hM _ (Le I);have hW:(to[k]'I)∉to.take k:=λhm=>by
   obtain⟨j,hj,hX⟩:=LP hm;rw[M6]at hX;have g3:j<k:=by rw[LC]at hj;omega
   have:=(Mi.1 gy) j k oa I g3;exact this hX
  refine Zg (to[k]'I) λe U=>?_;rw[U]at g2 hW;refine Qf<|Qd<|Qn<|Qk<|xii V O O I λms hY=>?_;rw[U]at hY;refine x (Qr hY O)<|x Qe<|Qb<|Qn<|Qk<|xb (YC O O) (λhZ=>OW (show e<0 from hZ) oa) (λhZ=>?_);refine Qa<|Qa<|x (Yl O O)<|QB O<|Qb<|Zi O (λga=>OW (show e≥32 from ga) oa) (λga=>?_);refine Qk<|Qa<|QnY V O O oa λg4 g5=>?_;have g6:Qu [] ↑w' g4 (to.take k):=by
   unfold Qu;have g7:(to.take k).length=k:=by rw[LC];omega
   rw[g7,List.map_take];simpa using g5
  refine Qa<|Qv<|(ZK g6 e).S ?_;rintro mt w' ⟨rfl,rfl⟩;refine Qb<|Zi O (λgb=>OW gb hW) (λgb=>?_);refine Qf<|Qs<|QD O O<|Qa<|xe ?_;exact⟨k+1,oa,La,O,I⟩
 rintro⟨⟩ g w' rfl;have g8:sW w' { w' with drawn:=w'.drawn+1 }:=O5.X _ _
 refine QX (α:=Nat×O2) [(9,9),(48,55)] (λz=>[(9,.pointer (some ⟨z.1,0,none⟩))]) (λz G=>sW w' G/\↑w'<=z.1/\QL ↑G z.1 53 [z.2,sS a.st,vm,nS]/\z.2.oneCell'=true/\∀L:LN,(∀b∈L,b<↑w'\/b=z.1)->Qu L ↑G z.2 sa) oh ?_ ?_
 ·refine JB _ mixed oh (V0 (α:=O2) (sW w') [oz 0,oz 3,oz 4,oz 5,oz 6] [oA 1,oA 2,oz 7] 8 9 [oA 9] [] [(48,55)] [(49,50),(55,55)] (λz=>[(55,.agg #[z,sS a.st,vm,nS])])
   (λz own G=>(∀b∈own,↑w'<=b)/\z.oneCell'=true/\∀L:LN,(∀b∈L,b∉own)->Qu L ↑G z sa)
   (λv G=>∃b,v=sP b/\↑w'<=b/\QL ↑G b 53 qU) oc oh O g8 od ?_ ?_ ?_ ?_)
  ·rintro v own wa wb ⟨b,rfl,hb,hB⟩ hs hn;exact⟨b,O,hb,hB.J hs (hn b (by simp[ow]))⟩
  ·rintro z own wa wb ⟨h1,Y,h3⟩ hs;exact⟨h1,Y,λL hL=>(h3 L hL).I hs⟩
  ·rintro z g own wz v ⟨i1,i2,i3⟩ g9 ⟨E,rfl,hg,h5⟩ ka;have gc:=(ka E (by simp[ow])).1;refine pkk<|Uk [z,sS a.st,vm,nS] h5 ⟨i2,O,h0.mr.one,O,Z⟩ λG ha kb=>pe ?_;refine⟨(E,z),La,g9.Q ha hg,hg,kb,i2,λL hL=>?_⟩;have h1:=i3 (E::L) (λb hb=>by
    rcases Ln.1 hb with rfl|hb
    ·exact gc
    rcases hL b hb with Y|Y
    ·exact λh3=>oo (i1 b h3)
    subst Y;exact gc)
   exact(h1.st (ha.S od)).up (λb hb=>.inl (by simp[hb]))
  refine Go.Lg.p Qx<|Go.Lg.p (QH O)<|pq (λ_ hc=>Ql (hf.I hc) O O)<|Go.Lg.p (QH O)<|pq (λ_ hc=>Ql (hf.I hc) O O) <|
   pe ⟨λg wf kc=>flA qU kc,?_⟩
  refine f2k λx1 p1 c1=>xg<|(Qf7 V.cells).S ?_;rintro mu y1 ⟨ge,mv,rfl,mw,hG⟩;refine⟨c1.D ge,rgB ↑x1 ↑y1,ge.any,λb hb=>.inr (Uo.1 hb),?_⟩;refine f2k λx2 p2 c2=>xg<|(Qgd (hG.I p2) (V.I c2) oa).S ?_;rintro ke y2 ⟨gg,hh⟩;rw[hN]at hh;refine⟨c2.D gg,rgB ↑x1 ↑y1++rgB ↑x2 ↑y2,gg.any,λb hb=>(Lh.1 hb).imp id λhb=>Uo.1 hb,?_⟩;refine f3p (λ_=>QE ⟨xM hh,O,h0.mr.cells,Z⟩)<|f2e ?_;refine⟨ke,La,λb hb=>?_,QC hh,λL hL=>?_⟩
  ·have e1:=c1.size;have e2:=c2.size;rcases Lh.1 hb with hb|hb
   ·have:=Uo.1 hb;omega
   have:=Uo.1 hb;omega
  exact QO hh (by rw[<-hN,(Nc to _).length_eq];omega) (λb hb hm=>hL b hm (Lh.2 (.inr (Uo.2 (Qj hh b hb)))))
 rintro⟨E,vs⟩ g G ⟨ha,hg,h5,hvo,kf⟩;have gh:=h5.lt;have gi:=hf.I ha;have gj:∀b∈[E],b∈([]:LN)\/↑w'<=b:=λb hb=>.inr (by rw[Lb.1 hb];exact hg);have hq:Zp [E] ↑G va vm ve a:=(h0.up gj).I ha;have kg:Qu [E] ↑G vt to:=(V.up gj).I ha;have my:=hq.ed.le;have kh:b2∉[E]:=by have:=hf.lt;simp only[oF];omega
 have mz:b4∉[E]:=ol
 have ki:(rlE a to).length=a.ed.length:=by unfold rlE;rw[Ll]
 have kj:∀e∈rlE a to,(0<=e.1/\e.1<1099511627776)/\0<=e.2.1/\e.2.1<1099511627776:=λe U=>by
  unfold rlE at U;obtain⟨d,hd,rfl⟩:=Ly.1 U;have h1:=ho.ed d hd;have Y:a.al.idxOf d.2.1<to.length:=by rw[hD];exact Me h1.2.2.1
  have h3:=hM _ (Le Y);have h4:=ZA Y;simp only[];omega
 refine QX (α:=O2) [(11,11),(56,78)] (λ_=>[]) (λz J=>O5 [E] G J/\QL ↑J E 53 [vs,sS a.st,vm,z]/\J.ownsRow ↑G 179 3 z (rlE a to).length ((rlE a to).flatMap Qp)) oh ?_ ?_
 ·refine Qc<|Qq O gi O O<|QG hq.ed O<|Qa<|xe<|QW (α:=Nat×O2) [(11,11),(59,78)] (λz=>[(59,sS z.1)]) (λz J=>z.1<=a.ed.length/\O5 [E] G J/\QL ↑J E 53 [vs,sS a.st,vm,z.2]/\J.ownsRow ↑G 179 3 z.2 z.1 (((rlE a to).take z.1).flatMap Qp)) (λz=>a.ed.length - z.1) (0,Zs) La ⟨Lo _,O5.Y _ _,h5,QM _ _ _ _⟩ ?_;rintro⟨k,vr⟩ g J ⟨hk,S,hr,T⟩;refine Zk O O (λhH=>?_) (λhH=>?_)
  ·refine Qt ?_;have kk:k=a.ed.length:=by have h6:¬(k:Int)<(a.ed.length:Int):=hH;omega
   rw[Lq oa,kk,<-ki]at T;exact⟨vr,Z,S,hr,T⟩
  have I:k<a.ed.length:=by have h6:(k:Int)<(a.ed.length:Int):=hH;omega
  have hI:=ho.ed _ (Le I);have kn:(rlE a to)[k]'oa=((a.ed[k]'I).1,O6 to (a.al.idxOf (a.ed[k]'I).2.1),(a.ed[k]'I).2.2):=by unfold rlE;rw[MK]
  have hu:(rlE a to).take (k+1)=(rlE a to).take k++[(rlE a to)[k]'oa]:=Lj oa;rw[kn]at hu;refine Zg (a.ed[k]'I) λe U=>?_;rw[U]at hI hu;have hix:a.al.idxOf e.2.1<to.length:=by rw[hD];exact Me hI.2.2.1
  rw[<-ZA hix]at hu;refine Zg (to[a.al.idxOf e.2.1]'hix) λy hy=>?_;rw[hy]at hu;refine Qf<|Qd<|Qn<|Qc<|xie (i:=k) (hq.ed.st S) O O I λm0 h6=>?_;rw[U]at h6;refine x (QA h6 O O)<|QN [sS 0,sS 0,sS 0] λb11 w7 hw gk ko=>Q2 (Qp e) ko ox λw8 h7 gl=>xe ?_;have h8:sW J w8:=hw.Q h7 gk;have kq:=S.size;refine Qk<|Qq O ((gi.J S kh).I h8) O O<|Qq O gl O O<|Qv<|(Qo0 ((hq.al.st S).I h8) hI.2.2.1).S ?_;rintro m1 w8 ⟨rfl,rfl⟩;refine xii ((kg.st S).I h8) O O hix λm2 gm=>?_;rw[hy]at gm;refine x (Qr gm O)<|Zc O<|Qo<|Qw (u:=sS y) gl O O (by simp[Qp]) rfl λw9 h9 kr=>xe ?_;have kt:QL ↑w9 b11 179 (Qp (e.1,y,e.2.2)):=kr;have hA:sW J w9:=h8.Q h9 gk;have gn:=hr.I hA;have n9v:E∉ob vr:=QK T gh;have m3:=hA.size;refine Qs<|Qq O gn O O<|QV kt O O<|Qo<|Q9 [Qp (e.1,y,e.2.2)] λm4 m5 hC m6 ku=>?_;refine Qo<|Q8 (m:=1) (news:=Qp (e.1,y,e.2.2)) (L:=[]) (Qm (Qm T hA) hC) O O O (ku.at od) (by simp[Qp,Value.oneCell']) oa (oo hC.size) λgo m7 hJ gq m8=>?_;refine Zc O<|Qo<|Qw (u:=go) ((gn.I hC).J gq n9v) O O od (QC hJ) λm9 gr kv=>xe ?_;refine Qs<|QD O O<|Qa<|xe<|⟨(k+1,go),oe,La,I,(((S.D hA.any).D hC.any).O gq (λb hb=>.inr ((Qj T) b hb).1)).V gr,kv,?_⟩;simp only[];rw[hu,LD];simpa using(Qg hJ gr (λb hb=>by have:=(Qj hJ b hb).1;simp only[oF];omega))
 rintro vr g J ⟨S,hr,T⟩;have n9r:E∉ob vr:=QK T gh;have kq:=S.size;have gs:=Qj T;refine Qc<|Qq O hr O O<|Qv<|(Qas T oa kj).S ?_;rintro r7 w7 ⟨hw,l',hp,kw,kx⟩;have kz:=gz l' hp kw;subst kz;refine xe ?_;have k0:∀b∈E::ob vr,b∈[E]\/↑G<=b:=λb hb=>by
  rcases Ln.1 hb with rfl|hb
  ·exact .inl Lm
  exact .inr (gs b hb).1
 have gt:∀{v:O2} {l:LI},Qu [E] ↑G v l->Qu [] ↑w7 v l:=λhv=>(((hv.up k0).st (S.S od)).st (hw.S (λb hb=>Lk _ hb))).up (λb hb=>by cases hb);have k4:UP [] ↑w7 vr l':=QO kx (oo hp.length_eq) od;have k5:Zp [] ↑w7 vs vm vr ⟨sa,a.st,a.mr,l'⟩:=⟨gt (kf [E] (λb hb=>.inr (Lb.1 hb))),gt hq.mr,k4⟩;have hK:sW w' w7:=(ha.Q S hg).O hw (λb hb=>.inr (oo (gs b hb).1));have pc:=hK.size;refine Qc<|QV (hr.J hw n9r) O O<|Qv<|(KC k5 hok).S ?_;rintro v w8 ⟨h7,hF⟩;obtain⟨us,gu,gv,k6⟩:=Y9 hF;refine Qo<|Zj (us:=us) (((hQ.I hz).I hK).I h7) O gu gv O k6 λw9 h9 hG=>Qb ?_;have gx:=hE.D hK;refine Qh ⟨[sT us,sS 0],⟨⟨_,O,ZF gv (hG.at (L:=[]) od).cells⟩,rfl,Z⟩,(gx.D h7).Q h9 oa,v,by rw[gu];rfl,?_⟩;exact(Y8 hF oa h9).S (oo gx.size)
theorem Qof {motive:LI->Prop}(nil:motive [])(append_singleton:∀u v,motive u->motive (u++[v]))(u:LI):motive u:=by
 have key:∀r:LI,motive r.reverse:=by
  intro r;induction r with
  | nil=>exact nil
  | cons v r ih=>rw[List.reverse_cons];exact append_singleton _ _ ih
 have:=key u.reverse;rw[List.reverse_reverse]at this;exact this
def enc (u:LI):Int:=u.foldl (λn e=>n*33+(e+1)) 0
theorem Ve (u:LI)(v:Int):enc (u++[v])=enc u*33+(v+1):=by unfold enc;rw[Mj];rfl
def Qhc (u:LI):Prop:=∀e∈u,0<=e/\e<32
theorem Qhc.snoc {v:Int}(h:Qhc (u++[v])):Qhc u/\0<=v/\v<32:=⟨λe E=>h e (LM _ E),h v od⟩
theorem Qpa (h:Qhc u):0<=enc u:=by
 induction u using Qof with
 | nil=>exact Mx _
 | append_singleton u v ih=>rw[Ve];have:=ih h.snoc.1;have:=h.snoc.2;omega
def rn (a:Qz)(x:Int)(u:LI):Int:=u.foldl (λs v=>nxt a.ed s v) x
theorem QlA (a:Qz)(x:Int)(u:LI)(v:Int):rn a x (u++[v])=nxt a.ed (rn a x u) v:=by unfold rn;rw[Mj];rfl
def x0 (a:Qz):Int:=if 0<a.st then 0 else -1
structure Fw where
 u:LI
 s:Int
def qE:Fw:=⟨[],0⟩
def wdN (e:Fw)(d:Ed):Fw:=⟨e.u++[d.2.1],d.2.2⟩
def wdR (a:Qz)(e:Fw):List Fw:=(QQ a.ed e.s).map (wdN e)
def wdL (a:Qz)(most:Nat):Nat->Nat->List Fw->Option (List Fw)
 | 0,_,L=>some L
 | f+1,i,L=>if i<L.length then(if(L.getD i qE).u.length=most then some L else if 1024<(L++wdR a (L.getD i qE)).length then none else wdL a most f (i+1) (L++wdR a (L.getD i qE))) else some L
def wds (a:Qz)(most:Nat):Option (List Fw):=wdL a most 1025 0 [qE]
structure WdI (a:Qz)(most i:Nat)(L:List Fw):Prop where
 ne:0<L.length
 le:i<=L.length
 mx:L.length<=1024
 rx:∀e∈L,e.s=rn a 0 e.u/\0<=e.s/\e.s<a.st/\(∀v∈e.u,v∈a.al)/\e.u.length<=most
 so:L.Pairwise λp q=>enc p.u<enc q.u
 hd:(L.getD 0 qE).u=[]
 pr:∀e∈L,e.u=[]\/∃j v,j<i/\e.u=(L.getD j qE).u++[v]
 ch:∀j v,j<i->0<=nxt a.ed (L.getD j qE).s v->∃e∈L,e.u=(L.getD j qE).u++[v]
theorem QjL {L:List Fw}(h:i<L.length):L.getD i qE∈L:=by simp[oO,h]
theorem QjM {L r:List Fw}(h:i<L.length):(L++r).getD i qE=L.getD i qE:=by simp[oO,Oa h]
theorem WdI.J (T:Q0 a){most:Nat}{L:List Fw}(h:WdI a most i L)(hi:i<L.length)(hl:(L.getD i qE).u.length≠most)(hm:¬1024<(L++wdR a (L.getD i qE)).length):WdI a most (i+1) (L++wdR a (L.getD i qE)):=by
 have V:Qhc a.al:=T.al;have hSm:∀e∈L,Qhc e.u:=λe E u I=>V u ((h.rx e E).2.2.2.1 u I);have hf:=QjL hi;obtain⟨r1,r2,r3,r4,r5⟩:=h.rx _ hf;generalize Y:L.getD i qE=ei at *;have ha:∀e∈wdR a ei,∃d∈QQ a.ed ei.s,e=wdN ei d/\d.2.1∈a.al/\0<=d.2.2/\d.2.2<a.st/\nxt a.ed ei.s d.2.1=d.2.2:=λe E=>by
  unfold wdR at E;obtain⟨d,hd,rfl⟩:=Ly.1 E;obtain⟨hg,ht⟩:=ZH hd;have hc:=T.ed d hg;refine⟨d,hd,O,hc.2.2.1,hc.2.2.2.1,hc.2.2.2.2,?_⟩;rw[Qff];obtain⟨k,hk,rfl⟩:=LP hd;refine QdQ _ ei.s _ k hk (λe E=>(ZH E).2) O (λm hh e=>?_);have J:(QQ a.ed ei.s).Pairwise λx y:Ed=>x.1<y.1\/(x.1=y.1/\x.2.1<y.2.1):=List.Pairwise.sublist ML T.edi;have:=Mi.1 J m k oa hk hh;have e1:=(ZH (Le (l:=QQ a.ed ei.s) (show m<(QQ a.ed ei.s).length by omega))).2;have e2:=(ZH (Le hk)).2;omega
 have hw:=Qpa (hSm _ hf);have hr:∀e∈L,∀v,v∈a.al->enc e.u<enc (ei.u++[v]):=λe E v hv=>by
  have hz:=V v hv;rw[Ve];rcases h.pr e E with G|⟨j,u,S,G⟩
  ·rw[G];show(0:Int)<_;omega
  rw[G,Ve];have h0:enc (L.getD j qE).u<enc ei.u:=by
   have:=Mi.1 h.so j i oa hi S;rw[<-Y];simpa[oO,show j<L.length by omega,hi]using this
  have h5:u<32:=by
   have:=(h.rx e E).2.2.2.1 u (by rw[G];simp);exact(V u this).2
  omega
 have keepD:∀r:List Fw,∀j,j<L.length->(L++r).getD j qE=L.getD j qE:=λr j S=>QjM S;refine⟨by simp;have:=h.ne;omega,by simp;omega,oa,λe E=>?_,?_,by rw[keepD _ 0 h.ne];exact h.hd,λe E=>?_,λj v S U=>?_⟩
 ·rcases Lh.1 E with E|E
  ·exact h.rx e E
  obtain⟨d,_,rfl,G,h2,h3,h4⟩:=ha e E;refine⟨?_,h2,h3,λu I=>?_,?_⟩
  ·show d.2.2=rn a 0 (ei.u++[d.2.1]);rw[QlA,<-r1,h4]
  ·rcases Lh.1 (show u∈ei.u++[d.2.1] from I) with I|I
   ·exact r4 u I
   simp only[oF]at I;subst I;exact G
  show(ei.u++[d.2.1]).length<=most;rw[Lc,Lu];omega
 ·rw[Mg];refine⟨h.so,?_,λp J q hq=>?_⟩
  ·unfold wdR;rw[Ma];have J:(QQ a.ed ei.s).Pairwise λx y:Ed=>x.1<y.1\/(x.1=y.1/\x.2.1<y.2.1):=List.Pairwise.sublist ML T.edi;refine List.Pairwise.imp_of_mem (λ{x y} hx hy h6=>?_) J;have e1:=(ZH hx).2;have e2:=(ZH hy).2;show enc (ei.u++[x.2.1])<enc (ei.u++[y.2.1]);rw[Ve,Ve];omega
  obtain⟨d,_,rfl,G,_⟩:=ha q hq;exact hr p J _ G
 ·rcases Lh.1 E with E|E
  ·rcases h.pr e E with G|⟨j,u,S,G⟩
   ·exact .inl G
   exact .inr ⟨j,u,oa,by rw[keepD _ j oa];exact G⟩
  obtain⟨d,_,rfl,_⟩:=ha e E;exact .inr ⟨i,d.2.1,oa,by rw[keepD _ i hi,Y];rfl⟩
 rw[keepD _ j oa]at U ⊢;by_cases e:j=i
 ·subst e;rw[Y]at U ⊢;refine⟨wdN ei (ei.s,v,nxt a.ed ei.s v),MN _ ?_,O⟩;unfold wdR;exact LG (by unfold QQ;exact LQ.2 ⟨(QaM U),od⟩)
 obtain⟨e',hs,G⟩:=h.ch j v oa U;exact⟨e',LM _ hs,G⟩
theorem Qp7 (G:0<a.st)(most:Nat):WdI a most 0 [qE]:=by
 refine⟨od,Nat.zero_le _,od,λe E=>?_,od,by simp[oO,qE],λe E=>?_,λj v I=>oa⟩
 ·simp only[oF]at E;subst E;exact⟨O,Mx _,G,by simp[qE],by simp[qE]⟩
 simp only[oF]at E;subst E;exact .inl O
theorem qR {e:Nat}{bys:Nat}[h:Sl P t e sz bys z]{v:O2}(E:w.ownsRow base e sz v n cs)
  {a:Addr} {c:Nat} {news:LV} (hl:news.length=m*sz) (U:∀j u,news[j]?=some u->w.cell? (a.add j)=some u) (h1:∀u∈news,u.oneCell'=true)
  (hb:n+m<=1099511627776) (hs:bys<=128) (he:base<=↑w):
  ∃v' w',(Builtin.append_ #[t,t] ty #[v,.slice (some a) m c]).run P w=.ok v' w'/\w'.ownsRow base e sz v' (n+m) (cs++news)/\O5 (ob v) w w'/\(∀b∈ob v',b∈ob v\/↑w<=b)/\w'.ownsRow base e sz v n cs:=by
 obtain⟨i,hi,Y,J,ha⟩:=Sl.info h;have hc:(n+m)*bys<=140737488355328:=Lx (M9 hb hs) oa;have hf:n+m<=maxLen:=by simp only[maxLen];omega
 by_cases hg:∃g cap cur,v=sL g n cap/\w.heap[g]?=some (.cells cur e (0,0))/\n+m<=cap
 ·obtain⟨v',w',T,ho,ht,_⟩:=run_append_own (P:=P) w base t ty e i z sz bys h.u hi Y J ha h.zs h.pos v n cs E a m c news hl U h1 hf hc he;have hu:O5 (ob v) w w':=by rw[QaJ];exact O5.of_grown ht
  refine⟨v',w',T,ho,hu,?_⟩;obtain⟨g,cap,cur,rfl,hh,S⟩:=hg;rcases E.2 with⟨h2,_⟩|⟨g2,cap2,hj,h2,h3,h4,h5,h6,h7,h8⟩
  ·cases h2
  cases h2
  have hv:n*i.size+news.length<=hj.size:=by rw[hl,h7,J,<-My];exact MQ _ S
  rw[(run_append_room (P:=P) w t ty e i h.u hi g n cap hj h4 a m c news (by rw[J];exact hl) U h1 S hv)]at T;cases T
  refine⟨λb I=>.inl I,E.1,?_⟩;have hB:=E.1;rcases ho.2 with⟨e1,_⟩|⟨g3,cap3,cur3,e1,k3,k4,k5,k6,k7,k8⟩
  ·cases e1
  cases e1
  refine .inr ⟨g,cap,cur3,O,k3,k4,h5,k6,k7,?_⟩;have:=OV (List.take (n*sz)) k8;rw[List.take_take,MZ (MQ _ (Nat.le_add_right n m)),List.take_append_of_le_length oa,Lq (l:=cs) oa]at this;exact this
 have new:∀(old:Nat),old<n+m->∀G,G=(Obj.cells (cs.toArray++news.toArray++Builtin.zeroCells z.cells (grownCap w (n+m) old e - (n+m))) e) ->
   (w.drew.alloc G).ownsRow base e sz (.slice (some ⟨↑w,0,none⟩) (n+m) (grownCap w (n+m) old e)) (n+m) (cs++news):=by
  intro old ho G hw;subst hw;have hge:=grownCap_ge w (n+m) old e;have hp:grownCap w (n+m) old e<=maxLen:=grownCap_le_maxLen w (n+m) old e hf;have hq:(cs++news).length=(n+m)*sz:=by rw[Lc,E.1,hl,My]
  refine⟨hq,.inr ⟨↑w,_,_,O,he,Vg w.drew _,hge,hp,?_,?_⟩⟩
  ·simp only[Array.size_append,Od,size_zeroCells,h.zs,E.1,hl,<-Ou];congr 1;omega
  simp only[Array.toList_append,Of];rw[<-LA,<-hq];exact List.take_left
 have stp:∀G,O5 (ob v) w (w.drew.alloc G):=λG=>⟨O,O,O,by rw[zx];exact Nat.le_succ _,λk hk _=>Qbn w.drew G k hk⟩;have hy:∀G,sW w (w.drew.alloc G):=λG=>⟨O,O,O,by rw[zx];exact Nat.le_succ _,λk hk _=>Qbn w.drew G k hk⟩;have fin:∀(b:Nat),b∈ob (.slice (some ⟨↑w,0,none⟩) (n+m) 0)->b∈ob v\/↑w<=b:=λb I=>by simp[ob]at I;omega
 rcases E.2 with⟨rfl,rfl⟩|⟨g,cap,cur,rfl,hC,hh,hD,hp,hE,hF⟩
 ·have hx:cs=[]:=Lt (ou E.1);subst hx;by_cases hm:m=0
  ·subst hm;have V:news=[]:=Lt (ou hl);subst V;refine⟨nS,w,?_,QM _ _ _ _,O5.Y _ _,λb I=>by simp[ob]at I,QM _ _ _ _⟩;simp[Builtin.append_,run_underlying h.u,sizeOf,typeInfo,hi,Builtin.lenOf,Builtin.firstCells,loadCells,loadCellsFrom]
  have T:=run_append_nil (P:=P) w t ty e i z h.u hi Y a m c news (by rw[J];exact hl) U oa oa (by rw[ha];have h0:=hc;simp only[oX]at h0;omega);have V:=new 0 oa _ O;simp only[oX,On,Array.empty_append]at V ⊢;exact⟨_,_,T,V,stp _,λb I=>fin b I,QM _ _ _ _⟩
 have S:cap<n+m:=by
  rcases OM cap (n+m) with h9|hge
  ·exact h9
  exact OW ⟨g,cap,cur,O,hh,hge⟩ hg
 have hA:∀j u,cs[j]?=some u->w.cell? ((⟨g,0,none⟩:Addr).add j)=some u:=E.cells (g:=g) O;exact⟨_,_,(run_append_grow (P:=P) w t ty e i z h.u hi Y ⟨g,0,none⟩ n cap cs (by rw[J];exact E.1) hA a m c news (by rw[J];exact hl) U S oa (growslice_fits S (by rw[ha];exact hc))),new cap S _ O,stp _,λb I=>fin b I,Qm E (hy _)⟩
theorem QiK {e bys:Nat}[h:Sl P t e sz bys z]{s:O3}{v:O2}(E:w.ownsRow base e sz v n cs)(G:ev f s=v)
  {a:Addr} {c:Nat} {news:LV} (I:ev f y=.slice (some a) m c) (hl:news.length=m*sz)  (J:At L ↑w a news) (S:∀u∈news,u.oneCell'=true)
  (hb:n+m<=1099511627776) (T:base<=↑w)
  (hK:∀v' w',w'.ownsRow base e sz v' (n+m) (cs++news)->O5 (ob v) w w'->(∀b∈ob v',b∈ob v\/↑w<=b)->w'.ownsRow base e sz v n cs->K (QP f d v') w') (U:bys<=128:=by decide):
  XO P ⟨d,.call ⟨.builtin .append,#[s,y],#[t,t]⟩,ty,pS,af,gd⟩ f w K:=by
 obtain⟨v',w',V,Y,h3,h4,h5⟩:=qR (P:=P) (t:=t) (ty:=ty) E hl J.cells S hb U T (c:=c);have ha:(execOp (ev f) ⟨d,.call ⟨.builtin .append,#[s,y],#[t,t]⟩,ty,pS,af,gd⟩).run P w=.ok (.value v') w':=by
  simp[execOp,resolve,invoke,builtin,G,I,V]
 exact xv ha (hK v' w' Y h3 h4 h5)
section
variable {C:xz}{pl:xt}{i0:Nat}
theorem QrU {g:α->LV}{x:O3}{e bys:Nat}[Sl P t e sz bys z](G:QT ops i0=⟨d,.indexAddr t x y,ty,pS,af,gd⟩)(S:∀x,(g x).length=sz){es:List α}{v:O2}{I:O1}{k:IntKind}
  (h:∀w',C w'->Zt L ↑w' v es.length sz (es.flatMap g)) (T:C I) (U:ev f x=v) (V:ev f y=.int k i) (hi:i<es.length)
  (hK:∀a,(∀w',C w'->At L ↑w' a (g es[i]))->XP P ops C K pl (QP f d (.pointer (some a))) w) (Y:Z8 ops f (QT ops i0)=true:=by rfl):
  XP P ops C K ((i0,true)::pl) f w:=by
 obtain⟨a,cap,E,_⟩:=Zt.at (h I T) hi;refine Lg.p (λw'=>by rw[G];exact XS (U.D E) V oa oa) ?_ Y;rw[G];refine hK _ λw' hc=>?_;obtain⟨a',cap',ha,J⟩:=Zt.at (h w' hc) hi;rw[ha]at E;cases E
 rw[Jf g sz S es i hi]at J;simpa using J
end
theorem QqY (b:Bool):b=true\/b=false:=by cases b;exact .inr O;exact .inl O
structure FV where
 v:O2
 f:Fw
abbrev Yk (p:FV):LV:=[p.v,sS p.f.s]
theorem Qa6 (p:FV):(Yk p).length=2:=rfl
structure WdM (wB:O1)(vL:O2)(es:List FV)(w:O1):Prop where
 st:sW wB w
 l:w.ownsRow ↑wB 382 2 vL es.length (es.flatMap Yk)
 each:∀p∈es,Qu (ob vL) ↑w p.v p.f.u
theorem WdM.I {wB w w':O1}{vL:O2}{es:List FV}(h:WdM wB vL es w)(E:sW w w'):WdM wB vL es w':=⟨h.st.D E,Qm h.l E,λp G=>(h.each p G).I E⟩
theorem WdM.add {wB:O1}{vL vL':O2}{es:List FV}{p:FV}(h:WdM wB vL es w)(G:O5 (ob vL) w w')(hl:w'.ownsRow ↑wB 382 2 vL' (es.length+1) (es.flatMap Yk++Yk p))(I:∀b∈ob vL',b∈ob vL\/↑w<=b)(J:Qu (ob vL) ↑w p.v p.f.u):WdM wB vL' (es++[p]) w':=by
 refine⟨h.st.O G (λb hb=>.inr (Qj h.l b hb).1),by rw[Lc,LD];simpa using hl,λq E=>?_⟩;rcases Lh.1 E with E|E
 ·exact(h.each q E).grow G (λb hb=>hb) I
 simp only[oF]at E;subst E;exact J.grow G (λb hb=>hb) I
theorem QjE {es:List FV}(h:i<es.length):(es.map (·.f)).getD i qE=(es[i]'h).f:=by simp[oO,h]
theorem QlQ (E:Q0 a)(s:Int):(QQ a.ed s).length<=32:=by
 have G:(QQ a.ed s).Pairwise λx y:Ed=>x.1<y.1\/(x.1=y.1/\x.2.1<y.2.1):=List.Pairwise.sublist ML E.edi;have hi:YA ((QQ a.ed s).map λe=>e.2.1):=by
  unfold YA;rw[Ma];refine List.Pairwise.imp_of_mem (λ{x y} hx I T=>?_) G;have e1:=(ZH hx).2;have e2:=(ZH I).2;omega
 have:=XH _ 0 32 hi (λv J=>by
  obtain⟨e,S,rfl⟩:=Ly.1 J;exact E.al _ (E.ed e (ZH S).1).2.2.1)
 rw[Ll]at this;omega
def Qhu (a:Qz)(most:Nat)(mk:Bool):Option (List (LI)):=if a.st=0 then some []else(wds a most).map λL=>(L.filter λf=>!mk || decide (f.s∈a.mr)).map (·.u)
def Qq5 (o:Option (List (LI)))(r:O2)(H:xA):Prop:=(o=none/\r=.tuple #[Zs,sS 3])\/∃l v ps,o=some l/\r=.tuple #[v,sS 0]/\JI [] H v ps/\ps.map (·.2)=l
theorem Qg9 (h:Zp [] ↑w va vm ve a)(hck:X4 a=0)(ho:Q0 a)(most:Nat)(j3:most<=4096)(mk:Bool):
  QR sV 249 [.agg #[va,sS a.st,vm,ve],sS most,.bool mk] w λr w'=>sW w w'/\Qq5 (Qhu a most mk) r ↑w':=by
 have j4:=ho.st0;have za:=ho.st1;refine Zm func249 ?_;refine Qc<|Za [va,sS a.st,vm,ve] λb3 w1 g2 z0 g3=>x Qe<|Qb<|Qd<|Qc<|QV g3 O O<|Qv<|(Y5 (h.I g2)).S ?_;rintro r2 w2 ⟨g5,g7⟩;rw[hck]at g5;subst g5;have J:=g2.D g7;refine Qb<|Qk<|ZM O O<|xe<|ZD rfl<|Qf<|Qd<|Qk<|xb (YC O O) (λg8=>OW (show(most:Int)<0 from g8) oa) (λg8=>?_);refine Qa<|Qa<|x (Ya O O)<|QB O<|xe<|Zi rfl (λg9=>OW (show(most:Int) > 4096 from g9) oa) (λg9=>?_);refine Qf ?_;have hN:=g3.I g7;refine Qd<|Qc<|Qq O hN O O<|x (Zd O O)<|xe<|Zi rfl (λhO=>?_) (λhO=>?_)
 ·refine Qc<|x Qe<|Qb<|Qh ⟨[Zs,sS 0],ov,J,.inr ⟨[],Zs,[],by unfold Qhu;rw[OU hO],rfl,⟨Zt.nil _ _ _,λp E=>by cases E⟩,rfl⟩⟩
 have ms:0<a.st:=by have z2:¬a.st=0:=hO;omega
 have hW:Qhu a most mk=(wds a most).map λL=>(L.filter λf=>!mk || decide (f.s∈a.mr)).map (·.u):=by unfold Qhu;rw[OT oa]
 refine Zg (wds a most) λR hR=>?_;rw[hR]at hW;refine Qf<|Qc<|x (QE Z)<|Qo<|Q9 [Yk ⟨nS,qE⟩] λka w3 mt mu mv=>Qb ?_;have mw:WdM w2 (sL ka 1 1) [⟨nS,qE⟩] w3:=by
  refine⟨mt,mv.own (n:=1) O oa mu,λp E=>?_⟩;simp only[oF]at E;subst E;exact Zt.nil _ _ _
 have my:∀e∈a.ed,0<=e.1/\e.1<=1099511627776:=λe he=>oo (ho.ed e he)
 refine QX (α:=O2×List FV) [(6,7),(9,10),(12,12),(32,77)] (λz=>[(9,z.1)]) (λz w'=>WdM w2 z.1 z.2 w'/\R=some (z.2.map (·.f))/\z.2.length<=1024) oh ?_ ?_
 ·refine Qc<|Qb<|QW (α:=Nat×O2×List FV) [(6,7),(9,10),(12,12),(32,77)] (λz=>[(9,z.2.1),(10,sS z.1)])
   (λz w'=>z.1<=1025/\WdM w2 z.2.1 z.2.2 w'/\WdI a most z.1 (z.2.2.map (·.f))/\wdL a most (1025 - z.1) z.1 (z.2.2.map (·.f))=R) (λz=>1025 - z.1) (0,sL ka 1 1,[⟨nS,qE⟩]) ov
   ⟨Lo _,mw,Qp7 ms most,hR⟩ ?_
  rintro⟨i,vL,es⟩ g4 w4 ⟨mz,hg,h5,G⟩;simp only[]at mz hg h5 G;have hP:=h5.mx;have m0:=h5.le;rw[Ll]at hP m0;have hw:Zt [] ↑w4 vL es.length 2 (es.flatMap Yk):=QO hg.l oa (λb _=>od);refine Qd<|Qk<|Qa<|QG hw O<|ZX O O<|xe<|Zr O (λhQ=>?_) (λhQ=>?_)
  ·refine Qt ?_;have m1:¬i<(es.map (·.f)).length:=by rw[Ll];have m2:¬(i:Int)<(es.length:Int):=hQ;omega
   refine⟨(vL,es),La,hg,?_,hP⟩;rw[<-G];generalize 1025 - i=f;cases f with
   | zero=>rfl
   | succ f=>rw[wdL,OT m1]
  have hi:i<es.length:=by have m2:(i:Int)<(es.length:Int):=hQ;omega
  rw[show 1025 - i=(1025 - (i+1))+1 by omega,wdL,OU (by rw[Ll];exact hi),QjE hi]at G;have kb:=hg.each _ (Le hi);have hS:=h5.rx _ (LG (f:=λq:FV=>q.f) (Le hi));have hU:=λhl hm=>h5.J ho (by rw[Ll];exact hi) hl hm;rw[QjE hi]at hU;refine Zg (es[i]'hi) λei hF=>?_;rw[hF]at G kb hS hU;have kc:=hg.st;refine Qf<|Qd<|Qn<|Qd<|Qk<|Qa<|O8 (g:=Yk) (i:=i) Qa6 hw O O hi λz3 ke=>?_;rw[hF]at ke;refine x (ZI O)<|x (Qr (ke.fld 0 _ O) O)<|QG (kb.up (L':=[]) (λb hb=>by cases hb)) rfl<|Qa<|x (Zd rfl rfl)<|xe<|Zi O (λhV=>?_) (λhV=>?_)
  ·refine Qt ?_;have hG:ei.f.u.length=most:=by have m3:(ei.f.u.length:Int)=(most:Int):=hV;omega
   rw[OU hG]at G;exact⟨(vL,es),La,hg,G.symm,hP⟩
  have hG:ei.f.u.length≠most:=by have m3:¬(ei.f.u.length:Int)=(most:Int):=hV;omega
  rw[OT hG]at G;have hX:=hU hG;refine Qf ?_;have m4:Zp (ob vL) ↑w4 va vm ve a:=((h.I J).up (L':=ob vL) (λb hb=>.inr (Qj hg.l b hb).1)).I kc;have m5:=QlQ ho ei.f.s;have hout:=QaH (va:=va) (vm:=vm) (st:=a.st) (m4.ed.I (O5.X [] w4)) ho.eds my ei.f.s hS.2.1 oa;refine Zg (QQ a.ed ei.f.s) λos kf=>?_;rw[kf]at m5 hout;have m6:wdR a ei.f=os.map (wdN ei.f):=by unfold wdR;rw[kf]
  rw[m6]at G hX;refine Qd<|Qd<|ZL [] [oz 0,oz 1,oz 2,oz 3,oz 4,oz 5,oz 8,oA 6,oz 7]<|pq (λ_ S=>Q7 ((hN.I kc).I S) O O)<|p Qx<|p Qx<|Lg.pig (g:=Yk) (i:=i) O Qa6 hw O O hi λz4 kg=>?_;rw[hF]at kg;refine p (λ_=>ZI O)<|pq (λ_ S=>Qr ((kg.fld 1 _ O).I S) O)<|p Qx<|pk<|xg<|hout.S ?_;rintro ro w5 ⟨m7,kh⟩;have ki:=(O5.X [] w4).D m7;refine⟨ki,?_⟩;refine p (λ_=>YY kh O)<|pe ?_;refine Zg (es.map (·.f)++os.map (wdN ei.f)) λL1 kj=>?_;rw[kj]at G hX;refine QW (α:=Nat×O2×List FV) [(9,9),(12,12),(54,74)] (λz=>[(9,z.2.1),(54,sS z.1)])
   (λz w'=>z.1<=os.length/\WdM w2 z.2.1 z.2.2 w'/\UP (ob z.2.1) ↑w' ro os/\z.2.2.length=es.length+z.1/\(∃h:i<z.2.2.length,z.2.2[i]'h=ei)/\z.2.2.map (·.f)++(os.drop z.1).map (wdN ei.f)=L1) (λz=>os.length - z.1) (0,vL,es) ov
   ⟨Lo _,(hg.I ki),kh,O,⟨hi,hF⟩,kj⟩ ?_
  rintro⟨k,vL2,fs⟩ g6 w6 ⟨hk,hn,hY,m8,kk,hh⟩;simp only[]at hk hn hY m8 kk hh;refine Zk O O (λhZ=>?_) (λhZ=>?_)
  ·refine Qt ?_;have ga:os.length<=k:=by have hH:¬(k:Int)<(os.length:Int):=hZ;omega
   rw[Lr ga,Nj,LF]at hh;have m9:Zt [] ↑w6 vL2 fs.length 2 (fs.flatMap Yk):=QO hn.l oa (λb _=>od);have z5:L1.length=fs.length:=by rw[<-hh,Ll]
   refine Qk<|QG m9 O<|x (Ya O O)<|xe<|Zi O (λgb=>?_) (λgb=>?_)
   ·have hI:1024<L1.length:=by have pc:(fs.length:Int) > 1024:=gb;omega
    rw[OU hI]at G;refine Qc<|x Qe<|Qb<|Qh ⟨[Zs,sS 3],ov,J.D hn.st,.inl ⟨by rw[hW,<-G];rfl,O⟩⟩
   have hI:¬1024<L1.length:=by have pc:¬(fs.length:Int) > 1024:=gb;omega
   rw[OT hI,<-hh]at G;have kn:=hX hI;rw[<-hh]at kn;refine Qf<|Qs<|Qa<|QD O O<|Qb<|⟨(i+1,vL2,fs),oe,ov,oe,hn,kn,G⟩
  have T:k<os.length:=by have hH:(k:Int)<(os.length:Int):=hZ;omega
  rw[QY T,LS]at hh;refine Zg (os[k]'T) λd hd=>?_;rw[hd]at hh;refine Qf<|Exists.elim kk λgc ge=>?_;have ko:=hn.each _ (Le gc);rw[ge]at ko;refine QX (α:=O2×O2) [(9,9),(12,12),(56,73)] (λz=>[(9,z.1)]) (λz w'=>WdM w2 z.1 (fs++[⟨z.2,wdN ei.f d⟩]) w'/\UP (ob z.1) ↑w' ro os) oh ?_ ?_
  ·refine Qn<|Qc<|xie (i:=k) hY O O T λa56 hH=>?_;rw[hd]at hH;refine x (QA hH O O)<|QN [sS 0,sS 0,sS 0] λkq w7 pd pf pg=>Q2 (Qp d) pg ox λI ph kr=>xe ?_;have gg:sW w6 I:=pd.Q ph pf;have h6:=hn.I gg;have kt:=hY.I gg;have pj:=ko.I gg;have ku:=pj.up (L':=[]) (λb hb=>by cases hb);have h0:sW I { I with drawn:=I.drawn+1 }:=O5.X [] I
   have hz0:=h0.size;have kv:=hS.2.2.2.2;have V:∀w',sW I w'->O5 (ob vL2) I w'/\w'.ownsRow ↑w2 382 2 vL2 fs.length (fs.flatMap Yk):=λw' hs=>⟨hs.S od,Qm h6.l hs⟩;have kw:kq∉ob vL2:=λhb=>oo (QU hn.l kq hb)
   refine Qf0 (λw'=>O5 (ob vL2) I w'/\w'.ownsRow ↑w2 382 2 vL2 fs.length (fs.flatMap Yk)) (.f2 [oz 0,oz 1,oz 2,oz 3,oz 4,oz 5,oz 7,oz 8,oz 11,oz 12] 6 9 (.pl [oA 9,oA 10,oz 13,oA 14,oA 15,oz 16]) (.pl [oA 6,oA 10,oz 13,oA 14,oA 15,oz 16])) mixed oh oc (V _ h0) ?_;refine u2<|p Qx<|p Qx<|p Qx<|QrU (g:=Yk) (i:=i) (L:=[]) O Qa6 (λw' S=>QO S.2 oa (λb _=>od)) (V _ h0) rfl rfl gc λa61 kx=>?_;rw[ge]at kx;refine p (λ_=>ZI O)<|pq (λw' S=>Qr ((kx w' S).fld 0 _ O) O)<|p (QH O)<|pq (λ_ S=>Ql (kr.J S.1 kw) O O)<|p (QH O)<|pq (λ_ S=>Ql (kr.J S.1 kw) O O)<|pe ⟨?_,?_⟩
   ·refine ue<|xg<|(ZZ (ku.I h0)).S ?_;rintro vk w9 ⟨h7,hok⟩;have h2:=h0.D h7;have pn:=h7.size;have po:=Qj hok;refine⟨V _ h2,?_⟩;refine uP<|pk<|Q9 [[sS d.2.1]] λbl pp hq pt gh=>?_;have h8:=h2.D hq;have pu:=hq.size;refine⟨V _ h8,?_⟩;refine pk<|Q8 (news:=[sS d.2.1]) (L:=[]) (Qm hok hq) O O O (gh.at od) om oa oa λU gi gj gk pw=>?_;have h9:sW I gi:=h8.O gk (λb hb=>.inr (oo (po b hb).1));have hr:=Qi.snoc (Zf gj (show ↑I<=_ by omega));refine⟨V _ h9,?_⟩;have gl:=(Qi.ints (L:=[]) hr (by simp;omega) od).one;have gm:=(Qi.ints (L:=[]) hr (by simp;omega) od).cells;refine p (λ_=>QE ⟨gm,O,Z⟩)<|pk<|Q9 [Yk ⟨U,wdN ei.f d⟩] λbm gn J pz hA=>?_;have ha:=h9.D J;refine⟨V _ ha,?_⟩;have ht:=h6.I ha;have go:=ht.st.size;refine pk<|QiK (news:=Yk ⟨U,wdN ei.f d⟩) (L:=[]) (m:=1) ht.l O O O (hA.at od) (by intro u hu;simp only[oK,oH,or_false]at hu;rcases hu with rfl|rfl;exact gl;rfl) oa go λvz p0 gq hv hB gr=>⟨⟨(ha.S od).V hv,gr⟩,p ZN<|pe ?_⟩
    have gs:Qu (ob vL2) ↑gn U (wdN ei.f d).u:=Qi.ints (Qm hr J) (by show(ei.f.u++[d.2.1]).length<=_;rw[Lc,Lu];omega) (λb hb=>QU h6.l b hb);exact⟨(vz,U),La,ht.add hv gq hB gs,(kt.I ha).grow hv (λb hb=>hb) hB⟩
   refine ue<|Q9 [[sS d.2.1]] λbl w9 h7 pt gh=>?_;have h2:=h0.D h7;have pn:=h7.size;refine⟨V _ h2,?_⟩;refine uP<|pk<|xg<|(ZZ (ku.I h2)).S ?_;rintro vk pp ⟨hq,hok⟩;have h8:=h2.D hq;have pu:=hq.size;refine⟨V _ h8,?_⟩;refine pk<|Q8 (news:=[sS d.2.1]) (L:=[]) hok O O O ((gh.I hq).at od) om oa oa λU gi gj gk pw=>?_;have h9:sW I gi:=h8.O gk (λb hb=>.inr (oo ((Qj hok) b hb).1));have hr:=Qi.snoc (Zf gj (show ↑I<=_ by omega));refine⟨V _ h9,?_⟩;have gl:=(Qi.ints (L:=[]) hr (by simp;omega) od).one;have gm:=(Qi.ints (L:=[]) hr (by simp;omega) od).cells;refine p (λ_=>QE ⟨gm,O,Z⟩)<|pk<|Q9 [Yk ⟨U,wdN ei.f d⟩] λbm gn J pz hA=>?_;have ha:=h9.D J;refine⟨V _ ha,?_⟩;have ht:=h6.I ha;have go:=ht.st.size;refine pk<|QiK (news:=Yk ⟨U,wdN ei.f d⟩) (L:=[]) (m:=1) ht.l O O O (hA.at od) (by intro u hu;simp only[oK,oH,or_false]at hu;rcases hu with rfl|rfl;exact gl;rfl) oa go λvz p0 gq hv hB gr=>⟨⟨(ha.S od).V hv,gr⟩,p ZN<|pe ?_⟩
   have gs:Qu (ob vL2) ↑gn U (wdN ei.f d).u:=Qi.ints (Qm hr J) (by show(ei.f.u++[d.2.1]).length<=_;rw[Lc,Lu];omega) (λb hb=>QU h6.l b hb);exact⟨(vz,U),La,ht.add hv gq hB gs,(kt.I ha).grow hv (λb hb=>hb) hB⟩
  rintro⟨vz,U⟩ g14 w14 ⟨kz,k0⟩;simp only[]at kz k0;refine Qs<|QD O O<|Qa<|xe ?_;exact⟨(k+1,vz,fs++[⟨U,wdN ei.f d⟩]),oe,ov,T,kz,k0,by simp;omega,⟨by simp;omega,by simp only[];rw[Mt gc];exact ge⟩,by simp only[];rw[Lv,LA];exact hh⟩
 rintro⟨vL,es⟩ g20 hC ⟨h3,k4,p4⟩;simp only[]at h3 k4 p4;rw[k4]at hW;have p5:=J.D h3.st;have hw:Zt [] ↑hC vL es.length 2 (es.flatMap Yk):=QO h3.l oa (λb _=>od);refine Qc<|Qb<|Qd<|Qk<|QG hw O<|Qa<|xe<|QW (α:=Nat×O2×List TV) [(13,13),(15,15),(80,100)] (λz=>[(13,z.2.1),(80,sS z.1)])
  (λz w'=>z.1<=es.length/\sW hC w'/\q6 47 ↑hC w' z.2.1 z.2.2/\z.2.2.map (·.2)=((es.take z.1).filter λp=>!mk || decide (p.f.s∈a.mr)).map (λp=>p.f.u)/\∀p∈z.2.2,Qu (ob z.2.1) ↑w' p.1 p.2) (λz=>es.length - z.1) (0,nS,[]) ov
  ⟨Lo _,O5.Y _ _,QM _ _ _ _,O,λp E=>by cases E⟩ ?_
 rintro⟨k,vT,ps⟩ g21 k5 ⟨hk,hf,hT,hD,hJ⟩;simp only[]at hk hf hT hD hJ;have hpl:ps.length<=k:=by
  have h1:=OV oU hD;rw[Ll,Ll]at h1;rw[h1];refine Lx (LJ _ _) ?_;rw[LC];omega
 refine Zk rfl O (λgt=>?_) (λgt=>?_)
 ·refine Qt ?_;have ga:es.length<=k:=by have hK:¬(k:Int)<(es.length:Int):=gt;omega
  refine Qk<|x Qe<|Qb<|Qh ⟨[vT,sS 0],ov,p5.D hf,.inr ⟨_,vT,ps,hW,O,⟨QO hT oa (λb _=>od),λp E=>(hJ p E).up (λb hb=>by cases hb)⟩,?_⟩⟩;rw[hD,Lq ga];show _=((es.map (λp:FV=>p.f)).filter λf=>!mk || decide (f.s∈a.mr)).map (λx:Fw=>x.u);rw[List.filter_map,Mw];rfl
 have T:k<es.length:=by have hK:(k:Int)<(es.length:Int):=gt;omega
 have k6:=h3.each _ (Le T);refine Zg (es[k]'T) λek gu=>?_;rw[gu]at k6;have k9:Qu (ob vT) ↑k5 ek.v ek.f.u:=((k6.up (L':=[]) (λb hb=>by cases hb)).up (λb hb=>.inr (Qj hT b hb).1)).I hf;refine Qf<|Qd<|Qn<|Qc<|O8 (g:=Yk) (i:=k) Qa6 (hw.I hf) O O T λa82 hK=>?_;rw[gu]at hK;refine x (QA hK O O)<|QN [nS,sS 0] λb15 w22 p6 p7 p8=>Q2 (Yk ek) p8 ⟨k9.one,O,Z⟩ λhj p9 ma=>xe ?_;have Y:sW k5 hj:=p6.Q p9 p7;have hA:=((hN.I h3.st).I hf).I Y;have qa:Qu [] ↑hj vm a.mr:=(((h.I J).mr.I h3.st).I hf).I Y;have hE:(es.take (k+1)).filter (λp=>!mk || decide (p.f.s∈a.mr))=(es.take k).filter (λp=>!mk || decide (p.f.s∈a.mr))++(if(!mk || decide (ek.f.s∈a.mr))=true then[ek]else[]):=by
  rw[Lj T,LT,gu,L5,MJ]
 refine QX (α:=Bool) [(84,92)] (λz=>[(92,.bool z)]) (λz w'=>w'=hj/\z=(!mk || decide (ek.f.s∈a.mr))) oh ?_ ?_
 ·refine Or.elim (QqY mk) (λgv=>?_) (λgv=>?_)
  ·subst gv;refine Qs<|Qa<|x (Zl O)<|Qa<|Qq O hA O O<|Qq O ma O O<|Qv<|(ZK qa ek.f.s).S ?_;rintro r91 hj ⟨rfl,rfl⟩;refine QB O<|xe ?_;exact⟨_,La,O,O⟩
  subst gv;refine Qs<|Qa<|x (Zl O)<|Qa<|Zq<|Yf<|QB O<|xe ?_;exact⟨true,La,O,O⟩
 rintro z g23 hj ⟨rfl,hz⟩;rw[<-hz]at hE;refine Q6 rfl (λgx=>?_) (λgx=>?_)
 rotate_left
 ·rw[OT (by rw[gx];decide),LF]at hE;refine Qf<|Qs<|QD O O<|Qa<|xe ?_;exact⟨(k+1,vT,ps),oe,ov,T,hf.D Y,Qm hT Y,by simp only[];rw[hE];exact hD,λp E=>(hJ p E).I Y⟩
 rw[OU gx]at hE;have mc:=k9.I Y;have mf:=Qm hT Y;have kv:=mc.le;refine Qs<|Qa<|Qo<|QdP λb94 w24 hL mg qe=>Zc O<|x (Ql (ma.I hL) O O) <|
  Qo<|QaL (base:=↑hj) (qe.own (n:=0) (sz:=1) O oa mg) O (mc.I hL) O (Uj ek.f.u) oa (oo hL.size) λh4 gy qf qj hn25=>?_
 have ql:sW hj gy:=hL.Q qj mg;have qm:Qi 3 ↑hj gy h4 ek.f.u:=by simpa[tup]using qf
 have gz:Qu (ob vT) ↑gy h4 ek.f.u:=Qi.ints qm kv (λb hb=>QU mf b hb);refine Qo<|Yi (us:=[[h4]]) O O og od ⟨gz.cells,rfl,Z⟩ λb98 w26 mh hb98 q0=>?_;have hM:=ql.D mh;have q4:=Qm mf hM;refine Qo<|Q8 (news:=[h4]) (L:=[]) q4 O O O (q0.at od) (λy hy=>by simp only[oF]at hy;subst hy;exact gz.one) oa (ot hf.size Y.size hM.size) λmj mo q5 g0 mq=>Qb ?_;have j1:sW hC mo:=((hf.D Y).D hM).O g0 (λb hb=>.inr (Qj hT b hb).1);have j2:q6 47 ↑hC mo mj (ps++[(h4,ek.f.u)]):=q6.snoc q5;refine Qs<|QD O O<|Qa<|xe<|⟨(k+1,mj,ps++[(h4,ek.f.u)]),oe,ov,T,j1,j2,?_,λp E=>?_⟩
 ·simp only[];rw[Lv,hD,hE,Lv];rfl
 rcases Lh.1 E with E|E
 ·exact(((hJ p E).I Y).I hM).grow g0 (λb hb=>hb) mq
 simp only[oF]at E;subst E;exact(gz.I mh).grow g0 (λb hb=>hb) mq
theorem Ub {v:O2}{l':LI}(h:Qu L ↑w v l)(E:Qu L' ↑w v' l'):QR sV 252 [v,v'] w λr w'=>r=.bool (decide (l=l'))/\sW w w':=by
 have hj:=h.le;refine Zm func252 ?_;refine Qc<|Qb<|Qd<|Qk<|QG h O<|Qa<|QG E O<|ZM O O<|xe<|Zi rfl (λY=>?_) (λY=>?_)
 ·refine Qc<|Qb<|Qh ⟨[.bool false],La,?_,O5.Y _ _⟩;have I:l≠l':=λe=>Y (by rw[e]);simp[tup,I]
 refine Qf<|Qd<|Qc<|Qb<|QW (α:=Nat) [(4,5),(11,25)] (λk=>[(5,sS k)]) (λk w'=>sW w w'/\k<=l.length/\(l=l'↔l.drop k=l'.drop k)) (λk=>l.length - k) 0 La ⟨O5.Y _ _,Lo _,od⟩ ?_;rintro k g w1 ⟨G,hk,J⟩
 replace h:=h.I G
 replace E:=E.I G;refine Qd<|Qk<|Qa<|QG h O<|ZX O O<|xe<|Zr rfl (λhf=>?_) (λhf=>?_)
 ·refine Qt<|Qc<|Qb<|Qh ⟨[.bool true],La,?_,G⟩;rw[Lr oa,Lr oa]at J;simp[tup,J]
 have S:k<l.length:=oa
 have T:k<l'.length:=oa
 refine Qf<|Qd<|Qn<|Qd<|ZL [] (Xg 0 9 [])<|p Qx<|p Qx<|pii (i:=k) O h O O S λhn hg=>pq (λ_ U=>Qr (hg.I U) O)<|p Qx<|p Qx<|pii (i:=k) O E O O T λho hh=>pq (λ_ U=>Qr (hh.I U) O)<|p (λ_=>JN O O)<|pe ?_;have ha:=G.D (O5.X [] w1);refine Zi rfl (λV=>?_) (λV=>?_)
 ·refine Qc<|Qb<|Qh ⟨[.bool false],La,?_,ha⟩;have I:l≠l':=λe=>V (by simp[e]);simp[tup,I]
 refine Qf<|Qs<|Qa<|QD O O<|Qb<|⟨k+1,oa,La,ha,oa,?_⟩;have he:l[k]'S=l'[k]'T:=Ls.1 V;rw[J,QY S,QY T,he];exact⟨λh=>(List.cons.inj h).2,λh=>by rw[h]⟩
theorem QkL {ua um ue:O2}(h:Zp L ↑w va vm ve a)(h':Zp L' ↑w ua um ue a):QR sV 251 [.agg #[va,sS a.st,vm,ve],.agg #[ua,sS a.st,um,ue]] w λr w'=>r=.bool true/\sW w w':=by
 have hu:=h.ed.le;refine Zm func251 ?_;refine Qc<|Za [va,sS a.st,vm,ve] λb2 w1 hp hv hq=>Za [ua,sS a.st,um,ue] λb3 w2 hf hw J=>Qb ?_;have U:=hp.D hf;have S:=hq.I hf;have V:=h.I U;have Y:=h'.I U;refine Qd<|QX (α:=Unit) [(6,35)] (λ_=>[(35,.bool false)]) (λ_ w'=>sW w2 w') oh ?_ ?_
 ·refine Qs<|Qq O S O O<|Qq O J O O<|Qv<|(Ub V.al Y.al).S ?_;rintro r3 w3 ⟨hg,E⟩;rw[OX rfl]at hg;subst hg;refine x (Zl O)<|Qa<|Qq O (S.I E) O O<|Qq O (J.I E) O O<|xb (JN O O) (λhh=>OW O hh) (λhh=>?_);refine QB O<|Qa<|Qq O (S.I E) O O<|Qq O (J.I E) O O<|Qv<|(Ub (V.mr.I E) (Y.mr.I E)).S ?_;rintro r4 w4 ⟨hj,G⟩;rw[OX rfl]at hj;subst hj;have T:=E.D G;refine x (Zl O)<|QB O<|Qa<|Qq O (S.I T) O O<|QG (V.ed.I T) O<|Qq O (J.I T) O O<|QG (Y.ed.I T) O<|xb (JN O O) (λhm=>OW O hm) (λhm=>?_);refine QB O<|xe ?_;exact⟨(),La,T⟩
 rintro⟨⟩ g w3 E;have ha:=U.D E;refine ZD rfl<|Qf<|Qd<|Qc<|Qb<|QW (α:=Nat) [(4,5),(36,53)] (λk=>[(5,sS k)]) (λk w'=>sW w3 w'/\k<=a.ed.length) (λk=>a.ed.length - k) 0 La ⟨O5.Y _ _,Lo _⟩ ?_;rintro k g w4 ⟨G,hk⟩;have h4:=(h.I ha).ed.I G;have hn:=(S.I E).I G;refine Qd<|Qk<|Qq O hn O O<|QG h4 O<|ZX O O<|xe<|Zr rfl (λhr=>?_) (λhr=>?_)
 ·refine Qt<|Qc<|Qb<|Qh ⟨[.bool true],La,O,ha.D G⟩
 have he:k<a.ed.length:=oa
 refine Qf<|Qd<|Qn<|Qd<|ZL [] (Xg 0 11 [])<|p (QH O)<|pq (λ_ I=>Ql (hn.I I) O O)<|p Qx<|pie (i:=k) O h4 O O he λhy hs=>pq (λ_ I=>QA (hs.I I) O O)<|p (QH O)<|pq (λ_ I=>Ql (((J.I E).I G).I I) O O)<|p Qx <|
  pie (i:=k) O ((h'.I ha).ed.I G) O O he λhz ht=>pq (λ_ I=>QA (ht.I I) O O)<|p (λ_=>Uf O O)<|pe ?_
 refine Zi rfl (λho=>OW O ho) (λho=>?_);refine Qf<|Qs<|Qa<|QD O O<|Qb<|⟨k+1,oa,La,G.D (O5.X _ _),he⟩
theorem Qaz [h:S3 P t]{x:O3}{p q:Ed}(hx:ev f x=sT (Qp p))(G:ev f y=sT (Qp q)):
  (execOp (ev f) ⟨d,.binOp .eql t x y E,ty,pS,af,gd⟩).run P w=.ok (.value (.bool (decide (p=q)))) w:=by
 have I:(eqGuard .eql t x y (sT (Qp p)) (sT (Qp q))).run P w=.ok () w:=by simp[eqGuard,h.g]
 simp only[execOp,hx,G,Sem.run_bind,I,Result.andThen_ok,binOp,Qaw,Sem.run_pure]
def ex3:Qz:=⟨[0,2],3,[2],[(0,0,2),(0,2,0),(2,2,0)]⟩
def cn3:Qz:=⟨[0,2],2,[1],[(0,0,1),(0,2,0),(1,2,0)]⟩
def se3:List Ed:=[(0,1,0),(0,3,1),(1,1,0)]
theorem QjV:X4 ex3=0:=oc
theorem QmP:Xw ex3=cn3:=oc
theorem Qbh:X4 cn3=0:=oc
theorem Qm6:Qlx cn3 0 [0,0]=0:=oc
theorem Qm7:flw cn3 0 [0,0]=(1,1):=oc
theorem Qm5:Qhu cn3 2 true=some [[0],[2,0]]:=oc
theorem Qoh:X4 ⟨[1,3],2,[1],se3⟩=0:=oc
theorem Qog:(Xw ⟨[1,3],2,[1],se3⟩).ed=se3:=oc
theorem Qpo:rlE cn3 [3,1]=[(0,3,1),(0,1,0),(1,1,0)]:=oc
theorem QrG:([3,1]:LI).mergeSort (λx y=>decide (x<=y))=[1,3]:=by
 refine List.Perm.eq_of_pairwise (le:=λx y:Int=>x<=y) (λa b _ _ E G=>oa) ?_ og ((Nc _ _).D (List.Perm.swap _ _ _));refine(List.pairwise_mergeSort (le:=λx y:Int=>decide (x<=y)) (λa b c E G=>by simp at *;omega) (λa b=>by simp;omega) [3,1]).imp λh=>ou h
theorem Qod (l':List Ed)(E:l'.Perm (rlE cn3 [3,1]))(S:l'.Pairwise QcG):l'=se3:=by
 rw[Qpo]at E;refine List.Perm.eq_of_pairwise (le:=QcG) (λa b T hb G I=>?_) S (by unfold se3 QcG;decide) (E.D (List.Perm.swap _ _ _));have J:=E.mem_iff.1 T;simp only[oK,oH,or_false]at J;simp only[se3,oK,oH,or_false]at hb;unfold QcG at G I;rcases J with rfl|rfl|rfl <;> rcases hb with rfl|rfl|rfl <;> first|rfl|(exfalso;simp only[]at G I;omega)
theorem Qcy (w:O1):QR sV 247 [] w λr w'=>sW w w'/\YT ↑w ↑w' r ex3:=by
 refine Zm func247 ?_;refine Qc<|QN qU λb0 w1 T hc U=>xe ?_;refine Qc<|Qo<|Q9 [[sS 0],[sS 2]] λE w2 V hj he=>Qo<|Q9 [[sS 2]] λG w3 I hk hf =>
  x (QE ⟨rfl,O,O,Z⟩)<|x (QE ⟨O,O,O,Z⟩)<|x (QE ⟨O,O,O,Z⟩)<|Qo<|Yi (us:=[Qp (0,0,2),Qp (0,2,0),Qp (2,2,0)]) O O og (by exact(by decide:3*3<=1000000)) ⟨O,O,O,O,O,O,Z⟩ λJ w4 S hm hg=>?_
 have Y:=(V.D I).D S;have hn:=V.size;have ho:=I.size;have hF:YT ↑w1 ↑w4 (.agg #[sL E 2 2,sS 3,sL G 1 1,sL J 3 3]) ex3 :=
  Qak (a:=ex3) ((he.I I).I S) (hf.I S) hg oa oa oa O O O og og og
 refine x (QE ⟨O,O,O,O,Z⟩)<|Q2 [sL E 2 2,sS 3,sL G 1 1,sL J 3 3] (U.I Y) oy λw5 ha hh=>xe ?_;refine Qh ⟨[.agg #[sL E 2 2,sS 3,sL G 1 1,sL J 3 3]],⟨Jl hh,Z⟩,(T.D Y).Q ha hc,?_⟩;exact(Y8 hF U.lt ha).S T.size
theorem QgE (w:O1):QR sV 185 [] w λr w'=>r=.bool true/\sW w w':=by
 refine Zm func185 ?_;refine Qc<|Qb<|Qc<|Qv<|(Qcy w).S ?_;rintro r1 w1 ⟨hF,va,vm,ve,rfl,hG⟩;refine Qv<|(Qbs (hG [] od)).S ?_;rintro r2 w2 ⟨hH,v2,rfl,_,hI⟩;have hf:=hI QjV;rw[QmP]at hf;obtain⟨ca,cm,ce,rfl,hJ⟩:=hf;have hC:=hJ [] od;refine Qa<|QJ O O<|QJ O O<|QN qU λb1 w3 hK hM hN=>Q2 [ca,sS 2,cm,ce] hN ⟨hC.al.one,O,hC.mr.one,hC.ed.one,Z⟩ λw4 hO J=>Qb ?_;have hg:sW w2 w4:=hK.Q hO hM;have S:=hC.I hg;refine Qc<|QV J O O<|Qo<|Q9 [[sS 0],[sS 0]] λg3 w5 hh g4 hP=>Qv<|(QpI (u:=[0,0]) (S.I hh) (hP.arr (L:=[]) od (n:=2) (cap:=2) (sz:=1) rfl oa (Lp _)) 0).S ?_;rintro r6 w6 ⟨hQ,hj⟩;rw[OT (by rw[Qm6];decide),Qm7]at hj;subst hj;refine Qa<|QJ O O<|QJ O O<|QJ O O<|x Qe<|x Qe<|Qb ?_;have U:=hh.D hQ;refine Qc<|QV (J.I U) O O<|Qv<|(Qg9 (S.I U) Qbh ((ZC _).1 Qbh) 2 og true).S ?_;rintro r7 w7 ⟨hS,hk⟩;rw[Qm5]at hk;have hT:∃I G p1,r7=.tuple #[I,sS 0]/\JI [] ↑w7 I [G,p1]/\G.2=[0]/\p1.2=[2,0]:=by
  rcases hk with⟨h,_⟩|⟨l,I,ps,hl,h2,V,E⟩
  ·cases h
  cases hl
  match ps,V,E with
  | [G,p1],V,E =>
   simp only[oS,OC,List.cons.injEq,and_true]at E;exact⟨I,G,p1,h2,V,E.1,E.2⟩
  | [],_,E=>simp at E
  | [_],_,E=>simp at E
  | _::_::_::_,_,E=>simp at E
 obtain⟨I,G,p1,rfl,hU,hV,hW⟩:=hT;refine Qa<|QJ O O<|QJ O O<|x Qe<|Qb ?_;have Y:=U.D hS;refine Qc<|QV (J.I Y) O O<|Qo<|Q9 [[sS 3],[sS 1]] λg5 w8 hm g6 hX =>
  Qv<|(Qew (to:=[3,1]) ((S.I Y).I hm) Qbh ((ZC _).1 Qbh) (hX.arr (L:=[]) od (n:=2) (cap:=2) (sz:=1) rfl oa (Lp _)) rfl og og QrG Qod ((ZC _).1 Qoh)).S ?_
 rintro r9 w9 ⟨hY,v9,rfl,hZ⟩;obtain⟨ra,rm,re,rfl,ga⟩:=hZ;have hR:=ga [] od;have gb:UP [] ↑w9 re se3:=by
  have h:=hR.ed;rw[show(Xw ⟨[1,3],cn3.st,cn3.mr,se3⟩).ed=se3 from Qog]at h;exact h
 refine Qa<|QJ O O<|QJ O O<|QN qU λb8 g7 gc ge gg=>Qo<|Zj (us:=[ra,sS (Xw ⟨[1,3],cn3.st,cn3.mr,se3⟩).st,rm,re]) gg O O O O ⟨hR.al.one,O,hR.mr.one,hR.ed.one,Z⟩ λhn gh gi=>Qb ?_;have ho:sW w9 hn:=gc.Q gh ge;have hp:=(hm.D hY).D ho;have ha:=Y.D hp;refine QX (α:=Unit) [(0,0),(33,98)] (λz=>[(0,.bool true)]) (λz w'=>sW hn w') oh ?_ ?_
 ·refine Qs<|Qa<|xb (Zd O O) (λhq=>?_) (λhq=>OW QjV hq);refine Qa<|QV (J.I ha) O O<|Qo<|Q9 [[sS 0],[sS 2]] λgj g8 gk g9 gl=>Qo<|Q9 [[sS 1]] λgm ka hr kb gn =>
   x (QE ⟨O,O,O,Z⟩)<|x (QE ⟨O,O,O,Z⟩)<|x (QE ⟨O,O,O,Z⟩)<|Qo<|Yi (us:=[Qp (0,0,1),Qp (0,2,0),Qp (1,2,0)]) O O og (by exact(by decide:3*3<=1000000)) ⟨O,O,O,O,O,O,Z⟩ λgo gq hc kc gr=>?_
  have hs:=(gk.D hr).D hc;have hL:Zp [] ↑gq (sL gj 2 2) (sL gm 1 1) (sL go 3 3) cn3 :=
   ⟨((gl.I hr).I hc).arr (L:=[]) od (n:=2) (cap:=2) (sz:=1) rfl oa (OE _),(gn.I hc).arr (L:=[]) od (n:=1) (cap:=1) (sz:=1) rfl oa (OE _),gr.arr (L:=[]) od (n:=3) (cap:=3) (sz:=3) rfl oa (Lp _)⟩
  refine x (QE ⟨O,O,O,O,Z⟩)<|Qv<|(QkL (a:=cn3) ((S.I ha).I hs) hL).S ?_;rintro ke kf ⟨rfl,gs⟩;have ht:=hs.D gs;have T:=(hU.I hp).I ht;refine QB O<|Qa<|Qa<|xb (Zd O O) (λhu=>?_) (λhu=>OW O hu);refine QB O<|Qa<|Qa<|xb (Zd O O) (λhv=>?_) (λhv=>OW O hv);refine QB O<|Qa<|Qa<|xb (Zd O O) (λhw=>?_) (λhw=>OW O hw);refine QB O<|Qa<|Qa<|xb (Zd O O) (λhy=>?_) (λhy=>OW O hy);refine QB O<|Qa<|Qa<|QG T.arr O<|xb (Zd O O) (λhz=>?_) (λhz=>OW O hz);refine QB O<|Qa<|Qa<|O8 (g:=YI) (i:=0) Kv T.arr O O od λkg gt=>x (Qr gt rfl)<|Qo<|Q9 [[sS 0]] λkh ki h0 kj gu =>
   Qv<|(Ub (l:=G.2) (l':=[0]) ((T.each G od).I h0) (gu.arr (L:=[]) od (n:=1) (cap:=1) (sz:=1) rfl oa (Lp _))).S ?_
  rintro kk kn ⟨h1,gv⟩;rw[hV,OX rfl]at h1;subst h1;have h5:=h0.D gv;have h6:=T.I h5;refine QB O<|Qa<|Qa<|O8 (g:=YI) (i:=1) Kv h6.arr O O od λko gx=>x (Qr gx rfl)<|Qo<|Q9 [[sS 2],[sS 0]] λkq kr h7 kt gy =>
   Qv<|(Ub (l:=p1.2) (l':=[2,0]) ((h6.each p1 od).I h7) (gy.arr (L:=[]) od (n:=2) (cap:=2) (sz:=1) rfl oa (Lp _))).S ?_
  rintro ku kv ⟨h8,gz⟩;rw[hW,OX rfl]at h8;subst h8;have he:=(ht.D h5).D (h7.D gz);have h9:=gi.I he;have hA:=(gb.I ho).I he;refine QB O<|Qa<|Qa<|xb (Zd O O) (λhB=>?_) (λhB=>OW O hB);refine QB O<|Qa<|Qq O h9 O O<|QG hA O<|xb (Zd O O) (λhD=>?_) (λhD=>OW O hD);refine QB O<|Qa<|Qq O h9 O O<|xie (i:=1) hA O O og λkw g0=>x (QA g0 O O)<|x (QE ⟨O,O,O,Z⟩)<|xb (Qaz (p:=(0,3,1)) (q:=(0,3,1)) O O) (λhE=>?_) (λhE=>OW O hE);refine QB O<|Qb<|⟨(),La,he⟩
 rintro z g kx g2;exact Qh ⟨[.bool true],La,O,(((hF.D hH).D hg).D ha).D g2⟩
theorem Qhf (w:O1):QR sV 116 [] w λr w'=>r=.bool true/\sW w w':=by
 refine Zm func116 ?_;refine Qc<|Qb<|Qc<|Qv<|(QgE w).S ?_;rintro G I ⟨rfl,E⟩;refine Qb<|Qh ⟨[.bool true],La,O,E⟩
theorem CL.cel_rq {k:Z2}(h:c.C=k)(v:O2)(qs:List IV):(CL.mk c.ve c.vc v c.vx c.vk c.ev c.co qs c.ex c.cs).C={ k with rq:=qs.map IV.it }:=by rw[<-h];rfl
theorem CL.cel_ex {k:Z2}(h:c.C=k)(v:O2)(qs:List XV):(CL.mk c.ve c.vc c.vr v c.vk c.ev c.co c.rq qs c.cs).C={ k with ex:=qs.map XV.x }:=by rw[<-h];rfl
theorem CL.cel_cs {k:Z2}(h:c.C=k)(v:O2)(qs:List KV):(CL.mk c.ve c.vc c.vr c.vx v c.ev c.co c.rq c.ex qs).C={ k with cs:=qs.map KV.k }:=by rw[<-h];rfl
theorem Qdz {k:Z2}(h:ZP [] ↑w c)(V:c.C=k)(S:YN k=0)(Y:Kb w 4096):
  QR sV 31 [c.val] w λr w'=>sW w w'/\∃va vm ve G I J E,r=.tuple #[.agg #[va,sS (spc k).a.st,vm,ve,G,I,J,E],sS 0]/\Zv [va,sS (spc k).a.st,vm,ve,G,I,J,E]/\Zt [] ↑w' E (spc k).fb.length 4 ((spc k).fb.flatMap Z4):=by
 refine(yN h Y).S ?_;rintro r w' ⟨hs,v,rfl,⟨us,hv,_,T⟩,U⟩;rw[V]at U ⊢;obtain⟨va,vm,ve,G,I,J,E,cos,rqs,rfl,_,_,hA⟩:=U S;have ha:us=[va,sS (spc k).a.st,vm,ve,G,I,J,E]:=by
  simpa using(OV (λv=>match v with|Value.agg cs=>cs.toList|_=>[]) hv).symm
 rw[ha]at T;exact⟨hs,va,vm,ve,G,I,J,E,by rw[S],T,(hA [] od).2.2.2.2⟩
theorem Qpp {k:Z2}(h:ZP [] ↑w c)(E:c.C=k)(G:YN k=0)(I:(spc k).a.st<4096)(J:QfN k=true)(S:Kb w 4096):
  QR sV 183 [c.val] w λr w'=>sW w w'/\∃xa xm xe vb,r=.tuple #[.agg #[xa,sS ((spc k).a.st+1),xm,xe],vb,sS 0]/\Zv [xa,xm,xe]/\Qi 3 ↑w w' vb (cmB k):=by
 subst E;exact Qde h S G I J
abbrev Qoy:LV:=[nS,sS 0,nS,nS,nS,nS,nS,nS]
theorem Qq3 {P:Prop}{a b:Int}(e:a=b)(h:¬a=b):P:=OW e h
theorem QdW (hg:Kb w 4096):QR sV 115 [] w λr w'=>r=.bool true/\sW w w':=by
 refine Zm func115 ?_;refine Qc<|Qb<|Qc<|Qv<|(JV 1 og w).S ?_;rintro r1 w1 ⟨hI,T,rfl,g3,g4⟩;refine Qv<|(JV 2 og w1).S ?_;rintro r2 w2 ⟨h2,U,rfl,g5,g6⟩;refine Qv<|(JV 2 og w2).S ?_;rintro r3 w3 ⟨hh,c3,rfl,g7,g8⟩;have hJ:=((g4 [] od).I h2).I hh;have hK:=(g6 [] od).I hh;have hL:=g8 [] od;refine QN X3 λE w4 g9 p8 hM=>QN X3 λG w5 hN p9 hO=>QN X3 λI w6 h3 qa V=>?_;have qe:=hM.lt;have qf:=hO.lt;have qj:=V.lt;refine Q2 T.cells ((hM.I hN).I h3) hJ.ones λw7 hj ka=>Q2 U.cells ((hO.I h3).J hj ol) hK.ones λw8 hk kb =>
  Q2 c3.cells ((V.J hj ol).J hk ol) hL.ones λw9 hn kc=>xe ?_
 have ho:sW w3 w9:=((((g9.D hN).D h3).Q hj oa).Q hk oa).Q hn oa;have V:∀b∈[E,G,I],↑w3<=b/\b<w6.heap.size:=λb hb=>by
  simp only[oK,oH,or_false]at hb;rcases hb with rfl|rfl|rfl <;> omega
 have m1:∀b∈[E],b∈[E,G,I]:=od
 have m2:∀b∈[G],b∈[E,G,I]:=od
 have m3:∀b∈[I],b∈[E,G,I]:=od
 have ql:w6.heap.size<=w9.heap.size:=by have:=hj.size;have:=hk.size;have:=hn.size;omega
 have nB:∀b,↑w9<=b->b∉[E,G,I]:=λb hb hm=>oo (V b hm).2
 refine Qc<|Qo<|Q9 [[sS 1]] λb16 qm hP q0 ke=>Qo<|Q9 [[sS 0]] λhp q4 h4 q5 kf=>x (QE ⟨O,O,O,Z⟩) <|
  x (Zu [(0,[.string Um]),(1,[sL b16 1 1,sS 1,sL hp 1 1,nS])] ⟨O,O,O,O,Z⟩) <|
  Qo<|Q9 [[.string Um,sL b16 1 1,sS 1,sL hp 1 1,nS]] λh5 kg h6 j1 kh=>?_
 have hr:=(hP.D h4).D h6;refine Zc rfl<|Qo<|Qw (j:=2) (u:=sL h5 1 1) (((ka.J hk ol).J hn ol).I hr) O O od rfl λh7 hs ki=>xe ?_;have j2:=hP.size;have j3:=h4.size;have he:O5 [E,G,I] w9 h7:=hr.any.V (hs.S m1);have kj:ZP [E,G,I] ↑h7 (CL.mk T.ve T.vc (sL h5 1 1) T.vx T.vk T.ev T.co [⟨Um,⟨sL b16 1 1,sL hp 1 1,nS,Qa2.a⟩⟩] T.ex T.cs):=by
  have J:=((hJ.up (L':=[E,G,I]) (λb hb=>.inr (V b hb).1)).I ho).st he;refine⟨J.ev,J.co,Vk.st (w:=kg) ⟨kh.arr (nB _ oa) (n:=1) (cap:=1) (sz:=5) O og (Lp _),λq S=>?_,λq S=>?_⟩ (hs.S m1),J.ex,J.cs⟩
  ·rw[Lb.1 S];exact⟨((ke.I h4).I h6).arr (nB _ oa) (n:=1) (cap:=1) (sz:=1) O og (Lp _),(kf.I h6).arr (nB _ oa) (n:=1) (cap:=1) (sz:=1) O og (Lp _),Zt.nil _ _ 3⟩
  rw[Lb.1 S];exact Jj og
 refine Qc<|x (QE ⟨O,O,Z⟩)<|x (QE ⟨O,O,Z⟩)<|Qo<|Q9 [Q5 (0,1),Q5 (1,1)] λh8 j4 hQ za kk=>x (QE ⟨O,O,Z⟩) <|
  Qo<|Q9 [[.string QaO,sL h8 2 2]] λhA kn hR z0 ko=>?_
 have ht:=hQ.D hR;refine Zc rfl<|Qo<|Qw (j:=3) (u:=sL hA 1 1) (((kb.J hn ol).J (hr.any.V hs) ol).I ht) O O od rfl λhB hu kq=>xe ?_;have z2:=hQ.size;have hf:O5 [E,G,I] h7 hB:=ht.any.V (hu.S m2);have z3:=hf.size;have z4:=he.size;have kr:ZP [E,G,I] ↑hB (CL.mk U.ve U.vc U.vr (sL hA 1 1) U.vk U.ev U.co U.rq [⟨QaO,sL h8 2 2,[(0,1),(1,1)]⟩] U.cs):=by
  have J:=((hK.up (L':=[E,G,I]) (λb hb=>.inr (V b hb).1)).I ho).st (he.V hf);refine⟨J.ev,J.co,J.rq,jg.st (w:=kn) ⟨ko.arr (nB _ oa) (n:=1) (cap:=1) (sz:=2) O og (Lp _),λq S=>?_,λq S=>?_⟩ (hu.S m2),J.cs⟩
  ·rw[Lb.1 S];exact(kk.I hR).arr (nB _ oa) (n:=2) (cap:=2) (sz:=2) O og (Lp _)
  rw[Lb.1 S];exact Jj og
 refine Qc<|x (QE ⟨O,O,Z⟩)<|x (QE ⟨O,O,Z⟩)<|Qo<|Q9 [Q5 (0,1),Q5 (1,1)] λhC z5 hS hb30 kt=>x (QE ⟨O,O,O,Z⟩) <|
  Qo<|Q9 [[.string QaN,sL hC 2 2,sS 1]] λhD ku hT hb32 kv=>?_
 have hv:=hS.D hT;refine Zc rfl<|Qo<|Qw (j:=4) (u:=sL hD 1 1) (((kc.J (hr.any.V hs) ol).J (ht.any.V hu) ol).I hv) O O od rfl λha hw kw=>xe ?_;have hz17:=hS.size;have hy:O5 [E,G,I] hB ha:=hv.any.V (hw.S m3);have kx:ZP [E,G,I] ↑ha (CL.mk c3.ve c3.vc c3.vr c3.vx (sL hD 1 1) c3.ev c3.co c3.rq c3.ex [⟨QaN,sL hC 2 2,[(0,1),(1,1)],1⟩]):=by
  have J:=((hL.up (L':=[E,G,I]) (λb hb=>.inr (V b hb).1)).I ho).st ((he.V hf).V hy);refine⟨J.ev,J.co,J.rq,J.ex,yS.st (w:=ku) ⟨kv.arr (nB _ oa) (n:=1) (cap:=1) (sz:=3) O og (Lp _),λq S=>?_,λq S=>?_⟩ (hw.S m3)⟩
  ·rw[Lb.1 S];exact(kt.I hT).arr (nB _ oa) (n:=2) (cap:=2) (sz:=2) O og (Lp _)
  rw[Lb.1 S];exact Jj og
 have hU:ZP [] ↑ha _:=((kj.st hf).st hy).up (L':=[]) od;have kz:ZP [] ↑ha _:=(kr.st hy).up (L':=[]) od;have k0:ZP [] ↑ha _:=kx.up (L':=[]) od;have hV:=(ki.J (ht.any.V hu) ol).J (hv.any.V hw) ol;have hW:sW w ha:=(((hI.D h2).D hh).D ho).O ((he.V hf).V hy) (λb hb=>.inr (oq (V b hb).1 ((hI.D h2).D hh).size));have hX:=CL.cel_rq g3 (sL h5 1 1) [⟨Um,⟨sL b16 1 1,sL hp 1 1,nS,Qa2.a⟩⟩];refine Qc<|QV hV O O<|Qv<|(Qdz (k:=k1C) hU hX QqH (hg.I hW)).S ?_;rintro r20 k4 ⟨k5,sa,sm,se,s1,s2,s3,s4,rfl,k6,hY⟩;rw[QqG]at hY;refine Qa<|QJ O O<|QJ O O<|QN Qoy λb4 w21 k9 ma mc=>Q2 [sa,sS (spc k1C).a.st,sm,se,s1,s2,s3,s4] mc k6 λmf mg mh=>Qb ?_;have hZ:sW k4 mf:=k9.Q mg ma;have hz:=k5.D hZ;have ga:=hW.D hz;refine Qc<|QV (hV.I hz) O O<|Qv<|(Qpp (k:=k1C) (hU.I hz) hX QqH (by rw[QnK];decide) QoP (hg.I ga)).S ?_;rintro r23 gb ⟨mj,xa,xm,mo,vb,rfl,hE,gc⟩;rw[QoQ]at gc;have mq:Qu [] ↑gb vb [2]:=Qi.ints (L:=[]) gc od od;refine Qa<|QJ O O<|QJ O O<|QJ O O<|QN qU λb6 w24 ms mt mu=>Q2 [xa,sS ((spc k1C).a.st+1),xm,mo] mu ⟨hE.1,O,hE.2.1,hE.2.2.1,Z⟩ λmv mw my=>x Qe<|Qb ?_;have ge:sW gb mv:=ms.Q mw mt;have h0:=mj.D ge;have hF:=hz.D h0;have gg:=ga.D h0;refine Qc<|x (Q7 ((kq.J (hv.any.V hw) ol).I hF) O O)<|Qv<|(Qdz (k:=k2C) (kz.I hF) (CL.cel_ex g5 (sL hA 1 1) [⟨QaO,sL h8 2 2,[(0,1),(1,1)]⟩]) Qr3 (hg.I gg)).S ?_;rintro r26 mz ⟨m0,ta,tm,te,t1,t2,t3,t4,rfl,m4,gh⟩;rw[QqE]at gh;refine Qa<|QJ O O<|QJ O O<|QN Qoy λb9 w27 m5 m6 m7=>Q2 [ta,sS (spc k2C).a.st,tm,te,t1,t2,t3,t4] m7 m4 λm8 m9 pc=>Qb ?_;have gi:sW mz m8:=m5.Q m9 m6;have hc:=m0.D gi;have gj:=hF.D hc;have gk:=gg.D hc;refine Qc<|QV (kw.I gj) O O<|Qv<|(Qdz (k:=k3C) (k0.I gj) (CL.cel_cs g7 (sL hD 1 1) [⟨QaN,sL hC 2 2,[(0,1),(1,1)],1⟩]) Qr2 (hg.I gk)).S ?_;rintro r29 pd ⟨pf,ua,um,ue,u1,u2,u3,u4,rfl,pg,gl⟩;rw[QqB]at gl;refine Qa<|QJ O O<|QJ O O<|QN Qoy λb11 w30 ph pj pn=>Q2 [ua,sS (spc k3C).a.st,um,ue,u1,u2,u3,u4] pn pg λgm po pp=>Qb ?_;have gn:sW pd gm:=ph.Q po pj;have Y:=pf.D gn;have go:=pc.I Y;refine QX (α:=Unit) [(0,0),(55,105)] (λz=>[(0,.bool true)]) (λz w'=>sW gm w') oh ?_ ?_
 ·refine Qs<|Qa<|xb (Zd O O) (λgq=>?_) (λgq=>OW O gq);refine Qa<|Qa<|xb (Zd O O) (λgr=>?_) (λgr=>OW O gr);refine QB O<|Qa<|Qa<|xb (Zd O O) (λgs=>?_) (λgs=>OW O gs);refine QB O<|Qa<|Qa<|xb (Zd O O) (λgt=>?_) (λgt=>OW O gt);refine QB O<|Qa<|Zc O<|x (Ql (((mh.I h0).I hc).I Y) O O)<|x (QE ⟨O,O,O,O,Z⟩)<|Qo<|Q9 [Z4 ⟨1,3,0,1⟩] λb73 w32 gu hb73 pt =>
   Qv<|(qg (l:=[⟨1,3,0,1⟩]) ((((((hY.I hZ).I h0).I hc).I Y)).I gu) (pt.arr (L:=[]) od (n:=1) (cap:=1) (sz:=4) rfl og (Lp _))).S ?_
  rintro r74 w33 ⟨rfl,pu⟩;have hG:=gu.D pu;refine QB O<|Qa<|Zc O<|x (Ql (((my.I hc).I Y).I hG) O O)<|xb (Zd O O) (λgv=>?_) (λgv=>Qq3 (by rw[QnK];rfl) gv);refine QB O<|Qa<|Qa<|Qo<|Q9 [[sS 2]] λb83 w34 gx hb83 pw =>
   Qv<|(qh (l:=[2]) (l':=[2]) (((((mq.I ge).I hc).I Y).I hG).I gx) (pw.arr (L:=[]) od (n:=1) (cap:=1) (sz:=1) rfl oa (Lp _))).S ?_
  rintro r84 w35 ⟨gy,pz⟩;rw[OX rfl]at gy;subst gy;have h1:=hG.D (gx.D pz);refine QB O<|Qa<|Zc O<|Qq O (go.I h1) O O<|xb (Zd O O) (λgz=>?_) (λgz=>Qq3 QqD gz);refine QB O<|Qa<|Qq O (go.I h1) O O<|x (QE ⟨O,O,O,O,Z⟩)<|Qo<|Q9 [Z4 ⟨3,1,0,-1⟩] λb96 w36 g0 hb96 p0 =>
   Qv<|(qg (l:=[⟨3,1,0,-1⟩]) ((((gh.I gi).I Y).I h1).I g0) (p0.arr (L:=[]) od (n:=1) (cap:=1) (sz:=4) rfl og (Lp _))).S ?_
  rintro r97 w37 ⟨rfl,p4⟩;have hH:=h1.D (g0.D p4);refine QB O<|Qa<|Qq O (pp.I hH) O O<|x (QE ⟨O,O,O,O,Z⟩)<|Qo<|Q9 [Z4 ⟨3,2,0,-1⟩] λb103 w38 g2 hb103 p5 =>
   Qv<|(qg (l:=[⟨3,2,0,-1⟩]) (((gl.I gn).I hH).I g2) (p5.arr (L:=[]) od (n:=1) (cap:=1) (sz:=4) rfl og (Lp _))).S ?_
  rintro r104 w39 ⟨rfl,p6⟩;refine QB O<|Qb<|⟨(),La,hH.D (g2.D p6)⟩
 rintro z g w40 p7;exact Qh ⟨[.bool true],La,O,(gk.D Y).D p7⟩
theorem QeF (E:Kb w 4096):QR sV 47 [] w λr w'=>r=.bool true/\sW w w':=by
 refine Zm func47 ?_;refine Qc<|Qb<|QX (α:=Unit) [(0,4)] (λz=>[(0,.bool true)]) (λz w'=>sW w w') oh ?_ ?_
 ·refine Qs<|Qv<|(QdW E).S ?_;rintro T G ⟨rfl,I⟩;refine Qa<|Qv<|(Qhf G).S ?_;rintro r2 U ⟨rfl,J⟩;refine QB O<|Qb<|⟨(),La,I.D J⟩
 rintro z g V S;exact Qh ⟨[.bool true],La,O,S⟩
def Kc:ByteArray:=⟨#[98,117,102,102,101,114]⟩
def Us:X5:=⟨Kc,⟨[1,2],2,[0,1],[(0,1,1),(1,2,0)]⟩⟩
theorem QaS {α:Type}(q:α->Bool)(x:Int):∀(l:List α) (i:Nat),x∈ixs q i l↔∃k,∃h:k<l.length,x=((i+k:Nat):Int)/\q (l[k]'h)=true
 | [],i=>by simp[ixs]
 | y::l,i=>by
  rw[ixs];have ih:=QaS q x l (i+1);constructor
  ·intro h;by_cases J:q y=true
   ·rw[OU J]at h;rcases Ln.1 h with h|h
    ·exact⟨0,od,by rw[h];simp,J⟩
    obtain⟨k,S,E,G⟩:=ih.1 h;exact⟨k+1,by simp;omega,by rw[E];congr 1;omega,G⟩
   rw[OT J]at h;obtain⟨k,S,E,G⟩:=ih.1 h;exact⟨k+1,by simp;omega,by rw[E];congr 1;omega,G⟩
  rintro⟨k,S,E,G⟩;cases k with
  | zero =>
   have I:q y=true:=G;rw[OU I];exact Ln.2 (.inl (by rw[E];simp))
  | succ k =>
   have I:=ih.2 ⟨k,ou S,by rw[E];congr 1;omega,G⟩;split
   ·exact Lk _ I
   exact I
theorem QaZ {α:Type}(q:α->Bool):∀(l:List α) (i:Nat),YA (ixs q i l)
 | [],_=>List.Pairwise.nil
 | y::l,i=>by
  rw[ixs];split
  ·refine L6.2 ⟨λx hx=>?_,QaZ q l (i+1)⟩;obtain⟨k,_,E,_⟩:=(QaS q x l (i+1)).1 hx;omega
  exact QaZ q l (i+1)
theorem yE {c:Z2}(h:Z0 c=0):XK c.ev=0:=by
 unfold Z0 at h;by_cases E:XK c.ev≠0
 ·rw[OU E]at h;exact OW h E
 exact Ls.1 E
theorem yD {l:List KN}(h:XK l=0):l.length<=32:=by
 unfold XK at h;by_cases E:32<l.length
 ·rw[OU E]at h;cases h
 omega
theorem QhJ {l:List KN}(h:XK l=0):Yc (unc l):=by
 refine⟨λx hx=>?_,QaZ _ _ _⟩;obtain⟨k,E,e,_⟩:=(QaS _ _ _ _).1 hx;have:=yD h;omega
theorem Qlj {l:List KN}(h:XK l=0):(unc l).length<=32:=(QhJ h).len
def hck (c:Z2)(hi:LI):Int :=
 if Z0 c≠0 then Z0 c else if 0<c.ex.length+c.cs.length then 13 else if J1 (c.ev.length:Int) none hi≠0 then J1 (c.ev.length:Int) none hi else
 if(c.rq.all λr=>decide (mrg (λp q=>p && !q) r.a.al hi=[]))=true then 0 else 9
theorem QkF {p:α->Bool}{l:List α}{k:Nat}(h:k<l.length):(l.drop k).all p=(p (l[k]'h) && (l.drop (k+1)).all p):=by rw[QY h,ME]
theorem QgM (h:ZP [] ↑w c)(hH:Qu [] ↑w vh hi):
  QR sV 36 [c.val,vh] w λr w'=>r=sS (hck c.C hi)/\sW w w':=by
 have h8:=h.ex.arr.le;have h9:=h.cs.arr.le;have hA:=h.rq.arr.le;have h0:=hH.le;have E:hck c.C hi=if Z0 c.C≠0 then Z0 c.C else if 0<c.ex.length+c.cs.length then 13 else if J1 (c.ev.length:Int) none hi≠0 then J1 (c.ev.length:Int) none hi else
   if(c.rq.all λr=>decide (mrg (λp q=>p && !q) r.p.a.al hi=[]))=true then 0 else 9:=by
  unfold hck;rw[show c.C.ex.length=c.ex.length from Ll ..,show c.C.cs.length=c.cs.length from Ll ..,show c.C.rq=c.rq.map (·.it) from rfl,List.all_map];rfl
 refine Zg (hck c.C hi) λR hR=>?_;rw[hR]at E ⊢;refine Zm func36 ?_;refine Qc<|Za c.cells λb2 w1 hs hB ht=>Qb<|Qd<|Qc<|QV ht O O<|Qv<|(qt (h.I hs)).S ?_;rintro _ w2 ⟨rfl,hu⟩;refine Qb ?_;have G:=hs.D hu;have T:=ht.I hu;refine Qk<|ZM O O<|xe<|Zi rfl (λhc=>?_) (λhc=>?_)
 ·have J:Z0 c.C≠0:=hc;rw[OU J]at E;refine Qk<|Qb<|Qh ⟨[_],La,by rw[E];rfl,G⟩
 have J:¬Z0 c.C≠0:=hc;rw[OT J]at E;refine Qf<|Qd<|Qc<|Qq O T O O<|QG (h.ex.arr.I G) O<|Qq O T O O<|QG (h.cs.arr.I G) O<|QD O O<|x (Ya O O)<|xe<|Zi rfl (λhe=>?_) (λhe=>?_)
 ·have hf:0<c.ex.length+c.cs.length:=by have hg:(c.ex.length:Int)+(c.cs.length:Int) > 0:=he;omega
  rw[OU hf]at E;refine Qc<|Qb<|Qh ⟨[_],La,by rw[E];rfl,G⟩
 have hf:¬0<c.ex.length+c.cs.length:=by have hg:¬(c.ex.length:Int)+(c.cs.length:Int) > 0:=he;omega
 rw[OT hf]at E;refine Qf<|Qd<|Qk<|Qq O T O O<|QG (h.ev.arr.I G) O<|Qv<|(qL (hH.I G) _).S ?_;rintro _ w3 ⟨rfl,rfl⟩;refine Qb<|Qk<|ZM O O<|xe<|Zi rfl (λhh=>?_) (λhh=>?_)
 ·have U:J1 (c.ev.length:Int) none hi≠0:=hh;rw[OU U]at E;refine Qk<|Qb<|Qh ⟨[_],La,by rw[E];rfl,G⟩
 have U:¬J1 (c.ev.length:Int) none hi≠0:=hh;rw[OT U]at E;have h1:=YP (Ls.1 J);have hC:c.ev.length<=32:=yD (yE (Ls.1 J));have hv:=(Xh _ _ _).1 (Ls.1 U);have h0:hi.length<=c.ev.length:=xH c.ev.length hi (hv.2.1.imp λhD e=>oa) hv.1;refine Qf ?_;have hw:=h.rq.arr.I G;refine Qd<|Qc<|Qq O T O O<|QG hw O<|Qa<|xe<|QW (α:=Nat) [(4,4),(8,8),(33,43)] (λz=>[(33,sS z)]) (λz w'=>z<=c.rq.length/\sW w3 w'/\R=if((c.rq.drop z).all λr=>decide (mrg (λp q=>p && !q) r.p.a.al hi=[]))=true then 0 else 9) (λz=>c.rq.length - z) 0 La ⟨Lo _,O5.Y _ _,by rw[NF];exact E⟩ ?_
 rintro k g w4 ⟨hk,hj,I⟩;have V:=G.D hj;refine Zk rfl O (λhm=>?_) (λhm=>?_)
 ·refine Qt ?_;have h2:c.rq.length<=k:=by have hg:¬(k:Int)<(c.rq.length:Int):=hm;omega
  rw[Lr h2,List.all_nil,OU rfl]at I;refine Qc<|Qb<|Qh ⟨[_],La,by rw[I];rfl,V⟩
 have S:k<c.rq.length:=by have hg:(k:Int)<(c.rq.length:Int):=hm;omega
 have hn:=Le S;rw[QkF S]at I;refine Zg (c.rq[k]'S) λq hq=>?_;rw[hq]at hn I;have Y:=(h.rq.each q hn).I V;have hE:q.p.a.al.length<=32:=(h1.rq q.it (LG hn)).al_le;refine Qf<|Qd<|Qn<|Qc<|O8 (g:=QZ) (i:=k) (λ_=>O) (hw.I hj) O O S λhF hy=>?_;rw[hq]at hy;refine x (QA (us:=QZ q) hy O O)<|QN [.string .empty,nS,sS 0,nS,nS] λb8 w5 h3 h4 h5=>Q2 (QZ q) h5 ⟨O,Y.al.one,O,Y.mr.one,Y.ed.one,Z⟩ λw6 h6 h7=>xe ?_;have ha:sW w4 w6:=h3.Q h6 h4;refine Qc<|Zc O<|Qq O h7 O O<|Qa<|Qv<|(Qag (Y.al.I ha) (hH.I (V.D ha)) oa).S ?_;rintro _ w7 ⟨hz,rfl⟩;refine x (Zl O)<|xe<|Q6 rfl (λho=>?_) (λho=>?_)
 ·have hp:=Vo ho;rw[OZ hp,Bool.false_and,OT MI]at I;refine Qc<|Qb<|Qh ⟨[_],La,by rw[I];rfl,V.D (ha.D hz)⟩
 have hp:=Ke ho;rw[OX hp,OK]at I;refine Qf<|Qs<|QD O O<|Qa<|xe ?_;exact⟨k+1,by show c.rq.length - (k+1)<c.rq.length - k;omega,La,S,(hj.D ha).D hz,I⟩
structure LvV where
 c:CL
 pa:O2
 pm:O2
 pe:O2
 p:Qz
 vh:O2
 vu:O2
 hi:LI
 un:LI
abbrev Yj (V:LvV):LV:=[V.c.ve,V.c.vc,V.c.vr,V.c.vx,V.c.vk,V.pa,sS V.p.st,V.pm,V.pe,V.vh,V.vu]
structure LvA (H:xA)(V:LvV):Prop where
 c:ZP [] H V.c
 a:Zp [] H V.pa V.pm V.pe V.p
 h:Qu [] H V.vh V.hi
 u:Qu [] H V.vu V.un
theorem LvA.I {w w':O1}{V:LvV}(h:LvA ↑w V)(E:sW w w'):LvA ↑w' V:=⟨h.c.I E,h.a.I E,h.h.I E,h.u.I E⟩
theorem LvA.ones {H:xA}{V:LvV}(h:LvA H V):Zv (Yj V):=⟨h.c.ev.arr.one,h.c.co.arr.one,h.c.rq.arr.one,h.c.ex.arr.one,h.c.cs.arr.one,h.a.al.one,O,h.a.mr.one,h.a.ed.one,h.h.one,h.u.one,Z⟩
abbrev Kd:LV:=[ZT,ZT,ZT,ZT,ZT,ZT,sS 0,ZT,ZT,ZT,ZT]
instance:Bw sV 113 Kd [(0,5),(5,4),(9,1),(10,1)]:={}
structure LvK (k:CL)(hi:LI)(V:LvV):Prop where
 c:V.c=k
 p:V.p=JZ (O7 k.C.co)
 h:V.hi=hi
 u:V.un=unc k.C.ev
theorem JA (h:ZP [] ↑w c)(hH:Qu [] ↑w vh hi)(hy:Kb w 4096)(ho:hck c.C hi=0->plE c.C=0):
  QR sV 51 [c.val,vh] w λr w'=>sW w w'/\∃us,r=.tuple #[sT us,sS (hck c.C hi)]/\us.length=11/\Zv us/\(hck c.C hi=0->∃V:LvV,us=Yj V/\LvA ↑w' V/\LvK c hi V):=by
 refine Zm func51 ?_;refine Qc<|Za c.cells λb2 w1 hp hN hz=>QN Kd λb4 w2 hq hO ha=>Qb ?_;have hc:=hp.D hq;have hQ:=hp.size;have hf:=hz.I hq;refine Qd<|Qc<|QV hf O O<|Qa<|Qv<|(QgM (h.I hc) (hH.I hc)).S ?_;rintro _ w3 ⟨rfl,G⟩;refine Zg (hck c.C hi) λE hE=>?_;rw[hE]at ho ⊢;refine Qb ?_;have S:=hc.D G;refine Qk<|ZM O O<|xe<|Zi rfl (λhg=>?_) (λhg=>?_)
 ·have T:E≠0:=hg;refine Qc<|x (Zu [] Z)<|Qa<|Q2 Kd (ha.I G) ⟨O,O,O,O,O,O,O,O,O,O,O,Z⟩ λw4 h0 h1=>Qb<|Qh ⟨[sT Kd,sS E],⟨Jl h1,O,Z⟩,S.Q h0 oa,Kd,O,O,⟨O,O,O,O,O,O,O,O,O,O,O,Z⟩,λe=>OW e T⟩
 have T:E=0:=Ls.1 hg;have h2:=ho T;refine Qf<|Qc<|QV (hf.I G) O O<|Qv<|(yP (h.I S) (hy.I S)).S ?_;rintro _ w5 ⟨U,va,vt,e,rfl,hP⟩;obtain⟨he,A,pa,pm,pe,qs,rfl,h3,hR,hok⟩:=hP.shape;rw[h2]at he;subst he;obtain⟨h4,h5,hT,hr⟩:=hok O;have h6:=(hr [] od).1;have h7:A=JZ (O7 c.C.co):=by unfold JZ;rw[h5]
 have h8:=S.D U;refine Qa<|QJ O O<|QJ O O<|QJ O O<|QN Yt λb7 w6 h9 hA hB=>Q2 [pa,sS A.st,pm,pe] hB h3 λw7 hC hD=>x Qe<|Qb ?_;have I:sW w5 w7:=h9.Q hC hA;have hs:=h8.D I;refine Qd<|Qk<|ZM O O<|xe<|ZD rfl<|Qf ?_;have ht:=(hf.I G).I (U.D I);have hS:=Qah (h.ev.I hs);have hu:XK c.ev=0:=yE h4;rw[hu,OU rfl]at hS;refine Qc<|Qq O ht O O<|Qv<|hS.S ?_;rintro _ w9 ⟨J,vu,rfl,hh⟩;have hF:(unc c.ev).length<=32:=Qlj hu;have hv:Qu [] ↑w9 vu (unc c.ev):=Qi.ints hh oa od;refine Qa<|QJ O O<|QJ O O<|x Qe<|Qb ?_;have hj:=hs.D J;have hG:sW w3 w9:=(U.D I).D J;have Y:LvA ↑w9 ⟨c,pa,pm,pe,A,vh,vu,hi,unc c.ev⟩:=⟨h.I hj,h6.I (I.D J),hH.I hj,hv⟩;refine Qc<|QV (ht.I J) O O<|QV (hD.I J) O O<|Qa<|Qa<|x (Zu [(0,c.cells),(1,[pa,sS A.st,pm,pe]),(2,[vh]),(3,[vu])] ⟨O,O,O,O,hH.cells,O,hv.cells,O,Z⟩)<|x Jr <|
  Q2 (Yj ⟨c,pa,pm,pe,A,vh,vu,hi,unc c.ev⟩) ((ha.I G).I hG) Y.ones λhw hk hI=>Qb ?_
 have hn:sW w hw:=hj.Q hk oa;refine Qh ⟨[sT (Yj ⟨c,pa,pm,pe,A,vh,vu,hi,unc c.ev⟩),sS 0],⟨Jl hI,O,Z⟩,hn,_,by rw[T];rfl,O,Y.ones,λ_=>⟨⟨c,pa,pm,pe,A,vh,vu,hi,unc c.ev⟩,O,?_,⟨O,h7,O,O⟩⟩⟩;have hJ:∀L:LN,(∀b∈L,b<↑w3)->Zp L ↑w5 pa pm pe A:=λL Y=>(hr L Y).1;have hK:b4<w3.heap.size:=(ha.I G).lt;have hM:Zp [] ↑hw pa pm pe A:=(((hJ [b4] (λb hb=>by rw[Lb.1 hb];exact hK)).I (I.D J)).st hk).up λb hb=>by cases hb
 exact⟨h.I hn,hM,hH.I hn,Qi.ints (Qg hh hk λb hb hm=>by have:=(Qj hh b hb).1;rw[Lb.1 hm]at this;have:=(U.D I).size;omega) (Lx hF og) od⟩
theorem xcH {x:O3}{l:List O3}
   {first:LV} (E:∃fn,Fu P g fn) (hx:ev f x=.func (.func g) first.toArray capt.toArray) (h:QR P g (first++l.map (ev f)++capt) w λv w'=>K (QP f d v) w'):
  XO P ⟨d,.call ⟨.value x,l.toArray,at_⟩,ty,pS,af,gd⟩ f w K:=by
 obtain⟨fn,G⟩:=E;exact xc (fn:=fn) hx h
structure RpV where
 t:Bool
 vs:O2
 o:Bool
 vw:O2
 vo:O2
 c:Bool
 vp:O2
 ev:Int
abbrev ZG (R:RpV):LV:=[.bool R.t,R.vs,.bool R.o,R.vw,R.vo,.bool R.c,R.vp,sS R.ev]
abbrev rp8:RpV:=⟨false,nS,false,nS,nS,false,nS,0⟩
structure yZ (L:LN)(H:xA)(V:LvV)(i:Nat)(R:RpV):Prop where
 ones:Zv (ZG R)
 p1:0<i->R.t=(nbl V.p).2/\Qu L H R.vs (nbl V.p).1
 p2:1<i->R.o=(obs V.p V.hi []).isNone/\Qu L H R.vw ((obs V.p V.hi []).elim [] (·.1))/\Qu L H R.vo ((obs V.p V.hi []).elim [] (·.2))
 p3:2<i->R.c=(cns V.p V.hi V.un).isNone/\R.ev=(cns V.p V.hi V.un).elim (-1) (·.2)/\Qu L H R.vp ((cns V.p V.hi V.un).elim [] (·.1))
theorem Qu.sb {b:Nat}{v:O2}(h:Qu L ↑w v l)(hb:b∈L)(E:O5 [b] w w'):Qu L ↑w' v l:=Zt.J h E λx hx=>by rw[Lb.1 hx];exact hb
theorem Yr.b {N b:Nat}{L:LN}{w w':O1}{v:O2}{l:LI}(h:Yr N ↑w v l)(hL:∀x∈L,x<N)(hb:b∈L)(E:O5 [b] w w'):Qu L ↑w' v l:=Qu.sb (h L hL) hb E
theorem yZ.J {b:Nat}{V:LvV}{R:RpV}(h:yZ L ↑w V i R)(hb:b∈L)(E:O5 [b] w w'):yZ L ↑w' V i R :=
 ⟨h.ones,λhi=>⟨(h.p1 hi).1,Qu.sb (h.p1 hi).2 hb E⟩,λhi=>⟨(h.p2 hi).1,Qu.sb (h.p2 hi).2.1 hb E,Qu.sb (h.p2 hi).2.2 hb E⟩,λhi=>⟨(h.p3 hi).1,(h.p3 hi).2.1,Qu.sb (h.p3 hi).2.2 hb E⟩⟩
theorem upN {H:xA}{v:O2}(h:Qu L H v l):Qu [] H v l:=h.up λb hb=>by cases hb
theorem yZ.nil {H:xA}{V:LvV}{R:RpV}(h:yZ L H V i R):yZ [] H V i R :=
 ⟨h.ones,(λhi=>⟨(h.p1 hi).1,upN (h.p1 hi).2⟩),(λhi=>⟨(h.p2 hi).1,upN (h.p2 hi).2.1,upN (h.p2 hi).2.2⟩),(λhi=>⟨(h.p3 hi).1,(h.p3 hi).2.1,upN (h.p3 hi).2.2⟩)⟩
theorem yZ.I {L:LN}{i:Nat}{w w':O1}{V:LvV}{R:RpV}(h:yZ L ↑w V i R)(E:sW w w'):yZ L ↑w' V i R :=
 ⟨h.ones,λhi=>⟨(h.p1 hi).1,(h.p1 hi).2.I E⟩,λhi=>⟨(h.p2 hi).1,(h.p2 hi).2.1.I E,(h.p2 hi).2.2.I E⟩,λhi=>⟨(h.p3 hi).1,(h.p3 hi).2.1,(h.p3 hi).2.2.I E⟩⟩
section
variable {w0:O1}{V:LvV}{b:Nat}{R:RpV}(hbL:b∈L)(hlt:∀x∈L,x<↑w)(hw:sW w0 w)(hL:LvA ↑w0 V)(hp:y7 V.p)(hB:QL ↑w b 118 (ZG R++Yj V))
include hbL hlt hw hL hp hB
theorem Qlm (hR:yZ L ↑w V 0 R):
  QR sV 124 [sP b] w λr w'=>r=sS 0/\O5 [b] w w'/\∃R',QL ↑w' b 118 (ZG R'++Yj V)/\yZ L ↑w' V 1 R':=by
 have h:=hL.I hw;refine Zm func124 ?_;refine Qc<|Qb<|Qk<|Qa<|Qa<|Z6 O<|Zc O<|Zc O<|x (ZR (us:=[V.pa,sS V.p.st,V.pm,V.pe]) hB O O O)<|Qo<|Q9 [[V.pa,sS V.p.st,V.pm,V.pe]] λb11 T E hf U =>
  Qv<|(yQ (q:=⟨V.pa,V.pm,V.pe,V.p⟩) ⟨U.arr od (n:=1) (cap:=1) (sz:=4) rfl og (OE _),λp hp=>by rw[List.mem_singleton.1 hp];exact h.a.I E⟩ hp.ok (Int.le_trans hp.s9 og)).S ?_
 rintro _ w2 ⟨Y,v,rfl,G⟩;have I:=E.D Y;refine Qa<|QJ O O<|QJ O O<|QJ O O<|Z6 O<|Zc O<|Zc O<|Qo<|Qw (u:=v) (hB.I I) O O (L4 O) G.ints.one λw3 J ha =>
  Z6 rfl<|Zc O<|Zc O<|Qo<|Qw (u:=.bool (nbl V.p).2) ha O O (L4 O) O λw4 S hc=>Qb ?_
 have he:∀x∈L,x<T.heap.size:=λx hx=>LR (hlt x hx) E.size;refine Qk<|Qb<|Qh ⟨[_],La,O,(I.any.V J).V S,⟨(nbl V.p).2,v,R.o,R.vw,R.vo,R.c,R.vp,R.ev⟩,hc,⟨?_,λ_=>⟨O,Qu.sb (Yr.b G he hbL J) hbL S⟩,λh=>OW h og,λh=>OW h og⟩⟩;obtain⟨_,_,o3⟩:=hR.ones;exact⟨O,G.ints.one,o3⟩
theorem Qll (hi:Yc V.hi)(hR:yZ L ↑w V 1 R):
  QR sV 125 [sP b] w λr w'=>r=sS 0/\O5 [b] w w'/\∃R',QL ↑w' b 118 (ZG R'++Yj V)/\yZ L ↑w' V 2 R':=by
 have h:=hL.I hw;have hd:sW w { w with drawn:=w.drawn+1 }:=O5.X _ _
 refine Zm func125 ?_;refine Qc<|Qb<|Qd<|ZL [] (Xg 0 32 [13,22,26,30])<|p Qx<|p Qx<|p Qx<|p Qx<|p (YL O)<|p (QH O)<|p (QH O)<|pq (λ_ J=>ZR (us:=[V.pa,sS V.p.st,V.pm,V.pe]) (hB.I J) O O O) <|
  p Qx<|p (YL O)<|p (QH O)<|p (QH O)<|pq (λ_ J=>Ql (hB.I J) O O)<|pkk<|xg<|(Qc9 (w:={ w with drawn:=w.drawn+1 }) (h.a.I hd) (h.h.I hd) hp hi).S ?_
 rintro _ w2 ⟨ha,Y,v2,rfl,S,T⟩;have U:=hd.D ha;refine p Qx<|p (λ_=>Q3 O O)<|p (λ_=>Q3 O O)<|p (λ_=>Q3 O O)<|p (λ_=>Q3 O O) <|
  p (YL rfl)<|p (QH O)<|p (QH O)<|pkk<|Qw (u:=Y) (hB.I U) O O (L4 O) S.ints.one λw3 E he=>p (YL O) <|
  p (QH rfl)<|p (QH O)<|pkk<|Qw (u:=v2) he O O (L4 O) T.ints.one λw4 G hf=>p (YL O)<|p (QH O) <|
  p (QH rfl)<|pkk<|Qw (u:=.bool (obs V.p V.hi []).isNone) hf O O (L4 O) O λw5 I hg=>p ZN<|pe ?_
 refine Qk<|Qb ?_;have hh:yZ L ↑w5 V 1 R:=⟨hR.ones,λh=>⟨(hR.p1 h).1,Qu.sb (Qu.sb (Qu.sb ((hR.p1 h).2.I U) hbL E) hbL G) hbL I⟩,λh=>OW h og,λh=>OW h og⟩;refine Qh ⟨[_],La,O,((U.any.V E).V G).V I,⟨R.t,R.vs,(obs V.p V.hi []).isNone,Y,v2,R.c,R.vp,R.ev⟩,hg,⟨?_,λ_=>hh.p1 og,λ_=>⟨O,Qu.sb (Qu.sb (Yr.b S hlt hbL E) hbL G) hbL I,Qu.sb (Qu.sb (Yr.b T hlt hbL E) hbL G) hbL I⟩,λh=>OW h og⟩⟩;obtain⟨_,o2,_,_,_,o6⟩:=hR.ones;exact⟨O,o2,O,S.ints.one,T.ints.one,o6⟩
theorem Qlk (hi:Yc V.hi)(Y:Yc V.un)(hR:yZ L ↑w V 2 R):
  QR sV 126 [sP b] w λr w'=>r=sS 0/\O5 [b] w w'/\∃R',QL ↑w' b 118 (ZG R'++Yj V)/\yZ L ↑w' V 3 R':=by
 have h:=hL.I hw;have hd:sW w { w with drawn:=w.drawn+1 }:=O5.X _ _
 refine Zm func126 ?_;refine Qc<|Qb<|Qd<|ZL [] (Xg 0 37 [18,27,31,35])<|p Qx<|p Qx<|p Qx<|p Qx<|p (YL O)<|p (QH O)<|p (QH O)<|pq (λ_ E=>ZR (us:=[V.pa,sS V.p.st,V.pm,V.pe]) (hB.I E) O O O) <|
  p Qx<|p (YL O)<|p (QH O)<|p (QH O)<|pq (λ_ E=>Ql (hB.I E) O O)<|p Qx<|p (YL O)<|p (QH O)<|p (QH O)<|pq (λ_ E=>Ql (hB.I E) O O) <|
  pkk<|xg<|(zb (w:={ w with drawn:=w.drawn+1 }) (h.a.I hd) (h.h.I hd) (h.u.I hd) hp hi Y).S ?_
 rintro _ w2 ⟨ha,U,rfl,G⟩;have I:=hd.D ha;refine p Qx<|p (λ_=>Q3 O O)<|p (λ_=>Q3 O O)<|p (λ_=>Q3 O O)<|p (λ_=>Q3 O O) <|
  p (YL rfl)<|p (QH O)<|p (QH O)<|pkk<|Qw (u:=U) (hB.I I) O O (L4 O) G.ints.one λw3 J he=>p (YL O) <|
  p (QH rfl)<|p (QH O)<|pkk<|Qw (u:=sS ((cns V.p V.hi V.un).elim (-1) (·.2))) he O O (L4 O) O λw4 S hf=>p (YL O)<|p (QH O) <|
  p (QH rfl)<|pkk<|Qw (u:=.bool (cns V.p V.hi V.un).isNone) hf O O (L4 O) O λw5 T hg=>p ZN<|pe ?_
 refine Qk<|Qb ?_;have s:∀{v:O2} {l:LI},Qu L ↑w v l->Qu L ↑w5 v l:=λhv=>Qu.sb (Qu.sb (Qu.sb (hv.I I) hbL J) hbL S) hbL T;refine Qh ⟨[_],La,O,((I.any.V J).V S).V T,⟨R.t,R.vs,R.o,R.vw,R.vo,(cns V.p V.hi V.un).isNone,U,(cns V.p V.hi V.un).elim (-1) (·.2)⟩,hg,⟨?_,λ_=>⟨(hR.p1 og).1,s (hR.p1 og).2⟩,λ_=>⟨(hR.p2 og).1,s (hR.p2 og).2.1,s (hR.p2 og).2.2⟩,λ_=>⟨O,O,Qu.sb (Qu.sb (Yr.b G hlt hbL J) hbL S) hbL T⟩⟩⟩;obtain⟨o1,o2,o3,o4,o5,_⟩:=hR.ones;exact⟨o1,o2,o3,o4,o5,O,G.ints.one,O,Z⟩
end
def gT (i:Nat):Nat:=if i=0 then 124 else if i=1 then 125 else 126
theorem QqN (i:Nat):∃fn,Fu sV (gT i) fn:=by
 unfold gT;by_cases E:i=0
 ·rw[OU E];exact⟨_,inferInstance⟩
 rw[OT E];by_cases G:i=1
 ·rw[OU G];exact⟨_,inferInstance⟩
 rw[OT G];exact⟨_,inferInstance⟩
theorem Qn3 {w0:O1}{V:LvV}{b:Nat}{R:RpV}(hbL:b∈L)(hlt:∀x∈L,x<↑w)(hw:sW w0 w)(hL:LvA ↑w0 V)(hp:y7 V.p)(hi:Yc V.hi)(E:Yc V.un)(hB:QL ↑w b 118 (ZG R++Yj V))(hR:yZ L ↑w V i R)(I:i<3):
  QR sV (gT i) [sP b] w λr w'=>r=sS 0/\O5 [b] w w'/\∃R',QL ↑w' b 118 (ZG R'++Yj V)/\yZ L ↑w' V (i+1) R':=by
 have G:i=0\/i=1\/i=2:=oa
 rcases G with rfl|rfl|rfl
 ·exact Qlm hbL hlt hw hL hp hB hR
 ·exact Qll hbL hlt hw hL hp hB hi hR
 exact Qlk hbL hlt hw hL hp hB hi E hR
abbrev tsN (i:Nat):ByteArray:=if i=0 then⟨#[116,114,105,109]⟩else if i=1 then⟨#[111,98,115,101,114,118,101,114]⟩else⟨#[99,111,110,115,105,115,116,101,110,116]⟩
abbrev tsC (i:Nat):LV:=[.string (tsN i),.func (.func (gT i)) #[] #[]]
theorem QhL :QR sV 52 [] w λr w'=>sW w w'/\∀L:LN,(∀b∈L,b<↑w)->Zt L ↑w' r 3 2 ([0,1,2].flatMap tsC):=by
 refine Zm func52 ?_;refine Qc<|Qb<|Qc<|x (QE ⟨O,O,Z⟩)<|x (QE ⟨O,O,Z⟩)<|x (QE ⟨O,O,Z⟩)<|Qo<|Yi (us:=[tsC 0,tsC 1,tsC 2]) O O og od ⟨rfl,rfl,rfl,rfl,rfl,rfl,Z⟩ λE S G T I=>Qb<|Qh ⟨[_],⟨rfl,Z⟩,G,λL hL=>I.arr (λJ=>OW (hL E J) oa) (n:=3) (cap:=3) (sz:=2) rfl og (Lp _)⟩
abbrev Qqw:LV:=ZG rp8++Kd
instance:Bw sV 118 Qqw [(0,8),(8,11)]:={}
instance:Bw sV 59 (ZG rp8) [(0,1),(1,1),(2,1),(3,1),(4,1),(5,1),(6,1),(7,1)]:={}
structure HOk (k:Z2)(hi:LI):Prop where
 e:plE k=0
 p:y7 (JZ (O7 k.co))
theorem VS {k:Z2}(h:hck k hi=0):Yc hi/\Yc (unc k.ev):=by
 unfold hck at h;by_cases E:Z0 k≠0
 ·rw[OU E]at h;exact OW h E
 rw[OT E]at h;have I:=yE (Ls.1 E);by_cases J:0<k.ex.length+k.cs.length
 ·rw[OU J]at h;cases h
 rw[OT J]at h;by_cases G:J1 (k.ev.length:Int) none hi≠0
 ·rw[OU G]at h;exact OW h G
 have S:=(Xh _ _ _).1 (Ls.1 G);have hl:=yD I;exact⟨⟨λx hx=>oo (S.1 x hx),S.2.1⟩,QhJ I⟩
theorem Qf1 (h:ZP [] ↑w c)(hH:Qu [] ↑w vh hi)(h3:Kb w 4096)(Y:hck c.C hi=0->HOk c.C hi):
  QR sV 15 [c.val,vh] w λr w'=>sW w w'/\∃R:RpV,r=.tuple #[sT (ZG R),sS (hck c.C hi)]/\Zv (ZG R)/\(hck c.C hi≠0->R=rp8)/\(hck c.C hi=0->∃V:LvV,LvK c hi V/\yZ [] ↑w' V 3 R):=by
 refine Zm func15 ?_;refine Qc<|Za c.cells λb2 w1 hq gj h4=>QN (ZG rp8) λJ w2 hr gk hs=>Qb ?_;have T:=hq.D hr;have gl:=hq.size;refine Qc<|QV (h4.I hr) O O<|Qa<|Qv<|(JA (h.I T) (hH.I T) (h3.I T) λe=>(Y e).e).S ?_;rintro _ w3 ⟨ht,us,rfl,h5,h6,hV⟩;have ha:=VS (k:=c.C) (hi:=hi);refine Zg (hck c.C hi) λE hE=>?_;rw[hE]at Y hV ha ⊢;refine Qa<|QJ O O<|QJ O O<|QN Kd λb6 w4 h7 h8 h9=>Qo<|Zj (us:=us) h9 O O h5 O h6 λw5 hA hB=>Qb ?_;have hc:sW w3 w5:=h7.Q hA h8;have hC:=T.D ht;have hu:=hC.D hc;have he:=(hs.I ht).I hc;refine Qd<|Qk<|ZM O O<|xe<|Zi rfl (λhf=>?_) (λhf=>?_)
 ·have I:E≠0:=hf;refine Qc<|x (Zu [] Z)<|Qa<|Q2 (ZG rp8) he ⟨O,O,O,O,O,O,O,O,Z⟩ λw6 hD hF=>Qb<|Qh ⟨[sT (ZG rp8),sS E],⟨Jl hF,O,Z⟩,hu.Q hD oa,rp8,O,⟨O,O,O,O,O,O,O,O,Z⟩,λ_=>O,λe=>OW e I⟩
 have I:E=0:=Ls.1 hf;obtain⟨V,rfl,hL,hK⟩:=hV I;have hp:y7 V.p:=by rw[hK.p];exact(Y I).p
 have hG:Yc V.hi:=by rw[hK.h];exact(ha I).1
 have hI:Yc V.un:=by rw[hK.u];exact(ha I).2
 have hJ:=hL.I hc;refine Qf<|Qc<|QV hB O O<|x (Zu [(1,Yj V)] ⟨O,O,Z⟩)<|Za (ZG rp8++Yj V) λG w7 hM hN hv=>Qb ?_;have gm:=hs.lt;refine Qd<|Qc<|Qv<|QhL.S ?_;rintro v8 w8 ⟨hw,hP⟩;have hQ:=hv.lt;have hy:Zt [G] ↑w8 v8 3 2 ([0,1,2].flatMap tsC):=hP [G] λb hb=>by rw[Lb.1 hb];exact hQ
 refine QG hy O<|Qa<|xe ?_;have hR:=hM.D hw;have hS:yZ [J,G] ↑w8 V 0 rp8:=⟨⟨O,O,O,O,O,O,O,O,Z⟩,(λh=>OW h og),(λh=>OW h og),(λh=>OW h og)⟩;refine QW (α:=Nat×RpV) [(5,5),(10,11),(27,39)] (λz=>[(27,sS z.1)]) (λz w'=>z.1<=3/\O5 [G] w8 w'/\QL ↑w' G 118 (ZG z.2++Yj V)/\yZ [J,G] ↑w' V z.1 z.2) (λz=>3 - z.1) (0,rp8) La ⟨Lo _,O5.Y _ _,hv.I hw,hS⟩ ?_;rintro⟨k,R⟩ g w9 ⟨hk,hg,hh,S⟩;simp only[]at hk hh S;have hj:sW w5 w9:=hR.Q hg hN;have hT:=hu.D hj;refine Zk rfl O (λhm=>?_) (λhm=>?_)
 ·refine Qt ?_;have hU:k=3:=by have hn:¬(k:Int)<(3:Nat):=hm;omega
  subst hU;refine Qk<|Z6 O<|Zc O<|x (ZR (us:=ZG R) hh O O O)<|Q2 (ZG R) (he.I hj) S.ones λgn hz ho=>Qb<|Qh ⟨[sT (ZG R),sS 0],⟨Jl ho,O,Z⟩,hT.Q hz oa,R,by rw[I];rfl,S.ones,λe=>OW I e,λ_=>⟨V,hK,?_⟩⟩;have hW:=S.J (b:=J) od hz;exact hW.nil
 have hlt:k<[0,1,2].length:=by have hn:(k:Int)<(3:Nat):=hm;show k<3;omega
 have hX:([0,1,2]:LN)[k]'hlt=k:=by
  have hY:k=0\/k=1\/k=2:=by have hn:k<3:=hlt;omega
  rcases hY with rfl|rfl|rfl <;> rfl
 refine Qf<|Qd<|Qn<|Qc<|O8 (g:=tsC) (es:=[0,1,2]) (i:=k) (λ_=>O) (hy.st hg) O O hlt λgo h0=>?_;rw[hX]at h0;refine x (QA (us:=tsC k) h0 O O)<|QN [.string .empty,.nilFunc] λb10 gq hZ ga ho=>Q2 (tsC k) ho ov λh1 gb gc=>xe ?_;have U:sW w9 h1:=hZ.Q gb ga;have h2:=hh.I U;have ge:∀x∈[J,G],x<h1.heap.size:=λx hx=>by
  simp only[oK,oH,or_false]at hx;have:=he.lt;have:=h2.lt;rcases hx with rfl|rfl <;> omega
 refine Qc<|Qq O gc O O<|Qa<|Qo<|xcH (first:=[]) (capt:=[]) (QqN k) O<|(Qn3 (b:=G) (L:=[J,G]) od ge (hj.D U) hJ hp hG hI h2 (S.I U) hlt).S ?_;rintro _ gr ⟨rfl,gg,R',gh,gi⟩;refine Qb<|Qk<|ZM O O<|xe<|ZD rfl<|Qf<|Qs<|QD O O<|Qa<|xe ?_;exact⟨(k+1,R'),by show 3 - (k+1)<3 - k;have hn:k<3:=hlt;omega,La,hlt,(hg.V U.any).V gg,gh,gi⟩
theorem QlO {U e1 e2 V Y n1 n2:Nat}{E G:O2}{c1 c2:LV}(h1:w.ownsRow T e1 V E n1 c1)(h2:w.ownsRow U e2 Y G n2 c2)(he:e1≠e2):∀b∈ob E,b∉ob G:=by
 intro b hb I;rcases h1.2 with⟨rfl,_⟩|⟨g,cap,cur,rfl,_,J,_⟩
 ·cases hb
 rcases h2.2 with⟨rfl,_⟩|⟨g',cap',cur',rfl,_,S,_⟩
 ·cases I
 have ha:b=g:=Lb.1 hb;have hc:b=g':=Lb.1 I;rw[<-ha]at J;rw[<-hc,J]at S;injection S with h3
 injection h3 with h4 h5
 exact he h5
theorem QgL (h:Zp [] ↑w va vm ve a):
  QR sV 166 [.agg #[va,sS a.st,vm,ve]] w λr w'=>sW w w'/\∃va' vm' ve',r=.agg #[va',sS a.st,vm',ve']/\Qi 3 ↑w w' va' a.al/\Qi 3 ↑w w' vm' a.mr/\w'.ownsRow ↑w 179 3 ve' a.ed.length (a.ed.flatMap Qp):=by
 refine Zm func166 ?_;refine Qc<|Za [va,sS a.st,vm,ve] λb1 w1 hj hy hr=>QN Yt λb2 G hk hz hn=>xe ?_;have I:=hj.D hk;have h0:=hj.size;have J:=hr.I hk;have U:sW G { G with drawn:=G.drawn+1 }:=O5.X _ _
 refine Qd<|ZL [] [oz 0,oz 1,oz 3,oz 4,oz 5,oz 6,oz 8,oz 9,oA 2,oA 7,oA 10,oz 11,oA 12]<|p (QH O)<|pq (λ_ E=>Ql (J.I E) O O)<|p (QH O)<|pq (λ_ E=>Ql (J.I E) O O)<|p (QH O)<|pq (λ_ E=>Ql (J.I E) O O)<|p (QH O)<|pq (λ_ E=>Ql (J.I E) O O) <|
  pk<|xg<|(ZZ (w:={ G with drawn:=G.drawn+1 }) ((h.al.I I).I U)).S ?_
 rintro V w3 ⟨hs,ht⟩;have S:=U.D hs;refine⟨S,?_⟩;refine pk<|xg<|(ZZ (h.mr.I (I.D S))).S ?_;rintro Y w4 ⟨hp,hu⟩;have T:=S.D hp;refine⟨T,?_⟩;refine pk<|xg<|(yy (h.ed.I (I.D T))).S ?_;rintro v5 w5 ⟨ha,he⟩;have hf:=T.D ha;refine⟨hf,?_⟩;have hg:=Qm ht (hp.D ha);have hh:=Qm hu ha;have hv:=hn.I hf;refine p (λ_=>QE ⟨xM hg,O,xM hh,xM he,Z⟩)<|pkk<|Uk [V,sS a.st,Y,v5] hv ⟨QC hg,O,QC hh,QC he,Z⟩ λw6 hq hw=>pe ?_;have h1:=I.size;have k:∀{e sz n N:Nat} {v:O2} {cs:LV},w5.ownsRow N e sz v n cs->↑G<=N->w6.ownsRow ↑w e sz v n cs:=λho hN=>Zf (Qg ho hq λb hb hm=>by have:=(Qj ho b hb).1;rw[Lb.1 hm]at this;have:=hn.lt;omega) oa;exact Qh ⟨[.agg #[V,sS a.st,Y,v5]],⟨Jl hw,Z⟩,(I.D hf).Q hq oa,V,Y,v5,O,k hg U.size,k hh S.size,k he T.size⟩
def VK (c:Z2)(A:Qz):Z2:=⟨c.ev,[⟨(c.co.map (·.nm)).headD .empty,A⟩],c.rq,[],[]⟩
def coP (N:Nat)(ev:List KN)(q:IV)(i:Nat)(v:O2)(w:O1):Prop :=
 if i=3 then w.ownsRow N 94 5 v ev.length (ev.flatMap Zo) else
 if i=12 then ∃b,v=sL b 1 1/\N<=b/\QL ↑w b 81 (QZ q) else
 if i=13 then ∃ve b,v=.agg #[ve,sL b 1 1,ZT,ZT,ZT]/\w.ownsRow N 94 5 ve ev.length (ev.flatMap Zo)/\N<=b/\QL ↑w b 81 (QZ q) else
 ∃b,v=sP b/\N<=b/\QL ↑w b 46 X3
theorem Qkf {ev:List KN}(i:Nat)(v:O2)(w w':O1)(h:coP N ev q i v w)(E:sW w w'):coP N ev q i v w':=by
 unfold coP at *;by_cases e1:i=3
 ·rw[OU e1]at *;exact Qm h E
 rw[OT e1]at *;by_cases e2:i=12
 ·rw[OU e2]at *;obtain⟨b,G,I,J⟩:=h;exact⟨b,G,I,J.I E⟩
 rw[OT e2]at *;by_cases e3:i=13
 ·rw[OU e3]at *;obtain⟨ve,b,G,I,J,S⟩:=h;exact⟨ve,b,G,Qm I E,J,S.I E⟩
 rw[OT e3]at *;obtain⟨b,G,I,J⟩:=h;exact⟨b,G,I,J.I E⟩
theorem j7 {V:LvV}(h:LvA ↑w V)(hp:y7 V.p)(hi:Yc V.hi)(hu:0<V.c.co.length):
  QR sV 91 [sT (Yj V)] w λr w'=>sW w w'/\∃us,r=.tuple #[sT us,sS 0]/\us.length=5/\Zv us/\yW ↑w ↑w' (sT us) (VK V.c.C (ZY V.p V.hi)):=by
 refine Zm func91 ?_;refine Qc<|Za (Yj V) λb1 w1 gh ph ka=>QN X3 λb2 w2 gi pj gj=>Qb ?_;have hD:=gh.D gi;have pn:=gh.size;have hR:=ka.I gi;refine Qc<|Zc O<|x (ZR (us:=[V.pa,sS V.p.st,V.pm,V.pe]) hR O O O)<|Qq O hR O O<|Qv<|(KE (h.a.I hD) (h.h.I hD) hp.ok hi.b hi.i hp.s9 hp.e).S ?_;rintro _ w3 ⟨hE,_,vt,rfl,po,Y,ha,he,rfl,hS⟩;have hF:=hS [] od;have kb:=hD.D hE;have kc:=hD.size;refine Qa<|QJ O O<|QJ O O<|QJ O O<|QN Yt λb4 w4 ke kf kg=>Q2 [Y,sS (ZY V.p V.hi).st,ha,he] kg ⟨hF.al.one,O,hF.mr.one,hF.ed.one,Z⟩ λI kh gk=>x Qe<|Qb<|Zg (ZY V.p V.hi) λA hA=>?_;rw[hA]at hS hF gk;have hv:sW w3 I:=ke.Q kh kf;have hw:=kb.D hv;refine Qd<|Qk<|ZM O O<|xe<|ZD rfl<|Qf ?_;have hT:=(hR.I hE).I hv;obtain⟨J,hG⟩:∃J,V.c.co[0]'hu=J:=⟨_,O⟩;have ki:J∈V.c.co:=hG ▸ Le hu;have kj:=h.c.co.arr.I hw;have kk:=h.c.ev.arr.I hw;refine Qd<|Vh (α:=O2×Nat×Nat) (sW I) [oz 0,oz 1,oz 2,oz 4,oz 5,oz 6,oz 7,oz 8,oz 9,oz 10,oz 11] (λi=>if i=13 then[3,12]else[]) [3,12,13,14] [oA 15] [(26,26),(35,36),(7,7)] (coP ↑I V.c.ev ⟨J.nm,⟨Y,ha,he,A⟩⟩)
  (λz=>[(36,.agg #[z.1,.slice (some ⟨z.2.1,0,none⟩) 1 1,ZT,ZT,ZT]),(7,.pointer (some ⟨z.2.2,0,none⟩))]) (λz w'=>w'.ownsRow ↑I 94 5 z.1 V.c.ev.length (V.c.ev.flatMap Zo)/\↑I<=z.2.1/\QL ↑w' z.2.1 81 (QZ ⟨J.nm,⟨Y,ha,he,A⟩⟩)/\↑I<=z.2.2/\QL ↑w' z.2.2 46 X3)
  mixed oh oc (O5.X _ _) (λ_ _ h1 h2=>h1.D h2) Qkf ?_ ?_
 ·rintro g w' ⟨_,_,⟨hf,hH,kn,h1,h2,h3⟩,⟨ko,kq,h4,h5⟩,_⟩ _;exact⟨(hf,hH,ko),⟨kn,kq,Z⟩,h1,h2,h3,h4,h5⟩
 refine p (QH O)<|p (QH O)<|pq (λ_ E=>Ql (hT.I E) O O)<|p (QH O)<|p (QH O)<|pq (λ_ E=>Ql (hT.I E) O O)<|Lg.pig (g:=QZ) (i:=0) O (λ_=>O) kj O O hu λpp gl=>?_;rw[hG]at gl;refine p (λ_=>ZI O)<|pq (λ_ E=>Qr ((gl.fld 0 (.string J.nm) O).I E) O)<|pq (λ_ E=>Q7 (gk.I E) O O)<|p (λ_=>Zu [(0,[.string J.nm]),(1,[Y,sS A.st,ha,he])] ⟨O,O,O,O,Z⟩) <|
  pe ⟨⟨?_,?_,?_,?_,Z⟩,?_⟩
 ·rintro g w' E _;exact xg<|(Qeh (kk.I E)).S λr gm ⟨hs,ho⟩=>⟨hs,Zf ho E.size,X2 ho⟩
 ·rintro g w' E _;exact Q9 [QZ ⟨J.nm,⟨Y,ha,he,A⟩⟩] λb gm hs hb hB=>⟨hs,⟨b,O,Lx E.size hb,ou hB⟩,λc hy=>by rw[List.mem_singleton.1 (show c∈[b] from hy)];exact⟨hb,hB.lt⟩⟩
 ·rintro g w' E ⟨h3,⟨hH,kr,kt,ku⟩,_⟩;refine xv (Zu [(0,[_]),(1,[sL hH 1 1])] ⟨xM (show w'.ownsRow _ _ _ _ _ _ from h3),O,OV Value.cells kr,O,Z⟩) ?_;exact⟨O5.Y _ _,⟨_,hH,O,h3,kt,ku⟩,λc hy=>by cases hy⟩
 ·rintro g w' E _;exact YU (us:=X3) O λb gm hs hb hB=>⟨hs,⟨b,O,Lx E.size hb,hB⟩,λc hy=>by rw[Lb.1 (show c∈[b] from hy)];exact⟨hb,hB.lt⟩⟩
 rintro⟨hf,T,b7⟩ g w6 gn ⟨hI,go,hU,hJ,hK⟩;simp only[]at hI go hU hJ hK;refine pk<|Uk [hf,sL T 1 1,ZT,ZT,ZT] hK ⟨QC hI,O,O,O,O,Z⟩ λw7 hM gq=>⟨gn.Q hM hJ,pe ?_⟩;have hN:sW I w7:=gn.Q hM hJ;have kv:=Qg hI hM λb hb S=>VP hI hK og (Lb.1 S ▸ hb);have gr:T≠b7:=QL.ne hU hK og;have gs:=hU.J hM (by simp only[oF];exact gr);have kw:=hw.D hN;have kx:=hT.I hN;have kz:=hN.size;have pt:=h.c.rq.arr.le;have k0:=h.c.rq.arr.I kw;refine Qd<|Qc<|Zc O<|Qq O kx O O<|QG k0 O<|Qa<|xe<|QW (α:=Nat×O2×List IV) [(9,9),(41,56)] (λz=>[(41,sS z.1)]) (λz w'=>z.1<=V.c.rq.length/\sW I w'/\w'.ownsRow ↑I 94 5 hf V.c.ev.length (V.c.ev.flatMap Zo)/\QL ↑w' T 81 (QZ ⟨J.nm,⟨Y,ha,he,A⟩⟩)/\T∉ob z.2.1/\QL ↑w' b7 46 [hf,sL T 1 1,z.2.1,ZT,ZT]/\IvP ↑w7 w' z.2.1 z.2.2/\w7.heap.size<=↑w'/\z.2.2.length=z.1/\z.2.2.map IV.it=(V.c.rq.take z.1).map IV.it) (λz=>V.c.rq.length - z.1) (0,ZT,[]) La
  ⟨Lo _,hN,kv,gs,(λS=>by cases S),gq,Vi.nil,Lp _,rfl,rfl⟩ ?_
 rintro⟨k,vr,qs⟩ g w8 ⟨hk,hz,h0,gt,gu,hO,U,k4,gv,h6⟩;simp only[]at hk gu hO U gv h6;have hV:=hw.D hz;have hW:b7∉ob vr:=VP U.own hO og;refine Zk rfl O (λhX=>?_) (λhX=>?_)
 ·refine Qt ?_;have k5:V.c.rq.length<=k:=by have k6:¬(k:Int)<(V.c.rq.length:Int):=hX;omega
  rw[Lq k5]at h6;have k9:=(gj.I (hE.D hv)).I hz;have ma:=gj.lt;have pu:=hE.size;have pw:=hv.size;refine Qc<|QV hO O O<|Q2 [hf,sL T 1 1,vr,ZT,ZT] k9 ⟨QC h0,O,QC U.own,O,O,Z⟩ λw9 hg mc=>Qb ?_;have n2:∀{b:Nat},↑I<=b->b∉[b2]:=λhb S=>by rw[Lb.1 S]at hb;omega
  have hY:=Qg h0 hg λb hb=>n2 (Qj h0 b hb).1;have gx:IvP ↑w7 w9 vr qs:=U.low hg λb hb=>by rw[Lb.1 hb];omega
  have mf:=gt.J hg (n2 go);have pz:O5 [b2] I w9:=hz.any.V hg;have mg:=h.c.ev.arr.le;refine Qh ⟨[.agg #[hf,sL T 1 1,vr,ZT,ZT],sS 0],⟨Jl mc,O,Z⟩,hV.Q hg oa,_,O,O,⟨QC hY,O,QC gx.own,O,O,Z⟩,
   ⟨hf,sL T 1 1,vr,ZT,ZT,V.c.ev,[⟨J.nm,⟨Y,ha,he,A⟩⟩],qs,[],[]⟩,O,?_,λL hL=>?_⟩
  ·rw[hA];unfold VK;have mh:(V.c.C.co.map (·.nm)).headD .empty=J.nm:=by
    show((V.c.co.map IV.it).map (·.nm)).headD .empty=_;cases gy:V.c.co with
    | nil=>rw[gy]at hu;cases hu
    | cons z zs=>simp only[gy]at hG;rw[<-hG];rfl
   rw[mh];show(⟨V.c.ev,[⟨J.nm,A⟩],qs.map IV.it,[],[]⟩:Z2)=_;rw[h6];rfl
  have hZ:∀b∈L,b<I.heap.size:=λb hb=>LR (hL b hb) hw.size;have mj:∀b∈b2::L,b<w2.heap.size:=λb hb=>by
   rcases Ln.1 hb with rfl|hb
   ·exact ma
   exact LR (hL b hb) kc
  have mo:Zp L ↑w9 Y ha he A:=(((hS (b2::L) mj).I (hv.D hz)).st (hg.S λb hb=>by rw[Lb.1 hb];exact Lm)).up λb hb=>.inl (Lk _ hb);refine⟨⟨QO hY mg λb hb mq=>oq (Qj hY b hb).1 (hZ b mq),h.c.ev.nm⟩,⟨?_,λq G=>by rw[Lb.1 G];exact mo,λq G=>by rw[Lb.1 G];exact h.c.co.nm J ki⟩,gx.itms oa (λq G=>?_) (λb hb=>LR (hZ b hb) kz),⟨Zt.nil _ _ _,(λq G=>by cases G),(λq G=>by cases G)⟩,⟨Zt.nil _ _ _,(λq G=>by cases G),(λq G=>by cases G)⟩⟩
  ·exact mf.arr (λS=>oo (hZ T S)) (n:=1) (cap:=1) (sz:=5) O og (Lp _)
  have:q.it∈V.c.rq.map IV.it:=h6 ▸ LG G;obtain⟨q',ms,e⟩:=Ly.1 this;have e':q'.nm=q.nm:=OV X5.nm e;rw[<-e'];exact h.c.rq.nm q' ms
 have hn:k<V.c.rq.length:=by have k6:(k:Int)<(V.c.rq.length:Int):=hX;omega
 have gz:=Le hn;have g0:V.c.rq.take (k+1)=V.c.rq.take k++[V.c.rq[k]'hn]:=Lj hn;refine Zg (V.c.rq[k]'hn) λq G=>?_;rw[G]at gz g0;have hj:=(h.c.rq.each q gz).I hV;refine Qf<|Qd<|Qn<|Qc<|O8 (g:=QZ) (i:=k) (λ_=>O) (h.c.rq.arr.I hV) O O hn λp0 g2=>?_;rw[G]at g2;refine x (QA (us:=QZ q) g2 O O)<|QN [.string .empty,nS,sS 0,nS,nS] λb9 w9 hg mt mu=>Q2 (QZ q) mu ⟨O,hj.al.one,O,hj.mr.one,hj.ed.one,Z⟩ λhr mv g3=>xe ?_;have hP:sW w8 hr:=hg.Q mv mt;have ga:=hO.I hP;have gb:=hP.size;have g4:b9∉ob vr:=λS=>oo (QU U.own b9 S)
 have g5:sW hr { hr with drawn:=hr.drawn+1 }:=O5.X _ _
 refine ZL (ob vr) (Xg 0 12 [6,8,9,11])<|p (QH O)<|pq (λ_ E=>Ql (ga.J E hW) O O)<|p (QH O)<|pq (λ_ E=>Ql (g3.J E g4) O O)<|p (QH O)<|pq (λ_ E=>ZR (us:=[q.p.va,sS q.p.a.st,q.p.vm,q.p.ve]) (g3.J E g4) O O O) <|
  pk<|xg<|(QgL (w:={ hr with drawn:=hr.drawn+1 }) ((hj.I hP).I g5)).S ?_
 rintro _ p4 ⟨mw,ca,cm,ce,rfl,my,mz,m0⟩;have gc:=g5.D mw;refine⟨gc.any,?_⟩;refine p (λ_=>Zu [(0,[.string q.nm]),(1,[ca,sS q.p.a.st,cm,ce])] ⟨O,O,O,O,Z⟩)<|pk<|Q9 [QZ ⟨q.nm,⟨ca,cm,ce,q.p.a⟩⟩] λp5 p6 h7 p7 m1=>⟨(gc.D h7).any,?_⟩;have h8:=gc.D h7;have h9:=hP.D h8;have p8:=h8.size;have g6:=Qm my h7;have g7:=Qm mz h7;have g8:=Qm m0 h7;refine pk<|Q8 (m:=1) (news:=QZ ⟨q.nm,⟨ca,cm,ce,q.p.a⟩⟩) (L:=[]) (Qm U.own h9) O O O (by have:=m1.at (L:=[]) od;simpa using this) (Zv.all (us:=QZ ⟨q.nm,⟨ca,cm,ce,q.p.a⟩⟩) ⟨rfl,QC g6,rfl,QC g7,QC g8,Z⟩) oa oa λhQ m2 ge hh m3=>⟨h8.any.V hh,?_⟩;refine p (QH O)<|pkk<|Qw (u:=hQ) ((ga.I h8).J hh hW) O O (L4 O) (QC ge) λgg hC m4=>pe ?_;refine Qs<|QD O O<|Qa<|xe ?_;have m5:=hj.al.le;have m6:=hj.mr.le;have m7:=hj.ed.le;have m8:IvP ↑w7 m2 hQ (qs++[⟨q.nm,⟨ca,cm,ce,q.p.a⟩⟩]):=Vi.app U h9 (λt ht=>by
  simp only[oK,oH,or_false]at ht;rcases ht with rfl|rfl|rfl
  ·exact⟨_,_,g6,m5,gb⟩
  ·exact⟨_,_,g7,m6,gb⟩
  exact⟨_,_,g8,m7,gb⟩) k4 ge hh m3
 have m9:=gq.lt;have pc:=gs.lt;have pd:IvP ↑w7 gg hQ (qs++[⟨q.nm,⟨ca,cm,ce,q.p.a⟩⟩]):=m8.low hC λb hb=>by rw[Lb.1 hb];exact m9
 have p9:=hh.size;have qa:=hC.size;have g9:=Qg (Qm h0 h9) hh λb hb=>QlO h0 U.own og b hb;have pf:=Qg g9 hC λb hb S=>VP g9 ((ga.I h8).J hh hW) og (Lb.1 S ▸ hb);have pg:sW I gg:=((hz.D h9).O hh λb hb=>.inr (oo (Qj U.own b hb).1)).Q hC hJ;refine⟨(k+1,hQ,qs++[⟨q.nm,⟨ca,cm,ce,q.p.a⟩⟩]),by show V.c.rq.length - (k+1)<V.c.rq.length - k;omega,La,hn,pg,pf,((gt.I h9).J hh gu).J hC (by simp only[oF];exact gr),QK ge pc,m4,pd,by show w7.heap.size<=↑gg;omega,by show(qs++[_]).length=k+1;rw[Lc,gv];rfl,?_⟩;simp only[];rw[g0,Lv,Lv,h6];rfl
theorem yV {ps:List AV}(h:X1 [] ↑w vl ps)(ho:∀p∈ps,Q0 p.a)(ha:Kb w 4096):
  QR sV 43 [vl] w λr w'=>sW w w'/\∃va,r=.tuple #[va,sS (JG (ps.map (·.a)))]/\(JG (ps.map (·.a))≠0->va=zA)/\(JG (ps.map (·.a))=0->YT ↑w ↑w' va (JZ (ps.map (·.a)))):=by
 refine Zm func43 ?_;refine Qc<|QN qU λb2 w1 E he S=>Qb<|Qk<|Qv<|(UL (km:=4096) (h.I E) (ha.I E) og (QaI ho)).S ?_;rintro r2 w2 ⟨hf,vA,vt,c,rfl,hR⟩;have I:=hR.e;obtain⟨a,xa,xm,G,qs,rfl,T,hp,_⟩:=hR.shape;refine Qa<|QJ O O<|QJ O O<|QJ O O<|QN qU λb4 w3 hg hh hj=>Q2 [xa,sS a.st,xm,G] hj T λw4 hk hm =>
  x Qe<|Qb ?_
 have U:sW w2 w4:=hg.Q hk hh;have V:=hf.D U;refine Qc<|QV hm O O<|Qa<|Q2 [xa,sS a.st,xm,G] (S.I V) T λw5 Y hn=>Qb<|Qh ⟨[.agg #[xa,sS a.st,xm,G],sS c],⟨Jl hn,O,Z⟩,(E.D V).Q Y he,.agg #[xa,sS a.st,xm,G],?_,λJ=>?_,λJ=>?_⟩
 ·show Value.tuple _=Value.tuple _;rw[I]
 ·exact(hR.bad (by rw[I];exact J)).1
 have h1:=(hR.good (by rw[I];exact J)).1;exact(Y8 (h1.I U) S.lt Y).S E.size
def lgP (N:Nat)(a b:Qz)(i:Nat)(v:O2)(w:O1):Prop :=
 if i=1 then ∃b1 m1 m2,v=sP b1/\N<=b1/\N<=m1/\N<=m2/\Mch ↑w b1 m1 m2 a
 else if i=3 then ∃b1 m1 m2,v=sP b1/\N<=b1/\N<=m1/\N<=m2/\Mch ↑w b1 m1 m2 b
 else ∃bb,v=sP bb/\N<=bb/\QL ↑w bb 152 [.pointer none]
theorem Qmb {b:Qz}:∀i v w w',lgP N a b i v w->sW w w'->lgP N a b i v w':=by
 intro i v w w' h G;unfold lgP at h ⊢;split
 ·rename_i I;rw[OU I]at h;obtain⟨J,S,T,e,E,U,V,Y⟩:=h;exact⟨J,S,T,e,E,U,V,Y.I G⟩
 rename_i I;rw[OT I]at h;split
 ·rename_i h2;rw[OU h2]at h;obtain⟨J,S,T,e,E,U,V,Y⟩:=h;exact⟨J,S,T,e,E,U,V,Y.I G⟩
 rename_i h2;rw[OT h2]at h;obtain⟨bb,e,E,hB⟩:=h;exact⟨bb,e,E,hB.I G⟩
theorem Y0 {κ:Type}{enc:κ->O2}{H:xA}{b:Nat}{m:List (κ×O2)}(h:ZU enc H b m)(E:QL H G T cs):b≠G:=by
 intro e;subst e;obtain⟨es,c,I,_⟩:=h;unfold QL at E;rw[I]at E;cases E
structure LgZ where
 p1:Nat
 p2:Nat
 p3:Nat
 q1:Nat
 q2:Nat
 q3:Nat
 b10:Nat
 b11:Nat
theorem QdT {wa wm we:O2}{b:Qz}(hA:Zp [] ↑w va vm ve a)(V:Zp [] ↑w wa wm we b)(kd:Int):
  QR sV 30 [.agg #[va,sS a.st,vm,ve],.agg #[wa,sS b.st,wm,we],sS kd] w λr w'=>sW w w'/\∃v e,r=.tuple #[v,.bool e,sS (lgE a b kd)] /\
   (lgE a b kd=0->match lgq a b kd with|none=>v=Zs/\e=true|some u=>e=false/\Qi 3 ↑w w' v u):=by
 refine Zg (lgE a b kd) λE hE=>?_;refine Zg (lgq a b kd) λR hR=>?_;rw[hE,hR];refine Zm func30 ?_;refine Qc<|Za [va,sS a.st,vm,ve] λb3 w1 hJ ge hK=>Za [wa,sS b.st,wm,we] λb4 w2 h4 gg hL=>Za [sS kd] λb5 w3 ht gh h5=>x Qe <|
  x Qe<|Qb ?_
 have hN:=(hJ.D h4).D ht;have h6:=(hK.I h4).I ht;have h7:=hL.I ht;refine Qd<|Qc<|ZE h5 O O<|QV h6 O O<|QV h7 O O<|Qo<|Q9 [[va,sS a.st,vm,ve],[wa,sS b.st,wm,we]] λhO w4 h8 gi hP=>?_;have hu:=hN.D h8;have hQ:X1 [] ↑w4 (sL hO 2 2) [⟨va,vm,ve,a⟩,⟨wa,wm,we,b⟩]:=⟨hP.arr od (n:=2) (cap:=2) (sz:=4) rfl oa (Lp _),λp hp=>by
  simp only[oK,oH,or_false]at hp;rcases hp with rfl|rfl
  ·exact hA.I hu
  exact V.I hu⟩
 have hck:=QdU hQ kd;rw[show[(⟨va,vm,ve,a⟩:AV),⟨wa,wm,we,b⟩].map (·.a)=[a,b] from rfl,QqX,hE]at hck;refine Qv<|hck.S ?_;rintro r5 w5 ⟨rfl,hk⟩;refine Qb ?_;have hq:=hu.D hk;have hv:=h8.D hk;refine Qk<|ZM O O<|xe<|Zi rfl (λhw=>?_) (λhw=>?_)
 ·refine Qk<|x Qe<|x Qe<|Qb<|Qh ⟨[Zs,.bool false,sS E],ox,hq,Zs,false,O,λh0=>OW h0 hw⟩
 have h9:E=0:=Ls.1 hw;have hok:Q0 a/\Q0 b:=by
  have Y:lgE a b kd=0:=hE.D h9;unfold lgE at Y;by_cases h2:X4 a≠0
  ·rw[OU h2]at Y;exact OW Y h2
  rw[OT h2]at Y;by_cases h3:X4 b≠0
  ·rw[OU h3]at Y;exact OW Y h3
  exact⟨(ZC a).1 (Ls.1 h2),(ZC b).1 (Ls.1 h3)⟩
 refine Qf ?_;have hC:=h6.I hv;have hD:=h7.I hv;have hT:=h5.I hv;have hU:=hA.I hq;have hV:=V.I hq;refine QX (α:=LgZ) [(22,25),(10,11)] (λz=>[(10,.pointer (some ⟨z.b10,0,none⟩)),(11,.pointer (some ⟨z.b11,0,none⟩))]) (λz w'=>sW w5 w'/\Mch ↑w' z.p1 z.p2 z.p3 a/\Mch ↑w' z.q1 z.q2 z.q3 b/\QL ↑w' z.b10 152 [.pointer (some ⟨z.p1,0,none⟩)]/\QL ↑w' z.b11 152 [.pointer (some ⟨z.q1,0,none⟩)]) oh ?_ ?_
 ·refine Vh (α:=LgZ) (sW w5) [oz 0,oz 2] (λ_=>[]) [1,3,4,5] [oA 6,oA 7] [(23,23),(25,25),(10,11)] (lgP ↑w5 a b)
   (λz=>[(23,.pointer (some ⟨z.p1,0,none⟩)),(25,.pointer (some ⟨z.q1,0,none⟩)),(10,.pointer (some ⟨z.b10,0,none⟩)),(11,.pointer (some ⟨z.b11,0,none⟩))])
   (λz w'=>Mch ↑w' z.p1 z.p2 z.p3 a/\Mch ↑w' z.q1 z.q2 z.q3 b/\QL ↑w' z.b10 152 [.pointer none]/\QL ↑w' z.b11 152 [.pointer none]/\(z.b10≠z.b11/\z.p1≠z.b10/\z.p1≠z.b11/\z.q1≠z.b10/\z.q1≠z.b11)/\↑w5<=z.b10/\↑w5<=z.b11)
   mixed oh oc (O5.X _ _) (λ_ _ Y h2=>Y.D h2) Qmb ?_ ?_
  ·rintro g w' ⟨⟨p1,p2,p3,e1,_,_,_,I⟩,⟨q1,q2,q3,e2,_,_,_,J⟩,⟨b10,e3,hn,S⟩,⟨b11,e4,hr,T⟩,_⟩ ho;refine⟨⟨p1,p2,p3,q1,q2,q3,b10,b11⟩,⟨e1,e2,e3,e4,Z⟩,I,J,S,T,?_,hn,hr⟩;have d1:=ho 4 od 5 od og;have d2:=ho 1 od 4 od og;have d3:=ho 1 od 5 od og;have d4:=ho 3 od 4 od og;have d5:=ho 3 od 5 od og;rw[e3,e4]at d1;rw[e1,e3]at d2;rw[e1,e4]at d3;rw[e2,e3]at d4;rw[e2,e4]at d5;simp only[ow,oF,forall_eq]at d1 d2 d3 d4 d5;exact⟨d1,d2,d3,d4,d5⟩
  refine pq (λ_ G=>Q7 (hC.I G) O O)<|pq (λ_ G=>Q7 (hD.I G) O O)<|pe ⟨⟨?_,?_,?_,?_,Z⟩,?_⟩
  ·intro g w' G _;refine xg<|(jN (hU.I G) hok.1).S ?_;rintro r5 w6 ⟨hf,b1,m1,m2,rfl,n1,n2,n3,hM⟩;have hz:=G.size;exact⟨hf,⟨b1,m1,m2,O,Lx hz n1,Lx hz n2,Lx hz n3,hM⟩,λc hg=>by rw[Lb.1 (show c∈[b1] from hg)];exact⟨n1,hM.B.lt⟩⟩
  ·intro g w' G _;refine xg<|(jN (hV.I G) hok.2).S ?_;rintro r5 w6 ⟨hf,b1,m1,m2,rfl,n1,n2,n3,hM⟩;have hz:=G.size;exact⟨hf,⟨b1,m1,m2,O,Lx hz n1,Lx hz n2,Lx hz n3,hM⟩,λc hg=>by rw[Lb.1 (show c∈[b1] from hg)];exact⟨n1,hM.B.lt⟩⟩
  ·intro g w' G _;exact YU (us:=[.pointer none]) O λb w5 hk hb V=>⟨hk,⟨b,O,Lx G.size hb,V⟩,λc hg=>by rw[Lb.1 (show c∈[b] from hg)];exact⟨hb,V.lt⟩⟩
  ·intro g w' G _;exact YU (us:=[.pointer none]) O λb w5 hk hb V=>⟨hk,⟨b,O,Lx G.size hb,V⟩,λc hg=>by rw[Lb.1 (show c∈[b] from hg)];exact⟨hb,V.lt⟩⟩
  rintro⟨p1,p2,p3,q1,q2,q3,b10,b11⟩ g w6 hF ⟨I,J,S,T,hh,hn,hr⟩;simp only[]at I J S T hh hn hr;have k1:=Y0 I.e S;have k2:=Y0 I.m S;have k3:=Y0 J.e S;have k4:=Y0 J.m S;have j1:=Y0 I.e T;have j2:=Y0 I.m T;have j3:=Y0 J.e T;have j4:=Y0 J.m T;refine pk<|Qw (u:=sP p1) S O O od rfl λw7 hj hW=>⟨hF.Q hj hn,?_⟩;refine pkk<|Qw (u:=sP q1) (T.J hj (by simp only[oF];exact λe=>hh.1 e.symm)) O O od rfl λw8 U hX=>pe ?_;have s1:∀{x:Nat},x≠b10->x∉[b10]:=λh hm=>h (Lb.1 hm);have s2:∀{x:Nat},x≠b11->x∉[b11]:=λh hm=>h (Lb.1 hm);exact⟨⟨p1,p2,p3,q1,q2,q3,b10,b11⟩,ov,(hF.Q hj hn).Q U hr,(I.J hj (s1 hh.2.1) (s1 k1) (s1 k2)).J U (s2 hh.2.2.1) (s2 j1) (s2 j2),(J.J hj (s1 hh.2.2.2.1) (s1 k3) (s1 k4)).J U (s2 hh.2.2.2.2) (s2 j3) (s2 j4),hW.J U (s2 hh.1),hX⟩
 rintro⟨p1,p2,p3,q1,q2,q3,b10,b11⟩ g w6 ⟨hf,I,J,S,T⟩;simp only[]at I J S T;have hs:=hq.D hf;have gj:=hs.size;have hY:=hC.I hf;have hZ:=hD.I hf;have ga:=hT.I hf;have hy:sW w6 { w6 with drawn:=w6.drawn+1 }:=O5.X _ _
 have gk:=hA.al.le;have gl:=V.al.le;have gm:=hok.1.al_le;have gn:=hok.2.al_le;refine Qd<|ZL [] [oz 0,oz 1,oz 2,oz 3,oz 5,oz 6,oz 7,oA 4,oA 8,oz 9,oz 10,oz 11,oz 12,oz 13]<|p (QH O)<|pq (λ_ G=>Ql (hY.I G) O O)<|p (QH O)<|pq (λ_ G=>Ql (hZ.I G) O O) <|
  pq (λ_ G=>Ql (S.I G) O O)<|pq (λ_ G=>Ql (T.I G) O O)<|p (λ_=>Zn (l:=[]) (l':=[_,_,_])) <|
  pk<|xg<|(yL ((hA.al.I hs).I hy) ((V.al.I hs).I hy) oa).S ?_
 rintro r7 w7 ⟨hj,gb⟩;have ha:=hy.D hj;have go:=ha.size;refine⟨ha,?_⟩;have gq:(mrg (· || ·) a.al b.al).length<=64:=by
  have:=zl (· || ·) a.al b.al;omega
 have hS:=Qgg (kd:=kd) (g:=72) (cap:=[sP b10,sP b5,sP b11]) (Qi.ints (L:=[]) gb oa od) (I.I ha) (J.I ha) hok.1 hok.2
  (λs t w8 U=>Qi9 ((S.I ha).I U) ((T.I ha).I U) ((ga.I ha).I U) ((I.I ha).I U) ((J.I ha).I U) s t)
 have gc:lgL a b kd (mrg (· || ·) a.al b.al) ((a.st.toNat+1)*(b.st.toNat+1)+1) 0 [⟨fst a,fst b,-1,0⟩]=R:=hR;rw[gc]at hS;refine pk<|xg<|hS.S ?_;rintro r8 w8 ⟨U,hG⟩;have hH:=ha.D U;refine⟨hH,?_⟩;have he:∃v e,r8=.tuple #[v,.bool e]/\(match R with|none=>v=Zs/\(!e)=true|some u=>(!e)=false/\Qi 3 ↑w7 w8 v u):=by
  cases R with
  | none=>exact⟨Zs,false,hG,O,O⟩
  | some u=>obtain⟨v,Y,h2⟩:=hG;exact⟨v,true,Y,O,h2⟩
 refine Exists.elim he λv he=>Exists.elim he λe he=>And.elim (λhI he=>?_) he;refine p Qx<|p (λ_=>Q3 (show ev _ _=_ from hI) O)<|p (λ_=>Q3 (show ev _ _=_ from hI) O)<|p ZN<|p ZN<|pe ?_;refine Qk<|Qa<|x (Zl O)<|x Qe<|x Qe<|Qb<|Qh ⟨[v,.bool (!e),sS 0],ox,hs.D hH,v,!e,by rw[h9];rfl,λ_=>?_⟩;cases R with
 | none=>exact he
 | some u=>exact⟨he.1,Zf he.2 oa⟩
abbrev Xs (c:Z2):Qz:=JZ (O7 c.co)
abbrev ZW (c:Z2)(hi:LI):Z2:=VK c (ZY (Xs c) hi)
def yg (c:Z2)(hi:LI):Int:=if KQ (ZW c hi)≠0 then KQ (ZW c hi) else JG [Xs c,Ks (ZW c hi)]
def jc (c:Z2)(hi:LI):Qz:=JZ [Xs c,Ks (ZW c hi)]
def hsE (c:Z2)(hi:LI):Int:=if hck c hi≠0 then hck c hi else KQ (ZW c hi)
def hgE (c:Z2)(hi:LI):Int:=if hck c hi≠0 then hck c hi else yg c hi
def hcE (c:Z2)(hi:LI):Int:=if yg c hi≠0 then yg c hi else KQ c
def hcR (c:Z2)(hi:LI):Option (LI):=match lgq (jc c hi) (Ks c) 1 with|some u=>some u|none=>lgq (jc c hi) (Ks c) 2
theorem QhV {l:List Qz}(I:∀a∈l,Q0 a)(h:JG l=0):Q0 (JZ l):=by
 unfold JG at h;by_cases E:KR l≠0
 ·rw[OU E]at h;exact OW h E
 rw[OT E]at h;cases G:xo l with
 | none=>rw[G]at h;cases h
 | some z =>
  have e:JZ l=z.1:=by unfold JZ;rw[G]
  rw[e];exact(YQ I (A:=z.1) (Q:=z.2) G).1.okay I
theorem Qja {b:Qz}(E:Q0 a)(hb:Q0 b){kd:Int}(G:kd=1\/kd=2):lgE a b kd=0:=by
 unfold lgE;rw[OT (by rw[(ZC a).2 E];simp),OT (by rw[(ZC b).2 hb];simp),OT oa]
theorem Qmz (c:Z2)(hi:LI):ZW c hi=⟨c.ev,[⟨(c.co.map (·.nm)).headD .empty,ZY (Xs c) hi⟩],c.rq,[],[]⟩:=rfl
instance:Bw sV 53 Yt [(0,1),(1,1),(2,1),(3,1)]:={}
theorem YR:Zv Yt:=oy
theorem Qi6 {E G I:O2}{J:Qz}{b:Nat}(T:QL ↑w b 53 ([ZB ⟨va,vm,ve,a⟩,ZB ⟨E,G,I,J⟩]:List (LV)).flatten)(h:Zp [] ↑w va vm ve a)(U:Zp [] ↑w E G I J):
  X1 [] ↑w (sL b 2 2) [⟨va,vm,ve,a⟩,⟨E,G,I,J⟩]:=
 ⟨T.arr od rfl oa (Lp 2),λp S=>by
  rcases Ln.1 S with rfl|S
  ·exact h
  rw[Lb.1 S];exact U⟩
theorem Qcn {V:LvV}(h:LvA ↑w V)(hj:Kb w 4096)(hp:y7 V.p)(hi:Yc V.hi)(hm:0<V.c.co.length):
  QR sV 92 [sT (Yj V)] w λr w'=>sW w w'/\∃us,r=.tuple #[sT us,sS (KQ (VK V.c.C (ZY V.p V.hi)))]/\us.length=4/\Zv us/\(KQ (VK V.c.C (ZY V.p V.hi))≠0->us=Yt)/\(KQ (VK V.c.C (ZY V.p V.hi))=0->YT ↑w ↑w' (sT us) (Ks (VK V.c.C (ZY V.p V.hi)))):=by
 refine Zm func92 ?_;refine Qc<|Za (Yj V) λb1 w1 U h5 hn=>QN Yt λb2 w2 Y h6 ha=>Qb ?_;have hc:=U.D Y;have h7:=U.size;refine Qc<|QV (hn.I Y) O O<|Qv<|(j7 (h.I hc) hp hi hm).S ?_;rintro _ w3 ⟨I,us,rfl,he,ho,k,hk,hf,hq⟩;refine Zg (VK V.c.C (ZY V.p V.hi)) λT hT=>?_;rw[hT]at hf ⊢;refine Qa<|QJ O O<|QJ O O<|QN X3 λb4 w4 hr hs ht=>Qo<|Zj (us:=us) ht O O he O ho λw5 hu hv=>Qb ?_;have G:sW w3 w5:=hr.Q hu hs;have J:=(hc.D I).D G;have hw:=J.size;refine Qd<|Qk<|ZM O O<|xe<|ZD rfl<|Qf ?_;have hy:ZP [] ↑w5 k:=(hq [] od).I G;have hS:=J4 hy (hj.I J);rw[<-hk,hf]at hS;refine Qc<|QV hv O he<|Qv<|hS.S ?_;rintro _ w7 ⟨hg,sa,sm,se,rfl,E,hz,h0⟩;have h2:=((ha.I I).I G).I hg;have h3:=ha.lt;refine QJ rfl O<|QJ O O<|Q2 [sa,sS (if YN T=0 then(Ks T).st else 0),sm,se] h2 ⟨E.1,O,E.2.1,E.2.2.1,Z⟩ λw8 hh h4=>Qb<|Qh ⟨[.agg #[sa,sS (if YN T=0 then(Ks T).st else 0),sm,se],sS (KQ T)],⟨Jl h4,O,Z⟩,(J.D hg).Q hh oa,_,O,O,⟨E.1,O,E.2.1,E.2.2.1,Z⟩,λhE=>?_,λhE=>?_⟩
 ·obtain⟨e1,e2,e3⟩:=hz hE;have S:¬YN T=0:=hE;rw[e1,e2,e3,OT S]
 have S:YN T=0:=hE;rw[OU S];refine⟨sa,sm,se,O,λL hL=>?_⟩;have h1:=h0 hE (b2::L) λb hb=>by
  rcases Ln.1 hb with rfl|hb
  ·exact LR h3 (Lx I.size G.size)
  exact LR (hL b hb) hw
 exact(h1.st (hh.S λb hb=>by rw[Lb.1 hb];exact Lm)).up λb hb=>.inl (Lk _ hb)
theorem Qcm {V:LvV}{c:Z2}{hi':LI}(h:LvA ↑w V)(hn:Kb w 4096)(hp:y7 V.p)(hi:Yc V.hi)(h1:0<V.c.co.length)(hc:V.c.C=c)(ha:V.p=Xs c)(h2:V.hi=hi'):
  QR sV 66 [sT (Yj V)] w λr w'=>sW w w'/\∃us,r=.tuple #[sT us,sS (yg c hi')]/\us.length=4/\Zv us/\(yg c hi'≠0->us=Yt)/\(yg c hi'=0->YT ↑w ↑w' (sT us) (jc c hi')):=by
 have hT:VK V.c.C (ZY V.p V.hi)=ZW c hi':=by rw[hc,ha,h2]
 have G:yg c hi'=if KQ (ZW c hi')≠0 then KQ (ZW c hi') else JG [V.p,Ks (ZW c hi')]:=by unfold yg;rw[ha]
 have ho:jc c hi'=JZ [V.p,Ks (ZW c hi')]:=by unfold jc;rw[ha]
 refine Zg (yg c hi') λE hE=>?_;rw[hE]at G ⊢;refine Zm func66 ?_;refine Qc<|Za (Yj V) λb1 w1 hr hO hs=>QN Yt λb2 w2 he hP h3=>Qb ?_;have hf:=hr.D he;have hQ:=hr.size;have hS:=Qcn (h.I hf) (hn.I hf) hp hi h1;rw[hT]at hS;refine Qc<|QV (hs.I he) O O<|Qv<|hS.S ?_;rintro _ w3 ⟨hg,us,rfl,h4,h5,h6,hh⟩;refine Zg (KQ (ZW c hi')) λF hF=>?_;have ht:F=0->Q0 (Ks (ZW c hi')):=λe=>KW (hF.D e);rw[hF]at G h6 hh;refine Zg (Ks (ZW c hi')) λS h7=>?_;rw[h7]at G ho hh ht;refine Qa<|QJ O O<|x (Q3 O (OV (λi=>some (sS i)) hF))<|QN Yt λb4 w4 h8 h9 hA=>Qo<|Zj (us:=us) hA O O h4 O h5 λw5 hB hD=>Qb ?_;have T:sW w3 w5:=h8.Q hB h9;have hu:=(hf.D hg).D T;have hj:=(h3.I hg).I T;refine Qd<|Qk<|ZM O O<|xe<|Zi rfl (λhk=>?_) (λhk=>?_)
 ·have I:F≠0:=hk;rw[OU I]at G;refine Qc<|x (Zu [] Z)<|Qa<|Q2 Yt hj YR λw6 hG hH=>Qb<|Qh ⟨[sT Yt,sS F],⟨Jl hH,O,Z⟩,hu.Q hG oa,Yt,by rw[G];rfl,O,YR,λ_=>O,λe=>OW (G.symm.D e) I⟩
 have I:F=0:=Ls.1 hk;rw[OT (λe=>e I)]at G;refine Qf ?_;obtain⟨sa,sm,se,hI,hJ⟩:=hh I;have hK:us=[sa,sS S.st,sm,se]:=by
  have:=Value.agg.inj hI;exact OV OP this
 subst hK;have hL:=hJ [] od;refine Qc<|Zc O<|x (ZR (us:=[V.pa,sS V.p.st,V.pm,V.pe]) (((hs.I he).I hg).I T) O O O)<|QV hD O O<|Qo<|Q9 [ZB ⟨V.pa,V.pm,V.pe,V.p⟩,ZB ⟨sa,sm,se,S⟩] λhR w7 U hU hM=>?_;have Y:=hu.D U;have hC:=yV (Qi6 hM (h.a.I Y) (hL.I (T.D U))) (λq hq=>by
  rcases Ln.1 hq with rfl|hq
  ·exact hp.ok
  rw[Lb.1 hq];exact ht I) (hn.I Y)
 simp only[oS,OC]at hC;rw[<-G,<-ho]at hC;refine Qv<|hC.S ?_;rintro r8 w8 ⟨hw,va,rfl,hy,hz⟩;obtain⟨vs,hv,hm,hvo⟩:∃vs,va=sT vs/\vs.length=4/\Zv vs:=by
  by_cases J:E=0
  ·exact Y9 (hz J)
  exact⟨Yt,hy J,O,YR⟩
 subst hv;have hV:=U.size;refine QJ rfl O<|QJ O O<|Qo<|Zj (us:=vs) (hj.I (U.D hw)) O O hm O hvo λw9 h0 hN=>Qb<|Qh ⟨[sT vs,sS E],⟨⟨_,O,ZF hm (hN.at (L:=[]) od).cells⟩,rfl,Z⟩,(Y.D hw).Q h0 oa,vs,rfl,hm,hvo,λJ=>?_,λJ=>?_⟩
 ·have:=Value.agg.inj (hy J);exact OV OP this
 have hW:=hj.lt;exact(Y8 (hz J) oa h0).S Y.size
theorem Qa4 {k:Z2}(h:hck k hi=0):0<k.co.length:=by
 unfold hck at h;by_cases E:Z0 k≠0
 ·rw[OU E]at h;exact OW h E
 exact Nat.pos_of_ne_zero (YP (Ls.1 E)).c0
theorem jG:Zv X3:=⟨O,O,O,O,O,Z⟩
theorem QkW {b:Nat}{v:O2}{k:Z2}(h:yW N ↑w v k)(hb:b<N)(E:O5 [b] w w'):yW N ↑w' v k:=by
 obtain⟨c,G,I,J⟩:=h;refine⟨c,G,I,λL S=>?_⟩;exact((J (b::L) (λx hx=>by rcases Ln.1 hx with rfl|hx;exact hb;exact S x hx)).st (E.S od)).up (λx hx=>.inl (Lk _ hx))
theorem Qd3 (h:ZP [] ↑w c)(hH:Qu [] ↑w vh hi)(hf:Kb w 4096)(S:hck c.C hi=0->HOk c.C hi):
  QR sV 21 [c.val,vh] w λr w'=>sW w w'/\∃vw,r=.tuple #[vw,sS (hck c.C hi)]/\vw.oneCell'=true/\(hck c.C hi≠0->vw=ZT)/\(hck c.C hi=0->Qi 3 ↑w w' vw (Qd9 (Xs c.C) hi (unc c.C.ev))/\Yc (Qd9 (Xs c.C) hi (unc c.C.ev))):=by
 refine Zm func21 ?_;refine Qc<|Za c.cells λb2 w1 hg hw hh=>x Qe<|Qb ?_;have I:=hg;refine Qc<|QV hh O O<|Qa<|Qv<|(JA (h.I I) (hH.I I) (hf.I I) λe=>(S e).e).S ?_;rintro _ w3 ⟨hj,us,rfl,hk,hm,hV⟩;have T:=VS (k:=c.C) (hi:=hi);refine Zg (hck c.C hi) λE hE=>?_;rw[hE]at S hV T ⊢;refine Qa<|QJ O O<|QJ O O<|QN Kd λb6 w4 hn ho hq=>Qo<|Zj (us:=us) hq O O hk O hm λw5 hr ha=>Qb ?_;have hc:sW w3 w5:=hn.Q hr ho;have hs:=I.D hj;have J:=hs.D hc;refine Qd<|Qk<|ZM O O<|xe<|Zi rfl (λU=>?_) (λU=>?_)
 ·have G:E≠0:=U;refine Qk<|x Qe<|Qb<|Qh ⟨[ZT,sS E],ov,J,ZT,O,O,λ_=>O,λe=>OW e G⟩
 have G:E=0:=Ls.1 U;obtain⟨V,rfl,hL,hK⟩:=hV G;have hp:y7 V.p:=by rw[hK.p];exact(S G).p
 have ht:Yc V.hi:=by rw[hK.h];exact(T G).1
 have hu:Yc V.un:=by rw[hK.u];exact(T G).2
 have he:=hL.I hc;refine Qf<|Qc<|Zc O<|x (ZR (us:=[V.pa,sS V.p.st,V.pm,V.pe]) ha O O O)<|Qa<|Qq O ha O O<|Qv<|(Qhg he.a (hH.I J) he.u hp (by rw[<-hK.h];exact ht) hu).S ?_;rintro _ w6 ⟨hv,vw,rfl,hI,Y⟩;refine QJ rfl O<|QJ O O<|x Qe<|Qb ?_;rw[hK.p,hK.u]at hI Y;refine Qh ⟨[vw,sS 0],ov,J.D hv,vw,by rw[G];rfl,(Qi.ints (L:=[]) hI (oo Y.len) od:Qu [] ↑w6 vw _).one,λe=>OW G e,λ_=>⟨?_,Y⟩⟩;exact⟨hI.1,hI.2.imp id λ⟨g,cap,cur,e1,e2,r⟩=>⟨g,cap,cur,e1,Lx J.size e2,r⟩⟩
theorem QmD (h:ZP [] ↑w c)(hH:Qu [] ↑w vh hi)(hn:Kb w 4096)(U:hck c.C hi=0->HOk c.C hi):
  QR sV 37 [c.val,vh] w λr w'=>sW w w'/\∃us,r=.tuple #[sT us,sS (hck c.C hi)]/\us.length=4/\Zv us/\(hck c.C hi≠0->us=Yt)/\(hck c.C hi=0->YT ↑w ↑w' (sT us) (ZY (Xs c.C) hi)):=by
 refine Zm func37 ?_;refine Qc<|Za c.cells λb2 w1 he hB ho=>QN Yt λb4 w2 hf hC hg=>Qb ?_;have J:=he.D hf;have hD:=he.size;refine Qc<|QV (ho.I hf) O O<|Qa<|Qv<|(JA (h.I J) (hH.I J) (hn.I J) λe=>(U e).e).S ?_;rintro _ w3 ⟨Y,us,rfl,hq,hr,hV⟩;have ha:=VS (k:=c.C) (hi:=hi);refine Zg (hck c.C hi) λE hE=>?_;rw[hE]at U hV ha ⊢;refine Qa<|QJ O O<|QJ O O<|QN Kd λb6 w4 hs ht hu=>Qo<|Zj (us:=us) hu O O hq O hr λw5 hv hw=>Qb ?_;have S:sW w3 w5:=hs.Q hv ht;have hz:=J.D Y;have T:=hz.D S;have hh:=(hg.I Y).I S;have hF:=hg.lt;have hG:=Y.size;have hI:=S.size;refine Qd<|Qk<|ZM O O<|xe<|Zi rfl (λhc=>?_) (λhc=>?_)
 ·have G:E≠0:=hc;refine Qc<|x (Zu [] Z)<|Qa<|Q2 Yt hh YR λw6 h0 h1=>Qb<|Qh ⟨[sT (Yt),sS E],⟨Jl h1,O,Z⟩,T.Q h0 oa,Yt,O,O,YR,λ_=>O,λe=>OW e G⟩
 have G:E=0:=Ls.1 hc;obtain⟨V,rfl,hL,hK⟩:=hV G;have hp:y7 V.p:=by rw[hK.p];exact(U G).p
 have h2:=hL.I S;refine Qf ?_;have hPr:=KE h2.a (hH.I T) hp.ok (λy hy=>(ha G).1.b y hy) (ha G).1.i hp.s9 hp.e;refine Qc<|Zc O<|x (ZR (us:=[V.pa,sS V.p.st,V.pm,V.pe]) hw O O O)<|Qa<|Qv<|hPr.S ?_;rintro _ w7 ⟨h3,vp,vt,rfl,hJ,hA⟩;rw[hK.p]at hA;obtain⟨vs,rfl,I,hvo⟩:=Y9 hA;refine Qa<|QJ O O<|QJ O O<|QJ O O<|QN Yt λb8 w8 h4 h5 h6=>Qo<|Zj (us:=vs) h6 O O I O hvo λw9 h7 h8=>x Qe<|Qb ?_;have hj:sW w7 w9:=h4.Q h7 h5;have hk:=h3.D hj;refine Qc<|QV h8 O I<|Qa<|Qo<|Zj (us:=vs) (hh.I hk) O O I O hvo λhM hm h9=>Qb<|Qh ⟨[sT vs,sS 0],⟨⟨_,O,ZF I (h9.at (L:=[]) od).cells⟩,rfl,Z⟩,(T.D hk).Q hm oa,vs,by rw[G];rfl,I,hvo,λe=>OW G e,λ_=>?_⟩;exact(Y8 (hA.I hj) oa hm).S T.size
theorem QjA (h:ZP [] ↑w c)(hH:Qu [] ↑w vh hi)(hn:Kb w 4096)(S:hck c.C hi=0->HOk c.C hi):
  QR sV 38 [c.val,vh] w λr w'=>sW w w'/\∃us,r=.tuple #[sT us,sS (hck c.C hi)]/\us.length=5/\Zv us/\(hck c.C hi≠0->us=X3)/\(hck c.C hi=0->yW ↑w ↑w' (sT us) (ZW c.C hi)):=by
 refine Zm func38 ?_;refine Qc<|Za c.cells λb2 w1 hc h5 ho=>QN X3 λb4 w2 he h6 hf=>Qb ?_;have I:=hc.D he;have h7:=hc.size;refine Qc<|QV (ho.I he) O O<|Qa<|Qv<|(JA (h.I I) (hH.I I) (hn.I I) λe=>(S e).e).S ?_;rintro _ w3 ⟨T,us,rfl,hq,hr,hV⟩;have hg:=VS (k:=c.C) (hi:=hi);have hh:=Qa4 (k:=c.C) (hi:=hi);refine Zg (hck c.C hi) λE hE=>?_;rw[hE]at S hV hg hh ⊢;refine Qa<|QJ O O<|QJ O O<|QN Kd λb6 w4 hs ht hu=>Qo<|Zj (us:=us) hu O O hq O hr λw5 hv hw=>Qb ?_;have J:sW w3 w5:=hs.Q hv ht;have hy:=I.D T;have U:=hy.D J;have hj:=(hf.I T).I J;have h8:=hf.lt;have h9:=T.size;have hB:=J.size;refine Qd<|Qk<|ZM O O<|xe<|Zi rfl (λY=>?_) (λY=>?_)
 ·have G:E≠0:=Y;refine Qc<|x (Zu [] Z)<|Qa<|Q2 X3 hj jG λw6 hz h0=>Qb<|Qh ⟨[sT (X3),sS E],⟨Jl h0,O,Z⟩,U.Q hz oa,X3,O,O,jG,λ_=>O,λe=>OW e G⟩
 have G:E=0:=Ls.1 Y;obtain⟨V,rfl,hL,hK⟩:=hV G;have hp:y7 V.p:=by rw[hK.p];exact(S G).p
 have h1:Yc V.hi:=by rw[hK.h];exact(hg G).1
 have h2:0<V.c.co.length:=by rw[hK.c];have e0:=hh G;rw[show c.C.co.length=c.co.length from Ll _]at e0;exact e0
 have h3:=hL.I J;refine Qf ?_;have hT:VK V.c.C (ZY V.p V.hi)=ZW c.C hi:=by rw[hK.c,hK.p,hK.h]
 have hC:=j7 h3 hp h1 h2;rw[hT]at hC;refine Qc<|QV hw O O<|Qv<|hC.S ?_;rintro _ w7 ⟨hk,vs,rfl,ha,hvo,hA⟩;refine QJ rfl O<|QJ O O<|Qo<|Zj (us:=vs) (hj.I hk) O O ha O hvo λw8 hm h4=>Qb<|Qh ⟨[sT vs,sS 0],⟨⟨_,O,ZF ha (h4.at (L:=[]) od).cells⟩,rfl,Z⟩,(U.D hk).Q hm oa,vs,by rw[G];rfl,ha,hvo,λe=>OW G e,λ_=>?_⟩;exact(QkW hA oa hm).S U.size
theorem QmB (h:ZP [] ↑w c)(hH:Qu [] ↑w vh hi)(hf:Kb w 4096)(Y:hck c.C hi=0->HOk c.C hi):
  QR sV 39 [c.val,vh] w λr w'=>sW w w'/\∃us,r=.tuple #[sT us,sS (hsE c.C hi)]/\us.length=4/\Zv us/\(hsE c.C hi≠0->us=Yt)/\(hsE c.C hi=0->YT ↑w ↑w' (sT us) (Ks (ZW c.C hi))):=by
 have I:hsE c.C hi=if hck c.C hi≠0 then hck c.C hi else KQ (ZW c.C hi):=rfl
 refine Zg (hsE c.C hi) λS hS=>?_;rw[hS]at I ⊢;refine Zm func39 ?_;refine Qc<|Za c.cells λb2 w1 hg h9 hs=>QN Yt λb4 w2 hh hB hj=>Qb ?_;have J:=hg.D hh;have hD:=hg.size;refine Qc<|QV (hs.I hh) O O<|Qa<|Qv<|(JA (h.I J) (hH.I J) (hf.I J) λe=>(Y e).e).S ?_;rintro _ w3 ⟨ha,us,rfl,ht,hu,hV⟩;have hk:=VS (k:=c.C) (hi:=hi);have hm:=Qa4 (k:=c.C) (hi:=hi);refine Zg (hck c.C hi) λE hE=>?_;rw[hE]at Y hV hk hm I ⊢;refine Qa<|QJ O O<|QJ O O<|QN Kd λb6 w4 hv hw hy=>Qo<|Zj (us:=us) hy O O ht O hu λw5 hz h0=>Qb ?_;have T:sW w3 w5:=hv.Q hz hw;have h1:=J.D ha;have U:=h1.D T;have ho:=(hj.I ha).I T;have hF:=hj.lt;have hG:=ha.size;have hI:=T.size;refine Qd<|Qk<|ZM O O<|xe<|Zi rfl (λhc=>?_) (λhc=>?_)
 ·have G:E≠0:=hc;refine Qc<|x (Zu [] Z)<|Qa<|Q2 Yt ho YR λw6 h2 h3=>Qb<|Qh ⟨[sT (Yt),sS E],⟨Jl h3,O,Z⟩,U.Q h2 oa,Yt,by rw[I,OU G];rfl,O,YR,λ_=>O,λe=>OW (by rw[I,OU G]at e;exact e) G⟩
 have G:E=0:=Ls.1 hc;obtain⟨V,rfl,hL,hK⟩:=hV G;have hp:y7 V.p:=by rw[hK.p];exact(Y G).p
 have h4:Yc V.hi:=by rw[hK.h];exact(hk G).1
 have h5:0<V.c.co.length:=by rw[hK.c];have e0:=hm G;rw[show c.C.co.length=c.co.length from Ll _]at e0;exact e0
 have h6:=hL.I T;have h7:=hf.I U;refine Qf ?_;rw[OT (λe=>e G)]at I;have hT:VK V.c.C (ZY V.p V.hi)=ZW c.C hi:=by rw[hK.c,hK.p,hK.h]
 have hC:=Qcn h6 h7 hp h4 h5;rw[hT,<-I]at hC;refine Qc<|QV h0 O O<|Qv<|hC.S ?_;rintro _ w7 ⟨hq,vs,rfl,he,hvo,hn,hA⟩;refine QJ rfl O<|QJ O O<|Qo<|Zj (us:=vs) (ho.I hq) O O he O hvo λw8 hr h8=>Qb<|Qh ⟨[sT vs,sS S],⟨⟨_,O,ZF he (h8.at (L:=[]) od).cells⟩,rfl,Z⟩,(U.D hq).Q hr oa,vs,rfl,he,hvo,hn,λe=>?_⟩;exact(Y8 (hA e) oa hr).S U.size
theorem QmA (h:ZP [] ↑w c)(hH:Qu [] ↑w vh hi)(hf:Kb w 4096)(Y:hck c.C hi=0->HOk c.C hi):
  QR sV 28 [c.val,vh] w λr w'=>sW w w'/\∃us,r=.tuple #[sT us,sS (hgE c.C hi)]/\us.length=4/\Zv us/\(hgE c.C hi≠0->us=Yt)/\(hgE c.C hi=0->YT ↑w ↑w' (sT us) (jc c.C hi)):=by
 have I:hgE c.C hi=if hck c.C hi≠0 then hck c.C hi else yg c.C hi:=rfl
 refine Zg (hgE c.C hi) λS hS=>?_;rw[hS]at I ⊢;refine Zm func28 ?_;refine Qc<|Za c.cells λb2 w1 hg h9 hs=>QN Yt λb4 w2 hh hB hj=>Qb ?_;have J:=hg.D hh;have hD:=hg.size;refine Qc<|QV (hs.I hh) O O<|Qa<|Qv<|(JA (h.I J) (hH.I J) (hf.I J) λe=>(Y e).e).S ?_;rintro _ w3 ⟨ha,us,rfl,ht,hu,hV⟩;have hk:=VS (k:=c.C) (hi:=hi);have hm:=Qa4 (k:=c.C) (hi:=hi);refine Zg (hck c.C hi) λE hE=>?_;rw[hE]at Y hV hk hm I ⊢;refine Qa<|QJ O O<|QJ O O<|QN Kd λb6 w4 hv hw hy=>Qo<|Zj (us:=us) hy O O ht O hu λw5 hz h0=>Qb ?_;have T:sW w3 w5:=hv.Q hz hw;have h1:=J.D ha;have U:=h1.D T;have ho:=(hj.I ha).I T;have hF:=hj.lt;have hG:=ha.size;have hI:=T.size;refine Qd<|Qk<|ZM O O<|xe<|Zi rfl (λhc=>?_) (λhc=>?_)
 ·have G:E≠0:=hc;refine Qc<|x (Zu [] Z)<|Qa<|Q2 Yt ho YR λw6 h2 h3=>Qb<|Qh ⟨[sT (Yt),sS E],⟨Jl h3,O,Z⟩,U.Q h2 oa,Yt,by rw[I,OU G];rfl,O,YR,λ_=>O,λe=>OW (by rw[I,OU G]at e;exact e) G⟩
 have G:E=0:=Ls.1 hc;obtain⟨V,rfl,hL,hK⟩:=hV G;have hp:y7 V.p:=by rw[hK.p];exact(Y G).p
 have h4:Yc V.hi:=by rw[hK.h];exact(hk G).1
 have h5:0<V.c.co.length:=by rw[hK.c];have e0:=hm G;rw[show c.C.co.length=c.co.length from Ll _]at e0;exact e0
 have h6:=hL.I T;have h7:=hf.I U;refine Qf ?_;rw[OT (λe=>e G)]at I;have hC:=Qcm (c:=c.C) (hi':=hi) h6 h7 hp h4 h5 (by rw[hK.c]) hK.p hK.h;rw[<-I]at hC;refine Qc<|QV h0 O O<|Qv<|hC.S ?_;rintro _ w7 ⟨hq,vs,rfl,he,hvo,hn,hA⟩;refine QJ rfl O<|QJ O O<|Qo<|Zj (us:=vs) (ho.I hq) O O he O hvo λw8 hr h8=>Qb<|Qh ⟨[sT vs,sS S],⟨⟨_,O,ZF he (h8.at (L:=[]) od).cells⟩,rfl,Z⟩,(U.D hq).Q hr oa,vs,rfl,he,hvo,hn,λe=>?_⟩;exact(Y8 (hA e) oa hr).S U.size
instance:Ay sV 143 2 3 1:=⟨oc,oc⟩
def hcX (c:Z2)(hi:LI):Int:=if hck c hi≠0 then hck c hi else hcE c hi
theorem Qjx {c:Z2}(I:y7 (Xs c))(h:yg c hi=0):Q0 (jc c hi):=by
 unfold yg at h;by_cases E:KQ (ZW c hi)≠0
 ·rw[OU E]at h;exact OW h E
 rw[OT E]at h;exact QhV (λa G=>by
  rcases Ln.1 G with rfl|G
  ·exact I.ok
  rw[Lb.1 G];exact KW (Ls.1 E)) h
theorem QmC (h:ZP [] ↑w c)(hH:Qu [] ↑w vh hi)(hm:Kb w 4096)(hO:hck c.C hi=0->HOk c.C hi):
  QR sV 25 [c.val,vh] w λr w'=>sW w w'/\∃v e,r=.tuple #[v,.bool e,sS (hcX c.C hi)]/\(hcX c.C hi≠0->v=ZT/\e=false) /\
   (hcX c.C hi=0->match hcR c.C hi with|none=>v=ZT/\e=true|some u=>e=false/\Qi 3 ↑w w' v u):=by
 have I:hcX c.C hi=if hck c.C hi≠0 then hck c.C hi else if yg c.C hi≠0 then yg c.C hi else KQ c.C:=rfl
 have hn:yg c.C hi=0->y7 (Xs c.C)->Q0 (jc c.C hi):=λe hp=>Qjx hp e;have ho:KQ c.C=0->Q0 (Ks c.C):=KW;have J:hcR c.C hi=match lgq (jc c.C hi) (Ks c.C) 1 with|some u=>some u|none=>lgq (jc c.C hi) (Ks c.C) 2:=rfl
 refine Zg (hcX c.C hi) λX hX=>?_;refine Zg (hcR c.C hi) λR hR=>?_;rw[hX]at I;rw[hR]at J;rw[hX,hR];refine Zm func25 ?_;refine Qc<|Za c.cells λb2 w1 hP kg h3=>x Qe<|x Qe<|Qb ?_;have hf:=hP;refine Qc<|QV h3 O O<|Qa<|Qv<|(JA (h.I hf) (hH.I hf) (hm.I hf) λe=>(hO e).e).S ?_;rintro _ w3 ⟨h4,us,rfl,hU,hW,hV⟩;have h5:=VS (k:=c.C) (hi:=hi);have h6:=Qa4 (k:=c.C) (hi:=hi);refine Zg (hck c.C hi) λE hE=>?_;rw[hE]at hO hV h5 h6 I ⊢;refine Qa<|QJ O O<|QJ O O<|QN Kd λb6 w4 hY hZ ga=>Qo<|Zj (us:=us) ga O O hU O hW λw5 gb gc=>Qb ?_;have hr:sW w3 w5:=hY.Q gb hZ;have ge:=hf.D h4;have hs:=ge.D hr;refine Qd<|Qk<|ZM O O<|xe<|Zi rfl (λht=>?_) (λht=>?_)
 ·have S:E≠0:=ht;rw[OU S]at I;refine Qk<|x Qe<|x Qe<|Qb<|Qh ⟨[ZT,.bool false,sS E],ox,hs,ZT,false,by rw[I];rfl,λ_=>⟨O,O⟩,λe=>OW (I.symm.D e) S⟩
 have S:E=0:=Ls.1 ht;rw[OT (λe=>e S)]at I;obtain⟨V,rfl,hL,hK⟩:=hV S;have hp:y7 V.p:=by rw[hK.p];exact(hO S).p
 have gg:Yc V.hi:=by rw[hK.h];exact(h5 S).1
 have gh:0<V.c.co.length:=by rw[hK.c];have e0:=h6 S;rw[show c.C.co.length=c.co.length from Ll _]at e0;exact e0
 have gi:=hL.I hr;have gj:=hm.I hs;have hT:=Qcm (c:=c.C) (hi':=hi) gi gj hp gg gh (by rw[hK.c]) hK.p hK.h;have gk:y7 (Xs c.C):=(hO S).p;refine Zg (yg c.C hi) λF hF=>?_;rw[hF]at I hn hT;refine Zg (jc c.C hi) λTA gl=>?_;rw[gl]at hn hT J;refine Qf<|Qc<|QV gc O O<|Qv<|hT.S ?_;rintro _ w6 ⟨h7,vs,rfl,gm,hvo,_,hA⟩;refine Qa<|QJ O O<|QJ O O<|QN Yt λb8 w7 gn go gq=>Qo<|Zj (us:=vs) gq O O gm O hvo λw8 gr gs=>Qb ?_;have hu:sW w6 w8:=gn.Q gr go;have hg:=(hs.D h7).D hu;refine Qd<|Qk<|ZM O O<|xe<|Zi rfl (λhw=>?_) (λhw=>?_)
 ·have Y:F≠0:=hw;rw[OU Y]at I;refine Qk<|x Qe<|x Qe<|Qb<|Qh ⟨[ZT,.bool false,sS F],ox,hg,ZT,false,by rw[I];rfl,λ_=>⟨O,O⟩,λe=>OW (I.symm.D e) Y⟩
 have Y:F=0:=Ls.1 hw;rw[OT (λe=>e Y)]at I;refine Qf ?_;have gt:=hn Y gk;obtain⟨ta,tm,te,gu,gv⟩:=hA Y;have gx:vs=[ta,sS TA.st,tm,te]:=OV OP (Value.agg.inj gu);subst gx;have gy:=gv [] od;have hS:=J4 (h.I hg) (hm.I hg);refine Zg (KQ c.C) λG hG=>?_;have hsp:YN c.C=G:=hG;rw[hG]at I ho hS;rw[hsp]at hS;refine Zg (Ks c.C) λSA gz=>?_;rw[gz]at ho hS J;refine Qc<|x (Q7 (((h3.I h4).I hr).I (h7.D hu)) O O)<|Qv<|hS.S ?_;rintro _ w9 ⟨g0,sa,sm,se,rfl,hy,_,g2⟩;refine Qa<|QJ O O<|QJ O O<|QN Yt λb9 kh g3 g4 g5=>Q2 [sa,sS (if G=0 then SA.st else 0),sm,se] g5 ⟨hy.1,O,hy.2.1,hy.2.2.1,Z⟩ λh8 g6 h9=>Qb ?_
 have hB:sW w9 h8:=g3.Q g6 g4;have hz:=g0.D hB;have hC:=hg.D hz;refine Qd<|Qk<|ZM O O<|xe<|Zi rfl (λh0=>?_) (λh0=>?_)
 ·have ha:G≠0:=h0;refine Qk<|x Qe<|x Qe<|Qb<|Qh ⟨[ZT,.bool false,sS G],ox,hC,ZT,false,by rw[I];rfl,λ_=>⟨O,O⟩,λe=>OW (I.symm.D e) ha⟩
 have ha:G=0:=Ls.1 h0;rw[OU ha]at h9;have g7:=ho ha;have g8:=g2 ha [] od;have hh:X=0:=I.D ha;have g9:=gs.I hz;refine Qf<|Qd<|Qc<|x (QE ⟨O,O,Z⟩)<|Qa<|xe<|QW (α:=Nat) [(4,6),(11,11),(38,58)] (λz=>[(38,sS z)]) (λz w'=>z<=2/\sW h8 w'/\(0<z->lgq TA SA 1=none)/\(1<z->lgq TA SA 2=none)) (λz=>2 - z) 0 La ⟨oa,O5.Y _ _,λe=>OW e oa,λe=>OW e oa⟩ ?_;rintro k g ki ⟨hk,hc,hk1,ka⟩;have h1:=hC.D hc;refine Zk rfl O (λhD=>?_) (λhD=>?_)
 ·refine Qt ?_;rw[hk1 oa]at J;have hI:R=lgq TA SA 2:=J;rw[ka oa]at hI;refine Qc<|x Qe<|x Qe<|Qb<|Qh ⟨[ZT,.bool true,sS 0],ox,h1,ZT,true,by rw[hh];rfl,λe=>OW hh e,λ_=>?_⟩;rw[hI];exact⟨O,O⟩
 have kj:(k:Int)<(2:Nat):=hD;have hJ:k<2:=oa
 refine Qf<|Qd<|Qn<|Qc<|x (Qb2 (i:=k) (cs:=[sS 1,sS 2]) (u:=sS ((k:Int)+1)) O O hJ (by rcases(by omega:k=0\/k=1) with rfl|rfl <;> rfl))<|Qb ?_
 have hq:=QdT (gy.I ((hu.D hz).D hc)) (g8.I (hB.D hc)) ((k:Int)+1);rw[Qja gt g7 oa]at hq;refine Zg (lgq TA SA ((k:Int)+1)) λQ U=>?_;rw[U]at hq;refine Qc<|QV (g9.I hc) O O<|QV (h9.I hc) O O<|Qa<|Qv<|hq.S ?_;rintro _ kb ⟨hM,v,e,rfl,T⟩;have T:=T O;refine Qa<|QJ O O<|QJ O O<|QJ O O<|x Qe<|x Qe<|Qb ?_;have kc:=h1.D hM;refine QX (α:=Bool) [(49,54)] (λz=>[(54,.bool z)]) (λz w'=>w'=kb/\z=!e) oh ?_ ?_
 ·refine Qs<|Qa<|xb (JN O O) (λhN=>?_) (λhN=>?_)
  ·exact OW O hN
  refine Qa<|Qa<|x (Zl O)<|QB O<|xe ?_;exact⟨!e,La,O,O⟩
 rintro z g kk ⟨rfl,rfl⟩;refine Q6 rfl (λh2=>?_) (λh2=>?_)
 ·have he:e=false:=by cases e;rfl;cases h2
  refine Qk<|Qa<|Qa<|x Qe<|x Qe<|Qb<|Qh ⟨[v,.bool e,sS 0],ox,kc,v,e,by rw[hh];rfl,λe=>OW hh e,λ_=>?_⟩;cases hj:Q with
  | none =>
   rw[hj]at T;exact OW (he.symm.D T.2) og
  | some u =>
   rw[hj]at T U;have ke:R=some u:=by
    rcases(by omega:k=0\/k=1) with rfl|rfl
    ·rw[show lgq TA SA 1=some u from U]at J;exact J
    rw[hk1 oa]at J;exact J.D U
   rw[ke];exact⟨he,T.2.1,T.2.2.imp id λ⟨g,cap,cur,e1,e2,r⟩=>⟨g,cap,cur,e1,Lx h1.size e2,r⟩⟩
 have he:e=true:=by cases e;cases h2;rfl
 have kf:Q=none:=by
  cases hj:Q with
  | none=>rfl
  | some u=>rw[hj]at T;exact OW (T.1.symm.D he) og
 rw[kf]at U;refine Qf<|Qs<|QD O O<|Qa<|xe<|⟨k+1,oa,La,hJ,hc.D hM,λ_=>?_,λkn=>?_⟩
 ·rcases(by omega:k=0\/k=1) with rfl|rfl
  ·exact U
  exact hk1 oa
 have e1:k=1:=oa
 subst e1;exact U
def JH:Z2:={ mzC 2 with rq:=[Us] }
theorem Qji:hck JH [1,2]=0:=oc
theorem QoK:hck JH [0,1,2]=0:=oc
theorem QoH:plE JH=0:=oc
theorem QoI:X4 (Xs JH)=0:=oc
theorem QoF:(Xs JH).st=4:=oc
theorem QoG:(Xs JH).ed.length=8:=oc
theorem Qjh:(nbl (Xs JH)).2=true:=oc
theorem QoO:cns (Xs JH) [1,2] (unc JH.ev)=some ([],1):=oc
theorem QoN:cns (Xs JH) [0,1,2] (unc JH.ev)=none:=oc
theorem QoJ:obs (Xs JH) [0,1,2] []=none:=oc
theorem QqC:Qd9 (Xs JH) [1,2] (unc JH.ev)=[0,1,2]:=oc
theorem QoM:hcX JH [0,1,2]=0:=oc
theorem QoL:hcR JH [0,1,2]=none:=oc
theorem Qgh {v:O2}{l':LI}(h:Qu L ↑w v l)(E:Qu L' ↑w v' l'):QR sV 23 [v,v'] w λr w'=>r=.bool (decide (l=l'))/\sW w w':=by
 have hj:=h.le;refine Zm func23 ?_;refine Qc<|Qb<|Qd<|Qk<|QG h O<|Qa<|QG E O<|ZM O O<|xe<|Zi rfl (λY=>?_) (λY=>?_)
 ·refine Qc<|Qb<|Qh ⟨[.bool false],La,?_,O5.Y _ _⟩;have I:l≠l':=λe=>Y (by rw[e]);simp[tup,I]
 refine Qf<|Qd<|Qc<|Qb<|QW (α:=Nat) [(4,5),(11,25)] (λk=>[(5,sS k)]) (λk w'=>sW w w'/\k<=l.length/\(l=l'↔l.drop k=l'.drop k)) (λk=>l.length - k) 0 La ⟨O5.Y _ _,Lo _,od⟩ ?_;rintro k g w1 ⟨G,hk,J⟩
 replace h:=h.I G
 replace E:=E.I G;refine Qd<|Qk<|Qa<|QG h O<|ZX O O<|xe<|Zr rfl (λhf=>?_) (λhf=>?_)
 ·refine Qt<|Qc<|Qb<|Qh ⟨[.bool true],La,?_,G⟩;rw[Lr oa,Lr oa]at J;simp[tup,J]
 have S:k<l.length:=oa
 have T:k<l'.length:=oa
 refine Qf<|Qd<|Qn<|Qd<|ZL [] (Xg 0 9 [])<|p Qx<|p Qx<|pii (i:=k) O h O O S λhn hg=>pq (λ_ U=>Qr (hg.I U) O)<|p Qx<|p Qx<|pii (i:=k) O E O O T λho hh=>pq (λ_ U=>Qr (hh.I U) O)<|p (λ_=>JN O O)<|pe ?_;have ha:=G.D (O5.X [] w1);refine Zi rfl (λV=>?_) (λV=>?_)
 ·refine Qc<|Qb<|Qh ⟨[.bool false],La,?_,ha⟩;have I:l≠l':=λe=>V (by simp[e]);simp[tup,I]
 refine Qf<|Qs<|Qa<|QD O O<|Qb<|⟨k+1,oa,La,ha,oa,?_⟩;have he:l[k]'S=l'[k]'T:=Ls.1 V;rw[J,QY S,QY T,he];exact⟨λh=>(List.cons.inj h).2,λh=>by rw[h]⟩
theorem Qjz {v:O2}(h:Qu L ↑w v l)(x:Int):
  QR sV 27 [v,sS x] w λr w'=>r=.bool (decide (x∈l))/\w'=w:=by
 have T:=h.le;refine Zm func27 ?_;refine Qc<|Lg.Qb<|Qd<|Qc<|Lg.Qb<|QW (α:=Nat) [(4,17)] (λk=>[(5,sS k)]) (λk w'=>w'=w/\k<=l.length/\(x∈l↔x∈l.drop k)) (λk=>l.length - k) 0 La ⟨O,Lo _,od⟩ ?_;rintro k g w' ⟨rfl,U,E⟩;refine Qd<|Qc<|Lg.Qa<|Lg.Qa<|Lg.x (YY h O)<|Lg.ZX O O<|xe<|Zr rfl (λJ=>?_) (λJ=>?_)
 ·refine Qt<|Qc<|Lg.Qb<|Qh ⟨[.bool false],La,?_,O⟩;rw[Lr oa]at E;simp[tup,E]
 have I:k<l.length:=oa
 have hd:=QY I;refine Qf<|Qd<|Qn<|Qc<|Lg.Qa<|Lg.Qa<|xii h O O I λV S=>Lg.x (Qr S O)<|Lg.Qa<|Lg.x (Zd O O)<|xe<|Zi rfl (λG=>?_) (λG=>?_)
 ·refine Qc<|Lg.Qb<|Qh ⟨[.bool true],La,?_,O⟩;have:x∈l:=by rw[E,hd,G];exact Lm
  simp[tup,this]
 refine Qf<|Qs<|Lg.Qa<|Lg.QD O O<|Lg.Qb<|⟨k+1,oa,La,O,oa,?_⟩;rw[E,hd,Ln];exact⟨λh=>h.resolve_left (λe=>G e.symm),.inr⟩
theorem QkT {R:RpV}  : QR sV 24 [sT (ZG R)] w λr w'=>r=.bool (R.t && R.o && R.c)/\sW w w':=by
 refine Zm func24 ?_;refine Qc<|Za (ZG R) λT J S U G=>Qb<|QX (α:=Bool) [(2,12)] (λz=>[(2,.bool z)]) (λz w'=>w'=J/\z=(R.t && R.o && R.c)) oh ?_ ?_
 ·refine Qs<|Zc O<|xB (Ql (u:=.bool R.t) G O O) (λE=>?_) (λE=>?_)
  ·refine Qa<|Zc O<|xB (Ql (u:=.bool R.o) G O O) (λI=>?_) (λI=>?_)
   ·refine QB O<|Qa<|Qq O (u:=.bool R.c) G O O<|QB O<|Qb<|⟨R.c,La,O,by rw[E,I];rfl⟩
   refine QB O<|Qa<|Yf<|QB O<|Qb<|⟨false,La,O,by rw[E,I];rfl⟩
  refine Qa<|Yf<|QB O<|Qa<|Yf<|QB O<|Qb<|⟨false,La,O,by rw[E];rfl⟩
 rintro z g V ⟨rfl,rfl⟩;exact Qh ⟨[.bool (R.t && R.o && R.c)],La,O,S⟩
theorem Jg (w:O1):QR sV 114 [] w λr w'=>sW w w'/\yW ↑w ↑w' r JH:=by
 refine Zm func114 ?_;refine Qc<|QN X3 λG w1 hv hD hf=>xe ?_;refine Qc<|Qv<|(JV 2 og w1).S ?_;rintro r2 w2 ⟨hg,E,rfl,hw,hh⟩;refine QN X3 λI w3 hy hn hz=>Q2 E.cells hz (hh [] od).ones λV h0 ho=>xe ?_;have Y:sW w2 V:=hy.Q h0 hn;have hE:=hg.size;refine Qc<|Qo<|Q9 [[sS 1],[sS 2]] λJ w5 hp hF h1=>Qo<|Q9 [[sS 0],[sS 1]] λS w6 hj hG h3 =>
  x (QE ⟨rfl,O,O,Z⟩)<|x (QE ⟨O,O,O,Z⟩)<|Qo<|Q9 [Qp (0,1,1),Qp (1,2,0)] λT w7 ha hH h4=>?_
 refine x (QE ⟨O,O,O,O,Z⟩)<|x (Zu [(0,[.string Kc]),(1,[sL J 2 2,sS 2,sL S 2 2,sL T 2 2])] ⟨O,O,O,O,Z⟩) <|
  Qo<|Q9 [[.string Kc,sL J 2 2,sS 2,sL S 2 2,sL T 2 2]] λb10 w8 hc hJ h5=>?_
 have hr:=((hp.D hj).D ha).D hc;refine Zc rfl<|Qo<|Qw (j:=2) (u:=sL b10 1 1) (ho.I hr) O O od rfl λw9 hs h6=>xe ?_;have hK:=hf.lt;have hM:=Y.size;have hN:=hp.size;have hO:=hj.size;have hP:=ha.size;have hk:O5 [I] V w9:=hr.any.V hs;have h7:G∉[I]:=ol
 have h8:Zv [E.ve,E.vc,sL b10 1 1,E.vx,E.vk]:=by
  have h9:=(hh [] od).ones;exact⟨h9.1,h9.2.1,O,h9.2.2.2.1,h9.2.2.2.2.1,Z⟩
 refine Qc<|QV h6 O O<|Q2 [E.ve,E.vc,sL b10 1 1,E.vx,E.vk] (((hf.I hg).I Y).J hk h7) h8 λhQ ht hA=>xe ?_;have U:=(CL.cel_rq hw (sL b10 1 1) [⟨Kc,⟨sL J 2 2,sL S 2 2,sL T 2 2,Us.a⟩⟩]);refine Qh ⟨[.agg #[E.ve,E.vc,sL b10 1 1,E.vx,E.vk]],⟨Jl hA,Z⟩,(((hv.D hg).D Y).Q hk oa).Q ht oa,_,O,U,λL hL=>?_⟩;have hu:∀b∈G::L,b<w1.heap.size:=λb hb=>by
  rcases Ln.1 hb with rfl|hb
  ·exact hf.lt
  have:=hL b hb;omega
 have hB:∀b∈I::G::L,b<V.heap.size:=λb hb=>by
  rcases Ln.1 hb with rfl|hb
  ·exact ho.lt
  have:=hu b hb;omega
 have h2:=(hh (G::L) hu).up (L':=I::G::L) (λb hb=>by
  rcases Ln.1 hb with rfl|hb
  ·exact .inr hn
  exact .inl hb)
 have he:=(h2.I Y).st (hk.S od);have nB:∀b,↑V<=b->b∉I::G::L:=λb hb hm=>oo (hB b hm)
 have hI:Vk (I::G::L) ↑w8 (sL b10 1 1) [⟨Kc,⟨sL J 2 2,sL S 2 2,sL T 2 2,Us.a⟩⟩]:=by
  refine⟨h5.arr (nB _ oa) (n:=1) (cap:=1) (sz:=5) O og (Lp _),λq U=>?_,λq U=>?_⟩
  ·rw[Lb.1 U];exact⟨(((h1.I hj).I ha).I hc).arr (nB _ oa) (n:=2) (cap:=2) (sz:=1) O og (Lp _),((h3.I ha).I hc).arr (nB _ oa) (n:=2) (cap:=2) (sz:=1) O og (Lp _),(h4.I hc).arr (nB _ oa) (n:=2) (cap:=2) (sz:=3) O og (Lp _)⟩
  rw[Lb.1 U];exact Jj og
 have hC:ZP (I::G::L) ↑w9 (CL.mk E.ve E.vc (sL b10 1 1) E.vx E.vk E.ev E.co [⟨Kc,⟨sL J 2 2,sL S 2 2,sL T 2 2,Us.a⟩⟩] E.ex E.cs):=
  ⟨he.ev,he.co,hI.st (hs.S od),he.ex,he.cs⟩
 exact(hC.st (ht.S od)).up (λb hb=>.inl (Lk _ (Lk _ hb)))
theorem zm (hi:LI):HOk JH hi:=⟨QoH,⟨(ZC _).1 QoI,by rw[show(JZ (O7 JH.co)).st=4 from QoF];decide,by rw[show(JZ (O7 JH.co)).ed.length=8 from QoG];decide⟩⟩
theorem QnC {k:Z2}{V:LvV}{H:xA}{R:RpV}(E:LvK c hi V)(S:c.C=k)(h:yZ [] H V 3 R):
  (R.t=(nbl (Xs k)).2/\Qu [] H R.vs (nbl (Xs k)).1)/\(R.o=(obs (Xs k) hi []).isNone/\Qu [] H R.vw ((obs (Xs k) hi []).elim [] (·.1))/\Qu [] H R.vo ((obs (Xs k) hi []).elim [] (·.2))) /\
   R.c=(cns (Xs k) hi (unc k.ev)).isNone/\R.ev=(cns (Xs k) hi (unc k.ev)).elim (-1) (·.2)/\Qu [] H R.vp ((cns (Xs k) hi (unc k.ev)).elim [] (·.1)):=by
 subst S;have G:=h.p1 og;have I:=h.p2 og;have J:=h.p3 og;have eu:V.un=unc c.C.ev:=E.u;rw[E.p]at G;rw[E.p,E.h]at I;rw[E.p,E.h,eu]at J;exact⟨G,I,J⟩
theorem QqK {H:xA}:Qu L H ZT []:=⟨O,og,.inl ⟨O,O⟩⟩
theorem QoE {H:xA}{b:Nat}{m n:Int}(h:QL H b T [sS m,sS n]):Qu [] H (sL b 2 2) [m,n]:=h.arr od (n:=2) (cap:=2) (sz:=1) rfl oa (Lp _)
theorem QoD {H:xA}{b:Nat}{m n o:Int}(h:QL H b T [sS m,sS n,sS o]):Qu [] H (sL b 3 3) [m,n,o]:=h.arr od (n:=3) (cap:=3) (sz:=1) rfl oa (Lp _)
theorem QdV (E:Kb w 4096):QR sV 46 [] w λr w'=>r=.bool true/\sW w w':=by
 refine Zm func46 ?_;refine Qc<|Qb<|Qc<|Qv<|(Jg w).S ?_;rintro r1 w1 ⟨h6,⟨c1,rfl,G,h7⟩⟩;refine Qo<|Q9 [[sS 1],[sS 2]] λgu w2 U gv h8=>?_;have V:=h6.D U;have hT:=Qf1 ((h7 [] od).I U) (QoE h8) (E.I V) λ_=>by rw[G];exact zm _
 rw[G,Qji]at hT;refine Qv<|hT.S ?_;rintro _ w3 ⟨h9,R1,rfl,hA,_,hB⟩;obtain⟨V1,hC,hD⟩:=hB O;obtain⟨⟨Y,_⟩,_,ha,e1,_⟩:=QnC hC G hD;rw[Qjh]at Y;rw[QoO]at ha e1;refine Qa<|QJ O O<|QJ O O<|QN (ZG rp8) λb1 w4 hE hF hG=>Q2 (ZG R1) hG hA λw5 hI hJ=>Qb ?_;have hK:sW w3 w5:=hE.Q hI hF;have he:=(V.D h9).D hK;refine Qc<|Qv<|(Jg w5).S ?_;rintro r6 w6 ⟨hL,⟨c6,rfl,I,hM⟩⟩;refine Qo<|Yi (us:=[[sS 0],[sS 1],[sS 2]]) O O og od ⟨rfl,rfl,rfl,rfl,rfl,rfl,Z⟩ λgx w7 hf gy hN=>?_;have hg:=hL.D hf;have hT:=Qf1 ((hM [] od).I hf) (QoD hN) (E.I (he.D hg)) λ_=>by rw[I];exact zm _
 rw[I,QoK]at hT;refine Qv<|hT.S ?_;rintro _ w8 ⟨hO,R2,rfl,hP,_,hQ⟩;obtain⟨V2,hR,hS⟩:=hQ O;obtain⟨⟨t2,_⟩,⟨o2,_⟩,hh,_⟩:=QnC hR I hS;rw[Qjh]at t2;rw[QoJ]at o2;rw[QoN]at hh;refine Qa<|QJ O O<|QJ O O<|QN (ZG rp8) λb3 w9 hU hV hW=>Q2 (ZG R2) hW hP λhj hY hZ=>Qb ?_;have ga:sW w8 hj:=hU.Q hY hV;have hk:=(hg.D hO).D ga;have J:=he.D hk;refine Qc<|Qv<|(Jg hj).S ?_;rintro gz g0 ⟨gb,⟨g2,rfl,hm,gc⟩⟩;refine Qo<|Q9 [[sS 1],[sS 2]] λg3 g4 hn g5 ge=>?_;have ho:=gb.D hn;have hX:=Qd3 ((gc [] od).I hn) (QoE ge) (E.I (J.D ho)) λ_=>by rw[hm];exact zm _
 rw[hm,Qji]at hX;rw[show Xs JH=Xs JH from rfl,QqC]at hX;refine Qv<|hX.S ?_;rintro _ hp ⟨gg,vx,rfl,_,_,hx⟩;have gh:Qu [] ↑hp vx [0,1,2]:=Qi.ints (hx O).1 og od;refine Qa<|QJ O O<|QJ O O<|x Qe<|Qb ?_;have hq:=ho.D gg;refine Qc<|Qv<|(Jg hp).S ?_;rintro g6 g7 ⟨gi,⟨g8,rfl,hr,gj⟩⟩;refine Qo<|Yi (us:=[[sS 0],[sS 1],[sS 2]]) O O og od ⟨rfl,rfl,rfl,rfl,rfl,rfl,Z⟩ λg9 ka hs kb gk=>?_;have ht:=gi.D hs;have hX:=QmC ((gj [] od).I hs) (QoD gk) (E.I ((J.D hq).D ht)) λ_=>by rw[hr];exact zm _
 rw[hr,QoM,QoL]at hX;refine Qv<|hX.S ?_;rintro _ hu ⟨gl,vc,ec,rfl,_,hc⟩;obtain⟨rfl,rfl⟩:=hc O;refine Qa<|QJ O O<|QJ O O<|QJ O O<|x Qe<|x Qe<|Qb ?_;have hv:=ht.D gl;have S:=hq.D hv;have T:=(hJ.I hk).I S;have gm:=hZ.I S;have gn:=gh.I hv;have hH:=QkT (R:=R2) (w:=hu);rw[show(R2.t && R2.o && R2.c)=true by rw[t2,o2,hh];rfl]at hH;have et:R1.t=true:=Y;have go:R1.c=false:=ha;have eev:R1.ev=1:=e1;refine QX (α:=Unit) [(0,0),(35,79)] (λz=>[(0,.bool true)]) (λz w'=>sW hu w') oh ?_ ?_
 ·refine Qs<|Qa<|xb (Zd O O) (λhw=>?_) (λhw=>OW O hw);refine Qa<|Zc O<|xB (Ql (u:=.bool R1.t) T O O) (λhy=>?_) (λhy=>OW (et.symm.D hy) og);refine QB O<|Qa<|Qq O (u:=.bool R1.c) T O O<|xB (Zl (b:=R1.c) O) (λhz=>?_) (λhz=>OW hz (by rw[go];decide));refine QB O<|Qa<|Qq O (u:=sS R1.ev) T O O<|xb (Zd O O) (λh0=>?_) (λh0=>OW eev h0);refine QB O<|Qa<|Qa<|xb (Zd O O) (λh1=>?_) (λh1=>OW O h1);refine QB O<|Qa<|QV gm O O<|Qv<|hH.S ?_;rintro kc ke ⟨rfl,h2⟩;refine QB O<|Qa<|Qa<|xb (Zd O O) (λh3=>?_) (λh3=>OW O h3);refine QB O<|Qa<|Qa<|Qo<|Yi (us:=[[sS 0],[sS 1],[sS 2]]) O O og od ⟨rfl,rfl,rfl,rfl,rfl,rfl,Z⟩ λkf kg h4 kh gq=>?_;have hSm:=Qgh ((gn.I h2).I h4) (QoD gq);rw[show decide (([0,1,2]:LI)=[0,1,2])=true from by decide]at hSm;refine Qv<|hSm.S ?_;rintro ki gr ⟨rfl,gs⟩;refine QB O<|Qa<|Qa<|xb (Zd O O) (λh5=>?_) (λh5=>OW O h5);refine QB O<|Qa<|Qa<|QB O<|Qa<|Qa<|QG (QqK (L:=[]) (H:=↑gr)) O<|x (Zd O O)<|QB O<|Qb<|⟨(),La,(h2.D h4).D gs⟩
 rintro z g kj gt;exact Qh ⟨[.bool true],La,O,(J.D S).D gt⟩
theorem yR (E:Kb w 4096):QR sV 10 [] w λr w'=>r=.bool true/\sW w w':=by
 refine Zm func10 ?_;refine Qc<|Qb<|QX (α:=Unit) [(0,4)] (λz=>[(0,.bool true)]) (λz w'=>sW w w') oh ?_ ?_
 ·refine Qs<|Qv<|(QdV E).S ?_;rintro S T ⟨rfl,G⟩;refine Qa<|Qv<|(QeF (E.I G)).S ?_;rintro r2 U ⟨rfl,I⟩;refine QB O<|Qb<|⟨(),La,G.D I⟩
 rintro z g V J;exact Qh ⟨[.bool true],La,O,J⟩
def V8 (l:List X5):Int:=l.foldl (λn x=>n*max 1 x.a.st) 1
theorem QhX (l:List X5)(x:X5):V8 (l++[x])=V8 l*max 1 x.a.st:=by unfold V8;rw[Mj];rfl
theorem stF:∀(l:List X5) (n:Int),1<=n->(∀x∈l,x.a.st<=3)->1<=l.foldl (λn x=>n*max 1 x.a.st) n/\l.foldl (λn x=>n*max 1 x.a.st) n<=n*3 ^ l.length
 | [],n,h,_=>⟨h,od⟩
 | x::l,n,h,E=>by
  have S:=E x Lm;have G:1<=max 1 x.a.st/\max 1 x.a.st<=3:=oa
  have T:1*1<=n*max 1 x.a.st:=Int.mul_le_mul h G.1 og oa;obtain⟨I,i2⟩:=stF l (n*max 1 x.a.st) oa λy J=>E y (Lk _ J);refine⟨I,Int.le_trans i2 ?_⟩;rw[LL,Int.pow_succ,Int.mul_comm (3 ^ l.length) 3,<-Int.mul_assoc];exact Int.mul_le_mul_of_nonneg_right (Int.mul_le_mul_of_nonneg_left G.2 oa) (Int.pow_nonneg og)
theorem Qlr {l:List X5}(h:∀x∈l,x.a.st<=3):1<=V8 l/\V8 l<=3 ^ l.length:=by
 have:=stF l 1 og h;rw[Int.one_mul]at this;exact this
theorem qB (h:ZP [] ↑w c)(hl:c.co.length<=3)(J:∀x∈c.C.co,x.a.st<=3):
  QR sV 48 [c.val] w λr w'=>r=sS (V8 c.C.co)/\sW w w':=by
 refine Zm func48 ?_;refine Qc<|Za c.cells λb1 w1 S hg T=>Qb<|Qc<|Qb<|Qd<|Qc<|Qb ?_;have U:=h.co.arr.I S;refine QW (α:=Nat) [(3,21)] (λz=>[(3,sS (V8 ((c.co.take z).map (·.it)))),(4,sS z)]) (λz w'=>z<=c.co.length/\w'=w1) (λz=>c.co.length - z) 0 ov ⟨Lo _,O⟩ ?_;rintro k g w2 ⟨hk,rfl⟩;refine Qd<|Qk<|Qq O T O O<|QG U O<|ZX O O<|xe<|Zr rfl (λI=>?_) (λI=>?_)
 ·refine Qt ?_;have ha:c.co.length<=k:=by have hc:¬(k:Int)<(c.co.length:Int):=I;omega
  refine Qk<|Qb<|Qh ⟨[_],La,by rw[Lq ha];rfl,S⟩
 have E:k<c.co.length:=by have hc:(k:Int)<(c.co.length:Int):=I;omega
 have he:(c.co[k]'E).p.a.st<=3:=J (c.co[k]'E).it (LG (Le E));have ht:(c.co.take (k+1)).map (·.it)=(c.co.take k).map (·.it)++[(c.co[k]'E).it]:=by rw[Lj E,Lv];rfl
 have hb:=Qlr (l:=(c.co.take k).map (·.it)) λy hy=>by
  obtain⟨q,G,rfl⟩:=Ly.1 hy;exact J q.it (LG (L3 G))
 have hf:V8 ((c.co.take k).map (·.it))<=27:=Int.le_trans hb.2 (by
  rw[Ll,LC,MZ hk];have:k=0\/k=1\/k=2:=oa
  rcases this with rfl|rfl|rfl <;> decide)
 have V:V8 ((c.co.take (k+1)).map (·.it))=V8 ((c.co.take k).map (·.it))*max 1 (c.co[k]'E).p.a.st:=by rw[ht,QhX];rfl
 refine Zg (c.co[k]'E) λq G=>?_;rw[G]at he V;have hm:1<=max 1 q.p.a.st/\max 1 q.p.a.st<=3:=oa
 have hh:(0:Int)<=V8 ((c.co.take k).map (·.it))*max 1 q.p.a.st:=Int.mul_nonneg oa oa;have hj:V8 ((c.co.take k).map (·.it))*max 1 q.p.a.st<=27*3:=Int.mul_le_mul hf hm.2 oa og;refine Qf<|Qd<|Qn<|Qs<|Qa<|Qq O T O O<|Qa<|O8 (g:=QZ) (i:=k) (λ_=>O) U O O E λhn Y=>?_;rw[G]at Y;refine x (ZI O)<|x (ZI O)<|x (Qr (Y.fld 2 _ O) O)<|x (Qqg O O)<|x (Qe4 O O ⟨oa,oa⟩)<|Qb<|Qs<|Qa<|QD O O<|Qb<|⟨k+1,by show c.co.length - (k+1)<c.co.length - k;omega,⟨OV sS V.symm,O,Z⟩,E,O⟩
theorem QkV (h:ZP [] ↑w c)(hl:c.co.length<=3)(G:∀x∈c.C.co,x.a.st<=3):
  QR sV 13 [c.val] w λr w'=>r=.bool (decide (V8 c.C.co<=9))/\sW w w':=by
 refine Zm func13 ?_;refine Qc<|Za c.cells λS T E U I=>Qb<|Qc<|QV I O O<|Qv<|(qB (h.I E) hl G).S ?_;rintro r2 V ⟨rfl,J⟩;refine x (X6 O O)<|Qb<|Qh ⟨[_],La,O,E.D J⟩
def jo:List Qz->List (LI)
 | []=>[[]]
 | a::l=>(Yu a.st.toNat).flatMap λs=>(jo l).map (s::·)
theorem Qjb {α β:Type}(f:α->List β)(n:Nat):∀(l:List α),(∀a∈l,(f a).length=n)->(l.flatMap f).length=l.length*n
 | [],_=>od
 | a::l,h=>by rw[LK,Lc,h a Lm,Qjb f n l λb hb=>h b (Lk _ hb),LL,OO,MV]
theorem jn:∀l:List Qz,(jo l).length=(l.map (·.st.toNat)).foldr (·*·) 1
 | []=>rfl
 | a::l=>by
  rw[jo,Qjb _ (jo l).length _ λs _=>Ll _,jn l];have:(Yu a.st.toNat).length=a.st.toNat:=by simp[Yu]
  rw[this];rfl
theorem QiY:∀(l m:List (LI)),l.Nodup->(∀x∈l,x∈m)->l.length<=m.length
 | [],_,_,_=>Lo _
 | x::l,m,J,E=>by
  have G:=List.nodup_cons.1 J;have hx:=E x Lm;have:=QiY l (m.erase x) G.2 λy I=>(List.mem_erase_of_ne (a:=y) (b:=x) (λe=>G.1 (by rw[<-e];exact I))).2 (E y (Lk _ I));rw[List.length_erase_of_mem hx]at this;have S:0<m.length:=List.length_pos_of_mem hx;rw[LL];omega
theorem QhA:∀(aa:List Qz) (t:LI),Vt aa t->t∈jo aa
 | [],t,h=>by
  have:t=[]:=Lt h.1;rw[this];exact Lb.2 O
 | a::l,[],h=>by have:=h.1;simp at this
 | a::l,s::u,h=>by
  have E:=h.2 0 od od;have G:Vt l u:=⟨by have:=h.1;simpa using this,λi hi I=>by
   have:=h.2 (i+1) (ou hi) (ou I);simpa using this⟩
  have J:0<=s/\s<a.st:=by simpa using E
  rw[jo];exact Md.2 ⟨s,(Kf _ _).2 ⟨J.1,oa⟩,Ly.2 ⟨u,QhA l u G,O⟩⟩
theorem Qam {Q:List (LI)}(E:Q.Nodup)(G:∀t∈Q,Vt aa t):Q.length<=(aa.map (·.st.toNat)).foldr (·*·) 1:=by
 rw[<-jn];exact QiY Q _ E λt I=>QhA aa t (G t I)
abbrev QgW (a:Qz):Cs:=Xd a a.st.toNat 0 (Z3 a)
theorem cn0 (S:0<a.st):CnG a 0 (Z3 a):=by
 have G:0<a.st.toNat:=oa
 refine⟨⟨by simp[Z3],λs E=>by simp[Z3]at E;subst E;omega,by simp[Z3],λk T k1=>?_⟩,Lo _,⟨by simp[Z3,Z9],by simp[Z3]⟩,by simp[Z3],by simp[Z3],λj U=>oa⟩;by_cases ek:k=0
 ·subst ek;rw[OU (by simp[Z3])];unfold Z9 Z3;simp[oO,G]
 rw[OT (by simpa[Z3]using ek)];unfold Z3;have I:0≠k.toNat:=oa
 have J:k.toNat<a.st.toNat:=oa
 unfold Z9;rw[List.getD_eq_getElem?_getD,MT I];simp[J]
theorem Qpn (I:Q0 a)(J:0<a.st):CnP a (QgW a).ord/\Xw a=⟨a.al,((QgW a).ord.length:Int),(QgW a).mk',(QgW a).ed⟩/\(QgW a).ord.length<=a.st.toNat:=by
 obtain⟨S,E,U⟩:=qr I a.st.toNat 0 (Z3 a) (cn0 J);have T:(Xd a a.st.toNat 0 (Z3 a)).ord.length<=a.st.toNat:=xH _ _ E.nu.nd (λx hx=>oo (E.nu.bd x hx));have hi':S=(Xd a a.st.toNat 0 (Z3 a)).ord.length:=by have:=E.le;omega
 subst hi';have G:Xw a=⟨a.al,((Xd a a.st.toNat 0 (Z3 a)).ord.length:Int),(Xd a a.st.toNat 0 (Z3 a)).mk',(Xd a a.st.toNat 0 (Z3 a)).ed⟩:=by unfold Xw;rw[OT oa]
 refine⟨⟨E.nu.nd,E.nu.bd,E.hd,by rw[G],by rw[G],?_,?_,E.cl⟩,G,T⟩
 ·rw[G];exact E.mk2
 rw[G];exact E.ed
def pst (v:Int)(a:Qz)(x:Int):Option Int:=if v∈a.al then xj a.ed x v else some x
def nx (v:Int)(A:Nat->Qz)(x:Nat->Int)(i:Nat):Int:=(pst v (A i) (x i)).getD 0
abbrev i2 (p:Int×Int):LV:=[sS p.1,sS p.2]
abbrev i5 (a:ByteArray)(b c e:Bool)(i:Int):LV:=[.string a,.bool b,.bool c,.bool e,sS i]
open Go.ChangeShapes Go.WideShapes Go.RowKit
section
variable {H:Type}{enc:TypeId×O2->H}
theorem j8 (hl:laidOutB P=true){W W':O1}(hS:sW W W'){sp:Nat->Bool}:∀{ts:List TypeId}{vs:LV}{ds:List (DataW H)}{ps:List MemPlace},
  (ts.all λt=>P.readableRec t && decide (t<P.types.size))=true->DataW.TrodAll enc P W 0 (λ_=>true) true ts vs ds ps->(∀x∈ps,x.block<↑W)->(∀x∈ps,sp x.block=true)->DataW.TrodAll enc P W' 0 sp true ts vs ds ps
 | [],vs,ds,ps,_,h,_,_=>by
  obtain⟨rfl,rfl,rfl⟩:=trodAll_nil h;exact trodAll_mk0
 | t::ts,vs,ds,ps,E,h,G,hsp=>by
  obtain⟨v,S,d,ds1,a,b,rfl,rfl,rfl,I,J⟩:=trodAll_cons h;simp only[Ob,oI,decide_eq_true_eq]at E;have hb:Below ↑W W W':=hS.below;refine trodAll_cons_mk (WideElems.Trod_stays hl E.1.1 E.1.2 I (λx hx=>hb.same (G x (LM _ hx))) (λx hx=>hsp x (LM _ hx))) ?_;exact j8 hl hS (ou E.2) J (λx hx=>G x (MN _ hx)) (λx hx=>hsp x (MN _ hx))
theorem Qjc {f:Func}{s:ChangeSpec}{apart fresh handsOn again:Bool}{W:O1}{args:Array O2}{ds gs:List (DataW H)}{before:List MemPlace}{tb:TypeId}
  (hl:laidOutB P=true) (hf:(f.params.toList.all λt=>P.readableRec t && decide (t<P.types.size))=true) (J:f.resultTypes=#[tb]) (S:P.underlying tb=some .bool) (T:s.vars=[])
  (E:s.fn H (ds++gs)={ results:=[.lit (.bool true)],args:=ds })
  (G:DataW.Whole enc P f.params.toList s.vars apart W args.toList ds gs before) (hS:sW W W'):s.post enc P f apart fresh handsOn again W args (.bool true) W':=by
 have I:=G.lt;have hg:=G;obtain⟨p,q,hA,U,rfl,hz,hn⟩:=G;rw[T]at U;obtain⟨rfl,rfl⟩:=trodVars_none U;rw[LF]at *;have V:∀sp:Nat->Bool,(∀x∈p,sp x.block=true)->DataW.TrodAll enc P W' 0 sp true f.params.toList args.toList ds p:=λsp hsp=>j8 hl hS hf hA I hsp;have Y:∀(b:Nat) (sp:Nat->Bool) (hd:Bool),DataW.TrodAll enc P W' b sp hd f.resultTypes.toList ((Value.bool true).resultList f.resultTypes.size) [.lit (.bool true)] []:=λb sp hd=>by
  rw[J];exact trodAll_mk1 (shut_bool S true)
 have hb:Below ↑W W W':=hS.below;have hc:∀sp:Nat->Bool,DataW.TrodVars enc P W' sp s.vars ([]:List (DataW H)) []:=λsp=>by rw[T];rfl
 have hh:(s.fn H ds).results=[.lit (.bool true)]:=by rw[E]
 have hj:(s.fn H ds).args=ds:=by rw[E]
 have hk:(s.fn H ds).vars=[]:=by rw[E]
 have hok:∀(j:Nat) (t:TypeId) (r:O2),f.resultTypes[j]?=some t->((Value.bool true).resultList f.resultTypes.size)[j]?=some r->Value.okWide P W' .any 0 t r:=ok_one J O (okWide_bool_mk S true);refine⟨ds,[],p,[],p,[],hg,?_,?_,?_,?_,λ_=>⟨hok,[.lit (.bool true)]++ds,[],([]++p)++[],⟨[]++p,[],?_,?_,O,?_,?_⟩,?_⟩⟩
 ·rw[LF,hh];exact Y _ _ _
 ·rw[LF,hj];exact V _ (λx hx=>ou (I x hx))
 ·rw[LF,hk];exact hc _
 ·exact World.keptBut_mono (λ_ f=>f.elim) (hb.frame (λ_=>False))
 ·exact trodAll_append (V _ (λ_ _=>O)) (Y _ _ _)
 ·exact hc _
 ·intro b off hp;have he:MemPlace.cell b off∈p:=by simpa using hp
  rw[hb.frozen (p:=⟨b,off,none⟩) (I _ he)];exact hz b off he
 ·intro ha;have:=hn ha;simpa using this
 intro x hx _;simpa using hx
end
open Go.ChangeShapes Go.WideShapes Go.RowKit Go.Lg
theorem Qen:∀(l:LV),(∀v∈l,∃n:Nat,v=.int .u8 (n:Int)/\n<256)->∃ns:LN,l=bys ns/\ns.length=l.length/\∀n∈ns,n<256
 | [],_=>⟨[],O,O,od⟩
 | v::l,h=>by
  obtain⟨n,rfl,G⟩:=h v Lm;obtain⟨ns,I,J,S⟩:=Qen l (λv T=>h v (Lk _ T));refine⟨n::ns,by rw[I];rfl,by simp[J],λm E=>?_⟩;rcases Ln.1 E with rfl|E
  ·exact G
  exact S m E
theorem QnZ {n:Int}(h:(Lit.int .u8 n).wf=true):∃m:Nat,n=m/\m<256:=by
 simp only[Lit.wf,oI,decide_eq_true_eq]at h;rw[show IntKind.u8.min=0 from rfl,show IntKind.u8.max=255 from rfl]at h;exact⟨n.toNat,oa,oa⟩
theorem Qob {b:Nat}{s:TypeId×Nat}(h:w.shape? b=some s):b<w.heap.size:=by
 unfold World.shape? at h;cases hb:w.heap[b]? with
 | none=>simp[hb]at h
 | some o=>exact(LH.1 hb).1
theorem Qmy {a:Addr}{e:TypeId}(h:w.has P .any base a e n):a.block<w.heap.size:=by
 obtain⟨_,_,row,cells,E,_⟩:=h;exact Qob E
theorem Qlu {t e:TypeId}{a:Addr}{c:Nat}(E:P.underlying t=some (.slice e))(h:Cell.okWide P w .any base t (.slice (some a) n c)):a.block<w.heap.size:=by
 simp only[Cell.okWide,Cell.ok,E]at h;exact Qmy h.2.2
theorem Qi4 {α:Type}{p:Nat->α->Prop}:∀(n:Nat),(∀i,i<n->∃e,p i e)->∃l:List α,l.length=n/\∀i (h:i<l.length),p i (l[i]'h)
 | 0,_=>⟨[],O,λi h=>by simp at h⟩
 | n+1,h=>by
  obtain⟨l,E,I⟩:=Qi4 n (λi hi=>h i oa);obtain⟨e,J⟩:=h n oa;refine⟨l++[e],by simp[E],λi hi=>?_⟩;by_cases G:i<l.length
  ·rw[Mt G];exact I i G
  have:i=n:=by simp at hi;omega
  subst this;rw[Ng oa];simpa[E]using J
theorem zZ {α:Type}{f:α->Option O2}:∀{L:List α}{l:LV},L.mapM f=some l->l.length=L.length/\∀(i:Nat) (a:α),L[i]?=some a->f a=l[i]?
 | [],l,h=>by
  simp at h;subst h;exact⟨O,λi a h=>by simp at h⟩
 | x::L,l,h=>by
  simp only[List.mapM_cons,Option.bind_eq_bind,Option.pure_def,Option.bind_eq_some_iff]at h;obtain⟨v,E,T,G,I⟩:=h;cases I
  obtain⟨J,S⟩:=zZ G;refine⟨by simp[J],λi a hi=>?_⟩;cases i with
  | zero=>simp at hi;subst hi;simpa using E
  | succ i=>simpa using S i a (ou hi)
def kT (P:O4)(k:IntKind):Nat->TypeId->Bool
 | 0,_=>false
 | m+1,t=>match P.underlying t with
  | some (.int k')=>k' == k
  | some (.array n e)=>kT P k m e && decide (0<P.cellsOf e) && decide (P.cellsOf t=n*P.cellsOf e)
  | some (.struct fs)=>(oJ (P.cellsOf t)).all λj=>fs.toList.any λf=>kT P k m f.type && decide (f.offset<=j/\j<f.offset+P.cellsOf f.type)
  | _=>false
theorem Qbf {o:Nat}{c:O2}(h:cs[j]?=some c)(E:o<=j)(G:j<o+n):c∈(cs.drop o).take n:=by
 refine Ml (i:=j - o) ?_;rw[L2,OU oa,MG,show o+(j - o)=j by omega];exact h
section
variable {H:Type}{enc:TypeId×O2->H}{W:O1}{b0:Nat}{sp:Nat->Bool}{held:Bool}
theorem Ur {k:IntKind}:∀(m:Nat) {t:TypeId}{cs:LV}{fuel:Nat}{x:DataW H×List MemPlace},kT P k m t=true->DataW.trod enc P W b0 sp held fuel t cs=some x->∀c∈cs,∃n,c=.int k n/\(Lit.int k n).wf=true
 | 0,_,_,_,_,h,_,_,_=>by cases h
 | m+1,t,cs,fuel,x,h,J,c,S=>by
  unfold kT at h;obtain⟨j,V,Y⟩:=LP S;have U:cs[j]?=some c:=by rw[LE V,Y]
  split at h
  ·rename_i k' G;have hk:k'=k:=by simpa using h
   subst hk;obtain⟨n,T,_,E⟩:=DataW.trod_int G J;rw[T]at S;exact⟨n,Lb.1 S,E⟩
  ·rename_i n e G;simp only[oI,decide_eq_true_eq]at h;obtain⟨⟨T,E⟩,h3⟩:=h;obtain⟨xs,m',_,_,hl,ha,hx⟩:=DataW.trod_array G J;have he:=Nat.div_add_mod j (P.cellsOf e);have ho:=Nat.mod_lt j E;have hi:j / P.cellsOf e<n:=by
    refine(Nat.div_lt_iff_lt_mul E).2 ?_;omega
   have I:=hx (j / P.cellsOf e) hi;rw[LE (show j / P.cellsOf e<xs.length by omega)]at I;rw[Nat.mul_comm]at he;exact Ur m T I c (Qbf U oa oa)
  ·rename_i fs G;obtain⟨xs,m',_,_,hl,ha,hx⟩:=DataW.trod_struct G J;obtain⟨f,hg,E⟩:=Ni.1 (Mc.1 h j (MB.2 oa));simp only[oI,decide_eq_true_eq]at E;obtain⟨i,hi,hh⟩:=LP hg;have hm:i<fs.size:=by simpa using hi
   have hn:fs[i]?=some f:=by rw[MF hm,<-hh];simp
   have I:=hx i f hn;rw[LE (show i<xs.length by omega)]at I;exact Ur m E.1 I c (Qbf U E.2.1 E.2.2)
  cases h
theorem Vr {k:IntKind}{fs:Array Field}{xs:List (DataW H×List MemPlace)}{I:Nat}(V:xs.length=fs.size)
  (hx:∀(i:Nat) (f:Field),fs[i]?=some f->DataW.trod enc P W b0 sp held I f.type ((cs.drop f.offset).take (P.cellsOf f.type))=xs[i]?)  {f:Field} {c:O2} (E:fs[i]?=some f) (J:kT P k m f.type=true) (S:f.offset<=j) (T:j<f.offset+P.cellsOf f.type) (U:cs[j]?=some c):
  ∃n,c=.int k n/\(Lit.int k n).wf=true:=by
 have G:=hx i f E;have hi:i<fs.size:=(LH.1 E).1;rw[LE (show i<xs.length by omega)]at G;exact Ur m J G c (Qbf U S T)
theorem Qdr {c:O2}(h:∃n,c=.int .u8 n/\(Lit.int .u8 n).wf=true):∃n:Nat,c=.int .u8 (n:Int)/\n<256:=by
 obtain⟨n,rfl,E⟩:=h;obtain⟨m,rfl,G⟩:=QnZ E;exact⟨m,O,G⟩
end
theorem Qqs {W:O1}{ts:List TypeId}{cs:Array O2}(h:∀(i:Nat) (v:O2),cs[i]?=some v->∃u,ts[i % ts.length]?=some u/\Cell.okWide P W .any base u v)(i:Nat)(t:TypeId)(v:O2)(G:cs[i]?=some v)(I:ts[i % ts.length]?=some t):Cell.okWide P W .any base t v:=by
 obtain⟨u,E,k⟩:=h i v G;rw[I]at E;cases E
 exact k
theorem Qo5 {H:Type}{enc:TypeId×O2->H}{W:O1}{b0:Nat}{sp:Nat->Bool}{held:Bool}{fs:Array Field}{xs:List (DataW H×List MemPlace)}
  (h:∀(i:Nat) (f:Field),fs[i]?=some f->DataW.trod enc P W b0 sp held m f.type ((cs.drop f.offset).take (P.cellsOf f.type))=xs[i]?) (i:Nat) {f:Field} {o:Nat} {c:O2} (E:fs[i]?=some f) (G:f.type=t) (I:f.offset=o) (J:P.cellsOf t=1) (S:(cs.drop o).take 1=[c]) (hi:i<xs.length):
  DataW.trod enc P W b0 sp held m t [c]=some (xs[i]'hi):=by
 have e:=h i f E;rw[G,I,J,S]at e;rw[e];simp[hi]
theorem Qqa {W:O1}{l:List (String×DataW Unit)}{a b:String×DataW Unit}(hl:l=[a,b,("internal/strconv.uint64pow10",Lib.tabData .u64 Lib.pow10Tab)]) (h:laidMetH sV l W) (E:(l.all λx=>x.2.handleName?.isNone)=true):Tb W:=by
 rw[Go.MakeChecks.laidMetH_plain _ _ _ E,hl]at h;exact Lib.tabIs_of_head (n:=20) (g:=0) oc (t:=410) oc oc (e:=319) oc oc oc h.tail.tail
structure PwV where
 ns:LN
 ad:Option Addr
 n:Nat
 cp:Nat
 f0:Int
 f1:Int
 f2:Int
 bd:Int
def PwV.pl (l:PwV)(rs:List X4V):PlV:=⟨l.ns,.slice l.ad l.n l.cp,rs,l.f0,l.f1,l.f2,l.bd⟩
abbrev Z5 (l:PwV):LV:=bys l.ns++[.slice l.ad l.n l.cp,.int .i8 l.f0,.int .i8 l.f1,.int .i8 l.f2,.int .i8 l.bd]
structure PwA (w:O1)(l:PwV):Prop where
 n:l.ns.length=147
 b:∀n∈l.ns,n<256
 f0:i8R l.f0
 f1:i8R l.f1
 f2:i8R l.f2
 bd:i8R l.bd
 r:l.n<=4->∃rs:List X4V,rs.length=l.n/\Zt [] ↑w (.slice l.ad l.n l.cp) l.n 4 (rs.flatMap Xi)
theorem PwA.pl {w w':O1}{l:PwV}(h:PwA w l)(G:sW w w')(I:l.n<=4):∃rs,PlA [] ↑w' (l.pl rs)/\rs.length=l.n:=by
 obtain⟨rs,E,J⟩:=h.r I;exact⟨rs,⟨h.n,h.b,by show Zt _ _ _ rs.length 4 _;rw[E];exact J.I G,h.f0,h.f1,h.f2,h.bd⟩,E⟩
theorem Qqh {l:PwV}(h:l.ns.length=147):(Z5 l)[147]?=some (.slice l.ad l.n l.cp):=by
 show(Z5 l)[147+0]?=_;rw[Z5,Mn (by rw[Xx];omega),Xx,h,M1];rfl
theorem Qfr {c:O2}(h:∃n,c=.int .i8 n/\(Lit.int .i8 n).wf=true):∃n:Int,c=.int .i8 n/\i8R n:=by
 obtain⟨n,rfl,h⟩:=h;simp only[Lit.wf,oI,decide_eq_true_eq]at h;rw[show IntKind.i8.min=-128 from rfl,show IntKind.i8.max=127 from rfl]at h;exact⟨n,O,oa⟩
def QnO (P:O4)(fs:Array Field)(n:Nat):Bool:=(oJ n).all λj=>fs.toList.any λf=>kT P .u8 5 f.type && decide (f.offset<=j/\j<f.offset+P.cellsOf f.type)
section
variable {H:Type}{enc:TypeId×O2->H}{W:O1}{b0:Nat}{sp:Nat->Bool}{held:Bool}
theorem Qky {fs:Array Field}{xs:List (DataW H×List MemPlace)}(h:QnO P fs n=true)(G:xs.length=fs.size)
  (hx:∀(i:Nat) (f:Field),fs[i]?=some f->DataW.trod enc P W b0 sp held m f.type ((cs.drop f.offset).take (P.cellsOf f.type))=xs[i]?)  {c:O2} (I:j<n) (J:cs[j]?=some c):∃k:Nat,c=.int .u8 (k:Int)/\k<256:=by
 obtain⟨f,S,E⟩:=Ni.1 (Mc.1 h j (MB.2 I));simp only[oI,decide_eq_true_eq]at E;obtain⟨i,hi,T⟩:=LP S;have U:i<fs.size:=by simpa using hi
 have V:fs[i]?=some f:=by rw[MF U,<-T];simp
 exact Qdr (Vr G hx V E.1 E.2.1 E.2.2 J)
theorem Qq0 {t e:TypeId}{c:O2}{fuel:Nat}{x:DataW H×List MemPlace}(J:P.underlying t=some (.slice e))(he:kT P .u8 5 e=true)(hc:P.cellsOf e=4)
  (hok:Cell.okWide P W .any base t c) (hf:DataW.trod enc P W b0 sp held fuel t [c]=some x):∃a n cp,c=.slice a n cp/\(n<=12->∃u:List X4V,u.length=n/\Zt [] ↑W (.slice a n cp) n 4 (u.flatMap Xi)):=by
 rcases DataW.trod_slice J hf with⟨E,_⟩|⟨a,len,cap,elems,rest,m,_,E,_,_,hl,_,hm,hg,_,_⟩
 ·simp at E;subst E;exact⟨none,0,0,O,λ_=>⟨[],O,Zt.nil _ _ _⟩⟩
 simp at E;subst E;refine⟨some a,len,cap,O,λhn=>?_⟩;have each:∀i,i<len->∃d:X4V,∀r v,(Xi d)[r]?=some v->W.cell? (a.add (i*4+r))=some v:=by
  intro i hi;have S:=hg i hi;rw[hc,LE (show i<elems.length by omega)]at S;obtain⟨cs,E,hh⟩:=MP.1 S;obtain⟨ns,h1,h2,I⟩:=Qen cs (λv G=>Qdr ((Ur 5 he hh) v G));unfold World.cells? at E;split at E
  ·have ho:cs.length=4:=by
    simpa using(zZ E).1
   refine⟨⟨ns,oa,I⟩,λr v G=>?_⟩;have T:cs[r]?=some v:=by rw[h1];exact G
   have hk:r<4:=by have:=(Mh.1 T).1;omega
   have U:=(zZ E).2 r r (by simp[hk]);rw[Lg.Addr.add_add,T]at U;exact U
  cases E
 obtain⟨u,V,hu⟩:=Qi4 len each;refine⟨u,V,?_⟩;have Y:(u.flatMap Xi).length=u.length*4:=Go.Lg.Vd Xi 4 zz u;refine⟨by rw[Y,V],oa,.inr ⟨a,cap,rfl,oa,λ_ _=>od,λ_ _=>Qlu J hok,λj v G=>?_⟩⟩;have hj:j<u.length*4:=by
  rw[<-Y];exact(Mh.1 G).1
 have hi:j / 4<u.length:=oa
 have ha:j=j / 4*4+j % 4:=oa
 have I:(Xi (u[j / 4]'hi))[j % 4]?=some v:=by
  rw[<-(Jf Xi 4 zz u (j / 4) hi),L2,OU (Nat.mod_lt _ oa),MG,<-ha];exact G
 rw[<-Kl];have:=hu (j / 4) hi (j % 4) v I;rw[<-ha]at this;exact this
theorem Qg6 {v:O2}{d:DataW H}{ps:List MemPlace}{tp te:Nat}{fs:Array Field}{S J f9:Field}(V:P.underlying t=some (.struct fs))(Y:(P.cellTypes P.depth t).map (λts=>(ts.length,ts[147]?))=some (152,some tp))(hc:P.cellsOf t=152)
  (g7:fs[7]?=some S) (T:fs[8]?=some J) (g9:fs[9]?=some f9) (hk:S.type=tp) (o7:S.offset=147) (o8:J.offset=148) (o9:f9.offset=151) (c7:P.cellsOf tp=1) (c8:P.cellsOf J.type=3) (c9:P.cellsOf f9.type=1)
  (kb:QnO P fs 147=true) (k8:kT P .i8 5 J.type=true) (k9:kT P .i8 5 f9.type=true) (hn:P.underlying tp=some (.slice te)) (ho:kT P .u8 5 te=true) (hp:P.cellsOf te=4)
  (ha:Value.okWide P W .any base t v) (h:DataW.Trod enc P W b0 sp held t v d ps):∃l:PwV,v=sT (Z5 l)/\PwA W l:=by
 simp only[Value.okWide,V]at ha;obtain⟨cs,rfl,he,ts,hq,_,hr⟩:=ha;rw[hq]at Y;have hg:=Option.some.inj Y;have hs:ts.length=152:=OV Prod.fst hg;have ht:ts[147]?=some tp:=OV Prod.snd hg;rw[hc]at he;obtain⟨l⟩:=cs;have hl:l.length=152:=he;obtain⟨fuel,hf⟩:=h;obtain⟨xs,m,_,_,_,G,hv⟩:=DataW.trod_struct V hf;have E:∀(i:Nat) (f:Field),fs[i]?=some f->DataW.trod enc P W b0 sp held m f.type ((l.drop f.offset).take (P.cellsOf f.type))=xs[i]?:=hv;have h0:7<fs.size:=(LH.1 g7).1;have g0:∀c∈l.take 147,∃n:Nat,c=.int .u8 (n:Int)/\n<256:=λc hm=>by
  obtain⟨j,hj,hh⟩:=LP hm;have hw:j<147:=by simp at hj;omega
  have hy:l[j]?=some c:=by
   rw[M6]at hh;rw[LE oa,hh]
  exact Qky kb G E hw hy
 obtain⟨ns,e1,e2,e3⟩:=Qen _ g0;have hz:ns.length=147:=by rw[e2];simp;omega
 have I:∀j,j<152->∃c,l[j]?=some c:=λj hj=>⟨l[j]'oa,LE oa⟩;obtain⟨U,q1⟩:=I 147 oa;obtain⟨x2,q2⟩:=I 148 oa;obtain⟨x3,q3⟩:=I 149 oa;obtain⟨x4,q4⟩:=I 150 oa;obtain⟨x5,q5⟩:=I 151 oa;have hld:l.drop 147=[U,x2,x3,x4,x5]:=by
  apply Nn;intro i;rw[MG]
  match i with
  | 0=>exact q1
  | 1=>exact q2
  | 2=>exact q3
  | 3=>exact q4
  | 4=>exact q5
  | i+5=>rw[Mq oa];rfl
 obtain⟨y2,rfl,z2⟩:=Qfr (Vr G E T k8 oa oa q2);obtain⟨y3,rfl,z3⟩:=Qfr (Vr G E T k8 oa oa q3);obtain⟨y4,rfl,z4⟩:=Qfr (Vr G E T k8 oa oa q4);obtain⟨y5,rfl,z5⟩:=Qfr (Vr G E g9 k9 oa oa q5);obtain⟨a,n,cp,rfl,hP⟩:=Qq0 hn ho hp (Qqs hr 147 tp U (ou q1) (by rw[hs];exact ht)) (Qo5 (c:=U) E 7 g7 hk o7 c7 (by rw[hld];rfl) oa);refine⟨⟨ns,a,n,cp,y2,y3,y4,y5⟩,?_,hz,e3,z2,z3,z4,z5,λh3=>hP (by have h4:n<=4:=h3;omega)⟩;show Value.agg l.toArray=sT (bys ns++_);rw[<-e1,<-hld,MA]
end
theorem Qq1 {H:Type}{enc:TypeId×O2->H}{W:O1}{b0:Nat}{sp:Nat->Bool}{held:Bool}{v:O2}{d:DataW H}{ps:List MemPlace}(E:Value.okWide sV W .any base 36 v)(h:DataW.Trod enc sV W b0 sp held 36 v d ps):
  ∃l:PwV,v=sT (Z5 l)/\PwA W l :=
 Qg6 underlying36 (tp:=32) oc oc O O O O O O O oc oc oc oc oc oc underlying32 oc oc E h
theorem QkK {l:PwV}(h:PwA w l):QR sV 11 [sT (Z5 l)] w λr w'=>r=.bool (decide (l.n<=4))/\sW w w':=by
 refine Zm func11 ?_;refine Qc<|Za (Z5 l) λI J E S G=>Qb<|Qc<|Qq O G O (Qqh h.n)<|x (jA O)<|x (X6 O O)<|Qb<|Qh ⟨[_],La,?_,E⟩;exact OV Value.bool (decide_eq_decide.2 oa)
theorem Qd2 (h:YA l):l.Nodup:=List.Pairwise.imp (λh=>oa) h
theorem UE {c:Z2}(h:D25 c):(∀a∈O7 c.co++O7 c.rq,GdA a):=λa E=>by
 rcases Lh.1 E with E|E
 ·obtain⟨x,hx,rfl⟩:=Ly.1 E;exact(h.co x hx).2.1
 obtain⟨x,hx,rfl⟩:=Ly.1 E;exact(h.rq x hx).2.1
theorem Xy (l:List X5):(O7 l).length=l.length:=by unfold O7;rw[Ll]
theorem Vb (h:∀a∈aa,GdA a)(hl:aa.length<=5):KR aa=0/\∃z,xo aa=some z:=by
 refine⟨?_,QbF (k:=3) (λa E=>(h a E).ok) (λa E=>(h a E).s) ?_⟩
 ·unfold KR;rw[OT oa];exact(UG _).2 λa E=>(h a E).ok
 exact Lx (Nk oa hl) og
theorem Qm0 {c:Z2}(h:D25 c):∃pl ps sa ts,xo (O7 c.co)=some (pl,ps)/\xo (O7 c.co++O7 c.rq)=some (sa,ts)/\YN c=0:=by
 have I:=h.c3;have J:=h.r2;have E:=UE h;obtain⟨k1,⟨pl,ps⟩,e1⟩:=Vb (aa:=O7 c.co) (λa G=>E a (LM _ G)) (by rw[Xy];omega);obtain⟨k2,⟨sa,ts⟩,e2⟩:=Vb (aa:=O7 c.co++O7 c.rq) E (by rw[Lc,Xy,Xy];omega);refine⟨pl,ps,sa,ts,e1,e2,?_⟩;unfold YN;rw[OT (not_not_intro h.ck),OT (not_not_intro k1),e1];simp only[];rw[OT (not_not_intro k2),e2]
def cA (c:Z2)(i:Nat):Qz:=(O7 c.co++O7 c.rq).getD i ⟨[],0,[],[]⟩
abbrev mB (c:Z2)(m:Mdl):Qz:=(spc (mcC c m)).a
abbrev mL (c:Z2)(m:Mdl):Lf:=zN (mB c m) (fbs (spc (mcC c m))) (unc c.ev)
section
variable {c:Z2}(h:D25 c)
abbrev plA (c:Z2):Qz:=JZ (O7 c.co)
abbrev plQ (c:Z2):List (LI):=syQ (O7 c.co)
abbrev spQ (c:Z2):List (LI):=syQ (O7 c.co++O7 c.rq)
end
section
variable {c:Z2}
end
section
variable {c:Z2}
end
section
variable {c:Z2}
end
structure Qdf (c:Z2):Prop where
 x:c.ex=[]
 k:c.cs=[]
 ok:∀a∈O7 c.co++O7 c.rq,Q0 a/\0<a.st
 eco:∀x∈c.rq,∀e∈x.a.al,∃y∈c.co,e∈y.a.al
 ev:∀x∈c.co,∀e∈x.a.al,e<(c.ev.length:Int)
 f1:∃z,xo (O7 c.co)=some z
 f2:∃z,xo (O7 c.co++O7 c.rq)=some z
section
variable {c:Z2}(h:Qdf c)
include h
theorem Qdf.sy:SyP (O7 c.co++O7 c.rq) (spc c).a (spQ c)/\SyP (O7 c.co) (plA c) (plQ c)/\0<(spc c).a.st/\0<(plA c).st /\
  spc c=⟨(spc c).a,(spQ c).map (·.take c.co.length),(spQ c).map (·.drop c.co.length),(spQ c).map (λt=>plx (plQ c) (t.take c.co.length)),spF c (plA c) (plQ c) (spQ c)⟩:=by
 obtain⟨⟨pl,ps⟩,e1⟩:=h.f1;obtain⟨⟨sa,ts⟩,e2⟩:=h.f2;have T:=Qar e1 e2;have G:=h.ok;have a1:plA c=pl:=by unfold plA JZ;rw[e1]
 have a2:plQ c=ps:=by unfold plQ syQ;rw[e1]
 have a4:spQ c=ts:=by unfold spQ syQ;rw[e2]
 have I:(spc c).a=sa:=by rw[T]
 have J:=YQ (λa E=>(G a E).1) e2;have S:=YQ (λa E=>(G a (LM _ E)).1) e1;have p1:ts.length≠0:=λe=>by
  obtain⟨a,E,e0⟩:=J.2.1 e;have:=(G a E).2;omega
 have p2:ps.length≠0:=λe=>by
  obtain⟨a,E,e0⟩:=S.2.1 e;have:=(G a (LM _ E)).2;omega
 have q1:=J.1.st;have q2:=S.1.st;refine⟨by rw[I,a4];exact J.1,by rw[a1,a2];exact S.1,by rw[I];omega,by rw[a1];omega,?_⟩;rw[a1,a2,a4,I];exact T
theorem Qdf.pok:Q0 (plA c):=h.sy.2.1.okay λa E=>(h.ok a (LM _ E)).1
theorem Qdf.sok:Q0 (spc c).a:=h.sy.1.okay λa E=>(h.ok a E).1
def xF (c:Z2)(t:LI):Prop:=∀v∈unc c.ev,v∈evs (O7 c.co)->(Yo v (O7 c.co) (t.take c.co.length)).isSome=true->(Yo v (O7 c.rq) (t.drop c.co.length)).isSome=true
theorem Qdf.evb {v:Int}(I:v∈evs (O7 c.co)):0<=v/\v<(c.ev.length:Int):=by
 obtain⟨a,E,G⟩:=(zv (λa E=>(h.ok a (LM _ E)).1) v).1 I;have J:=((h.ok a (LM _ E)).1.al v G).1;obtain⟨x,hx,rfl⟩:=Ly.1 E;exact⟨J,h.ev x hx v G⟩
end
section
variable {c:Z2}(h:Qdf c)
include h
end
def pjF (a:Qz)(er:LI)(tup:List (LI))(j:Nat)(v:Int):Option Ed:=if(pnx a er (tup.getD j []) v).length=0 then none else some ((j:Int),v,(tup.idxOf (pnx a er (tup.getD j []) v):Int))
def Qc8 (a:Qz)(er:LI)(tup:List (LI))(j:Nat)(vs:LI):Prop:=∀v∈vs,(pnx a er (tup.getD j []) v).length≠0->pnx a er (tup.getD j []) v∈tup
theorem Qiv (a:Qz)(er:LI)(tup:List (LI)):qz (pjF a er tup):=by
 intro j v e h;unfold pjF at h;split at h
 ·cases h
 cases h;exact⟨O,O⟩
section
variable {er:LI}
theorem Qc8.pre {tup r:List (LI)}{vs:LI}(E:j<tup.length)(G:Qc8 a er tup j vs):Qc8 a er (tup++r) j vs:=by
 intro v I h;rw[Y2 E]at h ⊢;exact LM _ (G v I h)
theorem Qe7 {tup r:List (LI)}{vs:LI}(E:j<tup.length)(G:Qc8 a er tup j vs):vs.filterMap (pjF a er (tup++r) j)=vs.filterMap (pjF a er tup j):=by
 refine Uy λv I=>?_;unfold pjF;rw[Y2 E];by_cases h:(pnx a er (tup.getD j []) v).length=0
 ·rw[OU h,OU h]
 rw[OT h,OT h,L7,OU (G v I h)]
theorem Qon (z:Sy)(u:LI):∃r,(K4 z u).tup=z.tup++r:=by
 unfold K4;split
 ·exact⟨[],od⟩
 exact⟨[u],O⟩
theorem Qix (i:Nat)(t:LI)(z:Sy)(v:Int):∃r,(Jt a er i t z v).tup=z.tup++r:=by
 unfold Jt;split
 ·exact⟨[],od⟩
 exact Qon _ _
theorem zj (i:Nat)(t:LI):∀(vs:LI) (z:Sy),∃r,(vs.foldl (Jt a er i t) z).tup=z.tup++r
 | [],z=>⟨[],od⟩
 | v::vs,z=>by
  obtain⟨E,G⟩:=Qix (a:=a) (er:=er) i t z v;obtain⟨r2,I⟩:=zj i t vs (Jt a er i t z v);exact⟨E++r2,by rw[LO,I,G,LA]⟩
theorem VO (i:Nat)(t:LI)(z:Sy):(qT a i t z).tup=z.tup:=(QaF a i t z).1
theorem Qiu {kp:LI}:∀(f i:Nat) (z:Sy),∃r,(ja a kp er f i z).tup=z.tup++r
 | 0,i,z=>⟨[],by simp[ja]⟩
 | f+1,i,z=>by
  rw[ja];split
  ·obtain⟨E,G⟩:=zj (a:=a) (er:=er) i (JF z i) kp (qT a i (JF z i) z);obtain⟨r2,I⟩:=Qiu (kp:=kp) f (i+1) (kp.foldl (Jt a er i (JF z i)) (qT a i (JF z i) z));exact⟨E++r2,by rw[I,G,VO,LA]⟩
  exact⟨[],od⟩
theorem jC {i:Nat}{t:LI}:∀(vs:LI) (z:Sy),i<z.tup.length->z.tup.Nodup->z.tup.getD i []=t ->
  ∃r,(vs.foldl (Jt a er i t) z).tup=z.tup++r/\(vs.foldl (Jt a er i t) z).mk'=z.mk'/\(vs.foldl (Jt a er i t) z).ed=z.ed++vs.filterMap (pjF a er (vs.foldl (Jt a er i t) z).tup i)/\Qc8 a er (vs.foldl (Jt a er i t) z).tup i vs/\(vs.foldl (Jt a er i t) z).tup.Nodup
 | [],z,_,hd,_=>⟨[],od,rfl,od,λv Y=>(by cases Y),hd⟩
 | v::vs,z,hi,hd,I=>by
  have key:∃S,(Jt a er i t z v).tup=z.tup++S/\(Jt a er i t z v).mk'=z.mk'/\(Jt a er i t z v).ed=z.ed++[v].filterMap (pjF a er (Jt a er i t z v).tup i)/\Qc8 a er (Jt a er i t z v).tup i [v]/\(Jt a er i t z v).tup.Nodup:=by
   by_cases G:(pnx a er t v).length=0
   ·have e:Jt a er i t z v=z:=by unfold Jt;rw[OU G]
    rw[e];refine⟨[],od,rfl,?_,λw E h=>?_,hd⟩
    ·rw[Qfu (by unfold pjF;rw[I,OU G]),LF]
    rw[Lb.1 E,I]at h;exact OW G h
   by_cases J:pnx a er t v∈z.tup
   ·have e:Jt a er i t z v=⟨z.tup,z.mk',z.ed++[((i:Int),v,(z.tup.idxOf (pnx a er t v):Int))]⟩:=by unfold Jt K4;rw[OT G,OU J]
    rw[e];refine⟨[],od,rfl,?_,λw E h=>?_,hd⟩
    ·rw[Qa8 (by unfold pjF;rw[I,OT G])]
    rw[Lb.1 E];show pnx a er (z.tup.getD i []) v∈z.tup;rw[I];exact J
   have e:Jt a er i t z v=⟨z.tup++[pnx a er t v],z.mk',z.ed++[((i:Int),v,((z.tup++[pnx a er t v]).idxOf (pnx a er t v):Int))]⟩:=by unfold Jt K4;rw[OT G,OT J]
   rw[e];have U:(z.tup++[pnx a er t v]).getD i []=t:=by rw[Y2 hi,I]
   refine⟨[pnx a er t v],O,O,?_,λw E h=>?_,Jv hd J⟩
   ·rw[Qa8 (by unfold pjF;rw[U,OT G])]
   rw[Lb.1 E];show pnx a er ((z.tup++[pnx a er t v]).getD i []) v∈z.tup++[pnx a er t v];rw[U];simp
  obtain⟨S,k1,k2,k3,V,k5⟩:=key;have T:i<(Jt a er i t z v).tup.length:=by rw[k1];simp;omega
  obtain⟨r2,g1,g2,g3,g4,g5⟩:=jC vs (Jt a er i t z v) T k5 (by rw[k1,Y2 hi,I]);rw[LO];refine⟨S++r2,by rw[g1,k1,LA],g2.D k2,?_,?_,g5⟩
  ·rw[g3,k3,LA];congr 1;rw[show v::vs=[v]++vs from rfl,List.filterMap_append];congr 1;rw[g1];exact(Qe7 T V).symm
  intro w E h;rcases Ln.1 E with rfl|E
  ·have:=V.pre (r:=r2) T;rw[<-g1]at this;exact this w Lm h
  exact g4 w E h
end
structure PjG (a:Qz)(o:LI)(i:Nat)(s:Sy):Prop where
 nd:s.tup.Nodup
 le:i<=s.tup.length
 hd:s.tup.getD 0 []=rch a [0] (ers a o)/\0<s.tup.length
 mk2:s.mk'=((oN 0 i).filter λj=>mkd a (s.tup.getD j [])).map λj:Nat=>(j:Int)
 ed:s.ed=grid (pjF a (ers a o) s.tup) (kpt a o) i
 cl:∀j,j<i->Qc8 a (ers a o) s.tup j (kpt a o)
theorem PjG.next {s:Sy}(h:PjG a o i s)(hi:i<s.tup.length):PjG a o (i+1) ((kpt a o).foldl (Jt a (ers a o) i (JF s i)) (qT a i (JF s i) s)):=by
 have G:=VO (a:=a) i (JF s i) s;have U:(qT a i (JF s i) s).ed=s.ed:=(QaF a i (JF s i) s).2.1;obtain⟨r,g1,V,T,Y,g5⟩:=jC (a:=a) (er:=ers a o) (kpt a o) (qT a i (JF s i) s) (i:=i) (t:=JF s i) (by rw[G];exact hi) (by rw[G];exact h.nd) (by rw[G];rfl);generalize (kpt a o).foldl (Jt a (ers a o) i (JF s i)) (qT a i (JF s i) s)=I at *;rw[G]at g1;rw[U]at T;have pre:∀j,j<=i->I.tup.getD j []=s.tup.getD j []:=λj E=>by rw[g1];exact Y2 oa
 refine⟨g5,by rw[g1];simp;omega,⟨by rw[pre 0 oa];exact h.hd.1,by rw[g1];simp;omega⟩,?_,?_,λj E=>?_⟩
 ·rw[V,Mm,LT,Lv,LU];have e1:((oN 0 i).filter λj=>mkd a (I.tup.getD j []))=(oN 0 i).filter λj=>mkd a (s.tup.getD j []):=by
   refine Nx λj E=>?_;rw[L8]at E;rw[pre j oa]
  rw[e1];unfold qT;by_cases J:mkd a (JF s i)=true
  ·rw[OU J];have S:mkd a (I.tup.getD i [])=true:=by rw[pre i (Lp _)];exact J
   simp only[OA,S,if_true,List.filter_nil,oS,OC];rw[h.mk2]
  rw[OT J];have S:mkd a (I.tup.getD i [])=false:=by rw[pre i (Lp _)];exact eq_false_of_ne_true J
  rw[L5,OT (by rw[S];simp),MJ,h.mk2];simp
 ·rw[T,Ki,h.ed];congr 1;unfold grid;refine Y3 λj E=>?_;rw[L8]at E;rw[g1];exact(Qe7 oa (h.cl j oa)).symm
 by_cases e2:j=i
 ·subst e2;exact Y
 have:=(h.cl j oa).pre (r:=r) oa;rw[<-g1]at this;exact this
theorem Qb9 {a:Qz}{o:LI}:∀(f i:Nat) (s:Sy),PjG a o i s->∃E,PjG a o E (ja a (kpt a o) (ers a o) f i s)/\((ja a (kpt a o) (ers a o) f i s).tup.length=E\/E=i+f)
 | 0,i,s,h=>⟨i,h,.inr O⟩
 | f+1,i,s,h=>by
  rw[ja];split
  ·rename_i hi;obtain⟨E,G,I⟩:=Qb9 f (i+1) _ (h.next hi);exact⟨E,G,oa⟩
  exact⟨i,h,.inl (oo h.le)⟩
theorem Qiw {a:Qz}{er:LI}{n:Nat}(E:a.st.toNat=n)(i:Nat)(t:LI):∀(vs:LI) (z:Sy),PjO n z->PjO n (vs.foldl (Jt a er i t) z)
 | [],_,h=>h
 | v::vs,z,h=>by
  refine Qiw E i t vs _ ?_;unfold Jt;split
  ·exact h
  have:=h.add (u:=pnx a er t v) (by unfold pnx rch cls;rw[E];exact UV _ _);exact⟨this.v,this.d⟩
theorem QnE {a:Qz}{kp er:LI}{n:Nat}(E:a.st.toNat=n):∀(f i:Nat) (z:Sy),PjO n z->PjO n (ja a kp er f i z)
 | 0,_,_,h=>h
 | f+1,i,z,h=>by
  rw[ja];split
  ·refine QnE E f (i+1) _ (Qiw E _ _ _ _ ⟨?_,?_⟩)
   ·rw[VO];exact h.v
   rw[VO];exact h.d
  exact h
structure PjP (a:Qz)(o:LI)(Q:List (LI)):Prop where
 st:(ZY a o).st=(Q.length:Int)
 nd:Q.Nodup
 v:∀t∈Q,Ss a.st.toNat t
 le:Q.length<=2 ^ a.st.toNat
 hd:Q.getD 0 []=rch a [0] (ers a o)/\0<Q.length
 mk2:(ZY a o).mr=((oN 0 Q.length).filter λj=>mkd a (Q.getD j [])).map λj:Nat=>(j:Int)
 ed:(ZY a o).ed=grid (pjF a (ers a o) Q) (kpt a o) Q.length
 cl:∀j,j<Q.length->Qc8 a (ers a o) Q j (kpt a o)
abbrev jB (a:Qz)(o:LI):List (LI):=(prj a o).tup
theorem Qqn (a:Qz)(o:LI):PjG a o 0 (pj0 a (ers a o)):=⟨by simp[pj0],od,⟨by simp[pj0],by simp[pj0]⟩,by simp[pj0],by simp[pj0,grid],λj E=>oa⟩
theorem Qqm (a:Qz)(er:LI):PjO a.st.toNat (pj0 a er):=⟨λt E=>by
 rw[show(pj0 a er).tup=[rch a [0] er] from rfl,Lb]at E;rw[E];unfold rch cls;exact UV _ _,by simp[pj0]⟩
theorem Qb4 (I:a.st≠0):PjP a o (jB a o):=by
 have e:prj a o=ja a (kpt a o) (ers a o) (2 ^ a.st.toNat) 0 (pj0 a (ers a o)):=by unfold prj;rw[OT I]
 obtain⟨J,E,S⟩:=Qb9 (2 ^ a.st.toNat) 0 _ (Qqn a o);have G:=QnE (kp:=kpt a o) (er:=ers a o) (n:=a.st.toNat) O (2 ^ a.st.toNat) 0 _ (Qqm a (ers a o));rw[<-e]at E S G;have hl:J=(prj a o).tup.length:=by
  have T:=E.le;have U:=G.le;omega
 subst hl;exact⟨O,E.nd,G.v,G.le,E.hd,E.mk2,E.ed,E.cl⟩
theorem PjP.J {Q:List (LI)}(h:PjP a o Q)(I:j<Q.length)(v:Int):
  xj (ZY a o).ed j v=if v∈kpt a o/\(pnx a (ers a o) (Q.getD j []) v).length≠0 then some (Q.idxOf (pnx a (ers a o) (Q.getD j []) v):Int) else none:=by
 rw[h.ed,j5 (Qiv a _ Q)];by_cases E:v∈kpt a o
 ·rw[OU ⟨I,E⟩];unfold pjF;by_cases G:(pnx a (ers a o) (Q.getD j []) v).length=0
  ·rw[OU G,OT (λe=>e.2 G)];rfl
  rw[OT G,OU ⟨E,G⟩];rfl
 rw[OT (λe=>E e.2),OT (λe=>E e.1)]
theorem PjP.to {Q:List (LI)}(h:PjP a o Q)(E:j<Q.length){v:Int}(G:v∈kpt a o)(I:(pnx a (ers a o) (Q.getD j []) v).length≠0):Q.idxOf (pnx a (ers a o) (Q.getD j []) v)<Q.length/\Q.getD (Q.idxOf (pnx a (ers a o) (Q.getD j []) v)) []=pnx a (ers a o) (Q.getD j []) v:=by
 have hl:=Me (h.cl j E v G I);generalize pnx a (ers a o) (Q.getD j []) v=u at *;refine⟨hl,?_⟩;simp[oO,hl]
theorem Qfo (E:Q0 a)(o:LI):YA (kpt a o):=E.ali.filter _
theorem PjP.okay (I:Q0 a){Q:List (LI)}(h:PjP a o Q)(V:Q.length<=4096):Q0 (ZY a o):=by
 refine⟨λe E=>I.al e (LQ.1 E).1,Qfo I o,by rw[h.st];omega,by rw[h.st];omega,λs J=>?_,?_,λe E=>?_,by rw[h.ed];exact Qa5 (Qiv a _ Q) (Qfo I o) _⟩
 ·rw[h.mk2]at J;simp only[Ol,Oi,Oh]at J;obtain⟨i,⟨hi,_⟩,rfl⟩:=J;rw[h.st];omega
 ·rw[h.mk2];unfold YA;rw[Ma];refine List.Pairwise.sublist ML ?_;exact(M5 (s:=0) (n:=Q.length)).imp (λh=>oa)
 rw[h.ed]at E;obtain⟨j,v,T,S,G⟩:=yh E;unfold pjF at G;split at G
 ·cases G
 rename_i U;cases G
 have:=(h.to T S U).1;rw[h.st];exact⟨oe,oe,S,oe,oe⟩
theorem PjP.mr {a:Qz}{o:LI}{Q:List (LI)}(h:PjP a o Q){j:Nat}(G:j<Q.length):(j:Int)∈(ZY a o).mr↔mkd a (Q.getD j [])=true:=by
 rw[h.mk2];simp only[Ol,Oi,Oh];constructor
 ·rintro⟨k,⟨_,E⟩,I⟩;have:k=j:=oa
  subst this;exact E
 intro E;exact⟨j,⟨oa,E⟩,O⟩
theorem PjP.nxt {a:Qz}{o:LI}{Q:List (LI)}(h:PjP a o Q){j:Nat}(G:j<Q.length){v:Int}(I:v∈kpt a o):nxt (ZY a o).ed j v=if(pnx a (ers a o) (Q.getD j []) v).length=0 then -1 else(Q.idxOf (pnx a (ers a o) (Q.getD j []) v):Int):=by
 rw[Qcf,h.J G v];by_cases E:(pnx a (ers a o) (Q.getD j []) v).length=0
 ·rw[OT (λe=>e.2 E),OU E]
 rw[OU ⟨I,E⟩,OT E]
theorem Qir {a:Qz}{o:LI}{Q:List (LI)}(h:PjP a o Q){i:Nat}:∀(vs:LI) (z:Sy),(∀v∈vs,v∈kpt a o)->i<z.tup.length->(∃r,Q=(vs.foldl (Jt a (ers a o) i (Q.getD i [])) z).tup++r) ->
  vs.foldl (Vy (ZY a o) i) (Yu z.tup.length)=Yu (vs.foldl (Jt a (ers a o) i (Q.getD i [])) z).tup.length
 | [],_,_,_,_=>rfl
 | v::vs,z,T,hi,E=>by
  rw[LO]at E ⊢;rw[LO];obtain⟨r,E⟩:=E;obtain⟨r2,V⟩:=zj (a:=a) (er:=ers a o) i (Q.getD i []) vs (Jt a (ers a o) i (Q.getD i []) z v);obtain⟨r3,U⟩:=Qix (a:=a) (er:=ers a o) i (Q.getD i []) z v;have G:Q=(Jt a (ers a o) i (Q.getD i []) z v).tup++(r2++r):=by rw[<-LA,<-V];exact E
  have hc:z.tup.length<=Q.length:=by
   have:=OV oU G;rw[U]at this;simp only[oM]at this;omega
  have Y:=h.nxt (j:=i) oa (T v Lm);have ha:Vy (ZY a o) i (Yu z.tup.length) v=Yu (Jt a (ers a o) i (Q.getD i []) z v).tup.length:=by
   unfold Vy;rw[Y];by_cases I:(pnx a (ers a o) (Q.getD i []) v).length=0
   ·have e:Jt a (ers a o) i (Q.getD i []) z v=z:=by unfold Jt;rw[OU I]
    rw[OU I,e,OT (λh=>OW h.1 og)]
   rw[OT I];by_cases J:pnx a (ers a o) (Q.getD i []) v∈z.tup
   ·have e:(Jt a (ers a o) i (Q.getD i []) z v).tup=z.tup:=by unfold Jt K4;rw[OT I,OU J]
    rw[e]at G ⊢;have hx:Q.idxOf (pnx a (ers a o) (Q.getD i []) v)=z.tup.idxOf (pnx a (ers a o) (Q.getD i []) v):=by
     generalize pnx a (ers a o) (Q.getD i []) v=u at *;rw[G,L7,OU J]
    have:=Me J;rw[hx,OT];intro S;exact S.2 ((Kf _ _).2 ⟨oa,oa⟩)
   have e:(Jt a (ers a o) i (Q.getD i []) z v).tup=z.tup++[pnx a (ers a o) (Q.getD i []) v]:=by unfold Jt K4;rw[OT I,OT J]
   rw[e]at G ⊢;have hx:Q.idxOf (pnx a (ers a o) (Q.getD i []) v)=z.tup.length:=by
    generalize pnx a (ers a o) (Q.getD i []) v=u at *;rw[G,LA,L7,OT J];simp
   rw[hx,OU ⟨oa,λS=>oo ((Kf _ _).1 S)⟩,Lc,Lu,U9]
  rw[ha];exact Qir h vs _ (λw hw=>T w (Lk _ hw)) (by rw[U];simp;omega) ⟨r,E⟩
theorem Qb8 {a:Qz}{o:LI}{Q:List (LI)}(h:PjP a o Q):∀(f g i:Nat) (z:Sy),(ja a (kpt a o) (ers a o) f i z).tup=Q->Q.length<=i+f->Q.length<=i+g->zr (ZY a o) g i (Yu z.tup.length)=Yu Q.length
 | 0,g,i,z,E,T,U=>by
  have e:z.tup=Q:=E;rw[e];cases g with
  | zero=>rfl
  | succ g=>rw[zr,OT (by rw[Jw];omega)]
 | f+1,g,i,z,E,T,U=>by
  rw[ja]at E;by_cases hi:i<z.tup.length
  ·rw[OU hi]at E;obtain⟨I,G⟩:=Qiu (a:=a) (er:=ers a o) (kp:=kpt a o) f (i+1) ((kpt a o).foldl (Jt a (ers a o) i (JF z i)) (qT a i (JF z i) z));obtain⟨r2,V⟩:=zj (a:=a) (er:=ers a o) i (JF z i) (kpt a o) (qT a i (JF z i) z);rw[E]at G;have J:Q=z.tup++(r2++I):=by rw[G,V,VO,LA]
   have hT:JF z i=Q.getD i []:=by rw[J,Y2 hi];rfl
   have hc:i<Q.length:=by rw[J,Lc];omega
   obtain⟨g,rfl⟩:∃Y,g=Y+1:=⟨g - 1,oa⟩;rw[zr,OU (by rw[Jw];exact hi)];have ha:O6 (Yu z.tup.length) i=(i:Int):=by unfold O6 Yu;simp[oO,hi]
   have S:=Qir h (kpt a o) (qT a i (JF z i) z) (λv hv=>hv) (by rw[VO];exact hi) ⟨I,by rw[<-hT];exact G⟩;rw[VO,<-hT]at S;rw[ha];unfold fdR;rw[show(ZY a o).al=kpt a o from rfl,S];exact Qb8 h f g (i+1) _ E oa oa
  rw[OT hi]at E;rw[E]at hi ⊢;cases g with
  | zero=>rfl
  | succ g=>rw[zr,OT (by rw[Jw];exact hi)]
theorem Qim (I:a.st≠0):Y6 (ZY a o)=ZY a o:=by
 have h:=Qb4 (o:=o) I;have hp:=h.hd.2;have U:xp (ZY a o)=Yu (jB a o).length:=by
  unfold xp fd0;rw[OU (by rw[h.st];omega)];have e:prj a o=ja a (kpt a o) (ers a o) (2 ^ a.st.toNat) 0 (pj0 a (ers a o)):=by unfold prj;rw[OT I]
  refine Qb8 h (2 ^ a.st.toNat) _ 0 (pj0 a (ers a o)) (by rw[<-e]) (oo h.le) (by rw[h.st];omega)
 have J:∀i,i<(jB a o).length->O6 (Yu (jB a o).length) i=(i:Int):=λi hi=>by unfold O6 Yu;simp[oO,hi]
 have V:YW (ZY a o) (Yu (jB a o).length) (jB a o).length=(ZY a o).mr:=by
  unfold YW;rw[h.mk2];congr 1;refine Nx λi hi=>?_;rw[L8]at hi;rw[J i oa];have S:=h.mr (j:=i) oa;rw[<-h.mk2];cases E:mkd a ((jB a o).getD i []) with
  | true=>exact OX (S.2 E)
  | false=>exact OZ λY=>by rw[S.1 Y]at E;cases E
 have hE:Xe (ZY a o) (Yu (jB a o).length) (jB a o).length=(ZY a o).ed:=by
  unfold Xe;rw[show(ZY a o).al=kpt a o from rfl];refine Eq.D ?_ h.ed.symm;unfold grid;refine Y3 λi hi=>?_;rw[L8]at hi;refine Uy λv T=>?_;have hi':i<(jB a o).length:=oa
  unfold Km pjF;rw[J i hi',h.nxt hi' T];by_cases G:(pnx a (ers a o) ((jB a o).getD i []) v).length=0
  ·rw[OU G,OU G,OT og]
  have hl:=(h.to hi' T G).1;rw[OT G,OT G,OU oa];have e:qV (Yu (jB a o).length) ((jB a o).idxOf (pnx a (ers a o) ((jB a o).getD i []) v):Int)=((jB a o).idxOf (pnx a (ers a o) ((jB a o).getD i []) v):Int):=by
   generalize (jB a o).idxOf (pnx a (ers a o) ((jB a o).getD i []) v)=k at *;have E:(k:Int)∈Yu (jB a o).length:=(Kf _ _).2 ⟨oa,oa⟩;unfold qV;rw[OU E];have hx:=Me E;have e1:=List.getElem_idxOf hx;unfold Yu at e1 hx ⊢;rw[MK,Mr]at e1;exact e1
  rw[e]
 unfold Y6;rw[U,Jw,V,hE,<-h.st]
theorem QlG (J:Q0 a)(E:a.st≠0)(S:a.st<=12):Kh (ZY a o)=true/\Q0 (ZY a o)/\0<(ZY a o).st/\(ZY a o).st<=2 ^ a.st.toNat:=by
 have h:=Qb4 (o:=o) E;have hl:(jB a o).length<=4096:=Lx h.le (Lx (Nk og (show a.st.toNat<=12 by omega)) og);have hok:=h.okay J hl;have G:0<(ZY a o).st:=by rw[h.st];have:=h.hd.2;omega
 have I:=yd hok G;rw[Qim E]at I;refine⟨I,hok,G,?_⟩;rw[h.st]
 exact_mod_cast h.le
section
variable (ho:Q0 a)
include ho
end
section
variable (ho:Q0 a)
include ho
end
structure qM (c:Z2)(hi:LI):Prop where
 d:D25 c
 x:c.ex=[]
 k:c.cs=[]
 i:YA hi
 b:∀v∈hi,0<=v/\v<5
 r:∀x∈c.rq,∀e∈x.a.al,e∈hi
theorem D25.bare {c:Z2}(h:D25 c):D25 ⟨c.ev,c.co,c.rq,[],[]⟩:=⟨h.ev,h.c0,h.c3,h.r2,h.co,h.rq,h.nd,Lo _,nofun,Ms,Lo _,nofun⟩
section
variable {c:Z2}(h:qM c hi)
include h
theorem qM.hck:hck c hi=0:=by
 have E:J1 (c.ev.length:Int) none hi=0:=Qbj (λv G=>by rw[h.d.ev.1];exact h.b v G) h.i;unfold Lg.hck;rw[OT (not_not_intro h.d.ck),h.x,h.k,OT og,OT (not_not_intro E),OU];rw[Mc];intro x hx;refine OX (Lt (QaR (h.d.rq x hx).2.1.ok.ali h.i (h.r x hx)))
theorem qM.pl0:plE c=0/\∃z,xo (O7 c.co)=some z:=by
 have E:=UE h.d;have I:=h.d.c3;obtain⟨k1,z,e1⟩:=Vb (aa:=O7 c.co) (λa G=>E a (LM _ G)) (by rw[Xy];omega);refine⟨?_,z,e1⟩;unfold plE JG;rw[OT (not_not_intro h.d.ck),OT (not_not_intro k1),e1]
theorem qM.celB:Qdf c:=by
 have E:=UE h.d;have J:=h.d.c3;have S:=h.d.r2;obtain⟨_,z,e2⟩:=Vb (aa:=O7 c.co++O7 c.rq) E (by rw[Lc,Xy,Xy];omega);refine⟨h.x,h.k,λa G=>⟨(E a G).ok,(E a G).p⟩,λx hx=>(h.d.rq x hx).2.2,λx hx e I=>?_,h.pl0.2,z,e2⟩;rw[h.d.ev.1];exact(h.d.co x hx).2.2 e I
omit h in
theorem QbN:∀(l:List X5) (n:Int),(∀x∈l,0<x.a.st)->l.foldl (λn x=>n*max 1 x.a.st) n=n*(((O7 l).map (·.st.toNat)).foldr (·*·) 1:Nat)
 | [],n,_=>by simp[O7]
 | x::l,n,hx=>by
  have G:=hx x Lm;rw[LO,QbN l _ λy E=>hx y (Lk _ E)];have e:max 1 x.a.st=(x.a.st.toNat:Int):=oa
  rw[e,Int.mul_assoc];show n*((x.a.st.toNat:Int)*(((O7 l).map (·.st.toNat)).foldr (·*·) 1:Nat))=n*((x.a.st.toNat*((O7 l).map (·.st.toNat)).foldr (·*·) 1:Nat):Int);rw[Int.natCast_mul]
theorem qM.pst:0<(plA c).st/\(plA c).st<=V8 c.co:=by
 have E:=h.celB.sy;refine⟨E.2.2.2.1,?_⟩;have I:=Qam E.2.1.nd E.2.1.v;have G:=QbN c.co 1 λx hx=>(h.d.co x hx).2.1.p;rw[Int.one_mul]at G;rw[E.2.1.st];unfold V8;rw[G]
 exact_mod_cast I
omit h in
theorem QjG {α β:Type}(f:α->Option β):∀l:List α,(l.filterMap f).length<=l.length
 | []=>Lp _
 | x::l=>by
  rw[Mk];have:=QjG f l;cases f x with
  | none=>simp only[oQ];omega
  | some y=>simp only[oQ];omega
omit h in
theorem Qft (g:Nat->Int->Option Ed)(vs:LI):∀n,(grid g vs n).length<=n*vs.length
 | 0=>by simp[grid]
 | n+1=>by
  rw[Ki,Lc,OO];have:=Qft g vs n;have:=QjG (g n) vs;omega
theorem qM.evs5:∀v∈evs (O7 c.co),0<=v/\v<5:=λv E=>by
 have:=h.celB.evb E;rw[h.d.ev.1]at this;exact this
theorem qM.al:(plA c).al=evs (O7 c.co):=h.celB.sy.2.1.al
theorem qM.pl9 (S:V8 c.co<=9):y7 (plA c):=by
 have E:=h.celB.sy;have T:=h.pst;refine⟨h.celB.pok,oa,?_⟩;rw[E.2.1.ed];have U:=Qft (syF (O7 c.co) (plQ c)) (evs (O7 c.co)) (plQ c).length;have G:(plQ c).length<=9:=by have:=E.2.1.st;omega
 have I:(evs (O7 c.co)).length<=5:=xH 5 _ (Qd2 (Qbd λa J=>(h.celB.ok a (LM _ J)).1)) h.evs5;have V:(plQ c).length*(evs (O7 c.co)).length<=9*5:=M9 G I;omega
theorem qM.hok (E:V8 c.co<=9):HOk c hi:=⟨h.pl0.1,h.pl9 E⟩
theorem qM.prj (E:V8 c.co<=9):Kh (ZY (Xs c) hi)=true/\Q0 (ZY (Xs c) hi)/\0<(ZY (Xs c) hi).st/\(ZY (Xs c) hi).st<=2 ^ (Xs c).st.toNat:=by
 have G:=h.pst;exact QlG h.celB.pok (o:=hi) (show(plA c).st≠0 by omega) (show(plA c).st<=12 by omega)
theorem qM.rkp:∀x∈c.rq,∀e∈x.a.al,e∈kpt (Xs c) hi:=λx hx e E=>by
 refine LQ.2 ⟨?_,OX (h.r x hx e E)⟩;show e∈(plA c).al;rw[h.al];obtain⟨y,G,I⟩:=h.celB.eco x hx e E;exact(zv (λa J=>(h.celB.ok a (LM _ J)).1) e).2 ⟨y.a,Ly.2 ⟨y,G,O⟩,I⟩
theorem qM.kp5:∀e∈kpt (Xs c) hi,0<=e/\e<5:=λe E=>h.b e (OY (LQ.1 E).2)
theorem qM.top (U:V8 c.co<=9):Z0 (ZW c hi)=0:=by
 obtain⟨p1,p2,p3,p4⟩:=h.prj U;have ha:c.ev.length=5:=h.d.ev.1;have hq:=h.d.r2;have hc:(ZY (Xs c) hi).st<=4096:=p2.st1;generalize ZY (Xs c) hi=A at p1 p2 p3 hc;obtain⟨x0,l0,I⟩:∃x l,c.co=x::l:=by
  cases e:c.co with
  | nil=>exact OW (by rw[e];rfl) h.d.c0
  | cons x l=>exact⟨x,l,O⟩
 have hT:ZW c hi=⟨c.ev,[⟨x0.nm,ZY (Xs c) hi⟩],c.rq,[],[]⟩:=by rw[Qmz,I];rfl
 have hf:=h.d.co x0 (by rw[I];exact Lm);have V:=h.d.nd;rw[I,LS,Mu]at V;obtain⟨n1,n2⟩:=List.nodup_cons.1 V;have n3:(x0.nm::c.rq.map (·.nm)).Nodup:=List.nodup_cons.2 ⟨λhm=>n1 (MN _ hm),(Mb.1 n2).2.1⟩;obtain⟨q1,q2,q3,q4⟩:=h.prj U;have G:∀e∈(ZY (Xs c) hi).al,0<=e/\e<5:=h.kp5;have Y:∀x∈c.rq,∀e∈x.a.al,e∈(ZY (Xs c) hi).al:=h.rkp;rw[hT];generalize ZY (Xs c) hi=B at q1 q2 q3 G Y;have hr:B.st<=4096:=q2.st1;have hg:∀e∈B.al,e∈VB c.ev.length:=λe J=>by
  have:=G e J;rw[ha,QeO];exact⟨this.1,this.2⟩
 have hh:Yx c.ev.length (VB c.ev.length) [] ⟨x0.nm,B⟩=0:=by
  unfold Yx;rw[OT (by rw[hf.1];decide),OT od,OT (not_not_intro ((ZC B).2 q2)),OT (by rw[q1];decide),OT (by show ¬B.st=0;omega),OT,OT (not_not_intro (QaR q2.ali (QeP _) hg))];intro hn;obtain⟨e,E,S⟩:=Ni.1 hn;have T:=G e E;have:=OY S;omega
 have hj:Yy c.ev.length (VB c.ev.length) [] [] [⟨x0.nm,B⟩]=(0,[x0.nm],mrg (· || ·) [] B.al):=by
  rw[Yy,OT (not_not_intro hh)];rfl
 have hu:∀e,e∈mrg (· || ·) [] B.al↔e∈B.al:=λe=>by
  rw[Up List.Pairwise.nil q2.ali];constructor
  ·rintro⟨E|E,_⟩
   ·cases E
   exact E
  intro E;exact⟨.inr E,by simp[E]⟩
 have hk:=Qbk (nev:=c.ev.length) (u:=mrg (· || ·) [] B.al) (QaQ _ _ _ _ (Lp _) List.Pairwise.nil q2.ali) c.rq [x0.nm] (λx hx=>by
  obtain⟨E,S,_⟩:=h.d.rq x hx;refine⟨E,S,λe J=>?_⟩;have T:=Y x hx e J;have h4:=G e T;exact⟨oa,(hu e).2 T⟩) n3
 unfold Z0;rw[OT (not_not_intro h.d.ev.2),OT od,OT (by simp only[oL];omega),hj];simp only[];rw[OT (not_not_intro rfl),OT (not_not_intro hk)];have ho:X8 B.st=false:=by unfold X8;rw[OZ oa,OZ oa];rfl
 have hp:¬(szs [⟨x0.nm,B⟩]).any X8=true:=by
  show ¬(X8 B.st || false)=true;rw[ho];decide
 unfold Y4;rw[OT (show ¬8<(szs [⟨x0.nm,B⟩]).length by simp[szs]),OT hp,OT od];rfl
omit h in
theorem QbE (E:Q0 a):∃z,xo [a]=some z:=by
 obtain⟨Q,G,_⟩:=Qcd E;exact⟨_,G⟩
omit h in
theorem Qko {l:List Qz}(E:∀a∈l,Q0 a)(hl:l.length<=12):KR l=0:=by
 unfold KR;rw[OT oa];exact(UG _).2 E
theorem qM.okT (G:V8 c.co<=9):∀a∈O7 (ZW c hi).co++O7 (ZW c hi).rq,Q0 a/\0<a.st:=λa E=>by
 obtain⟨_,p2,p3,_⟩:=h.prj G;rcases Lh.1 E with E|E
 ·rw[Lb.1 (show a∈[ZY (Xs c) hi] from E)];exact⟨p2,p3⟩
 exact h.celB.ok a (MN _ E)
theorem qM.suT (E:V8 c.co<=9):KQ (ZW c hi)=match xo (O7 (ZW c hi).co++O7 (ZW c hi).rq) with|none=>3|some _=>0:=by
 have I:=h.okT E;have T:=h.d.r2;obtain⟨z,J⟩:=QbE (h.prj E).2.1;have S:xo (O7 (ZW c hi).co)=some z:=J;show YN (ZW c hi)=_;unfold YN;have k1:=Qko (l:=O7 (ZW c hi).co) (λa G=>(I a (LM _ G)).1) (show 1<=12 by decide);have k2:=Qko (l:=O7 (ZW c hi).co++O7 (ZW c hi).rq) (λa G=>(I a G).1) (by rw[Lc,Xy,Xy];show 1+c.rq.length<=12;omega);rw[OT (not_not_intro (h.top E)),OT (not_not_intro k1),S];simp only[];rw[OT (not_not_intro k2)];cases xo (O7 (ZW c hi).co++O7 (ZW c hi).rq) <;> rfl
theorem qM.celT (G:V8 c.co<=9)(I:KQ (ZW c hi)=0):Qdf (ZW c hi):=by
 refine⟨O,O,h.okT G,λx hx e E=>⟨_,Lb.2 O,h.rkp x hx e E⟩,λx hx e E=>?_,QbE (h.prj G).2.1,?_⟩
 ·rw[Lb.1 hx]at E;have:=h.kp5 e E;show e<(c.ev.length:Int);rw[h.d.ev.1];exact this.2
 rw[h.suT G]at I;cases e:xo (O7 (ZW c hi).co++O7 (ZW c hi).rq) with
 | none=>rw[e]at I;cases I
 | some z=>exact⟨z,O⟩
omit h in
theorem jp (E:∀a∈aa,Q0 a)(I:(aa.map (·.st.toNat)).foldr (·*·) 1<=4096):∃z,xo aa=some z :=
 QeR (P:=Vt aa) I (λl J S=>Qam J S) (λT=>⟨od,λi hi G=>by
  have Y:=T _ (Le G);have h2:=(E _ (Le G)).st0;simp only[Oq];omega⟩) λt U v _ u V=>Xo E U V
omit h in
theorem QlF (l:List X5)(E:∀x∈l,x.a.st<=3):((O7 l).map (·.st.toNat)).foldr (·*·) 1<=3 ^ l.length:=by
 induction l with
 | nil=>exact Lp _
 | cons x l ih =>
  have I:=E x Lm;show x.a.st.toNat*_<=_;rw[LL,OH,Nat.mul_comm];exact M9 (ih λy G=>E y (Lk _ G)) oa
theorem qM.spT (J:V8 c.co<=6):((O7 (ZW c hi).co++O7 (ZW c hi).rq).map (·.st.toNat)).foldr (·*·) 1<=576:=by
 have S:=h.pst;have T:=(h.prj oa).2.2.2;have U:(2:Int) ^ (Xs c).st.toNat<=2 ^ 6:=by
  have:2 ^ (Xs c).st.toNat<=2 ^ 6:=Nk og (by show(plA c).st.toNat<=6;omega)
  exact_mod_cast this
 have E:(ZY (Xs c) hi).st.toNat<=64:=oa
 have G:=QlF c.rq λx hx=>(h.d.rq x hx).2.1.s;have I:3 ^ c.rq.length<=3 ^ 2:=Nk og h.d.r2;show(ZY (Xs c) hi).st.toNat*((O7 c.rq).map (·.st.toNat)).foldr (·*·) 1<=576;exact Lx (M9 E (Lx G I)) og
theorem qM.suX (E:V8 c.co<=9):KQ (ZW c hi)=0\/KQ (ZW c hi)=3/\6<V8 c.co:=by
 rw[h.suT E];cases e:xo (O7 (ZW c hi).co++O7 (ZW c hi).rq) with
 | some z=>exact .inl O
 | none =>
  refine .inr ⟨O,Decidable.byContradiction λJ=>?_⟩;obtain⟨z,G⟩:=jp (aa:=O7 (ZW c hi).co++O7 (ZW c hi).rq) (λa I=>(h.okT E a I).1) (Lx (h.spT oa) og);rw[G]at e;cases e
omit h in
theorem Qln {B:Qz}(E:Q0 B)(fb ul:LI):(zC B fb ul).st<=B.st:=by
 have I:=E.st0;unfold zC QbI;split
 ·exact I
 rename_i J;have S:0<B.st:=by
  have:B.st≠0:=λe=>J (.inl e);omega
 have G:=Qpn (UX E (zN B fb ul)) S;rw[G.2.1];show((QgW (rstr B (zN B fb ul))).ord.length:Int)<=B.st;have:=G.2.2;have e:(rstr B (zN B fb ul)).st=B.st:=rfl;omega
theorem qM.htX (G:V8 c.co<=9):yg c hi=0\/yg c hi=3/\6<V8 c.co:=by
 unfold yg;rcases h.suX G with e|⟨e,e2⟩
 ·rw[OT (not_not_intro e)];have hT:=h.celT G e;have J:=KW e;have I:∀a∈[Xs c,Ks (ZW c hi)],Q0 a:=λa E=>by
   rcases Ln.1 E with rfl|E
   ·exact h.celB.pok
   rw[Lb.1 E];exact J
  unfold JG;rw[OT (not_not_intro (Qko I (by show 2<=12;decide)))];cases e3:xo [Xs c,Ks (ZW c hi)]with
  | some z=>exact .inl O
  | none =>
   refine .inr ⟨O,Decidable.byContradiction λT=>?_⟩;have U:=h.pst;have V:(Ks (ZW c hi)).st<=(spc (ZW c hi)).a.st:=Qln hT.sok _ _;have Y:((spQ (ZW c hi)).length:Nat)<=576:=Lx (Qam hT.sy.1.nd hT.sy.1.v) (h.spT oa);have h4:=hT.sy.1.st;obtain⟨z,S⟩:=jp (aa:=[Xs c,Ks (ZW c hi)]) I (by
    show(plA c).st.toNat*((Ks (ZW c hi)).st.toNat*1)<=4096;exact Lx (M9 (show(plA c).st.toNat<=6 by omega) (show(Ks (ZW c hi)).st.toNat*1<=576 by omega)) og)
   rw[S]at e3;cases e3
 rw[OU oa];exact .inr ⟨e,e2⟩
theorem qM.hgE:hgE c hi=yg c hi:=by unfold Lg.hgE;rw[OT (not_not_intro h.hck)]
theorem qM.hsE:hsE c hi=KQ (ZW c hi):=by unfold Lg.hsE;rw[OT (not_not_intro h.hck)]
end
theorem ZP.bare {H:xA}(h:ZP L H c):ZP L H { c with vx:=ZT,vk:=ZT,ex:=[],cs:=[] }:=
 ⟨h.ev,h.co,h.rq,⟨⟨O,Lo _,.inl ⟨O,O⟩⟩,(λq E=>by cases E),λq E=>by cases E⟩,⟨⟨rfl,Lo _,.inl ⟨rfl,rfl⟩⟩,(λq E=>by cases E),λq E=>by cases E⟩⟩
theorem UM {v:O2}{es:LI}(h:ZP [] ↑w c)(hE:Qu [] ↑w v es)(hl:c.co.length<=3)(U:∀x∈c.C.co,x.a.st<=3):
  QR sV 20 [c.val,v] w λr w'=>r=.bool (decide (3∈es) && decide (6<V8 c.C.co))/\sW w w':=by
 have he:=hE.le;refine Zm func20 ?_;refine Qc<|Za c.cells λb2 V G hf Y=>Qb ?_
 replace hE:=hE.I G;refine Qd<|Qc<|Qb<|QW (α:=Nat) [(4,19)] (λz=>[(5,sS z)]) (λz w'=>w'=V/\z<=es.length/\(3∈es↔3∈es.drop z)) (λz=>es.length - z) 0 La ⟨O,Lo _,od⟩ ?_;rintro k g w2 ⟨rfl,hk,I⟩;refine Qd<|Qk<|Qa<|QG hE O<|ZX O O<|xe<|Zr rfl (λh9=>?_) (λh9=>?_)
 ·refine Qt ?_;rw[Lr oa]at I;refine Qc<|Qb<|Qh ⟨[.bool false],La,?_,G⟩;have J:¬(3:Int)∈es:=λh=>by have:=I.1 h;cases this
  rw[OZ J];rfl
 have E:k<es.length:=oa
 have hd:=QY E;refine Qf<|Qd<|Qn<|Qk<|Qa<|xii (i:=k) hE O O E λhg ha=>x (Qr ha O)<|x (Zd O O)<|xe<|Zi rfl (λS=>?_) (λS=>?_)
 ·have T:es[k]'E=3:=S;refine Qc<|QV Y O O<|Qv<|(qB (h.I G) hl U).S ?_;rintro r3 w3 ⟨rfl,hc⟩;refine x (Ya O O)<|Qb<|Qh ⟨[_],La,?_,G.D hc⟩;have J:(3:Int)∈es:=by rw[<-T];exact Le E
  rw[OX J];rfl
 have T:¬es[k]'E=3:=S;refine Qf<|Qs<|Qa<|QD O O<|Qb<|⟨k+1,oa,La,O,oa,?_⟩;rw[I,hd,Ln];exact⟨λh=>h.resolve_left λe=>T e.symm,.inr⟩
theorem PlA.I {L:LN}{w w':O1}{l:PlV}(h:PlA L ↑w l)(E:sW w w'):PlA L ↑w' l:=⟨h.n,h.b,h.x.I E,h.f0,h.f1,h.f2,h.bd⟩
theorem QgC {l:PwV}{rs:List X4V}{hb:Nat}(hB:PlA [] ↑w (l.pl rs))(hV:hb<256):
  QR sV 12 [.agg (Z5 l++[Value.int .u8 (hb:Int)]).toArray] w λr w'=>sW w w'/\∃(c:CL) (vh:O2) (hi:LI),r=.tuple #[c.val,vh]/\(∀L:LN,(∀b∈L,b<↑w)->ZP L ↑w' c)/\Qi 3 ↑w w' vh hi/\qM c.C hi:=by
 have ht:(Z5 l).length=152:=QaE (l:=l.pl rs) hB.n;have hW:(Z5 l++[Value.int .u8 (hb:Int)])[152]?=some (.int .u8 (hb:Int)):=by rw[Mn oa,ht];rfl
 refine Zm func12 ?_;refine Qc<|Za (Z5 l++[Value.int .u8 (hb:Int)]) λb1 w1 hC g6 hX=>QN X3 λb2 w2 hE g7 hF=>Qb ?_;have hu:=hC.D hE;have g8:=hC.size;have hY:=hu.size;have hG:=hX.I hE;refine Qc<|Zc O<|x (ZR (us:=Z5 l) hG O ht (by rw[NF,<-ht];exact List.take_left))<|Qv<|(QgD (l:=l.pl rs) (hB.I hu)).S ?_;rintro r3 w3 ⟨hn,_,⟨c0,rfl,rfl,hH⟩,hZ⟩;have ga:=hH [] od;refine QN X3 λb4 w4 gb hw gc=>Q2 c0.cells gc ga.ones λw5 ge gg=>xe ?_;refine Qc<|Zc O<|Qo<|Qw (j:=3) (u:=ZT) gg O O od rfl λw6 gh gi=>Zc rfl<|Qo<|Qw (j:=4) (u:=ZT) gi rfl rfl od rfl λU gj gk=>xe ?_;obtain⟨c,hc⟩:∃c:CL,c={ c0 with vx:=ZT,vk:=ZT,ex:=[],cs:=[] }:=⟨_,O⟩
 have Y:sW w3 U:=((gb.Q ge hw).Q gh hw).Q gj hw;have hI:=(hu.D hn).D Y;have g9:=hn.size;have ka:=Y.size;have gl:=(hF.I hn).I Y;have gm:=(hG.I hn).I Y;have gn:=hF.lt;have hJ:∀L:LN,(∀b∈L,b<↑w2)->ZP L ↑U c:=λL hL=>by rw[hc];exact((hH L hL).I Y).bare
 have hK:c.cells=[c0.ve,c0.vc,c0.vr,ZT,ZT]:=by rw[hc]
 have go:QL ↑U b4 46 c.cells:=by rw[hK];exact gk
 have hz:c.C=⟨c0.C.ev,c0.C.co,c0.C.rq,[],[]⟩:=by rw[hc];rfl
 have hD:D25 c.C:=by rw[hz];exact hZ.bare
 have hM:c.C.ex=[]/\c.C.cs=[]:=by rw[hz];exact⟨O,O⟩
 clear hz hK hc;have kb:c.ev.length=5:=hD.ev.1;have ho:=hJ [] od;have kc:c.rq.length<=2:=by have G:=hD.r2;rw[show c.C.rq.length=c.rq.length from Ll ..]at G;exact G
 refine Qc<|Qb<|Qd<|Qc<|Qb<|QW (α:=Nat×O2×LI) [(5,8),(14,54)] (λz=>[(5,z.2.1),(6,sS z.1)]) (λz w'=>z.1<=5/\sW U w'/\Qi 3 ↑U w' z.2.1 z.2.2/\YA z.2.2/\(∀v∈z.2.2,0<=v/\v<(z.1:Int))/\∀q∈c.rq,∀e∈q.p.a.al,e<(z.1:Int)->e∈z.2.2) (λz=>5 - z.1) (0,ZT,[]) ov
  ⟨Lo _,O5.Y _ _,QM _ _ _ _,List.Pairwise.nil,nofun,λq S e J hp=>by
   have:=((hD.rq q.it (LG S)).2.1.ok.al e J).1;have h2:e<0:=hp;omega⟩ ?_
 rintro⟨k,vo,m⟩ g w8 ⟨hk,I,gq,hr,hf,h6⟩;have hg:Qi 3 ↑U w8 vo m:=gq;have gr:k<=5:=hk;have ke:=I.size;have kf:m.length<=5:=Lx (xH k m (Qd2 hr) hf) gr;have hs:=go.I I;refine Qd<|Qk<|Qq O hs O O<|QG (ho.ev.arr.I I) O<|ZX O O<|xe<|Zr rfl (λh7=>?_) (λh7=>?_)
 ·refine Qt ?_;have gs:k=5:=by have gt:¬(k:Int)<(c.ev.length:Int):=h7;omega
  subst gs;refine Qc<|QV hs O O<|Qa<|Q2 c.cells (gl.I I) ho.ones λw9 h8 gu=>Qb ?_;have gv:sW w w9:=(hI.D I).Q h8 oa;refine Qh ⟨[sT c.cells,vo],⟨Jl gu,O,Z⟩,gv,c,vo,m,O,λL hL=>?_,?_,hD,hM.1,hM.2,hr,hf,λx hx e J=>?_⟩
  ·have G:=(hJ (b2::L) λb hb=>by
    rcases Ln.1 hb with rfl|hb
    ·exact gn
    exact LR (hL b hb) hY).I I
   exact(G.st (h8.S λb hb=>by rw[Lb.1 hb];exact Lm)).up λb hb=>.inl (Lk _ hb)
  ·have hN:=Qg hg h8 (λb hb hm=>by have:=(Qj hg b hb).1;rw[Lb.1 hm]at this;omega);exact⟨hN.1,hN.2.imp id λ⟨g,cap,cur,e1,e2,r⟩=>⟨g,cap,cur,e1,Lx hI.size e2,r⟩⟩
  obtain⟨q,S,rfl⟩:=Ly.1 hx;obtain⟨y,hy,h4⟩:=(hD.rq q.it hx).2.2 e J;exact h6 q S e J ((hD.co y hy).2.2 e h4)
 have hp:k<5:=by have gt:(k:Int)<(c.ev.length:Int):=h7;omega
 have gx:hb / 2 ^ k<256:=Nat.lt_of_le_of_lt (Nat.div_le_self _ _) hV;refine Qf<|Qd<|Qn<|QX (α:=Bool) [(7,7),(21,30)] (λz=>[(7,.bool z)]) (λz w'=>w'=w8) oh ?_ ?_
 ·refine Qs<|Qa<|xb (YC O O) (λhO=>?_) (λhO=>OW (show(k:Int)<8 by omega) hO);refine Qa<|Qq O (gm.I I) O hW<|Qa<|x (Qb0 (n:=k) O O (by show k<=8;omega))<|x (U4 (a:=hb / 2 ^ k) (b:=1) (OV (Value.int .u8) (Qat hb k)) O gx og)<|x (Zd O O)<|x (VM O) <|
   Qb<|⟨_,⟨rfl,Z⟩,O⟩
 rintro z0 g gy rfl;refine Qd<|Qc<|Qb ?_;have hP:=ho.rq.arr.I I;refine QW (α:=Bool×Nat) [(7,8),(31,49)] (λz=>[(7,.bool z.1),(8,sS z.2)]) (λz w'=>sW gy w'/\z.2<=c.rq.length/\∀j (hj:j<c.rq.length),j<z.2->(k:Int)∈(c.rq[j]'hj).p.a.al->z.1=true) (λz=>c.rq.length - z.2) (z0,0) ov ⟨O5.Y _ _,Lo _,λj hj h0=>OW h0 (NJ j)⟩ ?_;rintro⟨q0,j⟩ g kg ⟨E,hj,hQ⟩;have hR:=I.D E;refine Qd<|Qk<|Qq O (hs.I E) O O<|QG (hP.I E) O<|ZX O O<|xe<|Zr rfl (λhS=>?_) (λhS=>?_)
 ·refine Qt<|Qk<|xe<|Q6 O (λhT=>?_) (λhT=>?_)
  rotate_left
  ·refine Qf<|Qs<|Qa<|QD O O<|Qb<|⟨(k+1,vo,m),by show 5 - (k+1)<5 - k;omega,ov,hp,hR,Qm hg E,hr,λv T=>?_,λq S e J h9=>?_⟩
   ·have G:=hf v T;have h2:v<(k:Int):=G.2;exact⟨G.1,by show v<((k+1:Nat):Int);omega⟩
   have h2:e<((k+1:Nat):Int):=h9;by_cases e1:e=(k:Int)
   ·obtain⟨i,hi,e2⟩:=LP S;have h3:=hQ i hi (by show i<j;omega) (by rw[e2,<-e1];exact J);have h4:q0=true:=h3;have h5:q0=false:=hT;rw[h4]at h5;cases h5
   exact h6 q S e J (by show e<(k:Int);omega)
  refine Qs<|Qa<|Qa<|Qo<|Q9 [[sS k]] λkh ki hA kj gz=>Qo<|Q8 (news:=[sS k]) (L:=[]) (Qm (Qm hg E) hA) O O O (gz.at od) om oa (oq E.size hA.size) λg0 kk g2 g3 kn =>
   Qb<|Qs<|Qa<|QD O O<|Qb<|⟨(k+1,g0,m++[(k:Int)]),by show 5 - (k+1)<5 - k;omega,ov,hp,(hR.D hA).O g3 λb hb=>.inr (Qj hg b hb).1,Qi.snoc g2,?_,λv T=>?_,λq S e J h9=>?_⟩
  ·refine Mg.2 ⟨hr,M4 _ _,λa ha b hb=>?_⟩;rw[Lb.1 hb];exact(hf a ha).2
  ·show 0<=v/\v<((k+1:Nat):Int);rcases Lh.1 T with T|T
   ·have G:=hf v T;have h2:v<(k:Int):=G.2;exact⟨G.1,oa⟩
   rw[Lb.1 T];omega
  have h2:e<((k+1:Nat):Int):=h9;by_cases e1:e=(k:Int)
  ·rw[e1];exact MN _ (Lb.2 O)
  exact LM _ (h6 q S e J (by show e<(k:Int);omega))
 have V:j<c.rq.length:=by have ko:(j:Int)<(c.rq.length:Int):=hS;omega
 have g4:=Le V;refine Qf<|Qd<|Qn<|Qs<|xB Jr (λhh=>?_) (λhh=>?_)
 ·refine Qa<|Zq<|Zq<|Zq<|QB O<|Qb<|Qs<|Qa<|QD O O<|Qb<|⟨(q0,j+1),by show c.rq.length - (j+1)<c.rq.length - j;omega,⟨OV Value.bool hh.symm,O,Z⟩,E,V,λi hi hU hm=>hh⟩
 refine Qa<|Qq O (hs.I E) O O<|Qa<|O8 (g:=QZ) (i:=j) (λ_=>O) (hP.I E) O O V λkq g5=>x (ZI O)<|x (ZI O) <|
  x (Qr (g5.fld 1 _ O) O)<|Qa<|Qv<|(Qjz (((ho.rq.each (c.rq[j]'V) g4).al.I I).I E) (k:Int)).S ?_
 rintro kr kt ⟨rfl,rfl⟩;refine QB rfl<|Qb<|Qs<|Qa<|QD O O<|Qb<|⟨(decide ((k:Int)∈(c.rq[j]'V).p.a.al),j+1),by show c.rq.length - (j+1)<c.rq.length - j;omega,ov,E,V,λi hi hU hm=>?_⟩;have ku:i<j+1:=hU;by_cases e:i=j
 ·subst e;exact OX hm
 have h4:q0=true:=hQ i hi (by show i<j;omega) hm;rw[h4]at hh;cases hh
theorem Qoo {l:PwV}{hb:Int}(h:l.ns.length=147):(Z5 l++[Value.int .u8 hb]).length=153:=by rw[Lc,show(Z5 l).length=152 from QaE (l:=l.pl []) h];rfl
theorem QlM {l:PwV}{hb:Int}(h:l.ns.length=147):((Z5 l++[Value.int .u8 hb]).drop 0).take 152=Z5 l:=by rw[NF,<-show(Z5 l).length=152 from QaE (l:=l.pl []) h];exact List.take_left
theorem PwA.I {w w':O1}{l:PwV}(h:PwA w l)(E:sW w w'):PwA w' l:=⟨h.n,h.b,h.f0,h.f1,h.f2,h.bd,λG=>let⟨rs,I,J⟩:=h.r G;⟨rs,I,J.I E⟩⟩
theorem CL.co3 (h:qM c.C hi):c.co.length<=3/\(∀x∈c.C.co,x.a.st<=3)/\c.ev.length=5:=by
 have E:=h.d.c3;rw[show c.C.co.length=c.co.length from Ll ..]at E;exact⟨E,λx hx=>(h.d.co x hx).2.1.s,h.d.ev.1⟩
theorem qM.hl {c:Z2}(h:qM c hi):hi.length<=5:=xH 5 hi (Qd2 h.i) h.b
theorem Qqc {E n:Int}(h:E=0\/E=3/\6<n)(G:E∈l)(I:(decide (3∈l) && decide (6<n))=false):E=0:=by
 rcases h with h|⟨h,J⟩
 ·exact h
 rw[h]at G;rw[OX G,OX J]at I;cases I
section
variable (k:α->Int)
end
theorem QfW {b:Qz}:a=b↔(a.al=b.al/\a.st=b.st/\a.mr=b.mr/\a.ed=b.ed):=⟨λh=>by subst h;exact⟨O,O,O,O⟩,λh=>by cases a;cases b;simp_all⟩
theorem QfD {a b:KN}:a=b↔(a.nm=b.nm/\a.co=b.co/\a.ob=b.ob/\a.fo=b.fo/\a.fl=b.fl):=⟨λh=>by subst h;exact⟨O,O,O,O,O⟩,λh=>by cases a;cases b;simp_all⟩
theorem Qfp {a b:X5}:a=b↔(a.nm=b.nm/\a.a=b.a):=⟨λh=>by subst h;exact⟨O,O⟩,λh=>by cases a;cases b;simp_all⟩
theorem zu {a b:Exc}:a=b↔(a.nm=b.nm/\a.ls=b.ls):=⟨λh=>by subst h;exact⟨O,O⟩,λh=>by cases a;cases b;simp_all⟩
theorem UF {a b:xL}:a=b↔(a.nm=b.nm/\a.ts=b.ts/\a.bd=b.bd):=⟨λh=>by subst h;exact⟨O,O,O⟩,λh=>by cases a;cases b;simp_all⟩
theorem QfS {a b:Z2}:a=b↔(a.ev=b.ev/\a.co=b.co/\a.rq=b.rq/\a.ex=b.ex/\a.cs=b.cs):=⟨λh=>by subst h;exact⟨O,O,O,O,O⟩,λh=>by cases a;cases b;simp_all⟩
instance:DecidableEq Qz:=λ_ _=>decidable_of_iff _ QfW.symm
instance:DecidableEq KN:=λ_ _=>decidable_of_iff _ QfD.symm
instance:DecidableEq X5:=λ_ _=>decidable_of_iff _ Qfp.symm
instance:DecidableEq Exc:=λ_ _=>decidable_of_iff _ zu.symm
instance:DecidableEq xL:=λ_ _=>decidable_of_iff _ UF.symm
instance:DecidableEq Z2:=λ_ _=>decidable_of_iff _ QfS.symm
abbrev Ky:=Int×ByteArray
structure xK where
 ky:Ky
 vr:Int
 sp:Qz
 kp:LI
 ds:LI
 rm:List Q4
 c:Z2
theorem QmQ (a b:KN):VT (Zo a) (Zo b)=decide (a=b):=by
 rw[Bool.eq_iff_iff];simp only[VT,eqV,oI,beq_iff_eq,decide_eq_true_eq,QfD,and_true]
theorem QiC (a b:Int×Int):VT (Q5 a) (Q5 b)=decide (a=b):=by
 rw[Bool.eq_iff_iff];simp only[VT,eqV,oI,beq_iff_eq,decide_eq_true_eq,Prod.ext_iff,and_true]
instance skEvt:Sk sV 94 [1,2,2,2,0]:=⟨⟨_,underlying94,.str og O underlying9<|.flag og O underlying4<|.flag og O underlying4<|.flag og O underlying4<|.int og O underlying3 .nil⟩,oc,oc⟩
instance skLoc:Sk sV 188 [0,0]:=⟨⟨_,underlying188,.int og O underlying3<|.int og O underlying3 .nil⟩,oc,oc⟩
instance skTrm:Sk sV 193 [0,0]:=⟨⟨_,underlying193,.int og O underlying3<|.int og O underlying3 .nil⟩,oc,oc⟩
theorem QgU {v:O2}{l l':List (KN)}(h:Zt L ↑w v l.length 5 (l.flatMap Zo))(E:Zt L' ↑w v' l'.length 5 (l'.flatMap Zo)):
  QR sV 102 [v,v'] w λr w'=>r=.bool (decide (l=l'))/\sW w w' :=
 eqG ⟨_,O,func102⟩ UB (ldA UB) h E λ{_ _ _ _ _ _ _ _ _ a b} _ _ hx G=>(KZ (xs:=Zo a) (ys:=Zo b) O hx G).D (by rw[QmQ];simp)
theorem QgT {v:O2}{l l':xw}(h:Zt L ↑w v l.length 2 (l.flatMap Q5))(E:Zt L' ↑w v' l'.length 2 (l'.flatMap Q5)):
  QR sV 106 [v,v'] w λr w'=>r=.bool (decide (l=l'))/\sW w w' :=
 eqG ⟨_,O,func106⟩ Xc (ldA Xc) h E λ{_ _ _ _ _ _ _ _ _ a b} _ _ hx G=>(KZ (xs:=Q5 a) (ys:=Q5 b) O hx G).D (by rw[QiC];simp)
theorem QgS {v:O2}{l l':xw}(h:Zt L ↑w v l.length 2 (l.flatMap Q5))(E:Zt L' ↑w v' l'.length 2 (l'.flatMap Q5)):
  QR sV 109 [v,v'] w λr w'=>r=.bool (decide (l=l'))/\sW w w' :=
 eqG ⟨_,O,func109⟩ Xc (ldA Xc) h E λ{_ _ _ _ _ _ _ _ _ a b} _ _ hx G=>(KZ (xs:=Q5 a) (ys:=Q5 b) O hx G).D (by rw[QiC];simp)
theorem VQ {f:α->β}{l l':List α}(h:l.length≠l'.length):l.map f≠l'.map f:=λe=>h (by have:=OV oU e;rwa [Ll,Ll]at this)
theorem K7 {f:α->β}{l l':List α}{k:Nat}(h:k<l.length)(E:k<l'.length):(l.drop k).map f=(l'.drop k).map f↔f (l[k]'h)=f (l'[k]'E)/\(l.drop (k+1)).map f=(l'.drop (k+1)).map f:=by
 rw[LZ h,LZ E,LS,LS];exact List.cons_eq_cons
theorem QfE {v:O2}{l l':List IV}[Fu sV gf fn](h:Zt L ↑w v l.length 5 (l.flatMap QZ))(E:Zt L' ↑w v' l'.length 5 (l'.flatMap QZ))
  (h1:∀q∈l,Zv (QZ q)) (hr:∀q∈l',Zv (QZ q)) (hk:∀(k:Nat) (h:k<l.length) (E:k<l'.length) (G:O1),sW w G->QR sV gf [.agg (QZ (l[k]'h)).toArray,.agg (QZ (l'[k]'E)).toArray] G λr w'=>r=.bool (decide ((l[k]'h).it=(l'[k]'E).it))/\sW G w'):
  QR sV 103 [v,v',.func (.func gf) #[] #[]] w λr w'=>r=.bool (decide (l.map (·.it)=l'.map (·.it)))/\sW w w':=by
 have h8:=h.le;refine Zm func103 ?_;refine Qc<|Qb<|Qd<|Qk<|QG h O<|Qa<|QG E O<|ZM O O<|xe<|Zi rfl (λhf=>?_) (λhf=>?_)
 ·refine Qc<|Qb<|Qh ⟨[.bool false],La,?_,O5.Y _ _⟩;have:l.map (·.it)≠l'.map (·.it):=VQ λe=>hf (by rw[e]);simp[tup,this]
 refine Qf<|Qd<|Qk<|QG h O<|Qa<|xe<|QW (α:=Nat) [(6,9),(17,31)] (λk=>[(17,sS k)]) (λk w'=>sW w w'/\k<=l.length/\(l.map (·.it)=l'.map (·.it)↔(l.drop k).map (·.it)=(l'.drop k).map (·.it))) (λk=>l.length - k) 0 La ⟨O5.Y _ _,Lo _,od⟩ ?_;rintro k g G ⟨S,hk1,T⟩;refine Zk rfl O (λht=>?_) (λht=>?_)
 ·refine Qt<|Qc<|Qb<|Qh ⟨[.bool true],La,?_,S⟩;rw[Lr oa,Lr oa]at T;simp[tup,T]
 have I:k<l.length:=oa
 have J:k<l'.length:=oa
 have V:=hk k I J;have U:=K7 (f:=(·.it)) I J;have hm:=h1 _ (Le I);have hg:=hr _ (Le J);refine Qf<|Qd<|Qn<|Qk<|O8 (g:=QZ) (i:=k) Va (h.I S) O O I λh9 hh=>?_;refine Zg (l[k]'I) λq hq=>?_;rw[hq]at hh V hm U;refine x (QA hh O O)<|QN [.string .empty,nS,sS 0,nS,nS] λb8 w2 hu hv hw=>x Qe<|Q2 (QZ q) hw hm λw3 hy hz=>xe ?_;have hj:sW G w3:=hu.Q hy hv;refine Qk<|Qa<|O8 (g:=QZ) (i:=k) Va ((E.I S).I hj) O O J λhA hn=>?_;refine Zg (l'[k]'J) λY h0=>?_;rw[h0]at hn V hg U;refine x (QA hn O O)<|QN [.string .empty,nS,sS 0,nS,nS] λb9 w4 h2 h3 h4=>Q2 (QZ Y) h4 hg λw5 h5 h6=>xe ?_;have ho:sW w3 w5:=h2.Q h5 h3;have ha:=(S.D hj).D ho;refine Qk<|QV (hz.I ho) O O<|QV h6 O O<|Qo<|xc (first:=[]) (capt:=[]) O<|(V w5 ha).S ?_;rintro r6 w6 ⟨rfl,hp⟩;refine x (Zl O)<|xe<|Q6 rfl (λhc=>?_) (λhc=>?_)
 ·refine Qc<|Qb<|Qh ⟨[.bool false],La,?_,ha.D hp⟩;have h7:¬q.it=Y.it:=by simpa using hc
  have:l.map (·.it)≠l'.map (·.it):=λe=>h7 (U.1 (T.1 e)).1;simp[tup,this]
 refine Qf ?_;have he:q.it=Y.it:=by simpa using hc
 refine Qs<|QD O O<|Qa<|xe ?_;exact⟨k+1,oa,La,ha.D hp,oa,T.D (U.D ⟨λh=>h.2,λh=>⟨he,h⟩⟩)⟩
theorem QmS {v:O2}{l l':List XV}[Fu sV gf fn](h:Zt L ↑w v l.length 2 (l.flatMap Zw))(E:Zt L' ↑w v' l'.length 2 (l'.flatMap Zw))
  (h1:∀q∈l,Zv (Zw q)) (hr:∀q∈l',Zv (Zw q)) (hk:∀(k:Nat) (h:k<l.length) (E:k<l'.length) (G:O1),sW w G->QR sV gf [.agg (Zw (l[k]'h)).toArray,.agg (Zw (l'[k]'E)).toArray] G λr w'=>r=.bool (decide ((l[k]'h).x=(l'[k]'E).x))/\sW G w'):
  QR sV 104 [v,v',.func (.func gf) #[] #[]] w λr w'=>r=.bool (decide (l.map (·.x)=l'.map (·.x)))/\sW w w':=by
 have h8:=h.le;refine Zm func104 ?_;refine Qc<|Qb<|Qd<|Qk<|QG h O<|Qa<|QG E O<|ZM O O<|xe<|Zi rfl (λhf=>?_) (λhf=>?_)
 ·refine Qc<|Qb<|Qh ⟨[.bool false],La,?_,O5.Y _ _⟩;have:l.map (·.x)≠l'.map (·.x):=VQ λe=>hf (by rw[e]);simp[tup,this]
 refine Qf<|Qd<|Qk<|QG h O<|Qa<|xe<|QW (α:=Nat) [(6,9),(17,31)] (λk=>[(17,sS k)]) (λk w'=>sW w w'/\k<=l.length/\(l.map (·.x)=l'.map (·.x)↔(l.drop k).map (·.x)=(l'.drop k).map (·.x))) (λk=>l.length - k) 0 La ⟨O5.Y _ _,Lo _,od⟩ ?_;rintro k g G ⟨S,hk1,T⟩;refine Zk rfl O (λht=>?_) (λht=>?_)
 ·refine Qt<|Qc<|Qb<|Qh ⟨[.bool true],La,?_,S⟩;rw[Lr oa,Lr oa]at T;simp[tup,T]
 have I:k<l.length:=oa
 have J:k<l'.length:=oa
 have V:=hk k I J;have U:=K7 (f:=(·.x)) I J;have hm:=h1 _ (Le I);have hg:=hr _ (Le J);refine Qf<|Qd<|Qn<|Qk<|O8 (g:=Zw) (i:=k) VF (h.I S) O O I λh9 hh=>?_;refine Zg (l[k]'I) λq hq=>?_;rw[hq]at hh V hm U;refine x (QA hh O O)<|QN [.string .empty,nS] λb8 w2 hu hv hw=>x Qe<|Q2 (Zw q) hw hm λw3 hy hz=>xe ?_;have hj:sW G w3:=hu.Q hy hv;refine Qk<|Qa<|O8 (g:=Zw) (i:=k) VF ((E.I S).I hj) O O J λhA hn=>?_;refine Zg (l'[k]'J) λY h0=>?_;rw[h0]at hn V hg U;refine x (QA hn O O)<|QN [.string .empty,nS] λb9 w4 h2 h3 h4=>Q2 (Zw Y) h4 hg λw5 h5 h6=>xe ?_;have ho:sW w3 w5:=h2.Q h5 h3;have ha:=(S.D hj).D ho;refine Qk<|QV (hz.I ho) O O<|QV h6 O O<|Qo<|xc (first:=[]) (capt:=[]) O<|(V w5 ha).S ?_;rintro r6 w6 ⟨rfl,hp⟩;refine x (Zl O)<|xe<|Q6 rfl (λhc=>?_) (λhc=>?_)
 ·refine Qc<|Qb<|Qh ⟨[.bool false],La,?_,ha.D hp⟩;have h7:¬q.x=Y.x:=by simpa using hc
  have:l.map (·.x)≠l'.map (·.x):=λe=>h7 (U.1 (T.1 e)).1;simp[tup,this]
 refine Qf ?_;have he:q.x=Y.x:=by simpa using hc
 refine Qs<|QD O O<|Qa<|xe ?_;exact⟨k+1,oa,La,ha.D hp,oa,T.D (U.D ⟨λh=>h.2,λh=>⟨he,h⟩⟩)⟩
theorem QmT {v:O2}{l l':List KV}[Fu sV gf fn](h:Zt L ↑w v l.length 3 (l.flatMap Zz))(E:Zt L' ↑w v' l'.length 3 (l'.flatMap Zz))
  (h1:∀q∈l,Zv (Zz q)) (hr:∀q∈l',Zv (Zz q)) (hk:∀(k:Nat) (h:k<l.length) (E:k<l'.length) (G:O1),sW w G->QR sV gf [.agg (Zz (l[k]'h)).toArray,.agg (Zz (l'[k]'E)).toArray] G λr w'=>r=.bool (decide ((l[k]'h).k=(l'[k]'E).k))/\sW G w'):
  QR sV 107 [v,v',.func (.func gf) #[] #[]] w λr w'=>r=.bool (decide (l.map (·.k)=l'.map (·.k)))/\sW w w':=by
 have h8:=h.le;refine Zm func107 ?_;refine Qc<|Qb<|Qd<|Qk<|QG h O<|Qa<|QG E O<|ZM O O<|xe<|Zi rfl (λhf=>?_) (λhf=>?_)
 ·refine Qc<|Qb<|Qh ⟨[.bool false],La,?_,O5.Y _ _⟩;have:l.map (·.k)≠l'.map (·.k):=VQ λe=>hf (by rw[e]);simp[tup,this]
 refine Qf<|Qd<|Qk<|QG h O<|Qa<|xe<|QW (α:=Nat) [(6,9),(17,31)] (λk=>[(17,sS k)]) (λk w'=>sW w w'/\k<=l.length/\(l.map (·.k)=l'.map (·.k)↔(l.drop k).map (·.k)=(l'.drop k).map (·.k))) (λk=>l.length - k) 0 La ⟨O5.Y _ _,Lo _,od⟩ ?_;rintro k g G ⟨S,hk1,T⟩;refine Zk rfl O (λht=>?_) (λht=>?_)
 ·refine Qt<|Qc<|Qb<|Qh ⟨[.bool true],La,?_,S⟩;rw[Lr oa,Lr oa]at T;simp[tup,T]
 have I:k<l.length:=oa
 have J:k<l'.length:=oa
 have V:=hk k I J;have U:=K7 (f:=(·.k)) I J;have hm:=h1 _ (Le I);have hg:=hr _ (Le J);refine Qf<|Qd<|Qn<|Qk<|O8 (g:=Zz) (i:=k) VR (h.I S) O O I λh9 hh=>?_;refine Zg (l[k]'I) λq hq=>?_;rw[hq]at hh V hm U;refine x (QA hh O O)<|QN [.string .empty,nS,sS 0] λb8 w2 hu hv hw=>x Qe<|Q2 (Zz q) hw hm λw3 hy hz=>xe ?_;have hj:sW G w3:=hu.Q hy hv;refine Qk<|Qa<|O8 (g:=Zz) (i:=k) VR ((E.I S).I hj) O O J λhA hn=>?_;refine Zg (l'[k]'J) λY h0=>?_;rw[h0]at hn V hg U;refine x (QA hn O O)<|QN [.string .empty,nS,sS 0] λb9 w4 h2 h3 h4=>Q2 (Zz Y) h4 hg λw5 h5 h6=>xe ?_;have ho:sW w3 w5:=h2.Q h5 h3;have ha:=(S.D hj).D ho;refine Qk<|QV (hz.I ho) O O<|QV h6 O O<|Qo<|xc (first:=[]) (capt:=[]) O<|(V w5 ha).S ?_;rintro r6 w6 ⟨rfl,hp⟩;refine x (Zl O)<|xe<|Q6 rfl (λhc=>?_) (λhc=>?_)
 ·refine Qc<|Qb<|Qh ⟨[.bool false],La,?_,ha.D hp⟩;have h7:¬q.k=Y.k:=by simpa using hc
  have:l.map (·.k)≠l'.map (·.k):=λe=>h7 (U.1 (T.1 e)).1;simp[tup,this]
 refine Qf ?_;have he:q.k=Y.k:=by simpa using hc
 refine Qs<|QD O O<|Qa<|xe ?_;exact⟨k+1,oa,La,ha.D hp,oa,T.D (U.D ⟨λh=>h.2,λh=>⟨he,h⟩⟩)⟩
theorem QdY {a b:X5}:a=b↔(a.nm=b.nm/\a.a.st=b.a.st/\a.a.al=b.a.al/\a.a.mr=b.a.mr/\a.a.ed=b.a.ed):=by
 rw[Qfp,QfW];exact⟨λ⟨E,G,I,J,S⟩=>⟨E,I,G,J,S⟩,λ⟨E,G,I,J,S⟩=>⟨E,I,G,J,S⟩⟩
theorem QfF {E:IV}(h:Zp [] ↑w q.p.va q.p.vm q.p.ve q.p.a)(U:Zp [] ↑w E.p.va E.p.vm E.p.ve E.p.a):
  QR sV 101 [sT (QZ q),sT (QZ E)] w λr w'=>r=.bool (decide (q.it=E.it))/\sW w w':=by
 refine Zm func101 ?_;refine Qc<|Za (QZ q) λb2 w1 V ha S=>Za (QZ E) λb3 w2 I hc T=>Qb ?_;have G:=V.D I;refine Qc<|Qq O (S.I I) O O<|Qq O T O O<|xb (Ja O O) (λJ=>?_) (λJ=>?_)
 ·refine Qa<|Zc O<|x (QA (((S.I I).at (L:=[]) od).from 1) rfl rfl)<|Zc rfl<|x (QA ((T.at (L:=[]) od).from 1) rfl rfl)<|Qv<|(Vl (h.I G) (U.I G)).S ?_;rintro r4 w4 ⟨rfl,Y⟩;refine QB O<|Qb<|Qh ⟨[.bool _],La,OV Value.bool (decide_eq_decide.2 ⟨λh=>QdY.2 ⟨J,h⟩,λh=>(QdY.1 h).2⟩),G.D Y⟩
 refine Qa<|Zq<|Yf<|QB O<|Qb<|Qh ⟨[.bool false],La,OV Value.bool (OZ λh=>J (QdY.1 h).1).symm,G⟩
theorem QmV {q E:XV}(h:P2s [] ↑w q.v q.ls)(U:P2s [] ↑w E.v E.ls):
  QR sV 105 [sT (Zw q),sT (Zw E)] w λr w'=>r=.bool (decide (q.x=E.x))/\sW w w':=by
 refine Zm func105 ?_;refine Qc<|Za (Zw q) λb2 w1 V ha S=>Za (Zw E) λb3 w2 I hc T=>Qb ?_;have G:=V.D I;refine Qc<|Qq O (S.I I) O O<|Qq O T O O<|xb (Ja O O) (λJ=>?_) (λJ=>?_)
 ·refine Qa<|Qq O (S.I I) O O<|Qq O T O O<|Qv<|(QgT (h.I G) (U.I G)).S ?_;rintro r4 w4 ⟨rfl,Y⟩;refine QB O<|Qb<|Qh ⟨[.bool _],La,OV Value.bool (decide_eq_decide.2 ⟨λh=>zu.2 ⟨J,h⟩,λh=>(zu.1 h).2⟩),G.D Y⟩
 refine Qa<|Zq<|Yf<|QB O<|Qb<|Qh ⟨[.bool false],La,OV Value.bool (OZ λh=>J (zu.1 h).1).symm,G⟩
theorem QmU {q E:KV}(h:P2s [] ↑w q.v q.ts)(V:P2s [] ↑w E.v E.ts):
  QR sV 108 [sT (Zz q),sT (Zz E)] w λr w'=>r=.bool (decide (q.k=E.k))/\sW w w':=by
 refine Zm func108 ?_;refine Qc<|Za (Zz q) λb2 w1 Y hc J=>Za (Zz E) λb3 w2 I he S=>Qb ?_;have G:=Y.D I;refine Qc<|Qq O (J.I I) O O<|Qq O S O O<|xb (Ja O O) (λT=>?_) (λT=>?_)
 ·refine Qa<|Qq O (J.I I) O O<|Qq O S O O<|xb (Zd O O) (λU=>?_) (λU=>?_)
  ·refine QB O<|Qa<|Qq O (J.I I) O O<|Qq O S O O<|Qv<|(QgS (h.I G) (V.I G)).S ?_;rintro r4 w4 ⟨rfl,ha⟩;refine QB O<|Qb<|Qh ⟨[.bool _],La,OV Value.bool (decide_eq_decide.2 ⟨λh=>UF.2 ⟨T,h,U⟩,λh=>(UF.1 h).2.1⟩),G.D ha⟩
  refine QB O<|Qa<|Zq<|Yf<|QB O<|Qb<|Qh ⟨[.bool false],La,OV Value.bool (OZ λh=>U (UF.1 h).2.2).symm,G⟩
 refine Qa<|Zq<|Yf<|QB O<|Qa<|Zq<|Yf<|QB O<|Qb<|Qh ⟨[.bool false],La,OV Value.bool (OZ λh=>T (UF.1 h).1).symm,G⟩
theorem Qem {G:CL}(h0:ZP L ↑w c)(hy:ZP L' ↑w G):
  QR sV 44 [c.val,G.val] w λr w'=>r=.bool (decide (c.C=G.C))/\sW w w':=by
 have h:=h0.up (L':=[]) od;have E:=hy.up (L':=[]) od;have ha:c.C=G.C↔(c.ev=G.ev/\c.co.map (·.it)=G.co.map (·.it)/\c.rq.map (·.it)=G.rq.map (·.it)/\c.ex.map (·.x)=G.ex.map (·.x)/\c.cs.map (·.k)=G.cs.map (·.k)):=QfS;have hm:∀{b:Bool},(c.C=G.C->b=true)->b=false->Value.bool false=.bool (decide (c.C=G.C)):=λh1 h2=>OV Value.bool (OZ λe=>by rw[h1 e]at h2;cases h2).symm;have hn:∀{c:CL},ZP [] ↑w c->(∀q∈c.co,Zv (QZ q))/\∀q∈c.rq,Zv (QZ q):=λS=>⟨λq I=>⟨O,(S.co.each q I).al.one,O,(S.co.each q I).mr.one,(S.co.each q I).ed.one,Z⟩,λq I=>⟨O,(S.rq.each q I).al.one,O,(S.rq.each q I).mr.one,(S.rq.each q I).ed.one,Z⟩⟩;have hu:∀{c:CL},ZP [] ↑w c->∀q∈c.ex,Zv (Zw q):=λS q I=>⟨O,(S.ex.each q I).one,Z⟩;have hv:∀{c:CL},ZP [] ↑w c->∀q∈c.cs,Zv (Zz q):=λS q I=>⟨O,(S.cs.each q I).one,O,Z⟩;refine Zm func44 ?_;refine Qc<|Za c.cells λb2 w1 hz h8 h3=>Za G.cells λb3 w2 hw h9 he=>Qb ?_;have V:=hz.D hw;have hf:=h3.I hw;refine Qc<|Qb<|Qc<|Qq O hf O O<|Qq O he O O<|Qv<|(QgU (h.ev.arr.I V) (E.ev.arr.I V)).S ?_;rintro r1 w3 ⟨rfl,ho⟩;have hg:=V.D ho;refine xB Jr (λe1=>?_) (λe1=>?_)
 rotate_left
 ·refine Zq<|Zq<|QB O<|Qa<|Zq<|Zq<|QB O<|Qa<|Zq<|Yf<|QB O<|Qa<|Zq<|Yf<|QB O<|Qb<|Qh ⟨[.bool false],La,hm (λe=>OX (ha.1 e).1) e1,hg⟩
 refine Qq rfl (hf.I ho) O O<|Qq O (he.I ho) O O<|Qa<|Qv<|(QfE (gf:=101) (h.co.arr.I hg) (E.co.arr.I hg) (hn h).1 (hn E).1
  (λk T U w' J=>QfF (((h.co.each _ (Le T)).I hg).I J) (((E.co.each _ (Le U)).I hg).I J))).S ?_
 rintro r2 w4 ⟨rfl,h4⟩;have hp:=ho.D h4;have hh:=V.D hp;refine QB rfl<|xB Jr (λe2=>?_) (λe2=>?_)
 rotate_left
 ·refine Zq<|Zq<|QB O<|Qa<|Zq<|Yf<|QB O<|Qa<|Zq<|Yf<|QB O<|Qb<|Qh ⟨[.bool false],La,hm (λe=>OX (ha.1 e).2.1) e2,hh⟩
 refine Qq rfl (hf.I hp) O O<|Qq O (he.I hp) O O<|Qa<|Qv<|(QfE (gf:=101) (h.rq.arr.I hh) (E.rq.arr.I hh) (hn h).2 (hn E).2
  (λk T U w' J=>QfF (((h.rq.each _ (Le T)).I hh).I J) (((E.rq.each _ (Le U)).I hh).I J))).S ?_
 rintro r3 w5 ⟨rfl,h5⟩;have hr:=hp.D h5;have hj:=V.D hr;refine QB rfl<|xB Jr (λe3=>?_) (λe3=>?_)
 rotate_left
 ·refine Zq<|Yf<|QB O<|Qa<|Zq<|Yf<|QB O<|Qb<|Qh ⟨[.bool false],La,hm (λe=>OX (ha.1 e).2.2.1) e3,hj⟩
 refine Qq rfl (hf.I hr) O O<|Qq O (he.I hr) O O<|Qv<|(QmS (gf:=105) (h.ex.arr.I hj) (E.ex.arr.I hj) (hu h) (hu E)
  (λk T U w' J=>QmV (((h.ex.each _ (Le T)).I hj).I J) (((E.ex.each _ (Le U)).I hj).I J))).S ?_
 rintro r4 w6 ⟨rfl,h6⟩;have ht:=hr.D h6;have Y:=V.D ht;refine QB rfl<|xB Jr (λe4=>?_) (λe4=>?_)
 rotate_left
 ·refine Zq<|Yf<|QB O<|Qb<|Qh ⟨[.bool false],La,hm (λe=>OX (ha.1 e).2.2.2.1) e4,Y⟩
 refine Qq rfl (hf.I ht) O O<|Qq O (he.I ht) O O<|Qv<|(QmT (gf:=108) (h.cs.arr.I Y) (E.cs.arr.I Y) (hv h) (hv E)
  (λk T U w' J=>QmU (((h.cs.each _ (Le T)).I Y).I J) (((E.cs.each _ (Le U)).I Y).I J))).S ?_
 rintro r5 w7 ⟨rfl,h7⟩;refine QB rfl<|Qb<|Qh ⟨[.bool _],La,OV Value.bool (decide_eq_decide.2 ?_),Y.D h7⟩;rw[ha];exact⟨λe=>⟨OY e1,OY e2,OY e3,OY e4,e⟩,λe=>e.2.2.2.2⟩
theorem Qol {H:xA}{c:Z2}{e:Int}(h:D25 c)(E:qK N H c va vt e):e=0/\YT N H va (JZ (O7 c.co))/\∃l,Qc7 N H vt l:=by
 obtain⟨pl,ps,sa,ts,e1,e2,_⟩:=Qm0 h;have G:=UE h;have T:=h.c3;have I:=(Vb (aa:=O7 c.co) (λa J=>G a (LM _ J)) (by rw[Xy];omega)).1;unfold qK at E;rw[OT (not_not_intro h.ck)]at E;unfold Yz at E;rw[OT (not_not_intro I),e1]at E;have S:JZ (O7 c.co)=pl:=by unfold JZ;rw[e1]
 rw[S];exact⟨E.1,E.2.1,_,E.2.2⟩
theorem QhK (h:ZP [] ↑w c)(hA:Zp [] ↑w va vm ve a)(S:0<c.co.length):
  QR sV 42 [c.val,.agg #[va,sS a.st,vm,ve]] w λr w'=>sW w w'/\∃c':CL,r=c'.val/\c'.C=VK c.C a/\ZP [] ↑w' c':=by
 refine Zm func42 ?_;refine Qc<|Za c.cells λb2 w1 Y h1 ho=>Za [va,sS a.st,vm,ve] λb3 w2 T h2 hp=>QN X3 λb4 w3 U hg hh=>xe ?_;have hj:=(Y.D T).D U;have hf:=(ho.I T).I U;have hr:=hp.I U;obtain⟨G,ha⟩:∃G,c.co[0]'S=G:=⟨_,O⟩;have hs:G∈c.co:=ha ▸ Le S;have ht:=h.co.arr.I hj;have h3:=(Y.D T).size;refine Qd<|ZL [] [oz 0,oz 1,oz 2,oz 3,oz 4,oz 5,oz 6,oz 7,oz 8,oz 10,oz 11,oA 9,oz 12,oA 13]<|p (QH O)<|pq (λ_ I=>Ql (hf.I I) O O)<|p (QH O)<|pq (λ_ I=>Ql (hf.I I) O O)<|Lg.pig (g:=QZ) (i:=0) O (λ_=>O) ht O O S λa9 h9=>?_;rw[ha]at h9;refine p (λ_=>ZI O)<|pq (λ_ I=>Qr ((h9.fld 0 (.string G.nm) O).I I) O)<|pq (λ_ I=>Q7 (hr.I I) O O)<|p (λ_=>Zu [(0,[.string G.nm]),(1,[va,sS a.st,vm,ve])] ⟨O,O,O,O,Z⟩) <|
  p (QH rfl)<|pq (λ_ I=>Ql (hf.I I) O O)<|pk<|Q9 [QZ ⟨G.nm,⟨va,vm,ve,a⟩⟩] λV w4 hu h6 hk=>?_
 have J:sW w3 w4:=(O5.X [] w3).D hu;refine⟨J,p (λ_=>Zu [(0,[c.ve]),(1,[sL V 1 1]),(2,[c.vr])] ⟨h.ev.arr.cells,O,O,O,h.rq.arr.cells,O,Z⟩) ?_⟩;refine pkk<|Uk [c.ve,sL V 1 1,c.vr,ZT,ZT] (hh.I J) ⟨h.ev.arr.one,O,h.rq.arr.one,O,O,Z⟩ λw5 he hv=>pe ?_;have hw:=hj.D J;have h4:=((h.I (Y.D T)).up (L':=[b4]) λb hb=>.inr (by rw[Lb.1 hb];exact hg)).I (U.D J);have h5:ZP [] ↑w5 c:=(h4.st he).up λb hb=>by cases hb
 have hy:Zp [] ↑w5 va vm ve a:=((((hA.I (Y.D T)).up (L':=[b4]) λb hb=>.inr (by rw[Lb.1 hb];exact hg)).I (U.D J)).st he).up λb hb=>by cases hb
 have hn:V≠b4:=QL.ne hk (hh.I J) og;have hz:=hk.J he (by simp only[oF];exact hn);refine Qh ⟨[.agg #[c.ve,sL V 1 1,c.vr,ZT,ZT]],⟨Jl hv,Z⟩,hw.Q he oa,
  ⟨c.ve,sL V 1 1,c.vr,ZT,ZT,c.ev,[⟨G.nm,⟨va,vm,ve,a⟩⟩],c.rq,[],[]⟩,O,?_,h5.ev,⟨?_,λq E=>by rw[Lb.1 E];exact hy,λq E=>by rw[Lb.1 E];exact h.co.nm G hs⟩,h5.rq,⟨Zt.nil _ _ _,(λq E=>by cases E),(λq E=>by cases E)⟩,⟨Zt.nil _ _ _,(λq E=>by cases E),(λq E=>by cases E)⟩⟩
 ·unfold VK;have h0:(c.C.co.map (·.nm)).headD .empty=G.nm:=by
   show((c.co.map IV.it).map (·.nm)).headD .empty=_;cases hm:c.co with
   | nil=>rw[hm]at S;cases S
   | cons z zs=>simp only[hm]at ha;rw[<-ha];rfl
  rw[h0];rfl
 exact hz.arr od (n:=1) (cap:=1) (sz:=5) rfl og (Lp _)
theorem Qr0 {H:xA}{b:Nat}{m n o p q:Int}(h:QL H b T [sS m,sS n,sS o,sS p,sS q]):Qu [] H (sL b 5 5) [m,n,o,p,q]:=h.arr od (n:=5) (cap:=5) (sz:=1) rfl oa (Lp _)
theorem QrE {sa sm se:O2}(E:sa=nS)(G:sm=nS)(I:se=nS):Zp [] ↑w sa sm se ⟨[],0,[],[]⟩:=by
 rw[E,G,I];exact⟨Zt.nil _ _ _,Zt.nil _ _ _,Zt.nil _ _ _⟩
theorem Qqr:Q0 ⟨[],0,[],[]⟩:=⟨nofun,List.Pairwise.nil,Mx _,og,nofun,List.Pairwise.nil,nofun,List.Pairwise.nil⟩
def hU (F:Int)(S:Qz):Qz:=if F=0 then S else⟨[],0,[],[]⟩
theorem qi (a:Qz):decide (a.st=a.st/\a.al=a.al/\a.mr=a.mr/\a.ed=a.ed)=true:=OX ⟨O,O,O,O⟩
theorem auF {H:xA}{A:Qz}(h:YT N H (sT us) A):∃va vm ve,us=[va,sS A.st,vm,ve]/\∀L:LN,(∀b∈L,b<N)->Zp L H va vm ve A:=by
 obtain⟨va,vm,ve,E,G⟩:=h;exact⟨va,vm,ve,OV OP (Value.agg.inj E),G⟩
theorem ceF {H:xA}{k:Z2}(h:yW N H (sT us) k):∃c:CL,us=c.cells/\c.C=k/\∀L:LN,(∀b∈L,b<N)->ZP L H c:=by
 obtain⟨c,E,G,I⟩:=h;exact⟨c,OV OP (Value.agg.inj E),G,I⟩
theorem QdG (hC:qM c.C hi)(h:ZP [] ↑w c)(I:Kb w 4096):
  QR sV 14 [c.val] w λr w'=>sW w w'/\∃pa pm pe vt,r=.tuple #[.agg #[pa,sS (Xs c.C).st,pm,pe],vt,sS 0]/\Zv [pa,sS (Xs c.C).st,pm,pe]/\vt.oneCell'=true/\∀L:LN,(∀b∈L,b<↑w)->Zp L ↑w' pa pm pe (Xs c.C):=by
 refine(yP h I).S ?_;rintro r w' ⟨J,va,vt,e,rfl,G⟩;obtain⟨_,_,_,_,_,_,_,_,S,_⟩:=G.shape;obtain⟨rfl,⟨pa,pm,pe,rfl,hA⟩,_⟩:=Qol hC.d G;have E:=hA [] od;exact⟨J,pa,pm,pe,vt,O,⟨E.al.one,O,E.mr.one,E.ed.one,Z⟩,S,hA⟩
theorem Qlp {E:CL}{T:Z2}(e:E.C=T)(h:ZP [] ↑w E)(J:Kb w 4096):
  QR sV 29 [E.val] w λr w'=>sW w w'/\∃sa sm se,r=.tuple #[.agg #[sa,sS (hU (KQ T) (Ks T)).st,sm,se],sS (KQ T)]/\Zv [sa,sS (hU (KQ T) (Ks T)).st,sm,se]/\Zp [] ↑w' sa sm se (hU (KQ T) (Ks T)):=by
 subst e;refine(J4 h J).S ?_;rintro r w' ⟨S,sa,sm,se,rfl,I,U,V⟩;have Y:(if YN E.C=0 then(Ks E.C).st else 0)=(hU (KQ E.C) (Ks E.C)).st:=by
  unfold hU;show(if KQ E.C=0 then _ else _)=_
  split <;> rfl
 rw[Y];refine⟨S,sa,sm,se,O,⟨I.1,O,I.2.1,I.2.2.1,Z⟩,?_⟩;unfold hU;by_cases G:KQ E.C=0
 ·rw[OU G];exact V G [] od
 rw[OT G];obtain⟨e1,e2,e3⟩:=U G;exact QrE e1 e2 e3
theorem Qke {b:Nat}{pa pm pe sa sm se:O2}{P U:Qz}(J:QL ↑w b 53 ([ZB ⟨pa,pm,pe,P⟩,ZB ⟨sa,sm,se,U⟩]:List (LV)).flatten)(S:Zp [] ↑w pa pm pe P)(hS:Zp [] ↑w sa sm se U)(T:Q0 P)(V:Q0 U)(Y:Kb w 4096):
  QR sV 43 [sL b 2 2] w λr w'=>sW w w'/\∃us,r=.tuple #[sT us,sS (JG [P,U])]/\us.length=4/\Zv us/\(JG [P,U]=0->YT ↑w ↑w' (sT us) (JZ [P,U])):=by
 refine(yV (Qi6 J S hS) (λq E=>by
  rcases Ln.1 E with rfl|E
  ·exact T
  rw[Lb.1 E];exact V) Y).S ?_
 rintro r w' ⟨hs,va,rfl,ha,G⟩;obtain⟨vs,hv,hc,hvo⟩:∃vs,va=sT vs/\vs.length=4/\Zv vs:=by
  by_cases I:JG [P,U]=0
  ·exact Y9 (G I)
  exact⟨Yt,ha I,O,YR⟩
 subst hv;exact⟨hs,vs,O,hc,hvo,G⟩
theorem qc {l:PwV}{hb:Nat}(hl:PwA w l)(mh:hb<256)(hM:Kb w 4096):
  QR sV 9 [.agg (Z5 l++[Value.int .u8 (hb:Int)]).toArray] w λr w'=>r=.bool true/\sW w w':=by
 refine Zm func9 ?_;refine Qc<|Za (Z5 l++[Value.int .u8 (hb:Int)]) λb1 w1 hN hb1 go=>Qb<|Qd<|QX (α:=Bool) [(23,30)] (λz=>[(30,.bool z)]) (λz w'=>sW w1 w'/\(z=false->l.n<=4)) oh ?_ ?_
 ·refine Qs<|Qv<|(yR (hM.I hN)).S ?_;rintro r2 w2 ⟨rfl,ha⟩;refine x (Zl O)<|Qa<|Zc O<|x (ZR (us:=Z5 l) (go.I ha) O (QaE (l:=l.pl []) hl.n) (QlM hl.n))<|Qv<|(QkK (l:=l) ((hl.I hN).I ha)).S ?_;rintro r3 w3 ⟨rfl,hj⟩;refine x (Zl O)<|QB O<|xe ?_;exact⟨!decide (l.n<=4),La,ha.D hj,λe=>ou e⟩
 rintro z g w2 ⟨ha,hz⟩;have h3:=hN.D ha;refine Q6 rfl (λgq=>?_) (λgq=>?_)
 ·refine Qc<|Qv<|(yR (hM.I h3)).S ?_;rintro r3 w3 ⟨rfl,hj⟩;refine Qb<|Qh ⟨[.bool true],La,O,h3.D hj⟩
 refine Qf<|Exists.elim (hl.pl h3 (hz gq)) λrs mj=>?_;refine Qc<|QV (go.I ha) O (Qoo hl.n)<|Qv<|(QgC mj.1 mh).S ?_;rintro _ w3 ⟨hj,c,vh,hi,rfl,mo,mq,hC⟩;have gr:=mo [] od;have ms:Qu [] ↑w3 vh hi:=Qi.ints mq (oo hC.hl) od;obtain⟨hQ,hR,hev5⟩:=CL.co3 hC;refine Qa<|QJ O O<|QJ O O<|QN X3 λb3 w4 mt mu mv=>Q2 c.cells mv gr.ones λw5 mw gs =>
  Qb ?_
 have hW:sW w3 w5:=mt.Q mw mu;have hY:=(h3.D hj).D hW;have gt:=gr.I hW;have my:=ms.I hW;refine Qd<|Qc<|QV gs O O<|Qv<|(QkV gt hQ hR).S ?_;rintro _ w6 ⟨rfl,he⟩;refine x (Zl O)<|xe<|Q6 rfl (λgu=>?_) (λgu=>?_)
 ·refine Qc<|Qb<|Qh ⟨[.bool true],La,O,hY.D he⟩
 have h9:V8 c.C.co<=9:=by simpa using gu
 have hO:hck c.C hi=0->HOk c.C hi:=λ_=>hC.hok h9;have mz:=hC.hck;have hgE:=hC.hgE;have hsE:=hC.hsE;have hZ:=hC.suX h9;have hX:=hC.htX h9;have h4:=hC.pl9 h9;have gv:=hC.top h9;have m0:0<c.co.length:=by have h0:=hC.d.c0;rw[show c.C.co.length=c.co.length from Ll ..]at h0;omega
 have hf:KQ (ZW c.C hi)=0->JG [Xs c.C,Ks (ZW c.C hi)]=yg c.C hi:=λe=>by unfold yg;rw[OT (not_not_intro e)]
 have hk:jc c.C hi=JZ [Xs c.C,Ks (ZW c.C hi)]:=rfl;have h5:KQ (ZW c.C hi)=0->Q0 (Ks (ZW c.C hi)):=KW;have h6:VK c.C (ZY (Xs c.C) hi)=ZW c.C hi:=rfl;have cA:=λ{w:O1} (a:ZP [] ↑w c) (b:Qu [] ↑w vh hi) (k:Kb w 4096)=>QmD a b k hO;have cC:=λ{w:O1} (a:ZP [] ↑w c) (b:Qu [] ↑w vh hi) (k:Kb w 4096)=>QjA a b k hO;have cS:=λ{w:O1} (a:ZP [] ↑w c) (b:Qu [] ↑w vh hi) (k:Kb w 4096)=>QmB a b k hO;have cT:=λ{w:O1} (a:ZP [] ↑w c) (b:Qu [] ↑w vh hi) (k:Kb w 4096)=>QmA a b k hO;have cP:=λ{w:O1} {pa pm pe:O2} (a:Zp [] ↑w pa pm pe (Xs c.C)) (b:Qu [] ↑w vh hi)=>KE a b h4.ok (λv hv=>oo (hC.b v hv)) hC.i h4.s9 h4.e;have cO:=λ{w:O1} {pa pm pe:O2} (a:ZP [] ↑w c) (b:Zp [] ↑w pa pm pe (ZY (Xs c.C) hi))=>QhK a b m0;have cL:=λ{w:O1} (a:ZP [] ↑w c) (k:Kb w 4096)=>QdG hC a k;have gx:Q0 (Xs c.C):=h4.ok;rw[mz]at cA cC;rw[hsE]at cS;rw[hgE]at cT;refine Zg (ZW c.C hi) λT hT=>?_;rw[hT]at hZ gv hf hk h5 h6 cC cS;refine Zg (ZY (Xs c.C) hi) λA hA=>?_;rw[hA]at h6 cA cP cO;refine Zg (Xs c.C) λP hP=>?_;rw[hP]at hf hk cP cL gx;refine Zg (yg c.C hi) λE hE=>?_;rw[hE]at hX hf cT;refine Zg (jc c.C hi) λTA m1=>?_;rw[m1]at hk cT;have cV:=λ{w:O1} {c':CL} (e:c'.C=VK c.C A) (a:ZP [] ↑w c') (k:Kb w 4096)=>Qlp (e.D h6) a k;refine Zg (KQ T) λF hF=>?_;rw[hF]at hZ hf h5 cS cV;refine Zg (Ks T) λS hS=>?_;rw[hS]at hf hk h5 cS cV;have m2:Q0 (hU F S):=by
  unfold hU;by_cases e:F=0
  ·rw[OU e];exact h5 e
  rw[OT e];exact Qqr
 have Y:=hM.I (hY.D he);have J:=gt.I he;have hm:=my.I he;have U:=gs.I he;refine Qf<|Qc<|QV U O O<|Qv<|(cL J Y).S ?_;rintro _ w7 ⟨m3,pa,pm,pe,vt,rfl,m4,hvt,m5⟩;refine Qa<|QJ O O<|QJ O O<|QJ O O<|QN Yt λb5 w8 m6 m7 m8=>Q2 [pa,sS P.st,pm,pe] m8 m4 λw9 m9 gy =>
  x Qe<|Qb ?_
 have gz:sW w7 w9:=m6.Q m9 m7;have hn:=m3.D gz;have g0:=(m5 [] od).I gz;refine Qc<|QV (U.I hn) O O<|Qa<|Qv<|(cA (J.I hn) (hm.I hn) (Y.I hn)).S ?_;rintro _ pc ⟨pd,ua,rfl,pf,pg,_,g2⟩;refine Qa<|QJ O O<|QJ O O<|QN Yt λb8 w11 ph pj pn=>Qo<|Zj (us:=ua) pn O O pf O pg λpo pp g3 =>
  Qb ?_
 have g4:sW pc po:=ph.Q pp pj;have ho:=pd.D g4;have g5:=hn.D ho;refine Exists.elim (auF (g2 O)) λaa G=>Exists.elim G λam G=>Exists.elim G λae G=>?_;have pt:=(G.2 [] od).I g4;have pu:=G.1;rw[pu]at g3;clear g2 G;have hpP:=cP (g0.I ho) (hm.I g5);refine Qc<|QV (gy.I ho) O O<|Qa<|Qv<|hpP.S ?_;rintro _ pw ⟨pz,vp,vt2,rfl,hvt2,p0⟩;refine Exists.elim p0 λqa G=>Exists.elim G λqm G=>Exists.elim G λqe G=>?_;have h7:=G.2 [] od;have hq:=G.1;refine Qa<|x (Q3 O (OV some hq))<|QJ O O<|QJ O O<|QN Yt λb10 w14 p4 p5 p6=>Q2 [qa,sS A.st,qm,qe] p6 ⟨h7.al.one,O,h7.mr.one,h7.ed.one,Z⟩ λp7 p8 g6 =>
  x Qe<|Qb ?_
 have g7:sW pw p7:=p4.Q p8 p5;have hp:=pz.D g7;have ga:=g5.D hp;have g8:=h7.I g7;have p9:=pt.I hp;have qf:=g3.I hp;refine Qd<|Qc<|QV (U.I ga) O O<|Qa<|Qa<|Qo<|Q9 [[sS 0],[sS 0]] λb62 w16 g9 hb62 qj =>
  Qv<|(UM (es:=[0,0]) ((J.I ga).I g9) (QoE qj) hQ hR).S ?_
 rintro _ ql ⟨rfl,q0⟩;have hg:=g9.D q0;have q4:=ga.D hg;refine xe<|Q6 rfl (λq5=>OW q5 (by rw[OZ (by decide:¬(3:Int)∈[(0:Int),0])];exact MI)) (λ_=>?_);refine Qf ?_;have eQ:=Vl (p9.I hg) (g8.I hg);rw[qi]at eQ;refine Qd<|QX (α:=Bool) [(64,79)] (λz=>[(79,.bool z)]) (λz w'=>sW ql w'/\z=false) oh ?_ ?_
 ·refine Qs<|Qa<|xb (JN O O) (λj1=>OW O j1) (λ_=>?_);refine Qa<|Qa<|xb (JN O O) (λj2=>OW O j2) (λ_=>?_);refine QB O<|Qa<|Qa<|xb (JN O O) (λj3=>OW O j3) (λ_=>?_);refine QB O<|Qa<|QV (qf.I hg) O O<|QV (g6.I hg) O O<|Qv<|eQ.S ?_;rintro _ j4 ⟨rfl,h8⟩;refine x (Zl O)<|QB O<|xe ?_;exact⟨false,La,h8,O⟩
 rintro z g j4 ⟨h8,za⟩;refine Q6 rfl (λz0=>OW (za.symm.D z0) og) (λ_=>?_);refine Qf ?_;have hr:=q4.D h8;have hB:=hg.D h8;have z2:=g0.I (ho.D (hp.D hB));refine Qc<|QV (U.I hr) O O<|Qa<|Qv<|(cC (J.I hr) (hm.I hr) (Y.I hr)).S ?_;rintro _ z3 ⟨z4,uc,rfl,z5,huco,_,ka⟩;refine Qa<|QJ O O<|QJ O O<|QN X3 λb13 w20 hs20 hb13 hB13=>Qo<|Zj (us:=uc) hB13 O O z5 O huco λw21 hs21 kb =>
  Qb ?_
 have kc:sW z3 w21:=hs20.Q hs21 hb13;have ke:=z4.D kc;have hs:=hr.D ke;refine Exists.elim (ceF (ka O)) λcb G=>?_;have kf:=G.2.1;have hCb21:=(G.2.2 [] od).I kc;have hucE:=G.1;rw[hucE]at kb;clear ka G;refine Qc<|QV (U.I hs) O O<|Qa<|Qv<|(cS (J.I hs) (hm.I hs) (Y.I hs)).S ?_;rintro _ w22 ⟨hs22,us,rfl,husl,huso,_,kg⟩;refine Qa<|QJ O O<|QJ O O<|QN Yt λb15 w23 hs23 hb15 hB15=>Qo<|Zj (us:=us) hB15 O O husl O huso λw24 hs24 kh =>
  Qb ?_
 have ki:sW w22 w24:=hs23.Q hs24 hb15;have gb:=hs22.D ki;have ht:=hs.D gb;refine Qc<|QV (U.I ht) O O<|Qa<|Qv<|(cT (J.I ht) (hm.I ht) (Y.I ht)).S ?_;rintro _ w25 ⟨hs25,ut,rfl,hutl,huto,_,kj⟩;refine Qa<|QJ O O<|QJ O O<|QN Yt λb17 w26 hs26 hb17 hB17=>Qo<|Zj (us:=ut) hB17 O O hutl O huto λw27 hs27 kk =>
  Qb ?_
 have kn:sW w25 w27:=hs26.Q hs27 hb17;have hD:=hs25.D kn;have hG:=ht.D hD;have gc:=(ke.D gb).D hD;have ko:=g8.I (hB.D gc);have kq:=g6.I (hB.D gc);refine Qc<|QV (U.I hG) O O<|QV kq O O<|Qv<|(cO (J.I hG) ko).S ?_;rintro _ w28 ⟨kr,ct,rfl,hct,hCt⟩;have hs628:=hG.D kr;refine Qv<|(cV hct hCt (Y.I hs628)).S ?_;rintro _ w29 ⟨hs29,sa,sm,se,rfl,hsO,hsA⟩;refine Qa<|QJ O O<|QJ O O<|QN Yt λb19 w30 hs30 hb19 hB19=>Q2 [sa,sS (hU F S).st,sm,se] hB19 hsO λw31 hs31 ge =>
  Qb ?_
 have kt:sW w29 w31:=hs30.Q hs31 hb19;have hu:=(kr.D hs29).D kt;have ku:=hG.D hu;have kv:=gc.D hu;have hB531:=(gy.I ho).I ((hp.D hB).D kv);have hP31:=z2.I kv;have gg:=hsA.I kt;refine Qc<|QV hB531 O O<|QV ge O O<|Qo<|Q9 [ZB ⟨pa,pm,pe,P⟩,ZB ⟨sa,sm,se,hU F S⟩] λb108 w32 hH hb108 hB108 =>
  Qv<|(Qke hB108 (hP31.I hH) (gg.I hH) gx m2 ((Y.I ku).I hH)).S ?_
 rintro _ w33 ⟨hs33,uv,rfl,huvl,huvo,hI⟩;refine Zg (JG [P,hU F S]) λV hV=>?_;rw[hV]at hI;refine Qa<|QJ O O<|x (Q3 O (OV (λi=>some (sS i)) hV))<|QN Yt λb21 w34 hs34 hb21 hB21=>Qo<|Zj (us:=uv) hB21 O O huvl O huvo λw35 hs35b gh =>
  Qb ?_
 have kw:sW w33 w35:=hs34.Q hs35b hb21;have kx:=(hH.D hs33).D kw;have gi:=ku.D kx;refine Qd<|Qc<|QV (U.I gi) O O<|Qa<|Qa<|Qa<|Qa<|Qa<|Qo<|Yi (us:=[[sS 0],[sS F],[sS E],[sS F],[sS V]]) O O og od ⟨rfl,rfl,rfl,rfl,rfl,rfl,rfl,rfl,rfl,rfl,Z⟩ λb118 w36 kz hb118 hB118 =>
  Qv<|(UM (es:=[0,F,E,F,V]) ((J.I gi).I kz) (Qr0 hB118) hQ hR).S ?_
 rintro _ hh ⟨rfl,hs37⟩;have hJ:=kz.D hs37;have gj:=gi.D hJ;have k0:=(hY.D he).D gj;refine xe<|Q6 rfl (λgk=>?_) (λgk=>?_)
 ·refine Qc<|Qb<|Qh ⟨[.bool true],La,O,k0⟩
 have hw:F=0:=Qqc hZ od gk;have gl:E=0:=Qqc hX od gk;have k4:hU F S=S:=OU hw;have k5:V=0:=by rw[<-hV,k4,hf hw];exact gl
 rw[k4]at ge gg hI;have hy:=kx.D hJ;refine Qf<|Exists.elim (auF (kg hw)) λxa G=>Exists.elim G λxm G=>Exists.elim G λxe' G=>?_;have hX24:=(G.2 [] od).I ki;have husE:=G.1;rw[husE]at kh;clear kg G;refine Exists.elim (auF (kj gl)) λta G=>Exists.elim G λtm G=>Exists.elim G λte G=>?_;have hT27:=(G.2 [] od).I kn;have hutE:=G.1;rw[hutE]at kk;clear kj G;refine Exists.elim (auF (hI k5)) λva G=>Exists.elim G λvm G=>Exists.elim G λve G=>?_;have k6:=(G.2 [] od).I kw;have huvE:=G.1;rw[huvE]at gh;rw[<-hk]at k6 gh;clear hI G;have k9:=(gb.D hD).D (hu.D hy);have ma:=hD.D (hu.D hy);have hK:=hu.D hy;have mc:=kb.I k9;have mf:=hCb21.I k9;have hC37:=J.I gj;have hB337:=U.I gj;have hQ37:=ko.I hK;have hB1037:=kq.I hK;have hX37:=hX24.I ma;have hB1537:=kh.I ma;have hU37:=gg.I hy;have hB1937:=ge.I hy;have hT37:=hT27.I hK;have hB1737:=kk.I hK;have hV37:=k6.I hJ;have hB2137:=gh.I hJ;have hd:sW hh { hh with drawn:=hh.drawn+1 }:=O5.X _ _
 have hckb:Z0 cb.C=0:=by rw[kf];exact gv
 refine QX (α:=Bool) [(2,2),(120,159)] (λz=>[(2,.bool z)]) (λz w'=>sW hh w'/\z=true) oh ?_ ?_
 ·refine ZL [] (Xg 0 41 [6,7,11,25,38])<|p Qx<|pb (λ_=>Zd O O) (λ_=>?_) (λh121=>OW O h121);refine p Qx<|pq (λ_ I=>Q7 (mc.I I) O O)<|pq (λ_ I=>Q7 (hB337.I I) O O)<|pq (λ_ I=>Q7 (hB1037.I I) O O) <|
   pk<|xg<|(cO (w:={ hh with drawn:=hh.drawn+1 }) (hC37.I hd) (hQ37.I hd)).S ?_
  rintro _ w38 ⟨hs38,ct2,rfl,hct2,hCt2⟩;have gm:=hd.D hs38;have eC:=Qem (mf.I gm) hCt2;rw[OX (kf.D (hct2.D h6).symm)]at eC;refine⟨gm,?_⟩;refine pk<|xg<|eC.S ?_;rintro _ w39 ⟨rfl,hs39⟩;have gn:=gm.D hs39;have eK:=qt (mf.I gn);rw[hckb]at eK;refine⟨gn,?_⟩;refine p (Ys O)<|p Qx<|pq (λ_ I=>Q7 (mc.I I) O O)<|pk<|xg<|eK.S ?_;rintro _ w40 ⟨rfl,hs40⟩;have hL:=gn.D hs40;have eS:=Vl (hX37.I hL) (hU37.I hL);rw[qi]at eS;refine⟨hL,?_⟩;refine pb (λ_=>Zd O O) (λ_=>?_) (λh132=>OW O h132);refine p (Ys O)<|p Qx<|p Qx<|pb (λ_=>Zd O O) (λ_=>?_) (λh136=>OW hw h136);refine p (Ys O)<|p Qx<|p Qx<|pb (λ_=>Zd O O) (λ_=>?_) (λh140=>OW hw h140);refine p (Ys O)<|p Qx<|pq (λ_ I=>Q7 (hB1537.I I) O O)<|pq (λ_ I=>Q7 (hB1937.I I) O O)<|pk<|xg<|eS.S ?_;rintro _ w41 ⟨rfl,hs41⟩;have h2:=hL.D hs41;have eT:=Vl (hT37.I h2) (hV37.I h2);rw[qi]at eT;refine⟨h2,?_⟩;refine p (Ys O)<|p Qx<|p Qx<|pb (λ_=>Zd O O) (λ_=>?_) (λh149=>OW gl h149);refine p (Ys O)<|p Qx<|p Qx<|pb (λ_=>Zd O O) (λ_=>?_) (λh153=>OW k5 h153);refine p (Ys O)<|p Qx<|pq (λ_ I=>Q7 (hB1737.I I) O O)<|pq (λ_ I=>Q7 (hB2137.I I) O O)<|pk<|xg<|eT.S ?_;rintro _ w42 ⟨rfl,mg⟩;refine⟨h2.D mg,?_⟩;refine p (Ys O)<|p ZN<|Lg.pe ?_;exact⟨true,La,h2.D mg,O⟩
 rintro z g w43 ⟨hs43,hz43⟩;exact Qh ⟨[.bool z],La,by rw[hz43];rfl,k0.D hs43⟩
end Go.Lg
