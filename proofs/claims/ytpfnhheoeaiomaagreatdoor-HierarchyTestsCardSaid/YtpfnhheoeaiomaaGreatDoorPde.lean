/- Merged out of 75 texts. -/
import Derived.Test.YtpfnhheoeaiomaaGreatDoorPdd
import Derived.ChangeSame
import Derived.Carry
import Derived.OpenShut
import Derived.RowKit
import Derived.ChangeSlices
import Derived.WideShapes
import Derived.ProofKit
import Derived.ChangeArms
import Derived.Lib.LaidTab
import Derived.Stop.LaidErr
import Derived.MakeChecks
import Derived.Test.YtpfnhheoeaiomaaGreatDoorRows
import Derived.JoinedOf
import Derived.Test.YtpfnhheoeaiomaaGreatDoorCards
import Derived.SevenTiedAt
set_option maxHeartbeats 40000000
set_option maxRecDepth 100000
set_option linter.all false
open Go Go.Lg
open Go.Value renaming int->oB
open Go.IntKind renaming i64->oC
open _root_.List renaming mem_singleton->oF,not_mem_nil->oH,range->oJ,mem_cons->oK,length_singleton->oL,length_append->oM,getD->oO,length_cons->oQ,map_cons->oS,getElem?_eq_getElem->oU,length->oW,getElem?_append_left->Oa,all_cons->Ob,size_toArray->Od,append_assoc->Of,nil_append->Ok,getElem_cons_zero->Om,length_map->Oq,map_nil->OG,take_length->OH
open _root_.Bool renaming and_eq_true->oI
open _root_.Nat renaming zero_add->oX,add_mul->On,add_zero->Ou,le_refl->Oz,lt_or_ge->OK,succ_mul->ON
open _root_.Int renaming toNat_natCast->Ov
open Go renaming World->OZ,Value->O0,Operand->O1,Program->O2
open Go.Proofs Go.Proofs.Tryz
open Go.Proofs.Tryz renaming prog->sV
open Go.Proofs.YtpfnhheoeaiomaaGreatDoor
variable {w w' W':OZ}{L L' ds ns:LN}{n t i sz base T N j E m g id B kt ty G lo hi et off:Nat}{a:QD}{l o u un al rs:LI}{cs us cap capt:LV}{α β:Type}{y:O1}{va ve vm z vt vl vs vk v' vx vb vr vo vu vz vh:O0}{f:Fr}{P:O2}{aa:List QD}{c:CL}{fn:Func}{s:Int}{es ed:List Ed}{K:xw}{d:xD}{pS:String}{af:xA}{gd:xp}{k':IntKind}{at_:Array Nat}{ops:xC}{q:Prop}{qx:List XV}{ks:List KV}
namespace Go.Lg
theorem QfB {e bys:Nat}[h:Sl P t e sz bys z]{x E:O1}{b cap:Nat}{k:IntKind}(hx:ev f x=sL b n cap)(hl:ev f E=.int k lo)(J:lo<=n):
  (execOp (ev f) ⟨d,.slice t x (some E) none none,ty,pS,af,gd⟩).run P w=.ok (.value (.slice (some ⟨b,if cap=lo then 0 else lo*sz,none⟩) (n - lo) (cap - lo))) w:=by
 obtain⟨i,hi',_,G,_⟩:=Sl.info h;have e2:(Instr.sliceBound (.int k lo) n .sliceB).run P w=.ok lo w:=Yr J;by_cases I:cap=lo
 ·simp[execOp,hx,hl,Instr.sliceAt,Instr.slice,run_underlying h.u,Instr.sliceBounds,e2,sizeOf,typeInfo,hi',G,I]
 simp[execOp,hx,hl,Instr.sliceAt,Instr.slice,run_underlying h.u,Instr.sliceBounds,e2,sizeOf,typeInfo,hi',G,I,Addr.add];exact λe=>e.symm
theorem QfC {e bys:Nat}[h:Sl P t e sz bys z]{x E:O1}{b cap:Nat}{k:IntKind}(hx:ev f x=sL b n cap)(G:ev f E=.int k hi)(I:hi<=cap):
  (execOp (ev f) ⟨d,.slice t x none (some E) none,ty,pS,af,gd⟩).run P w=.ok (.value (sL b hi cap)) w:=by
 obtain⟨i,hi',_,J,_⟩:=Sl.info h;have e2:(Instr.sliceBound (.int k hi) cap .sliceAcap).run P w=.ok hi w:=Yr I;simp[execOp,hx,G,Instr.sliceAt,Instr.slice,run_underlying h.u,Instr.sliceBounds,e2,sizeOf,typeInfo,hi',Addr.add]
theorem jq {α:Type}(q:α->Bool):∀(l:List α) (i:Nat),(fix q i l=-1/\∀x∈l,q x=false)\/∃k,k<l.length/\fix q i l=((i+k:Nat):Int)/\l.take k=(l.take (k+1)).filter λx=>!q x
 | [],i=>.inl ⟨O,λx h=>by cases h⟩
 | a::l,i=>by
  rw[Yt];by_cases h:q a=true
  ·rw[OS h];exact .inr ⟨0,od,od,by simp[h]⟩
  rw[OR h];have I:q a=false:=by simpa using h
  rcases jq q l (i+1) with⟨E,G⟩|⟨k,E,G,J⟩
  ·exact .inl ⟨E,λx hx=>by rcases Ln.1 hx with rfl|hx;exact I;exact G x hx⟩
  exact .inr ⟨k+1,ou E,by rw[G];congr 1;omega,by rw[MC,MC,L7,OS (by simp[I]),<-J]⟩
theorem Qev {e b cap:Nat}(h:w.ownsRow base e sz (sL b n cap) n cs):n<=cap/\∃cur:LV,QK ↑w b e cur/\cur.length=cap*sz/\cur.take (n*sz)=cs:=by
 rcases h.2 with⟨e1,_⟩|⟨g',cap',cur,e1,S,E,G,T,I,J⟩
 ·cases e1
 cases e1
 exact⟨G,cur.toList,E,by rw[Array.length_toList];exact I,J⟩
theorem QkZ {e b cap k:Nat}{E cur:LV}(h:w.ownsRow base e sz (sL b n cap) n cs)(U:k<=n)(G:QK ↑w' b e cur)(hl:cur.length=cap*sz)(I:cur.take (k*sz)=E)(J:E.length=k*sz):
  w'.ownsRow base e sz (sL b k cap) k E:=by
 rcases h.2 with⟨e1,_⟩|⟨g',cap',cur',e1,S,V,Y,T,ha,he⟩
 ·cases e1
 cases e1
 exact⟨J,.inr ⟨b,cap,cur.toArray,O,S,G,oa,T,by rw[LT];exact hl,I⟩⟩
theorem xF {α:Type}{sz:Nat}{g:α->LV}(E:∀x,(g x).length=sz):∀l:List α,(l.flatMap g).length=l.length*sz
 | []=>od
 | a::l=>by rw[LK,Lc,xF E l,E a,LL,ON];omega
theorem Qet:∀(l:xu) (k:Nat),(l.flatMap Zf).take (k*2)=(l.take k).flatMap Zf
 | [],k=>od
 | a::l,0=>od
 | a::l,k+1=>by
  rw[show(k+1)*2=k*2+2 by omega,LK,MC,LK,<-Qet l k];rfl
abbrev nzT (l:xu):xu:=l.filter λp=>!decide (p.2=0)
theorem Ql0 {v:O0}{l:xu}(h:w.ownsRow base 193 2 v l.length (l.flatMap Zf))(hl:l.length<=1000):
  QS sV 87 [v,.func (.func 88) #[] #[]] w λr w'=>O3 (ob v) w w'/\w'.ownsRow base 193 2 r (nzT l).length ((nzT l).flatMap Zf):=by
 have hix:=QlD (cap:=[]) (q:=λp=>decide (p.2=0)) (QM (L:=[]) h oa od) (λe _ V _=>Qh8 e V);have hr:=jq (λp:Int×Int=>decide (p.2=0)) l 0;rcases h.2 with⟨rfl,Y⟩|⟨g,cap,cur,rfl,hR,_⟩
 ·have h7:l=[]:=Ls Y;subst h7;refine Zl func87 ?_;refine Qc<|Qb<|Ql<|Qa<|Qw<|hix.S ?_;rintro r1 V ⟨rfl,G⟩;refine Qb<|Qe<|Ql<|x (Zd O O)<|xe<|Zh O (λ_=>?_) (λh8=>OU O h8);refine Ql<|Qb<|Qk ⟨[nS],La,G,Qm h G⟩
 obtain⟨hS,_⟩:=Qev h;refine Zl func87 ?_;refine Qc<|Qb<|Ql<|Qa<|Qw<|hix.S ?_;rintro r1 V ⟨rfl,G⟩;refine Qb<|Qe<|Ql<|x (Zd O O)<|xe<|Zh rfl (λha=>?_) (λha=>?_)
 ·have h9:nzT l=l:=Nz.2 λp hp=>by
   rcases hr with⟨_,h2⟩|⟨k,_,h2,_⟩
   ·have:=h2 p hp;simpa using this
   have hT:fix (λp:Int×Int=>decide (p.2=0)) 0 l=-1:=ha;omega
  refine Ql<|Qb<|Qk ⟨[sL g l.length cap],La,G.any,?_⟩;rw[h9];exact Qm h G
 refine Exists.elim (hr.resolve_left λa=>ha a.1) λT hc=>?_;have hs:fix (λp:Int×Int=>decide (p.2=0)) 0 l=(T:Int):=by have:=hc.2.1;omega
 refine Qf<|Qe<|Ql<|x (Xd (a:=(T:Int)) (b:=1) (OT sS hs) O ⟨oa,oa⟩)<|Qb<|QX (α:=Nat×Nat×xu) [(5,7),(16,35)] (λz=>[(5,sS z.1),(6,sS z.2.1)])
  (λz w'=>z.1<z.2.1/\z.2.1<=l.length/\z.2.2.length=l.length/\z.2.2.take z.1=nzT (l.take z.2.1)/\z.2.2.drop z.2.1=l.drop z.2.1/\O3 [g] w w'/\w'.ownsRow base 193 2 (sL g z.2.2.length cap) z.2.2.length (z.2.2.flatMap Zf))
  (λz=>l.length - z.2.1) (T,T+1,l) ⟨OT sS hs,O,Z⟩
  ⟨Nat.lt_succ_self _,hc.1,O,hc.2.2,O,G.any,Qm h G⟩ ?_
 rintro⟨i,j,ts⟩ g2 w2 ⟨hB,hj,hf,I,hg,ht,J⟩;simp only[]at hB hj hf I hg J;refine Qe<|Ql<|Qa<|x (yX O)<|ZP O O<|xe<|Zn rfl (λhh=>?_) (λhh=>?_)
 ·refine Qt ?_;have hC:j=l.length:=by have hD:¬(j:Int)<(l.length:Int):=hh;omega
  rw[hC,OH]at I;have hv:(nzT l).length=i:=by rw[<-I,LA];omega
  refine Exists.elim (Qev J).2 λhU hw=>?_;have hE:=hw.1;have hF:=hw.2.2;refine Ql<|Qa<|x (QfB (lo:=i) O O oa)<|Qo<|Qk9 (m:=l.length - i) (o:=i*2) (λu hu=>by simp[Value.cells]at hu;rw[hu];rfl) hE ⟨_,O,λh=>⟨by rw[OR oa],oa⟩⟩ λw3 hV hk hG hW hH=>xe ?_;refine Ql<|Qa<|x (QfC (hi:=i) O O oa)<|Qb<|Qk ⟨[sL g i cap],La,ht.V hk,?_⟩;rw[hv];refine QkZ J oa hG oa ?_ ?_
  ·rw[hH,<-I,<-Qet,<-hF,List.take_take,MX oa]
  rw[xF XR,hv]
 have E:j<l.length:=by have hD:(j:Int)<(l.length:Int):=hh;omega
 have hm:j<ts.length:=oa
 have hI:ts[j]'hm=l[j]'E:=by
  have U:=OT (λz=>z[0]?) hg;simp only[List.getElem?_drop,Ou,oU hm,oU E]at U;exact Option.some.inj U
 have hy:ts.drop (j+1)=l.drop (j+1):=by
  have U:=OT (List.drop 1) hg
  rwa [List.drop_drop,List.drop_drop]at U
 have S:nzT (l.take (j+1))=nzT (l.take j)++(if(l[j]'E).2=0 then[]else[l[j]'E]):=by
  unfold nzT;rw[Lh E,LR];by_cases Y:(l[j]'E).2=0 <;> simp[Y]
 have hA:=QM (L:=[]) J oa od;rw[show sL g ts.length cap=sL g l.length cap from by rw[hf]]at hA;refine Qf<|Qe<|Qn<|Ql<|Qa<|O6 XR hA O O hm λhX hn=>?_;rw[hI]at hn;refine Zg (l[j]'E) λe he=>?_;rw[he]at hn S;refine x (QF hn O O)<|QT [sS 0,sS 0] λb7 w3 hk hJ hK=>Q5 (Zf e) hK ov λw4 hL hz=>xe ?_;have hM:sW w2 w4:=hk.Q hL hJ;refine Ql<|Q3 hz O O<|Qo<|xc (first:=[]) (capt:=[]) O<|(Qh8 e w4).S ?_;rintro r5 w5 ⟨rfl,h3⟩;refine x (Zj O)<|xe ?_;have h4:=hM.D h3;have h5:=Qm J h4;have h6:O3 [g] w w5:=ht.D h4.any;refine Q0 rfl (λho=>?_) (λho=>?_)
 ·have hq:¬e.2=0:=by simpa using ho
  rw[OR hq]at S;have hN:w5.ownsRow base 193 2 (sL g ts.length cap) ts.length (ts.flatMap Zf):=h5;refine Ql<|Qa<|Q3 (hz.I h3) O O<|x (QE (i:=i) O O oa)<|Qo<|QfK (u:=e) XR hN (OT (λn=>Value.pointer (some ⟨g,n,none⟩)) (LS (i*2))) O oa ov λw6 hO hP =>
   xe ?_
  refine Qr<|Qa<|QB O O<|Qb<|Qr<|Qa<|QB O O<|Qb ?_;have hQ:(ts.set i e).length=ts.length:=MV;refine⟨(i+1,j+1,ts.set i e),oe,ov,oe,E,oe,?_,?_,h6.V hO,?_⟩
  ·simp only[];rw[S,<-I,List.set_eq_take_append_cons_drop,OS oa,NA,Lq (by rw[LA];omega),LA,MX oa,M0,MC,Ng]
  ·simp only[];rw[List.drop_set_of_lt oa,hy]
  simp only[];rw[hQ];exact hP
 have hq:e.2=0:=by simpa using ho
 rw[OS hq,LF]at S;refine Qf<|Qr<|Qa<|QB O O<|Qb<|⟨(i,j+1,ts),oe,ov,oe,E,hf,by rw[S];exact I,hy,h6,h5⟩
instance ayAz1:Ay sV 25 3 24 1:=⟨oc,oc⟩
instance ayAz2:Ay sV 30 2 24 1:=⟨oc,oc⟩
instance ayAz3:Ay sV 31 2 28 27:=⟨oc,oc⟩
instance ayAz4:Ay sV 34 3 33 1:=⟨oc,oc⟩
abbrev X4V:={r:LN // r.length=4/\∀n∈r,n<256}
abbrev Y6 (r:X4V):LV:=bys r.1
theorem qS (r:X4V):(Y6 r).length=4:=by show(bys r.1).length=4;unfold bys;rw[Lm,r.2.1]
structure PlV where
 ns:LN
 vx:O0
 xs:List X4V
 f0:Int
 f1:Int
 f2:Int
 bd:Int
abbrev YY (l:PlV):LV:=bys l.ns++[l.vx,.int .i8 l.f0,.int .i8 l.f1,.int .i8 l.f2,.int .i8 l.bd]
abbrev i8R (n:Int):Prop:=-128<=n/\n<=127
structure PlA (L:LN)(H:xz)(l:PlV):Prop where
 n:l.ns.length=147
 b:∀n∈l.ns,n<256
 x:Zs L H l.vx l.xs.length 4 (l.xs.flatMap Y6)
 f0:i8R l.f0
 f1:i8R l.f1
 f2:i8R l.f2
 bd:i8R l.bd
theorem Qab {l:PlV}(h:l.ns.length=147):(YY l).length=152:=by rw[YY,Lc,Xk,h];rfl
theorem QhA {l:PlV}(h:l.ns.length=147)(j:Nat):(YY l)[147+j]?=([l.vx,.int .i8 l.f0,.int .i8 l.f1,.int .i8 l.f2,.int .i8 l.bd]:LV)[j]?:=by
 rw[YY,Mk (by rw[Xk];omega),Xk,h,M0]
theorem Qep {l:PlV}(h:l.ns.length=147)(E:j<147):(YY l)[j]?=some (.int .u8 ((l.ns.getD j 0:Nat):Int)):=by
 rw[YY,LY (by rw[Xk];omega)];exact UU oa
theorem Qc6 {l:PlV}{o:Nat}(j:Nat)(u:O0)(h:(bys ((l.ns.drop o).take m))[j]?=some u):(YY l)[o+j]?=some u:=by
 have E:=Qmf (ns:=l.ns) (o:=o) (n:=m) j u h;have G:=(Mf.1 E).1;rw[YY,LY G];exact E
theorem Qe6 {sz:LI}:∀(ls:xu) (pr:Option Int),(∀b,pr=some b->∀p∈ls,b<p.1)->ls.Pairwise (λp q=>p.1<q.1)->(∀p∈ls,0<=p.1/\p.1<(sz.length:Int)/\0<=p.2/\p.2<O4 sz p.1.toNat)->Xm sz pr ls=0
 | [],_,_,_,_=>rfl
 | p::ls,pr,G,I,hb=>by
  obtain⟨S,T,U,V⟩:=hb p Ll;obtain⟨k1,k2⟩:=L4.1 I;have hl:zu pr p.1=false:=by
   cases pr with
   | none=>rfl
   | some b=>have:=G b O p Ll;unfold zu;exact OX oa
  rw[Xm,OR oa,OR (by rw[hl];decide),OR oa];exact Qe6 ls (some p.1) (λb J q E=>by cases J;exact k1 q E) k2 (λq E=>hb q (Lj _ E))
theorem Qe4 {sz:LI}:∀(ls:xu) (pr:Option Int),(∀b,pr=some b->∀p∈ls,b<p.1)->ls.Pairwise (λp q=>p.1<q.1)->(∀p∈ls,0<=p.1/\p.1<(sz.length:Int)/\p.2≠0/\-65536<=p.2/\p.2<=65536)->JE sz pr ls=0
 | [],_,_,_,_=>rfl
 | p::ls,pr,G,I,hb=>by
  obtain⟨U,V,J,Y,h5⟩:=hb p Ll;obtain⟨k1,k2⟩:=L4.1 I;have hl:zu pr p.1=false:=by
   cases pr with
   | none=>rfl
   | some b=>have:=G b O p Ll;unfold zu;exact OX oa
  have S:grt p.2=false:=by unfold grt;rw[OX oa,OX oa];rfl
  rw[JE,OR oa,OR (by rw[hl];decide),OR (by rw[S];simpa using J)];exact Qe4 ls (some p.1) (λb T q E=>by cases T;exact k1 q E) k2 (λq E=>hb q (Lj _ E))
theorem Qea (a:Int){b:Int}(h:0<b):-b<a.tmod b/\a.tmod b<b:=⟨Int.lt_tmod_of_pos a h,Int.tmod_lt_of_pos a h⟩
structure ItG (c:Nat)(k:Nat)(q:IV):Prop where
 nm:q.nm=⟨#[UInt8.ofNat c]⟩++⟨#[UInt8.ofNat (48+k)]⟩
 g:GdA q.p.a
 e:∀e∈q.p.a.al,e<5
theorem Qh2 (k:Nat)(h:k<3):Y9 (nmI 99 k)=true/\Y9 (nmI 114 k)=true/\Y9 (nmI 101 k)=true:=by
 match k,h with
 | 0,_=>decide
 | 1,_=>decide
 | 2,_=>decide
theorem QfM:∀n,n<4->∀m,m<3->((oJ n).map (nmI 99)++(oJ m).map (nmI 114)).Nodup:=og
theorem ji {c:Nat}{co:List IV}(h:∀k (E:k<co.length),ItG c k (co[k]'E)):(co.map IV.it).map (·.nm)=(oJ co.length).map (nmI c):=by
 apply LX
 ·simp
 intro i G I;simp only[List.getElem_map,List.getElem_range];exact(h i (ou G)).nm
theorem Qoo {co rq:List IV}(h1:1<=co.length)(h3:co.length<=3)(J:∀k (E:k<co.length),ItG 99 k (co[k]'E))(U:∀e,e∈al↔∃q∈co,e∈q.p.a.al)(hf:rq.length<=2)
  (S:∀k (E:k<rq.length),ItG 114 k (rq[k]'E)/\∀e∈(rq[k]'E).p.a.al,e∈al) (hg:qx.length<=2) (V:(qx.map (·.nm)).Nodup) (Y:∀q∈qx,(∃k,k<2/\q.nm=⟨#[101]⟩++⟨#[UInt8.ofNat (48+k)]⟩)/\q.ls≠[]/\q.ls.length<=3/\Xm (co.map (·.p.a.st)) none q.ls=0)
  (hh:ks.length<=1) (ha:∀q∈ks,q.nm=⟨#[107]⟩/\Xn (co.map (·.p.a.st)) q.k=0):D25 ⟨Jl ns 5,co.map IV.it,rq.map IV.it,qx.map XV.x,ks.map KV.k⟩:=by
 have T:szs (co.map IV.it)=co.map (·.p.a.st):=by unfold szs;rw[Mu];rfl
 refine⟨⟨Va ns 5,Qi8 ns⟩,by simp only[Oq];omega,by simp only[Oq];omega,by simp only[Oq];omega,λx hx=>?_,λx hx=>?_,?_,by simp only[Oq];omega,λx hx=>?_,?_,by simp only[Oq];omega,λx hx=>?_⟩
 ·obtain⟨q,G,rfl⟩:=Ly.1 hx;obtain⟨k,E,rfl⟩:=LP G;have g:=J k E;exact⟨by show Y9 (co[k]'E).nm=true;rw[g.nm];exact(Qh2 k oa).1,g.g,g.e⟩
 ·obtain⟨q,G,rfl⟩:=Ly.1 hx;obtain⟨k,E,rfl⟩:=LP G;have g:=S k E;refine⟨by show Y9 (rq[k]'E).nm=true;rw[g.1.nm];exact(Qh2 k oa).2.1,g.1.g,λe he=>?_⟩;obtain⟨y,hy,hc⟩:=(U e).1 (g.2 e he);exact⟨y.it,LG hy,hc⟩
 ·show((co.map IV.it).map (·.nm)++(rq.map IV.it).map (·.nm)).Nodup;rw[ji J,ji (λk E=>(S k E).1)];exact QfM _ oa _ oa
 ·obtain⟨q,G,rfl⟩:=Ly.1 hx;obtain⟨⟨k,k1,k2⟩,I,_,g4⟩:=Y q G;refine⟨by show Y9 q.nm=true;rw[k2];exact(Qh2 k oa).2.2,I,?_⟩;show Xm (szs (co.map IV.it)) none q.ls=0;rw[T];exact g4
 ·show((qx.map XV.x).map (·.nm)).Nodup;rw[Mu];exact V
 obtain⟨q,G,rfl⟩:=Ly.1 hx;obtain⟨g1,I⟩:=ha q G;refine⟨by show Y9 q.nm=true;rw[g1];decide,?_⟩;show Xn (szs (co.map IV.it)) q.k=0;rw[T];exact I
def flk (l:PlV)(i:Nat):Int:=[l.f0,l.f1,l.f2].getD i 0
theorem Qpp {l:PlV}(h:l.ns.length=147)(hi:i<3):(YY l)[0+148+i*1]?=some (.int .i8 (flk l i)):=by
 rw[show 0+148+i*1=147+(1+i) by omega,QhA h]
 match i,hi with
 | 0,_=>rfl
 | 1,_=>rfl
 | 2,_=>rfl
theorem Qpo {H:xz}{l:PlV}(h:PlA L H l)(i:Nat)(hi:i<3):i8R (flk l i):=by
 match i,hi with
 | 0,_=>exact h.f0
 | 1,_=>exact h.f1
 | 2,_=>exact h.f2
theorem Qi7 (ns:LN):∀e∈Jl ns 5,yr e.nm:=λe E=>by
 unfold Jl at E;obtain⟨k,_,rfl⟩:=Ly.1 E;unfold Ki;split <;> exact X9 od
theorem QfS {l:PlV}(h:PlA [] ↑w l):
  QS sV 34 [sT (YY l)] w λr w'=>sW w w'/\∃k,QmB ↑w ↑w' r k/\D25 k:=by
 refine Zg (1+l.ns.getD 5 0 % 3) λn hn=>?_;have hn3:1<=n/\n<=3:=oa
 refine Zl func34 ?_;refine Qc<|Zc (YY l) λb1 w1 hs1 hb1 pj=>QT KG λb2 w2 k5 hb2 pn=>xe ?_;have po:=hs1.D k5;have hl1:=pj.lt;have hl2:=pn.lt;have gy:=pj.I k5;have pp:((l.ns.drop 0).take 5).length=5:=by rw[LA,Ml,h.n];rfl
 have hflt:∀n∈(l.ns.drop 0).take 5,n<256:=λn hn=>h.b n (MP (L2 hn));refine Qc<|Q7 O<|x (UC (us:=bys ((l.ns.drop 0).take 5)) gy O (by rw[Xk];exact pp) (λj u hu=>Qc6 (l:=l) (o:=0) (m:=5) j u hu))<|Qw<|(QcC (ns:=(l.ns.drop 0).take 5) pp hflt).S ?_;rintro ve w3 ⟨pt,gn⟩;refine Zg (Jl ((l.ns.drop 0).take 5) 5) λev kn=>?_;rw[kn]at gn;refine x (QC ⟨xL gn,Z⟩)<|QT KG λG w4 hs4 hb3 hB3=>Q5 [ve,Zo,Zo,Zo,Zo] hB3 ⟨QA gn,O,O,O,O,Z⟩ λw5 hs5 pu =>
  xe ?_
 have pw:sW w3 w5:=hs4.Q hs5 hb3;refine Qc<|QT [Zo] λb4 w6 pz hb4 p0=>xe ?_;have p4:=pw.D pz;have gz:=pt.D p4;have U:=k5.D gz;have hz3:=pt.size;have hz35:=pw.size;have hl3:=pu.lt;have hl4:=p0.lt;have k6:=gy.I gz;have hB36:=pu.I pz;have q5:=Qep (l:=l) h.n (j:=5) oa;have q5l:=X4 h.b 5;refine Zg (l.ns.getD 5 0) λcn hcn=>?_;rw[hcn]at q5 q5l hn;refine Qc<|Qs O k6 O q5<|x (zd (a:=(cn:Int)) (b:=3) O O oa oa)<|x (Yc (k':=.i64) O ⟨oa,oa⟩)<|QB O O<|Qb<|QW (α:=O0×List IV×O0×LI) [(6,7),(26,55)] (λ_=>[]) (λz w'=>O3 [G,b4] w6 w'/\QK ↑w' G 46 [ve,z.1,Zo,Zo,Zo]/\QK ↑w' b4 47 [z.2.2.1]/\qt ↑w6 w' z.1 z.2.2.1 z.2.1 z.2.2.2/\z.2.1.length=n/\(∀k (S:k<z.2.1.length),ItG 99 k (z.2.1[k]'S))/\z.2.2.2.length<=5*n/\∀e,e∈z.2.2.2↔∃q∈z.2.1,e∈q.p.a.al) oh ?_ ?_
 ·refine Ql<|Qa<|xe<|QX (α:=Nat×O0×List IV×O0×LI) [(6,7),(27,55)] (λz=>[(27,sS z.1)])
   (λz w'=>z.1<=n/\O3 [G,b4] w6 w'/\QK ↑w' G 46 [ve,z.2.1,Zo,Zo,Zo]/\QK ↑w' b4 47 [z.2.2.2.1]/\qt ↑w6 w' z.2.1 z.2.2.2.1 z.2.2.1 z.2.2.2.2/\z.2.2.1.length=z.1/\(∀k (S:k<z.2.2.1.length),ItG 99 k (z.2.2.1[k]'S))/\z.2.2.2.2.length<=5*z.1/\∀e,e∈z.2.2.2.2↔∃q∈z.2.2.1,e∈q.p.a.al)
   (λz=>n - z.1) (0,Zo,[],Zo,[]) La
   ⟨Lo _,O3.Y _ _,hB36,p0,qt.nil,O,λk S=>OU S od,od,od⟩ ?_
  rintro⟨i,vc,co,va,al⟩ g7 w7 ⟨hi,hC,go,gc,hv,g0,hV,k9,gq⟩;simp only[]at hi go gc hv g0 hV k9 gq;refine Zi O O (λma=>?_) (λma=>?_)
  ·refine Qt ?_;have mc:i=n:=by have h29:¬(i:Int)<1+(cn:Int) % 3:=ma;omega
   exact⟨(vc,co,va,al),Z,hC,go,gc,hv,oe,hV,oe,gq⟩
  have h5:i<n:=by have h29:(i:Int)<1+(cn:Int) % 3:=ma;omega
  have mf:b1∉[G,b4]:=by simp only[oK,oH,or_false];omega
  have hW:=k6.J hC mf;have qs:=Qep (l:=l) h.n (j:=0+6+i*1) oa;have qsl:=X4 h.b (0+6+i*1);refine Zg (l.ns.getD (0+6+i*1) 0) λm hm=>?_;rw[hm]at qs qsl;have mg:=VK m 5;have g2:=Qbm m 5;have ge:=Qeh m 5;refine Zg (setK m 5) λsk g3=>?_;rw[g3]at mg g2 ge;refine Qf<|Qe<|Qn<|Ql<|Qb<|Ql<|Q7 O<|x (ZR (i:=i) O O oa)<|ZB hW O qs<|Qw<|(VL m qsl _).S ?_;rintro vs w8 ⟨hg,ko⟩;rw[g3]at ko;refine Qb ?_;have p5:=hg.size;have hE:=hv.I hg;have hI8:=Qh.ints (L:=[]) hE.a oa od;have hJ8:=Qh.ints (L:=[]) ko oa od;refine Qc<|ZB (gc.I hg) O O<|Qa<|Qw<|(QcN hI8 hJ8 oa).S ?_;rintro p6 w9 ⟨V,p7,hal2,p8,gg⟩;have kq:=hg.D V;have mh:=V.size;have hz7:=hC.size;refine Qo<|Qv (gc.I kq) O O od (QA gg) λhh hw hB410=>xe ?_;have hl36:G<w6.heap.size:=oa
  have h7:qt ↑w6 w9 vc p6 co p7:=hE.setA (Q9 gg oa) V.any (λb hb=>.inr (Qi gg b hb).1);have hy:=h7.low hw (λb hb=>by rw[Lb.1 hb];omega);have g4:QK ↑hh G 46 [ve,vc,Zo,Zo,Zo]:=(go.I kq).J hw ol;have mj:=(hW.I kq).J hw ol;have mo:Qu [] ↑hh vs sk:=Qh.ints (L:=[]) (Qg (Qm ko V) hw (λb hb hm=>by have:=(Qi ko b hb).1;rw[Lb.1 hm]at this;omega)) oa od;have hz10:=hw.size;have n3v:G∉ob vc:=QJ hy.c oa;have n1v:b1∉ob vc:=QJ hy.c oa;have gh:=QiJ (ns:=l.ns) (o:=0+9+i*27) (oo h.n);have g5:=QmM (o:=0+9+i*27) h.b;have g6:=λj u=>Qc6 (l:=l) (o:=0+9+i*27) (m:=27) j u;refine Zg (grN l.ns (0+9+i*27)) λgr h8=>?_;have mq:∀j u,(bys gr)[j]?=some u->(YY l)[0+9+i*27+j]?=some u:=by rw[<-h8];exact g6
  rw[h8]at gh g5;have ka:sW hh { hh with drawn:=hh.drawn+1 }:=O3.X _ _
  have kb:(48:Int)+(i:Int)=((48+i:Nat):Int):=oa
  refine Zg (⟨#[99]⟩++⟨#[UInt8.ofNat (48+i)]⟩:ByteArray) λnm hH=>?_;refine ZH (ob vc) (Y0 0 18 [12,14,15,17])<|p (QH O)<|pq (λ_ hc=>Qj (g4.J hc n3v) O O)<|p Qx<|p (λ_=>Xd O O ⟨oa,oa⟩)<|p (λ_=>Yc (k':=.i32) O ⟨oa,oa⟩)<|p (λ_=>Uz (n:=48+i) (OT (Value.int .i32) kb) oa) <|
   p (λ_=>YC (a:=⟨#[99]⟩) (b:=⟨#[UInt8.ofNat (48+i)]⟩) O O (by show 1+1<=1000000000;omega))<|p Qx<|p Qx<|p (QH O)<|p (λ_=>ZR (i:=i) O O oa)<|pq (λ_ hc=>UC (us:=bys gr) (mj.J hc n1v) O (by rw[Xk];exact gh) mq)<|?_
  refine pk<|xg<|(zF (mo.I ka) (λe T=>oo (ge e T)) g2 gh g5).S ?_;rintro r11 ho ⟨gi,a,⟨xa,xm,h6,rfl,hA⟩,hG,gs⟩;have hI:=ka.D gi;have p9:=hI.size;have gj:=hA [] od;refine⟨hI.any,?_⟩;refine p (λ_=>ZC [(0,[.string nm]),(1,[xa,sS a.st,xm,h6])] ⟨OT (λb=>(Value.string b).cells) hH,O,O,O,Z⟩)<|pk<|Q2 [Zm ⟨nm,⟨xa,xm,h6,a⟩⟩] λb14 gk hf hb14 ms=>⟨(hI.D hf).any,?_⟩;have hz:=hI.D hf;have kc:=hy.I hz;refine pk<|QZ (news:=Zm ⟨nm,⟨xa,xm,h6,a⟩⟩) (L:=[]) kc.c O O O (ms.at od) (Qau gj.al.one gj.mr.one gj.ed.one) oa (oo hz.size) λmt hJ ke J mu=>⟨(hz.any (L:=ob vc)).V J,?_⟩;have mv:=kc.setC (zB (q:=⟨nm,⟨xa,xm,h6,a⟩⟩) (N:=↑hh) (λL hL=>(hA L hL).I hf) oa hy.avlt) ke J mu;refine p (QH O)<|pkk<|Qv ((g4.I hz).J J n3v) O O od (QA ke) λhK U hX=>pe ?_;have hge:=Qi hy.c;have n4v:b4∉ob vc:=QJ hy.c oa;have hB416:=((hB410.I hz).J J n4v).J U ol;have hs710:O3 [b4] w7 hh:=kq.any.V hw;have hs615:O3 [G,b4] w6 hJ:=((hC.V (hs710.S od)).D hz.any).O J (λb hb=>.inr (hge b hb).1);refine Qr<|QB O O<|Qa<|xe<|⟨(i+1,mt,co++[⟨nm,⟨xa,xm,h6,a⟩⟩],p6,p7),oe,La,h5,hs615.V (U.S od),hX,hB416,mv.low U (λb hb=>by rw[List.mem_singleton.1 hb];omega),by simp only[oM,oL];omega,λk S=>?_,oe,λe=>?_⟩
  ·simp only[]at S ⊢;by_cases hj:k<co.length
   ·rw[Mq hj];exact hV k hj
   have kf:k=i:=by simp only[oM,oL]at S;omega
   subst kf;rw[Nc oa];simp only[g0,Nat.sub_self,Om];exact⟨hH.symm,hG,λe T=>by rw[gs]at T;exact(ge e T).2⟩
  simp only[]at p8 ⊢;rw[p8,gq];constructor
  ·rintro(⟨q,E,T⟩|T)
   ·exact⟨q,LM _ E,T⟩
   exact⟨_,Nd _ (Lb.2 O),by rw[gs];exact T⟩
  rintro⟨q,E,T⟩;rcases Le.1 E with E|E
  ·exact .inl ⟨q,E,T⟩
  rw[Lb.1 E,gs]at T;exact .inr T
 rintro⟨vc,co,va,al⟩ g7 w7 ⟨hC,go,gc,hv,g0,hV,k9,gq⟩;simp only[]at go gc hv g0 hV k9 gq;have hz7:=hC.size;have mf:b1∉[G,b4]:=by simp only[oK,oH,or_false];omega
 have hW:=k6.J hC mf;have mw:b1∉[G]:=ol
 have n43:b4∉[G]:=ol
 have qj:=Qep (l:=l) h.n (j:=90) oa;have q90l:=X4 h.b 90;refine Zg (l.ns.getD 90 0) λrn hrn=>?_;rw[hrn]at qj q90l;refine Zg (rn % 3) λr hr=>?_;refine QW (α:=O0×List IV) [(8,9),(56,87)] (λ_=>[]) (λz w'=>O3 [G] w7 w'/\QK ↑w' G 46 [ve,vc,z.1,Zo,Zo]/\qt ↑w7 w' z.1 Zo z.2 []/\z.2.length=r/\∀k (S:k<z.2.length),ItG 114 k (z.2[k]'S)/\∀e∈(z.2[k]'S).p.a.al,e∈al) oh ?_ ?_
 ·refine Qc<|Qs O hW O qj<|x (zd (a:=(rn:Int)) (b:=3) O O oa oa)<|x (Yc (k':=.i64) O ⟨oa,oa⟩)<|Qa<|xe<|QX (α:=Nat×O0×List IV) [(8,9),(60,87)] (λz=>[(60,sS z.1)])
   (λz w'=>z.1<=r/\O3 [G] w7 w'/\QK ↑w' G 46 [ve,vc,z.2.1,Zo,Zo]/\qt ↑w7 w' z.2.1 Zo z.2.2 []/\z.2.2.length=z.1/\∀k (S:k<z.2.2.length),ItG 114 k (z.2.2[k]'S)/\∀e∈(z.2.2[k]'S).p.a.al,e∈al)
   (λz=>r - z.1) (0,Zo,[]) La
   ⟨Lo _,O3.Y _ _,go,qt.nil,O,λk S=>OU S od⟩ ?_
  rintro⟨i,vr,rq⟩ g8 w8 ⟨hi,hg,gt,hE,kr,h8⟩;simp only[]at hi gt hE kr h8;refine Zi O O (λmy=>?_) (λmy=>?_)
  ·refine Qt ?_;have mc:i=r:=by have h62:¬(i:Int)<(rn:Int) % 3:=my;omega
   exact⟨(vr,rq),Z,hg,gt,hE,oe,h8⟩
  have h5:i<r:=by have h62:(i:Int)<(rn:Int) % 3:=my;omega
  have kg:=hW.J hg mw;have hB48:=gc.J hg n43;have qs:=Qep (l:=l) h.n (j:=0+91+i*1) oa;have qsl:=X4 h.b (0+91+i*1);refine Zg (l.ns.getD (0+91+i*1) 0) λm hm=>?_;rw[hm]at qs qsl;have mg:=VK m 5;have g2:=Qbm m 5;have ge:=Qeh m 5;refine Zg (setK m 5) λsk g3=>?_;rw[g3]at mg g2 ge;refine Qf<|Qe<|Qn<|Ql<|Qb<|Ql<|Q7 O<|x (ZR (i:=i) O O oa)<|ZB kg O qs<|Qw<|(VL m qsl _).S ?_;rintro vs w9 ⟨V,gg⟩;rw[g3]at gg;have p5:=hg.size;have mh:=V.size;have hva8:=Qm (Qg hv.a hg (λb hb hm=>by rw[Lb.1 hm]at hb;exact QJ hv.a oa hb)) V;have g6:=Qi gg;have hlv:=QU hv.a;have hD:=Ql1 gg oa (hB48.I V) (λhm=>oo (g6 b4 hm).1) (QM hva8 oa (λb hb hbs=>oq (g6 b hbs).1 (hlv b hb)));refine x (Zk (l:=[]) (l':=[_]))<|Qw<|hD.S ?_;rintro vd hh ⟨hw,ql⟩;have q0:Yw (sk.filter λx=>decide (x∈al)):=List.Pairwise.filter _ g2;have hFL:=LJ (λx=>decide (x∈al)) sk;have kt:∀e∈sk.filter λx=>decide (x∈al),e∈sk/\e∈al:=λe T=>by
   have:=LW.1 T;exact⟨this.1,OW this.2⟩
  refine Zg (sk.filter λx=>decide (x∈al)) λF hF=>?_;rw[hF]at ql q0 hFL kt;refine Qb ?_;have kh:sW w8 hh:=V.O hw (λb hb=>.inr (g6 b hb).1);have hz10:=kh.size;have hy:=hE.I kh;have g4:=gt.I kh;have mj:=kg.I kh;have mo:Qu [] ↑hh vd F:=Qh.ints (L:=[]) ql oa od;have n3v:G∉ob vr:=QJ hy.c oa;have n1v:b1∉ob vr:=QJ hy.c oa;have gh:=QiJ (ns:=l.ns) (o:=0+93+i*27) (oo h.n);have g5:=QmM (o:=0+93+i*27) h.b;have mq:=λj u=>Qc6 (l:=l) (o:=0+93+i*27) (m:=27) j u;refine Zg (grN l.ns (0+93+i*27)) λgr q4=>?_;have hgs2:∀j u,(bys gr)[j]?=some u->(YY l)[0+93+i*27+j]?=some u:=by rw[<-q4];exact mq
  rw[q4]at gh g5;have ka:sW hh { hh with drawn:=hh.drawn+1 }:=O3.X _ _
  have kb:(48:Int)+(i:Int)=((48+i:Nat):Int):=oa
  refine Zg (⟨#[114]⟩++⟨#[UInt8.ofNat (48+i)]⟩:ByteArray) λnm hH=>?_;refine ZH (ob vr) (Y0 0 18 [12,14,15,17])<|p (QH O)<|pq (λ_ hc=>Qj (g4.J hc n3v) O O)<|p Qx<|p (λ_=>Xd O O ⟨oa,oa⟩)<|p (λ_=>Yc (k':=.i32) O ⟨oa,oa⟩)<|p (λ_=>Uz (n:=48+i) (OT (Value.int .i32) kb) oa) <|
   p (λ_=>YC (a:=⟨#[114]⟩) (b:=⟨#[UInt8.ofNat (48+i)]⟩) O O (by show 1+1<=1000000000;omega))<|p Qx<|p Qx<|p (QH O)<|p (λ_=>ZR (i:=i) O O oa)<|pq (λ_ hc=>UC (us:=bys gr) (mj.J hc n1v) O (by rw[Xk];exact gh) hgs2)<|?_
  refine pk<|xg<|(zF (mo.I ka) (λe T=>oo (ge e (kt e T).1)) q0 gh g5).S ?_;rintro r11 ho ⟨gi,a,⟨xa,xm,h6,rfl,hA⟩,hG,gs⟩;have hI:=ka.D gi;have p9:=hI.size;have gj:=hA [] od;refine⟨hI.any,?_⟩;refine p (λ_=>ZC [(0,[.string nm]),(1,[xa,sS a.st,xm,h6])] ⟨OT (λb=>(Value.string b).cells) hH,O,O,O,Z⟩)<|pk<|Q2 [Zm ⟨nm,⟨xa,xm,h6,a⟩⟩] λb14 gk hf hb14 ms=>⟨(hI.D hf).any,?_⟩;have hz:=hI.D hf;have kc:=hy.I hz;refine pk<|QZ (news:=Zm ⟨nm,⟨xa,xm,h6,a⟩⟩) (L:=[]) kc.c O O O (ms.at od) (Qau gj.al.one gj.mr.one gj.ed.one) oa (oo hz.size) λmt hJ ke J mu=>⟨(hz.any (L:=ob vr)).V J,?_⟩;have mv:=kc.setC (zB (q:=⟨nm,⟨xa,xm,h6,a⟩⟩) (N:=↑hh) (λL hL=>(hA L hL).I hf) oa hy.avlt) ke J mu;refine p (QH O)<|pkk<|Qv ((g4.I hz).J J n3v) O O od (QA ke) λhK U hX=>pe ?_;have hge:=Qi hy.c;have hs715:O3 [G] w7 hJ:=((hg.D kh.any).D hz.any).O J (λb hb=>.inr (hge b hb).1);refine Qr<|QB O O<|Qa<|xe<|⟨(i+1,mt,rq++[⟨nm,⟨xa,xm,h6,a⟩⟩]),oe,La,h5,hs715.V U,hX,mv.low U (λb hb=>by rw[Lb.1 hb];omega),by simp only[oM,oL];omega,λk S=>?_⟩;simp only[]at S ⊢;by_cases hj:k<rq.length
  ·rw[Mq hj];exact h8 k hj
  have kf:k=i:=by simp only[oM,oL]at S;omega
  subst kf;rw[Nc oa];simp only[kr,Nat.sub_self,Om];exact⟨⟨hH.symm,hG,λe T=>by rw[gs]at T;exact(ge e (kt e T).1).2⟩,λe T=>by rw[gs]at T;exact(kt e T).2⟩
 rintro⟨vr,rq⟩ g8 w8 ⟨hg,gt,hE,kr,h8⟩;simp only[]at gt hE kr h8;have p5:=hg.size;have kg:=hW.J hg mw;have g147:=QhA (l:=l) h.n 0;have hX6:Zs [G,b4] ↑w6 l.vx l.xs.length 4 (l.xs.flatMap Y6):=((h.x.up (L':=[G,b4]) (λb hb=>.inr (by simp only[oK,oH,or_false]at hb;omega))).I po).I gz;have j1:Zs [G] ↑w8 l.vx l.xs.length 4 (l.xs.flatMap Y6):=((hX6.st hC).up (L':=[G]) (λb hb=>.inl (by simp only[oF]at hb;simp[hb]))).st hg;refine QW (α:=O0×List XV) [(10,14),(88,151)] (λ_=>[]) (λz w'=>O3 [G] w8 w'/\QK ↑w' G 46 [ve,vc,vr,z.1,Zo]/\KU ZV 2 186 (λq=>[(q.v,q.ls.length,2,q.ls.flatMap Zf)]) ↑w8 w' z.1 z.2/\z.2.length<=2/\(z.2.map (·.nm)).Nodup/\∀q∈z.2,(∃k,k<2/\q.nm=⟨#[101]⟩++⟨#[UInt8.ofNat (48+k)]⟩)/\q.ls≠[]/\q.ls.length<=3/\Xm (co.map (·.p.a.st)) none q.ls=0) oh ?_ ?_
 ·refine Qc<|Qs O kg O g147<|QG j1 O<|Qa<|xe<|QX (α:=Nat×O0×List XV) [(10,14),(91,151)] (λz=>[(91,sS z.1)])
   (λz w'=>z.1<=l.xs.length/\z.1<=2/\O3 [G] w8 w'/\QK ↑w' G 46 [ve,vc,vr,z.2.1,Zo]/\KU ZV 2 186 (λq=>[(q.v,q.ls.length,2,q.ls.flatMap Zf)]) ↑w8 w' z.2.1 z.2.2/\z.2.2.length<=z.1/\(z.2.2.map (·.nm)).Nodup/\∀q∈z.2.2,(∃k,k<z.1/\q.nm=⟨#[101]⟩++⟨#[UInt8.ofNat (48+k)]⟩)/\q.ls≠[]/\q.ls.length<=3/\Xm (co.map (·.p.a.st)) none q.ls=0)
   (λz=>l.xs.length - z.1) (0,Zo,[]) La
   ⟨Lo _,Lo _,O3.Y _ _,gt,KU.nil,Lp _,List.Pairwise.nil,λq E=>by cases E⟩ ?_
  rintro⟨i,vx,qx⟩ g9 w9 ⟨hi,hi2,V,hY,h7,ku,hZ,hM⟩;simp only[]at hi hi2 hY h7 ku hZ hM;have j2:(∀q∈qx,(∃k,k<2/\q.nm=⟨#[101]⟩++⟨#[UInt8.ofNat (48+k)]⟩)/\q.ls≠[]/\q.ls.length<=3/\Xm (co.map (·.p.a.st)) none q.ls=0):=λq E=>by
   obtain⟨⟨k,k1,k2⟩,h2⟩:=hM q E;exact⟨⟨k,oa,k2⟩,h2⟩
  refine Zi O O (λj3=>?_) (λj3=>?_)
  ·refine Qt ?_;exact⟨(vx,qx),Z,V,hY,h7,oe,hZ,j2⟩
  have h5:i<l.xs.length:=by have h93:(i:Int)<(l.xs.length:Int):=j3;omega
  have hX9:=j1.st V;refine Qf<|Qe<|Qn<|Ql<|O6 qS hX9 O O h5 λa94 j4=>?_;refine Zg (l.xs[i]'h5) λxr hxr=>?_;rw[hxr]at j4;refine x (QF j4 O (qS xr))<|QT [.int .u8 0,.int .u8 0,.int .u8 0,.int .u8 0] λb11 hh hw hb11 hB11=>x Qd<|Qo<|ZJ (us:=Y6 xr) hB11 O O (qS xr) O (Qco xr.1) λho gi za=>xe ?_;have hB:sW w9 ho:=hw.Q gi hb11;refine Qe<|Ql<|x (Zd O O)<|xe<|Zh O (λz0=>?_) (λz0=>?_)
  ·refine Qt ?_;exact⟨(vx,qx),Z,V.D hB.any,hY.I hB,h7.I hB,oe,hZ,j2⟩
  have hi3:i<2:=by have h98:¬(i:Int)=2:=z0;omega
  have kb:(48:Int)+(i:Int)=((48+i:Nat):Int):=oa
  have p9:=hB.size;have hl11:=za.lt;refine Zg (⟨#[101]⟩++⟨#[UInt8.ofNat (48+i)]⟩:ByteArray) λnm hH=>?_;refine Qf<|Ql<|QB O O<|x (Yc (k':=.i32) O ⟨oa,oa⟩)<|x (Uz (n:=48+i) (OT (Value.int .i32) kb) oa)<|x (YC (a:=⟨#[101]⟩) (b:=⟨#[UInt8.ofNat (48+i)]⟩) O O (by show 1+1<=1000000000;omega))<|x (QC La) <|
   QT [.string .empty,Zo] λhN gk hf z2 gy=>Qo<|ZJ (us:=[.string nm,Zo]) gy O (show Go.Lg.ev _ _=_ from OT (λs=>Value.agg #[.string s,Zo]) hH) O O ov λhO hP hB1213=>xe ?_
  have kv:sW ho hO:=hf.Q hP z2;have mz:=hB.D kv;have hz1113:=kv.size;have mh:=V.size;have hltC:=QU hv.c;have nc3:G∉ob vc:=QJ hv.c oa;have z3:∀b∈ob vc,b∉[G]:=λb hb hm=>by rw[Lb.1 hm]at hb;exact nc3 hb
  have hC13:=Qm (Qg (Qg hv.c hg z3) V z3) mz;have m0:=hY.I mz;have hB1113:=za.I kv;have hl12:=gy.lt;have z4:G∉[hN]:=ol
  have n1112:b11∉[hN]:=ol
  have z5:=QM (L:=[hN]) hC13 oa (λb hb hm=>by rw[Lb.1 hm]at hb;have:=hltC hN hb;omega);refine QW (α:=O0×xu) [(13,14),(104,140)] (λ_=>[]) (λz w'=>O3 [hN] hO w'/\QK ↑w' hN 186 [.string nm,z.1]/\w'.ownsRow ↑hO 188 2 z.1 z.2.length (z.2.flatMap Zf)/\z.2.length<=co.length/\z.2.Pairwise (λp q=>p.1<q.1)/\∀p∈z.2,0<=p.1/\p.1<(co.length:Int)/\0<=p.2/\p.2<O4 (co.map (·.p.a.st)) p.1.toNat) oh ?_ ?_
  ·refine Qc<|Qs O m0 O O<|QG z5 O<|Qa<|xe<|QX (α:=Nat×O0×xu) [(13,14),(107,140)] (λz=>[(107,sS z.1)])
    (λz w'=>z.1<=co.length/\O3 [hN] hO w'/\QK ↑w' hN 186 [.string nm,z.2.1]/\w'.ownsRow ↑hO 188 2 z.2.1 z.2.2.length (z.2.2.flatMap Zf)/\z.2.2.length<=z.1/\z.2.2.Pairwise (λp q=>p.1<q.1)/\∀p∈z.2.2,0<=p.1/\p.1<(z.1:Int)/\0<=p.2/\p.2<O4 (co.map (·.p.a.st)) p.1.toNat)
    (λz=>co.length - z.1) (0,Zo,[]) La
    ⟨Lo _,O3.Y _ _,hB1213,QL _ _ _ _,Lp _,List.Pairwise.nil,λp I=>by cases I⟩ ?_
   rintro⟨k,vl,ls⟩ g14 hQ ⟨S,Y,hR,ha,m1,gl,hS⟩;simp only[]at S hR ha m1 gl hS;refine Zi O O (λm2=>?_) (λm2=>?_)
   ·refine Qt ?_;have kf:k=co.length:=by have h109:¬(k:Int)<(co.length:Int):=m2;omega
    rw[kf]at hS;exact⟨(vl,ls),Z,Y,hR,ha,oe,gl,hS⟩
   have hj:k<co.length:=by have h109:(k:Int)<(co.length:Int):=m2;omega
   have hAC14:=z5.st Y;have ga:=m0.J Y z4;have hB1114:=hB1113.J Y n1112;refine Qf<|Qe<|Qn<|Ql<|Qb<|Qc<|Qs O ga O O<|Qa<|O6 UL hAC14 O O hj λa113 h113=>?_;refine Zg (co[k]'hj) λq E=>?_;rw[E]at h113;refine x (ZE O)<|x (ZE O)<|x (Qq ((h113.from 1).fld 1 (sS q.p.a.st) O) O)<|Qb ?_;have m3:=(hV k hj).g;rw[E]at m3;have hqp:=m3.p;have hqs:=m3.s;have m4:=UU (ns:=xr.1) (j:=0+k*1) (by rw[xr.2.1];omega);have qx0l:=X4 xr.2.2 (0+k*1);refine Zg (xr.1.getD (0+k*1) 0) λxk hxk=>?_;rw[hxk]at m4 qx0l;have hmod:0<=(xk:Int) % (q.p.a.st+2):=Int.emod_nonneg _ oa;refine Ql<|x (ZR (i:=k) O O oa)<|ZB hB1114 O m4<|x (Yc (k':=.i64) O ⟨oa,oa⟩)<|Qa<|QB O O<|x (zd (a:=(xk:Int)) (b:=q.p.a.st+2) O O oa oa)<|Qa<|ZP O O<|xe ?_;have hgeL:=Qi ha;have hz14:=Y.size;have hz13:=hP.size;have hn12v:hN∉ob vl:=QJ ha oa;have hn11v:b11∉ob vl:=QJ ha oa;have hcget:O4 (co.map (·.p.a.st)) k=q.p.a.st:=by
    unfold O4;simp[oO,List.getElem?_map,oU hj,E]
   refine Zn O (λh125=>?_) (λh125=>?_)
   ·refine Qf<|Qr<|QB O O<|Qa<|xe ?_;exact⟨(k+1,vl,ls),oe,La,hj,Y,hR,ha,oe,gl,λp I=>by have:=hS p I;simp only[];omega⟩
   have hd14:sW hQ { hQ with drawn:=hQ.drawn+1 }:=O3.X _ _
   refine Zg ((xk:Int) % (q.p.a.st+2)) λst hst=>?_;refine ZH (ob vl) (Y0 0 15 [11,12,14])<|p (QH O)<|pq (λ_ hc=>Qj (hR.J hc hn12v) O O)<|p Qx<|p Qx<|p (λ_=>ZR (i:=k) O O oa)<|pq (λ_ hc=>Qj (hB1114.J hc hn11v) O m4)<|p (λ_=>Yc (k':=.i64) O ⟨oa,oa⟩)<|p Qx<|p (λ_=>Xd O O ⟨oa,oa⟩) <|
    p (λ_=>zd (a:=(xk:Int)) (b:=q.p.a.st+2) O O oa oa)<|p (λ_=>QC ⟨O,O,Z⟩)<|pk<|Q2 [Zf ((k:Int),(xk:Int) % (q.p.a.st+2))] λb137 hJ J hb137 hB137=>?_
   have gu:=hd14.D J;have hz1415:=gu.size;refine⟨gu.any,?_⟩;refine pk<|QZ (news:=Zf ((k:Int),(xk:Int) % (q.p.a.st+2))) (L:=[]) (Qm ha gu) O O O (hB137.at od) (Qeu _) oa oa λkw hK gv U hn16=>⟨(gu.any (L:=ob vl)).V U,?_⟩;have hge16:∀b∈ob kw,↑hO<=b:=λb hb=>(Qi gv b hb).1;refine p (QH O)<|pkk<|Qv ((hR.I gu).J U hn12v) O O od (QA gv) λm5 h0 hW=>pe ?_;refine Qr<|QB O O<|Qa<|xe<|⟨(k+1,kw,ls++[((k:Int),(xk:Int) % (q.p.a.st+2))]),oe,La,hj,((Y.D gu.any).O U (λb hb=>.inr (hgeL b hb).1)).V h0,hW,?_,by simp only[oM,oL];omega,?_,λp I=>?_⟩
   ·have h9:=Qg gv h0 (λb hb=>by have:=hge16 b hb;simp only[oF];omega);simp only[oM,List.flatMap_append];simpa using h9
   ·simp only[];rw[Me];exact⟨gl,M2 _ _,λp I p' m6=>by rw[Lb.1 m6];have:=hS p I;simp only[];omega⟩
   simp only[]at I ⊢;rcases Le.1 I with I|I
   ·have:=hS p I;omega
   rw[Lb.1 I];simp only[Ov];rw[hcget];omega
  rintro⟨vl,ls⟩ g14 hQ ⟨Y,hR,ha,m1,gl,hS⟩;simp only[]at hR ha m1 gl hS;have hz14:=Y.size;have hz13:=hP.size;have gb:sW w9 hQ:=mz.Q Y oa;have ga:=m0.J Y z4;have kx:=h7.I gb;refine Qc<|Qs O hR O O<|QG (QM (L:=[]) ha oa od) rfl<|x (Z5 rfl rfl)<|xe<|Zn O (λh144=>?_) (λh144=>?_)
  ·refine Qf<|Qr<|QB O O<|Qa<|xe<|⟨(i+1,vx,qx),oe,La,h5,oe,V.D gb.any,ga,kx,oe,hZ,λq E=>?_⟩;obtain⟨⟨k,k1,k2⟩,h2⟩:=hM q E;exact⟨⟨k,oe,k2⟩,h2⟩
  have h145:(0:Int)<(ls.length:Int):=h144;have hxx:=QA ha;refine Qr<|Qs O ga O O<|Q3 hR O O<|Qo<|Q2 [ZV ⟨nm,vl,ls⟩] λb148 hJ J hb148 hB148=>?_;refine Qo<|QZ (news:=ZV ⟨nm,vl,ls⟩) (L:=[]) (Qm kx.own J) O O O (hB148.at od) (Qd5 hxx) oa (oq gb.size J.size) λkw hK gv U hn16=>?_;have hs1115:sW ho hJ:=(kv.Q Y z2).D J;have hM16:=(h7.I hB).app hs1115 (q:=⟨nm,vl,ls⟩) (λt ht=>by rw[Lb.1 ht];exact⟨↑hO,188,Qm ha J,by show ls.length<=_;omega,hz1113⟩) oa gv U hn16;have hgeX:=Qi kx.own;have n3x:G∉ob vx:=QJ kx.own oa;refine Q7 O<|Qo<|Qv ((ga.I J).J U n3x) O O od (QA gv) λm5 h0 hB317=>xe ?_;refine Qr<|QB O O<|Qa<|xe ?_;have kz:O3 [G] w8 hK:=((V.D gb.any).D J.any).O U (λb hb=>.inr (hgeX b hb).1);refine⟨(i+1,kw,qx++[⟨nm,vl,ls⟩]),oe,La,h5,oe,kz.V h0,hB317,hM16.low h0 (λb hb=>by rw[Lb.1 hb];omega),by simp only[oM,oL];omega,?_,λq E=>?_⟩
  ·simp only[List.map_append,oS,OG];rw[Md];refine⟨hZ,od,λs hs s' hs' e=>?_⟩;obtain⟨q,E,rfl⟩:=Ly.1 hs;obtain⟨⟨k,k1,k2⟩,_⟩:=hM q E;have hk0:k=0:=oa
   have hi1:i=1:=oa
   rw[Lb.1 hs',k2,<-hH,hk0,hi1]at e;exact OU e og
  rcases Le.1 E with E|E
  ·obtain⟨⟨k,k1,k2⟩,h2⟩:=hM q E;exact⟨⟨k,oe,k2⟩,h2⟩
  rw[Lb.1 E];refine⟨⟨i,Nat.lt_succ_self _,hH.symm⟩,λe=>by rw[show ls=[] from e]at h145;exact OU h145 og,by show ls.length<=3;omega,Qe6 ls none (λb hb=>by cases hb) gl (λp I=>?_)⟩;rw[Lm];exact hS p I
 rintro⟨vx,qx⟩ g9 w9 ⟨V,hY,h7,ku,hZ,hM⟩;simp only[]at hY h7 ku hZ hM;have mh:=V.size;have hB19:=kg.J V mw;have g151:=QhA (l:=l) h.n 4;have hbd:=h.bd;have hbdb:=Qea l.bd (b:=8) og;refine Zg (l.bd.tmod 8) λbd hbde=>?_;rw[hbde]at hbdb;refine Qc<|Qs O hB19 O g151<|x (Yc (k':=.i64) O ⟨oa,oa⟩)<|x (Qhq O O og)<|x (QC ⟨O,O,Z⟩)<|QT [.string .empty,Zo,sS 0] λb15 hh hw m7 m8 =>
  Qo<|ZJ (us:=[.string ⟨#[107]⟩,Zo,sS bd]) m8 O (show Go.Lg.ev _ _=_ from OT (λn=>Value.agg #[.string ⟨#[107]⟩,Zo,sS n]) hbde) O O ox λho gi hB1511=>xe ?_
 have hB:sW w9 ho:=hw.Q gi m7;have hB111:=hB19.I hB;have hB311:=hY.I hB;have n115:b1∉[b15]:=ol
 have n315:G∉[b15]:=ol
 have hl15:=hB1511.lt;refine QW (α:=O0×xu) [(16,16),(157,179)] (λ_=>[]) (λz w'=>O3 [b15] ho w'/\QK ↑w' b15 191 [.string ⟨#[107]⟩,z.1,sS bd]/\w'.ownsRow ↑ho 193 2 z.1 z.2.length (z.2.flatMap Zf)/\z.2.length<=n/\z.2.Pairwise (λp q=>p.1<q.1)/\∀p∈z.2,0<=p.1/\p.1<(n:Int)/\-4<p.2/\p.2<4) oh ?_ ?_
 ·refine Ql<|Qa<|xe<|QX (α:=Nat×O0×xu) [(16,16),(158,179)] (λz=>[(158,sS z.1)])
   (λz w'=>z.1<=n/\O3 [b15] ho w'/\QK ↑w' b15 191 [.string ⟨#[107]⟩,z.2.1,sS bd]/\w'.ownsRow ↑ho 193 2 z.2.1 z.2.2.length (z.2.2.flatMap Zf)/\z.2.2.length<=z.1/\z.2.2.Pairwise (λp q=>p.1<q.1)/\∀p∈z.2.2,0<=p.1/\p.1<(z.1:Int)/\-4<p.2/\p.2<4)
   (λz=>n - z.1) (0,Zo,[]) La
   ⟨Lo _,O3.Y _ _,hB1511,QL _ _ _ _,Lp _,List.Pairwise.nil,λp I=>by cases I⟩ ?_
  rintro⟨i,vt,ts⟩ g12 gk ⟨hi,hf,hT,h4,ki,gm,hU⟩;simp only[]at hi hT h4 ki gm hU;refine Zi O O (λm9=>?_) (λm9=>?_)
  ·refine Qt ?_;have mc:i=n:=by have h160:¬(i:Int)<1+(cn:Int) % 3:=m9;omega
   rw[mc]at ki hU;exact⟨(vt,ts),Z,hf,hT,h4,ki,gm,hU⟩
  have h5:i<n:=by have h160:(i:Int)<1+(cn:Int) % 3:=m9;omega
  have hB112:=hB111.J hf n115;have qf:=Qpp (l:=l) h.n (i:=i) oa;have qfb:=Qpo h i oa;refine Zg (flk l i) λfk hfk=>?_;rw[hfk]at qf qfb;refine Qf<|Qe<|Qn<|Ql<|Qb<|Ql<|Q7 O<|x (ZR (i:=i) O O oa)<|ZB hB112 O qf<|ZL O O<|xe<|Zn O (λh165=>?_) (λh165=>?_)
  ·refine Qf<|Qr<|QB O O<|Qa<|xe ?_;exact⟨(i+1,vt,ts),oe,La,h5,hf,hT,h4,oe,gm,λp I=>by have:=hU p I;simp only[];omega⟩
  have hmd:=Qea fk (b:=4) og;have hd12:sW gk { gk with drawn:=gk.drawn+1 }:=O3.X _ _
  have hz12:=hf.size;have hgeT:=Qi h4;have hn15v:b15∉ob vt:=QJ h4 oa;have hn1v:b1∉ob vt:=QJ h4 oa;refine ZH (ob vt) (Y0 0 14 [10,11,13])<|p (QH O)<|pq (λ_ hc=>Qj (hT.J hc hn15v) O O)<|p Qx<|p Qx<|p (QH O)<|p (λ_=>ZR (i:=i) O O oa)<|pq (λ_ hc=>Qj (hB112.J hc hn1v) O qf)<|p (λ_=>Yc (k':=.i64) O ⟨oa,oa⟩) <|
   p (λ_=>Qhq O O og)<|p (λ_=>QC ⟨O,O,Z⟩)<|pk<|Q2 [Zf ((i:Int),fk.tmod 4)] λb176 hO hP hb176 hB176=>?_
  have gx:=hd12.D hP;have hz1213:=gx.size;refine⟨gx.any,?_⟩;refine pk<|QZ (news:=Zf ((i:Int),fk.tmod 4)) (L:=[]) (Qm h4 gx) O O O (hB176.at od) (Qeu _) oa oa λv14 hQ ha Y hn14=>⟨(gx.any (L:=ob vt)).V Y,?_⟩;have hge14:∀b∈ob v14,↑ho<=b:=λb hb=>(Qi ha b hb).1;refine p (QH O)<|pkk<|Qv ((hT.I gx).J Y hn15v) O O od (QA ha) λhJ J m8=>pe ?_;refine Qr<|QB O O<|Qa<|xe<|⟨(i+1,v14,ts++[((i:Int),fk.tmod 4)]),oe,La,h5,((hf.D gx.any).O Y (λb hb=>.inr (hgeT b hb).1)).V J,m8,?_,by simp only[oM,oL];omega,?_,λp I=>?_⟩
  ·have h9:=Qg ha J (λb hb=>by have:=hge14 b hb;simp only[oF];omega);simp only[oM,List.flatMap_append];simpa using h9
  ·simp only[];rw[Me];exact⟨gm,M2 _ _,λp I p' m6=>by rw[Lb.1 m6];have:=hU p I;simp only[];omega⟩
  simp only[]at I ⊢;rcases Le.1 I with I|I
  ·have:=hU p I;omega
  rw[Lb.1 I];simp only[];omega
 rintro⟨vt,ts⟩ g12 gk ⟨hf,hT,h4,ki,gm,hU⟩;simp only[]at hT h4 ki gm hU;have hz12:=hf.size;have hgT:=Qi h4;refine Qc<|Qs O hT O O<|Qw<|(Ql0 h4 oa).S ?_;rintro vu hO ⟨hP,k0⟩;have hup:(nzT ts).Pairwise (λp q=>p.1<q.1):=List.Pairwise.filter _ gm;have hul:=LJ (λp:Int×Int=>!decide (p.2=0)) ts;have hub:∀p∈nzT ts,0<=p.1/\p.1<(n:Int)/\p.2≠0/\-65536<=p.2/\p.2<=65536:=λp I=>by
  have h1:=LW.1 I;have h2:=hU p h1.1;have h3:¬p.2=0:=by simpa using h1.2
  omega
 refine Zg (nzT ts) λus hus=>?_;have hul':us.length<=3:=by rw[<-hus];exact Lx hul oa
 rw[hus]at k0 hup hub;have n15t:b15∉ob vt:=QJ h4 oa;refine Q7 rfl<|Qo<|Qv (hT.J hP n15t) O O od (QA k0) λhQ Y hB1514=>xe ?_;have gb:sW w9 hQ:=(((hB.Q hf m7).O hP (λb hb=>.inr (oo (hgT b hb).1)))).Q Y m7;have hz13:=hP.size;have hz14:=Y.size;have hgU:=Qi k0;have ha:=Qg k0 Y (λb hb=>by have:=(hgU b hb).1;simp only[oF];omega);have ga:=hY.I gb;refine QW (α:=O0×List KV) [(184,190)] (λ_=>[]) (λz w'=>O3 [G] hQ w'/\QK ↑w' G 46 [ve,vc,vr,vx,z.1]/\z.2.length<=1/\(∀q∈z.2,q.nm=⟨#[107]⟩/\Xn (co.map (·.p.a.st)) q.k=0)/\∀L:LN,(∀b∈L,b<↑w6)->ym L ↑w' z.1 z.2) oh ?_ ?_
 ·refine Qc<|Qs O hB1514 O O<|QG (QM (L:=[]) ha oa od) rfl<|x (Z5 rfl rfl)<|xe<|Zn O (λh187=>?_) (λh187=>?_)
  ·refine Qf ?_;exact⟨(Zo,[]),Z,O3.Y _ _,ga,og,λq E=>(by cases E),λL _=>⟨Zs.nil _ _ 3,λq E=>(by cases E),λq E=>(by cases E)⟩⟩
  refine Qr<|Q3 hB1514 O O<|Qo<|Q2 [Yf ⟨⟨#[107]⟩,vu,us,bd⟩] λb189 hJ J hb189 hB189=>?_;refine Q7 O<|Qo<|Qv (ga.I J) O O od rfl λhK U hX=>xe ?_;refine⟨(_,[⟨⟨#[107]⟩,vu,us,bd⟩]),Z,J.any.V U,hX,Lp _,λq E=>?_,λL hL=>?_⟩
  ·rw[Lb.1 E];refine⟨rfl,?_⟩;have hgr0:grt bd=false:=by unfold grt;rw[OX oa,OX oa];rfl
   have hct:=Qe4 (sz:=co.map (·.p.a.st)) us none (λb hb=>by cases hb) hup (λp I=>by rw[Lm,g0];exact hub p I);show Xn _ ⟨_,us,bd⟩=0;unfold Xn;rw[OR oe,OR (by rw[hct];decide),OR (by simp only[];rw[hgr0];decide)]
  have k4:∀b∈G::L,b<ho.heap.size:=λb hb=>by
   rcases Ln.1 hb with rfl|hb
   ·omega
   have:=hL b hb;omega
  have h1:ym (G::L) ↑hJ (sL b189 1 1) [⟨⟨#[107]⟩,vu,us,bd⟩]:=by
   refine⟨hB189.arr (λhb=>oo (k4 _ hb)) O og (Lp _),λq E=>?_,λq E=>?_⟩
   ·rw[Lb.1 E];exact(QM (L:=G::L) ha oa (λb hb kj=>oq (hgU b hb).1 (k4 b kj))).I J
   rw[Lb.1 E];exact X9 og
  exact(h1.st (U.S od)).up (λb hb=>.inl (Lj _ hb))
 rintro⟨vk,ks⟩ g16 hK ⟨U,hX,hj,hgk,pc⟩;simp only[]at hX hj hgk pc;have hge3:=Qi gn;have hlt3:=QU gn;have kz:O3 [G] w8 hK:=(V.D gb.any).V U;have hs716:O3 [G] w7 hK:=hg.V kz;have pd:O3 [G,b4] w6 hK:=hC.V (hs716.S od);have pf:∀b∈[G],b<w6.heap.size:=λb hb=>by rw[Lb.1 hb];omega
 have hE16:=Qg (Qm gn p4) pd (λb hb hm=>by have:=hlt3 b hb;simp only[oK,oH,or_false]at hm;omega);have hC16:=hv.low hs716 pf;have hR16:=hE.low kz (λb hb=>oo (pf b hb));have hX16:=(h7.I gb).low U (λb hb=>oo (pf b hb));have n23:b2∉[G]:=ol
 have n234:b2∉[G,b4]:=by simp only[oK,oH,or_false];omega
 have hB216:=(pn.I gz).J pd n234;refine Qc<|Q3 hX O O<|Q5 [ve,vc,vr,vx,vk] hB216 ⟨QA hE16,QA hC16.c,QA hR16.c,QA hX16.own,(pc [] od).arr.one,Z⟩ λm5 h0 hB217=>xe ?_;have pg:∀b∈[b2],b<w6.heap.size:=λb hb=>by rw[Lb.1 hb];omega
 have lo2':∀b∈[b2],b<w2.heap.size:=λb hb=>by rw[Lb.1 hb];omega
 have hE17:=Qg hE16 h0 (λb hb hm=>oq (hge3 b hb).1 (lo2' b hm));have hC17:=hC16.low h0 pg;have hR17:=hR16.low h0 (λb hb=>oo (pg b hb));have ph:=hX16.low h0 (λb hb=>oo (pg b hb));have hs017:sW w m5:=((po.D gz).O pd (λb hb=>.inr (by simp only[oK,oH,or_false]at hb;omega))).Q h0 oa;have hcon:∀q∈co,yr q.nm:=λq E=>by
  obtain⟨k,S,rfl⟩:=LP E;rw[(hV k S).nm];exact UI 99 k
 have hrqn:∀q∈rq,yr q.nm:=λq E=>by
  obtain⟨k,S,rfl⟩:=LP E;rw[(h8 k S).1.nm];exact UI 114 k
 have hxnm:∀q∈qx,yr q.nm:=λq E=>by
  obtain⟨⟨k,_,k2⟩,_⟩:=hM q E;rw[k2];exact UI 101 k
 have hevn:∀e∈ev,yr e.nm:=λe T=>Qi7 _ e (by rw[kn];exact T);have hevl:ev.length=5:=by rw[<-kn];exact Va _ _
 refine Qk ⟨[.agg #[ve,vc,vr,vx,vk]],⟨JN hB217,Z⟩,hs017,⟨ev,co.map IV.it,rq.map IV.it,qx.map XV.x,ks.map KV.k⟩,⟨⟨ve,vc,vr,vx,vk,ev,co,rq,qx,ks⟩,O,O,λL hL=>?_⟩,?_⟩
 ·have k4:∀b∈L,b<w2.heap.size:=λb hb=>oo (hL b hb)
  have hLn:b2∉L:=λhm=>oo (hL b2 hm)
  have kk:∀b∈b2::L,b<w6.heap.size:=λb hb=>by
   rcases Ln.1 hb with rfl|hb
   ·omega
   have:=hL b hb;omega
  refine⟨⟨QM hE17 (by show ev.length<=_;omega) (λb hb kj=>oq (hge3 b hb).1 (k4 b kj)),hevn⟩,hC17.itms oa hcon (λb hb=>oo (kk b (Lj _ hb))),hR17.itms oa hrqn (λb hb=>oo (kk b (Lj _ hb))),⟨QM ph.own (by show qx.length<=_;omega) (λb hb kj=>oq (Qi ph.own b hb).1 (kk b (Lj _ kj))),λq E=>?_,hxnm⟩,?_⟩
  ·exact ph.each q E _ (Lb.2 O) L (λb hb=>.inl (oo (kk b (Lj _ hb))))
  exact((pc (b2::L) kk).st (h0.S od)).up (λb hb=>.inl (Lj _ hb))
 rw[<-kn];exact Qoo oa oa hV gq oa h8 ku hZ hM hj hgk
structure yB (base:Nat)(w:OZ)(vc va:O0)(co:List IV)(al:List J9):Prop where
 c:w.ownsRow base 81 5 vc co.length (co.flatMap Zm)
 a:w.ownsRow base 94 5 va al.length (al.flatMap Zr)
 dj:Dj vc va
 each:∀q∈co,∀t∈QfV q,Yx base (ob vc++ob va) ↑w t.1 t.2.1 t.2.2.1 t.2.2.2
section
variable {vc vc' va':O0}{co:List IV}{al:List J9}
theorem yB.nil:yB base w (nS) (nS) [] []:=⟨QL _ _ _ _,QL _ _ _ _,Dj.nil _,λq E=>by cases E⟩
theorem yB.I (h:yB base w vc va co al)(E:sW w w'):yB base w' vc va co al:=⟨Qm h.c E,Qm h.a E,h.dj,λq G t I=>(h.each q G t I).I E⟩
theorem yB.low {X:LN}(h:yB base w vc va co al)(E:O3 X w w')(hX:∀b∈X,b<base):yB base w' vc va co al :=
 ⟨Qg h.c E (λb hb G=>oq (Qi h.c b hb).1 (hX b G)),Qg h.a E (λb hb G=>oq (Qi h.a b hb).1 (hX b G)),h.dj,λq I t J=>(h.each q I t J).low E hX⟩
theorem yB.avlt (h:yB base w vc va co al):∀b∈ob vc++ob va,b<w.heap.size:=λb hb=>(Le.1 hb).elim (QU h.c b) (QU h.a b)
theorem yB.setC {q:IV}(h:yB base w vc va co al)(V:∀t∈QfV q,Yx base (ob vc++ob va) ↑w t.1 t.2.1 t.2.2.1 t.2.2.2)(Y:w'.ownsRow base 81 5 vc' (co.length+1) (co.flatMap Zm++Zm q))
  (E:O3 (ob vc) w w') (G:∀b∈ob vc',b∈ob vc\/↑w<=b):yB base w' vc' va (co++[q]) al:=by
 have I:O3 (ob vc++ob va) w w':=E.S (λb hb=>Le.2 (.inl hb));have J:∀b∈ob vc'++ob va,b∈ob vc++ob va\/↑w<=b:=λb hb=>by
  rcases Le.1 hb with hb|hb
  ·exact(G b hb).imp (λh=>Le.2 (.inl h)) id
  exact .inl (Le.2 (.inr hb))
 refine⟨?_,Qg h.a E (λb hb ha=>h.dj b ha hb),λb hb S=>?_,λd hd t T=>?_⟩
 ·rw[Lc,LD];simpa using Y
 ·rcases G b hb with U|U
  ·exact h.dj b U S
  have:=QU h.a b S;omega
 rcases Le.1 hd with hd|hd
 ·exact(h.each d hd t T).app I J
 simp only[oF]at hd;subst hd;exact(V t T).app I J
theorem yB.setA {E:List J9}(h:yB base w vc va co al)(T:w'.ownsRow base 94 5 va' E.length (E.flatMap Zr))(I:O3 (ob va) w w')(J:∀b∈ob va',b∈ob va\/↑w<=b):yB base w' vc va' co E:=by
 have U:O3 (ob vc++ob va) w w':=I.S (λb hb=>Le.2 (.inr hb));have V:∀b∈ob vc++ob va',b∈ob vc++ob va\/↑w<=b:=λb hb=>by
  rcases Le.1 hb with hb|hb
  ·exact .inl (Le.2 (.inl hb))
  exact(J b hb).imp (λh=>Le.2 (.inr h)) id
 refine⟨Qg h.c I (λb hb G=>h.dj b hb G),T,λb hb G=>?_,λd hd t Y=>(h.each d hd t Y).app U V⟩;rcases J b G with S|S
 ·exact h.dj b hb S
 have:=QU h.c b hb;omega
theorem yB.itms (h:yB base w vc va co al)(I:co.length<=1099511627776)(J:∀q∈co,yr q.nm)(E:∀b∈L,b<base):KY L ↑w vc co :=
 ⟨QM h.c I (λb hb S=>oq (Qi h.c b hb).1 (E b S)),λq G=>⟨h.each q G (q.p.va,q.p.a.al.length,1,q.p.a.al.map (.int .i64)) od L (λb hb=>.inl (E b hb)),h.each q G (q.p.vm,q.p.a.mr.length,1,q.p.a.mr.map (.int .i64)) od L (λb hb=>.inl (E b hb)),h.each q G (q.p.ve,q.p.a.ed.length,3,q.p.a.ed.flatMap Qp) od L (λb hb=>.inl (E b hb))⟩,J⟩
end
def mzA (s f:Int):QD:=⟨[s,f],2,[0],[(0,s,1),(1,f,0)]⟩
theorem QdY (nm:ByteArray)(s f:Int)(w:OZ):QS sV 243 [.string nm,sS s,sS f] w λr w'=>sW w w'/\∃xa xm xe,r=.agg #[.string nm,xa,sS 2,xm,xe]/\ZK [xa,xm,xe]/\∀L:LN,(∀b∈L,b<↑w)->Zp L ↑w' xa xm xe (mzA s f):=by
 refine Zl func243 ?_;refine Qc<|QT [.string .empty,nS,sS 0,nS,nS] λb6 w1 ha hc J=>xe ?_;have he:=J.lt;refine Ql<|Qa<|Qo<|Q2 [[sS s],[sS f]] λb10 w2 S hs hf=>Qo<|Q2 [[sS 0]] λb11 w3 E ht hg =>
  Qa<|x (QC ⟨O,O,O,Z⟩)<|Qa<|x (QC ⟨O,O,O,Z⟩)<|Qo<|Q2 [Qp (0,s,1),Qp (1,f,0)] λb16 T G hu hh=>?_
 have U:=(S.D E).D G;have hj:=ha.D U;have hv:=S.size;have hw:=E.size;have hF:Y5 ↑w1 ↑T (.agg #[sL b10 2 2,sS 2,sL b11 1 1,sL b16 2 2]) (mzA s f):=
  jK (a:=mzA s f) ((hf.I E).I G) (hg.I G) hh oa oa oa O O O og og og
 refine x (QC ⟨O,O,O,O,Z⟩)<|QT qk λb7 w5 hk hm hn=>Q5 [sL b10 2 2,sS 2,sL b11 1 1,sL b16 2 2] hn oy λw6 ho hp=>xe ?_;have I:sW T w6:=hk.Q ho hm;refine Ql<|Q3 hp O O<|x (ZC [(0,[.string nm]),(1,[sL b10 2 2,sS 2,sL b11 1 1,sL b16 2 2])] ⟨O,O,O,O,Z⟩) <|
  Q5 [.string nm,sL b10 2 2,sS 2,sL b11 1 1,sL b16 2 2] ((J.I U).I I) ⟨O,O,O,O,O,Z⟩ λw7 V hq=>xe ?_
 obtain⟨xa,xm,hy,hr,hA⟩:=hF;have Y:=OT (λv=>match v with|Value.agg cs=>cs.toList|_=>[]) hr
 simp only[List.cons.injEq,and_true]at Y;obtain⟨rfl,_,rfl,rfl⟩:=Y;refine Qk ⟨[.agg #[.string nm,sL b10 2 2,sS 2,sL b11 1 1,sL b16 2 2]],⟨JN hq,Z⟩,(hj.D I).Q V hc,_,_,_,O,ox,λL hL=>?_⟩;have h1:=(hA (b6::L) (λb hb=>by
  rcases Ln.1 hb with rfl|hb
  ·exact he
  have:=hL b hb;omega)).I I
 exact(h1.st (V.S od)).up (λb hb=>.inl (Lj _ hb))
def nmZ (p:Array UInt8)(i:Nat):ByteArray:=⟨p⟩++⟨#[UInt8.ofNat (97+i)]⟩
abbrev QhF:Array UInt8:=#[115,116,97,114,116]
abbrev Qes:Array UInt8:=#[102,105,110,105,115,104]
abbrev Ji:Array UInt8:=#[109,97,99,104,105,110,101]
def QbH (i:Nat):List J9:=[⟨nmZ QhF i,true,true,false,0⟩,⟨nmZ Qes i,false,true,false,0⟩]
def mzE (c:Nat):List J9:=(oJ c).flatMap QbH
def Qpw (i:Nat):Jp:=⟨nmZ Ji i,mzA (2*(i:Int)) (2*(i:Int)+1)⟩
def mzC (c:Nat):Z3:=⟨mzE c,(oJ c).map Qpw,[],[],[]⟩
theorem UH (p:Array UInt8)(i:Nat)(h:p.size<=10):yr (nmZ p i):=by
 show(ByteArray.mk _++ByteArray.mk _).size<=_;rw[ByteArray.size_append];show p.size+1<=_;omega
theorem QnE (c:Nat):∀e∈mzE c,yr e.nm:=λe E=>by
 unfold mzE at E;obtain⟨i,_,hi⟩:=Ma.1 E;simp only[QbH,oK,oH,or_false]at hi;rcases hi with rfl|rfl
 ·exact UH _ _ og
 exact UH _ _ og
theorem QbI (c:Nat):mzE (c+1)=mzE c++QbH c:=by unfold mzE;rw[Nb,LD];simp
theorem QeD:∀c,(mzE c).length=2*c
 | 0=>rfl
 | c+1=>by rw[QbI,Lc,QeD c];show 2*c+2=_;omega
theorem QfO (i:Nat):∀u∈(QbH i).flatMap Zr,u.oneCell'=true:=λu E=>by
 obtain⟨e,_,G⟩:=Ma.1 E;exact Qb0 e u G
theorem JI (c:Nat)(hW:c<=4)(w:OZ):QS sV 182 [sS c] w λr w'=>sW w w'/\QmB ↑w ↑w' r (mzC c):=by
 refine Zl func182 ?_;refine Qc<|QT KG λb2 w1 hE hX hv=>xe ?_;refine Qc<|QT KG λJ S hw hY hy=>xe ?_;have hZ:=hv.lt;have hj:=hy.lt;refine Qe<|Ql<|Qa<|xe<|QX (α:=Nat×O0×List J9×O0×List IV) [(4,4),(6,42)] (λz=>[(6,sS z.1)])
  (λz w'=>z.1<=c/\O3 [J] S w'/\QK ↑w' J 46 [z.2.1,z.2.2.2.1,Zo,Zo,Zo]/\yB ↑S w' z.2.2.2.1 z.2.1 z.2.2.2.2 z.2.2.1/\z.2.2.1=mzE z.1/\z.2.2.2.2.map IV.it=(oJ z.1).map Qpw/\∀q∈z.2.2.2.2,yr q.nm)
  (λz=>c - z.1) (0,Zo,[],Zo,[]) La ⟨Lo _,O3.Y _ _,hy,yB.nil,O,O,λq E=>by cases E⟩ ?_
 rintro⟨i,ve,ev,vc,co⟩ g3 w3 ⟨hi,ha,hf,G,T,U,hk⟩;simp only[]at hi hf G T U hk;have ga:=ha.size;have gb:ev.length=2*i:=by rw[T];exact QeD i
 have gc:co.length=i:=by have:=OT oW U;simpa using this
 refine Zi rfl O (λh7=>?_) (λh7=>?_)
 ·refine Qt ?_;have hF:i=c:=by have h8:¬(i:Int)<(c:Int):=h7;omega
  rw[hF]at T U;have hG:b2∉[J]:=ol
  have hm:=(hv.I hw).J ha hG;refine Qc<|Q3 hf O O<|Q5 [ve,vc,Zo,Zo,Zo] hm ⟨QA G.a,QA G.c,O,O,O,Z⟩ λw4 I hH=>xe ?_;have hI:∀b∈[b2],b<S.heap.size:=λb hb=>by rw[Lb.1 hb];omega
  have hn:=G.low I hI;refine Qk ⟨[.agg #[ve,vc,Zo,Zo,Zo]],⟨JN hH,Z⟩,((hE.D hw).Q ha oa).Q I oa,⟨ve,vc,Zo,Zo,Zo,ev,co,[],[],[]⟩,O,?_,λL hL=>?_⟩
  ·show(⟨ev,co.map IV.it,[],[],[]⟩:Z3)=mzC c;rw[T,U];rfl
  have hz:∀b∈L,b<S.heap.size:=λb hb=>oo (hL b hb)
  exact⟨⟨QM hn.a (by show ev.length<=_;omega) (λb hb hJ=>oq (Qi hn.a b hb).1 (hz b hJ)),λe he=>QnE c e (by rw[<-T];exact he)⟩,hn.itms oa hk hz,⟨Zs.nil _ _ 5,λq E=>(by cases E),λq E=>(by cases E)⟩,⟨Zs.nil _ _ 2,λq E=>(by cases E),λq E=>(by cases E)⟩,⟨Zs.nil _ _ 3,λq E=>(by cases E),λq E=>(by cases E)⟩⟩
 have hK:i<c:=by have h8:(i:Int)<(c:Int):=h7;omega
 have hu:(97:Int)+(i:Int)=((97+i:Nat):Int):=oa
 refine Qf<|Qe<|Qn<|Ql<|Qb<|Qc<|Qs O hf O O<|Qa<|QB O O<|x (Yc (k':=.i32) O ⟨oa,oa⟩)<|x (Uz (n:=97+i) (OT (Value.int .i32) hu) oa)<|x (YC (a:=⟨QhF⟩) (b:=⟨#[UInt8.ofNat (97+i)]⟩) O O (by show 5+1<=1000000000;omega))<|x (QC ⟨O,O,O,Z⟩) <|
  Qa<|QB rfl O<|x (Yc (k':=.i32) O ⟨oa,oa⟩)<|x (Uz (n:=97+i) (OT (Value.int .i32) hu) oa)<|x (YC (a:=⟨Qes⟩) (b:=⟨#[UInt8.ofNat (97+i)]⟩) O O (by show 6+1<=1000000000;omega))<|x (QC ⟨O,O,Z⟩) <|
  Qo<|Q2 ((QbH i).map Zr) λge w4 I gg hm=>?_
 have gh:=I.size;have hM:J∉ob ve:=QJ G.a hj;have h0:J∉ob vc:=QJ G.c hj;have hN:=Qi G.c;refine Qo<|QZ (m:=2) (news:=(QbH i).flatMap Zr) (L:=[]) (Qm G.a I) O O O (hm.at od) (QfO i) oa oa λho w5 h1 hp hO=>?_;refine Q7 rfl<|Qo<|Qv (j:=0) (u:=ho) ((hf.I I).J hp hM) O O od (QA h1) λV h2 h3=>xe ?_;have hP:yB ↑S w5 vc ho co (ev++QbH i):=(G.I I).setA (by rw[Lc,LD];exact h1) hp hO;have h4:∀b∈[J],b<S.heap.size:=λb hb=>by rw[Lb.1 hb];exact hj
 have h5:=hP.low h2 h4;have h6:O3 [J] S V:=((ha.D I.any).O hp (λb hb=>.inr ((Qi G.a) b hb).1)).V h2;have gi:=h6.size;have hQ:sW V { V with drawn:=V.drawn+1 }:=O3.X _ _
 refine ZH (ob vc) (Y0 0 17 [12,13,14,16])<|p (QH O)<|pq (λ_ hc=>Qj (h3.J hc h0) O O)<|p Qx<|p (λ_=>Xd O O ⟨oa,oa⟩)<|p (λ_=>Yc (k':=.i32) O ⟨oa,oa⟩)<|p (λ_=>Uz (n:=97+i) (OT (Value.int .i32) hu) oa) <|
  p (λ_=>YC (a:=⟨Ji⟩) (b:=⟨#[UInt8.ofNat (97+i)]⟩) O O (by show 7+1<=1000000000;omega))<|p Qx<|p (λ_=>Qen O O ⟨oa,oa⟩)<|p Qx<|p (λ_=>Qen O O ⟨oa,oa⟩)<|p (λ_=>Xd O O ⟨oa,oa⟩) <|
  pk<|xg<|(QdY (nmZ Ji i) (2*(i:Int)) (2*(i:Int)+1) _).S ?_
 rintro r7 w7 ⟨hR,xa,xm,hg,rfl,hr,hA⟩;have hs:=hQ.D hR;refine⟨hs.any,?_⟩;refine pk<|Q2 [Zm ⟨nmZ Ji i,⟨xa,xm,hg,mzA (2*(i:Int)) (2*(i:Int)+1)⟩⟩] λgj w8 ht gk hS=>⟨(hs.D ht).any,?_⟩;have Y:=hs.D ht;have h9:=h5.I Y;refine pk<|QZ (news:=Zm ⟨nmZ Ji i,⟨xa,xm,hg,mzA (2*(i:Int)) (2*(i:Int)+1)⟩⟩) (L:=[]) h9.c O O O (hS.at od) (Qau hr.1 hr.2.1 hr.2.2.1) oa (oo Y.size) λhB w9 hC hh hT=>⟨(Y.any (L:=ob vc)).V hh,?_⟩;have hU:=h9.setC (zB (q:=⟨nmZ Ji i,⟨xa,xm,hg,mzA (2*(i:Int)) (2*(i:Int)+1)⟩⟩) (N:=↑V) (λL hL=>(hA L hL).I ht) oa h5.avlt) hC hh hT;refine p (QH O)<|pkk<|Qv (j:=1) (u:=hB) ((h3.I Y).J hh h0) O O od (QA hC) λgl hD hV=>pe ?_;refine Qr<|QB O O<|Qa<|xe<|⟨(i+1,ho,ev++QbH i,hB,co++[⟨nmZ Ji i,⟨xa,xm,hg,mzA (2*(i:Int)) (2*(i:Int)+1)⟩⟩]),oe,La,hK,((h6.D Y.any).O hh (λb hb=>.inr (hN b hb).1)).V hD,hV,hU.low hD h4,?_,?_,λq E=>?_⟩
 ·simp only[];rw[QbI,T]
 ·simp only[];rw[Lv,U,Nb,Lv];rfl
 rcases Le.1 E with E|E
 ·exact hk q E
 rw[Lb.1 E];exact UH _ _ og
instance skRsn:Sk sV 173 [0,0,0,0]:=⟨⟨_,underlying173,.int og O underlying3<|.int og O underlying3<|.int og O underlying3<|.int og O underlying3 .nil⟩,oc,oc⟩
theorem UN {v:O0}{l:List Rsn}(h:Zs L ↑w v l.length 4 (l.flatMap ZW))(E:Zs L' ↑w v' l.length 4 (l.flatMap ZW)):
  QS sV 184 [v,v'] w λr w'=>r=.bool true/\sW w w':=by
 haveI:DecidableEq Rsn:=λ_ _=>Classical.propDecidable _;exact(eqG ⟨_,O,func184⟩ Qhg (ldA Qhg) h E λ{_ _ _ _ _ _ _ _ _ a b} _ _ hx G=>(Qbv (xs:=ZW a) (ys:=ZW b) O hx G).D (by cases a;cases b;simp[zP,eqV];rfl)).S λ_ _ ⟨I,J⟩=>⟨by rw[I];simp,J⟩
def VY:ByteArray:=⟨#[110,101,118,101,114]⟩
def Qak:ByteArray:=⟨#[98,111,116,104]⟩
def Qaj:ByteArray:=⟨#[109,111,115,116]⟩
def Qaw:Jp:=⟨VY,⟨[1],1,[0],[]⟩⟩
def Qoe (i j:Int):Exc:=⟨Qak,[(i,1),(j,1)]⟩
def Qoq:xK:=⟨Qaj,[(0,1),(1,1)],1⟩
def k1C:Z3:={ mzC 1 with rq:=[Qaw] }
def k2C:Z3:={ mzC 2 with ex:=[Qoe 0 1] }
def k3C:Z3:={ mzC 2 with cs:=[Qoq] }
theorem QpG:YQ k1C=0:=oc
theorem QpF:(spc k1C).fb=[⟨1,3,0,1⟩]:=oc
theorem QmL:(spc k1C).a.st=2:=oc
theorem QnT:Qe3 k1C=true:=oc
theorem QnU:cmB k1C=[2]:=oc
theorem Qq0:YQ k2C=0:=oc
theorem QpD:(spc k2C).fb=[⟨3,1,0,-1⟩]:=oc
theorem QpC:(spc k2C).a.st=4:=oc
theorem QqZ:YQ k3C=0:=oc
theorem QpA:(spc k3C).fb=[⟨3,2,0,-1⟩]:=oc
theorem Qfl {v:O0}(E:v.cells=#[v]):QS sV 282 [v] w λr w'=>sW w w'/\∃b,r=.func (.func 309) #[] #[sP b]/\↑w<=b/\QK ↑w' b 47 [v]:=by
 refine Zl func282 ?_;refine Qc<|Qo<|U2 (us:=[v]) E λG T I J S=>Qb<|Qc<|x Zk<|Qb<|Qk ⟨[_],La,I,G,O,J,S⟩
theorem Qa7 {S:Nat}{v:O0}{es:LI}(hc:QK ↑w S 47 [v])(hE:Qu L ↑w v es):
  SeqStopsK (fen none) m sV 309 #[sP S] (λx:Int=>#[sS x]) (Lw ↑w L) (λys=>ys=es) (λ_=>True) (es.length+1) w:=by
 intro l J Jx W hf hJ hg hY h0;have V:sW w W:=O3.of_below hf;have ho:=hE.le;have ab:∀{ys:LI} {W1 W2:OZ},J ys W1->sW W1 W2->J ys W2:=λ{ys W1 W2} hj T=>hJ ys W1 W2 none hj ⟨T.os,T.tape,T.output,T.size,λk U _=>T.block k U od⟩ (λr e=>by cases e);have key:QS sV 309 [.func (.yield l) #[] #[],sP S] W (λ_ W'=>(∃ys,ys=es/\J ys W')\/(∃pre,True/\Jx pre W')):=by
  refine QS.of_G m func309 O ntmps309 results309 od ?_;refine QP<|Qy oh oh<|ZB (hc.I V) O O<|QG (hE.I V) O<|Qa<|xe<|ZI<|Kn (α:=Nat) [(4,4),(7,15)] (λk=>[(7,sS k)]) (λk ds W'=>ds=[]/\k<=es.length/\O3 L w W'/\J (es.take k) W') (λk=>es.length - k) oh 0 La
   ⟨O,Lo _,V.any,h0⟩ ?_
  rintro k g ds w1 ⟨rfl,U,ha,Y⟩;refine QP<|Qy oh oh<|ZP O O<|xe<|QP<|Up O (λh8=>?_) (λh8=>?_)
  ·refine Jq ?_;have hh:es.length<=k:=by have h9:¬(k:Int)<(es.length:Int):=h8;omega
   rw[Lq hh]at Y;exact⟨λ_ h=>(by cases h),Mn,[],λW' E=>⟨Z,.inl ⟨es,rfl,ab Y E⟩⟩⟩
  refine Z6 ?_;have G:k<es.length:=by have h9:(k:Int)<(es.length:Int):=h8;omega
  have hm:es.take (k+1)=es.take k++[es[k]'G]:=Lh G;have hp:(es.take k).length=k:=by rw[LA];omega
  refine QP<|ZI<|QP<|Qy oh oh<|xii (i:=k) (hE.st ha) O O G λa9 h9=>x (Qq h9 O)<|Qb<|QP<|J8 oh ?_;refine Jc.pre2 ?_;refine Qa<|Qa<|xe<|xy (l:=l) O (hY (es.take k) (es[k]'G) w1 Y oa) λen W3 hn=>Or.elim hn (λI=>⟨.bool true,I.1,?_⟩) (λI=>⟨.bool false,I.1,?_⟩)
  ·refine Jc.of_XL<|x (Zj O)<|xe<|JK O<|Z6 ?_;refine Qy oh oh<|QB O O<|Qa<|xe ?_;exact⟨k+1,oa,La,O,G,ha.lw I.2.2,by rw[hm];exact I.2.1⟩
  refine Jc.of_XL<|x (Zj O)<|xe<|yo O ?_;refine JJ ⟨λ_ h=>(by cases h),Mn,[],λW' E=>⟨Z,.inr ⟨es.take k++[es[k]'G],Z,?_⟩⟩⟩;exact hg _ W3 W' none I.2 ⟨E.os,E.tape,E.output,E.size,λk U _=>E.block k U od⟩ (λr e=>by cases e)
 refine(callsIn_wide (n:=m)).2 ?_;have ea:(#[.func (.yield l) #[] #[]]++[sP S].toArray:Array O0)=#[.func (.yield l) #[] #[],sP S]:=od
 rw[ea];unfold QS at key;refine Calls.mono key λe w' he=>?_;cases e with
 | returned v=>exact⟨⟨v,O⟩,he⟩
 | panicked c=>exact he.elim
 | outgrown=>exact he.elim
theorem Qgm {V:Nat}{v:O0}{es:LI}(hk:QK ↑w V 47 [v])(hE:Qu [] ↑w v es)(hl:es.length<=1000):
  QS sV 321 [Zo,.func (.func 309) #[] #[sP V]] w λr w'=>sW w w'/\Qh 3 ↑w w' r es:=by
 refine QS.of_G 20 func321 O ntmps321 results321 od ?_;refine QP<|Qy oh oh<|Zc [Zo] λS w1 U he hf=>Qb ?_;have hr:=U.size;have hs:=hf.lt;refine QP<|QP<|Qy oh oh<|Qa<|xe<|ZI<|Qfi (α:=Int) [S] oa (capt:=[sP V]) O (enc:=λx=>sS x) og
  (Qa7 (hk.I U) ((hE.up (L':=[S]) (λb hb=>.inr (by rw[Lb.1 hb];exact he))).I U))
  (λpre W=>∃vo,O3 [S] w1 W/\QK ↑W S 47 [vo]/\Qh 3 ↑w1 W vo pre)
  (λpre=>Z9.ex λvo=>(Z9.J (Lp _)).and (Z9.blk.and Z9.row))
  ⟨Zo,O3.Y _ _,hf,QL _ _ _ _⟩
  (λf x Y W=>Y=upd (upd f 7 (sS x)) 5 (sS x)) (λx Y=>Z9.pure _) ?_ ?_ ?_
 ·rintro l pre e W ⟨vo,J,I,E⟩;refine Qy oh oh<|Qb<|⟨O,XD.refl _ _ _,⟨vo,J,I,E⟩,O⟩
 ·rintro l pre e Y W ⟨vo,J,I,E⟩ rfl hN;have hg:S∉ob vo:=QJ E oa;have hge:=Qi E;have hn:=J.size;refine ZI<|Qy oh oh<|ZB I O O<|Qa<|Qo<|Q2 [[sS e]] λb10 w2 G ht ho=>?_;refine Qo<|QZ (m:=1) (news:=[sS e]) (Qm E G) O O O (ho.at (L:=[]) od) om oa (oo G.size) λv3 w3 ha T hu=>?_;refine Qo<|Qv (u:=v3) ((I.I G).J T hg) O O od (QA ha) λw4 hc hp=>xe ?_;have hv:=G.size;refine⟨((XD.I G hn).D (XD.J T oa (λb hb=>⟨.inr (hge b hb).1,Go.Lg.Q6 (Qm E G) b hb⟩))).D (XD.blk hc (oo T.size) ((I.I G).J T hg) (.inl Ll)),v3,((J.D G.any).O T (λb hb=>.inr (hge b hb).1)).V hc,hp,?_⟩;exact Qh.snoc (Qg ha hc (λb hb=>by have:=(Qi ha b hb).1;simp only[oF];omega))
 rintro D xs W hD rfl ⟨vo,J,I,E⟩ hh;refine QP<|Qy oh oh<|ZB I O O<|Qb<|JJ ⟨λD' hq=>by rw[Lb.1 hq];exact hh,M2 _ _,[vo],λW' hj=>⟨La,(U.Q J he).O hj (λb hb=>.inr (by rw[Lb.1 hb];omega)),?_⟩⟩;refine Q9 (Qg E hj (λb hb hm=>?_)) oa;rw[Lb.1 hm]at hb;obtain⟨o,h1,h2⟩:=Go.Lg.Q6 E _ hb;rw[hh]at h1;cases h1
 cases h2
theorem QdC {v:O0}{es:LI}(G:QK ↑w E 47 [v])(hE:Qu [] ↑w v es)(hl:es.length<=1000):
  QS sV 308 [.func (.func 309) #[] #[sP E]] w λr w'=>sW w w'/\Qh 3 ↑w w' r es:=by
 refine Zl func308 ?_;refine Qc<|Qb<|Ql<|Qw<|(Qgm G hE hl).S ?_;rintro I T ⟨J,S⟩;refine Qb<|Qk ⟨[I],La,J,S⟩
theorem Qfs {v:O0}{es:LI}(I:QK ↑w E 47 [v])(hE:Qu [] ↑w v es)(hl:es.length<=1000):
  QS sV 281 [.func (.func 309) #[] #[sP E]] w λr w'=>sW w w'/\Qh 3 ↑w w' r (es.mergeSort λx y=>decide (x<=y)):=by
 refine Zl func281 ?_;refine Qc<|Qb<|Ql<|Qw<|(QdC I hE hl).S ?_;rintro J V ⟨S,G⟩;refine Qb<|Ql<|Qw<|(JT G oa).S ?_;rintro r2 Y ⟨T,U⟩;refine xe<|Ql<|Qb<|Qk ⟨[J],La,S.O T (λb hb=>.inr (Qi G b hb).1),U⟩
theorem QeP {n:Int}:∀{l:LI}(i:Nat),n∈l->fix (λe=>decide (n=e)) i l=((i+l.idxOf n:Nat):Int)
 | a::l,i,h=>by
  rw[Yt,List.idxOf_cons];by_cases e:n=a
  ·simp[e]
  rw[OR (ou e),show(a == n)=false by simpa using Ne.symm e,QeP (i+1) ((Ln.1 h).resolve_left e)];simp only[cond_false];omega
theorem Qn4 {v:O0}(h:Qu L ↑w v l){n:Int}(E:n∈l):
  QS sV 139 [v,sS n] w λr w'=>w'=w/\r=sS (l.idxOf n:Nat):=
 (jk h n).S λ_ _ ⟨G,I⟩=>⟨G,by rw[I,QeP 0 E,LS]⟩
def rlE (a:QD)(to:LI):List Ed:=a.ed.map λe=>(e.1,O4 to (a.al.idxOf e.2.1),e.2.2)
theorem QdR {to sa:LI}{se:List Ed}(h:Zp [] ↑w va vm ve a)(hck:XX a=0)(ho:Q8 a)(ht:Qu [] ↑w vt to)(hD:to.length=a.al.length)(hM:∀e∈to,0<=e/\e<32)(gy:to.Nodup)
  (hN:to.mergeSort (λx y=>decide (x<=y))=sa) (gz:∀l',l'.Perm (rlE a to)->l'.Pairwise Qb7->l'=se) (hok:Q8 ⟨sa,a.st,a.mr,se⟩):
  QS sV 250 [.agg #[va,sS a.st,vm,ve],vt] w λr w'=>sW w w'/\∃v,r=.tuple #[v,sS 0]/\Y5 ↑w ↑w' v (XM ⟨sa,a.st,a.mr,se⟩):=by
 have k9:=ho.st0;have ma:=ho.st1;have mc:=ho.al_le;refine Zl func250 ?_;refine Qc<|Zc [va,sS a.st,vm,ve] λb2 w1 hO mf g0=>QT qk λb4 w2 hP mg hQ=>Qb ?_;have hR:=hO.D hP;have mh:=hO.size;have mj:=hQ.lt;have hS:=g0.I hP;refine Qe<|Qc<|Q3 hS O O<|Qw<|(YV (h.I hR)).S ?_;rintro r3 w3 ⟨hT,hz⟩;rw[hck]at hT;subst hT;have hE:=hR.D hz;have mo:=hz.size;have hf:=hS.I hz;refine Qb<|Ql<|ZL O O<|xe<|Zz rfl<|Qf ?_;have h0:=h.I hE;have V:=ht.I hE;refine Qe<|Ql<|QG V O<|Qs O hf O O<|QG h0.al O<|ZL O O<|xe<|Zh rfl (λhU=>OU (OT (λm:Nat=>(m:Int)) hD) hU) (λhU=>?_);refine Qf<|QW (α:=Unit) [(5,5),(7,8),(25,47)] (λ_=>[]) (λ_ w'=>w'=w3) oh ?_ ?_
 ·refine Ql<|QG V O<|Qa<|xe<|QX (α:=Nat) [(5,5),(7,8),(27,47)] (λk=>[(27,sS k)]) (λk w'=>w'=w3/\k<=to.length) (λk=>to.length - k) 0 La ⟨O,Lo _⟩ ?_;rintro k g w' ⟨rfl,hk⟩;refine Zi O O (λhV=>?_) (λhV=>?_)
  ·refine Qt ?_;exact⟨(),Z,O⟩
  have I:k<to.length:=by have mq:(k:Int)<(to.length:Int):=hV;omega
  have g2:=hM _ (Lk I);have hW:(to[k]'I)∉to.take k:=λhm=>by
   obtain⟨j,hj,hX⟩:=LP hm;rw[M5]at hX;have g3:j<k:=by rw[LA]at hj;omega
   have:=(Mg.1 gy) j k oa I g3;exact this hX
  refine Zg (to[k]'I) λe U=>?_;rw[U]at g2 hW;refine Qf<|Qe<|Qn<|Ql<|xii V O O I λms hY=>?_;rw[U]at hY;refine x (Qq hY O)<|x Qd<|Qb<|Qn<|Ql<|xb (Ys O O) (λhZ=>OU (show e<0 from hZ) oa) (λhZ=>?_);refine Qa<|Qa<|x (Yh O O)<|Qz O<|Qb<|Zh O (λga=>OU (show e≥32 from ga) oa) (λga=>?_);refine Ql<|Qa<|Qm0 V O O oa λg4 g5=>?_;have g6:Qu [] ↑w' g4 (to.take k):=by
   unfold Qu;have g7:(to.take k).length=k:=by rw[LA];omega
   rw[g7,List.map_take];simpa using g5
  refine Qa<|Qw<|(ZG g6 e).S ?_;rintro mt w' ⟨rfl,rfl⟩;refine Qb<|Zh O (λgb=>OU gb hW) (λgb=>?_);refine Qf<|Qr<|QB O O<|Qa<|xe ?_;exact⟨k+1,oa,La,O,I⟩
 rintro⟨⟩ g w' rfl;have g8:sW w' { w' with drawn:=w'.drawn+1 }:=O3.X _ _
 refine QW (α:=Nat×O0) [(9,9),(48,55)] (λz=>[(9,.pointer (some ⟨z.1,0,none⟩))]) (λz G=>sW w' G/\↑w'<=z.1/\QK ↑G z.1 53 [z.2,sS a.st,vm,nS]/\z.2.oneCell'=true/\∀L:LN,(∀b∈L,b<↑w'\/b=z.1)->Qu L ↑G z.2 sa) oh ?_ ?_
 ·refine Jn _ mixed oh (VC (α:=O0) (sW w') [oz 0,oz 3,oz 4,oz 5,oz 6] [oA 1,oA 2,oz 7] 8 9 [oA 9] [] [(48,55)] [(49,50),(55,55)] (λz=>[(55,.agg #[z,sS a.st,vm,nS])])
   (λz own G=>(∀b∈own,↑w'<=b)/\z.oneCell'=true/\∀L:LN,(∀b∈L,b∉own)->Qu L ↑G z sa)
   (λv G=>∃b,v=sP b/\↑w'<=b/\QK ↑G b 53 qk) oc oh O g8 od ?_ ?_ ?_ ?_)
  ·rintro v own wa wb ⟨b,rfl,hb,hB⟩ hs hn;exact⟨b,O,hb,hB.J hs (hn b (by simp[ow]))⟩
  ·rintro z own wa wb ⟨h1,Y,h3⟩ hs;exact⟨h1,Y,λL hL=>(h3 L hL).I hs⟩
  ·rintro z g own wz v ⟨i1,i2,i3⟩ g9 ⟨E,rfl,hg,h5⟩ ka;have gc:=(ka E (by simp[ow])).1;refine pkk<|UG [z,sS a.st,vm,nS] h5 ⟨i2,O,h0.mr.one,O,Z⟩ λG ha kb=>pe ?_;refine⟨(E,z),La,g9.Q ha hg,hg,kb,i2,λL hL=>?_⟩;have h1:=i3 (E::L) (λb hb=>by
    rcases Ln.1 hb with rfl|hb
    ·exact gc
    rcases hL b hb with Y|Y
    ·exact λh3=>oo (i1 b h3)
    subst Y;exact gc)
   exact(h1.st (ha.S od)).up (λb hb=>.inl (by simp[hb]))
  refine Go.Lg.p Qx<|Go.Lg.p (QH O)<|pq (λ_ hc=>Qj (hf.I hc) O O)<|Go.Lg.p (QH O)<|pq (λ_ hc=>Qj (hf.I hc) O O) <|
   pe ⟨λg wf kc=>flA qk kc,?_⟩
  refine f2k λx1 p1 c1=>xg<|(Qfl V.cells).S ?_;rintro mu y1 ⟨ge,mv,rfl,mw,hG⟩;refine⟨c1.D ge,rgB ↑x1 ↑y1,ge.any,λb hb=>.inr (V3.1 hb),?_⟩;refine f2k λx2 p2 c2=>xg<|(Qfs (hG.I p2) (V.I c2) oa).S ?_;rintro ke y2 ⟨gg,hh⟩;rw[hN]at hh;refine⟨c2.D gg,rgB ↑x1 ↑y1++rgB ↑x2 ↑y2,gg.any,λb hb=>(Le.1 hb).imp id λhb=>V3.1 hb,?_⟩;refine f3p (λ_=>QC ⟨xL hh,O,h0.mr.cells,Z⟩)<|f2e ?_;refine⟨ke,La,λb hb=>?_,QA hh,λL hL=>?_⟩
  ·have e1:=c1.size;have e2:=c2.size;rcases Le.1 hb with hb|hb
   ·have:=V3.1 hb;omega
   have:=V3.1 hb;omega
  exact QM hh (by rw[<-hN,(Na to _).length_eq];omega) (λb hb hm=>hL b hm (Le.2 (.inr (V3.2 (Qi hh b hb)))))
 rintro⟨E,vs⟩ g G ⟨ha,hg,h5,hvo,kf⟩;have gh:=h5.lt;have gi:=hf.I ha;have gj:∀b∈[E],b∈([]:LN)\/↑w'<=b:=λb hb=>.inr (by rw[Lb.1 hb];exact hg);have hq:Zp [E] ↑G va vm ve a:=(h0.up gj).I ha;have kg:Qu [E] ↑G vt to:=(V.up gj).I ha;have my:=hq.ed.le;have kh:b2∉[E]:=by have:=hf.lt;simp only[oF];omega
 have mz:b4∉[E]:=ol
 have ki:(rlE a to).length=a.ed.length:=by unfold rlE;rw[Lm]
 have kj:∀e∈rlE a to,(0<=e.1/\e.1<1099511627776)/\0<=e.2.1/\e.2.1<1099511627776:=λe U=>by
  unfold rlE at U;obtain⟨d,hd,rfl⟩:=Ly.1 U;have h1:=ho.ed d hd;have Y:a.al.idxOf d.2.1<to.length:=by rw[hD];exact Mz h1.2.2.1
  have h3:=hM _ (Lk Y);have h4:=Zu Y;simp only[];omega
 refine QW (α:=O0) [(11,11),(56,78)] (λ_=>[]) (λz J=>O3 [E] G J/\QK ↑J E 53 [vs,sS a.st,vm,z]/\J.ownsRow ↑G 179 3 z (rlE a to).length ((rlE a to).flatMap Qp)) oh ?_ ?_
 ·refine Qc<|Qs O gi O O<|QG hq.ed O<|Qa<|xe<|QX (α:=Nat×O0) [(11,11),(59,78)] (λz=>[(59,sS z.1)]) (λz J=>z.1<=a.ed.length/\O3 [E] G J/\QK ↑J E 53 [vs,sS a.st,vm,z.2]/\J.ownsRow ↑G 179 3 z.2 z.1 (((rlE a to).take z.1).flatMap Qp)) (λz=>a.ed.length - z.1) (0,Zo) La ⟨Lo _,O3.Y _ _,h5,QL _ _ _ _⟩ ?_;rintro⟨k,vr⟩ g J ⟨hk,S,hr,T⟩;refine Zi O O (λhH=>?_) (λhH=>?_)
  ·refine Qt ?_;have kk:k=a.ed.length:=by have h6:¬(k:Int)<(a.ed.length:Int):=hH;omega
   rw[Lq oa,kk,<-ki]at T;exact⟨vr,Z,S,hr,T⟩
  have I:k<a.ed.length:=by have h6:(k:Int)<(a.ed.length:Int):=hH;omega
  have hI:=ho.ed _ (Lk I);have kn:(rlE a to)[k]'oa=((a.ed[k]'I).1,O4 to (a.al.idxOf (a.ed[k]'I).2.1),(a.ed[k]'I).2.2):=by unfold rlE;rw[MR]
  have hu:(rlE a to).take (k+1)=(rlE a to).take k++[(rlE a to)[k]'oa]:=Lh oa;rw[kn]at hu;refine Zg (a.ed[k]'I) λe U=>?_;rw[U]at hI hu;have hix:a.al.idxOf e.2.1<to.length:=by rw[hD];exact Mz hI.2.2.1
  rw[<-Zu hix]at hu;refine Zg (to[a.al.idxOf e.2.1]'hix) λy hy=>?_;rw[hy]at hu;refine Qf<|Qe<|Qn<|Qc<|xie (i:=k) (hq.ed.st S) O O I λm0 h6=>?_;rw[U]at h6;refine x (QF h6 O O)<|QT [sS 0,sS 0,sS 0] λb11 w7 hw gk ko=>Q5 (Qp e) ko ox λw8 h7 gl=>xe ?_;have h8:sW J w8:=hw.Q h7 gk;have kq:=S.size;refine Ql<|Qs O ((gi.J S kh).I h8) O O<|Qs O gl O O<|Qw<|(Qn4 ((hq.al.st S).I h8) hI.2.2.1).S ?_;rintro m1 w8 ⟨rfl,rfl⟩;refine xii ((kg.st S).I h8) O O hix λm2 gm=>?_;rw[hy]at gm;refine x (Qq gm O)<|Q7 O<|Qo<|Qv (u:=sS y) gl O O (by simp[Qp]) rfl λw9 h9 kr=>xe ?_;have kt:QK ↑w9 b11 179 (Qp (e.1,y,e.2.2)):=kr;have hA:sW J w9:=h8.Q h9 gk;have gn:=hr.I hA;have n9v:E∉ob vr:=QJ T gh;have m3:=hA.size;refine Qr<|Qs O gn O O<|Q3 kt O O<|Qo<|Q2 [Qp (e.1,y,e.2.2)] λm4 m5 hC m6 ku=>?_;refine Qo<|QZ (m:=1) (news:=Qp (e.1,y,e.2.2)) (L:=[]) (Qm (Qm T hA) hC) O O O (ku.at od) (by simp[Qp,Value.oneCell']) oa (oo hC.size) λgo m7 hJ gq m8=>?_;refine Q7 O<|Qo<|Qv (u:=go) ((gn.I hC).J gq n9v) O O od (QA hJ) λm9 gr kv=>xe ?_;refine Qr<|QB O O<|Qa<|xe<|⟨(k+1,go),oe,La,I,(((S.D hA.any).D hC.any).O gq (λb hb=>.inr ((Qi T) b hb).1)).V gr,kv,?_⟩;simp only[];rw[hu,LD];simpa using(Qg hJ gr (λb hb=>by have:=(Qi hJ b hb).1;simp only[oF];omega))
 rintro vr g J ⟨S,hr,T⟩;have n9r:E∉ob vr:=QJ T gh;have kq:=S.size;have gs:=Qi T;refine Qc<|Qs O hr O O<|Qw<|(jU T oa kj).S ?_;rintro r7 w7 ⟨hw,l',hp,kw,kx⟩;have kz:=gz l' hp kw;subst kz;refine xe ?_;have k0:∀b∈E::ob vr,b∈[E]\/↑G<=b:=λb hb=>by
  rcases Ln.1 hb with rfl|hb
  ·exact .inl Ll
  exact .inr (gs b hb).1
 have gt:∀{v:O0} {l:LI},Qu [E] ↑G v l->Qu [] ↑w7 v l:=λhv=>(((hv.up k0).st (S.S od)).st (hw.S (λb hb=>Lj _ hb))).up (λb hb=>by cases hb);have k4:Uq [] ↑w7 vr l':=QM kx (oo hp.length_eq) od;have k5:Zp [] ↑w7 vs vm vr ⟨sa,a.st,a.mr,l'⟩:=⟨gt (kf [E] (λb hb=>.inr (Lb.1 hb))),gt hq.mr,k4⟩;have hK:sW w' w7:=(ha.Q S hg).O hw (λb hb=>.inr (oo (gs b hb).1));have pc:=hK.size;refine Qc<|Q3 (hr.J hw n9r) O O<|Qw<|(Kk k5 hok).S ?_;rintro v w8 ⟨h7,hF⟩;obtain⟨us,gu,gv,k6⟩:=Xy hF;refine Qo<|ZJ (us:=us) (((hQ.I hz).I hK).I h7) O gu gv O k6 λw9 h9 hG=>Qb ?_;have gx:=hE.D hK;refine Qk ⟨[sT us,sS 0],⟨⟨_,O,Z4 gv (hG.at (L:=[]) od).cells⟩,rfl,Z⟩,(gx.D h7).Q h9 oa,v,by rw[gu];rfl,?_⟩;exact(XQ hF oa h9).S (oo gx.size)
theorem Qni {motive:LI->Prop}(nil:motive [])(append_singleton:∀u v,motive u->motive (u++[v]))(u:LI):motive u:=by
 have key:∀r:LI,motive r.reverse:=by
  intro r;induction r with
  | nil=>exact nil
  | cons v r ih=>rw[List.reverse_cons];exact append_singleton _ _ ih
 have:=key u.reverse;rw[List.reverse_reverse]at this;exact this
def enc (u:LI):Int:=u.foldl (λn e=>n*33+(e+1)) 0
theorem KQ (u:LI)(v:Int):enc (u++[v])=enc u*33+(v+1):=by unfold enc;rw[Mh];rfl
def Qgq (u:LI):Prop:=∀e∈u,0<=e/\e<32
theorem Qgq.snoc {v:Int}(h:Qgq (u++[v])):Qgq u/\0<=v/\v<32:=⟨λe E=>h e (LM _ E),h v od⟩
theorem Qof (h:Qgq u):0<=enc u:=by
 induction u using Qni with
 | nil=>exact Mx _
 | append_singleton u v ih=>rw[KQ];have:=ih h.snoc.1;have:=h.snoc.2;omega
def rn (a:QD)(x:Int)(u:LI):Int:=u.foldl (λs v=>xd a.ed s v) x
theorem QkJ (a:QD)(x:Int)(u:LI)(v:Int):rn a x (u++[v])=xd a.ed (rn a x u) v:=by unfold rn;rw[Mh];rfl
structure Fw where
 u:LI
 s:Int
def U3:Fw:=⟨[],0⟩
def wdN (e:Fw)(d:Ed):Fw:=⟨e.u++[d.2.1],d.2.2⟩
def wdR (a:QD)(e:Fw):List Fw:=(QO a.ed e.s).map (wdN e)
def wdL (a:QD)(most:Nat):Nat->Nat->List Fw->Option (List Fw)
 | 0,_,L=>some L
 | f+1,i,L=>if i<L.length then(if(L.getD i U3).u.length=most then some L else if 1024<(L++wdR a (L.getD i U3)).length then none else wdL a most f (i+1) (L++wdR a (L.getD i U3))) else some L
def wds (a:QD)(most:Nat):Option (List Fw):=wdL a most 1025 0 [U3]
structure WdI (a:QD)(most i:Nat)(L:List Fw):Prop where
 ne:0<L.length
 le:i<=L.length
 mx:L.length<=1024
 rx:∀e∈L,e.s=rn a 0 e.u/\0<=e.s/\e.s<a.st/\(∀v∈e.u,v∈a.al)/\e.u.length<=most
 so:L.Pairwise λp q=>enc p.u<enc q.u
 hd:(L.getD 0 U3).u=[]
 pr:∀e∈L,e.u=[]\/∃j v,j<i/\e.u=(L.getD j U3).u++[v]
 ch:∀j v,j<i->0<=xd a.ed (L.getD j U3).s v->∃e∈L,e.u=(L.getD j U3).u++[v]
theorem QiU {L:List Fw}(h:i<L.length):L.getD i U3∈L:=by simp[oO,h]
theorem QiV {L r:List Fw}(h:i<L.length):(L++r).getD i U3=L.getD i U3:=by simp[oO,Oa h]
theorem WdI.J (T:Q8 a){most:Nat}{L:List Fw}(h:WdI a most i L)(hi:i<L.length)(hl:(L.getD i U3).u.length≠most)(hm:¬1024<(L++wdR a (L.getD i U3)).length):WdI a most (i+1) (L++wdR a (L.getD i U3)):=by
 have V:Qgq a.al:=T.al;have hSm:∀e∈L,Qgq e.u:=λe E u I=>V u ((h.rx e E).2.2.2.1 u I);have hf:=QiU hi;obtain⟨r1,r2,r3,r4,r5⟩:=h.rx _ hf;generalize Y:L.getD i U3=ei at *;have ha:∀e∈wdR a ei,∃d∈QO a.ed ei.s,e=wdN ei d/\d.2.1∈a.al/\0<=d.2.2/\d.2.2<a.st/\xd a.ed ei.s d.2.1=d.2.2:=λe E=>by
  unfold wdR at E;obtain⟨d,hd,rfl⟩:=Ly.1 E;obtain⟨hg,ht⟩:=ZD hd;have hc:=T.ed d hg;refine⟨d,hd,O,hc.2.2.1,hc.2.2.2.1,hc.2.2.2.2,?_⟩;rw[Qey];obtain⟨k,hk,rfl⟩:=LP hd;refine Qdd _ ei.s _ k hk (λe E=>(ZD E).2) O (λm hh e=>?_);have J:(QO a.ed ei.s).Pairwise λx y:Ed=>x.1<y.1\/(x.1=y.1/\x.2.1<y.2.1):=List.Pairwise.sublist MT T.edi;have:=Mg.1 J m k oa hk hh;have e1:=(ZD (Lk (l:=QO a.ed ei.s) (show m<(QO a.ed ei.s).length by omega))).2;have e2:=(ZD (Lk hk)).2;omega
 have hw:=Qof (hSm _ hf);have hr:∀e∈L,∀v,v∈a.al->enc e.u<enc (ei.u++[v]):=λe E v hv=>by
  have hz:=V v hv;rw[KQ];rcases h.pr e E with G|⟨j,u,S,G⟩
  ·rw[G];show(0:Int)<_;omega
  rw[G,KQ];have h0:enc (L.getD j U3).u<enc ei.u:=by
   have:=Mg.1 h.so j i oa hi S;rw[<-Y];simpa[oO,show j<L.length by omega,hi]using this
  have h5:u<32:=by
   have:=(h.rx e E).2.2.2.1 u (by rw[G];simp);exact(V u this).2
  omega
 have keepD:∀r:List Fw,∀j,j<L.length->(L++r).getD j U3=L.getD j U3:=λr j S=>QiV S;refine⟨by simp;have:=h.ne;omega,by simp;omega,oa,λe E=>?_,?_,by rw[keepD _ 0 h.ne];exact h.hd,λe E=>?_,λj v S U=>?_⟩
 ·rcases Le.1 E with E|E
  ·exact h.rx e E
  obtain⟨d,_,rfl,G,h2,h3,h4⟩:=ha e E;refine⟨?_,h2,h3,λu I=>?_,?_⟩
  ·show d.2.2=rn a 0 (ei.u++[d.2.1]);rw[QkJ,<-r1,h4]
  ·rcases Le.1 (show u∈ei.u++[d.2.1] from I) with I|I
   ·exact r4 u I
   simp only[oF]at I;subst I;exact G
  show(ei.u++[d.2.1]).length<=most;rw[Lc,Lu];omega
 ·rw[Me];refine⟨h.so,?_,λp J q hq=>?_⟩
  ·unfold wdR;rw[L8];have J:(QO a.ed ei.s).Pairwise λx y:Ed=>x.1<y.1\/(x.1=y.1/\x.2.1<y.2.1):=List.Pairwise.sublist MT T.edi;refine List.Pairwise.imp_of_mem (λ{x y} hx hy h6=>?_) J;have e1:=(ZD hx).2;have e2:=(ZD hy).2;show enc (ei.u++[x.2.1])<enc (ei.u++[y.2.1]);rw[KQ,KQ];omega
  obtain⟨d,_,rfl,G,_⟩:=ha q hq;exact hr p J _ G
 ·rcases Le.1 E with E|E
  ·rcases h.pr e E with G|⟨j,u,S,G⟩
   ·exact .inl G
   exact .inr ⟨j,u,oa,by rw[keepD _ j oa];exact G⟩
  obtain⟨d,_,rfl,_⟩:=ha e E;exact .inr ⟨i,d.2.1,oa,by rw[keepD _ i hi,Y];rfl⟩
 rw[keepD _ j oa]at U ⊢;by_cases e:j=i
 ·subst e;rw[Y]at U ⊢;refine⟨wdN ei (ei.s,v,xd a.ed ei.s v),Nd _ ?_,O⟩;unfold wdR;exact LG (by unfold QO;exact LW.2 ⟨(Qai U),od⟩)
 obtain⟨e',hs,G⟩:=h.ch j v oa U;exact⟨e',LM _ hs,G⟩
theorem Qpc (G:0<a.st)(most:Nat):WdI a most 0 [U3]:=by
 refine⟨od,Nat.zero_le _,od,λe E=>?_,od,by simp[oO,U3],λe E=>?_,λj v I=>oa⟩
 ·simp only[oF]at E;subst E;exact⟨O,Mx _,G,by simp[U3],by simp[U3]⟩
 simp only[oF]at E;subst E;exact .inl O
theorem qh {e:Nat}{bys:Nat}[h:Sl P t e sz bys z]{v:O0}(E:w.ownsRow base e sz v n cs)
  {a:Addr} {c:Nat} {news:LV} (hl:news.length=m*sz) (U:∀j u,news[j]?=some u->w.cell? (a.add j)=some u) (h1:∀u∈news,u.oneCell'=true)
  (hb:n+m<=1099511627776) (hs:bys<=128) (he:base<=↑w):
  ∃v' w',(Builtin.append_ #[t,t] ty #[v,.slice (some a) m c]).run P w=.ok v' w'/\w'.ownsRow base e sz v' (n+m) (cs++news)/\O3 (ob v) w w'/\(∀b∈ob v',b∈ob v\/↑w<=b)/\w'.ownsRow base e sz v n cs:=by
 obtain⟨i,hi,Y,J,ha⟩:=Sl.info h;have hc:(n+m)*bys<=140737488355328:=Lx (NF hb hs) oa;have hf:n+m<=maxLen:=by simp only[maxLen];omega
 by_cases hg:∃g cap cur,v=sL g n cap/\w.heap[g]?=some (.cells cur e (0,0))/\n+m<=cap
 ·obtain⟨v',w',T,ho,ht,_⟩:=run_append_own (P:=P) w base t ty e i z sz bys h.u hi Y J ha h.zs h.pos v n cs E a m c news hl U h1 hf hc he;have hu:O3 (ob v) w w':=by rw[Qaf];exact O3.of_grown ht
  refine⟨v',w',T,ho,hu,?_⟩;obtain⟨g,cap,cur,rfl,hh,S⟩:=hg;rcases E.2 with⟨h2,_⟩|⟨g2,cap2,hj,h2,h3,h4,h5,h6,h7,h8⟩
  ·cases h2
  cases h2
  have hv:n*i.size+news.length<=hj.size:=by rw[hl,h7,J,<-Mw];exact MN _ S
  rw[(run_append_room (P:=P) w t ty e i h.u hi g n cap hj h4 a m c news (by rw[J];exact hl) U h1 S hv)]at T;cases T
  refine⟨λb I=>.inl I,E.1,?_⟩;have hB:=E.1;rcases ho.2 with⟨e1,_⟩|⟨g3,cap3,cur3,e1,k3,k4,k5,k6,k7,k8⟩
  ·cases e1
  cases e1
  refine .inr ⟨g,cap,cur3,O,k3,k4,h5,k6,k7,?_⟩;have:=OT (List.take (n*sz)) k8;rw[List.take_take,MX (MN _ (Nat.le_add_right n m)),List.take_append_of_le_length oa,Lq (l:=cs) oa]at this;exact this
 have new:∀(old:Nat),old<n+m->∀G,G=(Obj.cells (cs.toArray++news.toArray++Builtin.zeroCells z.cells (grownCap w (n+m) old e - (n+m))) e) ->
   (w.drew.alloc G).ownsRow base e sz (.slice (some ⟨↑w,0,none⟩) (n+m) (grownCap w (n+m) old e)) (n+m) (cs++news):=by
  intro old ho G hw;subst hw;have hge:=grownCap_ge w (n+m) old e;have hp:grownCap w (n+m) old e<=maxLen:=grownCap_le_maxLen w (n+m) old e hf;have hq:(cs++news).length=(n+m)*sz:=by rw[Lc,E.1,hl,Mw]
  refine⟨hq,.inr ⟨↑w,_,_,O,he,KS w.drew _,hge,hp,?_,?_⟩⟩
  ·simp only[Array.size_append,Od,size_zeroCells,h.zs,E.1,hl,<-On];congr 1;omega
  simp only[Array.toList_append,Of];rw[<-LC,<-hq];exact List.take_left
 have stp:∀G,O3 (ob v) w (w.drew.alloc G):=λG=>⟨O,O,O,by rw[qP];exact Nat.le_succ _,λk hk _=>QaP w.drew G k hk⟩;have hy:∀G,sW w (w.drew.alloc G):=λG=>⟨O,O,O,by rw[qP];exact Nat.le_succ _,λk hk _=>QaP w.drew G k hk⟩;have fin:∀(b:Nat),b∈ob (.slice (some ⟨↑w,0,none⟩) (n+m) 0)->b∈ob v\/↑w<=b:=λb I=>by simp[ob]at I;omega
 rcases E.2 with⟨rfl,rfl⟩|⟨g,cap,cur,rfl,hC,hh,hD,hp,hE,hF⟩
 ·have hx:cs=[]:=Ls (ou E.1);subst hx;by_cases hm:m=0
  ·subst hm;have V:news=[]:=Ls (ou hl);subst V;refine⟨nS,w,?_,QL _ _ _ _,O3.Y _ _,λb I=>by simp[ob]at I,QL _ _ _ _⟩;simp[Builtin.append_,run_underlying h.u,sizeOf,typeInfo,hi,Builtin.lenOf,Builtin.firstCells,loadCells,loadCellsFrom]
  have T:=run_append_nil (P:=P) w t ty e i z h.u hi Y a m c news (by rw[J];exact hl) U oa oa (by rw[ha];have h0:=hc;simp only[oX]at h0;omega);have V:=new 0 oa _ O;simp only[oX,Ok,Array.empty_append]at V ⊢;exact⟨_,_,T,V,stp _,λb I=>fin b I,QL _ _ _ _⟩
 have S:cap<n+m:=by
  rcases OK cap (n+m) with h9|hge
  ·exact h9
  exact OU ⟨g,cap,cur,O,hh,hge⟩ hg
 have hA:∀j u,cs[j]?=some u->w.cell? ((⟨g,0,none⟩:Addr).add j)=some u:=E.cells (g:=g) O;exact⟨_,_,(run_append_grow (P:=P) w t ty e i z h.u hi Y ⟨g,0,none⟩ n cap cs (by rw[J];exact E.1) hA a m c news (by rw[J];exact hl) U S oa (growslice_fits S (by rw[ha];exact hc))),new cap S _ O,stp _,λb I=>fin b I,Qm E (hy _)⟩
theorem QhQ {e bys:Nat}[h:Sl P t e sz bys z]{s:O1}{v:O0}(E:w.ownsRow base e sz v n cs)(G:ev f s=v)
  {a:Addr} {c:Nat} {news:LV} (I:ev f y=.slice (some a) m c) (hl:news.length=m*sz)  (J:At L ↑w a news) (S:∀u∈news,u.oneCell'=true)
  (hb:n+m<=1099511627776) (T:base<=↑w)
  (hK:∀v' w',w'.ownsRow base e sz v' (n+m) (cs++news)->O3 (ob v) w w'->(∀b∈ob v',b∈ob v\/↑w<=b)->w'.ownsRow base e sz v n cs->K (QN f d v') w') (U:bys<=128:=by decide):
  XO P ⟨d,.call ⟨.builtin .append,#[s,y],#[t,t]⟩,ty,pS,af,gd⟩ f w K:=by
 obtain⟨v',w',V,Y,h3,h4,h5⟩:=qh (P:=P) (t:=t) (ty:=ty) E hl J.cells S hb U T (c:=c);have ha:(execOp (ev f) ⟨d,.call ⟨.builtin .append,#[s,y],#[t,t]⟩,ty,pS,af,gd⟩).run P w=.ok (.value v') w':=by
  simp[execOp,resolve,invoke,builtin,G,I,V]
 exact xv ha (hK v' w' Y h3 h4 h5)
section
variable {C:xx}{pl:xq}{i0:Nat}
theorem QqS {g:α->LV}{x:O1}{e bys:Nat}[Sl P t e sz bys z](G:QR ops i0=⟨d,.indexAddr t x y,ty,pS,af,gd⟩)(S:∀x,(g x).length=sz){es:List α}{v:O0}{I:OZ}{k:IntKind}
  (h:∀w',C w'->Zs L ↑w' v es.length sz (es.flatMap g)) (T:C I) (U:ev f x=v) (V:ev f y=.int k i) (hi:i<es.length)
  (hK:∀a,(∀w',C w'->At L ↑w' a (g es[i]))->XP P ops C K pl (QN f d (.pointer (some a))) w) (Y:Z1 ops f (QR ops i0)=true:=by rfl):
  XP P ops C K ((i0,true)::pl) f w:=by
 obtain⟨a,cap,E,_⟩:=Zs.at (h I T) hi;refine Lg.p (λw'=>by rw[G];exact XC (U.D E) V oa oa) ?_ Y;rw[G];refine hK _ λw' hc=>?_;obtain⟨a',cap',ha,J⟩:=Zs.at (h w' hc) hi;rw[ha]at E;cases E
 rw[X5 g sz S es i hi]at J;simpa using J
end
theorem QpX (b:Bool):b=true\/b=false:=by cases b;exact .inr O;exact .inl O
structure FV where
 v:O0
 f:Fw
abbrev Yg (p:FV):LV:=[p.v,sS p.f.s]
theorem Qay (p:FV):(Yg p).length=2:=rfl
structure WdM (wB:OZ)(vL:O0)(es:List FV)(w:OZ):Prop where
 st:sW wB w
 l:w.ownsRow ↑wB 382 2 vL es.length (es.flatMap Yg)
 each:∀p∈es,Qu (ob vL) ↑w p.v p.f.u
theorem WdM.I {wB w w':OZ}{vL:O0}{es:List FV}(h:WdM wB vL es w)(E:sW w w'):WdM wB vL es w':=⟨h.st.D E,Qm h.l E,λp G=>(h.each p G).I E⟩
theorem WdM.add {wB:OZ}{vL vL':O0}{es:List FV}{p:FV}(h:WdM wB vL es w)(G:O3 (ob vL) w w')(hl:w'.ownsRow ↑wB 382 2 vL' (es.length+1) (es.flatMap Yg++Yg p))(I:∀b∈ob vL',b∈ob vL\/↑w<=b)(J:Qu (ob vL) ↑w p.v p.f.u):WdM wB vL' (es++[p]) w':=by
 refine⟨h.st.O G (λb hb=>.inr (Qi h.l b hb).1),by rw[Lc,LD];simpa using hl,λq E=>?_⟩;rcases Le.1 E with E|E
 ·exact(h.each q E).grow G (λb hb=>hb) I
 simp only[oF]at E;subst E;exact J.grow G (λb hb=>hb) I
theorem QiM {es:List FV}(h:i<es.length):(es.map (·.f)).getD i U3=(es[i]'h).f:=by simp[oO,h]
theorem Qk0 (E:Q8 a)(s:Int):(QO a.ed s).length<=32:=by
 have G:(QO a.ed s).Pairwise λx y:Ed=>x.1<y.1\/(x.1=y.1/\x.2.1<y.2.1):=List.Pairwise.sublist MT E.edi;have hi:Yw ((QO a.ed s).map λe=>e.2.1):=by
  unfold Yw;rw[L8];refine List.Pairwise.imp_of_mem (λ{x y} hx I T=>?_) G;have e1:=(ZD hx).2;have e2:=(ZD I).2;omega
 have:=Xr _ 0 32 hi (λv J=>by
  obtain⟨e,S,rfl⟩:=Ly.1 J;exact E.al _ (E.ed e (ZD S).1).2.2.1)
 rw[Lm]at this;omega
def QgF (a:QD)(most:Nat)(mk:Bool):Option (List (LI)):=if a.st=0 then some []else(wds a most).map λL=>(L.filter λf=>!mk || decide (f.s∈a.mr)).map (·.u)
def Qp4 (o:Option (List (LI)))(r:O0)(H:xz):Prop:=(o=none/\r=.tuple #[Zo,sS 3])\/∃l v ps,o=some l/\r=.tuple #[v,sS 0]/\Ju [] H v ps/\ps.map (·.2)=l
theorem Qgn (h:Zp [] ↑w va vm ve a)(hck:XX a=0)(ho:Q8 a)(most:Nat)(z0:most<=4096)(mk:Bool):
  QS sV 249 [.agg #[va,sS a.st,vm,ve],sS most,.bool mk] w λr w'=>sW w w'/\Qp4 (QgF a most mk) r ↑w':=by
 have z2:=ho.st0;have z3:=ho.st1;refine Zl func249 ?_;refine Qc<|Zc [va,sS a.st,vm,ve] λb3 w1 g2 z4 g3=>x Qd<|Qb<|Qe<|Qc<|Q3 g3 O O<|Qw<|(YV (h.I g2)).S ?_;rintro r2 w2 ⟨g5,g7⟩;rw[hck]at g5;subst g5;have J:=g2.D g7;refine Qb<|Ql<|ZL O O<|xe<|Zz rfl<|Qf<|Qe<|Ql<|xb (Ys O O) (λg8=>OU (show(most:Int)<0 from g8) oa) (λg8=>?_);refine Qa<|Qa<|x (Z5 O O)<|Qz O<|xe<|Zh rfl (λg9=>OU (show(most:Int) > 4096 from g9) oa) (λg9=>?_);refine Qf ?_;have hN:=g3.I g7;refine Qe<|Qc<|Qs O hN O O<|x (Zd O O)<|xe<|Zh rfl (λhO=>?_) (λhO=>?_)
 ·refine Qc<|x Qd<|Qb<|Qk ⟨[Zo,sS 0],ov,J,.inr ⟨[],Zo,[],by unfold QgF;rw[OS hO],rfl,⟨Zs.nil _ _ _,λp E=>by cases E⟩,rfl⟩⟩
 have ms:0<a.st:=by have z5:¬a.st=0:=hO;omega
 have hW:QgF a most mk=(wds a most).map λL=>(L.filter λf=>!mk || decide (f.s∈a.mr)).map (·.u):=by unfold QgF;rw[OR oa]
 refine Zg (wds a most) λR hR=>?_;rw[hR]at hW;refine Qf<|Qc<|x (QC Z)<|Qo<|Q2 [Yg ⟨nS,U3⟩] λka w3 mt mu mv=>Qb ?_;have mw:WdM w2 (sL ka 1 1) [⟨nS,U3⟩] w3:=by
  refine⟨mt,mv.own (n:=1) O oa mu,λp E=>?_⟩;simp only[oF]at E;subst E;exact Zs.nil _ _ _
 have my:∀e∈a.ed,0<=e.1/\e.1<=1099511627776:=λe he=>oo (ho.ed e he)
 refine QW (α:=O0×List FV) [(6,7),(9,10),(12,12),(32,77)] (λz=>[(9,z.1)]) (λz w'=>WdM w2 z.1 z.2 w'/\R=some (z.2.map (·.f))/\z.2.length<=1024) oh ?_ ?_
 ·refine Qc<|Qb<|QX (α:=Nat×O0×List FV) [(6,7),(9,10),(12,12),(32,77)] (λz=>[(9,z.2.1),(10,sS z.1)])
   (λz w'=>z.1<=1025/\WdM w2 z.2.1 z.2.2 w'/\WdI a most z.1 (z.2.2.map (·.f))/\wdL a most (1025 - z.1) z.1 (z.2.2.map (·.f))=R) (λz=>1025 - z.1) (0,sL ka 1 1,[⟨nS,U3⟩]) ov
   ⟨Lo _,mw,Qpc ms most,hR⟩ ?_
  rintro⟨i,vL,es⟩ g4 w4 ⟨mz,hg,h5,G⟩;simp only[]at mz hg h5 G;have hP:=h5.mx;have m0:=h5.le;rw[Lm]at hP m0;have hw:Zs [] ↑w4 vL es.length 2 (es.flatMap Yg):=QM hg.l oa (λb _=>od);refine Qe<|Ql<|Qa<|QG hw O<|ZP O O<|xe<|Zn O (λhQ=>?_) (λhQ=>?_)
  ·refine Qt ?_;have m1:¬i<(es.map (·.f)).length:=by rw[Lm];have m2:¬(i:Int)<(es.length:Int):=hQ;omega
   refine⟨(vL,es),La,hg,?_,hP⟩;rw[<-G];generalize 1025 - i=f;cases f with
   | zero=>rfl
   | succ f=>rw[wdL,OR m1]
  have hi:i<es.length:=by have m2:(i:Int)<(es.length:Int):=hQ;omega
  rw[show 1025 - i=(1025 - (i+1))+1 by omega,wdL,OS (by rw[Lm];exact hi),QiM hi]at G;have kb:=hg.each _ (Lk hi);have hS:=h5.rx _ (LG (f:=λq:FV=>q.f) (Lk hi));have hU:=λhl hm=>h5.J ho (by rw[Lm];exact hi) hl hm;rw[QiM hi]at hU;refine Zg (es[i]'hi) λei hF=>?_;rw[hF]at G kb hS hU;have kc:=hg.st;refine Qf<|Qe<|Qn<|Qe<|Ql<|Qa<|O6 (g:=Yg) (i:=i) Qay hw O O hi λa40 ke=>?_;rw[hF]at ke;refine x (ZE O)<|x (Qq (ke.fld 0 _ O) O)<|QG (kb.up (L':=[]) (λb hb=>by cases hb)) rfl<|Qa<|x (Zd rfl rfl)<|xe<|Zh O (λhV=>?_) (λhV=>?_)
  ·refine Qt ?_;have hG:ei.f.u.length=most:=by have m3:(ei.f.u.length:Int)=(most:Int):=hV;omega
   rw[OS hG]at G;exact⟨(vL,es),La,hg,G.symm,hP⟩
  have hG:ei.f.u.length≠most:=by have m3:¬(ei.f.u.length:Int)=(most:Int):=hV;omega
  rw[OR hG]at G;have hX:=hU hG;refine Qf ?_;have m4:Zp (ob vL) ↑w4 va vm ve a:=((h.I J).up (L':=ob vL) (λb hb=>.inr (Qi hg.l b hb).1)).I kc;have m5:=Qk0 ho ei.f.s;have hout:=Qad (va:=va) (vm:=vm) (st:=a.st) (m4.ed.I (O3.X [] w4)) ho.eds my ei.f.s hS.2.1 oa;refine Zg (QO a.ed ei.f.s) λos kf=>?_;rw[kf]at m5 hout;have m6:wdR a ei.f=os.map (wdN ei.f):=by unfold wdR;rw[kf]
  rw[m6]at G hX;refine Qe<|Qe<|ZH [] [oz 0,oz 1,oz 2,oz 3,oz 4,oz 5,oz 8,oA 6,oz 7]<|pq (λ_ S=>Zb ((hN.I kc).I S) O O)<|p Qx<|p Qx<|Lg.pig (g:=Yg) (i:=i) O Qay hw O O hi λa49 kg=>?_;rw[hF]at kg;refine p (λ_=>ZE O)<|pq (λ_ S=>Qq ((kg.fld 1 _ O).I S) O)<|p Qx<|pk<|xg<|hout.S ?_;rintro ro w5 ⟨m7,kh⟩;have ki:=(O3.X [] w4).D m7;refine⟨ki,?_⟩;refine p (λ_=>YR kh O)<|pe ?_;refine Zg (es.map (·.f)++os.map (wdN ei.f)) λL1 kj=>?_;rw[kj]at G hX;refine QX (α:=Nat×O0×List FV) [(9,9),(12,12),(54,74)] (λz=>[(9,z.2.1),(54,sS z.1)])
   (λz w'=>z.1<=os.length/\WdM w2 z.2.1 z.2.2 w'/\Uq (ob z.2.1) ↑w' ro os/\z.2.2.length=es.length+z.1/\(∃h:i<z.2.2.length,z.2.2[i]'h=ei)/\z.2.2.map (·.f)++(os.drop z.1).map (wdN ei.f)=L1) (λz=>os.length - z.1) (0,vL,es) ov
   ⟨Lo _,(hg.I ki),kh,O,⟨hi,hF⟩,kj⟩ ?_
  rintro⟨k,vL2,fs⟩ g6 w6 ⟨hk,hn,hY,m8,kk,hh⟩;simp only[]at hk hn hY m8 kk hh;refine Zi O O (λhZ=>?_) (λhZ=>?_)
  ·refine Qt ?_;have ga:os.length<=k:=by have hH:¬(k:Int)<(os.length:Int):=hZ;omega
   rw[Lr ga,Nm,LF]at hh;have m9:Zs [] ↑w6 vL2 fs.length 2 (fs.flatMap Yg):=QM hn.l oa (λb _=>od);have hl1:L1.length=fs.length:=by rw[<-hh,Lm]
   refine Ql<|QG m9 O<|x (Z5 O O)<|xe<|Zh O (λgb=>?_) (λgb=>?_)
   ·have hI:1024<L1.length:=by have pc:(fs.length:Int) > 1024:=gb;omega
    rw[OS hI]at G;refine Qc<|x Qd<|Qb<|Qk ⟨[Zo,sS 3],ov,J.D hn.st,.inl ⟨by rw[hW,<-G];rfl,O⟩⟩
   have hI:¬1024<L1.length:=by have pc:¬(fs.length:Int) > 1024:=gb;omega
   rw[OR hI,<-hh]at G;have kn:=hX hI;rw[<-hh]at kn;refine Qf<|Qr<|Qa<|QB O O<|Qb<|⟨(i+1,vL2,fs),oe,ov,oe,hn,kn,G⟩
  have T:k<os.length:=by have hH:(k:Int)<(os.length:Int):=hZ;omega
  rw[QY T,LU]at hh;refine Zg (os[k]'T) λd hd=>?_;rw[hd]at hh;refine Qf<|Exists.elim kk λgc ge=>?_;have ko:=hn.each _ (Lk gc);rw[ge]at ko;refine QW (α:=O0×O0) [(9,9),(12,12),(56,73)] (λz=>[(9,z.1)]) (λz w'=>WdM w2 z.1 (fs++[⟨z.2,wdN ei.f d⟩]) w'/\Uq (ob z.1) ↑w' ro os) oh ?_ ?_
  ·refine Qn<|Qc<|xie (i:=k) hY O O T λa56 hH=>?_;rw[hd]at hH;refine x (QF hH O O)<|QT [sS 0,sS 0,sS 0] λkq w7 pd pf pg=>Q5 (Qp d) pg ox λI ph kr=>xe ?_;have gg:sW w6 I:=pd.Q ph pf;have h6:=hn.I gg;have kt:=hY.I gg;have pj:=ko.I gg;have ku:=pj.up (L':=[]) (λb hb=>by cases hb);have h0:sW I { I with drawn:=I.drawn+1 }:=O3.X [] I
   have hz0:=h0.size;have kv:=hS.2.2.2.2;have V:∀w',sW I w'->O3 (ob vL2) I w'/\w'.ownsRow ↑w2 382 2 vL2 fs.length (fs.flatMap Yg):=λw' hs=>⟨hs.S od,Qm h6.l hs⟩;have kw:kq∉ob vL2:=λhb=>oo (QU hn.l kq hb)
   refine Qff (λw'=>O3 (ob vL2) I w'/\w'.ownsRow ↑w2 382 2 vL2 fs.length (fs.flatMap Yg)) (.f2 [oz 0,oz 1,oz 2,oz 3,oz 4,oz 5,oz 7,oz 8,oz 11,oz 12] 6 9 (.pl [oA 9,oA 10,oz 13,oA 14,oA 15,oz 16]) (.pl [oA 6,oA 10,oz 13,oA 14,oA 15,oz 16])) mixed oh oc (V _ h0) ?_;refine u2<|p Qx<|p Qx<|p Qx<|QqS (g:=Yg) (i:=i) (L:=[]) O Qay (λw' S=>QM S.2 oa (λb _=>od)) (V _ h0) rfl rfl gc λa61 kx=>?_;rw[ge]at kx;refine p (λ_=>ZE O)<|pq (λw' S=>Qq ((kx w' S).fld 0 _ O) O)<|p (QH O)<|pq (λ_ S=>Qj (kr.J S.1 kw) O O)<|p (QH O)<|pq (λ_ S=>Qj (kr.J S.1 kw) O O)<|pe ⟨?_,?_⟩
   ·refine ue<|xg<|(ZT (ku.I h0)).S ?_;rintro vk w9 ⟨h7,hok⟩;have h2:=h0.D h7;have pn:=h7.size;have po:=Qi hok;refine⟨V _ h2,?_⟩;refine uP<|pk<|Q2 [[sS d.2.1]] λbl pp hq pt gh=>?_;have h8:=h2.D hq;have pu:=hq.size;refine⟨V _ h8,?_⟩;refine pk<|QZ (news:=[sS d.2.1]) (L:=[]) (Qm hok hq) O O O (gh.at od) om oa oa λU gi gj gk pw=>?_;have h9:sW I gi:=h8.O gk (λb hb=>.inr (oo (po b hb).1));have hr:=Qh.snoc (Q9 gj (show ↑I<=_ by omega));refine⟨V _ h9,?_⟩;have gl:=(Qh.ints (L:=[]) hr (by simp;omega) od).one;have gm:=(Qh.ints (L:=[]) hr (by simp;omega) od).cells;refine p (λ_=>QC ⟨gm,O,Z⟩)<|pk<|Q2 [Yg ⟨U,wdN ei.f d⟩] λbm gn J pz hA=>?_;have ha:=h9.D J;refine⟨V _ ha,?_⟩;have ht:=h6.I ha;have go:=ht.st.size;refine pk<|QhQ (news:=Yg ⟨U,wdN ei.f d⟩) (L:=[]) (m:=1) ht.l O O O (hA.at od) (by intro u hu;simp only[oK,oH,or_false]at hu;rcases hu with rfl|rfl;exact gl;rfl) oa go λvz p0 gq hv hB gr=>⟨⟨(ha.S od).V hv,gr⟩,p ZA<|pe ?_⟩
    have gs:Qu (ob vL2) ↑gn U (wdN ei.f d).u:=Qh.ints (Qm hr J) (by show(ei.f.u++[d.2.1]).length<=_;rw[Lc,Lu];omega) (λb hb=>QU h6.l b hb);exact⟨(vz,U),La,ht.add hv gq hB gs,(kt.I ha).grow hv (λb hb=>hb) hB⟩
   refine ue<|Q2 [[sS d.2.1]] λbl w9 h7 pt gh=>?_;have h2:=h0.D h7;have pn:=h7.size;refine⟨V _ h2,?_⟩;refine uP<|pk<|xg<|(ZT (ku.I h2)).S ?_;rintro vk pp ⟨hq,hok⟩;have h8:=h2.D hq;have pu:=hq.size;refine⟨V _ h8,?_⟩;refine pk<|QZ (news:=[sS d.2.1]) (L:=[]) hok O O O ((gh.I hq).at od) om oa oa λU gi gj gk pw=>?_;have h9:sW I gi:=h8.O gk (λb hb=>.inr (oo ((Qi hok) b hb).1));have hr:=Qh.snoc (Q9 gj (show ↑I<=_ by omega));refine⟨V _ h9,?_⟩;have gl:=(Qh.ints (L:=[]) hr (by simp;omega) od).one;have gm:=(Qh.ints (L:=[]) hr (by simp;omega) od).cells;refine p (λ_=>QC ⟨gm,O,Z⟩)<|pk<|Q2 [Yg ⟨U,wdN ei.f d⟩] λbm gn J pz hA=>?_;have ha:=h9.D J;refine⟨V _ ha,?_⟩;have ht:=h6.I ha;have go:=ht.st.size;refine pk<|QhQ (news:=Yg ⟨U,wdN ei.f d⟩) (L:=[]) (m:=1) ht.l O O O (hA.at od) (by intro u hu;simp only[oK,oH,or_false]at hu;rcases hu with rfl|rfl;exact gl;rfl) oa go λvz p0 gq hv hB gr=>⟨⟨(ha.S od).V hv,gr⟩,p ZA<|pe ?_⟩
   have gs:Qu (ob vL2) ↑gn U (wdN ei.f d).u:=Qh.ints (Qm hr J) (by show(ei.f.u++[d.2.1]).length<=_;rw[Lc,Lu];omega) (λb hb=>QU h6.l b hb);exact⟨(vz,U),La,ht.add hv gq hB gs,(kt.I ha).grow hv (λb hb=>hb) hB⟩
  rintro⟨vz,U⟩ g14 w14 ⟨kz,k0⟩;simp only[]at kz k0;refine Qr<|QB O O<|Qa<|xe ?_;exact⟨(k+1,vz,fs++[⟨U,wdN ei.f d⟩]),oe,ov,T,kz,k0,by simp;omega,⟨by simp;omega,by simp only[];rw[Mq gc];exact ge⟩,by simp only[];rw[Lv,LC];exact hh⟩
 rintro⟨vL,es⟩ g20 hC ⟨h3,k4,p4⟩;simp only[]at h3 k4 p4;rw[k4]at hW;have p5:=J.D h3.st;have hw:Zs [] ↑hC vL es.length 2 (es.flatMap Yg):=QM h3.l oa (λb _=>od);refine Qc<|Qb<|Qe<|Ql<|QG hw O<|Qa<|xe<|QX (α:=Nat×O0×List TV) [(13,13),(15,15),(80,100)] (λz=>[(13,z.2.1),(80,sS z.1)])
  (λz w'=>z.1<=es.length/\sW hC w'/\qq 47 ↑hC w' z.2.1 z.2.2/\z.2.2.map (·.2)=((es.take z.1).filter λp=>!mk || decide (p.f.s∈a.mr)).map (λp=>p.f.u)/\∀p∈z.2.2,Qu (ob z.2.1) ↑w' p.1 p.2) (λz=>es.length - z.1) (0,nS,[]) ov
  ⟨Lo _,O3.Y _ _,QL _ _ _ _,O,λp E=>by cases E⟩ ?_
 rintro⟨k,vT,ps⟩ g21 k5 ⟨hk,hf,hT,hD,hJ⟩;simp only[]at hk hf hT hD hJ;have hpl:ps.length<=k:=by
  have h1:=OT oW hD;rw[Lm,Lm]at h1;rw[h1];refine Lx (LJ _ _) ?_;rw[LA];omega
 refine Zi rfl O (λgt=>?_) (λgt=>?_)
 ·refine Qt ?_;have ga:es.length<=k:=by have hK:¬(k:Int)<(es.length:Int):=gt;omega
  refine Ql<|x Qd<|Qb<|Qk ⟨[vT,sS 0],ov,p5.D hf,.inr ⟨_,vT,ps,hW,O,⟨QM hT oa (λb _=>od),λp E=>(hJ p E).up (λb hb=>by cases hb)⟩,?_⟩⟩;rw[hD,Lq ga];show _=((es.map (λp:FV=>p.f)).filter λf=>!mk || decide (f.s∈a.mr)).map (λx:Fw=>x.u);rw[List.filter_map,Mu];rfl
 have T:k<es.length:=by have hK:(k:Int)<(es.length:Int):=gt;omega
 have k6:=h3.each _ (Lk T);refine Zg (es[k]'T) λek gu=>?_;rw[gu]at k6;have k9:Qu (ob vT) ↑k5 ek.v ek.f.u:=((k6.up (L':=[]) (λb hb=>by cases hb)).up (λb hb=>.inr (Qi hT b hb).1)).I hf;refine Qf<|Qe<|Qn<|Qc<|O6 (g:=Yg) (i:=k) Qay (hw.I hf) O O T λa82 hK=>?_;rw[gu]at hK;refine x (QF hK O O)<|QT [nS,sS 0] λb15 w22 p6 p7 p8=>Q5 (Yg ek) p8 ⟨k9.one,O,Z⟩ λhj p9 ma=>xe ?_;have Y:sW k5 hj:=p6.Q p9 p7;have hA:=((hN.I h3.st).I hf).I Y;have qf:Qu [] ↑hj vm a.mr:=(((h.I J).mr.I h3.st).I hf).I Y;have hE:(es.take (k+1)).filter (λp=>!mk || decide (p.f.s∈a.mr))=(es.take k).filter (λp=>!mk || decide (p.f.s∈a.mr))++(if(!mk || decide (ek.f.s∈a.mr))=true then[ek]else[]):=by
  rw[Lh T,LR,gu,L7,MY]
 refine QW (α:=Bool) [(84,92)] (λz=>[(92,.bool z)]) (λz w'=>w'=hj/\z=(!mk || decide (ek.f.s∈a.mr))) oh ?_ ?_
 ·refine Or.elim (QpX mk) (λgv=>?_) (λgv=>?_)
  ·subst gv;refine Qr<|Qa<|x (Zj O)<|Qa<|Qs O hA O O<|Qs O ma O O<|Qw<|(ZG qf ek.f.s).S ?_;rintro r91 hj ⟨rfl,rfl⟩;refine Qz O<|xe ?_;exact⟨_,La,O,O⟩
  subst gv;refine Qr<|Qa<|x (Zj O)<|Qa<|Zw<|YG<|Qz O<|xe ?_;exact⟨true,La,O,O⟩
 rintro z g23 hj ⟨rfl,hz⟩;rw[<-hz]at hE;refine Q0 rfl (λgx=>?_) (λgx=>?_)
 rotate_left
 ·rw[OR (by rw[gx];decide),LF]at hE;refine Qf<|Qr<|QB O O<|Qa<|xe ?_;exact⟨(k+1,vT,ps),oe,ov,T,hf.D Y,Qm hT Y,by simp only[];rw[hE];exact hD,λp E=>(hJ p E).I Y⟩
 rw[OS gx]at hE;have mc:=k9.I Y;have mf:=Qm hT Y;have kv:=mc.le;refine Qr<|Qa<|Qo<|Qdc λb94 w24 hL mg qj=>Q7 O<|x (Qj (ma.I hL) O O) <|
  Qo<|Qah (base:=↑hj) (qj.own (n:=0) (sz:=1) O oa mg) O (mc.I hL) O (VW ek.f.u) oa (oo hL.size) λh4 gy ql q0 hn25=>?_
 have q4:sW hj gy:=hL.Q q0 mg;have q5:Qh 3 ↑hj gy h4 ek.f.u:=by simpa[tup]using ql
 have gz:Qu (ob vT) ↑gy h4 ek.f.u:=Qh.ints q5 kv (λb hb=>QU mf b hb);refine Qo<|Yd (us:=[[h4]]) O O og od ⟨gz.cells,rfl,Z⟩ λb98 w26 mh hb98 j1=>?_;have hM:=q4.D mh;have j2:=Qm mf hM;refine Qo<|QZ (news:=[h4]) (L:=[]) j2 O O O (j1.at od) (λy hy=>by simp only[oF]at hy;subst hy;exact gz.one) oa (ot hf.size Y.size hM.size) λmj mo j3 g0 mq=>Qb ?_;have j4:sW hC mo:=((hf.D Y).D hM).O g0 (λb hb=>.inr (Qi hT b hb).1);have za:qq 47 ↑hC mo mj (ps++[(h4,ek.f.u)]):=qq.snoc j3;refine Qr<|QB O O<|Qa<|xe<|⟨(k+1,mj,ps++[(h4,ek.f.u)]),oe,ov,T,j4,za,?_,λp E=>?_⟩
 ·simp only[];rw[Lv,hD,hE,Lv];rfl
 rcases Le.1 E with E|E
 ·exact(((hJ p E).I Y).I hM).grow g0 (λb hb=>hb) mq
 simp only[oF]at E;subst E;exact(gz.I mh).grow g0 (λb hb=>hb) mq
theorem VM {v:O0}{l':LI}(h:Qu L ↑w v l)(E:Qu L' ↑w v' l'):QS sV 252 [v,v'] w λr w'=>r=.bool (decide (l=l'))/\sW w w':=by
 have hj:=h.le;refine Zl func252 ?_;refine Qc<|Qb<|Qe<|Ql<|QG h O<|Qa<|QG E O<|ZL O O<|xe<|Zh rfl (λY=>?_) (λY=>?_)
 ·refine Qc<|Qb<|Qk ⟨[.bool false],La,?_,O3.Y _ _⟩;have I:l≠l':=λe=>Y (by rw[e]);simp[tup,I]
 refine Qf<|Qe<|Qc<|Qb<|QX (α:=Nat) [(4,5),(11,25)] (λk=>[(5,sS k)]) (λk w'=>sW w w'/\k<=l.length/\(l=l'↔l.drop k=l'.drop k)) (λk=>l.length - k) 0 La ⟨O3.Y _ _,Lo _,od⟩ ?_;rintro k g w1 ⟨G,hk,J⟩
 replace h:=h.I G
 replace E:=E.I G;refine Qe<|Ql<|Qa<|QG h O<|ZP O O<|xe<|Zn rfl (λhf=>?_) (λhf=>?_)
 ·refine Qt<|Qc<|Qb<|Qk ⟨[.bool true],La,?_,G⟩;rw[Lr oa,Lr oa]at J;simp[tup,J]
 have S:k<l.length:=oa
 have T:k<l'.length:=oa
 refine Qf<|Qe<|Qn<|Qe<|ZH [] (Y0 0 9 [])<|p Qx<|p Qx<|pii (i:=k) O h O O S λhn hg=>pq (λ_ U=>Qq (hg.I U) O)<|p Qx<|p Qx<|pii (i:=k) O E O O T λho hh=>pq (λ_ U=>Qq (hh.I U) O)<|p (λ_=>XI O O)<|pe ?_;have ha:=G.D (O3.X [] w1);refine Zh rfl (λV=>?_) (λV=>?_)
 ·refine Qc<|Qb<|Qk ⟨[.bool false],La,?_,ha⟩;have I:l≠l':=λe=>V (by simp[e]);simp[tup,I]
 refine Qf<|Qr<|Qa<|QB O O<|Qb<|⟨k+1,oa,La,ha,oa,?_⟩;have he:l[k]'S=l'[k]'T:=Lt.1 V;rw[J,QY S,QY T,he];exact⟨λh=>(List.cons.inj h).2,λh=>by rw[h]⟩
theorem QjT {ua um ue:O0}(h:Zp L ↑w va vm ve a)(h':Zp L' ↑w ua um ue a):QS sV 251 [.agg #[va,sS a.st,vm,ve],.agg #[ua,sS a.st,um,ue]] w λr w'=>r=.bool true/\sW w w':=by
 have hu:=h.ed.le;refine Zl func251 ?_;refine Qc<|Zc [va,sS a.st,vm,ve] λb2 w1 hp hv hq=>Zc [ua,sS a.st,um,ue] λb3 w2 hf hw J=>Qb ?_;have U:=hp.D hf;have S:=hq.I hf;have V:=h.I U;have Y:=h'.I U;refine Qe<|QW (α:=Unit) [(6,35)] (λ_=>[(35,.bool false)]) (λ_ w'=>sW w2 w') oh ?_ ?_
 ·refine Qr<|Qs O S O O<|Qs O J O O<|Qw<|(VM V.al Y.al).S ?_;rintro r3 w3 ⟨hg,E⟩;rw[OV rfl]at hg;subst hg;refine x (Zj O)<|Qa<|Qs O (S.I E) O O<|Qs O (J.I E) O O<|xb (XI O O) (λhh=>OU O hh) (λhh=>?_);refine Qz O<|Qa<|Qs O (S.I E) O O<|Qs O (J.I E) O O<|Qw<|(VM (V.mr.I E) (Y.mr.I E)).S ?_;rintro r4 w4 ⟨hj,G⟩;rw[OV rfl]at hj;subst hj;have T:=E.D G;refine x (Zj O)<|Qz O<|Qa<|Qs O (S.I T) O O<|QG (V.ed.I T) O<|Qs O (J.I T) O O<|QG (Y.ed.I T) O<|xb (XI O O) (λhm=>OU O hm) (λhm=>?_);refine Qz O<|xe ?_;exact⟨(),La,T⟩
 rintro⟨⟩ g w3 E;have ha:=U.D E;refine Zz rfl<|Qf<|Qe<|Qc<|Qb<|QX (α:=Nat) [(4,5),(36,53)] (λk=>[(5,sS k)]) (λk w'=>sW w3 w'/\k<=a.ed.length) (λk=>a.ed.length - k) 0 La ⟨O3.Y _ _,Lo _⟩ ?_;rintro k g w4 ⟨G,hk⟩;have h4:=(h.I ha).ed.I G;have hn:=(S.I E).I G;refine Qe<|Ql<|Qs O hn O O<|QG h4 O<|ZP O O<|xe<|Zn rfl (λhr=>?_) (λhr=>?_)
 ·refine Qt<|Qc<|Qb<|Qk ⟨[.bool true],La,O,ha.D G⟩
 have he:k<a.ed.length:=oa
 refine Qf<|Qe<|Qn<|Qe<|ZH [] (Y0 0 11 [])<|p (QH O)<|pq (λ_ I=>Qj (hn.I I) O O)<|p Qx<|pie (i:=k) O h4 O O he λhy hs=>pq (λ_ I=>QF (hs.I I) O O)<|p (QH O)<|pq (λ_ I=>Qj (((J.I E).I G).I I) O O)<|p Qx <|
  pie (i:=k) O ((h'.I ha).ed.I G) O O he λhz ht=>pq (λ_ I=>QF (ht.I I) O O)<|p (λ_=>VR O O)<|pe ?_
 refine Zh rfl (λho=>OU O ho) (λho=>?_);refine Qf<|Qr<|Qa<|QB O O<|Qb<|⟨k+1,oa,La,G.D (O3.X _ _),he⟩
theorem j5 [h:S3 P t]{x:O1}{p q:Ed}(hx:ev f x=sT (Qp p))(G:ev f y=sT (Qp q)):
  (execOp (ev f) ⟨d,.binOp .eql t x y E,ty,pS,af,gd⟩).run P w=.ok (.value (.bool (decide (p=q)))) w:=by
 have I:(eqGuard .eql t x y (sT (Qp p)) (sT (Qp q))).run P w=.ok () w:=by simp[eqGuard,h.g]
 simp only[execOp,hx,G,Sem.run_bind,I,Result.andThen_ok,binOp,jY,Sem.run_pure]
def ex3:QD:=⟨[0,2],3,[2],[(0,0,2),(0,2,0),(2,2,0)]⟩
def cn3:QD:=⟨[0,2],2,[1],[(0,0,1),(0,2,0),(1,2,0)]⟩
def se3:List Ed:=[(0,1,0),(0,3,1),(1,1,0)]
theorem Qi5:XX ex3=0:=oc
theorem QlW:XM ex3=cn3:=oc
theorem QaK:XX cn3=0:=oc
theorem Ql8:QkG cn3 0 [0,0]=0:=oc
theorem Ql9:flw cn3 0 [0,0]=(1,1):=oc
theorem Ql7:QgF cn3 2 true=some [[0],[2,0]]:=oc
theorem Qnk:XX ⟨[1,3],2,[1],se3⟩=0:=oc
theorem Qnj:(XM ⟨[1,3],2,[1],se3⟩).ed=se3:=oc
theorem Qos:rlE cn3 [3,1]=[(0,3,1),(0,1,0),(1,1,0)]:=oc
theorem QqD:([3,1]:LI).mergeSort (λx y=>decide (x<=y))=[1,3]:=by
 refine List.Perm.eq_of_pairwise (le:=λx y:Int=>x<=y) (λa b _ _ E G=>oa) ?_ og ((Na _ _).D (List.Perm.swap _ _ _));refine(List.pairwise_mergeSort (le:=λx y:Int=>decide (x<=y)) (λa b c E G=>by simp at *;omega) (λa b=>by simp;omega) [3,1]).imp λh=>ou h
theorem Qng (l':List Ed)(E:l'.Perm (rlE cn3 [3,1]))(S:l'.Pairwise Qb7):l'=se3:=by
 rw[Qos]at E;refine List.Perm.eq_of_pairwise (le:=Qb7) (λa b T hb G I=>?_) S (by unfold se3 Qb7;decide) (E.D (List.Perm.swap _ _ _));have J:=E.mem_iff.1 T;simp only[oK,oH,or_false]at J;simp only[se3,oK,oH,or_false]at hb;unfold Qb7 at G I;rcases J with rfl|rfl|rfl <;> rcases hb with rfl|rfl|rfl <;> first|rfl|(exfalso;simp only[]at G I;omega)
theorem QbZ (w:OZ):QS sV 247 [] w λr w'=>sW w w'/\Y5 ↑w ↑w' r ex3:=by
 refine Zl func247 ?_;refine Qc<|QT qk λb0 w1 T hc U=>xe ?_;refine Qc<|Qo<|Q2 [[sS 0],[sS 2]] λE w2 V hj he=>Qo<|Q2 [[sS 2]] λG w3 I hk hf =>
  x (QC ⟨rfl,O,O,Z⟩)<|x (QC ⟨O,O,O,Z⟩)<|x (QC ⟨O,O,O,Z⟩)<|Qo<|Yd (us:=[Qp (0,0,2),Qp (0,2,0),Qp (2,2,0)]) O O og (by exact(by decide:3*3<=1000000)) ⟨O,O,O,O,O,O,Z⟩ λJ w4 S hm hg=>?_
 have Y:=(V.D I).D S;have hn:=V.size;have ho:=I.size;have hF:Y5 ↑w1 ↑w4 (.agg #[sL E 2 2,sS 3,sL G 1 1,sL J 3 3]) ex3 :=
  jK (a:=ex3) ((he.I I).I S) (hf.I S) hg oa oa oa O O O og og og
 refine x (QC ⟨O,O,O,O,Z⟩)<|Q5 [sL E 2 2,sS 3,sL G 1 1,sL J 3 3] (U.I Y) oy λw5 ha hh=>xe ?_;refine Qk ⟨[.agg #[sL E 2 2,sS 3,sL G 1 1,sL J 3 3]],⟨JN hh,Z⟩,(T.D Y).Q ha hc,?_⟩;exact(XQ hF U.lt ha).S T.size
theorem QfT (w:OZ):QS sV 185 [] w λr w'=>r=.bool true/\sW w w':=by
 refine Zl func185 ?_;refine Qc<|Qb<|Qc<|Qw<|(QbZ w).S ?_;rintro r1 w1 ⟨hF,va,vm,ve,rfl,hG⟩;refine Qw<|(QaW (hG [] od)).S ?_;rintro r2 w2 ⟨hH,v2,rfl,_,hI⟩;have hf:=hI Qi5;rw[QlW]at hf;obtain⟨ca,cm,ce,rfl,hJ⟩:=hf;have hC:=hJ [] od;refine Qa<|QQ O O<|QQ O O<|QT qk λb1 w3 hK hM hN=>Q5 [ca,sS 2,cm,ce] hN ⟨hC.al.one,O,hC.mr.one,hC.ed.one,Z⟩ λw4 hO J=>Qb ?_;have hg:sW w2 w4:=hK.Q hO hM;have S:=hC.I hg;refine Qc<|Q3 J O O<|Qo<|Q2 [[sS 0],[sS 0]] λg3 w5 hh g4 hP=>Qw<|(QoM (u:=[0,0]) (S.I hh) (hP.arr (L:=[]) od (n:=2) (cap:=2) (sz:=1) rfl oa (Lp _)) 0).S ?_;rintro r6 w6 ⟨hQ,hj⟩;rw[OR (by rw[Ql8];decide),Ql9]at hj;subst hj;refine Qa<|QQ O O<|QQ O O<|QQ O O<|x Qd<|x Qd<|Qb ?_;have U:=hh.D hQ;refine Qc<|Q3 (J.I U) O O<|Qw<|(Qgn (S.I U) QaK ((Zy _).1 QaK) 2 og true).S ?_;rintro r7 w7 ⟨hS,hk⟩;rw[Ql7]at hk;have hT:∃I G p1,r7=.tuple #[I,sS 0]/\Ju [] ↑w7 I [G,p1]/\G.2=[0]/\p1.2=[2,0]:=by
  rcases hk with⟨h,_⟩|⟨l,I,ps,hl,h2,V,E⟩
  ·cases h
  cases hl
  match ps,V,E with
  | [G,p1],V,E =>
   simp only[oS,OG,List.cons.injEq,and_true]at E;exact⟨I,G,p1,h2,V,E.1,E.2⟩
  | [],_,E=>simp at E
  | [_],_,E=>simp at E
  | _::_::_::_,_,E=>simp at E
 obtain⟨I,G,p1,rfl,hU,hV,hW⟩:=hT;refine Qa<|QQ O O<|QQ O O<|x Qd<|Qb ?_;have Y:=U.D hS;refine Qc<|Q3 (J.I Y) O O<|Qo<|Q2 [[sS 3],[sS 1]] λg5 w8 hm g6 hX =>
  Qw<|(QdR (to:=[3,1]) ((S.I Y).I hm) QaK ((Zy _).1 QaK) (hX.arr (L:=[]) od (n:=2) (cap:=2) (sz:=1) rfl oa (Lp _)) rfl og og QqD Qng ((Zy _).1 Qnk)).S ?_
 rintro r9 w9 ⟨hY,v9,rfl,hZ⟩;obtain⟨ra,rm,re,rfl,ga⟩:=hZ;have hR:=ga [] od;have gb:Uq [] ↑w9 re se3:=by
  have h:=hR.ed;rw[show(XM ⟨[1,3],cn3.st,cn3.mr,se3⟩).ed=se3 from Qnj]at h;exact h
 refine Qa<|QQ O O<|QQ O O<|QT qk λb8 g7 gc ge gg=>Qo<|ZJ (us:=[ra,sS (XM ⟨[1,3],cn3.st,cn3.mr,se3⟩).st,rm,re]) gg O O O O ⟨hR.al.one,O,hR.mr.one,hR.ed.one,Z⟩ λhn gh gi=>Qb ?_;have ho:sW w9 hn:=gc.Q gh ge;have hp:=(hm.D hY).D ho;have ha:=Y.D hp;refine QW (α:=Unit) [(0,0),(33,98)] (λz=>[(0,.bool true)]) (λz w'=>sW hn w') oh ?_ ?_
 ·refine Qr<|Qa<|xb (Zd O O) (λhq=>?_) (λhq=>OU Qi5 hq);refine Qa<|Q3 (J.I ha) O O<|Qo<|Q2 [[sS 0],[sS 2]] λgj g8 gk g9 gl=>Qo<|Q2 [[sS 1]] λgm ka hr kb gn =>
   x (QC ⟨O,O,O,Z⟩)<|x (QC ⟨O,O,O,Z⟩)<|x (QC ⟨O,O,O,Z⟩)<|Qo<|Yd (us:=[Qp (0,0,1),Qp (0,2,0),Qp (1,2,0)]) O O og (by exact(by decide:3*3<=1000000)) ⟨O,O,O,O,O,O,Z⟩ λgo gq hc kc gr=>?_
  have hs:=(gk.D hr).D hc;have hL:Zp [] ↑gq (sL gj 2 2) (sL gm 1 1) (sL go 3 3) cn3 :=
   ⟨((gl.I hr).I hc).arr (L:=[]) od (n:=2) (cap:=2) (sz:=1) rfl oa (Oz _),(gn.I hc).arr (L:=[]) od (n:=1) (cap:=1) (sz:=1) rfl oa (Oz _),gr.arr (L:=[]) od (n:=3) (cap:=3) (sz:=3) rfl oa (Lp _)⟩
  refine x (QC ⟨O,O,O,O,Z⟩)<|Qw<|(QjT (a:=cn3) ((S.I ha).I hs) hL).S ?_;rintro ke kf ⟨rfl,gs⟩;have ht:=hs.D gs;have T:=(hU.I hp).I ht;refine Qz O<|Qa<|Qa<|xb (Zd O O) (λhu=>?_) (λhu=>OU O hu);refine Qz O<|Qa<|Qa<|xb (Zd O O) (λhv=>?_) (λhv=>OU O hv);refine Qz O<|Qa<|Qa<|xb (Zd O O) (λhw=>?_) (λhw=>OU O hw);refine Qz O<|Qa<|Qa<|xb (Zd O O) (λhy=>?_) (λhy=>OU O hy);refine Qz O<|Qa<|Qa<|QG T.arr O<|xb (Zd O O) (λhz=>?_) (λhz=>OU O hz);refine Qz O<|Qa<|Qa<|O6 (g:=YB) (i:=0) Kc T.arr O O od λkg gt=>x (Qq gt rfl)<|Qo<|Q2 [[sS 0]] λkh ki h0 kj gu =>
   Qw<|(VM (l:=G.2) (l':=[0]) ((T.each G od).I h0) (gu.arr (L:=[]) od (n:=1) (cap:=1) (sz:=1) rfl oa (Lp _))).S ?_
  rintro kk kn ⟨h1,gv⟩;rw[hV,OV rfl]at h1;subst h1;have h5:=h0.D gv;have h6:=T.I h5;refine Qz O<|Qa<|Qa<|O6 (g:=YB) (i:=1) Kc h6.arr O O od λko gx=>x (Qq gx rfl)<|Qo<|Q2 [[sS 2],[sS 0]] λkq kr h7 kt gy =>
   Qw<|(VM (l:=p1.2) (l':=[2,0]) ((h6.each p1 od).I h7) (gy.arr (L:=[]) od (n:=2) (cap:=2) (sz:=1) rfl oa (Lp _))).S ?_
  rintro ku kv ⟨h8,gz⟩;rw[hW,OV rfl]at h8;subst h8;have he:=(ht.D h5).D (h7.D gz);have h9:=gi.I he;have hA:=(gb.I ho).I he;refine Qz O<|Qa<|Qa<|xb (Zd O O) (λhB=>?_) (λhB=>OU O hB);refine Qz O<|Qa<|Qs O h9 O O<|QG hA O<|xb (Zd O O) (λhD=>?_) (λhD=>OU O hD);refine Qz O<|Qa<|Qs O h9 O O<|xie (i:=1) hA O O og λkw g0=>x (QF g0 O O)<|x (QC ⟨O,O,O,Z⟩)<|xb (j5 (p:=(0,3,1)) (q:=(0,3,1)) O O) (λhE=>?_) (λhE=>OU O hE);refine Qz O<|Qb<|⟨(),La,he⟩
 rintro z g kx g2;exact Qk ⟨[.bool true],La,O,(((hF.D hH).D hg).D ha).D g2⟩
theorem Qgs (w:OZ):QS sV 116 [] w λr w'=>r=.bool true/\sW w w':=by
 refine Zl func116 ?_;refine Qc<|Qb<|Qc<|Qw<|(QfT w).S ?_;rintro G I ⟨rfl,E⟩;refine Qb<|Qk ⟨[.bool true],La,O,E⟩
theorem CL.cel_rq {k:Z3}(h:c.C=k)(v:O0)(qs:List IV):(CL.mk c.ve c.vc v c.vx c.vk c.ev c.co qs c.ex c.cs).C={ k with rq:=qs.map IV.it }:=by rw[<-h];rfl
theorem CL.cel_ex {k:Z3}(h:c.C=k)(v:O0)(qs:List XV):(CL.mk c.ve c.vc c.vr v c.vk c.ev c.co c.rq qs c.cs).C={ k with ex:=qs.map XV.x }:=by rw[<-h];rfl
theorem CL.cel_cs {k:Z3}(h:c.C=k)(v:O0)(qs:List KV):(CL.mk c.ve c.vc c.vr c.vx v c.ev c.co c.rq c.ex qs).C={ k with cs:=qs.map KV.k }:=by rw[<-h];rfl
theorem QcY {k:Z3}(h:Z0 [] ↑w c)(V:c.C=k)(S:YQ k=0)(Y:Kb w 4096):
  QS sV 31 [c.val] w λr w'=>sW w w'/\∃va vm ve G I J E,r=.tuple #[.agg #[va,sS (spc k).a.st,vm,ve,G,I,J,E],sS 0]/\ZK [va,sS (spc k).a.st,vm,ve,G,I,J,E]/\Zs [] ↑w' E (spc k).fb.length 4 ((spc k).fb.flatMap ZW):=by
 refine(yh h Y).S ?_;rintro r w' ⟨hs,v,rfl,⟨us,hv,_,T⟩,U⟩;rw[V]at U ⊢;obtain⟨va,vm,ve,G,I,J,E,cos,rqs,rfl,_,_,hA⟩:=U S;have ha:us=[va,sS (spc k).a.st,vm,ve,G,I,J,E]:=by
  simpa using(OT (λv=>match v with|Value.agg cs=>cs.toList|_=>[]) hv).symm
 rw[ha]at T;exact⟨hs,va,vm,ve,G,I,J,E,by rw[S],T,(hA [] od).2.2.2.2⟩
theorem Qot {k:Z3}(h:Z0 [] ↑w c)(E:c.C=k)(G:YQ k=0)(I:(spc k).a.st<4096)(J:Qe3 k=true)(S:Kb w 4096):
  QS sV 183 [c.val] w λr w'=>sW w w'/\∃xa xm xe vb,r=.tuple #[.agg #[xa,sS ((spc k).a.st+1),xm,xe],vb,sS 0]/\ZK [xa,xm,xe]/\Qh 3 ↑w w' vb (cmB k):=by
 subst E;exact QcD h S G I J
abbrev QnC:LV:=[nS,sS 0,nS,nS,nS,nS,nS,nS]
theorem Qp2 {P:Prop}{a b:Int}(e:a=b)(h:¬a=b):P:=OU e h
theorem Qdj (hg:Kb w 4096):QS sV 115 [] w λr w'=>r=.bool true/\sW w w':=by
 refine Zl func115 ?_;refine Qc<|Qb<|Qc<|Qw<|(JI 1 og w).S ?_;rintro r1 w1 ⟨hI,T,rfl,g3,g4⟩;refine Qw<|(JI 2 og w1).S ?_;rintro r2 w2 ⟨h2,U,rfl,g5,g6⟩;refine Qw<|(JI 2 og w2).S ?_;rintro r3 w3 ⟨hh,c3,rfl,g7,g8⟩;have hJ:=((g4 [] od).I h2).I hh;have hK:=(g6 [] od).I hh;have hL:=g8 [] od;refine QT KG λE w4 g9 p8 hM=>QT KG λG w5 hN p9 hO=>QT KG λI w6 h3 qf V=>?_;have qj:=hM.lt;have ql:=hO.lt;have q0:=V.lt;refine Q5 T.cells ((hM.I hN).I h3) hJ.ones λw7 hj ka=>Q5 U.cells ((hO.I h3).J hj ol) hK.ones λw8 hk kb =>
  Q5 c3.cells ((V.J hj ol).J hk ol) hL.ones λw9 hn kc=>xe ?_
 have ho:sW w3 w9:=((((g9.D hN).D h3).Q hj oa).Q hk oa).Q hn oa;have V:∀b∈[E,G,I],↑w3<=b/\b<w6.heap.size:=λb hb=>by
  simp only[oK,oH,or_false]at hb;rcases hb with rfl|rfl|rfl <;> omega
 have m1:∀b∈[E],b∈[E,G,I]:=od
 have m2:∀b∈[G],b∈[E,G,I]:=od
 have m3:∀b∈[I],b∈[E,G,I]:=od
 have q4:w6.heap.size<=w9.heap.size:=by have:=hj.size;have:=hk.size;have:=hn.size;omega
 have nB:∀b,↑w9<=b->b∉[E,G,I]:=λb hb hm=>oo (V b hm).2
 refine Qc<|Qo<|Q2 [[sS 1]] λb16 q5 hP j1 ke=>Qo<|Q2 [[sS 0]] λhp j2 h4 j3 kf=>x (QC ⟨O,O,O,Z⟩) <|
  x (ZC [(0,[.string VY]),(1,[sL b16 1 1,sS 1,sL hp 1 1,nS])] ⟨O,O,O,O,Z⟩) <|
  Qo<|Q2 [[.string VY,sL b16 1 1,sS 1,sL hp 1 1,nS]] λh5 kg h6 j4 kh=>?_
 have hr:=(hP.D h4).D h6;refine Q7 rfl<|Qo<|Qv (j:=2) (u:=sL h5 1 1) (((ka.J hk ol).J hn ol).I hr) O O od rfl λh7 hs ki=>xe ?_;have za:=hP.size;have z0:=h4.size;have he:O3 [E,G,I] w9 h7:=hr.any.V (hs.S m1);have kj:Z0 [E,G,I] ↑h7 (CL.mk T.ve T.vc (sL h5 1 1) T.vx T.vk T.ev T.co [⟨VY,⟨sL b16 1 1,sL hp 1 1,nS,Qaw.a⟩⟩] T.ex T.cs):=by
  have J:=((hJ.up (L':=[E,G,I]) (λb hb=>.inr (V b hb).1)).I ho).st he;refine⟨J.ev,J.co,KY.st (w:=kg) ⟨kh.arr (nB _ oa) (n:=1) (cap:=1) (sz:=5) O og (Lp _),λq S=>?_,λq S=>?_⟩ (hs.S m1),J.ex,J.cs⟩
  ·rw[Lb.1 S];exact⟨((ke.I h4).I h6).arr (nB _ oa) (n:=1) (cap:=1) (sz:=1) O og (Lp _),(kf.I h6).arr (nB _ oa) (n:=1) (cap:=1) (sz:=1) O og (Lp _),Zs.nil _ _ 3⟩
  rw[Lb.1 S];exact X9 og
 refine Qc<|x (QC ⟨O,O,Z⟩)<|x (QC ⟨O,O,Z⟩)<|Qo<|Q2 [Zf (0,1),Zf (1,1)] λh8 z2 hQ z3 kk=>x (QC ⟨O,O,Z⟩) <|
  Qo<|Q2 [[.string Qak,sL h8 2 2]] λhA kn hR z4 ko=>?_
 have ht:=hQ.D hR;refine Q7 rfl<|Qo<|Qv (j:=3) (u:=sL hA 1 1) (((kb.J hn ol).J (hr.any.V hs) ol).I ht) O O od rfl λhB hu kq=>xe ?_;have z5:=hQ.size;have hf:O3 [E,G,I] h7 hB:=ht.any.V (hu.S m2);have hz16:=hf.size;have hz913:=he.size;have kr:Z0 [E,G,I] ↑hB (CL.mk U.ve U.vc U.vr (sL hA 1 1) U.vk U.ev U.co U.rq [⟨Qak,sL h8 2 2,[(0,1),(1,1)]⟩] U.cs):=by
  have J:=((hK.up (L':=[E,G,I]) (λb hb=>.inr (V b hb).1)).I ho).st (he.V hf);refine⟨J.ev,J.co,J.rq,yA.st (w:=kn) ⟨ko.arr (nB _ oa) (n:=1) (cap:=1) (sz:=2) O og (Lp _),λq S=>?_,λq S=>?_⟩ (hu.S m2),J.cs⟩
  ·rw[Lb.1 S];exact(kk.I hR).arr (nB _ oa) (n:=2) (cap:=2) (sz:=2) O og (Lp _)
  rw[Lb.1 S];exact X9 og
 refine Qc<|x (QC ⟨O,O,Z⟩)<|x (QC ⟨O,O,Z⟩)<|Qo<|Q2 [Zf (0,1),Zf (1,1)] λhC w17 hS hb30 kt=>x (QC ⟨O,O,O,Z⟩) <|
  Qo<|Q2 [[.string Qaj,sL hC 2 2,sS 1]] λhD ku hT hb32 kv=>?_
 have hv:=hS.D hT;refine Q7 rfl<|Qo<|Qv (j:=4) (u:=sL hD 1 1) (((kc.J (hr.any.V hs) ol).J (ht.any.V hu) ol).I hv) O O od rfl λha hw kw=>xe ?_;have hz17:=hS.size;have hy:O3 [E,G,I] hB ha:=hv.any.V (hw.S m3);have kx:Z0 [E,G,I] ↑ha (CL.mk c3.ve c3.vc c3.vr c3.vx (sL hD 1 1) c3.ev c3.co c3.rq c3.ex [⟨Qaj,sL hC 2 2,[(0,1),(1,1)],1⟩]):=by
  have J:=((hL.up (L':=[E,G,I]) (λb hb=>.inr (V b hb).1)).I ho).st ((he.V hf).V hy);refine⟨J.ev,J.co,J.rq,J.ex,ym.st (w:=ku) ⟨kv.arr (nB _ oa) (n:=1) (cap:=1) (sz:=3) O og (Lp _),λq S=>?_,λq S=>?_⟩ (hw.S m3)⟩
  ·rw[Lb.1 S];exact(kt.I hT).arr (nB _ oa) (n:=2) (cap:=2) (sz:=2) O og (Lp _)
  rw[Lb.1 S];exact X9 og
 have hU:Z0 [] ↑ha _:=((kj.st hf).st hy).up (L':=[]) od;have kz:Z0 [] ↑ha _:=(kr.st hy).up (L':=[]) od;have k0:Z0 [] ↑ha _:=kx.up (L':=[]) od;have hV:=(ki.J (ht.any.V hu) ol).J (hv.any.V hw) ol;have hW:sW w ha:=(((hI.D h2).D hh).D ho).O ((he.V hf).V hy) (λb hb=>.inr (oq (V b hb).1 ((hI.D h2).D hh).size));have hX:=CL.cel_rq g3 (sL h5 1 1) [⟨VY,⟨sL b16 1 1,sL hp 1 1,nS,Qaw.a⟩⟩];refine Qc<|Q3 hV O O<|Qw<|(QcY (k:=k1C) hU hX QpG (hg.I hW)).S ?_;rintro r20 k4 ⟨k5,sa,sm,se,s1,s2,s3,s4,rfl,k6,hY⟩;rw[QpF]at hY;refine Qa<|QQ O O<|QQ O O<|QT QnC λb4 w21 k9 ma mc=>Q5 [sa,sS (spc k1C).a.st,sm,se,s1,s2,s3,s4] mc k6 λmf mg mh=>Qb ?_;have hZ:sW k4 mf:=k9.Q mg ma;have hz:=k5.D hZ;have ga:=hW.D hz;refine Qc<|Q3 (hV.I hz) O O<|Qw<|(Qot (k:=k1C) (hU.I hz) hX QpG (by rw[QmL];decide) QnT (hg.I ga)).S ?_;rintro r23 gb ⟨mj,xa,xm,mo,vb,rfl,hE,gc⟩;rw[QnU]at gc;have mq:Qu [] ↑gb vb [2]:=Qh.ints (L:=[]) gc od od;refine Qa<|QQ O O<|QQ O O<|QQ O O<|QT qk λb6 w24 ms mt mu=>Q5 [xa,sS ((spc k1C).a.st+1),xm,mo] mu ⟨hE.1,O,hE.2.1,hE.2.2.1,Z⟩ λmv mw my=>x Qd<|Qb ?_;have ge:sW gb mv:=ms.Q mw mt;have h0:=mj.D ge;have hF:=hz.D h0;have gg:=ga.D h0;refine Qc<|x (Zb ((kq.J (hv.any.V hw) ol).I hF) O O)<|Qw<|(QcY (k:=k2C) (kz.I hF) (CL.cel_ex g5 (sL hA 1 1) [⟨Qak,sL h8 2 2,[(0,1),(1,1)]⟩]) Qq0 (hg.I gg)).S ?_;rintro r26 mz ⟨m0,ta,tm,te,t1,t2,t3,t4,rfl,m4,gh⟩;rw[QpD]at gh;refine Qa<|QQ O O<|QQ O O<|QT QnC λb9 w27 m5 m6 m7=>Q5 [ta,sS (spc k2C).a.st,tm,te,t1,t2,t3,t4] m7 m4 λm8 m9 pc=>Qb ?_;have gi:sW mz m8:=m5.Q m9 m6;have hc:=m0.D gi;have gj:=hF.D hc;have gk:=gg.D hc;refine Qc<|Q3 (kw.I gj) O O<|Qw<|(QcY (k:=k3C) (k0.I gj) (CL.cel_cs g7 (sL hD 1 1) [⟨Qaj,sL hC 2 2,[(0,1),(1,1)],1⟩]) QqZ (hg.I gk)).S ?_;rintro r29 pd ⟨pf,ua,um,ue,u1,u2,u3,u4,rfl,pg,gl⟩;rw[QpA]at gl;refine Qa<|QQ O O<|QQ O O<|QT QnC λb11 w30 ph pj pn=>Q5 [ua,sS (spc k3C).a.st,um,ue,u1,u2,u3,u4] pn pg λgm po pp=>Qb ?_;have gn:sW pd gm:=ph.Q po pj;have Y:=pf.D gn;have go:=pc.I Y;refine QW (α:=Unit) [(0,0),(55,105)] (λz=>[(0,.bool true)]) (λz w'=>sW gm w') oh ?_ ?_
 ·refine Qr<|Qa<|xb (Zd O O) (λgq=>?_) (λgq=>OU O gq);refine Qa<|Qa<|xb (Zd O O) (λgr=>?_) (λgr=>OU O gr);refine Qz O<|Qa<|Qa<|xb (Zd O O) (λgs=>?_) (λgs=>OU O gs);refine Qz O<|Qa<|Qa<|xb (Zd O O) (λgt=>?_) (λgt=>OU O gt);refine Qz O<|Qa<|Q7 O<|x (Qj (((mh.I h0).I hc).I Y) O O)<|x (QC ⟨O,O,O,O,Z⟩)<|Qo<|Q2 [ZW ⟨1,3,0,1⟩] λb73 w32 gu hb73 pt =>
   Qw<|(UN (l:=[⟨1,3,0,1⟩]) ((((((hY.I hZ).I h0).I hc).I Y)).I gu) (pt.arr (L:=[]) od (n:=1) (cap:=1) (sz:=4) rfl og (Lp _))).S ?_
  rintro r74 w33 ⟨rfl,pu⟩;have hG:=gu.D pu;refine Qz O<|Qa<|Q7 O<|x (Qj (((my.I hc).I Y).I hG) O O)<|xb (Zd O O) (λgv=>?_) (λgv=>Qp2 (by rw[QmL];rfl) gv);refine Qz O<|Qa<|Qa<|Qo<|Q2 [[sS 2]] λb83 w34 gx hb83 pw =>
   Qw<|(UO (l:=[2]) (l':=[2]) (((((mq.I ge).I hc).I Y).I hG).I gx) (pw.arr (L:=[]) od (n:=1) (cap:=1) (sz:=1) rfl oa (Lp _))).S ?_
  rintro r84 w35 ⟨gy,pz⟩;rw[OV rfl]at gy;subst gy;have h1:=hG.D (gx.D pz);refine Qz O<|Qa<|Q7 O<|Qs O (go.I h1) O O<|xb (Zd O O) (λgz=>?_) (λgz=>Qp2 QpC gz);refine Qz O<|Qa<|Qs O (go.I h1) O O<|x (QC ⟨O,O,O,O,Z⟩)<|Qo<|Q2 [ZW ⟨3,1,0,-1⟩] λb96 w36 g0 hb96 p0 =>
   Qw<|(UN (l:=[⟨3,1,0,-1⟩]) ((((gh.I gi).I Y).I h1).I g0) (p0.arr (L:=[]) od (n:=1) (cap:=1) (sz:=4) rfl og (Lp _))).S ?_
  rintro r97 w37 ⟨rfl,p4⟩;have hH:=h1.D (g0.D p4);refine Qz O<|Qa<|Qs O (pp.I hH) O O<|x (QC ⟨O,O,O,O,Z⟩)<|Qo<|Q2 [ZW ⟨3,2,0,-1⟩] λb103 w38 g2 hb103 p5 =>
   Qw<|(UN (l:=[⟨3,2,0,-1⟩]) (((gl.I gn).I hH).I g2) (p5.arr (L:=[]) od (n:=1) (cap:=1) (sz:=4) rfl og (Lp _))).S ?_
  rintro r104 w39 ⟨rfl,p6⟩;refine Qz O<|Qb<|⟨(),La,hH.D (g2.D p6)⟩
 rintro z g w40 p7;exact Qk ⟨[.bool true],La,O,(gk.D Y).D p7⟩
theorem QdZ (E:Kb w 4096):QS sV 47 [] w λr w'=>r=.bool true/\sW w w':=by
 refine Zl func47 ?_;refine Qc<|Qb<|QW (α:=Unit) [(0,4)] (λz=>[(0,.bool true)]) (λz w'=>sW w w') oh ?_ ?_
 ·refine Qr<|Qw<|(Qdj E).S ?_;rintro T G ⟨rfl,I⟩;refine Qa<|Qw<|(Qgs G).S ?_;rintro r2 U ⟨rfl,J⟩;refine Qz O<|Qb<|⟨(),La,I.D J⟩
 rintro z g V S;exact Qk ⟨[.bool true],La,O,S⟩
def JY:ByteArray:=⟨#[98,117,102,102,101,114]⟩
def V6:Jp:=⟨JY,⟨[1,2],2,[0,1],[(0,1,1),(1,2,0)]⟩⟩
theorem Qam {α:Type}(q:α->Bool)(x:Int):∀(l:List α) (i:Nat),x∈ixs q i l↔∃k,∃h:k<l.length,x=((i+k:Nat):Int)/\q (l[k]'h)=true
 | [],i=>by simp[ixs]
 | y::l,i=>by
  rw[ixs];have ih:=Qam q x l (i+1);constructor
  ·intro h;by_cases J:q y=true
   ·rw[OS J]at h;rcases Ln.1 h with h|h
    ·exact⟨0,od,by rw[h];simp,J⟩
    obtain⟨k,S,E,G⟩:=ih.1 h;exact⟨k+1,by simp;omega,by rw[E];congr 1;omega,G⟩
   rw[OR J]at h;obtain⟨k,S,E,G⟩:=ih.1 h;exact⟨k+1,by simp;omega,by rw[E];congr 1;omega,G⟩
  rintro⟨k,S,E,G⟩;cases k with
  | zero =>
   have I:q y=true:=G;rw[OS I];exact Ln.2 (.inl (by rw[E];simp))
  | succ k =>
   have I:=ih.2 ⟨k,ou S,by rw[E];congr 1;omega,G⟩;split
   ·exact Lj _ I
   exact I
theorem Qat {α:Type}(q:α->Bool):∀(l:List α) (i:Nat),Yw (ixs q i l)
 | [],_=>List.Pairwise.nil
 | y::l,i=>by
  rw[ixs];split
  ·refine L4.2 ⟨λx hx=>?_,Qat q l (i+1)⟩;obtain⟨k,_,E,_⟩:=(Qam q x l (i+1)).1 hx;omega
  exact Qat q l (i+1)
theorem z7 {c:Z3}(h:Z2 c=0):Xu c.ev=0:=by
 unfold Z2 at h;by_cases E:Xu c.ev≠0
 ·rw[OS E]at h;exact OU h E
 exact Lt.1 E
theorem z6 {l:List J9}(h:Xu l=0):l.length<=32:=by
 unfold Xu at h;by_cases E:32<l.length
 ·rw[OS E]at h;cases h
 omega
theorem QcO {l:List J9}(h:Xu l=0):Yb (unc l):=by
 refine⟨λx hx=>?_,Qat _ _ _⟩;obtain⟨k,E,e,_⟩:=(Qam _ _ _ _).1 hx;have:=z6 h;omega
theorem Qkt {l:List J9}(h:Xu l=0):(unc l).length<=32:=(QcO h).len
def hck (c:Z3)(hi:LI):Int :=
 if Z2 c≠0 then Z2 c else if 0<c.ex.length+c.cs.length then 13 else if JO (c.ev.length:Int) none hi≠0 then JO (c.ev.length:Int) none hi else
 if(c.rq.all λr=>decide (mrg (λp q=>p && !q) r.a.al hi=[]))=true then 0 else 9
theorem QjN {p:α->Bool}{l:List α}{k:Nat}(h:k<l.length):(l.drop k).all p=(p (l[k]'h) && (l.drop (k+1)).all p):=by rw[QY h,MG]
theorem Qf1 {hi:LI}(h:Z0 [] ↑w c)(hH:Qu [] ↑w vh hi):
  QS sV 36 [c.val,vh] w λr w'=>r=sS (hck c.C hi)/\sW w w':=by
 have h8:=h.ex.arr.le;have h9:=h.cs.arr.le;have hA:=h.rq.arr.le;have h0:=hH.le;have E:hck c.C hi=if Z2 c.C≠0 then Z2 c.C else if 0<c.ex.length+c.cs.length then 13 else if JO (c.ev.length:Int) none hi≠0 then JO (c.ev.length:Int) none hi else
   if(c.rq.all λr=>decide (mrg (λp q=>p && !q) r.p.a.al hi=[]))=true then 0 else 9:=by
  unfold hck;rw[show c.C.ex.length=c.ex.length from Lm ..,show c.C.cs.length=c.cs.length from Lm ..,show c.C.rq=c.rq.map (·.it) from rfl,List.all_map];rfl
 refine Zg (hck c.C hi) λR hR=>?_;rw[hR]at E ⊢;refine Zl func36 ?_;refine Qc<|Zc c.cells λb2 w1 hs hB ht=>Qb<|Qe<|Qc<|Q3 ht O O<|Qw<|(jA (h.I hs)).S ?_;rintro _ w2 ⟨rfl,hu⟩;refine Qb ?_;have G:=hs.D hu;have T:=ht.I hu;refine Ql<|ZL O O<|xe<|Zh rfl (λhc=>?_) (λhc=>?_)
 ·have J:Z2 c.C≠0:=hc;rw[OS J]at E;refine Ql<|Qb<|Qk ⟨[_],La,by rw[E];rfl,G⟩
 have J:¬Z2 c.C≠0:=hc;rw[OR J]at E;refine Qf<|Qe<|Qc<|Qs O T O O<|QG (h.ex.arr.I G) O<|Qs O T O O<|QG (h.cs.arr.I G) O<|QB O O<|x (Z5 O O)<|xe<|Zh rfl (λhe=>?_) (λhe=>?_)
 ·have hf:0<c.ex.length+c.cs.length:=by have hg:(c.ex.length:Int)+(c.cs.length:Int) > 0:=he;omega
  rw[OS hf]at E;refine Qc<|Qb<|Qk ⟨[_],La,by rw[E];rfl,G⟩
 have hf:¬0<c.ex.length+c.cs.length:=by have hg:¬(c.ex.length:Int)+(c.cs.length:Int) > 0:=he;omega
 rw[OR hf]at E;refine Qf<|Qe<|Ql<|Qs O T O O<|QG (h.ev.arr.I G) O<|Qw<|(qb (hH.I G) _).S ?_;rintro _ w3 ⟨rfl,rfl⟩;refine Qb<|Ql<|ZL O O<|xe<|Zh rfl (λhh=>?_) (λhh=>?_)
 ·have U:JO (c.ev.length:Int) none hi≠0:=hh;rw[OS U]at E;refine Ql<|Qb<|Qk ⟨[_],La,by rw[E];rfl,G⟩
 have U:¬JO (c.ev.length:Int) none hi≠0:=hh;rw[OR U]at E;have h1:=YI (Lt.1 J);have hC:c.ev.length<=32:=z6 (z7 (Lt.1 J));have hv:=(Y4 _ _ _).1 (Lt.1 U);have h0:hi.length<=c.ev.length:=xG c.ev.length hi (hv.2.1.imp λhD e=>oa) hv.1;refine Qf ?_;have hw:=h.rq.arr.I G;refine Qe<|Qc<|Qs O T O O<|QG hw O<|Qa<|xe<|QX (α:=Nat) [(4,4),(8,8),(33,43)] (λz=>[(33,sS z)]) (λz w'=>z<=c.rq.length/\sW w3 w'/\R=if((c.rq.drop z).all λr=>decide (mrg (λp q=>p && !q) r.p.a.al hi=[]))=true then 0 else 9) (λz=>c.rq.length - z) 0 La ⟨Lo _,O3.Y _ _,by rw[NE];exact E⟩ ?_
 rintro k g w4 ⟨hk,hj,I⟩;have V:=G.D hj;refine Zi rfl O (λhm=>?_) (λhm=>?_)
 ·refine Qt ?_;have h2:c.rq.length<=k:=by have hg:¬(k:Int)<(c.rq.length:Int):=hm;omega
  rw[Lr h2,List.all_nil,OS rfl]at I;refine Qc<|Qb<|Qk ⟨[_],La,by rw[I];rfl,V⟩
 have S:k<c.rq.length:=by have hg:(k:Int)<(c.rq.length:Int):=hm;omega
 have hn:=Lk S;rw[QjN S]at I;refine Zg (c.rq[k]'S) λq hq=>?_;rw[hq]at hn I;have Y:=(h.rq.each q hn).I V;have hE:q.p.a.al.length<=32:=(h1.rq q.it (LG hn)).al_le;refine Qf<|Qe<|Qn<|Qc<|O6 (g:=Zm) (i:=k) (λ_=>O) (hw.I hj) O O S λhF hy=>?_;rw[hq]at hy;refine x (QF (us:=Zm q) hy O O)<|QT [.string .empty,nS,sS 0,nS,nS] λb8 w5 h3 h4 h5=>Q5 (Zm q) h5 ⟨O,Y.al.one,O,Y.mr.one,Y.ed.one,Z⟩ λw6 h6 h7=>xe ?_;have ha:sW w4 w6:=h3.Q h6 h4;refine Qc<|Q7 O<|Qs O h7 O O<|Qa<|Qw<|(jF (Y.al.I ha) (hH.I (V.D ha)) oa).S ?_;rintro _ w7 ⟨hz,rfl⟩;refine x (Zj O)<|xe<|Q0 rfl (λho=>?_) (λho=>?_)
 ·have hp:=K4 ho;rw[OX hp,Bool.false_and,OR My]at I;refine Qc<|Qb<|Qk ⟨[_],La,by rw[I];rfl,V.D (ha.D hz)⟩
 have hp:=JZ ho;rw[OV hp,Nx]at I;refine Qf<|Qr<|QB O O<|Qa<|xe ?_;exact⟨k+1,by show c.rq.length - (k+1)<c.rq.length - k;omega,La,S,(hj.D ha).D hz,I⟩
structure LvV where
 c:CL
 pa:O0
 pm:O0
 pe:O0
 p:QD
 vh:O0
 vu:O0
 hi:LI
 un:LI
abbrev Ye (V:LvV):LV:=[V.c.ve,V.c.vc,V.c.vr,V.c.vx,V.c.vk,V.pa,sS V.p.st,V.pm,V.pe,V.vh,V.vu]
structure LvA (H:xz)(V:LvV):Prop where
 c:Z0 [] H V.c
 a:Zp [] H V.pa V.pm V.pe V.p
 h:Qu [] H V.vh V.hi
 u:Qu [] H V.vu V.un
theorem LvA.I {w w':OZ}{V:LvV}(h:LvA ↑w V)(E:sW w w'):LvA ↑w' V:=⟨h.c.I E,h.a.I E,h.h.I E,h.u.I E⟩
theorem LvA.ones {H:xz}{V:LvV}(h:LvA H V):ZK (Ye V):=⟨h.c.ev.arr.one,h.c.co.arr.one,h.c.rq.arr.one,h.c.ex.arr.one,h.c.cs.arr.one,h.a.al.one,O,h.a.mr.one,h.a.ed.one,h.h.one,h.u.one,Z⟩
abbrev VZ:LV:=[ZS,ZS,ZS,ZS,ZS,ZS,sS 0,ZS,ZS,ZS,ZS]
instance:Bw sV 113 VZ [(0,5),(5,4),(9,1),(10,1)]:={}
structure LvK (k:CL)(hi:LI)(V:LvV):Prop where
 c:V.c=k
 p:V.p=JS (O5 k.C.co)
 h:V.hi=hi
 u:V.un=unc k.C.ev
theorem yc {hi:LI}(h:Z0 [] ↑w c)(hH:Qu [] ↑w vh hi)(hy:Kb w 4096)(ho:hck c.C hi=0->plE c.C=0):
  QS sV 51 [c.val,vh] w λr w'=>sW w w'/\∃us,r=.tuple #[sT us,sS (hck c.C hi)]/\us.length=11/\ZK us/\(hck c.C hi=0->∃V:LvV,us=Ye V/\LvA ↑w' V/\LvK c hi V):=by
 refine Zl func51 ?_;refine Qc<|Zc c.cells λb2 w1 hp hN hz=>QT VZ λb4 w2 hq hO ha=>Qb ?_;have hc:=hp.D hq;have hQ:=hp.size;have hf:=hz.I hq;refine Qe<|Qc<|Q3 hf O O<|Qa<|Qw<|(Qf1 (h.I hc) (hH.I hc)).S ?_;rintro _ w3 ⟨rfl,G⟩;refine Zg (hck c.C hi) λE hE=>?_;rw[hE]at ho ⊢;refine Qb ?_;have S:=hc.D G;refine Ql<|ZL O O<|xe<|Zh rfl (λhg=>?_) (λhg=>?_)
 ·have T:E≠0:=hg;refine Qc<|x (ZC [] Z)<|Qa<|Q5 VZ (ha.I G) ⟨O,O,O,O,O,O,O,O,O,O,O,Z⟩ λw4 h0 h1=>Qb<|Qk ⟨[sT VZ,sS E],⟨JN h1,O,Z⟩,S.Q h0 oa,VZ,O,O,⟨O,O,O,O,O,O,O,O,O,O,O,Z⟩,λe=>OU e T⟩
 have T:E=0:=Lt.1 hg;have h2:=ho T;refine Qf<|Qc<|Q3 (hf.I G) O O<|Qw<|(yk (h.I S) (hy.I S)).S ?_;rintro _ w5 ⟨U,va,vt,e,rfl,hP⟩;obtain⟨he,A,pa,pm,pe,qs,rfl,h3,hR,hok⟩:=hP.shape;rw[h2]at he;subst he;obtain⟨h4,h5,hT,hr⟩:=hok O;have h6:=(hr [] od).1;have h7:A=JS (O5 c.C.co):=by unfold JS;rw[h5]
 have h8:=S.D U;refine Qa<|QQ O O<|QQ O O<|QQ O O<|QT Js λb7 w6 h9 hA hB=>Q5 [pa,sS A.st,pm,pe] hB h3 λw7 hC hD=>x Qd<|Qb ?_;have I:sW w5 w7:=h9.Q hC hA;have hs:=h8.D I;refine Qe<|Ql<|ZL O O<|xe<|Zz rfl<|Qf ?_;have ht:=(hf.I G).I (U.D I);have hS:=jG (h.ev.I hs);have hu:Xu c.ev=0:=z7 h4;rw[hu,OS rfl]at hS;refine Qc<|Qs O ht O O<|Qw<|hS.S ?_;rintro _ w9 ⟨J,vu,rfl,hh⟩;have hF:(unc c.ev).length<=32:=Qkt hu;have hv:Qu [] ↑w9 vu (unc c.ev):=Qh.ints hh oa od;refine Qa<|QQ O O<|QQ O O<|x Qd<|Qb ?_;have hj:=hs.D J;have hG:sW w3 w9:=(U.D I).D J;have Y:LvA ↑w9 ⟨c,pa,pm,pe,A,vh,vu,hi,unc c.ev⟩:=⟨h.I hj,h6.I (I.D J),hH.I hj,hv⟩;refine Qc<|Q3 (ht.I J) O O<|Q3 (hD.I J) O O<|Qa<|Qa<|x (ZC [(0,c.cells),(1,[pa,sS A.st,pm,pe]),(2,[vh]),(3,[vu])] ⟨O,O,O,O,hH.cells,O,hv.cells,O,Z⟩)<|x Kd <|
  Q5 (Ye ⟨c,pa,pm,pe,A,vh,vu,hi,unc c.ev⟩) ((ha.I G).I hG) Y.ones λhw hk hI=>Qb ?_
 have hn:sW w hw:=hj.Q hk oa;refine Qk ⟨[sT (Ye ⟨c,pa,pm,pe,A,vh,vu,hi,unc c.ev⟩),sS 0],⟨JN hI,O,Z⟩,hn,_,by rw[T];rfl,O,Y.ones,λ_=>⟨⟨c,pa,pm,pe,A,vh,vu,hi,unc c.ev⟩,O,?_,⟨O,h7,O,O⟩⟩⟩;have hJ:∀L:LN,(∀b∈L,b<↑w3)->Zp L ↑w5 pa pm pe A:=λL Y=>(hr L Y).1;have hK:b4<w3.heap.size:=(ha.I G).lt;have hM:Zp [] ↑hw pa pm pe A:=(((hJ [b4] (λb hb=>by rw[Lb.1 hb];exact hK)).I (I.D J)).st hk).up λb hb=>by cases hb
 exact⟨h.I hn,hM,hH.I hn,Qh.ints (Qg hh hk λb hb hm=>by have:=(Qi hh b hb).1;rw[Lb.1 hm]at this;have:=(U.D I).size;omega) (Lx hF og) od⟩
theorem xcH {x:O1}{l:List O1}
   {first:LV} (E:∃fn,Fu P g fn) (hx:ev f x=.func (.func g) first.toArray capt.toArray) (h:QS P g (first++l.map (ev f)++capt) w λv w'=>K (QN f d v) w'):
  XO P ⟨d,.call ⟨.value x,l.toArray,at_⟩,ty,pS,af,gd⟩ f w K:=by
 obtain⟨fn,G⟩:=E;exact xc (fn:=fn) hx h
structure RpV where
 t:Bool
 vs:O0
 o:Bool
 vw:O0
 vo:O0
 c:Bool
 vp:O0
 ev:Int
abbrev Zv (R:RpV):LV:=[.bool R.t,R.vs,.bool R.o,R.vw,R.vo,.bool R.c,R.vp,sS R.ev]
abbrev rp8:RpV:=⟨false,nS,false,nS,nS,false,nS,0⟩
structure yt (L:LN)(H:xz)(V:LvV)(i:Nat)(R:RpV):Prop where
 ones:ZK (Zv R)
 p1:0<i->R.t=(nbl V.p).2/\Qu L H R.vs (nbl V.p).1
 p2:1<i->R.o=(obs V.p V.hi []).isNone/\Qu L H R.vw ((obs V.p V.hi []).elim [] (·.1))/\Qu L H R.vo ((obs V.p V.hi []).elim [] (·.2))
 p3:2<i->R.c=(cns V.p V.hi V.un).isNone/\R.ev=(cns V.p V.hi V.un).elim (-1) (·.2)/\Qu L H R.vp ((cns V.p V.hi V.un).elim [] (·.1))
theorem Qu.sb {b:Nat}{v:O0}(h:Qu L ↑w v l)(hb:b∈L)(E:O3 [b] w w'):Qu L ↑w' v l:=Zs.J h E λx hx=>by rw[Lb.1 hx];exact hb
theorem Yn.b {N b:Nat}{L:LN}{w w':OZ}{v:O0}{l:LI}(h:Yn N ↑w v l)(hL:∀x∈L,x<N)(hb:b∈L)(E:O3 [b] w w'):Qu L ↑w' v l:=Qu.sb (h L hL) hb E
theorem yt.J {b:Nat}{V:LvV}{R:RpV}(h:yt L ↑w V i R)(hb:b∈L)(E:O3 [b] w w'):yt L ↑w' V i R :=
 ⟨h.ones,λhi=>⟨(h.p1 hi).1,Qu.sb (h.p1 hi).2 hb E⟩,λhi=>⟨(h.p2 hi).1,Qu.sb (h.p2 hi).2.1 hb E,Qu.sb (h.p2 hi).2.2 hb E⟩,λhi=>⟨(h.p3 hi).1,(h.p3 hi).2.1,Qu.sb (h.p3 hi).2.2 hb E⟩⟩
theorem upN {H:xz}{v:O0}(h:Qu L H v l):Qu [] H v l:=h.up λb hb=>by cases hb
theorem yt.nil {H:xz}{V:LvV}{R:RpV}(h:yt L H V i R):yt [] H V i R :=
 ⟨h.ones,(λhi=>⟨(h.p1 hi).1,upN (h.p1 hi).2⟩),(λhi=>⟨(h.p2 hi).1,upN (h.p2 hi).2.1,upN (h.p2 hi).2.2⟩),(λhi=>⟨(h.p3 hi).1,(h.p3 hi).2.1,upN (h.p3 hi).2.2⟩)⟩
theorem yt.I {L:LN}{i:Nat}{w w':OZ}{V:LvV}{R:RpV}(h:yt L ↑w V i R)(E:sW w w'):yt L ↑w' V i R :=
 ⟨h.ones,λhi=>⟨(h.p1 hi).1,(h.p1 hi).2.I E⟩,λhi=>⟨(h.p2 hi).1,(h.p2 hi).2.1.I E,(h.p2 hi).2.2.I E⟩,λhi=>⟨(h.p3 hi).1,(h.p3 hi).2.1,(h.p3 hi).2.2.I E⟩⟩
section
variable {w0:OZ}{V:LvV}{b:Nat}{R:RpV}(hbL:b∈L)(hlt:∀x∈L,x<↑w)(hw:sW w0 w)(hL:LvA ↑w0 V)(hp:Pl9 V.p)(hB:QK ↑w b 118 (Zv R++Ye V))
include hbL hlt hw hL hp hB
theorem Qkw (hR:yt L ↑w V 0 R):
  QS sV 124 [sP b] w λr w'=>r=sS 0/\O3 [b] w w'/\∃R',QK ↑w' b 118 (Zv R'++Ye V)/\yt L ↑w' V 1 R':=by
 have h:=hL.I hw;refine Zl func124 ?_;refine Qc<|Qb<|Ql<|Qa<|Qa<|ZY O<|Q7 O<|Q7 O<|x (ZQ (us:=[V.pa,sS V.p.st,V.pm,V.pe]) hB O O O)<|Qo<|Q2 [[V.pa,sS V.p.st,V.pm,V.pe]] λb11 T E hf U =>
  Qw<|(KW (q:=⟨V.pa,V.pm,V.pe,V.p⟩) ⟨U.arr od (n:=1) (cap:=1) (sz:=4) rfl og (Oz _),λp hp=>by rw[List.mem_singleton.1 hp];exact h.a.I E⟩ hp.ok (Int.le_trans hp.s9 og)).S ?_
 rintro _ w2 ⟨Y,v,rfl,G⟩;have I:=E.D Y;refine Qa<|QQ O O<|QQ O O<|QQ O O<|ZY O<|Q7 O<|Q7 O<|Qo<|Qv (u:=v) (hB.I I) O O (L3 O) G.ints.one λw3 J ha =>
  ZY rfl<|Q7 O<|Q7 O<|Qo<|Qv (u:=.bool (nbl V.p).2) ha O O (L3 O) O λw4 S hc=>Qb ?_
 have he:∀x∈L,x<T.heap.size:=λx hx=>LQ (hlt x hx) E.size;refine Ql<|Qb<|Qk ⟨[_],La,O,(I.any.V J).V S,⟨(nbl V.p).2,v,R.o,R.vw,R.vo,R.c,R.vp,R.ev⟩,hc,⟨?_,λ_=>⟨O,Qu.sb (Yn.b G he hbL J) hbL S⟩,λh=>OU h og,λh=>OU h og⟩⟩;obtain⟨_,_,o3⟩:=hR.ones;exact⟨O,G.ints.one,o3⟩
theorem Qkv (hi:Yb V.hi)(hR:yt L ↑w V 1 R):
  QS sV 125 [sP b] w λr w'=>r=sS 0/\O3 [b] w w'/\∃R',QK ↑w' b 118 (Zv R'++Ye V)/\yt L ↑w' V 2 R':=by
 have h:=hL.I hw;have hd:sW w { w with drawn:=w.drawn+1 }:=O3.X _ _
 refine Zl func125 ?_;refine Qc<|Qb<|Qe<|ZH [] (Y0 0 32 [13,22,26,30])<|p Qx<|p Qx<|p Qx<|p Qx<|p (YE O)<|p (QH O)<|p (QH O)<|pq (λ_ J=>ZQ (us:=[V.pa,sS V.p.st,V.pm,V.pe]) (hB.I J) O O O) <|
  p Qx<|p (YE O)<|p (QH O)<|p (QH O)<|pq (λ_ J=>Qj (hB.I J) O O)<|pkk<|xg<|(qa (w:={ w with drawn:=w.drawn+1 }) (h.a.I hd) (h.h.I hd) hp hi).S ?_
 rintro _ w2 ⟨ha,Y,v2,rfl,S,T⟩;have U:=hd.D ha;refine p Qx<|p (λ_=>QV O O)<|p (λ_=>QV O O)<|p (λ_=>QV O O)<|p (λ_=>QV O O) <|
  p (YE rfl)<|p (QH O)<|p (QH O)<|pkk<|Qv (u:=Y) (hB.I U) O O (L3 O) S.ints.one λw3 E he=>p (YE O) <|
  p (QH rfl)<|p (QH O)<|pkk<|Qv (u:=v2) he O O (L3 O) T.ints.one λw4 G hf=>p (YE O)<|p (QH O) <|
  p (QH rfl)<|pkk<|Qv (u:=.bool (obs V.p V.hi []).isNone) hf O O (L3 O) O λw5 I hg=>p ZA<|pe ?_
 refine Ql<|Qb ?_;have hh:yt L ↑w5 V 1 R:=⟨hR.ones,λh=>⟨(hR.p1 h).1,Qu.sb (Qu.sb (Qu.sb ((hR.p1 h).2.I U) hbL E) hbL G) hbL I⟩,λh=>OU h og,λh=>OU h og⟩;refine Qk ⟨[_],La,O,((U.any.V E).V G).V I,⟨R.t,R.vs,(obs V.p V.hi []).isNone,Y,v2,R.c,R.vp,R.ev⟩,hg,⟨?_,λ_=>hh.p1 og,λ_=>⟨O,Qu.sb (Qu.sb (Yn.b S hlt hbL E) hbL G) hbL I,Qu.sb (Qu.sb (Yn.b T hlt hbL E) hbL G) hbL I⟩,λh=>OU h og⟩⟩;obtain⟨_,o2,_,_,_,o6⟩:=hR.ones;exact⟨O,o2,O,S.ints.one,T.ints.one,o6⟩
theorem Qku (hi:Yb V.hi)(Y:Yb V.un)(hR:yt L ↑w V 2 R):
  QS sV 126 [sP b] w λr w'=>r=sS 0/\O3 [b] w w'/\∃R',QK ↑w' b 118 (Zv R'++Ye V)/\yt L ↑w' V 3 R':=by
 have h:=hL.I hw;have hd:sW w { w with drawn:=w.drawn+1 }:=O3.X _ _
 refine Zl func126 ?_;refine Qc<|Qb<|Qe<|ZH [] (Y0 0 37 [18,27,31,35])<|p Qx<|p Qx<|p Qx<|p Qx<|p (YE O)<|p (QH O)<|p (QH O)<|pq (λ_ E=>ZQ (us:=[V.pa,sS V.p.st,V.pm,V.pe]) (hB.I E) O O O) <|
  p Qx<|p (YE O)<|p (QH O)<|p (QH O)<|pq (λ_ E=>Qj (hB.I E) O O)<|p Qx<|p (YE O)<|p (QH O)<|p (QH O)<|pq (λ_ E=>Qj (hB.I E) O O) <|
  pkk<|xg<|(Kv (w:={ w with drawn:=w.drawn+1 }) (h.a.I hd) (h.h.I hd) (h.u.I hd) hp hi Y).S ?_
 rintro _ w2 ⟨ha,U,rfl,G⟩;have I:=hd.D ha;refine p Qx<|p (λ_=>QV O O)<|p (λ_=>QV O O)<|p (λ_=>QV O O)<|p (λ_=>QV O O) <|
  p (YE rfl)<|p (QH O)<|p (QH O)<|pkk<|Qv (u:=U) (hB.I I) O O (L3 O) G.ints.one λw3 J he=>p (YE O) <|
  p (QH rfl)<|p (QH O)<|pkk<|Qv (u:=sS ((cns V.p V.hi V.un).elim (-1) (·.2))) he O O (L3 O) O λw4 S hf=>p (YE O)<|p (QH O) <|
  p (QH rfl)<|pkk<|Qv (u:=.bool (cns V.p V.hi V.un).isNone) hf O O (L3 O) O λw5 T hg=>p ZA<|pe ?_
 refine Ql<|Qb ?_;have s:∀{v:O0} {l:LI},Qu L ↑w v l->Qu L ↑w5 v l:=λhv=>Qu.sb (Qu.sb (Qu.sb (hv.I I) hbL J) hbL S) hbL T;refine Qk ⟨[_],La,O,((I.any.V J).V S).V T,⟨R.t,R.vs,R.o,R.vw,R.vo,(cns V.p V.hi V.un).isNone,U,(cns V.p V.hi V.un).elim (-1) (·.2)⟩,hg,⟨?_,λ_=>⟨(hR.p1 og).1,s (hR.p1 og).2⟩,λ_=>⟨(hR.p2 og).1,s (hR.p2 og).2.1,s (hR.p2 og).2.2⟩,λ_=>⟨O,O,Qu.sb (Qu.sb (Yn.b G hlt hbL J) hbL S) hbL T⟩⟩⟩;obtain⟨o1,o2,o3,o4,o5,_⟩:=hR.ones;exact⟨o1,o2,o3,o4,o5,O,G.ints.one,O,Z⟩
end
def gT (i:Nat):Nat:=if i=0 then 124 else if i=1 then 125 else 126
theorem QpM (i:Nat):∃fn,Fu sV (gT i) fn:=by
 unfold gT;by_cases E:i=0
 ·rw[OS E];exact⟨_,inferInstance⟩
 rw[OR E];by_cases G:i=1
 ·rw[OS G];exact⟨_,inferInstance⟩
 rw[OR G];exact⟨_,inferInstance⟩
theorem Qm5 {w0:OZ}{V:LvV}{b:Nat}{R:RpV}(hbL:b∈L)(hlt:∀x∈L,x<↑w)(hw:sW w0 w)(hL:LvA ↑w0 V)(hp:Pl9 V.p)(hi:Yb V.hi)(E:Yb V.un)(hB:QK ↑w b 118 (Zv R++Ye V))(hR:yt L ↑w V i R)(I:i<3):
  QS sV (gT i) [sP b] w λr w'=>r=sS 0/\O3 [b] w w'/\∃R',QK ↑w' b 118 (Zv R'++Ye V)/\yt L ↑w' V (i+1) R':=by
 have G:i=0\/i=1\/i=2:=oa
 rcases G with rfl|rfl|rfl
 ·exact Qkw hbL hlt hw hL hp hB hR
 ·exact Qkv hbL hlt hw hL hp hB hi hR
 exact Qku hbL hlt hw hL hp hB hi E hR
abbrev tsN (i:Nat):ByteArray:=if i=0 then⟨#[116,114,105,109]⟩else if i=1 then⟨#[111,98,115,101,114,118,101,114]⟩else⟨#[99,111,110,115,105,115,116,101,110,116]⟩
abbrev tsC (i:Nat):LV:=[.string (tsN i),.func (.func (gT i)) #[] #[]]
theorem QgW :QS sV 52 [] w λr w'=>sW w w'/\∀L:LN,(∀b∈L,b<↑w)->Zs L ↑w' r 3 2 ([0,1,2].flatMap tsC):=by
 refine Zl func52 ?_;refine Qc<|Qb<|Qc<|x (QC ⟨O,O,Z⟩)<|x (QC ⟨O,O,Z⟩)<|x (QC ⟨O,O,Z⟩)<|Qo<|Yd (us:=[tsC 0,tsC 1,tsC 2]) O O og od ⟨rfl,rfl,rfl,rfl,rfl,rfl,Z⟩ λE S G T I=>Qb<|Qk ⟨[_],⟨rfl,Z⟩,G,λL hL=>I.arr (λJ=>OU (hL E J) oa) (n:=3) (cap:=3) (sz:=2) rfl og (Lp _)⟩
abbrev Qpv:LV:=Zv rp8++VZ
instance:Bw sV 118 Qpv [(0,8),(8,11)]:={}
instance:Bw sV 59 (Zv rp8) [(0,1),(1,1),(2,1),(3,1),(4,1),(5,1),(6,1),(7,1)]:={}
structure HOk (k:Z3)(hi:LI):Prop where
 e:plE k=0
 p:Pl9 (JS (O5 k.co))
theorem Qdq {k:Z3}{hi:LI}(h:hck k hi=0):Yb hi/\Yb (unc k.ev):=by
 unfold hck at h;by_cases E:Z2 k≠0
 ·rw[OS E]at h;exact OU h E
 rw[OR E]at h;have I:=z7 (Lt.1 E);by_cases J:0<k.ex.length+k.cs.length
 ·rw[OS J]at h;cases h
 rw[OR J]at h;by_cases G:JO (k.ev.length:Int) none hi≠0
 ·rw[OS G]at h;exact OU h G
 have S:=(Y4 _ _ _).1 (Lt.1 G);have hl:=z6 I;exact⟨⟨λx hx=>oo (S.1 x hx),S.2.1⟩,QcO I⟩
theorem QaR {hi:LI}(h:Z0 [] ↑w c)(hH:Qu [] ↑w vh hi)(h3:Kb w 4096)(Y:hck c.C hi=0->HOk c.C hi):
  QS sV 15 [c.val,vh] w λr w'=>sW w w'/\∃R:RpV,r=.tuple #[sT (Zv R),sS (hck c.C hi)]/\ZK (Zv R)/\(hck c.C hi≠0->R=rp8)/\(hck c.C hi=0->∃V:LvV,LvK c hi V/\yt [] ↑w' V 3 R):=by
 refine Zl func15 ?_;refine Qc<|Zc c.cells λb2 w1 hq gj h4=>QT (Zv rp8) λJ w2 hr gk hs=>Qb ?_;have T:=hq.D hr;have gl:=hq.size;refine Qc<|Q3 (h4.I hr) O O<|Qa<|Qw<|(yc (h.I T) (hH.I T) (h3.I T) λe=>(Y e).e).S ?_;rintro _ w3 ⟨ht,us,rfl,h5,h6,hV⟩;have ha:=Qdq (k:=c.C) (hi:=hi);refine Zg (hck c.C hi) λE hE=>?_;rw[hE]at Y hV ha ⊢;refine Qa<|QQ O O<|QQ O O<|QT VZ λb6 w4 h7 h8 h9=>Qo<|ZJ (us:=us) h9 O O h5 O h6 λw5 hA hB=>Qb ?_;have hc:sW w3 w5:=h7.Q hA h8;have hC:=T.D ht;have hu:=hC.D hc;have he:=(hs.I ht).I hc;refine Qe<|Ql<|ZL O O<|xe<|Zh rfl (λhf=>?_) (λhf=>?_)
 ·have I:E≠0:=hf;refine Qc<|x (ZC [] Z)<|Qa<|Q5 (Zv rp8) he ⟨O,O,O,O,O,O,O,O,Z⟩ λw6 hD hF=>Qb<|Qk ⟨[sT (Zv rp8),sS E],⟨JN hF,O,Z⟩,hu.Q hD oa,rp8,O,⟨O,O,O,O,O,O,O,O,Z⟩,λ_=>O,λe=>OU e I⟩
 have I:E=0:=Lt.1 hf;obtain⟨V,rfl,hL,hK⟩:=hV I;have hp:Pl9 V.p:=by rw[hK.p];exact(Y I).p
 have hG:Yb V.hi:=by rw[hK.h];exact(ha I).1
 have hI:Yb V.un:=by rw[hK.u];exact(ha I).2
 have hJ:=hL.I hc;refine Qf<|Qc<|Q3 hB O O<|x (ZC [(1,Ye V)] ⟨O,O,Z⟩)<|Zc (Zv rp8++Ye V) λG w7 hM hN hv=>Qb ?_;have gm:=hs.lt;refine Qe<|Qc<|Qw<|QgW.S ?_;rintro v8 w8 ⟨hw,hP⟩;have hQ:=hv.lt;have hy:Zs [G] ↑w8 v8 3 2 ([0,1,2].flatMap tsC):=hP [G] λb hb=>by rw[Lb.1 hb];exact hQ
 refine QG hy O<|Qa<|xe ?_;have hR:=hM.D hw;have hS:yt [J,G] ↑w8 V 0 rp8:=⟨⟨O,O,O,O,O,O,O,O,Z⟩,(λh=>OU h og),(λh=>OU h og),(λh=>OU h og)⟩;refine QX (α:=Nat×RpV) [(5,5),(10,11),(27,39)] (λz=>[(27,sS z.1)]) (λz w'=>z.1<=3/\O3 [G] w8 w'/\QK ↑w' G 118 (Zv z.2++Ye V)/\yt [J,G] ↑w' V z.1 z.2) (λz=>3 - z.1) (0,rp8) La ⟨Lo _,O3.Y _ _,hv.I hw,hS⟩ ?_;rintro⟨k,R⟩ g w9 ⟨hk,hg,hh,S⟩;simp only[]at hk hh S;have hj:sW w5 w9:=hR.Q hg hN;have hT:=hu.D hj;refine Zi rfl O (λhm=>?_) (λhm=>?_)
 ·refine Qt ?_;have hU:k=3:=by have hn:¬(k:Int)<(3:Nat):=hm;omega
  subst hU;refine Ql<|ZY O<|Q7 O<|x (ZQ (us:=Zv R) hh O O O)<|Q5 (Zv R) (he.I hj) S.ones λgn hz ho=>Qb<|Qk ⟨[sT (Zv R),sS 0],⟨JN ho,O,Z⟩,hT.Q hz oa,R,by rw[I];rfl,S.ones,λe=>OU I e,λ_=>⟨V,hK,?_⟩⟩;have hW:=S.J (b:=J) od hz;exact hW.nil
 have hlt:k<[0,1,2].length:=by have hn:(k:Int)<(3:Nat):=hm;show k<3;omega
 have hX:([0,1,2]:LN)[k]'hlt=k:=by
  have hY:k=0\/k=1\/k=2:=by have hn:k<3:=hlt;omega
  rcases hY with rfl|rfl|rfl <;> rfl
 refine Qf<|Qe<|Qn<|Qc<|O6 (g:=tsC) (es:=[0,1,2]) (i:=k) (λ_=>O) (hy.st hg) O O hlt λgo h0=>?_;rw[hX]at h0;refine x (QF (us:=tsC k) h0 O O)<|QT [.string .empty,.nilFunc] λb10 gq hZ ga ho=>Q5 (tsC k) ho ov λh1 gb gc=>xe ?_;have U:sW w9 h1:=hZ.Q gb ga;have h2:=hh.I U;have ge:∀x∈[J,G],x<h1.heap.size:=λx hx=>by
  simp only[oK,oH,or_false]at hx;have:=he.lt;have:=h2.lt;rcases hx with rfl|rfl <;> omega
 refine Qc<|Qs O gc O O<|Qa<|Qo<|xcH (first:=[]) (capt:=[]) (QpM k) O<|(Qm5 (b:=G) (L:=[J,G]) od ge (hj.D U) hJ hp hG hI h2 (S.I U) hlt).S ?_;rintro _ gr ⟨rfl,gg,R',gh,gi⟩;refine Qb<|Ql<|ZL O O<|xe<|Zz rfl<|Qf<|Qr<|QB O O<|Qa<|xe ?_;exact⟨(k+1,R'),by show 3 - (k+1)<3 - k;have hn:k<3:=hlt;omega,La,hlt,(hg.V U.any).V gg,gh,gi⟩
theorem QkY {U e1 e2 V Y n1 n2:Nat}{E G:O0}{c1 c2:LV}(h1:w.ownsRow T e1 V E n1 c1)(h2:w.ownsRow U e2 Y G n2 c2)(he:e1≠e2):∀b∈ob E,b∉ob G:=by
 intro b hb I;rcases h1.2 with⟨rfl,_⟩|⟨g,cap,cur,rfl,_,J,_⟩
 ·cases hb
 rcases h2.2 with⟨rfl,_⟩|⟨g',cap',cur',rfl,_,S,_⟩
 ·cases I
 have ha:b=g:=Lb.1 hb;have hc:b=g':=Lb.1 I;rw[<-ha]at J;rw[<-hc,J]at S;injection S with h3
 injection h3 with h4 h5
 exact he h5
theorem Qf0 (h:Zp [] ↑w va vm ve a):
  QS sV 166 [.agg #[va,sS a.st,vm,ve]] w λr w'=>sW w w'/\∃va' vm' ve',r=.agg #[va',sS a.st,vm',ve']/\Qh 3 ↑w w' va' a.al/\Qh 3 ↑w w' vm' a.mr/\w'.ownsRow ↑w 179 3 ve' a.ed.length (a.ed.flatMap Qp):=by
 refine Zl func166 ?_;refine Qc<|Zc [va,sS a.st,vm,ve] λb1 w1 hj hy hr=>QT Js λb2 G hk hz hn=>xe ?_;have I:=hj.D hk;have h0:=hj.size;have J:=hr.I hk;have U:sW G { G with drawn:=G.drawn+1 }:=O3.X _ _
 refine Qe<|ZH [] [oz 0,oz 1,oz 3,oz 4,oz 5,oz 6,oz 8,oz 9,oA 2,oA 7,oA 10,oz 11,oA 12]<|p (QH O)<|pq (λ_ E=>Qj (J.I E) O O)<|p (QH O)<|pq (λ_ E=>Qj (J.I E) O O)<|p (QH O)<|pq (λ_ E=>Qj (J.I E) O O)<|p (QH O)<|pq (λ_ E=>Qj (J.I E) O O) <|
  pk<|xg<|(ZT (w:={ G with drawn:=G.drawn+1 }) ((h.al.I I).I U)).S ?_
 rintro V w3 ⟨hs,ht⟩;have S:=U.D hs;refine⟨S,?_⟩;refine pk<|xg<|(ZT (h.mr.I (I.D S))).S ?_;rintro Y w4 ⟨hp,hu⟩;have T:=S.D hp;refine⟨T,?_⟩;refine pk<|xg<|(zV (h.ed.I (I.D T))).S ?_;rintro v5 w5 ⟨ha,he⟩;have hf:=T.D ha;refine⟨hf,?_⟩;have hg:=Qm ht (hp.D ha);have hh:=Qm hu ha;have hv:=hn.I hf;refine p (λ_=>QC ⟨xL hg,O,xL hh,xL he,Z⟩)<|pkk<|UG [V,sS a.st,Y,v5] hv ⟨QA hg,O,QA hh,QA he,Z⟩ λw6 hq hw=>pe ?_;have h1:=I.size;have k:∀{e sz n N:Nat} {v:O0} {cs:LV},w5.ownsRow N e sz v n cs->↑G<=N->w6.ownsRow ↑w e sz v n cs:=λho hN=>Q9 (Qg ho hq λb hb hm=>by have:=(Qi ho b hb).1;rw[Lb.1 hm]at this;have:=hn.lt;omega) oa;exact Qk ⟨[.agg #[V,sS a.st,Y,v5]],⟨JN hw,Z⟩,(I.D hf).Q hq oa,V,Y,v5,O,k hg U.size,k hh S.size,k he T.size⟩
def jN (c:Z3)(A:QD):Z3:=⟨c.ev,[⟨(c.co.map (·.nm)).headD .empty,A⟩],c.rq,[],[]⟩
def coP (N:Nat)(ev:List J9)(q:IV)(i:Nat)(v:O0)(w:OZ):Prop :=
 if i=3 then w.ownsRow N 94 5 v ev.length (ev.flatMap Zr) else
 if i=12 then ∃b,v=sL b 1 1/\N<=b/\QK ↑w b 81 (Zm q) else
 if i=13 then ∃ve b,v=.agg #[ve,sL b 1 1,ZS,ZS,ZS]/\w.ownsRow N 94 5 ve ev.length (ev.flatMap Zr)/\N<=b/\QK ↑w b 81 (Zm q) else
 ∃b,v=sP b/\N<=b/\QK ↑w b 46 KG
theorem Qjo {ev:List J9}{q:IV}(i:Nat)(v:O0)(w w':OZ)(h:coP N ev q i v w)(E:sW w w'):coP N ev q i v w':=by
 unfold coP at *;by_cases e1:i=3
 ·rw[OS e1]at *;exact Qm h E
 rw[OR e1]at *;by_cases e2:i=12
 ·rw[OS e2]at *;obtain⟨b,G,I,J⟩:=h;exact⟨b,G,I,J.I E⟩
 rw[OR e2]at *;by_cases e3:i=13
 ·rw[OS e3]at *;obtain⟨ve,b,G,I,J,S⟩:=h;exact⟨ve,b,G,Qm I E,J,S.I E⟩
 rw[OR e3]at *;obtain⟨b,G,I,J⟩:=h;exact⟨b,G,I,J.I E⟩
theorem Qge {V:LvV}(h:LvA ↑w V)(hp:Pl9 V.p)(hi:Yb V.hi)(hu:0<V.c.co.length):
  QS sV 91 [sT (Ye V)] w λr w'=>sW w w'/\∃us,r=.tuple #[sT us,sS 0]/\us.length=5/\ZK us/\QmB ↑w ↑w' (sT us) (jN V.c.C (Vf V.p V.hi)):=by
 refine Zl func91 ?_;refine Qc<|Zc (Ye V) λb1 w1 gh ph ka=>QT KG λb2 w2 gi pj gj=>Qb ?_;have hD:=gh.D gi;have pn:=gh.size;have hR:=ka.I gi;refine Qc<|Q7 O<|x (ZQ (us:=[V.pa,sS V.p.st,V.pm,V.pe]) hR O O O)<|Qs O hR O O<|Qw<|(yj (h.a.I hD) (h.h.I hD) hp.ok hi.b hi.i hp.s9 hp.e).S ?_;rintro _ w3 ⟨hE,_,vt,rfl,po,Y,ha,he,rfl,hS⟩;have hF:=hS [] od;have kb:=hD.D hE;have kc:=hD.size;refine Qa<|QQ O O<|QQ O O<|QQ O O<|QT Js λb4 w4 ke kf kg=>Q5 [Y,sS (Vf V.p V.hi).st,ha,he] kg ⟨hF.al.one,O,hF.mr.one,hF.ed.one,Z⟩ λI kh gk=>x Qd<|Qb<|Zg (Vf V.p V.hi) λA hA=>?_;rw[hA]at hS hF gk;have hv:sW w3 I:=ke.Q kh kf;have hw:=kb.D hv;refine Qe<|Ql<|ZL O O<|xe<|Zz rfl<|Qf ?_;have hT:=(hR.I hE).I hv;obtain⟨J,hG⟩:∃J,V.c.co[0]'hu=J:=⟨_,O⟩;have ki:J∈V.c.co:=hG ▸ Lk hu;have kj:=h.c.co.arr.I hw;have kk:=h.c.ev.arr.I hw;refine Qe<|KT (α:=O0×Nat×Nat) (sW I) [oz 0,oz 1,oz 2,oz 4,oz 5,oz 6,oz 7,oz 8,oz 9,oz 10,oz 11] (λi=>if i=13 then[3,12]else[]) [3,12,13,14] [oA 15] [(26,26),(35,36),(7,7)] (coP ↑I V.c.ev ⟨J.nm,⟨Y,ha,he,A⟩⟩)
  (λz=>[(36,.agg #[z.1,.slice (some ⟨z.2.1,0,none⟩) 1 1,ZS,ZS,ZS]),(7,.pointer (some ⟨z.2.2,0,none⟩))]) (λz w'=>w'.ownsRow ↑I 94 5 z.1 V.c.ev.length (V.c.ev.flatMap Zr)/\↑I<=z.2.1/\QK ↑w' z.2.1 81 (Zm ⟨J.nm,⟨Y,ha,he,A⟩⟩)/\↑I<=z.2.2/\QK ↑w' z.2.2 46 KG)
  mixed oh oc (O3.X _ _) (λ_ _ h1 h2=>h1.D h2) Qjo ?_ ?_
 ·rintro g w' ⟨_,_,⟨hf,hH,kn,h1,h2,h3⟩,⟨ko,kq,h4,h5⟩,_⟩ _;exact⟨(hf,hH,ko),⟨kn,kq,Z⟩,h1,h2,h3,h4,h5⟩
 refine p (QH O)<|p (QH O)<|pq (λ_ E=>Qj (hT.I E) O O)<|p (QH O)<|p (QH O)<|pq (λ_ E=>Qj (hT.I E) O O)<|Lg.pig (g:=Zm) (i:=0) O (λ_=>O) kj O O hu λpp gl=>?_;rw[hG]at gl;refine p (λ_=>ZE O)<|pq (λ_ E=>Qq ((gl.fld 0 (.string J.nm) O).I E) O)<|pq (λ_ E=>Zb (gk.I E) O O)<|p (λ_=>ZC [(0,[.string J.nm]),(1,[Y,sS A.st,ha,he])] ⟨O,O,O,O,Z⟩) <|
  pe ⟨⟨?_,?_,?_,?_,Z⟩,?_⟩
 ·rintro g w' E _;exact xg<|(QdD (kk.I E)).S λr gm ⟨hs,ho⟩=>⟨hs,Q9 ho E.size,XS ho⟩
 ·rintro g w' E _;exact Q2 [Zm ⟨J.nm,⟨Y,ha,he,A⟩⟩] λb gm hs hb hB=>⟨hs,⟨b,O,Lx E.size hb,ou hB⟩,λc hy=>by rw[List.mem_singleton.1 (show c∈[b] from hy)];exact⟨hb,hB.lt⟩⟩
 ·rintro g w' E ⟨h3,⟨hH,kr,kt,ku⟩,_⟩;refine xv (ZC [(0,[_]),(1,[sL hH 1 1])] ⟨xL (show w'.ownsRow _ _ _ _ _ _ from h3),O,OT Value.cells kr,O,Z⟩) ?_;exact⟨O3.Y _ _,⟨_,hH,O,h3,kt,ku⟩,λc hy=>by cases hy⟩
 ·rintro g w' E _;exact YN (us:=KG) O λb gm hs hb hB=>⟨hs,⟨b,O,Lx E.size hb,hB⟩,λc hy=>by rw[Lb.1 (show c∈[b] from hy)];exact⟨hb,hB.lt⟩⟩
 rintro⟨hf,T,b7⟩ g w6 gn ⟨hI,go,hU,hJ,hK⟩;simp only[]at hI go hU hJ hK;refine pk<|UG [hf,sL T 1 1,ZS,ZS,ZS] hK ⟨QA hI,O,O,O,O,Z⟩ λw7 hM gq=>⟨gn.Q hM hJ,pe ?_⟩;have hN:sW I w7:=gn.Q hM hJ;have kv:=Qg hI hM λb hb S=>Vv hI hK og (Lb.1 S ▸ hb);have gr:T≠b7:=QK.ne hU hK og;have gs:=hU.J hM (by simp only[oF];exact gr);have kw:=hw.D hN;have kx:=hT.I hN;have kz:=hN.size;have pt:=h.c.rq.arr.le;have k0:=h.c.rq.arr.I kw;refine Qe<|Qc<|Q7 O<|Qs O kx O O<|QG k0 O<|Qa<|xe<|QX (α:=Nat×O0×List IV) [(9,9),(41,56)] (λz=>[(41,sS z.1)]) (λz w'=>z.1<=V.c.rq.length/\sW I w'/\w'.ownsRow ↑I 94 5 hf V.c.ev.length (V.c.ev.flatMap Zr)/\QK ↑w' T 81 (Zm ⟨J.nm,⟨Y,ha,he,A⟩⟩)/\T∉ob z.2.1/\QK ↑w' b7 46 [hf,sL T 1 1,z.2.1,ZS,ZS]/\IvP ↑w7 w' z.2.1 z.2.2/\w7.heap.size<=↑w'/\z.2.2.length=z.1/\z.2.2.map IV.it=(V.c.rq.take z.1).map IV.it) (λz=>V.c.rq.length - z.1) (0,ZS,[]) La
  ⟨Lo _,hN,kv,gs,(λS=>by cases S),gq,KU.nil,Lp _,rfl,rfl⟩ ?_
 rintro⟨k,vr,qs⟩ g w8 ⟨hk,hz,h0,gt,gu,hO,U,k4,gv,h6⟩;simp only[]at hk gu hO U gv h6;have hV:=hw.D hz;have hW:b7∉ob vr:=Vv U.own hO og;refine Zi rfl O (λhX=>?_) (λhX=>?_)
 ·refine Qt ?_;have k5:V.c.rq.length<=k:=by have k6:¬(k:Int)<(V.c.rq.length:Int):=hX;omega
  rw[Lq k5]at h6;have k9:=(gj.I (hE.D hv)).I hz;have ma:=gj.lt;have pu:=hE.size;have pw:=hv.size;refine Qc<|Q3 hO O O<|Q5 [hf,sL T 1 1,vr,ZS,ZS] k9 ⟨QA h0,O,QA U.own,O,O,Z⟩ λw9 hg mc=>Qb ?_;have n2:∀{b:Nat},↑I<=b->b∉[b2]:=λhb S=>by rw[Lb.1 S]at hb;omega
  have hY:=Qg h0 hg λb hb=>n2 (Qi h0 b hb).1;have gx:IvP ↑w7 w9 vr qs:=U.low hg λb hb=>by rw[Lb.1 hb];omega
  have mf:=gt.J hg (n2 go);have pz:O3 [b2] I w9:=hz.any.V hg;have mg:=h.c.ev.arr.le;refine Qk ⟨[.agg #[hf,sL T 1 1,vr,ZS,ZS],sS 0],⟨JN mc,O,Z⟩,hV.Q hg oa,_,O,O,⟨QA hY,O,QA gx.own,O,O,Z⟩,
   ⟨hf,sL T 1 1,vr,ZS,ZS,V.c.ev,[⟨J.nm,⟨Y,ha,he,A⟩⟩],qs,[],[]⟩,O,?_,λL hL=>?_⟩
  ·rw[hA];unfold jN;have mh:(V.c.C.co.map (·.nm)).headD .empty=J.nm:=by
    show((V.c.co.map IV.it).map (·.nm)).headD .empty=_;cases gy:V.c.co with
    | nil=>rw[gy]at hu;cases hu
    | cons z zs=>simp only[gy]at hG;rw[<-hG];rfl
   rw[mh];show(⟨V.c.ev,[⟨J.nm,A⟩],qs.map IV.it,[],[]⟩:Z3)=_;rw[h6];rfl
  have hZ:∀b∈L,b<I.heap.size:=λb hb=>LQ (hL b hb) hw.size;have mj:∀b∈b2::L,b<w2.heap.size:=λb hb=>by
   rcases Ln.1 hb with rfl|hb
   ·exact ma
   exact LQ (hL b hb) kc
  have mo:Zp L ↑w9 Y ha he A:=(((hS (b2::L) mj).I (hv.D hz)).st (hg.S λb hb=>by rw[Lb.1 hb];exact Ll)).up λb hb=>.inl (Lj _ hb);refine⟨⟨QM hY mg λb hb mq=>oq (Qi hY b hb).1 (hZ b mq),h.c.ev.nm⟩,⟨?_,λq G=>by rw[Lb.1 G];exact mo,λq G=>by rw[Lb.1 G];exact h.c.co.nm J ki⟩,gx.itms oa (λq G=>?_) (λb hb=>LQ (hZ b hb) kz),⟨Zs.nil _ _ _,(λq G=>by cases G),(λq G=>by cases G)⟩,⟨Zs.nil _ _ _,(λq G=>by cases G),(λq G=>by cases G)⟩⟩
  ·exact mf.arr (λS=>oo (hZ T S)) (n:=1) (cap:=1) (sz:=5) O og (Lp _)
  have:q.it∈V.c.rq.map IV.it:=h6 ▸ LG G;obtain⟨q',ms,e⟩:=Ly.1 this;have e':q'.nm=q.nm:=OT Jp.nm e;rw[<-e'];exact h.c.rq.nm q' ms
 have hn:k<V.c.rq.length:=by have k6:(k:Int)<(V.c.rq.length:Int):=hX;omega
 have gz:=Lk hn;have g0:V.c.rq.take (k+1)=V.c.rq.take k++[V.c.rq[k]'hn]:=Lh hn;refine Zg (V.c.rq[k]'hn) λq G=>?_;rw[G]at gz g0;have hj:=(h.c.rq.each q gz).I hV;refine Qf<|Qe<|Qn<|Qc<|O6 (g:=Zm) (i:=k) (λ_=>O) (h.c.rq.arr.I hV) O O hn λp0 g2=>?_;rw[G]at g2;refine x (QF (us:=Zm q) g2 O O)<|QT [.string .empty,nS,sS 0,nS,nS] λb9 w9 hg mt mu=>Q5 (Zm q) mu ⟨O,hj.al.one,O,hj.mr.one,hj.ed.one,Z⟩ λhr mv g3=>xe ?_;have hP:sW w8 hr:=hg.Q mv mt;have ga:=hO.I hP;have gb:=hP.size;have g4:b9∉ob vr:=λS=>oo (QU U.own b9 S)
 have g5:sW hr { hr with drawn:=hr.drawn+1 }:=O3.X _ _
 refine ZH (ob vr) (Y0 0 12 [6,8,9,11])<|p (QH O)<|pq (λ_ E=>Qj (ga.J E hW) O O)<|p (QH O)<|pq (λ_ E=>Qj (g3.J E g4) O O)<|p (QH O)<|pq (λ_ E=>ZQ (us:=[q.p.va,sS q.p.a.st,q.p.vm,q.p.ve]) (g3.J E g4) O O O) <|
  pk<|xg<|(Qf0 (w:={ hr with drawn:=hr.drawn+1 }) ((hj.I hP).I g5)).S ?_
 rintro _ p4 ⟨mw,ca,cm,ce,rfl,my,mz,m0⟩;have gc:=g5.D mw;refine⟨gc.any,?_⟩;refine p (λ_=>ZC [(0,[.string q.nm]),(1,[ca,sS q.p.a.st,cm,ce])] ⟨O,O,O,O,Z⟩)<|pk<|Q2 [Zm ⟨q.nm,⟨ca,cm,ce,q.p.a⟩⟩] λp5 p6 h7 p7 m1=>⟨(gc.D h7).any,?_⟩;have h8:=gc.D h7;have h9:=hP.D h8;have p8:=h8.size;have g6:=Qm my h7;have g7:=Qm mz h7;have g8:=Qm m0 h7;refine pk<|QZ (m:=1) (news:=Zm ⟨q.nm,⟨ca,cm,ce,q.p.a⟩⟩) (L:=[]) (Qm U.own h9) O O O (by have:=m1.at (L:=[]) od;simpa using this) (ZK.all (us:=Zm ⟨q.nm,⟨ca,cm,ce,q.p.a⟩⟩) ⟨rfl,QA g6,rfl,QA g7,QA g8,Z⟩) oa oa λhQ m2 ge hh m3=>⟨h8.any.V hh,?_⟩;refine p (QH O)<|pkk<|Qv (u:=hQ) ((ga.I h8).J hh hW) O O (L3 O) (QA ge) λgg hC m4=>pe ?_;refine Qr<|QB O O<|Qa<|xe ?_;have m5:=hj.al.le;have m6:=hj.mr.le;have m7:=hj.ed.le;have m8:IvP ↑w7 m2 hQ (qs++[⟨q.nm,⟨ca,cm,ce,q.p.a⟩⟩]):=KU.app U h9 (λt ht=>by
  simp only[oK,oH,or_false]at ht;rcases ht with rfl|rfl|rfl
  ·exact⟨_,_,g6,m5,gb⟩
  ·exact⟨_,_,g7,m6,gb⟩
  exact⟨_,_,g8,m7,gb⟩) k4 ge hh m3
 have m9:=gq.lt;have pc:=gs.lt;have pd:IvP ↑w7 gg hQ (qs++[⟨q.nm,⟨ca,cm,ce,q.p.a⟩⟩]):=m8.low hC λb hb=>by rw[Lb.1 hb];exact m9
 have p9:=hh.size;have qf:=hC.size;have g9:=Qg (Qm h0 h9) hh λb hb=>QkY h0 U.own og b hb;have pf:=Qg g9 hC λb hb S=>Vv g9 ((ga.I h8).J hh hW) og (Lb.1 S ▸ hb);have pg:sW I gg:=((hz.D h9).O hh λb hb=>.inr (oo (Qi U.own b hb).1)).Q hC hJ;refine⟨(k+1,hQ,qs++[⟨q.nm,⟨ca,cm,ce,q.p.a⟩⟩]),by show V.c.rq.length - (k+1)<V.c.rq.length - k;omega,La,hn,pg,pf,((gt.I h9).J hh gu).J hC (by simp only[oF];exact gr),QJ ge pc,m4,pd,by show w7.heap.size<=↑gg;omega,by show(qs++[_]).length=k+1;rw[Lc,gv];rfl,?_⟩;simp only[];rw[g0,Lv,Lv,h6];rfl
theorem Qd4 {ps:List AV}(h:XN [] ↑w vl ps)(ho:∀p∈ps,Q8 p.a)(ha:Kb w 4096):
  QS sV 43 [vl] w λr w'=>sW w w'/\∃va,r=.tuple #[va,sS (Ve (ps.map (·.a)))]/\(Ve (ps.map (·.a))≠0->va=zA)/\(Ve (ps.map (·.a))=0->Y5 ↑w ↑w' va (JS (ps.map (·.a)))):=by
 refine Zl func43 ?_;refine Qc<|QT qk λb2 w1 E he S=>Qb<|Ql<|Qw<|(Um (km:=4096) (h.I E) (ha.I E) og (Qae ho)).S ?_;rintro r2 w2 ⟨hf,vA,vt,c,rfl,hR⟩;have I:=hR.e;obtain⟨a,xa,xm,G,qs,rfl,T,hp,_⟩:=hR.shape;refine Qa<|QQ O O<|QQ O O<|QQ O O<|QT qk λb4 w3 hg hh hj=>Q5 [xa,sS a.st,xm,G] hj T λw4 hk hm =>
  x Qd<|Qb ?_
 have U:sW w2 w4:=hg.Q hk hh;have V:=hf.D U;refine Qc<|Q3 hm O O<|Qa<|Q5 [xa,sS a.st,xm,G] (S.I V) T λw5 Y hn=>Qb<|Qk ⟨[.agg #[xa,sS a.st,xm,G],sS c],⟨JN hn,O,Z⟩,(E.D V).Q Y he,.agg #[xa,sS a.st,xm,G],?_,λJ=>?_,λJ=>?_⟩
 ·show Value.tuple _=Value.tuple _;rw[I]
 ·exact(hR.bad (by rw[I];exact J)).1
 have h1:=(hR.good (by rw[I];exact J)).1;exact(XQ (h1.I U) S.lt Y).S E.size
def lgP (N:Nat)(a b:QD)(i:Nat)(v:O0)(w:OZ):Prop :=
 if i=1 then ∃b1 m1 m2,v=sP b1/\N<=b1/\N<=m1/\N<=m2/\Mch ↑w b1 m1 m2 a
 else if i=3 then ∃b1 m1 m2,v=sP b1/\N<=b1/\N<=m1/\N<=m2/\Mch ↑w b1 m1 m2 b
 else ∃bb,v=sP bb/\N<=bb/\QK ↑w bb 152 [.pointer none]
theorem Qlm {b:QD}:∀i v w w',lgP N a b i v w->sW w w'->lgP N a b i v w':=by
 intro i v w w' h G;unfold lgP at h ⊢;split
 ·rename_i I;rw[OS I]at h;obtain⟨J,S,T,e,E,U,V,Y⟩:=h;exact⟨J,S,T,e,E,U,V,Y.I G⟩
 rename_i I;rw[OR I]at h;split
 ·rename_i h2;rw[OS h2]at h;obtain⟨J,S,T,e,E,U,V,Y⟩:=h;exact⟨J,S,T,e,E,U,V,Y.I G⟩
 rename_i h2;rw[OR h2]at h;obtain⟨bb,e,E,hB⟩:=h;exact⟨bb,e,E,hB.I G⟩
theorem YT {κ:Type}{enc:κ->O0}{H:xz}{b:Nat}{m:List (κ×O0)}(h:ZO enc H b m)(E:QK H G T cs):b≠G:=by
 intro e;subst e;obtain⟨es,c,I,_⟩:=h;unfold QK at E;rw[I]at E;cases E
structure LgZ where
 p1:Nat
 p2:Nat
 p3:Nat
 q1:Nat
 q2:Nat
 q3:Nat
 b10:Nat
 b11:Nat
theorem Qdg {wa wm we:O0}{b:QD}(hA:Zp [] ↑w va vm ve a)(V:Zp [] ↑w wa wm we b)(kd:Int):
  QS sV 30 [.agg #[va,sS a.st,vm,ve],.agg #[wa,sS b.st,wm,we],sS kd] w λr w'=>sW w w'/\∃v e,r=.tuple #[v,.bool e,sS (lgE a b kd)] /\
   (lgE a b kd=0->match lgq a b kd with|none=>v=Zo/\e=true|some u=>e=false/\Qh 3 ↑w w' v u):=by
 refine Zg (lgE a b kd) λE hE=>?_;refine Zg (lgq a b kd) λR hR=>?_;rw[hE,hR];refine Zl func30 ?_;refine Qc<|Zc [va,sS a.st,vm,ve] λb3 w1 hJ ge hK=>Zc [wa,sS b.st,wm,we] λb4 w2 h4 gg hL=>Zc [sS kd] λb5 w3 ht gh h5=>x Qd <|
  x Qd<|Qb ?_
 have hN:=(hJ.D h4).D ht;have h6:=(hK.I h4).I ht;have h7:=hL.I ht;refine Qe<|Qc<|ZB h5 O O<|Q3 h6 O O<|Q3 h7 O O<|Qo<|Q2 [[va,sS a.st,vm,ve],[wa,sS b.st,wm,we]] λhO w4 h8 gi hP=>?_;have hu:=hN.D h8;have hQ:XN [] ↑w4 (sL hO 2 2) [⟨va,vm,ve,a⟩,⟨wa,wm,we,b⟩]:=⟨hP.arr od (n:=2) (cap:=2) (sz:=4) rfl oa (Lp _),λp hp=>by
  simp only[oK,oH,or_false]at hp;rcases hp with rfl|rfl
  ·exact hA.I hu
  exact V.I hu⟩
 have hck:=Qdh hQ kd;rw[show[(⟨va,vm,ve,a⟩:AV),⟨wa,wm,we,b⟩].map (·.a)=[a,b] from rfl,QpW,hE]at hck;refine Qw<|hck.S ?_;rintro r5 w5 ⟨rfl,hk⟩;refine Qb ?_;have hq:=hu.D hk;have hv:=h8.D hk;refine Ql<|ZL O O<|xe<|Zh rfl (λhw=>?_) (λhw=>?_)
 ·refine Ql<|x Qd<|x Qd<|Qb<|Qk ⟨[Zo,.bool false,sS E],ox,hq,Zo,false,O,λh0=>OU h0 hw⟩
 have h9:E=0:=Lt.1 hw;have hok:Q8 a/\Q8 b:=by
  have Y:lgE a b kd=0:=hE.D h9;unfold lgE at Y;by_cases h2:XX a≠0
  ·rw[OS h2]at Y;exact OU Y h2
  rw[OR h2]at Y;by_cases h3:XX b≠0
  ·rw[OS h3]at Y;exact OU Y h3
  exact⟨(Zy a).1 (Lt.1 h2),(Zy b).1 (Lt.1 h3)⟩
 refine Qf ?_;have hC:=h6.I hv;have hD:=h7.I hv;have hT:=h5.I hv;have hU:=hA.I hq;have hV:=V.I hq;refine QW (α:=LgZ) [(22,25),(10,11)] (λz=>[(10,.pointer (some ⟨z.b10,0,none⟩)),(11,.pointer (some ⟨z.b11,0,none⟩))]) (λz w'=>sW w5 w'/\Mch ↑w' z.p1 z.p2 z.p3 a/\Mch ↑w' z.q1 z.q2 z.q3 b/\QK ↑w' z.b10 152 [.pointer (some ⟨z.p1,0,none⟩)]/\QK ↑w' z.b11 152 [.pointer (some ⟨z.q1,0,none⟩)]) oh ?_ ?_
 ·refine KT (α:=LgZ) (sW w5) [oz 0,oz 2] (λ_=>[]) [1,3,4,5] [oA 6,oA 7] [(23,23),(25,25),(10,11)] (lgP ↑w5 a b)
   (λz=>[(23,.pointer (some ⟨z.p1,0,none⟩)),(25,.pointer (some ⟨z.q1,0,none⟩)),(10,.pointer (some ⟨z.b10,0,none⟩)),(11,.pointer (some ⟨z.b11,0,none⟩))])
   (λz w'=>Mch ↑w' z.p1 z.p2 z.p3 a/\Mch ↑w' z.q1 z.q2 z.q3 b/\QK ↑w' z.b10 152 [.pointer none]/\QK ↑w' z.b11 152 [.pointer none]/\(z.b10≠z.b11/\z.p1≠z.b10/\z.p1≠z.b11/\z.q1≠z.b10/\z.q1≠z.b11)/\↑w5<=z.b10/\↑w5<=z.b11)
   mixed oh oc (O3.X _ _) (λ_ _ Y h2=>Y.D h2) Qlm ?_ ?_
  ·rintro g w' ⟨⟨p1,p2,p3,e1,_,_,_,I⟩,⟨q1,q2,q3,e2,_,_,_,J⟩,⟨b10,e3,hn,S⟩,⟨b11,e4,hr,T⟩,_⟩ ho;refine⟨⟨p1,p2,p3,q1,q2,q3,b10,b11⟩,⟨e1,e2,e3,e4,Z⟩,I,J,S,T,?_,hn,hr⟩;have d1:=ho 4 od 5 od og;have d2:=ho 1 od 4 od og;have d3:=ho 1 od 5 od og;have d4:=ho 3 od 4 od og;have d5:=ho 3 od 5 od og;rw[e3,e4]at d1;rw[e1,e3]at d2;rw[e1,e4]at d3;rw[e2,e3]at d4;rw[e2,e4]at d5;simp only[ow,oF,forall_eq]at d1 d2 d3 d4 d5;exact⟨d1,d2,d3,d4,d5⟩
  refine pq (λ_ G=>Zb (hC.I G) O O)<|pq (λ_ G=>Zb (hD.I G) O O)<|pe ⟨⟨?_,?_,?_,?_,Z⟩,?_⟩
  ·intro g w' G _;refine xg<|(jf (hU.I G) hok.1).S ?_;rintro r5 w6 ⟨hf,b1,m1,m2,rfl,n1,n2,n3,hM⟩;have hz:=G.size;exact⟨hf,⟨b1,m1,m2,O,Lx hz n1,Lx hz n2,Lx hz n3,hM⟩,λc hg=>by rw[Lb.1 (show c∈[b1] from hg)];exact⟨n1,hM.B.lt⟩⟩
  ·intro g w' G _;refine xg<|(jf (hV.I G) hok.2).S ?_;rintro r5 w6 ⟨hf,b1,m1,m2,rfl,n1,n2,n3,hM⟩;have hz:=G.size;exact⟨hf,⟨b1,m1,m2,O,Lx hz n1,Lx hz n2,Lx hz n3,hM⟩,λc hg=>by rw[Lb.1 (show c∈[b1] from hg)];exact⟨n1,hM.B.lt⟩⟩
  ·intro g w' G _;exact YN (us:=[.pointer none]) O λb w5 hk hb V=>⟨hk,⟨b,O,Lx G.size hb,V⟩,λc hg=>by rw[Lb.1 (show c∈[b] from hg)];exact⟨hb,V.lt⟩⟩
  ·intro g w' G _;exact YN (us:=[.pointer none]) O λb w5 hk hb V=>⟨hk,⟨b,O,Lx G.size hb,V⟩,λc hg=>by rw[Lb.1 (show c∈[b] from hg)];exact⟨hb,V.lt⟩⟩
  rintro⟨p1,p2,p3,q1,q2,q3,b10,b11⟩ g w6 hF ⟨I,J,S,T,hh,hn,hr⟩;simp only[]at I J S T hh hn hr;have k1:=YT I.e S;have k2:=YT I.m S;have k3:=YT J.e S;have k4:=YT J.m S;have j1:=YT I.e T;have j2:=YT I.m T;have j3:=YT J.e T;have j4:=YT J.m T;refine pk<|Qv (u:=sP p1) S O O od rfl λw7 hj hW=>⟨hF.Q hj hn,?_⟩;refine pkk<|Qv (u:=sP q1) (T.J hj (by simp only[oF];exact λe=>hh.1 e.symm)) O O od rfl λw8 U hX=>pe ?_;have s1:∀{x:Nat},x≠b10->x∉[b10]:=λh hm=>h (Lb.1 hm);have s2:∀{x:Nat},x≠b11->x∉[b11]:=λh hm=>h (Lb.1 hm);exact⟨⟨p1,p2,p3,q1,q2,q3,b10,b11⟩,ov,(hF.Q hj hn).Q U hr,(I.J hj (s1 hh.2.1) (s1 k1) (s1 k2)).J U (s2 hh.2.2.1) (s2 j1) (s2 j2),(J.J hj (s1 hh.2.2.2.1) (s1 k3) (s1 k4)).J U (s2 hh.2.2.2.2) (s2 j3) (s2 j4),hW.J U (s2 hh.1),hX⟩
 rintro⟨p1,p2,p3,q1,q2,q3,b10,b11⟩ g w6 ⟨hf,I,J,S,T⟩;simp only[]at I J S T;have hs:=hq.D hf;have gj:=hs.size;have hY:=hC.I hf;have hZ:=hD.I hf;have ga:=hT.I hf;have hy:sW w6 { w6 with drawn:=w6.drawn+1 }:=O3.X _ _
 have gk:=hA.al.le;have gl:=V.al.le;have gm:=hok.1.al_le;have gn:=hok.2.al_le;refine Qe<|ZH [] [oz 0,oz 1,oz 2,oz 3,oz 5,oz 6,oz 7,oA 4,oA 8,oz 9,oz 10,oz 11,oz 12,oz 13]<|p (QH O)<|pq (λ_ G=>Qj (hY.I G) O O)<|p (QH O)<|pq (λ_ G=>Qj (hZ.I G) O O) <|
  pq (λ_ G=>Qj (S.I G) O O)<|pq (λ_ G=>Qj (T.I G) O O)<|p (λ_=>Zk (l:=[]) (l':=[_,_,_])) <|
  pk<|xg<|(yf ((hA.al.I hs).I hy) ((V.al.I hs).I hy) oa).S ?_
 rintro r7 w7 ⟨hj,gb⟩;have ha:=hy.D hj;have go:=ha.size;refine⟨ha,?_⟩;have gq:(mrg (· || ·) a.al b.al).length<=64:=by
  have:=qF (· || ·) a.al b.al;omega
 have hS:=Qfv (kd:=kd) (g:=72) (cap:=[sP b10,sP b5,sP b11]) (Qh.ints (L:=[]) gb oa od) (I.I ha) (J.I ha) hok.1 hok.2
  (λs t w8 U=>Qii ((S.I ha).I U) ((T.I ha).I U) ((ga.I ha).I U) ((I.I ha).I U) ((J.I ha).I U) s t)
 have gc:lgL a b kd (mrg (· || ·) a.al b.al) ((a.st.toNat+1)*(b.st.toNat+1)+1) 0 [⟨fst a,fst b,-1,0⟩]=R:=hR;rw[gc]at hS;refine pk<|xg<|hS.S ?_;rintro r8 w8 ⟨U,hG⟩;have hH:=ha.D U;refine⟨hH,?_⟩;have he:∃v e,r8=.tuple #[v,.bool e]/\(match R with|none=>v=Zo/\(!e)=true|some u=>(!e)=false/\Qh 3 ↑w7 w8 v u):=by
  cases R with
  | none=>exact⟨Zo,false,hG,O,O⟩
  | some u=>obtain⟨v,Y,h2⟩:=hG;exact⟨v,true,Y,O,h2⟩
 refine Exists.elim he λv he=>Exists.elim he λe he=>And.elim (λhI he=>?_) he;refine p Qx<|p (λ_=>QV (show ev _ _=_ from hI) O)<|p (λ_=>QV (show ev _ _=_ from hI) O)<|p ZA<|p ZA<|pe ?_;refine Ql<|Qa<|x (Zj O)<|x Qd<|x Qd<|Qb<|Qk ⟨[v,.bool (!e),sS 0],ox,hs.D hH,v,!e,by rw[h9];rfl,λ_=>?_⟩;cases R with
 | none=>exact he
 | some u=>exact⟨he.1,Q9 he.2 oa⟩
abbrev Jb (c:Z3):QD:=JS (O5 c.co)
abbrev V8 (c:Z3)(hi:LI):Z3:=jN c (Vf (Jb c) hi)
def htE (c:Z3)(hi:LI):Int:=if yL (V8 c hi)≠0 then yL (V8 c hi) else Ve [Jb c,qy (V8 c hi)]
def htA (c:Z3)(hi:LI):QD:=JS [Jb c,qy (V8 c hi)]
def hsE (c:Z3)(hi:LI):Int:=if hck c hi≠0 then hck c hi else yL (V8 c hi)
def hcE (c:Z3)(hi:LI):Int:=if htE c hi≠0 then htE c hi else yL c
def hcR (c:Z3)(hi:LI):Option (LI):=match lgq (htA c hi) (qy c) 1 with|some u=>some u|none=>lgq (htA c hi) (qy c) 2
theorem Qg6 {l:List QD}(I:∀a∈l,Q8 a)(h:Ve l=0):Q8 (JS l):=by
 unfold Ve at h;by_cases E:Vd l≠0
 ·rw[OS E]at h;exact OU h E
 rw[OR E]at h;cases G:xj l with
 | none=>rw[G]at h;cases h
 | some z =>
  have e:JS l=z.1:=by unfold JS;rw[G]
  rw[e];exact(YK I (A:=z.1) (Q:=z.2) G).1.okay I
theorem Qij {b:QD}(E:Q8 a)(hb:Q8 b){kd:Int}(G:kd=1\/kd=2):lgE a b kd=0:=by
 unfold lgE;rw[OR (by rw[(Zy a).2 E];simp),OR (by rw[(Zy b).2 hb];simp),OR oa]
instance:Bw sV 53 Js [(0,1),(1,1),(2,1),(3,1)]:={}
theorem UJ:ZK Js:=oy
theorem QnH {E G I:O0}{J:QD}{b:Nat}(T:QK ↑w b 53 ([Zx ⟨va,vm,ve,a⟩,Zx ⟨E,G,I,J⟩]:List (LV)).flatten)(h:Zp [] ↑w va vm ve a)(U:Zp [] ↑w E G I J):
  XN [] ↑w (sL b 2 2) [⟨va,vm,ve,a⟩,⟨E,G,I,J⟩]:=
 ⟨T.arr od rfl oa (Lp 2),λp S=>by
  rcases Ln.1 S with rfl|S
  ·exact h
  rw[Lb.1 S];exact U⟩
theorem Qid {V:LvV}(h:LvA ↑w V)(hj:Kb w 4096)(hp:Pl9 V.p)(hi:Yb V.hi)(hm:0<V.c.co.length):
  QS sV 92 [sT (Ye V)] w λr w'=>sW w w'/\∃us,r=.tuple #[sT us,sS (yL (jN V.c.C (Vf V.p V.hi)))]/\us.length=4/\ZK us/\(yL (jN V.c.C (Vf V.p V.hi))≠0->us=Js)/\(yL (jN V.c.C (Vf V.p V.hi))=0->Y5 ↑w ↑w' (sT us) (qy (jN V.c.C (Vf V.p V.hi)))):=by
 refine Zl func92 ?_;refine Qc<|Zc (Ye V) λb1 w1 U h5 hn=>QT Js λb2 w2 Y h6 ha=>Qb ?_;have hc:=U.D Y;have h7:=U.size;refine Qc<|Q3 (hn.I Y) O O<|Qw<|(Qge (h.I hc) hp hi hm).S ?_;rintro _ w3 ⟨I,us,rfl,he,ho,k,hk,hf,hq⟩;refine Zg (jN V.c.C (Vf V.p V.hi)) λT hT=>?_;rw[hT]at hf ⊢;refine Qa<|QQ O O<|QQ O O<|QT KG λb4 w4 hr hs ht=>Qo<|ZJ (us:=us) ht O O he O ho λw5 hu hv=>Qb ?_;have G:sW w3 w5:=hr.Q hu hs;have J:=(hc.D I).D G;have hw:=J.size;refine Qe<|Ql<|ZL O O<|xe<|Zz rfl<|Qf ?_;have hy:Z0 [] ↑w5 k:=(hq [] od).I G;have hS:=Vk hy (hj.I J);rw[<-hk,hf]at hS;refine Qc<|Q3 hv O he<|Qw<|hS.S ?_;rintro _ w7 ⟨hg,sa,sm,se,rfl,E,hz,h0⟩;have h2:=((ha.I I).I G).I hg;have h3:=ha.lt;refine QQ rfl O<|QQ O O<|Q5 [sa,sS (if YQ T=0 then(qy T).st else 0),sm,se] h2 ⟨E.1,O,E.2.1,E.2.2.1,Z⟩ λw8 hh h4=>Qb<|Qk ⟨[.agg #[sa,sS (if YQ T=0 then(qy T).st else 0),sm,se],sS (yL T)],⟨JN h4,O,Z⟩,(J.D hg).Q hh oa,_,O,O,⟨E.1,O,E.2.1,E.2.2.1,Z⟩,λhE=>?_,λhE=>?_⟩
 ·obtain⟨e1,e2,e3⟩:=hz hE;have S:¬YQ T=0:=hE;rw[e1,e2,e3,OR S]
 have S:YQ T=0:=hE;rw[OS S];refine⟨sa,sm,se,O,λL hL=>?_⟩;have h1:=h0 hE (b2::L) λb hb=>by
  rcases Ln.1 hb with rfl|hb
  ·exact LQ h3 (Lx I.size G.size)
  exact LQ (hL b hb) hw
 exact(h1.st (hh.S λb hb=>by rw[Lb.1 hb];exact Ll)).up λb hb=>.inl (Lj _ hb)
theorem Qic {V:LvV}{c:Z3}{hi':LI}(h:LvA ↑w V)(hn:Kb w 4096)(hp:Pl9 V.p)(hi:Yb V.hi)(h1:0<V.c.co.length)(hc:V.c.C=c)(ha:V.p=Jb c)(h2:V.hi=hi'):
  QS sV 66 [sT (Ye V)] w λr w'=>sW w w'/\∃us,r=.tuple #[sT us,sS (htE c hi')]/\us.length=4/\ZK us/\(htE c hi'≠0->us=Js)/\(htE c hi'=0->Y5 ↑w ↑w' (sT us) (htA c hi')):=by
 have hT:jN V.c.C (Vf V.p V.hi)=V8 c hi':=by rw[hc,ha,h2]
 have G:htE c hi'=if yL (V8 c hi')≠0 then yL (V8 c hi') else Ve [V.p,qy (V8 c hi')]:=by unfold htE;rw[ha]
 have ho:htA c hi'=JS [V.p,qy (V8 c hi')]:=by unfold htA;rw[ha]
 refine Zg (htE c hi') λE hE=>?_;rw[hE]at G ⊢;refine Zl func66 ?_;refine Qc<|Zc (Ye V) λb1 w1 hr hO hs=>QT Js λb2 w2 he hP h3=>Qb ?_;have hf:=hr.D he;have hQ:=hr.size;have hS:=Qid (h.I hf) (hn.I hf) hp hi h1;rw[hT]at hS;refine Qc<|Q3 (hs.I he) O O<|Qw<|hS.S ?_;rintro _ w3 ⟨hg,us,rfl,h4,h5,h6,hh⟩;refine Zg (yL (V8 c hi')) λF hF=>?_;have ht:F=0->Q8 (qy (V8 c hi')):=λe=>qV (hF.D e);rw[hF]at G h6 hh;refine Zg (qy (V8 c hi')) λS h7=>?_;rw[h7]at G ho hh ht;refine Qa<|QQ O O<|x (QV O (OT (λi=>some (sS i)) hF))<|QT Js λb4 w4 h8 h9 hA=>Qo<|ZJ (us:=us) hA O O h4 O h5 λw5 hB hD=>Qb ?_;have T:sW w3 w5:=h8.Q hB h9;have hu:=(hf.D hg).D T;have hj:=(h3.I hg).I T;refine Qe<|Ql<|ZL O O<|xe<|Zh rfl (λhk=>?_) (λhk=>?_)
 ·have I:F≠0:=hk;rw[OS I]at G;refine Qc<|x (ZC [] Z)<|Qa<|Q5 Js hj UJ λw6 hG hH=>Qb<|Qk ⟨[sT Js,sS F],⟨JN hH,O,Z⟩,hu.Q hG oa,Js,by rw[G];rfl,O,UJ,λ_=>O,λe=>OU (G.symm.D e) I⟩
 have I:F=0:=Lt.1 hk;rw[OR (λe=>e I)]at G;refine Qf ?_;obtain⟨sa,sm,se,hI,hJ⟩:=hh I;have hK:us=[sa,sS S.st,sm,se]:=by
  have:=Value.agg.inj hI;exact OT Array.toList this
 subst hK;have hL:=hJ [] od;refine Qc<|Q7 O<|x (ZQ (us:=[V.pa,sS V.p.st,V.pm,V.pe]) (((hs.I he).I hg).I T) O O O)<|Q3 hD O O<|Qo<|Q2 [Zx ⟨V.pa,V.pm,V.pe,V.p⟩,Zx ⟨sa,sm,se,S⟩] λhR w7 U hU hM=>?_;have Y:=hu.D U;have hC:=Qd4 (QnH hM (h.a.I Y) (hL.I (T.D U))) (λq hq=>by
  rcases Ln.1 hq with rfl|hq
  ·exact hp.ok
  rw[Lb.1 hq];exact ht I) (hn.I Y)
 simp only[oS,OG]at hC;rw[<-G,<-ho]at hC;refine Qw<|hC.S ?_;rintro r8 w8 ⟨hw,va,rfl,hy,hz⟩;obtain⟨vs,hv,hm,hvo⟩:∃vs,va=sT vs/\vs.length=4/\ZK vs:=by
  by_cases J:E=0
  ·exact Xy (hz J)
  exact⟨Js,hy J,O,UJ⟩
 subst hv;have hV:=U.size;refine QQ rfl O<|QQ O O<|Qo<|ZJ (us:=vs) (hj.I (U.D hw)) O O hm O hvo λw9 h0 hN=>Qb<|Qk ⟨[sT vs,sS E],⟨⟨_,O,Z4 hm (hN.at (L:=[]) od).cells⟩,rfl,Z⟩,(Y.D hw).Q h0 oa,vs,rfl,hm,hvo,λJ=>?_,λJ=>?_⟩
 ·have:=Value.agg.inj (hy J);exact OT Array.toList this
 have hW:=hj.lt;exact(XQ (hz J) oa h0).S Y.size
theorem Qn6 {k:Z3}{hi:LI}(h:hck k hi=0):0<k.co.length:=by
 unfold hck at h;by_cases E:Z2 k≠0
 ·rw[OS E]at h;exact OU h E
 exact Nat.pos_of_ne_zero (YI (Lt.1 E)).c0
theorem zE {hi:LI}(h:Z0 [] ↑w c)(hH:Qu [] ↑w vh hi)(hf:Kb w 4096)(S:hck c.C hi=0->HOk c.C hi):
  QS sV 21 [c.val,vh] w λr w'=>sW w w'/\∃vw,r=.tuple #[vw,sS (hck c.C hi)]/\vw.oneCell'=true/\(hck c.C hi≠0->vw=ZS)/\(hck c.C hi=0->Qh 3 ↑w w' vw (QbX (Jb c.C) hi (unc c.C.ev))/\Yb (QbX (Jb c.C) hi (unc c.C.ev))):=by
 refine Zl func21 ?_;refine Qc<|Zc c.cells λb2 w1 hg hw hh=>x Qd<|Qb ?_;have I:=hg;refine Qc<|Q3 hh O O<|Qa<|Qw<|(yc (h.I I) (hH.I I) (hf.I I) λe=>(S e).e).S ?_;rintro _ w3 ⟨hj,us,rfl,hk,hm,hV⟩;have T:=Qdq (k:=c.C) (hi:=hi);refine Zg (hck c.C hi) λE hE=>?_;rw[hE]at S hV T ⊢;refine Qa<|QQ O O<|QQ O O<|QT VZ λb6 w4 hn ho hq=>Qo<|ZJ (us:=us) hq O O hk O hm λw5 hr ha=>Qb ?_;have hc:sW w3 w5:=hn.Q hr ho;have hs:=I.D hj;have J:=hs.D hc;refine Qe<|Ql<|ZL O O<|xe<|Zh rfl (λU=>?_) (λU=>?_)
 ·have G:E≠0:=U;refine Ql<|x Qd<|Qb<|Qk ⟨[ZS,sS E],ov,J,ZS,O,O,λ_=>O,λe=>OU e G⟩
 have G:E=0:=Lt.1 U;obtain⟨V,rfl,hL,hK⟩:=hV G;have hp:Pl9 V.p:=by rw[hK.p];exact(S G).p
 have ht:Yb V.hi:=by rw[hK.h];exact(T G).1
 have hu:Yb V.un:=by rw[hK.u];exact(T G).2
 have he:=hL.I hc;refine Qf<|Qc<|Q7 O<|x (ZQ (us:=[V.pa,sS V.p.st,V.pm,V.pe]) ha O O O)<|Qa<|Qs O ha O O<|Qw<|(jJ he.a (hH.I J) he.u hp (by rw[<-hK.h];exact ht) hu).S ?_;rintro _ w6 ⟨hv,vw,rfl,hI,Y⟩;refine QQ rfl O<|QQ O O<|x Qd<|Qb ?_;rw[hK.p,hK.u]at hI Y;refine Qk ⟨[vw,sS 0],ov,J.D hv,vw,by rw[G];rfl,(Qh.ints (L:=[]) hI (oo Y.len) od:Qu [] ↑w6 vw _).one,λe=>OU G e,λ_=>⟨?_,Y⟩⟩;exact⟨hI.1,hI.2.imp id λ⟨g,cap,cur,e1,e2,r⟩=>⟨g,cap,cur,e1,Lx J.size e2,r⟩⟩
instance:Ay sV 143 2 3 1:=⟨oc,oc⟩
def hcX (c:Z3)(hi:LI):Int:=if hck c hi≠0 then hck c hi else hcE c hi
theorem QiG {c:Z3}{hi:LI}(I:Pl9 (Jb c))(h:htE c hi=0):Q8 (htA c hi):=by
 unfold htE at h;by_cases E:yL (V8 c hi)≠0
 ·rw[OS E]at h;exact OU h E
 rw[OR E]at h;exact Qg6 (λa G=>by
  rcases Ln.1 G with rfl|G
  ·exact I.ok
  rw[Lb.1 G];exact qV (Lt.1 E)) h
theorem QlJ {hi:LI}(h:Z0 [] ↑w c)(hH:Qu [] ↑w vh hi)(hm:Kb w 4096)(hO:hck c.C hi=0->HOk c.C hi):
  QS sV 25 [c.val,vh] w λr w'=>sW w w'/\∃v e,r=.tuple #[v,.bool e,sS (hcX c.C hi)]/\(hcX c.C hi≠0->v=ZS/\e=false) /\
   (hcX c.C hi=0->match hcR c.C hi with|none=>v=ZS/\e=true|some u=>e=false/\Qh 3 ↑w w' v u):=by
 have I:hcX c.C hi=if hck c.C hi≠0 then hck c.C hi else if htE c.C hi≠0 then htE c.C hi else yL c.C:=rfl
 have hn:htE c.C hi=0->Pl9 (Jb c.C)->Q8 (htA c.C hi):=λe hp=>QiG hp e;have ho:yL c.C=0->Q8 (qy c.C):=qV;have J:hcR c.C hi=match lgq (htA c.C hi) (qy c.C) 1 with|some u=>some u|none=>lgq (htA c.C hi) (qy c.C) 2:=rfl
 refine Zg (hcX c.C hi) λX hX=>?_;refine Zg (hcR c.C hi) λR hR=>?_;rw[hX]at I;rw[hR]at J;rw[hX,hR];refine Zl func25 ?_;refine Qc<|Zc c.cells λb2 w1 hP kg h3=>x Qd<|x Qd<|Qb ?_;have hf:=hP;refine Qc<|Q3 h3 O O<|Qa<|Qw<|(yc (h.I hf) (hH.I hf) (hm.I hf) λe=>(hO e).e).S ?_;rintro _ w3 ⟨h4,us,rfl,hU,hW,hV⟩;have h5:=Qdq (k:=c.C) (hi:=hi);have h6:=Qn6 (k:=c.C) (hi:=hi);refine Zg (hck c.C hi) λE hE=>?_;rw[hE]at hO hV h5 h6 I ⊢;refine Qa<|QQ O O<|QQ O O<|QT VZ λb6 w4 hY hZ ga=>Qo<|ZJ (us:=us) ga O O hU O hW λw5 gb gc=>Qb ?_;have hr:sW w3 w5:=hY.Q gb hZ;have ge:=hf.D h4;have hs:=ge.D hr;refine Qe<|Ql<|ZL O O<|xe<|Zh rfl (λht=>?_) (λht=>?_)
 ·have S:E≠0:=ht;rw[OS S]at I;refine Ql<|x Qd<|x Qd<|Qb<|Qk ⟨[ZS,.bool false,sS E],ox,hs,ZS,false,by rw[I];rfl,λ_=>⟨O,O⟩,λe=>OU (I.symm.D e) S⟩
 have S:E=0:=Lt.1 ht;rw[OR (λe=>e S)]at I;obtain⟨V,rfl,hL,hK⟩:=hV S;have hp:Pl9 V.p:=by rw[hK.p];exact(hO S).p
 have gg:Yb V.hi:=by rw[hK.h];exact(h5 S).1
 have gh:0<V.c.co.length:=by rw[hK.c];have e0:=h6 S;rw[show c.C.co.length=c.co.length from Lm _]at e0;exact e0
 have gi:=hL.I hr;have gj:=hm.I hs;have hT:=Qic (c:=c.C) (hi':=hi) gi gj hp gg gh (by rw[hK.c]) hK.p hK.h;have gk:Pl9 (Jb c.C):=(hO S).p;refine Zg (htE c.C hi) λF hF=>?_;rw[hF]at I hn hT;refine Zg (htA c.C hi) λTA gl=>?_;rw[gl]at hn hT J;refine Qf<|Qc<|Q3 gc O O<|Qw<|hT.S ?_;rintro _ w6 ⟨h7,vs,rfl,gm,hvo,_,hA⟩;refine Qa<|QQ O O<|QQ O O<|QT Js λb8 w7 gn go gq=>Qo<|ZJ (us:=vs) gq O O gm O hvo λw8 gr gs=>Qb ?_;have hu:sW w6 w8:=gn.Q gr go;have hg:=(hs.D h7).D hu;refine Qe<|Ql<|ZL O O<|xe<|Zh rfl (λhw=>?_) (λhw=>?_)
 ·have Y:F≠0:=hw;rw[OS Y]at I;refine Ql<|x Qd<|x Qd<|Qb<|Qk ⟨[ZS,.bool false,sS F],ox,hg,ZS,false,by rw[I];rfl,λ_=>⟨O,O⟩,λe=>OU (I.symm.D e) Y⟩
 have Y:F=0:=Lt.1 hw;rw[OR (λe=>e Y)]at I;refine Qf ?_;have gt:=hn Y gk;obtain⟨ta,tm,te,gu,gv⟩:=hA Y;have gx:vs=[ta,sS TA.st,tm,te]:=OT Array.toList (Value.agg.inj gu);subst gx;have gy:=gv [] od;have hS:=Vk (h.I hg) (hm.I hg);refine Zg (yL c.C) λG hG=>?_;have hsp:YQ c.C=G:=hG;rw[hG]at I ho hS;rw[hsp]at hS;refine Zg (qy c.C) λSA gz=>?_;rw[gz]at ho hS J;refine Qc<|x (Zb (((h3.I h4).I hr).I (h7.D hu)) O O)<|Qw<|hS.S ?_;rintro _ w9 ⟨g0,sa,sm,se,rfl,hy,_,g2⟩;refine Qa<|QQ O O<|QQ O O<|QT Js λb9 kh g3 g4 g5=>Q5 [sa,sS (if G=0 then SA.st else 0),sm,se] g5 ⟨hy.1,O,hy.2.1,hy.2.2.1,Z⟩ λh8 g6 h9=>Qb ?_
 have hB:sW w9 h8:=g3.Q g6 g4;have hz:=g0.D hB;have hC:=hg.D hz;refine Qe<|Ql<|ZL O O<|xe<|Zh rfl (λh0=>?_) (λh0=>?_)
 ·have ha:G≠0:=h0;refine Ql<|x Qd<|x Qd<|Qb<|Qk ⟨[ZS,.bool false,sS G],ox,hC,ZS,false,by rw[I];rfl,λ_=>⟨O,O⟩,λe=>OU (I.symm.D e) ha⟩
 have ha:G=0:=Lt.1 h0;rw[OS ha]at h9;have g7:=ho ha;have g8:=g2 ha [] od;have hh:X=0:=I.D ha;have g9:=gs.I hz;refine Qf<|Qe<|Qc<|x (QC ⟨O,O,Z⟩)<|Qa<|xe<|QX (α:=Nat) [(4,6),(11,11),(38,58)] (λz=>[(38,sS z)]) (λz w'=>z<=2/\sW h8 w'/\(0<z->lgq TA SA 1=none)/\(1<z->lgq TA SA 2=none)) (λz=>2 - z) 0 La ⟨oa,O3.Y _ _,λe=>OU e oa,λe=>OU e oa⟩ ?_;rintro k g ki ⟨hk,hc,hk1,ka⟩;have h1:=hC.D hc;refine Zi rfl O (λhD=>?_) (λhD=>?_)
 ·refine Qt ?_;rw[hk1 oa]at J;have hI:R=lgq TA SA 2:=J;rw[ka oa]at hI;refine Qc<|x Qd<|x Qd<|Qb<|Qk ⟨[ZS,.bool true,sS 0],ox,h1,ZS,true,by rw[hh];rfl,λe=>OU hh e,λ_=>?_⟩;rw[hI];exact⟨O,O⟩
 have kj:(k:Int)<(2:Nat):=hD;have hJ:k<2:=oa
 refine Qf<|Qe<|Qn<|Qc<|x (Qbx (i:=k) (cs:=[sS 1,sS 2]) (u:=sS ((k:Int)+1)) O O hJ (by rcases(by omega:k=0\/k=1) with rfl|rfl <;> rfl))<|Qb ?_
 have hq:=Qdg (gy.I ((hu.D hz).D hc)) (g8.I (hB.D hc)) ((k:Int)+1);rw[Qij gt g7 oa]at hq;refine Zg (lgq TA SA ((k:Int)+1)) λQ U=>?_;rw[U]at hq;refine Qc<|Q3 (g9.I hc) O O<|Q3 (h9.I hc) O O<|Qa<|Qw<|hq.S ?_;rintro _ kb ⟨hM,v,e,rfl,T⟩;have T:=T O;refine Qa<|QQ O O<|QQ O O<|QQ O O<|x Qd<|x Qd<|Qb ?_;have kc:=h1.D hM;refine QW (α:=Bool) [(49,54)] (λz=>[(54,.bool z)]) (λz w'=>w'=kb/\z=!e) oh ?_ ?_
 ·refine Qr<|Qa<|xb (XI O O) (λhN=>?_) (λhN=>?_)
  ·exact OU O hN
  refine Qa<|Qa<|x (Zj O)<|Qz O<|xe ?_;exact⟨!e,La,O,O⟩
 rintro z g kk ⟨rfl,rfl⟩;refine Q0 rfl (λh2=>?_) (λh2=>?_)
 ·have he:e=false:=by cases e;rfl;cases h2
  refine Ql<|Qa<|Qa<|x Qd<|x Qd<|Qb<|Qk ⟨[v,.bool e,sS 0],ox,kc,v,e,by rw[hh];rfl,λe=>OU hh e,λ_=>?_⟩;cases hj:Q with
  | none =>
   rw[hj]at T;exact OU (he.symm.D T.2) og
  | some u =>
   rw[hj]at T U;have ke:R=some u:=by
    rcases(by omega:k=0\/k=1) with rfl|rfl
    ·rw[show lgq TA SA 1=some u from U]at J;exact J
    rw[hk1 oa]at J;exact J.D U
   rw[ke];exact⟨he,T.2.1,T.2.2.imp id λ⟨g,cap,cur,e1,e2,r⟩=>⟨g,cap,cur,e1,Lx h1.size e2,r⟩⟩
 have he:e=true:=by cases e;cases h2;rfl
 have kf:Q=none:=by
  cases hj:Q with
  | none=>rfl
  | some u=>rw[hj]at T;exact OU (T.1.symm.D he) og
 rw[kf]at U;refine Qf<|Qr<|QB O O<|Qa<|xe<|⟨k+1,oa,La,hJ,hc.D hM,λ_=>?_,λkn=>?_⟩
 ·rcases(by omega:k=0\/k=1) with rfl|rfl
  ·exact U
  exact hk1 oa
 have e1:k=1:=oa
 subst e1;exact U
def Jt:Z3:={ mzC 2 with rq:=[V6] }
theorem Qir:hck Jt [1,2]=0:=oc
theorem QnO:hck Jt [0,1,2]=0:=oc
theorem QnL:plE Jt=0:=oc
theorem QnM:XX (Jb Jt)=0:=oc
theorem QnJ:(Jb Jt).st=4:=oc
theorem QnK:(Jb Jt).ed.length=8:=oc
theorem Qiq:(nbl (Jb Jt)).2=true:=oc
theorem QnS:cns (Jb Jt) [1,2] (unc Jt.ev)=some ([],1):=oc
theorem QnR:cns (Jb Jt) [0,1,2] (unc Jt.ev)=none:=oc
theorem QnN:obs (Jb Jt) [0,1,2] []=none:=oc
theorem QpB:QbX (Jb Jt) [1,2] (unc Jt.ev)=[0,1,2]:=oc
theorem QnQ:hcX Jt [0,1,2]=0:=oc
theorem QnP:hcR Jt [0,1,2]=none:=oc
theorem yT {v:O0}{l':LI}(h:Qu L ↑w v l)(E:Qu L' ↑w v' l'):QS sV 23 [v,v'] w λr w'=>r=.bool (decide (l=l'))/\sW w w':=by
 have hj:=h.le;refine Zl func23 ?_;refine Qc<|Qb<|Qe<|Ql<|QG h O<|Qa<|QG E O<|ZL O O<|xe<|Zh rfl (λY=>?_) (λY=>?_)
 ·refine Qc<|Qb<|Qk ⟨[.bool false],La,?_,O3.Y _ _⟩;have I:l≠l':=λe=>Y (by rw[e]);simp[tup,I]
 refine Qf<|Qe<|Qc<|Qb<|QX (α:=Nat) [(4,5),(11,25)] (λk=>[(5,sS k)]) (λk w'=>sW w w'/\k<=l.length/\(l=l'↔l.drop k=l'.drop k)) (λk=>l.length - k) 0 La ⟨O3.Y _ _,Lo _,od⟩ ?_;rintro k g w1 ⟨G,hk,J⟩
 replace h:=h.I G
 replace E:=E.I G;refine Qe<|Ql<|Qa<|QG h O<|ZP O O<|xe<|Zn rfl (λhf=>?_) (λhf=>?_)
 ·refine Qt<|Qc<|Qb<|Qk ⟨[.bool true],La,?_,G⟩;rw[Lr oa,Lr oa]at J;simp[tup,J]
 have S:k<l.length:=oa
 have T:k<l'.length:=oa
 refine Qf<|Qe<|Qn<|Qe<|ZH [] (Y0 0 9 [])<|p Qx<|p Qx<|pii (i:=k) O h O O S λhn hg=>pq (λ_ U=>Qq (hg.I U) O)<|p Qx<|p Qx<|pii (i:=k) O E O O T λho hh=>pq (λ_ U=>Qq (hh.I U) O)<|p (λ_=>XI O O)<|pe ?_;have ha:=G.D (O3.X [] w1);refine Zh rfl (λV=>?_) (λV=>?_)
 ·refine Qc<|Qb<|Qk ⟨[.bool false],La,?_,ha⟩;have I:l≠l':=λe=>V (by simp[e]);simp[tup,I]
 refine Qf<|Qr<|Qa<|QB O O<|Qb<|⟨k+1,oa,La,ha,oa,?_⟩;have he:l[k]'S=l'[k]'T:=Lt.1 V;rw[J,QY S,QY T,he];exact⟨λh=>(List.cons.inj h).2,λh=>by rw[h]⟩
theorem QiI {v:O0}(h:Qu L ↑w v l)(x:Int):
  QS sV 27 [v,sS x] w λr w'=>r=.bool (decide (x∈l))/\w'=w:=by
 have T:=h.le;refine Zl func27 ?_;refine Qc<|Lg.Qb<|Qe<|Qc<|Lg.Qb<|QX (α:=Nat) [(4,17)] (λk=>[(5,sS k)]) (λk w'=>w'=w/\k<=l.length/\(x∈l↔x∈l.drop k)) (λk=>l.length - k) 0 La ⟨O,Lo _,od⟩ ?_;rintro k g w' ⟨rfl,U,E⟩;refine Qe<|Qc<|Lg.Qa<|Lg.Qa<|Lg.x (YR h O)<|Lg.ZP O O<|xe<|Zn rfl (λJ=>?_) (λJ=>?_)
 ·refine Qt<|Qc<|Lg.Qb<|Qk ⟨[.bool false],La,?_,O⟩;rw[Lr oa]at E;simp[tup,E]
 have I:k<l.length:=oa
 have hd:=QY I;refine Qf<|Qe<|Qn<|Qc<|Lg.Qa<|Lg.Qa<|xii h O O I λV S=>Lg.x (Qq S O)<|Lg.Qa<|Lg.x (Zd O O)<|xe<|Zh rfl (λG=>?_) (λG=>?_)
 ·refine Qc<|Lg.Qb<|Qk ⟨[.bool true],La,?_,O⟩;have:x∈l:=by rw[E,hd,G];exact Ll
  simp[tup,this]
 refine Qf<|Qr<|Lg.Qa<|Lg.QB O O<|Lg.Qb<|⟨k+1,oa,La,O,oa,?_⟩;rw[E,hd,Ln];exact⟨λh=>h.resolve_left (λe=>G e.symm),.inr⟩
theorem QcA {R:RpV}  : QS sV 24 [sT (Zv R)] w λr w'=>r=.bool (R.t && R.o && R.c)/\sW w w':=by
 refine Zl func24 ?_;refine Qc<|Zc (Zv R) λT J S U G=>Qb<|QW (α:=Bool) [(2,12)] (λz=>[(2,.bool z)]) (λz w'=>w'=J/\z=(R.t && R.o && R.c)) oh ?_ ?_
 ·refine Qr<|Q7 O<|xB (Qj (u:=.bool R.t) G O O) (λE=>?_) (λE=>?_)
  ·refine Qa<|Q7 O<|xB (Qj (u:=.bool R.o) G O O) (λI=>?_) (λI=>?_)
   ·refine Qz O<|Qa<|Qs O (u:=.bool R.c) G O O<|Qz O<|Qb<|⟨R.c,La,O,by rw[E,I];rfl⟩
   refine Qz O<|Qa<|YG<|Qz O<|Qb<|⟨false,La,O,by rw[E,I];rfl⟩
  refine Qa<|YG<|Qz O<|Qa<|YG<|Qz O<|Qb<|⟨false,La,O,by rw[E];rfl⟩
 rintro z g V ⟨rfl,rfl⟩;exact Qk ⟨[.bool (R.t && R.o && R.c)],La,O,S⟩
theorem X6 (w:OZ):QS sV 114 [] w λr w'=>sW w w'/\QmB ↑w ↑w' r Jt:=by
 refine Zl func114 ?_;refine Qc<|QT KG λG w1 hv hD hf=>xe ?_;refine Qc<|Qw<|(JI 2 og w1).S ?_;rintro r2 w2 ⟨hg,E,rfl,hw,hh⟩;refine QT KG λI w3 hy hn hz=>Q5 E.cells hz (hh [] od).ones λV h0 ho=>xe ?_;have Y:sW w2 V:=hy.Q h0 hn;have hE:=hg.size;refine Qc<|Qo<|Q2 [[sS 1],[sS 2]] λJ w5 hp hF h1=>Qo<|Q2 [[sS 0],[sS 1]] λS w6 hj hG h3 =>
  x (QC ⟨rfl,O,O,Z⟩)<|x (QC ⟨O,O,O,Z⟩)<|Qo<|Q2 [Qp (0,1,1),Qp (1,2,0)] λT w7 ha hH h4=>?_
 refine x (QC ⟨O,O,O,O,Z⟩)<|x (ZC [(0,[.string JY]),(1,[sL J 2 2,sS 2,sL S 2 2,sL T 2 2])] ⟨O,O,O,O,Z⟩) <|
  Qo<|Q2 [[.string JY,sL J 2 2,sS 2,sL S 2 2,sL T 2 2]] λb10 w8 hc hJ h5=>?_
 have hr:=((hp.D hj).D ha).D hc;refine Q7 rfl<|Qo<|Qv (j:=2) (u:=sL b10 1 1) (ho.I hr) O O od rfl λw9 hs h6=>xe ?_;have hK:=hf.lt;have hM:=Y.size;have hN:=hp.size;have hO:=hj.size;have hP:=ha.size;have hk:O3 [I] V w9:=hr.any.V hs;have h7:G∉[I]:=ol
 have h8:ZK [E.ve,E.vc,sL b10 1 1,E.vx,E.vk]:=by
  have h9:=(hh [] od).ones;exact⟨h9.1,h9.2.1,O,h9.2.2.2.1,h9.2.2.2.2.1,Z⟩
 refine Qc<|Q3 h6 O O<|Q5 [E.ve,E.vc,sL b10 1 1,E.vx,E.vk] (((hf.I hg).I Y).J hk h7) h8 λhQ ht hA=>xe ?_;have U:=(CL.cel_rq hw (sL b10 1 1) [⟨JY,⟨sL J 2 2,sL S 2 2,sL T 2 2,V6.a⟩⟩]);refine Qk ⟨[.agg #[E.ve,E.vc,sL b10 1 1,E.vx,E.vk]],⟨JN hA,Z⟩,(((hv.D hg).D Y).Q hk oa).Q ht oa,_,O,U,λL hL=>?_⟩;have hu:∀b∈G::L,b<w1.heap.size:=λb hb=>by
  rcases Ln.1 hb with rfl|hb
  ·exact hf.lt
  have:=hL b hb;omega
 have hB:∀b∈I::G::L,b<V.heap.size:=λb hb=>by
  rcases Ln.1 hb with rfl|hb
  ·exact ho.lt
  have:=hu b hb;omega
 have h2:=(hh (G::L) hu).up (L':=I::G::L) (λb hb=>by
  rcases Ln.1 hb with rfl|hb
  ·exact .inr hn
  exact .inl hb)
 have he:=(h2.I Y).st (hk.S od);have nB:∀b,↑V<=b->b∉I::G::L:=λb hb hm=>oo (hB b hm)
 have hI:KY (I::G::L) ↑w8 (sL b10 1 1) [⟨JY,⟨sL J 2 2,sL S 2 2,sL T 2 2,V6.a⟩⟩]:=by
  refine⟨h5.arr (nB _ oa) (n:=1) (cap:=1) (sz:=5) O og (Lp _),λq U=>?_,λq U=>?_⟩
  ·rw[Lb.1 U];exact⟨(((h1.I hj).I ha).I hc).arr (nB _ oa) (n:=2) (cap:=2) (sz:=1) O og (Lp _),((h3.I ha).I hc).arr (nB _ oa) (n:=2) (cap:=2) (sz:=1) O og (Lp _),(h4.I hc).arr (nB _ oa) (n:=2) (cap:=2) (sz:=3) O og (Lp _)⟩
  rw[Lb.1 U];exact X9 og
 have hC:Z0 (I::G::L) ↑w9 (CL.mk E.ve E.vc (sL b10 1 1) E.vx E.vk E.ev E.co [⟨JY,⟨sL J 2 2,sL S 2 2,sL T 2 2,V6.a⟩⟩] E.ex E.cs):=
  ⟨he.ev,he.co,hI.st (hs.S od),he.ex,he.cs⟩
 exact(hC.st (ht.S od)).up (λb hb=>.inl (Lj _ (Lj _ hb)))
theorem qH (hi:LI):HOk Jt hi:=⟨QnL,⟨(Zy _).1 QnM,by rw[show(JS (O5 Jt.co)).st=4 from QnJ];decide,by rw[show(JS (O5 Jt.co)).ed.length=8 from QnK];decide⟩⟩
theorem Qhl {k:Z3}{hi:LI}{V:LvV}{H:xz}{R:RpV}(E:LvK c hi V)(S:c.C=k)(h:yt [] H V 3 R):
  (R.t=(nbl (Jb k)).2/\Qu [] H R.vs (nbl (Jb k)).1)/\(R.o=(obs (Jb k) hi []).isNone/\Qu [] H R.vw ((obs (Jb k) hi []).elim [] (·.1))/\Qu [] H R.vo ((obs (Jb k) hi []).elim [] (·.2))) /\
   R.c=(cns (Jb k) hi (unc k.ev)).isNone/\R.ev=(cns (Jb k) hi (unc k.ev)).elim (-1) (·.2)/\Qu [] H R.vp ((cns (Jb k) hi (unc k.ev)).elim [] (·.1)):=by
 subst S;have G:=h.p1 og;have I:=h.p2 og;have J:=h.p3 og;have eu:V.un=unc c.C.ev:=E.u;rw[E.p]at G;rw[E.p,E.h]at I;rw[E.p,E.h,eu]at J;exact⟨G,I,J⟩
theorem QpJ {H:xz}:Qu L H ZS []:=⟨O,og,.inl ⟨O,O⟩⟩
theorem QnI {H:xz}{b:Nat}{m n:Int}(h:QK H b T [sS m,sS n]):Qu [] H (sL b 2 2) [m,n]:=h.arr od (n:=2) (cap:=2) (sz:=1) rfl oa (Lp _)
theorem Qll {H:xz}{b:Nat}{m n o:Int}(h:QK H b T [sS m,sS n,sS o]):Qu [] H (sL b 3 3) [m,n,o]:=h.arr od (n:=3) (cap:=3) (sz:=1) rfl oa (Lp _)
theorem Qdi (E:Kb w 4096):QS sV 46 [] w λr w'=>r=.bool true/\sW w w':=by
 refine Zl func46 ?_;refine Qc<|Qb<|Qc<|Qw<|(X6 w).S ?_;rintro r1 w1 ⟨h6,⟨c1,rfl,G,h7⟩⟩;refine Qo<|Q2 [[sS 1],[sS 2]] λgu w2 U gv h8=>?_;have V:=h6.D U;have hT:=QaR ((h7 [] od).I U) (QnI h8) (E.I V) λ_=>by rw[G];exact qH _
 rw[G,Qir]at hT;refine Qw<|hT.S ?_;rintro _ w3 ⟨h9,R1,rfl,hA,_,hB⟩;obtain⟨V1,hC,hD⟩:=hB O;obtain⟨⟨Y,_⟩,_,ha,e1,_⟩:=Qhl hC G hD;rw[Qiq]at Y;rw[QnS]at ha e1;refine Qa<|QQ O O<|QQ O O<|QT (Zv rp8) λb1 w4 hE hF hG=>Q5 (Zv R1) hG hA λw5 hI hJ=>Qb ?_;have hK:sW w3 w5:=hE.Q hI hF;have he:=(V.D h9).D hK;refine Qc<|Qw<|(X6 w5).S ?_;rintro r6 w6 ⟨hL,⟨c6,rfl,I,hM⟩⟩;refine Qo<|Yd (us:=[[sS 0],[sS 1],[sS 2]]) O O og od ⟨rfl,rfl,rfl,rfl,rfl,rfl,Z⟩ λgx w7 hf gy hN=>?_;have hg:=hL.D hf;have hT:=QaR ((hM [] od).I hf) (Qll hN) (E.I (he.D hg)) λ_=>by rw[I];exact qH _
 rw[I,QnO]at hT;refine Qw<|hT.S ?_;rintro _ w8 ⟨hO,R2,rfl,hP,_,hQ⟩;obtain⟨V2,hR,hS⟩:=hQ O;obtain⟨⟨t2,_⟩,⟨o2,_⟩,hh,_⟩:=Qhl hR I hS;rw[Qiq]at t2;rw[QnN]at o2;rw[QnR]at hh;refine Qa<|QQ O O<|QQ O O<|QT (Zv rp8) λb3 w9 hU hV hW=>Q5 (Zv R2) hW hP λhj hY hZ=>Qb ?_;have ga:sW w8 hj:=hU.Q hY hV;have hk:=(hg.D hO).D ga;have J:=he.D hk;refine Qc<|Qw<|(X6 hj).S ?_;rintro gz g0 ⟨gb,⟨g2,rfl,hm,gc⟩⟩;refine Qo<|Q2 [[sS 1],[sS 2]] λg3 g4 hn g5 ge=>?_;have ho:=gb.D hn;have hX:=zE ((gc [] od).I hn) (QnI ge) (E.I (J.D ho)) λ_=>by rw[hm];exact qH _
 rw[hm,Qir]at hX;rw[show Jb Jt=Jb Jt from rfl,QpB]at hX;refine Qw<|hX.S ?_;rintro _ hp ⟨gg,vx,rfl,_,_,hx⟩;have gh:Qu [] ↑hp vx [0,1,2]:=Qh.ints (hx O).1 og od;refine Qa<|QQ O O<|QQ O O<|x Qd<|Qb ?_;have hq:=ho.D gg;refine Qc<|Qw<|(X6 hp).S ?_;rintro g6 g7 ⟨gi,⟨g8,rfl,hr,gj⟩⟩;refine Qo<|Yd (us:=[[sS 0],[sS 1],[sS 2]]) O O og od ⟨rfl,rfl,rfl,rfl,rfl,rfl,Z⟩ λg9 ka hs kb gk=>?_;have ht:=gi.D hs;have hX:=QlJ ((gj [] od).I hs) (Qll gk) (E.I ((J.D hq).D ht)) λ_=>by rw[hr];exact qH _
 rw[hr,QnQ,QnP]at hX;refine Qw<|hX.S ?_;rintro _ hu ⟨gl,vc,ec,rfl,_,hc⟩;obtain⟨rfl,rfl⟩:=hc O;refine Qa<|QQ O O<|QQ O O<|QQ O O<|x Qd<|x Qd<|Qb ?_;have hv:=ht.D gl;have S:=hq.D hv;have T:=(hJ.I hk).I S;have gm:=hZ.I S;have gn:=gh.I hv;have hH:=QcA (R:=R2) (w:=hu);rw[show(R2.t && R2.o && R2.c)=true by rw[t2,o2,hh];rfl]at hH;have et:R1.t=true:=Y;have go:R1.c=false:=ha;have eev:R1.ev=1:=e1;refine QW (α:=Unit) [(0,0),(35,79)] (λz=>[(0,.bool true)]) (λz w'=>sW hu w') oh ?_ ?_
 ·refine Qr<|Qa<|xb (Zd O O) (λhw=>?_) (λhw=>OU O hw);refine Qa<|Q7 O<|xB (Qj (u:=.bool R1.t) T O O) (λhy=>?_) (λhy=>OU (et.symm.D hy) og);refine Qz O<|Qa<|Qs O (u:=.bool R1.c) T O O<|xB (Zj (b:=R1.c) O) (λhz=>?_) (λhz=>OU hz (by rw[go];decide));refine Qz O<|Qa<|Qs O (u:=sS R1.ev) T O O<|xb (Zd O O) (λh0=>?_) (λh0=>OU eev h0);refine Qz O<|Qa<|Qa<|xb (Zd O O) (λh1=>?_) (λh1=>OU O h1);refine Qz O<|Qa<|Q3 gm O O<|Qw<|hH.S ?_;rintro kc ke ⟨rfl,h2⟩;refine Qz O<|Qa<|Qa<|xb (Zd O O) (λh3=>?_) (λh3=>OU O h3);refine Qz O<|Qa<|Qa<|Qo<|Yd (us:=[[sS 0],[sS 1],[sS 2]]) O O og od ⟨rfl,rfl,rfl,rfl,rfl,rfl,Z⟩ λkf kg h4 kh gq=>?_;have hSm:=yT ((gn.I h2).I h4) (Qll gq);rw[show decide (([0,1,2]:LI)=[0,1,2])=true from by decide]at hSm;refine Qw<|hSm.S ?_;rintro ki gr ⟨rfl,gs⟩;refine Qz O<|Qa<|Qa<|xb (Zd O O) (λh5=>?_) (λh5=>OU O h5);refine Qz O<|Qa<|Qa<|Qz O<|Qa<|Qa<|QG (QpJ (L:=[]) (H:=↑gr)) O<|x (Zd O O)<|Qz O<|Qb<|⟨(),La,(h2.D h4).D gs⟩
 rintro z g kj gt;exact Qk ⟨[.bool true],La,O,(J.D S).D gt⟩
theorem yl (E:Kb w 4096):QS sV 10 [] w λr w'=>r=.bool true/\sW w w':=by
 refine Zl func10 ?_;refine Qc<|Qb<|QW (α:=Unit) [(0,4)] (λz=>[(0,.bool true)]) (λz w'=>sW w w') oh ?_ ?_
 ·refine Qr<|Qw<|(Qdi E).S ?_;rintro S T ⟨rfl,G⟩;refine Qa<|Qw<|(QdZ (E.I G)).S ?_;rintro r2 U ⟨rfl,I⟩;refine Qz O<|Qb<|⟨(),La,G.D I⟩
 rintro z g V J;exact Qk ⟨[.bool true],La,O,J⟩
def yN (l:List Jp):Int:=l.foldl (λn x=>n*max 1 x.a.st) 1
theorem Qg8 (l:List Jp)(x:Jp):yN (l++[x])=yN l*max 1 x.a.st:=by unfold yN;rw[Mh];rfl
theorem stF:∀(l:List Jp) (n:Int),1<=n->(∀x∈l,x.a.st<=3)->1<=l.foldl (λn x=>n*max 1 x.a.st) n/\l.foldl (λn x=>n*max 1 x.a.st) n<=n*3 ^ l.length
 | [],n,h,_=>⟨h,od⟩
 | x::l,n,h,E=>by
  have S:=E x Ll;have G:1<=max 1 x.a.st/\max 1 x.a.st<=3:=oa
  have T:1*1<=n*max 1 x.a.st:=Int.mul_le_mul h G.1 og oa;obtain⟨I,i2⟩:=stF l (n*max 1 x.a.st) oa λy J=>E y (Lj _ J);refine⟨I,Int.le_trans i2 ?_⟩;rw[LL,Int.pow_succ,Int.mul_comm (3 ^ l.length) 3,<-Int.mul_assoc];exact Int.mul_le_mul_of_nonneg_right (Int.mul_le_mul_of_nonneg_left G.2 oa) (Int.pow_nonneg og)
theorem QkA {l:List Jp}(h:∀x∈l,x.a.st<=3):1<=yN l/\yN l<=3 ^ l.length:=by
 have:=stF l 1 og h;rw[Int.one_mul]at this;exact this
theorem U0 (h:Z0 [] ↑w c)(hl:c.co.length<=3)(J:∀x∈c.C.co,x.a.st<=3):
  QS sV 48 [c.val] w λr w'=>r=sS (yN c.C.co)/\sW w w':=by
 refine Zl func48 ?_;refine Qc<|Zc c.cells λb1 w1 S hg T=>Qb<|Qc<|Qb<|Qe<|Qc<|Qb ?_;have U:=h.co.arr.I S;refine QX (α:=Nat) [(3,21)] (λz=>[(3,sS (yN ((c.co.take z).map (·.it)))),(4,sS z)]) (λz w'=>z<=c.co.length/\w'=w1) (λz=>c.co.length - z) 0 ov ⟨Lo _,O⟩ ?_;rintro k g w2 ⟨hk,rfl⟩;refine Qe<|Ql<|Qs O T O O<|QG U O<|ZP O O<|xe<|Zn rfl (λI=>?_) (λI=>?_)
 ·refine Qt ?_;have ha:c.co.length<=k:=by have hc:¬(k:Int)<(c.co.length:Int):=I;omega
  refine Ql<|Qb<|Qk ⟨[_],La,by rw[Lq ha];rfl,S⟩
 have E:k<c.co.length:=by have hc:(k:Int)<(c.co.length:Int):=I;omega
 have he:(c.co[k]'E).p.a.st<=3:=J (c.co[k]'E).it (LG (Lk E));have ht:(c.co.take (k+1)).map (·.it)=(c.co.take k).map (·.it)++[(c.co[k]'E).it]:=by rw[Lh E,Lv];rfl
 have hb:=QkA (l:=(c.co.take k).map (·.it)) λy hy=>by
  obtain⟨q,G,rfl⟩:=Ly.1 hy;exact J q.it (LG (L2 G))
 have hf:yN ((c.co.take k).map (·.it))<=27:=Int.le_trans hb.2 (by
  rw[Lm,LA,MX hk];have:k=0\/k=1\/k=2:=oa
  rcases this with rfl|rfl|rfl <;> decide)
 have V:yN ((c.co.take (k+1)).map (·.it))=yN ((c.co.take k).map (·.it))*max 1 (c.co[k]'E).p.a.st:=by rw[ht,Qg8];rfl
 refine Zg (c.co[k]'E) λq G=>?_;rw[G]at he V;have hm:1<=max 1 q.p.a.st/\max 1 q.p.a.st<=3:=oa
 have hh:(0:Int)<=yN ((c.co.take k).map (·.it))*max 1 q.p.a.st:=Int.mul_nonneg oa oa;have hj:yN ((c.co.take k).map (·.it))*max 1 q.p.a.st<=27*3:=Int.mul_le_mul hf hm.2 oa og;refine Qf<|Qe<|Qn<|Qr<|Qa<|Qs O T O O<|Qa<|O6 (g:=Zm) (i:=k) (λ_=>O) U O O E λhn Y=>?_;rw[G]at Y;refine x (ZE O)<|x (ZE O)<|x (Qq (Y.fld 2 _ O) O)<|x (Qpk O O)<|x (Qen O O ⟨oa,oa⟩)<|Qb<|Qr<|Qa<|QB O O<|Qb<|⟨k+1,by show c.co.length - (k+1)<c.co.length - k;omega,⟨OT sS V.symm,O,Z⟩,E,O⟩
theorem Qj3 (h:Z0 [] ↑w c)(hl:c.co.length<=3)(G:∀x∈c.C.co,x.a.st<=3):
  QS sV 13 [c.val] w λr w'=>r=.bool (decide (yN c.C.co<=9))/\sW w w':=by
 refine Zl func13 ?_;refine Qc<|Zc c.cells λS T E U I=>Qb<|Qc<|Q3 I O O<|Qw<|(U0 (h.I E) hl G).S ?_;rintro r2 V ⟨rfl,J⟩;refine x (XY O O)<|Qb<|Qk ⟨[_],La,O,E.D J⟩
def yI:List QD->List (LI)
 | []=>[[]]
 | a::l=>(Xh a.st.toNat).flatMap λs=>(yI l).map (s::·)
theorem Qik {α β:Type}(f:α->List β)(n:Nat):∀(l:List α),(∀a∈l,(f a).length=n)->(l.flatMap f).length=l.length*n
 | [],_=>od
 | a::l,h=>by rw[LK,Lc,h a Ll,Qik f n l λb hb=>h b (Lj _ hb),LL,ON,MS]
theorem yH:∀l:List QD,(yI l).length=(l.map (·.st.toNat)).foldr (·*·) 1
 | []=>rfl
 | a::l=>by
  rw[yI,Qik _ (yI l).length _ λs _=>Lm _,yH l];have:(Xh a.st.toNat).length=a.st.toNat:=by simp[Xh]
  rw[this];rfl
theorem Qh5:∀(l m:List (LI)),l.Nodup->(∀x∈l,x∈m)->l.length<=m.length
 | [],_,_,_=>Lo _
 | x::l,m,J,E=>by
  have G:=List.nodup_cons.1 J;have hx:=E x Ll;have:=Qh5 l (m.erase x) G.2 λy I=>(List.mem_erase_of_ne (a:=y) (b:=x) (λe=>G.1 (by rw[<-e];exact I))).2 (E y (Lj _ I));rw[List.length_erase_of_mem hx]at this;have S:0<m.length:=List.length_pos_of_mem hx;rw[LL];omega
theorem QgL:∀(aa:List QD) (t:LI),Vt aa t->t∈yI aa
 | [],t,h=>by
  have:t=[]:=Ls h.1;rw[this];exact Lb.2 O
 | a::l,[],h=>by have:=h.1;simp at this
 | a::l,s::u,h=>by
  have E:=h.2 0 od od;have G:Vt l u:=⟨by have:=h.1;simpa using this,λi hi I=>by
   have:=h.2 (i+1) (ou hi) (ou I);simpa using this⟩
  have J:0<=s/\s<a.st:=by simpa using E
  rw[yI];exact Ma.2 ⟨s,(zn _ _).2 ⟨J.1,oa⟩,Ly.2 ⟨u,QgL l u G,O⟩⟩
theorem Qkp {Q:List (LI)}(E:Q.Nodup)(G:∀t∈Q,Vt aa t):Q.length<=(aa.map (·.st.toNat)).foldr (·*·) 1:=by
 rw[<-yH];exact Qh5 Q _ E λt I=>QgL aa t (G t I)
def pst (v:Int)(a:QD)(x:Int):Option Int:=if v∈a.al then xh a.ed x v else some x
def nx (v:Int)(A:Nat->QD)(x:Nat->Int)(i:Nat):Int:=(pst v (A i) (x i)).getD 0
abbrev i2 (p:Int×Int):LV:=[sS p.1,sS p.2]
abbrev i5 (a:ByteArray)(b c e:Bool)(i:Int):LV:=[.string a,.bool b,.bool c,.bool e,sS i]
open Go.ChangeShapes Go.WideShapes Go.RowKit
section
variable {H:Type}{enc:TypeId×O0->H}
theorem jv (hl:laidOutB P=true){W W':OZ}(hS:sW W W'){sp:Nat->Bool}:∀{ts:List TypeId}{vs:LV}{ds:List (DataW H)}{ps:List MemPlace},
  (ts.all λt=>P.readableRec t && decide (t<P.types.size))=true->DataW.TrodAll enc P W 0 (λ_=>true) true ts vs ds ps->(∀x∈ps,x.block<↑W)->(∀x∈ps,sp x.block=true)->DataW.TrodAll enc P W' 0 sp true ts vs ds ps
 | [],vs,ds,ps,_,h,_,_=>by
  obtain⟨rfl,rfl,rfl⟩:=trodAll_nil h;exact trodAll_mk0
 | t::ts,vs,ds,ps,E,h,G,hsp=>by
  obtain⟨v,S,d,ds1,a,b,rfl,rfl,rfl,I,J⟩:=trodAll_cons h;simp only[Ob,oI,decide_eq_true_eq]at E;have hb:Below ↑W W W':=hS.below;refine trodAll_cons_mk (WideElems.Trod_stays hl E.1.1 E.1.2 I (λx hx=>hb.same (G x (LM _ hx))) (λx hx=>hsp x (LM _ hx))) ?_;exact jv hl hS (ou E.2) J (λx hx=>G x (Nd _ hx)) (λx hx=>hsp x (Nd _ hx))
theorem Qil {f:Func}{s:ChangeSpec}{apart fresh handsOn again:Bool}{W:OZ}{args:Array O0}{ds gs:List (DataW H)}{before:List MemPlace}{tb:TypeId}
  (hl:laidOutB P=true) (hf:(f.params.toList.all λt=>P.readableRec t && decide (t<P.types.size))=true) (J:f.resultTypes=#[tb]) (S:P.underlying tb=some .bool) (T:s.vars=[])
  (E:s.fn H (ds++gs)={ results:=[.lit (.bool true)],args:=ds })
  (G:DataW.Whole enc P f.params.toList s.vars apart W args.toList ds gs before) (hS:sW W W'):s.post enc P f apart fresh handsOn again W args (.bool true) W':=by
 have I:=G.lt;have hg:=G;obtain⟨p,q,hA,U,rfl,hz,hn⟩:=G;rw[T]at U;obtain⟨rfl,rfl⟩:=trodVars_none U;rw[LF]at *;have V:∀sp:Nat->Bool,(∀x∈p,sp x.block=true)->DataW.TrodAll enc P W' 0 sp true f.params.toList args.toList ds p:=λsp hsp=>jv hl hS hf hA I hsp;have Y:∀(b:Nat) (sp:Nat->Bool) (hd:Bool),DataW.TrodAll enc P W' b sp hd f.resultTypes.toList ((Value.bool true).resultList f.resultTypes.size) [.lit (.bool true)] []:=λb sp hd=>by
  rw[J];exact trodAll_mk1 (shut_bool S true)
 have hb:Below ↑W W W':=hS.below;have hc:∀sp:Nat->Bool,DataW.TrodVars enc P W' sp s.vars ([]:List (DataW H)) []:=λsp=>by rw[T];rfl
 have hh:(s.fn H ds).results=[.lit (.bool true)]:=by rw[E]
 have hj:(s.fn H ds).args=ds:=by rw[E]
 have hk:(s.fn H ds).vars=[]:=by rw[E]
 have hok:∀(j:Nat) (t:TypeId) (r:O0),f.resultTypes[j]?=some t->((Value.bool true).resultList f.resultTypes.size)[j]?=some r->Value.okWide P W' .any 0 t r:=ok_one J O (okWide_bool_mk S true);refine⟨ds,[],p,[],p,[],hg,?_,?_,?_,?_,λ_=>⟨hok,[.lit (.bool true)]++ds,[],([]++p)++[],⟨[]++p,[],?_,?_,O,?_,?_⟩,?_⟩⟩
 ·rw[LF,hh];exact Y _ _ _
 ·rw[LF,hj];exact V _ (λx hx=>ou (I x hx))
 ·rw[LF,hk];exact hc _
 ·exact World.keptBut_mono (λ_ f=>f.elim) (hb.frame (λ_=>False))
 ·exact trodAll_append (V _ (λ_ _=>O)) (Y _ _ _)
 ·exact hc _
 ·intro b off hp;have he:MemPlace.cell b off∈p:=by simpa using hp
  rw[hb.frozen (p:=⟨b,off,none⟩) (I _ he)];exact hz b off he
 ·intro ha;have:=hn ha;simpa using this
 intro x hx _;simpa using hx
end
open Go.ChangeShapes Go.WideShapes Go.RowKit Go.Lg
theorem QdI:∀(l:LV),(∀v∈l,∃n:Nat,v=.int .u8 (n:Int)/\n<256)->∃ns:LN,l=bys ns/\ns.length=l.length/\∀n∈ns,n<256
 | [],_=>⟨[],O,O,od⟩
 | v::l,h=>by
  obtain⟨n,rfl,G⟩:=h v Ll;obtain⟨ns,I,J,S⟩:=QdI l (λv T=>h v (Lj _ T));refine⟨n::ns,by rw[I];rfl,by simp[J],λm E=>?_⟩;rcases Ln.1 E with rfl|E
  ·exact G
  exact S m E
theorem Qm1 {n:Int}(h:(Lit.int .u8 n).wf=true):∃m:Nat,n=m/\m<256:=by
 simp only[Lit.wf,oI,decide_eq_true_eq]at h;rw[show IntKind.u8.min=0 from rfl,show IntKind.u8.max=255 from rfl]at h;exact⟨n.toNat,oa,oa⟩
theorem Qne {b:Nat}{s:TypeId×Nat}(h:w.shape? b=some s):b<w.heap.size:=by
 unfold World.shape? at h;cases hb:w.heap[b]? with
 | none=>simp[hb]at h
 | some o=>exact(LH.1 hb).1
theorem QlI {a:Addr}{e:TypeId}(h:w.has P .any base a e n):a.block<w.heap.size:=by
 obtain⟨_,_,row,cells,E,_⟩:=h;exact Qne E
theorem QkD {t e:TypeId}{a:Addr}{c:Nat}(E:P.underlying t=some (.slice e))(h:Cell.okWide P w .any base t (.slice (some a) n c)):a.block<w.heap.size:=by
 simp only[Cell.okWide,Cell.ok,E]at h;exact QlI h.2.2
theorem Qie {α:Type}{p:Nat->α->Prop}:∀(n:Nat),(∀i,i<n->∃e,p i e)->∃l:List α,l.length=n/\∀i (h:i<l.length),p i (l[i]'h)
 | 0,_=>⟨[],O,λi h=>by simp at h⟩
 | n+1,h=>by
  obtain⟨l,E,I⟩:=Qie n (λi hi=>h i oa);obtain⟨e,J⟩:=h n oa;refine⟨l++[e],by simp[E],λi hi=>?_⟩;by_cases G:i<l.length
  ·rw[Mq G];exact I i G
  have:i=n:=by simp at hi;omega
  subst this;rw[Nc oa];simpa[E]using J
theorem zp {α:Type}{f:α->Option O0}:∀{L:List α}{l:LV},L.mapM f=some l->l.length=L.length/\∀(i:Nat) (a:α),L[i]?=some a->f a=l[i]?
 | [],l,h=>by
  simp at h;subst h;exact⟨O,λi a h=>by simp at h⟩
 | x::L,l,h=>by
  simp only[List.mapM_cons,Option.bind_eq_bind,Option.pure_def,Option.bind_eq_some_iff]at h;obtain⟨v,E,T,G,I⟩:=h;cases I
  obtain⟨J,S⟩:=zp G;refine⟨by simp[J],λi a hi=>?_⟩;cases i with
  | zero=>simp at hi;subst hi;simpa using E
  | succ i=>simpa using S i a (ou hi)
def kT (P:O2)(k:IntKind):Nat->TypeId->Bool
 | 0,_=>false
 | m+1,t=>match P.underlying t with
  | some (.int k')=>k' == k
  | some (.array n e)=>kT P k m e && decide (0<P.cellsOf e) && decide (P.cellsOf t=n*P.cellsOf e)
  | some (.struct fs)=>(oJ (P.cellsOf t)).all λj=>fs.toList.any λf=>kT P k m f.type && decide (f.offset<=j/\j<f.offset+P.cellsOf f.type)
  | _=>false
theorem QaI {o:Nat}{c:O0}(h:cs[j]?=some c)(E:o<=j)(G:j<o+n):c∈(cs.drop o).take n:=by
 refine Mj (i:=j - o) ?_;rw[LZ,OS oa,MI,show o+(j - o)=j by omega];exact h
section
variable {H:Type}{enc:TypeId×O0->H}{W:OZ}{b0:Nat}{sp:Nat->Bool}{held:Bool}
theorem V5 {k:IntKind}:∀(m:Nat) {t:TypeId}{cs:LV}{fuel:Nat}{x:DataW H×List MemPlace},kT P k m t=true->DataW.trod enc P W b0 sp held fuel t cs=some x->∀c∈cs,∃n,c=.int k n/\(Lit.int k n).wf=true
 | 0,_,_,_,_,h,_,_,_=>by cases h
 | m+1,t,cs,fuel,x,h,J,c,S=>by
  unfold kT at h;obtain⟨j,V,Y⟩:=LP S;have U:cs[j]?=some c:=by rw[LE V,Y]
  split at h
  ·rename_i k' G;have hk:k'=k:=by simpa using h
   subst hk;obtain⟨n,T,_,E⟩:=DataW.trod_int G J;rw[T]at S;exact⟨n,Lb.1 S,E⟩
  ·rename_i n e G;simp only[oI,decide_eq_true_eq]at h;obtain⟨⟨T,E⟩,h3⟩:=h;obtain⟨xs,m',_,_,hl,ha,hx⟩:=DataW.trod_array G J;have he:=Nat.div_add_mod j (P.cellsOf e);have ho:=Nat.mod_lt j E;have hi:j / P.cellsOf e<n:=by
    refine(Nat.div_lt_iff_lt_mul E).2 ?_;omega
   have I:=hx (j / P.cellsOf e) hi;rw[LE (show j / P.cellsOf e<xs.length by omega)]at I;rw[Nat.mul_comm]at he;exact V5 m T I c (QaI U oa oa)
  ·rename_i fs G;obtain⟨xs,m',_,_,hl,ha,hx⟩:=DataW.trod_struct G J;obtain⟨f,hg,E⟩:=Nq.1 (L9.1 h j (MD.2 oa));simp only[oI,decide_eq_true_eq]at E;obtain⟨i,hi,hh⟩:=LP hg;have hm:i<fs.size:=by simpa using hi
   have hn:fs[i]?=some f:=by rw[MH hm,<-hh];simp
   have I:=hx i f hn;rw[LE (show i<xs.length by omega)]at I;exact V5 m E.1 I c (QaI U E.2.1 E.2.2)
  cases h
theorem K8 {k:IntKind}{fs:Array Field}{xs:List (DataW H×List MemPlace)}{I:Nat}(V:xs.length=fs.size)
  (hx:∀(i:Nat) (f:Field),fs[i]?=some f->DataW.trod enc P W b0 sp held I f.type ((cs.drop f.offset).take (P.cellsOf f.type))=xs[i]?)  {f:Field} {c:O0} (E:fs[i]?=some f) (J:kT P k m f.type=true) (S:f.offset<=j) (T:j<f.offset+P.cellsOf f.type) (U:cs[j]?=some c):
  ∃n,c=.int k n/\(Lit.int k n).wf=true:=by
 have G:=hx i f E;have hi:i<fs.size:=(LH.1 E).1;rw[LE (show i<xs.length by omega)]at G;exact V5 m J G c (QaI U S T)
theorem QcP {c:O0}(h:∃n,c=.int .u8 n/\(Lit.int .u8 n).wf=true):∃n:Nat,c=.int .u8 (n:Int)/\n<256:=by
 obtain⟨n,rfl,E⟩:=h;obtain⟨m,rfl,G⟩:=Qm1 E;exact⟨m,O,G⟩
end
theorem Qpt {W:OZ}{ts:List TypeId}{cs:Array O0}(h:∀(i:Nat) (v:O0),cs[i]?=some v->∃u,ts[i % ts.length]?=some u/\Cell.okWide P W .any base u v)(i:Nat)(t:TypeId)(v:O0)(G:cs[i]?=some v)(I:ts[i % ts.length]?=some t):Cell.okWide P W .any base t v:=by
 obtain⟨u,E,k⟩:=h i v G;rw[I]at E;cases E
 exact k
theorem Qoa {H:Type}{enc:TypeId×O0->H}{W:OZ}{b0:Nat}{sp:Nat->Bool}{held:Bool}{fs:Array Field}{xs:List (DataW H×List MemPlace)}
  (h:∀(i:Nat) (f:Field),fs[i]?=some f->DataW.trod enc P W b0 sp held m f.type ((cs.drop f.offset).take (P.cellsOf f.type))=xs[i]?) (i:Nat) {f:Field} {o:Nat} {c:O0} (E:fs[i]?=some f) (G:f.type=t) (I:f.offset=o) (J:P.cellsOf t=1) (S:(cs.drop o).take 1=[c]) (hi:i<xs.length):
  DataW.trod enc P W b0 sp held m t [c]=some (xs[i]'hi):=by
 have e:=h i f E;rw[G,I,J,S]at e;rw[e];simp[hi]
theorem Qpf {W:OZ}{l:List (String×DataW Unit)}{a b:String×DataW Unit}(hl:l=[a,b,("internal/strconv.uint64pow10",Lib.tabData .u64 Lib.pow10Tab)]) (h:laidMetH sV l W) (E:(l.all λx=>x.2.handleName?.isNone)=true):Tb W:=by
 rw[Go.MakeChecks.laidMetH_plain _ _ _ E,hl]at h;exact Lib.tabIs_of_head (n:=20) (g:=0) oc (t:=410) oc oc (e:=319) oc oc oc h.tail.tail
structure PwV where
 ns:LN
 ad:Option Addr
 n:Nat
 cp:Nat
 f0:Int
 f1:Int
 f2:Int
 bd:Int
def PwV.pl (l:PwV)(rs:List X4V):PlV:=⟨l.ns,.slice l.ad l.n l.cp,rs,l.f0,l.f1,l.f2,l.bd⟩
abbrev ZX (l:PwV):LV:=bys l.ns++[.slice l.ad l.n l.cp,.int .i8 l.f0,.int .i8 l.f1,.int .i8 l.f2,.int .i8 l.bd]
structure PwA (w:OZ)(l:PwV):Prop where
 n:l.ns.length=147
 b:∀n∈l.ns,n<256
 f0:i8R l.f0
 f1:i8R l.f1
 f2:i8R l.f2
 bd:i8R l.bd
 r:l.n<=4->∃rs:List X4V,rs.length=l.n/\Zs [] ↑w (.slice l.ad l.n l.cp) l.n 4 (rs.flatMap Y6)
theorem PwA.pl {w w':OZ}{l:PwV}(h:PwA w l)(G:sW w w')(I:l.n<=4):∃rs,PlA [] ↑w' (l.pl rs)/\rs.length=l.n:=by
 obtain⟨rs,E,J⟩:=h.r I;exact⟨rs,⟨h.n,h.b,by show Zs _ _ _ rs.length 4 _;rw[E];exact J.I G,h.f0,h.f1,h.f2,h.bd⟩,E⟩
theorem Qpl {l:PwV}(h:l.ns.length=147):(ZX l)[147]?=some (.slice l.ad l.n l.cp):=by
 show(ZX l)[147+0]?=_;rw[ZX,Mk (by rw[Xk];omega),Xk,h,M0];rfl
theorem QeK {c:O0}(h:∃n,c=.int .i8 n/\(Lit.int .i8 n).wf=true):∃n:Int,c=.int .i8 n/\i8R n:=by
 obtain⟨n,rfl,h⟩:=h;simp only[Lit.wf,oI,decide_eq_true_eq]at h;rw[show IntKind.i8.min=-128 from rfl,show IntKind.i8.max=127 from rfl]at h;exact⟨n,O,oa⟩
def QmQ (P:O2)(fs:Array Field)(n:Nat):Bool:=(oJ n).all λj=>fs.toList.any λf=>kT P .u8 5 f.type && decide (f.offset<=j/\j<f.offset+P.cellsOf f.type)
section
variable {H:Type}{enc:TypeId×O0->H}{W:OZ}{b0:Nat}{sp:Nat->Bool}{held:Bool}
theorem QjG {fs:Array Field}{xs:List (DataW H×List MemPlace)}(h:QmQ P fs n=true)(G:xs.length=fs.size)
  (hx:∀(i:Nat) (f:Field),fs[i]?=some f->DataW.trod enc P W b0 sp held m f.type ((cs.drop f.offset).take (P.cellsOf f.type))=xs[i]?)  {c:O0} (I:j<n) (J:cs[j]?=some c):∃k:Nat,c=.int .u8 (k:Int)/\k<256:=by
 obtain⟨f,S,E⟩:=Nq.1 (L9.1 h j (MD.2 I));simp only[oI,decide_eq_true_eq]at E;obtain⟨i,hi,T⟩:=LP S;have U:i<fs.size:=by simpa using hi
 have V:fs[i]?=some f:=by rw[MH U,<-T];simp
 exact QcP (K8 G hx V E.1 E.2.1 E.2.2 J)
theorem QpZ {t e:TypeId}{c:O0}{fuel:Nat}{x:DataW H×List MemPlace}(J:P.underlying t=some (.slice e))(he:kT P .u8 5 e=true)(hc:P.cellsOf e=4)
  (hok:Cell.okWide P W .any base t c) (hf:DataW.trod enc P W b0 sp held fuel t [c]=some x):∃a n cp,c=.slice a n cp/\(n<=12->∃u:List X4V,u.length=n/\Zs [] ↑W (.slice a n cp) n 4 (u.flatMap Y6)):=by
 rcases DataW.trod_slice J hf with⟨E,_⟩|⟨a,len,cap,elems,rest,m,_,E,_,_,hl,_,hm,hg,_,_⟩
 ·simp at E;subst E;exact⟨none,0,0,O,λ_=>⟨[],O,Zs.nil _ _ _⟩⟩
 simp at E;subst E;refine⟨some a,len,cap,O,λhn=>?_⟩;have each:∀i,i<len->∃d:X4V,∀r v,(Y6 d)[r]?=some v->W.cell? (a.add (i*4+r))=some v:=by
  intro i hi;have S:=hg i hi;rw[hc,LE (show i<elems.length by omega)]at S;obtain⟨cs,E,hh⟩:=MM.1 S;obtain⟨ns,h1,h2,I⟩:=QdI cs (λv G=>QcP ((V5 5 he hh) v G));unfold World.cells? at E;split at E
  ·have ho:cs.length=4:=by
    simpa using(zp E).1
   refine⟨⟨ns,oa,I⟩,λr v G=>?_⟩;have T:cs[r]?=some v:=by rw[h1];exact G
   have hk:r<4:=by have:=(Mf.1 T).1;omega
   have U:=(zp E).2 r r (by simp[hk]);rw[Lg.Addr.add_add,T]at U;exact U
  cases E
 obtain⟨u,V,hu⟩:=Qie len each;refine⟨u,V,?_⟩;have Y:(u.flatMap Y6).length=u.length*4:=Go.Lg.KP Y6 4 qS u;refine⟨by rw[Y,V],oa,.inr ⟨a,cap,rfl,oa,λ_ _=>od,λ_ _=>QkD J hok,λj v G=>?_⟩⟩;have hj:j<u.length*4:=by
  rw[<-Y];exact(Mf.1 G).1
 have hi:j / 4<u.length:=oa
 have ha:j=j / 4*4+j % 4:=oa
 have I:(Y6 (u[j / 4]'hi))[j % 4]?=some v:=by
  rw[<-(X5 Y6 4 qS u (j / 4) hi),LZ,OS (Nat.mod_lt _ oa),MI,<-ha];exact G
 rw[<-J3];have:=hu (j / 4) hi (j % 4) v I;rw[<-ha]at this;exact this
theorem Qgk {v:O0}{d:DataW H}{ps:List MemPlace}{tp te:Nat}{fs:Array Field}{T J S:Field}(Y:P.underlying t=some (.struct fs))(ha:(P.cellTypes P.depth t).map (λts=>(ts.length,ts[147]?))=some (152,some tp))(hc:P.cellsOf t=152)
  (g7:fs[7]?=some T) (U:fs[8]?=some J) (g9:fs[9]?=some S) (hn:T.type=tp) (o7:T.offset=147) (o8:J.offset=148) (o9:S.offset=151) (c7:P.cellsOf tp=1) (c8:P.cellsOf J.type=3) (c9:P.cellsOf S.type=1)
  (kb:QmQ P fs 147=true) (k8:kT P .i8 5 J.type=true) (k9:kT P .i8 5 S.type=true) (ho:P.underlying tp=some (.slice te)) (hp:kT P .u8 5 te=true) (hq:P.cellsOf te=4)
  (he:Value.okWide P W .any base t v) (h:DataW.Trod enc P W b0 sp held t v d ps):∃l:PwV,v=sT (ZX l)/\PwA W l:=by
 simp only[Value.okWide,Y]at he;obtain⟨cs,rfl,hg,ts,hr,_,hs⟩:=he;rw[hr]at ha;have hh:=Option.some.inj ha;have ht:ts.length=152:=OT Prod.fst hh;have hv:ts[147]?=some tp:=OT Prod.snd hh;rw[hc]at hg;obtain⟨l⟩:=cs;have hl:l.length=152:=hg;obtain⟨fuel,hf⟩:=h;obtain⟨xs,m,_,_,_,G,hw⟩:=DataW.trod_struct Y hf;have E:∀(i:Nat) (f:Field),fs[i]?=some f->DataW.trod enc P W b0 sp held m f.type ((l.drop f.offset).take (P.cellsOf f.type))=xs[i]?:=hw;have h1:7<fs.size:=(LH.1 g7).1;have g0:∀c∈l.take 147,∃n:Nat,c=.int .u8 (n:Int)/\n<256:=λc hm=>by
  obtain⟨j,hj,hk⟩:=LP hm;have hy:j<147:=by simp at hj;omega
  have hz:l[j]?=some c:=by
   rw[M5]at hk;rw[LE oa,hk]
  exact QjG kb G E hy hz
 obtain⟨ns,e1,e2,e3⟩:=QdI _ g0;have h0:ns.length=147:=by rw[e2];simp;omega
 have I:∀j,j<152->∃c,l[j]?=some c:=λj hj=>⟨l[j]'oa,LE oa⟩;obtain⟨V,q1⟩:=I 147 oa;obtain⟨x2,q2⟩:=I 148 oa;obtain⟨x3,q3⟩:=I 149 oa;obtain⟨x4,q4⟩:=I 150 oa;obtain⟨x5,q5⟩:=I 151 oa;have hld:l.drop 147=[V,x2,x3,x4,x5]:=by
  apply Nj;intro i;rw[MI]
  match i with
  | 0=>exact q1
  | 1=>exact q2
  | 2=>exact q3
  | 3=>exact q4
  | 4=>exact q5
  | i+5=>rw[Mm oa];rfl
 obtain⟨y2,rfl,z2⟩:=QeK (K8 G E U k8 oa oa q2);obtain⟨y3,rfl,z3⟩:=QeK (K8 G E U k8 oa oa q3);obtain⟨y4,rfl,z4⟩:=QeK (K8 G E U k8 oa oa q4);obtain⟨y5,rfl,z5⟩:=QeK (K8 G E g9 k9 oa oa q5);obtain⟨a,n,cp,rfl,hP⟩:=QpZ ho hp hq (Qpt hs 147 tp V (ou q1) (by rw[ht];exact hv)) (Qoa (c:=V) E 7 g7 hn o7 c7 (by rw[hld];rfl) oa);refine⟨⟨ns,a,n,cp,y2,y3,y4,y5⟩,?_,h0,e3,z2,z3,z4,z5,λh3=>hP (by have h4:n<=4:=h3;omega)⟩;show Value.agg l.toArray=sT (bys ns++_);rw[<-e1,<-hld,MB]
end
theorem Qp0 {H:Type}{enc:TypeId×O0->H}{W:OZ}{b0:Nat}{sp:Nat->Bool}{held:Bool}{v:O0}{d:DataW H}{ps:List MemPlace}(E:Value.okWide sV W .any base 36 v)(h:DataW.Trod enc sV W b0 sp held 36 v d ps):
  ∃l:PwV,v=sT (ZX l)/\PwA W l :=
 Qgk underlying36 (tp:=32) oc oc O O O O O O O oc oc oc oc oc oc underlying32 oc oc E h
theorem QjS {l:PwV}(h:PwA w l):QS sV 11 [sT (ZX l)] w λr w'=>r=.bool (decide (l.n<=4))/\sW w w':=by
 refine Zl func11 ?_;refine Qc<|Zc (ZX l) λI J E S G=>Qb<|Qc<|Qs O G O (Qpl h.n)<|x (yX O)<|x (XY O O)<|Qb<|Qk ⟨[_],La,?_,E⟩;exact OT Value.bool (decide_eq_decide.2 oa)
theorem Qdp (h:Yw l):l.Nodup:=List.Pairwise.imp (λh=>oa) h
theorem Uh {c:Z3}(h:D25 c):(∀a∈O5 c.co++O5 c.rq,GdA a):=λa E=>by
 rcases Le.1 E with E|E
 ·obtain⟨x,hx,rfl⟩:=Ly.1 E;exact(h.co x hx).2.1
 obtain⟨x,hx,rfl⟩:=Ly.1 E;exact(h.rq x hx).2.1
theorem Jm (l:List Jp):(O5 l).length=l.length:=by unfold O5;rw[Lm]
theorem KN (h:∀a∈aa,GdA a)(hl:aa.length<=5):Vd aa=0/\∃z,xj aa=some z:=by
 refine⟨?_,Qa9 (k:=3) (λa E=>(h a E).ok) (λa E=>(h a E).s) ?_⟩
 ·unfold Vd;rw[OR oa];exact(zZ _).2 λa E=>(h a E).ok
 exact Lx (Nat.pow_le_pow_right oa hl) og
theorem Ql2 {c:Z3}(h:D25 c):∃pl ps sa ts,xj (O5 c.co)=some (pl,ps)/\xj (O5 c.co++O5 c.rq)=some (sa,ts)/\YQ c=0:=by
 have I:=h.c3;have J:=h.r2;have E:=Uh h;obtain⟨k1,⟨pl,ps⟩,e1⟩:=KN (aa:=O5 c.co) (λa G=>E a (LM _ G)) (by rw[Jm];omega);obtain⟨k2,⟨sa,ts⟩,e2⟩:=KN (aa:=O5 c.co++O5 c.rq) E (by rw[Lc,Jm,Jm];omega);refine⟨pl,ps,sa,ts,e1,e2,?_⟩;unfold YQ;rw[OR (not_not_intro h.ck),OR (not_not_intro k1),e1];simp only[];rw[OR (not_not_intro k2),e2]
abbrev mB (c:Z3)(m:Mdl):QD:=(spc (mcC c m)).a
abbrev mL (c:Z3)(m:Mdl):Lf:=Qbr (mB c m) (fbs (spc (mcC c m))) (unc c.ev)
section
variable {c:Z3}(h:D25 c)
abbrev plA (c:Z3):QD:=JS (O5 c.co)
abbrev plQ (c:Z3):List (LI):=syQ (O5 c.co)
abbrev spQ (c:Z3):List (LI):=syQ (O5 c.co++O5 c.rq)
end
section
variable {c:Z3}
end
section
variable {c:Z3}
end
section
variable {c:Z3}
end
structure Qgu (c:Z3):Prop where
 x:c.ex=[]
 k:c.cs=[]
 ok:∀a∈O5 c.co++O5 c.rq,Q8 a/\0<a.st
 eco:∀x∈c.rq,∀e∈x.a.al,∃y∈c.co,e∈y.a.al
 ev:∀x∈c.co,∀e∈x.a.al,e<(c.ev.length:Int)
 f1:∃z,xj (O5 c.co)=some z
 f2:∃z,xj (O5 c.co++O5 c.rq)=some z
section
variable {c:Z3}(h:Qgu c)
include h
theorem Qgu.sy:SyP (O5 c.co++O5 c.rq) (spc c).a (spQ c)/\SyP (O5 c.co) (plA c) (plQ c)/\0<(spc c).a.st/\0<(plA c).st /\
  spc c=⟨(spc c).a,(spQ c).map (·.take c.co.length),(spQ c).map (·.drop c.co.length),(spQ c).map (λt=>plx (plQ c) (t.take c.co.length)),spF c (plA c) (plQ c) (spQ c)⟩:=by
 obtain⟨⟨pl,ps⟩,e1⟩:=h.f1;obtain⟨⟨sa,ts⟩,e2⟩:=h.f2;have T:=jT e1 e2;have G:=h.ok;have a1:plA c=pl:=by unfold plA JS;rw[e1]
 have a2:plQ c=ps:=by unfold plQ syQ;rw[e1]
 have a4:spQ c=ts:=by unfold spQ syQ;rw[e2]
 have I:(spc c).a=sa:=by rw[T]
 have J:=YK (λa E=>(G a E).1) e2;have S:=YK (λa E=>(G a (LM _ E)).1) e1;have p1:ts.length≠0:=λe=>by
  obtain⟨a,E,e0⟩:=J.2.1 e;have:=(G a E).2;omega
 have p2:ps.length≠0:=λe=>by
  obtain⟨a,E,e0⟩:=S.2.1 e;have:=(G a (LM _ E)).2;omega
 have q1:=J.1.st;have q2:=S.1.st;refine⟨by rw[I,a4];exact J.1,by rw[a1,a2];exact S.1,by rw[I];omega,by rw[a1];omega,?_⟩;rw[a1,a2,a4,I];exact T
theorem Qgu.pok:Q8 (plA c):=h.sy.2.1.okay λa E=>(h.ok a (LM _ E)).1
def xE (c:Z3)(t:LI):Prop:=∀v∈unc c.ev,v∈evs (O5 c.co)->(Yk v (O5 c.co) (t.take c.co.length)).isSome=true->(Yk v (O5 c.rq) (t.drop c.co.length)).isSome=true
theorem Qgu.evb {v:Int}(I:v∈evs (O5 c.co)):0<=v/\v<(c.ev.length:Int):=by
 obtain⟨a,E,G⟩:=(QaE (λa E=>(h.ok a (LM _ E)).1) v).1 I;have J:=((h.ok a (LM _ E)).1.al v G).1;obtain⟨x,hx,rfl⟩:=Ly.1 E;exact⟨J,h.ev x hx v G⟩
end
section
variable {c:Z3}(h:Qgu c)
include h
end
section
variable {er:LI}
end
section
variable (ho:Q8 a)
include ho
end
section
variable (ho:Q8 a)
include ho
end
structure C36 (c:Z3)(hi:LI):Prop where
 d:D25 c
 x:c.ex=[]
 k:c.cs=[]
 i:Yw hi
 b:∀v∈hi,0<=v/\v<5
 r:∀x∈c.rq,∀e∈x.a.al,e∈hi
theorem D25.bare {c:Z3}(h:D25 c):D25 ⟨c.ev,c.co,c.rq,[],[]⟩:=⟨h.ev,h.c0,h.c3,h.r2,h.co,h.rq,h.nd,Lo _,nofun,Mn,Lo _,nofun⟩
section
variable {c:Z3}{hi:LI}(h:C36 c hi)
include h
theorem C36.hck:hck c hi=0:=by
 have E:JO (c.ev.length:Int) none hi=0:=QaM (λv G=>by rw[h.d.ev.1];exact h.b v G) h.i;unfold Lg.hck;rw[OR (not_not_intro h.d.ck),h.x,h.k,OR og,OR (not_not_intro E),OS];rw[L9];intro x hx;refine OV (Ls (QeF (h.d.rq x hx).2.1.ok.ali h.i (h.r x hx)))
theorem C36.pl0:plE c=0/\∃z,xj (O5 c.co)=some z:=by
 have E:=Uh h.d;have I:=h.d.c3;obtain⟨k1,z,e1⟩:=KN (aa:=O5 c.co) (λa G=>E a (LM _ G)) (by rw[Jm];omega);refine⟨?_,z,e1⟩;unfold plE Ve;rw[OR (not_not_intro h.d.ck),OR (not_not_intro k1),e1]
theorem C36.celB:Qgu c:=by
 have E:=Uh h.d;have J:=h.d.c3;have S:=h.d.r2;obtain⟨_,z,e2⟩:=KN (aa:=O5 c.co++O5 c.rq) E (by rw[Lc,Jm,Jm];omega);refine⟨h.x,h.k,λa G=>⟨(E a G).ok,(E a G).p⟩,λx hx=>(h.d.rq x hx).2.2,λx hx e I=>?_,h.pl0.2,z,e2⟩;rw[h.d.ev.1];exact(h.d.co x hx).2.2 e I
omit h in
theorem Qbg:∀(l:List Jp) (n:Int),(∀x∈l,0<x.a.st)->l.foldl (λn x=>n*max 1 x.a.st) n=n*(((O5 l).map (·.st.toNat)).foldr (·*·) 1:Nat)
 | [],n,_=>by simp[O5]
 | x::l,n,hx=>by
  have G:=hx x Ll;rw[LO,Qbg l _ λy E=>hx y (Lj _ E)];have e:max 1 x.a.st=(x.a.st.toNat:Int):=oa
  rw[e,Int.mul_assoc];show n*((x.a.st.toNat:Int)*(((O5 l).map (·.st.toNat)).foldr (·*·) 1:Nat))=n*((x.a.st.toNat*((O5 l).map (·.st.toNat)).foldr (·*·) 1:Nat):Int);rw[Int.natCast_mul]
theorem C36.pst:0<(plA c).st/\(plA c).st<=yN c.co:=by
 have E:=h.celB.sy;refine⟨E.2.2.2.1,?_⟩;have I:=Qkp E.2.1.nd E.2.1.v;have G:=Qbg c.co 1 λx hx=>(h.d.co x hx).2.1.p;rw[Int.one_mul]at G;rw[E.2.1.st];unfold yN;rw[G]
 exact_mod_cast I
omit h in
theorem QiP {α β:Type}(f:α->Option β):∀l:List α,(l.filterMap f).length<=l.length
 | []=>Lp _
 | x::l=>by
  rw[Mi];have:=QiP f l;cases f x with
  | none=>simp only[oQ];omega
  | some y=>simp only[oQ];omega
omit h in
theorem QeO (g:Nat->Int->Option Ed)(vs:LI):∀n,(grid g vs n).length<=n*vs.length
 | 0=>by simp[grid]
 | n+1=>by
  rw[K6,Lc,ON];have:=QeO g vs n;have:=QiP (g n) vs;omega
theorem C36.evs5:∀v∈evs (O5 c.co),0<=v/\v<5:=λv E=>by
 have:=h.celB.evb E;rw[h.d.ev.1]at this;exact this
theorem C36.pl9 (S:yN c.co<=9):Pl9 (plA c):=by
 have E:=h.celB.sy;have T:=h.pst;refine⟨h.celB.pok,oa,?_⟩;rw[E.2.1.ed];have U:=QeO (syF (O5 c.co) (plQ c)) (evs (O5 c.co)) (plQ c).length;have G:(plQ c).length<=9:=by have:=E.2.1.st;omega
 have I:(evs (O5 c.co)).length<=5:=xG 5 _ (Qdp (QaG λa J=>(h.celB.ok a (LM _ J)).1)) h.evs5;have V:(plQ c).length*(evs (O5 c.co)).length<=9*5:=NF G I;omega
theorem C36.hok (E:yN c.co<=9):HOk c hi:=⟨h.pl0.1,h.pl9 E⟩
end
theorem Z0.bare {H:xz}(h:Z0 L H c):Z0 L H { c with vx:=ZS,vk:=ZS,ex:=[],cs:=[] }:=
 ⟨h.ev,h.co,h.rq,⟨⟨O,Lo _,.inl ⟨O,O⟩⟩,(λq E=>by cases E),λq E=>by cases E⟩,⟨⟨rfl,Lo _,.inl ⟨rfl,rfl⟩⟩,(λq E=>by cases E),λq E=>by cases E⟩⟩
theorem Un {v:O0}{es:LI}(h:Z0 [] ↑w c)(hE:Qu [] ↑w v es)(hl:c.co.length<=3)(U:∀x∈c.C.co,x.a.st<=3):
  QS sV 20 [c.val,v] w λr w'=>r=.bool (decide (3∈es) && decide (6<yN c.C.co))/\sW w w':=by
 have he:=hE.le;refine Zl func20 ?_;refine Qc<|Zc c.cells λb2 V G hf Y=>Qb ?_
 replace hE:=hE.I G;refine Qe<|Qc<|Qb<|QX (α:=Nat) [(4,19)] (λz=>[(5,sS z)]) (λz w'=>w'=V/\z<=es.length/\(3∈es↔3∈es.drop z)) (λz=>es.length - z) 0 La ⟨O,Lo _,od⟩ ?_;rintro k g w2 ⟨rfl,hk,I⟩;refine Qe<|Ql<|Qa<|QG hE O<|ZP O O<|xe<|Zn rfl (λh9=>?_) (λh9=>?_)
 ·refine Qt ?_;rw[Lr oa]at I;refine Qc<|Qb<|Qk ⟨[.bool false],La,?_,G⟩;have J:¬(3:Int)∈es:=λh=>by have:=I.1 h;cases this
  rw[OX J];rfl
 have E:k<es.length:=oa
 have hd:=QY E;refine Qf<|Qe<|Qn<|Ql<|Qa<|xii (i:=k) hE O O E λhg ha=>x (Qq ha O)<|x (Zd O O)<|xe<|Zh rfl (λS=>?_) (λS=>?_)
 ·have T:es[k]'E=3:=S;refine Qc<|Q3 Y O O<|Qw<|(U0 (h.I G) hl U).S ?_;rintro r3 w3 ⟨rfl,hc⟩;refine x (Z5 O O)<|Qb<|Qk ⟨[_],La,?_,G.D hc⟩;have J:(3:Int)∈es:=by rw[<-T];exact Lk E
  rw[OV J];rfl
 have T:¬es[k]'E=3:=S;refine Qf<|Qr<|Qa<|QB O O<|Qb<|⟨k+1,oa,La,O,oa,?_⟩;rw[I,hd,Ln];exact⟨λh=>h.resolve_left λe=>T e.symm,.inr⟩
theorem QgV {l:List J9}{k:Nat}(E:k<l.length):unc (l.take (k+1))=unc (l.take k)++if(l[k]'E).co=false then[(k:Int)]else[]:=by
 have key:∀(l:List J9) (i k:Nat) (E:k<l.length),ixs (λe:J9=>!e.co) i (l.take (k+1))=ixs (λe:J9=>!e.co) i (l.take k)++if(l[k]'E).co=false then[((i+k:Nat):Int)]else[]:=by
  intro l;induction l with
  | nil=>intro i k E;simp at E
  | cons e l ih =>
   intro i k E;cases k with
   | zero =>
    rw[MC,Ng,Ng,ixs];show(if(!e.co)=true then(i:Int)::ixs (λe:J9=>!e.co) (i+1) []else ixs (λe:J9=>!e.co) (i+1) [])=ixs (λe:J9=>!e.co) i []++if e.co=false then[((i+0:Nat):Int)]else[]
    cases e.co <;> simp[ixs]
   | succ k =>
    rw[MC,MC,ixs,ixs,ih (i+1) k (ou E),Nn,show i+1+k=i+(k+1) by omega];split
    ·rfl
    rfl
 have:=key l 0 k E;rw[LS]at this;exact this
theorem QgU (h:Z0 [] ↑w c)(hl:c.ev.length<=32):
  QS sV 19 [c.val] w λr w'=>sW w w'/\Qh 3 ↑w w' r (unc c.C.ev):=by
 refine Zl func19 ?_;refine Qc<|Zc c.cells λb1 S U hr hc=>Qb ?_;have hg:=U.size;have he:=h.ev.I U;refine Qc<|Qb<|Qe<|Qc<|Qb ?_;have hh:∀k,(unc (c.ev.take k)).length<=32:=λk=>Lx (qI _ (c.ev.take k) 0) (by rw[LA];omega);refine QX (α:=Nat×O0) [(3,22)] (λz=>[(3,z.2),(4,sS z.1)]) (λz w'=>z.1<=c.ev.length/\sW S w'/\Qh 3 ↑S w' z.2 (unc (c.ev.take z.1))) (λz=>c.ev.length - z.1) (0,ZS) ov ⟨Lo _,O3.Y _ _,QL _ _ _ _⟩ ?_;rintro⟨k,vo⟩ g w2 ⟨hk,E,hj⟩;have I:Qh 3 ↑S w2 vo (unc (c.ev.take k)):=hj;refine Qe<|Ql<|Qs O (hc.I E) O O<|QG (he.arr.I E) O<|ZP O O<|xe<|Zn rfl (λV=>?_) (λV=>?_)
 ·refine Qt ?_;have hm:c.ev.length<=k:=by have J:¬(k:Int)<(c.ev.length:Int):=V;omega
  refine Ql<|Qb ?_;have hf:Qh 3 ↑S w2 vo (unc c.ev):=by rw[Lq hm]at I;exact I
  exact Qk ⟨[_],La,U.D E,⟨hf.1,hf.2.imp id λ⟨g,cap,cur,e1,e2,r⟩=>⟨g,cap,cur,e1,Lx hg e2,r⟩⟩⟩
 have G:k<c.ev.length:=by have J:(k:Int)<(c.ev.length:Int):=V;omega
 have T:=QgV G;have hs:=hh k;refine Qf<|Qe<|Qn<|Qc<|Qs O (hc.I E) O O<|Qa<|O6 (g:=Zr) (i:=k) (λ_=>O) (he.arr.I E) O O G λhu hn=>x (ZE O)<|x (Qq (hn.fld 1 _ O) O)<|x (Zj O)<|xe<|Q0 rfl (λJ=>?_) (λJ=>?_)
 rotate_left
 ·have Y:(c.ev[k]'G).co=true:=Qny J;rw[OR (by rw[Y];decide),LF]at T;refine Qf<|Qr<|Qa<|QB O O<|Qb<|⟨(k+1,vo),by show c.ev.length - (k+1)<c.ev.length - k;omega,ov,G,E,by rw[T];exact I⟩
 have Y:(c.ev[k]'G).co=false:=Qnx J;rw[OS Y]at T;refine Qr<|Qa<|Qa<|Qo<|Q2 [[sS k]] λhv w3 ha hw ho=>Qo<|QZ (news:=[sS k]) (L:=[]) (Qm I ha) O O O (ho.at od) om oa (oq E.size ha.size) λv4 w4 hp hq hy =>
  Qb<|Qr<|Qa<|QB O O<|Qb<|⟨(k+1,v4),by show c.ev.length - (k+1)<c.ev.length - k;omega,ov,G,?_,?_⟩
 ·exact(E.D ha).O hq λb hb=>.inr (Qi I b hb).1
 rw[T];exact Qh.snoc hp
theorem PlA.I {L:LN}{w w':OZ}{l:PlV}(h:PlA L ↑w l)(E:sW w w'):PlA L ↑w' l:=⟨h.n,h.b,h.x.I E,h.f0,h.f1,h.f2,h.bd⟩
theorem QfR {l:PwV}{rs:List X4V}{hb:Nat}(hB:PlA [] ↑w (l.pl rs))(hV:hb<256):
  QS sV 12 [.agg (ZX l++[Value.int .u8 (hb:Int)]).toArray] w λr w'=>sW w w'/\∃(c:CL) (vh:O0) (hi:LI),r=.tuple #[c.val,vh]/\(∀L:LN,(∀b∈L,b<↑w)->Z0 L ↑w' c)/\Qh 3 ↑w w' vh hi/\C36 c.C hi:=by
 have ht:(ZX l).length=152:=Qab (l:=l.pl rs) hB.n;have hW:(ZX l++[Value.int .u8 (hb:Int)])[152]?=some (.int .u8 (hb:Int)):=by rw[Mk oa,ht];rfl
 refine Zl func12 ?_;refine Qc<|Zc (ZX l++[Value.int .u8 (hb:Int)]) λb1 w1 hC g6 hX=>QT KG λb2 w2 hE g7 hF=>Qb ?_;have hu:=hC.D hE;have g8:=hC.size;have hY:=hu.size;have hG:=hX.I hE;refine Qc<|Q7 O<|x (ZQ (us:=ZX l) hG O ht (by rw[NE,<-ht];exact List.take_left))<|Qw<|(QfS (l:=l.pl rs) (hB.I hu)).S ?_;rintro r3 w3 ⟨hn,_,⟨c0,rfl,rfl,hH⟩,hZ⟩;have ga:=hH [] od;refine QT KG λb4 w4 gb hw gc=>Q5 c0.cells gc ga.ones λw5 ge gg=>xe ?_;refine Qc<|Q7 O<|Qo<|Qv (j:=3) (u:=ZS) gg O O od rfl λw6 gh gi=>Q7 rfl<|Qo<|Qv (j:=4) (u:=ZS) gi rfl rfl od rfl λU gj gk=>xe ?_;obtain⟨c,hc⟩:∃c:CL,c={ c0 with vx:=ZS,vk:=ZS,ex:=[],cs:=[] }:=⟨_,O⟩
 have Y:sW w3 U:=((gb.Q ge hw).Q gh hw).Q gj hw;have hI:=(hu.D hn).D Y;have g9:=hn.size;have ka:=Y.size;have gl:=(hF.I hn).I Y;have gm:=(hG.I hn).I Y;have gn:=hF.lt;have hJ:∀L:LN,(∀b∈L,b<↑w2)->Z0 L ↑U c:=λL hL=>by rw[hc];exact((hH L hL).I Y).bare
 have hK:c.cells=[c0.ve,c0.vc,c0.vr,ZS,ZS]:=by rw[hc]
 have go:QK ↑U b4 46 c.cells:=by rw[hK];exact gk
 have hz:c.C=⟨c0.C.ev,c0.C.co,c0.C.rq,[],[]⟩:=by rw[hc];rfl
 have hD:D25 c.C:=by rw[hz];exact hZ.bare
 have hM:c.C.ex=[]/\c.C.cs=[]:=by rw[hz];exact⟨O,O⟩
 clear hz hK hc;have kb:c.ev.length=5:=hD.ev.1;have ho:=hJ [] od;have kc:c.rq.length<=2:=by have G:=hD.r2;rw[show c.C.rq.length=c.rq.length from Lm ..]at G;exact G
 refine Qc<|Qb<|Qe<|Qc<|Qb<|QX (α:=Nat×O0×LI) [(5,8),(14,54)] (λz=>[(5,z.2.1),(6,sS z.1)]) (λz w'=>z.1<=5/\sW U w'/\Qh 3 ↑U w' z.2.1 z.2.2/\Yw z.2.2/\(∀v∈z.2.2,0<=v/\v<(z.1:Int))/\∀q∈c.rq,∀e∈q.p.a.al,e<(z.1:Int)->e∈z.2.2) (λz=>5 - z.1) (0,ZS,[]) ov
  ⟨Lo _,O3.Y _ _,QL _ _ _ _,List.Pairwise.nil,nofun,λq S e J hp=>by
   have:=((hD.rq q.it (LG S)).2.1.ok.al e J).1;have h2:e<0:=hp;omega⟩ ?_
 rintro⟨k,vo,m⟩ g w8 ⟨hk,I,gq,hr,hf,h6⟩;have hg:Qh 3 ↑U w8 vo m:=gq;have gr:k<=5:=hk;have ke:=I.size;have kf:m.length<=5:=Lx (xG k m (Qdp hr) hf) gr;have hs:=go.I I;refine Qe<|Ql<|Qs O hs O O<|QG (ho.ev.arr.I I) O<|ZP O O<|xe<|Zn rfl (λh7=>?_) (λh7=>?_)
 ·refine Qt ?_;have gs:k=5:=by have gt:¬(k:Int)<(c.ev.length:Int):=h7;omega
  subst gs;refine Qc<|Q3 hs O O<|Qa<|Q5 c.cells (gl.I I) ho.ones λw9 h8 gu=>Qb ?_;have gv:sW w w9:=(hI.D I).Q h8 oa;refine Qk ⟨[sT c.cells,vo],⟨JN gu,O,Z⟩,gv,c,vo,m,O,λL hL=>?_,?_,hD,hM.1,hM.2,hr,hf,λx hx e J=>?_⟩
  ·have G:=(hJ (b2::L) λb hb=>by
    rcases Ln.1 hb with rfl|hb
    ·exact gn
    exact LQ (hL b hb) hY).I I
   exact(G.st (h8.S λb hb=>by rw[Lb.1 hb];exact Ll)).up λb hb=>.inl (Lj _ hb)
  ·have hN:=Qg hg h8 (λb hb hm=>by have:=(Qi hg b hb).1;rw[Lb.1 hm]at this;omega);exact⟨hN.1,hN.2.imp id λ⟨g,cap,cur,e1,e2,r⟩=>⟨g,cap,cur,e1,Lx hI.size e2,r⟩⟩
  obtain⟨q,S,rfl⟩:=Ly.1 hx;obtain⟨y,hy,h4⟩:=(hD.rq q.it hx).2.2 e J;exact h6 q S e J ((hD.co y hy).2.2 e h4)
 have hp:k<5:=by have gt:(k:Int)<(c.ev.length:Int):=h7;omega
 have gx:hb / 2 ^ k<256:=Nat.lt_of_le_of_lt (Nat.div_le_self _ _) hV;refine Qf<|Qe<|Qn<|QW (α:=Bool) [(7,7),(21,30)] (λz=>[(7,.bool z)]) (λz w'=>w'=w8) oh ?_ ?_
 ·refine Qr<|Qa<|xb (Ys O O) (λhO=>?_) (λhO=>OU (show(k:Int)<8 by omega) hO);refine Qa<|Qs O (gm.I I) O hW<|Qa<|x (Qbu (n:=k) O O (by show k<=8;omega))<|x (UD (a:=hb / 2 ^ k) (b:=1) (OT (Value.int .u8) (jV hb k)) O gx og)<|x (Zd O O)<|x (Vr O) <|
   Qb<|⟨_,⟨rfl,Z⟩,O⟩
 rintro z0 g gy rfl;refine Qe<|Qc<|Qb ?_;have hP:=ho.rq.arr.I I;refine QX (α:=Bool×Nat) [(7,8),(31,49)] (λz=>[(7,.bool z.1),(8,sS z.2)]) (λz w'=>sW gy w'/\z.2<=c.rq.length/\∀j (hj:j<c.rq.length),j<z.2->(k:Int)∈(c.rq[j]'hj).p.a.al->z.1=true) (λz=>c.rq.length - z.2) (z0,0) ov ⟨O3.Y _ _,Lo _,λj hj h0=>OU h0 (NJ j)⟩ ?_;rintro⟨q0,j⟩ g kg ⟨E,hj,hQ⟩;have hR:=I.D E;refine Qe<|Ql<|Qs O (hs.I E) O O<|QG (hP.I E) O<|ZP O O<|xe<|Zn rfl (λhS=>?_) (λhS=>?_)
 ·refine Qt<|Ql<|xe<|Q0 O (λhT=>?_) (λhT=>?_)
  rotate_left
  ·refine Qf<|Qr<|Qa<|QB O O<|Qb<|⟨(k+1,vo,m),by show 5 - (k+1)<5 - k;omega,ov,hp,hR,Qm hg E,hr,λv T=>?_,λq S e J h9=>?_⟩
   ·have G:=hf v T;have h2:v<(k:Int):=G.2;exact⟨G.1,by show v<((k+1:Nat):Int);omega⟩
   have h2:e<((k+1:Nat):Int):=h9;by_cases e1:e=(k:Int)
   ·obtain⟨i,hi,e2⟩:=LP S;have h3:=hQ i hi (by show i<j;omega) (by rw[e2,<-e1];exact J);have h4:q0=true:=h3;have h5:q0=false:=hT;rw[h4]at h5;cases h5
   exact h6 q S e J (by show e<(k:Int);omega)
  refine Qr<|Qa<|Qa<|Qo<|Q2 [[sS k]] λkh ki hA kj gz=>Qo<|QZ (news:=[sS k]) (L:=[]) (Qm (Qm hg E) hA) O O O (gz.at od) om oa (oq E.size hA.size) λg0 kk g2 g3 kn =>
   Qb<|Qr<|Qa<|QB O O<|Qb<|⟨(k+1,g0,m++[(k:Int)]),by show 5 - (k+1)<5 - k;omega,ov,hp,(hR.D hA).O g3 λb hb=>.inr (Qi hg b hb).1,Qh.snoc g2,?_,λv T=>?_,λq S e J h9=>?_⟩
  ·refine Me.2 ⟨hr,M2 _ _,λa ha b hb=>?_⟩;rw[Lb.1 hb];exact(hf a ha).2
  ·show 0<=v/\v<((k+1:Nat):Int);rcases Le.1 T with T|T
   ·have G:=hf v T;have h2:v<(k:Int):=G.2;exact⟨G.1,oa⟩
   rw[Lb.1 T];omega
  have h2:e<((k+1:Nat):Int):=h9;by_cases e1:e=(k:Int)
  ·rw[e1];exact Nd _ (Lb.2 O)
  exact LM _ (h6 q S e J (by show e<(k:Int);omega))
 have V:j<c.rq.length:=by have ko:(j:Int)<(c.rq.length:Int):=hS;omega
 have g4:=Lk V;refine Qf<|Qe<|Qn<|Qr<|xB Kd (λhh=>?_) (λhh=>?_)
 ·refine Qa<|Zw<|Zw<|Zw<|Qz O<|Qb<|Qr<|Qa<|QB O O<|Qb<|⟨(q0,j+1),by show c.rq.length - (j+1)<c.rq.length - j;omega,⟨OT Value.bool hh.symm,O,Z⟩,E,V,λi hi hU hm=>hh⟩
 refine Qa<|Qs O (hs.I E) O O<|Qa<|O6 (g:=Zm) (i:=j) (λ_=>O) (hP.I E) O O V λkq g5=>x (ZE O)<|x (ZE O) <|
  x (Qq (g5.fld 1 _ O) O)<|Qa<|Qw<|(QiI (((ho.rq.each (c.rq[j]'V) g4).al.I I).I E) (k:Int)).S ?_
 rintro kr kt ⟨rfl,rfl⟩;refine Qz rfl<|Qb<|Qr<|Qa<|QB O O<|Qb<|⟨(decide ((k:Int)∈(c.rq[j]'V).p.a.al),j+1),by show c.rq.length - (j+1)<c.rq.length - j;omega,ov,E,V,λi hi hU hm=>?_⟩;have ku:i<j+1:=hU;by_cases e:i=j
 ·subst e;exact OV hm
 have h4:q0=true:=hQ i hi (by show i<j;omega) hm;rw[h4]at hh;cases hh
theorem Qnq {l:PwV}{hb:Int}(h:l.ns.length=147):(ZX l++[Value.int .u8 hb]).length=153:=by rw[Lc,show(ZX l).length=152 from Qab (l:=l.pl []) h];rfl
theorem QkW {l:PwV}{hb:Int}(h:l.ns.length=147):((ZX l++[Value.int .u8 hb]).drop 0).take 152=ZX l:=by rw[NE,<-show(ZX l).length=152 from Qab (l:=l.pl []) h];exact List.take_left
theorem PwA.I {w w':OZ}{l:PwV}(h:PwA w l)(E:sW w w'):PwA w' l:=⟨h.n,h.b,h.f0,h.f1,h.f2,h.bd,λG=>let⟨rs,I,J⟩:=h.r G;⟨rs,I,J.I E⟩⟩
theorem CL.co3 {hi:LI}(h:C36 c.C hi):c.co.length<=3/\(∀x∈c.C.co,x.a.st<=3)/\c.ev.length=5:=by
 have E:=h.d.c3;rw[show c.C.co.length=c.co.length from Lm ..]at E;exact⟨E,λx hx=>(h.d.co x hx).2.1.s,h.d.ev.1⟩
theorem C36.hl {hi:LI}{c:Z3}(h:C36 c hi):hi.length<=5:=xG 5 hi (Qdp h.i) h.b
section
variable (k:α->Int)
end
abbrev Ky:=Int×ByteArray
structure xJ where
 ky:Ky
 vr:Int
 sp:QD
 kp:LI
 ds:LI
 rm:List Q4
 c:Z3
theorem Qno {H:xz}{c:Z3}{e:Int}(h:D25 c)(E:U9 N H c va vt e):e=0/\Y5 N H va (JS (O5 c.co))/\∃l,Qcy N H vt l:=by
 obtain⟨pl,ps,sa,ts,e1,e2,_⟩:=Ql2 h;have G:=Uh h;have T:=h.c3;have I:=(KN (aa:=O5 c.co) (λa J=>G a (LM _ J)) (by rw[Jm];omega)).1;unfold U9 at E;rw[OR (not_not_intro h.ck)]at E;unfold Yq at E;rw[OR (not_not_intro I),e1]at E;have S:JS (O5 c.co)=pl:=by unfold JS;rw[e1]
 rw[S];exact⟨E.1,E.2.1,_,E.2.2⟩
def hU (F:Int)(S:QD):QD:=if F=0 then S else⟨[],0,[],[]⟩
theorem Qc5 {hi:LI}(hC:C36 c.C hi)(h:Z0 [] ↑w c)(I:Kb w 4096):
  QS sV 14 [c.val] w λr w'=>sW w w'/\∃pa pm pe vt,r=.tuple #[.agg #[pa,sS (Jb c.C).st,pm,pe],vt,sS 0]/\ZK [pa,sS (Jb c.C).st,pm,pe]/\vt.oneCell'=true/\∀L:LN,(∀b∈L,b<↑w)->Zp L ↑w' pa pm pe (Jb c.C):=by
 refine(yk h I).S ?_;rintro r w' ⟨J,va,vt,e,rfl,G⟩;obtain⟨_,_,_,_,_,_,_,_,S,_⟩:=G.shape;obtain⟨rfl,⟨pa,pm,pe,rfl,hA⟩,_⟩:=Qno hC.d G;have E:=hA [] od;exact⟨J,pa,pm,pe,vt,O,⟨E.al.one,O,E.mr.one,E.ed.one,Z⟩,S,hA⟩
theorem Qfm {hi:LI}(hC:C36 c.C hi)(J:yN c.C.co<=9)(h:Z0 [] ↑w c)(hH:Qu [] ↑w vh hi)(S:Kb w 4096):
  QS sV 15 [c.val,vh] w λr w'=>sW w w'/\∃vs vw vo vp,r=.tuple #[.agg (Zv ⟨(nbl (Jb c.C)).2,vs,(obs (Jb c.C) hi []).isNone,vw,vo,(cns (Jb c.C) hi (unc c.C.ev)).isNone,vp,(cns (Jb c.C) hi (unc c.C.ev)).elim (-1) (·.2)⟩).toArray,sS 0] /\
   ZK [vs,vw,vo,vp]/\Qu [] ↑w' vs (nbl (Jb c.C)).1/\Qu [] ↑w' vw ((obs (Jb c.C) hi []).elim [] (·.1))/\Qu [] ↑w' vo ((obs (Jb c.C) hi []).elim [] (·.2))/\Qu [] ↑w' vp ((cns (Jb c.C) hi (unc c.C.ev)).elim [] (·.1)):=by
 refine(QaR h hH S λ_=>hC.hok J).S ?_;rintro r w' ⟨T,R,rfl,ho,_,U⟩;obtain⟨V,hK,Y⟩:=U hC.hck;obtain⟨⟨e1,E⟩,⟨e2,i2,G⟩,e3,e4,I⟩:=Qhl hK O Y;refine⟨T,R.vs,R.vw,R.vo,R.vp,?_,⟨E.one,i2.one,G.one,I.one,Z⟩,E,i2,G,I⟩;rw[hC.hck,<-e1,<-e2,<-e3,<-e4]
theorem VN {v:O0}(h:Qu [] ↑w v l)(E:Qu [] ↑w v' l):QS sV 23 [v,v'] w λr w'=>r=.bool true/\sW w w':=by
 have:=yT h E
 rwa [OV O]at this
theorem Qh6 {b:Nat}{pa pm pe:O0}{P:QD}(G:QK ↑w b 53 ([Zx ⟨pa,pm,pe,P⟩]:List (LV)).flatten)(I:Zp [] ↑w pa pm pe P)(E:Pl9 P):
  QS sV 16 [sL b 1 1] w λr w'=>sW w w'/\∃v,r=.tuple #[v,.bool (nbl P).2,sS 0]/\Qu [] ↑w' v (nbl P).1:=by
 refine(KW (q:=⟨pa,pm,pe,P⟩) ⟨G.arr od (n:=1) (cap:=1) (sz:=4) rfl og (Oz _),λp E=>by rw[List.mem_singleton.1 E];exact I⟩ E.ok (Int.le_trans E.s9 og)).S ?_;rintro r w' ⟨J,v,rfl,S⟩;exact⟨J,v,O,S.ints⟩
theorem Qao {l:PwV}{hb:Nat}(hl:PwA w l)(gr:hb<256)(hA:Kb w 4096):
  QS sV 3 [.agg (ZX l++[Value.int .u8 (hb:Int)]).toArray] w λr w'=>r=.bool true/\sW w w':=by
 refine Zl func3 ?_;refine Qc<|Zc (ZX l++[Value.int .u8 (hb:Int)]) λb1 w1 hD p9 hU=>Qb<|Qe<|QW (α:=Bool) [(25,32)] (λz=>[(32,.bool z)]) (λz w'=>sW w1 w'/\(z=false->l.n<=4)) oh ?_ ?_
 ·refine Qr<|Qw<|(yl (hA.I hD)).S ?_;rintro r2 w2 ⟨rfl,V⟩;refine x (Zj O)<|Qa<|Q7 O<|x (ZQ (us:=ZX l) (hU.I V) O (Qab (l:=l.pl []) hl.n) (QkW hl.n))<|Qw<|(QjS (l:=l) ((hl.I hD).I V)).S ?_;rintro r3 w3 ⟨rfl,hk⟩;refine x (Zj O)<|Qz O<|xe ?_;exact⟨!decide (l.n<=4),La,V.D hk,λe=>ou e⟩
 rintro z g w2 ⟨V,hz⟩;have hr:=hD.D V;refine Q0 rfl (λhV=>?_) (λhV=>?_)
 ·refine Qc<|Qw<|(yl (hA.I hr)).S ?_;rintro r3 w3 ⟨rfl,hk⟩;refine Qb<|Qk ⟨[.bool true],La,O,hr.D hk⟩
 refine Qf<|Exists.elim (hl.pl hr (hz hV)) λrs gs=>?_;refine Qc<|Q3 (hU.I V) O (Qnq hl.n)<|Qw<|(QfR gs.1 gr).S ?_;rintro _ w3 ⟨hk,c,vh,hi,rfl,gt,gu,hC⟩;have hW:=gt [] od;have gv:Qu [] ↑w3 vh hi:=Qh.ints gu (oo hC.hl) od;obtain⟨hE,hF,qf⟩:=CL.co3 hC;refine Qa<|QQ O O<|QQ O O<|QT KG λb3 w4 gx gy gz=>Q5 c.cells gz hW.ones λw5 g0 hY =>
  Qb ?_
 have hG:sW w3 w5:=gx.Q g0 gy;have hH:=(hr.D hk).D hG;have hZ:=hW.I hG;have g2:=gv.I hG;refine Qe<|Qc<|Q3 hY O O<|Qw<|(Qj3 hZ hE hF).S ?_;rintro _ w6 ⟨rfl,Y⟩;refine x (Zj O)<|xe<|Q0 rfl (λga=>?_) (λga=>?_)
 ·refine Qc<|Qb<|Qk ⟨[.bool true],La,O,hH.D Y⟩
 have h9:yN c.C.co<=9:=by simpa using ga
 have hO:hck c.C hi=0->HOk c.C hi:=λ_=>hC.hok h9;have g3:=hC.hck;have hs:=hC.pl9 h9;have hI:Yb hi:=⟨λv hv=>oo (hC.b v hv),hC.i⟩;have ht:Yb (unc c.C.ev):=QcO hC.d.ev.2;have cL:=λ{w:OZ} (a:Z0 [] ↑w c) (k:Kb w 4096)=>Qc5 hC a k;have cT:=λ{w:OZ} (a:Z0 [] ↑w c) (b:Qu [] ↑w vh hi) (k:Kb w 4096)=>Qfm hC h9 a b k;have cN:=λ{w:OZ} {b:Nat} {pa pm pe:O0} (hB:QK ↑w b 53 ([Zx ⟨pa,pm,pe,Jb c.C⟩]:List (LV)).flatten) (hP:Zp [] ↑w pa pm pe (Jb c.C))=>Qh6 hB hP hs;have cO:=λ{w:OZ} {pa pm pe:O0} (a:Zp [] ↑w pa pm pe (Jb c.C)) (b:Qu [] ↑w vh hi)=>qa a b hs hI;have cU:=λ{w:OZ} (a:Z0 [] ↑w c)=>QgU a oa;have cC:=λ{w:OZ} {pa pm pe vu:O0} (a:Zp [] ↑w pa pm pe (Jb c.C)) (b:Qu [] ↑w vh hi) (u:Qu [] ↑w vu (unc c.C.ev))=>Kv a b u hs hI ht;have cX:=λ{w:OZ} (a:Z0 [] ↑w c) (b:Qu [] ↑w vh hi) (k:Kb w 4096)=>zE a b k hO;have cY:=λ{w:OZ} {pa pm pe vu:O0} (a:Zp [] ↑w pa pm pe (Jb c.C)) (b:Qu [] ↑w vh hi) (u:Qu [] ↑w vu (unc c.C.ev))=>jJ a b u hs hI ht;rw[g3]at cX;refine Zg (QbX (Jb c.C) hi (unc c.C.ev)) λX hX=>?_;rw[hX]at cX cY;refine Zg (nbl (Jb c.C)) λNB g4=>?_;rw[g4]at cT cN;refine Zg (obs (Jb c.C) hi []) λOB g5=>?_;rw[g5]at cT cO;refine Zg (cns (Jb c.C) hi (unc c.C.ev)) λCN g6=>?_;rw[g6]at cT cC;refine Zg (unc c.C.ev) λun g7=>?_;rw[g7]at cU cC cY ht;refine Zg (Jb c.C) λP hP=>?_;rw[hP]at cL cN cO cC cY;have qj:=ht.len;have hJ:=hA.I (hH.D Y);have G:=hZ.I Y;have hm:=g2.I Y;have I:=hY.I Y;refine Qf<|Qc<|Q3 I O O<|Qw<|(cL G hJ).S ?_;rintro _ w7 ⟨g8,pa,pm,pe,vt,rfl,g9,ql,ka⟩;refine Qa<|QQ O O<|QQ O O<|QQ O O<|QT Js λb5 w8 kb kc ke=>Q5 [pa,sS P.st,pm,pe] ke g9 λw9 kf hu =>
  x Qd<|Qb ?_
 have gb:sW w7 w9:=kb.Q kf kc;have hn:=g8.D gb;have hw:=(ka [] od).I gb;refine Qc<|Q3 (I.I hn) O O<|Qa<|Qw<|(cT (G.I hn) (hm.I hn) (hJ.I hn)).S ?_;rintro _ kg ⟨kh,rs,rw,ro,rp,rfl,hy,ki,kj,kk,kn⟩;refine Qa<|QQ O O<|QQ O O<|QT (Zv rp8) λb8 q0 ko kq kr=>Q5 (Zv ⟨NB.2,rs,OB.isNone,rw,ro,CN.isNone,rp,CN.elim (-1) (·.2)⟩) kr ⟨rfl,hy.1,rfl,hy.2.1,hy.2.2.1,rfl,hy.2.2.2.1,rfl,Z⟩ λgc kt ku =>
  Qb ?_
 have ge:sW kg gc:=ko.Q kt kq;have h0:=kh.D ge;have kv:=hn.D h0;refine Qc<|Q3 (hu.I h0) O O<|Qo<|Q2 [Zx ⟨pa,pm,pe,P⟩] λq4 q5 gg za kw=>Qw<|(cN kw ((hw.I h0).I gg)).S ?_;rintro _ kx ⟨kz,vs,rfl,k0⟩;have hK:=gg.D kz;have hL:=h0.D hK;have gh:=kv.D hK;refine Qa<|QQ O O<|QQ O O<|QQ O O<|x Qd<|x Qd<|Qb<|Qc<|Q3 (hu.I hL) O O<|Qa<|Qw<|(cO (hw.I hL) (hm.I gh)).S ?_;rintro _ ha ⟨h1,vw,vo,rfl,k5,hvo⟩;have hM:=hL.D h1;have h2:=gh.D h1;refine Qa<|QQ O O<|QQ O O<|QQ O O<|QQ O O<|x Qd<|x Qd<|x Qd <|
  Qb ?_
 have gi:sW ha { ha with drawn:=ha.drawn+1 }:=O3.X _ _
 refine Qe<|ZH [] (Y0 0 14 [3,4])<|pq (λ_ J=>Zb ((hu.I hM).I J) O O)<|p Qx<|pq (λ_ J=>Zb ((I.I h2).I J) O O) <|
  pk<|xg<|(cU (w:={ ha with drawn:=ha.drawn+1 }) ((G.I h2).I gi)).S ?_
 rintro vu z0 ⟨k6,k9⟩;have h3:=gi.D k6;refine⟨h3,?_⟩;refine pk<|xg<|(cC ((hw.I hM).I h3) ((hm.I h2).I h3) (Qh.ints k9 oa od)).S ?_;rintro _ ma ⟨mc,vp,rfl,mf⟩;have he:=h3.D mc;refine⟨he,?_⟩;refine p Qx<|p (λ_=>QV O O)<|p (λ_=>QV O O)<|p (λ_=>QV O O)<|p (λ_=>QV O O) <|
  p ZA<|p ZA<|p ZA<|p ZA<|Lg.pe ?_
 have hN:=h2.D he;have mg:=hM.D he;refine Qe<|Qc<|Q3 (I.I hN) O O<|Qa<|Qa<|Qa<|Qo<|Yd (us:=[[sS 0],[sS 0],[sS 0]]) O O og od ⟨rfl,rfl,rfl,rfl,rfl,rfl,Z⟩ λz2 z3 gj z4 mh =>
  Qw<|(Un (es:=[0,0,0]) ((G.I hN).I gj) (Qll mh) hE hF).S ?_
 rintro _ mj ⟨rfl,mo⟩;have hf:=gj.D mo;have ho:=hN.D hf;have mq:=mg.D hf;refine xe<|Q0 rfl (λms=>OU ms (by rw[OX (by decide:¬(3:Int)∈[(0:Int),0,0])];exact My)) (λ_=>?_);refine Qf<|Qe<|QW (α:=Bool) [(85,102)] (λz=>[(102,.bool z)]) (λz w'=>w'=mj/\z=false) oh ?_ ?_
 ·refine Qr<|Qa<|xb (XI O O) (λmt=>OU O mt) (λ_=>?_);refine Qa<|Qa<|xb (XI O O) (λmu=>OU O mu) (λ_=>?_);refine Qz O<|Qa<|Qa<|xb (XI O O) (λmv=>OU O mv) (λ_=>?_);refine Qz O<|Qa<|Qa<|xb (XI O O) (λmw=>OU O mw) (λ_=>?_);refine Qz O<|Qa<|Qa<|ZL O O<|Qz O<|xe ?_;exact⟨false,La,O,O⟩
 rintro z g z5 ⟨rfl,my⟩;refine Q0 rfl (λmz=>OU (my.symm.D mz) og) (λ_=>?_);refine Qf<|Qc<|Q3 (I.I ho) O O<|Qa<|Qw<|(cX (G.I ho) (hm.I ho) (hJ.I ho)).S ?_;rintro _ hg ⟨hh,vl,rfl,hvl1,_,gk⟩;have h4:=ho.D hh;have gl:=mq.D hh;have hXl:=(gk O).2.len;have m0:Qu [] ↑hg vl X:=Qh.ints (gk O).1 oa od;refine Qa<|QQ O O<|QQ O O<|x Qd<|Qb ?_;have gm:sW hg { hg with drawn:=hg.drawn+1 }:=O3.X _ _
 refine Qe<|ZH [] (Y0 0 10 [3,4])<|pq (λ_ J=>Zb ((hu.I gl).I J) O O)<|p Qx<|pq (λ_ J=>Zb ((I.I h4).I J) O O) <|
  pk<|xg<|(cU (w:={ hg with drawn:=hg.drawn+1 }) ((G.I h4).I gm)).S ?_
 rintro vu2 w22 ⟨m1,m2⟩;have h5:=gm.D m1;refine⟨h5,?_⟩;refine pk<|xg<|(cY ((hw.I gl).I h5) ((hm.I h4).I h5) (Qh.ints m2 oa od)).S ?_;rintro _ m3 ⟨m4,vm,rfl,m5,_⟩;have S:=h5.D m4;refine⟨S,?_⟩;refine p Qx<|p (λ_=>QV O O)<|p (λ_=>QV O O)<|p ZA<|p ZA<|Lg.pe ?_;have m6:Qu [] ↑m3 vm X:=Qh.ints m5 oa od;have hQ:=h4.D S;refine Qe<|Qc<|Q3 (I.I hQ) O O<|Qa<|Qa<|Qo<|Q2 [[sS 0],[sS 0]] λb120 w24 gn hb120 m7 =>
  Qw<|(Un (es:=[0,0]) ((G.I hQ).I gn) (QnI m7) hE hF).S ?_
 rintro _ m8 ⟨rfl,m9⟩;have T:=gn.D m9;have pc:=hQ.D T;refine xe<|Q0 rfl (λpd=>OU pd (by rw[OX (by decide:¬(3:Int)∈[(0:Int),0])];exact My)) (λ_=>?_);refine Qf<|Qe<|QW (α:=Bool) [(122,133)] (λz=>[(133,.bool z)]) (λz w'=>sW m8 w'/\z=false) oh ?_ ?_
 ·refine Qr<|Qa<|xb (XI O O) (λpf=>OU O pf) (λ_=>?_);refine Qa<|Qa<|xb (XI O O) (λpg=>OU O pg) (λ_=>?_);refine Qz O<|Qa<|Qa<|Qa<|Qw<|(VN ((m0.I S).I T) (m6.I T)).S ?_;rintro _ hj ⟨rfl,U⟩;refine x (Zj O)<|Qz O<|xe ?_;exact⟨false,La,U,O⟩
 rintro z g hj ⟨U,ph⟩;refine Q0 rfl (λpj=>OU (ph.symm.D pj) og) (λ_=>?_);refine Qf ?_;have pn:=pc.D U;have go:sW gc hj:=((((hK.D h1).D he).D hf).D hh).D ((S.D T).D U);have po:sW kx hj:=(((h1.D he).D hf).D hh).D ((S.D T).D U);have gq:sW ha hj:=((he.D hf).D hh).D ((S.D T).D U);have pp:sW ma hj:=(hf.D hh).D ((S.D T).D U);have E:=ku.I go;have h6:=ge.D go;have j1:=ki.I h6;have j2:=kj.I h6;have j3:=kk.I h6;have j4:=kn.I h6;have k1:=k0.I po;have k2:=k5.ints.I gq;have k3:=hvo.ints.I gq;have k4:=mf.ints.I pp;refine QW (α:=Bool) [(2,2),(134,191)] (λz=>[(2,.bool z)]) (λz w'=>sW hj w'/\z=true) oh ?_ ?_
 ·refine Qr<|Qs O (u:=.bool NB.2) E O O<|Qa<|xB (b:=NB.2 == NB.2) (Xp O O) (λ_=>?_) (λpt=>OU pt (by rw[beq_self_eq_true];decide));refine Qa<|Qs O (u:=rs) E O O<|Qa<|Qw<|(VN j1 k1).S ?_;rintro _ w27 ⟨rfl,hp⟩;refine Qz O<|Qa<|Qs O (u:=.bool OB.isNone) (E.I hp) O O<|Qa<|xB (b:=OB.isNone == OB.isNone) (Xp O O) (λ_=>?_) (λpu=>OU pu (by rw[beq_self_eq_true];decide));refine Qz O<|Qa<|Qs O (u:=rw) (E.I hp) rfl rfl<|Qa<|Qw<|(VN (j2.I hp) (k2.I hp)).S ?_;rintro _ w28 ⟨rfl,pw⟩;have h7:=hp.D pw;refine Qz O<|Qa<|Qs O (u:=ro) (E.I h7) O O<|Qa<|Qw<|(VN (j3.I h7) (k3.I h7)).S ?_;rintro _ w29 ⟨rfl,pz⟩;have hq:=h7.D pz;refine Qz O<|Qa<|Qs O (u:=.bool CN.isNone) (E.I hq) O O<|Qa<|xB (b:=CN.isNone == CN.isNone) (Xp O O) (λ_=>?_) (λp0=>OU p0 (by rw[beq_self_eq_true];decide));refine Qz O<|Qa<|Qs O (u:=rp) (E.I hq) O O<|Qa<|Qw<|(VN (j4.I hq) (k4.I hq)).S ?_;rintro _ w30 ⟨rfl,p4⟩;have hR:=hq.D p4;refine Qz O<|Qa<|Q7 O<|x (Qj (u:=sS (CN.elim (-1) (·.2))) (E.I hR) O O)<|Qa<|xb (Zd O O) (λ_=>?_) (λp5=>OU O p5);refine Qz O<|Qa<|Q3 (E.I hR) O O<|Qw<|(QcA (R:=⟨NB.2,rs,OB.isNone,rw,ro,CN.isNone,rp,CN.elim (-1) (·.2)⟩)).S ?_;rintro _ w31 ⟨rfl,p6⟩;have hS:=hR.D p6;refine xB (b:=NB.2) Kd (λh8=>?_) (λh8=>?_)
  ·refine Qa<|xB (b:=OB.isNone) Kd (λhT=>?_) (λhT=>?_)
   ·refine Qz O<|Qa<|Qa<|Qz O<|x (Xp O O)<|Qz O<|Qb<|⟨(NB.2 && OB.isNone && CN.isNone) == CN.isNone,La,hS,by rw[h8,hT,Nx,Nx,beq_self_eq_true]⟩
   refine Qz O<|Qa<|Jr<|Qz O<|x (Xp O O)<|Qz O<|Qb<|⟨(NB.2 && OB.isNone && CN.isNone) == false,La,hS,by rw[h8,hT];rfl⟩
  refine Qa<|Jr<|Qz O<|Qa<|Jr<|Qz O<|x (Xp O O)<|Qz O<|Qb<|⟨(NB.2 && OB.isNone && CN.isNone) == false,La,hS,by rw[h8];rfl⟩
 rintro z g w32 ⟨p7,p8⟩;exact Qk ⟨[.bool z],La,by rw[p8];rfl,((hH.D Y).D pn).D p7⟩
theorem Xc {a b:Bool}(E:a=true)(G:b=true):(a && b)=true:=by rw[E,G];rfl
theorem Qas {f:FuncId}{s:ChangeSpec}{c:OpenClaim}(E:(c.wf (OpenSpec.ofChange s))=true)(G:(laidOutB P)=true)(I:(mapsRowed P)=true)(J:(fn.params.all (P.readableRec ·))=true)(S:(namedTie P c.named s.vars)=true)(T:((c.stops == []))=true)(U:((P.stops == []))=true)(V:((c.knobs == []))=true)(Y:((P.stopKnobs == []))=true)(ha:((c.inPlace == P.inPlace f))=true)(hc:((c.unfollowed == P.unfollowed f))=true)(he:((c.recurses == P.recurses f))=true)(hf:((c.named == P.varsNamed f))=true)(hg:((c.maps == (fn.params.toList++s.plain.varTypes P).any (P.mapsRec ·)))=true)(hh:((c.ifaces == (fn.params.toList++s.plain.varTypes P).any (P.ifacesRec ·)))=true)(hj:((c.mapsOut == P.mapsAmong fn.resultTypes.toList))=true)(hk:((c.loops == (fn.params.toList++s.plain.varTypes P).any (P.loopsFrom ·)))=true)(hm:((c.wideKeys == (fn.params.toList++s.plain.varTypes P++fn.resultTypes.toList).any (P.wideKeysFrom ·)))=true)(hn:(s.vars.all (P.varReadable ·))=true)(ho:(fn.resultTypes.all (λt=>P.readableRec t && decide (t<P.types.size)))=true)(hp:((c.ifacesOut == fn.resultTypes.toList.any (P.ifacesRec ·)))=true)(hq:((c.loopsOut == fn.resultTypes.toList.any (P.loopsFrom ·)))=true)(hr:((c.plainKeys == P.plainKeys))=true)(hs:(c.shortTexts.isNone)=true)(ht:(P.stopsHeard)=true)(hu:(P.mayEnter)=true)(hv:((c.lifted == P.liftsFinal))=true)(hw:((P.make == some c.make))=true)(hy:((c.kinds == (if c.domain.isEmpty then[]else fn.params.toList.map λt=>match P.underlying t with|some (.int k)=>some k|_=>none)))=true)(hz:((c.pinned == c.pinnedBy))=true)(h0:((c.veiled == (fn.params.toList++s.plain.varTypes P++fn.resultTypes.toList).any (P.veiledRec ·)))=true)(hA:(c.veiledFits P fn.params.toList (fn.params.toList++s.plain.varTypes P++fn.resultTypes.toList))=true):joinedFacts P f fn s c=true:=by
 unfold joinedFacts;exact(Xc (Xc (Xc (Xc (Xc (Xc (Xc (Xc (Xc (Xc (Xc (Xc (Xc (Xc (Xc (Xc (Xc (Xc (Xc (Xc (Xc (Xc (Xc (Xc (Xc (Xc (Xc (Xc (Xc (Xc (Xc E G) I) J) S) T) U) V) Y) ha) hc) he) hf) hg) hh) hj) hk) hm) hn) ho) hp) hq) hr) hs) ht) hu) hv) hw) hy) hz) h0) hA)
theorem zy:laidOutB sV=true:=oc
theorem Qis:mapsRowed sV=true:=oc
theorem Qiu:sV.stopsHeard=true:=oc
theorem Qiv:sV.mayEnter=true:=oc
theorem Qit:(false == sV.liftsFinal)=true:=oc
theorem Qlx:(sV.make == some Make.cut)=true:=oc
theorem QlB:(Rows.hierarchyTestsRow.inPlace == sV.inPlace 3)=true:=oc
theorem QlA:(Rows.hierarchyTestsRow.unfollowed == sV.unfollowed 3)=true:=oc
theorem Qlz:(Rows.hierarchyTestsRow.recurses == sV.recurses 3)=true:=oc
theorem Qly:(Rows.hierarchyTestsRow.named == sV.varsNamed 3)=true:=oc
theorem QnV:Rows.hierarchyTestsRow.wfByText (OpenSpec.ofChange Rows.hierarchyTestsSpec)=true:=oc
theorem QnY:Tryz.pinned.checked.prog.mainIs=some (true, "7e6c111e63cd6b879c1f82077465bee9620edb040a7287706e5c7dbd129b5c95".toList):=oc
theorem QnX:sV.funcNamed "overseer/overseerlaw36.HierarchyTests" = some 3:=oc
theorem QnZ:false=sV.looks []:=oc
theorem QnW:([38].all λu=>!sV.wantsStandIn u)=true:=oc
theorem Qn0:false=Rows.hierarchyTestsRow.goesBy Tryz.pinned.checked.prog:=oc
section
variable {H:Type}{enc:TypeId×O0->H}{W:OZ}{b0:Nat}{sp:Nat->Bool}{held:Bool}
theorem Qgl {v:O0}{d:DataW H}{ps:List MemPlace}{t tq:TypeId}{fs he:Array Field}{E g1:Field}(G:P.underlying t=some (.struct fs))(hg:P.underlying tq=some (.struct he))(hc:P.cellsOf t=153)(I:P.cellsOf tq=152)
  (J:(P.cellTypes P.depth t).map oW=some 153) (S:(P.cellTypes P.depth t).map (·.take 152)=P.cellTypes P.depth tq) (f0:fs[0]?=some E) (f1:fs[1]?=some g1) (t0:E.type=tq) (o0:E.offset=0) (o1:g1.offset=152) (c1:P.cellsOf g1.type=1) (k1:kT P .u8 5 g1.type=true)
  (T:Value.okWide P W .any base t v) (h:DataW.Trod enc P W b0 sp held t v d ps):∃(l:LV) (hb:Nat),v=.agg (l++[Value.int .u8 (hb:Int)]).toArray/\hb<256/\Value.okWide P W .any base tq (sT l)/\∃d' ps',DataW.Trod enc P W b0 sp held tq (sT l) d' ps':=by
 simp only[Value.okWide,G]at T;obtain⟨cs,rfl,U,ts,hh,hs,hj⟩:=T;rw[hc]at U;obtain⟨l⟩:=cs;have hl:l.length=153:=U;obtain⟨fuel,hf⟩:=h;obtain⟨xs,m,_,_,_,hk,hm⟩:=DataW.trod_struct G hf;have V:∀(i:Nat) (f:Field),fs[i]?=some f->DataW.trod enc P W b0 sp held m f.type ((l.drop f.offset).take (P.cellsOf f.type))=xs[i]?:=hm;have ht:0<fs.size:=(LH.1 f0).1;obtain⟨z,hz⟩:∃z,xs[0]?=some z:=⟨xs[0]'oa,LE oa⟩;have e0:=V 0 E f0;rw[t0,o0,I,NE,hz]at e0;obtain⟨c,Y⟩:∃c,l[152]?=some c:=⟨l[152]'oa,LE oa⟩;obtain⟨hb,rfl,hn⟩:=QcP (K8 hk V f1 k1 oa oa Y);have ho:l=l.take 152++[Value.int .u8 (hb:Int)]:=by
  have h1:l.drop 152=[Value.int .u8 (hb:Int)]:=by
   apply Nj;intro i;rw[MI]
   match i with
   | 0=>exact Y
   | i+1=>rw[Mm oa];rfl
  rw[<-h1,MB]
 refine⟨l.take 152,hb,by show Value.agg l.toArray=_;rw[<-ho],hn,?_,z.1,z.2,m,e0⟩;rw[hh]at S J;have hp:ts.length=153:=Option.some.inj J;simp only[Value.okWide,hg];refine⟨(l.take 152).toArray,O,by rw[I];simp;omega,ts.take 152,S.symm,⟨1,by simp;omega⟩,λi v hv=>?_⟩;have hi:i<152:=by
  have:=(LH.1 hv).1;simp at this;omega
 have hq:l[i]?=some v:=by
  have h2:(l.take 152)[i]?=some v:=by simpa using hv
  rwa [LZ,OS hi]at h2
 obtain⟨u,ha,hr⟩:=hj i v (ou hq);rw[hp,NG (show i<153 by omega)]at ha;refine⟨u,?_,hr⟩;rw[show(ts.take 152).length=152 by simp;omega,NG hi,LZ,OS hi];exact ha
end
theorem Qp1 {H:Type}{enc:TypeId×O0->H}{W:OZ}{b0:Nat}{sp:Nat->Bool}{held:Bool}{v:O0}{d:DataW H}{ps:List MemPlace}(E:Value.okWide sV W .any base 38 v)(h:DataW.Trod enc sV W b0 sp held 38 v d ps):
  ∃(l:PwV) (hb:Nat),v=.agg (ZX l++[Value.int .u8 (hb:Int)]).toArray/\hb<256/\PwA W l:=by
 obtain⟨cs,hb,rfl,G,I,U,V,J⟩:=Qgl (tq:=36) underlying38 underlying36 oc oc oc oc O O O O O oc oc E h;obtain⟨l,S,T⟩:=Qp0 I J;refine⟨l,hb,?_,G,T⟩;have:=OT Array.toList (Value.agg.inj S);rw[show cs=ZX l from this]
end Go.Lg
