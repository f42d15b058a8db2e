/- Merged out of 24 texts. -/
import Derived.Test.YtnlnkchlcpfehaaGreatDoorNhe
import Derived.Test.YtnlnkchlcpfehaaGreatDoorRows
import Derived.JoinedOf
import Derived.Test.YtnlnkchlcpfehaaGreatDoorCards
import Derived.SevenTiedAt
set_option maxHeartbeats 40000000
set_option maxRecDepth 100000
set_option linter.all false
open Go Go.Lg
open Go.Value renaming int->oG
open Go.IntKind renaming i64->oH
open _root_.List renaming mem_singleton->oJ,not_mem_nil->oK,mem_cons->oL,length_append->oN,length_singleton->oP,length->oQ,getD->oR
open Go renaming World->O1,Value->O2,Operand->O3,Program->O4
open Go.Proofs Go.Proofs.Tryz
open Go.Proofs.Tryz renaming prog->sV
open Go.Proofs.YtnlnkchlcpfehaaGreatDoor
variable {w w':O1}{L L' X ds L2:LN}{n t sz i b T j E g N id ty cap b1 B kt hi b2 M gp:Nat}{cs us news:LV}{H:xA}{a:Q6}{α β:Type}{y G:O3}{z va ve vm vl vs vb vx vk:O2}{l u al out rs:LI}{c:ZF}{P:O4}{f f1:Fr}{fn:Func}{s:X7}{q:DV}{o:Oper}{d:xE}{af:xC}{gd:xq}{es:List Ed}{K:xx}{bf:List xI}{k':IntKind}{qs:List IV}{at_:Array Nat}{rest:xt}{co:List XD}
namespace Go.Lg
theorem zj {pS:String}{fs:Array Field}(ft o:Nat){x:O3}{v:O2}(E:P.underlying t=some (.struct fs))(G:(fs[j]?).map (λd=>(d.type,d.offset))=some (ft,o))[h1:X8 P ft](hx:ev f x=sT us)(H:us[o]?=some v):
  (execOp (ev f) ⟨d,.field t x j,ty,pS,af,gd⟩).run P w=.ok (.value v) w:=by
 obtain⟨fd,I,J⟩:=Ms.1 G;cases J
 simp[execOp,hx,Instr.field,run_underlying E,I,asAgg,part,Qax (t:=fd.type),H]
theorem Qej:QbG.co.length=3:=oe
theorem Qbw {c:CL}(h:c.V=QbG){k:Nat}(E:k<c.co.length):(c.co[k]'E).nm=JE k:=by
 have e:c.co.map (·.it)=QbG.co:=OV ZF.co h;unfold JE;rw[<-e,Nv,Ng,LG E];rfl
theorem Qju:JF (JE 1):=OY (p:=(JE 1).size<=9223372036854775807) oe
theorem Qo0:JF (JE 2):=OY (p:=(JE 2).size<=9223372036854775807) oe
abbrev Qql:List (ByteArray×Int):=[(JE 1,0),(JE 2,1)]
abbrev Qki (b:Nat):ZZ:=⟨false,⟨3,Xe,⟨Zm,Zm,Zm,Vq⟩,sL b 2 2,Qql,Zm,[],0⟩⟩
abbrev Qkf:ZZ:=⟨true,⟨1,JE 1,⟨Zm,Zm,Zm,Vq⟩,Zm,[],Zm,[],0⟩⟩
abbrev Qqd:LV:=[.bool false,sS 0,.string .empty,nS,sS 0,nS,nS,nS,nS,sS 0]
instance:Bw sV 72 Qqd [(0,1),(1,9)]:={}
theorem QnQ :ZM L H Zm Zm Zm Vq:=⟨Zn.nil _ _ _,Zn.nil _ _ _,Zn.nil _ _ _⟩
theorem Qpo {T1 T2:Nat}(G:QZ H b1 T1 (Qql.flatMap ZN))(I:QZ H b2 T2 (ZS (Qki b1)))(n1:JF (JE 1))(J:JF (JE 2)):zO [] H (sL b2 1 1) [Qki b1]:=by
 refine⟨I.arr od (n:=1) (cap:=1) (sz:=10) rfl ol (Lx _),λq O=>?_⟩;rw[Lb.1 O];refine⟨XI ol,QnQ,⟨G.arr od (n:=2) (cap:=2) (sz:=2) rfl ol (Lx _),λp E=>?_⟩,V4.nil⟩;rcases Lj.1 E with rfl|E
 ·exact n1
 rw[Lb.1 E];exact J
theorem Qpp {T2:Nat}(E:QZ H b2 T2 (ZS Qkf))(n1:JF (JE 1)):zO [] H (sL b2 1 1) [Qkf]:=by
 refine⟨E.arr od (n:=1) (cap:=1) (sz:=10) rfl ol (Lx _),λq G=>?_⟩;rw[Lb.1 G];exact⟨n1,QnQ,V4.nil,V4.nil⟩
theorem Qab {x:Yi}(E:x.ls.length<=2)(G:x.ts.length<=2):q9 x:=⟨oa,oa⟩
theorem Qah {E:O1}(G:sX w E)(h:∀b∈s.own,↑w<=b)(H:O5 s.own E w'):sX w w':=G.S H λb I=>.inr (h b I)
theorem Qeg (hq:Kb w 4096):
  QY sV 20 [] w λr w'=>r=.bool true/\sX w w':=by
 refine Zq func20 ?_;refine Qc<|Qb<|Qc<|Qz<|(JI w).Y ?_;rintro _ w1 ⟨hi,c1,rfl,hr,gp⟩;have hN:=Ql0 (gp [] od) (Vf (by rw[hr];exact Qo3)) (hq.I hi) (by rw[hr];exact QmA);rw[hr]at hN;refine Qz<|hN.Y ?_;rintro _ w2 ⟨gq,s,rfl,esys,gr,hA,hSy⟩;have ht:=hi.D gq;refine Qa<|QW U U<|QW U U<|x Qi<|Qb<|Qd<|QX (α:=Unit) [(14,19)] (λ_=>[(19,.bool false)]) (λ_ w'=>w'=w2) om ?_ ?_
 ·refine Qs<|Qa<|xb (XH U U) (λhC=>OW U hC) (λhC=>?_);refine Qa<|Qa<|x (Jj underlying47 U U)<|QC U<|xe ?_;exact⟨(),La,U⟩
 rintro⟨⟩ g3 H rfl;refine ZO rfl<|Qf ?_;have hj:sX H { H with drawn:=H.drawn+1 }:=O5.C _ _
 have hk:=hSy.lt;refine QX (α:=Nat×V5×X7) [(20,40),(3,4)] (λz=>[(3,pS z.1),(4,sS 0)]) (λz w'=>O5 s.own H w'/\z.2.2.b=s.b/\z.2.2.sys=QfA/\Ye 2 z.2.2.sys/\z.2.1.rp=YN (KX KI.c U2).2 KI.ps 1/\(∀b∈z.2.2.own,b∈s.own\/↑H<=b)/\z.1∉z.2.2.own/\KS z.2.2.own w' z.2.2/\Jt [] ↑w' z.2.1/\∃T,QZ ↑w' z.1 T (Q0 z.2.1)) om ?_ ?_
 ·refine Qa1 (α:=V5×X7) (O5 s.own H) [oE 0] [oF 1,oE 2,oE 3,oE 4,oE 5,oE 6,oF 7,oE 8,oE 9,oE 10,oE 11,oE 12,oF 13,oE 14,oE 15,oF 16,oF 17,oE 18,oE 19,oE 20] 21 3 [oF 22,oE 23] s.own
   [(20,40)] [(20,20),(22,40)] (λz=>[(39,sT (Q0 z.1)),(40,sS 0)])
   (λz _ own w'=>O5 s.own H w'/\z.2.b=s.b/\z.2.sys=QfA/\Ye 2 z.2.sys/\z.1.rp=YN (KX KI.c U2).2 KI.ps 1/\(∀b∈z.2.own,b∈s.own\/↑H<=b)/\∀J,↑H<=J->J∉own->J∉z.2.own/\KS (J::z.2.own) w' z.2/\Jt [J] ↑w' z.1)
   (λv w'=>∃b T,v=pS b/\↑H<=b/\QZ ↑w' b T ZU) mixed om oe om U hj.any (λ_ _ h1 h2=>h1.D h2) hk ?_ ?_ ?_ ?_
  ·rintro v own wa wb ⟨b,T,rfl,E,hB⟩ G V;exact⟨b,T,U,E,hB.J G (V b ou)⟩
  ·rintro z _ own wa wb ⟨h1,h2,h3,h4,h5,h6,S⟩ G;exact⟨h1.D G,h2,h3,h4,h5,h6,λJ ha V=>⟨(S J ha V).1,(S J ha V).2.1.I G,(S J ha V).2.2.I G⟩⟩
  ·rintro⟨q,Y⟩ g own wz v C' ⟨h1,h2,h3,h4,h5,h6,S⟩ mh _ ⟨b,T,rfl,E,hB⟩ gs;obtain⟨n1,n2,n3⟩:=S b E (gs b ou).1;refine pkk<|JY (Q0 q) hB n3.ones λw8 hf hv=>p ZG<|pe ?_;exact⟨(b,q,Y),oB,h1.S hf (λc I=>by rw[Lb.1 I];exact .inr E),h2,h3,h4,h5,h6,n1,(n2.J hf (λc I=>.inl (by rw[Lb.1 I];exact Lq)) (λc I hm=>n1 (Lb.1 hm ▸ I))).up (λc I=>.inl (Lk _ I)) (λc I=>I),(n3.st (hf.Y λc I=>I)).up od,T,hv⟩
  refine p Qv<|pe ⟨λg wf hD=>K3 (us:=ZU) U λb mj hE hF hG=>⟨hE,hD.D hE,⟨b,_,U,LH hD.size hF,hG⟩,λx hx=>?_⟩,?_⟩
  ·have gt:x=b:=by
    have gu:x∈[b]:=hx;simpa using gu
   subst gt;exact⟨hF,hG.lt⟩
  refine f3k λx1 p1 c1=>?_;refine xg<|(JI x1).Y ?_;rintro _ y1 ⟨q1,e1,rfl,hH,gv⟩;have mo:e1.co.length=3:=by rw[<-Qej,<-hH];exact(Lh _).symm
  have gw:=gv s.own (λb E=>LQ (hk b E) (LH hj.size p1.size));refine⟨λx=>O5 s.own H x/\O5 s.own y1 x,λx hx=>hx.1,λx x' hx G=>⟨hx.1.D G,hx.2.D G⟩,⟨c1.D q1,O5.Z _ _⟩,s.own,q1.any,λb E=>.inl E,?_⟩;obtain⟨a1,mq,gx,hI⟩:=Zn.at gw.co.arr (i:=1) oa;rw[Xw QJ 5 Yv e1.co 1 oa]at hI;have gy:(e1.co[1]'oa).nm=JE 1:=Qbw hH oa;refine Ul (λ_=>zj 41 1 underlying45 U U U)<|Ul (λ_=>Xv (show Go.Lg.ev _ _=_ from gx) U ol oa)<|Ul (λ_=>Zd U) <|
   f3q (λ_ I=>Qy ((hI.st I.2).fld 0 (.string (JE 1)) (OV (λn=>some (Value.string n)) gy)) U)<|Ul (λ_=>Qx oB) ?_
  refine f3k λx2 p2 c2=>?_;refine xg<|(JI x2).Y ?_;rintro _ y2 ⟨q2,e2,rfl,hJ,gz⟩;have ms:e2.co.length=3:=by rw[<-Qej,<-hJ];exact(Lh _).symm
  have g0:=gz s.own (λb E=>LQ (hk b E) (LH hj.size (LH p1.size (LH q1.size p2.size))));refine⟨λx=>(O5 s.own H x/\O5 s.own y1 x)/\O5 s.own y2 x,λx hx=>hx.1,λx x' hx G=>⟨⟨hx.1.1.D G,hx.1.2.D G⟩,hx.2.D G⟩,⟨⟨c2.1.D q2,c2.2.D q2⟩,O5.Z _ _⟩,s.own,q2.any,λb E=>.inl E,?_⟩;obtain⟨a2,mt,g2,hK⟩:=Zn.at g0.co.arr (i:=2) oa;rw[Xw QJ 5 Yv e2.co 2 oa]at hK;have g6:(e2.co[2]'oa).nm=JE 2:=Qbw hJ oa;refine Ul (λ_=>zj 41 1 underlying45 U U U)<|Ul (λ_=>Xv (show Go.Lg.ev _ _=_ from g2) U ol oa)<|Ul (λ_=>Zd U) <|
   f3q (λ_ I=>Qy ((hK.st I.2).fld 0 (.string (JE 2)) (OV (λn=>some (Value.string n)) g6)) U)<|Ul (λ_=>Qx oB) ?_
  refine f3k λx3 p3 c3=>Za [[.string (JE 1),sS 0],[.string (JE 2),sS 1]] λb13 x4 p4 mu g7=>?_;refine⟨λx=>(O5 s.own H x/\O5 s.own y1 x)/\O5 s.own y2 x,λx hx=>hx,λx x' hx G=>⟨⟨hx.1.1.D G,hx.1.2.D G⟩,hx.2.D G⟩,⟨⟨c3.1.1.D p4,c3.1.2.D p4⟩,c3.2.D p4⟩,s.own,p4.any,λb E=>.inl E,?_⟩;refine Ul (λ_=>Q5 [(0,[sS 3]),(1,[.string Xe]),(3,[sL b13 2 2])] ⟨U,U,U,U,U,U,Z⟩)<|Ul (λ_=>Q5 [(1,[sS 3,.string Xe,Zm,sS 0,Zm,Zm,sL b13 2 2,Zm,sS 0])] oB) ?_;refine f3k λx5 p5 c5=>Za [ZS (Qki b13)] λmv x6 p6 mw g8=>?_;refine⟨λx=>(O5 s.own H x/\O5 s.own y1 x)/\O5 s.own y2 x,λx hx=>hx,λx x' hx G=>⟨⟨hx.1.1.D G,hx.1.2.D G⟩,hx.2.D G⟩,⟨⟨c5.1.1.D p6,c5.1.2.D p6⟩,c5.2.D p6⟩,s.own,p6.any,λb E=>.inl E,?_⟩;refine f3k λx7 p7 c7=>?_;have hw:sX H x7:=(((((((hj.D p1).D q1).D p2).D q2).D p3).D p4).D p5 |>.D p6).D p7;have hL:=hw.size;have g9:KS (Ut ↑H ↑x7++s.own) x7 s:=(hSy.up (λb E=>by
   rcases Lc.1 E with E|E
   ·exact .inr (Zw.1 E).1
   exact .inl (Lc.2 (.inl E))) (λb E=>Lc.2 (.inr E))).I hw
  have hR:=yw g9 gr ol (λb E=>by
   rcases Lc.1 E with E|E
   ·exact(Zw.1 E).2
   exact LQ (hk b E) hL) (Qpo (g7.I ((p5.D p6).D p7)) (g8.I p7) Qju Qo0) (by
   intro e he;rw[show[Qki b13].map ZZ.e=U2 from rfl]at he;rw[Lb.1 he];exact Qab ol ol) (hq.I (ht.D hw))
  rw[show[Qki b13].map ZZ.e=U2 from rfl,esys,show Qbx QbG=KI from rfl,Qo2]at hR;refine xg<|hR.Y ?_;rintro my x8 ⟨qr,rfl,hN,_,hl⟩;have hl:=hl U;refine Exists.elim hl.2 λY O=>?_;refine⟨λx=>(O5 s.own H x/\O5 s.own y1 x)/\O5 s.own y2 x,λx hx=>hx,λx x' hx G=>⟨⟨hx.1.1.D G,hx.1.2.D G⟩,hx.2.D G⟩,⟨⟨c7.1.1.Q O.2.2.2.1,c7.1.2.Q O.2.2.2.1⟩,c7.2.Q O.2.2.2.1⟩,Y.own++Ut ↑x7 ↑x8,O.2.2.2.1,λb E=>?_,?_⟩
  ·rcases Lc.1 E with E|E
   ·exact(O.2.2.2.2.2 b E).imp id λh=>⟨h,O.2.2.2.2.1.lt b E⟩
   exact .inr (Zw.1 E)
  refine Ul Qv<|Ul (λ_=>Zi U U)<|Ul (λ_=>Zi U U)<|f3e ?_;refine⟨(qr,Y),oB,c7.1.1.Q O.2.2.2.1,O.1,O.2.1,O.2.2.1,hl.1,λb E=>?_,λJ ha V=>⟨λhm=>V (Lc.2 (.inl hm)),?_,?_⟩⟩
  ·exact(O.2.2.2.2.2 b E).imp id λh=>LH hL h
  ·refine O.2.2.2.2.1.up (λb E=>?_) (λb E=>Lk _ E);rcases Lj.1 E with rfl|E
   ·by_cases S:b<↑x7
    ·exact .inl (Lc.2 (.inr (Lc.2 (.inl (Zw.2 ⟨ha,S⟩)))))
    by_cases h8:b<↑x8
    ·exact OW (Lc.2 (.inr (Zw.2 ⟨Nu S,h8⟩))) V
    exact .inr (Nu h8)
   exact .inl (Lc.2 (.inl E))
  by_cases S:J<↑x7
  ·exact hN [J] (λb E=>by rw[Lb.1 E];exact S)
  by_cases h8:J<↑x8
  ·exact OW (Lc.2 (.inr (Zw.2 ⟨Nu S,h8⟩))) V
  exact(hN [] (λb E=>by cases E)).up λb E=>by rw[Lb.1 E];exact .inr (Nu h8)
 rintro⟨b3,qr,Y⟩ g4 w4 ⟨ka,e1,e2,hO,e3,kb,n1,hP,kc,T3,ke⟩;have hQ:sX w w4:=Qah ht (λb E=>LH hi.size (hA b E)) ka;have kf:qr.k1=[(1,Xd)]:=(OV Rp.kept e3).D QoY;have kg:qr.k2=[(2,Xe)]:=(OV Rp.made e3).D QoX;have kh:qr.k3=[]:=(OV Rp.gone e3).D QoZ;have ki:Y.made=3:=(OV q7.made e2).D Qjv;have kj:Y.sys.un≠[]:=by rw[e2];exact List.append_ne_nil_of_right_ne_nil _ (List.cons_ne_nil _ _)
 refine Qj<|Qz<|(JI w4).Y ?_;rintro _ w5 ⟨hy,c5,rfl,hS,kk⟩;have mz:c5.co.length=3:=by rw[<-Qej,<-hS];exact(Lh _).symm
 refine x (zj 41 1 underlying45 U U U)<|xig (g:=QJ) (i:=1) Yv (kk [] od).co.arr rfl rfl oa λm2 kn=>?_;refine x (Zd U)<|x (Qy (kn.fld 0 (.string (JE 1)) (OV (λn=>some (Value.string n)) (Qbw hS oa))) U) <|
  x (Q5 [(0,[sS 1]),(1,[.string (JE 1)])] ⟨U,U,U,U,Z⟩)<|x (Q5 [(0,[.bool true]),(1,[sS 1,.string (JE 1),Zm,sS 0,Zm,Zm,Zm,Zm,sS 0])] ⟨U,U,U,U,Z⟩) <|
  Qn<|Za [ZS Qkf] λm3 w6 hz m4 ko=>?_
 have hT:=(hP.I hy).I hz;have hR5:=yw hT hO ol hT.lt (Qpp ko Qju) (by
  intro e he;rw[show[Qkf].map ZZ.e=Qjw from rfl]at he;rw[Lb.1 he];exact Qab ol ol) (hq.I ((hQ.D hy).D hz))
 rw[show[Qkf].map ZZ.e=Qjw from rfl,e2,Qo1,e1]at hR5;refine Qz<|hR5.Y ?_;rintro r9 w7 ⟨kq,rfl,kr,kt,_⟩;refine Qa<|QW U U<|QW U U<|QM ZU λb5 w8 hf ku kv=>QK (Q0 kq) kv (kr [] od).ones λw9 kw m5=>Qb ?_;have kx:sX w4 w9:=((hy.D hz).D ((kt ol).1)).D (hf.O kw ku);refine Qc<|x (Qx ⟨U,U,Z⟩)<|x (Qx ⟨U,U,Z⟩)<|QM [sS 0,.string .empty] λb7 m6 kz k0 hW=>QM [sS 0,.string .empty] λb8 m7 hX m8 hv =>
  QK (Xp (1,Xd)) (hW.I hX) oB λm9 hY k4=>?_
 have pa:=hW.lt;refine QK (Xp (2,Xe)) (hv.J hY oh) oB λhZ ga k5=>xe ?_;have k6:sX w9 hZ:=((kz.D hX).O hY k0).O ga oa;have ho:=kx.D k6;have h0:=ke.I ho;have h9:=kc.I ho;have gb:=hP.I ho;have gc:=h9.a1;have gg:=h9.a2;have gh:=h9.a3;rw[kf]at gc;rw[kg]at gg;rw[kh]at gh;refine QX (α:=Unit) [(0,0),(56,96)] (λ_=>[(0,.bool true)]) (λ_ w'=>O5 Y.own hZ w') om ?_ ?_
 ·refine Qs<|Qa<|xb (QR U U) (λgi=>?_) (λgi=>OW U gi);refine Qa<|Qo U h0 U U<|QT (k4.J ga oh) U U<|Qn<|Za [Xp (1,Xd)] λpc pd gj pf k7 =>
   Qz<|(Jm (L:=[]) (L':=[]) (l:=[(1,Xd)]) (gc.I gj) (k7.arr od (n:=1) (cap:=1) (sz:=2) rfl ol (Lx _))).Y ?_
  rintro _ pg ⟨rfl,k8⟩;have hp:=gj.D k8;refine QC U<|Qa<|Qo U (h0.I hp) U U<|QT (k5.I hp) U U<|Qn<|Za [Xp (2,Xe)] λph pj gk pm k9 =>
   Qz<|(Jm (L:=[]) (L':=[]) (l:=[(2,Xe)]) ((gg.I hp).I gk) (k9.arr od (n:=1) (cap:=1) (sz:=2) rfl ol (Lx _))).Y ?_
  rintro _ pn ⟨rfl,ma⟩;have hh:=(hp.D gk).D ma;refine QC U<|Qa<|Qo U (h0.I hh) U U<|QF (gh.I hh) U<|xb (QR U U) (λgl=>?_) (λgl=>OW U gl);refine QC U<|Qa<|Qa<|xb (QR U U) (λgm=>?_) (λgm=>OW U gm);have hM:=Qcp (gb.I hh);have hU:=yv (gb.I hh) hO;have hU:=hU.Y λr w' h=>h.2 kj;rw[e1]at hM hU;refine QC U<|Qa<|Qa<|Qz<|hM.Y ?_;rintro _ po ⟨rfl,rfl⟩;refine xb (QR U U) (λgn=>?_) (λgn=>OW ki gn);refine QC U<|Qa<|Qa<|Qz<|hU.Y ?_;rintro _ pp ⟨rfl,hu⟩;refine Exists.elim hu λs2 hu=>?_;have hV:=yv hu.2.2.2.2.1 hu.2.2.1;rw[hu.1]at hV;refine xb (QR U U) (λgo=>?_) (λgo=>OW U go);refine QC U<|Qa<|Qa<|Qz<|(hV.Y λr w' h=>h.1 (by rw[hu.2.1,e2];rfl)).Y ?_;rintro _ pu ⟨rfl,mf⟩;refine x (QR U U)<|QC U<|Qb<|⟨(),La,(hh.any.Q hu.2.2.2.1).D mf⟩
 rintro _ g5 pw mg;refine Qh ⟨[.bool true],La,U,Qah (hQ.D ho) (λb E=>?_) mg⟩;rcases kb b E with h|h
 ·exact LH hi.size (hA b h)
 exact LH ht.size h
theorem At.pre {a:Addr}(h:At L H a us)(n:Nat):At L H a (us.take n):=
 ⟨λu E=>h.out u (LX E),λu E=>h.lt u (LX E),λj u E=>by
  rw[LW]at E;split at E
  ·exact h.cell j u E
  cases E⟩
instance:Bw sV 220 z15 [(0,10),(10,5)]:={}
theorem jy (E:Kb w 4096):QY sV 5 [] w λr w'=>r=.bool true/\sX w w':=by
 refine Zq func5 ?_;refine Qc<|Qb<|QX (α:=Unit) [(0,4)] (λz=>[(0,.bool true)]) (λz w'=>sX w w') om ?_ ?_
 ·refine Qs<|Qz<|(Qeg E).Y ?_;rintro J O ⟨rfl,G⟩;refine Qa<|Qz<|(QeQ (E.I G)).Y ?_;rintro r2 S ⟨rfl,H⟩;refine QC U<|Qb<|⟨(),La,G.D H⟩
 rintro z g T I;exact Qh ⟨[.bool true],La,U,I⟩
theorem Qjt {c:CL}{q:MV}(h0:ZI L ↑w c)(hu:0<=q.ix)(hk:q.kd=1\/q.kd=2\/q.kd=3)(hr:q.kd=1->q.ix<(c.rq.length:Int))(hx:q.kd=2->q.ix<(c.ex.length:Int))(hs:q.kd=3->q.ix<(c.cs.length:Int)):
  QY sV 89 [c.val,.agg #[sS q.kd,sS q.ix,q.v]] w λr w'=>r=.agg #[sS (ZR c.V q.m).1,.string (ZR c.V q.m).2]/\sX w w':=by
 have hb:((q.ix.toNat:Nat):Int)=q.ix:=Int.toNat_of_nonneg hu;refine Zq func89 ?_;refine Qc<|Zl c.cells λb2 w1 hl h4 hv=>Zl [sS q.kd,sS q.ix,q.v] λb3 w2 hc h6 hm=>QM [sS 0,.string .empty] λb4 w3 T h7 hn=>xe ?_;refine Qc<|Qo U (hm.I T) U U<|x (Qx ⟨U,Z⟩)<|QM [sS 0,.string .empty] λb5 w4 hw hy hz=>QK [sS q.kd,.string .empty] hz oB λw5 h1 he=>xe ?_;have V:sX w3 w5:=hw.O h1 hy;have ho:=((hl.D hc).D T).D V;have hf:=((hv.I hc).I T).I V;have Y:=(hm.I T).I V;have hg:=hn.I V;have h8:=hn.lt;have hh:b4∉[b5]:=oh
 have h9:=hl.size;have hA:=hc.size;have h5:=(h0.up (L':=[]) od).I ho;have fin:∀(nm:ByteArray) (I w8:O1),(ZR c.V q.m)=(q.kd,nm)->O5 [b5] w5 I->QZ ↑I b5 87 [sS q.kd,.string nm]->O5 [b4] I w8->(Value.agg #[sS q.kd,.string nm]=.agg #[sS (ZR c.V q.m).1,.string (ZR c.V q.m).2]/\sX w w8):=λnm I w8 e h2 _ h3 =>
  ⟨by rw[e],(ho.O h2 oa).O h3 oa⟩
 refine Qd<|Qc<|Qo U Y U U<|xe<|Qm<|Qc<|x (QR U U)<|Qb<|QO U (λhi=>?_) (λhi=>?_)
 ·have hk1:q.kd=1:=hi;have E:q.ix.toNat<c.rq.length:=by have:=hr hk1;omega
  refine Qs<|Qo U hf U U<|Qo U Y U U<|xig (g:=QJ) (i:=q.ix.toNat) Yv h5.rq.arr U (show Go.Lg.ev _ _=_ from OV sS hb.symm) E λhp J =>
   x (Zd rfl)<|x (Qy (J.fld 0 (.string (c.rq[q.ix.toNat]'E).nm) U) U)<|QQ U<|Qn<|Qu (j:=1) (u:=.string (c.rq[q.ix.toNat]'E).nm) he U U od rfl λw6 G H=>xe ?_
  refine Qc<|QT H U U<|Qn<|Zv (us:=[sS q.kd,.string (c.rq[q.ix.toNat]'E).nm]) (hg.J G hh) U U U U oB λI O S=>xe ?_;refine Qh ⟨[.agg #[sS q.kd,.string (c.rq[q.ix.toNat]'E).nm]],⟨Yl S,Z⟩,fin _ _ _ ?_ G H O⟩;unfold ZR;rw[OU (show q.m.kd=1 from hk1)];refine Prod.ext U ?_;show((c.rq.map IV.it).getD q.ix.toNat ⟨.empty,Vq⟩).nm=_;simp[oR,E,IV.it]
 have hk1:¬q.kd=1:=hi;refine Qc<|x (QR U U)<|Qb<|QO U (λhj=>?_) (λhj=>?_)
 ·have ha:q.kd=2:=hj;have E:q.ix.toNat<c.ex.length:=by have:=hx ha;omega
  refine Qs<|Qo U hf U U<|Qo U Y U U<|xig (g:=Q3) (i:=q.ix.toNat) Xx h5.ex.arr U (show Go.Lg.ev _ _=_ from OV sS hb.symm) E λhp J =>
   x (Zd rfl)<|x (Qy (J.fld 0 (.string (c.ex[q.ix.toNat]'E).nm) U) U)<|QQ U<|Qn<|Qu (j:=1) (u:=.string (c.ex[q.ix.toNat]'E).nm) he U U od rfl λw6 G H=>xe ?_
  refine Qc<|QT H U U<|Qn<|Zv (us:=[sS q.kd,.string (c.ex[q.ix.toNat]'E).nm]) (hg.J G hh) U U U U oB λI O S=>xe ?_;refine Qh ⟨[.agg #[sS q.kd,.string (c.ex[q.ix.toNat]'E).nm]],⟨Yl S,Z⟩,fin _ _ _ ?_ G H O⟩;unfold ZR;rw[OT (show ¬q.m.kd=1 from hk1),OU (show q.m.kd=2 from ha)];refine Prod.ext U ?_;show((c.ex.map XV.x).getD q.ix.toNat ⟨.empty,[]⟩).nm=_;simp[oR,E,XV.x]
 have ha:¬q.kd=2:=hj;have hq:q.kd=3:=oa
 have E:q.ix.toNat<c.cs.length:=by have:=hs hq;omega
 refine Qc<|x (QR U U)<|Qb<|QO U (λht=>?_) (λht=>OW hq ht);refine Qs<|Qo U hf U U<|Qo U Y U U<|xig (g:=Q9) (i:=q.ix.toNat) Xq h5.cs.arr U (show Go.Lg.ev _ _=_ from OV sS hb.symm) E λhp J =>
  x (Zd rfl)<|x (Qy (J.fld 0 (.string (c.cs[q.ix.toNat]'E).nm) U) U)<|QQ U<|Qn<|Qu (j:=1) (u:=.string (c.cs[q.ix.toNat]'E).nm) he U U od rfl λw6 G H=>xe ?_
 refine Qc<|QT H U U<|Qn<|Zv (us:=[sS q.kd,.string (c.cs[q.ix.toNat]'E).nm]) (hg.J G hh) U U U U oB λI O S=>xe ?_;refine Qh ⟨[.agg #[sS q.kd,.string (c.cs[q.ix.toNat]'E).nm]],⟨Yl S,Z⟩,fin _ _ _ ?_ G H O⟩;unfold ZR;rw[OT (show ¬q.m.kd=1 from hk1),OT (show ¬q.m.kd=2 from ha)];refine Prod.ext U ?_;show((c.cs.map KV.k).getD q.ix.toNat ⟨.empty,[],0⟩).nm=_;simp[oR,E,KV.k]
theorem Qmb {l:List V7}{k:Ky}(hi:i<l.length)(h:K1 ((l.take i).map (·.pt)) k=none):
  ((l[i]'hi).e.ky=k->K1 (l.map (·.pt)) k=some (l[i]'hi).pt)/\((l[i]'hi).e.ky≠k->K1 ((l.take (i+1)).map (·.pt)) k=none):=by
 unfold K1 at h ⊢;refine⟨λe=>?_,λe=>?_⟩
 ·have E:l=l.take i++(l[i]'hi)::l.drop (i+1):=by rw[<-LF hi,MG]
  have G:l.map (·.pt)=(l.take i).map (·.pt)++((l[i]'hi).pt::(l.drop (i+1)).map (·.pt)):=by
   rw[<-LJ,<-Lr,<-E]
  rw[G,List.find?_append,h,Option.none_or,List.find?_cons_of_pos];exact OX e
 rw[Ln hi,Lr,List.find?_append,h,Option.none_or,LJ,List.find?_cons_of_neg]
 ·rfl
 exact λh=>e (OY h)
theorem QaE {v:O2}{ps:List V7}{k:Ky}(h0:jS L ↑w v ps):
  QY sV 90 [v,sT (Xp k)] w λr w'=>sX w w'/\∃(us:LV) (is:Bool),r=.tuple #[sT us,.bool is]/\us.length=15/\Zb us/\(is=true->∃q∈ps,us=Zp q/\K1 (ps.map (·.pt)) k=some q.pt)/\(is=false->K1 (ps.map (·.pt)) k=none):=by
 have h:jS [] ↑w v ps:=h0.up od;have hu:=h.arr.le;refine Zq func90 ?_;refine Qc<|Zl (Xp k) λb3 w1 ha hv hj=>QM z15 λb4 w2 hb hw hl=>Qb ?_;have hm:=ha.D hb;refine Qd<|Qc<|Qb<|Q7 (α:=Nat) [(5,24)] (λz=>[(6,sS z)]) (λz w'=>z<=ps.length/\sX w2 w'/\K1 ((ps.take z).map (·.pt)) k=none) (λz=>ps.length - z) 0 La ⟨Lo _,O5.Z _ _,U⟩ ?_;rintro i g I ⟨hi,H,J⟩;have O:=hm.D H;have S:=Go.Lg.XQ.I h O;have he:=hl.I H;have hy:=ha.size;refine Qd<|Qj<|Qa<|QF S.arr U<|Z5 U U<|xe<|ZH rfl (λT=>?_) (λT=>?_)
 ·refine Qw ?_;have hn:ps.length<=i:=by have ho:¬(i:Int)<(ps.length:Int):=T;omega
  rw[Lu hn]at J;refine Qc<|x (Q5 [] Z)<|QK z15 he ⟨U,U,U,U,U,U,U,U,U,U,U,U,U,U,U,Z⟩ λw4 hp hr=>Qb<|Qh ⟨[sT z15,.bool false],⟨Yl hr,U,Z⟩,O.O hp oa,z15,false,U,U,⟨U,U,U,U,U,U,U,U,U,U,U,U,U,U,U,Z⟩,(λe=>by cases e),λ_=>J⟩
 have E:i<ps.length:=by have ho:(i:Int)<(ps.length:Int):=T;omega
 have V:=Qmb E J;have Y:=Lm E;refine Qf<|Qd<|Qm<|Qd<|Zz [] (YW 0 8 [])<|p Qv<|p Qv<|Lg.pig (g:=Zp) (i:=i) U K0 S.arr U U E λhz hf=>?_;refine Zf (ps[i]'E) λq hq=>?_;rw[hq]at hf V Y;have hg:=h.each q Y;refine p (λ_=>Zd U)<|p (λ_=>Zd U) <|
  pq (λ_ hc=>Qr (us:=Xp q.e.ky) ((((hf.from 0).from 0).pre 2).I hc) U U)<|pq (λ_ hc=>Zu (((hj.I hb).I H).I hc) U U)<|p (λ_=>Qcy (xs:=Xp q.e.ky) (ys:=Xp k) U U U)<|pe ?_
 have hd:sX I { I with drawn:=I.drawn+1 }:=O5.C _ _
 refine QU rfl (λG=>?_) (λG=>?_)
 ·rw[QbD]at G;have hk:q.e.ky=k:=OY G;refine Qj<|Qa<|xig (g:=Zp) (i:=i) K0 (Go.Lg.XQ.I S hd).arr U U E λh1 hh=>?_;rw[hq]at hh;refine x (Qr hh U U)<|QK (Zp q) (he.I hd) hg.ones λw5 hs ht=>Qb<|Qh ⟨[sT (Zp q),.bool true],⟨Yl ht,U,Z⟩,(O.D hd).O hs oa,Zp q,true,U,U,hg.ones,λ_=>⟨q,Y,U,(V.1 hk)⟩,(λe=>by cases e)⟩
 rw[QbD]at G;have hk:q.e.ky≠k:=O0 G;refine Qf<|Qs<|Qa<|QH U U<|Qb<|⟨i+1,oa,La,E,H.D hd,V.2 hk⟩
theorem VA {m:JT}{ss:List jE}{q:jE}(h:zc L w m)(e:m.ss=ss++[q])(hl:m.ss.length<=1000):
  QY sV 39 [pS m.b] w λr w'=>r=sT (Y7 q)/\sX w w':=by
 obtain⟨T,S⟩:=h.blk;have V:Zn [] ↑w m.vs m.ss.length 6 (m.ss.flatMap Y7):=QB h.rs oa od;have hf:m.ss.length=ss.length+1:=by rw[e];simp
 have H:ss.length<m.ss.length:=oa
 have Y:m.ss[ss.length]'H=q:=by
  have e2:m.ss[ss.length]?=some q:=by rw[e];simp
  exact(L7.1 e2).2
 refine Zq func39 ?_;refine Qc<|QM [Zm,Zm,Zm,Zm,Zm,Zm] λb2 w1 G hg ha=>xe ?_;have I:=S.I G;have J:=V.I G;have hi:(m.ss.length:Int) - 1=((ss.length:Nat):Int):=oa
 refine Qd<|Zz [] (YW 0 13 [12])<|p Qv<|p (Yt U)<|p (QG U)<|pq (λ_ E=>Qk (I.I E) U U)<|p Qv<|p (Yt U) <|
  p (QG rfl)<|pq (λ_ E=>Qk (I.I E) U U)<|p (λ_=>Yo J U)<|p (λ_=>XR U U ⟨oa,oa⟩) <|
  Lg.pig (g:=Y7) (i:=ss.length) U Qe2 J U (show Go.Lg.ev _ _=_ from OV sS hi) H λhh O=>?_
 rw[Y]at O;refine pq (λ_ E=>Qr (O.I E) U U)<|pkk<|JY (Y7 q) (ha.I (O5.C _ _)) ((h.sA q (by rw[e];simp)).ones) λw2 hb he =>
  pe ?_
 exact Qh ⟨[sT (Y7 q)],⟨Yl he,Z⟩,U,(G.D (O5.C _ _)).O hb oa⟩
abbrev z6:LV:=[Zm,Zm,Zm,Zm,Zm,Zm]
instance:Bw sV 129 z6 [(0,5),(5,1)]:={}
theorem Uj {l:List V7}{k:Ky}:K1 (l.map (·.pt)) k=none↔k∉l.map (·.e.ky):=by
 unfold K1;rw[List.find?_eq_none];refine⟨λh G=>?_,λh p H I=>?_⟩
 ·obtain⟨q,E,rfl⟩:=LD.1 G;exact h q.pt (LP E) (OX U)
 obtain⟨q,E,rfl⟩:=LD.1 H;exact h (LD.2 ⟨q,E,OY I⟩)
structure NxI (LL:LN)(B:Nat)(w':O1)(z:BlS):Prop where
 o:UJ Zp 15 220 V6 (ob z.vk++(ob z.vm++LL)) B w' z.vo z.qs
 k:w'.ownsRow B 87 2 z.vk z.K.length (z.K.flatMap Xp)
 m:w'.ownsRow B 87 2 z.vm z.M.length (z.M.flatMap Xp)
 d1:∀b∈ob z.vo,b∉ob z.vk/\b∉ob z.vm
 d2:∀b∈ob z.vk,b∉ob z.vm
section
variable {LL:LN}{w8:O1}{z:BlS}
theorem NxI.J {X:LN}(h:NxI LL B w z)(I:O5 X w w8)(H:∀b∈X,b∈LL/\b<B):NxI LL B w8 z:=by
 refine⟨h.o.J I λb E=>⟨.inl (Lc.2 (.inr (Lc.2 (.inr (H b E).1)))),λG=>?_⟩,Qe h.k I λb E G=>?_,Qe h.m I λb E G=>?_,h.d1,h.d2⟩
 ·have:=(Qg h.o.own) b G;have:=(H b E).2;omega
 ·have:=(Qg h.k) b E;have:=(H b G).2;omega
 have:=(Qg h.m) b E;have:=(H b G).2;omega
theorem NxI.I (h:NxI LL B w z)(E:sX w w8):NxI LL B w8 z:=h.J E λ_ G=>by cases G
theorem NxI.part (h:NxI LL B w z){H:O2}{q:V7}(S:V6 (ob z.vo++(ob z.vk++(ob z.vm++LL))) ↑w q)(T:w8.ownsRow B 220 15 H (z.qs.length+1) (z.qs.flatMap Zp++Zp q))(I:O5 (ob z.vo) w w8)
  (J:∀b∈ob H,b∈ob z.vo\/↑w<=b):NxI LL B w8 { z with vo:=H,qs:=z.qs++[q] }:=by
 refine⟨h.o.app S T I J,Qe h.k I (λb G E=>(h.d1 b E).1 G),Qe h.m I (λb G E=>(h.d1 b E).2 G),λb G=>?_,h.d2⟩;rcases J b G with O|O
 ·exact h.d1 b O
 exact⟨λE=>ov ((Qg h.k) b E),λE=>ov ((Qg h.m) b E)⟩
theorem NxI.kept (h:NxI LL B w z){G:O2}{k:Ky}(T:w8.ownsRow B 87 2 G (z.K.length+1) (z.K.flatMap Xp++Xp k))(O:O5 (ob z.vk) w w8)
  (S:∀b∈ob G,b∈ob z.vk\/↑w<=b):NxI LL B w8 { z with vk:=G,K:=z.K++[k] }:=by
 have hd:∀b∈ob G,b∉ob z.vo/\b∉ob z.vm:=λb E=>by
  rcases S b E with H|H
  ·exact⟨λI=>(h.d1 b I).1 H,h.d2 b H⟩
  exact⟨λI=>ov ((Qg h.o.own) b I),λI=>ov ((Qg h.m) b I)⟩
 have V:w8.ownsRow B 87 2 G (z.K++[k]).length ((z.K++[k]).flatMap Xp):=by
  rw[Ll,LA];simpa using T
 refine⟨⟨Qe h.o.own O (λb E J=>(h.d1 b E).1 J),λq Y=>?_⟩,V,Qe h.m O (λb E J=>h.d2 b J E),λb E=>⟨λJ=>(hd b J).1 E,(h.d1 b E).2⟩,λb E=>(hd b E).2⟩;have H:V6 (ob G++(ob z.vo++(ob z.vk++(ob z.vm++LL)))) ↑w q:=Mm.up (h.o.each q Y) λb E=>by
  rcases Lc.1 E with E|E
  ·exact(S b E).imp (λh3=>Lc.2 (.inr (Lc.2 (.inl h3)))) id
  exact .inl E
 refine Mm.Y (Mm.st H (O.Y λb E=>Lc.2 (.inr (Lc.2 (.inr (Lc.2 (.inl E))))))) λb E=>?_;rcases Lc.1 E with E|E
 ·exact Lc.2 (.inr (Lc.2 (.inl E)))
 rcases Lc.1 E with E|E
 ·exact Lc.2 (.inl E)
 exact Lc.2 (.inr (Lc.2 (.inr (Lc.2 (.inr E)))))
theorem NxI.mades (h:NxI LL B w z){I:O2}{k:Ky}(T:w8.ownsRow B 87 2 I (z.M.length+1) (z.M.flatMap Xp++Xp k))(O:O5 (ob z.vm) w w8)
  (S:∀b∈ob I,b∈ob z.vm\/↑w<=b):NxI LL B w8 { z with vm:=I,M:=z.M++[k] }:=by
 have hd:∀b∈ob I,b∉ob z.vo/\b∉ob z.vk:=λb E=>by
  rcases S b E with J|J
  ·exact⟨λG=>(h.d1 b G).2 J,λG=>h.d2 b G J⟩
  exact⟨λG=>ov ((Qg h.o.own) b G),λG=>ov ((Qg h.k) b G)⟩
 have V:w8.ownsRow B 87 2 I (z.M++[k]).length ((z.M++[k]).flatMap Xp):=by
  rw[Ll,LA];simpa using T
 refine⟨⟨Qe h.o.own O (λb E H=>(h.d1 b E).2 H),λq Y=>?_⟩,Qe h.k O (λb E H=>h.d2 b E H),V,λb E=>⟨(h.d1 b E).1,λH=>(hd b H).1 E⟩,λb E H=>(hd b H).2 E⟩;have J:V6 (ob I++(ob z.vo++(ob z.vk++(ob z.vm++LL)))) ↑w q:=Mm.up (h.o.each q Y) λb E=>by
  rcases Lc.1 E with E|E
  ·exact(S b E).imp (λh3=>Lc.2 (.inr (Lc.2 (.inr (Lc.2 (.inl h3)))))) id
  exact .inl E
 refine Mm.Y (Mm.st J (O.Y λb E=>Lc.2 (.inr (Lc.2 (.inr (Lc.2 (.inr (Lc.2 (.inl E))))))))) λb E=>?_;rcases Lc.1 E with E|E
 ·exact Lc.2 (.inr (Lc.2 (.inl E)))
 rcases Lc.1 E with E|E
 ·exact Lc.2 (.inr (Lc.2 (.inr (Lc.2 (.inl E)))))
 rcases Lc.1 E with E|E
 ·exact Lc.2 (.inl E)
 exact Lc.2 (.inr (Lc.2 (.inr (Lc.2 (.inr (Lc.2 (.inr E)))))))
theorem NxI.pts (h:NxI LL B w z)(H:z.qs.length<=1099511627776)(G:∀b∈L,b∈LL/\b<B):jS L ↑w z.vo z.qs:=by
 refine⟨QB h.o.own H λb E I=>?_,λq J=>Mm.Y (h.o.each q J) λb E=>Lc.2 (.inr (Lc.2 (.inr (Lc.2 (.inr (G b E).1)))))⟩;have:=(Qg h.o.own) b E;have:=(G b I).2;omega
end
theorem Qao {c:CL}{ps:List V7}{v:Int}(h0:ZI L ↑w c)(hp:jS L' ↑w vb ps)(ph:∀b∈L',b<↑w)(hpl:ps.length<=1000)(hkb:Kb w 4096):
  QY sV 35 [c.val,vb,sS v] w λr w'=>sX w w'/\∃us ur n,r=.tuple #[sT us,sT ur,sS n,sS (Jg c.V (ps.map (·.pt)) v)]/\us.length=6/\Zb us/\ur.length=3/\Zb ur /\
   (Jg c.V (ps.map (·.pt)) v=0->∃vo qs q,us=[c.ve,c.vc,c.vr,c.vx,c.vk,vo]/\ur=Q0 q/\n=(q.k2.length:Int)/\qs.map (·.pt)=VO c.V (ps.map (·.pt)) v/\q.rp=YN c.V (ps.map (·.pt)) v/\jS L' ↑w' vo qs/\∀M:LN,(∀b∈M,b<↑w)->Jt M ↑w' q):=by
 have h:=h0.up (L':=[]) od;have g2:jS [] ↑w vb ps:=hp.up od;refine Zf (ps.map (·.pt)) λbf kz=>?_;rw[kz];have hv:Jg c.V bf v=if Zj c.V≠0 then Zj c.V else(KO c.V bf v).1:=rfl
 have pj:VO c.V bf v=(KO c.V bf v).2.1:=rfl;have pm:YN c.V bf v=⟨(KO c.V bf v).2.2.1,(KO c.V bf v).2.2.2,(bf.filter λp=>decide (p.ky∉(O8 c.V).map (ZR c.V))).map (·.ky)⟩:=rfl;have hbR:blL c.V bf v (O8 c.V) [] [] []=KO c.V bf v:=rfl;refine Zf (Jg c.V bf v) λE hE=>?_;rw[hE]at hv ⊢;have hT:∀u:O2,u.oneCell'=true->Zb [c.ve,c.vc,c.vr,c.vx,c.vk,u]:=λu hu=>⟨h.ev.arr.one,h.co.arr.one,h.rq.arr.one,h.ex.arr.one,h.cs.arr.one,hu,Z⟩;refine Zq func35 ?_;refine Qc<|Zl c.cells λb3 w1 hs1 hb3 g3=>QM z6 λb6 w2 hs2 hb6 pn=>QM ZU λb7 w3 po hb7 pp=>x Qi<|Qb ?_;have g4:=hs2.D po;have hs03:=hs1.D g4;refine Qc<|QT (g3.I g4) U U<|x (Q5 [(0,c.cells)] ⟨U,U,Z⟩)<|QM z6 λS w4 hs4 hb10 pu=>QK [c.ve,c.vc,c.vr,c.vx,c.vk,Zm] pu (hT Zm U) λw5 pw hB105=>xe ?_;have hs35:sX w3 w5:=hs4.O pw hb10;refine Qc<|QM ZU λO w6 pz hb11 p0=>xe ?_;have k0:=hs35.D pz;have p2:=hs03.D k0;have l3:=g3.lt;have l6:=pn.lt;have l7:=pp.lt;have l10:=pu.lt;have l11:=p0.lt;have hz5:=pw.size;refine Qc<|QT ((g3.I g4).I k0) U U<|Qz<|(jx (h.I p2)).Y ?_;rintro r7 w7 ⟨ga,vM,lM,rfl,hM,hMbad,hMgood⟩;have k4:=k0.D ga;have p3:=p2.D ga;have hz7:=ga.size;have h37:=(g3.I g4).I k4;have p4:=(pn.I po).I k4;have p5:=pp.I k4;have p6:=hB105.I (pz.D ga);have p7:=p0.I ga;refine Qa<|QW U U<|QW U U<|x Qi<|Qb ?_;have n10:S∉[b6,b7]:=ot
 have gb:O∉[b6,b7]:=ot
 have g8:b6∉[b7]:=oh
 have ka:b7∉[b6]:=oh
 have s6:∀b∈[b6],b∈[b6,b7]:=od
 have s7:∀b∈[b7],b∈[b6,b7]:=od
 refine Qd<|Qj<|Zx U U<|xe<|QO rfl (λgc=>?_) (λgc=>?_)
 ·rw[OU gc]at hv;have hd:sX w7 { w7 with drawn:=w7.drawn+1 }:=O5.C _ _
  refine Qd<|Zz [b6,b7] (YW 0 7 [3,4])<|pq (λ_ J=>Zu (p6.J J n10) U U)<|pq (λ_ J=>Zu (p7.J J gb) U U)<|p Qv <|
   pk<|JY [c.ve,c.vc,c.vr,c.vx,c.vk,Zm] (p4.I hd) (hT Zm U) λw8 ha gg=>⟨hd.any.Q (ha.Y s6),?_⟩
  refine pkk<|JY ZU ((p5.I hd).J ha ka) oC λV hh gh=>p ZG<|p ZG<|pe ?_;exact Qh ⟨[.agg #[c.ve,c.vc,c.vr,c.vx,c.vk,Zm],sT ZU,sS 0,sS (Zj c.V)],⟨Yl (gg.J hh g8),Yl gh,U,U,Z⟩,((p3.D hd).O ha oa).O hh oa,_,ZU,0,by rw[hv];rfl,U,hT Zm U,U,oC,λh0=>OW (hv.symm.D h0) gc⟩
 rw[OT gc]at hv;have p8:=Lp.1 gc;have hok:jQ c.V:=(ZW p8).sr;have kb:=hMgood p8;have hMl:lM.length<=96:=by have:=VC hok;rw[<-kb,Lh]at this;exact this
 refine Qf ?_;have k5:∀b∈[S,O],b∈b6::b7::S::O::L'/\b<w7.heap.size:=λb H=>by
  simp only[oL,oK,or_false]at H;rcases H with rfl|rfl
  ·exact⟨od,oa⟩
  exact⟨od,oa⟩
 have hX:∀b∈[S,O],b∈([]:LN)\/↑w<=b:=λb H=>by simp only[oL,oK,or_false]at H;exact .inr oa
 refine Qd<|Qc<|Qb<|Q7 (α:=BlS) [(8,9),(14,21),(37,118)] (λz=>[(14,sS z.k)]) (λz w'=>z.k<=lM.length/\O5 [S,O] w7 w'/\NxI (b6::b7::S::O::L') ↑w7 w' z/\(∃T,QZ ↑w' S T [c.ve,c.vc,c.vr,c.vx,c.vk,z.vo])/\(∃T,QZ ↑w' O T [z.vk,z.vm,Zm])/\blL c.V bf v ((lM.drop z.k).map MV.m) (z.qs.map (·.pt)) z.K z.M=KO c.V bf v/\z.qs.map (·.e.ky)=(lM.take z.k).map (λq=>ZR c.V q.m)/\(z.qs.length=z.k/\z.K.length<=z.k/\z.M.length<=z.k))
  (λz=>lM.length - z.k) ⟨0,Zm,[],Zm,[],Zm,[]⟩ La ⟨Lo _,O5.Z _ _,⟨UJ.nil,QE _ _ _ _,QE _ _ _ _,λb H=>by simp[ob]at H,λb H=>by simp[ob]at H⟩,⟨_,p6⟩,⟨_,p7⟩,by rw[List.drop_zero,kb];exact hbR,U,U,Lx _,Lx _⟩ ?_
 rintro⟨k,vo,qs,vk,K,vm,M⟩ g V ⟨hk,hh,hI,⟨T10,kc⟩,⟨T11,ke⟩,hR,gi,hql,hKl,hMl'⟩;simp only[]at hk hI hR hql hKl hMl' kc ke gi;have kf:sX w V:=p3.S hh (λb H=>.inr ((hX b H).resolve_left od));have hz9:=hh.size;have h9:=h.I kf;have n3:b3∉[S,O]:=ot
 have p9:=h37.J hh n3;have qc:=p4.J hh ot;have qf:=p5.J hh ot;have ql:∀b∈[S,O],b<w6.heap.size:=λb H=>by simp only[oL,oK,or_false]at H;omega
 have k6:Zn [] ↑V vM lM.length 3 (lM.flatMap Yx):=((hM.arr (L:=[S,O]) oa ql).st hh).up od;refine Qd<|Qj<|Qa<|QF k6 U<|Z5 U U<|xe<|ZH rfl (λk7=>?_) (λk7=>?_)
 ·refine Qw ?_;have qm:lM.length<=k:=by have k8:¬(k:Int)<(lM.length:Int):=k7;omega
  rw[Lu qm]at gi;rw[Lt qm]at hR;have hR0:KO c.V bf v=(0,qs.map (·.pt),K,M):=hR.symm;rw[hR0]at hv pj pm;have hE0:E=0:=hv;have hks:qs.map (·.e.ky)=(O8 c.V).map (ZR c.V):=by rw[gi,<-kb,Mn];rfl
  refine Qd<|Qc<|Qb<|Q7 (α:=Nat×O2×List Ky) [(22,24),(119,149)] (λz=>[(22,sS z.1)]) (λz w'=>z.1<=ps.length/\O5 [O] V w'/\QZ ↑w' O T11 [vk,vm,z.2.1]/\w'.ownsRow ↑V 87 2 z.2.1 z.2.2.length (z.2.2.flatMap Xp)/\z.2.2=((ps.take z.1).filter λp=>decide (p.e.ky∉(O8 c.V).map (ZR c.V))).map (·.e.ky))
   (λz=>ps.length - z.1) (0,Zm,[]) La ⟨Lo _,O5.Z _ _,ke,QE _ _ _ _,U⟩ ?_
  rintro⟨i,vg,G⟩ g hw ⟨hi,hS,kg,h6,hG⟩;simp only[]at hi kg h6 hG;have k9:sX w hw:=kf.O hS oa;have hz10:=hS.size;have qo:=Go.Lg.XQ.I g2 k9;have qr:=kc.J hS oh;have h610:=qc.J hS oh;have h710:=qf.J hS oh;have ma:=hI.J hS (λb H=>k5 b (Lk _ H));have hPq10:jS [] ↑hw vo qs:=ma.pts og (λb H=>by cases H);have hGl:G.length<=1000:=by
   rw[hG,Lh];refine LH (Mg _ _) ?_;rw[LB];omega
  have hd:sX hw { hw with drawn:=hw.drawn+1 }:=O5.C _ _
  refine Qd<|Qj<|Qa<|QF qo.arr U<|Z5 U U<|xe<|ZH U (λmf=>?_) (λmf=>?_)
  ·refine Qw ?_;have hie:ps.length<=i:=by have k8:¬(i:Int)<(ps.length:Int):=mf;omega
   rw[Lu hie]at hG;have q0:Zb [vk,vm,vg]:=⟨Qp hI.k,Qp hI.m,Qp h6,Z⟩;have hmA:Zn [] ↑hw vm M.length 2 (M.flatMap Xp):=QB ma.m (show M.length<=1099511627776 by omega) od;refine Qd<|Zz [b6,b7] (YW 0 9 [5,6])<|pq (λ_ J=>Zu (qr.J J n10) U U)<|pq (λ_ J=>Zu (kg.J J gb) U U)<|p (QG U)<|pq (λ_ J=>Qk (kg.J J gb) U U)<|p (λ_=>Yo hmA U) <|
    pk<|JY [c.ve,c.vc,c.vr,c.vx,c.vk,vo] (h610.I hd) (hT vo (Qp hI.o.own)) λhD h3 hB611=>⟨hd.any.Q (h3.Y s6),?_⟩
   have q1:O5 [b6,b7] hw hD:=hd.any.Q (h3.Y s6);refine pk<|JY [vk,vm,vg] ((h710.I hd).J h3 ka) q0 λq2 mg hB712=>⟨q1.Q (mg.Y s7),?_⟩;have mh:O5 [b6,b7] hw q2:=q1.Q (mg.Y s7);refine p ZG<|p ZG<|pe ?_;have gj:=ma.J mh (λb H=>by
    simp only[oL,oK,or_false]at H;rcases H with rfl|rfl
    ·exact⟨od,oa⟩
    exact⟨od,oa⟩)
   have q3:=Qe h6 mh (λb H Y=>by
    have:=(Qg h6 b H).1;simp only[oL,oK,or_false]at Y;omega)
   have hs012:sX w q2:=k9.S mh (λb H=>by simp only[oL,oK,or_false]at H;exact .inr oa);refine Qh ⟨[.agg #[c.ve,c.vc,c.vr,c.vx,c.vk,vo],.agg #[vk,vm,vg],sS (M.length:Int),sS 0],⟨Yl (hB611.J mg g8),Yl hB712,U,U,Z⟩,hs012,[c.ve,c.vc,c.vr,c.vx,c.vk,vo],[vk,vm,vg],(M.length:Int),by rw[hE0];rfl,U,hT vo (Qp hI.o.own),U,q0,
    λ_=>⟨vo,qs,⟨vk,K,vm,M,vg,G⟩,U,U,U,pj.symm,?_,gj.pts og (λb H=>⟨by simp[H],ov (ph b H)⟩),λN hN=>⟨QB gj.k (show K.length<=1099511627776 by omega) (λb H hbL=>oy (Qg gj.k b H).1 (hN b hbL)),QB gj.m (show M.length<=1099511627776 by omega) (λb H hbL=>oy (Qg gj.m b H).1 (hN b hbL)),QB q3 (show G.length<=1099511627776 by omega) (λb H hbL=>oy (Qg q3 b H).1 (hN b hbL))⟩⟩⟩
   rw[pm];show Rp.mk K M G=_;rw[hG,<-kz,List.filter_map,Mn];rfl
  have I:i<ps.length:=by have k8:(i:Int)<(ps.length:Int):=mf;omega
  have gk:ps.take (i+1)=ps.take i++[ps[i]'I]:=Ln I;have gl:=Lm I;refine Qf<|Qd<|Qm<|?_;refine QX (α:=Bool) [(125,136),(23,24)] (λz=>[(24,.bool z)]) (λz w'=>sX hw w'/\(z=true↔(ps[i]'I).e.ky∈(O8 c.V).map (ZR c.V))) om ?_ ?_
  ·refine Jh (α:=LV×Bool) (sX hw) [oE 0,oE 1,oE 2,oE 3,oE 4,oE 5,oE 6,oE 7] [oF 8,oE 9,oE 10,oE 11] 12 23 [oF 13,oE 14] []
    [(125,136)] [(125,125),(134,136)] (λz=>[(135,sT z.1),(136,.bool z.2)]) (λz _ _=>z.1.length=15/\Zb z.1/\(z.2=true↔(ps[i]'I).e.ky∈(O8 c.V).map (ZR c.V)))
    (λv w'=>∃b,v=pS b/\↑hw<=b/\QZ ↑w' b 220 z15) mixed om oe om U (O5.C _ _) od ?_ ?_ ?_ ?_
   ·rintro v own wa wb ⟨b,rfl,H,hB⟩ hs hn;exact⟨b,U,H,hB.J hs (hn b ou)⟩
   ·intro z own wa wb hz hs;exact hz
   ·rintro z g5 own wz v5 ⟨z1,z2,z3⟩ gm ⟨b23,rfl,hb23,hB23⟩ _;refine pkk<|Zv (us:=z.1) hB23 U U z1 U z2 λw8 ha q4=>p ZG<|pe ?_;exact⟨z.2,La,gm.O ha hb23,z3⟩
   refine p (QG U)<|pq (λ_ J=>Qk (qr.I J) U U)<|p Qv<|p Qv<|Lg.pig (g:=Zp) (i:=i) U K0 qo.arr U U I λa130 h130=>?_;refine p (λ_=>Zd U)<|p (λ_=>Zd U)<|pq (λ_ J=>Qr (us:=Xp (ps[i]'I).e.ky) ((((h130.from 0).from 0).pre 2).I J) U U)<|pe ⟨λg6 wf gn=>flA z15 gn,?_⟩;refine f2k λx1 p1 c1=>xg<|(QaE (k:=(ps[i]'I).e.ky) (Go.Lg.XQ.I hPq10 c1)).Y ?_;rintro r134 y1 ⟨hF,us,is,rfl,hl,ho,ht,hf⟩;refine⟨c1.D hF,[],hF,(λb H=>by cases H),?_⟩;refine Ul Qv<|Ul (λ_=>Zi U U)<|Ul (λ_=>Zi U U)<|f2e ?_;refine⟨(us,is),oB,hl,ho,?_⟩;rw[<-hks];refine⟨λe=>?_,λY=>?_⟩
   ·obtain⟨q,_,_,hq⟩:=ht e;exact Lp.1 λhn=>by rw[Uj.2 hn]at hq;cases hq
   cases is with
   | true=>rfl
   | false=>exact OW Y (Uj.1 (hf U))
  rintro is g7 hD ⟨h3,mj⟩;have q5:O5 [O] V hD:=hS.D h3;have hz11:=h3.size;have mo:=kg.I h3;have q6:=Ql h6 h3;refine Zf (ps[i]'I) λq hq=>?_;rw[hq]at gk gl mj;refine Qj<|x (Zy U)<|xe<|QU U (λkh=>?_) (λkh=>?_)
  rotate_left
  ·have mq:q.e.ky∈(O8 c.V).map (ZR c.V):=mj.1 (oA kh);refine Qf<|Qs<|Qa<|QH U U<|Qb<|⟨(i+1,vg,G),og,La,I,q5,mo,q6,?_⟩;simp only[];rw[gk,L4,Lr,<-hG,Md,OT (oA mq)];simp
  have mq:q.e.ky∉(O8 c.V).map (ZR c.V):=λY=>by rw[mj.2 Y]at kh;cases kh
  have n11g:O∉ob vg:=λY=>ov (Qg h6 O Y).1
  have hpG:jS (ob vg) ↑hD vb ps:=Go.Lg.XQ.I (Go.Lg.XQ.up g2 (L':=ob vg) (λb H=>.inr (oy (Qg h6 b H).1 kf.size))) (k9.D h3);have j1:sX hD { hD with drawn:=hD.drawn+1 }:=O5.C _ _
  refine Zz (ob vg) (YW 0 12 [8,9,11])<|p (QG U)<|pq (λ_ J=>Qk (mo.J J n11g) U U)<|p Qv<|p Qv<|Lg.pig (g:=Zp) (i:=i) U K0 hpG.arr U U I λa143 j2=>?_;rw[hq]at j2;refine p (λ_=>Zd U)<|p (λ_=>Zd U)<|pq (λ_ J=>Qr (us:=Xp q.e.ky) ((((j2.from 0).from 0).pre 2).st J) U U)<|pk<|Za [Xp q.e.ky] λb147 w14 j3 hb147 hB147=>⟨(j1.D j3).any,?_⟩;have go:sX hD w14:=j1.D j3;have hz14:=go.size;refine pk<|Q2 (m:=1) (news:=Xp q.e.ky) (L:=[]) (Ql q6 go) U U U (by have:=hB147.at (L:=[]) od;simpa using this) oq oa oa λms za zv mt hn15=>⟨go.any.Q mt,?_⟩;refine p (QG U)<|pkk<|Qu (j:=2) (u:=ms) ((mo.I go).J mt n11g) U U od (Qp zv) λh4 hr mu=>pe ?_;refine Qs<|Qa<|QH U U<|Qb ?_;have hs915:O5 [O] V za:=(q5.D go).S mt (λb H=>.inr (Qg h6 b H).1);refine⟨(i+1,ms,G++[q.e.ky]),og,La,I,hs915.Q hr,mu,?_,?_⟩
  ·have z4:za.ownsRow ↑V 87 2 ms (G++[q.e.ky]).length ((G++[q.e.ky]).flatMap Xp):=by
    rw[Ll,LA];simpa using zv
   refine Qe z4 hr (λb H Y=>?_);have:=(Qg z4 b H).1;rw[Lb.1 Y]at this;omega
  simp only[];rw[gk,L4,Lr,<-hG,Md,OU (OX mq)];rfl
 have I:k<lM.length:=by have k8:(k:Int)<(lM.length:Int):=k7;omega
 have gk:lM.take (k+1)=lM.take k++[lM[k]'I]:=Ln I;have gl:=Lm I;rw[LF I,LJ,Qdy]at hR;have z5:QL [] ↑V (lM[k]'I).v (lM[k]'I).co:=((hM.each _ gl [S,O] (λb H=>.inl (ql b H))).st hh).up od;have hqm:(lM[k]'I).m∈O8 c.V:=by rw[<-kb];exact LP gl
 have hU:=Qfq hqm;have hfk:∀x,sX V x->QY sV 86 [c.val,.agg #[sS (lM[k]'I).kd,sS (lM[k]'I).ix,(lM[k]'I).v]] x _:=λx hx=>Qau (q:=lM[k]'I) (h9.I hx) (z5.I hx);have hK:∀x,sX V x->QY sV 89 [c.val,.agg #[sS (lM[k]'I).kd,sS (lM[k]'I).ix,(lM[k]'I).v]] x _:=λx hx=>Qjt (q:=lM[k]'I) (h9.I hx) hU.1 hU.2.1 (λe=>by have:=hU.2.2.1 e;rwa [show c.V.rq.length=c.rq.length from Lh ..]at this) (λe=>by have:=hU.2.2.2.1 e;rwa [show c.V.ex.length=c.ex.length from Lh ..]at this) (λe=>by have:=hU.2.2.2.2 e;rwa [show c.V.cs.length=c.cs.length from Lh ..]at this);have gp:=λp:xI=>QaY (c:=c.V) (bf:=bf) (v:=v) (m:=(lM[k]'I).m) (p:=p);have gq:=Qgf (c:=c.V) (bf:=bf) (v:=v) (m:=(lM[k]'I).m);have mv:Vj c.V v (lM[k]'I).m=⟨ZR c.V (lM[k]'I).m,v,suA (Jv c.V (lM[k]'I).m),(Vm (Jv c.V (lM[k]'I).m)).1,(Vm (Jv c.V (lM[k]'I).m)).2.1,(Vm (Jv c.V (lM[k]'I).m)).2.2,Jv c.V (lM[k]'I).m⟩:=rfl;have ki:(lM.take (k+1)).map (λq=>ZR c.V q.m)=(lM.take k).map (λq=>ZR c.V q.m)++[ZR c.V (lM[k]'I).m]:=by rw[gk,Lr];rfl
 have hi9:∀x:O1,sX V x->Zn [] ↑x vM lM.length 3 (lM.flatMap Yx):=λx hx=>k6.I hx;refine Qf<|Qd<|Qm<|?_;refine QX (α:=Nat×CL) [(43,51),(15,16)] (λz=>[(15,pS z.1),(16,sS (ya c.V (lM[k]'I).m))]) (λz w'=>sX V w'/\↑V<=z.1/\Zb z.2.cells/\QZ ↑w' z.1 45 z.2.cells/\(ya c.V (lM[k]'I).m=0->z.2.V=Jv c.V (lM[k]'I).m/\∀N:LN,(∀b∈N,b<↑V)->ZI N ↑w' z.2)) om ?_ ?_
 ·refine Jh (α:=CL) (sX V) [oE 0,oE 1,oE 2,oE 3,oE 4] [oF 5,oE 6,oE 7,oE 8] 9 15 [oF 10,oE 11] []
   [(43,51)] [(43,43),(49,51)] (λz=>[(50,sT z.cells),(51,sS (ya c.V (lM[k]'I).m))]) (λz own w'=>Zb z.cells/\(ya c.V (lM[k]'I).m=0->z.V=Jv c.V (lM[k]'I).m/\∀(N:LN) (b':Nat),(∀b∈N,b<↑V)->↑V<=b'->b'∉own->ZI (b'::N) ↑w' z))
   (λv w'=>∃b,v=pS b/\↑V<=b/\QZ ↑w' b 45 Z8) mixed om oe om U (O5.C _ _) od ?_ ?_ ?_ ?_
  ·rintro v own wa wb ⟨b,rfl,H,hB⟩ hs hn;exact⟨b,U,H,hB.J hs (hn b ou)⟩
  ·rintro z own wa wb ⟨z1,z2⟩ hs;exact⟨z1,λe=>⟨(z2 e).1,λN b' hN hb' hn=>((z2 e).2 N b' hN hb' hn).I hs⟩⟩
  ·rintro z g5 own wz v5 ⟨z1,z2⟩ gm ⟨kj,rfl,kk,mw⟩ hbo;refine pkk<|JY z.cells mw z1 λw8 ha hB158=>p ZG<|pe ?_;refine⟨(kj,z),oB,gm.O ha kk,kk,z1,hB158,λe=>⟨(z2 e).1,λN hN=>?_⟩⟩;exact Mm.Y (Mm.st ((z2 e).2 N kj hN kk ((hbo kj ou).1)) (ha.Y λb H=>by rw[Lb.1 H];exact Lq)) λb H=>Lk _ H
  refine pq (λ_ J=>Zu (p9.I J) U U)<|p Qv<|p Qv<|Lg.pig (g:=Yx) (i:=k) U Qeb k6 U U I λa47 h47=>?_;refine pq (λ_ J=>Qr (us:=Yx (lM[k]'I)) (h47.I J) U U)<|pe ⟨λg6 wf gn=>flA Z8 gn,?_⟩;refine f2k λx1 p1 c1=>xg<|(hfk x1 c1).Y ?_;rintro r49 y1 ⟨hF,cm,rfl,ho,hg⟩;refine⟨c1.D hF,Ut ↑x1 ↑y1,hF.any,(λb H=>.inr (Zw.1 H)),?_⟩;refine Ul Qv<|Ul (λ_=>Zi U U)<|Ul (λ_=>Zi U U)<|f2e ?_;refine⟨cm,oB,ho,λe=>⟨(hg e).1,λN b' hN hb' hn=>?_⟩⟩;have hNx:∀b∈N,b<x1.heap.size:=λb H=>LQ (hN b H) c1.size;by_cases h7:b'<↑x1
  ·exact(hg e).2 (b'::N) (λb H=>by
    rcases Lj.1 H with rfl|H
    ·exact h7
    exact hNx b H)
  by_cases h8:b'<↑y1
  ·exact OW (Zw.2 ⟨Nu h7,h8⟩) hn
  exact((hg e).2 N hNx).up λb H=>by
   rcases Lj.1 H with rfl|H
   ·exact .inr (Nu h8)
   exact .inl H
 rintro⟨kj,cm⟩ g9 h4 ⟨hr,kk,ho5,mw,hgood⟩;have my:=kf.D hr;have hz16:=hr.size;have hI16:=hI.I hr;have hB1016:=kc.I hr;have mu:=ke.I hr;have h616:=qc.I hr;have h716:=qf.I hr;have kn:Zb [vk,vm,Zm]:=⟨Qp hI.k,Qp hI.m,U,Z⟩;have ko:=hT vo (Qp hI.o.own);refine Qd<|Qj<|Zx U U<|xe<|QO rfl (λgr=>?_) (λgr=>?_)
 ·have he:=(Qgg (c:=c.V) (bf:=bf) (v:=v) (m:=(lM[k]'I).m)) gr;rw[he,OU gr]at hR;rw[<-hR]at hv;have hd:sX h4 { h4 with drawn:=h4.drawn+1 }:=O5.C _ _
  refine Qd<|Zz [b6,b7] (YW 0 7 [3,4])<|pq (λ_ J=>Zu (hB1016.J J n10) U U)<|pq (λ_ J=>Zu (mu.J J gb) U U)<|p Qv <|
   pk<|JY [c.ve,c.vc,c.vr,c.vx,c.vk,vo] (h616.I hd) ko λw8 ha gg=>⟨hd.any.Q (ha.Y s6),?_⟩
  refine pkk<|JY [vk,vm,Zm] ((h716.I hd).J ha ka) kn λV hh gh=>p ZG<|p ZG<|pe ?_;exact Qh ⟨[.agg #[c.ve,c.vc,c.vr,c.vx,c.vk,vo],.agg #[vk,vm,Zm],sS 0,sS (ya c.V (lM[k]'I).m)],⟨Yl (gg.J hh g8),Yl gh,U,U,Z⟩,((my.D hd).O ha oa).O hh oa,_,[vk,vm,Zm],0,by rw[hv];rfl,U,ko,U,kn,λh0=>OW (hv.symm.D h0) gr⟩
 have mz:=Lp.1 gr;have gp:=λp=>gp p mz;have gq:=gq mz;have gs:=hgood mz;refine Zf (lM[k]'I) λq hq=>?_;rw[hq]at hR gp gq mv ki gl z5 hqm hU hfk hK gs;refine Qf<|Zf (ZR c.V q.m) λky hky=>?_;rw[hky]at gp gq hK hR mv ki;refine QX (α:=Nat) [(57,62),(17,17)] (λz=>[(17,pS z)]) (λz w'=>sX h4 w'/\↑h4<=z/\QZ ↑w' z 87 (Xp ky)) om ?_ ?_
 ·refine Jh (α:=Unit) (sX h4) [oE 0,oE 1,oE 2,oE 3,oE 4] [oF 5] 6 17 [oF 7] []
   [(57,62)] [(62,62)] (λ_=>[(62,sT (Xp ky))]) (λ_ _ _=>True)
   (λv w'=>∃b,v=pS b/\↑h4<=b/\QZ ↑w' b 87 [sS 0,.string .empty]) mixed om oe om U (O5.C _ _) od ?_ ?_ ?_ ?_
  ·rintro v own wa wb ⟨b,rfl,H,hB⟩ hs hn;exact⟨b,U,H,hB.J hs (hn b ou)⟩
  ·intro z own wa wb hz hs;trivial
  ·rintro z g5 own wz v5 _ gm ⟨gt,rfl,m2,kq⟩ _;refine pkk<|JY (Xp ky) kq oB λw8 ha q4=>pe ?_;exact⟨gt,La,gm.O ha m2,m2,q4⟩
  refine pq (λ_ J=>Zu ((p9.I hr).I J) U U)<|p Qv<|p Qv<|Lg.pig (g:=Yx) (i:=k) U Qeb (hi9 h4 hr) U U I λa60 h60=>?_;rw[hq]at h60;refine pq (λ_ J=>Qr (us:=Yx q) (h60.I J) U U)<|pe ⟨λg6 wf gn=>flA [sS 0,.string .empty] gn,?_⟩;refine f2k λx1 p1 c1=>xg<|(hK x1 (hr.D c1)).Y ?_;rintro _ y1 ⟨rfl,hF⟩;refine⟨c1.D hF,[],hF,(λb H=>by cases H),?_⟩;exact f2e ⟨(),La,Z⟩
 rintro gt g10 w17 ⟨hs17,m2,kq⟩;have hs017:=my.D hs17;refine Qd<|Qj<|QT kq U U<|Qz<|(QaE (k:=ky) (Go.Lg.XQ.I g2 hs017)).Y ?_;rintro r19 w18 ⟨hs18,us,is,rfl,m3,huo,hut,huf⟩;rw[kz]at hut huf;refine Qa<|QW U U<|QW U U<|QM z15 λb18 w19 hs19 hb18 hB18=>Qn<|Zv (us:=us) hB18 U U m3 U huo λhV hs20 hB1820=>Qb ?_;have hs1720:sX w17 hV:=hs18.D (hs19.O hs20 hb18);have kr:=hs17.D hs1720;have hs020:=my.D kr;have hB1520:=mw.I kr;have m4:∀N:LN,(∀b∈N,b<↑V)->ZI N ↑hV cm:=λN hN=>(gs.2 N hN).I kr;refine QX (α:=Bool) [(69,75)] (λz=>[(75,.bool z)]) (λz w'=>sX hV w'/\(z=true->∃p∈ps,us=Zp p/\p.e.ky=ky/\KP c.V bf v q.m=(0,p.pt,true))/\(z=false->KP c.V bf v q.m=(Y3 (Jv c.V q.m),Vj c.V v q.m,false))) om ?_ ?_
 ·refine Qs<|Qa<|xB Ks (λm5=>?_) (λm5=>?_)
  ·refine Exists.elim (hut m5) λp h1=>?_;have kt:V6 [] ↑hV p:=(Go.Lg.XQ.I g2 hs020).each p h1.1;have ku:=h1.2.1;have hEq:QY sV 87 [p.c.val,cm.val] hV λr w'=>r=.bool (decide (p.c.V=Jv c.V q.m))/\sX hV w':=by
    rw[<-gs.1];exact UH kt.c (m4 [] od)
   refine QQ U<|x (Zh (us:=p.c.cells) hB1820 U U (by rw[ku];rfl))<|QT hB1520 U U<|Qz<|hEq.Y ?_;rintro _ w21 ⟨rfl,h5⟩;refine QC U<|xe ?_;have H:=gp p.pt h1.2.2;refine⟨decide (p.c.V=Jv c.V q.m),La,h5,λhz=>⟨p,h1.1,ku,(QcC h1.2.2).2,?_⟩,λhz=>?_⟩
   ·rw[H,OU (show p.pt.c=_ from OY hz)]
   rw[H,OT (show ¬p.pt.c=_ from O0 hz)]
  refine Zt<|KB<|QC U<|xe ?_;exact⟨false,La,O5.Z _ _,λhz=>OW hz ol,λ_=>gq (huf m5)⟩
 rintro zb g11 w21 ⟨h5,hzt,hzf⟩;have m6:=kr.D h5;have m7:=hs020.D h5;have hW:=hr.D m6;have gu:=hI.I hW;have hz21:=hW.size;have m8:=kc.I hW;have hB1121:=ke.I hW;have hB1721:=kq.I (hs1720.D h5);have hB1521:=hB1520.I h5;have gvo:=Qg gu.o.own;have gvk:=Qg gu.k;have gvm:=Qg gu.m;have gvo9:=Qg hI.o.own;have gvk9:=Qg hI.k;have gvm9:=Qg hI.m;have n10o:S∉ob vo:=λY=>ov (gvo S Y).1
 have n10k:S∉ob vk:=λY=>ov (gvk S Y).1
 have n10m:S∉ob vm:=λY=>ov (gvm S Y).1
 have n11o:O∉ob vo:=λY=>ov (gvo O Y).1
 have n11k:O∉ob vk:=λY=>ov (gvk O Y).1
 have n11m:O∉ob vm:=λY=>ov (gvm O Y).1
 have n17o:gt∉ob vo:=λY=>ov (gvo9 gt Y).2
 have n17k:gt∉[S]:=oh
 have m9:∀b∈ob vo++(ob vk++(ob vm++(b6::b7::S::O::L'))),b<↑V/\(b∈L'\/↑w<=b):=λb H=>by
  rcases Lc.1 H with H|H
  ·have:=gvo9 b H;exact⟨this.2,.inr oa⟩
  rcases Lc.1 H with H|H
  ·have:=gvk9 b H;exact⟨this.2,.inr oa⟩
  rcases Lc.1 H with H|H
  ·have:=gvm9 b H;exact⟨this.2,.inr oa⟩
  simp only[oL]at H;rcases H with rfl|rfl|rfl|rfl|H
  ·exact⟨oa,.inr oa⟩
  ·exact⟨oa,.inr oa⟩
  ·exact⟨oa,.inr oa⟩
  ·exact⟨oa,.inr oa⟩
  exact⟨ov (ph b H),.inl H⟩
 have x10:∀b∈[S],b∈b6::b7::S::O::L'/\b<w7.heap.size:=λb H=>k5 b (by rw[Lb.1 H];simp);have x11:∀b∈[O],b∈b6::b7::S::O::L'/\b<w7.heap.size:=λb H=>k5 b (by rw[Lb.1 H];simp);refine QU rfl (λpa=>?_) (λpa=>?_)
 ·refine Exists.elim (hzt pa) λp h1=>?_;have ku:=h1.2.1;have H:=h1.2.2.2;rw[H,OT od,OU rfl]at hR;have kt:V6 (ob vo++(ob vk++(ob vm++(b6::b7::S::O::L')))) ↑w21 p:=((hp.each p h1.1).up λb H=>(m9 b H).2).I m7;refine Qc<|Qo U m8 U U<|QT (hB1820.I h5) U m3<|Qn<|Xy (us:=[us]) U U ol (by exact(by decide:1*15<=1000000)) ⟨U,m3,Z⟩ λb87 pc h2 hb87 hB87=>?_;have hA22:At [] ↑pc ⟨b87,0,none⟩ (Zp p):=by have:=hB87.at (L:=[]) od;rw[ku]at this;simpa using this
  have hI22:=gu.I h2;refine Qn<|Jc (m:=1) (news:=Zp p) hI22.o.own U U U hA22 (Zb.all kt.ones) (show qs.length+1<=1073741824 by omega) (ov h2.size) λv23 w23 ho23 hH hn23=>?_;have hI23:=hI22.part (kt.I h2) ho23 hH hn23;refine QQ U<|Qn<|Qu (j:=5) (u:=v23) ((m8.I h2).J hH n10o) U U od (Qp ho23) λw24 hJ hB1024=>xe ?_;have hI24:=hI23.J hJ x10;have hB1124:=((hB1121.I h2).J hH n11o).J hJ oh;have hB1724:=((hB1721.I h2).J hH n17o).J hJ n17k;refine Qc<|Qo U hB1124 U U<|QT hB1724 U U<|Qn<|Za [Xp ky] λb92 w25 hL hb92 hB92=>?_;have hI25:=hI24.I hL;have zz22:=h2.size;have zz23:=hH.size;have zz24:=hJ.size;have zz25:=hL.size;refine Qn<|Q2 (m:=1) (news:=Xp ky) (L:=[]) hI25.k U U U (by have:=hB92.at (L:=[]) od;simpa using this) oq (show K.length+1<=1099511627776 by omega) oa λv26 gv ho26 hY hn26=>?_;have pd:=hI25.kept ho26 hY hn26;refine QQ U<|Qn<|Qu (j:=0) (u:=v26) ((hB1124.I hL).J hY n11k) U U od (Qp ho26) λkv hj hB1127=>xe ?_;have hO:=pd.J hj x11;have hB1027:=((hB1024.I hL).J hY n10k).J hj oh;refine Qw<|Qs<|Qa<|QH U U<|Qb ?_;have hs727:O5 [S,O] w7 kv:=((((((hh.D hW).D h2).S hH (λb H=>.inr (gvo b H).1)).Q (hJ.Y od)).D hL).S hY (λb H=>.inr (gvk b H).1)).Q (hj.Y od);refine⟨⟨k+1,v23,qs++[p],v26,K++[ky],vm,M⟩,og,La,I,hs727,⟨hO.o,hO.k,hO.m,hO.d1,hO.d2⟩,⟨_,hB1027⟩,⟨_,hB1127⟩,?_,?_,by simp only[oN,oP];omega⟩
  ·simp only[];rw[Lr];exact hR
  simp only[];rw[Lr,gi,ki,<-h1.2.2.1];rfl
 have H:=hzf pa;rw[H]at hR;have hSy:=zg ((m4 [] od).I h5) (hkb.I m7);rw[gs.1]at hSy;refine Qf<|Qc<|QT hB1521 U U<|Qz<|hSy.Y ?_;rintro r36 pc ⟨h2,us8,c0,c1,c2,c3,sa,st,sm,se,oo,rfl,hl8,ho8,hQ,kw⟩;refine Qa<|QW U U<|QW U U<|QW U U<|QM [nS,sS 0,nS,nS,nS,nS,nS,nS] λb20 w23 hH hb20 hB20=>QM [nS,nS,nS,sS 0,nS,sS 0,nS,nS,nS] λb21 w24 hJ hb21 hB21 =>
  Qn<|Zv (us:=us8) (hB20.I hJ) U U hl8 U ho8 λw25 hL hB2025=>?_
 have hl20:=hB20.lt;have n2021:b21∉[b20]:=oh
 refine QK [c0,c1,c2,c3,sa,sS st,sm,se,oo] (hB21.J hL n2021) ⟨hQ.1,hQ.2.1,hQ.2.2.1,hQ.2.2.2.1,hQ.2.2.2.2.1,U,hQ.2.2.2.2.2.1,hQ.2.2.2.2.2.2.1,hQ.2.2.2.2.2.2.2.1,Z⟩ λgv hY hB2126=>Qb ?_;have gw:sX pc gv:=(((hH.D hJ).O hL oa).O hY oa);have hy:=h2.D gw;have hz2126:=hy.size;have pd:=gu.I hy;have pf:=m8.I hy;have hB1126:=hB1121.I hy;refine Qd<|Qj<|Zx U U<|xe<|QO rfl (λgx=>?_) (λgx=>?_)
 ·rw[OU gx]at hR;rw[<-hR]at hv;have h626:=h616.I (m6.D hy);have h726:=h716.I (m6.D hy);have hd:sX gv { gv with drawn:=gv.drawn+1 }:=O5.C _ _
  refine Qd<|Zz [b6,b7] (YW 0 7 [3,4])<|pq (λ_ J=>Zu (pf.J J n10) U U)<|pq (λ_ J=>Zu (hB1126.J J gb) U U)<|p Qv <|
   pk<|JY [c.ve,c.vc,c.vr,c.vx,c.vk,vo] (h626.I hd) ko λw8 ha gg=>⟨hd.any.Q (ha.Y s6),?_⟩
  refine pkk<|JY [vk,vm,Zm] ((h726.I hd).J ha ka) kn λV hh gh=>p ZG<|p ZG<|pe ?_;exact Qh ⟨[.agg #[c.ve,c.vc,c.vr,c.vx,c.vk,vo],.agg #[vk,vm,Zm],sS 0,sS (Y3 (Jv c.V q.m))],⟨Yl (gg.J hh g8),Yl gh,U,U,Z⟩,(((m7.D hy).D hd).O ha oa).O hh oa,_,[vk,vm,Zm],0,by rw[hv];rfl,U,ko,U,kn,λh0=>OW (hv.symm.D h0) gx⟩
 rw[OT gx,OT od]at hR;have kw:=kw (Lp.1 gx);have hst:=kw.1;have hB1726:=hB1721.I hy;have hB1526:=hB1521.I hy;refine Qf<|Qc<|Zf (⟨⟨ky,v,⟨sa,sm,se,suA (Jv c.V q.m)⟩,c0,(Vm (Jv c.V q.m)).1,c1,(Vm (Jv c.V q.m)).2.1,c2,(Vm (Jv c.V q.m)).2.2⟩,cm⟩:V7) λP hP=>?_;have hPc:[sS ky.1,.string ky.2,sS v,sa,sS st,sm,se,c0,c1,c2,cm.ve,cm.vc,cm.vr,cm.vx,cm.vk]=Zp P:=by rw[<-hP,hst]
 refine Qo rfl pf U U<|QT hB1726 U U<|Qa<|QQ U<|x (Zh (us:=[sa,sS st,sm,se]) hB2126 U U U)<|QQ U<|x (Zh (us:=[c0,c1,c2]) hB2126 U U U) <|
  x (Q5 [(0,Xp ky),(1,[sS v]),(2,[sa,sS st,sm,se]),(3,[c0,c1,c2])] ⟨U,U,U,U,U,U,U,U,Z⟩)<|QT hB1526 U U<|x (Q5 [(0,[sS ky.1,.string ky.2,sS v,sa,sS st,sm,se,c0,c1,c2]),(1,cm.cells)] ⟨U,U,U,U,Z⟩) <|
  Qn<|Za [[sS ky.1,.string ky.2,sS v,sa,sS st,sm,se,c0,c1,c2,cm.ve,cm.vc,cm.vr,cm.vx,cm.vk]] λb115 kv hj hb115 hB115=>?_
 have hA27:At [] ↑kv ⟨b115,0,none⟩ (Zp P):=by have:=hB115.at (L:=[]) od;rw[<-hPc];simpa using this
 have hO:=pd.I hj;have hz27:=hj.size;have hPA:V6 (ob vo++(ob vk++(ob vm++(b6::b7::S::O::L')))) ↑kv P:=by
  obtain⟨hA,hC⟩:=kw.2 _ (λb H=>ov (m9 b H).1);have hcmX:=((m4 _ (λb H=>(m9 b H).1)).I h5).I hy;rw[<-hP];exact⟨⟨(hA.I gw).I hj,(hC.k.I gw).I hj,(hC.d.I gw).I hj,(hC.r.I gw).I hj⟩,hcmX.I hj⟩
 refine Qn<|Jc (m:=1) (news:=Zp P) hO.o.own U U U hA27 (Zb.all hPA.ones) (show qs.length+1<=1073741824 by omega) oa λv28 w28 ho28 hZ hn28=>?_;have hI28:=hO.part hPA ho28 hZ hn28;refine QQ rfl<|Qn<|Qu (j:=5) (u:=v28) ((pf.I hj).J hZ n10o) U U od (Qp ho28) λw29 gy hB1029=>xe ?_;have hI29:=hI28.J gy x10;have hB1129:=((hB1126.I hj).J hZ n11o).J gy oh;have hB1729:=((hB1726.I hj).J hZ n17o).J gy n17k;have zz28:=hZ.size;have zz29:=gy.size;refine Qs<|Qo U hB1129 U U<|QT hB1729 U U<|Qn<|Za [Xp ky] λb120 w30 gz hb120 hB120=>?_;have hI30:=hI29.I gz;have zz30:=gz.size;refine Qn<|Q2 (m:=1) (news:=Xp ky) (L:=[]) hI30.m U U U (by have:=hB120.at (L:=[]) od;simpa using this) oq (show M.length+1<=1099511627776 by omega) oa λv31 w31 ho31 kx hn31=>?_;have hI31:=hI30.mades ho31 kx hn31;refine QQ rfl<|Qn<|Qu (j:=1) (u:=v31) ((hB1129.I gz).J kx n11m) U U od (Qp ho31) λw32 pg hB1132=>xe ?_;have g0:=hI31.J pg x11;have hB1032:=((hB1029.I gz).J kx n10m).J pg oh;refine Qs<|Qa<|QH U U<|Qb ?_;have hs732:O5 [S,O] w7 w32:=(((((((hh.D hW).D hy).D hj).S hZ (λb H=>.inr (gvo b H).1)).Q (gy.Y od)).D gz).S kx (λb H=>.inr (gvm b H).1)).Q (pg.Y od);refine⟨⟨k+1,v28,qs++[P],vk,K,v31,M++[ky]⟩,og,La,I,hs732,⟨g0.o,g0.k,g0.m,g0.d1,g0.d2⟩,⟨_,hB1032⟩,⟨_,hB1132⟩,?_,?_,by simp only[oN,oP];omega⟩
 ·simp only[];rw[Lr];have hPp:[P].map (·.pt)=[Vj c.V v q.m]:=by
   rw[mv,<-hP];show[V7.pt _]=_;unfold V7.pt;rw[gs.1]
  rw[hPp];exact hR
 simp only[];rw[Lr,gi,ki,<-hP];rfl
theorem Qbn {pS:String}{fs:Array Field}(ft o:Nat){x:O3}(vs:LV)(E:P.underlying t=some (.struct fs))(G:(fs[j]?).map (λd=>(d.type,d.offset))=some (ft,o))[h1:Ag P ft sz](hx:ev f x=sT us)(H:us.toArray.extract o (o+sz)=vs.toArray):
  (execOp (ev f) ⟨d,.field t x j,ty,pS,af,gd⟩).run P w=.ok (.value (.agg vs.toArray)) w:=by
 obtain⟨fd,I,J⟩:=Ms.1 G;cases J
 rw[<-H];simp[execOp,hx,Instr.field,run_underlying E,I,asAgg,part,QcS (t:=fd.type),VT (t:=fd.type)]
theorem yr {c:CL}(J:ZI L ↑w c)(hL:∀b∈L,b<↑w)(hz:CSz c.V)(h4:Kb w 4096):
  QY sV 9 [c.val] w λr w'=>sX w w'/\∃vp,r=.tuple #[vp,sS (VB c.V)]/\(VB c.V≠0->vp=UZ)/\(VB c.V=0->∃m:JT,vp=pS m.b/\m.is (Qbx c.V)/\(∀b∈m.own,↑w<=b)/\zc (m.own++L) w' m):=by
 have h:=J.up (L':=[]) od;have G:VB c.V=if(ZQ c.V).1≠0 then(ZQ c.V).1 else if Zj c.V≠0 then Zj c.V else Jg c.V [] 0:=rfl
 refine Zf (VB c.V) λE hE=>?_;rw[hE]at G ⊢;refine Zq func9 ?_;refine Qc<|Zl c.cells λb1 w1 hf hO hh=>x Qi<|Qb ?_;have hP:=hf.size;refine Qd<|Qc<|QT hh U U<|Qz<|(yY (h.I hf) hz).Y ?_;rintro r2 w2 ⟨V,v2,rfl,_,_⟩;have hi:=hf.D V;have hQ:=V.size;refine Qa<|QW U U<|QW U U<|x Qi<|Qb<|Qj<|Zx U U<|xe<|QO rfl (λY=>?_) (λY=>?_)
 ·rw[OU Y]at G;refine Qj<|x Qi<|Qb<|Qh ⟨[UZ,sS (ZQ c.V).1],oB,hi,UZ,by rw[G];rfl,λ_=>U,λJ=>OW (G.symm.D J) Y⟩
 rw[OT Y]at G;refine Qf<|Qd<|Qc<|QT (hh.I V) U U<|Qz<|(Xl (h.I hi)).Y ?_;rintro r3 w3 ⟨rfl,hj⟩;have ha:=hi.D hj;have hR:=hj.size;refine Qb<|Qj<|Zx U U<|xe<|QO rfl (λhc=>?_) (λhc=>?_)
 ·rw[OU hc]at G;refine Qj<|x Qi<|Qb<|Qh ⟨[UZ,sS (Zj c.V)],oB,ha,UZ,by rw[G];rfl,λ_=>U,λJ=>OW (G.symm.D J) hc⟩
 rw[OT hc]at G;refine Qf<|Qc ?_;have h5:jS L ↑w3 Zm []:=⟨Zn.nil _ _ _,λq T=>by cases T⟩;have hN:=Qao (L':=L) (v:=0) (h.I ha) h5 (λb H=>ov (hL b H)) (Lo _) (h4.I ha);rw[show([]:List V7).map (·.pt)=[] from rfl]at hN;refine QT ((hh.I V).I hj) U U<|Qz<|hN.Y ?_;rintro r4 w4 ⟨h6,us,ur,n,rfl,h7,h8,h9,hA,hp⟩;have he:=ha.D h6;refine Qa<|QW U U<|QW U U<|QW U U<|QW U U<|QM z6 λb7 w5 hB hS hr =>
  QM ZU λb8 w6 hs hT hC=>Qn<|Zv (us:=us) (hr.I hs) U U h7 U h8 λw7 ht hD=>?_
 have hU:=hr.lt;refine Qn<|Zv (us:=ur) (hC.J ht oh) U U h9 U hA λw8 hu hV=>x Qi<|Qb ?_;have hk:sX w4 w8:=((hB.D hs).O ht oa).O hu oa;have hv:=hD.J hu oh;refine Qd<|Qj<|Zx U U<|xe<|QO rfl (λhl=>?_) (λhl=>?_)
 ·refine Qj<|x Qi<|Qb<|Qh ⟨[UZ,sS (Jg c.V [] 0)],oB,(he.D hk),UZ,by rw[G];rfl,λ_=>U,λJ=>OW (G.symm.D J) hl⟩
 have hw:Jg c.V [] 0=0:=Lp.1 hl;have hy:E=0:=G.D hw;refine Qf<|Exists.elim (hp hw) λvo I=>Exists.elim I λqs I=>Exists.elim I λq I=>?_;have hF:=I.1;have hn:=I.2.2.1;have hG:=I.2.2.2.1;have hH:=I.2.2.2.2.1;have hI:=I.2.2.2.2.2.1;clear I hp;rw[hF]at hv;refine Qc<|QT hv U U<|Qn<|Za [[c.ve,c.vc,c.vr,c.vx,c.vk,vo]] λS w9 hJ hW h1=>Qa<|x (Qx ⟨U,U,Z⟩) <|
  Zl [sL S 1 1,Zm,sS n] λO hX h2 hY hK=>x Qi<|Qb ?_
 have ho:=(hk.D hJ).D h2;have hZ:=hk.size;have ga:=h1.lt;have gb:=he.size;refine Qh ⟨[pS O,sS 0],oB,(he.D ho),pS O,by rw[hy];rfl,λh=>OW hy h,λ_=>⟨⟨O,sL S 1 1,[⟨c,vo,qs⟩],Zm,[],n⟩,U,⟨?_,U,?_,U⟩,λb H=>?_,⟨⟨_,hK⟩,(Ql (QZ.own h1 (n:=1) (sz:=6) U ol (Lo _)) h2),QE _ _ _ _,?_,?_,?_,?_,?_,λq T=>by cases T⟩⟩⟩
 ·show[(c.V,qs.map (·.pt))]=[]++[(c.V,VO c.V [] 0)];rw[hG];rfl
 ·show n=((YN c.V [] 0).made.length:Int);rw[hn,<-hH];rfl
 ·have hM:b=O\/b=S:=by simpa[JT.own,ob]using H
  omega
 ·show O∉[S];simp only[oJ];omega
 ·show O∉[];simp
 ·intro b H hm;cases hm
 ·intro b H;exact Lc.2 (.inl H)
 intro q T;rw[Lb.1 T];have h3:∀b∈(⟨O,sL S 1 1,[⟨c,vo,qs⟩],Zm,[],n⟩:JT).own++L,b∈L\/↑w4<=b:=λb H=>by
  rcases Lc.1 H with H|H
  ·have hM:b=O\/b=S:=by simpa[JT.own,ob]using H
   exact .inr oa
  exact .inl H
 exact⟨((J.I he).up h3).I ho,Go.Lg.XQ.I (Go.Lg.XQ.up hI h3) ho⟩
theorem JT.is.last {m:JT}{s:q7}(h:m.is s):∃ss q,m.ss=ss++[q]/\ss.map jE.st=s.un/\q.c.V=s.c/\q.ps.map (·.pt)=s.ps:=by
 obtain⟨G,l2,e1,e2,H⟩:=List.map_eq_append_iff.1 h.1;obtain⟨q,rfl,E⟩:=List.map_eq_singleton_iff.1 H;exact⟨G,q,e1,e2,OV Prod.fst E,OV Prod.snd E⟩
theorem VI {γ:Type}{f:α->γ}{g:β->γ}{l:List α}{l':List β}(h:l.map f=l'.map g){k:Nat}(E:k<l.length)(G:k<l'.length):f (l[k]'E)=g (l'[k]'G):=by
 have H:(l.map f)[k]'(oA E)=f (l[k]'E):=Mr ..;have I:(l'.map g)[k]'(oA G)=g (l'[k]'G):=Mr ..;rw[<-H,<-I];simp only[h]
theorem Qa0 {k:Nat}{m:JT}(hM:zc L w m)(Y:KS L2 w s)(hk:Ye k s.sys)(ho:m.is s.sys):
  QY sV 38 [pS m.b,pS s.b] w λr w'=>r=.bool true/\sX w w':=by
 have hz:CSz s.s.c.V:=Vf hk.st.ck;have hl:=hk.len;obtain⟨ss,q,ess,eun,eqc,eqp⟩:=ho.last;have hb:m.ss.length<=1000:=by
  have H:ss.length=s.sys.un.length:=by rw[<-eun,Lh]
  have h2:=hk.l64;rw[ess];simp;omega
 have g0:q.ps.length=s.s.ps.length:=by
  have H:=OV oQ eqp;rw[Lh]at H;rw[H];exact Lh _
 have h0:m.rs.map (·.rp)=s.rs.map (·.rp):=ho.2.1;have g2:m.rs.length=s.rs.length:=by have:=OV oQ h0;simpa using this
 have hO:m.made=s.made:=ho.2.2.1;have hP:zJ L ↑w q:=hM.sA q (by rw[ess];simp);have hQ:zJ [] ↑w q:=hP.up od;have hT:Zn [] ↑w m.vr m.rs.length 3 (m.rs.flatMap Q0):=QB hM.rr oa od;have hU:∀a∈m.rs,Jt [] ↑w a:=λa ha=>(hM.rA a ha).up od;obtain⟨TM,hV⟩:=hM.blk;refine Zq func38 ?_;refine Qc<|Qb<|Qj<|Qz<|(Qiy Y hz).Y ?_;rintro r1 w1 ⟨hW,cm,rfl,ecm,hX⟩;have O:=hX [] od;refine Qa<|QW U U<|QW U U<|QM Z8 λb5 w2 hY hZ ga=>QK cm.cells ga ⟨O.ev.arr.one,O.co.arr.one,O.rq.arr.one,O.ex.arr.one,O.cs.arr.one,Z⟩ λw3 gb gc =>
  Qb ?_
 have h3:sX w1 w3:=hY.O gb hZ;have h4:=hW.D h3;refine Qj<|Qz<|(Qcq (Y.I h4) hl.2.2).Y ?_;rintro r4 w4 ⟨hp,ve,es,rfl,ees,hE⟩;refine Qa<|QW U U<|QW U U<|x Qi<|Qb ?_;have h5:=h4.D hp;refine Qj<|Qz<|(Qco (Y.I h5) oa).Y ?_;rintro vR S ⟨he,rs,ers,hR⟩;refine Qb ?_;have J:=h5.D he;have eel:es.length=q.ps.length:=by
  have H:=OV oQ ees;rw[Lh,Lh]at H;omega
 have erl:rs.length=m.rs.length:=by
  have H:=OV oQ ers;rw[Lh,Lh]at H;omega
 have gg:es.map EnV.en=q.ps.map (λp=>p.e.en):=by
  have H:s.s.ps.map (λq=>q.pt.en)=(s.s.ps.map (·.pt)).map xI.en:=by rw[Mn];rfl
  have h2:s.s.ps.map (·.pt)=q.ps.map (·.pt):=eqp.symm;rw[ees,H,h2,Mn];rfl
 have gh:rs.map V5.rp=m.rs.map V5.rp:=by rw[ers];exact h0.symm
 have h6:=Go.Lg.XQ.I (hE.lst (L:=[]) oa od) he;have hR5:=hR.lst (L:=[]) oa od;have hq:=hQ.I J;have hr:=hM.I J;have hs:=hV.I J;have h7:=hT.I J;refine Qd<|QX (α:=Unit) [(24,65)] (λ_=>[(65,.bool false)]) (λ_ w'=>sX S w') om ?_ ?_
 ·have hd:sX S { S with drawn:=S.drawn+1 }:=O5.C _ _
  refine Zz [] [oE 0,oE 1,oE 2,oE 3,oE 4,oE 5,oE 6,oE 7,oE 8,oF 9,oE 10,oF 11,oE 12,oE 13,oE 14,oE 15,oE 16,oE 17,oF 18,oE 19,oE 20,oE 21,oE 22,oE 23,oE 24,oE 25,oE 26,oE 27,oE 28,oE 29,oE 30,oE 31,oE 32,oE 33,oE 34,oE 36,oE 37,oE 38,oE 39,oF 35,oE 40,oE 41]<|p Qv<|pb (λ_=>XH U U) (λh8=>OW U h8) (λh8=>?_);refine p Qv<|p Qv<|pb (λ_=>XH U U) (λh9=>OW U h9) (λh9=>?_);refine p (Y9 U)<|p Qv<|pq (λ_ E=>Zu ((gc.I (hp.D he)).I E) U U)<|p Qv<|pk<|xg<|(VA (hr.I hd) ess hb).Y ?_;rintro _ w6 ⟨rfl,gi⟩;have hf:=hd.D gi;refine⟨hf,?_⟩;have hEq:QY sV 87 [cm.val,q.c.val] w6 λr w'=>r=.bool true/\sX w6 w':=by
   have H:=UH ((O.I (h3.D (hp.D he))).I hf) (hq.c.I hf);rw[show decide (cm.V=q.c.V)=true from OX (by rw[ecm,eqc];rfl)]at H;exact H
  refine p (λ_=>Qbn 45 0 q.c.cells underlying129 U U U)<|pk<|xg<|hEq.Y ?_;rintro _ w8 ⟨rfl,gj⟩;have ht:=hf.D gj;refine⟨ht,?_⟩;refine pB (λ_=>Zy U) (λhA=>OW hA od) (λhA=>?_);refine p (Y9 U)<|p Qv<|p Qv<|p (λ_=>Yo h6.arr U)<|p Qv<|pk<|xg<|(VA (hr.I ht) ess hb).Y ?_;rintro _ w9 ⟨rfl,gk⟩;have hg:=ht.D gk;refine⟨hg,?_⟩;refine p (λ_=>zj 127 5 underlying129 U U U)<|p (λ_=>Yo hq.p.arr U)<|pb (λ_=>XH U U) (λhB=>OW (by rw[eel]) hB) (λhB=>?_);refine p (Y9 U)<|p Qv<|p Qv<|p (λ_=>Yo hR5.arr U)<|p Qv<|p (Yt U) <|
   p (QG rfl)<|pq (λ_ E=>Qk (hs.I E) U U)<|p (λ_=>Yo h7 U)<|pb (λ_=>XH U U) (λhC=>OW (by rw[erl]) hC) (λhC=>?_)
  have hMd:=Qcp ((Y.I J).I hg);rw[<-hO]at hMd;refine p (Y9 U)<|p Qv<|p Qv<|p Qv<|p (Yt U)<|p (QG U) <|
   pq (λ_ E=>Qk (hs.I E) U U)<|pk<|xg<|hMd.Y ?_
  rintro _ g3 ⟨rfl,rfl⟩;refine⟨hg,?_⟩;refine pb (λ_=>XH U U) (λhD=>OW U hD) (λhD=>?_);refine p (Y9 U)<|pe ?_;exact⟨(),La,hg⟩
 rintro _ g g4 gl;refine ZO rfl<|Qf<|Qd<|Qc<|Qb<|Q7 (α:=Nat) [(4,4),(10,10),(66,100)] (λz=>[(10,sS z)]) (λz w'=>z<=es.length/\sX S w') (λz=>es.length - z) 0 La ⟨Lo _,gl⟩ ?_;rintro i g hh ⟨hi,V⟩;have hm:=Go.Lg.XQ.I h6 V;refine Qd<|Qj<|Qa<|QF hm.arr U<|Z5 U U<|xe<|ZH rfl (λhF=>?_) (λhF=>?_)
 ·refine Qw<|Qd<|Qc<|Qb<|Q7 (α:=Nat) [(4,4),(11,11),(101,119)] (λz=>[(11,sS z)]) (λz w'=>z<=rs.length/\sX S w') (λz=>rs.length - z) 0 La ⟨Lo _,V⟩ ?_;rintro j g hu ⟨hj,T⟩;have hv:=Go.Lg.XQ.I hR5 T;refine Qd<|Qj<|Qa<|QF hv.arr U<|Z5 U U<|xe<|ZH U (λhG=>?_) (λhG=>?_)
  ·refine Qw<|Qc<|Qb<|Qh ⟨[.bool true],La,U,J.D T⟩
  have G:j<rs.length:=by have gm:(j:Int)<(rs.length:Int):=hG;omega
  have I:j<m.rs.length:=oa
  refine Qf ?_;have hd:sX hu { hu with drawn:=hu.drawn+1 }:=O5.C _ _
  have gn:=((hU _ (Lm I)).I (J.D T)).I hd;refine Qd<|Qm<|Qd<|Zz [] (YW 0 13 [11])<|p Qv<|p Qv<|Lg.pig (g:=Q0) (i:=j) U yx hv.arr U U G λg5 go=>pq (λ_ E=>Qr (us:=Q0 (rs[j]'G)) (go.I E) U U) <|
   p Qv<|p (Yt U)<|p (QG U)<|pq (λ_ E=>Qk ((hs.I T).I E) U U)<|p Qv<|Lg.pig (g:=Q0) (i:=j) U yx (h7.I T) U U I λg6 gp =>
   pq (λ_ E=>Qr (us:=Q0 (m.rs[j]'I)) (gp.I E) U U)<|pk<|xg<|(Ug ((hv.each _ (Lm G)).I hd) gn (VI gh G I)).Y ?_
  rintro _ g7 ⟨rfl,hH⟩;refine⟨hd.D hH,?_⟩;refine p (λ_=>Zy U)<|pe ?_;refine ZO U<|Qf<|Qs<|Qa<|QH U U<|Qb<|⟨j+1,oa,La,G,(T.D hd).D hH⟩
 have G:i<es.length:=by have gm:(i:Int)<(es.length:Int):=hF;omega
 have I:i<q.ps.length:=oa
 refine Qf ?_;have hw:=hq.I V;have hI:=hr.I V;have hJ:=VI gg G I;have gq:(es[i]'G).vr=(q.ps[i]'I).e.vr:=OV Ent.vr hJ;refine Qd<|Qm<|QX (α:=Unit) [(72,100)] (λ_=>[(100,.bool false)]) (λ_ w'=>sX hh w') om ?_ ?_
 ·have hd:sX hh { hh with drawn:=hh.drawn+1 }:=O5.C _ _
  refine Zz [] [oE 0,oE 1,oE 2,oE 3,oE 4,oE 7,oF 5,oE 6,oE 8,oE 9,oE 10,oF 11,oE 12,oE 13,oE 14,oE 15,oE 16,oE 17,oE 18,oE 19,oE 22,oF 20,oE 21,oE 23,oE 24,oE 25,oE 26,oE 27,oE 28]<|p Qv<|p Qv<|Lg.pig (g:=ZT) (i:=i) U Qke hm.arr U U G λg8 gr=>pq (λ_ E=>Qr (us:=ZT (es[i]'G)) (gr.I E) U U) <|
   p Qv<|p Qv<|pk<|xg<|(VA (hI.I hd) ess hb).Y ?_
  rintro _ g9 ⟨rfl,gs⟩;have hn:=hd.D gs;refine⟨hn,?_⟩;have gt:=(hw.p.each _ (Lm I)).e.I hn;refine p (λ_=>zj 127 5 underlying129 U U U)<|Lg.pig (g:=Zp) (i:=i) U K0 hw.p.arr U U I λka gu=>p (λ_=>Zd U)<|pq (λ_ E=>Qr (us:=ZT (q.ps[i]'I).e) (((gu.from 0).pre 10).I E) U U) <|
   pk<|xg<|(Qbi ((hm.each _ (Lm G)).I hn) gt hJ).Y ?_
  rintro _ kb ⟨rfl,gv⟩;have hy:=hn.D gv;refine⟨hy,?_⟩;refine pB (λ_=>Zy U) (λhK=>OW hK od) (λhK=>?_);refine p Qv<|p Qv<|p Qv<|Lg.pig (g:=ZT) (i:=i) U Qke hm.arr U U G λkc gw=>p (λ_=>Zd U) <|
   pq (λ_ E=>Qy ((gw.fld 2 (sS (es[i]'G).vr) U).I E) U)<|p Qv<|p Qv<|pk<|xg<|(VA (hI.I hy) ess hb).Y ?_
  rintro _ ke ⟨rfl,gx⟩;have hL:=hy.D gx;refine⟨hL,?_⟩;refine p (λ_=>zj 127 5 underlying129 U U U)<|Lg.pig (g:=Zp) (i:=i) U K0 hw.p.arr U U I λkf gy=>p (λ_=>Zd U)<|p (λ_=>Zd U)<|pq (λ_ E=>Qy (((gy.from 0).fld 2 (sS (q.ps[i]'I).e.vr) U).I E) U) <|
   pb (λ_=>XH U U) (λhN=>OW gq hN) (λhN=>?_)
  refine p (Y9 U)<|pe ?_;exact⟨(),La,hL⟩
 rintro _ g kg gz;refine ZO rfl<|Qf<|Qs<|Qa<|QH U U<|Qb<|⟨i+1,oa,La,G,V.D gz⟩
theorem Qjh {m:JT}(h:zc L w m)(hg:m.ss.length=m.rs.length+1)(h1:m.rs.length<=64):
  QY sV 37 [pS m.b] w λr w'=>(m.rs=[]->r=sS 12/\sX w w') /\
   (m.rs≠[]->r=sS 0/\∃m':JT,m'.b=m.b/\m'.ss=m.ss.dropLast/\m'.rs=m.rs.dropLast/\m'.made=m.made/\O5 m.own w w'/\zc L w' m'/\∀b∈m'.own,b∈m.own):=by
 obtain⟨TS,T⟩:=h.blk;have hq:Zn [] ↑w m.vs m.ss.length 6 (m.ss.flatMap Y7):=QB h.rs oa od;have hh:Zn [] ↑w m.vr m.rs.length 3 (m.rs.flatMap Q0):=QB h.rr oa od;refine Zq func37 ?_;refine Qc<|Qb<|Qd<|Qj<|Yd U<|Qo U T U U<|QF hh U<|x (QR U U)<|xe<|QO rfl (λh8=>?_) (λh8=>?_)
 ·have hz:m.rs=[]:=Ni.1 (by have h9:(m.rs.length:Int)=0:=h8;omega);refine Qc<|Qb<|Qh ⟨[sS 12],La,λ_=>⟨U,O5.Z _ _⟩,λhn=>OW hz hn⟩
 have Y:m.rs≠[]:=λe=>h8 (by rw[e];rfl);have hf:m.ss≠[]:=λe=>by rw[e]at hg;simp at hg
 refine Qf ?_;have ha:m.rs=m.rs.dropLast++[m.rs.getLast Y]:=(MW Y).symm;have he:m.ss=m.ss.dropLast++[m.ss.getLast hf]:=(MW hf).symm;refine Zf m.rs.dropLast λG hj=>Zf (m.rs.getLast Y) λq hr=>Zf m.ss.dropLast λH hk=>Zf (m.ss.getLast hf) λu hs=>?_;rw[hj,hr]at ha;rw[hk,hs]at he;have h2:m.rs.length=G.length+1:=by rw[ha];simp
 have h3:m.ss.length=H.length+1:=by rw[he];simp
 have J:=UW Qe2 (l:=H) (y:=u) (by rw[<-he];exact h.rs);have O:=UW yx (l:=G) (y:=q) (by rw[<-ha];exact h.rr);refine Exists.elim J λgu J=>Exists.elim J λcu J=>Exists.elim O λgr O=>Exists.elim O λcr O=>?_;have evs:=J.1;have evr:=O.1;have hi:(m.ss.length:Int) - 1=((H.length:Nat):Int):=oa
 have ht:(m.rs.length:Int) - 1=((G.length:Nat):Int):=oa
 have msb:m.b∈m.own:=Lq;have mgu:gu∈ob m.vs:=by rw[evs];simp[ob]
 have mgr:gr∈ob m.vr:=by rw[evr];simp[ob]
 refine Qd<|Zz [] (YW 0 30 [26,29]) ?_;have hd:sX w { w with drawn:=w.drawn+1 }:=O5.C _ _
 refine p Qv<|p Qv<|p Qv<|p (Yt U)<|p (QG U)<|pq (λ_ S=>Qk (T.I S) U U) <|
  p Qv<|p (Yt U)<|p (QG U)<|pq (λ_ S=>Qk (T.I S) U U)<|p (λ_=>Yo hq U) <|
  p (λ_=>XR U U ⟨oa,oa⟩)<|p (λ_=>XG (n:=H.length+1) (b:=gu) (cap:=cu) (hi:=H.length) evs (show Go.Lg.ev _ _=_ from OV sS hi) (ov J.2.1))<|p Qv<|p (Yt U)<|p (QG U) <|
  pq (λ_ S=>Qk (T.I S) U U)<|p Qv<|p (Yt U)<|p (QG U)<|pq (λ_ S=>Qk (T.I S) U U)<|p (λ_=>Yo hh U) <|
  p (λ_=>XR U U ⟨oa,oa⟩)<|p (λ_=>XG (n:=G.length+1) (b:=gr) (cap:=cr) (hi:=G.length) evr (show Go.Lg.ev _ _=_ from OV sS ht) (ov O.2.1))<|p (Yt U)<|p (QG U) <|
  pkk<|Qu (u:=sL gu H.length cu) (T.I hd) U U (LZ U) U λw2 hu hv=>p (Yt U)<|p (QG U) <|
  pkk<|Qu (u:=sL gr G.length cr) hv U U (LZ U) U λw3 hw hy=>pe ?_
 refine Qc<|Qb ?_;have V:O5 [m.b] w w3:=(hd.any.Q hu).Q hw;have hl:gu∉[m.b]:=λI=>h.d1 (Lb.1 I ▸ mgu);have ho:gr∉[m.b]:=λI=>h.d2 (Lb.1 I ▸ mgr);have hp:∀b∈[m.b],b∈L:=λb E=>by rw[Lb.1 E];exact h.sub _ msb
 have h0:∀b∈[m.b],b∈m.own:=λb E=>by rw[Lb.1 E];exact msb
 have own':∀b∈(⟨m.b,sL gu H.length cu,H,sL gr G.length cr,G,m.made⟩:JT).own,b∈m.own:=λb E=>by
  rcases Lj.1 E with rfl|E
  ·exact msb
  rcases Lc.1 E with E|E
  ·rw[Lb.1 (show b∈[gu] from E)];exact Lk _ (Lc.2 (.inl mgu))
  rw[Lb.1 (show b∈[gr] from E)];exact Lk _ (Lc.2 (.inr mgr))
 refine Qh ⟨[sS 0],La,λe=>OW e Y,λ_=>⟨U,⟨m.b,sL gu H.length cu,H,sL gr G.length cr,G,m.made⟩,U,hk.symm,hj.symm,U,V.Y h0,⟨⟨TS,hy⟩,J.2.2.2 _ _ V hl,O.2.2.2 _ _ V ho,λI=>hl (Lb.2 (Lb.1 (show m.b∈[gu] from I)).symm),λI=>ho (Lb.2 (Lb.1 (show m.b∈[gr] from I)).symm),λb E I=>?_,λb E=>h.sub b (own' b E),λd hd=>Mm.st (h.sA d (by rw[he];exact Lc.2 (.inl hd))) (V.Y hp),λd hd=>Mm.st (h.rA d (by rw[ha];exact Lc.2 (.inl hd))) (V.Y hp)⟩,own'⟩⟩;rw[Lb.1 (show b∈[gu] from E)]at I;exact h.d3 gu mgu (by rw[Lb.1 (show gu∈[gr] from I)];exact mgr)
theorem JT.is.undo {m E:JT}{s:q7}(h:m.is s)(G:s.un≠[])(e1:E.ss=m.ss.dropLast)(e2:E.rs=m.rs.dropLast)(I:E.made=m.made):E.is (unS s):=by
 have H:s.un=s.un.dropLast++[s.un.getLast G]:=(MW G).symm;have J:s.un.getLastD (s.c,s.ps)=s.un.getLast G:=by
  conv=>lhs;rw[H]
  exact List.getLastD_concat
 refine⟨?_,?_,I.D h.2.2.1,?_⟩
 ·show E.ss.map jE.st=s.un.dropLast++[((s.un.getLastD (s.c,s.ps)).1,(s.un.getLastD (s.c,s.ps)).2)];rw[e1,List.map_dropLast,h.1,List.dropLast_concat,J];exact H
 ·show E.rs.map (·.rp)=s.rs.dropLast;rw[e2,List.map_dropLast,h.2.1]
 show s.rs.dropLast.length=s.un.dropLast.length;rw[NF,NF,h.2.2.2]
theorem JT.is.len {m:JT}{s:q7}(h:m.is s):m.ss.length=m.rs.length+1/\m.rs.length=s.un.length:=by
 have E:=OV oQ h.1;have G:=OV oQ h.2.1;rw[Lh,Ll]at E;rw[Lh]at G;have H:=h.2.2.2;simp at E;omega
theorem Qji {k:Nat}{m:JT}{s:q7}{xs:List ZZ}(h:zc L w m)(ht:m.is s)(hk:Ye k s)(za:k<=1000)(hL:∀b∈L,b<↑w)(hx:zO L2 ↑w vl xs)(k9:∀e∈xs.map ZZ.e,q9 e.2)(ma:Kb w 4096):
  QY sV 40 [pS m.b,vl] w λr w'=>∃qr:V5,r=.tuple #[sT (Q0 qr),sS (qb s (xs.map ZZ.e))]/\(∀N:LN,(∀b∈N,b<↑w)->Jt N ↑w' qr)/\(qb s (xs.map ZZ.e)≠0->sX w w'/\qr.rp=⟨[],[],[]⟩) /\
   (qb s (xs.map ZZ.e)=0->qr.rp=YN (KX s.c (xs.map ZZ.e)).2 s.ps ((s.un.length:Int)+1)/\∃m':JT,m'.b=m.b/\m'.is (edS s (xs.map ZZ.e))/\O5 m.own w w'/\zc (m'.own++L) w' m'/\∀b∈m'.own,b∈m.own\/↑w<=b):=by
 obtain⟨TS,hB⟩:=h.blk;obtain⟨ss,q,ess,eun,eqc,eqp⟩:=ht.last;have mf:=ht.len;have hY:=hk.st;have zb:=hk.l64;have zv:=hk.m0;have z1:=hk.m1;have mg:m.made=s.made:=ht.2.2.1;have g6:CSz q.c.V:=by rw[eqc];exact Vf hY.ck
 have hZ:m.ss.length<=1000:=oa
 have hV:(m.ss.length:Int)=(s.un.length:Int)+1:=oa
 have mh:q.ps.length<=1000:=by
  have e1:=OV oQ eqp;have e4:=OV oQ hY.ky;rw[Lh]at e1;rw[Lh,Lh]at e4;have:=VC (ZW hY.ck).sr;omega
 have ga:zJ L ↑w q:=h.sA q (by rw[ess];simp);have mj:Zn [] ↑w m.vs m.ss.length 6 (m.ss.flatMap Y7):=QB h.rs oa od;have mo:Zn [] ↑w m.vr m.rs.length 3 (m.rs.flatMap Q0):=QB h.rr oa od;have mq:(xs.map ZZ.e).length=xs.length:=Lh _;have ms:∀(w':O1) (N:LN),Jt N ↑w' ⟨Zm,[],Zm,[],Zm,[]⟩:=λw' N=>⟨Zn.nil _ _ _,Zn.nil _ _ _,Zn.nil _ _ _⟩;have O:qb s (xs.map ZZ.e)=if xs.length=0 then 12 else if m.rs.length=64 then 3 else if(KX q.c.V (xs.map ZZ.e)).1≠0 then(KX q.c.V (xs.map ZZ.e)).1 else Jg (KX q.c.V (xs.map ZZ.e)).2 (q.ps.map (·.pt)) (m.ss.length:Int):=by
  unfold qb;rw[mq,<-hV,<-mf.2,eqc,eqp]
 have V:KX q.c.V (xs.map ZZ.e)=if(zz q.c.V (xs.map ZZ.e)).1≠0 then((zz q.c.V (xs.map ZZ.e)).1,VN)else if(J8 q.c.V.ev (zz q.c.V (xs.map ZZ.e)).2).1≠0 then((J8 q.c.V.ev (zz q.c.V (xs.map ZZ.e)).2).1,VN)else if Zj (J8 q.c.V.ev (zz q.c.V (xs.map ZZ.e)).2).2≠0 then(Zj (J8 q.c.V.ev (zz q.c.V (xs.map ZZ.e)).2).2,VN)else(0,(J8 q.c.V.ev (zz q.c.V (xs.map ZZ.e)).2).2):=rfl
 have hu:zz q.c.V (xs.map ZZ.e)=if(ZQ q.c.V).1≠0 then((ZQ q.c.V).1,[])else zG (ZQ q.c.V).2 (xs.map ZZ.e):=rfl
 have hP:(ZQ q.c.V).1=0->∀y∈(zG (ZQ q.c.V).2 (xs.map ZZ.e)).2,q9 y:=λh0=>QfW (yh g6 h0) k9;have hQ:edS s (xs.map ZZ.e)=⟨(KX q.c.V (xs.map ZZ.e)).2,VO (KX q.c.V (xs.map ZZ.e)).2 (q.ps.map (·.pt)) (m.ss.length:Int),s.made+((YN (KX q.c.V (xs.map ZZ.e)).2 (q.ps.map (·.pt)) (m.ss.length:Int)).made.length:Int),s.rs++[YN (KX q.c.V (xs.map ZZ.e)).2 (q.ps.map (·.pt)) (m.ss.length:Int)],s.un++[(s.c,s.ps)]⟩:=by
  unfold edS;rw[<-hV,eqc,eqp]
 have mt:YN (KX s.c (xs.map ZZ.e)).2 s.ps ((s.un.length:Int)+1)=YN (KX q.c.V (xs.map ZZ.e)).2 (q.ps.map (·.pt)) (m.ss.length:Int):=by rw[<-hV,eqc,eqp]
 rw[mt];refine Zf (qb s (xs.map ZZ.e)) λE hE=>?_;refine Zf (edS s (xs.map ZZ.e)) λES g7=>?_;refine Zf (KX q.c.V (xs.map ZZ.e)) λEC g8=>?_;refine Zf (zz q.c.V (xs.map ZZ.e)) λEI mu=>?_;rw[hE]at O;rw[g7]at hQ;rw[g8]at O V hQ;rw[mu]at V hu;rw[hE,g7,g8];refine Zq func40 ?_;refine Qc<|QM ZU λY w1 hv gb hw=>Qb ?_;have z2:=hw.lt;have bad:∀(e:Int) (w2 w3:O1),E=e->e≠0->sX w w2->O5 [Y] w2 w3->(∃qr:V5,tup [sT ZU,sS e]=.tuple #[sT (Q0 qr),sS E]/\(∀N:LN,(∀b∈N,b<↑w)->Jt N ↑w3 qr)/\(E≠0->sX w w3/\qr.rp=⟨[],[],[]⟩) /\
   (E=0->qr.rp=YN EC.2 (q.ps.map (·.pt)) (m.ss.length:Int)/\∃m':JT,m'.b=m.b/\m'.is ES/\O5 m.own w w3/\zc (m'.own++L) w3 m'/\∀b∈m'.own,b∈m.own\/↑w<=b)):=λe w2 w3 H h2 h3 h4 =>
  ⟨⟨Zm,[],Zm,[],Zm,[]⟩,by rw[H];rfl,λN _=>ms w3 N,λ_=>⟨h3.O h4 oa,U⟩,λh0=>OW (H.symm.D h0) h2⟩
 refine Qd<|Qj<|QF hx.arr U<|x (QR U U)<|xe<|QO rfl (λgc=>?_) (λgc=>?_)
 ·rw[OU (by have mv:(xs.length:Int)=0:=gc;omega)]at O;refine Qc<|x (Qx Z)<|QK ZU hw oC λw3 hf hA=>Qb<|Qh ⟨[sT ZU,sS 12],⟨Yl hA,U,Z⟩,bad 12 w1 w3 O ol hv hf⟩
 rw[OT (by have mv:¬(xs.length:Int)=0:=gc;omega)]at O;refine Qf<|Qd<|Qj<|Yd U<|Qo U (hB.I hv) U U<|QF (mo.I hv) U<|x (QR U U)<|xe<|QO rfl (λgg=>?_) (λgg=>?_)
 ·rw[OU (by have mw:(m.rs.length:Int)=64:=gg;omega)]at O;refine Qc<|x (Qx Z)<|QK ZU hw oC λw3 hf hA=>Qb<|Qh ⟨[sT ZU,sS 3],⟨Yl hA,U,Z⟩,bad 3 w1 w3 O ol hv hf⟩
 have my:¬m.rs.length=64:=by have mw:¬(m.rs.length:Int)=64:=gg;omega
 rw[OT my]at O;refine Qf<|Qj<|Qz<|(VA (h.I hv) ess hZ).Y ?_;rintro _ wa ⟨rfl,g9⟩;have ka:=hv.D g9;refine x (Qbn 45 0 q.c.cells underlying129 U U U)<|Qz<|(yY (ga.c.I ka) g6).Y ?_;rintro r5 w2 ⟨kb,v5,rfl,_,mz⟩;have gh:=ka.D kb;have hC:=g9.D kb;refine Qa<|QW U U<|QW U U<|x Qi<|Qb<|Qd<|Qj<|Zx U U<|xe<|QO rfl (λhj=>?_) (λhj=>?_)
 ·rw[OU hj]at hu;rw[hu,OU hj]at V;rw[V,OU hj]at O;refine Qc<|x (Qx Z)<|Qa<|QK ZU (hw.I hC) oC λw3 hf hA=>Qb<|Qh ⟨[sT ZU,sS (ZQ q.c.V).1],⟨Yl hA,U,Z⟩,bad _ w2 w3 O hj gh hf⟩
 rw[OT hj]at hu;have gi:=Lp.1 hj;have hP:=hP gi;refine Exists.elim (mz gi) λl5 gj=>?_;have m2:Kd [] ↑w2 v5 l5:=by
  refine Jw.dits gj.1 ?_ od;have H:=OV oQ gj.2;rw[Lh]at H;obtain⟨_,_,_,_,_,hk⟩:=jk gi;have:=Va hk;omega
 have hAp:=QdL m2 (Go.Lg.XQ.I hx gh);rw[gj.2,<-hu]at hAp;rw[<-hu]at hP;refine Qf<|Qj<|Qa<|Qz<|hAp.Y ?_;rintro r7 w3 ⟨hf,v7,l7,rfl,m3,hR⟩;have hD:=gh.D hf;refine Qa<|QW U U<|QW U U<|x Qi<|Qb<|Qd<|Qj<|Zx U U<|xe<|QO rfl (λhy=>?_) (λhy=>?_)
 ·rw[OU hy]at V;rw[V,OU hy]at O;refine Qc<|x (Qx Z)<|Qa<|QK ZU ((hw.I hC).I hf) oC λw4 hS m4=>Qb<|Qh ⟨[sT ZU,sS EI.1],⟨Yl m4,U,Z⟩,bad _ w3 w4 O hy hD hS⟩
 rw[OT hy]at V;obtain⟨hR,z3⟩:=hR (Lp.1 hy);have hD3:Kd [] ↑w3 v7 l7:=Jw.dits m3 oa od;have m5:q.c.V.ev=q.c.ev:=rfl;rw[m5]at V;refine Qf<|Qj<|Qz<|(VA (h.I hD) ess hZ).Y ?_;rintro _ wb ⟨rfl,hT⟩;have hCe:=Qdg (ga.c.I (hD.D hT)).ev (hD3.I hT) (λq hq=>hP q (by rw[<-hR];exact hq));rw[hR]at hCe;refine Zf (J8 q.c.ev EI.2) λDC m6=>?_;rw[m6]at V hCe;refine x (Qbn 45 0 q.c.cells underlying129 U U U)<|x (zj 40 0 underlying45 U U U)<|Qa<|Qz<|hCe.Y ?_;rintro r9 w4 ⟨hS,J,rfl,m7,hU⟩;refine Qa<|QW U U<|QW U U<|QM Z8 λb8 w5 m8 m9 pa=>QK J.cells pa m7 λw6 pc kc =>
  Qb ?_
 have gk:sX w4 w6:=m8.O pc m9;have ke:=(hT.D hS).D gk;have gl:=hD.D ke;have z4:=hT.size;have z5:=hD.size;have hz4:=hS.size;have hz46:=gk.size;have gm:=((hw.I hC).I hf).I ke;refine Qd<|Qj<|Zx U U<|xe<|QO rfl (λhz=>?_) (λhz=>?_)
 ·rw[OU hz]at V;rw[V,OU hz]at O;refine Qc<|x (Qx Z)<|Qa<|QK ZU gm oC λS hi pd=>Qb<|Qh ⟨[sT ZU,sS DC.1],⟨Yl pd,U,Z⟩,bad _ w6 S O hz gl hi⟩
 rw[OT hz]at V;have hU:=hU (Lp.1 hz);have gn:=hU.1;have kf:ZI (Y::L) ↑w6 J:=(hU.2 (Y::L) λb G=>by
  rcases Lj.1 G with rfl|G
  ·have:=hC.size;have:=hf.size;omega
  have:=hL b G;omega).I gk
 have hCk:=Xl kf;rw[gn]at hCk;refine Qf<|Qd<|Qc<|QT kc U U<|Qz<|hCk.Y ?_;rintro r13 S ⟨rfl,hi⟩;have hl:=gl.D hi;have hz7:=hi.size;refine Qb<|Qj<|Zx U U<|xe<|QO rfl (λhF=>?_) (λhF=>?_)
 ·rw[OU hF]at V;rw[V,OU hF]at O;refine Qc<|x (Qx Z)<|Qa<|QK ZU (gm.I hi) oC λw8 hh go=>Qb<|Qh ⟨[sT ZU,sS (Zj DC.2)],⟨Yl go,U,Z⟩,bad _ S w8 O hF hl hh⟩
 rw[OT hF]at V;rw[V,OT od]at O;rw[V]at hQ;refine Qf ?_;have hz06:=gl.size;have gp:∀b∈Y::L,b<S.heap.size:=λb G=>by
  rcases Lj.1 G with rfl|G
  ·have:=hC.size;have:=hf.size;omega
  have:=hL b G;omega
 have kg:=kf.I hi;have pf:jS (Y::L) ↑S q.vp q.ps:=Go.Lg.XQ.I (Go.Lg.XQ.up ga.p λb G=>by
  rcases Lj.1 G with rfl|G
  ·exact .inr gb
  exact .inl G) hl
 have pg:sX S { S with drawn:=S.drawn+1 }:=O5.C _ _
 refine Zf (Jg DC.2 (q.ps.map (·.pt)) (m.ss.length:Int)) λE2 kh=>?_;rw[kh]at O;refine QX (α:=LV×LV×Int×Nat×Nat) [(63,77),(7,7),(9,11)] (λz=>[(9,pS z.2.2.2.1),(10,pS z.2.2.2.2),(11,sS z.2.2.1),(7,sS E2)]) (λz w'=>sX S w'/\(↑S<=z.2.2.2.1/\QZ ↑w' z.2.2.2.1 129 z.1)/\(↑S<=z.2.2.2.2/\QZ ↑w' z.2.2.2.2 60 z.2.1)/\(E2=0->∃vo qs p,z.1=[J.ve,J.vc,J.vr,J.vx,J.vk,vo]/\z.2.1=Q0 p/\z.2.2.1=(p.k2.length:Int)/\qs.map (·.pt)=VO DC.2 (q.ps.map (·.pt)) (m.ss.length:Int)/\p.rp=YN DC.2 (q.ps.map (·.pt)) (m.ss.length:Int)/\jS (Y::L) ↑w' vo qs/\∀N:LN,(∀b∈N,b<↑S)->Jt N ↑w' p)) om ?_ ?_
 ·refine Qk4 (α:=LV×LV×Int) (sX S) [oE 0,oE 1,oE 4,oE 5,oE 6,oE 7,oE 8] [oF 2,oE 3,oF 9,oE 10,oE 11,oE 12,oE 13,oE 14] 15 9 16 10 [oF 17,oF 18,oE 19,oE 20] []
   [(63,77)] [(9,10),(63,63),(66,67),(73,77)] (λz=>[(74,sT z.1),(75,sT z.2.1),(76,sS z.2.2),(77,sS E2)])
   (λz own w'=>(z.1.length=6/\Zb z.1/\z.2.1.length=3/\Zb z.2.1)/\(E2=0->∃vo qs p,z.1=[J.ve,J.vc,J.vr,J.vx,J.vk,vo]/\z.2.1=Q0 p/\z.2.2=(p.k2.length:Int)/\qs.map (·.pt)=VO DC.2 (q.ps.map (·.pt)) (m.ss.length:Int)/\p.rp=YN DC.2 (q.ps.map (·.pt)) (m.ss.length:Int) /\
    (∀N:LN,(∀b∈N,b∈Y::L\/(↑S<=b/\b∉own))->jS N ↑w' vo qs)/\∀N:LN,(∀b∈N,b<↑S\/b∉own)->Jt N ↑w' p))
   (λv w'=>∃b,v=pS b/\↑S<=b/\QZ ↑w' b 129 z6) (λv w'=>∃b,v=pS b/\↑S<=b/\QZ ↑w' b 60 ZU) mixed om oe om U U pg od ?_ ?_ ?_ ?_ ?_
  ·rintro v own wa wb ⟨b,rfl,G,hB⟩ hs hn;exact⟨b,U,G,hB.J hs (hn b ou)⟩
  ·rintro v own wa wb ⟨b,rfl,G,hB⟩ hs hn;exact⟨b,U,G,hB.J hs (hn b ou)⟩
  ·rintro z own wa wb ⟨H,h2⟩ hs;refine⟨H,λh0=>?_⟩;obtain⟨vo,qs,p,e1,e2,e3,e4,e5,e6⟩:=h2 h0;exact⟨vo,qs,p,e1,e2,e3,e4,e5,λN hN=>Go.Lg.XQ.I (e6.1 N hN) hs,λN hN=>(e6.2 N hN).I hs⟩
  ·rintro⟨us,ur,n⟩ g own wz v u ⟨⟨i1,i2,i3,i4⟩,i5⟩ gq ⟨b9,rfl,ho,hG⟩ ⟨hp,rfl,h5,h6⟩ ph pj pm;have n9:=(ph b9 ou).1;have n10:=(pj hp ou).1;have ki:b9≠hp:=λe=>pm b9 ou (by rw[e];simp[ow]);refine pk<|Zv (us:=us) hG U U i1 U i2 λw8 hh gr=>⟨gq.O hh ho,?_⟩;refine pk<|Zv (us:=ur) (h6.J hh (by simp only[oJ];exact λe=>ki e.symm)) U U i3 U i4 λw9 hH pn=>⟨(gq.O hh ho).O hH h5,?_⟩;refine p ZG<|p ZG<|pe ?_;refine⟨(us,ur,n,b9,hp),oD,(gq.O hh ho).O hH h5,⟨ho,gr.J hH (by simp only[oJ];exact ki)⟩,⟨h5,pn⟩,λh0=>?_⟩;obtain⟨vo,qs,p,e1,e2,e3,e4,e5,e6⟩:=i5 h0;have e7:=e6.1 (b9::hp::Y::L) λb G=>by
    rcases Lj.1 G with rfl|G
    ·exact .inr ⟨ho,n9⟩
    rcases Lj.1 G with rfl|G
    ·exact .inr ⟨h5,n10⟩
    exact .inl G
   refine⟨vo,qs,p,e1,e2,e3,e4,e5,Go.Lg.XQ.up (Go.Lg.XQ.st e7 ((hh.Y od).Q (hH.Y od))) (λb G=>.inl (by
    rcases Lj.1 G with rfl|G
    ·simp
    simp[G])),λN hN=>?_⟩
   have e8:=e6.2 (b9::hp::N) λb G=>by
    rcases Lj.1 G with rfl|G
    ·exact .inr n9
    rcases Lj.1 G with rfl|G
    ·exact .inr n10
    exact .inl (hN b G)
   exact(e8.st ((hh.Y od).Q (hH.Y od))).up (λb G=>.inl (by simp[G]))
  refine pq (λ_ hc=>Zu ((kc.I hi).I hc) U U)<|p Qv<|p Qv<|p (Yt U)<|p (QG U)<|pq (λ_ hc=>Qk ((hB.I hl).I hc) U U)<|p (λ_=>Yo (mj.I hl) U)<|pe ⟨λg wf gs=>flA z6 gs,λg wf gs=>flA ZU gs,?_⟩;refine f2k λx0 T c0=>xg<|(VA ((h.I hl).I c0) ess hZ).Y ?_;rintro _ y0 ⟨rfl,kj⟩;refine⟨(c0.D kj),[],kj,(λb G=>by cases G),?_⟩;refine Ul (λ_=>zj 127 5 underlying129 U U U)<|?_;refine f2k λx1 p1 c1=>?_;have hN:=Qao (v:=(m.ss.length:Int)) (kg.I c1) (L':=Ut ↑S ↑x1++(Y::L)) (Go.Lg.XQ.I (Go.Lg.XQ.up pf λb G=>by
   rcases Lc.1 G with G|G
   ·exact .inr (Zw.1 G).1
   ·exact .inl G) c1) (λb G=>by
   have:=c1.size;rcases Lc.1 G with G|G
   ·exact(Zw.1 G).2
   have:=gp b G;omega) mh ((ma.I hl).I c1)
  rw[gn,kh]at hN;refine xg<|hN.Y ?_;rintro _ y1 ⟨kk,us,ur,n,rfl,po,pp,pu,pw,pz⟩;refine⟨c1.D kk,Ut ↑x1 ↑y1,kk.any,λb G=>.inr (Zw.1 G),?_⟩;refine Ul Qv<|Ul (λ_=>Zi U U)<|Ul (λ_=>Zi U U)<|Ul (λ_=>Zi U U)<|Ul (λ_=>Zi U U)<|f2e ?_;refine⟨(us,ur,n),oD,⟨po,pp,pu,pw⟩,λh0=>?_⟩;obtain⟨vo,qs,p,e1,e2,e3,e4,e5,e6,e7⟩:=pz h0;have kn:∀b,↑S<=b->b∉Ut ↑x1 ↑y1->b<↑x1\/↑y1<=b:=λb H hn=>by
   rcases Ns b ↑x1 with h2|h2
   ·exact .inl h2
   rcases Ns b ↑y1 with h3|h3
   ·exact OW (Zw.2 ⟨h2,h3⟩) hn
   exact .inr h3
  refine⟨vo,qs,p,e1,e2,e3,e4,e5,λN hN=>Go.Lg.XQ.up e6 λb G=>?_,λN hN=>?_⟩
  ·rcases hN b G with H|H
   ·exact .inl (Lc.2 (.inr H))
   exact(kn b H.1 H.2).imp (λh2=>Lc.2 (.inl (Zw.2 ⟨H.1,h2⟩))) id
  refine(e7 (N.filter λb=>decide (b<↑x1)) λb G=>OY (L6.1 G).2).up λb G=>?_;rcases Ns b ↑S with H|H
  ·exact .inl (L6.2 ⟨G,OX (LQ H c1.size)⟩)
  exact(kn b H ((hN b G).resolve_left (Nat.not_lt.2 H))).imp (λh2=>L6.2 ⟨G,OX h2⟩) id
 rintro⟨us,ur,n,b9,hp⟩ g wA ⟨gt,⟨ho,hG⟩,⟨h5,h6⟩,hg⟩;simp only[]at ho hG h5 h6 hg;have h7:=hl.D gt;have gu:=(gm.I hi).I gt;refine Qd<|Qj<|Zx U U<|xe<|QO rfl (λgv=>?_) (λgv=>?_)
 ·refine Qc<|x (Qx Z)<|Qa<|QK ZU gu oC λw8 hh go=>Qb<|Qh ⟨[sT ZU,sS E2],⟨Yl go,U,Z⟩,bad _ wA w8 O gv h7 hh⟩
 have ko:=Lp.1 gv;refine Qf<|Exists.elim (hg ko) λvo p2=>Exists.elim p2 λqs p3=>Exists.elim p3 λT hr=>?_;have e1:=hr.1;have e2:=hr.2.1;have en:n=(T.k2.length:Int):=hr.2.2.1;have eqs:=hr.2.2.2.1;have erp:=hr.2.2.2.2.1;have p4:=hr.2.2.2.2.2.1;have gw:=hr.2.2.2.2.2.2;rw[e1]at hG;rw[e2]at h6;have kq:=hB.I h7;have z0A:=h7.size;have msb:m.b∈m.own:=Lq;have mvs:∀b∈ob m.vs,b∈m.own:=λb G=>Lk _ (Lc.2 (.inl G));have mvr:∀b∈ob m.vr,b∈m.own:=λb G=>Lk _ (Lc.2 (.inr G));have nown:∀b,↑w<=b->b∉m.own:=λb H G=>ov (h.lt b G)
 have n4:=nown Y gb;have n9:=nown b9 oa;have n10:=nown hp oa;have gx:∀b∈[m.b],b∈m.own:=λb G=>by rw[Lb.1 G];exact msb
 have kr:zJ (Y::L) ↑wA ⟨J,vo,qs⟩:=⟨kg.I gt,p4⟩;have gy:=gw [] od;have hrl2:=gy.a2.le;have drA:sX wA { wA with drawn:=wA.drawn+1 }:=O5.C _ _
 refine Qd<|Zz (ob m.vs) (YW 0 11 [6,7,10])<|p Qv<|p Qv<|p (Yt U)<|p (QG U)<|pq (λ_ hc=>Qk (kq.J hc h.d1) U U)<|pq (λ_ hc=>Zu (hG.J hc (λI=>n9 (mvs _ I))) U U) <|
  pk<|Za [Y7 ⟨J,vo,qs⟩] λb88 wJ kt hb88 p5=>⟨(drA.D kt).any,?_⟩
 have h8:=drA.D kt;refine pk<|Jc (m:=1) (news:=Y7 ⟨J,vo,qs⟩) (L:=[]) (Ql h.rs (h7.D h8)) U U U (p5.at od) (Zb.all kr.ones) (show m.ss.length+1<=1073741824 by omega) (Lo _) λha wK gz hI p6=>⟨h8.any.Q hI,?_⟩;have p7:QZ ↑wK m.b TS _:=(kq.I h8).J hI h.d1;refine p (Yt U)<|p (QG U)<|pkk<|Qu (u:=ha) p7 U U (LZ U) (Qp gz) λwB hW p8=>pe ?_;have ku:QZ ↑wB m.b TS [ha,m.vr,sS m.made]:=p8;have sAB:O5 m.own wA wB:=(h8.any.Q (hI.Y mvs)).Q (hW.Y gx);have p9:wB.ownsRow 0 60 3 m.vr m.rs.length (m.rs.flatMap Q0):=Qe (Qe (Ql h.rr (h7.D h8)) hI λb G I=>h.d3 b I G) hW λb G I=>h.d2 (Lb.1 I ▸ G);have drB:sX wB { wB with drawn:=wB.drawn+1 }:=O5.C _ _
 have qc:=h6.J sAB n10;refine Qd<|Zz (ob m.vr) (YW 0 11 [6,7,10])<|p Qv<|p Qv<|p (Yt U)<|p (QG U)<|pq (λ_ hc=>Qk (ku.J hc h.d2) U U)<|pq (λ_ hc=>Zu (qc.J hc (λI=>n10 (mvr _ I))) U U) <|
  pk<|Za [Q0 T] λb98 wL kv hb98 gr=>⟨(drB.D kv).any,?_⟩
 have h9:=drB.D kv;refine pk<|Q2 (m:=1) (news:=Q0 T) (L:=[]) (Ql p9 h9) U U U (gr.at od) (Zb.all gy.ones) oa (Lo _) λhe wM kw hX qf=>⟨h9.any.Q hX,?_⟩;have ql:QZ ↑wM m.b TS _:=(ku.I h9).J hX h.d2;refine p (Yt U)<|p (QG U)<|pkk<|Qu (u:=he) ql U U (LZ U) (Qp kw) λwN g0 qm=>pe ?_;have kx:QZ ↑wN m.b TS [ha,he,sS m.made]:=qm;have sBN:O5 m.own wB wN:=(h9.any.Q (hX.Y mvr)).Q (g0.Y gx);refine Qj<|Qa<|Yd U<|Qo U kx U U<|Qa<|x (XX (a:=m.made) (b:=n) U U ⟨oa,oa⟩)<|Yd U<|x (KC U) <|
  Qn<|Qu (u:=sS (m.made+n)) kx U U (LZ U) U λwO g2 qo=>xe ?_
 have q0:QZ ↑wO m.b TS [ha,he,sS (m.made+n)]:=qo;have sAO:O5 m.own wA wO:=(sAB.Q sBN).Q (g2.Y gx);refine Qc<|QT (h6.J sAO n10) U U<|QK (Q0 T) (gu.J sAO n4) gy.ones λwP hJ q1=>Qb<|Qh ⟨[sT (Q0 T),sS 0],⟨Yl q1,U,Z⟩,?_⟩;have kz:E=0:=O.D ko;have l4:=gu.lt;have zAJ:=h8.size;have zK:=hI.size;have zB:=hW.size;have zBL:=h9.size;have hK:∀b∈ob ha,b∈ob m.vs\/↑wA<=b:=λb G=>(p6 b G).imp id λH=>LH zAJ H;have q2:∀b∈ob ha,b<wB.heap.size:=λb G=>ov (Qg gz b G).2
 have hO:∀b∈ob he,b∈ob m.vr\/↑wB<=b:=λb G=>(qf b G).imp id λH=>LH zBL H;have zAB:wA.heap.size<=wB.heap.size:=oa
 have lmb:=h.lt _ msb;have k0:∀b∈ob ha,b∉ob m.vr:=λb G I=>(hK b G).elim (λH=>h.d3 b H I) λH=>ov (h.lt b (mvr b I))
 have k4:m.b∉ob ha:=λI=>(hK _ I).elim h.d1 λH=>oa
 have k5:m.b∉ob he:=λI=>(hO _ I).elim h.d2 λH=>oa
 have d3:∀b∈ob ha,b∉ob he:=λb G I=>(hO b I).elim (k0 b G) λH=>ov (q2 b G)
 have q3:∀b∈ob ha,b∉[Y]:=λb G I=>by
  rw[Lb.1 I]at G;exact(hK _ G).elim (λH=>n4 (mvs _ H)) λH=>oa
 have q4:∀b∈ob he,b∉[Y]:=λb G I=>by
  rw[Lb.1 I]at G;exact(hO _ G).elim (λH=>n4 (mvr _ H)) λH=>oa
 have g3:∀b∈ob ha,b∉[m.b]:=λb G I=>k4 (Lb.1 I ▸ G);have k6:∀b∈ob he,b∉[m.b]:=λb G I=>k5 (Lb.1 I ▸ G);have q5:wP.ownsRow 0 129 6 ha (m.ss++[(⟨J,vo,qs⟩:jE)]).length ((m.ss++[(⟨J,vo,qs⟩:jE)]).flatMap Y7):=by
  have H:wK.ownsRow 0 129 6 ha (m.ss++[(⟨J,vo,qs⟩:jE)]).length ((m.ss++[(⟨J,vo,qs⟩:jE)]).flatMap Y7):=by
   rw[Ll,LA];simpa using gz
  exact Qe (Qe (Qe (Qe (Ql (Qe H hW g3) h9) hX k0) g0 g3) g2 g3) hJ q3
 have q6:wP.ownsRow 0 60 3 he (m.rs++[T]).length ((m.rs++[T]).flatMap Q0):=by
  have H:wM.ownsRow 0 60 3 he (m.rs++[T]).length ((m.rs++[T]).flatMap Q0):=by
   rw[Ll,LA];simpa using kw
  exact Qe (Qe (Qe H g0 k6) g2 k6) hJ q4
 have sW:O5 m.own w wP:=(h7.any.Q sAO).S hJ λb G=>.inr (by rw[Lb.1 G];exact gb);have sAP:∀M:LN,(∀b∈m.own,b∈M)->O5 (Y::M) wA wP:=λM hM=>(sAO.Y λb G=>Lk _ (hM b G)).Q (hJ.Y od);have j1:∀N:LN,(∀b∈N,b<↑w)->Jt N ↑wP T:=λN hN=>((gw (Y::(m.own++N)) (λb G=>by
  rcases Lj.1 G with rfl|G
  ·exact gp _ Lq
  rcases Lc.1 G with G|G
  ·have:=h.lt b G;omega
  have:=hN b G;omega)).st (sAP (m.own++N) λb G=>Lc.2 (.inl G))).up λb G=>.inl (Lk _ (Lc.2 (.inr G)))
 refine⟨T,by rw[kz];rfl,j1,λh0=>OW kz h0,λ_=>⟨by rw[erp,V],⟨m.b,ha,m.ss++[⟨J,vo,qs⟩],he,m.rs++[T],m.made+n⟩,rfl,?_,sW,?_,?_⟩⟩
 ·have j2:(YN DC.2 (q.ps.map (·.pt)) (m.ss.length:Int)).made.length=T.k2.length:=by rw[<-erp];rfl
  rw[hQ];refine⟨?_,?_,?_,?_⟩
  ·show(m.ss++[_]).map jE.st=_;rw[Lr,ht.1,<-eqs,<-gn];rfl
  ·show(m.rs++[T]).map (·.rp)=_;rw[Lr,ht.2.1,<-erp];rfl
  ·show m.made+n=_;rw[mg,en,<-j2]
  show(s.rs++[_]).length=(s.un++[_]).length;rw[Ll,Ll,ht.2.2.2];rfl
 ·have hM:∀b∈(JT.own ⟨m.b,ha,m.ss++[⟨J,vo,qs⟩],he,m.rs++[T],m.made+n⟩)++L,b∈L\/↑wA<=b:=λb G=>by
   rcases Lc.1 G with G|G
   ·rcases Lj.1 G with rfl|G
    ·exact .inl (h.sub _ msb)
    rcases Lc.1 G with G|G
    ·exact(hK b G).imp (λH=>h.sub b (mvs b H)) id
    exact(hO b G).imp (λH=>h.sub b (mvr b H)) λH=>LH zAB H
   exact .inl G
  have g4:∀b∈(JT.own ⟨m.b,ha,m.ss++[⟨J,vo,qs⟩],he,m.rs++[T],m.made+n⟩)++L,b∈L\/↑w<=b:=λb G=>(hM b G).imp id λH=>LH z0A H;refine Zf ((JT.own ⟨m.b,ha,m.ss++[⟨J,vo,qs⟩],he,m.rs++[T],m.made+n⟩)++L) λM eM=>?_;have j3:∀b∈JT.own ⟨m.b,ha,m.ss++[⟨J,vo,qs⟩],he,m.rs++[T],m.made+n⟩,b∈M:=λb G=>by rw[<-eM];exact Lc.2 (.inl G)
  have g5:∀b∈m.own,b∈M:=λb G=>by rw[<-eM];exact Lc.2 (.inr (h.sub b G))
  rw[eM]at hM g4 ⊢;have k7:∀b∈Y::M,b∈Y::L\/↑wA<=b:=λb G=>by
   rcases Lj.1 G with rfl|G
   ·exact .inl Lq
   exact(hM b G).imp (Lk _) id
  have k8:∀b∈m.own,b∈M\/↑w<=b:=λb G=>.inl (g5 b G);refine⟨⟨TS,q0.J hJ (λI=>n4 (Lb.1 I ▸ msb))⟩,q5,q6,k4,k5,d3,j3,λd hd=>?_,λd hd=>?_⟩
  ·rcases Lc.1 hd with hd|hd
   ·exact Mm.J (zJ.up (h.sA d hd) g4) sW k8
   rw[Lb.1 hd];exact((kr.up k7).st (sAP M g5)).up λb G=>.inl (Lk _ G)
  rcases Lc.1 hd with hd|hd
  ·exact Mm.J (Jt.up (h.rA d hd) g4) sW k8
  rw[Lb.1 hd];exact(((gw (Y::L) gp).up k7).st (sAP M g5)).up λb G=>.inl (Lk _ G)
 intro b G;rcases Lj.1 G with rfl|G
 ·exact .inl msb
 rcases Lc.1 G with G|G
 ·exact(hK b G).imp (mvs b) λH=>LH z0A H
 exact(hO b G).imp (mvr b) λH=>LH z0A (LH zAB H)
theorem QaK (h0:ZM L ↑w va vm ve a):
  QY sV 47 [.agg #[va,sS a.st,vm,ve]] w λr w'=>sX w w'/\∃ua ub uc ud,r=.tuple #[.agg #[ua,ub,uc,ud],sS (JB a)]/\Zb [ua,ub,uc,ud] /\
   (JB a=0->ub=sS (qh (Yk a)).st/\∀L:LN,(∀b∈L,b<↑w)->ZM L ↑w' ua uc ud (qh (Yk a))):=by
 have h:=h0.up (L':=[]) od;refine Zq func47 ?_;refine Qc<|Zl [va,sS a.st,vm,ve] λb1 w1 hn hK ho=>QM K5 λb2 w2 ha hL hc=>Qb ?_;have hp:=hn.D ha;have hM:=hn.size;refine Qd<|Qc<|QT (ho.I ha) U U<|Qz<|(Js (h.I hp)).Y ?_;rintro r3 w3 ⟨rfl,J⟩;refine Qb ?_;have he:=hp.D J;refine Qj<|Zx U U<|xe<|QO rfl (λhf=>?_) (λhf=>?_)
 ·refine Qc<|x (Qx Z)<|Qa<|QK K5 (hc.I J) oD λw4 h5 hg=>Qb<|Qh ⟨[sT K5,sS (JB a)],⟨Yl hg,U,Z⟩,he.O h5 oa,_,_,_,_,U,oD,λe=>OW e hf⟩
 have hq:JB a=0:=Lp.1 hf;have hr:=(Z4 a).1 hq;have hs:=QhF hr;have hO:=hs.st1;refine Qf<|Qc<|QT ((ho.I ha).I J) U U<|Qz<|(JJ (h.I he) hr).Y ?_;rintro r5 w5 ⟨hh,ra,rm,re,rfl,hA⟩;have I:=hA [] od;have hP:=J.size;have hQ:=hh.size;refine QM K5 λG w6 h6 ht hu=>QK [ra,sS (Yk a).st,rm,re] hu ⟨I.al.one,U,I.mr.one,I.ed.one,Z⟩ λw7 h7 h8=>xe ?_;refine Qc<|QQ U<|Qn<|Qu (j:=2) (u:=Zm) h8 U U od rfl λS h9 hj=>xe ?_;have hk:sX w5 S:=(h6.O h7 ht).O h9 oa;have hR:=hu.lt;have hS:=hj.lt;have hT:=hc.lt;refine Qd<|Qc<|Qo U hj U U<|Qa<|xe<|Q7 (α:=Nat×O2) [(6,6),(18,27)] (λz=>[(18,sS z.1)]) (λz w'=>(z.1:Int)<=(Yk a).st/\O5 [G] S w'/\(∃T,QZ ↑w' G T [ra,sS (Yk a).st,z.2,re])/\Qq 3 ↑S w' z.2 (Vo z.1)) (λz=>(Yk a).st.toNat - z.1) (0,Zm) La ⟨hs.st0,O5.Z _ _,⟨_,hj⟩,QE _ _ _ _⟩ ?_;rintro⟨i,v⟩ g w9 ⟨hi,V,⟨T5,hl⟩,O⟩;have hU:=V.size;refine Zo rfl U (λhv=>?_) (λhv=>?_)
 ·refine Qw ?_;have hB:(Yk a).st.toNat=i:=by have hV:¬(i:Int)<(Yk a).st:=hv;omega
  have hw:=Qp O;refine Qc<|QT hl U U<|QK [ra,sS (Yk a).st,v,re] (((hc.I J).I (hh.D hk)).J V oh) ⟨I.al.one,U,hw,I.ed.one,Z⟩ λY H hC=>Qb ?_;have hD:sX w Y:=(((he.D hh).D hk).O V oa).O H oa;refine Qh ⟨[.agg #[ra,sS (Yk a).st,v,re],sS 0],⟨Yl hC,U,Z⟩,hD,ra,_,v,re,by rw[hq];rfl,⟨I.al.one,U,hw,I.ed.one,Z⟩,λ_=>⟨U,λN hN=>?_⟩⟩;have hE:O5 [G,b2] w5 Y:=((hk.any (L:=[G,b2])).Q (V.Y od)).Q (H.Y od);have hX:∀b∈N,b<w.heap.size:=hN;have hF:ZM (G::b2::N) ↑w5 ra rm re (Yk a):=by
   refine(hA (b2::N) (λb E=>?_)).up λb E=>?_
   ·rcases Lj.1 E with rfl|E
    ·have:=J.size;omega
    have:=hX b E;omega
   rcases Lj.1 E with rfl|E
   ·exact .inr ht
   exact .inl E
  have hy:=(hF.st (hE.Y od)).up (L':=N) λb E=>.inl (by simp[E]);have hG:Qq 3 ↑S Y v (Vo i):=Qe O H (λb E hm=>by have:=(Qg O b E).1;rw[Lb.1 hm]at this;omega);refine⟨hy.al,?_,hy.ed⟩;show QL N ↑Y v (Vo (Yk a).st.toNat);rw[hB];exact Qq.ints hG (by rw[Qba];omega) (λb E=>ov (hX b E))
 refine Qf<|Qd<|Qm<|Qj<|Qb ?_;have n5:G∉ob v:=λhm=>ov (Qg O G hm).1
 refine Qs<|Qo U hl U U<|Qa<|Qn<|Za [[sS i]] λhW Y H hY hg=>?_;have hZ:=H.size;refine Qn<|Q2 (news:=[sS i]) (L:=[]) (Ql O H) U U U (hg.at od) oq (by rw[Qba];omega) oa λhz hH h1 h2 ga=>?_;refine QQ rfl<|Qn<|Qu (j:=2) (u:=hz) ((hl.I H).J h2 n5) U U od (Qp h1) λgb h3 hI=>xe ?_;refine Qs<|QH U U<|Qa<|xe ?_;have hJ:O5 [G] S hH:=(V.D H).S h2 (λb E=>.inr (Qg O b E).1);refine⟨(i+1,hz),og,La,og,hJ.Q h3,⟨T5,hI⟩,?_⟩;simp only[];rw[Qca];have h4:=Qq.snoc h1;exact Qe h4 h3 (λb E hm=>by have:=(Qg h4 b E).1;rw[Lb.1 hm]at this;omega)
section
variable {pS:String}{l:xD}{t':Nat}{x:O3}{k:IntKind}{a b:Int}
theorem QoC (hx:ev f x=.int k a)(E:ev f y=.int k b)(h:a=b):(execOp (ev f) ⟨d,.binOp .eql t x y t',ty,pS,af,gd⟩).run P w=.ok (.value (.bool true)) w:=by
 rw[QR hx E,OX h]
end
def jl (y:Yi)(k:Nat):Yi :=
 if y.kd=3 then{ y with ls:=y.ls.set (k % y.ls.length) ((y.ls.getD (k % y.ls.length) (.empty,0)).1,((k % 3:Nat):Int)) }
 else if y.kd=4 then{ y with bd:=((k % 7:Nat):Int) - 3 }
 else if JB y.a=0/\k % 2=0 then{ y with a:=qh (Yk y.a) }else{ y with a:={ y.a with mr:=[] } }
theorem QeD (h0:Jl L ↑w q){k:Nat}(hk:k<256)(gg:q.kd=3->0<q.ls.length)(g9:q.ls.length<=1000000)(hL:∀b∈L,b<↑w):
  QY sV 46 [sT (Qt q),sS (k:Int)] w λr w'=>sX w w'/\∃q':DV,r=sT (Qt q')/\q'.it=jl q.it k/\Jl L ↑w' q':=by
 have h:=h0;have G:=h.ones;refine Zq func46 ?_;refine Qc<|Zl (Qt q) λb2 w1 hH hj hw=>QM (Qt ⟨0,.empty,⟨Zm,Zm,Zm,⟨[],0,[],[]⟩⟩,Zm,[],Zm,[],0⟩) λb4 w2 hl ka hh=>xe ?_;have T:=hH.D hl;have Y:=hw.I hl;have kb:=hH.size;have hq:b2≠b4:=by have:=hw.lt;omega
 refine Qd<|Qc<|Qo U Y U U<|xe<|Qm<|Qc<|x (QR U U)<|Qb<|QO U (λhy=>?_) (λhy=>?_)
 ·have hr:q.kd=3:=hy;have hn:=gg hr;have gh:(q.ls.flatMap ZN).length=q.ls.length*2:=h.ls.arr.1;rcases h.ls.arr.2.2 with⟨_,e2⟩|⟨a,c,h1,h2,h3⟩
  ·omega
  refine Qc<|Qn<|XZ λhI w3 V gi hJ=>Qo U (Y.I V) U U<|Qn<|Q2 (base:=↑w) (hJ.own (n:=0) (sz:=2) U oa (ov T.size)) U (show Go.Lg.ev _ _=_ from h1) h.ls.arr.1 (h3.I (T.D V)) (by
   intro u hu;obtain⟨p,_,O⟩:=Me.1 hu;rcases Lj.1 O with rfl|O
   ·rfl
   rw[Lb.1 O];rfl) oa (oy hJ.lt T.size) λv4 w4 S hz hK=>Qb ?_
  have h6:sX w2 w4:=V.O hz gi;have hs:=T.D h6;have H:k % q.ls.length<q.ls.length:=NH _ hn;have hM:q.ls.getD (k % q.ls.length) (.empty,0)=q.ls[k % q.ls.length]'H:=by simp[oR,H]
  have S:w4.ownsRow ↑w 145 2 v4 q.ls.length (q.ls.flatMap ZN):=by
   have E:=S;rw[LT,Mc]at E;exact E
  refine Exists.elim (Jb S hn) λg hg=>Exists.elim hg λcap ha=>?_;rw[ha]at S;refine Exists.elim (JD S).2 λcur hc=>?_;have kc:=(JD S).1;have ht:=hc.2.1;have gj:↑w<=g:=(Qg S g (by simp[ob])).1;refine Qj<|Qa<|Qa<|QF (QB (L:=[]) S oa od) (show Go.Lg.ev _ _=_ from ha)<|x (JW (a:=(k:Int)) (b:=(q.ls.length:Int)) rfl rfl oa oa)<|Qa<|x (JW (a:=(k:Int)) (b:=3) rfl rfl oa oa) <|
   x (ZA (i:=k % q.ls.length) (show Go.Lg.ev _ _=_ from ha) (show Go.Lg.ev _ _=_ from OV sS (Int.natCast_emod ..).symm) H)<|QQ U<|Qn<|Qu (j:=0+k % q.ls.length*2+1) (u:=sS ((k % 3:Nat):Int)) hc.1 U (show Go.Lg.ev _ _=_ from OV sS (Int.natCast_emod k 3).symm) oa U λw5 h9 hN=>xe ?_
  rw[LT]at hN;refine Zf (q.ls.set (k % q.ls.length) ((q.ls.getD (k % q.ls.length) (.empty,0)).1,((k % 3:Nat):Int))) λhe hv=>?_;have hO:(q.ls.flatMap ZN).set (k % q.ls.length*2+1) (sS ((k % 3:Nat):Int))=he.flatMap ZN:=by
   rw[<-hv];refine xH ZN 2 Qd0 q.ls _ 1 H _ _ ol ?_;rw[hM];rfl
  have gk:he.length=q.ls.length:=by rw[<-hv,Mb]
  have gl:w5.ownsRow ↑w 145 2 (sL g q.ls.length cap) q.ls.length (he.flatMap ZN):=by
   refine VV S (Lx _) hN (by rw[Mb];exact ht) ?_ (by rw[<-hO,Mb];exact gh);rw[<-hO,<-hc.2.2,List.take_set]
  have gm:g∉L:=λH=>ov (hL g H)
  have n2g:b2≠g:=λe=>by
   have E:=hw.lt;rcases hK g (by rw[ha];simp[ob])with J|J
   ·have h8:g=hI:=by simpa[ob]using J
    have:=hl.size;omega
   have:=hl.size;have:=V.size;omega
  have n4g:b4≠g:=λe=>by
   have E:=hh.lt;rcases hK g (by rw[ha];simp[ob])with J|J
   ·have h8:g=hI:=by simpa[ob]using J
    omega
   have:=V.size;omega
  have gn:=QB (L:=b2::b4::L) gl oa (λb I H=>by
   rw[Lb.1 (show b∈[g] from I)]at H;rcases Lj.1 H with E|H
   ·exact n2g E.symm
   rcases Lj.1 H with E|H
   ·exact n4g E.symm
   exact gm H)
  refine Qs<|Qa<|QQ U<|Qn<|Qu (u:=sL g q.ls.length cap) ((Y.I h6).J h9 (oA n2g)) rfl (show Go.Lg.ev _ _=_ from ha) (LZ rfl) rfl λw6 hA go=>xe ?_;refine Qc<|QT go U U<|QK (Qt { q with vl:=sL g q.ls.length cap,ls:=he }) (((hh.I h6).J h9 (oA n4g)).J hA (oA hq.symm)) ⟨rfl,rfl,G.2.2.1,rfl,G.2.2.2.2.1,G.2.2.2.2.2.1,rfl,G.2.2.2.2.2.2.2.1,rfl,Z⟩ λw7 hP gp=>xe ?_
  have gq:↑w<=b4:=oa
  have hQ:=((hs.O h9 gj).O hA hj).O hP gq;refine Qh ⟨[_],⟨Yl gp,Z⟩,hQ,{ q with vl:=sL g q.ls.length cap,ls:=he },U,?_,?_⟩
  ·show({ q.it with ls:=he }:Yi)=jl q.it k
   unfold jl;rw[OU (show q.it.kd=3 from hr),<-hv];rfl
  have J:=h.I hQ;refine⟨J.nm,J.a,⟨by rw[gk];exact(((gn.st (hA.Y od)).st (hP.Y od)).up (L':=L) (λb I=>.inl (Lk _ (Lk _ I)))),λp O=>?_⟩,J.ts⟩;rw[<-hv]at O;rcases MU O with O|O
  ·exact J.ls.nm p O
  have h8:=J.ls.nm _ (Lm H);rw[O,hM];exact h8
 have hB:¬q.kd=3:=hy;refine Qc<|x (QR U U)<|Qb<|QO U (λhC=>?_) (λhC=>?_)
 ·have hr:q.kd=4:=hC;have gr:(k:Int) % 7 - 3=((k % 7:Nat):Int) - 3:=oa
  refine Qs<|Qa<|x (JW (a:=(k:Int)) (b:=7) U U oa oa)<|x (XR U U ⟨oa,oa⟩)<|QQ U<|Qn<|Qu (u:=sS (((k % 7:Nat):Int) - 3)) Y U (show Go.Lg.ev _ _=_ from OV sS gr) (LZ U) U λw3 V gs=>xe ?_;refine Qc<|QT gs U U<|QK (Qt { q with bd:=((k % 7:Nat):Int) - 3 }) (hh.J V (oA hq.symm)) ⟨rfl,rfl,G.2.2.1,rfl,G.2.2.2.2.1,G.2.2.2.2.2.1,G.2.2.2.2.2.2.1,G.2.2.2.2.2.2.2.1,rfl,Z⟩ λw4 hz gt=>xe ?_
  have hs:=(T.O V hj).O hz oa;refine Qh ⟨[_],⟨Yl gt,Z⟩,hs,{ q with bd:=((k % 7:Nat):Int) - 3 },U,?_,?_⟩
  ·show({ q.it with bd:=((k % 7:Nat):Int) - 3 }:Yi)=jl q.it k
   unfold jl;rw[OT (show ¬q.it.kd=3 from hB),OU (show q.it.kd=4 from hr)]
  have h4:=h.I hs;exact⟨h4.nm,h4.a,h4.ls,h4.ts⟩
 have hR:¬q.kd=4:=hC;refine Qc<|QQ U<|x (Zh (us:=[q.p.va,sS q.p.a.st,q.p.vm,q.p.ve]) Y U U U)<|Qz<|(QaK (h.a.I T)).Y ?_;rintro ke gu ⟨gv,ua,ub,uc,ud,rfl,hf,ht⟩;refine Qa<|QW U U<|QW U U<|QM K5 λb6 kf gw gx gy=>QK [ua,ub,uc,ud] gy hf λhS gz hD=>Qb ?_;have hT:sX gu hS:=gw.O gz gx;have hE:=gv.D hT;have hU:=T.D hE;have hV:=Y.I hE;have hW:=hh.I hE;refine QX (α:=Unit) [(16,22)] (λ_=>[(22,.bool (decide (JB q.p.a=0/\k % 2=0)))]) (λ_ w'=>w'=hS) om ?_ ?_
 ·refine Qs<|Qa<|xb (QR U U) (λhF=>?_) (λhF=>?_)
  ·have hd:decide ((k:Int) % 2=0)=decide (JB q.p.a=0/\k % 2=0):=by
    refine decide_eq_decide.2 ⟨λE=>⟨hF,oa⟩,λE=>oa⟩
   refine Qa<|Qa<|x (JW (a:=(k:Int)) (b:=2) U U oa oa)<|x (QR U U)<|QC U<|xe ?_;exact⟨(),⟨OV Value.bool hd,Z⟩,U⟩
  refine Qa<|Zt<|QC U<|xe ?_;exact⟨(),⟨OV Value.bool (OZ λE=>hF E.1).symm,Z⟩,U⟩
 rintro _ g hX rfl;refine QO rfl (λhi=>?_) (λhi=>?_)
 ·have hY:=(ht hi.1).1;rw[hY]at hf;have hD:QZ ↑hX b6 66 [ua,sS (qh (Yk q.p.a)).st,uc,ud]:=by rw[<-hY];exact hD
  refine Qs<|QT hD U U<|QQ U<|Qn<|YL (us:=[ua,sS (qh (Yk q.p.a)).st,uc,ud]) (cs':=Qt { q with p:=⟨ua,uc,ud,qh (Yk q.p.a)⟩ }) hV U U U (LZ U) hf U λkg hG g0=>xe ?_
  refine Qc<|QT g0 U U<|QK (Qt { q with p:=⟨ua,uc,ud,qh (Yk q.p.a)⟩ }) (hW.J hG (oA hq.symm)) ⟨rfl,rfl,hf.1,rfl,hf.2.2.1,hf.2.2.2.1,G.2.2.2.2.2.2.1,G.2.2.2.2.2.2.2.1,rfl,Z⟩ λg2 hZ g3=>xe ?_
  have ga:=(hU.O hG hj).O hZ oa;refine Qh ⟨[_],⟨Yl g3,Z⟩,ga,{ q with p:=⟨ua,uc,ud,qh (Yk q.p.a)⟩ },U,?_,?_⟩
  ·show({ q.it with a:=qh (Yk q.p.a) }:Yi)=jl q.it k
   unfold jl;rw[OT (show ¬q.it.kd=3 from hB),OT (show ¬q.it.kd=4 from hR),OU (show JB q.it.a=0/\k % 2=0 from hi)];rfl
  have E:=h.I ga;have kh:=T.size;have g4:=(ht hi.1).2 ([b2,b4]++L) (by
   intro b I;rcases Lc.1 I with I|I
   ·rcases Lj.1 I with rfl|I
    ·exact Y.lt
    rw[Lb.1 I];exact hh.lt
   have:=hL b I;omega)
  have g5:O5 ([b2,b4]++L) hX g2:=(hG.Y od).Q (hZ.Y od);exact⟨E.nm,((g4.I hT).st g5).up (λb I=>.inl (Lc.2 (.inr I))),E.ls,E.ts⟩
 refine Qs<|QQ U<|QQ U<|Qn<|Qu (u:=Zm) hV U U (LZ U) U λki gb g6=>xe ?_;refine Qc<|QT g6 U U<|QK (Qt { q with p:=⟨q.p.va,Zm,q.p.ve,{ q.p.a with mr:=[] }⟩ }) (hW.J gb (oA hq.symm)) ⟨rfl,rfl,G.2.2.1,rfl,rfl,G.2.2.2.2.2.1,G.2.2.2.2.2.2.1,G.2.2.2.2.2.2.2.1,rfl,Z⟩ λkj g7 g8=>xe ?_
 have gc:=(hU.O gb hj).O g7 oa;refine Qh ⟨[_],⟨Yl g8,Z⟩,gc,{ q with p:=⟨q.p.va,Zm,q.p.ve,{ q.p.a with mr:=[] }⟩ },U,?_,?_⟩
 ·show({ q.it with a:={ q.it.a with mr:=[] } }:Yi)=jl q.it k
  unfold jl;rw[OT (show ¬q.it.kd=3 from hB),OT (show ¬q.it.kd=4 from hR),OT (show ¬(JB q.it.a=0/\k % 2=0) from hi)]
 have E:=h.I gc;exact⟨E.nm,⟨E.a.al,Zn.nil _ _ _,E.a.ed⟩,E.ls,E.ts⟩
def JP:ByteArray:=⟨#[102,117,114,116,104,101,114]⟩
def Qam:ByteArray:=⟨#[110,101,118,101,114]⟩
def Qan:ByteArray:=⟨#[102,101,119]⟩
def JO:ByteArray:=⟨#[110,111,116,104,105,110,103]⟩
def qK:ByteArray:=⟨#[109,111,114,101]⟩
def Uy (n:ByteArray)(y:Yi)(wh b:Nat):Bool×Yi :=
 if wh % 8=0 then(true,⟨y.kd,y.nm,Vq,[],[],0⟩)
 else if wh % 8=1 then(false,jl y b)
 else if wh % 8=2/\y.kd=1 then(false,⟨2,JP,qh (Yk y.a),[],[],0⟩)
 else if wh % 8=3 then(false,⟨3,Qam,Vq,[(n,((b % 3:Nat):Int))],[],0⟩)
 else if wh % 8=4 then(false,⟨4,Qan,Vq,[],[(n,1)],((b % 3:Nat):Int)⟩)
 else if wh % 8=5 then(true,⟨1,JO,Vq,[],[],0⟩)
 else if wh % 8=6/\y.kd=1 then(false,{ y with nm:=qK })
 else(false,y)
abbrev Qhr:Yi:=⟨0,.empty,Vq,[],[],0⟩
def dMk (c:ZF)(wh a b:Nat):Bool×Yi :=
 if(ZQ c).1=0/\(ZQ c).2≠[]then Uy ((c.co.map (·.nm)).headD .empty) ((ZQ c).2.getD (a % (ZQ c).2.length) Qhr) wh b else(true,Qhr)
abbrev qp:AV:=⟨Zm,Zm,Zm,Vq⟩
theorem Qg0 {N:LN}{c:CL}(hN:∀b∈N,b<↑w)(h0:ZI L ↑w c)(hz:CSz c.V)(hw:0<c.co.length)(gr:∀y∈(ZQ c.V).2,(y.kd=3->0<y.ls.length)/\y.ls.length<=1000000/\(y.kd=1->JB y.a=0)){wh at_ bY:Nat}(kt:wh<256)(ku:at_<256)(gs:bY<256):
  QY sV 13 [c.val,.agg #[.int .u8 (wh:Int),.int .u8 (at_:Int),.int .u8 (bY:Int)]] w λr w'=>sX w w'/\∃e:ZZ,r=sT (ZS e)/\e.e=dMk c.V wh at_ bY/\Jl N ↑w' e.q:=by
 have h:=h0.up (L':=[]) od;refine Zq func13 ?_;refine Qc<|Zl c.cells λb2 w1 h9 kv gt=>Zl [.int .u8 (wh:Int),.int .u8 (at_:Int),.int .u8 (bY:Int)] λb3 w2 h4 kw gu=>QM Qqd λJ w3 hA kx hB=>xe ?_;have hC:=(h9.D h4).D hA;have hW:=gt.I (h4.D hA);have hX:=gu.I hA;refine Qc<|QT hW U U<|Qz<|(yY (h.I hC) hz).Y ?_;rintro r4 w4 ⟨hf,v5,rfl,_,gv⟩;have hY:=hC.D hf;by_cases hi:(ZQ c.V).1=0
 rotate_left
 ·have T:dMk c.V wh at_ bY=(true,Qhr):=by unfold dMk;rw[OT λe=>hi e.1]
  refine Qa<|QW U U<|QW U U<|x Qi<|Qb<|Qd<|QX (α:=Unit) [(16,22)] (λ_=>[(22,.bool true)]) (λ_ w'=>w'=w4) om ?_ ?_
  ·refine Qs<|Qa<|xb (XH U U) (λho=>?_) (λho=>OW ho (λe=>e hi));refine Qa<|Zt<|QC U<|xe ?_;exact⟨(),La,U⟩
  rintro _ g5 w5 rfl;refine QU U (λ_=>?_) (λgw=>by cases gw);have gx:=(h9.D h4).size;refine Qc<|x (Q5 [(0,[.bool true])] ⟨U,U,Z⟩)<|QK (ZS ⟨true,⟨0,.empty,qp,Zm,[],Zm,[],0⟩⟩) (hB.I hf) ⟨U,U,U,U,U,U,U,U,U,U,Z⟩ λw6 gy gz=>xe ?_;exact Qh ⟨[_],⟨Yl gz,Z⟩,hY.O gy oa,⟨true,⟨0,.empty,qp,Zm,[],Zm,[],0⟩⟩,U,T.symm,⟨by show JF .empty;decide,⟨Zn.nil _ _ _,Zn.nil _ _ _,Zn.nil _ _ _⟩,V4.nil,V4.nil⟩⟩
 refine Exists.elim (gv hi) λE hj=>?_;have hZ:E.length=(ZQ c.V).2.length:=by have V:=OV oQ hj.2;rwa [Lh]at V
 have ga:0<E.length/\E.length<=100000:=by
  obtain⟨a,b,_,_,e,hk⟩:=(jk hi);have V:=Va hk;have h2:(ZQ c.V).2.length=_:=OV oQ e;rw[Ll,Lh]at h2;have h3:c.V.co.length=c.co.length:=Lh _;omega
 have h6:Kd [] ↑w4 v5 E:=Jw.dits hj.1 oa od;refine Qa<|QW U U<|QW U U<|x Qi<|Qb<|Qd<|QX (α:=Unit) [(16,22)] (λ_=>[(22,.bool false)]) (λ_ w'=>w'=w4) om ?_ ?_
 ·refine Qs<|Qa<|xb (XH U U) (λho=>OW hi ho) (λho=>?_);refine Qa<|Qa<|QF h6.arr U<|xb (QR U U) (λgb=>OW gb oa) (λgb=>?_);refine QC U<|xe ?_;exact⟨(),La,U⟩
 rintro _ g5 w5 rfl;refine ZO rfl<|Qf ?_;have g0:((at_:Int) % (E.length:Int))=((at_ % E.length:Nat):Int):=(Int.natCast_emod ..).symm;have hn:at_ % E.length<E.length:=NH _ ga.1;refine Qj<|Qo U (hX.I hf) U U<|x (Z6 (k':=.i64) U ⟨oa,oa⟩)<|Qa<|QF h6.arr U<|x (JW (a:=(at_:Int)) (b:=(E.length:Int)) U U oa oa) <|
  xig (g:=Qt) (i:=at_ % E.length) Z1 h6.arr U (show Go.Lg.ev _ _=_ from OV sS g0) hn λkz gc=>?_
 have hr:=Lm hn;have gg:(ZQ c.V).2.getD (at_ % (ZQ c.V).2.length) Qhr=(E[at_ % E.length]'hn).it:=by
  have V:at_ % (ZQ c.V).2.length<(ZQ c.V).2.length:=by rw[<-hZ];exact hn
  rw[show(ZQ c.V).2.getD (at_ % (ZQ c.V).2.length) Qhr=(ZQ c.V).2[at_ % (ZQ c.V).2.length]'V from by simp[oR,V]];have h2:=hj.2;have h3:∀(l:List Yi) (hl:at_ % l.length<l.length),E.map DV.it=l->l[at_ % l.length]'hl=(E[at_ % E.length]'hn).it:=by
   intro l hl e;subst e;rw[Mr];congr 2;rw[Lh]
  exact h3 _ V h2
 refine Zf (E[at_ % E.length]'hn) λq hq=>?_;rw[hq]at gc hr gg;have hD:=h6.each q hr;have hy:=gr q.it (by rw[<-hj.2];exact LP hr);have hE:=hD.ones;refine x (Qr gc U U)<|QM [sS 0,.string .empty,Zm,sS 0,Zm,Zm,Zm,Zm,sS 0] λb7 w7 g2 gh g3=>QK (Qt q) g3 hE λw8 g4 ha=>xe ?_;have hc:sX w5 w8:=g2.O g4 gh;have S:=hY.D hc;have k0:=hD.I hc;refine Zf ((c.co[0]'hw).nm) λfn hF=>?_;have T:dMk c.V wh at_ bY=Uy fn q.it wh bY:=by
  unfold dMk;rw[OU ⟨hi,λe=>by have h5:=ga.1;rw[hZ,e]at h5;exact OW h5 ol⟩,gg];congr 1;rw[<-hF];have hh:∀(l:List IV) (hl:0<l.length),((l.map IV.it).map XD.nm).headD .empty=(l[0]'hl).nm:=λl hl=>by
   cases l with
   | nil=>exact OW hl ol
   | cons a t=>rfl
  exact hh c.co hw
 have gi:JF fn:=by rw[<-hF];exact h.co.nm _ (Lm hw)
 refine Qc<|Qo U (hW.I (hf.D hc)) U U<|xig (g:=QJ) (i:=0) Yv (h.I S).co.arr U U hw λk4 g6=>x (Zd U)<|x (Qy (g6.fld 0 (.string fn) (OV (λb=>some (Value.string b)) hF)) U) <|
  Qb ?_
 have h7:=hX.I (hf.D hc);have Y:=(hB.I hf).I hc;have k5:=hf.size;have k6:=hc.size;have gx:=(h9.D h4).size;have he:↑w<=J:=oa
 have g7:=hB.lt;have k7:=Y.lt;have g8:b7≠J:=oa
 have G:∀k:Nat,((wh:Int) % 8=(k:Int))↔wh % 8=k:=λk=>oa
 have hG:∀b∈J::N,b<w3.heap.size:=λb O=>by
  rcases Lj.1 O with rfl|O
  ·exact g7
  have:=hN b O;have:=hC.size;omega
 have h8:∀b∈[J],b∈J::N:=od
 have gj:∀b∈J::N,b<w8.heap.size:=λb O=>ov (hG b O)
 have hH:Jl (J::N) ↑w8 q:=by
  have V:Kd (J::N) ↑w5 v5 E:=Jw.dits hj.1 oa hG;exact(V.each q hr).I hc
 refine QX (α:=Unit) [(9,10),(38,104)] (λ_=>[]) (λ_ w'=>w'=w8/\Uy fn q.it wh bY=(false,q.it)) om ?_ ?_
 ·refine Qc<|Qo U h7 U U<|x (JW (a:=(wh:Int)) (b:=8) U U oa ol)<|xe<|Qm<|Qc<|x (QR U U)<|Qb<|QO U (λhJ=>?_) (λhJ=>?_)
  ·have e0:wh % 8=0:=(G 0).1 hJ;refine Qc<|Qo U ha U U<|Qo U ha U U<|x (Q5 [(0,[sS q.kd]),(1,[.string q.nm])] ⟨U,U,U,U,Z⟩)<|x (Q5 [(0,[.bool true]),(1,Qt ⟨q.kd,q.nm,qp,Zm,[],Zm,[],0⟩)] ⟨U,U,U,U,Z⟩) <|
    QK (ZS ⟨true,⟨q.kd,q.nm,qp,Zm,[],Zm,[],0⟩⟩) Y ⟨U,U,U,U,U,U,U,U,U,U,Z⟩ λw9 H hK=>xe ?_
   refine Qh ⟨[_],⟨Yl hK,Z⟩,S.O H he,⟨true,⟨q.kd,q.nm,qp,Zm,[],Zm,[],0⟩⟩,U,?_,⟨hD.nm,⟨Zn.nil _ _ _,Zn.nil _ _ _,Zn.nil _ _ _⟩,V4.nil,V4.nil⟩⟩;rw[T];unfold Uy;rw[OU e0];rfl
  have n0:¬wh % 8=0:=λe=>hJ ((G 0).2 e);refine Qc<|x (QR U U)<|Qb<|QO U (λhL=>?_) (λhL=>?_)
  ·have e1:wh % 8=1:=(G 1).1 hL;refine Qc<|QT ha U U<|Qo U h7 U U<|x (Z6 (k':=.i64) U ⟨oa,oa⟩)<|Qz<|(QeD hH gs hy.1 hy.2.1 gj).Y ?_;rintro k8 hs ⟨I,q',rfl,ka,gk⟩;refine x (Q5 [(1,Qt q')] ⟨U,U,Z⟩)<|QK (ZS ⟨false,q'⟩) (Y.I I) ⟨U,gk.ones⟩ λk9 gl kb=>xe ?_;refine Qh ⟨[_],⟨Yl kb,Z⟩,(S.D I).O gl he,⟨false,q'⟩,U,?_,?_⟩
   ·rw[T];unfold Uy;rw[OT n0,OU e1];exact OV (Prod.mk false) ka
   exact(gk.st (gl.Y h8)).up (λb O=>.inl (Lk _ O))
  have n1:¬wh % 8=1:=λe=>hL ((G 1).2 e);refine Qc<|x (QR U U)<|Qb<|QO U (λhM=>?_) (λhM=>?_)
  ·have e2:wh % 8=2:=(G 2).1 hM;refine Qc<|Qo U ha U U<|x (QR U U)<|xe<|QO U (λhO=>?_) (λhO=>?_)
   ·have hk1:q.kd=1:=hO;have gm:=hy.2.2 hk1;refine Qc<|QQ U<|x (Zh (us:=[q.p.va,sS q.p.a.st,q.p.vm,q.p.ve]) ha U U U)<|Qz<|(QaK hH.a).Y ?_;rintro ma kc ⟨gn,ua,ub,uc,ud,rfl,ht,go⟩;have ke:=(go gm).2 (J::N) gj;refine Qa<|QW U U<|QW U U<|QM K5 λb9 mf kf kg kh=>QK [ua,ub,uc,ud] kh ht λki kj gp=>Qb ?_;have hP:sX kc ki:=kf.O kj kg;rw[((go gm).1)]at ht gp;refine Qc<|QT gp U U<|x (Q5 [(0,[sS 2]),(1,[.string JP]),(2,[ua,sS (qh (Yk q.p.a)).st,uc,ud])] ⟨U,U,U,U,U,U,Z⟩)<|x (Q5 [(1,Qt ⟨2,JP,⟨ua,uc,ud,qh (Yk q.p.a)⟩,Zm,[],Zm,[],0⟩)] ⟨U,U,Z⟩) <|
     QK (ZS ⟨false,⟨2,JP,⟨ua,uc,ud,qh (Yk q.p.a)⟩,Zm,[],Zm,[],0⟩⟩) ((Y.I gn).I hP) ⟨U,U,U,ht.1,U,ht.2.2.1,ht.2.2.2.1,U,U,U,Z⟩ λmg gq kk=>xe ?_
    refine Qh ⟨[_],⟨Yl kk,Z⟩,((S.D gn).D hP).O gq he,⟨false,⟨2,JP,⟨ua,uc,ud,qh (Yk q.p.a)⟩,Zm,[],Zm,[],0⟩⟩,U,?_,⟨by show JF JP;decide,((ke.I hP).st (gq.Y h8)).up (λb O=>.inl (Lk _ O)),V4.nil,V4.nil⟩⟩;rw[T];unfold Uy;rw[OT n0,OT n1,OU ⟨e2,hk1⟩];rfl
   have hk1:¬q.kd=1:=hO;refine Qf<|⟨(),Z,U,?_⟩;unfold Uy;rw[OT n0,OT n1,OT (λe=>hk1 e.2),OT oa,OT oa,OT oa,OT (λe=>oa)]
  have n2:¬wh % 8=2:=λe=>hM ((G 2).2 e);refine Qc<|x (QR U U)<|Qb<|QO U (λhQ=>?_) (λhQ=>?_)
  ·have e3:wh % 8=3:=(G 3).1 hQ;refine Qj<|Qo U h7 U U<|x (JW (a:=(bY:Int)) (b:=3) U U oa ol)<|x (Z6 (k':=.i64) U ⟨oa,oa⟩)<|x (Qx ⟨U,U,Z⟩) <|
    Qn<|Za [ZN (fn,((bY % 3:Nat):Int))] λhu w9 H mh hR=>x (Q5 [(0,[sS 3]),(1,[.string Qam]),(3,[sL hu 1 1])] ⟨U,U,U,U,U,U,Z⟩) <|
    x (Q5 [(1,Qt ⟨3,Qam,qp,sL hu 1 1,[(fn,((bY % 3:Nat):Int))],Zm,[],0⟩)] ⟨U,U,Z⟩)<|QK (ZS ⟨false,⟨3,Qam,qp,sL hu 1 1,[(fn,((bY % 3:Nat):Int))],Zm,[],0⟩⟩) (Y.I H) ⟨U,U,U,U,U,U,U,U,U,U,Z⟩ λhs I hg=>xe ?_
   have kn:hu≠J:=oa
   refine Qh ⟨[_],⟨Yl hg,Z⟩,(S.D H).O I he,⟨false,⟨3,Qam,qp,sL hu 1 1,[(fn,((bY % 3:Nat):Int))],Zm,[],0⟩⟩,U,?_,⟨by show JF Qam;decide,⟨Zn.nil _ _ _,Zn.nil _ _ _,Zn.nil _ _ _⟩,⟨?_,λp hp=>by rw[Lb.1 hp];exact gi⟩,V4.nil⟩⟩
   ·rw[T];unfold Uy;rw[OT n0,OT n1,OT (λe=>n2 e.1),OU e3];rfl
   exact(hR.J I (oA kn)).arr (λhm=>oy (hN _ hm) S.size) (n:=1) (cap:=1) (sz:=2) U ol (Lx _)
  have n3:¬wh % 8=3:=λe=>hQ ((G 3).2 e);refine Qc<|x (QR U U)<|Qb<|QO U (λhS=>?_) (λhS=>?_)
  ·have e4:wh % 8=4:=(G 4).1 hS;refine Qj<|x (Qx ⟨U,U,Z⟩)<|Qn<|Za [ZN (fn,1)] λhv w9 H mj ko =>
    Qo rfl (h7.I H) U U<|x (JW (a:=(bY:Int)) (b:=3) U U oa ol)<|x (Z6 (k':=.i64) U ⟨oa,oa⟩)<|x (Q5 [(0,[sS 4]),(1,[.string Qan]),(4,[sL hv 1 1]),(5,[sS ((bY % 3:Nat):Int)])] ⟨U,U,U,U,U,U,U,U,Z⟩) <|
    x (Q5 [(1,Qt ⟨4,Qan,qp,Zm,[],sL hv 1 1,[(fn,1)],((bY % 3:Nat):Int)⟩)] ⟨U,U,Z⟩)<|QK (ZS ⟨false,⟨4,Qan,qp,Zm,[],sL hv 1 1,[(fn,1)],((bY % 3:Nat):Int)⟩⟩) (Y.I H) ⟨U,U,U,U,U,U,U,U,U,U,Z⟩ λhs I hg=>xe ?_
   have kq:hv≠J:=oa
   refine Qh ⟨[_],⟨Yl hg,Z⟩,(S.D H).O I he,⟨false,⟨4,Qan,qp,Zm,[],sL hv 1 1,[(fn,1)],((bY % 3:Nat):Int)⟩⟩,U,?_,⟨by show JF Qan;decide,⟨Zn.nil _ _ _,Zn.nil _ _ _,Zn.nil _ _ _⟩,V4.nil,⟨?_,λp hp=>by rw[Lb.1 hp];exact gi⟩⟩⟩
   ·rw[T];unfold Uy;rw[OT n0,OT n1,OT (λe=>n2 e.1),OT n3,OU e4];rfl
   exact(ko.J I (oA kq)).arr (λhm=>oy (hN _ hm) S.size) (n:=1) (cap:=1) (sz:=2) U ol (Lx _)
  have n4:¬wh % 8=4:=λe=>hS ((G 4).2 e);refine Qc<|x (QR U U)<|Qb<|QO U (λhT=>?_) (λhT=>?_)
  ·have e5:wh % 8=5:=(G 5).1 hT;refine Qc<|x (Q5 [(0,[sS 1]),(1,[.string JO])] ⟨U,U,U,U,Z⟩)<|x (Q5 [(0,[.bool true]),(1,Qt ⟨1,JO,qp,Zm,[],Zm,[],0⟩)] ⟨U,U,U,U,Z⟩) <|
    QK (ZS ⟨true,⟨1,JO,qp,Zm,[],Zm,[],0⟩⟩) Y ⟨U,U,U,U,U,U,U,U,U,U,Z⟩ λw9 H hK=>xe ?_
   refine Qh ⟨[_],⟨Yl hK,Z⟩,S.O H he,⟨true,⟨1,JO,qp,Zm,[],Zm,[],0⟩⟩,U,?_,⟨by show JF JO;decide,⟨Zn.nil _ _ _,Zn.nil _ _ _,Zn.nil _ _ _⟩,V4.nil,V4.nil⟩⟩;rw[T];unfold Uy;rw[OT n0,OT n1,OT (λe=>n2 e.1),OT n3,OT n4,OU e5];rfl
  have n5:¬wh % 8=5:=λe=>hT ((G 5).2 e);refine Qc<|x (QR U U)<|Qb<|ZH U (λhU=>?_) (λhU=>?_)
  ·have n6:¬wh % 8=6:=λe=>hU ((G 6).2 e);refine Qf<|⟨(),Z,U,?_⟩;unfold Uy;rw[OT n0,OT n1,OT (λe=>n2 e.1),OT n3,OT n4,OT n5,OT (λe=>n6 e.1)]
  have e6:wh % 8=6:=(G 6).1 hU;refine Qc<|Qo U ha U U<|x (QR U U)<|xe<|QO U (λhV=>?_) (λhV=>?_)
  ·have hk1:q.kd=1:=hV;refine Qc<|QQ U<|Qn<|Qu (u:=.string qK) ha U U (LZ U) U λw9 H hR=>xe ?_;refine Qc<|QT hR U U<|x (Q5 [(1,Qt { q with nm:=qK })] ⟨U,U,Z⟩)<|QK (ZS ⟨false,{ q with nm:=qK }⟩) (Y.J H (oA g8.symm)) ⟨rfl,rfl,rfl,hE.2.2⟩ λhs I hg=>xe ?_
   have kr:O5 (J::N) w5 hs:=((hc.O H gh).Y od).Q (I.Y h8);refine Qh ⟨[_],⟨Yl hg,Z⟩,(S.O H oa).O I he,⟨false,{ q with nm:=qK }⟩,U,?_,?_⟩
   ·rw[T];unfold Uy;rw[OT n0,OT n1,OT (λe=>n2 e.1),OT n3,OT n4,OT n5,OU ⟨e6,hk1⟩];rfl
   have V:Kd (J::N) ↑w5 v5 E:=Jw.dits hj.1 oa hG;have h2:=((V.each q hr).st kr).up (L':=N) (λb O=>.inl (Lk _ O));exact⟨by show JF qK;decide,h2.a,h2.ls,h2.ts⟩
  have hk1:¬q.kd=1:=hV;refine Qf<|⟨(),Z,U,?_⟩;unfold Uy;rw[OT n0,OT n1,OT (λe=>n2 e.1),OT n3,OT n4,OT n5,OT (λe=>hk1 e.2)]
 rintro _ g9 w9 ⟨rfl,hI⟩;refine Qc<|QT ha U U<|x (Q5 [(1,Qt q)] ⟨U,U,Z⟩)<|QK (ZS ⟨false,q⟩) Y ⟨U,hE⟩ λhs I hg=>xe ?_;refine Qh ⟨[_],⟨Yl hg,Z⟩,S.O I he,⟨false,q⟩,U,?_,(hH.st (I.Y h8)).up (λb O=>.inl (Lk _ O))⟩;rw[T,hI];rfl
theorem Qkn (h:(ZQ c).1≠0):(ZQ c).2=[]:=by
 unfold ZQ at *;split
 ·rfl
 rename_i l E;rw[E]at h;simp only[]at h;split
 ·rfl
 rename_i G;rw[OT G]at h;exact OW U h
theorem Qnh {l:xw}{r:List (ByteArray×Int)}(h:Um co l=some r)(E:l≠[]):0<r.length:=by
 rw[yg h];exact List.length_pos_iff.2 E
theorem Qkp {co:List XD}:∀{l:List qv}{a:List Yi},J7 co l=some a->(∀q∈l,q.ls≠[])->∀x∈a,x.kd=3/\0<x.ls.length
 | [],a,h,_=>by
  rw[J7]at h;cases h
  exact λx hx=>by cases hx
 | x::l,a,h,H=>by
  rw[J7]at h;cases hx:Um co x.ls with
  | none=>rw[hx]at h;cases h
  | some n =>
   rw[hx]at h;cases E:J7 co l with
   | none=>rw[E]at h;cases h
   | some r =>
    rw[E]at h;cases h
    intro y G;rcases Lj.1 G with rfl|G
    ·exact⟨U,Qnh hx (H x Lq)⟩
    exact Qkp E (λq I=>H q (Lk _ I)) y G
theorem Qkq {co:List XD}:∀{l:List xK}{a:List Yi},Kt co l=some a->∀x∈a,x.kd=4
 | [],a,h=>by
  rw[Kt]at h;cases h
  exact λx hx=>by cases hx
 | x::l,a,h=>by
  rw[Kt]at h;cases hx:Um co x.ts with
  | none=>rw[hx]at h;cases h
  | some n =>
   rw[hx]at h;cases E:Kt co l with
   | none=>rw[E]at h;cases h
   | some r =>
    rw[E]at h;cases h
    intro y G;rcases Lj.1 G with rfl|G
    ·rfl
    exact Qkq E y G
theorem Qpx (S:Zj c=0):∀y∈(ZQ c).2,(y.kd=3->0<y.ls.length)/\y.ls.length<=1000000/\(y.kd=1->JB y.a=0):=by
 intro y E;by_cases h:(ZQ c).1=0
 rotate_left
 ·rw[Qkn h]at E;cases E
 refine⟨?_,LH (yh (Vf S) h y E).1 ol,?_⟩
 all_goals
  have T:=ZW S;have he:∀x∈c.ex,x.ls≠[]:=by
   have G:=T.cd;unfold YG at G;by_cases V:8<(szs c.co).length
   ·rw[OU V]at G;cases G
   rw[OT V]at G;by_cases Y:(szs c.co).any KQ=true
   ·rw[OU Y]at G;cases G
   rw[OT Y]at G;by_cases h4:32<c.ex.length\/32<c.cs.length
   ·rw[OU h4]at G;cases G
   rw[OT h4]at G;by_cases J:Yz (szs c.co) [] c.ex≠0
   ·rw[OU J]at G;exact OW G J
   intro x hx e;have O:=Ko _ _ _ (Lp.1 J) x hx;unfold Jr at O;rw[e]at O;cases O
  obtain⟨a,b,ha,hb,e,_⟩:=jk h;rw[e]at E;intro H;rcases Lc.1 E with E|E
  ·obtain⟨z,hz,rfl⟩:=LD.1 E
   first
   | exact OW (show(1:Int)=3 from H) ol
   | exact(Z4 _).2 (T.co z hz)
  rcases Lc.1 E with E|E
  ·obtain⟨z,_,rfl⟩:=LD.1 E
   first
   | exact OW (show(2:Int)=3 from H) ol
   | exact OW (show(2:Int)=1 from H) ol
  rcases Lc.1 E with E|E
  ·have I:=Qkp ha he y E
   first
   | exact I.2
   | exact OW (I.1.symm.D H) ol
  have I:=Qkq hb y E;exact OW (I.symm.D H) ol
theorem Qng {n:ByteArray}{y:Yi}(h:q9 y)(wh b:Nat):q9 (Uy n y wh b).2:=by
 unfold Uy
 repeat' split
 all_goals first
  | exact h
  | exact⟨h.1,h.2⟩
  | exact⟨Lo _,Lo _⟩
  | exact⟨(by decide:1<=100000),Lo _⟩
  | exact⟨Lo _,(by decide:1<=100000)⟩
  | (unfold jl;repeat' split) <;> first
   | exact⟨by show(List.set _ _ _).length<=_;rw[Mb];exact h.1,h.2⟩
   | exact⟨h.1,h.2⟩
theorem Qpv (G:Zj c=0)(wh a b:Nat):q9 (dMk c wh a b).2:=by
 unfold dMk;split
 ·rename_i h;refine Qng ?_ _ _;have E:a % (ZQ c).2.length<(ZQ c).2.length:=NH _ (List.length_pos_iff.2 h.2);rw[show(ZQ c).2.getD (a % (ZQ c).2.length) Qhr=(ZQ c).2[a % (ZQ c).2.length]'E from by simp[oR,E]];exact yh (Vf G) h.1 _ (Lm E)
 exact⟨Lo _,Lo _⟩
theorem Ql7 {pS:String}{te:Nat}(G:P.underlying t=some (.pointer te)){x:O3}{a:Option Addr}(hx:ev f x=.pointer a)(H:ev f y=.pointer none):
  (execOp (ev f) ⟨d,.binOp .neq t x y E,ty,pS,af,gd⟩).run P w=.ok (.value (.bool (!a.isNone))) w:=by
 have I:(eqGuard .neq t x y (.pointer a) (.pointer none)).run P w=.ok () w:=by simp[eqGuard]
 have key:∀m,(Op.equalIn (m+1) t (.pointer a) (.pointer none)).run P w=.ok a.isNone w:=by
  intro m;unfold Op.equalIn;cases a <;> simp[run_underlying G]
 have J:(Op.equal t (.pointer a) (.pointer none)).run P w=.ok a.isNone w:=key 9999;simp only[execOp,hx,H,Sem.run_bind,I,Result.andThen_ok,binOp,J,Sem.run_pure]
structure jR (k:Nat)(L:LN)(w:O1)(s:X7)(m:JT):Prop where
 sy:KS L w s
 md:zc L w m
 dj:∀b∈s.own,b∉m.own
 lt:∀b∈L,b<↑w
 ok:Ye k s.sys
 is:m.is s.sys
theorem jR.I {k:Nat}{L:LN}{w w':O1}{s:X7}{m:JT}(h:jR k L w s m)(E:sX w w'):jR k L w' s m :=
 ⟨h.sy.I E,h.md.I E,h.dj,λb G=>LQ (h.lt b G) E.size,h.ok,h.is⟩
theorem jR.both {k k':Nat}{O T V:O1}{G:X7}{m H:JT}(h:jR k L w s m)(hs:O5 s.own w O)(I:KS (G.own++L) O G)(o1:∀b∈G.own,b∈s.own\/↑w<=b)(Y:sX O T)
  (J:O5 m.own T V) (h2:zc (H.own++(G.own++L)) V H) (o2:∀b∈H.own,b∈m.own\/↑T<=b) (hk:Ye k' G.sys) (hi:H.is G.sys):jR k' (H.own++(G.own++L)) V G H:=by
 have z1:=hs.size;have z2:=Y.size;have z3:=J.size;have hd:∀b∈G.own,b∉m.own:=λb E J=>(o1 b E).elim (λI=>h.dj b I J) (λI=>ov (h.md.lt b J));have hX:∀b∈m.own,b∈H.own++(G.own++L):=λb E=>Lc.2 (.inr (Lc.2 (.inr (h.md.sub b E))));have ha:∀b∈G.own++L,b<O.heap.size:=λb E=>(Lc.1 E).elim (I.lt b) (λE=>ov (h.lt b E));refine⟨((I.I Y).up (L':=H.own++(G.own++L)) (λb E=>(Lc.1 E).elim (λE=>(o2 b E).imp (λS=>Lc.2 (.inr (h.md.sub b S))) id) .inl) (λb E=>Lc.2 (.inr (Lc.2 (.inl E))))).J J (λb E=>.inl (hX b E)) hd,h2,λb E hc=>?_,λb E=>?_,hk,hi⟩
 ·rcases o2 b hc with S|S
  ·exact hd b E S
  have:=I.lt b E;omega
 rcases Lc.1 E with E|E
 ·exact h2.lt b E
 have:=ha b E;omega
theorem jR.md1 {k:Nat}{H:O1}{G:X7}{m:JT}(h:jR k L w s m)(I:O5 s.own w H)(o1:∀b∈G.own,b∈s.own\/↑w<=b):zc (G.own++L) H m :=
 (h.md.up (L':=G.own++L) (λb E=>(Lc.1 E).elim (λE=>(o1 b E).imp (h.sy.sub b) id) .inl) (λb E=>Lc.2 (.inr (h.md.sub b E)))).J I (λb E=>.inl (Lc.2 (.inr (h.sy.sub b E)))) (λb E J=>h.dj b J E)
theorem jR.new {L:LN}{w w':O1}{c:ZF}{s:X7}{m:JT}(h:KS (s.own++L) w s)(H:zc (m.own++s.own) w' m)(I:∀b∈m.own,↑w<=b)(J:sX w w')(O:VB c=0)(esy:s.sys=Qbx c)(S:m.is (Qbx c)):jR 1 (m.own++s.own) w' s m :=
 ⟨(h.up (λb E=>(Lc.1 E).elim (λG=>.inr (I b G)) (λG=>.inl (Lc.2 (.inl G)))) (λb E=>Lc.2 (.inr E))).I J,H,λb E T=>oy (I b T) (h.lt b E),
  λb E=>(Lc.1 E).elim (H.lt b) (λG=>LQ (h.lt b G) J.size),by rw[esy];exact Ye.new O,by rw[esy];exact S⟩
def edT (s:q7)(xs:List (Bool×Yi)):q7:=if qb s xs=0 then edS s xs else s
def edR (s:q7)(xs:List (Bool×Yi)):Rp:=if qb s xs=0 then YN (KX s.c xs).2 s.ps ((s.un.length:Int)+1)else⟨[],[],[]⟩
theorem QgF {k:Nat}{xs:List ZZ}(h:KS L w s)(I:Ye k s.sys)(S:k<=1000)(T:∀b∈L,b<↑w)(hx:zO L2 ↑w vl xs)(V:∀e∈xs.map ZZ.e,q9 e.2)(Y:Kb w 4096):
  QY sV 12 [pS s.b,vl] w λr w'=>∃(qr:V5) (H:X7),r=.tuple #[sT (Q0 qr),sS (qb s.sys (xs.map ZZ.e))]/\(∀N:LN,(∀b∈N,b<↑w)->Jt N ↑w' qr)/\qr.rp=edR s.sys (xs.map ZZ.e) /\
   H.b=s.b/\H.sys=edT s.sys (xs.map ZZ.e)/\Ye (k+1) H.sys/\O5 s.own w w'/\KS (H.own++L) w' H/\∀b∈H.own,b∈s.own\/↑w<=b :=
 (yw h I S T hx V Y).Y λ_ w' ⟨qr,e1,e2,J,e4⟩=>by
  unfold edR edT;by_cases E:qb s.sys (xs.map ZZ.e)=0
  ·obtain⟨f1,s',f2,f3,f4,f5,f6,f7⟩:=e4 E;rw[OU E,OU E];exact⟨qr,s',e1,e2,f1,f2,f3,f4,f5,f6,f7⟩
  have O:=(J E).1;rw[OT E,OT E];exact⟨qr,s,e1,e2,(J E).2,U,U,I.Y (NP _),O.any,(h.I O).up (λb G=>(Lc.1 G).elim (λG=>.inl (h.sub b G)) .inl) (λb G=>Lc.2 (.inl G)),λb G=>.inl G⟩
theorem Qg4 {k:Nat}{m:JT}{s:q7}{xs:List ZZ}(h:zc L w m)(H:m.is s)(O:Ye k s)(S:k<=1000)(T:∀b∈L,b<↑w)(hx:zO L2 ↑w vl xs)(V:∀e∈xs.map ZZ.e,q9 e.2)(Y:Kb w 4096):
  QY sV 40 [pS m.b,vl] w λr w'=>∃(qr:V5) (m1:JT),r=.tuple #[sT (Q0 qr),sS (qb s (xs.map ZZ.e))]/\(∀N:LN,(∀b∈N,b<↑w)->Jt N ↑w' qr)/\qr.rp=edR s (xs.map ZZ.e) /\
   m1.b=m.b/\m1.is (edT s (xs.map ZZ.e))/\O5 m.own w w'/\zc (m1.own++L) w' m1/\∀b∈m1.own,b∈m.own\/↑w<=b :=
 (Qji h H O S T hx V Y).Y λ_ w' ⟨qr,e1,e2,I,e4⟩=>by
  unfold edR edT;by_cases E:qb s (xs.map ZZ.e)=0
  ·obtain⟨f1,m',f2,f3,f4,f5,f6⟩:=e4 E;rw[OU E,OU E];exact⟨qr,m',e1,e2,f1,f2,f3,f4,f5,f6⟩
  have J:=(I E).1;rw[OT E,OT E];exact⟨qr,m,e1,e2,(I E).2,U,H,J.any,(h.I J).up (λb G=>(Lc.1 G).elim (λG=>.inl (h.sub b G)) .inl) (λb G=>Lc.2 (.inl G)),λb G=>.inl G⟩
def unT (s:q7):q7:=if s.un=[]then s else unS s
theorem QgE {k:Nat}(h:KS L w s)(J:Ye k s.sys):
  QY sV 36 [pS s.b] w λr w'=>∃G:X7,r=sS (if s.sys.un=[]then 12 else 0)/\G.b=s.b/\G.sys=unT s.sys/\Ye k G.sys/\O5 s.own w w'/\KS (G.own++L) w' G/\∀b∈G.own,b∈s.own :=
 (yv h J).Y λ_ w' ⟨S,T⟩=>by
  unfold unT;by_cases H:s.sys.un=[]
  ·have I:=S H;rw[OU H,OU H];exact⟨s,I.1,U,U,J,I.2.any,(h.I I.2).up (λb E=>(Lc.1 E).elim (λE=>.inl (h.sub b E)) .inl) (λb E=>Lc.2 (.inl E)),λb E=>E⟩
  obtain⟨e0,G,e1,e2,V,Y,O,e6⟩:=T H;rw[OT H,OT H];exact⟨G,e0,e1,e2,V,Y,O.up (λb E=>(Lc.1 E).elim (λE=>.inl (O.sub b E)) .inl) (λb E=>Lc.2 (.inl E)),e6⟩
theorem Qg3 {k:Nat}{m:JT}{s:q7}(h:zc L w m)(H:m.is s)(S:Ye k s):
  QY sV 37 [pS m.b] w λr w'=>∃m1:JT,r=sS (if s.un=[]then 12 else 0)/\m1.b=m.b/\m1.is (unT s)/\O5 m.own w w'/\zc (m1.own++L) w' m1/\∀b∈m1.own,b∈m.own:=by
 have I:=H.len;have ha:=S.l64;refine(Qjh h I.1 oa).Y λ_ w' ⟨T,V⟩=>?_;unfold unT;by_cases G:s.un=[]
 ·have J:=T (Ni.1 (by rw[I.2,G];rfl));rw[OU G,OU G];exact⟨m,J.1,U,H,J.2.any,(h.I J.2).up (λb E=>(Lc.1 E).elim (λE=>.inl (h.sub b E)) .inl) (λb E=>Lc.2 (.inl E)),λb E=>E⟩
 obtain⟨e0,m1,e1,e2,Y,e4,e5,O,e7⟩:=V λe=>G (Ni.1 (by rw[<-I.2,e];rfl));rw[OT G,OT G];exact⟨m1,e0,e1,H.undo G e2 Y e4,e5,O.up (λb E=>(Lc.1 E).elim (λE=>.inl (O.sub b E)) .inl) (λb E=>Lc.2 (.inl E)),e7⟩
theorem jR.Y {k k':Nat}{L:LN}{w:O1}{s:X7}{m:JT}(h:jR k L w s m)(E:k<=k'):jR k' L w s m:=⟨h.sy,h.md,h.dj,h.lt,h.ok.Y E,h.is⟩
theorem jR.arr {k:Nat}{G:X7}{m H:JT}{v:O2}(h:jR k L w s m)(o1:∀b∈G.own,b∈s.own\/↑w<=b)(o2:∀b∈H.own,b∈m.own\/↑w<=b)(I:O5 (s.own++m.own) w w')(J:Zn L ↑w v n sz us):Zn (H.own++(G.own++L)) ↑w' v n sz us :=
 (J.up (L':=H.own++(G.own++L)) λb E=>(Lc.1 E).elim (λE=>(o2 b E).imp (h.md.sub b) id) λE=>(Lc.1 E).elim (λE=>(o1 b E).imp (h.sy.sub b) id) .inl).st (I.Y λb E=>Lc.2 (.inr (Lc.2 (.inr ((Lc.1 E).elim (h.sy.sub b) (h.md.sub b))))))
theorem QqS {e:ZZ}(h:QZ H b T (ZS e))(E:b∉L)(G:Jl L H e.q):zO L H (sL b 1 1) [e]:=
 ⟨h.arr E (n:=1) (cap:=1) (sz:=10) U ol (Lx _),λq I=>by rw[Lb.1 I];exact G⟩
abbrev mvC (x:Nat×Nat×Nat):LV:=[.int .u8 (x.1:Int),.int .u8 (x.2.1:Int),.int .u8 (x.2.2:Int)]
theorem Qby (x:Nat×Nat×Nat):(mvC x).length=3:=rfl
structure MvZ where
 i:Nat
 s:X7
 m:JT
 L:LN
theorem Qjc {k:Nat}{m:JT}{lv:O2}{mv:List (Nat×Nat×Nat)}(h:jR k L w s m)(hk:k+mv.length<=1000)(hK:∀x∈mv,x.1<256/\x.2.1<256/\x.2.2<256)(hL:Zn L ↑w lv mv.length 3 (mv.flatMap mvC))(h8:∀w',O5 (s.own++m.own) w w'->Kb w' 4096):
  QY sV 10 [pS s.b,pS m.b,lv] w λr w'=>r=.bool true/\∃H m1 L1,jR (k+mv.length) L1 w' H m1/\H.b=s.b/\m1.b=m.b/\O5 (s.own++m.own) w w'/\∀b∈H.own++m1.own,b∈s.own++m.own\/↑w<=b:=by
 refine Zq func10 ?_;refine Qc<|Qb<|Qd<|Qc<|Qb<|Q7 (α:=MvZ) [(6,72)] (λz=>[(7,sS z.i)]) (λz w'=>z.i<=mv.length/\jR (k+z.i) z.L w' z.s z.m/\z.s.b=s.b/\z.m.b=m.b/\O5 (s.own++m.own) w w'/\Zn z.L ↑w' lv mv.length 3 (mv.flatMap mvC)/\∀b∈z.s.own++z.m.own,b∈s.own++m.own\/↑w<=b)
  (λz=>mv.length - z.i) ⟨0,s,m,L⟩ La ⟨Lo _,h,U,U,O5.Z _ _,hL,λb E=>.inl E⟩ ?_
 rintro⟨i,si,mi,Li⟩ g wi ⟨hi,G,esb,emb,hu,hA,hf⟩;simp only[]at hi G esb emb hA hf;have hv:=hA.up (L':=[]) od;have h9:=hu.size;have thn:∀w',O5 (si.own++mi.own) wi w'->O5 (s.own++m.own) w w':=λw' hw=>hu.S hw hf;have ownN:∀(H:X7) (m1:JT),(∀b∈H.own,b∈si.own\/↑wi<=b)->(∀b∈m1.own,b∈mi.own\/↑wi<=b)->∀b∈H.own++m1.own,b∈s.own++m.own\/↑w<=b:=λH m1 o1 o2 b E=>by
  rcases Lc.1 E with E|E
  ·exact(o1 b E).elim (λI=>hf b (Lc.2 (.inl I))) (λI=>.inr (LH h9 I))
  exact(o2 b E).elim (λI=>hf b (Lc.2 (.inr I))) (λI=>.inr (LH h9 I))
 refine Qd<|Qj<|Qa<|QF hv U<|Z5 U U<|xe<|ZH rfl (λhy=>?_) (λhy=>?_)
 ·refine Qw ?_;have hM:i=mv.length:=by have hN:¬(i:Int)<(mv.length:Int):=hy;omega
  refine Qc<|Qb<|Qh ⟨[.bool true],La,U,si,mi,Li,by rw[<-hM];exact G,esb,emb,hu,hf⟩
 have V:i<mv.length:=by have hN:(i:Int)<(mv.length:Int):=hy;omega
 have hn:=hK _ (Lm V);refine Zf (mv[i]'V) λq0 hz=>?_;rw[hz]at hn;refine Qf<|Qd<|Qm<|Qd<|Qj<|Qa<|Lg.xig (g:=mvC) (i:=i) Qby hv U U V λg2 hB=>?_;rw[hz]at hB;refine x (Zd U)<|x (Qy (u:=.int .u8 (q0.1:Int)) ((hB.from 0).pre 1) U)<|x (Qd5 (b:=16) U U ol)<|x (QR U U)<|xe<|QO rfl (λhO=>?_) (λhO=>?_)
 ·have hU:=QgE G.sy G.ok;rw[esb]at hU;refine Qd<|QX (α:=X7×JT) [(26,36)] (λ_=>[(36,.bool false)]) (λz w'=>jR (k+i) (z.2.own++(z.1.own++Li)) w' z.1 z.2/\z.1.b=s.b/\z.2.b=m.b/\O5 (s.own++m.own) w w'/\Zn (z.2.own++(z.1.own++Li)) ↑w' lv mv.length 3 (mv.flatMap mvC)/\∀b∈z.1.own++z.2.own,b∈s.own++m.own\/↑w<=b) om ?_ ?_
  ·refine Qs<|Qa<|Qz<|hU.Y ?_;rintro _ w2 ⟨H,rfl,e1b,e1s,h0,O,ho,hg⟩;have o1:∀b∈H.own,b∈si.own\/↑wi<=b:=λb E=>.inl (hg b E);have hU2:=Qg3 (G.md1 O o1) G.is G.ok;rw[emb]at hU2;refine Qa<|Qz<|hU2.Y ?_;rintro _ w3 ⟨m1,rfl,f1b,hh,S,h3,Y⟩;rw[<-e1s]at hh;have hj:=G.both O ho o1 (O5.Z [] w2) S h3 (λb E=>.inl (Y b E)) h0 hh;have hC:O5 (si.own++mi.own) wi w3:=(O.Y λb E=>Lc.2 (.inl E)).Q (S.Y λb E=>Lc.2 (.inr E));have hP:=G.arr o1 (λb E=>.inl (Y b E)) hC hA;have hAg:=Qa0 hj.md hj.sy hj.ok hj.is;rw[f1b,e1b]at hAg;refine xb (XH U U) (λhQ=>OW U hQ) (λ_=>?_);refine Qa<|Qa<|Qa<|Qz<|hAg.Y ?_;rintro _ w4 ⟨rfl,T⟩;refine x (Zy U)<|QC U<|xe ?_;exact⟨(H,m1),La,hj.I T,e1b,f1b,(thn _ hC).D T,hP.I T,ownN H m1 o1 λb E=>.inl (Y b E)⟩
  rintro⟨H,m1⟩ g5 w5 ⟨q1,q2,q3,q4,q5,q6⟩;refine ZO U<|Qf<|Qw ?_;refine Qs<|Qa<|QH U U<|Qb<|⟨⟨i+1,H,m1,_⟩,og,La,V,q1.Y (NP _),q2,q3,q4,q5,q6⟩
 refine Qf ?_;obtain⟨ss,q,ess,eun,eqc,eqp⟩:=G.is.last;have hp:Zj q.c.V=0:=by rw[eqc];exact G.ok.st.ck
 have hR:zJ Li ↑wi q:=G.md.sA q (by rw[ess];simp);have hS:0<q.c.co.length:=by
  have I:=(ZW hp).c0;have h2:q.c.V.co.length=q.c.co.length:=Lh _;omega
 have g3:=G.is.len;have g4:=G.ok.l64;have hT:mi.ss.length<=1000:=oa
 have hd:sX wi { wi with drawn:=wi.drawn+1 }:=O5.C _ _
 have hNow:=VA (G.md.I hd) ess hT;rw[emb]at hNow;refine Qd<|Zz [] [oE 0,oE 3,oE 4,oE 5,oE 6,oF 1,oE 2,oF 7,oF 8,oE 9]<|p Qv<|p Qv<|p Qv<|Lg.pig (g:=mvC) (i:=i) U Qby hv U U V λg6 hD=>?_;rw[hz]at hD;refine pq (λ_ hc=>Qr (us:=mvC q0) (hD.I hc) U U)<|pk<|xg<|hNow.Y ?_;rintro _ w2 ⟨rfl,hV⟩;have hq:=hd.D hV;refine⟨hq,?_⟩;refine p (λ_=>Qbn 45 0 q.c.cells underlying129 U U U)<|pk<|xg<|(Qg0 (N:=Li) (λb E=>LQ (G.lt b E) hq.size) (hR.c.I hq) (Vf hp) hS (Qpx hp) hn.1 hn.2.1 hn.2.2).Y ?_;rintro _ w3 ⟨hW,e1,rfl,hY,hZ⟩;have hr:=hq.D hW;refine⟨hr,?_⟩;refine pk<|Za [ZS e1] λga w4 T g7 gb=>⟨hr.D T,?_⟩;refine p ZG<|pe ?_;have hs:=hr.D T;have J:=G.I hs;have gc:ga∉Li:=λE=>oy (G.lt _ E) hr.size
 have hX:=QqS gb gc (hZ.I T);have h4:∀e∈[e1].map ZZ.e,q9 e.2:=by
  intro e he;rw[Lb.1 he,hY];exact Qpv hp _ _ _
 have hR1:=QgF J.sy J.ok oa J.lt hX h4 (h8 _ (thn _ (hs.any)));refine Zf ([e1].map ZZ.e) λxs h5=>?_;rw[h5]at hR1 h4;rw[esb]at hR1;refine Qj<|Qa<|Qz<|hR1.Y ?_;rintro _ gg ⟨qr,H,rfl,hE,gh,e1b,e1s,h0,O,ho,hg⟩;refine Qa<|QW U U<|QW U U<|QM ZU λb9 g8 gi gj gk=>QK (Q0 qr) gk (hE [] od).ones λh6 gl gm=>Qb ?_;have ha:sX gg h6:=gi.O gl gj;have y1:=O.size;have y2:=ha.size;have y4:=hs.size;have gn:∀b∈H.own++Li,b<h6.heap.size:=λb E=>by
  rcases Lc.1 E with E|E
  ·have:=ho.lt b E;omega
  have:=J.lt b E;omega
 have go:=Go.Lg.XQ.I (Go.Lg.XQ.st hX (O.Y J.sy.sub)) ha;have hF:O5 (si.own++mi.own) wi h6:=(hs.any.Q (O.Y λb E=>Lc.2 (.inl E))).D ha;have hR2:=Qg4 ((J.md1 O hg).I ha) J.is J.ok oa gn go (by rw[h5];exact h4) (h8 _ (thn _ hF));rw[h5]at hR2;rw[emb]at hR2;refine Qj<|Qa<|Qz<|hR2.Y ?_;rintro _ gp ⟨qm,m1,rfl,gq,gr,e2b,hh,S,h3,Y⟩;have hG:=gq [] od;refine Qa<|QW U U<|QW U U<|QM ZU λg9 ka gs gt gu=>QK (Q0 qm) gu hG.ones λht gv gw=>Qb ?_;have hl:sX gp ht:=gs.O gv gt;have gx:qr.rp=qm.rp:=gh.D gr.symm;rw[<-e1s]at hh;have hH:=(J.both O ho hg ha S h3 Y h0 hh).I hl;have hI:O5 (si.own++mi.own) wi ht:=(hF.Q (S.Y λb E=>Lc.2 (.inr E))).D hl;have o1:∀b∈H.own,b∈si.own\/↑wi<=b:=λb E=>(hg b E).imp id (LH y4);have o2:∀b∈m1.own,b∈mi.own\/↑wi<=b:=λb E=>(Y b E).imp id λI=>oa
 have n9:b9∉mi.own:=λhm=>ov (J.md.lt _ hm)
 have hAg:∀w',sX ht w'->QY sV 38 [pS m.b,pS s.b] w' λr gy=>r=.bool true/\sX w' gy:=λw' hw=>by
  have I:=hH.I hw;have h2:=Qa0 I.md I.sy I.ok I.is;rw[e2b,e1b]at h2;exact h2
 refine QX (α:=Unit) [(58,72)] (λ_=>[(72,.bool false)]) (λ_ w'=>sX ht w') om ?_ ?_
 ·refine Qs<|Qa<|Qa<|xb (XH U U) (λgz=>OW U gz) (λ_=>?_);refine Qa<|QT ((gm.J S n9).I hl) U U<|QT gw U U<|Qz<|(Ug (((((hE mi.own J.md.lt).I ha).st S).I hl).up (L':=[]) od) (hG.I hl) gx).Y ?_;rintro _ kb ⟨rfl,hJ⟩;refine xB (Zy U) (λh=>OW h od) (λ_=>?_);refine QC U<|Qa<|Qa<|Qa<|Qz<|(hAg _ hJ).Y ?_;rintro _ kc ⟨rfl,g0⟩;refine x (Zy U)<|QC U<|xe ?_;exact⟨(),La,hJ.D g0⟩
 rintro _ ke kf h7;refine ZO rfl<|Qf<|Qs<|Qa<|QH U U<|Qb<|⟨⟨i+1,H,m1,_⟩,og,La,V,hH.I h7,e1b,e2b,(thn _ hI).D h7,(G.arr o1 o2 hI hA).I h7,ownN H m1 o1 o2⟩
open Go.ChangeShapes Go.WideShapes Go.RowKit
def zQ (H:xA)(v:O2)(n sz:Nat)(cs:LV):Prop :=
 cs.length=n*sz/\n<=9223372036854775807/\((v=nS/\n=0)\/∃a cap,v=.slice (some a) n cap/\n<=cap/\At [] H a cs)
theorem zQ.arr {v:O2}(h:zQ H v n sz cs)(E:n<=1099511627776):Zn [] H v n sz cs:=⟨h.1,E,h.2.2⟩
theorem zQ.I {w w':O1}{v:O2}{n sz:Nat}{cs:LV}(h:zQ ↑w v n sz cs)(E:sX w w'):zQ ↑w' v n sz cs :=
 ⟨h.1,h.2.1,h.2.2.imp id λ⟨a,cap,G,I,J⟩=>⟨a,cap,G,I,J.I E⟩⟩
theorem zQ.shape {v:O2}(h:zQ H v n sz cs):∃a cap,v=.slice a n cap:=by
 rcases h.2.2 with⟨E,G⟩|⟨a,cap,E,_⟩
 ·exact⟨none,0,by rw[E,G]⟩
 exact⟨some a,cap,E⟩
section
variable {pS:String}{l:xD}
theorem QoB {x:O3}{e bys:Nat}[Sl P t e E bys z]{v:O2}(h:zQ H v n sz cs)(G:ev f x=v):
  (execOp (ev f) ⟨d,.call ⟨.builtin .len,#[x],#[t]⟩,ty,pS,af,gd⟩).run P w=.ok (.value (sS n)) w:=by
 obtain⟨a,cap,I⟩:=h.shape;exact Ui (G.D I)
end
section
variable {H:Type}{enc:TypeId×O2->H}{W:O1}{b0:Nat}{sp:Nat->Bool}{held:Bool}
theorem Qie {g:α->LV}{Q:α->Prop}{t e:TypeId}{c:O2}{fuel:Nat}{x:DataW H×List MemPlace}(J:∀d,(g d).length=sz)(hh:0<sz)(ht:P.underlying t=some (.slice e))(hc:P.cellsOf e=sz)
  (hk:∀m cs y,cs.length=sz->DataW.trod enc P W b0 sp held m e cs=some y->∃d,cs=g d/\Q d)
  (hm:DataW.trod enc P W b0 sp held fuel t [c]=some x):∃ds:List α,zQ ↑W c ds.length sz (ds.flatMap g)/\∀d∈ds,Q d:=by
 rcases DataW.trod_slice ht hm with⟨E,_⟩|⟨a,len,cap,elems,rest,m,_,E,_,_,hl,hn,hy,ho,_,_⟩
 ·simp at E;subst E;exact⟨[],⟨od,od,.inl ⟨rfl,rfl⟩⟩,λd hd=>by cases hd⟩
 simp at E;subst E;have each:∀i,i<len->∃d:α,(∀r v,(g d)[r]?=some v->W.cell? (a.add (i*sz+r))=some v)/\Q d:=by
  intro i hi;have S:=ho i hi;rw[hc,LG (show i<elems.length by omega)]at S;obtain⟨cs,E,hp⟩:=MO.1 S;unfold World.cells? at E;split at E
  ·have hs:cs.length=sz:=by simpa using(VE E).1
   obtain⟨d,rfl,hq⟩:=hk m cs _ hs hp;refine⟨d,λr v G=>?_,hq⟩;have hw:r<sz:=by have:=(L7.1 G).1;rw[J]at this;exact this
   have T:=(VE E).2 r r (by simp[hw]);rw[Lg.Addr.add_add,G]at T;exact T
  cases E
 obtain⟨u,V,Y⟩:=Qef len each;have ha:(u.flatMap g).length=u.length*sz:=Go.Lg.YY g sz J u;have he:∀j v,(u.flatMap g)[j]?=some v->cel ↑W (a.add j)=some v:=λj v G=>by
  have O:j<u.length*sz:=by
   rw[<-ha];exact(L7.1 G).1
  have hi:j / sz<u.length:=Nat.div_lt_of_lt_mul (by rw[Nat.mul_comm];exact O);have hf:j / sz*sz+j % sz=j:=Nat.div_add_mod' j sz;have h3:(g (u[j / sz]'hi))[j % sz]?=some v:=by
   rw[<-(Xw g sz J u (j / sz) hi),LW,OU (NH _ hh),My,hf];exact G
  rw[<-JS];have:=(Y (j / sz) hi).1 (j % sz) v h3;rw[hf]at this;exact this
 refine⟨u,⟨ha,?_,.inr ⟨a,cap,by rw[V],oa,λ_ _=>od,λv G=>?_,he⟩⟩,λd hd=>?_⟩
 ·rw[V];simp only[maxLen]at hn;omega
 ·obtain⟨j,O,e⟩:=LO G;have I:=he j v (by rw[LG O,e]);unfold cel at I;rw[YB]at I;cases hb:W.heap[a.block]? with
  | none=>rw[hb]at I;cases I
  | some o=>exact(LK.1 hb).1
 obtain⟨i,hi,rfl⟩:=LO hd;exact(Y i hi).2
end
section
variable {H:Type}{enc:TypeId×O2->H}{W:O1}{b0:Nat}{sp:Nat->Bool}{held:Bool}
end
theorem QhI {H:Type}{enc:TypeId×O2->H}{W:O1}{base J:Nat}{sp:Nat->Bool}{O:Bool}{v:O2}{d:DataW H}{ps:List MemPlace}{t e:TypeId}(I:P.underlying t=some (.slice e))(G:P.cellsOf e=3)(E:kT P .u8 5 e=true)
  (S:Value.okWide P W .any base t v) (h:DataW.Trod enc P W J sp O t v d ps):∃mv:List (Nat×Nat×Nat),zQ ↑W v mv.length 3 (mv.flatMap mvC)/\∀x∈mv,x.1<256/\x.2.1<256/\x.2.2<256:=by
 obtain⟨fuel,T⟩:=h;obtain⟨ad,n,cap,rfl⟩:=Qmh I S;exact Qie (sz:=3) (g:=mvC) Qby oa I G (λm cs y V h=>by
  have E:=VG 5 E h
  match cs,V with
  | [u,v,z],_ =>
   obtain⟨a,rfl,Y⟩:=yn (E u od);obtain⟨b,rfl,hb⟩:=yn (E v od);obtain⟨c,rfl,G⟩:=yn (E z od);exact⟨(a,b,c),U,Y,hb,G⟩) T
theorem Qra {H:Type}{enc:TypeId×O2->H}{W:O1}{base:Nat}{sp:Nat->Bool}{G:Bool}{v:O2}{d:DataW H}{ps:List MemPlace}(I:Value.okWide sV W .any base 37 v)(h:DataW.Trod enc sV W E sp G 37 v d ps):
  ∃mv:List (Nat×Nat×Nat),zQ ↑W v mv.length 3 (mv.flatMap mvC)/\∀x∈mv,x.1<256/\x.2.1<256/\x.2.2<256 :=
 QhI underlying37 oe oe I h
theorem QcM {l:PwV}{lv:O2}{mv:List (Nat×Nat×Nat)}(h3:∀x∈mv,x.1<256/\x.2.1<256/\x.2.2<256)(hk:zQ ↑w lv mv.length 3 (mv.flatMap mvC))(G:PwA w l)(O:Kb w 4096):
  QY sV 3 [sT (Jk l),lv] w λr w'=>r=.bool true/\sX w w':=by
 refine Zq func3 ?_;refine Qc<|Zl (Jk l) λb1 w1 ha hK ho=>Qb ?_;have hp:(Jk l).length=152:=QoG (l:=l.pl []) G.n;refine Qd<|QX (α:=Bool) [(10,21)] (λz=>[(21,.bool z)]) (λz w'=>sX w1 w'/\(z=false->l.n<=4/\mv.length<=4)) om ?_ ?_
 ·refine Qs<|Qz<|(jy (O.I ha)).Y ?_;rintro r2 w2 ⟨rfl,H⟩;refine xB (Zy U) (λh=>OW h od) (λ_=>?_);refine Qa<|QT (ho.I H) U hp<|Qz<|(Qk8 (l:=l) ⟨G.n,G.b,G.f0,G.f1,G.f2,G.bd,λhn=>by
   obtain⟨rs,h1,h2⟩:=G.r hn;exact⟨rs,h1,(h2.I ha).I H⟩⟩).Y ?_
  rintro r3 w3 ⟨rfl,I⟩;refine xB (Zy U) (λhq=>?_) (λhq=>?_)
  ·refine QC U<|Qa<|Zt<|QC U<|xe ?_;exact⟨true,La,H.D I,λh=>by cases h⟩
  refine QC U<|Qa<|Qa<|x (QoB (((hk.I ha).I H).I I) U)<|x (Yc U U)<|QC U<|xe ?_;exact⟨decide ((4:Int)<(mv.length:Int)),La,H.D I,λh=>⟨oA hq,ov (O0 h)⟩⟩
 rintro z g w2 ⟨H,hr⟩;have hc:=ha.D H;refine QU rfl (λhg=>?_) (λhg=>?_)
 ·refine Qc<|Qz<|(jy (O.I hc)).Y ?_;rintro r3 w3 ⟨rfl,I⟩;refine Qb<|Qh ⟨[.bool true],La,U,hc.D I⟩
 have hL:=(hr hg).2;refine Qf<|Exists.elim (G.pl hc ((hr hg).1)) λrs h4=>?_;refine Qc<|QT (ho.I H) U hp<|Qz<|(Qg2 h4.1).Y ?_;rintro r3 w3 ⟨I,_,⟨c,rfl,rfl,hC⟩,hD⟩;have ht:=hC [] od;refine QM Z8 λb3 w4 h5 h6 h7=>QK c.cells h7 ht.ones λw5 h8 hh=>xe ?_;have hu:sX w3 w5:=h5.O h8 h6;have hi:=(hc.D I).D hu;have hj:=ht.I hu;have hz:=Vf hD.ck;refine Qc<|QT hh U U<|Qz<|(Qle hj hz (O.I hi)).Y ?_;rintro r6 w6 ⟨S,vp,rfl,h9,hA⟩;refine Qa<|QW U U<|QW U U<|x Qi<|Qb ?_;have T:=hi.D S;by_cases J:VB c.V=0
 rotate_left
 ·refine Qc<|QT (hh.I S) U U<|Qz<|(yr (hj.I S) od hz (O.I T)).Y ?_;rintro r7 V ⟨he,vm,rfl,_,_⟩;refine Qa<|QW U U<|QW U U<|x Qi<|Qb ?_;have hB:=h9 J;subst hB;refine Qd<|Qj<|Zx U U<|xe<|QO U (λhf=>?_) (λhf=>OW J hf);refine QX (α:=Unit) [(4,4),(37,43)] (λ_=>[(4,.bool true)]) (λ_ w'=>w'=V) om ?_ ?_
  ·refine Qs<|Qa<|x (Jj underlying47 U U)<|Qa<|Qa<|Qa<|x (QoC U U U)<|QC U<|Qb<|⟨(),La,U⟩
  rintro _ g8 w8 rfl;exact Qh ⟨[.bool true],La,U,T.D he⟩
 refine Exists.elim (hA J) λs hs=>?_;have evp:=hs.1;have hv:=hs.2.2.1;have hSy:=hs.2.2.2;refine Qc<|QT (hh.I S) U U<|Qz<|(yr ((hj.up (L':=s.own) (λb E=>.inr (hv b E))).I S) hSy.lt hz (O.I T)).Y ?_;rintro r7 V ⟨he,vm,rfl,hM,hE⟩;refine Qa<|QW U U<|QW U U<|x Qi<|Qb ?_;have hy:=T.D he;refine Exists.elim (hE J) λm Y=>?_;have hF:jR 1 (m.own++s.own) V s m:=jR.new hSy Y.2.2.2 Y.2.2.1 he J hs.2.1 Y.2.1;have hfr:∀b∈s.own++m.own,↑w<=b:=λb E=>(Lc.1 E).elim (λE=>LH hi.size (hv b E)) (λE=>LH T.size (Y.2.2.1 b E));have h0:∀w',O5 (s.own++m.own) V w'->sX w w':=λw' hw=>hy.S hw λb E=>.inr (hfr b E);have hG:Zn (m.own++s.own) ↑V lv mv.length 3 (mv.flatMap mvC):=((hk.arr oa).up (λb E=>.inr (hfr b (Lc.2 ((Lc.1 E).symm))))).I hy;have hMv:=Qjc hF oa h3 hG (λw' hw=>O.I (h0 w' hw));rw[<-evp,<-Y.1]at hMv;refine Qd<|Qj<|Zx U U<|xe<|QO rfl (λhf=>OW J hf) (λ_=>?_);refine Qf<|QX (α:=Unit) [(4,4),(44,55)] (λ_=>[(4,.bool true)]) (λ_ w'=>sX w w') om ?_ ?_
 ·refine Qs<|Qa<|xb (QR U U) (λ_=>?_) (λhH=>OW J hH);refine Qa<|Qa<|x (Ql7 underlying47 (show Go.Lg.ev _ _=.pointer (some ⟨s.b,0,none⟩) from evp) U)<|QC U<|Qa<|Qa<|Qa<|Qa<|Qz<|hMv.Y ?_;rintro _ w9 ⟨rfl,_,_,_,_,_,_,hI,_⟩;refine QC U<|Qb<|⟨(),La,h0 _ hI⟩
 rintro _ g9 hN hJ;exact Qh ⟨[.bool true],La,U,hJ⟩
theorem XC {a b:Bool}(E:a=true)(G:b=true):(a && b)=true:=by rw[E,G];rfl
theorem QbH {f:FuncId}{s:ChangeSpec}{c:OpenClaim}(E:(c.wf (OpenSpec.ofChange s))=true)(G:(laidOutB P)=true)(H:(mapsRowed P)=true)(I:(fn.params.all (P.readableRec ·))=true)(J:(namedTie P c.named s.vars)=true)(O:((c.stops == []))=true)(S:((P.stops == []))=true)(T:((c.knobs == []))=true)(V:((P.stopKnobs == []))=true)(Y:((c.inPlace == P.inPlace f))=true)(ha:((c.unfollowed == P.unfollowed f))=true)(hb:((c.recurses == P.recurses f))=true)(hc:((c.named == P.varsNamed f))=true)(he:((c.maps == (fn.params.toList++s.plain.varTypes P).any (P.mapsRec ·)))=true)(hf:((c.ifaces == (fn.params.toList++s.plain.varTypes P).any (P.ifacesRec ·)))=true)(hg:((c.mapsOut == P.mapsAmong fn.resultTypes.toList))=true)(hh:((c.loops == (fn.params.toList++s.plain.varTypes P).any (P.loopsFrom ·)))=true)(hi:((c.wideKeys == (fn.params.toList++s.plain.varTypes P++fn.resultTypes.toList).any (P.wideKeysFrom ·)))=true)(hj:(s.vars.all (P.varReadable ·))=true)(hk:(fn.resultTypes.all (λt=>P.readableRec t && decide (t<P.types.size)))=true)(hl:((c.ifacesOut == fn.resultTypes.toList.any (P.ifacesRec ·)))=true)(hm:((c.loopsOut == fn.resultTypes.toList.any (P.loopsFrom ·)))=true)(hn:((c.plainKeys == P.plainKeys))=true)(ho:(c.shortTexts.isNone)=true)(hp:(P.stopsHeard)=true)(hq:(P.mayEnter)=true)(hr:((c.lifted == P.liftsFinal))=true)(hs:((P.make == some c.make))=true)(ht:((c.kinds == (if c.domain.isEmpty then[]else fn.params.toList.map λt=>match P.underlying t with|some (.int k)=>some k|_=>none)))=true)(hu:((c.pinned == c.pinnedBy))=true)(hv:((c.veiled == (fn.params.toList++s.plain.varTypes P++fn.resultTypes.toList).any (P.veiledRec ·)))=true)(hw:(c.veiledFits P fn.params.toList (fn.params.toList++s.plain.varTypes P++fn.resultTypes.toList))=true):joinedFacts P f fn s c=true:=by
 unfold joinedFacts;exact(XC (XC (XC (XC (XC (XC (XC (XC (XC (XC (XC (XC (XC (XC (XC (XC (XC (XC (XC (XC (XC (XC (XC (XC (XC (XC (XC (XC (XC (XC (XC E G) H) I) J) O) S) T) V) Y) ha) hb) hc) he) hf) hg) hh) hi) hj) hk) hl) hm) hn) ho) hp) hq) hr) hs) ht) hu) hv) hw)
theorem yV:laidOutB sV=true:=oe
theorem Qjx:mapsRowed sV=true:=oe
theorem Qjz:sV.stopsHeard=true:=oe
theorem QjA:sV.mayEnter=true:=oe
theorem Qjy:(false == sV.liftsFinal)=true:=oe
theorem QmC:(sV.make == some Make.cut)=true:=oe
theorem QjE:(Rows.updateEditsRow.inPlace == sV.inPlace 3)=true:=oe
theorem QjD:(Rows.updateEditsRow.unfollowed == sV.unfollowed 3)=true:=oe
theorem QjC:(Rows.updateEditsRow.recurses == sV.recurses 3)=true:=oe
theorem QjB:(Rows.updateEditsRow.named == sV.varsNamed 3)=true:=oe
theorem QmD:Rows.updateEditsRow.wfByText (OpenSpec.ofChange Rows.updateEditsSpec)=true:=oe
theorem QmG:Tryz.pinned.checked.prog.mainIs=some (true, "e995ae75cd4cf4b754d7f901a88cdfcf3d7684c5795a6bc3a5d780dc25555f9f".toList):=oe
theorem QmF:sV.funcNamed "overseer/overseerlaw56.UpdateEdits" = some 3:=oe
theorem QmH:false=sV.looks []:=oe
theorem QmE:([36,37].all λu=>!sV.wantsStandIn u)=true:=oe
theorem QmI:false=Rows.updateEditsRow.goesBy Tryz.pinned.checked.prog:=oe
end Go.Lg
