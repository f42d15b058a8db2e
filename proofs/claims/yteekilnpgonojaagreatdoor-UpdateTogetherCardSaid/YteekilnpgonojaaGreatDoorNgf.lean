/- Merged out of 22 texts. -/
import Derived.Test.YteekilnpgonojaaGreatDoorNge
import Derived.Test.YteekilnpgonojaaGreatDoorRows
import Derived.JoinedOf
import Derived.Test.YteekilnpgonojaaGreatDoorCards
import Derived.SevenTiedAt
set_option maxHeartbeats 40000000
set_option maxRecDepth 100000
set_option linter.all false
open Go Go.Lg
open Go.Value renaming int->oG
open Go.IntKind renaming i64->oH
open _root_.List renaming mem_singleton->oJ,not_mem_nil->oK,mem_cons->oL,length_append->oN,length_singleton->oP,length->oQ,getD->oR
open Go renaming World->O1,Value->O2,Operand->O3,Program->O4
open Go.Proofs Go.Proofs.Tryz
open Go.Proofs.Tryz renaming prog->sV
open Go.Proofs.YteekilnpgonojaaGreatDoor
variable {w w':O1}{L L' X ns L2:LN}{n t i sz b T j g E N id ty cap b1 B kt hi b2 M gp:Nat}{cs us news:LV}{H:xC}{a:Q6}{α β:Type}{y G:O3}{z va ve vm vl vs vb vx vk:O2}{l u al out rs:LI}{c:ZF}{f f1:Fr}{P:O4}{fn:Func}{s:JR}{q:DV}{o:Oper}{es:List Ed}{d:xF}{af:xD}{gd:xt}{K:xz}{bf:List xJ}{k':IntKind}{qs:List IV}{at_:Array Nat}{co:List XC}
namespace Go.Lg
theorem zg {pS:String}{fs:Array Field}(ft o:Nat){x:O3}{v:O2}(E:P.underlying t=some (.struct fs))(G:(fs[j]?).map (λd=>(d.type,d.offset))=some (ft,o))[h1:X6 P ft](hx:ev f x=sT us)(H:us[o]?=some v):
  (execOp (ev f) ⟨d,.field t x j,ty,pS,af,gd⟩).run P w=.ok (.value v) w:=by
 obtain⟨fd,I,J⟩:=Mr.1 G;cases J
 simp[execOp,hx,Instr.field,run_underlying E,I,asAgg,part,Qau (t:=fd.type),H]
theorem Qee:QbA.co.length=3:=oe
theorem Qbr {c:CL}(h:c.V=QbA){k:Nat}(E:k<c.co.length):(c.co[k]'E).nm=JC k:=by
 have e:c.co.map (·.it)=QbA.co:=OV ZF.co h;unfold JC;rw[<-e,Ns,Nd,LF E];rfl
theorem Qjl:JD (JC 1):=OY (p:=(JC 1).size<=9223372036854775807) oe
theorem QoK:JD (JC 2):=OY (p:=(JC 2).size<=9223372036854775807) oe
abbrev Qp7:List (ByteArray×Int):=[(JC 1,0),(JC 2,1)]
abbrev Qj5 (b:Nat):ZU:=⟨false,⟨3,Xc,⟨Zm,Zm,Zm,Vo⟩,sL b 2 2,Qp7,Zm,[],0⟩⟩
abbrev Qj2:ZU:=⟨true,⟨1,JC 1,⟨Zm,Zm,Zm,Vo⟩,Zm,[],Zm,[],0⟩⟩
abbrev QpZ:LV:=[.bool false,sS 0,.string .empty,nS,sS 0,nS,nS,nS,nS,sS 0]
instance:Bw sV 65 QpZ [(0,1),(1,9)]:={}
theorem QnB :ZM L H Zm Zm Zm Vo:=⟨Zo.nil _ _ _,Zo.nil _ _ _,Zo.nil _ _ _⟩
theorem Qpd {T1 T2:Nat}(G:QY H b1 T1 (Qp7.flatMap ZN))(I:QY H b2 T2 (ZQ (Qj5 b1)))(n1:JD (JC 1))(J:JD (JC 2)):zc [] H (sL b2 1 1) [Qj5 b1]:=by
 refine⟨I.arr od (n:=1) (cap:=1) (sz:=10) rfl ol (Lv _),λq O=>?_⟩;rw[Lb.1 O];refine⟨XD ol,QnB,⟨G.arr od (n:=2) (cap:=2) (sz:=2) rfl ol (Lv _),λp E=>?_⟩,V2.nil⟩;rcases Li.1 E with rfl|E
 ·exact n1
 rw[Lb.1 E];exact J
theorem Qpe {T2:Nat}(E:QY H b2 T2 (ZQ Qj2))(n1:JD (JC 1)):zc [] H (sL b2 1 1) [Qj2]:=by
 refine⟨E.arr od (n:=1) (cap:=1) (sz:=10) rfl ol (Lv _),λq G=>?_⟩;rw[Lb.1 G];exact⟨n1,QnB,V2.nil,V2.nil⟩
theorem j7 {x:Yi}(E:x.ls.length<=2)(G:x.ts.length<=2):q7 x:=⟨oa,oa⟩
theorem qG {E:O1}(G:sX w E)(h:∀b∈s.own,↑w<=b)(H:O5 s.own E w'):sX w w':=G.then H λb I=>.inr (h b I)
theorem Qeb (hq:Kb w 4096):
  QZ sV 31 [] w λr w'=>r=.bool true/\sX w w':=by
 refine Zq func31 ?_;refine Qc<|Qb<|Qc<|Qz<|(JG w).mono ?_;rintro _ w1 ⟨hi,c1,rfl,hr,gp⟩;have hN:=QlP (gp [] od) (VK (by rw[hr];exact QoN)) (hq.I hi) (by rw[hr];exact Qmn);rw[hr]at hN;refine Qz<|hN.mono ?_;rintro _ w2 ⟨gq,s,rfl,esys,gr,hA,hSy⟩;have ht:=hi.D gq;refine Qa<|QW U U<|QW U U<|x Qi<|Qb<|Qe<|QX (α:=Unit) [(14,19)] (λ_=>[(19,.bool false)]) (λ_ w'=>w'=w2) om ?_ ?_
 ·refine Qs<|Qa<|xb (XM U U) (λhC=>OW U hC) (λhC=>?_);refine Qa<|Qa<|x (XN underlying46 U U)<|QE U<|xe ?_;exact⟨(),La,U⟩
 rintro⟨⟩ g3 H rfl;refine ZO rfl<|Qf ?_;have hj:sX H { H with drawn:=H.drawn+1 }:=O5.C _ _
 have hk:=hSy.lt;refine QX (α:=Nat×V3×JR) [(20,40),(3,4)] (λz=>[(3,pS z.1),(4,sS 0)]) (λz w'=>O5 s.own H w'/\z.2.2.b=s.b/\z.2.2.sys=Qfu/\Yu 2 z.2.2.sys/\z.2.1.rp=YM (KU KG.c U1).2 KG.ps 1/\(∀b∈z.2.2.own,b∈s.own\/↑H<=b)/\z.1∉z.2.2.own/\Vd z.2.2.own w' z.2.2/\Jr [] w'.heap z.2.1/\∃T,QY w'.heap z.1 T (Q0 z.2.1)) om ?_ ?_
 ·refine QaX (α:=V3×JR) (O5 s.own H) [oE 0] [oF 1,oE 2,oE 3,oE 4,oE 5,oE 6,oF 7,oE 8,oE 9,oE 10,oE 11,oE 12,oF 13,oE 14,oE 15,oF 16,oF 17,oE 18,oE 19,oE 20] 21 3 [oF 22,oE 23] s.own
   [(20,40)] [(20,20),(22,40)] (λz=>[(39,sT (Q0 z.1)),(40,sS 0)])
   (λz _ own w'=>O5 s.own H w'/\z.2.b=s.b/\z.2.sys=Qfu/\Yu 2 z.2.sys/\z.1.rp=YM (KU KG.c U1).2 KG.ps 1/\(∀b∈z.2.own,b∈s.own\/↑H<=b)/\∀J,↑H<=J->J∉own->J∉z.2.own/\Vd (J::z.2.own) w' z.2/\Jr [J] w'.heap z.1)
   (λv w'=>∃b T,v=pS b/\↑H<=b/\QY w'.heap b T ZT) mixed om oe om U hj.any (λ_ _ h1 h2=>h1.D h2) hk ?_ ?_ ?_ ?_
  ·rintro v own wa wb ⟨b,T,rfl,E,hB⟩ G V;exact⟨b,T,U,E,hB.J G (V b ou)⟩
  ·rintro z _ own wa wb ⟨h1,h2,h3,h4,h5,h6,S⟩ G;exact⟨h1.D G,h2,h3,h4,h5,h6,λJ ha V=>⟨(S J ha V).1,(S J ha V).2.1.I G,(S J ha V).2.2.I G⟩⟩
  ·rintro⟨q,Y⟩ g own wz v C' ⟨h1,h2,h3,h4,h5,h6,S⟩ mh _ ⟨b,T,rfl,E,hB⟩ gs;obtain⟨n1,n2,n3⟩:=S b E (gs b ou).1;refine pkk<|JW (Q0 q) hB n3.ones λw8 hf hv=>p ZG<|pe ?_;exact⟨(b,q,Y),oB,h1.then hf (λc I=>by rw[Lb.1 I];exact .inr E),h2,h3,h4,h5,h6,n1,(n2.J hf (λc I=>.inl (by rw[Lb.1 I];exact Lq)) (λc I hm=>n1 (Lb.1 hm ▸ I))).up (λc I=>.inl (Lj _ I)) (λc I=>I),(n3.st (hf.mono λc I=>I)).up od,T,hv⟩
  refine p Qx<|pe ⟨λg wf hD=>K1 (us:=ZT) U λb mj hE hF hG=>⟨hE,hD.D hE,⟨b,_,U,LH hD.size hF,hG⟩,λx hx=>?_⟩,?_⟩
  ·have gt:x=b:=by
    have gu:x∈[b]:=hx;simpa using gu
   subst gt;exact⟨hF,hG.lt⟩
  refine f3k λx1 p1 c1=>?_;refine xg<|(JG x1).mono ?_;rintro _ y1 ⟨q1,e1,rfl,hH,gv⟩;have mo:e1.co.length=3:=by rw[<-Qee,<-hH];exact(Lh _).symm
  have gw:=gv s.own (λb E=>LO (hk b E) (LH hj.size p1.size));refine⟨λx=>O5 s.own H x/\O5 s.own y1 x,λx hx=>hx.1,λx x' hx G=>⟨hx.1.D G,hx.2.D G⟩,⟨c1.D q1,O5.Z _ _⟩,s.own,q1.any,λb E=>.inl E,?_⟩;obtain⟨a1,mq,gx,hI⟩:=Zo.at gw.co.arr (i:=1) oa;rw[XZ QK 5 Ys e1.co 1 oa]at hI;have gy:(e1.co[1]'oa).nm=JC 1:=Qbr hH oa;refine Ui (λ_=>zg 40 1 underlying44 U U U)<|Ui (λ_=>Xv (show Go.Lg.ev _ _=_ from gx) U ol oa)<|Ui (λ_=>Zf U) <|
   f3q (λ_ I=>Qy ((hI.st I.2).fld 0 (.string (JC 1)) (OV (λn=>some (Value.string n)) gy)) U)<|Ui (λ_=>Qv oB) ?_
  refine f3k λx2 p2 c2=>?_;refine xg<|(JG x2).mono ?_;rintro _ y2 ⟨q2,e2,rfl,hJ,gz⟩;have ms:e2.co.length=3:=by rw[<-Qee,<-hJ];exact(Lh _).symm
  have g0:=gz s.own (λb E=>LO (hk b E) (LH hj.size (LH p1.size (LH q1.size p2.size))));refine⟨λx=>(O5 s.own H x/\O5 s.own y1 x)/\O5 s.own y2 x,λx hx=>hx.1,λx x' hx G=>⟨⟨hx.1.1.D G,hx.1.2.D G⟩,hx.2.D G⟩,⟨⟨c2.1.D q2,c2.2.D q2⟩,O5.Z _ _⟩,s.own,q2.any,λb E=>.inl E,?_⟩;obtain⟨a2,mt,g2,hK⟩:=Zo.at g0.co.arr (i:=2) oa;rw[XZ QK 5 Ys e2.co 2 oa]at hK;have g6:(e2.co[2]'oa).nm=JC 2:=Qbr hJ oa;refine Ui (λ_=>zg 40 1 underlying44 U U U)<|Ui (λ_=>Xv (show Go.Lg.ev _ _=_ from g2) U ol oa)<|Ui (λ_=>Zf U) <|
   f3q (λ_ I=>Qy ((hK.st I.2).fld 0 (.string (JC 2)) (OV (λn=>some (Value.string n)) g6)) U)<|Ui (λ_=>Qv oB) ?_
  refine f3k λx3 p3 c3=>Za [[.string (JC 1),sS 0],[.string (JC 2),sS 1]] λb13 x4 p4 mu g7=>?_;refine⟨λx=>(O5 s.own H x/\O5 s.own y1 x)/\O5 s.own y2 x,λx hx=>hx,λx x' hx G=>⟨⟨hx.1.1.D G,hx.1.2.D G⟩,hx.2.D G⟩,⟨⟨c3.1.1.D p4,c3.1.2.D p4⟩,c3.2.D p4⟩,s.own,p4.any,λb E=>.inl E,?_⟩;refine Ui (λ_=>Q5 [(0,[sS 3]),(1,[.string Xc]),(3,[sL b13 2 2])] ⟨U,U,U,U,U,U,Z⟩)<|Ui (λ_=>Q5 [(1,[sS 3,.string Xc,Zm,sS 0,Zm,Zm,sL b13 2 2,Zm,sS 0])] oB) ?_;refine f3k λx5 p5 c5=>Za [ZQ (Qj5 b13)] λmv x6 p6 mw g8=>?_;refine⟨λx=>(O5 s.own H x/\O5 s.own y1 x)/\O5 s.own y2 x,λx hx=>hx,λx x' hx G=>⟨⟨hx.1.1.D G,hx.1.2.D G⟩,hx.2.D G⟩,⟨⟨c5.1.1.D p6,c5.1.2.D p6⟩,c5.2.D p6⟩,s.own,p6.any,λb E=>.inl E,?_⟩;refine f3k λx7 p7 c7=>?_;have hw:sX H x7:=(((((((hj.D p1).D q1).D p2).D q2).D p3).D p4).D p5 |>.D p6).D p7;have hL:=hw.size;have g9:Vd (Uq ↑H ↑x7++s.own) x7 s:=(hSy.up (λb E=>by
   rcases Lc.1 E with E|E
   ·exact .inr (Zw.1 E).1
   exact .inl (Lc.2 (.inl E))) (λb E=>Lc.2 (.inr E))).I hw
  have hR:=yp g9 gr ol (λb E=>by
   rcases Lc.1 E with E|E
   ·exact(Zw.1 E).2
   exact LO (hk b E) hL) (Qpd (g7.I ((p5.D p6).D p7)) (g8.I p7) Qjl QoK) (by
   intro e he;rw[show[Qj5 b13].map ZU.e=U1 from rfl]at he;rw[Lb.1 he];exact j7 ol ol) (hq.I (ht.D hw))
  rw[show[Qj5 b13].map ZU.e=U1 from rfl,esys,show Qbs QbA=KG from rfl,QoM]at hR;refine xg<|hR.mono ?_;rintro my x8 ⟨qr,rfl,hN,_,hl⟩;have hl:=hl U;refine Exists.elim hl.2 λY O=>?_;refine⟨λx=>(O5 s.own H x/\O5 s.own y1 x)/\O5 s.own y2 x,λx hx=>hx,λx x' hx G=>⟨⟨hx.1.1.D G,hx.1.2.D G⟩,hx.2.D G⟩,⟨⟨c7.1.1.Q O.2.2.2.1,c7.1.2.Q O.2.2.2.1⟩,c7.2.Q O.2.2.2.1⟩,Y.own++Uq ↑x7 ↑x8,O.2.2.2.1,λb E=>?_,?_⟩
  ·rcases Lc.1 E with E|E
   ·exact(O.2.2.2.2.2 b E).imp id λh=>⟨h,O.2.2.2.2.1.lt b E⟩
   exact .inr (Zw.1 E)
  refine Ui Qx<|Ui (λ_=>Zi U U)<|Ui (λ_=>Zi U U)<|f3e ?_;refine⟨(qr,Y),oB,c7.1.1.Q O.2.2.2.1,O.1,O.2.1,O.2.2.1,hl.1,λb E=>?_,λJ ha V=>⟨λhm=>V (Lc.2 (.inl hm)),?_,?_⟩⟩
  ·exact(O.2.2.2.2.2 b E).imp id λh=>LH hL h
  ·refine O.2.2.2.2.1.up (λb E=>?_) (λb E=>Lj _ E);rcases Li.1 E with rfl|E
   ·by_cases S:b<↑x7
    ·exact .inl (Lc.2 (.inr (Lc.2 (.inl (Zw.2 ⟨ha,S⟩)))))
    by_cases h8:b<↑x8
    ·exact OW (Lc.2 (.inr (Zw.2 ⟨Nr S,h8⟩))) V
    exact .inr (Nr h8)
   exact .inl (Lc.2 (.inl E))
  by_cases S:J<↑x7
  ·exact hN [J] (λb E=>by rw[Lb.1 E];exact S)
  by_cases h8:J<↑x8
  ·exact OW (Lc.2 (.inr (Zw.2 ⟨Nr S,h8⟩))) V
  exact(hN [] (λb E=>by cases E)).up λb E=>by rw[Lb.1 E];exact .inr (Nr h8)
 rintro⟨b3,qr,Y⟩ g4 w4 ⟨ka,e1,e2,hO,e3,kb,n1,hP,kc,T3,ke⟩;have hQ:sX w w4:=qG ht (λb E=>LH hi.size (hA b E)) ka;have kf:qr.k1=[(1,Xb)]:=(OV Rp.kept e3).D QoI;have kg:qr.k2=[(2,Xc)]:=(OV Rp.made e3).D QoH;have kh:qr.k3=[]:=(OV Rp.gone e3).D QoJ;have ki:Y.made=3:=(OV jr.made e2).D Qjm;have kj:Y.sys.un≠[]:=by rw[e2];exact List.append_ne_nil_of_right_ne_nil _ (List.cons_ne_nil _ _)
 refine Qj<|Qz<|(JG w4).mono ?_;rintro _ w5 ⟨hy,c5,rfl,hS,kk⟩;have mz:c5.co.length=3:=by rw[<-Qee,<-hS];exact(Lh _).symm
 refine x (zg 40 1 underlying44 U U U)<|O8 (g:=QK) (i:=1) Ys (kk [] od).co.arr rfl rfl oa λm2 kn=>?_;refine x (Zf U)<|x (Qy (kn.fld 0 (.string (JC 1)) (OV (λn=>some (Value.string n)) (Qbr hS oa))) U) <|
  x (Q5 [(0,[sS 1]),(1,[.string (JC 1)])] ⟨U,U,U,U,Z⟩)<|x (Q5 [(0,[.bool true]),(1,[sS 1,.string (JC 1),Zm,sS 0,Zm,Zm,Zm,Zm,sS 0])] ⟨U,U,U,U,Z⟩) <|
  Qn<|Za [ZQ Qj2] λm3 w6 hz m4 ko=>?_
 have hT:=(hP.I hy).I hz;have hR5:=yp hT hO ol hT.lt (Qpe ko Qjl) (by
  intro e he;rw[show[Qj2].map ZU.e=Qjn from rfl]at he;rw[Lb.1 he];exact j7 ol ol) (hq.I ((hQ.D hy).D hz))
 rw[show[Qj2].map ZU.e=Qjn from rfl,e2,QoL,e1]at hR5;refine Qz<|hR5.mono ?_;rintro r9 w7 ⟨kq,rfl,kr,kt,_⟩;refine Qa<|QW U U<|QW U U<|QM ZT λb5 w8 hf ku kv=>QI (Q0 kq) kv (kr [] od).ones λw9 kw m5=>Qb ?_;have kx:sX w4 w9:=((hy.D hz).D ((kt ol).1)).D (hf.O kw ku);refine Qc<|x (Qv ⟨U,U,Z⟩)<|x (Qv ⟨U,U,Z⟩)<|QM [sS 0,.string .empty] λb7 m6 kz k0 hW=>QM [sS 0,.string .empty] λb8 m7 hX m8 hv =>
  QI (Xp (1,Xb)) (hW.I hX) oB λm9 hY k4=>?_
 have pa:=hW.lt;refine QI (Xp (2,Xc)) (hv.J hY oh) oB λhZ ga k5=>xe ?_;have k6:sX w9 hZ:=((kz.D hX).O hY k0).O ga oa;have ho:=kx.D k6;have h0:=ke.I ho;have h9:=kc.I ho;have gb:=hP.I ho;have gc:=h9.a1;have gg:=h9.a2;have gh:=h9.a3;rw[kf]at gc;rw[kg]at gg;rw[kh]at gh;refine QX (α:=Unit) [(0,0),(56,96)] (λ_=>[(0,.bool true)]) (λ_ w'=>O5 Y.own hZ w') om ?_ ?_
 ·refine Qs<|Qa<|xb (QT U U) (λgi=>?_) (λgi=>OW U gi);refine Qa<|Qo U h0 U U<|QS (k4.J ga oh) U U<|Qn<|Za [Xp (1,Xb)] λpc pd gj pf k7 =>
   Qz<|(Jj (L:=[]) (L':=[]) (l:=[(1,Xb)]) (gc.I gj) (k7.arr od (n:=1) (cap:=1) (sz:=2) rfl ol (Lv _))).mono ?_
  rintro _ pg ⟨rfl,k8⟩;have hp:=gj.D k8;refine QE U<|Qa<|Qo U (h0.I hp) U U<|QS (k5.I hp) U U<|Qn<|Za [Xp (2,Xc)] λph pj gk pm k9 =>
   Qz<|(Jj (L:=[]) (L':=[]) (l:=[(2,Xc)]) ((gg.I hp).I gk) (k9.arr od (n:=1) (cap:=1) (sz:=2) rfl ol (Lv _))).mono ?_
  rintro _ pn ⟨rfl,ma⟩;have hh:=(hp.D gk).D ma;refine QE U<|Qa<|Qo U (h0.I hh) U U<|QF (gh.I hh) U<|xb (QT U U) (λgl=>?_) (λgl=>OW U gl);refine QE U<|Qa<|Qa<|xb (QT U U) (λgm=>?_) (λgm=>OW U gm);have hM:=Qcm (gb.I hh);have hU:=Qck (gb.I hh) hO;have hU:=hU.mono λr w' h=>h.2 kj;rw[e1]at hM hU;refine QE U<|Qa<|Qa<|Qz<|hM.mono ?_;rintro _ po ⟨rfl,rfl⟩;refine xb (QT U U) (λgn=>?_) (λgn=>OW ki gn);refine QE U<|Qa<|Qa<|Qz<|hU.mono ?_;rintro _ pp ⟨rfl,hu⟩;refine Exists.elim hu λs2 hu=>?_;have hV:=Qck hu.2.2.2.2.1 hu.2.2.1;rw[hu.1]at hV;refine xb (QT U U) (λgo=>?_) (λgo=>OW U go);refine QE U<|Qa<|Qa<|Qz<|(hV.mono λr w' h=>h.1 (by rw[hu.2.1,e2];rfl)).mono ?_;rintro _ pu ⟨rfl,mf⟩;refine x (QT U U)<|QE U<|Qb<|⟨(),La,(hh.any.Q hu.2.2.2.1).D mf⟩
 rintro _ g5 pw mg;refine Qh ⟨[.bool true],La,U,qG (hQ.D ho) (λb E=>?_) mg⟩;rcases kb b E with h|h
 ·exact LH hi.size (hA b h)
 exact LH ht.size h
theorem At.pre {a:Addr}(h:At L H a us)(n:Nat):At L H a (us.take n):=
 ⟨λu E=>h.out u (LU E),λu E=>h.lt u (LU E),λj u E=>by
  rw[LW]at E;split at E
  ·exact h.cell j u E
  cases E⟩
instance:Bw sV 165 z15 [(0,10),(10,5)]:={}
theorem jv (E:Kb w 4096):QZ sV 8 [] w λr w'=>r=.bool true/\sX w w':=by
 refine Zq func8 ?_;refine Qc<|Qb<|QX (α:=Unit) [(0,4)] (λz=>[(0,.bool true)]) (λz w'=>sX w w') om ?_ ?_
 ·refine Qs<|Qz<|(Qeb E).mono ?_;rintro J O ⟨rfl,G⟩;refine Qa<|Qz<|(QeL (E.I G)).mono ?_;rintro r2 S ⟨rfl,H⟩;refine QE U<|Qb<|⟨(),La,G.D H⟩
 rintro z g T I;exact Qh ⟨[.bool true],La,U,I⟩
theorem Qjk {c:CL}{q:MV}(h0:ZH L w.heap c)(hu:0<=q.ix)(hk:q.kd=1\/q.kd=2\/q.kd=3)(hr:q.kd=1->q.ix<(c.rq.length:Int))(hx:q.kd=2->q.ix<(c.ex.length:Int))(hs:q.kd=3->q.ix<(c.cs.length:Int)):
  QZ sV 110 [c.val,.agg #[sS q.kd,sS q.ix,q.v]] w λr w'=>r=.agg #[sS (ZS c.V q.m).1,.string (ZS c.V q.m).2]/\sX w w':=by
 have hb:((q.ix.toNat:Nat):Int)=q.ix:=Int.toNat_of_nonneg hu;refine Zq func110 ?_;refine Qc<|Zl c.cells λb2 w1 hl h4 hv=>Zl [sS q.kd,sS q.ix,q.v] λb3 w2 hc h6 hm=>QM [sS 0,.string .empty] λb4 w3 T h7 hn=>xe ?_;refine Qc<|Qo U (hm.I T) U U<|x (Qv ⟨U,Z⟩)<|QM [sS 0,.string .empty] λb5 w4 hw hy hz=>QI [sS q.kd,.string .empty] hz oB λw5 h1 he=>xe ?_;have V:sX w3 w5:=hw.O h1 hy;have ho:=((hl.D hc).D T).D V;have hf:=((hv.I hc).I T).I V;have Y:=(hm.I T).I V;have hg:=hn.I V;have h8:=hn.lt;have hh:b4∉[b5]:=oh
 have h9:=hl.size;have hA:=hc.size;have h5:=(h0.up (L':=[]) od).I ho;have fin:∀(nm:ByteArray) (I w8:O1),(ZS c.V q.m)=(q.kd,nm)->O5 [b5] w5 I->QY I.heap b5 75 [sS q.kd,.string nm]->O5 [b4] I w8->(Value.agg #[sS q.kd,.string nm]=.agg #[sS (ZS c.V q.m).1,.string (ZS c.V q.m).2]/\sX w w8):=λnm I w8 e h2 _ h3 =>
  ⟨by rw[e],(ho.O h2 oa).O h3 oa⟩
 refine Qe<|Qc<|Qo U Y U U<|xe<|Qm<|Qc<|x (QT U U)<|Qb<|QO U (λhi=>?_) (λhi=>?_)
 ·have hk1:q.kd=1:=hi;have E:q.ix.toNat<c.rq.length:=by have:=hr hk1;omega
  refine Qs<|Qo U hf U U<|Qo U Y U U<|O8 (g:=QK) (i:=q.ix.toNat) Ys h5.rq.arr U (show Go.Lg.ev _ _=_ from OV sS hb.symm) E λhp J =>
   x (Zf rfl)<|x (Qy (J.fld 0 (.string (c.rq[q.ix.toNat]'E).nm) U) U)<|QQ U<|Qn<|Qu (j:=1) (u:=.string (c.rq[q.ix.toNat]'E).nm) he U U od rfl λw6 G H=>xe ?_
  refine Qc<|QS H U U<|Qn<|Zv (us:=[sS q.kd,.string (c.rq[q.ix.toNat]'E).nm]) (hg.J G hh) U U U U oB λI O S=>xe ?_;refine Qh ⟨[.agg #[sS q.kd,.string (c.rq[q.ix.toNat]'E).nm]],⟨Yk S,Z⟩,fin _ _ _ ?_ G H O⟩;unfold ZS;rw[OU (show q.m.kd=1 from hk1)];refine Prod.ext U ?_;show((c.rq.map IV.it).getD q.ix.toNat ⟨.empty,Vo⟩).nm=_;simp[oR,E,IV.it]
 have hk1:¬q.kd=1:=hi;refine Qc<|x (QT U U)<|Qb<|QO U (λhj=>?_) (λhj=>?_)
 ·have ha:q.kd=2:=hj;have E:q.ix.toNat<c.ex.length:=by have:=hx ha;omega
  refine Qs<|Qo U hf U U<|Qo U Y U U<|O8 (g:=Q3) (i:=q.ix.toNat) Xw h5.ex.arr U (show Go.Lg.ev _ _=_ from OV sS hb.symm) E λhp J =>
   x (Zf rfl)<|x (Qy (J.fld 0 (.string (c.ex[q.ix.toNat]'E).nm) U) U)<|QQ U<|Qn<|Qu (j:=1) (u:=.string (c.ex[q.ix.toNat]'E).nm) he U U od rfl λw6 G H=>xe ?_
  refine Qc<|QS H U U<|Qn<|Zv (us:=[sS q.kd,.string (c.ex[q.ix.toNat]'E).nm]) (hg.J G hh) U U U U oB λI O S=>xe ?_;refine Qh ⟨[.agg #[sS q.kd,.string (c.ex[q.ix.toNat]'E).nm]],⟨Yk S,Z⟩,fin _ _ _ ?_ G H O⟩;unfold ZS;rw[OT (show ¬q.m.kd=1 from hk1),OU (show q.m.kd=2 from ha)];refine Prod.ext U ?_;show((c.ex.map XV.x).getD q.ix.toNat ⟨.empty,[]⟩).nm=_;simp[oR,E,XV.x]
 have ha:¬q.kd=2:=hj;have hq:q.kd=3:=oa
 have E:q.ix.toNat<c.cs.length:=by have:=hs hq;omega
 refine Qc<|x (QT U U)<|Qb<|QO U (λht=>?_) (λht=>OW hq ht);refine Qs<|Qo U hf U U<|Qo U Y U U<|O8 (g:=Q9) (i:=q.ix.toNat) Xq h5.cs.arr U (show Go.Lg.ev _ _=_ from OV sS hb.symm) E λhp J =>
  x (Zf rfl)<|x (Qy (J.fld 0 (.string (c.cs[q.ix.toNat]'E).nm) U) U)<|QQ U<|Qn<|Qu (j:=1) (u:=.string (c.cs[q.ix.toNat]'E).nm) he U U od rfl λw6 G H=>xe ?_
 refine Qc<|QS H U U<|Qn<|Zv (us:=[sS q.kd,.string (c.cs[q.ix.toNat]'E).nm]) (hg.J G hh) U U U U oB λI O S=>xe ?_;refine Qh ⟨[.agg #[sS q.kd,.string (c.cs[q.ix.toNat]'E).nm]],⟨Yk S,Z⟩,fin _ _ _ ?_ G H O⟩;unfold ZS;rw[OT (show ¬q.m.kd=1 from hk1),OT (show ¬q.m.kd=2 from ha)];refine Prod.ext U ?_;show((c.cs.map KV.k).getD q.ix.toNat ⟨.empty,[],0⟩).nm=_;simp[oR,E,KV.k]
theorem QlZ {l:List V5}{k:Ky}(hi:i<l.length)(h:KZ ((l.take i).map (·.pt)) k=none):
  ((l[i]'hi).e.ky=k->KZ (l.map (·.pt)) k=some (l[i]'hi).pt)/\((l[i]'hi).e.ky≠k->KZ ((l.take (i+1)).map (·.pt)) k=none):=by
 unfold KZ at h ⊢;refine⟨λe=>?_,λe=>?_⟩
 ·have E:l=l.take i++(l[i]'hi)::l.drop (i+1):=by rw[<-LE hi,MF]
  have G:l.map (·.pt)=(l.take i).map (·.pt)++((l[i]'hi).pt::(l.drop (i+1)).map (·.pt)):=by
   rw[<-LG,<-Lp,<-E]
  rw[G,List.find?_append,h,Option.none_or,List.find?_cons_of_pos];exact OX e
 rw[Lm hi,Lp,List.find?_append,h,Option.none_or,LG,List.find?_cons_of_neg]
 ·rfl
 exact λh=>e (OY h)
theorem QaB {v:O2}{ps:List V5}{k:Ky}(h0:jO L w.heap v ps):
  QZ sV 111 [v,sT (Xp k)] w λr w'=>sX w w'/\∃(us:LV) (is:Bool),r=.tuple #[sT us,.bool is]/\us.length=15/\Zb us/\(is=true->∃q∈ps,us=Zp q/\KZ (ps.map (·.pt)) k=some q.pt)/\(is=false->KZ (ps.map (·.pt)) k=none):=by
 have h:jO [] w.heap v ps:=h0.up od;have hu:=h.arr.le;refine Zq func111 ?_;refine Qc<|Zl (Xp k) λb3 w1 ha hv hj=>QM z15 λb4 w2 hb hw hl=>Qb ?_;have hm:=ha.D hb;refine Qe<|Qc<|Qb<|Q8 (α:=Nat) [(5,24)] (λz=>[(6,sS z)]) (λz w'=>z<=ps.length/\sX w2 w'/\KZ ((ps.take z).map (·.pt)) k=none) (λz=>ps.length - z) 0 La ⟨Ln _,O5.Z _ _,U⟩ ?_;rintro i g I ⟨hi,H,J⟩;have O:=hm.D H;have S:=Go.Lg.XK.I h O;have he:=hl.I H;have hy:=ha.size;refine Qe<|Qj<|Qa<|QF S.arr U<|Ya U U<|xe<|ZI rfl (λT=>?_) (λT=>?_)
 ·refine Qw ?_;have hn:ps.length<=i:=by have ho:¬(i:Int)<(ps.length:Int):=T;omega
  rw[Lt hn]at J;refine Qc<|x (Q5 [] Z)<|QI z15 he ⟨U,U,U,U,U,U,U,U,U,U,U,U,U,U,U,Z⟩ λw4 hp hr=>Qb<|Qh ⟨[sT z15,.bool false],⟨Yk hr,U,Z⟩,O.O hp oa,z15,false,U,U,⟨U,U,U,U,U,U,U,U,U,U,U,U,U,U,U,Z⟩,(λe=>by cases e),λ_=>J⟩
 have E:i<ps.length:=by have ho:(i:Int)<(ps.length:Int):=T;omega
 have V:=QlZ E J;have Y:=Ll E;refine Qf<|Qe<|Qm<|Qe<|ZA [] (YX 0 8 [])<|p Qx<|p Qx<|Lg.pig (g:=Zp) (i:=i) U KY S.arr U U E λhz hf=>?_;refine Zh (ps[i]'E) λq hq=>?_;rw[hq]at hf V Y;have hg:=h.each q Y;refine p (λ_=>Zf U)<|p (λ_=>Zf U) <|
  pq (λ_ hc=>Qr (us:=Xp q.e.ky) ((((hf.from 0).from 0).pre 2).I hc) U U)<|pq (λ_ hc=>Zr (((hj.I hb).I H).I hc) U U)<|p (λ_=>Qcv (xs:=Xp q.e.ky) (ys:=Xp k) U U U)<|pe ?_
 have hd:sX I { I with drawn:=I.drawn+1 }:=O5.C _ _
 refine QU rfl (λG=>?_) (λG=>?_)
 ·rw[Qbx]at G;have hk:q.e.ky=k:=OY G;refine Qj<|Qa<|O8 (g:=Zp) (i:=i) KY (Go.Lg.XK.I S hd).arr U U E λh1 hh=>?_;rw[hq]at hh;refine x (Qr hh U U)<|QI (Zp q) (he.I hd) hg.ones λw5 hs ht=>Qb<|Qh ⟨[sT (Zp q),.bool true],⟨Yk ht,U,Z⟩,(O.D hd).O hs oa,Zp q,true,U,U,hg.ones,λ_=>⟨q,Y,U,(V.1 hk)⟩,(λe=>by cases e)⟩
 rw[Qbx]at G;have hk:q.e.ky≠k:=O0 G;refine Qf<|Qs<|Qa<|QG U U<|Qb<|⟨i+1,oa,La,E,H.D hd,V.2 hk⟩
theorem Us {m:VN}{ss:List jM}{q:jM}(h:ju L w m)(e:m.ss=ss++[q])(hl:m.ss.length<=1000):
  QZ sV 59 [pS m.b] w λr w'=>r=sT (Xh q)/\sX w w':=by
 obtain⟨T,S⟩:=h.blk;have V:Zo [] w.heap m.vs m.ss.length 6 (m.ss.flatMap Xh):=QB h.rs oa od;have hf:m.ss.length=ss.length+1:=by rw[e];simp
 have H:ss.length<m.ss.length:=oa
 have Y:m.ss[ss.length]'H=q:=by
  have e2:m.ss[ss.length]?=some q:=by rw[e];simp
  exact(Md.1 e2).2
 refine Zq func59 ?_;refine Qc<|QM [Zm,Zm,Zm,Zm,Zm,Zm] λb2 w1 G hg ha=>xe ?_;have I:=S.I G;have J:=V.I G;have hi:(m.ss.length:Int) - 1=((ss.length:Nat):Int):=oa
 refine Qe<|ZA [] (YX 0 13 [12])<|p Qx<|p (YG U)<|p (QJ U)<|pq (λ_ E=>Ql (I.I E) U U)<|p Qx<|p (YG U) <|
  p (QJ rfl)<|pq (λ_ E=>Ql (I.I E) U U)<|p (λ_=>Yx J U)<|p (λ_=>Jk U U ⟨oa,oa⟩) <|
  Lg.pig (g:=Xh) (i:=ss.length) U QlB J U (show Go.Lg.ev _ _=_ from OV sS hi) H λhh O=>?_
 rw[Y]at O;refine pq (λ_ E=>Qr (O.I E) U U)<|pkk<|JW (Xh q) (ha.I (O5.C _ _)) ((h.sA q (by rw[e];simp)).ones) λw2 hb he =>
  pe ?_
 exact Qh ⟨[sT (Xh q)],⟨Yk he,Z⟩,U,(G.D (O5.C _ _)).O hb oa⟩
abbrev z6:LV:=[Zm,Zm,Zm,Zm,Zm,Zm]
instance:Bw sV 156 z6 [(0,5),(5,1)]:={}
theorem Ug {l:List V5}{k:Ky}:KZ (l.map (·.pt)) k=none↔k∉l.map (·.e.ky):=by
 unfold KZ;rw[List.find?_eq_none];refine⟨λh G=>?_,λh p H I=>?_⟩
 ·obtain⟨q,E,rfl⟩:=LC.1 G;exact h q.pt (LM E) (OX U)
 obtain⟨q,E,rfl⟩:=LC.1 H;exact h (LC.2 ⟨q,E,OY I⟩)
structure NxI (LL:LN)(B:Nat)(w':O1)(z:BlS):Prop where
 o:UH Zp 15 165 V4 (ob z.vk++(ob z.vm++LL)) B w' z.vo z.qs
 k:w'.ownsRow B 75 2 z.vk z.K.length (z.K.flatMap Xp)
 m:w'.ownsRow B 75 2 z.vm z.M.length (z.M.flatMap Xp)
 d1:∀b∈ob z.vo,b∉ob z.vk/\b∉ob z.vm
 d2:∀b∈ob z.vk,b∉ob z.vm
section
variable {LL:LN}{w8:O1}{z:BlS}
theorem NxI.J {X:LN}(h:NxI LL B w z)(I:O5 X w w8)(H:∀b∈X,b∈LL/\b<B):NxI LL B w8 z:=by
 refine⟨h.o.J I λb E=>⟨.inl (Lc.2 (.inr (Lc.2 (.inr (H b E).1)))),λG=>?_⟩,Qd h.k I λb E G=>?_,Qd h.m I λb E G=>?_,h.d1,h.d2⟩
 ·have:=(Qg h.o.own) b G;have:=(H b E).2;omega
 ·have:=(Qg h.k) b E;have:=(H b G).2;omega
 have:=(Qg h.m) b E;have:=(H b G).2;omega
theorem NxI.I (h:NxI LL B w z)(E:sX w w8):NxI LL B w8 z:=h.J E λ_ G=>by cases G
theorem NxI.part (h:NxI LL B w z){H:O2}{q:V5}(S:V4 (ob z.vo++(ob z.vk++(ob z.vm++LL))) w.heap q)(T:w8.ownsRow B 165 15 H (z.qs.length+1) (z.qs.flatMap Zp++Zp q))(I:O5 (ob z.vo) w w8)
  (J:∀b∈ob H,b∈ob z.vo\/↑w<=b):NxI LL B w8 { z with vo:=H,qs:=z.qs++[q] }:=by
 refine⟨h.o.app S T I J,Qd h.k I (λb G E=>(h.d1 b E).1 G),Qd h.m I (λb G E=>(h.d1 b E).2 G),λb G=>?_,h.d2⟩;rcases J b G with O|O
 ·exact h.d1 b O
 exact⟨λE=>ov ((Qg h.k) b E),λE=>ov ((Qg h.m) b E)⟩
theorem NxI.kept (h:NxI LL B w z){G:O2}{k:Ky}(T:w8.ownsRow B 75 2 G (z.K.length+1) (z.K.flatMap Xp++Xp k))(O:O5 (ob z.vk) w w8)
  (S:∀b∈ob G,b∈ob z.vk\/↑w<=b):NxI LL B w8 { z with vk:=G,K:=z.K++[k] }:=by
 have hd:∀b∈ob G,b∉ob z.vo/\b∉ob z.vm:=λb E=>by
  rcases S b E with H|H
  ·exact⟨λI=>(h.d1 b I).1 H,h.d2 b H⟩
  exact⟨λI=>ov ((Qg h.o.own) b I),λI=>ov ((Qg h.m) b I)⟩
 have V:w8.ownsRow B 75 2 G (z.K++[k]).length ((z.K++[k]).flatMap Xp):=by
  rw[Lk,Ly];simpa using T
 refine⟨⟨Qd h.o.own O (λb E J=>(h.d1 b E).1 J),λq Y=>?_⟩,V,Qd h.m O (λb E J=>h.d2 b J E),λb E=>⟨λJ=>(hd b J).1 E,(h.d1 b E).2⟩,λb E=>(hd b E).2⟩;have H:V4 (ob G++(ob z.vo++(ob z.vk++(ob z.vm++LL)))) w.heap q:=Mm.up (h.o.each q Y) λb E=>by
  rcases Lc.1 E with E|E
  ·exact(S b E).imp (λh3=>Lc.2 (.inr (Lc.2 (.inl h3)))) id
  exact .inl E
 refine Mm.mono (Mm.st H (O.mono λb E=>Lc.2 (.inr (Lc.2 (.inr (Lc.2 (.inl E))))))) λb E=>?_;rcases Lc.1 E with E|E
 ·exact Lc.2 (.inr (Lc.2 (.inl E)))
 rcases Lc.1 E with E|E
 ·exact Lc.2 (.inl E)
 exact Lc.2 (.inr (Lc.2 (.inr (Lc.2 (.inr E)))))
theorem NxI.mades (h:NxI LL B w z){I:O2}{k:Ky}(T:w8.ownsRow B 75 2 I (z.M.length+1) (z.M.flatMap Xp++Xp k))(O:O5 (ob z.vm) w w8)
  (S:∀b∈ob I,b∈ob z.vm\/↑w<=b):NxI LL B w8 { z with vm:=I,M:=z.M++[k] }:=by
 have hd:∀b∈ob I,b∉ob z.vo/\b∉ob z.vk:=λb E=>by
  rcases S b E with J|J
  ·exact⟨λG=>(h.d1 b G).2 J,λG=>h.d2 b G J⟩
  exact⟨λG=>ov ((Qg h.o.own) b G),λG=>ov ((Qg h.k) b G)⟩
 have V:w8.ownsRow B 75 2 I (z.M++[k]).length ((z.M++[k]).flatMap Xp):=by
  rw[Lk,Ly];simpa using T
 refine⟨⟨Qd h.o.own O (λb E H=>(h.d1 b E).2 H),λq Y=>?_⟩,Qd h.k O (λb E H=>h.d2 b E H),V,λb E=>⟨(h.d1 b E).1,λH=>(hd b H).1 E⟩,λb E H=>(hd b H).2 E⟩;have J:V4 (ob I++(ob z.vo++(ob z.vk++(ob z.vm++LL)))) w.heap q:=Mm.up (h.o.each q Y) λb E=>by
  rcases Lc.1 E with E|E
  ·exact(S b E).imp (λh3=>Lc.2 (.inr (Lc.2 (.inr (Lc.2 (.inl h3)))))) id
  exact .inl E
 refine Mm.mono (Mm.st J (O.mono λb E=>Lc.2 (.inr (Lc.2 (.inr (Lc.2 (.inr (Lc.2 (.inl E))))))))) λb E=>?_;rcases Lc.1 E with E|E
 ·exact Lc.2 (.inr (Lc.2 (.inl E)))
 rcases Lc.1 E with E|E
 ·exact Lc.2 (.inr (Lc.2 (.inr (Lc.2 (.inl E)))))
 rcases Lc.1 E with E|E
 ·exact Lc.2 (.inl E)
 exact Lc.2 (.inr (Lc.2 (.inr (Lc.2 (.inr (Lc.2 (.inr E)))))))
theorem NxI.pts (h:NxI LL B w z)(H:z.qs.length<=1099511627776)(G:∀b∈L,b∈LL/\b<B):jO L w.heap z.vo z.qs:=by
 refine⟨QB h.o.own H λb E I=>?_,λq J=>Mm.mono (h.o.each q J) λb E=>Lc.2 (.inr (Lc.2 (.inr (Lc.2 (.inr (G b E).1)))))⟩;have:=(Qg h.o.own) b E;have:=(G b I).2;omega
end
theorem Qak {c:CL}{ps:List V5}{v:Int}(h0:ZH L w.heap c)(hp:jO L' w.heap vb ps)(ph:∀b∈L',b<↑w)(hpl:ps.length<=1000)(hkb:Kb w 4096):
  QZ sV 57 [c.val,vb,sS v] w λr w'=>sX w w'/\∃us ur n,r=.tuple #[sT us,sT ur,sS n,sS (Je c.V (ps.map (·.pt)) v)]/\us.length=6/\Zb us/\ur.length=3/\Zb ur /\
   (Je c.V (ps.map (·.pt)) v=0->∃vo qs q,us=[c.ve,c.vc,c.vr,c.vx,c.vk,vo]/\ur=Q0 q/\n=(q.k2.length:Int)/\qs.map (·.pt)=VL c.V (ps.map (·.pt)) v/\q.rp=YM c.V (ps.map (·.pt)) v/\jO L' w'.heap vo qs/\∀M:LN,(∀b∈M,b<↑w)->Jr M w'.heap q):=by
 have h:=h0.up (L':=[]) od;have g2:jO [] w.heap vb ps:=hp.up od;refine Zh (ps.map (·.pt)) λbf kz=>?_;rw[kz];have hv:Je c.V bf v=if Zj c.V≠0 then Zj c.V else(KN c.V bf v).1:=rfl
 have pj:VL c.V bf v=(KN c.V bf v).2.1:=rfl;have pm:YM c.V bf v=⟨(KN c.V bf v).2.2.1,(KN c.V bf v).2.2.2,(bf.filter λp=>decide (p.ky∉(O9 c.V).map (ZS c.V))).map (·.ky)⟩:=rfl;have hbR:blL c.V bf v (O9 c.V) [] [] []=KN c.V bf v:=rfl;refine Zh (Je c.V bf v) λE hE=>?_;rw[hE]at hv ⊢;have hT:∀u:O2,u.oneCell'=true->Zb [c.ve,c.vc,c.vr,c.vx,c.vk,u]:=λu hu=>⟨h.ev.arr.one,h.co.arr.one,h.rq.arr.one,h.ex.arr.one,h.cs.arr.one,hu,Z⟩;refine Zq func57 ?_;refine Qc<|Zl c.cells λb3 w1 hs1 hb3 g3=>QM z6 λb6 w2 hs2 hb6 pn=>QM ZT λb7 w3 po hb7 pp=>x Qi<|Qb ?_;have g4:=hs2.D po;have hs03:=hs1.D g4;refine Qc<|QS (g3.I g4) U U<|x (Q5 [(0,c.cells)] ⟨U,U,Z⟩)<|QM z6 λS w4 hs4 hb10 pu=>QI [c.ve,c.vc,c.vr,c.vx,c.vk,Zm] pu (hT Zm U) λw5 pw hB105=>xe ?_;have hs35:sX w3 w5:=hs4.O pw hb10;refine Qc<|QM ZT λO w6 pz hb11 p0=>xe ?_;have k0:=hs35.D pz;have p2:=hs03.D k0;have l3:=g3.lt;have l6:=pn.lt;have l7:=pp.lt;have l10:=pu.lt;have l11:=p0.lt;have hz5:=pw.size;refine Qc<|QS ((g3.I g4).I k0) U U<|Qz<|(jt (h.I p2)).mono ?_;rintro r7 w7 ⟨ga,vM,lM,rfl,hM,hMbad,hMgood⟩;have k4:=k0.D ga;have p3:=p2.D ga;have hz7:=ga.size;have h37:=(g3.I g4).I k4;have p4:=(pn.I po).I k4;have p5:=pp.I k4;have p6:=hB105.I (pz.D ga);have p7:=p0.I ga;refine Qa<|QW U U<|QW U U<|x Qi<|Qb ?_;have n10:S∉[b6,b7]:=ot
 have gb:O∉[b6,b7]:=ot
 have g8:b6∉[b7]:=oh
 have ka:b7∉[b6]:=oh
 have s6:∀b∈[b6],b∈[b6,b7]:=od
 have s7:∀b∈[b7],b∈[b6,b7]:=od
 refine Qe<|Qj<|Zx U U<|xe<|QO rfl (λgc=>?_) (λgc=>?_)
 ·rw[OU gc]at hv;have hd:sX w7 { w7 with drawn:=w7.drawn+1 }:=O5.C _ _
  refine Qe<|ZA [b6,b7] (YX 0 7 [3,4])<|pq (λ_ J=>Zr (p6.J J n10) U U)<|pq (λ_ J=>Zr (p7.J J gb) U U)<|p Qx <|
   pk<|JW [c.ve,c.vc,c.vr,c.vx,c.vk,Zm] (p4.I hd) (hT Zm U) λw8 ha gg=>⟨hd.any.Q (ha.mono s6),?_⟩
  refine pkk<|JW ZT ((p5.I hd).J ha ka) oC λV hh gh=>p ZG<|p ZG<|pe ?_;exact Qh ⟨[.agg #[c.ve,c.vc,c.vr,c.vx,c.vk,Zm],sT ZT,sS 0,sS (Zj c.V)],⟨Yk (gg.J hh g8),Yk gh,U,U,Z⟩,((p3.D hd).O ha oa).O hh oa,_,ZT,0,by rw[hv];rfl,U,hT Zm U,U,oC,λh0=>OW (hv.symm.D h0) gc⟩
 rw[OT gc]at hv;have p8:=Lo.1 gc;have hok:jN c.V:=(Z4 p8).sr;have kb:=hMgood p8;have hMl:lM.length<=96:=by have:=Vz hok;rw[<-kb,Lh]at this;exact this
 refine Qf ?_;have k5:∀b∈[S,O],b∈b6::b7::S::O::L'/\b<w7.heap.size:=λb H=>by
  simp only[oL,oK,or_false]at H;rcases H with rfl|rfl
  ·exact⟨od,oa⟩
  exact⟨od,oa⟩
 have hX:∀b∈[S,O],b∈([]:LN)\/↑w<=b:=λb H=>by simp only[oL,oK,or_false]at H;exact .inr oa
 refine Qe<|Qc<|Qb<|Q8 (α:=BlS) [(8,9),(14,21),(37,118)] (λz=>[(14,sS z.k)]) (λz w'=>z.k<=lM.length/\O5 [S,O] w7 w'/\NxI (b6::b7::S::O::L') ↑w7 w' z/\(∃T,QY w'.heap S T [c.ve,c.vc,c.vr,c.vx,c.vk,z.vo])/\(∃T,QY w'.heap O T [z.vk,z.vm,Zm])/\blL c.V bf v ((lM.drop z.k).map MV.m) (z.qs.map (·.pt)) z.K z.M=KN c.V bf v/\z.qs.map (·.e.ky)=(lM.take z.k).map (λq=>ZS c.V q.m)/\(z.qs.length=z.k/\z.K.length<=z.k/\z.M.length<=z.k))
  (λz=>lM.length - z.k) ⟨0,Zm,[],Zm,[],Zm,[]⟩ La ⟨Ln _,O5.Z _ _,⟨UH.nil,QD _ _ _ _,QD _ _ _ _,λb H=>by simp[ob]at H,λb H=>by simp[ob]at H⟩,⟨_,p6⟩,⟨_,p7⟩,by rw[List.drop_zero,kb];exact hbR,U,U,Lv _,Lv _⟩ ?_
 rintro⟨k,vo,qs,vk,K,vm,M⟩ g V ⟨hk,hh,hI,⟨T10,kc⟩,⟨T11,ke⟩,hR,gi,hql,hKl,hMl'⟩;simp only[]at hk hI hR hql hKl hMl' kc ke gi;have kf:sX w V:=p3.then hh (λb H=>.inr ((hX b H).resolve_left od));have hz9:=hh.size;have h9:=h.I kf;have n3:b3∉[S,O]:=ot
 have p9:=h37.J hh n3;have qc:=p4.J hh ot;have qf:=p5.J hh ot;have ql:∀b∈[S,O],b<w6.heap.size:=λb H=>by simp only[oL,oK,or_false]at H;omega
 have k6:Zo [] V.heap vM lM.length 3 (lM.flatMap Yv):=((hM.arr (L:=[S,O]) oa ql).st hh).up od;refine Qe<|Qj<|Qa<|QF k6 U<|Ya U U<|xe<|ZI rfl (λk7=>?_) (λk7=>?_)
 ·refine Qw ?_;have qm:lM.length<=k:=by have k8:¬(k:Int)<(lM.length:Int):=k7;omega
  rw[Lt qm]at gi;rw[Ls qm]at hR;have hR0:KN c.V bf v=(0,qs.map (·.pt),K,M):=hR.symm;rw[hR0]at hv pj pm;have hE0:E=0:=hv;have hks:qs.map (·.e.ky)=(O9 c.V).map (ZS c.V):=by rw[gi,<-kb,Ml];rfl
  refine Qe<|Qc<|Qb<|Q8 (α:=Nat×O2×List Ky) [(22,24),(119,149)] (λz=>[(22,sS z.1)]) (λz w'=>z.1<=ps.length/\O5 [O] V w'/\QY w'.heap O T11 [vk,vm,z.2.1]/\w'.ownsRow ↑V 75 2 z.2.1 z.2.2.length (z.2.2.flatMap Xp)/\z.2.2=((ps.take z.1).filter λp=>decide (p.e.ky∉(O9 c.V).map (ZS c.V))).map (·.e.ky))
   (λz=>ps.length - z.1) (0,Zm,[]) La ⟨Ln _,O5.Z _ _,ke,QD _ _ _ _,U⟩ ?_
  rintro⟨i,vg,G⟩ g hw ⟨hi,hS,kg,h6,hG⟩;simp only[]at hi kg h6 hG;have k9:sX w hw:=kf.O hS oa;have hz10:=hS.size;have qn:=Go.Lg.XK.I g2 k9;have qo:=kc.J hS oh;have h610:=qc.J hS oh;have h710:=qf.J hS oh;have ma:=hI.J hS (λb H=>k5 b (Lj _ H));have hPq10:jO [] hw.heap vo qs:=ma.pts og (λb H=>by cases H);have hGl:G.length<=1000:=by
   rw[hG,Lh];refine LH (Mf _ _) ?_;rw[LA];omega
  have hd:sX hw { hw with drawn:=hw.drawn+1 }:=O5.C _ _
  refine Qe<|Qj<|Qa<|QF qn.arr U<|Ya U U<|xe<|ZI U (λmf=>?_) (λmf=>?_)
  ·refine Qw ?_;have hie:ps.length<=i:=by have k8:¬(i:Int)<(ps.length:Int):=mf;omega
   rw[Lt hie]at hG;have qr:Zb [vk,vm,vg]:=⟨Qp hI.k,Qp hI.m,Qp h6,Z⟩;have hmA:Zo [] hw.heap vm M.length 2 (M.flatMap Xp):=QB ma.m (show M.length<=1099511627776 by omega) od;refine Qe<|ZA [b6,b7] (YX 0 9 [5,6])<|pq (λ_ J=>Zr (qo.J J n10) U U)<|pq (λ_ J=>Zr (kg.J J gb) U U)<|p (QJ U)<|pq (λ_ J=>Ql (kg.J J gb) U U)<|p (λ_=>Yx hmA U) <|
    pk<|JW [c.ve,c.vc,c.vr,c.vx,c.vk,vo] (h610.I hd) (hT vo (Qp hI.o.own)) λhD h3 hB611=>⟨hd.any.Q (h3.mono s6),?_⟩
   have q0:O5 [b6,b7] hw hD:=hd.any.Q (h3.mono s6);refine pk<|JW [vk,vm,vg] ((h710.I hd).J h3 ka) qr λq1 mg hB712=>⟨q0.Q (mg.mono s7),?_⟩;have mh:O5 [b6,b7] hw q1:=q0.Q (mg.mono s7);refine p ZG<|p ZG<|pe ?_;have gj:=ma.J mh (λb H=>by
    simp only[oL,oK,or_false]at H;rcases H with rfl|rfl
    ·exact⟨od,oa⟩
    exact⟨od,oa⟩)
   have q2:=Qd h6 mh (λb H Y=>by
    have:=(Qg h6 b H).1;simp only[oL,oK,or_false]at Y;omega)
   have hs012:sX w q1:=k9.then mh (λb H=>by simp only[oL,oK,or_false]at H;exact .inr oa);refine Qh ⟨[.agg #[c.ve,c.vc,c.vr,c.vx,c.vk,vo],.agg #[vk,vm,vg],sS (M.length:Int),sS 0],⟨Yk (hB611.J mg g8),Yk hB712,U,U,Z⟩,hs012,[c.ve,c.vc,c.vr,c.vx,c.vk,vo],[vk,vm,vg],(M.length:Int),by rw[hE0];rfl,U,hT vo (Qp hI.o.own),U,qr,
    λ_=>⟨vo,qs,⟨vk,K,vm,M,vg,G⟩,U,U,U,pj.symm,?_,gj.pts og (λb H=>⟨by simp[H],ov (ph b H)⟩),λN hN=>⟨QB gj.k (show K.length<=1099511627776 by omega) (λb H hbL=>oy (Qg gj.k b H).1 (hN b hbL)),QB gj.m (show M.length<=1099511627776 by omega) (λb H hbL=>oy (Qg gj.m b H).1 (hN b hbL)),QB q2 (show G.length<=1099511627776 by omega) (λb H hbL=>oy (Qg q2 b H).1 (hN b hbL))⟩⟩⟩
   rw[pm];show Rp.mk K M G=_;rw[hG,<-kz,List.filter_map,Ml];rfl
  have I:i<ps.length:=by have k8:(i:Int)<(ps.length:Int):=mf;omega
  have gk:ps.take (i+1)=ps.take i++[ps[i]'I]:=Lm I;have gl:=Ll I;refine Qf<|Qe<|Qm<|?_;refine QX (α:=Bool) [(125,136),(23,24)] (λz=>[(24,.bool z)]) (λz w'=>sX hw w'/\(z=true↔(ps[i]'I).e.ky∈(O9 c.V).map (ZS c.V))) om ?_ ?_
  ·refine Jf (α:=LV×Bool) (sX hw) [oE 0,oE 1,oE 2,oE 3,oE 4,oE 5,oE 6,oE 7] [oF 8,oE 9,oE 10,oE 11] 12 23 [oF 13,oE 14] []
    [(125,136)] [(125,125),(134,136)] (λz=>[(135,sT z.1),(136,.bool z.2)]) (λz _ _=>z.1.length=15/\Zb z.1/\(z.2=true↔(ps[i]'I).e.ky∈(O9 c.V).map (ZS c.V)))
    (λv w'=>∃b,v=pS b/\↑hw<=b/\QY w'.heap b 165 z15) mixed om oe om U (O5.C _ _) od ?_ ?_ ?_ ?_
   ·rintro v own wa wb ⟨b,rfl,H,hB⟩ hs hn;exact⟨b,U,H,hB.J hs (hn b ou)⟩
   ·intro z own wa wb hz hs;exact hz
   ·rintro z g5 own wz v5 ⟨z1,z2,z3⟩ gm ⟨b23,rfl,hb23,hB23⟩ _;refine pkk<|Zv (us:=z.1) hB23 U U z1 U z2 λw8 ha q3=>p ZG<|pe ?_;exact⟨z.2,La,gm.O ha hb23,z3⟩
   refine p (QJ U)<|pq (λ_ J=>Ql (qo.I J) U U)<|p Qx<|p Qx<|Lg.pig (g:=Zp) (i:=i) U KY qn.arr U U I λa130 h130=>?_;refine p (λ_=>Zf U)<|p (λ_=>Zf U)<|pq (λ_ J=>Qr (us:=Xp (ps[i]'I).e.ky) ((((h130.from 0).from 0).pre 2).I J) U U)<|pe ⟨λg6 wf gn=>flA z15 gn,?_⟩;refine f2k λx1 p1 c1=>xg<|(QaB (k:=(ps[i]'I).e.ky) (Go.Lg.XK.I hPq10 c1)).mono ?_;rintro r134 y1 ⟨hF,us,is,rfl,hl,ho,ht,hf⟩;refine⟨c1.D hF,[],hF,(λb H=>by cases H),?_⟩;refine Ui Qx<|Ui (λ_=>Zi U U)<|Ui (λ_=>Zi U U)<|f2e ?_;refine⟨(us,is),oB,hl,ho,?_⟩;rw[<-hks];refine⟨λe=>?_,λY=>?_⟩
   ·obtain⟨q,_,_,hq⟩:=ht e;exact Lo.1 λhn=>by rw[Ug.2 hn]at hq;cases hq
   cases is with
   | true=>rfl
   | false=>exact OW Y (Ug.1 (hf U))
  rintro is g7 hD ⟨h3,mj⟩;have q4:O5 [O] V hD:=hS.D h3;have hz11:=h3.size;have mo:=kg.I h3;have q5:=Qk h6 h3;refine Zh (ps[i]'I) λq hq=>?_;rw[hq]at gk gl mj;refine Qj<|x (ZC U)<|xe<|QU U (λkh=>?_) (λkh=>?_)
  rotate_left
  ·have mq:q.e.ky∈(O9 c.V).map (ZS c.V):=mj.1 (oA kh);refine Qf<|Qs<|Qa<|QG U U<|Qb<|⟨(i+1,vg,G),og,La,I,q4,mo,q5,?_⟩;simp only[];rw[gk,L3,Lp,<-hG,Mb,OT (oA mq)];simp
  have mq:q.e.ky∉(O9 c.V).map (ZS c.V):=λY=>by rw[mj.2 Y]at kh;cases kh
  have n11g:O∉ob vg:=λY=>ov (Qg h6 O Y).1
  have hpG:jO (ob vg) hD.heap vb ps:=Go.Lg.XK.I (Go.Lg.XK.up g2 (L':=ob vg) (λb H=>.inr (oy (Qg h6 b H).1 kf.size))) (k9.D h3);have j1:sX hD { hD with drawn:=hD.drawn+1 }:=O5.C _ _
  refine ZA (ob vg) (YX 0 12 [8,9,11])<|p (QJ U)<|pq (λ_ J=>Ql (mo.J J n11g) U U)<|p Qx<|p Qx<|Lg.pig (g:=Zp) (i:=i) U KY hpG.arr U U I λa143 j2=>?_;rw[hq]at j2;refine p (λ_=>Zf U)<|p (λ_=>Zf U)<|pq (λ_ J=>Qr (us:=Xp q.e.ky) ((((j2.from 0).from 0).pre 2).st J) U U)<|pk<|Za [Xp q.e.ky] λb147 w14 j3 hb147 hB147=>⟨(j1.D j3).any,?_⟩;have go:sX hD w14:=j1.D j3;have hz14:=go.size;refine pk<|Q2 (m:=1) (news:=Xp q.e.ky) (L:=[]) (Qk q5 go) U U U (by have:=hB147.at (L:=[]) od;simpa using this) oq oa oa λms za zv mt hn15=>⟨go.any.Q mt,?_⟩;refine p (QJ U)<|pkk<|Qu (j:=2) (u:=ms) ((mo.I go).J mt n11g) U U od (Qp zv) λh4 hr mu=>pe ?_;refine Qs<|Qa<|QG U U<|Qb ?_;have hs915:O5 [O] V za:=(q4.D go).then mt (λb H=>.inr (Qg h6 b H).1);refine⟨(i+1,ms,G++[q.e.ky]),og,La,I,hs915.Q hr,mu,?_,?_⟩
  ·have z4:za.ownsRow ↑V 75 2 ms (G++[q.e.ky]).length ((G++[q.e.ky]).flatMap Xp):=by
    rw[Lk,Ly];simpa using zv
   refine Qd z4 hr (λb H Y=>?_);have:=(Qg z4 b H).1;rw[Lb.1 Y]at this;omega
  simp only[];rw[gk,L3,Lp,<-hG,Mb,OU (OX mq)];rfl
 have I:k<lM.length:=by have k8:(k:Int)<(lM.length:Int):=k7;omega
 have gk:lM.take (k+1)=lM.take k++[lM[k]'I]:=Lm I;have gl:=Ll I;rw[LE I,LG,Qdu]at hR;have z5:QL [] V.heap (lM[k]'I).v (lM[k]'I).co:=((hM.each _ gl [S,O] (λb H=>.inl (ql b H))).st hh).up od;have hqm:(lM[k]'I).m∈O9 c.V:=by rw[<-kb];exact LM gl
 have hU:=Qfk hqm;have hfk:∀x,sX V x->QZ sV 94 [c.val,.agg #[sS (lM[k]'I).kd,sS (lM[k]'I).ix,(lM[k]'I).v]] x _:=λx hx=>Qar (q:=lM[k]'I) (h9.I hx) (z5.I hx);have hK:∀x,sX V x->QZ sV 110 [c.val,.agg #[sS (lM[k]'I).kd,sS (lM[k]'I).ix,(lM[k]'I).v]] x _:=λx hx=>Qjk (q:=lM[k]'I) (h9.I hx) hU.1 hU.2.1 (λe=>by have:=hU.2.2.1 e;rwa [show c.V.rq.length=c.rq.length from Lh ..]at this) (λe=>by have:=hU.2.2.2.1 e;rwa [show c.V.ex.length=c.ex.length from Lh ..]at this) (λe=>by have:=hU.2.2.2.2 e;rwa [show c.V.cs.length=c.cs.length from Lh ..]at this);have gp:=λp:xJ=>QaV (c:=c.V) (bf:=bf) (v:=v) (m:=(lM[k]'I).m) (p:=p);have gq:=Qf9 (c:=c.V) (bf:=bf) (v:=v) (m:=(lM[k]'I).m);have mv:Vh c.V v (lM[k]'I).m=⟨ZS c.V (lM[k]'I).m,v,suA (Jt c.V (lM[k]'I).m),(Vk (Jt c.V (lM[k]'I).m)).1,(Vk (Jt c.V (lM[k]'I).m)).2.1,(Vk (Jt c.V (lM[k]'I).m)).2.2,Jt c.V (lM[k]'I).m⟩:=rfl;have ki:(lM.take (k+1)).map (λq=>ZS c.V q.m)=(lM.take k).map (λq=>ZS c.V q.m)++[ZS c.V (lM[k]'I).m]:=by rw[gk,Lp];rfl
 have hi9:∀x:O1,sX V x->Zo [] x.heap vM lM.length 3 (lM.flatMap Yv):=λx hx=>k6.I hx;refine Qf<|Qe<|Qm<|?_;refine QX (α:=Nat×CL) [(43,51),(15,16)] (λz=>[(15,pS z.1),(16,sS (zY c.V (lM[k]'I).m))]) (λz w'=>sX V w'/\↑V<=z.1/\Zb z.2.cells/\QY w'.heap z.1 44 z.2.cells/\(zY c.V (lM[k]'I).m=0->z.2.V=Jt c.V (lM[k]'I).m/\∀N:LN,(∀b∈N,b<↑V)->ZH N w'.heap z.2)) om ?_ ?_
 ·refine Jf (α:=CL) (sX V) [oE 0,oE 1,oE 2,oE 3,oE 4] [oF 5,oE 6,oE 7,oE 8] 9 15 [oF 10,oE 11] []
   [(43,51)] [(43,43),(49,51)] (λz=>[(50,sT z.cells),(51,sS (zY c.V (lM[k]'I).m))]) (λz own w'=>Zb z.cells/\(zY c.V (lM[k]'I).m=0->z.V=Jt c.V (lM[k]'I).m/\∀(N:LN) (b':Nat),(∀b∈N,b<↑V)->↑V<=b'->b'∉own->ZH (b'::N) w'.heap z))
   (λv w'=>∃b,v=pS b/\↑V<=b/\QY w'.heap b 44 Z8) mixed om oe om U (O5.C _ _) od ?_ ?_ ?_ ?_
  ·rintro v own wa wb ⟨b,rfl,H,hB⟩ hs hn;exact⟨b,U,H,hB.J hs (hn b ou)⟩
  ·rintro z own wa wb ⟨z1,z2⟩ hs;exact⟨z1,λe=>⟨(z2 e).1,λN b' hN hb' hn=>((z2 e).2 N b' hN hb' hn).I hs⟩⟩
  ·rintro z g5 own wz v5 ⟨z1,z2⟩ gm ⟨kj,rfl,kk,mw⟩ hbo;refine pkk<|JW z.cells mw z1 λw8 ha hB158=>p ZG<|pe ?_;refine⟨(kj,z),oB,gm.O ha kk,kk,z1,hB158,λe=>⟨(z2 e).1,λN hN=>?_⟩⟩;exact Mm.mono (Mm.st ((z2 e).2 N kj hN kk ((hbo kj ou).1)) (ha.mono λb H=>by rw[Lb.1 H];exact Lq)) λb H=>Lj _ H
  refine pq (λ_ J=>Zr (p9.I J) U U)<|p Qx<|p Qx<|Lg.pig (g:=Yv) (i:=k) U Qd7 k6 U U I λa47 h47=>?_;refine pq (λ_ J=>Qr (us:=Yv (lM[k]'I)) (h47.I J) U U)<|pe ⟨λg6 wf gn=>flA Z8 gn,?_⟩;refine f2k λx1 p1 c1=>xg<|(hfk x1 c1).mono ?_;rintro r49 y1 ⟨hF,cm,rfl,ho,hg⟩;refine⟨c1.D hF,Uq ↑x1 ↑y1,hF.any,(λb H=>.inr (Zw.1 H)),?_⟩;refine Ui Qx<|Ui (λ_=>Zi U U)<|Ui (λ_=>Zi U U)<|f2e ?_;refine⟨cm,oB,ho,λe=>⟨(hg e).1,λN b' hN hb' hn=>?_⟩⟩;have hNx:∀b∈N,b<x1.heap.size:=λb H=>LO (hN b H) c1.size;by_cases h7:b'<↑x1
  ·exact(hg e).2 (b'::N) (λb H=>by
    rcases Li.1 H with rfl|H
    ·exact h7
    exact hNx b H)
  by_cases h8:b'<↑y1
  ·exact OW (Zw.2 ⟨Nr h7,h8⟩) hn
  exact((hg e).2 N hNx).up λb H=>by
   rcases Li.1 H with rfl|H
   ·exact .inr (Nr h8)
   exact .inl H
 rintro⟨kj,cm⟩ g9 h4 ⟨hr,kk,ho5,mw,hgood⟩;have my:=kf.D hr;have hz16:=hr.size;have hI16:=hI.I hr;have hB1016:=kc.I hr;have mu:=ke.I hr;have h616:=qc.I hr;have h716:=qf.I hr;have kn:Zb [vk,vm,Zm]:=⟨Qp hI.k,Qp hI.m,U,Z⟩;have ko:=hT vo (Qp hI.o.own);refine Qe<|Qj<|Zx U U<|xe<|QO rfl (λgr=>?_) (λgr=>?_)
 ·have he:=(Qga (c:=c.V) (bf:=bf) (v:=v) (m:=(lM[k]'I).m)) gr;rw[he,OU gr]at hR;rw[<-hR]at hv;have hd:sX h4 { h4 with drawn:=h4.drawn+1 }:=O5.C _ _
  refine Qe<|ZA [b6,b7] (YX 0 7 [3,4])<|pq (λ_ J=>Zr (hB1016.J J n10) U U)<|pq (λ_ J=>Zr (mu.J J gb) U U)<|p Qx <|
   pk<|JW [c.ve,c.vc,c.vr,c.vx,c.vk,vo] (h616.I hd) ko λw8 ha gg=>⟨hd.any.Q (ha.mono s6),?_⟩
  refine pkk<|JW [vk,vm,Zm] ((h716.I hd).J ha ka) kn λV hh gh=>p ZG<|p ZG<|pe ?_;exact Qh ⟨[.agg #[c.ve,c.vc,c.vr,c.vx,c.vk,vo],.agg #[vk,vm,Zm],sS 0,sS (zY c.V (lM[k]'I).m)],⟨Yk (gg.J hh g8),Yk gh,U,U,Z⟩,((my.D hd).O ha oa).O hh oa,_,[vk,vm,Zm],0,by rw[hv];rfl,U,ko,U,kn,λh0=>OW (hv.symm.D h0) gr⟩
 have mz:=Lo.1 gr;have gp:=λp=>gp p mz;have gq:=gq mz;have gs:=hgood mz;refine Zh (lM[k]'I) λq hq=>?_;rw[hq]at hR gp gq mv ki gl z5 hqm hU hfk hK gs;refine Qf<|Zh (ZS c.V q.m) λky hky=>?_;rw[hky]at gp gq hK hR mv ki;refine QX (α:=Nat) [(57,62),(17,17)] (λz=>[(17,pS z)]) (λz w'=>sX h4 w'/\↑h4<=z/\QY w'.heap z 75 (Xp ky)) om ?_ ?_
 ·refine Jf (α:=Unit) (sX h4) [oE 0,oE 1,oE 2,oE 3,oE 4] [oF 5] 6 17 [oF 7] []
   [(57,62)] [(62,62)] (λ_=>[(62,sT (Xp ky))]) (λ_ _ _=>True)
   (λv w'=>∃b,v=pS b/\↑h4<=b/\QY w'.heap b 75 [sS 0,.string .empty]) mixed om oe om U (O5.C _ _) od ?_ ?_ ?_ ?_
  ·rintro v own wa wb ⟨b,rfl,H,hB⟩ hs hn;exact⟨b,U,H,hB.J hs (hn b ou)⟩
  ·intro z own wa wb hz hs;trivial
  ·rintro z g5 own wz v5 _ gm ⟨gt,rfl,m2,kq⟩ _;refine pkk<|JW (Xp ky) kq oB λw8 ha q3=>pe ?_;exact⟨gt,La,gm.O ha m2,m2,q3⟩
  refine pq (λ_ J=>Zr ((p9.I hr).I J) U U)<|p Qx<|p Qx<|Lg.pig (g:=Yv) (i:=k) U Qd7 (hi9 h4 hr) U U I λa60 h60=>?_;rw[hq]at h60;refine pq (λ_ J=>Qr (us:=Yv q) (h60.I J) U U)<|pe ⟨λg6 wf gn=>flA [sS 0,.string .empty] gn,?_⟩;refine f2k λx1 p1 c1=>xg<|(hK x1 (hr.D c1)).mono ?_;rintro _ y1 ⟨rfl,hF⟩;refine⟨c1.D hF,[],hF,(λb H=>by cases H),?_⟩;exact f2e ⟨(),La,Z⟩
 rintro gt g10 w17 ⟨hs17,m2,kq⟩;have hs017:=my.D hs17;refine Qe<|Qj<|QS kq U U<|Qz<|(QaB (k:=ky) (Go.Lg.XK.I g2 hs017)).mono ?_;rintro r19 w18 ⟨hs18,us,is,rfl,m3,huo,hut,huf⟩;rw[kz]at hut huf;refine Qa<|QW U U<|QW U U<|QM z15 λb18 w19 hs19 hb18 hB18=>Qn<|Zv (us:=us) hB18 U U m3 U huo λhV hs20 hB1820=>Qb ?_;have hs1720:sX w17 hV:=hs18.D (hs19.O hs20 hb18);have kr:=hs17.D hs1720;have hs020:=my.D kr;have hB1520:=mw.I kr;have m4:∀N:LN,(∀b∈N,b<↑V)->ZH N hV.heap cm:=λN hN=>(gs.2 N hN).I kr;refine QX (α:=Bool) [(69,75)] (λz=>[(75,.bool z)]) (λz w'=>sX hV w'/\(z=true->∃p∈ps,us=Zp p/\p.e.ky=ky/\KO c.V bf v q.m=(0,p.pt,true))/\(z=false->KO c.V bf v q.m=(Y2 (Jt c.V q.m),Vh c.V v q.m,false))) om ?_ ?_
 ·refine Qs<|Qa<|xB Kq (λm5=>?_) (λm5=>?_)
  ·refine Exists.elim (hut m5) λp h1=>?_;have kt:V4 [] hV.heap p:=(Go.Lg.XK.I g2 hs020).each p h1.1;have ku:=h1.2.1;have hEq:QZ sV 60 [p.c.val,cm.val] hV λr w'=>r=.bool (decide (p.c.V=Jt c.V q.m))/\sX hV w':=by
    rw[<-gs.1];exact UF kt.c (m4 [] od)
   refine QQ U<|x (Zd (us:=p.c.cells) hB1820 U U (by rw[ku];rfl))<|QS hB1520 U U<|Qz<|hEq.mono ?_;rintro _ w21 ⟨rfl,h5⟩;refine QE U<|xe ?_;have H:=gp p.pt h1.2.2;refine⟨decide (p.c.V=Jt c.V q.m),La,h5,λhz=>⟨p,h1.1,ku,(Qcz h1.2.2).2,?_⟩,λhz=>?_⟩
   ·rw[H,OU (show p.pt.c=_ from OY hz)]
   rw[H,OT (show ¬p.pt.c=_ from O0 hz)]
  refine Zu<|Kz<|QE U<|xe ?_;exact⟨false,La,O5.Z _ _,λhz=>OW hz ol,λ_=>gq (huf m5)⟩
 rintro zb g11 w21 ⟨h5,hzt,hzf⟩;have m6:=kr.D h5;have m7:=hs020.D h5;have hW:=hr.D m6;have gu:=hI.I hW;have hz21:=hW.size;have m8:=kc.I hW;have hB1121:=ke.I hW;have hB1721:=kq.I (hs1720.D h5);have hB1521:=hB1520.I h5;have gvo:=Qg gu.o.own;have gvk:=Qg gu.k;have gvm:=Qg gu.m;have gvo9:=Qg hI.o.own;have gvk9:=Qg hI.k;have gvm9:=Qg hI.m;have n10o:S∉ob vo:=λY=>ov (gvo S Y).1
 have n10k:S∉ob vk:=λY=>ov (gvk S Y).1
 have n10m:S∉ob vm:=λY=>ov (gvm S Y).1
 have n11o:O∉ob vo:=λY=>ov (gvo O Y).1
 have n11k:O∉ob vk:=λY=>ov (gvk O Y).1
 have n11m:O∉ob vm:=λY=>ov (gvm O Y).1
 have n17o:gt∉ob vo:=λY=>ov (gvo9 gt Y).2
 have n17k:gt∉[S]:=oh
 have m9:∀b∈ob vo++(ob vk++(ob vm++(b6::b7::S::O::L'))),b<↑V/\(b∈L'\/↑w<=b):=λb H=>by
  rcases Lc.1 H with H|H
  ·have:=gvo9 b H;exact⟨this.2,.inr oa⟩
  rcases Lc.1 H with H|H
  ·have:=gvk9 b H;exact⟨this.2,.inr oa⟩
  rcases Lc.1 H with H|H
  ·have:=gvm9 b H;exact⟨this.2,.inr oa⟩
  simp only[oL]at H;rcases H with rfl|rfl|rfl|rfl|H
  ·exact⟨oa,.inr oa⟩
  ·exact⟨oa,.inr oa⟩
  ·exact⟨oa,.inr oa⟩
  ·exact⟨oa,.inr oa⟩
  exact⟨ov (ph b H),.inl H⟩
 have x10:∀b∈[S],b∈b6::b7::S::O::L'/\b<w7.heap.size:=λb H=>k5 b (by rw[Lb.1 H];simp);have x11:∀b∈[O],b∈b6::b7::S::O::L'/\b<w7.heap.size:=λb H=>k5 b (by rw[Lb.1 H];simp);refine QU rfl (λpa=>?_) (λpa=>?_)
 ·refine Exists.elim (hzt pa) λp h1=>?_;have ku:=h1.2.1;have H:=h1.2.2.2;rw[H,OT od,OU rfl]at hR;have kt:V4 (ob vo++(ob vk++(ob vm++(b6::b7::S::O::L')))) w21.heap p:=((hp.each p h1.1).up λb H=>(m9 b H).2).I m7;refine Qc<|Qo U m8 U U<|QS (hB1820.I h5) U m3<|Qn<|Xx (us:=[us]) U U ol (by exact(by decide:1*15<=1000000)) ⟨U,m3,Z⟩ λb87 pc h2 hb87 hB87=>?_;have hA22:At [] pc.heap ⟨b87,0,none⟩ (Zp p):=by have:=hB87.at (L:=[]) od;rw[ku]at this;simpa using this
  have hI22:=gu.I h2;refine Qn<|Ja (m:=1) (news:=Zp p) hI22.o.own U U U hA22 (Zb.all kt.ones) (show qs.length+1<=1073741824 by omega) (ov h2.size) λv23 w23 ho23 hH hn23=>?_;have hI23:=hI22.part (kt.I h2) ho23 hH hn23;refine QQ U<|Qn<|Qu (j:=5) (u:=v23) ((m8.I h2).J hH n10o) U U od (Qp ho23) λw24 hJ hB1024=>xe ?_;have hI24:=hI23.J hJ x10;have hB1124:=((hB1121.I h2).J hH n11o).J hJ oh;have hB1724:=((hB1721.I h2).J hH n17o).J hJ n17k;refine Qc<|Qo U hB1124 U U<|QS hB1724 U U<|Qn<|Za [Xp ky] λb92 w25 hL hb92 hB92=>?_;have hI25:=hI24.I hL;have zz22:=h2.size;have zz23:=hH.size;have zz24:=hJ.size;have zz25:=hL.size;refine Qn<|Q2 (m:=1) (news:=Xp ky) (L:=[]) hI25.k U U U (by have:=hB92.at (L:=[]) od;simpa using this) oq (show K.length+1<=1099511627776 by omega) oa λv26 gv ho26 hY hn26=>?_;have pd:=hI25.kept ho26 hY hn26;refine QQ U<|Qn<|Qu (j:=0) (u:=v26) ((hB1124.I hL).J hY n11k) U U od (Qp ho26) λkv hj hB1127=>xe ?_;have hO:=pd.J hj x11;have hB1027:=((hB1024.I hL).J hY n10k).J hj oh;refine Qw<|Qs<|Qa<|QG U U<|Qb ?_;have hs727:O5 [S,O] w7 kv:=((((((hh.D hW).D h2).then hH (λb H=>.inr (gvo b H).1)).Q (hJ.mono od)).D hL).then hY (λb H=>.inr (gvk b H).1)).Q (hj.mono od);refine⟨⟨k+1,v23,qs++[p],v26,K++[ky],vm,M⟩,og,La,I,hs727,⟨hO.o,hO.k,hO.m,hO.d1,hO.d2⟩,⟨_,hB1027⟩,⟨_,hB1127⟩,?_,?_,by simp only[oN,oP];omega⟩
  ·simp only[];rw[Lp];exact hR
  simp only[];rw[Lp,gi,ki,<-h1.2.2.1];rfl
 have H:=hzf pa;rw[H]at hR;have hSy:=zd ((m4 [] od).I h5) (hkb.I m7);rw[gs.1]at hSy;refine Qf<|Qc<|QS hB1521 U U<|Qz<|hSy.mono ?_;rintro r36 pc ⟨h2,us8,c0,c1,c2,c3,sa,st,sm,se,oo,rfl,hl8,ho8,hQ,kw⟩;refine Qa<|QW U U<|QW U U<|QW U U<|QM [nS,sS 0,nS,nS,nS,nS,nS,nS] λb20 w23 hH hb20 hB20=>QM [nS,nS,nS,sS 0,nS,sS 0,nS,nS,nS] λb21 w24 hJ hb21 hB21 =>
  Qn<|Zv (us:=us8) (hB20.I hJ) U U hl8 U ho8 λw25 hL hB2025=>?_
 have hl20:=hB20.lt;have n2021:b21∉[b20]:=oh
 refine QI [c0,c1,c2,c3,sa,sS st,sm,se,oo] (hB21.J hL n2021) ⟨hQ.1,hQ.2.1,hQ.2.2.1,hQ.2.2.2.1,hQ.2.2.2.2.1,U,hQ.2.2.2.2.2.1,hQ.2.2.2.2.2.2.1,hQ.2.2.2.2.2.2.2.1,Z⟩ λgv hY hB2126=>Qb ?_;have gw:sX pc gv:=(((hH.D hJ).O hL oa).O hY oa);have hy:=h2.D gw;have hz2126:=hy.size;have pd:=gu.I hy;have pf:=m8.I hy;have hB1126:=hB1121.I hy;refine Qe<|Qj<|Zx U U<|xe<|QO rfl (λgx=>?_) (λgx=>?_)
 ·rw[OU gx]at hR;rw[<-hR]at hv;have h626:=h616.I (m6.D hy);have h726:=h716.I (m6.D hy);have hd:sX gv { gv with drawn:=gv.drawn+1 }:=O5.C _ _
  refine Qe<|ZA [b6,b7] (YX 0 7 [3,4])<|pq (λ_ J=>Zr (pf.J J n10) U U)<|pq (λ_ J=>Zr (hB1126.J J gb) U U)<|p Qx <|
   pk<|JW [c.ve,c.vc,c.vr,c.vx,c.vk,vo] (h626.I hd) ko λw8 ha gg=>⟨hd.any.Q (ha.mono s6),?_⟩
  refine pkk<|JW [vk,vm,Zm] ((h726.I hd).J ha ka) kn λV hh gh=>p ZG<|p ZG<|pe ?_;exact Qh ⟨[.agg #[c.ve,c.vc,c.vr,c.vx,c.vk,vo],.agg #[vk,vm,Zm],sS 0,sS (Y2 (Jt c.V q.m))],⟨Yk (gg.J hh g8),Yk gh,U,U,Z⟩,(((m7.D hy).D hd).O ha oa).O hh oa,_,[vk,vm,Zm],0,by rw[hv];rfl,U,ko,U,kn,λh0=>OW (hv.symm.D h0) gx⟩
 rw[OT gx,OT od]at hR;have kw:=kw (Lo.1 gx);have hst:=kw.1;have hB1726:=hB1721.I hy;have hB1526:=hB1521.I hy;refine Qf<|Qc<|Zh (⟨⟨ky,v,⟨sa,sm,se,suA (Jt c.V q.m)⟩,c0,(Vk (Jt c.V q.m)).1,c1,(Vk (Jt c.V q.m)).2.1,c2,(Vk (Jt c.V q.m)).2.2⟩,cm⟩:V5) λP hP=>?_;have hPc:[sS ky.1,.string ky.2,sS v,sa,sS st,sm,se,c0,c1,c2,cm.ve,cm.vc,cm.vr,cm.vx,cm.vk]=Zp P:=by rw[<-hP,hst]
 refine Qo rfl pf U U<|QS hB1726 U U<|Qa<|QQ U<|x (Zd (us:=[sa,sS st,sm,se]) hB2126 U U U)<|QQ U<|x (Zd (us:=[c0,c1,c2]) hB2126 U U U) <|
  x (Q5 [(0,Xp ky),(1,[sS v]),(2,[sa,sS st,sm,se]),(3,[c0,c1,c2])] ⟨U,U,U,U,U,U,U,U,Z⟩)<|QS hB1526 U U<|x (Q5 [(0,[sS ky.1,.string ky.2,sS v,sa,sS st,sm,se,c0,c1,c2]),(1,cm.cells)] ⟨U,U,U,U,Z⟩) <|
  Qn<|Za [[sS ky.1,.string ky.2,sS v,sa,sS st,sm,se,c0,c1,c2,cm.ve,cm.vc,cm.vr,cm.vx,cm.vk]] λb115 kv hj hb115 hB115=>?_
 have hA27:At [] kv.heap ⟨b115,0,none⟩ (Zp P):=by have:=hB115.at (L:=[]) od;rw[<-hPc];simpa using this
 have hO:=pd.I hj;have hz27:=hj.size;have hPA:V4 (ob vo++(ob vk++(ob vm++(b6::b7::S::O::L')))) kv.heap P:=by
  obtain⟨hA,hC⟩:=kw.2 _ (λb H=>ov (m9 b H).1);have hcmX:=((m4 _ (λb H=>(m9 b H).1)).I h5).I hy;rw[<-hP];exact⟨⟨(hA.I gw).I hj,(hC.k.I gw).I hj,(hC.d.I gw).I hj,(hC.r.I gw).I hj⟩,hcmX.I hj⟩
 refine Qn<|Ja (m:=1) (news:=Zp P) hO.o.own U U U hA27 (Zb.all hPA.ones) (show qs.length+1<=1073741824 by omega) oa λv28 w28 ho28 hZ hn28=>?_;have hI28:=hO.part hPA ho28 hZ hn28;refine QQ rfl<|Qn<|Qu (j:=5) (u:=v28) ((pf.I hj).J hZ n10o) U U od (Qp ho28) λw29 gy hB1029=>xe ?_;have hI29:=hI28.J gy x10;have hB1129:=((hB1126.I hj).J hZ n11o).J gy oh;have hB1729:=((hB1726.I hj).J hZ n17o).J gy n17k;have zz28:=hZ.size;have zz29:=gy.size;refine Qs<|Qo U hB1129 U U<|QS hB1729 U U<|Qn<|Za [Xp ky] λb120 w30 gz hb120 hB120=>?_;have hI30:=hI29.I gz;have zz30:=gz.size;refine Qn<|Q2 (m:=1) (news:=Xp ky) (L:=[]) hI30.m U U U (by have:=hB120.at (L:=[]) od;simpa using this) oq (show M.length+1<=1099511627776 by omega) oa λv31 w31 ho31 kx hn31=>?_;have hI31:=hI30.mades ho31 kx hn31;refine QQ rfl<|Qn<|Qu (j:=1) (u:=v31) ((hB1129.I gz).J kx n11m) U U od (Qp ho31) λw32 pg hB1132=>xe ?_;have g0:=hI31.J pg x11;have hB1032:=((hB1029.I gz).J kx n10m).J pg oh;refine Qs<|Qa<|QG U U<|Qb ?_;have hs732:O5 [S,O] w7 w32:=(((((((hh.D hW).D hy).D hj).then hZ (λb H=>.inr (gvo b H).1)).Q (gy.mono od)).D gz).then kx (λb H=>.inr (gvm b H).1)).Q (pg.mono od);refine⟨⟨k+1,v28,qs++[P],vk,K,v31,M++[ky]⟩,og,La,I,hs732,⟨g0.o,g0.k,g0.m,g0.d1,g0.d2⟩,⟨_,hB1032⟩,⟨_,hB1132⟩,?_,?_,by simp only[oN,oP];omega⟩
 ·simp only[];rw[Lp];have hPp:[P].map (·.pt)=[Vh c.V v q.m]:=by
   rw[mv,<-hP];show[V5.pt _]=_;unfold V5.pt;rw[gs.1]
  rw[hPp];exact hR
 simp only[];rw[Lp,gi,ki,<-hP];rfl
theorem Qd3 {pS:String}{fs:Array Field}(ft o:Nat){x:O3}(vs:LV)(E:P.underlying t=some (.struct fs))(G:(fs[j]?).map (λd=>(d.type,d.offset))=some (ft,o))[h1:Ag P ft sz](hx:ev f x=sT us)(H:us.toArray.extract o (o+sz)=vs.toArray):
  (execOp (ev f) ⟨d,.field t x j,ty,pS,af,gd⟩).run P w=.ok (.value (.agg vs.toArray)) w:=by
 obtain⟨fd,I,J⟩:=Mr.1 G;cases J
 rw[<-H];simp[execOp,hx,Instr.field,run_underlying E,I,asAgg,part,QcP (t:=fd.type),VR (t:=fd.type)]
theorem ym {c:CL}(J:ZH L w.heap c)(hL:∀b∈L,b<↑w)(hz:CSz c.V)(h4:Kb w 4096):
  QZ sV 21 [c.val] w λr w'=>sX w w'/\∃vp,r=.tuple #[vp,sS (Vy c.V)]/\(Vy c.V≠0->vp=UY)/\(Vy c.V=0->∃m:VN,vp=pS m.b/\m.is (Qbs c.V)/\(∀b∈m.own,↑w<=b)/\ju (m.own++L) w' m):=by
 have h:=J.up (L':=[]) od;have G:Vy c.V=if(ZR c.V).1≠0 then(ZR c.V).1 else if Zj c.V≠0 then Zj c.V else Je c.V [] 0:=rfl
 refine Zh (Vy c.V) λE hE=>?_;rw[hE]at G ⊢;refine Zq func21 ?_;refine Qc<|Zl c.cells λb1 w1 hf hO hh=>x Qi<|Qb ?_;have hP:=hf.size;refine Qe<|Qc<|QS hh U U<|Qz<|(yT (h.I hf) hz).mono ?_;rintro r2 w2 ⟨V,v2,rfl,_,_⟩;have hi:=hf.D V;have hQ:=V.size;refine Qa<|QW U U<|QW U U<|x Qi<|Qb<|Qj<|Zx U U<|xe<|QO rfl (λY=>?_) (λY=>?_)
 ·rw[OU Y]at G;refine Qj<|x Qi<|Qb<|Qh ⟨[UY,sS (ZR c.V).1],oB,hi,UY,by rw[G];rfl,λ_=>U,λJ=>OW (G.symm.D J) Y⟩
 rw[OT Y]at G;refine Qf<|Qe<|Qc<|QS (hh.I V) U U<|Qz<|(Xl (h.I hi)).mono ?_;rintro r3 w3 ⟨rfl,hj⟩;have ha:=hi.D hj;have hR:=hj.size;refine Qb<|Qj<|Zx U U<|xe<|QO rfl (λhc=>?_) (λhc=>?_)
 ·rw[OU hc]at G;refine Qj<|x Qi<|Qb<|Qh ⟨[UY,sS (Zj c.V)],oB,ha,UY,by rw[G];rfl,λ_=>U,λJ=>OW (G.symm.D J) hc⟩
 rw[OT hc]at G;refine Qf<|Qc ?_;have h5:jO L w3.heap Zm []:=⟨Zo.nil _ _ _,λq T=>by cases T⟩;have hN:=Qak (L':=L) (v:=0) (h.I ha) h5 (λb H=>ov (hL b H)) (Ln _) (h4.I ha);rw[show([]:List V5).map (·.pt)=[] from rfl]at hN;refine QS ((hh.I V).I hj) U U<|Qz<|hN.mono ?_;rintro r4 w4 ⟨h6,us,ur,n,rfl,h7,h8,h9,hA,hp⟩;have he:=ha.D h6;refine Qa<|QW U U<|QW U U<|QW U U<|QW U U<|QM z6 λb7 w5 hB hS hr =>
  QM ZT λb8 w6 hs hT hC=>Qn<|Zv (us:=us) (hr.I hs) U U h7 U h8 λw7 ht hD=>?_
 have hU:=hr.lt;refine Qn<|Zv (us:=ur) (hC.J ht oh) U U h9 U hA λw8 hu hV=>x Qi<|Qb ?_;have hk:sX w4 w8:=((hB.D hs).O ht oa).O hu oa;have hv:=hD.J hu oh;refine Qe<|Qj<|Zx U U<|xe<|QO rfl (λhl=>?_) (λhl=>?_)
 ·refine Qj<|x Qi<|Qb<|Qh ⟨[UY,sS (Je c.V [] 0)],oB,(he.D hk),UY,by rw[G];rfl,λ_=>U,λJ=>OW (G.symm.D J) hl⟩
 have hw:Je c.V [] 0=0:=Lo.1 hl;have hy:E=0:=G.D hw;refine Qf<|Exists.elim (hp hw) λvo I=>Exists.elim I λqs I=>Exists.elim I λq I=>?_;have hF:=I.1;have hn:=I.2.2.1;have hG:=I.2.2.2.1;have hH:=I.2.2.2.2.1;have hI:=I.2.2.2.2.2.1;clear I hp;rw[hF]at hv;refine Qc<|QS hv U U<|Qn<|Za [[c.ve,c.vc,c.vr,c.vx,c.vk,vo]] λS w9 hJ hW h1=>Qa<|x (Qv ⟨U,U,Z⟩) <|
  Zl [sL S 1 1,Zm,sS n] λO hX h2 hY hK=>x Qi<|Qb ?_
 have ho:=(hk.D hJ).D h2;have hZ:=hk.size;have ga:=h1.lt;have gb:=he.size;refine Qh ⟨[pS O,sS 0],oB,(he.D ho),pS O,by rw[hy];rfl,λh=>OW hy h,λ_=>⟨⟨O,sL S 1 1,[⟨c,vo,qs⟩],Zm,[],n⟩,U,⟨?_,U,?_,U⟩,λb H=>?_,⟨⟨_,hK⟩,(Qk (QY.own h1 (n:=1) (sz:=6) U ol (Ln _)) h2),QD _ _ _ _,?_,?_,?_,?_,?_,λq T=>by cases T⟩⟩⟩
 ·show[(c.V,qs.map (·.pt))]=[]++[(c.V,VL c.V [] 0)];rw[hG];rfl
 ·show n=((YM c.V [] 0).made.length:Int);rw[hn,<-hH];rfl
 ·have hM:b=O\/b=S:=by simpa[VN.own,ob]using H
  omega
 ·show O∉[S];simp only[oJ];omega
 ·show O∉[];simp
 ·intro b H hm;cases hm
 ·intro b H;exact Lc.2 (.inl H)
 intro q T;rw[Lb.1 T];have h3:∀b∈(⟨O,sL S 1 1,[⟨c,vo,qs⟩],Zm,[],n⟩:VN).own++L,b∈L\/↑w4<=b:=λb H=>by
  rcases Lc.1 H with H|H
  ·have hM:b=O\/b=S:=by simpa[VN.own,ob]using H
   exact .inr oa
  exact .inl H
 exact⟨((J.I he).up h3).I ho,Go.Lg.XK.I (Go.Lg.XK.up hI h3) ho⟩
theorem VN.is.last {m:VN}{s:jr}(h:m.is s):∃ss q,m.ss=ss++[q]/\ss.map jM.st=s.un/\q.c.V=s.c/\q.ps.map (·.pt)=s.ps:=by
 obtain⟨G,l2,e1,e2,H⟩:=List.map_eq_append_iff.1 h.1;obtain⟨q,rfl,E⟩:=List.map_eq_singleton_iff.1 H;exact⟨G,q,e1,e2,OV Prod.fst E,OV Prod.snd E⟩
theorem VE {γ:Type}{f:α->γ}{g:β->γ}{l:List α}{l':List β}(h:l.map f=l'.map g){k:Nat}(E:k<l.length)(G:k<l'.length):f (l[k]'E)=g (l'[k]'G):=by
 have H:(l.map f)[k]'(oA E)=f (l[k]'E):=Mq ..;have I:(l'.map g)[k]'(oA G)=g (l'[k]'G):=Mq ..;rw[<-H,<-I];simp only[h]
theorem Qhz {k:Nat}{m:VN}(hM:ju L w m)(Y:Vd L2 w s)(hk:Yu k s.sys)(ho:m.is s.sys):
  QZ sV 24 [pS m.b,pS s.b] w λr w'=>r=.bool true/\sX w w':=by
 have hz:CSz s.s.c.V:=VK hk.st.ck;have hl:=hk.len;obtain⟨ss,q,ess,eun,eqc,eqp⟩:=ho.last;have hb:m.ss.length<=1000:=by
  have H:ss.length=s.sys.un.length:=by rw[<-eun,Lh]
  have h2:=hk.l64;rw[ess];simp;omega
 have g0:q.ps.length=s.s.ps.length:=by
  have H:=OV oQ eqp;rw[Lh]at H;rw[H];exact Lh _
 have h0:m.rs.map (·.rp)=s.rs.map (·.rp):=ho.2.1;have g2:m.rs.length=s.rs.length:=by have:=OV oQ h0;simpa using this
 have hO:m.made=s.made:=ho.2.2.1;have hP:ye L w.heap q:=hM.sA q (by rw[ess];simp);have hQ:ye [] w.heap q:=hP.up od;have hT:Zo [] w.heap m.vr m.rs.length 3 (m.rs.flatMap Q0):=QB hM.rr oa od;have hU:∀a∈m.rs,Jr [] w.heap a:=λa ha=>(hM.rA a ha).up od;obtain⟨TM,hV⟩:=hM.blk;refine Zq func24 ?_;refine Qc<|Qb<|Qj<|Qz<|(Qin Y hz).mono ?_;rintro r1 w1 ⟨hW,cm,rfl,ecm,hX⟩;have O:=hX [] od;refine Qa<|QW U U<|QW U U<|QM Z8 λb5 w2 hY hZ ga=>QI cm.cells ga ⟨O.ev.arr.one,O.co.arr.one,O.rq.arr.one,O.ex.arr.one,O.cs.arr.one,Z⟩ λw3 gb gc =>
  Qb ?_
 have h3:sX w1 w3:=hY.O gb hZ;have h4:=hW.D h3;refine Qj<|Qz<|(Qcn (Y.I h4) hl.2.2).mono ?_;rintro r4 w4 ⟨hp,ve,es,rfl,ees,hE⟩;refine Qa<|QW U U<|QW U U<|x Qi<|Qb ?_;have h5:=h4.D hp;refine Qj<|Qz<|(Qcl (Y.I h5) oa).mono ?_;rintro vR S ⟨he,rs,ers,hR⟩;refine Qb ?_;have J:=h5.D he;have eel:es.length=q.ps.length:=by
  have H:=OV oQ ees;rw[Lh,Lh]at H;omega
 have erl:rs.length=m.rs.length:=by
  have H:=OV oQ ers;rw[Lh,Lh]at H;omega
 have gg:es.map EnV.en=q.ps.map (λp=>p.e.en):=by
  have H:s.s.ps.map (λq=>q.pt.en)=(s.s.ps.map (·.pt)).map xJ.en:=by rw[Ml];rfl
  have h2:s.s.ps.map (·.pt)=q.ps.map (·.pt):=eqp.symm;rw[ees,H,h2,Ml];rfl
 have gh:rs.map V3.rp=m.rs.map V3.rp:=by rw[ers];exact h0.symm
 have h6:=Go.Lg.XK.I (hE.lst (L:=[]) oa od) he;have hR5:=hR.lst (L:=[]) oa od;have hq:=hQ.I J;have hr:=hM.I J;have hs:=hV.I J;have h7:=hT.I J;refine Qe<|QX (α:=Unit) [(24,65)] (λ_=>[(65,.bool false)]) (λ_ w'=>sX S w') om ?_ ?_
 ·have hd:sX S { S with drawn:=S.drawn+1 }:=O5.C _ _
  refine ZA [] [oE 0,oE 1,oE 2,oE 3,oE 4,oE 5,oE 6,oE 7,oE 8,oF 9,oE 10,oF 11,oE 12,oE 13,oE 14,oE 15,oE 16,oE 17,oF 18,oE 19,oE 20,oE 21,oE 22,oE 23,oE 24,oE 25,oE 26,oE 27,oE 28,oE 29,oE 30,oE 31,oE 32,oE 33,oE 34,oE 36,oE 37,oE 38,oE 39,oF 35,oE 40,oE 41]<|p Qx<|pb (λ_=>XM U U) (λh8=>OW U h8) (λh8=>?_);refine p Qx<|p Qx<|pb (λ_=>XM U U) (λh9=>OW U h9) (λh9=>?_);refine p (Y7 U)<|p Qx<|pq (λ_ E=>Zr ((gc.I (hp.D he)).I E) U U)<|p Qx<|pk<|xg<|(Us (hr.I hd) ess hb).mono ?_;rintro _ w6 ⟨rfl,gi⟩;have hf:=hd.D gi;refine⟨hf,?_⟩;have hEq:QZ sV 60 [cm.val,q.c.val] w6 λr w'=>r=.bool true/\sX w6 w':=by
   have H:=UF ((O.I (h3.D (hp.D he))).I hf) (hq.c.I hf);rw[show decide (cm.V=q.c.V)=true from OX (by rw[ecm,eqc];rfl)]at H;exact H
  refine p (λ_=>Qd3 44 0 q.c.cells underlying156 U U U)<|pk<|xg<|hEq.mono ?_;rintro _ w8 ⟨rfl,gj⟩;have ht:=hf.D gj;refine⟨ht,?_⟩;refine pB (λ_=>ZC U) (λhA=>OW hA od) (λhA=>?_);refine p (Y7 U)<|p Qx<|p Qx<|p (λ_=>Yx h6.arr U)<|p Qx<|pk<|xg<|(Us (hr.I ht) ess hb).mono ?_;rintro _ w9 ⟨rfl,gk⟩;have hg:=ht.D gk;refine⟨hg,?_⟩;refine p (λ_=>zg 154 5 underlying156 U U U)<|p (λ_=>Yx hq.p.arr U)<|pb (λ_=>XM U U) (λhB=>OW (by rw[eel]) hB) (λhB=>?_);refine p (Y7 U)<|p Qx<|p Qx<|p (λ_=>Yx hR5.arr U)<|p Qx<|p (YG U) <|
   p (QJ rfl)<|pq (λ_ E=>Ql (hs.I E) U U)<|p (λ_=>Yx h7 U)<|pb (λ_=>XM U U) (λhC=>OW (by rw[erl]) hC) (λhC=>?_)
  have hMd:=Qcm ((Y.I J).I hg);rw[<-hO]at hMd;refine p (Y7 U)<|p Qx<|p Qx<|p Qx<|p (YG U)<|p (QJ U) <|
   pq (λ_ E=>Ql (hs.I E) U U)<|pk<|xg<|hMd.mono ?_
  rintro _ g3 ⟨rfl,rfl⟩;refine⟨hg,?_⟩;refine pb (λ_=>XM U U) (λhD=>OW U hD) (λhD=>?_);refine p (Y7 U)<|pe ?_;exact⟨(),La,hg⟩
 rintro _ g g4 gl;refine ZO rfl<|Qf<|Qe<|Qc<|Qb<|Q8 (α:=Nat) [(4,4),(10,10),(66,100)] (λz=>[(10,sS z)]) (λz w'=>z<=es.length/\sX S w') (λz=>es.length - z) 0 La ⟨Ln _,gl⟩ ?_;rintro i g hh ⟨hi,V⟩;have hm:=Go.Lg.XK.I h6 V;refine Qe<|Qj<|Qa<|QF hm.arr U<|Ya U U<|xe<|ZI rfl (λhF=>?_) (λhF=>?_)
 ·refine Qw<|Qe<|Qc<|Qb<|Q8 (α:=Nat) [(4,4),(11,11),(101,119)] (λz=>[(11,sS z)]) (λz w'=>z<=rs.length/\sX S w') (λz=>rs.length - z) 0 La ⟨Ln _,V⟩ ?_;rintro j g hu ⟨hj,T⟩;have hv:=Go.Lg.XK.I hR5 T;refine Qe<|Qj<|Qa<|QF hv.arr U<|Ya U U<|xe<|ZI U (λhG=>?_) (λhG=>?_)
  ·refine Qw<|Qc<|Qb<|Qh ⟨[.bool true],La,U,J.D T⟩
  have G:j<rs.length:=by have gm:(j:Int)<(rs.length:Int):=hG;omega
  have I:j<m.rs.length:=oa
  refine Qf ?_;have hd:sX hu { hu with drawn:=hu.drawn+1 }:=O5.C _ _
  have gn:=((hU _ (Ll I)).I (J.D T)).I hd;refine Qe<|Qm<|Qe<|ZA [] (YX 0 13 [11])<|p Qx<|p Qx<|Lg.pig (g:=Q0) (i:=j) U Qbg hv.arr U U G λg5 go=>pq (λ_ E=>Qr (us:=Q0 (rs[j]'G)) (go.I E) U U) <|
   p Qx<|p (YG U)<|p (QJ U)<|pq (λ_ E=>Ql ((hs.I T).I E) U U)<|p Qx<|Lg.pig (g:=Q0) (i:=j) U Qbg (h7.I T) U U I λg6 gp =>
   pq (λ_ E=>Qr (us:=Q0 (m.rs[j]'I)) (gp.I E) U U)<|pk<|xg<|(Ue ((hv.each _ (Ll G)).I hd) gn (VE gh G I)).mono ?_
  rintro _ g7 ⟨rfl,hH⟩;refine⟨hd.D hH,?_⟩;refine p (λ_=>ZC U)<|pe ?_;refine ZO U<|Qf<|Qs<|Qa<|QG U U<|Qb<|⟨j+1,oa,La,G,(T.D hd).D hH⟩
 have G:i<es.length:=by have gm:(i:Int)<(es.length:Int):=hF;omega
 have I:i<q.ps.length:=oa
 refine Qf ?_;have hw:=hq.I V;have hI:=hr.I V;have hJ:=VE gg G I;have gq:(es[i]'G).vr=(q.ps[i]'I).e.vr:=OV Ent.vr hJ;refine Qe<|Qm<|QX (α:=Unit) [(72,100)] (λ_=>[(100,.bool false)]) (λ_ w'=>sX hh w') om ?_ ?_
 ·have hd:sX hh { hh with drawn:=hh.drawn+1 }:=O5.C _ _
  refine ZA [] [oE 0,oE 1,oE 2,oE 3,oE 4,oE 7,oF 5,oE 6,oE 8,oE 9,oE 10,oF 11,oE 12,oE 13,oE 14,oE 15,oE 16,oE 17,oE 18,oE 19,oE 22,oF 20,oE 21,oE 23,oE 24,oE 25,oE 26,oE 27,oE 28]<|p Qx<|p Qx<|Lg.pig (g:=ZW) (i:=i) U Qj1 hm.arr U U G λg8 gr=>pq (λ_ E=>Qr (us:=ZW (es[i]'G)) (gr.I E) U U) <|
   p Qx<|p Qx<|pk<|xg<|(Us (hI.I hd) ess hb).mono ?_
  rintro _ g9 ⟨rfl,gs⟩;have hn:=hd.D gs;refine⟨hn,?_⟩;have gt:=(hw.p.each _ (Ll I)).e.I hn;refine p (λ_=>zg 154 5 underlying156 U U U)<|Lg.pig (g:=Zp) (i:=i) U KY hw.p.arr U U I λka gu=>p (λ_=>Zf U)<|pq (λ_ E=>Qr (us:=ZW (q.ps[i]'I).e) (((gu.from 0).pre 10).I E) U U) <|
   pk<|xg<|(Qbd ((hm.each _ (Ll G)).I hn) gt hJ).mono ?_
  rintro _ kb ⟨rfl,gv⟩;have hy:=hn.D gv;refine⟨hy,?_⟩;refine pB (λ_=>ZC U) (λhK=>OW hK od) (λhK=>?_);refine p Qx<|p Qx<|p Qx<|Lg.pig (g:=ZW) (i:=i) U Qj1 hm.arr U U G λkc gw=>p (λ_=>Zf U) <|
   pq (λ_ E=>Qy ((gw.fld 2 (sS (es[i]'G).vr) U).I E) U)<|p Qx<|p Qx<|pk<|xg<|(Us (hI.I hy) ess hb).mono ?_
  rintro _ ke ⟨rfl,gx⟩;have hL:=hy.D gx;refine⟨hL,?_⟩;refine p (λ_=>zg 154 5 underlying156 U U U)<|Lg.pig (g:=Zp) (i:=i) U KY hw.p.arr U U I λkf gy=>p (λ_=>Zf U)<|p (λ_=>Zf U)<|pq (λ_ E=>Qy (((gy.from 0).fld 2 (sS (q.ps[i]'I).e.vr) U).I E) U) <|
   pb (λ_=>XM U U) (λhN=>OW gq hN) (λhN=>?_)
  refine p (Y7 U)<|pe ?_;exact⟨(),La,hL⟩
 rintro _ g kg gz;refine ZO rfl<|Qf<|Qs<|Qa<|QG U U<|Qb<|⟨i+1,oa,La,G,V.D gz⟩
theorem VN.is.len {m:VN}{s:jr}(h:m.is s):m.ss.length=m.rs.length+1/\m.rs.length=s.un.length:=by
 have E:=OV oQ h.1;have G:=OV oQ h.2.1;rw[Lh,Lk]at E;rw[Lh]at G;have H:=h.2.2.2;simp at E;omega
theorem Qi7 {k:Nat}{m:VN}{s:jr}{xs:List ZU}(h:ju L w m)(ht:m.is s)(hk:Yu k s)(za:k<=1000)(hL:∀b∈L,b<↑w)(hx:zc L2 w.heap vl xs)(k9:∀e∈xs.map ZU.e,q7 e.2)(ma:Kb w 4096):
  QZ sV 23 [pS m.b,vl] w λr w'=>∃qr:V3,r=.tuple #[sT (Q0 qr),sS (UL s (xs.map ZU.e))]/\(∀N:LN,(∀b∈N,b<↑w)->Jr N w'.heap qr)/\(UL s (xs.map ZU.e)≠0->sX w w'/\qr.rp=⟨[],[],[]⟩) /\
   (UL s (xs.map ZU.e)=0->qr.rp=YM (KU s.c (xs.map ZU.e)).2 s.ps ((s.un.length:Int)+1)/\∃m':VN,m'.b=m.b/\m'.is (edS s (xs.map ZU.e))/\O5 m.own w w'/\ju (m'.own++L) w' m'/\∀b∈m'.own,b∈m.own\/↑w<=b):=by
 obtain⟨TS,hB⟩:=h.blk;obtain⟨ss,q,ess,eun,eqc,eqp⟩:=ht.last;have mf:=ht.len;have hY:=hk.st;have zb:=hk.l64;have zv:=hk.m0;have z1:=hk.m1;have mg:m.made=s.made:=ht.2.2.1;have g6:CSz q.c.V:=by rw[eqc];exact VK hY.ck
 have hZ:m.ss.length<=1000:=oa
 have hV:(m.ss.length:Int)=(s.un.length:Int)+1:=oa
 have mh:q.ps.length<=1000:=by
  have e1:=OV oQ eqp;have e4:=OV oQ hY.ky;rw[Lh]at e1;rw[Lh,Lh]at e4;have:=Vz (Z4 hY.ck).sr;omega
 have ga:ye L w.heap q:=h.sA q (by rw[ess];simp);have mj:Zo [] w.heap m.vs m.ss.length 6 (m.ss.flatMap Xh):=QB h.rs oa od;have mo:Zo [] w.heap m.vr m.rs.length 3 (m.rs.flatMap Q0):=QB h.rr oa od;have mq:(xs.map ZU.e).length=xs.length:=Lh _;have ms:∀(w':O1) (N:LN),Jr N w'.heap ⟨Zm,[],Zm,[],Zm,[]⟩:=λw' N=>⟨Zo.nil _ _ _,Zo.nil _ _ _,Zo.nil _ _ _⟩;have O:UL s (xs.map ZU.e)=if xs.length=0 then 12 else if m.rs.length=64 then 3 else if(KU q.c.V (xs.map ZU.e)).1≠0 then(KU q.c.V (xs.map ZU.e)).1 else Je (KU q.c.V (xs.map ZU.e)).2 (q.ps.map (·.pt)) (m.ss.length:Int):=by
  unfold UL;rw[mq,<-hV,<-mf.2,eqc,eqp]
 have V:KU q.c.V (xs.map ZU.e)=if(zw q.c.V (xs.map ZU.e)).1≠0 then((zw q.c.V (xs.map ZU.e)).1,VJ)else if(J6 q.c.V.ev (zw q.c.V (xs.map ZU.e)).2).1≠0 then((J6 q.c.V.ev (zw q.c.V (xs.map ZU.e)).2).1,VJ)else if Zj (J6 q.c.V.ev (zw q.c.V (xs.map ZU.e)).2).2≠0 then(Zj (J6 q.c.V.ev (zw q.c.V (xs.map ZU.e)).2).2,VJ)else(0,(J6 q.c.V.ev (zw q.c.V (xs.map ZU.e)).2).2):=rfl
 have hu:zw q.c.V (xs.map ZU.e)=if(ZR q.c.V).1≠0 then((ZR q.c.V).1,[])else zz (ZR q.c.V).2 (xs.map ZU.e):=rfl
 have hP:(ZR q.c.V).1=0->∀y∈(zz (ZR q.c.V).2 (xs.map ZU.e)).2,q7 y:=λh0=>QfQ (yc g6 h0) k9;have hQ:edS s (xs.map ZU.e)=⟨(KU q.c.V (xs.map ZU.e)).2,VL (KU q.c.V (xs.map ZU.e)).2 (q.ps.map (·.pt)) (m.ss.length:Int),s.made+((YM (KU q.c.V (xs.map ZU.e)).2 (q.ps.map (·.pt)) (m.ss.length:Int)).made.length:Int),s.rs++[YM (KU q.c.V (xs.map ZU.e)).2 (q.ps.map (·.pt)) (m.ss.length:Int)],s.un++[(s.c,s.ps)]⟩:=by
  unfold edS;rw[<-hV,eqc,eqp]
 have mt:YM (KU s.c (xs.map ZU.e)).2 s.ps ((s.un.length:Int)+1)=YM (KU q.c.V (xs.map ZU.e)).2 (q.ps.map (·.pt)) (m.ss.length:Int):=by rw[<-hV,eqc,eqp]
 rw[mt];refine Zh (UL s (xs.map ZU.e)) λE hE=>?_;refine Zh (edS s (xs.map ZU.e)) λES g7=>?_;refine Zh (KU q.c.V (xs.map ZU.e)) λEC g8=>?_;refine Zh (zw q.c.V (xs.map ZU.e)) λEI mu=>?_;rw[hE]at O;rw[g7]at hQ;rw[g8]at O V hQ;rw[mu]at V hu;rw[hE,g7,g8];refine Zq func23 ?_;refine Qc<|QM ZT λY w1 hv gb hw=>Qb ?_;have z2:=hw.lt;have bad:∀(e:Int) (w2 w3:O1),E=e->e≠0->sX w w2->O5 [Y] w2 w3->(∃qr:V3,tup [sT ZT,sS e]=.tuple #[sT (Q0 qr),sS E]/\(∀N:LN,(∀b∈N,b<↑w)->Jr N w3.heap qr)/\(E≠0->sX w w3/\qr.rp=⟨[],[],[]⟩) /\
   (E=0->qr.rp=YM EC.2 (q.ps.map (·.pt)) (m.ss.length:Int)/\∃m':VN,m'.b=m.b/\m'.is ES/\O5 m.own w w3/\ju (m'.own++L) w3 m'/\∀b∈m'.own,b∈m.own\/↑w<=b)):=λe w2 w3 H h2 h3 h4 =>
  ⟨⟨Zm,[],Zm,[],Zm,[]⟩,by rw[H];rfl,λN _=>ms w3 N,λ_=>⟨h3.O h4 oa,U⟩,λh0=>OW (H.symm.D h0) h2⟩
 refine Qe<|Qj<|QF hx.arr U<|x (QT U U)<|xe<|QO rfl (λgc=>?_) (λgc=>?_)
 ·rw[OU (by have mv:(xs.length:Int)=0:=gc;omega)]at O;refine Qc<|x (Qv Z)<|QI ZT hw oC λw3 hf hA=>Qb<|Qh ⟨[sT ZT,sS 12],⟨Yk hA,U,Z⟩,bad 12 w1 w3 O ol hv hf⟩
 rw[OT (by have mv:¬(xs.length:Int)=0:=gc;omega)]at O;refine Qf<|Qe<|Qj<|Yf U<|Qo U (hB.I hv) U U<|QF (mo.I hv) U<|x (QT U U)<|xe<|QO rfl (λgg=>?_) (λgg=>?_)
 ·rw[OU (by have mw:(m.rs.length:Int)=64:=gg;omega)]at O;refine Qc<|x (Qv Z)<|QI ZT hw oC λw3 hf hA=>Qb<|Qh ⟨[sT ZT,sS 3],⟨Yk hA,U,Z⟩,bad 3 w1 w3 O ol hv hf⟩
 have my:¬m.rs.length=64:=by have mw:¬(m.rs.length:Int)=64:=gg;omega
 rw[OT my]at O;refine Qf<|Qj<|Qz<|(Us (h.I hv) ess hZ).mono ?_;rintro _ wa ⟨rfl,g9⟩;have ka:=hv.D g9;refine x (Qd3 44 0 q.c.cells underlying156 U U U)<|Qz<|(yT (ga.c.I ka) g6).mono ?_;rintro r5 w2 ⟨kb,v5,rfl,_,mz⟩;have gh:=ka.D kb;have hC:=g9.D kb;refine Qa<|QW U U<|QW U U<|x Qi<|Qb<|Qe<|Qj<|Zx U U<|xe<|QO rfl (λhj=>?_) (λhj=>?_)
 ·rw[OU hj]at hu;rw[hu,OU hj]at V;rw[V,OU hj]at O;refine Qc<|x (Qv Z)<|Qa<|QI ZT (hw.I hC) oC λw3 hf hA=>Qb<|Qh ⟨[sT ZT,sS (ZR q.c.V).1],⟨Yk hA,U,Z⟩,bad _ w2 w3 O hj gh hf⟩
 rw[OT hj]at hu;have gi:=Lo.1 hj;have hP:=hP gi;refine Exists.elim (mz gi) λl5 gj=>?_;have m2:Ka [] w2.heap v5 l5:=by
  refine Ju.dits gj.1 ?_ od;have H:=OV oQ gj.2;rw[Lh]at H;obtain⟨_,_,_,_,_,hk⟩:=jf gi;have:=K8 hk;omega
 have hAp:=QdH m2 (Go.Lg.XK.I hx gh);rw[gj.2,<-hu]at hAp;rw[<-hu]at hP;refine Qf<|Qj<|Qa<|Qz<|hAp.mono ?_;rintro r7 w3 ⟨hf,v7,l7,rfl,m3,hR⟩;have hD:=gh.D hf;refine Qa<|QW U U<|QW U U<|x Qi<|Qb<|Qe<|Qj<|Zx U U<|xe<|QO rfl (λhy=>?_) (λhy=>?_)
 ·rw[OU hy]at V;rw[V,OU hy]at O;refine Qc<|x (Qv Z)<|Qa<|QI ZT ((hw.I hC).I hf) oC λw4 hS m4=>Qb<|Qh ⟨[sT ZT,sS EI.1],⟨Yk m4,U,Z⟩,bad _ w3 w4 O hy hD hS⟩
 rw[OT hy]at V;obtain⟨hR,z3⟩:=hR (Lo.1 hy);have hD3:Ka [] w3.heap v7 l7:=Ju.dits m3 oa od;have m5:q.c.V.ev=q.c.ev:=rfl;rw[m5]at V;refine Qf<|Qj<|Qz<|(Us (h.I hD) ess hZ).mono ?_;rintro _ wb ⟨rfl,hT⟩;have hCe:=Qdc (ga.c.I (hD.D hT)).ev (hD3.I hT) (λq hq=>hP q (by rw[<-hR];exact hq));rw[hR]at hCe;refine Zh (J6 q.c.ev EI.2) λDC m6=>?_;rw[m6]at V hCe;refine x (Qd3 44 0 q.c.cells underlying156 U U U)<|x (zg 39 0 underlying44 U U U)<|Qa<|Qz<|hCe.mono ?_;rintro r9 w4 ⟨hS,J,rfl,m7,hU⟩;refine Qa<|QW U U<|QW U U<|QM Z8 λb8 w5 m8 m9 pa=>QI J.cells pa m7 λw6 pc kc =>
  Qb ?_
 have gk:sX w4 w6:=m8.O pc m9;have ke:=(hT.D hS).D gk;have gl:=hD.D ke;have z4:=hT.size;have z5:=hD.size;have hz4:=hS.size;have hz46:=gk.size;have gm:=((hw.I hC).I hf).I ke;refine Qe<|Qj<|Zx U U<|xe<|QO rfl (λhz=>?_) (λhz=>?_)
 ·rw[OU hz]at V;rw[V,OU hz]at O;refine Qc<|x (Qv Z)<|Qa<|QI ZT gm oC λS hi pd=>Qb<|Qh ⟨[sT ZT,sS DC.1],⟨Yk pd,U,Z⟩,bad _ w6 S O hz gl hi⟩
 rw[OT hz]at V;have hU:=hU (Lo.1 hz);have gn:=hU.1;have kf:ZH (Y::L) w6.heap J:=(hU.2 (Y::L) λb G=>by
  rcases Li.1 G with rfl|G
  ·have:=hC.size;have:=hf.size;omega
  have:=hL b G;omega).I gk
 have hCk:=Xl kf;rw[gn]at hCk;refine Qf<|Qe<|Qc<|QS kc U U<|Qz<|hCk.mono ?_;rintro r13 S ⟨rfl,hi⟩;have hl:=gl.D hi;have hz7:=hi.size;refine Qb<|Qj<|Zx U U<|xe<|QO rfl (λhF=>?_) (λhF=>?_)
 ·rw[OU hF]at V;rw[V,OU hF]at O;refine Qc<|x (Qv Z)<|Qa<|QI ZT (gm.I hi) oC λw8 hh go=>Qb<|Qh ⟨[sT ZT,sS (Zj DC.2)],⟨Yk go,U,Z⟩,bad _ S w8 O hF hl hh⟩
 rw[OT hF]at V;rw[V,OT od]at O;rw[V]at hQ;refine Qf ?_;have hz06:=gl.size;have gp:∀b∈Y::L,b<S.heap.size:=λb G=>by
  rcases Li.1 G with rfl|G
  ·have:=hC.size;have:=hf.size;omega
  have:=hL b G;omega
 have kg:=kf.I hi;have pf:jO (Y::L) S.heap q.vp q.ps:=Go.Lg.XK.I (Go.Lg.XK.up ga.p λb G=>by
  rcases Li.1 G with rfl|G
  ·exact .inr gb
  exact .inl G) hl
 have pg:sX S { S with drawn:=S.drawn+1 }:=O5.C _ _
 refine Zh (Je DC.2 (q.ps.map (·.pt)) (m.ss.length:Int)) λE2 kh=>?_;rw[kh]at O;refine QX (α:=LV×LV×Int×Nat×Nat) [(63,77),(7,7),(9,11)] (λz=>[(9,pS z.2.2.2.1),(10,pS z.2.2.2.2),(11,sS z.2.2.1),(7,sS E2)]) (λz w'=>sX S w'/\(↑S<=z.2.2.2.1/\QY w'.heap z.2.2.2.1 156 z.1)/\(↑S<=z.2.2.2.2/\QY w'.heap z.2.2.2.2 53 z.2.1)/\(E2=0->∃vo qs p,z.1=[J.ve,J.vc,J.vr,J.vx,J.vk,vo]/\z.2.1=Q0 p/\z.2.2.1=(p.k2.length:Int)/\qs.map (·.pt)=VL DC.2 (q.ps.map (·.pt)) (m.ss.length:Int)/\p.rp=YM DC.2 (q.ps.map (·.pt)) (m.ss.length:Int)/\jO (Y::L) w'.heap vo qs/\∀N:LN,(∀b∈N,b<↑S)->Jr N w'.heap p)) om ?_ ?_
 ·refine QkT (α:=LV×LV×Int) (sX S) [oE 0,oE 1,oE 4,oE 5,oE 6,oE 7,oE 8] [oF 2,oE 3,oF 9,oE 10,oE 11,oE 12,oE 13,oE 14] 15 9 16 10 [oF 17,oF 18,oE 19,oE 20] []
   [(63,77)] [(9,10),(63,63),(66,67),(73,77)] (λz=>[(74,sT z.1),(75,sT z.2.1),(76,sS z.2.2),(77,sS E2)])
   (λz own w'=>(z.1.length=6/\Zb z.1/\z.2.1.length=3/\Zb z.2.1)/\(E2=0->∃vo qs p,z.1=[J.ve,J.vc,J.vr,J.vx,J.vk,vo]/\z.2.1=Q0 p/\z.2.2=(p.k2.length:Int)/\qs.map (·.pt)=VL DC.2 (q.ps.map (·.pt)) (m.ss.length:Int)/\p.rp=YM DC.2 (q.ps.map (·.pt)) (m.ss.length:Int) /\
    (∀N:LN,(∀b∈N,b∈Y::L\/(↑S<=b/\b∉own))->jO N w'.heap vo qs)/\∀N:LN,(∀b∈N,b<↑S\/b∉own)->Jr N w'.heap p))
   (λv w'=>∃b,v=pS b/\↑S<=b/\QY w'.heap b 156 z6) (λv w'=>∃b,v=pS b/\↑S<=b/\QY w'.heap b 53 ZT) mixed om oe om U U pg od ?_ ?_ ?_ ?_ ?_
  ·rintro v own wa wb ⟨b,rfl,G,hB⟩ hs hn;exact⟨b,U,G,hB.J hs (hn b ou)⟩
  ·rintro v own wa wb ⟨b,rfl,G,hB⟩ hs hn;exact⟨b,U,G,hB.J hs (hn b ou)⟩
  ·rintro z own wa wb ⟨H,h2⟩ hs;refine⟨H,λh0=>?_⟩;obtain⟨vo,qs,p,e1,e2,e3,e4,e5,e6⟩:=h2 h0;exact⟨vo,qs,p,e1,e2,e3,e4,e5,λN hN=>Go.Lg.XK.I (e6.1 N hN) hs,λN hN=>(e6.2 N hN).I hs⟩
  ·rintro⟨us,ur,n⟩ g own wz v u ⟨⟨i1,i2,i3,i4⟩,i5⟩ gq ⟨b9,rfl,ho,hG⟩ ⟨hp,rfl,h5,h6⟩ ph pj pm;have n9:=(ph b9 ou).1;have n10:=(pj hp ou).1;have ki:b9≠hp:=λe=>pm b9 ou (by rw[e];simp[ow]);refine pk<|Zv (us:=us) hG U U i1 U i2 λw8 hh gr=>⟨gq.O hh ho,?_⟩;refine pk<|Zv (us:=ur) (h6.J hh (by simp only[oJ];exact λe=>ki e.symm)) U U i3 U i4 λw9 hH pn=>⟨(gq.O hh ho).O hH h5,?_⟩;refine p ZG<|p ZG<|pe ?_;refine⟨(us,ur,n,b9,hp),oD,(gq.O hh ho).O hH h5,⟨ho,gr.J hH (by simp only[oJ];exact ki)⟩,⟨h5,pn⟩,λh0=>?_⟩;obtain⟨vo,qs,p,e1,e2,e3,e4,e5,e6⟩:=i5 h0;have e7:=e6.1 (b9::hp::Y::L) λb G=>by
    rcases Li.1 G with rfl|G
    ·exact .inr ⟨ho,n9⟩
    rcases Li.1 G with rfl|G
    ·exact .inr ⟨h5,n10⟩
    exact .inl G
   refine⟨vo,qs,p,e1,e2,e3,e4,e5,Go.Lg.XK.up (Go.Lg.XK.st e7 ((hh.mono od).Q (hH.mono od))) (λb G=>.inl (by
    rcases Li.1 G with rfl|G
    ·simp
    simp[G])),λN hN=>?_⟩
   have e8:=e6.2 (b9::hp::N) λb G=>by
    rcases Li.1 G with rfl|G
    ·exact .inr n9
    rcases Li.1 G with rfl|G
    ·exact .inr n10
    exact .inl (hN b G)
   exact(e8.st ((hh.mono od).Q (hH.mono od))).up (λb G=>.inl (by simp[G]))
  refine pq (λ_ hc=>Zr ((kc.I hi).I hc) U U)<|p Qx<|p Qx<|p (YG U)<|p (QJ U)<|pq (λ_ hc=>Ql ((hB.I hl).I hc) U U)<|p (λ_=>Yx (mj.I hl) U)<|pe ⟨λg wf gs=>flA z6 gs,λg wf gs=>flA ZT gs,?_⟩;refine f2k λx0 T c0=>xg<|(Us ((h.I hl).I c0) ess hZ).mono ?_;rintro _ y0 ⟨rfl,kj⟩;refine⟨(c0.D kj),[],kj,(λb G=>by cases G),?_⟩;refine Ui (λ_=>zg 154 5 underlying156 U U U)<|?_;refine f2k λx1 p1 c1=>?_;have hN:=Qak (v:=(m.ss.length:Int)) (kg.I c1) (L':=Uq ↑S ↑x1++(Y::L)) (Go.Lg.XK.I (Go.Lg.XK.up pf λb G=>by
   rcases Lc.1 G with G|G
   ·exact .inr (Zw.1 G).1
   ·exact .inl G) c1) (λb G=>by
   have:=c1.size;rcases Lc.1 G with G|G
   ·exact(Zw.1 G).2
   have:=gp b G;omega) mh ((ma.I hl).I c1)
  rw[gn,kh]at hN;refine xg<|hN.mono ?_;rintro _ y1 ⟨kk,us,ur,n,rfl,po,pp,pu,pw,pz⟩;refine⟨c1.D kk,Uq ↑x1 ↑y1,kk.any,λb G=>.inr (Zw.1 G),?_⟩;refine Ui Qx<|Ui (λ_=>Zi U U)<|Ui (λ_=>Zi U U)<|Ui (λ_=>Zi U U)<|Ui (λ_=>Zi U U)<|f2e ?_;refine⟨(us,ur,n),oD,⟨po,pp,pu,pw⟩,λh0=>?_⟩;obtain⟨vo,qs,p,e1,e2,e3,e4,e5,e6,e7⟩:=pz h0;have kn:∀b,↑S<=b->b∉Uq ↑x1 ↑y1->b<↑x1\/↑y1<=b:=λb H hn=>by
   rcases Np b ↑x1 with h2|h2
   ·exact .inl h2
   rcases Np b ↑y1 with h3|h3
   ·exact OW (Zw.2 ⟨h2,h3⟩) hn
   exact .inr h3
  refine⟨vo,qs,p,e1,e2,e3,e4,e5,λN hN=>Go.Lg.XK.up e6 λb G=>?_,λN hN=>?_⟩
  ·rcases hN b G with H|H
   ·exact .inl (Lc.2 (.inr H))
   exact(kn b H.1 H.2).imp (λh2=>Lc.2 (.inl (Zw.2 ⟨H.1,h2⟩))) id
  refine(e7 (N.filter λb=>decide (b<↑x1)) λb G=>OY (L5.1 G).2).up λb G=>?_;rcases Np b ↑S with H|H
  ·exact .inl (L5.2 ⟨G,OX (LO H c1.size)⟩)
  exact(kn b H ((hN b G).resolve_left (Nat.not_lt.2 H))).imp (λh2=>L5.2 ⟨G,OX h2⟩) id
 rintro⟨us,ur,n,b9,hp⟩ g wA ⟨gt,⟨ho,hG⟩,⟨h5,h6⟩,hg⟩;simp only[]at ho hG h5 h6 hg;have h7:=hl.D gt;have gu:=(gm.I hi).I gt;refine Qe<|Qj<|Zx U U<|xe<|QO rfl (λgv=>?_) (λgv=>?_)
 ·refine Qc<|x (Qv Z)<|Qa<|QI ZT gu oC λw8 hh go=>Qb<|Qh ⟨[sT ZT,sS E2],⟨Yk go,U,Z⟩,bad _ wA w8 O gv h7 hh⟩
 have ko:=Lo.1 gv;refine Qf<|Exists.elim (hg ko) λvo p2=>Exists.elim p2 λqs p3=>Exists.elim p3 λT hr=>?_;have e1:=hr.1;have e2:=hr.2.1;have en:n=(T.k2.length:Int):=hr.2.2.1;have eqs:=hr.2.2.2.1;have erp:=hr.2.2.2.2.1;have p4:=hr.2.2.2.2.2.1;have gw:=hr.2.2.2.2.2.2;rw[e1]at hG;rw[e2]at h6;have kq:=hB.I h7;have z0A:=h7.size;have msb:m.b∈m.own:=Lq;have mvs:∀b∈ob m.vs,b∈m.own:=λb G=>Lj _ (Lc.2 (.inl G));have mvr:∀b∈ob m.vr,b∈m.own:=λb G=>Lj _ (Lc.2 (.inr G));have nown:∀b,↑w<=b->b∉m.own:=λb H G=>ov (h.lt b G)
 have n4:=nown Y gb;have n9:=nown b9 oa;have n10:=nown hp oa;have gx:∀b∈[m.b],b∈m.own:=λb G=>by rw[Lb.1 G];exact msb
 have kr:ye (Y::L) wA.heap ⟨J,vo,qs⟩:=⟨kg.I gt,p4⟩;have gy:=gw [] od;have hrl2:=gy.a2.le;have drA:sX wA { wA with drawn:=wA.drawn+1 }:=O5.C _ _
 refine Qe<|ZA (ob m.vs) (YX 0 11 [6,7,10])<|p Qx<|p Qx<|p (YG U)<|p (QJ U)<|pq (λ_ hc=>Ql (kq.J hc h.d1) U U)<|pq (λ_ hc=>Zr (hG.J hc (λI=>n9 (mvs _ I))) U U) <|
  pk<|Za [Xh ⟨J,vo,qs⟩] λb88 wJ kt hb88 p5=>⟨(drA.D kt).any,?_⟩
 have h8:=drA.D kt;refine pk<|Ja (m:=1) (news:=Xh ⟨J,vo,qs⟩) (L:=[]) (Qk h.rs (h7.D h8)) U U U (p5.at od) (Zb.all kr.ones) (show m.ss.length+1<=1073741824 by omega) (Ln _) λha wK gz hI p6=>⟨h8.any.Q hI,?_⟩;have p7:QY wK.heap m.b TS _:=(kq.I h8).J hI h.d1;refine p (YG U)<|p (QJ U)<|pkk<|Qu (u:=ha) p7 U U (LZ U) (Qp gz) λwB hW p8=>pe ?_;have ku:QY wB.heap m.b TS [ha,m.vr,sS m.made]:=p8;have sAB:O5 m.own wA wB:=(h8.any.Q (hI.mono mvs)).Q (hW.mono gx);have p9:wB.ownsRow 0 53 3 m.vr m.rs.length (m.rs.flatMap Q0):=Qd (Qd (Qk h.rr (h7.D h8)) hI λb G I=>h.d3 b I G) hW λb G I=>h.d2 (Lb.1 I ▸ G);have drB:sX wB { wB with drawn:=wB.drawn+1 }:=O5.C _ _
 have qc:=h6.J sAB n10;refine Qe<|ZA (ob m.vr) (YX 0 11 [6,7,10])<|p Qx<|p Qx<|p (YG U)<|p (QJ U)<|pq (λ_ hc=>Ql (ku.J hc h.d2) U U)<|pq (λ_ hc=>Zr (qc.J hc (λI=>n10 (mvr _ I))) U U) <|
  pk<|Za [Q0 T] λb98 wL kv hb98 gr=>⟨(drB.D kv).any,?_⟩
 have h9:=drB.D kv;refine pk<|Q2 (m:=1) (news:=Q0 T) (L:=[]) (Qk p9 h9) U U U (gr.at od) (Zb.all gy.ones) oa (Ln _) λhe wM kw hX qf=>⟨h9.any.Q hX,?_⟩;have ql:QY wM.heap m.b TS _:=(ku.I h9).J hX h.d2;refine p (YG U)<|p (QJ U)<|pkk<|Qu (u:=he) ql U U (LZ U) (Qp kw) λwN g0 qm=>pe ?_;have kx:QY wN.heap m.b TS [ha,he,sS m.made]:=qm;have sBN:O5 m.own wB wN:=(h9.any.Q (hX.mono mvr)).Q (g0.mono gx);refine Qj<|Qa<|Yf U<|Qo U kx U U<|Qa<|x (XS (a:=m.made) (b:=n) U U ⟨oa,oa⟩)<|Yf U<|x (KA U) <|
  Qn<|Qu (u:=sS (m.made+n)) kx U U (LZ U) U λwO g2 qn=>xe ?_
 have qo:QY wO.heap m.b TS [ha,he,sS (m.made+n)]:=qn;have sAO:O5 m.own wA wO:=(sAB.Q sBN).Q (g2.mono gx);refine Qc<|QS (h6.J sAO n10) U U<|QI (Q0 T) (gu.J sAO n4) gy.ones λwP hJ q0=>Qb<|Qh ⟨[sT (Q0 T),sS 0],⟨Yk q0,U,Z⟩,?_⟩;have kz:E=0:=O.D ko;have l4:=gu.lt;have zAJ:=h8.size;have zK:=hI.size;have zB:=hW.size;have zBL:=h9.size;have hK:∀b∈ob ha,b∈ob m.vs\/↑wA<=b:=λb G=>(p6 b G).imp id λH=>LH zAJ H;have q1:∀b∈ob ha,b<wB.heap.size:=λb G=>ov (Qg gz b G).2
 have hO:∀b∈ob he,b∈ob m.vr\/↑wB<=b:=λb G=>(qf b G).imp id λH=>LH zBL H;have zAB:wA.heap.size<=wB.heap.size:=oa
 have lmb:=h.lt _ msb;have k0:∀b∈ob ha,b∉ob m.vr:=λb G I=>(hK b G).elim (λH=>h.d3 b H I) λH=>ov (h.lt b (mvr b I))
 have k4:m.b∉ob ha:=λI=>(hK _ I).elim h.d1 λH=>oa
 have k5:m.b∉ob he:=λI=>(hO _ I).elim h.d2 λH=>oa
 have d3:∀b∈ob ha,b∉ob he:=λb G I=>(hO b I).elim (k0 b G) λH=>ov (q1 b G)
 have q2:∀b∈ob ha,b∉[Y]:=λb G I=>by
  rw[Lb.1 I]at G;exact(hK _ G).elim (λH=>n4 (mvs _ H)) λH=>oa
 have q3:∀b∈ob he,b∉[Y]:=λb G I=>by
  rw[Lb.1 I]at G;exact(hO _ G).elim (λH=>n4 (mvr _ H)) λH=>oa
 have g3:∀b∈ob ha,b∉[m.b]:=λb G I=>k4 (Lb.1 I ▸ G);have k6:∀b∈ob he,b∉[m.b]:=λb G I=>k5 (Lb.1 I ▸ G);have q4:wP.ownsRow 0 156 6 ha (m.ss++[(⟨J,vo,qs⟩:jM)]).length ((m.ss++[(⟨J,vo,qs⟩:jM)]).flatMap Xh):=by
  have H:wK.ownsRow 0 156 6 ha (m.ss++[(⟨J,vo,qs⟩:jM)]).length ((m.ss++[(⟨J,vo,qs⟩:jM)]).flatMap Xh):=by
   rw[Lk,Ly];simpa using gz
  exact Qd (Qd (Qd (Qd (Qk (Qd H hW g3) h9) hX k0) g0 g3) g2 g3) hJ q2
 have q5:wP.ownsRow 0 53 3 he (m.rs++[T]).length ((m.rs++[T]).flatMap Q0):=by
  have H:wM.ownsRow 0 53 3 he (m.rs++[T]).length ((m.rs++[T]).flatMap Q0):=by
   rw[Lk,Ly];simpa using kw
  exact Qd (Qd (Qd H g0 k6) g2 k6) hJ q3
 have sW:O5 m.own w wP:=(h7.any.Q sAO).then hJ λb G=>.inr (by rw[Lb.1 G];exact gb);have sAP:∀M:LN,(∀b∈m.own,b∈M)->O5 (Y::M) wA wP:=λM hM=>(sAO.mono λb G=>Lj _ (hM b G)).Q (hJ.mono od);have j1:∀N:LN,(∀b∈N,b<↑w)->Jr N wP.heap T:=λN hN=>((gw (Y::(m.own++N)) (λb G=>by
  rcases Li.1 G with rfl|G
  ·exact gp _ Lq
  rcases Lc.1 G with G|G
  ·have:=h.lt b G;omega
  have:=hN b G;omega)).st (sAP (m.own++N) λb G=>Lc.2 (.inl G))).up λb G=>.inl (Lj _ (Lc.2 (.inr G)))
 refine⟨T,by rw[kz];rfl,j1,λh0=>OW kz h0,λ_=>⟨by rw[erp,V],⟨m.b,ha,m.ss++[⟨J,vo,qs⟩],he,m.rs++[T],m.made+n⟩,rfl,?_,sW,?_,?_⟩⟩
 ·have j2:(YM DC.2 (q.ps.map (·.pt)) (m.ss.length:Int)).made.length=T.k2.length:=by rw[<-erp];rfl
  rw[hQ];refine⟨?_,?_,?_,?_⟩
  ·show(m.ss++[_]).map jM.st=_;rw[Lp,ht.1,<-eqs,<-gn];rfl
  ·show(m.rs++[T]).map (·.rp)=_;rw[Lp,ht.2.1,<-erp];rfl
  ·show m.made+n=_;rw[mg,en,<-j2]
  show(s.rs++[_]).length=(s.un++[_]).length;rw[Lk,Lk,ht.2.2.2];rfl
 ·have hM:∀b∈(VN.own ⟨m.b,ha,m.ss++[⟨J,vo,qs⟩],he,m.rs++[T],m.made+n⟩)++L,b∈L\/↑wA<=b:=λb G=>by
   rcases Lc.1 G with G|G
   ·rcases Li.1 G with rfl|G
    ·exact .inl (h.sub _ msb)
    rcases Lc.1 G with G|G
    ·exact(hK b G).imp (λH=>h.sub b (mvs b H)) id
    exact(hO b G).imp (λH=>h.sub b (mvr b H)) λH=>LH zAB H
   exact .inl G
  have g4:∀b∈(VN.own ⟨m.b,ha,m.ss++[⟨J,vo,qs⟩],he,m.rs++[T],m.made+n⟩)++L,b∈L\/↑w<=b:=λb G=>(hM b G).imp id λH=>LH z0A H;refine Zh ((VN.own ⟨m.b,ha,m.ss++[⟨J,vo,qs⟩],he,m.rs++[T],m.made+n⟩)++L) λM eM=>?_;have j3:∀b∈VN.own ⟨m.b,ha,m.ss++[⟨J,vo,qs⟩],he,m.rs++[T],m.made+n⟩,b∈M:=λb G=>by rw[<-eM];exact Lc.2 (.inl G)
  have g5:∀b∈m.own,b∈M:=λb G=>by rw[<-eM];exact Lc.2 (.inr (h.sub b G))
  rw[eM]at hM g4 ⊢;have k7:∀b∈Y::M,b∈Y::L\/↑wA<=b:=λb G=>by
   rcases Li.1 G with rfl|G
   ·exact .inl Lq
   exact(hM b G).imp (Lj _) id
  have k8:∀b∈m.own,b∈M\/↑w<=b:=λb G=>.inl (g5 b G);refine⟨⟨TS,qo.J hJ (λI=>n4 (Lb.1 I ▸ msb))⟩,q4,q5,k4,k5,d3,j3,λd hd=>?_,λd hd=>?_⟩
  ·rcases Lc.1 hd with hd|hd
   ·exact Mm.J (ye.up (h.sA d hd) g4) sW k8
   rw[Lb.1 hd];exact((kr.up k7).st (sAP M g5)).up λb G=>.inl (Lj _ G)
  rcases Lc.1 hd with hd|hd
  ·exact Mm.J (Jr.up (h.rA d hd) g4) sW k8
  rw[Lb.1 hd];exact(((gw (Y::L) gp).up k7).st (sAP M g5)).up λb G=>.inl (Lj _ G)
 intro b G;rcases Li.1 G with rfl|G
 ·exact .inl msb
 rcases Lc.1 G with G|G
 ·exact(hK b G).imp (mvs b) λH=>LH z0A H
 exact(hO b G).imp (mvr b) λH=>LH z0A (LH zAB H)
theorem QaH (h0:ZM L w.heap va vm ve a):
  QZ sV 15 [.agg #[va,sS a.st,vm,ve]] w λr w'=>sX w w'/\∃ua ub uc ud,r=.tuple #[.agg #[ua,ub,uc,ud],sS (Jz a)]/\Zb [ua,ub,uc,ud] /\
   (Jz a=0->ub=sS (qe (Yj a)).st/\∀L:LN,(∀b∈L,b<↑w)->ZM L w'.heap ua uc ud (qe (Yj a))):=by
 have h:=h0.up (L':=[]) od;refine Zq func15 ?_;refine Qc<|Zl [va,sS a.st,vm,ve] λb1 w1 hn hK ho=>QM K3 λb2 w2 ha hL hc=>Qb ?_;have hp:=hn.D ha;have hM:=hn.size;refine Qe<|Qc<|QS (ho.I ha) U U<|Qz<|(Jq (h.I hp)).mono ?_;rintro r3 w3 ⟨rfl,J⟩;refine Qb ?_;have he:=hp.D J;refine Qj<|Zx U U<|xe<|QO rfl (λhf=>?_) (λhf=>?_)
 ·refine Qc<|x (Qv Z)<|Qa<|QI K3 (hc.I J) oD λw4 h5 hg=>Qb<|Qh ⟨[sT K3,sS (Jz a)],⟨Yk hg,U,Z⟩,he.O h5 oa,_,_,_,_,U,oD,λe=>OW e hf⟩
 have hq:Jz a=0:=Lo.1 hf;have hr:=(Z5 a).1 hq;have hs:=Qhu hr;have hO:=hs.st1;refine Qf<|Qc<|QS ((ho.I ha).I J) U U<|Qz<|(JH (h.I he) hr).mono ?_;rintro r5 w5 ⟨hh,ra,rm,re,rfl,hA⟩;have I:=hA [] od;have hP:=J.size;have hQ:=hh.size;refine QM K3 λG w6 h6 ht hu=>QI [ra,sS (Yj a).st,rm,re] hu ⟨I.al.one,U,I.mr.one,I.ed.one,Z⟩ λw7 h7 h8=>xe ?_;refine Qc<|QQ U<|Qn<|Qu (j:=2) (u:=Zm) h8 U U od rfl λS h9 hj=>xe ?_;have hk:sX w5 S:=(h6.O h7 ht).O h9 oa;have hR:=hu.lt;have hS:=hj.lt;have hT:=hc.lt;refine Qe<|Qc<|Qo U hj U U<|Qa<|xe<|Q8 (α:=Nat×O2) [(6,6),(18,27)] (λz=>[(18,sS z.1)]) (λz w'=>(z.1:Int)<=(Yj a).st/\O5 [G] S w'/\(∃T,QY w'.heap G T [ra,sS (Yj a).st,z.2,re])/\Qq 3 ↑S w' z.2 (Vm z.1)) (λz=>(Yj a).st.toNat - z.1) (0,Zm) La ⟨hs.st0,O5.Z _ _,⟨_,hj⟩,QD _ _ _ _⟩ ?_;rintro⟨i,v⟩ g w9 ⟨hi,V,⟨T5,hl⟩,O⟩;have hU:=V.size;refine Zn rfl U (λhv=>?_) (λhv=>?_)
 ·refine Qw ?_;have hB:(Yj a).st.toNat=i:=by have hV:¬(i:Int)<(Yj a).st:=hv;omega
  have hw:=Qp O;refine Qc<|QS hl U U<|QI [ra,sS (Yj a).st,v,re] (((hc.I J).I (hh.D hk)).J V oh) ⟨I.al.one,U,hw,I.ed.one,Z⟩ λY H hC=>Qb ?_;have hD:sX w Y:=(((he.D hh).D hk).O V oa).O H oa;refine Qh ⟨[.agg #[ra,sS (Yj a).st,v,re],sS 0],⟨Yk hC,U,Z⟩,hD,ra,_,v,re,by rw[hq];rfl,⟨I.al.one,U,hw,I.ed.one,Z⟩,λ_=>⟨U,λN hN=>?_⟩⟩;have hE:O5 [G,b2] w5 Y:=((hk.any (L:=[G,b2])).Q (V.mono od)).Q (H.mono od);have hX:∀b∈N,b<w.heap.size:=hN;have hF:ZM (G::b2::N) w5.heap ra rm re (Yj a):=by
   refine(hA (b2::N) (λb E=>?_)).up λb E=>?_
   ·rcases Li.1 E with rfl|E
    ·have:=J.size;omega
    have:=hX b E;omega
   rcases Li.1 E with rfl|E
   ·exact .inr ht
   exact .inl E
  have hy:=(hF.st (hE.mono od)).up (L':=N) λb E=>.inl (by simp[E]);have hG:Qq 3 ↑S Y v (Vm i):=Qd O H (λb E hm=>by have:=(Qg O b E).1;rw[Lb.1 hm]at this;omega);refine⟨hy.al,?_,hy.ed⟩;show QL N Y.heap v (Vm (Yj a).st.toNat);rw[hB];exact Qq.ints hG (by rw[Qa5];omega) (λb E=>ov (hX b E))
 refine Qf<|Qe<|Qm<|Qj<|Qb ?_;have n5:G∉ob v:=λhm=>ov (Qg O G hm).1
 refine Qs<|Qo U hl U U<|Qa<|Qn<|Za [[sS i]] λhW Y H hY hg=>?_;have hZ:=H.size;refine Qn<|Q2 (news:=[sS i]) (L:=[]) (Qk O H) U U U (hg.at od) oq (by rw[Qa5];omega) oa λhz hH h1 h2 ga=>?_;refine QQ rfl<|Qn<|Qu (j:=2) (u:=hz) ((hl.I H).J h2 n5) U U od (Qp h1) λgb h3 hI=>xe ?_;refine Qs<|QG U U<|Qa<|xe ?_;have hJ:O5 [G] S hH:=(V.D H).then h2 (λb E=>.inr (Qg O b E).1);refine⟨(i+1,hz),og,La,og,hJ.Q h3,⟨T5,hI⟩,?_⟩;simp only[];rw[Qb6];have h4:=Qq.snoc h1;exact Qd h4 h3 (λb E hm=>by have:=(Qg h4 b E).1;rw[Lb.1 hm]at this;omega)
section
variable {pS:String}{l:xE}{t':Nat}{x:O3}{k:IntKind}{a b:Int}
theorem QiF (hx:ev f x=.int k a)(E:ev f y=.int k b)(h:a=b):(execOp (ev f) ⟨d,.binOp .eql t x y t',ty,pS,af,gd⟩).run P w=.ok (.value (.bool true)) w:=by
 rw[QT hx E,OX h]
end
def jg (y:Yi)(k:Nat):Yi :=
 if y.kd=3 then{ y with ls:=y.ls.set (k % y.ls.length) ((y.ls.getD (k % y.ls.length) (.empty,0)).1,((k % 3:Nat):Int)) }
 else if y.kd=4 then{ y with bd:=((k % 7:Nat):Int) - 3 }
 else if Jz y.a=0/\k % 2=0 then{ y with a:=qe (Yj y.a) }else{ y with a:={ y.a with mr:=[] } }
theorem Qez (h0:Jg L w.heap q){k:Nat}(hk:k<256)(gg:q.kd=3->0<q.ls.length)(g9:q.ls.length<=1000000)(hL:∀b∈L,b<↑w):
  QZ sV 50 [sT (Qt q),sS (k:Int)] w λr w'=>sX w w'/\∃q':DV,r=sT (Qt q')/\q'.it=jg q.it k/\Jg L w'.heap q':=by
 have h:=h0;have G:=h.ones;refine Zq func50 ?_;refine Qc<|Zl (Qt q) λb2 w1 hH hj hw=>QM (Qt ⟨0,.empty,⟨Zm,Zm,Zm,⟨[],0,[],[]⟩⟩,Zm,[],Zm,[],0⟩) λb4 w2 hl ka hh=>xe ?_;have T:=hH.D hl;have Y:=hw.I hl;have kb:=hH.size;have hq:b2≠b4:=by have:=hw.lt;omega
 refine Qe<|Qc<|Qo U Y U U<|xe<|Qm<|Qc<|x (QT U U)<|Qb<|QO U (λhy=>?_) (λhy=>?_)
 ·have hr:q.kd=3:=hy;have hn:=gg hr;have gh:(q.ls.flatMap ZN).length=q.ls.length*2:=h.ls.arr.1;rcases h.ls.arr.2.2 with⟨_,e2⟩|⟨a,c,h1,h2,h3⟩
  ·omega
  refine Qc<|Qn<|XX λhI w3 V gi hJ=>Qo U (Y.I V) U U<|Qn<|Q2 (base:=↑w) (hJ.own (n:=0) (sz:=2) U oa (ov T.size)) U (show Go.Lg.ev _ _=_ from h1) h.ls.arr.1 (h3.I (T.D V)) (by
   intro u hu;obtain⟨p,_,O⟩:=Mc.1 hu;rcases Li.1 O with rfl|O
   ·rfl
   rw[Lb.1 O];rfl) oa (oy hJ.lt T.size) λv4 w4 S hz hK=>Qb ?_
  have h6:sX w2 w4:=V.O hz gi;have hs:=T.D h6;have H:k % q.ls.length<q.ls.length:=NO _ hn;have hM:q.ls.getD (k % q.ls.length) (.empty,0)=q.ls[k % q.ls.length]'H:=by simp[oR,H]
  have S:w4.ownsRow ↑w 143 2 v4 q.ls.length (q.ls.flatMap ZN):=by
   have E:=S;rw[LS,Ma]at E;exact E
  refine Exists.elim (X9 S hn) λg hg=>Exists.elim hg λcap ha=>?_;rw[ha]at S;refine Exists.elim (JB S).2 λcur hc=>?_;have kc:=(JB S).1;have ht:=hc.2.1;have gj:↑w<=g:=(Qg S g (by simp[ob])).1;refine Qj<|Qa<|Qa<|QF (QB (L:=[]) S oa od) (show Go.Lg.ev _ _=_ from ha)<|x (JU (a:=(k:Int)) (b:=(q.ls.length:Int)) rfl rfl oa oa)<|Qa<|x (JU (a:=(k:Int)) (b:=3) rfl rfl oa oa) <|
   x (Zy (i:=k % q.ls.length) (show Go.Lg.ev _ _=_ from ha) (show Go.Lg.ev _ _=_ from OV sS (Int.natCast_emod ..).symm) H)<|QQ U<|Qn<|Qu (j:=0+k % q.ls.length*2+1) (u:=sS ((k % 3:Nat):Int)) hc.1 U (show Go.Lg.ev _ _=_ from OV sS (Int.natCast_emod k 3).symm) oa U λw5 h9 hN=>xe ?_
  rw[LS]at hN;refine Zh (q.ls.set (k % q.ls.length) ((q.ls.getD (k % q.ls.length) (.empty,0)).1,((k % 3:Nat):Int))) λhe hv=>?_;have hO:(q.ls.flatMap ZN).set (k % q.ls.length*2+1) (sS ((k % 3:Nat):Int))=he.flatMap ZN:=by
   rw[<-hv];refine xI ZN 2 QdX q.ls _ 1 H _ _ ol ?_;rw[hM];rfl
  have gk:he.length=q.ls.length:=by rw[<-hv,L9]
  have gl:w5.ownsRow ↑w 143 2 (sL g q.ls.length cap) q.ls.length (he.flatMap ZN):=by
   refine VT S (Lv _) hN (by rw[L9];exact ht) ?_ (by rw[<-hO,L9];exact gh);rw[<-hO,<-hc.2.2,List.take_set]
  have gm:g∉L:=λH=>ov (hL g H)
  have n2g:b2≠g:=λe=>by
   have E:=hw.lt;rcases hK g (by rw[ha];simp[ob])with J|J
   ·have h8:g=hI:=by simpa[ob]using J
    have:=hl.size;omega
   have:=hl.size;have:=V.size;omega
  have n4g:b4≠g:=λe=>by
   have E:=hh.lt;rcases hK g (by rw[ha];simp[ob])with J|J
   ·have h8:g=hI:=by simpa[ob]using J
    omega
   have:=V.size;omega
  have gn:=QB (L:=b2::b4::L) gl oa (λb I H=>by
   rw[Lb.1 (show b∈[g] from I)]at H;rcases Li.1 H with E|H
   ·exact n2g E.symm
   rcases Li.1 H with E|H
   ·exact n4g E.symm
   exact gm H)
  refine Qs<|Qa<|QQ U<|Qn<|Qu (u:=sL g q.ls.length cap) ((Y.I h6).J h9 (oA n2g)) rfl (show Go.Lg.ev _ _=_ from ha) (LZ rfl) rfl λw6 hA go=>xe ?_;refine Qc<|QS go U U<|QI (Qt { q with vl:=sL g q.ls.length cap,ls:=he }) (((hh.I h6).J h9 (oA n4g)).J hA (oA hq.symm)) ⟨rfl,rfl,G.2.2.1,rfl,G.2.2.2.2.1,G.2.2.2.2.2.1,rfl,G.2.2.2.2.2.2.2.1,rfl,Z⟩ λw7 hP gp=>xe ?_
  have gq:↑w<=b4:=oa
  have hQ:=((hs.O h9 gj).O hA hj).O hP gq;refine Qh ⟨[_],⟨Yk gp,Z⟩,hQ,{ q with vl:=sL g q.ls.length cap,ls:=he },U,?_,?_⟩
  ·show({ q.it with ls:=he }:Yi)=jg q.it k
   unfold jg;rw[OU (show q.it.kd=3 from hr),<-hv];rfl
  have J:=h.I hQ;refine⟨J.nm,J.a,⟨by rw[gk];exact(((gn.st (hA.mono od)).st (hP.mono od)).up (L':=L) (λb I=>.inl (Lj _ (Lj _ I)))),λp O=>?_⟩,J.ts⟩;rw[<-hv]at O;rcases MS O with O|O
  ·exact J.ls.nm p O
  have h8:=J.ls.nm _ (Ll H);rw[O,hM];exact h8
 have hB:¬q.kd=3:=hy;refine Qc<|x (QT U U)<|Qb<|QO U (λhC=>?_) (λhC=>?_)
 ·have hr:q.kd=4:=hC;have gr:(k:Int) % 7 - 3=((k % 7:Nat):Int) - 3:=oa
  refine Qs<|Qa<|x (JU (a:=(k:Int)) (b:=7) U U oa oa)<|x (Jk U U ⟨oa,oa⟩)<|QQ U<|Qn<|Qu (u:=sS (((k % 7:Nat):Int) - 3)) Y U (show Go.Lg.ev _ _=_ from OV sS gr) (LZ U) U λw3 V gs=>xe ?_;refine Qc<|QS gs U U<|QI (Qt { q with bd:=((k % 7:Nat):Int) - 3 }) (hh.J V (oA hq.symm)) ⟨rfl,rfl,G.2.2.1,rfl,G.2.2.2.2.1,G.2.2.2.2.2.1,G.2.2.2.2.2.2.1,G.2.2.2.2.2.2.2.1,rfl,Z⟩ λw4 hz gt=>xe ?_
  have hs:=(T.O V hj).O hz oa;refine Qh ⟨[_],⟨Yk gt,Z⟩,hs,{ q with bd:=((k % 7:Nat):Int) - 3 },U,?_,?_⟩
  ·show({ q.it with bd:=((k % 7:Nat):Int) - 3 }:Yi)=jg q.it k
   unfold jg;rw[OT (show ¬q.it.kd=3 from hB),OU (show q.it.kd=4 from hr)]
  have h4:=h.I hs;exact⟨h4.nm,h4.a,h4.ls,h4.ts⟩
 have hR:¬q.kd=4:=hC;refine Qc<|QQ U<|x (Zd (us:=[q.p.va,sS q.p.a.st,q.p.vm,q.p.ve]) Y U U U)<|Qz<|(QaH (h.a.I T)).mono ?_;rintro ke gu ⟨gv,ua,ub,uc,ud,rfl,hf,ht⟩;refine Qa<|QW U U<|QW U U<|QM K3 λb6 kf gw gx gy=>QI [ua,ub,uc,ud] gy hf λhS gz hD=>Qb ?_;have hT:sX gu hS:=gw.O gz gx;have hE:=gv.D hT;have hU:=T.D hE;have hV:=Y.I hE;have hW:=hh.I hE;refine QX (α:=Unit) [(16,22)] (λ_=>[(22,.bool (decide (Jz q.p.a=0/\k % 2=0)))]) (λ_ w'=>w'=hS) om ?_ ?_
 ·refine Qs<|Qa<|xb (QT U U) (λhF=>?_) (λhF=>?_)
  ·have hd:decide ((k:Int) % 2=0)=decide (Jz q.p.a=0/\k % 2=0):=by
    refine decide_eq_decide.2 ⟨λE=>⟨hF,oa⟩,λE=>oa⟩
   refine Qa<|Qa<|x (JU (a:=(k:Int)) (b:=2) U U oa oa)<|x (QT U U)<|QE U<|xe ?_;exact⟨(),⟨OV Value.bool hd,Z⟩,U⟩
  refine Qa<|Zu<|QE U<|xe ?_;exact⟨(),⟨OV Value.bool (OZ λE=>hF E.1).symm,Z⟩,U⟩
 rintro _ g hX rfl;refine QO rfl (λhi=>?_) (λhi=>?_)
 ·have hY:=(ht hi.1).1;rw[hY]at hf;have hD:QY hX.heap b6 59 [ua,sS (qe (Yj q.p.a)).st,uc,ud]:=by rw[<-hY];exact hD
  refine Qs<|QS hD U U<|QQ U<|Qn<|YK (us:=[ua,sS (qe (Yj q.p.a)).st,uc,ud]) (cs':=Qt { q with p:=⟨ua,uc,ud,qe (Yj q.p.a)⟩ }) hV U U U (LZ U) hf U λkg hG g0=>xe ?_
  refine Qc<|QS g0 U U<|QI (Qt { q with p:=⟨ua,uc,ud,qe (Yj q.p.a)⟩ }) (hW.J hG (oA hq.symm)) ⟨rfl,rfl,hf.1,rfl,hf.2.2.1,hf.2.2.2.1,G.2.2.2.2.2.2.1,G.2.2.2.2.2.2.2.1,rfl,Z⟩ λg2 hZ g3=>xe ?_
  have ga:=(hU.O hG hj).O hZ oa;refine Qh ⟨[_],⟨Yk g3,Z⟩,ga,{ q with p:=⟨ua,uc,ud,qe (Yj q.p.a)⟩ },U,?_,?_⟩
  ·show({ q.it with a:=qe (Yj q.p.a) }:Yi)=jg q.it k
   unfold jg;rw[OT (show ¬q.it.kd=3 from hB),OT (show ¬q.it.kd=4 from hR),OU (show Jz q.it.a=0/\k % 2=0 from hi)];rfl
  have E:=h.I ga;have kh:=T.size;have g4:=(ht hi.1).2 ([b2,b4]++L) (by
   intro b I;rcases Lc.1 I with I|I
   ·rcases Li.1 I with rfl|I
    ·exact Y.lt
    rw[Lb.1 I];exact hh.lt
   have:=hL b I;omega)
  have g5:O5 ([b2,b4]++L) hX g2:=(hG.mono od).Q (hZ.mono od);exact⟨E.nm,((g4.I hT).st g5).up (λb I=>.inl (Lc.2 (.inr I))),E.ls,E.ts⟩
 refine Qs<|QQ U<|QQ U<|Qn<|Qu (u:=Zm) hV U U (LZ U) U λki gb g6=>xe ?_;refine Qc<|QS g6 U U<|QI (Qt { q with p:=⟨q.p.va,Zm,q.p.ve,{ q.p.a with mr:=[] }⟩ }) (hW.J gb (oA hq.symm)) ⟨rfl,rfl,G.2.2.1,rfl,rfl,G.2.2.2.2.2.1,G.2.2.2.2.2.2.1,G.2.2.2.2.2.2.2.1,rfl,Z⟩ λkj g7 g8=>xe ?_
 have gc:=(hU.O gb hj).O g7 oa;refine Qh ⟨[_],⟨Yk g8,Z⟩,gc,{ q with p:=⟨q.p.va,Zm,q.p.ve,{ q.p.a with mr:=[] }⟩ },U,?_,?_⟩
 ·show({ q.it with a:={ q.it.a with mr:=[] } }:Yi)=jg q.it k
  unfold jg;rw[OT (show ¬q.it.kd=3 from hB),OT (show ¬q.it.kd=4 from hR),OT (show ¬(Jz q.it.a=0/\k % 2=0) from hi)]
 have E:=h.I gc;exact⟨E.nm,⟨E.a.al,Zo.nil _ _ _,E.a.ed⟩,E.ls,E.ts⟩
def JO:ByteArray:=⟨#[102,117,114,116,104,101,114]⟩
def Qai:ByteArray:=⟨#[110,101,118,101,114]⟩
def Qaj:ByteArray:=⟨#[102,101,119]⟩
def JN:ByteArray:=⟨#[110,111,116,104,105,110,103]⟩
def qK:ByteArray:=⟨#[109,111,114,101]⟩
def Uw (n:ByteArray)(y:Yi)(wh b:Nat):Bool×Yi :=
 if wh % 8=0 then(true,⟨y.kd,y.nm,Vo,[],[],0⟩)
 else if wh % 8=1 then(false,jg y b)
 else if wh % 8=2/\y.kd=1 then(false,⟨2,JO,qe (Yj y.a),[],[],0⟩)
 else if wh % 8=3 then(false,⟨3,Qai,Vo,[(n,((b % 3:Nat):Int))],[],0⟩)
 else if wh % 8=4 then(false,⟨4,Qaj,Vo,[],[(n,1)],((b % 3:Nat):Int)⟩)
 else if wh % 8=5 then(true,⟨1,JN,Vo,[],[],0⟩)
 else if wh % 8=6/\y.kd=1 then(false,{ y with nm:=qK })
 else(false,y)
abbrev Qhg:Yi:=⟨0,.empty,Vo,[],[],0⟩
def dMk (c:ZF)(wh a b:Nat):Bool×Yi :=
 if(ZR c).1=0/\(ZR c).2≠[]then Uw ((c.co.map (·.nm)).headD .empty) ((ZR c).2.getD (a % (ZR c).2.length) Qhg) wh b else(true,Qhg)
abbrev qk:AV:=⟨Zm,Zm,Zm,Vo⟩
theorem Qaq {N:LN}{c:CL}(hN:∀b∈N,b<↑w)(h0:ZH L w.heap c)(hz:CSz c.V)(hw:0<c.co.length)(gr:∀y∈(ZR c.V).2,(y.kd=3->0<y.ls.length)/\y.ls.length<=1000000/\(y.kd=1->Jz y.a=0)){wh at_ bY:Nat}(kt:wh<256)(ku:at_<256)(gs:bY<256):
  QZ sV 14 [c.val,.agg #[.int .u8 (wh:Int),.int .u8 (at_:Int),.int .u8 (bY:Int)]] w λr w'=>sX w w'/\∃e:ZU,r=sT (ZQ e)/\e.e=dMk c.V wh at_ bY/\Jg N w'.heap e.q:=by
 have h:=h0.up (L':=[]) od;refine Zq func14 ?_;refine Qc<|Zl c.cells λb2 w1 h9 kv gt=>Zl [.int .u8 (wh:Int),.int .u8 (at_:Int),.int .u8 (bY:Int)] λb3 w2 h4 kw gu=>QM QpZ λJ w3 hA kx hB=>xe ?_;have hC:=(h9.D h4).D hA;have hW:=gt.I (h4.D hA);have hX:=gu.I hA;refine Qc<|QS hW U U<|Qz<|(yT (h.I hC) hz).mono ?_;rintro r4 w4 ⟨hf,v5,rfl,_,gv⟩;have hY:=hC.D hf;by_cases hi:(ZR c.V).1=0
 rotate_left
 ·have T:dMk c.V wh at_ bY=(true,Qhg):=by unfold dMk;rw[OT λe=>hi e.1]
  refine Qa<|QW U U<|QW U U<|x Qi<|Qb<|Qe<|QX (α:=Unit) [(16,22)] (λ_=>[(22,.bool true)]) (λ_ w'=>w'=w4) om ?_ ?_
  ·refine Qs<|Qa<|xb (XM U U) (λho=>?_) (λho=>OW ho (λe=>e hi));refine Qa<|Zu<|QE U<|xe ?_;exact⟨(),La,U⟩
  rintro _ g5 w5 rfl;refine QU U (λ_=>?_) (λgw=>by cases gw);have gx:=(h9.D h4).size;refine Qc<|x (Q5 [(0,[.bool true])] ⟨U,U,Z⟩)<|QI (ZQ ⟨true,⟨0,.empty,qk,Zm,[],Zm,[],0⟩⟩) (hB.I hf) ⟨U,U,U,U,U,U,U,U,U,U,Z⟩ λw6 gy gz=>xe ?_;exact Qh ⟨[_],⟨Yk gz,Z⟩,hY.O gy oa,⟨true,⟨0,.empty,qk,Zm,[],Zm,[],0⟩⟩,U,T.symm,⟨by show JD .empty;decide,⟨Zo.nil _ _ _,Zo.nil _ _ _,Zo.nil _ _ _⟩,V2.nil,V2.nil⟩⟩
 refine Exists.elim (gv hi) λE hj=>?_;have hZ:E.length=(ZR c.V).2.length:=by have V:=OV oQ hj.2;rwa [Lh]at V
 have ga:0<E.length/\E.length<=100000:=by
  obtain⟨a,b,_,_,e,hk⟩:=(jf hi);have V:=K8 hk;have h2:(ZR c.V).2.length=_:=OV oQ e;rw[Lk,Lh]at h2;have h3:c.V.co.length=c.co.length:=Lh _;omega
 have h6:Ka [] w4.heap v5 E:=Ju.dits hj.1 oa od;refine Qa<|QW U U<|QW U U<|x Qi<|Qb<|Qe<|QX (α:=Unit) [(16,22)] (λ_=>[(22,.bool false)]) (λ_ w'=>w'=w4) om ?_ ?_
 ·refine Qs<|Qa<|xb (XM U U) (λho=>OW hi ho) (λho=>?_);refine Qa<|Qa<|QF h6.arr U<|xb (QT U U) (λgb=>OW gb oa) (λgb=>?_);refine QE U<|xe ?_;exact⟨(),La,U⟩
 rintro _ g5 w5 rfl;refine ZO rfl<|Qf ?_;have g0:((at_:Int) % (E.length:Int))=((at_ % E.length:Nat):Int):=(Int.natCast_emod ..).symm;have hn:at_ % E.length<E.length:=NO _ ga.1;refine Qj<|Qo U (hX.I hf) U U<|x (Z6 (k':=.i64) U ⟨oa,oa⟩)<|Qa<|QF h6.arr U<|x (JU (a:=(at_:Int)) (b:=(E.length:Int)) U U oa oa) <|
  O8 (g:=Qt) (i:=at_ % E.length) Z0 h6.arr U (show Go.Lg.ev _ _=_ from OV sS g0) hn λkz gc=>?_
 have hr:=Ll hn;have gg:(ZR c.V).2.getD (at_ % (ZR c.V).2.length) Qhg=(E[at_ % E.length]'hn).it:=by
  have V:at_ % (ZR c.V).2.length<(ZR c.V).2.length:=by rw[<-hZ];exact hn
  rw[show(ZR c.V).2.getD (at_ % (ZR c.V).2.length) Qhg=(ZR c.V).2[at_ % (ZR c.V).2.length]'V from by simp[oR,V]];have h2:=hj.2;have h3:∀(l:List Yi) (hl:at_ % l.length<l.length),E.map DV.it=l->l[at_ % l.length]'hl=(E[at_ % E.length]'hn).it:=by
   intro l hl e;subst e;rw[Mq];congr 2;rw[Lh]
  exact h3 _ V h2
 refine Zh (E[at_ % E.length]'hn) λq hq=>?_;rw[hq]at gc hr gg;have hD:=h6.each q hr;have hy:=gr q.it (by rw[<-hj.2];exact LM hr);have hE:=hD.ones;refine x (Qr gc U U)<|QM [sS 0,.string .empty,Zm,sS 0,Zm,Zm,Zm,Zm,sS 0] λb7 w7 g2 gh g3=>QI (Qt q) g3 hE λw8 g4 ha=>xe ?_;have hc:sX w5 w8:=g2.O g4 gh;have S:=hY.D hc;have k0:=hD.I hc;refine Zh ((c.co[0]'hw).nm) λfn hF=>?_;have T:dMk c.V wh at_ bY=Uw fn q.it wh bY:=by
  unfold dMk;rw[OU ⟨hi,λe=>by have h5:=ga.1;rw[hZ,e]at h5;exact OW h5 ol⟩,gg];congr 1;rw[<-hF];have hh:∀(l:List IV) (hl:0<l.length),((l.map IV.it).map XC.nm).headD .empty=(l[0]'hl).nm:=λl hl=>by
   cases l with
   | nil=>exact OW hl ol
   | cons a t=>rfl
  exact hh c.co hw
 have gi:JD fn:=by rw[<-hF];exact h.co.nm _ (Ll hw)
 refine Qc<|Qo U (hW.I (hf.D hc)) U U<|O8 (g:=QK) (i:=0) Ys (h.I S).co.arr U U hw λk4 g6=>x (Zf U)<|x (Qy (g6.fld 0 (.string fn) (OV (λb=>some (Value.string b)) hF)) U) <|
  Qb ?_
 have h7:=hX.I (hf.D hc);have Y:=(hB.I hf).I hc;have k5:=hf.size;have k6:=hc.size;have gx:=(h9.D h4).size;have he:↑w<=J:=oa
 have g7:=hB.lt;have k7:=Y.lt;have g8:b7≠J:=oa
 have G:∀k:Nat,((wh:Int) % 8=(k:Int))↔wh % 8=k:=λk=>oa
 have hG:∀b∈J::N,b<w3.heap.size:=λb O=>by
  rcases Li.1 O with rfl|O
  ·exact g7
  have:=hN b O;have:=hC.size;omega
 have h8:∀b∈[J],b∈J::N:=od
 have gj:∀b∈J::N,b<w8.heap.size:=λb O=>ov (hG b O)
 have hH:Jg (J::N) w8.heap q:=by
  have V:Ka (J::N) w5.heap v5 E:=Ju.dits hj.1 oa hG;exact(V.each q hr).I hc
 refine QX (α:=Unit) [(9,10),(38,104)] (λ_=>[]) (λ_ w'=>w'=w8/\Uw fn q.it wh bY=(false,q.it)) om ?_ ?_
 ·refine Qc<|Qo U h7 U U<|x (JU (a:=(wh:Int)) (b:=8) U U oa ol)<|xe<|Qm<|Qc<|x (QT U U)<|Qb<|QO U (λhJ=>?_) (λhJ=>?_)
  ·have e0:wh % 8=0:=(G 0).1 hJ;refine Qc<|Qo U ha U U<|Qo U ha U U<|x (Q5 [(0,[sS q.kd]),(1,[.string q.nm])] ⟨U,U,U,U,Z⟩)<|x (Q5 [(0,[.bool true]),(1,Qt ⟨q.kd,q.nm,qk,Zm,[],Zm,[],0⟩)] ⟨U,U,U,U,Z⟩) <|
    QI (ZQ ⟨true,⟨q.kd,q.nm,qk,Zm,[],Zm,[],0⟩⟩) Y ⟨U,U,U,U,U,U,U,U,U,U,Z⟩ λw9 H hK=>xe ?_
   refine Qh ⟨[_],⟨Yk hK,Z⟩,S.O H he,⟨true,⟨q.kd,q.nm,qk,Zm,[],Zm,[],0⟩⟩,U,?_,⟨hD.nm,⟨Zo.nil _ _ _,Zo.nil _ _ _,Zo.nil _ _ _⟩,V2.nil,V2.nil⟩⟩;rw[T];unfold Uw;rw[OU e0];rfl
  have n0:¬wh % 8=0:=λe=>hJ ((G 0).2 e);refine Qc<|x (QT U U)<|Qb<|QO U (λhL=>?_) (λhL=>?_)
  ·have e1:wh % 8=1:=(G 1).1 hL;refine Qc<|QS ha U U<|Qo U h7 U U<|x (Z6 (k':=.i64) U ⟨oa,oa⟩)<|Qz<|(Qez hH gs hy.1 hy.2.1 gj).mono ?_;rintro k8 hs ⟨I,q',rfl,ka,gk⟩;refine x (Q5 [(1,Qt q')] ⟨U,U,Z⟩)<|QI (ZQ ⟨false,q'⟩) (Y.I I) ⟨U,gk.ones⟩ λk9 gl kb=>xe ?_;refine Qh ⟨[_],⟨Yk kb,Z⟩,(S.D I).O gl he,⟨false,q'⟩,U,?_,?_⟩
   ·rw[T];unfold Uw;rw[OT n0,OU e1];exact OV (Prod.mk false) ka
   exact(gk.st (gl.mono h8)).up (λb O=>.inl (Lj _ O))
  have n1:¬wh % 8=1:=λe=>hL ((G 1).2 e);refine Qc<|x (QT U U)<|Qb<|QO U (λhM=>?_) (λhM=>?_)
  ·have e2:wh % 8=2:=(G 2).1 hM;refine Qc<|Qo U ha U U<|x (QT U U)<|xe<|QO U (λhO=>?_) (λhO=>?_)
   ·have hk1:q.kd=1:=hO;have gm:=hy.2.2 hk1;refine Qc<|QQ U<|x (Zd (us:=[q.p.va,sS q.p.a.st,q.p.vm,q.p.ve]) ha U U U)<|Qz<|(QaH hH.a).mono ?_;rintro ma kc ⟨gn,ua,ub,uc,ud,rfl,ht,go⟩;have ke:=(go gm).2 (J::N) gj;refine Qa<|QW U U<|QW U U<|QM K3 λb9 mf kf kg kh=>QI [ua,ub,uc,ud] kh ht λki kj gp=>Qb ?_;have hP:sX kc ki:=kf.O kj kg;rw[((go gm).1)]at ht gp;refine Qc<|QS gp U U<|x (Q5 [(0,[sS 2]),(1,[.string JO]),(2,[ua,sS (qe (Yj q.p.a)).st,uc,ud])] ⟨U,U,U,U,U,U,Z⟩)<|x (Q5 [(1,Qt ⟨2,JO,⟨ua,uc,ud,qe (Yj q.p.a)⟩,Zm,[],Zm,[],0⟩)] ⟨U,U,Z⟩) <|
     QI (ZQ ⟨false,⟨2,JO,⟨ua,uc,ud,qe (Yj q.p.a)⟩,Zm,[],Zm,[],0⟩⟩) ((Y.I gn).I hP) ⟨U,U,U,ht.1,U,ht.2.2.1,ht.2.2.2.1,U,U,U,Z⟩ λmg gq kk=>xe ?_
    refine Qh ⟨[_],⟨Yk kk,Z⟩,((S.D gn).D hP).O gq he,⟨false,⟨2,JO,⟨ua,uc,ud,qe (Yj q.p.a)⟩,Zm,[],Zm,[],0⟩⟩,U,?_,⟨by show JD JO;decide,((ke.I hP).st (gq.mono h8)).up (λb O=>.inl (Lj _ O)),V2.nil,V2.nil⟩⟩;rw[T];unfold Uw;rw[OT n0,OT n1,OU ⟨e2,hk1⟩];rfl
   have hk1:¬q.kd=1:=hO;refine Qf<|⟨(),Z,U,?_⟩;unfold Uw;rw[OT n0,OT n1,OT (λe=>hk1 e.2),OT oa,OT oa,OT oa,OT (λe=>oa)]
  have n2:¬wh % 8=2:=λe=>hM ((G 2).2 e);refine Qc<|x (QT U U)<|Qb<|QO U (λhQ=>?_) (λhQ=>?_)
  ·have e3:wh % 8=3:=(G 3).1 hQ;refine Qj<|Qo U h7 U U<|x (JU (a:=(bY:Int)) (b:=3) U U oa ol)<|x (Z6 (k':=.i64) U ⟨oa,oa⟩)<|x (Qv ⟨U,U,Z⟩) <|
    Qn<|Za [ZN (fn,((bY % 3:Nat):Int))] λhu w9 H mh hR=>x (Q5 [(0,[sS 3]),(1,[.string Qai]),(3,[sL hu 1 1])] ⟨U,U,U,U,U,U,Z⟩) <|
    x (Q5 [(1,Qt ⟨3,Qai,qk,sL hu 1 1,[(fn,((bY % 3:Nat):Int))],Zm,[],0⟩)] ⟨U,U,Z⟩)<|QI (ZQ ⟨false,⟨3,Qai,qk,sL hu 1 1,[(fn,((bY % 3:Nat):Int))],Zm,[],0⟩⟩) (Y.I H) ⟨U,U,U,U,U,U,U,U,U,U,Z⟩ λhs I hg=>xe ?_
   have kn:hu≠J:=oa
   refine Qh ⟨[_],⟨Yk hg,Z⟩,(S.D H).O I he,⟨false,⟨3,Qai,qk,sL hu 1 1,[(fn,((bY % 3:Nat):Int))],Zm,[],0⟩⟩,U,?_,⟨by show JD Qai;decide,⟨Zo.nil _ _ _,Zo.nil _ _ _,Zo.nil _ _ _⟩,⟨?_,λp hp=>by rw[Lb.1 hp];exact gi⟩,V2.nil⟩⟩
   ·rw[T];unfold Uw;rw[OT n0,OT n1,OT (λe=>n2 e.1),OU e3];rfl
   exact(hR.J I (oA kn)).arr (λhm=>oy (hN _ hm) S.size) (n:=1) (cap:=1) (sz:=2) U ol (Lv _)
  have n3:¬wh % 8=3:=λe=>hQ ((G 3).2 e);refine Qc<|x (QT U U)<|Qb<|QO U (λhS=>?_) (λhS=>?_)
  ·have e4:wh % 8=4:=(G 4).1 hS;refine Qj<|x (Qv ⟨U,U,Z⟩)<|Qn<|Za [ZN (fn,1)] λhv w9 H mj ko =>
    Qo rfl (h7.I H) U U<|x (JU (a:=(bY:Int)) (b:=3) U U oa ol)<|x (Z6 (k':=.i64) U ⟨oa,oa⟩)<|x (Q5 [(0,[sS 4]),(1,[.string Qaj]),(4,[sL hv 1 1]),(5,[sS ((bY % 3:Nat):Int)])] ⟨U,U,U,U,U,U,U,U,Z⟩) <|
    x (Q5 [(1,Qt ⟨4,Qaj,qk,Zm,[],sL hv 1 1,[(fn,1)],((bY % 3:Nat):Int)⟩)] ⟨U,U,Z⟩)<|QI (ZQ ⟨false,⟨4,Qaj,qk,Zm,[],sL hv 1 1,[(fn,1)],((bY % 3:Nat):Int)⟩⟩) (Y.I H) ⟨U,U,U,U,U,U,U,U,U,U,Z⟩ λhs I hg=>xe ?_
   have kq:hv≠J:=oa
   refine Qh ⟨[_],⟨Yk hg,Z⟩,(S.D H).O I he,⟨false,⟨4,Qaj,qk,Zm,[],sL hv 1 1,[(fn,1)],((bY % 3:Nat):Int)⟩⟩,U,?_,⟨by show JD Qaj;decide,⟨Zo.nil _ _ _,Zo.nil _ _ _,Zo.nil _ _ _⟩,V2.nil,⟨?_,λp hp=>by rw[Lb.1 hp];exact gi⟩⟩⟩
   ·rw[T];unfold Uw;rw[OT n0,OT n1,OT (λe=>n2 e.1),OT n3,OU e4];rfl
   exact(ko.J I (oA kq)).arr (λhm=>oy (hN _ hm) S.size) (n:=1) (cap:=1) (sz:=2) U ol (Lv _)
  have n4:¬wh % 8=4:=λe=>hS ((G 4).2 e);refine Qc<|x (QT U U)<|Qb<|QO U (λhT=>?_) (λhT=>?_)
  ·have e5:wh % 8=5:=(G 5).1 hT;refine Qc<|x (Q5 [(0,[sS 1]),(1,[.string JN])] ⟨U,U,U,U,Z⟩)<|x (Q5 [(0,[.bool true]),(1,Qt ⟨1,JN,qk,Zm,[],Zm,[],0⟩)] ⟨U,U,U,U,Z⟩) <|
    QI (ZQ ⟨true,⟨1,JN,qk,Zm,[],Zm,[],0⟩⟩) Y ⟨U,U,U,U,U,U,U,U,U,U,Z⟩ λw9 H hK=>xe ?_
   refine Qh ⟨[_],⟨Yk hK,Z⟩,S.O H he,⟨true,⟨1,JN,qk,Zm,[],Zm,[],0⟩⟩,U,?_,⟨by show JD JN;decide,⟨Zo.nil _ _ _,Zo.nil _ _ _,Zo.nil _ _ _⟩,V2.nil,V2.nil⟩⟩;rw[T];unfold Uw;rw[OT n0,OT n1,OT (λe=>n2 e.1),OT n3,OT n4,OU e5];rfl
  have n5:¬wh % 8=5:=λe=>hT ((G 5).2 e);refine Qc<|x (QT U U)<|Qb<|ZI U (λhU=>?_) (λhU=>?_)
  ·have n6:¬wh % 8=6:=λe=>hU ((G 6).2 e);refine Qf<|⟨(),Z,U,?_⟩;unfold Uw;rw[OT n0,OT n1,OT (λe=>n2 e.1),OT n3,OT n4,OT n5,OT (λe=>n6 e.1)]
  have e6:wh % 8=6:=(G 6).1 hU;refine Qc<|Qo U ha U U<|x (QT U U)<|xe<|QO U (λhV=>?_) (λhV=>?_)
  ·have hk1:q.kd=1:=hV;refine Qc<|QQ U<|Qn<|Qu (u:=.string qK) ha U U (LZ U) U λw9 H hR=>xe ?_;refine Qc<|QS hR U U<|x (Q5 [(1,Qt { q with nm:=qK })] ⟨U,U,Z⟩)<|QI (ZQ ⟨false,{ q with nm:=qK }⟩) (Y.J H (oA g8.symm)) ⟨rfl,rfl,rfl,hE.2.2⟩ λhs I hg=>xe ?_
   have kr:O5 (J::N) w5 hs:=((hc.O H gh).mono od).Q (I.mono h8);refine Qh ⟨[_],⟨Yk hg,Z⟩,(S.O H oa).O I he,⟨false,{ q with nm:=qK }⟩,U,?_,?_⟩
   ·rw[T];unfold Uw;rw[OT n0,OT n1,OT (λe=>n2 e.1),OT n3,OT n4,OT n5,OU ⟨e6,hk1⟩];rfl
   have V:Ka (J::N) w5.heap v5 E:=Ju.dits hj.1 oa hG;have h2:=((V.each q hr).st kr).up (L':=N) (λb O=>.inl (Lj _ O));exact⟨by show JD qK;decide,h2.a,h2.ls,h2.ts⟩
  have hk1:¬q.kd=1:=hV;refine Qf<|⟨(),Z,U,?_⟩;unfold Uw;rw[OT n0,OT n1,OT (λe=>n2 e.1),OT n3,OT n4,OT n5,OT (λe=>hk1 e.2)]
 rintro _ g9 w9 ⟨rfl,hI⟩;refine Qc<|QS ha U U<|x (Q5 [(1,Qt q)] ⟨U,U,Z⟩)<|QI (ZQ ⟨false,q⟩) Y ⟨U,hE⟩ λhs I hg=>xe ?_;refine Qh ⟨[_],⟨Yk hg,Z⟩,S.O I he,⟨false,q⟩,U,?_,(hH.st (I.mono h8)).up (λb O=>.inl (Lj _ O))⟩;rw[T,hI];rfl
theorem Qkc (h:(ZR c).1≠0):(ZR c).2=[]:=by
 unfold ZR at *;split
 ·rfl
 rename_i l E;rw[E]at h;simp only[]at h;split
 ·rfl
 rename_i G;rw[OT G]at h;exact OW U h
theorem Qm2 {l:xx}{r:List (ByteArray×Int)}(h:Uj co l=some r)(E:l≠[]):0<r.length:=by
 rw[yb h];exact List.length_pos_iff.2 E
theorem Qke {co:List XC}:∀{l:List qu}{a:List Yi},J5 co l=some a->(∀q∈l,q.ls≠[])->∀x∈a,x.kd=3/\0<x.ls.length
 | [],a,h,_=>by
  rw[J5]at h;cases h
  exact λx hx=>by cases hx
 | x::l,a,h,H=>by
  rw[J5]at h;cases hx:Uj co x.ls with
  | none=>rw[hx]at h;cases h
  | some n =>
   rw[hx]at h;cases E:J5 co l with
   | none=>rw[E]at h;cases h
   | some r =>
    rw[E]at h;cases h
    intro y G;rcases Li.1 G with rfl|G
    ·exact⟨U,Qm2 hx (H x Lq)⟩
    exact Qke E (λq I=>H q (Lj _ I)) y G
theorem Qkf {co:List XC}:∀{l:List xL}{a:List Yi},Kr co l=some a->∀x∈a,x.kd=4
 | [],a,h=>by
  rw[Kr]at h;cases h
  exact λx hx=>by cases hx
 | x::l,a,h=>by
  rw[Kr]at h;cases hx:Uj co x.ts with
  | none=>rw[hx]at h;cases h
  | some n =>
   rw[hx]at h;cases E:Kr co l with
   | none=>rw[E]at h;cases h
   | some r =>
    rw[E]at h;cases h
    intro y G;rcases Li.1 G with rfl|G
    ·rfl
    exact Qkf E y G
theorem Qkb (S:Zj c=0):∀y∈(ZR c).2,(y.kd=3->0<y.ls.length)/\y.ls.length<=1000000/\(y.kd=1->Jz y.a=0):=by
 intro y E;by_cases h:(ZR c).1=0
 rotate_left
 ·rw[Qkc h]at E;cases E
 refine⟨?_,LH (yc (VK S) h y E).1 ol,?_⟩
 all_goals
  have T:=Z4 S;have he:∀x∈c.ex,x.ls≠[]:=by
   have G:=T.cd;unfold YE at G;by_cases V:8<(szs c.co).length
   ·rw[OU V]at G;cases G
   rw[OT V]at G;by_cases Y:(szs c.co).any KP=true
   ·rw[OU Y]at G;cases G
   rw[OT Y]at G;by_cases h4:32<c.ex.length\/32<c.cs.length
   ·rw[OU h4]at G;cases G
   rw[OT h4]at G;by_cases J:Yy (szs c.co) [] c.ex≠0
   ·rw[OU J]at G;exact OW G J
   intro x hx e;have O:=Km _ _ _ (Lo.1 J) x hx;unfold Jp at O;rw[e]at O;cases O
  obtain⟨a,b,ha,hb,e,_⟩:=jf h;rw[e]at E;intro H;rcases Lc.1 E with E|E
  ·obtain⟨z,hz,rfl⟩:=LC.1 E
   first
   | exact OW (show(1:Int)=3 from H) ol
   | exact(Z5 _).2 (T.co z hz)
  rcases Lc.1 E with E|E
  ·obtain⟨z,_,rfl⟩:=LC.1 E
   first
   | exact OW (show(2:Int)=3 from H) ol
   | exact OW (show(2:Int)=1 from H) ol
  rcases Lc.1 E with E|E
  ·have I:=Qke ha he y E
   first
   | exact I.2
   | exact OW (I.1.symm.D H) ol
  have I:=Qkf hb y E;exact OW (I.symm.D H) ol
theorem Qm1 {n:ByteArray}{y:Yi}(h:q7 y)(wh b:Nat):q7 (Uw n y wh b).2:=by
 unfold Uw
 repeat' split
 all_goals first
  | exact h
  | exact⟨h.1,h.2⟩
  | exact⟨Ln _,Ln _⟩
  | exact⟨(by decide:1<=100000),Ln _⟩
  | exact⟨Ln _,(by decide:1<=100000)⟩
  | (unfold jg;repeat' split) <;> first
   | exact⟨by show(List.set _ _ _).length<=_;rw[L9];exact h.1,h.2⟩
   | exact⟨h.1,h.2⟩
theorem Qj9 (G:Zj c=0)(wh a b:Nat):q7 (dMk c wh a b).2:=by
 unfold dMk;split
 ·rename_i h;refine Qm1 ?_ _ _;have E:a % (ZR c).2.length<(ZR c).2.length:=NO _ (List.length_pos_iff.2 h.2);rw[show(ZR c).2.getD (a % (ZR c).2.length) Qhg=(ZR c).2[a % (ZR c).2.length]'E from by simp[oR,E]];exact yc (VK G) h.1 _ (Ll E)
 exact⟨Ln _,Ln _⟩
instance ayHo:Ay sV 77 2 68 3:=⟨oe,oe⟩
theorem nomem {p:α->Prop}:∀q∈([]:List α),p q:=λ_ h=>by cases h
structure SmA (k:Nat)(L:LN)(w:O1)(s:JR)(m:VN):Prop where
 sy:Vd L w s
 md:ju L w m
 dj:∀b∈s.own,b∉m.own
 lt:∀b∈L,b<↑w
 ok:Yu k s.sys
 is:m.is s.sys
theorem SmA.I {k:Nat}{L:LN}{w w':O1}{s:JR}{m:VN}(h:SmA k L w s m)(E:sX w w'):SmA k L w' s m :=
 ⟨h.sy.I E,h.md.I E,h.dj,λb G=>LO (h.lt b G) E.size,h.ok,h.is⟩
theorem SmA.both {k k':Nat}{O T V:O1}{G:JR}{m H:VN}(h:SmA k L w s m)(hs:O5 s.own w O)(I:Vd (G.own++L) O G)(o1:∀b∈G.own,b∈s.own\/↑w<=b)(Y:sX O T)
  (J:O5 m.own T V) (h2:ju (H.own++(G.own++L)) V H) (o2:∀b∈H.own,b∈m.own\/↑T<=b) (hk:Yu k' G.sys) (hi:H.is G.sys):SmA k' (H.own++(G.own++L)) V G H:=by
 have z1:=hs.size;have z2:=Y.size;have z3:=J.size;have hd:∀b∈G.own,b∉m.own:=λb E J=>(o1 b E).elim (λI=>h.dj b I J) (λI=>ov (h.md.lt b J));have hX:∀b∈m.own,b∈H.own++(G.own++L):=λb E=>Lc.2 (.inr (Lc.2 (.inr (h.md.sub b E))));have ha:∀b∈G.own++L,b<O.heap.size:=λb E=>(Lc.1 E).elim (I.lt b) (λE=>ov (h.lt b E));refine⟨((I.I Y).up (L':=H.own++(G.own++L)) (λb E=>(Lc.1 E).elim (λE=>(o2 b E).imp (λS=>Lc.2 (.inr (h.md.sub b S))) id) .inl) (λb E=>Lc.2 (.inr (Lc.2 (.inl E))))).J J (λb E=>.inl (hX b E)) hd,h2,λb E hc=>?_,λb E=>?_,hk,hi⟩
 ·rcases o2 b hc with S|S
  ·exact hd b E S
  have:=I.lt b E;omega
 rcases Lc.1 E with E|E
 ·exact h2.lt b E
 have:=ha b E;omega
theorem SmA.md1 {k:Nat}{H:O1}{G:JR}{m:VN}(h:SmA k L w s m)(I:O5 s.own w H)(o1:∀b∈G.own,b∈s.own\/↑w<=b):ju (G.own++L) H m :=
 (h.md.up (L':=G.own++L) (λb E=>(Lc.1 E).elim (λE=>(o1 b E).imp (h.sy.sub b) id) .inl) (λb E=>Lc.2 (.inr (h.md.sub b E)))).J I (λb E=>.inl (Lc.2 (.inr (h.sy.sub b E)))) (λb E J=>h.dj b J E)
theorem QqG {e e2:ZU}(h:QY H b T (ZQ e++ZQ e2))(G:b∉L)(I:Jg L H e.q)(J:Jg L H e2.q):zc L H (sL b 2 2) [e,e2]:=
 ⟨h.arr G (n:=2) (cap:=2) (sz:=10) U ol (Lv _),λq E=>by
  rcases Li.1 E with rfl|E
  ·exact I
  rw[Lb.1 E];exact J⟩
theorem SmA.new {L:LN}{w w':O1}{c:ZF}{s:JR}{m:VN}(h:Vd (s.own++L) w s)(H:ju (m.own++s.own) w' m)(I:∀b∈m.own,↑w<=b)(J:sX w w')(O:Vy c=0)(esy:s.sys=Qbs c)(S:m.is (Qbs c)):SmA 1 (m.own++s.own) w' s m :=
 ⟨(h.up (λb E=>(Lc.1 E).elim (λG=>.inr (I b G)) (λG=>.inl (Lc.2 (.inl G)))) (λb E=>Lc.2 (.inr E))).I J,H,λb E T=>oy (I b T) (h.lt b E),
  λb E=>(Lc.1 E).elim (H.lt b) (λG=>LO (h.lt b G) J.size),by rw[esy];exact Yu.new O,by rw[esy];exact S⟩
def edT (s:jr)(xs:List (Bool×Yi)):jr:=if UL s xs=0 then edS s xs else s
def edR (s:jr)(xs:List (Bool×Yi)):Rp:=if UL s xs=0 then YM (KU s.c xs).2 s.ps ((s.un.length:Int)+1)else⟨[],[],[]⟩
theorem Qgy {k:Nat}{xs:List ZU}(h:Vd L w s)(I:Yu k s.sys)(S:k<=1000)(T:∀b∈L,b<↑w)(hx:zc L2 w.heap vl xs)(V:∀e∈xs.map ZU.e,q7 e.2)(Y:Kb w 4096):
  QZ sV 13 [pS s.b,vl] w λr w'=>∃(qr:V3) (H:JR),r=.tuple #[sT (Q0 qr),sS (UL s.sys (xs.map ZU.e))]/\(∀N:LN,(∀b∈N,b<↑w)->Jr N w'.heap qr)/\qr.rp=edR s.sys (xs.map ZU.e) /\
   H.b=s.b/\H.sys=edT s.sys (xs.map ZU.e)/\Yu (k+1) H.sys/\O5 s.own w w'/\Vd (H.own++L) w' H/\∀b∈H.own,b∈s.own\/↑w<=b :=
 (yp h I S T hx V Y).mono λ_ w' ⟨qr,e1,e2,J,e4⟩=>by
  unfold edR edT;by_cases E:UL s.sys (xs.map ZU.e)=0
  ·obtain⟨f1,s',f2,f3,f4,f5,f6,f7⟩:=e4 E;rw[OU E,OU E];exact⟨qr,s',e1,e2,f1,f2,f3,f4,f5,f6,f7⟩
  have O:=(J E).1;rw[OT E,OT E];exact⟨qr,s,e1,e2,(J E).2,U,U,I.mono (NU _),O.any,(h.I O).up (λb G=>(Lc.1 G).elim (λG=>.inl (h.sub b G)) .inl) (λb G=>Lc.2 (.inl G)),λb G=>.inl G⟩
theorem QgU {k:Nat}{m:VN}{s:jr}{xs:List ZU}(h:ju L w m)(H:m.is s)(O:Yu k s)(S:k<=1000)(T:∀b∈L,b<↑w)(hx:zc L2 w.heap vl xs)(V:∀e∈xs.map ZU.e,q7 e.2)(Y:Kb w 4096):
  QZ sV 23 [pS m.b,vl] w λr w'=>∃(qr:V3) (m1:VN),r=.tuple #[sT (Q0 qr),sS (UL s (xs.map ZU.e))]/\(∀N:LN,(∀b∈N,b<↑w)->Jr N w'.heap qr)/\qr.rp=edR s (xs.map ZU.e) /\
   m1.b=m.b/\m1.is (edT s (xs.map ZU.e))/\O5 m.own w w'/\ju (m1.own++L) w' m1/\∀b∈m1.own,b∈m.own\/↑w<=b :=
 (Qi7 h H O S T hx V Y).mono λ_ w' ⟨qr,e1,e2,I,e4⟩=>by
  unfold edR edT;by_cases E:UL s (xs.map ZU.e)=0
  ·obtain⟨f1,m',f2,f3,f4,f5,f6⟩:=e4 E;rw[OU E,OU E];exact⟨qr,m',e1,e2,f1,f2,f3,f4,f5,f6⟩
  have J:=(I E).1;rw[OT E,OT E];exact⟨qr,m,e1,e2,(I E).2,U,H,J.any,(h.I J).up (λb G=>(Lc.1 G).elim (λG=>.inl (h.sub b G)) .inl) (λb G=>Lc.2 (.inl G)),λb G=>.inl G⟩
theorem yP {l:PwV}{a0 a1 a2 c0 c1 c2:Nat}(gk:a0<256)(gl:a1<256)(gm:a2<256)(gn:c0<256)(go:c1<256)(gp:c2<256)(H:PwA w l)(I:Kb w 4096):
  QZ sV 6 [sT (Ji l),.agg #[.int .u8 (a0:Int),.int .u8 (a1:Int),.int .u8 (a2:Int),.int .u8 (c0:Int),.int .u8 (c1:Int),.int .u8 (c2:Int)]] w λr w'=>r=.bool true/\sX w w':=by
 refine Zq func6 ?_;refine Qc<|Zl (Ji l) λb1 w0 gq m2 gr=>Zl [.int .u8 (a0:Int),.int .u8 (a1:Int),.int .u8 (a2:Int),.int .u8 (c0:Int),.int .u8 (c1:Int),.int .u8 (c2:Int)] λbm w1 hG m3 gs=>Qb ?_;have h3:=gq.D hG;have hH:=gr.I hG;have hI:(Ji l).length=152:=Qor (l:=l.pl []) H.n;refine Qe<|QX (α:=Unit) [(17,23)] (λz=>[(23,.bool (!decide (l.n<=4)))]) (λz w'=>sX w1 w') om ?_ ?_
 ·refine Qs<|Qz<|(jv (I.I h3)).mono ?_;rintro r2 w2 ⟨rfl,J⟩;refine x (ZC U)<|Qa<|QS (hH.I J) U hI<|Qz<|(QkX (l:=l) ⟨H.n,H.b,H.f0,H.f1,H.f2,H.bd,λhn=>by
   obtain⟨rs,O,h2⟩:=H.r hn;exact⟨rs,O,(h2.I h3).I J⟩⟩).mono ?_
  rintro r3 w3 ⟨rfl,ha⟩;refine x (ZC U)<|QE U<|xe ?_;exact⟨(),La,J.D ha⟩
 rintro⟨⟩ g w2 J;have ho:=h3.D J;refine QU rfl (λhJ=>?_) (λhJ=>?_)
 ·refine Qc<|Qz<|(jv (I.I ho)).mono ?_;rintro r3 w3 ⟨rfl,ha⟩;refine Qb<|Qh ⟨[.bool true],La,U,ho.D ha⟩
 have gt:l.n<=4:=by simpa using hJ
 refine Qf<|Exists.elim (H.pl ho gt) λrs gu=>?_;refine Qc<|QS (hH.I J) U hI<|Qz<|(QgT gu.1).mono ?_;rintro r3 w3 ⟨ha,_,⟨c,rfl,rfl,hC⟩,hD⟩;have hK:=hC [] od;have hi:=hD.ck;refine QM Z8 λb3 w4 gv gw gx=>QI c.cells gx hK.ones λw5 gy hp=>xe ?_;have h4:sX w3 w5:=gv.O gy gw;have h5:=(ho.D ha).D h4;have hq:=hK.I h4;have hz:=VK hi;refine Qc<|QS hp U U<|Qz<|(Qk3 hq hz (I.I h5)).mono ?_;rintro r6 w6 ⟨hf,vp,rfl,gz,g0⟩;refine Qa<|QW U U<|QW U U<|x Qi<|Qb ?_;have hj:=h5.D hf;by_cases S:Vy c.V=0
 rotate_left
 ·refine Qc<|QS (hp.I hf) U U<|Qz<|(ym (hq.I hf) od hz (I.I hj)).mono ?_;rintro r7 w7 ⟨hk,vm,rfl,_,_⟩;refine Qa<|QW U U<|QW U U<|x Qi<|Qb ?_;have g2:=gz S;subst g2;refine Qe<|Qj<|Zx U U<|xe<|QO U (λT=>?_) (λT=>OW S T);refine QX (α:=Unit) [(4,4),(39,45)] (λ_=>[(4,.bool true)]) (λ_ w'=>w'=w7) om ?_ ?_
  ·refine Qs<|Qa<|x (XN underlying46 U U)<|Qa<|Qa<|Qa<|x (QiF U U U)<|QE U<|Qb<|⟨(),La,U⟩
  rintro _ g8 w8 rfl;exact Qh ⟨[.bool true],La,U,hj.D hk⟩
 refine Exists.elim (g0 S) λs hs=>?_;have evp:=hs.1;have hL:=hs.2.2.1;have hSy:=hs.2.2.2;refine Qc<|QS (hp.I hf) U U<|Qz<|(ym ((hq.up (L':=s.own) (λb E=>.inr (hL b E))).I hf) hSy.lt hz (I.I hj)).mono ?_;rintro r7 w7 ⟨hk,vm,rfl,m4,g3⟩;refine Qa<|QW U U<|QW U U<|x Qi<|Qb<|Exists.elim (g3 S) λm V=>?_;have evm:=V.1;have hM:SmA 1 (m.own++s.own) w7 s m:=SmA.new hSy V.2.2.2 V.2.2.1 hk S hs.2.1 V.2.1;refine Qe<|Qj<|Zx U U<|xe<|QO rfl (λT=>OW S T) (λ_=>?_);refine Qf<|Qe<|QX (α:=Unit) [(46,51)] (λ_=>[(51,.bool false)]) (λ_ w'=>w'=w7) om ?_ ?_
 ·refine Qs<|Qa<|xb (XM U U) (λT=>OW S T) (λT=>?_);refine Qa<|Qa<|x (XN underlying46 (show Go.Lg.ev _ _=.pointer (some ⟨s.b,0,none⟩) from evp) U)<|QE U<|xe ?_;exact⟨(),La,U⟩
 rintro _ g7 w8 rfl;refine ZO rfl<|Qf ?_;have hN:0<c.co.length:=by
  have O:=hD.c0;have h2:c.V.co.length=c.co.length:=Lh _;omega
 have h6:=hf.D hk;have hO:=hq.I h6;have hP:=hp.I h6;have hQ:=(((gs.I J).I ha).I h4).I h6;have h7:=hM.lt;have hR:sX w8 { w8 with drawn:=w8.drawn+1 }:=O5.C _ _
 refine Qe<|ZA [] [oE 0,oE 1,oE 2,oE 4,oE 5,oE 6,oF 3,oF 7,oF 8,oE 9]<|pq (λ_ Y=>Zr (hP.I Y) U U)<|p (λ_=>Z2 (i:=0) U U ol)<|pq (λ_ Y=>Zd (us:=[.int .u8 (a0:Int),.int .u8 (a1:Int),.int .u8 (a2:Int)]) (hQ.I Y) U U U)<|pq (λ_ Y=>Zr (hP.I Y) U U) <|
  p (λ_=>Z2 (i:=1) U U ol)<|pq (λ_ Y=>Zd (us:=[.int .u8 (c0:Int),.int .u8 (c1:Int),.int .u8 (c2:Int)]) (hQ.I Y) U U U)<|pk<|xg<|(Qaq (w:={ w8 with drawn:=w8.drawn+1 }) (N:=m.own++s.own) (λb E=>h7 b E) (hO.I hR) hz hN (Qkb hi) gk gl gm).mono ?_
 rintro _ w9 ⟨g4,e1,rfl,g5,g6⟩;have hr:=hR.D g4;refine⟨hr,?_⟩;refine pk<|xg<|(Qaq (N:=m.own++s.own) (λb E=>LO (h7 b E) hr.size) (hO.I hr) hz hN (Qkb hi) gn go gp).mono ?_;rintro _ m5 ⟨hS,e2,rfl,ka,kb⟩;have ht:=hr.D hS;refine⟨ht,?_⟩;refine pk<|Za [ZQ e1,ZQ e2] λkc m6 hu m7 ke=>⟨ht.D hu,?_⟩;refine p ZG<|pe ?_;have hT:=ht.D hu;have G:=hM.I hT;have hU:=(hj.D hk).D hT;have kf:kc∉m.own++s.own:=λE=>oy (h7 _ E) ht.size
 have hX:=QqG ke kf ((g6.I hS).I hu) (kb.I hu);have h8:∀e∈[e1,e2].map ZU.e,q7 e.2:=by
  intro e he;rcases Li.1 he with rfl|he
  ·rw[g5];exact Qj9 hi _ _ _
  rw[Lb.1 he,ka];exact Qj9 hi _ _ _
 have kg:∀b∈s.own,↑w<=b:=λb E=>LH h5.size (hL b E);have kh:∀b∈m.own,↑w<=b:=λb E=>LH hj.size (V.2.2.1 b E);have hR1:=Qgy G.sy G.ok ol G.lt hX h8 (I.I hU);refine Zh ([e1,e2].map ZU.e) λxs h9=>?_;rw[h9]at hR1 h8;rw[<-evp]at hR1;refine Qj<|Qa<|Qz<|hR1.mono ?_;rintro _ hV ⟨qr,s1,rfl,hW,ki,e1b,e1s,kj,hg,hY,hZ⟩;refine Qa<|QW U U<|QW U U<|QM ZT λkk m8 kn ko kq=>QI (Q0 qr) kq (hW [] od).ones λga kr kt=>Qb ?_;have hh:sX hV ga:=kn.O kr ko;have ku:sX w hV:=qG hU kg hg;have gb:=ku.D hh;have kv:∀b∈s1.own++(m.own++s.own),b<ga.heap.size:=λb E=>by
  have y1:=hg.size;have y2:=hh.size;rcases Lc.1 E with E|E
  ·have:=hY.lt b E;omega
  have:=G.lt b E;omega
 have hR2:=QgU ((G.md1 hg hZ).I hh) G.is G.ok ol kv (Go.Lg.XK.I (Go.Lg.XK.st hX (hg.mono λb E=>Lc.2 (.inr E))) hh) (by rw[h9];exact h8) (I.I gb);rw[h9]at hR2;rw[<-evm]at hR2;refine Qj<|Qa<|Qz<|hR2.mono ?_;rintro _ hA ⟨qm,m1,rfl,kw,kx,e2b,gc,hv,kz,k0⟩;have gg:=kw [] od;refine Qa<|QW U U<|QW U U<|QM ZT λb13 m9 k4 k5 k6=>QI (Q0 qm) k6 gg.ones λgh k7 k8=>Qb ?_;have hB:sX hA gh:=k4.O k7 k5;have k9:qr.rp=qm.rp:=ki.D kx.symm;rw[<-e1s]at gc;have ma:SmA 2 _ hA s1 m1:=G.both hg hY hZ hh hv kz k0 kj gc;have mf:sX w hA:=gb.then hv λb E=>.inr (kh b E);have hy:=ma.I hB;have gi:=mf.D hB;have hR3:=Qab (xs:=[]) (L2:=[]) hy.sy hy.ok ol hy.lt (⟨Zo.nil _ _ _,nomem⟩:zc [] _ Zm []) nomem (I.I gi);rw[show UL s1.sys (([]:List ZU).map ZU.e)=12 from rfl,e1b,<-evp]at hR3;refine Qj<|Qz<|hR3.mono ?_;rintro _ pa ⟨qn,rfl,mg,mh,_⟩;refine Qa<|QW U U<|QW U U<|QM ZT λpc pd mj mo mq=>QI (Q0 qn) mq (mg [] od).ones λhE ms pf=>Qb ?_;have h0:sX gh hE:=((mh ol).1).D (mj.O ms mo);have hF:=hB.D h0;have mt:kk∉m.own:=λV=>oy (G.md.lt _ V) hg.size
 have mu:∀w',sX hE w'->QZ sV 24 [vm,vp] w' λr mv=>r=.bool true/\sX w' mv:=λw' hw=>by
  have O:=(hy.I h0).I hw;have h2:=Qhz O.md O.sy O.ok O.is;rw[e1b,e2b,<-evp,<-evm]at h2;exact h2
 refine QX (α:=Unit) [(4,4),(78,94)] (λ_=>[(4,.bool true)]) (λ_ w'=>sX hE w') om ?_ ?_
 ·refine Qs<|Qa<|Qa<|xb (QT U U) (λ_=>?_) (λmw=>OW U mw);refine Qa<|QS ((kt.J hv mt).I hF) U U<|QS (k8.I h0) U U<|Qz<|(Ue (((((hW m.own G.md.lt).I hh).st hv).I hF).up (L':=[]) od) (gg.I hF) k9).mono ?_;rintro _ pg ⟨rfl,gj⟩;refine QE U<|Qa<|Qa<|Qa<|Qz<|(mu _ gj).mono ?_;rintro _ ph ⟨rfl,my⟩;refine QE U<|Qa<|Qa<|x (QiF U U U)<|QE U<|Qb<|⟨(),La,gj.D my⟩
 rintro _ g9 pj mz;exact Qh ⟨[.bool true],La,U,(gi.D h0).D mz⟩
open Go.RowKit
theorem XB {a b:Bool}(E:a=true)(G:b=true):(a && b)=true:=by rw[E,G];rfl
theorem QbB {f:FuncId}{s:ChangeSpec}{c:OpenClaim}(E:(c.wf (OpenSpec.ofChange s))=true)(G:(laidOutB P)=true)(H:(mapsRowed P)=true)(I:(fn.params.all (P.readableRec ·))=true)(J:(namedTie P c.named s.vars)=true)(O:((c.stops == []))=true)(S:((P.stops == []))=true)(T:((c.knobs == []))=true)(V:((P.stopKnobs == []))=true)(Y:((c.inPlace == P.inPlace f))=true)(ha:((c.unfollowed == P.unfollowed f))=true)(hb:((c.recurses == P.recurses f))=true)(hc:((c.named == P.varsNamed f))=true)(he:((c.maps == (fn.params.toList++s.plain.varTypes P).any (P.mapsRec ·)))=true)(hf:((c.ifaces == (fn.params.toList++s.plain.varTypes P).any (P.ifacesRec ·)))=true)(hg:((c.mapsOut == P.mapsAmong fn.resultTypes.toList))=true)(hh:((c.loops == (fn.params.toList++s.plain.varTypes P).any (P.loopsFrom ·)))=true)(hi:((c.wideKeys == (fn.params.toList++s.plain.varTypes P++fn.resultTypes.toList).any (P.wideKeysFrom ·)))=true)(hj:(s.vars.all (P.varReadable ·))=true)(hk:(fn.resultTypes.all (λt=>P.readableRec t && decide (t<P.types.size)))=true)(hl:((c.ifacesOut == fn.resultTypes.toList.any (P.ifacesRec ·)))=true)(hm:((c.loopsOut == fn.resultTypes.toList.any (P.loopsFrom ·)))=true)(hn:((c.plainKeys == P.plainKeys))=true)(ho:(c.shortTexts.isNone)=true)(hp:(P.stopsHeard)=true)(hq:(P.mayEnter)=true)(hr:((c.lifted == P.liftsFinal))=true)(hs:((P.make == some c.make))=true)(ht:((c.kinds == (if c.domain.isEmpty then[]else fn.params.toList.map λt=>match P.underlying t with|some (.int k)=>some k|_=>none)))=true)(hu:((c.pinned == c.pinnedBy))=true)(hv:((c.veiled == (fn.params.toList++s.plain.varTypes P++fn.resultTypes.toList).any (P.veiledRec ·)))=true)(hw:(c.veiledFits P fn.params.toList (fn.params.toList++s.plain.varTypes P++fn.resultTypes.toList))=true):joinedFacts P f fn s c=true:=by
 unfold joinedFacts;exact(XB (XB (XB (XB (XB (XB (XB (XB (XB (XB (XB (XB (XB (XB (XB (XB (XB (XB (XB (XB (XB (XB (XB (XB (XB (XB (XB (XB (XB (XB (XB E G) H) I) J) O) S) T) V) Y) ha) hb) hc) he) hf) hg) hh) hi) hj) hk) hl) hm) hn) ho) hp) hq) hr) hs) ht) hu) hv) hw)
theorem yQ:laidOutB sV=true:=oe
theorem Qjo:mapsRowed sV=true:=oe
theorem Qjq:sV.stopsHeard=true:=oe
theorem Qjr:sV.mayEnter=true:=oe
theorem Qjp:(false == sV.liftsFinal)=true:=oe
theorem Qmp:(sV.make == some Make.cut)=true:=oe
theorem Qmt:(Rows.updateTogetherRow.inPlace == sV.inPlace 6)=true:=oe
theorem Qms:(Rows.updateTogetherRow.unfollowed == sV.unfollowed 6)=true:=oe
theorem Qmr:(Rows.updateTogetherRow.recurses == sV.recurses 6)=true:=oe
theorem Qmq:(Rows.updateTogetherRow.named == sV.varsNamed 6)=true:=oe
theorem QoQ:Rows.updateTogetherRow.wfByText (OpenSpec.ofChange Rows.updateTogetherSpec)=true:=oe
theorem QoT:Tryz.pinned.checked.prog.mainIs=some (true, "2f54040c77bc06dd918a3bf4dde98a2bf5c7559f2e0a75d1941ed6a489a72ca6".toList):=oe
theorem QoS:sV.funcNamed "overseer/overseerlaw56.UpdateTogether" = some 6:=oe
theorem QoU:false=sV.looks []:=oe
theorem QoR:([36,77].all λu=>!sV.wantsStandIn u)=true:=oe
theorem QoV:false=Rows.updateTogetherRow.goesBy Tryz.pinned.checked.prog:=oe
open Go.ChangeShapes Go.WideShapes
theorem Qof:∀(ns:LN),ns.length=6->∃a b c d e f,ns=[a,b,c,d,e,f]
 | [a,b,c,d,e,f],_=>⟨a,b,c,d,e,f,U⟩
 | [],h|[_],h|[_,_],h|[_,_,_],h|[_,_,_,_],h|[_,_,_,_,_],h=>by simp at h
 | _::_::_::_::_::_::_::_,h=>by simp at h
theorem Qhx {H:Type}{enc:TypeId×O2->H}{W:O1}{base O:Nat}{sp:Nat->Bool}{S:Bool}{v:O2}{d:DataW H}{ps:List MemPlace}{t e:TypeId}(T:P.underlying t=some (.array 2 e))(V:P.cellsOf t=6)(Y:kT P .u8 5 t=true)
  (G:Value.okWide P W .any base t v) (h:DataW.Trod enc P W O sp S t v d ps):∃I a1 a2 c0 c1 c2:Nat,v=.agg #[.int .u8 (I:Int),.int .u8 (a1:Int),.int .u8 (a2:Int),.int .u8 (c0:Int),.int .u8 (c1:Int),.int .u8 (c2:Int)]/\I<256/\a1<256/\a2<256/\c0<256/\c1<256/\c2<256:=by
 simp only[Value.okWide,T]at G;obtain⟨cs,rfl,J,_⟩:=G;rw[V]at J;obtain⟨l⟩:=cs;have hl:l.length=6:=J;obtain⟨fuel,hf⟩:=h;obtain⟨ns,e1,e2,E⟩:=QbR l (λc hm=>QdN ((VC 5 Y hf) c hm));obtain⟨a,b,c,d,e,f,rfl⟩:=Qof ns (by rw[e2];exact hl);refine⟨a,b,c,d,e,f,?_,E a od,E b od,E c od,E d od,E e od,E f od⟩;rw[e1];rfl
theorem QqY {H:Type}{enc:TypeId×O2->H}{W:O1}{base G:Nat}{sp:Nat->Bool}{I:Bool}{v:O2}{d:DataW H}{ps:List MemPlace}(J:Value.okWide sV W .any base 77 v)(h:DataW.Trod enc sV W G sp I 77 v d ps):
  ∃E a1 a2 c0 c1 c2:Nat,v=.agg #[.int .u8 (E:Int),.int .u8 (a1:Int),.int .u8 (a2:Int),.int .u8 (c0:Int),.int .u8 (c1:Int),.int .u8 (c2:Int)]/\E<256/\a1<256/\a2<256/\c0<256/\c1<256/\c2<256 :=
 Qhx underlying77 oe oe J h
end Go.Lg
