/- Merged out of 18 texts. -/
import Derived.Test.YteekilnpgonojaaGreatDoorNee
import Derived.Test.YteekilnpgonojaaGreatDoorRows
import Derived.JoinedOf
import Derived.Test.YteekilnpgonojaaGreatDoorCards
import Derived.SevenTiedAt
set_option maxHeartbeats 40000000
set_option maxRecDepth 100000
set_option linter.all false
open Go Go.Lg
open Go.Value renaming int->oF
open Go.IntKind renaming i64->oG
open _root_.List renaming length->oP,getD->oQ,range->oT
open _root_.Nat renaming le_of_not_lt->OJ
open Go renaming World->O1,Value->O2,Operand->O3,Program->O4
open Go.Proofs Go.Proofs.Tryz
open Go.Proofs.YteekilnpgonojaaGreatDoor
variable {w w':O1}{L L' ns:LN}{n t i sz b T j E g N id o ty cap b1 kt hi b2 G gp:Nat}{cs us news:LV}{H:xC}{a:Q9}{α β:Type}{y:O3}{z va ve vm vl:O2}{l u al rs:LI}{c:ZB}{f f1:Fr}{P:O4}{fn:Func}{q:DV}{s:Int}{es:List Ed}{d:xF}{af:xD}{gd:xt}{k':IntKind}{qs:List IV}{at_:Array Nat}{co:List Xt}
namespace Go.Lg
theorem QhY {pS:String}{fs:Array Field}(ft o:Nat){x:O3}{v:O2}(E:P.underlying t=some (.struct fs))(G:(fs[j]?).map (λd=>(d.type,d.offset))=some (ft,o))[h1:X6 P ft](hx:ev f x=.agg us.toArray)(H:us[o]?=some v):
  (execOp (ev f) ⟨d,.field t x j,ty,pS,af,gd⟩).run P w=.ok (.value v) w:=by
 obtain⟨fd,I,J⟩:=My.1 G;cases J
 simp[execOp,hx,Instr.field,run_underlying E,I,asAgg,part,jT (t:=fd.type),H]
theorem Qdw:QaX.co.length=3:=od
theorem QaO {c:CL}(h:c.V=QaX){k:Nat}(E:k<c.co.length):(c.co[k]'E).nm=Jo k:=by
 have e:c.co.map (·.it)=QaX.co:=OV ZB.co h;unfold Jo;rw[<-e,Ns,Nf,LF E];rfl
theorem QiF:Jp (Jo 1):=OY (p:=(Jo 1).size<=9223372036854775807) od
theorem Qob:Jp (Jo 2):=OY (p:=(Jo 2).size<=9223372036854775807) od
abbrev Qpz:List (ByteArray×Int):=[(Jo 1,0),(Jo 2,1)]
abbrev Qjq (b:Nat):YT:=⟨false,⟨3,Y2,⟨Zs,Zs,Zs,Vn⟩,.slice (some ⟨b,0,none⟩) 2 2,Qpz,Zs,[],0⟩⟩
abbrev Qjm:YT:=⟨true,⟨1,Jo 1,⟨Zs,Zs,Zs,Vn⟩,Zs,[],Zs,[],0⟩⟩
abbrev Qpr:LV:=[.bool false,oF oG 0,.string .empty,nS,oF oG 0,nS,nS,nS,nS,oF oG 0]
instance:Bw prog 65 Qpr [(0,1),(1,9)]:=⟨od,og⟩
theorem Qm1 :ZH L H Zs Zs Zs Vn:=⟨Zn.nil _ _ _,Zn.nil _ _ _,Zn.nil _ _ _⟩
theorem QoF {T1 T2:Nat}(G:Zb H b1 T1 (Qpz.flatMap ZJ))(I:Zb H b2 T2 (ZO (Qjq b1)))(n1:Jp (Jo 1))(J:Jp (Jo 2)):jl [] H (.slice (some ⟨b2,0,none⟩) 1 1) [Qjq b1]:=by
 refine⟨I.arr oe (n:=1) (cap:=1) (sz:=10) rfl og (Lu _),λq O=>?_⟩;rw[Lb.1 O];refine⟨Xu og,Qm1,⟨G.arr oe (n:=2) (cap:=2) (sz:=2) rfl og (Lu _),λp E=>?_⟩,VI.nil⟩;rcases Li.1 E with rfl|E
 ·exact n1
 rw[Lb.1 E];exact J
theorem QoG {T2:Nat}(E:Zb H b2 T2 (ZO Qjm))(n1:Jp (Jo 1)):jl [] H (.slice (some ⟨b2,0,none⟩) 1 1) [Qjm]:=by
 refine⟨E.arr oe (n:=1) (cap:=1) (sz:=10) rfl og (Lu _),λq G=>?_⟩;rw[Lb.1 G];exact⟨n1,Qm1,VI.nil,VI.nil⟩
theorem jz {x:Yc}(E:x.ls.length<=2)(G:x.ts.length<=2):zD x:=⟨oa,oa⟩
theorem JA {E:O1}{s:Ki}(G:O5 [] w E)(h:∀b∈s.own,w.heap.size<=b)(H:O5 s.own E w'):O5 [] w w':=G.then H λb I=>.inr (h b I)
theorem Qdt (hr:Kb w 4096):
  Q6 prog 31 [] w λr w'=>r=.bool true/\O5 [] w w':=by
 refine Zq func31 ?_;refine Qc<|Qb<|Qc<|QM<|(Js w).mono ?_;rintro _ w1 ⟨hi,c1,rfl,ht,gr⟩;have hN:=Qlb (gr [] oe) (Vq (by rw[ht];exact Qoe)) (hr.I hi) (by rw[ht];exact QlI);rw[ht]at hN;refine QM<|hN.mono ?_;rintro _ w2 ⟨gs,s,rfl,esys,gt,hE,hSy⟩;have hv:=hi.D gs;refine Qa<|Q7 U U<|Q7 U U<|x Ql<|Qb<|Qd<|Q3 (α:=Unit) [(14,19)] (λ_=>[(19,.bool false)]) (λ_ w'=>w'=w2) ol ?_ ?_
 ·refine Qw<|Qa<|xb (YP U U) (λhF=>OW U hF) (λhF=>?_);refine Qa<|Qa<|x (X4 underlying46 U U)<|QH U<|xe ?_;exact⟨(),La,U⟩
 rintro⟨⟩ g3 H rfl;refine ZL rfl<|Qh ?_;have hj:O5 [] H { H with drawn:=H.drawn+1 }:=O5.C _ _
 have hk:=hSy.lt;refine Q3 (α:=Nat×yZ×Ki) [(20,40),(3,4)] (λz=>[(3,pS z.1),(4,oF oG 0)]) (λz w'=>O5 s.own H w'/\z.2.2.b=s.b/\z.2.2.sys=QeQ/\YF 2 z.2.2.sys/\z.2.1.rp=XQ (qq Kn.c Uy).2 Kn.ps 1/\(∀b∈z.2.2.own,b∈s.own\/H.heap.size<=b)/\z.1∉z.2.2.own/\VH z.2.2.own w' z.2.2/\K4 [] w'.heap z.2.1/\∃T,Zb w'.heap z.1 T (ZI z.2.1)) ol ?_ ?_
 ·refine QgT (α:=yZ×Ki) (O5 s.own H) [oD 0] [oE 1,oD 2,oD 3,oD 4,oD 5,oD 6,oE 7,oD 8,oD 9,oD 10,oD 11,oD 12,oE 13,oD 14,oD 15,oE 16,oE 17,oD 18,oD 19,oD 20] 21 3 [oE 22,oD 23] s.own
   [(20,40)] [(20,20),(22,40)] (λz=>[(39,.agg (ZI z.1).toArray),(40,oF oG 0)])
   (λz own w'=>O5 s.own H w'/\z.2.b=s.b/\z.2.sys=QeQ/\YF 2 z.2.sys/\z.1.rp=XQ (qq Kn.c Uy).2 Kn.ps 1/\(∀b∈z.2.own,b∈s.own\/H.heap.size<=b)/\∀J,H.heap.size<=J->J∉own->J∉z.2.own/\VH (J::z.2.own) w' z.2/\K4 [J] w'.heap z.1)
   (λv w'=>∃b T,v=pS b/\H.heap.size<=b/\Zb w'.heap b T YX) mixed ol od ol U hj.any (λ_ _ h1 h2=>h1.D h2) hk ?_ ?_ ?_ ?_
  ·rintro v own wa wb ⟨b,T,rfl,E,hB⟩ G V;exact⟨b,T,U,E,hB.J G (V b ot)⟩
  ·rintro z own wa wb ⟨h1,h2,h3,h4,h5,h6,O⟩ G;exact⟨h1.D G,h2,h3,h4,h5,h6,λJ ha V=>⟨(O J ha V).1,(O J ha V).2.1.I G,(O J ha V).2.2.I G⟩⟩
  ·rintro⟨q,Y⟩ g own wz v C' ⟨h1,h2,h3,h4,h5,h6,O⟩ mv _ ⟨b,T,rfl,E,hB⟩ gu;simp only[]at h2 h3 h4 h5 h6 O;obtain⟨n1,n2,n3⟩:=O b E (gu b ot).1;refine pkl (hl:=by kernel_rfl)<|Qj (us:=ZI q) hB U U U U n3.ones λw8 hf hw=>p ZN<|pe ?_;exact⟨(b,q,Y),oA,h1.then hf (λc I=>by rw[Lb.1 I];exact .inr E),h2,h3,h4,h5,h6,n1,(n2.J hf (λc I=>.inl (by rw[Lb.1 I];exact Lr)) (λc I hm=>n1 (Lb.1 hm ▸ I))).up (λc I=>.inl (Lj _ I)) (λc I=>I),(n3.st (hf.mono λc I=>I)).up oe,T,hw⟩
  refine p QE<|pe ⟨λg wf gv=>Qo (us:=YX) U λb mw gw hG hH=>⟨gw,⟨b,_,U,LJ gv.size hG,hH⟩,λx hx=>?_⟩,?_⟩
  ·have gx:x=b:=by
    have gy:x∈[b]:=hx;simpa using gy
   subst gx;exact⟨hG,hH.lt⟩
  refine f3k λx1 p1 c1=>?_;refine xg<|(Js x1).mono ?_;rintro _ y1 ⟨q1,e1,rfl,hI,gz⟩;have my:e1.co.length=3:=by rw[<-Qdw,<-hI];exact(Lh _).symm
  have g0:=gz s.own (λb E=>LW (hk b E) (LJ hj.size p1.size));refine⟨λx=>O5 s.own H x/\O5 s.own y1 x,λx hx=>hx.1,λx x' hx G=>⟨hx.1.D G,hx.2.D G⟩,⟨c1.D q1,O5.Z _ _⟩,s.own,q1.any,λb E=>.inl E,?_⟩;obtain⟨a1,mz,g2,hJ⟩:=Zn.at g0.co.arr (i:=1) oa;rw[XH QO 5 Yp e1.co 1 oa]at hJ;have g6:(e1.co[1]'oa).nm=Jo 1:=QaO hI oa;refine f3p (λ_=>QhY 40 1 underlying44 U U U)<|f3p (λ_=>Xm (show Go.Lg.ev _ _=_ from g2) U og oa)<|f3p (λ_=>Zp U) <|
   f3q (λ_ I=>QA ((hJ.st I.2).fld 0 (.string (Jo 1)) (OV (λn=>some (Value.string n)) g6)) U)<|f3p (λ_=>Qz oA) ?_
  refine f3k λx2 p2 c2=>?_;refine xg<|(Js x2).mono ?_;rintro _ y2 ⟨q2,e2,rfl,hK,g7⟩;have m2:e2.co.length=3:=by rw[<-Qdw,<-hK];exact(Lh _).symm
  have g8:=g7 s.own (λb E=>LW (hk b E) (LJ hj.size (LJ p1.size (LJ q1.size p2.size))));refine⟨λx=>(O5 s.own H x/\O5 s.own y1 x)/\O5 s.own y2 x,λx hx=>hx.1,λx x' hx G=>⟨⟨hx.1.1.D G,hx.1.2.D G⟩,hx.2.D G⟩,⟨⟨c2.1.D q2,c2.2.D q2⟩,O5.Z _ _⟩,s.own,q2.any,λb E=>.inl E,?_⟩;obtain⟨a2,m3,g9,hL⟩:=Zn.at g8.co.arr (i:=2) oa;rw[XH QO 5 Yp e2.co 2 oa]at hL;have ka:(e2.co[2]'oa).nm=Jo 2:=QaO hK oa;refine f3p (λ_=>QhY 40 1 underlying44 U U U)<|f3p (λ_=>Xm (show Go.Lg.ev _ _=_ from g9) U og oa)<|f3p (λ_=>Zp U) <|
   f3q (λ_ I=>QA ((hL.st I.2).fld 0 (.string (Jo 2)) (OV (λn=>some (Value.string n)) ka)) U)<|f3p (λ_=>Qz oA) ?_
  refine f3k λx3 p3 c3=>QC (us:=[[.string (Jo 1),oF oG 0],[.string (Jo 2),oF oG 1]]) U U og (by exact(by decide:2*2<=1000000)) oC λb13 x4 p4 m4 kb=>?_;refine⟨λx=>(O5 s.own H x/\O5 s.own y1 x)/\O5 s.own y2 x,λx hx=>hx,λx x' hx G=>⟨⟨hx.1.1.D G,hx.1.2.D G⟩,hx.2.D G⟩,⟨⟨c3.1.1.D p4,c3.1.2.D p4⟩,c3.2.D p4⟩,s.own,p4.any,λb E=>.inl E,?_⟩;refine f3p (λ_=>Zf [(0,[oF oG 3]),(1,[.string Y2]),(3,[.slice (some ⟨b13,0,none⟩) 2 2])] ⟨U,U,U,U,U,U,Z⟩)<|f3p (λ_=>Zf [(1,[oF oG 3,.string Y2,Zs,oF oG 0,Zs,Zs,.slice (some ⟨b13,0,none⟩) 2 2,Zs,oF oG 0])] oA) ?_;refine f3k λx5 p5 c5=>QC (us:=[ZO (Qjq b13)]) U U og (by exact(by decide:1*10<=1000000)) oA λm5 x6 p6 m6 kc=>?_;refine⟨λx=>(O5 s.own H x/\O5 s.own y1 x)/\O5 s.own y2 x,λx hx=>hx,λx x' hx G=>⟨⟨hx.1.1.D G,hx.1.2.D G⟩,hx.2.D G⟩,⟨⟨c5.1.1.D p6,c5.1.2.D p6⟩,c5.2.D p6⟩,s.own,p6.any,λb E=>.inl E,?_⟩;refine f3k λx7 p7 c7=>?_;have hy:O5 [] H x7:=(((((((hj.D p1).D q1).D p2).D q2).D p3).D p4).D p5 |>.D p6).D p7;have hO:=hy.size;have ke:=QoF (kb.I ((p5.D p6).D p7)) (kc.I p7) QiF Qob;have kf:VH (U2 H.heap.size x7.heap.size++s.own) x7 s:=(hSy.up (λb E=>by
   rcases Lc.1 E with E|E
   ·exact .inr (ZC.1 E).1
   exact .inl (Lc.2 (.inl E))) (λb E=>Lc.2 (.inr E))).I hy
  have hR:=zR kf gt og (λb E=>by
   rcases Lc.1 E with E|E
   ·exact(ZC.1 E).2
   exact LW (hk b E) hO) ke (by
   intro e he;rw[show[Qjq b13].map YT.e=Uy from rfl]at he;rw[Lb.1 he];exact jz og og) (hr.I (hv.D hy))
  rw[show[Qjq b13].map YT.e=Uy from rfl,esys,show Qf5 QaX=Kn from rfl,Qod]at hR;refine xg<|hR.mono ?_;rintro m7 x8 ⟨qr,rfl,hN,_,ho⟩;have ho:=ho U;refine Exists.elim ho.2 λY S=>?_;have kg:=S.2.2.2.2.1.lt;refine⟨λx=>(O5 s.own H x/\O5 s.own y1 x)/\O5 s.own y2 x,λx hx=>hx,λx x' hx G=>⟨⟨hx.1.1.D G,hx.1.2.D G⟩,hx.2.D G⟩,⟨⟨c7.1.1.Q S.2.2.2.1,c7.1.2.Q S.2.2.2.1⟩,c7.2.Q S.2.2.2.1⟩,Y.own++U2 x7.heap.size x8.heap.size,S.2.2.2.1,λb E=>?_,?_⟩
  ·rcases Lc.1 E with E|E
   ·exact(S.2.2.2.2.2 b E).imp id λh=>⟨h,kg b E⟩
   exact .inr (ZC.1 E)
  refine f3p QE<|f3p (λ_=>Zt U U)<|f3p (λ_=>Zt U U)<|f3e ?_;refine⟨(qr,Y),oA,c7.1.1.Q S.2.2.2.1,S.1,S.2.1,S.2.2.1,ho.1,λb E=>?_,λJ ha V=>⟨λhm=>V (Lc.2 (.inl hm)),?_,?_⟩⟩
  ·exact(S.2.2.2.2.2 b E).imp id λh=>LJ hO h
  ·refine S.2.2.2.2.1.up (λb E=>?_) (λb E=>Lj _ E);rcases Li.1 E with rfl|E
   ·by_cases O:b<x7.heap.size
    ·exact .inl (Lc.2 (.inr (Lc.2 (.inl (ZC.2 ⟨ha,O⟩)))))
    by_cases h8:b<x8.heap.size
    ·exact OW (Lc.2 (.inr (ZC.2 ⟨OJ O,h8⟩))) V
    exact .inr (OJ h8)
   exact .inl (Lc.2 (.inl E))
  by_cases O:J<x7.heap.size
  ·exact hN [J] (λb E=>by rw[Lb.1 E];exact O)
  by_cases h8:J<x8.heap.size
  ·exact OW (Lc.2 (.inr (ZC.2 ⟨OJ O,h8⟩))) V
  exact(hN [] (λb E=>by cases E)).up λb E=>by rw[Lb.1 E];exact .inr (OJ h8)
 rintro⟨b3,qr,Y⟩ g4 w4 ⟨kh,e1,e2,hz,e3,hP,n1,h0,hQ,T3,hS⟩;simp only[]at e1 e2 hz e3 hP n1 h0 hQ hS;have hT:O5 [] w w4:=JA hv (λb E=>LJ hi.size (hE b E)) kh;have ki:qr.k1=[(1,Y1)]:=(OV Rp.kept e3).D Qn9;have kj:qr.k2=[(2,Y2)]:=(OV Rp.made e3).D Qn8;have kk:qr.k3=[]:=(OV Rp.gone e3).D Qoa;have kn:Y.made=3:=(OV Sys.made e2).D QiG;have ko:Y.sys.un≠[]:=by rw[e2];exact List.append_ne_nil_of_right_ne_nil _ (List.cons_ne_nil _ _)
 refine Qm<|QM<|(Js w4).mono ?_;rintro _ w5 ⟨h9,c5,rfl,hW,kq⟩;have m8:c5.co.length=3:=by rw[<-Qdw,<-hW];exact(Lh _).symm
 have kr:=kq [] oe;refine x (QhY 40 1 underlying44 U U U)<|O8 (g:=QO) (i:=1) Yp kr.co.arr U U oa λm9 kt=>?_;have ku:=kt.fld 0 (.string (Jo 1)) (OV (λn=>some (Value.string n)) (QaO hW oa));refine x (Zp U)<|x (QA ku U) <|
  x (Zf [(0,[oF oG 1]),(1,[.string (Jo 1)])] ⟨U,U,U,U,Z⟩)<|x (Zf [(0,[.bool true]),(1,[oF oG 1,.string (Jo 1),Zs,oF oG 0,Zs,Zs,Zs,Zs,oF oG 0])] ⟨U,U,U,U,Z⟩) <|
  Qe<|QC (us:=[ZO Qjm]) U U og (by exact(by decide:1*10<=1000000)) oA λpa w6 hA pc kv=>?_
 have hX:=(h0.I h9).I hA;have hR5:=zR hX hz og hX.lt (QoG kv QiF) (by
  intro e he;rw[show[Qjm].map YT.e=QiH from rfl]at he;rw[Lb.1 he];exact jz og og) (hr.I ((hT.D h9).D hA))
 rw[show[Qjm].map YT.e=QiH from rfl,e2,Qoc,e1]at hR5;refine QM<|hR5.mono ?_;rintro r9 w7 ⟨kw,rfl,kx,kz,_⟩;have k0:=(kz og).1;refine Qa<|Q7 U U<|Q7 U U<|Qe<|Qo (us:=YX) U λb5 w8 hf k4 k5=>Qe<|Qj (us:=ZI kw) k5 U U U U (kx [] oe).ones λw9 k6 pd=>Qb ?_;have k7:O5 [] w4 w9:=((h9.D hA).D k0).D (hf.O k6 k4);refine Qc<|x (Qz ⟨U,U,Z⟩)<|x (Qz ⟨U,U,Z⟩)<|Qe<|Qo (us:=[oF oG 0,.string .empty]) U λb7 pf k8 k9 hY=>Qe<|Qo (us:=[oF oG 0,.string .empty]) U λb8 pg hZ ph hw =>
  Qe<|Qj (us:=KL (1,Y1)) (hY.I hZ) U U U U oA λpj ga ma=>?_
 have pm:=hY.lt;refine Qe<|Qj (us:=KL (2,Y2)) (hw.J ga om) U U U U oA λgb gc mf=>xe ?_;have mg:O5 [] w9 gb:=((k8.D hZ).O ga k9).O gc oa;have hp:=k7.D mg;have mh:=ma.J gc om;have hC:=hS.I hp;have hD:=hQ.I hp;have gg:=h0.I hp;have gh:=hD.a1;have gi:=hD.a2;have gj:=hD.a3;rw[ki]at gh;rw[kj]at gi;rw[kk]at gj;refine Q3 (α:=Unit) [(0,0),(56,96)] (λ_=>[(0,.bool true)]) (λ_ w'=>O5 Y.own gb w') ol ?_ ?_
 ·refine Qw<|Qa<|xb (Q0 U U) (λgk=>?_) (λgk=>OW U gk);refine Qa<|Qs U hC U U<|Q5 mh U U<|Qe<|QC (us:=[KL (1,Y1)]) U U og (by exact(by decide:1*2<=1000000)) oA λpn po gl pp mj =>
   QM<|(X8 (L:=[]) (L':=[]) (l:=[(1,Y1)]) (gh.I gl) (mj.arr oe (n:=1) (cap:=1) (sz:=2) rfl og (Lu _))).mono ?_
  rintro _ pu ⟨rfl,mo⟩;have hq:=gl.D mo;refine QH U<|Qa<|Qs U (hC.I hq) U U<|Q5 (mf.I hq) U U<|Qe<|QC (us:=[KL (2,Y2)]) U U og (by exact(by decide:1*2<=1000000)) oA λpw pz gm p0 mq =>
   QM<|(X8 (L:=[]) (L':=[]) (l:=[(2,Y2)]) ((gi.I hq).I gm) (mq.arr oe (n:=1) (cap:=1) (sz:=2) rfl og (Lu _))).mono ?_
  rintro _ p8 ⟨rfl,ms⟩;have hh:=(hq.D gm).D ms;refine QH U<|Qa<|Qs U (hC.I hh) U U<|QK (gj.I hh) U<|xb (Q0 U U) (λgn=>?_) (λgn=>OW U gn);refine QH U<|Qa<|Qa<|xb (Q0 U U) (λgo=>?_) (λgo=>OW U go);have hM:=QhG (gg.I hh);have hU:=zQ (gg.I hh) hz;have hU:=hU.mono λr w' h=>h.2 ko;rw[e1]at hM hU;refine QH U<|Qa<|Qa<|QM<|hM.mono ?_;rintro _ p9 ⟨rfl,rfl⟩;refine xb (Q0 U U) (λgp=>?_) (λgp=>OW kn gp);refine QH U<|Qa<|Qa<|QM<|hU.mono ?_;rintro _ qc ⟨rfl,hu⟩;refine Exists.elim hu λs2 hu=>?_;have hV:=zQ hu.2.2.2.2.1 hu.2.2.1;rw[hu.1]at hV;have hV:=hV.mono λr w' h=>h.1 (by rw[hu.2.1,e2];rfl);refine xb (Q0 U U) (λgq=>?_) (λgq=>OW U gq);refine QH U<|Qa<|Qa<|QM<|hV.mono ?_;rintro _ qf ⟨rfl,mt⟩;refine x (Q0 U U)<|QH U<|Qb<|⟨(),La,(hh.any.Q hu.2.2.2.1).D mt⟩
 rintro _ g5 ql mu;refine Qk ⟨[.bool true],La,U,JA (hT.D hp) (λb E=>?_) mu⟩;rcases hP b E with h|h
 ·exact LJ hi.size (hE b h)
 exact LJ hv.size h
theorem j8 (h0:ZH L w.heap va vm ve a):
  Q6 prog 15 [.agg #[va,oF oG a.st,vm,ve]] w λr w'=>O5 [] w w'/\∃ua ub uc ud,r=.tuple #[.agg #[ua,ub,uc,ud],oF oG (Jl a)]/\Zr [ua,ub,uc,ud] /\
   (Jl a=0->ub=oF oG (UL (Yd a)).st/\∀L:LN,(∀b∈L,b<w.heap.size)->ZH L w'.heap ua uc ud (UL (Yd a))):=by
 have h:=h0.up (L':=[]) oe;refine Zq func15 ?_;refine Qc<|Qe<|QS (us:=[va,oF oG a.st,vm,ve]) U λb1 w1 hn hM ho=>Qe<|Qo (us:=KJ) U λb2 w2 hc hO he=>Qb ?_;have hp:=hn.D hc;have hP:=hn.size;refine Qd<|Qc<|Q5 (ho.I hc) U U<|QM<|(Je (h.I hp)).mono ?_;rintro r3 w3 ⟨rfl,O⟩;refine Qb ?_;have hf:=hp.D O;refine Qm<|ZA U U<|xe<|QY rfl (λhg=>?_) (λhg=>?_)
 ·refine Qc<|x (Qz Z)<|Qa<|Qe<|Qj (us:=KJ) (he.I O) U U U U oC λw4 h5 hh=>Qb<|Qk ⟨[.agg KJ.toArray,oF oG (Jl a)],⟨⟨_,U,Qn U (hh.at (L:=[]) oe).cells⟩,rfl,Z⟩,hf.O h5 oa,_,_,_,_,rfl,⟨rfl,rfl,rfl,rfl,Z⟩,λe=>OW e hg⟩
 have hq:Jl a=0:=Lo.1 hg;have hr:=(Z1 a).1 hq;have hs:=QgK hr;have h6:=hs.st0;have hQ:=hs.st1;refine Qh<|Qc<|Q5 ((ho.I hc).I O) U U<|QM<|(Jt (h.I hf) hr).mono ?_;rintro r5 w5 ⟨hj,ra,rm,re,rfl,hA⟩;have I:=hA [] oe;have hR:=O.size;have hS:=hj.size;refine Qe<|Qo (us:=KJ) U λG w6 h7 ht hu=>Qe<|Qj (us:=[ra,oF oG (Yd a).st,rm,re]) hu U U U U ⟨I.al.one,U,I.mr.one,I.ed.one,Z⟩ λw7 h8 h9=>xe ?_;refine Qc<|Q2 U<|Qe<|QB (j:=2) (u:=Zs) h9 U U oe rfl λS hB hk=>xe ?_;have hl:O5 [] w5 S:=(h7.O h8 ht).O hB oa;have hC:=(hf.D hj).D hl;have hT:=hu.lt;have hU:=hk.lt;have hV:=he.lt;refine Qd<|Qc<|Qs U hk U U<|Qa<|xe<|Qf<|QD (α:=Nat×O2) [(6,6),(18,27)] (λz=>[(18,oF oG z.1)]) (λz w'=>(z.1:Int)<=(Yd a).st/\O5 [G] S w'/\(∃T,Zb w'.heap G T [ra,oF oG (Yd a).st,z.2,re])/\Qu 3 S.heap.size w' z.2 (K1 z.1)) (λz=>(Yd a).st.toNat - z.1) ol (0,Zs) La ⟨h6,O5.Z _ _,⟨_,hk⟩,QL _ _ _ _⟩ ?_;rintro⟨i,v⟩ g w9 ⟨hi,V,⟨T5,ha⟩,J⟩;simp only[]at hi ha J;have hW:=V.size;refine Qc<|QZ U U<|xe<|Qd<|QG U (λhv=>?_) (λhv=>?_)
 ·refine Qy ?_;have hD:(Yd a).st.toNat=i:=by have hY:¬(i:Int)<(Yd a).st:=hv;omega
  have hw:=Qt J;refine Qc<|Q5 ha U U<|Qe<|Qj (us:=[ra,oF oG (Yd a).st,v,re]) (((he.I O).I (hj.D hl)).J V om) U U U U ⟨I.al.one,U,hw,I.ed.one,Z⟩ λY H hE=>Qb ?_;have hF:O5 [] w Y:=(hC.O V oa).O H oa;refine Qk ⟨[.agg #[ra,oF oG (Yd a).st,v,re],oF oG 0],⟨⟨_,U,Qn U (hE.at (L:=[]) oe).cells⟩,rfl,Z⟩,hF,ra,_,v,re,by rw[hq];rfl,⟨I.al.one,U,hw,I.ed.one,Z⟩,λ_=>⟨U,λN hN=>?_⟩⟩;have hG:O5 [G,b2] w5 Y:=((hl.any (L:=[G,b2])).Q (V.mono oe)).Q (H.mono oe);have hX:∀b∈N,b<w.heap.size:=hN;have hH:ZH (G::b2::N) w5.heap ra rm re (Yd a):=by
   refine(hA (b2::N) (λb E=>?_)).up λb E=>?_
   ·rcases Li.1 E with rfl|E
    ·have:=O.size;omega
    have:=hX b E;omega
   rcases Li.1 E with rfl|E
   ·exact .inr ht
   exact .inl E
  have hy:=(hH.st (hG.mono oe)).up (L':=N) λb E=>.inl (by simp[E]);have hI:Qu 3 S.heap.size Y v (K1 i):=Qg J H (λb E hm=>by have:=(Qi J b E).1;rw[Lb.1 hm]at this;omega);refine⟨hy.al,?_,hy.ed⟩;show QQ N Y.heap v (K1 (Yd a).st.toNat);rw[hD];exact Qu.ints hI (by rw[Qau];omega) (λb E=>ou (hX b E))
 refine Qh<|Qd<|Qf<|Qm<|Qb ?_;have n5:G∉ob v:=λhm=>ou (Qi J G hm).1
 refine Qw<|Qs U ha U U<|Qa<|Qe<|QC (us:=[[oF oG i]]) U U og oe ⟨rfl,rfl,Z⟩ λhZ Y H ga hh=>?_;have gb:=H.size;refine Qe<|Za (news:=[oF oG i]) (L:=[]) (Qp J H) U U U (hh.at oe) (by simp[Value.oneCell']) (by rw[Qau];omega) oa λhz hJ h1 h2 gc=>?_;refine Q2 rfl<|Qe<|QB (j:=2) (u:=hz) ((ha.I H).J h2 n5) U U oe (Qt h1) λgg h3 hK=>xe ?_;refine Qw<|QP U U<|Qa<|xe ?_;have hL:O5 [G] S hJ:=(V.D H).then h2 (λb E=>.inr (Qi J b E).1);refine⟨(i+1,hz),oh,La,oh,hL.Q h3,⟨T5,hK⟩,?_⟩;simp only[];rw[Qbu];have h4:=Qu.snoc h1;exact Qg h4 h3 (λb E hm=>by have:=(Qi h4 b E).1;rw[Lb.1 hm]at this;omega)
theorem yS (E:Kb w 4096):Q6 prog 8 [] w λr w'=>r=.bool true/\O5 [] w w':=by
 refine Zq func8 ?_;refine Qc<|Qb<|Q3 (α:=Unit) [(0,4)] (λz=>[(0,.bool true)]) (λz w'=>O5 [] w w') ol ?_ ?_
 ·refine Qw<|QM<|(Qdt E).mono ?_;rintro J O ⟨rfl,G⟩;refine Qa<|QM<|(Qd8 (E.I G)).mono ?_;rintro r2 S ⟨rfl,H⟩;refine QH U<|Qb<|⟨(),La,G.D H⟩
 rintro z g T I;exact Qk ⟨[.bool true],La,U,I⟩
section
variable {pS:String}{l:xE}{t':Nat}{x:O3}{k:IntKind}{a b:Int}
end
theorem Qjn {e:YT}(h:Zb H b T (ZO e))(E:X7 [] H e.q):jl [] H (.slice (some ⟨b,0,none⟩) 1 1) [e]:=
 ⟨h.arr oe (n:=1) (cap:=1) (sz:=10) rfl og (Nat.le_refl _),λq G=>by rw[List.mem_singleton.1 G];exact E⟩
def yF (y:Yc)(k:Nat):Yc :=
 if y.kd=3 then{ y with ls:=y.ls.set (k % y.ls.length) ((y.ls.getD (k % y.ls.length) (.empty,0)).1,((k % 3:Nat):Int)) }
 else if y.kd=4 then{ y with bd:=((k % 7:Nat):Int) - 3 }
 else if Jl y.a=0/\k % 2=0 then{ y with a:=UL (Yd y.a) }else{ y with a:={ y.a with mr:=[] } }
theorem QdT (h0:X7 L w.heap q){k:Nat}(hk:k<256)(gg:q.kd=3->0<q.ls.length)(kq:q.ls.length<=1000000)(hL:∀b∈L,b<w.heap.size):
  Q6 prog 50 [.agg (Qv q).toArray,oF oG (k:Int)] w λr w'=>O5 [] w w'/\∃q':DV,r=.agg (Qv q').toArray/\q'.it=yF q.it k/\X7 L w'.heap q':=by
 have h:=h0;have G:=h.ones;refine Zq func50 ?_;refine Qc<|Qe<|QS (us:=Qv q) U λb2 w1 hH hj hw=>Qe<|Qo (us:=Qv ⟨0,.empty,⟨Zs,Zs,Zs,⟨[],0,[],[]⟩⟩,Zs,[],Zs,[],0⟩) U λb4 w2 hl kr hh=>xe ?_;have V:=hH.D hl;have Y:=hw.I hl;have kt:=hH.size;have hq:b2≠b4:=by have:=hw.lt;omega
 refine Qd<|Qc<|Qs U Y U U<|xe<|Qf<|Qc<|x (Q0 U U)<|Qb<|QY U (λhy=>?_) (λhy=>?_)
 ·have hr:q.kd=3:=hy;have hn:=gg hr;have gh:(q.ls.flatMap ZJ).length=q.ls.length*2:=h.ls.arr.1;rcases h.ls.arr.2.2 with⟨_,e2⟩|⟨a,c,h1,h2,h3⟩
  ·omega
  refine Qc<|Qe<|XG λhI w3 T gi hJ=>Qs U (Y.I T) U U<|Qe<|Za (base:=w.heap.size) (hJ.own (n:=0) (sz:=2) U oa (ou V.size)) U (show Go.Lg.ev _ _=_ from h1) h.ls.arr.1 (h3.I (V.D T)) (by
   intro u hu;obtain⟨p,_,O⟩:=Mb.1 hu;rcases Li.1 O with rfl|O
   ·rfl
   rw[Lb.1 O];rfl) oa (ov hJ.lt V.size) λv4 w4 S hz hK=>Qb ?_
  have h6:O5 [] w2 w4:=T.O hz gi;have hs:=V.D h6;have H:k % q.ls.length<q.ls.length:=NM _ hn;have hM:q.ls.getD (k % q.ls.length) (.empty,0)=q.ls[k % q.ls.length]'H:=by simp[oQ,H]
  have S:w4.ownsRow w.heap.size 143 2 v4 q.ls.length (q.ls.flatMap ZJ):=by
   have E:=S;rw[LR,L8]at E;exact E
  refine Exists.elim (XZ S hn) λg hg=>Exists.elim hg λcap ha=>?_;rw[ha]at S;refine Exists.elim (Jn S).2 λcur hc=>?_;have ku:=(Jn S).1;have gj:=hc.1;have ht:=hc.2.1;have gk:=hc.2.2;have gl:w.heap.size<=g:=(Qi S g (by simp[ob])).1;refine Qm<|Qa<|Qa<|QK (QJ (L:=[]) S oa oe) (show Go.Lg.ev _ _=_ from ha)<|x (JH (a:=(k:Int)) (b:=(q.ls.length:Int)) rfl rfl oa oa)<|Qa<|x (JH (a:=(k:Int)) (b:=3) rfl rfl oa oa) <|
   x (Zu (i:=k % q.ls.length) (show Go.Lg.ev _ _=_ from ha) (show Go.Lg.ev _ _=_ from OV (Value.int .i64) (Int.natCast_emod ..).symm) H)<|Q2 U<|Qe<|QB (j:=0+k % q.ls.length*2+1) (u:=oF oG ((k % 3:Nat):Int)) gj U (show Go.Lg.ev _ _=_ from OV (Value.int .i64) (Int.natCast_emod k 3).symm) oa U λw5 h9 hN=>xe ?_
  rw[LR]at hN;refine Zk (q.ls.set (k % q.ls.length) ((q.ls.getD (k % q.ls.length) (.empty,0)).1,((k % 3:Nat):Int))) λhe hv=>?_;have hO:(q.ls.flatMap ZJ).set (k % q.ls.length*2+1) (oF oG ((k % 3:Nat):Int))=he.flatMap ZJ:=by
   rw[<-hv];refine xI ZJ 2 Qdf q.ls _ 1 H _ _ og ?_;rw[hM];rfl
  have gm:he.length=q.ls.length:=by rw[<-hv,L7]
  have gn:w5.ownsRow w.heap.size 143 2 (.slice (some ⟨g,0,none⟩) q.ls.length cap) q.ls.length (he.flatMap ZJ):=by
   refine Vx S (Lu _) hN (by rw[L7];exact ht) ?_ (by rw[<-hO,L7];exact gh);rw[<-hO,<-gk,List.take_set]
  have go:g∉L:=λH=>ou (hL g H)
  have n2g:b2≠g:=λe=>by
   have E:=hw.lt;rcases hK g (by rw[ha];simp[ob])with J|J
   ·have h8:g=hI:=by simpa[ob]using J
    have:=hl.size;omega
   have:=hl.size;have:=T.size;omega
  have n4g:b4≠g:=λe=>by
   have E:=hh.lt;rcases hK g (by rw[ha];simp[ob])with J|J
   ·have h8:g=hI:=by simpa[ob]using J
    omega
   have:=T.size;omega
  have gp:=QJ (L:=b2::b4::L) gn oa (λb I H=>by
   rw[Lb.1 (show b∈[g] from I)]at H;rcases Li.1 H with E|H
   ·exact n2g E.symm
   rcases Li.1 H with E|H
   ·exact n4g E.symm
   exact go H)
  have gq:=hs.O h9 gl;have gr:=(Y.I h6).J h9 (oz n2g);have gs:=(hh.I h6).J h9 (oz n4g);refine Qw<|Qa<|Q2 U<|Qe<|QB (u:=.slice (some ⟨g,0,none⟩) q.ls.length cap) gr U (show Go.Lg.ev _ _=_ from ha) (Ma U) U λw6 hA gt=>xe ?_;have gu:=gq.O hA hj;have gv:=gp.st (hA.mono oe);refine Qc<|Q5 gt U U<|Qe<|Qj (us:=Qv { q with vl:=.slice (some ⟨g,0,none⟩) q.ls.length cap,ls:=he }) (gs.J hA (oz hq.symm)) rfl rfl rfl rfl ⟨rfl,rfl,G.2.2.1,rfl,G.2.2.2.2.1,G.2.2.2.2.2.1,rfl,G.2.2.2.2.2.2.2.1,rfl,Z⟩ λw7 hP gw=>xe ?_
  have gx:w.heap.size<=b4:=oa
  have hQ:=gu.O hP gx;refine Qk ⟨[_],⟨⟨_,U,Qn U (gw.at (L:=[]) oe).cells⟩,Z⟩,hQ,{ q with vl:=.slice (some ⟨g,0,none⟩) q.ls.length cap,ls:=he },rfl,?_,?_⟩
  ·show({ q.it with ls:=he }:Yc)=yF q.it k
   unfold yF;rw[OU (show q.it.kd=3 from hr),<-hv];rfl
  have J:=h.I hQ;have gy:=(gv.st (hP.mono oe)).up (L':=L) (λb I=>.inl (Lj _ (Lj _ I)));refine⟨J.nm,J.a,⟨by rw[gm];exact gy,λp O=>?_⟩,J.ts⟩;rw[<-hv]at O;rcases MR O with O|O
  ·exact J.ls.nm p O
  have h8:=J.ls.nm _ (Ll H);rw[O,hM];exact h8
 have hB:¬q.kd=3:=hy;refine Qc<|x (Q0 U U)<|Qb<|QY U (λhC=>?_) (λhC=>?_)
 ·have hr:q.kd=4:=hC;have gz:(k:Int) % 7 - 3=((k % 7:Nat):Int) - 3:=oa
  refine Qw<|Qa<|x (JH (a:=(k:Int)) (b:=7) U U oa oa)<|x (Jh U U ⟨oa,oa⟩)<|Q2 U<|Qe<|QB (u:=oF oG (((k % 7:Nat):Int) - 3)) Y U (show Go.Lg.ev _ _=_ from OV (Value.int .i64) gz) (Ma U) U λw3 T g0=>xe ?_;have g2:=V.O T hj;refine Qc<|Q5 g0 U U<|Qe<|Qj (us:=Qv { q with bd:=((k % 7:Nat):Int) - 3 }) (hh.J T (oz hq.symm)) rfl rfl rfl rfl ⟨rfl,rfl,G.2.2.1,rfl,G.2.2.2.2.1,G.2.2.2.2.2.1,G.2.2.2.2.2.2.1,G.2.2.2.2.2.2.2.1,rfl,Z⟩ λw4 hz g3=>xe ?_
  have hs:=g2.O hz oa;refine Qk ⟨[_],⟨⟨_,U,Qn U (g3.at (L:=[]) oe).cells⟩,Z⟩,hs,{ q with bd:=((k % 7:Nat):Int) - 3 },rfl,?_,?_⟩
  ·show({ q.it with bd:=((k % 7:Nat):Int) - 3 }:Yc)=yF q.it k
   unfold yF;rw[OT (show ¬q.it.kd=3 from hB),OU (show q.it.kd=4 from hr)]
  have h4:=h.I hs;exact⟨h4.nm,h4.a,h4.ls,h4.ts⟩
 have hR:¬q.kd=4:=hC;refine Qc<|Q2 U<|x (Zj (us:=[q.p.va,oF oG q.p.a.st,q.p.vm,q.p.ve]) Y U U U)<|QM<|(j8 (h.a.I V)).mono ?_;rintro kv g4 ⟨g5,ua,ub,uc,ud,rfl,hf,ht⟩;refine Qa<|Q7 U U<|Q7 U U<|Qe<|Qo (us:=KJ) U λb6 kw g6 g7 g8=>Qe<|Qj (us:=[ua,ub,uc,ud]) g8 U U U U hf λhS g9 hD=>Qb ?_;have hT:O5 [] g4 hS:=g6.O g9 g7;have hE:=g5.D hT;have hU:=V.D hE;have hV:=Y.I hE;have hW:=hh.I hE;refine Q3 (α:=Unit) [(16,22)] (λ_=>[(22,.bool (decide (Jl q.p.a=0/\k % 2=0)))]) (λ_ w'=>w'=hS) ol ?_ ?_
 ·refine Qw<|Qa<|xb (Q0 U U) (λhF=>?_) (λhF=>?_)
  ·have hd:decide ((k:Int) % 2=0)=decide (Jl q.p.a=0/\k % 2=0):=by
    refine decide_eq_decide.2 ⟨λE=>⟨hF,oa⟩,λE=>oa⟩
   refine Qa<|Qa<|x (JH (a:=(k:Int)) (b:=2) U U oa oa)<|x (Q0 U U)<|QH U<|xe ?_;exact⟨(),⟨OV Value.bool hd,Z⟩,U⟩
  refine Qa<|Qr<|Qr<|Qr<|QH U<|xe ?_;exact⟨(),⟨OV Value.bool (OZ λE=>hF E.1).symm,Z⟩,U⟩
 rintro _ g hX rfl;refine QY rfl (λhi=>?_) (λhi=>?_)
 ·have hY:=(ht hi.1).1;rw[hY]at hf;have hD:Zb hX.heap b6 59 [ua,oF oG (UL (Yd q.p.a)).st,uc,ud]:=by rw[<-hY];exact hD
  refine Qw<|Q5 hD U U<|Q2 U<|Qe<|YB (us:=[ua,oF oG (UL (Yd q.p.a)).st,uc,ud]) (cs':=Qv { q with p:=⟨ua,uc,ud,UL (Yd q.p.a)⟩ }) hV U U U (Ma U) hf U λkx hG ka=>xe ?_
  have kb:=hU.O hG hj;refine Qc<|Q5 ka U U<|Qe<|Qj (us:=Qv { q with p:=⟨ua,uc,ud,UL (Yd q.p.a)⟩ }) (hW.J hG (oz hq.symm)) rfl rfl rfl rfl ⟨rfl,rfl,hf.1,rfl,hf.2.2.1,hf.2.2.2.1,G.2.2.2.2.2.2.1,G.2.2.2.2.2.2.2.1,rfl,Z⟩ λkc hZ ke=>xe ?_
  have ga:=kb.O hZ oa;refine Qk ⟨[_],⟨⟨_,U,Qn U (ke.at (L:=[]) oe).cells⟩,Z⟩,ga,{ q with p:=⟨ua,uc,ud,UL (Yd q.p.a)⟩ },rfl,?_,?_⟩
  ·show({ q.it with a:=UL (Yd q.p.a) }:Yc)=yF q.it k
   unfold yF;rw[OT (show ¬q.it.kd=3 from hB),OT (show ¬q.it.kd=4 from hR),OU (show Jl q.it.a=0/\k % 2=0 from hi)];rfl
  have E:=h.I ga;have kf:=Y.lt;have kg:=hh.lt;have kh:=(ht hi.1).2 ([b2,b4]++L) (by
   intro b I;rcases Lc.1 I with I|I
   ·rcases Li.1 I with rfl|I
    ·exact kf
    rw[Lb.1 I];exact kg
   have:=hL b I;omega)
  have ki:O5 ([b2,b4]++L) hX kc:=(hG.mono oe).Q (hZ.mono oe);exact⟨E.nm,((kh.I hT).st ki).up (λb I=>.inl (Lc.2 (.inr I))),E.ls,E.ts⟩
 refine Qw<|Q2 U<|Q2 U<|Qe<|QB (u:=Zs) hV U U (Ma U) U λkz gb kj=>xe ?_;have kk:=hU.O gb hj;refine Qc<|Q5 kj U U<|Qe<|Qj (us:=Qv { q with p:=⟨q.p.va,Zs,q.p.ve,{ q.p.a with mr:=[] }⟩ }) (hW.J gb (oz hq.symm)) rfl rfl rfl rfl ⟨rfl,rfl,G.2.2.1,rfl,rfl,G.2.2.2.2.2.1,G.2.2.2.2.2.2.1,G.2.2.2.2.2.2.2.1,rfl,Z⟩ λk0 kn ko=>xe ?_
 have gc:=kk.O kn oa;refine Qk ⟨[_],⟨⟨_,U,Qn U (ko.at (L:=[]) oe).cells⟩,Z⟩,gc,{ q with p:=⟨q.p.va,Zs,q.p.ve,{ q.p.a with mr:=[] }⟩ },rfl,?_,?_⟩
 ·show({ q.it with a:={ q.it.a with mr:=[] } }:Yc)=yF q.it k
  unfold yF;rw[OT (show ¬q.it.kd=3 from hB),OT (show ¬q.it.kd=4 from hR),OT (show ¬(Jl q.it.a=0/\k % 2=0) from hi)]
 have E:=h.I gc;exact⟨E.nm,⟨E.a.al,Zn.nil _ _ _,E.a.ed⟩,E.ls,E.ts⟩
def JC:ByteArray:=⟨#[102,117,114,116,104,101,114]⟩
def jJ:ByteArray:=⟨#[110,101,118,101,114]⟩
def jK:ByteArray:=⟨#[102,101,119]⟩
def JB:ByteArray:=⟨#[110,111,116,104,105,110,103]⟩
def qe:ByteArray:=⟨#[109,111,114,101]⟩
def V6 (n:ByteArray)(y:Yc)(wh b:Nat):Bool×Yc :=
 if wh % 8=0 then(true,⟨y.kd,y.nm,Vn,[],[],0⟩)
 else if wh % 8=1 then(false,yF y b)
 else if wh % 8=2/\y.kd=1 then(false,⟨2,JC,UL (Yd y.a),[],[],0⟩)
 else if wh % 8=3 then(false,⟨3,jJ,Vn,[(n,((b % 3:Nat):Int))],[],0⟩)
 else if wh % 8=4 then(false,⟨4,jK,Vn,[],[(n,1)],((b % 3:Nat):Int)⟩)
 else if wh % 8=5 then(true,⟨1,JB,Vn,[],[],0⟩)
 else if wh % 8=6/\y.kd=1 then(false,{ y with nm:=qe })
 else(false,y)
abbrev Qgw:Yc:=⟨0,.empty,Vn,[],[],0⟩
def dMk (c:ZB)(wh a b:Nat):Bool×Yc :=
 if(ZT c).1=0/\(ZT c).2≠[]then V6 ((c.co.map (·.nm)).headD .empty) ((ZT c).2.getD (a % (ZT c).2.length) Qgw) wh b else(true,Qgw)
abbrev UR:AV:=⟨Zs,Zs,Zs,Vn⟩
theorem jQ {N:LN}{c:CL}(hN:∀b∈N,b<w.heap.size)(h0:ZK L w.heap c)(hz:CSz c.V)(hw:0<c.co.length)(gs:∀y∈(ZT c.V).2,(y.kd=3->0<y.ls.length)/\y.ls.length<=1000000/\(y.kd=1->Jl y.a=0)){wh at_ bY:Nat}(kx:wh<256)(kz:at_<256)(gt:bY<256):
  Q6 prog 14 [c.val,.agg #[.int .u8 (wh:Int),.int .u8 (at_:Int),.int .u8 (bY:Int)]] w λr w'=>O5 [] w w'/\∃e:YT,r=.agg (ZO e).toArray/\e.e=dMk c.V wh at_ bY/\X7 N w'.heap e.q:=by
 have h:=h0.up (L':=[]) oe;refine Zq func14 ?_;refine Qc<|Qe<|QS (us:=c.cells) U λb2 w1 hA k0 gu=>Qe<|QS (us:=[.int .u8 (wh:Int),.int .u8 (at_:Int),.int .u8 (bY:Int)]) U λb3 w2 h4 k4 gv=>Qe<|Qo (us:=Qpr) U λJ w3 hB k5 hC=>xe ?_;have hD:=(hA.D h4).D hB;have hX:=gu.I (h4.D hB);have hY:=gv.I hB;refine Qc<|Q5 hX U U<|QM<|(Qdx (h.I hD) hz).mono ?_;rintro r4 w4 ⟨hf,v5,rfl,_,gw⟩;have hZ:=hD.D hf;by_cases hi:(ZT c.V).1=0
 rotate_left
 ·have T:dMk c.V wh at_ bY=(true,Qgw):=by unfold dMk;rw[OT λe=>hi e.1]
  refine Qa<|Q7 U U<|Q7 U U<|x Ql<|Qb<|Qd<|Q3 (α:=Unit) [(16,22)] (λ_=>[(22,.bool true)]) (λ_ w'=>w'=w4) ol ?_ ?_
  ·refine Qw<|Qa<|xb (YP U U) (λho=>?_) (λho=>OW ho (λe=>e hi));refine Qa<|Qr<|Qr<|Qr<|QH U<|xe ?_;exact⟨(),La,U⟩
  rintro _ g5 w5 rfl;refine QX U (λ_=>?_) (λgx=>by cases gx);have gy:=(hA.D h4).size;refine Qc<|x (Zf [(0,[.bool true])] ⟨U,U,Z⟩)<|Qe<|Qj (us:=ZO ⟨true,⟨0,.empty,UR,Zs,[],Zs,[],0⟩⟩) (hC.I hf) U U U U ⟨U,U,U,U,U,U,U,U,U,U,Z⟩ λw6 gz g0=>xe ?_;exact Qk ⟨[_],⟨⟨_,U,Qn U (g0.at (L:=[]) oe).cells⟩,Z⟩,hZ.O gz oa,⟨true,⟨0,.empty,UR,Zs,[],Zs,[],0⟩⟩,rfl,T.symm,⟨by show Jp .empty;decide,⟨Zn.nil _ _ _,Zn.nil _ _ _,Zn.nil _ _ _⟩,VI.nil,VI.nil⟩⟩
 refine Exists.elim (gw hi) λE hj=>?_;have g2:=Qa9 hi;have ga:E.length=(ZT c.V).2.length:=by have V:=OV oP hj.2;rwa [Lh]at V
 have gb:0<E.length/\E.length<=100000:=by
  obtain⟨a,b,_,_,e,hk⟩:=g2;have V:=Vm hk;have h2:(ZT c.V).2.length=_:=OV oP e;rw[Lk,Lh]at h2;have h3:c.V.co.length=c.co.length:=Lh _;omega
 have h6:Kx [] w4.heap v5 E:=Ju.dits hj.1 oa oe;refine Qa<|Q7 U U<|Q7 U U<|x Ql<|Qb<|Qd<|Q3 (α:=Unit) [(16,22)] (λ_=>[(22,.bool false)]) (λ_ w'=>w'=w4) ol ?_ ?_
 ·refine Qw<|Qa<|xb (YP U U) (λho=>OW hi ho) (λho=>?_);refine Qa<|Qa<|QK h6.arr U<|xb (Q0 U U) (λgc=>OW gc oa) (λgc=>?_);refine QH U<|xe ?_;exact⟨(),La,U⟩
 rintro _ g5 w5 rfl;refine ZL rfl<|Qh ?_;have g3:((at_:Int) % (E.length:Int))=((at_ % E.length:Nat):Int):=(Int.natCast_emod ..).symm;have hn:at_ % E.length<E.length:=NM _ gb.1;refine Qm<|Qs U (hY.I hf) U U<|x (Z3 (k':=.i64) U ⟨oa,oa⟩)<|Qa<|QK h6.arr U<|x (JH (a:=(at_:Int)) (b:=(E.length:Int)) U U oa oa) <|
  O8 (g:=Qv) (i:=at_ % E.length) ZW h6.arr U (show Go.Lg.ev _ _=_ from OV (Value.int .i64) g3) hn λk6 gg=>?_
 have hr:=Ll hn;have gh:(ZT c.V).2.getD (at_ % (ZT c.V).2.length) Qgw=(E[at_ % E.length]'hn).it:=by
  have V:at_ % (ZT c.V).2.length<(ZT c.V).2.length:=by rw[<-ga];exact hn
  rw[show(ZT c.V).2.getD (at_ % (ZT c.V).2.length) Qgw=(ZT c.V).2[at_ % (ZT c.V).2.length]'V from by simp[oQ,V]];have h2:=hj.2;have h3:∀(l:List Yc) (hl:at_ % l.length<l.length),E.map DV.it=l->l[at_ % l.length]'hl=(E[at_ % E.length]'hn).it:=by
   intro l hl e;subst e;rw[Mq];congr 2;rw[Lh]
  exact h3 _ V h2
 refine Zk (E[at_ % E.length]'hn) λq hq=>?_;rw[hq]at gg hr gh;have hE:=h6.each q hr;have hy:=gs q.it (by rw[<-hj.2];exact LO hr);have hF:=hE.ones;refine x (Qx gg U U)<|Qe<|Qo (us:=[oF oG 0,.string .empty,Zs,oF oG 0,Zs,Zs,Zs,Zs,oF oG 0]) U λb7 w7 g4 gi g6=>Qe<|Qj (us:=Qv q) g6 U U U U hF λw8 g7 ha=>xe ?_;have hc:O5 [] w5 w8:=g4.O g7 gi;have S:=hZ.D hc;have h8:=h.I S;have k7:=hE.I hc;refine Zk ((c.co[0]'hw).nm) λfn hG=>?_;have T:dMk c.V wh at_ bY=V6 fn q.it wh bY:=by
  unfold dMk;rw[OU ⟨hi,λe=>by have h5:=gb.1;rw[ga,e]at h5;exact OW h5 og⟩,gh];congr 1;rw[<-hG];have hh:∀(l:List IV) (hl:0<l.length),((l.map IV.it).map Xt.nm).headD .empty=(l[0]'hl).nm:=λl hl=>by
   cases l with
   | nil=>exact OW hl og
   | cons a t=>rfl
  exact hh c.co hw
 have gj:Jp fn:=by rw[<-hG];exact h.co.nm _ (Ll hw)
 refine Qc<|Qs U (hX.I (hf.D hc)) U U<|O8 (g:=QO) (i:=0) Yp h8.co.arr U U hw λk8 g8=>x (Zp U)<|x (QA (g8.fld 0 (.string fn) (OV (λb=>some (Value.string b)) hG)) U) <|
  Qb ?_
 have h7:=hY.I (hf.D hc);have Y:=(hC.I hf).I hc;have k9:=hf.size;have ma:=hc.size;have gy:=(hA.D h4).size;have he:w.heap.size<=J:=oa
 have ka:=hC.lt;have mf:=Y.lt;have kb:b7≠J:=oa
 have G:∀k:Nat,((wh:Int) % 8=(k:Int))↔wh % 8=k:=λk=>oa
 have hH:∀b∈J::N,b<w3.heap.size:=λb O=>by
  rcases Li.1 O with rfl|O
  ·exact ka
  have:=hN b O;have:=hD.size;omega
 have h9:∀b∈[J],b∈J::N:=oe
 have gk:∀b∈J::N,b<w8.heap.size:=λb O=>ou (hH b O)
 have hJ:X7 (J::N) w8.heap q:=by
  have V:Kx (J::N) w5.heap v5 E:=Ju.dits hj.1 oa hH;exact(V.each q hr).I hc
 refine Q3 (α:=Unit) [(9,10),(38,104)] (λ_=>[]) (λ_ w'=>w'=w8/\V6 fn q.it wh bY=(false,q.it)) ol ?_ ?_
 ·refine Qc<|Qs U h7 U U<|x (JH (a:=(wh:Int)) (b:=8) U U oa og)<|xe<|Qf<|Qc<|x (Q0 U U)<|Qb<|QY U (λhK=>?_) (λhK=>?_)
  ·have e0:wh % 8=0:=(G 0).1 hK;refine Qc<|Qs U ha U U<|Qs U ha U U<|x (Zf [(0,[oF oG q.kd]),(1,[.string q.nm])] ⟨U,U,U,U,Z⟩)<|x (Zf [(0,[.bool true]),(1,Qv ⟨q.kd,q.nm,UR,Zs,[],Zs,[],0⟩)] ⟨U,U,U,U,Z⟩) <|
    Qe<|Qj (us:=ZO ⟨true,⟨q.kd,q.nm,UR,Zs,[],Zs,[],0⟩⟩) Y U U U U ⟨U,U,U,U,U,U,U,U,U,U,Z⟩ λw9 H hL=>xe ?_
   refine Qk ⟨[_],⟨⟨_,U,Qn U (hL.at (L:=[]) oe).cells⟩,Z⟩,S.O H he,⟨true,⟨q.kd,q.nm,UR,Zs,[],Zs,[],0⟩⟩,rfl,?_,⟨hE.nm,⟨Zn.nil _ _ _,Zn.nil _ _ _,Zn.nil _ _ _⟩,VI.nil,VI.nil⟩⟩;rw[T];unfold V6;rw[OU e0];rfl
  have n0:¬wh % 8=0:=λe=>hK ((G 0).2 e);refine Qc<|x (Q0 U U)<|Qb<|QY U (λhM=>?_) (λhM=>?_)
  ·have e1:wh % 8=1:=(G 1).1 hM;refine Qc<|Q5 ha U U<|Qs U h7 U U<|x (Z3 (k':=.i64) U ⟨oa,oa⟩)<|QM<|(QdT hJ gt hy.1 hy.2.1 gk).mono ?_;rintro mg hs ⟨I,q',rfl,kc,gl⟩;have ke:=gl.ones;refine x (Zf [(1,Qv q')] ⟨U,U,Z⟩)<|Qe<|Qj (us:=ZO ⟨false,q'⟩) (Y.I I) U U U U ⟨U,ke⟩ λmh gm kf=>xe ?_;refine Qk ⟨[_],⟨⟨_,U,Qn U (kf.at (L:=[]) oe).cells⟩,Z⟩,(S.D I).O gm he,⟨false,q'⟩,rfl,?_,?_⟩
   ·rw[T];unfold V6;rw[OT n0,OU e1];exact OV (Prod.mk false) kc
   exact(gl.st (gm.mono h9)).up (λb O=>.inl (Lj _ O))
  have n1:¬wh % 8=1:=λe=>hM ((G 1).2 e);refine Qc<|x (Q0 U U)<|Qb<|QY U (λhO=>?_) (λhO=>?_)
  ·have e2:wh % 8=2:=(G 2).1 hO;refine Qc<|Qs U ha U U<|x (Q0 U U)<|xe<|QY U (λhP=>?_) (λhP=>?_)
   ·have hk1:q.kd=1:=hP;have gn:=hy.2.2 hk1;refine Qc<|Q2 U<|x (Zj (us:=[q.p.va,oF oG q.p.a.st,q.p.vm,q.p.ve]) ha U U U)<|QM<|(j8 hJ.a).mono ?_;rintro mj kg ⟨go,ua,ub,uc,ud,rfl,ht,gp⟩;have kh:=(gp gn).1;have ki:=(gp gn).2 (J::N) gk;refine Qa<|Q7 U U<|Q7 U U<|Qe<|Qo (us:=KJ) U λb9 mo kj kk kn=>Qe<|Qj (us:=[ua,ub,uc,ud]) kn U U U U ht λko kq gq=>Qb ?_;have hQ:O5 [] kg ko:=kj.O kq kk;rw[kh]at ht gq;refine Qc<|Q5 gq U U<|x (Zf [(0,[oF oG 2]),(1,[.string JC]),(2,[ua,oF oG (UL (Yd q.p.a)).st,uc,ud])] ⟨U,U,U,U,U,U,Z⟩)<|x (Zf [(1,Qv ⟨2,JC,⟨ua,uc,ud,UL (Yd q.p.a)⟩,Zs,[],Zs,[],0⟩)] ⟨U,U,Z⟩) <|
     Qe<|Qj (us:=ZO ⟨false,⟨2,JC,⟨ua,uc,ud,UL (Yd q.p.a)⟩,Zs,[],Zs,[],0⟩⟩) ((Y.I go).I hQ) U U U U ⟨U,U,U,ht.1,U,ht.2.2.1,ht.2.2.2.1,U,U,U,Z⟩ λmq gr kr=>xe ?_
    refine Qk ⟨[_],⟨⟨_,U,Qn U (kr.at (L:=[]) oe).cells⟩,Z⟩,((S.D go).D hQ).O gr he,⟨false,⟨2,JC,⟨ua,uc,ud,UL (Yd q.p.a)⟩,Zs,[],Zs,[],0⟩⟩,rfl,?_,⟨by show Jp JC;decide,((ki.I hQ).st (gr.mono h9)).up (λb O=>.inl (Lj _ O)),VI.nil,VI.nil⟩⟩;rw[T];unfold V6;rw[OT n0,OT n1,OU ⟨e2,hk1⟩];rfl
   have hk1:¬q.kd=1:=hP;refine Qh<|⟨(),Z,U,?_⟩;unfold V6;rw[OT n0,OT n1,OT (λe=>hk1 e.2),OT oa,OT oa,OT oa,OT (λe=>oa)]
  have n2:¬wh % 8=2:=λe=>hO ((G 2).2 e);refine Qc<|x (Q0 U U)<|Qb<|QY U (λhR=>?_) (λhR=>?_)
  ·have e3:wh % 8=3:=(G 3).1 hR;refine Qm<|Qs U h7 U U<|x (JH (a:=(bY:Int)) (b:=3) U U oa og)<|x (Z3 (k':=.i64) U ⟨oa,oa⟩)<|x (Qz ⟨U,U,Z⟩) <|
    Qe<|QC (us:=[ZJ (fn,((bY % 3:Nat):Int))]) U U og (by exact(by decide:1*2<=1000000)) oA λhu w9 H ms hS=>x (Zf [(0,[oF oG 3]),(1,[.string jJ]),(3,[.slice (some ⟨hu,0,none⟩) 1 1])] ⟨U,U,U,U,U,U,Z⟩) <|
    x (Zf [(1,Qv ⟨3,jJ,UR,.slice (some ⟨hu,0,none⟩) 1 1,[(fn,((bY % 3:Nat):Int))],Zs,[],0⟩)] ⟨U,U,Z⟩)<|Qe<|Qj (us:=ZO ⟨false,⟨3,jJ,UR,.slice (some ⟨hu,0,none⟩) 1 1,[(fn,((bY % 3:Nat):Int))],Zs,[],0⟩⟩) (Y.I H) U U U U ⟨U,U,U,U,U,U,U,U,U,U,Z⟩ λhs I hg=>xe ?_
   have kt:hu≠J:=oa
   refine Qk ⟨[_],⟨⟨_,U,Qn U (hg.at (L:=[]) oe).cells⟩,Z⟩,(S.D H).O I he,⟨false,⟨3,jJ,UR,.slice (some ⟨hu,0,none⟩) 1 1,[(fn,((bY % 3:Nat):Int))],Zs,[],0⟩⟩,rfl,?_,⟨by show Jp jJ;decide,⟨Zn.nil _ _ _,Zn.nil _ _ _,Zn.nil _ _ _⟩,⟨?_,λp hp=>by rw[Lb.1 hp];exact gj⟩,VI.nil⟩⟩
   ·rw[T];unfold V6;rw[OT n0,OT n1,OT (λe=>n2 e.1),OU e3];rfl
   exact(hS.J I (oz kt)).arr (λhm=>ov (hN _ hm) S.size) (n:=1) (cap:=1) (sz:=2) U og (Lu _)
  have n3:¬wh % 8=3:=λe=>hR ((G 3).2 e);refine Qc<|x (Q0 U U)<|Qb<|QY U (λhT=>?_) (λhT=>?_)
  ·have e4:wh % 8=4:=(G 4).1 hT;refine Qm<|x (Qz ⟨U,U,Z⟩)<|Qe<|QC (us:=[ZJ (fn,1)]) U U og (by exact(by decide:1*2<=1000000)) oA λhv w9 H mt ku =>
    Qs rfl (h7.I H) U U<|x (JH (a:=(bY:Int)) (b:=3) U U oa og)<|x (Z3 (k':=.i64) U ⟨oa,oa⟩)<|x (Zf [(0,[oF oG 4]),(1,[.string jK]),(4,[.slice (some ⟨hv,0,none⟩) 1 1]),(5,[oF oG ((bY % 3:Nat):Int)])] ⟨U,U,U,U,U,U,U,U,Z⟩) <|
    x (Zf [(1,Qv ⟨4,jK,UR,Zs,[],.slice (some ⟨hv,0,none⟩) 1 1,[(fn,1)],((bY % 3:Nat):Int)⟩)] ⟨U,U,Z⟩)<|Qe<|Qj (us:=ZO ⟨false,⟨4,jK,UR,Zs,[],.slice (some ⟨hv,0,none⟩) 1 1,[(fn,1)],((bY % 3:Nat):Int)⟩⟩) (Y.I H) U U U U ⟨U,U,U,U,U,U,U,U,U,U,Z⟩ λhs I hg=>xe ?_
   have kv:hv≠J:=oa
   refine Qk ⟨[_],⟨⟨_,U,Qn U (hg.at (L:=[]) oe).cells⟩,Z⟩,(S.D H).O I he,⟨false,⟨4,jK,UR,Zs,[],.slice (some ⟨hv,0,none⟩) 1 1,[(fn,1)],((bY % 3:Nat):Int)⟩⟩,rfl,?_,⟨by show Jp jK;decide,⟨Zn.nil _ _ _,Zn.nil _ _ _,Zn.nil _ _ _⟩,VI.nil,⟨?_,λp hp=>by rw[Lb.1 hp];exact gj⟩⟩⟩
   ·rw[T];unfold V6;rw[OT n0,OT n1,OT (λe=>n2 e.1),OT n3,OU e4];rfl
   exact(ku.J I (oz kv)).arr (λhm=>ov (hN _ hm) S.size) (n:=1) (cap:=1) (sz:=2) U og (Lu _)
  have n4:¬wh % 8=4:=λe=>hT ((G 4).2 e);refine Qc<|x (Q0 U U)<|Qb<|QY U (λhU=>?_) (λhU=>?_)
  ·have e5:wh % 8=5:=(G 5).1 hU;refine Qc<|x (Zf [(0,[oF oG 1]),(1,[.string JB])] ⟨U,U,U,U,Z⟩)<|x (Zf [(0,[.bool true]),(1,Qv ⟨1,JB,UR,Zs,[],Zs,[],0⟩)] ⟨U,U,U,U,Z⟩) <|
    Qe<|Qj (us:=ZO ⟨true,⟨1,JB,UR,Zs,[],Zs,[],0⟩⟩) Y U U U U ⟨U,U,U,U,U,U,U,U,U,U,Z⟩ λw9 H hL=>xe ?_
   refine Qk ⟨[_],⟨⟨_,U,Qn U (hL.at (L:=[]) oe).cells⟩,Z⟩,S.O H he,⟨true,⟨1,JB,UR,Zs,[],Zs,[],0⟩⟩,rfl,?_,⟨by show Jp JB;decide,⟨Zn.nil _ _ _,Zn.nil _ _ _,Zn.nil _ _ _⟩,VI.nil,VI.nil⟩⟩;rw[T];unfold V6;rw[OT n0,OT n1,OT (λe=>n2 e.1),OT n3,OT n4,OU e5];rfl
  have n5:¬wh % 8=5:=λe=>hU ((G 5).2 e);refine Qc<|x (Q0 U U)<|Qb<|QG U (λhV=>?_) (λhV=>?_)
  ·have n6:¬wh % 8=6:=λe=>hV ((G 6).2 e);refine Qh<|⟨(),Z,U,?_⟩;unfold V6;rw[OT n0,OT n1,OT (λe=>n2 e.1),OT n3,OT n4,OT n5,OT (λe=>n6 e.1)]
  have e6:wh % 8=6:=(G 6).1 hV;refine Qc<|Qs U ha U U<|x (Q0 U U)<|xe<|QY U (λhW=>?_) (λhW=>?_)
  ·have hk1:q.kd=1:=hW;refine Qc<|Q2 U<|Qe<|QB (u:=.string qe) ha U U (Ma U) U λw9 H hS=>xe ?_;refine Qc<|Q5 hS U U<|x (Zf [(1,Qv { q with nm:=qe })] ⟨U,U,Z⟩)<|Qe<|Qj (us:=ZO ⟨false,{ q with nm:=qe }⟩) (Y.J H (oz kb.symm)) rfl rfl rfl rfl ⟨rfl,rfl,rfl,hF.2.2⟩ λhs I hg=>xe ?_
   have kw:O5 (J::N) w5 hs:=((hc.O H gi).mono oe).Q (I.mono h9);refine Qk ⟨[_],⟨⟨_,U,Qn U (hg.at (L:=[]) oe).cells⟩,Z⟩,(S.O H oa).O I he,⟨false,{ q with nm:=qe }⟩,rfl,?_,?_⟩
   ·rw[T];unfold V6;rw[OT n0,OT n1,OT (λe=>n2 e.1),OT n3,OT n4,OT n5,OU ⟨e6,hk1⟩];rfl
   have V:Kx (J::N) w5.heap v5 E:=Ju.dits hj.1 oa hH;have h2:=((V.each q hr).st kw).up (L':=N) (λb O=>.inl (Lj _ O));exact⟨by show Jp qe;decide,h2.a,h2.ls,h2.ts⟩
  have hk1:¬q.kd=1:=hW;refine Qh<|⟨(),Z,U,?_⟩;unfold V6;rw[OT n0,OT n1,OT (λe=>n2 e.1),OT n3,OT n4,OT n5,OT (λe=>hk1 e.2)]
 rintro _ g9 w9 ⟨rfl,hI⟩;refine Qc<|Q5 ha U U<|x (Zf [(1,Qv q)] ⟨U,U,Z⟩)<|Qe<|Qj (us:=ZO ⟨false,q⟩) Y U U U U ⟨U,hF⟩ λhs I hg=>xe ?_;refine Qk ⟨[_],⟨⟨_,U,Qn U (hg.at (L:=[]) oe).cells⟩,Z⟩,S.O I he,⟨false,q⟩,rfl,?_,(hJ.st (I.mono h9)).up (λb O=>.inl (Lj _ O))⟩;rw[T,hI];rfl
theorem Qjx (h:(ZT c).1≠0):(ZT c).2=[]:=by
 unfold ZT at *;split
 ·rfl
 rename_i l hl;rw[hl]at h;simp only[]at h;split
 ·rfl
 rename_i E;rw[OT E]at h;exact OW U h
theorem Qmn {l:xx}{r:List (ByteArray×Int)}(h:VU co l=some r)(hl:l≠[]):0<r.length:=by
 rw[zB h];exact List.length_pos_iff.2 hl
theorem Qjz {co:List Xt}:∀{l:List UV}{a:List Yc},JT co l=some a->(∀q∈l,q.ls≠[])->∀x∈a,x.kd=3/\0<x.ls.length
 | [],a,h,_=>by
  rw[JT]at h;cases h
  exact λx hx=>by cases hx
 | x::l,a,h,H=>by
  rw[JT]at h;cases hx:VU co x.ls with
  | none=>rw[hx]at h;cases h
  | some n =>
   rw[hx]at h;cases E:JT co l with
   | none=>rw[E]at h;cases h
   | some r =>
    rw[E]at h;cases h
    intro y G;rcases Li.1 G with rfl|G
    ·exact⟨U,Qmn hx (H x Lr)⟩
    exact Qjz E (λq I=>H q (Lj _ I)) y G
theorem QjA {co:List Xt}:∀{l:List xL}{a:List Yc},Kc co l=some a->∀x∈a,x.kd=4
 | [],a,h=>by
  rw[Kc]at h;cases h
  exact λx hx=>by cases hx
 | x::l,a,h=>by
  rw[Kc]at h;cases hx:VU co x.ts with
  | none=>rw[hx]at h;cases h
  | some n =>
   rw[hx]at h;cases E:Kc co l with
   | none=>rw[E]at h;cases h
   | some r =>
    rw[E]at h;cases h
    intro y G;rcases Li.1 G with rfl|G
    ·rfl
    exact QjA E y G
theorem Qjw (S:Zl c=0):∀y∈(ZT c).2,(y.kd=3->0<y.ls.length)/\y.ls.length<=1000000/\(y.kd=1->Jl y.a=0):=by
 intro y E;by_cases h:(ZT c).1=0
 rotate_left
 ·rw[Qjx h]at E;cases E
 have he:=Qba (Vq S) h y E;refine⟨?_,LJ he.1 og,?_⟩
 all_goals
  have T:=Z5 S;have hf:∀x∈c.ex,x.ls≠[]:=by
   have G:=T.cd;unfold Yw at G;by_cases V:8<(szs c.co).length
   ·rw[OU V]at G;cases G
   rw[OT V]at G;by_cases Y:(szs c.co).any Ku=true
   ·rw[OU Y]at G;cases G
   rw[OT Y]at G;by_cases h4:32<c.ex.length\/32<c.cs.length
   ·rw[OU h4]at G;cases G
   rw[OT h4]at G;by_cases J:Yq (szs c.co) [] c.ex≠0
   ·rw[OU J]at G;exact OW G J
   intro x hx e;have O:=J7 _ _ _ (Lo.1 J) x hx;unfold Jd at O;rw[e]at O;cases O
  obtain⟨a,b,ha,hb,e,_⟩:=Qa9 h;rw[e]at E;intro H;rcases Lc.1 E with E|E
  ·obtain⟨z,hz,rfl⟩:=LC.1 E
   first
   | exact OW (show(1:Int)=3 from H) og
   | exact(Z1 _).2 (T.co z hz)
  rcases Lc.1 E with E|E
  ·obtain⟨z,_,rfl⟩:=LC.1 E
   first
   | exact OW (show(2:Int)=3 from H) og
   | exact OW (show(2:Int)=1 from H) og
  rcases Lc.1 E with E|E
  ·have I:=Qjz ha hf y E
   first
   | exact I.2
   | exact OW (I.1.symm.D H) og
  have I:=QjA hb y E;exact OW (I.symm.D H) og
theorem Qmm {n:ByteArray}{y:Yc}(h:zD y)(wh b:Nat):zD (V6 n y wh b).2:=by
 unfold V6
 repeat' split
 all_goals first
  | exact h
  | exact⟨h.1,h.2⟩
  | exact⟨Ln _,Ln _⟩
  | exact⟨(by decide:1<=100000),Ln _⟩
  | exact⟨Ln _,(by decide:1<=100000)⟩
  | (unfold yF;repeat' split) <;> first
   | exact⟨by show(List.set _ _ _).length<=_;rw[L7];exact h.1,h.2⟩
   | exact⟨h.1,h.2⟩
theorem Qju (G:Zl c=0)(wh a b:Nat):zD (dMk c wh a b).2:=by
 unfold dMk;split
 ·rename_i h;refine Qmm ?_ _ _;have E:a % (ZT c).2.length<(ZT c).2.length:=NM _ (List.length_pos_iff.2 h.2);rw[show(ZT c).2.getD (a % (ZT c).2.length) Qgw=(ZT c).2[a % (ZT c).2.length]'E from by simp[oQ,E]];exact Qba (Vq G) h.1 _ (Ll E)
 exact⟨Ln _,Ln _⟩
abbrev z6:LV:=[Zs,Zs,Zs,Zs,Zs,Zs]
section
variable {LL:LN}{w8:O1}{z:BlS}
end
theorem Vi {γ:Type}{f:α->γ}{g:β->γ}{l:List α}{l':List β}(h:l.map f=l'.map g){k:Nat}(E:k<l.length)(G:k<l'.length):f (l[k]'E)=g (l'[k]'G):=by
 have H:(l.map f)[k]'(oz E)=f (l[k]'E):=Mq ..;have I:(l'.map g)[k]'(oz G)=g (l'[k]'G):=Mq ..;rw[<-H,<-I];simp only[h]
theorem QfN {k:Nat}{L2:LN}{s:Ki}{xs:List YT}(h:VH L w s)(H:YF k s.sys)(O:k<=1000)(S:∀b∈L,b<w.heap.size)(hx:jl L2 w.heap vl xs)(T:∀e∈xs.map YT.e,zD e.2)(V:Kb w 4096):
  Q6 prog 13 [pS s.b,vl] w λ_ w'=>∃E:Ki,E.b=s.b/\YF (k+1) E.sys/\O5 s.own w w'/\VH (E.own++L) w' E/\∀b∈E.own,b∈s.own\/w.heap.size<=b :=
 (zR h H O S hx T V).mono λ_ w' ⟨qr,_,_,Y,e4⟩=>by
  by_cases I:yW s.sys (xs.map YT.e)=0
  ·obtain⟨_,E,f2,f3,f4,f5,f6,f7⟩:=e4 I;exact⟨E,f2,f4,f5,f6,f7⟩
  have J:=(Y I).1;exact⟨s,U,H.mono (NQ _),J.any,(h.I J).up (λb G=>(Lc.1 G).elim (λG=>.inl (h.sub b G)) .inl) (λb G=>Lc.2 (.inl G)),λb G=>.inl G⟩
instance ayHo:Ay prog 77 2 68 3:=⟨od,od⟩
theorem QkU (s:Sys)(es:List (Bool×Yc)):(unS (edS s es)).c=s.c/\(unS (edS s es)).ps=s.ps/\(unS (edS s es)).un=s.un:=by
 have h:(edS s es).un=s.un++[(s.c,s.ps)]:=rfl;refine⟨?_,?_,?_⟩
 ·show((edS s es).un.getLastD _).1=s.c;rw[h,List.getLastD_concat]
 ·show((edS s es).un.getLastD _).2=s.ps;rw[h,List.getLastD_concat]
 show(edS s es).un.dropLast=s.un;rw[h,List.dropLast_concat]
theorem Qgv {s t:Sys}(es:List (Bool×Yc))(E:s.c=t.c)(G:s.ps=t.ps)(H:s.un=t.un):yW s es=yW t es/\(edS s es).ps=(edS t es).ps:=by
 constructor
 ·unfold yW;rw[E,G,H]
 show qz _ _ _=qz _ _ _;rw[E,G,H]
theorem UH {s:Ki}{es:List ze}(h:es.map ze.en=s.s.ps.map (λq=>q.pt.en)):es.map ze.en=s.sys.ps.map xK.en:=by
 rw[h];show _=(s.s.ps.map (·.pt)).map xK.en;rw[Mu];rfl
theorem QaT {l:PwV}{a0 a1 a2 c0 c1 c2:Nat}(pg:a0<256)(ph:a1<256)(pj:a2<256)(pm:c0<256)(pn:c1<256)(po:c2<256)(hl:PwA w l)(ht:Kb w 4096):
  Q6 prog 4 [.agg (X5 l).toArray,.agg #[.int .u8 (a0:Int),.int .u8 (a1:Int),.int .u8 (a2:Int),.int .u8 (c0:Int),.int .u8 (c1:Int),.int .u8 (c2:Int)]] w λr w'=>r=.bool true/\O5 [] w w':=by
 refine Zq func4 ?_;refine Qc<|Qe<|QS (us:=X5 l) U λb1 w0 pp hb1 pu=>Qe<|QS (us:=[.int .u8 (a0:Int),.int .u8 (a1:Int),.int .u8 (a2:Int),.int .u8 (c0:Int),.int .u8 (c1:Int),.int .u8 (c2:Int)]) U λbm w1 g3 hbm g4=>Qb ?_;have gg:=pp.D g3;have g5:=pu.I g3;have g6:(X5 l).length=152:=QnR (l:=l.pl []) hl.n;refine Qd<|Q3 (α:=Unit) [(25,31)] (λz=>[(31,.bool (!decide (l.n<=4)))]) (λz w'=>O5 [] w1 w') ol ?_ ?_
 ·refine Qw<|QM<|(yS (ht.I gg)).mono ?_;rintro r2 w2 ⟨rfl,hg⟩;refine x (Zx U)<|Qa<|Q5 (g5.I hg) U g6<|QM<|(Qkh (l:=l) ⟨hl.n,hl.b,hl.f0,hl.f1,hl.f2,hl.bd,λhn=>by
   obtain⟨rs,G,h2⟩:=hl.r hn;exact⟨rs,G,(h2.I gg).I hg⟩⟩).mono ?_
  rintro r3 w3 ⟨rfl,hk⟩;refine x (Zx U)<|QH U<|xe ?_;exact⟨(),La,hg.D hk⟩
 rintro⟨⟩ g w2 hg;have hH:=gg.D hg;refine QX rfl (λg9=>?_) (λg9=>?_)
 ·refine Qc<|QM<|(yS (ht.I hH)).mono ?_;rintro r3 w3 ⟨rfl,hk⟩;refine Qb<|Qk ⟨[.bool true],La,U,hH.D hk⟩
 have pw:l.n<=4:=by simpa using g9
 refine Qh<|Exists.elim (hl.pl hH pw) λrs pz=>?_;refine Qc<|Q5 (g5.I hg) U g6<|QM<|(Qf9 pz.1).mono ?_;rintro r3 w3 ⟨hk,_,⟨c,rfl,rfl,hC⟩,hD⟩;have ka:=hC [] oe;have gh:=hD.ck;refine Qe<|Qo (us:=Z6) U λb3 w4 p0 p1 p2=>Qe<|Qj (us:=c.cells) p2 U U U U ka.ones λw5 p3 kb=>xe ?_;have hI:O5 [] w3 w5:=p0.O p3 p1;have gi:=(hH.D hk).D hI;have kc:=ka.I hI;have hz:=Vq gh;refine Qc<|Q5 kb U U<|QM<|(Qkn kc hz (ht.I gi)).mono ?_;rintro r6 w6 ⟨h0,vp,rfl,p4,p5⟩;refine Qa<|Q7 U U<|Q7 U U<|x Ql<|Qb ?_;have ke:=gi.D h0;by_cases hv:yf c.V=0
 rotate_left
 ·have p6:=p4 hv;subst p6;refine Qd<|Q3 (α:=Unit) [(40,45)] (λ_=>[(45,.bool true)]) (λ_ w'=>w'=w6) ol ?_ ?_
  ·refine Qw<|Qa<|xb (YP U U) (λhh=>?_) (λhh=>OW hv hh);refine Qa<|Qr<|Qr<|QH U<|xe ?_;exact⟨(),La,U⟩
  rintro _ g7 w7 rfl;refine QX U (λ_=>?_) (λp7=>by cases p7);refine Q3 (α:=Unit) [(4,4),(46,51)] (λ_=>[(4,.bool true)]) (λ_ w'=>w'=w7) ol ?_ ?_
  ·refine Qw<|Qa<|xb (YP U U) (λhh=>?_) (λhh=>OW hv hh);refine Qa<|Qa<|x (X4 underlying46 U U)<|QH U<|Qb<|⟨(),La,U⟩
  rintro _ g8 w8 rfl;exact Qk ⟨[.bool true],La,U,ke⟩
 refine Exists.elim (p5 hv) λs hs=>?_;have evp:=hs.1;have esy:=hs.2.1;have kf:=hs.2.2.1;have hSy:=hs.2.2.2;have p8:YF 1 s.sys:=by rw[esy];exact YF.new hv
 refine Qd<|Q3 (α:=Unit) [(40,45)] (λ_=>[(45,.bool false)]) (λ_ w'=>w'=w6) ol ?_ ?_
 ·refine Qw<|Qa<|xb (YP U U) (λhh=>OW hv hh) (λhh=>?_);refine Qa<|Qa<|x (X4 underlying46 (show Go.Lg.ev _ _=.pointer (some ⟨s.b,0,none⟩) from evp) U)<|QH U<|xe ?_;exact⟨(),La,U⟩
 rintro _ g7 w7 rfl;refine ZL rfl<|Qh ?_;have p9:0<c.co.length:=by
  have G:=hD.c0;have h2:c.V.co.length=c.co.length:=Lh _;omega
 have kg:=(((g4.I hg).I hk).I hI).I h0;refine Qm<|Q5 (kb.I h0) U U<|x (ZZ (i:=0) U U og)<|x (Zj (us:=[.int .u8 (a0:Int),.int .u8 (a1:Int),.int .u8 (a2:Int)]) kg U U U)<|QM<|(jQ (N:=[]) oe (kc.I h0) hz p9 (Qjw gh) pg ph pj).mono ?_;rintro r13 w8 ⟨qc,e1,rfl,qf,ql⟩;refine Qe<|QC (us:=[ZO e1]) U U og (by exact(by decide:1*10<=1000000)) oA λb57 w9 kh hb57 qo=>?_;have hJ:=qc.D kh;have ki:=hSy.I hJ;have kj:∀b∈s.own++oT w5.heap.size,b<w9.heap.size:=λb E=>by
  have hz6:=h0.size;have hz79:=hJ.size;rcases Lc.1 E with E|E
  ·exact ki.lt b E
  have:=Nc.1 E;omega
 have kk:∀b∈s.own,w.heap.size<=b:=λb E=>LJ gi.size (kf b E);have gj:=ke.D hJ;have hR1:=QfN ki p8 og kj (Qjn qo (ql.I kh)) (by
  intro e he;rw[Lb.1 he,qf];exact Qju gh _ _ _) (ht.I gj)
 rw[<-evp]at hR1;refine QM<|hR1.mono ?_;intro r15 kn q0;refine Exists.elim q0 λH h5=>?_;have e1b:=h5.1;have hK:=h5.2.1;have gk:=h5.2.2.1;have gl:=h5.2.2.2.1;have q1:=h5.2.2.2.2;have q2:O5 [] w kn:=JA gj kk gk;have q3:=Vq hK.st.ck;have ko:=hK.len;have hCl1:=QhH gl q3;rw[e1b,<-evp]at hCl1;refine xe<|Qm<|QM<|hCl1.mono ?_;rintro r16 q4 ⟨q5,cm,rfl,ecm,j1⟩;have kq:=j1 [] oe;refine Qa<|Q7 U U<|Q7 U U<|Qe<|Qo (us:=Z6) U λb8 w12 j2 j3 za=>Qe<|Qj (us:=cm.cells) za U U U U kq.ones λkr zb kt=>Qb ?_;have ku:O5 [] q4 kr:=j2.O zb j3;have gm:=q5.D ku;have kv:=kq.I ku;have hL:Zl cm.V=0:=by rw[ecm];exact hK.st.ck
 have zv:0<cm.co.length:=by
  have G:=(Z5 hL).c0;have h2:cm.V.co.length=cm.co.length:=Lh _;omega
 refine Qd<|Q3 (α:=Unit) [(64,71)] (λ_=>[(71,.bool false)]) (λ_ w'=>w'=kr) ol ?_ ?_
 ·refine Qw<|Qa<|xb (YP U U) (λkw=>OW U kw) (λkw=>?_);refine Qa<|Qs U kt U U<|QK kv.co.arr U<|xb (Q0 U U) (λkx=>OW kx oa) (λkx=>?_);refine QH U<|xe ?_;exact⟨(),La,U⟩
 rintro _ g14 z0 rfl;refine ZL rfl<|Qh ?_;have kz:=gl.I gm;have hEn1:=JZ kz ko.2.2;rw[e1b,<-evp]at hEn1;refine Qm<|QM<|hEn1.mono ?_;rintro r20 w15 ⟨hM,v1,ho,rfl,k0,z1⟩;refine Qa<|Q7 U U<|Q7 U U<|x Ql<|Qb ?_;have gn:=gm.D hM;have k5:=kz.I hM;have nm:bm∉s.own:=λV=>by have:=kf bm V;have:=g4.lt;have:=hg.size;have:=hk.size;have:=hI.size;omega
 have z2:=((kg.I hJ).J gk nm).I gn;refine Qc<|Q5 (kt.I hM) U U<|x (ZZ (i:=1) U U og)<|x (Zj (us:=[.int .u8 (c0:Int),.int .u8 (c1:Int),.int .u8 (c2:Int)]) z2 U U U)<|QM<|(jQ (N:=H.own) k5.lt (kv.I hM) (Vq hL) zv (Qjw hL) pm pn po).mono ?_;rintro r21 w16 ⟨k6,e2,rfl,z3,z4⟩;refine Qe<|QC (us:=[ZO e2]) U U og (by exact(by decide:1*10<=1000000)) oA λhN go k7 hb81 gp=>Qb ?_;have gq:=k6.D k7;have k8:=k5.I gq;have gr:=gn.D gq;have hO:=q2.D gr;have k9:=z4.I k7;have ma:∀b∈H.own++(s.own++oT w5.heap.size),b<go.heap.size:=λb E=>by
  have y1:=gk.size;have y2:=gr.size;rcases Lc.1 E with E|E
  ·exact k8.lt b E
  have:=kj b E;omega
 have mf:∀e∈[e2].map YT.e,zD e.2:=by
  intro e he;rw[Lb.1 he,z3];exact Qju hL _ _ _
 have hR2:=U1 k8 hK og ma (Qjn gp (k9.up oe)) mf (ht.I hO);rw[e1b,<-evp]at hR2;refine Qm<|Qa<|QM<|hR2.mono ?_;rintro r23 hP ⟨qr,rfl,z5,hbd2,hQ⟩;have hRp2:=z5 [] oe;refine Qa<|Q7 U U<|Q7 U U<|Qe<|Qo (us:=YX) U λb13 w19 hs19 hb13 hB13=>Qe<|Qj (us:=ZI qr) hB13 U U U U hRp2.ones λw20 hs20 hB1320=>Qb ?_;have h6:O5 [] hP w20:=hs19.O hs20 hb13;refine Qd<|Qm<|ZA U U<|xe<|QY rfl (λgs=>?_) (λgs=>?_)
 ·refine Qc<|Qb<|Qk ⟨[.bool true],La,U,(hO.D (hbd2 gs).1).D h6⟩
 have mg:yW H.sys ([e2].map YT.e)=0:=Lo.1 gs;refine Qh ?_;have hQ:=hQ mg;have hrp2:=hQ.1;refine Exists.elim hQ.2 λI hp=>?_;have e2b:=hp.1;have e2s:=hp.2.1;have gt:=hp.2.2.1;have hR:=hp.2.2.2.1;have mh:=hp.2.2.2.2.1;have gu:=hp.2.2.2.2.2.1;have hRq:=hp.2.2.2.2.2.2;have e2b':I.b=s.b:=e2b;have mj:∀b∈H.own,w.heap.size<=b:=λb E=>by
  rcases q1 b E with G|G
  ·exact kk b G
  exact LJ gj.size G
 have hs018:O5 [] w hP:=JA hO mj hR;have hs020:=hs018.D h6;have mo:=mh.I h6;have hEn2:=JZ mo gt.len.2.2;rw[e2b',<-evp]at hEn2;refine Qm<|QM<|hEn2.mono ?_;rintro r26 w21 ⟨hS,v2,hq,rfl,mq,hE2⟩;refine Qa<|Q7 U U<|Q7 U U<|x Ql<|Qb ?_;have hT:=h6.D hS;have hSy221:=mo.I hS;have hU:=zQ hSy221 gt;rw[e2b',<-evp]at hU;refine Qd<|Qm<|QM<|hU.mono ?_;rintro r27 hV ⟨_,hu⟩;have hune:I.sys.un≠[]:=by rw[e2s];show H.sys.un++[_]≠[];simp
 have hu:=hu hune;have hur:=hu.1;subst hur;refine Exists.elim hu.2 λs3 hw=>?_;have e3b:=hw.1;have e3s:=hw.2.1;have ms:=hw.2.2.1;have hr:=hw.2.2.2.1;have mt:=hw.2.2.2.2.1;have hW:=hw.2.2.2.2.2;have e3b':s3.b=s.b:=e3b;refine ZA rfl U<|xe<|QY rfl (λmu=>OW U mu) (λmu=>?_);refine Qh ?_;have mv:∀b∈I.own,w.heap.size<=b:=λb E=>by
  rcases gu b E with G|G
  ·exact mj b G
  exact LJ hO.size G
 have hs021:=hs020.D hS;have mw:O5 [] w hV:=JA hs021 mv hr;have hEn3:=JZ mt ms.len.2.2;rw[e3b',<-evp]at hEn3;refine Qm<|QM<|hEn3.mono ?_;rintro r28 w23 ⟨Y,v3,ha,rfl,ees3,hE3⟩;refine Qa<|Q7 U U<|Q7 U U<|x Ql<|Qb ?_;have hj:=QkU H.sys ([e2].map YT.e);rw[<-e2s,<-e3s]at hj;have my:=Qgv ([e2].map YT.e) hj.1 hj.2.1 hj.2.2;have hz1017:=gr.size;have hzst2:=hR.size;have hz1821:=hT.size;have hzst3:=hr.size;have gv:∀b∈H.own,b<kn.heap.size:=gl.lt;have gw:∀b∈I.own,b<hP.heap.size:=mh.lt;have n81a:hN∉H.own:=λV=>by have G:=gv hN V;have h2:=gn.size;have h3:=k6.size;omega
 have hl81:=gp.lt;have n81b:hN∉I.own:=λV=>by
  rcases gu hN V with G|G
  ·exact n81a G
  omega
 have hB8122:=((gp.J hR n81a).I hT).J hr n81b;have hLc1:∀b∈H.own,b∈H.own++I.own:=λb E=>Lc.2 (.inl E);have gx:∀b∈I.own,b∈H.own++I.own:=λb E=>Lc.2 (.inr E);have mz:∀b∈s3.own,b∈H.own++I.own:=λb E=>gx b (hW b E);have m5:∀b∈H.own++I.own,b∈H.own\/go.heap.size<=b:=λb E=>(Lc.1 E).elim .inl (gu b);have m6:O5 (H.own++I.own) go hV:=((hR.mono hLc1).D hT).Q (hr.mono gx);have hq222:=((k9.up m5).st m6).up (L':=[]) oe;have hSy323:=mt.I Y;have hR3:=U1 hSy323 ms og (λb E=>by
  have y1:=Y.size;rcases Lc.1 E with E|E
  ·have:=gw b E;omega
  have:=ma b E;omega) (Qjn (hB8122.I Y) (hq222.I Y)) mf (ht.I (mw.D Y))
 rw[my.1,mg,e3b',<-evp]at hR3;refine Qm<|Qa<|QM<|hR3.mono ?_;rintro r29 m7 ⟨qs,rfl,hN4,_,hX⟩;have m8:=hN4 [] oe;have hX:=hX U;have hrp4:=hX.1;refine Exists.elim hX.2 λs4 h7=>?_;have e4b:=h7.1;have e4s:=h7.2.1;have hok4:=h7.2.2.1;have h8:=h7.2.2.2.1;have hSy4:=h7.2.2.2.2.1;have e4b':s4.b=s.b:=e4b;refine Qa<|Q7 U U<|Q7 U U<|Qe<|Qo (us:=YX) U λb19 wa h9 hb19 hB19=>Qe<|Qj (us:=ZI qs) hB19 U U U U m8.ones λwb T hB19b=>Qb ?_;have m9:O5 [] m7 wb:=h9.O T hb19;have hown3w:∀b∈s3.own,w.heap.size<=b:=λb E=>mv b (hW b E);have hs024:O5 [] w m7:=JA (mw.D Y) hown3w h8;have hEn4:=JZ (hSy4.I m9) hok4.len.2.2;rw[e4b',<-evp]at hEn4;refine Qm<|QM<|hEn4.mono ?_;rintro r32 hA ⟨pa,v4,hf,rfl,ees4,hE4⟩;refine Qa<|Q7 U U<|Q7 U U<|x Ql<|Qb ?_;have hy:=m9.D pa;have hs025:=hs024.D hy;have pc:O5 (H.own++I.own) hV hA:=(Y.any.Q (h8.mono mz)).D hy;have m1:ho.map ze.en=H.sys.ps.map xK.en:=UH k0;have m2:hq.map ze.en=I.sys.ps.map xK.en:=UH mq;have m3:ha.map ze.en=H.sys.ps.map xK.en:=by rw[UH ees3,hj.2.1]
 have m4:hf.map ze.en=I.sys.ps.map xK.en:=by rw[UH ees4,e4s,my.2,<-e2s]
 have k1:ho.length<=1000:=by have G:=OV oP k0;rw[Lh,Lh]at G;have:=ko.2.2;omega
 have k2:hq.length<=1000:=by have G:=OV oP mq;rw[Lh,Lh]at G;have:=gt.len.2.2;omega
 have k3:ha.length=ho.length:=by have G:=OV oP (m3.D m1.symm);rwa [Lh,Lh]at G
 have k4:hf.length=hq.length:=by have G:=OV oP (m4.D m2.symm);rwa [Lh,Lh]at G
 have y10:=gm.size;have hlt14:∀b∈H.own,b<z0.heap.size:=λb E=>ou (gv b E)
 have F1:=(((((z1.lst (L:=H.own) oa hlt14).I gq).up m5).st m6).st pc).up (L':=[]) oe;have pd:∀b∈H.own++I.own,b<hP.heap.size:=λb E=>(Lc.1 E).elim (λG=>ou (gv b G)) (gw b);have y20:=h6.size;have hX2122:O5 (H.own++I.own) w21 hV:=hr.mono gx;have F2:=(((hE2.lst (L:=H.own++I.own) oa (λb E=>ou (pd b E))).st hX2122).st pc).up (L':=[]) oe;have hX2325:O5 (H.own++I.own) w23 hA:=(h8.mono mz).D hy;have F3:=((hE3.lst (L:=H.own++I.own) oa (λb E=>ou (pd b E))).st hX2325).up (L':=[]) oe;have F4:=hE4.lst (L:=[]) oa oe;have pf:b13∉I.own:=λV=>ou (gw b13 V)
 have n13':b13∉s3.own:=λV=>pf (hW b13 V);have hB1325:=((((hB1320.I hS).J hr pf).I Y).J h8 n13').I hy;have hR25:=((((hRq.I hT).st hr).I Y).st (h8.mono hW)).I hy;have hS25:=m8.I hy;have erp:qr.rp=qs.rp:=by rw[hrp2,hrp4,hj.1,hj.2.1,hj.2.2]
 refine Qd<|Q3 (α:=Unit) [(114,151)] (λ_=>[(151,.bool false)]) (λ_ w'=>O5 [] hA w') ol ?_ ?_
 ·refine Qw<|Qa<|xb (YP U U) (λh=>OW U h) (λ_=>?_);refine Qa<|Qa<|xb (YP U U) (λh=>OW U h) (λ_=>?_);refine QH U<|Qa<|Qa<|xb (YP U U) (λh=>OW U h) (λ_=>?_);refine QH U<|Qa<|Qa<|xb (YP U U) (λh=>OW U h) (λ_=>?_);refine QH U<|Qa<|Qa<|xb (YP U U) (λh=>OW U h) (λ_=>?_);refine QH U<|Qa<|Q5 hB1325 U U<|Q5 (hB19b.I pa) U U<|QM<|(y7 hR25 hS25 erp).mono ?_;rintro _ w26 ⟨rfl,hB⟩;refine xB (Zx U) (λh=>OW h oe) (λ_=>?_);refine QH U<|Qa<|Qa<|QK (F1.I hB).arr U<|Qa<|QK (F3.I hB).arr U<|xb (YP U U) (λh=>OW (by rw[k3]) h) (λ_=>?_);refine QH U<|Qa<|Qa<|QK (F2.I hB).arr U<|Qa<|QK (F4.I hB).arr U<|xb (YP U U) (λh=>OW (by rw[k4]) h) (λ_=>?_);refine QH U<|xe ?_;exact⟨(),La,hB⟩
 rintro _ g27 w27 hs27;refine ZL rfl<|Qh<|Qd<|Qc<|Qb<|Qf<|QD (α:=Nat) [(4,4),(23,23),(152,180)] (λz=>[(23,oF oG z)]) (λz w'=>z<=ha.length/\O5 [] hA w') (λz=>ha.length - z) ol 0 La ⟨Ln _,hs27⟩ ?_;rintro i g28 hY ⟨hi,hZ⟩;have F1b:=F1.I hZ;have F3b:=F3.I hZ;refine Qd<|Qm<|Qa<|QK F3b.arr U<|QZ U U<|xe<|QG rfl (λh155=>?_) (λgy=>?_)
 ·refine Qy<|Qd<|Qc<|Qb<|Qf<|QD (α:=Nat) [(4,4),(24,24),(181,209)] (λz=>[(24,oF oG z)]) (λz w'=>z<=hf.length/\O5 [] hA w') (λz=>hf.length - z) ol 0 La ⟨Ln _,hZ⟩ ?_;rintro i g29 ga ⟨hi,gc⟩;have F2b:=F2.I gc;have F4b:=F4.I gc;refine Qd<|Qm<|Qa<|QK F4b.arr U<|QZ U U<|xe<|QG U (λh184=>?_) (λgy=>?_)
  ·refine Qy<|Qc<|Qb<|Qk ⟨[.bool true],La,U,hs025.D gc⟩
  have J:i<hf.length:=by have h16:(i:Int)<(hf.length:Int):=gy;omega
  have O:i<hq.length:=oa
  refine Qh ?_;have hE:=Vi (m2.D m4.symm) O J;have gz:(hq[i]'O).vr=(hf[i]'J).vr:=OV Ent.vr hE;refine Qd<|Qf<|Q3 (α:=Unit) [(187,209)] (λ_=>[(209,.bool false)]) (λ_ w'=>O5 [] ga w') ol ?_ ?_
  ·have hd:O5 [] ga { ga with drawn:=ga.drawn+1 }:=O5.C _ _
   have g0:=(F2b.each _ (Ll O)).I hd;have g2:=(F4b.each _ (Ll J)).I hd;refine ZD [] (Xb 0 23 [8])<|p QE<|p QE<|Lg.pig (g:=ZF) (i:=i) U Vl F2b.arr U U O λa1 G=>pq (λ_ S=>Qx (us:=ZF (hq[i]'O)) (G.I S) U U) <|
    p QE<|p QE<|Lg.pig (g:=ZF) (i:=i) U Vl F4b.arr U U J λa2 h2=>pq (λ_ S=>Qx (us:=ZF (hf[i]'J)) (h2.I S) U U) <|
    pk<|xg<|(Uo g0 g2 hE).mono ?_
   rintro _ wa ⟨rfl,h9⟩;have T:=hd.D h9;refine⟨T,?_⟩;refine pB (λ_=>Zx U) (λhF=>OW hF oe) (λhF=>?_);refine p QE<|p QE<|p QE<|Lg.pig (g:=ZF) (i:=i) U Vl F2b.arr U U O λa3 h3=>p (λ_=>Zp U) <|
    pq (λ_ S=>QA ((h3.fld 2 (oF oG (hq[i]'O).vr) U).I S) U)<|p QE<|p QE<|Lg.pig (g:=ZF) (i:=i) U Vl F4b.arr U U J λa4 h4 =>
    p (λ_=>Zp U)<|pq (λ_ S=>QA ((h4.fld 2 (oF oG (hf[i]'J).vr) U).I S) U)<|pb (λ_=>YP U U) (λhG=>OW gz hG) (λhG=>?_)
   refine p (Xg U)<|pe ?_;exact⟨(),La,T⟩
  rintro _ gb wb T;refine ZL U<|Qh<|Qw<|Qa<|QP U U<|Qb<|⟨i+1,oa,La,J,gc.D T⟩
 have J:i<ha.length:=by have h16:(i:Int)<(ha.length:Int):=gy;omega
 have O:i<ho.length:=oa
 refine Qh ?_;have hE:=Vi (m1.D m3.symm) O J;have gz:(ho[i]'O).vr=(ha[i]'J).vr:=OV Ent.vr hE;refine Qd<|Qf<|Q3 (α:=Unit) [(158,180)] (λ_=>[(180,.bool false)]) (λ_ w'=>O5 [] hY w') ol ?_ ?_
 ·have hd:O5 [] hY { hY with drawn:=hY.drawn+1 }:=O5.C _ _
  have g0:=(F1b.each _ (Ll O)).I hd;have g2:=(F3b.each _ (Ll J)).I hd;refine ZD [] (Xb 0 23 [8])<|p QE<|p QE<|Lg.pig (g:=ZF) (i:=i) U Vl F1b.arr U U O λa1 G=>pq (λ_ S=>Qx (us:=ZF (ho[i]'O)) (G.I S) U U) <|
   p QE<|p QE<|Lg.pig (g:=ZF) (i:=i) U Vl F3b.arr U U J λa2 h2=>pq (λ_ S=>Qx (us:=ZF (ha[i]'J)) (h2.I S) U U) <|
   pk<|xg<|(Uo g0 g2 hE).mono ?_
  rintro _ wa ⟨rfl,h9⟩;have T:=hd.D h9;refine⟨T,?_⟩;refine pB (λ_=>Zx U) (λhF=>OW hF oe) (λhF=>?_);refine p QE<|p QE<|p QE<|Lg.pig (g:=ZF) (i:=i) U Vl F1b.arr U U O λa3 h3=>p (λ_=>Zp U) <|
   pq (λ_ S=>QA ((h3.fld 2 (oF oG (ho[i]'O).vr) U).I S) U)<|p QE<|p QE<|Lg.pig (g:=ZF) (i:=i) U Vl F3b.arr U U J λa4 h4 =>
   p (λ_=>Zp U)<|pq (λ_ S=>QA ((h4.fld 2 (oF oG (ha[i]'J).vr) U).I S) U)<|pb (λ_=>YP U U) (λhG=>OW gz hG) (λhG=>?_)
  refine p (Xg U)<|pe ?_;exact⟨(),La,T⟩
 rintro _ gb wb T;refine ZL rfl<|Qh<|Qw<|Qa<|QP U U<|Qb<|⟨i+1,oa,La,J,hZ.D T⟩
open Go.RowKit
theorem Xs {a b:Bool}(E:a=true)(G:b=true):(a && b)=true:=by rw[E,G];rfl
theorem QaY {f:FuncId}{s:ChangeSpec}{c:OpenClaim}(E:(c.wf (OpenSpec.ofChange s))=true)(G:(laidOutB P)=true)(H:(mapsRowed P)=true)(I:(fn.params.all (P.readableRec ·))=true)(J:(namedTie P c.named s.vars)=true)(O:((c.stops == []))=true)(S:((P.stops == []))=true)(T:((c.knobs == []))=true)(V:((P.stopKnobs == []))=true)(Y:((c.inPlace == P.inPlace f))=true)(ha:((c.unfollowed == P.unfollowed f))=true)(hb:((c.recurses == P.recurses f))=true)(hc:((c.named == P.varsNamed f))=true)(he:((c.maps == (fn.params.toList++s.plain.varTypes P).any (P.mapsRec ·)))=true)(hf:((c.ifaces == (fn.params.toList++s.plain.varTypes P).any (P.ifacesRec ·)))=true)(hg:((c.mapsOut == P.mapsAmong fn.resultTypes.toList))=true)(hh:((c.loops == (fn.params.toList++s.plain.varTypes P).any (P.loopsFrom ·)))=true)(hi:((c.wideKeys == (fn.params.toList++s.plain.varTypes P++fn.resultTypes.toList).any (P.wideKeysFrom ·)))=true)(hj:(s.vars.all (P.varReadable ·))=true)(hk:(fn.resultTypes.all (λt=>P.readableRec t && decide (t<P.types.size)))=true)(hl:((c.ifacesOut == fn.resultTypes.toList.any (P.ifacesRec ·)))=true)(hm:((c.loopsOut == fn.resultTypes.toList.any (P.loopsFrom ·)))=true)(hn:((c.plainKeys == P.plainKeys))=true)(ho:(c.shortTexts.isNone)=true)(hp:(P.stopsHeard)=true)(hq:(P.mayEnter)=true)(hr:((c.lifted == P.liftsFinal))=true)(hs:((P.make == some c.make))=true)(ht:((c.kinds == (if c.domain.isEmpty then[]else fn.params.toList.map λt=>match P.underlying t with|some (.int k)=>some k|_=>none)))=true)(hu:((c.pinned == c.pinnedBy))=true)(hv:((c.veiled == (fn.params.toList++s.plain.varTypes P++fn.resultTypes.toList).any (P.veiledRec ·)))=true)(hw:(c.veiledFits P fn.params.toList (fn.params.toList++s.plain.varTypes P++fn.resultTypes.toList))=true):joinedFacts P f fn s c=true:=by
 unfold joinedFacts;exact(Xs (Xs (Xs (Xs (Xs (Xs (Xs (Xs (Xs (Xs (Xs (Xs (Xs (Xs (Xs (Xs (Xs (Xs (Xs (Xs (Xs (Xs (Xs (Xs (Xs (Xs (Xs (Xs (Xs (Xs (Xs E G) H) I) J) O) S) T) V) Y) ha) hb) hc) he) hf) hg) hh) hi) hj) hk) hl) hm) hn) ho) hp) hq) hr) hs) ht) hu) hv) hw)
theorem yo:laidOutB prog=true:=od
theorem QiI:mapsRowed prog=true:=od
theorem QiK:prog.stopsHeard=true:=od
theorem QiL:prog.mayEnter=true:=od
theorem QiJ:(false == prog.liftsFinal)=true:=od
theorem QlK:(prog.make == some Make.cut)=true:=od
theorem QlO:(Rows.updateUndoesRow.inPlace == prog.inPlace 4)=true:=od
theorem QlN:(Rows.updateUndoesRow.unfollowed == prog.unfollowed 4)=true:=od
theorem QlM:(Rows.updateUndoesRow.recurses == prog.recurses 4)=true:=od
theorem QlL:(Rows.updateUndoesRow.named == prog.varsNamed 4)=true:=od
theorem Qoh:Rows.updateUndoesRow.wfByText (OpenSpec.ofChange Rows.updateUndoesSpec)=true:=od
theorem Qok:Tryz.pinned.checked.prog.mainIs=some (true, "2f54040c77bc06dd918a3bf4dde98a2bf5c7559f2e0a75d1941ed6a489a72ca6".toList):=od
theorem Qoj:prog.funcNamed "overseer/overseerlaw56.UpdateUndoes" = some 4:=od
theorem Qol:false=prog.looks []:=od
theorem Qoi:([36,77].all λu=>!prog.wantsStandIn u)=true:=od
theorem Qom:false=Rows.updateUndoesRow.goesBy Tryz.pinned.checked.prog:=od
open Go.ChangeShapes Go.WideShapes
theorem QnE:∀(ns:LN),ns.length=6->∃a b c d e f,ns=[a,b,c,d,e,f]
 | [a,b,c,d,e,f],_=>⟨a,b,c,d,e,f,U⟩
 | [],h|[_],h|[_,_],h|[_,_,_],h|[_,_,_,_],h|[_,_,_,_,_],h=>by simp at h
 | _::_::_::_::_::_::_::_,h=>by simp at h
theorem QgP {H:Type}{enc:TypeId×O2->H}{W:O1}{base O:Nat}{sp:Nat->Bool}{S:Bool}{v:O2}{d:DataW H}{ps:List MemPlace}{t e:TypeId}(T:P.underlying t=some (.array 2 e))(V:P.cellsOf t=6)(Y:kT P .u8 5 t=true)
  (G:Value.okWide P W .any base t v) (h:DataW.Trod enc P W O sp S t v d ps):∃I a1 a2 c0 c1 c2:Nat,v=.agg #[.int .u8 (I:Int),.int .u8 (a1:Int),.int .u8 (a2:Int),.int .u8 (c0:Int),.int .u8 (c1:Int),.int .u8 (c2:Int)]/\I<256/\a1<256/\a2<256/\c0<256/\c1<256/\c2<256:=by
 simp only[Value.okWide,T]at G;obtain⟨cs,rfl,J,_⟩:=G;rw[V]at J;obtain⟨l⟩:=cs;have hl:l.length=6:=J;obtain⟨fuel,hf⟩:=h;have ha:=Vg 5 Y hf;obtain⟨ns,e1,e2,E⟩:=Qbg l (λc hm=>Qc5 (ha c hm));obtain⟨a,b,c,d,e,f,rfl⟩:=QnE ns (by rw[e2];exact hl);refine⟨a,b,c,d,e,f,?_,E a oe,E b oe,E c oe,E d oe,E e oe,E f oe⟩;rw[e1];rfl
theorem Qqp {H:Type}{enc:TypeId×O2->H}{W:O1}{base:Nat}{sp:Nat->Bool}{I:Bool}{v:O2}{d:DataW H}{ps:List MemPlace}(J:Value.okWide prog W .any base 77 v)(h:DataW.Trod enc prog W G sp I 77 v d ps):
  ∃E a1 a2 c0 c1 c2:Nat,v=.agg #[.int .u8 (E:Int),.int .u8 (a1:Int),.int .u8 (a2:Int),.int .u8 (c0:Int),.int .u8 (c1:Int),.int .u8 (c2:Int)]/\E<256/\a1<256/\a2<256/\c0<256/\c1<256/\c2<256 :=
 QgP underlying77 od od J h
end Go.Lg
