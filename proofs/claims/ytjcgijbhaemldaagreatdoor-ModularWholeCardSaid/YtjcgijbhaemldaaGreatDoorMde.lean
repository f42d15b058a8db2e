/- Merged out of 63 texts. -/
import Derived.Test.YtjcgijbhaemldaaGreatDoorMdd
import Derived.Shelf.SortM.Plain
import Derived.Shelf.SortM.SortNone
import Derived.Shelf.SlicesE.Compact
import Derived.Shelf.SlicesE.DeleteFunc
import Derived.Ground.SlgmProg
import Derived.Ground.SlgnProg
import Derived.Ground.SlgfProg
import Derived.ChangeSame
import Derived.Carry
import Derived.OpenShut
import Derived.RowKit
import Derived.ChangeSlices
import Derived.WideShapes
import Derived.ProofKit
import Derived.ChangeArms
import Derived.Lib.LaidTab
import Derived.Stop.LaidErr
import Derived.MakeChecks
namespace Go.Proofs.YtjcgijbhaemldaaGreatDoor
open Go.Proofs.Tryz
open Go.Lg
theorem Qn1 {a:QD}{ul:LI}{lf:Lf}{n:Nat}(E:QO a)(G:a.st=(n:Int))(hl:lf.length=n):∀x∈nxs a ul lf,0≤x∧x<(n:Int):=λx hx=>by
 have h1:=Qib x hx;have h2:x.toNat<n:=by
  refine Decidable.byContradiction λh=>?_;unfold lft at h1;simp[List.getD,List.getElem?_eq_none (show lf.length≤x.toNat by omega)]at h1
 unfold nxs at hx;split at hx
 ·obtain⟨p,hp,rfl⟩:=Lq.1 hx;obtain⟨_,e,he,h3,_⟩:=(QaG a ul lf).1 p hp;have:=E.ed e he;omega
 have:=((Uu lf (dsts a lf) 0).1 x hx).2;omega
theorem Qm5 {rk rs:Int}:∀(l:List (Int×Int)),(∀x∈l.map (·.1),0≤x∧x<4096)→∃lz:List Rz,lz.flatMap q5=l.flatMap (rmC rk rs)∧lz.length=l.length
 | [],_=>⟨[],O,O⟩
 | x::l,h=>by
  obtain⟨lz,h1,h2⟩:=Qm5 l (λy hy=>h y (Lk _ hy));exact⟨⟨(x.1,rk,rs,x.2),h x.1 Lm⟩::lz,by rw[LW,LW,h1],by simp[h2]⟩
theorem QeW:∀l:List Rz,∀u∈l.flatMap q5,u.oneCell'=true
 | [],u,h=>by cases h
 | x::l,u,h=>by
  rw[LW,Lo]at h;rcases h with h|h
  ·simp only[q5,List.mem_cons,List.not_mem_nil,or_false]at h;rcases h with rfl|rfl|rfl|rfl <;> rfl
  exact QeW l u h
theorem RzO.snoc {base:Nat}{w:World}{v:Value}{l m:List Rz}(h:w.ownsRow base 269 4 v (l.length+m.length) (l.flatMap q5++m.flatMap q5)):RzO base w v (l++m):=by
 unfold RzO;rw[Lj,LG];exact h
abbrev XR (k d r:Value)(n:Int):LV:=[k,d,r,.int .i64 n,nS,.int .i64 0,nS,nS,nS]
structure ReI (b10:Nat)(q:Pz)(wB:World)(lf:Lf)(rn:Int)(vr:Value)(lz:List Rz)(w:World):Prop where
 st:Step [b10,q.bl] wB w
 B10:QT w.heap b10 120 (XR (nS) (nS) vr rn)
 R:RzO wB.heap.size w vr lz
 F:QT w.heap q.bl 4 (lf.map Value.bool)
 n:lf.length=q.n
section
variable {b10:Nat}{q:Pz}{wB w w' w'':World}{lf:Lf}{rn:Int}{vr:Value}{lz:List Rz}
theorem ReI.ext (h:ReI b10 q wB lf rn vr lz w)(hs:Step [] w w'):ReI b10 q wB lf rn vr lz w':=⟨h.st.trans hs,h.B10.ext hs,Qs h.R hs,h.F.ext hs,h.n⟩
theorem ReI.cut (h:ReI b10 q wB lf rn vr lz w)(l:q.bl<wB.heap.size)(ne:b10≠q.bl)(hs:Step [q.bl] w w'){E:Lf}(G:QT w'.heap q.bl 4 (E.map Value.bool))(H:E.length=q.n):ReI b10 q wB E rn vr lz w' :=
 ⟨h.st.then hs (λb hb=>.inl (by simp only[List.mem_singleton]at hb;simp[hb])),h.B10.step hs (by simpa using ne),Qm h.R hs (λb hb=>by have:=(Qq h.R b hb).1;simp only[List.mem_singleton];omega),G,H⟩
theorem ReI.app (h:ReI b10 q wB lf rn vr lz w)(l:q.bl<wB.heap.size)(U:b10<wB.heap.size)(ne:b10≠q.bl){E:Value}{H:List Rz}{I:Int}(hs:Step (ob vr) w w')(hR:RzO wB.heap.size w' E H)(G:Step [b10] w' w'')
  (J:QT w''.heap b10 120 (XR (nS) (nS) E I)):ReI b10 q wB lf I E H w'':=by
 have hge:=Qq h.R;exact⟨(h.st.then hs (λb hb=>.inr (hge b hb).1)).then G (λb hb=>.inl (by simp only[List.mem_singleton]at hb;simp[hb])),J,Qm hR G (λb hb=>by have:=(Qq hR b hb).1;simp only[List.mem_singleton];omega),
  (h.F.step hs (λhb=>by have:=(hge _ hb).1;omega)).step G (by simpa using ne.symm),h.n⟩
theorem ReI.rounds (h:ReI b10 q wB lf rn vr lz w)(I:b10<wB.heap.size)(ne:b10≠q.bl){G:Int}(E:Step [b10] w w')(H:QT w'.heap b10 120 (XR (nS) (nS) vr G)):ReI b10 q wB lf G vr lz w' :=
 ⟨h.st.then E (λb hb=>.inl (by simp only[List.mem_singleton]at hb;simp[hb])),H,Qm h.R E (λb hb=>by have:=(Qq h.R b hb).1;simp only[List.mem_singleton];omega),h.F.step E (by simpa using ne.symm),h.n⟩
end
set_option maxHeartbeats 8000000 in
theorem jg {w:World}{va vm ve vf vu:Value}{a:QD}{forb unc:LI}(h:Zm [] w.heap va vm ve a)(hw:QO a)(hf:QJ [] w.heap vf forb)(gx:∀x∈forb,0≤x∧x<a.st)(zb:forb.length≤4096)(hu:QJ [] w.heap vu unc):
  QH prog 91 [.agg #[va,.int .i64 a.st,vm,ve],vf,vu,.bool true] w λr w'=>Step [] w w'∧∃c0 c1 c2 c3 sa sm se o,r=.agg #[c0,c1,c2,c3,sa,.int .i64 (Jp a forb unc).st,sm,se,o] ∧
   ZM [c0,c1,c2,c3,o]∧∀L:LN,(∀b∈L,b<w.heap.size)→Zm L w'.heap sa sm se (Jp a forb unc):=by
 have zv:=hw.st0;have z0:=hw.st1;obtain⟨n,hn⟩:∃n:Nat,a.st=n:=⟨a.st.toNat,by omega⟩;have k0:a.st.toNat=n:=by omega
 have hC:Jp a forb unc=JU a (Kx a unc (n+1) (lf0 n forb)):=by unfold Jp Xj;rw[k0]
 refine Zj (Jp a forb unc) λSA k4=>?_;rw[k4]at hC ⊢;refine QH.of_W func91 O ntmps91 results91 (by simp) ?_;refine Qc<|xl O<|QR (us:=[va,.int .i64 a.st,vm,ve]) O λb4 w1 gy z1 k5=>xl O<|Qu (us:=XR (nS) (nS) (nS) 0) O λb8 w2 gz z2 g0=>xe ?_;have hE:=gy.trans gz;have z3:=g0.lt;have z4:=gy.size
 refine Qc<|x (Qo (k5.ext gz) O O)<|Qb<|Qb<|xl O<|xf<|(Qhm (h.ext hE) hw hn (hf.ext hE) gx (hu.ext hE)).mono ?_;rintro r3 w3 ⟨g1,bp,q,rfl,k6,k7,k8,z5,hP,hF⟩;refine Qf ?_;subst k6 k7 k8;have hq:PzQ q:=⟨hw,hn⟩;have k9:=hE.trans g1;have z9:=hF.lt;refine Qc<|xl O<|Qu (us:=XR (nS) (nS) (nS) 0) O λb10 I hz ma g2=>xe ?_;have hV:=k9.trans hz;have hz4:=hz.size
 have hG:=g2.lt;have hg:b10≠q.bl:=by omega
 have hW:q.bl<I.heap.size:=by omega
 have mc:PzA [b10,q.bl] I.heap bp q:=(hP.up (λb hb=>by
  simp only[List.mem_cons,List.not_mem_nil,or_false]at hb;rcases hb with rfl|rfl
  ·exact .inr ma
  exact .inl (by simp))).ext hz
 have mf:=QlG q.n forb;have h3:∀{w'},Step [b10,q.bl] I w'→PzA [] w'.heap bp q:=λhs=>(mc.st hs).up (by simp);refine Qg<|Qc<|Qb<|x (Qr (hf.ext hV) O)<|Qb<|xe ?_
 refine Qh<|Qz (α:=Nat×Int×Value×List Rz) [(12,12),(25,39)] (λz=>[(25,.int .i64 z.1)]) (λz w'=>z.1≤forb.length∧ReI b10 q I (lf0 q.n forb) z.2.1 z.2.2.1 z.2.2.2 w'∧z.2.2.2.length=z.1∧(z.2.1=0∨z.2.1=1)) (λz=>forb.length - z.1) (by rfl) (0,0,nS,[]) La
  ⟨Ll _,⟨Step.refl _ _,g2,QN _ _ _ _,hF.ext hz,mf⟩,O,.inl O⟩ ?_
 rintro⟨k,rn,vr,lz⟩ g w5 ⟨hk,G,hX,hH⟩;simp only[]at hk G hX hH;have mg:QJ [] w5.heap vf forb:=((hf.up (L':=[b10,q.bl]) (λb hb=>by
  simp only[List.mem_cons,List.not_mem_nil,or_false]at hb;exact .inr (by omega))).ext hV |>.st G.st).up (by simp)
 refine Qc<|x (QA O O)<|xe<|Qg<|QC O (λg3=>?_) (λg3=>?_)
 ·refine Qy ?_;have hcl:=Qa3 (lf0 q.n forb);refine Qg<|Qc<|Qf<|Qh<|Qz (α:=Nat×Nat×Int×Value×List Rz×Lf) [(13,14),(16,16),(40,71)] (λz=>[(13,.int .i64 z.2.1)])
   (λz w'=>ReI b10 q I z.2.2.2.2.2 z.2.2.1 z.2.2.2.1 z.2.2.2.2.1 w'∧z.2.1+z.1=q.n+3∧z.2.2.2.2.1.length≤4096+z.2.1*1000000∧Kx q.a q.unc z.1 z.2.2.2.2.2=Kx q.a q.unc (q.n+1) (lf0 q.n forb)∧KX z.2.2.2.2.2+1≤z.1) (λz=>z.1) (by rfl)
   (q.n+1,2,rn,vr,lz,lf0 q.n forb) La ⟨G,by simp only[];omega,by simp only[];omega,O,by simp only[];omega⟩ ?_
  rintro⟨f,rank,rn,vr,lz,lf⟩ g w6 ⟨G,mh,hX,h4,mj⟩;simp only[]at G mh hX h4 mj;refine Qg<|Qh<|Qc<|Qb<|Qb<|Qb<|xl O<|xf<|(Qh3 (h3 G.st) hq G.F G.n rank).mono ?_;rintro r7 w7 ⟨hJ,rs,l,hY,hM,hll7⟩;refine Qf ?_;have J:=G.ext hJ;have g4:Zy [] w7.heap r7 l.length 4 (l.flatMap (rmC rank rs)):=QV hY (by omega) (by simp)
  have g5:(nxs q.a q.unc lf).length=l.length:=by rw[←hM,Lh]
  have hZ:=Qn1 (ul:=q.unc) hw hn G.n;rw[←hM]at hZ;refine Qg<|Qc<|Qb<|x (Qr g4 O)<|x (Zr O O)<|xe<|Q3 O (λga=>?_) (λga=>?_)
  ·refine Qy ?_;have hN:l.length=0:=by have h49:(l.length:Int)=0:=ga;omega
   rw[Qgc (by rw[g5];exact hN)]at h4;rw[←h4]at hC;refine Qc<|x (Qa O)<|x (Qa O)<|x (Qd J.B10 O O)<|xl O<|xf<|(Qf7 J.R (by omega)).mono ?_;rintro r8 U ⟨V,lz8,_,mo⟩;refine xe ?_;have hge:=Qq J.R;have gb:Step [b10,q.bl] I U:=J.st.then V (λb hb=>.inr (hge b hb).1);have gc:QT U.heap b10 120 (XR (nS) (nS) vr rn):=J.B10.step V (λhb=>by have:=(hge _ hb).1;omega)
   have g6:QT U.heap q.bl 4 (lf.map Value.bool):=J.F.step V (λhb=>by have:=(hge _ hb).1;omega);have g7:=QQ mo;have hz8:=gb.size;refine Qg<|Qc<|Qb<|xl O<|xf<|(Uo (h3 gb) hq g6 J.n).mono ?_;rintro r9 E ⟨Y,bD,rfl,hbD,g8,hO⟩;refine Zj (dsts q.a lf) λD hD=>?_;rw[hD]at g8 hO;have g9:QJ [b10] E.heap (.slice (some ⟨bD,0,none⟩) q.n q.n) D:=by
    have h1:=g8.arr (L:=[b10]) (by simp only[List.mem_singleton];omega) (n:=q.n) (cap:=q.n) (sz:=1) (by simp[hO]) (by omega) (Lu _);unfold QJ;rw[hO];exact h1
   have mq:=gb.trans Y;have hz9:=Y.size;have ms:=g6.ext Y;refine x (Qr g9 O)<|Qb<|xe<|Qh<|Qz (α:=Nat×Value×Value×LI×LI) [(17,18),(79,107)] (λz=>[(79,.int .i64 z.1)])
    (λz w'=>z.1≤D.length∧Step [b10] E w'∧QT w'.heap b10 120 (XR z.2.1 z.2.2.1 vr rn)∧Qt 3 E.heap.size w' z.2.1 z.2.2.2.1∧Qt 3 E.heap.size w' z.2.2.1 z.2.2.2.2∧Dj z.2.1 z.2.2.1∧z.2.2.2.1.length≤z.1∧z.2.2.2.2.length≤z.1) (λz=>D.length - z.1) (by rfl) (0,nS,nS,[],[]) La
    ⟨Ll _,Step.refl _ _,gc.ext Y,QN _ _ _ _,QN _ _ _ _,Dj.nil' _,Lu _,Lu _⟩ ?_
   rintro⟨i,vk,vd,lk,ld⟩ g h5 ⟨hi,ha,h6,hK,hh,hQ,mt,mu⟩;simp only[]at hi h6 hK hh hQ mt mu;have hz10:=ha.size;have hR:Step [b10,q.bl] I h5:=mq.then ha (λb hb=>.inl (by simp only[List.mem_singleton]at hb;simp[hb]));have ka:QT h5.heap q.bl 4 (lf.map Value.bool):=ms.step ha (by simpa using hg.symm);refine Qc<|x (QA O O)<|xe ?_
   refine Qg<|QC O (λkb=>?_) (λkb=>?_)
   ·refine Qy<|Qc<|Qb<|xl O<|xf<|(zi (h3 hR) hq ka J.n).mono ?_;rintro r11 mv ⟨hp,_,o,rfl,⟨sa,sm,se,rfl,ge⟩,gg⟩;rw[←hC]at ge;have hr:=ge [] (by simp);refine Qb<|x (Qj O O)<|x (Qj O O)<|x (Qa O)<|xl O<|Ve (us:=[sa,.int .i64 SA.st,sm,se]) (h6.ext hp) O (by rw[←hC];rfl) O (by simp) ⟨hr.al.one,rfl,hr.mr.one,hr.ed.one,Z⟩ rfl λw12 gh mw =>
     x (Qa rfl)<|xl O<|QF (j:=8) (u:=o) mw O O (by simp) gg λw13 gi my=>xe ?_
    have mz:b8∉[b10,q.bl]:=by simp only[List.mem_cons,List.not_mem_nil,or_false];omega
    have kc:b8∉[b10]:=by simp only[List.mem_singleton];omega
    have m0:=(((((g0.ext (g1.trans hz)).step hR mz).ext hp).step gh kc).step gi kc);refine Qc<|x (Qo my O O)<|xl O<|Qn (us:=[vk,vd,vr,.int .i64 rn,sa,.int .i64 SA.st,sm,se,o]) m0 O O O O ⟨QQ hK,QQ hh,g7,O,hr.al.one,O,hr.mr.one,hr.ed.one,gg,Z⟩ λm1 ke m2=>xe ?_
    have m3:∀b∈[b10,q.bl],w.heap.size≤b:=λb hb=>by simp only[List.mem_cons,List.not_mem_nil,or_false]at hb;omega
    have m4:Step [] w m1:=((((hV.then hR (λb hb=>.inr (m3 b hb))).trans hp).then1 gh (by omega)).then1 gi (by omega)).then1 ke (by omega);refine Ql ⟨[.agg [vk,vd,vr,.int .i64 rn,sa,.int .i64 SA.st,sm,se,o].toArray],⟨⟨_,O,Qx O (m2.at (L:=[]) (by simp)).cells⟩,Z⟩,m4,vk,vd,vr,.int .i64 rn,sa,sm,se,o,rfl,⟨QQ hK,QQ hh,g7,rfl,gg,Z⟩,λL hL=>?_⟩
    have h1:=ge (b10::b8::L) (λb hb=>by
     simp only[List.mem_cons]at hb;rcases hb with rfl|rfl|hb
     ·omega
     ·omega
     have:=hL b hb;omega)
    have h2:=((h1.st (gh.mono (by simp))).st (gi.mono (by simp))).st (ke.mono (by simp));exact h2.up (λb hb=>.inl (by simp[hb]))
   refine Qi ?_;have h7:i<D.length:=by have h81:(i:Int)<(D.length:Int):=kb;omega
   have gj:i<lf.length:=by rw[J.n,←hO];exact h7
   have m5:lf[i]'gj=lf.getD i false:=by simp[List.getD,gj]
   refine Qg<|Qh<|Qc<|Qb<|xii (i:=i) (g9.st ha) O O h7 λa82 kf=>?_;refine Zj (D[i]'h7) λd hd=>?_;rw[hd]at kf;refine x (Qv kf O)<|x Qe<|Qf<|Qc<|Qb<|x (QE O)<|x (Qa O)<|x (Qd (h3 hR).B O O)<|Qb<|x (QS (i:=i) O O (by omega))<|x (v:=.bool (lf.getD i false)) ((JA (i:=i) ka O gj).trans (by rw[m5]))<|xe<|QZ O (λm6=>?_) (λm6=>?_)
   ·have h8:∀{v:Value} {l:LI} {w':World},Qt 3 E.heap.size w' v l→b10∉ob v:=λho hm=>by have:=(Qq ho b10 hm).1;omega
    refine Qc<|x (Qa O)<|x (Qa O)<|x (Qd h6 O O)<|Qb<|xl O<|QG (us:=[[.int .i64 i]]) O O (by decide) (by simp) ⟨rfl,rfl,Z⟩ λb95 y1 ht hb95 m7=>xl rfl<|Q4 (m:=1) (news:=[.int .i64 i]) (L:=[]) (Qs hK ht) rfl rfl rfl (m7.at (by simp)) (by simp[Value.oneCell']) (by omega) (by have:=ht.size;omega) λh9 y2 kg hS m8 =>
     x (Qa rfl)<|x (Qa O)<|xl O<|QF (j:=0) (u:=h9) ((h6.ext ht).step hS (h8 hK)) O O (by simp) (QQ kg) λy3 gk kh=>xe ?_
    have m9:Qt 3 E.heap.size y2 h9 (lk++[(i:Int)]):=Qt.snoc kg;have hzy1:=ht.size;have hzy2:=hS.size;have hzy3:=gk.size;have pa:Qt 3 E.heap.size y2 vd ld:=Qm (Qs hh ht) hS (λb hb hm=>hQ b hm hb);have ki:Dj h9 vd:=λb hb hm=>by
     rcases m8 b hb with h1|h1
     ·exact hQ b h1 hm
     have:=QY hh b hm;omega
    have kj:∀{v:Value} {l:LI},Qt 3 E.heap.size y2 v l→Qt 3 E.heap.size y3 v l:=λho=>Qm ho gk (λb hb hm=>by simp only[List.mem_singleton]at hm;subst hm;exact h8 ho hb);have kk:=kj m9;have gl:=kj pa;have pc:Step [b10] E y3:=(((ha.trans ht).then hS (λb hb=>.inr (Qq hK b hb).1))).trans' gk
    refine Qw<|x (Qa O)<|x (Qa O)<|x (Qd kh O O)<|Qb<|xl O<|QG (us:=[[.int .i64 d]]) O O (by decide) (by simp) ⟨rfl,rfl,Z⟩ λb103 y4 hv hb103 pd=>xl rfl<|Q4 (m:=1) (news:=[.int .i64 d]) (L:=[]) (Qs gl hv) rfl rfl rfl (pd.at (by simp)) (by simp[Value.oneCell']) (by omega) (by have:=hv.size;omega) λgm y5 kn gn pf =>
     x (Qa rfl)<|x (Qa O)<|xl O<|QF (j:=1) (u:=gm) ((kh.ext hv).step gn (h8 gl)) O O (by simp) (QQ kn) λy6 gq pg=>xe ?_
    have ko:Qt 3 E.heap.size y5 gm (ld++[d]):=Qt.snoc kn;have kp:Qt 3 E.heap.size y5 h9 (lk++[(i:Int)]):=Qm (Qs kk hv) gn (λb hb hm=>ki b hb hm);have hzy4:=hv.size;refine Qw<|QP O O<|Qb<|xe ?_
    refine⟨(i+1,h9,gm,_,_),by simp only[];omega,La,h7,(((pc.trans hv).then gn (λb hb=>.inr (Qq gl b hb).1))).trans' gq,pg,Qm kp gq (λb hb hm=>by simp only[List.mem_singleton]at hm;subst hm;exact h8 kp hb),Qm ko gq (λb hb hm=>by simp only[List.mem_singleton]at hm;subst hm;exact h8 ko hb),λb hb hm=>?_,by simp only[List.length_append,List.length_singleton];omega,by simp only[List.length_append,List.length_singleton];omega⟩
    rcases pf b hm with h1|h1
    ·exact ki b hb h1
    have:=QY kk b hb;omega
   refine Qi<|Qw<|QP O O<|Qb<|xe ?_;exact⟨(i+1,vk,vd,lk,ld),by simp only[];omega,La,h7,ha,h6,hK,hh,hQ,by simp only[];omega,by simp only[];omega⟩
  refine Qi ?_;have hN:¬l.length=0:=λe=>ga (by show(l.length:Int)=0;omega);have kq:(nxs q.a q.unc lf).length≠0:=by rw[g5];exact hN
  have ph:=zn kq;refine Exists.elim (MU (show f≠0 by omega)) λf' pj=>?_;subst pj;rw[UF kq,←hM]at h4;rw[←hM]at ph;refine Exists.elim (Qm5 (rk:=(rank:Int)) (rs:=rs) l (λx hx=>by have:=hZ x hx;omega)) λln hA=>?_;refine Qg<|Qc<|Qb<|x (Qr g4 O)<|Qb<|xe ?_
  refine Qh<|Qz (α:=Nat) [(16,16),(51,62)] (λz=>[(51,.int .i64 z)]) (λz w'=>z≤l.length∧Step [q.bl] w7 w'∧ReI b10 q I (((l.take z).map (·.1)).foldl cut lf) rn vr lz w') (λz=>l.length - z) (by rfl) 0 La ⟨Ll _,Step.refl _ _,J⟩ ?_;rintro j g U ⟨hj,V,H⟩;have hH:∀b∈ob r7,b≠q.bl:=λb hb e=>by have:=(Qq hY b hb).1;have:=G.st.size;omega
  have pn:RmO w6.heap.size U r7 rank rs l:=Qm hY V (λb hb hm=>hH b hb (by simpa using hm));have kr:Zy [q.bl] U.heap r7 l.length 4 (l.flatMap (rmC rank rs)):=QV pn (by omega) (λb hb hm=>hH b hb (by simpa using hm));refine Qc<|x (QA O O)<|xe<|Qg<|QC O (λgr=>?_) (λgr=>?_)
  ·refine Qy ?_;have po:l.length≤j:=by have hT:¬(j:Int)<(l.length:Int):=gr;omega
   rw[Lp po]at H;obtain⟨ad,cap7,pp,_,pt⟩:∃ad cap,r7=.slice (some ad) l.length cap∧l.length≤cap∧At [q.bl] U.heap ad (l.flatMap (rmC rank rs)):=by
    rcases kr.2.2 with⟨_,h0⟩|h1
    ·exact absurd h0 hN
    exact h1
   refine Qc<|x (Qa O)<|x (Qa O)<|x (Qd H.B10 O O)<|Qb<|xl O<|Q4 (m:=l.length) (news:=l.flatMap (rmC rank rs)) (L:=[q.bl]) H.R O pp (by rw[←hA.1,Qab,hA.2]) pt (by rw[←hA.1];exact QeW ln) (by omega) H.st.size λgs pu kt ku hn22 =>
    x (Qa O)<|x (Qa O)<|xl O<|QF (j:=2) (u:=gs) (H.B10.step ku (λhb=>by have:=(Qq H.R _ hb).1;omega)) O O (by simp) (QQ kt) λw23 pw pz=>xe ?_
   have p0:RzO I.heap.size pu gs (lz++ln):=RzO.snoc (by rw[hA.1,hA.2];exact kt);have kv:=H.app hW hG hg ku p0 pw pz;refine Qw<|Qb<|x (Qa O)<|xl O<|QF (j:=3) (u:=.int .i64 rank) kv.B10 O O (by simp) rfl λw24 p4 p5=>xe ?_;have p6:=kv.rounds hG hg p4 p5;have p7:(-9223372036854775808:Int)≤(rank:Int)+1:=by omega
   have p8:(rank:Int)+1≤9223372036854775807:=by omega
   refine Qw<|Qb<|x (JB O O ⟨p7,p8⟩)<|Qf ?_;exact⟨(f',rank+1,(rank:Int),gs,lz++ln,(l.map (·.1)).foldl cut lf),by simp only[];omega,La,p6,by simp only[];omega,by simp only[List.length_append];omega,h4,by simp only[];omega⟩
  refine Qi ?_;have he:j<l.length:=by have hT:(j:Int)<(l.length:Int):=gr;omega
  have p9:l.take (j+1)=l.take j++[l[j]'he]:=Li he;have kw:((l.take (j+1)).map (·.1)).foldl cut lf=cut (((l.take j).map (·.1)).foldl cut lf) (l[j]'he).1:=by rw[p9,Lx,Mh];rfl
  have qc:=hZ (l[j]'he).1 (LP (Lc he));refine Zj (l[j]'he) λy hy=>?_;rw[hy]at kw qc;have qo:y.1=(y.1.toNat:Int):=by omega
  refine Qg<|Qh<|Qc<|xig (g:=rmC rank rs) (i:=j) (QeG rank rs) kr O O he λa53 hT=>?_;rw[hy]at hT;refine x (QI hT O O)<|xl O<|Qu (us:=[.int .i64 0,.int .i64 0,.int .i64 0,.int .i64 0]) O λb16 E Y qr gt=>xl O<|Qn (us:=rmC rank rs y) gt O O O O ⟨O,O,O,O,Z⟩ λh5 ha gt=>xe ?_;have kx:Step [] U h5:=Y.then1 ha qr;have gu:=H.ext kx;have q0:=H.n
  refine QU (Step [] h5) [(0,true),(1,true),(2,true),(3,true),(4,true),(5,true),(6,true),(7,false)] mixed (by rfl) (by kernel_rfl) (Step.drew _ _) ?_;refine p (λ_=>Qk)<|p (λ_=>QE O)<|p (λ_=>Qa O)<|pq (λ_ hc=>Qd ((h3 gu.st).B.ext hc) O O)<|p (λ_=>Qa O)<|pq (λ_ hc=>Qd (gt.ext hc) O O) <|
   p (λ_=>QS (i:=y.1.toNat) O (congrArg (Value.int .i64) qo) (by omega))<|pkl (hl:=by kernel_rfl)<|zl (i:=y.1.toNat) (gu.F.ext (Step.drew _ _)) O O (by omega) λmv hp q4=>pe ?_
  refine Qw<|QP O O<|Qb<|xe<|⟨j+1,by omega,La,he,((V.trans kx).trans (Step.drew _ _)).trans' hp,?_⟩;rw[kw];exact(gu.ext (Step.drew _ _)).cut hW hg hp q4 (by rw[QfB];exact q0)
 refine Qi ?_;have hU:k<forb.length:=by have gv:(k:Int)<(forb.length:Int):=g3;omega
 have q9:=gx _ (Lc hU);refine Zj (forb[k]'hU) λy hy=>?_;rw[hy]at q9;refine Qg<|Qh<|Qc<|xii (i:=k) mg O O hU λa27 gv=>?_;rw[hy]at gv;refine x (Qv gv O)<|Qf<|Qc<|x (Qa O)<|x (Qa O)<|x (Qd G.B10 O O)<|Qb<|x (QM ⟨O,O,O,O,Z⟩)<|xl O<|QG (us:=[[.int .i64 y,.int .i64 1,.int .i64 1,.int .i64 (-1)]]) O O (by decide) (by simp) ⟨rfl,rfl,Z⟩ λb34 w6 j1 hb34 j2=>?_
 have hB:=G.ext j1;refine xl rfl<|Q4 (m:=1) (news:=[.int .i64 y,.int .i64 1,.int .i64 1,.int .i64 (-1)]) (L:=[]) hB.R O O O (j2.at (by simp)) (by simp[Value.oneCell']) (by omega) hB.st.size λv7 w7 kz hJ hn7 =>
  x (Qa rfl)<|x (Qa O)<|xl O<|QF (j:=2) (u:=v7) (hB.B10.step hJ (λhb=>by have:=(Qq hB.R _ hb).1;omega)) O O (by simp) (QQ kz) λU V gc=>xe ?_
 have j3:RzO I.heap.size w7 v7 (lz++[⟨(y,1,1,-1),by simp only[];omega⟩]):=RzO.snoc kz;have H:=hB.app hW hG hg hJ j3 V gc;refine Qw<|x (Qa O)<|xl O<|QF (j:=3) (u:=.int .i64 1) H.B10 O O (by simp) rfl λE Y j4=>xe ?_;have za:=H.rounds hG hg Y j4;refine Qw<|QP O O<|Qb<|xe ?_
 exact⟨(k+1,1,v7,_),by simp only[];omega,La,hU,za,by simp only[List.length_append,List.length_singleton];omega,.inr O⟩
instance:Bw prog 120 (XR (nS) (nS) (nS) 0) [(0,3),(3,1),(4,4),(8,1)]:=⟨by kernel_rfl,by decide⟩
theorem QnG {c:Q7}{pl:QD}{ps:List (LI)}{l:List (LI)}:∀r∈spF c pl ps l,0≤r.st∧r.st<(l.length:Int):=λr E=>by
 unfold spF at E;obtain⟨⟨t,i⟩,hp,h1⟩:=MG.1 E;have hi:=List.snd_lt_add_of_mem_zipIdx hp;simp only[Nat.zero_add]at hi;have h2:r.st=(i:Int):=by
  simp only[]at h1;unfold rsn at h1;split at h1
  ·cases h1;rfl
  split at h1
  ·cases h1;rfl
  cases h1
 omega
theorem Qhw {c:Q7}(h:Xa c=0):QO (spc c).a∧(∀x∈fbs (spc c),0≤x∧x<(spc c).a.st)∧(fbs (spc c)).length≤4096∧(spc c).fb.length≤4096∧Js c.ev=0:=by
 unfold Xa at h;by_cases h1:Zi c≠0
 ·rw[if_pos h1]at h;exact absurd h h1
 rw[if_neg h1]at h;have hck:Zi c=0:=Ln.1 h1;have E:=Z9 hck;by_cases h2:X9 (auts c.co)≠0
 ·rw[if_pos h2]at h;exact absurd h h2
 rw[if_neg h2]at h;cases hs:sync (auts c.co)with
 | none=>rw[hs]at h;cases h
 | some z =>
  rw[hs]at h;simp only[]at h;by_cases h3:X9 (auts c.co++auts c.rq)≠0
  ·rw[if_pos h3]at h;exact absurd h h3
  rw[if_neg h3]at h;cases G:sync (auts c.co++auts c.rq)with
  | none=>rw[G]at h;cases h
  | some y =>
   have H:∀a∈auts c.co++auts c.rq,QO a:=λa ha=>by
    rcases Lo.1 ha with ha|ha
    ·exact Xz E.co a ha
    exact Xz E.rq a ha
   have hsp:=(YE H (A:=y.1) (Q:=y.2) G).1;have he:=Qdn (c:=c) (pl:=z.1) (ps:=z.2) (sa:=y.1) (ts:=y.2) hs G;have hl:=QeC c z.1 z.2 y.2;have J:=hsp.le;rw[he];unfold fbs;refine⟨hsp.okay H,λx hx=>?_,by rw[Lh];simp only[];omega,by simp only[];omega,E.e0⟩;obtain⟨r,I,rfl⟩:=Lq.1 hx;have:=QnG r I;rw[hsp.st];exact this
theorem st4 (r:Rsn):(YF r).length=4:=rfl
set_option maxHeartbeats 4000000 in
theorem Qdf {L:LN}{w:World}{c:CL}(h0:ZQ L w.heap c)(hP:Kb w 4096):
  QH prog 43 [c.val] w λr w'=>Step [] w w'∧∃us c0 U V c3 sa sm se o,r=.tuple #[.agg us.toArray,.agg #[c0,U,V,c3,sa,.int .i64 (if Xa c.cel=0 then(J7 c.cel).st else 0),sm,se,o],.int .i64 (Xa c.cel)]∧us.length=8∧ZM us∧ZM [c0,U,V,c3,sa,sm,se,o] ∧
   (Xa c.cel≠0→sa=nS∧sm=nS∧se=nS)∧(Xa c.cel=0→∀L:LN,(∀b∈L,b<w.heap.size)→Zm L w'.heap sa sm se (J7 c.cel)):=by
 have h:=h0.up (L':=[]) (by simp);have hm:J7 c.cel=Jp (spc c.cel).a (fbs (spc c.cel)) (unc c.cel.ev):=rfl;have hQ:c.cel.ev=c.ev:=rfl;have hn:=Qhw (c:=c.cel);refine Zj (J7 c.cel) λSA hR=>?_;rw[hR]at hm ⊢;refine Zj (Xa c.cel) λE hE=>?_;rw[hE]at hn ⊢;refine Zj (spc c.cel) λS hS=>?_;rw[hS]at hn hm;rw[hQ]at hn hm;refine QH.of_W func43 O ntmps43 results43 (by simp) ?_
 refine Qc<|xl O<|QR (us:=c.cells) O λb1 w1 hB gy hC=>xl O<|Qu (us:=[nS,.int .i64 0,nS,nS,nS,nS,nS,nS]) O λb2 w2 hz gz ho=>xl O<|Qu (us:=XR (nS) (nS) (nS) 0) O λb3 w3 hp g0 hq=>Qf ?_;have h2:=(hB.trans hz).trans hp;have g1:=hB.size;have g2:=ho.lt;have g3:=hq.lt;have hsp:=Qec (h.ext h2) (hP.ext h2);rw[hE,hS]at hsp
 refine Qc<|x (Qo ((hC.ext hz).ext hp) O O)<|xl O<|xf<|hsp.mono ?_;rintro r4 w4 ⟨hg,v,rfl,⟨us,rfl,h3,h4⟩,hF⟩;have g4:=hg.size;refine Qb<|x (Qj O O)<|x (Qj O O)<|xl O<|Qu (us:=[nS,.int .i64 0,nS,nS,nS,nS,nS,nS]) O λb5 w5 hT hV hh=>xl O<|Qn (us:=us) hh O O h3 O h4 λw6 hW hh=>Qf ?_;have Y:Step [] w4 w6:=hT.then1 hW hV;have h5:=(h2.trans hg).trans Y
 have hD:=(ho.ext (hp.trans hg)).ext Y;have hG:=(hq.ext hg).ext Y;have g5:=hh.lt;refine Qg<|Qc<|Qb<|x (Q6 O O)<|xe<|Q3 rfl (λhs=>?_) (λhs=>?_)
 ·refine Qc<|x (ZD [] Z)<|x (ZD [] Z)<|Qb<|xl O<|Qn (us:=[nS,.int .i64 0,nS,nS,nS,nS,nS,nS]) hD O O O O ⟨O,O,O,O,O,O,O,O,Z⟩ λw7 G hX =>
   xl rfl<|Qn (us:=XR (nS) (nS) (nS) 0) (hG.step G (by simp only[List.mem_singleton];omega)) O O O O ⟨O,O,O,O,O,O,O,O,O,Z⟩ λw8 ht hY=>Qf<|Ql ⟨[.agg [nS,.int .i64 0,nS,nS,nS,nS,nS,nS].toArray,.agg (XR (nS) (nS) (nS) 0).toArray,.int .i64 E],⟨⟨_,O,Qx O ((hX.step ht (by simp only[List.mem_singleton];omega)).at (L:=[]) (by simp)).cells⟩,⟨_,rfl,Qx rfl (hY.at (L:=[]) (by simp)).cells⟩,rfl,Z⟩,(h5.then1 G (by omega)).then1 ht (by omega),[nS,.int .i64 0,nS,nS,nS,nS,nS,nS],nS,nS,nS,.int .i64 0,nS,nS,nS,nS,by rw[if_neg hs];rfl,O,⟨O,O,O,O,O,O,O,O,Z⟩,⟨O,O,O,O,O,O,O,O,Z⟩,λ_=>⟨O,O,O⟩,λe=>absurd e hs⟩
 have hu:E=0:=Ln.1 hs;obtain⟨hZ,ga,gb,g6,hH⟩:=hn hu;obtain⟨va,vm,ve,v1,v2,v3,v4,cos,rqs,gc,_,_,ge⟩:=hF hu;have gg:us=[va,.int .i64 S.a.st,vm,ve,v1,v2,v3,v4]:=by
  have h1:=congrArg (λv=>match v with|Value.agg a=>a.toList|_=>[]) gc
  simpa using h1
 subst gg;have hI:=(ge [] (by simp));have gh:=hI.1.ext Y;have hJ:=hI.2.2.2.2.ext Y;refine Qi<|Qc<|Qf<|Qg<|Qc<|x (Qa O)<|x (Qd hh O O)<|x (Qr hJ O)<|Qb<|xe ?_
 refine Qh<|Qz (α:=Nat×Value) [(7,7),(9,9),(24,33)] (λz=>[(7,z.2),(24,.int .i64 z.1)]) (λz w'=>z.1≤S.fb.length∧Step [] w6 w'∧Qt 3 w6.heap.size w' z.2 ((S.fb.take z.1).map (·.st))) (λz=>S.fb.length - z.1) (by rfl) (0,nS) ⟨O,O,Z⟩ ⟨Ll _,Step.refl _ _,QN _ _ _ _⟩ ?_;rintro⟨k,vf⟩ g w7 ⟨hk,G,J⟩;simp only[]at hk J;refine Qc<|x (QA O O)<|xe<|Qg<|QC O (λh6=>?_) (λh6=>?_)
 ·refine Qy ?_;have gi:S.fb.length≤k:=by have hv:¬(k:Int)<(S.fb.length:Int):=h6;omega
  rw[Lp gi]at J;have J:Qt 3 w6.heap.size w7 vf (fbs S):=J;have gj:=h5.trans G;have gk:=G.size;refine Qc<|x (Qa O)<|x (Qd ((hC.ext (hz.trans hp)).ext ((hg.trans Y).trans G)) O O)<|xl O<|xf<|(jS (h.ev.ext gj)).mono ?_;rintro g7 I ⟨ha,vu,rfl,hU⟩;rw[if_pos hH]at hU;refine Qb<|x (Qj O O)<|x (Qj O O)<|x Qe<|Qf<|Qg<|Qc<|Qb<|x (Q6 O O)<|xe ?_
  refine Q3 O (λgl=>absurd hH gl) (λ_=>?_);refine Qi ?_;have h3:(unc c.ev).length≤1099511627776:=LL (Uc _ c.ev 0) h.ev.arr.le;have he:=G.trans ha;have gm:=gh.ext he;have hw:Step [] I { I with drawn:=I.drawn+1 }:=Step.drew _ _
  have hK:=hh.ext he;have hM:b5∉[b2]:=by simp only[List.mem_singleton];omega
  have g8:=he.size;refine Qg<|QU (Step [b2] I) [(0,true),(1,true),(2,true),(3,true),(4,true),(5,false),(6,false),(7,false),(8,true)] mixed (by rfl) (by kernel_rfl) (Step.drew _ _) ?_;refine pq (λ_ hc=>Qo (hK.step hc hM) O O)<|p (λ_=>Qa O)<|pq (λ_ hc=>ZG (us:=[va,.int .i64 S.a.st,vm,ve]) (hK.step hc hM) O O O) <|
   p (λ_=>Qk)<|p (λ_=>Qk)<|pk<|xf<|(jg (gm.ext hw) hZ (((Qt.ints (L:=[]) J (by omega) (by simp)).ext ha).ext hw) ga gb ((Qt.ints (L:=[]) hU h3 (by simp)).ext hw)).mono ?_
  rintro g9 ka ⟨gn,c0,U,V,c3,sa,sm,se,o,rfl,H,h7⟩;have hi:=hw.trans gn;refine⟨hi.any,?_⟩;have hN:Jp S.a (fbs S) (unc c.ev)=SA:=hm.symm;rw[hN]at h7;have hf:=h7 [] (by simp);refine pk<|Qn (us:=[va,.int .i64 S.a.st,vm,ve,v1,v2,v3,v4]) ((hD.ext he).ext hi) O O O O h4 λkb hy ho=>⟨hi.any.trans' hy,?_⟩
  refine pkl (hl:=by kernel_rfl)<|Qn (us:=[c0,U,V,c3,sa,.int .i64 SA.st,sm,se,o]) (((hG.ext he).ext hi).step hy (by simp only[List.mem_singleton];omega)) O (by rw[←hN];rfl) O O ⟨H.1,H.2.1,H.2.2.1,H.2.2.2.1,hf.al.one,O,hf.mr.one,hf.ed.one,H.2.2.2.2.1,Z⟩ λkc h8 hq=>p (λ_=>Qe)<|pe ?_;have gq:b2∉[b3]:=by simp only[List.mem_singleton];omega
  refine Ql ⟨[.agg [va,.int .i64 S.a.st,vm,ve,v1,v2,v3,v4].toArray,.agg [c0,U,V,c3,sa,.int .i64 SA.st,sm,se,o].toArray,.int .i64 0],⟨⟨_,O,Qx O ((ho.step h8 gq).at (L:=[]) (by simp)).cells⟩,⟨_,rfl,Qx rfl (hq.at (L:=[]) (by simp)).cells⟩,rfl,Z⟩,
   (((h5.trans he).trans hi).then1 hy (by omega)).then1 h8 (by omega),_,c0,U,V,c3,sa,sm,se,o,by rw[hu,if_pos rfl];rfl,O,h4,⟨H.1,H.2.1,H.2.2.1,H.2.2.2.1,hf.al.one,hf.mr.one,hf.ed.one,H.2.2.2.2.1,Z⟩,λe=>absurd hu e,λ_ L hL=>?_⟩
  have h1:=h7 (b2::b3::L) (λb hb=>by
   have ke:({ I with drawn:=I.drawn+1 }:World).heap.size=I.heap.size:=rfl
   simp only[List.mem_cons]at hb;rcases hb with rfl|rfl|hb
   ·omega
   ·omega
   have:=hL b hb;omega)
  exact((h1.st (hy.mono (by simp))).st (h8.mono (by simp))).up (λb hb=>.inl (by simp[hb]))
 refine Qi ?_;have hj:k<S.fb.length:=by have hv:(k:Int)<(S.fb.length:Int):=h6;omega
 have hO:S.fb.take (k+1)=S.fb.take k++[S.fb[k]'hj]:=Li hj;have kf:((S.fb.take k).map (·.st)).length=k:=by rw[Lh,LC];omega
 refine Zj (S.fb[k]'hj) λr hr=>?_;rw[hr]at hO;refine Qg<|Qh<|Qc<|xig (g:=YF) (i:=k) st4 (hJ.ext G) O O hj λkg hv=>?_;rw[hr]at hv;refine x (QI hv O O)<|xl O<|Qu (us:=[.int .i64 0,.int .i64 0,.int .i64 0,.int .i64 0]) O λb9 w8 ht gr h9=>xl O<|Qn (us:=YF r) h9 O O O O ⟨O,O,O,O,Z⟩ λw9 gs h9=>xe ?_;have hA:Step [] w7 w9:=ht.then1 gs gr;have kh:=hA.size;have gk:=G.size
 refine Qw<|Qb<|x (Qa O)<|x (Qd h9 O O)<|xl O<|QG (us:=[[.int .i64 r.st]]) O O (by decide) (by simp) ⟨rfl,rfl,Z⟩ λki I ha kj gt =>
  xl rfl<|Q4 (m:=1) (news:=[.int .i64 r.st]) (L:=[]) (Qs J (hA.trans ha)) O O O (gt.at (by simp)) (by simp[Value.oneCell']) (by omega) (by have:=ha.size;omega) λgu kk gv gx kn=>Qf<|Qw<|QP O O<|Qb<|xe ?_
 refine⟨(k+1,gu),by simp only[];omega,⟨O,O,Z⟩,hj,((G.trans hA).trans ha).then gx (λb hb=>.inr (Qq J b hb).1),?_⟩;simp only[];rw[hO,Lx];exact Qt.snoc gv
theorem JR {L:LN}{w:World}{c:CL}(h0:ZQ L w.heap c)(hf:Kb w 4096):
  QH prog 12 [c.val] w λr w'=>Step [] w w'∧∃sa sm se,r=.tuple #[.agg #[sa,.int .i64 (if Xa c.cel=0 then(J7 c.cel).st else 0),sm,se],.int .i64 (suE c.cel)]∧ZM [sa,sm,se] ∧
   (suE c.cel≠0→sa=nS∧sm=nS∧se=nS)∧(suE c.cel=0→∀L:LN,(∀b∈L,b<w.heap.size)→Zm L w'.heap sa sm se (J7 c.cel)):=by
 have h:=h0.up (L':=[]) (by simp);have hg:suE c.cel=Xa c.cel:=rfl;rw[hg];refine QH.of_W func12 O ntmps12 results12 (by simp) ?_;refine Qc<|xl O<|QR (us:=c.cells) O λb1 w1 U hq hh=>xl O<|Qu (us:=[nS,.int .i64 0,nS,nS]) O λb2 w2 V hr G=>Qf ?_;have H:=U.trans V;have hs:=U.size;have ht:=G.lt
 refine Qc<|x (Qo (hh.ext V) O O)<|xl O<|xf<|(Qdf (h.ext H) (hf.ext H)).mono ?_;rintro r3 w3 ⟨Y,us,c0,c1,c2,c3,sa,sm,se,o,rfl,hi,hj,E,hk,hl⟩;refine Zj (if Xa c.cel=0 then(J7 c.cel).st else 0) λN hN=>?_
 rw[hN];refine Qb<|x (Qj O O)<|x (Qj O O)<|x (Qj O O)<|xl O<|Qu (us:=[nS,.int .i64 0,nS,nS,nS,nS,nS,nS]) O λb4 w4 hm hu I=>xl O<|Qu (us:=XR (nS) (nS) (nS) 0) O λb5 w5 ha hv hn =>
  xl rfl<|Qn (us:=us) (I.ext ha) O O hi O hj λw6 hc hw=>xl O<|Qn (us:=[c0,c1,c2,c3,sa,.int .i64 N,sm,se,o]) (hn.step hc (by have:=I.lt;simp only[List.mem_singleton];omega)) O O O O ⟨E.1,E.2.1,E.2.2.1,E.2.2.2.1,E.2.2.2.2.1,O,E.2.2.2.2.2.1,E.2.2.2.2.2.2.1,E.2.2.2.2.2.2.2.1,Z⟩ λw7 ho hp=>Qf ?_
 have hy:=I.lt;have J:Step [] w3 w7:=((hm.trans ha).then1 hc (by omega)).then1 ho (by omega)
 refine Qc<|x (Qa O)<|x (ZG (us:=[sa,.int .i64 N,sm,se]) hp O O O)<|Qb<|xl O<|Qn (us:=[sa,.int .i64 N,sm,se]) ((G.ext Y).ext J) O O O O ⟨E.2.2.2.2.1,O,E.2.2.2.2.2.1,E.2.2.2.2.2.2.1,Z⟩ λw8 he G=>Qf<|Ql ⟨[.agg [sa,.int .i64 N,sm,se].toArray,.int .i64 (Xa c.cel)],⟨⟨_,O,Qx O (G.at (L:=[]) (by simp)).cells⟩,rfl,Z⟩,((H.trans Y).trans J).then1 he (by omega),sa,sm,se,rfl,⟨E.2.2.2.2.1,E.2.2.2.2.2.1,E.2.2.2.2.2.2.1,Z⟩,hk,λe L hL=>?_⟩
 have h1:=hl e (b2::L) (λb hb=>by
  simp only[List.mem_cons]at hb;rcases hb with rfl|hb
  ·omega
  have:=hL b hb;omega)
 exact((h1.ext J).st (he.mono (by simp))).up (λb hb=>.inl (by simp[hb]))
theorem Qbu {L:LN}{w:World}{va vm ve vf vu:Value}{a:QD}{fb ul:LI}(h:Zm L w.heap va vm ve a)(hf:QJ L w.heap vf fb)(hu:QJ L w.heap vu ul):
  QH prog 121 [.agg #[va,.int .i64 a.st,vm,ve],vf,vu] w λr w'=>r=.int .i64 (VX a fb ul)∧Step [] w w':=by
 have G:VX a fb ul=if Xq a≠0 then Xq a else if YM a.st none fb≠0 then YM a.st none fb else YM 32 none ul:=rfl
 refine Zj (VX a fb ul) λE hE=>?_;rw[hE]at G ⊢;refine QH.of_W func121 O ntmps121 results121 (by simp) ?_;refine Qc<|xl O<|QR (us:=[va,.int .i64 a.st,vm,ve]) O λb3 w1 U ha V=>Qf<|Qg<|Qc<|x (Qo V O O)<|xl O<|xf<|(YU (h.ext U)).mono ?_;rintro r2 w2 ⟨rfl,Y⟩;have H:=U.trans Y;refine Qf<|Qc<|Qb<|x (Q6 O O)<|xe<|Q3 rfl (λI=>?_) (λI=>?_)
 ·rw[if_pos I]at G;subst G;refine Qc<|Qb<|Qf ?_;exact Ql ⟨[_],La,O,H⟩
 rw[if_neg I]at G;refine Qi<|Qg<|Qc<|Qb<|x (Qa O)<|x (Qd (V.ext Y) O O)<|xl O<|xf<|(K9 (hf.ext H) _).mono ?_;rintro r3 w3 ⟨rfl,rfl⟩;refine Qf<|Qc<|Qb<|x (Q6 O O)<|xe<|Q3 rfl (λJ=>?_) (λJ=>?_)
 ·rw[if_pos J]at G;subst G;refine Qc<|Qb<|Qf ?_;exact Ql ⟨[_],La,O,H⟩
 rw[if_neg J]at G;subst G;refine Qi<|Qc<|Qb<|xl O<|xf<|(K9 (hu.ext H) _).mono ?_;rintro r4 w4 ⟨rfl,rfl⟩;refine Qf ?_;exact Ql ⟨[_],La,O,H⟩
theorem yU {L:LN}{w:World}{va vm ve vf vu:Value}{a:QD}{fb ul:LI}(h0:Zm L w.heap va vm ve a)(hn:QJ L w.heap vf fb)(ho:QJ L w.heap vu ul):
  QH prog 66 [.agg #[va,.int .i64 a.st,vm,ve],vf,vu] w λr w'=>Step [] w w'∧∃c0 I J c3 sa sm se o,r=.tuple #[.agg #[c0,I,J,c3,sa,.int .i64 (if VX a fb ul=0 then(Jp a fb ul).st else 0),sm,se,o],.int .i64 (VX a fb ul)]∧ZM [c0,I,J,c3,sa,sm,se,o] ∧
   (VX a fb ul≠0→sa=nS∧sm=nS∧se=nS)∧(VX a fb ul=0→∀L:LN,(∀b∈L,b<w.heap.size)→Zm L w'.heap sa sm se (Jp a fb ul)):=by
 have h:=h0.up (L':=[]) (by simp);have hf:=hn.up (L':=[]) (by simp);have hu:=ho.up (L':=[]) (by simp);refine QH.of_W func66 O ntmps66 results66 (by simp) ?_;refine Qc<|xl O<|QR (us:=[va,.int .i64 a.st,vm,ve]) O λb3 w1 hi hr hj=>xl O<|Qu (us:=XR (nS) (nS) (nS) 0) O λb6 w2 he hs H=>Qf ?_;have ha:=hi.trans he;have ht:=hi.size;have hv:=H.lt
 refine Qg<|Qc<|x (Qo (hj.ext he) O O)<|Qb<|Qb<|xl O<|xf<|(Qbu (h.ext ha) (hf.ext ha) (hu.ext ha)).mono ?_;rintro r3 w3 ⟨rfl,Y⟩;have U:=ha.trans Y;have hw:=Y.size;refine Qf<|Qc<|Qb<|x (Q6 O O)<|xe<|Q3 rfl (λhc=>?_) (λhc=>?_)
 ·refine Qc<|x (ZD [] Z)<|Qb<|xl O<|Qn (us:=XR (nS) (nS) (nS) 0) (H.ext Y) O O O O ⟨O,O,O,O,O,O,O,O,O,Z⟩ λw4 hp H=>Qf<|Ql ⟨[.agg (XR (nS) (nS) (nS) 0).toArray,.int .i64 (VX a fb ul)],⟨⟨_,O,Qx O (H.at (L:=[]) (by simp)).cells⟩,rfl,Z⟩,U.then1 hp (by omega),nS,nS,nS,.int .i64 0,nS,nS,nS,nS,by rw[if_neg hc];rfl,⟨O,O,O,O,O,O,O,O,Z⟩,λ_=>⟨O,O,O⟩,λe=>absurd e hc⟩
 have G:VX a fb ul=0:=Ln.1 hc;have hck:Xq a=0∧YM a.st none fb=0:=by
  unfold VX at G;by_cases h1:Xq a≠0
  ·rw[if_pos h1]at G;exact absurd G h1
  rw[if_neg h1]at G;by_cases h2:YM a.st none fb≠0
  ·rw[if_pos h2]at G;exact absurd G h2
  exact⟨Ln.1 h1,Ln.1 h2⟩
 have hk:=(Zs a).1 hck.1;have hg:=(Z1 a.st fb none).1 hck.2;have hq:fb.length≤4096:=by have:=Xs fb 0 a.st hg.2.1 hg.1;have:=hk.st1;omega
 refine Qi<|Qc<|x (Qo (hj.ext (he.trans Y)) O O)<|Qb<|Qb<|xl O<|xf<|(jg (h.ext U) hk (hf.ext U) hg.1 hq (hu.ext U)).mono ?_;rintro r5 w5 ⟨hh,c0,I,J,c3,sa,sm,se,o,rfl,E,hl⟩;have V:=hl [] (by simp);have hy:=hh.size
 refine xl rfl<|Qn (us:=[c0,I,J,c3,sa,.int .i64 (Jp a fb ul).st,sm,se,o]) ((H.ext Y).ext hh) O O O O ⟨E.1,E.2.1,E.2.2.1,E.2.2.2.1,V.al.one,O,V.mr.one,V.ed.one,E.2.2.2.2.1,Z⟩ λw6 hm H=>Qf<|Ql ⟨[.agg [c0,I,J,c3,sa,.int .i64 (Jp a fb ul).st,sm,se,o].toArray,.int .i64 0],⟨⟨_,O,Qx O (H.at (L:=[]) (by simp)).cells⟩,rfl,Z⟩,(U.trans hh).then1 hm (by omega),c0,I,J,c3,sa,sm,se,o,by rw[if_pos G,G];rfl,⟨E.1,E.2.1,E.2.2.1,E.2.2.2.1,V.al.one,V.mr.one,V.ed.one,E.2.2.2.2.1,Z⟩,λe=>absurd G e,λ_ L hL=>?_⟩
 have hz:=U.size;have h1:=hl (b6::L) (λb hb=>by
  simp only[List.mem_cons]at hb;rcases hb with rfl|hb
  ·omega
  have:=hL b hb;omega)
 exact(h1.st (hm.mono (by simp))).up (λb hb=>.inl (by simp[hb]))
theorem QaI {L:LN}{H:Array Obj}{b T:Nat}{n:Int}(h:QT H b T [.int .i64 n])(hb:b∉L):QJ L H (.slice (some ⟨b,0,none⟩) 1 1) [n]:=
 h.arr hb (n:=1) (cap:=1) (sz:=1) O (by omega) (Lu _)
set_option maxHeartbeats 4000000 in
theorem Qiw {L:LN}{w:World}{c:CL}{q:MV}(h0:ZQ L w.heap c)(h9:QJ L w.heap q.v q.co):
  QH prog 100 [c.val,.agg #[.int .i64 q.kd,.int .i64 q.ix,q.v]] w λr w'=>Step [] w w'∧∃us,r=.tuple #[.agg us.toArray,.int .i64 (mcE c.cel q.m)]∧us.length=5∧ZM us∧(mcE c.cel q.m≠0→us=Xf)∧(mcE c.cel q.m=0→QmY w.heap.size w'.heap (.agg us.toArray) (Xb c.cel q.m)):=by
 have h:=h0.up (L':=[]) (by simp);have hm:=h9.up (L':=[]) (by simp);have U:mcE c.cel q.m=if mdE c.cel q.m≠0 then mdE c.cel q.m else qZ c.cel (prt q.m):=rfl
 have hA:Xb c.cel q.m=Qf8 c.cel (prt q.m):=rfl;rw[hA];refine Zj (mcE c.cel q.m) λE hE=>?_;rw[hE]at U ⊢;refine QH.of_W func100 O ntmps100 results100 (by simp) ?_;refine Qc<|xl O<|QR (us:=c.cells) O λb2 w1 ht hS hh=>xl O<|QR (us:=YH q) O λb3 w2 ha hT hu=>xl O<|Qu (us:=Xf) O λb4 w3 V hU hv=>Qf ?_;have hi:=(ht.trans ha).trans V;have hV:=ht.size;have hW:=ha.size
 have hX:=hv.lt;refine Qg<|Qc<|x (Qo ((hh.ext ha).ext V) O O)<|x (Qo (hu.ext V) O O)<|xl O<|xf<|(Qgn (h.ext hi) (hm.ext hi)).mono ?_;rintro r4 w4 ⟨rfl,Y⟩;refine Qf ?_;have hw:=hi.trans Y;have hY:=Y.size;have hB:=((hh.ext ha).ext V).ext Y;have hj:=(hu.ext V).ext Y;have hy:=hv.ext Y;refine Qc<|Qb<|x (Q6 O O)<|xe<|Q3 rfl (λhc=>?_) (λhc=>?_)
 ·rw[if_pos hc]at U;subst U;refine Qc<|x (QM Z)<|Qb<|xl O<|Qn (us:=Xf) hy O O O O ⟨O,O,O,O,O,Z⟩ λw5 hC hD=>Qf ?_;exact Ql ⟨[.agg Xf.toArray,.int .i64 (mdE c.cel q.m)],⟨⟨_,O,Qx O (hD.at (L:=[]) (by simp)).cells⟩,rfl,Z⟩,hw.then1 hC (by omega),Xf,rfl,rfl,⟨rfl,rfl,rfl,rfl,rfl,Z⟩,λ_=>rfl,λh0=>absurd h0 hc⟩
 rw[if_neg hc]at U;subst U;refine Qi<|Qc<|x (Qa O)<|x (Qd hj O O)<|x (QM ⟨hm.cells,Z⟩)<|xl O<|Qu (us:=[nS,nS,nS,nS]) O λb7 w6 hF hG hH=>xl O<|Qn (us:=[q.v,nS,nS,nS]) hH O O O O ⟨hm.one,O,O,O,Z⟩ λw7 hI hz =>
  xe ?_
 have h2:Step [] w4 w7:=hF.then1 hI hG;have hZ:=hz.lt;refine Qc<|x (Qa O)<|x (Qd (hj.ext h2) O O)<|xl O<|QG (us:=[[.int .i64 q.ix]]) O O (by decide) (by simp) ⟨rfl,rfl,Z⟩ λI w8 hk ga hJ =>
  Qf ?_
 have he:=h2.trans hk;have hK:=hw.trans he;have gb:=hk.size;have hl:=hz.ext hk;have hM:w.heap.size≤b7:=by omega
 refine QX (α:=Value×Value×Value) [(22,33)] (λ_=>[]) (λz w'=>Step [b7] w8 w'∧QT w'.heap b7 281 [q.v,z.1,z.2.1,z.2.2]∧QJ [] w'.heap z.1 (prt q.m).rq∧QJ [] w'.heap z.2.1 (prt q.m).ex∧QJ [] w'.heap z.2.2 (prt q.m).cs) (by rfl) ?_ ?_
 ·have hn:∀{w':World},Step [b7] w8 w'→QJ [] w'.heap (.slice (some ⟨I,0,none⟩) 1 1) [q.ix]:=λhs=>QaI (hJ.step hs (by simp only[List.mem_singleton];omega)) (by simp);refine Qc<|x (Qa O)<|x (Qd (hj.ext he) O O)<|xe<|Qh<|Qc<|x (Zr O O)<|Qf<|Q3 O (λho=>?_) (λho=>?_)
  ·have hk1:q.kd=1:=ho;refine Qw<|Qb<|x (Qa O)<|xl O<|QF (j:=1) (u:=.slice (some ⟨I,0,none⟩) 1 1) hl O O (by simp) rfl λJ G H=>xe ?_;refine⟨(.slice (some ⟨I,0,none⟩) 1 1,nS,nS),Z,G,H,?_,?_,?_⟩
   ·show QJ _ _ _ (if q.kd=1 then[q.ix]else[]);rw[if_pos hk1];exact hn G
   ·show QJ _ _ _ (if q.kd=2 then[q.ix]else[]);rw[if_neg (by omega)];exact Kc _ _
   show QJ _ _ _ (if q.kd≠1∧q.kd≠2 then[q.ix]else[]);rw[if_neg (by omega)];exact Kc _ _
  have hk1:¬q.kd=1:=ho;refine Qc<|x (Zr O O)<|Qf<|Q3 O (λhp=>?_) (λhp=>?_)
  ·have hf:q.kd=2:=hp;refine Qw<|Qb<|x (Qa O)<|xl O<|QF (j:=2) (u:=.slice (some ⟨I,0,none⟩) 1 1) hl O O (by simp) rfl λJ G H=>xe ?_;refine⟨(nS,.slice (some ⟨I,0,none⟩) 1 1,nS),Z,G,H,?_,?_,?_⟩
   ·show QJ _ _ _ (if q.kd=1 then[q.ix]else[]);rw[if_neg hk1];exact Kc _ _
   ·show QJ _ _ _ (if q.kd=2 then[q.ix]else[]);rw[if_pos hf];exact hn G
   show QJ _ _ _ (if q.kd≠1∧q.kd≠2 then[q.ix]else[]);rw[if_neg (by omega)];exact Kc _ _
  have hf:¬q.kd=2:=hp;refine Qw<|Qb<|x (Qa O)<|xl O<|QF (j:=3) (u:=.slice (some ⟨I,0,none⟩) 1 1) hl O O (by simp) rfl λJ G H=>xe ?_;refine⟨(nS,nS,.slice (some ⟨I,0,none⟩) 1 1),Z,G,H,?_,?_,?_⟩
  ·show QJ _ _ _ (if q.kd=1 then[q.ix]else[]);rw[if_neg hk1];exact Kc _ _
  ·show QJ _ _ _ (if q.kd=2 then[q.ix]else[]);rw[if_neg hf];exact Kc _ _
  show QJ _ _ _ (if q.kd≠1∧q.kd≠2 then[q.ix]else[]);rw[if_pos ⟨hk1,hf⟩];exact hn G
 rintro⟨v1,v2,v3⟩ g J ⟨G,H,h3,h4,h5⟩;simp only[]at H h3 h4 h5;have hg:Step [] w J:=hK.then1 G hM;have gc:=G.size;have hN:QT J.heap b2 37 c.cells:=(hB.ext he).step G (by have:=hh.lt;simp only[List.mem_singleton];omega);have hO:QT J.heap b4 37 Xf:=(hy.ext he).step G (by simp only[List.mem_singleton];omega)
 refine Qc<|x (Qo hN O O)<|x (Qo H O O)<|xl O<|xf<|(Qd3 (p:=prt q.m) (h.ext hg) (hm.ext hg) h3 h4 h5).mono ?_;rintro ge gg ⟨h6,us,rfl,hq,h7,hP,hQ⟩
 refine x (Qj O O)<|x (Qj O O)<|xl O<|Qn (us:=us) (hO.ext h6) O O hq O h7 λgh h8 hR=>Qf<|Ql ⟨[.agg us.toArray,.int .i64 (qZ c.cel (prt q.m))],⟨⟨_,O,Qx hq (hR.at (L:=[]) (by simp)).cells⟩,rfl,Z⟩,(hg.trans h6).then1 h8 (by omega),us,rfl,hq,h7,hP,λe=>?_⟩;obtain⟨cl,e1,e2,e3⟩:=hQ e;refine⟨cl,e1,e2,λL hL=>?_⟩;have h1:=e3 (b4::L) (λb hb=>by
  rcases Le.1 hb with rfl|hb
  ·omega
  have:=hL b hb;have:=hg.size;omega)
 exact(h1.st (h8.mono (by simp))).up (λb hb=>.inl (by simp[hb]))
set_option maxHeartbeats 4000000 in
theorem Qlv {L:LN}{w:World}{c:CL}{q:MV}(h0:ZQ L w.heap c)(ho:QJ L w.heap q.v q.co)(hp:Kb w 4096):
  QH prog 49 [c.val,.agg #[.int .i64 q.kd,.int .i64 q.ix,q.v]] w λr w'=>Step [] w w'∧∃sa st sm se,r=.tuple #[.agg #[sa,.int .i64 st,sm,se],.int .i64 (yD c.cel q.m)]∧ZM [sa,sm,se] ∧
   (yD c.cel q.m=0→st=(ql c.cel q.m).st∧∀L:LN,(∀b∈L,b<w.heap.size)→Zm L w'.heap sa sm se (ql c.cel q.m))∧(yD c.cel q.m≠0→st=0∧sa=nS∧sm=nS∧se=nS):=by
 have h:=h0.up (L':=[]) (by simp);have hm:=ho.up (L':=[]) (by simp);have G:yD c.cel q.m=if mcE c.cel q.m≠0 then mcE c.cel q.m else suE (Xb c.cel q.m):=rfl
 have hq:ql c.cel q.m=J7 (Xb c.cel q.m):=rfl;rw[hq];refine Zj (yD c.cel q.m) λE hE=>?_;rw[hE]at G ⊢;refine QH.of_W func49 O ntmps49 results49 (by simp) ?_;refine Qc<|xl O<|QR (us:=c.cells) O λb2 w1 hg hG hs=>xl O<|QR (us:=YH q) O λb3 w2 ha hH ht=>xl O<|Qu (us:=[nS,.int .i64 0,nS,nS]) O λb4 w3 hc hI hh=>Qf ?_;have he:=(hg.trans ha).trans hc;have hJ:=hg.size;have hK:=ha.size
 have hM:=hh.lt;refine Qc<|x (Qo ((hs.ext ha).ext hc) O O)<|x (Qo (ht.ext hc) O O)<|xl O<|xf<|(Qiw (h.ext he) (hm.ext he)).mono ?_;rintro r4 w4 ⟨hf,us,rfl,hi,hu,hO,hw⟩;have hP:=hf.size;have hy:=he.trans hf;refine Qb<|x (Qj O O)<|x (Qj O O)<|xl O<|Qu (us:=Xf) O λb6 w5 hz h2 h3=>xl O<|Qn (us:=us) h3 O O hi O hu λJ h4 h5 =>
  Qf ?_
 have U:Step [] w4 J:=hz.then1 h4 h2;have V:=hy.trans U;have hQ:=U.size;have hj:=(hh.ext hf).ext U;refine Qg<|Qc<|Qb<|x (Q6 O O)<|xe<|Q3 rfl (λH=>?_) (λH=>?_)
 ·rw[if_pos H]at G;subst G;refine Qc<|x (QM Z)<|Qb<|xl O<|Qn (us:=[nS,.int .i64 0,nS,nS]) hj O O O O ⟨O,O,O,O,Z⟩ λw7 h6 h7=>Qf ?_;exact Ql ⟨[.agg [nS,.int .i64 0,nS,nS].toArray,.int .i64 (mcE c.cel q.m)],⟨⟨_,O,Qx O (h7.at (L:=[]) (by simp)).cells⟩,rfl,Z⟩,V.then1 h6 (by omega),nS,0,nS,nS,rfl,⟨rfl,rfl,rfl,Z⟩,λh0=>absurd h0 H,λ_=>⟨rfl,rfl,rfl,rfl⟩⟩
 rw[if_neg H]at G;subst G;obtain⟨cl,hv,h8,h9⟩:=hw (Ln.1 H);have hA:ZQ [] J.heap cl:=(h9 [] (by simp)).ext U;have hk:=JR hA (hp.ext V);rw[h8]at hk;have hB:∀R,QH prog 12 [cl.val] J R→QH prog 12 [.agg us.toArray] J R:=λR hR=>by rw[hv];exact hR
 have hsup':=hB _ hk;refine Qi<|Qc<|x (Qo h5 O hi)<|xl O<|xf<|hsup'.mono ?_;rintro r8 w8 ⟨hl,sa,sm,se,rfl,Y,hC,hD⟩;refine Zj (if Xa (Xb c.cel q.m)=0 then(J7 (Xb c.cel q.m)).st else 0) λN I=>?_
 rw[I];refine x (Qj O O)<|x (Qj O O)<|xl O<|Qn (us:=[sa,.int .i64 N,sm,se]) (hj.ext hl) O O O O ⟨Y.1,O,Y.2.1,Y.2.2.1,Z⟩ λw9 hn hF=>Qf<|Ql ⟨[.agg [sa,.int .i64 N,sm,se].toArray,.int .i64 (suE (Xb c.cel q.m))],⟨⟨_,O,Qx O (hF.at (L:=[]) (by simp)).cells⟩,rfl,Z⟩,(V.trans hl).then1 hn (by omega),sa,N,sm,se,rfl,Y,λe=>⟨?_,λL hL=>?_⟩,λe=>?_⟩
 ·have e':Xa (Xb c.cel q.m)=0:=e;rw[if_pos e']at I;exact I.symm
 ·have h1:=hD e (b4::L) (λb hb=>by
   rcases Le.1 hb with rfl|hb
   ·omega
   have:=hL b hb;have:=V.size;omega)
  exact(h1.st (hn.mono (by simp))).up (λb hb=>.inl (by simp[hb]))
 have e':¬Xa (Xb c.cel q.m)=0:=e;rw[if_neg e']at I;exact⟨I.symm,hC e⟩
theorem X3.app3 {α:Type}{g:α→LV}{sz T:Nat}{ps:α→List (Value×Nat×Nat×LV)}{base:Nat}{E G:World}{v H:Value}{l:List α}{q:α}(h:X3 g sz T ps base E v l)
  (hq:∀t∈ps q,Z3 base (ob v) E.heap t.1 t.2.1 t.2.2.1 t.2.2.2)
  (U:G.ownsRow base T sz H (l.length+1) (l.flatMap g++g q)) (I:Step (ob v) E G) (J:∀b∈ob H,b∈ob v∨E.heap.size≤b):X3 g sz T ps base G H (l++[q]):=by
 refine⟨?_,λd hd t ht=>?_⟩
 ·rw[Lj,LG];simpa using U
 rcases Lo.1 hd with hd|hd
 ·exact(h.each d hd t ht).app I J
 simp only[List.mem_singleton]at hd;subst hd;exact(hq t ht).app I J
abbrev Qqd (p:AV):List (Value×Nat×Nat×LV):=[(p.va,p.a.al.length,1,p.a.al.map (.int .i64)),(p.vm,p.a.mr.length,1,p.a.mr.map (.int .i64)),(p.ve,p.a.ed.length,3,p.a.ed.flatMap QB)]
abbrev AvP (base:Nat)(w:World)(v:Value)(l:List AV):Prop:=X3 Zc 4 50 Qqd base w v l
theorem AvP.auts {base:Nat}{w:World}{v:Value}{l:List AV}{L:LN}(h:AvP base w v l)(G:l.length≤1099511627776)(E:∀b∈L,b<base):YX L w.heap v l :=
 ⟨QV h.own G (λb hb H=>by have:=(Qq h.own b hb).1;have:=E b H;omega),λp hp=>⟨h.each p hp (p.va,p.a.al.length,1,p.a.al.map (.int .i64)) (by simp) L (λb hb=>.inl (E b hb)),h.each p hp (p.vm,p.a.mr.length,1,p.a.mr.map (.int .i64)) (by simp) L (λb hb=>.inl (E b hb)),h.each p hp (p.ve,p.a.ed.length,3,p.a.ed.flatMap QB) (by simp) L (λb hb=>.inl (E b hb))⟩⟩
def Qql (N:Nat)(H:Array Obj)(v:Value)(l:List QD):Prop:=∃ps:List AV,ps.map (·.a)=l∧∀L:LN,(∀b∈L,b<N)→YX L H v ps
theorem Qj0 {p:AV}(h1:p.va.oneCell'=true)(h2:p.vm.oneCell'=true)(h3:p.ve.oneCell'=true):∀u∈Zc p,u.oneCell'=true:=by
 intro u hu;simp only[Zc,List.mem_cons,List.not_mem_nil,or_false]at hu;rcases hu with rfl|rfl|rfl|rfl
 ·exact h1
 ·rfl
 ·exact h2
 exact h3
theorem Zm.parts {base N:Nat}{av:LN}{H:Array Obj}{p:AV}(h:∀L:LN,(∀b∈L,b<N)→Zm L H p.va p.vm p.ve p.a)(hb:base≤N)(G:∀b∈av,b<N):∀t∈Qqd p,Z3 base av H t.1 t.2.1 t.2.2.1 t.2.2.2:=by
 intro t ht;simp only[List.mem_cons,List.not_mem_nil,or_false]at ht;rcases ht with rfl|rfl|rfl
 ·exact Z3.of_lt (λL E=>(h L E).al) hb G
 ·exact Z3.of_lt (λL E=>(h L E).mr) hb G
 exact Z3.of_lt (λL E=>(h L E).ed) hb G
theorem Qim {c:Q7}(h:qp c):(mods c).length≤96:=by have:=QaF h 3 (by omega);rw[Qb1]at this;omega
theorem QeM:∀(l:LN) (b:Nat),l.foldl (λl b=>l &&& (65535 ^^^ b)) b≤b
 | [],_=>Lu _
 | _::l,_=>LL (QeM l _) Nat.and_le_left
theorem UG {c:Q7}:∀i∈rem c,0≤i∧i<(c.co.length:Int):=by
 intro i hi;unfold rem setK at hi;obtain⟨j,hj,rfl⟩:=Lq.1 hi;have h1:=(LJ.1 hj).2;have h2:=of_decide_eq_true h1;refine⟨by omega,?_⟩;refine Decidable.byContradiction λH=>?_;have E:c.co.length≤j:=by omega
 have I:Qam c≤2 ^ c.co.length - 1:=QeM _ _;have hp:0<2 ^ c.co.length:=Nat.pow_pos (by decide);have J:2 ^ c.co.length≤2 ^ j:=Nat.pow_le_pow_right (by decide) E;have G:Qam c / 2 ^ j=0:=Nat.div_eq_of_lt (by omega);rw[G]at h2;cases h2
theorem qQ (c:Q7):KH c=if Zi c≠0 then Zi c else msL c (mods c):=rfl
theorem V4 (c:Q7)(m:YW)(l:List YW):msL c (m::l)=if yD c m≠0 then yD c m else msL c l:=rfl
abbrev coA (c:Q7)(i:Int):QD:=(c.co.getD i.toNat ⟨.empty,⟨[],0,[],[]⟩⟩).a
set_option maxRecDepth 4096 in
set_option maxHeartbeats 8000000 in
theorem KZ {L:LN}{w:World}{c:CL}(I:ZQ L w.heap c)(g7:Kb w 4096):
  QH prog 14 [c.val] w λr w'=>Step [] w w'∧∃v,r=.tuple #[v,.int .i64 (KH c.cel)]∧(KH c.cel≠0→v=nS)∧(KH c.cel=0→v.oneCell'=true∧Qql w.heap.size w'.heap v (ZA c.cel)):=by
 have h:=I.up (L':=[]) (by simp);have hp:=qQ c.cel;have g8:ZA c.cel=(mods c.cel).map (ql c.cel)++(rem c.cel).map (coA c.cel):=rfl;refine Zj (KH c.cel) λE hE=>?_;rw[hE]at hp ⊢;refine QH.of_W func14 O ntmps14 results14 (by simp) ?_;refine Qc<|xl O<|QR (us:=c.cells) O λb1 w1 hG mq gb=>x Qe<|Qf<|Qc<|x (Qo gb O O)<|xl O<|xf<|(Qeh (h.ext hG)).mono ?_
 rintro r2 V ⟨hH,vM,lM,rfl,hM,ms,g9⟩;have gc:=hG.trans hH;have mt:=hG.size;have mu:=hH.size;refine Qb<|x (Qj O O)<|x (Qj O O)<|x Qe<|Qf<|Qg<|Qc<|Qb<|x (Q6 O O)<|xe<|Q3 rfl (λhr=>?_) (λhr=>?_)
 ·rw[if_pos hr]at hp;subst hp;refine Qc<|Qb<|x Qe<|Qf ?_;exact Ql ⟨[nS,.int .i64 (Zi c.cel)],⟨O,O,Z⟩,gc,nS,O,λ_=>O,λI=>absurd I hr⟩
 rw[if_neg hr]at hp;have hck:=Ln.1 hr;have ka:qp c.cel:=(Z9 hck).sr;have h6:=g9 hck;have mv:lM.length≤96:=by have:=Qim ka;rw[←h6,Lh]at this;exact this
 have ge:Zy [] V.heap vM lM.length 3 (lM.flatMap YH):=hM.arr (by omega) (by simp);have mw:(rem c.cel).length≤8:=Jf _ _;have gg:=gb.ext hH;refine Qi<|Qc<|Qf<|Qg<|Qc<|Qb<|x (Qr ge O)<|Qb<|xe ?_
 refine Qh<|Qz (α:=Nat×Value×List AV) [(2,3),(6,6),(8,10),(25,42)] (λz=>[(6,z.2.1),(25,.int .i64 z.1)]) (λz w'=>z.1≤lM.length∧Step [] V w'∧AvP V.heap.size w' z.2.1 z.2.2∧z.2.2.map (·.a)=(lM.take z.1).map (λq=>ql c.cel q.m)∧msL c.cel ((lM.drop z.1).map MV.m)=E) (λz=>lM.length - z.1) (by rfl) (0,nS,[]) ⟨O,O,Z⟩
  ⟨Ll _,Step.refl _ _,X3.nil,O,by rw[List.drop_zero,h6];exact hp.symm⟩ ?_
 rintro⟨k,v,l⟩ g w3 ⟨hk,Y,ha,hs,G⟩;simp only[]at hk ha hs G;have h7:=gc.trans Y;have my:=Y.size;have mz:l.length=k:=by have:=congrArg List.length hs;rw[Lh,Lh,LC]at this;omega
 have hI:=gg.ext Y;have h3:=h.ext h7;refine Qc<|x (QA O O)<|xe<|Qg<|QC O (λhJ=>?_) (λhJ=>?_)
 ·refine Qy ?_;have gh:lM.length≤k:=by have hK:¬(k:Int)<(lM.length:Int):=hJ;omega
  rw[Lp gh]at hs;rw[Lv gh]at G;have gi:E=0:=G.symm;have kb:l.map (·.a)=(mods c.cel).map (ql c.cel):=by rw[hs,←h6,Mf];rfl
  refine Qc<|x (Qo hI O O)<|xl O<|xf<|(Qba h3).mono ?_;rintro r4 w4 ⟨h8,vR,rfl,_,kc⟩;have hR:=kc hck;have ke:=h7.trans h8;have m0:=h8.size;refine Qb<|x (Qj O O)<|x (Qj O O)<|x Qe<|Qf<|Qg<|Qc<|Qb<|x (Q6 O O)<|xe<|Q3 O (λgj=>?_) (λgj=>?_)
  ·exact absurd hck gj
  refine Qi ?_;have kf:QJ [] w4.heap vR (rem c.cel):=Qt.ints hR (by omega) (by simp);refine Qg<|Qc<|Qb<|x (Qr kf O)<|Qb<|xe ?_
  refine Qh<|Qz (α:=Nat×Value×List AV) [(6,6),(13,14),(53,78)] (λz=>[(6,z.2.1),(53,.int .i64 z.1)]) (λz w'=>z.1≤(rem c.cel).length∧Step (ob v) w4 w'∧AvP V.heap.size w' z.2.1 z.2.2∧z.2.2.map (·.a)=(mods c.cel).map (ql c.cel)++((rem c.cel).take z.1).map (coA c.cel)∧∀b∈ob z.2.1,b∈ob v∨w4.heap.size≤b) (λz=>(rem c.cel).length - z.1) (by rfl) (0,v,l) ⟨O,O,Z⟩
   ⟨Ll _,Step.refl _ _,X3.ext ha h8,by simp only[List.take_zero,List.map_nil,List.append_nil];exact kb,λb hb=>.inl hb⟩ ?_
  rintro⟨j,vj,lj⟩ g w5 ⟨hj,hu,he,hv,hN⟩;simp only[]at hj he hv hN;have hO:=Qq ha.own;have gk:=Qq he.own;have gl:Step [] w w5:=ke.then hu (λb hb=>.inr (by have:=(hO b hb).1;omega));have h5:=h.ext gl;have m1:=hu.size;have m2:lj.length≤200:=by
   have e1:=congrArg List.length hv;rw[Lh,Lj,Lh,Lh,LC,←h6,Lh]at e1;omega
  have kg:QT w5.heap b1 37 c.cells:=(hI.ext h8).step hu (λhb=>by have:=(hO b1 hb).1;have:=gg.lt;omega);have kh:QJ [] w5.heap vR (rem c.cel):=(((Qt.ints hR (by omega) (L:=ob v) (λb hb=>(hO b hb).2)).st hu)).up (by simp);refine Qc<|x (QA O O)<|xe<|Qg<|QC O (λhP=>?_) (λhP=>?_)
  ·refine Qy ?_;have ki:(rem c.cel).length≤j:=by have hK:¬(j:Int)<((rem c.cel).length:Int):=hP;omega
   rw[Lp ki,←g8]at hv;refine Qc<|Qb<|x Qe<|Qf ?_;exact Ql ⟨[vj,.int .i64 0],⟨O,O,Z⟩,gl,vj,by rw[gi];rfl,λI=>absurd gi I,λ_=>⟨QQ he.own,lj,hv,λL hL=>AvP.auts he (by omega) (λb hb=>by have:=hL b hb;omega)⟩⟩
  have hf:j<(rem c.cel).length:=by have hK:(j:Int)<((rem c.cel).length:Int):=hP;omega
  have gm:(rem c.cel).take (j+1)=(rem c.cel).take j++[(rem c.cel)[j]'hf]:=Li hf;have gn:=UG _ (Lc hf);refine Qi<|Qg<|Qh<|Qc<|xii (i:=j) kh O O hf λm3 gq=>?_;refine Zj ((rem c.cel)[j]'hf) λi hi=>?_;rw[hi]at gq gm gn;have kj:c.cel.co.length=c.co.length:=Lh ..;rw[kj]at gn;have kk:i=(i.toNat:Int):=by omega
  have hw:i.toNat<c.co.length:=by omega
  have hy:=Lc hw;have gr:coA c.cel i=(c.co[i.toNat]'hw).p.a:=by
   show((c.co.map IV.it).getD i.toNat _).a=_;simp[List.getD,hw,IV.it]
  refine x (Qv gq O)<|Qf<|Qc<|x (Qa O)<|x (Qd kg O O)<|Qb<|xig (g:=Zn) (i:=i.toNat) XN h5.co.arr O (congrArg (Value.int .i64) kk) hw λm4 gs=>?_;refine Zj (c.co[i.toNat]'hw) λq hq=>?_;rw[hq]at gs hy gr;have J:=h5.co.each q hy;refine x (Zf O)<|x (QI (us:=[q.p.va,.int .i64 q.p.a.st,q.p.vm,q.p.ve]) (gs.from 1) O O)<|xl O<|Qu (us:=[nS,.int .i64 0,nS,nS]) O λgt w6 kn ko hg =>
   xl rfl<|Qn (us:=[q.p.va,.int .i64 q.p.a.st,q.p.vm,q.p.ve]) hg O O O O ⟨J.al.one,O,J.mr.one,J.ed.one,Z⟩ λH kp hg=>xe ?_
  have hQ:Step [] w5 H:=kn.then1 kp ko;have hh:Step [] H { H with drawn:=H.drawn+1 }:=Step.drew _ _
  have m5:=hQ.size;have hB:gt∉ob vj:=λhm=>by have:=(gk gt hm).2;omega
  have hS:=J.ext hQ;refine QU (Step (ob vj) H) [(0,true),(1,true),(2,true),(4,true),(5,true),(6,true),(7,true),(9,true),(10,true),(3,false),(8,false),(11,false),(12,true),(13,false),(14,false),(15,true)] mixed (by rfl) (by kernel_rfl) (Step.drew _ _) ?_;refine p (λ_=>Qk)<|p (λ_=>Qa O)<|pq (λ_ hc=>Qd (hg.step hc hB) O O)<|p (λ_=>Qa O)<|pq (λ_ hc=>Qd (hg.step hc hB) O O) <|
   p (λ_=>Qa O)<|pq (λ_ hc=>Qd (hg.step hc hB) O O)<|p (λ_=>Qa O)<|pq (λ_ hc=>Qd (hg.step hc hB) O O) <|
   pk<|xf<|(Yt (hS.al.ext hh)).mono ?_
  rintro r8 w8 ⟨hl,hT⟩;refine⟨(hh.trans hl).any,?_⟩;refine pk<|xf<|(Yt ((hS.mr.ext hh).ext hl)).mono ?_;rintro r9 w9 ⟨hz,hU⟩;refine⟨((hh.trans hl).trans hz).any,?_⟩;refine pk<|xf<|(zZ (((hS.ed.ext hh).ext hl).ext hz)).mono ?_;rintro h1 m6 ⟨hV,hW⟩;have hC:=((hh.trans hl).trans hz).trans hV;refine⟨hC.any,?_⟩
  refine p (λ_=>QM ⟨Zp hT,O,Zp hU,Zp hW,Z⟩)<|pk<|QG (us:=[Zc ⟨r8,r9,h1,q.p.a⟩]) O O (by decide) (by simp) ⟨rfl,rfl,Z⟩ λm7 m8 hn m9 kq=>⟨(hC.trans hn).any,?_⟩;have hD:=(hQ.trans hC).trans hn;have pa:=hD.size;have pc:=hl.size;have pd:=hz.size;have pf:({ H with drawn:=H.drawn+1 }:World).heap.size=H.heap.size:=rfl
  refine pk<|Q4 (news:=Zc ⟨r8,r9,h1,q.p.a⟩) (L:=[]) (Qs he.own hD) O O O (kq.at (by simp)) (Qj0 (p:=⟨r8,r9,h1,q.p.a⟩) (QQ hT) (QQ hU) (QQ hW)) (by omega) (by omega) λgu kr kt hX gv=>⟨(hC.trans hn).any.trans' hX,?_⟩;refine p (λ_=>Qe)<|pe ?_;have hY:∀b∈ob vj,b<H.heap.size:=λb hb=>by have:=(gk b hb).2;omega
  have ku:AvP V.heap.size kr gu (lj++[⟨r8,r9,h1,q.p.a⟩]):=X3.app3 (X3.ext he hD) (λt ht=>by
   simp only[List.mem_cons,List.not_mem_nil,or_false]at ht;rcases ht with rfl|rfl|rfl
   ·exact Z3.of_own (Qs (Qs (Qs hT hz) hV) hn) J.al.le (by omega) (λb hb=>by have:=hY b hb;omega)
   ·exact Z3.of_own (Qs (Qs hU hV) hn) J.mr.le (by omega) (λb hb=>by have:=hY b hb;omega)
   exact Z3.of_own (Qs hW hn) J.ed.le (by omega) (λb hb=>by have:=hY b hb;omega)) kt hX gv
  refine Qw<|QP O O<|Qb<|xe<|⟨(j+1,gu,lj++[⟨r8,r9,h1,q.p.a⟩]),by simp only[];omega,⟨O,O,Z⟩,hf,(hu.trans hD).then hX hN,ku,?_,λb hb=>?_⟩
  ·simp only[];rw[gm,Lx,hv,Lx,LA,MA,MA,gr]
  rcases gv b hb with h9|h9
  ·exact hN b h9
  exact .inr (by omega)
 have U:k<lM.length:=by have hK:(k:Int)<(lM.length:Int):=hJ;omega
 have gx:lM.take (k+1)=lM.take k++[lM[k]'U]:=Li U;have hy:=Lc U;rw[LQ U,LX,V4]at G;have kv:=Ye.ext hM Y;have kw:=ge.ext Y;refine Qi<|Qg<|Qh<|Qc<|xig (g:=YH) (i:=k) Qn4 kw O O U λpg gy=>?_;refine Zj (lM[k]'U) λq hq=>?_;rw[hq]at gy gx hy G
 have gz:QJ [] w3.heap q.v q.co:=kv.each q hy [] (by simp);refine x (QI gy O O)<|xl O<|Qu (us:=[.int .i64 0,.int .i64 0,nS]) O λb8 ph kx kz hZ=>xl O<|Qn (us:=YH q) hZ O O O O ⟨O,O,gz.one,Z⟩ λg0 k0 hZ =>
  xe ?_
 have h2:Step [] w3 g0:=kx.then1 k0 kz;have g1:=h7.trans h2;have pj:=h2.size;refine Qc<|x (Qo (hI.ext h2) O O)<|x (Qo hZ O O)<|xl O<|xf<|(Qlv (q:=q) (h.ext g1) (gz.ext h2) (g7.ext g1)).mono ?_;rintro pn k4 ⟨k5,sa,st,sm,se,rfl,ho,k6,_⟩
 refine Qb<|x (Qj O O)<|x (Qj O O)<|xl O<|Qu (us:=[nS,.int .i64 0,nS,nS]) O λb9 po k7 k8 ga=>xl O<|Qn (us:=[sa,.int .i64 st,sm,se]) ga O O O O ⟨ho.1,O,ho.2.1,ho.2.2.1,Z⟩ λk9 ma ga =>
  Qf ?_
 have g2:Step [] k4 k9:=k7.then1 ma k8;have g3:=(h2.trans k5).trans g2;refine Qg<|Qc<|Qb<|x (Q6 O O)<|xe<|Q3 rfl (λh4=>?_) (λh4=>?_)
 ·rw[if_pos h4]at G;subst G;refine Qc<|Qb<|x Qe<|Qf ?_;exact Ql ⟨[nS,.int .i64 (yD c.cel q.m)],⟨O,O,Z⟩,h7.trans g3,nS,O,λ_=>O,λI=>absurd I h4⟩
 rw[if_neg h4]at G;obtain⟨mc,hA⟩:=k6 (Ln.1 h4);subst mc;have hge:=Qq ha.own;refine Qi<|Qw<|Qb<|x (Qo ga O O)<|xl O<|QG (us:=[Zc ⟨sa,sm,se,ql c.cel q.m⟩]) O O (by decide) (by simp) ⟨rfl,rfl,Z⟩ λpp pt g4 pu mf=>?_;have hF:=g3.trans g4;have pw:=hF.size
 refine xl rfl<|Q4 (news:=Zc ⟨sa,sm,se,ql c.cel q.m⟩) (L:=[]) (Qs ha.own hF) O O O (mf.at (by simp)) (Qj0 (p:=⟨sa,sm,se,ql c.cel q.m⟩) ho.1 ho.2.1 ho.2.2.1) (by omega) (by omega) λg5 mg mh g6 mj =>
  Qf ?_
 have mo:AvP V.heap.size mg g5 (l++[⟨sa,sm,se,ql c.cel q.m⟩]):=X3.app3 (X3.ext ha hF) (Zm.parts (N:=g0.heap.size) (p:=⟨sa,sm,se,ql c.cel q.m⟩) (λL hL=>((hA L hL).ext g2).ext g4) (by omega) (λb hb=>by have:=(hge b hb).2;omega)) mh g6 mj;refine Qw<|QP O O<|Qb<|xe ?_
 refine⟨(k+1,g5,l++[⟨sa,sm,se,ql c.cel q.m⟩]),by simp only[];omega,⟨O,O,Z⟩,U,(Y.trans hF).then g6 (λb hb=>.inr (hge b hb).1),mo,?_,G⟩;simp only[];rw[gx,Lx,hs,Lx];rfl
instance ayZi1:Ay prog 26 3 25 27:=⟨by kernel_rfl,by kernel_rfl⟩
instance ayZi2:Ay prog 28 2 5 1:=⟨by kernel_rfl,by kernel_rfl⟩
abbrev z27:LV:=List.replicate 27 (.int .u8 0)
theorem Qlb (p:Int×Int):∀u∈Zb p,u.oneCell'=true:=by
 intro y hy;simp only[Zb,List.mem_cons,List.not_mem_nil,or_false]at hy;rcases hy with rfl|rfl <;> rfl
set_option maxHeartbeats 16000000 in
theorem QdH {w:World}{l:LnV}(h:LnA [] w.heap l):
  QH prog 9 [.agg (Xh l).toArray] w λr w'=>Step [] w w'∧∃k,QmY w.heap.size w'.heap r k∧LnC k:=by
 have hln:=Qiz h.n;have g81:=Qb7 h.n 0;have g82:=Qb7 h.n 1;have m5:=Qb7 h.n 2;have g84:=Qb7 h.n 3;have g85:=Qb7 h.n 4;have hct:=h.ct;have hcl:=h.cl;have hx0:=h.x0;have kg:=h.x1;have hrl:=h.r.le;refine Zj (1+l.ct % 3) λn hn=>?_;have hn3:1≤n∧n≤3:=by omega
 let fl:Nat→Bool:=λk=>decide (((l.cl / 2 ^ k &&& 1:Nat):Int)=1);refine QH.of_W func9 O ntmps9 results9 (by simp) ?_;refine Qc<|xl O<|QR (us:=Xh l) O λb1 w1 m6 hb1 m7=>xl O<|Qu (us:=Xf) O λb2 w2 kh hb2 m8=>xe ?_;refine Qc<|xl O<|Qu (us:=Xf) O λE I gq hb3 m9=>xe ?_;have ki:=(m6.trans kh).trans gq;have hs13:=kh.trans gq;have hz1:=m6.size;have hz2:=kh.size;have hz3:=gq.size
 have hl1:=m7.lt;have hl2:=m8.lt;have hE:=m9.lt;have gs:=m7.ext hs13;have hB23:=m8.ext gq;have gt:b1∉[E]:=by simp only[List.mem_singleton];omega
 have n23:b2∉[E]:=by simp only[List.mem_singleton];omega
 have hR3:Zy [E] I.heap l.vr l.rs.length 28 (l.rs.flatMap Yy):=(h.r.up (L':=[E]) (λb hb=>.inr (by simp only[List.mem_singleton]at hb;omega))).ext ki
 refine QX (α:=Value×List Vp) [(4,4),(15,35)] (λ_=>[]) (λz w'=>Step [E] I w'∧QT w'.heap E 37 [z.1,Zg,Zg,Zg,Zg]∧w'.ownsRow I.heap.size 89 5 z.1 z.2.length (z.2.flatMap Zv)∧z.2.length=5∧(∀e∈z.2,yC e.nm)∧z.2=(List.range 5).map (evL fl)) (by rfl) ?_ ?_
 ·refine Qc<|Qf<|Qh<|Qz (α:=Nat×Value×List Vp) [(4,4),(15,35)] (λz=>[(4,.int .i64 z.1)]) (λz w'=>z.1≤5∧Step [E] I w'∧QT w'.heap E 37 [z.2.1,Zg,Zg,Zg,Zg]∧w'.ownsRow I.heap.size 89 5 z.2.1 z.2.2.length (z.2.2.flatMap Zv)∧z.2.2.length=z.1∧(∀e∈z.2.2,yC e.nm)∧z.2.2=(List.range z.1).map (evL fl)) (λz=>5 - z.1) (by rfl) (0,Zg,[]) La
   ⟨Ll _,Step.refl _ _,m9,QN _ _ _ _,O,(λe he=>by cases he),rfl⟩ ?_
  rintro⟨k,v,ev⟩ g w4 ⟨hk,hK,hM,hu,gu,Y,hN⟩;simp only[]at hk hM hu gu Y hN;have hz4:=hK.size;refine Qg<|Qc<|Qb<|x (QA O O)<|xe<|QC O (λkj=>?_) (λkj=>?_)
  ·refine Qy ?_;have hke:k=5:=by have h17:¬(k:Int)<5:=kj;omega
   rw[hke]at hN;exact⟨(v,ev),Z,hK,hM,hu,by simp only[];omega,Y,hN⟩
  have hT:k<5:=by have h17:(k:Int)<5:=kj;omega
  refine Qi ?_;have hv:E∉ob v:=Q0 hu hE;have kk:b1∉ob v:=Q0 hu (by omega);have hB14:=gs.step hK gt;have hdv:l.cl / 2 ^ k<256:=Nv (Nat.div_le_self _ _) hcl;have kn:Step [] w4 { w4 with drawn:=w4.drawn+1 }:=Step.drew _ _
  refine Qg<|Qh<|QU (Step (ob v) w4) [(0,true),(1,true),(2,true),(3,true),(4,true),(7,true),(8,true),(9,true),(10,true),(11,true),(12,true),(5,false),(6,false),(13,true),(14,false),(15,false),(16,true),(17,false)] mixed (by rfl) (by kernel_rfl) (Step.drew _ _) ?_
  refine p (λ_=>Qa O)<|pq (λ_ hc=>Qd (hM.step hc hv) O O)<|p (λ_=>Qk)<|p (λ_=>Xr (k':=.u8) O ⟨by omega,by omega⟩)<|p (λ_=>JB O O ⟨by omega,by omega⟩) <|
   p (λ_=>Qa O)<|pq (λ_ hc=>Qd (hB14.step hc kk) O g85)<|p (λ_=>Qk)<|p (λ_=>ze (n:=k) O O (by show k≤8;omega))<|p (λ_=>Qdx (a:=l.cl / 2 ^ k) (b:=1) (congrArg (Value.int .u8) (qw l.cl k)) O hdv (by decide)) <|
   p (λ_=>Zr O O)<|pk<|QG (us:=[[.int .u8 ((97:Int)+(k:Int))]]) O O (by decide) (by simp) ⟨rfl,rfl,Z⟩ λb24 w5 hU hb24 hB24=>⟨(kn.trans hU).any,?_⟩
  have e97:((97:Int)+(k:Int))=((97+k:Nat):Int):=by omega
  have hB24':QT w5.heap b24 5 [.int .u8 ((97+k:Nat):Int)]:=by rw[←e97];exact hB24
  refine pk<|xv (Qdt (n:=97+k) hB24' (by omega) O) ⟨(kn.trans hU).any,?_⟩;refine Zj (Vp.mk ⟨#[UInt8.ofNat (97+k)]⟩ (decide (((l.cl / 2 ^ k &&& 1:Nat):Int)=1)) false false 0) λe he=>?_;refine p (λ_=>QM ⟨O,O,Z⟩)<|pk<|QG (us:=[Zv (Vp.mk ⟨#[UInt8.ofNat (97+k)]⟩ (decide (((l.cl / 2 ^ k &&& 1:Nat):Int)=1)) false false 0)]) O O (by decide) (show 1*5≤1000000 by omega) ⟨O,O,Z⟩ λb33 w6 gc hb33 pa=>?_
  rw[he]at pa;have hV:=(kn.trans hU).trans gc;have hz46:=hV.size;refine⟨hV.any,?_⟩;refine pk<|Q4 (news:=Zv e) (L:=[]) (Qs hu hV) O O O (pa.at (by simp)) (Qjm e) (by omega) (by omega) λv7 w7 ko hF hn7=>⟨(hV.any (L:=ob v)).trans' hF,?_⟩;have hone:=QQ ko;refine p (λ_=>Qa O)<|pkl (hl:=by kernel_rfl)<|QF ((hM.ext hV).step hF hv) O O (by simp) hone λw8 hG gv=>pe ?_
  have hge:=Qq hu;have hge7:∀b∈ob v7,I.heap.size≤b:=λb hb=>(Qq ko b hb).1;refine Qw<|Qb<|QP O O<|Qf<|⟨(k+1,v7,ev++[e]),by simp only[];omega,La,hT,((hK.trans hV).then hF (λb hb=>.inr (hge b hb).1)).trans' hG,gv,?_,by simp[gu],λd hd=>?_,?_⟩
  ·have h9:=Qm ko hG (λb hb=>by have:=hge7 b hb;simp only[List.mem_singleton];omega);simp only[List.length_append,List.flatMap_append];simpa using h9
  ·rcases Lo.1 hd with hd|hd
   ·exact Y d hd
   rw[Lb.1 hd,←he];exact X6 (by simp)
  show ev++[e]=(List.range (k+1)).map (evL fl);rw[List.range_succ,Lx,←hN,←he];rfl
 rintro⟨ve,ev⟩ g4 w4 ⟨hK,hM,hu,gu,Y,hN⟩;simp only[]at hM hu gu Y hN;have hz4:=hK.size;have FE4:∀L:LN,(∀b∈L,b<I.heap.size)→KA L w4.heap ve ev:=λL G=>⟨QV hu (by omega) (λb hb ge=>by have:=(Qq hu b hb).1;have:=G b ge;omega),Y⟩
 refine Qc<|xl O<|QG (us:=[[.int .i64 0]]) O O (by decide) (by simp) ⟨rfl,rfl,Z⟩ λpc w5 hU hb36 pd=>xl rfl<|QG (us:=[[.int .i64 1],[.int .i64 2]]) rfl rfl (by decide) (by simp) ⟨rfl,rfl,rfl,rfl,Z⟩ λpf w6 gc hb37 pg =>
  xl rfl<|QG (us:=[[.int .i64 3],[.int .i64 4]]) O O (by decide) (by simp) ⟨rfl,rfl,rfl,rfl,Z⟩ λph w7 hF hb38 pj=>xl rfl<|QG (us:=[[.slice (some ⟨pc,0,none⟩) 1 1],[.slice (some ⟨pf,0,none⟩) 2 2],[.slice (some ⟨ph,0,none⟩) 2 2]]) rfl rfl (by decide) (by simp) ⟨rfl,rfl,rfl,rfl,rfl,rfl,Z⟩ λpn w8 hG hb39 po =>
  Qf<|Qc<|Qf ?_
 have hz5:=hU.size;have hz6:=gc.size;have hz7:=hF.size;have hz8:=hG.size;have kp:=((hU.trans gc).trans hF).trans hG;have pp:=hK.trans kp;have kq:∃tl:List TV,tl.length=3∧(∀i (h:i<tl.length),∃tv,tl[i]'h=(tv,JL i))∧∀L:LN,(∀b∈L,b<w4.heap.size∨w8.heap.size≤b)→XQ L w8.heap (.slice (some ⟨pn,0,none⟩) 3 3) tl:=by
  have k36:=pd.lt;have k37:=pg.lt;have k38:=pj.lt;have k39:=po.lt;refine⟨[(.slice (some ⟨pc,0,none⟩) 1 1,JL 0),(.slice (some ⟨pf,0,none⟩) 2 2,JL 1),(.slice (some ⟨ph,0,none⟩) 2 2,JL 2)],O,λi hi=>?_,λL G=>?_⟩
  ·have h3:i=0∨i=1∨i=2:=by have:i<3:=hi;omega
   rcases h3 with rfl|rfl|rfl
   ·exact⟨_,O⟩
   ·exact⟨_,O⟩
   exact⟨_,O⟩
  have nL:∀{b:Nat},w4.heap.size≤b→b<w8.heap.size→b∉L:=λh1 h2 hm=>by have:=G _ hm;omega
  refine⟨po.arr (nL (by omega) k39) (n:=3) (cap:=3) (sz:=1) O (by omega) (Lu _),λq hq=>?_⟩;simp only[List.mem_cons,List.not_mem_nil,or_false]at hq;rcases hq with rfl|rfl|rfl
  ·exact(((pd.ext gc).ext hF).ext hG).arr (nL (by omega) (by omega)) (n:=1) (cap:=1) (sz:=1) O (by omega) (Lu _)
  ·exact((pg.ext hF).ext hG).arr (nL (by omega) (by omega)) (n:=2) (cap:=2) (sz:=1) O (by omega) (Lu _)
  exact(pj.ext hG).arr (nL (by omega) (by omega)) (n:=2) (cap:=2) (sz:=1) O (by omega) (Lu _)
 obtain⟨tl,htl3,htlq,kq⟩:=kq;refine QX (α:=Value×Value×List IV) [(6,8),(40,80)] (λz=>[(6,z.2.1)]) (λz w'=>Step [E] w8 w'∧QT w'.heap E 37 [ve,z.1,Zg,Zg,Zg]∧yF w8.heap.size w' z.1 z.2.1 z.2.2 (yn n)∧z.2.2.length=n∧LnK (z.2.2.map IV.it)) (by rfl) ?_ ?_
 ·refine Qc<|Qf<|Qh<|Qz (α:=Nat×Value×Value×List IV) [(6,8),(40,80)] (λz=>[(6,z.2.2.1),(7,.int .i64 z.1)]) (λz w'=>z.1≤n∧Step [E] w8 w'∧QT w'.heap E 37 [ve,z.2.1,Zg,Zg,Zg]∧yF w8.heap.size w' z.2.1 z.2.2.1 z.2.2.2 (yn z.1)∧z.2.2.2.length=z.1∧LnK (z.2.2.2.map IV.it)) (λz=>n - z.1) (by rfl) (0,Zg,Zg,[]) ⟨O,O,Z⟩
   ⟨Ll _,Step.refl _ _,hM.ext kp,yF.nil,O,λk hk=>absurd hk (Me k)⟩ ?_
  rintro⟨i,vc,va,co⟩ g w9 ⟨hi,h4,hW,ha,gg,kr⟩;simp only[]at hi hW ha gg kr;have hz9:=h4.size;have gx:Step [E] I w9:=pp.trans' h4;have pt:=gs.step gx gt;have g81':(Xh l)[81]?=some (.int .u8 (l.ct:Int)):=g81
  refine Qg<|Qc<|Qb<|x (Qa O)<|x (Qd pt O g81')<|x (zf (a:=(l.ct:Int)) (b:=3) O O (by omega) (by omega))<|x (Xr (k':=.i64) O ⟨by omega,by omega⟩)<|QP O O<|x (QA O O) <|
   xe ?_
  refine QC O (λkt=>?_) (λkt=>?_)
  ·refine Qy ?_;have h47:¬(i:Int)<1+(l.ct:Int) % 3:=kt;have hie:i=n:=by omega
   rw[hie]at ha gg;exact⟨(vc,va,co),La,h4,hW,ha,gg,kr⟩
  have h47:(i:Int)<1+(l.ct:Int) % 3:=kt;have hT:i<n:=by omega
  refine Qi ?_;have gy:(grN l.ns (0+0+i*27)).length=27:=Qon (by have:=h.n;omega);have ku:=QpX (o:=0+0+i*27) h.b;have pu:=λj u=>QpP (l:=l) (o:=0+0+i*27) j u;refine Zj (grN l.ns (0+0+i*27)) λgr kv=>?_;rw[kv]at gy ku pu;have q0:=U0 (ns:=gr) (j:=0) (by omega);have q0l:=Vh ku 0;refine Zj (gr.getD 0 0) λs0 kw=>?_;rw[kw]at q0 q0l
  refine Qg<|Qh<|Qc<|Qb<|x (Qa O)<|x (Xe (i:=i) O O (by omega))<|x (Qgf (us:=bys gr) pt O (by rw[YJ];exact gy) pu)<|xl O<|Qu (us:=z27) O λb8 h6 hf pw gv=>xl O<|Qn (us:=bys gr) gv O O (by rw[YJ];exact gy) O (yh gr) λhC hw pz =>
   xe ?_
  have hs911:Step [] w9 hC:=hf.then1 hw pw;refine Qc<|x (Qa O)<|x (Qd pz O q0)<|x (zf (a:=(s0:Int)) (b:=3) O O (by omega) (by omega))<|x (Qa O)<|xl O<|QF (u:=.int .u8 ((s0 % 3:Nat):Int)) pz O (congrArg (Value.int .u8) (by omega:(s0:Int) % 3=((s0 % 3:Nat):Int))) (by rw[YJ];omega) O λH hj kx =>
   xe ?_
  rw[QcP]at kx;have hl8:=gv.lt;have gh:Step [] w9 H:=hs911.then1 hj pw;have hz912:=gh.size;have p0:=hf.size;have hz11:=hw.size;have p4:=hW.ext gh;have kz:=ha.ext gh;have hv:E∉ob vc:=Q0 kz.c (by omega);have hn8v:b8∉ob vc:=λhm=>by have:=QY ha.c b8 hm;omega
  have hO:(gr.set 0 (s0 % 3)).length=27:=by rw[MW];exact gy
  have gi:=QeD (n:=s0 % 3) ku (by omega);have gj:=QbJ (ns:=gr) (n:=s0 % 3) (by omega);refine Zj (gr.set 0 (s0 % 3)) λk0 k5=>?_;rw[k5]at kx hO gi gj;have k6:XQ (E::(ob vc++ob va)) H.heap (.slice (some ⟨pn,0,none⟩) 3 3) tl:=by
   have h1:=kq (E::(ob vc++ob va)) (λb hb=>by
    rcases Le.1 hb with rfl|hb
    ·exact .inl (by omega)
    rcases Lo.1 hb with hb|hb
    ·exact .inr (Qq ha.c b hb).1
    exact .inr (Qq ha.a b hb).1)
   exact(h1.st (h4.mono (by simp))).ext gh
  have gz:i<tl.length:=by omega
  obtain⟨tv,k7⟩:=htlq i gz;have k8:=Lc gz;rw[k7]at k8;have hsI:=QhA i;have k9:(48:Int)+(i:Int)=((48+i:Nat):Int):=by omega
  refine QX (α:=Value×List IV) [(57,74)] (λ_=>[]) (λz w'=>Step (E::ob vc) H w'∧QT w'.heap E 37 [ve,z.1,Zg,Zg,Zg]∧yF w8.heap.size w' z.1 va z.2 (yn i)∧z.2.length=i+1∧LnK (z.2.map IV.it)) (by rfl) ?_ ?_
  ·refine Zj (⟨#[109]⟩++⟨#[UInt8.ofNat (48+i)]⟩:ByteArray) λnm Y=>?_;have hnmB:yC nm:=by rw[←Y];show(ByteArray.size _)≤_;rw[ByteArray.size_append];show 1+1≤_;omega
   refine Qc0 (α:=AV) (Step (ob vc) H) (Step [] H) [(0,true),(1,true),(2,true),(3,true),(4,true),(8,true),(9,true),(10,true),(11,true),(12,true)] (λi=>if i=6 then[5]else if i=7 then[6]else[]) [5,6,7,13] [(14,true),(15,false),(16,false),(17,true),(18,false)] [(62,64),(70,70)] (mkP H.heap.size (48+i) nm (JL i))
    (λz=>[(64,.string nm),(70,QjZ z)]) (λz w'=>Qpc H.heap.size (JL i) w' z) mixed (by rfl) (by kernel_rfl) (Step.drew _ _) (λ_ h=>h.any) (λ_ _ h1 h2=>h1.trans h2) Qe1 ?_ ?_
   ·rintro g w' ⟨_,_,h7,⟨q,e,hA⟩,_⟩ hdj;exact⟨q,⟨h7,e,Z⟩,hA⟩
   refine p (λ_=>Qa O)<|pq (λ_ hc=>Qd (p4.step hc hv) O O)<|p (λ_=>Qk)<|p (λ_=>Xr (k':=.u8) O ⟨by omega,by omega⟩)<|p (λ_=>JB O O ⟨by omega,by omega⟩) <|
    p (λ_=>Qk)<|p (λ_=>Qk)<|Go.Lg.pig (g:=Z7) (i:=i) O (λ_=>O) k6.arr O O gz λa67 p5=>?_
   rw[k7]at p5;refine pq (λ_ hc=>Qv (p5.step hc (λb hb=>by simp[hb])) rfl)<|pq (λ_ hc=>Qo (kx.step hc hn8v) rfl (by rw[YJ];exact hO))<|pe ⟨⟨?_,?_,?_,?_,Z⟩,?_⟩
   ·intro g w' hc _;exact QG (us:=[[.int .u8 ((48:Int)+(i:Int))]]) O O (by decide) (by simp) ⟨rfl,rfl,Z⟩ λb hh J hb hB=>⟨J,⟨b,rfl,by rw[←k9];exact hB⟩,λc U=>by rw[Lb.1 (show c∈[b] from U)];exact⟨hb,hB.lt⟩⟩
   ·rintro g w' hc ⟨⟨b,e,hB⟩,_⟩;exact xv (Qdt (n:=48+i) hB (by omega) e) ⟨Step.refl _ _,O,λc U=>by cases U⟩
   ·rintro g w' hc ⟨e,_⟩;exact xv (J8 (a:=⟨#[109]⟩) (b:=⟨#[UInt8.ofNat (48+i)]⟩) O e (by show 1+1≤1000000000;omega)) ⟨Step.refl _ _,congrArg Value.string Y,λc U=>by cases U⟩
   ·intro g w' hc _;have hz:=hc.size;have hi1:QJ (E::(ob vc++ob va)) w'.heap tv (JL i):=(k6.each _ k8).ext hc;refine xf<|(jq (ns:=k0) hi1 (QkW i) (QhB i) hO gi).mono ?_;rintro r hh ⟨J,a,⟨xa,xm,ma,rfl,hA⟩,hok,h5,mc,mf⟩;obtain⟨a0,k1,k2,k3,k4⟩:=mf (by omega);rw[gj]at k3
    exact⟨J,⟨⟨xa,xm,ma,a⟩,O,λL G=>hA L (λb hb=>by have:=G b hb;omega),yW.of k1 k2 k3 k4 (by omega),mc⟩,λc U=>by cases U⟩
   rintro q g hh mg ⟨p6,hG13,hL13⟩;have p7:=mg.size;have hP:=p6 [] (by simp);refine p (λ_=>ZD [(0,[.string nm]),(1,[q.va,.int .i64 q.a.st,q.vm,q.ve])] ⟨O,O,O,O,Z⟩)<|pk<|QG (us:=[Zn ⟨nm,q⟩]) O O (by decide) (show 1*5≤1000000 by omega) ⟨O,O,Z⟩ λb72 gk ho hb72 hB72=>⟨(mg.trans ho).any,?_⟩;have g0:=mg.trans ho;have hz14:=ho.size;have p8:=kz.ext g0
   refine pk<|Q4 (news:=Zn ⟨nm,q⟩) (L:=[]) p8.c O O O (hB72.at (by simp)) (Qfh hP.al.one hP.mr.one hP.ed.one) (by omega) (by omega) λhH hX hp hg mh=>⟨(g0.any (L:=ob vc)).trans' hg,?_⟩;have hM15:=p8.setC (Qce (q:=⟨nm,q⟩) (N:=H.heap.size) (λL G=>(p6 L G).ext ho) (by omega) kz.avlt) hp hg mh
   refine p (λ_=>Qa O)<|pkl (hl:=by kernel_rfl)<|QF ((p4.ext g0).step hg hv) O O (by simp) (QQ hp) λhs V hI=>pe ?_
   refine⟨(hH,co++[⟨nm,q⟩]),Z,((g0.any (L:=E::ob vc)).trans' (hg.mono (λb hb=>Lk _ hb))).trans' (V.mono (by simp)),hI,hM15.low V (λb hb=>by rw[List.mem_singleton.1 hb];omega),by simp only[List.length_append,List.length_singleton];omega,?_⟩;show LnK ((co++[(⟨nm,q⟩:IV)]).map IV.it);rw[Lx,MA]
   exact kr.snoc (by rw[Lh,gg];exact Y.symm) hG13 (by rw[Lh,gg];exact hL13)
  rintro⟨vc2,co2⟩ g16 hs ⟨V,hI,g1,p9,qc⟩;simp only[]at hI g1 p9 qc;have hz16:=V.size;have hgeC:=Qq ha.c;have hgeA:=Qq ha.a;have hs816:Step [E] w8 hs:=(h4.trans gh).then V (λb hb=>by
   rcases Le.1 hb with rfl|hb
   ·exact .inl (by simp)
   exact .inr (hgeC b hb).1)
  have qo:=k6.st (V.mono (L':=E::(ob vc++ob va)) (λb hb=>by
   rcases Le.1 hb with rfl|hb
   ·simp
   simp[hb]))
  have hIt:QJ (E::(ob vc++ob va)) hs.heap tv (JL i):=qo.each _ k8;obtain⟨ta,tc,hte,hta⟩:=Zy.full hIt hsI.1;have hal5:=QfT i;refine Qw<|Qb<|Qb<|Qb<|Go.Lg.xig (g:=Z7) (i:=i) (λ_=>O) qo.arr O O gz λa78 qr=>?_;rw[k7]at qr
  refine x (Qv qr O)<|xl O<|Q4 (news:=(JL i).map (.int .i64)) g1.a O (show Go.Lg.ev _ _=_ from hte) (by simp) hta (by simp[Value.oneCell']) (by omega) (by omega) λq4 g2 ho17 hQ hn17 =>
   Qf ?_
  have ho17':Qt 3 w8.heap.size g2 q4 (yn (i+1)):=by
   rw[Qj1 (by omega)];unfold Qt;rw[Lj,Lx];exact ho17
  have hM17:=g1.setA ho17' hQ hn17;refine Qw<|Qb<|QP O O<|Qf ?_;exact⟨(i+1,vc2,q4,co2),by simp only[];omega,⟨O,O,Z⟩,hT,hs816.then hQ (λb hb=>.inr (hgeA b hb).1),hI.step hQ (Q0 g1.a (by omega)),hM17,p9,qc⟩
 rintro⟨vc,va,co⟩ g9 w9 ⟨h4,hW,ha,q9,mj⟩;simp only[]at hW ha q9 mj;have j1:∀q∈co,yC q.nm∧yW q.p.a:=λq hq=>by
  obtain⟨k,hk,rfl⟩:=LB hq;have h9:=mj k (by rw[Lh];exact hk);rw[LK]at h9;exact⟨by have h8:(co[k]'hk).nm=nmI 109 k:=h9.1;rw[h8];exact jl _ _,h9.2.1⟩
 have hz9:=h4.size;have gx:Step [E] I w9:=pp.trans' h4;have FE9:=Ul (λL G=>(FE4 L G).ext kp) hE h4;have FI9:∀L:LN,(∀b∈L,b<I.heap.size)→Xm L w9.heap vc co:=λL G=>ha.itms (by omega) (λq hq=>(j1 q hq).1) (λb hb=>by have:=G b hb;omega);have hal5:=QfT n
 refine QX (α:=Value×List IV) [(9,11),(81,128)] (λ_=>[]) (λz w'=>Step [E] w9 w'∧QT w'.heap E 37 [ve,vc,z.1,Zg,Zg]∧IvP w9.heap.size w' z.1 z.2∧z.2.length≤2∧LnQ n 2 (z.2.map IV.it)) (by rfl) ?_ ?_
 ·refine Qc<|Qf<|Qh<|Qz (α:=Nat×Value×List IV) [(9,11),(81,128)] (λz=>[(9,.int .i64 z.1)]) (λz w'=>z.1≤2∧Step [E] w9 w'∧QT w'.heap E 37 [ve,vc,z.2.1,Zg,Zg]∧IvP w9.heap.size w' z.2.1 z.2.2∧z.2.2.length≤z.1∧LnQ n z.1 (z.2.2.map IV.it)) (λz=>2 - z.1) (by rfl) (0,Zg,[]) La
   ⟨Ll _,Step.refl _ _,hW,X3.nil,Lu _,LnQ.nil n⟩ ?_
  rintro⟨i,vr,rq⟩ g h6 ⟨hi,hf,ht,h0,mo,hJ⟩;simp only[]at hi ht h0 mo hJ;have p0:=hf.size;have gl:Step [E] I h6:=gx.trans' hf;have hY:=gs.step gl gt;have mq:=hR3.st gl;have ms:(Xh l)[82]?=some l.vr:=g82;refine Qg<|QX (α:=Unit) [(81,89)] (λz=>[(89,.bool (decide (i<l.rs.length∧i<2)))]) (λz w'=>w'=h6) (by rfl) ?_ ?_
  ·refine Qw<|Qb<|x (Qa O)<|x (Qd hY O ms)<|x (Qr mq O)<|xb (QA O O) (λj2=>?_) (λj2=>?_)
   ·refine Qb<|Qb<|x (QA O O)<|x (Qp O)<|xe<|⟨(),⟨congrArg Value.bool ?_,Z⟩,O⟩;exact decide_eq_decide.2 ⟨λe=>⟨by omega,by omega⟩,λe=>by omega⟩
   refine Qb<|xs O<|xs O<|x (Qp O)<|xe ?_;exact⟨(),⟨congrArg Value.bool (decide_eq_false (λe=>j2 (by omega))).symm,Z⟩,O⟩
  rintro _ g11 hC rfl;refine QC O (λmt=>?_) (λmt=>?_)
  ·refine Qy ?_;exact⟨(vr,rq),Z,hf,ht,h0,by simp only[];omega,hJ.le hi⟩
  have mu:i<l.rs.length:=mt.1;have hi2:i<2:=mt.2;refine Qi<|Qg<|Qh<|Qc<|x (Qa O)<|x (Qd hY O ms)<|Qb<|Go.Lg.xig (g:=Yy) (i:=i) Qat mq O O mu λa95 j3=>?_;refine Zj (l.rs[i]'mu) λpr j4=>?_;rw[j4]at j3;have g3:(pr.1.drop 1).length=27:=by rw[Mw,pr.2.1]
  have mv:∀n∈pr.1.drop 1,n<256:=λn hn=>pr.2.2 n (MS hn);have za:At [E] hC.heap (a95.add 1) (bys (pr.1.drop 1)):=by
   have h1:=j3.from 1;rw[show(Yy pr).drop 1=bys (pr.1.drop 1) by simp[Yy,bys]]at h1;exact h1
  have zb:=U0 (ns:=pr.1) (j:=0) (by rw[pr.2.1];omega);have zv:=Vh pr.2.2 0;refine Zj (pr.1.getD 0 0) λm0 hm0=>?_;rw[hm0]at zb zv;refine Zj (pr.1.drop 1) λgr kv=>?_;rw[kv]at g3 mv za;have q0:=U0 (ns:=gr) (j:=0) (by omega);have q0l:=Vh mv 0;refine Zj (gr.getD 0 0) λs0 kw=>?_;rw[kw]at q0 q0l
  refine x (Zf O)<|x (QI (us:=bys gr) za O (by rw[YJ];exact g3))<|xl O<|Qu (us:=z27) O λb10 H hj z0 z1=>xl O<|Qn (us:=bys gr) z1 O O (by rw[YJ];exact g3) O (yh gr) λhh J z2 =>
   xe ?_
  have hs1113:Step [] hC hh:=hj.then1 J z0;refine Qc<|x (Qa O)<|x (Qd z2 O q0)<|x (zf (a:=(s0:Int)) (b:=3) O O (by omega) (by omega))<|x (Qa O)<|xl O<|QF (u:=.int .u8 ((s0 % 3:Nat):Int)) z2 O (congrArg (Value.int .u8) (by omega:(s0:Int) % 3=((s0 % 3:Nat):Int))) (by rw[YJ];omega) O λgk ho mw =>
   xe ?_
  rw[QcP]at mw;have hl10:=z1.lt;have gm:Step [] hC gk:=hs1113.then1 ho z0;have hz12:=hj.size;have hz13':=J.size;have hz1114:=gm.size;have hO:(gr.set 0 (s0 % 3)).length=27:=by rw[MW];exact g3
  have gi:=QeD (n:=s0 % 3) mv (by omega);have gj:=QbJ (ns:=gr) (n:=s0 % 3) (by omega);refine Zj (gr.set 0 (s0 % 3)) λk0 k5=>?_;rw[k5]at mw hO gi gj;have hva11:Qt 3 w8.heap.size hC va (yn n):=Qm ha.a hf (λb hb hm=>by rw[Lb.1 hm]at hb;exact Q0 ha.a (by omega) hb)
  refine Qc<|x (Qa O)<|x (Qd (hY.ext gm) O ms)<|Qb<|Go.Lg.xig (g:=Yy) (i:=i) Qat (mq.ext gm) O O mu λa105 z3=>?_;rw[j4]at z3;refine x (Zf O)<|x (Qv (z3.fld 0 _ zb) O)<|xl O<|xf<|(QdS m0 zv _).mono ?_;rintro hH hX ⟨hg,hp⟩;have hsk:=Jf m0 5;have hva15:QJ [] hX.heap va (yn n):=(Qt.ints (L:=[]) (Qs hva11 (gm.trans hg)) (by omega) (by simp))
  refine Qb<|xl O<|xf<|(Qbc (Qt.ints (L:=[]) hp (by omega) (by simp)) hva15 (by omega)).mono ?_;rintro v16 hs ⟨V,z4⟩;have z5:=qD (· && ·) _ (setK m0 5) (yn n) (Lu _) (JV m0 5) (Qa9 n);have hml:=V5 (· && ·) (setK m0 5) (yn n);have z9:∀e∈mrg (· && ·) (setK m0 5) (yn n),0≤e∧e<32:=λe he=>by
   have h1:=((Kf (keep:=(· && ·)) (JV m0 5) (Qa9 n)) e).1 he;rcases h1.1 with h2|h2
   ·have:=QkT m0 5 e h2;omega
   exact Qo1 n e h2
  have hm5:∀e∈mrg (· && ·) (setK m0 5) (yn n),e∈yn n:=λe he=>by
   have h2:=(((Kf (keep:=(· && ·)) (JV m0 5) (Qa9 n)) e).1 he).2;rw[Lt]at h2;exact of_decide_eq_true h2.2
  refine Zj (mrg (· && ·) (setK m0 5) (yn n)) λst hst=>?_;rw[hst]at z4 z5 hml z9 hm5;refine Qf ?_;have my:=hg.trans V;have hZ:=gm.trans my;have hz1416:=my.size;have hz15:=hg.size;have hz16:=V.size;have hI16:=Qt.ints (L:=[]) z4 (by omega) (by simp);refine Qc<|Qb<|x (Qr hI16 O)<|x (ZR O O)<|xe<|QC O (λmz=>?_) (λmz=>?_)
  ·refine Qi<|Qw<|Qb<|QP O O<|Qf ?_;exact⟨(i+1,vr,rq),by simp only[];omega,La,by simp only[];omega,hf.trans hZ,ht.ext hZ,h0.ext hZ,by simp only[];omega,hJ.le (Nat.le_succ i)⟩
  have hv:E∉ob vr:=Q0 h0.own (by omega);have hn10v:b10∉ob vr:=λhm=>by have:=QY h0.own b10 hm;omega
  have hge10:=Qq h0.own;have k9:(48:Int)+(i:Int)=((48+i:Nat):Int):=by omega
  have hB316:=ht.ext hZ;have hB1016:=mw.ext my;refine Zj (⟨#[114]⟩++⟨#[UInt8.ofNat (48+i)]⟩:ByteArray) λnm Y=>?_;have hnmB:yC nm:=by rw[←Y];show(ByteArray.size _)≤_;rw[ByteArray.size_append];show 1+1≤_;omega
  have hR16:=h0.ext hZ;refine Qc0 (α:=AV) (Step (ob vr) hs) (Step [] hs) [(0,true),(1,true),(2,true),(3,true),(4,true),(8,true),(9,true)] (λi=>if i=6 then[5]else if i=7 then[6]else[]) [5,6,7,10] [(11,true),(12,false),(13,false),(14,true),(15,false)] [(119,121),(124,124)] (mkP hs.heap.size (48+i) nm st)
   (λz=>[(121,.string nm),(124,QjZ z)]) (λz w'=>Qpc hs.heap.size st w' z) mixed (by rfl) (by kernel_rfl) (Step.drew _ _) (λ_ h=>h.any) (λ_ _ h1 h2=>h1.trans h2) Qe1 ?_ ?_
  ·rintro g w' ⟨_,_,h7,⟨q,e,hA⟩,_⟩ hdj;exact⟨q,⟨h7,e,Z⟩,hA⟩
  refine p (λ_=>Qa O)<|pq (λ_ hc=>Qd (hB316.step hc hv) O O)<|p (λ_=>Qk)<|p (λ_=>Xr (k':=.u8) O ⟨by omega,by omega⟩)<|p (λ_=>JB O O ⟨by omega,by omega⟩) <|
   p (λ_=>Qk)<|pq (λ_ hc=>Qo (hB1016.step hc hn10v) O (by rw[YJ];exact hO))<|pe ⟨⟨?_,?_,?_,?_,Z⟩,?_⟩
  ·intro g w' hc _;exact QG (us:=[[.int .u8 ((48:Int)+(i:Int))]]) O O (by decide) (by simp) ⟨rfl,rfl,Z⟩ λb g2 hQ hb hB=>⟨hQ,⟨b,rfl,by rw[←k9];exact hB⟩,λc U=>by rw[Lb.1 (show c∈[b] from U)];exact⟨hb,hB.lt⟩⟩
  ·rintro g w' hc ⟨⟨b,e,hB⟩,_⟩;exact xv (Qdt (n:=48+i) hB (by omega) e) ⟨Step.refl _ _,O,λc U=>by cases U⟩
  ·rintro g w' hc ⟨e,_⟩;exact xv (J8 (a:=⟨#[114]⟩) (b:=⟨#[UInt8.ofNat (48+i)]⟩) O e (by show 1+1≤1000000000;omega)) ⟨Step.refl _ _,congrArg Value.string Y,λc U=>by cases U⟩
  ·intro g w' hc _;have hz:=hc.size;refine xf<|(jq (ns:=k0) (hI16.ext hc) z9 z5 hO gi).mono ?_;rintro r g2 ⟨hQ,a,⟨xa,xm,ma,rfl,hA⟩,hok,h5,mc,mf⟩;obtain⟨a0,k1,k2,k3,k4⟩:=mf (by omega);rw[gj]at k3;exact⟨hQ,⟨⟨xa,xm,ma,a⟩,O,λL G=>hA L (λb hb=>by have:=G b hb;omega),yW.of k1 k2 k3 k4 (by omega),mc⟩,λc U=>by cases U⟩
  rintro q g g2 m1 ⟨hA17,hG17,hL17⟩;have hz17:=m1.size;have hP:=hA17 [] (by simp);refine p (λ_=>ZD [(0,[.string nm]),(1,[q.va,.int .i64 q.a.st,q.vm,q.ve])] ⟨O,O,O,O,Z⟩)<|pk<|QG (us:=[Zn ⟨nm,q⟩]) O O (by decide) (show 1*5≤1000000 by omega) ⟨O,O,Z⟩ λb126 w18 g5 hb126 hB126=>⟨(m1.trans g5).any,?_⟩;have g6:=m1.trans g5;have hz18:=g5.size;have hR18:=hR16.ext g6
  refine pk<|Q4 (news:=Zn ⟨nm,q⟩) (L:=[]) hR18.own O O O (hB126.at (by simp)) (Qfh hP.al.one hP.mr.one hP.ed.one) (by omega) (by omega) λv19 w19 ho19 g7 hn19=>⟨(g6.any (L:=ob vr)).trans' g7,?_⟩;have hR19:=hR18.app3 (q:=⟨nm,q⟩) (Qce (q:=⟨nm,q⟩) (N:=hs.heap.size) (λL G=>(hA17 L G).ext g5) (by omega) (QY hR16.own)) ho19 g7 hn19
  refine p (λ_=>Qa O)<|pkl (hl:=by kernel_rfl)<|QF ((hB316.ext g6).step g7 hv) O O (by simp) (QQ ho19) λw20 hs20 hB20=>pe ?_
  refine Qw<|Qb<|QP O O<|Qf<|⟨(i+1,v19,rq++[⟨nm,q⟩]),by simp only[];omega,La,by simp only[];omega,(((hf.trans hZ).trans g6).then g7 (λb hb=>.inr (hge10 b hb).1)).trans' hs20,hB20,hR19.low hs20 (λb hb=>by rw[Lb.1 hb];omega),by simp only[List.length_append,List.length_singleton];omega,?_⟩;show LnQ n (i+1) ((rq++[(⟨nm,q⟩:IV)]).map IV.it)
  rw[Lx,MA];exact hJ.snoc hi2 Y.symm hG17 (λe=>by have e2:st=[]:=hL17.symm.trans e;rw[e2]at mz;exact absurd mz (by decide)) (λe he=>hm5 e (by have e3:e∈q.a.al:=he;rw[hL17]at e3;exact e3))
 rintro⟨vr,rq⟩ g10 h6 ⟨hf,ht,h0,mo,hJ⟩;simp only[]at ht h0 mo hJ;have hgq10:∀q∈rq,yC q.nm∧yW q.p.a:=λq hq=>by
  obtain⟨⟨j,_,h8⟩,h9,_⟩:=hJ.each q.it (LP hq);exact⟨by rw[show q.nm=nmI 114 j from h8];exact jl _ _,h9⟩
 have p0:=hf.size;have gl:Step [E] I h6:=gx.trans' hf;have hY:=gs.step gl gt;have FE10:=Ul FE9 hE hf;have FI10:=KQ FI9 hE hf;have FR10:∀L:LN,(∀b∈L,b<I.heap.size)→Xm L h6.heap vr rq:=λL G=>h0.itms (by omega) (λq hq=>(hgq10 q hq).1) (λb hb=>by have:=G b hb;omega)
 refine QX (α:=Value×List XV) [(12,14),(129,169)] (λ_=>[]) (λz w'=>Step [E] h6 w'∧QT w'.heap E 37 [ve,vc,vr,z.1,Zg]∧(∀L:LN,(∀b∈L,b<I.heap.size)→qL L w'.heap z.1 z.2)∧z.2.length≤1∧∀q∈z.2,q.nm=⟨#[120]⟩∧q.ls≠[]∧Yz (szs (co.map IV.it)) none q.ls=0) (by rfl) ?_ ?_
 ·refine Qc<|x (Qa O)<|x (Qd ht O O)<|x (Qr (FI10 [] (by simp)).arr rfl)<|Qf<|Qc<|Qb<|x (ZR rfl rfl)<|xe<|QC O (λh133=>?_) (λh133=>?_)
  ·refine Qi ?_;exact⟨(Zg,[]),Z,Step.refl _ _,ht,(λL G=>⟨Zy.nil _ _ 2,λq hq=>(by cases hq),λq hq=>(by cases hq)⟩),by decide,λq hq=>(by cases hq)⟩
  have hco2:2≤co.length:=by have h134:(1:Int)<(co.length:Int):=h133;omega
  refine Qc<|x (QM La)<|xl O<|Qu (us:=[.string .empty,Zg]) O λhD hC hw hb13 g8=>xl O<|Qn (us:=[.string ⟨#[120]⟩,Zg]) g8 O O O O ⟨O,O,Z⟩ λH hj hB1312 =>
   xe ?_
  have gn:Step [] h6 H:=hw.then1 hj hb13;have hz1012:=gn.size;have hl13:=hB1312.lt;have n313:E∉[hD]:=by simp only[List.mem_singleton];omega
  have n113:b1∉[hD]:=by simp only[List.mem_singleton];omega
  refine QX (α:=Value×List (Int×Int)) [(14,14),(135,158)] (λ_=>[]) (λz w'=>Step [hD] H w'∧QT w'.heap hD 99 [.string ⟨#[120]⟩,z.1]∧w'.ownsRow H.heap.size 101 2 z.1 z.2.length (z.2.flatMap Zb)∧z.2.length=2∧LcK (szs (co.map IV.it)) z.2) (by rfl) ?_ ?_
  ·refine Qc<|Qf<|Qh<|Qz (α:=Nat×Value×List (Int×Int)) [(14,14),(135,158)] (λz=>[(14,.int .i64 z.1)]) (λz w'=>z.1≤2∧Step [hD] H w'∧QT w'.heap hD 99 [.string ⟨#[120]⟩,z.2.1]∧w'.ownsRow H.heap.size 101 2 z.2.1 z.2.2.length (z.2.2.flatMap Zb)∧z.2.2.length=z.1∧LcK (szs (co.map IV.it)) z.2.2) (λz=>2 - z.1) (by rfl) (0,Zg,[]) La
    ⟨Ll _,Step.refl _ _,hB1312,QN _ _ _ _,O,λk hk=>absurd hk (Me k)⟩ ?_
   rintro⟨i,vl,ls⟩ g hh ⟨hi,J,hR,hr,hS,ga⟩;simp only[]at hi hR hr hS ga;have p7:=J.size;refine Qg<|Qc<|Qb<|x (QA O O)<|xe<|QC O (λm2=>?_) (λm2=>?_)
   ·refine Qy ?_;exact⟨(vl,ls),Z,J,hR,hr,by simp only[];have h137:¬(i:Int)<2:=m2;omega,ga⟩
   have hT:i<2:=by have h137:(i:Int)<2:=m2;omega
   refine Qi ?_;have hgeL:=Qq hr;have hn13v:hD∉ob vl:=Q0 hr hl13;have hv:E∉ob vl:=Q0 hr (by omega);have kk:b1∉ob vl:=Q0 hr (by omega);have ka:=(ht.ext gn).step J n313;have m3:=(hY.ext gn).step J n113;have m4:∃xi:Nat,xi<256∧(Xh l)[0+83+i*1]?=some (.int .u8 (xi:Int)):=by
    have h3:i=0∨i=1:=by omega
    rcases h3 with rfl|rfl
    ·exact⟨l.x0,hx0,m5⟩
    exact⟨l.x1,kg,g84⟩
   obtain⟨xi,hxi,m4⟩:=m4;have kb:i<co.length:=by omega
   have hI13:Xm (ob vl) hh.heap vc co:=by
    have h1:Xm (hD::ob vl) H.heap vc co:=((FI10 [] (by simp)).up (L':=hD::ob vl) (λb hb=>by
     rcases Le.1 hb with rfl|hb
     ·exact .inr (by have:=hw.size;omega)
     exact .inr (by have:=(hgeL b hb).1;omega))).ext gn
    exact(h1.st (J.mono (by simp))).up (λb hb=>.inl (Lk _ hb))
   have hqm:=Lc kb;refine Zj (co[i]'kb) λq hq=>?_;rw[hq]at hqm;have hpos:=(j1 q hqm).2.p;have hszi:cget (szs (co.map IV.it)) i=q.p.a.st:=by
    rw[show szs (co.map IV.it)=co.map (·.p.a.st) by unfold szs;rw[Mf];rfl];unfold cget;rw[LD,List.getElem?_map,LE kb,hq];rfl
   have hd13:Step [] hh { hh with drawn:=hh.drawn+1 }:=Step.drew _ _
   have hmod:0≤(xi:Int) % q.p.a.st:=Int.emod_nonneg _ (by omega);refine Qg<|Qh<|QU (Step (ob vl) hh) [(0,true),(1,true),(2,true),(3,true),(4,true),(5,true),(6,true),(7,true),(8,true),(9,true),(10,true),(11,true),(12,true),(13,true),(14,true),(15,true),(16,true),(17,false),(18,false),(19,true),(20,false)] mixed (by rfl) (by kernel_rfl) (Step.drew _ _) ?_
   refine p (λ_=>Qa O)<|pq (λ_ hc=>Qd (hR.step hc hn13v) O O)<|p (λ_=>Qk)<|p (λ_=>Qk)<|p (λ_=>Qa O) <|
    p (λ_=>Xe (i:=i) O O hT)<|pq (λ_ hc=>Qd (m3.step hc kk) O m4)<|p (λ_=>Xr (k':=.i64) O ⟨by omega,by omega⟩)<|p (λ_=>Qa O)<|pq (λ_ hc=>Qd (ka.step hc hv) O O) <|
    p (λ_=>Qk)<|Go.Lg.pig (g:=Zn) (i:=i) O XN hI13.arr O O kb λa150 h150=>?_
   rw[hq]at h150;refine p (λ_=>Zf O)<|p (λ_=>Zf O)<|pq (λ_ hc=>Qv (((h150.from 1).fld 1 (.int .i64 q.p.a.st) O).st hc) O) <|
    p (λ_=>zf (a:=(xi:Int)) (b:=q.p.a.st) O O (by omega) hpos)<|p (λ_=>QM ⟨O,O,Z⟩)<|pk<|QG (us:=[Zb ((i:Int),(xi:Int) % q.p.a.st)]) O O (by decide) (show 1*2≤1000000 by omega) ⟨O,O,Z⟩ λb156 gk ho hb156 hB156=>?_
   have gb:=hd13.trans ho;have hz1314:=gb.size;refine⟨gb.any,?_⟩;refine pk<|Q4 (news:=Zb ((i:Int),(xi:Int) % q.p.a.st)) (L:=[]) (Qs hr gb) O O O (hB156.at (by simp)) (Qlb _) (by omega) (by omega) λhH hX hp hg mh=>⟨(gb.any (L:=ob vl)).trans' hg,?_⟩;have hge15:∀b∈ob hH,H.heap.size≤b:=λb hb=>(Qq hp b hb).1
   refine p (λ_=>Qa O)<|pkl (hl:=by kernel_rfl)<|QF ((hR.ext gb).step hg hn13v) O O (by simp) (QQ hp) λhs V hI=>pe ?_
   refine Qw<|Qb<|QP O O<|Qf<|⟨(i+1,hH,ls++[((i:Int),(xi:Int) % q.p.a.st)]),by simp only[];omega,La,hT,((J.trans gb).then hg (λb hb=>.inr (hgeL b hb).1)).trans' V,hI,?_,by simp[hS],ga.snoc (by rw[hS]) hmod (by rw[hS,hszi];exact Int.emod_lt_of_pos _ hpos)⟩;have h9:=Qm hp V (λb hb=>by have:=hge15 b hb;simp only[List.mem_singleton];omega)
   simp only[List.length_append,List.flatMap_append];simpa using h9
  rintro⟨vl,ls⟩ g13 hh ⟨J,hR,hr,hS,ga⟩;simp only[]at hR hr hS ga;have p7:=J.size;have kc:Step [] h6 hh:=gn.then1 J hb13;have ka:=ht.ext kc;have m3:=hY.ext kc;have hxx:=QQ hr;refine Qc<|x (Qa O)<|x (Xe (i:=0) O O (by decide))<|x (Qd m3 O m5)<|x (zf (a:=(l.x0:Int)) (b:=4) O O (by omega) (by omega))<|x (Q6 O O)<|xe ?_
  refine QC O (λh163=>?_) (λh163=>?_)
  ·refine Qi ?_;exact⟨(Zg,[]),Z,kc.any,ka,(λL G=>⟨Zy.nil _ _ 2,λq hq=>(by cases hq),λq hq=>(by cases hq)⟩),by decide,λq hq=>(by cases hq)⟩
  refine Qw<|x (Qa O)<|x (Qd ka O O)<|x (Qo hR O O)<|xl O<|QG (us:=[ZF ⟨⟨#[120]⟩,vl,ls⟩]) O O (by decide) (show 1*2≤1000000 by omega) ⟨O,O,Z⟩ λb167 gk ho hb167 hB167=>?_;have hz14:=ho.size;refine xl O<|Q4 (base:=hh.heap.size) (news:=ZF ⟨⟨#[120]⟩,vl,ls⟩) (L:=[]) (v:=Zg) (QN _ _ _ _) O O O (hB167.at (by simp)) (jW hxx) (by omega) (by omega) λhH hX hp hg mh=>?_
  have hs1415:Step [] gk hX:=hg;have hs1015:=(kc.trans ho).trans hs1415;refine x (Qa O)<|xl O<|QF (ht.ext hs1015) O O (by simp) (QQ hp) λhs V hI=>xe ?_;refine⟨(hH,[⟨⟨#[120]⟩,vl,ls⟩]),Z,(hs1015.any (L:=[E])).trans' V,hI,λL G=>?_,Lu 1,λq hq=>?_⟩
  rotate_left
  ·rw[Lb.1 hq];have h9:=ga.ck hS (by unfold szs;rw[Lh,Lh];exact hco2);exact⟨O,h9.2,h9.1⟩
  have hL2:∀b∈E::L,b<I.heap.size:=λb hb=>by
   rcases Le.1 hb with rfl|hb
   ·exact hE
   exact G b hb
  have h1:qL (E::L) hX.heap hH [⟨⟨#[120]⟩,vl,ls⟩]:=by
   refine⟨QV (n:=1) hp (by omega) (λb hb ge=>by have:=(Qq hp b hb).1;have:=hL2 b ge;omega),λq hq=>?_,λq hq=>?_⟩
   ·rw[Lb.1 hq];exact((QV (L:=E::L) hr (by omega) (λb hb ge=>by have:=(Qq hr b hb).1;have:=hL2 b ge;omega)).ext ho).ext hs1415
   rw[Lb.1 hq];exact X6 (by decide)
  exact(h1.st (V.mono (by simp))).up (λb hb=>.inl (Lk _ hb))
 rintro⟨vx,qx⟩ g11 hC ⟨hw,g8,FX11,kg,hxs⟩;simp only[]at g8 FX11 kg hxs;have FE11:=Ul FE10 hE hw;have FI11:=KQ FI10 hE hw;have FR11:=KQ FR10 hE hw;have hs311:Step [E] I hC:=gl.trans' hw;have hB211:=hB23.step hs311 n23
 refine Qc<|x (Qo g8 O O)<|xl O<|Qn (us:=[ve,vc,vr,vx,Zg]) hB211 O O O O ⟨(FE11 [] (by simp)).arr.one,(FI11 [] (by simp)).arr.one,(FR11 [] (by simp)).arr.one,(FX11 [] (by simp)).arr.one,rfl,Z⟩ λH hj hB12=>xe ?_;have ke:b2<I.heap.size:=by omega
 have FE12:=Ul FE11 ke hj;have FI12:=KQ FI11 ke hj;have FR12:=KQ FR11 ke hj;have FX12:=Qky FX11 ke hj;have hs012:Step [] w H:=(ki.then1 hs311 (by omega)).then1 hj (by omega);refine Ql ⟨[.agg [ve,vc,vr,vx,Zg].toArray],⟨⟨_,O,Qx O (hB12.at (L:=[]) (by simp)).cells⟩,Z⟩,hs012,⟨ev,co.map IV.it,rq.map IV.it,qx.map XV.x,[]⟩,⟨⟨ve,vc,vr,vx,Zg,ev,co,rq,qx,[]⟩,rfl,rfl,λL G=>?_⟩,?_⟩
 ·have kf:∀b∈L,b<I.heap.size:=λb hb=>by have:=G b hb;have:=ki.size;omega
  exact⟨FE12 L kf,FI12 L kf,FR12 L kf,FX12 L kf,⟨Zy.nil _ _ 3,λq hq=>(by cases hq),λq hq=>(by cases hq)⟩⟩
 refine⟨⟨fl,hN⟩,by simp only[List.length_map];omega,mj,by simp only[List.length_map];omega,?_,by simp only[List.length_map];omega,λy hy=>?_,O⟩
 ·show LnQ (co.map IV.it).length 2 (rq.map IV.it);rw[Lh,q9];exact hJ
 obtain⟨q,hq,rfl⟩:=Lq.1 hy;exact hxs q hq
def nm1 (c k:Nat):ByteArray:=⟨#[UInt8.ofNat (c+k)]⟩
def XG (n m:Nat):LI:=(List.range n).map λk:Nat=>if k<m then(k:Int)else -1
theorem jz {m k:Nat}(h:k<m):Zq (YG m) (k:Int)=k:=by
 unfold Zq YG;simp[List.getD,h]
theorem QpU {fd out R:LI}{t:Int}(hp:fd=out++R)(hm:t∈out):zC fd t=(out.idxOf t:Nat):=by
 subst hp;unfold zC;rw[if_pos (Ly _ hm),Mn,if_pos hm]
theorem Qoi {fd out R:LI}{t:Int}(hp:fd=out++[t]++R)(hm:t∉out):zC fd t=(out.length:Nat):=by
 subst hp;unfold zC;rw[if_pos (by simp),LA,Mn,if_neg hm];simp
theorem jy {n m k:Nat}(h:k<n):Zq (XG n m) (k:Int)=if k<m then(k:Int)else -1:=by
 unfold Zq XG;simp[List.getD,h]
theorem Qic {n m:Nat}:(XG n m).set m (m:Int)=XG n (m+1):=by
 apply LT
 ·simp[XG]
 intro k h1 h2;have hk:k<n:=by simpa[XG]using h2
 rw[MY];by_cases e:m=k
 ·subst e;simp[XG]
 rw[if_neg e];simp only[XG,List.getElem_map,List.getElem_range];by_cases h3:k<m
 ·rw[if_pos h3,if_pos (by omega)]
 rw[if_neg h3,if_neg (by omega)]
theorem jj {R:Nat→List Ed}(hR:∀i,∀e∈R i,e.1=(i:Int))(j:Nat):∀n,Zu ((List.range' 0 n).flatMap R) j=if j<n then R j else[]
 | 0=>by simp[Zu]
 | n+1=>by
  have E:Zu (R n) j=if n=j then R n else[]:=by
   unfold Zu;by_cases e:n=j
   ·rw[if_pos e];exact Nf.2 λx hx=>decide_eq_true (by rw[hR n x hx,e])
   rw[if_neg e];exact MD.2 λx hx=>by rw[decide_eq_true_eq,hR n x hx];omega
  rw[Ml,LG,LR];unfold Zu at E ⊢;rw[L8];have ih:=jj hR j n;unfold Zu at ih;rw[ih];simp only[List.flatMap_cons,List.flatMap_nil,List.append_nil];rw[E];by_cases h1:j<n
  ·rw[if_pos h1,if_neg (by omega),if_pos (by omega),LO]
  rw[if_neg h1];by_cases h2:n=j
  ·subst h2;rw[if_pos rfl,if_pos (by omega),Mr]
  rw[if_neg h2,if_neg (by omega)];rfl
section
variable {a:QD}
theorem qI {s:Int}:∀(vs:LI) (out:LI),∃r,vs.foldl (VT a s) out=out++r
 | [],out=>⟨[],by simp⟩
 | v::vs,out=>by
  rw[LM];obtain⟨r,E⟩:=qI vs (VT a s out v);rw[E];unfold VT;split
  ·exact⟨[nxt a.ed s v]++r,by rw[LA]⟩
  exact⟨r,O⟩
theorem qH:∀(f i:Nat) (out:LI),∃r,jE a f i out=out++r
 | 0,i,out=>⟨[],by simp[jE]⟩
 | f+1,i,out=>by
  rw[jE];split
  ·obtain⟨r,E⟩:=qH f (i+1) (fdR a out (cget out i));obtain⟨G,H⟩:=qI (a:=a) (s:=cget out i) a.al out;refine⟨G++r,?_⟩;rw[E];unfold fdR;rw[H,LA]
  exact⟨[],by simp⟩
theorem qy {fd:LI}{i:Nat}:∀(vs out:LI) (c:Cs),(∃r,fd=vs.foldl (VT a (cget fd i)) out++r)→c.ord=YG out.length→c.num=XG fd.length out.length →
  (vs.filterMap (Kn a fd i)).foldl (Zk i) c=⟨YG (vs.foldl (VT a (cget fd i)) out).length,XG fd.length (vs.foldl (VT a (cget fd i)) out).length,c.mk',c.ed++vs.filterMap (Kn a fd i)⟩
 | [],out,c,_,h1,h2=>by
  obtain⟨o,n,m,e⟩:=c;simp only[]at h1 h2;subst h1 h2;simp
 | v::vs,out,c,E,h1,h2=>by
  rw[LM]at E ⊢;obtain⟨r,E⟩:=E;obtain⟨r2,ha⟩:=qI (a:=a) (s:=cget fd i) vs (VT a (cget fd i) out v);have G:fd=VT a (cget fd i) out v++(r2++r):=by rw[←LA,←ha];exact E
  by_cases I:0≤nxt a.ed (cget fd i) v
  ·have J:Kn a fd i v=some ((i:Int),v,zC fd (nxt a.ed (cget fd i) v)):=by unfold Kn;rw[if_pos I]
   rw[MB,J];simp only[];rw[LM];by_cases hm:nxt a.ed (cget fd i) v∈out
   ·have H:VT a (cget fd i) out v=out:=by unfold VT;rw[if_neg (λh=>h.2 hm)]
    rw[H]at E G ⊢;have U:zC fd (nxt a.ed (cget fd i) v)=(out.idxOf (nxt a.ed (cget fd i) v):Nat):=QpU G hm;have hb:=LS hm;have Y:out.length≤fd.length:=by rw[G];simp
    have V:Zk i c ((i:Int),v,zC fd (nxt a.ed (cget fd i) v))=⟨c.ord,c.num,c.mk',c.ed++[((i:Int),v,zC fd (nxt a.ed (cget fd i) v))]⟩:=by
     unfold Zk;simp only[];rw[h2,U,jy (by omega),if_pos hb,if_neg (by omega)]
    rw[V,qy vs out ⟨c.ord,c.num,c.mk',c.ed++[((i:Int),v,zC fd (nxt a.ed (cget fd i) v))]⟩ ⟨r,E⟩ h1 h2];simp only[List.append_assoc,List.singleton_append]
   have H:VT a (cget fd i) out v=out++[nxt a.ed (cget fd i) v]:=by unfold VT;rw[if_pos ⟨I,hm⟩]
   rw[H]at E G ⊢;have U:zC fd (nxt a.ed (cget fd i) v)=(out.length:Nat):=Qoi G hm;have Y:out.length<fd.length:=by rw[G];simp
   have V:Zk i c ((i:Int),v,zC fd (nxt a.ed (cget fd i) v))=⟨YG (out.length+1),XG fd.length (out.length+1),c.mk',c.ed++[((i:Int),v,zC fd (nxt a.ed (cget fd i) v))]⟩:=by
    unfold Zk;simp only[];rw[h1,h2,U,jy Y,if_neg (Nat.lt_irrefl _),if_pos (by omega),KN,UK];simp only[Int.toNat_natCast];rw[Qic]
   rw[V,qy vs (out++[nxt a.ed (cget fd i) v]) _ ⟨r,E⟩ (by simp) (by simp)];simp only[List.append_assoc,List.singleton_append]
  have J:Kn a fd i v=none:=by unfold Kn;rw[if_neg I]
  have H:VT a (cget fd i) out v=out:=by unfold VT;rw[if_neg (λh=>I h.1)]
  rw[H]at E ⊢;rw[MB,J];exact qy vs out c ⟨r,E⟩ h1 h2
theorem QjR (fd:LI)(i:Nat):YI a fd (i+1)=YI a fd i++(if cget fd i∈a.mr then[(i:Int)]else[]):=by
 unfold YI;rw[Ml,L8,Lx,LR];by_cases h:cget fd i∈a.mr <;> simp[h]
theorem QjT (fd:LI)(i:Nat):Y5 a fd (i+1)=Y5 a fd i++a.al.filterMap (Kn a fd i):=by
 unfold Y5;rw[Ml,LG,LR];simp
theorem QcM {fd:LI}{i n:Nat}(h:i<n):(i:Int)∈YI a fd n↔cget fd i∈a.mr:=by
 unfold YI;simp only[List.mem_map,List.mem_filter,List.mem_range'_1,decide_eq_true_eq];constructor
 ·rintro⟨k,⟨_,h2⟩,h3⟩;have:k=i:=by omega
  subst this;exact h2
 intro h2;exact⟨i,⟨by omega,h2⟩,O⟩
theorem QjS {fd:LI}(J:fd=found a)(hk:fd.length≤a.st.toNat):∀(f g i:Nat) (out:LI),i≤out.length→jE a g i out=fd→i+g=a.st.toNat→fd.length≤i+f →
  YP (YO a) f i ⟨YG out.length,XG fd.length out.length,YI a fd i,Y5 a fd i⟩=⟨YG fd.length,XG fd.length fd.length,YI a fd fd.length,Y5 a fd fd.length⟩:=by
 have V:(YO a).ed=Y5 a fd fd.length:=by rw[J];rfl
 have Y:(YO a).mr=YI a fd fd.length:=by rw[J];rfl
 have done:∀(i:Nat) (out:LI),i≤out.length→out=fd→¬i<out.length→(⟨YG out.length,XG fd.length out.length,YI a fd i,Y5 a fd i⟩:Cs)=⟨YG fd.length,XG fd.length fd.length,YI a fd fd.length,Y5 a fd fd.length⟩:=by
  intro i out h1 h2 h3;have:i=fd.length:=by rw[←h2];omega
  rw[this,h2]
 intro f;induction f with
 | zero =>
  intro g i out h1 h2 h3 h4;obtain⟨r,E⟩:=qH (a:=a) g i out;rw[h2]at E;have hl:fd.length=out.length+r.length:=by rw[E,Lj]
  have ha:r=[]:=Lr (by omega);rw[YP];exact done i out h1 (by rw[E,ha,LO]) (by omega)
 | succ f ih =>
  intro g i out h1 h2 h3 h4;obtain⟨r,E⟩:=qH (a:=a) g i out;rw[h2]at E;have hl:fd.length=out.length+r.length:=by rw[E,Lj]
  rw[YP];simp only[KN];by_cases hi:i<out.length
  ·rw[if_pos hi];obtain⟨G,rfl⟩:∃G,g=G+1:=⟨g - 1,by omega⟩;rw[jE,if_pos hi]at h2;have hb:cget out i=cget fd i:=by
    rw[E];unfold cget;simp[List.getD,List.getElem?_append_left hi]
   rw[hb]at h2;have I:i<fd.length:=by omega
   have hf:Zu (YO a).ed (i:Int)=a.al.filterMap (Kn a fd i):=by
    rw[V];unfold Y5;rw[jj (λj e he=>by
     obtain⟨v,_,H⟩:=MG.1 he;unfold Kn at H;split at H
     ·cases H;rfl
     cases H),if_pos I]
   have hg:ZW (YO a) i ⟨YG out.length,XG fd.length out.length,YI a fd i,Y5 a fd i⟩=⟨YG out.length,XG fd.length out.length,YI a fd (i+1),Y5 a fd i⟩:=by
    unfold ZW;simp only[];rw[jz hi,Y,QjR];by_cases hc:cget fd i∈a.mr
    ·rw[if_pos ((QcM I).2 hc),if_pos hc]
    rw[if_neg (λh=>hc ((QcM I).1 h)),if_neg hc];simp
   have hh:qk (YO a) i ⟨YG out.length,XG fd.length out.length,YI a fd i,Y5 a fd i⟩=⟨YG (fdR a out (cget fd i)).length,XG fd.length (fdR a out (cget fd i)).length,YI a fd (i+1),Y5 a fd (i+1)⟩:=by
    unfold qk;rw[hg];simp only[];rw[jz hi,hf];obtain⟨r3,U⟩:=qH (a:=a) G (i+1) (fdR a out (cget fd i));rw[h2]at U;rw[qy a.al out ⟨YG out.length,XG fd.length out.length,YI a fd (i+1),Y5 a fd i⟩ ⟨r3,U⟩ rfl rfl,QjT];rfl
   rw[hh];obtain⟨r4,hj⟩:=qI (a:=a) (s:=cget fd i) a.al out;exact ih G (i+1) _ (by unfold fdR;rw[hj,Lj];omega) h2 (by omega) (by omega)
  rw[if_neg hi];have h5:jE a g i out=out:=by
   cases g with
   | zero=>rfl
   | succ g=>rw[jE,if_neg hi]
  exact done i out h1 (h5.symm.trans h2) hi
theorem QjQ (E:QO a)(G:0<a.st):ZY (YO a)=YO a:=by
 have V:=QcL E G;have I:=(Ug E).1.len E.st0;have Y:(YO a).st=((found a).length:Int):=rfl;have H:(YO a).st.toNat=(found a).length:=by omega
 have h:=QjS (a:=a) O I (found a).length a.st.toNat 0 (fd0 a) (Ll _) O (by omega) (by omega);have J:fd0 a=[0]:=by unfold fd0;rw[if_pos G]
 rw[J]at h;have U:ZK (YO a)=⟨YG 1,XG (found a).length 1,YI a (found a) 0,Y5 a (found a) 0⟩:=by
  unfold ZK;rw[H];have e:(List.replicate (found a).length (-1:Int)).set 0 0=XG (found a).length 1:=by
   apply LT
   ·simp[XG]
   intro k h1 h2;rw[MY];simp only[XG,List.getElem_map,List.getElem_range,List.getElem_replicate];by_cases e:k=0
   ·subst e;simp
   rw[if_neg (by omega),if_neg (by omega)]
  rw[e];simp[YG,YI,Y5]
 unfold ZY;rw[if_neg (by omega)];simp only[];rw[U,H];have h':YP (YO a) (found a).length 0 ⟨YG 1,XG (found a).length 1,YI a (found a) 0,Y5 a (found a) 0⟩=⟨YG (found a).length,XG (found a).length (found a).length,YI a (found a) (found a).length,Y5 a (found a) (found a).length⟩:=h;rw[h'];simp only[KN];rfl
theorem QdN (E:QO a)(G:0<a.st):KR (YO a)=true:=by
 unfold KR;rw[QjQ E G];simp[(Zs _).2 (Qa7 E).1]
theorem yW.can {a:QD}(h:yW a):KR a=true:=by
 obtain⟨E,h1,h2,rfl⟩:=h.c;exact QdN h1 h2
end
structure Jc (c:Q7):Prop where
 ev:c.ev.length=5∧Js c.ev=0
 c0:c.co.length≠0
 c3:c.co.length≤3
 r2:c.rq.length≤2
 co:∀x∈c.co,Xl x.nm=true∧yW x.a∧∀e∈x.a.al,e<5
 rq:∀x∈c.rq,Xl x.nm=true∧yW x.a∧∀e∈x.a.al,∃y∈c.co,e∈y.a.al
 nd:(c.co.map (·.nm)++c.rq.map (·.nm)).Nodup
 x2:c.ex.length≤2
 ex:∀x∈c.ex,Xl x.nm=true∧x.ls≠[]∧Yz (szs c.co) none x.ls=0
 xn:(c.ex.map (·.nm)).Nodup
 k1:c.cs.length≤1
 cs:∀x∈c.cs,Xl x.nm=true∧Xp (szs c.co) x=0
theorem QkC (n:Nat)(x:Int):x∈KB n↔0≤x∧x<(n:Int):=KM n x
theorem QkD (n:Nat):Z2 (KB n):=V3 n
theorem Qls {a b:LI}(ia:Z2 a)(ib:Z2 b)(h:∀e∈a,e∈b):(mns a b).length=0:=by
 refine Nat.eq_zero_of_not_pos λhp=>?_;obtain⟨x,hx⟩:=List.exists_mem_of_length_pos hp;have:=(Kf ia ib x).1 hx;by_cases h1:x∈a
 ·simp[h1,h x h1]at this
 simp[h1]at this
theorem QfG {nev:Nat}{amg:LI}{seen:List ByteArray}{x:Yk}(G:Xl x.nm=true)(hs:x.nm∉seen)(E:yW x.a)(he:∀e∈x.a.al,e<(nev:Int))(hi:Z2 amg)(hm:∀e∈x.a.al,e∈amg):Yh nev amg seen x=0:=by
 have hp:=E.p;unfold Yh;rw[if_neg (by rw[G];decide),if_neg hs,if_neg (by simpa using(Zs _).2 E.ok),if_neg (by rw[E.can];decide),if_neg (by omega),if_neg,if_neg (by simpa using Qls E.ok.ali hi hm)];intro h;obtain⟨e,h1,h2⟩:=Mo.1 h;have:=he e h1;have:=of_decide_eq_true h2;omega
theorem QfH {nev:Nat}{al:LI}(H:Z2 al):∀(l:List Yk) (s:List ByteArray) (u:LI),Z2 u→(∀x∈l,Xl x.nm=true∧yW x.a∧∀e∈x.a.al,e<(nev:Int)∧e∈al)→(s++l.map (·.nm)).Nodup →
  ∃E,Ym nev al s u l=(0,s++l.map (·.nm),E)∧Z2 E∧∀e,e∈E↔e∈u∨∃y∈l,e∈y.a.al
 | [],s,u,hu,_,_=>⟨u,by simp[Ym],hu,by simp⟩
 | x::l,s,u,hu,hx,G=>by
  obtain⟨h1,h2,h3⟩:=hx x Lm;have I:x.nm∉s:=by
   intro hm;rw[LX,Mx]at G;exact G.2.2 _ hm _ Lm O
  have J:=QfG h1 I h2 (λe he=>(h3 e he).1) H (λe he=>(h3 e he).2);obtain⟨E,k1,k2,k3⟩:=QfH H l (s++[x.nm]) (mrg (· || ·) u x.a.al) (qD _ _ _ _ (Lu _) hu h2.ok.ali) (λy hy=>hx y (Lk _ hy)) (by simpa using G);refine⟨E,?_,k2,λe=>?_⟩
  ·rw[Ym,if_neg (by simpa using J),k1];simp
  rw[k3,Kf hu h2.ok.ali];constructor
  ·rintro(⟨h5|h5,_⟩|⟨y,hy,h6⟩)
   ·exact .inl h5
   ·exact .inr ⟨x,Lm,h5⟩
   exact .inr ⟨y,Lk _ hy,h6⟩
  rintro(h5|⟨y,hy,h6⟩)
  ·exact .inl ⟨.inl h5,by simp[h5]⟩
  rcases Le.1 hy with rfl|hy
  ·exact .inl ⟨.inr h6,by simp[h6]⟩
  exact .inr ⟨y,hy,h6⟩
theorem QfF {nev:Nat}{u:LI}(hu:Z2 u):∀(l:List Yk) (s:List ByteArray),(∀x∈l,Xl x.nm=true∧yW x.a∧∀e∈x.a.al,e<(nev:Int)∧e∈u)→(s++l.map (·.nm)).Nodup→J4 nev u s l=0
 | [],s,_,_=>rfl
 | x::l,s,hx,E=>by
  obtain⟨h1,h2,h3⟩:=hx x Lm;have G:x.nm∉s:=by
   intro hm;rw[LX,Mx]at E;exact E.2.2 _ hm _ Lm O
  have H:=QfG h1 G h2 (λe he=>(h3 e he).1) hu (λe he=>(h3 e he).2);rw[J4,if_neg (by simpa using H)];exact QfF hu l (s++[x.nm]) (λy hy=>hx y (Lk _ hy)) (by simpa using E)
theorem jI {sz:LI}:∀(l:List Exc) (s:List ByteArray),(∀x∈l,Xl x.nm=true∧x.ls≠[]∧Yz sz none x.ls=0)→(s++l.map (·.nm)).Nodup→Yr sz s l=0
 | [],s,_,_=>rfl
 | x::l,s,hx,E=>by
  obtain⟨h1,h2,h3⟩:=hx x Lm;have G:x.nm∉s:=by
   intro hm;rw[LX,Mx]at E;exact E.2.2 _ hm _ Lm O
  have H:KY s x.nm=0:=by unfold KY;rw[if_neg (by rw[h1];decide),if_neg G]
  have hl:x.ls.length≠0:=λh=>h2 (Lr h);have I:JI sz x.ls=0:=by unfold JI;rw[if_neg hl];exact h3
  rw[Yr,if_neg (by simpa using H),if_neg (by simpa using I)];exact jI l (s++[x.nm]) (λy hy=>hx y (Lk _ hy)) (by simpa using E)
theorem Qie:∀{k:Nat},k<5→Xl (nm1 97 k)=true
 | 0,_=>by decide
 | 1,_=>by decide
 | 2,_=>by decide
 | 3,_=>by decide
 | 4,_=>by decide
theorem Jc.ck {c:Q7}(h:Jc c):Zi c=0:=by
 have U:=h.c3;have V:=h.r2;have G:c.ev.length=5:=h.ev.1;obtain⟨Y,k1,k2,k3⟩:=QfH (nev:=c.ev.length) (al:=KB c.ev.length) (QkD _) c.co [] [] List.Pairwise.nil (λx hx=>by
  obtain⟨h1,h2,h3⟩:=h.co x hx;refine⟨h1,h2,λe he=>?_⟩;have:=h3 e he;have:=(h2.ok.al e he).1;rw[G,QkC];exact⟨by omega,by omega,by omega⟩) (by
  have:=h.nd;rw[Mx]at this;simpa using this.1)
 have H:=QfF (nev:=c.ev.length) k2 c.rq (c.co.map (·.nm)) (λx hx=>by
  obtain⟨h1,h2,h3⟩:=h.rq x hx;refine⟨h1,h2,λe he=>?_⟩;obtain⟨y,hy,h4⟩:=h3 e he;have:=(h.co y hy).2.2 e h4;exact⟨by omega,(k3 e).2 (.inr ⟨y,hy,h4⟩)⟩) h.nd
 unfold Zi;rw[if_neg (not_not_intro h.ev.2),if_neg h.c0,if_neg (by omega),k1];simp only[List.nil_append];rw[if_neg (by simp),if_neg (by simpa using H)];unfold YN;have ha:(szs c.co).length=c.co.length:=by unfold szs;simp
 have hc:=h.x2;have hk1:=h.k1;have I:¬(szs c.co).any Kt=true:=by
  intro hb;obtain⟨n,h1,h2⟩:=Mo.1 hb;unfold szs at h1;obtain⟨x,hx,rfl⟩:=Lq.1 h1;have:=(h.co x hx).2.1;have h3:=this.p;have h4:=this.s;unfold Kt at h2;simp at h2;omega
 rw[if_neg (by omega),if_neg I,if_neg (by omega),if_neg (by simpa using jI c.ex [] h.ex (by simpa using h.xn))];rcases E:c.cs with _|⟨x,l⟩
 ·rfl
 have hl:l=[]:=Lr (by rw[E,LF]at hk1;omega);obtain⟨h1,h2⟩:=h.cs x (by rw[E];exact Lm);have J:KY [] x.nm=0:=by unfold KY;rw[if_neg (by rw[h1];decide),if_neg (by simp)]
 rw[hl,Y4,if_neg (by simpa using J),if_neg (by simpa using h2)];rfl
end Go.Proofs.YtjcgijbhaemldaaGreatDoor
namespace Go.Proofs
open Go.Shelf
end Go.Proofs
namespace Go.Proofs.YtjcgijbhaemldaaGreatDoor
open Go.Lg Go.Sort Go.Lib
end Go.Proofs.YtjcgijbhaemldaaGreatDoor
namespace Go.Lg
section
variable {P:Program}{f:Fr}{w:World}{d:Option Nat}{ty:Nat}{ps:String}{af:Array Edge}{gd:Option (Nat×Bool)}
end
end Go.Lg
namespace Go.Proofs.YtjcgijbhaemldaaGreatDoor
open Go.Lg Go.Sort
end Go.Proofs.YtjcgijbhaemldaaGreatDoor
namespace Go.Lg
section
variable {P:Program}{f:Fr}{w:World}{K:Fr→World→Prop}{d:Option Nat}{ty:Nat}{ps:String}{af:Array Edge}{gd:Option (Nat×Bool)}
end
end Go.Lg
namespace Go.Proofs.YtjcgijbhaemldaaGreatDoor
open Go.Lg
end Go.Proofs.YtjcgijbhaemldaaGreatDoor
namespace Go.Lg
section
variable {P:Program}{f:Fr}{w:World}{K:Fr→World→Prop}{d:Option Nat}{ty:Nat}{ps:String}{af:Array Edge}{gd:Option (Nat×Bool)}
end
end Go.Lg
namespace Go.Proofs.YtjcgijbhaemldaaGreatDoor
open Go.Lg
theorem zL {α:Type}{sz:Nat}{g:α→LV}(E:∀x,(g x).length=sz):∀l:List α,(l.flatMap g).length=l.length*sz
 | []=>by simp
 | a::l=>by rw[LW,Lj,zL E l,E a,LF,Nat.succ_mul];omega
theorem Qmx {sz:LI}:∀(ls:List (Int×Int)) (pr:Option Int),(∀b,pr=some b→∀p∈ls,b<p.1)→ls.Pairwise (λp q=>p.1<q.1)→(∀p∈ls,0≤p.1∧p.1<(sz.length:Int)∧0≤p.2∧p.2<cget sz p.1.toNat)→Yz sz pr ls=0
 | [],_,_,_,_=>rfl
 | p::ls,pr,hp,hs,hb=>by
  obtain⟨h1,h2,h3,h4⟩:=hb p Lm;obtain⟨k1,k2⟩:=L3.1 hs;have hl:zy pr p.1=false:=by
   cases pr with
   | none=>rfl
   | some b=>have:=hp b O p Lm;unfold zy;exact decide_eq_false (by omega)
  rw[Yz,if_neg (by omega),if_neg (by rw[hl];decide),if_neg (by omega)];exact Qmx ls (some p.1) (λb hb' q hq=>by cases hb';exact k1 q hq) k2 (λq hq=>hb q (Lk _ hq))
section
variable {base:Nat}{w w':World}{vc va vc' va':Value}{co:List IV}{al:List Vp}
end
end Go.Proofs.YtjcgijbhaemldaaGreatDoor
namespace Go.Lg
section
variable {P:Program}{f:Fr}{w:World}{d:Option Nat}{ty:Nat}{ps:String}{af:Array Edge}{gd:Option (Nat×Bool)}
abbrev i4 (p:Int×Int×Int×Int):LV:=[.int .i64 p.1,.int .i64 p.2.1,.int .i64 p.2.2.1,.int .i64 p.2.2.2]
end
end Go.Lg
namespace Go.Proofs.YtjcgijbhaemldaaGreatDoor
open Go.Lg
theorem Qaj {motive:LI→Prop}(nil:motive [])(append_singleton:∀u v,motive u→motive (u++[v]))(u:LI):motive u:=by
 have key:∀r:LI,motive r.reverse:=by
  intro r;induction r with
  | nil=>exact nil
  | cons v r ih=>rw[List.reverse_cons];exact append_singleton _ _ ih
 have:=key u.reverse;rw[List.reverse_reverse]at this;exact this
def enc (u:LI):Int:=u.foldl (λn e=>n*33+(e+1)) 0
theorem Jk (u:LI)(v:Int):enc (u++[v])=enc u*33+(v+1):=by unfold enc;rw[Mh];rfl
def qq (u:LI):Prop:=∀e∈u,0≤e∧e<32
theorem qq.snoc {u:LI}{v:Int}(h:qq (u++[v])):qq u∧0≤v∧v<32:=⟨λe he=>h e (Ly _ he),h v (by simp)⟩
theorem QoF {u:LI}(h:qq u):0≤enc u:=by
 induction u using Qaj with
 | nil=>exact MH _
 | append_singleton u v ih=>rw[Jk];have:=ih h.snoc.1;have:=h.snoc.2;omega
theorem QoD {u:LI}(h:qq u):(33:Int) ^ u.length≤32*enc u+1:=by
 induction u using Qaj with
 | nil=>decide
 | append_singleton u v ih =>
  have h1:=ih h.snoc.1;have h2:=h.snoc.2;rw[Jk,Lj,Lz,Int.pow_succ];omega
theorem QoE {u:LI}(h:qq u):enc u<(33:Int) ^ u.length:=by
 induction u using Qaj with
 | nil=>decide
 | append_singleton u v ih =>
  have h1:=ih h.snoc.1;have h2:=h.snoc.2;rw[Jk,Lj,Lz,Int.pow_succ];omega
theorem QbS {m n:Nat}(h:m≤n):(33:Int) ^ m≤33 ^ n:=by
 induction h with
 | refl=>exact MH _
 | step h ih =>
  rename_i k;have:(0:Int)≤33 ^ k:=by
   have hp:∀k:Nat,(0:Int)≤33 ^ k:=λk=>by induction k with|zero=>decide|succ k ih=>rw[Int.pow_succ];omega
   exact hp k
  rw[Int.pow_succ];omega
theorem Qmm {u v:LI}(hu:qq u)(E:qq v)(h:enc u≤enc v):u.length≤v.length:=by
 rcases Nat.lt_or_ge v.length u.length with G|hge
 ·exfalso;have h1:=QoD hu;have h2:=QoE E;have h3:=QbS (show v.length+1≤u.length from G);rw[Int.pow_succ]at h3;have h4:(1:Int)≤33 ^ v.length:=QbS (Ll v.length);omega
 exact hge
def rn (a:QD)(x:Int)(u:LI):Int:=u.foldl (λs v=>nxt a.ed s v) x
theorem QeF (a:QD)(x:Int)(u:LI)(v:Int):rn a x (u++[v])=nxt a.ed (rn a x u) v:=by unfold rn;rw[Mh];rfl
theorem Qag (a:QD)(x:Int)(v:Int)(u:LI):rn a x (v::u)=rn a (nxt a.ed x v) u:=rfl
theorem Qlg {a:QD}(E:QO a)(v:Int):nxt a.ed (-1) v=-1:=by
 rw[YS];cases G:eget a.ed (-1) v with
 | none=>rfl
 | some u=>have:=(E.ed _ (Z0 G)).1;simp only[]at this;omega
theorem Qaf {a:QD}(E:QO a):∀u,rn a (-1) u=-1
 | []=>rfl
 | v::u=>by rw[Qag,Qlg E];exact Qaf E u
def x0 (a:QD):Int:=if 0<a.st then 0 else -1
theorem QhI {a:QD}(E:QO a):∀(u:LI) (s:Int),0≤s→((flw a s u).2=u.length↔0≤rn a s u)∧((flw a s u).2=u.length→(flw a s u).1=rn a s u)
 | [],s,hs=>⟨⟨λ_=>hs,λ_=>O⟩,λ_=>O⟩
 | v::u,s,hs=>by
  rw[flw,Qag];by_cases h:nxt a.ed s v<0
  ·have e:nxt a.ed s v=-1:=by have:=(Qlf E s v).1;omega
   rw[if_pos h,e,Qaf E];exact⟨⟨λh=>by simp at h,λh=>by omega⟩,λh=>by simp at h⟩
  rw[if_neg h];obtain⟨h1,h2⟩:=QhI E u (nxt a.ed s v) (by omega);constructor
  ·rw[←h1];simp
  intro h3;exact h2 (by simpa using h3)
theorem QlX {a:QD}(E:QO a)(u:LI):gens a u=decide (0≤rn a (x0 a) u):=by
 unfold gens rchd;rw[if_neg (by simpa using(Zs a).2 E)];have H:=E.st0;by_cases G:a.st=0
 ·rw[if_pos G];have:x0 a=-1:=by unfold x0;rw[if_neg (by omega)]
  rw[this,Qaf E];rfl
 rw[if_neg G];have:x0 a=0:=by unfold x0;rw[if_pos (by omega)]
 rw[this];have h1:=(QhI E u 0 (MH 0)).1;simp only[];rw[decide_eq_decide,←h1];omega
structure Fw where
 u:LI
 s:Int
def Vu:Fw:=⟨[],0⟩
def wdN (e:Fw)(d:Ed):Fw:=⟨e.u++[d.2.1],d.2.2⟩
def wdR (a:QD)(e:Fw):List Fw:=(Zu a.ed e.s).map (wdN e)
def wdL (a:QD)(most:Nat):Nat→Nat→List Fw→Option (List Fw)
 | 0,_,L=>some L
 | f+1,i,L=>if i<L.length then(if(L.getD i Vu).u.length=most then some L else if 1024<(L++wdR a (L.getD i Vu)).length then none else wdL a most f (i+1) (L++wdR a (L.getD i Vu)))else some L
def wds (a:QD)(most:Nat):Option (List Fw):=wdL a most 1025 0 [Vu]
structure WdI (a:QD)(most i:Nat)(L:List Fw):Prop where
 ne:0<L.length
 le:i≤L.length
 mx:L.length≤1024
 rx:∀e∈L,e.s=rn a 0 e.u∧0≤e.s∧e.s<a.st∧(∀v∈e.u,v∈a.al)∧e.u.length≤most
 so:L.Pairwise λp q=>enc p.u<enc q.u
 hd:(L.getD 0 Vu).u=[]
 pr:∀e∈L,e.u=[]∨∃j v,j<i∧e.u=(L.getD j Vu).u++[v]
 ch:∀j v,j<i→0≤nxt a.ed (L.getD j Vu).s v→∃e∈L,e.u=(L.getD j Vu).u++[v]
theorem zQ {L:List Fw}{i:Nat}(h:i<L.length):L.getD i Vu∈L:=by simp[List.getD,h]
theorem Qi8 {L r:List Fw}{i:Nat}(h:i<L.length):(L++r).getD i Vu=L.getD i Vu:=by simp[List.getD,List.getElem?_append_left h]
theorem WdI.step {a:QD}(E:QO a){most i:Nat}{L:List Fw}(h:WdI a most i L)(hi:i<L.length)(hl:(L.getD i Vu).u.length≠most)(hm:¬1024<(L++wdR a (L.getD i Vu)).length):WdI a most (i+1) (L++wdR a (L.getD i Vu)):=by
 have H:qq a.al:=E.al;have Y:∀e∈L,qq e.u:=λe he u hu=>H u ((h.rx e he).2.2.2.1 u hu);have V:=zQ hi;obtain⟨r1,r2,r3,r4,r5⟩:=h.rx _ V;generalize I:L.getD i Vu=ei at *;have J:∀e∈wdR a ei,∃d∈Zu a.ed ei.s,e=wdN ei d∧d.2.1∈a.al∧0≤d.2.2∧d.2.2<a.st∧nxt a.ed ei.s d.2.1=d.2.2:=λe he=>by
  unfold wdR at he;obtain⟨d,hd,rfl⟩:=Lq.1 he;obtain⟨ha,hh⟩:=Zx hd;have U:=E.ed d ha;refine⟨d,hd,O,U.2.2.1,U.2.2.2.1,U.2.2.2.2,?_⟩;rw[QeX];obtain⟨k,hk,rfl⟩:=LB hd;refine QdC _ ei.s _ k hk (λe he=>(Zx he).2) O (λm hb e=>?_);have hp:(Zu a.ed ei.s).Pairwise λx y:Ed=>x.1<y.1∨(x.1=y.1∧x.2.1<y.2.1):=List.Pairwise.sublist MI E.edi
  have:=MN.1 hp m k (by omega) hk hb;have e1:=(Zx (Lc (l:=Zu a.ed ei.s) (show m<(Zu a.ed ei.s).length by omega))).2;have e2:=(Zx (Lc hk)).2;omega
 have hr:=QoF (Y _ V);have hc:∀e∈L,∀v,v∈a.al→enc e.u<enc (ei.u++[v]):=λe he v hv=>by
  have hs:=H v hv;rw[Jk];rcases h.pr e he with h1|⟨j,u,hj,h1⟩
  ·rw[h1];show(0:Int)<_;omega
  rw[h1,Jk];have ht:enc (L.getD j Vu).u<enc ei.u:=by
   have:=MN.1 h.so j i (by omega) hi hj;rw[←I];simpa[List.getD,show j<L.length by omega,hi]using this
  have hw:u<32:=by
   have:=(h.rx e he).2.2.2.1 u (by rw[h1];simp);exact(H u this).2
  omega
 have keepD:∀r:List Fw,∀j,j<L.length→(L++r).getD j Vu=L.getD j Vu:=λr j hj=>Qi8 hj;refine⟨by simp;have:=h.ne;omega,by simp;omega,by omega,λe he=>?_,?_,by rw[keepD _ 0 h.ne];exact h.hd,λe he=>?_,λj v hj G=>?_⟩
 ·rcases Lo.1 he with he|he
  ·exact h.rx e he
  obtain⟨d,_,rfl,h1,h2,h3,h4⟩:=J e he;refine⟨?_,h2,h3,λu hu=>?_,?_⟩
  ·show d.2.2=rn a 0 (ei.u++[d.2.1]);rw[QeF,←r1,h4]
  ·rcases Lo.1 (show u∈ei.u++[d.2.1] from hu)with hu|hu
   ·exact r4 u hu
   simp only[List.mem_singleton]at hu;subst hu;exact h1
  show(ei.u++[d.2.1]).length≤most;rw[Lj,Lz];omega
 ·rw[MF];refine⟨h.so,?_,λp hp q hq=>?_⟩
  ·unfold wdR;rw[Mm];have hp:(Zu a.ed ei.s).Pairwise λx y:Ed=>x.1<y.1∨(x.1=y.1∧x.2.1<y.2.1):=List.Pairwise.sublist MI E.edi;refine List.Pairwise.imp_of_mem (λ{x y} hx hy hz=>?_) hp;have e1:=(Zx hx).2;have e2:=(Zx hy).2;show enc (ei.u++[x.2.1])<enc (ei.u++[y.2.1]);rw[Jk,Jk];omega
  obtain⟨d,_,rfl,h1,_⟩:=J q hq;exact hc p hp _ h1
 ·rcases Lo.1 he with he|he
  ·rcases h.pr e he with h1|⟨j,u,hj,h1⟩
   ·exact .inl h1
   exact .inr ⟨j,u,by omega,by rw[keepD _ j (by omega)];exact h1⟩
  obtain⟨d,_,rfl,_⟩:=J e he;exact .inr ⟨i,d.2.1,by omega,by rw[keepD _ i hi,I];rfl⟩
 rw[keepD _ j (by omega)]at G ⊢;by_cases e:j=i
 ·subst e;rw[I]at G ⊢;have hf:=Vf G;refine⟨wdN ei (ei.s,v,nxt a.ed ei.s v),L9 _ ?_,O⟩;unfold wdR;exact LP (by unfold Zu;exact LJ.2 ⟨hf,by simp⟩)
 obtain⟨e',hg,h1⟩:=h.ch j v (by omega) G;exact⟨e',Ly _ hg,h1⟩
structure WdR (a:QD)(most:Nat)(L:List Fw):Prop where
 so:L.Pairwise λp q=>enc p.u<enc q.u
 mx:L.length≤1024
 rx:∀e∈L,e.s=rn a 0 e.u∧0≤e.s∧e.s<a.st∧(∀v∈e.u,v∈a.al)∧e.u.length≤most
 all:∀u:LI,0≤rn a 0 u→u.length≤most→∃e∈L,e.u=u
theorem WdI.fin {a:QD}(I:QO a){most i:Nat}{L:List Fw}(h:WdI a most i L)(V:L.length≤i∨(i<L.length∧(L.getD i Vu).u.length=most)):WdR a most L:=by
 have Y:qq a.al:=I.al;have J:∀e∈L,qq e.u:=λe he u hu=>Y u ((h.rx e he).2.2.2.1 u hu);refine⟨h.so,h.mx,h.rx,λu=>?_⟩;induction u using Qaj with
 | nil=>intro _ _;exact⟨_,zQ h.ne,h.hd⟩
 | append_singleton u v ih =>
  intro G ha;rw[Lj,Lz]at ha;rw[QeF]at G;have hb:0≤rn a 0 u:=by
   rcases Int.lt_or_le (rn a 0 u) 0 with hk|hge
   ·exfalso;have hm:=Vf G;have:=(I.ed _ hm).1;simp only[]at this;omega
   exact hge
  obtain⟨e,he,E⟩:=ih hb (by omega);obtain⟨j,hj,U⟩:=LB he;have H:L.getD j Vu=e:=by rw[←U];simp[List.getD,hj]
  have hc:j<i:=by
   rcases V with h1|⟨hi,h1⟩
   ·omega
   rcases Nat.lt_or_ge j i with h2|h2
   ·exact h2
   exfalso;have hf:enc (L.getD i Vu).u≤enc u:=by
    rcases Nat.eq_or_lt_of_le h2 with h3|h3
    ·subst h3;rw[H,E];exact MH _
    have:=MN.1 h.so i j hi hj h3;have e1:(L[i]'hi)=L.getD i Vu:=by simp[List.getD,hi]
    rw[e1,U,E]at this;omega
   have:=Qmm (J _ (zQ hi)) (by rw[←E];exact J e he) hf;omega
  have hg:=(h.rx e he).1;obtain⟨e',hh,h1⟩:=h.ch j v hc (by rw[H,hg,E];exact G);exact⟨e',hh,by rw[h1,H,E]⟩
theorem Qbn {a:QD}(E:QO a){most:Nat}:∀(f i:Nat) (L R:List Fw),WdI a most i L→1025≤i+f→wdL a most f i L=some R→WdR a most R
 | 0,i,L,R,h,G,e=>by
  rw[wdL]at e;cases e
  exact h.fin E (.inl (by have:=h.mx;omega))
 | f+1,i,L,R,h,G,e=>by
  rw[wdL]at e;by_cases hi:i<L.length
  ·rw[if_pos hi]at e;by_cases hl:(L.getD i Vu).u.length=most
   ·rw[if_pos hl]at e;cases e
    exact h.fin E (.inr ⟨hi,hl⟩)
   rw[if_neg hl]at e;by_cases hm:1024<(L++wdR a (L.getD i Vu)).length
   ·rw[if_pos hm]at e;cases e
   rw[if_neg hm]at e;exact Qbn E f (i+1) _ R (h.step E hi hl hm) (by omega) e
  rw[if_neg hi]at e;cases e
  exact h.fin E (.inl (by omega))
theorem Qm0 {a:QD}(E:0<a.st)(most:Nat):WdI a most 0 [Vu]:=by
 refine⟨by simp,Nat.zero_le _,by simp,λe he=>?_,by simp,by simp[List.getD,Vu],λe he=>?_,λj v hj=>by omega⟩
 ·simp only[List.mem_singleton]at he;subst he;exact⟨O,MH _,E,by simp[Vu],by simp[Vu]⟩
 simp only[List.mem_singleton]at he;subst he;exact .inl O
theorem QgV {a:QD}(E:QO a)(G:0<a.st){most:Nat}{R:List Fw}(h:wds a most=some R):WdR a most R:=Qbn E 1025 0 [Vu] R (Qm0 G most) (by omega) h
end Go.Proofs.YtjcgijbhaemldaaGreatDoor
namespace Go.Lg
section
variable {P:Program}{ops:List Oper}{K:Fr→World→Prop}{f:Fr}{w:World}{d:Option Nat}{ty:Nat}{ps:String}{af:Array Edge}{gd:Option (Nat×Bool)}
theorem qi {base t ty e:Nat}{sz bys:Nat}{z:Value}[h:Sl P t e sz bys z]{v:Value}{n:Nat}{cs:LV}(E:w.ownsRow base e sz v n cs)
  {a:Addr} {m c:Nat} {news:LV} (hl:news.length=m*sz) (J:∀j u,news[j]?=some u→w.cell? (a.add j)=some u) (h1:∀u∈news,u.oneCell'=true)
  (hb:n+m≤1099511627776) (hq:bys≤128) (hc:base≤w.heap.size):
  ∃v' w',(Builtin.append_ #[t,t] ty #[v,.slice (some a) m c]).run P w=.ok v' w'∧w'.ownsRow base e sz v' (n+m) (cs++news)∧Step (ob v) w w'∧(∀b∈ob v',b∈ob v∨w.heap.size≤b)∧w'.ownsRow base e sz v n cs:=by
 obtain⟨i,hi,V,I,Y⟩:=Sl.info h;have ha:(n+m)*bys≤140737488355328:=LL (Nat.mul_le_mul hb hq) (by omega);have he:n+m≤maxLen:=by simp only[maxLen];omega
 by_cases hg:∃g cap cur,v=.slice (some ⟨g,0,none⟩) n cap∧w.heap[g]?=some (.cells cur e (0,0))∧n+m≤cap
 ·obtain⟨v',w',H,ho,hs,_⟩:=run_append_own (P:=P) w base t ty e i z sz bys h.u hi V I Y h.zs h.pos v n cs E a m c news hl J h1 he ha hc;have ht:Step (ob v) w w':=by rw[QaB];exact Step.of_grown hs
  refine⟨v',w',H,ho,ht,?_⟩;obtain⟨g,cap,cur,rfl,hf,hroom⟩:=hg;rcases E.2 with⟨h2,_⟩|⟨g2,cap2,hh,h2,h3,h4,h5,h6,h7,h8⟩
  ·cases h2
  cases h2
  have hu:n*i.size+news.length≤hh.size:=by rw[hl,h7,I,←Mt];exact ML _ hroom
  have hv:=run_append_room (P:=P) w t ty e i h.u hi g n cap hh h4 a m c news (by rw[I];exact hl) J h1 hroom hu;rw[hv]at H;cases H
  refine⟨λb hb'=>.inl hb',E.1,?_⟩;have hB:=E.1;rcases ho.2 with⟨e1,_⟩|⟨g3,cap3,cur3,e1,k3,k4,k5,k6,k7,k8⟩
  ·cases e1
  cases e1
  refine .inr ⟨g,cap,cur3,O,k3,k4,h5,k6,k7,?_⟩;have:=congrArg (List.take (n*sz)) k8;rw[List.take_take,Nd (ML _ (Nat.le_add_right n m)),List.take_append_of_le_length (by omega),Lp (l:=cs) (by omega)]at this;exact this
 have new:∀(old:Nat),old<n+m→∀G,G=(Obj.cells (cs.toArray++news.toArray++Builtin.zeroCells z.cells (grownCap w (n+m) old e - (n+m))) e) →
   (w.drew.alloc G).ownsRow base e sz (.slice (some ⟨w.heap.size,0,none⟩) (n+m) (grownCap w (n+m) old e)) (n+m) (cs++news):=by
  intro old ho G hw;subst hw;have hge:=grownCap_ge w (n+m) old e;have hj:grownCap w (n+m) old e≤maxLen:=grownCap_le_maxLen w (n+m) old e he;have hp:(cs++news).length=(n+m)*sz:=by rw[Lj,E.1,hl,Mt]
  refine⟨hp,.inr ⟨w.heap.size,_,_,O,hc,Ko w.drew _,hge,hj,?_,?_⟩⟩
  ·simp only[Array.size_append,List.size_toArray,size_zeroCells,h.zs,E.1,hl,←Nat.add_mul];congr 1;omega
  simp only[Array.toList_append,List.append_assoc];rw[←LA,←hp];exact List.take_left
 have stp:∀G,Step (ob v) w (w.drew.alloc G):=λG=>⟨O,O,O,by rw[Uv];exact Nat.le_succ _,λk hk _=>ym w.drew G k hk⟩;have hy:∀G,Step [] w (w.drew.alloc G):=λG=>⟨O,O,O,by rw[Uv];exact Nat.le_succ _,λk hk _=>ym w.drew G k hk⟩;have fin:∀(b:Nat),b∈ob (.slice (some ⟨w.heap.size,0,none⟩) (n+m) 0)→b∈ob v∨w.heap.size≤b:=λb hb'=>by simp[ob]at hb';omega
 rcases E.2 with⟨rfl,rfl⟩|⟨g,cap,cur,rfl,hC,hf,hD,hj,hE,hF⟩
 ·have hx:cs=[]:=Lr (by simpa using E.1);subst hx;by_cases hm:m=0
  ·subst hm;have U:news=[]:=Lr (by simpa using hl);subst U;refine⟨nS,w,?_,QN _ _ _ _,Step.refl _ _,λb hb'=>by simp[ob]at hb',QN _ _ _ _⟩;simp[Builtin.append_,run_underlying h.u,sizeOf,typeInfo,hi,Builtin.lenOf,Builtin.firstCells,loadCells,loadCellsFrom]
  have H:=run_append_nil (P:=P) w t ty e i z h.u hi V a m c news (by rw[I];exact hl) J (by omega) (by omega) (by rw[Y];have h0:=ha;simp only[Nat.zero_add]at h0;omega);have U:=new 0 (by omega) _ O;simp only[Nat.zero_add,List.nil_append,Array.empty_append]at U ⊢;exact⟨_,_,H,U,stp _,λb hb'=>fin b hb',QN _ _ _ _⟩
 have hroom:cap<n+m:=by
  rcases Nat.lt_or_ge cap (n+m)with h9|hge
  ·exact h9
  exact absurd ⟨g,cap,cur,O,hf,hge⟩ hg
 have hA:∀j u,cs[j]?=some u→w.cell? ((⟨g,0,none⟩:Addr).add j)=some u:=E.cells (g:=g) O;have H:=run_append_grow (P:=P) w t ty e i z h.u hi V ⟨g,0,none⟩ n cap cs (by rw[I];exact E.1) hA a m c news (by rw[I];exact hl) J hroom (by omega) (growslice_fits hroom (by rw[Y];exact ha));exact⟨_,_,H,new cap hroom _ O,stp _,λb hb'=>fin b hb',Qs E (hy _)⟩
theorem Qh6 {t e sz bys:Nat}{z:Value}[h:Sl P t e sz bys z]{s y:Operand}{base:Nat}{v:Value}{n:Nat}{cs:LV}(E:w.ownsRow base e sz v n cs)(hs:ev f s=v)
  {a:Addr} {m c:Nat} {news:LV} (hy:ev f y=.slice (some a) m c) (hl:news.length=m*sz) {L:LN} (G:At L w.heap a news) (h1:∀u∈news,u.oneCell'=true)
  (hb:n+m≤1099511627776) (H:base≤w.heap.size)
  (I:∀v' w',w'.ownsRow base e sz v' (n+m) (cs++news)→Step (ob v) w w'→(∀b∈ob v',b∈ob v∨w.heap.size≤b)→w'.ownsRow base e sz v n cs→K (QW f d v') w') (J:bys≤128:=by decide):
  XO P ⟨d,.call ⟨.builtin .append,#[s,y],#[t,t]⟩,ty,ps,af,gd⟩ f w K:=by
 obtain⟨v',w',U,h2,h3,h4,h5⟩:=qi (P:=P) (t:=t) (ty:=ty) E hl G.cells h1 hb J H (c:=c);have V:(execOp (ev f) ⟨d,.call ⟨.builtin .append,#[s,y],#[t,t]⟩,ty,ps,af,gd⟩).run P w=.ok (.value v') w':=by
  simp[execOp,resolve,invoke,builtin,hs,hy,U]
 exact xv V (I v' w' h2 h3 h4 h5)
end
section
variable {P:Program}{ops:List Oper}{K:Fr→World→Prop}{f:Fr}{w:World}{d:Option Nat}{ty:Nat}{ps:String}{af:Array Edge}{gd:Option (Nat×Bool)}{C:World→Prop}{pl:List (Nat×Bool)}{i0:Nat}
theorem QqL {α:Type}{g:α→LV}{x y:Operand}{t e sz bys:Nat}{z:Value}[Sl P t e sz bys z](E:QL ops i0=⟨d,.indexAddr t x y,ty,ps,af,gd⟩)(H:∀x,(g x).length=sz){L:LN}{es:List α}{v:Value}{G:World}{k:IntKind}{i:Nat}
  (h:∀w',C w'→Zy L w'.heap v es.length sz (es.flatMap g)) (I:C G) (J:ev f x=v) (hy:ev f y=.int k i) (hi:i<es.length)
  (U:∀a,(∀w',C w'→At L w'.heap a (g es[i]))→XP P ops C K pl (QW f d (.pointer (some a))) w) (V:Yd ops f (QL ops i0)=true:=by rfl):
  XP P ops C K ((i0,true)::pl) f w:=by
 obtain⟨a,cap,h1,_⟩:=Zy.at (h G I) hi;refine Lg.p (λw'=>by rw[E];exact Xx (J.trans h1) hy (by omega) (by omega)) ?_ V;rw[E];refine U _ λw' hc=>?_;obtain⟨a',cap',Y,h2⟩:=Zy.at (h w' hc) hi;rw[Y]at h1;cases h1
 rw[JH g sz H es i hi]at h2;simpa using h2
end
end Go.Lg
namespace Go.Proofs.YtjcgijbhaemldaaGreatDoor
open Go.Proofs.Tryz
open Go.Lg
theorem Qqb (b:Bool):b=true∨b=false:=by cases b;exact .inr O;exact .inl O
structure FV where
 v:Value
 f:Fw
abbrev ZU (p:FV):LV:=[p.v,.int .i64 p.f.s]
theorem QaQ (p:FV):(ZU p).length=2:=rfl
structure WdM (wB:World)(vL:Value)(es:List FV)(w:World):Prop where
 st:Step [] wB w
 l:w.ownsRow wB.heap.size 125 2 vL es.length (es.flatMap ZU)
 each:∀p∈es,QJ (ob vL) w.heap p.v p.f.u
theorem WdM.ext {wB w w':World}{vL:Value}{es:List FV}(h:WdM wB vL es w)(hs:Step [] w w'):WdM wB vL es w':=⟨h.st.trans hs,Qs h.l hs,λp hp=>(h.each p hp).ext hs⟩
theorem WdM.add {wB w w':World}{vL vL':Value}{es:List FV}{p:FV}(h:WdM wB vL es w)(hs:Step (ob vL) w w')(hl:w'.ownsRow wB.heap.size 125 2 vL' (es.length+1) (es.flatMap ZU++ZU p))(E:∀b∈ob vL',b∈ob vL∨w.heap.size≤b)(hp:QJ (ob vL) w.heap p.v p.f.u):WdM wB vL' (es++[p]) w':=by
 refine⟨h.st.then hs (λb hb=>.inr (Qq h.l b hb).1),by rw[Lj,LG];simpa using hl,λq hq=>?_⟩;rcases Lo.1 hq with hq|hq
 ·exact(h.each q hq).grow hs (λb hb=>hb) E
 simp only[List.mem_singleton]at hq;subst hq;exact hp.grow hs (λb hb=>hb) E
theorem Qi0 {es:List FV}{i:Nat}(h:i<es.length):(es.map (·.f)).getD i Vu=(es[i]'h).f:=by simp[List.getD,h]
theorem Qlc {a:QD}(E:QO a)(s:Int):(Zu a.ed s).length≤32:=by
 have hp:(Zu a.ed s).Pairwise λx y:Ed=>x.1<y.1∨(x.1=y.1∧x.2.1<y.2.1):=List.Pairwise.sublist MI E.edi;have hi:Z2 ((Zu a.ed s).map λe=>e.2.1):=by
  unfold Z2;rw[Mm];refine List.Pairwise.imp_of_mem (λ{x y} hx hy H=>?_) hp;have e1:=(Zx hx).2;have e2:=(Zx hy).2;omega
 have:=Xs _ 0 32 hi (λv G=>by
  obtain⟨e,he,rfl⟩:=Lq.1 G;exact E.al _ (E.ed e (Zx he).1).2.2.1)
 rw[Lh]at this;omega
def QgX (a:QD)(most:Nat):Option (List (LI)):=if a.st=0 then some []else(wds a most).map λL=>L.map (·.u)
def Qf3 (a:QD)(most:Nat)(mk:Bool):Option (List (LI)):=if a.st=0 then some []else(wds a most).map λL=>(L.filter λf=>!mk || decide (f.s∈a.mr)).map (·.u)
def Qj6 (o:Option (List (LI)))(r:Value)(H:Array Obj):Prop:=(o=none∧r=.tuple #[Zg,.int .i64 3])∨∃l v ps,o=some l∧r=.tuple #[v,.int .i64 0]∧XQ [] H v ps∧ps.map (·.2)=l
set_option maxHeartbeats 16000000 in
theorem QgG {w:World}{va vm ve:Value}{a:QD}(h:Zm [] w.heap va vm ve a)(hck:Xq a=0)(ho:QO a)(most:Nat)(j4:most≤4096)(mk:Bool):
  QH prog 13 [.agg #[va,.int .i64 a.st,vm,ve],.int .i64 most,.bool mk] w λr w'=>Step [] w w'∧Qj6 (Qf3 a most mk) r w'.heap:=by
 have za:=ho.st0;have zb:=ho.st1;refine QH.of_W func13 O ntmps13 results13 (by simp) ?_;refine Qc<|xl O<|QR (us:=[va,.int .i64 a.st,vm,ve]) O λb3 w1 g2 zv g3=>x Qe<|Qf<|Qg<|Qc<|x (Qo g3 O O)<|xl O<|xf<|(YU (h.ext g2)).mono ?_;rintro r2 w2 ⟨g5,g7⟩;rw[hck]at g5;subst g5;have H:=g2.trans g7;refine Qf<|Qc<|Qb<|x (Q6 O O)<|xe<|Z4 rfl ?_
 refine Qi<|Qg<|Qc<|Qb<|xb (QA O O) (λg8=>absurd (show(most:Int)<0 from g8) (by omega)) (λg8=>?_);refine Qb<|Qb<|x (ZR O O)<|x (Qp O)<|xe<|Q3 rfl (λg9=>absurd (show(most:Int) > 4096 from g9) (by omega)) (λg9=>?_);refine Qi ?_;have hM:=g3.ext g7;refine Qg<|Qc<|x (Qa O)<|x (Qd hM O O)<|x (Zr O O)<|xe<|Q3 rfl (λhN=>?_) (λhN=>?_)
 ·refine Qc<|x Qe<|Qf ?_;exact Ql ⟨[Zg,.int .i64 0],⟨O,O,Z⟩,H,.inr ⟨[],Zg,[],by unfold Qf3;rw[if_pos hN],rfl,⟨Zy.nil _ _ _,λp hp=>by cases hp⟩,rfl⟩⟩
 have mj:0<a.st:=by have z0:¬a.st=0:=hN;omega
 have hW:Qf3 a most mk=(wds a most).map λL=>(L.filter λf=>!mk || decide (f.s∈a.mr)).map (·.u):=by unfold Qf3;rw[if_neg (by omega)]
 refine Zj (wds a most) λR hR=>?_;rw[hR]at hW;refine Qi<|Qc<|x (QM Z)<|xl O<|QG (us:=[ZU ⟨nS,Vu⟩]) O O (by decide) (by exact(by decide:1*2≤1000000)) ⟨O,O,Z⟩ λka w3 mo mq ms=>Qf ?_;have mt:WdM w2 (.slice (some ⟨ka,0,none⟩) 1 1) [⟨nS,Vu⟩] w3:=by
  refine⟨mo,ms.own (n:=1) O (by omega) mq,λp hp=>?_⟩;simp only[List.mem_singleton]at hp;subst hp;exact Zy.nil _ _ _
 have mu:∀e∈a.ed,0≤e.1∧e.1≤1099511627776:=λe he=>by have:=ho.ed e he;omega
 refine QX (α:=Value×List FV) [(6,7),(9,10),(12,12),(32,77)] (λz=>[(9,z.1)]) (λz w'=>WdM w2 z.1 z.2 w'∧R=some (z.2.map (·.f))∧z.2.length≤1024) (by rfl) ?_ ?_
 ·refine Qc<|Qf<|Qh<|Qz (α:=Nat×Value×List FV) [(6,7),(9,10),(12,12),(32,77)] (λz=>[(9,z.2.1),(10,.int .i64 z.1)])
   (λz w'=>z.1≤1025∧WdM w2 z.2.1 z.2.2 w'∧WdI a most z.1 (z.2.2.map (·.f))∧wdL a most (1025 - z.1) z.1 (z.2.2.map (·.f))=R) (λz=>1025 - z.1) (by rfl) (0,.slice (some ⟨ka,0,none⟩) 1 1,[⟨nS,Vu⟩]) ⟨O,O,Z⟩
   ⟨Ll _,mt,Qm0 mj most,hR⟩ ?_
  rintro⟨i,vL,es⟩ g4 w4 ⟨mv,ha,h3,E⟩;simp only[]at mv ha h3 E;have hO:=h3.mx;have mw:=h3.le;rw[Lh]at hO mw;have ht:Zy [] w4.heap vL es.length 2 (es.flatMap ZU):=QV ha.l (by omega) (λb _=>by simp);refine Qg<|Qc<|Qb<|Qb<|x (Qr ht O)<|x (QA O O)<|xe<|QC O (λhP=>?_) (λhP=>?_)
  ·refine Qy ?_;have my:¬i<(es.map (·.f)).length:=by rw[Lh];have mz:¬(i:Int)<(es.length:Int):=hP;omega
   refine⟨(vL,es),La,ha,?_,hO⟩;rw[←E];generalize 1025 - i=f;cases f with
   | zero=>rfl
   | succ f=>rw[wdL,if_neg my]
  have hi:i<es.length:=by have mz:(i:Int)<(es.length:Int):=hP;omega
  rw[show 1025 - i=(1025 - (i+1))+1 by omega,wdL,if_pos (by rw[Lh];exact hi),Qi0 hi]at E;have kb:=ha.each _ (Lc hi);have hQ:=h3.rx _ (LP (f:=λq:FV=>q.f) (Lc hi));have hS:=λhl hm=>h3.step ho (by rw[Lh];exact hi) hl hm;rw[Qi0 hi]at hS;refine Zj (es[i]'hi) λei hE=>?_;rw[hE]at E kb hQ hS;have kc:=ha.st
  have m0:=kb.up (L':=[]) (λb hb=>by cases hb);refine Qi<|Qg<|Qh<|Qg<|Qc<|Qb<|Qb<|xig (g:=ZU) (i:=i) QaQ ht O O hi λz1 ke=>?_;rw[hE]at ke;refine x (Zf O)<|x (Qv (ke.fld 0 _ O) O)<|x (Qr m0 O)<|Qb<|x (Zr O O)<|xe<|Q3 O (λhU=>?_) (λhU=>?_)
  ·refine Qy ?_;have hF:ei.f.u.length=most:=by have m1:(ei.f.u.length:Int)=(most:Int):=hU;omega
   rw[if_pos hF]at E;exact⟨(vL,es),La,ha,E.symm,hO⟩
  have hF:ei.f.u.length≠most:=by have m1:¬(ei.f.u.length:Int)=(most:Int):=hU;omega
  rw[if_neg hF]at E;have hV:=hS hF;refine Qi ?_;have m2:=hM.ext kc;have m3:Zm (ob vL) w4.heap va vm ve a:=((h.ext H).up (L':=ob vL) (λb hb=>.inr (Qq ha.l b hb).1)).ext kc;have m4:=Qlc ho ei.f.s;have hout:=Qaz (va:=va) (vm:=vm) (st:=a.st) (m3.ed.ext (Step.drew [] w4)) ho.eds mu ei.f.s hQ.2.1 (by omega);refine Zj (Zu a.ed ei.f.s) λos kf=>?_;rw[kf]at m4 hout
  have m5:wdR a ei.f=os.map (wdN ei.f):=by unfold wdR;rw[kf]
  rw[m5]at E hV;refine Qg<|Qg<|QU (Step [] w4) [(0,true),(1,true),(2,true),(3,true),(4,true),(5,true),(8,true),(6,false),(7,true)] mixed (by rfl) (by kernel_rfl) (Step.drew _ _) ?_;refine pq (λ_ hc=>Qo (m2.ext hc) O O)<|p (λ_=>Qk)<|p (λ_=>Qk)<|Lg.pig (g:=ZU) (i:=i) O QaQ ht O O hi λz2 kg=>?_;rw[hE]at kg
  refine p (λ_=>Zf O)<|pq (λ_ hc=>Qv ((kg.fld 1 _ O).ext hc) O)<|p (λ_=>Qk)<|pk<|xf<|hout.mono ?_;rintro ro w5 ⟨m6,kh⟩;have ki:=(Step.drew [] w4).trans m6;refine⟨ki,?_⟩;refine p (λ_=>Qr kh O)<|pe ?_;have m7:=ha.ext ki;refine Zj (es.map (·.f)++os.map (wdN ei.f)) λL1 kj=>?_;rw[kj]at E hV
  refine Qh<|Qz (α:=Nat×Value×List FV) [(9,9),(12,12),(54,74)] (λz=>[(9,z.2.1),(54,.int .i64 z.1)])
   (λz w'=>z.1≤os.length∧WdM w2 z.2.1 z.2.2 w'∧qe (ob z.2.1) w'.heap ro os∧z.2.2.length=es.length+z.1∧(∃h:i<z.2.2.length,z.2.2[i]'h=ei)∧z.2.2.map (·.f)++(os.drop z.1).map (wdN ei.f)=L1) (λz=>os.length - z.1) (by rfl) (0,vL,es) ⟨O,O,Z⟩
   ⟨Ll _,m7,kh,O,⟨hi,hE⟩,kj⟩ ?_
  rintro⟨k,vL2,fs⟩ g6 w6 ⟨hk,hh,hX,m8,kk,hf⟩;simp only[]at hk hh hX m8 kk hf;refine Qc<|x (QA O O)<|xe<|Qg<|QC O (λhY=>?_) (λhY=>?_)
  ·refine Qy ?_;have hZ:os.length≤k:=by have hG:¬(k:Int)<(os.length:Int):=hY;omega
   rw[Lv hZ,List.map_nil,LO]at hf;have m9:Zy [] w6.heap vL2 fs.length 2 (fs.flatMap ZU):=QV hh.l (by omega) (λb _=>by simp);have z3:L1.length=fs.length:=by rw[←hf,Lh]
   refine Qc<|Qb<|x (Qr m9 O)<|x (ZR O O)<|xe<|Q3 O (λga=>?_) (λga=>?_)
   ·have hH:1024<L1.length:=by have pa:(fs.length:Int) > 1024:=ga;omega
    rw[if_pos hH]at E;refine Qc<|x Qe<|Qf ?_;exact Ql ⟨[Zg,.int .i64 3],⟨O,O,Z⟩,H.trans hh.st,.inl ⟨by rw[hW,←E];rfl,O⟩⟩
   have hH:¬1024<L1.length:=by have pa:¬(fs.length:Int) > 1024:=ga;omega
   rw[if_neg hH,←hf]at E;have kn:=hV hH;rw[←hf]at kn;refine Qi<|Qw<|Qb<|QP O O<|Qf ?_;exact⟨(i+1,vL2,fs),by simp only[];omega,⟨O,O,Z⟩,by simp only[];omega,hh,kn,E⟩
  have I:k<os.length:=by have hG:(k:Int)<(os.length:Int):=hY;omega
  rw[Q5 I,LX]at hf;refine Zj (os[k]'I) λd hd=>?_;rw[hd]at hf;refine Qi<|Exists.elim kk λgb gc=>?_;have ko:=hh.each _ (Lc gb);rw[gc]at ko;refine QX (α:=Value×Value) [(9,9),(12,12),(56,73)] (λz=>[(9,z.1)]) (λz w'=>WdM w2 z.1 (fs++[⟨z.2,wdN ei.f d⟩]) w'∧qe (ob z.1) w'.heap ro os) (by rfl) ?_ ?_
  ·refine Qh<|Qc<|xie (i:=k) hX O O I λz4 hG=>?_;rw[hd]at hG;refine x (QI hG O O)<|xl O<|Qu (us:=[.int .i64 0,.int .i64 0,.int .i64 0]) O λkp w7 pc pd pf=>xl O<|Qn (us:=QB d) pf O O O O ⟨O,O,O,Z⟩ λG pg kq=>xe ?_;have ge:Step [] w6 G:=pc.then1 pg pd;have h4:=hh.ext ge;have kr:=hX.ext ge;have ph:=ko.ext ge
   have kt:=ph.up (L':=[]) (λb hb=>by cases hb);have hv:Step [] G { G with drawn:=G.drawn+1 }:=Step.drew [] G
   have z5:=hv.size;have ku:=hQ.2.2.2.2;have J:∀w',Step [] G w'→Step (ob vL2) G w'∧w'.ownsRow w2.heap.size 125 2 vL2 fs.length (fs.flatMap ZU):=λw' hs=>⟨hs.mono (by simp),Qs h4.l hs⟩;have kv:kp∉ob vL2:=λhb=>by have:=QY hh.l kp hb;omega
   refine QfZ (λw'=>Step (ob vL2) G w'∧w'.ownsRow w2.heap.size 125 2 vL2 fs.length (fs.flatMap ZU)) (.f2 [(0,true),(1,true),(2,true),(3,true),(4,true),(5,true),(7,true),(8,true),(11,true),(12,true)] 6 9 (.pl [(9,false),(10,false),(13,true),(14,false),(15,false),(16,true)]) (.pl [(6,false),(10,false),(13,true),(14,false),(15,false),(16,true)])) mixed (by rfl) (by kernel_rfl) (J _ hv) ?_
   refine u2<|p (λ_=>Qk)<|p (λ_=>Qk)<|p (λ_=>Qk)<|QqL (g:=ZU) (i:=i) (L:=[]) O QaQ (λw' hc=>QV hc.2 (by omega) (λb _=>by simp)) (J _ hv) rfl rfl gb λz9 kw=>?_;rw[gc]at kw;refine p (λ_=>Zf O)<|pq (λw' hc=>Qv ((kw w' hc).fld 0 _ O) O)<|p (λ_=>Qa O)<|pq (λ_ hc=>Qd (kq.step hc.1 kv) O O)<|p (λ_=>Qa O)<|pq (λ_ hc=>Qd (kq.step hc.1 kv) O O)<|pe ⟨?_,?_⟩
   ·refine ue<|xf<|(Yt (kt.ext hv)).mono ?_;rintro vk w9 ⟨h5,h6⟩;have hw:=hv.trans h5;have pj:=h5.size;have gg:=Qq h6;refine⟨J _ hw,?_⟩;refine uP<|pk<|QG (us:=[[.int .i64 d.2.1]]) O O (by decide) (by simp) ⟨rfl,rfl,Z⟩ λbl pn hj po gh=>?_;have h7:=hw.trans hj;have pp:=hj.size;refine⟨J _ h7,?_⟩
    refine pk<|Q4 (news:=[.int .i64 d.2.1]) (L:=[]) (Qs h6 hj) O O O (gh.at (by simp)) (by simp[Value.oneCell']) (by omega) (by omega) λva' gi gj gk pt=>?_;have h8:Step [] G gi:=h7.then gk (λb hb=>.inr (by have:=(gg b hb).1;omega));have hn:=Qt.snoc (Zd gj (show G.heap.size≤_ by omega));refine⟨J _ h8,?_⟩;have gl:=(Qt.ints (L:=[]) hn (by simp;omega) (by simp)).one
    have gm:=(Qt.ints (L:=[]) hn (by simp;omega) (by simp)).cells;refine p (λ_=>QM ⟨gm,O,Z⟩)<|pk<|QG (us:=[ZU ⟨va',wdN ei.f d⟩]) O O (by decide) (by exact(by decide:1*2≤1000000)) ⟨O,O,Z⟩ λbm gn H pu h9=>?_;have V:=h8.trans H;refine⟨J _ V,?_⟩;have hq:=h4.ext V;have gq:=hq.st.size
    refine pk<|Qh6 (news:=ZU ⟨va',wdN ei.f d⟩) (L:=[]) (m:=1) hq.l O O O (h9.at (by simp)) (by intro u hu;simp only[List.mem_cons,List.not_mem_nil,or_false]at hu;rcases hu with rfl|rfl;exact gl;rfl) (by omega) gq λvz pw gr hr hA gs=>⟨⟨(V.mono (by simp)).trans' hr,gs⟩,p (λ_=>Qe)<|pe ?_⟩
    have gt:QJ (ob vL2) gn.heap va' (wdN ei.f d).u:=Qt.ints (Qs hn H) (by show(ei.f.u++[d.2.1]).length≤_;rw[Lj,Lz];omega) (λb hb=>QY h4.l b hb);exact⟨(vz,va'),La,hq.add hr gr hA gt,(kr.ext V).grow hr (λb hb=>hb) hA⟩
   refine ue<|QG (us:=[[.int .i64 d.2.1]]) O O (by decide) (by simp) ⟨rfl,rfl,Z⟩ λbl w9 h5 po gh=>?_;have hw:=hv.trans h5;have pj:=h5.size;refine⟨J _ hw,?_⟩;refine uP<|pk<|xf<|(Yt (kt.ext hw)).mono ?_;rintro vk pn ⟨hj,h6⟩;have h7:=hw.trans hj;have pp:=hj.size;have gg:=Qq h6;refine⟨J _ h7,?_⟩
   refine pk<|Q4 (news:=[.int .i64 d.2.1]) (L:=[]) h6 O O O ((gh.ext hj).at (by simp)) (by simp[Value.oneCell']) (by omega) (by omega) λva' gi gj gk pt=>?_;have h8:Step [] G gi:=h7.then gk (λb hb=>.inr (by have:=(gg b hb).1;omega));have hn:=Qt.snoc (Zd gj (show G.heap.size≤_ by omega));refine⟨J _ h8,?_⟩;have gl:=(Qt.ints (L:=[]) hn (by simp;omega) (by simp)).one
   have gm:=(Qt.ints (L:=[]) hn (by simp;omega) (by simp)).cells;refine p (λ_=>QM ⟨gm,O,Z⟩)<|pk<|QG (us:=[ZU ⟨va',wdN ei.f d⟩]) O O (by decide) (by exact(by decide:1*2≤1000000)) ⟨O,O,Z⟩ λbm gn H pu h9=>?_;have V:=h8.trans H;refine⟨J _ V,?_⟩;have hq:=h4.ext V;have gq:=hq.st.size
   refine pk<|Qh6 (news:=ZU ⟨va',wdN ei.f d⟩) (L:=[]) (m:=1) hq.l O O O (h9.at (by simp)) (by intro u hu;simp only[List.mem_cons,List.not_mem_nil,or_false]at hu;rcases hu with rfl|rfl;exact gl;rfl) (by omega) gq λvz pw gr hr hA gs=>⟨⟨(V.mono (by simp)).trans' hr,gs⟩,p (λ_=>Qe)<|pe ?_⟩
   have gt:QJ (ob vL2) gn.heap va' (wdN ei.f d).u:=Qt.ints (Qs hn H) (by show(ei.f.u++[d.2.1]).length≤_;rw[Lj,Lz];omega) (λb hb=>QY h4.l b hb);exact⟨(vz,va'),La,hq.add hr gr hA gt,(kr.ext V).grow hr (λb hb=>hb) hA⟩
  rintro⟨vz,va'⟩ g14 w14 ⟨kx,kz⟩;simp only[]at kx kz;refine Qw<|QP O O<|Qb<|xe ?_;exact⟨(k+1,vz,fs++[⟨va',wdN ei.f d⟩]),by simp only[];omega,⟨O,O,Z⟩,I,kx,kz,by simp;omega,⟨by simp;omega,by simp only[];rw[LZ gb];exact gc⟩,by simp only[];rw[Lx,LA];exact hf⟩
 rintro⟨vL,es⟩ g20 hB ⟨h0,k0,pz⟩;simp only[]at h0 k0 pz;rw[k0]at hW;have p0:=H.trans h0.st;have ht:Zy [] hB.heap vL es.length 2 (es.flatMap ZU):=QV h0.l (by omega) (λb _=>by simp);refine Qc<|Qf<|Qg<|Qc<|Qb<|x (Qr ht O)<|Qb<|xe<|Qh<|Qz (α:=Nat×Value×List TV) [(13,13),(15,15),(80,100)] (λz=>[(13,z.2.1),(80,.int .i64 z.1)])
  (λz w'=>z.1≤es.length∧Step [] hB w'∧yT 39 hB.heap.size w' z.2.1 z.2.2∧z.2.2.map (·.2)=((es.take z.1).filter λp=>!mk || decide (p.f.s∈a.mr)).map (λp=>p.f.u)∧∀p∈z.2.2,QJ (ob z.2.1) w'.heap p.1 p.2) (λz=>es.length - z.1) (by rfl) (0,nS,[]) ⟨O,O,Z⟩
  ⟨Ll _,Step.refl _ _,QN _ _ _ _,O,λp hp=>by cases hp⟩ ?_
 rintro⟨k,vT,ps⟩ g21 k4 ⟨hk,Y,hT,hC,hI⟩;simp only[]at hk Y hT hC hI;have hpl:ps.length≤k:=by
  have h1:=congrArg List.length hC;rw[Lh,Lh]at h1;rw[h1];refine LL (Mg _ _) ?_;rw[LC];omega
 refine Qc<|x (QA O O)<|xe<|Qg<|QC O (λgu=>?_) (λgu=>?_)
 ·refine Qy ?_;have hZ:es.length≤k:=by have hJ:¬(k:Int)<(es.length:Int):=gu;omega
  refine Qc<|Qb<|x Qe<|Qf<|Ql ⟨[vT,.int .i64 0],⟨O,O,Z⟩,p0.trans Y,.inr ⟨_,vT,ps,hW,O,⟨QV hT (by omega) (λb _=>by simp),λp hp=>(hI p hp).up (λb hb=>by cases hb)⟩,?_⟩⟩;rw[hC,Lp hZ];show _=((es.map (λp:FV=>p.f)).filter λf=>!mk || decide (f.s∈a.mr)).map (λx:Fw=>x.u);rw[List.filter_map,Mf];rfl
 have I:k<es.length:=by have hJ:(k:Int)<(es.length:Int):=gu;omega
 have k5:=h0.each _ (Lc I);refine Zj (es[k]'I) λek gv=>?_;rw[gv]at k5;have k6:QJ (ob vT) k4.heap ek.v ek.f.u:=((k5.up (L':=[]) (λb hb=>by cases hb)).up (λb hb=>.inr (Qq hT b hb).1)).ext Y;refine Qi<|Qg<|Qh<|Qc<|xig (g:=ZU) (i:=k) QaQ (ht.ext Y) O O I λa82 hJ=>?_;rw[gv]at hJ
 refine x (QI hJ O O)<|xl O<|Qu (us:=[nS,.int .i64 0]) O λb15 w22 p4 p5 p6=>xl O<|Qn (us:=ZU ek) p6 O O O O ⟨k6.one,O,Z⟩ λhg p7 k7=>xe ?_;have U:Step [] k4 hg:=p4.then1 p7 p5;have h9:=((hM.ext h0.st).ext Y).ext U;have p8:QJ [] hg.heap vm a.mr:=(((h.ext H).mr.ext h0.st).ext Y).ext U
 have hD:(es.take (k+1)).filter (λp=>!mk || decide (p.f.s∈a.mr))=(es.take k).filter (λp=>!mk || decide (p.f.s∈a.mr))++(if(!mk || decide (ek.f.s∈a.mr))=true then[ek]else[]):=by
  rw[Li I,L8,gv,Mi,Nc]
 refine QX (α:=Bool) [(84,92)] (λz=>[(92,.bool z)]) (λz w'=>w'=hg∧z=(!mk || decide (ek.f.s∈a.mr))) (by rfl) ?_ ?_
 ·refine Or.elim (Qqb mk) (λgx=>?_) (λgx=>?_)
  ·subst gx;refine Qw<|Qb<|x (Zt O)<|Qb<|x (Qa O)<|x (Qd h9 O O)<|x (Qa O)<|x (Qd k7 O O)<|xl O<|xf<|(Yl p8 ek.f.s).mono ?_;rintro r91 hg ⟨rfl,rfl⟩;refine x (Qp O)<|xe ?_;exact⟨_,La,O,O⟩
  subst gx;refine Qw<|Qb<|x (Zt O)<|Qb<|xs O<|xs O<|xs O<|xs O<|xs O<|x (Qp O)<|xe ?_;exact⟨true,La,O,O⟩
 rintro z g23 hg ⟨rfl,hz⟩;rw[←hz]at hD;refine QZ rfl (λgy=>?_) (λgy=>?_)
 rotate_left
 ·rw[if_neg (by rw[gy];decide),LO]at hD;refine Qi<|Qw<|QP O O<|Qb<|xe ?_;exact⟨(k+1,vT,ps),by simp only[];omega,⟨O,O,Z⟩,I,Y.trans U,Qs hT U,by simp only[];rw[hD];exact hC,λp hp=>(hI p hp).ext U⟩
 rw[if_pos gy]at hD;have k8:=k6.ext U;have k9:=Qs hT U;have ku:=k8.le;refine Qw<|Qb<|xl O<|VG λb94 w24 hK ma p9=>x (Qa O)<|x (Qd (k7.ext hK) O O) <|
  xl rfl<|QdA (base:=hg.heap.size) (p9.own (n:=0) (sz:=1) O (by omega) ma) O (k8.ext hK) O (zk ek.f.u) (by omega) (by have:=hK.size;omega) λh2 gz qc qo hn25=>?_
 have qr:Step [] hg gz:=hK.then1 qo ma;have q0:Qt 3 hg.heap.size gz h2 ek.f.u:=by simpa[tup]using qc
 have g0:QJ (ob vT) gz.heap h2 ek.f.u:=Qt.ints q0 ku (λb hb=>QY k9 b hb);refine xl rfl<|QG (us:=[[h2]]) O O (by decide) (by simp) ⟨g0.cells,rfl,Z⟩ λb98 w26 mc hb98 q4=>?_;have hL:=qr.trans mc;have q9:=Qs k9 hL
 refine xl rfl<|Q4 (news:=[h2]) (L:=[]) q9 O O O (q4.at (by simp)) (λy hy=>by simp only[List.mem_singleton]at hy;subst hy;exact g0.one) (by omega) (by have:=Y.size;have:=U.size;have:=hL.size;omega) λmf mg j1 g1 mh=>Qf ?_;have j2:Step [] hB mg:=((Y.trans U).trans hL).then g1 (λb hb=>.inr (Qq hT b hb).1)
 have j3:yT 39 hB.heap.size mg mf (ps++[(h2,ek.f.u)]):=yT.snoc j1;refine Qw<|QP O O<|Qb<|xe<|⟨(k+1,mf,ps++[(h2,ek.f.u)]),by simp only[];omega,⟨O,O,Z⟩,I,j2,j3,?_,λp hp=>?_⟩
 ·simp only[];rw[Lx,hC,hD,Lx];rfl
 rcases Lo.1 hp with hp|hp
 ·exact(((hI p hp).ext U).ext hL).grow g1 (λb hb=>hb) mh
 simp only[List.mem_singleton]at hp;subst hp;exact(g0.ext mc).grow g1 (λb hb=>hb) mh
theorem Qj5 {w:World}{va vm ve:Value}{a:QD}(h:Zm [] w.heap va vm ve a)(hck:Xq a=0)(E:QO a)(most:Nat)(G:most≤4096):
  QH prog 13 [.agg #[va,.int .i64 a.st,vm,ve],.int .i64 most,.bool false] w λr w'=>Step [] w w'∧Qj6 (QgX a most) r w'.heap:=by
 have e:QgX a most=Qf3 a most false:=by
  unfold QgX Qf3;split
  ·rfl
  congr 1;funext L;have h1:(L.filter λf=>!false || decide (f.s∈a.mr))=L:=Nf.2 (λf _=>O);rw[h1]
 rw[e];exact QgG h hck E most G false
end Go.Proofs.YtjcgijbhaemldaaGreatDoor
namespace Go.Lg
end Go.Lg
namespace Go.Proofs.YtjcgijbhaemldaaGreatDoor
open Go.Lg
open Go.Proofs.Tryz
abbrev gtA (aa:List QD)(i:Nat):QD:=aa.getD i ⟨[],0,[],[]⟩
def rfP (aa:List QD)(t:LI)(v:Int)(i:Nat):Bool:=!(eget (gtA aa i).ed (cget t i) v).isSome && decide (v∈(gtA aa i).al)
def rfN (aa:List QD)(t:LI)(v:Int)(n:Nat):LI:=((List.range n).filter (rfP aa t v)).map λi:Nat=>(i:Int)
def rfL (aa:List QD)(t:LI)(v:Int):LI:=rfN aa t v aa.length
theorem QhJ (aa:List QD)(t:LI)(v:Int)(n:Nat):rfN aa t v (n+1)=rfN aa t v n++if rfP aa t v n=true then[(n:Int)]else[]:=by
 unfold rfN;rw[List.range_succ,L8,Lx];congr 1;by_cases h:rfP aa t v n=true
 ·rw[if_pos h];simp[h]
 rw[if_neg h];simp[h]
theorem QeL (aa:List QD)(t:LI)(v:Int)(n:Nat):(rfN aa t v n).length≤n:=by
 unfold rfN;rw[Lh];have:=Mg (rfP aa t v) (List.range n);rw[Nl]at this;exact this
set_option maxHeartbeats 4000000 in
theorem Qax {w:World}{v vt:Value}{ps:List AV}{ts:LI}(h:YX [] w.heap v ps)(ht:QJ [] w.heap vt ts)(e:Int):
  QH prog 56 [v,vt,.int .i64 e] w λr w'=>Step [] w w'∧∃vr,r=.tuple #[vr,.int .i64 (ckV (ps.map (·.a)) ts e)]∧(ckV (ps.map (·.a)) ts e≠0→vr=Zg)∧(ckV (ps.map (·.a)) ts e=0→Qt 3 w.heap.size w' vr (rfL (ps.map (·.a)) ts e)):=by
 refine Zj (ckV (ps.map (·.a)) ts e) λE hE=>?_;rw[hE];refine QH.of_W func56 O ntmps56 results56 (by simp) ?_;refine Qc<|x Qe<|Qf<|Qg<|Qc<|Qb<|Qb<|Qb<|xl O<|xf<|(yQ h ht e).mono ?_;rintro r1 w1 ⟨h0,he⟩;rw[hE]at h0;subst h0;refine Qf<|Qc<|Qb<|x (Q6 O O)<|xe<|Q3 rfl (λhf=>?_) (λhf=>?_)
 ·refine Qc<|Qb<|x Qe<|Qf ?_;exact Ql ⟨[Zg,.int .i64 E],⟨O,O,Z⟩,he,Zg,O,λ_=>O,λe=>absurd e hf⟩
 have hg:E=0:=Ln.1 hf;have hc:ckV (ps.map (·.a)) ts e=0:=hE.trans hg;have hD:ckT (ps.map (·.a)) ts=0:=by
  unfold ckV at hc;split at hc
  ·rename_i h1;exact absurd hc h1
  rename_i h1;exact Ln.1 h1
 obtain⟨h1,h2,h3⟩:=QcD hD;rw[Lh]at h1;have hl:ts.length=ps.length:=by have:=h3.1;rw[Lh]at this;exact this
 refine Qi<|Qc<|Qb<|xl O<|xf<|(QeV (h.ext he) h1 (λp hp=>(h2 p.a (LP hp)).al_le) (by simp)).mono ?_;rintro r2 w2 ⟨hF,ve,vs,ms,rfl,hM,hG⟩;have hH:=he.trans hF;have hI:=hM.sl.one;refine xl rfl<|Qu (us:=[nS,nS,nS]) O λb9 w3 hJ hK hL=>xl O<|Qn (us:=[v,ve,vs]) hL O O O O ⟨h.arr.one,QQ hG,hI,Z⟩ λw4 hN hO=>xe ?_;have hh:Step [] w2 w4:=hJ.then1 hN hK
 have hi:=hH.trans hh;have hQ:=hi.size;have gm:=hh.size;refine Qc<|Qf<|Qg<|Qc<|Qb<|x (Qr (h.ext hi).arr O)<|Qb<|xe<|Qh<|Qz (α:=Nat×Value) [(10,14),(26,58)] (λz=>[(10,z.2),(26,.int .i64 z.1)]) (λz w'=>z.1≤ps.length∧Step [] w4 w'∧Qt 3 w4.heap.size w' z.2 (rfN (ps.map (·.a)) ts e z.1)) (λz=>ps.length - z.1) (by rfl) (0,nS) ⟨O,O,Z⟩
  ⟨Ll _,Step.refl _ _,QN _ _ _ _⟩ ?_
 rintro⟨k,vo⟩ g w5 ⟨hk,I,J⟩;simp only[]at hk J;have hj:=hi.trans I;have gn:=QeL (ps.map (·.a)) ts e k;have gq:=I.size;refine Qc<|x (QA O O)<|xe<|Qg<|QC O (λhm=>?_) (λhm=>?_)
 ·refine Qy ?_;have hR:k=ps.length:=by have hS:¬(k:Int)<(ps.length:Int):=hm;omega
  have hT:rfN (ps.map (·.a)) ts e k=rfL (ps.map (·.a)) ts e:=by unfold rfL;rw[Lh,hR]
  rw[hT]at J;refine Qc<|Qb<|x Qe<|Qf ?_;exact Ql ⟨[vo,.int .i64 0],⟨O,O,Z⟩,hj,vo,by rw[hg];rfl,λe=>absurd hg e,λ_=>Zd J hQ⟩
 have G:k<ps.length:=by have hS:(k:Int)<(ps.length:Int):=hm;omega
 have U:k<ts.length:=by omega
 have h4:k<ms.length:=by rw[hM.ml];exact G
 have h6:=(hM.ext hh).ext I;obtain⟨h7,_⟩:=h6.mp k h4 G;have hn:=Lc G;have hU:gtA (ps.map (·.a)) k=(ps[k]'G).a:=by unfold gtA;simp[List.getD,G]
 have hV:cget ts k=ts[k]'U:=by unfold cget;simp[List.getD,U]
 have H:=QhJ (ps.map (·.a)) ts e k;have hP:rfP (ps.map (·.a)) ts e k=(!(eget (ps[k]'G).a.ed (ts[k]'U) e).isSome && decide (e∈(ps[k]'G).a.al)):=by unfold rfP;rw[hU,hV]
 rw[hP]at H;have h5:=h.ext hj;refine Qi<|Qg<|Qh<|Qc<|Qb<|xig (g:=Zc) (i:=k) JQ h5.arr O O G λgr h8=>?_;refine Zj (ps[k]'G) λq hq=>?_;refine Zj (ts[k]'U) λtk h9=>?_;rw[hq]at h8 hn h7 H;rw[h9]at H;have ha:=h5.each q hn;have hA:=h2 q.a (LP hn);refine x (QI h8 O O)<|xl O<|Qu (us:=[nS,.int .i64 0,nS,nS]) O λgs w6 hW hX hY=>x Qe <|
  xl rfl<|Qn (us:=Zc q) hY O O O O ⟨ha.al.one,O,ha.mr.one,ha.ed.one,Z⟩ λV hZ ga=>xe ?_
 have Y:Step [] w5 V:=hW.then1 hZ hX;have gb:=(hO.ext I).ext Y;have gc:=h6.ext Y;have ge:=h7.ext Y;refine Qg<|QU (Step [] V) [(0,true),(1,true),(2,true),(3,true),(4,true),(5,true),(6,true),(7,true),(8,true),(9,true),(10,true),(11,true),(12,true),(13,true),(14,true),(15,true),(16,true)] mixed (by rfl) (by kernel_rfl) (Step.drew _ _) ?_
 refine p (λ_=>Qa O)<|pq (λ_ hc=>Qd (gb.ext hc) O O)<|p (λ_=>Qk)<|Go.Lg.pig O (g:=Qb4) (λ_=>O) gc.sl O O h4 λgt gg =>
  pq (λ_ hc=>Qv (gg.ext hc) O)<|p (λ_=>Qk)<|p (λ_=>Qk)<|pii O ((ht.ext hj).ext Y) O O U λgu hB=>?_
 rw[h9]at hB;refine pq (λ_ hc=>Qv (hB.ext hc) O) <|
  p (λ_=>Qk)<|p (λ_=>QM ⟨O,O,Z⟩)<|pq (λ_ hc=>QeP (s:=q.a) (q:=tk) (v:=e) (ge.ext hc) hA.edi O O)<|p (λ_=>Qk)<|p (λ_=>Qj O O) <|
  p (λ_=>Qj O O)<|p (λ_=>Qe)<|p (λ_=>Qe)<|pe ?_
 have hC:Step [] V { V with drawn:=V.drawn+1 }:=Step.drew _ _
 have ho:=Y.trans hC;refine QX (α:=Bool) [(46,53)] (λz=>[(53,.bool z)]) (λz w'=>Step [] w5 w'∧z=(!(eget q.a.ed tk e).isSome && decide (e∈q.a.al))) (by rfl) ?_ ?_
 ·refine Qw<|Qb<|xB (Zt O) (λhr=>?_) (λhr=>?_)
  ·refine Qb<|x (Qa O)<|x (Qd (ga.ext hC) O O)<|Qb<|xl O<|xf<|(Yw ((ha.al.ext ho)) hA.ali e).mono ?_;rintro r8 w8 ⟨rfl,rfl⟩;refine x (Qp O)<|xe<|⟨decide (e∈q.a.al),La,ho,?_⟩;have hs:(!decide ((eget q.a.ed tk e).isSome=true))=true:=hr;have hu:(eget q.a.ed tk e).isSome=false:=by simpa using hs
   rw[hu];rfl
  refine Qb<|xs O<|xs O<|xs O<|xs O<|x (Qp O)<|xe<|⟨false,La,ho,?_⟩;have hs:(!decide ((eget q.a.ed tk e).isSome=true))=false:=hr;have hu:(eget q.a.ed tk e).isSome=true:=by simpa using hs
  rw[hu];rfl
 rintro z g w9 ⟨hv,hz⟩;rw[←hz]at H;refine QZ rfl (λhw=>?_) (λhw=>?_)
 ·rw[if_pos hw]at H;refine Qw<|Qb<|Qb<|xl O<|QG (us:=[[.int .i64 k]]) O O (by decide) (by simp) ⟨rfl,rfl,Z⟩ λgv gx gh gy gi=>?_;have hy:=hv.trans gh;have gz:=hy.size;refine xl O<|Q4 (news:=[.int .i64 k]) (L:=[]) (Qs J hy) O O O (gi.at (by simp)) (by simp[Value.oneCell']) (by omega) (by omega) λgj g0 gk gl g1 =>
   Qf<|Qw<|QP O O<|Qb<|xe ?_
  have hge:=Qq J;refine⟨(k+1,gj),by simp only[];omega,⟨O,O,Z⟩,G,(I.trans hy).then gl (λb hb=>.inr (hge b hb).1),?_⟩;simp only[];rw[H];exact Qt.snoc gk
 rw[if_neg (by rw[hw];simp),LO]at H;refine Qi<|Qw<|QP O O<|Qb<|xe ?_;exact⟨(k+1,vo),by simp only[];omega,⟨O,O,Z⟩,G,I.trans hv,by simp only[];rw[H];exact Qs J hv⟩
section
variable {s:QD}{l:List VV}{n:Nat}
end
section
variable {s:QD}{l:List VV}{n:Nat}
end
section
variable {s:QD}{l:List VV}{n:Nat}
end
section
variable {p s:QD}{pairs:List (LI)}
end
section
variable {s:QD}{l:List VV}{n:Nat}
end
section
variable {s:QD}{l:List VV}{n:Nat}{nm:LI}
end
section
variable {s:QD}{l:List VV}{n:Nat}
end
theorem QgD {a:QD}(E:QO a):QO (ZY a):=by
 have U:=E.st0;have h1:=E.st1;by_cases I:a.st=0
 ·unfold ZY;rw[if_pos I];exact⟨E.al,E.ali,by simp,by simp,by simp,by simp,by simp,by simp⟩
 obtain⟨ord,h⟩:=jM E (by omega);have hl:ord.length≤a.st.toNat:=pig _ _ h.nd (λx hx=>by have:=h.bd x hx;omega);refine⟨by rw[h.al];exact E.al,by rw[h.al];exact E.ali,by rw[h.st];omega,by rw[h.st];omega,λs hs=>?_,?_,λe he=>?_,?_⟩
 ·rw[h.mk2]at hs;simp only[List.mem_map,List.mem_filter,List.mem_range'_1]at hs;obtain⟨i,⟨hi,_⟩,rfl⟩:=hs;rw[h.st];omega
 ·rw[h.mk2];unfold Z2;rw[Mm];refine List.Pairwise.sublist MI ?_;exact(Na (s:=0) (n:=ord.length)).imp (λh=>by omega)
 ·rw[h.ed]at he;obtain⟨j,hj,hd⟩:=MO.1 he;rw[L6]at hj;unfold cnR at hd;obtain⟨d,G,rfl⟩:=Lq.1 hd;have hm:=h.cl j (by omega) d G;have:=LS hm;have J:=(E.ed d (Zx G).1).2.2.1;rw[h.st,h.al];unfold cnF;exact⟨by simp only[];omega,by simp only[];omega,J,by simp only[];omega,by simp only[];omega⟩
 rw[h.ed];have key:∀n,((List.range' 0 n).flatMap (cnR a ord)).Pairwise λx y:Ed=>x.1<y.1∨(x.1=y.1∧x.2.1<y.2.1):=by
  intro n;induction n with
  | zero=>simp
  | succ n ih =>
   rw[Ml,LG,LR,MF];refine⟨ih,?_,λx hx y hy=>?_⟩
   ·simp only[List.flatMap_cons,List.flatMap_nil,List.append_nil];unfold cnR;rw[Mm];have h2:(Zu a.ed (Zq ord n)).Pairwise λx y:Ed=>x.1<y.1∨(x.1=y.1∧x.2.1<y.2.1):=List.Pairwise.sublist MI E.edi;refine List.Pairwise.imp_of_mem (λ{x y} hx hy V=>?_) h2;have e1:=(Zx hx).2;have e2:=(Zx hy).2;right;exact⟨O,by show x.2.1<y.2.1;omega⟩
   obtain⟨j,hj,H⟩:=MO.1 hx;rw[L6]at hj;simp only[List.flatMap_cons,List.flatMap_nil,List.append_nil]at hy;unfold cnR at H hy;obtain⟨d,_,rfl⟩:=Lq.1 H;obtain⟨Y,_,rfl⟩:=Lq.1 hy;left;show(j:Int)<(n:Int);omega
 exact key _
theorem Qgj {a:QD}(E:QO a):QO ⟨a.al,0,[],[]⟩:=
 ⟨E.al,E.ali,MH _,(by decide:(0:Int)≤4096),(λs hs=>by cases hs),List.Pairwise.nil,(λe he=>by cases he),List.Pairwise.nil⟩
theorem Va {a:QD}(E:QO a)(lf:Lf):QO (JU a lf):=by
 unfold JU;split
 ·exact Qgj E
 exact QgD (X4 E lf)
theorem qR {c:Q7}(h:suE c=0):QO (J7 c):=Va (Qhw h).1 _
theorem Qik {c:Q7}{m:YW}(h:yD c m=0):QO (ql c m):=by
 have h1:yD c m=if mcE c m≠0 then mcE c m else suE (Xb c m):=rfl
 rw[h1]at h;split at h
 ·rename_i h2;exact absurd h h2
 exact qR h
theorem zo {c:Q7}:∀{l:List YW},msL c l=0→∀m∈l,yD c m=0
 | [],_,m,hm=>by cases hm
 | x::l,h,m,hm=>by
  rw[V4]at h;by_cases h1:yD c x≠0
  ·rw[if_pos h1]at h;exact absurd h h1
  rw[if_neg h1]at h;rcases Le.1 hm with rfl|hm
  ·exact Ln.1 h1
  exact zo h m hm
theorem XC {c:Q7}(h:KH c=0):∀a∈ZA c,QO a:=by
 rw[qQ]at h;by_cases h1:Zi c≠0
 ·rw[if_pos h1]at h;exact absurd h h1
 rw[if_neg h1]at h;have G:=Z9 (Ln.1 h1);have H:ZA c=(mods c).map (ql c)++(rem c).map (coA c):=rfl;intro a ha;rw[H]at ha;rcases Lo.1 ha with ha|ha
 ·obtain⟨m,hm,rfl⟩:=Lq.1 ha;exact Qik (zo h m hm)
 obtain⟨i,hi,rfl⟩:=Lq.1 ha;have I:=UG i hi;have E:i.toNat<c.co.length:=by omega
 have e:coA c i=(c.co[i.toNat]'E).a:=by unfold coA;simp[List.getD,E]
 rw[e];exact G.co _ (Lc E)
theorem Qeq (c:Q7):JK c=if KH c≠0 then KH c else XB (ZA c):=rfl
theorem XY {c:Q7}(h:JK c=0):KH c=0∧XB (ZA c)=0:=by
 rw[Qeq]at h;by_cases h1:KH c≠0
 ·rw[if_pos h1]at h;exact absurd h h1
 rw[if_neg h1]at h;exact⟨Ln.1 h1,h⟩
theorem Qet {l:List QD}(h:XB l=0):sync l=some (yI l,Jo l)∧X9 l=0:=by
 unfold XB at h;by_cases h1:X9 l≠0
 ·rw[if_pos h1]at h;exact absurd h h1
 rw[if_neg h1]at h;refine⟨?_,Ln.1 h1⟩;unfold yI Jo;cases hs:sync l with
 | none=>rw[hs]at h;cases h
 | some z=>rfl
theorem XK {c:Q7}(h:JK c=0):yV (ZA c) (Xc c) (qO c)∧QO (Xc c):=by
 obtain⟨h1,h2⟩:=XY h;have E:=XC h1;have hs:=(YE E (Qet h2).1).1;exact⟨hs,yV.okay E hs⟩
structure TmV where
 vl:Value
 va:Value
 vm:Value
 ve:Value
 vt:Value
 A:QD
 ps:List AV
 qs:List TV
abbrev Jw (t:TmV):LV:=[t.vl,t.va,.int .i64 t.A.st,t.vm,t.ve,t.vt]
structure yt (L:LN)(H:Array Obj)(t:TmV):Prop where
 l:YX L H t.vl t.ps
 a:Zm L H t.va t.vm t.ve t.A
 q:XQ L H t.vt t.qs
theorem yt.ext {L:LN}{w w':World}{t:TmV}(h:yt L w.heap t)(hs:Step [] w w'):yt L w'.heap t:=⟨h.l.ext hs,h.a.ext hs,h.q.ext hs⟩
theorem yt.st {L:LN}{w w':World}{t:TmV}(h:yt L w.heap t)(hs:Step L w w'):yt L w'.heap t:=⟨h.l.st hs,h.a.st hs,h.q.st hs⟩
theorem yt.up {L L':LN}{H:Array Obj}{t:TmV}(h:yt L H t)(E:∀b∈L',b∈L∨H.size≤b):yt L' H t:=⟨h.l.up E,h.a.up E,h.q.up E⟩
structure Qqf (c:Q7)(t:TmV):Prop where
 A:t.A=Xc c
 l:t.ps.map (·.a)=ZA c
 q:t.qs.map (·.2)=qO c
instance:Bw prog 103 [nS,nS,.int .i64 0,nS,nS,nS] [(0,1),(1,4),(5,1)]:=⟨by kernel_rfl,by decide⟩
abbrev QbW:LV:=[nS,nS,.int .i64 0,nS,nS,nS]
set_option maxHeartbeats 4000000 in
theorem V9 {L:LN}{w:World}{c:CL}(Y:ZQ L w.heap c)(hk:Kb w 4096):
  QH prog 33 [c.val] w λr w'=>Step [] w w'∧∃us,r=.tuple #[.agg us.toArray,.int .i64 (JK c.cel)]∧us.length=6∧ZM us∧(JK c.cel=0→∃t,us=Jw t∧Qqf c.cel t∧∀L:LN,(∀b∈L,b<w.heap.size)→yt L w'.heap t):=by
 have h:=Y.up (L':=[]) (by simp);have J:=Qeq c.cel;refine Zj (JK c.cel) λE hE=>?_;rw[hE]at J ⊢;refine QH.of_W func33 O ntmps33 results33 (by simp) ?_;refine Qc<|xl O<|QR (us:=c.cells) O λb1 w1 hl hM h1=>xl O<|Qu (us:=QbW) O λI w2 ha hN hm=>Qf ?_;have hc:=hl.trans ha;have hO:=hl.size;have hP:=ha.size;have h2:=hm.lt
 refine Qc<|x (Qo (h1.ext ha) O O)<|xl O<|xf<|(KZ (h.ext hc) (hk.ext hc)).mono ?_;rintro r3 w3 ⟨hf,vl,rfl,hS,h3⟩;refine Qb<|x (Qj O O)<|x (Qj O O)<|x Qe<|Qf ?_;have hg:=hc.trans hf;have hT:=hf.size;have hn:=hm.ext hf;refine Qg<|Qc<|Qb<|x (Q6 O O)<|xe<|Q3 rfl (λU=>?_) (λU=>?_)
 ·rw[if_pos U]at J;subst J;refine Qc<|x (ZD [] Z)<|Qb<|xl O<|Qn (us:=QbW) hn O O O O ⟨O,O,O,O,O,O,Z⟩ λw4 h4 h5=>Qf ?_;exact Ql ⟨[.agg QbW.toArray,.int .i64 (KH c.cel)],⟨⟨_,O,Qx O (h5.at (L:=[]) (by simp)).cells⟩,rfl,Z⟩,hg.then1 h4 (by omega),QbW,rfl,rfl,⟨rfl,rfl,rfl,rfl,rfl,rfl,Z⟩,λY=>absurd Y U⟩
 rw[if_neg U]at J;subst J;have ho:=Ln.1 U;obtain⟨hr,ps,hh,hs⟩:=h3 ho;have h6:∀p∈ps,QO p.a:=λp hp=>XC ho p.a (by rw[←hh];exact LP hp);refine Qi<|Qc<|Qb<|xl O<|xf<|(Uw (km:=4096) (hs [] (by simp)) (hk.ext hg) (by decide) (qC h6)).mono ?_;rintro r5 w5 ⟨ht,vA,vt,e,rfl,hR⟩;rw[hh]at hR;have he:=hR.e;subst he
 have h7:∃us,vA=.agg us.toArray∧us.length=4∧ZM us:=by
  by_cases he:XB (ZA c.cel)=0
  ·exact VS (hR.good he).1
  exact⟨[nS,.int .i64 0,nS,nS],(hR.bad he).1,O,O,O,O,O,Z⟩
 have hu:vt.oneCell'=true:=by
  by_cases he:XB (ZA c.cel)=0
  ·obtain⟨qs,_,hq⟩:=(hR.good he).2.1;exact(hq [] (by simp)).arr.one
  rw[(hR.bad he).2];rfl
 obtain⟨us,h8,h9,V⟩:=h7;subst h8;obtain⟨G,H,u2,u3,rfl⟩:∃G H u2 u3,us=[G,H,u2,u3]:=by
  match us,h9 with
  | [G,H,u2,u3],_=>exact⟨G,H,u2,u3,O⟩
 have hU:=ht.size;refine Qb<|x (Qj O O)<|x (Qj O O)<|x (Qj O O)<|xl O<|Qu (us:=[nS,.int .i64 0,nS,nS]) O λb6 w6 hB hC hD=>xl O<|Qn (us:=[G,H,u2,u3]) hD O O O O V λw7 hF hG =>
  x Qe<|Qf ?_
 have hi:Step [] w5 w7:=hB.then1 hF hC;have hj:=ht.trans hi;have hw:ZM [vl,G,H,u2,u3,vt]:=⟨hr,V.1,V.2.1,V.2.2.1,V.2.2.2.1,hu,Z⟩;refine Qc<|Qb<|x (Qo hG O O)<|Qb<|x (ZD [(0,[vl]),(1,[G,H,u2,u3]),(2,[vt])] ⟨X5 hr,O,O,O,X5 hu,O,Z⟩)<|Qb<|xl O<|Qn (us:=[vl,G,H,u2,u3,vt]) (hn.ext hj) O O O O hw λw8 hy hH =>
  Qf<|Ql ⟨[.agg [vl,G,H,u2,u3,vt].toArray,.int .i64 (XB (ZA c.cel))],⟨⟨_,O,Qx O (hH.at (L:=[]) (by simp)).cells⟩,rfl,Z⟩,(hg.trans hj).then1 hy (by omega),[vl,G,H,u2,u3,vt],rfl,rfl,hw,λhe=>?_⟩
 obtain⟨⟨va,vm,ve,hv,hA⟩,⟨qs,hI,hQ⟩,_⟩:=hR.good he;have hv':G=va∧H=.int .i64 (yI (ZA c.cel)).st∧u2=vm∧u3=ve:=by
  have e1:=Value.agg.inj hv;simpa using e1
 obtain⟨rfl,rfl,rfl,rfl⟩:=hv';refine⟨⟨vl,G,u2,u3,vt,Xc c.cel,ps,qs⟩,O,⟨O,hh,hI⟩,λL hL=>?_⟩;have hz:∀b∈I::L,b<w3.heap.size:=λb hb=>by
  rcases Le.1 hb with rfl|hb
  ·omega
  have:=hL b hb;omega
 have hJ:∀b∈L,b<w2.heap.size:=λb hb=>by have:=hL b hb;omega
 have hK:∀b∈I::L,b<w2.heap.size:=λb hb=>by
  rcases Le.1 hb with rfl|hb
  ·exact h2
  exact hJ b hb
 have t1:yt (I::L) w7.heap ⟨vl,G,u2,u3,vt,Xc c.cel,ps,qs⟩:=⟨((hs (I::L) hK).ext hj),(hA (I::L) hz).ext hi,(hQ (I::L) hz).ext hi⟩;exact(t1.st (hy.mono (by simp))).up (λb hb=>.inl (by simp[hb]))
theorem zH {A:QD}(E:QO A){aa:List QD}{Q:List (LI)}(h:yV aa A Q){u:LI}(H:gens A u=true):QhD A 0 u=0∧∃j:Nat,j<Q.length∧(flw A 0 u).1=(j:Int):=by
 obtain⟨j,hj,G,_⟩:=Qfo E h H;have h1:=Qi4 E u 0 (by rw[G]);have I:=h.st;refine⟨?_,j,hj,by rw[G]⟩;have hck:cks A 0=0:=by
  unfold cks;rw[if_neg (by simpa using(Zs A).2 E),if_neg (by omega)]
 unfold QhD;rw[if_neg (by simpa using hck),if_neg];intro h2;obtain⟨e,he,h3⟩:=Mo.1 h2;exact of_decide_eq_true h3 (h1 e he)
theorem js {w:World}{t:TmV}{c:Q7}{vw:Value}{u:LI}(U:yt [] w.heap t)(H:Qqf c t)(he:JK c=0)(hu:QJ [] w.heap vw u):
  QH prog 54 [.agg (Jw t).toArray,vw] w λr w'=>Step [] w w'∧r=.tuple #[.int .i64 (if gens (Xc c) u=true then(flw (Xc c) 0 u).1 else 0),.bool (gens (Xc c) u)]:=by
 obtain⟨hb,hc⟩:=XK he;refine QH.of_W func54 O ntmps54 results54 (by simp) ?_;refine Qc<|xl O<|QR (us:=Jw t) O λb2 w1 I hi V=>x Qe<|Qf<|Qg<|Qc<|x (Qa O)<|x (ZG (us:=[t.va,.int .i64 t.A.st,t.vm,t.ve]) V O O O)<|Qb<|xl O<|xf<|(Qbd (U.a.ext I) (hu.ext I)).mono ?_;rintro r2 w2 ⟨rfl,Y⟩;refine Qb<|x (Qj O O)<|x (Qj O O)<|x Qe<|Qf ?_;have E:=I.trans Y;rw[←H.A]
 refine Qc<|Qb<|x (Zt O)<|xe<|QZ rfl (λJ=>?_) (λJ=>?_)
 ·have G:gens t.A u=false:=by simpa using J
  refine Qc<|x Qe<|Qf ?_;exact Ql ⟨[.int .i64 0,.bool false],⟨O,O,Z⟩,E,by rw[G];rfl⟩
 have G:gens t.A u=true:=by simpa using J
 obtain⟨hf,_⟩:=zH (A:=t.A) (by rw[H.A];exact hc) (by rw[H.A];exact hb) G;refine Qi<|Qc<|x (Qa O)<|x (ZG (us:=[t.va,.int .i64 t.A.st,t.vm,t.ve]) (V.ext Y) O O O)<|Qb<|xl O<|xf<|(Qo3 (U.a.ext E) (hu.ext E) 0).mono ?_;rintro r3 w3 ⟨hh,ha⟩;rw[if_neg (by simpa using hf)]at ha;subst ha;refine Qb<|x (Qj O O)<|x (Qj O O)<|x (Qj O O)<|x Qe<|x Qe<|Qf<|Qc<|Qb<|x Qe<|Qf ?_
 exact Ql ⟨[.int .i64 (flw t.A 0 u).1,.bool true],⟨O,O,Z⟩,E.trans hh,by rw[G];rfl⟩
def pmE (c:Q7)(u:LI):Int:=if JK c≠0 then JK c else if gens (Xc c) u=true then 0 else 10
def pmL (c:Q7)(u:LI):LI:=enb (Xc c) (flw (Xc c) 0 u).1
theorem Uy {L:LN}{w:World}{c:CL}{vw:Value}{u:LI}(G:ZQ L w.heap c)(hn:QJ L w.heap vw u)(ho:Kb w 4096):
  QH prog 16 [c.val,vw] w λr w'=>Step [] w w'∧∃v,r=.tuple #[v,.int .i64 (pmE c.cel u)]∧(pmE c.cel u≠0→v=Zg)∧(pmE c.cel u=0→Qt 3 w.heap.size w' v (pmL c.cel u)):=by
 have h:=G.up (L':=[]) (by simp);have hu:=hn.up (L':=[]) (by simp);have hp:pmE c.cel u=if JK c.cel≠0 then JK c.cel else if gens (Xc c.cel) u=true then 0 else 10:=rfl
 refine Zj (pmE c.cel u) λE hE=>?_;rw[hE]at hp ⊢;refine QH.of_W func16 O ntmps16 results16 (by simp) ?_;refine Qc<|xl O<|QR (us:=c.cells) O λb2 w1 V h8 hq=>x Qe<|Qf<|Qc<|x (Qo hq O O)<|xl O<|xf<|(V9 (h.ext V) (ho.ext V)).mono ?_;rintro r2 w2 ⟨hr,us,rfl,hs,hv,hw⟩
 refine Qb<|x (Qj O O)<|x (Qj O O)<|xl O<|Qu (us:=QbW) O λb6 w3 hy hz h1=>xl O<|Qn (us:=us) h1 O O hs O hv λw4 h2 hf =>
  Qf ?_
 have hh:Step [] w2 w4:=hy.then1 h2 hz;have Y:=(V.trans hr).trans hh;refine Qg<|Qc<|Qb<|x (Q6 O O)<|xe<|Q3 rfl (λH=>?_) (λH=>?_)
 ·rw[if_pos H]at hp;subst hp;refine Qc<|Qb<|x Qe<|Qf ?_;exact Ql ⟨[Zg,.int .i64 (JK c.cel)],⟨O,O,Z⟩,Y,Zg,O,λ_=>O,λG=>absurd G H⟩
 rw[if_neg H]at hp;have he:=Ln.1 H;obtain⟨t,ht,I,hT⟩:=hw he;subst ht;have ha:yt [] w4.heap t:=(hT [] (by simp)).ext hh;refine Qi<|Qc<|x (Qo hf O O)<|Qb<|xl O<|xf<|(js ha I he (hu.ext Y)).mono ?_;rintro r5 w5 ⟨U,rfl⟩;refine Qb<|x (Qj O O)<|x (Qj O O)<|x Qe<|Qf ?_;have hb:=Y.trans U;have h3:=hb.size;refine Qg<|Qc<|Qb<|x (Zt O)<|xe ?_
 refine QZ rfl (λhc=>?_) (λhc=>?_)
 ·have J:gens (Xc c.cel) u=false:=by simpa using hc
  rw[J,if_neg (by decide)]at hp;subst hp;refine Qc<|x Qe<|Qf ?_;exact Ql ⟨[Zg,.int .i64 10],⟨O,O,Z⟩,hb,Zg,O,λ_=>O,λG=>absurd G (by decide)⟩
 have J:gens (Xc c.cel) u=true:=by simpa using hc
 rw[if_pos J]at hp;subst hp;obtain⟨hi,hk⟩:=XK he;obtain⟨_,j,hj,h9⟩:=zH hk hi J;have hA:=hi.st;have h4:cks (Xc c.cel) (flw (Xc c.cel) 0 u).1=0:=by
  unfold cks;rw[if_neg (by simpa using(Zs _).2 hk),if_neg (by omega)]
 refine Qi<|Qc<|x (Qa O)<|x (ZG (us:=[t.va,.int .i64 t.A.st,t.vm,t.ve]) (hf.ext U) O O O)<|Qb<|?_;have hl:=VQ (ha.a.ext U) (flw (Xc c.cel) 0 u).1;rw[I.A]at hl;have h5:(if gens (Xc c.cel) u=true then(flw (Xc c.cel) 0 u).1 else 0)=(flw (Xc c.cel) 0 u).1:=if_pos J
 rw[←I.A]at hl;have hen':QH prog 55 [.agg #[t.va,.int .i64 t.A.st,t.vm,t.ve],.int .i64 (if gens (Xc c.cel) u=true then(flw (Xc c.cel) 0 u).1 else 0)] w5 λr w'=>Step [] w5 w'∧∃v,r=.tuple #[v,.int .i64 0]∧Qt 3 w5.heap.size w' v (pmL c.cel u):=by
  rw[h5];refine(VQ (ha.a.ext U) (flw (Xc c.cel) 0 u).1).mono ?_;rintro r w' ⟨a1,v,a2,a3,a4⟩;have hm:cks t.A (flw (Xc c.cel) 0 u).1=0:=by rw[I.A];exact h4
  refine⟨a1,v,by rw[a2,hm],?_⟩;have:=a4 hm;unfold pmL;rw[I.A]at this;exact this
 refine xl rfl<|xf<|hen'.mono ?_;rintro r6 w6 ⟨h6,v6,rfl,h7⟩;refine x (Qj O O)<|x (Qj O O)<|x Qe<|Qf ?_;exact Ql ⟨[v6,.int .i64 0],⟨O,O,Z⟩,hb.trans h6,v6,O,λG=>absurd O G,λ_=>Zd h7 h3⟩
def mrT (c:Q7)(u:LI):LI:=(qO c).getD (flw (Xc c) 0 u).1.toNat []
def mrE (c:Q7)(u:LI)(e:Int):Int:=if JK c≠0 then JK c else if gens (Xc c) u=true then ckV (ZA c) (mrT c u) e else 10
def mrL (c:Q7)(u:LI)(e:Int):LI:=rfL (ZA c) (mrT c u) e
theorem V8 {L:LN}{w:World}{c:CL}{vw:Value}{u:LI}(G:ZQ L w.heap c)(hz:QJ L w.heap vw u)(e:Int)(h1:Kb w 4096):
  QH prog 17 [c.val,vw,.int .i64 e] w λr w'=>Step [] w w'∧∃v,r=.tuple #[v,.int .i64 (mrE c.cel u e)]∧(mrE c.cel u e≠0→v=Zg)∧(mrE c.cel u e=0→Qt 3 w.heap.size w' v (mrL c.cel u e)):=by
 have h:=G.up (L':=[]) (by simp);have hu:=hz.up (L':=[]) (by simp);have hp:mrE c.cel u e=if JK c.cel≠0 then JK c.cel else if gens (Xc c.cel) u=true then ckV (ZA c.cel) (mrT c.cel u) e else 10:=rfl
 have h2:mrL c.cel u e=rfL (ZA c.cel) (mrT c.cel u) e:=rfl;rw[h2];refine Zj (mrE c.cel u e) λE hE=>?_;rw[hE]at hp ⊢;refine QH.of_W func17 O ntmps17 results17 (by simp) ?_;refine Qc<|xl O<|QR (us:=c.cells) O λb2 w1 Y hK h3=>x Qe<|Qf<|Qc<|x (Qo h3 O O)<|xl O<|xf<|(V9 (h.ext Y) (h1.ext Y)).mono ?_;rintro r2 w2 ⟨h4,us,rfl,h5,h6,h7⟩
 refine Qb<|x (Qj O O)<|x (Qj O O)<|xl O<|Qu (us:=QbW) O λb6 w3 h8 h9 hA=>xl O<|Qn (us:=us) hA O O h5 O h6 λw4 hB hk =>
  Qf ?_
 have hl:Step [] w2 w4:=h8.then1 hB h9;have ha:=(Y.trans h4).trans hl;refine Qg<|Qc<|Qb<|x (Q6 O O)<|xe<|Q3 rfl (λH=>?_) (λH=>?_)
 ·rw[if_pos H]at hp;subst hp;refine Qc<|Qb<|x Qe<|Qf ?_;exact Ql ⟨[Zg,.int .i64 (JK c.cel)],⟨O,O,Z⟩,ha,Zg,O,λ_=>O,λG=>absurd G H⟩
 rw[if_neg H]at hp;have he:=Ln.1 H;obtain⟨t,ht,U,hT⟩:=h7 he;subst ht;have hm:yt [] w4.heap t:=(hT [] (by simp)).ext hl;refine Qi<|Qc<|x (Qo hk O O)<|Qb<|xl O<|xf<|(js hm U he (hu.ext ha)).mono ?_;rintro r5 V ⟨hb,rfl⟩;refine Qb<|x (Qj O O)<|x (Qj O O)<|x Qe<|Qf ?_;have hf:=ha.trans hb;have hC:=hf.size;refine Qg<|Qc<|Qb<|x (Zt O)<|xe ?_
 refine QZ rfl (λhh=>?_) (λhh=>?_)
 ·have I:gens (Xc c.cel) u=false:=by simpa using hh
  rw[I,if_neg (by decide)]at hp;subst hp;refine Qc<|x Qe<|Qf ?_;exact Ql ⟨[Zg,.int .i64 10],⟨O,O,Z⟩,hf,Zg,O,λ_=>O,λG=>absurd G (by decide)⟩
 have I:gens (Xc c.cel) u=true:=by simpa using hh
 rw[if_pos I]at hp;subst hp;obtain⟨hD,hF⟩:=XK he;obtain⟨_,j,hj,hn⟩:=zH hF hD I;have ho:=hm.ext hb;have hq:=hk.ext hb;have J:j<t.qs.length:=by have:=congrArg List.length U.q;rw[Lh]at this;omega
 have hG:(if gens (Xc c.cel) u=true then(flw (Xc c.cel) 0 u).1 else 0)=(j:Int):=by rw[if_pos I,hn]
 have hr:mrT c.cel u=(t.qs[j]'J).2:=by
  unfold mrT;rw[hn,←U.q];simp[List.getD,J]
 have hs:=Lc J;refine Qi<|Qg<|QU (Step [] V) [(0,true),(1,true),(2,true),(3,true),(4,true),(5,true),(6,true),(7,true),(8,false),(9,true),(10,true),(11,true),(12,true)] mixed (by rfl) (by kernel_rfl) (Step.drew _ _) ?_;refine p (λ_=>Qa O)<|pq (λ_ hc=>Qd (hq.ext hc) O O)<|p (λ_=>Qa O)<|pq (λ_ hc=>Qd (hq.ext hc) O O) <|
  p (λ_=>Qk)<|Go.Lg.pig O (g:=Z7) (i:=j) (λ_=>O) ho.q.arr O (congrArg (Value.int .i64) hG) J λhL hv=>?_
 refine Zj (t.qs[j]'J) λtq hH=>?_;rw[hH]at hv hr hs;have hi:Step [] V { V with drawn:=V.drawn+1 }:=Step.drew _ _
 have hw:=ho.ext hi;have hR:=Qax hw.l (hw.q.each tq hs) e;rw[U.l,←hr]at hR;refine pq (λ_ hc=>Qv (hv.st hc) O)<|p (λ_=>Qk)<|pk<|xf<|hR.mono ?_;rintro r6 w6 ⟨hy,v6,rfl,hI,hJ⟩;refine⟨hi.trans hy,?_⟩;refine p (λ_=>Qj O O)<|p (λ_=>Qj O O)<|p (λ_=>Qe)<|p (λ_=>Qe)<|pe ?_
 exact Ql ⟨[v6,.int .i64 (ckV (ZA c.cel) (mrT c.cel u) e)],⟨O,O,Z⟩,(hf.trans hi).trans hy,v6,O,hI,λG=>Zd (hJ G) hC⟩
theorem Qlw {w:World}{va vm ve:Value}{n:Nat}(hn:n≤4096):
  QH prog 37 [.agg #[va,.int .i64 n,vm,ve]] w λr w'=>Step [] w w'∧Qt 3 w.heap.size w' r (YG n):=by
  refine QH.of_W func37 O ntmps37 results37 (by simp) ?_;refine Qc<|xl O<|QR (us:=[va,.int .i64 n,vm,ve]) O λb1 J U hi V=>Qf<|Qc<|Qf<|Qg<|Qc<|x (Qa O)<|x (Qd V O O)<|Qb<|xe<|Qh<|Qz (α:=Nat×Value) [(3,4),(7,14)] (λz=>[(3,z.2),(7,.int .i64 z.1)]) (λz w'=>z.1≤n∧Step [] J w'∧Qt 3 J.heap.size w' z.2 (YG z.1)) (λz=>n - z.1) (by rfl) (0,nS) ⟨O,O,Z⟩
   ⟨Ll _,Step.refl _ _,QN _ _ _ _⟩ ?_
  rintro⟨k,v⟩ g w2 ⟨hk,G,E⟩;simp only[]at hk E;have hl:=KN k;have hj:=G.size;have Y:=U.size;refine Qc<|x (QA O O)<|xe<|Qg<|QC O (λH=>?_) (λH=>?_)
  ·refine Qy ?_;have ha:k=n:=by have hc:¬(k:Int)<(n:Int):=H;omega
   rw[ha]at E;refine Qc<|Qb<|Qf ?_;exact Ql ⟨[v],La,U.trans G,Zd E Y⟩
  have he:k<n:=by have hc:(k:Int)<(n:Int):=H;omega
  refine Qi<|Qg<|Qh<|Qc<|Qb<|Qf<|Qw<|Qb<|Qb<|xl O<|QG (us:=[[.int .i64 k]]) O O (by decide) (by simp) ⟨rfl,rfl,Z⟩ λhm w3 I ho hf=>?_;have hp:=I.size;refine xl O<|Q4 (news:=[.int .i64 k]) (L:=[]) (Qs E I) O O O (hf.at (by simp)) (by simp[Value.oneCell']) (by omega) (by omega) λv4 w4 hg hh hq =>
   Qf ?_
  have hge:=Qq E;refine Qw<|QP O O<|Qb<|xe<|⟨(k+1,v4),by simp only[];omega,⟨O,O,Z⟩,he,(G.trans I).then hh (λb hb=>.inr (hge b hb).1),?_⟩;simp only[];rw[UK];exact Qt.snoc hg
theorem Qg5 {n k:Nat}(h:k<n):(KB n).drop k=(k:Int)::(KB n).drop (k+1):=by
 have hl:k<(KB n).length:=by rw[jZ];exact h
 rw[LQ hl];congr 1;simp[KB]
theorem Qhy (c:Q7)(v:Int)(l:LI):shd c (v::l)=if 2≤(ownr c v).length then some (v,cget (ownr c v) 0,cget (ownr c v) 1)else shd c l:=rfl
def shR (c:Q7):Option (Int×Int×Int):=if Zi c≠0 then none else qY c
set_option maxHeartbeats 4000000 in
theorem QgJ {L:LN}{w:World}{c:CL}(h0:ZQ L w.heap c):
  QH prog 34 [c.val] w λr w'=>Step [] w w'∧r=.tuple #[.int .i64 (qj (shR c.cel)).1,.int .i64 (qj (shR c.cel)).2.1,.int .i64 (qj (shR c.cel)).2.2,.bool (shR c.cel).isSome,.int .i64 (Zi c.cel)]:=by
 have h:=h0.up (L':=[]) (by simp);have hsr:shR c.cel=if Zi c.cel≠0 then none else qY c.cel:=rfl
 refine Zj (Zi c.cel) λE hE=>?_;refine Zj (shR c.cel) λS hS=>?_;rw[hS,hE]at hsr;rw[hS,hE];have hP:=h.co.arr.le;have hQ:=h.ev.arr.le;refine QH.of_W func34 O ntmps34 results34 (by simp) ?_;refine Qc<|xl O<|QR (us:=c.cells) O λb1 w1 ht hR hu=>x Qe<|x Qe<|x Qe<|x Qe<|Qf<|Qg<|Qc<|x (Qo hu O O)<|xl O<|xf<|(Xt (h.ext ht)).mono ?_;rintro r2 w2 ⟨hv,hw⟩;rw[hE]at hv;subst hv;refine Qf ?_
 have he:=ht.trans hw;have hy:=hu.ext hw;refine Qc<|Qb<|x (Q6 O O)<|xe<|Q3 rfl (λV=>?_) (λV=>?_)
 ·rw[if_pos V]at hsr;subst hsr;refine Qc<|Qb<|x Qe<|x Qe<|x Qe<|x Qe<|Qf ?_;exact Ql ⟨[.int .i64 0,.int .i64 0,.int .i64 0,.bool false,.int .i64 E],⟨O,O,O,O,O,Z⟩,he,O⟩
 rw[if_neg V]at hsr;have hz:E=0:=Ln.1 V;have hT:c.cel.ev.length=c.ev.length:=rfl;have hC:qY c.cel=shd c.cel (KB c.ev.length):=rfl;rw[hC]at hsr;refine Qi<|Qg<|Qc<|x (Qa O)<|x (Qd hy O O)<|x (Qr (h.ext he).ev.arr O)<|Qb<|xe ?_
 refine Qh<|Qz (α:=Nat) [(2,6),(8,11),(20,51)] (λz=>[(20,.int .i64 z)]) (λz w'=>z≤c.ev.length∧Step [] w2 w'∧shd c.cel ((KB c.ev.length).drop z)=S) (λz=>c.ev.length - z) (by rfl) 0 La
  ⟨Ll _,Step.refl _ _,hsr.symm⟩ ?_
 rintro k g w3 ⟨hk,hf,G⟩;have hg:=he.trans hf;have hD:=hy.ext hf;have h3:=h.ext hg;refine Qc<|x (QA O O)<|xe<|Qg<|QC O (λhh=>?_) (λhh=>?_)
 ·refine Qy ?_;have hF:c.ev.length≤k:=by have hj:¬(k:Int)<(c.ev.length:Int):=hh;omega
  rw[Lv (by rw[jZ];exact hF)]at G;have hG:S=none:=G.symm;subst hG;refine Qc<|x Qe<|x Qe<|x Qe<|x Qe<|Qf ?_;exact Ql ⟨[.int .i64 0,.int .i64 0,.int .i64 0,.bool false,.int .i64 0],⟨O,O,O,O,O,Z⟩,hg,by rw[hz];rfl⟩
 have h1:k<c.ev.length:=by have hj:(k:Int)<(c.ev.length:Int):=hh;omega
 rw[Qg5 h1,Qhy]at G;refine Qi<|Qg<|Qh<|Qc<|Qb<|Qf<|Qc<|Qf<|Qg<|Qc<|x (Qa O)<|x (Qd hD O O)<|x (Qr h3.co.arr O)<|Qb<|xe ?_;have hl:ownr c.cel (k:Int)=ixs (λq:IV=>decide ((k:Int)∈q.p.a.al)) 0 c.co:=by
  show ixs (λx:Yk=>decide ((k:Int)∈x.a.al)) 0 (c.co.map (·.it))=_;generalize 0=i0;generalize c.co=l;induction l generalizing i0 with
  | nil=>rfl
  | cons a l ih=>rw[LX,ixs,ixs,ih (i0+1)];rfl
 rw[hl]at G;refine Qh<|Qz (α:=Nat×Value) [(9,11),(26,40)] (λz=>[(9,z.2),(26,.int .i64 z.1)]) (λz w'=>z.1≤c.co.length∧Step [] w3 w'∧Qt 3 w3.heap.size w' z.2 (ixs (λq:IV=>decide ((k:Int)∈q.p.a.al)) 0 (c.co.take z.1))) (λz=>c.co.length - z.1) (by rfl) (0,nS) ⟨O,O,Z⟩
  ⟨Ll _,Step.refl _ _,QN _ _ _ _⟩ ?_
 rintro⟨i,v⟩ g w4 ⟨hi,J,H⟩;simp only[]at hi H;have h5:=hg.trans J;have h4:=h.ext h5;have hU:=J.size;have hm:=Uc (λq:IV=>decide ((k:Int)∈q.p.a.al)) (c.co.take i) 0;rw[LC]at hm;refine Qc<|x (QA O O)<|xe<|Qg<|QC O (λhn=>?_) (λhn=>?_)
 ·refine Qy ?_;have h6:c.co.length≤i:=by have hj:¬(i:Int)<(c.co.length:Int):=hn;omega
  rw[Lp h6]at H;rw[Lp h6]at hm;refine Zj (ixs (λq:IV=>decide ((k:Int)∈q.p.a.al)) 0 c.co) λow hl=>?_;rw[hl]at H hm G;have hA:QJ [] w4.heap v ow:=Qt.ints H (by omega) (by simp);refine Qc<|Qb<|x (Qr hA O)<|x (ZV O O)<|xe<|Q3 O (λho=>?_) (λho=>?_)
  ·have h2:2≤ow.length:=by have hH:(2:Int)≤(ow.length:Int):=ho;omega
   rw[if_pos h2]at G;subst G;have e0:cget ow 0=ow[0]'(by omega):=by unfold cget;simp[List.getD,show 0<ow.length by omega]
   have e1:cget ow 1=ow[1]'(by omega):=by unfold cget;simp[List.getD,show 1<ow.length by omega]
   refine Qg<|QU (Step [] w4) [(0,true),(1,true),(2,true),(3,true),(4,true),(5,true),(6,true),(7,true),(8,true),(9,true),(10,true),(11,true)] mixed (by rfl) (by kernel_rfl) (Step.drew _ _) ?_;refine p (λ_=>Qk)<|p (λ_=>Qk)<|pii (i:=0) O hA O O (by omega) λhV h7=>?_;rw[←e0]at h7;refine pq (λ_ hc=>Qv (h7.st hc) O) <|
    p (λ_=>Qk)<|pii (i:=1) O hA O O (by omega) λhW h8=>?_
   rw[←e1]at h8;refine pq (λ_ hc=>Qv (h8.st hc) O)<|p (λ_=>Qe) <|
    p (λ_=>Qe)<|p (λ_=>Qe)<|p (λ_=>Qe)<|p (λ_=>Qe)<|pe ?_
   exact Ql ⟨[.int .i64 k,.int .i64 (cget ow 0),.int .i64 (cget ow 1),.bool true,.int .i64 0],⟨O,O,O,O,O,Z⟩,h5.trans (Step.drew _ _),by rw[hz];rfl⟩
  have h2:¬2≤ow.length:=by have hH:¬(2:Int)≤(ow.length:Int):=ho;omega
  rw[if_neg h2]at G;refine Qi<|Qw<|QP O O<|Qb<|xe ?_;exact⟨k+1,by omega,La,h1,hf.trans J,G⟩
 have I:i<c.co.length:=by have hj:(i:Int)<(c.co.length:Int):=hn;omega
 have h9:=Lc I;have U:=Qcc (λq:IV=>decide ((k:Int)∈q.p.a.al)) I;refine Qi<|Qg<|Qh<|Qc<|Qb<|xig (g:=Zn) (i:=i) XN h4.co.arr O O I λhX hB=>?_;refine Zj (c.co[i]'I) λq hq=>?_;rw[hq]at hB h9 U;have Y:=h4.co.each q h9;refine x (QI hB O O)<|xl O<|Qu (us:=[.string .empty,nS,.int .i64 0,nS,nS]) O λb11 w5 hI hJ hp=>x Qe <|
  xl rfl<|Qn (us:=Zn q) hp O O O O ⟨O,Y.al.one,O,Y.mr.one,Y.ed.one,Z⟩ λw6 hK hp=>xe ?_
 have ha:Step [] w4 w6:=hI.then1 hK hJ;refine Qc<|x (Qa O)<|x (Qa O)<|x (Qd hp O O)<|Qb<|xl O<|xf<|(Yl (Y.al.ext ha) (k:Int)).mono ?_;rintro r7 w7 ⟨rfl,rfl⟩;refine xe<|Q3 rfl (λhr=>?_) (λhr=>?_)
 ·rw[if_pos (decide_eq_true hr)]at U;refine Qw<|Qb<|Qb<|xl O<|QG (us:=[[.int .i64 i]]) O O (by decide) (by simp) ⟨rfl,rfl,Z⟩ λhY w8 hL hZ hM=>?_;have hs:=ha.trans hL;have ga:=hs.size;refine xl O<|Q4 (news:=[.int .i64 i]) (L:=[]) (Qs H hs) O O O (hM.at (by simp)) (by simp[Value.oneCell']) (by omega) (by omega) λv9 w9 hN hO gb =>
   Qf ?_
  have hge:=Qq H;refine Qw<|QP O O<|Qb<|xe<|⟨(i+1,v9),by simp only[];omega,⟨O,O,Z⟩,I,(J.trans hs).then hO (λb hb=>.inr (hge b hb).1),?_⟩;simp only[];rw[U];exact Qt.snoc hN
 rw[if_neg (by simpa using hr),LO]at U;refine Qi<|Qw<|QP O O<|Qb<|xe ?_;exact⟨(i+1,v),by simp only[];omega,⟨O,O,Z⟩,I,J.trans ha,by simp only[];rw[U];exact Qs H ha⟩
theorem YW.eq_iff (a b:YW):a=b↔a.kd=b.kd∧a.ix=b.ix∧a.co=b.co:=by
 cases a;cases b;simp
instance mdlDec (a b:YW):Decidable (a=b):=decidable_of_iff _ (YW.eq_iff a b).symm
theorem zE {a b:LI}(ha:Z2 a)(hb:Z2 b)(h:∀x,x∈a↔x∈b):a=b:=by
 have na:a.Nodup:=List.Pairwise.imp (λh=>by omega) ha;have nb:b.Nodup:=List.Pairwise.imp (λh=>by omega) hb;exact List.Perm.eq_of_pairwise (le:=λx y:Int=>x<y) (λa b _ _ h1 h2=>by omega) ha hb ((List.perm_ext_iff_of_nodup na nb).2 h)
theorem KO {m n:Nat}{e:Int}:e∈setK m n↔∃k:Nat,k<n∧e=(k:Int)∧m.testBit k=true:=by
 unfold setK;rw[Lq];constructor
 ·rintro⟨k,hk,rfl⟩;rw[LJ,L6]at hk;refine⟨k,by omega,O,?_⟩;have:=of_decide_eq_true hk.2;rw[Nat.testBit_eq_decide_div_mod_eq];rw[Nat.and_one_is_mod]at this;exact decide_eq_true this
 rintro⟨k,hk,rfl,ht⟩;refine⟨k,?_,O⟩;rw[LJ,L6];refine⟨by omega,decide_eq_true ?_⟩;rw[Nat.testBit_eq_decide_div_mod_eq]at ht;rw[Nat.and_one_is_mod];exact of_decide_eq_true ht
theorem QaA (b k j:Nat):(orB b k).testBit j=true↔b.testBit j=true∨k=j:=by
 unfold orB;rw[Nat.testBit_or,Nat.one_shiftLeft,Nat.testBit_two_pow,Bool.or_eq_true,decide_eq_true_iff]
theorem Qdy (j:Nat):∀(ls:List (Int×Int)) (b:Nat),(ls.foldl (λb l=>orB b l.1.toNat) b).testBit j=true↔b.testBit j=true∨∃p∈ls,p.1.toNat=j
 | [],b=>by simp
 | p::ls,b=>by
  rw[LM,Qdy j ls,QaA];simp only[List.mem_cons,exists_eq_or_imp];exact or_assoc
theorem QeS {ls:List (Int×Int)}{n:Nat}(h:∀p∈ls,0≤p.1∧p.1<(n:Int))(hi:Z2 (ls.map (·.1))):setK (yM ls) n=ls.map (·.1):=by
 refine zE (JV _ _) hi λx=>?_;rw[KO,Lq];unfold yM;constructor
 ·rintro⟨k,hk,rfl,ht⟩;rw[Qdy]at ht;rcases ht with ht|⟨p,hp,E⟩
  ·simp at ht
  exact⟨p,hp,by have:=h p hp;omega⟩
 rintro⟨p,hp,rfl⟩;have:=h p hp;exact⟨p.1.toNat,by omega,by omega,(Qdy _ _ _).2 (.inr ⟨p,hp,O⟩)⟩
theorem Qdp (x:Yk)(j:Nat):∀(l:List Yk) (k b:Nat),(rqB x k b l).testBit j=true↔b.testBit j=true∨∃i,∃h:i<l.length,k+i=j∧((l[i]'h).a.al.any λe=>decide (e∈x.a.al))=true
 | [],k,b=>by simp[rqB]
 | y::l,k,b=>by
  rw[rqB,Qdp x j l];constructor
  ·rintro(h|⟨i,hi,h1,h2⟩)
   ·by_cases hy:(y.a.al.any λe=>decide (e∈x.a.al))=true
    ·rw[if_pos hy,QaA]at h;rcases h with h|h
     ·exact .inl h
     exact .inr ⟨0,by simp,by omega,hy⟩
    rw[if_neg hy]at h;exact .inl h
   exact .inr ⟨i+1,by simp;omega,by omega,h2⟩
  rintro(h|⟨i,hi,h1,h2⟩)
  ·refine .inl ?_;by_cases hy:(y.a.al.any λe=>decide (e∈x.a.al))=true
   ·rw[if_pos hy,QaA];exact .inl h
   rw[if_neg hy];exact h
  cases i with
  | zero =>
  have h3:(y.a.al.any λe=>decide (e∈x.a.al))=true:=h2;refine .inl ?_;rw[if_pos h3,QaA];exact .inr (by omega)
  | succ i=>exact .inr ⟨i,by simpa using hi,by omega,h2⟩
def mts (a b:LI):Bool:=a.any λe=>decide (e∈b)
theorem QbX (a b:LI):mts a b=mts b a:=by
 unfold mts;rw[Bool.eq_iff_iff,Mo,Mo];constructor <;> rintro⟨e,h1,h2⟩ <;> exact⟨e,of_decide_eq_true h2,decide_eq_true h1⟩
def lmR (co:List Yk):Nat→List Yk→List YW
 | _,[]=>[]
 | i,x::l=>⟨1,i,ixs (λy:Yk=>mts x.a.al y.a.al) 0 co⟩::lmR co (i+1) l
def lmP (kd:Int):Nat→List (List (Int×Int))→List YW
 | _,[]=>[]
 | i,x::l=>⟨kd,i,x.map (·.1)⟩::lmP kd (i+1) l
def lmd (c:Q7):List YW:=lmR c.co 0 c.rq++(lmP 2 0 (c.ex.map (·.ls))++lmP 3 0 (c.cs.map (·.ts)))
theorem JF {α:Type}(q:α→Bool)(x:Int):∀(l:List α) (i:Nat),x∈ixs q i l↔∃k,∃h:k<l.length,x=((i+k:Nat):Int)∧q (l[k]'h)=true
 | [],i=>by simp[ixs]
 | y::l,i=>by
  rw[ixs];have ih:=JF q x l (i+1);constructor
  ·intro h;by_cases hy:q y=true
   ·rw[if_pos hy]at h;rcases Le.1 h with h|h
    ·exact⟨0,by simp,by rw[h];simp,hy⟩
    obtain⟨k,hk,h1,h2⟩:=ih.1 h;exact⟨k+1,by simp;omega,by rw[h1];congr 1;omega,h2⟩
   rw[if_neg hy]at h;obtain⟨k,hk,h1,h2⟩:=ih.1 h;exact⟨k+1,by simp;omega,by rw[h1];congr 1;omega,h2⟩
  rintro⟨k,hk,h1,h2⟩;cases k with
  | zero =>
   have h3:q y=true:=h2;rw[if_pos h3];exact Le.2 (.inl (by rw[h1];simp))
  | succ k =>
   have h3:=ih.2 ⟨k,by simpa using hk,by rw[h1];congr 1;omega,h2⟩;split
   ·exact Lk _ h3
   exact h3
theorem qF {α:Type}(q:α→Bool):∀(l:List α) (i:Nat),Z2 (ixs q i l)
 | [],_=>List.Pairwise.nil
 | y::l,i=>by
  rw[ixs];split
  ·refine L3.2 ⟨λx hx=>?_,qF q l (i+1)⟩;obtain⟨k,_,h1,_⟩:=(JF q x l (i+1)).1 hx;omega
  exact qF q l (i+1)
theorem Qk4 {x:Yk}{co:List Yk}{n:Nat}(E:co.length≤n):setK (rqB x 0 0 co) n=ixs (λy:Yk=>mts x.a.al y.a.al) 0 co:=by
 refine zE (JV _ _) (qF _ _ _) λe=>?_;rw[KO,JF];constructor
 ·rintro⟨k,hk,rfl,ht⟩;rw[Qdp]at ht;rcases ht with ht|⟨i,hi,h1,h2⟩
  ·simp at ht
  exact⟨i,hi,by omega,by rw[QbX];exact h2⟩
 rintro⟨k,hk,rfl,h2⟩;exact⟨k,by omega,by simp,(Qdp _ _ _ _ _).2 (.inr ⟨k,hk,by omega,by rw[QbX]at h2;exact h2⟩)⟩
theorem zq {kd:Int}{f:List (Int×Int)→Prop}(E:∀ls,f ls→setK (yM ls) 8=ls.map (·.1)):∀(l:List (List (Int×Int))) (i:Nat),(∀x∈l,f x)→Jq kd i (l.map yM)=lmP kd i l
 | [],_,_=>rfl
 | x::l,i,h=>by
  rw[LX,Jq,lmP,E x (h x Lm),zq E l (i+1) (λy hy=>h y (Lk _ hy))]
theorem Qb0 {co:List Yk}(E:co.length≤8):∀(l:List Yk) (i:Nat),Jq 1 i (l.map λx=>rqB x 0 0 co)=lmR co i l
 | [],_=>rfl
 | x::l,i=>by
  rw[LX,Jq,lmR,Qk4 E,Qb0 E l (i+1)]
theorem Jc.lmd {c:Q7}(h:Jc c):mods c=lmd c:=by
 have h3:=h.c3;have H:(szs c.co).length=c.co.length:=by unfold szs;rw[Lh]
 unfold mods Proofs.YtjcgijbhaemldaaGreatDoor.lmd srR srX srC;rw[Qb0 (by omega)];have e1:c.ex.map (λx=>yM x.ls)=(c.ex.map (·.ls)).map yM:=by rw[Mf];rfl
 have e2:c.cs.map (λx=>yM x.ts)=(c.cs.map (·.ts)).map yM:=by rw[Mf];rfl
 rw[e1,e2,zq (f:=λls=>(∀p∈ls,0≤p.1∧p.1<(8:Int))∧Z2 (ls.map (·.1))) (λls E=>QeS (n:=8) E.1 E.2) _ _ (λls G=>?_),zq (f:=λls=>(∀p∈ls,0≤p.1∧p.1<(8:Int))∧Z2 (ls.map (·.1))) (λls E=>QeS (n:=8) E.1 E.2) _ _ (λls G=>?_)]
 ·obtain⟨x,hx,rfl⟩:=Lq.1 G;have h1:=(h.cs x hx).2;have h2:Xo (szs c.co) none x.ts=0:=by
   unfold Xp at h1;split at h1
   ·cases h1
   split at h1
   ·rename_i h9;exact absurd h1 h9
   rename_i h9;exact Ln.1 h9
  have h4:=Kk _ _ _ h2;exact⟨λp hp=>by have:=h4.1 p hp;omega,h4.2.1⟩
 obtain⟨x,hx,rfl⟩:=Lq.1 G;have h4:=Kl _ _ _ (h.ex x hx).2.2;exact⟨λp hp=>by have:=h4.1 p hp;omega,h4.2.1⟩
end Go.Proofs.YtjcgijbhaemldaaGreatDoor
namespace Go.Lg
open Go.ChangeShapes Go.WideShapes Go.RowKit
section
variable {H:Type}{enc:TypeId×Value→H}{P:Program}
theorem jJ (hl:laidOutB P=true){W W':World}(hS:Step [] W W'){sp:Nat→Bool}:∀{ts:List TypeId}{vs:LV}{ds:List (DataW H)}{ps:List MemPlace},
  (ts.all λt=>P.readableRec t && decide (t<P.types.size))=true→DataW.TrodAll enc P W 0 (λ_=>true) true ts vs ds ps→(∀x∈ps,x.block<W.heap.size)→(∀x∈ps,sp x.block=true)→DataW.TrodAll enc P W' 0 sp true ts vs ds ps
 | [],vs,ds,ps,_,h,_,_=>by
  obtain⟨rfl,rfl,rfl⟩:=trodAll_nil h;exact trodAll_mk0
 | t::ts,vs,ds,ps,E,h,G,hsp=>by
  obtain⟨v,I,d,ds1,a,b,rfl,rfl,rfl,h1,h2⟩:=trodAll_cons h;simp only[List.all_cons,Bool.and_eq_true,decide_eq_true_eq]at E;have hb:Below W.heap.size W W':=hS.below;refine trodAll_cons_mk (WideElems.Trod_stays hl E.1.1 E.1.2 h1 (λx hx=>hb.same (G x (Ly _ hx))) (λx hx=>hsp x (Ly _ hx))) ?_
  exact jJ hl hS (by simpa using E.2) h2 (λx hx=>G x (L9 _ hx)) (λx hx=>hsp x (L9 _ hx))
theorem QiK {f:Func}{s:ChangeSpec}{apart fresh handsOn again:Bool}{W W':World}{args:Array Value}{ds gs:List (DataW H)}{before:List MemPlace}{tb:TypeId}
  (hl:laidOutB P=true) (hh:(f.params.toList.all λt=>P.readableRec t && decide (t<P.types.size))=true) (J:f.resultTypes=#[tb]) (U:P.underlying tb=some .bool) (V:s.vars=[])
  (E:s.fn H (ds++gs)={ results:=[.lit (.bool true)],args:=ds })
  (G:DataW.Whole enc P f.params.toList s.vars apart W args.toList ds gs before) (hS:Step [] W W'):s.post enc P f apart fresh handsOn again W args (.bool true) W':=by
 have I:=G.lt;have hi:=G;obtain⟨p,q,hA,Y,rfl,hz,hn⟩:=G;rw[V]at Y;obtain⟨rfl,rfl⟩:=trodVars_none Y;rw[LO]at *;have hc:∀sp:Nat→Bool,(∀x∈p,sp x.block=true)→DataW.TrodAll enc P W' 0 sp true f.params.toList args.toList ds p:=λsp hsp=>jJ hl hS hh hA I hsp
 have he:∀(b:Nat) (sp:Nat→Bool) (hd:Bool),DataW.TrodAll enc P W' b sp hd f.resultTypes.toList ((Value.bool true).resultList f.resultTypes.size) [.lit (.bool true)] []:=λb sp hd=>by
  rw[J];exact trodAll_mk1 (shut_bool U true)
 have hb:Below W.heap.size W W':=hS.below;have hf:∀sp:Nat→Bool,DataW.TrodVars enc P W' sp s.vars ([]:List (DataW H)) []:=λsp=>by rw[V];rfl
 have hj:(s.fn H ds).results=[.lit (.bool true)]:=by rw[E]
 have hk:(s.fn H ds).args=ds:=by rw[E]
 have hm:(s.fn H ds).vars=[]:=by rw[E]
 have ho:∀(j:Nat) (t:TypeId) (r:Value),f.resultTypes[j]?=some t→((Value.bool true).resultList f.resultTypes.size)[j]?=some r→Value.okWide P W' .any 0 t r:=ok_one J O (okWide_bool_mk U true);refine⟨ds,[],p,[],p,[],hi,?_,?_,?_,?_,λ_=>⟨ho,[.lit (.bool true)]++ds,[],([]++p)++[],⟨[]++p,[],?_,?_,O,?_,?_⟩,?_⟩⟩
 ·rw[LO,hj];exact he _ _ _
 ·rw[LO,hk];exact hc _ (λx hx=>by simpa using I x hx)
 ·rw[LO,hm];exact hf _
 ·exact World.keptBut_mono (λ_ f=>f.elim) (hb.frame (λ_=>False))
 ·exact trodAll_append (hc _ (λ_ _=>O)) (he _ _ _)
 ·exact hf _
 ·intro b off hp;have hg:MemPlace.cell b off∈p:=by simpa using hp
  rw[hb.frozen (p:=⟨b,off,none⟩) (I _ hg)];exact hz b off hg
 ·intro ha;have:=hn ha;simpa using this
 intro x hx _;simpa using hx
end
end Go.Lg
namespace Go.Proofs.YtjcgijbhaemldaaGreatDoor
open Go.ChangeShapes Go.WideShapes Go.RowKit Go.Lg
theorem Qd5:∀(l:LV),(∀v∈l,∃n:Nat,v=.int .u8 (n:Int)∧n<256)→∃ns:LN,l=bys ns∧ns.length=l.length∧∀n∈ns,n<256
 | [],_=>⟨[],O,O,by simp⟩
 | v::l,h=>by
  obtain⟨n,rfl,E⟩:=h v Lm;obtain⟨ns,h1,h2,h3⟩:=Qd5 l (λv G=>h v (Lk _ G));refine⟨n::ns,by rw[h1];rfl,by simp[h2],λm hm=>?_⟩;rcases Le.1 hm with rfl|hm
  ·exact E
  exact h3 m hm
theorem Qns {n:Int}(h:(Lit.int .u8 n).wf=true):∃m:Nat,n=m∧m<256:=by
 simp only[Lit.wf,Bool.and_eq_true,decide_eq_true_eq]at h;rw[show IntKind.u8.min=0 from rfl,show IntKind.u8.max=255 from rfl]at h;exact⟨n.toNat,by omega,by omega⟩
open Go.Proofs.Tryz
theorem QnI {w:World}{b:Nat}{s:TypeId×Nat}(h:w.shape? b=some s):b<w.heap.size:=by
 unfold World.shape? at h;cases hb:w.heap[b]? with
 | none=>simp[hb]at h
 | some o=>exact(LH.1 hb).1
theorem QlW {P:Program}{w:World}{base:Nat}{a:Addr}{e:TypeId}{n:Nat}(h:w.has P .any base a e n):a.block<w.heap.size:=by
 obtain⟨_,_,row,cells,h1,_⟩:=h;exact QnI h1
theorem QkR {P:Program}{w:World}{base:Nat}{t e:TypeId}{a:Addr}{n c:Nat}(ht:P.underlying t=some (.slice e))(h:Cell.okWide P w .any base t (.slice (some a) n c)):a.block<w.heap.size:=by
 simp only[Cell.okWide,Cell.ok,ht]at h;exact QlW h.2.2
theorem Qix {α:Type}{p:Nat→α→Prop}:∀(n:Nat),(∀i,i<n→∃e,p i e)→∃l:List α,l.length=n∧∀i (h:i<l.length),p i (l[i]'h)
 | 0,_=>⟨[],O,λi h=>by simp at h⟩
 | n+1,h=>by
  obtain⟨l,h1,h2⟩:=Qix n (λi hi=>h i (by omega));obtain⟨e,he⟩:=h n (by omega);refine⟨l++[e],by simp[h1],λi hi=>?_⟩;by_cases E:i<l.length
  ·rw[LZ E];exact h2 i E
  have:i=n:=by simp at hi;omega
  subst this;rw[MM (by omega)];simpa[h1]using he
theorem zr {α:Type}{f:α→Option Value}:∀{L:List α}{l:LV},L.mapM f=some l→l.length=L.length∧∀(i:Nat) (a:α),L[i]?=some a→f a=l[i]?
 | [],l,h=>by
  simp at h;subst h;exact⟨O,λi a h=>by simp at h⟩
 | x::L,l,h=>by
  simp only[List.mapM_cons,Option.bind_eq_bind,Option.pure_def,Option.bind_eq_some_iff]at h;obtain⟨v,E,G,h1,h2⟩:=h;cases h2
  obtain⟨h3,h4⟩:=zr h1;refine⟨by simp[h3],λi a hi=>?_⟩;cases i with
  | zero=>simp at hi;subst hi;simpa using E
  | succ i=>simpa using h4 i a (by simpa using hi)
def kT (P:Program)(k:IntKind):Nat→TypeId→Bool
 | 0,_=>false
 | m+1,t=>match P.underlying t with
  | some (.int k')=>k' == k
  | some (.array n e)=>kT P k m e && decide (0<P.cellsOf e) && decide (P.cellsOf t=n*P.cellsOf e)
  | some (.struct fs)=>(List.range (P.cellsOf t)).all λj=>fs.toList.any λf=>kT P k m f.type && decide (f.offset≤j∧j<f.offset+P.cellsOf f.type)
  | _=>false
theorem Qa1 {cs:LV}{o n j:Nat}{c:Value}(h:cs[j]?=some c)(h1:o≤j)(h2:j<o+n):c∈(cs.drop o).take n:=by
 refine Mv (i:=j - o) ?_;rw[Ms,if_pos (by omega),M4,show o+(j - o)=j by omega];exact h
section
variable {H:Type}{enc:TypeId×Value→H}{P:Program}{W:World}{base b0:Nat}{sp:Nat→Bool}{held:Bool}
theorem Ub {k:IntKind}:∀(m:Nat) {t:TypeId}{cs:LV}{fuel:Nat}{x:DataW H×List MemPlace},kT P k m t=true→DataW.trod enc P W b0 sp held fuel t cs=some x→∀c∈cs,∃n,c=.int k n∧(Lit.int k n).wf=true
 | 0,_,_,_,_,h,_,_,_=>by cases h
 | m+1,t,cs,fuel,x,h,G,c,hc=>by
  unfold kT at h;obtain⟨j,hj,J⟩:=LB hc;have I:cs[j]?=some c:=by rw[LE hj,J]
  split at h
  ·rename_i k' hu;have hk:k'=k:=by simpa using h
   subst hk;obtain⟨n,h1,_,h2⟩:=DataW.trod_int hu G;rw[h1]at hc;exact⟨n,Lb.1 hc,h2⟩
  ·rename_i n e hu;simp only[Bool.and_eq_true,decide_eq_true_eq]at h;obtain⟨⟨h1,h2⟩,h3⟩:=h;obtain⟨xs,U,_,_,hl,V,hx⟩:=DataW.trod_array hu G;have Y:=Nat.div_add_mod j (P.cellsOf e);have hh:=Nat.mod_lt j h2;have hi:j / P.cellsOf e<n:=by
    refine(Nat.div_lt_iff_lt_mul h2).2 ?_;omega
   have E:=hx (j / P.cellsOf e) hi;rw[LE (show j / P.cellsOf e<xs.length by omega)]at E;rw[Nat.mul_comm]at Y;exact Ub m h1 E c (Qa1 I (by omega) (by omega))
  ·rename_i fs hu;obtain⟨xs,U,_,_,hl,V,hx⟩:=DataW.trod_struct hu G;have h1:=LY.1 h j (Mb.2 (by omega));obtain⟨f,ha,h2⟩:=Mo.1 h1;simp only[Bool.and_eq_true,decide_eq_true_eq]at h2;obtain⟨i,hi,hb⟩:=LB ha;have he:i<fs.size:=by simpa using hi
   have hg:fs[i]?=some f:=by rw[Array.getElem?_eq_getElem he,←hb];simp
   have E:=hx i f hg;rw[LE (show i<xs.length by omega)]at E;exact Ub m h2.1 E c (Qa1 I h2.2.1 h2.2.2)
  cases h
theorem Uj {k:IntKind}{m:Nat}{fs:Array Field}{cs:LV}{xs:List (DataW H×List MemPlace)}{I:Nat}(J:xs.length=fs.size)
  (hx:∀(i:Nat) (f:Field),fs[i]?=some f→DataW.trod enc P W b0 sp held I f.type ((cs.drop f.offset).take (P.cellsOf f.type))=xs[i]?) {i j:Nat} {f:Field} {c:Value} (E:fs[i]?=some f) (hk:kT P k m f.type=true) (h1:f.offset≤j) (h2:j<f.offset+P.cellsOf f.type) (hc:cs[j]?=some c):
  ∃n,c=.int k n∧(Lit.int k n).wf=true:=by
 have G:=hx i f E;have hi:i<fs.size:=(LH.1 E).1;rw[LE (show i<xs.length by omega)]at G;exact Ub m hk G c (Qa1 hc h1 h2)
theorem UC {c:Value}(h:∃n,c=.int .u8 n∧(Lit.int .u8 n).wf=true):∃n:Nat,c=.int .u8 (n:Int)∧n<256:=by
 obtain⟨n,rfl,h1⟩:=h;obtain⟨m,rfl,h2⟩:=Qns h1;exact⟨m,O,h2⟩
end
theorem QpI {P:Program}{W:World}{base:Nat}{ts:List TypeId}{cs:Array Value}(h:∀(i:Nat) (v:Value),cs[i]?=some v→∃u,ts[i % ts.length]?=some u∧Cell.okWide P W .any base u v)(i:Nat)(t:TypeId)(v:Value)(E:cs[i]?=some v)(ht:ts[i % ts.length]?=some t):Cell.okWide P W .any base t v:=by
 obtain⟨u,hu,k⟩:=h i v E;rw[ht]at hu;cases hu
 exact k
theorem Qou {H:Type}{enc:TypeId×Value→H}{P:Program}{W:World}{b0 m:Nat}{sp:Nat→Bool}{held:Bool}{fs:Array Field}{cs:LV}{xs:List (DataW H×List MemPlace)}
  (h:∀(i:Nat) (f:Field),fs[i]?=some f→DataW.trod enc P W b0 sp held m f.type ((cs.drop f.offset).take (P.cellsOf f.type))=xs[i]?) (i:Nat) {f:Field} {t o:Nat} {c:Value} (E:fs[i]?=some f) (ht:f.type=t) (G:f.offset=o) (hc:P.cellsOf t=1) (I:(cs.drop o).take 1=[c]) (hi:i<xs.length):
  DataW.trod enc P W b0 sp held m t [c]=some (xs[i]'hi):=by
 have e:=h i f E;rw[ht,G,hc,I]at e;rw[e];simp[hi]
theorem Qpw {W:World}{l:List (String×DataW Unit)}{a b:String×DataW Unit}(hl:l=[a,b,("internal/strconv.uint64pow10",Lib.tabData .u64 Lib.pow10Tab)]) (h:laidMetH prog l W) (hp:(l.all λx=>x.2.handleName?.isNone)=true):Tb W:=by
 rw[Go.MakeChecks.laidMetH_plain _ _ _ hp,hl]at h;exact Lib.tabIs_of_head (n:=20) (g:=0) (by kernel_rfl) (t:=375) (by kernel_rfl) (by kernel_rfl) (e:=334) (by kernel_rfl) (by kernel_rfl) (by kernel_rfl) h.tail.tail
section
variable {H:Type}{enc:TypeId×Value→H}{P:Program}{W:World}{base b0:Nat}{sp:Nat→Bool}{held:Bool}
end
theorem Qe5 (co:List Yk):∀(l:List Yk) (i:Nat),(lmR co i l).length=l.length
 | [],_=>rfl
 | _::l,i=>by rw[lmR,LF,LF,Qe5 co l]
theorem QaH (kd:Int):∀(l:List (List (Int×Int))) (i:Nat),(lmP kd i l).length=l.length
 | [],_=>rfl
 | _::l,i=>by rw[lmP,LF,LF,QaH kd l]
theorem V6 (kd:Int)(m:YW):∀(l:LN) (i:Nat),m∈Jq kd i l↔m.kd=kd∧(i:Int)≤m.ix∧m.ix<((i+l.length:Nat):Int)∧m.co=setK (l.getD (m.ix.toNat - i) 0) 8
 | [],i=>by simp[Jq];intros;omega
 | b::l,i=>by
  rw[Jq,Le,V6 kd m l (i+1),LF];constructor
  ·rintro(h|⟨h1,h2,h3,h4⟩)
   ·subst h;refine⟨O,MH _,by simp only[];omega,?_⟩;rw[show(Int.toNat (i:Int)) - i=0 by omega];rfl
   refine⟨h1,by omega,by omega,?_⟩;rw[h4,show m.ix.toNat - i=m.ix.toNat - (i+1)+1 by omega];rfl
  rintro⟨h1,h2,h3,h4⟩;by_cases e:m.ix=(i:Int)
  ·left;rw[show m.ix.toNat - i=0 by omega]at h4;obtain⟨a,b',E⟩:=m;simp only[]at h1 e h4;subst h1;subst e;rw[h4];rfl
  right;refine⟨h1,by omega,by omega,?_⟩;rw[h4,show m.ix.toNat - i=m.ix.toNat - (i+1)+1 by omega];rfl
theorem QbY {c:Q7}{m:YW}:m∈mods c↔(1≤m.kd∧m.kd≤3)∧(0≤m.ix∧m.ix<((srK c m.kd).length:Int))∧m.co=setK ((srK c m.kd).getD m.ix.toNat 0) 8:=by
 unfold mods;rw[Lo,Lo,V6,V6,V6];simp only[Nat.zero_add,Nat.sub_zero,Int.natCast_zero];unfold srK;by_cases h1:m.kd=1
 ·simp[h1,and_assoc]
 by_cases h2:m.kd=2
 ·simp[h2,and_assoc]
 by_cases h3:m.kd=3
 ·simp[h3,and_assoc]
 simp[h1,h2,h3]
 intros;omega
def lkE (c:Q7)(m:YW):Int:=if m.kd<1∨3<m.kd then 11 else if m.ix<0∨((srK c m.kd).length:Int)≤m.ix then 10 else if m∈lmd c then 0 else 13
theorem QlC {c:Q7}(h:Jc c)(m:YW):mdE c m=lkE c m:=by
 unfold mdE lkE;rw[if_neg (by rw[h.ck];decide)];split
 ·rfl
 split
 ·rfl
 rename_i h1 h2;have e:(m.co=setK ((srK c m.kd).getD m.ix.toNat 0) 8)↔m∈lmd c:=by
  rw[←h.lmd,QbY];exact⟨λh=>⟨by omega,by omega,h⟩,λh=>h.2.2⟩
 simp only[e]
theorem QlA {c:Q7}(h:Jc c){m:YW}(hm:m∈lmd c):mdE c m=0:=by
 rw[QlC h];have h1:=QbY.1 (by rw[h.lmd];exact hm);unfold lkE;rw[if_neg (by omega),if_neg (by omega),if_pos hm]
def rmT (E:List YW):Nat→LI
 | 0=>[]
 | n+1=>rmT E n++(if(E.any λm=>decide ((n:Int)∈m.co))=true then[]else[(n:Int)])
theorem qz (E:List YW)(x:Int):∀n,x∈rmT E n↔(0≤x∧x<(n:Int))∧∀m∈E,x∉m.co
 | 0=>by simp[rmT];intros;omega
 | n+1=>by
  rw[rmT,Lo,qz E x n];split
  ·rename_i h;obtain⟨m,hm,h1⟩:=Mo.1 h;have h2:=of_decide_eq_true h1;constructor
   ·rintro(⟨h3,h4⟩|h3)
    ·exact⟨by omega,h4⟩
    cases h3
   rintro⟨h3,h4⟩;refine .inl ⟨?_,h4⟩;have:x≠(n:Int):=λe=>h4 m hm (by rw[e];exact h2);omega
  rename_i h;have h1:∀m∈E,(n:Int)∉m.co:=λm hm h2=>h (Mo.2 ⟨m,hm,decide_eq_true h2⟩);constructor
  ·rintro(⟨h3,h4⟩|h3)
   ·exact⟨by omega,h4⟩
   rw[Lb.1 h3];exact⟨by omega,h1⟩
  rintro⟨h3,h4⟩;by_cases e:x=(n:Int)
  ·exact .inr (Lb.2 e)
  exact .inl ⟨by omega,h4⟩
theorem Qai (E:List YW):∀n,Z2 (rmT E n)
 | 0=>List.Pairwise.nil
 | n+1=>by
  rw[rmT];split
  ·rw[LO];exact Qai E n
  refine MF.2 ⟨Qai E n,M9 _ _,λa ha b hb=>?_⟩;have:=((qz E a n).1 ha).1;rw[Lb.1 hb];omega
theorem Qah (E:List YW):∀n,(rmT E n).length≤n
 | 0=>Lu _
 | n+1=>by
  rw[rmT,Lj];have:=Qah E n;split <;> simp <;> omega
theorem Qal {j:Nat}(hj:j<16):∀(l:LN) (E:Nat),(l.foldl (λl b=>l &&& (65535 ^^^ b)) E).testBit j=true↔E.testBit j=true∧∀b∈l,b.testBit j=false
 | [],E=>by simp
 | b::l,E=>by
  rw[LM,Qal hj l,Nat.testBit_and,Nat.testBit_xor,show(65535:Nat)=2 ^ 16 - 1 from rfl,Nat.testBit_two_pow_sub_one,decide_eq_true hj,Lt,MZ];constructor
  ·rintro⟨⟨h1,h2⟩,h3⟩;exact⟨h1,by simpa using h2,h3⟩
  rintro⟨h1,h2,h3⟩;exact⟨⟨h1,by simpa using h2⟩,h3⟩
theorem QaE {kd:Int}{m:YW}:∀(l:LN) (i:Nat),m∈Jq kd i l→∃b∈l,m.co=setK b 8
 | [],_,h=>by cases h
 | b::l,i,h=>by
  rw[Jq]at h;rcases Le.1 h with h|h
  ·subst h;exact⟨b,Lm ..,O⟩
  obtain⟨b',h1,h2⟩:=QaE l (i+1) h;exact⟨b',Lk _ h1,h2⟩
theorem qE {kd:Int}{b:Nat}:∀(l:LN) (i:Nat),b∈l→∃m∈Jq kd i l,m.co=setK b 8
 | [],_,h=>by cases h
 | b'::l,i,h=>by
  rw[Jq];rcases Le.1 h with h|h
  ·subst h;exact⟨_,Lm ..,O⟩
  obtain⟨m,h1,h2⟩:=qE (kd:=kd) l (i+1) h;exact⟨m,Lk _ h1,h2⟩
theorem Qn6 {c:Q7}{m:YW}(h:m∈mods c):∃b∈sets c,m.co=setK b 8:=by
 unfold mods at h;unfold sets;rcases Lo.1 h with h|h
 ·obtain⟨b,h1,h2⟩:=QaE _ _ h;exact⟨b,Ly _ h1,h2⟩
 rcases Lo.1 h with h|h
 ·obtain⟨b,h1,h2⟩:=QaE _ _ h;exact⟨b,L9 _ (Ly _ h1),h2⟩
 obtain⟨b,h1,h2⟩:=QaE _ _ h;exact⟨b,L9 _ (L9 _ h1),h2⟩
theorem Qlr {c:Q7}{b:Nat}(h:b∈sets c):∃m∈mods c,m.co=setK b 8:=by
 unfold sets at h;unfold mods;rcases Lo.1 h with h|h
 ·obtain⟨m,h1,h2⟩:=qE (kd:=1) _ 0 h;exact⟨m,Ly _ h1,h2⟩
 rcases Lo.1 h with h|h
 ·obtain⟨m,h1,h2⟩:=qE (kd:=2) _ 0 h;exact⟨m,L9 _ (Ly _ h1),h2⟩
 obtain⟨m,h1,h2⟩:=qE (kd:=3) _ 0 h;exact⟨m,L9 _ (L9 _ h1),h2⟩
theorem Qak {c:Q7}(E:c.co.length≤8):rem c=rmT (mods c) c.co.length:=by
 refine zE (JV _ _) (Qai _ _) λx=>?_;unfold rem;rw[KO,qz];constructor
 ·rintro⟨k,hk,rfl,ht⟩;unfold Qam at ht;rw[Qal (by omega),Nat.testBit_two_pow_sub_one,decide_eq_true_iff]at ht;refine⟨by omega,λm hm hx=>?_⟩;obtain⟨b,hb,e⟩:=Qn6 hm;rw[e,KO]at hx;obtain⟨k',_,G,h1⟩:=hx;have e2:k'=k:=by omega
  subst e2;rw[ht.2 b hb]at h1;cases h1
 rintro⟨h1,h2⟩;refine⟨x.toNat,by omega,by omega,?_⟩;unfold Qam;rw[Qal (by omega),Nat.testBit_two_pow_sub_one,decide_eq_true_iff];refine⟨by omega,λb hb=>?_⟩;obtain⟨m,hm,e⟩:=Qlr hb;have h3:=h2 m hm;rw[e,KO]at h3;refine Bool.eq_false_iff.2 λh4=>h3 ⟨x.toNat,by omega,by omega,h4⟩
theorem Qek {w:World}{vl:Value}{ps:List AV}(h:YX [] w.heap vl ps)(ho:∀p∈ps,QO p.a)(ha:Kb w 4096):
  QH prog 40 [vl] w λr w'=>Step [] w w'∧∃va,r=.tuple #[va,.int .i64 (XB (ps.map (·.a)))]∧(XB (ps.map (·.a))≠0→va=zA)∧(XB (ps.map (·.a))=0→JS w.heap.size w'.heap va (yI (ps.map (·.a)))):=by
 refine QH.of_W func40 O ntmps40 results40 (by simp) ?_;refine Qc<|xl O<|Qu (us:=Qif) O λb2 w1 E he I=>Qf<|Qc<|Qb<|xl O<|xf<|(Uw (km:=4096) (h.ext E) (ha.ext E) (by decide) (qC ho)).mono ?_;rintro r2 w2 ⟨hf,vA,vt,c,rfl,hR⟩;have hc:=hR.e;have hg:=hR.good;have hb:=hR.bad;obtain⟨a,xa,xm,G,qs,rfl,J,hq,_⟩:=hR.shape;have hh:=E.size;have hi:=I.lt
 refine Qb<|x (Qj O O)<|x (Qj O O)<|x (Qj O O)<|xl O<|Qu (us:=Qif) O λb4 w3 hj hk hl=>xl O<|Qn (us:=[xa,.int .i64 a.st,xm,G]) hl O O O O J λw4 hm hn =>
  x Qe<|Qf ?_
 have U:Step [] w2 w4:=hj.then1 hm hk;have V:=hf.trans U;refine Qc<|x (Qo hn O O)<|Qb<|xl O<|Qn (us:=[xa,.int .i64 a.st,xm,G]) (I.ext V) O O O O J λw5 Y hp=>Qf<|Ql ⟨[.agg [xa,.int .i64 a.st,xm,G].toArray,.int .i64 c],⟨⟨_,O,Qx O (hp.at (L:=[]) (by simp)).cells⟩,rfl,Z⟩,(E.trans V).then1 Y he,.agg #[xa,.int .i64 a.st,xm,G],?_,λH=>?_,λH=>?_⟩
 ·show Value.tuple _=Value.tuple _;rw[hc]
 ·exact(hb (by rw[hc];exact H)).1
 have h1:=(hg (by rw[hc];exact H)).1;exact(Uz (h1.ext U) hi Y).mono hh
section
variable {aa:List QD}{P:LI→Prop}{B:Nat}
structure SyB (P:LI→Prop)(s:Sy):Prop where
 nd:s.tup.Nodup
 p:∀t∈s.tup,P t
theorem QnA (J:B≤4096)(H:∀l:List (LI),l.Nodup→(∀t∈l,P t)→l.length≤B){i:Nat}{t:LI}{v:Int}{z:Sy}(E:SyB P z)(I:∀u,Za v aa t=some u→P u):
  ∃z',syE aa i t z v=some z'∧SyB P z':=by
 unfold syE;cases hs:Za v aa t with
 | none=>exact⟨z,O,E⟩
 | some u =>
  simp only[];by_cases hu:u∈z.tup
  ·rw[if_pos hu];exact⟨_,O,E.nd,E.p⟩
  have G:(z.tup++[u]).Nodup:=Ka E.nd hu;have hp:∀t∈z.tup++[u],P t:=λt ht=>by
   rcases Lo.1 ht with ht|ht
   ·exact E.p t ht
   rw[Lb.1 ht];exact I u hs
  have hc:=H _ G hp;rw[Lj,Lz]at hc;rw[if_neg hu,if_neg (by omega)];exact⟨_,O,G,hp⟩
theorem Qey (G:B≤4096)(H:∀l:List (LI),l.Nodup→(∀t∈l,P t)→l.length≤B){i:Nat}{t:LI}:∀(vs:LI) (z:Sy),SyB P z→(∀v∈vs,∀u,Za v aa t=some u→P u)→∃z',KG aa i t vs z=some z'∧SyB P z'
 | [],z,E,_=>⟨z,O,E⟩
 | v::vs,z,E,I=>by
  obtain⟨J,h1,h2⟩:=QnA (i:=i) G H E (I v Lm);obtain⟨U,h3,h4⟩:=Qey G H vs J h2 (λw V=>I w (Lk _ V));exact⟨U,by rw[KG,h1];exact h3,h4⟩
theorem Qhb (G:B≤4096)(H:∀l:List (LI),l.Nodup→(∀t∈l,P t)→l.length≤B)(I:∀t,P t→∀v∈evs aa,∀u,Za v aa t=some u→P u):∀(f i:Nat) (z:Sy),SyB P z→∃z',j7 aa f i z=some z'
 | 0,_,z,_=>⟨z,O⟩
 | f+1,i,z,E=>by
  rw[j7];split
  ·rename_i hi;have U:P (UA z i):=E.p _ (by unfold UA;simp[List.getD,hi]);have J:(ZB aa i (UA z i) z).tup=z.tup:=by unfold ZB;split <;> rfl
   obtain⟨V,h1,h2⟩:=Qey (i:=i) G H (evs aa) (ZB aa i (UA z i) z) ⟨by rw[J];exact E.nd,by rw[J];exact E.p⟩ (I _ U);obtain⟨Y,h3⟩:=Qhb G H I f (i+1) V h2;exact⟨Y,by rw[h1];exact h3⟩
  exact⟨z,O⟩
theorem j6 (E:B≤4096)(G:∀l:List (LI),l.Nodup→(∀t∈l,P t)→l.length≤B)(H:(∀a∈aa,a.st≠0)→P (List.replicate aa.length 0))(I:∀t,P t→∀v∈evs aa,∀u,Za v aa t=some u→P u):
  ∃z,sync aa=some z:=by
 unfold sync;split
 ·exact⟨_,rfl⟩
 rename_i J;have h1:P (List.replicate aa.length 0):=H (λa ha e=>J ⟨a,ha,e⟩);obtain⟨z,h2⟩:=Qhb E G I 4096 0 (qg aa) ⟨by simp[qg],λt ht=>by simp[qg]at ht;subst ht;exact h1⟩;exact⟨_,by rw[h2];rfl⟩
end
def KT (k:Nat):LI→Int
 | []=>0
 | x::t=>x+(k:Int)*KT k t
theorem QaZ {k:Nat}:∀{t:LI},(∀x∈t,0≤x∧x<(k:Int))→0≤KT k t∧KT k t<((k ^ t.length:Nat):Int)
 | [],_=>by simp[KT]
 | x::t,h=>by
  have hx:=h x Lm;obtain⟨h1,h2⟩:=QaZ (t:=t) (λy hy=>h y (Lk _ hy));have hk:(0:Int)<(k:Int):=by omega
  rw[KT,LF,Nat.pow_succ];have h3:(k:Int)*KT k t≤(k:Int)*(((k ^ t.length:Nat):Int) - 1):=Int.mul_le_mul_of_nonneg_left (by omega) (by omega);have h4:0≤(k:Int)*KT k t:=Int.mul_nonneg (by omega) h1;rw[Int.mul_sub,Int.mul_one]at h3;have h5:((k ^ t.length*k:Nat):Int)=(k:Int)*((k ^ t.length:Nat):Int):=by rw[Int.natCast_mul,Int.mul_comm]
  rw[h5];exact⟨by omega,by omega⟩
theorem zU {k:Nat}:∀{t u:LI},t.length=u.length→(∀x∈t,0≤x∧x<(k:Int))→(∀x∈u,0≤x∧x<(k:Int))→KT k t=KT k u→t=u
 | [],[],_,_,_,_=>rfl
 | [],_::_,h,_,_,_=>by cases h
 | _::_,[],h,_,_,_=>by cases h
 | x::t,y::u,hl,ht,hu,he=>by
  have hx:=ht x Lm;have hy:=hu y Lm;rw[KT,KT]at he;have G:(x+(k:Int)*KT k t) % (k:Int)=x:=by rw[Int.add_mul_emod_self_left];exact Int.emod_eq_of_lt hx.1 hx.2
  have I:(y+(k:Int)*KT k u) % (k:Int)=y:=by rw[Int.add_mul_emod_self_left];exact Int.emod_eq_of_lt hy.1 hy.2
  rw[he]at G;have H:x=y:=by omega
  subst H;have hm:(k:Int)*KT k t=(k:Int)*KT k u:=by omega
  have hk:(k:Int)≠0:=by omega
  have h2:=Int.eq_of_mul_eq_mul_left hk hm;rw[zU (by simpa using hl) (λz E=>ht z (Lk _ E)) (λz E=>hu z (Lk _ E)) h2]
theorem Qg9 {aa:List QD}{k:Nat}(G:∀a∈aa,QO a)(hk:∀a∈aa,a.st≤(k:Int))(I:k ^ aa.length≤4096):∃z,sync aa=some z:=by
 have E:∀t,Vt aa t→∀x∈t,0≤x∧x<(k:Int):=λt ht x hx=>by
  obtain⟨i,hi,e⟩:=LB hx;have H:i<aa.length:=by rw[←ht.1];exact hi
  have h1:=ht.2 i hi H;have h2:=hk _ (Lc H);rw[e]at h1;omega
 refine j6 (P:=Vt aa) I (λl J hp=>?_) (λU=>?_) (λt ht v _ u hu=>XD G ht hu)
 ·have h1:(l.map (KT k)).Nodup:=by
   unfold List.Nodup;rw[Mm];refine List.Pairwise.imp_of_mem (λ{a b} ha hb V e=>V ?_) J;exact zU (by rw[(hp a ha).1,(hp b hb).1]) (E a (hp a ha)) (E b (hp b hb)) e
  have h2:=pig (k ^ aa.length) _ h1 (λu hu=>by
   obtain⟨t,ht,rfl⟩:=Lq.1 hu;have h3:=QaZ (E t (hp t ht));rw[(hp t ht).1]at h3;exact h3)
  rw[Lh]at h2;exact h2
 refine⟨by simp,λi h h'=>?_⟩;have h1:=U _ (Lc h');have h2:=(G _ (Lc h')).st0;simp only[List.getElem_replicate];omega
abbrev dI:Yk:=⟨.empty,⟨[],0,[],[]⟩⟩
theorem QiA (co:List Yk):∀(l:List Yk) (i k:Nat) (h:k<l.length),(⟨1,((i+k:Nat):Int),ixs (λy:Yk=>mts (l[k]'h).a.al y.a.al) 0 co⟩:YW)∈lmR co i l
 | x::l,i,0,_=>by rw[lmR];exact Lm
 | x::l,i,k+1,h=>by
  rw[lmR];have h1:=QiA co l (i+1) k (by simpa using h);rw[show i+1+k=i+(k+1) by omega]at h1;exact Lk _ h1
theorem QiB {co:List Yk}{m:YW}:∀(l:List Yk) (i:Nat),m∈lmR co i l→∃k,∃h:k<l.length,m=⟨1,((i+k:Nat):Int),ixs (λy:Yk=>mts (l[k]'h).a.al y.a.al) 0 co⟩
 | x::l,i,h=>by
  rw[lmR]at h;rcases Le.1 h with h|h
  ·exact⟨0,by simp,h⟩
  obtain⟨k,hk,e⟩:=QiB l (i+1) h;rw[show i+1+k=i+(k+1) by omega]at e;exact⟨k+1,by simpa using hk,e⟩
theorem QdI {kd:Int}{m:YW}:∀(l:List (List (Int×Int))) (i:Nat),m∈lmP kd i l→∃k,∃h:k<l.length,m=⟨kd,((i+k:Nat):Int),(l[k]'h).map (·.1)⟩
 | x::l,i,h=>by
  rw[lmP]at h;rcases Le.1 h with h|h
  ·exact⟨0,by simp,h⟩
  obtain⟨k,hk,e⟩:=QdI l (i+1) h;rw[show i+1+k=i+(k+1) by omega]at e;exact⟨k+1,by simpa using hk,e⟩
def yK (c:Q7)(k:Nat):YW:=⟨1,(k:Int),ixs (λy:Yk=>mts (c.rq.getD k dI).a.al y.a.al) 0 c.co⟩
def qm (c:Q7)(k:Nat):YW:=⟨2,(k:Int),(c.ex.getD k ⟨.empty,[]⟩).ls.map (·.1)⟩
def zX (c:Q7)(k:Nat):YW:=⟨3,(k:Int),(c.cs.getD k ⟨.empty,[],0⟩).ts.map (·.1)⟩
theorem ZJ {α:Type}{l:List α}{k:Nat}(h:k<l.length)(d:α):l.getD k d=l[k]'h:=by simp[List.getD,h]
theorem JD {c:Q7}(h:Jc c){m:YW}(hm:m∈mods c):(∃k,k<c.rq.length∧m=yK c k)∨(∃k,k<c.ex.length∧m=qm c k)∨∃k,k<c.cs.length∧m=zX c k:=by
 rw[h.lmd]at hm;unfold lmd at hm;rcases Lo.1 hm with hm|hm
 ·obtain⟨k,hk,e⟩:=QiB _ _ hm;rw[LR]at e;exact .inl ⟨k,hk,by rw[e];unfold yK;rw[ZJ hk]⟩
 rcases Lo.1 hm with hm|hm
 ·obtain⟨k,hk,e⟩:=QdI _ _ hm;have E:k<c.ex.length:=by simpa using hk
  rw[LR,LK]at e;exact .inr (.inl ⟨k,E,by rw[e];unfold qm;rw[ZJ E]⟩)
 obtain⟨k,hk,e⟩:=QdI _ _ hm;have E:k<c.cs.length:=by simpa using hk
 rw[LR,LK]at e;exact .inr (.inr ⟨k,E,by rw[e];unfold zX;rw[ZJ E]⟩)
theorem QnM {c:Q7}(h:Jc c){k:Nat}(hk:k<c.rq.length):yK c k∈mods c:=by
 rw[h.lmd];have h1:=QiA c.co c.rq 0 k hk;rw[LR]at h1;unfold yK;rw[ZJ hk];exact Ly _ h1
theorem Qp7 {sz:LI}{x:Ju}(h:Xp sz x=0):x.ts.length≠0∧Xo sz none x.ts=0∧grt x.bd=false:=by
 unfold Xp at h;split at h
 ·cases h
 rename_i E;split at h
 ·rename_i h9;exact absurd h h9
 rename_i h9;split at h
 ·cases h
 rename_i G;exact⟨E,Ln.1 h9,by cases H:grt x.bd with|true=>exact absurd H G|false=>rfl⟩
theorem qv (l:List Yk):(Proofs.YtjcgijbhaemldaaGreatDoor.szs l).length=l.length:=by unfold Proofs.YtjcgijbhaemldaaGreatDoor.szs;rw[Lh]
theorem Ke {c:Q7}(h:Jc c){m:YW}(hm:m∈mods c):Z2 m.co∧∀i∈m.co,0≤i∧i<(c.co.length:Int):=by
 rcases JD h hm with⟨k,hk,e⟩|⟨k,hk,e⟩|⟨k,hk,e⟩
 ·rw[e];refine⟨qF _ _ _,λi hi=>?_⟩;obtain⟨j,hj,e1,_⟩:=(JF _ _ _ _).1 (show i∈ixs _ 0 c.co from hi);omega
 ·rw[e];have hx:=h.ex _ (Lc hk);have h1:=Kl _ _ _ hx.2.2;unfold qm;rw[ZJ hk];refine⟨h1.2.1,λi hi=>?_⟩;obtain⟨p,hp,rfl⟩:=Lq.1 hi;have:=h1.1 p hp;rw[qv]at this;exact this
 rw[e];have hx:=h.cs _ (Lc hk);have h1:=Kk _ _ _ (Qp7 hx.2).2.1;unfold zX;rw[ZJ hk];refine⟨h1.2.1,λi hi=>?_⟩;obtain⟨p,hp,rfl⟩:=Lq.1 hi;have:=h1.1 p hp;rw[qv]at this;omega
theorem Qfl {pre r:LI}{x:Int}(h:(pre++x::r).Nodup):(pre++x::r).idxOf x=pre.length:=by
 have hx:x∉pre:=λhx=>(Mx.1 h).2.2 x hx x Lm O;rw[Mn,if_neg hx];simp
theorem QiJ {pr:Option Int}{n:Int}(hp:∀y,pr=some y→y<n):¬zy pr n=true:=by
 intro E;cases G:pr with
 | none=>rw[G]at E;cases E
 | some y =>
  rw[G]at E;have h1:=hp y G;have h2:n≤y:=of_decide_eq_true (show decide (n≤y)=true from E);omega
theorem QcF {sz sz' co:LI}(H:co.Nodup)(J:sz'.length=co.length)(I:∀k,k<co.length→cget sz' k=cget sz (cget co k).toNat):∀(ls:List (Int×Int)) (pre:LI) (pr G:Option Int),co=pre++ls.map (·.1)→(∀y,G=some y→y<(pre.length:Int))→Yz sz pr ls=0→Yz sz' G (ixP co ls)=0
 | [],_,_,_,_,_,_=>rfl
 | l::ls,pre,pr,G,hc,hp,h=>by
  have E:co=pre++l.1::ls.map (·.1):=hc;have e1:co.idxOf l.1=pre.length:=by rw[E];exact Qfl (by rw[←E];exact H)
  have U:pre.length<co.length:=by rw[E];simp
  have e2:cget co pre.length=l.1:=by rw[E];unfold cget;simp
  have V:ixP co (l::ls)=(((pre.length:Nat):Int),l.2)::ixP co ls:=by rw[←e1];rfl
  rw[Yz]at h;split at h
  ·cases h
  split at h
  ·cases h
  split at h
  ·cases h
  rename_i h3;have h4:=I pre.length U;rw[e2]at h4;rw[V,Yz];simp only[Int.toNat_natCast];rw[if_neg (by omega),if_neg (QiJ hp),if_neg (by rw[h4];exact h3)];exact QcF H J I ls (pre++[l.1]) _ _ (by rw[E,LA];rfl) (λy hy=>by rw[←Option.some.inj hy,Lj,Lz];omega) h
theorem QcC {sz sz' co:LI}(H:co.Nodup)(I:sz'.length=co.length):∀(ls:List (Int×Int)) (pre:LI) (pr G:Option Int),co=pre++ls.map (·.1)→(∀y,G=some y→y<(pre.length:Int))→Xo sz pr ls=0→Xo sz' G (ixP co ls)=0
 | [],_,_,_,_,_,_=>rfl
 | l::ls,pre,pr,G,hc,hp,h=>by
  have E:co=pre++l.1::ls.map (·.1):=hc;have e1:co.idxOf l.1=pre.length:=by rw[E];exact Qfl (by rw[←E];exact H)
  have U:pre.length<co.length:=by rw[E];simp
  have J:ixP co (l::ls)=(((pre.length:Nat):Int),l.2)::ixP co ls:=by rw[←e1];rfl
  rw[Xo]at h;split at h
  ·cases h
  split at h
  ·cases h
  split at h
  ·cases h
  rename_i h3;rw[J,Xo];simp only[];rw[if_neg (by omega),if_neg (QiJ hp),if_neg h3];exact QcC H I ls (pre++[l.1]) _ _ (by rw[E,LA];rfl) (λy hy=>by rw[←Option.some.inj hy,Lj,Lz];omega) h
theorem Qer (l:List Yk)(i:Nat):cget (Proofs.YtjcgijbhaemldaaGreatDoor.szs l) i=(l.getD i dI).a.st:=by
 unfold cget Proofs.YtjcgijbhaemldaaGreatDoor.szs;rw[LD,List.getElem?_map,LD];cases l[i]? <;> rfl
theorem Km (l:List Yk)(ix:LI):(chs l ix).length=ix.length:=by unfold chs;rw[Lh]
theorem QoN {l:List Yk}{ix:LI}{k:Nat}(h:k<ix.length):(chs l ix).getD k dI=l.getD (cget ix k).toNat dI:=by
 have h1:k<(chs l ix).length:=by rw[Km];exact h
 rw[ZJ h1,←Q8 h];show(ix.map λi:Int=>l.getD i.toNat dI)[k]'(by rw[Lh];exact h)=_;rw[LK]
theorem Qmy {l:List Yk}{ix:LI}:∀k,k<ix.length→cget (Proofs.YtjcgijbhaemldaaGreatDoor.szs (chs l ix)) k=cget (Proofs.YtjcgijbhaemldaaGreatDoor.szs l) (cget ix k).toNat:=λk hk=>by
 rw[Qer,Qer,QoN hk]
theorem QjO {l:List Yk}{ix:LI}(hb:∀i∈ix,0≤i∧i<(l.length:Int)){x:Yk}(hx:x∈chs l ix):x∈l:=by
 unfold chs at hx;obtain⟨i,hi,rfl⟩:=Lq.1 hx;have h1:=hb i hi;have h2:i.toNat<l.length:=by omega
 have e:l.getD i.toNat dI=l[i.toNat]'h2:=ZJ h2 dI;rw[e];exact Lc h2
theorem QaO {l:LI}(h:Z2 l):l.Nodup:=List.Pairwise.imp (λh=>by omega) h
theorem QoM {l:List Yk}{ix:LI}(hi:Z2 ix)(hb:∀i∈ix,0≤i∧i<(l.length:Int))(I:(l.map (·.nm)).Nodup):((chs l ix).map (·.nm)).Nodup:=by
 unfold chs;rw[Mf];unfold List.Nodup;rw[Mm];refine List.Pairwise.imp_of_mem (λ{i j} h1 h2 J e=>J ?_) (QaO hi);have U:=hb i h1;have V:=hb j h2;have E:i.toNat<l.length:=by omega
 have G:j.toNat<l.length:=by omega
 have H:(l.getD i.toNat dI).nm=(l.getD j.toNat dI).nm:=e;rw[ZJ E,ZJ G]at H;have:=QeZ I (i:=i.toNat) (j:=j.toNat) (by simpa using E) (by simpa using G) (by rw[List.getElem_map,List.getElem_map];exact H);omega
theorem j8 {c:Q7}(h:Jc c){co:LI}{rq:List Yk}{ex:List Exc}{cs:List Ju}(hi:Z2 co)(hb:∀i∈co,0≤i∧i<(c.co.length:Int))(I:co≠[])(J:rq.length≤1)
  (E:∀x∈rq,x∈c.rq∧∀e∈x.a.al,∃y∈chs c.co co,e∈y.a.al) (U:ex.length≤1) (V:∀x∈ex,Xl x.nm=true∧x.ls≠[]∧Yz (Proofs.YtjcgijbhaemldaaGreatDoor.szs (chs c.co co)) none x.ls=0)
  (hk1:cs.length≤1) (Y:∀x∈cs,Xl x.nm=true∧Xp (Proofs.YtjcgijbhaemldaaGreatDoor.szs (chs c.co co)) x=0):Jc ⟨c.ev,chs c.co co,rq,ex,cs⟩:=by
 have G:=Mx.1 h.nd;have H:∀{α:Type} (l:List α),l.length≤1→l.Nodup:=λl hl=>by
  match l,hl with
  | [],_=>exact ME
  | [x],_=>simp
  | x::y::l,hl=>simp at hl
 have hc:=pig c.co.length co (QaO hi) hb;have h3:=h.c3;refine⟨h.ev,?_,?_,?_,λx hx=>h.co x (QjO hb hx),λx hx=>?_,?_,?_,V,H _ (by rw[Lh];exact U),hk1,Y⟩
 ·show(chs c.co co).length≠0;rw[Km];exact λe=>I (Lr e)
 ·show(chs c.co co).length≤3;rw[Km];omega
 ·show rq.length≤2;omega
 ·have h4:=h.rq x (E x hx).1;exact⟨h4.1,h4.2.1,(E x hx).2⟩
 ·show((chs c.co co).map (·.nm)++rq.map (·.nm)).Nodup;refine Mx.2 ⟨QoM hi hb G.1,H _ (by rw[Lh];exact J),λa ha b hb'=>?_⟩;obtain⟨x,hx,rfl⟩:=Lq.1 ha;obtain⟨y,hy,rfl⟩:=Lq.1 hb';exact G.2.2 _ (Lq.2 ⟨x,QjO hb hx,O⟩) _ (Lq.2 ⟨y,(E y hy).1,O⟩)
 show ex.length≤2;omega
theorem Qau (c:Q7)(k:Nat):prt (yK c k)=⟨(yK c k).co,[(k:Int)],[],[]⟩:=rfl
theorem QhY (c:Q7)(k:Nat):prt (qm c k)=⟨(qm c k).co,[],[(k:Int)],[]⟩:=rfl
theorem QhZ (c:Q7)(k:Nat):prt (zX c k)=⟨(zX c k).co,[],[],[(k:Int)]⟩:=rfl
theorem jo (c:Q7)(k:Nat):Xb c (yK c k)=⟨c.ev,chs c.co (yK c k).co,[c.rq.getD k dI],[],[]⟩:=rfl
theorem Qb2 (c:Q7)(k:Nat):Xb c (qm c k)=⟨c.ev,chs c.co (qm c k).co,[],[⟨(c.ex.getD k ⟨.empty,[]⟩).nm,ixP (qm c k).co (c.ex.getD k ⟨.empty,[]⟩).ls⟩],[]⟩:=rfl
theorem Qb3 (c:Q7)(k:Nat):Xb c (zX c k)=⟨c.ev,chs c.co (zX c k).co,[],[],[⟨(c.cs.getD k ⟨.empty,[],0⟩).nm,ixP (zX c k).co (c.cs.getD k ⟨.empty,[],0⟩).ts,(c.cs.getD k ⟨.empty,[],0⟩).bd⟩]⟩:=rfl
theorem Qfe (co:LI)(ls:List (Int×Int)):(ixP co ls).length=ls.length:=by unfold ixP;rw[Lh]
theorem UL {c:Q7}(h:Jc c){m:YW}(hm:m∈mods c)(E:m.co≠[]):Jc (Xb c m):=by
 obtain⟨hi,hb⟩:=Ke h hm;rcases JD h hm with⟨k,hk,e⟩|⟨k,hk,e⟩|⟨k,hk,e⟩
 ·subst e;rw[jo];refine j8 h hi hb E (Lu 1) (λx hx=>?_) (Ll _) nofun (Ll _) nofun;rw[Lb.1 hx,ZJ hk];refine⟨Lc hk,λe he=>?_⟩;obtain⟨y,hy,I⟩:=(h.rq _ (Lc hk)).2.2 e he;obtain⟨j,hj,rfl⟩:=LB hy;refine⟨c.co[j]'hj,?_,I⟩;unfold chs
  refine Lq.2 ⟨(j:Int),(JF _ _ _ _).2 ⟨j,hj,by rw[LR],?_⟩,ZJ hj dI⟩;rw[ZJ hk];unfold mts;exact Mo.2 ⟨e,he,decide_eq_true I⟩
 ·subst e;rw[Qb2];have hx:=h.ex _ (Lc hk);refine j8 h hi hb E (Ll _) nofun (Lu 1) (λx G=>?_) (Ll _) nofun;rw[Lb.1 G,ZJ hk]
  refine⟨hx.1,λe=>hx.2.1 (Lr (by have h9:=congrArg List.length (show ixP (qm c k).co (c.ex[k]'hk).ls=[] from e);rwa [Qfe]at h9)),QcF (QaO hi) (by rw[qv,Km]) Qmy _ [] none none ?_ nofun hx.2.2⟩;unfold qm;rw[ZJ hk];rfl
 subst e;rw[Qb3];have hx:=h.cs _ (Lc hk);have H:=Qp7 hx.2;refine j8 h hi hb E (Ll _) nofun (Ll _) nofun (Lu 1) (λx G=>?_);rw[Lb.1 G,ZJ hk];refine⟨hx.1,?_⟩;have J:=QcC (sz':=Proofs.YtjcgijbhaemldaaGreatDoor.szs (chs c.co (zX c k).co)) (QaO hi) (by rw[qv,Km]) _ [] none none (by unfold zX;rw[ZJ hk];rfl) nofun H.2.1;unfold Xp
 simp only[];rw[Qfe,if_neg H.1,if_neg (not_not_intro J),if_neg (by rw[H.2.2];decide)]
theorem Qio {co:LI}{ls:List (Int×Int)}(h:co=ls.map (·.1)):mis co ls=false:=by
 unfold mis;rw[M8];intro l hl;have h1:l.1∈co:=by rw[h];exact Lq.2 ⟨l,hl,O⟩
 simpa using h1
theorem Qa5 {n:Int}{k:Nat}(h:(k:Int)<n):YM n none [(k:Int)]=0 :=
 (Z1 _ _ _).2 ⟨λx hx=>by rw[Lb.1 hx];omega,M9 ..,nofun⟩
theorem Qn8 {c:Q7}(h:Jc c){m:YW}(hm:m∈mods c):qZ c (prt m)=Zi (Xb c m):=by
 obtain⟨hi,hb⟩:=Ke h hm;have h1:YM c.co.length none (prt m).co=0:=(Z1 _ _ _).2 ⟨hb,hi,nofun⟩;have key:YM c.rq.length none (prt m).rq=0∧YM c.ex.length none (prt m).ex=0∧YM c.cs.length none (prt m).cs=0∧QhC c (prt m)=false:=by
  rcases JD h hm with⟨k,hk,e⟩|⟨k,hk,e⟩|⟨k,hk,e⟩
  ·subst e;exact⟨Qa5 (by omega),O,O,O⟩
  ·subst e;refine⟨rfl,Qa5 (by omega),O,?_⟩;unfold QhC;rw[QhY];simp only[List.any_cons,List.any_nil,Bool.or_false,Int.toNat_natCast];exact Qio O
  subst e;refine⟨rfl,O,Qa5 (by omega),?_⟩;unfold QhC;rw[QhZ];simp only[List.any_cons,List.any_nil,Bool.or_false,Bool.false_or,Int.toNat_natCast];exact Qio O
 unfold qZ;rw[if_neg (not_not_intro h.ck),if_neg (not_not_intro h1),if_neg (not_not_intro key.1),if_neg (not_not_intro key.2.1),if_neg (not_not_intro key.2.2.1),if_neg (by rw[key.2.2.2];decide)];rfl
theorem Qn9 {c:Q7}(h:Jc c){m:YW}(E:m.co=[]):Zi (Xb c m)=12:=by
 have e1:Js (Xb c m).ev=0:=h.ev.2;have e2:(Xb c m).co.length=0:=by
  show(chs c.co (prt m).co).length=0;rw[Km];show m.co.length=0;rw[E];rfl
 unfold Zi;rw[if_neg (not_not_intro e1),if_pos e2]
theorem ZL {c:Q7}(h:Jc c):(∀a∈auts c.co++auts c.rq,yW a):=λa ha=>by
 rcases Lo.1 ha with ha|ha
 ·obtain⟨x,hx,rfl⟩:=Lq.1 ha;exact(h.co x hx).2.1
 obtain⟨x,hx,rfl⟩:=Lq.1 ha;exact(h.rq x hx).2.1
theorem ZE (l:List Yk):(auts l).length=l.length:=by unfold auts;rw[Lh]
theorem Qck {aa:List QD}(h:∀a∈aa,yW a)(hl:aa.length≤5):X9 aa=0∧∃z,sync aa=some z:=by
 refine⟨?_,Qg9 (k:=3) (λa ha=>(h a ha).ok) (λa ha=>(h a ha).s) ?_⟩
 ·unfold X9;rw[if_neg (by omega)];exact(Xi _).2 λa ha=>(h a ha).ok
 exact LL (Nat.pow_le_pow_right (by omega) hl) (by decide)
theorem Vl {c:Q7}(h:Jc c):∃pl ps sa ts,sync (auts c.co)=some (pl,ps)∧sync (auts c.co++auts c.rq)=some (sa,ts)∧Xa c=0:=by
 have h3:=h.c3;have h2:=h.r2;have E:=ZL h;obtain⟨k1,⟨pl,ps⟩,e1⟩:=Qck (aa:=auts c.co) (λa ha=>E a (Ly _ ha)) (by rw[ZE];omega);obtain⟨k2,⟨sa,ts⟩,e2⟩:=Qck (aa:=auts c.co++auts c.rq) E (by rw[Lj,ZE,ZE];omega);refine⟨pl,ps,sa,ts,e1,e2,?_⟩;unfold Xa;rw[if_neg (not_not_intro h.ck),if_neg (not_not_intro k1),e1];simp only[];rw[if_neg (not_not_intro k2),e2]
def cA (c:Q7)(i:Nat):QD:=(auts c.co++auts c.rq).getD i ⟨[],0,[],[]⟩
def Y9 (c:Q7):Nat:=c.co.length+c.rq.length
def mI (c:Q7)(m:YW):LN:=m.co.map Int.toNat++(prt m).rq.map λi=>c.co.length+i.toNat
def tpl (n:Nat)(x:Nat→Int):LI:=(List.range n).map x
theorem QcO {c:Q7}{i:Nat}(h:i<c.co.length):cA c i=(c.co.getD i dI).a:=by
 have h1:i<(auts c.co).length:=by rw[ZE];exact h
 unfold cA;rw[LD,L5 h1,ZJ h];unfold auts;simp[h]
theorem QjV {c:Q7}{k:Nat}(h:k<c.rq.length):cA c (c.co.length+k)=(c.rq.getD k dI).a:=by
 have h1:(auts c.co).length≤c.co.length+k:=by rw[ZE];omega
 unfold cA;rw[LD,Mz h1,ZE,Nr,ZJ h];unfold auts;simp[h]
theorem Qd4 (c:Q7):auts c.co++auts c.rq=(List.range (Y9 c)).map (cA c):=by
 refine LT (by rw[Lj,ZE,ZE,Lh,Nl];rfl) λi h1 h2=>?_;rw[LK,My];unfold cA;rw[ZJ h1]
theorem yg (c:Q7):auts c.co=(List.range c.co.length).map (cA c):=by
 refine LT (by rw[ZE,Lh,Nl]) λi h1 h2=>?_;have h3:i<c.co.length:=by rw[ZE]at h1;exact h1
 rw[LK,My,QcO h3,ZJ h3];show(c.co.map (·.a))[i]'(by rw[Lh];exact h3)=_;rw[LK]
theorem QfM {c:Q7}(h:Jc c){i:Nat}(hi:i<Y9 c):yW (cA c i):=by
 have h1:i<(auts c.co++auts c.rq).length:=by rw[Lj,ZE,ZE];exact hi
 unfold cA;rw[ZJ h1];exact ZL h _ (Lc h1)
theorem jr {c:Q7}(h:Jc c){m:YW}(hm:m∈mods c):∀i∈mI c m,i<Y9 c:=λi hi=>by
 unfold Y9;rcases Lo.1 hi with hi|hi
 ·obtain⟨j,hj,rfl⟩:=Lq.1 hi;have:=(Ke h hm).2 j hj;omega
 rcases JD h hm with⟨k,hk,e⟩|⟨k,hk,e⟩|⟨k,hk,e⟩
 ·subst e;rw[Qau]at hi;have:i=c.co.length+k:=by simpa using hi
  omega
 ·subst e;rw[QhY]at hi;cases hi
 subst e;rw[QhZ]at hi;cases hi
theorem Qis {c:Q7}(h:Jc c){m:YW}(hm:m∈mods c):auts (Xb c m).co=(m.co.map Int.toNat).map (cA c):=by
 show auts (chs c.co m.co)=_;unfold auts chs;rw[Mf,Mf];refine MP λi hi=>?_;have h1:=(Ke h hm).2 i hi;show(c.co.getD i.toNat dI).a=cA c i.toNat;rw[QcO (by omega)]
theorem YZ {c:Q7}(h:Jc c){m:YW}(hm:m∈mods c):auts (Xb c m).co++auts (Xb c m).rq=(mI c m).map (cA c):=by
 unfold mI;rw[Lx,Qis h hm];congr 1;rcases JD h hm with⟨k,hk,e⟩|⟨k,hk,e⟩|⟨k,hk,e⟩
 ·subst e;rw[Qau,jo];show[(c.rq.getD k dI).a]=[cA c (c.co.length+k)];rw[QjV hk]
 ·subst e;rfl
 subst e;rfl
theorem Qiv {c:Q7}(h:Jc c){i:Nat}(hi:i<Y9 c):(∃m∈mods c,i∈mI c m)∨i<c.co.length∧(i:Int)∈rem c:=by
 by_cases hc:i<c.co.length
 ·by_cases E:(i:Int)∈rem c
  ·exact .inr ⟨hc,E⟩
  left;rw[Qak (by have:=h.c3;omega),qz]at E;by_cases H:∃m∈mods c,(i:Int)∈m.co
  ·obtain⟨m,hm,G⟩:=H;exact⟨m,hm,Ly _ (Lq.2 ⟨(i:Int),G,O⟩)⟩
  exact absurd ⟨⟨by omega,by omega⟩,λm hm G=>H ⟨m,hm,G⟩⟩ E
 left;have hk:i - c.co.length<c.rq.length:=by unfold Y9 at hi;omega
 refine⟨yK c (i - c.co.length),QnM h hk,L9 _ ?_⟩;rw[Qau];refine Lq.2 ⟨_,Lb.2 O,?_⟩;rw[LU];omega
abbrev mB (c:Q7)(m:YW):QD:=(spc (Xb c m)).a
abbrev mQ (c:Q7)(m:YW):List (LI):=Jo (auts (Xb c m).co++auts (Xb c m).rq)
abbrev mL (c:Q7)(m:YW):Lf:=Xj (mB c m) (fbs (spc (Xb c m))) (unc c.ev)
theorem Y1 {c:Q7}(h:Jc c):yV (auts c.co++auts c.rq) (spc c).a (Jo (auts c.co++auts c.rq))∧yV (auts c.co) (yI (auts c.co)) (Jo (auts c.co))∧0<(spc c).a.st∧0<(yI (auts c.co)).st ∧
  spc c=⟨(spc c).a,(Jo (auts c.co++auts c.rq)).map (·.take c.co.length),(Jo (auts c.co++auts c.rq)).map (·.drop c.co.length),(Jo (auts c.co++auts c.rq)).map (λt=>plx (Jo (auts c.co)) (t.take c.co.length)),spF c (yI (auts c.co)) (Jo (auts c.co)) (Jo (auts c.co++auts c.rq))⟩:=by
 obtain⟨pl,ps,sa,ts,e1,e2,_⟩:=Vl h;have he:=Qdn e1 e2;have E:=ZL h;have a1:yI (auts c.co)=pl:=by unfold yI;rw[e1]
 have a2:Jo (auts c.co)=ps:=by unfold Jo;rw[e1]
 have a4:Jo (auts c.co++auts c.rq)=ts:=by unfold Jo;rw[e2]
 have G:(spc c).a=sa:=by rw[he]
 have H:=YE (λa ha=>(E a ha).ok) e2;have I:=YE (λa ha=>(E a (Ly _ ha)).ok) e1;have p1:ts.length≠0:=λe=>by
  obtain⟨a,ha,e0⟩:=H.2.1 e;have:=(E a ha).p;omega
 have p2:ps.length≠0:=λe=>by
  obtain⟨a,ha,e0⟩:=I.2.1 e;have:=(E a (Ly _ ha)).p;omega
 have q1:=H.1.st;have q2:=I.1.st;refine⟨by rw[G,a4];exact H.1,by rw[a1,a2];exact I.1,by rw[G];omega,by rw[a1];omega,?_⟩;rw[a1,a2,a4,G];exact he
theorem Qn5 (c:Q7)(m:YW):ql c m=Jp (mB c m) (fbs (spc (Xb c m))) (unc c.ev):=rfl
structure TgR (c:Q7)(x:Nat→Int)(t:LI):Prop where
 l:t.length=(mods c).length+(rem c).length
 m:∀k (h:k<(mods c).length),yu (mB c ((mods c)[k]'h)) (mQ c ((mods c)[k]'h)) (mL c ((mods c)[k]'h)) ((mI c ((mods c)[k]'h)).map x) (cget t k)
 r:∀k (h:k<(rem c).length),cget t ((mods c).length+k)=x ((rem c)[k]'h).toNat
theorem Xd (c:Q7):(ZA c).length=(mods c).length+(rem c).length:=by
 show((mods c).map (ql c)++(rem c).map (coA c)).length=_;rw[Lj,Lh,Lh]
theorem Qhl (c:Q7){k:Nat}(h:k<(mods c).length)(h':k<(ZA c).length):(ZA c)[k]'(h')=ql c ((mods c)[k]'h):=by
 have e:ZA c=(mods c).map (ql c)++(rem c).map (coA c):=rfl;simp only[e];rw[LZ (by simpa using h),LK]
theorem Qhk (c:Q7){k:Nat}(h:k<(rem c).length)(h':(mods c).length+k<(ZA c).length):(ZA c)[(mods c).length+k]'(h')=coA c ((rem c)[k]'h):=by
 have e:ZA c=(mods c).map (ql c)++(rem c).map (coA c):=rfl;simp only[e];rw[MM (by simp)];simp
theorem Qa2 {c:Q7}{i:Int}(h:i∈rem c):coA c i=cA c i.toNat:=by
 have h1:=UG i h;rw[QcO (by omega)]
 first|done|rfl
structure TgP (c:Q7):Prop where
 d:Jc c
 n:∀m∈mods c,m.co≠[]
 s:∀a∈ZA c,a.st≠0
theorem TgP.sup {c:Q7}(h:TgP c){m:YW}(hm:m∈mods c):ql c m=ZY (rstr (mB c m) (mL c m))∧lft (mL c m) 0=true∧QO (mB c m)∧0<(mB c m).st∧yV (auts (Xb c m).co++auts (Xb c m).rq) (mB c m) (mQ c m)∧(∀a∈auts (Xb c m).co++auts (Xb c m).rq,QO a):=by
 have hd:=UL h.d hm (h.n m hm);have hs:=Y1 hd;have E:=ZL hd;have h1:(ql c m).st≠0:=h.s _ (Ly _ (Lq.2 ⟨m,hm,O⟩));obtain⟨_,h2,h3⟩:=qP h1;exact⟨h3,h2,hs.1.okay (λa ha=>(E a ha).ok),hs.2.2.1,hs.1,λa ha=>(E a ha).ok⟩
theorem TgR.step {c:Q7}(h:TgP c){x:Nat→Int}{t u:LI}{v:Int}(ht:TgR c x t)(hu:Za v (ZA c) t=some u):TgR c (nx v (cA c) x) u∧∀i,i<Y9 c→(pst v (cA c i) (x i)).isSome=true:=by
 obtain⟨h1,h2⟩:=(Yf v _ _ u (by rw[ht.l,Xd])).1 hu;rw[Xd]at h1;have hm:∀k (hk:k<(mods c).length),yu (mB c ((mods c)[k]'hk)) (mQ c ((mods c)[k]'hk)) (mL c ((mods c)[k]'hk)) ((mI c ((mods c)[k]'hk)).map (nx v (cA c) x)) (cget u k)∧∀i∈mI c ((mods c)[k]'hk),(pst v (cA c i) (x i)).isSome=true:=λk hk=>by
  have E:=Lc hk;have hS:=h.sup E;have h3:=h2 k (by rw[Xd];omega);rw[Qhl c hk,hS.1]at h3;obtain⟨V,h4,h5⟩:=yu.step hS.2.2.2.2.2 hS.2.2.2.2.1 hS.2.2.1 hS.2.2.2.1 (ht.m k hk) h3;rw[YZ h.d E]at h4;obtain⟨h6,H⟩:=Vb h4;rw[h6]at h5;exact⟨h5,H⟩
 have G:∀k (hk:k<(rem c).length),pst v (cA c ((rem c)[k]'hk).toNat) (x ((rem c)[k]'hk).toNat)=some (cget u ((mods c).length+k)):=λk hk=>by
  have h3:=h2 ((mods c).length+k) (by rw[Xd];omega);rw[Qhk c hk,ht.r k hk,Qa2 (Lc hk)]at h3;exact h3
 refine⟨⟨h1,λk hk=>(hm k hk).1,λk hk=>?_⟩,λi hi=>?_⟩
 ·have h3:=G k hk;unfold nx;rw[h3];rfl
 rcases Qiv h.d hi with⟨m,I,J⟩|⟨_,U⟩
 ·obtain⟨k,hk,e⟩:=LB I;exact(hm k hk).2 i (by rw[e];exact J)
 obtain⟨k,hk,e⟩:=LB U;have h3:=G k hk;rw[e]at h3;rw[LU]at h3;rw[h3];rfl
theorem TgR.init {c:Q7}(h:TgP c):TgR c (λ_=>0) (List.replicate (ZA c).length 0):=by
 have E:∀k,cget (List.replicate (ZA c).length (0:Int)) k=0:=λk=>by
  unfold cget;rw[LD,List.getElem?_replicate];split <;> rfl
 refine⟨by rw[Nj,Xd],λk hk=>?_,λk hk=>E _⟩;have G:=Lc hk;have hS:=h.sup G;have h1:=yu.init hS.2.2.2.2.1 hS.2.2.1 hS.2.2.2.1 hS.2.1;have e:(mI c ((mods c)[k]'hk)).map (λ_=>(0:Int))=List.replicate (auts (Xb c ((mods c)[k]'hk)).co++auts (Xb c ((mods c)[k]'hk)).rq).length 0:=by
  rw[YZ h.d G,Lh];exact List.map_const' ..
 rw[E,e];exact h1
theorem Qny {n:Nat}{x y:Nat→Int}(h:tpl n x=tpl n y):∀i,i<n→x i=y i:=λi hi=>by
 have h1:cget (tpl n x) i=cget (tpl n y) i:=by rw[h]
 unfold tpl at h1;rw[ye (by simpa using hi),ye (by simpa using hi),My]at h1;exact h1
theorem TgR.uniq {c:Q7}(h:TgP c){x y:Nat→Int}{t u:LI}(ht:TgR c x t)(hu:TgR c y u)(e:tpl (Y9 c) x=tpl (Y9 c) y):t=u:=by
 have G:=Qny e;refine LT (by rw[ht.l,hu.l]) λk h1 h2=>?_;rw[Q8 h1,Q8 h2];have hl:=ht.l;by_cases hk:k<(mods c).length
 ·have H:=Lc hk;have hS:=h.sup H;have a1:=ht.m k hk;have a2:=hu.m k hk;have e2:(mI c ((mods c)[k]'hk)).map x=(mI c ((mods c)[k]'hk)).map y:=MP λi hi=>G i (jr h.d H i hi);rw[e2]at a1;exact yu.uniq hS.2.2.2.2.1 hS.2.2.1 hS.2.2.2.1 a1 a2
 have E:k - (mods c).length<(rem c).length:=by omega
 have a1:=ht.r _ E;have a2:=hu.r _ E;rw[show(mods c).length+(k - (mods c).length)=k by omega]at a1 a2;rw[a1,a2];refine G _ ?_;have:=UG _ (Lc E);unfold Y9;omega
theorem Qbs {c:Q7}(h:Jc c)(U:∀m∈mods c,m.co≠[]):∃z,sync (ZA c)=some z:=by
 by_cases I:∃a∈ZA c,a.st=0
 ·unfold sync;rw[if_pos I];exact⟨_,rfl⟩
 have G:TgP c:=⟨h,U,λa ha e=>I ⟨a,ha,e⟩⟩;have V:Y9 c≤5:=by have:=h.c3;have:=h.r2;unfold Y9;omega
 have Y:3 ^ Y9 c≤4096:=LL (Nat.pow_le_pow_right (by omega) V) (by decide);let Q:(Nat→Int)→LI→Prop:=λx t=>(∀i,i<Y9 c→0≤x i∧x i<(cA c i).st)∧TgR c x t;refine j6 (P:=λt=>∃x,Q x t) Y (λl hc hp=>?_) (λ_=>⟨λ_=>0,λi hi=>⟨MH _,(QfM h hi).p⟩,TgR.init G⟩) (λt ht v _ u hu=>?_)
 ·have he:∀t:LI,∃u:LI,t∈l→∃x,Q x t∧u=tpl (Y9 c) x:=λt=>by
   by_cases ht:t∈l
   ·obtain⟨x,hx⟩:=hp t ht;exact⟨_,λ_=>⟨x,hx,O⟩⟩
   exact⟨[],λe=>absurd e ht⟩
  obtain⟨g,H⟩:=Classical.skolem.1 he;have E:∀t∈l,(g t).length=Y9 c∧∀y∈g t,0≤y∧y<((3:Nat):Int):=λt ht=>by
   obtain⟨x,hx,e⟩:=H t ht;rw[e];unfold tpl;refine⟨by simp,λy hy=>?_⟩;obtain⟨i,hi,rfl⟩:=Lq.1 hy;have J:i<Y9 c:=Mb.1 hi;have h1:=hx.1 i J;have h2:=(QfM h J).s;omega
  have h1:(l.map λt=>KT 3 (g t)).Nodup:=by
   unfold List.Nodup;rw[Mm];refine List.Pairwise.imp_of_mem (λ{a b} ha hb hf e=>hf ?_) hc;have e2:g a=g b:=zU (by rw[(E a ha).1,(E b hb).1]) (E a ha).2 (E b hb).2 e;obtain⟨x,hx,ex⟩:=H a ha;obtain⟨y,hy,ey⟩:=H b hb;exact TgR.uniq G hx.2 hy.2 (by rw[←ex,←ey,e2])
  have h2:=pig (3 ^ Y9 c) _ h1 (λu hu=>by
   obtain⟨t,ht,rfl⟩:=Lq.1 hu;have h3:=QaZ (E t ht).2;rw[(E t ht).1]at h3;exact h3)
  rw[Lh]at h2;exact h2
 obtain⟨x,hh,hj⟩:=ht;obtain⟨h1,h2⟩:=TgR.step G hj hu;exact⟨_,λi hi=>QnT (QfM h hi).ok (hh i hi) (QaC (h2 i hi)),h1⟩
theorem QaD {c:Q7}(h:Jc c){m:YW}(hm:m∈mods c):(m.co=[]→yD c m=12)∧(m.co≠[]→yD c m=0):=by
 have H:mdE c m=0:=QlA h (by rw[←h.lmd];exact hm);have G:mcE c m=Zi (Xb c m):=by unfold mcE;rw[if_neg (not_not_intro H),Qn8 h hm]
 constructor
 ·intro E;unfold yD;rw[G,Qn9 h E];rfl
 intro E;have hd:=UL h hm E;obtain⟨_,_,_,_,_,_,e⟩:=Vl hd;unfold yD;rw[G,hd.ck,if_neg (by decide)];exact e
theorem Qii {c:Q7}:∀(l:List YW),(∀m∈l,yD c m=0∨yD c m=12)→msL c l=0∨msL c l=12
 | [],_=>.inl O
 | m::l,h=>by
  rw[V4];split
  ·exact h m Lm
  exact Qii l λq hq=>h q (Lk _ hq)
theorem Qin {c:Q7}(h:Jc c):(mods c).length≤5:=by
 have h2:=h.r2;have h3:=h.x2;have h4:=h.k1;rw[h.lmd];unfold lmd;rw[Lj,Lj,Qe5,QaH,QaH,Lh,Lh];omega
theorem Qnz {c:Q7}(h:Jc c):JK c=0∨JK c=12:=by
 have G:KH c=msL c (mods c):=by rw[qQ,if_neg (not_not_intro h.ck)]
 have H:=Qii (c:=c) (mods c) λm hm=>by
  by_cases E:m.co=[]
  ·exact .inr ((QaD h hm).1 E)
  exact .inl ((QaD h hm).2 E)
 rw[Qeq];by_cases h1:KH c≠0
 ·rw[if_pos h1,G];exact H
 rw[if_neg h1];left;have h2:KH c=0:=Ln.1 h1;have I:=zo (c:=c) (l:=mods c) (by rw[←G];exact h2);obtain⟨z,e⟩:=Qbs h (λm hm E=>by
  have:=I m hm;rw[(QaD h hm).1 E]at this;cases this)
 have hck:X9 (ZA c)=0:=by
  have h3:=Qin h;have h4:=Qah (mods c) c.co.length;have h5:=h.c3;unfold X9;rw[if_neg (by rw[Xd,Qak (by omega)];omega)];exact(Xi _).2 (XC h2)
 unfold XB;rw[if_neg (not_not_intro hck),e]
theorem Qjo {c:Q7}(h:Jc c){v:Int}(I:v∈evs (auts c.co++auts c.rq)):v∈evs (auts c.co):=by
 have E:=ZL h;have G:∀a∈auts c.co,QO a:=λa ha=>(E a (Ly _ ha)).ok;obtain⟨a,ha,H⟩:=(ZO (λa ha=>(E a ha).ok) v).1 I;rcases Lo.1 ha with ha|ha
 ·exact(ZO G v).2 ⟨a,ha,H⟩
 obtain⟨x,hx,rfl⟩:=Lq.1 ha;obtain⟨y,hy,J⟩:=(h.rq x hx).2.2 v H;exact(ZO G v).2 ⟨y.a,Lq.2 ⟨y,hy,O⟩,J⟩
theorem Qdj {v:Int}{aa bb:List QD}{t u:LI}(hl:t.length=(aa++bb).length)(h:Za v (aa++bb) t=some u):Za v aa (t.take aa.length)=some (u.take aa.length):=by
 obtain⟨h1,h2⟩:=(Yf v _ _ u hl).1 h;rw[Lj]at h1 hl;have E:∀(l:LI) k,k<aa.length→cget (l.take aa.length) k=cget l k:=λl k hk=>by
  unfold cget;rw[LD,List.getElem?_take_of_lt hk,←LD]
 refine(Yf v _ _ _ (by rw[LC];omega)).2 ⟨by rw[LC];omega,λk hk=>?_⟩;have h3:=h2 k (by rw[Lj];omega);rw[LZ hk]at h3;rw[E t k hk,E u k hk];exact h3
theorem Qna {c:Q7}(h:Jc c):∀t∈Jo (auts c.co++auts c.rq),t.length=Y9 c∧t.take c.co.length∈Jo (auts c.co):=by
 obtain⟨pl,ps,sa,ts,e1,e2,_⟩:=Vl h;have J:=ZL h;have hs:=Y1 h;have a4:Jo (auts c.co++auts c.rq)=ts:=by unfold Jo;rw[e2]
 have E:(auts c.co++auts c.rq).length=Y9 c:=by rw[Lj,ZE,ZE];rfl
 have G:(auts c.co).length=c.co.length:=ZE _;have hp:=hs.2.2.2.1;have U:=hs.2.1.st;have H:0<(Jo (auts c.co)).length:=by omega
 have key:=Qbt (P:=λt=>t.length=Y9 c∧t.take c.co.length∈Jo (auts c.co)) e2 (by
  refine⟨by rw[Nj,E],?_⟩;rw[List.take_replicate,E,show min c.co.length (Y9 c)=c.co.length by unfold Y9;omega];have h1:=hs.2.1.hd H;rw[G]at h1;rw[←h1];exact(Yp H).2) (λt ht v I u hu=>by
  have h1:t.length=(auts c.co++auts c.rq).length:=by rw[ht.1,E]
  refine⟨by rw[((Yf v _ _ u h1).1 hu).1,E],?_⟩;have h2:=Qdj h1 hu;rw[G]at h2;have hj:=LS ht.2;have h3:(Jo (auts c.co)).getD ((Jo (auts c.co)).idxOf (t.take c.co.length)) []=t.take c.co.length:=by
   rw[(Yp hj).1,M5]
  exact hs.2.1.cl _ hj v (Qjo h I) _ (by rw[h3];exact h2))
 intro t ht;rw[a4]at ht;exact key t ht
theorem Qh1 {c:Q7}(_h:Jc c){t:LI}(ht:t∈Jo (auts c.co)):plx (Jo (auts c.co)) t=((Jo (auts c.co)).idxOf t:Int)∧(Jo (auts c.co)).idxOf t<(Jo (auts c.co)).length∧(Jo (auts c.co)).getD ((Jo (auts c.co)).idxOf t) []=t:=by
 have hj:=LS ht;refine⟨by unfold plx;rw[if_pos ht],hj,by rw[(Yp hj).1,M5]⟩
theorem Qjq {a:QD}(E:QO a)(x v:Int):v∈enb a x↔(eget a.ed x v).isSome=true:=by rw[Qfw E,zm E]
theorem Qow {c:Q7}(h:Jc c){s:Nat}(hs:s<(Jo (auts c.co++auts c.rq)).length)(G:(rsn c (yI (auts c.co)) (plx (Jo (auts c.co)) (((Jo (auts c.co++auts c.rq)).getD s []).take c.co.length)) s ((Jo (auts c.co++auts c.rq)).getD s [])).isSome=true):(s:Int)∈fbs (spc c):=by
 have he:=(Y1 h).2.2.2.2;obtain⟨r,E⟩:=Mk.1 G;unfold fbs;rw[he];refine Lq.2 ⟨r,?_,?_⟩
 ·unfold spF;refine MG.2 ⟨((Jo (auts c.co++auts c.rq)).getD s [],s),?_,E⟩;rw[List.mem_zipIdx_iff_getElem?,(Yp hs).1];exact LE hs
 unfold rsn at E;split at E
 ·cases E;rfl
 split at E
 ·cases E;rfl
 cases E
theorem Qfp {α:Type}{q:α→Bool}{l:List α}{i:Nat}(h:∃x∈l,q x=true):0≤fix q i l:=by
 have h1:=Uk q l i;rw[Mo.2 h]at h1;exact of_decide_eq_true h1
theorem Qfq {α:Type}{q:α→Bool}{l:List α}{i:Nat}(h:0≤fix q i l):∃k,∃hk:k<l.length,q (l[k]'hk)=true:=by
 have h1:=Uk q l i;rw[decide_eq_true h]at h1;obtain⟨x,hx,hq⟩:=Mo.1 h1.symm;obtain⟨k,hk,e⟩:=LB hx;exact⟨k,hk,by rw[e];exact hq⟩
theorem Qnt {c:Q7}{t:LI}(h:∃x∈c.ex,JT t x=true):(vio c t).isSome=true:=by
 unfold vio;rw[if_pos (Qfp h)];rfl
theorem Qnu {c:Q7}{t:LI}(h:∃x∈c.cs,Kv t x=true):(vio c t).isSome=true:=by
 unfold vio;split
 ·rfl
 rw[if_pos (Qfp h)];rfl
theorem Qdc {c:Q7}{t:LI}{p:Int×Int}(h:vio c t=some p):(∃k,∃hk:k<c.ex.length,JT t (c.ex[k]'hk)=true)∨∃k,∃hk:k<c.cs.length,Kv t (c.cs[k]'hk)=true:=by
 unfold vio at h;split at h
 ·rename_i h1;exact .inl (Qfq h1)
 split at h
 ·rename_i h1;exact .inr (Qfq h1)
 cases h
theorem Qk2 {c:Q7}{pl:QD}{k:Int}{i:Nat}{t:LI}(h:(vio c (t.take c.co.length)).isSome=true):(rsn c pl k i t).isSome=true:=by
 obtain⟨p,hp⟩:=Mk.1 h;obtain⟨a,b⟩:=p;unfold rsn;rw[hp];rfl
theorem Qk3 {c:Q7}{pl:QD}{k:Int}{i:Nat}{t:LI}(h:(rfd c (t.drop c.co.length) (qn pl k)).isSome=true):(rsn c pl k i t).isSome=true:=by
 obtain⟨p,hp⟩:=Mk.1 h;obtain⟨a,b⟩:=p;unfold rsn;split
 ·rfl
 rw[hp];rfl
theorem QnL {c:Q7}{pl:QD}{k:Int}{i:Nat}{t:LI}{r:Rsn}(h:rsn c pl k i t=some r):r.st=(i:Int)∧(r.kd≠3→(vio c (t.take c.co.length)).isSome=true):=by
 unfold rsn at h;split at h
 ·rename_i e;cases h;exact⟨O,λ_=>by rw[e];rfl⟩
 split at h
 ·cases h;exact⟨O,λe=>absurd O e⟩
 cases h
theorem QeK {c:Q7}{rs:LI}{v:Int}(E:0≤rfr v 0 c.rq rs)(hc:(c.ev.getD v.toNat ⟨.empty,false,false,false,0⟩).co=false):∀l:LI,v∈l→(rfd c rs l).isSome=true
 | w::l,h=>by
  rw[rfd];split
  ·rfl
  rename_i h1;rcases Le.1 h with e|h
  ·subst e;exact absurd ⟨E,hc⟩ h1
  exact QeK E hc l h
theorem Qff {co:LI}{x:Nat→Int}{i:Int}(hi:i∈co):(co.map λi=>x i.toNat).getD ((co.idxOf i:Int)).toNat 0=x i.toNat:=by
 have hl:=LS hi;have e:(co.map λi=>x i.toNat).getD (co.idxOf i) 0=x ((co[co.idxOf i]'hl).toNat):=by
  rw[ZJ (by simpa using hl),LK]
 rw[M5]at e;rw[LU];exact e
theorem qu {n:Nat}{x:Nat→Int}{i:Nat}(h:i<n):(tpl n x).getD i 0=x i:=by
 unfold tpl;rw[ZJ (by simpa using h),LK,My]
theorem QkA {co:LI}{n:Nat}{x:Nat→Int}{nm:ByteArray}{q:Exc}(hc:∀l∈q.ls,l.1∈co∧0≤l.1∧l.1<(n:Int)):JT (co.map λi=>x i.toNat) ⟨nm,ixP co q.ls⟩=JT (tpl n x) q:=by
 have e:∀l∈q.ls,(co.map λi=>x i.toNat).getD ((co.idxOf l.1:Int)).toNat 0=(tpl n x).getD l.1.toNat 0:=λl hl=>by
  have:=hc l hl;rw[Qff this.1,qu (by omega)]
 unfold JT;rw[Bool.eq_iff_iff,LY,LY];constructor
 ·intro h l hl;have h1:=of_decide_eq_true (h (((co.idxOf l.1:Nat):Int),l.2) (Lq.2 ⟨l,hl,O⟩));refine decide_eq_true ?_;rw[←e l hl];exact h1
 intro h p hp;obtain⟨l,hl,rfl⟩:=Lq.1 hp;have h1:=of_decide_eq_true (h l hl);refine decide_eq_true ?_;show(co.map λi=>x i.toNat).getD ((co.idxOf l.1:Int)).toNat 0=l.2;rw[e l hl];exact h1
theorem Qez {co T T':LI}:∀(ls:List (Int×Int)) (s:Int),(∀l∈ls,T.getD ((co.idxOf l.1:Int)).toNat 0=T'.getD l.1.toNat 0)→(ixP co ls).foldl (λs p=>s+p.2*T.getD p.1.toNat 0) s=ls.foldl (λs p=>s+p.2*T'.getD p.1.toNat 0) s
 | [],_,_=>rfl
 | l::ls,s,h=>by
  show(ixP co ls).foldl (λs p=>s+p.2*T.getD p.1.toNat 0) (s+l.2*T.getD ((co.idxOf l.1:Int)).toNat 0)=ls.foldl (λs p=>s+p.2*T'.getD p.1.toNat 0) (s+l.2*T'.getD l.1.toNat 0);rw[h l Lm];exact Qez ls _ λl hl=>h l (Lk _ hl)
theorem QkB {co:LI}{n:Nat}{x:Nat→Int}{nm:ByteArray}{q:Ju}(hc:∀l∈q.ts,l.1∈co∧0≤l.1∧l.1<(n:Int)):Kv (co.map λi=>x i.toNat) ⟨nm,ixP co q.ts,q.bd⟩=Kv (tpl n x) q:=by
 have e:=Qez (co:=co) (T:=co.map λi=>x i.toNat) (T':=tpl n x) q.ts 0 (λl hl=>by
  have:=hc l hl;rw[Qff this.1,qu (by omega)])
 unfold Kv QnC;simp only[];rw[e]
theorem Qir (c:Q7)(m:YW):(Xb c m).co.length=m.co.length:=Km _ _
theorem QhU (c:Q7)(m:YW)(x:Nat→Int):((mI c m).map x).take (Xb c m).co.length=m.co.map λi=>x i.toNat:=by
 unfold mI;rw[Qir,Lx,Mf,List.take_append_of_le_length (by simp),Lp (by simp)];rfl
theorem QnR (c:Q7)(m:YW)(x:Nat→Int):((mI c m).map x).drop (Xb c m).co.length=(prt m).rq.map λi=>x (c.co.length+i.toNat):=by
 unfold mI;rw[Qir,Lx,Mf,List.drop_append_of_le_length (by simp),List.drop_eq_nil_of_le (by simp),Mr,Mf];rfl
theorem Qnw {c:Q7}{v:Int}(h:v∈unc c.ev):(c.ev.getD v.toNat ⟨.empty,false,false,false,0⟩).co=false:=by
 obtain⟨k,hk,e,h1⟩:=(JF _ _ _ _).1 h;rw[LR]at e;rw[e,LU,ZJ hk];simpa using h1
theorem Qpv {c:Q7}(h:TgP c){v:Int}(I:v∈evs (auts c.co))(E:∀a∈ZA c,QO a):v∈evs (ZA c):=by
 have J:=ZL h.d;have U:∀a∈auts c.co,QO a:=λa ha=>(J a (Ly _ ha)).ok;obtain⟨a,ha,G⟩:=(ZO U v).1 I;rw[yg]at ha;obtain⟨i,hi,rfl⟩:=Lq.1 ha;have Y:=Mb.1 hi;rcases Qiv h.d (i:=i) (by unfold Y9;omega)with⟨m,hm,V⟩|⟨_,H⟩
 ·have hS:=h.sup hm;refine(ZO E v).2 ⟨ql c m,Ly _ (Lq.2 ⟨m,hm,O⟩),?_⟩;rw[hS.1,(VB hS.2.2.1 hS.2.2.2.1 (mL c m)).al.trans hS.2.2.2.2.1.al];exact(ZO hS.2.2.2.2.2 v).2 ⟨cA c i,by rw[YZ h.d hm];exact Lq.2 ⟨i,V,O⟩,G⟩
 refine(ZO E v).2 ⟨coA c i,L9 _ (Lq.2 ⟨(i:Int),H,O⟩),?_⟩;rw[Qa2 H];exact G
theorem Qbq {n m:Nat}{x:Nat→Int}(h:m≤n):(tpl n x).take m=tpl m x:=by
 unfold tpl;rw[←List.map_take,List.take_range,Nd h]
theorem yb {o:LI}{i j:Nat}{v:Int}(h:i<o.length):cget (o.set i v) j=if j=i then v else cget o j:=by
 by_cases e:j=i
 ·rw[if_pos e,e];unfold cget;simp[List.getD,h]
 rw[if_neg e];unfold cget;simp[List.getD,List.getElem?_set_ne (Ne.symm e)]
theorem Qcg {es:List Ed}{e:Ed}{s:Nat}(he:e∈es)(h:e.2.2=(s:Int)):e.1∈ZC es s:=by
 unfold ZC;exact Lq.2 ⟨e,LJ.2 ⟨he,decide_eq_true h⟩,O⟩
structure BwF (n:Nat)(s:Int)(ps:LI)(z z':LI×LI):Prop where
 ok:yz n z'.1 z'.2
 cnt:neg z'.1+z'.2.length=neg z.1+z.2.length
 s0:Qc2 z'.1 z'.2
 ss:0≤cget z'.1 s.toNat
 a:∀p∈ps,0≤cget z'.1 p.toNat
 m:∀i,0≤cget z.1 i→0≤cget z'.1 i
 c:∀i:Nat,0≤cget z'.1 i→0≤cget z.1 i∨(i:Int)∈z'.2
 q:∀x∈z.2,x∈z'.2
theorem Qqa {n:Nat}{s p:Int}{z:LI×LI}(h:yz n z.1 z.2)(H:0≤cget z.1 s.toNat)(hp:0≤p∧p<(n:Int)):
  0≤cget (VU s z p).1 p.toNat∧(∀i,0≤cget z.1 i→0≤cget (VU s z p).1 i)∧(∀i:Nat,0≤cget (VU s z p).1 i→0≤cget z.1 i∨(i:Int)∈(VU s z p).2)∧∀x∈z.2,x∈(VU s z p).2:=by
 have E:p.toNat<z.1.length:=by have:=h.len;omega
 unfold VU;by_cases hc:cget z.1 p.toNat<0
 ·rw[if_pos hc];refine⟨?_,λi hi=>?_,λi hi=>?_,λx hx=>Ly _ hx⟩
  ·show 0≤cget (z.1.set p.toNat _) p.toNat;rw[yb E,if_pos rfl];omega
  ·show 0≤cget (z.1.set p.toNat _) i;rw[yb E];split <;> omega
  have G:0≤cget (z.1.set p.toNat (cget z.1 s.toNat+1)) i:=hi;rw[yb E]at G;by_cases e:i=p.toNat
  ·refine .inr (L9 _ ?_);rw[Lb];omega
  rw[if_neg e]at G;exact .inl G
 rw[if_neg hc];exact⟨by omega,λi h=>h,λi h=>.inl h,λx h=>h⟩
theorem bwF {n:Nat}{s:Int}(hs:0≤s∧s<(n:Int)):∀(ps:LI) (z:LI×LI),yz n z.1 z.2→Qc2 z.1 z.2→0≤cget z.1 s.toNat→(∀p∈ps,0≤p∧p<(n:Int))→BwF n s ps z (ps.foldl (VU s) z)
 | [],z,h,G,E,_=>⟨h,O,G,E,(λp hp=>(by cases hp)),λi h=>h,λi h=>.inl h,λx h=>h⟩
 | p::ps,z,h,G,E,H=>by
  have hp:=H p Lm;have h1:=Qd7 h hs E hp;have h2:=yi h E hp G;have h3:=Qqa h E hp;have ih:=bwF hs ps (VU s z p) h1.1 h2 h1.2.2 (λq hq=>H q (Lk _ hq));refine⟨ih.ok,ih.cnt.trans h1.2.1,ih.s0,ih.ss,λq hq=>?_,λi hi=>ih.m i (h3.2.1 i hi),λi hi=>?_,λx hx=>ih.q x (h3.2.2.2 x hx)⟩
  ·rcases Le.1 hq with rfl|hq
   ·exact ih.m _ h3.1
   exact ih.a q hq
  rcases ih.c i hi with h4|h4
  ·rcases h3.2.2.1 i h4 with h5|h5
   ·exact .inl h5
   exact .inr (ih.q _ h5)
  exact .inr h4
theorem QfO {n:Nat}{es:List Ed}(I:∀e∈es,0≤e.1∧e.1<(n:Int)∧0≤e.2.2∧e.2.2<(n:Int)):∀(f:Nat) (o q:LI),yz n o q→Qc2 o q→neg o+q.length≤f→(∀e∈es,0≤cget o e.2.2.toNat→0≤cget o e.1.toNat∨e.2.2∈q) →
  (∀e∈es,0≤cget (bwL es f o q) e.2.2.toNat→0≤cget (bwL es f o q) e.1.toNat)∧∀i,0≤cget o i→0≤cget (bwL es f o q) i
 | 0,o,q,_,_,J,G=>by
  have hq:q=[]:=Lr (by omega);subst hq;exact⟨λe he h=>(G e he h).resolve_right (by simp),λi h=>h⟩
 | f+1,o,[],_,_,_,G=>⟨λe he h=>(G e he h).resolve_right (by simp),λi h=>h⟩
 | f+1,o,s::q,H,U,J,G=>by
  have hs:=H.q s Lm;have E:=bwF hs (ZC es s.toNat) (o,q) ⟨H.len,λx hx=>H.q x (Lk _ hx),H.le⟩ (λx hx=>U x (Lk _ hx)) (U s Lm) (λp hp=>by
   obtain⟨e,he,h1,_⟩:=X7 hp;have:=I e he;omega)
  have hc:=E.cnt;simp only[List.length_cons]at J hc;have ih:=QfO I f _ _ E.ok E.s0 (by omega) (λe he hx=>?_)
  ·rw[bwL];exact⟨ih.1,λi hi=>ih.2 i (E.m i hi)⟩
  have V:=I e he;by_cases e1:e.2.2=s
  ·exact .inl (E.a _ (Qcg he (by rw[e1];omega)))
  rcases E.c _ hx with h1|h1
  ·rcases G e he h1 with h2|h2
   ·exact .inl (E.m _ h2)
   rcases Le.1 h2 with h3|h3
   ·exact absurd h3 e1
   exact .inr (E.q _ h3)
  rw[show((e.2.2.toNat:Nat):Int)=e.2.2 by omega]at h1;exact .inr h1
theorem QmH {a:QD}(E:QO a){n:Nat}(H:a.st=(n:Int)):(∀e∈a.ed,0≤cget (bwd n a.ed a.mr) e.2.2.toNat→0≤cget (bwd n a.ed a.mr) e.1.toNat)∧∀x∈a.mr,0≤cget (bwd n a.ed a.mr) x.toNat:=by
 have hb:∀x∈a.mr,0≤x∧x<(n:Int):=λx hx=>by have:=E.mr x hx;omega
 have G:=QdE (Vm n a.mr);rw[YK]at G;have h:=QfO (es:=a.ed) (λe he=>by have:=E.ed e he;omega) (n+a.mr.length) (Vm n a.mr) a.mr (Qd8 hb) (λx hx=>by rw[qK (hb x hx) hx];exact MH _) (by omega) (λe he hx=>.inr ?_)
 ·exact⟨h.1,λx hx=>h.2 _ (by rw[qK (hb x hx) hx];exact MH _)⟩
 have I:=E.ed e he;have hl:e.2.2.toNat<(Vm n a.mr).length:=by rw[YK];omega
 rw[←Q8 hl]at hx;have e1:((e.2.2.toNat:Nat):Int)=e.2.2:=by omega
 simp only[Vm,List.getElem_map,List.getElem_range,e1]at hx;split at hx
 ·assumption
 omega
theorem QbO {a:QD}{ul:LI}:∀(f:Nat) (lf:Lf),KX lf<f→(nxs a ul (Kx a ul f lf)).length=0
 | 0,_,h=>by omega
 | f+1,lf,h=>by
  by_cases h1:(nxs a ul lf).length=0
  ·rw[Kx,if_pos h1];exact h1
  rw[UF h1];have:=zn h1;exact QbO f _ (by omega)
theorem QhK (a:QD)(ul:LI):(nxs a ul (Xj a [] ul)).length=0:=by
 refine QbO _ _ ?_;have h:=Qa3 (lf0 a.st.toNat []);have:(lf0 a.st.toNat []).length=a.st.toNat:=by simp[lf0]
 omega
theorem Qa8 {lf:Lf}:∀(l:LI) (i k:Nat),k<l.length→lf.getD (i+k) false=true→cget l k<0→((i+k:Nat):Int)∈Jn lf i l
 | [],_,k,h,_,_=>by simp at h
 | d::l,i,0,_,h1,h2=>by
  have h3:d<0:=h2;rw[Jn,if_pos ⟨by simpa using h1,h3⟩];simp
 | d::l,i,k+1,h,h1,h2=>by
  have h3:=Qa8 l (i+1) k (by simpa using h) (by rw[show i+1+k=i+(k+1) by omega];exact h1) h2;rw[show i+1+k=i+(k+1) by omega]at h3;rw[Jn];split
  ·exact Lk _ h3
  exact h3
structure DsQ (a:QD)(lf:Lf)(z:LI×LI):Prop where
 q:∀k,(h:k<z.2.length)→lft lf (z.2[k]'h)=true∧(z.2[k]'h∈a.mr∨∃j,∃hj:j<z.2.length,j<k∧∃v,(z.2[k]'h,v,z.2[j]'hj)∈a.ed)
 r:∀i:Nat,0≤cget z.1 i→i<z.1.length→(i:Int)∈z.2
theorem DsQ.add {a:QD}{lf:Lf}{z:LI×LI}{x y:Int}{i:Nat}(h:DsQ a lf z)(hi:i<z.2.length)(hx:z.2[i]'hi=x)(hy:0≤y)(he:∃v,(y,v,x)∈a.ed):
  DsQ a lf (KW lf x z y)∧∃J:i<(KW lf x z y).2.length,(KW lf x z y).2[i]'J=x:=by
 unfold KW;by_cases hc:lft lf y=true∧cget z.1 y.toNat<0
 ·rw[if_pos hc];refine⟨⟨λk hk=>?_,λj hj H=>?_⟩,by simp;omega,by simp only[];rw[LZ hi];exact hx⟩
  ·simp only[List.length_append,List.length_singleton]at hk;by_cases e:k=z.2.length
   ·subst e;simp only[List.getElem_append_right (Nat.le_refl _),Nat.sub_self,List.getElem_cons_zero];refine⟨hc.1,.inr ⟨i,by simp;omega,hi,?_⟩⟩;obtain⟨v,E⟩:=he;exact⟨v,by rw[LZ hi,hx];exact E⟩
   have I:k<z.2.length:=by omega
   simp only[List.getElem_append_left I];obtain⟨h1,h2⟩:=h.q k I;refine⟨h1,h2.imp id ?_⟩;rintro⟨j,hj,U,v,E⟩;exact⟨j,by simp;omega,U,v,by rw[LZ hj];exact E⟩
  simp only[List.length_set]at H;by_cases e:j=y.toNat
  ·refine L9 _ ?_;rw[Lb];omega
  refine Ly _ (h.r j ?_ H);have G:0≤cget (z.1.set y.toNat (cget z.1 x.toNat+1)) j:=hj;unfold cget at G ⊢;rw[LD,MR (Ne.symm e),←LD]at G;exact G
 rw[if_neg hc];exact⟨h,hi,hx⟩
theorem DsQ.adds {a:QD}{lf:Lf}{x:Int}{i:Nat}:∀(E:LI) (z:LI×LI),DsQ a lf z→(hi:i<z.2.length)→z.2[i]'hi=x→(∀y∈E,0≤y∧∃v,(y,v,x)∈a.ed)→DsQ a lf (E.foldl (KW lf x) z)
 | [],_,h,_,_,_=>h
 | y::E,z,h,hi,hx,hy=>by
  have h1:=h.add hi hx (hy y Lm).1 (hy y Lm).2;obtain⟨h2,G,H⟩:=h1;exact DsQ.adds E _ h2 G H (λq hq=>hy q (Lk _ hq))
theorem Qfy {a:QD}(H:QO a){lf:Lf}:∀(f i:Nat) (z:LI×LI),DsQ a lf z→(∀x∈z.2,0≤x)→DsQ a lf (qJ a.ed lf f i z)
 | 0,_,z,h,_=>h
 | f+1,i,z,h,I=>by
  rw[qJ];split
  ·rename_i hi;have hx:z.2[i]'hi=cget z.2 i:=Q8 hi;have J:=I _ (Lc hi);rw[hx]at J;refine Qfy H f (i+1) _ (h.adds (i:=i) _ _ hi hx (λy hy=>?_)) (λx U=>?_)
   ·obtain⟨e,he,h1,h2⟩:=X7 hy;have V:=H.ed e he;rw[show(((cget z.2 i).toNat:Nat):Int)=cget z.2 i by omega]at h2;exact⟨by omega,e.2.1,by rw[←h1,←h2];exact he⟩
   have key:∀(E:LI) (z:LI×LI),(∀y∈E,0≤y)→(∀x∈z.2,0≤x)→∀x∈(E.foldl (KW lf (cget z.2 i)) z).2,0≤x:=by
    intro E z;generalize cget z.2 i=x0;intro hy G;have k2:∀(E:LI) (z:LI×LI),(∀y∈E,0≤y)→(∀x∈z.2,0≤x)→∀x∈(E.foldl (KW lf x0) z).2,0≤x:=by
     intro E;induction E with
     | nil=>intro z _ G;exact G
     | cons y E ih =>
      intro z hy G;rw[LM];refine ih _ (λq hq=>hy q (Lk _ hq)) (λx hx=>?_);unfold KW at hx;split at hx
      ·rcases Lo.1 hx with hx|hx
       ·exact G x hx
       rw[Lb.1 hx];exact hy y Lm
      exact G x hx
    exact k2 E z hy G
   exact key _ z (λy hy=>by
    obtain⟨e,he,h1,_⟩:=X7 hy;have:=(H.ed e he).1;omega) I x U
  exact h
theorem Qjz {a:QD}(G:QO a)(lf:Lf):DsQ a lf (jG a lf)∧∀x∈(jG a lf).2,0≤x:=by
 rw[UT (λx hx=>(G.mr x hx).1)];refine⟨⟨λk hk=>?_,λi hi E=>?_⟩,λx hx=>(G.mr x (LJ.1 hx).1).1⟩
 ·have:=LJ.1 (Lc hk);exact⟨this.2,.inl this.1⟩
 simp only[]at hi E;rw[←Q8 E]at hi;rw[YK]at E;simp only[Vm,List.getElem_map,List.getElem_range]at hi;split at hi
 ·assumption
 omega
theorem UM:∀{aa:List QD}{t:LI},t.length=aa.length→(YT aa t=true↔∀i (h:i<aa.length),cget t i∈(aa[i]'h).mr)
 | [],[],_=>⟨λ_ i h=>absurd h (Me i),λ_=>O⟩
 | a::aa,x::t,hl=>by
  have ih:=UM (aa:=aa) (t:=t) (by simpa using hl);rw[YT,Lt,decide_eq_true_iff,ih];constructor
  ·rintro⟨h1,h2⟩ i hi;cases i with
   | zero=>exact h1
   | succ i=>exact h2 i (by simpa using hi)
  intro h;exact⟨h 0 (by simp),λi hi=>h (i+1) (by simpa using hi)⟩
theorem Qa0 {es:List Ed}{lf:Lf}:∀(f i:Nat) (z:LI×LI),(qJ es lf f i z).1.length=z.1.length
 | 0,_,_=>rfl
 | f+1,i,z=>by
  rw[qJ];split
  ·rw[Qa0 f];have k2:∀(x:Int) (E:LI) (z:LI×LI),(E.foldl (KW lf x) z).1.length=z.1.length:=by
    intro x E;induction E with
    | nil=>intro z;rfl
    | cons y E ih2 =>
     intro z;rw[LM,ih2];unfold KW;split
     ·simp
     rfl
   exact k2 _ _ _
  rfl
theorem QiI {a:QD}(G:QO a){fb ul:LI}{T:Nat→Prop}(hm:∀s:Nat,lft (Xj a fb ul) s=true→(s:Int)∈a.mr→T s)(U:∀(s u:Nat) (v:Int),lft (Xj a fb ul) s=true→lft (Xj a fb ul) u=true→((s:Int),v,(u:Int))∈a.ed→T u→T s):
  ∀s:Nat,(s:Int)<a.st→lft (Xj a fb ul) s=true→T s:=by
 have E:=QhE a fb ul;have hb:(Jn (Xj a fb ul) 0 (dsts a (Xj a fb ul))).length=0:=by
  unfold nxs at E;by_cases h1:(lost a ul (Xj a fb ul)).length≠0
  ·rw[if_pos h1,Lh]at E;exact absurd E h1
  rw[if_neg h1]at E;exact E
 generalize Xj a fb ul=lf at *;have hd:=Qjz G lf;have hq:DsQ a lf (qJ a.ed lf a.st.toNat 0 (jG a lf)):=Qfy G _ _ _ hd.1 hd.2;have V:(dsts a lf).length=a.st.toNat:=by
  unfold dsts;rw[Qa0,UT (λx hx=>(G.mr x hx).1)];exact YK _ _
 have I:dsts a lf=(qJ a.ed lf a.st.toNat 0 (jG a lf)).1:=rfl;generalize qJ a.ed lf a.st.toNat 0 (jG a lf)=z at hq I;have Y:∀n k,k<n→(hk:k<z.2.length)→∀s:Nat,z.2[k]'hk=(s:Int)→T s:=by
  intro n;induction n with
  | zero=>intro k h;omega
  | succ n ih =>
   intro k he hk s hs;obtain⟨h1,h2⟩:=hq.q k hk;rw[hs]at h1 h2;rcases h2 with h2|⟨j,hj,hf,v,H⟩
   ·exact hm s h1 h2
   have hu:=(G.ed _ H).2.2.2;have hg:0≤z.2[j]'hj∧z.2[j]'hj<a.st:=hu;have eu:z.2[j]'hj=((z.2[j]'hj).toNat:Int):=by omega
   have hl:=(hq.q j hj).1;have hT:=ih j (by omega) hj _ eu;rw[eu]at H hl;exact U s _ v h1 hl H hT
 intro s hs hl;have J:0≤cget (dsts a lf) s:=by
  refine Decidable.byContradiction λhn=>?_;have:=Qa8 (lf:=lf) (dsts a lf) 0 s (by omega) (by rw[LR];exact hl) (by omega);have:=List.length_pos_of_mem this;omega
 rw[I]at J V;have ha:=hq.r s J (by omega);obtain⟨k,hk,hc⟩:=LB ha;exact Y (k+1) k (by omega) hk s hc
section
variable {c:Q7}(h:Jc c)
abbrev plA (c:Q7):QD:=yI (auts c.co)
abbrev plQ (c:Q7):List (LI):=Jo (auts c.co)
abbrev spQ (c:Q7):List (LI):=Jo (auts c.co++auts c.rq)
abbrev suL (c:Q7):Lf:=Xj (spc c).a (fbs (spc c)) (unc c.ev)
include h in
theorem QeT:QO (plA c):=(Y1 h).2.1.okay λa ha=>(ZL h a (Ly _ ha)).ok
include h in
theorem Xv:QO (spc c).a:=(Y1 h).1.okay λa ha=>(ZL h a ha).ok
end
theorem Qcv {lf:Lf}{x y:Int}{z:LI×LI}{j:Nat}(E:0≤cget z.1 x.toNat)(h:0≤cget z.1 j):0≤cget (KW lf x z y).1 j:=by
 unfold KW;split
 ·show 0≤cget (z.1.set y.toNat (cget z.1 x.toNat+1)) j;unfold cget at *;rw[LD,List.getElem?_set];split
  ·split
   ·show 0≤z.1.getD x.toNat 0+1;omega
   exact MH _
  rw[←LD];exact h
 exact h
theorem Qmp {lf:Lf}{x y:Int}{z:LI×LI}(G:0≤cget z.1 x.toNat)(hl:lft lf y=true):0≤cget (KW lf x z y).1 y.toNat:=by
 by_cases hc:cget z.1 y.toNat<0
 ·have E:y.toNat<z.1.length:=Decidable.byContradiction λH=>by
   unfold cget at hc;rw[LD,M2 (by omega)]at hc;exact absurd hc (by decide)
  unfold KW;rw[if_pos ⟨hl,hc⟩];show 0≤cget (z.1.set y.toNat (cget z.1 x.toNat+1)) y.toNat;unfold cget at *;rw[LD,List.getElem?_set,if_pos rfl,if_pos E];show 0≤z.1.getD x.toNat 0+1;omega
 unfold KW;rw[if_neg λh=>hc h.2];omega
theorem Qcu {lf:Lf}{x:Int}:∀(l:LI) (z:LI×LI),0≤cget z.1 x.toNat→(∀j,0≤cget z.1 j→0≤cget (l.foldl (KW lf x) z).1 j)∧∀y∈l,lft lf y=true→0≤cget (l.foldl (KW lf x) z).1 y.toNat
 | [],_,_=>⟨λ_ h=>h,λy hy=>by cases hy⟩
 | y::l,z,E=>by
  have ih:=Qcu (lf:=lf) l (KW lf x z y) (Qcv E E);refine⟨λj hj=>ih.1 j (Qcv E hj),λu hu hl=>?_⟩;rcases Le.1 hu with rfl|hu
  ·exact ih.1 _ (Qmp E hl)
  exact ih.2 u hu hl
theorem Qjx {a:QD}(H:QO a){n:Nat}(I:a.st=(n:Int)){lf:Lf}:∀(f i:Nat) (z:LI×LI),DsI n z→n≤i+f→(∀e∈a.ed,lft lf e.1=true→∀k,k<i→z.2[k]?=some e.2.2→0≤cget z.1 e.1.toNat) →
  (∀j,0≤cget z.1 j→0≤cget (qJ a.ed lf f i z).1 j)∧∀e∈a.ed,lft lf e.1=true→e.2.2∈(qJ a.ed lf f i z).2→0≤cget (qJ a.ed lf f i z).1 e.1.toNat
 | 0,i,z,E,V,hc=>⟨λ_ h=>h,λe he hl hm=>by
  obtain⟨k,hk,e1⟩:=LB (show e.2.2∈z.2 from hm);have:=E.le;exact hc e he hl k (by omega) (by rw[LE hk,e1])⟩
 | f+1,i,z,E,V,hc=>by
  rw[qJ];split
  ·rename_i hi;have hx:cget z.2 i=z.2[i]'hi:=(Q8 hi).symm;have J:=Lc hi;have Y:=E.ok.q _ J;have U:=E.s0 _ J;rw[hx];generalize ha:z.2[i]'hi=x at *;have hb:∀y∈ZC a.ed x.toNat,0≤y∧y<(n:Int):=λy hy=>by
    obtain⟨e,he,h1,_⟩:=X7 hy;have:=(H.ed e he);rw[←I,←h1];exact⟨this.1,this.2.1⟩
   obtain⟨h1,r,h2⟩:=Qfz (lf:=lf) Y _ z E U hb;have h3:=Qcu (lf:=lf) (x:=x) (ZC a.ed x.toNat) z U;have ih:=Qjx H I (lf:=lf) f (i+1) _ h1 (by omega) (λe he hl k hk G=>by
    rw[h2,L5 (by omega)]at G;by_cases hh:k=i
    ·subst hh;rw[LE hi,ha]at G;have hp:=Option.some.inj G;exact h3.2 e.1 (Qcg he (by rw[←hp];omega)) hl
    exact h3.1 _ (hc e he hl k (by omega) G))
   exact⟨λj hj=>ih.1 j (h3.1 j hj),ih.2⟩
  rename_i hi;refine⟨λ_ h=>h,λe he hl hm=>?_⟩;obtain⟨k,hk,e1⟩:=LB hm;exact hc e he hl k (by omega) (by rw[LE hk,e1])
inductive WR (a:QD) (G:Nat→Prop):Nat→Prop
 | mk {s:Nat}:(s:Int)∈a.mr→WR a G s
 | st {s u:Nat} {v:Int}:((s:Int),v,(u:Int))∈a.ed→G u→WR a G u→WR a G s
theorem Qnp {a:QD}(E:QO a)(hp:0≤a.st){G:Nat→Prop}{lf:Lf}(J:∀s,G s→lft lf s=true){s:Nat}(h:WR a G s)(hs:lft lf s=true):0≤cget (dsts a lf) s:=by
 have H:a.st=((a.st.toNat:Nat):Int):=by omega
 have hd:=QjA (lf:=lf) E H;have I:=Qjz E lf;have hq:DsQ a lf (qJ a.ed lf a.st.toNat 0 (jG a lf)):=Qfy E _ _ _ I.1 I.2;have hc:=Qjx E H (lf:=lf) a.st.toNat 0 (jG a lf) hd (by omega) (λe he hl k hk=>by omega);have U:(qJ a.ed lf a.st.toNat 0 (jG a lf)).1.length=a.st.toNat:=by
  rw[Qa0,UT (λx hx=>(E.mr x hx).1)];exact YK _ _
 unfold dsts;induction h with
 | @mk s hm =>
  refine hc.1 _ ?_;have:(s:Int)∈(jG a lf).2:=by
   rw[UT (λx hx=>(E.mr x hx).1)];exact LJ.2 ⟨hm,hs⟩
  have:=hd.s0 _ this;simpa using this
 | @st s u v he hu _ ih =>
  have h1:=ih (J u hu);have h2:=(E.ed _ he).2.2.2;have V:0≤(u:Int)∧(u:Int)<a.st:=h2;have h3:=hq.r u h1 (by omega);have h4:=hc.2 _ he hs h3;simpa using h4
theorem Qlx {a:QD}{ul:LI}{lf:Lf}{p:Int×Int}(hp:p∈lost a ul lf):∃e∈a.ed,e.1=p.1∧lft lf e.2.2=false∧e.2.1∈ul:=by
 have key:∀(l:List Ed) (out:List (Int×Int)),(∀e∈l,e∈a.ed)→(∀p∈out,∃e∈a.ed,e.1=p.1∧lft lf e.2.2=false∧e.2.1∈ul)→∀p∈l.foldl (X1 ul lf) out,∃e∈a.ed,e.1=p.1∧lft lf e.2.2=false∧e.2.1∈ul:=by
  intro l;induction l with
  | nil=>intro out _ h;exact h
  | cons e l ih =>
   intro out hl h;refine ih _ (λe he=>hl e (Lk _ he)) λp hp=>?_;unfold X1 at hp;split at hp
   ·exact h p hp
   rename_i hc;split at hp
   ·exact h p hp
   rcases Lo.1 hp with hp|hp
   ·exact h p hp
   rw[Lb.1 hp];refine⟨e,hl e Lm,O,?_,?_⟩
   ·cases hb:lft lf e.2.2 with
    | false=>rfl
    | true=>exact absurd (.inr (.inl hb)) hc
   exact Decidable.byContradiction λE=>hc (.inr (.inr E))
 exact key a.ed [] (λ_ h=>h) (λp hp=>by cases hp) p hp
theorem QfQ {lf:Lf}{x:Int}:∀(l:LI) (i:Nat),x∈Jn lf i l→∃k,x=((i+k:Nat):Int)∧k<l.length∧cget l k<0
 | [],_,h=>by cases h
 | d::l,i,h=>by
  have go:x∈Jn lf (i+1) l→∃k,x=((i+k:Nat):Int)∧k<(d::l).length∧cget (d::l) k<0:=λh=>by
   obtain⟨k,h1,h2,h3⟩:=QfQ l (i+1) h;exact⟨k+1,by rw[h1];congr 1;omega,by simpa using h2,h3⟩
  rw[Jn]at h;split at h
  ·rename_i hc;rcases Le.1 h with h|h
   ·exact⟨0,h,by simp,hc.2⟩
   exact go h
  exact go h
theorem zu {s:Nat}:∀(xs:LI) (l:Lf),lft l s=true→(∀x∈xs,x.toNat≠s)→lft (xs.foldl cut l) s=true
 | [],_,h,_=>h
 | x::xs,l,h,E=>by
  refine zu xs (cut l x) ?_ λy hy=>E y (Lk _ hy);unfold lft cut at *;rw[LD,List.getElem?_set,if_neg (by have:=E x Lm;omega),←LD];exact h
theorem QiH {a:QD}(H:QO a){fb ul:LI}{G:Nat→Prop}(I:∀s,G s→(s:Int)<a.st)(U:∀s,G s→∀x∈fb,x.toNat≠s)
  (V:∀(s:Nat) (v u:Int),G s→((s:Int),v,u)∈a.ed→v∈ul→G u.toNat) (Y:∀s,G s→WR a G s):∀s,G s→lft (Xj a fb ul) s=true:=by
 have step:∀lf:Lf,(∀s,G s→lft lf s=true)→∀s,G s→∀x∈nxs a ul lf,x.toNat≠s:=λlf E s hs x hx e=>by
  unfold nxs at hx;split at hx
  ·obtain⟨p,hp,e1⟩:=Lq.1 hx;obtain⟨d,hd,h1,h2,h3⟩:=Qlx hp;have J:=(H.ed d hd);have e2:d=((s:Int),d.2.1,d.2.2):=by
    have:d.1=(s:Int):=by rw[h1,e1];have:=J.1;rw[h1,e1]at this;omega
    rw[←this]
   rw[e2]at hd;have h4:=E _ (V s _ _ hs hd h3);have h5:((d.2.2.toNat:Nat):Int)=d.2.2:=by have:=J.2.2.2.1;omega
   rw[h5,h2]at h4;cases h4
  obtain⟨k,h1,h2,h3⟩:=QfQ _ 0 hx;have hk:k=s:=by omega
  subst hk;have:=Qnp H (by have:=I k hs;omega) E (Y k hs) (E k hs);omega
 have main:∀(f:Nat) (lf:Lf),(∀s,G s→lft lf s=true)→∀s,G s→lft (Kx a ul f lf) s=true:=by
  intro f;induction f with
  | zero=>intro lf h;exact h
  | succ f ih =>
   intro lf h;rw[Kx];split
   ·exact h
   exact ih _ λs hs=>zu _ _ (h s hs) (step lf h s hs)
 refine main _ _ λs hs=>zu _ _ ?_ (U s hs);have:=I s hs;unfold lft;have h2:s<a.st.toNat:=by omega
 simp[List.getD,h2]
def PsC (c:Q7):Prop:=∀i j:Nat,i<c.co.length→j<c.co.length→i≠j→∀v,v∈(cA c i).al→v∉(cA c j).al
abbrev WhR (c:Q7)(x:Nat→Int)(y:Int):Prop:=yu (spc c).a (spQ c) (suL c) (tpl (Y9 c) x) y
theorem yu.go {aa:List QD}{B:QD}{Q:List (LI)}{lf:Lf}(ha:∀a∈aa,QO a)(hS:yV aa B Q)(I:QO B)(hp:0<B.st){q G:LI}{y v:Int}(h:yu B Q lf q y)(hq:Za v aa q=some G)(hl:lft lf (Q.idxOf G)=true):
  ∃E,pst v (ZY (rstr B lf)) y=some E∧yu B Q lf G E:=by
 have V:=h;obtain⟨j,s,e0,h1,h2,h3,h4,h5⟩:=h;have hC:=VB I hp lf;have Y:(ZY (rstr B lf)).al=evs aa:=hC.al.trans hS.al;have hb:∃E,pst v (ZY (rstr B lf)) y=some E:=by
  unfold pst;by_cases H:v∈(ZY (rstr B lf)).al
  ·rw[if_pos H];rw[Y]at H;have J:=hS.step h3 v;rw[if_pos H,h5,hq]at J;have he:=Z0 (show eget B.ed (s:Int) v=some (Q.idxOf G:Int) from J);have hr:((s:Int),v,(Q.idxOf G:Int))∈(rstr B lf).ed:=LJ.2 ⟨he,hl⟩;rw[e0,hC.step h1 v,h2,Un (X4 I _).edi hr];exact⟨_,O⟩
  rw[if_neg H];exact⟨_,O⟩
 obtain⟨E,hy⟩:=hb;obtain⟨q2,U,hc⟩:=yu.step ha hS I hp V hy;rw[hq]at U;rw[Option.some.inj U];exact⟨E,hy,hc⟩
theorem QkQ {c:Q7}{x:Nat→Int}{v:Int}(E:∀i,i<Y9 c→(pst v (cA c i) (x i)).isSome=true):Za v (auts c.co++auts c.rq) (tpl (Y9 c) x)=some (tpl (Y9 c) (nx v (cA c) x)):=by
 rw[Qd4];exact Je λi hi=>E i (Mb.1 hi)
theorem QbE {c:Q7}{x:Nat→Int}{v:Int}{u:LI}(h:Za v (auts c.co++auts c.rq) (tpl (Y9 c) x)=some u):u=tpl (Y9 c) (nx v (cA c) x)∧∀i,i<Y9 c→(pst v (cA c i) (x i)).isSome=true:=by
 rw[Qd4]at h;obtain⟨h1,h2⟩:=Vb h;exact⟨h1,λi hi=>h2 i (Mb.2 hi)⟩
theorem QeI {v:Int}:∀{l:List Yk}{ss:LI}{i k:Nat}(hk:k<l.length),ss.length=l.length→v∈(l[k]'hk).a.al→(eget (l[k]'hk).a.ed (cget ss k) v).isSome=false→0≤rfr v i l ss
 | [],_,_,k,hk,_,_,_=>absurd hk (Me k)
 | _::_,[],_,_,_,hl,_,_=>by simp at hl
 | y::l,s::ss,i,k,hk,hl,h1,h2=>by
  rw[q8];split
  ·omega
  rename_i hc;cases k with
  | zero=>exact absurd ⟨h1,h2⟩ hc
  | succ k=>exact QeI (l:=l) (ss:=ss) (k:=k) (by simpa using hk) (by simpa using hl) h1 h2
theorem QeH {v:Int}:∀{l:List Yk}{ss:LI}{i:Nat},0≤rfr v i l ss→∃k,∃hk:k<l.length,v∈(l[k]'hk).a.al∧(eget (l[k]'hk).a.ed (cget ss k) v).isSome=false
 | [],_,_,h=>absurd (show(0:Int)≤-1 from h) (by decide)
 | _::_,[],_,h=>absurd (show(0:Int)≤-1 from h) (by decide)
 | y::l,s::ss,i,h=>by
  rw[q8]at h;split at h
  ·rename_i hc;exact⟨0,by simp,hc⟩
  obtain⟨k,hk,h1⟩:=QeH (l:=l) (ss:=ss) h;exact⟨k+1,by simpa using hk,h1⟩
theorem QeJ {c:Q7}{rs:LI}:∀{l:LI},(rfd c rs l).isSome=true→∃v∈l,0≤rfr v 0 c.rq rs∧(c.ev.getD v.toNat ⟨.empty,false,false,false,0⟩).co=false
 | [],h=>by cases h
 | w::l,h=>by
  rw[rfd]at h;split at h
  ·rename_i hc;exact⟨w,Lm,hc⟩
  obtain⟨v,E,h1⟩:=QeJ (l:=l) h;exact⟨v,Lk _ E,h1⟩
theorem Ql4 {c:Q7}(h:Jc c){x:Int}(hx:x∈fbs (spc c)):∃s:Nat,x=s∧s<(spQ c).length∧((vio c (((spQ c).getD s []).take c.co.length)).isSome=true∨(rfd c (((spQ c).getD s []).drop c.co.length) (qn (plA c) (plx (plQ c) (((spQ c).getD s []).take c.co.length)))).isSome=true):=by
 have he:=(Y1 h).2.2.2.2;unfold fbs at hx;rw[he]at hx;obtain⟨r,G,e⟩:=Lq.1 hx;unfold spF at G;obtain⟨p,hp,E⟩:=MG.1 G;obtain⟨t,s⟩:=p;have hs:=List.mem_zipIdx_iff_getElem?.1 hp;have H:=(L7.1 hs).1;have ht:(spQ c).getD s []=t:=by rw[LD,hs];rfl
 have h1:=QnL E;refine⟨s,by rw[←e,h1.1],H,?_⟩;rw[ht];unfold rsn at E;split at E
 ·rename_i e1;left;show(vio c (t.take c.co.length)).isSome=true;rw[show vio c (t.take c.co.length)=_ from e1];rfl
 split at E
 ·rename_i e2;right;show(rfd c (t.drop c.co.length) _).isSome=true;rw[show rfd c (t.drop c.co.length) (qn (plA c) (plx (plQ c) (t.take c.co.length)))=_ from e2];rfl
 cases E
section
variable {c:Q7}
theorem Qbr (x:Nat→Int):(tpl (Y9 c) x).drop c.co.length=(List.range c.rq.length).map λk=>x (c.co.length+k):=by
 refine LT (by unfold tpl Y9;simp) λi h1 h2=>?_;rw[List.getElem_drop,LK,My];unfold tpl;rw[LK,My]
theorem WhR.free (h:Jc c){x:Nat→Int}{y:Int}(E:WhR c x y):vio c (tpl c.co.length x)=none∧rfd c ((tpl (Y9 c) x).drop c.co.length) (qn (plA c) (plx (plQ c) (tpl c.co.length x)))=none∧tpl (Y9 c) x∈spQ c:=by
 obtain⟨j,s,_,_,_,h3,h4,h5⟩:=E;have G:(s:Int)∉fbs (spc c):=λH=>Qob h4 _ H O;have h6:∀e:(rsn c (plA c) (plx (plQ c) (((spQ c).getD s []).take c.co.length)) s ((spQ c).getD s [])).isSome=true,False:=λe=>G (Qow h h3 e);have ht:(tpl (Y9 c) x).take c.co.length=tpl c.co.length x:=Qbq (by unfold Y9;omega);rw[h5,ht]at h6;refine⟨?_,?_,by rw[←h5];exact(Yp h3).2⟩
 ·cases e:vio c (tpl c.co.length x)with
  | none=>rfl
  | some p=>exact absurd (Qk2 (by rw[ht,e];rfl)) h6
 cases e:rfd c ((tpl (Y9 c) x).drop c.co.length) (qn (plA c) (plx (plQ c) (tpl c.co.length x)))with
 | none=>rfl
 | some p=>exact absurd (Qk3 (by rw[e];rfl)) h6
theorem QoC (h:Jc c){v:Int}{i:Nat}(hi:i<c.co.length)(E:v∈(cA c i).al)(G:(c.ev.getD v.toNat ⟨.empty,false,false,false,0⟩).co=false):v∈unc c.ev:=by
 rw[QcO hi]at E;have hm:c.co.getD i dI∈c.co:=by rw[ZJ hi];exact Lc hi
 have h1:=h.co _ hm;have h2:=h1.2.2 v E;have h3:=(h1.2.1.ok.al v E).1;have hl:=h.ev.1;refine(JF _ _ _ _).2 ⟨v.toNat,by omega,by omega,?_⟩;rw[ZJ (by omega)]at G;rw[G];rfl
theorem QpE (h:Jc c){x:Nat→Int}(E:tpl c.co.length x∈plQ c){v:Int}(G:∃i,i<c.co.length∧v∈(cA c i).al)(H:∀i,i<c.co.length→(pst v (cA c i) (x i)).isSome=true):v∈qn (plA c) (plx (plQ c) (tpl c.co.length x)):=by
 have I:=(Y1 h).2.1;have J:=ZL h;have U:∀a∈auts c.co,QO a:=λa ha=>(J a (Ly _ ha)).ok;obtain⟨p1,p2,p3⟩:=Qh1 h E;obtain⟨i,hi,V⟩:=G;refine(Qjq (QeT h) _ v).2 ?_;have Y:Za v (auts c.co) (tpl c.co.length x)=some (tpl c.co.length (nx v (cA c) x)):=by
  rw[yg];exact Je λi hi=>H i (Mb.1 hi)
 have hb:v∈evs (auts c.co):=(ZO U v).2 ⟨cA c i,by rw[yg];exact Lq.2 ⟨i,Mb.2 hi,O⟩,V⟩;rw[p1,I.step p2 v,p3,if_pos hb,Y];rfl
theorem WhR.all (h:Jc c){x:Nat→Int}{y:Int}(I:WhR c x y){v:Int}(J:(c.ev.getD v.toNat ⟨.empty,false,false,false,0⟩).co=false)(U:∃i,i<c.co.length∧v∈(cA c i).al)(E:∀i,i<c.co.length→(pst v (cA c i) (x i)).isSome=true):
  ∀i,i<Y9 c→(pst v (cA c i) (x i)).isSome=true:=λi hi=>by
 by_cases V:i<c.co.length
 ·exact E i V
 obtain⟨_,h2,h3⟩:=I.free h;have G:=(Qna h _ h3).2;rw[Qbq (show c.co.length≤Y9 c by unfold Y9;omega)]at G;have Y:=QpE h G U E;have hk:i - c.co.length<c.rq.length:=by unfold Y9 at hi;omega
 have ei:c.co.length+(i - c.co.length)=i:=by omega
 cases hp:pst v (cA c i) (x i)with
 | some _=>rfl
 | none =>
  exfalso;rw[←ei,QjV hk]at hp;unfold pst at hp;split at hp
  ·rename_i H;have ha:0≤rfr v 0 c.rq ((tpl (Y9 c) x).drop c.co.length):=by
    rw[ZJ hk]at H hp;refine QeI hk ?_ H ?_
    ·rw[Qbr];simp
    rw[Qbr,ye (by simpa using hk),My,hp];rfl
   have h4:=QeK (c:=c) ha J _ Y;rw[h2]at h4;cases h4
  cases hp
theorem WhR.unc (h:Jc c){x:Nat→Int}{y:Int}(E:WhR c x y){v:Int}(J:v∈unc c.ev)(U:∃i,i<c.co.length∧v∈(cA c i).al)(V:∀i,i<Y9 c→(pst v (cA c i) (x i)).isSome=true):
  ∃y',pst v (ZY (rstr (spc c).a (suL c))) y=some y'∧WhR c (nx v (cA c) x) y':=by
 have hs:=Y1 h;have G:=ZL h;obtain⟨i,hi,Y⟩:=U;have hb:v∈evs (auts c.co++auts c.rq):=(ZO (λa ha=>(G a ha).ok) v).2 ⟨cA c i,by rw[Qd4];exact Lq.2 ⟨i,Mb.2 (by unfold Y9;omega),O⟩,Y⟩;have H:=QkQ V;have hc:=E;obtain⟨j,s,e0,h1,h2,h3,h4,h5⟩:=E;have I:=hs.1.step h3 v;rw[if_pos hb,h5,H]at I
 have he:=Z0 (show eget (spc c).a.ed (s:Int) v=some ((spQ c).idxOf (tpl (Y9 c) (nx v (cA c) x)):Int) from I);exact yu.go (λa ha=>(G a ha).ok) hs.1 (Xv h) hs.2.2.1 hc H (QlH he h4 J)
end
end Go.Proofs.YtjcgijbhaemldaaGreatDoor
