/- Merged out of 50 texts. -/
import Derived.Test.YteekilnpgonojaaGreatDoorNfd
import Derived.Lib.Overlaps
import Derived.Test.YteekilnpgonojaaGreatDoorRows
import Derived.JoinedOf
import Derived.Test.YteekilnpgonojaaGreatDoorCards
import Derived.SevenTiedAt
set_option maxHeartbeats 40000000
set_option maxRecDepth 100000
set_option linter.all false
open Go Go.Lg
open Go.Value renaming int->oE
open Go.IntKind renaming i64->oF
open _root_.List renaming mem_singleton->oH,not_mem_nil->oI,mem_cons->oK,length_append->oL,length_singleton->oN,length->oO,getD->oP,all_cons->oR,mem_append->oS,append_assoc->oT,length_cons->oU,range->oW,map_cons->oZ,length_drop->o6,length_take->o7,cons_append->o8,size_toArray->o9,map_append->Of,all_eq_true->Og,length_map->Ol,length_nil->Oy,map_set->OL,map_nil->OM
open _root_.Bool renaming and_eq_true->oJ,not_eq_true'->Ob,false_eq_true->Ox
open _root_.Array renaming replicate->oV,getElem?_eq_getElem->Od,getElem?_mapIdx->Oo
open _root_.Nat renaming zero_add->oX,add_mul->Oj,lt_or_ge->OA,sub_zero->OC,le_of_not_lt->OD,mod_lt->OI,le_succ->OJ,zero_le->ON
open _root_.Option renaming map_some->Ot,isSome_none->Ow
open Go renaming World->OX,Value->OY,Operand->OZ,Program->O0
open Go.Proofs Go.Proofs.Tryz
open Go.Proofs.YteekilnpgonojaaGreatDoor
variable {w w':OX}{L L' X ds:LN}{n t i sz b T j g N E id ty b1 cap B kt lo hi b2 G M:Nat}{H:xu}{cs us news capt:LV}{a:Q2}{α:Type}{y:OZ}{z ve va vm vt v' vl vs vx vk vb:OY}{c:Zx}{l u al rs:LI}{f f1:Fr}{P:O0}{fn:Func}{q:DV}{o:Oper}{s:Int}{es:List Ed}{d:xz}{af:xw}{gd:xj}{K:xr}{co:List YU}{bf:List xF}{k':IntKind}{qs:List IV}{pl rest:xo}{at_:Array Nat}{ops:xx}{ls:xq}{Φ:OY→OX→Prop}{Dc:xp}
namespace Go.Lg
instance:Bw prog 90 z10 [(0,2),(2,1),(3,4),(7,3)]:=⟨od,og⟩
instance:Bw prog 149 z15 [(0,10),(10,5)]:=⟨od,og⟩
theorem QaG {c:CL}(E:ZJ L w.heap c)(G:Kb w 4096):
  Q3 prog 95 [c.val] w λr w'=>O1 [] w w'/\∃us c0 c1 c2 c3 sa st sm se o,r=.tuple #[.agg us.toArray,.agg #[c0,c1,c2,c3,sa,oE oF st,sm,se,o],oE oF (YS c.V)]/\us.length=8/\Zp us/\Zp [c0,c1,c2,c3,sa,sm,se,o] /\
   (YS c.V=0->st=(suA c.V).st/\∀L:LN,(∀b∈L,b<w.heap.size)->ZH L w'.heap sa sm se (suA c.V)/\yC L w'.heap c0 c1 c2 (spc c.V).a (fbs (spc c.V)) (unc c.V.ev)):=by
 refine(Qb7 E G).mono ?_;rintro r w' ⟨H,us,c0,c1,c2,c3,sa,sm,se,o,rfl,I,J,O,_,S⟩;exact⟨H,us,c0,c1,c2,c3,sa,_,sm,se,o,U,I,J,O,λh=>⟨OQ h,S h⟩⟩
theorem Qe5 {c:CL}{q:MV}(H:ZJ L w.heap c)(I:QP L w.heap q.v q.co):
  Q3 prog 94 [c.val,.agg #[oE oF q.kd,oE oF q.ix,q.v]] w λr w'=>O1 [] w w'/\∃cm:CL,r=.tuple #[.agg cm.cells.toArray,oE oF (y9 c.V q.m)]/\Zp cm.cells/\(y9 c.V q.m=0->cm.V=JC c.V q.m/\∀L:LN,(∀b∈L,b<w.heap.size)->ZJ L w'.heap cm):=by
 refine(Qhh H I).mono ?_;rintro r w' ⟨J,us,rfl,V,G,O,S⟩;refine⟨J,?_⟩;by_cases E:y9 c.V q.m=0
 ·obtain⟨cm,e1,e2,T⟩:=S E;have e:us=cm.cells:=by simpa using e1
  subst e;exact⟨cm,U,G,λ_=>⟨e2,T⟩⟩
 have e:=O E;subst e;exact⟨CL.mk Zl Zl Zl Zl Zl [] [] [] [] [],U,G,λh=>OS h E⟩
theorem Qi1 (c:Zx)(bf:List xF)(v:Int)(m:Ux)(l:List Ux)(o:List xF)(k n:List Ky):blL c bf v (m::l) o k n=if(JX c bf v m).1≠0 then((JX c bf v m).1,[],[],[])else
  if(JX c bf v m).2.2=true then blL c bf v l (o++[(JX c bf v m).2.1]) (k++[ZY c m]) n else blL c bf v l (o++[(JX c bf v m).2.1]) k (n++[ZY c m]):=rfl
theorem QbQ {c:CL}{ps:List qz}{v:Int}(h0:ZJ L w.heap c)(hp:Go.Lg.KE ZR 15 qf L' w.heap vb ps)(ma:∀b∈L',b<w.heap.size)(hn:(ps.map (·.e.ky)).Nodup)(hpl:ps.length<=1000)(hkb:Kb w 4096):
  Q3 prog 45 [c.val,vb,oE oF v] w λr w'=>O1 [] w w'/\∃vp us,r=.tuple #[vp,.agg us.toArray,oE oF (JF c.V (ps.map (·.pt)) v)]/\us.length=3/\Zp us/\(JF c.V (ps.map (·.pt)) v≠0->vp=Zl/\us=Ym) /\
   (JF c.V (ps.map (·.pt)) v=0->∃qs q,us=Zr q/\qs.map (·.pt)=yf c.V (ps.map (·.pt)) v/\q.rp=Y4 c.V (ps.map (·.pt)) v/\(w'.ownsRow w.heap.size 149 15 vp qs.length (qs.flatMap ZR))/\Go.Lg.KE ZR 15 qf L' w'.heap vp qs/\∀M:LN,(∀b∈M,b<w.heap.size)->Kw M w'.heap q):=by
 have h:=h0.up (L':=[]) oe;have hS:Go.Lg.KE ZR 15 qf [] w.heap vb ps:=hp.up oe;have hpk:(ps.map (·.pt)).map (·.ky)=ps.map (·.e.ky):=by rw[MB];rfl
 have mf:=Qg3 hn (λq hq=>(hp.each q hq).ones);refine Zo (ps.map (·.pt)) λbf mg=>?_;rw[mg]at hpk mf ⊢;have ha:JF c.V bf v=if Zi c.V≠0 then Zi c.V else(UX c.V bf v).1:=rfl
 have mh:yf c.V bf v=(UX c.V bf v).2.1:=rfl;have mi:Y4 c.V bf v=⟨(UX c.V bf v).2.2.1,(UX c.V bf v).2.2.2,(bf.filter λp=>decide (p.ky∉(O5 c.V).map (ZY c.V))).map (·.ky)⟩:=rfl;have hbR:blL c.V bf v (O5 c.V) [] [] []=UX c.V bf v:=rfl;refine Zo (JF c.V bf v) λE hE=>?_;rw[hE]at ha ⊢;refine Zq func45 ?_;refine Qc<|Qe<|QW (us:=c.cells) U λb3 w1 mj hb3 g4=>x Ql<|Qe<|Qo (us:=Ym) U λb7 w2 gm hb7 g5=>Qb ?_;have mn:=mj.D gm;have hz1:=mj.size;have hz2:=gm.size;refine Qc<|Q6 (g4.I gm) U U<|QM<|(Qc6 (h.I mn)).mono ?_;rintro r3 w3 ⟨hT,vM,lM,rfl,hM,hMbad,hMgood⟩;have mo:=mn.D hT;have hz3:=hT.size;refine Qa<|QZ U U<|QZ U U<|x Ql<|Qb<|Qd<|Qm<|ZB U U<|xe<|QX rfl (λhU=>?_) (λhU=>?_)
 ·rw[OQ hU]at ha;refine Qc<|x (Qy Z)<|Qa<|x Ql<|Qe<|Qj (us:=Ym) (g5.I hT) U U U U oA λw4 hs4 hB74=>Qb<|Qk ⟨[Zl,.agg Ym.toArray,oE oF (Zi c.V)],⟨U,⟨_,U,Qn U (hB74.at (L:=[]) oe).cells⟩,rfl,Z⟩,mo.O hs4 oa,Zl,Ym,by rw[ha];rfl,U,oA,λ_=>⟨U,U⟩,λh0=>OS (ha.symm.D h0) hU⟩
 rw[OP hU]at ha;have g6:=Ln.1 hU;have hok:Qaq c.V:=(ZZ g6).sr;have hV:=hMgood g6;have mq:=zB g6;have hMl:lM.length<=96:=by have:=zt hok;rw[<-hV,Lh]at this;exact this
 have ms:Zm [] w3.heap vM lM.length 3 (lM.flatMap Xe):=hM.arr oa oe;refine Qh<|Qc<|Qe<|Yy kKy λg7 w5 mt hb37 mu=>Qb ?_;have mv:=mo.D mt;have hp5:=Go.Lg.KE.I hS mv;refine Qd<|Qm<|QI hp5.arr U<|Qa<|xe<|Qg<|QD (α:=Nat) [(13,13),(40,49)] (λz=>[(40,oE oF z)]) (λz w'=>z<=ps.length/\O1 [g7] w5 w'/\Yi kKy w'.heap g7 (zw (λq:qz=>q.e.ky) paV (ps.take z) [])) (λz=>ps.length - z) ol 0 La ⟨Lo _,O1.Z _ _,mu⟩ ?_;rintro k g w6 ⟨hk,gn,g8⟩;have mw:O1 [] w w6:=mv.O gn oa;have hz6:=gn.size;refine Qc<|Q0 U U<|xe<|Qd<|QH U (λgo=>?_) (λgo=>?_)
 rotate_left
 ·have J:k<ps.length:=by have hW:(k:Int)<(ps.length:Int):=go;omega
  have hr:ps.take (k+1)=ps.take k++[ps[k]'J]:=Lm J;have my:=Go.Lg.KE.I hS mw;have hs:=Lk J;refine Qh<|Qd<|Qg<|Qc<|O4 (g:=ZR) (i:=k) QgW my.arr U U J λa42 mz=>?_;refine Zo (ps[k]'J) λq hq=>?_;rw[hq]at mz hr hs;have g9:=my.each q hs;refine x (Qx mz U U)<|Qe<|Qo (us:=z15) U λb13 w7 ka hb13 hB13=>Qe<|Qj (us:=ZR q) hB13 U U U U g9.ones λV hY m2=>xe ?_;have hB:O1 [] w6 V:=ka.O hY hb13;refine Qw<|Qa<|Q7 U<|Q7 U<|x (Zs (us:=KR q.e.ky) m2 U U U)<|Q6 m2 U U<|Qe<|Xv (k:=q.e.ky) (g8.I hB) U U λY ht hm9=>xe ?_;refine Qw<|QS U U<|Qa<|xe<|⟨k+1,oa,La,J,(gn.D hB).Q ht,?_⟩;have m3:Yi kKy Y.heap g7 (O7 (zw (λq:qz=>q.e.ky) paV (ps.take k) []) q.e.ky (paV q)):=hm9;rw[hr];unfold zw at m3 ⊢;rw[Mv];exact m3
 refine Qz ?_;have hZ:ps.length<=k:=by have hW:¬(k:Int)<(ps.length:Int):=go;omega
 rw[Lr hZ]at g8;clear hZ go hk;refine Qc<|Qb<|Qc<|Qe<|Qo (us:=Ym) U λI w7 ka hb15 m4=>xe ?_;refine Qc<|Qe<|Yy kKy λO V hY hb50 m5=>Qb ?_;have hB:=ka.D hY;have m6:=mw.D hB;have hz8:=hY.size;have hB158:=m4.I hY;have hl15:=m4.lt;have hl50:=m5.lt;have hl37:=mu.lt;have hm378:=g8.I hB;have ga:O1 [] w3 V:=(mt.O gn oa).D hB;have hB38:=(g4.I (gm.D hT)).I ga;have hB78:=(g5.I hT).I ga;have hl3:=g4.lt;have hl7:=g5.lt;have hMA8:=ms.I ga;refine Qd<|Qm<|QI hMA8 U<|Qa<|xe<|Qg<|QD (α:=BlS) [(6,6),(8,8),(14,14),(18,25),(53,123)] (λz=>[(14,z.vo),(53,oE oF z.k)]) (λz w'=>z.k<=lM.length/\O1 [I,O] V w'/\BlI (b7::I::O::L') V.heap.size w' I O ((lM.take z.k).map λq=>ZY c.V q.m) z/\blL c.V bf v ((lM.drop z.k).map MV.m) (z.qs.map (·.pt)) z.K z.M=UX c.V bf v/\(z.qs.length=z.k/\z.K.length<=z.k/\z.M.length<=z.k))
  (λz=>lM.length - z.k) ol ⟨0,Zl,[],Zl,[],Zl,[]⟩ oz ⟨Lo _,O1.Z _ _,⟨⟨_,hB158⟩,m5,U2.nil,QJ _ _ _ _,QJ _ _ _ _,λb H=>by simp[ob]at H,λb H=>by simp[ob]at H⟩,by rw[List.drop_zero,hV];exact hbR,U,Lv _,Lv _⟩ ?_
 rintro⟨k,vo,qs,vk,K,vm,M⟩ g Y ⟨hk,ht,S,hR,hql,hKl,hMl'⟩;simp only[]at hk S hR hql hKl hMl';have hX:∀b∈[I,O],w.heap.size<=b/\b<V.heap.size:=λb H=>by simp only[oK,oI,or_false]at H;omega
 have kb:O1 [] w Y:=m6.then ht (λb H=>.inr (hX b H).1);have hz9:=ht.size;have m7:=hB38.J ht (by simp only[oK,oI,or_false];omega);have m8:=hB78.J ht (by simp only[oK,oI,or_false];omega);have hm379:=hm378.J ht (by simp only[oK,oI,or_false];omega);have hp9:=Go.Lg.KE.I hS kb;refine Qc<|Q0 U U<|xe<|Qd<|QH U (λkc=>?_) (λkc=>?_)
 ·refine Qz ?_;have hZ:lM.length<=k:=by have hW:¬(k:Int)<(lM.length:Int):=kc;omega
  have gp:=S;rw[Lr hZ]at gp;rw[Lp hZ]at hR;have hR0:UX c.V bf v=(0,qs.map (·.pt),K,M):=hR.symm;rw[hR0]at ha mh mi;have m9:E=0:=ha;have hks:(lM.map λq=>ZY c.V q.m)=(O5 c.V).map (ZY c.V):=by rw[<-hV,MB];rfl
  rw[hks]at gp;obtain⟨T15,hB159⟩:=gp.b;have hm509:=gp.n;refine Qd<|Qm<|QI hp9.arr U<|Qa<|xe<|Qg<|QD (α:=Nat×OY×List Ky) [(27,27),(126,144)] (λz=>[(126,oE oF z.1)]) (λz w'=>z.1<=ps.length/\O1 [I] Y w'/\Q9 w'.heap I T15 [vk,vm,z.2.1]/\w'.ownsRow Y.heap.size 75 2 z.2.1 z.2.2.length (z.2.2.flatMap KR)/\z.2.2=((ps.take z.1).filter λp=>decide (p.e.ky∉(O5 c.V).map (ZY c.V))).map (·.e.ky))
   (λz=>ps.length - z.1) ol (0,Zl,[]) La ⟨Lo _,O1.Z _ _,hB159,QJ _ _ _ _,U⟩ ?_
  rintro⟨i,vg,G⟩ g gb ⟨hi,hf,ke,h6,hG⟩;simp only[]at hi ke h6 hG;have pa:O1 [] w gb:=kb.O hf oa;have hz10:=hf.size;have hB710:=m8.J hf om;have hm5010:=hm509.J hf om;have hGl:G.length<=1000:=by
   rw[hG,Lh];refine LH (MD _ _) ?_;rw[Ly];omega
  refine Qc<|Q0 U U<|xe<|Qd<|QH U (λkf=>?_) (λkf=>?_)
  ·refine Qz ?_;have hie:ps.length<=i:=by have hW:¬(i:Int)<(ps.length:Int):=kf;omega
   rw[Lr hie]at hG;have pc:Zp [vk,vm,vg]:=⟨Qu S.k,Qu S.m,Qu h6,Z⟩;refine Qd<|ZI [] (Xx 0 5 [3])<|p QF<|pq (λ_ hc=>ZT (ke.I hc) U U)<|p ZM<|pkl (hl:=by kernel_rfl)<|Qj (us:=[vk,vm,vg]) (hB710.I (O1.C _ _)) U U U U pc λgq kg hB711 =>
    p ZM<|pe ?_
   have hD:O1 [b7] gb gq:=(O1.C [] gb).any.Q kg;have n7:∀b,V.heap.size<=b->b∉[b7]:=λb H T=>by rw[Lb.1 T]at H;omega
   have kh:∀b,V.heap.size<=b->b∉[I]:=λb H T=>by rw[Lb.1 T]at H;omega
   have pd:=Qf (Qf S.k hf (λb H=>kh b (Qi S.k b H).1)) hD (λb H=>n7 b (Qi S.k b H).1);have pf:=Qf (Qf S.m hf (λb H=>kh b (Qi S.m b H).1)) hD (λb H=>n7 b (Qi S.m b H).1);have pg:=Qf h6 hD (λb H=>n7 b (ot (Qi h6 b H).1));have ki:=Qf (Qf S.o.own hf (λb H=>kh b (Qi S.o.own b H).1)) hD (λb H=>n7 b (Qi S.o.own b H).1);have kj:O1 [] w gq:=pa.O hD oa;refine Qk ⟨[vo,.agg #[vk,vm,vg],oE oF 0],⟨U,⟨_,U,Qn U (hB711.at (L:=[]) oe).cells⟩,rfl,Z⟩,kj,vo,[vk,vm,vg],by rw[m9];rfl,U,pc,λh0=>OS m9 h0,λ_=>⟨qs,⟨vk,K,vm,M,vg,G⟩,U,mh.symm,?_,Zy ki oa,⟨QK ki oa (λb H hbL=>ou (Qi ki b H).1 (ma b hbL)),λq hq=>?_⟩,λN hN=>⟨QK pd (show K.length<=1099511627776 by omega) (λb H hbL=>ou (Qi pd b H).1 (hN b hbL)),QK pf (show M.length<=1099511627776 by omega) (λb H hbL=>ou (Qi pf b H).1 (hN b hbL)),QK pg (show G.length<=1099511627776 by omega) (λb H hbL=>ou (Qi pg b H).1 (hN b hbL))⟩⟩⟩
   ·rw[mi];show Rp.mk K M G=_;rw[hG,<-mg,List.filter_map,MB];rfl
   have hq9:=S.o.each q hq;have hq9':qf (b7::I::O::L') Y.heap q:=Mm.mono hq9 λb H=>Lc.2 (.inr (Lc.2 (.inr (Lc.2 (.inr H)))));exact((hq9'.st (hf.mono oe)).st (hD.mono oe)).up (λb H=>.inl (by simp[H]))
  have J:i<ps.length:=by have hW:(i:Int)<(ps.length:Int):=kf;omega
  have hr:ps.take (i+1)=ps.take i++[ps[i]'J]:=Lm J;have ph:=Go.Lg.KE.I hS pa;have hs:=Lk J;refine Qh<|Qd<|Qg<|Qc<|O4 (g:=ZR) (i:=i) QgW ph.arr U U J λa128 pj=>?_;refine Zo (ps[i]'J) λq hq=>?_;rw[hq]at pj hr hs;have g9:=ph.each q hs;refine x (Qx pj U U)<|Qe<|Qo (us:=z15) U λb27 pm gc hb27 hB27=>Qe<|Qj (us:=ZR q) hB27 U U U U g9.ones λpn gr po=>xe ?_;have hF:O1 [] gb pn:=gc.O gr hb27;have hz13:=hF.size;refine Qm<|Q7 U<|Q7 U<|x (Zs (us:=KR q.e.ky) po U U U)<|x (QeT (s:=q.e.ky) (hm5010.I hF) U U)<|x (ZC U)<|xe ?_;have kk:=ke.I hF;have pp:=Qq h6 hF;refine QQ U (λkn=>?_) (λkn=>?_)
  ·have ko:q.e.ky∉(O5 c.V).map (ZY c.V):=by simpa using kn
   refine Qw<|Qs U kk U U<|Q7 U<|Q7 U<|x (Zs (us:=KR q.e.ky) po U U U)<|Qe<|QB (us:=[KR q.e.ky]) U U og (by exact(by decide:1*2<=1000000)) oz λb141 kq hH hb141 hB141 =>
    Qe<|Zb (m:=1) (news:=KR q.e.ky) (L:=[]) (Qq pp hH) U U U (by have:=hB141.at (L:=[]) oe;simpa using this) (by simp[Value.oneCell']) oa (ot hH.size) λkr ho pu hg pw=>Q7 U<|Qe<|QE (j:=2) (u:=kr) ((kk.I hH).J hg (λH=>ot (Qi h6 I H).1)) U U oe (Qu pu) λpz gs hB1516 =>
    xe ?_
   refine Qw<|QS U U<|Qa<|xe ?_;have hu:O1 [I] Y kq:=hf.D (hF.D hH);have kt:O1 [I] Y ho:=hu.then hg (λb H=>.inr (Qi h6 b H).1);refine⟨(i+1,kr,G++[q.e.ky]),oh,La,J,kt.Q gs,hB1516,?_,?_⟩
   ·have p0:ho.ownsRow Y.heap.size 75 2 kr (G++[q.e.ky]).length ((G++[q.e.ky]).flatMap KR):=by
     rw[Ll,LB];simpa using pu
    refine Qf p0 gs (λb H T=>?_);have:=(Qi p0 b H).1;rw[Lb.1 T]at this;omega
   simp only[];rw[hr,L6,Lt,<-hG,Mh,OQ (OT ko)];rfl
  have ko:q.e.ky∈(O5 c.V).map (ZY c.V):=by simpa using kn
  refine Qh<|Qw<|QS U U<|Qa<|xe<|⟨(i+1,vg,G),oh,La,J,hf.D hF,kk,pp,?_⟩;simp only[];rw[hr,L6,Lt,<-hG,Mh,OP (oy ko)];simp
 have J:k<lM.length:=by have hW:(k:Int)<(lM.length:Int):=kc;omega
 have hr:lM.take (k+1)=lM.take k++[lM[k]'J]:=Lm J;have hs:=Lk J;rw[LD J,LE,Qi1]at hR;have ku:O1 [] w3 Y:=ga.then ht (λb H=>.inr (by simp only[oK,oI,or_false]at H;have:=ga.size;omega));have hM9:=Yu.I hM ku;have hMA9:=ms.I ku;have hn1:(lM.map λq=>ZY c.V q.m).Nodup:=by
  rw[<-hV,MB]at mq;exact mq
 have kv:=hn1.sublist ((List.take_sublist (k+1) lM).map λq=>ZY c.V q.m);rw[hr,Lt]at kv;refine Qh<|Qd<|Qg<|Qc<|O4 (g:=Xe) (i:=k) QmK hMA9 U U J λa55 p1=>?_;refine Zo (lM[k]'J) λq hq=>?_;rw[hq]at p1 hr hs hR kv;have hqI:QP [] Y.heap q.v q.co:=hM9.each q hs [] oe;have hqm:q.m∈O5 c.V:=by rw[<-hV];exact LJ hs
 have p2:ZY c.V q.m∉(lM.take k).map λq=>ZY c.V q.m:=λT=>(MK.1 kv).2.2 _ T _ (Lb.2 U) U;have gg:=Qkt hqm;have hh:=mf (ZY c.V q.m);have gt:=λp:xF=>QfI (c:=c.V) (bf:=bf) (v:=v) (m:=q.m) (p:=p);have gu:=QlA (c:=c.V) (bf:=bf) (v:=v) (m:=q.m);have hb0:=QlB (c:=c.V) (bf:=bf) (v:=v) (m:=q.m);refine x (Qx p1 U U)<|Qe<|Qo (us:=[oE oF 0,oE oF 0,nS]) U λb18 gb hf hb18 hB18=>Qe<|Qj (us:=Xe q) hB18 U U U U ⟨U,U,hqI.one,Z⟩ λgq kg p3=>xe ?_;have gv:O1 [] Y gq:=hf.O kg hb18;have kj:=kb.D gv;have hK:=Qhp (q:=q) (h.I kj) gg.1 gg.2.1 (λe=>by have:=gg.2.2.1 e;rwa [show c.V.rq.length=c.rq.length from Lh ..]at this) (λe=>by have:=gg.2.2.2.1 e;rwa [show c.V.ex.length=c.ex.length from Lh ..]at this) (λe=>by have:=gg.2.2.2.2 e;rwa [show c.V.cs.length=c.cs.length from Lh ..]at this);have p4:V6 c.V v q.m=⟨ZY c.V q.m,v,suA (JC c.V q.m),(qv (JC c.V q.m)).1,(qv (JC c.V q.m)).2.1,(qv (JC c.V q.m)).2.2,JC c.V q.m⟩:=rfl;refine Zo (ZY c.V q.m) λky p5=>?_;rw[p5]at p2 hh gt gu hK hR p4;refine Qc<|Q6 (m7.I gv) U U<|Q6 p3 U U<|QM<|hK.mono ?_;rintro _ pm ⟨rfl,gc⟩;refine Qe<|Qo (us:=[oE oF 0,.string .empty]) U λp6 pn gr hb19 hB19=>Qe<|Qj (us:=KR ky) hB19 U U U U oz λkq hH p7=>xe ?_;have p8:O1 [] pm kq:=gr.O hH hb19;have hu:=(gv.D gc).D p8;have hz914:=hu.size;have hz911:=gv.size;have hz12:=gc.size;have p9:=S.I hu;have hz10:=hf.size;have hz13:=gr.size;refine Qm<|Q6 p7 U U<|Qe<|Xv (k:=ky) p9.n U U λho hg pw=>xe ?_;have kt:O1 [O] Y ho:=hu.any.Q hg;have qc:O1 [I,O] V ho:=ht.Q (kt.mono oe);have qo:O1 [] w ho:=m6.then qc (λb H=>.inr (hX b H).1);have hz15:=hg.size;have hI15:BlI (b7::I::O::L') V.heap.size ho I O ((lM.take (k+1)).map λq=>ZY c.V q.m) ⟨k,vo,qs,vk,K,vm,M⟩:=by
  refine p9.now hg ?_ oa oa oe;have h5:Yi kKy ho.heap O (O7 (((lM.take k).map λq=>ZY c.V q.m).map λs=>(s,Value.bool true)) ky (.bool true)):=pw;rw[Qgz p2]at h5;have e:((lM.take (k+1)).map λq=>ZY c.V q.m)=((lM.take k).map λq=>ZY c.V q.m)++[ky]:=by
   rw[hr,Lt,LE,p5];rfl
  rw[e];exact h5
 have hne50:∀b,V.heap.size<=b->b∉[O]:=λb H T=>by rw[Lb.1 T]at H;omega
 have hB1815:=((p3.I gc).I p8).J hg om;have hB1915:=p7.J hg om;have hB315:=(m7.I hu).J hg om;have qr:=(m8.I hu).J hg om;have hm3715:=(hm379.I hu).J hg om;have hqI3:QP [] w3.heap q.v q.co:=hM.each q hs [] oe;have hqI15:QP [] ho.heap q.v q.co:=((((hqI3.up (L':=[O]) (λb H=>.inr (by rw[Lb.1 H];omega))).I ku).I hu).st hg).up oe;refine Qc<|Q6 hB315 U U<|Q6 hB1815 U U<|QM<|(Qe5 (q:=q) (h.I qo) hqI15).mono ?_;rintro r23 pz ⟨gs,cm,rfl,ho5,hgood⟩;refine Qa<|QZ U U<|QZ U U<|Qe<|Qo (us:=Z3) U λb20 w17 hs17 hb20 hB20=>Qe<|Qj (us:=cm.cells) hB20 U U U U ho5 λq0 hs18 hB2018 =>
  Qb ?_
 have kw:O1 [] pz q0:=hs17.O hs18 hb20;have h2:=gs.D kw;have q1:=qo.D h2;have hz1518:=h2.size;refine Qd<|Qm<|ZB U U<|xe<|QX rfl (λgh=>?_) (λgh=>?_)
 ·have he:=hb0 gh;rw[he,OQ gh]at hR;rw[<-hR]at ha;refine Qc<|x (Qy Z)<|Qa<|x Ql<|Qe<|Qj (us:=Ym) (qr.I h2) U U U U oA λw19 kx hB719=>Qb<|Qk ⟨[Zl,.agg Ym.toArray,oE oF (y9 c.V q.m)],⟨U,⟨_,U,Qn U (hB719.at (L:=[]) oe).cells⟩,rfl,Z⟩,q1.O kx oa,Zl,Ym,by rw[ha];rfl,U,oA,λ_=>⟨U,U⟩,λh0=>OS (ha.symm.D h0) gh⟩
 have kz:=Ln.1 gh;have gt:=λp=>gt p kz;have gu:=gu kz;have gi:=hgood kz;have hI18:=hI15.I h2;have q2:=hB1915.I h2;refine Qh<|Exists.elim hh λus hh=>Exists.elim hh λis hh=>?_;refine Qd<|Qm<|Q6 q2 U U<|x (Qj9 (k:=ky) (hm3715.I h2) U U hh.1)<|Qa<|QZ U U<|QZ U U<|Qe<|Qo (us:=z15) U λb22 w19 kx hb22 hB22 =>
  Qe<|Qj (us:=us) hB22 U U hh.2.1 U hh.2.2.1 λhJ hs20 q3=>Qb ?_
 have hL:O1 [] q0 hJ:=kx.O hs20 hb22;have q4:=q1.D hL;have q6:=hB2018.I hL;have hz1820:=hL.size;have za:∀N:LN,(∀b∈N,b<ho.heap.size)->ZJ N hJ.heap cm:=λN hN=>((gi.2 N hN).I kw).I hL;refine Za (α:=Bool) [(78,84)] (λz=>[(84,.bool z)]) (λz w'=>O1 [] hJ w'/\(z=true->∃p∈ps,us=ZR p/\JX c.V bf v q.m=(0,p.pt,true))/\(z=false->JX c.V bf v q.m=(YS (JC c.V q.m),V6 c.V v q.m,false))) ol ?_ ?_
 ·refine Qw<|xB Kh (λk0=>?_) (λk0=>?_)
  ·refine Exists.elim (hh.2.2.2.1 k0) λp h3=>?_;have gw:qf [] hJ.heap p:=(Go.Lg.KE.I hS q4).each p h3.1;have gx:=h3.2.1;have hEq:Q3 prog 60 [p.c.val,cm.val] hJ λr w'=>r=.bool (decide (p.c.V=JC c.V q.m))/\O1 [] hJ w':=by
    rw[<-gi.1];exact QcT gw.c (za [] oe)
   refine Qa<|Q7 U<|x (Zs (us:=p.c.cells) q3 U U (by rw[gx];rfl))<|Q6 q6 U U<|QM<|hEq.mono ?_;rintro _ gy ⟨rfl,hv⟩;refine QG U<|xe ?_;have H:=gt p.pt h3.2.2;refine⟨decide (p.c.V=JC c.V q.m),La,hv,λhz=>⟨p,h3.1,gx,?_⟩,λhz=>?_⟩
   ·rw[H,OQ (show p.pt.c=_ from OU hz)]
   rw[H,OP (show ¬p.pt.c=_ from OW hz)]
  refine Qa<|Qp<|Qp<|Qp<|Qp<|QG U<|xe ?_;exact⟨false,La,O1.Z _ _,λhz=>OS hz og,λ_=>gu (hh.2.2.2.2 k0)⟩
 rintro zb g gy ⟨hv,hzt,hzf⟩;have gz:=hL.D hv;have k4:=q4.D hv;have hO:=hI18.I gz;have hz21:=hv.size;have zv:=q2.I gz;have z0:=q6.I hv;have h721:=(qr.I h2).I gz;have z1:O1 [I,O] V gy:=(qc.D h2).D gz;have gvo:=Qi hO.o.own;have gvk:=Qi hO.k;have gvm:=Qi hO.m;obtain⟨T15,z2⟩:=hO.b;have n15o:I∉ob vo:=λT=>ot (gvo I T).1
 have n15k:I∉ob vk:=λT=>ot (gvk I T).1
 have n15m:I∉ob vm:=λT=>ot (gvm I T).1
 have n19o:p6∉ob vo:=λT=>ot (Qi S.o.own p6 T)
 have z3:∀b∈ob vo++(ob vk++(ob vm++(b7::I::O::L'))),b<Y.heap.size/\(b∈L'\/w.heap.size<=b):=λb H=>by
  rcases Lc.1 H with H|H
  ·have:=Qi S.o.own b H;exact⟨this.2,.inr oa⟩
  rcases Lc.1 H with H|H
  ·have:=Qi S.k b H;exact⟨this.2,.inr oa⟩
  rcases Lc.1 H with H|H
  ·have:=Qi S.m b H;exact⟨this.2,.inr oa⟩
  simp only[oK]at H;rcases H with rfl|rfl|rfl|H
  ·exact⟨oa,.inr oa⟩
  ·exact⟨oa,.inr oa⟩
  ·exact⟨oa,.inr oa⟩
  exact⟨ot (ma b H),.inl H⟩
 refine QQ rfl (λk5=>?_) (λk5=>?_)
 ·refine Exists.elim (hzt k5) λp h3=>?_;have gx:=h3.2.1;have H:=h3.2.2;rw[H,OP oe,OQ rfl]at hR;have gw:qf (ob vo++(ob vk++(ob vm++(b7::I::O::L')))) gy.heap p:=((hp.each p h3.1).up λb H=>(z3 b H).2).I k4;refine Qm<|Q6 (q3.I hv) U hh.2.1<|Qe<|QB (us:=[us]) U U og (by exact(by decide:1*15<=1000000)) ⟨U,hh.2.1,Z⟩ λb87 k6 hw hb87 hB87=>?_;have hA22:At [] k6.heap ⟨b87,0,none⟩ (ZR p):=by have:=hB87.at (L:=[]) oe;rw[gx]at this;simpa using this
  have z4:=hO.I hw;refine Qe<|Kl (m:=1) (news:=ZR p) z4.o.own U U U hA22 (Zp.all gw.ones) (show qs.length+1<=1073741824 by omega) (ot hw.size) λv23 w23 ho23 h7 hn23=>?_;refine Qb ?_;have hI23:=z4.part (gw.I hw) ho23 h7 hn23 oa oa;have z5:=(z2.I hw).J h7 n15o;have hB1923:=(zv.I hw).J h7 n19o;refine Qc<|Qs U z5 U U<|Q6 hB1923 U U<|Qe<|QB (us:=[KR ky]) U U og (by exact(by decide:1*2<=1000000)) oz λb92 w24 h8 hb92 hB92=>?_;have hI24:=hI23.I h8;refine Qe<|Zb (m:=1) (news:=KR ky) (L:=[]) hI24.k U U U (by have:=hB92.at (L:=[]) oe;simpa using this) (by simp[Value.oneCell']) (show K.length+1<=1099511627776 by omega) (ov hw.size h7.size h8.size) λv25 w25 ho25 hQ hn25=>?_;refine Q7 U<|Qe<|QE (j:=0) (u:=v25) ((z5.I h8).J hQ n15k) U U oe (Qu ho25) λk7 g0 hB1526=>xe ?_;have hy:=hI24.kept ho25 hQ hn25 g0 ⟨T15,hB1526⟩ oa oa oa oe;refine Qz<|Qw<|QS U U<|Qa<|xe ?_;have hs826:O1 [I,O] V k7:=((((z1.D hw).then h7 (λb H=>.inr (gvo b H).1)).D h8).then hQ (λb H=>.inr (gvk b H).1)).Q (g0.mono oe);refine⟨⟨k+1,v23,qs++[p],v25,K++[ky],vm,M⟩,oh,oz,J,hs826,⟨hy.b,hy.n,hy.o,hy.k,hy.m,hy.d1,hy.d2⟩,?_,by simp only[oL,oN];omega⟩;simp only[];rw[Lt];exact hR
 have H:=hzf k5;rw[H]at hR;have hSy:=QaG ((za [] oe).I hv) (hkb.I k4);rw[gi.1]at hSy;refine Qh<|Qc<|Q6 z0 U U<|QM<|hSy.mono ?_;rintro r36 k6 ⟨hw,us8,c0,c1,c2,c3,sa,st,sm,se,oo,rfl,hl8,ho8,h4,g2⟩;refine Qa<|QZ U U<|QZ U U<|QZ U U<|Qe<|Qo (us:=[nS,oE oF 0,nS,nS,nS,nS,nS,nS]) U λb24 w23 h7 hb24 hB24=>Qe<|Qo (us:=[nS,nS,nS,oE oF 0,nS,oE oF 0,nS,nS,nS]) U λb25 w24 h8 hb25 hB25 =>
  Qe<|Qj (us:=us8) (hB24.I h8) U U hl8 U ho8 λw25 hQ hB2425=>?_
 have hl24:=hB24.lt;have n2425:b25∉[b24]:=om
 refine Qe<|Qj (us:=[c0,c1,c2,c3,sa,oE oF st,sm,se,oo]) (hB25.J hQ n2425) U U U U ⟨h4.1,h4.2.1,h4.2.2.1,h4.2.2.2.1,h4.2.2.2.2.1,U,h4.2.2.2.2.2.1,h4.2.2.2.2.2.2.1,h4.2.2.2.2.2.2.2.1,Z⟩ λk7 g0 hB2526=>Qb ?_;have gj:O1 [] k6 k7:=(((h7.D h8).O hQ oa).O g0 oa);have h1:=hw.D gj;have hs026:=k4.D h1;have hz2126:=h1.size;refine Qd<|Qm<|ZB U U<|xe<|QX rfl (λgk=>?_) (λgk=>?_)
 ·rw[OQ gk]at hR;rw[<-hR]at ha;refine Qc<|x (Qy Z)<|Qa<|x Ql<|Qe<|Qj (us:=Ym) (h721.I h1) U U U U oA λk8 hj hB727=>Qb<|Qk ⟨[Zl,.agg Ym.toArray,oE oF (YS (JC c.V q.m))],⟨U,⟨_,U,Qn U (hB727.at (L:=[]) oe).cells⟩,rfl,Z⟩,hs026.O hj oa,Zl,Ym,by rw[ha];rfl,U,oA,λ_=>⟨U,U⟩,λh0=>OS (ha.symm.D h0) gk⟩
 rw[OP gk,OP oe]at hR;have g2:=g2 (Ln.1 gk);have hst:=g2.1;refine Qh<|Qc ?_;have hy:=hO.I h1;have hB1926:=zv.I h1;have hB2026:=z0.I h1;refine Zo (⟨⟨ky,v,⟨sa,sm,se,suA (JC c.V q.m)⟩,c0,(qv (JC c.V q.m)).1,c1,(qv (JC c.V q.m)).2.1,c2,(qv (JC c.V q.m)).2.2⟩,cm⟩:qz) λP hP=>?_;have hPc:[oE oF ky.1,.string ky.2,oE oF v,sa,oE oF st,sm,se,c0,c1,c2,cm.ve,cm.vc,cm.vr,cm.vx,cm.vk]=ZR P:=by rw[<-hP,hst]
 refine Qa<|Q6 hB1926 U U<|Qa<|Q7 U<|x (Zs (us:=[sa,oE oF st,sm,se]) hB2526 U U U)<|Q7 U<|x (Zs (us:=[c0,c1,c2]) hB2526 U U U) <|
  x (Zc [(0,KR ky),(1,[oE oF v]),(2,[sa,oE oF st,sm,se]),(3,[c0,c1,c2])] ⟨U,U,U,U,U,U,U,U,Z⟩)<|Q6 hB2026 U U<|x (Zc [(0,[oE oF ky.1,.string ky.2,oE oF v,sa,oE oF st,sm,se,c0,c1,c2]),(1,cm.cells)] ⟨U,U,U,U,Z⟩) <|
  Qe<|QB (us:=[[oE oF ky.1,.string ky.2,oE oF v,sa,oE oF st,sm,se,c0,c1,c2,cm.ve,cm.vc,cm.vr,cm.vx,cm.vk]]) U U og (by exact(by decide:1*15<=1000000)) oz λb115 k8 hj hb115 hB115=>?_
 have hA27:At [] k8.heap ⟨b115,0,none⟩ (ZR P):=by have:=hB115.at (L:=[]) oe;rw[<-hPc];simpa using this
 have hI27:=hy.I hj;have hz27:=hj.size;have hLc:∀b∈ob vo++(ob vk++(ob vm++(b7::I::O::L'))),b<ho.heap.size/\b<gy.heap.size:=λb H=>ot (z3 b H).1
 have hPA:qf (ob vo++(ob vk++(ob vm++(b7::I::O::L')))) k8.heap P:=by
  obtain⟨hA,hC⟩:=g2.2 _ (λb H=>(hLc b H).2);have hcmX:=((((gi.2 _ (λb H=>(hLc b H).1)).I kw).I hL).I hv).I h1;rw[<-hP];exact⟨⟨(hA.I gj).I hj,(hC.k.I gj).I hj,(hC.d.I gj).I hj,(hC.r.I gj).I hj⟩,hcmX.I hj⟩
 refine Qe<|Kl (m:=1) (news:=ZR P) hI27.o.own U U U hA27 (Zp.all hPA.ones) (show qs.length+1<=1073741824 by omega) oa λv28 w28 ho28 gl hn28=>?_;refine Qb ?_;have hI28:=hI27.part hPA ho28 gl hn28 oa oa;have hB1528:=((z2.I h1).I hj).J gl n15o;have hB1928:=(hB1926.I hj).J gl n19o;refine Qw<|Qs U hB1528 U U<|Q6 hB1928 U U<|Qe<|QB (us:=[KR ky]) U U og (by exact(by decide:1*2<=1000000)) oz λb120 w29 g3 hb120 hB120=>?_;have hI29:=hI28.I g3;refine Qe<|Zb (m:=1) (news:=KR ky) (L:=[]) hI29.m U U U (by have:=hB120.at (L:=[]) oe;simpa using this) (by simp[Value.oneCell']) (show M.length+1<=1099511627776 by omega) (ou gl.size g3.size) λv30 w30 ho30 k9 hn30=>?_;refine Q7 rfl<|Qe<|QE (j:=1) (u:=v30) ((hB1528.I g3).J k9 n15m) U U oe (Qu ho30) λw31 hs31 hB1531=>xe ?_;have h9:=hI29.mades ho30 k9 hn30 hs31 ⟨T15,hB1531⟩ oa oa oa oe;refine Qw<|QS U U<|Qa<|xe ?_;have hs831:O1 [I,O] V w31:=(((((z1.D h1).D hj).then gl (λb H=>.inr (gvo b H).1)).D g3).then k9 (λb H=>.inr (gvm b H).1)).Q (hs31.mono oe);refine⟨⟨k+1,v28,qs++[P],vk,K,v30,M++[ky]⟩,oh,oz,J,hs831,⟨h9.b,h9.n,h9.o,h9.k,h9.m,h9.d1,h9.d2⟩,?_,by simp only[oL,oN];omega⟩;simp only[];rw[Lt];have hPp:[P].map (·.pt)=[V6 c.V v q.m]:=by
  rw[p4,<-hP];show[qz.pt _]=_;unfold qz.pt;rw[gi.1]
 rw[hPp];exact hR
theorem QbL {n:Nat}{al:LI}:∀{l:List YU}{s:List ByteArray}{u:LI},(Yn n al s u l).1=0->(l.map (·.nm)).Nodup/\∀x∈l,x.nm∉s
 | [],_,_,_=>⟨.nil,λx hx=>by cases hx⟩
 | y::l,s,u,h=>by
  rw[Kp]at h;by_cases E:Yb n al s y≠0
  ·rw[OQ E]at h;exact OS h E
  rw[OP E]at h;have G:Yb n al s y=0:=Ln.1 E;have J:y.nm∉s:=λH=>by
   unfold Yb at G;split at G
   ·exact OS G og
   exact OS G og
  obtain⟨O,I⟩:=QbL h;refine⟨M0.2 ⟨λH=>?_,O⟩,λx hx=>?_⟩
  ·obtain⟨x,hx,e⟩:=LC.1 H;exact I x hx (by rw[e];simp)
  rcases Li.1 hx with rfl|hx
  ·exact J
  exact λH=>I x hx (Lc.2 (.inl H))
structure CkP (c:Zx):Prop where
 ev:KC c.ev=0
 ne:c.co.length≠0
 n8:c.co.length<=8
 n12:c.co.length+c.rq.length<=12
 co:(Yn c.ev.length (Vl c.ev.length) [] [] c.co).1=0
 rq:Jz c.ev.length (Yn c.ev.length (Vl c.ev.length) [] [] c.co).2.2 (Yn c.ev.length (Vl c.ev.length) [] [] c.co).2.1 c.rq=0
 cd:YB (szs c.co) c.ex c.cs=0
theorem js :Zi c=0↔CkP c:=by
 constructor
 ·intro h;unfold Zi at h;split at h
  ·rename_i E;exact OS h E
  rename_i E;split at h
  ·cases h
  rename_i I;split at h
  ·cases h
  rename_i J;split at h
  ·rename_i G;exact OS h G
  rename_i G;split at h
  ·rename_i H;exact OS h H
  rename_i H;exact⟨Ln.1 E,I,oa,oa,Ln.1 G,Ln.1 H,h⟩
 intro h;unfold Zi;rw[OP (not_not_intro h.ev),OP h.ne,OP (ou h.n8 h.n12),OP (not_not_intro h.co),OP (not_not_intro h.rq)];exact h.cd
theorem jr {sz:LI}{ex:List UA}{cs:List xG}(h:YB sz ex cs=0):(∀x∈ex,Xk (x.ls.map (·.1))/\x.ls.length≠0)/\∀x∈cs,Xk (x.ts.map (·.1)):=by
 unfold YB at h;split at h
 ·cases h
 split at h
 ·cases h
 split at h
 ·cases h
 split at h
 ·rename_i E;exact OS h E
 rename_i hx;have hx:=JS _ _ _ (Ln.1 hx);have I:=KZ _ _ _ h;refine⟨λx H=>?_,λx H=>?_⟩
 ·have E:=hx x H;unfold JA at E;split at E
  ·cases E
  rename_i G;exact⟨(VN _ _ _ E).2.1,G⟩
 have E:=I x H;unfold JU at E;split at E
 ·cases E
 split at E
 ·rename_i G;exact OS E G
 rename_i G;exact(VL _ _ _ (Ln.1 G)).2.1
theorem Qd9 (all:List ZQ):∀(l:List YU) (r:List ZQ) (z:Zx),Kn all (l.map (Y2 1)++r) z=Kn all r { z with co:=z.co++l }
 | [],r,z=>by rw[LK];rfl
 | x::l,r,z=>by
  have e:XG all (Y2 1 x) z=(0,{ z with co:=z.co++[x] }):=by unfold XG;rw[OQ (show(Y2 1 x).kd=1 from rfl)];rfl
  rw[LE,L5,Kn,e,OP oe,Qd9 all l r];simp[oT]
theorem Qd6 (all:List ZQ):∀(l:List YU) (r:List ZQ) (z:Zx),Kn all (l.map (Y2 2)++r) z=Kn all r { z with rq:=z.rq++l }
 | [],r,z=>by rw[LK];rfl
 | x::l,r,z=>by
  have e:XG all (Y2 2 x) z=(0,{ z with rq:=z.rq++[x] }):=by unfold XG;rw[OP (show ¬(Y2 2 x).kd=1 from(by decide:¬((2:Int)=1))),OQ (show(Y2 2 x).kd=2 from rfl)];rfl
  rw[LE,L5,Kn,e,OP oe,Qd6 all l r];simp[oT]
def CoF (all:List ZQ)(co:List YU):Prop:=∀i (h:i<co.length),Jy all 1 (co[i]'h).nm=true/\Z4 all 1 (co[i]'h).nm=i
theorem Qnv {rest:List ZQ}(I:(co.map (·.nm)).Nodup):CoF (co.map (Y2 1)++rest) co:=by
 intro i h;have hl:i<(co.map (Y2 1)++rest).length:=by rw[Ll,Lh];omega
 have G:∀j (E:j<co.length) (H:j<(co.map (Y2 1)++rest).length),(co.map (Y2 1)++rest)[j]'H=Y2 1 (co[j]'E):=λj E H=>by
  rw[MT (by rw[Lh];exact E),LM]
 have e:Z4 (co.map (Y2 1)++rest) 1 (co[i]'h).nm=i:=by
  unfold Z4;refine(List.findIdx_eq hl).2 ⟨?_,λj E=>?_⟩
  ·rw[G i h hl];simp[KX,Y2]
  rw[G j oa oa];have J:(co[j]'oa).nm≠(co[i]'h).nm:=λe=>by
   have O:j<(co.map (·.nm)).length:=by rw[Lh];omega
   have S:i<(co.map (·.nm)).length:=by rw[Lh];omega
   have:=(List.getElem_inj (h₀:=O) (h₁:=S) I).1 (by rw[LM,LM];exact e);omega
  simp[KX,Y2,J]
 exact⟨by unfold Jy;rw[e];exact OT hl,e⟩
theorem Qd2 {all:List ZQ}{co:List YU}(I:CoF all co):∀(ls:xq) (r:List (ByteArray×Int)) (tk:LI) (o:xq),Ku co ls=some r->(ls.map (·.1)).Nodup->(∀p∈ls,p.1∉tk) ->
  Yj all r tk o=(0,isrt (·.1) (o++ls))
 | [],r,tk,o,h,_,_=>by
  rw[Ku]at h;cases h
  rw[Yj,LK]
 | y::ls,r,tk,o,h,V,J=>by
  rw[Ku]at h;cases E:qp co y.1 with
  | none=>rw[E]at h;cases h
  | some n =>
   rw[E]at h;obtain⟨Y,ha,rfl⟩:=Mb.1 h;unfold qp at E;split at E
   ·cases E
   rename_i hb;have H:y.1.toNat<co.length:=oa
   have hc:n=(co[y.1.toNat]'H).nm:=by have:=Option.some.inj E;rw[<-this];simp[oP,H]
   obtain⟨O,S⟩:=I y.1.toNat H;rw[<-hc]at O S;have e1:((Z4 all 1 n:Nat):Int)=y.1:=by rw[S];omega
   obtain⟨n1,n2⟩:=M0.1 (show(y.1::ls.map (·.1)).Nodup from V);rw[Yj,OP (by rw[O];decide),e1,OP (J y Lq),Qd2 I ls Y _ _ ha n2 (λp T G=>?_),LA]
   ·rfl
   rcases Lc.1 G with G|G
   ·exact J p (Lj _ T) G
   rw[Lb]at G;exact n1 (by rw[<-G];exact LJ T)
theorem QbB {all:List ZQ}(G:CoF all co){r:List (ByteArray×Int)}(h:Ku co ls=some r)(hi:Xk (ls.map (·.1))):Yj all r [] []=(0,ls):=by
 have E:(ls.map (·.1)).Nodup:=hi.imp λh=>oa
 rw[Qd2 G ls r [] [] h E (λ_ _=>oe),L8];exact OR (Prod.mk 0) (QdP (λp:Int×Int=>p.1) (List.Perm.refl _) (MF.1 (hi.imp λh=>oa)) E).symm
theorem Qd7 {all:List ZQ}{co:List YU}(E:CoF all co):∀(l:List UA) (a r:List ZQ) (z:Zx),X6 co l=some a->(∀x∈l,Xk (x.ls.map (·.1)))->Kn all (a++r) z=Kn all r { z with ex:=z.ex++l }
 | [],a,r,z,h,_=>by
  rw[X6]at h;cases h
  rw[LK];rfl
 | x::l,a,r,z,h,hi=>by
  rw[X6]at h;cases hx:Ku co x.ls with
  | none=>rw[hx]at h;cases h
  | some n =>
   rw[hx]at h;obtain⟨G,H,rfl⟩:=Mb.1 h;have e:XG all ⟨3,x.nm,KB,n,[],0⟩ z=(0,{ z with ex:=z.ex++[x] }):=by
    unfold XG;simp only[];rw[OP (show ¬((3:Int)=1) by decide),OP (show ¬((3:Int)=2) by decide),OQ trivial];rw[QbB E hx (hi x Lq)];rfl
   rw[L5,Kn,e,OP oe,Qd7 E l G r _ H λy I=>hi y (Lj _ I)];simp[oT]
theorem Qd8 {all:List ZQ}{co:List YU}(E:CoF all co):∀(l:List xG) (a r:List ZQ) (z:Zx),Je co l=some a->(∀x∈l,Xk (x.ts.map (·.1)))->Kn all (a++r) z=Kn all r { z with cs:=z.cs++l }
 | [],a,r,z,h,_=>by
  rw[Je]at h;cases h
  rw[LK];rfl
 | x::l,a,r,z,h,hi=>by
  rw[Je]at h;cases hx:Ku co x.ts with
  | none=>rw[hx]at h;cases h
  | some n =>
   rw[hx]at h;obtain⟨G,H,rfl⟩:=Mb.1 h;have e:XG all ⟨4,x.nm,KB,[],n,x.bd⟩ z=(0,{ z with cs:=z.cs++[x] }):=by
    unfold XG;simp only[];rw[OP (show ¬((4:Int)=1) by decide),OP (show ¬((4:Int)=2) by decide),OP (show ¬((4:Int)=3) by decide),OQ trivial];rw[QbB E hx (hi x Lq)];rfl
   rw[L5,Kn,e,OP oe,Qd8 E l G r _ H λy I=>hi y (Lj _ I)];simp[oT]
theorem VI (h:(ZE c).1=0):∃a b,X6 c.co c.ex=some a/\Je c.co c.cs=some b/\(ZE c).2=c.co.map (Y2 1)++(c.rq.map (Y2 2)++(a++b))/\Jw (ZE c).2=0:=by
 unfold ZE Qd3 at *;cases G:X6 c.co c.ex with
 | none=>rw[G]at h;simp at h
 | some a =>
  cases H:Je c.co c.cs with
  | none=>rw[G,H]at h;simp at h
  | some b =>
   rw[G,H]at h;simp only[]at h ⊢;by_cases E:Jw (c.co.map (Y2 1)++(c.rq.map (Y2 2)++(a++b)))≠0
   ·rw[OQ E]at h;exact OS h E
   rw[OP E];exact⟨a,b,U,U,U,Ln.1 E⟩
theorem Qio (h:Zi c=0)(hd:(ZE c).1=0):KA c.ev (ZE c).2=(0,c):=by
 obtain⟨a,b,I,J,e,O⟩:=VI hd;have G:=js.1 h;have E:CoF (ZE c).2 c.co:=by rw[e];exact Qnv (QbL G.co).1
 obtain⟨hx,S⟩:=jr G.cd;unfold KA;rw[OP (not_not_intro O)];refine Zo (ZE c).2 λall T=>?_;rw[T]at e E ⊢;conv=>lhs;arg 2;rw[e]
 rw[Qd9,Qd6,Qd7 E c.ex a b _ I (λx V=>(hx x V).1)];have H:=Qd8 E c.cs b [] (⟨c.ev,[]++c.co,[]++c.rq,[]++c.ex,[]⟩) J S;rw[LK]at H;refine H.D ?_;rw[Kn];rfl
abbrev dky (x:ZQ):Ky:=(x.kd,x.nm)
theorem Ul {k:Int}{n:ByteArray}{x:ZQ}:KX k n x=true↔dky x=(k,n):=by
 unfold KX dky;rw[Lu,decide_eq_true_iff,decide_eq_true_iff,Prod.mk.injEq]
theorem Qij {l:List ZQ}{k:Int}{n:ByteArray}:Jy l k n=true↔(k,n)∈l.map dky:=by
 unfold Jy Z4;rw[decide_eq_true_iff];constructor
 ·intro h;have E:=List.findIdx_getElem (w:=h);exact LC.2 ⟨_,Lk h,Ul.1 E⟩
 intro h;obtain⟨x,hx,e⟩:=LC.1 h;exact List.findIdx_lt_length_of_exists ⟨x,hx,Ul.2 e⟩
structure KOk (ks:List Ky):Prop where
 n:ks.length<=76
 kd:∀k (h:k<ks.length),1<=(ks[k]'h).1/\(ks[k]'h).1<=4
 nm:∀k (h:k<ks.length),JE (ks[k]'h).2=true
 no:∀k (h:k<ks.length),ks[k]'h∉ks.take k
 or:∀k (h:k<ks.length),0<k->(ks[k - 1]'oa).1<=(ks[k]'h).1
theorem Qd1 {l:List ZQ}{k:Nat}(h:k<l.length):dk1 l k (l[k]'h)=0↔((1<=(l[k]'h).kd/\(l[k]'h).kd<=4)/\JE (l[k]'h).nm=true/\dky (l[k]'h)∉(l.map dky).take k/\(0<k->((l[k - 1]'oa).kd<=(l[k]'h).kd))/\zj (l[k]'h)=true):=by
 have S:((l.getD (k - 1) ⟨0,.empty,KB,[],[],0⟩))=l[k - 1]'oa:=by rw[List.getD_eq_getElem?_getD,LU oa];rfl
 have J:Jy (l.take k) (l[k]'h).kd (l[k]'h).nm=true↔dky (l[k]'h)∈(l.map dky).take k:=by rw[Qij,Nr]
 unfold dk1;rw[S];constructor
 ·intro E;split at E
  ·cases E
  rename_i T;split at E
  ·cases E
  rename_i G;split at E
  ·cases E
  rename_i H;split at E
  ·cases E
  rename_i O;split at E
  ·cases E
  rename_i I;exact⟨oa,oy G,λe=>H (J.2 e),λV=>oa,oy I⟩
 rintro⟨T,G,H,O,I⟩;rw[OP oa,OP (by rw[G];decide),OP (λe=>H (J.1 e)),OP (λe=>ot (O e.1)),OP (by rw[I];decide)]
theorem qR {l:List ZQ}:∀(r:List ZQ) (i:Nat),dkL l i r=0↔∀k (h:k<r.length),dk1 l (i+k) (r[k]'h)=0
 | [],i=>⟨λ_ k h=>by simp at h,λ_=>rfl⟩
 | x::r,i=>by
  rw[dkL];constructor
  ·intro h k E;split at h
   ·rename_i G;exact OS h G
   rename_i G;cases k with
   | zero=>exact Ln.1 G
   | succ k =>
    have:=(qR r (i+1)).1 h k (oy E);rw[show i+(k+1)=i+1+k by omega];exact this
  intro h;have H:dk1 l i x=0:=h 0 oe;rw[OP (not_not_intro H)];refine(qR r (i+1)).2 λk E=>?_;have:=h (k+1) (oy E);rw[show i+1+k=i+(k+1) by omega];exact this
theorem Uj {l:List ZQ}:Jw l=0↔KOk (l.map dky)/\∀x∈l,zj x=true:=by
 unfold Jw;constructor
 ·intro h;split at h
  ·cases h
  rename_i T;have J:=(qR l 0).1 h;have G:∀k (E:k<l.length),_:=λk E=>(Qd1 E).1 (by have:=J k E;rw[LQ]at this;exact this);refine⟨⟨by rw[Lh];omega,λk E=>?_,λk E=>?_,λk E=>?_,λk E I=>?_⟩,λx hx=>?_⟩
  ·rw[LM];exact(G k (oy E)).1
  ·rw[LM];exact(G k (oy E)).2.1
  ·rw[LM];exact(G k (oy E)).2.2.1
  ·rw[LM,LM];exact(G k (oy E)).2.2.2.1 I
  obtain⟨k,E,rfl⟩:=LP hx;exact(G k E).2.2.2.2
 rintro⟨h,O⟩;have S:=h.n;rw[Lh]at S;rw[OP oa];refine(qR l 0).2 λk E=>?_;rw[LQ];have H:k<(l.map dky).length:=by rw[Lh];exact E
 refine(Qd1 E).2 ⟨?_,?_,?_,λI=>?_,O _ (Lk E)⟩
 ·have:=h.kd k H;rwa [LM]at this
 ·have:=h.nm k H;rwa [LM]at this
 ·have:=h.no k H;rwa [LM]at this
 have:=h.or k H I;rwa [LM,LM]at this
theorem Qik {l:List ZQ}(h:KOk (l.map dky)){k:Nat}(E:k<l.length):Jy l (l[k]'E).kd (l[k]'E).nm=true/\Z4 l (l[k]'E).kd (l[k]'E).nm=k:=by
 have e:Z4 l (l[k]'E).kd (l[k]'E).nm=k:=by
  unfold Z4;refine(List.findIdx_eq E).2 ⟨Ul.2 U,λj I=>?_⟩;refine Bool.eq_false_iff.2 λe=>?_;have H:=Ul.1 e;have G:=h.no k (by rw[Lh];exact E);rw[LM]at G;refine G ?_;rw[<-Nr];exact LC.2 ⟨l[j]'oa,List.mem_take_iff_getElem.2 ⟨j,oa,U⟩,H⟩
 exact⟨by unfold Jy;rw[e];exact OT E,e⟩
theorem Qlb {l:List ZQ}(h:Jw l=0){x y:ZQ}(hx:x∈l)(H:dky y=dky x)(I:zj y=true):Jw [y]=0:=by
 obtain⟨G,_⟩:=Uj.1 h;obtain⟨k,J,rfl⟩:=LP hx;have E:k<(l.map dky).length:=by rw[Lh];exact J
 have e:(l.map dky)[k]'E=dky y:=by rw[LM,H]
 have a:=G.kd k E;have b:=G.nm k E;rw[e]at a b;refine Uj.2 ⟨⟨oe,λi hi=>?_,λi hi=>?_,λi hi=>?_,λi hi S=>?_⟩,λz O=>by rw[List.mem_singleton.1 O];exact I⟩
 ·have:i=0:=by simpa using hi
  subst this;exact a
 ·have:i=0:=by simpa using hi
  subst this;exact b
 ·have:i=0:=by simpa using hi
  subst this;simp
 have:i=0:=by simpa using hi
 omega
theorem Qla {l:List ZQ}{k:Nat}(E:k<l.length){y:ZQ}(h:dky y=dky (l[k]'E)):(l.set k y).map dky=l.map dky:=by
 rw[OL,h];have:dky (l[k]'E)=(l.map dky)[k]'(by rw[Lh];exact E):=by rw[LM]
 rw[this,List.set_getElem_self]
theorem Qlg {l:List ZQ}(h:Jw l=0){k:Nat}(E:k<l.length){y:ZQ}(G:dky y=dky (l[k]'E))(H:zj y=true):VH l y=(0,l.set k y)/\Jw (l.set k y)=0:=by
 obtain⟨I,J⟩:=Uj.1 h;obtain⟨O,S⟩:=Qik I E;have e1:y.kd=(l[k]'E).kd:=OR Prod.fst G;have e2:y.nm=(l[k]'E).nm:=OR Prod.snd G;constructor
 ·unfold VH;rw[OP (not_not_intro h),OP (not_not_intro (Qlb h (Lk E) G H)),e1,e2,OQ O,S]
 refine Uj.2 ⟨by rw[Qla E G];exact I,λx hx=>?_⟩;rcases MI hx with hx|rfl
 ·exact J x hx
 exact H
theorem Qfs {l:List ZQ}(h:Jw l=0){x:ZQ}(hx:x∈l):VH l x=(0,l):=by
 obtain⟨k,E,rfl⟩:=LP hx;rw[(Qlg h E rfl ((Uj.1 h).2 _ hx)).1,List.set_getElem_self]
def Uo (a:Q2):Q2:=⟨a.al,a.st,Vl a.st.toNat,a.ed⟩
structure POk (p:xF):Prop where
 e:YS p.c=0
 sp:p.sp=suA p.c
 kp:p.kp=(qv p.c).1
 ds:p.ds=(qv p.c).2.1
 rm:p.rm=(qv p.c).2.2
theorem POk.new {v:Int}{m:Ux}(h:YS (JC c m)=0):POk (V6 c v m):=⟨h,U,U,U,U⟩
structure yy (c:Zx)(ps:List xF):Prop where
 ck:Zi c=0
 mc:∀m∈O5 c,y9 c m=0/\YS (JC c m)=0
 ky:ps.map (·.ky)=(O5 c).map (ZY c)
 cc:ps.map (·.c)=(O5 c).map (JC c)
 ok:∀p∈ps,POk p
theorem Qg0 {l:List xF}{k:Ky}{p:xF}(h:qn l k=some p):p∈l/\p.ky=k:=by
 unfold qn at h;have E:=List.find?_some h;exact⟨List.mem_of_find?_eq_some h,oy E⟩
theorem QoV {v:Int}{m:Ux}(I:∀p∈bf,POk p)(h:(JX c bf v m).1=0):y9 c m=0/\YS (JC c m)=0/\POk (JX c bf v m).2.1/\(JX c bf v m).2.1.c=JC c m/\(JX c bf v m).2.1.ky=ZY c m:=by
 refine⟨?_,?_,?_,?_,QnH c bf v m⟩
 all_goals unfold JX at *
 ·by_cases E:y9 c m≠0
  ·rw[OQ E]at h;exact OS h E
  exact Ln.1 E
 all_goals
  by_cases E:y9 c m≠0
  ·rw[OQ E]at h;exact OS h E
  rw[OP E]at h
  try rw[OP E]
  cases H:qn bf (ZY c m)with
  | none =>
   rw[H]at h
   first|exact h|exact POk.new h|rfl
  | some p =>
   rw[H]at h;obtain⟨J,_⟩:=Qg0 H;simp only[]at h ⊢;by_cases G:p.c=JC c m
   ·first|exact G ▸ (I p J).e|(rw[OQ G];first|exact I p J|exact G)
   rw[OP G]at h
   first|exact h|(rw[OP G];first|exact POk.new h|rfl)
theorem QiZ {c:Zx}{bf:List xF}{v:Int}:∀(l:List Ux) (o:List xF) (k n:List Ky),(blL c bf v l o k n).1=0->(∀m∈l,(JX c bf v m).1=0)
 | [],_,_,_,_,_,E=>by cases E
 | m::l,o,k,n,h,m',E=>by
  rw[blL]at h;by_cases G:(JX c bf v m).1≠0
  ·rw[OQ G]at h;exact OS h G
  rw[OP G]at h;rcases Li.1 E with rfl|E
  ·exact Ln.1 G
  split at h
  ·exact QiZ l _ _ _ h m' E
  exact QiZ l _ _ _ h m' E
theorem Qi0 {c:Zx}{bf:List xF}{v:Int}:∀(l:List Ux) (o:List xF) (k n:List Ky),(∀m∈l,(JX c bf v m).1=0) ->
  blL c bf v l o k n=(0,o++l.map (λm=>(JX c bf v m).2.1),k++(l.filter λm=>(JX c bf v m).2.2).map (ZY c),n++(l.filter λm=>!(JX c bf v m).2.2).map (ZY c))
 | [],o,k,n,_=>by rw[blL];simp
 | m::l,o,k,n,h=>by
  have ih:=λo k n=>Qi0 l o k n λx hx=>h x (Lj _ hx);rw[blL,OP (not_not_intro (h m Lq))];cases E:(JX c bf v m).2.2 with
  | true=>rw[OQ rfl,ih];simp[E,oT]
  | false=>rw[OP og,ih];simp[E,oT]
theorem QiY {v:Int}(h:JF c bf v=0):Zi c=0/\∀m∈O5 c,(JX c bf v m).1=0:=by
 unfold JF at h;by_cases E:Zi c≠0
 ·rw[OQ E]at h;exact OS h E
 rw[OP E]at h;exact⟨Ln.1 E,QiZ (O5 c) [] [] [] h⟩
theorem Qao {v:Int}(h:∀m∈O5 c,(JX c bf v m).1=0):UX c bf v=(0,(O5 c).map (λm=>(JX c bf v m).2.1),((O5 c).filter λm=>(JX c bf v m).2.2).map (ZY c),((O5 c).filter λm=>!(JX c bf v m).2.2).map (ZY c)):=by
 unfold UX;rw[Qi0 _ _ _ _ h,L8,L8,L8]
theorem QiU {v:Int}(J:∀p∈bf,POk p)(h:JF c bf v=0):yy c (yf c bf v):=by
 obtain⟨O,H⟩:=QiY h;have G:=λm E=>QoV J (H m E);have e:yf c bf v=(O5 c).map (λm=>(JX c bf v m).2.1):=by unfold yf;rw[Qao H]
 refine⟨O,λm E=>⟨(G m E).1,(G m E).2.1⟩,?_,?_,λp I=>?_⟩
 ·rw[e,MB];exact MO λm E=>(G m E).2.2.2.2
 ·rw[e,MB];exact MO λm E=>(G m E).2.2.2.1
 rw[e]at I;obtain⟨m,E,rfl⟩:=LC.1 I;exact(G m E).2.2.1
theorem yy.fnd {ps:List xF}(h:yy c ps){m:Ux}(H:m∈O5 c):∃p∈ps,qn ps (ZY c m)=some p/\p.c=JC c m:=by
 obtain⟨i,hi,rfl⟩:=LP H;have hl:ps.length=(O5 c).length:=by have:=OR oO h.ky;rwa [Lh,Lh]at this
 have E:i<ps.length:=oa
 have ek:∀j (G:j<ps.length),(ps[j]'G).ky=ZY c ((O5 c)[j]'oa):=λj G=>by
  have:=List.getElem_of_eq h.ky (i:=j) (by rw[Lh];exact G)
  rwa [LM,LM]at this
 have ec:(ps[i]'E).c=JC c ((O5 c)[i]'hi):=by
  have:=List.getElem_of_eq h.cc (i:=i) (by rw[Lh];exact E)
  rwa [LM,LM]at this
 refine⟨ps[i]'E,Lk E,?_,ec⟩;unfold qn;have I:(ps.map (·.ky)).Nodup:=by rw[h.ky];exact zB h.ck
 rw[List.find?_eq_some_iff_getElem];refine⟨OT (ek i E),i,E,U,λj G=>?_⟩;have J:(ps[j]'oa).ky≠ZY c ((O5 c)[i]'hi):=λe=>by
  rw[<-ek i E]at e;have O:j<(ps.map (·.ky)).length:=by rw[Lh];omega
  have S:i<(ps.map (·.ky)).length:=by rw[Lh];omega
  have:=(List.getElem_inj (h₀:=O) (h₁:=S) I).1 (by rw[LM,LM];exact e);omega
 simpa using J
theorem QiW {E:Zx}{ps:List xF}(h:yy c ps)(H:O5 E=O5 c)(I:∀m,ZY E m=ZY c m)(T:Zi E=0)(O:∀m∈O5 c,y9 E m=0/\YS (JC E m)=0)(v:Int):
  JF E ps v=0/\(Y4 E ps v).made=((O5 c).filter λm=>!decide (JC c m=JC E m)).map (ZY c)/\(Y4 E ps v).gone=[]:=by
 have S:∀m∈O5 c,(JX E ps v m).1=0/\(JX E ps v m).2.2=decide (JC c m=JC E m):=λm G=>by
  obtain⟨p,_,J,V⟩:=h.fnd G;unfold JX;rw[OP (not_not_intro (O m G).1),I,J];simp only[];rw[V];by_cases e:JC c m=JC E m
  ·rw[OQ e,OT e];exact⟨U,U⟩
  rw[OP e,OV e];exact⟨(O m G).2,U⟩
 have Y:∀m∈O5 E,(JX E ps v m).1=0:=λm G=>(S m (H ▸ G)).1;have e:=Qao Y;refine⟨?_,?_,?_⟩
 ·unfold JF;rw[OP (not_not_intro T),e]
 ·unfold Y4;rw[e,H];show List.map _ _=_;rw[MO (λm _=>I m),List.filter_congr λm G=>by rw[(S m G).2]]
 unfold Y4 QoU;show List.map _ _=_;rw[MN.2]
 ·rfl
 intro p J;have:p.ky∈(O5 E).map (ZY E):=by
  rw[H,MO (λm _=>I m),<-h.ky];exact LJ J
 simp only[decide_eq_true_eq];exact λhn=>hn this
abbrev Pts (L:LN)(H:xu)(v:OY)(l:List qz):Prop:=Go.Lg.KE ZR 15 qf L H v l
structure StV where
 c:CL
 vp:OY
 ps:List qz
structure StA (L:LN)(H:xu)(q:StV):Prop where
 c:ZJ L H q.c
 p:Pts L H q.vp q.ps
theorem StA.st {L:LN}{w w':OX}{q:StV}(h:StA L w.heap q)(E:O1 L w w'):StA L w'.heap q:=⟨h.c.st E,h.p.st E⟩
theorem StA.up {L L':LN}{H:xu}{q:StV}(h:StA L H q)(E:∀b∈L',b∈L\/H.size<=b):StA L' H q:=⟨h.c.up E,h.p.up E⟩
instance:Mm StA:=⟨StA.st,StA.up⟩
def StV.st (q:StV):Zx×List xF:=(q.c.V,q.ps.map (·.pt))
structure UnV where
 b1:Nat
 b2:Nat
 s:StV
structure Kr where
 b:Nat
 s:StV
 made:Int
 vr:OY
 rs:List qe
 vu:OY
 us:List UnV
abbrev jM (s:Kr):LV:=[s.s.c.ve,s.s.c.vc,s.s.c.vr,s.s.c.vx,s.s.c.vk,s.s.vp,oE oF s.made,s.vr,s.vu]
def Kr.own (s:Kr):LN:=s.b::(ob s.vr++ob s.vu)
def Kr.sys (s:Kr):Sys:=⟨s.s.c.V,s.s.ps.map (·.pt),s.made,s.rs.map (·.rp),s.us.map λu=>u.s.st⟩
abbrev KJ (u:UnV):OY:=.func (.func 48) #[] #[.pointer (some ⟨u.b1,0,none⟩),.pointer (some ⟨u.b2,0,none⟩)]
structure UnA (L:LN)(H:xu)(u:UnV):Prop where
 a1:At L H ⟨u.b1,0,none⟩ u.s.c.cells
 a2:At L H ⟨u.b2,0,none⟩ [u.s.vp]
 s:StA L H u.s
theorem UnA.st {L:LN}{w w':OX}{u:UnV}(h:UnA L w.heap u)(E:O1 L w w'):UnA L w'.heap u:=⟨h.a1.st E,h.a2.st E,StA.st h.s E⟩
theorem UnA.up {L L':LN}{H:xu}{u:UnV}(h:UnA L H u)(E:∀b∈L',b∈L\/H.size<=b):UnA L' H u:=⟨h.a1.up E,h.a2.up E,h.s.up E⟩
instance:Mm UnA:=⟨UnA.st,UnA.up⟩
structure Vu (L:LN)(w:OX)(s:Kr):Prop where
 blk:∃T,Q9 w.heap s.b T (jM s)
 rr:w.ownsRow 0 53 3 s.vr s.rs.length (s.rs.flatMap Zr)
 ru:w.ownsRow 0 139 1 s.vu s.us.length (s.us.map KJ)
 d1:s.b∉ob s.vr
 d2:s.b∉ob s.vu
 d3:∀b∈ob s.vr,b∉ob s.vu
 sub:∀b∈s.own,b∈L
 st:StA L w.heap s.s
 rA:∀q∈s.rs,Kw L w.heap q
 uA:∀q∈s.us,UnA L w.heap q
theorem Vu.lt {L:LN}{w:OX}{s:Kr}(h:Vu L w s):∀b∈s.own,b<w.heap.size:=λb E=>by
 unfold Kr.own at E;rcases Li.1 E with rfl|E
 ·obtain⟨T,G⟩:=h.blk;exact G.lt
 rcases Lc.1 E with E|E
 ·exact(Qi h.rr b E).2
 exact(Qi h.ru b E).2
theorem Vu.J {L X:LN}{w w':OX}{s:Kr}(h:Vu L w s)(E:O1 X w w')(G:∀b∈X,b∈L\/w.heap.size<=b)(H:∀b∈s.own,b∉X):Vu L w' s:=by
 have O:s.b∉X:=H _ Lq;have S:∀b∈ob s.vr,b∉X:=λb I=>H b (Lj _ (Lc.2 (.inl I)));have V:∀b∈ob s.vu,b∉X:=λb I=>H b (Lj _ (Lc.2 (.inr I)));obtain⟨T,Y⟩:=h.blk;exact⟨⟨T,Y.J E O⟩,Qf h.rr E S,Qf h.ru E V,h.d1,h.d2,h.d3,h.sub,Mm.J h.st E G,λq J=>Mm.J (h.rA q J) E G,λq J=>Mm.J (h.uA q J) E G⟩
theorem Vu.I {s:Kr}(h:Vu L w s)(E:O1 [] w w'):Vu L w' s:=h.J E (λ_ G=>by cases G) (λ_ _=>oe)
theorem Vu.up {L L':LN}{w:OX}{s:Kr}(h:Vu L w s)(E:∀b∈L',b∈L\/w.heap.size<=b)(H:∀b∈s.own,b∈L'):Vu L' w s :=
 ⟨h.blk,h.rr,h.ru,h.d1,h.d2,h.d3,H,h.st.up E,λq G=>(h.rA q G).up E,λq G=>(h.uA q G).up E⟩
section
variable {pS:String}
theorem Qpu {C:xt}{e bys:Nat}{x G:OZ}{v:OY}{k:IntKind}[h:Sl P t e sz bys z]
  (I:QV ops E=⟨d,.slice t x none (some G) none,ty,pS,af,gd⟩) (J:Zm L H v n sz cs) (hx:ev f x=v) (O:ev f G=.int k hi) (S:hi<=n)
  (hK:∀v',Zm L H v' hi sz (cs.take (hi*sz))->XP P ops C K pl (QT f d v') w)
  (T:Ya ops f (QV ops E)=true:=by rfl):XP P ops C K ((E,true)::pl) f w:=by
 obtain⟨v',V,Y⟩:=QaY (P:=P) (d:=d) (ty:=ty) (pS:=pS) (af:=af) (gd:=gd) (t:=t) J hx O S;exact Lg.p (λw'=>by rw[I];exact Y w') (by rw[I];exact hK v' V) T
end
theorem Jm {v:OY}{es:List DV}(h0:Ke L w.heap v es):
  Q3 prog 80 [v] w λr w'=>r=oE oF (Jw (es.map DV.it))/\O1 [] w w':=by
 have h:=h0.up (L':=[]) oe;have hQ:=h.arr.le;have ha:Jw (es.map DV.it)=if 76<es.length then 3 else dkL (es.map DV.it) 0 (es.map DV.it):=by unfold Jw;rw[Lh]
 refine Zq func80 ?_;refine Qc<|Qb<|Qd<|Qm<|QI h.arr U<|x (Yg U U)<|xe<|QX rfl (λh9=>?_) (λh9=>?_)
 ·have hh:76<es.length:=by have h8:(76:Int)<(es.length:Int):=h9;omega
  refine Qc<|Qb<|Qk ⟨[_],La,by rw[ha,OQ hh];rfl,O1.Z _ _⟩
 have hh:¬76<es.length:=by have h8:¬(76:Int)<(es.length:Int):=h9;omega
 rw[OP hh]at ha;refine Zo (Jw (es.map DV.it)) λE hE=>?_;rw[hE]at ha;refine Qh<|Qd<|Qm<|QI h.arr U<|Qa<|xe<|Qg<|QD (α:=Nat) [(2,6),(12,62)] (λz=>[(12,oE oF z)]) (λz w'=>z<=es.length/\O1 [] w w'/\dkL (es.map DV.it) z ((es.map DV.it).drop z)=E) (λz=>es.length - z) ol 0 La ⟨Lo _,O1.Z _ _,ha.symm⟩ ?_;rintro k g w1 ⟨hk,hj,hd⟩;refine Qc<|Q0 U U<|xe<|Qd<|QH U (λhl=>?_) (λhl=>?_)
 ·refine Qz ?_;have hA:es.length<=k:=by have hB:¬(k:Int)<(es.length:Int):=hl;omega
  rw[Lp (by rw[Lh];exact hA)]at hd;refine Qc<|Qb<|Qk ⟨[oE oF 0],La,by rw[hE,<-hd];rfl,hj⟩
 have H:k<es.length:=by have hB:(k:Int)<(es.length:Int):=hl;omega
 have hC:k<(es.map DV.it).length:=by rw[Lh];exact H
 rw[LD hC,LM,dkL]at hd;have h2:=Lk H;have hD:(es.map DV.it).take k=(es.take k).map DV.it:=Nr.symm;have G:dk1 (es.map DV.it) k (es[k]'H).it=if(es[k]'H).kd<1\/4<(es[k]'H).kd then 11 else if JE (es[k]'H).nm=false then 7 else if Jy ((es.take k).map DV.it) (es[k]'H).kd (es[k]'H).nm=true then 8 else if 0<k/\(es[k]'H).kd<((es.map DV.it).getD (k - 1) ⟨0,.empty,KB,[],[],0⟩).kd then 5 else if zj (es[k]'H).it=false then 6 else 0:=by
  unfold dk1;rw[hD];rfl
 have h1:=h.I hj;refine Qh<|Qd<|Qg<|Qm<|O4 (g:=Qt) (i:=k) ZW h1.arr U U H λhR h4=>?_;refine Zo (es[k]'H) λq hq=>?_;rw[hq]at h4 h2 G hd;have hm:=h1.each q h2;refine x (Qx h4 U U)<|Qe<|Qo (us:=[oE oF 0,.string .empty,nS,oE oF 0,nS,nS,nS,nS,oE oF 0]) U λb4 w2 hF hG hH=>x Ql <|
  Qe<|Qj (us:=Qt q) hH U U U U hm.ones λO hI hn=>xe ?_
 have ho:O1 [] w1 O:=hF.O hI hG;have hJ:=hj.D ho;have h3:=h1.I ho;have S:∀e:Int,e≠0->dk1 (es.map DV.it) k q.it=e->E=e:=λe he h=>by rw[h,OQ he]at hd;exact hd.symm
 have h5:O1 [] O { O with drawn:=O.drawn+1 }:=O1.C _ _
 refine Qd<|ZI [] (Xx 0 13 [7])<|p QF<|p QF<|Qpu (hi:=k) U h3.arr U U oa λv' hK=>p (QR U)<|pq (λ_ J=>Qr (hn.I J) U U) <|
  p (QR rfl)<|pq (λ_ J=>Qr (hn.I J) U U)<|?_
 have hL:Zm [] O.heap v' (es.take k).length 9 ((es.take k).flatMap Qt):=by
  rw[Ly,Ml oa,<-jg Qt 9 ZW];exact hK
 refine pk<|xg<|(qU (hL.I h5) q.kd q.nm).mono ?_;rintro r4 w4 ⟨⟨i,rfl,_⟩,hM⟩;have T:O1 [] O w4:=h5.D hM;refine⟨T,?_⟩;refine p QF<|p (λ_=>Zn U U)<|p (λ_=>Zn U U)<|p ZM<|p ZM<|pe ?_;have V:=hn.I T;have hb:=hJ.D T;refine Qg<|Za (α:=Bool) [(28,36)] (λz=>[(28,.bool z)]) (λz w'=>w'=w4/\(z=true↔(q.kd<1\/4<q.kd))) ol ?_ ?_
 ·refine Qw<|Qs U V U U<|xb (YP U U) (λhr=>?_) (λhr=>?_)
  ·refine Qa<|Qp<|Qp<|Qp<|QG U<|Qb<|⟨true,La,U,⟨λ_=>.inl hr,λ_=>U⟩⟩
  refine Qa<|Qs U V U U<|x (Yg U U)<|QG U<|Qb<|⟨_,La,U,⟨λe=>.inr (OU e),λe=>OT (e.resolve_left hr)⟩⟩
 rintro z g w5 ⟨rfl,Y⟩;refine QQ rfl (λhf=>?_) (λhf=>?_)
 ·rw[OQ (Y.1 hf)]at G;have I:=S 11 og G;refine Qc<|Qb<|Qk ⟨[oE oF 11],La,by rw[hE,I];rfl,hb⟩
 rw[OP (λe=>by rw[Y.2 e]at hf;cases hf)]at G;refine Qc<|Qs U V U U<|QM<|(Vi q.nm hm.nm w5).mono ?_;rintro r6 w6 ⟨rfl,rfl⟩;refine x (ZC U)<|Qb<|QQ U (λhs=>?_) (λhs=>?_)
 ·rw[OQ (oy hs)]at G;have I:=S 7 og G;refine Qc<|Qb<|Qk ⟨[oE oF 7],La,by rw[hE,I];rfl,hb⟩
 rw[OP (oy hs)]at G;refine Qm<|Qb<|QQ U (λht=>?_) (λht=>?_)
 ·rw[OQ ht]at G;have I:=S 8 og G;refine Qc<|Qb<|Qk ⟨[oE oF 8],La,by rw[hE,I];rfl,hb⟩
 rw[OP (by rw[ht];decide)]at G;have h6:=h3.I T;refine Za (α:=Bool) [(44,57)] (λz=>[(44,.bool z)]) (λz w'=>O1 [] w6 w'/\(z=true↔(0<k/\q.kd<((es.map DV.it).getD (k - 1) ⟨0,.empty,KB,[],[],0⟩).kd))) ol ?_ ?_
 ·refine ZI [] (Xx 0 14 [])<|p QF<|pb (λ_=>Yg U U) (λhu=>?_) (λhu=>?_)
  ·have hN:0<k:=by have hS:(0:Int)<(k:Int):=hu;omega
   have hp:k - 1<es.length:=oa
   have hge:((es.map DV.it).getD (k - 1) ⟨0,.empty,KB,[],[],0⟩).kd=(es[k - 1]'hp).kd:=by simp[oP,hp,DV.it]
   have hO:(k:Int) - 1=((k - 1:Nat):Int):=oa
   refine p QF<|p (QR U)<|pq (λ_ J=>Qr (V.I J) U U)<|p QF<|p QF <|
    p (λ_=>Jo U U ⟨oa,oa⟩)<|Go.Lg.pig (g:=Qt) (i:=k - 1) U ZW h6.arr U (show Go.Lg.ev _ _=_ from OR (Value.int .i64) hO) hp λhT hP=>p (λ_=>Zt U)<|pq (λ_ J=>QA ((hP.fld 0 (oE oF (es[k - 1]'hp).kd) U).I J) U) <|
    p (λ_=>YP U U)<|p (Xf U)<|p ZM<|pe ?_
   refine⟨_,La,O1.C _ _,⟨λe=>⟨hN,by rw[hge];exact OU e⟩,λe=>OT (by rw[hge]at e;exact e.2)⟩⟩
  refine p QF<|ps<|ps<|ps<|ps<|ps<|ps<|ps<|ps<|ps<|p (Xf U)<|p ZM<|pe ?_;exact⟨false,La,O1.C _ _,⟨λe=>(by cases e),λe=>OS (show(0:Int)<(k:Int) by omega) hu⟩⟩
 rintro z g w7 ⟨hv,Y⟩;have hw:=hb.D hv;refine QQ rfl (λhg=>?_) (λhg=>?_)
 ·rw[OQ (Y.1 hg)]at G;have I:=S 5 og G;refine Qc<|Qb<|Qk ⟨[oE oF 5],La,by rw[hE,I];rfl,hw⟩
 rw[OP (λe=>by rw[Y.2 e]at hg;cases hg)]at G;refine Qc<|Q6 (V.I hv) U U<|QM<|(QeU (hm.I ((ho.D T).D hv))).mono ?_;rintro r8 w8 ⟨rfl,h7⟩;refine x (ZC U)<|Qb<|QQ U (λhy=>?_) (λhy=>?_)
 ·rw[OQ (oy hy)]at G;have I:=S 6 og G;refine Qc<|Qb<|Qk ⟨[oE oF 6],La,by rw[hE,I];rfl,hw.D h7⟩
 rw[OP (oy hy)]at G;rw[G,OP og]at hd;refine Qh<|Qw<|QS U U<|Qa<|xe ?_;exact⟨k+1,oa,La,H,hw.D h7,hd⟩
section
variable {o:List ZQ}{X:Option (List ZQ)}
theorem Qfw {y:UA}{l:List UA}(h:X=(X6 co (y::l)).map (o++·))(E:Ku co y.ls=none):X=none:=by
 rw[h,X6,E];rfl
theorem Qfv {y:UA}{l:List UA}(h:X=(X6 co (y::l)).map (o++·)){r:List (ByteArray×Int)}(E:Ku co y.ls=some r):X=(X6 co l).map ((o++[⟨3,y.nm,KB,r,[],0⟩])++·):=by
 rw[h,X6,E];simp only[Option.map_map];congr 1;funext z;simp
theorem Qfy {y:xG}{l:List xG}(h:X=(Je co (y::l)).map (o++·))(E:Ku co y.ts=none):X=none:=by
 rw[h,Je,E];rfl
theorem Qfx {y:xG}{l:List xG}(h:X=(Je co (y::l)).map (o++·)){r:List (ByteArray×Int)}(E:Ku co y.ts=some r):X=(Je co l).map ((o++[⟨4,y.nm,KB,[],r,y.bd⟩])++·):=by
 rw[h,Je,E];simp only[Option.map_map];congr 1;funext z;simp
end
theorem Qg2 {X:Option (List ZQ)}:X=X.map (([]:List ZQ)++·):=by cases X <;> rfl
theorem Qli (h:X6 c.co c.ex=none\/Je c.co c.cs=none):ZE c=(2,[]):=by
 unfold ZE Qd3;rcases h with h|h <;> rw[h]
 cases X6 c.co c.ex <;> rfl
theorem Qig {a b l:List ZQ}(E:X6 c.co c.ex=some a)(G:Je c.co c.cs=some b)(hl:l=c.co.map (Y2 1)++(c.rq.map (Y2 2)++(a++b))):ZE c=if Jw l≠0 then(Jw l,[])else(0,l):=by
 unfold ZE Qd3;rw[E,G,hl]
theorem Jg.app {base:Nat}{w E:OX}{v G:OY}{l:List DV}{H:OX}{q:DV}(h:Jg base w v l)(J:O1 [] w E)(hb:base<=w.heap.size)(O:∀L:LN,(∀b∈L,b<w.heap.size)->XT L E.heap q)
  (S:H.ownsRow base 63 9 G (l.length+1) (l.flatMap Qt++Qt q)) (T:O1 (ob v) E H) (V:∀b∈ob G,b∈ob v\/E.heap.size<=b):Jg base H G (l++[q]):=
 (Yk.I h J).app (λL Y=>O L (λb ha=>by
  rcases Y b ha with I|I
  ·omega
  exact Zf h.own b I)) S T V
theorem Qjf {c:CL}(h0:ZJ L w.heap c)(g9:c.co.length<=1000)(ka:c.rq.length<=1000)(kb:c.ex.length<=1000)(kc:c.cs.length<=1000)(gw:∀q∈c.ex,q.ls.length<=100000)(hk1:∀q∈c.cs,q.ts.length<=100000):
  Q3 prog 42 [c.val] w λr w'=>O1 [] w w'/\∃v,r=.tuple #[v,oE oF (ZE c.V).1]/\((ZE c.V).1≠0->v=Zl)/\((ZE c.V).1=0->∃l,Jg w.heap.size w' v l/\l.map DV.it=(ZE c.V).2):=by
 have h:=h0.up (L':=[]) oe;have hG:=@Qli c.V;have gh:=@Qig c.V;refine Zo (ZE c.V) λR hR=>?_;rw[hR]at hG gh ⊢;refine Zo (X6 c.V.co c.V.ex) λRE gp=>?_;refine Zo (Je c.V.co c.V.cs) λRC gq=>?_;rw[gp,gq]at hG gh;refine Zq func42 ?_;refine Qc<|Qe<|QW (us:=c.cells) U λb1 I hO ke hH=>x Ql<|Qb ?_;have kf:=hO.size;have h1:=h.I hO;refine Qc<|Qb<|Qd<|Qc<|Qs U (hH.I (O1.Z [] I)) U U<|QI (h1.co.arr.I (O1.Z [] I)) U<|Qa<|xe<|Qg<|QD (α:=Nat×OY×List DV×List ZQ) [(4,4),(6,6),(21,34)] (λz=>[(4,z.2.1),(21,oE oF z.1)]) (λz w'=>z.1<=c.co.length/\O1 [] I w'/\Jg I.heap.size w' z.2.1 z.2.2.1/\z.2.2.1.map DV.it=([]:List ZQ)++z.2.2.2/\z.2.2.2.length=z.1/\z.2.2.2=(c.co.take z.1).map (λq=>Y2 1 q.it)) (λz=>c.co.length - z.1) ol (0,Zl,[],[]) oz
  ⟨Lo _,(O1.Z [] I),Yk.nil,by rw[LK];exact U,U,U⟩ ?_
 rintro⟨k2,v2,l2,o2⟩ g w2 ⟨gx,hI,hP,hQ,gr,hZ⟩;simp only[]at gx hP hQ gr hZ;have gy:=hI.size;have kg:l2.length<=4000:=by
  have e1:=OR oO hQ;simp only[Ol,oL,Oy]at e1;omega
 refine Qc<|Q0 U U<|xe<|Qd<|QH U (λY=>?_) (λY=>?_)
 ·refine Qz ?_;have hs:c.co.length<=k2:=by have ht:¬(k2:Int)<(c.co.length:Int):=Y;omega
  rw[Lr hs]at hZ;rw[hZ,L8]at hQ;refine Qd<|Qc<|Qs U (hH.I hI) U U<|QI (h1.rq.arr.I hI) U<|Qa<|xe<|Qg<|QD (α:=Nat×OY×List DV×List ZQ) [(4,4),(8,8),(38,51)] (λz=>[(4,z.2.1),(38,oE oF z.1)]) (λz w'=>z.1<=c.rq.length/\O1 [] I w'/\Jg I.heap.size w' z.2.1 z.2.2.1/\z.2.2.1.map DV.it=(c.co.map (λq=>Y2 1 q.it))++z.2.2.2/\z.2.2.2.length=z.1/\z.2.2.2=(c.rq.take z.1).map (λq=>Y2 2 q.it)) (λz=>c.rq.length - z.1) ol (0,v2,l2,[]) oz
   ⟨Lo _,hI,hP,by rw[LK];exact hQ,U,U⟩ ?_
  rintro⟨k3,v3,l3,o3⟩ g w3 ⟨gz,hJ,hS,hT,gs,ga⟩;simp only[]at gz hS hT gs ga;have g0:=hJ.size;have kh:l3.length<=4000:=by
   have e1:=OR oO hT;simp only[Ol,oL]at e1;omega
  refine Qc<|Q0 U U<|xe<|Qd<|QH U (λY=>?_) (λY=>?_)
  ·refine Qz ?_;have hs:c.rq.length<=k3:=by have ht:¬(k3:Int)<(c.rq.length:Int):=Y;omega
   rw[Lr hs]at ga;rw[ga]at hT;refine Qd<|Qc<|Qs U (hH.I hJ) U U<|QI (h1.ex.arr.I hJ) U<|Qa<|xe<|Qg<|QD (α:=Nat×OY×List DV×List ZQ) [(2,4),(10,12),(55,73)] (λz=>[(4,z.2.1),(55,oE oF z.1)]) (λz w'=>z.1<=c.ex.length/\O1 [] I w'/\Jg I.heap.size w' z.2.1 z.2.2.1/\z.2.2.1.map DV.it=(c.co.map (λq=>Y2 1 q.it)++c.rq.map (λq=>Y2 2 q.it))++z.2.2.2/\z.2.2.2.length=z.1/\RE=(X6 c.V.co ((c.ex.drop z.1).map XV.x)).map (z.2.2.2++·)) (λz=>c.ex.length - z.1) ol (0,v3,l3,[]) oz
    ⟨Lo _,hJ,hS,by rw[LK];exact hT,U,gp ▸ Qg2⟩ ?_
   rintro⟨k4,v4,l4,o4⟩ g w4 ⟨g2,hr,hU,gb,gt,hK⟩;simp only[]at g2 hU gb gt hK;have g3:=hr.size;have ki:l4.length<=4000:=by
    have e1:=OR oO gb;simp only[Ol,oL]at e1;omega
   refine Qc<|Q0 U U<|xe<|Qd<|QH U (λY=>?_) (λY=>?_)
   ·refine Qz ?_;have hs:c.ex.length<=k4:=by have ht:¬(k4:Int)<(c.ex.length:Int):=Y;omega
    rw[Lp hs]at hK;have g4:RE=some o4:=by rw[hK];simp[X6]
    refine Qd<|Qc<|Qs U (hH.I hr) U U<|QI (h1.cs.arr.I hr) U<|Qa<|xe<|Qg<|QD (α:=Nat×OY×List DV×List ZQ) [(2,4),(14,16),(77,95)] (λz=>[(4,z.2.1),(77,oE oF z.1)]) (λz w'=>z.1<=c.cs.length/\O1 [] I w'/\Jg I.heap.size w' z.2.1 z.2.2.1/\z.2.2.1.map DV.it=(c.co.map (λq=>Y2 1 q.it)++c.rq.map (λq=>Y2 2 q.it)++o4)++z.2.2.2/\z.2.2.2.length=z.1/\RC=(Je c.V.co ((c.cs.drop z.1).map KV.k)).map (z.2.2.2++·)) (λz=>c.cs.length - z.1) ol (0,v4,l4,[]) oz
     ⟨Lo _,hr,hU,by rw[LK];exact gb,U,gq ▸ Qg2⟩ ?_
    rintro⟨k5,v5,l5,o5⟩ g w5 ⟨g5,hM,hR5,gc,gu,hN⟩;simp only[]at g5 hR5 gc gu hN;have g6:=hM.size;have kj:l5.length<=4000:=by
     have e1:=OR oO gc;simp only[Ol,oL]at e1;omega
    refine Qc<|Q0 U U<|xe<|Qd<|QH U (λY=>?_) (λY=>?_)
    ·refine Qz ?_;have hs:c.cs.length<=k5:=by have ht:¬(k5:Int)<(c.cs.length:Int):=Y;omega
     rw[Lp hs]at hN;have g7:RC=some o5:=by rw[hN];simp[Je]
     have hu:=gh (l:=l5.map DV.it) g4 g7 (by rw[gc,LA,LA];simp only[CL.V,List.map_map];rfl);refine Qd<|Qm<|QM<|(Jm (hR5.dits (L:=[]) oa oe)).mono ?_;rintro r6 w6 ⟨rfl,J⟩;have gv:O1 [] w w6:=hO.D (hM.D J);refine Qb<|Qm<|ZB U U<|xe<|QX U (λgg=>?_) (λgg=>?_)
     ·rw[OQ gg]at hu;refine Qm<|x Ql<|Qb<|Qk ⟨[Zl,oE oF (Jw (l5.map DV.it))],oz,gv,Zl,by rw[hu];rfl,λ_=>U,λe=>?_⟩;rw[hu]at e;exact OS e gg
     rw[OP gg]at hu;refine Qh<|Qm<|x Ql<|Qb<|Qk ⟨[v5,oE oF 0],oz,gv,v5,by rw[hu];rfl,λe=>OS (by rw[hu]) e,λ_=>⟨l5,(Yk.I hR5 J).base oa,by rw[hu]⟩⟩
    have E:k5<c.cs.length:=by have ht:(k5:Int)<(c.cs.length:Int):=Y;omega
    have hj:c.cs.drop k5=c.cs[k5]'E::c.cs.drop (k5+1):=LD E;have hk:c.cs.take (k5+1)=c.cs.take k5++[c.cs[k5]'E]:=Lm E;have T:=Lk E;have V:=h1.I hM;refine Qh<|Qd<|Qg<|Qc<|O4 (g:=Q5) (i:=k5) Xg V.cs.arr U U E λgi hf=>?_;refine Zo (c.cs[k5]'E) λq hq=>?_;rw[hq]at hf hk T hj;have ha:=V.cs.each q T;have hv:=V.cs.nm q T;rw[hj,LE]at hN;refine x (Qx hf U U)<|Qe<|Qo (us:=[.string .empty,Zl,oE oF 0]) U λb5 w6 J hw hy=>Qe<|Qj (us:=Q5 q) hy U U U U ⟨U,ha.one,U,Z⟩ λw7 hz hl=>xe ?_;have O:O1 [] w5 w7:=J.O hz hw;have gj:=O.size;refine Qc<|Qs U ((hH.I hM).I O) U U<|Q6 hl U U<|QM<|(Qir (V.co.I O) (ha.I O) hv (hk1 q T)).mono ?_;rintro r8 w8 ⟨h2,hm⟩;have hV:=O.D h2;refine Or.elim (Qkg (Ku (c.co.map (·.it)) q.ts)) (λhn=>?_) (λhn=>?_)
    ·have hW:=Qfy hN hn;rw[hn]at hm;have he:r8=.tuple #[.agg z9.toArray,oE oF 2]:=hm;subst he;refine Qa<|QZ U U<|QZ U U<|Qe<|Qo (us:=z9) U λgk w9 h3 h4 h6=>Qe<|Qj (us:=z9) h6 U U U U ⟨U,U,U,U,U,U,U,U,U,Z⟩ λho H hX=>Qb<|Qd<|Qm<|ZB U U<|xe<|QX U (λhg=>?_) (λhg=>OS (show(2:Int)≠0 by decide) hg);refine Qm<|x Ql<|Qb<|Qk ⟨[Zl,oE oF 2],oz,hO.D ((hM.D hV).D (h3.O H h4)),Zl,?_,λ_=>U,λe=>?_⟩
     ·rw[hG (.inr hW)];rfl
     rw[hG (.inr hW)]at e;exact OS e og
    refine Exists.elim hn λn hn=>?_;have gl:=Qfx hN hn;rw[hn]at hm;have he:∃d:DV,r8=.tuple #[.agg (Qt d).toArray,oE oF 0]/\d.it=⟨4,q.nm,KB,[],n,q.bd⟩/\∀L:LN,(∀b∈L,b<w7.heap.size)->XT L w8.heap d:=hm;refine Exists.elim he λG he=>?_;have gm:=he.1;have h7:=he.2.1;have hp:=he.2.2;subst gm;have gn:XT [] w8.heap G:=hp [] oe;refine Qa<|QZ U U<|QZ U U<|Qe<|Qo (us:=z9) U λgk g8 h3 h4 h6=>Qe<|Qj (us:=Qt G) h6 U U U U gn.ones λw9 H hX=>Qb ?_;have hY:O1 [] w8 w9:=h3.O H h4;have S:=hV.D hY;have hh:∀L:LN,(∀b∈L,b<w5.heap.size)->XT L w9.heap G:=λL hL=>(hp L (λb hb=>ot (hL b hb))).I hY;refine Qd<|Qm<|ZB U U<|xe<|QX U (λhg=>OS U hg) (λhg=>?_);refine Qh<|Qw<|Qa<|Q6 hX U U<|?_;have h8:Jg I.heap.size w9 v5 l5:=Yk.I hR5 S;refine Qe<|QB (us:=[Qt G]) U U og (show 1*9<=1000000 by decide) oz λh9 ho H go hA=>?_;have hB:At [] ho.heap ⟨h9,0,none⟩ (Qt G):=by have:=hA.at (L:=[]) oe;simpa using this
    refine Qe<|Kl (m:=1) (news:=Qt G) (Yk.I h8 H).own U U U hB (Ve (hh [] oe)) oa (ou S.size H.size) λv6 hi hC J hD=>?_;refine Qb ?_;have hE:Jg I.heap.size hi v6 (l5++[G]):=hR5.app (S.D H) g6 (λL hL=>(hh L hL).I H) hC J hD;have hF:O1 [] I hi:=((hM.D S).D H).then J λb hb=>.inr (Qi hR5.own b hb).1;refine Qw<|QS U U<|Qa<|xe<|⟨(k5+1,v6,l5++[G],o5++[G.it]),by show c.cs.length - (k5+1)<c.cs.length - k5;omega,oz,E,hF,hE,by simp only[];rw[Lt,gc,LA];rfl,by simp[gu],?_⟩;simp only[];rw[h7];exact gl
   have E:k4<c.ex.length:=by have ht:(k4:Int)<(c.ex.length:Int):=Y;omega
   have hj:c.ex.drop k4=c.ex[k4]'E::c.ex.drop (k4+1):=LD E;have hk:c.ex.take (k4+1)=c.ex.take k4++[c.ex[k4]'E]:=Lm E;have T:=Lk E;have V:=h1.I hr;refine Qh<|Qd<|Qg<|Qc<|O4 (g:=Q8) (i:=k4) Xq V.ex.arr U U E λgi hf=>?_;refine Zo (c.ex[k4]'E) λq hq=>?_;rw[hq]at hf hk T hj;have ha:=V.ex.each q T;have hv:=V.ex.nm q T;rw[hj,LE]at hK;refine x (Qx hf U U)<|Qe<|Qo (us:=[.string .empty,Zl]) U λb5 w6 J hw hy=>Qe<|Qj (us:=Q8 q) hy U U U U ⟨U,ha.one,Z⟩ λw7 hz hl=>xe ?_;have O:O1 [] w4 w7:=J.O hz hw;have gj:=O.size;refine Qc<|Qs U ((hH.I hr).I O) U U<|Q6 hl U U<|QM<|(QhY (V.co.I O) (ha.I O) hv (gw q T)).mono ?_;rintro r8 w8 ⟨h2,hm⟩;have hV:=O.D h2;refine Or.elim (Qkg (Ku (c.co.map (·.it)) q.ls)) (λhn=>?_) (λhn=>?_)
   ·have hW:=Qfw hK hn;rw[hn]at hm;have he:r8=.tuple #[.agg z9.toArray,oE oF 2]:=hm;subst he;refine Qa<|QZ U U<|QZ U U<|Qe<|Qo (us:=z9) U λgk w9 h3 h4 h6=>Qe<|Qj (us:=z9) h6 U U U U ⟨U,U,U,U,U,U,U,U,U,Z⟩ λho H hX=>Qb<|Qd<|Qm<|ZB U U<|xe<|QX U (λhg=>?_) (λhg=>OS (show(2:Int)≠0 by decide) hg);refine Qm<|x Ql<|Qb<|Qk ⟨[Zl,oE oF 2],oz,hO.D ((hr.D hV).D (h3.O H h4)),Zl,?_,λ_=>U,λe=>?_⟩
    ·rw[hG (.inl hW)];rfl
    rw[hG (.inl hW)]at e;exact OS e og
   refine Exists.elim hn λn hn=>?_;have gl:=Qfv hK hn;rw[hn]at hm;have he:∃d:DV,r8=.tuple #[.agg (Qt d).toArray,oE oF 0]/\d.it=⟨3,q.nm,KB,n,[],0⟩/\∀L:LN,(∀b∈L,b<w7.heap.size)->XT L w8.heap d:=hm;refine Exists.elim he λG he=>?_;have gm:=he.1;have h7:=he.2.1;have hp:=he.2.2;subst gm;have gn:XT [] w8.heap G:=hp [] oe;refine Qa<|QZ U U<|QZ U U<|Qe<|Qo (us:=z9) U λgk g8 h3 h4 h6=>Qe<|Qj (us:=Qt G) h6 U U U U gn.ones λw9 H hX=>Qb ?_;have hY:O1 [] w8 w9:=h3.O H h4;have S:=hV.D hY;have hh:∀L:LN,(∀b∈L,b<w4.heap.size)->XT L w9.heap G:=λL hL=>(hp L (λb hb=>ot (hL b hb))).I hY;refine Qd<|Qm<|ZB U U<|xe<|QX U (λhg=>OS U hg) (λhg=>?_);refine Qh<|Qw<|Qa<|Q6 hX U U<|?_;have h8:Jg I.heap.size w9 v4 l4:=Yk.I hU S;refine Qe<|QB (us:=[Qt G]) U U og (show 1*9<=1000000 by decide) oz λh9 ho H go hA=>?_;have hB:At [] ho.heap ⟨h9,0,none⟩ (Qt G):=by have:=hA.at (L:=[]) oe;simpa using this
   refine Qe<|Kl (m:=1) (news:=Qt G) (Yk.I h8 H).own U U U hB (Ve (hh [] oe)) oa (ou S.size H.size) λv6 hi hC J hD=>?_;refine Qb ?_;have hE:Jg I.heap.size hi v6 (l4++[G]):=hU.app (S.D H) g3 (λL hL=>(hh L hL).I H) hC J hD;have hF:O1 [] I hi:=((hr.D S).D H).then J λb hb=>.inr (Qi hU.own b hb).1;refine Qw<|QS U U<|Qa<|xe<|⟨(k4+1,v6,l4++[G],o4++[G.it]),by show c.ex.length - (k4+1)<c.ex.length - k4;omega,oz,E,hF,hE,by simp only[];rw[Lt,gb,LA];rfl,by simp[gt],?_⟩;simp only[];rw[h7];exact gl
  have E:k3<c.rq.length:=by have ht:(k3:Int)<(c.rq.length:Int):=Y;omega
  have hj:c.rq.drop k3=c.rq[k3]'E::c.rq.drop (k3+1):=LD E;have hk:c.rq.take (k3+1)=c.rq.take k3++[c.rq[k3]'E]:=Lm E;have T:=Lk E;have V:=h1.I hJ;refine Qh<|Qd<|Qg<|Qc<|O4 (g:=QO) (i:=k3) Ys V.rq.arr U U E λgi hf=>?_;refine Zo (c.rq[k3]'E) λq hq=>?_;rw[hq]at hf hk T hj;have ha:=V.rq.each q T;have hv:=V.rq.nm q T;refine x (Qx hf U U)<|Qe<|Qo (us:=[.string .empty,Zl,oE oF 0,Zl,Zl]) U λb5 w6 J hw hy=>Qe<|Qj (us:=QO q) hy U U U U ⟨U,ha.al.one,U,ha.mr.one,ha.ed.one,Z⟩ λw7 hz hl=>xe ?_;have O:O1 [] w3 w7:=J.O hz hw;refine Qw<|Qa<|Qs U hl U U<|Q7 U<|x (Zs (us:=[q.p.va,oE oF q.p.a.st,q.p.vm,q.p.ve]) hl U U U)<|x (Zc [(0,[oE oF 2]),(1,[.string q.nm]),(2,[q.p.va,oE oF q.p.a.st,q.p.vm,q.p.ve])] ⟨U,U,U,U,U,U,Z⟩) <|
   QM<|(J8 (q:=⟨2,q.nm,q.p,Zl,[],Zl,[],0⟩) (L:=[]) ⟨hv,ha.I O,Vh.nil,Vh.nil⟩).mono ?_
  rintro r8 w9 ⟨h2,G,rfl,h7,hp⟩;have S:=O.D h2;have gj:=O.size;have hh:∀L:LN,(∀b∈L,b<w3.heap.size)->XT L w9.heap G:=λL hL=>hp L (λb hb=>ot (hL b hb));have h8:Jg I.heap.size w9 v3 l3:=Yk.I hS S;refine Qe<|QB (us:=[Qt G]) U U og (show 1*9<=1000000 by decide) oz λh9 ho H go hA=>?_;have hB:At [] ho.heap ⟨h9,0,none⟩ (Qt G):=by have:=hA.at (L:=[]) oe;simpa using this
  refine Qe<|Kl (m:=1) (news:=Qt G) (Yk.I h8 H).own U U U hB (Ve (hh [] oe)) oa (ou S.size H.size) λv6 hi hC J hD=>?_;refine Qb ?_;have hE:Jg I.heap.size hi v6 (l3++[G]):=hS.app (S.D H) g0 (λL hL=>(hh L hL).I H) hC J hD;have hF:O1 [] I hi:=((hJ.D S).D H).then J λb hb=>.inr (Qi hS.own b hb).1;refine Qw<|QS U U<|Qa<|xe<|⟨(k3+1,v6,l3++[G],o3++[G.it]),by show c.rq.length - (k3+1)<c.rq.length - k3;omega,oz,E,hF,hE,by simp only[];rw[Lt,hT,LA];rfl,by simp[gs],?_⟩;simp only[];rw[hk,Lt,<-ga,h7];rfl
 have E:k2<c.co.length:=by have ht:(k2:Int)<(c.co.length:Int):=Y;omega
 have hj:c.co.drop k2=c.co[k2]'E::c.co.drop (k2+1):=LD E;have hk:c.co.take (k2+1)=c.co.take k2++[c.co[k2]'E]:=Lm E;have T:=Lk E;have V:=h1.I hI;refine Qh<|Qd<|Qg<|Qc<|O4 (g:=QO) (i:=k2) Ys V.co.arr U U E λgi hf=>?_;refine Zo (c.co[k2]'E) λq hq=>?_;rw[hq]at hf hk T hj;have ha:=V.co.each q T;have hv:=V.co.nm q T;refine x (Qx hf U U)<|Qe<|Qo (us:=[.string .empty,Zl,oE oF 0,Zl,Zl]) U λb5 w6 J hw hy=>Qe<|Qj (us:=QO q) hy U U U U ⟨U,ha.al.one,U,ha.mr.one,ha.ed.one,Z⟩ λw7 hz hl=>xe ?_;have O:O1 [] w2 w7:=J.O hz hw;refine Qw<|Qa<|Qs U hl U U<|Q7 U<|x (Zs (us:=[q.p.va,oE oF q.p.a.st,q.p.vm,q.p.ve]) hl U U U)<|x (Zc [(0,[oE oF 1]),(1,[.string q.nm]),(2,[q.p.va,oE oF q.p.a.st,q.p.vm,q.p.ve])] ⟨U,U,U,U,U,U,Z⟩) <|
  QM<|(J8 (q:=⟨1,q.nm,q.p,Zl,[],Zl,[],0⟩) (L:=[]) ⟨hv,ha.I O,Vh.nil,Vh.nil⟩).mono ?_
 rintro r8 w9 ⟨h2,G,rfl,h7,hp⟩;have S:=O.D h2;have gj:=O.size;have hh:∀L:LN,(∀b∈L,b<w2.heap.size)->XT L w9.heap G:=λL hL=>hp L (λb hb=>ot (hL b hb));have h8:Jg I.heap.size w9 v2 l2:=Yk.I hP S;refine Qe<|QB (us:=[Qt G]) U U og (show 1*9<=1000000 by decide) oz λh9 ho H go hA=>?_;have hB:At [] ho.heap ⟨h9,0,none⟩ (Qt G):=by have:=hA.at (L:=[]) oe;simpa using this
 refine Qe<|Kl (m:=1) (news:=Qt G) (Yk.I h8 H).own U U U hB (Ve (hh [] oe)) oa (ou S.size H.size) λv6 hi hC J hD=>?_;refine Qb ?_;have hE:Jg I.heap.size hi v6 (l2++[G]):=hP.app (S.D H) gy (λL hL=>(hh L hL).I H) hC J hD;have hF:O1 [] I hi:=((hI.D S).D H).then J λb hb=>.inr (Qi hP.own b hb).1;refine Qw<|QS U U<|Qa<|xe<|⟨(k2+1,v6,l2++[G],o2++[G.it]),by show c.co.length - (k2+1)<c.co.length - k2;omega,oz,E,hF,hE,by simp only[];rw[Lt,hQ,LA];rfl,by simp[gr],?_⟩;simp only[];rw[hk,Lt,<-hZ,h7];rfl
structure CSz (c:Zx):Prop where
 c1:c.co.length<=1000
 c2:c.rq.length<=1000
 c3:c.ex.length<=1000
 c4:c.cs.length<=1000
 x:∀q∈c.ex,q.ls.length<=100000
 k:∀q∈c.cs,q.ts.length<=100000
theorem Qfd {n:Int}(h:Xk l)(E:∀x∈l,0<=x/\x<n)(G:n<=8):l.length<=8:=by
 have:=XQ l 0 n h E;omega
theorem VP (h:Zi c=0):CSz c:=by
 have E:=js.1 h;have hd:=K0 E.cd;have hl:=jr E.cd;have I:(szs c.co).length=c.co.length:=Lh _;have J:=E.n8;refine⟨oa,ot E.n12,ot hd.xl,ot hd.kl,λq G=>?_,λq G=>?_⟩
 ·have:=Qfd (hl.1 q G).1 (n:=((szs c.co).length:Int)) (λx hx=>by
   obtain⟨p,H,rfl⟩:=LC.1 hx;exact hd.x q G p H) oa
  rw[Lh]at this;omega
 have:=(hd.k q G).2;omega
theorem CSz.its {c:CL}(h:CSz c.V):c.co.length<=1000/\c.rq.length<=1000/\c.ex.length<=1000/\c.cs.length<=1000/\(∀q∈c.ex,q.ls.length<=100000)/\∀q∈c.cs,q.ts.length<=100000:=by
 have e1:c.V.co.length=c.co.length:=Lh _;have e2:c.V.rq.length=c.rq.length:=Lh _;have G:c.V.ex.length=c.ex.length:=Lh _;have H:c.V.cs.length=c.cs.length:=Lh _;exact⟨e1 ▸ h.c1,e2 ▸ h.c2,G ▸ h.c3,H ▸ h.c4,λq E=>h.x q.x (LJ E),λq E=>h.k q.k (LJ E)⟩
theorem Qcx {c:CL}(E:ZJ L w.heap c)(G:CSz c.V):
  Q3 prog 42 [c.val] w λr w'=>O1 [] w w'/\∃v,r=.tuple #[v,oE oF (ZE c.V).1]/\((ZE c.V).1≠0->v=Zl)/\((ZE c.V).1=0->∃l,Jg w.heap.size w' v l/\l.map DV.it=(ZE c.V).2):=
 let h:=G.its;Qjf E h.1 h.2.1 h.2.2.1 h.2.2.2.1 h.2.2.2.2.1 h.2.2.2.2.2
theorem Qip {c:CL}(E:ZJ L w.heap c)(G:CSz c.V):
  Q3 prog 44 [c.val] w λr w'=>O1 [] w w'/\QfV w.heap.size w'.heap r c.V :=
 let h:=G.its;Qnu E h.1 h.2.1
abbrev z9s:LV:=[nS,nS,nS,nS,nS,nS,oE oF 0,nS,nS]
instance:Bw prog 136 z9s [(0,5),(5,1),(6,1),(7,1),(8,1)]:=⟨od,og⟩
abbrev Kx:OY:=.pointer none
abbrev pS (b:Nat):OY:=.pointer (some ⟨b,0,none⟩)
theorem Qjc {c:CL}(I:ZJ L w.heap c)(hz:CSz c.V)(hy:Kb w 4096):
  Q3 prog 11 [c.val] w λr w'=>O1 [] w w'/\∃vp,r=.tuple #[vp,oE oF (qq c.V)]/\(qq c.V≠0->vp=Kx)/\(qq c.V=0->∃s:Kr,vp=pS s.b/\s.sys=Qe0 c.V/\(∀b∈s.own,w.heap.size<=b)/\Vu (s.own++oW w.heap.size) w' s):=by
 have h:=I.up (L':=[]) oe;have H:qq c.V=if(ZE c.V).1≠0 then(ZE c.V).1 else if Zi c.V≠0 then Zi c.V else JF c.V [] 0:=rfl
 refine Zo (qq c.V) λE hE=>?_;rw[hE]at H ⊢;refine Zq func11 ?_;refine Qc<|Qe<|QW (us:=c.cells) U λb1 w1 hm h1 S=>x Ql<|Qb<|Qd<|Qc<|Q6 S U U<|QM<|(Qcx (h.I hm) hz).mono ?_;rintro r2 w2 ⟨T,v2,rfl,_,_⟩;have hf:=hm.D T;have hJ:=T.size;refine Qa<|QZ U U<|QZ U U<|x Ql<|Qb<|Qm<|ZB U U<|xe<|QX rfl (λY=>?_) (λY=>?_)
 ·rw[OQ Y]at H;refine Qm<|x Ql<|Qb<|Qk ⟨[Kx,oE oF (ZE c.V).1],oz,hf,Kx,by rw[H];rfl,λ_=>U,λI=>OS (H.symm.D I) Y⟩
 rw[OP Y]at H;refine Qh<|Qd<|Qc<|Q6 (S.I T) U U<|QM<|(XS (h.I hf)).mono ?_;rintro r3 w3 ⟨rfl,ha⟩;have hg:=hf.D ha;have hK:=ha.size;refine Qb<|Qm<|ZB U U<|xe<|QX rfl (λhc=>?_) (λhc=>?_)
 ·rw[OQ hc]at H;refine Qm<|x Ql<|Qb<|Qk ⟨[Kx,oE oF (Zi c.V)],oz,hg,Kx,by rw[H];rfl,λ_=>U,λI=>OS (H.symm.D I) hc⟩
 rw[OP hc]at H;have hL:=S.lt;refine Qh<|Qc<|Q6 ((S.I T).I ha) U U<|QM<|(Qip (h.I hg) hz).mono ?_;rintro _ w4 ⟨hh,c4,rfl,hn,ho⟩;have h2:=hg.D hh;have hM:=hh.size;refine Qe<|Qj (us:=c4.cells) (((S.I T).I ha).I hh) U U U U (ho [] oe).ones λw5 hi hp=>xe ?_;have hr:O1 [] w w5:=h2.O hi h1;have hN:=hi.size;have h3:∀b∈b1::oW w.heap.size,b<w3.heap.size:=λb G=>by
  rcases Li.1 G with rfl|G
  ·omega
  have:=Nu.1 G;omega
 have hs:ZJ (b1::oW w.heap.size) w5.heap c4:=(ho _ h3).st (hi.mono oe);have hbld:=QbQ (L':=oW w.heap.size) (vb:=Zl) (ps:=[]) (v:=0) hs ⟨Zm.nil _ _ _,oe⟩ (λb G=>ot (Nu.1 G)) .nil oe (hy.I hr);rw[hn]at hbld;refine Qc<|Q6 hp U U<|QM<|hbld.mono ?_;rintro r6 w6 ⟨he,vp,us,rfl,h4,h5,hO,h6⟩;have h7:=hr.D he;have hP:=he.size;refine Qa<|QZ U U<|QZ U U<|QZ U U<|Qe<|Qo (us:=Ym) U λb8 w7 h8 h9 hA=>x Ql <|
  Qe<|Qj (us:=us) hA U U h4 U h5 λw8 hB ht=>Qb ?_
 have O:O1 [] w6 w8:=h8.O hB h9;have hu:=h7.D O;refine Qd<|Qm<|ZB U U<|xe<|QX rfl (λhj=>?_) (λhj=>?_)
 ·refine Qm<|x Ql<|Qb<|Qk ⟨[Kx,oE oF (JF c.V [] 0)],oz,hu,Kx,by rw[H];rfl,λ_=>U,λI=>OS (H.symm.D I) hj⟩
 have hk:JF c.V [] 0=0:=Ln.1 hj;refine Exists.elim (h6 hk) λqs J=>Exists.elim J λq J=>?_;have hC:us=[q.v1,q.v2,q.v3]:=J.1;rw[hC]at ht;have hD:=J.2.2.2.2.2 [] oe;have hF:=hD.I O;refine Qh<|Qc<|Q6 (hp.I (he.D O)) U U<|Qa<|Qs U ht U U<|x (Yv hF.a2 U) <|
  x (Zc [(0,c4.cells),(1,[vp]),(2,[oE oF (q.k2.length:Int)])] ⟨U,U,xH J.2.2.2.1,U,U,U,Z⟩) <|
  Qe<|QW (us:=jM ⟨0,⟨c4,vp,qs⟩,q.k2.length,Zl,[],Zl,[]⟩) U λV w9 hl hG hv=>x Ql<|Qb ?_
 have hQ:=O.size;have hR:=hv.lt;have hH:=J.2.2.2.2.1;have hw:∀b∈V::oW w.heap.size,b∈oW w.heap.size\/w8.heap.size<=b:=λb G=>by
  rcases Li.1 G with rfl|G
  ·exact .inr hG
  exact .inl G
 refine Qk ⟨[pS V,oE oF 0],oz,hu.D hl,pS V,by rw[H,hk];rfl,λI=>OS (H.D hk) I,λ_=>⟨⟨V,⟨c4,vp,qs⟩,q.k2.length,Zl,[],Zl,[]⟩,U,?_,λb G=>?_,?_⟩⟩
 ·unfold Kr.sys Qe0;simp only[];rw[hn];have e1:qs.map (·.pt)=yf c.V [] 0:=J.2.1;have e2:q.rp=Y4 c.V [] 0:=J.2.2.1;have e3:(Y4 c.V [] 0).made=q.k2:=by rw[<-e2];rfl
  rw[e1,e3];rfl
 ·have hI:b∈[V]:=G;rw[Lb.1 hI];omega
 refine⟨⟨_,hv⟩,QJ _ _ _ _,QJ _ _ _ _,by simp[ob],by simp[ob],by simp[ob],λb G=>Lc.2 (.inl G),⟨?_,?_⟩,oe,oe⟩
 ·exact(((hs.I (he.D O)).up λb G=>(hw b G).imp (Lj _) id).I hl)
 exact(Go.Lg.KE.up (Go.Lg.KE.I hH O) hw).I hl
theorem QgB {s:Kr}(h:Vu L w s):
  Q3 prog 12 [pS s.b] w λr w'=>r=oE oF s.made/\w'=w:=by
 obtain⟨T,E⟩:=h.blk;refine Zq func12 ?_;refine Qc<|Qb<|Qd<|Qm<|x (Yp underlying46 U U)<|xe<|ZS rfl<|Qh<|Qm<|Yl U<|Qs U E U U<|Qb<|Qk ⟨[_],La,U,U⟩
theorem QaS {s:Kr}(h:Vu L w s)(hl:s.rs.length<=1000):
  Q3 prog 27 [pS s.b] w λr w'=>O1 [] w w'/\∃es,es.map qe.rp=s.rs.map qe.rp/\Yk Zr 3 53 Kw w.heap.size w' r es:=by
 obtain⟨T,hB⟩:=h.blk;have ha:Zm [] w.heap s.vr s.rs.length 3 (s.rs.flatMap Zr):=QK h.rr oa oe;refine Zq func27 ?_;refine Qc<|Qb<|Qd<|Qm<|x (Yp underlying46 U U)<|xe<|ZS rfl<|Qh<|Qc<|Qb<|Qd<|Qm<|Yl U<|Qs U hB U U<|QI ha U<|Qa<|xe<|Qg<|QD (α:=Nat×OY×List qe) [(3,3),(5,5),(13,22)] (λz=>[(3,z.2.1),(13,oE oF z.1)]) (λz w'=>z.1<=s.rs.length/\O1 [] w w'/\Yk Zr 3 53 Kw w.heap.size w' z.2.1 z.2.2/\z.2.2.map qe.rp=(s.rs.take z.1).map qe.rp) (λz=>s.rs.length - z.1) ol (0,Zl,[]) oz ⟨Lo _,O1.Z _ _,Yk.nil,U⟩ ?_;rintro⟨k,vo,l⟩ g w1 ⟨hk,G,hR,H⟩;simp only[]at hk hR H;have h2:l.length=k:=by have:=OR oO H;rw[Lh,Lh,Ly]at this;omega
 refine Qc<|Q0 U U<|xe<|Qd<|QH U (λV=>?_) (λV=>?_)
 ·refine Qz ?_;have hi:s.rs.length<=k:=by have O:¬(k:Int)<(s.rs.length:Int):=V;omega
  rw[Lr hi]at H;refine Qm<|Qb<|Qk ⟨[vo],La,G,l,H,hR⟩
 have E:k<s.rs.length:=by have O:(k:Int)<(s.rs.length:Int):=V;omega
 have hc:s.rs.take (k+1)=s.rs.take k++[s.rs[k]'E]:=Lm E;have he:=Lk E;refine Qh<|Qd<|Qg<|Qc<|O4 (g:=Zr) (i:=k) QgD (ha.I G) U U E λh3 O=>?_;refine Zo (s.rs[k]'E) λq hq=>?_;rw[hq]at O hc he;have hf:Kw [] w1.heap q:=((h.rA q he).up oe).I G;refine x (Qx O U U)<|Qe<|Qo (us:=Ym) U λb6 w2 hj hn ho=>Qe<|Qj (us:=Zr q) ho U U U U hf.ones λw3 hp hr=>xe ?_;have I:O1 [] w1 w3:=hj.O hp hn;have h4:=I.size;have h5:=G.size;refine Qw<|Qa<|Q6 hr U U<|QM<|(Qiq (hf.I I)).mono ?_;rintro r4 w4 ⟨Y,J,rfl,hs,hg⟩;have h6:=Y.size;have ht:=(hR.I I).I Y;have hu:=Zf (hR.I I).own;refine Qe<|QB (us:=[Zr J]) U U og (show 1*3<=1000000 by decide) oz λhv w5 S h7 hw=>?_;have h8:=S.size;have hy:At [] w5.heap ⟨hv,0,none⟩ (Zr J):=by have:=hw.at (L:=[]) oe;simpa using this
 have hR5:=ht.I S;refine Qe<|Kl (m:=1) (news:=Zr J) hR5.own U U U hy (hg [] oe).ones.all oa oa λv6 w6 hz hh h0=>?_;refine Qb ?_;have h1:Yk Zr 3 53 Kw w.heap.size w6 v6 (l++[J]):=hR5.app (λL hL=>(hg L (λb hb=>by
  rcases hL b hb with h|h
  ·omega
  exact hu b h)).I S) hz hh h0
 refine Qw<|QS U U<|Qa<|xe<|⟨(k+1,v6,l++[J]),by show s.rs.length - (k+1)<s.rs.length - k;omega,oz,E,((((G.D I).D Y).D S).then hh λb hb=>.inr (Qi hR.own b hb).1),h1,?_⟩;simp only[];rw[hc,Lt,Lt,H,LE,LE,hs]
theorem QdS {α:Type}(g:α->LV)(sz:Nat)(E:∀x,(g x).length=sz):∀(l:List α) (k:Nat),(l.flatMap g).drop (k*sz)=(l.drop k).flatMap g
 | [],k=>oe
 | a::l,0=>oe
 | a::l,k+1=>by
  rw[show(k+1)*sz=(g a).length+k*sz by rw[E a,Nat.succ_mul];omega,LG,List.drop_append,Lp oa,L8,M8,QdS g sz E l k];rfl
theorem Qbu {base:Nat}{v:OY}{l:List DV}(h:Jg base w v l):∀q∈l,∀u∈Qt q,u.oneCell'=true:=λq E=>Ve (h.each q E [] oe)
theorem Jg.turn {base:Nat}{v r:OY}{l l':List DV}(h:Jg base w v l)(G:O1 (ob v) w w')(H:∀b∈ob r,b∈ob v)(hl:∀q∈l',q∈l)(I:w'.ownsRow base 63 9 r l'.length (l'.flatMap Qt)):Jg base w' r l' :=
 ⟨I,λq J L O=>Mm.mono (Mm.st (L:=ob v++L) (h.each q (hl q J) _ λb E=>by
  rcases Lc.1 E with E|E
  ·exact .inr E
  exact(O b E).imp id (H b)) (G.mono λb E=>Lc.2 (.inl E))) λb E=>Lc.2 (.inr E)⟩
theorem Qld {base:Nat}{v:OY}{l:List DV}(hR:Jg base w v l){k:Nat}(hk:k<l.length)(hl:l.length<=1000):
  Q3 prog 165 [v,oE oF (k:Int),oE oF ((k+1:Nat):Int)] w λr w'=>O1 (ob v) w w'/\Jg base w' r (l.take k++l.drop (k+1)):=by
 have h:=hR.own;have he:=Qbu hR;have O:∀(r:OY) (w':OX),O1 (ob v) w w'/\ob r=ob v/\w'.ownsRow base 63 9 r (l.length - 1) ((l.take k++l.drop (k+1)).flatMap Qt)->O1 (ob v) w w'/\Jg base w' r (l.take k++l.drop (k+1)):=λr w' ⟨G,I,h3⟩ =>
  ⟨G,Jg.turn hR G (λb hb=>I ▸ hb) (λq J=>(Lc.1 J).elim (λh=>LZ h) (λh=>Mc h)) (by
   have e:(l.take k++l.drop (k+1)).length=l.length - 1:=by rw[Ll,Ly,LW];omega
   rw[e];exact h3)⟩
 refine Q3.mono ?_ O;clear O hR;obtain⟨g,cap,rfl⟩:=XN h oa;obtain⟨ht,cur,hB,hf,hg⟩:=Kj h;refine Zq func165 ?_;refine Qc<|Qb<|Qm<|Qa<|Qa<|Qa<|x (yU U)<|x (QeQ (lo:=k) (hi:=k+1) (m:=l.length) U U U U oa oa oa)<|xe<|Qd<|Qm<|Qa<|x (QY U U)<|xe<|QX rfl (λS=>OS (show(k:Int)=((k+1:Nat):Int) from S) oa) (λS=>?_);refine Qh<|Qm<|x (yU U)<|Qb ?_;have H:((l.drop (k+1)).flatMap Qt).length=(l.length - (k+1))*9:=by rw[xA ZW,LW]
 have hh:At [] w.heap ⟨g,if cap=k+1 then 0 else(k+1)*9,none⟩ ((l.drop (k+1)).flatMap Qt):=by
  by_cases hc:cap=k+1
  ·have:(l.drop (k+1)).flatMap Qt=[]:=Ls (by rw[H];omega);rw[this];exact⟨λu E=>(by cases E),λu E=>(by cases E),λj u E=>(by cases E)⟩
  rw[OP hc];have G:=Qeq (QK (L:=[]) h oa oe) rfl;refine⟨λu _=>oe,λu E=>G.lt u (by rw[<-QdS Qt 9 ZW]at E;exact Mc E),λj u E=>?_⟩;rw[<-QdS Qt 9 ZW,MW]at E;have I:=G.cell _ u E;have e:(⟨g,(k+1)*9,none⟩:Addr).add j=(⟨g,0,none⟩:Addr).add ((k+1)*9+j):=by rw[Addr.add_lit,Addr.add_lit,LQ]
  rw[e];exact I
 have hj:∀u∈(l.drop (k+1)).flatMap Qt,u.oneCell'=true:=λu E=>by
  obtain⟨q,J,E⟩:=Ma.1 E;exact he q (Mc J) u E
 refine Qd<|yj (λ_=>True) [oC 0,oC 1,oC 2,oC 3,oC 4,oC 5,oD 6,oC 7] mixed ol od Z ?_;have hd:O1 [] w { w with drawn:=w.drawn+1 }:=O1.C _ _
 refine p QF<|p QF<|p (λ_=>J2 (hi:=k) U U oa)<|p QF<|p QF<|p (λ_=>yS (lo:=k+1) U U oa) <|
  pk<|QmC (g:=g) (n:=k) (cap:=cap) (cur:=cur) (m:=l.length - (k+1)) (L:=[]) hB U hf U H (hh.I hd) hj oa λw2 hm T=>⟨Z,p ZM<|pe ?_⟩
 have hn:O1 [g] w w2:=hd.any.Q hm;have em:k+(l.length - (k+1))=l.length - 1:=oa
 have V:(cur.take (k*9)++(l.drop (k+1)).flatMap Qt).length=(l.length - 1)*9:=by
  rw[Ll,Ly,H];omega
 have ho:(cur.take (k*9)++(l.drop (k+1)).flatMap Qt++cur.drop (k*9+((l.drop (k+1)).flatMap Qt).length)).length=cap*9:=by
  rw[Ll,V,LW,H];omega
 have Y:(cur.take (k*9)++(l.drop (k+1)).flatMap Qt++cur.drop (k*9+((l.drop (k+1)).flatMap Qt).length)).take ((l.length - 1)*9)=(l.take k++l.drop (k+1)).flatMap Qt:=by
  rw[List.take_left' V,LB,<-jg Qt 9 ZW l k,<-hg,M5,Ml oa]
 refine Zo (cur.take (k*9)++(l.drop (k+1)).flatMap Qt++cur.drop (k*9+((l.drop (k+1)).flatMap Qt).length)) λhv hp=>?_;rw[hp]at T ho Y;refine Qm<|Qa<|x (yU U)<|Qa<|x (QeP (lo:=k+(l.length - (k+1))) (hi:=l.length) U U U oa oa oa) <|
  Qe<|Qkj (m:=l.length - (k+(l.length - (k+1)))) (o:=(k+(l.length - (k+1)))*9) (λu E=>by simp[Value.cells]at E;rcases E with rfl|rfl|rfl|rfl|rfl|rfl|rfl|rfl|rfl <;> rfl) T ⟨_,rfl,λ_=>⟨U,oa⟩⟩ λw3 hw hr hs hy ha=>xe ?_
 refine Qm<|Qb<|Qk ⟨[.slice (some ⟨g,0,none⟩) (k+(l.length - (k+1))) cap],La,hn.Q hr,U,?_⟩;rw[em]at ha ⊢;exact V7 h oa hs oa (ha.D Y) (by rw[xA ZW,Ll,Ly,LW];omega)
section
variable {pS:String}
theorem qI {e bys:Nat}[h:Sl P t e sz bys z]{x:OZ}{o dLen dCap:Nat}{cur:LV}{a:Addr}{sLen sCap:Nat}(G:Q9 w.heap g T cur)(hx:ev f x=.slice (some ⟨g,o,none⟩) dLen dCap)(J:ev f y=.slice (some a) sLen sCap)
  (O:cs.length=Nat.min sLen dLen*sz)  (S:At L w.heap a cs) (V:o+cs.length<=cur.length) (Y:∀u∈cs,u.oneCell'=true)
  (hK:∀w',O1 [g] w w'->Q9 w'.heap g T (cur.take o++cs++cur.drop (o+cs.length))->K (QT f d (goInt (Nat.min sLen dLen))) w'):XO P ⟨d,.call ⟨.builtin .copy,#[x,y],#[t,E]⟩,ty,pS,af,gd⟩ f w K:=by
 obtain⟨i,hi,hz,ha,_⟩:=Sl.info h;have hl:=run_loadCells_list (P:=P) w a cs S.cells;have H:=run_storeCells_at P g o T cs 0 cur.toArray w G (oy V) Y;have I:(Builtin.copy_ #[t,E] ty #[.slice (some ⟨g,o,none⟩) dLen dCap,.slice (some a) sLen sCap]).run P w=.ok (goInt (Nat.min sLen dLen)) (w.setRow g (cur.take o++cs++cur.drop (o+cs.length)).toArray):=by
  simp[Builtin.copy_,run_underlying h.u,Builtin.lenOf,Builtin.firstCells,sizeOf,typeInfo,hi,ha,<-O,hl]at H ⊢;simp[H]
 have hb:(execOp (ev f) ⟨d,.call ⟨.builtin .copy,#[x,y],#[t,E]⟩,ty,pS,af,gd⟩).run P w=.ok (.value (goInt (Nat.min sLen dLen))) (w.setRow g (cur.take o++cs++cur.drop (o+cs.length)).toArray):=by
  simp[execOp,resolve,invoke,builtin,hx,J]at I ⊢;simp[I]
 exact xv hb (hK _ (O1.setRow _ _ _) (XJ G))
end
section
variable {pS:String}
theorem QmA {ti e bys:Nat}[h:Sl P t e sz bys z](T:P.underlying ti=some (.int .i64)){s:OZ}{E:Addr}{L0:LN}(V:At L0 w.heap E cs)(Y:ev f s=.slice (some E) n cap)(G:cs.length=n*sz)
  {m:Nat} (hy:ev f y=oE oF m) (hm:0<m) (ha:cap<n+m) (hb:n+m<=1048576)
  (hK:∀b c' w' zs,O1 [] w w'->w.heap.size<=b->n+m<=c'->zs.length=m*sz->w'.ownsRow w.heap.size e sz (.slice (some ⟨b,0,none⟩) (n+m) c') (n+m) (cs++zs)->K (QT f d (.slice (some ⟨b,0,none⟩) (n+m) c')) w') (hc:bys<=131072:=by decide):
  XO P ⟨d,.call ⟨.builtin .append,#[s,y],#[t,ti]⟩,ty,pS,af,gd⟩ f w K:=by
 obtain⟨i,hi,hz,I,J⟩:=Sl.info h;have he:=h.pos;have O:(n+m)*bys<=140737488355328:=LH (Nat.mul_le_mul hb hc) oa;have hf:n+m<=maxLen:=by simp only[maxLen];omega
 have hn:¬(n+m<=cap):=oa
 have hg:¬(9223372036854775807<((n:Int)+(m:Int))):=oa
 have hu:=growslice_fits (bytes:=i.bytes) ha (by rw[J];exact O);have hh:¬(281474976710656<Builtin.nextslicecap (n+m) cap*i.bytes):=oa
 have hj:=run_firstCells_some (P:=P) w.drew i.size n E n cap cs (by rw[I];exact G) (oy V.cells);have hl:IntKind.i64.wrap (m:Int)=(m:Int):=by rw[IntKind.wrap_i64];omega
 have ho:¬((m:Int)<0):=oa
 have hv:m*i.bytes<=140737488355328:=by rw[J];exact LH (LY _ (Nat.le_add_left m n)) O
 have hp:¬(281474976710656<(m:Int)*(i.bytes:Int)):=by
  have:((m*i.bytes:Nat):Int)<=140737488355328:=oa
  rw[Int.natCast_mul]at this;omega
 have hr:(Builtin.append_ #[t,ti] ty #[.slice (some E) n cap,oE oF m]).run P w=.ok (.slice (some ⟨w.heap.size,0,none⟩) (n+m) (grownCap w (n+m) cap e)) (w.drew.alloc (Obj.cells (cs.toArray++(Builtin.zeroCells z.cells m).toList.toArray++Builtin.zeroCells z.cells (grownCap w (n+m) cap e - (n+m))) e)):=by
  simp[Builtin.append_,run_underlying h.u,run_underlying T,sizeOf,typeInfo,zeroValue,hi,hz,hn,hg,hh,Question.forced,hj,newRow,grownCap,asInt,asIntOf,hl,ho,hp];intro h0;have h1:0<m*i.size:=Nat.mul_pos hm (by rw[I];exact he);omega
 have hq:(execOp (ev f) ⟨d,.call ⟨.builtin .append,#[s,y],#[t,ti]⟩,ty,pS,af,gd⟩).run P w=.ok (.value (.slice (some ⟨w.heap.size,0,none⟩) (n+m) (grownCap w (n+m) cap e))) (w.drew.alloc (Obj.cells (cs.toArray++(Builtin.zeroCells z.cells m).toList.toArray++Builtin.zeroCells z.cells (grownCap w (n+m) cap e - (n+m))) e)):=by
  simp[execOp,resolve,invoke,builtin,Y,hy,hr]
 have hge:=grownCap_ge w (n+m) cap e;have ht:grownCap w (n+m) cap e<=maxLen:=grownCap_le_maxLen w (n+m) cap e hf;have H:(Builtin.zeroCells z.cells m).toList.length=m*sz:=by simp[Builtin.zeroCells,h.zs]
 have S:(cs++(Builtin.zeroCells z.cells m).toList).length=(n+m)*sz:=by rw[Ll,G,H,Mo]
 refine xv hq (hK _ _ _ _ ⟨U,U,U,by rw[Vg];exact OJ _,λk hk _=>UZ w.drew _ k hk⟩ (Lv _) hge H ⟨S,.inr ⟨w.heap.size,_,_,U,Lv _,JY w.drew _,hge,ht,?_,?_⟩⟩)
 ·simp only[Array.size_append,o9,size_zeroCells,h.zs,G,H,<-Oj];congr 1;omega
 simp only[Array.toList_append,oT];rw[<-LA,<-S];exact List.take_left
theorem Qog {x:OZ}{a:Option Addr}{c e:Nat}(E:P.underlying t=some (.slice e))(hx:ev f x=.slice a n c):
  (execOp (ev f) ⟨d,.call ⟨.builtin .cap,#[x],#[t]⟩,ty,pS,af,gd⟩).run P w=.ok (.value (oE oF c)) w:=by
 simp[execOp,resolve,invoke,builtin,Builtin.cap_,hx,run_underlying E,goInt]
theorem Qof {x:OZ}{tS tR e:Nat}{ts:Array Nat}(J:P.funcs[g]?=some fn)(O:(fn.name == "runtime.NumGoroutine")=false) (S:fn.body.isNone=true) (T:Extern.findNext fn=none)
  (V:Extern.find fn=some (Extern.SlicesOverlaps.overlaps #[tS,tS] #[tR])) (Y:P.underlying tS=some (.slice e)) {size:Nat} (hz:∀w,(sizeOf e).run P w=.ok size w) {a b:Addr} {la ca lb cb TA TB:Nat} {vs:LV} (hx:ev f x=.slice (some a) la ca) (G:ev f y=.slice (some b) lb cb)
  (H:Q9 w.heap a.block TA us) (hB:Q9 w.heap b.block TB vs) (ha:a.block≠b.block) (hg:vs.length≠0) (hh:a=⟨a.block,0,none⟩):
  (execOp (ev f) ⟨d,.call ⟨.value (.func g),#[x,y],ts⟩,ty,pS,af,gd⟩).run P w=.ok (.value (.bool false)) w:=by
 have hi:w.shape? a.block=some (TA,us.length):=by
  have E:w.heap[a.block]?=some (.cells us.toArray TA (0,0)):=H;simp[World.shape?,E]
 have hj:w.shape? b.block=some (TB,vs.length):=by
  have E:w.heap[b.block]?=some (.cells vs.toArray TB (0,0)):=hB;simp[World.shape?,E]
 have hfr:∀o,w.frozen? { block:=a.block,off:=o }=false:=λo=>by
  have E:w.heap[a.block]?=some (.cells us.toArray TA (0,0)):=H;simp[World.frozen?,E]
 have hr:=Lib.run_overlaps_apart (P:=P) w tS tR e Y size hz a b la ca lb cb ha TA TB us.length vs.length hi hj hg (by rw[hh];exact hfr 0) (hfr _);have I:=run_callFunc_extern J O S T V #[ev f x,ev f y] w;rw[hx,G,hr]at I;have h0:ev f (.func g)=.func (.func g) #[] #[]:=rfl;simp[execOp,resolve,h0,Deferred.ofValue,invoke,hx,G,I,Result.andThen]
end
theorem XK {pS:String}{e bys:Nat}[Sl P t e sz bys z]{x E:OZ}{k:IntKind}(hx:ev f x=.slice (some ⟨b,0,none⟩) n cap)(hl:ev f E=.int k lo)(G:lo<=n)(I:lo<cap):
  (execOp (ev f) ⟨d,.slice t x (some E) none none,ty,pS,af,gd⟩).run P w=.ok (.value (.slice (some ⟨b,lo*sz,none⟩) (n - lo) (cap - lo))) w:=by
 have H:=yS (P:=P) (w:=w) (d:=d) (ty:=ty) (pS:=pS) (af:=af) (gd:=gd) (t:=t) hx hl G
 rwa [OP oa]at H
theorem Jg.turn2 {base:Nat}{v r:OY}{l l':List DV}(h:Jg base w v l)(J:O1 (ob v) w w')(O:∀b∈ob r,b∈ob v\/w.heap.size<=b)(S:∀L:LN,(∀b∈L,b<base\/b∈ob v)->XT L w.heap q)(hl:∀d∈l',d∈l\/d=q)
  (T:w'.ownsRow base 63 9 r l'.length (l'.flatMap Qt)):Jg base w' r l':=by
 refine⟨T,λd hd L H=>?_⟩;have V:∀L:LN,(∀b∈L,b<base\/b∈ob v)->XT L w.heap d:=λL H=>(hl d hd).elim (λG=>h.each d G L H) (λG=>G ▸ S L H);have G:XT (ob v++L) w.heap d:=Mm.up (V (ob v++L.filter λb=>decide (b<base)) λb E=>(Lc.1 E).elim .inr λE=>.inl (OU (Md.1 E).2)) λb E=>by
  rcases Lc.1 E with E|E
  ·exact .inl (Lc.2 (.inl E))
  rcases H b E with I|I
  ·exact .inl (Lc.2 (.inr (Md.2 ⟨E,OT I⟩)))
  exact(O b I).imp (λY=>Lc.2 (.inl Y)) id
 exact Mm.mono (Mm.st G (J.mono λb E=>Lc.2 (.inl E))) λb E=>Lc.2 (.inr E)
theorem K9 {qs:LV}{s:Nat}(E:cs.length=n*s)(G:qs.length=s)(hi:i<=n):(cs.take (i*s)++qs++cs.drop (i*s)).length=(n+1)*s:=by
 have H:i*s<=n*s:=LY _ hi;simp only[oL,o7,o6,E,G,Oj];omega
theorem QkO {base:Nat}{v:OY}{l:List DV}(hR:Jg base w v l)(hr:base<=w.heap.size)(hl:l.length<=1000)(hi:i<=l.length)(hq:∀L:LN,(∀b∈L,b<base\/b∈ob v)->XT L w.heap q){bq:Nat}(O:Q9 w.heap bq T (Qt q))(hJ:bq∉ob v):
  Q3 prog 168 [v,oE oF (i:Int),.slice (some ⟨bq,0,none⟩) 1 1] w λr w'=>O1 (ob v) w w'/\Jg base w' r (l.take i++q::l.drop i)/\∀b∈ob r,b∈ob v\/w.heap.size<=b:=by
 have h:=hR.own;have V:=(hq [] oe).ones.all;have hs:=Qbu hR;have H:(l.flatMap Qt).length=l.length*9:=xA ZW l;have ht:(l.take i++q::l.drop i).length=l.length+1:=by simp only[oL,o7,oU,o6];omega
 have hv:(l.take i++q::l.drop i).flatMap Qt=(l.flatMap Qt).take (i*9)++Qt q++(l.flatMap Qt).drop (i*9):=by
  rw[jg Qt 9 ZW,QdS Qt 9 ZW,LB,LG,LA]
 have hw:∀d∈l.take i++q::l.drop i,d∈l\/d=q:=λd hd=>by
  rcases Lc.1 hd with hd|hd
  ·exact .inl (LZ hd)
  rcases Li.1 hd with rfl|hd
  ·exact .inr U
  exact .inl (Mc hd)
 have hy:∀(r:OY) (w':OX),O1 (ob v) w w'/\(∀b∈ob r,b∈ob v\/w.heap.size<=b)/\w'.ownsRow base 63 9 r (l.length+1) ((l.flatMap Qt).take (i*9)++Qt q++(l.flatMap Qt).drop (i*9))->O1 (ob v) w w'/\Jg base w' r (l.take i++q::l.drop i)/\∀b∈ob r,b∈ob v\/w.heap.size<=b:=λr w' ⟨h1,h2,h3⟩ =>
  ⟨h1,hR.turn2 h1 h2 hq hw (by rw[ht,hv];exact h3),h2⟩
 refine Q3.mono ?_ hy;have Y:∀u∈l.flatMap Qt,u.oneCell'=true:=λu E=>by
  obtain⟨d,hd,E⟩:=Ma.1 E;exact hs d hd u E
 clear hy hR hw ht hv hs;refine Zo (l.flatMap Qt) λcs ha=>?_;refine Zo l.length λn hn=>?_;rw[ha,hn]at h;rw[ha,hn]at H;rw[ha]at Y ⊢;rw[hn]at hl hi ⊢;have hA:=QK (L:=[]) h oa oe;refine Zq func168 ?_;refine Qc<|Qb<|Qm<|Qa<|Qpe (lo:=i) hA U U hi λgm _=>xe ?_;refine Qm<|x (yU U)<|Qb<|Qd<|Qm<|x (QY U U)<|xe<|QX rfl (λhK=>OS (show((1:Nat):Int)=0 from hK) og) (λ_=>?_);refine Qh<|Qm<|QI hA U<|Qb<|Qd<|Qm<|Qa<|x (QY U U)<|xe<|QX rfl (λhc=>?_) (λhc=>?_)
 ·have hL:i=n:=by have hM:(i:Int)=(n:Int):=hc;omega
  refine Qm<|Qa<|Qe<|Kl (m:=1) (news:=Qt q) h U U U (O.at (L:=[]) oe) V oa hr λv1 w1 hN hO hP=>Qb<|Qk ⟨[v1],⟨rfl,Z⟩,hO,hP,?_⟩;rw[hL,<-H,Ng,List.drop_length,LK];exact hN
 have gn:i<n:=by have hM:¬(i:Int)=(n:Int):=hc;omega
 obtain⟨g,cap,ev⟩:=XN h oa;have he:ob v=[g]:=by rw[ev];rfl
 have hf:=h;rw[ev]at hf;obtain⟨go,cur,J,hg,hz⟩:=Kj hf;have h0:bq≠g:=λe=>hJ (by rw[he,e];exact Lb.2 U);have h4:At [] w.heap ⟨g,0,none⟩ cs:=Qeq hA ev;have gp:i*9<=n*9:=LY _ hi;have h5:∀w':OX,Q9 w'.heap g 63 cur->At [] w'.heap ⟨g,i*9,none⟩ (cs.drop (i*9)):=λw' h6=>by
  have hQ:=h6.lt;refine⟨λu _=>oe,λu _=>hQ,λj u E=>?_⟩;rw[MW,<-hz,LX]at E;split at E
  ·have e:(⟨g,i*9,none⟩:Addr).add j=⟨g,i*9+j,none⟩:=Ub g (i*9) j;rw[e,h6.cell];exact E
  cases E
 refine Qh<|Qd<|Qm<|Qa<|QS U U<|Qa<|x (Qog underlying126 ev)<|x (Yg U U)<|xe<|QX rfl (λhh=>?_) (λhh=>?_)
 ·have h7:cap<n+1:=by have hS:(cap:Int)<(n:Int)+((1:Nat):Int):=hh;omega
  have hT:At [] w.heap ⟨g,0,none⟩ (cs.take (i*9)):=⟨λu _=>oe,λu E=>h4.lt u (List.mem_of_mem_take E),λj u E=>h4.cell j u (by rw[List.getElem?_take]at E;split at E;exact E;cases E)⟩;have hU:(cs.take (i*9)).length=i*9:=by rw[Ly];omega
  refine Qm<|Qa<|x (J2 (hi:=i) ev U oa)<|Qa<|Qa<|QS U U<|Qa<|x (Jo U U ⟨oa,oa⟩) <|
   Qe<|QmA (n:=i) (cap:=cap) (m:=n+1 - i) underlying3 hT U hU (show Go.Lg.ev _ _=_ from OR (Value.int .i64) oa) oa oa oa λb2 c2 w2 zs hj h8 gq gr hk=>Qb ?_
  have en:i+(n+1 - i)=n+1:=oa
  obtain⟨_,G,hV,hW,h9⟩:=Kj hk;rw[en]at h9;have gs:(n+1)*9<=G.length:=by rw[hW];exact LY _ oa
  have n2g:g≠b2:=by have:=J.lt;omega
  have hX:(i+1)*9<=(n+1)*9:=LY _ oa;refine Qm<|Qa<|x (XK (lo:=i) U U oa oa)<|Qa<|Qe<|qI (cs:=Qt q) hV U U (by rw[show Nat.min 1 (i+(n+1 - i) - i)=1 from Ml oa];exact ZW q) ((O.I hj).at (L:=[]) oe) (by rw[ZW];omega) V λw3 hC hD=>xe ?_;have hY:=(J.I hj).J hC (oy n2g);have hm:(G.take (i*9)++Qt q++G.drop (i*9+(Qt q).length)).length=G.length:=by simp only[oL,o7,o6,ZW];omega
  have hE:(G.take (i*9)++Qt q++G.drop (i*9+(Qt q).length)).take ((i+1)*9)=cs.take (i*9)++Qt q:=by
   have e1:(G.take (i*9)++Qt q).length=(i+1)*9:=by rw[Ll,Ly,ZW];omega
   rw[List.take_left' e1];congr 1;have:=OR (List.take (i*9)) h9;rw[M5,Ml oa,MQ oa,M5,Nat.min_self]at this;exact this
  refine Zo (G.take (i*9)++Qt q++G.drop (i*9+(Qt q).length)) λgt hZ=>?_;rw[hZ]at hD hm hE;have I:(cs.drop (i*9)).length=(n - i)*9:=by rw[LW,H,Nat.sub_mul]
  refine Qd<|ZI [] (Xx 0 9 [8])<|p QF<|p QF<|p QF<|p (λ_=>Xu U U ⟨oa,oa⟩)<|p (λ_=>XK (lo:=i+1) U U oa oa) <|
   p QF<|p QF<|p (λ_=>XK (lo:=i) ev U oa oa)<|pkl (hl:=by kernel_rfl)<|qI (cs:=cs.drop (i*9)) (hD.I (O1.C _ _)) U U (by rw[I,show Nat.min (n - i) (i+(n+1 - i) - (i+1))=n - i from Ml oa]) (h5 _ (hY.I (O1.C _ _))) (by rw[I,hm];omega) (λu E=>Y u (Mc E)) λw4 ho S=>pe ?_
  refine Qm<|Qb ?_;have ga:O1 [b2] w2 w4:=hC.Q ((O1.C [] w3).any.Q ho);refine Qk ⟨[.slice (some ⟨b2,0,none⟩) (i+(n+1 - i)) c2],La,(hj.O ga h8).any,λb hb=>?_,?_⟩
  ·have gb:b∈[b2]:=hb;rw[Lb.1 gb];exact .inr h8
  rw[en]at hk ⊢;have gc:=Zy hk hr;refine V7 gc (Lv _) S ?_ ?_ (K9 H (ZW q) hi)
  ·simp only[oL,o7,o6,I,hm];omega
  rw[hE];exact List.take_left' (K9 H (ZW q) hi)
 have h7:n+1<=cap:=by have hS:¬(cap:Int)<(n:Int)+((1:Nat):Int):=hh;omega
 have hX:(i+1)*9<=(n+1)*9:=LY _ oa;have I:(cs.drop (i*9)).length=(n - i)*9:=by rw[LW,H,Nat.sub_mul]
 refine Qh<|Qm<|Qa<|Qa<|QS U U<|x (J2 (hi:=n+1) ev U oa)<|Qb<|Qd<|Qm<|Qa<|Qa<|Qa<|QS U U<|x (XK (lo:=i+1) U U oa oa) <|
  x (Qof func244 od od od (tS:=126) (tR:=4) od underlying126 sizeOf63 (a:=⟨bq,0,none⟩) (b:=⟨g,(i+1)*9,none⟩) U U O J h0 (by rw[hg];omega) U)<|x (ZC U)<|xe ?_
 refine QQ rfl (λ_=>?_) (λgg=>OS gg og);have en:n+1 - (i+1)=n - i:=oa
 refine Qd<|ZI [] (Xx 0 9 [8])<|p QF<|p QF<|p QF<|p (λ_=>Xu U U ⟨oa,oa⟩)<|p (λ_=>XK (lo:=i+1) U U oa oa) <|
  p QF<|p QF<|p (λ_=>XK (lo:=i) U U oa oa)<|pkl (hl:=by kernel_rfl)<|qI (cs:=cs.drop (i*9)) (J.I (O1.C _ _)) U U (by rw[I,show Nat.min (n+1 - i) (n+1 - (i+1))=n - i from(Nat.min_eq_right oa).D en]) (h5 _ (J.I (O1.C _ _))) (by rw[I,hg];omega) (λu E=>Y u (Mc E)) λw4 ho S=>pe ?_
 have hF:O1 [g] w w4:=(O1.C [] w).any.Q ho;have hG:(cur.take ((i+1)*9)++cs.drop (i*9)++cur.drop ((i+1)*9+(cs.drop (i*9)).length)).length=cap*9:=by simp only[oL,o7,o6,I,hg];omega
 have hH:(cur.take ((i+1)*9)++cs.drop (i*9)++cur.drop ((i+1)*9+(cs.drop (i*9)).length)).take (i*9)=cs.take (i*9):=by
  rw[LA,MQ (by rw[Ly];omega),M5,Ml oa,<-hz,M5,Ml oa]
 have hI:((cur.take ((i+1)*9)++cs.drop (i*9)++cur.drop ((i+1)*9+(cs.drop (i*9)).length)).drop (i*9+9)).take ((n - i)*9)=cs.drop (i*9):=by
  have e1:(cur.take ((i+1)*9)).length=i*9+9:=by rw[Ly];omega
  rw[LA,List.drop_left' e1,List.take_left' I]
 refine Zo (cur.take ((i+1)*9)++cs.drop (i*9)++cur.drop ((i+1)*9+(cs.drop (i*9)).length)) λhp gh=>?_;rw[gh]at S hG hH hI;refine Qm<|Qa<|x (XK (lo:=i) U U oa oa)<|Qa<|Qe<|qI (cs:=Qt q) S U U (by rw[show Nat.min 1 (n+1 - i)=1 from Ml oa];exact ZW q) ((O.J hF (oy h0)).at (L:=[]) oe) (by rw[ZW];omega) V λw5 gi gj=>xe ?_;refine Qm<|Qb<|Qk ⟨[.slice (some ⟨g,0,none⟩) (n+1) cap],La,by rw[he];exact hF.Q gi,λb hb=>.inl (by rw[he];exact hb),?_⟩;rcases hf.2 with⟨e1,_⟩|⟨g',cap',cur',e1,gk,gu,gv,gl,gw,gx⟩
 ·cases e1
 cases e1
 refine⟨K9 H (ZW q) hi,.inr ⟨g,cap,_,U,gk,gj,h7,gl,?_,?_⟩⟩
 ·simp only[o9,oL,o7,o6,ZW,hG];omega
 have hR:=K9 H (ZW q) hi;rw[ZW,hH];have e3:hp.drop (i*9+9)=cs.drop (i*9)++(hp.drop (i*9+9)).drop ((n - i)*9):=by
  conv=>lhs;rw[<-MS ((n - i)*9) (hp.drop (i*9+9)),hI]
 rw[e3,<-LA];exact List.take_left' hR
theorem Qnb {k:Int}(G:Q9 w.heap b T cs)(H:cs[0]?=some (oE oF k)):
  Q3 prog 167 [.agg (Qt q).toArray,.pointer (some ⟨b,0,none⟩)] w λr w'=>r=.bool (decide (k<q.kd))/\O1 [] w w':=by
 refine Zq func167 ?_;refine Qc<|Qe<|QW (us:=Qt q) U λb2 J E O I=>Qb<|Qc<|Qs U I U U<|Qs U (G.I E) U H<|x (Yg U U)<|Qb<|Qk ⟨[_],La,U,E⟩
theorem KW {l:List ZQ}(h:Jw l=0):l.length<=76:=by
 unfold Jw at h;split at h
 ·cases h
 omega
theorem QlQ {v:OY}{es:List DV}(G:Ke L w.heap v es)(k:Int)(n:ByteArray):
  Q3 prog 97 [v,oE oF k,.string n] w λr w'=>O1 [] w w'/\∃vo l,r=.tuple #[vo,oE oF (qu (es.map DV.it) k n).1]/\Jg w.heap.size w' vo l/\((qu (es.map DV.it) k n).1=0->l.map DV.it=(qu (es.map DV.it) k n).2):=by
 have h:=G.up (L':=[]) oe;have E:qu (es.map DV.it) k n=if Jw (es.map DV.it)≠0 then(Jw (es.map DV.it),[])else if Jy (es.map DV.it) k n=false then(10,[])else(0,(es.map DV.it).take (Z4 (es.map DV.it) k n)++(es.map DV.it).drop (Z4 (es.map DV.it) k n+1)):=rfl
 refine Zo (qu (es.map DV.it) k n) λD Y=>?_;rw[Y]at E ⊢;refine Zq func97 ?_;refine Qc<|x Ql<|Qb<|Qd<|Qm<|QM<|(Jm h).mono ?_;rintro r1 w1 ⟨rfl,O⟩;refine Qb<|Qm<|ZB U U<|xe<|QX rfl (λH=>?_) (λH=>?_)
 ·rw[OQ H]at E;refine Qm<|x Ql<|Qb<|Qk ⟨[nS,oE oF (Jw (es.map DV.it))],oz,O,nS,[],by rw[E];rfl,Yk.nil,λG=>OS (by rw[E]at G;exact G) H⟩
 rw[OP H]at E;have hp:es.length<=76:=by have:=KW (Ln.1 H);rwa [Lh]at this
 refine Qh<|Qm<|Qa<|Qa<|QM<|(qU (h.arr.I O) k n).mono ?_;rintro r2 w2 ⟨⟨i,rfl,hi⟩,ha⟩;have J:=O.D ha;refine Qa<|QZ U U<|QZ U U<|x Ql<|Qb<|Qd<|Qm<|x (ZC U)<|xe<|QQ rfl (λS=>?_) (λS=>?_)
 ·have I:Jy (es.map DV.it) k n=false:=by simpa using S
  rw[OQ I]at E;refine Qc<|x Ql<|Qb<|Qk ⟨[nS,oE oF 10],oz,J,nS,[],by rw[E];rfl,Yk.nil,λG=>OS (by rw[E]at G;exact G) og⟩
 have I:Jy (es.map DV.it) k n=true:=by simpa using S
 rw[OP (by rw[I];decide)]at E;have hi:=hi I;have hc:Z4 (es.map DV.it) k n<es.length:=by have:=OU I;rwa [Lh]at this
 refine Zo (Z4 (es.map DV.it) k n) λj hj=>?_;rw[hj]at hi hc E;refine Qh<|Qm<|QM<|(JR (h.I J) oa).mono ?_;rintro r3 w3 ⟨he,l,hl,T⟩;have hq:l.length=es.length:=by have:=OR oO T;rwa [Lh,Lh]at this
 have hD3:=Qld hl (k:=j) oa oa;have hf:(i:Int)+1=((j+1:Nat):Int):=oa
 rw[<-hf,<-hi]at hD3;refine Qa<|Qa<|QS U U<|QM<|hD3.mono ?_;rintro V w4 ⟨hg,hh⟩;refine x Ql<|Qb ?_;have hk:=Qi hl.own;have ho:=J.size;refine Qk ⟨[V,oE oF 0],oz,(J.D he).then hg (λb hb=>.inr (ot (hk b hb).1)),V,_,by rw[E];rfl,hh.base ho,λ_=>?_⟩;rw[E,Lt,Nr,List.map_drop,T]
theorem QnN {v:OY}{es:List DV}(G:Ke L w.heap v es)(hM:XT L' w.heap q):
  Q3 prog 98 [v,.agg (Qt q).toArray] w λr w'=>O1 [] w w'/\∃vo l,r=.tuple #[vo,oE oF (VH (es.map DV.it) q.it).1]/\Jg w.heap.size w' vo l/\((VH (es.map DV.it) q.it).1=0->l.map DV.it=(VH (es.map DV.it) q.it).2):=by
 have h:=G.up (L':=[]) oe;have hq:=hM.up (L':=[]) oe;have E:VH (es.map DV.it) q.it=if Jw (es.map DV.it)≠0 then(Jw (es.map DV.it),[])else if Jw [q.it]≠0 then(Jw [q.it],[])else if Jy (es.map DV.it) q.kd q.nm=true then(0,(es.map DV.it).set (Z4 (es.map DV.it) q.kd q.nm) q.it)else if(es.map DV.it).length=76 then(3,[])else
  (0,(es.map DV.it).take ((es.map DV.it).findIdx λy=>decide (q.kd<y.kd))++q.it::(es.map DV.it).drop ((es.map DV.it).findIdx λy=>decide (q.kd<y.kd))):=rfl
 refine Zo (VH (es.map DV.it) q.it) λD hD=>?_;rw[hD]at E ⊢;refine Zq func98 ?_;refine Qc<|Qe<|QW (us:=Qt q) U λb3 w1 h4 gj hN=>x Ql<|Qb<|Qd<|Qm<|ZO<|(Jm (h.I h4)).mono ?_;rintro r1 w2 ⟨rfl,h5⟩;have h6:=h4.D h5;refine Qb<|Qm<|ZB U U<|xe<|QX rfl (λT=>?_) (λT=>?_)
 ·rw[OQ T]at E;refine Qm<|x Ql<|Qb<|Qk ⟨[nS,oE oF (Jw (es.map DV.it))],oz,h6,nS,[],by rw[E];rfl,Yk.nil,λG=>OS (by rw[E]at G;exact G) T⟩
 rw[OP T]at E;have gk:es.length<=76:=by have:=KW (Ln.1 T);rwa [Lh]at this
 have h7:=hN.I h5;refine Qh<|Qd<|Qc<|Q6 h7 U U<|Qe<|QB (us:=[Qt q]) U U og (show 1*9<=1000000 by decide) oz λhO w3 h8 gl hP=>?_;have h9:=h6.D h8;have hQ:Ke [] w3.heap (.slice (some ⟨hO,0,none⟩) 1 1) [q]:=⟨hP.arr (L:=[]) oe (n:=1) (cap:=1) (sz:=9) rfl og (Nat.le_refl _),λd hd=>by rw[List.mem_singleton.1 hd];exact hq.I h9⟩;refine ZO<|(Jm hQ).mono ?_;rintro r4 w4 ⟨rfl,hA⟩;have he:=h9.D hA;refine Qb<|Qm<|ZB U U<|xe<|QX rfl (λhf=>?_) (λhf=>?_)
 ·rw[OQ (show Jw [q.it]≠0 from hf)]at E;refine Qm<|x Ql<|Qb<|Qk ⟨[nS,oE oF (Jw [q.it])],oz,he,nS,[],by rw[E];rfl,Yk.nil,λG=>OS (by rw[E]at G;exact G) hf⟩
 rw[OP (show ¬Jw [q.it]≠0 from hf)]at E;refine Qh<|Qm<|ZO<|(JR (h.I he) oa).mono ?_;rintro I w5 ⟨hr,l,hl,J⟩;have gm:l.length=es.length:=by have:=OR oO J;rwa [Lh,Lh]at this
 have hB:=he.D hr;have hC:=he.size;have gn:=hr.size;have hs:=(h7.I (h8.D hA)).I hr;have V:=Qi hl.own;refine Qb<|Qd<|Qm<|Qs U hs U U<|Qs U hs U U<|ZO<|(qU (h.arr.I hB) q.kd q.nm).mono ?_;rintro r6 w6 ⟨⟨i,rfl,hi⟩,hh⟩;have Y:=hB.D hh;have ht:=hl.I hh;have hu:=hs.I hh;have go:=hh.size;refine Qa<|QZ U U<|QZ U U<|x Ql<|Qb<|Qm<|xe<|QQ rfl (λha=>?_) (λha=>?_)
 ·rw[OQ ha]at E;have hi:=hi ha;have hv:Z4 (es.map DV.it) q.kd q.nm<l.length:=by have:=OU ha;rw[Lh]at this;omega
  refine Zo (Z4 (es.map DV.it) q.kd q.nm) λj hj=>?_;rw[hj]at hi hv E;refine Qm<|Qa<|Q6 hu U U<|ZO<|(J8 (hq.I Y)).mono ?_;rintro r7 w7 ⟨hk,q',rfl,hw,ho⟩;have hy:=ht.I hk;refine Exists.elim (XN hy.own oa) λg O=>Exists.elim O λcap O=>?_;have hR:ob I=[g]:=by rw[O];rfl
  have hE:=hy.own;rw[O]at hE;refine x (Zv (i:=j) O (show Go.Lg.ev _ _=_ from OR (Value.int .i64) hi) hv)<|Qe<|QeY ZW hE (show Go.Lg.ev _ _=_ from by show Value.pointer (some ⟨g,0+j*9,none⟩)=_;rw[LQ]) rfl hv (ho [] oe).ones λw8 hS hF=>xe ?_;refine Qm<|x Ql<|Qb ?_;rw[<-O]at hF;have hG:O1 (ob I) w7 w8:=by rw[hR];exact hS
  have hT:Jg w4.heap.size w8 I (l.set j q'):=Jg.turn2 hy hG (λb H=>.inl H) (λL hL=>ho L (λb H=>by
   rcases hL b H with h|h
   ·omega
   have:=V b h;omega)) (λd hd=>MI hd) (by rw[Me];exact hF)
  refine Qk ⟨[I,oE oF 0],oz,(Y.D hk).then hG (λb H=>.inr (ot (V b H).1)),I,_,by rw[E];rfl,hT.base hC,λ_=>?_⟩;rw[E,OL,J,hw]
 rw[OP (by rw[ha];decide)]at E;refine Qh<|Qd<|Qm<|QI (h.arr.I Y) U<|x (QY U U)<|xe<|QX rfl (λhz=>?_) (λhz=>?_)
 ·have hn:es.length=76:=by have hU:(es.length:Int)=76:=hz;omega
  rw[OQ (by rw[Lh];exact hn)]at E;refine Qc<|x Ql<|Qb<|Qk ⟨[nS,oE oF 3],oz,Y,nS,[],by rw[E];rfl,Yk.nil,λG=>OS (by rw[E]at G;exact G) og⟩
 have hn:¬es.length=76:=by have hU:¬(es.length:Int)=76:=hz;omega
 rw[OP (by rw[Lh];exact hn)]at E;have hV:(es.map DV.it).findIdx (λy=>decide (q.kd<y.kd))=l.findIdx λy=>decide (q.kd<y.kd):=by rw[<-J,List.findIdx_map];rfl
 rw[hV]at E;have hW:l.findIdx (λy=>decide (q.kd<y.kd))<=l.length:=List.findIdx_le_length;have h1:ixD (λy:DV=>decide (q.kd<y.kd)) l=if l.findIdx (λy=>decide (q.kd<y.kd))<l.length then((l.findIdx λy=>decide (q.kd<y.kd):Nat):Int)else -1:=rfl
 refine Zo (l.findIdx λy=>decide (q.kd<y.kd)) λat_ hX=>?_;rw[hX]at E hW h1;have hH:Zm [] w6.heap I l.length 9 (l.flatMap Qt):=QK ht.own oa oe;refine Qh<|Qm<|x (Zz (l:=[]) (l':=[_]))<|ZO<|(QdK (q:=λy:DV=>decide (q.kd<y.kd)) (cap:=[.pointer (some ⟨b3,0,none⟩)]) hH (λe _ w7 hk=>Qnb (hu.I hk) U)).mono ?_;rintro r9 w9 ⟨rfl,hc⟩;refine Qb<|Za (α:=Unit) [(11,11),(47,50)] (λ_=>[(11,oE oF (at_:Int))]) (λ_ w'=>w'=w9) ol ?_ ?_
 ·refine Qm<|Q0 U U<|xe<|QH U (λh2=>?_) (λh2=>?_)
  ·refine Qh<|⟨(),⟨?_,Z⟩,U⟩;have S:¬ixD (λy:DV=>decide (q.kd<y.kd)) l<0:=h2;have e:ixD (λy:DV=>decide (q.kd<y.kd)) l=(at_:Int):=by
    rw[h1]at S ⊢;split at S
    ·rename_i hY;rw[OQ hY]
    exact OS og S
   exact OR (Value.int .i64) e
  refine Qw<|Qa<|QI (hH.I hc) U<|Qb<|⟨(),⟨?_,Z⟩,U⟩;have S:ixD (λy:DV=>decide (q.kd<y.kd)) l<0:=h2;have e:(l.length:Int)=(at_:Int):=by
   rw[h1]at S;split at S
   ·omega
   omega
  exact OR (Value.int .i64) e
 rintro⟨⟩ g gp rfl;have hZ:=ht.I hc;have hI:=Y.D hc;have gq:=hc.size;refine Qm<|Qa<|Q6 (hu.I hc) U U<|ZO<|(J8 (hq.I hI)).mono ?_;rintro gr gs ⟨h3,q',rfl,hw,ho⟩;have gt:=h3.size;refine Qe<|QB (us:=[Qt q']) U U og (show 1*9<=1000000 by decide) oz λhJ ga hp gu gb=>?_;have gv:=hp.size;have gc:=(hZ.I h3).I hp;have gg:Q9 ga.heap hJ 63 (Qt q'):=by have:=gb;simpa using this
 refine ZO<|(QkO gc oa oa (i:=at_) oa (q:=q') (λL hL=>(ho L (λb H=>by
   rcases hL b H with h|h
   ·omega
   have:=V b h;omega)).I hp) gg (λJ=>ot (V hJ J))).mono ?_
 rintro hK gw ⟨gh,gi,gx⟩;refine x Ql<|Qb<|Qk ⟨[hK,oE oF 0],oz,((hI.D h3).D hp).then gh (λb H=>.inr (ot (V b H).1)),hK,_,by rw[E];rfl,gi.base hC,λ_=>?_⟩;rw[E,Lt,LE,Nr,List.map_drop,J,hw]
end Go.Lg
namespace Go.Proofs
open Go.Proofs.Tryz
open Go.Shelf
def Tryz.sortLo_ren:Go.Shelf.Ren:=⟨λ|6=>170|15=>139|14=>246|28=>214|29=>215|20=>277|21=>278|22=>279|23=>280|24=>281|25=>282|26=>283|27=>284|46=>322|47=>268|48=>269|49=>323|50=>324|57=>342|n=>n,λ|22=>114|24=>118|25=>320|3=>3|39=>285|0=>0|53=>367|55=>369|4=>4|46=>361|45=>360|50=>236|5=>5|9=>9|66=>421|70=>425|76=>452|77=>411|n=>n,λ|n=>n⟩
theorem Tryz.sortLo:Go.Proofs.SlLaysF0.n6 prog Tryz.sortLo_ren:={
 mixed:=od
 f6:=⟨Tryz.f170.name,og,func170.D (OR some od)⟩
 f14:=⟨Tryz.f246.name,og,func246.D (OR some od)⟩
 f15:=func139.D (OR some od)
 f20:=⟨Tryz.f277.name,og,func277.D (OR some od)⟩
 f21:=⟨Tryz.f278.name,og,func278.D (OR some od)⟩
 f22:=⟨Tryz.f279.name,og,func279.D (OR some od)⟩
 f23:=⟨Tryz.f280.name,og,func280.D (OR some od)⟩
 f24:=⟨Tryz.f281.name,og,func281.D (OR some od)⟩
 f25:=⟨Tryz.f282.name,og,func282.D (OR some od)⟩
 f26:=⟨Tryz.f283.name,og,func283.D (OR some od)⟩
 f27:=⟨Tryz.f284.name,og,func284.D (OR some od)⟩
 f28:=func214.D (OR some od)
 f29:=func215.D (OR some od)
 f46:=⟨Tryz.f322.name,og,func322.D (OR some od)⟩
 f47:=func268.D (OR some od)
 f48:=func269.D (OR some od)
 f49:=⟨Tryz.f323.name,og,func323.D (OR some od)⟩
 f50:=⟨Tryz.f324.name,og,func324.D (OR some od)⟩
 f57:=⟨Tryz.f342.name,og,func342.D (OR some od)⟩
 t0:=underlying0
 a0:=isAgg0
 z0:=sizeOf0
 v0:=zeroValue0
 t3:=underlying3
 a3:=isAgg3
 z3:=sizeOf3
 v3:=zeroValue3
 t4:=underlying4
 a4:=isAgg4
 z4:=sizeOf4
 v4:=zeroValue4
 t5:=underlying5
 a5:=isAgg5
 z5:=sizeOf5
 v5:=zeroValue5
 t9:=underlying9
 a9:=isAgg9
 z9:=sizeOf9
 v9:=zeroValue9
 t22:=underlying114
 a22:=isAgg114
 z22:=sizeOf114
 v22:=zeroValue114
 t25:=underlying320
 a25:=isAgg320
 z25:=sizeOf320
 v25:=zeroValue320
 t39:=underlying285
 a39:=isAgg285
 z39:=sizeOf285
 v39:=zeroValue285
 t45:=underlying360
 a45:=isAgg360
 z45:=sizeOf360
 v45:=zeroValue360
 t46:=underlying361
 a46:=isAgg361
 z46:=sizeOf361
 v46:=zeroValue361
 t50:=underlying236
 a50:=isAgg236
 z50:=sizeOf236
 v50:=zeroValue236
 t53:=underlying367
 a53:=isAgg367
 z53:=sizeOf367
 v53:=zeroValue367
 t55:=underlying369
 a55:=isAgg369
 z55:=sizeOf369
 v55:=zeroValue369
 t66:=underlying421
 a66:=isAgg421
 z66:=sizeOf421
 v66:=zeroValue421
 t70:=underlying425
 a70:=isAgg425
 z70:=sizeOf425
 v70:=zeroValue425
 t76:=underlying452
 a76:=isAgg452
 z76:=sizeOf452
 v76:=zeroValue452
 t77:=underlying411
 a77:=isAgg411
 z77:=sizeOf411
 v77:=zeroValue411 }
def Tryz.sortTe_ren:Go.Shelf.Ren:=⟨λ|6=>172|15=>139|14=>247|28=>214|29=>215|20=>285|21=>286|22=>287|23=>288|24=>289|25=>290|26=>291|27=>292|46=>325|47=>268|48=>269|49=>326|50=>327|57=>343|n=>n,λ|22=>119|24=>123|25=>322|3=>3|39=>285|0=>0|53=>367|55=>369|4=>4|46=>361|45=>360|50=>236|5=>5|9=>9|66=>421|70=>425|76=>452|77=>411|n=>n,λ|n=>n⟩
theorem Tryz.sortTe:Go.Proofs.SlLaysF0.n6 prog Tryz.sortTe_ren:={
 mixed:=od
 f6:=⟨Tryz.f172.name,og,func172.D (OR some od)⟩
 f14:=⟨Tryz.f247.name,og,func247.D (OR some od)⟩
 f15:=func139.D (OR some od)
 f20:=⟨Tryz.f285.name,og,func285.D (OR some od)⟩
 f21:=⟨Tryz.f286.name,og,func286.D (OR some od)⟩
 f22:=⟨Tryz.f287.name,og,func287.D (OR some od)⟩
 f23:=⟨Tryz.f288.name,og,func288.D (OR some od)⟩
 f24:=⟨Tryz.f289.name,og,func289.D (OR some od)⟩
 f25:=⟨Tryz.f290.name,og,func290.D (OR some od)⟩
 f26:=⟨Tryz.f291.name,og,func291.D (OR some od)⟩
 f27:=⟨Tryz.f292.name,og,func292.D (OR some od)⟩
 f28:=func214.D (OR some od)
 f29:=func215.D (OR some od)
 f46:=⟨Tryz.f325.name,og,func325.D (OR some od)⟩
 f47:=func268.D (OR some od)
 f48:=func269.D (OR some od)
 f49:=⟨Tryz.f326.name,og,func326.D (OR some od)⟩
 f50:=⟨Tryz.f327.name,og,func327.D (OR some od)⟩
 f57:=⟨Tryz.f343.name,og,func343.D (OR some od)⟩
 t0:=underlying0
 a0:=isAgg0
 z0:=sizeOf0
 v0:=zeroValue0
 t3:=underlying3
 a3:=isAgg3
 z3:=sizeOf3
 v3:=zeroValue3
 t4:=underlying4
 a4:=isAgg4
 z4:=sizeOf4
 v4:=zeroValue4
 t5:=underlying5
 a5:=isAgg5
 z5:=sizeOf5
 v5:=zeroValue5
 t9:=underlying9
 a9:=isAgg9
 z9:=sizeOf9
 v9:=zeroValue9
 t22:=underlying119
 a22:=isAgg119
 z22:=sizeOf119
 v22:=zeroValue119
 t25:=underlying322
 a25:=isAgg322
 z25:=sizeOf322
 v25:=zeroValue322
 t39:=underlying285
 a39:=isAgg285
 z39:=sizeOf285
 v39:=zeroValue285
 t45:=underlying360
 a45:=isAgg360
 z45:=sizeOf360
 v45:=zeroValue360
 t46:=underlying361
 a46:=isAgg361
 z46:=sizeOf361
 v46:=zeroValue361
 t50:=underlying236
 a50:=isAgg236
 z50:=sizeOf236
 v50:=zeroValue236
 t53:=underlying367
 a53:=isAgg367
 z53:=sizeOf367
 v53:=zeroValue367
 t55:=underlying369
 a55:=isAgg369
 z55:=sizeOf369
 v55:=zeroValue369
 t66:=underlying421
 a66:=isAgg421
 z66:=sizeOf421
 v66:=zeroValue421
 t70:=underlying425
 a70:=isAgg425
 z70:=sizeOf425
 v70:=zeroValue425
 t76:=underlying452
 a76:=isAgg452
 z76:=sizeOf452
 v76:=zeroValue452
 t77:=underlying411
 a77:=isAgg411
 z77:=sizeOf411
 v77:=zeroValue411 }
end Go.Proofs
namespace Go.Lg
open Go.Lg Go.Sort
abbrev Lz:={ x:Int×Int // 0<=x.1/\x.1<4096 }
instance:Inhabited Lz:=⟨⟨(0,0),og⟩⟩
abbrev U8 (x:Lz):LV:=[oE oF x.1.1,oE oF x.1.2]
theorem qN (x:Lz):(U8 x).length=2:=rfl
theorem zx:∀l:List Lz,(l.flatMap U8).length=l.length*2
 | []=>rfl
 | x::l=>by rw[LG,Ll,zx l,qN,LS];omega
theorem qM {l:List Lz}(I:j<l.length*2):(l.flatMap U8)[j]?=some ((flatK U8 2 l.toArray)[j]!):=by
 have E:j / 2<l.length:=Nat.div_lt_of_lt_mul oa;have G:j % 2<2:=OI _ og;rw[get_flatK _ _ _ _ (oy I)];have J:=XX U8 2 qN l (j / 2) E;have O:(l.flatMap U8)[j]?=(U8 (l[j / 2]'E))[j % 2]?:=by
  rw[<-J,LX,OQ G,MW];congr 1;omega
 rw[O];have S:(l.toArray)[j / 2]! = l[j / 2]'E:=by simp[E]
 rw[S];have H:j % 2<(U8 (l[j / 2]'E)).length:=G;exact(LU H).D (OR some (getElem!_pos (U8 (l[j / 2]'E)) (j % 2) H).symm)
theorem Qcs:SWO (ltOf λx y:Lz=>x.1.1 - y.1.1) where
 irrefl x:=by unfold ltOf;simp
 trans x y z h1 h2:=by unfold ltOf at *;simp at *;omega
 ntrans x y z h1 h2:=by unfold ltOf at *;simp at *;omega
theorem Qhj:∀{l:xq},(∀x∈l,0<=x.1/\x.1<4096)->∃L:List Lz,L.map Subtype.val=l
 | [],_=>⟨[],U⟩
 | x::l,h=>by
  obtain⟨L,E⟩:=Qhj (l:=l) (λy G=>h y (Lj _ G));exact⟨⟨x,h x Lq⟩::L,by rw[LE,E]⟩
theorem QdB (L:List Lz):L.flatMap U8=(L.map Subtype.val).flatMap QN:=by rw[List.flatMap_map]
theorem Qhi {l:List Lz}{E:Array Lz}(h:pdq (ltOf λx y:Lz=>x.1.1 - y.1.1) l.toArray 0 l.length (Go.Lib.bitLen l.length) true true=E)(J:((l.map Subtype.val).map (·.1)).Nodup):E.size=l.length/\E.toList.map Subtype.val=isrt (·.1) (l.map Subtype.val):=by
 have G:=pdq_sorts (ltOf λx y:Lz=>x.1.1 - y.1.1) Qcs l.toArray 0 l.toArray.size (Go.Lib.bitLen l.length) true true (Lo _) (Lv _) (Or.inl U);rw[LR,h]at G;obtain⟨H,O⟩:=Qdp (d:=l.toArray) (by rw[LR];exact G.1) (by rw[LR];exact G.2);refine⟨oy H.length_eq,QdP (λp:Int×Int=>p.1) (H.map _) ?_ J⟩;refine MF.2 (O.imp λ{x y} I=>?_);unfold ltOf at I;have S:¬(y.1.1 - x.1.1<0):=OW I;show x.1.1<=y.1.1;omega
theorem QoN (x y:Lz)(W:OX):Calls prog 171 #[.agg (U8 x).toArray,.agg (U8 y).toArray] W λe w'=>e=.returned (oE oF (x.1.1 - y.1.1))/\∃q os',w'=grow (W.drewN q) os':=by
 have E:IntKind.i64.wrap (x.1.1 - y.1.1)=x.1.1 - y.1.1:=YM ⟨ou x.2 y.2,ou x.2 y.2⟩
 go_enter func171,ntmps171
 go_wp2
 go_ret;exact⟨by rw[<-E];rfl,0,_,by rw[alloc_eq_grow,alloc_eq_grow,grow_grow];rfl⟩
theorem QeE {base:Nat}{v:OY}{G:xq}(h0:w.ownsRow base 118 2 v G.length (G.flatMap QN))(hb:∀x∈G,0<=x.1/\x.1<4096)(S:(G.map (·.1)).Nodup)(hh:G.length<=1099511627776):
  Q3 prog 170 [v,.func (.func 171) #[] #[]] w λ_ w'=>O1 (ob v) w w'/\w'.ownsRow base 118 2 v (isrt (·.1) G).length ((isrt (·.1) G).flatMap QN):=by
 obtain⟨l,hl⟩:=Qhj hb;subst hl;rw[<-QdB,Lh]at h0;rw[Lh]at hh;unfold Q3;rcases h0.2 with⟨rfl,J⟩|⟨g,cap,cur,rfl,hm,O,ho,hp,hq,hr⟩
 ·have hs:l=[]:=Ls J;subst hs;have H:=AnyF.slices_SortFunc_none Tryz.sortLo none 0 (.func (.func 171) #[] #[]) w;change Calls prog 170 _ _ _ at H;refine Calls.mono H λe w' T=>?_;obtain⟨rfl,rfl⟩:=T;exact⟨O1.Z _ _,QJ _ _ _ _⟩
 have ha:g<w.heap.size:=(LO.1 O).1;have hH:HoldsK U8 2 w g 0 l.toArray:=by
  intro j E;rw[size_flatK,LR]at E;have J:=qM E;rw[<-hr,LX,OQ E]at J;constructor
  ·show(match w.heap[g]? with|some (.cells c _ _)=>if(none:Option _).isSome then none else c[0+j]?|_=>none)=_
   rw[O];simp only[oX,Ow,Ox,if_false];rw[<-Mi,J];rfl
  show(match w.heap[g]? with|some (.cells _ _ (lo,hi))=>decide (lo<=0+j) && decide (0+j<hi)|_=>false)=false
  rw[O];simp
 have eg:∀args w,(callFunc 171 args).run prog w=.ok (.enter 171 args) w:=enters_of func171 od U;have H:=AnyQ.slices_SortFunc_eq Tryz.sortLo 2 isAgg118 sizeOf118 U8 qN (λx v hv=>by simp at hv;rcases hv with rfl|rfl <;> rfl) (λx y=>x.1.1 - y.1.1) Qcs 171 #[] g 0 cap l.toArray w eg (λm os dk _ x y=>QoN x y _) hH ha (by simp;omega)
 change Calls prog 170 _ _ _ at H;rw[LR]at H;refine Calls.mono H λe w' T=>?_;obtain⟨rfl,n,os,rfl⟩:=T;refine Zo (pdq (ltOf λx y:Lz=>x.1.1 - y.1.1) l.toArray 0 l.length (Go.Lib.bitLen l.length) true true) λI hf=>?_;obtain⟨V,ht⟩:=Qhi hf S;rw[hf,<-ht];have Y:(sortWorldK U8 2 w g 0 n I os).heap=w.heap.modify g (onCells (putCells id 0 (flatK U8 2 I)))++os:=rfl;refine⟨⟨rfl,U,U,?_,λk hk S=>?_⟩,?_⟩
 ·rw[Y,MP,Mk];omega
 ·rw[Y,Mj,Mk,OQ hk,Mw,OP (λe=>S (by simp[ob,e]))]
 rw[<-QdB,Lh];refine⟨zx _,.inr ⟨g,cap,putCells id 0 (flatK U8 2 I) cur,by simp[V],hm,?_,by simp[V];exact ho,hp,by simp[putCells,hq],?_⟩⟩
 ·rw[Y,Mj,Mk,OQ ha,Mw,OQ rfl,O];rfl
 apply M7;intro j;rw[LX];by_cases E:j<I.toList.length*2
 ·rw[OQ E,qM E,Mi];have hu:j<cur.size:=by simp[V]at E;omega
  have hw:j<(flatK U8 2 I).size:=by simpa using E
  simp only[putCells,Oo,Od hu,Ot,ON,oX,true_and,OQ hw,OC,id]
 rw[OP E,MR];rw[zx];omega
theorem QoL (x y:Lz)(W:OX):Calls prog 173 #[.agg (U8 x).toArray,.agg (U8 y).toArray] W λe w'=>e=.returned (oE oF (x.1.1 - y.1.1))/\∃q os',w'=grow (W.drewN q) os':=by
 have E:IntKind.i64.wrap (x.1.1 - y.1.1)=x.1.1 - y.1.1:=YM ⟨ou x.2 y.2,ou x.2 y.2⟩
 go_enter func173,ntmps173
 go_wp2
 go_ret;exact⟨by rw[<-E];rfl,0,_,by rw[alloc_eq_grow,alloc_eq_grow,grow_grow];rfl⟩
theorem QeC {base:Nat}{v:OY}{G:xq}(h0:w.ownsRow base 123 2 v G.length (G.flatMap QN))(hb:∀x∈G,0<=x.1/\x.1<4096)(S:(G.map (·.1)).Nodup)(hh:G.length<=1099511627776):
  Q3 prog 172 [v,.func (.func 173) #[] #[]] w λ_ w'=>O1 (ob v) w w'/\w'.ownsRow base 123 2 v (isrt (·.1) G).length ((isrt (·.1) G).flatMap QN):=by
 obtain⟨l,hl⟩:=Qhj hb;subst hl;rw[<-QdB,Lh]at h0;rw[Lh]at hh;unfold Q3;rcases h0.2 with⟨rfl,J⟩|⟨g,cap,cur,rfl,hm,O,ho,hp,hq,hr⟩
 ·have hs:l=[]:=Ls J;subst hs;have H:=AnyF.slices_SortFunc_none Tryz.sortTe none 0 (.func (.func 173) #[] #[]) w;change Calls prog 172 _ _ _ at H;refine Calls.mono H λe w' T=>?_;obtain⟨rfl,rfl⟩:=T;exact⟨O1.Z _ _,QJ _ _ _ _⟩
 have ha:g<w.heap.size:=(LO.1 O).1;have hH:HoldsK U8 2 w g 0 l.toArray:=by
  intro j E;rw[size_flatK,LR]at E;have J:=qM E;rw[<-hr,LX,OQ E]at J;constructor
  ·show(match w.heap[g]? with|some (.cells c _ _)=>if(none:Option _).isSome then none else c[0+j]?|_=>none)=_
   rw[O];simp only[oX,Ow,Ox,if_false];rw[<-Mi,J];rfl
  show(match w.heap[g]? with|some (.cells _ _ (lo,hi))=>decide (lo<=0+j) && decide (0+j<hi)|_=>false)=false
  rw[O];simp
 have eg:∀args w,(callFunc 173 args).run prog w=.ok (.enter 173 args) w:=enters_of func173 od U;have H:=AnyQ.slices_SortFunc_eq Tryz.sortTe 2 isAgg123 sizeOf123 U8 qN (λx v hv=>by simp at hv;rcases hv with rfl|rfl <;> rfl) (λx y=>x.1.1 - y.1.1) Qcs 173 #[] g 0 cap l.toArray w eg (λm os dk _ x y=>QoL x y _) hH ha (by simp;omega)
 change Calls prog 172 _ _ _ at H;rw[LR]at H;refine Calls.mono H λe w' T=>?_;obtain⟨rfl,n,os,rfl⟩:=T;refine Zo (pdq (ltOf λx y:Lz=>x.1.1 - y.1.1) l.toArray 0 l.length (Go.Lib.bitLen l.length) true true) λI hf=>?_;obtain⟨V,ht⟩:=Qhi hf S;rw[hf,<-ht];have Y:(sortWorldK U8 2 w g 0 n I os).heap=w.heap.modify g (onCells (putCells id 0 (flatK U8 2 I)))++os:=rfl;refine⟨⟨rfl,U,U,?_,λk hk S=>?_⟩,?_⟩
 ·rw[Y,MP,Mk];omega
 ·rw[Y,Mj,Mk,OQ hk,Mw,OP (λe=>S (by simp[ob,e]))]
 rw[<-QdB,Lh];refine⟨zx _,.inr ⟨g,cap,putCells id 0 (flatK U8 2 I) cur,by simp[V],hm,?_,by simp[V];exact ho,hp,by simp[putCells,hq],?_⟩⟩
 ·rw[Y,Mj,Mk,OQ ha,Mw,OQ rfl,O];rfl
 apply M7;intro j;rw[LX];by_cases E:j<I.toList.length*2
 ·rw[OQ E,qM E,Mi];have hu:j<cur.size:=by simp[V]at E;omega
  have hw:j<(flatK U8 2 I).size:=by simpa using E
  simp only[putCells,Oo,Od hu,Ot,ON,oX,true_and,OQ hw,OC,id]
 rw[OP E,MR];rw[zx];omega
def zZ (l:List ZQ)(n:ByteArray)(tk:LI):Int:=if Jy l 1 n=false then 9 else if(Z4 l 1 n:Int)∈tk then 8 else 0
theorem Qed {v:OY}{es:List DV}(h:Zm L w.heap v es.length 9 (es.flatMap Qt))(n:ByteArray){tk:LI}(S:QP L' w.heap vt tk):
  Q3 prog 169 [v,.string n,vt] w λr w'=>(∃i:Int,r=.tuple #[oE oF i,oE oF (zZ (es.map DV.it) n tk)]/\(zZ (es.map DV.it) n tk=0->i=(Z4 (es.map DV.it) 1 n:Int)))/\O1 [] w w':=by
 have G:zZ (es.map DV.it) n tk=if Jy (es.map DV.it) 1 n=false then 9 else if(Z4 (es.map DV.it) 1 n:Int)∈tk then 8 else 0:=rfl
 refine Zo (zZ (es.map DV.it) n tk) λE hE=>?_;rw[hE]at G ⊢;refine Zq func169 ?_;refine Qc<|x Ql<|Qb<|Qm<|Qa<|QM<|(qU h 1 n).mono ?_;rintro T V ⟨⟨i,rfl,hi⟩,H⟩;refine Qa<|QZ U U<|QZ U U<|x Ql<|Qb<|Qd<|Qg<|Qm<|x (ZC U)<|Qb<|QQ U (λI=>?_) (λI=>?_)
 ·rw[OQ (oy I)]at G;subst G;refine Qc<|x Ql<|Qb<|Qk ⟨[oE oF 0,oE oF 9],oz,⟨0,U,λe=>OS e og⟩,H⟩
 have O:Jy (es.map DV.it) 1 n=true:=by simpa using I
 have hi:=hi O;subst hi;rw[OP (by rw[O];decide)]at G;refine Qm<|Qa<|QM<|(Yr (S.I H) _).mono ?_;rintro Y w2 ⟨rfl,rfl⟩;refine Qb<|QX U (λJ=>?_) (λJ=>?_)
 ·rw[OQ J]at G;subst G;refine Qc<|x Ql<|Qb<|Qk ⟨[oE oF 0,oE oF 8],oz,⟨0,U,λe=>OS e og⟩,H⟩
 rw[OP J]at G;subst G;refine Qh<|Qm<|x Ql<|Qb<|Qk ⟨[oE oF _,oE oF 0],oz,⟨_,U,λ_=>U⟩,H⟩
theorem jl (l:List ZQ)(y:ByteArray×Int)(r:List (ByteArray×Int))(tk:LI)(o:xq):Yj l (y::r) tk o=if zZ l y.1 tk≠0 then(zZ l y.1 tk,[])else Yj l r (tk++[(Z4 l 1 y.1:Int)]) (o++[((Z4 l 1 y.1:Int),y.2)]):=by
 rw[Yj];unfold zZ;split
 ·rfl
 split
 ·rfl
 rfl
theorem Qiv {l:List ZQ}{n:ByteArray}{tk:LI}(h:zZ l n tk=0):Z4 l 1 n<l.length/\(Z4 l 1 n:Int)∉tk:=by
 unfold zZ at h;split at h
 ·exact OS h og
 rename_i E;split at h
 ·exact OS h og
 rename_i G;refine⟨?_,G⟩;have H:Jy l 1 n=true:=by simpa using E
 exact OU H
theorem Qe6 {v:OY}{es:List DV}(h0:Zm L w.heap v es.length 9 (es.flatMap Qt))(gm:es.length<=4096)(hC:XT L' w.heap q)(gn:q.ls.length<=100000):
  Q3 prog 99 [v,.agg (Qt q).toArray] w λr w'=>O1 [] w w'/\∃vo,r=.tuple #[vo,oE oF (Yj (es.map DV.it) q.ls [] []).1]/\((Yj (es.map DV.it) q.ls [] []).1≠0->vo=Zl) /\
   ((Yj (es.map DV.it) q.ls [] []).1=0->w'.ownsRow w.heap.size 118 2 vo (Yj (es.map DV.it) q.ls [] []).2.length ((Yj (es.map DV.it) q.ls [] []).2.flatMap QN)):=by
 have h:=h0.up (L':=[]) oe;have hq:=hC.up (L':=[]) oe;refine Zo (Yj (es.map DV.it) q.ls [] []) λR hR=>?_;rw[hR];refine Zq func99 ?_;refine Qc<|Qe<|QW (us:=Qt q) U λb3 G T go hD=>x Ql<|Qb ?_;have gp:=T.size;have h1:=h.I T;have hw:=hq.I T;refine Qc<|Qb<|Qc<|Qb<|Qd<|Qc<|Qs U hD U U<|QI hw.ls.arr U<|Qa<|xe<|Qg<|QD (α:=Nat×OY×OY×xq) [(4,7),(9,11),(15,41)] (λz=>[(6,z.2.1),(7,z.2.2.1),(15,oE oF z.1)]) (λz w'=>z.1<=q.ls.length/\O1 [] G w'/\w'.ownsRow G.heap.size 118 2 z.2.1 z.2.2.2.length (z.2.2.2.flatMap QN)/\Qv 3 G.heap.size w' z.2.2.1 (z.2.2.2.map (·.1))/\(∀b∈ob z.2.1,b∉ob z.2.2.1)/\z.2.2.2.length=z.1/\(∀x∈z.2.2.2,0<=x.1/\x.1<4096)/\(z.2.2.2.map (·.1)).Nodup/\Yj (es.map DV.it) (q.ls.drop z.1) (z.2.2.2.map (·.1)) z.2.2.2=R) (λz=>q.ls.length - z.1) ol (0,Zl,Zl,[]) oA
  ⟨Lo _,O1.Z _ _,QJ _ _ _ _,QJ _ _ _ _,by simp[ob],rfl,oe,ME,hR⟩ ?_
 rintro⟨k,vo,vt,l⟩ g w2 ⟨hk,I,J,hg,hn,ho,hr,hs,hE⟩;simp only[]at hk J hg hn ho hr hs hE;have gq:=I.size;have gr:(l.map (·.1)).length=k:=by rw[Lh,ho]
 have h2:=h1.I I;have hG:=hw.I I;refine Qc<|Q0 U U<|xe<|Qd<|QH U (λht=>?_) (λht=>?_)
 ·refine Qz ?_;have hH:q.ls.length<=k:=by have hh:¬(k:Int)<(q.ls.length:Int):=ht;omega
  rw[Lp hH]at hE;rw[Yj]at hE;subst hE;refine Qm<|QM<|(QeE J hr hs oa).mono ?_;rintro r3 w3 ⟨hI,hJ⟩;refine xe<|Qm<|x Ql<|Qb<|Qk ⟨[vo,oE oF 0],oz,T.D (I.then hI λb E=>.inr (Qi J b E).1),vo,U,λe=>OS U e,λ_=>Zy hJ oa⟩
 have V:k<q.ls.length:=by have hh:(k:Int)<(q.ls.length:Int):=ht;omega
 have hK:q.ls.drop k=q.ls[k]'V::q.ls.drop (k+1):=LD V;rw[hK,jl]at hE;refine Qh<|Qd<|Qg<|Qc<|O4 (g:=ZF) (i:=k) Qcf hG.ls.arr U U V λgs hh=>?_;refine Zo (q.ls[k]'V) λy hy=>?_;rw[hy]at hh hE;refine x (Qx hh U U)<|Qe<|Qo (us:=[.string .empty,oE oF 0]) U λb9 w4 hL hM hN=>Qe<|Qj (us:=ZF y) hN U U U U oz λw5 hO hz=>xe ?_;have hu:O1 [] w2 w5:=hL.O hO hM;have hP:QP [] w5.heap vt (l.map (·.1)):=(Qv.ints hg oa oe).I hu;refine Qm<|Qs U hz U U<|Qa<|QM<|(Qed (h2.I hu) y.1 hP).mono ?_;rintro r6 w6 ⟨⟨i,rfl,hi⟩,h4⟩;have Y:=hu.D h4;have gt:=Y.size;refine Qa<|QZ U U<|QZ U U<|x Ql<|Qb<|Qd<|Qm<|ZB U U<|xe<|QX rfl (λhe=>?_) (λhe=>?_)
 ·rw[OQ he]at hE;subst hE;refine Qm<|x Ql<|Qb<|Qk ⟨[Zl,oE oF _],oz,T.D (I.D Y),Zl,U,λ_=>U,λe=>OS e he⟩
 rw[OP he]at hE;have h5:zZ (es.map DV.it) y.1 (l.map (·.1))=0:=Ln.1 he;have hi:=hi h5;obtain⟨hF,h6⟩:=Qiv h5;rw[Lh]at hF;refine Zo (Z4 (es.map DV.it) 1 y.1) λF hQ=>?_;rw[hQ]at hi hF h6 hE;subst hi;refine Qh ?_;have hS:=hz.I h4;have hT:=Qq J Y;have hU:Qv 3 G.heap.size w6 vt (l.map (·.1)):=Qq hg Y;refine Qm<|Qa<|Qe<|QB (us:=[[oE oF F]]) U U og (show 1*1<=1000000 by decide) oz λgu w7 hf gv hV=>?_;have h7:Qv 3 G.heap.size w7 vt (l.map (·.1)):=Qq hU hf;have gw:=hf.size;refine Qe<|Zb (m:=1) (news:=[oE oF F]) h7 U U U (by have:=hV.at (L:=[]) oe;simpa using this) (by simp[Value.oneCell']) oa oa λhj w8 hW hl hX=>?_;refine Qb ?_;have gx:=hl.size;have hY:=Qf (Qq hT hf) hl hn;have hZ:∀b∈ob vt,G.heap.size<=b:=λb E=>(Qi h7 b E).1;have ga:O1 [] G w8:=((I.D Y).D hf).then hl λb E=>.inr (hZ b E);have gb:=(hS.I hf).J hl (λE=>ot (Qi hg b9 E).2);have h8:∀b∈ob vo,b∉ob hj:=λb E O=>by
  rcases hX b O with H|H
  ·exact hn b E H
  have:=(Qi J b E).2;omega
 refine Qw<|Qa<|Qa<|Qs U gb U U<|x (Qy ⟨U,U,Z⟩)<|Qe<|QB (us:=[QN ((F:Int),y.2)]) U U og (show 1*2<=1000000 by decide) oz λgy w9 hm gz gc=>?_;have gg:=Qq hY hm;have g0:=hm.size;refine Qe<|Zb (m:=1) (news:=QN ((F:Int),y.2)) gg U U U (by have:=gc.at (L:=[]) oe;simpa using this) (by simp[Value.oneCell']) oa oa λh9 hv gh hA gi=>?_;refine Qb ?_;have hB:=Qq hW hm;have gj:Qv 3 G.heap.size hv hj ((l++[((F:Int),y.2)]).map (·.1)):=by
  have H:=Qf hB hA (λb E O=>h8 b O E);show hv.ownsRow _ _ 1 _ _ _;simp only[Of,oL,Ol]at H ⊢;simpa using H
 have gk:O1 [] G hv:=(ga.D hm).then hA λb E=>.inr (Qi J b E).1;have gl:∀b∈ob h9,b∉ob hj:=λb E O=>by
  rcases gi b E with H|H
  ·exact h8 b H O
  have:=(Qi hB b O).2;omega
 refine Qw<|QS U U<|Qa<|xe<|⟨(k+1,h9,hj,l++[((F:Int),y.2)]),by show q.ls.length - (k+1)<q.ls.length - k;omega,oA,V,gk,by rw[Ll,LB];simpa using gh,gj,gl,by simp[ho],λp S=>?_,?_,?_⟩
 ·rcases Lc.1 S with S|S
  ·exact hr p S
  simp only[oH]at S;subst S;exact⟨oh,oh⟩
 ·rw[Lt,MK];refine⟨hs,oe,λa ha b E e=>?_⟩;simp only[oZ,OM,oH]at E;subst E;subst e;exact h6 ha
 rw[Lt];exact hE
theorem Qgj {v:OY}{es:List DV}(h0:Zm L w.heap v es.length 9 (es.flatMap Qt))(gm:es.length<=4096)(hC:XT L' w.heap q)(gn:q.ts.length<=100000):
  Q3 prog 100 [v,.agg (Qt q).toArray] w λr w'=>O1 [] w w'/\∃vo,r=.tuple #[vo,oE oF (Yj (es.map DV.it) q.ts [] []).1]/\((Yj (es.map DV.it) q.ts [] []).1≠0->vo=Zl) /\
   ((Yj (es.map DV.it) q.ts [] []).1=0->w'.ownsRow w.heap.size 123 2 vo (Yj (es.map DV.it) q.ts [] []).2.length ((Yj (es.map DV.it) q.ts [] []).2.flatMap QN)):=by
 have h:=h0.up (L':=[]) oe;have hq:=hC.up (L':=[]) oe;refine Zo (Yj (es.map DV.it) q.ts [] []) λR hR=>?_;rw[hR];refine Zq func100 ?_;refine Qc<|Qe<|QW (us:=Qt q) U λb3 G T go hD=>x Ql<|Qb ?_;have gp:=T.size;have h1:=h.I T;have hw:=hq.I T;refine Qc<|Qb<|Qc<|Qb<|Qd<|Qc<|Qs U hD U U<|QI hw.ts.arr U<|Qa<|xe<|Qg<|QD (α:=Nat×OY×OY×xq) [(4,7),(9,11),(15,41)] (λz=>[(6,z.2.1),(7,z.2.2.1),(15,oE oF z.1)]) (λz w'=>z.1<=q.ts.length/\O1 [] G w'/\w'.ownsRow G.heap.size 123 2 z.2.1 z.2.2.2.length (z.2.2.2.flatMap QN)/\Qv 3 G.heap.size w' z.2.2.1 (z.2.2.2.map (·.1))/\(∀b∈ob z.2.1,b∉ob z.2.2.1)/\z.2.2.2.length=z.1/\(∀x∈z.2.2.2,0<=x.1/\x.1<4096)/\(z.2.2.2.map (·.1)).Nodup/\Yj (es.map DV.it) (q.ts.drop z.1) (z.2.2.2.map (·.1)) z.2.2.2=R) (λz=>q.ts.length - z.1) ol (0,Zl,Zl,[]) oA
  ⟨Lo _,O1.Z _ _,QJ _ _ _ _,QJ _ _ _ _,by simp[ob],rfl,oe,ME,hR⟩ ?_
 rintro⟨k,vo,vt,l⟩ g w2 ⟨hk,I,J,hg,hn,ho,hr,hs,hE⟩;simp only[]at hk J hg hn ho hr hs hE;have gq:=I.size;have gr:(l.map (·.1)).length=k:=by rw[Lh,ho]
 have h2:=h1.I I;have hG:=hw.I I;refine Qc<|Q0 U U<|xe<|Qd<|QH U (λht=>?_) (λht=>?_)
 ·refine Qz ?_;have hH:q.ts.length<=k:=by have hh:¬(k:Int)<(q.ts.length:Int):=ht;omega
  rw[Lp hH]at hE;rw[Yj]at hE;subst hE;refine Qm<|QM<|(QeC J hr hs oa).mono ?_;rintro r3 w3 ⟨hI,hJ⟩;refine xe<|Qm<|x Ql<|Qb<|Qk ⟨[vo,oE oF 0],oz,T.D (I.then hI λb E=>.inr (Qi J b E).1),vo,U,λe=>OS U e,λ_=>Zy hJ oa⟩
 have V:k<q.ts.length:=by have hh:(k:Int)<(q.ts.length:Int):=ht;omega
 have hK:q.ts.drop k=q.ts[k]'V::q.ts.drop (k+1):=LD V;rw[hK,jl]at hE;refine Qh<|Qd<|Qg<|Qc<|O4 (g:=ZF) (i:=k) Qcf hG.ts.arr U U V λgs hh=>?_;refine Zo (q.ts[k]'V) λy hy=>?_;rw[hy]at hh hE;refine x (Qx hh U U)<|Qe<|Qo (us:=[.string .empty,oE oF 0]) U λb9 w4 hL hM hN=>Qe<|Qj (us:=ZF y) hN U U U U oz λw5 hO hz=>xe ?_;have hu:O1 [] w2 w5:=hL.O hO hM;have hP:QP [] w5.heap vt (l.map (·.1)):=(Qv.ints hg oa oe).I hu;refine Qm<|Qs U hz U U<|Qa<|QM<|(Qed (h2.I hu) y.1 hP).mono ?_;rintro r6 w6 ⟨⟨i,rfl,hi⟩,h4⟩;have Y:=hu.D h4;have gt:=Y.size;refine Qa<|QZ U U<|QZ U U<|x Ql<|Qb<|Qd<|Qm<|ZB U U<|xe<|QX rfl (λhe=>?_) (λhe=>?_)
 ·rw[OQ he]at hE;subst hE;refine Qm<|x Ql<|Qb<|Qk ⟨[Zl,oE oF _],oz,T.D (I.D Y),Zl,U,λ_=>U,λe=>OS e he⟩
 rw[OP he]at hE;have h5:zZ (es.map DV.it) y.1 (l.map (·.1))=0:=Ln.1 he;have hi:=hi h5;obtain⟨hF,h6⟩:=Qiv h5;rw[Lh]at hF;refine Zo (Z4 (es.map DV.it) 1 y.1) λF hQ=>?_;rw[hQ]at hi hF h6 hE;subst hi;refine Qh ?_;have hS:=hz.I h4;have hT:=Qq J Y;have hU:Qv 3 G.heap.size w6 vt (l.map (·.1)):=Qq hg Y;refine Qm<|Qa<|Qe<|QB (us:=[[oE oF F]]) U U og (show 1*1<=1000000 by decide) oz λgu w7 hf gv hV=>?_;have h7:Qv 3 G.heap.size w7 vt (l.map (·.1)):=Qq hU hf;have gw:=hf.size;refine Qe<|Zb (m:=1) (news:=[oE oF F]) h7 U U U (by have:=hV.at (L:=[]) oe;simpa using this) (by simp[Value.oneCell']) oa oa λhj w8 hW hl hX=>?_;refine Qb ?_;have gx:=hl.size;have hY:=Qf (Qq hT hf) hl hn;have hZ:∀b∈ob vt,G.heap.size<=b:=λb E=>(Qi h7 b E).1;have ga:O1 [] G w8:=((I.D Y).D hf).then hl λb E=>.inr (hZ b E);have gb:=(hS.I hf).J hl (λE=>ot (Qi hg b9 E).2);have h8:∀b∈ob vo,b∉ob hj:=λb E O=>by
  rcases hX b O with H|H
  ·exact hn b E H
  have:=(Qi J b E).2;omega
 refine Qw<|Qa<|Qa<|Qs U gb U U<|x (Qy ⟨U,U,Z⟩)<|Qe<|QB (us:=[QN ((F:Int),y.2)]) U U og (show 1*2<=1000000 by decide) oz λgy w9 hm gz gc=>?_;have gg:=Qq hY hm;have g0:=hm.size;refine Qe<|Zb (m:=1) (news:=QN ((F:Int),y.2)) gg U U U (by have:=gc.at (L:=[]) oe;simpa using this) (by simp[Value.oneCell']) oa oa λh9 hv gh hA gi=>?_;refine Qb ?_;have hB:=Qq hW hm;have gj:Qv 3 G.heap.size hv hj ((l++[((F:Int),y.2)]).map (·.1)):=by
  have H:=Qf hB hA (λb E O=>h8 b O E);show hv.ownsRow _ _ 1 _ _ _;simp only[Of,oL,Ol]at H ⊢;simpa using H
 have gk:O1 [] G hv:=(ga.D hm).then hA λb E=>.inr (Qi J b E).1;have gl:∀b∈ob h9,b∉ob hj:=λb E O=>by
  rcases gi b E with H|H
  ·exact h8 b H O
  have:=(Qi hB b O).2;omega
 refine Qw<|QS U U<|Qa<|xe<|⟨(k+1,h9,hj,l++[((F:Int),y.2)]),by show q.ts.length - (k+1)<q.ts.length - k;omega,oA,V,gk,by rw[Ll,LB];simpa using gh,gj,gl,by simp[ho],λp S=>?_,?_,?_⟩
 ·rcases Lc.1 S with S|S
  ·exact hr p S
  simp only[oH]at S;subst S;exact⟨oh,oh⟩
 ·rw[Lt,MK];refine⟨hs,oe,λa ha b E e=>?_⟩;simp only[oZ,OM,oH]at E;subst E;subst e;exact h6 ha
 rw[Lt];exact hE
structure YV where
 dr:Bool
 q:DV
abbrev ZL (e:YV):LV:=[.bool e.dr,oE oF e.q.kd,.string e.q.nm,e.q.p.va,oE oF e.q.p.a.st,e.q.p.vm,e.q.p.ve,e.q.vl,e.q.vt,oE oF e.q.bd]
theorem Qk6 (e:YV):(ZL e).length=10:=rfl
def YV.e (e:YV):Bool×ZQ:=(e.dr,e.q.it)
def Qjk (L:LN)(H:xu)(e:YV):Prop:=XT L H e.q
instance:Mm Qjk:=⟨λh E=>XT.st h E,λh G=>XT.up h G⟩
theorem Qjk.ones {L:LN}{H:xu}{e:YV}(h:Qjk L H e):Zp (ZL e):=⟨U,XT.ones h⟩
abbrev Qas (L:LN)(H:xu)(v:OY)(l:List YV):Prop:=Go.Lg.KE ZL 10 Qjk L H v l
theorem Qlf {l:List ZQ}{x:ZQ}(h:(VH l x).1=0):(VH l x).2.length<=76:=by
 unfold VH at *;split at h
 ·rename_i E;exact OS h E
 rename_i E;have hl:=KW (Ln.1 E);rw[OP E];split at h
 ·rename_i G;exact OS h G
 rename_i G;rw[OP G];split at h
 ·rename_i H;rw[OQ H,Me];exact hl
 rename_i H;rw[OP H];split at h
 ·cases h
 rename_i I;rw[OP I];simp only[oL,o7,oU,o6];omega
theorem Qlk {l:List ZQ}{k:Int}{n:ByteArray}(h:(qu l k n).1=0):(qu l k n).2.length<=76:=by
 unfold qu at *;split at h
 ·rename_i E;exact OS h E
 rename_i E;have hl:=KW (Ln.1 E);rw[OP E];split at h
 ·cases h
 rename_i G;rw[OP G];simp only[oL,o7,o6];omega
theorem Qjn {v:OY}{es:List DV}{xs:List YV}(E:Ke L w.heap v es)(hv:Qas L' w.heap vx xs):
  Q3 prog 46 [v,vx] w λr w'=>O1 [] w w'/\∃vo l,r=.tuple #[vo,oE oF (zV (es.map DV.it) (xs.map YV.e)).1]/\Jg w.heap.size w' vo l/\((zV (es.map DV.it) (xs.map YV.e)).1=0->l.map DV.it=(zV (es.map DV.it) (xs.map YV.e)).2/\l.length<=76):=by
 have h:=E.up (L':=[]) oe;have hx:Qas [] w.heap vx xs:=hv.up oe;have hI:=hx.arr.le;have G:zV (es.map DV.it) (xs.map YV.e)=if Jw (es.map DV.it)≠0 then(Jw (es.map DV.it),[])else zW (xs.map YV.e) (es.map DV.it):=rfl
 refine Zo (zV (es.map DV.it) (xs.map YV.e)) λD hD=>?_;rw[hD]at G ⊢;refine Zq func46 ?_;refine Qc<|x Ql<|Qb<|Qd<|Qm<|QM<|(Jm h).mono ?_;rintro r1 w1 ⟨rfl,S⟩;refine Qb<|Qm<|ZB U U<|xe<|QX rfl (λH=>?_) (λH=>?_)
 ·rw[OQ H]at G;refine Qm<|x Ql<|Qb<|Qk ⟨[nS,oE oF (Jw (es.map DV.it))],oz,S,nS,[],by rw[G];rfl,Yk.nil,λE=>OS (by rw[G]at E;exact E) H⟩
 rw[OP H]at G;have hJ:es.length<=76:=by have:=KW (Ln.1 H);rwa [Lh]at this
 refine Qh<|Qm<|QM<|(JR (h.I S) oa).mono ?_;rintro r2 w2 ⟨hw,l2,hy,hh⟩;have hK:l2.length=es.length:=by have:=OR oO hh;rwa [Lh,Lh]at this
 have hz:=S.D hw;have h2:=S.size;refine Qb<|Qd<|Qm<|QI hx.arr U<|Qa<|xe<|Qg<|QD (α:=Nat×OY×List DV) [(4,5),(7,7),(9,10),(20,47)] (λz=>[(7,z.2.1),(20,oE oF z.1)]) (λz w'=>z.1<=xs.length/\O1 [] w w'/\Jg w.heap.size w' z.2.1 z.2.2/\z.2.2.length<=76/\zW ((xs.map YV.e).drop z.1) (z.2.2.map DV.it)=D) (λz=>xs.length - z.1) ol (0,r2,l2) oz
  ⟨Lo _,hz,hy.base h2,(show l2.length<=76 by omega),by rw[List.drop_zero,hh];exact G.symm⟩ ?_
 rintro⟨k,vo,l⟩ g Y ⟨hk,ha,hl,hi,hR⟩;simp only[]at hk hl hi hR;refine Qc<|Q0 U U<|xe<|Qd<|QH U (λhb=>?_) (λhb=>?_)
 ·refine Qz ?_;have h3:xs.length<=k:=by have h4:¬(k:Int)<(xs.length:Int):=hb;omega
  rw[Lp (by rw[Lh];exact h3),zW]at hR;refine Qm<|x Ql<|Qb<|Qk ⟨[vo,oE oF 0],oz,ha,vo,l,by rw[<-hR];rfl,hl,λ_=>⟨by rw[<-hR],hi⟩⟩
 have I:k<xs.length:=by have h4:(k:Int)<(xs.length:Int):=hb;omega
 have h5:k<(xs.map YV.e).length:=by rw[Lh];exact I
 rw[LD h5,LM,zW]at hR;have hj:=Lk I;have hm:Qas [] Y.heap vx xs:=Go.Lg.KE.I hx ha;refine Qh<|Qd<|Qg<|Qc<|O4 (g:=ZL) (i:=k) Qk6 hm.arr U U I λhL hn=>?_;refine Zo (xs[k]'I) λe he=>?_;rw[he]at hn hj hR;have ho:XT [] Y.heap e.q:=hm.each e hj;refine x (Qx hn U U)<|Qe<|Qo (us:=[.bool false,oE oF 0,.string .empty,nS,oE oF 0,nS,nS,nS,nS,oE oF 0]) U λb9 w4 h6 h7 h8=>Qe<|Qj (us:=ZL e) h8 U U U U (Qjk.ones ho) λw5 h9 T=>xe ?_;have hc:O1 [] Y w5:=h6.O h9 h7;have hf:=ha.D hc;have hp:=hf.size;have hA:=hl.I hc;have hq:Ke [] w5.heap vo l:=Jg.dits hA oa oe;have hB:=ho.I hc;refine Qc<|Qb<|Za (α:=OY×List DV) [(7,7),(10,10),(24,43)] (λz=>[(7,z.1),(10,oE oF (zX (l.map DV.it) e.e).1)]) (λz w'=>O1 [] w w'/\Jg w.heap.size w' z.1 z.2/\((zX (l.map DV.it) e.e).1=0->z.2.map DV.it=(zX (l.map DV.it) e.e).2/\z.2.length<=76)) ol ?_ ?_
 ·refine Qc<|Qs U T U U<|xe<|QQ U (λhg=>?_) (λhg=>?_)
  ·have e1:zX (l.map DV.it) e.e=qu (l.map DV.it) e.q.kd e.q.nm:=OQ hg;rw[e1];refine Qw<|Qa<|Q7 U<|Qs U T U U<|Q7 U<|Q7 U<|x (Qr T U U) <|
    QM<|(QlQ hq e.q.kd e.q.nm).mono ?_
   rintro r7 w7 ⟨hC,v7,l7,rfl,hE,hr⟩;refine Qa<|QZ U U<|QZ U U<|x Ql<|Qb<|⟨(v7,l7),oz,hf.D hC,hE.base hp,λE=>⟨hr E,?_⟩⟩;have J:=Qlk E;rw[<-hr E,Lh]at J;exact J
  have e1:zX (l.map DV.it) e.e=VH (l.map DV.it) e.q.it:=OP (by show ¬e.dr=true;rw[hg];decide);rw[e1];refine Qw<|Qa<|Q7 U<|x (Zs (us:=Qt e.q) T U U U)<|QM<|(QnN hq hB).mono ?_;rintro r6 w6 ⟨hF,v6,l6,rfl,hG,hs⟩;refine Qa<|QZ U U<|QZ U U<|x Ql<|Qb<|⟨(v6,l6),oz,hf.D hF,hG.base hp,λE=>⟨hs E,?_⟩⟩;have J:=Qlf E;rw[<-hs E,Lh]at J;exact J
 rintro⟨v8,l8⟩ g w8 ⟨ht,hu,V⟩;simp only[]at hu V;refine Qm<|ZB U U<|xe<|QX rfl (λO=>?_) (λO=>?_)
 ·rw[OQ O]at hR;refine Qm<|x Ql<|Qb<|Qk ⟨[nS,oE oF (zX (l.map DV.it) e.e).1],oz,ht,nS,[],by rw[<-hR];rfl,Yk.nil,λE=>OS (by rw[<-hR]at E;exact E) O⟩
 rw[OP O]at hR;obtain⟨V,hH⟩:=V (Ln.1 O);refine Qh<|Qw<|QS U U<|Qa<|xe ?_;exact⟨(k+1,v8,l8),oh,oz,I,ht,hu,hH,by simp only[];rw[V];exact hR⟩
structure qV where
 vc:OY
 lc:List IV
 vr:OY
 lr:List IV
 vx:OY
 lx:List XV
 vk:OY
 lk:List KV
def qV.bl (z:qV):LN:=ob z.vc++(ob z.vr++(ob z.vx++ob z.vk))
structure CeA (L:LN)(H:xu)(z:qV):Prop where
 c:∀q∈z.lc,jG L H q
 r:∀q∈z.lr,jG L H q
 x:∀q∈z.lx,XvA L H q
 k:∀q∈z.lk,KvA L H q
instance:Mm CeA:=⟨λh G=>⟨λq E=>(h.c q E).st G,λq E=>(h.r q E).st G,λq E=>(h.x q E).st G,λq E=>(h.k q E).st G⟩,λh H=>⟨λq E=>(h.c q E).up H,λq E=>(h.r q E).up H,λq E=>(h.x q E).up H,λq E=>(h.k q E).up H⟩⟩
theorem Mm.own {E:LN->Array Obj->α->Prop}[Mm E]{O O' LL:LN}{q:α}(h:E (O++LL) w.heap q)(H:O1 X w w')(I:∀b∈X,b∈O\/b∈LL)(J:∀b∈O',b∈O\/w.heap.size<=b):E (O'++LL) w'.heap q:=by
 have S:E (O'++(O++LL)) w.heap q:=Mm.up h λb G=>(Lc.1 G).elim (λG=>(J b G).imp (λh=>Lc.2 (.inl h)) id) .inl;refine Mm.mono (Mm.st S (H.mono λb G=>Lc.2 (.inr (Lc.2 (I b G))))) λb G=>?_;exact(Lc.1 G).elim (λG=>Lc.2 (.inl G)) λG=>Lc.2 (.inr (Lc.2 (.inr G)))
structure CwI (LL:LN)(B:Nat)(w:OX)(b7:Nat)(ve:OY)(z:qV):Prop where
 b:∃T,Q9 w.heap b7 T [ve,z.vc,z.vr,z.vx,z.vk]
 oc:w.ownsRow B 71 5 z.vc z.lc.length (z.lc.flatMap QO)
 or:w.ownsRow B 71 5 z.vr z.lr.length (z.lr.flatMap QO)
 ox:w.ownsRow B 116 2 z.vx z.lx.length (z.lx.flatMap Q8)
 ok:w.ownsRow B 121 3 z.vk z.lk.length (z.lk.flatMap Q5)
 e:CeA (z.bl++LL) w.heap z
 dcr:∀b∈ob z.vc,b∉ob z.vr
 dcx:∀b∈ob z.vc,b∉ob z.vx
 dck:∀b∈ob z.vc,b∉ob z.vk
 drx:∀b∈ob z.vr,b∉ob z.vx
 drk:∀b∈ob z.vr,b∉ob z.vk
 dxk:∀b∈ob z.vx,b∉ob z.vk
section
variable {LL:LN}{w8 w9:OX}{b7:Nat}{z:qV}
theorem CwI.I (h:CwI LL B w b7 ve z)(E:O1 [] w w8):CwI LL B w8 b7 ve z:=by
 obtain⟨T,G⟩:=h.b;exact⟨⟨T,G.I E⟩,Qq h.oc E,Qq h.or E,Qq h.ox E,Qq h.ok E,Mm.I h.e E,h.dcr,h.dcx,h.dck,h.drx,h.drk,h.dxk⟩
theorem CwI.ge (h:CwI LL B w b7 ve z):∀b∈z.bl,B<=b/\b<w.heap.size:=λb E=>by
 unfold qV.bl at E;rcases Lc.1 E with E|E
 ·exact Qi h.oc b E
 rcases Lc.1 E with E|E
 ·exact Qi h.or b E
 rcases Lc.1 E with E|E
 ·exact Qi h.ox b E
 exact Qi h.ok b E
theorem CwI.ap_c (h:CwI LL B w b7 ve z){H:OY}{q:IV}(Y:jG (z.bl++LL) w.heap q)(V:w8.ownsRow B 71 5 H (z.lc.length+1) (z.lc.flatMap QO++QO q))(O:O1 (ob z.vc) w w8)(S:∀b∈ob H,b∈ob z.vc\/w.heap.size<=b)
  (J:O1 [b7] w8 w9) (ha:∃T,Q9 w9.heap b7 T [ve,H,z.vr,z.vx,z.vk]) (h7:b7<B) (hL:b7∈LL):CwI LL B w9 b7 ve { z with vc:=H,lc:=z.lc++[q] }:=by
 have gr:=Qi h.or;have gx:=Qi h.ox;have gk:=Qi h.ok;have g8:=Qi V;have hc:w8.ownsRow B 71 5 H (z.lc++[q]).length ((z.lc++[q]).flatMap QO):=by
  rw[Ll,LB];simpa using V
 have he:∀b∈ob z.vc,b∈z.bl:=λb E=>by
  unfold qV.bl;simp only[oS];exact .inl E
 have hz:CeA (z.bl++LL) w.heap { z with vc:=H,lc:=z.lc++[q] }:=⟨λd hd=>(Lc.1 hd).elim (h.e.c d) λhd=>by rw[Lb.1 hd];exact Y,h.e.r,h.e.x,h.e.k⟩
 have hf:CeA ((qV.bl { z with vc:=H,lc:=z.lc++[q] })++LL) w8.heap { z with vc:=H,lc:=z.lc++[q] }:=Mm.own hz O (λb E=>.inl (he b E)) λb E=>by
  unfold qV.bl at E ⊢;simp only[oS]at E ⊢;rcases E with E|E|E|E
  ·exact(S b E).imp (λE=>.inl E) id
  ·exact .inl (.inr (.inl E))
  ·exact .inl (.inr (.inr (.inl E)))
  exact .inl (.inr (.inr (.inr E)))
 refine⟨ha,Qf hc J (λb E G=>by rw[Lb.1 G]at E;have:=g8 b7 E;omega),Qf (Qf h.or O (λb E G=>h.dcr b G E)) J (λb E G=>by rw[Lb.1 G]at E;have:=gr b7 E;omega),Qf (Qf h.ox O (λb E G=>h.dcx b G E)) J (λb E G=>by rw[Lb.1 G]at E;have:=gx b7 E;omega),Qf (Qf h.ok O (λb E G=>h.dck b G E)) J (λb E G=>by rw[Lb.1 G]at E;have:=gk b7 E;omega),Mm.own hf J (λb E=>.inr (by rw[Lb.1 E];exact hL)) (λb E=>.inl E),λb E G=>(S b E).elim (λI=>h.dcr b I G) (λI=>ot (gr b G)),λb E G=>(S b E).elim (λI=>h.dcx b I G) (λI=>ot (gx b G)),λb E G=>(S b E).elim (λI=>h.dck b I G) (λI=>ot (gk b G)),h.drx,h.drk,h.dxk⟩
theorem CwI.ap_r (h:CwI LL B w b7 ve z){H:OY}{q:IV}(Y:jG (z.bl++LL) w.heap q)(V:w8.ownsRow B 71 5 H (z.lr.length+1) (z.lr.flatMap QO++QO q))(O:O1 (ob z.vr) w w8)(S:∀b∈ob H,b∈ob z.vr\/w.heap.size<=b)
  (J:O1 [b7] w8 w9) (ha:∃T,Q9 w9.heap b7 T [ve,z.vc,H,z.vx,z.vk]) (h7:b7<B) (hL:b7∈LL):CwI LL B w9 b7 ve { z with vr:=H,lr:=z.lr++[q] }:=by
 have gc:=Qi h.oc;have gx:=Qi h.ox;have gk:=Qi h.ok;have g8:=Qi V;have hc:w8.ownsRow B 71 5 H (z.lr++[q]).length ((z.lr++[q]).flatMap QO):=by
  rw[Ll,LB];simpa using V
 have he:∀b∈ob z.vr,b∈z.bl:=λb E=>by
  unfold qV.bl;simp only[oS];exact .inr (.inl E)
 have hz:CeA (z.bl++LL) w.heap { z with vr:=H,lr:=z.lr++[q] }:=⟨h.e.c,λd hd=>(Lc.1 hd).elim (h.e.r d) λhd=>by rw[Lb.1 hd];exact Y,h.e.x,h.e.k⟩
 have hf:CeA ((qV.bl { z with vr:=H,lr:=z.lr++[q] })++LL) w8.heap { z with vr:=H,lr:=z.lr++[q] }:=Mm.own hz O (λb E=>.inl (he b E)) λb E=>by
  unfold qV.bl at E ⊢;simp only[oS]at E ⊢;rcases E with E|E|E|E
  ·exact .inl (.inl E)
  ·exact(S b E).imp (λE=>.inr (.inl E)) id
  ·exact .inl (.inr (.inr (.inl E)))
  exact .inl (.inr (.inr (.inr E)))
 refine⟨ha,Qf (Qf h.oc O (λb E G=>h.dcr b E G)) J (λb E G=>by rw[Lb.1 G]at E;have:=gc b7 E;omega),Qf hc J (λb E G=>by rw[Lb.1 G]at E;have:=g8 b7 E;omega),Qf (Qf h.ox O (λb E G=>h.drx b G E)) J (λb E G=>by rw[Lb.1 G]at E;have:=gx b7 E;omega),Qf (Qf h.ok O (λb E G=>h.drk b G E)) J (λb E G=>by rw[Lb.1 G]at E;have:=gk b7 E;omega),Mm.own hf J (λb E=>.inr (by rw[Lb.1 E];exact hL)) (λb E=>.inl E),λb E G=>(S b G).elim (λI=>h.dcr b E I) (λI=>ot (gc b E)),h.dcx,h.dck,λb E G=>(S b E).elim (λI=>h.drx b I G) (λI=>ot (gx b G)),λb E G=>(S b E).elim (λI=>h.drk b I G) (λI=>ot (gk b G)),h.dxk⟩
theorem CwI.ap_x (h:CwI LL B w b7 ve z){H:OY}{q:XV}(Y:XvA (z.bl++LL) w.heap q)(V:w8.ownsRow B 116 2 H (z.lx.length+1) (z.lx.flatMap Q8++Q8 q))(O:O1 (ob z.vx) w w8)(S:∀b∈ob H,b∈ob z.vx\/w.heap.size<=b)
  (J:O1 [b7] w8 w9) (ha:∃T,Q9 w9.heap b7 T [ve,z.vc,z.vr,H,z.vk]) (h7:b7<B) (hL:b7∈LL):CwI LL B w9 b7 ve { z with vx:=H,lx:=z.lx++[q] }:=by
 have gc:=Qi h.oc;have gr:=Qi h.or;have gk:=Qi h.ok;have g8:=Qi V;have hc:w8.ownsRow B 116 2 H (z.lx++[q]).length ((z.lx++[q]).flatMap Q8):=by
  rw[Ll,LB];simpa using V
 have he:∀b∈ob z.vx,b∈z.bl:=λb E=>by
  unfold qV.bl;simp only[oS];exact .inr (.inr (.inl E))
 have hz:CeA (z.bl++LL) w.heap { z with vx:=H,lx:=z.lx++[q] }:=⟨h.e.c,h.e.r,λd hd=>(Lc.1 hd).elim (h.e.x d) λhd=>by rw[Lb.1 hd];exact Y,h.e.k⟩
 have hf:CeA ((qV.bl { z with vx:=H,lx:=z.lx++[q] })++LL) w8.heap { z with vx:=H,lx:=z.lx++[q] }:=Mm.own hz O (λb E=>.inl (he b E)) λb E=>by
  unfold qV.bl at E ⊢;simp only[oS]at E ⊢;rcases E with E|E|E|E
  ·exact .inl (.inl E)
  ·exact .inl (.inr (.inl E))
  ·exact(S b E).imp (λE=>.inr (.inr (.inl E))) id
  exact .inl (.inr (.inr (.inr E)))
 refine⟨ha,Qf (Qf h.oc O (λb E G=>h.dcx b E G)) J (λb E G=>by rw[Lb.1 G]at E;have:=gc b7 E;omega),Qf (Qf h.or O (λb E G=>h.drx b E G)) J (λb E G=>by rw[Lb.1 G]at E;have:=gr b7 E;omega),Qf hc J (λb E G=>by rw[Lb.1 G]at E;have:=g8 b7 E;omega),Qf (Qf h.ok O (λb E G=>h.dxk b G E)) J (λb E G=>by rw[Lb.1 G]at E;have:=gk b7 E;omega),Mm.own hf J (λb E=>.inr (by rw[Lb.1 E];exact hL)) (λb E=>.inl E),h.dcr,λb E G=>(S b G).elim (λI=>h.dcx b E I) (λI=>ot (gc b E)),h.dck,λb E G=>(S b G).elim (λI=>h.drx b E I) (λI=>ot (gr b E)),h.drk,λb E G=>(S b E).elim (λI=>h.dxk b I G) (λI=>ot (gk b G))⟩
theorem CwI.ap_k (h:CwI LL B w b7 ve z){H:OY}{q:KV}(Y:KvA (z.bl++LL) w.heap q)(V:w8.ownsRow B 121 3 H (z.lk.length+1) (z.lk.flatMap Q5++Q5 q))(O:O1 (ob z.vk) w w8)(S:∀b∈ob H,b∈ob z.vk\/w.heap.size<=b)
  (J:O1 [b7] w8 w9) (ha:∃T,Q9 w9.heap b7 T [ve,z.vc,z.vr,z.vx,H]) (h7:b7<B) (hL:b7∈LL):CwI LL B w9 b7 ve { z with vk:=H,lk:=z.lk++[q] }:=by
 have gc:=Qi h.oc;have gr:=Qi h.or;have gx:=Qi h.ox;have g8:=Qi V;have hc:w8.ownsRow B 121 3 H (z.lk++[q]).length ((z.lk++[q]).flatMap Q5):=by
  rw[Ll,LB];simpa using V
 have he:∀b∈ob z.vk,b∈z.bl:=λb E=>by
  unfold qV.bl;simp only[oS];exact .inr (.inr (.inr E))
 have hz:CeA (z.bl++LL) w.heap { z with vk:=H,lk:=z.lk++[q] }:=⟨h.e.c,h.e.r,h.e.x,λd hd=>(Lc.1 hd).elim (h.e.k d) λhd=>by rw[Lb.1 hd];exact Y⟩
 have hf:CeA ((qV.bl { z with vk:=H,lk:=z.lk++[q] })++LL) w8.heap { z with vk:=H,lk:=z.lk++[q] }:=Mm.own hz O (λb E=>.inl (he b E)) λb E=>by
  unfold qV.bl at E ⊢;simp only[oS]at E ⊢;rcases E with E|E|E|E
  ·exact .inl (.inl E)
  ·exact .inl (.inr (.inl E))
  ·exact .inl (.inr (.inr (.inl E)))
  exact(S b E).imp (λE=>.inr (.inr (.inr E))) id
 refine⟨ha,Qf (Qf h.oc O (λb E G=>h.dck b E G)) J (λb E G=>by rw[Lb.1 G]at E;have:=gc b7 E;omega),Qf (Qf h.or O (λb E G=>h.drk b E G)) J (λb E G=>by rw[Lb.1 G]at E;have:=gr b7 E;omega),Qf (Qf h.ox O (λb E G=>h.dxk b E G)) J (λb E G=>by rw[Lb.1 G]at E;have:=gx b7 E;omega),Qf hc J (λb E G=>by rw[Lb.1 G]at E;have:=g8 b7 E;omega),Mm.own hf J (λb E=>.inr (by rw[Lb.1 E];exact hL)) (λb E=>.inl E),h.dcr,h.dcx,λb E G=>(S b G).elim (λI=>h.dck b E I) (λI=>ot (gc b E)),h.drx,λb E G=>(S b G).elim (λI=>h.drk b E I) (λI=>ot (gr b E)),λb E G=>(S b G).elim (λI=>h.dxk b E I) (λI=>ot (gx b E))⟩
end
def yo (ev:List J1)(z:qV):Zx:=⟨ev,z.lc.map IV.it,z.lr.map IV.it,z.lx.map XV.x,z.lk.map KV.k⟩
theorem Qfz (all:List ZQ)(x:ZQ)(l:List ZQ)(c:Zx):Kn all (x::l) c=if(XG all x c).1≠0 then((XG all x c).1,Ur)else Kn all l (XG all x c).2:=rfl
theorem QpH {all:List ZQ}{ev:List J1}{z:qV}(h:q.kd=1)(v:OY):XG all q.it (yo ev z)=(0,yo ev { z with vc:=v,lc:=z.lc++[⟨q.nm,q.p⟩] }):=by
 unfold XG;rw[OQ (show q.it.kd=1 from h)];unfold yo;simp only[Of];rfl
theorem QpG {all:List ZQ}{ev:List J1}{z:qV}(h:q.kd=2)(v:OY):XG all q.it (yo ev z)=(0,yo ev { z with vr:=v,lr:=z.lr++[⟨q.nm,q.p⟩] }):=by
 unfold XG;rw[OP (show ¬q.it.kd=1 from λe=>by rw[show q.it.kd=q.kd from rfl,h]at e;cases e),OQ (show q.it.kd=2 from h)];unfold yo;simp only[Of];rfl
theorem QpF {all:List ZQ}{ev:List J1}{z:qV}(h:q.kd=3):(XG all q.it (yo ev z)).1=(Yj all q.ls [] []).1/\((Yj all q.ls [] []).1=0->∀v u,XG all q.it (yo ev z)=(0,yo ev { z with vx:=v,lx:=z.lx++[⟨q.nm,u,(Yj all q.ls [] []).2⟩] })):=by
 have e:XG all q.it (yo ev z)=if(Yj all q.ls [] []).1≠0 then((Yj all q.ls [] []).1,Ur)else(0,{ yo ev z with ex:=(yo ev z).ex++[⟨q.nm,(Yj all q.ls [] []).2⟩] }):=by
  unfold XG;rw[OP (show ¬q.it.kd=1 from λe=>by rw[show q.it.kd=q.kd from rfl,h]at e;cases e),OP (show ¬q.it.kd=2 from λe=>by rw[show q.it.kd=q.kd from rfl,h]at e;cases e),OQ (show q.it.kd=3 from h)];rfl
 rw[e];refine⟨?_,λE v u=>?_⟩
 ·split
  ·rfl
  rename_i G;exact(Ln.1 G).symm
 rw[OP (not_not_intro E)];unfold yo;simp only[Of];rfl
theorem QpE {all:List ZQ}{ev:List J1}{z:qV}(h:q.kd=4):(XG all q.it (yo ev z)).1=(Yj all q.ts [] []).1/\((Yj all q.ts [] []).1=0->∀v u,XG all q.it (yo ev z)=(0,yo ev { z with vk:=v,lk:=z.lk++[⟨q.nm,u,(Yj all q.ts [] []).2,q.bd⟩] })):=by
 have e:XG all q.it (yo ev z)=if(Yj all q.ts [] []).1≠0 then((Yj all q.ts [] []).1,Ur)else(0,{ yo ev z with cs:=(yo ev z).cs++[⟨q.nm,(Yj all q.ts [] []).2,q.bd⟩] }):=by
  unfold XG;rw[OP (show ¬q.it.kd=1 from λe=>by rw[show q.it.kd=q.kd from rfl,h]at e;cases e),OP (show ¬q.it.kd=2 from λe=>by rw[show q.it.kd=q.kd from rfl,h]at e;cases e),OP (show ¬q.it.kd=3 from λe=>by rw[show q.it.kd=q.kd from rfl,h]at e;cases e),OQ (show q.it.kd=4 from h)];rfl
 rw[e];refine⟨?_,λE v u=>?_⟩
 ·split
  ·rfl
  rename_i G;exact(Ln.1 G).symm
 rw[OP (not_not_intro E)];unfold yo;simp only[Of];rfl
theorem QpI {all:List ZQ}(E:¬q.kd=1)(G:¬q.kd=2)(H:¬q.kd=3)(I:¬q.kd=4):XG all q.it c=(0,c):=by
 unfold XG;rw[OP (show ¬q.it.kd=1 from E),OP (show ¬q.it.kd=2 from G),OP (show ¬q.it.kd=3 from H),OP (show ¬q.it.kd=4 from I)]
theorem zU (all:List ZQ):∀(r:List (ByteArray×Int)) (tk:LI) (o:xq),(Yj all r tk o).2.length<=o.length+r.length
 | [],tk,o=>by rw[Yj];exact Nat.le_of_eq ((UO (λp:Int×Int=>p.1) o).length_eq)
 | y::r,tk,o=>by
  rw[Yj];split
  ·simp
  split
  ·simp
  refine LH (zU all r _ _) ?_;simp only[oL,oU,Oy];omega
theorem Qin {v:OY}{ev:List J1}{es:List DV}(ka:Vp L w.heap ve ev)(h0:Ke L' w.heap v es)(E:∀q∈es.map DV.it,q.ls.length<=100000/\q.ts.length<=100000):
  Q3 prog 47 [ve,v] w λr w'=>O1 [] w w'/\∃cm:CL,r=.tuple #[.agg cm.cells.toArray,oE oF (KA ev (es.map DV.it)).1]/\Zp cm.cells/\((KA ev (es.map DV.it)).1=0->cm.V=(KA ev (es.map DV.it)).2/\∀L:LN,(∀b∈L,b<w.heap.size)->ZJ L w'.heap cm):=by
 have h:=h0.up (L':=[]) oe;have hE:=ka.up (L':=[]) oe;have kb:=hE.arr.le;have hn:KA ev (es.map DV.it)=if Jw (es.map DV.it)≠0 then(Jw (es.map DV.it),Ur)else Kn (es.map DV.it) (es.map DV.it) ⟨ev,[],[],[],[]⟩:=rfl
 have hO:Zp (CL.mk Zl Zl Zl Zl Zl [] [] [] [] []).cells:=⟨U,U,U,U,U,Z⟩;refine Zo (KA ev (es.map DV.it)) λD hD=>?_;rw[hD]at hn ⊢;refine Zq func47 ?_;refine Qc<|Qe<|Qo (us:=Z3) U λb4 w1 g0 ms hP=>Qb<|Qd<|Qm<|QM<|(Jm (h.I g0)).mono ?_;rintro r2 w2 ⟨rfl,hA⟩;have hQ:=g0.D hA;have mt:=hA.size;have mu:=hP.lt;refine Qb<|Qm<|ZB U U<|xe<|QX rfl (λhu=>?_) (λhu=>?_)
 ·rw[OQ hu]at hn;refine Qc<|x (Qy Z)<|Qa<|Qe<|Qj (us:=Z3) (hP.I hA) U U U U ⟨U,U,U,U,U,Z⟩ λw3 kc ke=>Qb<|Qk ⟨[.agg Z3.toArray,oE oF (Jw (es.map DV.it))],⟨⟨_,U,Qn U (ke.at (L:=[]) oe).cells⟩,rfl,Z⟩,hQ.O kc oa,CL.mk Zl Zl Zl Zl Zl [] [] [] [] [],by rw[hn];rfl,hO,λh0=>OS (by rw[hn]at h0;exact h0) hu⟩
 rw[OP hu]at hn;have mv:es.length<=76:=by have:=KW (Ln.1 hu);rwa [Lh]at this
 refine Qh<|Qm<|QM<|(VK (hE.I hQ).arr).mono ?_;rintro re w4 ⟨hS,hv⟩;have mw:=hS.size;refine x (Qy ⟨xH hv,Z⟩)<|Qe<|Qo (us:=Z3) U λI w5 kf kg kh=>Qe<|Qj (us:=[re,Zl,Zl,Zl,Zl]) kh U U U U ⟨Qu hv,U,U,U,U,Z⟩ λw6 ki g2=>xe ?_;have hT:O1 [] w4 w6:=kf.O ki kg;have g3:=(hQ.D hS).D hT;have kj:=g2.lt;have hge:=Qi hv;refine Qd<|Qm<|QM<|(JR (h.I g3) oa).mono ?_;rintro r7 w8 ⟨hw,l,hl,T⟩;have my:l.length=es.length:=by have:=OR oO T;rwa [Lh,Lh]at this
 have kk:=g3.D hw;have mz:=hw.size;have kn:Zm [] w8.heap r7 l.length 9 (l.flatMap Qt):=QK hl.own oa oe;have ko:=g2.I hw;have hU:=((hP.I hA).I hS).I (hT.D hw);have kq:=Qq (Qq hv hT) hw;rw[<-T]at hn E;refine QI kn U<|Qa<|xe<|Qg<|QD (α:=Nat×qV) [(5,5),(9,13),(26,100)] (λz=>[(26,oE oF z.1)]) (λz w'=>z.1<=l.length/\O1 [I] w8 w'/\(∀L:LN,(∀b∈L,b<w.heap.size)->CwI (b4::I::L) w8.heap.size w' I re z.2)/\Kn (l.map DV.it) ((l.drop z.1).map DV.it) (yo ev z.2)=D/\(z.2.lc.length<=z.1/\z.2.lr.length<=z.1/\z.2.lx.length<=z.1/\z.2.lk.length<=z.1))
  (λz=>l.length - z.1) ol (0,⟨Zl,[],Zl,[],Zl,[],Zl,[]⟩) La ⟨Lo _,O1.Z _ _,λL _=>⟨⟨_,ko⟩,QJ _ _ _ _,QJ _ _ _ _,QJ _ _ _ _,QJ _ _ _ _,⟨oe,oe,oe,oe⟩,by simp[ob],by simp[ob],by simp[ob],by simp[ob],by simp[ob],by simp[ob]⟩,by rw[List.drop_zero];exact hn.symm,Lv _,Lv _,Lv _,Lv _⟩ ?_
 rintro⟨k,z⟩ g w9 ⟨hk,hf,hI,hR,kr,kt,ku,kv⟩;simp only[]at hk hI hR kr kt ku kv;have g4:O1 [] w w9:=kk.O hf oa;have m2:=hf.size;have hg:=hI [] oe;refine Qc<|Q0 U U<|xe<|Qd<|QH U (λhV=>?_) (λhV=>?_)
 ·refine Qz ?_;have kw:l.length<=k:=by have kx:¬(k:Int)<(l.length:Int):=hV;omega
  rw[Lp kw]at hR;have g5:D=(0,yo ev z):=hR.symm;refine Exists.elim hg.b λT7 kz=>?_;have k0:=hU.J hf om;have g6:Zp [re,z.vc,z.vr,z.vx,z.vk]:=⟨Qu hv,Qu hg.oc,Qu hg.or,Qu hg.ox,Qu hg.ok,Z⟩;refine Qc<|Q6 kz U U<|Qe<|Qj (us:=[re,z.vc,z.vr,z.vx,z.vk]) k0 U U U U g6 λk4 hB k5=>Qb<|Qk ⟨[.agg #[re,z.vc,z.vr,z.vx,z.vk],oE oF 0],⟨⟨_,U,Qn U (k5.at (L:=[]) oe).cells⟩,rfl,Z⟩,g4.O hB oa,CL.mk re z.vc z.vr z.vx z.vk ev z.lc z.lr z.lx z.lk,by rw[g5];rfl,g6,λ_=>⟨by rw[g5];rfl,λN hN=>?_⟩⟩;have V:=hI N hN;have hF:∀b∈b4::N,b<w8.heap.size:=λb E=>by
   rcases Li.1 E with rfl|E
   ·omega
   have:=hN b E;omega
  have hG:∀b∈b4::N,b∈z.bl++(b4::I::N):=λb E=>Lc.2 (.inr (by
   rcases Li.1 E with rfl|E
   ·exact Lq
   exact Lj _ (Lj _ E)))
  have k6:=Qf kq hf (λb E T=>by rw[Lb.1 T]at E;have:=(hge I E).2;omega);have hC:ZJ (b4::N) w9.heap (CL.mk re z.vc z.vr z.vx z.vk ev z.lc z.lr z.lx z.lk):=
   ⟨⟨QK k6 kb (λb E hbL=>by
     have h1:=hge b E;rcases Li.1 hbL with rfl|hbL
     ·omega
     have:=hN b hbL;omega),hE.nm⟩,
    ⟨QK V.oc (show z.lc.length<=1099511627776 by omega) (λb E hbL=>by have h1:=(Qi V.oc b E).1;have:=hF b hbL;omega),λq O=>((V.e.c q O).a.up λb E=>.inl (hG b E)),λq O=>(V.e.c q O).nm⟩,
    ⟨QK V.or (show z.lr.length<=1099511627776 by omega) (λb E hbL=>by have h1:=(Qi V.or b E).1;have:=hF b hbL;omega),λq O=>((V.e.r q O).a.up λb E=>.inl (hG b E)),λq O=>(V.e.r q O).nm⟩,
    ⟨QK V.ox (show z.lx.length<=1099511627776 by omega) (λb E hbL=>by have h1:=(Qi V.ox b E).1;have:=hF b hbL;omega),λq O=>((V.e.x q O).l.up λb E=>.inl (hG b E)),λq O=>(V.e.x q O).nm⟩,
    ⟨QK V.ok (show z.lk.length<=1099511627776 by omega) (λb E hbL=>by have h1:=(Qi V.ok b E).1;have:=hF b hbL;omega),λq O=>((V.e.k q O).l.up λb E=>.inl (hG b E)),λq O=>(V.e.k q O).nm⟩⟩
  exact(hC.st (hB.mono oe)).up λb E=>.inl (Lj _ E)
 have hh:k<l.length:=by have kx:(k:Int)<(l.length:Int):=hV;omega
 rw[LD hh,LE,Qfz]at hR;have hW:=Lk hh;have k7:Zm [] w9.heap r7 l.length 9 (l.flatMap Qt):=((QK hl.own oa (λb E T=>by rw[Lb.1 T]at E;have:=(Qi hl.own I E).1;omega):Zm [I] w8.heap r7 l.length 9 (l.flatMap Qt)).st hf).up oe;refine Qh<|Qd<|Qg<|Qc<|O4 (g:=Qt) (i:=k) ZW k7 U U hh λm3 g7=>?_;refine Zo (l[k]'hh) λq O=>?_;rw[O]at g7 hW hR;have hH:=E q.it (LJ hW);have g8:∀L:LN,(∀b∈L,b<w.heap.size)->XT (z.bl++(b4::I::L)) w9.heap q:=λL J=>by
  have h1:XT (b4::I::L) w8.heap q:=hl.each q hW _ λb E=>.inl (by
   simp only[oK]at E;rcases E with rfl|rfl|E
   ·omega
   ·exact kj
   have:=J b E;omega)
  have S:XT (z.bl++(b4::I::L)) w8.heap q:=h1.up λb E=>by
   rcases Lc.1 E with E|E
   ·exact .inr ((hI L J).ge b E).1
   exact .inl E
  exact S.st (hf.mono oe)
 have ha:XT [] w9.heap q:=(g8 [] oe).up oe;refine x (Qx g7 U U)<|Qe<|Qo (us:=z9) U λb9 k4 hB k8 k9=>Qe<|Qj (us:=Qt q) k9 U U U U ha.ones λhs ma he=>xe ?_;have hi:O1 [] w9 hs:=hB.O ma k8;have hJ:=g4.D hi;have m4:=hi.size;have hj:∀L:LN,(∀b∈L,b<w.heap.size)->CwI (b4::I::L) w8.heap.size hs I re z:=λL J=>(hI L J).I hi;have hy:=hj [] oe;refine Exists.elim hy.b λT7 ht=>?_;have gc:=Qi hg.oc;have gr:=Qi hg.or;have gx:=Qi hg.ox;have gk:=Qi hg.ok;have n7c:I∉ob z.vc:=λT=>ot (gc I T).1
 have n7r:I∉ob z.vr:=λT=>ot (gr I T).1
 have n7x:I∉ob z.vx:=λT=>ot (gx I T).1
 have n7k:I∉ob z.vk:=λT=>ot (gk I T).1
 have g9:∀L:LN,(∀b∈L,b<w.heap.size)->XT (z.bl++(b4::I::L)) hs.heap q:=λL J=>(g8 L J).I hi;have hz:O1 [I] w8 hs:=hf.D hi;refine Qc<|Qs U he U U<|xe<|Qg<|Qc<|x (QY U U)<|Qb<|QX U (λhX=>?_) (λhX=>?_)
 ·have hk1:q.kd=1:=hX;refine Qw<|Qs U ht U U<|Qs U he U U<|Q7 U<|x (Zs (us:=[q.p.va,oE oF q.p.a.st,q.p.vm,q.p.ve]) he U U U)<|x (Zc [(0,[.string q.nm]),(1,[q.p.va,oE oF q.p.a.st,q.p.vm,q.p.ve])] ⟨U,U,U,U,Z⟩) <|
   Qe<|QB (us:=[QO ⟨q.nm,q.p⟩]) U U og (by exact(by decide:1*5<=1000000)) oz λmf hY G mg hZ=>Qe<|Zb (m:=1) (news:=QO ⟨q.nm,q.p⟩) (L:=[]) (hy.I G).oc U U U (hZ.at oe) (Zp.all (jG.ones ⟨ha.a,ha.nm⟩)) (show z.lc.length+1<=1099511627776 by omega) (ot G.size) λho h3 h4 H ga =>
   Q7 rfl<|Qe<|QE (j:=1) (u:=ho) ((ht.I G).J H n7c) U U oe (Qu h4) λgb Y gg=>xe ?_
  have e:=QpH (all:=l.map DV.it) (ev:=ev) (z:=z) hk1 ho;rw[e,OP oe]at hR;refine Qw<|QS U U<|Qa<|xe<|⟨(k+1,{ z with vc:=ho,lc:=z.lc++[⟨q.nm,q.p⟩] }),oh,La,hh,((hz.D G).then H (λb E=>.inr (gc b E).1)).Q Y,λL J=>((hj L J).I G).ap_c ⟨((g9 L J).I G).a,ha.nm⟩ h4 H ga Y ⟨T7,gg⟩ oa oe,hR,?_⟩
  simp only[oL,oN];omega
 have hk1:¬q.kd=1:=hX;refine Qc<|x (QY U U)<|Qb<|QX U (λgh=>?_) (λgh=>?_)
 ·have gi:q.kd=2:=gh;refine Qw<|Qs U ht U U<|Qs U he U U<|Q7 U<|x (Zs (us:=[q.p.va,oE oF q.p.a.st,q.p.vm,q.p.ve]) he U U U)<|x (Zc [(0,[.string q.nm]),(1,[q.p.va,oE oF q.p.a.st,q.p.vm,q.p.ve])] ⟨U,U,U,U,Z⟩) <|
   Qe<|QB (us:=[QO ⟨q.nm,q.p⟩]) U U og (by exact(by decide:1*5<=1000000)) oz λmf hY G mg hZ=>Qe<|Zb (m:=1) (news:=QO ⟨q.nm,q.p⟩) (L:=[]) (hy.I G).or U U U (hZ.at oe) (Zp.all (jG.ones ⟨ha.a,ha.nm⟩)) (show z.lr.length+1<=1099511627776 by omega) (ot G.size) λho h3 h4 H ga =>
   Q7 rfl<|Qe<|QE (j:=2) (u:=ho) ((ht.I G).J H n7r) U U oe (Qu h4) λgb Y gg=>xe ?_
  have e:=QpG (all:=l.map DV.it) (ev:=ev) (z:=z) gi ho;rw[e,OP oe]at hR;refine Qw<|QS U U<|Qa<|xe<|⟨(k+1,{ z with vr:=ho,lr:=z.lr++[⟨q.nm,q.p⟩] }),oh,La,hh,((hz.D G).then H (λb E=>.inr (gr b E).1)).Q Y,λL J=>((hj L J).I G).ap_r ⟨((g9 L J).I G).a,ha.nm⟩ h4 H ga Y ⟨T7,gg⟩ oa oe,hR,?_⟩
  simp only[oL,oN];omega
 have gi:¬q.kd=2:=gh;refine Qc<|x (QY U U)<|Qb<|QX U (λgj=>?_) (λgj=>?_)
 ·have gl:q.kd=3:=gj;have h5:=zU (l.map DV.it) q.ls [] [];have hLk:=Qe6 (w:=hs) (v:=v) (es:=es) (q:=q) (h.arr.I hJ) oa (ha.I hi) hH.1;rw[<-T]at hLk;have hp:=QpF (all:=l.map DV.it) (ev:=ev) (z:=z) gl;refine Zo (Yj (l.map DV.it) q.ls [] []) λR gm=>?_;rw[gm]at hLk hp h5;refine Qm<|Q6 he U U<|QM<|hLk.mono ?_;rintro mh hY ⟨G,vo,rfl,mi,gn⟩;refine Qa<|QZ U U<|QZ U U<|x Ql<|Qb<|Qd<|Qm<|ZB U U<|xe<|QX U (λhK=>?_) (λhK=>?_)
  ·rw[hp.1,OQ hK]at hR;have go:=((hU.J hf om).I hi).I G;refine Qc<|x (Qy Z)<|Qa<|Qe<|Qj (us:=Z3) go U U U U ⟨U,U,U,U,U,Z⟩ λh3 H gp=>Qb<|Qk ⟨[.agg Z3.toArray,oE oF R.1],⟨⟨_,U,Qn U (gp.at (L:=[]) oe).cells⟩,rfl,Z⟩,(hJ.D G).O H oa,CL.mk Zl Zl Zl Zl Zl [] [] [] [] [],by rw[<-hR];rfl,hO,λh0=>OS (by rw[<-hR]at h0;exact h0) hK⟩
  have h6:=Ln.1 hK;have hc:=gn h6;have gq:=Qi hc;have mj:=G.size;have h7:=ht.I G;refine Qh<|Qw<|Qs U h7 U U<|Qs U (he.I G) U U<|Qa<|x (Qy ⟨U,xH hc,Z⟩)<|Qe<|QB (us:=[[.string q.nm,vo]]) U U og (by exact(by decide:1*2<=1000000)) oz λmn h3 H mo gs=>?_;have gt:=(hy.I G).I H;refine Qe<|Zb (m:=1) (news:=[.string q.nm,vo]) (L:=[]) gt.ox U U U (gs.at oe) (Zp.all (us:=[.string q.nm,vo]) ⟨rfl,Qu hc,Z⟩) (show z.lx.length+1<=1099511627776 by omega) (ot H.size) λhr gb h8 Y gu =>
   Q7 rfl<|Qe<|QE (j:=3) (u:=hr) ((h7.I H).J Y n7x) U U oe (Qu h8) λmq h9 gv=>xe ?_
  have e:=hp.2 h6 hr vo;rw[e,OP oe]at hR;refine Qw<|QS U U<|Qa<|xe ?_;have gw:R.2.length<=1099511627776:=by
   have h1:=hc.1;exact LH h5 (by have S:q.ls.length<=100000:=hH.1;simp only[Oy];omega)
  refine⟨(k+1,{ z with vx:=hr,lx:=z.lx++[⟨q.nm,vo,R.2⟩] }),oh,La,hh,(((hz.D G).D H).then Y (λb E=>.inr (gx b E).1)).Q h9,λL J=>(((hj L J).I G).I H).ap_x ⟨(QK hc gw (λb E hbL=>?_)).I H,ha.nm⟩ h8 Y gu h9 ⟨T7,gv⟩ oa oe,hR,?_⟩
  ·have h1:=(gq b E).1;rcases Lc.1 hbL with S|S
   ·have:=((hj L J).ge b S).2;omega
   simp only[oK]at S;rcases S with rfl|rfl|S
   ·omega
   ·omega
   have:=J b S;omega
  simp only[oL,oN];omega
 have gl:¬q.kd=3:=gj;refine Qc<|x (QY U U)<|Qb<|QH U (λgy=>?_) (λgy=>?_)
 ·have gz:¬q.kd=4:=gy;rw[QpI hk1 gi gl gz,OP oe]at hR;refine Qh<|Qw<|QS U U<|Qa<|xe ?_;exact⟨(k+1,z),oh,La,hh,hz,hj,hR,oh⟩
 have gz:q.kd=4:=gy;have h5:=zU (l.map DV.it) q.ts [] [];have hLk:=Qgj (w:=hs) (v:=v) (es:=es) (q:=q) (h.arr.I hJ) oa (ha.I hi) hH.2;rw[<-T]at hLk;have hp:=QpE (all:=l.map DV.it) (ev:=ev) (z:=z) gz;refine Zo (Yj (l.map DV.it) q.ts [] []) λR gm=>?_;rw[gm]at hLk hp h5;refine Qm<|Q6 he U U<|QM<|hLk.mono ?_;rintro mh hY ⟨G,vo,rfl,mi,gn⟩;refine Qa<|QZ U U<|QZ U U<|x Ql<|Qb<|Qd<|Qm<|ZB U U<|xe<|QX rfl (λhM=>?_) (λhM=>?_)
 ·rw[hp.1,OQ hM]at hR;have go:=((hU.J hf om).I hi).I G;refine Qc<|x (Qy Z)<|Qa<|Qe<|Qj (us:=Z3) go U U U U ⟨U,U,U,U,U,Z⟩ λh3 H gp=>Qb<|Qk ⟨[.agg Z3.toArray,oE oF R.1],⟨⟨_,U,Qn U (gp.at (L:=[]) oe).cells⟩,rfl,Z⟩,(hJ.D G).O H oa,CL.mk Zl Zl Zl Zl Zl [] [] [] [] [],by rw[<-hR];rfl,hO,λh0=>OS (by rw[<-hR]at h0;exact h0) hM⟩
 have h6:=Ln.1 hM;have hc:=gn h6;have gq:=Qi hc;have mj:=G.size;have h7:=ht.I G;refine Qh<|Qw<|Qs U h7 U U<|Qs U (he.I G) U U<|Qa<|Qs U (he.I G) U U<|x (Qy ⟨U,xH hc,U,Z⟩)<|Qe<|QB (us:=[[.string q.nm,vo,oE oF q.bd]]) U U og (by exact(by decide:1*3<=1000000)) oz λmn h3 H mo gs=>?_;have gt:=(hy.I G).I H;refine Qe<|Zb (m:=1) (news:=[.string q.nm,vo,oE oF q.bd]) (L:=[]) gt.ok U U U (gs.at oe) (Zp.all (us:=[.string q.nm,vo,oE oF q.bd]) ⟨rfl,Qu hc,rfl,Z⟩) (show z.lk.length+1<=1099511627776 by omega) (ot H.size) λhr gb h8 Y gu =>
  Q7 rfl<|Qe<|QE (j:=4) (u:=hr) ((h7.I H).J Y n7k) U U oe (Qu h8) λmq h9 gv=>xe ?_
 have e:=hp.2 h6 hr vo;rw[e,OP oe]at hR;refine Qw<|QS U U<|Qa<|xe ?_;have gw:R.2.length<=1099511627776:=by
  have h1:=hc.1;exact LH h5 (by have S:q.ts.length<=100000:=hH.2;simp only[Oy];omega)
 refine⟨(k+1,{ z with vk:=hr,lk:=z.lk++[⟨q.nm,vo,R.2,q.bd⟩] }),oh,La,hh,(((hz.D G).D H).then Y (λb E=>.inr (gk b E).1)).Q h9,λL J=>(((hj L J).I G).I H).ap_k ⟨(QK hc gw (λb E hbL=>?_)).I H,ha.nm⟩ h8 Y gu h9 ⟨T7,gv⟩ oa oe,hR,?_⟩
 ·have h1:=(gq b E).1;rcases Lc.1 hbL with S|S
  ·have:=((hj L J).ge b S).2;omega
  simp only[oK]at S;rcases S with rfl|rfl|S
  ·omega
  ·omega
  have:=J b S;omega
 simp only[oL,oN];omega
abbrev edV (s:Kr)(cm:CL)(vp:OY)(qs:List qz)(made:Int)(v24:OY)(q:qe)(v16:OY)(b12 b13:Nat):Kr:=⟨s.b,⟨cm,vp,qs⟩,made,v24,s.rs++[q],v16,s.us++[⟨b12,b13,s.s⟩]⟩
theorem Qh8 {wA wC wD wE wF wI wJ wK wN wP wM:OX}{s:Kr}{cm:CL}{vp:OY}{qs:List qz}{q:qe}{made:Int}{v16 v24:OY}{b12 b13 T12 T13 TS:Nat}
  (h:Vu L w s) (hL:∀b∈L,b<w.heap.size) (hc:O1 [] w wA) (hn:w.heap.size<=G/\G<wA.heap.size) (hp:Pts (G::L) wA.heap vp qs) (hq:Kw (G::L) wA.heap q)
  (hz:O1 [] wA wC) (ho:wA.heap.size<=b12) (hr:wA.heap.size<=b13) (hs:Q9 wC.heap b12 T12 s.s.c.cells) (ht:Q9 wC.heap b13 T13 [s.s.vp])
  (hj:O1 (ob s.vu) wC wD) (hv:wD.ownsRow 0 139 1 v16 (s.us.length+1) (s.us.map KJ++[KJ ⟨b12,b13,s.s⟩])) (S:∀b∈ob v16,b∈ob s.vu\/wC.heap.size<=b)
  (he:O1 [s.b] wD wE) (hf:O1 [] wE wF) (h0:∀N:LN,(∀b∈N,b<wE.heap.size)->ZJ N wF.heap cm) (hg:O1 [s.b] wF wI) (hh:O1 [] wI wJ) (hk:O1 (ob s.vr) wJ wK)
  (h4:wK.ownsRow 0 53 3 v24 (s.rs.length+1) (s.rs.flatMap Zr++Zr q)) (T:∀b∈ob v24,b∈ob s.vr\/wJ.heap.size<=b)
  (hi:O1 [s.b] wK wN) (h5:Q9 wN.heap s.b TS (jM (edV s cm vp qs made v24 q v16 b12 b13))) (V:O1 [] wN wP) (Y:O1 [G] wP wM):
  O1 s.own w wM/\Vu ((edV s cm vp qs made v24 q v16 b12 b13).own++L) wM (edV s cm vp qs made v24 q v16 b12 b13)/\∀b∈(edV s cm vp qs made v24 q v16 b12 b13).own,b∈s.own\/w.heap.size<=b:=by
 have ha:=h.lt;have z2:=hj.size;have z3:=he.size;have z4:=hf.size;have z5:=hg.size;have z6:=hh.size;have msb:s.b∈s.own:=Lq;have mvr:∀b∈ob s.vr,b∈s.own:=λb E=>Lj _ (Lc.2 (.inl E));have mvu:∀b∈ob s.vu,b∈s.own:=λb E=>Lj _ (Lc.2 (.inr E));have lsb:=ha _ msb;have lvr:=λb E=>ha b (mvr b E);have lvu:=λb E=>ha b (mvu b E);have h6:=hs.lt;have h7:=ht.lt;have hw:=Qi hv;have sC:O1 (s.own++[G]) wA wC:=hz.any;have sD:=sC.Q (hj.mono λb E=>Lc.2 (.inl (mvu b E)));have sE:=sD.Q (he.mono λb E=>by rw[Lb.1 E];exact Lc.2 (.inl msb));have sF:=sE.D hf;have s5:O1 (s.own++[G]) wF wI:=hg.mono λb E=>by rw[Lb.1 E];exact Lc.2 (.inl msb)
 have s7:O1 (s.own++[G]) wJ wK:=hk.mono λb E=>Lc.2 (.inl (mvr b E));have s8:O1 (s.own++[G]) wK wN:=hi.mono λb E=>by rw[Lb.1 E];exact Lc.2 (.inl msb)
 have h8:O1 (s.own++[G]) wP wM:=Y.mono λb E=>Lc.2 (.inr E);have sKM:O1 (s.own++[G]) wK wM:=(s8.D V).Q h8;have sFM:O1 (s.own++[G]) wF wM:=((s5.D hh).Q s7).Q sKM;have sAM:O1 (s.own++[G]) wA wM:=sF.Q sFM;have sDM:O1 (s.own++[G]) wD wM:=((he.mono λb E=>by rw[Lb.1 E];exact Lc.2 (.inl msb):O1 (s.own++[G]) wD wE).D hf).Q sFM;have sCM:O1 (s.own++[G]) wC wM:=(hj.mono λb E=>Lc.2 (.inl (mvu b E)):O1 (s.own++[G]) wC wD).Q sDM;have h9:∀b∈s.own++[G],b∈G::L:=λb E=>by
  rcases Lc.1 E with E|E
  ·exact Lj _ (h.sub b E)
  rw[Lb.1 E];exact Lq
 have own':∀b∈(edV s cm vp qs made v24 q v16 b12 b13).own,b∈s.own\/wC.heap.size<=b:=λb E=>by
  rcases Li.1 E with rfl|E
  ·exact .inl msb
  rcases Lc.1 E with E|E
  ·rcases T b E with I|I
   ·exact .inl (mvr b I)
   exact .inr oa
  rcases S b E with I|I
  ·exact .inl (mvu b I)
  exact .inr I
 have upL:∀b∈((edV s cm vp qs made v24 q v16 b12 b13).own++(G::L)),b∈G::L\/wA.heap.size<=b:=λb E=>by
  rcases Lc.1 E with E|E
  ·rcases own' b E with I|I
   ·exact .inl (Lj _ (h.sub b I))
   exact .inr oa
  exact .inl E
 have dn:∀b∈(edV s cm vp qs made v24 q v16 b12 b13).own++L,b∈(edV s cm vp qs made v24 q v16 b12 b13).own++(G::L):=λb E=>by
  rcases Lc.1 E with E|E
  ·exact Lc.2 (.inl E)
  exact Lc.2 (.inr (Lj _ E))
 have sAM':O1 ((edV s cm vp qs made v24 q v16 b12 b13).own++(G::L)) wA wM:=sAM.mono λb E=>Lc.2 (.inr (h9 b E));have hl:∀b∈G::L,b∈L\/w.heap.size<=b:=λb E=>by
  rcases Li.1 E with rfl|E
  ·exact .inr hn.1
  exact .inl E
 have mS:StA ((edV s cm vp qs made v24 q v16 b12 b13).own++L) wM.heap s.s:=Mm.mono (Mm.st (Mm.up (Mm.I (Mm.up h.st hl) hc) upL) sAM') dn;have nown:∀b,wA.heap.size<=b->b<wC.heap.size->b∉(edV s cm vp qs made v24 q v16 b12 b13).own++L:=λb I H E=>by
  rcases Lc.1 E with E|E
  ·rcases own' b E with O|O
   ·have:=ha b O;omega
   omega
  have:=hL b E;omega
 have nst:∀b,wA.heap.size<=b->b∉s.own++[G]:=λb I E=>by
  rcases Lc.1 E with E|E
  ·have:=ha b E;omega
  rw[Lb.1 E]at I;omega
 refine⟨?_,⟨⟨TS,?_⟩,?_,?_,?_,?_,?_,λb E=>Lc.2 (.inl E),⟨?_,?_⟩,λd hd=>?_,λu hu=>?_⟩,λb E=>(own' b E).imp id λI=>oa⟩
 ·exact hc.any.then sAM λb E=>by
   rcases Lc.1 E with E|E
   ·exact .inl E
   rw[Lb.1 E];exact .inr hn.1
 ·exact(h5.I V).J Y (by simp only[oH];show s.b≠G;omega)
 ·have I:wK.ownsRow 0 53 3 v24 (s.rs++[q]).length ((s.rs++[q]).flatMap Zr):=by
   rw[Ll,LB];simpa using h4
  refine Qf (Qq (Qf I hi λb E J=>?_) V) Y λb E J=>?_
  ·rcases T b E with H|H
   ·exact h.d1 (Lb.1 J ▸ H)
   rw[Lb.1 J]at H;omega
  rw[Lb.1 J]at E;rcases T G E with H|H
  ·have:=lvr G H;omega
  omega
 ·have I:wD.ownsRow 0 139 1 v16 (s.us++[(⟨b12,b13,s.s⟩:UnV)]).length ((s.us++[(⟨b12,b13,s.s⟩:UnV)]).map KJ):=by
   rw[Ll,Lt];simpa using hv
  have nsb:∀b∈ob v16,b∉[s.b]:=λb E J=>by
   rw[Lb.1 J]at E;rcases S s.b E with H|H
   ·exact h.d2 H
   omega
  have nvr:∀b∈ob v16,b∉ob s.vr:=λb E J=>by
   rcases S b E with H|H
   ·exact h.d3 b J H
   have:=lvr b J;omega
  have n4:∀b∈ob v16,b∉[G]:=λb E J=>by
   rw[Lb.1 J]at E;rcases S G E with H|H
   ·have:=lvu G H;omega
   omega
  exact Qf (Qq (Qf (Qf (Qq (Qf (Qq (Qf I he nsb) hf) hg nsb) hh) hk nvr) hi nsb) V) Y n4
 ·intro E;rcases T s.b E with H|H
  ·exact h.d1 H
  omega
 ·intro E;rcases S s.b E with H|H
  ·exact h.d2 H
  omega
 ·intro b E J;rcases T b E with H|H
  ·rcases S b J with O|O
   ·exact h.d3 b H O
   have:=lvr b H;omega
  have:=(hw b J).2;omega
 ·have I:ZJ (s.b::(ob v16++(ob s.vr++(G::L)))) wF.heap cm:=h0 _ λb E=>by
   rcases Li.1 E with rfl|E
   ·omega
   rcases Lc.1 E with E|E
   ·have:=(hw b E).2;omega
   rcases Lc.1 E with E|E
   ·have:=lvr b E;omega
   rcases Li.1 E with rfl|E
   ·omega
   have:=hL b E;omega
  have H:ZJ (ob v24++(s.b::(ob v16++(ob s.vr++(G::L))))) wF.heap cm:=I.up λb E=>by
   rcases Lc.1 E with E|E
   ·rcases T b E with O|O
    ·exact .inl (Lj _ (Lc.2 (.inr (Lc.2 (.inl O)))))
    exact .inr oa
   exact .inl E
  have hy:∀b∈[s.b],b∈ob v24++(s.b::(ob v16++(ob s.vr++(G::L)))):=λb E=>by rw[Lb.1 E];exact Lc.2 (.inr Lq)
  have O:=((((((H.st (hg.mono hy)).I hh).st (hk.mono λb E=>Lc.2 (.inr (Lj _ (Lc.2 (.inr (Lc.2 (.inl E)))))))).st (hi.mono hy)).I V).st (Y.mono λb E=>by
   rw[Lb.1 E];exact Lc.2 (.inr (Lj _ (Lc.2 (.inr (Lc.2 (.inr Lq))))))))
  refine O.up λb E=>.inl ?_;rcases Lc.1 E with E|E
  ·rcases Li.1 E with rfl|E
   ·exact Lc.2 (.inr Lq)
   rcases Lc.1 E with E|E
   ·exact Lc.2 (.inl E)
   exact Lc.2 (.inr (Lj _ (Lc.2 (.inl E))))
  exact Lc.2 (.inr (Lj _ (Lc.2 (.inr (Lc.2 (.inr (Lj _ E)))))))
 ·have I:Pts ((edV s cm vp qs made v24 q v16 b12 b13).own++(G::L)) wM.heap vp qs:=Go.Lg.KE.st (Go.Lg.KE.up hp upL) sAM';exact Go.Lg.KE.up I λb E=>.inl (dn b E)
 ·rcases Lc.1 hd with hd|hd
  ·exact Mm.mono (Mm.st (Mm.up (Mm.I (Mm.up (h.rA d hd) hl) hc) upL) sAM') dn
  rw[Lb.1 hd];exact Mm.mono (Mm.st (Mm.up hq upL) sAM') dn
 rcases Lc.1 hu with hu|hu
 ·exact Mm.mono (Mm.st (Mm.up (Mm.I (Mm.up (h.uA u hu) hl) hc) upL) sAM') dn
 rw[Lb.1 hu];exact⟨(hs.J sCM (nst b12 ho)).at (nown b12 ho h6),(ht.J sCM (nst b13 hr)).at (nown b13 hr h7),mS⟩
def jE (x:ZQ):Prop:=x.ls.length<=100000/\x.ts.length<=100000
theorem qS {co:List YU}:∀{l:xq}{r:List (ByteArray×Int)},Ku co l=some r->r.length=l.length
 | [],r,h=>by
  rw[Ku]at h;cases h;rfl
 | y::l,r,h=>by
  rw[Ku]at h;cases E:qp co y.1 with
  | none=>rw[E]at h;cases h
  | some n =>
   rw[E]at h;obtain⟨H,G,rfl⟩:=Mb.1 h;rw[LS,LS,qS G]
theorem Qd4 {co:List YU}:∀{l:List UA}{a:List ZQ},X6 co l=some a->(∀q∈l,q.ls.length<=100000)->∀x∈a,jE x
 | [],a,h,_=>by
  rw[X6]at h;cases h
  exact λx hx=>by cases hx
 | x::l,a,h,G=>by
  rw[X6]at h;cases hx:Ku co x.ls with
  | none=>rw[hx]at h;cases h
  | some n =>
   rw[hx]at h;obtain⟨I,H,rfl⟩:=Mb.1 h;intro y E;rcases Li.1 E with rfl|E
   ·exact⟨by show n.length<=_;rw[qS hx];exact G x Lq,oe⟩
   exact Qd4 H (λq h=>G q (Lj _ h)) y E
theorem Qd5 {co:List YU}:∀{l:List xG}{a:List ZQ},Je co l=some a->(∀q∈l,q.ts.length<=100000)->∀x∈a,jE x
 | [],a,h,_=>by
  rw[Je]at h;cases h
  exact λx hx=>by cases hx
 | x::l,a,h,G=>by
  rw[Je]at h;cases hx:Ku co x.ts with
  | none=>rw[hx]at h;cases h
  | some n =>
   rw[hx]at h;obtain⟨I,H,rfl⟩:=Mb.1 h;intro y E;rcases Li.1 E with rfl|E
   ·exact⟨oe,by show n.length<=_;rw[qS hx];exact G x Lq⟩
   exact Qd5 H (λq h=>G q (Lj _ h)) y E
theorem Qal (E:CSz c)(h:(ZE c).1=0):∀x∈(ZE c).2,jE x:=by
 obtain⟨a,b,G,H,e,_⟩:=VI h;intro x hx;rw[e]at hx;rcases Lc.1 hx with hx|hx
 ·obtain⟨y,_,rfl⟩:=LC.1 hx;exact⟨by simp[Y2],by simp[Y2]⟩
 rcases Lc.1 hx with hx|hx
 ·obtain⟨y,_,rfl⟩:=LC.1 hx;exact⟨by simp[Y2],by simp[Y2]⟩
 rcases Lc.1 hx with hx|hx
 ·exact Qd4 G E.x x hx
 exact Qd5 H E.k x hx
theorem Qle {l:List ZQ}{x:ZQ}(hl:∀y∈l,jE y)(hx:jE x):∀y∈(VH l x).2,jE y:=by
 unfold VH;split
 ·exact λy E=>by cases E
 split
 ·exact λy E=>by cases E
 split
 ·intro y E;rcases MI E with E|rfl
  ·exact hl y E
  exact hx
 split
 ·exact λy E=>by cases E
 intro y E;rcases Lc.1 E with E|E
 ·exact hl y (LZ E)
 rcases Li.1 E with rfl|E
 ·exact hx
 exact hl y (Mc E)
theorem Qlj {l:List ZQ}{k:Int}{n:ByteArray}(hl:∀y∈l,jE y):∀y∈(qu l k n).2,jE y:=by
 unfold qu;split
 ·exact λy E=>by cases E
 split
 ·exact λy E=>by cases E
 intro y E;rcases Lc.1 E with E|E
 ·exact hl y (LZ E)
 exact hl y (Mc E)
theorem Qea:∀{es:List (Bool×ZQ)}{l:List ZQ},(∀y∈l,jE y)->(∀e∈es,jE e.2)->∀y∈(zW es l).2,jE y
 | [],l,hl,_=>by rw[zW];exact hl
 | e::es,l,hl,E=>by
  rw[zW];split
  ·exact λy G=>by cases G
  refine Qea ?_ λe h=>E e (Lj _ h);unfold zX;split
  ·exact Qlj hl
  exact Qle hl (E e Lq)
theorem Qll {es:List (Bool×ZQ)}{l:List ZQ}(hl:∀y∈l,jE y)(E:∀e∈es,jE e.2):∀y∈(zV l es).2,jE y:=by
 unfold zV;split
 ·exact λy G=>by cases G
 exact Qea hl E
structure UnZ where
 b12:Nat
 b13:Nat
def unP (N:Nat)(i:Nat)(v:OY)(w':OX):Prop:=∃b T,v=pS b/\N<=b/\Q9 w'.heap b T (if i=8 then Z3 else[Zl])
theorem QjK (N:Nat):∀i v (w w':OX),unP N i v w->O1 [] w w'->unP N i v w':=λ_ _ _ _ ⟨b,T,E,G,H⟩ I=>⟨b,T,E,G,H.I I⟩
theorem QlO {L2:LN}{s:Kr}{xs:List YV}(h:Vu L w s)(hL:∀b∈L,b<w.heap.size)(hx:Qas L2 w.heap vl xs)(k5:∀e∈xs.map YV.e,jE e.2)(gz:yy s.s.c.V (s.s.ps.map (·.pt)))(k6:s.s.ps.length<=1000)
  (hm:0<=s.made/\s.made<=1099511627776) (hrl:s.rs.length<=64) (hul:s.us.length<=64) (k7:Kb w 4096):
  Q3 prog 13 [pS s.b,vl] w λr w'=>∃qr:qe,r=.tuple #[.agg (Zr qr).toArray,oE oF (yn s.sys (xs.map YV.e))]/\(∀N:LN,(∀b∈N,b<w.heap.size)->Kw N w'.heap qr)/\(yn s.sys (xs.map YV.e)≠0->O1 [] w w'/\qr.rp=⟨[],[],[]⟩) /\
   (yn s.sys (xs.map YV.e)=0->qr.rp=Y4 (VG s.s.c.V (xs.map YV.e)).2 (s.s.ps.map (·.pt)) ((s.us.length:Int)+1)/\∃s':Kr,s'.b=s.b/\s'.sys=edS s.sys (xs.map YV.e)/\O1 s.own w w'/\Vu (s'.own++L) w' s'/\(∀b∈s'.own,b∈s.own\/w.heap.size<=b)/\Kw s'.own w'.heap qr):=by
 obtain⟨TS,Y⟩:=h.blk;have g0:=gz.ck;have g2:=VP g0;have g3:Zm [] w.heap s.vu s.us.length 1 (s.us.map KJ):=QK h.ru oa oe;have g4:s.sys.un.length=s.us.length:=Lh _;have k8:(s.s.ps.map (·.e.ky)).Nodup:=by
  have:=gz.ky;rw[MB]at this;have e:s.s.ps.map (·.e.ky)=(O5 s.s.c.V).map (ZY s.s.c.V):=this;rw[e];exact zB g0
 have k9:(xs.map YV.e).length=xs.length:=Lh _;have ma:∀(w':OX) (N:LN),Kw N w'.heap ⟨Zl,[],Zl,[],Zl,[]⟩:=λw' N=>⟨Zm.nil _ _ _,Zm.nil _ _ _,Zm.nil _ _ _⟩;have I:yn s.sys (xs.map YV.e)=if xs.length=0 then 12 else if s.us.length=64 then 3 else if(VG s.s.c.V (xs.map YV.e)).1≠0 then(VG s.s.c.V (xs.map YV.e)).1 else JF (VG s.s.c.V (xs.map YV.e)).2 (s.s.ps.map (·.pt)) ((s.us.length:Int)+1):=by
  unfold yn;rw[k9,g4];rfl
 have T:VG s.s.c.V (xs.map YV.e)=if(edI s.s.c.V (xs.map YV.e)).1≠0 then((edI s.s.c.V (xs.map YV.e)).1,Ur)else if(KA s.s.c.V.ev (edI s.s.c.V (xs.map YV.e)).2).1≠0 then((KA s.s.c.V.ev (edI s.s.c.V (xs.map YV.e)).2).1,Ur)else if Zi (KA s.s.c.V.ev (edI s.s.c.V (xs.map YV.e)).2).2≠0 then(Zi (KA s.s.c.V.ev (edI s.s.c.V (xs.map YV.e)).2).2,Ur)else(0,(KA s.s.c.V.ev (edI s.s.c.V (xs.map YV.e)).2).2):=rfl
 have hy:edI s.s.c.V (xs.map YV.e)=if(ZE s.s.c.V).1≠0 then((ZE s.s.c.V).1,[])else zV (ZE s.s.c.V).2 (xs.map YV.e):=rfl
 have hT:(ZE s.s.c.V).1=0->∀y∈(zV (ZE s.s.c.V).2 (xs.map YV.e)).2,jE y:=λh0=>Qll (Qal g2 h0) k5;have hF:edS s.sys (xs.map YV.e)=⟨(VG s.s.c.V (xs.map YV.e)).2,yf (VG s.s.c.V (xs.map YV.e)).2 (s.s.ps.map (·.pt)) ((s.us.length:Int)+1),s.made+((Y4 (VG s.s.c.V (xs.map YV.e)).2 (s.s.ps.map (·.pt)) ((s.us.length:Int)+1)).made.length:Int),s.rs.map qe.rp++[Y4 (VG s.s.c.V (xs.map YV.e)).2 (s.s.ps.map (·.pt)) ((s.us.length:Int)+1)],(s.us.map λu=>u.s.st)++[(s.s.c.V,s.s.ps.map (·.pt))]⟩:=by
  unfold edS;rw[g4];rfl
 refine Zo (yn s.sys (xs.map YV.e)) λE hE=>?_;refine Zo (edS s.sys (xs.map YV.e)) λES g5=>?_;refine Zo (VG s.s.c.V (xs.map YV.e)) λEC g6=>?_;refine Zo (edI s.s.c.V (xs.map YV.e)) λEI mf=>?_;rw[hE]at I;rw[g5]at hF;rw[g6]at I T hF;rw[mf]at T hy;rw[hE,g5,g6];refine Zq func13 ?_;refine Qc<|Qe<|Qo (us:=Ym) U λH w1 hj ga hz=>Qb ?_;have hl4:=hz.lt;have bad:∀(e:Int) (w2 O:OX),E=e->e≠0->O1 [] w w2->O1 [H] w2 O->(∃qr:qe,tup [.agg Ym.toArray,oE oF e]=.tuple #[.agg (Zr qr).toArray,oE oF E]/\(∀N:LN,(∀b∈N,b<w.heap.size)->Kw N O.heap qr)/\(E≠0->O1 [] w O/\qr.rp=⟨[],[],[]⟩) /\
   (E=0->qr.rp=Y4 EC.2 (s.s.ps.map (·.pt)) ((s.us.length:Int)+1)/\∃s':Kr,s'.b=s.b/\s'.sys=ES/\O1 s.own w O/\Vu (s'.own++L) O s'/\(∀b∈s'.own,b∈s.own\/w.heap.size<=b)/\Kw s'.own O.heap qr)):=λe w2 O S h2 h3 h4 =>
  ⟨⟨Zl,[],Zl,[],Zl,[]⟩,by rw[S];rfl,λN _=>ma O N,λ_=>⟨h3.O h4 oa,U⟩,λh0=>OS (S.symm.D h0) h2⟩
 refine Qd<|Qg<|Qm<|x (Yp underlying46 U U)<|Qb<|ZS U<|Qm<|QI hx.arr U<|x (QY U U)<|Qb<|QX U (λgb=>?_) (λgb=>?_)
 ·rw[OQ (by have mg:(xs.length:Int)=0:=gb;omega)]at I;refine Qc<|x (Qy Z)<|Qe<|Qj (us:=Ym) hz U U U U oA λO ha hG=>Qb<|Qk ⟨[.agg Ym.toArray,oE oF 12],⟨⟨_,U,Qn U (hG.at (L:=[]) oe).cells⟩,rfl,Z⟩,bad 12 w1 O I og hj ha⟩
 rw[OP (by have mg:¬(xs.length:Int)=0:=gb;omega)]at I;refine Qm<|Yl U<|Qs U (Y.I hj) U U<|QI (g3.I hj) U<|x (QY U U)<|Qb<|QX U (λgc=>?_) (λgc=>?_)
 ·rw[OQ (by have mh:(s.us.length:Int)=64:=gc;omega)]at I;refine Qc<|x (Qy Z)<|Qe<|Qj (us:=Ym) hz U U U U oA λO ha hG=>Qb<|Qk ⟨[.agg Ym.toArray,oE oF 3],⟨⟨_,U,Qn U (hG.at (L:=[]) oe).cells⟩,rfl,Z⟩,bad 3 w1 O I og hj ha⟩
 have mi:¬s.us.length=64:=by have mh:¬(s.us.length:Int)=64:=gc;omega
 rw[OP mi]at I;refine Qh<|Qm<|Yl U<|Q7 U<|x (Zs (us:=s.s.c.cells) (Y.I hj) U U U)<|QM<|(Qcx (h.st.c.I hj) g2).mono ?_;rintro r5 w2 ⟨ho,v5,rfl,_,mj⟩;have gg:=hj.D ho;refine Qa<|QZ U U<|QZ U U<|x Ql<|Qb<|Qd<|Qm<|ZB U U<|xe<|QX rfl (λhp=>?_) (λhp=>?_)
 ·rw[OQ hp]at hy;rw[hy,OQ hp]at T;rw[T,OQ hp]at I;refine Qc<|x (Qy Z)<|Qa<|Qe<|Qj (us:=Ym) (hz.I ho) U U U U oA λO ha hG=>Qb<|Qk ⟨[.agg Ym.toArray,oE oF (ZE s.s.c.V).1],⟨⟨_,U,Qn U (hG.at (L:=[]) oe).cells⟩,rfl,Z⟩,bad _ w2 O I hp gg ha⟩
 rw[OP hp]at hy;have gh:=Ln.1 hp;have hT:=hT gh;refine Exists.elim (mj gh) λl5 gi=>?_;have mn:Ke [] w2.heap v5 l5:=by
  refine Jg.dits gi.1 ?_ oe;have S:=OR oO gi.2;rw[Lh]at S;obtain⟨_,_,_,_,_,hk⟩:=VI gh;have:=KW hk;omega
 have hAp:=Qjn mn (Go.Lg.KE.I hx gg);rw[gi.2,<-hy]at hAp;rw[<-hy]at hT;refine Qh<|Qd<|Qm<|Qa<|QM<|hAp.mono ?_;rintro r7 O ⟨ha,v7,l7,rfl,mo,hU⟩;have hH:=gg.D ha;refine Qa<|QZ U U<|QZ U U<|x Ql<|Qb<|Qm<|ZB U U<|xe<|QX rfl (λh5=>?_) (λh5=>?_)
 ·rw[OQ h5]at T;rw[T,OQ h5]at I;refine Qc<|x (Qy Z)<|Qa<|Qe<|Qj (us:=Ym) ((hz.I ho).I ha) U U U U oA λw4 hI mq=>Qb<|Qk ⟨[.agg Ym.toArray,oE oF EI.1],⟨⟨_,U,Qn U (mq.at (L:=[]) oe).cells⟩,rfl,Z⟩,bad _ O w4 I h5 hH hI⟩
 rw[OP h5]at T;obtain⟨hU,hln7⟩:=hU (Ln.1 h5);have hD3:Ke [] O.heap v7 l7:=Jg.dits mo oa oe;have hCe:=Qin (h.st.c.I hH).ev hD3 (λq hq=>hT q (by rw[<-hU];exact hq));rw[hU]at hCe;have ms:s.s.c.V.ev=s.s.c.ev:=rfl;rw[ms]at T;refine Zo (KA s.s.c.ev EI.2) λDC mt=>?_;rw[mt]at T hCe;refine Qh<|Qm<|Yl U<|Q7 U<|Qs U (Y.I hH) U U<|Qa<|QM<|hCe.mono ?_;rintro r9 w4 ⟨hI,c9,rfl,mu,hV⟩;refine Qa<|QZ U U<|QZ U U<|Qe<|Qo (us:=Z3) U λb8 w5 hJ mv mw=>Qe<|Qj (us:=c9.cells) mw U U U U mu λw6 my g7 =>
  Qb ?_
 have hW:O1 [] w4 w6:=hJ.O my mv;have gj:=(hH.D hI).D hW;have hz4:=hI.size;have hz46:=hW.size;have gk:=(((hz.I ho).I ha).I hI).I hW;refine Qd<|Qm<|ZB U U<|xe<|QX rfl (λh6=>?_) (λh6=>?_)
 ·rw[OQ h6]at T;rw[T,OQ h6]at I;refine Qc<|x (Qy Z)<|Qa<|Qe<|Qj (us:=Ym) gk U U U U oA λV hf mz=>Qb<|Qk ⟨[.agg Ym.toArray,oE oF DC.1],⟨⟨_,U,Qn U (mz.at (L:=[]) oe).cells⟩,rfl,Z⟩,bad _ w6 V I h6 gj hf⟩
 rw[OP h6]at T;have hV:=hV (Ln.1 h6);have hX:=hV.1;have gl:∀N:LN,(∀b∈N,b<O.heap.size\/w4.heap.size<=b)->ZJ N w6.heap c9:=λN hN=>by
  have S:=hV.2 (N.filter λb=>decide (b<O.heap.size)) (λb G=>OU (Md.1 G).2);exact(S.up (L':=N) λb G=>(hN b G).imp (λh=>Md.2 ⟨G,OT h⟩) id).I hW
 have hCk:=XS (gl [] oe);rw[hX]at hCk;refine Qh<|Qd<|Qc<|Q6 g7 U U<|QM<|hCk.mono ?_;rintro r13 V ⟨rfl,hf⟩;have hr:=gj.D hf;have hz7:=hf.size;refine Qb<|Qm<|ZB U U<|xe<|QX rfl (λh7=>?_) (λh7=>?_)
 ·rw[OQ h7]at T;rw[T,OQ h7]at I;refine Qc<|x (Qy Z)<|Qa<|Qe<|Qj (us:=Ym) (gk.I hf) U U U U oA λw8 he gm=>Qb<|Qk ⟨[.agg Ym.toArray,oE oF (Zi DC.2)],⟨⟨_,U,Qn U (gm.at (L:=[]) oe).cells⟩,rfl,Z⟩,bad _ V w8 I h7 hr he⟩
 rw[OP h7]at T;have m2:=Ln.1 h7;rw[T,OP oe]at I;rw[T]at hF;simp only[]at I hF;refine Qh ?_;have g8:=Y.I hr;have m3:=g3.I hr;have g9:=g7.I hf;have hz06:=gj.size;have hz03:=hH.size;have ka:∀b∈H::L,b<V.heap.size:=λb G=>by
  rcases Li.1 G with rfl|G
  ·have:=ho.size;have:=ha.size;omega
  have:=hL b G;omega
 have m4:Pts (H::L) V.heap s.s.vp s.s.ps:=Go.Lg.KE.I (Go.Lg.KE.up h.st.p λb G=>by
  rcases Li.1 G with rfl|G
  ·exact .inr ga
  exact .inl G) hr
 have m5:O1 [] V { V with drawn:=V.drawn+1 }:=O1.C _ _
 refine Zo (JF DC.2 (s.s.ps.map (·.pt)) ((s.us.length:Int)+1)) λE2 kb=>?_;rw[kb]at I;refine Za (α:=OY×LV×Nat) [(73,88),(7,7),(10,11)] (λz=>[(10,z.1),(11,pS z.2.2),(7,oE oF E2)]) (λz w'=>O1 [] V w'/\V.heap.size<=z.2.2/\Q9 w'.heap z.2.2 53 z.2.1/\(z.2.1.length=3/\Zp z.2.1)/\(E2=0->∃qs q,z.2.1=Zr q/\qs.map (·.pt)=yf DC.2 (s.s.ps.map (·.pt)) ((s.us.length:Int)+1)/\q.rp=Y4 DC.2 (s.s.ps.map (·.pt)) ((s.us.length:Int)+1)/\Pts (H::L) w'.heap z.1 qs/\Kw (z.2.2::H::L) w'.heap q)) ol ?_ ?_
 ·refine Kc (α:=OY×LV) (O1 [] V) [oC 0,oC 1,oC 2,oC 3,oC 4,oC 5,oC 6,oC 7,oC 8,oC 9,oC 10] [oD 11,oC 12,oC 13,oC 14,oC 15] 16 11 [oC 17,oD 18,oC 19] []
   [(73,88)] [(73,73),(85,88)] (λz=>[(86,z.1),(87,.agg z.2.toArray),(88,oE oF E2)])
   (λz own w'=>(∀b∈own,V.heap.size<=b)/\(z.2.length=3/\Zp z.2)/\(E2=0->∃qs q,z.2=Zr q/\qs.map (·.pt)=yf DC.2 (s.s.ps.map (·.pt)) ((s.us.length:Int)+1)/\q.rp=Y4 DC.2 (s.s.ps.map (·.pt)) ((s.us.length:Int)+1)/\∀b',V.heap.size<=b'->b'∉own->Pts (b'::H::L) w'.heap z.1 qs/\Kw (b'::H::L) w'.heap q))
   (λv w'=>∃b,v=pS b/\V.heap.size<=b/\Q9 w'.heap b 53 Ym) mixed ol od ol U m5 oe ?_ ?_ ?_ ?_
  ·rintro v own wa wb ⟨b,rfl,G,Y⟩ hs hn;exact⟨b,U,G,Y.J hs (hn b oq)⟩
  ·rintro z own wa wb ⟨S,h2,h3⟩ hs;refine⟨S,h2,λh0=>?_⟩;obtain⟨qs,q,e1,e2,e3,e4⟩:=h3 h0;exact⟨qs,q,e1,e2,e3,λb' hY hn=>⟨Go.Lg.KE.I (e4 b' hY hn).1 hs,(e4 b' hY hn).2.I hs⟩⟩
  ·rintro⟨vp,us⟩ g own wz v ⟨i1,i2,i3⟩ kc ⟨h8,rfl,hh,hi⟩ m6;simp only[]at i2 i3;have m7:=(m6 h8 oq).1;refine p ZM<|pk<|Qj (us:=us) hi U U i2.1 U i2.2 λw8 he m8=>⟨kc.O he hh,?_⟩;refine p ZM<|pe ?_;refine⟨(vp,us,h8),oA,kc.O he hh,hh,m8,i2,λh0=>?_⟩;obtain⟨qs,q,e1,e2,e3,e4⟩:=i3 h0;have e5:=e4 h8 hh m7;exact⟨qs,q,e1,e2,e3,Go.Lg.KE.up (Go.Lg.KE.st e5.1 (he.mono oe)) (λb G=>.inl (Lj _ G)),e5.2.st (he.mono oe)⟩
  refine pq (λ_ J=>ZT (g9.I J) U U)<|p QF<|p (Y9 U)<|p (QR U)<|pq (λ_ J=>Qr (g8.I J) U U) <|
   p QF<|p (Y9 U)<|p (QR U)<|pq (λ_ J=>Qr (g8.I J) U U)<|p (λ_=>Yv m3 U) <|
   p (λ_=>Xu U U ⟨oa,oa⟩)<|pe ⟨λg wf ke=>Qo (us:=Ym) U λb wf' kf kg kh=>⟨kf,ke.D kf,⟨b,U,LH ke.size kg,kh⟩,λx hx=>?_⟩,?_⟩
  ·have m9:x=b:=by
    have pa:x∈[b]:=hx;simpa using pa
   subst m9;exact⟨kg,kh.lt⟩
  refine f2k λx1 p1 c1=>?_;have pc:=(gl (H::L) (λb G=>by
   rcases Li.1 G with rfl|G
   ·exact .inl (ou ho.size ha.size)
   exact .inl (ot (hL b G)))).I (hf.D c1)
  have pd:Pts (UF V.heap.size x1.heap.size++(H::L)) x1.heap s.s.vp s.s.ps:=Go.Lg.KE.I (Go.Lg.KE.up m4 λb G=>by
   rcases Lc.1 G with G|G
   ·exact .inr (ZA.1 G).1
   exact .inl G) c1
  have hbl:=QbQ (v:=(s.us.length:Int)+1) pc pd (λb G=>by
   have:=c1.size;rcases Lc.1 G with G|G
   ·exact(ZA.1 G).2
   have:=ka b G;omega) k8 k6 (k7.I (hr.D c1))
  rw[hX,kb]at hbl;refine xg<|hbl.mono ?_;rintro _ y1 ⟨ki,vp,us,rfl,pf,pg,_,ph⟩;have z1:=c1.size;refine⟨c1.D ki,UF x1.heap.size y1.heap.size,ki.any,λb G=>.inr (ZA.1 G),?_⟩;refine f2p QF<|f2p (λ_=>Zn U U)<|f2p (λ_=>Zn U U)<|f2p (λ_=>Zn U U)<|f2e ?_;refine⟨(vp,us),oA,λb G=>ot (ZA.1 G),⟨pf,pg⟩,λh0=>?_⟩;obtain⟨qs,q,e1,e2,e3,_,e5,e6⟩:=ph h0;refine⟨qs,q,e1,e2,e3,λb' hY hn=>?_⟩;have pj:b'<x1.heap.size\/y1.heap.size<=b':=by
   rcases OA b' x1.heap.size with S|S
   ·exact .inl S
   rcases OA b' y1.heap.size with h2|h2
   ·exact OS (ZA.2 ⟨S,h2⟩) hn
   exact .inr h2
  have kj:∀b∈b'::H::L,b∈UF V.heap.size x1.heap.size++(H::L)\/y1.heap.size<=b:=λb G=>by
   rcases Li.1 G with rfl|G
   ·exact pj.imp (λS=>Lc.2 (.inl (ZA.2 ⟨hY,S⟩))) id
   exact .inl (Lc.2 (.inr G))
  exact⟨Go.Lg.KE.up e5 kj,(e6 (UF V.heap.size x1.heap.size++(H::L)) (λb G=>by
   rcases Lc.1 G with G|G
   ·exact(ZA.1 G).2
   have:=ka b G;omega)).up kj⟩
 rintro⟨vp,us,h8⟩ g wA ⟨hK,hh,hi,pm,hg⟩;simp only[]at hh hi pm hg;have h9:=(gk.I hf).I hK;refine Qd<|Qm<|ZB U U<|xe<|QX rfl (λgn=>?_) (λgn=>?_)
 ·refine Qc<|x (Qy Z)<|Qa<|Qe<|Qj (us:=Ym) h9 U U U U oA λw8 he gm=>Qb<|Qk ⟨[.agg Ym.toArray,oE oF E2],⟨⟨_,U,Qn U (gm.at (L:=[]) oe).cells⟩,rfl,Z⟩,bad _ wA w8 I gn (hr.D hK) he⟩
 have kk:=Ln.1 gn;refine Exists.elim (hg kk) λqs pn=>Exists.elim pn λq hM=>?_;have eu:=hM.1;have eqs:=hM.2.1;have eq:=hM.2.2.1;have kn:=hM.2.2.2.1;have hO:=hM.2.2.2.2;rw[eu]at hi;refine Qh ?_;have go:=hr.D hK;have gp:=Y.I go;have hl11:=hi.lt;have hlsb:=Y.lt;have po:O1 [] wA { wA with drawn:=wA.drawn+1 }:=O1.C _ _
 refine Za (α:=UnZ) [(93,100),(12,13)] (λz=>[(12,pS z.b12),(13,pS z.b13)]) (λz w'=>O1 [] wA w'/\wA.heap.size<=z.b12/\wA.heap.size<=z.b13/\∃T1 T2,Q9 w'.heap z.b12 T1 s.s.c.cells/\Q9 w'.heap z.b13 T2 [s.s.vp]) ol ?_ ?_
 ·refine QlG (α:=UnZ) (O1 [] wA) [oC 0,oC 1,oC 2,oC 3,oC 4,oC 5,oC 6,oC 7] [8,9] [oD 10,oD 11] [(12,13)] (unP wA.heap.size) (λz=>[(12,pS z.b12),(13,pS z.b13)])
   (λz w'=>z.b12≠z.b13/\wA.heap.size<=z.b12/\wA.heap.size<=z.b13/\∃T1 T2,Q9 w'.heap z.b12 T1 Z3/\Q9 w'.heap z.b13 T2 [Zl]) mixed ol od po (λ_ _ S h2=>S.D h2) (QjK _) ?_ ?_
  ·rintro g w' ⟨⟨b12,T1,e3,pp,pu⟩,⟨b13,T2,e4,pw,hh⟩,_⟩ pz;refine⟨⟨b12,b13⟩,⟨e3,e4,Z⟩,?_,pp,pw,T1,T2,pu,hh⟩;have d1:=pz 8 oe 9 oe og;rw[e3,e4]at d1;simp only[ow,oH,forall_eq]at d1;exact d1
  refine p QF<|p (Y9 U)<|p (QR U)<|pq (λ_ J=>Zs (us:=s.s.c.cells) (gp.I J) U U U)<|p QF<|p (Y9 U)<|p (QR U) <|
   pq (λ_ J=>Qr (gp.I J) U U)<|pe ⟨⟨?_,?_,Z⟩,?_⟩
  ·intro g w' J;exact Qo (us:=Z3) U λb w5 hJ G Y=>⟨hJ,⟨b,_,U,LH J.size G,Y⟩,λc gq=>by rw[Lb.1 (show c∈[b] from gq)];exact⟨G,Y.lt⟩⟩
  ·intro g w' J;exact Qo (us:=[Zl]) U λb w5 hJ G Y=>⟨hJ,⟨b,_,U,LH J.size G,Y⟩,λc gq=>by rw[Lb.1 (show c∈[b] from gq)];exact⟨G,Y.lt⟩⟩
  rintro⟨b12,b13⟩ g wz ko ⟨gr,ht,hA,T1,T2,hP,hQ⟩;simp only[]at gr ht hA hP hQ;refine pk<|Qj (us:=s.s.c.cells) hP U U U U h.st.c.ones λw8 he p0=>⟨ko.O he ht,?_⟩;refine pkl (hl:=by kernel_rfl)<|QE (u:=s.s.vp) (hQ.J he (by simp only[oH];exact λe=>gr e.symm)) U U oe h.st.p.arr.one λw9 kq p2=>pe ?_;exact⟨⟨b12,b13⟩,oz,(ko.O he ht).O kq hA,ht,hA,T1,T2,p0.J kq (by simp only[oH];exact gr),p2⟩
 rintro⟨b12,b13⟩ gC wC ⟨hC,ht,hA,T12,T13,hP,hQ⟩;simp only[]at ht hA hP hQ;have kr:=gp.I hC;refine Qm<|Qa<|Yl U<|Qs U kr U U<|x (Zz (l:=[]) (l':=[_,_]))<|Qe<|QB (us:=[[KJ ⟨b12,b13,s.s⟩]]) U U og oe ⟨rfl,rfl,Z⟩ λb107 wC1 hu hb107 p3=>?_;have kt:=(go.D hC).D hu;have zC1:=hu.size;refine Qe<|Zb (news:=[KJ ⟨b12,b13,s.s⟩]) (L:=[]) (Qq h.ru kt) U U U (p3.at oe) (by simp[Value.oneCell']) oa oa λv16 wD gs hD p4=>?_;have d2:s.b∉ob s.vu:=h.d2;have p5:=(kr.I hu).J hD d2;refine Yl rfl<|Q7 U<|Qe<|QE (u:=v16) p5 U U (L9 U) (Qu gs) λwE hv p6=>xe ?_;have zE:=hv.size;have p7:Q9 wE.heap s.b TS [s.s.c.ve,s.s.c.vc,s.s.c.vr,s.s.c.vx,s.s.c.vk,s.s.vp,oE oF s.made,s.vr,v16]:=p6;have p8:=((gl (H::L) (λb G=>by
   rcases Li.1 G with rfl|G
   ·exact .inl (ou ho.size ha.size)
   exact .inl (ot (hL b G)))).I (hf.D hK)).I (hC.D hu)
 have subL:∀b∈s.own,b∈H::L:=λb G=>Lj _ (h.sub b G);have msb:s.b∈s.own:=Lq;have mvr:∀b∈ob s.vr,b∈s.own:=λb G=>Lj _ (Lc.2 (.inl G));have mvu:∀b∈ob s.vu,b∈s.own:=λb G=>Lj _ (Lc.2 (.inr G));have sDL:=hD.mono (L':=H::L) λb G=>subL b (mvu b G);have sEL:=hv.mono (L':=H::L) λb G=>by rw[Lb.1 G];exact subL _ msb
 have p9:=(p8.st sDL).st sEL;have qc:CSz c9.V:=VP (by rw[hX];exact m2);refine Qc ?_;have qo:Q9 wE.heap b8 _ c9.cells:=((((g9.I hK).I hC).I hu).J hD (λhm=>ot (h.lt _ (mvu _ hm)))).J hv om;refine Qa<|Qa<|Q6 qo U U<|QM<|(Qip p9 qc).mono ?_;rintro r19 wF ⟨hR,cm,rfl,ecm,ku⟩;have zF:=hR.size;have d1:s.b∉ob s.vr:=h.d1;have nown:∀b,w.heap.size<=b->b∉s.own:=λb S G=>ot (h.lt b G)
 have n4:=nown H ga;have hZ:=nown h8 oa;have sE:O1 s.own wA wE:=((hC.D hu).any.Q (hD.mono mvu)).Q (hv.mono λb G=>by rw[Lb.1 G];exact msb);have sF:=sE.D hR;have q0:=p7.I hR;refine Qa<|Yl U<|Q7 U<|Qe<|Yx (us:=cm.cells) (cs':=[cm.ve,cm.vc,cm.vr,cm.vx,cm.vk,s.s.vp,oE oF s.made,s.vr,v16]) q0 U U U (L9 U) (ku [] oe).ones rfl λwG q1 q2=>?_;refine Yl rfl<|Q7 U<|Qe<|QE (u:=vp) q2 U U (L9 U) kn.arr.one λwH q3 q4=>xe ?_;have kv:Q9 wH.heap s.b TS [cm.ve,cm.vc,cm.vr,cm.vx,cm.vk,vp,oE oF s.made,s.vr,v16]:=q4;have gt:∀b∈[s.b],b∈s.own:=λb G=>by rw[Lb.1 G];exact msb
 have sFH:O1 [s.b] wF wH:=q1.Q q3;have sH:O1 s.own wA wH:=sF.Q (sFH.mono gt);have q6:=hi.J sH hZ;have hk2:(Y4 DC.2 (s.s.ps.map (·.pt)) ((s.us.length:Int)+1)).made.length=q.k2.length:=by rw[<-eq];rfl
 have hrl2:=hO.a2.le;refine Qd<|ZI [] (Xx 0 11 [10])<|p QF<|p (Y9 U)<|p (QR U)<|pq (λ_ J=>Qr (kv.I J) U U)<|p (QR U)<|pq (λ_ J=>Qr (q6.I J) U U) <|
  p (λ_=>Yv hO.a2 U)<|p (λ_=>Xu U U ⟨oa,oa⟩)<|p (Y9 U)<|p (QR U) <|
  pkl (hl:=by kernel_rfl)<|QE (u:=oE oF (s.made+(q.k2.length:Int))) (kv.I (O1.C _ _)) U U (L9 U) U λwI za zb=>pe ?_
 have kw:Q9 wI.heap s.b TS [cm.ve,cm.vc,cm.vr,cm.vx,cm.vk,vp,oE oF (s.made+(q.k2.length:Int)),s.vr,v16]:=zb;have sHI:O1 [s.b] wH wI:=(O1.C [] wH).any.Q za;have sFI:=sFH.Q sHI;have sI:O1 s.own wA wI:=sF.Q (sFI.mono gt);have zI:=sI.size;have zv:=hi.J sI hZ;have kx:∀b∈ob s.vr,b≠s.b:=λb G e=>d1 (e ▸ G);have z0:wI.ownsRow 0 53 3 s.vr s.rs.length (s.rs.flatMap Zr):=by
  refine Qf (Qq (Qf (Qf (Qq h.rr kt) hD λb G hm=>h.d3 b G hm) hv λb G hm=>kx b G (Lb.1 hm)) hR) sFI λb G hm=>kx b G (Lb.1 hm)
 have drI:O1 [] wI { wI with drawn:=wI.drawn+1 }:=O1.C _ _
 have n11r:h8∉ob s.vr:=λhm=>hZ (mvr _ hm);refine Qd<|ZI (ob s.vr) (Xx 0 11 [6,7,10])<|p QF<|p QF<|p (Y9 U)<|p (QR U)<|pq (λ_ J=>Qr (kw.J J d1) U U)<|pq (λ_ J=>ZT (zv.J J n11r) U U) <|
  pk<|QB (us:=[Zr q]) U U og (by exact(by decide:1*3<=1000000)) oz λb136 wJ hw hb136 z2=>⟨(drI.D hw).any,?_⟩
 refine pk<|Zb (m:=1) (news:=Zr q) (L:=[]) (Qq z0 (drI.D hw)) U U U (z2.at oe) (Zp.all hO.ones) oa (Lo _) λv24 wK gu hS z3=>⟨(drI.D hw).any.Q hS,?_⟩;have z4:Q9 wK.heap s.b TS _:=(kw.I (drI.D hw)).J hS d1;refine p (Y9 U)<|p (QR U)<|pkl (hl:=by kernel_rfl)<|QE (u:=v24) z4 U U (L9 U) (Qu gu) λwN gv kz=>pe ?_;have sK:O1 s.own wA wK:=sI.Q ((drI.D hw).any.Q (hS.mono mvr));have sN:O1 s.own wA wN:=sK.Q (gv.mono gt);have zN:=sN.size;have z5:=hi.J sN hZ;have hrpN:=(hO.up (L':=H::L) λb G=>.inl (Lj _ G)).st (sN.mono subL);refine Qc<|Q6 z5 U U<|QM<|(Qiq hrpN).mono ?_;rintro r26 wP ⟨k0,q',rfl,eq',gw⟩;have hB4P:=(h9.J sN n4).I k0;have hq1:=gw [H] (λb G=>by rw[Lb.1 G];have:=h9.lt;omega);refine Qe<|Qj (us:=Zr q') hB4P U U U U hq1.ones λwM gx hB4M=>Qb<|Qk ⟨[.agg (Zr q').toArray,oE oF 0],⟨⟨_,U,Qn U (hB4M.at (L:=[]) oe).cells⟩,rfl,Z⟩,?_⟩;have k4:E=0:=I.D kk;have gy:=Qh8 (cm:=cm) (vp:=vp) (qs:=qs) (q:=q) (made:=s.made+(q.k2.length:Int)) (v16:=v16) (v24:=v24) h hL go ⟨ga,by have:=h9.lt;exact this⟩ (Go.Lg.KE.up kn λb G=>.inl G) (hO.up (L':=H::L) λb G=>.inl (Lj _ G))
  hC ht hA hP hQ (hu.any.Q hD) gs (λb G=>(p4 b G).imp id λS=>LH zC1 S) hv hR ku sFI (drI.D hw) hS gu z3 gv kz k0 gx
 have hqN:∀N:LN,(∀b∈N,b<w.heap.size)->Kw N wM.heap q':=λN hN=>((gw (H::N) (λb G=>by
  rcases Li.1 G with rfl|G
  ·have:=h9.lt;omega
  have:=hN b G;omega)).st (gx.mono oe)).up λb G=>.inl (Lj _ G)
 have hqS:Kw (s.b::(ob v24++ob v16)) wM.heap q':=by
  have y1:=hv.size;have y3:=sFI.size;have y4:=(drI.D hw).size;have y5:=hS.size;have y6:=gv.size;refine((gw (H::(s.b::(ob v24++ob v16))) (λb G=>?_)).st (gx.mono oe)).up λb G=>.inl (Lj _ G);rcases Li.1 G with rfl|G
  ·have:=h9.lt;omega
  rcases Li.1 G with rfl|G
  ·exact kz.lt
  rcases Lc.1 G with G|G
  ·have:=(Qi gu b G).2;omega
  have:=(Qi gs b G).2;omega
 refine⟨q',by rw[k4];rfl,hqN,λh0=>OS k4 h0,λ_=>⟨?_,_,?_,?_,gy.1,gy.2.1,gy.2.2,hqS⟩⟩
 ·rw[eq',eq,T]
 ·rfl
 rw[hF,<-eqs,<-eq,<-hX,<-ecm];unfold Kr.sys;simp only[Of,oZ,OM];rfl
theorem Qia {TS:Nat}{u:UnV}{v1 v2 v3 J O H m vr vu:OY}(S:Q9 w.heap b TS [v1,v2,v3,J,O,H,m,vr,vu])(E:UnA L w.heap u)(T:b∈L):
  Q3 prog 48 [pS b,pS u.b1,pS u.b2] w λ_ w'=>O1 [b] w w'/\Q9 w'.heap b TS [u.s.c.ve,u.s.c.vc,u.s.c.vr,u.s.c.vx,u.s.c.vk,u.s.vp,m,vr,vu]:=by
 refine Zq func48 ?_;have hbL:∀x∈[b],x∈L:=λx hx=>by rw[Lb.1 hx];exact T
 have hd:O1 [] w { w with drawn:=w.drawn+1 }:=O1.C _ _
 refine ZI [b] (Xx 0 10 [6,9])<|p QF<|p QF<|pq (λ_ G=>Qx (us:=u.s.c.cells) (E.a1.st (G.mono hbL)) U U)<|pq (λ_ G=>QA (u:=u.s.vp) (E.a2.st (G.mono hbL)) U)<|p (Y9 U)<|p (QR U) <|
  pk<|Yx (us:=u.s.c.cells) (cs':=[u.s.c.ve,u.s.c.vc,u.s.c.vr,u.s.c.vx,u.s.c.vk,H,m,vr,vu]) (S.I hd) U U U (L9 U) E.s.c.ones U λw1 I V=>⟨hd.any.Q I,?_⟩
 refine p (Y9 U)<|p (QR U)<|pkl (hl:=by kernel_rfl)<|QE (u:=u.s.vp) V U U (L9 U) E.s.p.arr.one λw2 Y ha =>
  pe ?_
 exact⟨[],Z,(hd.any.Q I).Q Y,ha⟩
theorem Qa3 {e:Nat}{v:OY}{g:α->LV}(E:∀x,(g x).length=sz){l:List α}{y:α}(h:w.ownsRow 0 e sz v (l++[y]).length ((l++[y]).flatMap g)):
  ∃b cap,v=.slice (some ⟨b,0,none⟩) (l.length+1) cap/\l.length+1<=cap/\b<w.heap.size/\∀(X:LN) (w':OX),O1 X w w'->b∉X->w'.ownsRow 0 e sz (.slice (some ⟨b,0,none⟩) l.length cap) l.length (l.flatMap g):=by
 have G:(l++[y]).length=l.length+1:=oe
 rw[G]at h;rcases h.2 with⟨e1,e2⟩|⟨b,cap,cur,e1,T,H,V,Y⟩
 ·omega
 subst e1;obtain⟨I,cur,H,hl,J⟩:=Kj h;refine⟨b,cap,U,I,H.lt,λX w' O G=>V7 h (OJ _) (H.J O G) hl ?_ (xA E l)⟩;have S:(cur.take ((l.length+1)*sz)).take (l.length*sz)=cur.take (l.length*sz):=by rw[M5,Ml (LY _ (OJ _))]
 rw[<-S,J,LB,MQ (by rw[xA E l];exact Lv _),Lr (by rw[xA E l];exact Lv _)]
theorem QlI {s:Kr}(h:Vu L w s)(hp:s.rs.length=s.us.length)(h3:s.us.length<=64):
  Q3 prog 18 [pS s.b] w λr w'=>(s.us=[]->r=oE oF 12/\O1 [] w w') /\
   (s.us≠[]->r=oE oF 0/\∃s':Kr,s'.b=s.b/\s'.sys=unS s.sys/\O1 s.own w w'/\Vu L w' s'/\∀b∈s'.own,b∈s.own):=by
 obtain⟨TS,hB⟩:=h.blk;have hh:Zm [] w.heap s.vu s.us.length 1 (s.us.map KJ):=QK h.ru oa oe;refine Zq func18 ?_;refine Qc<|Qb<|Qd<|Qm<|x (Yp underlying46 U U)<|xe<|ZS rfl<|Qh<|Qm<|Yl U<|Qs U hB U U<|QI hh U<|Qb<|Qd<|Qm<|x (QY U U)<|xe<|QX rfl (λha=>?_) (λha=>?_)
 ·have hz:s.us=[]:=List.length_eq_zero_iff.1 (by have h4:(s.us.length:Int)=0:=ha;omega);refine Qc<|Qb<|Qk ⟨[oE oF 12],La,λ_=>⟨U,O1.Z _ _⟩,λhn=>OS hz hn⟩
 have V:s.us≠[]:=λe=>ha (by rw[e];rfl);refine Qh ?_;have he:s.rs≠[]:=λe=>V (List.length_eq_zero_iff.1 (by rw[<-hp,e];rfl));have J:s.us=s.us.dropLast++[s.us.getLast V]:=(List.dropLast_concat_getLast V).symm;have Y:s.rs=s.rs.dropLast++[s.rs.getLast he]:=(List.dropLast_concat_getLast he).symm;refine Zo s.us.dropLast λG hq=>Zo (s.us.getLast V) λu hr=>Zo s.rs.dropLast λH hs=>Zo (s.rs.getLast he) λq ht=>?_;rw[hq,hr]at J;rw[hs,ht]at Y;have h5:s.us.length=G.length+1:=by rw[J];simp
 have h6:s.rs.length=H.length+1:=by rw[Y];simp
 have O:=Qa3 (g:=λu=>[KJ u]) (λ_=>U) (l:=G) (y:=u) (by rw[<-List.map_eq_flatMap,<-J];exact h.ru);have S:=Qa3 QgD (l:=H) (y:=q) (by rw[<-Y];exact h.rr);refine Exists.elim O λgu O=>Exists.elim O λcu O=>Exists.elim S λgr S=>Exists.elim S λcr S=>?_;have evu:=O.1;have evr:=S.1;have hi:(s.us.length:Int) - 1=((G.length:Nat):Int):=oa
 have hu:(s.us.length:Int) - 1=((H.length:Nat):Int):=oa
 have eu:((s.us.map KJ).drop (G.length*1)).take 1=[KJ u]:=by rw[J];simp
 have mu:u∈s.us:=by rw[J];simp
 have msb:s.b∈s.own:=Lq;have mgu:gu∈ob s.vu:=by rw[evu];simp[ob]
 have mgr:gr∈ob s.vr:=by rw[evr];simp[ob]
 refine Qm<|Yl U<|Qs U hB U U<|Qa<|x (Jo U U ⟨oa,oa⟩)<|xi (i:=G.length) hh U (show Go.Lg.ev _ _=_ from OR (Value.int .i64) hi) oa λh7 hj=>?_;rw[eu]at hj;refine x (QA hj U)<|Qa<|Qe<|xc (first:=[]) (capt:=[pS u.b1,pS u.b2]) U<|(Qia hB (h.uA u mu) (h.sub _ msb)).mono ?_;rintro r1 w1 ⟨hv,hf⟩;refine xe<|Qd<|ZI [] (Xx 0 22 [18,21]) ?_;have hd:O1 [] w1 { w1 with drawn:=w1.drawn+1 }:=O1.C _ _
 refine p QF<|p QF<|p QF<|p (Y9 U)<|p (QR U)<|pq (λ_ hc=>Qr (hf.I hc) U U) <|
  p QF<|p (λ_=>Jo U U ⟨oa,oa⟩)<|p (λ_=>J2 (n:=G.length+1) (b:=gu) (cap:=cu) (hi:=G.length) evu (show Go.Lg.ev _ _=_ from OR (Value.int .i64) hi) (ot O.2.1))<|p QF<|p (Y9 U) <|
  p (QR rfl)<|pq (λ_ hc=>Qr (hf.I hc) U U)<|p QF<|p (λ_=>Jo U U ⟨oa,oa⟩)<|p (λ_=>J2 (n:=H.length+1) (b:=gr) (cap:=cr) (hi:=H.length) evr (show Go.Lg.ev _ _=_ from OR (Value.int .i64) hu) (ot S.2.1)) <|
  p (Y9 rfl)<|p (QR U)<|pkl (hl:=by kernel_rfl)<|QE (u:=.slice (some ⟨gu,0,none⟩) G.length cu) (hf.I hd) U U (L9 U) U λw2 hw hy=>p (Y9 U) <|
  p (QR rfl)<|pkl (hl:=by kernel_rfl)<|QE (u:=.slice (some ⟨gr,0,none⟩) H.length cr) hy U U (L9 U) U λw3 h0 h1=>pe ?_
 refine Qc<|Qb ?_;have T:O1 [s.b] w w3:=((hv.D hd).Q hw).Q h0;have hk:gu∉[s.b]:=λI=>h.d2 (Lb.1 I ▸ mgu);have ho:gr∉[s.b]:=λI=>h.d1 (Lb.1 I ▸ mgr);have hg:∀b∈[s.b],b∈L:=λb E=>by rw[Lb.1 E];exact h.sub _ msb
 have h2:∀b∈[s.b],b∈s.own:=λb E=>by rw[Lb.1 E];exact msb
 have own':∀b∈(⟨s.b,u.s,s.made,.slice (some ⟨gr,0,none⟩) H.length cr,H,.slice (some ⟨gu,0,none⟩) G.length cu,G⟩:Kr).own,b∈s.own:=λb E=>by
  rcases Li.1 E with rfl|E
  ·exact msb
  rcases Lc.1 E with E|E
  ·rw[Lb.1 (show b∈[gr] from E)];exact Lj _ (Lc.2 (.inl mgr))
  rw[Lb.1 (show b∈[gu] from E)];exact Lj _ (Lc.2 (.inr mgu))
 refine Qk ⟨[oE oF 0],La,λe=>OS e V,λ_=>⟨U,⟨s.b,u.s,s.made,.slice (some ⟨gr,0,none⟩) H.length cr,H,.slice (some ⟨gu,0,none⟩) G.length cu,G⟩,U,?_,T.mono h2,⟨⟨TS,h1⟩,S.2.2.2 _ _ T ho,?_,λI=>ho (Lb.2 (Lb.1 (show s.b∈[gr] from I)).symm),λI=>hk (Lb.2 (Lb.1 (show s.b∈[gu] from I)).symm),λb E I=>?_,λb E=>h.sub b (own' b E),Mm.st (h.uA u mu).s (T.mono hg),λd hd=>Mm.st (h.rA d (by rw[Y];exact Lc.2 (.inl hd))) (T.mono hg),λd hd=>Mm.st (h.uA d (by rw[J];exact Lc.2 (.inl hd))) (T.mono hg)⟩,own'⟩⟩
 ·show Kr.sys _=_;unfold Kr.sys unS;rw[J,Y];simp only[Of,oZ,OM,List.dropLast_concat,List.getLastD_concat];rfl
 ·have:=O.2.2.2 _ _ T hk;rw[<-List.map_eq_flatMap]at this;exact this
 rw[Lb.1 (show b∈[gr] from E)]at I;exact h.d3 gr mgr (by rw[Lb.1 (show gr∈[gu] from I)];exact mgu)
structure YR (k:Nat)(s:Sys):Prop where
 st:yy s.c s.ps
 un:∀u∈s.un,yy u.1 u.2
 ln:s.rs.length=s.un.length
 l64:s.un.length<=64
 m0:0<=s.made
 m1:s.made<=(k:Int)*1000
theorem jB {v:Int}(h:JF c bf v=0):(Y4 c bf v).made.length<=96:=by
 obtain⟨E,G⟩:=QiY h;have e:(Y4 c bf v).made=((O5 c).filter λm=>!(JX c bf v m).2.2).map (ZY c):=by unfold Y4;rw[Qao G]
 rw[e,Lh];exact LH (MD _ _) (zt (ZZ E).sr)
theorem Qcp (h:qq c=0):(ZE c).1=0/\Zi c=0/\JF c [] 0=0:=by
 unfold qq at h;by_cases E:(ZE c).1≠0
 ·rw[OQ E]at h;exact OS h E
 rw[OP E]at h;by_cases G:Zi c≠0
 ·rw[OQ G]at h;exact OS h G
 rw[OP G]at h;exact⟨Ln.1 E,Ln.1 G,h⟩
theorem YR.new (h:qq c=0):YR 1 (Qe0 c):=by
 have E:=(Qcp h).2.2;have I:=jB E;exact⟨QiU (λp G=>(by cases G)) E,λu H=>(by cases H),rfl,Lo _,(by show(0:Int)<=((Y4 c [] 0).made.length:Int);omega),(by show((Y4 c [] 0).made.length:Int)<=_;omega)⟩
theorem QoH {s:Sys}{es:List (Bool×ZQ)}(h:yn s es=0):es.length≠0/\s.un.length≠64/\(VG s.c es).1=0/\JF (VG s.c es).2 s.ps ((s.un.length:Int)+1)=0:=by
 unfold yn at h;by_cases G:es.length=0
 ·rw[OQ G]at h;cases h
 rw[OP G]at h;by_cases H:s.un.length=64
 ·rw[OQ H]at h;cases h
 rw[OP H]at h;by_cases E:(VG s.c es).1≠0
 ·rw[OQ E]at h;exact OS h E
 rw[OP E]at h;exact⟨G,H,Ln.1 E,h⟩
theorem YR.edit {k:Nat}{s:Sys}{es:List (Bool×ZQ)}(E:YR k s)(h:yn s es=0):YR (k+1) (edS s es):=by
 obtain⟨J,O,S,H⟩:=QoH h;have T:=jB H;have hl:=E.l64;have I:=E.ln;have V:=E.m0;have a1:=E.m1;refine⟨QiU E.st.ok H,λu G=>?_,?_,?_,?_,?_⟩
 ·rcases Lc.1 G with G|G
  ·exact E.un u G
  rw[Lb.1 G];exact E.st
 ·show(s.rs++[_]).length=(s.un++[_]).length;simp[I]
 ·show(s.un++[_]).length<=64;simp;omega
 ·show(0:Int)<=s.made+((Y4 _ _ _).made.length:Int);omega
 show s.made+((Y4 _ _ _).made.length:Int)<=_;omega
theorem YR.undo {k:Nat}{s:Sys}(E:YR k s)(h:s.un≠[]):YR k (unS s):=by
 have e:s.un.getLastD (s.c,s.ps)=s.un.getLast h:=by
  conv=>lhs;rw[<-List.dropLast_concat_getLast h]
  exact List.getLastD_concat
 refine⟨?_,λu G=>E.un u (List.dropLast_subset _ G),?_,?_,E.m0,E.m1⟩
 ·show yy (s.un.getLastD (s.c,s.ps)).1 (s.un.getLastD (s.c,s.ps)).2;rw[e];exact E.un _ (List.getLast_mem h)
 ·show s.rs.dropLast.length=s.un.dropLast.length;rw[List.length_dropLast,List.length_dropLast,E.ln]
 show s.un.dropLast.length<=64;rw[List.length_dropLast];have:=E.l64;omega
theorem YR.len {k:Nat}{s:Kr}(h:YR k s.sys):s.rs.length=s.us.length/\s.us.length<=64/\s.s.ps.length<=1000:=by
 have e1:s.sys.rs.length=s.rs.length:=Lh _;have e2:s.sys.un.length=s.us.length:=Lh _;have G:s.sys.ps.length=s.s.ps.length:=Lh _;have E:=OR oO h.st.ky;rw[Lh,Lh]at E;have:=zt (ZZ h.st.ck).sr;exact⟨by rw[<-e1,<-e2];exact h.ln,by rw[<-e2];exact h.l64,oa⟩
theorem QeI {k:Nat}{L2:LN}{s:Kr}{xs:List YV}(h:Vu L w s)(G:YR k s.sys)(ha:k<=1000)(I:∀b∈L,b<w.heap.size)(hx:Qas L2 w.heap vl xs)(J:∀e∈xs.map YV.e,jE e.2)(O:Kb w 4096):
  Q3 prog 13 [pS s.b,vl] w λr w'=>∃qr:qe,r=.tuple #[.agg (Zr qr).toArray,oE oF (yn s.sys (xs.map YV.e))]/\(∀N:LN,(∀b∈N,b<w.heap.size)->Kw N w'.heap qr)/\(yn s.sys (xs.map YV.e)≠0->O1 [] w w'/\qr.rp=⟨[],[],[]⟩) /\
   (yn s.sys (xs.map YV.e)=0->qr.rp=Y4 (VG s.sys.c (xs.map YV.e)).2 s.sys.ps ((s.sys.un.length:Int)+1)/\∃E:Kr,E.b=s.b/\E.sys=edS s.sys (xs.map YV.e)/\YR (k+1) E.sys/\O1 s.own w w'/\Vu (E.own++L) w' E/\(∀b∈E.own,b∈s.own\/w.heap.size<=b)/\Kw E.own w'.heap qr):=by
 have hl:=G.len;have m0:0<=s.made:=G.m0;have m1:s.made<=(k:Int)*1000:=G.m1;refine(QlO h I hx J G.st hl.2.2 ⟨m0,oa⟩ oa hl.2.1 O).mono ?_;rintro r w' ⟨qr,e1,e2,S,T⟩;refine⟨qr,e1,e2,S,λH=>?_⟩;obtain⟨V,E,f2,f3,Y,f5,f6⟩:=T H;have e5:s.sys.un.length=s.us.length:=Lh _;exact⟨by rw[V,e5];rfl,E,f2,f3,by rw[f3];exact G.edit H,Y,f5,f6⟩
theorem q7 {k:Nat}{L2:LN}{s:Kr}{xs:List YV}(h:Vu L w s)(G:YR k s.sys)(H:k<=1000)(I:∀b∈L,b<w.heap.size)(hx:Qas L2 w.heap vl xs)(J:∀e∈xs.map YV.e,jE e.2)(O:Kb w 4096):
  Q3 prog 13 [pS s.b,vl] w λr w'=>∃qr:qe,r=.tuple #[.agg (Zr qr).toArray,oE oF (yn s.sys (xs.map YV.e))]/\(∀N:LN,(∀b∈N,b<w.heap.size)->Kw N w'.heap qr)/\(yn s.sys (xs.map YV.e)≠0->O1 [] w w'/\qr.rp=⟨[],[],[]⟩) /\
   (yn s.sys (xs.map YV.e)=0->qr.rp=Y4 (VG s.sys.c (xs.map YV.e)).2 s.sys.ps ((s.sys.un.length:Int)+1)/\∃E:Kr,E.b=s.b/\E.sys=edS s.sys (xs.map YV.e)/\YR (k+1) E.sys/\O1 s.own w w'/\Vu (E.own++L) w' E/\∀b∈E.own,b∈s.own\/w.heap.size<=b):=
 (QeI h G H I hx J O).mono λ_ _ ⟨qr,e1,e2,S,T⟩=>⟨qr,e1,e2,S,λV=>let⟨Y,E,f2,f3,f4,f5,f6,f7,_⟩:=T V;⟨Y,E,f2,f3,f4,f5,f6,f7⟩⟩
theorem QaR {k:Nat}{s:Kr}(h:Vu L w s)(H:YR k s.sys):
  Q3 prog 18 [pS s.b] w λr w'=>(s.sys.un=[]->r=oE oF 12/\O1 [] w w') /\
   (s.sys.un≠[]->r=oE oF 0/\∃E:Kr,E.b=s.b/\E.sys=unS s.sys/\YR k E.sys/\O1 s.own w w'/\Vu L w' E/\∀b∈E.own,b∈s.own):=by
 have hl:=H.len;refine(QlI h hl.1 hl.2.1).mono ?_;rintro r w' ⟨e1,e2⟩;refine⟨λG=>e1 (List.map_eq_nil_iff.1 G),λG=>?_⟩;obtain⟨I,E,f2,f3,J,O,S⟩:=e2 λe=>G (by show s.us.map _=[];rw[e];rfl);exact⟨I,E,f2,f3,by rw[f3];exact H.undo G,J,O,S⟩
theorem Qj0 {c:CL}(G:ZJ L w.heap c)(H:CSz c.V)(I:Kb w 4096)(hE:qq c.V=0):
  Q3 prog 11 [c.val] w λr w'=>O1 [] w w'/\∃s:Kr,r=.tuple #[pS s.b,oE oF 0]/\s.sys=Qe0 c.V/\YR 1 s.sys/\(∀b∈s.own,w.heap.size<=b)/\Vu (s.own++oW w.heap.size) w' s:=by
 refine(Qjc G H I).mono ?_;rintro r w' ⟨J,vp,e1,_,O⟩;obtain⟨s,S,E,T,V⟩:=O hE;exact⟨J,s,by rw[e1,S,hE],E,by rw[E];exact YR.new hE,T,V⟩
theorem QdH (k:Ky):(KR k).length=2:=rfl
theorem U5 {v:OY}{l:List Ky}(h:Kys L w.heap v l)(J:Kys L' w.heap v' l):
  Q3 prog 54 [v,v'] w λr w'=>r=.bool true/\O1 [] w w':=by
 have hb:=h.le;refine Zq func54 ?_;refine Qc<|Qb<|Qd<|Qm<|QI h U<|Qa<|QI J U<|ZB U U<|xe<|QX rfl (λO=>OS U O) (λO=>?_);refine Qh<|Qd<|Qc<|Qb<|Qg<|QD (α:=Nat) [(4,5),(11,25)] (λk=>[(5,oE oF k)]) (λk w'=>O1 [] w w'/\k<=l.length) (λk=>l.length - k) ol 0 La ⟨O1.Z _ _,Lo _⟩ ?_;rintro k g H ⟨G,hk⟩;have S:Kys L H.heap v l:=h.I G;have V:Kys L' H.heap v' l:=J.I G;refine Qd<|Qm<|Qa<|QI S U<|Q0 U U<|xe<|QH rfl (λT=>?_) (λT=>?_)
 ·refine Qz<|Qc<|Qb<|Qk ⟨[.bool true],La,U,G⟩
 have E:k<l.length:=by have he:(k:Int)<(l.length:Int):=T;omega
 refine Qh<|Qd<|Qg<|Qd<|ZI [] (Xx 0 9 [])<|p QF<|p QF<|Lg.pig (g:=KR) (i:=k) U QdH S U U E λhf Y=>pq (λ_ I=>Qx (Y.I I) U U) <|
  p QF<|p QF<|Lg.pig (g:=KR) (i:=k) U QdH V U U E λhg ha=>pq (λ_ I=>Qx (ha.I I) U U)<|p (λ_=>V3 (xs:=KR (l[k]'E)) (ys:=KR (l[k]'E)) U U U)<|pe ?_
 refine ZS (show Go.Lg.ev _ _=_ from OR (λb=>Value.bool (!b)) ((QmM (l[k]'E) (l[k]'E)).D (OT U))) ?_;refine Qh<|Qw<|Qa<|QS U U<|Qb<|⟨k+1,oa,La,G.D (O1.C [] H),oa⟩
open Go.RowKit
def qy (P:O0)(all:xx)(K:LN->Fr->OX->Prop):xo->xt->LN->Fr->OX->Prop
 | [],_,own,f,w=>K own f w
 | (j,true)::l,C,own,f,w=>Ya all f (QV all j)=true/\∃v,(∀w',(UH (QV all j)=true->C w')->(execOp (ev f) (QV all j)).run P w'=.ok (.value v) w')/\qy P all K l C own (QT f (QV all j).dst v) w
 | (j,false)::l,C,own,f,w=>Ya all f (QV all j)=true/\∀w1,O1 [] w w1->C w1->XO P (QV all j) f w1 λE w'=>∃C':xt,(∀x,C' x->C x)/\(∀x x',C' x->O1 [] x x'->C' x')/\C' w'/\∃own',O1 own w1 w'/\(∀b∈own',b∈own\/(w1.heap.size<=b/\b<w'.heap.size))/\qy P all K l C' own' E w'
section
variable {all:xx}{C C0:xt}{KF:LN->Fr->OX->Prop}
theorem qy.I (hK:∀own f w w',KF own f w->O1 [] w w'->KF own f w'):∀{l:xo}{C:xt}{own:LN}{f:Fr}{w w':OX},qy P all KF l C own f w->O1 [] w w'->qy P all KF l C own f w'
 | [],_,_,_,_,_,h,E=>hK _ _ _ _ h E
 | (_,true)::_,_,_,_,_,_,h,E=>by
  obtain⟨G,v,H,hx⟩:=h;exact⟨G,v,H,qy.I hK hx E⟩
 | (_,false)::_,_,_,_,_,_,h,E=>⟨h.1,λI J O=>h.2 I (E.D J) O⟩
attribute [local semireducible] XA XO in
theorem XA.sub {C':xt}(G:∀x,C' x->C x):∀(k:Nat) (ls:Array Bool) (f:Fr) (w:OX),XA P all C' K k ls f w->XA P all C K k ls f w
 | 0,_,_,_,h=>h
 | k+1,ls,f,w,h=>by
  refine⟨h.1,λi hi o I=>?_⟩;have E:=h.2 i hi o I;cases H:Ya all f o with
  | false=>rw[H]at E;exact XA.sub G k _ _ _ E
  | true =>
   rw[H]at E;exact XO.mono (λJ w' hx=>⟨hx.1.imp id (Or.imp id (G w')),XA.sub G k _ _ _ hx.2⟩) E
structure Fl3 (P:O0)(all:xx)(C0:xt)(K:xr)(KF:LN->Fr->OX->Prop)(i d:Nat)(rest:xo)(Φ:OY->OX->Prop)(Dc:xp)(f1:Fr):Prop where
 stab:∀v (own:LN) w w',Φ v w->O1 own w w'->(∀b∈ow v,b∉own)->Φ v w'
 spec:∀f w,(∀t,Xa Dc t=false->f t=f1 t)->C0 w->XO P (QV all i) f w λf' w'=>O1 [] w w'/\Φ (f' d) w'/\∀b∈ow (f' d),w.heap.size<=b/\b<w'.heap.size
 fin:∀own f w,KF own f w->∀v (C:xt),C w->(∀x,C x->C0 x)->Φ v w->(∀b∈ow v,b∉own/\b<w.heap.size)->XP P all C K rest (QT f (some d) v) w
 mono:∀own f w w',KF own f w->O1 [] w w'->KF own f w'
theorem yW:∀(l:xx) (j:Nat),l[j]?=none->QV l j=default
 | [],_,_=>rfl
 | _::l,0,h=>by simp at h
 | _::l,j+1,h=>yW l j (oy h)
theorem Qa5 (G:Region.noSelect all.toArray=true)(j:Nat):∀cs b,(QV all j).op≠.select cs b:=by
 intro cs b;cases E:all[j]? with
 | none=>rw[yW all j E];intro e;cases e
 | some o=>rw[Zj E];exact Region.noSelect_spec G j o cs b (oy E)
theorem QcY {i d:Nat}{rest:xo}{Φ:OY->OX->Prop}{Dc:xp}{f1:Fr}(hF:Fl3 P all C0 K KF i d rest Φ Dc f1)(J:Region.noSelect all.toArray=true){v:OY}:∀(l:xo) (C:xt) (own:LN) (ls:Array Bool) (f:Fr) (w:OX),(∀x,C x->C0 x)->(∀x x',C x->O1 [] x x'->C x')->ls.size=all.length->ZP all d l=true->qy P all KF l C own f w->C w->Φ v w ->
  (∀b∈ow v,b∉own/\b<w.heap.size)->Y6 all.toArray (l++rest) ls=true->XA P all C K (l++rest).length ls (QT f (some d) v) w
 | [],C,own,ls,f,w,O,hh,S,_,h,H,T,E,I=>ZN J rest ls _ w S (.inl H) I (hF.fin own f w h v C H O T E)
 | (j,true)::l,C,own,ls,f,w,O,hh,S,hfr,h,H,T,E,I=>by
  simp only[ZP,oR,oJ,Ob,List.contains_eq_mem,decide_eq_false_iff_not,beq_eq_false_iff_ne,ne_eq]at hfr;obtain⟨⟨h1,h2⟩,hfr⟩:=hfr;have hi:ZP all d l=true:=by simpa[ZP]using hfr
  have hd:∀e,some d=some e->e∉(QV all j).looksAt all.toArray:=λe V=>by cases V;exact h1
  simp only[o8,Y6,oJ]at I;obtain⟨⟨Y,hf⟩,hl⟩:=I;have hw:j∈Region.ready .any all.toArray ls:=by simpa using Y
  obtain⟨hg,u,hu,hx⟩:=h;cases G:all[j]? with
  | none =>
   exfalso;obtain⟨_,o,h6,_⟩:=mem_ready.1 hw;simp[G]at h6
  | some o =>
   have h7:∀(j:Nat) (o:Oper) cs b,all[j]?=some o->o.op≠.select cs b:=λj o cs b hj=>Region.noSelect_spec J j o cs b (oy hj);have h8:=λk ok hk=>Region.free_spec (ops:=all.toArray) (md:=.any) (i:=j) (oi:=o) (listed:=ls) (oy G) hf k ok (oy hk);have hn:Ya all (QT f (some d) v) o=true:=by
    have:=X0 (QV all j) f (some d) v hd;rw[Zj G]at this hg;rw[this];exact hg
   have h9:∀w',(UH o=true->C w')->(execOp (ev (QT f (some d) v)) o).run P w'=.ok (.value u) w':=λw' hc=>by
    have:=Xm (all:=all) (Qa5 J j) f (some d) v hd;rw[Zj G]at this hu;rw[this];exact hu w' hc
   have hy:=QcY hF J l C own (ls.setIfInBounds j true) _ w O hh (oy S) hi hx H T E hl;rw[<-J3 f v u (λe V=>by cases V;exact h2),Zj G]at hy;exact Xb (v:=u) (D:=λw=>UH o=true->C w) G (λ_ h=>h) h7 _ ls _ w (λ_=>H) h8 hw (.inl ⟨hn,h9⟩) hy
 | (j,false)::l,C,own,ls,f,w,O,hh,S,hfr,h,H,T,E,I=>by
  simp only[ZP,oR,oJ,Ob,List.contains_eq_mem,decide_eq_false_iff_not,beq_eq_false_iff_ne,ne_eq]at hfr;obtain⟨⟨h1,h2⟩,hfr⟩:=hfr;have hi:ZP all d l=true:=by simpa[ZP]using hfr
  have hd:∀e,some d=some e->e∉(QV all j).looksAt all.toArray:=λe V=>by cases V;exact h1
  simp only[o8,Y6,oJ,beq_iff_eq]at I;obtain⟨Y,hl⟩:=I;show XA P all C K ((l++rest).length+1) ls _ w;refine XC (λh0=>(by rw[h0]at Y;cases Y)) ?_;rw[Y];intro k hk o G;have hA:k=j:=by simpa using hk
  subst hA;have hq:=Zj G;have hn:Ya all (QT f (some d) v) o=true:=by
   have:=X0 (QV all k) f (some d) v hd;rw[hq]at this;rw[this,<-hq];exact h.1
  rw[hn,cond_true];have h3:=h.2 w (O1.Z _ _) H;have h4:XO P (QV all k) (QT f (some d) v) w λf' w'=>(Vr all k=true\/w'=w\/C w')/\XA P all C K (l++rest).length (ls.setIfInBounds k true) f' w':=by
   refine Qap (all:=all) (Qa5 J k) h1 h2 (λu w' hx=>?_) h3;obtain⟨C',ht,hB,hz,own',h5,hD,hx⟩:=hx;refine⟨.inr (.inr (ht _ hz)),XA.sub ht _ _ _ _ (QcY hF J l C' own' _ _ w' (λx hx=>O x (ht x hx)) hB (oy S) hi hx hz (hF.stab v own w w' T h5 (λb ha=>(E b ha).1)) (λb ha=>⟨λhm=>?_,LT (E b ha).2 h5.size⟩) hl)⟩;rcases hD b hm with h3|h3
   ·exact(E b ha).1 h3
   exact Nf _ (LT (E b ha).2 h3.1)
  rw[hq]at h4;exact h4
theorem QcW {i d:Nat}{rest:xo}{Φ:OY->OX->Prop}{Dc:xp}{f1:Fr}(O:Fl3 P all C0 K KF i d rest Φ Dc f1)(hs:Region.noSelect all.toArray=true)(hg:(QV all i).guard=none)(hd:(QV all i).dst=some d):∀(l:xo) (C:xt) (ls:Array Bool) (own:LN) (f:Fr) (w:OX),(∀x,C x->C0 x)->(∀x x',C x->O1 [] x x'->C x')->ls.size=all.length->ZP all d l=true->Z1 all Dc l=true->(∀t,Xa Dc t=false->f t=f1 t) ->
  qy P all KF l C own f w->C w->(∀b∈own,b<w.heap.size)->VF all.toArray i rest l ls=true->XA P all C K (l.length+1+rest.length) ls f w
 | [],C,ls,own,f,w,S,ha,he,hfr,T,hk1,h,G,hc,E=>by
  simp only[VF,oJ,beq_iff_eq]at E;obtain⟨Y,E⟩:=E;rw[show([]:xo).length+1+rest.length=rest.length+1 by simp;omega];refine XC (λh0=>(by rw[h0]at Y;cases Y)) ?_;rw[Y];intro k hk o H;have hi:k=i:=by simpa using hk
  subst hi;have hh:=Zj H;have hx:=O.spec f w hk1 (S _ G);rw[hh]at hg hd hx;rw[Ju hg,cond_true];refine hx.mono λv w' hx=>?_;rw[hd]at hx ⊢;obtain⟨V,I,h4⟩:=hx;simp only[QT,YJ]at I h4;have J:=ha _ _ G V;refine⟨.inr (.inr J),ZN hs rest _ _ _ (oy he) (.inl J) E (O.fin own f w' (O.mono own f w w' h V) v C J S I (λb hb=>⟨λhm=>Nf _ (LT (hc b hm) (h4 b hb).1),(h4 b hb).2⟩))⟩
 | (j,true)::l,C,ls,own,f,w,S,ha,he,hfr,T,hk1,h,G,hc,E=>by
  simp only[VF,oJ]at E;obtain⟨⟨Y,hf⟩,hl⟩:=E;have hu:j∈Region.ready .any all.toArray ls:=by simpa using Y
  have e:(oO ((j,true)::l))+1+rest.length=(l.length+1+rest.length)+1:=by simp;omega
  rw[e];have hn:ZP all d l=true:=by simp only[ZP,oR,oJ]at hfr;exact hfr.2
  simp only[Z1,oR,oJ]at T;have hq:Z1 all Dc l=true:=T.2;cases H:all[j]? with
  | none =>
   exfalso;obtain⟨_,o,h6,_⟩:=mem_ready.1 hu;simp[H]at h6
  | some o =>
   obtain⟨hw,v,hv,hx⟩:=h;rw[Zj H]at hw hv hx;have h7:∀(j:Nat) (o:Oper) cs b,all[j]?=some o->o.op≠.select cs b:=λj o cs b hj=>Region.noSelect_spec hs j o cs b (oy hj);have h8:=λk ok hk=>Region.free_spec (ops:=all.toArray) (md:=.any) (i:=j) (oi:=o) (listed:=ls) (oy H) hf k ok (oy hk);exact Xb (v:=v) (D:=λw=>UH o=true->C w) H (λ_ h=>h) h7 _ ls f w (λ_=>G) h8 hu (.inl ⟨hw,hv⟩) (QcW O hs hg hd l C _ own _ w S ha (oy he) hn hq (by have:=Js (v:=v) T.1 hk1;rw[Zj H]at this;exact this) hx G hc hl)
 | (j,false)::l,C,ls,own,f,w,S,ha,he,hfr,T,hk1,h,G,hc,E=>by
  simp only[VF,oJ,Og,Bool.or_eq_true,beq_iff_eq,Ob]at E;obtain⟨⟨⟨hy,Y⟩,h9⟩,hl⟩:=E;have e:(oO ((j,false)::l))+1+rest.length=(l.length+1+rest.length)+1:=by simp;omega
  rw[e];have hn:ZP all d l=true:=by simp only[ZP,oR,oJ]at hfr;exact hfr.2
  simp only[Z1,oR,oJ]at T;have hq:Z1 all Dc l=true:=T.2;refine XC (λh0=>(by rw[h0]at hy;cases hy)) ?_;intro k hk o H;have hh:=Zj H;have hz:(ls.setIfInBounds k true).size=all.length:=by simpa using he
  by_cases hi:k=i
  ·subst hi;have hx:=O.spec f w hk1 (S _ G);rw[hh]at hg hd hx;rw[Ju hg,cond_true];refine hx.mono λv w' hx=>?_;rw[hd]at hx ⊢;obtain⟨V,I,h4⟩:=hx;simp only[QT,YJ]at I h4;have J:=ha _ _ G V;refine⟨.inr (.inr J),?_⟩;have hx:=QcY O hs ((j,false)::l) C own (ls.setIfInBounds k true) f w' S ha hz hfr (qy.I O.mono h V) J I (λb hb=>⟨λhm=>Nf _ (LT (hc b hm) (h4 b hb).1),(h4 b hb).2⟩) h9;rw[show((j,false)::l++rest).length=l.length+1+rest.length by simp;omega]at hx;exact hx
  have hA:k=j:=(Y k hk).resolve_right hi;subst hA;have V:=h.1;have J:=h.2 w (O1.Z _ _) G;rw[hh]at V J;rw[V,cond_true];refine J.mono λv w' hx=>?_;obtain⟨C',ht,hB,h5,own',hD,hE,hx⟩:=hx;refine⟨.inr (.inr (ht _ h5)),XA.sub ht _ _ _ _ (QcW O hs hg hd l C' _ own' _ w' (λx hx=>S x (ht x hx)) hB hz hn hq (by have:=Js (v:=v) T.1 hk1;rw[hh]at this;exact this) hx h5 (λb hb=>?_) hl)⟩;rcases hE b hb with I|I
  ·exact LT (hc b I) hD.size
  exact I.2
theorem qy.keeps {D:xp}{G:Fr}:∀(l:xo) (C:xt) (own:LN) (f:Fr) (w:OX),Z1 all D l=true->(∀t,Xa D t=false->f t=G t)->qy P all KF l C own f w->qy P all (λo H w'=>(∀t,Xa D t=false->H t=G t)/\KF o H w') l C own f w
 | [],C,own,f,w,_,E,h=>⟨E,h⟩
 | (j,true)::l,C,own,f,w,hd,E,h=>by
  simp only[Z1,oR,oJ]at hd;obtain⟨I,v,J,hx⟩:=h;exact⟨I,v,J,qy.keeps l C own _ _ hd.2 (Js hd.1 E) hx⟩
 | (j,false)::l,C,own,f,w,hd,E,h=>by
  simp only[Z1,oR,oJ]at hd;refine⟨h.1,λO S T=>XO.mono (λv w' hx=>?_) (h.2 O S T)⟩;obtain⟨C',V,Y,ha,own',hb,he,hx⟩:=hx;exact⟨C',V,Y,ha,own',hb,he,qy.keeps l C' own' _ _ hd.2 (Js hd.1 E) hx⟩
theorem f3q {l:xo}{own:LN}{v:OY}(E:∀w',C w'->(execOp (ev f) (QV all j)).run P w'=.ok (.value v) w')(h:qy P all KF l C own (QT f (QV all j).dst v) w)
  (hd:UH (QV all j)=true:=by rfl) (G:Ya all f (QV all j)=true:=by rfl):qy P all KF ((j,true)::l) C own f w:=⟨G,v,λw' H=>E w' (H hd),h⟩
theorem f3p {l:xo}{own:LN}{v:OY}(E:∀w',(execOp (ev f) (QV all j)).run P w'=.ok (.value v) w')(h:qy P all KF l C own (QT f (QV all j).dst v) w)
  (G:Ya all f (QV all j)=true:=by rfl):qy P all KF ((j,true)::l) C own f w:=⟨G,v,λw' _=>E w',h⟩
theorem f3k {l:xo}{own:LN}(h:∀w1,O1 [] w w1->C w1->XO P (QV all j) f w1 λE w'=>∃C':xt,(∀x,C' x->C x)/\(∀x x',C' x->O1 [] x x'->C' x')/\C' w'/\∃own',O1 own w1 w'/\(∀b∈own',b∈own\/(w1.heap.size<=b/\b<w'.heap.size))/\qy P all KF l C' own' E w')
  (G:Ya all f (QV all j)=true:=by rfl):qy P all KF ((j,false)::l) C own f w:=⟨G,h⟩
theorem f3e {own:LN}(h:KF own f w):qy P all KF [] C own f w:=h
theorem QfN {Q:Exit->Fr->OX->Prop}(C:xt)(pre l:xo)(i d:Nat)(rest:xo)(own:LN)(D Dc:xp)(S:α->List (Nat×OY))(I:α->LN->OX->Prop)(Φ:OY->OX->Prop)(hm:P.follows .mixedOrders=true)(hn:XI n all=true)
  (V:QcE all pre l i rest=true) (O:(Z1 all D pre && Z1 all D l && Z1 all Dc l)=true) (hd:(QV all i).dst=some d) (Y:C { w with drawn:=w.drawn+1 }) (ha:∀x x',C x->O1 [] x x'->C x') (hc:∀b∈own,b<w.heap.size)
  (stab:∀v (own:LN) w w',Φ v w->O1 own w w'->(∀b∈ow v,b∉own)->Φ v w') (mono:∀z own w w',I z own w->O1 [] w w'->I z own w')
  (fin:∀z g own w v (C':xt),I z own w->C' w->(∀x,C' x->C x)->Φ v w->(∀b∈ow v,b∉own/\b<w.heap.size)->XP P all C' (λf w=>Q .normal f w) rest (QT (qh (S z) (mix D f g)) (some d) v) w)
  (h:XP P all C (λG _=>(∀g w,C w->XO P (QV all i) (mix Dc G g) w λE w'=>O1 [] w w'/\Φ (E d) w'/\∀b∈ow (E d),w.heap.size<=b/\b<w'.heap.size)/\qy P all (λo E w'=>∃z,Xn E (S z)/\I z o w') l C own G { w with drawn:=w.drawn+1 }) pre f { w with drawn:=w.drawn+1 }):W P n (.region id all.toArray true) Q f w:=by
 rw[Lu,Lu]at O;simp only[QcE,oJ,beq_iff_eq,Option.isNone_iff_eq_none]at V;obtain⟨⟨⟨⟨⟨H,hl⟩,hq⟩,he⟩,hg⟩,hfr⟩:=V;rw[hd]at hfr;refine JB C hm hn ?_;have h1:=YD (K:=λf w=>Q .normal f w) (m:=l.length+1+rest.length) H pre (oV all.length false) f _ Y hq
  (B:=λG _=>Fl3 P all C (λf w=>Q .normal f w) (λo E w'=>(∀t,Xa D t=false->E t=f t)/\∃z,Xn E (S z)/\I z o w') i d rest Φ Dc G/\qy P all (λo E w'=>(∀t,Xa D t=false->E t=f t)/\∃z,Xn E (S z)/\I z o w') l C own G { w with drawn:=w.drawn+1 })
  (λG hB=>QcW hB.1 H hg hd l C (Z6 pre (oV all.length false)) own G _ (λ_ h=>h) ha (by rw[YF];simp) hfr O.2 (λ_ _=>rfl) hB.2 Y hc he)
  (XP.keeps_mono _ _ _ (XP.keeps pre f _ O.1.1 (λ_ _=>U) h) (λG w1 hx=>⟨⟨stab,?_,?_,?_⟩,qy.keeps l C own _ _ O.1.2 hx.1 hx.2.2⟩))
 ·rw[hl]at h1;exact h1
 ·intro E w' J T;have:=hx.2.1 E w' T;rw[X5 J]at this;exact this
 ·rintro o E w' ⟨J,z,H,hi⟩ v C' T hf hv hb;have:=fin z E o w' v C' hi T hf hv hb;rw[X5 J,Y0 H]at this;exact this
 rintro o E w' hj ⟨J,z,H,hi⟩ hh;exact⟨J,z,H,mono z o _ _ hi hh⟩
end
attribute [irreducible] qy
theorem Xz (w:OX):Q3 prog 25 [] w λr w'=>O1 [] w w'/\QfV w.heap.size w'.heap r Qaa:=by
 refine Zq func25 ?_;refine Qc<|Qe<|Qo (us:=Z3) U λG w1 h0 hR ho=>xe ?_;refine Qc<|QM<|(Xo 3 og w1).mono ?_;rintro r2 w2 ⟨he,c1,rfl,h1,hf⟩;refine Qe<|Qo (us:=Z3) U λb1 w3 h3 hp h4=>Qe<|Qj (us:=c1.cells) h4 U U U U (hf [] oe).ones λY h5 hr=>xe ?_;have hg:O1 [] w2 Y:=h3.O h5 hp;have hS:=he.size;have h6:=ho.lt;have h7:=hr.lt;refine Qc<|Qe<|QB (us:=[[oE oF 1],[oE oF 2]]) U U og oe ⟨rfl,rfl,rfl,rfl,Z⟩ λO w5 hs hT h8=>Qe<|QB (us:=[[oE oF 0],[oE oF 1]]) rfl rfl og oe ⟨rfl,rfl,rfl,rfl,Z⟩ λS w6 hh hU hA =>
  x (Qy ⟨rfl,U,U,Z⟩)<|x (Qy ⟨U,U,U,Z⟩)<|Qe<|QB (us:=[QC (0,1,1),QC (1,2,0)]) U U og (by exact(by decide:2*3<=1000000)) oB λT w7 ha hV hB=>?_
 have hC:=(hs.D hh).D ha;refine x (Qy ⟨U,U,U,U,Z⟩)<|x (Zc [(0,[.string YX]),(1,[.slice (some ⟨O,0,none⟩) 2 2,oE oF 2,.slice (some ⟨S,0,none⟩) 2 2,.slice (some ⟨T,0,none⟩) 2 2])] ⟨U,U,U,U,Z⟩) <|
  Qe<|QB (us:=[[.string YX,.slice (some ⟨O,0,none⟩) 2 2,oE oF 2,.slice (some ⟨S,0,none⟩) 2 2,.slice (some ⟨T,0,none⟩) 2 2]]) U U og (by exact(by decide:1*5<=1000000)) oz λI w8 V hW hD=>?_
 have ht:=hC.D V;refine Q7 rfl<|Qe<|QE (j:=2) (u:=.slice (some ⟨I,0,none⟩) 1 1) (hr.I ht) U U oe rfl λw9 hi hE=>xe ?_;refine Qc<|x (Qy ⟨U,U,Z⟩)<|x (Qy ⟨U,U,Z⟩)<|Qe<|QB (us:=[QN (1,1),QN (2,1)]) U U og (by exact(by decide:2*2<=1000000)) oB λhc hY hu hZ hF=>x (Qy ⟨U,U,Z⟩) <|
  Qe<|QB (us:=[[.string YY,.slice (some ⟨hc,0,none⟩) 2 2]]) U U og (by exact(by decide:1*2<=1000000)) oz λJ hG hv ga hH=>?_
 have hj:=hu.D hv;refine Q7 rfl<|Qe<|QE (j:=3) (u:=.slice (some ⟨J,0,none⟩) 1 1) (hE.I hj) U U oe rfl λhw hk hJ=>xe ?_;have gb:=hs.size;have gc:=hh.size;have gg:=ha.size;have gh:=V.size;have gi:=hi.size;have gj:=hu.size;have hl:O1 [b1] Y hw:=((ht.any.Q hi).D hj.any).Q hk;have hK:G∉[b1]:=om
 have hM:=((ho.I he).I hg).J hl hK;have hN:Zp [c1.ve,c1.vc,.slice (some ⟨I,0,none⟩) 1 1,.slice (some ⟨J,0,none⟩) 1 1,c1.vk]:=by
  have h9:=(hf [] oe).ones;exact⟨h9.1,h9.2.1,U,U,h9.2.2.2.2.1,Z⟩
 refine Qc<|Q6 hJ U U<|Qe<|Qj (us:=[c1.ve,c1.vc,.slice (some ⟨I,0,none⟩) 1 1,.slice (some ⟨J,0,none⟩) 1 1,c1.vk]) hM U U U U hN λgk hy hO=>xe ?_;have H:=CL.cel_ex (CL.cel_rq h1 (.slice (some ⟨I,0,none⟩) 1 1) [⟨YX,⟨.slice (some ⟨O,0,none⟩) 2 2,.slice (some ⟨S,0,none⟩) 2 2,.slice (some ⟨T,0,none⟩) 2 2,Ud.a⟩⟩]) (.slice (some ⟨J,0,none⟩) 1 1) [⟨YY,.slice (some ⟨hc,0,none⟩) 2 2,[(1,1),(2,1)]⟩];refine Qk ⟨[.agg #[c1.ve,c1.vc,.slice (some ⟨I,0,none⟩) 1 1,.slice (some ⟨J,0,none⟩) 1 1,c1.vk]],⟨⟨_,U,Qn U (hO.at (L:=[]) oe).cells⟩,Z⟩,(((h0.D he).D hg).O hl oa).O hy oa,_,rfl,H,λL hL=>?_⟩;have hz:∀b∈G::L,b<w1.heap.size:=λb E=>by
  rcases Li.1 E with rfl|E
  ·exact h6
  have:=hL b E;omega
 have hP:∀b∈b1::G::L,b<Y.heap.size:=λb E=>by
  rcases Li.1 E with rfl|E
  ·exact h7
  have:=hz b E;omega
 have h2:=(hf (G::L) hz).up (L':=b1::G::L) (λb E=>by
  rcases Li.1 E with rfl|E
  ·exact .inr hp
  exact .inl E)
 have hn:=(h2.I hg).st (hl.mono oe);have nB:∀b,Y.heap.size<=b->b∉b1::G::L:=λb E hm=>ot (hP b hm)
 have hI:XH (b1::G::L) w8.heap (.slice (some ⟨I,0,none⟩) 1 1) [⟨YX,⟨.slice (some ⟨O,0,none⟩) 2 2,.slice (some ⟨S,0,none⟩) 2 2,.slice (some ⟨T,0,none⟩) 2 2,Ud.a⟩⟩]:=by
  refine⟨hD.arr (nB _ oa) (n:=1) (cap:=1) (sz:=5) U og (Lv _),λq H=>?_,λq H=>?_⟩
  ·rw[Lb.1 H];exact⟨(((h8.I hh).I ha).I V).arr (nB _ oa) (n:=2) (cap:=2) (sz:=1) U og (Lv _),((hA.I ha).I V).arr (nB _ oa) (n:=2) (cap:=2) (sz:=1) U og (Lv _),(hB.I V).arr (nB _ oa) (n:=2) (cap:=2) (sz:=3) U og (Lv _)⟩
  rw[Lb.1 H];exact Jl og
 have hX:yp (b1::G::L) hG.heap (.slice (some ⟨J,0,none⟩) 1 1) [⟨YY,.slice (some ⟨hc,0,none⟩) 2 2,[(1,1),(2,1)]⟩]:=by
  refine⟨hH.arr (nB _ oa) (n:=1) (cap:=1) (sz:=2) U og (Lv _),λq H=>?_,λq H=>?_⟩
  ·rw[Lb.1 H];exact(hF.I hv).arr (nB _ oa) (n:=2) (cap:=2) (sz:=2) U og (Lv _)
  rw[Lb.1 H];exact Jl og
 have hQ:ZJ (b1::G::L) hw.heap (CL.mk c1.ve c1.vc (.slice (some ⟨I,0,none⟩) 1 1) (.slice (some ⟨J,0,none⟩) 1 1) c1.vk c1.ev c1.co [⟨YX,⟨.slice (some ⟨O,0,none⟩) 2 2,.slice (some ⟨S,0,none⟩) 2 2,.slice (some ⟨T,0,none⟩) 2 2,Ud.a⟩⟩] [⟨YY,.slice (some ⟨hc,0,none⟩) 2 2,[(1,1),(2,1)]⟩] c1.cs):=
  ⟨hn.ev,hn.co,((hI.st (hi.mono oe)).I hj).st (hk.mono oe),hX.st (hk.mono oe),hn.cs⟩
 exact(hQ.st (hy.mono oe)).up (λb E=>.inl (Lj _ (Lj _ E)))
abbrev QpC:YU:=⟨.empty,KB⟩
theorem Qib (h:Zi c=0)(hd:(ZE c).1=0){x:ZQ}(hx:x∈(ZE c).2):VG c [(false,x)]=(0,c):=by
 obtain⟨_,_,_,_,_,E⟩:=VI hd;have e1:edI c [(false,x)]=(0,(ZE c).2):=by
  unfold edI zV;rw[OP (not_not_intro hd),OP (not_not_intro E)];have e:zX (ZE c).2 (false,x)=(0,(ZE c).2):=Qfs E hx;rw[zW,e,OP oe,zW]
 unfold VG;rw[e1,OP oe,Qio h hd,OP oe,OP (not_not_intro h)]
theorem QiV {ps:List xF}(h:yy c ps)(v:Int):JF c ps v=0/\(Y4 c ps v).made=[]/\(Y4 c ps v).gone=[]:=by
 obtain⟨E,G,H⟩:=QiW h U (λ_=>U) h.ck h.mc v;refine⟨E,?_,H⟩;rw[G,MN.2]
 ·rfl
 intro m _;simp
def Jc (k:Nat):ByteArray:=(Qaa.co.getD k QpC).nm
def Uc:List (Bool×ZQ):=[(false,⟨3,YY,KB,[(Jc 1,0),(Jc 2,1)],[],0⟩)]
def Qht:List (Bool×ZQ):=[(true,⟨1,Jc 1,KB,[],[],0⟩)]
def J6:Sys:=Qe0 Qaa
def QdJ:Sys:=edS J6 Uc
theorem QkC:qq Qaa=0:=od
theorem QmT:yn J6 Uc=0:=od
theorem QmP:(Y4 (VG J6.c Uc).2 J6.ps 1).kept=[(1,YX)]:=od
theorem QmO:(Y4 (VG J6.c Uc).2 J6.ps 1).made=[(2,YY)]:=od
theorem QmQ:(Y4 (VG J6.c Uc).2 J6.ps 1).gone=[]:=od
theorem QmS:yn QdJ Qht=9:=od
theorem Qhs:QdJ.made=3:=od
theorem QgS {pS:String}{fs:Array Field}(ft o:Nat){x:OZ}{v:OY}(E:P.underlying t=some (.struct fs))(G:(fs[j]?).map (λd=>(d.type,d.offset))=some (ft,o))[h1:X7 P ft](hx:ev f x=.agg us.toArray)(H:us[o]?=some v):
  (execOp (ev f) ⟨d,.field t x j,ty,pS,af,gd⟩).run P w=.ok (.value v) w:=by
 obtain⟨fd,I,J⟩:=Mb.1 G;cases J
 simp[execOp,hx,Instr.field,run_underlying E,I,asAgg,part,jc (t:=fd.type),H]
theorem Qcw:Qaa.co.length=3:=od
theorem j3 {c:CL}(h:c.V=Qaa){k:Nat}(E:k<c.co.length):(c.co[k]'E).nm=Jc k:=by
 have e:c.co.map (·.it)=Qaa.co:=OR Zx.co h;unfold Jc;rw[<-e,List.getD_eq_getElem?_getD,List.getElem?_map,LU E];rfl
theorem Qhr:J0 (Jc 1):=OU (p:=(Jc 1).size<=9223372036854775807) od
theorem QmR:J0 (Jc 2):=OU (p:=(Jc 2).size<=9223372036854775807) od
abbrev Qob:List (ByteArray×Int):=[(Jc 1,0),(Jc 2,1)]
abbrev Qic (b:Nat):YV:=⟨false,⟨3,YY,⟨Zl,Zl,Zl,KB⟩,.slice (some ⟨b,0,none⟩) 2 2,Qob,Zl,[],0⟩⟩
abbrev Qh7:YV:=⟨true,⟨1,Jc 1,⟨Zl,Zl,Zl,KB⟩,Zl,[],Zl,[],0⟩⟩
abbrev Qn3:LV:=[.bool false,oE oF 0,.string .empty,nS,oE oF 0,nS,nS,nS,nS,oE oF 0]
instance:Bw prog 65 Qn3 [(0,1),(1,9)]:=⟨od,og⟩
theorem QlS :ZH L H Zl Zl Zl KB:=⟨Zm.nil _ _ _,Zm.nil _ _ _,Zm.nil _ _ _⟩
theorem Qnj {T1 T2:Nat}(G:Q9 H b1 T1 (Qob.flatMap ZF))(I:Q9 H b2 T2 (ZL (Qic b1)))(n1:J0 (Jc 1))(J:J0 (Jc 2)):Qas [] H (.slice (some ⟨b2,0,none⟩) 1 1) [Qic b1]:=by
 refine⟨I.arr oe (n:=1) (cap:=1) (sz:=10) rfl og (Lv _),λq O=>?_⟩;rw[Lb.1 O];refine⟨Jl og,QlS,⟨G.arr oe (n:=2) (cap:=2) (sz:=2) rfl og (Lv _),λp E=>?_⟩,Vh.nil⟩;rcases Li.1 E with rfl|E
 ·exact n1
 rw[Lb.1 E];exact J
theorem Qnk {T2:Nat}(E:Q9 H b2 T2 (ZL Qh7))(n1:J0 (Jc 1)):Qas [] H (.slice (some ⟨b2,0,none⟩) 1 1) [Qh7]:=by
 refine⟨E.arr oe (n:=1) (cap:=1) (sz:=10) rfl og (Lv _),λq G=>?_⟩;rw[Lb.1 G];exact⟨n1,QlS,Vh.nil,Vh.nil⟩
theorem yO {x:ZQ}(E:x.ls.length<=2)(G:x.ts.length<=2):jE x:=⟨oa,oa⟩
theorem UI {E:OX}{s:Kr}(G:O1 [] w E)(h:∀b∈s.own,w.heap.size<=b)(H:O1 s.own E w'):O1 [] w w':=G.then H λb I=>.inr (h b I)
theorem Qct (hr:Kb w 4096):
  Q3 prog 31 [] w λr w'=>r=.bool true/\O1 [] w w':=by
 refine Zq func31 ?_;refine Qc<|Qb<|Qc<|QM<|(Xz w).mono ?_;rintro _ w1 ⟨hi,c1,rfl,ht,gr⟩;have hN:=Qj0 (gr [] oe) (VP (by rw[ht];exact Qhu)) (hr.I hi) (by rw[ht];exact QkC);rw[ht]at hN;refine QM<|hN.mono ?_;rintro _ w2 ⟨gs,s,rfl,esys,gt,hE,hSy⟩;have hv:=hi.D gs;refine Qa<|QZ U U<|QZ U U<|x Ql<|Qb<|Qd<|Za (α:=Unit) [(14,19)] (λ_=>[(19,.bool false)]) (λ_ w'=>w'=w2) ol ?_ ?_
 ·refine Qw<|Qa<|xb (Xr U U) (λhF=>OS U hF) (λhF=>?_);refine Qa<|Qa<|x (Yp underlying46 U U)<|QG U<|xe ?_;exact⟨(),La,U⟩
 rintro⟨⟩ g3 H rfl;refine ZS rfl<|Qh ?_;have hj:O1 [] H { H with drawn:=H.drawn+1 }:=O1.C _ _
 have hk:=hSy.lt;refine Za (α:=Nat×qe×Kr) [(20,40),(3,4)] (λz=>[(3,pS z.1),(4,oE oF 0)]) (λz w'=>O1 s.own H w'/\z.2.2.b=s.b/\z.2.2.sys=QdJ/\YR 2 z.2.2.sys/\z.2.1.rp=Y4 (VG J6.c Uc).2 J6.ps 1/\(∀b∈z.2.2.own,b∈s.own\/H.heap.size<=b)/\z.1∉z.2.2.own/\Vu z.2.2.own w' z.2.2/\Kw [] w'.heap z.2.1/\∃T,Q9 w'.heap z.1 T (Zr z.2.1)) ol ?_ ?_
 ·refine QfN (α:=qe×Kr) (O1 s.own H) [oC 0] [oD 1,oC 2,oC 3,oC 4,oC 5,oC 6,oD 7,oC 8,oC 9,oC 10,oC 11,oC 12,oD 13,oC 14,oC 15,oD 16,oD 17,oC 18,oC 19,oC 20] 21 3 [oD 22,oC 23] s.own
   [(20,40)] [(20,20),(22,40)] (λz=>[(39,.agg (Zr z.1).toArray),(40,oE oF 0)])
   (λz own w'=>O1 s.own H w'/\z.2.b=s.b/\z.2.sys=QdJ/\YR 2 z.2.sys/\z.1.rp=Y4 (VG J6.c Uc).2 J6.ps 1/\(∀b∈z.2.own,b∈s.own\/H.heap.size<=b)/\∀J,H.heap.size<=J->J∉own->J∉z.2.own/\Vu (J::z.2.own) w' z.2/\Kw [J] w'.heap z.1)
   (λv w'=>∃b T,v=pS b/\H.heap.size<=b/\Q9 w'.heap b T Ym) mixed ol od ol U hj.any (λ_ _ h1 h2=>h1.D h2) hk ?_ ?_ ?_ ?_
  ·rintro v own wa wb ⟨b,T,rfl,E,hB⟩ G V;exact⟨b,T,U,E,hB.J G (V b oq)⟩
  ·rintro z own wa wb ⟨h1,h2,h3,h4,h5,h6,O⟩ G;exact⟨h1.D G,h2,h3,h4,h5,h6,λJ ha V=>⟨(O J ha V).1,(O J ha V).2.1.I G,(O J ha V).2.2.I G⟩⟩
  ·rintro⟨q,Y⟩ g own wz v C' ⟨h1,h2,h3,h4,h5,h6,O⟩ mt _ ⟨b,T,rfl,E,hB⟩ gu;simp only[]at h2 h3 h4 h5 h6 O;obtain⟨n1,n2,n3⟩:=O b E (gu b oq).1;refine pkl (hl:=by kernel_rfl)<|Qj (us:=Zr q) hB U U U U n3.ones λw8 hf hw=>p ZM<|pe ?_;exact⟨(b,q,Y),oz,h1.then hf (λc I=>by rw[Lb.1 I];exact .inr E),h2,h3,h4,h5,h6,n1,(n2.J hf (λc I=>.inl (by rw[Lb.1 I];exact Lq)) (λc I hm=>n1 (Lb.1 hm ▸ I))).up (λc I=>.inl (Lj _ I)) (λc I=>I),(n3.st (hf.mono λc I=>I)).up oe,T,hw⟩
  refine p QF<|pe ⟨λg wf gv=>Qo (us:=Ym) U λb mu gw hG hH=>⟨gw,⟨b,_,U,LH gv.size hG,hH⟩,λx hx=>?_⟩,?_⟩
  ·have gx:x=b:=by
    have gy:x∈[b]:=hx;simpa using gy
   subst gx;exact⟨hG,hH.lt⟩
  refine f3k λx1 p1 c1=>?_;refine xg<|(Xz x1).mono ?_;rintro _ y1 ⟨q1,e1,rfl,hI,gz⟩;have mv:e1.co.length=3:=by rw[<-Qcw,<-hI];exact(Lh _).symm
  have g0:=gz s.own (λb E=>LT (hk b E) (LH hj.size p1.size));refine⟨λx=>O1 s.own H x/\O1 s.own y1 x,λx hx=>hx.1,λx x' hx G=>⟨hx.1.D G,hx.2.D G⟩,⟨c1.D q1,O1.Z _ _⟩,s.own,q1.any,λb E=>.inl E,?_⟩;obtain⟨a1,mw,g2,hJ⟩:=Zm.at g0.co.arr (i:=1) oa;rw[XX QO 5 Ys e1.co 1 oa]at hJ;have g6:(e1.co[1]'oa).nm=Jc 1:=j3 hI oa;refine f3p (λ_=>QgS 40 1 underlying44 U U U)<|f3p (λ_=>Xd (show Go.Lg.ev _ _=_ from g2) U og oa)<|f3p (λ_=>Zt U) <|
   f3q (λ_ I=>QA ((hJ.st I.2).fld 0 (.string (Jc 1)) (OR (λn=>some (Value.string n)) g6)) U)<|f3p (λ_=>Qy oz) ?_
  refine f3k λx2 p2 c2=>?_;refine xg<|(Xz x2).mono ?_;rintro _ y2 ⟨q2,e2,rfl,hK,g7⟩;have my:e2.co.length=3:=by rw[<-Qcw,<-hK];exact(Lh _).symm
  have g8:=g7 s.own (λb E=>LT (hk b E) (LH hj.size (LH p1.size (LH q1.size p2.size))));refine⟨λx=>(O1 s.own H x/\O1 s.own y1 x)/\O1 s.own y2 x,λx hx=>hx.1,λx x' hx G=>⟨⟨hx.1.1.D G,hx.1.2.D G⟩,hx.2.D G⟩,⟨⟨c2.1.D q2,c2.2.D q2⟩,O1.Z _ _⟩,s.own,q2.any,λb E=>.inl E,?_⟩;obtain⟨a2,mz,g9,hL⟩:=Zm.at g8.co.arr (i:=2) oa;rw[XX QO 5 Ys e2.co 2 oa]at hL;have ka:(e2.co[2]'oa).nm=Jc 2:=j3 hK oa;refine f3p (λ_=>QgS 40 1 underlying44 U U U)<|f3p (λ_=>Xd (show Go.Lg.ev _ _=_ from g9) U og oa)<|f3p (λ_=>Zt U) <|
   f3q (λ_ I=>QA ((hL.st I.2).fld 0 (.string (Jc 2)) (OR (λn=>some (Value.string n)) ka)) U)<|f3p (λ_=>Qy oz) ?_
  refine f3k λx3 p3 c3=>QB (us:=[[.string (Jc 1),oE oF 0],[.string (Jc 2),oE oF 1]]) U U og (by exact(by decide:2*2<=1000000)) oB λb13 x4 p4 m2 kb=>?_;refine⟨λx=>(O1 s.own H x/\O1 s.own y1 x)/\O1 s.own y2 x,λx hx=>hx,λx x' hx G=>⟨⟨hx.1.1.D G,hx.1.2.D G⟩,hx.2.D G⟩,⟨⟨c3.1.1.D p4,c3.1.2.D p4⟩,c3.2.D p4⟩,s.own,p4.any,λb E=>.inl E,?_⟩;refine f3p (λ_=>Zc [(0,[oE oF 3]),(1,[.string YY]),(3,[.slice (some ⟨b13,0,none⟩) 2 2])] ⟨U,U,U,U,U,U,Z⟩)<|f3p (λ_=>Zc [(1,[oE oF 3,.string YY,Zl,oE oF 0,Zl,Zl,.slice (some ⟨b13,0,none⟩) 2 2,Zl,oE oF 0])] oz) ?_;refine f3k λx5 p5 c5=>QB (us:=[ZL (Qic b13)]) U U og (by exact(by decide:1*10<=1000000)) oz λm3 x6 p6 m4 kc=>?_;refine⟨λx=>(O1 s.own H x/\O1 s.own y1 x)/\O1 s.own y2 x,λx hx=>hx,λx x' hx G=>⟨⟨hx.1.1.D G,hx.1.2.D G⟩,hx.2.D G⟩,⟨⟨c5.1.1.D p6,c5.1.2.D p6⟩,c5.2.D p6⟩,s.own,p6.any,λb E=>.inl E,?_⟩;refine f3k λx7 p7 c7=>?_;have hy:O1 [] H x7:=(((((((hj.D p1).D q1).D p2).D q2).D p3).D p4).D p5 |>.D p6).D p7;have hO:=hy.size;have ke:=Qnj (kb.I ((p5.D p6).D p7)) (kc.I p7) Qhr QmR;have kf:Vu (UF H.heap.size x7.heap.size++s.own) x7 s:=(hSy.up (λb E=>by
   rcases Lc.1 E with E|E
   ·exact .inr (ZA.1 E).1
   exact .inl (Lc.2 (.inl E))) (λb E=>Lc.2 (.inr E))).I hy
  have hR:=q7 kf gt og (λb E=>by
   rcases Lc.1 E with E|E
   ·exact(ZA.1 E).2
   exact LT (hk b E) hO) ke (by
   intro e he;rw[show[Qic b13].map YV.e=Uc from rfl]at he;rw[Lb.1 he];exact yO og og) (hr.I (hv.D hy))
  rw[show[Qic b13].map YV.e=Uc from rfl,esys,show Qe0 Qaa=J6 from rfl,QmT]at hR;refine xg<|hR.mono ?_;rintro m5 x8 ⟨qr,rfl,hN,_,ho⟩;have ho:=ho U;refine Exists.elim ho.2 λY S=>?_;have kg:=S.2.2.2.2.1.lt;refine⟨λx=>(O1 s.own H x/\O1 s.own y1 x)/\O1 s.own y2 x,λx hx=>hx,λx x' hx G=>⟨⟨hx.1.1.D G,hx.1.2.D G⟩,hx.2.D G⟩,⟨⟨c7.1.1.Q S.2.2.2.1,c7.1.2.Q S.2.2.2.1⟩,c7.2.Q S.2.2.2.1⟩,Y.own++UF x7.heap.size x8.heap.size,S.2.2.2.1,λb E=>?_,?_⟩
  ·rcases Lc.1 E with E|E
   ·exact(S.2.2.2.2.2 b E).imp id λh=>⟨h,kg b E⟩
   exact .inr (ZA.1 E)
  refine f3p QF<|f3p (λ_=>Zn U U)<|f3p (λ_=>Zn U U)<|f3e ?_;refine⟨(qr,Y),oz,c7.1.1.Q S.2.2.2.1,S.1,S.2.1,S.2.2.1,ho.1,λb E=>?_,λJ ha V=>⟨λhm=>V (Lc.2 (.inl hm)),?_,?_⟩⟩
  ·exact(S.2.2.2.2.2 b E).imp id λh=>LH hO h
  ·refine S.2.2.2.2.1.up (λb E=>?_) (λb E=>Lj _ E);rcases Li.1 E with rfl|E
   ·by_cases O:b<x7.heap.size
    ·exact .inl (Lc.2 (.inr (Lc.2 (.inl (ZA.2 ⟨ha,O⟩)))))
    by_cases h8:b<x8.heap.size
    ·exact OS (Lc.2 (.inr (ZA.2 ⟨OD O,h8⟩))) V
    exact .inr (OD h8)
   exact .inl (Lc.2 (.inl E))
  by_cases O:J<x7.heap.size
  ·exact hN [J] (λb E=>by rw[Lb.1 E];exact O)
  by_cases h8:J<x8.heap.size
  ·exact OS (Lc.2 (.inr (ZA.2 ⟨OD O,h8⟩))) V
  exact(hN [] (λb E=>by cases E)).up λb E=>by rw[Lb.1 E];exact .inr (OD h8)
 rintro⟨b3,qr,Y⟩ g4 w4 ⟨kh,e1,e2,hz,e3,hP,n1,h0,hQ,T3,hS⟩;simp only[]at e1 e2 hz e3 hP n1 h0 hQ hS;have hT:O1 [] w w4:=UI hv (λb E=>LH hi.size (hE b E)) kh;have ki:qr.k1=[(1,YX)]:=(OR Rp.kept e3).D QmP;have kj:qr.k2=[(2,YY)]:=(OR Rp.made e3).D QmO;have kk:qr.k3=[]:=(OR Rp.gone e3).D QmQ;have kn:Y.made=3:=(OR Sys.made e2).D Qhs;have ko:Y.sys.un≠[]:=by rw[e2];exact List.append_ne_nil_of_right_ne_nil _ (List.cons_ne_nil _ _)
 refine Qm<|QM<|(Xz w4).mono ?_;rintro _ w5 ⟨h9,c5,rfl,hW,kq⟩;have m6:c5.co.length=3:=by rw[<-Qcw,<-hW];exact(Lh _).symm
 have kr:=kq [] oe;refine x (QgS 40 1 underlying44 U U U)<|O4 (g:=QO) (i:=1) Ys kr.co.arr U U oa λm7 kt=>?_;have ku:=kt.fld 0 (.string (Jc 1)) (OR (λn=>some (Value.string n)) (j3 hW oa));refine x (Zt U)<|x (QA ku U) <|
  x (Zc [(0,[oE oF 1]),(1,[.string (Jc 1)])] ⟨U,U,U,U,Z⟩)<|x (Zc [(0,[.bool true]),(1,[oE oF 1,.string (Jc 1),Zl,oE oF 0,Zl,Zl,Zl,Zl,oE oF 0])] ⟨U,U,U,U,Z⟩) <|
  Qe<|QB (us:=[ZL Qh7]) U U og (by exact(by decide:1*10<=1000000)) oz λm8 w6 hA m9 kv=>?_
 have hX:=(h0.I h9).I hA;have hR5:=q7 hX hz og hX.lt (Qnk kv Qhr) (by
  intro e he;rw[show[Qh7].map YV.e=Qht from rfl]at he;rw[Lb.1 he];exact yO og og) (hr.I ((hT.D h9).D hA))
 rw[show[Qh7].map YV.e=Qht from rfl,e2,QmS,e1]at hR5;refine QM<|hR5.mono ?_;rintro r9 w7 ⟨kw,rfl,kx,kz,_⟩;have k0:=(kz og).1;refine Qa<|QZ U U<|QZ U U<|Qe<|Qo (us:=Ym) U λb5 w8 hf k4 k5=>Qe<|Qj (us:=Zr kw) k5 U U U U (kx [] oe).ones λw9 k6 pa=>Qb ?_;have k7:O1 [] w4 w9:=((h9.D hA).D k0).D (hf.O k6 k4);refine Qc<|x (Qy ⟨U,U,Z⟩)<|x (Qy ⟨U,U,Z⟩)<|Qe<|Qo (us:=[oE oF 0,.string .empty]) U λb7 pc k8 k9 hY=>Qe<|Qo (us:=[oE oF 0,.string .empty]) U λb8 pd hZ pf hw =>
  Qe<|Qj (us:=KR (1,YX)) (hY.I hZ) U U U U oz λpg ga ma=>?_
 have ph:=hY.lt;refine Qe<|Qj (us:=KR (2,YY)) (hw.J ga om) U U U U oz λgb gc mf=>xe ?_;have mg:O1 [] w9 gb:=((k8.D hZ).O ga k9).O gc oa;have hp:=k7.D mg;have mh:=ma.J gc om;have hC:=hS.I hp;have hD:=hQ.I hp;have gg:=h0.I hp;have gh:=hD.a1;have gi:=hD.a2;have gj:=hD.a3;rw[ki]at gh;rw[kj]at gi;rw[kk]at gj;refine Za (α:=Unit) [(0,0),(56,96)] (λ_=>[(0,.bool true)]) (λ_ w'=>O1 Y.own gb w') ol ?_ ?_
 ·refine Qw<|Qa<|xb (QY U U) (λgk=>?_) (λgk=>OS U gk);refine Qa<|Qs U hC U U<|Q6 mh U U<|Qe<|QB (us:=[KR (1,YX)]) U U og (by exact(by decide:1*2<=1000000)) oz λpj pm gl pn mi =>
   QM<|(U5 (L:=[]) (L':=[]) (l:=[(1,YX)]) (gh.I gl) (mi.arr oe (n:=1) (cap:=1) (sz:=2) rfl og (Lv _))).mono ?_
  rintro _ po ⟨rfl,mj⟩;have hq:=gl.D mj;refine QG U<|Qa<|Qs U (hC.I hq) U U<|Q6 (mf.I hq) U U<|Qe<|QB (us:=[KR (2,YY)]) U U og (by exact(by decide:1*2<=1000000)) oz λpp pu gm pw mn =>
   QM<|(U5 (L:=[]) (L':=[]) (l:=[(2,YY)]) ((gi.I hq).I gm) (mn.arr oe (n:=1) (cap:=1) (sz:=2) rfl og (Lv _))).mono ?_
  rintro _ pz ⟨rfl,mo⟩;have hh:=(hq.D gm).D mo;refine QG U<|Qa<|Qs U (hC.I hh) U U<|QI (gj.I hh) U<|xb (QY U U) (λgn=>?_) (λgn=>OS U gn);refine QG U<|Qa<|Qa<|xb (QY U U) (λgo=>?_) (λgo=>OS U go);have hM:=QgB (gg.I hh);have hU:=QaR (gg.I hh) hz;have hU:=hU.mono λr w' h=>h.2 ko;rw[e1]at hM hU;refine QG U<|Qa<|Qa<|QM<|hM.mono ?_;rintro _ p0 ⟨rfl,rfl⟩;refine xb (QY U U) (λgp=>?_) (λgp=>OS kn gp);refine QG U<|Qa<|Qa<|QM<|hU.mono ?_;rintro _ p8 ⟨rfl,hu⟩;refine Exists.elim hu λs2 hu=>?_;have hV:=QaR hu.2.2.2.2.1 hu.2.2.1;rw[hu.1]at hV;have hV:=hV.mono λr w' h=>h.1 (by rw[hu.2.1,e2];rfl);refine xb (QY U U) (λgq=>?_) (λgq=>OS U gq);refine QG U<|Qa<|Qa<|QM<|hV.mono ?_;rintro _ p9 ⟨rfl,mq⟩;refine x (QY U U)<|QG U<|Qb<|⟨(),La,(hh.any.Q hu.2.2.2.1).D mq⟩
 rintro _ g5 qc ms;refine Qk ⟨[.bool true],La,U,UI (hT.D hp) (λb E=>?_) ms⟩;rcases hP b E with h|h
 ·exact LH hi.size (hE b h)
 exact LH hv.size h
theorem jm (h0:ZH L w.heap va vm ve a):
  Q3 prog 15 [.agg #[va,oE oF a.st,vm,ve]] w λr w'=>O1 [] w w'/\∃ua ub uc ud,r=.tuple #[.agg #[ua,ub,uc,ud],oE oF (X9 a)]/\Zp [ua,ub,uc,ud] /\
   (X9 a=0->ub=oE oF (Uo (Yc a)).st/\∀L:LN,(∀b∈L,b<w.heap.size)->ZH L w'.heap ua uc ud (Uo (Yc a))):=by
 have h:=h0.up (L':=[]) oe;refine Zq func15 ?_;refine Qc<|Qe<|QW (us:=[va,oE oF a.st,vm,ve]) U λb1 w1 hn hM ho=>Qe<|Qo (us:=X4) U λb2 w2 hc hO he=>Qb ?_;have hp:=hn.D hc;have hP:=hn.size;refine Qd<|Qc<|Q6 (ho.I hc) U U<|QM<|(X1 (h.I hp)).mono ?_;rintro r3 w3 ⟨rfl,O⟩;refine Qb ?_;have hf:=hp.D O;refine Qm<|ZB U U<|xe<|QX rfl (λhg=>?_) (λhg=>?_)
 ·refine Qc<|x (Qy Z)<|Qa<|Qe<|Qj (us:=X4) (he.I O) U U U U oB λw4 h5 hh=>Qb<|Qk ⟨[.agg X4.toArray,oE oF (X9 a)],⟨⟨_,U,Qn U (hh.at (L:=[]) oe).cells⟩,rfl,Z⟩,hf.O h5 oa,_,_,_,_,rfl,⟨rfl,rfl,rfl,rfl,Z⟩,λe=>OS e hg⟩
 have hq:X9 a=0:=Ln.1 hg;have hr:=(Z0 a).1 hq;have hs:=QfF hr;have h6:=hs.st0;have hQ:=hs.st1;refine Qh<|Qc<|Q6 ((ho.I hc).I O) U U<|QM<|(Jf (h.I hf) hr).mono ?_;rintro r5 w5 ⟨hj,ra,rm,re,rfl,hA⟩;have I:=hA [] oe;have hR:=O.size;have hS:=hj.size;refine Qe<|Qo (us:=X4) U λG w6 h7 ht hu=>Qe<|Qj (us:=[ra,oE oF (Yc a).st,rm,re]) hu U U U U ⟨I.al.one,U,I.mr.one,I.ed.one,Z⟩ λw7 h8 h9=>xe ?_;refine Qc<|Q7 U<|Qe<|QE (j:=2) (u:=Zl) h9 U U oe rfl λS hB hk=>xe ?_;have hl:O1 [] w5 S:=(h7.O h8 ht).O hB oa;have hC:=(hf.D hj).D hl;have hT:=hu.lt;have hU:=hk.lt;have hV:=he.lt;refine Qd<|Qc<|Qs U hk U U<|Qa<|xe<|Qg<|QD (α:=Nat×OY) [(6,6),(18,27)] (λz=>[(18,oE oF z.1)]) (λz w'=>(z.1:Int)<=(Yc a).st/\O1 [G] S w'/\(∃T,Q9 w'.heap G T [ra,oE oF (Yc a).st,z.2,re])/\Qv 3 S.heap.size w' z.2 (Vl z.1)) (λz=>(Yc a).st.toNat - z.1) ol (0,Zl) La ⟨h6,O1.Z _ _,⟨_,hk⟩,QJ _ _ _ _⟩ ?_;rintro⟨i,v⟩ g w9 ⟨hi,V,⟨T5,ha⟩,J⟩;simp only[]at hi ha J;have hW:=V.size;refine Qc<|Q0 U U<|xe<|Qd<|QH U (λhv=>?_) (λhv=>?_)
 ·refine Qz ?_;have hD:(Yc a).st.toNat=i:=by have hY:¬(i:Int)<(Yc a).st:=hv;omega
  have hw:=Qu J;refine Qc<|Q6 ha U U<|Qe<|Qj (us:=[ra,oE oF (Yc a).st,v,re]) (((he.I O).I (hj.D hl)).J V om) U U U U ⟨I.al.one,U,hw,I.ed.one,Z⟩ λY H hE=>Qb ?_;have hF:O1 [] w Y:=(hC.O V oa).O H oa;refine Qk ⟨[.agg #[ra,oE oF (Yc a).st,v,re],oE oF 0],⟨⟨_,U,Qn U (hE.at (L:=[]) oe).cells⟩,rfl,Z⟩,hF,ra,_,v,re,by rw[hq];rfl,⟨I.al.one,U,hw,I.ed.one,Z⟩,λ_=>⟨U,λN hN=>?_⟩⟩;have hG:O1 [G,b2] w5 Y:=((hl.any (L:=[G,b2])).Q (V.mono oe)).Q (H.mono oe);have hX:∀b∈N,b<w.heap.size:=hN;have hH:ZH (G::b2::N) w5.heap ra rm re (Yc a):=by
   refine(hA (b2::N) (λb E=>?_)).up λb E=>?_
   ·rcases Li.1 E with rfl|E
    ·have:=O.size;omega
    have:=hX b E;omega
   rcases Li.1 E with rfl|E
   ·exact .inr ht
   exact .inl E
  have hy:=(hH.st (hG.mono oe)).up (L':=N) λb E=>.inl (by simp[E]);have hI:Qv 3 S.heap.size Y v (Vl i):=Qf J H (λb E hm=>by have:=(Qi J b E).1;rw[Lb.1 hm]at this;omega);refine⟨hy.al,?_,hy.ed⟩;show QP N Y.heap v (Vl (Yc a).st.toNat);rw[hD];exact Qv.ints hI (by rw[jK];omega) (λb E=>ot (hX b E))
 refine Qh<|Qd<|Qg<|Qm<|Qb ?_;have n5:G∉ob v:=λhm=>ot (Qi J G hm).1
 refine Qw<|Qs U ha U U<|Qa<|Qe<|QB (us:=[[oE oF i]]) U U og oe ⟨rfl,rfl,Z⟩ λhZ Y H ga hh=>?_;have gb:=H.size;refine Qe<|Zb (news:=[oE oF i]) (L:=[]) (Qq J H) U U U (hh.at oe) (by simp[Value.oneCell']) (by rw[jK];omega) oa λhz hJ h1 h2 gc=>?_;refine Q7 rfl<|Qe<|QE (j:=2) (u:=hz) ((ha.I H).J h2 n5) U U oe (Qu h1) λgg h3 hK=>xe ?_;refine Qw<|QS U U<|Qa<|xe ?_;have hL:O1 [G] S hJ:=(V.D H).then h2 (λb E=>.inr (Qi J b E).1);refine⟨(i+1,hz),oh,La,oh,hL.Q h3,⟨T5,hK⟩,?_⟩;simp only[];rw[QaE];have h4:=Qv.snoc h1;exact Qf h4 h3 (λb E hm=>by have:=(Qi h4 b E).1;rw[Lb.1 hm]at this;omega)
theorem Qc8 (E:Kb w 4096):Q3 prog 8 [] w λr w'=>r=.bool true/\O1 [] w w':=by
 refine Zq func8 ?_;refine Qc<|Qb<|Za (α:=Unit) [(0,4)] (λz=>[(0,.bool true)]) (λz w'=>O1 [] w w') ol ?_ ?_
 ·refine Qw<|QM<|(Qct E).mono ?_;rintro J O ⟨rfl,G⟩;refine Qa<|QM<|(Qc9 (E.I G)).mono ?_;rintro S T ⟨rfl,H⟩;refine QG U<|Qb<|⟨(),La,G.D H⟩
 rintro z g V I;exact Qk ⟨[.bool true],La,U,I⟩
section
variable {pS:String}{l:xx}{t':Nat}{x:OZ}{k:IntKind}{a b:Int}
end
theorem Qk7 {s:Sys}{k:Nat}(_hs:YR k s)(H:s.un.length<64){x:ZQ}{E:Zx}(h:VG s.c [(false,x)]=(0,E))(G:JF E s.ps ((s.un.length:Int)+1)=0):yn s [(false,x)]=0:=by
 unfold yn;rw[OP oe,OP oa,h,OP oe];exact G
theorem QoG {e:YV}(h:Q9 H b T (ZL e))(E:XT [] H e.q):Qas [] H (.slice (some ⟨b,0,none⟩) 1 1) [e]:=
 ⟨h.arr oe (n:=1) (cap:=1) (sz:=10) rfl og (Nat.le_refl _),λq G=>by rw[List.mem_singleton.1 G];exact E⟩
def yv (y:ZQ)(k:Nat):ZQ :=
 if y.kd=3 then{ y with ls:=y.ls.set (k % y.ls.length) ((y.ls.getD (k % y.ls.length) (.empty,0)).1,((k % 3:Nat):Int)) }
 else if y.kd=4 then{ y with bd:=((k % 7:Nat):Int) - 3 }
 else if X9 y.a=0/\k % 2=0 then{ y with a:=Uo (Yc y.a) }else{ y with a:={ y.a with mr:=[] } }
theorem QcR (h0:XT L w.heap q){k:Nat}(hk:k<256)(gg:q.kd=3->0<q.ls.length)(kq:q.ls.length<=1000000)(hL:∀b∈L,b<w.heap.size):
  Q3 prog 50 [.agg (Qt q).toArray,oE oF (k:Int)] w λr w'=>O1 [] w w'/\∃q':DV,r=.agg (Qt q').toArray/\q'.it=yv q.it k/\XT L w'.heap q':=by
 have h:=h0;have G:=h.ones;refine Zq func50 ?_;refine Qc<|Qe<|QW (us:=Qt q) U λb2 w1 hH hj hw=>Qe<|Qo (us:=Qt ⟨0,.empty,⟨Zl,Zl,Zl,⟨[],0,[],[]⟩⟩,Zl,[],Zl,[],0⟩) U λb4 w2 hl kr hh=>xe ?_;have V:=hH.D hl;have Y:=hw.I hl;have kt:=hH.size;have hq:b2≠b4:=by have:=hw.lt;omega
 refine Qd<|Qc<|Qs U Y U U<|xe<|Qg<|Qc<|x (QY U U)<|Qb<|QX U (λhy=>?_) (λhy=>?_)
 ·have hr:q.kd=3:=hy;have hn:=gg hr;have gh:(q.ls.flatMap ZF).length=q.ls.length*2:=h.ls.arr.1;rcases h.ls.arr.2.2 with⟨_,e2⟩|⟨a,c,h1,h2,h3⟩
  ·omega
  refine Qc<|Qe<|Xw λhI w3 T gi hJ=>Qs U (Y.I T) U U<|Qe<|Zb (base:=w.heap.size) (hJ.own (n:=0) (sz:=2) U oa (ot V.size)) U (show Go.Lg.ev _ _=_ from h1) h.ls.arr.1 (h3.I (V.D T)) (by
   intro u hu;obtain⟨p,_,O⟩:=Ma.1 hu;rcases Li.1 O with rfl|O
   ·rfl
   rw[Lb.1 O];rfl) oa (ou hJ.lt V.size) λv4 w4 S hz hK=>Qb ?_
  have h6:O1 [] w2 w4:=T.O hz gi;have hs:=V.D h6;have H:k % q.ls.length<q.ls.length:=OI _ hn;have hM:q.ls.getD (k % q.ls.length) (.empty,0)=q.ls[k % q.ls.length]'H:=by simp[oP,H]
  have S:w4.ownsRow w.heap.size 143 2 v4 q.ls.length (q.ls.flatMap ZF):=by
   have E:=S;rw[LQ,L8]at E;exact E
  refine Exists.elim (XN S hn) λg hg=>Exists.elim hg λcap ha=>?_;rw[ha]at S;refine Exists.elim (Kj S).2 λcur hc=>?_;have ku:=(Kj S).1;have gj:=hc.1;have ht:=hc.2.1;have gk:=hc.2.2;have gl:w.heap.size<=g:=(Qi S g (by simp[ob])).1;refine Qm<|Qa<|Qa<|QI (QK (L:=[]) S oa oe) (show Go.Lg.ev _ _=_ from ha)<|x (U7 (a:=(k:Int)) (b:=(q.ls.length:Int)) rfl rfl oa oa)<|Qa<|x (U7 (a:=(k:Int)) (b:=3) rfl rfl oa oa) <|
   x (Zv (i:=k % q.ls.length) (show Go.Lg.ev _ _=_ from ha) (show Go.Lg.ev _ _=_ from OR (Value.int .i64) (Int.natCast_emod ..).symm) H)<|Q7 U<|Qe<|QE (j:=0+k % q.ls.length*2+1) (u:=oE oF ((k % 3:Nat):Int)) gj U (show Go.Lg.ev _ _=_ from OR (Value.int .i64) (Int.natCast_emod k 3).symm) oa U λw5 h9 hN=>xe ?_
  rw[LQ]at hN;refine Zo (q.ls.set (k % q.ls.length) ((q.ls.getD (k % q.ls.length) (.empty,0)).1,((k % 3:Nat):Int))) λhe hv=>?_;have hO:(q.ls.flatMap ZF).set (k % q.ls.length*2+1) (oE oF ((k % 3:Nat):Int))=he.flatMap ZF:=by
   rw[<-hv];refine xD ZF 2 Qcf q.ls _ 1 H _ _ og ?_;rw[hM];rfl
  have gm:he.length=q.ls.length:=by rw[<-hv,Me]
  have gn:w5.ownsRow w.heap.size 143 2 (.slice (some ⟨g,0,none⟩) q.ls.length cap) q.ls.length (he.flatMap ZF):=by
   refine V7 S (Lv _) hN (by rw[Me];exact ht) ?_ (by rw[<-hO,Me];exact gh);rw[<-hO,<-gk,List.take_set]
  have go:g∉L:=λH=>ot (hL g H)
  have n2g:b2≠g:=λe=>by
   have E:=hw.lt;rcases hK g (by rw[ha];simp[ob])with J|J
   ·have h8:g=hI:=by simpa[ob]using J
    have:=hl.size;omega
   have:=hl.size;have:=T.size;omega
  have n4g:b4≠g:=λe=>by
   have E:=hh.lt;rcases hK g (by rw[ha];simp[ob])with J|J
   ·have h8:g=hI:=by simpa[ob]using J
    omega
   have:=T.size;omega
  have gp:=QK (L:=b2::b4::L) gn oa (λb I H=>by
   rw[Lb.1 (show b∈[g] from I)]at H;rcases Li.1 H with E|H
   ·exact n2g E.symm
   rcases Li.1 H with E|H
   ·exact n4g E.symm
   exact go H)
  have gq:=hs.O h9 gl;have gr:=(Y.I h6).J h9 (oy n2g);have gs:=(hh.I h6).J h9 (oy n4g);refine Qw<|Qa<|Q7 U<|Qe<|QE (u:=.slice (some ⟨g,0,none⟩) q.ls.length cap) gr U (show Go.Lg.ev _ _=_ from ha) (L9 U) U λw6 hA gt=>xe ?_;have gu:=gq.O hA hj;have gv:=gp.st (hA.mono oe);refine Qc<|Q6 gt U U<|Qe<|Qj (us:=Qt { q with vl:=.slice (some ⟨g,0,none⟩) q.ls.length cap,ls:=he }) (gs.J hA (oy hq.symm)) rfl rfl rfl rfl ⟨rfl,rfl,G.2.2.1,rfl,G.2.2.2.2.1,G.2.2.2.2.2.1,rfl,G.2.2.2.2.2.2.2.1,rfl,Z⟩ λw7 hP gw=>xe ?_
  have gx:w.heap.size<=b4:=oa
  have hQ:=gu.O hP gx;refine Qk ⟨[_],⟨⟨_,U,Qn U (gw.at (L:=[]) oe).cells⟩,Z⟩,hQ,{ q with vl:=.slice (some ⟨g,0,none⟩) q.ls.length cap,ls:=he },rfl,?_,?_⟩
  ·show({ q.it with ls:=he }:ZQ)=yv q.it k
   unfold yv;rw[OQ (show q.it.kd=3 from hr),<-hv];rfl
  have J:=h.I hQ;have gy:=(gv.st (hP.mono oe)).up (L':=L) (λb I=>.inl (Lj _ (Lj _ I)));refine⟨J.nm,J.a,⟨by rw[gm];exact gy,λp O=>?_⟩,J.ts⟩;rw[<-hv]at O;rcases MI O with O|O
  ·exact J.ls.nm p O
  have h8:=J.ls.nm _ (Lk H);rw[O,hM];exact h8
 have hB:¬q.kd=3:=hy;refine Qc<|x (QY U U)<|Qb<|QX U (λhC=>?_) (λhC=>?_)
 ·have hr:q.kd=4:=hC;have gz:(k:Int) % 7 - 3=((k % 7:Nat):Int) - 3:=oa
  refine Qw<|Qa<|x (U7 (a:=(k:Int)) (b:=7) U U oa oa)<|x (Jo U U ⟨oa,oa⟩)<|Q7 U<|Qe<|QE (u:=oE oF (((k % 7:Nat):Int) - 3)) Y U (show Go.Lg.ev _ _=_ from OR (Value.int .i64) gz) (L9 U) U λw3 T g0=>xe ?_;have g2:=V.O T hj;refine Qc<|Q6 g0 U U<|Qe<|Qj (us:=Qt { q with bd:=((k % 7:Nat):Int) - 3 }) (hh.J T (oy hq.symm)) rfl rfl rfl rfl ⟨rfl,rfl,G.2.2.1,rfl,G.2.2.2.2.1,G.2.2.2.2.2.1,G.2.2.2.2.2.2.1,G.2.2.2.2.2.2.2.1,rfl,Z⟩ λw4 hz g3=>xe ?_
  have hs:=g2.O hz oa;refine Qk ⟨[_],⟨⟨_,U,Qn U (g3.at (L:=[]) oe).cells⟩,Z⟩,hs,{ q with bd:=((k % 7:Nat):Int) - 3 },rfl,?_,?_⟩
  ·show({ q.it with bd:=((k % 7:Nat):Int) - 3 }:ZQ)=yv q.it k
   unfold yv;rw[OP (show ¬q.it.kd=3 from hB),OQ (show q.it.kd=4 from hr)]
  have h4:=h.I hs;exact⟨h4.nm,h4.a,h4.ls,h4.ts⟩
 have hR:¬q.kd=4:=hC;refine Qc<|Q7 U<|x (Zs (us:=[q.p.va,oE oF q.p.a.st,q.p.vm,q.p.ve]) Y U U U)<|QM<|(jm (h.a.I V)).mono ?_;rintro kv g4 ⟨g5,ua,ub,uc,ud,rfl,hf,ht⟩;refine Qa<|QZ U U<|QZ U U<|Qe<|Qo (us:=X4) U λb6 kw g6 g7 g8=>Qe<|Qj (us:=[ua,ub,uc,ud]) g8 U U U U hf λhS g9 hD=>Qb ?_;have hT:O1 [] g4 hS:=g6.O g9 g7;have hE:=g5.D hT;have hU:=V.D hE;have hV:=Y.I hE;have hW:=hh.I hE;refine Za (α:=Unit) [(16,22)] (λ_=>[(22,.bool (decide (X9 q.p.a=0/\k % 2=0)))]) (λ_ w'=>w'=hS) ol ?_ ?_
 ·refine Qw<|Qa<|xb (QY U U) (λhF=>?_) (λhF=>?_)
  ·have hd:decide ((k:Int) % 2=0)=decide (X9 q.p.a=0/\k % 2=0):=by
    refine decide_eq_decide.2 ⟨λE=>⟨hF,oa⟩,λE=>oa⟩
   refine Qa<|Qa<|x (U7 (a:=(k:Int)) (b:=2) U U oa oa)<|x (QY U U)<|QG U<|xe ?_;exact⟨(),⟨OR Value.bool hd,Z⟩,U⟩
  refine Qa<|Qp<|Qp<|Qp<|QG U<|xe ?_;exact⟨(),⟨OR Value.bool (OV λE=>hF E.1).symm,Z⟩,U⟩
 rintro _ g hX rfl;refine QX rfl (λhi=>?_) (λhi=>?_)
 ·have hY:=(ht hi.1).1;rw[hY]at hf;have hD:Q9 hX.heap b6 59 [ua,oE oF (Uo (Yc q.p.a)).st,uc,ud]:=by rw[<-hY];exact hD
  refine Qw<|Q6 hD U U<|Q7 U<|Qe<|Yx (us:=[ua,oE oF (Uo (Yc q.p.a)).st,uc,ud]) (cs':=Qt { q with p:=⟨ua,uc,ud,Uo (Yc q.p.a)⟩ }) hV U U U (L9 U) hf U λkx hG ka=>xe ?_
  have kb:=hU.O hG hj;refine Qc<|Q6 ka U U<|Qe<|Qj (us:=Qt { q with p:=⟨ua,uc,ud,Uo (Yc q.p.a)⟩ }) (hW.J hG (oy hq.symm)) rfl rfl rfl rfl ⟨rfl,rfl,hf.1,rfl,hf.2.2.1,hf.2.2.2.1,G.2.2.2.2.2.2.1,G.2.2.2.2.2.2.2.1,rfl,Z⟩ λkc hZ ke=>xe ?_
  have ga:=kb.O hZ oa;refine Qk ⟨[_],⟨⟨_,U,Qn U (ke.at (L:=[]) oe).cells⟩,Z⟩,ga,{ q with p:=⟨ua,uc,ud,Uo (Yc q.p.a)⟩ },rfl,?_,?_⟩
  ·show({ q.it with a:=Uo (Yc q.p.a) }:ZQ)=yv q.it k
   unfold yv;rw[OP (show ¬q.it.kd=3 from hB),OP (show ¬q.it.kd=4 from hR),OQ (show X9 q.it.a=0/\k % 2=0 from hi)];rfl
  have E:=h.I ga;have kf:=Y.lt;have kg:=hh.lt;have kh:=(ht hi.1).2 ([b2,b4]++L) (by
   intro b I;rcases Lc.1 I with I|I
   ·rcases Li.1 I with rfl|I
    ·exact kf
    rw[Lb.1 I];exact kg
   have:=hL b I;omega)
  have ki:O1 ([b2,b4]++L) hX kc:=(hG.mono oe).Q (hZ.mono oe);exact⟨E.nm,((kh.I hT).st ki).up (λb I=>.inl (Lc.2 (.inr I))),E.ls,E.ts⟩
 refine Qw<|Q7 U<|Q7 U<|Qe<|QE (u:=Zl) hV U U (L9 U) U λkz gb kj=>xe ?_;have kk:=hU.O gb hj;refine Qc<|Q6 kj U U<|Qe<|Qj (us:=Qt { q with p:=⟨q.p.va,Zl,q.p.ve,{ q.p.a with mr:=[] }⟩ }) (hW.J gb (oy hq.symm)) rfl rfl rfl rfl ⟨rfl,rfl,G.2.2.1,rfl,rfl,G.2.2.2.2.2.1,G.2.2.2.2.2.2.1,G.2.2.2.2.2.2.2.1,rfl,Z⟩ λk0 kn ko=>xe ?_
 have gc:=kk.O kn oa;refine Qk ⟨[_],⟨⟨_,U,Qn U (ko.at (L:=[]) oe).cells⟩,Z⟩,gc,{ q with p:=⟨q.p.va,Zl,q.p.ve,{ q.p.a with mr:=[] }⟩ },rfl,?_,?_⟩
 ·show({ q.it with a:={ q.it.a with mr:=[] } }:ZQ)=yv q.it k
  unfold yv;rw[OP (show ¬q.it.kd=3 from hB),OP (show ¬q.it.kd=4 from hR),OP (show ¬(X9 q.it.a=0/\k % 2=0) from hi)]
 have E:=h.I gc;exact⟨E.nm,⟨E.a.al,Zm.nil _ _ _,E.a.ed⟩,E.ls,E.ts⟩
def Jk:ByteArray:=⟨#[102,117,114,116,104,101,114]⟩
def yY:ByteArray:=⟨#[110,101,118,101,114]⟩
def yZ:ByteArray:=⟨#[102,101,119]⟩
def Jj:ByteArray:=⟨#[110,111,116,104,105,110,103]⟩
def UM:ByteArray:=⟨#[109,111,114,101]⟩
def UW (n:ByteArray)(y:ZQ)(wh b:Nat):Bool×ZQ :=
 if wh % 8=0 then(true,⟨y.kd,y.nm,KB,[],[],0⟩)
 else if wh % 8=1 then(false,yv y b)
 else if wh % 8=2/\y.kd=1 then(false,⟨2,Jk,Uo (Yc y.a),[],[],0⟩)
 else if wh % 8=3 then(false,⟨3,yY,KB,[(n,((b % 3:Nat):Int))],[],0⟩)
 else if wh % 8=4 then(false,⟨4,yZ,KB,[],[(n,1)],((b % 3:Nat):Int)⟩)
 else if wh % 8=5 then(true,⟨1,Jj,KB,[],[],0⟩)
 else if wh % 8=6/\y.kd=1 then(false,{ y with nm:=UM })
 else(false,y)
abbrev Qft:ZQ:=⟨0,.empty,KB,[],[],0⟩
def dMk (c:Zx)(wh a b:Nat):Bool×ZQ :=
 if(ZE c).1=0/\(ZE c).2≠[]then UW ((c.co.map (·.nm)).headD .empty) ((ZE c).2.getD (a % (ZE c).2.length) Qft) wh b else(true,Qft)
abbrev Uv:AV:=⟨Zl,Zl,Zl,KB⟩
theorem ja {N:LN}{c:CL}(hN:∀b∈N,b<w.heap.size)(h0:ZJ L w.heap c)(hz:CSz c.V)(hw:0<c.co.length)(gs:∀y∈(ZE c.V).2,(y.kd=3->0<y.ls.length)/\y.ls.length<=1000000/\(y.kd=1->X9 y.a=0)){wh at_ bY:Nat}(kx:wh<256)(kz:at_<256)(gt:bY<256):
  Q3 prog 14 [c.val,.agg #[.int .u8 (wh:Int),.int .u8 (at_:Int),.int .u8 (bY:Int)]] w λr w'=>O1 [] w w'/\∃e:YV,r=.agg (ZL e).toArray/\e.e=dMk c.V wh at_ bY/\XT N w'.heap e.q:=by
 have h:=h0.up (L':=[]) oe;refine Zq func14 ?_;refine Qc<|Qe<|QW (us:=c.cells) U λb2 w1 hA k0 gu=>Qe<|QW (us:=[.int .u8 (wh:Int),.int .u8 (at_:Int),.int .u8 (bY:Int)]) U λb3 w2 h4 k4 gv=>Qe<|Qo (us:=Qn3) U λJ w3 hB k5 hC=>xe ?_;have hD:=(hA.D h4).D hB;have hX:=gu.I (h4.D hB);have hY:=gv.I hB;refine Qc<|Q6 hX U U<|QM<|(Qcx (h.I hD) hz).mono ?_;rintro r4 w4 ⟨hf,v5,rfl,_,gw⟩;have hZ:=hD.D hf;by_cases hi:(ZE c.V).1=0
 rotate_left
 ·have T:dMk c.V wh at_ bY=(true,Qft):=by unfold dMk;rw[OP λe=>hi e.1]
  refine Qa<|QZ U U<|QZ U U<|x Ql<|Qb<|Qd<|Za (α:=Unit) [(16,22)] (λ_=>[(22,.bool true)]) (λ_ w'=>w'=w4) ol ?_ ?_
  ·refine Qw<|Qa<|xb (Xr U U) (λho=>?_) (λho=>OS ho (λe=>e hi));refine Qa<|Qp<|Qp<|Qp<|QG U<|xe ?_;exact⟨(),La,U⟩
  rintro _ g5 w5 rfl;refine QQ U (λ_=>?_) (λgx=>by cases gx);have gy:=(hA.D h4).size;refine Qc<|x (Zc [(0,[.bool true])] ⟨U,U,Z⟩)<|Qe<|Qj (us:=ZL ⟨true,⟨0,.empty,Uv,Zl,[],Zl,[],0⟩⟩) (hC.I hf) U U U U ⟨U,U,U,U,U,U,U,U,U,U,Z⟩ λw6 gz g0=>xe ?_;exact Qk ⟨[_],⟨⟨_,U,Qn U (g0.at (L:=[]) oe).cells⟩,Z⟩,hZ.O gz oa,⟨true,⟨0,.empty,Uv,Zl,[],Zl,[],0⟩⟩,rfl,T.symm,⟨by show J0 .empty;decide,⟨Zm.nil _ _ _,Zm.nil _ _ _,Zm.nil _ _ _⟩,Vh.nil,Vh.nil⟩⟩
 refine Exists.elim (gw hi) λE hj=>?_;have g2:=VI hi;have ga:E.length=(ZE c.V).2.length:=by have V:=OR oO hj.2;rwa [Lh]at V
 have gb:0<E.length/\E.length<=100000:=by
  obtain⟨a,b,_,_,e,hk⟩:=g2;have V:=KW hk;have h2:(ZE c.V).2.length=_:=OR oO e;rw[Ll,Lh]at h2;have h3:c.V.co.length=c.co.length:=Lh _;omega
 have h6:Ke [] w4.heap v5 E:=Jg.dits hj.1 oa oe;refine Qa<|QZ U U<|QZ U U<|x Ql<|Qb<|Qd<|Za (α:=Unit) [(16,22)] (λ_=>[(22,.bool false)]) (λ_ w'=>w'=w4) ol ?_ ?_
 ·refine Qw<|Qa<|xb (Xr U U) (λho=>OS hi ho) (λho=>?_);refine Qa<|Qa<|QI h6.arr U<|xb (QY U U) (λgc=>OS gc oa) (λgc=>?_);refine QG U<|xe ?_;exact⟨(),La,U⟩
 rintro _ g5 w5 rfl;refine ZS rfl<|Qh ?_;have g3:((at_:Int) % (E.length:Int))=((at_ % E.length:Nat):Int):=(Int.natCast_emod ..).symm;have hn:at_ % E.length<E.length:=OI _ gb.1;refine Qm<|Qs U (hY.I hf) U U<|x (XM (k':=.i64) U ⟨oa,oa⟩)<|Qa<|QI h6.arr U<|x (U7 (a:=(at_:Int)) (b:=(E.length:Int)) U U oa oa) <|
  O4 (g:=Qt) (i:=at_ % E.length) ZW h6.arr U (show Go.Lg.ev _ _=_ from OR (Value.int .i64) g3) hn λk6 gg=>?_
 have hr:=Lk hn;have gh:(ZE c.V).2.getD (at_ % (ZE c.V).2.length) Qft=(E[at_ % E.length]'hn).it:=by
  have V:at_ % (ZE c.V).2.length<(ZE c.V).2.length:=by rw[<-ga];exact hn
  rw[show(ZE c.V).2.getD (at_ % (ZE c.V).2.length) Qft=(ZE c.V).2[at_ % (ZE c.V).2.length]'V from by simp[oP,V]];have h2:=hj.2;have h3:∀(l:List ZQ) (hl:at_ % l.length<l.length),E.map DV.it=l->l[at_ % l.length]'hl=(E[at_ % E.length]'hn).it:=by
   intro l hl e;subst e;rw[LM];congr 2;rw[Lh]
  exact h3 _ V h2
 refine Zo (E[at_ % E.length]'hn) λq hq=>?_;rw[hq]at gg hr gh;have hE:=h6.each q hr;have hy:=gs q.it (by rw[<-hj.2];exact LJ hr);have hF:=hE.ones;refine x (Qx gg U U)<|Qe<|Qo (us:=[oE oF 0,.string .empty,Zl,oE oF 0,Zl,Zl,Zl,Zl,oE oF 0]) U λb7 w7 g4 gi g6=>Qe<|Qj (us:=Qt q) g6 U U U U hF λw8 g7 ha=>xe ?_;have hc:O1 [] w5 w8:=g4.O g7 gi;have S:=hZ.D hc;have h8:=h.I S;have k7:=hE.I hc;refine Zo ((c.co[0]'hw).nm) λfn hG=>?_;have T:dMk c.V wh at_ bY=UW fn q.it wh bY:=by
  unfold dMk;rw[OQ ⟨hi,λe=>by have h5:=gb.1;rw[ga,e]at h5;exact OS h5 og⟩,gh];congr 1;rw[<-hG];have hh:∀(l:List IV) (hl:0<l.length),((l.map IV.it).map YU.nm).headD .empty=(l[0]'hl).nm:=λl hl=>by
   cases l with
   | nil=>exact OS hl og
   | cons a t=>rfl
  exact hh c.co hw
 have gj:J0 fn:=by rw[<-hG];exact h.co.nm _ (Lk hw)
 refine Qc<|Qs U (hX.I (hf.D hc)) U U<|O4 (g:=QO) (i:=0) Ys h8.co.arr U U hw λk8 g8=>x (Zt U)<|x (QA (g8.fld 0 (.string fn) (OR (λb=>some (Value.string b)) hG)) U) <|
  Qb ?_
 have h7:=hY.I (hf.D hc);have Y:=(hC.I hf).I hc;have k9:=hf.size;have ma:=hc.size;have gy:=(hA.D h4).size;have he:w.heap.size<=J:=oa
 have ka:=hC.lt;have mf:=Y.lt;have kb:b7≠J:=oa
 have G:∀k:Nat,((wh:Int) % 8=(k:Int))↔wh % 8=k:=λk=>oa
 have hH:∀b∈J::N,b<w3.heap.size:=λb O=>by
  rcases Li.1 O with rfl|O
  ·exact ka
  have:=hN b O;have:=hD.size;omega
 have h9:∀b∈[J],b∈J::N:=oe
 have gk:∀b∈J::N,b<w8.heap.size:=λb O=>ot (hH b O)
 have hJ:XT (J::N) w8.heap q:=by
  have V:Ke (J::N) w5.heap v5 E:=Jg.dits hj.1 oa hH;exact(V.each q hr).I hc
 refine Za (α:=Unit) [(9,10),(38,104)] (λ_=>[]) (λ_ w'=>w'=w8/\UW fn q.it wh bY=(false,q.it)) ol ?_ ?_
 ·refine Qc<|Qs U h7 U U<|x (U7 (a:=(wh:Int)) (b:=8) U U oa og)<|xe<|Qg<|Qc<|x (QY U U)<|Qb<|QX U (λhK=>?_) (λhK=>?_)
  ·have e0:wh % 8=0:=(G 0).1 hK;refine Qc<|Qs U ha U U<|Qs U ha U U<|x (Zc [(0,[oE oF q.kd]),(1,[.string q.nm])] ⟨U,U,U,U,Z⟩)<|x (Zc [(0,[.bool true]),(1,Qt ⟨q.kd,q.nm,Uv,Zl,[],Zl,[],0⟩)] ⟨U,U,U,U,Z⟩) <|
    Qe<|Qj (us:=ZL ⟨true,⟨q.kd,q.nm,Uv,Zl,[],Zl,[],0⟩⟩) Y U U U U ⟨U,U,U,U,U,U,U,U,U,U,Z⟩ λw9 H hL=>xe ?_
   refine Qk ⟨[_],⟨⟨_,U,Qn U (hL.at (L:=[]) oe).cells⟩,Z⟩,S.O H he,⟨true,⟨q.kd,q.nm,Uv,Zl,[],Zl,[],0⟩⟩,rfl,?_,⟨hE.nm,⟨Zm.nil _ _ _,Zm.nil _ _ _,Zm.nil _ _ _⟩,Vh.nil,Vh.nil⟩⟩;rw[T];unfold UW;rw[OQ e0];rfl
  have n0:¬wh % 8=0:=λe=>hK ((G 0).2 e);refine Qc<|x (QY U U)<|Qb<|QX U (λhM=>?_) (λhM=>?_)
  ·have e1:wh % 8=1:=(G 1).1 hM;refine Qc<|Q6 ha U U<|Qs U h7 U U<|x (XM (k':=.i64) U ⟨oa,oa⟩)<|QM<|(QcR hJ gt hy.1 hy.2.1 gk).mono ?_;rintro mg hs ⟨I,q',rfl,kc,gl⟩;have ke:=gl.ones;refine x (Zc [(1,Qt q')] ⟨U,U,Z⟩)<|Qe<|Qj (us:=ZL ⟨false,q'⟩) (Y.I I) U U U U ⟨U,ke⟩ λmh gm kf=>xe ?_;refine Qk ⟨[_],⟨⟨_,U,Qn U (kf.at (L:=[]) oe).cells⟩,Z⟩,(S.D I).O gm he,⟨false,q'⟩,rfl,?_,?_⟩
   ·rw[T];unfold UW;rw[OP n0,OQ e1];exact OR (Prod.mk false) kc
   exact(gl.st (gm.mono h9)).up (λb O=>.inl (Lj _ O))
  have n1:¬wh % 8=1:=λe=>hM ((G 1).2 e);refine Qc<|x (QY U U)<|Qb<|QX U (λhO=>?_) (λhO=>?_)
  ·have e2:wh % 8=2:=(G 2).1 hO;refine Qc<|Qs U ha U U<|x (QY U U)<|xe<|QX U (λhP=>?_) (λhP=>?_)
   ·have hk1:q.kd=1:=hP;have gn:=hy.2.2 hk1;refine Qc<|Q7 U<|x (Zs (us:=[q.p.va,oE oF q.p.a.st,q.p.vm,q.p.ve]) ha U U U)<|QM<|(jm hJ.a).mono ?_;rintro mi kg ⟨go,ua,ub,uc,ud,rfl,ht,gp⟩;have kh:=(gp gn).1;have ki:=(gp gn).2 (J::N) gk;refine Qa<|QZ U U<|QZ U U<|Qe<|Qo (us:=X4) U λb9 mj kj kk kn=>Qe<|Qj (us:=[ua,ub,uc,ud]) kn U U U U ht λko kq gq=>Qb ?_;have hQ:O1 [] kg ko:=kj.O kq kk;rw[kh]at ht gq;refine Qc<|Q6 gq U U<|x (Zc [(0,[oE oF 2]),(1,[.string Jk]),(2,[ua,oE oF (Uo (Yc q.p.a)).st,uc,ud])] ⟨U,U,U,U,U,U,Z⟩)<|x (Zc [(1,Qt ⟨2,Jk,⟨ua,uc,ud,Uo (Yc q.p.a)⟩,Zl,[],Zl,[],0⟩)] ⟨U,U,Z⟩) <|
     Qe<|Qj (us:=ZL ⟨false,⟨2,Jk,⟨ua,uc,ud,Uo (Yc q.p.a)⟩,Zl,[],Zl,[],0⟩⟩) ((Y.I go).I hQ) U U U U ⟨U,U,U,ht.1,U,ht.2.2.1,ht.2.2.2.1,U,U,U,Z⟩ λmn gr kr=>xe ?_
    refine Qk ⟨[_],⟨⟨_,U,Qn U (kr.at (L:=[]) oe).cells⟩,Z⟩,((S.D go).D hQ).O gr he,⟨false,⟨2,Jk,⟨ua,uc,ud,Uo (Yc q.p.a)⟩,Zl,[],Zl,[],0⟩⟩,rfl,?_,⟨by show J0 Jk;decide,((ki.I hQ).st (gr.mono h9)).up (λb O=>.inl (Lj _ O)),Vh.nil,Vh.nil⟩⟩;rw[T];unfold UW;rw[OP n0,OP n1,OQ ⟨e2,hk1⟩];rfl
   have hk1:¬q.kd=1:=hP;refine Qh<|⟨(),Z,U,?_⟩;unfold UW;rw[OP n0,OP n1,OP (λe=>hk1 e.2),OP oa,OP oa,OP oa,OP (λe=>oa)]
  have n2:¬wh % 8=2:=λe=>hO ((G 2).2 e);refine Qc<|x (QY U U)<|Qb<|QX U (λhR=>?_) (λhR=>?_)
  ·have e3:wh % 8=3:=(G 3).1 hR;refine Qm<|Qs U h7 U U<|x (U7 (a:=(bY:Int)) (b:=3) U U oa og)<|x (XM (k':=.i64) U ⟨oa,oa⟩)<|x (Qy ⟨U,U,Z⟩) <|
    Qe<|QB (us:=[ZF (fn,((bY % 3:Nat):Int))]) U U og (by exact(by decide:1*2<=1000000)) oz λhu w9 H mo hS=>x (Zc [(0,[oE oF 3]),(1,[.string yY]),(3,[.slice (some ⟨hu,0,none⟩) 1 1])] ⟨U,U,U,U,U,U,Z⟩) <|
    x (Zc [(1,Qt ⟨3,yY,Uv,.slice (some ⟨hu,0,none⟩) 1 1,[(fn,((bY % 3:Nat):Int))],Zl,[],0⟩)] ⟨U,U,Z⟩)<|Qe<|Qj (us:=ZL ⟨false,⟨3,yY,Uv,.slice (some ⟨hu,0,none⟩) 1 1,[(fn,((bY % 3:Nat):Int))],Zl,[],0⟩⟩) (Y.I H) U U U U ⟨U,U,U,U,U,U,U,U,U,U,Z⟩ λhs I hg=>xe ?_
   have kt:hu≠J:=oa
   refine Qk ⟨[_],⟨⟨_,U,Qn U (hg.at (L:=[]) oe).cells⟩,Z⟩,(S.D H).O I he,⟨false,⟨3,yY,Uv,.slice (some ⟨hu,0,none⟩) 1 1,[(fn,((bY % 3:Nat):Int))],Zl,[],0⟩⟩,rfl,?_,⟨by show J0 yY;decide,⟨Zm.nil _ _ _,Zm.nil _ _ _,Zm.nil _ _ _⟩,⟨?_,λp hp=>by rw[Lb.1 hp];exact gj⟩,Vh.nil⟩⟩
   ·rw[T];unfold UW;rw[OP n0,OP n1,OP (λe=>n2 e.1),OQ e3];rfl
   exact(hS.J I (oy kt)).arr (λhm=>ou (hN _ hm) S.size) (n:=1) (cap:=1) (sz:=2) U og (Lv _)
  have n3:¬wh % 8=3:=λe=>hR ((G 3).2 e);refine Qc<|x (QY U U)<|Qb<|QX U (λhT=>?_) (λhT=>?_)
  ·have e4:wh % 8=4:=(G 4).1 hT;refine Qm<|x (Qy ⟨U,U,Z⟩)<|Qe<|QB (us:=[ZF (fn,1)]) U U og (by exact(by decide:1*2<=1000000)) oz λhv w9 H mq ku =>
    Qs rfl (h7.I H) U U<|x (U7 (a:=(bY:Int)) (b:=3) U U oa og)<|x (XM (k':=.i64) U ⟨oa,oa⟩)<|x (Zc [(0,[oE oF 4]),(1,[.string yZ]),(4,[.slice (some ⟨hv,0,none⟩) 1 1]),(5,[oE oF ((bY % 3:Nat):Int)])] ⟨U,U,U,U,U,U,U,U,Z⟩) <|
    x (Zc [(1,Qt ⟨4,yZ,Uv,Zl,[],.slice (some ⟨hv,0,none⟩) 1 1,[(fn,1)],((bY % 3:Nat):Int)⟩)] ⟨U,U,Z⟩)<|Qe<|Qj (us:=ZL ⟨false,⟨4,yZ,Uv,Zl,[],.slice (some ⟨hv,0,none⟩) 1 1,[(fn,1)],((bY % 3:Nat):Int)⟩⟩) (Y.I H) U U U U ⟨U,U,U,U,U,U,U,U,U,U,Z⟩ λhs I hg=>xe ?_
   have kv:hv≠J:=oa
   refine Qk ⟨[_],⟨⟨_,U,Qn U (hg.at (L:=[]) oe).cells⟩,Z⟩,(S.D H).O I he,⟨false,⟨4,yZ,Uv,Zl,[],.slice (some ⟨hv,0,none⟩) 1 1,[(fn,1)],((bY % 3:Nat):Int)⟩⟩,rfl,?_,⟨by show J0 yZ;decide,⟨Zm.nil _ _ _,Zm.nil _ _ _,Zm.nil _ _ _⟩,Vh.nil,⟨?_,λp hp=>by rw[Lb.1 hp];exact gj⟩⟩⟩
   ·rw[T];unfold UW;rw[OP n0,OP n1,OP (λe=>n2 e.1),OP n3,OQ e4];rfl
   exact(ku.J I (oy kv)).arr (λhm=>ou (hN _ hm) S.size) (n:=1) (cap:=1) (sz:=2) U og (Lv _)
  have n4:¬wh % 8=4:=λe=>hT ((G 4).2 e);refine Qc<|x (QY U U)<|Qb<|QX U (λhU=>?_) (λhU=>?_)
  ·have e5:wh % 8=5:=(G 5).1 hU;refine Qc<|x (Zc [(0,[oE oF 1]),(1,[.string Jj])] ⟨U,U,U,U,Z⟩)<|x (Zc [(0,[.bool true]),(1,Qt ⟨1,Jj,Uv,Zl,[],Zl,[],0⟩)] ⟨U,U,U,U,Z⟩) <|
    Qe<|Qj (us:=ZL ⟨true,⟨1,Jj,Uv,Zl,[],Zl,[],0⟩⟩) Y U U U U ⟨U,U,U,U,U,U,U,U,U,U,Z⟩ λw9 H hL=>xe ?_
   refine Qk ⟨[_],⟨⟨_,U,Qn U (hL.at (L:=[]) oe).cells⟩,Z⟩,S.O H he,⟨true,⟨1,Jj,Uv,Zl,[],Zl,[],0⟩⟩,rfl,?_,⟨by show J0 Jj;decide,⟨Zm.nil _ _ _,Zm.nil _ _ _,Zm.nil _ _ _⟩,Vh.nil,Vh.nil⟩⟩;rw[T];unfold UW;rw[OP n0,OP n1,OP (λe=>n2 e.1),OP n3,OP n4,OQ e5];rfl
  have n5:¬wh % 8=5:=λe=>hU ((G 5).2 e);refine Qc<|x (QY U U)<|Qb<|QH U (λhV=>?_) (λhV=>?_)
  ·have n6:¬wh % 8=6:=λe=>hV ((G 6).2 e);refine Qh<|⟨(),Z,U,?_⟩;unfold UW;rw[OP n0,OP n1,OP (λe=>n2 e.1),OP n3,OP n4,OP n5,OP (λe=>n6 e.1)]
  have e6:wh % 8=6:=(G 6).1 hV;refine Qc<|Qs U ha U U<|x (QY U U)<|xe<|QX U (λhW=>?_) (λhW=>?_)
  ·have hk1:q.kd=1:=hW;refine Qc<|Q7 U<|Qe<|QE (u:=.string UM) ha U U (L9 U) U λw9 H hS=>xe ?_;refine Qc<|Q6 hS U U<|x (Zc [(1,Qt { q with nm:=UM })] ⟨U,U,Z⟩)<|Qe<|Qj (us:=ZL ⟨false,{ q with nm:=UM }⟩) (Y.J H (oy kb.symm)) rfl rfl rfl rfl ⟨rfl,rfl,rfl,hF.2.2⟩ λhs I hg=>xe ?_
   have kw:O1 (J::N) w5 hs:=((hc.O H gi).mono oe).Q (I.mono h9);refine Qk ⟨[_],⟨⟨_,U,Qn U (hg.at (L:=[]) oe).cells⟩,Z⟩,(S.O H oa).O I he,⟨false,{ q with nm:=UM }⟩,rfl,?_,?_⟩
   ·rw[T];unfold UW;rw[OP n0,OP n1,OP (λe=>n2 e.1),OP n3,OP n4,OP n5,OQ ⟨e6,hk1⟩];rfl
   have V:Ke (J::N) w5.heap v5 E:=Jg.dits hj.1 oa hH;have h2:=((V.each q hr).st kw).up (L':=N) (λb O=>.inl (Lj _ O));exact⟨by show J0 UM;decide,h2.a,h2.ls,h2.ts⟩
  have hk1:¬q.kd=1:=hW;refine Qh<|⟨(),Z,U,?_⟩;unfold UW;rw[OP n0,OP n1,OP (λe=>n2 e.1),OP n3,OP n4,OP n5,OP (λe=>hk1 e.2)]
 rintro _ g9 w9 ⟨rfl,hI⟩;refine Qc<|Q6 ha U U<|x (Zc [(1,Qt q)] ⟨U,U,Z⟩)<|Qe<|Qj (us:=ZL ⟨false,q⟩) Y U U U U ⟨U,hF⟩ λhs I hg=>xe ?_;refine Qk ⟨[_],⟨⟨_,U,Qn U (hg.at (L:=[]) oe).cells⟩,Z⟩,S.O I he,⟨false,q⟩,rfl,?_,(hJ.st (I.mono h9)).up (λb O=>.inl (Lj _ O))⟩;rw[T,hI];rfl
theorem Qii (h:(ZE c).1≠0):(ZE c).2=[]:=by
 unfold ZE at *;split
 ·rfl
 rename_i l hl;rw[hl]at h;simp only[]at h;split
 ·rfl
 rename_i E;rw[OP E]at h;exact OS U h
theorem Qlh {l:xq}{r:List (ByteArray×Int)}(h:Ku co l=some r)(hl:l≠[]):0<r.length:=by
 rw[qS h];exact List.length_pos_iff.2 hl
theorem Qil {co:List YU}:∀{l:List UA}{a:List ZQ},X6 co l=some a->(∀q∈l,q.ls≠[])->∀x∈a,x.kd=3/\0<x.ls.length
 | [],a,h,_=>by
  rw[X6]at h;cases h
  exact λx hx=>by cases hx
 | x::l,a,h,H=>by
  rw[X6]at h;cases hx:Ku co x.ls with
  | none=>rw[hx]at h;cases h
  | some n =>
   rw[hx]at h;cases E:X6 co l with
   | none=>rw[E]at h;cases h
   | some r =>
    rw[E]at h;cases h
    intro y G;rcases Li.1 G with rfl|G
    ·exact⟨U,Qlh hx (H x Lq)⟩
    exact Qil E (λq I=>H q (Lj _ I)) y G
theorem Qim {co:List YU}:∀{l:List xG}{a:List ZQ},Je co l=some a->∀x∈a,x.kd=4
 | [],a,h=>by
  rw[Je]at h;cases h
  exact λx hx=>by cases hx
 | x::l,a,h=>by
  rw[Je]at h;cases hx:Ku co x.ts with
  | none=>rw[hx]at h;cases h
  | some n =>
   rw[hx]at h;cases E:Je co l with
   | none=>rw[E]at h;cases h
   | some r =>
    rw[E]at h;cases h
    intro y G;rcases Li.1 G with rfl|G
    ·rfl
    exact Qim E y G
theorem Qih (S:Zi c=0):∀y∈(ZE c).2,(y.kd=3->0<y.ls.length)/\y.ls.length<=1000000/\(y.kd=1->X9 y.a=0):=by
 intro y E;by_cases h:(ZE c).1=0
 rotate_left
 ·rw[Qii h]at E;cases E
 have he:=Qal (VP S) h y E;refine⟨?_,LH he.1 og,?_⟩
 all_goals
  have T:=ZZ S;have hf:∀x∈c.ex,x.ls≠[]:=by
   have G:=T.cd;unfold YB at G;by_cases V:8<(szs c.co).length
   ·rw[OQ V]at G;cases G
   rw[OP V]at G;by_cases Y:(szs c.co).any K2=true
   ·rw[OQ Y]at G;cases G
   rw[OP Y]at G;by_cases h4:32<c.ex.length\/32<c.cs.length
   ·rw[OQ h4]at G;cases G
   rw[OP h4]at G;by_cases J:YA (szs c.co) [] c.ex≠0
   ·rw[OQ J]at G;exact OS G J
   intro x hx e;have O:=JS _ _ _ (Ln.1 J) x hx;unfold JA at O;rw[e]at O;cases O
  obtain⟨a,b,ha,hb,e,_⟩:=VI h;rw[e]at E;intro H;rcases Lc.1 E with E|E
  ·obtain⟨z,hz,rfl⟩:=LC.1 E
   first
   | exact OS (show(1:Int)=3 from H) og
   | exact(Z0 _).2 (T.co z hz)
  rcases Lc.1 E with E|E
  ·obtain⟨z,_,rfl⟩:=LC.1 E
   first
   | exact OS (show(2:Int)=3 from H) og
   | exact OS (show(2:Int)=1 from H) og
  rcases Lc.1 E with E|E
  ·have I:=Qil ha hf y E
   first
   | exact I.2
   | exact OS (I.1.symm.D H) og
  have I:=Qim hb y E;exact OS (I.symm.D H) og
abbrev z6:LV:=[Zl,Zl,Zl,Zl,Zl,Zl]
section
variable {LL:LN}{w8:OX}{z:BlS}
end
theorem QiJ :
  Q3 prog 16 [Kx] w λr w'=>r=.tuple #[.agg Z3.toArray,oE oF 1]/\O1 [] w w':=by
 refine Zq func16 ?_;refine Qc<|Qe<|Qo (us:=Z3) U λb2 O E G H=>Qb<|Qd<|Qm<|x (Yp underlying46 U U)<|xe<|QQ rfl (λ_=>?_) (λh=>by cases h);refine Qc<|x (Qy Z)<|Qe<|Qj (us:=Z3) H U U U U ⟨U,U,U,U,U,Z⟩ λS I J=>Qb<|Qk ⟨[.agg Z3.toArray,oE oF 1],⟨⟨_,U,Qn U (J.at (L:=[]) oe).cells⟩,rfl,Z⟩,rfl,E.O I G⟩
theorem Qk5 :
  Q3 prog 17 [Kx] w λr w'=>r=.tuple #[Zl,oE oF 1]/\O1 [] w w':=by
 refine Zq func17 ?_;refine Qc<|x Ql<|Qb<|Qd<|Qm<|x (Yp underlying46 U U)<|xe<|QQ rfl (λ_=>?_) (λh=>by cases h);refine Qc<|x Ql<|Qb<|Qk ⟨[Zl,oE oF 1],oz,U,O1.Z _ _⟩
theorem Qh9 :
  Q3 prog 13 [Kx,vl] w λr w'=>r=.tuple #[.agg Ym.toArray,oE oF 1]/\O1 [] w w':=by
 refine Zq func13 ?_;refine Qc<|Qe<|Qo (us:=Ym) U λb2 O E G H=>Qb<|Qd<|Qg<|Qm<|x (Yp underlying46 U U)<|Qb<|QQ U (λ_=>?_) (λh=>by cases h);refine Qc<|x (Qy Z)<|Qe<|Qj (us:=Ym) H U U U U oA λS I J=>Qb<|Qk ⟨[.agg Ym.toArray,oE oF 1],⟨⟨_,U,Qn U (J.at (L:=[]) oe).cells⟩,rfl,Z⟩,rfl,E.O I G⟩
theorem QjL :
  Q3 prog 26 [Kx] w λr w'=>r=.tuple #[.agg X4.toArray,oE oF 1]/\O1 [] w w':=by
 refine Zq func26 ?_;refine Qc<|Qe<|Qo (us:=X4) U λb2 O E G H=>Qb<|Qd<|Qm<|x (Yp underlying46 U U)<|xe<|QQ rfl (λ_=>?_) (λh=>by cases h);refine Qc<|x (Qy Z)<|Qe<|Qj (us:=X4) H U U U U oB λS I J=>Qb<|Qk ⟨[.agg X4.toArray,oE oF 1],⟨⟨_,U,Qn U (J.at (L:=[]) oe).cells⟩,rfl,Z⟩,rfl,E.O I G⟩
theorem Qj6 :
  Q3 prog 27 [Kx] w λr w'=>r=Zl/\O1 [] w w':=by
 refine Zq func27 ?_;refine Qc<|Qb<|Qd<|Qm<|x (Yp underlying46 U U)<|xe<|QQ rfl (λ_=>?_) (λh=>by cases h);refine Qc<|Qb<|Qk ⟨[Zl],La,U,O1.Z _ _⟩
theorem Qhg :
  Q3 prog 12 [Kx] w λr w'=>r=oE oF 0/\O1 [] w w':=by
 refine Zq func12 ?_;refine Qc<|Qb<|Qd<|Qm<|x (Yp underlying46 U U)<|xe<|QQ rfl (λ_=>?_) (λh=>by cases h);refine Qc<|Qb<|Qk ⟨[oE oF 0],La,U,O1.Z _ _⟩
theorem QfB :
  Q3 prog 28 [Kx] w λr w'=>r=Kx/\O1 [] w w':=by
 refine Zq func28 ?_;refine Qc<|Qb<|Qd<|Qm<|x (Yp underlying46 U U)<|xe<|QQ rfl (λ_=>?_) (λh=>by cases h);refine Qc<|Qb<|Qk ⟨[Kx],La,U,O1.Z _ _⟩
theorem Qgh :
  Q3 prog 18 [Kx] w λr w'=>r=oE oF 1/\O1 [] w w':=by
 refine Zq func18 ?_;refine Qc<|Qb<|Qd<|Qm<|x (Yp underlying46 U U)<|xe<|QQ rfl (λ_=>?_) (λh=>by cases h);refine Qc<|Qb<|Qk ⟨[oE oF 1],La,U,O1.Z _ _⟩
theorem QjJ :
  Q3 prog 29 [Kx] w λr w'=>r=oE oF 1/\O1 [] w w':=by
 refine Zq func29 ?_;refine Qc<|Qb<|Qd<|Qm<|x (Yp underlying46 U U)<|xe<|QQ rfl (λ_=>?_) (λh=>by cases h);refine Qc<|Qb<|Qk ⟨[oE oF 1],La,U,O1.Z _ _⟩
theorem Qj8 {pS:String}{te:Nat}(G:P.underlying t=some (.pointer te)){x:OZ}{a:Option Addr}(hx:ev f x=.pointer a)(H:ev f y=.pointer none):
  (execOp (ev f) ⟨d,.binOp .neq t x y E,ty,pS,af,gd⟩).run P w=.ok (.value (.bool (!a.isNone))) w:=by
 have I:(eqGuard .neq t x y (.pointer a) (.pointer none)).run P w=.ok () w:=by simp[eqGuard]
 have key:∀m,(Op.equalIn (m+1) t (.pointer a) (.pointer none)).run P w=.ok a.isNone w:=by
  intro m;unfold Op.equalIn;cases a <;> simp[run_underlying G]
 have J:(Op.equal t (.pointer a) (.pointer none)).run P w=.ok a.isNone w:=key 9999;simp only[execOp,hx,H,Sem.run_bind,I,Result.andThen_ok,binOp,J,Sem.run_pure]
theorem Qkp:qq (mzC 1)=0:=od
theorem QpD (h:(ZE c).1=0)(I:c.co.length≠0)(a b:Nat):∃y∈(ZE c).2,dMk c 7 a b=(false,y):=by
 have H:(ZE c).2≠[]:=by
  obtain⟨x,y,_,_,e,_⟩:=VI h;rw[e];intro J;have E:=OR oO J;rw[Ll,Lh]at E;simp at E;exact I (by rw[E.1];rfl)
 have G:a % (ZE c).2.length<(ZE c).2.length:=OI _ (List.length_pos_iff.2 H);refine⟨_,Lk G,?_⟩;unfold dMk;rw[OQ ⟨h,H⟩,show(ZE c).2.getD (a % (ZE c).2.length) Qft=(ZE c).2[a % (ZE c).2.length]'G from by simp[oP,G]];rfl
theorem Qe7 {a0 a1 a2:Nat}{many:Bool}(gp:a0<256)(gq:a1<256)(gr:a2<256)(hr:Kb w 4096):
  Q3 prog 7 [.agg #[.int .u8 (a0:Int),.int .u8 (a1:Int),.int .u8 (a2:Int)],.bool many] w λr w'=>r=.bool true/\O1 [] w w':=by
 refine Zq func7 ?_;refine Qc<|Qe<|QW (us:=[.int .u8 (a0:Int),.int .u8 (a1:Int),.int .u8 (a2:Int)]) U λb2 w1 hS m7 gs=>Qb<|Qd<|Qc<|QM<|(Qc8 (hr.I hS)).mono ?_;rintro r2 w2 ⟨rfl,hT⟩;refine x (ZC U)<|xe<|ZS rfl<|Qh ?_;have gt:=hS.D hT;refine Qc<|Qb<|Qm<|QM<|(QiJ).mono ?_;rintro r3 w3 ⟨rfl,gu⟩;refine Qa<|QZ U U<|QZ U U<|Qe<|Qo (us:=Z3) U λb6 w4 gv gw gx=>Qe<|Qj (us:=Z3) gx U U U U ⟨U,U,U,U,U,Z⟩ λw5 gy gz=>Qb ?_;have g0:O1 [] w2 w5:=gu.D (gv.O gy gw);refine Qm<|QM<|(Qk5).mono ?_;rintro r6 w6 ⟨rfl,hU⟩;refine Qa<|QZ U U<|QZ U U<|x Ql<|Qb ?_;have O:=g0.D hU;have g2:=gt.D O;have g3:=(gs.I hT).I O;refine Za (α:=Nat) [(34,42),(10,11)] (λz=>[(10,pS z),(11,oE oF 1)]) (λz w'=>O1 [] w6 w'/\Q9 w'.heap z 53 Ym) ol ?_ ?_
 ·refine Kc (α:=Unit) (O1 [] w6) [oC 0,oC 2] [oD 1,oD 3,oD 4,oD 5,oC 6,oC 7,oC 8] 9 10 [oD 10,oC 11] []
   [(34,42)] [(34,34),(36,36),(38,42)] (λ_=>[(41,.agg Ym.toArray),(42,oE oF 1)]) (λ_ _ _=>True)
   (λv w'=>∃b,v=pS b/\w6.heap.size<=b/\Q9 w'.heap b 53 Ym) mixed ol od ol U (O1.C _ _) oe ?_ ?_ ?_ ?_
  ·rintro v own wa wb ⟨b,rfl,E,hB⟩ I hn;exact⟨b,U,E,hB.J I (hn b oq)⟩
  ·rintro z own wa wb G I;exact G
  ·rintro z g own wz v _ g4 ⟨b,rfl,E,hB⟩ m8;refine pkl (hl:=by kernel_rfl)<|Qj (us:=Ym) hB U U U U oA λw8 ht g5=>p ZM<|pe ?_;exact⟨b,oz,g4.O ht E,g5⟩
  refine p QF<|pq (λ_ H=>ZT (g3.I H) U U)<|pe ⟨λg wf hV=>Qo (us:=Ym) U λb m9 hW hX hY=>⟨hW,hV.D hW,⟨b,U,LH hV.size hX,hY⟩,λx hx=>?_⟩,?_⟩
  ·have g6:x=b:=by
    have g8:x∈[b]:=hx;simpa using g8
   subst g6;exact⟨hX,hY.lt⟩
  refine f2k λx1 p1 c1=>xg<|(Xz x1).mono ?_;rintro _ y1 ⟨q1,c,rfl,ec,hC⟩;refine⟨c1.D q1,[],q1,λb E=>.inl E,?_⟩;have J:Zi c.V=0:=by rw[ec];exact Qhu
  have g9:0<c.co.length:=by
   have G:=(ZZ J).c0;have h2:c.V.co.length=c.co.length:=Lh _;omega
  refine f2k λx2 p2 c2=>xg<|(ja (N:=[]) oe ((hC [] oe).I p2) (VP J) g9 (Qih J) gp gq gr).mono ?_;rintro _ y2 ⟨q2,e,rfl,_,_⟩;refine⟨c2.D q2,[],q2,λb E=>.inl E,?_⟩;refine f2k λx3 p3 c3=>QB (us:=[ZL e]) U U og (by exact(by decide:1*10<=1000000)) oz λpa x4 p4 pc pd=>⟨c3.D p4,[],p4,λb E=>.inl E,?_⟩;refine f2k λx5 p5 c5=>xg<|(Qh9).mono ?_;rintro _ y6 ⟨rfl,q6⟩;refine⟨c5.D q6,[],q6,λb E=>.inl E,?_⟩;exact f2p QF<|f2p (λ_=>Zn U U)<|f2p (λ_=>Zn U U)<|f2e ⟨(),oz,Z⟩
 rintro pf g7 w7 ⟨hZ,ka⟩;refine Qm<|QM<|(QjL).mono ?_;rintro r7 w8 ⟨rfl,ht⟩;refine Qa<|QZ U U<|QZ U U<|Qe<|Qo (us:=X4) U λb12 w9 kb kc ke=>Qe<|Qj (us:=X4) ke U U U U oB λhg kf kg=>Qb ?_;have hu:O1 [] w7 hg:=ht.D (kb.O kf kc);have kh:=(g2.D hZ).D hu;have ki:=((gz.I hU).I hZ).I hu;have ga:=ka.I hu;have V:∀sz,Zm [] hg.heap Zl 0 sz []:=λsz=>Zm.nil _ _ sz;refine Qd<|Za (α:=Unit) [(48,77)] (λ_=>[(77,.bool false)]) (λ_ w'=>O1 [] hg w') ol ?_ ?_
 ·refine ZI [] [oC 0,oC 1,oC 2,oC 3,oC 4,oC 5,oC 6,oC 7,oC 8,oC 9,oC 10,oC 11,oC 12,oC 13,oC 14,oC 15,oC 16,oC 17,oC 21,oD 18,oC 19,oC 20,oD 22,oC 23,oC 24,oC 25,oC 26,oD 27,oC 28,oC 29]<|p (QR U)<|pq (λ_ H=>Qr (ki.I H) U U)<|p (λ_=>Yv (V 1) U)<|p QF<|p (λ_=>Yv (V 1) U)<|p (λ_=>Xu U U ⟨og,og⟩) <|
   p (QR rfl)<|pq (λ_ H=>Qr (ga.I H) U U)<|p (λ_=>Yv (V 1) U)<|p (λ_=>Xu U U ⟨og,og⟩)<|p (QR U)<|pq (λ_ H=>Qr (ga.I H) U U) <|
   p (λ_=>Yv (V 1) U)<|p (λ_=>Xu U U ⟨og,og⟩)<|p (QR U)<|pq (λ_ H=>Qr (kg.I H) U U)<|p (λ_=>Xu U U ⟨og,og⟩)<|p QF<|p QF<|pk<|xg<|(Qj6).mono ?_
  rintro _ pg ⟨rfl,kj⟩;have hh:=(O1.C [] hg).D kj;refine⟨hh,?_⟩;refine p (λ_=>Yv (V 1) U)<|p (λ_=>Xu U U ⟨og,og⟩)<|pk<|xg<|(Qhg).mono ?_;rintro _ ph ⟨rfl,hv⟩;refine⟨hh.D hv,?_⟩;refine p (λ_=>Xu U U ⟨og,og⟩)<|pb (λ_=>Xr U U) (λh=>OS U h) (λ_=>?_);refine p QF<|p QF<|pk<|xg<|(QfB).mono ?_;rintro _ pj ⟨rfl,gb⟩;refine⟨(hh.D hv).D gb,?_⟩;refine p (λ_=>Qj8 underlying46 U U)<|p (Xf U)<|pe ?_;exact⟨(),La,(hh.D hv).D gb⟩
 rintro _ pm kk kn;refine ZS rfl<|Qh<|Qd<|Za (α:=Unit) [(78,101)] (λ_=>[(101,.bool false)]) (λ_ w'=>O1 [] kk w') ol ?_ ?_
 ·refine Qw<|Qa<|xb (Xr U U) (λh=>OS U h) (λ_=>?_);refine Qa<|Qa<|xb (Xr U U) (λh=>OS U h) (λ_=>?_);refine QG U<|Qa<|Qa<|xb (Xr U U) (λh=>OS U h) (λ_=>?_);refine QG U<|Qa<|Qa<|xb (Xr U U) (λh=>OS U h) (λ_=>?_);refine QG U<|Qa<|Qa<|QM<|(Qgh).mono ?_;rintro _ pn ⟨rfl,ko⟩;refine xb (Xr U U) (λh=>OS U h) (λ_=>?_);refine QG U<|Qa<|Qa<|QM<|(QjJ).mono ?_;rintro _ po ⟨rfl,kq⟩;refine xb (Xr U U) (λh=>OS U h) (λ_=>?_);refine QG U<|xe ?_;exact⟨(),La,ko.D kq⟩
 rintro _ pp kr kt;refine ZS rfl<|Qh ?_;have hw:=(kh.D kn).D kt;refine Qd<|Qm<|x (ZC U)<|xe<|QQ rfl (λku=>?_) (λku=>?_)
 ·refine Qc<|Qb<|Qk ⟨[.bool true],La,U,hw⟩
 refine Qh<|Qc<|QM<|(Xo 1 og kr).mono ?_;rintro pu kv ⟨gc,c,rfl,ec,hC⟩;have Y:qq c.V=0:=by rw[ec];exact Qkp
 have J:=(Qcp Y).2.1;have h0:=(Qcp Y).1;have hz:=VP J;refine QM<|(Qjc (hC [] oe) hz (hr.I (hw.D gc))).mono ?_;rintro pw kw ⟨gg,vp,rfl,_,kx⟩;refine Exists.elim (kx Y) λs I=>?_;have evp:=I.1;have esy:=I.2.1;have kz:=I.2.2.1;have hSy:=I.2.2.2;have k0:YR 1 s.sys:=by rw[esy];exact YR.new Y
 refine Qa<|QZ U U<|QZ U U<|x Ql<|Qb ?_;have gh:=hw.D gc;have k4:=gh.D gg;refine Qd<|Za (α:=Unit) [(109,114)] (λ_=>[(114,.bool false)]) (λ_ w'=>w'=kw) ol ?_ ?_
 ·refine Qw<|Qa<|xb (Xr U U) (λh=>OS Y h) (λ_=>?_);refine Qa<|Qa<|x (Yp underlying46 (show Go.Lg.ev _ _=.pointer (some ⟨s.b,0,none⟩) from evp) U)<|QG U<|xe ?_;exact⟨(),La,U⟩
 rintro _ pz k5 rfl;refine ZS rfl<|Qh<|Qc<|QM<|(Xo 1 og k5).mono ?_;rintro p0 k6 ⟨h4,cm,rfl,ecm,k7⟩;have h5:Zi cm.V=0:=by rw[ecm,<-ec];exact J
 have k8:cm.V.co.length≠0:=(ZZ h5).c0;have k9:0<cm.co.length:=by
  have h2:cm.V.co.length=cm.co.length:=Lh _;omega
 have gi:cm.V=c.V:=by rw[ecm,ec]
 have hN:∀b∈s.own,b<k6.heap.size:=λb E=>LT (hSy.lt b E) h4.size;refine x (Qy ⟨U,Z⟩)<|QM<|(ja (N:=s.own) (wh:=7) (at_:=0) (bY:=0) hN (k7 [] oe) (VP h5) k9 (Qih h5) og og og).mono ?_;rintro p6 p7 ⟨gj,e,rfl,he,hq⟩;refine Qe<|QB (us:=[ZL e]) U U og (by exact(by decide:1*10<=1000000)) oz λhj p8 gk p9 ma=>Qb ?_;have S:∃y∈(ZE c.V).2,e.e=(false,y):=by
  rw[he,gi];exact QpD h0 (by rw[<-gi];exact k8) 0 0
 refine Exists.elim S λy S=>?_;have h6:=Qib J h0 S.1;have mf:∀x∈[e].map YV.e,jE x.2:=by
  intro x hx;rw[Lb.1 hx,S.2];exact Qal hz h0 y S.1
 have mg:[e].map YV.e=[(false,y)]:=by rw[LE,S.2];rfl
 have h7:=(h4.D gj).D gk;have mh:=k4.D h7;have qc:=h7.size;refine Qd<|Qc<|Qb<|Qg<|QD (α:=Nat×Kr×LN) [(4,4),(17,19),(119,130)] (λz=>[(17,oE oF z.1)])
  (λz w'=>z.1<=64/\z.2.1.b=s.b/\z.2.1.sys.c=c.V/\YR (z.1+1) z.2.1.sys/\z.2.1.sys.un.length=z.1/\O1 [] w w'/\Vu z.2.2 w' z.2.1/\(∀b∈z.2.2,b<w'.heap.size)/\(∀b∈z.2.1.own,w.heap.size<=b)/\Q9 w'.heap hj 65 (ZL e)/\hj∉z.2.1.own/\XT z.2.1.own w'.heap e.q)
  (λz=>64 - z.1) ol (0,s,s.own++oW kv.heap.size) La
  ⟨Lo _,U,by rw[esy];rfl,k0,by rw[esy];rfl,mh,hSy.I h7,λb E=>by
   rcases Lc.1 E with E|E
   ·have:=hSy.lt b E;omega
   have:=Nu.1 E;have:=gg.size;omega,λb E=>LH gh.size (kz b E),ma,λhm=>by have G:=hSy.lt hj hm;have h2:=h4.size;have h3:=gj.size;omega,hq.I gk⟩ ?_
 rintro⟨i,si,L⟩ qo gl ⟨hi,h8,h9,ha,gm,hk,hD,hF,hG,hH,nbi,hI⟩;simp only[]at hi h8 h9 ha gm hD hF hG nbi hI;have hR:=q7 hD ha oa hF (QoG hH (hI.up (L':=[]) oe)) mf (hr.I hk);rw[mg,h8,<-evp]at hR;refine Qd<|Qm<|Q0 U U<|xe<|QH rfl (λhJ=>?_) (λhJ=>?_)
 ·have q0:i=64:=by have G:¬(i:Int)<64:=hJ;omega
  have hE:yn si.sys [(false,y)]=3:=by
   unfold yn;rw[OP oe,OQ oa]
  refine Qz ?_;rw[hE]at hR;refine Qm<|Qa<|QM<|hR.mono ?_;rintro q3 hK ⟨qr,rfl,hL,mi,_⟩;have mj:=(mi og).1;have hM:=hL [] oe;refine Qa<|QZ U U<|QZ U U<|Qe<|Qo (us:=Ym) U λq4 mn O mo mq=>Qe<|Qj (us:=Zr qr) mq U U U U hM.ones λho hO za=>Qb ?_;have gn:O1 [] gl ho:=mj.D (O.O hO mo);have zb:si.rs.length=64:=by
   have G:=ha.ln;have h2:si.sys.rs.length=si.rs.length:=Lh _;omega
  have hRep:=QaS (hD.I gn) oa;rw[h8,<-evp]at hRep;refine Za (α:=Unit) [(4,4),(137,144)] (λ_=>[(4,.bool true)]) (λ_ w'=>O1 [] ho w') ol ?_ ?_
  ·refine Qw<|Qa<|xb (QY U U) (λ_=>?_) (λh=>OS U h);refine Qa<|Qa<|QM<|hRep.mono ?_;rintro vR zv ⟨ms,rs,ers,mt⟩;have z0:rs.length=64:=by
    have G:=OR oO ers;rw[Lh,Lh]at G;omega
   refine QI (mt.lst (L:=[]) oa oe).arr rfl<|x (QY rfl rfl)<|QG rfl<|Qb<|⟨(),⟨OR Value.bool (OT (show((rs.length:Nat):Int)=64 by omega)),Z⟩,ms⟩
  rintro _ z1 z2 mu;exact Qk ⟨[.bool true],La,U,(hk.D gn).D mu⟩
 have mv:i<64:=by have G:(i:Int)<64:=hJ;omega
 rw[<-h9]at h6;have mw:yy si.sys.c si.sys.ps:=ha.st;have my:=QiV mw ((si.sys.un.length:Int)+1);have mz:yn si.sys [(false,y)]=0:=Qk7 ha oa h6 my.1;rw[mz]at hR;refine Qh<|Qd<|Qg<|Qm<|Qa<|QM<|hR.mono ?_;rintro z3 hK ⟨qr,rfl,hL,_,hP⟩;have hM:=hL [] oe;have hP:=hP U;refine Exists.elim hP.2 λs2 T=>?_;have e2b:=T.1;have e2s:=T.2.1;have m2:=T.2.2.1;have hp:=T.2.2.2.1;have go:=T.2.2.2.2.1;have hQ:=T.2.2.2.2.2;refine Qa<|QZ U U<|QZ U U<|Qe<|Qo (us:=Ym) U λz4 mn O m3 m4=>Qe<|Qj (us:=Zr qr) m4 U U U U hM.ones λho hO z5=>Qb ?_;have hf:O1 [] hK ho:=O.O hO m3;refine Qm<|ZB U U<|xe<|QX rfl (λh=>OS U h) (λ_=>?_);refine Qh<|Qw<|Qa<|QS U U<|Qb ?_;have hlB:=hH.lt;have zst2:=hp.size;have m5:O1 [] w hK:=UI hk hG hp;have m6:∀b∈si.own++s2.own,b∈si.own\/gl.heap.size<=b:=λb E=>(Lc.1 E).elim .inl (hQ b);refine⟨(i+1,s2,s2.own++L),by show 64 - (i+1)<64 - i;omega,La,mv,e2b,?_,m2,?_,m5.D hf,go.I hf,?_,?_,(hH.J hp nbi).I hf,?_,?_⟩
 ·rw[e2s];show(VG si.sys.c [(false,y)]).2=_;rw[h6];exact h9
 ·rw[e2s];show(si.sys.un++[_]).length=i+1;rw[Ll,gm];rfl
 ·intro b E;have:=hf.size;rcases Lc.1 E with E|E
  ·have:=go.lt b E;omega
  have:=hF b E;omega
 ·intro b E;rcases hQ b E with G|G
  ·exact hG b G
  exact LH hk.size G
 ·intro hm;rcases hQ hj hm with G|G
  ·exact nbi G
  omega
 exact((((hI.up m6).st (hp.mono λb E=>Lc.2 (.inl E))).up (L':=s2.own) λb E=>.inl (Lc.2 (.inr E))).I hf)
open Go.RowKit
theorem Xj {a b:Bool}(E:a=true)(G:b=true):(a && b)=true:=by rw[E,G];rfl
theorem Qab {f:FuncId}{s:ChangeSpec}{c:OpenClaim}(E:(c.wf (OpenSpec.ofChange s))=true)(G:(laidOutB P)=true)(H:(mapsRowed P)=true)(I:(fn.params.all (P.readableRec ·))=true)(J:(namedTie P c.named s.vars)=true)(O:((c.stops == []))=true)(S:((P.stops == []))=true)(T:((c.knobs == []))=true)(V:((P.stopKnobs == []))=true)(Y:((c.inPlace == P.inPlace f))=true)(ha:((c.unfollowed == P.unfollowed f))=true)(hb:((c.recurses == P.recurses f))=true)(hc:((c.named == P.varsNamed f))=true)(he:((c.maps == (fn.params.toList++s.plain.varTypes P).any (P.mapsRec ·)))=true)(hf:((c.ifaces == (fn.params.toList++s.plain.varTypes P).any (P.ifacesRec ·)))=true)(hg:((c.mapsOut == P.mapsAmong fn.resultTypes.toList))=true)(hh:((c.loops == (fn.params.toList++s.plain.varTypes P).any (P.loopsFrom ·)))=true)(hi:((c.wideKeys == (fn.params.toList++s.plain.varTypes P++fn.resultTypes.toList).any (P.wideKeysFrom ·)))=true)(hj:(s.vars.all (P.varReadable ·))=true)(hk:(fn.resultTypes.all (λt=>P.readableRec t && decide (t<P.types.size)))=true)(hl:((c.ifacesOut == fn.resultTypes.toList.any (P.ifacesRec ·)))=true)(hm:((c.loopsOut == fn.resultTypes.toList.any (P.loopsFrom ·)))=true)(hn:((c.plainKeys == P.plainKeys))=true)(ho:(c.shortTexts.isNone)=true)(hp:(P.stopsHeard)=true)(hq:(P.mayEnter)=true)(hr:((c.lifted == P.liftsFinal))=true)(hs:((P.make == some c.make))=true)(ht:((c.kinds == (if c.domain.isEmpty then[]else fn.params.toList.map λt=>match P.underlying t with|some (.int k)=>some k|_=>none)))=true)(hu:((c.pinned == c.pinnedBy))=true)(hv:((c.veiled == (fn.params.toList++s.plain.varTypes P++fn.resultTypes.toList).any (P.veiledRec ·)))=true)(hw:(c.veiledFits P fn.params.toList (fn.params.toList++s.plain.varTypes P++fn.resultTypes.toList))=true):joinedFacts P f fn s c=true:=by
 unfold joinedFacts;exact(Xj (Xj (Xj (Xj (Xj (Xj (Xj (Xj (Xj (Xj (Xj (Xj (Xj (Xj (Xj (Xj (Xj (Xj (Xj (Xj (Xj (Xj (Xj (Xj (Xj (Xj (Xj (Xj (Xj (Xj (Xj E G) H) I) J) O) S) T) V) Y) ha) hb) hc) he) hf) hg) hh) hi) hj) hk) hl) hm) hn) ho) hp) hq) hr) hs) ht) hu) hv) hw)
theorem zD:laidOutB prog=true:=od
theorem Qhv:mapsRowed prog=true:=od
theorem Qhx:prog.stopsHeard=true:=od
theorem Qhy:prog.mayEnter=true:=od
theorem Qhw:(false == prog.liftsFinal)=true:=od
theorem QkE:(prog.make == some Make.cut)=true:=od
theorem QkI:(Rows.updateNilRow.inPlace == prog.inPlace 7)=true:=od
theorem QkH:(Rows.updateNilRow.unfollowed == prog.unfollowed 7)=true:=od
theorem QkG:(Rows.updateNilRow.recurses == prog.recurses 7)=true:=od
theorem QkF:(Rows.updateNilRow.named == prog.varsNamed 7)=true:=od
theorem QmW:Rows.updateNilRow.wfByText (OpenSpec.ofChange Rows.updateNilSpec)=true:=od
theorem QmZ:Tryz.pinned.checked.prog.mainIs=some (true, "2f54040c77bc06dd918a3bf4dde98a2bf5c7559f2e0a75d1941ed6a489a72ca6".toList):=od
theorem QmY:prog.funcNamed "overseer/overseerlaw56.UpdateNil" = some 7:=od
theorem Qm0:false=prog.looks []:=od
theorem QmX:([68,4].all λu=>!prog.wantsStandIn u)=true:=od
theorem Qm1:false=Rows.updateNilRow.goesBy Tryz.pinned.checked.prog:=od
open Go.ChangeShapes Go.WideShapes
theorem Qgi:∀(E:LN),E.length=3->∃a b c,E=[a,b,c]
 | [a,b,c],_=>⟨a,b,c,U⟩
 | [],h|[_],h|[_,_],h=>by simp at h
 | _::_::_::_::_,h=>by simp at h
theorem QfJ {H:Type}{enc:TypeId×OY->H}{W:OX}{base O:Nat}{sp:Nat->Bool}{S:Bool}{v:OY}{d:DataW H}{ps:List MemPlace}{t:TypeId}{fs:Array Field}(T:P.underlying t=some (.struct fs))(V:P.cellsOf t=3)(Y:kT P .u8 5 t=true)
  (G:Value.okWide P W .any base t v) (h:DataW.Trod enc P W O sp S t v d ps):∃I a1 a2:Nat,v=.agg #[.int .u8 (I:Int),.int .u8 (a1:Int),.int .u8 (a2:Int)]/\I<256/\a1<256/\a2<256:=by
 simp only[Value.okWide,T]at G;obtain⟨cs,rfl,J,_⟩:=G;rw[V]at J;obtain⟨l⟩:=cs;have hl:l.length=3:=J;obtain⟨fuel,hf⟩:=h;have ha:=zC 5 Y hf;obtain⟨ns,e1,e2,E⟩:=QiQ l (λc hm=>Qmi (ha c hm));obtain⟨a,b,c,rfl⟩:=Qgi ns (by rw[e2];exact hl);refine⟨a,b,c,?_,E a oe,E b oe,E c oe⟩;rw[e1];rfl
theorem QoW {H:Type}{enc:TypeId×OY->H}{W:OX}{base:Nat}{sp:Nat->Bool}{I:Bool}{v:OY}{d:DataW H}{ps:List MemPlace}(J:Value.okWide prog W .any base 68 v)(h:DataW.Trod enc prog W G sp I 68 v d ps):
  ∃E a1 a2:Nat,v=.agg #[.int .u8 (E:Int),.int .u8 (a1:Int),.int .u8 (a2:Int)]/\E<256/\a1<256/\a2<256 :=
 QfJ underlying68 od od J h
end Go.Lg
