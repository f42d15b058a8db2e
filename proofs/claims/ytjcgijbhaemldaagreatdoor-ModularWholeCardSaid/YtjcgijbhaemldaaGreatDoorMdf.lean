/- Merged out of 30 texts. -/
import Derived.Test.YtjcgijbhaemldaaGreatDoorMde
import Derived.Test.YtjcgijbhaemldaaGreatDoorRows
import Derived.JoinedOf
import Derived.Test.YtjcgijbhaemldaaGreatDoorCards
import Derived.SevenTiedAt
namespace Go.Proofs.YtjcgijbhaemldaaGreatDoor
open Go.Lg
section
variable {c:Q7}
theorem QpK (h:Jc c){m:YW}(hm:m∈mods c)(U:m.co≠[]):∀t∈spQ c,t.length=Y9 c∧(mI c m).map (λi=>cget t i)∈mQ c m:=by
 obtain⟨pl,ps,sa,ts,e1,e2,_⟩:=Vl h;have hd:=UL h hm U;have hs:=(Y1 hd).1;have hsp:=(Y1 hd).2.2.1;have V:=ZL hd;have a4:spQ c=ts:=by show Jo (auts c.co++auts c.rq)=ts;unfold Jo;rw[e2]
 have E:(auts c.co++auts c.rq).length=Y9 c:=by rw[Lj,ZE,ZE];rfl
 have he:(mB c m).st=((mQ c m).length:Int):=hs.st;have hf:0<(mB c m).st:=hsp;have H:0<(mQ c m).length:=by omega
 have key:=Qbt (P:=λt=>t.length=Y9 c∧(mI c m).map (λi=>cget t i)∈mQ c m) e2 (by
  refine⟨by rw[Nj,E],?_⟩;have h1:=hs.hd H;have e:(mI c m).map (λi=>cget (List.replicate (auts c.co++auts c.rq).length (0:Int)) i)=List.replicate (auts (Xb c m).co++auts (Xb c m).rq).length 0:=by
   rw[YZ h hm,Lh];refine LT (by simp) λi h1 h2=>?_;rw[LK,Ng];unfold cget;rw[LD,List.getElem?_replicate];split <;> rfl
  rw[e,←h1];exact(Yp H).2) (λt ht v hv u hu=>by
  have h1:t.length=(auts c.co++auts c.rq).length:=by rw[ht.1,E]
  obtain⟨h2,h3⟩:=(Yf v _ _ u h1).1 hu;refine⟨by rw[h2,E],?_⟩;have hp:∀i∈mI c m,pst v (cA c i) (cget t i)=some (cget u i):=λi hi=>by
   have I:=jr h hm i hi;have h4:=h3 i (by rw[E];exact I);have e:cA c i=(auts c.co++auts c.rq)[i]'(by rw[E];exact I):=by unfold cA;rw[ZJ]
   rw[e];exact h4
  have G:=Je (v:=v) (A:=cA c) (x:=λi=>cget t i) (is:=mI c m) λi hi=>by rw[hp i hi];rfl
  have Y:(mI c m).map (nx v (cA c) λi=>cget t i)=(mI c m).map λi=>cget u i:=MP λi hi=>by unfold nx;rw[hp i hi];rfl
  rw[Y,←YZ h hm]at G;have hj:=LS ht.2;have h5:(mQ c m).getD ((mQ c m).idxOf ((mI c m).map λi=>cget t i)) []=(mI c m).map λi=>cget t i:=by rw[(Yp hj).1,M5]
  by_cases J:v∈evs (auts (Xb c m).co++auts (Xb c m).rq)
  ·exact hs.cl _ hj v J _ (by rw[h5];exact G)
  have hb:=VD (v:=v) (aa:=auts (Xb c m).co++auts (Xb c m).rq) (t:=(mI c m).map λi=>cget t i) (by rw[YZ h hm];simp) (λa ha hc=>J ((ZO (λa ha=>(V a ha).ok) v).2 ⟨a,ha,hc⟩));rw[hb]at G;rw[←Option.some.inj G];exact ht.2)
 intro t ht;rw[a4]at ht;exact key t ht
theorem Qn7 (h:Jc c){m:YW}(hm:m∈mods c)(x:Nat→Int):(mI c m).map (λi=>cget (tpl (Y9 c) x) i)=(mI c m).map x:=MP λi hi=>qu (jr h hm i hi)
theorem QpL (h:Jc c){m:YW}(hm:m∈mods c)(E:m.co≠[]){v:Int}(G:v∈evs (auts (Xb c m).co++auts (Xb c m).rq)):∃i∈m.co.map Int.toNat,i<c.co.length∧v∈(cA c i).al:=by
 have hd:=UL h hm E;have H:=ZL hd;have h1:=Qjo hd G;obtain⟨a,ha,I⟩:=(ZO (λa ha=>(H a (Ly _ ha)).ok) v).1 h1;rw[Qis h hm]at ha;obtain⟨i,hi,rfl⟩:=Lq.1 ha;obtain⟨j,hj,e⟩:=Lq.1 hi;have:=(Ke h hm).2 j hj;exact⟨i,hi,by omega,I⟩
theorem QnV (E:PsC c){m:YW}{x:Nat→Int}{v:Int}(hi:∃i∈m.co.map Int.toNat,i<c.co.length∧v∈(cA c i).al)(G:∀i∈m.co.map Int.toNat,(pst v (cA c i) (x i)).isSome=true):∀i,i<c.co.length→(pst v (cA c i) (x i)).isSome=true:=λj hj=>by
 obtain⟨i,H,I,J⟩:=hi;by_cases e:j=i
 ·rw[e];exact G i H
 unfold pst;rw[if_neg (E i j I hj (λe2=>e e2.symm) v J)];rfl
theorem Qgl {x:Nat→Int}(hm:YT (auts c.co++auts c.rq) (tpl (Y9 c) x)=true):∀i,i<Y9 c→x i∈(cA c i).mr:=λi hi=>by
 have E:(auts c.co++auts c.rq).length=Y9 c:=by rw[Lj,ZE,ZE];rfl
 have h1:=(UM (by unfold tpl;simp[E])).1 hm i (by rw[E];exact hi);have e:cA c i=(auts c.co++auts c.rq)[i]'(by rw[E];exact hi):=by unfold cA;rw[ZJ]
 rw[e];have h2:cget (tpl (Y9 c) x) i=x i:=qu hi;rw[h2]at h1;exact h1
theorem Qgm {x:Nat→Int}{is:LN}(h:∀i∈is,x i∈(cA c i).mr):YT (is.map (cA c)) (is.map x)=true:=by
 refine(UM (by simp)).2 λk hk=>?_;have E:k<is.length:=by simpa using hk
 rw[ye E,LK];exact h _ (Lc E)
theorem Qm1 {aa:List QD}{A:QD}{Q:List (LI)}(hS:yV aa A Q){s:Nat}(hs:s<Q.length):(s:Int)∈A.mr↔YT aa (Q.getD s [])=true:=by
 rw[hS.mk2];simp only[List.mem_map,List.mem_filter,List.mem_range'_1];constructor
 ·rintro⟨j,⟨_,h2⟩,e⟩;have:j=s:=by omega
  rw[←this];exact h2
 intro h2;exact⟨s,⟨by omega,h2⟩,O⟩
set_option maxHeartbeats 1000000 in
theorem QgU (h:Jc c)(hX:PsC c){m:YW}(hm:m∈mods c)(h0:m.co≠[]){x:Nat→Int}{y:Int}(H:WhR c x y):(mI c m).map x∈mQ c m∧lft (mL c m) ((mQ c m).idxOf ((mI c m).map x))=true:=by
 have hd:=UL h hm h0;have hs:=Y1 hd;have hg:=ZL hd;have hL:QO (mB c m):=Xv hd;have hH:∀a∈auts (Xb c m).co++auts (Xb c m).rq,QO a:=λa ha=>(hg a ha).ok;have hc:=Y1 h;have hY:=ZL h;have hZ:∀a∈auts c.co++auts c.rq,QO a:=λa ha=>(hY a ha).ok;have hI:∀{x:Nat→Int} {y:Int},WhR c x y→(mI c m).map x∈mQ c m:=λ{x y} H=>by
  have h1:=(QpK h hm h0 _ (H.free h).2.2).2
  rwa [Qn7 h hm]at h1
 have hM:∀{t:LI},t∈mQ c m→(mQ c m).idxOf t<(mQ c m).length∧(mQ c m).getD ((mQ c m).idxOf t) []=t:=λ{t} ht=>by
  have hj:=LS ht;exact⟨hj,by rw[(Yp hj).1,M5]⟩
 have ga:∀i∈m.co.map Int.toNat,i∈mI c m:=λi hi=>Ly _ hi;let G:Nat→Prop:=λs=>∃x y,WhR c x y∧s<(mQ c m).length∧(mQ c m).getD s []=(mI c m).map x;have gb:∀{s:Nat},G s→(s:Int)<(mB c m).st:=λ{s} ⟨_,_,_,h2,_⟩=>by have h9:(mB c m).st=((mQ c m).length:Int):=hs.1.st;omega
 have hN:∀{x:Nat→Int} {y v:Int},WhR c x y→v∈evs (auts (Xb c m).co++auts (Xb c m).rq)→(∀i∈m.co.map Int.toNat,(pst v (cA c i) (x i)).isSome=true)→(c.ev.getD v.toNat ⟨.empty,false,false,false,0⟩).co=false →
   (∀i,i<Y9 c→(pst v (cA c i) (x i)).isSome=true)∧∃U,WhR c (nx v (cA c) x) U:=λ{x y v} H hv hJ hO=>by
  obtain⟨i,gc,h4,hA⟩:=QpL h hm h0 hv;have ge:=QnV hX ⟨i,gc,h4,hA⟩ hJ;have V:=H.all h hO ⟨i,h4,hA⟩ ge;obtain⟨U,_,h2⟩:=H.unc h (QoC h h4 hA hO) ⟨i,h4,hA⟩ V;exact⟨V,U,h2⟩
 have gg:∀s,G s→lft (Xj (mB c m) (fbs (spc (Xb c m))) (unc c.ev)) s=true:=by
  refine QiH hL (λs hs=>gb hs) ?_ ?_ ?_
  ·rintro s ⟨x,y,H,h2,h3⟩ z hz e;obtain⟨s',rfl,h5,h6⟩:=Ql4 hd hz;rw[LU]at e;subst e;rw[show(spQ (Xb c m))=mQ c m from rfl,h3,QhU,QnR]at h6;obtain⟨f1,f2,f3⟩:=H.free h;rcases h6 with h6|h6
   ·obtain⟨p,hp⟩:=Mk.1 h6;have hP:(vio c (tpl c.co.length x)).isSome=true:=by
     rcases JD h hm with⟨k,hk,e⟩|⟨k,hk,e⟩|⟨k,hk,e⟩
     ·subst e;rcases Qdc hp with⟨k2,E,_⟩|⟨k2,E,_⟩
      ·rw[jo]at E;exact absurd E (Me _)
      rw[jo]at E;exact absurd E (Me _)
     ·have hb:=Ke h hm;subst e;refine Qnt ⟨c.ex[k]'hk,Lc hk,?_⟩;rcases Qdc hp with⟨k2,E,J⟩|⟨k2,E,_⟩
      ·have ho:k2=0:=by rw[Qb2]at E;simpa using E
       subst ho;simp only[Qb2,List.getElem_cons_zero]at J;rw[QkA (n:=c.co.length) (λl hl=>?_),ZJ hk]at J
       ·exact J
       have Y:l.1∈(qm c k).co:=Lq.2 ⟨l,hl,O⟩;exact⟨Y,hb.2 _ Y⟩
      rw[Qb2]at E;exact absurd E (Me _)
     have hb:=Ke h hm;subst e;refine Qnu ⟨c.cs[k]'hk,Lc hk,?_⟩;rcases Qdc hp with⟨k2,E,_⟩|⟨k2,E,J⟩
     ·rw[Qb3]at E;exact absurd E (Me _)
     have ho:k2=0:=by rw[Qb3]at E;simpa using E
     subst ho;simp only[Qb3,List.getElem_cons_zero]at J;rw[QkB (n:=c.co.length) (λl hl=>?_),ZJ hk]at J
     ·exact J
     have Y:l.1∈(zX c k).co:=Lq.2 ⟨l,hl,O⟩;exact⟨Y,hb.2 _ Y⟩
    rw[f1]at hP;cases hP
   obtain⟨v,hv,J,Y⟩:=QeJ h6;obtain⟨k2,E,h9,hB⟩:=QeH J;have hQ:=Qna hd _ (hI H);rw[QhU]at hQ;obtain⟨p1,p2,p3⟩:=Qh1 hd hQ.2;have hr:=(Qjq (QeT hd) _ v).1 hv;rw[p1,hs.2.1.step p2 v,p3]at hr;split at hr
   ·rename_i hf;rw[show(m.co.map λi=>x i.toNat)=(m.co.map Int.toNat).map x by rw[Mf];rfl,Qis h hm]at hr;obtain⟨u,hu⟩:=Mk.1 hr;obtain⟨u',gh,_⟩:=L4.1 hu;have hJ:=(Vb gh).2;have hK:v∈evs (auts (Xb c m).co++auts (Xb c m).rq):=by
     obtain⟨a,ha,gi⟩:=(ZO (λa ha=>hH a (Ly _ ha)) v).1 hf;exact(ZO hH v).2 ⟨a,Ly _ ha,gi⟩
    have V:=(hN H hK hJ Y).1;rcases JD h hm with⟨k,hk,e⟩|⟨k,hk,e⟩|⟨k,hk,e⟩
    ·subst e;have ho:k2=0:=by rw[jo]at E;simpa using E
     subst ho;simp only[jo,List.getElem_cons_zero]at h9 hB;rw[Qau]at hB;have hy:=V (c.co.length+k) (by unfold Y9;omega);rw[QjV hk]at hy;unfold pst at hy;rw[if_pos h9]at hy;have gj:cget ([((k:Nat):Int)].map λi:Int=>x (c.co.length+i.toNat)) 0=x (c.co.length+k):=by
      show x (c.co.length+((k:Nat):Int).toNat)=_;rw[LU]
     rw[gj]at hB;rw[hB]at hy;cases hy
    ·subst e;rw[Qb2]at E;exact absurd E (Me _)
    subst e;rw[Qb3]at E;exact absurd E (Me _)
   cases hr
  rintro s v u ⟨x,y,H,h2,h3⟩ he gk;have I:=Un hL.edi he;rw[hs.1.step h2 v]at I;split at I
  ·rename_i hf;rw[h3]at I;obtain⟨q',hq,e1⟩:=L4.1 I;have hh:=hs.1.to h2 hf (u:=q') (by rw[h3];exact hq);rw[YZ h hm]at hq;obtain⟨e2,V⟩:=Vb hq;obtain⟨_,U,hn⟩:=hN H hf (λi hi=>V i (ga i hi)) (Qnw gk);rw[←e1,LU];exact⟨_,U,hn,hh.1,by rw[hh.2,e2]⟩
  cases I
  ;have hT:=QiI (Xv h) (fb:=fbs (spc c)) (ul:=unc c.ev) (T:=λs=>s<(spQ c).length→∀x y,WhR c x y→(spQ c).getD s []=tpl (Y9 c) x→∀sm:Nat,sm<(mQ c m).length→(mQ c m).getD sm []=(mI c m).map x→WR (mB c m) G sm) (λs hl gl hC x y H hx sm hD hE=>by
   have h1:=(Qm1 hc.1 hC).1 gl;rw[hx]at h1;refine WR.mk ((Qm1 hs.1 hD).2 ?_);rw[hE,YZ h hm];exact Qgm λi hi=>Qgl h1 i (jr h hm i hi)) (λs u v hl gm he gn hC x y H hx sm hD hE=>by
   have I:=Un (Xv h).edi he;rw[hc.1.step hC v]at I;split at I
   ·rename_i hf;rw[hx]at I;obtain⟨q',hq,e1⟩:=L4.1 I;have hh:=hc.1.to hC hf (u:=q') (by rw[hx];exact hq);have eu:(spQ c).idxOf q'=u:=by have:(((spQ c).idxOf q':Nat):Int)=(u:Int):=e1;omega
    obtain⟨e2,V⟩:=QbE hq;have gq:lft (suL c) ((spQ c).idxOf q')=true:=by rw[eu];exact gm
    obtain⟨U,_,hn⟩:=yu.go hZ hc.1 (Xv h) hc.2.2.1 H hq gq;rw[e2]at hn;rw[eu]at hh;have hF:=hM (hI hn);have gr:∀i∈mI c m,(pst v (cA c i) (x i)).isSome=true:=λi hi=>V i (jr h hm i hi);have hG:=Je gr;rw[←YZ h hm]at hG;have hR:=gn hh.1 _ U hn (by rw[hh.2,e2]);by_cases hS:v∈evs (auts (Xb c m).co++auts (Xb c m).rq)
    ·have hU:=hs.1.step hD v;rw[if_pos hS,hE,hG]at hU;exact WR.st (Z0 hU) ⟨_,U,hn,hF.1,hF.2⟩ (hR _ hF.1 hF.2)
    have gs:=VD (v:=v) (aa:=auts (Xb c m).co++auts (Xb c m).rq) (t:=(mI c m).map x) (by rw[YZ h hm];simp) (λa ha hK=>hS ((ZO hH v).2 ⟨a,ha,hK⟩));rw[gs]at hG;exact hR sm hD (by rw[hE];exact Option.some.inj hG)
   cases I)
  rintro s ⟨x,y,H,h2,h3⟩;have gt:=H;obtain⟨j,sw,e0,k1,k2,k3,k4,k5⟩:=H;exact hT sw (by have h9:(spc c).a.st=((spQ c).length:Int):=hc.1.st;omega) k4 k3 x y gt k5 s h2 h3
 have hV:=hI H;have hW:=hM hV;exact⟨hV,gg _ ⟨x,y,H,hW.1,hW.2⟩⟩
end
section
variable {c:Q7}
theorem QqG {Q:List (LI)}{t:LI}(ht:t∈Q):Q.idxOf t<Q.length∧Q.getD (Q.idxOf t) []=t:=by
 have hj:=LS ht;exact⟨hj,by rw[(Yp hj).1,M5]⟩
theorem Qmk (h:Jc c){v:Int}(E:v∈evs (auts c.co++auts c.rq)):∃i,i<c.co.length∧v∈(cA c i).al:=by
 have G:=ZL h;obtain⟨a,ha,H⟩:=(ZO (λa ha=>(G a (Ly _ ha)).ok) v).1 (Qjo h E);rw[yg]at ha;obtain⟨i,hi,rfl⟩:=Lq.1 ha;exact⟨i,Mb.1 hi,H⟩
theorem Qeo (h:Jc c)(E:(J7 c).st≠0):WhR c (λ_=>0) 0:=by
 have hs:=Y1 h;obtain⟨_,hl,_⟩:=qP (B:=(spc c).a) (fb:=fbs (spc c)) (ul:=unc c.ev) E;have h1:=yu.init hs.1 (Xv h) hs.2.2.1 hl;have e:tpl (Y9 c) (λ_=>(0:Int))=List.replicate (auts c.co++auts c.rq).length 0:=by
  rw[show(auts c.co++auts c.rq).length=Y9 c by rw[Lj,ZE,ZE];rfl];unfold tpl;exact(List.map_const' ..).trans (by rw[Nl])
 unfold WhR;rw[e];exact h1
theorem Qpr (h:Jc c)(G:PsC c)(E:∀m∈mods c,m.co≠[])(H:(J7 c).st≠0):TgP c:=by
 refine⟨h,E,λa ha=>?_⟩;rcases Lo.1 (show a∈(mods c).map (ql c)++(rem c).map (coA c) from ha)with ha|ha
 ·obtain⟨m,hm,rfl⟩:=Lq.1 ha;have hd:=UL h hm (E m hm);have hs:=Y1 hd;have I:QO (mB c m):=Xv hd;have h1:=QgU h G hm (E m hm) (Qeo h H);have J:(mB c m).st=((mQ c m).length:Int):=hs.1.st;have hp:0<(mB c m).st:=hs.2.2.1;have h2:=hs.1.hd (by show 0<(mQ c m).length;omega);have e:(mI c m).map (λ_=>(0:Int))=List.replicate (auts (Xb c m).co++auts (Xb c m).rq).length 0:=by
   rw[YZ h hm,Lh];exact List.map_const' ..
  have h3:=QqG h1.1;have h4:(mQ c m).idxOf ((mI c m).map (λ_=>(0:Int)))=0:=by
   refine QeZ hs.1.nd h3.1 (show 0<(mQ c m).length by omega) ?_;rw[←(Yp h3.1).1,←(Yp (show 0<(mQ c m).length by omega)).1,h3.2,e];exact h2.symm
  rw[h4]at h1;have h5:lft (mL c m) 0=true:=h1.2;have hC:=VB I hp (mL c m);rw[Qn5];unfold Jp JU;rw[if_neg (λe1=>e1.elim (λe2=>by omega) (λe2=>by rw[show lft (Xj (mB c m) (fbs (spc (Xb c m))) (unc c.ev)) 0=true from h5]at e2;cases e2))];have h6:(ZY (rstr (mB c m) (mL c m))).st=((sord (mB c m) (mL c m)).length:Int):=hC.st;have U:0<(sord (mB c m) (mL c m)).length:=hC.hd.2
  show(ZY (rstr (mB c m) (mL c m))).st≠0;omega
 obtain⟨i,hi,rfl⟩:=Lq.1 ha;rw[Qa2 hi];have h1:=UG i hi;have:=(QfM h (i:=i.toNat) (by unfold Y9;omega)).p;omega
theorem QkE (E:TgP c)(hc:PsC c){x:Nat→Int}{t:LI}(ht:TgR c x t){v y':Int}(J:∀i,i<Y9 c→(pst v (cA c i) (x i)).isSome=true)(hw:WhR c (nx v (cA c) x) y'):∃u,Za v (ZA c) t=some u:=by
 refine VC (by rw[ht.l,Xd]) λk hk=>?_;by_cases G:k<(mods c).length
 ·have U:=Lc G;have hS:=E.sup U;have I:=ht.m k G;rw[Qhl c G,hS.1];revert U hS I;generalize (mods c)[k]'G=m;intro hm hS I;have V:=Je (v:=v) (A:=cA c) (x:=x) (is:=mI c m) λi hi=>J i (jr E.d hm i hi);rw[←YZ E.d hm]at V;obtain⟨y2,h2,_⟩:=yu.go hS.2.2.2.2.2 hS.2.2.2.2.1 hS.2.2.1 hS.2.2.2.1 I V (QgU E.d hc hm (E.n m hm) hw).2;rw[h2];rfl
 have H:k - (mods c).length<(rem c).length:=by rw[Xd]at hk;omega
 have e:k=(mods c).length+(k - (mods c).length):=by omega
 have h1:=Qhk c H (by rw[←e];exact hk);have h2:=ht.r _ H;have Y:=Lc H;have h3:=UG _ Y;have h4:=J ((rem c)[k - (mods c).length]'H).toNat (by unfold Y9;omega);rw[←Qa2 Y,←h1,←h2]at h4;have key:∀(a b:Nat) (ha:a<(ZA c).length) (hb:b<(ZA c).length),a=b→(pst v ((ZA c)[a]'ha) (cget t a)).isSome=true→(pst v ((ZA c)[b]'hb) (cget t b)).isSome=true:=by
  intro a b ha hb eab hh;subst eab;exact hh
 exact key _ _ _ _ e.symm h4
end
theorem QpR {a b:QD}{kd:Int}{R:Int→Int→Prop}(E:R (fst a) (fst b))(hs:∀x y v,R x y→(nxt a.ed x v=-1∧nxt b.ed y v=-1)∨R (nxt a.ed x v) (nxt b.ed y v))(hm:∀x y,R x y→UN a kd x=UN b kd y):lgq a b kd=none:=by
 have G:∀(al:LI) (i:Nat) (p:Vs) (V:List Vs),R p.x p.y→(∀q∈V,R q.x q.y)→∀q∈al.foldl (lgA a b i p) V,R q.x q.y:=by
  intro al;induction al with
  | nil=>intro i p V _ h;exact h
  | cons v al ih =>
   intro i p V hp h;refine ih i p _ hp λq hq=>?_;unfold lgA at hq;split at hq
   ·rename_i hc;rcases Lo.1 hq with hq|hq
    ·exact h q hq
    rw[Lb.1 hq];rcases hs p.x p.y v hp with h1|h1
    ·exact absurd (show(yE a b i p v).ky=(-1,-1) by unfold yE Vs.ky;rw[h1.1,h1.2]) hc.1
    exact h1
   exact h q hq
 have H:∀(al:LI) (f i:Nat) (V:List Vs),(∀q∈V,R q.x q.y)→lgL a b kd al f i V=none:=by
  intro al f;induction f with
  | zero=>intro i V _;rfl
  | succ f ih =>
   intro i V h;rw[lgL];split
   ·rename_i hi;have I:gV V i∈V:=by
     unfold gV;rw[ZJ hi];exact Lc hi
    have hR:=h _ I;rw[if_neg (by unfold lgC;rw[hm _ _ hR];simp)];exact ih _ _ (G al i _ V hR h)
   rfl
 exact H _ _ _ _ λq hq=>by rw[Lb.1 hq];exact E
section
variable {c:Q7}
theorem Qmi (E:TgP c)(G:∀a∈ZA c,QO a){v:Int}(H:∃i,i<c.co.length∧v∈(cA c i).al):v∈evs (ZA c):=by
 have I:=ZL E.d;obtain⟨i,hi,J⟩:=H;exact Qpv E ((ZO (λa ha=>(I a (Ly _ ha)).ok) v).2 ⟨cA c i,by rw[yg];exact Lq.2 ⟨i,Mb.2 hi,O⟩,J⟩) G
theorem Qjs {a:QD}(E:QO a){x v u:Int}(h:eget a.ed x v=some u):v∈a.al∧pst v a x=some u:=by
 have h1:=(E.ed _ (Z0 h)).2.2.1;exact⟨h1,by unfold pst;rw[if_pos h1];exact h⟩
theorem Qpu (H:JK c=0){i:Nat}(hi:i<(qO c).length){v:Int}(G:v∈evs (ZA c)){E:LI}(ht:Za v (ZA c) ((qO c).getD i [])=some E):eget (Xc c).ed i v=some ((qO c).idxOf E:Int)∧(qO c).idxOf E<(qO c).length∧(qO c).getD ((qO c).idxOf E) []=E:=by
 have hS:=(XK H).1;have h1:=hS.step hi v;rw[if_pos G,ht]at h1;exact⟨h1,hS.to hi G ht⟩
theorem QqA (G:TgP c)(E:JK c=0):(Xc c).st≠0∧0<(qO c).length∧(qO c).getD 0 []=List.replicate (ZA c).length 0:=by
 have h2:=YE (XC (XY E).1) (Qet (XY E).2).1;have hl:(qO c).length≠0:=λe=>by
  obtain⟨a,ha,e2⟩:=h2.2.1 e;exact G.s a ha e2
 have h3:(Xc c).st=((qO c).length:Int):=h2.1.st;exact⟨by omega,by omega,(XK E).1.hd (by omega)⟩
end
section
variable {c:Q7}
end
theorem zS {f:Nat→Bool}{seen:List ByteArray}{k:Nat}(hk:k<5)(hs:nm1 97 k∉seen):XW seen (evL f k)=0:=by
 unfold XW;rw[show(evL f k).nm=nm1 97 k from rfl,if_neg (by rw[Qie hk];decide),if_neg hs,if_neg (show ¬((evL f k).fl<0∨4<(evL f k).fl) by rw[show(evL f k).fl=0 from rfl];decide),if_neg (λh=>h.1 O)]
theorem Qml (f:Nat→Bool):Js ((List.range 5).map (evL f))=0:=by
 have e:(List.range 5).map (evL f)=[evL f 0,evL f 1,evL f 2,evL f 3,evL f 4]:=rfl;have E:∀k,(evL f k).nm=nm1 97 k:=λk=>O;unfold Js;rw[e,if_neg (by simp)];simp only[U9,E];rw[zS (by decide) (by decide),zS (by decide) (by decide),zS (by decide) (by decide),zS (by decide) (by decide),zS (by decide) (by decide)];simp
theorem Qll:∀n,n<4→((List.range n).map (nmI 109)).Nodup:=by decide
theorem Qn3:∀a,a<3→∀b,b<2→nmI 109 a≠nmI 114 b:=by decide
theorem Qid:∀a,a<3→Xl (nmI 109 a)=true∧Xl (nmI 114 a)=true:=by
 intro a ha;have h:a=0∨a=1∨a=2:=by omega
 rcases h with rfl|rfl|rfl <;> exact⟨by decide,by decide⟩
theorem Qo0:∀n,n<4→∀e∈yn n,∃i,i<n∧e∈JL i:=by
 intro n E e he;have h:n=0∨n=1∨n=2∨n=3:=by omega
 rcases h with rfl|rfl|rfl|rfl
 ·cases he
 ·exact⟨0,by decide,he⟩
 ·simp only[yn,List.take,List.mem_cons,List.not_mem_nil,or_false]at he;rcases he with rfl|rfl|rfl
  ·exact⟨0,by decide,by decide⟩
  ·exact⟨1,by decide,by decide⟩
  exact⟨1,by decide,by decide⟩
 simp only[yn,List.take,List.mem_cons,List.not_mem_nil,or_false]at he;rcases he with rfl|rfl|rfl|rfl|rfl
 ·exact⟨0,by decide,by decide⟩
 ·exact⟨1,by decide,by decide⟩
 ·exact⟨1,by decide,by decide⟩
 ·exact⟨2,by decide,by decide⟩
 exact⟨2,by decide,by decide⟩
theorem QkU:∀i,i<3→∀e∈JL i,e<5:=by
 intro i hi;have h:i=0∨i=1∨i=2:=by omega
 rcases h with rfl|rfl|rfl <;> decide
theorem QkV:∀i,i<3→∀j,j<3→i≠j→∀e∈JL i,e∉JL j:=by
 intro i hi j hj;have h:i=0∨i=1∨i=2:=by omega
 have h2:j=0∨j=1∨j=2:=by omega
 rcases h with rfl|rfl|rfl <;> rcases h2 with rfl|rfl|rfl <;> decide
section
variable {k:Q7}
theorem LnC.d25 (h:LnC k):Jc k:=by
 have E:=h.n;have G:k.co.map (·.nm)=(List.range k.co.length).map (nmI 109):=by
  refine LT (by simp) λi h1 h2=>?_;rw[LK,LK,My];exact(h.co i (by simpa using h1)).1
 refine⟨?_,by omega,E.2,h.r,λx hx=>?_,λx hx=>?_,?_,by have:=h.x;omega,λx hx=>?_,?_,by rw[h.cs];exact Ll 1,λx hx=>?_⟩
 ·obtain⟨f,e⟩:=h.ev;rw[e];exact⟨O,Qml f⟩
 ·obtain⟨i,hi,rfl⟩:=LB hx;obtain⟨h1,h2,h3⟩:=h.co i hi;exact⟨by rw[h1];exact(Qid i (by omega)).1,h2,λe he=>QkU i (by omega) e (by rw[←h3];exact he)⟩
 ·obtain⟨⟨j,hj,h1⟩,h2,_,h4⟩:=h.rq.each x hx;refine⟨by rw[h1];exact(Qid j (by omega)).2,h2,λe he=>?_⟩;obtain⟨i,hi,h5⟩:=Qo0 _ (by omega) e (h4 e he);exact⟨k.co[i]'hi,Lc hi,by rw[(h.co i hi).2.2];exact h5⟩
 ·rw[G,Mx];refine⟨Qll _ (by omega),h.rq.nd,λa ha b hb e=>?_⟩;obtain⟨i,hi,rfl⟩:=Lq.1 ha;obtain⟨x,hx,rfl⟩:=Lq.1 hb;obtain⟨⟨j,hj,h1⟩,_⟩:=h.rq.each x hx;have:=Mb.1 hi;exact Qn3 i (by omega) j hj (by rw[←h1];exact e)
 ·obtain⟨h1,h2,h3⟩:=h.ex x hx;exact⟨by rw[h1];decide,h2,h3⟩
 ·have h1:=h.x
  match k.ex,h1 with
  | [],_=>exact ME
  | [x],_=>exact M9 _ _
 rw[h.cs]at hx;cases hx
theorem LnC.al (h:LnC k){i:Nat}(hi:i<k.co.length):(cA k i).al=JL i:=by
 rw[QcO hi,ZJ hi];exact(h.co i hi).2.2
theorem LnC.ps (h:LnC k):PsC k:=λi j hi hj G v E hv'=>by
 have H:=h.n;rw[h.al hi]at E;rw[h.al hj]at hv';exact QkV i (by omega) j (by omega) G v E hv'
theorem LnC.ne (h:LnC k):∀m∈mods k,m.co≠[]:=λm hm e=>by
 rcases JD h.d25 hm with⟨i,hi,e1⟩|⟨i,hi,e1⟩|⟨i,hi,e1⟩
 ·subst e1;obtain⟨_,h2,h3,h4⟩:=h.rq.each _ (Lc hi);obtain⟨v,E⟩:=List.exists_mem_of_ne_nil _ h3;obtain⟨y,hy,G⟩:=(h.d25.rq _ (Lc hi)).2.2 v E;obtain⟨j,hj,rfl⟩:=LB hy;have h5:(j:Int)∈(yK k i).co:=(JF _ _ _ _).2 ⟨j,hj,by simp,by
   rw[ZJ hi];exact Mo.2 ⟨v,E,by simpa using G⟩⟩
  rw[e]at h5;cases h5
 ·subst e1;have h1:=(h.ex _ (Lc hi)).2.1;have h2:(qm k i).co=((k.ex.getD i ⟨.empty,[]⟩).ls).map (·.1):=rfl;rw[h2,ZJ hi,List.map_eq_nil_iff]at e;exact h1 e
 rw[h.cs]at hi;exact absurd hi (Me i)
end
section
variable {k:Q7}
theorem LnC.tg (h:LnC k):JK k=0:=by
 rcases Qnz h.d25 with e|e
 ·exact e
 exfalso;have G:∀m∈mods k,yD k m=0:=λm hm=>(QaD h.d25 hm).2 (h.ne m hm);have h1:∀l:List YW,(∀m∈l,yD k m=0)→msL k l=0:=by
  intro l;induction l with
  | nil=>intro _;rfl
  | cons m l ih =>
   intro hl;rw[V4,if_neg (not_not_intro (hl m Lm))];exact ih λq hq=>hl q (Lk _ hq)
 have E:KH k=0:=by rw[qQ,if_neg (not_not_intro h.d25.ck)];exact h1 _ G
 obtain⟨z,e2⟩:=Qbs h.d25 h.ne;have hck:X9 (ZA k)=0:=by
  have h3:=Qin h.d25;have h4:=Qah (mods k) k.co.length;have h5:=h.d25.c3;unfold X9;rw[if_neg (by rw[Xd,Qak (by omega)];omega)];exact(Xi _).2 (XC E)
 rw[Qeq,E,if_neg (by decide)]at e;unfold XB at e;rw[hck,e2]at e;cases e
theorem LnC.su (h:LnC k):suE k=0:=by obtain⟨_,_,_,_,_,_,e⟩:=Vl h.d25;exact e
end
open Go.Proofs.Tryz
abbrev rp0:LV:=[.bool false,.int .i64 0,.int .i64 0,.int .i64 0,.bool false,nS,nS,.int .i64 0]
abbrev rpV (S:Option (Int×Int×Int))(nc:Bool)(vw vs:Value)(st:Int):LV:=[.bool (!S.isSome),.int .i64 (qj S).1,.int .i64 (qj S).2.1,.int .i64 (qj S).2.2,.bool nc,vw,vs,.int .i64 st]
theorem rpA {c:Q7}{vw vs:Value}:rpV (qY c) (decide ((Jm (Xc c)).length=0)) vw vs (Xc c).st=[.bool (VM c).ps,.int .i64 (VM c).ev,.int .i64 (VM c).f1,.int .i64 (VM c).f2,.bool (VM c).nc,vw,vs,.int .i64 (VM c).tg]:=by
 unfold VM rpV;cases qY c <;> rfl
theorem z8 {c:Q7}(h:JK c=0):Zi c=0:=by
 have h1:=(XY h).1;rw[qQ]at h1;by_cases h2:Zi c≠0
 ·rw[if_pos h2]at h1;exact absurd h1 h2
 exact Ln.1 h2
set_option maxRecDepth 4096 in
set_option maxHeartbeats 8000000 in
theorem Qc6 {L:LN}{w:World}{c:CL}(h0:ZQ L w.heap c)(g6:Kb w 4096):
  QH prog 10 [c.val] w λr w'=>Step [] w w'∧∃us,r=.tuple #[.agg us.toArray,.int .i64 (JK c.cel)]∧us.length=8∧ZM us ∧
   (JK c.cel=0→∃vw vs,us=[.bool (VM c.cel).ps,.int .i64 (VM c.cel).ev,.int .i64 (VM c.cel).f1,.int .i64 (VM c.cel).f2,.bool (VM c.cel).nc,vw,vs,.int .i64 (VM c.cel).tg]∧Qt 3 w.heap.size w' vw (VM c.cel).wd∧Qt 3 w.heap.size w' vs (VM c.cel).sts)∧(JK c.cel≠0→us=rp0):=by
 have h:=h0.up (L':=[]) (by simp);have g7:(VM c.cel).wd=QhG (Xc c.cel):=rfl;have g8:(VM c.cel).sts=(ZA c.cel).map (·.st):=rfl;rw[g7,g8];refine QH.of_W func10 O ntmps10 results10 (by simp) ?_;refine Qc<|xl O<|QR (us:=c.cells) O λb1 w1 hJ p7 hK=>xl O<|Qu (us:=rp0) O λb2 w2 hm p8 hL=>Qf ?_;have h3:=hJ.trans hm;have p9:=hJ.size;have qc:=hm.size;have qo:=hL.lt
 refine Qc<|x (Qo (hK.ext hm) O O)<|xl O<|xf<|(V9 (h.ext h3) (g6.ext h3)).mono ?_;rintro r3 w3 ⟨hM,us,rfl,g9,ka,kb⟩;refine Qb<|x (Qj O O)<|x (Qj O O)<|xl O<|Qu (us:=QbW) O λb4 w4 kc ke kf=>xl O<|Qn (us:=us) kf O O g9 O ka λw5 kg hN =>
  Qf ?_
 have h4:Step [] w3 w5:=kc.then1 kg ke;have h5:=hM.trans h4;have h6:=h3.trans h5;have qr:=hM.size;have q0:=h4.size;have q4:=hN.lt;have hO:=hL.ext h5;refine Qg<|Qc<|Qb<|x (Q6 O O)<|xe<|Q3 rfl (λh7=>?_) (λh7=>?_)
 ·refine Qc<|x (QM Z)<|Qb<|xl O<|Qn (us:=rp0) hO O O O O ⟨O,O,O,O,O,O,O,O,Z⟩ λw6 kh ki=>Qf ?_;exact Ql ⟨[.agg rp0.toArray,.int .i64 (JK c.cel)],⟨⟨_,O,Qx O (ki.at (L:=[]) (by simp)).cells⟩,rfl,Z⟩,h6.then1 kh (by omega),rp0,rfl,rfl,⟨rfl,rfl,rfl,rfl,rfl,rfl,rfl,rfl,Z⟩,λh0=>absurd h0 h7,λ_=>rfl⟩
 have he:=Ln.1 h7;have hck:=z8 he;have kj:shR c.cel=qY c.cel:=by unfold shR;rw[if_neg (by simpa using hck)]
 obtain⟨t,ht,ho,hT⟩:=kb he;subst ht;obtain⟨kk,hp⟩:=XK he;have kn:=hp.st0;have ko:=hp.st1;have kp:(ZA c.cel).map (·.st)=t.ps.map (λp=>p.a.st):=by rw[←ho.l,Mf];rfl
 rw[kp];have kq:yt [] w3.heap t:=hT [] (by simp);have hP:yt [] w5.heap t:=kq.ext h4;rw[←ho.A]at kk hp kn ko;obtain⟨n,hn⟩:∃n:Nat,t.A.st=n:=⟨t.A.st.toNat,by omega⟩;have hQ:t.A.st.toNat=n:=by omega
 have hR:Xq t.A=0:=(Zs _).2 hp;have q9:=hP.l.arr.le;refine Qi<|Qc<|x (Qo ((hK.ext hm).ext h5) O O)<|xl O<|xf<|(QgJ (h.ext h6)).mono ?_;rintro r7 w7 ⟨ha,rfl⟩;rw[kj];refine Zj (qY c.cel) λS hS=>?_;rw[hS];refine Qb<|x (Qj O O)<|x (Qj O O)<|x (Qj O O)<|x (Qj O O)<|x (Qj O O)<|x Qe <|
  x Qe<|x Qe<|x Qe<|Qf ?_
 have kr:=h6.trans ha;have hU:=hN.ext ha;have kt:=hO.ext ha;have j1:=ha.size;refine Qg<|Qc<|Qb<|x (Q6 O O)<|xe<|Q3 rfl (λhV=>?_) (λhV=>?_)
 ·exact absurd hck hV
 refine Qi<|Qc<|Qb<|x (Zt O)<|x (Qa O)<|x (Qa O)<|x (Qd hU O O)<|x (QM ⟨O,O,O,Z⟩)<|xl O<|Qu (us:=rp0) O λb10 w9 ku hW kv =>
  xl rfl<|Qn (us:=[.bool (!S.isSome),.int .i64 0,.int .i64 0,.int .i64 0,.bool true,nS,nS,.int .i64 t.A.st]) kv O O O O ⟨O,O,O,O,O,O,O,O,Z⟩ λhX kw hr=>xe ?_
 have hf:Step [] w7 hX:=ku.then1 kw hW;have kx:=kr.trans hf;have j2:=hf.size;have j3:=hr.lt;have kz:=hU.ext hf;have k0:=kt.ext hf;have h8:b2≠b10:=by omega
 have h9:b4≠b10:=by omega
 have hA:w.heap.size≤b10:=by omega
 refine QX (α:=Unit) [(43,49)] (λz=>[]) (λz w'=>Step [b10] hX w'∧QT w'.heap b10 41 (rpV S true (nS) (nS) t.A.st)) (by rfl) ?_ ?_
 ·refine Qc<|Qb<|xe<|QZ O (λhY=>?_) (λhY=>?_)
  ·refine Qw<|Qb<|Qb<|Qb<|x (Qa O)<|xl O<|QF (j:=1) (u:=.int .i64 (qj S).1) hr O O (by simp) rfl λj4 k4 k5=>x (Qa rfl) <|
    xl rfl<|QF (j:=2) (u:=.int .i64 (qj S).2.1) k5 O O (by simp) rfl λza k6 k7=>x (Qa rfl)<|xl rfl<|QF (j:=3) (u:=.int .i64 (qj S).2.2) k7 rfl rfl (by simp) rfl λzb k8 k9 =>
    xe ?_
   exact⟨(),Z,(k4.trans' k6).trans' k8,k9⟩
  refine Qi ?_;have ma:S=none:=by cases S with|none=>rfl|some z=>cases hY
  exact⟨(),Z,Step.refl _ _,by rw[ma]at hr ⊢;exact hr⟩
 rintro z g E ⟨hg,mc⟩;have hZ:Step [] w E:=kx.then1 hg hA;have zv:=hg.size;have ga:QT E.heap b4 103 (Jw t):=kz.step hg (by simpa using h9);have mf:QT E.heap b2 41 rp0:=k0.step hg (by simpa using h8)
 have gb:yt [b10] E.heap t:=((((hP.ext ha).up (L':=[b10]) (λb hb=>by simp only[List.mem_singleton]at hb;subst hb;exact .inr hW)).ext hf).st hg);refine Qg<|Qc<|x (Qa O)<|x (Qd ga O O)<|x (Qr gb.l.arr O)<|Qb<|xe ?_
 refine Qh<|Qz (α:=Nat×Value) [(12,12),(53,64)] (λz=>[(53,.int .i64 z.1)]) (λz w'=>z.1≤t.ps.length∧Step [b10] E w'∧QT w'.heap b10 41 (rpV S true (nS) z.2 t.A.st)∧Qt 3 E.heap.size w' z.2 ((t.ps.take z.1).map (λp=>p.a.st))) (λz=>t.ps.length - z.1) (by rfl) (0,nS) La
  ⟨Ll _,Step.refl _ _,mc,QN _ _ _ _⟩ ?_
 rintro⟨k,vs⟩ g I ⟨hk,J,hs,U⟩;simp only[]at hk hs U;have mg:Step [] w I:=hZ.then1 J hA;have z0:=J.size;have gc:QT I.heap b4 103 (Jw t):=ga.step J (by simpa using h9);have mh:QT I.heap b2 41 rp0:=mf.step J (by simpa using h8);have hu:yt [b10] I.heap t:=gb.st J;have hB:=Qq U
 have z1:((t.ps.take k).map (λp=>p.a.st)).length=k:=by rw[Lh,LC];omega
 refine Qc<|x (QA O O)<|xe<|Qg<|QC O (λhC=>?_) (λhC=>?_)
 ·refine Qy ?_;have mj:t.ps.length≤k:=by have mo:¬(k:Int)<(t.ps.length:Int):=hC;omega
  rw[Lp mj]at U;have ge:yt [] I.heap t:=hu.up (by simp);refine Qc<|x (Qa O)<|x (ZG (us:=[t.va,.int .i64 t.A.st,t.vm,t.ve]) gc O O O)<|xl O<|xf<|(yy ge.a).mono ?_;rintro z2 hv ⟨G,vc,rfl,gg⟩;rw[if_pos hR]at gg;refine Qb<|x (Qj O O)<|x (Qj O O)<|x Qe<|Qf ?_;have gh:=mg.trans G;have z3:=G.size;have gi:=gc.ext G
  have z4:=ge.ext G;have z5:(cor t.A).length≤4096:=by
   have:(cor t.A).length≤t.A.st.toNat:=by
    unfold cor VI;rw[Lh];have:=Mg (λi=>decide (0≤cget (bwd t.A.st.toNat t.A.ed t.A.mr) i)) (List.range t.A.st.toNat);rw[Nl]at this;exact this
   omega
  have mq:mrg (λp q=>p && !q) (YG n) (cor t.A)=Jm t.A:=by unfold Jm;rw[hQ]
  have z9:=KN n;have ms:n≤4096:=by omega
  have gj:∀w:World,QH prog 37 [.agg #[t.va,.int .i64 t.A.st,t.vm,t.ve]] w λr w'=>Step [] w w'∧Qt 3 w.heap.size w' r (YG n):=by
   intro w;rw[hn];exact Qlw ms
  refine QX (α:=Bool×Value) [(15,15),(71,91)] (λz=>[]) (λz w'=>Step [b10] hv w'∧QT w'.heap b10 41 (rpV S z.1 z.2 vs t.A.st)∧z.1=decide ((Jm t.A).length=0)∧Qt 3 hv.heap.size w' z.2 (QhG t.A)) (by rfl) ?_ ?_
  ·refine Qc<|x (Qa O)<|x (ZG (us:=[t.va,.int .i64 t.A.st,t.vm,t.ve]) gi O O O)<|xl O<|xf<|(gj hv).mono ?_;rintro r17 w17 ⟨hD,mt⟩;have hz17:=hD.size;refine Qb<|xl O<|xf<|(Qc3 (Qt.ints (L:=[]) mt (by omega) (by simp)) (Qt.ints (L:=[]) (Qs gg hD) (by omega) (by simp)) (by omega)).mono ?_;rintro gk mu ⟨gl,hw⟩;rw[mq]at hw;refine Qf ?_;have hh:=hD.trans gl
   have hz18:=gl.size;have gm:=(hs.ext G).ext hh;have mv:=gi.ext hh;have hbl:(Jm t.A).length≤4096:=by
    have h1:(Jm t.A).length≤n:=by
     have:=QaP (S:=n) (λx hx=>by have:=((yk t.A x).1 hx).1;omega) (yl t.A);exact this
    omega
   have mw:QJ [] mu.heap gk (Jm t.A):=Qt.ints hw (by omega) (by simp);refine Qc<|Qb<|x (Qr mw O)<|x (ZR O O)<|xe<|QC O (λhE=>?_) (λhE=>?_)
   ·have V:(Jm t.A).length=0:=by have my:¬(0:Int)<((Jm t.A).length:Int):=hE;omega
    refine Qi<|⟨(true,nS),Z,hh.any,gm,by rw[decide_eq_true V],?_⟩;unfold QhG;rw[if_pos V];exact QN _ _ _ _
   have V:¬(Jm t.A).length=0:=by have my:(0:Int)<((Jm t.A).length:Int):=hE;omega
   have mz:0<n:=by
    refine Nat.pos_of_ne_zero λe=>V ?_;subst e;exact Nat.eq_zero_of_le_zero (QaP (S:=0) (λx hx=>by have:=((yk t.A x).1 hx).1;omega) (yl t.A))
   refine Qc<|x (Qa O)<|xl O<|QF (j:=4) (u:=.bool false) gm O O (by simp) rfl λH hi m0=>xe ?_;have gn:QT H.heap b4 103 (Jw t):=mv.step hi (by simpa using h9);have m1:yt [] H.heap t:=((hu.ext (G.trans hh)).st hi).up (by simp);have hge18:=Qq hw
   have m2:QJ [] H.heap gk (Jm t.A):=(((Qt.ints (L:=[b10]) hw (by omega) (by simp only[List.mem_singleton];omega)).st hi)).up (by simp);have hz19:=hi.size;refine QU (Step [] H) [(0,true),(1,true),(2,true),(3,true),(4,true),(5,false),(6,false),(7,true),(8,true),(9,true),(10,true),(11,true),(12,false)] mixed (by rfl) (by kernel_rfl) (Step.drew _ _) ?_
   have m3:Step [] H { H with drawn:=H.drawn+1 }:=Step.drew _ _
   refine p (λ_=>Qa O)<|pq (λ_ hc=>ZG (us:=[t.va,.int .i64 t.A.st,t.vm,t.ve]) (gn.ext hc) O O O)<|p (λ_=>Qk)<|p (λ_=>Qa O)<|pq (λ_ hc=>ZG (us:=[t.va,.int .i64 t.A.st,t.vm,t.ve]) (gn.ext hc) O O O) <|
    pk<|xf<|(gj _).mono ?_
   rintro r20 w20 ⟨m4,m5⟩;have hj:=m3.trans m4;have hz20:=hj.size;refine⟨hj,?_⟩;have m6:YM t.A.st none (YG n)=0:=Qd0 (λx hx=>by have:=(KM n x).1 hx;omega) (V3 n);have m7:YM t.A.st none (Jm t.A)=0:=Qd0 (λx hx=>by have:=((yk t.A x).1 hx).1;omega) (yl t.A)
   have hPath:=QmS (from0:=0) ((m1.a).ext hj) hR hn mz (m2.ext hj) (Qt.ints (L:=[]) m5 (by omega) (by simp)) m7 m6 ((KM n _).2 ⟨by omega,by omega⟩);refine pk<|xf<|hPath.mono ?_;rintro r21 w21 ⟨m8,vp,rfl,gq⟩;have hF:=hj.trans m8;refine⟨hF,?_⟩;have m9:=m0.ext hF;refine p (λ_=>Qk)<|p (λ_=>Qj O O)<|p (λ_=>Qj O O)<|p (λ_=>Qj O O)<|p (λ_=>Qa O) <|
    pkl (hl:=by kernel_rfl)<|QF (j:=5) (u:=vp) m9 O O (by simp) (QQ gq) λw22 gr pa=>pe ?_
   refine⟨(false,vp),Z,((hh.any.trans' hi).trans hF).trans' gr,pa,by rw[decide_eq_false V],?_⟩;unfold QhG;rw[if_neg V,hQ];have gs:=Zd (base':=hv.heap.size) gq (by omega);exact Qm gs gr (λb hb=>by have:=(Qq gs b hb).1;simp only[List.mem_singleton];omega)
  rintro⟨nc,vw⟩ g gt ⟨hy,gu,gv,hz⟩;simp only[]at gu gv hz;subst gv;have pc:Step [] w gt:=gh.then1 hy hA;have hz23:=hy.size;have pd:QT gt.heap b2 41 rp0:=(mh.ext G).step hy (by simpa using h8);have gx:=Qm (Qs U G) hy (λb hb=>by have:=(hB b hb).1;simp only[List.mem_singleton];omega)
  have gy:ZM (rpV S (decide ((Jm t.A).length=0)) vw vs t.A.st):=⟨O,O,O,O,O,QQ hz,QQ U,O,Z⟩;refine Qc<|x (Qo gu O O)<|xl O<|Qn (us:=rpV S (decide ((Jm t.A).length=0)) vw vs t.A.st) pd O O O O gy λw24 hG pf=>Qf ?_;have hl224:b2<E.heap.size:=by omega
  refine Ql ⟨[.agg (rpV S (decide ((Jm t.A).length=0)) vw vs t.A.st).toArray,.int .i64 0],⟨⟨_,O,Qx O (pf.at (L:=[]) (by simp)).cells⟩,rfl,Z⟩,pc.then1 hG (by omega),rpV S (decide ((Jm t.A).length=0)) vw vs t.A.st,by rw[he];rfl,O,gy,λ_=>⟨vw,vs,?_,?_,?_⟩,λh0=>absurd he h0⟩
  ·rw[←rpA,hS,ho.A]
  ·rw[←ho.A];have:=Qm hz hG (λb hb=>by have:=(Qq hz b hb).1;simp only[List.mem_singleton];omega);exact Zd this (by have:=gh.size;omega)
  have:=Qm gx hG (λb hb=>by have:=(Qq gx b hb).1;simp only[List.mem_singleton];omega);exact Zd this hZ.size
 have Y:k<t.ps.length:=by have mo:(k:Int)<(t.ps.length:Int):=hC;omega
 have gz:t.ps.take (k+1)=t.ps.take k++[t.ps[k]'Y]:=Li Y;have g0:=Lc Y;refine Qi<|Qg<|Qh<|Qc<|xig (g:=Zc) (i:=k) JQ hu.l.arr O O Y λa55 g1=>?_;refine Zj (t.ps[k]'Y) λq hq=>?_;rw[hq]at g1 g0 gz;have hH:=hu.l.each q g0
 refine x (QI g1 O O)<|xl O<|Qu (us:=[nS,.int .i64 0,nS,nS]) O λb12 w25 pg ph pj=>xl O<|Qn (us:=Zc q) pj O O O O ⟨hH.al.one,O,hH.mr.one,hH.ed.one,Z⟩ λpn po pp =>
  xe ?_
 have g2:Step [] I pn:=pg.then1 po ph;have pt:=hs.ext g2;refine Qw<|x (Qa O)<|x (Qd pt O O)<|x (Qa O)<|x (Qd pp O O)<|xl O<|QG (us:=[[.int .i64 q.a.st]]) O O (by decide) (by simp) ⟨rfl,rfl,Z⟩ λb61 w27 pu hb61 pw=>?_;have h2:=g2.trans pu;have hz27:=h2.size;have pz:b10∉ob vs:=λhb=>by have:=(hB b10 hb).1;omega
 refine xl rfl<|Q4 (news:=[.int .i64 q.a.st]) (L:=[]) (Qs U h2) O O O (pw.at (by simp)) (by simp[Value.oneCell']) (by omega) (by omega) λg3 p0 hI g4 hn28=>?_;have p4:=(hs.ext h2).step g4 pz;refine x (Qa O)<|xl O<|QF (j:=6) (u:=g3) p4 O O (by simp) (QQ hI) λw29 g5 p5 =>
  xe ?_
 refine Qw<|QP O O<|Qb<|xe ?_;have p6:Step [b10] E p0:=(J.trans h2).then g4 (λb hb=>.inr (hB b hb).1);refine⟨(k+1,g3),by simp only[];omega,La,Y,p6.trans' g5,p5,?_⟩;simp only[];rw[gz,Lx];have:=Qm hI g5 (λb hb=>by have:=(Qq hI b hb).1;simp only[List.mem_singleton];omega);exact Qt.snoc (n:=q.a.st) this
theorem Qem {L:LN}{w:World}{c:CL}(E:ZQ L w.heap c)(G:Kb w 4096):
  QH prog 10 [c.val] w λr w'=>Step [] w w'∧∃us,r=.tuple #[.agg us.toArray,.int .i64 (JK c.cel)]∧us.length=8∧ZM us ∧
   (JK c.cel=0→∃vw vs,us=[.bool (VM c.cel).ps,.int .i64 (VM c.cel).ev,.int .i64 (VM c.cel).f1,.int .i64 (VM c.cel).f2,.bool (VM c.cel).nc,vw,vs,.int .i64 (VM c.cel).tg]∧Qt 3 w.heap.size w' vw (VM c.cel).wd∧Qt 3 w.heap.size w' vs (VM c.cel).sts):=
 (Qc6 E G).mono λ_ _ ⟨h1,us,h2,h3,h4,h5,_⟩=>⟨h1,us,h2,h3,h4,h5⟩
theorem Kj:∀{es:List Ed},(es.Pairwise λx y=>x.1<y.1∨(x.1=y.1∧x.2.1<y.2.1))→∀{s v t:Int},(s,v,t)∈es→eget es s v=some t
 | [],_,_,_,_,h=>by cases h
 | e::es,hp,s,v,t,h=>by
  simp only[List.pairwise_cons]at hp;rw[eget];rcases Le.1 h with h|h
  ·rw[←h,if_pos ⟨rfl,rfl⟩]
  have h1:=hp.1 _ h;simp only[]at h1;rw[if_neg (by omega)];exact Kj hp.2 h
theorem Qnr {c:Q7}(h:Jc c)(Y:PsC c)(hn:∀m∈mods c,m.co≠[])(G:JK c=0)(I:(J7 c).st≠0){u:LI}(hu:0≤rn (J7 c) 0 u):gens (Xc c) u=true:=by
 have hb:=(XK G).2;have hc:QO (J7 c):=Va (Xv h) _;have hj:=XC (XY G).1;have hs:=Y1 h;have hg:=ZL h;have hk:∀a∈auts c.co++auts c.rq,QO a:=λa ha=>(hg a ha).ok;have E:=Qpr h Y hn I;have J:=QqA E G;obtain⟨_,hl,hA⟩:=qP (B:=(spc c).a) (fb:=fbs (spc c)) (ul:=unc c.ev) I;have hf:J7 c=ZY (rstr (spc c).a (suL c)):=hA
 have key:∀(u:LI) (i:Nat) (x:Nat→Int) (y:Int),i<(qO c).length→TgR c x ((qO c).getD i [])→WhR c x y→0≤rn (J7 c) y u→0≤rn (Xc c) i u:=by
  intro u;induction u with
  | nil=>intro i x y _ _ _ _;exact Int.natCast_nonneg i
  | cons v u ih =>
   intro i x y hi hT hW H;rw[Qag]at H ⊢;cases he:eget (J7 c).ed y v with
   | none =>
    have U:nxt (J7 c).ed y v=-1:=by rw[YS,he]
    rw[U,Qaf hc]at H;omega
   | some u' =>
    obtain⟨hh,hp⟩:=Qjs hc he;rw[hf]at hp;obtain⟨q',hq,V⟩:=yu.step hk hs.1 (Xv h) hs.2.2.1 hW hp;obtain⟨e2,hm⟩:=QbE hq;rw[e2]at V;obtain⟨t',ht⟩:=QkE E Y hT hm V;have ho:v∈evs (auts c.co++auts c.rq):=by
     rw[hf,(VB (Xv h) hs.2.2.1 (suL c)).al.trans hs.1.al]at hh;exact hh
    obtain⟨h1,h2,h3⟩:=Qpu G hi (Qmi E hj (Qmk h ho)) ht;have e1:nxt (Xc c).ed i v=((qO c).idxOf t':Int):=by rw[YS,h1]
    have U:nxt (J7 c).ed y v=u':=by rw[YS,he]
    rw[e1];rw[U]at H;exact ih _ _ _ h2 (by rw[h3];exact(TgR.step E hT ht).1) V H
 have e0:x0 (Xc c)=0:=by
  have h1:=hb.st0;have h2:=J.1;unfold x0;rw[if_pos (by omega)]
 rw[QlX hb,e0];exact decide_eq_true (key u 0 _ 0 J.2.1 (by rw[J.2.2];exact TgR.init E) (Qeo h I) hu)
theorem Qjr {a:QD}(E:QO a)(s v:Int):v∈enb a s↔(eget a.ed s v).isSome=true:=by
 constructor
 ·intro h;obtain⟨e,he,rfl⟩:=Lq.1 h;obtain⟨h1,h2⟩:=Zx he;have h3:(s,e.2.1,e.2.2)∈a.ed:=by rw[←h2];exact h1
  rw[Kj E.edi h3];rfl
 intro h;obtain⟨u,hu⟩:=Mk.1 h;exact Lq.2 ⟨_,LJ.2 ⟨Z0 hu,by simp⟩,rfl⟩
theorem Qnq {c:Q7}(E:JK c=0){u:LI}(hg:gens (Xc c) u=true){v:Int}(I:v∈evs (ZA c)):ckV (ZA c) (mrT c u) v=0∧((mrL c u v).length=0↔v∈pmL c u):=by
 obtain⟨hS,J⟩:=XK E;have ha:=XC (XY E).1;obtain⟨j,hj,U,_⟩:=Qfo J hS hg;have G:j<(qO c).length:=hj;have V:mrT c u=(qO c).getD j []:=by
  unfold mrT;rw[U];rfl
 have hm:(qO c).getD j []∈qO c:=by
  rw[ZJ G];exact Lc G
 have H:=hS.v _ hm;have hb:(ZA c).length≤12:=by
  have h2:=(XY E).2;unfold XB at h2;split at h2
  ·rename_i h3;exact absurd h2 h3
  rename_i h3;exact(Ur (Ln.1 h3)).1
 rw[V];refine⟨by unfold ckV;rw[if_neg (not_not_intro (QoL hb ha H)),if_neg (not_not_intro I)],?_⟩;have hc:pmL c u=enb (Xc c) (j:Int):=by unfold pmL;rw[U]
 have hh:mrL c u v=rfL (ZA c) ((qO c).getD j []) v:=by unfold mrL;rw[V]
 rw[hc,Qjr J,hS.step G,if_pos I,hh];unfold rfL rfN;rw[Lh,List.length_eq_zero_iff,MD,Option.isSome_map];have Y:∀i (hi:i<(ZA c).length),gtA (ZA c) i=(ZA c)[i]'hi:=λi hi=>ZJ hi _;constructor
 ·intro h;obtain⟨t',e⟩:=VC (v:=v) H.1 λi hi=>by
   have h2:=h i (Mb.2 hi);unfold pst;split
   ·rename_i h3;unfold rfP at h2;rw[Y i hi]at h2;cases he:eget ((ZA c)[i]'hi).ed (cget ((qO c).getD j []) i) v with
    | none=>rw[he]at h2;simp[h3]at h2
    | some u=>rfl
   rfl
  rw[show Za v (ZA c) _=some t' from e];rfl
 intro h i hi;obtain⟨t',e⟩:=Mk.1 h;have h2:=((Yf v _ _ _ H.1).1 e).2 i (Mb.1 hi);unfold rfP;rw[Y i (Mb.1 hi)];unfold pst at h2;split at h2
 ·rw[h2];simp
 rename_i h3;simp[h3]
end Go.Proofs.YtjcgijbhaemldaaGreatDoor
namespace Go.Lg
section
variable {P:Program}{ops:List Oper}{K:Fr→World→Prop}{f:Fr}{w:World}{d:Option Nat}{ty:Nat}{ps:String}{af:Array Edge}{gd:Option (Nat×Bool)}{l:List Oper}{t t':Nat}{x y:Operand}{k:IntKind}{a b:Int}
theorem QnP (hx:ev f x=.int k a)(hy:ev f y=.int k b)(h:a=b):(execOp (ev f) ⟨d,.binOp .eql t x y t',ty,ps,af,gd⟩).run P w=.ok (.value (.bool true)) w:=by
 rw[Zr hx hy,decide_eq_true h]
theorem JM (hx:ev f x=.int k a)(hy:ev f y=.int k b)(h:a=b):(execOp (ev f) ⟨d,.binOp .neq t x y t',ty,ps,af,gd⟩).run P w=.ok (.value (.bool false)) w:=by
 rw[Q6 hx hy,decide_eq_false (λe=>e h)]
theorem QnO (hx:ev f x=.int k a)(hy:ev f y=.int k b)(h:a≠b):(execOp (ev f) ⟨d,.binOp .neq t x y t',ty,ps,af,gd⟩).run P w=.ok (.value (.bool true)) w:=by
 rw[Q6 hx hy,decide_eq_true h]
end
end Go.Lg
namespace Go.Proofs.YtjcgijbhaemldaaGreatDoor
open Go.Lg
structure LwV where
 ns:LN
 ct:Nat
 ad:Option Addr
 n:Nat
 cp:Nat
 x0:Nat
 x1:Nat
 cl:Nat
abbrev Kg (l:LwV):LV:=bys l.ns++[.int .u8 (l.ct:Int),.slice l.ad l.n l.cp,.int .u8 (l.x0:Int),.int .u8 (l.x1:Int),.int .u8 (l.cl:Int)]
structure LwA (w:World)(l:LwV):Prop where
 n:l.ns.length=81
 b:∀n∈l.ns,n<256
 ct:l.ct<256
 x0:l.x0<256
 x1:l.x1<256
 cl:l.cl<256
 r:l.n≤3→∃rs:List PtV,rs.length=l.n∧Zy [] w.heap (.slice l.ad l.n l.cp) l.n 28 (rs.flatMap Yy)
def LwV.ln (l:LwV)(rs:List PtV):LnV:=⟨l.ns,l.ct,.slice l.ad l.n l.cp,rs,l.x0,l.x1,l.cl⟩
theorem LwA.ln {w w':World}{l:LwV}(h:LwA w l)(hs:Step [] w w')(E:l.n≤3):∃rs,LnA [] w'.heap (l.ln rs):=by
 obtain⟨rs,h1,h2⟩:=h.r E;exact⟨rs,h.n,h.b,h.ct,h.x0,h.x1,h.cl,by show Zy _ _ _ rs.length 28 _;rw[h1];exact h2.ext hs⟩
theorem QpO {l:LwV}(h:l.ns.length=81):(Kg l)[82]?=some (.slice l.ad l.n l.cp):=by
 show(Kg l)[81+1]?=_;rw[Kg,Mz (by rw[YJ];omega),YJ,h,Nr];rfl
theorem Qmn {a:QD}(E:QO a)(x:Int):(enb a x).length≤32:=by
 rw[QdT E];exact LL (Mg _ _) E.al_le
open Go.Proofs.Tryz
open Go.ChangeShapes Go.WideShapes Go.RowKit
section
variable {H:Type}{enc:TypeId×Value→H}{P:Program}{W:World}{base b0:Nat}{sp:Nat→Bool}{held:Bool}
theorem QoY {t e:TypeId}{c:Value}{fuel:Nat}{x:DataW H×List MemPlace}(ht:P.underlying t=some (.slice e))(he:kT P .u8 5 e=true)(hc:P.cellsOf e=28)
  (Y:Cell.okWide P W .any base t c) (ha:DataW.trod enc P W b0 sp held fuel t [c]=some x):∃a n cp,c=.slice a n cp∧(n≤12→∃u:List PtV,u.length=n∧Zy [] W.heap (.slice a n cp) n 28 (u.flatMap Yy)):=by
 rcases DataW.trod_slice ht ha with⟨E,_⟩|⟨a,len,cap,elems,rest,m,_,E,_,_,hl,_,hm,hb,_,_⟩
 ·simp at E;subst E;exact⟨none,0,0,O,λ_=>⟨[],O,Zy.nil _ _ _⟩⟩
 simp at E;subst E;refine⟨some a,len,cap,O,λhn=>?_⟩;have each:∀i,i<len→∃d:PtV,∀r v,(Yy d)[r]?=some v→W.cell? (a.add (i*28+r))=some v:=by
  intro i hi;have I:=hb i hi;rw[hc,LE (show i<elems.length by omega)]at I;obtain⟨cs,E,hf⟩:=Mc.1 I;have hg:=Ub 5 he hf;obtain⟨ns,h1,h2,h3⟩:=Qd5 cs (λv G=>UC (hg v G));unfold World.cells? at E;split at E
  ·have ho:cs.length=28:=by
    simpa using(zr E).1
   refine⟨⟨ns,by omega,h3⟩,λr v G=>?_⟩;have hv':cs[r]?=some v:=by rw[h1];exact G
   have hh:r<28:=by have:=(L7.1 hv').1;omega
   have h4:=(zr E).2 r r (by simp[hh]);rw[Lg.Addr.add_add,hv']at h4;exact h4
  cases E
 obtain⟨u,J,hu⟩:=Qix len each;refine⟨u,J,?_⟩;have U:(u.flatMap Yy).length=u.length*28:=Go.Lg.zL Yy 28 Qat u;refine⟨by rw[U,J],by omega,.inr ⟨a,cap,rfl,by omega,λ_ _=>by simp,λ_ _=>QkR ht Y,λj v G=>?_⟩⟩;have hj:j<u.length*28:=by
  rw[←U];exact(L7.1 G).1
 have hi:j / 28<u.length:=by omega
 have hk:=JH Yy 28 Qat u (j / 28) hi;have V:j=j / 28*28+j % 28:=by omega
 have h3:(Yy (u[j / 28]'hi))[j % 28]?=some v:=by
  rw[←hk,Ms,if_pos (Nat.mod_lt _ (by omega)),M4,←V];exact G
 rw[←Ja];have:=hu (j / 28) hi (j % 28) v h3;rw[←V]at this;exact this
end
section
variable {H:Type}{enc:TypeId×Value→H}{P:Program}{W:World}{base b0:Nat}{sp:Nat→Bool}{held:Bool}
theorem QgF {v:Value}{d:DataW H}{ps:List MemPlace}{t tp te:Nat}{E f1 f2 f3 f4:Field}(hu:P.underlying t=some (.struct #[E,f1,f2,f3,f4]))(V:(P.cellTypes P.depth t).map (λts=>(ts.length,ts[82]?))=some (86,some tp))(hc:P.cellsOf t=86)
  (hp:f2.type=tp) (o0:E.offset=0) (o1:f1.offset=81) (o2:f2.offset=82) (o3:f3.offset=83) (o4:f4.offset=85) (c0:P.cellsOf E.type=81) (c1:P.cellsOf f1.type=1) (c2:P.cellsOf tp=1) (c3:P.cellsOf f3.type=2) (c4:P.cellsOf f4.type=1)
  (k0:kT P .u8 5 E.type=true) (k1:kT P .u8 5 f1.type=true) (k3:kT P .u8 5 f3.type=true) (k4:kT P .u8 5 f4.type=true) (hq:P.underlying tp=some (.slice te)) (hr:kT P .u8 5 te=true) (hs:P.cellsOf te=28)
  (Y:Value.okWide P W .any base t v) (h:DataW.Trod enc P W b0 sp held t v d ps):∃l:LwV,v=.agg (Kg l).toArray∧LwA W l:=by
 simp only[Value.okWide,hu]at Y;obtain⟨cs,rfl,ha,ts,ht,_,hv⟩:=Y;rw[ht]at V;have hb:=Option.some.inj V;have hw:ts.length=86:=congrArg Prod.fst hb;have hy:ts[82]?=some tp:=congrArg Prod.snd hb;rw[hc]at ha;obtain⟨l⟩:=cs;have hl:l.length=86:=ha;obtain⟨fuel,hf⟩:=h;obtain⟨xs,m,_,_,_,G,hz⟩:=DataW.trod_struct hu hf
 have I:∀(i:Nat) (f:Field),(#[E,f1,f2,f3,f4]:Array Field)[i]?=some f→DataW.trod enc P W b0 sp held m f.type ((l.drop f.offset).take (P.cellsOf f.type))=xs[i]?:=hz;have hE:xs.length=5:=G;have g0:∀c∈l.take 81,∃n:Nat,c=.int .u8 (n:Int)∧n<256:=λc hm=>by
  obtain⟨j,hj,he⟩:=LB hm;have hF:j<81:=by simp at hj;omega
  have h0:l[j]?=some c:=by
   rw[Nb]at he;rw[LE (by omega),he]
  exact UC (Uj G I (i:=0) (f:=E) O k0 (by omega) (by omega) h0)
 obtain⟨ns,e1,e2,e3⟩:=Qd5 _ g0;have h1:ns.length=81:=by rw[e2];simp;omega
 have J:∀j,j<86→∃c,l[j]?=some c:=λj hj=>⟨l[j]'(by omega),LE (by omega)⟩;obtain⟨h2,hg⟩:=J 81 (by omega);obtain⟨U,hh⟩:=J 82 (by omega);obtain⟨h5,hi⟩:=J 83 (by omega);obtain⟨h6,hk⟩:=J 84 (by omega);obtain⟨h7,hn⟩:=J 85 (by omega);have ho:l.drop 81=[h2,U,h5,h6,h7]:=by
  apply List.ext_getElem?;intro i;rw[M4]
  match i with
  | 0=>exact hg
  | 1=>exact hh
  | 2=>exact hi
  | 3=>exact hk
  | 4=>exact hn
  | i+5=>rw[M2 (by omega)];rfl
 obtain⟨ct,rfl,h8⟩:=UC (Uj G I (i:=1) (f:=f1) O k1 (by omega) (by omega) hg);obtain⟨y0,rfl,h9⟩:=UC (Uj G I (i:=3) (f:=f3) O k3 (by omega) (by omega) hi);obtain⟨y1,rfl,hA⟩:=UC (Uj G I (i:=3) (f:=f3) O k3 (by omega) (by omega) hk);obtain⟨cl,rfl,hB⟩:=UC (Uj G I (i:=4) (f:=f4) O k4 (by omega) (by omega) hn)
 have hC:=QpI hv 82 tp U (by simpa using hh) (by rw[hw];exact hy);have hD:=Qou (c:=U) I 2 O hp o2 c2 (by rw[←List.drop_drop (i:=1) (j:=81),ho];rfl) (by omega);obtain⟨a,n,cp,rfl,hP⟩:=QoY hq hr hs hC hD;refine⟨⟨ns,ct,a,n,cp,y0,y1,cl⟩,?_,h1,e3,h8,h9,hA,hB,λh3=>hP (by have h4:n≤3:=h3;omega)⟩;show Value.agg l.toArray=.agg (bys ns++_).toArray
 rw[←e1,←ho,MQ]
end
set_option maxRecDepth 100000 in
theorem Qqe {H:Type}{enc:TypeId×Value→H}{W:World}{base b0:Nat}{sp:Nat→Bool}{held:Bool}{v:Value}{d:DataW H}{ps:List MemPlace}(E:Value.okWide prog W .any base 30 v)(h:DataW.Trod enc prog W b0 sp held 30 v d ps):
  ∃l:LwV,v=.agg (Kg l).toArray∧LwA W l :=
 QgF underlying30 (tp:=27) (by kernel_rfl) (by kernel_rfl) O O O O O O (by kernel_rfl) (by kernel_rfl) (by kernel_rfl) (by kernel_rfl) (by kernel_rfl) (by kernel_rfl) (by kernel_rfl) (by kernel_rfl) (by kernel_rfl) underlying27 (by kernel_rfl) (by kernel_rfl) E h
end Go.Proofs.YtjcgijbhaemldaaGreatDoor
namespace Go.Lg
theorem QbG {κ:Type}[DecidableEq κ]{l:List κ}{s:κ}(h:s∉l):mput (l.map λs=>(s,Value.bool true)) s (.bool true)=(l++[s]).map λs=>(s,Value.bool true):=by
 induction l with
 | nil=>rfl
 | cons a l ih =>
  have h1:a≠s:=λe=>h (by subst e;exact Lm);show(if a=s then(a,Value.bool true)::(l.map λs=>(s,Value.bool true))else(a,Value.bool true)::mput (l.map λs=>(s,Value.bool true)) s (.bool true))=_
  rw[if_neg h1,ih (λhm=>h (Lk _ hm))];rfl
theorem Qhz {κ:Type}[DecidableEq κ](l:List κ)(s:κ):mget (l.map λs=>(s,Value.bool true)) s=if s∈l then some (.bool true)else none:=by
 induction l with
 | nil=>rfl
 | cons a l ih =>
  show(if a=s then some (Value.bool true)else mget (l.map λs=>(s,Value.bool true)) s)=_
  rw[ih];by_cases h:a=s
  ·subst h;simp
  rw[if_neg h];have h':¬s=a:=λe=>h e.symm;simp[h']
section
variable {P:Program}{f:Fr}{w:World}{d:Option Nat}{ty:Nat}{ps:String}{af:Array Edge}{gd:Option (Nat×Bool)}{κ:Type}[DecidableEq κ]
theorem ji {t kt et:Nat}[hm:Mp P t kt et (.bool false)]{enc:κ→Value}[hk:Key P kt enc]{x y:Operand}{b:Nat}{l:List κ}{s:κ}(h:ZI enc w.heap b (l.map λs=>(s,Value.bool true)))(hx:ev f x=.map (some b))(hy:ev f y=enc s):
  (execOp (ev f) ⟨d,.lookup t x y false,ty,ps,af,gd⟩).run P w=.ok (.value (.bool (decide (s∈l)))) w:=by
 rw[JX h hx hy,Qhz];by_cases hs:s∈l <;> simp[hs]
end
end Go.Lg
namespace Go.Proofs.YtjcgijbhaemldaaGreatDoor
open Go.Proofs.Tryz
open Go.Lg
instance ayYv1:Ay prog 184 2 3 1:=⟨by kernel_rfl,by kernel_rfl⟩
def UY:List QD→Int
 | []=>0
 | a::l=>if Xq a≠0 then Xq a else UY l
def QjJ (kd:Int)(l:List QD):Int:=if UY l≠0 then UY l else if kd≠1∧kd≠2 then 11 else 0
theorem Qp8 (a b:QD)(kd:Int):QjJ kd [a,b]=lgE a b kd:=by
 unfold QjJ lgE UY;by_cases h1:Xq a≠0
 ·simp only[if_pos h1]
 rw[if_neg h1,if_neg h1];unfold UY;by_cases h2:Xq b≠0
 ·simp only[if_pos h2]
 rw[if_neg h2,if_neg h2];unfold UY;simp
theorem QdK {L:LN}{w:World}{v:Value}{ps:List AV}(h0:YX L w.heap v ps)(kd:Int):
  QH prog 84 [.int .i64 kd,v] w λr w'=>r=.int .i64 (QjJ kd (ps.map (·.a)))∧Step [] w w':=by
 have h:=h0.up (L':=[]) (by simp);have hu:=h.arr.le;have G:QjJ kd (ps.map (·.a))=if UY (ps.map (·.a))≠0 then UY (ps.map (·.a))else if kd≠1∧kd≠2 then 11 else 0:=rfl
 refine Zj (QjJ kd (ps.map (·.a))) λE hE=>?_;rw[hE]at G ⊢;refine QH.of_W func84 O ntmps84 results84 (by simp) ?_;refine Qc<|Qf<|Qg<|Qc<|Qb<|x (Qr h.arr O)<|Qb<|xe<|Qh<|Qz (α:=Nat) [(4,4),(6,7),(10,19)] (λz=>[(10,.int .i64 z)]) (λz w'=>z≤ps.length∧Step [] w w'∧UY ((ps.drop z).map (·.a))=UY (ps.map (·.a))) (λz=>ps.length - z) (by rfl) 0 La ⟨Ll _,Step.refl _ _,O⟩ ?_
 rintro k g w1 ⟨hk,H,hk1⟩;refine Qc<|x (QA O O)<|xe<|Qg<|QC O (λV=>?_) (λV=>?_)
 ·refine Qy ?_;have hi:ps.length≤k:=by have hj:¬(k:Int)<(ps.length:Int):=V;omega
  rw[Lv hi]at hk1;have hz:UY (ps.map (·.a))=0:=hk1.symm;rw[if_neg (by simpa using hz)]at G;refine Qg<|QX (α:=Bool) [(20,25)] (λz=>[(25,.bool z)]) (λz w'=>w'=w1∧z=decide (kd≠1∧kd≠2)) (by rfl) ?_ ?_
  ·refine Qw<|Qb<|xb (Q6 O O) (λY=>?_) (λY=>?_)
   ·refine Qb<|Qb<|x (Q6 O O)<|x (Qp O)<|xe ?_;have ha:¬kd=1:=Y;exact⟨decide (¬kd=2),La,O,by simp[ha]⟩
   refine Qb<|xs O<|xs O<|x (Qp O)<|xe ?_;have ha:kd=1:=Ln.1 Y;exact⟨false,La,O,by simp[ha]⟩
  rintro z g w2 ⟨rfl,hc⟩;refine QZ O (λhb=>?_) (λhb=>?_)
  ·rw[if_pos (of_decide_eq_true (hc.symm.trans hb))]at G;subst G;refine Qc<|Qf ?_;exact Ql ⟨[_],La,O,H⟩
  rw[if_neg (of_decide_eq_false (hc.symm.trans hb))]at G;subst G;refine Qi<|Qc<|Qf ?_;exact Ql ⟨[_],La,O,H⟩
 have I:k<ps.length:=by have hj:(k:Int)<(ps.length:Int):=V;omega
 have he:=Lc I;rw[LQ I,LX,UY]at hk1;refine Qi<|Qg<|Qh<|Qc<|xig (g:=Zc) (i:=k) JQ (h.ext H).arr O O I λhv hf=>?_;refine Zj (ps[k]'I) λq hq=>?_;rw[hq]at hf he hk1;have J:=(h.ext H).each q he
 refine x (QI hf O O)<|xl O<|Qu (us:=[nS,.int .i64 0,nS,nS]) O λb6 w3 hl hm hn=>xl O<|Qn (us:=Zc q) hn O O O O ⟨J.al.one,O,J.mr.one,J.ed.one,Z⟩ λw4 ho hp =>
  xe ?_
 have hg:Step [] w1 w4:=hl.then1 ho hm;refine Qc<|x (Qo hp O O)<|xl O<|xf<|(YU (J.ext hg)).mono ?_;rintro r5 w5 ⟨rfl,hs⟩;refine Qf ?_;have hh:=(H.trans hg).trans hs;refine Qc<|Qb<|x (Q6 O O)<|xe<|Q3 rfl (λU=>?_) (λU=>?_)
 ·rw[if_pos U]at hk1;have ht:UY (ps.map (·.a))≠0:=by rw[←hk1];exact U
  rw[if_pos ht,←hk1]at G;subst G;refine Qc<|Qb<|Qf ?_;exact Ql ⟨[_],La,O,hh⟩
 rw[if_neg U]at hk1;refine Qi<|Qw<|QP O O<|Qb<|xe ?_;exact⟨k+1,by omega,La,I,hh,hk1⟩
abbrev stI (l:LI):List (Int×Value):=l.map λs=>(s,Value.bool true)
structure Mch (H:Array Obj)(b m1 m2:Nat)(a:QD):Prop where
 B:QT H b 250 [.map (some m1),.map (some m2),.int .i64 (fst a)]
 e:ZI ZZ H m1 (Ks [] a.ed)
 m:ZI JO H m2 (stI a.mr)
theorem Mch.step {X:LN}{w w':World}{b E G:Nat}{a:QD}(h:Mch w.heap b E G a)(hs:Step X w w')(H:b∉X)(h1:E∉X)(h2:G∉X):Mch w'.heap b E G a:=⟨h.B.step hs H,h.e.step hs h1,h.m.step hs h2⟩
theorem Mch.ext {w w':World}{b E G:Nat}{a:QD}(h:Mch w.heap b E G a)(hs:Step [] w w'):Mch w'.heap b E G a:=h.step hs (by simp) (by simp) (by simp)
theorem jt {w:World}{b H I:Nat}{a:QD}(h:Mch w.heap b H I a)(J:QO a)(s v:Int):
  QH prog 139 [.pointer (some ⟨b,0,none⟩),.int .i64 s,.int .i64 v] w λr w'=>r=.int .i64 (nxt a.ed s v)∧Step [] w w':=by
 have E:nxt a.ed s v=(if(eget a.ed s v).isSome=true then(eget a.ed s v).getD 0 else -1):=by rw[YS];cases eget a.ed s v <;> rfl
 refine QH.of_W func139 O ntmps139 results139 (by simp) ?_;refine Qc<|Qf<|Qg<|Qc<|Qb<|x (QE O)<|x (Qa O)<|x (Qd h.B O O)<|Qb<|Qb<|x (QM ⟨O,O,Z⟩)<|x (QeP (s:=a) (q:=s) (v:=v) h.e J.edi O O) <|
  Qb<|x (Qj O O)<|x (Qj O O)<|x Qe<|Qf<|Qc<|Qb<|xe ?_
 refine Q3 rfl (λG=>?_) (λG=>?_)
 ·rw[if_pos G]at E;refine Qc<|Qb<|Qf ?_;exact Ql ⟨[_],La,by rw[E];rfl,Step.refl _ _⟩
 rw[if_neg G]at E;refine Qi<|Qc<|Qf ?_;exact Ql ⟨[_],La,by rw[E];rfl,Step.refl _ _⟩
theorem Qe9 {w:World}{b I J:Nat}{a:QD}(h:Mch w.heap b I J a)(s kd:Int):
  QH prog 89 [.pointer (some ⟨b,0,none⟩),.int .i64 s,.int .i64 kd] w λr w'=>r=.bool (UN a kd s)∧Step [] w w':=by
 refine QH.of_W func89 O ntmps89 results89 (by simp) ?_;refine Qc<|Qf<|QX (α:=Bool) [(6,20)] (λz=>[(6,.bool z)]) (λz w'=>w'=w∧z=UN a kd s) (by rfl) ?_ ?_
 ·refine Qw<|Qb<|xb (ZV O O) (λE=>?_) (λE=>?_)
  ·have h9:0≤s:=E;refine Qb<|Qb<|xb (Zr O O) (λG=>?_) (λG=>?_)
   ·refine Qb<|xs O<|xs O<|xs O<|xs O<|xs O<|xs O<|x (Qp O)<|x (Qp O)<|Qf ?_;have H:kd=1:=G;exact⟨true,La,O,by simp[UN,h9,H]⟩
   have H:¬kd=1:=G;refine Qb<|Qb<|x (QE O)<|x (Qa O)<|x (Qd h.B O O)<|Qb<|x (ji (s:=s) h.m O O)<|x (Qp O)<|x (Qp O) <|
    Qf ?_
   exact⟨decide (s∈a.mr),La,O,by simp[UN,h9,H]⟩
  have h9:¬0≤s:=E;refine Qb<|xs O<|xs O<|xs O<|xs O<|xs O<|xs O<|xs O<|xs O<|xs O<|xs O<|x (Qp O)<|x Qe <|
   xe ?_
  exact⟨false,La,O,by simp[UN];omega⟩
 rintro z g U ⟨rfl,rfl⟩;exact Ql ⟨[_],La,O,Step.refl _ _⟩
theorem QiE {w:World}{b10 I b11 J he hf U hg hh:Nat}{a b:QD}{kd:Int}(hi:QT w.heap b10 180 [.pointer (some ⟨J,0,none⟩)])(hj:QT w.heap b11 180 [.pointer (some ⟨U,0,none⟩)])
  (h5:QT w.heap I 3 [.int .i64 kd]) (ha:Mch w.heap J he hf a) (hb:Mch w.heap U hg hh b) (s t:Int):
  QH prog 88 [.agg #[.int .i64 s,.int .i64 t],.pointer (some ⟨b10,0,none⟩),.pointer (some ⟨I,0,none⟩),.pointer (some ⟨b11,0,none⟩)] w λr w'=>r=.bool (!(UN a kd s == UN b kd t))∧Step [] w w':=by
 refine QH.of_W func88 O ntmps88 results88 (by simp) ?_;refine Qc<|xl O<|QR (us:=[.int .i64 s,.int .i64 t]) O λb4 G E hk V=>Qf ?_;have hd:Step [] G { G with drawn:=G.drawn+1 }:=Step.drew _ _
 refine Qg<|QU (Step [] G) [(0,true),(1,true),(2,true),(3,true),(5,true),(6,true),(7,true),(8,true),(4,false),(9,false),(10,true),(11,true)] mixed (by rfl) (by kernel_rfl) (Step.drew _ _) ?_;refine pq (λ_ hc=>Qd ((hi.ext E).ext hc) O O)<|p (λ_=>Xe (i:=0) O O (by decide))<|pq (λ_ hc=>Qd (V.ext hc) O O)<|pq (λ_ hc=>Qd ((h5.ext E).ext hc) O O)<|pq (λ_ hc=>Qd ((hj.ext E).ext hc) O O) <|
  p (λ_=>Xe (i:=1) O O (by decide))<|pq (λ_ hc=>Qd (V.ext hc) O O)<|pq (λ_ hc=>Qd ((h5.ext E).ext hc) O O)<|pk<|xf<|(Qe9 ((ha.ext E).ext hd) s kd).mono ?_
 rintro r2 w2 ⟨rfl,H⟩;refine⟨hd.trans H,?_⟩;refine pk<|xf<|(Qe9 (((hb.ext E).ext hd).ext H) t kd).mono ?_;rintro r3 w3 ⟨rfl,Y⟩;refine⟨(hd.trans H).trans Y,?_⟩;refine p (λ_=>zh O O)<|p (λ_=>Qe)<|pe ?_;exact Ql ⟨[_],La,O,((E.trans hd).trans H).trans Y⟩
set_option maxHeartbeats 4000000 in
theorem ju {w:World}{va vm ve:Value}{a:QD}(h:Zm [] w.heap va vm ve a)(ho:QO a):
  QH prog 85 [.agg #[va,.int .i64 a.st,vm,ve]] w λr w'=>Step [] w w'∧∃b E G,r=.pointer (some ⟨b,0,none⟩)∧w.heap.size≤b∧w.heap.size≤E∧w.heap.size≤G∧Mch w'.heap b E G a:=by
 have gr:=h.ed.le;have gs:=h.mr.le;refine QH.of_W func85 O ntmps85 results85 (by simp) ?_;refine Qc<|xl O<|QR (us:=[va,.int .i64 a.st,vm,ve]) O λb1 w1 hh gt h5=>Qf<|Qc<|xl O<|Z6 ZZ λE w2 h9 gu hB=>xl O<|Z6 JO λG w3 hn gv hC=>x (QM ⟨O,O,O,Z⟩)<|xl O<|QR (us:=[.map (some E),.map (some G),.int .i64 0]) O λb11 I V gx hp =>
  Qf ?_
 have gy:=hh.size;have gz:=h9.size;have g0:=hn.size;have g1:=V.size;have g2:=hB.lt;have g3:=hC.lt;have g4:=hp.lt;have hq:=(h9.trans hn).trans V;have hr:=h5.ext hq;have g5:=h5.lt;have hN:ZI ZZ I.heap E []:=((hB.step hn (by simp)).step V (by simp));have hO:ZI JO I.heap G []:=hC.step V (by simp)
 have ht:∀{b:Nat},b∈[b11,E,G]→w1.heap.size≤b:=λhb=>by simp only[List.mem_cons,List.not_mem_nil,or_false]at hb;omega
 have hD:b1∉[b11,E,G]:=λhb=>by have:=ht hb;omega
 have hP:∀b∈[b11,E,G],w.heap.size≤b:=λb hb=>by have:=ht hb;omega
 have hA:∀{w':World},Step [b11,E,G] I w'→Zm [] w'.heap va vm ve a:=λhs =>
  ((((h.ext hh).up (L':=[b11,E,G]) (λb hb=>.inr (ht hb))).ext hq).st hs).up (by simp)
 have hQ:∀b∈[b11],b∈[b11,E,G]:=λb hb=>by simp only[List.mem_singleton]at hb;simp[hb]
 have k1:∀b∈[E],b∈[b11,E,G]:=λb hb=>by simp only[List.mem_singleton]at hb;simp[hb]
 have k2:∀b∈[G],b∈[b11,E,G]:=λb hb=>by simp only[List.mem_singleton]at hb;simp[hb]
 refine QX (α:=Unit) [(12,17)] (λz=>[]) (λz w'=>Step [b11] I w'∧QT w'.heap b11 250 [.map (some E),.map (some G),.int .i64 (fst a)]) (by rfl) ?_ ?_
 ·refine Qc<|x (Qa O)<|x (Qd hr O O)<|x (Zr O O)<|xe<|Q3 O (λhu=>?_) (λhu=>?_)
  ·have hf:fst a=-1:=by unfold fst;rw[if_pos hu]
   refine Qw<|Qb<|x (QE O)<|x (Qa O)<|xl O<|QF (j:=2) (u:=.int .i64 (-1)) hp O O (by simp) rfl λw5 hR hS=>xe ?_;exact⟨(),Z,hR,by rw[hf];exact hS⟩
  have hf:fst a=0:=by unfold fst;rw[if_neg hu]
  refine Qi ?_;exact⟨(),Z,Step.refl _ _,by rw[hf];exact hp⟩
 rintro z g w6 ⟨Y,hT⟩;have hv:=Y.mono hQ;have g6:=Y.size;have hU:ZI ZZ w6.heap E []:=hN.step Y (by simp only[List.mem_singleton];omega);have hV:ZI JO w6.heap G []:=hO.step Y (by simp only[List.mem_singleton];omega);have hW:=hr.step hv hD;have h6:=hA hv;refine Qg<|Qc<|x (Qa O)<|x (Qd hW O O)<|x (Qr h6.ed O)<|Qb<|xe ?_
 refine Qh<|Qz (α:=Nat) [(5,5),(21,36)] (λz=>[(21,.int .i64 z)]) (λz w'=>z≤a.ed.length∧Step [E] w6 w'∧ZI ZZ w'.heap E (Ks [] (a.ed.take z))) (λz=>a.ed.length - z) (by rfl) 0 La
  ⟨Ll _,Step.refl _ _,hU⟩ ?_
 rintro k g w7 ⟨hk,J,hw⟩;have hy:Step [b11,E,G] I w7:=hv.trans' (J.mono k1);have h7:=hA hy;have g7:=J.size;have hE:=hT.step J (by simp only[List.mem_singleton];omega);have hX:=hV.step J (by simp only[List.mem_singleton];omega);have hY:=hr.step hy hD;refine Qc<|x (QA O O)<|xe<|Qg<|QC O (λhz=>?_) (λhz=>?_)
 ·refine Qy ?_;have hZ:a.ed.length≤k:=by have h0:¬(k:Int)<(a.ed.length:Int):=hz;omega
  rw[Lp hZ]at hw;refine Qg<|Qc<|x (Qa O)<|x (Qd hY O O)<|x (Qr h7.mr O)<|Qb<|xe<|Qh<|Qz (α:=Nat) [(7,7),(40,49)] (λz=>[(40,.int .i64 z)]) (λz w'=>z≤a.mr.length∧Step [G] w7 w'∧ZI JO w'.heap G (stI (a.mr.take z))) (λz=>a.mr.length - z) (by rfl) 0 La
   ⟨Ll _,Step.refl _ _,hX⟩ ?_
  rintro j g w8 ⟨hj,ha,h1⟩;have hF:Step [b11,E,G] I w8:=hy.trans' (ha.mono k2);have h8:=hA hF;have hG:=hE.step ha (by simp only[List.mem_singleton];omega);have ga:=hw.step ha (by simp only[List.mem_singleton];omega);refine Qc<|x (QA O O)<|xe<|Qg<|QC O (λh2=>?_) (λh2=>?_)
  ·refine Qy ?_;have gb:a.mr.length≤j:=by have h0:¬(j:Int)<(a.mr.length:Int):=h2;omega
   rw[Lp gb]at h1;refine Qc<|Qb<|Qf ?_;exact Ql ⟨[.pointer (some ⟨b11,0,none⟩)],La,(hh.trans hq).then hF (λb hb=>.inr (hP b hb)),b11,E,G,O,by omega,by omega,by omega,hG,ga,h1⟩
  have H:j<a.mr.length:=by have h0:(j:Int)<(a.mr.length:Int):=h2;omega
  have hH:a.mr.take (j+1)=a.mr.take j++[a.mr[j]'H]:=Li H;have hI:(a.mr[j]'H)∉a.mr.take j:=by
   intro hm;obtain⟨i,hi,e⟩:=LB hm;rw[Nb]at e;have gc:i<j:=by rw[LC]at hi;omega
   have:=Z2.get ho.mri H gc;omega
  refine Qi<|Qg<|Qh<|Qc<|xii (i:=j) h8.mr O O H λg8 hJ=>?_;refine Zj (a.mr[j]'H) λs hs=>?_;rw[hs]at hJ hH hI;refine x (Qv hJ O)<|Qf<|Qw<|Qb<|x (QE O)<|x (Qa O)<|x (Qd hG O O)<|Qb<|xl O<|YR (k:=s) h1 O O λw9 ge gg=>xe ?_;refine Qw<|QP O O<|Qb<|xe<|⟨j+1,by omega,La,H,ha.trans' ge,?_⟩;rw[hH]
  have hK:ZI JO w9.heap G (mput ((a.mr.take j).map λs=>(s,Value.bool true)) s (.bool true)):=gg;rw[QbG hI]at hK;exact hK
 have hg:k<a.ed.length:=by have h0:(k:Int)<(a.ed.length:Int):=hz;omega
 have hL:=zV (m:=[]) hg;refine Qi<|Qg<|Qh<|Qc<|xie (i:=k) h7.ed O O hg λg9 hM=>?_;refine Zj (a.ed[k]'hg) λe he=>?_;rw[he]at hM hL;refine x (QI hM O O)<|xl O<|Qu (us:=[.int .i64 0,.int .i64 0,.int .i64 0]) O λb5 ka gh gi gj=>xl O<|Qn (us:=QB e) gj O O O O ⟨O,O,O,Z⟩ λU gk h3 =>
  xe ?_
 have h4:Step [] w7 U:=gh.then1 gk gi;have gl:=hE.ext h4;have gm:ZI ZZ U.heap E (Ks [] (a.ed.take k)):=hw.step h4 (by simp);refine QU (Step [] U) [(0,true),(1,true),(2,true),(3,true),(4,true),(5,true),(6,true),(7,true),(8,true),(9,true),(10,true),(11,false)] mixed (by rfl) (by kernel_rfl) (Step.drew _ _) ?_
 refine p (λ_=>Qk)<|p (λ_=>QE O)<|p (λ_=>Qa O)<|pq (λ_ hc=>Qd (gl.ext hc) O O) <|
  p (λ_=>Qa O)<|pq (λ_ hc=>Qd (h3.ext hc) O O)<|p (λ_=>Qa O)<|pq (λ_ hc=>Qd (h3.ext hc) O O) <|
  p (λ_=>QM ⟨O,O,Z⟩)<|p (λ_=>Qa O)<|pq (λ_ hc=>Qd (h3.ext hc) O O)<|pkl (hl:=by kernel_rfl)<|YR (k:=(e.1,e.2.1)) (gm.step (Step.drew [] U) (by simp)) rfl rfl λkb gn gq =>
  pe ?_
 refine Qw<|QP O O<|Qb<|xe<|⟨k+1,by omega,La,hg,((J.trans h4).trans (Step.drew [] U)).trans' gn,?_⟩;rw[hL];exact gq
theorem Qgo (a b:Int)(v w:LI):Qgp (a::v) (b::w)=if a=b then Qgp v w else decide (a<b):=rfl
theorem Qiu {L L':LN}{w:World}{v v':Value}{l l':LI}(h:QJ L w.heap v l)(h':QJ L' w.heap v' l'):
  QH prog 42 [v,v'] w λr w'=>r=.bool (less l l')∧Step [] w w':=by
 have hs:=h.le;have ht:=h'.le;have G:less l l'=if l.length≠l'.length then decide (l.length<l'.length)else Qgp l l':=rfl
 refine Zj (less l l') λR hR=>?_;rw[hR]at G ⊢;have H:QJ [] w.heap v l:=h.up (by simp);have J:QJ [] w.heap v' l':=h'.up (by simp);refine QH.of_W func42 O ntmps42 results42 (by simp) ?_;refine Qc<|Qf<|Qg<|Qc<|Qb<|x (Qr H O)<|Qb<|x (Qr J O)<|x (Q6 O O)<|xe<|Q3 rfl (λha=>?_) (λha=>?_)
 ·have hm:l.length≠l'.length:=λe=>ha (by rw[e]);rw[if_pos hm]at G;refine Qc<|Qb<|x (Qr H O)<|Qb<|x (Qr J O)<|x (QA O O)<|Qf<|Ql ⟨[_],La,?_,Step.refl _ _⟩;rw[G];have:decide ((l.length:Int)<(l'.length:Int))=decide (l.length<l'.length):=by rw[decide_eq_decide];omega
  show Value.bool (decide ((l.length:Int)<(l'.length:Int)))=_;rw[this]
 have hn:l.length=l'.length:=by
  have hu:(l.length:Int)=(l'.length:Int):=Ln.1 ha;omega
 rw[if_neg (by simpa using hn)]at G;refine Qi<|Qg<|Qc<|Qb<|x (Qr H O)<|Qb<|xe<|Qh<|Qz (α:=Nat) [(4,5),(18,39)] (λz=>[(18,.int .i64 z)]) (λz w'=>z≤l.length∧Step [] w w'∧Qgp (l.drop z) (l'.drop z)=R) (λz=>l.length - z) (by rfl) 0 La ⟨Ll _,Step.refl _ _,G.symm⟩ ?_;rintro k g E ⟨hk,U,hk1⟩;refine Qc<|x (QA O O)<|xe<|Qg<|QC O (λhb=>?_) (λhb=>?_)
 ·refine Qy ?_;have ho:l.length≤k:=by have hp:¬(k:Int)<(l.length:Int):=hb;omega
  rw[Lv ho]at hk1;have hq:R=false:=hk1.symm;refine Qc<|Qf ?_;exact Ql ⟨[_],La,by rw[hq];rfl,U⟩
 have I:k<l.length:=by have hp:(k:Int)<(l.length:Int):=hb;omega
 have V:k<l'.length:=by omega
 rw[LQ I,LQ V,Qgo]at hk1;refine Qi<|Qg<|Qh<|Qc<|Qb<|Qf<|Qg<|QU (Step [] E) [(0,true),(1,true),(2,true),(3,true),(4,true),(5,true),(6,true),(7,true),(8,true)] mixed (by rfl) (by kernel_rfl) (Step.drew _ _) ?_;refine p (λ_=>Qk)<|p (λ_=>Qk)<|pii (i:=k) O (H.ext U) O O I λhv hf=>?_;refine Zj (l[k]'I) λx1 hg=>?_;rw[hg]at hf hk1
 refine pq (λ_ hc=>Qv (hf.st hc) O) <|
  p (λ_=>Qk)<|p (λ_=>Qk)<|pii (i:=k) O (J.ext U) O O V λhw hh=>?_
 refine Zj (l'[k]'V) λx2 hi=>?_;rw[hi]at hh hk1;refine pq (λ_ hc=>Qv (hh.st hc) O)<|p (λ_=>Q6 O O)<|pe ?_;have hd:Step [] E { E with drawn:=E.drawn+1 }:=Step.drew _ _
 have Y:=U.trans hd;refine Q3 rfl (λhe=>?_) (λhe=>?_)
 ·rw[if_neg he]at hk1;refine Qg<|QU (Step [] { E with drawn:=E.drawn+1 }) [(0,true),(1,true),(2,true),(3,true),(4,true),(5,true),(6,true),(7,true),(8,true),(9,true)] mixed (by rfl) (by kernel_rfl) (Step.drew _ _) ?_
  refine p (λ_=>Qk)<|p (λ_=>Qk)<|pii (i:=k) O (H.ext Y) O O I λhy hj=>?_;rw[hg]at hj;refine pq (λ_ hc=>Qv (hj.st hc) O) <|
   p (λ_=>Qk)<|p (λ_=>Qk)<|pii (i:=k) O (J.ext Y) O O V λhz hl=>?_
  rw[hi]at hl;refine pq (λ_ hc=>Qv (hl.st hc) O)<|p (λ_=>QA O O) <|
   p (λ_=>Qe)<|pe ?_
  exact Ql ⟨[.bool (decide (x1<x2))],La,by rw[←hk1];rfl,Y.trans (Step.drew _ _)⟩
 rw[if_pos (Ln.1 he)]at hk1;refine Qi<|Qw<|QP O O<|Qb<|xe ?_;exact⟨k+1,by omega,La,I,Y,hk1⟩
end Go.Proofs.YtjcgijbhaemldaaGreatDoor
namespace Go.Lg
section
variable {P:Program}{n:Nat}{f:Fr}{w:World}{all:List Oper}{K:Fr→World→Prop}
def Qpz (all:List Oper)(pre:List (Nat×Bool))(k:Nat)(t:Pt):Bool :=
 Region.noSelect all.toArray && (pre.length+(t.len+1) == all.length) && Xy all.toArray pre (Array.replicate all.length false) && (Region.ready .any all.toArray (Zw pre (Array.replicate all.length false)) == [k]) && QhW all.toArray t ((Zw pre (Array.replicate all.length false)).setIfInBounds k true)
theorem QmP {Q:Exit→Fr→World→Prop}{id:Nat}(C:World→Prop)(pre:List (Nat×Bool))(k:Nat)(t:Pt)(hm:P.follows .mixedOrders=true)(J:Xn n all=true)(hp:Qpz all pre k t=true)
  (hC:C { w with drawn:=w.drawn+1 }) (h:XP P all C (λf1 E=>Yd all f1 (QL all k)=true∧XO P (QL all k) f1 E λG w'=>C w'∧XT P all C (λf w=>Q .normal f w) t G w') pre f { w with drawn:=w.drawn+1 }):W P n (.region id all.toArray true) Q f w:=by
 simp only[Qpz,Bool.and_eq_true,beq_iff_eq]at hp;obtain⟨⟨⟨⟨hs,hl⟩,hq⟩,H⟩,ht⟩:=hp;refine Y7 C hm J ?_;have h1:=ZP (K:=λf w=>Q .normal f w) (m:=t.len+1) hs pre (Array.replicate all.length false) f _ hC hq
  (B:=λf1 E=>Yd all f1 (QL all k)=true∧XO P (QL all k) f1 E λG w'=>C w'∧XT P all C (λf w=>Q .normal f w) t G w')
  (λf1 I=>by
   refine Y0 (λU=>(by rw[U]at H;cases H)) ?_;rw[H];intro j hj o V;have Y:j=k:=by simpa using hj
   subst Y;rw[Zh V]at I;rw[I.1,cond_true];exact I.2.mono λv w' hx=>⟨.inr (.inr hx.1),VN hs t _ _ _ (by simp[ZN]) hx.1 ht hx.2⟩) h
 rw[hl]at h1;exact h1
end
end Go.Lg
namespace Go.Proofs.YtjcgijbhaemldaaGreatDoor
open Go.Lg
theorem At.sub {L:LN}{H:Array Obj}{a:Addr}{us:LV}(h:At L H a us)(n:Nat):At L H a (us.take n):=
 ⟨λu hu=>h.out u (L2 hu),λu hu=>h.lt u (L2 hu),λj u hu=>by
  rw[Ms]at hu;split at hu
  ·exact h.cell j u hu
  cases hu⟩
abbrev Yo (p:Vs):LV:=[.int .i64 p.x,.int .i64 p.y,.int .i64 p.b,.int .i64 p.v]
theorem qN (p:Vs):(Yo p).length=4:=rfl
theorem Qia:∀(es:List Ed) (s v:Int),(∀e∈es,0≤e.2.2)→-1≤nxt es s v
 | [],_,_,_=>MH _
 | e::es,s,v,h=>by
  rw[nxt];split
  ·have:=h e Lm;omega
  exact Qia es s v (λx hx=>h x (Lk _ hx))
theorem Qh7 {a:QD}(E:QO a)(s v:Int):-1≤nxt a.ed s v∧(nxt a.ed s v<a.st∨nxt a.ed s v=-1):=by
 have h1:=Qia a.ed s v (λe he=>(E.ed e he).2.2.2.1);refine⟨h1,?_⟩;by_cases h:nxt a.ed s v<0
 ·right;omega
 left;exact QdB E h
structure VsI (a b:QD)(V:List Vs):Prop where
 nd:(V.map Vs.ky).Nodup
 rg:∀p∈V,-1≤p.x∧(p.x<a.st∨p.x=-1)∧-1≤p.y∧(p.y<b.st∨p.y=-1)
 bk:∀(k:Nat) (h:k<V.length),V[k].b<(k:Int)
def cdV (m:Nat)(p:Int×Int):Int:=(p.1+1)*(m+1)+(p.2+1)
theorem QoS {n m:Nat}{x y:Int}(hx:-1≤x∧(x<n∨x=-1))(hy:-1≤y∧(y<m∨y=-1)):0≤cdV m (x,y)∧cdV m (x,y)<(((n+1)*(m+1):Nat):Int):=by
 unfold cdV;obtain⟨u,hu⟩:∃u:Nat,x+1=u:=⟨(x+1).toNat,by omega⟩;obtain⟨v,E⟩:∃v:Nat,y+1=v:=⟨(y+1).toNat,by omega⟩;have G:u≤n:=by omega
 have H:v≤m:=by omega
 show 0≤(x+1)*((m:Int)+1)+(y+1)∧(x+1)*((m:Int)+1)+(y+1)<_;rw[hu,E];have h1:u*(m+1)+v<(n+1)*(m+1):=by
  have h2:u*(m+1)≤n*(m+1):=ML _ G;have h3:(n+1)*(m+1)=n*(m+1)+(m+1):=by rw[Mt,M7]
  omega
 have e:((u:Int)*((m:Int)+1)+(v:Int))=((u*(m+1)+v:Nat):Int):=by push_cast;rfl
 rw[e];constructor <;> omega
theorem QmB {m:Nat}{x y G E:Int}(hx:-1≤x)(Y:-1≤G)(hy:-1≤y∧(y<m∨y=-1))(ha:-1≤E∧(E<m∨E=-1))(h:cdV m (x,y)=cdV m (G,E)):(x,y)=(G,E):=by
 unfold cdV at h;have h':(x+1)*((m:Int)+1)+(y+1)=(G+1)*((m:Int)+1)+(E+1):=h;obtain⟨u,hu⟩:∃u:Nat,x+1=u:=⟨(x+1).toNat,by omega⟩;obtain⟨H,I⟩:∃H:Nat,G+1=H:=⟨(G+1).toNat,by omega⟩;obtain⟨v,J⟩:∃v:Nat,y+1=v:=⟨(y+1).toNat,by omega⟩;obtain⟨v',hv'⟩:∃v':Nat,E+1=v':=⟨(E+1).toNat,by omega⟩;rw[hu,I,J,hv']at h';have h1:u*(m+1)+v=H*(m+1)+v':=by exact_mod_cast h'
 have U:v<m+1:=by omega
 have V:v'<m+1:=by omega
 have e1:u=H:=by
  have a1:(u*(m+1)+v) / (m+1)=u:=by rw[Nat.mul_comm,Nat.mul_add_div (by omega),Nat.div_eq_of_lt U,M6]
  have a2:(H*(m+1)+v') / (m+1)=H:=by rw[Nat.mul_comm,Nat.mul_add_div (by omega),Nat.div_eq_of_lt V,M6]
  rw[←a1,←a2,h1]
 subst e1;have e2:v=v':=by omega
 have:x=G∧y=E:=⟨by omega,by omega⟩;rw[this.1,this.2]
theorem VsI.len {a b:QD}(ha:QO a)(hb:QO b){V:List Vs}(h:VsI a b V):V.length≤(a.st.toNat+1)*(b.st.toNat+1):=by
 have Y:=ha.st0;have hc:=hb.st0;have h1:=pig ((a.st.toNat+1)*(b.st.toNat+1)) ((V.map Vs.ky).map (cdV b.st.toNat)) (by
  unfold List.Nodup;rw[Mm];refine(List.Pairwise.imp_of_mem ?_ h.nd);intro p q hp hq G e;obtain⟨H,I,rfl⟩:=Lq.1 hp;obtain⟨J,U,rfl⟩:=Lq.1 hq;have E:=h.rg H I;have r2:=h.rg J U;exact G (QmB E.1 r2.1 ⟨E.2.2.1,by omega⟩ ⟨r2.2.2.1,by omega⟩ e)) (λx hx=>by
  obtain⟨k,hk,rfl⟩:=Lq.1 hx;obtain⟨p,hp,rfl⟩:=Lq.1 hk;have E:=h.rg p hp;exact QoS ⟨E.1,by omega⟩ ⟨E.2.2.1,by omega⟩)
 simpa using h1
theorem Qop {V W:List Vs}{i:Nat}(h:i<V.length):gV (V++W) i=gV V i:=by unfold gV;simp[List.getD,List.getElem?_append_left h]
theorem QdP {V:List Vs}{i:Nat}(h:i<V.length):gV V i=V[i]'h:=by unfold gV;simp[List.getD,h]
theorem Qi1 {a:QD}(E:QO a):-1≤fst a∧(fst a<a.st∨fst a=-1):=by
 have:=E.st0;unfold fst;split
 ·exact⟨by omega,.inr O⟩
 exact⟨by omega,.inl (by omega)⟩
theorem VsI.one {a b:QD}(ha:QO a)(hb:QO b):VsI a b [⟨fst a,fst b,-1,0⟩]:=by
 have h1:=Qi1 ha;have h2:=Qi1 hb;refine⟨by simp,λp hp=>?_,λk h=>?_⟩
 ·simp only[List.mem_singleton]at hp;subst hp;exact⟨h1.1,h1.2,h2.1,h2.2⟩
 have hk:k=0:=by simpa using h
 subst hk;exact(by decide:(-1:Int)<0)
theorem VsI.add {a b:QD}(ha:QO a)(hb:QO b){V:List Vs}(h:VsI a b V){i:Nat}(hi:i<V.length){p:Vs}{v:Int}(hk:(yE a b i p v).ky∉V.map Vs.ky):VsI a b (V++[yE a b i p v]):=by
 refine⟨?_,λq hq=>?_,λk G=>?_⟩
 ·rw[Lx,Mx];refine⟨h.nd,by simp,λx hx y hy e=>?_⟩;simp only[List.map_cons,List.map_nil,List.mem_singleton]at hy;subst hy;subst e;exact hk hx
 ·rcases Lo.1 hq with hq|hq
  ·exact h.rg q hq
  simp only[List.mem_singleton]at hq;subst hq;have E:=Qh7 ha p.x v;have r2:=Qh7 hb p.y v;exact⟨E.1,E.2,r2.1,r2.2⟩
 rw[List.getElem_append];split
 ·rename_i h1;exact h.bk k h1
 have:V.length≤k:=by omega
 simp only[List.getElem_singleton,yE];omega
theorem Qb8 (V:List Vs)(f k:Nat):lgW V (f+1) k=if 0≤(gV V k).b then(gV V k).v::lgW V f (gV V k).b.toNat else[]:=rfl
open Go.Proofs.Tryz
instance:Bw prog 252 [.int .i64 0,.int .i64 0,.int .i64 0,.int .i64 0] [(0,2),(2,1),(3,1)]:=⟨by kernel_rfl,by decide⟩
abbrev stP (l:List (Int×Int)):List ((Int×Int)×Value):=l.map λs=>(s,Value.bool true)
abbrev VsO (base:Nat)(w:World)(v:Value)(l:List Vs):Prop:=w.ownsRow base 252 4 v l.length (l.flatMap Yo)
theorem VsO.snoc {base:Nat}{w:World}{v:Value}{l:List Vs}{p:Vs}(h:w.ownsRow base 252 4 v (l.length+1) (l.flatMap Yo++Yo p)):VsO base w v (l++[p]):=by
 unfold VsO;rw[Lj,LG];simpa using h
theorem Qln {p:Prop}{i:Decidable p}(h:(!@decide p i)=true):¬p:=by
 cases i with
 | isTrue hp=>cases h
 | isFalse hp=>exact hp
theorem Qih {p:Prop}{i:Decidable p}(h:(!@decide p i)=false):p:=by
 cases i with
 | isTrue hp=>exact hp
 | isFalse hp=>cases h
structure jT (H:Array Obj)(m:Nat)(V:List Vs):Prop where
 h:∃K:List (Int×Int),ZI ZZ H m (stP K)∧∀k,k∈K↔k=(-1,-1)∨k∈V.map Vs.ky
theorem KJ {H:Array Obj}{m:Nat}{K:List (Int×Int)}{k:Int×Int}(h:ZI ZZ H m (mput (stP K) k (.bool true))):∃K',ZI ZZ H m (stP K')∧∀x,x∈K'↔x=k∨x∈K:=by
 by_cases hk:k∈K
 ·refine⟨K,?_,λx=>⟨.inr,λhx=>hx.elim (λe=>e ▸ hk) id⟩⟩;have key:∀K:List (Int×Int),k∈K→mput (stP K) k (.bool true)=stP K:=by
   intro K;induction K with
   | nil=>intro h;cases h
   | cons a K ih =>
    intro hm;show(if a=k then(a,Value.bool true)::stP K else(a,Value.bool true)::mput (stP K) k (.bool true))=_
    by_cases e:a=k
    ·rw[if_pos e];rfl
    rw[if_neg e,ih ((Le.1 hm).resolve_left (λh=>e h.symm))];rfl
  rw[key K hk]at h;exact h
 refine⟨K++[k],?_,λx=>by rw[Lo,Lb];exact Or.comm⟩;have:=QbG hk;rw[show mput (stP K) k (.bool true)=stP (K++[k]) from this]at h;exact h
theorem jT.ext {w w':World}{m:Nat}{V:List Vs}(h:jT w.heap m V)(hs:Step [] w w'):jT w'.heap m V:=let⟨K,h1,h2⟩:=h.h;⟨K,h1.step hs (by simp),h2⟩
theorem jv (a b:QD)(i:Nat)(p:Vs)(V:List Vs)(v:Int):((yE a b i p v).ky≠(-1,-1)∧(yE a b i p v).ky∉V.map Vs.ky∧lgA a b i p V v=V++[yE a b i p v])∨(((yE a b i p v).ky=(-1,-1)∨(yE a b i p v).ky∈V.map Vs.ky)∧lgA a b i p V v=V):=by
 unfold lgA;by_cases h:(yE a b i p v).ky≠(-1,-1)∧(yE a b i p v).ky∉V.map Vs.ky
 ·exact .inl ⟨h.1,h.2,if_pos h⟩
 refine .inr ⟨?_,if_neg h⟩;by_cases h1:(yE a b i p v).ky=(-1,-1)
 ·exact .inl h1
 exact .inr (Ln.1 λh2=>h ⟨h1,h2⟩)
set_option maxRecDepth 4096 in
set_option maxHeartbeats 16000000 in
theorem Qf9 {w:World}{vl:Value}{al:LI}{ke mu mv kf mw my:Nat}{a b:QD}{kd:Int}{g:Nat}{fn:Func}[Fu prog g fn]{cap:LV}(hU:QJ [] w.heap vl al)(kg:Mch w.heap ke mu mv a)(kh:Mch w.heap kf mw my b)(hr:QO a)(ht:QO b)
  (hk:∀(s t:Int) (w1:World),Step [] w w1→QH prog g ([.agg #[.int .i64 s,.int .i64 t]]++cap) w1 λr w'=>r=.bool (!(UN a kd s == UN b kd t))∧Step [] w1 w'):
  QH prog 86 [vl,.pointer (some ⟨ke,0,none⟩),.pointer (some ⟨kf,0,none⟩),.func (.func g) #[] cap.toArray] w λr w'=>Step [] w w' ∧
   match lgL a b kd al ((a.st.toNat+1)*(b.st.toNat+1)+1) 0 [⟨fst a,fst b,-1,0⟩]with|none=>r=.tuple #[Zg,.bool false]|some u=>∃v,r=.tuple #[v,.bool true]∧Qt 3 w.heap.size w' v u:=by
 have hall:=hU.le;have ha1:=hr.st1;have hb1:=ht.st1;have mz:(a.st.toNat+1)*(b.st.toNat+1)≤4097*4097:=Nat.mul_le_mul (by omega) (by omega);refine Zj ((a.st.toNat+1)*(b.st.toNat+1)) λN hN=>?_;rw[hN]at mz ⊢;refine Zj (lgL a b kd al (N+1) 0 [⟨fst a,fst b,-1,0⟩]) λR hR=>?_;rw[hR];refine QH.of_W func86 O ntmps86 results86 (by simp) ?_
 refine Qc<|x Qe<|Qf<|Qg<|QU (Step [] w) [(0,true),(1,true),(2,true),(3,true),(4,true),(5,true),(6,true),(7,true),(8,true),(9,false),(10,false)] mixed (by rfl) (by kernel_rfl) (Step.drew _ _) ?_;refine p (λ_=>Qk)<|p (λ_=>QE O)<|p (λ_=>Qa O)<|pq (λ_ hc=>Qd (kg.B.ext hc) O O)<|p (λ_=>Qk)<|p (λ_=>QE O) <|
  p (λ_=>Qa O)<|pq (λ_ hc=>Qd (kh.B.ext hc) O O)<|p (λ_=>QM ⟨O,O,Z⟩)<|pk<|Qu (us:=[.int .i64 0,.int .i64 0]) O λb10 w1 ki m0 m1=>⟨(Step.drew [] w).trans ki,?_⟩
 refine pkl (hl:=by kernel_rfl)<|Qn (us:=[.int .i64 (fst a),.int .i64 (fst b)]) m1 O O O O ⟨O,O,Z⟩ λw2 m2 hV=>pe ?_;have m3:w.heap.size≤b10:=m0;have kj:Step [] w w2:=((Step.drew [] w).trans ki).then1 m2 m3;have hz02:=kj.size;have hl10:=hV.lt
 refine Qc<|x (Qo hV O O)<|x (ZD [(0,[.int .i64 (fst a),.int .i64 (fst b)]),(1,[.int .i64 (-1)]),(2,[.int .i64 0])] ⟨O,O,O,O,O,O,Z⟩)<|xl O<|QG (us:=[Yo ⟨fst a,fst b,-1,0⟩]) O O (by decide) (by simp) ⟨rfl,rfl,Z⟩ λhD I hW hb29 kk =>
  Qf ?_
 have m4:=kj.trans hW;have hz3:=hW.size;have hl29:=kk.lt;have m5:=hV.ext hW;have m6:VsO w.heap.size I (.slice (some ⟨hD,0,none⟩) 1 1) [⟨fst a,fst b,-1,0⟩]:=kk.own (n:=1) (sz:=4) O (by omega) (by omega);refine QX (α:=Nat) [(30,33),(12,12)] (λz=>[(12,.map (some z))]) (λz w'=>Step [] I w'∧I.heap.size≤z∧jT w'.heap z [⟨fst a,fst b,-1,0⟩]) (by rfl) ?_ ?_
 ·have hX:Step [] I { I with drawn:=I.drawn+1 }:=Step.drew _ _
  have kn:∀(k:Int×Int),k∈[⟨fst a,fst b,-1,0⟩].map Vs.ky↔k=(fst a,fst b):=λk=>by simp[Vs.ky]
  refine QmP (Step [] I) [(1,true),(3,true)] 0 (.fk [] 2 4 (.pl [(4,false),(5,true),(6,true)]) (.pl [(2,false),(5,true),(6,true)])) mixed (by rfl) (by kernel_rfl) (Step.drew _ _) ?_;refine pq (λ_ hc=>Qo (m5.ext hc) O O)<|p (λ_=>QM ⟨O,O,Z⟩)<|pe ⟨O,Z6 ZZ λm w4 hg hm hM=>⟨hX.trans hg,tf<|pe ⟨⟨O,?_⟩,O,?_⟩⟩⟩
  ·have J:I.heap.size≤m:=hm;refine Ys (k:=(fst a,fst b)) hM O O λw5 Y hY=>?_;have hh:=(hX.trans hg).then1 Y J;obtain⟨K1,hZ,ga⟩:=KJ (K:=[]) hY;refine⟨hh,?_⟩;refine tp<|pk<|Ys (k:=(-1,-1)) hZ O O λw6 E gb=>⟨hh.then1 E J,?_⟩;refine p (λ_=>Qk)<|p (λ_=>Qe)<|pe ?_;obtain⟨K2,gc,ge⟩:=KJ gb;exact⟨m,La,hh.then1 E J,J,⟨K2,gc,λk=>by rw[ge,ga,kn];simp⟩⟩
  have J:I.heap.size≤m:=hm;refine Ys (k:=(-1,-1)) hM O O λw5 Y hY=>?_;have hh:=(hX.trans hg).then1 Y J;obtain⟨K1,hZ,ga⟩:=KJ (K:=[]) hY;refine⟨hh,?_⟩;refine tp<|pk<|Ys (k:=(fst a,fst b)) hZ O O λw6 E gb=>⟨hh.then1 E J,?_⟩;refine p (λ_=>Qk)<|p (λ_=>Qe)<|pe ?_;obtain⟨K2,gc,ge⟩:=KJ gb
  exact⟨m,La,hh.then1 E J,J,⟨K2,gc,λk=>by rw[ge,ga,kn];simp[or_comm]⟩⟩
 rintro m g0 w4 ⟨hg,hm4,m7⟩;have m8:=m4.trans hg;have hz4:=hg.size;have m9:w.heap.size≤m:=by omega
 have pa:m∉ob (.slice (some ⟨hD,0,none⟩) 1 1):=by
  intro h;have h':m∈[hD]:=h;simp only[List.mem_singleton]at h';omega
 refine Qg<|Qc<|Qf<|Qh<|Qz (α:=Nat×Value×List Vs×Nat) [(8,9),(11,11),(13,14),(16,17),(34,108)] (λz=>[(8,Zg),(11,z.2.1),(13,.int .i64 z.1)]) (λz w'=>z.1≤z.2.2.1.length∧Step [] w w'∧VsO w.heap.size w' z.2.1 z.2.2.1∧jT w'.heap m z.2.2.1∧m∉ob z.2.1∧VsI a b z.2.2.1∧z.2.2.2+z.1=N+1∧lgL a b kd al z.2.2.2 z.1 z.2.2.1=R) (λz=>z.2.2.2) (by rfl) (0,.slice (some ⟨hD,0,none⟩) 1 1,[⟨fst a,fst b,-1,0⟩],N+1) ⟨O,O,O,Z⟩
  ⟨Ll _,m8,Qs m6 hg,m7,pa,VsI.one hr ht,O,hR⟩ ?_
 rintro⟨i,vV,V,f⟩ g1 w5 ⟨hi,Y,hE,ko,kp,hF,hf,H⟩;simp only[]at hi hE ko kp hF hf H;have hVlen:V.length≤N:=by rw[←hN];exact VsI.len hr ht hF
 have hge5:=Qq hE;have hz5:=Y.size;have gg:Zy [] w5.heap vV V.length 4 (V.flatMap Yo):=QV hE (by omega) (by simp);refine Qg<|Qc<|Qb<|Qb<|x (Qr gg O)<|x (QA O O)<|xe<|QC rfl (λgh=>?_) (λgh=>?_)
 ·refine Qy ?_;have pc:¬i<V.length:=by have gi:¬(i:Int)<(V.length:Int):=gh;omega
  have pd:R=none:=by
   rw[←H];cases f with
   | zero=>rfl
   | succ f=>rw[lgL,if_neg pc]
  rw[pd];refine Qc<|x Qe<|Qf ?_;exact Ql ⟨[Zg,.bool false],⟨O,O,Z⟩,Y,O⟩
 have h6:i<V.length:=by have gi:(i:Int)<(V.length:Int):=gh;omega
 refine Exists.elim (show ∃f',f=f'+1 from⟨f - 1,by omega⟩) λf' pf=>?_;rw[pf]at H;rw[lgL,if_pos h6]at H;have pg:=QdP h6;refine Qi<|Qg<|Qh<|Qg<|Qc<|Qb<|Qb<|Qb<|xig (g:=Yo) (i:=i) qN gg O O h6 λa43 gj=>?_;rw[←pg]at gj;refine Zj (gV V i) λpi kq=>?_;rw[kq]at gj H;refine x (Zf O)<|x (QI (us:=[.int .i64 pi.x,.int .i64 pi.y]) (At.sub (gj.from 0) 2) O O) <|
  xl rfl<|xc (first:=[]) (capt:=cap) O<|(hk pi.x pi.y w5 Y).mono ?_
 rintro r6 w6 ⟨rfl,E⟩;refine xe ?_;have hG:=Y.trans E;have hz6:=E.size;have ph:=Qs hE E;have kr:=gg.ext E;refine QZ rfl (λgk=>?_) (λgk=>?_)
 ·have hc:lgC a b kd pi=true:=gk;rw[if_pos hc]at H;rw[←H];refine Qg<|Qc<|Qb<|Qf<|Qh<|Qz (α:=Nat×Nat×Value×LI) [(8,8),(14,14),(48,66)] (λz=>[(8,z.2.2.1),(14,.int .i64 z.2.1)]) (λz w'=>z.2.1<V.length∧Step [] w6 w'∧Qt 3 w6.heap.size w' z.2.2.1 z.2.2.2∧z.2.2.2++lgW V z.1 z.2.1=lgW V (i+1) i∧z.2.1+1≤z.1∧z.2.2.2.length+z.1=i+1) (λz=>z.1) (by rfl) (i+1,i,Zg,[]) ⟨O,O,Z⟩
   ⟨h6,Step.refl _ _,QN _ _ _ _,O,Lu _,by simp⟩ ?_
  rintro⟨fu,k,vo,wd⟩ g2 w7 ⟨hw,hH,hI,ha,pj,pn⟩;simp only[]at hw hI ha pj pn;have kt:=kr.ext hH;have gl:=QdP hw;have ku:=hF.bk k hw;have kv:=Qq hI;have hz7:=hH.size;refine Exists.elim (show ∃gm,fu=gm+1 from⟨fu - 1,by omega⟩) λgm po=>?_;rw[po]at ha;rw[Qb8]at ha;refine Qg<|Qc<|Qb<|Qb<|xig (g:=Yo) (i:=k) qN kt O O hw λa50 gn=>?_;rw[←gl]at gn ku
  refine Zj (gV V k) λG gq=>?_;rw[gq]at gn ku ha;refine x (Zf O)<|x (Qv (gn.fld 2 (.int .i64 G.b) O) O)<|x (ZV O O)<|xe<|QC O (λgr=>?_) (λgr=>?_)
  ·refine Qy ?_;have gs:¬0≤G.b:=gr;rw[if_neg gs,LO]at ha;refine Qc<|Qb<|xl O<|xf<|(yv hI (by omega)).mono ?_;rintro r8 w8 ⟨kw,gt⟩;refine xe<|Qc<|Qb<|x Qe<|Qf ?_;rw[ha]at kw;have pp:=hG.size;exact Ql ⟨[vo,.bool true],⟨O,O,Z⟩,(hG.trans hH).then gt (λb hb=>.inr (by have:=(kv b hb).1;omega)),vo,O,Zd kw pp⟩
  have gs:0≤G.b:=gr;rw[if_pos gs]at ha;have pt:G.b=(G.b.toNat:Int):=by omega
  refine Qi<|Qg<|Qh<|Qw<|Qb<|Qb<|Qb<|xig (g:=Yo) (i:=k) qN kt O O hw λa62 kx=>?_;rw[←gl,gq]at kx;refine x (Zf O)<|x (Qv (kx.fld 3 (.int .i64 G.v) O) O) <|
   xl rfl<|QG (us:=[[.int .i64 G.v]]) O O (by decide) (by simp) ⟨rfl,rfl,Z⟩ λb65 w9 gu hb65 pu=>?_
  have hz9:=gu.size;refine xl O<|Q4 (news:=[.int .i64 G.v]) (L:=[]) (Qs hI gu) O O O (pu.at (by simp)) (by simp[Value.oneCell']) (by omega) (by omega) λpw pz p0 p4 hn10 =>
   Qf ?_
  have kz:Step [] w6 pz:=(hH.trans gu).then p4 (λb hb=>.inr (kv b hb).1);have p5:=kr.ext kz;refine Qw<|Qb<|Qb<|xig (g:=Yo) (i:=k) qN p5 O O hw λa56 k0=>?_;rw[←gl,gq]at k0;refine x (Zf O)<|x (Qv (k0.fld 2 (.int .i64 G.b) O) O)<|x Qe <|
   xe ?_
  refine⟨(gm,G.b.toNat,pw,wd++[G.v]),by simp only[];omega,⟨O,congrArg (Value.int .i64) pt,Z⟩,by simp only[];omega,kz,Qt.snoc p0,?_,by simp only[];omega,by simp only[List.length_append,List.length_singleton];omega⟩;simp only[];rw[LA];exact ha
 have hc:¬lgC a b kd pi=true:=by
  intro h;have p6:lgC a b kd pi=false:=gk;rw[p6]at h;cases h
 rw[if_neg hc]at H;refine Qi<|Qc<|Qb<|x (Qr (hU.ext hG) O)<|Qb<|xe<|Qh<|Qz (α:=Nat×Value×List Vs) [(11,11),(16,17),(72,108)] (λz=>[(11,z.2.1),(72,.int .i64 z.1)]) (λz w'=>z.1≤al.length∧Step [] w w'∧VsO w.heap.size w' z.2.1 z.2.2∧jT w'.heap m z.2.2∧m∉ob z.2.1∧VsI a b z.2.2∧z.2.2=(al.take z.1).foldl (lgA a b i pi) V∧∃W,z.2.2=V++W) (λz=>al.length - z.1) (by rfl) (0,vV,V) ⟨O,O,Z⟩
  ⟨Ll _,hG,ph,ko.ext E,kp,hF,O,[],by simp⟩ ?_
 rintro⟨j,vU,U⟩ g3 he ⟨hj,ho,hp,h7,hJ,h8,hO,⟨W,hA⟩⟩;simp only[]at hj hp h7 hJ h8 hO hA;have hUlen:U.length≤N:=by rw[←hN];exact VsI.len hr ht h8
 have hUl:V.length≤U.length:=by rw[hA,Lj];omega
 have hq:i<U.length:=by omega
 have k4:=Qq hp;have hz11:=ho.size;refine Qc<|x (QA O O)<|xe<|Qg<|QC O (λgv=>?_) (λgv=>?_)
 ·refine Qy ?_;have p7:al.length≤j:=by have gi:¬(j:Int)<(al.length:Int):=gv;omega
  rw[Lp p7]at hO;rw[←hO]at H;refine Qw<|Qb<|QP O O<|Qf ?_;exact⟨(i+1,vU,U,f'),by simp only[];omega,⟨O,O,O,Z⟩,hq,ho,hp,h7,hJ,h8,by simp only[];omega,H⟩
 have hy:j<al.length:=by have gi:(j:Int)<(al.length:Int):=gv;omega
 have k5:al.take (j+1)=al.take j++[al[j]'hy]:=Li hy;have p8:gV U i=pi:=by rw[hA,Qop h6];exact kq
 refine Qi<|Qg<|Qh<|Qc<|xii (i:=j) (hU.ext ho) O O hy λa74 k6=>?_;refine Zj (al[j]'hy) λv hv=>?_;rw[hv]at k6 k5;have hP:(al.take (j+1)).foldl (lgA a b i pi) V=lgA a b i pi U v:=by rw[k5,Mh,←hO];rfl
 refine x (Qv k6 O)<|Qf<|Exists.elim (UJ hp (by omega)) λg9 p9=>Exists.elim p9 λcap9 gx=>?_;have qc:Zy [] he.heap vU U.length 4 (U.flatMap Yo):=QV hp (by omega) (by simp);have k7:At [] he.heap ⟨g9,0+i*4,none⟩ (Yo pi):=by
  obtain⟨a9,c9,e1,e2⟩:=Zy.at qc hq;rw[JH Yo 4 qN U i hq,←QdP hq,p8]at e2;rw[gx]at e1;have e3:(⟨g9,0,none⟩:Addr)=a9:=by
   have:=Value.slice.inj e1;exact Option.some.inj this.1
  rw[←e3,YD]at e2;exact e2
 have qo:At [] he.heap ⟨g9,0+i*4+0+0*1,none⟩ [.int .i64 pi.x]:=by
  have:=k7.fld 0 (.int .i64 pi.x) O;rw[YD]at this;exact this
 have qr:At [] he.heap ⟨g9,0+i*4+0+1*1,none⟩ [.int .i64 pi.y]:=by
  have:=k7.fld 1 (.int .i64 pi.y) O;rw[YD]at this;exact this
 have q0:=kg.ext ho;have q4:=kh.ext ho;refine QX (α:=Nat) [(76,94),(17,17)] (λz=>[(17,.pointer (some ⟨z,0,none⟩))]) (λz w'=>Step [] he w'∧he.heap.size≤z∧QT w'.heap z 184 [.int .i64 (nxt a.ed pi.x v),.int .i64 (nxt b.ed pi.y v)]) (by rfl) ?_ ?_
 ·refine jQ (α:=Unit) (Step [] he) [(0,true),(1,true),(2,true),(3,true),(4,true),(5,true),(6,true),(7,true),(9,true),(10,true),(11,true),(12,true),(13,true),(14,true),(15,true),(16,true)] [(8,false),(17,false),(18,true)] 19 17 [(20,false)] []
   [(76,94)] [(84,84),(93,94)] (λ_=>[(94,.agg [.int .i64 (nxt a.ed pi.x v),.int .i64 (nxt b.ed pi.y v)].toArray)]) (λ_ _ _=>True)
   (λv w'=>∃b,v=.pointer (some ⟨b,0,none⟩)∧he.heap.size≤b∧QT w'.heap b 184 [.int .i64 0,.int .i64 0]) mixed (by rfl) (by kernel_rfl) (by rfl) O (Step.drew _ _) (by simp) ?_ ?_ ?_ ?_
  ·rintro v own wa wb ⟨b,rfl,hb,hB⟩ hs hn;exact⟨b,O,hb,hB.step hs (hn b (by simp[ow]))⟩
  ·intro z own wa wb h hs;trivial
  ·rintro z g5 own wz v5 _ q9 ⟨hQ,rfl,gy,hz⟩ _;refine pkl (hl:=by kernel_rfl)<|Qn (us:=[.int .i64 (nxt a.ed pi.x v),.int .i64 (nxt b.ed pi.y v)]) hz O O O O ⟨O,O,Z⟩ λw8 gt j1=>pe ?_;exact⟨hQ,La,q9.then1 gt gy,gy,j1⟩
  refine p (λ_=>Qk)<|p (λ_=>Qk)<|p (λ_=>Qk)<|p (λ_=>QS (show ev _ _=_ from gx) O hq)<|p (λ_=>Qa O) <|
   p (λ_=>Xe (i:=0) O O (by decide))<|pq (λ_ hc=>Qv (qo.st hc) O)<|p (λ_=>Qk)<|p (λ_=>Qk)<|p (λ_=>Qk)<|p (λ_=>Qk) <|
   p (λ_=>QS (show ev _ _=_ from gx) O hq)<|p (λ_=>Qa O)<|p (λ_=>Xe (i:=1) O O (by decide))<|pq (λ_ hc=>Qv (qr.st hc) O) <|
   p (λ_=>Qk)<|pe ⟨λg6 wf k8=>Qu (us:=[.int .i64 0,.int .i64 0]) O λb wf' k9 ma mc=>⟨k9,k8.trans k9,⟨b,O,LL k8.size ma,mc⟩,λx hx=>?_⟩,?_⟩
  ·have j2:x=b:=by
    have j3:x∈[b]:=hx;simpa using j3
   subst j2;exact⟨ma,mc.lt⟩
  refine f2k λx1 p1 c1=>xf<|(jt (q0.ext c1) hr pi.x v).mono ?_;rintro r84 y1 ⟨rfl,mf⟩;refine⟨c1.trans mf,[],mf,(λb hb=>by cases hb),?_⟩;refine f2k λx2 p2 c2=>xf<|(jt (q4.ext c2) ht pi.y v).mono ?_;rintro r93 y2 ⟨rfl,mg⟩;refine⟨c2.trans mg,[],mg,(λb hb=>by cases hb),?_⟩;refine f2p (λ_=>QM ⟨O,O,Z⟩)<|f2e ?_;exact⟨(),La,Z⟩
 rintro hQ g7 hC ⟨h0,gy,hz⟩;have j4:=ho.trans h0;have hz12:=h0.size;have hl17:=hz.lt;refine Exists.elim (h7.ext h0).h λK za=>And.elim (λgz g4=>?_) za;have hS:(yE a b i pi v).ky=(nxt a.ed pi.x v,nxt b.ed pi.y v):=rfl;refine Qc<|Qb<|x (Qo hz O O)<|x (ji (s:=(nxt a.ed pi.x v,nxt b.ed pi.y v)) gz O O)<|x (Zt O)<|xe<|QZ rfl (λg8=>?_) (λg8=>?_)
 ·have zb:(nxt a.ed pi.x v,nxt b.ed pi.y v)∉K:=Qln g8;have h3:=λh=>zb ((g4 _).2 h);rw[←hS]at h3;have ka:lgA a b i pi U v=U++[yE a b i pi v]:=by
   rcases jv a b i pi U v with⟨_,_,h⟩|⟨h,_⟩
   ·exact h
   exact absurd h h3
  rw[ka]at hP;have mh:m∉ob vU:=hJ;have mj:hQ∉m::ob vU:=λhb=>by
   rcases Le.1 hb with rfl|hb
   ·obtain⟨K0,zv,_⟩:=h7.h;have:=zv.lt;omega
   have:=(k4 hQ hb).2;omega
  have z0:m<hC.heap.size:=gz.lt;have h4:Step [] hC { hC with drawn:=hC.drawn+1 }:=Step.drew _ _
  refine QU (Step (m::ob vU) hC) [(0,true),(1,true),(2,true),(3,true),(4,true),(5,true),(6,true),(7,false),(8,false),(9,false),(10,true)] mixed (by rfl) (by kernel_rfl) (Step.drew _ _) ?_;refine p (λ_=>Qk)<|pq (λ_ hc=>Qo (hz.step hc mj) O O)<|p (λ_=>Qk)<|pq (λ_ hc=>Qo (hz.step hc mj) O O) <|
   p (λ_=>Qk)<|p (λ_=>Qk)<|p (λ_=>ZD [(0,[.int .i64 (nxt a.ed pi.x v),.int .i64 (nxt b.ed pi.y v)]),(1,[.int .i64 i]),(2,[.int .i64 v])] ⟨O,O,O,O,O,O,Z⟩)<|pk<|QG (us:=[Yo (yE a b i pi v)]) O O (by decide) (by simp) ⟨rfl,rfl,Z⟩ λb106 w13 h5 hb106 z1=>⟨(h4.trans h5).any,?_⟩
  have kb:=h0.trans (h4.trans h5);have hz13:=(h4.trans h5).size;refine pk<|Q4 (news:=Yo (yE a b i pi v)) (L:=[]) (Qs hp kb) O O O (z1.at (by simp)) (λu hu=>by
   simp only[List.mem_cons,List.not_mem_nil,or_false]at hu;rcases hu with rfl|rfl|rfl|rfl <;> rfl) (by omega) (by have:=kb.size;omega) λmo mq z2 hT z3=>⟨(h4.trans h5).any.trans' (hT.mono (λb hb=>Lk _ hb)),?_⟩
  have z4:ZI ZZ mq.heap m (stP K):=(gz.step (h4.trans h5) (by simp)).step hT mh;refine pk<|YR (k:=(nxt a.ed pi.x v,nxt b.ed pi.y v)) z4 O O λw15 kc z5=>⟨((h4.trans h5).any.trans' (hT.mono (λb hb=>Lk _ hb))).trans' (kc.mono (by simp)),?_⟩;refine p (λ_=>Qe)<|pe ?_;refine Exists.elim (KJ z5) λK' z9=>And.elim (λhM15' hKK'=>?_) z9
  have ms:m∉ob mo:=λhb=>by
   rcases z3 m hb with h9|h9
   ·exact mh h9
   have:=z0;omega
  refine Qw<|QP O O<|Qb<|xe ?_;have hs014:Step [] w mq:=(ho.trans kb).then hT (λb hb=>.inr (k4 b hb).1)
  refine⟨(j+1,mo,U++[yE a b i pi v]),by simp only[];omega,⟨O,O,Z⟩,hy,hs014.then1 kc m9,Qm (VsO.snoc z2) kc (λb hb mt=>by simp only[List.mem_singleton]at mt;subst mt;exact ms hb),⟨K',hM15',λk=>?_⟩,ms,VsI.add hr ht h8 hq (λh=>h3 (.inr h)),hP.symm,W++[yE a b i pi v],by rw[hA,LA]⟩;rw[hKK',g4,Lx,Lo];constructor
  ·rintro(h|h|h)
   ·exact .inr (.inr (by rw[h];simp[hS]))
   ·exact .inl h
   exact .inr (.inl h)
  rintro(h|h|h)
  ·exact .inr (.inl h)
  ·exact .inr (.inr h)
  exact .inl (by simpa[hS]using h)
 have hK:(nxt a.ed pi.x v,nxt b.ed pi.y v)∈K:=Qih g8;have h3:=(g4 _).1 hK;rw[←hS]at h3;have ka:lgA a b i pi U v=U:=by
  rcases jv a b i pi U v with⟨h1,h2,_⟩|⟨_,h⟩
  ·exact absurd h3 (λh=>h.elim h1 h2)
  exact h
 rw[ka]at hP;refine Qi<|Qw<|QP O O<|Qb<|xe ?_;exact⟨(j+1,vU,U),by simp only[];omega,⟨O,O,Z⟩,hy,j4,Qs hp h0,h7.ext h0,hJ,h8,hP.symm,W,hA⟩
def lgP (N:Nat)(a b:QD)(i:Nat)(v:Value)(w:World):Prop :=
 if i=1 then ∃b1 m1 m2,v=.pointer (some ⟨b1,0,none⟩)∧N≤b1∧N≤m1∧N≤m2∧Mch w.heap b1 m1 m2 a
 else if i=3 then ∃b1 m1 m2,v=.pointer (some ⟨b1,0,none⟩)∧N≤b1∧N≤m1∧N≤m2∧Mch w.heap b1 m1 m2 b
 else ∃bb,v=.pointer (some ⟨bb,0,none⟩)∧N≤bb∧QT w.heap bb 180 [.pointer none]
theorem QlE {N:Nat}{a b:QD}:∀i v w w',lgP N a b i v w→Step [] w w'→lgP N a b i v w':=by
 intro i v w w' h hs;unfold lgP at h ⊢;split
 ·rename_i h1;rw[if_pos h1]at h;obtain⟨E,G,H,e,n1,I,J,U⟩:=h;exact⟨E,G,H,e,n1,I,J,U.ext hs⟩
 rename_i h1;rw[if_neg h1]at h;split
 ·rename_i h2;rw[if_pos h2]at h;obtain⟨E,G,H,e,n1,I,J,U⟩:=h;exact⟨E,G,H,e,n1,I,J,U.ext hs⟩
 rename_i h2;rw[if_neg h2]at h;obtain⟨bb,e,n1,V⟩:=h;exact⟨bb,e,n1,V.ext hs⟩
theorem YC {κ:Type}{enc:κ→Value}{H:Array Obj}{b b' T:Nat}{m:List (κ×Value)}{cs:LV}(h:ZI enc H b m)(E:QT H b' T cs):b≠b':=by
 intro e;subst e;obtain⟨es,c,h1,_⟩:=h;unfold QT at E;rw[h1]at E;cases E
structure LgZ where
 p1:Nat
 p2:Nat
 p3:Nat
 q1:Nat
 q2:Nat
 q3:Nat
 b10:Nat
 b11:Nat
set_option maxHeartbeats 8000000 in
theorem QdJ {w:World}{va vm ve wa wm we:Value}{a b:QD}(hA:Zm [] w.heap va vm ve a)(G:Zm [] w.heap wa wm we b)(kd:Int):
  QH prog 41 [.agg #[va,.int .i64 a.st,vm,ve],.agg #[wa,.int .i64 b.st,wm,we],.int .i64 kd] w λr w'=>Step [] w w'∧∃v e,r=.tuple #[v,.bool e,.int .i64 (lgE a b kd)] ∧
   (lgE a b kd=0→match lgq a b kd with|none=>v=Zg∧e=true|some u=>e=false∧Qt 3 w.heap.size w' v u):=by
 refine Zj (lgE a b kd) λE hE=>?_;refine Zj (lgq a b kd) λR hR=>?_;rw[hE,hR];have onesA:ZM [va,.int .i64 a.st,vm,ve]:=⟨hA.al.one,O,hA.mr.one,hA.ed.one,Z⟩;have onesB:ZM [wa,.int .i64 b.st,wm,we]:=⟨G.al.one,O,G.mr.one,G.ed.one,Z⟩;refine QH.of_W func41 O ntmps41 results41 (by simp) ?_
 refine Qc<|xl O<|QR (us:=[va,.int .i64 a.st,vm,ve]) O λb3 w1 hI gc hJ=>xl O<|QR (us:=[wa,.int .i64 b.st,wm,we]) O λb4 w2 hy ge hK=>xl O<|QR (us:=[.int .i64 kd]) O λb5 w3 hs gg h4=>x Qe <|
  x Qe<|Qf ?_
 have hL:=(hI.trans hy).trans hs;have h5:=(hJ.ext hy).ext hs;have h6:=hK.ext hs;refine Qg<|Qc<|x (Qd h4 O O)<|x (Qo h5 O O)<|x (Qo h6 O O)<|xl O<|QG (us:=[[va,.int .i64 a.st,vm,ve],[wa,.int .i64 b.st,wm,we]]) O O (by decide) (by simp) ⟨rfl,rfl,rfl,rfl,Z⟩ λhN w4 h7 gh hO=>?_;have ht:=hL.trans h7
 have hP:YX [] w4.heap (.slice (some ⟨hN,0,none⟩) 2 2) [⟨va,vm,ve,a⟩,⟨wa,wm,we,b⟩]:=⟨hO.arr (by simp) (n:=2) (cap:=2) (sz:=4) rfl (by omega) (Lu _),λp hp=>by
  simp only[List.mem_cons,List.not_mem_nil,or_false]at hp;rcases hp with rfl|rfl
  ·exact hA.ext ht
  exact G.ext ht⟩
 have hck:=QdK hP kd;rw[show[(⟨va,vm,ve,a⟩:AV),⟨wa,wm,we,b⟩].map (·.a)=[a,b] from rfl,Qp8,hE]at hck;refine xl rfl<|xf<|hck.mono ?_;rintro r5 w5 ⟨rfl,hi⟩;refine Qf ?_;have ho:=ht.trans hi;have hu:=h7.trans hi;refine Qc<|Qb<|x (Q6 O O)<|xe<|Q3 rfl (λhv=>?_) (λhv=>?_)
 ·refine Qc<|Qb<|x Qe<|x Qe<|Qf ?_;exact Ql ⟨[Zg,.bool false,.int .i64 E],⟨O,O,O,Z⟩,ho,Zg,false,O,λh0=>absurd h0 hv⟩
 have h8:E=0:=Ln.1 hv;have hj:QO a∧QO b:=by
  have h1:lgE a b kd=0:=hE.trans h8;unfold lgE at h1;by_cases h2:Xq a≠0
  ·rw[if_pos h2]at h1;exact absurd h1 h2
  rw[if_neg h2]at h1;by_cases h3:Xq b≠0
  ·rw[if_pos h3]at h1;exact absurd h1 h3
  exact⟨(Zs a).1 (Ln.1 h2),(Zs b).1 (Ln.1 h3)⟩
 refine Qi ?_;have h9:=h5.ext hu;have hC:=h6.ext hu;have hQ:=h4.ext hu;have hT:=hA.ext ho;have hU:=G.ext ho
 refine QX (α:=LgZ) [(22,25),(10,11)] (λz=>[(10,.pointer (some ⟨z.b10,0,none⟩)),(11,.pointer (some ⟨z.b11,0,none⟩))]) (λz w'=>Step [] w5 w'∧Mch w'.heap z.p1 z.p2 z.p3 a∧Mch w'.heap z.q1 z.q2 z.q3 b∧QT w'.heap z.b10 180 [.pointer (some ⟨z.p1,0,none⟩)]∧QT w'.heap z.b11 180 [.pointer (some ⟨z.q1,0,none⟩)]) (by rfl) ?_ ?_
 ·refine Qf0 (α:=LgZ) (Step [] w5) [(0,true),(2,true)] [1,3,4,5] [(6,false),(7,false)] [(23,23),(25,25),(10,11)] (lgP w5.heap.size a b)
   (λz=>[(23,.pointer (some ⟨z.p1,0,none⟩)),(25,.pointer (some ⟨z.q1,0,none⟩)),(10,.pointer (some ⟨z.b10,0,none⟩)),(11,.pointer (some ⟨z.b11,0,none⟩))])
   (λz w'=>Mch w'.heap z.p1 z.p2 z.p3 a∧Mch w'.heap z.q1 z.q2 z.q3 b∧QT w'.heap z.b10 180 [.pointer none]∧QT w'.heap z.b11 180 [.pointer none]∧(z.b10≠z.b11∧z.p1≠z.b10∧z.p1≠z.b11∧z.q1≠z.b10∧z.q1≠z.b11)∧w5.heap.size≤z.b10∧w5.heap.size≤z.b11)
   mixed (by rfl) (by kernel_rfl) (Step.drew _ _) (λ_ _ h1 h2=>h1.trans h2) QlE ?_ ?_
  ·rintro g w' ⟨⟨p1,p2,p3,e1,_,_,_,H⟩,⟨q1,q2,q3,e2,_,_,_,I⟩,⟨b10,e3,hk,J⟩,⟨b11,e4,hq,U⟩,_⟩ hn;refine⟨⟨p1,p2,p3,q1,q2,q3,b10,b11⟩,⟨e1,e2,e3,e4,Z⟩,H,I,J,U,?_,hk,hq⟩;have d1:=hn 4 (by simp) 5 (by simp) (by decide);have d2:=hn 1 (by simp) 4 (by simp) (by decide);have d3:=hn 1 (by simp) 5 (by simp) (by decide);have d4:=hn 3 (by simp) 4 (by simp) (by decide)
   have d5:=hn 3 (by simp) 5 (by simp) (by decide);rw[e3,e4]at d1;rw[e1,e3]at d2;rw[e1,e4]at d3;rw[e2,e3]at d4;rw[e2,e4]at d5;simp only[ow,List.mem_singleton,forall_eq]at d1 d2 d3 d4 d5;exact⟨d1,d2,d3,d4,d5⟩
  refine pq (λ_ hc=>Qo (h9.ext hc) O O)<|pq (λ_ hc=>Qo (hC.ext hc) O O)<|pe ⟨⟨?_,?_,?_,?_,Z⟩,?_⟩
  ·intro g w' hc;refine xf<|(ju (hT.ext hc) hj.1).mono ?_;rintro r5 w6 ⟨he,b1,m1,m2,rfl,n1,n2,n3,hM⟩;have hz:=hc.size;exact⟨he,⟨b1,m1,m2,O,LL hz n1,LL hz n2,LL hz n3,hM⟩,λc hf=>by rw[Lb.1 (show c∈[b1] from hf)];exact⟨n1,hM.B.lt⟩⟩
  ·intro g w' hc;refine xf<|(ju (hU.ext hc) hj.2).mono ?_;rintro r5 w6 ⟨he,b1,m1,m2,rfl,n1,n2,n3,hM⟩;have hz:=hc.size;exact⟨he,⟨b1,m1,m2,O,LL hz n1,LL hz n2,LL hz n3,hM⟩,λc hf=>by rw[Lb.1 (show c∈[b1] from hf)];exact⟨n1,hM.B.lt⟩⟩
  ·intro g w' hc;exact Qu (us:=[.pointer none]) O λb w5 hi hb G=>⟨hi,⟨b,O,LL hc.size hb,G⟩,λc hf=>by rw[Lb.1 (show c∈[b] from hf)];exact⟨hb,G.lt⟩⟩
  ·intro g w' hc;exact Qu (us:=[.pointer none]) O λb w5 hi hb G=>⟨hi,⟨b,O,LL hc.size hb,G⟩,λc hf=>by rw[Lb.1 (show c∈[b] from hf)];exact⟨hb,G.lt⟩⟩
  rintro⟨p1,p2,p3,q1,q2,q3,b10,b11⟩ g w6 hD ⟨H,I,J,U,hg,hk,hq⟩;simp only[]at H I J U hg hk hq;have k1:=YC H.e J;have k2:=YC H.m J;have k3:=YC I.e J;have k4:=YC I.m J;have j1:=YC H.e U;have j2:=YC H.m U;have j3:=YC I.e U;have j4:=YC I.m U
  refine pk<|QF (u:=.pointer (some ⟨p1,0,none⟩)) J O O (by simp) rfl λw7 hh hV=>⟨hD.then1 hh hk,?_⟩;refine pkl (hl:=by kernel_rfl)<|QF (u:=.pointer (some ⟨q1,0,none⟩)) (U.step hh (by simp only[List.mem_singleton];exact λe=>hg.1 e.symm)) O O (by simp) rfl λw8 V hW=>pe ?_;have s1:∀{x:Nat},x≠b10→x∉[b10]:=λh hm=>h (Lb.1 hm)
  have s2:∀{x:Nat},x≠b11→x∉[b11]:=λh hm=>h (Lb.1 hm);exact⟨⟨p1,p2,p3,q1,q2,q3,b10,b11⟩,⟨O,O,Z⟩,(hD.then1 hh hk).then1 V hq,(H.step hh (s1 hg.2.1) (s1 k1) (s1 k2)).step V (s2 hg.2.2.1) (s2 j1) (s2 j2),(I.step hh (s1 hg.2.2.2.1) (s1 k3) (s1 k4)).step V (s2 hg.2.2.2.2) (s2 j3) (s2 j4),hV.step V (s2 hg.1),hW⟩
 rintro⟨p1,p2,p3,q1,q2,q3,b10,b11⟩ g w6 ⟨he,H,I,J,U⟩;simp only[]at H I J U;have hr:=ho.trans he;have gi:=hr.size;have hX:=h9.ext he;have hY:=hC.ext he;have hZ:=hQ.ext he;have hw:Step [] w6 { w6 with drawn:=w6.drawn+1 }:=Step.drew _ _
 have gj:=hA.al.le;have gk:=G.al.le;have gl:=hj.1.al_le;have gm:=hj.2.al_le;refine Qg<|QU (Step [] w6) [(0,true),(1,true),(2,true),(3,true),(5,true),(6,true),(7,true),(4,false),(8,false),(9,true),(10,true),(11,true),(12,true),(13,true)] mixed (by rfl) (by kernel_rfl) (Step.drew _ _) ?_
 refine p (λ_=>Qa O)<|pq (λ_ hc=>Qd (hX.ext hc) O O)<|p (λ_=>Qa O)<|pq (λ_ hc=>Qd (hY.ext hc) O O) <|
  pq (λ_ hc=>Qd (J.ext hc) O O)<|pq (λ_ hc=>Qd (U.ext hc) O O)<|p (λ_=>Zo (l:=[]) (l':=[_,_,_])) <|
  pk<|xf<|(yr ((hA.al.ext hr).ext hw) ((G.al.ext hr).ext hw) (by omega)).mono ?_
 rintro r7 w7 ⟨hh,ga⟩;have Y:=hw.trans hh;have gn:=Y.size;refine⟨Y,?_⟩;have gq:(mrg (· || ·) a.al b.al).length≤64:=by
  have:=V5 (· || ·) a.al b.al;omega
 have hS:=Qf9 (kd:=kd) (g:=88) (cap:=[.pointer (some ⟨b10,0,none⟩),.pointer (some ⟨b5,0,none⟩),.pointer (some ⟨b11,0,none⟩)]) (Qt.ints (L:=[]) ga (by omega) (by simp)) (H.ext Y) (I.ext Y) hj.1 hj.2
  (λs t w8 V=>QiE ((J.ext Y).ext V) ((U.ext Y).ext V) ((hZ.ext Y).ext V) ((H.ext Y).ext V) ((I.ext Y).ext V) s t)
 have gb:lgL a b kd (mrg (· || ·) a.al b.al) ((a.st.toNat+1)*(b.st.toNat+1)+1) 0 [⟨fst a,fst b,-1,0⟩]=R:=hR;rw[gb]at hS;refine pk<|xf<|hS.mono ?_;rintro r8 w8 ⟨V,hF⟩;have hG:=Y.trans V;refine⟨hG,?_⟩;have ha:∃v e,r8=.tuple #[v,.bool e]∧(match R with|none=>v=Zg∧(!e)=true|some u=>(!e)=false∧Qt 3 w7.heap.size w8 v u):=by
  cases R with
  | none=>exact⟨Zg,false,hF,O,O⟩
  | some u=>obtain⟨v,h1,h2⟩:=hF;exact⟨v,true,h1,O,h2⟩
 refine Exists.elim ha λv ha=>Exists.elim ha λe ha=>And.elim (λhH ha=>?_) ha;refine p (λ_=>Qk)<|p (λ_=>Qj (show ev _ _=_ from hH) O)<|p (λ_=>Qj (show ev _ _=_ from hH) O)<|p (λ_=>Qe)<|p (λ_=>Qe)<|pe ?_;refine Qc<|Qb<|Qb<|x (Zt O)<|x Qe<|x Qe<|Qf<|Ql ⟨[v,.bool (!e),.int .i64 0],⟨O,O,O,Z⟩,hr.trans hG,v,!e,by rw[h8];rfl,λ_=>?_⟩;cases R with
 | none=>exact ha
 | some u=>exact⟨ha.1,Zd ha.2 (by omega)⟩
theorem Qe7 (V:List Vs):∀(f k:Nat),(lgW V f k).length≤f
 | 0,_=>Lu _
 | f+1,k=>by
  rw[Qb8];split
  ·have:=Qe7 V f (gV V k).b.toNat;simp only[List.length_cons];omega
  exact Ll _
theorem Qe8 {a b:QD}{kd:Int}{al:LI}:∀(f i:Nat) (V:List Vs) (u:LI),lgL a b kd al f i V=some u→u.length≤f+i
 | 0,_,_,_,h=>by cases h
 | f+1,i,V,u,h=>by
  rw[lgL]at h;split at h
  ·split at h
   ·have e:(lgW V (i+1) i).reverse=u:=Option.some.inj h;rw[←e,List.length_reverse];have:=Qe7 V (i+1) i;omega
   have:=Qe8 f (i+1) _ u h;omega
  cases h
theorem QlD {a b:QD}(ha:QO a)(hb:QO b){kd:Int}{u:LI}(h:lgq a b kd=some u):u.length≤17000000:=by
 have h1:=Qe8 _ _ _ _ h;have E:=ha.st1;have G:=hb.st1;have H:(a.st.toNat+1)*(b.st.toNat+1)≤4097*4097:=Nat.mul_le_mul (by omega) (by omega);omega
def cmK (a b:QD)(k:Nat):Option (LI):=(([1,2]:LI).take k).foldl (λz kd=>cm1 z (lgq a b kd)) none
theorem k12:∀{k:Nat}(h:k<[(1:Int),2].length),[(1:Int),2][k]'h=1∨[(1:Int),2][k]'h=2
 | 0,_=>.inl O
 | 1,_=>.inr O
 | k+2,h=>absurd h (by simp)
theorem QqV (a b:QD):cmK a b 2=cmW a b:=rfl
theorem Qb9 {a b:QD}(ha:QO a)(hb:QO b){kd:Int}(h:kd=1∨kd=2):lgE a b kd=0:=by
 unfold lgE;rw[if_neg (by simpa using(Zs a).2 ha),if_neg (by simpa using(Zs b).2 hb),if_neg (by omega)]
theorem Ue {ord:LI}{x:Int}(h:x∈ord):Zq ord ((ord.idxOf x:Nat):Int)=x:=by
 have hl:=LS h;unfold Zq;simp[List.getD,hl]
section
variable {A:QD}{lf:Lf}{ord:LI}
def PrT (lf:Lf)(ord:LI)(t:LI):Prop:=∃j:Nat,j<ord.length∧t=[Zq ord j,(j:Int)]∧lft lf (Zq ord j)=true
theorem jf (E:QO A){s v p:Int}(h:(s,v,p)∈A.ed):eget (rstr A lf).ed s v=if lft lf p=true then some p else none:=by
 by_cases hl:lft lf p=true
 ·rw[if_pos hl];exact Kj (X4 E lf).edi (LJ.2 ⟨h,hl⟩)
 rw[if_neg hl];refine J3 λe he hk=>hl ?_;have h1:=LJ.1 he;have h2:=Kj E.edi h;have h3:eget A.ed e.1 e.2.1=some e.2.2:=Kj E.edi (s:=e.1) (v:=e.2.1) (t:=e.2.2) h1.1;rw[hk.1,hk.2,h2]at h3;rw[Option.some.inj h3];exact h1.2
theorem QeA (E:QO A)(hc:CnP (rstr A lf) ord){j:Nat}(hj:j<ord.length){v p:Int}(h:(Zq ord j,v,p)∈A.ed)(hl:lft lf p=true):
  Za v [A,ZY (rstr A lf)] [Zq ord j,(j:Int)]=some [p,((ord.idxOf p:Nat):Int)]∧p∈ord:=by
 have G:v∈A.al:=(E.ed _ h).2.2.1;have H:v∈(ZY (rstr A lf)).al:=by rw[hc.al];exact G
 have h1:=hc.step hj v;rw[jf E h,if_pos hl]at h1;refine⟨QkI G (Kj E.edi h) H h1,?_⟩;refine hc.cl j hj (Zq ord j,v,p) ?_;unfold Zu;exact LJ.2 ⟨LJ.2 ⟨h,hl⟩,decide_eq_true O⟩
theorem QnE (H:QO A)(hc:CnP (rstr A lf) ord){j:Nat}(hj:j<ord.length){v:Int}(E:v∈A.al){u:LI}(hu:Za v [A,ZY (rstr A lf)] [Zq ord j,(j:Int)]=some u):PrT lf ord u:=by
 have I:v∈(ZY (rstr A lf)).al:=by rw[hc.al];exact E
 cases G:eget A.ed (Zq ord j) v with
 | none=>rw[QkK E G]at hu;cases hu
 | some p =>
  have hm:=Z0 G;by_cases hl:lft lf p=true
  ·have h1:=QeA H hc hj hm hl;rw[h1.1]at hu;cases hu
   exact⟨ord.idxOf p,LS h1.2,by rw[Ue h1.2],by rw[Ue h1.2];exact hl⟩
  have h1:=hc.step hj v;rw[jf H hm,if_neg hl]at h1;rw[QkJ E G I h1]at hu;cases hu
end
theorem Qes {aa:List QD}{C:QD}{Q:List (LI)}(hs:yV aa C Q)(H:QO C)(I:Par Q.length C.ed){P:LI→Prop}(J:0<Q.length→P (List.replicate aa.length 0))(U:∀t,P t→∀v∈evs aa,∀u,Za v aa t=some u→P u):
  ∀(n j:Nat),j<n→j<Q.length→P (Q.getD j [])
 | 0,j,h,_=>by omega
 | n+1,j,h,hj=>by
  by_cases V:j=0
  ·subst V;rw[hs.hd hj];exact J hj
  obtain⟨e,he,e2,e1⟩:=I j (by omega) hj;have ha:=H.ed e he;have hi:e.1.toNat<Q.length:=by omega
  have ih:=Qes hs H I J U n e.1.toNat (by omega) hi;have Y:eget C.ed e.1 e.2.1=some e.2.2:=Kj H.edi (s:=e.1) (v:=e.2.1) (t:=e.2.2) he;have E:=hs.step hi e.2.1;rw[show((e.1.toNat:Nat):Int)=e.1 by omega,Y,e2]at E;by_cases G:e.2.1∈evs aa
  ·rw[if_pos G]at E;cases hu:Za e.2.1 aa (Q.getD e.1.toNat [])with
   | none=>rw[hu]at E;cases E
   | some u =>
    rw[hu]at E;have h2:(j:Int)=(Q.idxOf u:Int):=Option.some.inj E;have h3:=(hs.to hi G hu).2;rw[show Q.idxOf u=j by omega]at h3;rw[h3];exact U _ ih _ G u hu
  rw[if_neg G]at E;cases E
theorem Qlh {a:QD}{ul:LI}{lf:Lf}(h:(nxs a ul lf).length=0):(Jn lf 0 (dsts a lf)).length=0:=by
 unfold nxs at h;by_cases h1:(lost a ul lf).length≠0
 ·rw[if_pos h1,Lh]at h;exact absurd h h1
 rw[if_neg h1]at h;exact h
theorem QmA {A:QD}(E:QO A)(ul:LI):∃C Q,sync [A,Jp A [] ul]=some (C,Q)∧X9 [A,Jp A [] ul]=0∧QO C∧((cor C).length:Int)=C.st:=by
 have hW:=Qlh (QhK A ul);have hC:Jp A [] ul=JU A (Xj A [] ul):=rfl;rw[hC];generalize hX:Xj A [] ul=lf at *;have hD:QO (JU A lf):=Va E lf;have G:∀a∈[A,JU A lf],QO a:=λa ha=>by
  simp only[List.mem_cons,List.not_mem_nil,or_false]at ha;rcases ha with rfl|rfl
  ·exact E
  exact hD
 have hck:X9 [A,JU A lf]=0:=by
  unfold X9;rw[if_neg (by simp)];exact(Xi _).2 G
 by_cases J:A.st=0∨lft lf 0=false
 ·have Y:JU A lf=⟨A.al,0,[],[]⟩:=by unfold JU;rw[if_pos J]
  have hs:sync [A,JU A lf]=some (⟨evs [A,JU A lf],0,[],[]⟩,[]):=by
   unfold sync;rw[if_pos ⟨JU A lf,by simp,by rw[Y]⟩]
  exact⟨_,_,hs,hck,(YE G hs).1.okay G,O⟩
 have hY:A.st≠0:=λe=>J (.inl e);have hE:lft lf 0=true:=by
  cases h:lft lf 0 with
  | true=>rfl
  | false=>exact absurd (.inr h) J
 have Y:JU A lf=ZY (rstr A lf):=by unfold JU;rw[if_neg J]
 rw[Y]at G hck ⊢;have hF:=X4 E lf;have st0:=E.st0;have hG:0<(rstr A lf).st:=by show 0<A.st;omega
 obtain⟨ord,hc⟩:=jM hF hG;have hZ:=E.st1;have hH:ord.length≤4096:=pig 4096 ord hc.nd (λx hx=>by have:=hc.bd x hx;have h2:x<A.st:=this.2;omega);have hI:∀v∈evs [A,ZY (rstr A lf)],v∈A.al:=λv H=>by
  obtain⟨a,ha,hx⟩:=(ZO G v).1 H;simp only[List.mem_cons,List.not_mem_nil,or_false]at ha;rcases ha with rfl|rfl
  ·exact hx
  rw[hc.al]at hx;exact hx
 have hr:PrT lf ord (List.replicate [A,ZY (rstr A lf)].length 0):=⟨0,hc.hd.2,by
  have h1:=hc.hd.1;show[0,0]=[Zq ord ((0:Nat):Int),((0:Nat):Int)];rw[show Zq ord ((0:Nat):Int)=0 from h1];rfl,by rw[show Zq ord ((0:Nat):Int)=0 from hc.hd.1];exact hE⟩
 have hw:∀t,PrT lf ord t→∀v∈evs [A,ZY (rstr A lf)],∀u,Za v [A,ZY (rstr A lf)] t=some u→PrT lf ord u:=by
  rintro t ⟨j,hj,rfl,_⟩ v H u hu;exact QnE E hc hj (hI v H) hu
 obtain⟨⟨C,Q⟩,hs⟩:=j6 (P:=PrT lf ord) hH (λl hn hp=>by
  have h1:(l.map λt=>Zq t 1).Nodup:=by
   unfold List.Nodup;rw[Mm];refine List.Pairwise.imp_of_mem (λ{x y} hx hy hJ e=>hJ ?_) hn;obtain⟨i,_,rfl,_⟩:=hp x hx;obtain⟨k,_,rfl,_⟩:=hp y hy;have e':(i:Int)=(k:Int):=e;have:i=k:=by omega
   rw[this]
  have h2:=pig ord.length _ h1 (λu hu=>by
   obtain⟨t,ht,rfl⟩:=Lq.1 hu;obtain⟨i,hi,rfl,_⟩:=hp t ht;show 0≤(i:Int)∧(i:Int)<_;omega)
  rw[Lh]at h2;exact h2) (λ_=>hr) hw
 have I:=(YE G hs).1;have he:=I.okay G;refine⟨C,Q,hs,hck,he,?_⟩;have hK:=λj (hj:j<Q.length)=>Qes I he (Qg8 hs) (λ_=>hr) hw (j+1) j (by omega) hj;have hL:=I.st;have h0:=QmH he (n:=Q.length) hL;obtain⟨hM,hN⟩:=Qjz E lf;have hq:=Qfy E (lf:=lf) A.st.toNat 0 (jG A lf) hM hN;have hf:dsts A lf=(qJ A.ed lf A.st.toNat 0 (jG A lf)).1:=rfl
 refine Zj (qJ A.ed lf A.st.toNat 0 (jG A lf)) λz hO=>?_;rw[hO]at hq hf;have hP:∀(m k:Nat),k<m→(hk:k<z.2.length)→∀i,i<Q.length→∀j:Nat,j<ord.length→Zq ord j=z.2[k]'hk→Q.getD i []=[Zq ord j,(j:Int)]→0≤cget (bwd Q.length C.ed C.mr) i:=by
  intro m;induction m with
  | zero=>intro k h;omega
  | succ m ih =>
   intro k ga hk i hi j hj hg U;obtain⟨hl,hQ⟩:=hq.q k hk;rcases hQ with hm|⟨j',hh,gb,v,H⟩
   ·have hR:(i:Int)∈C.mr:=by
     rw[I.mk2];refine Lq.2 ⟨i,LJ.2 ⟨by rw[L6];omega,?_⟩,O⟩;rw[U];have hb:(j:Int)∈(ZY (rstr A lf)).mr:=by
      rw[hc.mk2];refine Lq.2 ⟨j,LJ.2 ⟨by rw[L6];omega,decide_eq_true ?_⟩,O⟩;show Zq ord j∈A.mr;rw[hg];exact hm
     have ha:Zq ord j∈A.mr:=by rw[hg];exact hm
     simp[YT,ha,hb]
    have:=h0.2 _ hR;simpa using this
   have hS:=(hq.q j' hh).1;rw[←hg]at H;obtain⟨h1,h2⟩:=QeA E hc hj H hS;have h8:v∈evs [A,ZY (rstr A lf)]:=(ZO G v).2 ⟨A,by simp,(E.ed _ H).2.2.1⟩;rw[←U]at h1;have h3:=I.to hi h8 h1;have h4:=I.step hi v;rw[if_pos h8,h1]at h4;have h5:=Z0 h4;have h6:=ih j' (by omega) hh _ h3.1 (ord.idxOf (z.2[j']'hh)) (LS h2) (Ue h2) (by rw[h3.2,Ue h2])
   have h7:=h0.1 _ h5;simp only[Int.toNat_natCast]at h7;exact h7 h6
 have hT:∀i,i<Q.length→0≤cget (bwd Q.length C.ed C.mr) i:=by
  intro i hi;obtain⟨j,hj,U,hl⟩:=hK i hi;have hb:=hc.bd (Zq ord j) (by
   unfold Zq;simp only[Int.toNat_natCast,List.getD_eq_getElem?_getD,List.getElem?_eq_getElem hj,Option.getD_some];exact Lc hj)
  have gc:Zq ord j<A.st:=hb.2;have h9:(dsts A lf).length=A.st.toNat:=by
   have key:∀(f i:Nat) (z:LI×LI),(qJ A.ed lf f i z).1.length=z.1.length:=by
    intro f;induction f with
    | zero=>intro i z;rfl
    | succ f ih =>
     intro i z;rw[qJ];split
     ·rw[ih];have k2:∀(x:Int) (V:LI) (z:LI×LI),(V.foldl (KW lf x) z).1.length=z.1.length:=by
       intro x V;induction V with
       | nil=>intro z;rfl
       | cons y V ih2 =>
        intro z;rw[LM,ih2];unfold KW;split
        ·simp
        rfl
      exact k2 _ _ _
     rfl
   unfold dsts;rw[key,UT (λx hx=>(E.mr x hx).1)];exact YK _ _
  have hA:0≤cget (dsts A lf) (Zq ord j).toNat:=by
   refine Decidable.byContradiction λhn=>?_;have:=Qa8 (lf:=lf) (dsts A lf) 0 (Zq ord j).toNat (by rw[h9];omega) (by rw[LR];exact hl) (by omega);have:=List.length_pos_of_mem this;omega
  have ge:z.1.length=A.st.toNat:=by rw[←hf];exact h9
  rw[hf]at hA;have hm:=hq.r _ hA (by omega);rw[show(((Zq ord j).toNat:Nat):Int)=Zq ord j by omega]at hm;obtain⟨k,hk,hU⟩:=LB hm;exact hP (k+1) k (by omega) hk i hi j hj hU.symm U
 have hV:cor C=VI (bwd Q.length C.ed C.mr) Q.length:=by unfold cor;rw[show C.st.toNat=Q.length by omega]
 rw[hV];unfold VI;rw[Lh,Nf.2 (λi hi=>decide_eq_true (hT i (Mb.1 hi))),Nl];omega
theorem Qfd {α:Type}(q:α→Bool):∀(l:List α) (i:Nat),(∀x∈ixs q i l,(i:Int)≤x∧x<(i:Int)+l.length)∧Z2 (ixs q i l)
 | [],i=>⟨λx h=>(by cases h),List.Pairwise.nil⟩
 | e::l,i=>by
  obtain⟨h1,h2⟩:=Qfd q l (i+1);rw[ixs];split
  ·refine⟨λx hx=>?_,L3.2 ⟨λx hx=>by have:=h1 x hx;omega,h2⟩⟩;rcases Le.1 hx with rfl|hx
   ·exact⟨MH _,by simp only[List.length_cons];omega⟩
   have:=h1 x hx;simp only[List.length_cons];omega
  exact⟨λx hx=>by have:=h1 x hx;simp only[List.length_cons];omega,h2⟩
theorem QfI {c:Q7}(h:JK c=0):VX (Xc c) [] (unc c.ev)=0:=by
 have E:=(XK h).2;have G:=Z9 (z8 h);have hi:=Qfd (λe:Vp=>!e.co) c.ev 0;have hl:=G.ev;unfold VX;rw[if_neg (by simp[(Zs _).2 E]),if_neg (by simp[YM])];exact Qd0 (λx hx=>by have:=hi.1 x hx;omega) hi.2
theorem QfJ {c:Q7}(h:JK c=0):XB [Xc c,cdA c]=0∧QO (cdA c)∧QO (ccA c)∧((cor (ccA c)).length:Int)=(ccA c).st:=by
 have E:=(XK h).2;obtain⟨C,Q,h1,h2,h3,h4⟩:=QmA E (unc c.ev);have h5:sync [Xc c,cdA c]=some (C,Q):=h1;have h6:X9 [Xc c,cdA c]=0:=h2;have G:ccA c=C:=by unfold ccA yI;rw[h5]
 refine⟨?_,Va E _,by rw[G];exact h3,by rw[G];exact h4⟩;unfold XB;rw[if_neg (by simpa using h6),h5]
theorem zY {w:World}{t:TmV}{c:CL}(ht:yt [] w.heap t)(hc:ZQ [] w.heap c)(hA:t.A=Xc c.cel)(h0:JK c.cel=0):
  QH prog 39 [.agg (Jw t).toArray,c.val] w λr w'=>Step [] w w'∧∃va,r=.tuple #[va,.int .i64 0]∧JS w.heap.size w'.heap va (cdA c.cel):=by
 have hb:=Z9 (z8 h0);have hk:VX t.A [] (unc c.cel.ev)=0:=by rw[hA];exact QfI h0
 have hS:Jp t.A [] (unc c.cel.ev)=cdA c.cel:=by rw[hA];rfl
 refine QH.of_W func39 O ntmps39 results39 (by simp) ?_;refine Qc<|xl O<|QR (us:=Jw t) O λb2 w1 he hv hl=>xl O<|QR (us:=c.cells) O λb3 w2 J hw hm=>xl O<|Qu (us:=Qif) O λb4 w3 U hy hf=>Qf ?_;have V:=(he.trans J).trans U;have hz:=he.size;have h1:=J.size;have h2:=hf.lt;refine Qc<|x (Qa O)<|x (Qd (hm.ext U) O O)<|xl O<|xf<|(jS (hc.ev.ext V)).mono ?_
 rintro r4 Y ⟨H,vu,rfl,I⟩;rw[if_pos (show Js c.ev=0 from hb.e0)]at I;have I:Qt 3 w3.heap.size Y vu (unc c.cel.ev):=I;have h3:=H.size;have hn:(unc c.cel.ev).length≤1099511627776:=LL (Uc _ c.cel.ev 0) hc.ev.arr.le;have hg:=V.trans H;have hD:=yU (ht.a.ext hg) (Kc [] Y.heap) (Qt.ints (L:=[]) I hn (by simp));rw[hk,hS,if_pos rfl]at hD
 refine Qb<|x (Qj O O)<|x (Qj O O)<|x Qe<|Qf<|Qg<|Qc<|Qb<|x (JM O O hb.e0)<|xe<|Z4 rfl<|Qi<|Qc<|x (Qa O)<|x (ZG (us:=[t.va,.int .i64 t.A.st,t.vm,t.ve]) (hl.ext ((J.trans U).trans H)) O O O)<|Qb<|xl O<|xf<|hD.mono ?_;rintro r6 w6 ⟨hh,c0,c1,c2,c3,sa,sm,se,o,rfl,G,_,hi⟩;have E:=hi O [] (by simp)
 refine Qb<|x (Qj O O)<|x (Qj O O)<|xl O<|Qu (us:=XR (nS) (nS) (nS) 0) O λb8 w7 ho hp hq =>
  xl rfl<|Qn (us:=[c0,c1,c2,c3,sa,.int .i64 (cdA c.cel).st,sm,se,o]) hq O O O O ⟨G.1,G.2.1,G.2.2.1,G.2.2.2.1,E.al.one,O,E.mr.one,E.ed.one,G.2.2.2.2.2.2.2.1,Z⟩ λw8 hr hs =>
  Qf ?_
 have ha:Step [] w6 w8:=ho.then1 hr hp;refine Qc<|x (Qa O)<|x (ZG (us:=[sa,.int .i64 (cdA c.cel).st,sm,se]) hs O O O)<|Qb<|xl O<|Qn (us:=[sa,.int .i64 (cdA c.cel).st,sm,se]) (hf.ext ((H.trans hh).trans ha)) O O O O ⟨E.al.one,O,E.mr.one,E.ed.one,Z⟩ λw9 hj hu=>x Qe <|
  xe ?_
 refine Ql ⟨[.agg [sa,.int .i64 (cdA c.cel).st,sm,se].toArray,.int .i64 0],⟨⟨_,O,Qx O (hu.at (L:=[]) (by simp)).cells⟩,rfl,Z⟩,((hg.trans hh).trans ha).then1 hj (by omega),_,rfl,?_⟩;have hF:JS Y.heap.size w6.heap (.agg #[sa,.int .i64 (cdA c.cel).st,sm,se]) (cdA c.cel):=⟨sa,sm,se,O,λL hL=>hi O L hL⟩;exact(Uz (hF.ext ha) (by omega) hj).mono (by have:=V.size;omega)
theorem QpQ {w:World}{va vm ve va' vm' ve':Value}{a E:QD}{b:Nat}(G:QT w.heap b 50 ([Zc ⟨va,vm,ve,a⟩,Zc ⟨va',vm',ve',E⟩]:List (LV)).flatten)(h:Zm [] w.heap va vm ve a)(h':Zm [] w.heap va' vm' ve' E):
  YX [] w.heap (.slice (some ⟨b,0,none⟩) 2 2) [⟨va,vm,ve,a⟩,⟨va',vm',ve',E⟩]:=
 ⟨G.arr (by simp) rfl (by omega) (Lu 2),λp hp=>by
  rcases Le.1 hp with rfl|hp
  ·exact h
  rw[Lb.1 hp];exact h'⟩
theorem QpF {va vm ve va' vm' ve':Value}{a E:QD}(h:QO a)(h':QO E):∀p∈[(⟨va,vm,ve,a⟩:AV),⟨va',vm',ve',E⟩],QO p.a:=λp hp=>by
 rcases Le.1 hp with rfl|hp
 ·exact h
 rw[Lb.1 hp];exact h'
theorem QoK (c:Q7)(fg:Bool):cmE c fg=if JK c≠0 then JK c else if suE c≠0 then suE c else lgE (own c fg) (J7 c) 1:=by
 unfold cmE;by_cases h:JK c≠0
 ·rw[if_pos h,if_pos h]
 rw[if_neg h,if_neg h];have E:=Ln.1 h;have G:cdE c=0:=by unfold cdE;rw[if_neg h];exact QfI E
 have H:ccE c=0:=by unfold ccE;rw[if_neg (not_not_intro G)];exact(QfJ E).1
 rw[if_neg (show ¬(fg=true∧ccE c≠0) from λe=>e.2 H)]
set_option maxRecDepth 4096 in
set_option maxHeartbeats 8000000 in
theorem Qc5 (fg:Bool){L:LN}{w:World}{c:CL}(U:ZQ L w.heap c)(h3:Kb w 4096):
  QH prog 11 [c.val,.bool fg] w λr w'=>Step [] w w'∧∃v e,r=.tuple #[v,.bool e,.int .i64 (cmE c.cel fg)]∧(cmE c.cel fg≠0→v=Zg∧e=false)∧(cmE c.cel fg=0→e=(cmW (own c.cel fg) (J7 c.cel)).isNone∧(cmW (own c.cel fg) (J7 c.cel)=none→v=Zg)∧∀u,cmW (own c.cel fg) (J7 c.cel)=some u→Qt 3 w.heap.size w' v u∧u.length≤17000000):=by
 have h:=U.up (L':=[]) (by simp);have hp:=QoK c.cel fg;refine Zj (cmE c.cel fg) λE hE=>?_;rw[hE]at hp ⊢;refine QH.of_W func11 O ntmps11 results11 (by simp) ?_;refine Qc<|xl O<|QR (us:=c.cells) O λb2 w1 h4 m3 h5=>x Qe<|x Qe<|Qf<|Qc<|x (Qo h5 O O)<|xl O<|xf<|(V9 (h.ext h4) (h3.ext h4)).mono ?_;rintro r2 w2 ⟨g0,us,rfl,g1,g2,g3⟩
 refine Qb<|x (Qj O O)<|x (Qj O O)<|xl O<|Qu (us:=QbW) O λb7 w3 g4 g5 g6=>xl O<|Qn (us:=us) g6 O O g1 O g2 λw4 g7 h6 =>
  Qf ?_
 have hW:Step [] w2 w4:=g4.then1 g7 g5;have h7:=g0.trans hW;have hj:=h4.trans h7;refine Qg<|Qc<|Qb<|x (Q6 O O)<|xe<|Q3 rfl (λY=>?_) (λY=>?_)
 ·rw[if_pos Y]at hp;subst hp;refine Qc<|Qb<|x Qe<|x Qe<|Qf ?_;exact Ql ⟨[Zg,.bool false,.int .i64 (JK c.cel)],⟨O,O,O,Z⟩,hj,Zg,false,O,λ_=>⟨O,O⟩,λU=>absurd U Y⟩
 rw[if_neg Y]at hp;have he:=Ln.1 Y;obtain⟨t,ht,hn,hT⟩:=g3 he;subst ht;have hr:yt [] w4.heap t:=(hT [] (by simp)).ext hW;obtain⟨_,hX⟩:=XK he;have h8:=QfJ he;have h9:QO (own c.cel fg):=by
  unfold own;split
  ·exact h8.2.2.1
  exact hX
 refine Qi<|Qc<|x (Qo (h5.ext h7) O O)<|xl O<|xf<|(JR (h.ext hj) (h3.ext hj)).mono ?_;rintro r5 w5 ⟨g8,sa,sm,se,rfl,hA,_,g9⟩;refine Zj (if Xa c.cel=0 then(J7 c.cel).st else 0) λM hM=>?_
 rw[hM];refine Qb<|x (Qj O O)<|x (Qj O O)<|xl O<|Qu (us:=[nS,.int .i64 0,nS,nS]) O λb8 w6 ka kb kc=>xl O<|Qn (us:=[sa,.int .i64 M,sm,se]) kc O O O O ⟨hA.1,O,hA.2.1,hA.2.2.1,Z⟩ λw7 ke hY =>
  Qf ?_
 have hZ:Step [] w5 w7:=ka.then1 ke kb;have V:=g8.trans hZ;have hB:=hj.trans V;refine Qg<|Qc<|Qb<|x (Q6 O O)<|xe<|Q3 rfl (λha=>?_) (λha=>?_)
 ·rw[if_pos ha]at hp;subst hp;refine Qc<|Qb<|x Qe<|x Qe<|Qf ?_;exact Ql ⟨[Zg,.bool false,.int .i64 (suE c.cel)],⟨O,O,O,Z⟩,hB,Zg,false,O,λ_=>⟨O,O⟩,λU=>absurd U ha⟩
 rw[if_neg ha]at hp;have hD:=Ln.1 ha;have hF:=qR hD;have ga:E=0:=hp.trans (Qb9 h9 hF (.inl O));have kf:M=(J7 c.cel).st:=by rw[←hM,if_pos (show Xa c.cel=0 from hD)]
 have gb:Zm [] w7.heap sa sm se (J7 c.cel):=(g9 hD [] (by simp)).ext hZ;refine Qi<|Qc<|x (Qa O)<|x (ZG (us:=[t.va,.int .i64 t.A.st,t.vm,t.ve]) (h6.ext V) O O O)<|xl O<|Qu (us:=[nS,.int .i64 0,nS,nS]) O λI w8 kg kh ki=>xl O<|Qn (us:=[t.va,.int .i64 t.A.st,t.vm,t.ve]) ki O O O O ⟨hr.a.al.one,O,hr.a.mr.one,hr.a.ed.one,Z⟩ λw9 kj hG =>
  xe ?_
 have J:Step [] w7 w9:=kg.then1 kj kh;have hH:=hB.trans J;have kk:=hY.ext J;have hI:yt [] w9.heap t:=(hr.ext V).ext J;have m4:=gb.ext J;have m5:=hG.lt;have kn:b8∉[I]:=by have:=hY.lt;simp only[List.mem_singleton];omega
 have ko:Zm [I] w9.heap sa sm se (J7 c.cel):=(gb.up (L':=[I]) (λb hb=>.inr (by simp only[List.mem_singleton]at hb;omega))).ext J;refine QX (α:=Value×Value×Value) [(4,6),(10,11),(35,55)] (λz=>[(4,Zg)]) (λz w'=>Step [I] w9 w'∧QT w'.heap I 50 [z.1,.int .i64 (own c.cel fg).st,z.2.1,z.2.2]∧Zm [] w'.heap z.1 z.2.1 z.2.2 (own c.cel fg)) (by rfl) ?_ ?_
 ·refine Qc<|Qb<|xe<|QZ O (λhJ=>?_) (λhJ=>?_)
  rotate_left
  ·refine Qi ?_;have e:own c.cel fg=t.A:=by unfold own;rw[hJ,hn.A];rfl
   rw[e];exact⟨(t.va,t.vm,t.ve),La,Step.refl _ _,hG,hI.a⟩
  have e:own c.cel fg=ccA c.cel:=by unfold own;rw[if_pos hJ]
  rw[e];refine Qc<|x (Qo (h6.ext (V.trans J)) O O)<|x (Qo (h5.ext ((h7.trans V).trans J)) O O)<|xl O<|xf<|(zY hI (h.ext hH) hn.A he).mono ?_;rintro m6 kp ⟨kq,_,rfl,va,vm,ve,rfl,kr⟩;have hs:=kr [] (by simp)
  refine Qb<|x (Qj O O)<|x (Qj O O)<|xl O<|Qu (us:=Qif) O λb10 m7 kt ku kv=>xl O<|Qn (us:=[va,.int .i64 (cdA c.cel).st,vm,ve]) kv O O O O ⟨hs.al.one,O,hs.mr.one,hs.ed.one,Z⟩ λkw kx kz =>
   Qf ?_
  have gc:Step [] kp kw:=kt.then1 kx ku;have ge:=kq.trans gc;refine Qg<|Qc<|Qb<|x (JM O O O)<|xe<|Z4 O<|Qi ?_;have k0:=QpF (va:=t.va) (vm:=t.vm) (ve:=t.ve) (va':=va) (vm':=vm) (ve':=ve) (a:=t.A) (by rw[hn.A];exact hX) h8.2.1
  refine Qc<|x (Qa O)<|x (ZG (us:=[t.va,.int .i64 t.A.st,t.vm,t.ve]) (h6.ext ((V.trans J).trans ge)) O O O)<|x (Qo kz O O)<|xl O<|QG (us:=[Zc ⟨t.va,t.vm,t.ve,t.A⟩,Zc ⟨va,vm,ve,cdA c.cel⟩]) O O (by decide) (by exact(by decide:2*4≤1000000)) ⟨O,O,O,O,Z⟩ λm8 m9 gg pa k4=>?_;have hc:=ge.trans gg;have k5:=hH.trans hc
  have hC:=Qek (QpQ k4 (hI.a.ext hc) (hs.ext (gc.trans gg))) k0 (h3.ext k5);simp only[List.map_cons,List.map_nil,hn.A]at hC;rw[h8.1]at hC;refine xl O<|xf<|hC.mono ?_;rintro pc k6 ⟨gh,vc,rfl,_,k7⟩;obtain⟨ca,cm,ce,rfl,k8⟩:=k7 O;have pd:=hc.size
  have hv:Zm [I] k6.heap ca cm ce (ccA c.cel):=k8 [I] (λb hb=>by simp only[List.mem_singleton]at hb;omega);refine Qb<|x (Qj O O)<|x (Qj O O)<|xl O<|Qn (us:=[ca,.int .i64 (ccA c.cel).st,cm,ce]) (hG.ext (hc.trans gh)) O O O O ⟨hv.al.one,O,hv.mr.one,hv.ed.one,Z⟩ λpf gi k9=>Qf<|Qc<|Qb<|x (JM O O O)<|xe<|Z4 O<|Qi ?_
  exact⟨(ca,cm,ce),La,((hc.trans gh).any (L:=[I])).trans' gi,k9,(hv.st gi).up (λb hb=>(by cases hb))⟩
 rintro⟨oa,om,oe⟩ g gj ⟨hK,gk,gl⟩;simp only[]at gk gl;have ma:Step [] w gj:=hH.then1 hK (by have:=hB.size;omega);have mc:=kk.step hK kn;have mf:Zm [] gj.heap sa sm se (J7 c.cel):=(ko.st hK).up (λb hb=>(by cases hb))
 refine Qc<|Qf<|Qg<|Qc<|xl O<|QG (us:=[[.int .i64 1],[.int .i64 2]]) O O (by decide) (by simp) ⟨rfl,rfl,rfl,rfl,Z⟩ λmg gm gn pg mh=>?_;have gq:QJ [] gm.heap (.slice (some ⟨mg,0,none⟩) 2 2) [1,2]:=mh.arr (by simp) (n:=2) (cap:=2) (sz:=1) rfl (by omega) (Lu _);refine x (Qr gq O)<|Qb<|xe ?_;have mj:=ma.trans gn
 refine Qh<|Qz (α:=Nat×Value×Option (LI)) [(4,6),(13,16),(58,84)] (λz=>[(4,z.2.1),(5,.bool z.2.2.isNone),(58,.int .i64 z.1)]) (λz w'=>z.1≤2∧Step [] gm w'∧z.2.2=cmK (own c.cel fg) (J7 c.cel) z.1∧(z.2.2=none→z.2.1=Zg)∧∀u,z.2.2=some u→Qt 3 w.heap.size w' z.2.1 u∧u.length≤17000000) (λz=>2 - z.1) (by rfl) (0,Zg,none) ⟨O,O,O,Z⟩
  ⟨Ll _,Step.refl _ _,O,λ_=>O,λu h=>by cases h⟩ ?_
 rintro⟨k,v,o⟩ g hL ⟨hk,hf,ho,hg,hw⟩;simp only[]at hk ho hg hw;have hN:=mj.trans hf;have hy:=gn.trans hf;refine Qc<|x (QA O O)<|xe<|Qg<|QC O (λhO=>?_) (λhO=>?_)
 ·refine Qy ?_;have mo:k=2:=by have mq:¬(k:Int)<(2:Nat):=hO;omega
  rw[mo,QqV]at ho;refine Qc<|Qb<|Qb<|x Qe<|x Qe<|Qf ?_;exact Ql ⟨[v,.bool o.isNone,.int .i64 0],⟨O,O,O,Z⟩,hN,v,o.isNone,by rw[ga];rfl,λU=>absurd ga U,λ_=>by rw[←ho];exact⟨O,hg,hw⟩⟩
 have H:k<[(1:Int),2].length:=by have mq:(k:Int)<(2:Nat):=hO;simp;omega
 have gr:=k12 H;have hh:cmK (own c.cel fg) (J7 c.cel) (k+1)=cm1 (cmK (own c.cel fg) (J7 c.cel) k) (lgq (own c.cel fg) (J7 c.cel) ([(1:Int),2][k]'H)):=by
  unfold cmK;rw[Li H,Mh];rfl
 refine Qi<|Qg<|Qh<|Qc<|xii (i:=k) (gq.ext hf) O O H λph gs=>?_;refine Zj ([(1:Int),2][k]'H) λkd ms=>?_;rw[ms]at gs gr hh;refine x (Qv gs O)<|Qf ?_;have mt:=QdJ (gl.ext hy) (mf.ext hy) kd
 have hEq':QH prog 41 [.agg #[oa,.int .i64 (own c.cel fg).st,om,oe],.agg #[sa,.int .i64 M,sm,se],.int .i64 kd] hL λr w'=>Step [] hL w'∧∃v e,r=.tuple #[v,.bool e,.int .i64 0]∧(match lgq (own c.cel fg) (J7 c.cel) kd with|none=>v=Zg∧e=true|some u=>e=false∧Qt 3 hL.heap.size w' v u):=by
  rw[kf];refine mt.mono ?_;rintro r w' ⟨a1,v,e,a2,a3⟩;have hz:=Qb9 h9 hF gr;rw[hz]at a2;exact⟨a1,v,e,a2,a3 hz⟩
 refine Qc<|x (Qo (gk.ext hy) O O)<|x (Qo (mc.ext hy) O O)<|Qb<|xl O<|xf<|hEq'.mono ?_;rintro pj hi ⟨hP,v',e',rfl,hm⟩;have pn:=hN.trans hP;have mu:=hN.size;refine Qb<|x (Qj O O)<|x (Qj O O)<|x (Qj O O)<|x Qe<|x Qe<|Qf<|Qg<|Qc<|Qb<|x (Q6 O O)<|xe<|Q3 rfl (λgt=>?_) (λgt=>?_)
 ·exact absurd O gt
 refine Qi<|Zj (lgq (own c.cel fg) (J7 c.cel) kd) λq hq=>?_;rw[hq]at hm hh;have gu:∀u,q=some u→u.length≤17000000:=λu hu=>QlD h9 hF (hq.trans hu);have gv:e'=q.isNone:=by
  cases q with
  | none=>exact hm.2
  | some u=>exact hm.1
 have gx:∀u,q=some u→Qt 3 w.heap.size hi v' u:=λu hu=>by
  subst hu;exact Zd hm.2 mu
 have h1:∀u,o=some u→Qt 3 w.heap.size hi v u∧u.length≤17000000:=λu hu=>⟨Qs (hw u hu).1 hP,(hw u hu).2⟩;rw[←ho]at hh;refine QX (α:=Bool) [(73,82)] (λz=>[(82,.bool z)]) (λz w'=>Step [] hi w'∧(z=true→∃u,q=some u∧cm1 o q=some u)∧(z=false→cm1 o q=o)) (by rfl) ?_ ?_
 ·refine Qw<|Qb<|xB (Zt O) (λhQ=>?_) (λhQ=>?_)
  ·have mv:q.isNone=false:=by rw[←gv];simpa using hQ
   obtain⟨u,hu⟩:∃u,q=some u:=by cases q with|none=>cases mv|some u=>exact⟨u,rfl⟩
   refine Qb<|xB Qk (λhR=>?_) (λhR=>?_)
   ·have hg:o=none:=by cases o with|none=>rfl|some u=>cases hR
    refine Qb<|xs O<|xs O<|xs O<|x (Qp O)<|x (Qp O)<|xe ?_;exact⟨true,La,Step.refl _ _,λ_=>⟨u,hu,by rw[hg,hu];rfl⟩,(λh=>by cases h)⟩
   obtain⟨G,h2⟩:∃G,o=some G:=by cases o with|none=>cases hR|some u=>exact⟨u,rfl⟩
   have mw:QJ [] hi.heap v' u:=Qt.ints (gx u hu) (by have:=gu u hu;omega) (by simp);have my:QJ [] hi.heap v G:=Qt.ints (h1 G h2).1 (by have:=(h1 G h2).2;omega) (by simp);refine Qb<|Qb<|Qb<|xl O<|xf<|(Qiu mw my).mono ?_;rintro po pp ⟨rfl,mz⟩;refine x (Qp O)<|x (Qp O)<|xe<|⟨less u G,La,mz,λhl=>⟨u,hu,?_⟩,λhl=>?_⟩
   ·rw[hu,h2];show(if less u G=true then some u else some G)=_;rw[if_pos hl]
   rw[hu,h2];show(if less u G=true then some u else some G)=_;rw[if_neg (by rw[hl];simp)]
  have m0:q=none:=by
   have gy:e'=true:=by simpa using hQ
   rw[gv]at gy;cases q with|none=>rfl|some u=>cases gy
  refine Qb<|xs O<|xs O<|xs O<|xs O<|xs O<|xs O<|x (Qp O)<|xe ?_;exact⟨false,La,Step.refl _ _,(λh=>by cases h),λ_=>by rw[m0];rfl⟩
 rintro zb g pt ⟨hS,m1,m2⟩;have gz:=hP.trans hS;refine QZ rfl (λhU=>?_) (λhU=>?_)
 ·obtain⟨u,hu,hV⟩:=m1 hU;refine Qw<|Qb<|x Qe<|Qf<|Qw<|QP O O<|Qb<|xe ?_;exact⟨(k+1,v',some u),by simp only[];simp at H;omega,⟨O,O,O,Z⟩,by simp at H;omega,hf.trans gz,by simp only[];rw[hh,hV],(λh=>by cases h),λu' h'=>by
   have:u=u':=Option.some.inj h';subst this;exact⟨Qs (gx u hu) hS,gu u hu⟩⟩
 have hV:=m2 hU;refine Qi<|Qw<|QP O O<|Qb<|xe ?_;exact⟨(k+1,v,o),by simp only[];simp at H;omega,⟨O,O,O,Z⟩,by simp at H;omega,hf.trans gz,by simp only[];rw[hh,hV],hg,λu' h'=>⟨Qs (h1 u' h').1 hS,(h1 u' h').2⟩⟩
theorem Qel {L:LN}{w:World}{c:CL}(E:ZQ L w.heap c)(G:Kb w 4096):
  QH prog 11 [c.val,.bool false] w λr w'=>Step [] w w'∧∃v e,r=.tuple #[v,.bool e,.int .i64 (cmE c.cel false)]∧(cmE c.cel false=0→e=(cmW (Xc c.cel) (J7 c.cel)).isNone):=
 (Qc5 false E G).mono λ_ _ ⟨h1,v,e,h2,_,h3⟩=>⟨h1,v,e,h2,λh=>(h3 h).1⟩
abbrev fcA (s:Int):QD:=⟨[s,s+1],2,[0],[(0,s,1),(1,s+1,0)]⟩
theorem Qfs {w:World}{nm:ByteArray}{s:Int}(hs:0≤s∧s<100):
  QH prog 69 [.string nm,.int .i64 s] w λr w'=>Step [] w w'∧∃va vm ve,r=.agg #[.string nm,va,.int .i64 2,vm,ve]∧ZM [va,vm,ve]∧∀L:LN,(∀b∈L,b<w.heap.size)→Zm L w'.heap va vm ve (fcA s):=by
 refine QH.of_W func69 O ntmps69 results69 (by simp) ?_;refine Qc<|xl O<|Qu (us:=[.string .empty,nS,.int .i64 0,nS,nS]) O λb4 w1 V hi Y=>xe ?_;refine Qc<|Qb<|Qb<|Qb<|QP O O<|xl O<|QG (us:=[[.int .i64 s],[.int .i64 (s+1)]]) O O (by decide) (by simp) ⟨rfl,rfl,rfl,rfl,Z⟩ λG w2 J hj ha =>
  xl rfl<|QG (us:=[[.int .i64 0]]) O O (by decide) (by simp) ⟨rfl,rfl,Z⟩ λb10 w3 H hk hc=>Qb<|x (QM ⟨rfl,rfl,rfl,Z⟩) <|
  Qb<|QP rfl O<|x (QM ⟨O,O,O,Z⟩)<|xl O<|QG (us:=[QB (0,s,1),QB (1,s+1,0)]) O O (by decide) (show 2*3≤1000000 by omega) ⟨O,O,O,O,Z⟩ λb16 w4 E hl he =>
  x (QM ⟨rfl,O,O,O,Z⟩)<|x (ZD [(0,[.string nm]),(1,[.slice (some ⟨G,0,none⟩) 2 2,.int .i64 2,.slice (some ⟨b10,0,none⟩) 1 1,.slice (some ⟨b16,0,none⟩) 2 2])] ⟨O,O,O,O,Z⟩)<|xl O<|Qn (us:=[.string nm,.slice (some ⟨G,0,none⟩) 2 2,.int .i64 2,.slice (some ⟨b10,0,none⟩) 1 1,.slice (some ⟨b16,0,none⟩) 2 2]) (((Y.ext J).ext H).ext E) O O O O ⟨O,O,O,O,O,Z⟩ λU I hf =>
  xe ?_
 have hn:=V.size;have ho:=J.size;have hp:=H.size;have hq:=E.size;have hr:=Y.lt;have ht:=ha.lt;have hu:=hc.lt
 refine Ql ⟨[.agg [.string nm,.slice (some ⟨G,0,none⟩) 2 2,.int .i64 2,.slice (some ⟨b10,0,none⟩) 1 1,.slice (some ⟨b16,0,none⟩) 2 2].toArray],⟨⟨_,O,Qx O (hf.at (L:=[]) (by simp)).cells⟩,Z⟩,(((V.trans J).trans H).trans E).then1 I (by omega),_,_,_,rfl,⟨rfl,rfl,rfl,Z⟩,λL hL=>?_⟩
 have k9:QT U.heap G 3 [.int .i64 s,.int .i64 (s+1)]:=(((ha.ext H).ext E)).step I (by simp only[List.mem_singleton];omega);have hg:QT U.heap b10 3 [.int .i64 0]:=((hc.ext E)).step I (by simp only[List.mem_singleton];omega)
 have hh:QT U.heap b16 129 [.int .i64 0,.int .i64 s,.int .i64 1,.int .i64 1,.int .i64 (s+1),.int .i64 0]:=he.step I (by simp only[List.mem_singleton];omega);have nL:∀{b:Nat},w.heap.size≤b→b∉L:=λhb hm=>by have:=hL _ hm;omega
 exact⟨k9.arr (nL (by omega)) (n:=2) (cap:=2) (sz:=1) O (by omega) (Lu _),hg.arr (nL (by omega)) (n:=1) (cap:=1) (sz:=1) O (by omega) (Lu _),hh.arr (nL (by omega)) (n:=2) (cap:=2) (sz:=3) O (by omega) (Lu _)⟩
abbrev fs1:ByteArray:=⟨#[111,110,101]⟩
abbrev fs2:ByteArray:=⟨#[116,119,111]⟩
abbrev fs3:ByteArray:=⟨#[98,117,102,102,101,114]⟩
abbrev fcE:List Vp:=[⟨⟨#[97]⟩,true,false,false,0⟩,⟨⟨#[98]⟩,false,false,false,0⟩,⟨⟨#[99]⟩,true,false,false,0⟩,⟨⟨#[100]⟩,false,false,false,0⟩]
def J2:Q7:=⟨fcE,[⟨fs1,fcA 0⟩,⟨fs2,fcA 2⟩],[⟨fs3,fcA 1⟩],[],[]⟩
def fcP (N:Nat)(i:Nat)(v:Value)(w:World):Prop :=
 if i=4 then ∃b,v=.slice (some ⟨b,0,none⟩) 4 4∧N≤b∧QT w.heap b 89 (fcE.flatMap Zv)
 else if i=6 then ∃va vm ve,v=.agg #[.string fs1,va,.int .i64 2,vm,ve]∧ZM [va,vm,ve]∧∀L:LN,(∀b∈L,b<N)→Zm L w.heap va vm ve (fcA 0)
 else if i=8 then ∃va vm ve,v=.agg #[.string fs2,va,.int .i64 2,vm,ve]∧ZM [va,vm,ve]∧∀L:LN,(∀b∈L,b<N)→Zm L w.heap va vm ve (fcA 2)
 else if i=9 then Vv N w.heap v [⟨fs1,fcA 0⟩,⟨fs2,fcA 2⟩]
 else Vv N w.heap v [⟨fs3,fcA 1⟩]
theorem Vv.ext {N:Nat}{w w':World}{v:Value}{l:List Yk}(h:Vv N w.heap v l)(hs:Step [] w w'):Vv N w'.heap v l:=let⟨qs,h1,h2⟩:=h;⟨qs,h1,λL E=>(h2 L E).ext hs⟩
theorem Ql3 {N:Nat}:∀i v w w',fcP N i v w→Step [] w w'→fcP N i v w':=by
 intro i v w w' h hs;unfold fcP at h ⊢;by_cases h4:i=4
 ·rw[if_pos h4]at h ⊢;obtain⟨b,e,n,I⟩:=h;exact⟨b,e,n,I.ext hs⟩
 rw[if_neg h4]at h ⊢;by_cases h6:i=6
 ·rw[if_pos h6]at h ⊢;obtain⟨va,vm,ve,e,o,E⟩:=h;exact⟨va,vm,ve,e,o,λL G=>(E L G).ext hs⟩
 rw[if_neg h6]at h ⊢;by_cases H:i=8
 ·rw[if_pos H]at h ⊢;obtain⟨va,vm,ve,e,o,E⟩:=h;exact⟨va,vm,ve,e,o,λL G=>(E L G).ext hs⟩
 rw[if_neg H]at h ⊢;by_cases h9:i=9
 ·rw[if_pos h9]at h ⊢;exact Vv.ext h hs
 rw[if_neg h9]at h ⊢;exact Vv.ext h hs
theorem Vv.one {N:Nat}{H:Array Obj}{v:Value}{l:List Yk}(h:Vv N H v l):v.oneCell'=true:=by
 obtain⟨qs,_,h2⟩:=h;exact(h2 [] (by simp)).arr.one
set_option maxHeartbeats 4000000 in
theorem Ki (w:World):QH prog 29 [] w λr w'=>Step [] w w'∧QmY w.heap.size w'.heap r J2:=by
 refine QH.of_W func29 O ntmps29 results29 (by simp) ?_;refine Qc<|xl O<|Qu (us:=Xf) O λV J hj h0 hk=>xe ?_;refine Qc<|Qf<|Qc<|xl O<|QG (us:=[[.int .i64 1],[.int .i64 2]]) O O (by decide) (by simp) ⟨rfl,rfl,rfl,rfl,Z⟩ λY w2 hn hT hp=>xl rfl<|QG (us:=[[.int .i64 0]]) rfl rfl (by decide) (by simp) ⟨rfl,rfl,Z⟩ λb4 w3 hh hU hr =>
  x (QM ⟨rfl,O,O,Z⟩)<|x (QM ⟨O,O,O,Z⟩)<|xl O<|QG (us:=[QB (0,1,1),QB (1,2,0)]) O O (by decide) (show 2*3≤1000000 by omega) ⟨O,O,O,O,Z⟩ λb7 w4 ha hV h3 =>
  x (QM ⟨rfl,O,O,O,Z⟩)<|xl O<|Qu (us:=[nS,.int .i64 0,nS,nS]) O λb2 w5 h5 h6 h7=>xl O<|Qn (us:=[.slice (some ⟨Y,0,none⟩) 2 2,.int .i64 2,.slice (some ⟨b4,0,none⟩) 1 1,.slice (some ⟨b7,0,none⟩) 2 2]) h7 O O O O ⟨O,O,O,O,Z⟩ λw6 h8 hD =>
  xe ?_
 have hW:=hj.size;have hX:=hn.size;have hY:=hh.size;have hZ:=ha.size;have hE:=hk.lt;have ga:=hp.lt;have gb:=hr.lt;have hf:Step [] w4 w6:=h5.then1 h8 h6;have hi:=((hn.trans hh).trans ha).trans hf;have hs:=hj.trans hi;have gc:=hs.size;have ge:=hi.size;have hF:=hk.ext hi;have k3:=((hp.ext hh).ext ha).ext hf;have k4:=(hr.ext ha).ext hf
 have k7:=h3.ext hf;have hG:∀{L:LN},(∀b∈L,b<J.heap.size)→Zm L w6.heap (.slice (some ⟨Y,0,none⟩) 2 2) (.slice (some ⟨b4,0,none⟩) 1 1) (.slice (some ⟨b7,0,none⟩) 2 2) (fcA 1):=λ{L} E=>by
  have nL:∀{b:Nat},J.heap.size≤b→b∉L:=λhb hm=>by have:=E _ hm;omega
  exact⟨k3.arr (nL (by omega)) (n:=2) (cap:=2) (sz:=1) O (by omega) (Lu _),k4.arr (nL (by omega)) (n:=1) (cap:=1) (sz:=1) O (by omega) (Lu _),k7.arr (nL (by omega)) (n:=2) (cap:=2) (sz:=3) O (by omega) (Lu _)⟩
 refine QX (α:=CL) [(9,22)] (λz=>[]) (λz w'=>Step [] w w'∧QT w'.heap V 37 z.cells∧z.cel=J2∧(∀L:LN,(∀b∈L,b<w.heap.size)→ZQ L w'.heap z)) (by rfl) ?_ ?_
 ·refine Qj8 (α:=Value×Value×Value) (Step [] w6) [(0,true),(1,true),(2,true),(3,true),(5,true),(7,true),(10,true),(11,true)] (λi=>if i=9 then[6,8]else[]) [4,6,8,9,12] [(13,true),(14,false)] [(13,13),(15,15),(17,18),(21,21)] (fcP J.heap.size)
   (λz=>[(13,z.1),(18,z.2.1),(21,z.2.2)])
   (λz w'=>(∃b,z.1=.slice (some ⟨b,0,none⟩) 4 4∧J.heap.size≤b∧QT w'.heap b 89 (fcE.flatMap Zv))∧Vv J.heap.size w'.heap z.2.1 [⟨fs1,fcA 0⟩,⟨fs2,fcA 2⟩]∧Vv J.heap.size w'.heap z.2.2 [⟨fs3,fcA 1⟩])
   mixed (by rfl) (by kernel_rfl) (Step.drew _ _) (λ_ _ h1 h2=>h1.trans h2) Ql3 ?_ ?_
  ·rintro g w' ⟨h4,_,_,h9,U,_⟩ gg;exact⟨(g 13,g 18,g 21),⟨O,O,O,Z⟩,h4,h9,U⟩
  refine p (λ_=>QM ⟨O,O,Z⟩)<|p (λ_=>QM La)<|p (λ_=>QM ⟨O,O,Z⟩)<|p (λ_=>QM La) <|
   p (λ_=>Qk)<|p (λ_=>Qk)<|pq (λ_ hc=>Qo (hD.ext hc) O O)<|p (λ_=>ZD [(0,[.string fs3]),(1,[.slice (some ⟨Y,0,none⟩) 2 2,.int .i64 2,.slice (some ⟨b4,0,none⟩) 1 1,.slice (some ⟨b7,0,none⟩) 2 2])] ⟨O,O,O,O,Z⟩) <|
   pe ⟨⟨?_,?_,?_,?_,?_,Z⟩,?_⟩
  ·intro g w' hc _;have hz:=hc.size;exact QG (us:=[Zv ⟨⟨#[97]⟩,true,false,false,0⟩,Zv ⟨⟨#[98]⟩,false,false,false,0⟩,Zv ⟨⟨#[99]⟩,true,false,false,0⟩,Zv ⟨⟨#[100]⟩,false,false,false,0⟩]) O O (by decide) (show 4*5≤1000000 by omega) ⟨O,O,O,O,O,O,O,O,Z⟩ λb w7 G hb H=>⟨G,⟨b,O,by omega,H⟩,λc I=>by rw[Lb.1 (show c∈[b] from I)];exact⟨hb,H.lt⟩⟩
  ·intro g w' hc _;have hz:=hc.size;refine xc (first:=[]) (capt:=[]) O<|(Qfs (nm:=fs1) (s:=0) (by omega)).mono ?_;rintro r w7 ⟨G,va,vm,ve,rfl,ho,hA⟩;exact⟨G,⟨va,vm,ve,O,ho,λL E=>hA L (λb hb=>by have:=E b hb;omega)⟩,λc I=>by cases I⟩
  ·intro g w' hc _;have hz:=hc.size;refine xc (first:=[]) (capt:=[]) O<|(Qfs (nm:=fs2) (s:=2) (by omega)).mono ?_;rintro r w7 ⟨G,va,vm,ve,rfl,ho,hA⟩;exact⟨G,⟨va,vm,ve,O,ho,λL E=>hA L (λb hb=>by have:=E b hb;omega)⟩,λc I=>by cases I⟩
  ·rintro g w' hc ⟨⟨va,vm,ve,e6,o6,hH⟩,⟨va',vm',ve',e8,o8,hI⟩,_⟩;have hz:=hc.size;refine QG (us:=[Zn ⟨fs1,⟨va,vm,ve,fcA 0⟩⟩,Zn ⟨fs2,⟨va',vm',ve',fcA 2⟩⟩]) O O (by decide) (show 2*5≤1000000 by omega) ⟨congrArg Value.cells e6,O,congrArg Value.cells e8,O,Z⟩ λb w7 G hb H=>⟨G,?_,λc I=>by rw[Lb.1 (show c∈[b] from I)];exact⟨hb,H.lt⟩⟩
   refine⟨[⟨fs1,⟨va,vm,ve,fcA 0⟩⟩,⟨fs2,⟨va',vm',ve',fcA 2⟩⟩],O,λL E=>⟨H.arr (λhm=>by have:=E _ hm;omega) (n:=2) (cap:=2) (sz:=5) O (by omega) (Lu _),λq hq=>?_,λq hq=>?_⟩⟩
   ·simp only[List.mem_cons,List.not_mem_nil,or_false]at hq;rcases hq with rfl|rfl
    ·exact(hH L E).ext G
    exact(hI L E).ext G
   simp only[List.mem_cons,List.not_mem_nil,or_false]at hq;rcases hq with rfl|rfl
   ·exact X6 (by decide)
   exact X6 (by decide)
  ·intro g w' hc _;have hz:=hc.size;refine QG (us:=[Zn ⟨fs3,⟨.slice (some ⟨Y,0,none⟩) 2 2,.slice (some ⟨b4,0,none⟩) 1 1,.slice (some ⟨b7,0,none⟩) 2 2,fcA 1⟩⟩]) O O (by decide) (show 1*5≤1000000 by omega) ⟨O,O,Z⟩ λb w7 G hb H=>⟨G,?_,λc I=>by rw[Lb.1 (show c∈[b] from I)];exact⟨hb,H.lt⟩⟩
   refine⟨[⟨fs3,⟨.slice (some ⟨Y,0,none⟩) 2 2,.slice (some ⟨b4,0,none⟩) 1 1,.slice (some ⟨b7,0,none⟩) 2 2,fcA 1⟩⟩],O,λL E=>⟨H.arr (λhm=>by have:=E _ hm;omega) (n:=1) (cap:=1) (sz:=5) O (by omega) (Lu _),λq hq=>?_,λq hq=>?_⟩⟩
   ·simp only[List.mem_singleton]at hq;subst hq;exact((hG E).ext hc).ext G
   simp only[List.mem_singleton]at hq;subst hq;exact X6 (by decide)
  rintro⟨v1,v2,v3⟩ g w9 ht ⟨⟨b,e,n,H⟩,h9,U⟩;simp only[]at e h9 U;subst e;have hJ:=hF.ext ht;refine p (λ_=>ZD [(0,[.slice (some ⟨b,0,none⟩) 4 4]),(1,[v2]),(2,[v3])] ⟨O,O,X5 (Vv.one h9),O,X5 (Vv.one U),O,Z⟩)<|pkl (hl:=by kernel_rfl)<|Qn (us:=[.slice (some ⟨b,0,none⟩) 4 4,v2,v3,nS,nS]) hJ O O O O ⟨O,Vv.one h9,Vv.one U,O,O,Z⟩ λhu hg hK=>pe ?_;obtain⟨q9,e9,hM⟩:=h9
  obtain⟨hv,hN,hO⟩:=U;refine⟨⟨.slice (some ⟨b,0,none⟩) 4 4,v2,v3,nS,nS,fcE,q9,hv,[],[]⟩,Z,(hs.trans ht).then1 hg h0,hK,?_,λL E=>?_⟩
  ·show Q7.mk fcE (q9.map IV.it) (hv.map IV.it) [] []=_;rw[e9,hN];rfl
  have hw:∀b'∈V::L,b'<J.heap.size:=λb' hb'=>by
   rcases Le.1 hb' with rfl|hb'
   ·exact hE
   have:=E b' hb';omega
  have m1:∀b'∈[V],b'∈V::L:=λb' hb'=>by simp only[List.mem_singleton]at hb';simp[hb']
  have hy:∀b'∈L,b'∈V::L∨hu.heap.size≤b':=λb' hb'=>.inl (Lk _ hb');have hP:QT hu.heap b 89 (fcE.flatMap Zv):=H.step hg (by simp only[List.mem_singleton];omega)
  refine⟨⟨hP.arr (λhm=>by have:=E _ hm;omega) (n:=4) (cap:=4) (sz:=5) O (by omega) (Lu _),λe he=>?_⟩,((hM _ hw).st (hg.mono m1)).up hy,((hO _ hw).st (hg.mono m1)).up hy,⟨Zy.nil _ _ 2,λq hq=>(by cases hq),λq hq=>(by cases hq)⟩,⟨Zy.nil _ _ 3,λq hq=>(by cases hq),λq hq=>(by cases hq)⟩⟩;simp only[List.mem_cons,List.not_mem_nil,or_false]at he
  rcases he with rfl|rfl|rfl|rfl <;> exact X6 (by decide)
 rintro c g w9 ⟨hQ,hR,hS,hC⟩;refine Ql ⟨[_],⟨⟨_,O,Qx O (hR.at (L:=[]) (by simp)).cells⟩,Z⟩,hQ,c,rfl,hS,hC⟩
theorem Qoy:JK J2=0:=by kernel_rfl
theorem Qoz:(VM J2).ps=true:=by kernel_rfl
theorem QoA:(VM J2).nc=true:=by kernel_rfl
theorem Ql6:(VM J2).sts.length=1:=by kernel_rfl
theorem Ql5:decide (1<(VM J2).tg)=true:=by kernel_rfl
theorem Ql8:pmE J2 [0,1]=0:=by kernel_rfl
theorem Ql7:pmL J2 [0,1]=[2]:=by kernel_rfl
theorem Qma:mrE J2 [0,1] 0=0:=by kernel_rfl
theorem Ql9:mrL J2 [0,1] 0=[0]:=by kernel_rfl
theorem Qmc:cmE J2 false=0:=by kernel_rfl
theorem Qmb:(cmW (Xc J2) (J7 J2)).isNone=true:=by kernel_rfl
theorem Qji {w:World}{c:CL}(hC:ZQ [] w.heap c)(G:c.cel=J2)(H:Kb w 4096):
  QH prog 10 [c.val] w λr w'=>Step [] w w'∧∃ev f1 f2 vw vs tg,r=.tuple #[.agg #[.bool true,.int .i64 ev,.int .i64 f1,.int .i64 f2,.bool true,vw,vs,.int .i64 tg],.int .i64 0]∧ZM [vw,vs]∧(∃s,QJ [] w'.heap vs [s])∧1<tg:=by
 refine(Qem hC H).mono ?_;rintro r w' ⟨hs,us,rfl,_,V,I⟩;rw[G,Qoy]at *;obtain⟨vw,vs,rfl,J,E⟩:=I O;rw[Qoz,QoA]at *;have hl:=Ql6;obtain⟨s,U⟩:∃s,(VM J2).sts=[s]:=by
  match (VM J2).sts,hl with
  | [s],_=>exact⟨s,O⟩
 rw[U]at E;exact⟨hs,_,_,_,vw,vs,_,O,⟨QQ J,QQ E,Z⟩,⟨s,Qt.ints E (by simp) (by simp)⟩,of_decide_eq_true Ql5⟩
theorem Qjg {w:World}{c:CL}{v:Value}(hC:ZQ [] w.heap c)(E:c.cel=J2)(G:QJ [] w.heap v [0,1])(H:Kb w 4096):
  QH prog 16 [c.val,v] w λr w'=>Step [] w w'∧∃v',r=.tuple #[v',.int .i64 0]∧QJ [] w'.heap v' [2]:=by
 refine(Uy hC G H).mono ?_;rintro r w' ⟨hs,v',rfl,_,I⟩;rw[E,Ql8]at *;have h1:=I O;rw[Ql7]at h1;exact⟨hs,v',O,Qt.ints h1 (by simp) (by simp)⟩
theorem Qjf {w:World}{c:CL}{v:Value}(hC:ZQ [] w.heap c)(E:c.cel=J2)(G:QJ [] w.heap v [0,1])(H:Kb w 4096):
  QH prog 17 [c.val,v,.int .i64 0] w λr w'=>Step [] w w'∧∃v',r=.tuple #[v',.int .i64 0]∧QJ [] w'.heap v' [0]:=by
 refine(V8 hC G 0 H).mono ?_;rintro r w' ⟨hs,v',rfl,_,I⟩;rw[E,Qma]at *;have h1:=I O;rw[Ql9]at h1;exact⟨hs,v',O,Qt.ints h1 (by simp) (by simp)⟩
theorem Qjh {w:World}{c:CL}(hC:ZQ [] w.heap c)(E:c.cel=J2)(G:Kb w 4096):
  QH prog 11 [c.val,.bool false] w λr w'=>Step [] w w'∧∃v,r=.tuple #[v,.bool true,.int .i64 0]:=by
 refine(Qel hC G).mono ?_;rintro r w' ⟨hs,v,e,rfl,H⟩;rw[E,Qmc]at *;have h1:=H O;rw[Qmb]at h1;subst h1;exact⟨hs,v,O⟩
abbrev rpF (ev f1 f2:Int)(vw vs:Value)(tg:Int):LV:=[.bool true,.int .i64 ev,.int .i64 f1,.int .i64 f2,.bool true,vw,vs,.int .i64 tg]
set_option maxHeartbeats 4000000 in
theorem zz {w:World}(E:Kb w 4096):QH prog 8 [] w λr w'=>r=.bool true∧Step [] w w':=by
 refine QH.of_W func8 O ntmps8 results8 (by simp) ?_;refine Qc<|Qf<|Qc<|xl O<|xf<|(Ki w).mono ?_;rintro r1 w1 ⟨Y,⟨c1,rfl,h0,h1⟩⟩;refine xl rfl<|xf<|(Qji (h1 [] (by simp)) h0 (E.ext Y)).mono ?_;rintro r2 w2 ⟨h2,ev,f1,f2,vw,vs,tg,rfl,ho,⟨s,h3⟩,h4⟩
 refine Qb<|x (Qj O O)<|x (Qj O O)<|xl O<|Qu (us:=rp0) O λb1 w3 h5 h6 h7=>xl O<|Qn (us:=rpF ev f1 f2 vw vs tg) h7 O O O O ⟨O,O,O,O,O,ho.1,ho.2.1,O,Z⟩ λw4 h8 h9 =>
  Qf ?_
 have ha:Step [] w2 w4:=h5.then1 h8 h6;have hb:=(Y.trans h2).trans ha;refine Qc<|xl O<|xf<|(Ki w4).mono ?_;rintro r5 w5 ⟨hc,⟨c5,rfl,hA,hB⟩⟩
 refine xl rfl<|QG (us:=[[.int .i64 0],[.int .i64 1]]) O O (by decide) (by simp) ⟨rfl,rfl,rfl,rfl,Z⟩ λhV w6 I hW hC=>xl rfl<|xf<|(Qjg ((hB [] (by simp)).ext I) hA (hC.arr (by simp) (n:=2) (cap:=2) (sz:=1) rfl (by omega) (Lu _)) (((E.ext hb).ext hc).ext I)).mono ?_;rintro r7 w7 ⟨hD,v3,rfl,hE⟩;refine Qb<|x (Qj O O)<|x (Qj O O)<|x Qe<|Qf ?_
 have he:=(hc.trans I).trans hD;have hf:=hb.trans he;refine Qc<|xl O<|xf<|(Ki w7).mono ?_;rintro r8 w8 ⟨hg,⟨c8,rfl,hF,hG⟩⟩
 refine xl rfl<|QG (us:=[[.int .i64 0],[.int .i64 1]]) O O (by decide) (by simp) ⟨rfl,rfl,rfl,rfl,Z⟩ λhX w9 J hY hH=>xl rfl<|xf<|(Qjf ((hG [] (by simp)).ext J) hF (hH.arr (by simp) (n:=2) (cap:=2) (sz:=1) rfl (by omega) (Lu _)) (((E.ext hf).ext hg).ext J)).mono ?_;rintro hZ hI ⟨hJ,v5,rfl,hK⟩;refine Qb<|x (Qj O O)<|x (Qj O O)<|x Qe<|Qf ?_
 have U:=(hg.trans J).trans hJ;have hh:=hf.trans U;refine Qc<|xl O<|xf<|(Ki hI).mono ?_;rintro ga gb ⟨hi,⟨gc,rfl,hL,hM⟩⟩;refine xl rfl<|xf<|(Qjh (hM [] (by simp)) hL ((E.ext hh).ext hi)).mono ?_;rintro ge hj ⟨hN,v7,rfl⟩;refine Qb<|x (Qj O O)<|x (Qj O O)<|x (Qj O O)<|x Qe<|x Qe<|Qf ?_;have G:=hi.trans hN;have hO:=hh.trans G
 have hk:=(he.trans U).trans G;have H:=h9.ext hk;have hP:QJ [] hj.heap vs [s]:=(h3.ext ha).ext hk;have hl:=(hE.ext U).ext G;have hm:=hK.ext G;refine QX (α:=Unit) [(0,0),(33,88)] (λz=>[(0,.bool true)]) (λz w'=>Step [] hj w') (by rfl) ?_ ?_
 ·refine Qw<|Qb<|xb (Zr O O) (λhn=>?_) (λhn=>absurd O hn);refine Qb<|x (Qa O)<|x (Qd (u:=.bool true) H O O)<|x (Qp O)<|Qb<|x (Qa O)<|x (Qd (u:=.bool true) H O O)<|x (Qp O)<|Qb<|x (Qa O)<|x (Qd H O O)<|x (Qr hP O)<|xb (Zr O O) (λhp=>?_) (λhp=>absurd O hp);refine x (Qp O)<|Qb<|x (Qa O)<|x (Qd H O O)<|xb (ZR O O) (λhq=>?_) (λhq=>absurd h4 hq)
  refine x (Qp O)<|Qb<|Qb<|xb (Zr O O) (λhr=>?_) (λhr=>absurd O hr);refine x (Qp O)<|Qb<|Qb<|xl O<|QG (us:=[[.int .i64 2]]) O O (by decide) (by simp) ⟨rfl,rfl,Z⟩ λgg gh hs gi hQ=>xl rfl<|xf<|(y7 (hl.ext hs) (QaI (L:=[]) hQ (by simp))).mono ?_;rintro gj gk ⟨rfl,hR⟩;have V:=hs.trans hR
  refine x (Qp O)<|Qb<|Qb<|x (Qr (hl.ext V) O)<|xb (Zr O O) (λht=>?_) (λht=>absurd O ht);refine x (Qp O)<|Qb<|Qb<|xb (Zr O O) (λhu=>?_) (λhu=>absurd O hu);refine x (Qp O)<|Qb<|Qb<|xl O<|QG (us:=[[.int .i64 0]]) O O (by decide) (by simp) ⟨rfl,rfl,Z⟩ λgl gm hv gn hS=>xl rfl<|xf<|(y7 ((hm.ext V).ext hv) (QaI (L:=[]) hS (by simp))).mono ?_;rintro gq gr ⟨rfl,hT⟩
  have hw:=(V.trans hv).trans hT;refine x (Qp O)<|Qb<|Qb<|x (Qr (hm.ext hw) O)<|xb (Zr O O) (λhy=>?_) (λhy=>absurd O hy);refine x (Qp O)<|Qb<|Qb<|xb (Zr O O) (λhz=>?_) (λhz=>absurd O hz);refine x (Qp O)<|Qb<|Qb<|x (Qp O)<|Qf ?_;exact⟨(),La,hw⟩
 rintro z g gs hU;exact Ql ⟨[.bool true],La,O,hO.trans hU⟩
theorem Qay {L:LN}{w:World}{v:Value}{ps:List AV}(h:YX L w.heap v ps)(hck:X9 (ps.map (·.a))=0):
  QH prog 15 [v] w λr w'=>Step [] w w'∧∃u,r=.tuple #[u,.int .i64 0]∧Qt 3 w.heap.size w' u (evs (ps.map (·.a))):=by
 obtain⟨hl,G⟩:=Ur hck;rw[Lh]at hl;refine QH.of_W func15 O ntmps15 results15 (by simp) ?_;refine Qc<|x Qe<|Qf<|Qg<|Qc<|Qb<|xl O<|xf<|(UI h).mono ?_;rintro J U ⟨rfl,E⟩;rw[hck];refine Qf<|Qc<|Qb<|x (JM O O O)<|xe<|Z4 rfl<|Qi<|Qc<|Qb<|xl O<|xf<|(UQ (h.ext E) hl λp hp=>(G _ (LP hp)).al_le).mono ?_;rintro r2 V ⟨H,I⟩;refine x Qe<|Qf ?_
 exact Ql ⟨[_,_],⟨O,O,Z⟩,E.trans H,_,O,Zd I E.size⟩
theorem QgW {a:QD}(E:QO a){most:Nat}{l:List (LI)}(h:QgX a most=some l):∀u∈l,a.st≠0∧0≤rn a 0 u:=by
 have H:=E.st0;unfold QgX at h;split at h
 ·cases h;intro u hu;cases hu
 rename_i G;obtain⟨R,hR,rfl⟩:=L4.1 h;intro u hu;obtain⟨e,he,rfl⟩:=Lq.1 hu;have h1:=(QgV E (by omega) hR).rx e he;exact⟨G,by rw[←h1.1];exact h1.2.1⟩
theorem Qf4 {o:Option (List (LI))}{r:Value}{H:Array Obj}(h:Qj6 o r H):∃v e ps,r=.tuple #[v,.int .i64 e]∧(e=0∨e=3)∧XQ [] H v ps∧∀p∈ps,∃l,o=some l∧p.2∈l:=by
 rcases h with⟨_,rfl⟩|⟨l,v,ps,h1,rfl,h2,h3⟩
 ·exact⟨_,3,[],O,.inr O,⟨Zy.nil _ _ _,by simp⟩,by simp⟩
 exact⟨v,0,ps,O,.inl O,h2,λp hp=>⟨l,h1,by rw[←h3];exact LP hp⟩⟩
set_option maxRecDepth 100000 in
set_option maxHeartbeats 8000000 in
theorem yO {w:World}{l:LwV}(hl:LwA w l)(ho:Kb w 4096):
  QH prog 4 [.agg (Kg l).toArray] w λr w'=>r=.bool true∧Step [] w w':=by
 have gj:=QpO hl.n;refine QH.of_W func4 O ntmps4 results4 (by simp) ?_;refine Qc<|xl O<|QR (us:=Kg l) O λb1 w1 hF kx hG=>Qf<|Qg<|QX (α:=Bool) [(19,26)] (λz=>[(26,.bool z)]) (λz w'=>Step [] w1 w'∧(z=false→l.n≤3)) (by rfl) ?_ ?_
 ·refine Qw<|xl O<|xf<|(zz (ho.ext hF)).mono ?_;rintro r2 w2 ⟨rfl,H⟩;refine x (Zt O)<|Qb<|x (Qa O)<|x (Qd (hG.ext H) O gj)<|x (QhQ O)<|x (ZR O O)<|x (Qp O)<|xe<|⟨decide ((3:Int)<(l.n:Int)),La,H,λh=>?_⟩;have:=of_decide_eq_false h;omega
 rintro z g w2 ⟨H,hz⟩;have he:=hF.trans H;refine QZ rfl (λhH=>?_) (λhH=>?_)
 ·refine Qc<|xl O<|xf<|(zz (ho.ext he)).mono ?_;rintro r3 w3 ⟨rfl,hr⟩;refine Qf ?_;exact Ql ⟨[_],La,O,he.trans hr⟩
 refine Qi<|Exists.elim (hl.ln he (hz hH)) λrs gk=>?_;refine Qc<|x (Qo (hG.ext H) O (Qiz (l:=l.ln rs) hl.n))<|xl O<|xf<|(QdH gk).mono ?_;rintro r3 w3 ⟨hr,_,⟨c,rfl,rfl,hC⟩,G⟩;have hI:=hC [] (by simp);refine xl rfl<|Qu (us:=Xf) O λb3 w4 gl gm gn=>xl O<|Qn (us:=c.cells) gn O O O O hI.ones λw5 gq hs=>xe ?_;have hJ:Step [] w3 w5:=gl.then1 gq gm
 have ht:=(he.trans hr).trans hJ;have hu:=hI.ext hJ;have hv:=ho.ext ht;have E:=G.tg;have hw:=G.su;have hsp:Xa c.cel=0:=by obtain⟨_,_,_,_,_,_,e⟩:=Vl G.d25;exact e
 have hy:=qR hw;have h0:=(XY E).1;have hK:=XC h0;have kz:(ZA c.cel).length≤12:=by
  have h2:=(XY E).2;unfold XB at h2;split at h2
  ·rename_i h4;exact absurd h2 h4
  rename_i h4;exact(Ur (Ln.1 h4)).1
 refine Qc<|x (Qo hs O O)<|xl O<|xf<|(JR hu hv).mono ?_;rintro r8 w8 ⟨gr,sa,sm,se,rfl,h5,_,gs⟩;rw[if_pos hsp,hw];have gt:=gs hw [] (by simp);refine Qb<|x (Qj O O)<|x (Qj O O)<|xl O<|Qu (us:=Qif) O λb4 w9 gu gv gx=>xl O<|Qn (us:=[sa,.int .i64 (J7 c.cel).st,sm,se]) gx O O O O ⟨h5.1,O,h5.2.1,h5.2.2.1,Z⟩ λgy gz g0 =>
  Qf ?_
 have hL:Step [] w8 gy:=gu.then1 gz gv;have g1:=gr.trans hL;refine Qg<|Qc<|Qb<|x (JM O O O)<|xe<|Z4 rfl<|Qi<|Qc<|x (Qo g0 O O)<|xl O<|xf<|(Qj5 (gt.ext hL) ((Zs _).2 hy) hy 3 (by decide)).mono ?_;rintro k0 k4 ⟨g2,g3⟩;obtain⟨v6,e7,ps,rfl,hN,g4,g5⟩:=Qf4 g3;refine Qb<|x (Qj O O)<|x (Qj O O)<|x Qe<|Qf ?_;have hf:=g1.trans g2
 have g6:∀p∈ps,gens (Xc c.cel) p.2=true:=λp hp=>by
  obtain⟨L,h1,h2⟩:=g5 p hp;obtain⟨h3,h4⟩:=QgW hy h1 _ h2;exact Qnr G.d25 G.ps G.ne E h3 h4
 refine Qc<|x (Qo (hs.ext hf) O O)<|xl O<|xf<|(KZ (hu.ext hf) (hv.ext hf)).mono ?_;rintro k5 k6 ⟨g7,v8,rfl,_,g8⟩;obtain⟨_,k7,hO,g9⟩:=g8 h0;rw[h0];refine Qb<|x (Qj O O)<|x (Qj O O)<|x Qe<|Qf<|Qc<|Qb<|xl O<|xf<|(Qay (g9 [] (by simp)) (by rw[hO];unfold X9;rw[if_neg (by omega)];exact(Xi _).2 hK)).mono ?_;rintro k8 hP ⟨ka,kb,rfl,hQ⟩;rw[hO]at hQ
 have k9:=Um (ZA c.cel) λa ha=>(hK a ha).al_le;have hU:QJ [] hP.heap kb (evs (ZA c.cel)):=hQ.ints (by omega) (by simp);refine Qb<|x (Qj O O)<|x (Qj O O)<|x Qe<|Qf ?_;have hR:=g7.trans ka;have h6:=hf.trans hR;have hS:=g4.ext hR;have ma:=hS.arr.le;refine Qg<|QX (α:=Unit) [(54,63)] (λz=>[(63,.bool (decide (e7≠0)))]) (λz w'=>w'=hP) (by rfl) ?_ ?_
 ·refine Qw ?_;rcases hN with rfl|rfl
  ·refine Qb<|x (JM O O O)<|Qb<|Qb<|x (JM O O O)<|x (Qp O)<|Qb<|Qb<|x (JM O O O)<|x (Qp O)<|xe ?_;exact⟨(),La,O⟩
  refine Qb<|x (QnO O O (by decide))<|Qb<|xs O<|xs O<|x (Qp O)<|Qb<|xs O<|xs O<|x (Qp O)<|xe ?_;exact⟨(),La,O⟩
 rintro⟨⟩ g kc rfl;refine Q3 rfl (λhT=>?_) (λhT=>?_)
 ·have ke:e7=3:=hN.resolve_left hT;refine Qc<|Qb<|x (QnP O O ke)<|Qf ?_;exact Ql ⟨[.bool true],La,O,ht.trans h6⟩
 refine Qi<|Qg<|Qc<|Qf<|Qh<|Qz (α:=Nat) [(2,2),(12,14),(16,18),(66,114)] (λz=>[(12,.int .i64 z)]) (λz w'=>Step [] kc w') (λz=>ps.length - z) (by rfl) 0 La (Step.refl _ _) ?_;rintro k g kf I;have hg:=hS.ext I;refine Qg<|QX (α:=Bool) [(66,73)] (λz=>[(73,.bool z)]) (λz w'=>w'=kf∧(z=true→k<ps.length)) (by rfl) ?_ ?_
 ·refine Qw<|Qb<|Qb<|x (Qr hg.arr O)<|xb (QA O O) (λhV=>?_) (λhV=>?_)
  ·refine Qb<|Qb<|x (QA O O)<|x (Qp O)<|xe ?_;exact⟨_,La,O,λ_=>by have mc:(k:Int)<(ps.length:Int):=hV;omega⟩
  refine Qb<|xs O<|xs O<|x (Qp O)<|xe ?_;exact⟨false,La,O,λh=>by cases h⟩
 rintro z g J ⟨rfl,kg⟩;refine QZ rfl (λhW=>?_) (λhW=>?_)
 rotate_left
 ·refine Qy<|Qc<|Qf ?_;exact Ql ⟨[.bool true],La,O,(ht.trans h6).trans I⟩
 have U:k<ps.length:=kg hW;have hh:=g6 _ (Lc U);have h7:=hg.each _ (Lc U);refine Zj (ps[k]'U) λy hp=>?_;have h8:=h6.trans I;rw[hp]at hh h7;have hX:=hu.ext h8;have hY:=hv.ext h8;have hZ:=hs.ext h8;have hi:Step [] J { J with drawn:=J.drawn+1 }:=Step.drew _ _
 refine Qi<|Qg<|Qh<|Qg<|QU (Step [] J) [(0,true),(1,true),(2,true),(3,true),(4,true),(5,false),(6,true),(7,true),(8,true),(9,true),(10,true)] mixed (by rfl) (by kernel_rfl) (Step.drew _ _) ?_;refine pq (λ_ hc=>Qo (hZ.ext hc) O O)<|p (λ_=>Qk)<|p (λ_=>Qk)<|Go.Lg.pig (g:=Z7) (i:=k) O (λ_=>O) hg.arr O O U λmf ga=>?_;rw[hp]at ga
 refine pq (λ_ hc=>Qv (ga.ext hc) O)<|pk<|xf<|(Uy (hX.ext hi) (h7.ext hi) (hY.ext hi)).mono ?_;rintro mg h9 ⟨kh,ki,rfl,_,kj⟩;have gb:pmE c.cel y.2=0:=by unfold pmE;rw[if_neg (not_not_intro E),if_pos hh]
 have kk:=kj gb;rw[gb];have hk:Step [] J h9:=hi.trans kh;refine⟨hk,?_⟩;refine p (λ_=>Qk)<|p (λ_=>Qj O O)<|p (λ_=>Qj O O)<|p (λ_=>Qe)<|p (λ_=>Qe)<|pe ?_;have gc:=(XK E).2;have kn:QJ [] h9.heap ki (pmL c.cel y.2):=kk.ints (by have:=Qmn gc (flw (Xc c.cel) 0 y.2).1;show(enb _ _).length≤_;omega) (by simp);have ko:Z2 (pmL c.cel y.2):=Qfx gc _
 refine Qg<|Qc<|Qb<|x (JM O O O)<|xe<|Z4 rfl<|Qi ?_;have ge:=hU.ext (I.trans hk);refine Qc<|Qb<|x (Qr ge O)<|Qb<|xe<|Qh<|Qz (α:=Nat) [(2,2),(16,18),(89,114)] (λz=>[(89,.int .i64 z)]) (λz w'=>z≤(evs (ZA c.cel)).length∧Step [] h9 w') (λz=>(evs (ZA c.cel)).length - z) (by rfl) 0 La ⟨Ll _,Step.refl _ _⟩ ?_;rintro j g V ⟨hj,Y⟩;have kp:=ge.ext Y
 refine Qc<|x (QA O O)<|xe<|Qg<|QC O (λgg=>?_) (λgg=>?_)
 ·refine Qy<|Qw<|Qb<|QP O O<|Qf ?_;exact⟨k+1,by omega,La,(I.trans hk).trans Y⟩
 have hm:j<(evs (ZA c.cel)).length:=by have hA:(j:Int)<((evs (ZA c.cel)).length:Int):=gg;omega
 have gh:=Lc hm;refine Qi<|Qg<|Qh<|Qc<|xii (i:=j) kp O O hm λmh hA=>?_;refine Zj ((evs (ZA c.cel))[j]'hm) λq hq=>?_;rw[hq]at hA gh;refine x (Qv hA O)<|Qf ?_;have hB:=Qnq E hh gh;have kq:mrE c.cel y.2 q=0:=by unfold mrE;rw[if_neg (not_not_intro E),if_pos hh];exact hB.1
 have hb:=hk.trans Y;have hn:Step [] V { V with drawn:=V.drawn+1 }:=Step.drew _ _
 refine Qg<|QU (Step [] V) [(0,true),(1,true),(2,true),(3,true),(4,true),(5,true),(6,false),(7,true),(8,true),(9,true),(10,true),(11,true)] mixed (by rfl) (by kernel_rfl) (Step.drew _ _) ?_;refine pq (λ_ hc=>Qo ((hZ.ext hb).ext hc) O O)<|p (λ_=>Qk)<|p (λ_=>Qk)<|Go.Lg.pig (g:=Z7) (i:=k) O (λ_=>O) (hg.ext hb).arr O O U λmj gi=>?_;rw[hp]at gi
 refine pq (λ_ hc=>Qv (gi.ext hc) O)<|p (λ_=>Qk)<|pk<|xf ?_;have hM:=V8 (vw:=y.1) (u:=y.2) ((hX.ext hb).ext hn) ((h7.ext hb).ext hn) q ((hY.ext hb).ext hn);rw[kq]at hM;refine QH.mono (show QH _ _ _ _ _ from hM) ?_;rintro mo hD ⟨kr,kt,rfl,_,ku⟩;have kv:=ku O;have hE:Step [] V hD:=hn.trans kr;refine⟨hE,?_⟩
 refine p (λ_=>Qk)<|p (λ_=>Qj O O)<|p (λ_=>Qj O O)<|p (λ_=>Qe)<|p (λ_=>Qe)<|pe ?_;have kw:QJ [] hD.heap kt (mrL c.cel y.2 q):=kv.ints (by have:=QeL (ZA c.cel) (mrT c.cel y.2) q (ZA c.cel).length;show(rfN _ _ _ _).length≤_;omega) (by simp);refine QX (α:=Bool) [(103,113)] (λz=>[(113,.bool z)]) (λz w'=>z=false∧w'=hD) (by rfl) ?_ ?_
 ·refine Qw<|Qb<|x (JM O O O)<|Qb<|Qb<|x (Qr kw O)<|x (Zr O O)<|Qb<|Qb<|xl O<|xf<|(Yw (kn.ext (Y.trans hE)) ko q).mono ?_;rintro mq ms ⟨rfl,rfl⟩;refine x (zh O O)<|x (Qp O)<|xe<|⟨_,La,?_,O⟩;have e:decide (((mrL c.cel y.2 q).length:Int)=0)=decide (q∈pmL c.cel y.2):=decide_eq_decide.2 ⟨λh=>hB.2.1 (by omega),λh=>by have:=hB.2.2 h;omega⟩
  show(!(decide (((mrL c.cel y.2 q).length:Int)=0) == decide (q∈pmL c.cel y.2)))=false;rw[e];simp
 rintro z g mt ⟨rfl,rfl⟩;refine Z4 rfl<|Qi<|Qw<|QP O O<|Qb<|xe ?_;exact⟨j+1,by omega,La,hm,Y.trans hE⟩
open Go.RowKit
theorem Y6 {a b:Bool}(h1:a=true)(h2:b=true):(a && b)=true:=by rw[h1,h2];rfl
theorem QaM {P:Program}{f:FuncId}{fn:Func}{s:ChangeSpec}{c:OpenClaim}(h1:(c.wf (OpenSpec.ofChange s))=true)(h2:(laidOutB P)=true)(h3:(mapsRowed P)=true)(h4:(fn.params.all (P.readableRec ·))=true)(h5:(namedTie P c.named s.vars)=true)(h6:((c.stops == []))=true)(E:((P.stops == []))=true)(G:((c.knobs == []))=true)(h9:((P.stopKnobs == []))=true)(H:((c.inPlace == P.inPlace f))=true)(I:((c.unfollowed == P.unfollowed f))=true)(J:((c.recurses == P.recurses f))=true)(U:((c.named == P.varsNamed f))=true)(V:((c.maps == (fn.params.toList++s.plain.varTypes P).any (P.mapsRec ·)))=true)(Y:((c.ifaces == (fn.params.toList++s.plain.varTypes P).any (P.ifacesRec ·)))=true)(ha:((c.mapsOut == P.mapsAmong fn.resultTypes.toList))=true)(hb:((c.loops == (fn.params.toList++s.plain.varTypes P).any (P.loopsFrom ·)))=true)(hc:((c.wideKeys == (fn.params.toList++s.plain.varTypes P++fn.resultTypes.toList).any (P.wideKeysFrom ·)))=true)(he:(s.vars.all (P.varReadable ·))=true)(hf:(fn.resultTypes.all (λt=>P.readableRec t && decide (t<P.types.size)))=true)(hg:((c.ifacesOut == fn.resultTypes.toList.any (P.ifacesRec ·)))=true)(hh:((c.loopsOut == fn.resultTypes.toList.any (P.loopsFrom ·)))=true)(hi:((c.plainKeys == P.plainKeys))=true)(hj:(c.shortTexts.isNone)=true)(hk:(P.stopsHeard)=true)(hl:(P.mayEnter)=true)(hm:((c.lifted == P.liftsFinal))=true)(hn:((P.make == some c.make))=true)(ho:((c.kinds == (if c.domain.isEmpty then[]else fn.params.toList.map λt=>match P.underlying t with|some (.int k)=>some k|_=>none)))=true)(hp:((c.pinned == c.pinnedBy))=true)(hq:((c.veiled == (fn.params.toList++s.plain.varTypes P++fn.resultTypes.toList).any (P.veiledRec ·)))=true)(hr:(c.veiledFits P fn.params.toList (fn.params.toList++s.plain.varTypes P++fn.resultTypes.toList))=true):joinedFacts P f fn s c=true:=by
 unfold joinedFacts;exact(Y6 (Y6 (Y6 (Y6 (Y6 (Y6 (Y6 (Y6 (Y6 (Y6 (Y6 (Y6 (Y6 (Y6 (Y6 (Y6 (Y6 (Y6 (Y6 (Y6 (Y6 (Y6 (Y6 (Y6 (Y6 (Y6 (Y6 (Y6 (Y6 (Y6 (Y6 h1 h2) h3) h4) h5) h6) E) G) h9) H) I) J) U) V) Y) ha) hb) hc) he) hf) hg) hh) hi) hj) hk) hl) hm) hn) ho) hp) hq) hr)
theorem zB:laidOutB prog=true:=by kernel_rfl
theorem QiM:mapsRowed prog=true:=by kernel_rfl
theorem QiO:prog.stopsHeard=true:=by kernel_rfl
theorem QiP:prog.mayEnter=true:=by kernel_rfl
theorem QiN:(false == prog.liftsFinal)=true:=by kernel_rfl
theorem QlL:(prog.make == some Make.cut)=true:=by kernel_rfl
theorem QlP:(Rows.modularWholeRow.inPlace == prog.inPlace 4)=true:=by kernel_rfl
theorem QlO:(Rows.modularWholeRow.unfollowed == prog.unfollowed 4)=true:=by kernel_rfl
theorem QlN:(Rows.modularWholeRow.recurses == prog.recurses 4)=true:=by kernel_rfl
theorem QlM:(Rows.modularWholeRow.named == prog.varsNamed 4)=true:=by kernel_rfl
theorem Qoc:Rows.modularWholeRow.wfByText (OpenSpec.ofChange Rows.modularWholeSpec)=true:=by kernel_rfl
theorem Qof:Tryz.pinned.checked.prog.mainIs=some (true, "0087da35e19dff2b1c72cbf1a82bebf57530b191c9b8d180c93c2df9ec22b342".toList):=by kernel_rfl
theorem Qoe:prog.funcNamed "overseer/overseerlaw34.ModularWhole" = some 4:=by kernel_rfl
theorem Qog:false=prog.looks []:=by kernel_rfl
theorem Qod:([30].all λu=>!prog.wantsStandIn u)=true:=by kernel_rfl
theorem Qoh:false=Rows.modularWholeRow.goesBy Tryz.pinned.checked.prog:=by kernel_rfl
end Go.Proofs.YtjcgijbhaemldaaGreatDoor
