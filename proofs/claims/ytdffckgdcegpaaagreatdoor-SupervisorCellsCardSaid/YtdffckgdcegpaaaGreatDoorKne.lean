/- Merged out of 39 texts. -/
import Derived.Test.YtdffckgdcegpaaaGreatDoorKnd
import Derived.ChangeSame
import Derived.Carry
import Derived.OpenShut
import Derived.RowKit
import Derived.ChangeSlices
import Derived.WideShapes
import Derived.ProofKit
import Derived.ChangeArms
import Derived.Lib.LaidTab
import Derived.Stop.LaidErr
import Derived.MakeChecks
namespace Go.Proofs
open Go.Proofs.Tryz
open Go.Shelf
def Tryz.sortRm_ren:Go.Shelf.Ren:=⟨λ| 6=>215 | 15=>176 | 14=>266 | 28=>229 | 29=>230 | 20=>288 | 21=>289 | 22=>290 | 23=>291 | 24=>292 | 25=>293 | 26=>294 | 27=>295 | 46=>313 | 47=>268 | 48=>269 | 49=>314 | 50=>315 | 57=>322 | n=>n,λ| 22=>166 | 24=>320 | 25=>326 | 3=>3 | 39=>269 | 0=>0 | 53=>338 | 55=>340 | 4=>4 | 46=>332 | 45=>331 | 50=>178 | 5=>5 | 9=>9 | 66=>372 | 70=>376 | 76=>401 | 77=>381 | n=>n,λ| n=>n⟩
theorem Tryz.sortRm:Go.Proofs.SlLaysF0.n6 prog Tryz.sortRm_ren:={
 mixed:=by kernel_rfl
 f6:=⟨Tryz.f215.name,by decide,func215.trans (congrArg some (by kernel_rfl))⟩
 f14:=⟨Tryz.f266.name,by decide,func266.trans (congrArg some (by kernel_rfl))⟩
 f15:=func176.trans (congrArg some (by kernel_rfl))
 f20:=⟨Tryz.f288.name,by decide,func288.trans (congrArg some (by kernel_rfl))⟩
 f21:=⟨Tryz.f289.name,by decide,func289.trans (congrArg some (by kernel_rfl))⟩
 f22:=⟨Tryz.f290.name,by decide,func290.trans (congrArg some (by kernel_rfl))⟩
 f23:=⟨Tryz.f291.name,by decide,func291.trans (congrArg some (by kernel_rfl))⟩
 f24:=⟨Tryz.f292.name,by decide,func292.trans (congrArg some (by kernel_rfl))⟩
 f25:=⟨Tryz.f293.name,by decide,func293.trans (congrArg some (by kernel_rfl))⟩
 f26:=⟨Tryz.f294.name,by decide,func294.trans (congrArg some (by kernel_rfl))⟩
 f27:=⟨Tryz.f295.name,by decide,func295.trans (congrArg some (by kernel_rfl))⟩
 f28:=func229.trans (congrArg some (by kernel_rfl))
 f29:=func230.trans (congrArg some (by kernel_rfl))
 f46:=⟨Tryz.f313.name,by decide,func313.trans (congrArg some (by kernel_rfl))⟩
 f47:=func268.trans (congrArg some (by kernel_rfl))
 f48:=func269.trans (congrArg some (by kernel_rfl))
 f49:=⟨Tryz.f314.name,by decide,func314.trans (congrArg some (by kernel_rfl))⟩
 f50:=⟨Tryz.f315.name,by decide,func315.trans (congrArg some (by kernel_rfl))⟩
 f57:=⟨Tryz.f322.name,by decide,func322.trans (congrArg some (by kernel_rfl))⟩
 t0:=underlying0
 a0:=Tryz.isAgg0
 z0:=Tryz.sizeOf0
 v0:=Tryz.zeroValue0
 t3:=underlying3
 a3:=Tryz.isAgg3
 z3:=Tryz.sizeOf3
 v3:=Tryz.zeroValue3
 t4:=underlying4
 a4:=Tryz.isAgg4
 z4:=Tryz.sizeOf4
 v4:=Tryz.zeroValue4
 t5:=underlying5
 a5:=Tryz.isAgg5
 z5:=Tryz.sizeOf5
 v5:=Tryz.zeroValue5
 t9:=underlying9
 a9:=Tryz.isAgg9
 z9:=Tryz.sizeOf9
 v9:=Tryz.zeroValue9
 t22:=underlying166
 a22:=Tryz.isAgg166
 z22:=Tryz.sizeOf166
 v22:=Tryz.zeroValue166
 t25:=underlying326
 a25:=Tryz.isAgg326
 z25:=Tryz.sizeOf326
 v25:=Tryz.zeroValue326
 t39:=underlying269
 a39:=Tryz.isAgg269
 z39:=Tryz.sizeOf269
 v39:=Tryz.zeroValue269
 t45:=underlying331
 a45:=Tryz.isAgg331
 z45:=Tryz.sizeOf331
 v45:=Tryz.zeroValue331
 t46:=underlying332
 a46:=Tryz.isAgg332
 z46:=Tryz.sizeOf332
 v46:=Tryz.zeroValue332
 t50:=underlying178
 a50:=Tryz.isAgg178
 z50:=Tryz.sizeOf178
 v50:=Tryz.zeroValue178
 t53:=underlying338
 a53:=Tryz.isAgg338
 z53:=Tryz.sizeOf338
 v53:=Tryz.zeroValue338
 t55:=underlying340
 a55:=Tryz.isAgg340
 z55:=Tryz.sizeOf340
 v55:=Tryz.zeroValue340
 t66:=underlying372
 a66:=Tryz.isAgg372
 z66:=Tryz.sizeOf372
 v66:=Tryz.zeroValue372
 t70:=underlying376
 a70:=Tryz.isAgg376
 z70:=Tryz.sizeOf376
 v70:=Tryz.zeroValue376
 t76:=underlying401
 a76:=Tryz.isAgg401
 z76:=Tryz.sizeOf401
 v76:=Tryz.zeroValue401
 t77:=underlying381
 a77:=Tryz.isAgg381
 z77:=Tryz.sizeOf381
 v77:=Tryz.zeroValue381 }
end Go.Proofs
namespace Go.Proofs.YtdffckgdcegpaaaGreatDoor
open Go.Lg
theorem Qmt (lf:Lf) (x:Int) (z:LI×LI) (y:Int):qF lf x z y=if lft lf y=true then VW x z y else z:=by
 unfold qF VW;by_cases h:lft lf y=true <;> by_cases h2:cget z.1 y.toNat<0 <;> simp[h,h2]
structure DsI (n:Nat) (z:LI×LI):Prop where
 ok:yN n z.1 z.2
 cnt:neg z.1+z.2.length=n
 s0:QcL z.1 z.2
theorem DsI.le {n:Nat}{z:LI×LI}(h:DsI n z):z.2.length≤n:=by have:=h.cnt;omega
theorem Qio {n:Nat}{lf:Lf}{x y:Int}{z:LI×LI}(h:DsI n z) (hx:0≤x∧x<(n:Int)) (E:0≤cget z.1 x.toNat) (hy:0≤y∧y<(n:Int)) :
  DsI n (qF lf x z y)∧0≤cget (qF lf x z y).1 x.toNat:=by
 rw[Qmt];split
 ·obtain ⟨h1,h2,h3⟩:=QdJ h.ok hx E hy;exact ⟨⟨h1,by have:=h.cnt;omega,yF h.ok E hy h.s0⟩,h3⟩
 exact ⟨h,E⟩
theorem QkB (lf:Lf) (x:Int) (z:LI×LI) (y:Int):∃r,(qF lf x z y).2=z.2++r:=by
 unfold qF;split
 ·exact ⟨[y],O⟩
 exact ⟨[],by simp⟩
theorem QkA {n:Nat}{lf:Lf}{x:Int}(hx:0≤x∧x<(n:Int)):∀(l:LI) (z:LI×LI),DsI n z→0≤cget z.1 x.toNat→(∀y∈l,0≤y∧y<(n:Int)) →
  DsI n (l.foldl (qF lf x) z)∧∃r,(l.foldl (qF lf x) z).2=z.2++r
 | [],z,h,_,_=>⟨h,[],by simp⟩
 | y::l,z,h,E,hl=>by
  obtain ⟨h1,h2⟩:=Qio (lf:=lf) h hx E (hl y Lh);obtain ⟨h3,r2,h4⟩:=QkA hx l _ h1 h2 (λy hy=>hl y (Le _ hy));obtain ⟨G,h5⟩:=QkB lf x z y;exact ⟨h3,G++r2,by rw[Ls,h4,h5,LB]⟩
theorem Qin {es:List Ed}{lf:Lf}{f i:Nat}{z:LI×LI}(h:¬i<z.2.length):dsL es lf f i z=z:=by
 cases f with
 | zero=>rfl
 | succ f=>rw[dsL,if_neg h]
theorem Qff {n:Nat}{l:LI}{x:Int}(E:0≤x):(Vr n l).set x.toNat 0=Vr n (l++[x]):=by
 apply L9
 ·simp[Vr]
 intro i h2 h3;rw[M0];by_cases e:x.toNat=i
 ·have:(i:Int)=x:=by omega
  rw[if_pos e];simp[Vr,this]
 have:(i:Int)≠x:=by omega
 rw[if_neg e];simp[Vr,this]
theorem Qce {a:QE}{lf:Lf}(hm:∀x∈a.mr,0≤x) (k:Nat):(a.mr.take k).foldl (ds1 lf) (List.replicate a.st.toNat (-1),[])=(Vr a.st.toNat ((a.mr.take k).filter (lft lf)),(a.mr.take k).filter (lft lf)):=by
 induction k with
 | zero =>
  simp only[List.take_zero,List.foldl_nil,List.filter_nil];congr 1;apply L9
  ·simp[Vr]
  intro i h1 h2;simp[Vr]
 | succ k ih =>
  by_cases hk:k<a.mr.length
  ·rw[Ll hk,LW,ih,Me];simp only[List.foldl_cons,List.foldl_nil,ds1];by_cases hl:lft lf (a.mr[k]'hk)=true
   ·rw[if_pos hl,Qff (hm _ (Lj hk))];simp[hl]
   rw[if_neg hl];simp[hl]
  have e:a.mr.take (k+1)=a.mr.take k:=by rw[Lq (by omega),Lq (by omega)]
  rw[e];exact ih
theorem Qdz {a:QE}{lf:Lf}(hm:∀x∈a.mr,0≤x):ds0 a lf=(Vr a.st.toNat (a.mr.filter (lft lf)),a.mr.filter (lft lf)):=by
 have:=Qce (lf:=lf) hm a.mr.length;rw[List.take_length] at this;exact this
theorem QjT {n:Nat}(l:LI) (E:l.Nodup) (hb:∀x∈l,0≤x∧x<(n:Int)):neg (Vr n l)+l.length=n:=by
 have key:∀k,k≤l.length→neg (Vr n (l.take k))+k=n:=by
  intro k;induction k with
  | zero =>
   intro _;have e:Vr n (l.take 0)=List.replicate n (-1):=by
    apply L9
    ·simp[Vr]
    intro i h1 h2;simp[Vr]
   rw[e];unfold neg;simp
  | succ k ih =>
   intro hk;have h1:=ih (by omega);have hx:=hb _ (Lj (show k<l.length by omega));rw[Ll (show k<l.length by omega),←Qff hx.1];have G:(l[k]'(by omega)).toNat<(Vr n (l.take k)).length:=by rw[Xn];omega
   have S:=V7 (Vr n (l.take k)) (l[k]'(by omega)).toNat 0 G (by
    have e:(((l[k]'(by omega)).toNat:Nat):Int)=l[k]'(by omega):=by omega
    have H:(l[k]'(by omega))∉l.take k:=λh=>by
     obtain ⟨j,hj,he⟩:=LO h;rw[List.getElem_take] at he;have J:j<k:=by simp at hj;omega
     have:=(Nv.1 E) j k (by omega) (by omega) J;exact this he
    simp[Vr,e,H]) (Ni _)
   omega
 have:=key l.length (Lv _)
 rwa [List.take_length] at this
theorem Qmu {a:QE}{lf:Lf}{n:Nat}(E:QK a) (G:a.st=(n:Int)):DsI n (ds0 a lf):=by
 have hb:∀x∈a.mr.filter (lft lf),0≤x∧x<(n:Int):=λx hx=>by rw[←G];exact E.mr x (LH.1 hx).1
 have e:a.st.toNat=n:=by omega
 rw[Qdz (λx hx=>(E.mr x hx).1),e];refine ⟨QdK hb,QjT _ ((E.mri.imp (λh=>by omega)).filter _) hb,λx hx=>?_⟩;rw[q7 (hb x hx) hx];exact Ni _
def VA (l:Lf):Nat:=l.countP (· == true)
theorem Qe2 (l:Lf):VA l≤l.length:=List.countP_le_length
theorem QeY (l:Lf) (s:Int):(cut l s).length=l.length:=by simp[cut]
theorem Uo:∀(xs:LI) (l:Lf),(xs.foldl cut l).length=l.length
 | [],_=>rfl
 | x::xs,l=>by rw[Ls,Uo xs,QeY]
theorem Qe0:∀(l:Lf) (i:Nat),VA (l.set i false)+(if l.getD i false=true then 1 else 0)=VA l
 | [],i=>by simp[VA]
 | b::l,0=>by cases b <;> simp[VA]
 | b::l,i+1=>by
  have ih:=Qe0 l i;unfold VA at *;simp only[List.set_cons_succ,List.countP_cons,List.getD_cons_succ];omega
theorem Qe1 (l:Lf) (s:Int):VA (cut l s)+(if lft l s=true then 1 else 0)=VA l:=Qe0 l s.toNat
theorem Qcj:∀(xs:LI) (l:Lf),VA (xs.foldl cut l)≤VA l
 | [],_=>Lv _
 | x::xs,l=>by
  have h1:=Qcj xs (cut l x);have h2:=Qe1 l x;rw[Ls];omega
theorem Qiu {xs:LI}{l:Lf}(h:0<xs.length) (E:∀x∈xs,lft l x=true):VA (xs.foldl cut l)<VA l:=by
 cases xs with
 | nil=>simp at h
 | cons x xs =>
  have h1:=Qcj xs (cut l x);have h2:=Qe1 l x;rw[if_pos (E x Lh)] at h2;rw[Ls];omega
def Qi7 (a:QE) (lf:Lf) (out:List (Int×Int)):Prop:=∀p∈out,lft lf p.1=true∧∃e∈a.ed,e.1=p.1∧e.2.1=p.2
theorem Qj4 {a:QE}{ul:LI}{lf:Lf}{out:List (Int×Int)}{e:Ed}(h:Qi7 a lf out) (he:e∈a.ed):Qi7 a lf (Jv ul lf out e)∧(Jv ul lf out e).length≤out.length+1:=by
 unfold Jv;split
 ·exact ⟨h,by omega⟩
 rename_i hc;split
 ·exact ⟨h,by omega⟩
 refine ⟨λp hp=>?_,by simp⟩;simp only[List.mem_append,List.mem_singleton] at hp;rcases hp with hp | rfl
 ·exact h p hp
 exact ⟨by cases hl:lft lf e.1 with | true=>rfl | false=>exact absurd (.inl hl) hc,e,he,rfl,rfl⟩
theorem zM {a:QE}{ul:LI}{lf:Lf}:∀(l:List Ed) (out:List (Int×Int)),(∀e∈l,e∈a.ed)→Qi7 a lf out→Qi7 a lf (l.foldl (Jv ul lf) out)∧(l.foldl (Jv ul lf) out).length≤out.length+l.length
 | [],out,_,h=>⟨h,by simp⟩
 | e::l,out,hl,h=>by
  obtain ⟨h1,h2⟩:=Qj4 (ul:=ul) h (hl e Lh);obtain ⟨h3,h4⟩:=zM l _ (λe he=>hl e (Le _ he)) h1;exact ⟨h3,by rw[Ls,LP];omega⟩
theorem QaA (a:QE) (ul:LI) (lf:Lf):Qi7 a lf (lost a ul lf)∧(lost a ul lf).length≤a.ed.length:=by
 have:=zM (ul:=ul) (lf:=lf) a.ed [] (λ_ h=>h) (λp hp=>by cases hp);unfold lost;simpa using this
theorem Uw (lf:Lf):∀(l:LI) (i:Nat),(∀x∈Kv lf i l,lft lf x=true∧(i:Int)≤x∧x<(i:Int)+l.length)∧(Kv lf i l).length≤l.length
 | [],i=>⟨λx hx=>(by cases hx),Lv _⟩
 | d::l,i=>by
  obtain ⟨h1,h2⟩:=Uw lf l (i+1);unfold Kv;split
  ·rename_i hc;refine ⟨λx hx=>?_,by simp;omega⟩;rcases Li.1 hx with rfl | hx
   ·exact ⟨by unfold lft;simpa using hc.1,Ni _,by simp;omega⟩
   have:=h1 x hx;exact ⟨this.1,by omega,by simp only[List.length_cons];omega⟩
  refine ⟨λx hx=>?_,by simp;omega⟩;have:=h1 x hx;exact ⟨this.1,by omega,by simp only[List.length_cons];omega⟩
theorem Qhl {a:QE}{ul:LI}{lf:Lf}(x:Int) (hx:x∈nxs a ul lf):lft lf x=true:=by
 unfold nxs at hx;split at hx
 ·obtain ⟨p,hp,rfl⟩:=Lz.1 hx;exact ((QaA a ul lf).1 p hp).1
 exact ((Uw lf (dsts a lf) 0).1 x hx).1
theorem Qfz {a:QE}{ul:LI}{f:Nat}{lf:Lf}(h:(nxs a ul lf).length=0):V3 a ul f lf=lf:=by
 cases f with
 | zero=>rfl
 | succ f=>rw[V3,if_pos h]
theorem js {a:QE}{ul:LI}{f:Nat}{lf:Lf}(h:(nxs a ul lf).length≠0):V3 a ul (f+1) lf=V3 a ul f ((nxs a ul lf).foldl cut lf):=by rw[V3,if_neg h]
theorem QbH {a:QE}{ul:LI}{lf:Lf}(h:(nxs a ul lf).length≠0):VA ((nxs a ul lf).foldl cut lf)<VA lf:=Qiu (by omega) (λx hx=>Qhl x hx)
theorem Jf {a:QE}(h:QK a) (lf:Lf):QK (rstr a lf) :=
 ⟨h.al,h.ali,h.st0,h.st1,h.mr,h.mri,λe he=>h.ed e (LH.1 he).1,h.edi.filter _⟩
def fst (a:QE):Int:=if a.st=0 then -1 else 0
def cdA (c:Yz):QE:=qB (tgA c) [] (unc c.ev)
def ccA (c:Yz):QE:=yV [tgA c,cdA c]
def own (c:Yz) (k:Bool):QE:=if k=true then ccA c else tgA c
end Go.Proofs.YtdffckgdcegpaaaGreatDoor
namespace Go.Lg
section
variable {P:Program} {K:Fr→World→Prop} {f:Fr} {w:World} {d:Option Nat} {ty:Nat} {ps:String} {af:Array Edge} {gd:Option (Nat×Bool)}
theorem zD {t:Nat}[h1:Jk P t] {x y:Operand}{b T i:Nat}{l:List Bool}{u:Bool}(E:QX w.heap b T (l.map Value.bool)) (hx:ev f x=.pointer (some ⟨b,0+i*1,none⟩)) (hy:ev f y=.bool u) (hi:i<l.length)
  (G:∀w',Step [b] w w'→QX w'.heap b T ((l.set i u).map Value.bool)→K (Q4 f d undef) w'):XO P ⟨d,.store t x y,ty,ps,af,gd⟩ f w K:=by
 refine QH E hx hy (by simpa using hi) rfl λw' hs H=>G w' hs ?_;rw[Np];simpa using H
theorem JG {t:Nat}[Jk P t] {x:Operand}{b T i:Nat}{l:List Bool}(h:QX w.heap b T (l.map Value.bool)) (hx:ev f x=.pointer (some ⟨b,0+i*1,none⟩)) (hi:i<l.length) :
  (execOp (ev f) ⟨d,.load t x,ty,ps,af,gd⟩).run P w=.ok (.value (.bool (l[i]'hi))) w:=Qc h hx (by simp[hi])
variable {ops:List Oper} {C:World→Prop} {pl:List (Nat×Bool)} {i:Nat}
theorem pqB {b:Bool}(E:∀w',C w'→(execOp (ev f) (Q6 ops i)).run P w'=.ok (.value (.bool b)) w') (ht:b=true→XP P ops C K pl (Q4 f (Q6 ops i).dst (.bool true)) w) (H:b=false→XP P ops C K pl (Q4 f (Q6 ops i).dst (.bool false)) w)
  (hd:ju (Q6 ops i)=true:=by rfl) (G:YD ops f (Q6 ops i)=true:=by rfl):XP P ops C K ((i,true)::pl) f w:=by
 cases hb:b with
 | true=>rw[hb] at E;exact pq E (ht hb) hd G
 | false=>rw[hb] at E;exact pq E (H hb) hd G
end
end Go.Lg
namespace Go.Proofs.YtdffckgdcegpaaaGreatDoor
open Go.Proofs.Tryz
open Go.Lg
def bA (n:Nat) (g:Nat→Bool):List Bool:=(List.range n).map g
theorem QmE (n:Nat) (g:Nat→Bool):(bA n g).length=n:=by simp[bA]
theorem QmD {n i:Nat}{g E:Nat→Bool}{u:Bool}(hu:u=E i) (h:∀j,j<n→j≠i→E j=g j):(bA n g).set i u=bA n E:=by
 apply L9
 ·simp[bA]
 intro k h1 h2;rw[M0];have hk:k<n:=by simpa[bA] using h2
 by_cases e:i=k
 ·rw[if_pos e,hu,e];simp[bA]
 rw[if_neg e];have:=h k hk (λe'=>e e'.symm);simp[bA,this]
theorem Qfh (n:Nat):(List.replicate n (Value.bool false).cells.toList).flatten=(bA n (λi=>decide (i<0))).map Value.bool:=by
 apply L9
 ·simp[Value.cells,bA]
 intro i h1 h2;simp[Value.cells,bA]
theorem UR {l:Lf}{s:Int}(h:s.toNat<l.length):l[s.toNat]'h=lft l s:=by unfold lft;simp[List.getD,h]
theorem Qj7 (n:Nat) (fb:LI):(lf0 n fb).length=n:=by unfold lf0;rw[Uo];simp
instance:Bw prog 324 [nS,.int .i64 0,nS,nS,nS,.map none,nS] [(0,4),(4,1),(5,1),(6,1)]:=⟨by kernel_rfl,by decide⟩
structure Pz where
 va:Value
 vm:Value
 ve:Value
 a:QE
 vu:Value
 unc:LI
 mb:Nat
 mm:List (Int×Value)
 bl:Nat
 n:Nat
 rv:Nat→Value
abbrev Pz.cells (p:Pz):LV:=[p.va,.int .i64 p.a.st,p.vm,p.ve,p.vu,.map (some p.mb),.slice (some ⟨p.bl,0,none⟩) p.n p.n]
structure PzA (L:LN) (H:Array Obj) (bp:Nat) (p:Pz):Prop where
 B:QX H bp 324 p.cells
 bL:bp∉L
 a:Zi L H p.va p.vm p.ve p.a
 u:QO L H p.vu p.unc
 M:ZE KH H p.mb p.mm
 mL:p.mb∉L
 g:∀s,s<p.n→(match mget p.mm ((s:Nat):Int) with | some u=>u | none=>nS)=p.rv s
 R:∀s,s<p.n→QO L H (p.rv s) (ZB p.a.ed s)
theorem PzA.ext {L:LN}{w w':World}{bp:Nat}{p:Pz}(h:PzA L w.heap bp p) (hs:Step [] w w'):PzA L w'.heap bp p:=⟨h.B.ext hs,h.bL,h.a.ext hs,h.u.ext hs,h.M.ext hs,h.mL,h.g,λs E=>(h.R s E).ext hs⟩
theorem PzA.st {L:LN}{w w':World}{bp:Nat}{p:Pz}(h:PzA L w.heap bp p) (hs:Step L w w'):PzA L w'.heap bp p:=⟨h.B.step hs h.bL,h.bL,h.a.st hs,h.u.st hs,h.M.step hs h.mL,h.mL,h.g,λs E=>(h.R s E).st hs⟩
theorem PzA.up {L L':LN}{H:Array Obj}{bp:Nat}{p:Pz}(h:PzA L H bp p) (E:∀b∈L',b∈L∨H.size≤b):PzA L' H bp p :=
 ⟨h.B,λhm=>by rcases E _ hm with h1 | h1;exact h.bL h1;have:=h.B.lt;omega,h.a.up E,h.u.up E,h.M,λhm=>by rcases E _ hm with h1 | h1;exact h.mL h1;have:=h.M.lt;omega,h.g,λs G=>(h.R s G).up E⟩
structure PzQ (p:Pz):Prop where
 ok:QK p.a
 n:p.a.st=(p.n:Int)
set_option maxHeartbeats 4000000 in
theorem QgS {w:World}{va vm ve vr vu:Value}{a:QE}{rm unc:LI}{n:Nat}(h:Zi [] w.heap va vm ve a) (hA:QK a) (hn:a.st=(n:Int)) (hr:QO [] w.heap vr rm) (gr:∀x∈rm,0≤x∧x<a.st) (hu:QO [] w.heap vu unc) :
  QM prog 213 [.agg #[va,.int .i64 a.st,vm,ve],vr,vu] w λr w'=>Step [] w w'∧∃bp p,r=.pointer (some ⟨bp,0,none⟩)∧p.a=a∧p.unc=unc∧p.n=n∧w.heap.size≤p.bl∧PzA [p.bl] w'.heap bp p∧QX w'.heap p.bl 4 ((lf0 n rm).map Value.bool):=by
 have ku:=hA.st1;have gs:=hA.ed;have kv:=hA.ed_le;have kw:=hr.le;refine QM.of_W func213 O ntmps213 results213 (by simp) ?_;refine Qd<|xl O<|QS (us:=[va,.int .i64 a.st,vm,ve]) O λb3 G Z kx hy=>Qf ?_;have kz:=hy.lt;have k0:=Z.size
 refine Q0 (α:=Nat×Nat×Nat) [(7,7),(13,20)] (λz=>[(7,.pointer (some ⟨z.1,0,none⟩))]) (λz w'=>Step [] G w'∧QX w'.heap z.1 324 [va,.int .i64 a.st,vm,ve,vu,.map (some z.2.1),.slice (some ⟨z.2.2,0,none⟩) n n] ∧
  ZE KH w'.heap z.2.1 []∧QX w'.heap z.2.2 4 ((bA n (λi=>decide (i<0))).map Value.bool)∧G.heap.size≤z.1∧G.heap.size≤z.2.1∧G.heap.size≤z.2.2∧z.1≠z.2.1∧z.1≠z.2.2∧z.2.1≠z.2.2) (by rfl) ?_ ?_
 ·have ha:Step [] G { G with drawn:=G.drawn+1 }:=Step.drew _ _
  refine Qfo (Step [] G) [(0,true),(1,true),(3,true),(4,true)] 2 5 [(5,false),(6,true),(7,false),(8,true)] [(2,false),(6,true),(7,false),(8,true)] mixed (by rfl) (by kernel_rfl) (Step.drew _ _) ?_;refine pq (λ_ hc=>Qo (hy.ext hc) O O)<|p (λ_=>Ql)<|p (λ_=>Qa O)<|pq (λ_ hc=>Qc (hy.ext hc) O O)<|pe ⟨⟨O,?_⟩,O,?_⟩
  ·refine ZM KH λbm w2 J hC hR=>⟨ha.trans J,?_⟩;refine pk<|YG (n:=n) (congrArg (Value.int .i64) hn) (congrArg (Value.int .i64) hn) (by omega) λbl w3 S hD hB=>⟨(ha.trans J).trans S,?_⟩;rw[Qfh] at hB;refine p (λ_=>Yv [(0,[va,.int .i64 a.st,vm,ve]),(1,[vu]),(2,[.map (some bm)]),(3,[.slice (some ⟨bl,0,none⟩) n n])] ⟨O,O,hu.cells,O,O,O,O,O,La⟩)<|pk <|
    QS (us:=[va,.int .i64 a.st,vm,ve,vu,.map (some bm),.slice (some ⟨bl,0,none⟩) n n]) O λbp w4 E hE U=>⟨((ha.trans J).trans S).trans E,?_⟩
   refine p (λ_=>Qe)<|pe ?_;have gt:=hR.lt;have gu:=hB.lt;have gv:=J.size;have gx:=S.size;have gy:({ G with drawn:=G.drawn+1 }:World).heap.size=G.heap.size:=rfl
   exact ⟨(bp,bm,bl),Lb,((ha.trans J).trans S).trans E,U,(hR.ext S).ext E,hB.ext E,by simp only[];omega,by simp only[];omega,by simp only[];omega,by simp only[];omega,by simp only[];omega,by simp only[];omega⟩
  refine YG (n:=n) (congrArg (Value.int .i64) hn) (congrArg (Value.int .i64) hn) (by omega) λbl w2 J hD hB=>⟨ha.trans J,?_⟩;rw[Qfh] at hB;refine pk<|ZM KH λbm w3 S hC hS=>⟨(ha.trans J).trans S,?_⟩;refine p (λ_=>Yv [(0,[va,.int .i64 a.st,vm,ve]),(1,[vu]),(2,[.map (some bm)]),(3,[.slice (some ⟨bl,0,none⟩) n n])] ⟨O,O,hu.cells,O,O,O,O,O,La⟩)<|pk <|
   QS (us:=[va,.int .i64 a.st,vm,ve,vu,.map (some bm),.slice (some ⟨bl,0,none⟩) n n]) O λbp w4 E hE U=>⟨((ha.trans J).trans S).trans E,?_⟩
  refine p (λ_=>Qe)<|pe ?_;have gt:=hS.lt;have gu:=hB.lt;have gv:=J.size;have gx:=S.size;have gy:({ G with drawn:=G.drawn+1 }:World).heap.size=G.heap.size:=rfl
  exact ⟨(bp,bm,bl),Lb,((ha.trans J).trans S).trans E,U,hS.ext E,(hB.ext S).ext E,by simp only[];omega,by simp only[];omega,by simp only[];omega,by simp only[];omega,by simp only[];omega,by simp only[];omega⟩
 rintro ⟨bp,bm,bl⟩ g w4 ⟨E,U,hz,h0,hE,hC,hD,hT,hU,hF⟩;simp only[] at U hz h0 hE hC hD hT hU hF;have k4:=U.lt;have k5:=hz.lt;have k6:=h0.lt;have hG:=Z.trans E;have k7:=E.size;have hq:bp∉[bl]:=by simpa using hU
 have hH:bm∉[bl]:=by simpa using hF
 have h4:=h.ext hG;have k8:=hr.ext hG;refine Qg<|Qd<|Qb<|x (Qr O)<|x (Qa O)<|x (Qc U O O)<|x (Qw (L:=[]) (h0.arr (by simp) (n:=n) (cap:=n) (sz:=1) (by simp[bA]) (by omega) (Lv _)) rfl)<|Qb<|xe ?_
 refine Qh<|QC (α:=Nat) [(8,8),(26,35)] (λz=>[(26,.int .i64 z)]) (λz w'=>z≤n∧Step [bl] w4 w'∧QX w'.heap bl 4 ((bA n (λi=>decide (i<z))).map Value.bool)) (λz=>n - z) (by rfl) 0 Lb ⟨Lm _,Step.refl _ _,h0⟩ ?_;rintro k g w5 ⟨hk,hh,hI⟩;refine Qd<|x (QD O O)<|xe<|Qg<|QI O (λhJ=>?_) (λhJ=>?_)
 ·refine Qy ?_;have k9:k=n:=by have gz:¬(k:Int)<(n:Int):=hJ;omega
  have g0:bA n (λi=>decide (i<k))=(rm.take 0).foldl cut (List.replicate n true):=by
   apply L9
   ·simp[bA]
   intro i h1 h2;have:i<n:=by simpa[bA] using h1
   simp[bA];omega
  rw[g0] at hI;have ma:∀b∈[bl],b<G.heap.size→b∈([]:LN):=λb hb Y=>by simp only[List.mem_singleton] at hb;omega
  have hV:QO [bl] G.heap vr rm:=(hr.ext Z).up (λb hb=>.inr (by simp only[List.mem_singleton] at hb;omega));have mc:QO [bl] G.heap vu unc:=(hu.ext Z).up (λb hb=>.inr (by simp only[List.mem_singleton] at hb;omega));have g1:Zi [bl] G.heap va vm ve a:=(h.ext Z).up (λb hb=>.inr (by simp only[List.mem_singleton] at hb;omega));have hW:=U.step hh hq;have mf:=hz.step hh hH
  refine Qg<|Qd<|Qb<|x (Qw ((hV.ext E).st hh) O)<|Qb<|xe<|Qh<|QC (α:=Nat) [(10,10),(38,48)] (λz=>[(38,.int .i64 z)]) (λz w'=>z≤rm.length∧Step [bl] w4 w'∧QX w'.heap bl 4 (((rm.take z).foldl cut (List.replicate n true)).map Value.bool)) (λz=>rm.length - z) (by rfl) 0 Lb ⟨Lm _,hh,hI⟩ ?_;rintro j g w6 ⟨hj,H,hf⟩;refine Qd<|x (QD O O)<|xe ?_
  refine Qg<|QI O (λhK=>?_) (λhK=>?_)
  ·refine Qy ?_;have g2:rm.length≤j:=by have h3:¬(j:Int)<(rm.length:Int):=hK;omega
   rw[Lq g2] at hf;have hX:=U.step H hq;have g3:=hz.step H hH;have mg:=hf.lt;refine Qg<|Qd<|x (Qa O)<|x (Qc ((hy.ext E).step H (by simp only[List.mem_singleton];omega)) O O)<|x (Qw ((g1.ext E).st H).ed O)<|Qb<|xe ?_;have mh:=H.size
   refine Qh<|QC (α:=Nat×(Nat→Value)×List (Int×Value)) [(12,12),(52,73)] (λz=>[(52,.int .i64 z.1)]) (λz w'=>z.1≤a.ed.length∧Step [bm] w6 w'∧ZE KH w'.heap bm z.2.2∧K9 w6.heap.size w' n z.2.1 (ZB (a.ed.take z.1))∧∀s,s<n→(match mget z.2.2 ((s:Nat):Int) with | some u=>u | none=>nS)=z.2.1 s) (λz=>a.ed.length - z.1) (by rfl) (0,λ_=>nS,[]) ⟨rfl,La⟩
    ⟨Lm _,Step.refl _ _,g3,⟨λi _=>QR _ _ _ _,λi j _ _ _=>Dj.nil _⟩,λs _=>O⟩ ?_
   rintro ⟨i,rv,m⟩ g w7 ⟨hi,V,hL,hg,h5⟩;simp only[] at hi hL hg h5;have mj:=V.size;have hY:bp∉[bm]:=by simpa using hT
   have g4:bl∉[bm]:=by simpa using Ne.symm hF
   refine Qd<|x (QD O O)<|xe<|Qg<|QI O (λhM=>?_) (λhM=>?_)
   ·refine Qy ?_;have g5:a.ed.length≤i:=by have h6:¬(i:Int)<(a.ed.length:Int):=hM;omega
    rw[Lq g5] at hg;refine Qd<|Qb<|Qf ?_;have mo:∀b,b<w4.heap.size→b<w6.heap.size:=λb hb=>by omega
    refine Qs ⟨[_],Lb,(hG.then1 H (by omega)).then1 V (by omega),bp,⟨va,vm,ve,a,vu,unc,bm,m,bl,n,rv⟩,O,O,O,O,by simp only[];omega,⟨hX.step V hY,hq,?_,?_,hL,hH,h5,λs hs=>QW (hg.own s hs) (L5 (Jh a.ed s) (by omega)) (λb hb hm=>?_)⟩,hf.step V g4⟩
    ·have h9:Zi [bl,bm] w7.heap va vm ve a:=((((h.ext Z).up (L':=[bl,bm]) (λb hb=>.inr (by simp only[List.mem_cons,List.not_mem_nil,or_false] at hb;omega))).ext E).st (H.mono (by simp))).st (V.mono (by simp));exact h9.up (by simp)
    ·have h9:QO [bl,bm] w7.heap vu unc:=((((hu.ext Z).up (L':=[bl,bm]) (λb hb=>.inr (by simp only[List.mem_cons,List.not_mem_nil,or_false] at hb;omega))).ext E).st (H.mono (by simp))).st (V.mono (by simp));exact h9.up (by simp)
    have:=(Qm (hg.own s hs) b hb).1;simp only[List.mem_singleton] at hm;omega
   refine Qj ?_;have Y:i<a.ed.length:=by have h6:(i:Int)<(a.ed.length:Int):=hM;omega
   have ht:a.ed.take (i+1)=a.ed.take i++[a.ed[i]'Y]:=Ll Y;have hZ:=gs _ (Lj Y);refine Zs (a.ed[i]'Y) λe he=>?_;rw[he] at ht hZ;have ga:e.2.2=(e.2.2.toNat:Int):=by omega
   have hv:e.2.2.toNat<n:=by omega
   have g6:=Jh (a.ed.take i) e.2.2.toNat;rw[LF] at g6;have hN:=zU (a.ed.take i) e hZ.2.2.2.1;have g7:qc [bl,bm] w7.heap ve a.ed:=((((h.ed.ext Z).up (L':=[bl,bm]) (λb hb=>.inr (by simp only[List.mem_cons,List.not_mem_nil,or_false] at hb;omega))).ext E).st (H.mono (by simp))).st (V.mono (by simp));refine Qg<|Qh<|Qd<|xie g7 O O Y λmq h6=>?_;rw[he] at h6
   refine x (QQ h6 O O)<|xl O<|Qu (us:=[.int .i64 0,.int .i64 0,.int .i64 0]) O λg8 w8 g9 ka kb=>xl O<|Qq (us:=Qz e) kb O O O O ⟨O,O,O,La⟩ λw9 kc hO=>xe ?_;have hw:Step [] w7 w9:=g9.then1 kc ka;have ms:=hw.size;have gc:=hg.ext hw;have ke:=gc.own _ hv
   have h7:∀b∈ob (rv e.2.2.toNat),w6.heap.size≤b∧b<w7.heap.size:=λb hb=>⟨(Qm (hg.own _ hv) b hb).1,QY (hg.own _ hv) b hb⟩;have ge:bp∉ob (rv e.2.2.toNat):=λhb=>by have:=h7 _ hb;omega
   have gg:bm∉ob (rv e.2.2.toNat):=λhb=>by have:=h7 _ hb;omega
   have hP:g8∉ob (rv e.2.2.toNat):=λhb=>by have:=h7 _ hb;omega
   have gh:=((hX.step V hY).ext hw);have gi:=hL.ext hw;have gj:=h5 e.2.2.toNat hv;rw[←ga] at gj;refine QV (Step (ob (rv e.2.2.toNat)) w9) [(0,true),(1,true),(2,true),(3,true),(4,true),(5,true),(6,true),(7,true),(8,true),(9,true),(10,true),(11,true),(12,true),(13,true),(14,true),(15,false),(16,false),(17,false)] mixed (by rfl) (by kernel_rfl) (Step.drew _ _) ?_
   refine p (λ_=>Ql)<|p (λ_=>Qr O)<|p (λ_=>Qa O)<|pq (λ_ hc=>Qc (gh.step hc ge) O O) <|
    p (λ_=>Qa O)<|pq (λ_ hc=>Qc (hO.step hc hP) O O)<|p (λ_=>Ql)<|p (λ_=>Qr O)<|p (λ_=>Qa O) <|
    pq (λ_ hc=>Qc (gh.step hc ge) O O)<|p (λ_=>Qa O)<|pq (λ_ hc=>Qc (hO.step hc hP) O O) <|
    pq (λ_ hc=>(Xv (k:=e.2.2) (gi.step hc gg) O O).trans (congrArg (λv=>Result.ok (Next.value v) _) gj))<|p (λ_=>Qa O)<|pq (λ_ hc=>Qc (hO.step hc hP) O O) <|
    pk<|QL (us:=[[.int .i64 e.1]]) O O (by decide) (by simp) ⟨rfl,rfl,La⟩ λmt kf gk mu kg=>⟨(Step.drew _ _).trans gk,?_⟩
   have ho:Step [] w9 kf:=(Step.drew _ _).trans gk;have mv:=ho.size;refine pk<|QZ (m:=1) (news:=[.int .i64 e.1]) (Qt ke ho) O O O (kg.at (L:=[]) (by simp)) (by simp[Value.oneCell']) (by omega) (by omega) λhQ mw kh h8 ki=>⟨ho.any.trans' h8,?_⟩;have kj:=(gi.ext ho).step h8 gg;refine pkl (hl:=by kernel_rfl)<|Yx (k:=e.2.2) kj O O λmy gl kk=>pe ?_
   have kn:∀b∈ob hQ,b∈ob (rv e.2.2.toNat)∨w9.heap.size≤b:=λb hb=>(ki b hb).imp id (λh=>by omega);have gm:=gc.app hv (Qn.snoc kh) (ho.any.trans' h8) kn;have gn:=gm.step gl (λi hi b hb=>by have:=(Qm (gm.own i hi) b hb).1;simp only[List.mem_singleton];omega)
   have ko:KE (ZB (a.ed.take i)) e.2.2.toNat (ZB (a.ed.take i) e.2.2.toNat++[e.1])=ZB (a.ed.take (i+1)):=by rw[ht];exact funext hN
   rw[ko] at gn;refine Qx<|QN O O<|Qb<|xe<|⟨(i+1,KE rv e.2.2.toNat hQ,mput m e.2.2 hQ),by simp only[];omega,Lb,Y,?_,kk,gn,λs hs=>?_⟩
   ·exact (((V.trans hw).trans ho).then h8 (λb hb=>.inr (h7 b hb).1)).trans' gl
   simp only[];rw[Xx];by_cases gq:s=e.2.2.toNat
   ·subst gq;rw[if_pos ga,Z9]
   rw[if_neg (by omega),YB _ _ gq];exact h5 s hs
  refine Qj ?_;have hp:j<rm.length:=by have h3:(j:Int)<(rm.length:Int):=hK;omega
  have kq:=gr _ (Lj hp);have ht:rm.take (j+1)=rm.take j++[rm[j]'hp]:=Ll hp;refine Zs (rm[j]'hp) λs hs=>?_;rw[hs] at kq ht;have hN:s=(s.toNat:Int):=by omega
  have mz:((rm.take j).foldl cut (List.replicate n true)).length=n:=by rw[Uo];simp
  refine Qg<|Qh<|Qd<|xii (i:=j) ((hV.ext E).st H) O O hp λm0 h3=>?_;rw[hs] at h3;refine x (Qv h3 O)<|Qf<|Qx<|Qb<|x (Qr O)<|x (Qa O)<|x (Qc (U.step H hq) O O)<|Qb<|x (QP (i:=s.toNat) O (congrArg (Value.int .i64) hN) (by omega)) <|
   xl rfl<|zD (i:=s.toNat) hf O O (by omega) λw7 V kr=>xe ?_
  refine Qx<|QN O O<|Qb<|xe<|⟨j+1,by omega,Lb,hp,H.trans' V,?_⟩;rw[ht,LW];exact kr
 refine Qj ?_;have Y:k<n:=by have gz:(k:Int)<(n:Int):=hJ;omega
 have hW:=U.step hh hq;refine Qg<|Qh<|Qd<|Qb<|Qf<|Qx<|Qb<|x (Qr O)<|x (Qa O)<|x (Qc hW O O)<|Qb<|x (QP (i:=k) O O (by omega)) <|
  xl rfl<|zD (i:=k) hI O O (by rw[QmE];exact Y) λw6 H hf=>xe ?_
 have kt:(bA n (λi=>decide (i<k))).set k true=bA n (λi=>decide (i<k+1)):=QmD (by simp) (λi _ hi=>by
  by_cases e:i<k
  ·simp[e];omega
  simp[e];omega)
 rw[kt] at hf;refine Qx<|QN O O<|Qb<|xe ?_;exact ⟨k+1,by omega,Lb,Y,hh.trans' H,hf⟩
theorem yE {l r:LI}{i:Nat}(h:i<l.length):cget (l++r) i=cget l i:=by
 unfold cget;simp[List.getD,List.getElem?_append_left h]
set_option maxHeartbeats 4000000 in
theorem Un {w:World}{bp:Nat}{q:Pz}{lf:Lf}(hA:PzA [] w.heap bp q) (hq:PzQ q) (hB:QX w.heap q.bl 4 (lf.map Value.bool)) (hl:lf.length=q.n) :
  QM prog 217 [.pointer (some ⟨bp,0,none⟩)] w λr w'=>Step [] w w'∧∃b,r=.slice (some ⟨b,0,none⟩) q.n q.n∧w.heap.size≤b∧QX w'.heap b 3 ((dsts q.a lf).map (Value.int .i64))∧(dsts q.a lf).length=q.n:=by
 have hn:=hq.n;have ku:=hq.ok.st1;have gc:=hq.ok.mr;have kv:=hq.ok.mr_le;have kw:=hq.ok.ed_le;have hL:q.a.st.toNat=q.n:=by omega
 have gv:=Qmu (lf:=lf) hq.ok hn;have ge:(dsL q.a.ed lf q.n 0 (ds0 q.a lf)).1=dsts q.a lf:=by unfold dsts;rw[hL]
 refine Zs (dsts q.a lf) λDD gx=>?_;rw[gx] at ge ⊢;refine QM.of_W func217 O ntmps217 results217 (by simp) ?_;refine Qd<|Qf<|Qd<|Qb<|x (Qr O)<|x (Qa O)<|x (Qa O)<|x (Qc hA.B O O)<|xl O<|YG (n:=q.n) (congrArg (Value.int .i64) hn) (congrArg (Value.int .i64) hn) (by omega) λbO w1 gg h9 hM=>Qf ?_;rw[jJ] at hM
 refine Qg<|Qd<|Qb<|x (Qw (L:=[]) (hM.arr (by simp) (n:=q.n) (cap:=q.n) (sz:=1) (by simp[gA]) (by omega) (Lv _)) rfl)<|Qb<|xe<|Qh<|QC (α:=Nat) [(4,4),(19,25)] (λz=>[(19,.int .i64 z)]) (λz w'=>z≤q.n∧Step [] w w'∧QX w'.heap bO 3 ((gA q.n (λj=>if j<z then -1 else 0)).map (Value.int .i64))) (λz=>q.n - z) (by rfl) 0 Lb ⟨Lm _,gg,hM⟩ ?_
 rintro j g G ⟨hj,hh,hw⟩;refine Qd<|x (QD O O)<|xe<|Qg<|QI O (λhN=>?_) (λhN=>?_)
 ·refine Qy ?_;have hO:j=q.n:=by have gy:¬(j:Int)<(q.n:Int):=hN;omega
  have gz:gA q.n (λi=>if i<j then -1 else 0)=((q.a.mr.take 0).foldl (ds1 lf) (List.replicate q.n (-1),[])).1:=by
   apply L9
   ·simp[gA]
   intro i h1 h2;have:i<q.n:=by simpa[gA] using h1
   simp[gA];omega
  rw[gz] at hw;refine Qd<|Qf<|Qg<|Qd<|Qb<|x (Qr O)<|x (Qa O)<|x (Qa O)<|x (Qc (hA.ext hh).B O O)<|x (Qw (hA.ext hh).a.mr O)<|Qb<|xe<|Qh<|QC (α:=Nat×Value) [(5,5),(7,7),(32,50)] (λz=>[(5,z.2),(32,.int .i64 z.1)]) (λz w'=>z.1≤q.a.mr.length∧Step [] w w'∧G.heap.size≤w'.heap.size∧QX w'.heap bO 3 (((q.a.mr.take z.1).foldl (ds1 lf) (List.replicate q.n (-1),[])).1.map (Value.int .i64)) ∧
   Qn 3 G.heap.size w' z.2 ((q.a.mr.take z.1).foldl (ds1 lf) (List.replicate q.n (-1),[])).2) (λz=>q.a.mr.length - z.1) (by rfl) (0,nS) ⟨O,O,La⟩ ⟨Lm _,hh,Lv _,hw,QR _ _ _ _⟩ ?_
  rintro ⟨k,vl⟩ g w3 ⟨hk,h0,gh,Z,ha⟩;simp only[] at hk Z ha;have gi:=Qce (lf:=lf) (λx hx=>(gc x hx).1) k;rw[hL] at gi;have kx:=Z.lt;refine Qd<|x (QD O O)<|xe<|Qg<|QI O (λhP=>?_) (λhP=>?_)
  ·refine Qy ?_;have g0:q.a.mr.length≤k:=by have hC:¬(k:Int)<(q.a.mr.length:Int):=hP;omega
   have e0:(q.a.mr.take k).foldl (ds1 lf) (List.replicate q.n (-1),[])=ds0 q.a lf:=by rw[Lq g0];unfold ds0;rw[hL]
   rw[e0] at Z ha;have g1:bO<G.heap.size:=hw.lt;refine Qg<|Qd<|Qf<|Qh<|QC (α:=Nat×Nat×Value×LI×LI) [(5,5),(8,8),(10,10),(51,100)] (λz=>[(5,z.2.2.1),(8,.int .i64 z.2.1)])
    (λz w'=>Step [] w w'∧G.heap.size≤w'.heap.size∧QX w'.heap bO 3 (z.2.2.2.1.map (Value.int .i64))∧Qn 3 G.heap.size w' z.2.2.1 z.2.2.2.2∧DsI q.n z.2.2.2∧z.1+z.2.1=q.n∧(dsL q.a.ed lf z.1 z.2.1 z.2.2.2).1=DD) (λz=>q.n - z.2.1) (by rfl) (q.n,0,vl,(ds0 q.a lf).1,(ds0 q.a lf).2) ⟨O,O,La⟩
    ⟨h0,gh,Z,ha,gv,O,ge⟩ ?_
   rintro ⟨f,i,vl,o,l⟩ g w4 ⟨hf,hQ,h3,S,ho,g2,U⟩;simp only[] at hQ h3 S ho g2 U;have g3:=ho.le;have gj:=ho.ok.len;simp only[] at g3 gj;have hD:=hA.ext hf;refine Qg<|Qd<|Qb<|Qb<|x (Qw (L:=[]) (QW S (by omega) (by simp)) rfl)<|x (QD rfl rfl)<|xe<|QI O (λhR=>?_) (λhR=>?_)
   ·refine Qy ?_;have g4:¬i<l.length:=by have g5:¬(i:Int)<(l.length:Int):=hR;omega
    rw[Qin g4] at U;simp only[] at U;subst U;refine Qd<|Qb<|Qf ?_;exact Qs ⟨[.slice (some ⟨bO,0,none⟩) q.n q.n],Lb,hf,bO,O,h9,h3,gj⟩
   refine Qj ?_;have hp:i<l.length:=by have g5:(i:Int)<(l.length:Int):=hR;omega
   refine Exists.elim (MI (show f≠0 by omega)) λf' g6=>?_;subst g6;rw[dsL,if_pos hp] at U;have gk:=Q5 hp;have hsr:=ho.ok.q _ (XX hp);have hS:=ho.s0 _ (XX hp);refine Zs (cget l i) λs hs=>?_;rw[hs] at U hsr gk;simp only[] at hsr hS;rw[hs] at hS;have gl:s=(s.toNat:Int):=by omega
   have gm:=hD.g s.toNat (by omega);rw[←gl] at gm;have g7:=hD.R s.toNat (by omega);have kz:=Jh q.a.ed s.toNat;refine Qg<|Qh<|Qg<|QV (Step [] w4) [(0,true),(1,true),(2,true),(3,true),(4,true),(5,true),(6,true),(7,true),(8,true),(9,true),(10,true)] mixed (by rfl) (by kernel_rfl) (Step.drew _ _) ?_
   refine p (λ_=>Ql)<|p (λ_=>Qr O)<|p (λ_=>Qa O)<|pq (λ_ hc=>Qc (hD.B.ext hc) O O)<|p (λ_=>Ql)<|p (λ_=>Ql) <|
    pii (i:=i) O (QW (L:=[]) S (by omega) (by simp)) rfl rfl hp λk0 gn=>?_
   rw[gk] at gn;refine pq (λ_ hc=>Qv (gn.ext hc) O)<|pq (λ_ hc=>(Xv (k:=s) (hD.M.ext hc) O O).trans (congrArg (λv=>Result.ok (Next.value v) _) gm))<|p (λ_=>Qw g7 O)<|p (λ_=>Ql)<|pe ?_;have hF:Step [] w4 { w4 with drawn:=w4.drawn+1 }:=Step.drew _ _
   refine Qh<|QC (α:=Nat×Value×LI×LI) [(5,5),(10,10),(67,100)] (λz=>[(5,z.2.1),(67,.int .i64 z.1)])
    (λz w'=>z.1≤(ZB q.a.ed s.toNat).length∧Step [] w w'∧G.heap.size≤w'.heap.size∧QX w'.heap bO 3 (z.2.2.1.map (Value.int .i64))∧Qn 3 G.heap.size w' z.2.1 z.2.2.2∧DsI q.n z.2.2∧0≤cget z.2.2.1 s.toNat∧i<z.2.2.2.length∧cget z.2.2.2 i=s ∧
     ((ZB q.a.ed s.toNat).drop z.1).foldl (qF lf s) z.2.2=(ZB q.a.ed s.toNat).foldl (qF lf s) (o,l)) (λz=>(ZB q.a.ed s.toNat).length - z.1) (by rfl) (0,vl,o,l) ⟨O,O,La⟩
    ⟨Lm _,hf.trans hF,L5 hQ hF.size,h3.ext hF,Qt S hF,ho,hS,hp,hs,O⟩ ?_
   rintro ⟨m,hG,o2,l2⟩ g w5 ⟨hm,E,hH,hr,ht,hg,hT,h4,hI,H⟩;simp only[] at hm hH hr ht hg hT h4 hI H;have gq:=hA.ext E;have g8:=hg.le;have g9:=hg.ok.len;simp only[] at g8 g9;refine Qd<|x (QD O O)<|xe<|Qg<|QI O (λhU=>?_) (λhU=>?_)
   ·refine Qy ?_;have ka:(ZB q.a.ed s.toNat).length≤m:=by have hJ:¬(m:Int)<((ZB q.a.ed s.toNat).length:Int):=hU;omega
    rw[Lr ka] at H;simp only[List.foldl_nil] at H;rw[←H] at U;refine Qx<|Qb<|QN O O<|Qf ?_;exact ⟨(f',i+1,hG,o2,l2),by simp only[];omega,⟨O,O,La⟩,E,hH,hr,ht,hg,by simp only[];omega,U⟩
   refine Qj ?_;have hu:m<(ZB q.a.ed s.toNat).length:=by have hJ:(m:Int)<((ZB q.a.ed s.toNat).length:Int):=hU;omega
   have gr:=J3 (Lj hu);have kb:=Q9 hu;rw[kb,Ls] at H;refine Zs ((ZB q.a.ed s.toNat)[m]'hu) λy hy=>?_;rw[hy] at gr H;have kc:0≤y∧y<(q.n:Int):=by
    obtain ⟨e,he,h1,_⟩:=gr;have:=hq.ok.ed e he;omega
   have hv:y=(y.toNat:Int):=by omega
   have h5:y.toNat<o2.length:=by omega
   have hV:s.toNat<o2.length:=by omega
   have ke:=hg.ok.le _ (XX hV);simp only[] at ke;have hE:=Qio (lf:=lf) hg hsr hT kc;have hW:=UR (l:=lf) (s:=y) (by omega);have k4:=Qaz o2;refine Qg<|Qh<|Qd<|xii (i:=m) ((gq.R s.toNat (by omega))) O O hu λk5 hJ=>?_;rw[hy] at hJ;refine x (Qv hJ O)<|Qf<|Q0 (α:=Bool) [(71,84)] (λz=>[(84,.bool z)]) (λz w'=>w'=w5∧z=(lft lf y && decide (cget o2 y.toNat<0))) (by rfl) ?_ ?_
   ·refine Qx ?_;have k6:∀{P:Prop},(∀b,lft lf y=b→P)→P:=λh=>h _ O;refine Qb<|x (Qr O)<|x (Qa O)<|x (Qc gq.B O O)<|Qb<|x (QP (i:=y.toNat) O (congrArg (Value.int .i64) hv) (by omega))<|x (JG (i:=y.toNat) (hB.ext E) O (by omega))<|?_;rw[hW];cases lft lf y with
    | true =>
     refine Qb<|Qb<|Qb<|x (QP (i:=y.toNat) O (congrArg (Value.int .i64) hv) (by omega))<|x (Vg (i:=y.toNat) hr O h5)<|x (QD O O)<|x (Qp O)<|xe ?_;exact ⟨_,Lb,O,by rw[Q5 h5];rfl⟩
    | false =>
     refine Qb<|xs O<|xs O<|xs O<|xs O<|xs O<|x (Qp O)<|xe ?_;exact ⟨_,Lb,O,O⟩
   rintro z g k7 ⟨rfl,rfl⟩;refine Q8 O (λh6=>?_) (λh6=>?_)
   ·rw[Lx,decide_eq_true_eq] at h6;have hX:qF lf s (o2,l2) y=(o2.set y.toNat (cget o2 s.toNat+1),l2++[y]):=by unfold qF;rw[if_pos h6]
    rw[hX] at H hE;have kf:=Q5 hV;have gs:=Q5 h4;rw[hI] at gs;refine Qd<|Qb<|Qb<|Qb<|Qb<|Qb<|xii (i:=i) (QW (L:=[]) ht (by omega) (by simp)) rfl rfl h4 λk8 gt=>?_;rw[gs] at gt;refine x (Qv gt O)<|x (QP (i:=s.toNat) O (congrArg (Value.int .i64) gl) (by omega))<|x (Vg (i:=s.toNat) hr O hV)<|x (X1 O O ⟨by omega,by omega⟩) <|
     x (QP (i:=y.toNat) O (congrArg (Value.int .i64) hv) (by omega))<|xl O<|XK (i:=y.toNat) hr O O h5 λw6 J hK=>xe ?_
    rw[kf] at hK;have kg:=J.size;have kh:∀b∈ob hG,b∉[bO]:=λb hb=>by have:=Qm ht b hb;simp only[List.mem_singleton];omega
    have h7:Qn 3 G.heap.size w6 hG l2:=Qi ht J kh;have ki:Step [] w w6:=E.then1 J h9;refine Qx<|Qb<|Qb<|xl O<|QL (us:=[[.int .i64 y]]) O O (by decide) (by simp) ⟨rfl,rfl,La⟩ λk9 w7 h8 ma kj=>xl rfl<|QZ (m:=1) (news:=[.int .i64 y]) (Qt h7 h8) rfl rfl rfl (kj.at (L:=[]) (by simp)) (by simp[Value.oneCell']) (by omega) (by have:=h8.size;omega) λhY w8 kk hZ mc =>
     Qf ?_
    have mf:=h8.size;have mg:=hZ.size;refine Qx<|QN O O<|Qb<|xe<|⟨(m+1,hY,_,l2++[y]),by simp only[];omega,⟨O,O,La⟩,hu,(ki.trans h8).then hZ (λb hb=>.inr (by have:=Qm h7 b hb;have:=gg.size;have:=hh.size;omega)),by omega,(hK.ext h8).step hZ (λhb=>by have:=Qm h7 _ hb;omega),Qn.snoc kk,hE.1,hE.2,by simp only[List.length_append];omega,by rw[yE h4];exact hI,H⟩
   have hX:qF lf s (o2,l2) y=(o2,l2):=by
    unfold qF;rw[if_neg];intro hc;rw[hc.1,decide_eq_true hc.2] at h6;cases h6
   rw[hX] at H;refine Qj<|Qx<|QN O O<|Qb<|xe ?_;exact ⟨(m+1,hG,o2,l2),by simp only[];omega,⟨O,O,La⟩,hu,E,hH,hr,ht,hg,hT,h4,hI,H⟩
  refine Qj ?_;have V:k<q.a.mr.length:=by have hC:(k:Int)<(q.a.mr.length:Int):=hP;omega
  have kn:=gc _ (Lj V);have ko:q.a.mr.take (k+1)=q.a.mr.take k++[q.a.mr[k]'V]:=Ll V;have Y:(q.a.mr.take (k+1)).foldl (ds1 lf) (List.replicate q.n (-1),[])=ds1 lf ((q.a.mr.take k).foldl (ds1 lf) (List.replicate q.n (-1),[])) (q.a.mr[k]'V):=by rw[ko,LW];rfl
  have kq:((q.a.mr.take k).foldl (ds1 lf) (List.replicate q.n (-1),[])).1.length=q.n∧((q.a.mr.take k).foldl (ds1 lf) (List.replicate q.n (-1),[])).2.length≤q.a.mr.length:=by
   rw[gi];exact ⟨Xn _ _,L5 (Mj _ _) (by rw[LF];omega)⟩
  refine Zs ((q.a.mr.take k).foldl (ds1 lf) (List.replicate q.n (-1),[])) λz hz=>?_;rw[hz] at Z ha Y kq;refine Zs (q.a.mr[k]'V) λy hy=>?_;rw[hy] at kn Y;have hv:y=(y.toNat:Int):=by omega
  have h5:y.toNat<z.1.length:=by omega
  have hW:=UR (l:=lf) (s:=y) (by omega);have gu:=hA.ext h0;refine Qg<|Qh<|Qd<|xii (i:=k) gu.a.mr O O V λmh hC=>?_;rw[hy] at hC;refine x (Qv hC O)<|Qf<|Qd<|Qb<|x (Qr O)<|x (Qa O)<|x (Qc gu.B O O)<|Qb<|x (QP (i:=y.toNat) O (congrArg (Value.int .i64) hv) (by omega))<|x (JG (i:=y.toNat) (hB.ext h0) O (by omega))<|xe ?_;rw[hW];refine Q8 O (λga=>?_) (λga=>?_)
  ·have e1:ds1 lf z y=(z.1.set y.toNat 0,z.2++[y]):=by unfold ds1;rw[if_pos ga]
   rw[e1] at Y;refine Qd<|Qb<|Qb<|x (QP (i:=y.toNat) O (congrArg (Value.int .i64) hv) (by omega))<|xl O<|XK (i:=y.toNat) Z O O h5 λw4 hf h3=>xe ?_;have hQ:=hf.size;have g1:bO<G.heap.size:=hw.lt;have S:Qn 3 G.heap.size w4 vl z.2:=Qi ha hf (λb hb=>by have:=Qm ha b hb;simp only[List.mem_singleton];omega)
   refine Qx<|Qb<|Qb<|xl O<|QL (us:=[[.int .i64 y]]) O O (by decide) (by simp) ⟨rfl,rfl,La⟩ λmj w5 E mo kr=>xl rfl<|QZ (m:=1) (news:=[.int .i64 y]) (Qt S E) rfl rfl rfl (kr.at (L:=[]) (by simp)) (by simp[Value.oneCell']) (by omega) (by have:=E.size;omega) λhY w6 h7 J mq =>
    Qf ?_
   have hH:=E.size;have kg:=J.size;refine Qx<|QN O O<|Qb<|xe<|⟨(k+1,hY),by simp only[];omega,⟨O,O,La⟩,V,((h0.then1 hf h9).trans E).then J (λb hb=>.inr (by have:=Qm S b hb;have:=hh.size;omega)),by omega,?_,?_⟩
   ·simp only[];rw[Y];exact (h3.ext E).step J (λhb=>by have:=Qm S _ hb;omega)
   simp only[];rw[Y];exact Qn.snoc h7
  have e1:ds1 lf z y=z:=by unfold ds1;rw[if_neg (by rw[ga];decide)]
  rw[e1] at Y;refine Qj<|Qx<|QN O O<|Qb<|xe ?_;exact ⟨(k+1,vl),by simp only[];omega,⟨O,O,La⟩,V,h0,gh,by simp only[];rw[Y];exact Z,by simp only[];rw[Y];exact ha⟩
 refine Qj ?_;have hO:j<q.n:=by have gy:(j:Int)<(q.n:Int):=hN;omega
 refine Qg<|Qh<|Qd<|Qb<|Qf<|Qx ?_;have kt:(gA q.n (λi=>if i<j then -1 else 0)).set j (-1)=gA q.n (λi=>if i<j+1 then -1 else 0):=yb (by rw[if_pos (by omega)]) (λi _ hi=>by
  by_cases e:i<j
  ·rw[if_pos e,if_pos (by omega)]
  rw[if_neg e,if_neg (by omega)])
 refine Qb<|Qb<|x (QP (i:=j) O O (by omega))<|xl O<|KS (i:=j) hw O O hO kt λw6 J hK=>xe ?_;refine Qx<|QN O O<|Qb<|xe ?_;exact ⟨j+1,by omega,Lb,hO,hh.then1 J h9,hK⟩
abbrev rmC (rk rs:Int) (x:Int×Int):LV:=[.int .i64 x.1,.int .i64 rk,.int .i64 rs,.int .i64 x.2]
theorem Qeg (rk rs:Int) (x:Int×Int):(rmC rk rs x).length=4:=rfl
abbrev RmO (base:Nat) (w:World) (v:Value) (rk rs:Int) (l:List (Int×Int)):Prop:=w.ownsRow base 320 4 v l.length (l.flatMap (rmC rk rs))
theorem RmO.snoc {base:Nat}{w:World}{v:Value}{rk rs:Int}{l:List (Int×Int)}{x:Int×Int}(h:w.ownsRow base 320 4 v (l.length+1) (l.flatMap (rmC rk rs)++rmC rk rs x)):RmO base w v rk rs (l++[x]):=by
 unfold RmO;rw[Lk,LL];simpa using h
theorem QhB {a:QE}{ul:LI}{lf:Lf}{k:Nat}(h:k<a.ed.length):(a.ed.take (k+1)).foldl (Jv ul lf) []=Jv ul lf ((a.ed.take k).foldl (Jv ul lf) []) (a.ed[k]'h):=by
 rw[Ll h,LW];rfl
set_option maxHeartbeats 4000000 in
theorem Qhg {w:World}{bp:Nat}{q:Pz}{lf:Lf}(U:PzA [] w.heap bp q) (hq:PzQ q) (hB:QX w.heap q.bl 4 (lf.map Value.bool)) (hl:lf.length=q.n) (rk:Int) :
  QM prog 264 [.pointer (some ⟨bp,0,none⟩),.int .i64 rk] w λr w'=>Step [] w w'∧RmO w.heap.size w' r rk 2 (lost q.a q.unc lf):=by
 have hn:=hq.n;have hU:=hq.ok.st1;have hV:=hq.ok.ed_le;refine QM.of_W func264 O ntmps264 results264 (by simp) ?_;refine Qd<|Qf<|Qd<|Qf<|Qg<|Qd<|Qb<|x (Qr O)<|x (Qa O)<|x (Qa O)<|x (Qc U.B O O)<|x (Qw U.a.ed O)<|Qb<|xe ?_
 refine Qh<|QC (α:=Nat×Value) [(5,5),(7,8),(15,72)] (λz=>[(5,z.2),(15,.int .i64 z.1)]) (λz w'=>z.1≤q.a.ed.length∧Step [] w w'∧RmO w.heap.size w' z.2 rk 2 ((q.a.ed.take z.1).foldl (Jv q.unc lf) [])) (λz=>q.a.ed.length - z.1) (by rfl) (0,nS) ⟨O,O,La⟩ ⟨Lm _,Step.refl _ _,QR _ _ _ _⟩ ?_;rintro ⟨k,vo⟩ g w1 ⟨hk,hg,J⟩;simp only[] at hk J
 have hh:=(zM (a:=q.a) (ul:=q.unc) (lf:=lf) (q.a.ed.take k) [] (λe he=>Mh he) (λp hp=>by cases hp)).2;rw[LF] at hh;refine Qd<|x (QD O O)<|xe<|Qg<|QI O (λhj=>?_) (λhj=>?_)
 ·refine Qy ?_;have hC:q.a.ed.length≤k:=by have V:¬(k:Int)<(q.a.ed.length:Int):=hj;omega
  rw[Lq hC] at J;refine Qd<|Qb<|Qf ?_;exact Qs ⟨[_],Lb,hg,J⟩
 refine Qj ?_;have G:k<q.a.ed.length:=by have V:(k:Int)<(q.a.ed.length:Int):=hj;omega
 have hD:=hq.ok.ed _ (Lj G);have E:=QhB (ul:=q.unc) (lf:=lf) G;refine Zs ((q.a.ed.take k).foldl (Jv q.unc lf) []) λout hE=>?_;rw[hE] at J E hh;refine Zs (q.a.ed[k]'G) λe he=>?_;rw[he] at hD E;simp only[List.length_nil] at hh;have hF:e.1=(e.1.toNat:Int):=by omega
 have hG:e.2.2=(e.2.2.toNat:Int):=by omega
 have hH:=UR (l:=lf) (s:=e.1) (by omega);have hI:=UR (l:=lf) (s:=e.2.2) (by omega);have hJ:=U.ext hg;refine Qg<|Qh<|Qd<|xie hJ.a.ed O O G λhW V=>?_;rw[he] at V;refine x (QQ V O O)<|xl O<|Qu (us:=[.int .i64 0,.int .i64 0,.int .i64 0]) O λb7 w2 hK hL H=>xl O<|Qq (us:=Qz e) H O O O O ⟨O,O,O,La⟩ λw3 hM Y=>xe ?_;have h2:Step [] w1 w3:=hK.then1 hM hL
 have hm:=hg.trans h2;have Z:=U.ext hm;have h3:=hB.ext hm;have hN:=Qt J h2;refine Qg<|Q0 (α:=Bool) [(19,47)] (λz=>[(47,.bool z)]) (λz w'=>Step [] w3 w'∧(z=true↔(lft lf e.1=false∨lft lf e.2.2=true∨e.2.1∉q.unc))) (by rfl) ?_ ?_
 ·refine QV (Step [] w3) [(0,true),(1,true),(2,true),(3,true),(4,true),(5,true),(6,true),(7,true),(8,true),(9,true),(10,true),(11,true),(12,true),(13,true),(14,true),(15,true),(16,true),(17,true),(18,true),(19,true),(20,true),(21,true),(22,true),(23,true),(24,true),(25,true),(26,false),(27,true),(28,true)] mixed (by rfl) (by kernel_rfl) (Step.drew _ _) ?_
  refine p (λ_=>Ql)<|p (λ_=>Qr O)<|p (λ_=>Qa O)<|pq (λ_ hc=>Qc (Z.B.ext hc) O O)<|p (λ_=>Qa O)<|pq (λ_ hc=>Qc (Y.ext hc) O O) <|
   p (λ_=>QP (i:=e.1.toNat) O (congrArg (Value.int .i64) hF) (by omega))<|pq (v:=.bool (lft lf e.1)) (λ_ hc=>(JG (i:=e.1.toNat) (h3.ext hc) O (by omega)).trans (by rw[hH]))<|pB (λ_=>Zh rfl) (λS=>?_) (λS=>?_)
  ·refine p (λ_=>Ql)<|ps<|ps<|ps<|ps<|ps<|ps<|ps<|ps<|p (λ_=>Qp O)<|p (λ_=>Ql)<|ps<|ps<|ps<|ps<|ps<|ps<|ps<|ps<|p (λ_=>Qp O)<|pe ?_;exact ⟨_,Lb,Step.drew _ _,by simp at S;simp[S]⟩
  refine p (λ_=>Ql)<|p (λ_=>Ql)<|p (λ_=>Qr O)<|p (λ_=>Qa O)<|pq (λ_ hc=>Qc (Z.B.ext hc) O O)<|p (λ_=>Qa O)<|pq (λ_ hc=>Qc (Y.ext hc) O O) <|
   p (λ_=>QP (i:=e.2.2.toNat) O (congrArg (Value.int .i64) hG) (by omega))<|?_
  refine pqB (b:=lft lf e.2.2) (λ_ hc=>(JG (i:=e.2.2.toNat) (h3.ext hc) O (by omega)).trans (by rw[hI])) (λho=>?_) (λho=>?_)
  ·refine p (λ_=>Qp O)<|p (λ_=>Ql)<|ps<|ps<|ps<|ps<|ps<|ps<|ps<|ps<|p (λ_=>Qp O)<|pe ?_;exact ⟨_,Lb,Step.drew _ _,by simp[ho]⟩
  refine p (λ_=>Qp O)<|p (λ_=>Ql)<|p (λ_=>Ql)<|p (λ_=>Qr O)<|p (λ_=>Qa O)<|pq (λ_ hc=>Qc (Z.B.ext hc) O O) <|
   p (λ_=>Qa O)<|pq (λ_ hc=>Qc (Y.ext hc) O O)<|pk<|xf<|(XR (Z.u.ext (Step.drew _ _)) e.2.1).mono ?_
  rintro r4 w4 ⟨rfl,rfl⟩;refine ⟨Step.drew _ _,?_⟩;refine p (λ_=>zu O)<|p (λ_=>Qp O)<|pe ?_;exact ⟨_,Lb,Step.drew _ _,by simp at S;simp[S,ho]⟩
 rintro z g w4 ⟨hr,hz⟩;have h4:=hm.trans hr;have hs:=Qt hN hr;have H:=Y.ext hr;refine Q8 rfl (λha=>?_) (λha=>?_)
 ·refine Qy ?_;have e1:Jv q.unc lf out e=out:=by unfold Jv;rw[if_pos (hz.1 ha)]
  rw[e1] at E;refine Qx<|QN O O<|Qb<|xe ?_;exact ⟨(k+1,vo),by simp only[];omega,⟨O,O,La⟩,G,h4,by simp only[];rw[E];exact hs⟩
 refine Qj ?_;have h5:¬(lft lf e.1=false∨lft lf e.2.2=true∨e.2.1∉q.unc):=λh=>by rw[hz.2 h] at ha;cases ha
 have h6:Zz [] w4.heap vo out.length 4 (out.flatMap (rmC rk 2)):=QW hs (by omega) (by simp);refine Qg<|Qd<|Qb<|x (Qw h6 O)<|Qf<|Q0 (α:=Bool) [(50,62)] (λz=>[(62,.bool z)]) (λz w'=>Step [] w4 w'∧(z=true↔out.getLast?.map (·.1)=some e.1)) (by rfl) ?_ ?_
 ·refine QV (Step [] w4) [(0,true),(1,true),(2,true),(3,true),(4,true),(5,true),(6,true),(7,true),(8,true),(9,true),(10,true),(11,true),(12,true)] mixed (by rfl) (by kernel_rfl) (Step.drew _ _) ?_;refine p (λ_=>Ql)<|pb (λ_=>ZL O O) (λht=>?_) (λht=>?_)
  ·have hX:0<out.length:=by have hO:(0:Int)<(out.length:Int):=ht;omega
   have h7:out.getLast?=some (out[out.length - 1]'(by omega)):=by rw[List.getLast?_eq_getElem?,LK]
   refine Zs (out[out.length - 1]'(by omega)) λy hy=>?_;rw[hy] at h7;refine p (λ_=>Ql)<|p (λ_=>Ql)<|p (λ_=>Ql)<|p (λ_=>JF O O ⟨by omega,by omega⟩)<|Go.Lg.pig (g:=rmC rk 2) (i:=out.length - 1) O (Qeg rk 2) h6 O (congrArg (Value.int .i64) (show (out.length:Int) - 1=((out.length - 1:Nat):Int) by omega)) (by omega) λhY h8=>?_;rw[hy] at h8
   refine p (λ_=>Zn O)<|pq (λ_ hc=>Qv ((h8.fld 0 (.int .i64 y.1) O).ext hc) O)<|p (λ_=>Qa O)<|pq (λ_ hc=>Qc (H.ext hc) O O) <|
    p (λ_=>Zf O O)<|p (λ_=>Qp O)<|pe ?_
   exact ⟨_,Lb,Step.drew _ _,by rw[h7];simp⟩
  have h0:out=[]:=Ln (by have hO:¬(0:Int)<(out.length:Int):=ht;omega);refine p (λ_=>Ql)<|ps<|ps<|ps<|ps<|ps<|ps<|ps<|ps<|ps<|p (λ_=>Qp O)<|pe ?_;exact ⟨_,Lb,Step.drew _ _,by simp[h0]⟩
 rintro z2 g w5 ⟨hu,h9⟩;have hv:=h4.trans hu;have hw:=Qt hs hu;have H:=H.ext hu;refine Q8 rfl (λhf=>?_) (λhf=>?_)
 ·refine Qy ?_;have e1:Jv q.unc lf out e=out:=by unfold Jv;rw[if_neg h5,if_pos (h9.1 hf)]
  rw[e1] at E;refine Qx<|QN O O<|Qb<|xe ?_;exact ⟨(k+1,vo),by simp only[];omega,⟨O,O,La⟩,G,hv,by simp only[];rw[E];exact hw⟩
 refine Qj ?_;have hP:¬out.getLast?.map (·.1)=some e.1:=λh=>by rw[h9.2 h] at hf;cases hf
 have e1:Jv q.unc lf out e=out++[(e.1,e.2.1)]:=by unfold Jv;rw[if_neg h5,if_neg hP]
 rw[e1] at E;refine Qx<|Qb<|x (Qa O)<|x (Qc H O O)<|Qb<|x (Qa O)<|x (Qc H O O)<|x (QG ⟨O,O,O,O,La⟩) <|
  xl rfl<|QL (us:=[rmC rk 2 (e.1,e.2.1)]) O O (by decide) (by simp) ⟨rfl,rfl,La⟩ λhZ w6 h1 ga hQ =>
  xl rfl<|QZ (m:=1) (news:=rmC rk 2 (e.1,e.2.1)) (Qt hw h1) O O O (hQ.at (L:=[]) (by simp)) (by simp[Value.oneCell']) (by omega) (by have:=hv.size;have:=h1.size;omega) λhR w7 hS hT gc=>Qf<|Qx<|QN O O<|Qb<|xe ?_
 exact ⟨(k+1,hR),by simp only[];omega,⟨O,O,La⟩,G,(hv.trans h1).then hT (λb hb=>.inr (Qm hw b hb).1),by simp only[];rw[E];exact RmO.snoc hS⟩
theorem j9 (lf:Lf) (d:Int):∀(l:LI) (i:Nat),Kv lf i (l++[d])=Kv lf i l++if lf.getD (i+l.length) false=true∧d<0 then [((i+l.length:Nat):Int)] else []
 | [],i=>by
  simp only[List.nil_append,Kv,List.length_nil,Nat.add_zero]
 | a::l,i=>by
  have ih:=j9 lf d l (i+1);rw[show i+1+l.length=i+(a::l).length by simp;omega] at ih;simp only[List.cons_append,Kv,ih];by_cases h:lf.getD i false=true∧a<0
  ·rw[if_pos h,if_pos h,MG]
  rw[if_neg h,if_neg h]
abbrev blP (l:LI):List (Int×Int):=l.map λs=>(s,-1)
set_option maxHeartbeats 4000000 in
theorem QbD {w:World}{bp:Nat}{q:Pz}{lf:Lf}(hA:PzA [] w.heap bp q) (hq:PzQ q) (hB:QX w.heap q.bl 4 (lf.map Value.bool)) (hl:lf.length=q.n) (rk:Int) :
  QM prog 265 [.pointer (some ⟨bp,0,none⟩),.int .i64 rk] w λr w'=>Step [] w w'∧RmO w.heap.size w' r rk 3 (blP (Kv lf 0 (dsts q.a lf)))∧(Kv lf 0 (dsts q.a lf)).length≤q.n:=by
 have hn:=hq.n;have h1:=hq.ok.st1;refine QM.of_W func265 O ntmps265 results265 (by simp) ?_;refine Qd<|Qf<|Qd<|Qf<|Qg<|Qd<|Qb<|xl O<|xf<|(Un hA hq hB hl).mono ?_;rintro r1 U ⟨hf,b,rfl,hb,hg,V⟩;refine Zs (dsts q.a lf) λD hD=>?_;rw[hD] at hg V ⊢;have hh:QO [] U.heap (.slice (some ⟨b,0,none⟩) q.n q.n) D:=by
  have h:=hg.arr (L:=[]) (by simp) (n:=q.n) (cap:=q.n) (sz:=1) (by simp[V]) (by omega) (Lv _);unfold QO;rw[V];exact h
 refine x (Qw hh O)<|Qb<|xe<|Qh<|QC (α:=Nat×Value) [(5,7),(11,33)] (λz=>[(5,z.2),(11,.int .i64 z.1)]) (λz w'=>z.1≤D.length∧Step [] U w'∧RmO U.heap.size w' z.2 rk 3 (blP (Kv lf 0 (D.take z.1)))) (λz=>D.length - z.1) (by rfl) (0,nS) ⟨O,O,La⟩ ⟨Lm _,Step.refl _ _,QR _ _ _ _⟩ ?_;rintro ⟨k,vo⟩ g w2 ⟨hk,J,E⟩;simp only[] at hk E;have hj:=(Uw lf (D.take k) 0).2
 rw[LF] at hj;have Y:=hf.trans J;refine Qd<|x (QD O O)<|xe<|Qg<|QI O (λZ=>?_) (λZ=>?_)
 ·refine Qy ?_;have ho:D.length≤k:=by have hp:¬(k:Int)<(D.length:Int):=Z;omega
  rw[Lq ho] at E;refine Qd<|Qb<|Qf ?_;exact Qs ⟨[_],Lb,Y,QT E hf.size,by have:=(Uw lf D 0).2;omega⟩
 refine Qj ?_;have G:k<D.length:=by have hp:(k:Int)<(D.length:Int):=Z;omega
 have hr:D.take (k+1)=D.take k++[D[k]'G]:=Ll G;have H:=j9 lf (D[k]'G) (D.take k) 0;rw[←hr,LF,LJ,Nm (by omega)] at H;refine Zs (D[k]'G) λd hd=>?_;rw[hd] at H;refine Zs (Kv lf 0 (D.take k)) λout hs=>?_;rw[hs] at H E hj;have ha:k<lf.length:=by omega
 have ht:lf[k]'ha=lf.getD k false:=by simp[List.getD,ha]
 have hu:=hA.ext Y;refine Qg<|Qh<|Qd<|Qb<|xii (i:=k) (hh.ext J) O O G λh2 hm=>?_;rw[hd] at hm;refine x (Qv hm O)<|x Qe<|Qf<|Q0 (α:=Bool) [(16,26)] (λz=>[(26,.bool z)]) (λz w'=>w'=w2∧(z=true↔lf.getD k false=true∧d<0)) (by rfl) ?_ ?_
 ·refine Qx<|Qb<|x (Qr O)<|x (Qa O)<|x (Qc hu.B O O)<|Qb<|x (QP (i:=k) O O (by omega))<|xB (b:=lf.getD k false) ((JG (i:=k) (hB.ext Y) O ha).trans (by rw[ht])) (λhc=>?_) (λhc=>?_)
  ·refine Qb<|Qb<|x (QD O O)<|x (Qp O)<|xe ?_;exact ⟨_,Lb,O,by rw[hc];simp⟩
  refine Qb<|xs O<|xs O<|x (Qp O)<|xe ?_;exact ⟨_,Lb,O,by rw[hc];simp⟩
 rintro z g w3 ⟨rfl,hz⟩;refine Q8 rfl (λS=>?_) (λS=>?_)
 ·rw[if_pos (hz.1 S)] at H;refine Qx<|Qb<|Qb<|Qb<|x (QG ⟨O,O,O,O,La⟩)<|xl O<|QL (us:=[rmC rk 3 ((k:Int),-1)]) O O (by decide) (by simp) ⟨rfl,rfl,La⟩ λh3 w4 he h4 hv =>
   xl rfl<|QZ (m:=1) (news:=rmC rk 3 ((k:Int),-1)) (Qt E he) O O O (hv.at (L:=[]) (by simp)) (by simp[Value.oneCell']) (by rw[Lo];omega) (by have:=J.size;have:=he.size;omega) λhw w5 hy h0 h5=>Qf<|Qx<|QN O O<|Qb<|xe ?_
  refine ⟨(k+1,hw),by simp only[];omega,⟨O,O,La⟩,G,(J.trans he).then h0 (λb hb=>.inr (Qm E b hb).1),?_⟩;simp only[];rw[H,show blP (out++[(k:Int)])=blP out++[((k:Int),-1)] by simp];exact RmO.snoc hy
 rw[if_neg (λh=>by rw[hz.2 h] at S;cases S),LU] at H;refine Qj<|Qx<|QN O O<|Qb<|xe ?_;exact ⟨(k+1,vo),by simp only[];omega,⟨O,O,La⟩,G,J,by simp only[];rw[H];exact E⟩
theorem Qhf {w:World}{bp:Nat}{q:Pz}{lf:Lf}(U:PzA [] w.heap bp q) (hq:PzQ q) (V:QX w.heap q.bl 4 (lf.map Value.bool)) (hl:lf.length=q.n) (rk:Int) :
  QM prog 214 [.pointer (some ⟨bp,0,none⟩),.int .i64 rk,.bool true] w λr w'=>Step [] w w'∧∃rs l,RmO w.heap.size w' r rk rs l∧l.map (·.1)=nxs q.a q.unc lf∧l.length≤1000000:=by
 have ha:=(QaA q.a q.unc lf).2;have hf:=hq.ok.ed_le;have hn:=hq.n;have hg:=hq.ok.st1;have E:nxs q.a q.unc lf=if (lost q.a q.unc lf).length≠0 then (lost q.a q.unc lf).map (·.1) else Kv lf 0 (dsts q.a lf):=rfl
 refine QM.of_W func214 O ntmps214 results214 (by simp) ?_;refine Qd<|Qf<|Qg<|Qd<|Qb<|Qb<|xl O<|xf<|(Qhg U hq V hl rk).mono ?_;rintro r1 w1 ⟨G,J⟩;refine Zs (lost q.a q.unc lf) λL hL=>?_;rw[hL] at J E ha;refine Qf<|Q0 (α:=Bool) [(11,17)] (λz=>[(17,.bool z)]) (λz w'=>w'=w1∧(z=true↔L.length≠0)) (by rfl) ?_ ?_
 ·refine Qx<|Qb<|x (Qw (L:=[]) (QW J (by omega) (by simp)) rfl)<|xb (ZL rfl rfl) (λS=>?_) (λS=>?_)
  ·refine Qb<|xs O<|xs O<|x (Qp O)<|xe ?_;exact ⟨_,Lb,O,by have Y:(0:Int)<(L.length:Int):=S;simp;intro e;subst e;simp at Y⟩
  refine Qb<|Qb<|x (Zh O)<|x (Qp O)<|xe ?_;have Y:¬(0:Int)<(L.length:Int):=S;have hb:L.length=0:=by omega
  exact ⟨_,Lb,O,by rw[hb];simp⟩
 rintro z g w2 ⟨rfl,Z⟩;refine Q8 rfl (λH=>?_) (λH=>?_)
 ·rw[if_pos (Z.1 H)] at E;refine Qd<|Qb<|Qf ?_;exact Qs ⟨[_],Lb,G,2,L,J,E.symm,by omega⟩
 rw[if_neg (λh=>by rw[Z.2 h] at H;cases H)] at E;refine Qj<|Qd<|Qb<|Qb<|xl O<|xf<|(QbD (U.ext G) hq (V.ext G) hl rk).mono ?_;rintro r3 w3 ⟨hc,he,hh⟩;refine Qf<|Qs ⟨[_],Lb,G.trans hc,3,_,QT he G.size,?_,?_⟩
 ·rw[E,MW];exact List.map_id _
 rw[Lo];omega
structure Va (base:Nat) (w:World) (n:Nat) (f:Nat→Value) (g:Nat→List Ed):Prop where
 own:∀i,i<n→ZS 144 base w (f i) (g i)
 dj:∀i j,i<n→j<n→i≠j→Dj (f i) (f j)
theorem Va.app {base n i:Nat}{w w':World}{f:Nat→Value}{g:Nat→List Ed}{v':Value}{l:List Ed}(h:Va base w n f g) (hi:i<n) (H:ZS 144 base w' v' l) (hs:Step (ob (f i)) w w')
  (J:∀b∈ob v',b∈ob (f i)∨w.heap.size≤b):Va base w' n (KE f i v') (KE g i l):=by
 refine ⟨λj hj=>?_,λj k hj hk E=>?_⟩
 ·by_cases e:j=i
  ·subst e;rw[Z9,Z9];exact H
  rw[YB _ _ e,YB _ _ e];exact Qi (h.own j hj) hs (h.dj j i hj hi e)
 have key:∀j,j<n→j≠i→Dj v' (f j):=λj hj e b hb G=>by
  rcases J b hb with h1 | h1
  ·exact h.dj i j hi hj (Ne.symm e) b h1 G
  have:=QY (h.own j hj) b G;omega
 by_cases e1:j=i
 ·subst e1;rw[Z9,YB _ _ (Ne.symm E)];exact key k hk (Ne.symm E)
 rw[YB _ _ e1];by_cases e2:k=i
 ·subst e2;rw[Z9];exact (key j hj e1).symm
 rw[YB _ _ e2];exact h.dj j k hj hk E
theorem Va.step {base n:Nat}{X:LN}{w w':World}{f:Nat→Value}{g:Nat→List Ed}(h:Va base w n f g) (hs:Step X w w') (E:∀i,i<n→∀b∈ob (f i),b∉X):Va base w' n f g :=
 ⟨λi hi=>Qi (h.own i hi) hs (E i hi),h.dj⟩
theorem Va.ext {base n:Nat}{w w':World}{f:Nat→Value}{g:Nat→List Ed}(h:Va base w n f g) (hs:Step [] w w'):Va base w' n f g:=h.step hs (λ_ _ _ _=>by simp)
def yY (es:List Ed) (s:Nat):List Ed:=Zv es (s:Int)
theorem Qfw (es:List Ed) (e:Ed) (E:0≤e.1):KE (yY es) e.1.toNat (yY es e.1.toNat++[e])=yY (es++[e]):=by
 funext s;unfold yY Zv;rw[Me];by_cases h:s=e.1.toNat
 ·subst h;rw[Z9];have:e.1=(e.1.toNat:Int):=by omega
  simp[←this]
 rw[YB _ _ h];have:¬e.1=(s:Int):=by omega
 simp[this]
theorem Qbv (es:List Ed) (s:Nat):(yY es s).length≤es.length:=JX es _
def QdS (num:LI) (m:List (Int×Value)):Prop:=∀s:Nat,s<num.length→mget m (s:Int)=if cget num s<0 then none else some (.int .i64 (cget num s))
theorem Vj (l:LI) (k:Int):Zm l k=cget l k.toNat:=rfl
structure KK (b4 mb:Nat) (r2:Value) (wS:World) (c:Cs) (m:List (Int×Value)) (vo vk ve:Value) (w:World):Prop where
 st:Step [b4,mb] wS w
 B4:QX w.heap b4 58 [r2,.int .i64 0,vk,ve]
 M:ZE KH w.heap mb m
 nm:QdS c.num m
 o:Qn 3 wS.heap.size w vo c.ord
 k:Qn 3 wS.heap.size w vk c.mk'
 e:ZS 144 wS.heap.size w ve c.ed
 d1:Dj vo vk
 d2:Dj vo ve
 d3:Dj vk ve
section
variable {b4 mb:Nat} {r2:Value} {wS:World} {c:Cs} {m:List (Int×Value)} {vo vk ve:Value} {w w' w'':World}
theorem KK.ext (h:KK b4 mb r2 wS c m vo vk ve w) (hs:Step [] w w'):KK b4 mb r2 wS c m vo vk ve w' :=
 ⟨h.st.trans hs,h.B4.ext hs,h.M.ext hs,h.nm,Qt h.o hs,Qt h.k hs,Qt h.e hs,h.d1,h.d2,h.d3⟩
theorem KK.setK (h:KK b4 mb r2 wS c m vo vk ve w) (U:b4<wS.heap.size) (lm:mb<wS.heap.size) (ne:mb≠b4) {G:Value}{l:LI}(hs:Step (ob vk) w w') (H:Qn 3 wS.heap.size w' G l)
  (J:∀b∈ob G,b∈ob vk∨w.heap.size≤b) (E:Step [b4] w' w'') (S:QX w''.heap b4 58 [r2,.int .i64 0,G,ve]):KK b4 mb r2 wS ⟨c.ord,c.num,l,c.ed⟩ m vo G ve w'' :=
 ⟨(h.st.then hs (λb hb=>.inr (Qm h.k b hb).1)).then E (λb hb=>.inl (by simp at hb;simp[hb])),S,(h.M.step hs (QU h.k lm)).step E (by simpa using ne),h.nm,
  Qi (Qi h.o hs h.d1) E (λb hb=>by have:=(Qm h.o b hb).1;simp;omega),Qi H E (λb hb=>by have:=(Qm H b hb).1;simp;omega),
  Qi (Qi h.e hs h.d3.symm) E (λb hb=>by have:=(Qm h.e b hb).1;simp;omega),h.d1.grow J (QY h.o),h.d2,(h.d3.symm.grow J (QY h.e)).symm⟩
theorem KK.setE (h:KK b4 mb r2 wS c m vo vk ve w) (U:b4<wS.heap.size) (lm:mb<wS.heap.size) (ne:mb≠b4) {G:Value}{l:List Ed}(hs:Step (ob ve) w w') (H:ZS 144 wS.heap.size w' G l)
  (J:∀b∈ob G,b∈ob ve∨w.heap.size≤b) (E:Step [b4] w' w'') (S:QX w''.heap b4 58 [r2,.int .i64 0,vk,G]):KK b4 mb r2 wS ⟨c.ord,c.num,c.mk',l⟩ m vo vk G w'' :=
 ⟨(h.st.then hs (λb hb=>.inr (Qm h.e b hb).1)).then E (λb hb=>.inl (by simp at hb;simp[hb])),S,(h.M.step hs (QU h.e lm)).step E (by simpa using ne),h.nm,
  Qi (Qi h.o hs h.d2) E (λb hb=>by have:=(Qm h.o b hb).1;simp;omega),Qi (Qi h.k hs h.d3) E (λb hb=>by have:=(Qm h.k b hb).1;simp;omega),
  Qi H E (λb hb=>by have:=(Qm H b hb).1;simp;omega),h.d1,h.d2.grow J (QY h.o),h.d3.grow J (QY h.k)⟩
theorem KK.setN (h:KK b4 mb r2 wS c m vo vk ve w) (lm:mb<wS.heap.size) (ne:mb≠b4) {l:LI}{G:List (Int×Value)}(E:Step [mb] w w') (H:ZE KH w'.heap mb G) (hm:QdS l G):KK b4 mb r2 wS ⟨c.ord,l,c.mk',c.ed⟩ G vo vk ve w' :=
 ⟨h.st.then E (λb hb=>.inl (by simp at hb;simp[hb])),h.B4.step E (by simpa using ne.symm),H,hm,Qi h.o E (λb hb=>by have:=(Qm h.o b hb).1;simp;omega),
  Qi h.k E (λb hb=>by have:=(Qm h.k b hb).1;simp;omega),Qi h.e E (λb hb=>by have:=(Qm h.e b hb).1;simp;omega),h.d1,h.d2,h.d3⟩
theorem KK.setO (h:KK b4 mb r2 wS c m vo vk ve w) (H:b4<wS.heap.size) (lm:mb<wS.heap.size) {E:Value}{l:LI}(hs:Step (ob vo) w w') (J:Qn 3 wS.heap.size w' E l)
  (G:∀b∈ob E,b∈ob vo∨w.heap.size≤b):KK b4 mb r2 wS ⟨l,c.num,c.mk',c.ed⟩ m E vk ve w' :=
 ⟨h.st.then hs (λb hb=>.inr (Qm h.o b hb).1),h.B4.step hs (QU h.o H),h.M.step hs (QU h.o lm),h.nm,J,Qi h.k hs h.d1.symm,Qi h.e hs h.d2.symm,
  (h.d1.symm.grow G (QY h.k)).symm,(h.d2.symm.grow G (QY h.e)).symm,h.d3⟩
end
theorem QdS.set {num:LI}{m:List (Int×Value)}(h:QdS num m) {k:Nat}(hk:k<num.length) {v:Int}(E:0≤v):QdS (num.set k v) (mput m (k:Int) (.int .i64 v)):=by
 intro s hs;rw[MV] at hs;rw[Xx];by_cases e:s=k
 ·subst e;have:cget (num.set s v) s=v:=by unfold cget;simp[List.getD,hk]
  rw[if_pos rfl,this,if_neg (by omega)]
 rw[if_neg (by omega)];have:cget (num.set k v) s=cget num s:=by unfold cget;simp[List.getD,List.getElem?_set_ne (Ne.symm e)]
 rw[this];exact h s hs
theorem Qbo (i:Nat) (c:Cs) (m:LI) (e:Ed):Zb i ⟨c.ord,c.num,m,c.ed⟩ e=⟨(Zb i c e).ord,(Zb i c e).num,m,(Zb i c e).ed⟩∧(Zb i c e).mk'=c.mk':=by
 unfold Zb;split <;> exact ⟨O,O⟩
theorem QaG (i:Nat):∀(l:List Ed) (c:Cs) (m:LI),l.foldl (Zb i) ⟨c.ord,c.num,m,c.ed⟩=⟨(l.foldl (Zb i) c).ord,(l.foldl (Zb i) c).num,m,(l.foldl (Zb i) c).ed⟩∧(l.foldl (Zb i) c).mk'=c.mk'
 | [],c,m=>⟨O,O⟩
 | e::l,c,m=>by
  have h1:=Qbo i c m e;have h2:=QaG i l (Zb i c e) m;rw[Ls,Ls,h1.1,h2.1];exact ⟨O,h2.2.trans h1.2⟩
theorem jo (i:Nat) (c:Cs) (e:Ed):∃r,(Zb i c e).ord=c.ord++r:=by
 unfold Zb;split
 ·exact ⟨_,rfl⟩
 exact ⟨[],by simp⟩
theorem Qb3 (i:Nat):∀(l:List Ed) (c:Cs),∃r,(l.foldl (Zb i) c).ord=c.ord++r
 | [],c=>⟨[],by simp⟩
 | e::l,c=>by
  obtain ⟨E,h1⟩:=jo i c e;obtain ⟨r2,h2⟩:=Qb3 i l (Zb i c e);exact ⟨E++r2,by rw[Ls,h2,h1,LB]⟩
theorem Qfx {a:QE}{i:Nat}{c:Cs}(hi:i<c.ord.length):Vx a i c=Zx a i ((Zv a.ed (cget c.ord i)).foldl (Zb i) c):=by
 unfold Vx;rw[Vj,LY];obtain ⟨r,E⟩:=Qb3 i (Zv a.ed (cget c.ord i)) c;have hm:=(QaG i (Zv a.ed (cget c.ord i)) c c.mk').2;unfold Zx;have G:Zm ((Zv a.ed (cget c.ord i)).foldl (Zb i) c).ord (i:Int)=Zm c.ord (i:Int):=by
  rw[Vj,Vj,E];simp only[Int.toNat_natCast];exact yE hi
 rw[G];split
 ·rw[(QaG i _ c _).1,hm]
 rfl
set_option maxHeartbeats 8000000 in
theorem zy {w:World}{bp:Nat}{q:Pz}{lf:Lf}(hA:PzA [] w.heap bp q) (hq:PzQ q) (hB:QX w.heap q.bl 4 (lf.map Value.bool)) (hl:lf.length=q.n) :
  QM prog 218 [.pointer (some ⟨bp,0,none⟩)] w λr w'=>Step [] w w'∧∃v o,r=.tuple #[v,o]∧Xb w.heap.size w'.heap v (yW q.a lf)∧o.oneCell'=true:=by
 have hn:=hq.n;have hst1:=hq.ok.st1;have kj:=hq.ok.ed_le;have hml:=hq.ok.mr_le;have pp:=Jf hq.ok lf;have Y:yW q.a lf=if q.a.st=0∨lft lf 0=false then ⟨q.a.al,0,[],[]⟩ else Zt (rstr q.a lf):=rfl
 refine Zs (yW q.a lf) λSA pt=>?_;rw[pt] at Y ⊢;refine QM.of_W func218 O ntmps218 results218 (by simp) ?_;refine Qd<|xl O<|Qu (us:=[nS,.int .i64 0,nS,nS]) O λb2 w1 gj hb2 h9=>Qf ?_;have hz1:=gj.size;have hl2:=h9.lt;have kk:=hA.ext gj;refine Qd<|Qb<|x (Qr O)<|x (Qa O)<|x (Qa O)<|x (Qc kk.B O O)<|xl O<|xf<|(Zk kk.a.al).mono ?_;rintro r2 w2 ⟨hL,hv⟩;have hz2:=hL.size
 have hM:=Qn.ints (L:=[]) hv hA.a.al.le (by simp);refine x (QG ⟨hM.cells,La⟩)<|xl O<|Qu (us:=[nS,.int .i64 0,nS,nS]) O λb4 w3 pu pw hC =>
  xl rfl<|Qq (us:=[r2,.int .i64 0,nS,nS]) hC O O O O ⟨hM.one,O,O,O,La⟩ λw4 pz hC=>xe ?_
 have U:Step [] w2 w4:=pu.then1 pz pw;have Z:=gj.trans hL;have hD:=Z.trans U;have hl4:=hC.lt;have hz24:=U.size;have gk:=hA.ext hD;have p0:∀b∈ob r2,b<w2.heap.size:=QY hv;refine Qg<|Q0 (α:=Bool) [(22,36)] (λz=>[(36,.bool z)]) (λz w'=>w'=w4∧(z=true↔(q.a.st=0∨lft lf 0=false))) (by rfl) ?_ ?_
 ·refine Qx<|Qb<|x (Qr O)<|x (Qa O)<|x (Qa O)<|x (Qc gk.B O O)<|xb (Zf O O) (λgl=>?_) (λgl=>?_)
  ·refine Qb<|xs O<|xs O<|xs O<|xs O<|xs O<|xs O<|xs O<|x (Qp O)<|xe ?_;exact ⟨_,Lb,O,by simp[gl]⟩
  have gm:(0:Int).toNat<lf.length:=by
   have:0<q.n:=by omega
   simp;omega
  have gn:=UR (l:=lf) (s:=0) gm;refine Qb<|Qb<|x (Qr O)<|x (Qa O)<|x (Qc gk.B O O)<|x (QP (i:=0) O O (by simp at gm;omega))<|x (v:=.bool (lft lf 0)) ((JG (i:=0) (hB.ext hD) O gm).trans (by rw[←gn];rfl))<|x (Zh O)<|x (Qp O)<|xe ?_;exact ⟨_,Lb,O,by simp[gl]⟩
 rintro z g w4 ⟨rfl,hz⟩;refine Q8 rfl (λhN=>?_) (λhN=>?_)
 ·rw[if_pos (hz.1 hN)] at Y;subst Y;refine Qd<|x (Qo hC O O)<|xl O<|Qq (us:=[r2,.int .i64 0,nS,nS]) ((h9.ext hL).ext U) O O O O ⟨hM.one,O,O,O,La⟩ λw6 hw h9=>Qf<|Qs ⟨[.agg #[r2,.int .i64 0,nS,nS],nS],⟨⟨_,O,QF O (h9.at (L:=[]) (by simp)).cells⟩,rfl,La⟩,hD.then1 hw (by omega),_,_,rfl,?_,rfl⟩;have p1:=Qi (Qt hv U) hw (λb hb=>by have:=(Qm hv b hb).1;simp;omega)
  exact ⟨r2,_,_,O,λL' hE=>⟨Qn.ints p1 hA.a.al.le (λb hb=>by have:=hE b hb;omega),Zz.nil _ _ _,Zz.nil _ _ _⟩⟩
 have kn:¬(q.a.st=0∨lft lf 0=false):=λh=>by rw[hz.2 h] at hN;cases hN
 rw[if_neg kn] at Y;have p2:0<q.a.st:=by have:=hq.ok.st0;omega
 have ko:(rstr q.a lf).st.toNat=q.n:=by show q.a.st.toNat=q.n;omega
 unfold Zt at Y;rw[if_neg (show ¬(rstr q.a lf).st=0 from λh=>kn (.inl h)),ko] at Y;simp only[] at Y;refine Qj<|Qd<|Qb<|x (Qr O)<|x (Qa O)<|x (Qa O)<|x (Qc gk.B O O)<|xl O<|YG (n:=q.n) (congrArg (Value.int .i64) hn) (congrArg (Value.int .i64) hn) (by omega) λbE w6 hw p3 gq=>Qf ?_;rw[Qbu] at gq;have hz6:=hw.size;have hlE:=gq.lt;have p4:=hD.trans hw;have kq:=hA.ext p4
 refine Qg<|Qd<|Qb<|x (Qr O)<|x (Qa O)<|x (Qa O)<|x (Qc kq.B O O)<|x (Qw kq.a.ed O)<|Qb<|xe<|Qh<|QC (α:=Nat×(Nat→Value)) [(7,7),(50,74)] (λz=>[(50,.int .i64 z.1)]) (λz w'=>z.1≤q.a.ed.length∧Step [bE] w6 w'∧QX w'.heap bE 56 ((List.range q.n).map z.2)∧Va w6.heap.size w' q.n z.2 (yY ((q.a.ed.take z.1).filter λe=>lft lf e.2.2))) (λz=>q.a.ed.length - z.1) (by rfl) (0,λ_=>nS) Lb
  ⟨Lm _,Step.refl _ _,gq,⟨λi _=>QR _ _ _ _,λi j _ _ _=>Dj.nil _⟩⟩ ?_
 rintro ⟨k,rv⟩ g w7 ⟨hk,hO,gr,V⟩;simp only[] at hk gr V;have hF:Step [] w4 w7:=hw.then1 hO p3;have gs:=hD.trans hF;have hz7:=hO.size;have kr:=hA.ext gs;refine Qd<|x (QD O O)<|xe<|Qg<|QI O (λgt=>?_) (λgt=>?_)
 ·refine Qy ?_;have p5:q.a.ed.length≤k:=by have hP:¬(k:Int)<(q.a.ed.length:Int):=gt;omega
  rw[Lq p5] at V;have V:Va w6.heap.size w7 q.n rv (yY (rstr q.a lf).ed):=V;have kt:(rstr q.a lf).ed.length≤q.a.ed.length:=Mj _ _;refine Qd<|xl O<|ZM KH λmb w8 gu p6 p7=>xl O<|Xg (k:=(0:Int)) p7 O O λE gv ku=>Qb<|Qf ?_;have H:Step [] w7 E:=gu.then1 gv p6;have p8:=H.size;have hQ:=ku.lt
  refine Qd<|xl O<|QL (us:=[[.int .i64 0]]) O O (by decide) (by simp) ⟨rfl,rfl,La⟩ λkv gx hy hb77 p9=>Qf<|Qg<|Qd<|Qf ?_;have gy:mb≠b4:=by omega
  have hG:b4<E.heap.size:=by omega
  have kw:=gs.trans H;have gz:∀b∈[b4,mb],w2.heap.size≤b:=λb hb=>by simp only[List.mem_cons,List.not_mem_nil,or_false] at hb;omega
  have qa:PzA [b4,mb] E.heap bp q:=((hA.ext Z).up (λb hb=>.inr (gz b hb))).ext (U.trans (hF.trans H));have hBS:QX E.heap q.bl 4 (lf.map Value.bool):=hB.ext kw;have hlw:=hB.lt;have kx:∀s,s<q.n→qc [b4,mb] E.heap (rv s) (yY (rstr q.a lf).ed s):=λs hs=>QW (Qt (V.own s hs) H) (by have:=Qbv (rstr q.a lf).ed s;omega) (λb hb hm=>by
   have h1:=(Qm (V.own s hs) b hb).1;have h2:=QY (V.own s hs) b hb;simp only[List.mem_cons,List.not_mem_nil,or_false] at hm;omega)
  have hH:=gr.ext H;have g0:∀b,b<w2.heap.size→b∉[b4,mb]:=λb hb hm=>by have:=gz b hm;omega
  have qe:bE∉[b4,mb]:=by simp only[List.mem_cons,List.not_mem_nil,or_false];omega
  have qf:q.bl<w2.heap.size:=by omega
  have hBl9:q.bl∉[b4,mb]:=g0 _ qf;have ql:QX E.heap b4 58 [r2,.int .i64 0,nS,nS]:=((hC.ext hF)).ext H;have qm:QX E.heap b2 58 [nS,.int .i64 0,nS,nS]:=((h9.ext hL).ext U).ext (hF.trans H);have q0:=Qt hv (U.trans (hF.trans H));have q1:Qn 3 E.heap.size gx (.slice (some ⟨kv,0,none⟩) 1 1) [0]:=p9.own (n:=1) (sz:=1) O (by omega) (by omega)
  have kz:QdS (ZH (rstr q.a lf)).num (mput [] (0:Int) (.int .i64 0)):=by
   have h0:QdS (List.replicate q.n (-1)) ([]:List (Int×Value)):=λs hs=>by
    have q2:s<q.n:=by simpa using hs
    have:cget (List.replicate q.n (-1)) s=-1:=by unfold cget;simp[List.getD,q2]
    rw[this];rfl
   have h1:=h0.set (k:=0) (by simp;omega) (v:=0) (Ni _);unfold ZH;rw[ko];exact h1
  have g1:∀e∈(rstr q.a lf).ed,0≤e.1∧e.1<q.a.st∧0≤e.2.2∧e.2.2<q.a.st:=λe he=>by have:=pp.ed e he;exact ⟨this.1,this.2.1,this.2.2.2.1,this.2.2.2.2⟩
  have k0:VT q.a.st (ZH (rstr q.a lf)):=Qfb (a:=rstr q.a lf) p2;have k5:(rstr q.a lf).mr=q.a.mr:=rfl;refine Zs (rstr q.a lf) λR hR=>?_;rw[hR] at Y kx kz g1 k0 k5 kt;have q3:R.al=q.a.al:=by rw[←hR];rfl
  have hnN:q.a.st.toNat=q.n:=by omega
  refine Qh<|QC (α:=Nat×Cs×List (Int×Value)×Value×Value×Value) [(9,10),(12,14),(78,142)] (λz=>[(9,z.2.2.2.1),(10,.int .i64 z.1)])
   (λz w'=>KK b4 mb r2 E z.2.1 z.2.2.1 z.2.2.2.1 z.2.2.2.2.1 z.2.2.2.2.2 w'∧z.1≤z.2.1.ord.length∧VT q.a.st z.2.1∧z.2.1.mk'.length≤z.1∧z.2.1.ed.length≤z.1*131072∧Yu R (q.n - z.1) z.1 z.2.1=Yu R q.n 0 (ZH R)) (λz=>q.n - z.1) (by rfl)
   (0,ZH R,mput [] (0:Int) (.int .i64 0),.slice (some ⟨kv,0,none⟩) 1 1,nS,nS) ⟨O,O,La⟩
   ⟨⟨hy.any,ql.ext hy,ku.ext hy,kz,q1,QR _ _ _ _,QR _ _ _ _,Dj.nil' _,Dj.nil' _,Dj.nil' _⟩,Lm _,k0,Lm _,Lm _,O⟩ ?_
  rintro ⟨i,c,m,vo,vk,ve⟩ g q4 ⟨J,hi,hc,q5,j1,g2⟩;simp only[] at J hi hc q5 j1 g2;have hcle:=hc.le;have hS:=Qn.ints (L:=[]) J.o (by omega) (by simp);refine Qg<|Qd<|Qb<|Qb<|x (Qw hS O)<|x (QD O O)<|xe<|QI O (λj2=>?_) (λj2=>?_)
  ·refine Qy ?_;have za:c=Yu R q.n 0 (ZH R):=by rw[←g2,j4 (by omega)]
   refine Qd<|Qb<|x (Qw hS O)<|x (Qa O)<|xl O<|QH J.B4 O O (by simp) rfl λhj Z hf=>xe ?_;have zb:=Qn.ints (L:=[]) J.k (by omega) (by simp);have z0:=ZS.eds (L:=[]) J.e (by have:=hc.el;omega) (by simp)
   refine Qd<|x (Qo hf O O)<|Qb<|xl O<|Qq (us:=[r2,.int .i64 c.ord.length,vk,ve]) ((qm.step J.st (g0 _ (by omega))).step Z (by simp;omega)) O O O O ⟨hM.one,O,zb.one,z0.one,La⟩ λz1 hT z2=>Qf ?_;have k6:Step [b4,mb] E hj:=J.st.then Z (λb hb=>.inl (by simp at hb;simp[hb]))
   have z3:Step [] w z1:=(kw.then k6 (λb hb=>.inr (by have:=gz b hb;omega))).then1 hT (by omega);refine Qs ⟨[.agg #[r2,.int .i64 c.ord.length,vk,ve],vo],⟨⟨_,O,QF O (z2.at (L:=[]) (by simp)).cells⟩,rfl,La⟩,z3,_,_,rfl,?_,hS.one⟩;rw[←za] at Y;subst Y;have k1:=Qi (Qi J.k Z (λb hb=>by have:=(Qm J.k b hb).1;simp;omega)) hT (λb hb=>by have:=(Qm J.k b hb).1;simp;omega)
   have k2:=Qi (Qi J.e Z (λb hb=>by have:=(Qm J.e b hb).1;simp;omega)) hT (λb hb=>by have:=(Qm J.e b hb).1;simp;omega);have k3:=Qi (Qi q0 k6 (λb hb=>g0 b (p0 b hb))) hT (λb hb=>by have:=(Qm hv b hb).1;simp;omega)
   exact ⟨r2,vk,ve,O,λL' hE=>⟨by rw[q3];exact Qn.ints k3 hA.a.al.le (λb hb=>by have:=hE b hb;omega),Qn.ints k1 (by show c.mk'.length≤_;omega) (λb hb=>by have:=hE b hb;omega),ZS.eds k2 (by show c.ed.length≤_;have:=hc.el;omega) (λb hb=>by have:=hE b hb;omega)⟩⟩
  have G:i<c.ord.length:=by omega
  refine Qj ?_;have k7:=Q5 G;have hsr:=hc.ord _ (XX G);have hh:=Qfx (a:=R) G;refine Zs (cget c.ord i) λs0 k8=>?_;rw[k8] at k7 hsr hh;have k9:s0=(s0.toNat:Int):=by omega
  have g3:s0.toNat<q.n:=by omega
  have z4:yY R.ed s0.toNat=Zv R.ed s0:=by unfold yY;rw[←k9]
  have hU:=kx s0.toNat g3;rw[z4] at hU;have z6:=JX R.ed s0;have ma:∀e∈Zv R.ed s0,0≤e.2.2∧e.2.2<q.a.st:=λe he=>⟨(g1 e (Ya he).1).2.2.1,(g1 e (Ya he).1).2.2.2⟩;refine Zs (Zv R.ed s0) λos z9=>?_;rw[z9] at hU z6 ma hh;refine Qg<|Qh<|Qg<|Qd<|Qb<|Qb<|Qb<|xii (i:=i) hS O O G λa87 mc=>?_;rw[k7] at mc
  refine x (Qv mc O)<|x (QP (i:=s0.toNat) O (congrArg (Value.int .i64) k9) g3)<|x (Qc (u:=rv s0.toNat) (hH.step J.st qe) O (V2 g3))<|x (Qw (hU.st J.st) O)<|Qb<|xe<|Qh<|QC (α:=Nat×Cs×List (Int×Value)×Value×Value) [(9,9),(12,14),(92,126)] (λz=>[(9,z.2.2.2.1),(92,.int .i64 z.1)])
   (λz w'=>KK b4 mb r2 E z.2.1 z.2.2.1 z.2.2.2.1 vk z.2.2.2.2 w'∧z.1≤os.length∧VT q.a.st z.2.1∧z.2.1.mk'=c.mk'∧z.2.1.ed.length=c.ed.length+z.1∧(∃r,z.2.1.ord=c.ord++r)∧(os.drop z.1).foldl (Zb i) z.2.1=os.foldl (Zb i) c) (λz=>os.length - z.1) (by rfl) (0,c,m,vo,ve) ⟨O,O,La⟩
   ⟨J,Lm _,hc,O,O,⟨[],by simp⟩,rfl⟩ ?_
  rintro ⟨k4,d,m4,hV,hW⟩ g hj ⟨hg,hk4,S,g4,mf,hX,h3⟩;simp only[] at hg hk4 S g4 mf hX h3;have hcle4:=S.le;have hoA4:=Qn.ints (L:=[]) hg.o (by omega) (by simp);have g5:i<d.ord.length:=by obtain ⟨r,hr⟩:=hX;rw[hr,Lk];omega
  have mg:cget d.ord i=s0:=by obtain ⟨r,hr⟩:=hX;rw[hr,yE G];exact k8
  refine Qd<|x (QD O O)<|xe<|Qg<|QI O (λh93=>?_) (λh93=>?_)
  ·refine Qy ?_;rw[Lr (by omega),MF] at h3;rw[←h3] at hh;have mh:=qa.st hg.st;have hg4:d.ord[i]'g5=s0:=by rw[Q5 g5];exact mg
   have hmkC:Zx R i d=if s0∈q.a.mr then ⟨d.ord,d.num,d.mk'++[(i:Int)],d.ed⟩ else d:=by
    unfold Zx;rw[Vj,LY,mg,k5]
   rw[hmkC] at hh;have hY:Yu R (q.n - (i+1)) (i+1) (Vx R i c)=Yu R q.n 0 (ZH R):=by
    rw[←g2];obtain ⟨t,ht⟩:∃t,q.n - i=t+1:=⟨q.n - i - 1,by omega⟩;rw[ht,Yu,if_pos G,show q.n - (i+1)=t by omega]
   have hm4l:=congrArg List.length g4;refine Qg<|QV (Step [] hj) [(0,true),(1,true),(2,true),(3,true),(4,true),(5,true),(6,true),(7,true),(8,true),(9,false)] mixed (by rfl) (by kernel_rfl) (Step.drew _ _) ?_;refine p (λ_=>Ql)<|p (λ_=>Qr O)<|p (λ_=>Qa O)<|p (λ_=>Qa O)<|pq (λ_ hc=>Qc (mh.B.ext hc) O O)<|p (λ_=>Ql) <|
    p (λ_=>Ql)<|pii (i:=i) O hoA4 O O g5 λa134 mj=>?_
   rw[hg4] at mj;refine pq (λ_ hc=>Qv (mj.ext hc) O)<|pk<|xf<|(XR (mh.a.mr.ext (Step.drew _ _)) s0).mono ?_;rintro r16 w16 ⟨rfl,rfl⟩;refine ⟨Step.drew _ _,pe ?_⟩;have ha:=hg.ext (Step.drew [] hj);refine QI O (λg6=>?_) (λg6=>?_)
   ·rw[if_neg g6] at hh;refine Qj<|Qx<|Qb<|QN O O<|Qf ?_;rw[hh] at hY;exact ⟨(i+1,d,m4,hV,vk,hW),by simp only[];omega,⟨O,O,La⟩,ha,by simp only[];omega,S,by simp only[];omega,by simp only[];omega,hY⟩
   rw[if_pos g6] at hh;refine Qx<|x (Qa O)<|x (Qc ha.B4 O O)<|Qb<|xl O<|QL (us:=[[.int .i64 i]]) O O (by decide) (by simp) ⟨rfl,rfl,La⟩ λb140 w17 hs17 hb140 hB140=>?_;have hJ:=ha.ext hs17;refine xl O<|QZ (news:=[.int .i64 i]) (L:=[]) hJ.k O O O (hB140.at (by simp)) (by simp[Value.oneCell']) (by omega) hJ.st.size λmo w18 mq ms hn18=>?_
   have hk18:Qn 3 E.heap.size w18 mo (d.mk'++[(i:Int)]):=Qn.snoc mq;refine x (Qa O)<|xl O<|QH (hJ.B4.step ms (QU hJ.k hG)) O O (by simp) (Q3 mq) λw19 hs19 hB19=>xe ?_;have hI19:=hJ.setK hG hQ gy ms hk18 hn18 hs19 hB19;refine Qx<|Qb<|QN O O<|Qf ?_;rw[hh] at hY
   exact ⟨(i+1,⟨d.ord,d.num,d.mk'++[(i:Int)],d.ed⟩,m4,hV,mo,hW),by simp only[];omega,⟨O,O,La⟩,hI19,by simp only[];omega,⟨S.nl,S.sum,S.ord,S.num,S.el⟩,by simp only[List.length_append,List.length_singleton];omega,by simp only[];omega,hY⟩
  refine Qj ?_;have hZ:k4<os.length:=by omega
  have hdr:=Q9 hZ;rw[hdr,Ls] at h3;have g7:=ma _ (Lj hZ);refine Zs (os[k4]'hZ) λe he=>?_;rw[he] at h3 g7;have ga:e.2.2=(e.2.2.toNat:Int):=by omega
  have gc:e.2.2.toNat<d.num.length:=by rw[S.nl];omega
  have mt:=hg.nm e.2.2.toNat gc;rw[←ga] at mt;have mu:Zm d.num e.2.2=cget d.num e.2.2.toNat:=rfl;refine Qg<|Qh<|Qd<|xie (hU.st hg.st) O O hZ λa94 mv=>?_;rw[he] at mv;refine x (QQ mv O O)<|xl O<|Qu (us:=[.int .i64 0,.int .i64 0,.int .i64 0]) O λg8 w20 hs20 g9 hf=>xl O<|Qq (us:=Qz e) hf O O O O ⟨O,O,O,La⟩ λge hs21 hf=>xe ?_;have mw:Step [] hj ge:=hs20.then1 hs21 g9
  have ha:=hg.ext mw;have hl12:=hf.lt;have hz21:=mw.size;have hIz:=hg.st.size;have my:VT q.a.st (Zb i d e):=Qbn S g7.1 g7.2 (by have:=S.el;omega);have mz:Zb i d e=⟨(Z8 d e).ord,(Z8 d e).num,(Z8 d e).mk',(Z8 d e).ed++[((i:Int),e.2.1,Zm (Z8 d e).num e.2.2)]⟩:=zm gc;have hordl:=my.le
  refine Q0 (α:=Value) [(13,14),(96,102)] (λz=>[(13,.int .i64 (if cget d.num e.2.2.toNat<0 then 0 else cget d.num e.2.2.toNat)),(14,.bool (!decide (cget d.num e.2.2.toNat<0)))]) (λz w'=>w'=ge) (by rfl) ?_ ?_
  ·refine Qx<|Qb<|x (Qa O)<|x (Qc hf O O)<|x (v:=.tuple #[.int .i64 (if cget d.num e.2.2.toNat<0 then 0 else cget d.num e.2.2.toNat),.bool (!decide (cget d.num e.2.2.toNat<0))]) ((KR (k:=e.2.2) ha.M O O).trans (congrArg (λv=>Result.ok (Next.value v) _) ?_))<|Qb<|x (Qk O O)<|x (Qk O O)<|x Qe<|Qf ?_
   ·rw[mt];by_cases ho:cget d.num e.2.2.toNat<0
    ·simp[ho]
    simp[ho]
   exact ⟨.bool true,⟨O,O,La⟩,O⟩
  rintro z5 g ge rfl;refine Q0 (α:=Value×List (Int×Value)×Int) [(9,9),(13,13),(103,115)] (λz=>[(9,z.1),(13,.int .i64 z.2.2)]) (λz w'=>cget (Z8 d e).num e.2.2.toNat=z.2.2∧KK b4 mb r2 E (Z8 d e) z.2.1 z.1 vk hW w'∧QX w'.heap g8 144 (Qz e)∧ge.heap.size≤w'.heap.size) (by rfl) ?_ ?_
  ·refine Qd<|Qb<|x (Zh O)<|xe<|Q8 O (λka=>?_) (λka=>?_)
   ·have ho:cget d.num e.2.2.toNat<0:=by simpa using ka
    have hK:Z8 d e=⟨d.ord++[e.2.2],d.num.set e.2.2.toNat d.ord.length,d.mk',d.ed⟩:=by unfold Z8;rw[mu,if_pos ho]
    have hcg:cget (Z8 d e).num e.2.2.toNat=(d.ord.length:Int):=by rw[hK];unfold cget;simp[List.getD,gc]
    refine Qd<|Qb<|x (Qw (Qn.ints (L:=[]) ha.o (by omega) (by simp)) rfl)<|Qf<|Qd<|Qb<|x (Qa rfl)<|x (Qc hf rfl rfl)<|Qb<|xl rfl<|Yx (k:=e.2.2) ha.M rfl rfl λw22 kb hM22=>xe ?_;have m0:=ha.nm.set gc (v:=(d.ord.length:Int)) (by omega);rw[←ga] at m0;have hI6:=ha.setN hQ gy kb hM22 m0;have gg:=hf.step kb (by simp;omega)
    refine Qx<|Qb<|x (Qa O)<|x (Qc gg O O)<|xl O<|QL (us:=[[.int .i64 e.2.2]]) O O (by decide) (by simp) ⟨rfl,rfl,La⟩ λb114 w23 kc hb114 hB114=>?_;have ke:=hI6.ext kc;refine xl O<|QZ (news:=[.int .i64 e.2.2]) (L:=[]) ke.o O O O (hB114.at (by simp)) (by simp[Value.oneCell']) (by show d.ord.length+1≤_;omega) ke.st.size λm2 w24 ho24 U hn24=>Qf ?_
    have hk24:Qn 3 E.heap.size w24 m2 (d.ord++[e.2.2]):=Qn.snoc ho24;have hb12o:g8∉ob hV:=λhb=>by have:=QY hg.o g8 hb;omega
    have h4:=ke.setO hG hQ U hk24 hn24;have:=kb.size;have:=kc.size;have:=U.size;refine ⟨(m2,mput m4 e.2.2 (.int .i64 d.ord.length),(d.ord.length:Int)),⟨O,O,La⟩,hcg,?_,(gg.ext kc).step U hb12o,by omega⟩;simp only[];rw[hK];exact h4
   have ho:¬cget d.num e.2.2.toNat<0:=by simpa using ka
   have hK:Z8 d e=d:=by unfold Z8;rw[mu,if_neg ho]
   have kj:(if cget d.num e.2.2.toNat<0 then 0 else cget d.num e.2.2.toNat)=cget (Z8 d e).num e.2.2.toNat:=by rw[hK,if_neg ho]
   refine Qj<|⟨(hV,m4,if cget d.num e.2.2.toNat<0 then 0 else cget d.num e.2.2.toNat),⟨O,O,La⟩,kj.symm,?_,hf,Lv _⟩
   rw[hK];exact ha
  rintro ⟨vo5,m5,tn⟩ g w25 ⟨m3,h4,gg,hz25⟩;simp only[] at h4 m3;have hnl:(Z8 d e).num.length=d.num.length:=Qey d e;have m6:(Z8 d e).ed=d.ed:=by unfold Z8;split <;> rfl
  have hgN:Zm (Z8 d e).num e.2.2=cget (Z8 d e).num e.2.2.toNat:=rfl;rw[hgN,m6,m3] at mz;have heN:ZS 144 E.heap.size w25 hW d.ed:=by have:=h4.e;rw[m6] at this;exact this
  refine Qx<|x (Qa O)<|x (Qc h4.B4 O O)<|Qb<|x (Qa O)<|x (Qc gg O O)<|Qb<|x (QG ⟨O,O,O,La⟩) <|
   xl rfl<|QL (us:=[Qz ((i:Int),e.2.1,tn)]) O O (by decide) (by exact (by decide:1*3≤1000000)) ⟨O,O,La⟩ λb123 w26 m7 hb123 hB123=>?_
  have gh:=h4.ext m7;refine xl O<|QZ (m:=1) (news:=Qz ((i:Int),e.2.1,tn)) (L:=[]) (Qt heN m7) O O O (hB123.at (by simp)) (λu hu=>by simp only[Qz,List.mem_cons,List.not_mem_nil,or_false] at hu;rcases hu with rfl | rfl | rfl <;> rfl) (by have:=S.el;omega) gh.st.size λm8 w27 m9 pa hn27=>?_
  have hk27:ZS 144 E.heap.size w27 m8 (d.ed++[((i:Int),e.2.1,tn)]):=ZS.snoc m9;refine x (Qa O)<|xl O<|QH (gh.B4.step pa (QU gh.e hG)) O O (by simp) (Q3 m9) λw28 hs28 hB28=>xe ?_;have pc:=gh.setE hG hQ gy pa hk27 hn27 hs28 hB28;rw[←mz] at pc;refine Qx<|QN O O<|Qb<|xe ?_
  refine ⟨(k4+1,Zb i d e,m5,vo5,m8),by simp only[];omega,⟨O,O,La⟩,pc,by simp only[];omega,my,?_,?_,?_,h3⟩
  ·simp only[];rw[←g4];exact (Qbo i d [] e).2
  ·simp only[];rw[Qbp,mf];omega
  simp only[];obtain ⟨r1,h1⟩:=jo i d e;obtain ⟨r2',h2⟩:=hX;exact ⟨r2'++r1,by rw[h1,h2,LB]⟩
 refine Qj ?_;have G:k<q.a.ed.length:=by have hP:(k:Int)<(q.a.ed.length:Int):=gt;omega
 have pd:=hq.ok.ed _ (Lj G);have htk:q.a.ed.take (k+1)=q.a.ed.take k++[q.a.ed[k]'G]:=Ll G;have h5:(q.a.ed.take (k+1)).filter (λe=>lft lf e.2.2)=(q.a.ed.take k).filter (λe=>lft lf e.2.2)++if lft lf (q.a.ed[k]'G).2.2=true then [q.a.ed[k]'G] else []:=by
  rw[htk,Me];congr 1;by_cases h:lft lf (q.a.ed[k]'G).2.2=true
  ·simp[h]
  simp[h]
 have hfll:((q.a.ed.take k).filter (λe=>lft lf e.2.2)).length≤k:=L5 (Mj _ _) (by rw[LF];omega);refine Zs ((q.a.ed.take k).filter (λe=>lft lf e.2.2)) λkept hkept=>?_;rw[hkept] at h5 V hfll;refine Zs (q.a.ed[k]'G) λe he=>?_;rw[he] at pd h5;have pf:e.1=(e.1.toNat:Int):=by omega
 have ga:e.2.2=(e.2.2.toNat:Int):=by omega
 have gn:=UR (l:=lf) (s:=e.2.2) (by omega);have hp:e.1.toNat<q.n:=by omega
 refine Qg<|Qh<|Qd<|xie kr.a.ed O O G λa52 hP=>?_;rw[he] at hP;refine x (QQ hP O O)<|xl O<|Qu (us:=[.int .i64 0,.int .i64 0,.int .i64 0]) O λb7 w8 gu hb7 h6=>xl O<|Qq (us:=Qz e) h6 O O O O ⟨O,O,O,La⟩ λE gv h6=>xe ?_;have H:Step [] w7 E:=gu.then1 gv hb7;have p8:=H.size;have hA9:=kr.ext H;have hB9:=hB.ext (gs.trans H);have kf:=V.ext H;have hH:=gr.ext H
 refine Qg<|QV (Step [] E) [(0,true),(1,true),(2,true),(3,true),(4,true),(5,true),(6,true),(7,true)] mixed (by rfl) (by kernel_rfl) (Step.drew _ _) ?_;refine p (λ_=>Ql)<|p (λ_=>Qr O)<|p (λ_=>Qa O)<|pq (λ_ hc=>Qc (hA9.B.ext hc) O O)<|p (λ_=>Qa O)<|pq (λ_ hc=>Qc (h6.ext hc) O O) <|
  p (λ_=>QP (i:=e.2.2.toNat) O (congrArg (Value.int .i64) ga) (by omega))<|pq (v:=.bool (lft lf e.2.2)) (λ_ hc=>(JG (i:=e.2.2.toNat) (hB9.ext hc) O (by omega)).trans (by rw[gn]))<|pe ?_
 have h7:Step [] E { E with drawn:=E.drawn+1 }:=Step.drew _ _
 refine Q8 rfl (λkg=>?_) (λkg=>?_)
 ·rw[if_pos kg] at h5;have hrow:=kf.own _ hp;have kh:∀b∈ob (rv e.1.toNat),w6.heap.size≤b∧b<w7.heap.size:=λb hb=>⟨(Qm (V.own _ hp) b hb).1,QY (V.own _ hp) b hb⟩;have pg:bE∉ob (rv e.1.toNat):=λhb=>by have:=kh _ hb;omega
  have ki:b7∉ob (rv e.1.toNat):=λhb=>by have:=kh _ hb;omega
  have kt:=Qbv kept e.1.toNat;refine QV (Step (ob (rv e.1.toNat)) E) [(0,true),(1,true),(2,true),(3,true),(4,true),(5,true),(6,true),(7,true),(8,true),(9,false),(10,false),(11,true),(12,false)] mixed (by rfl) (by kernel_rfl) (h7.any.trans' (Step.drew _ _)) ?_;refine p (λ_=>Ql)<|p (λ_=>Qa O)<|pq (λ_ hc=>Qc (h6.step hc ki) O O)<|p (λ_=>Ql)<|p (λ_=>Qa O) <|
   pq (λ_ hc=>Qc (h6.step hc ki) O O)<|p (λ_=>QP (i:=e.1.toNat) O (congrArg (Value.int .i64) pf) hp)<|pq (λ_ hc=>Qc (u:=rv e.1.toNat) (hH.step hc pg) O (V2 hp)) <|
   pq (λ_ hc=>Qo (h6.step hc ki) O O)<|pk<|QL (us:=[Qz e]) O O (by decide) (by exact (by decide:1*3≤1000000)) ⟨O,O,La⟩ λb71 gx hy hb71 hB71=>⟨(h7.any.trans' (Step.drew _ _)).trans' hy.any,?_⟩
  have h8:Step [] E gx:=(h7.trans (Step.drew _ _)).trans hy;have hz10:=h8.size;refine pk<|QZ (m:=1) (news:=Qz e) (L:=[]) (Qt hrow h8) O O O (hB71.at (by simp)) (λu hu=>by simp only[Qz,List.mem_cons,List.not_mem_nil,or_false] at hu;rcases hu with rfl | rfl | rfl <;> rfl) (by omega) (by omega) λvr q4 ph gi hn11=>⟨h8.any.trans' gi,?_⟩
  have hBE11:=(hH.ext h8).step gi pg;have hlen:((List.range q.n).map rv).length=q.n:=by simp
  refine p (λ_=>QP (i:=e.1.toNat) O (congrArg (Value.int .i64) pf) hp)<|pkl (hl:=by kernel_rfl)<|QH (j:=0+e.1.toNat*1) (u:=vr) hBE11 O O (by rw[hlen];omega) (Q3 ph) λhj Z hBE12=>pe ?_;have g9:QX hj.heap bE 56 ((List.range q.n).map (KE rv e.1.toNat vr)):=by
   have e1:=Qbf id q.n rv e.1.toNat vr;simp only[id] at e1;rw[←e1];simpa using hBE12
  have hvn:∀b∈ob vr,b∈ob (rv e.1.toNat)∨E.heap.size≤b:=λb hb=>(hn11 b hb).imp id (λh=>by omega);have pj:=kf.app hp (ZS.snoc ph) (h8.any.trans' gi) hvn;have pn:=pj.step Z (λi hi b hb=>by have:=(Qm (pj.own i hi) b hb).1;simp only[List.mem_singleton];omega);rw[Qfw kept e pd.1,←h5] at pn;refine Qx<|QN O O<|Qb<|xe ?_
  exact ⟨(k+1,KE rv e.1.toNat vr),by simp only[];omega,Lb,G,(((hO.trans H).trans h8).then gi (λb hb=>.inr (kh b hb).1)).trans' Z,g9,pn⟩
 rw[if_neg (by rw[kg];decide),LU] at h5;refine Qj<|Qx<|QN O O<|Qb<|xe ?_;exact ⟨(k+1,rv),by simp only[];omega,Lb,G,(hO.trans H).trans h7,(hH.ext h7),by simp only[];rw[h5];exact kf.ext h7⟩
open Go.Sort
abbrev Rz:={ x:Int×Int×Int×Int // 0≤x.1∧x.1<4096 }
instance:Inhabited Rz:=⟨⟨(0,0,0,0),by decide⟩⟩
abbrev zo (x:Rz):LV:=[.int .i64 x.1.1,.int .i64 x.1.2.1,.int .i64 x.1.2.2.1,.int .i64 x.1.2.2.2]
abbrev RzO (base:Nat) (w:World) (v:Value) (l:List Rz):Prop:=w.ownsRow base 320 4 v l.length (l.flatMap zo)
set_option maxHeartbeats 1000000 in
theorem Qnz (x y:Rz) (W:World):Calls prog 216 #[.agg (zo x).toArray,.agg (zo y).toArray] W λe w'=>e=.returned (.int .i64 (x.1.1 - y.1.1))∧∃q os',w'=grow (W.drewN q) os':=by
 have E:IntKind.i64.wrap (x.1.1 - y.1.1)=x.1.1 - y.1.1:=Ve ⟨by have:=x.2;have:=y.2;omega,by have:=x.2;have:=y.2;omega⟩
 go_enter func216,ntmps216
 go_wp2
 go_ret;exact ⟨by rw[←E];rfl,0,_,by rw[alloc_eq_grow,alloc_eq_grow,grow_grow];rfl⟩
theorem Qak (x:Rz):(zo x).length=4:=rfl
theorem Qaj:∀l:List Rz,(l.flatMap zo).length=l.length*4
 | []=>rfl
 | x::l=>by rw[LM,Lk,Qaj l,Qak,LP];omega
theorem Qef {l:List Rz}{j:Nat}(hj:j<l.length*4):(l.flatMap zo)[j]?=some ((flatK zo 4 l.toArray)[j]!):=by
 have h1:j / 4<l.length:=Nat.div_lt_of_lt_mul (by omega);have h2:j % 4<4:=Nat.mod_lt _ (by decide);rw[get_flatK _ _ _ _ (by simpa using hj)];have h3:=Kr zo 4 Qak l (j / 4) h1;have h4:(l.flatMap zo)[j]?=(zo (l[j / 4]'h1))[j % 4]?:=by
  rw[←h3,Ma,if_pos h2,MK];congr 1;omega
 rw[h4];have h5:(l.toArray)[j / 4]! = l[j / 4]'h1:=by simp[h1]
 rw[h5];have E:j % 4<(zo (l[j / 4]'h1)).length:=h2;exact (LK E).trans (congrArg some (getElem!_pos (zo (l[j / 4]'h1)) (j % 4) E).symm)
theorem QlG:SWO (ltOf λx y:Rz=>x.1.1 - y.1.1) where
 irrefl x:=by unfold ltOf;simp
 trans x y z h1 h2:=by unfold ltOf at *;simp at *;omega
 ntrans x y z h1 h2:=by unfold ltOf at *;simp at *;omega
set_option maxHeartbeats 1000000 in
theorem Qfu {w:World}{base:Nat}{v:Value}{l:List Rz}(h:RzO base w v l) (hl:l.length≤1099511627776) :
  QM prog 215 [v,.func (.func 216) #[] #[]] w λ_ w'=>Step (ob v) w w'∧∃l',l'.length=l.length∧RzO base w' v l':=by
 unfold QM;rcases h.2 with ⟨rfl,Z⟩ | ⟨g,cap,cur,rfl,ha,G,S,hb,U,hf⟩
 ·have hh:l=[]:=Ln Z;subst hh;have hc:=AnyF.slices_SortFunc_none Tryz.sortRm none 0 (.func (.func 216) #[] #[]) w;change Calls prog 215 _ _ _ at hc;refine Calls.mono hc λe w' he=>?_;obtain ⟨rfl,rfl⟩:=he;exact ⟨Step.refl _ _,[],O,h⟩
 have V:g<w.heap.size:=(LG.1 G).1;have hq:l.length*4≤cur.size:=by rw[U];exact MB _ S
 have hH:HoldsK zo 4 w g 0 l.toArray:=by
  intro j hj;rw[size_flatK,Md] at hj;have h1:=Qef hj;rw[←hf,Ma,if_pos hj] at h1;constructor
  ·show (match w.heap[g]? with | some (.cells c _ _)=>if (none:Option _).isSome then none else c[0+j]? | _=>none)=_
   rw[G];simp only[Nat.zero_add,Option.isSome_none,Bool.false_eq_true,if_false];rw[←Nd,h1];rfl
  show (match w.heap[g]? with | some (.cells _ _ (lo,hi))=>decide (lo≤0+j) && decide (0+j<hi) | _=>false)=false
  rw[G];simp
 have eg:∀args w,(callFunc 216 args).run prog w=.ok (.enter 216 args) w:=enters_of func216 (by kernel_rfl) O;have hc:=AnyQ.slices_SortFunc Tryz.sortRm 4 Tryz.isAgg320 Tryz.sizeOf320 zo Qak (λx v Y=>by simp at Y;rcases Y with rfl | rfl | rfl | rfl <;> rfl) (λx y=>x.1.1 - y.1.1) QlG 216 #[] g 0 cap l.toArray w eg (λm os dk _ x y=>Qnz x y _) hH V (by simp;omega)
 change Calls prog 215 _ _ _ at hc;rw[Md] at hc;refine Calls.mono hc λe w' he=>?_;obtain ⟨rfl,E,n,os,hp,_,rfl⟩:=he;have H:E.size=l.length:=by have:=hp.1;simpa using this
 have J:(sortWorldK zo 4 w g 0 n E os).heap=w.heap.modify g (onCells (putCells id 0 (flatK zo 4 E)))++os:=rfl;refine ⟨⟨rfl,O,O,?_,λk hk hn=>?_⟩,E.toList,by simpa using H,?_⟩
 ·rw[J,Array.size_append,M4];omega
 ·rw[J,MR,M4,if_pos hk,Nt,if_neg (λe=>hn (by simp[ob,e]))]
 refine ⟨Qaj _,.inr ⟨g,cap,putCells id 0 (flatK zo 4 E) cur,by simp[H],ha,?_,by simp[H];exact S,hb,by simp[putCells,U],?_⟩⟩
 ·rw[J,MR,M4,if_pos V,Nt,if_pos rfl,G];rfl
 apply List.ext_getElem?;intro j;rw[Ma];by_cases hj:j<E.toList.length*4
 ·rw[if_pos hj,Qef hj,Nd];have hm:j<cur.size:=by simp[H] at hj;omega
  have ho:j<(flatK zo 4 E).size:=by simpa using hj
  simp only[putCells,Array.getElem?_mapIdx,Array.getElem?_eq_getElem hm,Option.map_some,Nat.zero_le,Nat.zero_add,true_and,if_pos ho,Nat.sub_zero,id]
 rw[if_neg hj,MS];rw[Qaj];omega
theorem QlV {a:QE}{ul:LI}{lf:Lf}{n:Nat}(E:QK a) (G:a.st=(n:Int)) (hl:lf.length=n):∀x∈nxs a ul lf,0≤x∧x<(n:Int):=λx hx=>by
 have h1:=Qhl x hx;have h2:x.toNat<n:=by
  refine Decidable.byContradiction λh=>?_;unfold lft at h1;simp[List.getD,List.getElem?_eq_none (show lf.length≤x.toNat by omega)] at h1
 unfold nxs at hx;split at hx
 ·obtain ⟨p,hp,rfl⟩:=Lz.1 hx;obtain ⟨_,e,he,h3,_⟩:=(QaA a ul lf).1 p hp;have:=E.ed e he;omega
 have:=((Uw lf (dsts a lf) 0).1 x hx).2;omega
theorem Qk7 {rk rs:Int}:∀(l:List (Int×Int)),(∀x∈l.map (·.1),0≤x∧x<4096)→∃lz:List Rz,lz.flatMap zo=l.flatMap (rmC rk rs)∧lz.length=l.length
 | [],_=>⟨[],O,O⟩
 | x::l,h=>by
  obtain ⟨lz,h1,h2⟩:=Qk7 l (λy hy=>h y (Le _ hy));exact ⟨⟨(x.1,rk,rs,x.2),h x.1 Lh⟩::lz,by rw[LM,LM,h1],by simp[h2]⟩
theorem Qeu:∀l:List Rz,∀u∈l.flatMap zo,u.oneCell'=true
 | [],u,h=>by cases h
 | x::l,u,h=>by
  rw[LM,Lp] at h;rcases h with h | h
  ·simp only[zo,List.mem_cons,List.not_mem_nil,or_false] at h;rcases h with rfl | rfl | rfl | rfl <;> rfl
  exact Qeu l u h
theorem RzO.snoc {base:Nat}{w:World}{v:Value}{l m:List Rz}(h:w.ownsRow base 320 4 v (l.length+m.length) (l.flatMap zo++m.flatMap zo)):RzO base w v (l++m):=by
 unfold RzO;rw[Lk,LL];exact h
abbrev KA (k d r:Value) (n:Int):LV:=[k,d,r,.int .i64 n,nS,.int .i64 0,nS,nS,nS]
structure ReI (b10:Nat) (q:Pz) (wB:World) (lf:Lf) (rn:Int) (vr:Value) (lz:List Rz) (w:World):Prop where
 st:Step [b10,q.bl] wB w
 B10:QX w.heap b10 170 (KA (nS) (nS) vr rn)
 R:RzO wB.heap.size w vr lz
 F:QX w.heap q.bl 4 (lf.map Value.bool)
 n:lf.length=q.n
section
variable {b10:Nat} {q:Pz} {wB w w' w'':World} {lf:Lf} {rn:Int} {vr:Value} {lz:List Rz}
theorem ReI.ext (h:ReI b10 q wB lf rn vr lz w) (hs:Step [] w w'):ReI b10 q wB lf rn vr lz w':=⟨h.st.trans hs,h.B10.ext hs,Qt h.R hs,h.F.ext hs,h.n⟩
theorem ReI.cut (h:ReI b10 q wB lf rn vr lz w) (l:q.bl<wB.heap.size) (ne:b10≠q.bl) (hs:Step [q.bl] w w') {E:Lf}(G:QX w'.heap q.bl 4 (E.map Value.bool)) (H:E.length=q.n):ReI b10 q wB E rn vr lz w' :=
 ⟨h.st.then hs (λb hb=>.inl (by simp only[List.mem_singleton] at hb;simp[hb])),h.B10.step hs (by simpa using ne),Qi h.R hs (λb hb=>by have:=(Qm h.R b hb).1;simp only[List.mem_singleton];omega),G,H⟩
theorem ReI.app (h:ReI b10 q wB lf rn vr lz w) (l:q.bl<wB.heap.size) (V:b10<wB.heap.size) (ne:b10≠q.bl) {E:Value}{H:List Rz}{J:Int}(hs:Step (ob vr) w w') (S:RzO wB.heap.size w' E H) (G:Step [b10] w' w'')
  (U:QX w''.heap b10 170 (KA (nS) (nS) E J)):ReI b10 q wB lf J E H w'':=by
 have hge:=Qm h.R;exact ⟨(h.st.then hs (λb hb=>.inr (hge b hb).1)).then G (λb hb=>.inl (by simp only[List.mem_singleton] at hb;simp[hb])),U,Qi S G (λb hb=>by have:=(Qm S b hb).1;simp only[List.mem_singleton];omega),
  (h.F.step hs (λhb=>by have:=(hge _ hb).1;omega)).step G (by simpa using ne.symm),h.n⟩
theorem ReI.rounds (h:ReI b10 q wB lf rn vr lz w) (J:b10<wB.heap.size) (ne:b10≠q.bl) {G:Int}(E:Step [b10] w w') (H:QX w'.heap b10 170 (KA (nS) (nS) vr G)):ReI b10 q wB lf G vr lz w' :=
 ⟨h.st.then E (λb hb=>.inl (by simp only[List.mem_singleton] at hb;simp[hb])),H,Qi h.R E (λb hb=>by have:=(Qm h.R b hb).1;simp only[List.mem_singleton];omega),h.F.step E (by simpa using ne.symm),h.n⟩
end
set_option maxHeartbeats 8000000 in
theorem Qfy {w:World}{va vm ve vf vu:Value}{a:QE}{forb unc:LI}(h:Zi [] w.heap va vm ve a) (hw:QK a) (hf:QO [] w.heap vf forb) (gz:∀x∈forb,0≤x∧x<a.st) (j1:forb.length≤4096) (hu:QO [] w.heap vu unc) :
  QM prog 159 [.agg #[va,.int .i64 a.st,vm,ve],vf,vu,.bool true] w λr w'=>Step [] w w'∧∃c0 c1 c2 c3 sa sm se o,r=.agg #[c0,c1,c2,c3,sa,.int .i64 (qB a forb unc).st,sm,se,o] ∧
   Y0 [c0,c1,c2,c3,o]∧∀L:LN,(∀b∈L,b<w.heap.size)→Zi L w'.heap sa sm se (qB a forb unc):=by
 have j2:=hw.st0;have za:=hw.st1;obtain ⟨n,hn⟩:∃n:Nat,a.st=n:=⟨a.st.toNat,by omega⟩;have k4:a.st.toNat=n:=by omega
 have hC:qB a forb unc=yW a (V3 a unc (n+1) (lf0 n forb)):=by unfold qB XJ;rw[k4]
 refine Zs (qB a forb unc) λSA k5=>?_;rw[k5] at hC ⊢;refine QM.of_W func159 O ntmps159 results159 (by simp) ?_;refine Qd<|xl O<|QS (us:=[va,.int .i64 a.st,vm,ve]) O λb4 w1 g0 zb k6=>xl O<|Qu (us:=KA (nS) (nS) (nS) 0) O λb8 w2 hU z0 g1=>xe ?_;have hE:=g0.trans hU;have z1:=g1.lt;have z2:=g0.size;have z3:=hU.size
 refine Qd<|x (Qo (k6.ext hU) O O)<|Qb<|Qb<|xl O<|xf<|(QgS (h.ext hE) hw hn (hf.ext hE) gz (hu.ext hE)).mono ?_;rintro r3 w3 ⟨hV,bp,q,rfl,k7,k8,k9,z4,hP,hF⟩;refine Qf ?_;subst k7 k8 k9;have hq:PzQ q:=⟨hw,hn⟩;have ma:=hE.trans hV;have z5:=hV.size;have z6:=hF.lt;refine Qd<|xl O<|Qu (us:=KA (nS) (nS) (nS) 0) O λb10 J hz mc g2=>xe ?_;have hW:=ma.trans hz
 have z9:=hz.size;have hG:=g2.lt;have hg:b10≠q.bl:=by omega
 have hX:q.bl<J.heap.size:=by omega
 have mf:PzA [b10,q.bl] J.heap bp q:=(hP.up (λb hb=>by
  simp only[List.mem_cons,List.not_mem_nil,or_false] at hb;rcases hb with rfl | rfl
  ·exact .inr mc
  exact .inl (by simp))).ext hz
 have mg:=Qj7 q.n forb;have h3:∀{w'},Step [b10,q.bl] J w'→PzA [] w'.heap bp q:=λhs=>(mf.st hs).up (by simp);refine Qg<|Qd<|Qb<|x (Qw (hf.ext hW) O)<|Qb<|xe ?_
 refine Qh<|QC (α:=Nat×Int×Value×List Rz) [(12,12),(25,39)] (λz=>[(25,.int .i64 z.1)]) (λz w'=>z.1≤forb.length∧ReI b10 q J (lf0 q.n forb) z.2.1 z.2.2.1 z.2.2.2 w'∧z.2.2.2.length=z.1∧(z.2.1=0∨z.2.1=1)) (λz=>forb.length - z.1) (by rfl) (0,0,nS,[]) Lb
  ⟨Lm _,⟨Step.refl _ _,g2,QR _ _ _ _,hF.ext hz,mg⟩,O,.inl O⟩ ?_
 rintro ⟨k,rn,vr,lz⟩ g w5 ⟨hk,G,hY,hH⟩;simp only[] at hk G hY hH;have mh:QO [] w5.heap vf forb:=((hf.up (L':=[b10,q.bl]) (λb hb=>by
  simp only[List.mem_cons,List.not_mem_nil,or_false] at hb;exact .inr (by omega))).ext hW |>.st G.st).up (by simp)
 refine Qd<|x (QD O O)<|xe<|Qg<|QI O (λg3=>?_) (λg3=>?_)
 ·refine Qy ?_;have hcl:=Qe2 (lf0 q.n forb);refine Qg<|Qd<|Qf<|Qh<|QC (α:=Nat×Nat×Int×Value×List Rz×Lf) [(13,14),(16,16),(40,71)] (λz=>[(13,.int .i64 z.2.1)])
   (λz w'=>ReI b10 q J z.2.2.2.2.2 z.2.2.1 z.2.2.2.1 z.2.2.2.2.1 w'∧z.2.1+z.1=q.n+3∧z.2.2.2.2.1.length≤4096+z.2.1*1000000∧V3 q.a q.unc z.1 z.2.2.2.2.2=V3 q.a q.unc (q.n+1) (lf0 q.n forb)∧VA z.2.2.2.2.2+1≤z.1) (λz=>z.1) (by rfl)
   (q.n+1,2,rn,vr,lz,lf0 q.n forb) Lb ⟨G,by simp only[];omega,by simp only[];omega,O,by simp only[];omega⟩ ?_
  rintro ⟨f,rank,rn,vr,lz,lf⟩ g w6 ⟨G,mj,hY,h4,mo⟩;simp only[] at G mj hY h4 mo;refine Qg<|Qh<|Qd<|Qb<|Qb<|Qb<|xl O<|xf<|(Qhf (h3 G.st) hq G.F G.n rank).mono ?_;rintro r7 w7 ⟨h5,rs,l,hZ,hJ,hll7⟩;refine Qf ?_;have S:=G.ext h5;have g4:Zz [] w7.heap r7 l.length 4 (l.flatMap (rmC rank rs)):=QW hZ (by omega) (by simp)
  have g5:(nxs q.a q.unc lf).length=l.length:=by rw[←hJ,Lo]
  have ga:=QlV (ul:=q.unc) hw hn G.n;rw[←hJ] at ga;refine Qg<|Qd<|Qb<|x (Qw g4 O)<|x (Zf O O)<|xe<|Zc O (λgc=>?_) (λgc=>?_)
  ·refine Qy ?_;have hM:l.length=0:=by have h49:(l.length:Int)=0:=gc;omega
   rw[Qfz (by rw[g5];exact hM)] at h4;rw[←h4] at hC;refine Qd<|x (Qa O)<|x (Qa O)<|x (Qc S.B10 O O)<|xl O<|xf<|(Qfu S.R (by omega)).mono ?_;rintro r8 U ⟨V,lz8,_,mq⟩;refine xe ?_;have hge:=Qm S.R;have ge:Step [b10,q.bl] J U:=S.st.then V (λb hb=>.inr (hge b hb).1);have gg:QX U.heap b10 170 (KA (nS) (nS) vr rn):=S.B10.step V (λhb=>by have:=(hge _ hb).1;omega)
   have g6:QX U.heap q.bl 4 (lf.map Value.bool):=S.F.step V (λhb=>by have:=(hge _ hb).1;omega);have g7:=Q3 mq;have hz8:=ge.size;refine Qg<|Qd<|Qb<|xl O<|xf<|(Un (h3 ge) hq g6 S.n).mono ?_;rintro r9 E ⟨Y,bD,rfl,hbD,g8,hN⟩;refine Zs (dsts q.a lf) λD hD=>?_;rw[hD] at g8 hN;have g9:QO [b10] E.heap (.slice (some ⟨bD,0,none⟩) q.n q.n) D:=by
    have h1:=g8.arr (L:=[b10]) (by simp only[List.mem_singleton];omega) (n:=q.n) (cap:=q.n) (sz:=1) (by simp[hN]) (by omega) (Lv _);unfold QO;rw[hN];exact h1
   have ms:=ge.trans Y;have hz9:=Y.size;have mt:=g6.ext Y;refine x (Qw g9 O)<|Qb<|xe<|Qh<|QC (α:=Nat×Value×Value×LI×LI) [(17,18),(79,107)] (λz=>[(79,.int .i64 z.1)])
    (λz w'=>z.1≤D.length∧Step [b10] E w'∧QX w'.heap b10 170 (KA z.2.1 z.2.2.1 vr rn)∧Qn 3 E.heap.size w' z.2.1 z.2.2.2.1∧Qn 3 E.heap.size w' z.2.2.1 z.2.2.2.2∧Dj z.2.1 z.2.2.1∧z.2.2.2.1.length≤z.1∧z.2.2.2.2.length≤z.1) (λz=>D.length - z.1) (by rfl) (0,nS,nS,[],[]) Lb
    ⟨Lm _,Step.refl _ _,gg.ext Y,QR _ _ _ _,QR _ _ _ _,Dj.nil' _,Lv _,Lv _⟩ ?_
   rintro ⟨i,vk,vd,lk,ld⟩ g h6 ⟨hi,Z,h7,hK,hh,hO,mu,mv⟩;simp only[] at hi h7 hK hh hO mu mv;have hz10:=Z.size;have hQ:Step [b10,q.bl] J h6:=ms.then Z (λb hb=>.inl (by simp only[List.mem_singleton] at hb;simp[hb]));have ka:QX h6.heap q.bl 4 (lf.map Value.bool):=mt.step Z (by simpa using hg.symm);refine Qd<|x (QD O O)<|xe ?_
   refine Qg<|QI O (λkb=>?_) (λkb=>?_)
   ·refine Qy<|Qd<|Qb<|xl O<|xf<|(zy (h3 hQ) hq ka S.n).mono ?_;rintro r11 mw ⟨he,_,o,rfl,⟨sa,sm,se,rfl,gh⟩,gi⟩;rw[←hC] at gh;have hp:=gh [] (by simp);have hz11:=he.size
    refine Qb<|x (Qk O O)<|x (Qk O O)<|x (Qa O)<|xl O<|JY (us:=[sa,.int .i64 SA.st,sm,se]) (h7.ext he) O (by rw[←hC];rfl) O (by simp) ⟨hp.al.one,rfl,hp.mr.one,hp.ed.one,La⟩ rfl λw12 gj my =>
     x (Qa rfl)<|xl O<|QH (j:=8) (u:=o) my O O (by simp) gi λw13 gk mz=>xe ?_
    have m0:b8∉[b10,q.bl]:=by simp only[List.mem_cons,List.not_mem_nil,or_false];omega
    have kc:b8∉[b10]:=by simp only[List.mem_singleton];omega
    have m2:=(((((g1.ext (hV.trans hz)).step hQ m0).ext he).step gj kc).step gk kc);refine Qd<|x (Qo mz O O)<|xl O<|Qq (us:=[vk,vd,vr,.int .i64 rn,sa,.int .i64 SA.st,sm,se,o]) m2 O O O O ⟨Q3 hK,Q3 hh,g7,O,hp.al.one,O,hp.mr.one,hp.ed.one,gi,La⟩ λm3 ke m4=>xe ?_
    have m5:∀b∈[b10,q.bl],w.heap.size≤b:=λb hb=>by simp only[List.mem_cons,List.not_mem_nil,or_false] at hb;omega
    have m6:Step [] w m3:=((((hW.then hQ (λb hb=>.inr (m5 b hb))).trans he).then1 gj (by omega)).then1 gk (by omega)).then1 ke (by omega);refine Qs ⟨[.agg [vk,vd,vr,.int .i64 rn,sa,.int .i64 SA.st,sm,se,o].toArray],⟨⟨_,O,QF O (m4.at (L:=[]) (by simp)).cells⟩,La⟩,m6,vk,vd,vr,.int .i64 rn,sa,sm,se,o,rfl,⟨Q3 hK,Q3 hh,g7,rfl,gi,La⟩,λL hL=>?_⟩
    have h1:=gh (b10::b8::L) (λb hb=>by
     simp only[List.mem_cons] at hb;rcases hb with rfl | rfl | hb
     ·omega
     ·omega
     have:=hL b hb;omega)
    have h2:=((h1.st (gj.mono (by simp))).st (gk.mono (by simp))).st (ke.mono (by simp));exact h2.up (λb hb=>.inl (by simp[hb]))
   refine Qj ?_;have h8:i<D.length:=by have h81:(i:Int)<(D.length:Int):=kb;omega
   have gl:i<lf.length:=by rw[S.n,←hN];exact h8
   have m7:lf[i]'gl=lf.getD i false:=by simp[List.getD,gl]
   refine Qg<|Qh<|Qd<|Qb<|xii (i:=i) (g9.st Z) O O h8 λa82 kf=>?_;refine Zs (D[i]'h8) λd hd=>?_;rw[hd] at kf;refine x (Qv kf O)<|x Qe<|Qf<|Qd<|Qb<|x (Qr O)<|x (Qa O)<|x (Qc (h3 hQ).B O O)<|Qb<|x (QP (i:=i) O O (by omega))<|x (v:=.bool (lf.getD i false)) ((JG (i:=i) ka O gl).trans (by rw[m7]))<|xe<|Q8 O (λm8=>?_) (λm8=>?_)
   ·have h9:∀{v:Value} {l:LI} {w':World},Qn 3 E.heap.size w' v l→b10∉ob v:=λho hm=>by have:=(Qm ho b10 hm).1;omega
    refine Qd<|x (Qa O)<|x (Qa O)<|x (Qc h7 O O)<|Qb<|xl O<|QL (us:=[[.int .i64 i]]) O O (by decide) (by simp) ⟨rfl,rfl,La⟩ λb95 y1 hr hb95 m9=>xl rfl<|QZ (m:=1) (news:=[.int .i64 i]) (L:=[]) (Qt hK hr) rfl rfl rfl (m9.at (by simp)) (by simp[Value.oneCell']) (by omega) (by have:=hr.size;omega) λhA y2 kg hR pa =>
     x (Qa rfl)<|x (Qa O)<|xl O<|QH (j:=0) (u:=hA) ((h7.ext hr).step hR (h9 hK)) O O (by simp) (Q3 kg) λy3 gm kh=>xe ?_
    have pc:Qn 3 E.heap.size y2 hA (lk++[(i:Int)]):=Qn.snoc kg;have hzy1:=hr.size;have hzy2:=hR.size;have hzy3:=gm.size;have pd:Qn 3 E.heap.size y2 vd ld:=Qi (Qt hh hr) hR (λb hb hm=>hO b hm hb);have ki:Dj hA vd:=λb hb hm=>by
     rcases pa b hb with h1 | h1
     ·exact hO b h1 hm
     have:=QY hh b hm;omega
    have kj:∀{v:Value} {l:LI},Qn 3 E.heap.size y2 v l→Qn 3 E.heap.size y3 v l:=λho=>Qi ho gm (λb hb hm=>by simp only[List.mem_singleton] at hm;subst hm;exact h9 ho hb);have kk:=kj pc;have gn:=kj pd;have pf:Step [b10] E y3:=(((Z.trans hr).then hR (λb hb=>.inr (Qm hK b hb).1))).trans' gm
    refine Qx<|x (Qa O)<|x (Qa O)<|x (Qc kh O O)<|Qb<|xl O<|QL (us:=[[.int .i64 d]]) O O (by decide) (by simp) ⟨rfl,rfl,La⟩ λb103 y4 ht hb103 pg=>xl rfl<|QZ (m:=1) (news:=[.int .i64 d]) (L:=[]) (Qt gn ht) rfl rfl rfl (pg.at (by simp)) (by simp[Value.oneCell']) (by omega) (by have:=ht.size;omega) λgq y5 kn gr ph =>
     x (Qa rfl)<|x (Qa O)<|xl O<|QH (j:=1) (u:=gq) ((kh.ext ht).step gr (h9 gn)) O O (by simp) (Q3 kn) λy6 gs pj=>xe ?_
    have ko:Qn 3 E.heap.size y5 gq (ld++[d]):=Qn.snoc kn;have kq:Qn 3 E.heap.size y5 hA (lk++[(i:Int)]):=Qi (Qt kk ht) gr (λb hb hm=>ki b hb hm);have hzy4:=ht.size;refine Qx<|QN O O<|Qb<|xe ?_
    refine ⟨(i+1,hA,gq,_,_),by simp only[];omega,Lb,h8,(((pf.trans ht).then gr (λb hb=>.inr (Qm gn b hb).1))).trans' gs,pj,Qi kq gs (λb hb hm=>by simp only[List.mem_singleton] at hm;subst hm;exact h9 kq hb),Qi ko gs (λb hb hm=>by simp only[List.mem_singleton] at hm;subst hm;exact h9 ko hb),λb hb hm=>?_,by simp only[List.length_append,List.length_singleton];omega,by simp only[List.length_append,List.length_singleton];omega⟩
    rcases ph b hm with h1 | h1
    ·exact ki b hb h1
    have:=QY kk b hb;omega
   refine Qj<|Qx<|QN O O<|Qb<|xe ?_;exact ⟨(i+1,vk,vd,lk,ld),by simp only[];omega,Lb,h8,Z,h7,hK,hh,hO,by simp only[];omega,by simp only[];omega⟩
  refine Qj ?_;have hM:¬l.length=0:=λe=>gc (by show (l.length:Int)=0;omega);have kr:(nxs q.a q.unc lf).length≠0:=by rw[g5];exact hM
  have pn:=QbH kr;refine Exists.elim (MI (show f≠0 by omega)) λf' pp=>?_;subst pp;rw[js kr,←hJ] at h4;rw[←hJ] at pn;refine Exists.elim (Qk7 (rk:=(rank:Int)) (rs:=rs) l (λx hx=>by have:=ga x hx;omega)) λln hv=>?_;have hz67:=h5.size;refine Qg<|Qd<|Qb<|x (Qw g4 O)<|Qb<|xe ?_
  refine Qh<|QC (α:=Nat) [(16,16),(51,62)] (λz=>[(51,.int .i64 z)]) (λz w'=>z≤l.length∧Step [q.bl] w7 w'∧ReI b10 q J (((l.take z).map (·.1)).foldl cut lf) rn vr lz w') (λz=>l.length - z) (by rfl) 0 Lb ⟨Lm _,Step.refl _ _,S⟩ ?_;rintro j g U ⟨hj,V,H⟩;have hH:∀b∈ob r7,b≠q.bl:=λb hb e=>by have:=(Qm hZ b hb).1;have:=G.st.size;omega
  have pt:RmO w6.heap.size U r7 rank rs l:=Qi hZ V (λb hb hm=>hH b hb (by simpa using hm));have kt:Zz [q.bl] U.heap r7 l.length 4 (l.flatMap (rmC rank rs)):=QW pt (by omega) (λb hb hm=>hH b hb (by simpa using hm));refine Qd<|x (QD O O)<|xe<|Qg<|QI O (λgt=>?_) (λgt=>?_)
  ·refine Qy ?_;have pu:l.length≤j:=by have hS:¬(j:Int)<(l.length:Int):=gt;omega
   rw[Lq pu] at H;obtain ⟨ad,cap7,pw,_,pz⟩:∃ad cap,r7=.slice (some ad) l.length cap∧l.length≤cap∧At [q.bl] U.heap ad (l.flatMap (rmC rank rs)):=by
    rcases kt.2.2 with ⟨_,h0⟩ | h1
    ·exact absurd h0 hM
    exact h1
   have hlnl:ln.length*4=l.length*4:=by rw[hv.2]
   refine Qd<|x (Qa O)<|x (Qa O)<|x (Qc H.B10 O O)<|Qb<|xl O<|QZ (m:=l.length) (news:=l.flatMap (rmC rank rs)) (L:=[q.bl]) H.R O pw (by rw[←hv.1,Qaj,hv.2]) pz (by rw[←hv.1];exact Qeu ln) (by omega) H.st.size λgu p0 ku kv hn22 =>
    x (Qa O)<|x (Qa O)<|xl O<|QH (j:=2) (u:=gu) (H.B10.step kv (λhb=>by have:=(Qm H.R _ hb).1;omega)) O O (by simp) (Q3 ku) λw23 p1 p2=>xe ?_
   have p3:RzO J.heap.size p0 gu (lz++ln):=RzO.snoc (by rw[hv.1,hv.2];exact ku);have kw:=H.app hX hG hg kv p3 p1 p2;refine Qx<|Qb<|x (Qa O)<|xl O<|QH (j:=3) (u:=.int .i64 rank) kw.B10 O O (by simp) rfl λw24 p4 p5=>xe ?_;have p6:=kw.rounds hG hg p4 p5;have p7:(-9223372036854775808:Int)≤(rank:Int)+1:=by omega
   have p8:(rank:Int)+1≤9223372036854775807:=by omega
   refine Qx<|Qb<|x (X1 O O ⟨p7,p8⟩)<|Qf ?_;exact ⟨(f',rank+1,(rank:Int),gu,lz++ln,(l.map (·.1)).foldl cut lf),by simp only[];omega,Lb,p6,by simp only[];omega,by simp only[List.length_append];omega,h4,by simp only[];omega⟩
  refine Qj ?_;have ha:j<l.length:=by have hS:(j:Int)<(l.length:Int):=gt;omega
  have p9:l.take (j+1)=l.take j++[l[j]'ha]:=Ll ha;have kx:((l.take (j+1)).map (·.1)).foldl cut lf=cut (((l.take j).map (·.1)).foldl cut lf) (l[j]'ha).1:=by rw[p9,LA,LW];rfl
  have qa:=ga (l[j]'ha).1 (LX (Lj ha));refine Zs (l[j]'ha) λy hy=>?_;rw[hy] at kx qa;have qe:y.1=(y.1.toNat:Int):=by omega
  refine Qg<|Qh<|Qd<|xig (g:=rmC rank rs) (i:=j) (Qeg rank rs) kt O O ha λa53 hS=>?_;rw[hy] at hS;refine x (QQ hS O O)<|xl O<|Qu (us:=[.int .i64 0,.int .i64 0,.int .i64 0,.int .i64 0]) O λb16 E Y qf gv=>xl O<|Qq (us:=rmC rank rs y) gv O O O O ⟨O,O,O,O,La⟩ λh6 Z gv=>xe ?_;have kz:Step [] U h6:=Y.then1 Z qf;have gx:=H.ext kz;have ql:=H.n
  refine QV (Step [] h6) [(0,true),(1,true),(2,true),(3,true),(4,true),(5,true),(6,true),(7,false)] mixed (by rfl) (by kernel_rfl) (Step.drew _ _) ?_;refine p (λ_=>Ql)<|p (λ_=>Qr O)<|p (λ_=>Qa O)<|pq (λ_ hc=>Qc ((h3 gx.st).B.ext hc) O O)<|p (λ_=>Qa O)<|pq (λ_ hc=>Qc (gv.ext hc) O O) <|
   p (λ_=>QP (i:=y.1.toNat) O (congrArg (Value.int .i64) qe) (by omega))<|pkl (hl:=by kernel_rfl)<|zD (i:=y.1.toNat) (gx.F.ext (Step.drew _ _)) O O (by omega) λmw he qm=>pe ?_
  refine Qx<|QN O O<|Qb<|xe<|⟨j+1,by omega,Lb,ha,((V.trans kz).trans (Step.drew _ _)).trans' he,?_⟩;rw[kx];exact (gx.ext (Step.drew _ _)).cut hX hg he qm (by rw[QeY];exact ql)
 refine Qj ?_;have hT:k<forb.length:=by have gy:(k:Int)<(forb.length:Int):=g3;omega
 have q0:=gz _ (Lj hT);refine Zs (forb[k]'hT) λy hy=>?_;rw[hy] at q0;refine Qg<|Qh<|Qd<|xii (i:=k) mh O O hT λa27 gy=>?_;rw[hy] at gy;refine x (Qv gy O)<|Qf<|Qd<|x (Qa O)<|x (Qa O)<|x (Qc G.B10 O O)<|Qb<|x (QG ⟨O,O,O,O,La⟩)<|xl O<|QL (us:=[[.int .i64 y,.int .i64 1,.int .i64 1,.int .i64 (-1)]]) O O (by decide) (by simp) ⟨rfl,rfl,La⟩ λb34 w6 q1 hb34 q2=>?_
 have hB:=G.ext q1;refine xl rfl<|QZ (m:=1) (news:=[.int .i64 y,.int .i64 1,.int .i64 1,.int .i64 (-1)]) (L:=[]) hB.R O O O (q2.at (by simp)) (by simp[Value.oneCell']) (by omega) hB.st.size λv7 w7 k0 h5 hn7 =>
  x (Qa rfl)<|x (Qa O)<|xl O<|QH (j:=2) (u:=v7) (hB.B10.step h5 (λhb=>by have:=(Qm hB.R _ hb).1;omega)) O O (by simp) (Q3 k0) λU V gg=>xe ?_
 have q3:RzO J.heap.size w7 v7 (lz++[⟨(y,1,1,-1),by simp only[];omega⟩]):=RzO.snoc k0;have H:=hB.app hX hG hg h5 q3 V gg;refine Qx<|x (Qa O)<|xl O<|QH (j:=3) (u:=.int .i64 1) H.B10 O O (by simp) rfl λE Y q4=>xe ?_;have q5:=H.rounds hG hg Y q4;refine Qx<|QN O O<|Qb<|xe ?_
 exact ⟨(k+1,1,v7,_),by simp only[];omega,Lb,hT,q5,by simp only[List.length_append,List.length_singleton];omega,.inr O⟩
instance:Bw prog 170 (KA (nS) (nS) (nS) 0) [(0,3),(3,1),(4,4),(8,1)]:=⟨by kernel_rfl,by decide⟩
theorem QlD {c:Yz}{pl:QE}{ps:List (LI)}{l:List (LI)}:∀r∈spF c pl ps l,0≤r.st∧r.st<(l.length:Int):=λr E=>by
 unfold spF at E;obtain ⟨⟨t,i⟩,hp,h1⟩:=Mx.1 E;have hi:=List.snd_lt_add_of_mem_zipIdx hp;simp only[Nat.zero_add] at hi;have h2:r.st=(i:Int):=by
  simp only[] at h1;unfold rsn at h1;split at h1
  ·cases h1;rfl
  split at h1
  ·cases h1;rfl
  cases h1
 omega
theorem QlB {c:Yz}(h:XZ c=0):QK (spc c).a∧(∀x∈fbs (spc c),0≤x∧x<(spc c).a.st)∧(fbs (spc c)).length≤4096∧(spc c).fb.length≤4096∧JT c.ev=0:=by
 unfold XZ at h;by_cases h1:Yn c≠0
 ·rw[if_pos h1] at h;exact absurd h h1
 rw[if_neg h1] at h;have J:Yn c=0:=Lt.1 h1;have E:=Jr J;by_cases h2:VF (auts c.co)≠0
 ·rw[if_pos h2] at h;exact absurd h h2
 rw[if_neg h2] at h;cases hs:sync (auts c.co) with
 | none=>rw[hs] at h;cases h
 | some z =>
  rw[hs] at h;simp only[] at h;by_cases h3:VF (auts c.co++auts c.rq)≠0
  ·rw[if_pos h3] at h;exact absurd h h3
  rw[if_neg h3] at h;cases G:sync (auts c.co++auts c.rq) with
  | none=>rw[G] at h;cases h
  | some y =>
   have H:∀a∈auts c.co++auts c.rq,QK a:=λa ha=>by
    rcases Lp.1 ha with ha | ha
    ·exact XG E.co a ha
    exact XG E.rq a ha
   have hsp:=(Xs H (A:=y.1) (Q:=y.2) G).1;have he:=Qc4 (c:=c) (pl:=z.1) (ps:=z.2) (sa:=y.1) (ts:=y.2) hs G;have hl:=Qeb c z.1 z.2 y.2;have U:=hsp.le;rw[he];unfold fbs;refine ⟨hsp.okay H,λx hx=>?_,by rw[Lo];simp only[];omega,by simp only[];omega,E.e0⟩;obtain ⟨r,S,rfl⟩:=Lz.1 hx;have:=QlD r S;rw[hsp.st];exact this
theorem st4 (r:Rsn):(YK r).length=4:=rfl
set_option maxHeartbeats 4000000 in
theorem QcY {L:LN}{w:World}{c:CL}(h0:Jz L w.heap c) (hC:Kb w 4096) :
  QM prog 79 [c.val] w λr w'=>Step [] w w'∧∃us c0 Y Z c3 sa sm se o,r=.tuple #[.agg us.toArray,.agg #[c0,Y,Z,c3,sa,.int .i64 (if XZ c.cel=0 then (Z7 c.cel).st else 0),sm,se,o],.int .i64 (XZ c.cel)]∧us.length=8∧Y0 us∧Y0 [c0,Y,Z,c3,sa,sm,se,o] ∧
   (XZ c.cel≠0→sa=nS∧sm=nS∧se=nS)∧(XZ c.cel=0→∀L:LN,(∀b∈L,b<w.heap.size)→Zi L w'.heap sa sm se (Z7 c.cel)):=by
 have h:=h0.up (L':=[]) (by simp);have ho:Z7 c.cel=qB (spc c.cel).a (fbs (spc c.cel)) (unc c.cel.ev):=rfl;have hR:c.cel.ev=c.ev:=rfl;have hp:=QlB (c:=c.cel);refine Zs (Z7 c.cel) λSA hT=>?_;rw[hT] at ho ⊢;have g0:=yI (h.ext (Step.refl [] w)) hC;refine Zs (XZ c.cel) λE hE=>?_;rw[hE] at hp ⊢;refine Zs (spc c.cel) λS hS=>?_;rw[hS] at hp ho;rw[hR] at hp ho
 refine QM.of_W func79 O ntmps79 results79 (by simp) ?_;refine Qd<|xl O<|QS (us:=c.cells) O λb1 w1 hD g1 hG=>xl O<|Qu (us:=[nS,.int .i64 0,nS,nS,nS,nS,nS,nS]) O λb2 w2 hq g2 hs=>xl O<|Qu (us:=KA (nS) (nS) (nS) 0) O λb3 w3 hh g3 ht=>Qf ?_;have h4:=(hD.trans hq).trans hh;have g4:=hD.size;have g5:=hq.size;have g6:=hh.size;have g7:=hs.lt;have g8:=ht.lt
 have hsp:=yI (h.ext h4) (hC.ext h4);rw[hE,hS] at hsp;refine Qd<|x (Qo ((hG.ext hq).ext hh) O O)<|xl O<|xf<|hsp.mono ?_;rintro r4 w4 ⟨hj,v,rfl,⟨us,rfl,h5,h6⟩,hF⟩;have g9:=hj.size;refine Qb<|x (Qk O O)<|x (Qk O O)<|xl O<|Qu (us:=[nS,.int .i64 0,nS,nS,nS,nS,nS,nS]) O λb5 w5 hV hW hm=>xl O<|Qq (us:=us) hm O O h5 O h6 λw6 hX hm=>Qf ?_;have U:Step [] w4 w6:=hV.then1 hX hW
 have ka:=U.size;have hu:=(h4.trans hj).trans U;have hH:=(hs.ext (hh.trans hj)).ext U;have hI:=(ht.ext hj).ext U;have kb:=hm.lt;refine Qg<|Qd<|Qb<|x (Zj O O)<|xe<|Zc rfl (λhv=>?_) (λhv=>?_)
 ·refine Qd<|x (Yv [] La)<|x (Yv [] La)<|Qb<|xl O<|Qq (us:=[nS,.int .i64 0,nS,nS,nS,nS,nS,nS]) hH O O O O ⟨O,O,O,O,O,O,O,O,La⟩ λw7 G hY =>
   xl rfl<|Qq (us:=KA (nS) (nS) (nS) 0) (hI.step G (by simp only[List.mem_singleton];omega)) O O O O ⟨O,O,O,O,O,O,O,O,O,La⟩ λw8 hw hZ=>Qf<|Qs ⟨[.agg [nS,.int .i64 0,nS,nS,nS,nS,nS,nS].toArray,.agg (KA (nS) (nS) (nS) 0).toArray,.int .i64 E],⟨⟨_,O,QF O ((hY.step hw (by simp only[List.mem_singleton];omega)).at (L:=[]) (by simp)).cells⟩,⟨_,rfl,QF rfl (hZ.at (L:=[]) (by simp)).cells⟩,rfl,La⟩,(hu.then1 G (by omega)).then1 hw (by omega),[nS,.int .i64 0,nS,nS,nS,nS,nS,nS],nS,nS,nS,.int .i64 0,nS,nS,nS,nS,by rw[if_neg hv];rfl,O,⟨O,O,O,O,O,O,O,O,La⟩,⟨O,O,O,O,O,O,O,O,La⟩,λ_=>⟨O,O,O⟩,λe=>absurd e hv⟩
 have hy:E=0:=Lt.1 hv;obtain ⟨ga,gc,ge,kc,hJ⟩:=hp hy;obtain ⟨va,vm,ve,v1,v2,v3,v4,cos,rqs,gg,_,_,gh⟩:=hF hy;have gi:us=[va,.int .i64 S.a.st,vm,ve,v1,v2,v3,v4]:=by
  have h1:=congrArg (λv=>match v with | Value.agg a=>a.toList | _=>[]) gg
  simpa using h1
 subst gi;have hK:=(gh [] (by simp));have gj:=hK.1.ext U;have hM:=hK.2.2.2.2.ext U;refine Qj<|Qd<|Qf<|Qg<|Qd<|x (Qa O)<|x (Qc hm O O)<|x (Qw hM O)<|Qb<|xe ?_
 refine Qh<|QC (α:=Nat×Value) [(7,7),(9,9),(24,33)] (λz=>[(7,z.2),(24,.int .i64 z.1)]) (λz w'=>z.1≤S.fb.length∧Step [] w6 w'∧Qn 3 w6.heap.size w' z.2 ((S.fb.take z.1).map (·.st))) (λz=>S.fb.length - z.1) (by rfl) (0,nS) ⟨O,O,La⟩ ⟨Lm _,Step.refl _ _,QR _ _ _ _⟩ ?_;rintro ⟨k,vf⟩ g w7 ⟨hk,G,V⟩;simp only[] at hk V;refine Qd<|x (QD O O)<|xe<|Qg<|QI O (λh7=>?_) (λh7=>?_)
 ·refine Qy ?_;have gk:S.fb.length≤k:=by have hz:¬(k:Int)<(S.fb.length:Int):=h7;omega
  rw[Lq gk] at V;have V:Qn 3 w6.heap.size w7 vf (fbs S):=V;have gl:=hu.trans G;have gm:=G.size;refine Qd<|x (Qa O)<|x (Qc ((hG.ext (hq.trans hh)).ext ((hj.trans U).trans G)) O O)<|xl O<|xf<|(Qac (h.ev.ext gl)).mono ?_;rintro ke J ⟨ha,vu,rfl,hU⟩;rw[if_pos hJ] at hU;refine Qb<|x (Qk O O)<|x (Qk O O)<|x Qe<|Qf<|Qg<|Qd<|Qb<|x (Zj O O)<|xe ?_
  refine Zc O (λgn=>absurd hJ gn) (λ_=>?_);refine Qj ?_;have h5:(unc c.ev).length≤1099511627776:=L5 (qW _ c.ev 0) h.ev.arr.le;have he:=G.trans ha;have gq:=gj.ext he;have h2:Step [] J { J with drawn:=J.drawn+1 }:=Step.drew _ _
  have hN:=hm.ext he;have hO:b5∉[b2]:=by simp only[List.mem_singleton];omega
  have kf:=he.size;refine Qg<|QV (Step [b2] J) [(0,true),(1,true),(2,true),(3,true),(4,true),(5,false),(6,false),(7,false),(8,true)] mixed (by rfl) (by kernel_rfl) (Step.drew _ _) ?_;refine pq (λ_ hc=>Qo (hN.step hc hO) O O)<|p (λ_=>Qa O)<|pq (λ_ hc=>Xd (us:=[va,.int .i64 S.a.st,vm,ve]) (hN.step hc hO) O O O) <|
   p (λ_=>Ql)<|p (λ_=>Ql)<|pk<|xf<|(Qfy (gq.ext h2) ga (((Qn.ints (L:=[]) V (by omega) (by simp)).ext ha).ext h2) gc ge ((Qn.ints (L:=[]) hU h5 (by simp)).ext h2)).mono ?_
  rintro kg kh ⟨gr,c0,Y,Z,c3,sa,sm,se,o,rfl,H,h8⟩;have hf:=h2.trans gr;have ki:=hf.size;refine ⟨hf.any,?_⟩;have hP:qB S.a (fbs S) (unc c.ev)=SA:=ho.symm;rw[hP] at h8;have hg:=h8 [] (by simp);refine pk<|Qq (us:=[va,.int .i64 S.a.st,vm,ve,v1,v2,v3,v4]) ((hH.ext he).ext hf) O O O O h6 λkj h3 hs=>⟨hf.any.trans' h3,?_⟩
  refine pkl (hl:=by kernel_rfl)<|Qq (us:=[c0,Y,Z,c3,sa,.int .i64 SA.st,sm,se,o]) (((hI.ext he).ext hf).step h3 (by simp only[List.mem_singleton];omega)) O (by rw[←hP];rfl) O O ⟨H.1,H.2.1,H.2.2.1,H.2.2.2.1,hg.al.one,O,hg.mr.one,hg.ed.one,H.2.2.2.2.1,La⟩ λkk h9 ht=>p (λ_=>Qe)<|pe ?_;have gs:b2∉[b3]:=by simp only[List.mem_singleton];omega
  refine Qs ⟨[.agg [va,.int .i64 S.a.st,vm,ve,v1,v2,v3,v4].toArray,.agg [c0,Y,Z,c3,sa,.int .i64 SA.st,sm,se,o].toArray,.int .i64 0],⟨⟨_,O,QF O ((hs.step h9 gs).at (L:=[]) (by simp)).cells⟩,⟨_,rfl,QF rfl (ht.at (L:=[]) (by simp)).cells⟩,rfl,La⟩,
   (((hu.trans he).trans hf).then1 h3 (by omega)).then1 h9 (by omega),_,c0,Y,Z,c3,sa,sm,se,o,by rw[hy,if_pos rfl];rfl,O,h6,⟨H.1,H.2.1,H.2.2.1,H.2.2.2.1,hg.al.one,hg.mr.one,hg.ed.one,H.2.2.2.2.1,La⟩,λe=>absurd hy e,λ_ L hL=>?_⟩
  have kn:=hu.size;have h1:=h8 (b2::b3::L) (λb hb=>by
   have ko:({ J with drawn:=J.drawn+1 }:World).heap.size=J.heap.size:=rfl
   simp only[List.mem_cons] at hb;rcases hb with rfl | rfl | hb
   ·omega
   ·omega
   have:=hL b hb;omega)
  exact ((h1.st (h3.mono (by simp))).st (h9.mono (by simp))).up (λb hb=>.inl (by simp[hb]))
 refine Qj ?_;have hn:k<S.fb.length:=by have hz:(k:Int)<(S.fb.length:Int):=h7;omega
 have hQ:S.fb.take (k+1)=S.fb.take k++[S.fb[k]'hn]:=Ll hn;have kq:((S.fb.take k).map (·.st)).length=k:=by rw[Lo,LF];omega
 refine Zs (S.fb[k]'hn) λr hr=>?_;rw[hr] at hQ;refine Qg<|Qh<|Qd<|xig (g:=YK) (i:=k) st4 (hM.ext G) O O hn λkr hz=>?_;rw[hr] at hz;refine x (QQ hz O O)<|xl O<|Qu (us:=[.int .i64 0,.int .i64 0,.int .i64 0,.int .i64 0]) O λb9 w8 hw gt hA=>xl O<|Qq (us:=YK r) hA O O O O ⟨O,O,O,O,La⟩ λw9 gu hA=>xe ?_;have hB:Step [] w7 w9:=hw.then1 gu gt;have kt:=hB.size;have gm:=G.size
 refine Qx<|Qb<|x (Qa O)<|x (Qc hA O O)<|xl O<|QL (us:=[[.int .i64 r.st]]) O O (by decide) (by simp) ⟨rfl,rfl,La⟩ λku J ha kv gv =>
  xl rfl<|QZ (m:=1) (news:=[.int .i64 r.st]) (L:=[]) (Qt V (hB.trans ha)) O O O (gv.at (by simp)) (by simp[Value.oneCell']) (by omega) (by have:=ha.size;omega) λgx kw gy gz kx=>Qf<|Qx<|QN O O<|Qb<|xe ?_
 refine ⟨(k+1,gx),by simp only[];omega,⟨O,O,La⟩,hn,((G.trans hB).trans ha).then gz (λb hb=>.inr (Qm V b hb).1),?_⟩;simp only[];rw[hQ,LA];exact Qn.snoc gy
theorem jd {L:LN}{w:World}{c:CL}(h0:Jz L w.heap c) (hf:Kb w 4096) :
  QM prog 32 [c.val] w λr w'=>Step [] w w'∧∃sa sm se,r=.tuple #[.agg #[sa,.int .i64 (if XZ c.cel=0 then (Z7 c.cel).st else 0),sm,se],.int .i64 (suE c.cel)]∧Y0 [sa,sm,se] ∧
   (suE c.cel≠0→sa=nS∧sm=nS∧se=nS)∧(suE c.cel=0→∀L:LN,(∀b∈L,b<w.heap.size)→Zi L w'.heap sa sm se (Z7 c.cel)):=by
 have h:=h0.up (L':=[]) (by simp);have hg:suE c.cel=XZ c.cel:=rfl;rw[hg];refine QM.of_W func32 O ntmps32 results32 (by simp) ?_;refine Qd<|xl O<|QS (us:=c.cells) O λb1 w1 Z hq hh=>xl O<|Qu (us:=[nS,.int .i64 0,nS,nS]) O λb2 w2 J hr G=>Qf ?_;have S:=Z.trans J;have hs:=Z.size;have ht:=J.size;have hu:=G.lt
 refine Qd<|x (Qo (hh.ext J) O O)<|xl O<|xf<|(QcY (h.ext S) (hf.ext S)).mono ?_;rintro r3 w3 ⟨U,us,c0,c1,c2,c3,sa,sm,se,o,rfl,hj,hk,E,hl,hm⟩;refine Zs (if XZ c.cel=0 then (Z7 c.cel).st else 0) λN hN=>?_
 rw[hN];have hv:=U.size;refine Qb<|x (Qk O O)<|x (Qk O O)<|x (Qk O O)<|xl O<|Qu (us:=[nS,.int .i64 0,nS,nS,nS,nS,nS,nS]) O λb4 w4 ha hw V=>xl O<|Qu (us:=KA (nS) (nS) (nS) 0) O λb5 w5 Y hy hn =>
  xl rfl<|Qq (us:=us) (V.ext Y) O O hj O hk λw6 hc hz=>xl O<|Qq (us:=[c0,c1,c2,c3,sa,.int .i64 N,sm,se,o]) (hn.step hc (by have:=V.lt;simp only[List.mem_singleton];omega)) O O O O ⟨E.1,E.2.1,E.2.2.1,E.2.2.2.1,E.2.2.2.2.1,O,E.2.2.2.2.2.1,E.2.2.2.2.2.2.1,E.2.2.2.2.2.2.2.1,La⟩ λw7 ho hp=>Qf ?_
 have h2:=V.lt;have h3:=ha.size;have h4:=Y.size;have H:Step [] w3 w7:=((ha.trans Y).then1 hc (by omega)).then1 ho (by omega);have h5:=H.size
 refine Qd<|x (Qa O)<|x (Xd (us:=[sa,.int .i64 N,sm,se]) hp O O O)<|Qb<|xl O<|Qq (us:=[sa,.int .i64 N,sm,se]) ((G.ext U).ext H) O O O O ⟨E.2.2.2.2.1,O,E.2.2.2.2.2.1,E.2.2.2.2.2.2.1,La⟩ λw8 he G=>Qf<|Qs ⟨[.agg [sa,.int .i64 N,sm,se].toArray,.int .i64 (XZ c.cel)],⟨⟨_,O,QF O (G.at (L:=[]) (by simp)).cells⟩,rfl,La⟩,((S.trans U).trans H).then1 he (by omega),sa,sm,se,rfl,⟨E.2.2.2.2.1,E.2.2.2.2.2.1,E.2.2.2.2.2.2.1,La⟩,hl,λe L hL=>?_⟩
 have h1:=hm e (b2::L) (λb hb=>by
  simp only[List.mem_cons] at hb;rcases hb with rfl | hb
  ·omega
  have:=hL b hb;omega)
 exact ((h1.ext H).st (he.mono (by simp))).up (λb hb=>.inl (by simp[hb]))
def YC (cl:LI) (i j:Nat):LI:=cl.map (mgF (max (cget cl i) (cget cl j)) (min (cget cl i) (cget cl j)))
theorem jG (cl:LI) (i j:Nat):(YC cl i j).length=cl.length:=by simp[YC]
theorem Qcx {cl:LI}(g:Int→Int) {x:Nat}(h:x<cl.length):cget (cl.map g) x=g (cget cl x):=by simp[cget,List.getD,h]
theorem YJ {cl:LI}{u v x:Nat}(h:x<cl.length):cget (Zq cl u v) x=if cget cl x=cget cl v then cget cl u else cget cl x:=by unfold Zq;rw[Qcx _ h]
def Rf (n:Nat) (c e:LI):Prop:=∀x y,x<n→y<n→cget c x=cget c y→cget e x=cget e y
theorem Rf.refl (n:Nat) (c:LI):Rf n c c:=λ_ _ _ _ h=>h
theorem Rf.trans {n:Nat}{a b c:LI}(h:Rf n a b) (k:Rf n b c):Rf n a c:=λx y hx hy e=>k x y hx hy (h x y hx hy e)
theorem Rf.merge {n:Nat}{c e:LI}(hl:c.length=n) (h:Rf n c e) {u v:Nat}(hu:u<n) (G:v<n) (H:cget e u=cget e v):Rf n (Zq c u v) e:=by
 intro x y hx hy E;rw[YJ (by omega),YJ (by omega)] at E;by_cases h1:cget c x=cget c v
 ·rw[if_pos h1] at E;have e1:=h x v hx G h1;by_cases h2:cget c y=cget c v
  ·exact e1.trans (h y v hy G h2).symm
  rw[if_neg h2] at E;exact e1.trans (H.symm.trans (h u y hu hy E))
 rw[if_neg h1] at E;by_cases h2:cget c y=cget c v
 ·rw[if_pos h2] at E;exact (h x u hx hu E).trans (H.trans (h y v hy G h2).symm)
 rw[if_neg h2] at E;exact h x y hx hy E
theorem Rf.of_merge {n:Nat}{c:LI}(hl:c.length=n) (u v:Nat):Rf n c (Zq c u v):=by
 intro x y hx hy h;rw[YJ (by omega),YJ (by omega),h]
theorem zF {n:Nat}{c:LI}(hl:c.length=n) {u v:Nat}(hu:u<n) (E:v<n):cget (Zq c u v) u=cget (Zq c u v) v:=by
 rw[YJ (by omega),YJ (by omega),if_pos rfl];split <;> rfl
theorem Z0 {n:Nat}{c:LI}(hl:c.length=n) {u v:Nat}(hu:0≤cget c u) (E:0≤cget c v) {x:Nat}(hx:x<n):cget (Zq c u v) x<0↔cget c x<0:=by
 rw[YJ (by omega)];split
 ·rename_i h;rw[h];omega
 exact Iff.rfl
theorem XQ (c:LI) (i j:Nat):YC c i j=Zq c i j∨YC c i j=Zq c j i:=by
 unfold YC Zq mgF;rcases Int.le_total (cget c i) (cget c j) with h | h
 ·left;rw[Int.max_eq_right h,Int.min_eq_left h]
 right;rw[Int.max_eq_left h,Int.min_eq_right h]
def Frc (s:QE) (l:List Z6) (n:Nat) (c:LI) (u t:Nat):Prop :=
 ∃x y e,x<n∧y<n∧0≤cget c x∧cget c x=cget c y∧e∈(lget l x).en∧e∈(lget l y).en∧u=(X4 s x e).toNat∧t=(X4 s y e).toNat
def qI (s:QE) (l:List Z6) (n:Nat) (c:LI):Prop:=∀u t,Frc s l n c u t→cget c u=cget c t
theorem Frc.symm {s:QE}{l:List Z6}{n:Nat}{c:LI}{u t:Nat}(h:Frc s l n c u t):Frc s l n c t u:=by
 obtain ⟨x,y,e,h1,h2,h3,h4,h5,E,G,H⟩:=h;exact ⟨y,x,e,h2,h1,by omega,h4.symm,E,h5,H,G⟩
def Kw (s:QE) (l:List Z6) (n:Nat) (c:LI):Prop:=∀x,x<n→0≤cget c x→∀e∈(lget l x).en,(X4 s x e).toNat<n∧0≤cget c (X4 s x e).toNat
inductive X0 (s:QE) (l:List Z6) (n:Nat) (z:LI×Bool):LI×Bool→Prop
 | refl:X0 s l n z z
 | step {z':LI×Bool} (u t:Nat):X0 s l n z z'→cget z'.1 u≠cget z'.1 t→Frc s l n z'.1 u t→X0 s l n z (Zq z'.1 u t,true)
theorem X0.trans {s:QE}{l:List Z6}{n:Nat}{z E G:LI×Bool}(h:X0 s l n z E) (k:X0 s l n E G):X0 s l n z G:=by
 induction k with
 | refl=>exact h
 | step u t _ h1 h2 ih=>exact .step u t ih h1 h2
structure Kp (s:QE) (l:List Z6) (n:Nat) (z z':LI×Bool):Prop where
 len:z'.1.length=n
 sg:∀x,x<n→(cget z'.1 x<0↔cget z.1 x<0)
 up:Rf n z.1 z'.1
 dn:∀e,qI s l n e→(∀x,x<n→(cget e x<0↔cget z.1 x<0))→Rf n z.1 e→Rf n z'.1 e
 fl:z'.2=false→z'=z
 un:z'=z∨uneq z'.1<uneq z.1
theorem X0.kp {s:QE}{l:List Z6}{n:Nat}{z G:LI×Bool}(hl:z.1.length=n) (H:Kw s l n z.1) (h:X0 s l n z G):Kp s l n z G:=by
 induction h with
 | refl=>exact ⟨hl,λ_ _=>Iff.rfl,Rf.refl _ _,λ_ _ _ h=>h,λ_=>O,.inl O⟩
 | step u t h1 h2 h3 ih =>
  obtain ⟨x,y,e,k1,k2,k3,V,J,S,rfl,rfl⟩:=h3;rename_i G;have sx:=ih.sg x k1;have sy:=ih.sg y k2;obtain ⟨o1,o2⟩:=H x k1 (by omega) e J;obtain ⟨o3,o4⟩:=H y k2 (by omega) e S;have su:=ih.sg _ o1;have st:=ih.sg _ o3;refine ⟨by simp[ZC,ih.len],λq hq=>?_,ih.up.trans (Rf.of_merge ih.len _ _),λE hE U Y=>?_,λh=>by simp at h,.inr ?_⟩
  ·rw[Z0 ih.len (by omega) (by omega) hq];exact ih.sg q hq
  ·have hd:=ih.dn E hE U Y;refine Rf.merge ih.len hd o1 o3 (hE _ _ ⟨x,y,e,k1,k2,?_,hd x y k1 k2 V,J,S,O,O⟩);have:=U x k1;omega
  have:=VC (cl:=G.1) (by rw[ih.len];exact o1) (by rw[ih.len];exact o3) h2;rcases ih.un with h4 | h4
  ·rw[h4] at this;rw[←h4];simpa[h4] using this
  simp only[];omega
section
variable {s:QE} {l:List Z6} {n:Nat}
theorem Qcp {x y:Nat}:∀(vs:LI) (z:LI×Bool),z.1.length=n→x<n→y<n→0≤cget z.1 x→cget z.1 x=cget z.1 y→Kw s l n z.1→(∀e∈vs,e∈(lget l x).en∧e∈(lget l y).en)→X0 s l n z (vs.foldl (clE s x y) z)
 | [],z,_,_,_,_,_,_,_=>.refl
 | v::vs,z,hl,hx,hy,J,E,G,H=>by
  obtain ⟨S,U⟩:=H v Lh;have h1:X0 s l n z (clE s x y z v):=by
   unfold clE;split
   ·rename_i V;exact .step _ _ .refl V ⟨x,y,v,hx,hy,J,E,S,U,O,O⟩
   exact .refl
  have k:=h1.kp hl G;have Y:Kw s l n (clE s x y z v).1:=λq hq Z e he=>by
   have:=k.sg q hq;obtain ⟨a,b⟩:=G q hq (by omega) e he;have:=k.sg _ a;exact ⟨a,by omega⟩
  have:=k.sg x hx;exact h1.trans (Qcp vs _ k.len hx hy (by omega) (k.up x y hx hy E) Y (λe he=>H e (Le _ he)))
theorem Kw.of {c d:LI}(E:Kw s l n c) (h:∀x,x<n→(cget d x<0↔cget c x<0)):Kw s l n d:=λq hq G e he=>by
 have:=h q hq;obtain ⟨a,b⟩:=E q hq (by omega) e he;have:=h _ a;exact ⟨a,by omega⟩
theorem J4 {α:Type}{f:LI×Bool→α→LI×Bool}{P:α→Prop}(G:∀z a,P a→z.1.length=n→Kw s l n z.1→X0 s l n z (f z a)):∀(rs:List α) (z:LI×Bool),(∀a∈rs,P a)→z.1.length=n→Kw s l n z.1→X0 s l n z (rs.foldl f z)
 | [],_,_,_,_=>.refl
 | a::rs,z,H,hl,E=>by
  have h1:=G z a (H a Lh) hl E;have k:=h1.kp hl E;exact h1.trans (J4 G rs _ (λb hb=>H b (Le _ hb)) k.len (E.of k.sg))
theorem J5 {α:Type}{f:LI×Bool→α→LI×Bool}{P:α→Prop}{T:LI→α→Prop}(H:∀z a,P a→z.1.length=n→Kw s l n z.1→X0 s l n z (f z a)) (J:∀z a,P a→z.1.length=n→Kw s l n z.1→(f z a).2=false→T z.1 a) :
  ∀(rs:List α) (z:LI×Bool),(∀a∈rs,P a)→z.1.length=n→Kw s l n z.1→(rs.foldl f z).2=false→rs.foldl f z=z∧∀a∈rs,T z.1 a
 | [],_,_,_,_,_=>⟨O,λa ha=>by cases ha⟩
 | a::rs,z,G,hl,E,h=>by
  have h1:=H z a (G a Lh) hl E;have k:=h1.kp hl E;obtain ⟨h2,h3⟩:=J5 H J rs _ (λb hb=>G b (Le _ hb)) k.len (E.of k.sg) h;have h':(f z a).2=false:=by have S:=h;rw[Ls,h2] at S;exact S
  have h4:=k.fl h';rw[h4] at h3;rw[Ls,h2];refine ⟨h4,λb hb=>?_⟩;rcases Li.1 hb with rfl | hb
  ·exact J z b (G b Lh) hl E h'
  exact h3 b hb
end
section
variable {s:QE} {l:List Z6} {n:Nat}
theorem Qcq {x y:Nat}:∀(vs:LI) (z:LI×Bool),(vs.foldl (clE s x y) z).2=false→∀v∈vs,cget z.1 (X4 s x v).toNat=cget z.1 (X4 s y v).toNat
 | [],_,_,v,E=>by cases E
 | v::vs,z,h,u,hu=>by
  rw[Ls] at h;have key:∀(ws:LI) (q:LI×Bool),q.2=true→(ws.foldl (clE s x y) q).2=true:=by
   intro ws;induction ws with
   | nil=>intro q hq;exact hq
   | cons w ws ih =>
    intro q hq;rw[Ls];refine ih _ ?_;unfold clE;split
    ·rfl
    exact hq
  have hc:cget z.1 (X4 s x v).toNat=cget z.1 (X4 s y v).toNat:=by
   by_cases e:cget z.1 (X4 s x v).toNat=cget z.1 (X4 s y v).toNat
   ·exact e
   have h1:clE s x y z v=(Zq z.1 (X4 s x v).toNat (X4 s y v).toNat,true):=by unfold clE;rw[if_pos e]
   rw[h1,key _ _ rfl] at h;cases h
  have h2:clE s x y z v=z:=by unfold clE;rw[if_neg (λe=>e hc)]
  rw[h2] at h;rcases Li.1 hu with rfl | hu
  ·exact hc
  exact Qcq vs z h u hu
def Qa1 (l:List Z6) (n:Nat):Prop:=∀x,x<n→ZT (lget l x).en
theorem Qcn (hi:Qa1 l n) {x:Nat}(hx:x<n) (z:LI×Bool) (y:Nat) (hy:y<n) (hl:z.1.length=n) (E:Kw s l n z.1):X0 s l n z (clY s l x z y):=by
 unfold clY;split
 ·exact .refl
 rename_i h;refine Qcp _ z hl hx hy (by omega) (by omega) E λe he=>?_;exact (Vh (hi x hx) (hi y hy) e).1 he
def Alk (s:QE) (l:List Z6) (c:LI) (x y:Nat):Prop:=0≤cget c x→cget c x=cget c y→∀e,e∈(lget l x).en→e∈(lget l y).en→cget c (X4 s x e).toNat=cget c (X4 s y e).toNat
theorem Qiy (hi:Qa1 l n) {x:Nat}(hx:x<n) (z:LI×Bool) (y:Nat) (hy:y<n) (h:(clY s l x z y).2=false):Alk s l z.1 x y:=by
 intro H h1 e E G;unfold clY at h;rw[if_neg (by omega)] at h;exact Qcq _ z h e ((Vh (hi x hx) (hi y hy) e).2 ⟨E,G⟩)
theorem Qco (hi:Qa1 l n) (z:LI×Bool) (x:Nat) (hx:x<n) (hl:z.1.length=n) (E:Kw s l n z.1):X0 s l n z (clX s l n z x):=by
 unfold clX;exact J4 (P:=λy=>y<n) (λz y hy hl E=>Qcn hi hx z y hy hl E) _ z (λy hy=>by rw[Ly] at hy;omega) hl E
theorem QiA (hi:Qa1 l n) (z:LI×Bool) (x:Nat) (hx:x<n) (hl:z.1.length=n) (E:Kw s l n z.1) (h:(clX s l n z x).2=false):∀y,x<y→y<n→Alk s l z.1 x y:=by
 unfold clX at h;intro y hy G;exact (J5 (P:=λy=>y<n) (T:=λc y=>Alk s l c x y) (λz y hy hl E=>Qcn hi hx z y hy hl E) (λz y hy _ _ h=>Qiy hi hx z y hy h) _ z (λy hy=>by rw[Ly] at hy;omega) hl E h).2 y (by rw[Ly];omega)
theorem jw (hi:Qa1 l n) (c:LI) (hl:c.length=n) (E:Kw s l n c):X0 s l n (c,false) (pass s l c):=by
 unfold pass;rw[hl];exact J4 (P:=λy=>y<n) (λz y hy hl E=>Qco hi z y hy hl E) _ _ (λy hy=>by rw[Ly] at hy;omega) hl E
theorem Alk.symm {c:LI}{x y:Nat}(h:Alk s l c x y):Alk s l c y x:=λE h1 e h2 h3=>(h (by omega) h1.symm e h3 h2).symm
theorem qp {c:LI}(h:∀x y,x<y→y<n→Alk s l c x y):qI s l n c:=by
 rintro u t ⟨x,y,e,h1,h2,h3,h4,h5,E,rfl,rfl⟩;rcases Nat.lt_trichotomy x y with G | heq | hgt
 ·exact h x y G h2 h3 h4 e h5 E
 ·subst heq;rfl
 exact (h y x hgt h1).symm h3 h4 e h5 E
theorem QfH (hi:Qa1 l n) (c:LI) (hl:c.length=n) (E:Kw s l n c) (h:(pass s l c).2=false):(pass s l c).1=c∧qI s l n c:=by
 have H:=h;unfold pass at h;rw[hl] at h;have:=J5 (P:=λy=>y<n) (T:=λc x=>∀y,x<y→y<n→Alk s l c x y) (λz y hy hl E=>Qco hi z y hy hl E) (λz x hx hl E h=>QiA hi z x hx hl E h) _ (c,false) (λy hy=>by rw[Ly] at hy;omega) hl E h;refine ⟨?_,qp λx y G hy=>this.2 x (by rw[Ly];omega) y G hy⟩;unfold pass;rw[hl,this.1]
structure QdX (s:QE) (l:List Z6) (n:Nat) (c d:LI):Prop where
 len:d.length=n
 sg:∀x,x<n→(cget d x<0↔cget c x<0)
 up:Rf n c d
 dn:∀e,qI s l n e→(∀x,x<n→(cget e x<0↔cget c x<0))→Rf n c e→Rf n d e
 cl:qI s l n d
theorem QdX.of_kp {c d:LI}{z:LI×Bool}(k:Kp s l n (c,false) z) (h:QdX s l n z.1 d):QdX s l n c d :=
 ⟨h.len,λx hx=>(h.sg x hx).trans (k.sg x hx),k.up.trans h.up,λe he hs E=>h.dn e he (λx hx=>(hs x hx).trans (k.sg x hx).symm) (k.dn e he hs E),h.cl⟩
theorem XS (hi:Qa1 l n):∀(f:Nat) (c:LI),c.length=n→Kw s l n c→uneq c<f→QdX s l n c (YS s l f c)
 | 0,_,_,_,h=>by omega
 | f+1,c,hl,E,G=>by
  have hs:=jw hi c hl E;have k:=hs.kp hl E;rw[YS];cases hp:(pass s l c).2 with
  | false =>
   obtain ⟨h1,h2⟩:=QfH hi c hl E hp;rw[if_neg (by simp),h1];exact ⟨hl,λ_ _=>Iff.rfl,Rf.refl _ _,λ_ _ _ h=>h,h2⟩
  | true =>
   rw[if_pos rfl];have hu:uneq (pass s l c).1<uneq c:=by
    rcases k.un with h | h
    ·rw[h] at hp;cases hp
    exact h
   exact QdX.of_kp k (XS hi f _ k.len (E.of k.sg) (by omega))
def lwE (s:QE) (l:List Z6) (x y:Nat) (z:LI×Bool) (e:Int):LI×Bool :=
 if e∉(lget l y).en then z else if cget z.1 (nxt s.ed x e).toNat≠cget z.1 (nxt s.ed y e).toNat then (YC z.1 (nxt s.ed x e).toNat (nxt s.ed y e).toNat,true) else z
def lwY (s:QE) (l:List Z6) (x:Nat) (z:LI×Bool) (y:Nat):LI×Bool :=
 if cget z.1 x<0∨cget z.1 x≠cget z.1 y then z else (lget l x).en.foldl (lwE s l x y) z
def lwX (s:QE) (l:List Z6) (z:LI×Bool) (x:Nat):LI×Bool:=(List.range' 0 x).foldl (lwY s l x) z
def Xy (s:QE) (l:List Z6) (c:LI):LI×Bool:=(List.range' 0 c.length).foldl (lwX s l) (c,false)
def JI (s:QE) (l:List Z6):Nat→LI→LI
 | 0,cl=>cl
 | f+1,cl=>if (Xy s l cl).2=true then JI s l f (Xy s l cl).1 else (Xy s l cl).1
def Nx (s:QE) (l:List Z6) (n:Nat):Prop:=∀x,x<n→∀e∈(lget l x).en,nxt s.ed x e=X4 s x e∧0≤X4 s x e
theorem QbQ (E:Nx s l n) {x y:Nat}(hx:x<n) (hy:y<n) (z:LI×Bool) (e:Int) (he:e∈(lget l x).en) (S:0≤cget z.1 x) (h1:cget z.1 x=cget z.1 y):X0 s l n z (lwE s l x y z e):=by
 unfold lwE;split
 ·exact .refl
 rename_i h2;have G:e∈(lget l y).en:=Lt.1 h2;rw[(E x hx e he).1,(E y hy e G).1];split
 ·rename_i H;have J:Frc s l n z.1 (X4 s x e).toNat (X4 s y e).toNat:=⟨x,y,e,hx,hy,S,h1,he,G,O,O⟩;rcases XQ z.1 (X4 s x e).toNat (X4 s y e).toNat with h | h
  ·rw[h];exact .step _ _ .refl H J
  rw[h];exact .step _ _ .refl (Ne.symm H) J.symm
 exact .refl
theorem QbR (E:Nx s l n) {x y:Nat}(hx:x<n) (hy:y<n):∀(vs:LI) (z:LI×Bool),(∀e∈vs,e∈(lget l x).en)→z.1.length=n→Kw s l n z.1→0≤cget z.1 x→cget z.1 x=cget z.1 y→X0 s l n z (vs.foldl (lwE s l x y) z)
 | [],_,_,_,_,_,_=>.refl
 | v::vs,z,G,hl,H,J,h1=>by
  have hs:=QbQ E hx hy z v (G v Lh) J h1;have k:=hs.kp hl H;have:=k.sg x hx;exact hs.trans (QbR E hx hy vs _ (λe he=>G e (Le _ he)) k.len (H.of k.sg) (by omega) (k.up x y hx hy h1))
theorem QbS (G:Nx s l n) {x y:Nat}(hx:x<n) (hy:y<n):∀(vs:LI) (z:LI×Bool),(∀e∈vs,e∈(lget l x).en)→(vs.foldl (lwE s l x y) z).2=false→∀v∈vs,v∈(lget l y).en→cget z.1 (X4 s x v).toNat=cget z.1 (X4 s y v).toNat
 | [],_,_,_,v,S,_=>by cases S
 | v::vs,z,H,h,u,hu,J=>by
  rw[Ls] at h;have key:∀(ws:LI) (q:LI×Bool),q.2=true→(ws.foldl (lwE s l x y) q).2=true:=by
   intro ws;induction ws with
   | nil=>intro q hq;exact hq
   | cons w ws ih =>
    intro q hq;rw[Ls];refine ih _ ?_;unfold lwE;split
    ·exact hq
    split
    ·rfl
    exact hq
  have hc:v∈(lget l y).en→cget z.1 (X4 s x v).toNat=cget z.1 (X4 s y v).toNat:=λE=>by
   by_cases e:cget z.1 (X4 s x v).toNat=cget z.1 (X4 s y v).toNat
   ·exact e
   have h1:(lwE s l x y z v).2=true:=by
    unfold lwE;rw[if_neg (λh=>h E),(G x hx v (H v Lh)).1,(G y hy v E).1,if_pos e]
   rw[key _ _ h1] at h;cases h
  have h2:lwE s l x y z v=z:=by
   unfold lwE;by_cases E:v∈(lget l y).en
   ·rw[if_neg (λh=>h E),(G x hx v (H v Lh)).1,(G y hy v E).1,if_neg (λh=>h (hc E))]
   rw[if_pos E]
  rw[h2] at h;rcases Li.1 hu with rfl | hu
  ·exact hc J
  exact QbS G hx hy vs z (λe he=>H e (Le _ he)) h u hu J
theorem zH (E:Nx s l n) {x:Nat}(hx:x<n) (z:LI×Bool) (y:Nat) (hy:y<n) (hl:z.1.length=n) (G:Kw s l n z.1):X0 s l n z (lwY s l x z y):=by
 unfold lwY;split
 ·exact .refl
 rename_i h;exact QbR E hx hy _ z (λ_ h=>h) hl G (by omega) (by omega)
theorem Qhw (E:Nx s l n) {x:Nat}(hx:x<n) (z:LI×Bool) (y:Nat) (hy:y<n) (h:(lwY s l x z y).2=false):Alk s l z.1 x y:=by
 intro J h1 e G H;unfold lwY at h;rw[if_neg (by omega)] at h;exact QbS E hx hy _ z (λ_ h=>h) h e G H
theorem zI (G:Nx s l n) (z:LI×Bool) (x:Nat) (hx:x<n) (hl:z.1.length=n) (E:Kw s l n z.1):X0 s l n z (lwX s l z x):=by
 unfold lwX;exact J4 (P:=λy=>y<n) (λz y hy hl E=>zH G hx z y hy hl E) _ z (λy hy=>by rw[Ly] at hy;omega) hl E
theorem Qhx (G:Nx s l n) (z:LI×Bool) (x:Nat) (hx:x<n) (hl:z.1.length=n) (E:Kw s l n z.1) (h:(lwX s l z x).2=false):∀y,y<x→Alk s l z.1 x y:=by
 unfold lwX at h;intro y hy;exact (J5 (P:=λy=>y<n) (T:=λc y=>Alk s l c x y) (λz y hy hl E=>zH G hx z y hy hl E) (λz y hy _ _ h=>Qhw G hx z y hy h) _ z (λy hy=>by rw[Ly] at hy;omega) hl E h).2 y (by rw[Ly];omega)
theorem qj (G:Nx s l n) (c:LI) (hl:c.length=n) (E:Kw s l n c):X0 s l n (c,false) (Xy s l c):=by
 unfold Xy;rw[hl];exact J4 (P:=λy=>y<n) (λz y hy hl E=>zI G z y hy hl E) _ _ (λy hy=>by rw[Ly] at hy;omega) hl E
theorem QbO (G:Nx s l n) (c:LI) (hl:c.length=n) (E:Kw s l n c) (h:(Xy s l c).2=false):(Xy s l c).1=c∧qI s l n c:=by
 have J:=h;unfold Xy at h;rw[hl] at h;have:=J5 (P:=λy=>y<n) (T:=λc x=>∀y,y<x→Alk s l c x y) (λz y hy hl E=>zI G z y hy hl E) (λz x hx hl E h=>Qhx G z x hx hl E h) _ (c,false) (λy hy=>by rw[Ly] at hy;omega) hl E h;refine ⟨?_,qp λx y H hy=>(this.2 y (by rw[Ly];omega) x H).symm⟩;unfold Xy;rw[hl,this.1]
theorem Ub (G:Nx s l n):∀(f:Nat) (c:LI),c.length=n→Kw s l n c→uneq c<f→QdX s l n c (JI s l f c)
 | 0,_,_,_,h=>by omega
 | f+1,c,hl,E,H=>by
  have hs:=qj G c hl E;have k:=hs.kp hl E;rw[JI];cases hp:(Xy s l c).2 with
  | false =>
   obtain ⟨h1,h2⟩:=QbO G c hl E hp;rw[if_neg (by simp),h1];exact ⟨hl,λ_ _=>Iff.rfl,Rf.refl _ _,λ_ _ _ h=>h,h2⟩
  | true =>
   rw[if_pos rfl];have hu:uneq (Xy s l c).1<uneq c:=by
    rcases k.un with h | h
    ·rw[h] at hp;cases hp
    exact h
   exact QdX.of_kp k (Ub G f _ k.len (E.of k.sg) (by omega))
end
structure Sm (n:Nat) (c d:LI):Prop where
 r:Rf n c d
 q:Rf n d c
 sg:∀x,x<n→(cget d x<0↔cget c x<0)
theorem Sm.refl (n:Nat) (c:LI):Sm n c c:=⟨Rf.refl _ _,Rf.refl _ _,λ_ _=>Iff.rfl⟩
def yK (n:Nat) (d:LI):Prop:=∀x,x<n→0≤cget d x→cget d x≤x∧cget d (cget d x).toNat=cget d x
theorem U1 {d:LI}{u v x:Nat}(h:x<d.length):cget (YC d u v) x=if cget d x=max (cget d u) (cget d v) then min (cget d u) (cget d v) else cget d x:=by
 unfold YC;rw[Qcx _ h];rfl
theorem yK.join {n:Nat}{d:LI}(hl:d.length=n) (h:yK n d) {u v:Nat}(hu:u<n) (H:v<n) (J:0≤cget d u) (S:0≤cget d v):yK n (YC d u v):=by
 by_cases he:cget d u=cget d v
 ·have e:YC d u v=d:=by
   unfold YC;rw[he,Int.max_self,Int.min_self];conv=>rhs;rw[←List.map_id d]
   refine List.map_congr_left λc _=>?_;unfold mgF;split
   ·rename_i h;exact h.symm
   rfl
  rw[e];exact h
 have U:=h u hu J;have V:=h v H S;have Y:cget d (min (cget d u) (cget d v)).toNat=min (cget d u) (cget d v)∧(min (cget d u) (cget d v)).toNat<n:=by
  rcases Int.le_total (cget d u) (cget d v) with h1 | h1
  ·rw[Int.min_eq_left h1];exact ⟨U.2,by omega⟩
  rw[Int.min_eq_right h1];exact ⟨V.2,by omega⟩
 have Z:min (cget d u) (cget d v)≠max (cget d u) (cget d v):=by omega
 intro x hx E;rw[U1 (by omega)] at E ⊢;by_cases h1:cget d x=max (cget d u) (cget d v)
 ·rw[if_pos h1] at E ⊢;have G:=h x hx (by omega);refine ⟨by omega,?_⟩;rw[U1 (by omega),Y.1,if_neg Z]
 rw[if_neg h1] at E ⊢;have G:=h x hx E;refine ⟨G.1,?_⟩;rw[U1 (by omega),G.2,if_neg h1]
section
variable {s:QE} {l:List Z6} {n:Nat}
theorem Qj3 (G:Nx s l n) {x y:Nat}(hx:x<n) (hy:y<n) (z:LI×Bool) (e:Int) (he:e∈(lget l x).en) (S:0≤cget z.1 x) (h1:cget z.1 x=cget z.1 y) (hl:z.1.length=n) (H:Kw s l n z.1) (E:yK n z.1):yK n (lwE s l x y z e).1:=by
 unfold lwE;split
 ·exact E
 rename_i h2;have J:e∈(lget l y).en:=Lt.1 h2;rw[(G x hx e he).1,(G y hy e J).1];obtain ⟨a1,a2⟩:=H x hx S e he;obtain ⟨b1,b2⟩:=H y hy (by omega) e J;split
 ·exact E.join hl a1 b1 a2 b2
 exact E
theorem Ua (E:Nx s l n) {x y:Nat}(hx:x<n) (hy:y<n):∀(vs:LI) (z:LI×Bool),(∀e∈vs,e∈(lget l x).en)→z.1.length=n→Kw s l n z.1→0≤cget z.1 x→cget z.1 x=cget z.1 y→yK n z.1→yK n (vs.foldl (lwE s l x y) z).1
 | [],_,_,_,_,_,_,h=>h
 | v::vs,z,G,hl,H,J,h1,S=>by
  have hs:=QbQ E hx hy z v (G v Lh) J h1;have k:=hs.kp hl H;have:=k.sg x hx;exact Ua E hx hy vs _ (λe he=>G e (Le _ he)) k.len (H.of k.sg) (by omega) (k.up x y hx hy h1) (Qj3 E hx hy z v (G v Lh) J h1 hl H S)
theorem ye {α:Type}{f:LI×Bool→α→LI×Bool}{P:α→Prop}(H:∀z a,P a→z.1.length=n→Kw s l n z.1→X0 s l n z (f z a)) (J:∀z a,P a→z.1.length=n→Kw s l n z.1→yK n z.1→yK n (f z a).1) :
  ∀(rs:List α) (z:LI×Bool),(∀a∈rs,P a)→z.1.length=n→Kw s l n z.1→yK n z.1→yK n (rs.foldl f z).1
 | [],_,_,_,_,h=>h
 | a::rs,z,G,hl,E,h=>by
  have k:=(H z a (G a Lh) hl E).kp hl E;exact ye H J rs _ (λb hb=>G b (Le _ hb)) k.len (E.of k.sg) (J z a (G a Lh) hl E h)
theorem Qj0 (G:Nx s l n) {x:Nat}(hx:x<n) (z:LI×Bool) (y:Nat) (hy:y<n) (hl:z.1.length=n) (H:Kw s l n z.1) (E:yK n z.1):yK n (lwY s l x z y).1:=by
 unfold lwY;split
 ·exact E
 rename_i h;exact Ua G hx hy _ z (λ_ h=>h) hl H (by omega) (by omega) E
theorem Qj1 (G:Nx s l n) (z:LI×Bool) (x:Nat) (hx:x<n) (hl:z.1.length=n) (E:Kw s l n z.1) (H:yK n z.1):yK n (lwX s l z x).1:=by
 unfold lwX;exact ye (P:=λy=>y<n) (λz y hy hl E=>zH G hx z y hy hl E) (λz y hy hl E h=>Qj0 G hx z y hy hl E h) _ z (λy hy=>by rw[Ly] at hy;omega) hl E H
theorem Qdl (G:Nx s l n) (c:LI) (hl:c.length=n) (E:Kw s l n c) (H:yK n c):yK n (Xy s l c).1:=by
 unfold Xy;rw[hl];exact ye (P:=λy=>y<n) (λz y hy hl E=>zI G z y hy hl E) (λz y hy hl E h=>Qj1 G z y hy hl E h) _ (c,false) (λy hy=>by rw[Ly] at hy;omega) hl E H
theorem qk (G:Nx s l n):∀(f:Nat) (c:LI),c.length=n→Kw s l n c→yK n c→yK n (JI s l f c)
 | 0,_,_,_,h=>h
 | f+1,c,hl,E,H=>by
  have k:=(qj G c hl E).kp hl E;have h1:=Qdl G c hl E H;rw[JI];split
  ·exact qk G f _ k.len (E.of k.sg) h1
  exact h1
def Qdm (l:List Z6) (c:LI):Bool:=(List.range' 0 c.length).all λx=>(List.range' 0 x).all λy=>!(decide (0≤cget c x∧cget c x=cget c y) && !y9 (lget l x) (lget l y))
def QeF (s:QE) (l:List Z6) (c:LI) (i j:Nat):LI×Bool :=
 if Qdm l (JI s l (c.length*c.length+1) (YC c i j))=true then (JI s l (c.length*c.length+1) (YC c i j),true) else (c,false)
def qi (s:QE) (l:List Z6) (c:LI) (i j:Nat):LI:=if 0≤cget c i∧0≤cget c j∧cget c i≠cget c j then (QeF s l c i j).1 else c
def QcO (l:List Z6) (n:Nat):Prop:=∀x,x<n→ZT (lget l x).en∧ZT (lget l x).dis
theorem VP {α:Type}{f g:α→Bool}:∀{rs:List α},(∀x∈rs,f x=g x)→rs.all f=rs.all g
 | [],_=>rfl
 | x::rs,h=>by rw[My,My,h x Lh,VP (λy hy=>h y (Le _ hy))]
theorem Qf8 (hi:QcO l n) {c d:LI}(hc:c.length=n) (hd:d.length=n) (h:Sm n c d):Yc l c=Qdm l d:=by
 unfold Yc Qdm;rw[hc,hd];refine VP λx hx=>VP λy hy=>?_;rw[Ly] at hx hy;have E:x<n:=by omega
 have G:y<n:=by omega
 rw[jX (hi x E).1 (hi x E).2 (hi y G).1 (hi y G).2];have e:decide (0≤cget c x∧cget c x=cget c y)=decide (0≤cget d x∧cget d x=cget d y):=by
  rw[decide_eq_decide];have:=h.sg x E;have h1:=h.r x y E G;have h2:=h.q x y E G;constructor
  ·rintro ⟨a,b⟩;exact ⟨by omega,h1 b⟩
  rintro ⟨a,b⟩;exact ⟨by omega,h2 b⟩
 rw[e]
structure UC (s:QE) (l:List Z6) (n:Nat) (c d:LI):Prop where
 lc:c.length=n
 ld:d.length=n
 sm:Sm n c d
 oc:Kw s l n c
 ls:yK n d
theorem UC.od {c d:LI}(h:UC s l n c d):Kw s l n d:=h.oc.of h.sm.sg
theorem KN (hi:QcO l n) (J:Nx s l n) {c d:LI}(h:UC s l n c d) {x y:Nat}(hx:x<n) (hy:y<n):UC s l n (KO s l c x y) (qi s l d x y):=by
 have sx:=h.sm.sg x hx;have sy:=h.sm.sg y hy;have r:=h.sm.r x y hx hy;have q:=h.sm.q x y hx hy;unfold KO qi;by_cases h1:cget c x<0∨cget c y<0∨cget c x=cget c y
 ·have E:¬(0≤cget d x∧0≤cget d y∧cget d x≠cget d y):=λe=>h1.elim (λa=>by omega) (λa=>a.elim (λa=>by omega) (λa=>e.2.2 (r a)));rw[if_pos h1,if_neg E];exact h
 have E:0≤cget d x∧0≤cget d y∧cget d x≠cget d y:=⟨by omega,by omega,λe=>h1 (.inr (.inr (q e)))⟩;rw[if_neg h1,if_pos E];have he:=h.od;have hf:Qa1 l n:=λx hx=>(hi x hx).1;have U:0≤cget c x:=by omega
 have V:0≤cget c y:=by omega
 have G:0≤cget d x:=by omega
 have H:0≤cget d y:=by omega
 have hg:(Zq c x y).length=n:=by rw[ZC];exact h.lc
 have Y:Kw s l n (Zq c x y):=h.oc.of λq hq=>Z0 h.lc U V hq;have Z:(YC d x y).length=n:=by rw[jG];exact h.ld
 have sgd:∀q,q<n→(cget (YC d x y) q<0↔cget d q<0):=λq hq=>by
  rcases XQ d x y with e | e
  ·rw[e];exact Z0 h.ld G H hq
  rw[e];exact Z0 h.ld H G hq
 have ha:Kw s l n (YC d x y):=he.of sgd;have updj:Rf n d (YC d x y):=by
  rcases XQ d x y with e | e
  ·rw[e];exact Rf.of_merge h.ld _ _
  rw[e];exact Rf.of_merge h.ld _ _
 have jxy:cget (YC d x y) x=cget (YC d x y) y:=by
  rcases XQ d x y with e | e
  ·rw[e];exact zF h.ld hx hy
  rw[e];exact (zF h.ld hy hx).symm
 have dnj:∀e,Rf n d e→cget e x=cget e y→Rf n (YC d x y) e:=λe hr hb=>by
  rcases XQ d x y with e' | e'
  ·rw[e'];exact Rf.merge h.ld hr hx hy hb
  rw[e'];exact Rf.merge h.ld hr hy hx hb.symm
 have K1:=XS hf (c.length*c.length+1) (Zq c x y) hg Y (by have:=Vf (Zq c x y);rw[ZC] at this;omega);have K2:=Ub J (d.length*d.length+1) (YC d x y) Z ha (by have:=Vf (YC d x y);rw[jG] at this;omega);have L2:=qk J (d.length*d.length+1) (YC d x y) Z ha (h.ls.join h.ld hx hy G H);have sgc:∀q,q<n→(cget (Zq c x y) q<0↔cget c q<0):=λq hq=>Z0 h.lc U V hq
 have S:Sm n (YS s l (c.length*c.length+1) (Zq c x y)) (JI s l (d.length*d.length+1) (YC d x y)):=by
  refine ⟨K1.dn _ K2.cl (λq hq=>?_) ?_,K2.dn _ K1.cl (λq hq=>?_) ?_,λq hq=>?_⟩
  ·rw[K2.sg q hq,sgd q hq,h.sm.sg q hq,sgc q hq]
  ·exact Rf.merge h.lc ((h.sm.r.trans updj).trans K2.up) hx hy (K2.up x y hx hy jxy)
  ·rw[K1.sg q hq,sgc q hq,sgd q hq,h.sm.sg q hq]
  ·exact dnj _ ((h.sm.q.trans (Rf.of_merge h.lc _ _)).trans K1.up) (K1.up x y hx hy (zF h.lc hx hy))
  rw[K2.sg q hq,sgd q hq,h.sm.sg q hq,K1.sg q hq,sgc q hq]
 have hc:=Qf8 hi K1.len K2.len S;unfold QeF;by_cases hk:Yc l (YS s l (c.length*c.length+1) (Zq c x y))=true
 ·rw[if_pos hk,if_pos (by rw[←hc];exact hk)];exact ⟨K1.len,K2.len,S,Y.of K1.sg,L2⟩
 rw[if_neg hk,if_neg (by rw[←hc];exact hk)];exact h
def QfT (s:QE) (l:List Z6) (n:Nat) (c:LI) (x:Nat):LI:=(List.range' (x+1) (n - (x+1))).foldl (λc y=>qi s l c x y) c
def lwA (s:QE) (l:List Z6) (c:LI):LI:=(List.range' 0 c.length).foldl (QfT s l c.length) c
theorem YH {α:Type}{f g:LI→α→LI}{P:α→Prop}{I:LI→LI→Prop}(h:∀c d a,P a→I c d→I (f c a) (g d a)):∀(rs:List α) (c d:LI),(∀a∈rs,P a)→I c d→I (rs.foldl f c) (rs.foldl g d)
 | [],_,_,_,E=>E
 | a::rs,c,d,G,E=>YH h rs _ _ (λb hb=>G b (Le _ hb)) (h c d a (G a Lh) E)
theorem Qiw (hi:QcO l n) (G:Nx s l n) {c d:LI}(h:UC s l n c d):UC s l n (YR s l c) (lwA s l d):=by
 unfold YR lwA;rw[h.lc,h.ld];refine YH (P:=λx=>x<n) (I:=UC s l n) (λc d x hx E=>?_) _ c d (λx hx=>by rw[Ly] at hx;omega) h;unfold qA QfT;exact YH (f:=λc y=>KO s l c x y) (g:=λd y=>qi s l d x y) (P:=λy=>y<n) (I:=UC s l n) (λc d y hy E=>KN hi G E hx hy) (List.range' (x+1) (n - (x+1))) c d (λy hy=>by rw[Ly] at hy;omega) E
end
def qE (d:LI) (z:LI×Nat) (x:Nat):LI×Nat :=
 if cget d x<0 then (z.1++[-1],z.2) else if cget d x=x then (z.1++[(z.2:Int)],z.2+1) else (z.1++[cget z.1 (cget d x).toNat],z.2)
def ZK (d:LI):LI×Nat:=(List.range' 0 d.length).foldl (qE d) ([],0)
theorem zX {K:LI}{a b:Int}(h:a∈K):(K++[b]).idxOf a=K.idxOf a:=by rw[L3,if_pos h]
theorem YN {l:LI}{a:Int}{i:Nat}(h:i<l.length):cget (l++[a]) i=cget l i:=Ut h
theorem Jd {l:LI}{a:Int}:cget (l++[a]) l.length=a:=by simp[cget,List.getD]
structure NmI (c d:LI) (k:Nat) (z1:LI×LI) (z2:LI×Nat):Prop where
 eq:z1.2=z2.1
 len:z1.2.length=k
 cnt:z1.1.length=z2.2+1
 neg:(-1:Int)∈z1.1
 n0:z1.1.idxOf (-1)=0
 mem:∀b∈z1.1,b=-1∨∃y,y<k∧cget c y=b∧0≤b
 inn:∀y,y<k→cget c y∈z1.1∧cget z1.2 y=(z1.1.idxOf (cget c y):Int) - 1
theorem KT {n:Nat}{c d:LI}(hc:c.length=n) (hd:d.length=n) (h:Sm n c d) (V:yK n d) (hm:∀x,x<n→cget c x<0→cget c x=-1):∀k,k≤n→NmI c d k ((c.take k).foldl Jm ([-1],[])) ((List.range' 0 k).foldl (qE d) ([],0))
 | 0,_=>⟨O,O,O,by simp,by simp,λb hb=>.inl (by simpa using hb),λy hy=>by omega⟩
 | k+1,hk=>by
  have ih:=KT hc hd h V hm k (by omega);have ha:k<c.length:=by omega
  rw[Ll ha,LW,LS,LW,LJ];simp only[List.foldl_cons,List.foldl_nil];rw[Q5 ha];generalize (c.take k).foldl Jm ([-1],[])=E at ih;generalize (List.range' 0 k).foldl (qE d) ([],0)=z2 at ih;have H:k<n:=by omega
  have sk:=h.sg k H;have old:∀{K':LI} {a:Int},(∀b,b∈E.1→K'.idxOf b=E.1.idxOf b∧b∈K')→∀y,y<k→cget c y∈K'∧cget (E.2++[a]) y=(K'.idxOf (cget c y):Int) - 1:=λhK y hy=>by
   obtain ⟨i1,i2⟩:=ih.inn y hy;obtain ⟨j1,U⟩:=hK _ i1;exact ⟨U,by rw[YN (by rw[ih.len];exact hy),i2,j1]⟩
  have same:∀b,b∈E.1→E.1.idxOf b=E.1.idxOf b∧b∈E.1:=λb hb=>⟨O,hb⟩;unfold Jm qE;by_cases hg:cget c k<0
  ·have e1:=hm k H hg;rw[if_pos (by rw[e1];exact ih.neg),if_pos (by omega),e1,ih.n0];refine ⟨by simp[ih.eq],by simp[ih.len],ih.cnt,ih.neg,ih.n0,λb hb=>?_,λy hy=>?_⟩
   ·rcases ih.mem b hb with a | ⟨y,Y,G,J⟩
    ·exact .inl a
    exact .inr ⟨y,by omega,G,J⟩
   by_cases e:y=k
   ·subst e;refine ⟨by rw[e1];exact ih.neg,?_⟩;rw[e1,ih.n0];have:=Jd (l:=E.2) (a:=((0:Nat):Int) - 1);rw[ih.len] at this;exact this
   exact old same y (by omega)
  rw[if_neg (show ¬cget d k<0 by omega)];have hh:0≤cget d k:=by omega
  obtain ⟨m1,m2⟩:=V k H hh;by_cases S:cget c k∈E.1
  ·rw[if_pos S];obtain ⟨y,Y,G,J⟩:=(ih.mem _ S).resolve_left (by omega);have he:y<n:=by omega
   have e2:cget d y=cget d k:=h.r y k he H G;have hl:=V y he (by omega);have hf:(cget d k).toNat<k:=by omega
   rw[if_neg (show ¬cget d k=(k:Int) by omega)];have Z:cget c (cget d k).toNat=cget c k:=h.q _ k (by omega) H m2;obtain ⟨j1,U⟩:=ih.inn _ hf;rw[Z] at U;refine ⟨by rw[←ih.eq,U],by simp[ih.len],ih.cnt,ih.neg,ih.n0,λb hb=>?_,λq hq=>?_⟩
   ·rcases ih.mem b hb with a | ⟨y,Y,G,J⟩
    ·exact .inl a
    exact .inr ⟨y,by omega,G,J⟩
   by_cases e:q=k
   ·subst e;refine ⟨S,?_⟩;have:=Jd (l:=E.2) (a:=(E.1.idxOf (cget c q):Int) - 1);rw[ih.len] at this;exact this
   exact old same q (by omega)
  rw[if_neg S];have hj:cget d k=(k:Int):=by
   rcases Int.lt_or_le (cget d k) k with hf | hge
   ·exfalso;have Z:cget c (cget d k).toNat=cget c k:=h.q _ k (by omega) H m2;have:=(ih.inn (cget d k).toNat (by omega)).1;rw[Z] at this;exact S this
   omega
  rw[if_pos hj];have hn:=ih.cnt;refine ⟨by simp only[];rw[←ih.eq];congr 2;omega,by simp[ih.len],by simp;omega,LE _ ih.neg,by rw[zX ih.neg];exact ih.n0,λb hb=>?_,λq hq=>?_⟩
  ·rcases Lp.1 hb with hb | hb
   ·rcases ih.mem b hb with a | ⟨y,Y,G,J⟩
    ·exact .inl a
    exact .inr ⟨y,by omega,G,J⟩
   simp only[List.mem_singleton] at hb;subst hb;exact .inr ⟨k,by omega,O,by omega⟩
  by_cases e:q=k
  ·subst e;refine ⟨by simp,?_⟩;rw[L3,if_neg S];have:=Jd (l:=E.2) (a:=(E.1.length:Int) - 1);rw[ih.len] at this;simp only[List.idxOf_cons_self,Nat.zero_add];exact this
  exact old (λb hb=>⟨zX hb,LE _ hb⟩) q (by omega)
def yZ (pairs:List (LI)) (x:Nat):Bool:=pairs.any λq=>decide (py q=(x:Int))
def KB (n:Nat) (pairs:List (LI)):LI:=(List.range' 0 n).map λx:Nat=>if yZ pairs x=true then (x:Int) else -1
theorem QdG {n:Nat}(f:Nat→Int) {x:Nat}(h:x<n):cget ((List.range' 0 n).map f) x=f x:=by simp[cget,List.getD,h]
theorem Xl {n:Nat}{pairs:List (LI)}{x:Nat}(h:x<n):cget (KB n pairs) x=if yZ pairs x=true then (x:Int) else -1:=QdG _ h
theorem QbF {n:Nat}{x:Nat}(hx:x<n):∀(pairs:List (LI)) (o:List Bool),o.length=n→(∀q∈pairs,0≤py q∧py q<n)→(pairs.foldl (λo q=>o.set (py q).toNat true) o).getD x false=(o.getD x false || yZ pairs x)
 | [],o,_,_=>by simp[yZ]
 | q::pairs,o,hl,E=>by
  have hq:=E q Lh;rw[Ls,QbF hx pairs _ (by simpa using hl) (λr G=>E r (Le _ G))];unfold yZ;rw[List.any_cons];by_cases e:py q=(x:Int)
  ·have:(py q).toNat=x:=by omega
   rw[this,decide_eq_true e];have h1:(o.set x true).getD x false=true:=by simp[List.getD,hl,hx]
   rw[h1];simp
  have:(py q).toNat≠x:=by omega
  rw[decide_eq_false e];have h1:(o.set (py q).toNat true).getD x false=o.getD x false:=by simp[List.getD,List.getElem?_set_ne this]
  rw[h1];simp
theorem QkI {p s:QE}{pairs:List (LI)}(G:∀q∈pairs,Vt [p,s] q):yv (occs s.st.toNat pairs)=KB s.st.toNat pairs:=by
 unfold yv KB;rw[V6];refine List.map_congr_left λx hx=>?_;rw[Ly] at hx;have E:x<s.st.toNat:=by omega
 unfold occs;rw[QbF E pairs (List.replicate s.st.toNat false) (by simp) (λq hq=>by
  obtain ⟨a,b,rfl,_,h2⟩:=Vt2 (G q hq);show 0≤(b:Int)∧(b:Int)<_;omega)]
 have:(List.replicate s.st.toNat false).getD x false=false:=by simp[List.getD,E]
 rw[this,NJ]
section
variable {p s:QE} {pairs:List (LI)}
theorem jS (hp:QK p) (hs:QK s) (E:∀q∈pairs,Vt [p,s] q):QcO (ctls p s pairs) s.st.toNat:=λx hx=>by
 rw[yt hp hs E x hx];exact ⟨List.Pairwise.sublist Mz hs.ali,List.Pairwise.sublist Mz hs.ali⟩
theorem QeZ (hp:QK p) (hs:QK s) (E:∀q∈pairs,Vt [p,s] q) {x:Nat}(hx:x<s.st.toNat) {e:Int}(he:e∈(lget (ctls p s pairs) x).en):e∈s.al∧KI p pairs x e=true∧0≤nxt s.ed x e:=by
 rw[yt hp hs E x hx] at he;simp only[Qiq,List.mem_filter,Bool.and_eq_true,decide_eq_true_eq] at he;exact ⟨he.1,he.2.1,he.2.2⟩
theorem QaT (hp:QK p) (hs:QK s) (G:∀q∈pairs,Vt [p,s] q):Nx s (ctls p s pairs) s.st.toNat:=λx hx e he=>by
 have h:=(QeZ hp hs G hx he).2.2;have h1:=h;rw[Yh] at h1 ⊢;unfold X4;cases E:eget s.ed x e with
 | none=>rw[E] at h1;simp at h1
 | some u=>rw[E] at h1;exact ⟨O,h1⟩
theorem Qip (hp:QK p) (hs:QK s) {A:QE}(h:SyP [p,s] A pairs):Kw s (ctls p s pairs) s.st.toNat (KB s.st.toNat pairs):=λx hx _ e he=>by
 have E:=h.v;obtain ⟨h1,h2,h3⟩:=QeZ hp hs E hx he;obtain ⟨n1,n2⟩:=QaT hp hs E x hx e he;have hc:nxt s.ed x e<s.st:=(hs.ed _ (qU h3)).2.2.2.2;have U:∀a∈[p,s],QK a:=λa ha=>by
  simp only[List.mem_cons,List.not_mem_nil,or_false] at ha;rcases ha with rfl | rfl
  ·exact hp
  exact hs
 unfold KI at h2;rw[Mn] at h2;obtain ⟨q,hq,G⟩:=h2;simp only[Bool.and_eq_true,decide_eq_true_eq] at G;obtain ⟨a,b,rfl,ha,hb⟩:=Vt2 (E q hq);have e1:px [(a:Int),(b:Int)]=(a:Int):=rfl;have e2:py [(a:Int),(b:Int)]=(b:Int):=rfl;rw[e1,e2] at G;obtain ⟨rfl,H⟩:b=x∧0≤nxt p.ed a e:=⟨by omega,G.2⟩;obtain ⟨j,hj,V⟩:=LO hq;have J:e∈p.al:=(hp.ed _ (qU H)).2.2.1
 have Y:e∈evs [p,s]:=(Xj U e).2 ⟨p,by simp,J⟩;have Z:Q7 e [p,s] [(a:Int),(b:Int)]=some [nxt p.ed a e,nxt s.ed b e]:=by
  have g1:=(Yr hp a e).1 H;have g2:=(Yr hs b e).1 h3;obtain ⟨u,hu⟩:=MD.1 g1;obtain ⟨t,ht⟩:=MD.1 g2;have f1:nxt p.ed a e=u:=by rw[Yh,hu]
  have f2:nxt s.ed b e=t:=by rw[Yh,ht]
  rw[Q7,if_neg (λh=>h J),hu,Q7,if_neg (λh=>h h1),ht,f1,f2];rfl
 have hg:pairs.getD j []=[(a:Int),(b:Int)]:=by rw[←V];simp[List.getD,hj]
 have hm:=h.cl j hj e Y _ (by rw[hg];exact Z);have S:(X4 s b e).toNat<s.st.toNat:=by rw[←n1];omega
 refine ⟨S,?_⟩;rw[Xl S,if_pos]
 ·omega
 unfold yZ;rw[Mn];refine ⟨_,hm,?_⟩;have e3:py [nxt p.ed a e,nxt s.ed b e]=nxt s.ed b e:=rfl;rw[e3,n1];simp;omega
theorem QeH (hp:QK p) (hs:QK s) {A:QE}(h:SyP [p,s] A pairs):UC s (ctls p s pairs) s.st.toNat (KB s.st.toNat pairs) (KB s.st.toNat pairs):=by
 refine ⟨by simp[KB],by simp[KB],Sm.refl _ _,Qip hp hs h,λx hx E=>?_⟩;rw[Xl hx] at E ⊢;split at E
 ·rename_i G;rw[if_pos G];refine ⟨Ni _,?_⟩;rw[LY,Xl hx,if_pos G]
 omega
end
def Ng (c:LI):Prop:=∀x,cget c x<0→cget c x=-1
theorem Ng.merge {c:LI}(h:Ng c) (u v:Nat):Ng (Zq c u v):=by
 intro x hx;rcases Nz x c.length with hl | hl
 ·rw[YJ hl] at hx ⊢;split at hx
  ·rename_i e;rw[if_pos e];exact h u hx
  rename_i e;rw[if_neg e];exact h x hx
 have:cget (Zq c u v) x=0:=by simp[cget,List.getD,ZC,hl]
 omega
theorem X0.ng {s:QE}{l:List Z6}{n:Nat}{z E:LI×Bool}(h:X0 s l n z E) (G:Ng z.1):Ng E.1:=by
 induction h with
 | refl=>exact G
 | step u t _ _ _ ih=>exact ih.merge u t
section
variable {s:QE} {l:List Z6} {n:Nat}
theorem jY (hi:Qa1 l n):∀(f:Nat) (c:LI),c.length=n→Kw s l n c→Ng c→Ng (YS s l f c)
 | 0,_,_,_,h=>h
 | f+1,c,hl,E,G=>by
  have hs:=jw hi c hl E;have k:=hs.kp hl E;rw[YS];split
  ·exact jY hi f _ k.len (E.of k.sg) (hs.ng G)
  exact hs.ng G
theorem Qe4 (hi:QcO l n) (G:Nx s l n) {c d:LI}(h:UC s l n c d) (H:Ng c):Ng (YR s l c):=by
 have key:UC s l n (YR s l c) (lwA s l d)∧Ng (YR s l c):=by
  unfold YR lwA;rw[h.lc,h.ld];refine YH (P:=λx=>x<n) (I:=λc d=>UC s l n c d∧Ng c) (λc d x hx E=>?_) _ c d (λx hx=>by rw[Ly] at hx;omega) ⟨h,H⟩;unfold qA QfT
  refine YH (f:=λc y=>KO s l c x y) (g:=λd y=>qi s l d x y) (P:=λy=>y<n) (I:=λc d=>UC s l n c d∧Ng c) (λc d y hy E=>⟨KN hi G E.1 hx hy,?_⟩) (List.range' (x+1) (n - (x+1))) c d (λy hy=>by rw[Ly] at hy;omega) E;unfold KO;split
  ·exact E.2
  rename_i h1;have J:0≤cget c x:=by omega
  have S:0≤cget c y:=by omega
  have:=jY (s:=s) (λx hx=>(hi x hx).1) (c.length*c.length+1) (Zq c x y) (by rw[ZC];exact E.1.lc) (E.1.oc.of λq hq=>Z0 E.1.lc J S hq) (E.2.merge x y);simp only[];split
  ·exact this
  exact E.2
 exact key.2
end
theorem Qhn {n:Nat}{c d:LI}(hc:c.length=n) (hd:d.length=n) (h:Sm n c d) (G:yK n d) (hm:∀x,x<n→cget c x<0→cget c x=-1):∀k,k≤n→((List.range' 0 k).foldl (qE d) ([],0)).2=0∨∃y,y<k∧cget ((List.range' 0 k).foldl (qE d) ([],0)).1 y=(((List.range' 0 k).foldl (qE d) ([],0)).2:Int) - 1
 | 0,_=>.inl O
 | k+1,hk=>by
  have ih:=Qhn hc hd h G hm k (by omega);have I:=KT hc hd h G hm k (by omega);have E:=I.len;rw[I.eq] at E;rw[LS,LW,LJ];simp only[List.foldl_cons,List.foldl_nil];generalize (List.range' 0 k).foldl (qE d) ([],0)=z at ih E;unfold qE;split
  ·rcases ih with h1 | ⟨y,h1,h2⟩
   ·exact .inl h1
   exact .inr ⟨y,by omega,by simp only[];rw[YN (by omega)];exact h2⟩
  split
  ·right;refine ⟨k,by omega,?_⟩;have:=Jd (l:=z.1) (a:=(z.2:Int));rw[E] at this;simp only[];rw[this];omega
  rcases ih with h1 | ⟨y,h1,h2⟩
  ·exact .inl h1
  exact .inr ⟨y,by omega,by simp only[];rw[YN (by omega)];exact h2⟩
theorem QjX {l:LI}{x:Nat}(h:x<l.length):cget l x≤UQ l:=by
 have key:∀(r:LI) (m:Int),m≤r.foldl max m∧∀a∈r,a≤r.foldl max m:=by
  intro r;induction r with
  | nil=>intro m;exact ⟨Ni _,λa ha=>by cases ha⟩
  | cons b r ih =>
   intro m;rw[Ls];obtain ⟨h1,h2⟩:=ih (max m b);refine ⟨by omega,λa ha=>?_⟩;rcases Li.1 ha with rfl | ha
   ·omega
   exact h2 a ha
 cases l with
 | nil=>simp at h
 | cons a l =>
  unfold UQ;have e:cget (a::l) 0=a:=rfl;rw[e];simp only[List.drop_succ_cons,List.drop_zero];obtain ⟨h1,h2⟩:=key l a;cases x with
  | zero=>exact h1
  | succ x =>
   have hx:x<l.length:=by simpa using h
   have:cget (a::l) (x+1)=l[x]:=by simp[cget,List.getD,hx]
   rw[this];exact h2 _ (Lj hx)
structure NmR (n:Nat) (c d:LI):Prop where
 eq:nums c=(ZK d).1
 len:(nums c).length=n
 lo:∀x,x<n→(cget (nums c) x<0↔cget c x<0)
 m1:∀x,x<n→-1≤cget (nums c) x
 hi:∀x,x<n→cget (nums c) x<(ZK d).2
 mx:0<n→UQ (nums c)+1=(ZK d).2
theorem Qex {n:Nat}{c d:LI}(hc:c.length=n) (hd:d.length=n) (h:Sm n c d) (H:yK n d) (hm:∀x,x<n→cget c x<0→cget c x=-1):NmR n c d:=by
 have I:=KT hc hd h H hm n (Lv _);have M:=Qhn hc hd h H hm n (Lv _);rw[Lq (by omega)] at I;have e1:(c.foldl Jm ([-1],[])).2=nums c:=rfl;have e2:(List.range' 0 n).foldl (qE d) ([],0)=ZK d:=by unfold ZK;rw[hd]
 rw[e2] at I M;have V:=I.cnt;have E:∀x,x<n→-1≤cget (nums c) x∧cget (nums c) x<(ZK d).2:=λx hx=>by
  obtain ⟨h1,h2⟩:=I.inn x hx;rw[e1] at h2;have:=LC h1;rw[h2];omega
 refine ⟨I.eq,I.len,λx hx=>?_,λx hx=>(E x hx).1,λx hx=>(E x hx).2,λS=>?_⟩
 ·obtain ⟨h1,h2⟩:=I.inn x hx;rw[e1] at h2;constructor
  ·intro h3;have h4:(c.foldl Jm ([-1],[])).1.idxOf (cget c x)=0:=by omega
   have h5:=Mq (LC h1);have J:=Mq (LC I.neg);simp only[h4] at h5;simp only[I.n0] at J;rw[h5] at J;omega
  intro h3;rw[hm x hx h3,I.n0] at h2;omega
 have U:0<(nums c).length:=by rw[←e1,I.len];exact S
 have Y:(nums c).length=n:=by rw[←e1,I.len]
 obtain ⟨x,hx,G⟩:=LO (QbN U);rw[Q5 hx] at G;have h1:=E x (by omega);rcases M with h2 | ⟨y,hy,h2⟩
 ·have:=h1.1;rw[←G];omega
 rw[←I.eq,e1] at h2;have:=QjX (l:=nums c) (x:=y) (by omega);rw[←G] at this ⊢;omega
def zJ (s:QE) (l:List Z6) (nm:LI) (c:Nat) (e:Int) (t:Int) (x:Nat):Int:=if cget nm x=(c:Int)∧e∈(lget l x).en then cget nm (nxt s.ed x e).toNat else t
def Vy (s:QE) (l:List Z6) (nm:LI) (k c:Nat) (e:Int):Int:=(List.range' 0 k).foldl (zJ s l nm c e) (-1)
def zK (l:List Z6) (nm:LI) (c x:Nat):Bool:=decide (cget nm x=(c:Int)) && (lget l x).mk' && (lget l x).ps
def KG (l:List Z6) (nm:LI) (k c:Nat):Bool:=(List.range' 0 k).any (zK l nm c)
def lwG (s:QE) (l:List Z6) (nm:LI) (k c:Nat) (e:Int):Option Ed:=if 0≤Vy s l nm k c e then some ((c:Int),e,Vy s l nm k c e) else none
def KX (s:QE) (l:List Z6) (nm:LI) (k n:Nat):QE:=⟨s.al,(n:Int),((List.range' 0 n).filter (KG l nm k)).map λc:Nat=>(c:Int),grid (lwG s l nm k) s.al n⟩
theorem J2 (s:QE) (l:List Z6) (nm:LI) (k c:Nat) (e:Int):Vy s l nm (k+1) c e=zJ s l nm c e (Vy s l nm k c e) k:=by
 unfold Vy;rw[LS,LW,LJ];rfl
theorem jF (l:List Z6) (nm:LI) (k c:Nat):KG l nm (k+1) c=(KG l nm k c || zK l nm c k):=by
 unfold KG;rw[LS,Ny,LJ];simp
theorem Qhy (s:QE) (l:List Z6) (nm:LI) (k:Nat):U9 (lwG s l nm k):=by
 intro c e d h;unfold lwG at h;split at h
 ·cases h;exact ⟨O,O⟩
 cases h
theorem jt (s:QE) (cls:LI) (x:Nat) (c:Int) (v:Int):∀(vs:LI) (m:List ((Int×Int)×Int)),gget (vs.foldl (QfA s cls x) m) (c,v)=if c=cget cls x∧v∈vs then some (cget cls (X4 s x v).toNat) else gget m (c,v)
 | [],m=>by simp
 | u::vs,m=>by
  rw[Ls,jt s cls x c v vs];unfold QfA;rw[jK];by_cases hc:c=cget cls x
  ·by_cases E:v∈vs
   ·rw[if_pos ⟨hc,E⟩,if_pos ⟨hc,Le _ E⟩]
   rw[if_neg (λe=>E e.2)];by_cases hu:u=v
   ·subst hu;rw[if_pos (by rw[hc]),if_pos ⟨hc,Lh⟩]
   rw[if_neg (λe=>hu (by simpa using (Prod.mk.inj e).2)),if_neg (λe=>by
    rcases Li.1 e.2 with h | h
    ·exact hu h.symm
    exact E h)]
  rw[if_neg (λe=>hc e.1),if_neg (λe=>hc ((Prod.mk.inj e).1.symm)),if_neg (λe=>hc e.1)]
section
variable {s:QE} {l:List Z6} {n:Nat} {nm:LI}
structure NmK (s:QE) (l:List Z6) (n m:Nat) (nm:LI):Prop where
 len:nm.length=n
 hi:∀x,x<n→cget nm x<(m:Int)
 nx:Nx s l n
 to:∀x,x<n→0≤cget nm x→∀e∈(lget l x).en,(X4 s x e).toNat<n∧0≤cget nm (X4 s x e).toNat
structure RdI (s:QE) (l:List Z6) (nm:LI) (k:Nat) (z:LI×List ((Int×Int)×Int)):Prop where
 inc:ZT z.1
 mem:∀b,b∈z.1↔∃c:Nat,b=(c:Int)∧KG l nm k c=true
 get:∀(c:Nat) (e:Int),gget z.2 ((c:Int),e)=if 0≤Vy s l nm k c e then some (Vy s l nm k c e) else none
theorem Qbz {m:Nat}(h:NmK s l n m nm):∀k,k≤n→RdI s l nm k ((List.range' 0 k).foldl (QbB s l nm) ([],[]))
 | 0,_=>⟨by simp,λb=>by simp[KG],λc e=>by simp[Vy,gget]⟩
 | k+1,hk=>by
  have ih:=Qbz h k (by omega);rw[LS,LW,LJ];simp only[List.foldl_cons,List.foldl_nil];generalize (List.range' 0 k).foldl (QbB s l nm) ([],[])=z at ih;have G:k<n:=by omega
  unfold QbB;by_cases H:cget nm k<0
  ·rw[if_pos H];refine ⟨ih.inc,λb=>?_,λc e=>?_⟩
   ·rw[ih.mem b];have:∀c:Nat,KG l nm (k+1) c=KG l nm k c:=λc=>by
     rw[jF];unfold zK;rw[decide_eq_false (by omega)];simp
    constructor
    ·rintro ⟨c,h1,h2⟩;exact ⟨c,h1,by rw[this];exact h2⟩
    rintro ⟨c,h1,h2⟩;exact ⟨c,h1,by rw[this] at h2;exact h2⟩
   have:Vy s l nm (k+1) c e=Vy s l nm k c e:=by rw[J2];unfold zJ;rw[if_neg (by omega)]
   rw[this];exact ih.get c e
  rw[if_neg H];refine ⟨?_,λb=>?_,λc e=>?_⟩
  ·simp only[];split
   ·exact zh ih.inc _
   exact ih.inc
  ·simp only[];have E:∀c:Nat,KG l nm (k+1) c=true↔KG l nm k c=true∨(cget nm k=(c:Int)∧((lget l k).mk' && (lget l k).ps)=true):=λc=>by
    rw[jF,Bool.or_eq_true];unfold zK;simp only[Bool.and_eq_true,decide_eq_true_eq];constructor
    ·rintro (a | ⟨⟨a,b⟩,c⟩)
     ·exact .inl a
     exact .inr ⟨a,b,c⟩
    rintro (a | ⟨a,b,c⟩)
    ·exact .inl a
    exact .inr ⟨⟨a,b⟩,c⟩
   by_cases hm:((lget l k).mk' && (lget l k).ps)=true
   ·rw[if_pos hm,zf ih.inc,ih.mem b];constructor
    ·rintro (⟨c,a,a2⟩ | a)
     ·exact ⟨c,a,(E c).2 (.inl a2)⟩
     exact ⟨(cget nm k).toNat,by omega,(E _).2 (.inr ⟨by omega,hm⟩)⟩
    rintro ⟨c,a,a2⟩;rcases (E c).1 a2 with a3 | ⟨a3,_⟩
    ·exact .inl ⟨c,a,a3⟩
    exact .inr (by omega)
   rw[if_neg hm,ih.mem b];constructor
   ·rintro ⟨c,a,a2⟩;exact ⟨c,a,(E c).2 (.inl a2)⟩
   rintro ⟨c,a,a2⟩;rcases (E c).1 a2 with a3 | ⟨_,a3⟩
   ·exact ⟨c,a,a3⟩
   exact absurd a3 hm
  simp only[];rw[jt,J2];unfold zJ;by_cases hc:cget nm k=(c:Int)∧e∈(lget l k).en
  ·obtain ⟨n1,_⟩:=h.nx k G e hc.2;obtain ⟨_,J⟩:=h.to k G (by omega) e hc.2;rw[if_pos hc,if_pos ⟨hc.1.symm,hc.2⟩,n1,if_pos J]
  rw[if_neg hc,if_neg (λa=>hc ⟨a.1.symm,a.2⟩)];exact ih.get c e
theorem QeE {m:Nat}(h:NmK s l n m nm) (hm:0<m):∀k,k≤n→∀(c:Nat) (e:Int),Vy s l nm k c e<(m:Int)
 | 0,_,c,e=>by simp[Vy];omega
 | k+1,hk,c,e=>by
  have ih:=QeE h hm k (by omega) c e;rw[J2];unfold zJ;split
  ·rename_i hc;have E:k<n:=by omega
   obtain ⟨n1,_⟩:=h.nx k E e hc.2;obtain ⟨G,_⟩:=h.to k E (by omega) e hc.2;rw[n1];exact h.hi _ G
  exact ih
theorem Qj2 {m:Nat}(h:NmK s l n m nm) {k c:Nat}(hk:k≤n) (hc:KG l nm k c=true):c<m:=by
 unfold KG at hc;rw[Mn] at hc;obtain ⟨x,hx,h1⟩:=hc;rw[Ly] at hx;unfold zK at h1;simp only[Bool.and_eq_true,decide_eq_true_eq] at h1;have:=h.hi x (by omega);omega
theorem Qej {m:Nat}(h:NmK s l n m nm) (E:UQ nm+1=(m:Int)):QjD s l nm=KX s l nm n m:=by
 have R:=Qbz h n (Lv _);have G:QbA s l nm=(List.range' 0 n).foldl (QbB s l nm) ([],[]):=by unfold QbA;rw[h.len]
 rw[←G] at R;unfold QjD KX;have e1:(QbA s l nm).1=((List.range' 0 m).filter (KG l nm n)).map λc:Nat=>(c:Int):=by
  refine ZT.ext R.inc ?_ λb=>?_
  ·unfold ZT;rw[Mm];refine List.Pairwise.sublist Mz ?_;exact (MM (s:=0) (n:=m)).imp (λh=>by omega)
  rw[R.mem b,Lz];constructor
  ·rintro ⟨c,rfl,h2⟩;exact ⟨c,LH.2 ⟨by rw[Ly];have:=Qj2 h (Lv _) h2;omega,h2⟩,O⟩
  rintro ⟨c,h2,rfl⟩;exact ⟨c,O,(LH.1 h2).2⟩
 have e2:Qg0 (QbA s l nm).2 s.al (UQ nm+1).toNat=grid (lwG s l nm n) s.al m:=by
  rw[E,LY];unfold Qg0 grid;refine Xi λc _=>yf λe _=>?_;unfold Qap lwG;rw[R.get c e];split <;> rfl
 rw[E,e1];rw[E] at e2;rw[e2]
theorem Qdn {m:Nat}(hs:QK s) (h:NmK s l n m nm) (hm:m≤4096):QK (KX s l nm n m):=by
 refine ⟨hs.al,hs.ali,by simp[KX],by simp only[KX];omega,λb hb=>?_,?_,λd hd=>?_,?_⟩
 ·simp only[KX,List.mem_map,List.mem_filter,List.mem_range'_1] at hb ⊢;obtain ⟨c,⟨hc,_⟩,rfl⟩:=hb;omega
 ·simp only[KX];unfold ZT;rw[Mm];refine List.Pairwise.sublist Mz ?_;exact (MM (s:=0) (n:=m)).imp (λh=>by omega)
 ·simp only[KX] at hd ⊢;obtain ⟨c,e,hc,he,E⟩:=zY hd;unfold lwG at E;split at E
  ·rename_i G;cases E
   have:=QeE h (by omega) n (Lv _) c e;exact ⟨by omega,by omega,he,G,this⟩
  cases E
 exact QaF (Qhy s l nm n) hs.ali _
end
theorem Qfa {l:LI}{x:Nat}(h:l.length≤x):cget l x=0:=by unfold cget;rw[LR,MS h];rfl
def Yb (p s:QE):LI:=lwA s (ctls p s (Zu p s)) (KB s.st.toNat (Zu p s))
def Xo (p s:QE):QE:=KX s (ctls p s (Zu p s)) (ZK (Yb p s)).1 s.st.toNat (ZK (Yb p s)).2
structure Qn8 (p s:QE):Prop where
 cls:Ka p s (Zu p s)=(ZK (Yb p s)).1
 nk:NmK s (ctls p s (Zu p s)) s.st.toNat (ZK (Yb p s)).2 (ZK (Yb p s)).1
 ok:QK (Xo p s)
 e0:rdE p s=0
 eq:qd p s=Zt (Xo p s)
 tr:UC s (ctls p s (Zu p s)) s.st.toNat (YR s (ctls p s (Zu p s)) (KB s.st.toNat (Zu p s))) (Yb p s)
theorem Qei {p s:QE}(S:Xf p s=0):Qn8 p s:=by
 obtain ⟨hp,hs,_,U,hl⟩:=Yw S;obtain ⟨hf,ho,Y⟩:=Yq S;have hr:=hs.st1;have H:=jS hp hs U;have J:=QaT hp hs U;have T0:=QeH hp hs hf;have T:=Qiw H J T0;have hg:Ng (KB s.st.toNat (Zu p s)):=λx hx=>by
  rcases Nz x s.st.toNat with hh | hge
  ·rw[Xl hh] at hx ⊢;split at hx
   ·omega
   rename_i e;rw[if_neg e]
  have:cget (KB s.st.toNat (Zu p s)) x=0:=Qfa (by simp[KB];omega);omega
 have Z:=Qe4 H J T0 hg;have NR:=Qex T.lc T.ld T.sm T.ls (λx _ h=>Z x h);have V:Ka p s (Zu p s)=nums (YR s (ctls p s (Zu p s)) (KB s.st.toNat (Zu p s))):=by unfold Ka;rw[QkI U]
 have ha:∀x,x<s.st.toNat→0≤cget (nums (YR s (ctls p s (Zu p s)) (KB s.st.toNat (Zu p s)))) x→∀e∈(lget (ctls p s (Zu p s)) x).en,(X4 s x e).toNat<s.st.toNat∧0≤cget (nums (YR s (ctls p s (Zu p s)) (KB s.st.toNat (Zu p s)))) (X4 s x e).toNat:=λx hx ht e he=>by
  have h1:=NR.lo x hx;obtain ⟨a,b⟩:=T.oc x hx (by omega) e he;have h2:=NR.lo _ a;exact ⟨a,by omega⟩
 have nk:NmK s (ctls p s (Zu p s)) s.st.toNat (ZK (Yb p s)).2 (ZK (Yb p s)).1:=by
  have hi:=NR.hi;have len:=NR.len;rw[NR.eq] at ha hi len;exact ⟨len,hi,J,ha⟩
 have hu:(ZK (Yb p s)).2≤s.st.toNat:=by
  have:=KT T.lc T.ld T.sm T.ls (λx _ h=>Z x h) s.st.toNat (Lv _);have key:∀(d:LI) (k:Nat),((List.range' 0 k).foldl (qE d) ([],0)).2≤k:=by
   intro d k;induction k with
   | zero=>exact Lv _
   | succ k ih =>
    rw[LS,LW,LJ];simp only[List.foldl_cons,List.foldl_nil];generalize (List.range' 0 k).foldl (qE d) ([],0)=z at ih;unfold qE;split
    ·exact Nat.le_succ_of_le ih
    split
    ·exact Nat.succ_le_succ ih
    exact Nat.le_succ_of_le ih
  unfold ZK;have hj:(Yb p s).length=s.st.toNat:=T.ld;rw[hj];exact key _ _
 have ok:QK (Xo p s):=Qdn hs nk (by omega);have hw:=hs.st0;refine ⟨V.trans NR.eq,nk,ok,?_,?_,T⟩
 ·unfold rdE;rw[if_neg (by simpa using S)];split
  ·rfl
  rename_i hq;have hm:¬s.st=0:=λe=>hq (Ln (Y.2 (.inr e)));have e:red p s=Xo p s:=by
   unfold red;rw[V,NR.eq];have G:=NR.mx (by omega);rw[NR.eq] at G;exact Qej nk G
  rw[e];exact (Zp _).2 ok
 unfold qd;split
 ·rename_i hq;have hz:(ZK (Yb p s)).2=0:=by
   have hd:∀x,x<s.st.toNat→cget (Yb p s) x<0:=λx hx=>by
    have h1:cget (Yb p s) x<0↔_:=T.sm.sg x hx;have hn:∀x,x<s.st.toNat→(cget (YR s (ctls p s (Zu p s)) (KB s.st.toNat (Zu p s))) x<0↔cget (KB s.st.toNat (Zu p s)) x<0):=by
     have key:UC s (ctls p s (Zu p s)) s.st.toNat (YR s (ctls p s (Zu p s)) (KB s.st.toNat (Zu p s))) (Yb p s)∧∀x,x<s.st.toNat→(cget (YR s (ctls p s (Zu p s)) (KB s.st.toNat (Zu p s))) x<0↔cget (KB s.st.toNat (Zu p s)) x<0):=by
      unfold Yb YR lwA;rw[T0.lc];refine YH (P:=λx=>x<s.st.toNat) (I:=λc d=>UC s (ctls p s (Zu p s)) s.st.toNat c d∧∀x,x<s.st.toNat→(cget c x<0↔cget (KB s.st.toNat (Zu p s)) x<0)) (λc d x hx E=>?_) _ _ _ (λx hx=>by rw[Ly] at hx;omega) ⟨T0,λ_ _=>Iff.rfl⟩;unfold qA QfT
      refine YH (f:=λc y=>KO s (ctls p s (Zu p s)) c x y) (g:=λd y=>qi s (ctls p s (Zu p s)) d x y) (P:=λy=>y<s.st.toNat) (I:=λc d=>UC s (ctls p s (Zu p s)) s.st.toNat c d∧∀x,x<s.st.toNat→(cget c x<0↔cget (KB s.st.toNat (Zu p s)) x<0)) (λc d y hy E=>⟨KN H J E.1 hx hy,λq hq=>?_⟩) (List.range' (x+1) (s.st.toNat - (x+1))) c d (λy hy=>by rw[Ly] at hy;omega) E;rw[←E.2 q hq]
      unfold KO;split
      ·exact Iff.rfl
      rename_i h1;have hb:0≤cget c x:=by omega
      have hc:0≤cget c y:=by omega
      have K1:=XS (s:=s) (λx hx=>(H x hx).1) (c.length*c.length+1) (Zq c x y) (by rw[ZC];exact E.1.lc) (E.1.oc.of λq hq=>Z0 E.1.lc hb hc hq) (by have:=Vf (Zq c x y);rw[ZC] at this;omega);simp only[];split
      ·rw[K1.sg q hq,Z0 E.1.lc hb hc hq]
      exact Iff.rfl
     exact key.2
    have h2:=hn x hx;have h3:yZ (Zu p s) x=false:=by rw[hq];rfl
    rw[Xl hx,h3,if_neg (by simp)] at h2;rw[h1,h2];decide
   have key:∀k,k≤s.st.toNat→((List.range' 0 k).foldl (qE (Yb p s)) ([],0)).2=0:=by
    intro k;induction k with
    | zero=>intro _;rfl
    | succ k ih =>
     intro hk;rw[LS,LW,LJ];simp only[List.foldl_cons,List.foldl_nil];unfold qE;rw[if_pos (hd k (by omega))];exact ih (by omega)
   unfold ZK;rw[show (Yb p s).length=s.st.toNat from T.ld];exact key _ (Lv _)
  unfold Zt Xo KX;rw[hz];rfl
 rename_i hq;have hm:¬s.st=0:=λe=>hq (Ln (Y.2 (.inr e)));have e:red p s=Xo p s:=by
  unfold red;rw[V,NR.eq];have G:=NR.mx (by omega);rw[NR.eq] at G;exact Qej nk G
 rw[e]
def cnF (ord:LI) (j:Nat) (e:Ed):Ed:=((j:Int),e.2.1,(ord.idxOf e.2.2:Int))
def cnR (a:QE) (ord:LI) (j:Nat):List Ed:=(Zv a.ed (Zm ord j)).map (cnF ord j)
theorem z7 {l r:LI}{j:Nat}(h:j<l.length):Zm (l++r) j=Zm l j:=by unfold Zm;rw[LY];exact Ut h
structure NuI (st:Int) (ord num:LI):Prop where
 nd:ord.Nodup
 bd:∀s∈ord,0≤s∧s<st
 nl:num.length=st.toNat
 nu:∀k,0≤k→k<st→Zm num k=if k∈ord then (ord.idxOf k:Int) else -1
theorem zl {st:Int}{i:Nat}{c:Cs}(h:NuI st c.ord c.num) {e:Ed}(G:0≤e.2.2) (h1:e.2.2<st):NuI st (Zb i c e).ord (Zb i c e).num∧(∃r,(Zb i c e).ord=c.ord++r)∧(Zb i c e).mk'=c.mk'∧(Zb i c e).ed=c.ed++[cnF (Zb i c e).ord i e]∧e.2.2∈(Zb i c e).ord:=by
 have E:=h.nu e.2.2 G h1;have J:e.2.2.toNat<c.num.length:=by rw[h.nl];omega
 unfold Zb;by_cases hm:e.2.2∈c.ord
 ·rw[if_pos hm] at E;rw[if_neg (by rw[E];omega)];refine ⟨h,⟨[],by simp⟩,rfl,?_,hm⟩;simp only[cnF];rw[E]
 rw[if_neg hm] at E;rw[if_pos (by rw[E];decide)];have H:(c.ord++[e.2.2]).idxOf e.2.2=c.ord.length:=by rw[L3,if_neg hm];simp
 refine ⟨⟨Jn h.nd hm,λs hs=>?_,by simp[h.nl],λk S k1=>?_⟩,⟨[e.2.2],rfl⟩,rfl,?_,by simp⟩
 ·rcases Lp.1 hs with hs | hs
  ·exact h.bd s hs
  simp only[List.mem_singleton] at hs;subst hs;exact ⟨G,h1⟩
 ·simp only[];by_cases ek:k=e.2.2
  ·subst ek;rw[if_pos (by simp),H];unfold Zm;simp[List.getD,List.getElem?_set_self J]
  have U:e.2.2.toNat≠k.toNat:=by omega
  have e1:Zm (c.num.set e.2.2.toNat c.ord.length) k=Zm c.num k:=by unfold Zm;simp[List.getD,List.getElem?_set_ne U]
  rw[e1,h.nu k S k1];by_cases hk:k∈c.ord
  ·rw[if_pos hk,if_pos (LE _ hk),L3,if_pos hk]
  rw[if_neg hk,if_neg (λV=>by
   rcases Lp.1 V with h2 | h2
   ·exact hk h2
   simp only[List.mem_singleton] at h2;exact ek h2)]
 simp only[cnF];rw[H]
theorem Kk {st:Int}{i:Nat}:∀(es:List Ed) (c:Cs),NuI st c.ord c.num→(∀e∈es,0≤e.2.2∧e.2.2<st)→NuI st (es.foldl (Zb i) c).ord (es.foldl (Zb i) c).num∧(∃r,(es.foldl (Zb i) c).ord=c.ord++r)∧(es.foldl (Zb i) c).mk'=c.mk' ∧
  (es.foldl (Zb i) c).ed=c.ed++es.map (cnF (es.foldl (Zb i) c).ord i)∧∀e∈es,e.2.2∈(es.foldl (Zb i) c).ord
 | [],c,h,_=>⟨h,⟨[],by simp⟩,rfl,by simp,λe he=>by cases he⟩
 | e::es,c,h,hb=>by
  obtain ⟨E,b1⟩:=hb e Lh;obtain ⟨h1,⟨G,h2⟩,h3,h4,h5⟩:=zl (i:=i) h E b1;obtain ⟨k1,⟨r2,k2⟩,k3,H,J⟩:=Kk (i:=i) es (Zb i c e) h1 (λd hd=>hb d (Le _ hd));rw[Ls];refine ⟨k1,⟨G++r2,by rw[k2,h2,LB]⟩,k3.trans h3,?_,λd hd=>?_⟩
  ·rw[H,h4,LB,L8];have:cnF (Zb i c e).ord i e=cnF (es.foldl (Zb i) (Zb i c e)).ord i e:=by
    unfold cnF;rw[k2,L3,if_pos h5]
   rw[this];rfl
  rcases Li.1 hd with rfl | hd
  ·rw[k2];exact LE _ h5
  exact J d hd
structure CnG (a:QE) (i:Nat) (c:Cs):Prop where
 nu:NuI a.st c.ord c.num
 le:i≤c.ord.length
 hd:Zm c.ord 0=0∧0<c.ord.length
 mk2:c.mk'=((List.range' 0 i).filter λj:Nat=>decide (Zm c.ord j∈a.mr)).map λj:Nat=>(j:Int)
 ed:c.ed=(List.range' 0 i).flatMap (cnR a c.ord)
 cl:∀j,j<i→∀e∈Zv a.ed (Zm c.ord j),e.2.2∈c.ord
theorem QkG {a:QE}{ord r:LI}{j:Nat}(hj:j<ord.length) (hc:∀e∈Zv a.ed (Zm ord j),e.2.2∈ord):cnR a (ord++r) j=cnR a ord j:=by
 unfold cnR;rw[z7 hj];refine List.map_congr_left λe he=>?_;unfold cnF;rw[L3,if_pos (hc e he)]
theorem CnG.next {a:QE}(S:QK a) {i:Nat}{c:Cs}(h:CnG a i c) (hi:i<c.ord.length):CnG a (i+1) (Vx a i c):=by
 unfold Vx;have G:(Zx a i c).ord=c.ord:=by unfold Zx;split <;> rfl
 have U:(Zx a i c).num=c.num:=by unfold Zx;split <;> rfl
 have V:(Zx a i c).ed=c.ed:=by unfold Zx;split <;> rfl
 obtain ⟨k1,⟨r,k2⟩,k3,E,H⟩:=Kk (st:=a.st) (i:=i) (Zv a.ed (Zm c.ord i)) (Zx a i c) (by rw[G,U];exact h.nu) (λe he=>(S.ed e (Ya he).1).2.2.2);generalize (Zv a.ed (Zm c.ord i)).foldl (Zb i) (Zx a i c)=d at k1 k2 k3 E H;rw[G] at k2;rw[V] at E;have pre:∀j:Nat,j≤i→Zm d.ord j=Zm c.ord j:=λj hj=>by rw[k2];exact z7 (by omega)
 refine ⟨k1,by rw[k2];simp;omega,⟨by have:=pre 0 (by omega);rw[show ((0:Nat):Int)=0 from rfl] at this;rw[this];exact h.hd.1,by rw[k2];simp;omega⟩,?_,?_,λj hj=>?_⟩
 ·rw[k3,LS,Me,LA,LJ];have e1:((List.range' 0 i).filter λj:Nat=>decide (Zm d.ord j∈a.mr))=(List.range' 0 i).filter λj:Nat=>decide (Zm c.ord j∈a.mr):=by
   refine List.filter_congr λj hj=>?_;rw[Ly] at hj;rw[pre j (by omega)]
  rw[e1];unfold Zx;by_cases hm:Zm c.ord i∈a.mr
  ·rw[if_pos hm];simp only[];rw[Mw,if_pos (by rw[pre i (Lv _)];exact decide_eq_true hm),Nw,h.mk2];rfl
  rw[if_neg hm];rw[Mw,if_neg (by rw[pre i (Lv _),decide_eq_false hm];simp),Nw,h.mk2];simp
 ·rw[E,LS,LL,LJ,h.ed];congr 1
  ·refine Xi λj hj=>?_;rw[Ly] at hj;rw[k2];exact (QkG (by omega) (h.cl j (by omega))).symm
  simp only[List.flatMap_cons,List.flatMap_nil,List.append_nil];unfold cnR;rw[pre i (Lv _)]
 by_cases e:j=i
 ·subst e;rw[pre j (Lv _)];exact H
 intro Y J;rw[pre j (by omega)] at J;rw[k2];exact LE _ (h.cl j (by omega) Y J)
theorem U2 {a:QE}(G:QK a):∀(f i:Nat) (c:Cs),CnG a i c→∃E,CnG a E (Yu a f i c)∧((Yu a f i c).ord.length=E∨E=i+f)
 | 0,i,c,h=>⟨i,h,.inr O⟩
 | f+1,i,c,h=>by
  rw[Yu];split
  ·rename_i hi;obtain ⟨E,h1,h2⟩:=U2 G f (i+1) _ (h.next G hi);exact ⟨E,h1,by omega⟩
  exact ⟨i,h,.inl (by have:=h.le;omega)⟩
structure CnP (a:QE) (ord:LI):Prop where
 nd:ord.Nodup
 bd:∀s∈ord,0≤s∧s<a.st
 hd:Zm ord 0=0∧0<ord.length
 al:(Zt a).al=a.al
 st:(Zt a).st=(ord.length:Int)
 mk2:(Zt a).mr=((List.range' 0 ord.length).filter λj:Nat=>decide (Zm ord j∈a.mr)).map λj:Nat=>(j:Int)
 ed:(Zt a).ed=(List.range' 0 ord.length).flatMap (cnR a ord)
 cl:∀j,j<ord.length→∀e∈Zv a.ed (Zm ord j),e.2.2∈ord
theorem j5 {a:QE}(G:QK a) (Z:0<a.st):∃ord,CnP a ord:=by
 have H:0<a.st.toNat:=by omega
 have J:CnG a 0 (ZH a):=by
  refine ⟨⟨by simp[ZH],λs hs=>by simp[ZH] at hs;subst hs;omega,by simp[ZH],λk k0 k1=>?_⟩,Lm _,⟨by simp[ZH,Zm],by simp[ZH]⟩,by simp[ZH],by simp[ZH],λj hj=>by omega⟩;by_cases ek:k=0
  ·subst ek;rw[if_pos (by simp[ZH])];unfold Zm ZH;simp[List.getD,H]
  rw[if_neg (by simpa[ZH] using ek)];unfold ZH;have S:0≠k.toNat:=by omega
  have U:k.toNat<a.st.toNat:=by omega
  unfold Zm;rw[LR,MH S];simp[U]
 obtain ⟨V,h1,h2⟩:=U2 G a.st.toNat 0 (ZH a) J;have ha:(Yu a a.st.toNat 0 (ZH a)).ord.length≤a.st.toNat:=pig _ _ h1.nu.nd (λx hx=>by have:=h1.nu.bd x hx;omega);have Y:V=(Yu a a.st.toNat 0 (ZH a)).ord.length:=by have:=h1.le;omega
 subst Y;have E:Zt a=⟨a.al,((Yu a a.st.toNat 0 (ZH a)).ord.length:Int),(Yu a a.st.toNat 0 (ZH a)).mk',(Yu a a.st.toNat 0 (ZH a)).ed⟩:=by unfold Zt;rw[if_neg (by omega)]
 refine ⟨(Yu a a.st.toNat 0 (ZH a)).ord,h1.nu.nd,h1.nu.bd,h1.hd,by rw[E],by rw[E],?_,?_,h1.cl⟩
 ·rw[E];exact h1.mk2
 rw[E];exact h1.ed
theorem Qik (es:List Ed) (s v:Int):eget es s v=eget (Zv es s) s v:=by
 induction es with
 | nil=>rfl
 | cons e es ih =>
  unfold Zv at *;rw[Mw];by_cases h:e.1=s
  ·rw[if_pos (by simpa using h),eget,eget,ih]
  rw[if_neg (by simpa using h),eget,if_neg (λc=>h c.1),ih]
theorem Qil {a:QE}{ord:LI}{j:Nat}(v:Int):eget (cnR a ord j) j v=(eget a.ed (Zm ord j) v).map λu=>(ord.idxOf u:Int):=by
 rw[Qik a.ed];unfold cnR;have key:∀(l:List Ed),(∀e∈l,e.1=Zm ord j)→eget (l.map (cnF ord j)) j v=(eget l (Zm ord j) v).map λu=>(ord.idxOf u:Int):=by
  intro l;induction l with
  | nil=>intro _;rfl
  | cons e l ih =>
   intro hl;rw[L8,eget,eget];have he:=hl e Lh;by_cases E:e.2.1=v
   ·rw[if_pos ⟨rfl,E⟩,if_pos ⟨he,E⟩];rfl
   rw[if_neg (λc=>E c.2),if_neg (λc=>E c.2)];exact ih (λd hd=>hl d (Le _ hd))
 exact key _ (λe he=>(Ya he).2)
theorem Qdw {a:QE}{ord:LI}{j i:Nat}(h:j≠i) (v:Int):eget (cnR a ord j) i v=none:=by
 refine Vn λe he h2=>?_;unfold cnR at he;obtain ⟨d,_,rfl⟩:=Lz.1 he;have:(j:Int)=i:=h2.1;omega
theorem CnP.step {a:QE}{ord:LI}(h:CnP a ord) {j:Nat}(hj:j<ord.length) (v:Int):eget (Zt a).ed j v=(eget a.ed (Zm ord j) v).map λu=>(ord.idxOf u:Int):=by
 rw[h.ed];have key:∀n,j<n→eget ((List.range' 0 n).flatMap (cnR a ord)) j v=eget (cnR a ord j) j v:=by
  intro n;induction n with
  | zero=>intro h;omega
  | succ n ih =>
   intro G;rw[LS,LL,LJ,qn];simp only[List.flatMap_cons,List.flatMap_nil,List.append_nil];by_cases e:j=n
   ·subst e;have:eget ((List.range' 0 j).flatMap (cnR a ord)) j v=none:=Vn λd hd h2=>by
     obtain ⟨k,hk,E⟩:=MP.1 hd;rw[Ly] at hk;unfold cnR at E;obtain ⟨H,_,rfl⟩:=Lz.1 E;have:(k:Int)=j:=h2.1;omega
    rw[this]
   rw[ih (by omega),Qdw (Ne.symm e)];cases eget (cnR a ord j) j v <;> rfl
 rw[key _ hj];exact Qil v
section
variable {p s:QE} {pn xn v:Int}
theorem qO (E:v∈p.al) (h:eget p.ed pn v=none):Q7 v [p,s] [pn,xn]=none:=by rw[Q7,if_neg (λe=>e E),h]
theorem qN (E:v∈p.al) {G:Int}(h:eget p.ed pn v=some G) (hs:v∈s.al) (h2:eget s.ed xn v=none):Q7 v [p,s] [pn,xn]=none:=by
 rw[Q7,if_neg (λe=>e E),h];simp only[];rw[Q7,if_neg (λe=>e hs),h2];rfl
theorem qL (H:v∈p.al) {E G:Int}(h:eget p.ed pn v=some E) (hs:v∈s.al) (h2:eget s.ed xn v=some G):Q7 v [p,s] [pn,xn]=some [E,G]:=by
 rw[Q7,if_neg (λe=>e H),h];simp only[];rw[Q7,if_neg (λe=>e hs),h2];rfl
theorem qM (G:v∈p.al) {E:Int}(h:eget p.ed pn v=some E) (hs:v∉s.al):Q7 v [p,s] [pn,xn]=some [E,xn]:=by
 rw[Q7,if_neg (λe=>e G),h];simp only[];rw[Q7,if_pos hs];rfl
end
theorem QkR {p q:QE}(hq:QK q) (S:0<q.st):∃R,Bis p q (Zt q) R∧(Zt q).al=q.al∧(Zt q).st≤q.st∧0<(Zt q).st:=by
 obtain ⟨ord,h⟩:=j5 hq S;refine ⟨λ_ k c=>∃j:Nat,c=j∧j<ord.length∧Zm ord j=k,⟨⟨0,O,h.hd.2,h.hd.1⟩,?_,?_⟩,h.al,?_,?_⟩
 ·rintro pn k c ⟨j,rfl,hj,hk⟩ v E;have hs:=h.step hj v;rw[hk] at hs;cases G:eget p.ed pn v with
  | none=>exact .inl ⟨qO E G,qO E G⟩
  | some p' =>
   by_cases H:v∈q.al
   ·have J:v∈(Zt q).al:=by rw[h.al];exact H
    cases heq:eget q.ed k v with
    | none =>
     rw[heq] at hs;exact .inl ⟨qN E G H heq,qN E G J hs⟩
    | some u =>
     rw[heq] at hs;right;have hm:u∈ord:=h.cl j hj (k,v,u) (by rw[hk];unfold Zv;exact LH.2 ⟨ZR heq,by simp⟩);refine ⟨p',u,(ord.idxOf u:Int),qL E G H heq,qL E G J hs,ord.idxOf u,O,LC hm,?_⟩;unfold Zm;rw[LY];simp[List.getD,List.idxOf_lt_length_of_mem hm]
   have J:v∉(Zt q).al:=by rw[h.al];exact H
   exact .inr ⟨p',k,j,qM E G H,qM E G J,j,O,hj,hk⟩
 ·rintro pn k c ⟨j,rfl,hj,hk⟩;have e1:Yd [p,q] [pn,k]=(decide (pn∈p.mr) && (decide (k∈q.mr) && true)):=rfl;have e2:Yd [p,Zt q] [pn,(j:Int)]=(decide (pn∈p.mr) && (decide ((j:Int)∈(Zt q).mr) && true)):=rfl;have U:decide ((j:Int)∈(Zt q).mr)=decide (k∈q.mr):=by
   rw[h.mk2,decide_eq_decide];simp only[List.mem_map,List.mem_filter,List.mem_range'_1,decide_eq_true_eq];constructor
   ·rintro ⟨i,⟨_,h2⟩,h3⟩;have:i=j:=by omega
    subst this;rw[hk] at h2;exact h2
   intro h2;exact ⟨j,⟨by omega,by rw[hk];exact h2⟩,O⟩
  rw[e1,e2,U]
 ·rw[h.st];have:=pig q.st.toNat ord h.nd (λx hx=>by have:=h.bd x hx;omega);omega
 rw[h.st];have:=h.hd.2;omega
section
variable {s:QE} {l:List Z6} {n:Nat}
theorem Qcm (hi:QcO l n) (G:Nx s l n) {c d:LI}(h:UC s l n c d) (hc:qI s l n c) (hk:Yc l c=true):qI s l n (YR s l c)∧Yc l (YR s l c)=true:=by
 have key:UC s l n (YR s l c) (lwA s l d)∧qI s l n (YR s l c)∧Yc l (YR s l c)=true:=by
  unfold YR lwA;rw[h.lc,h.ld];refine YH (P:=λx=>x<n) (I:=λc d=>UC s l n c d∧qI s l n c∧Yc l c=true) (λc d x hx E=>?_) _ c d (λx hx=>by rw[Ly] at hx;omega) ⟨h,hc,hk⟩;unfold qA QfT
  refine YH (f:=λc y=>KO s l c x y) (g:=λd y=>qi s l d x y) (P:=λy=>y<n) (I:=λc d=>UC s l n c d∧qI s l n c∧Yc l c=true) (λc d y hy E=>⟨KN hi G E.1 hx hy,?_⟩) (List.range' (x+1) (n - (x+1))) c d (λy hy=>by rw[Ly] at hy;omega) E;unfold KO;split
  ·exact E.2
  rename_i h1;have H:0≤cget c x:=by omega
  have J:0≤cget c y:=by omega
  have K1:=XS (s:=s) (λx hx=>(hi x hx).1) (c.length*c.length+1) (Zq c x y) (by rw[ZC];exact E.1.lc) (E.1.oc.of λq hq=>Z0 E.1.lc H J hq) (by have:=Vf (Zq c x y);rw[ZC] at this;omega);simp only[];split
  ·rename_i h2;exact ⟨K1.cl,h2⟩
  exact E.2
 exact key.2
end
theorem zL {s:QE}{l:List Z6}{n:Nat}{pairs:List (LI)}:qI s l n (KB n pairs)∧Yc l (KB n pairs)=true:=by
 have inj:∀x y,x<n→y<n→0≤cget (KB n pairs) x→cget (KB n pairs) x=cget (KB n pairs) y→x=y:=λx y hx hy E he=>by
  rw[Xl hx] at E he;rw[Xl hy] at he;split at E
  ·rename_i h1;rw[if_pos h1] at he;split at he <;> omega
  omega
 refine ⟨?_,?_⟩
 ·rintro u t ⟨x,y,e,h1,h2,h3,h4,_,_,rfl,rfl⟩;rw[inj x y h1 h2 h3 h4]
 unfold Yc;rw[lw0_len'];rw[L6];intro x hx;rw[L6];intro y hy;rw[Ly] at hx hy;have:¬(0≤cget (KB n pairs) x∧cget (KB n pairs) x=cget (KB n pairs) y):=λh=>by
  have:=inj x y (by omega) (by omega) h.1 h.2;omega
 rw[decide_eq_false this];rfl
where
 lw0_len' {n:Nat} {pairs:List (LI)}:(KB n pairs).length=n:=by simp[KB]
theorem Uq {l:List Z6}{c:LI}{n:Nat}(hl:c.length=n) (hi:QcO l n) (h:Yc l c=true) {x y:Nat}(hx:x<n) (hy:y<n) (G:x≠y) (E:0≤cget c x) (he:cget c x=cget c y):y9 (lget l x) (lget l y)=true:=by
 have key:∀a b,a<n→b<a→0≤cget c a→cget c a=cget c b→y9 (lget l a) (lget l b)=true:=λa b ha hb E he=>by
  unfold Yc at h;rw[hl,L6] at h;have h1:=h a (by rw[Ly];omega);rw[L6] at h1;have h2:=h1 b (by rw[Ly];omega);rw[decide_eq_true ⟨E,he⟩] at h2;rw[←jX (hi a ha).1 (hi a ha).2 (hi b (by omega)).1 (hi b (by omega)).2];simpa using h2
 rcases Nz y x with h1 | h1
 ·exact key x y hx h1 E he
 have:=key y x hy (by omega) (by omega) he.symm;rw[QfU] at this;exact this
theorem QbP {d:LI}(h:cget d 0=0):∀k,cget ((List.range' 0 (k+1)).foldl (qE d) ([],0)).1 0=0∧((List.range' 0 (k+1)).foldl (qE d) ([],0)).1.length=k+1
 | 0=>by
  have e:(List.range' 0 (0+1)).foldl (qE d) ([],0)=([0],1):=by
   show qE d ([],0) 0=([0],1);unfold qE;rw[if_neg (by omega),if_pos (show cget d 0=((0:Nat):Int) from h)];rfl
  rw[e];exact ⟨O,O⟩
 | k+1=>by
  obtain ⟨h1,h2⟩:=QbP h k;rw[LS,LW,LJ];simp only[List.foldl_cons,List.foldl_nil];generalize (List.range' 0 (k+1)).foldl (qE d) ([],0)=z at h1 h2;unfold qE;split
  ·exact ⟨by simp only[];rw[YN (by omega)];exact h1,by simp[h2]⟩
  split
  ·exact ⟨by simp only[];rw[YN (by omega)];exact h1,by simp[h2]⟩
  exact ⟨by simp only[];rw[YN (by omega)];exact h1,by simp[h2]⟩
theorem QeD {s:QE}{l:List Z6}{nm:LI}{c:Nat}{e t:Int}(ht:∀x:Nat,cget nm x=(c:Int)→e∈(lget l x).en→cget nm (nxt s.ed x e).toNat=t):∀k,(Vy s l nm k c e=-1∧∀x,x<k→cget nm x=(c:Int)→e∉(lget l x).en)∨Vy s l nm k c e=t
 | 0=>.inl ⟨O,λx hx=>by omega⟩
 | k+1=>by
  rw[J2];unfold zJ;by_cases hc:cget nm k=(c:Int)∧e∈(lget l k).en
  ·rw[if_pos hc];exact .inr (ht k hc.1 hc.2)
  rw[if_neg hc];rcases QeD ht k with ⟨h1,h2⟩ | h1
  ·refine .inl ⟨h1,λx hx E G=>?_⟩;by_cases ex:x=k
   ·subst ex;exact hc ⟨E,G⟩
   exact h2 x (by omega) E G
  exact .inr h1
theorem jE {s:QE}{l:List Z6}{nm:LI}{c:Nat}{e:Int}:∀k,(∀x,x<k→cget nm x=(c:Int)→e∉(lget l x).en)→Vy s l nm k c e=-1
 | 0,_=>rfl
 | k+1,h=>by
  rw[J2];unfold zJ;rw[if_neg (λhc=>h k (by omega) hc.1 hc.2)];exact jE k (λx hx=>h x (by omega))
theorem QfS {s:QE}{l:List Z6}{nm:LI}{c:Nat}{e t:Int}(ht:∀x:Nat,cget nm x=(c:Int)→e∈(lget l x).en→cget nm (nxt s.ed x e).toNat=t) {k x:Nat}(hx:x<k) (E:cget nm x=(c:Int)) (G:e∈(lget l x).en):Vy s l nm k c e=t:=by
 rcases QeD ht k with ⟨_,h2⟩ | h1
 ·exact absurd G (h2 x hx E)
 exact h1
theorem QkQ {p s:QE}(h0:Xf p s=0) (hT:∀x∈s.al,x∈p.al) (hQ:0<(Zu p s).length):∃R,Bis p s (Xo p s) R∧0<(Xo p s).st:=by
 obtain ⟨hp,hs,_,hv,hl⟩:=Yw h0;obtain ⟨hn,gt,hU⟩:=Yq h0;have hR:=Qei h0;have hr:=jS hp hs hv;have hh:=QaT hp hs hv;have h8:=yt hp hs hv;have T0:=QeH hp hs hn;have T:=hR.tr;obtain ⟨hV,hH⟩:=Qcm hr hh T0 (zL (s:=s) (l:=ctls p s (Zu p s))).1 (zL (s:=s)).2;have h4:=hR.nk;have gu:=hs.st0;have gv:¬s.st=0:=λe=>by have:=hU.2 (.inr e);omega
 have ea:=Vm hp hs hT;generalize hI:ctls p s (Zu p s)=l at *;generalize hW:s.st.toNat=N at *;generalize hJ:YR s l (KB N (Zu p s))=E at *;have hK:Ng E:=by
  have hL:Ng (KB N (Zu p s)):=λx hx=>by
   rcases Nz x N with hX | hge
   ·rw[Xl hX] at hx ⊢;split at hx
    ·omega
    rename_i e;rw[if_neg e]
   have:cget (KB N (Zu p s)) x=0:=Qfa (by simp[KB];omega);omega
  rw[←hJ];exact Qe4 hr hh T0 hL
 have NR:=Qex T.lc T.ld T.sm T.ls (λx _ h=>hK x h);have I:=KT T.lc T.ld T.sm T.ls (λx _ h=>hK x h) N (Lv _);rw[Lq (by have:=T.lc;omega)] at I;have h9:nums E=(ZK (Yb p s)).1:=NR.eq;have hM:∀y,y<N→cget E y∈(E.foldl Jm ([-1],[])).1∧cget (nums E) y=((E.foldl Jm ([-1],[])).1.idxOf (cget E y):Int) - 1:=I.inn
 have same:∀x y,x<N→y<N→(cget (nums E) x=cget (nums E) y↔cget E x=cget E y):=λx y hx hy=>by
  obtain ⟨a1,a2⟩:=hM x hx;obtain ⟨b1,b2⟩:=hM y hy;constructor
  ·intro h;have e:(E.foldl Jm ([-1],[])).1.idxOf (cget E x)=(E.foldl Jm ([-1],[])).1.idxOf (cget E y):=by omega
   have g1:=Mq (LC a1);have g2:=Mq (LC b1);simp only[e] at g1;rw[g1] at g2;exact g2
  intro h;rw[a2,b2,h]
 have h5:∀x,x<N→yZ (Zu p s) x=true→0≤cget (nums E) x:=λx hx S=>by
  have h1:=NR.lo x hx;have h2:cget E x<0↔cget (KB N (Zu p s)) x<0:=by
   have hL:=T0;have key:UC s l N E (Yb p s):=T;have:=sign_kept hr hh T0 x hx;rw[hJ] at this;exact this
  rw[Xl hx,if_pos S] at h2;omega
 have hA:Xo p s=KX s l (nums E) N (ZK (Yb p s)).2:=by unfold Xo;rw[hI,hW,←h9]
 rw[←h9] at h4;have h6:∀pn xn:Int,[pn,xn]∈Zu p s→∃x:Nat,xn=x∧x<N∧yZ (Zu p s) x=true:=λpn xn hm=>by
  obtain ⟨a,b,e,ha,hb⟩:=Vt2 (hv _ hm);simp only[List.cons.injEq,and_true] at e;refine ⟨b,e.2,by omega,?_⟩;unfold yZ;rw[Mn];exact ⟨_,hm,by rw[e.2];simp[py]⟩
 have hY:∀t,t∈Zu p s→∃j,j<(Zu p s).length∧(Zu p s).getD j []=t:=λt ht=>by
  obtain ⟨j,hj,e⟩:=LO ht;exact ⟨j,hj,by rw[←e];simp[List.getD,hj]⟩
 have hN:∀(pn xn v:Int) (t:LI),[pn,xn]∈Zu p s→v∈p.al→Q7 v [p,s] [pn,xn]=some t→t∈Zu p s:=λpn xn v t hm hv' Z=>by
  obtain ⟨j,hj,e⟩:=hY _ hm;exact hn.cl j hj v (by rw[ea];exact hv') t (by rw[e];exact Z)
 have hZ:∀(pn:Int) (x:Nat) (v:Int),x<N→[pn,(x:Int)]∈Zu p s→v∈s.al→(eget p.ed pn v).isSome=true→(v∈(lget l x).en↔0≤nxt s.ed x v)∧(v∈(lget l x).dis↔¬0≤nxt s.ed x v):=λpn x v hx hm H G=>by
  have ga:KI p (Zu p s) x v=true:=by
   unfold KI;rw[Mn];refine ⟨_,hm,?_⟩;have e1:py [pn,(x:Int)]=(x:Int):=rfl;have e2:px [pn,(x:Int)]=pn:=rfl;rw[e1,e2,decide_eq_true rfl,NA];exact decide_eq_true ((Yr hp pn v).2 G)
  rw[h8 x hx];simp only[Qiq,List.mem_filter,ga,Bool.true_and,decide_eq_true_eq,Bool.not_eq_true',decide_eq_false_iff_not];exact ⟨⟨λh=>h.2,λh=>⟨H,h⟩⟩,⟨λh=>h.2,λh=>⟨H,h⟩⟩⟩
 refine ⟨λpn xn k=>[pn,xn]∈Zu p s∧∃x:Nat,xn=x∧x<N∧k=cget (nums E) x,⟨⟨?_,0,O,by omega,?_⟩,?_,?_⟩,?_⟩
 ·have:=hn.hd hQ;have e:(Zu p s).getD 0 []∈Zu p s:=by simp[List.getD,hQ]
  rw[this] at e;exact e
 ·have e:[(0:Int),0]∈Zu p s:=by
   have:=hn.hd hQ;have e:(Zu p s).getD 0 []∈Zu p s:=by simp[List.getD,hQ]
   rw[this] at e;exact e
  obtain ⟨x,hc,he,S⟩:=h6 0 0 e;have gc:x=0:=by omega
  subst gc;have h1:=h5 0 he S;have ge:cget (Yb p s) 0=0:=by
   have h2:=NR.lo 0 he;have h3:=T.sm.sg 0 he;have:=(T.ls 0 he (by omega)).1;omega
  obtain ⟨N',gg⟩:∃N',N=N'+1:=⟨N - 1,by omega⟩;have:=(QbP ge N').1;rw[h9];unfold ZK;rw[show (Yb p s).length=N from T.ld,gg];exact this.symm
 ·rintro pn xn k ⟨hm,x,rfl,hx,rfl⟩ v hv';have gh:0≤cget (nums E) x:=by
   obtain ⟨U,e,gi,S⟩:=h6 pn x hm;have:U=x:=by omega
   subst this;exact h5 U hx S
  obtain ⟨kk,V⟩:∃kk:Nat,cget (nums E) x=kk:=⟨(cget (nums E) x).toNat,by omega⟩;cases G:eget p.ed pn v with
  | none=>exact .inl ⟨qO hv' G,qO hv' G⟩
  | some p' =>
   by_cases H:v∈s.al
   ·have h7:v∈(Xo p s).al:=H;obtain ⟨hO,gj⟩:=hZ pn x v hx hm H (by rw[G];rfl);have hP:kk<(ZK (Yb p s)).2:=by have:=NR.hi x hx;omega
    have hge:eget (Xo p s).ed (cget (nums E) x) v=(lwG s l (nums E) N kk v).map (·.2.2):=by
     rw[hA,V];show eget (grid (lwG s l (nums E) N) s.al _) kk v=_;rw[UW (Qhy s l (nums E) N),if_pos ⟨hP,H⟩]
    cases hu:eget s.ed x v with
    | some U =>
     have hw:0≤nxt s.ed x v:=(Yr hs x v).2 (by rw[hu];rfl);have hB:nxt s.ed x v=U:=by rw[Yh,hu]
     have hk:=hO.2 hw;have gk:∀y:Nat,cget (nums E) y=(kk:Int)→v∈(lget l y).en→cget (nums E) (nxt s.ed y v).toNat=cget (nums E) (nxt s.ed x v).toNat:=λy hC Y=>by
      by_cases J:y<N
      ·have hz:cget E x=cget E y:=(same x y hx J).1 (by rw[V,hC]);have hc:0≤cget E x:=by have:=NR.lo x hx;omega
       have:=hV _ _ ⟨x,y,v,hx,J,hc,hz,hk,Y,O,O⟩;obtain ⟨n1,_⟩:=hh x hx v hk;obtain ⟨n2,_⟩:=hh y J v Y;have t1:=h4.to x hx (by omega) v hk;have t2:=h4.to y J (by omega) v Y;rw[n1,n2];exact ((same _ _ t1.1 t2.1).2 this).symm
      exfalso;have:lget l y=J9:=by unfold lget;rw[←hI];rw[LR,MS (by rw[Qcg];omega)];rfl
      rw[this] at Y;simp[J9] at Y
     have t1:=h4.to x hx (by omega) v hk;have n1:=(hh x hx v hk).1;have gl:0≤cget (nums E) (nxt s.ed x v).toNat:=by rw[n1];exact t1.2
     have hD:=QfS (k:=N) gk hx V hk;have hG:lwG s l (nums E) N kk v=some ((kk:Int),v,cget (nums E) (nxt s.ed x v).toNat):=by unfold lwG;rw[hD,if_pos gl]
     rw[hG] at hge;have Z:=qL (s:=s) (xn:=(x:Int)) hv' G H hu;refine .inr ⟨p',U,cget (nums E) (nxt s.ed x v).toNat,Z,qL hv' G h7 hge,hN pn x v _ hm hv' Z,U.toNat,?_,?_,?_⟩
     ·rw[hB] at hw;omega
     ·have:=t1.1;rw[←n1,hB] at this;exact this
     rw[hB]
    | none =>
     have hw:¬0≤nxt s.ed x v:=λh=>by have:=(Yr hs x v).1 h;rw[hu] at this;cases this
     have gm:=gj.2 hw;have gn:∀y,y<N→cget (nums E) y=(kk:Int)→v∉(lget l y).en:=λy J hC Y=>by
      by_cases exy:x=y
      ·subst exy;exact hw (hO.1 Y)
      have hz:cget E x=cget E y:=(same x y hx J).1 (by rw[V,hC]);have hc:0≤cget E x:=by have:=NR.lo x hx;omega
      have hf:=Uq T.lc hr hH hx J exy hc hz;unfold y9 at hf;simp only[Bool.and_eq_true,List.all_eq_true,Bool.not_eq_true',decide_eq_false_iff_not] at hf;exact hf.1.2 v Y gm
     have hD:=jE (s:=s) N gn;have hG:lwG s l (nums E) N kk v=none:=by unfold lwG;rw[hD];rfl
     rw[hG] at hge;exact .inl ⟨qN hv' G H hu,qN hv' G h7 hge⟩
   have h7:v∉(Xo p s).al:=H;have Z:=qM (s:=s) (xn:=(x:Int)) hv' G H;exact .inr ⟨p',x,cget (nums E) x,Z,qM hv' G h7,hN pn x v _ hm hv' Z,x,O,hx,O⟩
 ·rintro pn xn k ⟨hm,x,rfl,hx,rfl⟩;have gh:0≤cget (nums E) x:=by
   obtain ⟨U,e,gi,S⟩:=h6 pn x hm;have:U=x:=by omega
   subst this;exact h5 U hx S
  obtain ⟨kk,V⟩:∃kk:Nat,cget (nums E) x=kk:=⟨(cget (nums E) x).toNat,by omega⟩;have e1:Yd [p,s] [pn,(x:Int)]=(decide (pn∈p.mr) && (decide ((x:Int)∈s.mr) && true)):=rfl;have e2:Yd [p,Xo p s] [pn,cget (nums E) x]=(decide (pn∈p.mr) && (decide (cget (nums E) x∈(Xo p s).mr) && true)):=rfl;rw[e1,e2];by_cases hE:pn∈p.mr
  ·rw[decide_eq_true hE,NA,NA,Bool.and_true,Bool.and_true];have gq:(Zu p s).any (λq=>decide (py q=(x:Int)))=true:=by rw[Mn];exact ⟨_,hm,by simp[py]⟩
   have hS:(lget l x).ps=true:=by
    rw[h8 x hx];show ((Zu p s).any λq=>decide (py q=(x:Int)) && decide (px q∈p.mr))=true;rw[Mn];exact ⟨_,hm,by simp[py,px,hE]⟩
   have gr:(lget l x).mk'=decide ((x:Int)∈s.mr):=by
    rw[h8 x hx];show (((Zu p s).any λq=>decide (py q=(x:Int))) && decide ((x:Int)∈s.mr))=_;rw[gq,NA]
   have hP:kk<(ZK (Yb p s)).2:=by have:=NR.hi x hx;omega
   have gs:decide (cget (nums E) x∈(Xo p s).mr)=KG l (nums E) N kk:=by
    rw[hA,V];show decide ((kk:Int)∈((List.range' 0 (ZK (Yb p s)).2).filter (KG l (nums E) N)).map λc:Nat=>(c:Int))=_;rw[Bool.eq_iff_iff];simp only[decide_eq_true_eq,List.mem_map,List.mem_filter,List.mem_range'_1];constructor
    ·rintro ⟨i,⟨_,h2⟩,h3⟩;have:i=kk:=by omega
     subst this;exact h2
    intro h2;exact ⟨kk,⟨by omega,h2⟩,O⟩
   rw[gs,←gr];cases hF:(lget l x).mk' with
   | true =>
    symm;unfold KG;rw[Mn];refine ⟨x,by rw[Ly];omega,?_⟩;unfold zK;rw[decide_eq_true V,hF,hS];rfl
   | false =>
    symm;cases hq:KG l (nums E) N kk with
    | false=>rfl
    | true =>
     exfalso;unfold KG at hq;rw[Mn] at hq;obtain ⟨y,hy,hg⟩:=hq;rw[Ly] at hy;unfold zK at hg;simp only[Bool.and_eq_true,decide_eq_true_eq] at hg;have J:y<N:=by omega
     by_cases exy:x=y
     ·subst exy;rw[hF] at hg;exact absurd hg.1.2 (by simp)
     have hz:cget E x=cget E y:=(same x y hx J).1 (by rw[V,hg.1.1]);have hc:0≤cget E x:=by have:=NR.lo x hx;omega
     have hf:=Uq T.lc hr hH hx J exy hc hz;unfold y9 at hf;rw[hS,hg.2,hF,hg.1.2] at hf;simp at hf
  rw[decide_eq_false hE,Bool.false_and,Bool.false_and]
 have e:[(0:Int),0]∈Zu p s:=by
  have:=hn.hd hQ;have e:(Zu p s).getD 0 []∈Zu p s:=by simp[List.getD,hQ]
  rw[this] at e;exact e
 obtain ⟨x,hc,he,S⟩:=h6 0 0 e;have h1:=h5 x he S;have h2:=NR.hi x he;rw[hA];show (0:Int)<((ZK (Yb p s)).2:Int);omega
where
 sign_kept {s:QE} {l:List Z6} {n:Nat} {c d:LI} (hi:QcO l n) (hn:Nx s l n) (h:UC s l n c d):∀x,x<n→(cget (YR s l c) x<0↔cget c x<0):=by
  have key:UC s l n (YR s l c) (lwA s l d)∧∀x,x<n→(cget (YR s l c) x<0↔cget c x<0):=by
   generalize hc0:c=c0
   have hb:∀x,x<n→(cget c x<0↔cget c0 x<0):=λx _=>by rw[hc0]
   rw[←hc0]
   have hb':UC s l n c d∧∀x,x<n→(cget c x<0↔cget c0 x<0):=⟨h,hb⟩
   have goal:UC s l n (YR s l c) (lwA s l d)∧∀x,x<n→(cget (YR s l c) x<0↔cget c0 x<0):=by
    unfold YR lwA
    rw[h.lc,h.ld]
    refine YH (P:=λx=>x<n) (I:=λc d=>UC s l n c d∧∀x,x<n→(cget c x<0↔cget c0 x<0)) (λc d x hx hI=>?_) _ c d (λx hx=>by rw[List.mem_range'_1] at hx;omega) hb'
    unfold qA QfT
    refine YH (f:=λc y=>KO s l c x y) (g:=λd y=>qi s l d x y) (P:=λy=>y<n) (I:=λc d=>UC s l n c d∧∀x,x<n→(cget c x<0↔cget c0 x<0)) (λc d y hy hI=>⟨KN hi hn hI.1 hx hy,λq hq=>?_⟩) (List.range' (x+1) (n - (x+1))) c d (λy hy=>by rw[List.mem_range'_1] at hy;omega) hI
    rw[←hI.2 q hq]
    unfold KO
    split
    ·exact Iff.rfl
    ·rename_i h1
     have hc0:0≤cget c x:=by omega
     have hc1:0≤cget c y:=by omega
     have K1:=XS (s:=s) (λx hx=>(hi x hx).1) (c.length*c.length+1) (Zq c x y) (by rw[ZC];exact hI.1.lc) (hI.1.oc.of λq hq=>Z0 hI.1.lc hc0 hc1 hq) (by have:=Vf (Zq c x y);rw[ZC] at this;omega)
     simp only[]
     split
     ·rw[K1.sg q hq,Z0 hI.1.lc hc0 hc1 hq]
     ·exact Iff.rfl
   refine ⟨goal.1,λx hx=>?_⟩
   rw[goal.2 x hx,hc0]
  exact key.2
theorem j6 {a:QE}(E:QK a):QK (Zt a):=by
 have U:=E.st0;have h1:=E.st1;by_cases J:a.st=0
 ·unfold Zt;rw[if_pos J];exact ⟨E.al,E.ali,by simp,by simp,by simp,by simp,by simp,by simp⟩
 obtain ⟨ord,h⟩:=j5 E (by omega);have hl:ord.length≤a.st.toNat:=pig _ _ h.nd (λx hx=>by have:=h.bd x hx;omega);refine ⟨by rw[h.al];exact E.al,by rw[h.al];exact E.ali,by rw[h.st];omega,by rw[h.st];omega,λs hs=>?_,?_,λe he=>?_,?_⟩
 ·rw[h.mk2] at hs;simp only[List.mem_map,List.mem_filter,List.mem_range'_1] at hs;obtain ⟨i,⟨hi,_⟩,rfl⟩:=hs;rw[h.st];omega
 ·rw[h.mk2];unfold ZT;rw[Mm];refine List.Pairwise.sublist Mz ?_;exact (MM (s:=0) (n:=ord.length)).imp (λh=>by omega)
 ·rw[h.ed] at he;obtain ⟨j,hj,hd⟩:=MP.1 he;rw[Ly] at hj;unfold cnR at hd;obtain ⟨d,G,rfl⟩:=Lz.1 hd;have hm:=h.cl j (by omega) d G;have:=LC hm;have S:=(E.ed d (Ya G).1).2.2.1;rw[h.st,h.al];unfold cnF;exact ⟨by simp only[];omega,by simp only[];omega,S,by simp only[];omega,by simp only[];omega⟩
 rw[h.ed];have key:∀n,((List.range' 0 n).flatMap (cnR a ord)).Pairwise λx y:Ed=>x.1<y.1∨(x.1=y.1∧x.2.1<y.2.1):=by
  intro n;induction n with
  | zero=>simp
  | succ n ih =>
   rw[LS,LL,LJ,Mu];refine ⟨ih,?_,λx hx y hy=>?_⟩
   ·simp only[List.flatMap_cons,List.flatMap_nil,List.append_nil];unfold cnR;rw[Mm];have h2:(Zv a.ed (Zm ord n)).Pairwise λx y:Ed=>x.1<y.1∨(x.1=y.1∧x.2.1<y.2.1):=List.Pairwise.sublist Mz E.edi;refine List.Pairwise.imp_of_mem (λ{x y} hx hy V=>?_) h2;have e1:=(Ya hx).2;have e2:=(Ya hy).2;right;exact ⟨O,by show x.2.1<y.2.1;omega⟩
   obtain ⟨j,hj,H⟩:=MP.1 hx;rw[Ly] at hj;simp only[List.flatMap_cons,List.flatMap_nil,List.append_nil] at hy;unfold cnR at H hy;obtain ⟨d,_,rfl⟩:=Lz.1 H;obtain ⟨Y,_,rfl⟩:=Lz.1 hy;left;show (j:Int)<(n:Int);omega
 exact key _
theorem Qf3 {a b:QE}(ha:QK a) (hb:QK b) (za:a.st=0) (zb:b.st=0) (al:LI):eqv a b al=none:=by
 refine Qb8 (Rl:=λx y=>x=-1∧y=-1) ?_ ?_ ?_
 ·rw[if_neg (by omega),if_neg (by omega)];exact ⟨O,O⟩
 ·rintro x y v _ ⟨rfl,rfl⟩;have key:∀{a:QE},QK a→nxt a.ed (-1) v=-1:=λ{a} E=>by
   rw[Yh];cases G:eget a.ed (-1) v with
   | none=>rfl
   | some u=>have:=(E.ed _ (ZR G)).1;simp only[] at this;omega
  exact ⟨key ha,key hb⟩
 rintro x y ⟨rfl,rfl⟩;unfold dfr;have ma:decide ((-1:Int)∈a.mr)=false:=decide_eq_false λhm=>by have:=(ha.mr _ hm).1;omega
 have mb:decide ((-1:Int)∈b.mr)=false:=decide_eq_false λhm=>by have:=(hb.mr _ hm).1;omega
 rw[ma,mb];rfl
theorem QfN {a:QE}(E:QK a):QK ⟨a.al,0,[],[]⟩ :=
 ⟨E.al,E.ali,Ni _,(by decide:(0:Int)≤4096),(λs hs=>by cases hs),List.Pairwise.nil,(λe he=>by cases he),List.Pairwise.nil⟩
theorem jm {a:QE}(E:QK a) (lf:Lf):QK (yW a lf):=by
 unfold yW;split
 ·exact QfN E
 exact j6 (Jf E lf)
theorem qV {α:Type}(q:α→Bool) (x:Int):∀(l:List α) (i:Nat),x∈ixs q i l↔∃k,∃h:k<l.length,x=((i+k:Nat):Int)∧q (l[k]'h)=true
 | [],i=>by simp[ixs]
 | y::l,i=>by
  rw[ixs];have ih:=qV q x l (i+1);constructor
  ·intro h;by_cases hy:q y=true
   ·rw[if_pos hy] at h;rcases Li.1 h with h | h
    ·exact ⟨0,by simp,by rw[h];simp,hy⟩
    obtain ⟨k,hk,h1,h2⟩:=ih.1 h;exact ⟨k+1,by simp;omega,by rw[h1];congr 1;omega,h2⟩
   rw[if_neg hy] at h;obtain ⟨k,hk,h1,h2⟩:=ih.1 h;exact ⟨k+1,by simp;omega,by rw[h1];congr 1;omega,h2⟩
  rintro ⟨k,hk,h1,h2⟩;cases k with
  | zero =>
   have h3:q y=true:=h2;rw[if_pos h3];exact Li.2 (.inl (by rw[h1];simp))
  | succ k =>
   have h3:=ih.2 ⟨k,by simpa using hk,by rw[h1];congr 1;omega,h2⟩;split
   ·exact Le _ h3
   exact h3
theorem QaE {α:Type}(q:α→Bool):∀(l:List α) (i:Nat),ZT (ixs q i l)
 | [],_=>List.Pairwise.nil
 | y::l,i=>by
  rw[ixs];split
  ·refine L7.2 ⟨λx hx=>?_,QaE q l (i+1)⟩;obtain ⟨k,_,h1,_⟩:=(qV q x l (i+1)).1 hx;omega
  exact QaE q l (i+1)
end Go.Proofs.YtdffckgdcegpaaaGreatDoor
namespace Go.Lg
open Go.ChangeShapes Go.WideShapes Go.RowKit
section
variable {H:Type} {enc:TypeId×Value→H} {P:Program}
theorem j0 (hl:laidOutB P=true) {W W':World}(G:Step [] W W') {sp:Nat→Bool}:∀{ts:List TypeId}{vs:LV}{ds:List (DataW H)}{ps:List MemPlace},
  (ts.all λt=>P.readableRec t && decide (t<P.types.size))=true→DataW.TrodAll enc P W 0 (λ_=>true) true ts vs ds ps→(∀x∈ps,x.block<W.heap.size)→(∀x∈ps,sp x.block=true)→DataW.TrodAll enc P W' 0 sp true ts vs ds ps
 | [],vs,ds,ps,_,h,_,_=>by
  obtain ⟨rfl,rfl,rfl⟩:=trodAll_nil h;exact trodAll_mk0
 | t::ts,vs,ds,ps,E,h,J,hsp=>by
  obtain ⟨v,S,d,ds1,a,b,rfl,rfl,rfl,h1,h2⟩:=trodAll_cons h;simp only[List.all_cons,Bool.and_eq_true,decide_eq_true_eq] at E;have hb:Below W.heap.size W W':=G.below;refine trodAll_cons_mk (WideElems.Trod_stays hl E.1.1 E.1.2 h1 (λx hx=>hb.same (J x (LE _ hx))) (λx hx=>hsp x (LE _ hx))) ?_
  exact j0 hl G (by simpa using E.2) h2 (λx hx=>J x (Nc _ hx)) (λx hx=>hsp x (Nc _ hx))
theorem QhE {f:Func}{s:ChangeSpec}{apart fresh handsOn again:Bool}{W W':World}{args:Array Value}{ds gs:List (DataW H)}{before:List MemPlace}{tb:TypeId}
  (hl:laidOutB P=true) (hh:(f.params.toList.all λt=>P.readableRec t && decide (t<P.types.size))=true) (S:f.resultTypes=#[tb]) (U:P.underlying tb=some .bool) (V:s.vars=[])
  (E:s.fn H (ds++gs)={ results:=[.lit (.bool true)],args:=ds })
  (G:DataW.Whole enc P f.params.toList s.vars apart W args.toList ds gs before) (Y:Step [] W W'):s.post enc P f apart fresh handsOn again W args (.bool true) W':=by
 have J:=G.lt;have hj:=G;obtain ⟨p,q,hA,Z,rfl,hz,hn⟩:=G;rw[V] at Z;obtain ⟨rfl,rfl⟩:=trodVars_none Z;rw[LU] at *;have hc:∀sp:Nat→Bool,(∀x∈p,sp x.block=true)→DataW.TrodAll enc P W' 0 sp true f.params.toList args.toList ds p:=λsp hsp=>j0 hl Y hh hA J hsp
 have he:∀(b:Nat) (sp:Nat→Bool) (hd:Bool),DataW.TrodAll enc P W' b sp hd f.resultTypes.toList ((Value.bool true).resultList f.resultTypes.size) [.lit (.bool true)] []:=λb sp hd=>by
  rw[S];exact trodAll_mk1 (shut_bool U true)
 have hb:Below W.heap.size W W':=Y.below;have hf:∀sp:Nat→Bool,DataW.TrodVars enc P W' sp s.vars ([]:List (DataW H)) []:=λsp=>by rw[V];rfl
 have hk:(s.fn H ds).results=[.lit (.bool true)]:=by rw[E]
 have hm:(s.fn H ds).args=ds:=by rw[E]
 have ho:(s.fn H ds).vars=[]:=by rw[E]
 have hq:∀(j:Nat) (t:TypeId) (r:Value),f.resultTypes[j]?=some t→((Value.bool true).resultList f.resultTypes.size)[j]?=some r→Value.okWide P W' .any 0 t r:=ok_one S O (okWide_bool_mk U true);refine ⟨ds,[],p,[],p,[],hj,?_,?_,?_,?_,λ_=>⟨hq,[.lit (.bool true)]++ds,[],([]++p)++[],⟨[]++p,[],?_,?_,O,?_,?_⟩,?_⟩⟩
 ·rw[LU,hk];exact he _ _ _
 ·rw[LU,hm];exact hc _ (λx hx=>by simpa using J x hx)
 ·rw[LU,ho];exact hf _
 ·exact World.keptBut_mono (λ_ f=>f.elim) (hb.frame (λ_=>False))
 ·exact trodAll_append (hc _ (λ_ _=>O)) (he _ _ _)
 ·exact hf _
 ·intro b off hp;have hg:MemPlace.cell b off∈p:=by simpa using hp
  rw[hb.frozen (p:=⟨b,off,none⟩) (J _ hg)];exact hz b off hg
 ·intro ha;have:=hn ha;simpa using this
 intro x hx _;simpa using hx
end
end Go.Lg
namespace Go.Proofs.YtdffckgdcegpaaaGreatDoor
open Go.ChangeShapes Go.WideShapes Go.RowKit Go.Lg
theorem QdH:∀(l:LV),(∀v∈l,∃n:Nat,v=.int .u8 (n:Int)∧n<256)→∃ns:LN,l=bys ns∧ns.length=l.length∧∀n∈ns,n<256
 | [],_=>⟨[],O,O,by simp⟩
 | v::l,h=>by
  obtain ⟨n,rfl,E⟩:=h v Lh;obtain ⟨ns,h1,h2,h3⟩:=QdH l (λv G=>h v (Le _ G));refine ⟨n::ns,by rw[h1];rfl,by simp[h2],λm hm=>?_⟩;rcases Li.1 hm with rfl | hm
  ·exact E
  exact h3 m hm
theorem Qlt {n:Int}(h:(Lit.int .u8 n).wf=true):∃m:Nat,n=m∧m<256:=by
 simp only[Lit.wf,Bool.and_eq_true,decide_eq_true_eq] at h;rw[show IntKind.u8.min=0 from rfl,show IntKind.u8.max=255 from rfl] at h;exact ⟨n.toNat,by omega,by omega⟩
open Go.Proofs.Tryz
theorem QlE {w:World}{b:Nat}{s:TypeId×Nat}(h:w.shape? b=some s):b<w.heap.size:=by
 unfold World.shape? at h;cases hb:w.heap[b]? with
 | none=>simp[hb] at h
 | some o=>exact (LG.1 hb).1
theorem Qkn {P:Program}{w:World}{base:Nat}{a:Addr}{e:TypeId}{n:Nat}(h:w.has P .any base a e n):a.block<w.heap.size:=by
 obtain ⟨_,_,row,cells,h1,_⟩:=h;exact QlE h1
theorem Qjz {P:Program}{w:World}{base:Nat}{t e:TypeId}{a:Addr}{n c:Nat}(ht:P.underlying t=some (.slice e)) (h:Cell.okWide P w .any base t (.slice (some a) n c)):a.block<w.heap.size:=by
 simp only[Cell.okWide,Cell.ok,ht] at h;exact Qkn h.2.2
theorem QhA {α:Type}{p:Nat→α→Prop}:∀(n:Nat),(∀i,i<n→∃e,p i e)→∃l:List α,l.length=n∧∀i (h:i<l.length),p i (l[i]'h)
 | 0,_=>⟨[],O,λi h=>by simp at h⟩
 | n+1,h=>by
  obtain ⟨l,h1,h2⟩:=QhA n (λi hi=>h i (by omega));obtain ⟨e,he⟩:=h n (by omega);refine ⟨l++[e],by simp[h1],λi hi=>?_⟩;by_cases E:i<l.length
  ·rw[LT E];exact h2 i E
  have:i=n:=by simp at hi;omega
  subst this;rw[Mr (by omega)];simpa[h1] using he
theorem zG {α:Type}{f:α→Option Value}:∀{L:List α}{l:LV},L.mapM f=some l→l.length=L.length∧∀(i:Nat) (a:α),L[i]?=some a→f a=l[i]?
 | [],l,h=>by
  simp at h;subst h;exact ⟨O,λi a h=>by simp at h⟩
 | x::L,l,h=>by
  simp only[List.mapM_cons,Option.bind_eq_bind,Option.pure_def,Option.bind_eq_some_iff] at h;obtain ⟨v,E,G,h1,h2⟩:=h;cases h2
  obtain ⟨h3,h4⟩:=zG h1;refine ⟨by simp[h3],λi a hi=>?_⟩;cases i with
  | zero=>simp at hi;subst hi;simpa using E
  | succ i=>simpa using h4 i a (by simpa using hi)
def kT (P:Program) (k:IntKind):Nat→TypeId→Bool
 | 0,_=>false
 | m+1,t=>match P.underlying t with
  | some (.int k')=>k' == k
  | some (.array n e)=>kT P k m e && decide (0<P.cellsOf e) && decide (P.cellsOf t=n*P.cellsOf e)
  | some (.struct fs)=>(List.range (P.cellsOf t)).all λj=>fs.toList.any λf=>kT P k m f.type && decide (f.offset≤j∧j<f.offset+P.cellsOf f.type)
  | _=>false
theorem QaS {cs:LV}{o n j:Nat}{c:Value}(h:cs[j]?=some c) (h1:o≤j) (h2:j<o+n):c∈(cs.drop o).take n:=by
 refine Ml (i:=j - o) ?_;rw[Ma,if_pos (by omega),MK,show o+(j - o)=j by omega];exact h
section
variable {H:Type} {enc:TypeId×Value→H} {P:Program} {W:World} {base b0:Nat} {sp:Nat→Bool} {held:Bool}
theorem Ue {k:IntKind}:∀(m:Nat) {t:TypeId}{cs:LV}{fuel:Nat}{x:DataW H×List MemPlace},kT P k m t=true→DataW.trod enc P W b0 sp held fuel t cs=some x→∀c∈cs,∃n,c=.int k n∧(Lit.int k n).wf=true
 | 0,_,_,_,_,h,_,_,_=>by cases h
 | m+1,t,cs,fuel,x,h,G,c,hc=>by
  unfold kT at h;obtain ⟨j,hj,S⟩:=LO hc;have J:cs[j]?=some c:=by rw[LK hj,S]
  split at h
  ·rename_i k' hu;have hk:k'=k:=by simpa using h
   subst hk;obtain ⟨n,h1,_,h2⟩:=DataW.trod_int hu G;rw[h1] at hc;exact ⟨n,Lc.1 hc,h2⟩
  ·rename_i n e hu;simp only[Bool.and_eq_true,decide_eq_true_eq] at h;obtain ⟨⟨h1,h2⟩,h3⟩:=h;obtain ⟨xs,U,_,_,hl,V,hx⟩:=DataW.trod_array hu G;have Y:=Nat.div_add_mod j (P.cellsOf e);have hg:=Nat.mod_lt j h2;have hi:j / P.cellsOf e<n:=by
    refine (Nat.div_lt_iff_lt_mul h2).2 ?_;omega
   have E:=hx (j / P.cellsOf e) hi;rw[LK (show j / P.cellsOf e<xs.length by omega)] at E;rw[Nat.mul_comm] at Y;exact Ue m h1 E c (QaS J (by omega) (by omega))
  ·rename_i fs hu;obtain ⟨xs,U,_,_,hl,V,hx⟩:=DataW.trod_struct hu G;have h1:=L6.1 h j (MU.2 (by omega));obtain ⟨f,Z,h2⟩:=Mn.1 h1;simp only[Bool.and_eq_true,decide_eq_true_eq] at h2;obtain ⟨i,hi,ha⟩:=LO Z;have hb:i<fs.size:=by simpa using hi
   have he:fs[i]?=some f:=by rw[MQ hb,←ha];simp
   have E:=hx i f he;rw[LK (show i<xs.length by omega)] at E;exact Ue m h2.1 E c (QaS J h2.2.1 h2.2.2)
  cases h
theorem Ul {k:IntKind}{m:Nat}{fs:Array Field}{cs:LV}{xs:List (DataW H×List MemPlace)}{J:Nat}(S:xs.length=fs.size)
  (hx:∀(i:Nat) (f:Field),fs[i]?=some f→DataW.trod enc P W b0 sp held J f.type ((cs.drop f.offset).take (P.cellsOf f.type))=xs[i]?) {i j:Nat} {f:Field} {c:Value} (E:fs[i]?=some f) (hk:kT P k m f.type=true) (h1:f.offset≤j) (h2:j<f.offset+P.cellsOf f.type) (hc:cs[j]?=some c) :
  ∃n,c=.int k n∧(Lit.int k n).wf=true:=by
 have G:=hx i f E;have hi:i<fs.size:=(LG.1 E).1;rw[LK (show i<xs.length by omega)] at G;exact Ue m hk G c (QaS hc h1 h2)
theorem QgA {c:Value}(h:∃n,c=.int .u8 n∧(Lit.int .u8 n).wf=true):∃n:Nat,c=.int .u8 (n:Int)∧n<256:=by
 obtain ⟨n,rfl,h1⟩:=h;obtain ⟨m,rfl,h2⟩:=Qlt h1;exact ⟨m,O,h2⟩
end
theorem Qnm {P:Program}{W:World}{base:Nat}{ts:List TypeId}{cs:Array Value}(h:∀(i:Nat) (v:Value),cs[i]?=some v→∃u,ts[i % ts.length]?=some u∧Cell.okWide P W .any base u v) (i:Nat) (t:TypeId) (v:Value) (E:cs[i]?=some v) (ht:ts[i % ts.length]?=some t):Cell.okWide P W .any base t v:=by
 obtain ⟨u,hu,k⟩:=h i v E;rw[ht] at hu;cases hu
 exact k
theorem Qmj {H:Type}{enc:TypeId×Value→H}{P:Program}{W:World}{b0 m:Nat}{sp:Nat→Bool}{held:Bool}{fs:Array Field}{cs:LV}{xs:List (DataW H×List MemPlace)}
  (h:∀(i:Nat) (f:Field),fs[i]?=some f→DataW.trod enc P W b0 sp held m f.type ((cs.drop f.offset).take (P.cellsOf f.type))=xs[i]?) (i:Nat) {f:Field} {t o:Nat} {c:Value} (E:fs[i]?=some f) (ht:f.type=t) (G:f.offset=o) (hc:P.cellsOf t=1) (J:(cs.drop o).take 1=[c]) (hi:i<xs.length) :
  DataW.trod enc P W b0 sp held m t [c]=some (xs[i]'hi):=by
 have e:=h i f E;rw[ht,G,hc,J] at e;rw[e];simp[hi]
theorem Qm6 {W:World}{l:List (String×DataW Unit)}{a b:String×DataW Unit}(hl:l=[a,b,("internal/strconv.uint64pow10",Lib.tabData .u64 Lib.pow10Tab)]) (h:laidMetH prog l W) (hp:(l.all λx=>x.2.handleName?.isNone)=true):Tb W:=by
 rw[Go.MakeChecks.laidMetH_plain _ _ _ hp,hl] at h;exact Lib.tabIs_of_head (n:=20) (g:=0) (by kernel_rfl) (t:=410) (by kernel_rfl) (by kernel_rfl) (e:=340) (by kernel_rfl) (by kernel_rfl) (by kernel_rfl) h.tail.tail
structure PwV where
 ns:LN
 ad:Option Addr
 n:Nat
 cp:Nat
 f0:Int
 f1:Int
 f2:Int
 bd:Int
def PwV.pl (l:PwV) (rs:List X4V):PlV:=⟨l.ns,.slice l.ad l.n l.cp,rs,l.f0,l.f1,l.f2,l.bd⟩
abbrev XD (l:PwV):LV:=bys l.ns++[.slice l.ad l.n l.cp,.int .i8 l.f0,.int .i8 l.f1,.int .i8 l.f2,.int .i8 l.bd]
structure PwA (w:World) (l:PwV):Prop where
 n:l.ns.length=147
 b:∀n∈l.ns,n<256
 f0:i8R l.f0
 f1:i8R l.f1
 f2:i8R l.f2
 bd:i8R l.bd
 r:l.n≤4→∃rs:List X4V,rs.length=l.n∧Zz [] w.heap (.slice l.ad l.n l.cp) l.n 4 (rs.flatMap Y1)
theorem PwA.pl {w w':World}{l:PwV}(h:PwA w l) (hs:Step [] w w') (E:l.n≤4):∃rs,PlA [] w'.heap (l.pl rs)∧rs.length=l.n:=by
 obtain ⟨rs,h1,h2⟩:=h.r E;exact ⟨rs,⟨h.n,h.b,by show Zz _ _ _ rs.length 4 _;rw[h1];exact h2.ext hs,h.f0,h.f1,h.f2,h.bd⟩,h1⟩
theorem Qnd {l:PwV}(h:l.ns.length=147):(XD l)[147]?=some (.slice l.ad l.n l.cp):=by
 show (XD l)[147+0]?=_;rw[XD,ME (by rw[Xm];omega),Xm,h,MZ];rfl
theorem QeO {c:Value}(h:∃n,c=.int .i8 n∧(Lit.int .i8 n).wf=true):∃n:Int,c=.int .i8 n∧i8R n:=by
 obtain ⟨n,rfl,h⟩:=h;simp only[Lit.wf,Bool.and_eq_true,decide_eq_true_eq] at h;rw[show IntKind.i8.min=-128 from rfl,show IntKind.i8.max=127 from rfl] at h;exact ⟨n,O,by omega⟩
def Qlk (P:Program) (fs:Array Field) (n:Nat):Bool:=(List.range n).all λj=>fs.toList.any λf=>kT P .u8 5 f.type && decide (f.offset≤j∧j<f.offset+P.cellsOf f.type)
section
variable {H:Type} {enc:TypeId×Value→H} {P:Program} {W:World} {base b0:Nat} {sp:Nat→Bool} {held:Bool}
theorem QiO {fs:Array Field}{n m:Nat}{cs:LV}{xs:List (DataW H×List MemPlace)}(h:Qlk P fs n=true) (E:xs.length=fs.size)
  (hx:∀(i:Nat) (f:Field),fs[i]?=some f→DataW.trod enc P W b0 sp held m f.type ((cs.drop f.offset).take (P.cellsOf f.type))=xs[i]?) {j:Nat} {c:Value} (hj:j<n) (hc:cs[j]?=some c):∃k:Nat,c=.int .u8 (k:Int)∧k<256:=by
 have h1:=L6.1 h j (MU.2 hj);obtain ⟨f,G,h2⟩:=Mn.1 h1;simp only[Bool.and_eq_true,decide_eq_true_eq] at h2;obtain ⟨i,hi,J⟩:=LO G;have S:i<fs.size:=by simpa using hi
 have U:fs[i]?=some f:=by rw[MQ S,←J];simp
 exact QgA (Ul E hx U h2.1 h2.2.1 h2.2.2 hc)
theorem QnC {t e:TypeId}{c:Value}{fuel:Nat}{x:DataW H×List MemPlace}(ht:P.underlying t=some (.slice e)) (he:kT P .u8 5 e=true) (hc:P.cellsOf e=4)
  (Y:Cell.okWide P W .any base t c) (Z:DataW.trod enc P W b0 sp held fuel t [c]=some x):∃a n cp,c=.slice a n cp∧(n≤12→∃u:List X4V,u.length=n∧Zz [] W.heap (.slice a n cp) n 4 (u.flatMap Y1)):=by
 rcases DataW.trod_slice ht Z with ⟨E,_⟩ | ⟨a,len,cap,elems,rest,m,_,E,_,_,hl,_,hk,ha,_,_⟩
 ·simp at E;subst E;exact ⟨none,0,0,O,λ_=>⟨[],O,Zz.nil _ _ _⟩⟩
 simp at E;subst E;refine ⟨some a,len,cap,O,λhm=>?_⟩;have each:∀i,i<len→∃d:X4V,∀r v,(Y1 d)[r]?=some v→W.cell? (a.add (i*4+r))=some v:=by
  intro i hi;have J:=ha i hi;rw[hc,LK (show i<elems.length by omega)] at J;obtain ⟨cs,E,hb⟩:=L4.1 J;have hf:=Ue 5 he hb;obtain ⟨ns,h1,h2,h3⟩:=QdH cs (λv G=>QgA (hf v G));unfold World.cells? at E;split at E
  ·have hn:cs.length=4:=by
    simpa using (zG E).1
   refine ⟨⟨ns,by omega,h3⟩,λr v G=>?_⟩;have hv':cs[r]?=some v:=by rw[h1];exact G
   have hg:r<4:=by have:=(MJ.1 hv').1;omega
   have h4:=(zG E).2 r r (by simp[hg]);rw[Lg.Addr.add_add,hv'] at h4;exact h4
  cases E
 obtain ⟨u,S,hu⟩:=QhA len each;refine ⟨u,S,?_⟩;have U:(u.flatMap Y1).length=u.length*4:=Go.Lg.YI Y1 4 zd u;refine ⟨by rw[U,S],by omega,.inr ⟨a,cap,rfl,by omega,λ_ _=>by simp,λ_ _=>Qjz ht Y,λj v G=>?_⟩⟩;have hj:j<u.length*4:=by
  rw[←U];exact (MJ.1 G).1
 have hi:j / 4<u.length:=by omega
 have hh:=Kr Y1 4 zd u (j / 4) hi;have V:j=j / 4*4+j % 4:=by omega
 have h3:(Y1 (u[j / 4]'hi))[j % 4]?=some v:=by
  rw[←hh,Ma,if_pos (Nat.mod_lt _ (by omega)),MK,←V];exact G
 rw[←Ji];have:=hu (j / 4) hi (j % 4) v h3;rw[←V] at this;exact this
theorem Qgg {v:Value}{d:DataW H}{ps:List MemPlace}{t tp te:Nat}{fs:Array Field}{V S U:Field}(hu:P.underlying t=some (.struct fs)) (ha:(P.cellTypes P.depth t).map (λts=>(ts.length,ts[147]?))=some (152,some tp)) (hc:P.cellsOf t=152)
  (g7:fs[7]?=some V) (Y:fs[8]?=some S) (g9:fs[9]?=some U) (hn:V.type=tp) (o7:V.offset=147) (o8:S.offset=148) (o9:U.offset=151) (c7:P.cellsOf tp=1) (c8:P.cellsOf S.type=3) (c9:P.cellsOf U.type=1)
  (kb:Qlk P fs 147=true) (Z:kT P .i8 5 S.type=true) (k9:kT P .i8 5 U.type=true) (ho:P.underlying tp=some (.slice te)) (hp:kT P .u8 5 te=true) (hq:P.cellsOf te=4)
  (hb:Value.okWide P W .any base t v) (h:DataW.Trod enc P W b0 sp held t v d ps):∃l:PwV,v=.agg (XD l).toArray∧PwA W l:=by
 simp only[Value.okWide,hu] at hb;obtain ⟨cs,rfl,he,ts,hr,_,hs⟩:=hb;rw[hr] at ha;have hg:=Option.some.inj ha;have ht:ts.length=152:=congrArg Prod.fst hg;have hv:ts[147]?=some tp:=congrArg Prod.snd hg;rw[hc] at he;obtain ⟨l⟩:=cs;have hl:l.length=152:=he;obtain ⟨fuel,hf⟩:=h;obtain ⟨xs,m,_,_,_,G,hw⟩:=DataW.trod_struct hu hf
 have E:∀(i:Nat) (f:Field),fs[i]?=some f→DataW.trod enc P W b0 sp held m f.type ((l.drop f.offset).take (P.cellsOf f.type))=xs[i]?:=hw;have h1:7<fs.size:=(LG.1 g7).1;have g0:∀c∈l.take 147,∃n:Nat,c=.int .u8 (n:Int)∧n<256:=λc hm=>by
  obtain ⟨j,hj,hh⟩:=LO hm;have hy:j<147:=by simp at hj;omega
  have hz:l[j]?=some c:=by
   rw[List.getElem_take] at hh;rw[LK (by omega),hh]
  exact QiO kb G E hy hz
 obtain ⟨ns,e1,e2,e3⟩:=QdH _ g0;have h0:ns.length=147:=by rw[e2];simp;omega
 have J:∀j,j<152→∃c,l[j]?=some c:=λj hj=>⟨l[j]'(by omega),LK (by omega)⟩;obtain ⟨x1,q1⟩:=J 147 (by omega);obtain ⟨x2,q2⟩:=J 148 (by omega);obtain ⟨x3,q3⟩:=J 149 (by omega);obtain ⟨x4,q4⟩:=J 150 (by omega);obtain ⟨x5,q5⟩:=J 151 (by omega);have hk:l.drop 147=[x1,x2,x3,x4,x5]:=by
  apply List.ext_getElem?;intro i;rw[MK]
  match i with
  | 0=>exact q1
  | 1=>exact q2
  | 2=>exact q3
  | 3=>exact q4
  | 4=>exact q5
  | i+5=>rw[MS (by omega)];rfl
 obtain ⟨y2,rfl,z2⟩:=QeO (Ul G E Y Z (by omega) (by omega) q2);obtain ⟨y3,rfl,z3⟩:=QeO (Ul G E Y Z (by omega) (by omega) q3);obtain ⟨y4,rfl,z4⟩:=QeO (Ul G E Y Z (by omega) (by omega) q4);obtain ⟨y5,rfl,z5⟩:=QeO (Ul G E g9 k9 (by omega) (by omega) q5);have w7:=Qnm hs 147 tp x1 (by simpa using q1) (by rw[ht];exact hv)
 have t7:=Qmj (c:=x1) E 7 g7 hn o7 c7 (by rw[hk];rfl) (by omega);obtain ⟨a,n,cp,rfl,hP⟩:=QnC ho hp hq w7 t7;refine ⟨⟨ns,a,n,cp,y2,y3,y4,y5⟩,?_,h0,e3,z2,z3,z4,z5,λh3=>hP (by have h4:n≤4:=h3;omega)⟩;show Value.agg l.toArray=.agg (bys ns++_).toArray;rw[←e1,←hk,MT]
end
set_option maxRecDepth 100000 in
theorem QnD {H:Type}{enc:TypeId×Value→H}{W:World}{base b0:Nat}{sp:Nat→Bool}{held:Bool}{v:Value}{d:DataW H}{ps:List MemPlace}(E:Value.okWide prog W .any base 36 v) (h:DataW.Trod enc prog W b0 sp held 36 v d ps) :
  ∃l:PwV,v=.agg (XD l).toArray∧PwA W l :=
 Qgg underlying36 (tp:=32) (by kernel_rfl) (by kernel_rfl) O O O O O O O (by kernel_rfl) (by kernel_rfl) (by kernel_rfl) (by kernel_rfl) (by kernel_rfl) (by kernel_rfl) underlying32 (by kernel_rfl) (by kernel_rfl) E h
theorem Qi0 {w:World}{l:PwV}(h:PwA w l):QM prog 13 [.agg (XD l).toArray] w λr w'=>r=.bool (decide (l.n≤4))∧Step [] w w':=by
 have E:=Qnd h.n;refine QM.of_W func13 O ntmps13 results13 (by simp) ?_;refine Qd<|xl O<|QS (us:=XD l) O λb1 J G S H=>Qf<|Qd<|x (Qa O)<|x (Qc H O E)<|x (jv O)<|x (JH O O)<|Qf<|Qs ⟨[_],Lb,?_,G⟩;exact congrArg Value.bool (decide_eq_decide.2 (by omega))
theorem Qi8 {L:LN}{w:World}{pva pvm pve sa sm se:Value}{aP aS:QE}(hp:Zi L w.heap pva pvm pve aP) (hs:Zi L w.heap sa sm se aS) {km:Int}(he:Kb w km) (hf:0<km) (hg:QK aP→QK aS→aP.st≤km∧aS.st≤km) :
  QM prog 45 [.agg #[pva,.int .i64 aP.st,pvm,pve],.agg #[sa,.int .i64 aS.st,sm,se]] w λr w'=>Step [] w w'∧∃v,r=.tuple #[v,.int .i64 (Xf aP aS)] ∧
   (Xf aP aS≠0→v=zA)∧(Xf aP aS=0→Xb w.heap.size w'.heap v (Xa aP aS)):=by
 refine QM.of_W func45 O ntmps45 results45 (by simp) ?_;refine Qd<|xl O<|QS (us:=[pva,.int .i64 aP.st,pvm,pve]) O λb2 w1 U hu hh=>xl O<|QS (us:=[sa,.int .i64 aS.st,sm,se]) O λb3 w2 J hv hj =>
  xl rfl<|Qu (us:=[nS,.int .i64 0,nS,nS]) O λb4 w3 G hw V=>Qf ?_
 have E:=(U.trans J).trans G;have hy:=U.size;have hz:=J.size;have h0:=V.lt;refine Qd<|x (Qo ((hh.ext J).ext G) O O)<|x (Qo (hj.ext G) O O)<|xl O<|xf<|(UH (hp.ext E) (hs.ext E) (he.ext E) hf hg).mono ?_;rintro r4 w4 ⟨hk,va,vt,rfl,S⟩;obtain ⟨us,Y,H,Z⟩:=S.shape;refine Qb<|x (Qk O O) <|
  x (Qk rfl O)<|x (Qk O O)<|xl O<|Qu (us:=[nS,.int .i64 0,nS,nS]) O λb6 w5 hl hm hn=>xl O<|Qq (us:=us) hn O Y H O Z λw6 ho hq =>
  x Qe<|Qf ?_
 have ha:Step [] w4 w6:=hl.then1 ho hm;have hb:=hk.trans ha;have h1:=G.size;have hr:=E.size;refine Qd<|x (Qo hq O H)<|Qb<|xl O<|Qq (us:=us) (V.ext hb) O O H O Z λw7 hc ht=>Qf<|Qs ⟨[.agg us.toArray,.int .i64 (Xf aP aS)],⟨⟨_,O,QF H (ht.at (L:=[]) (by simp)).cells⟩,rfl,La⟩,(E.trans hb).then1 hc (by omega),va,by rw[Y];rfl,λe=>(S.bad e).1,λe=>?_⟩
 exact (Ju ((S.good e).1.ext ha) (by omega) hc).mono hr
end Go.Proofs.YtdffckgdcegpaaaGreatDoor
namespace Go.Lg
theorem qg {P:Program}{f:Fr}{w:World}{d:Option Nat}{ty:Nat}{ps:String}{af:Array Edge}{gd:Option (Nat×Bool)}{t E:Nat}[h:Bk P t] {x y:Operand}{a b c:Bool}(hx:ev f x=.bool a) (hy:ev f y=.bool b) (hc:(!(a == b))=c) :
  (execOp (ev f) ⟨d,.binOp .neq t x y E,ty,ps,af,gd⟩).run P w=.ok (.value (.bool c)) w:=by rw[zv hx hy,hc]
section
variable {P:Program} {f:Fr} {w:World} {d:Option Nat} {ty:Nat} {ps:String} {af:Array Edge} {gd:Option (Nat×Bool)} {κ:Type} [DecidableEq κ]
theorem Qc9 {t kt et:Nat}{z:Value}[hm:Mp P t kt et z] {enc:κ→Value}[hk:Key P kt enc] {x y:Operand}{b:Nat}{m:List (κ×Value)}{k:κ}(h:ZE enc w.heap b m) (hx:ev f x=.map (some b)) (hy:ev f y=enc k) (E:mget m k=none) :
  (execOp (ev f) ⟨d,.lookup t x y false,ty,ps,af,gd⟩).run P w=.ok (.value z) w:=by
 rw[Xv h hx hy,E]
end
end Go.Lg
namespace Go.Proofs.YtdffckgdcegpaaaGreatDoor
open Go.Proofs.Tryz
open Go.Lg
instance:A2 prog 227:=⟨⟨_,underlying227,underlying3,by kernel_rfl⟩,by kernel_rfl⟩
theorem YQ {w:World}{b:Nat}{a:QE}(h:ZE Zy w.heap b (YW [] a.ed)) (hs:a.ed.Pairwise λx y=>x.1<y.1∨(x.1=y.1∧x.2.1<y.2.1)) (s v:Int) :
  QM prog 124 [.map (some b),.int .i64 s,.int .i64 v] w λr w'=>r=.int .i64 (nxt a.ed s v)∧Step [] w w':=by
 have E:=Xz a.ed [] s v hs;refine QM.of_W func124 O ntmps124 results124 (by simp) ?_;rw[Yh];refine Qd<|Qf<|Qg<|Qd<|Qb<|Qb<|Qb<|x (QG ⟨O,O,La⟩)<|?_;cases he:eget a.ed s v with
 | none =>
  rw[he] at E;refine x (Jg (k:=(s,v)) h O O E)<|Qb<|x (Qk O O)<|x (Qk O O) <|
   x Qe<|Qf<|Qd<|Qb<|xe ?_
  refine ZW O ?_;refine Qj<|Qd<|Qf ?_;exact Qs ⟨[.int .i64 (-1)],Lb,O,Step.refl _ _⟩
 | some u =>
  rw[he] at E;refine x (Xu (k:=(s,v)) h O O E)<|Qb<|x (Qk O O)<|x (Qk O O) <|
   x Qe<|Qf<|Qd<|Qb<|xe ?_
  refine JU O ?_;refine Qd<|Qb<|Qf ?_;exact Qs ⟨[.int .i64 u],Lb,O,Step.refl _ _⟩
theorem Qf6 {L:LN}{w:World}{pva pvm pve sa sm se vw:Value}{a b:QE}(ha:Zi L w.heap pva pvm pve a) (hb:Zi L w.heap sa sm se b) (Z:ZT a.mr) (he:ZT b.mr) (x0 E:Int) :
  QM prog 125 [.agg #[.int .i64 x0,.int .i64 E,vw],.agg #[pva,.int .i64 a.st,pvm,pve],.agg #[sa,.int .i64 b.st,sm,se]] w λr w'=>r=.bool (dfr a b x0 E)∧Step [] w w':=by
 refine QM.of_W func125 O ntmps125 results125 (by simp) ?_;refine Qd<|xl O<|QS (us:=[.int .i64 x0,.int .i64 E,vw]) O λb3 w1 hf hl hg=>xl O<|QS (us:=[pva,.int .i64 a.st,pvm,pve]) O λb4 w2 V hm hh=>xl O<|QS (us:=[sa,.int .i64 b.st,sm,se]) O λb5 G U hn hj=>x Qe <|
  xe ?_
 have J:=(hf.trans V).trans U;have H:=(hg.ext V).ext U;have hk:=hh.ext U;unfold dfr;refine Or.elim (Decidable.em ((!(decide (x0=-1) == decide (E=-1)))=true)) (λS=>?_) (λS=>?_)
 ·refine Qg<|QV (Step [] G) [(0,true),(1,true),(2,true),(3,true),(4,true),(5,true),(6,true),(7,true),(8,true),(9,true),(10,true),(11,true),(13,true),(14,true),(15,true),(16,true),(12,false),(17,false),(18,true),(19,true),(20,true)] mixed (by rfl) (by kernel_rfl) (Step.drew _ _) ?_;refine p (λ_=>Qa O)<|pq (λ_ hc=>Qc (H.ext hc) O O)<|p (λ_=>Zf O O)<|p (λ_=>Qa O) <|
   pq (λ_ hc=>Qc (H.ext hc) O O)<|p (λ_=>Zf O O)<|p (λ_=>qg O O S) <|
   p (λ_=>Ql)<|ps<|ps<|ps<|ps<|ps<|ps<|ps<|ps<|ps<|ps<|ps<|p (λ_=>Qp O)<|p (λ_=>Qe)<|pe ?_
  exact Qs ⟨[.bool true],Lb,by rw[S];rfl,J.trans (Step.drew [] G)⟩
 have Y:=eq_false_of_ne_true S;refine Qg<|QV (Step [] G) [(0,true),(1,true),(2,true),(3,true),(4,true),(5,true),(6,true),(7,true),(8,true),(9,true),(10,true),(11,true),(13,true),(14,true),(15,true),(16,true),(12,false),(17,false),(18,true),(19,true),(20,true)] mixed (by rfl) (by kernel_rfl) (Step.drew _ _) ?_
 refine p (λ_=>Qa O)<|pq (λ_ hc=>Qc (H.ext hc) O O)<|p (λ_=>Zf O O)<|p (λ_=>Qa O) <|
  pq (λ_ hc=>Qc (H.ext hc) O O)<|p (λ_=>Zf O O)<|p (λ_=>qg O O Y) <|
  p (λ_=>Ql)<|p (λ_=>Qa O)<|pq (λ_ hc=>Qc (hk.ext hc) O O)<|p (λ_=>Qa O)<|pq (λ_ hc=>Qc (H.ext hc) O O) <|
  p (λ_=>Qa O)<|pq (λ_ hc=>Qc (hj.ext hc) O O)<|p (λ_=>Qa O)<|pq (λ_ hc=>Qc (H.ext hc) O O) <|
  pk<|xf<|(ZX ((ha.mr.ext J).ext (Step.drew [] G)) Z x0).mono ?_
 rintro r4 w4 ⟨rfl,rfl⟩;refine ⟨Step.drew _ _,?_⟩;refine pk<|xf<|(ZX ((hb.mr.ext J).ext (Step.drew [] G)) he E).mono ?_;rintro r5 w5 ⟨rfl,rfl⟩;refine ⟨Step.drew _ _,?_⟩;refine p (λ_=>zv O O) <|
  p (λ_=>Qp O)<|p (λ_=>Qe)<|pe ?_
 exact Qs ⟨[.bool (!(decide (x0∈a.mr) == decide (E∈b.mr)))],Lb,by rw[Y,NJ];rfl,J.trans (Step.drew [] G)⟩
end Go.Proofs.YtdffckgdcegpaaaGreatDoor
