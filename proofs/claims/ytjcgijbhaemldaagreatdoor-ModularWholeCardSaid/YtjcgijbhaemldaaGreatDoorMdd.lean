/- Merged out of 26 texts. -/
import Derived.Test.YtjcgijbhaemldaaGreatDoorMdc
import Derived.Shelf.Lay
import Derived.Shelf.SlSortCmp.NoneTotal
import Derived.Ground.SlsfProg
import Derived.Tactics
import Derived.Sort.Grow
import Derived.Deep.Draws
import Derived.Sort.Statements
import Derived.Tactics2
import Derived.Laws.IdiomStrings
namespace Go.Lg
theorem qB {W W':World}{base e sz n:Nat}{v:Value}{cs:LV}(h:W.ownsRow base e sz v n cs)(hc:Ju [] W W'):W'.ownsRow base e sz v n cs :=
 ⟨h.1,h.2.imp id λ⟨g,cap,cur,h1,h2,h3,h4⟩=>⟨g,cap,cur,h1,h2,hc g _ (by simp) h3 rfl,h4⟩⟩
theorem Ju.mono {L L':LN}{W W':World}(h:Ju L W W')(E:∀b∈L,b∈L'):Ju L' W W':=λk o G=>h k o (λhm=>G (E k hm))
theorem Ju.nonc {X:LN}{W W':World}(hs:Step X W W')(E:∀r∈X,∃o:Obj,W.heap[r]?=some o∧o.isCells=false):Ju [] W W':=λk o _ hk hc =>
 (hs.block k (LH.1 hk).1 (λhx=>by
  obtain⟨G,h1,h2⟩:=E k hx;rw[hk]at h1;cases h1;rw[hc]at h2;cases h2)).trans hk
theorem Yc.cst {B:Nat}{I:World→Prop}(h:∀W W',I W→Ju [] W W'→W.heap.size≤W'.heap.size→I W'):Yc B I:=λW W' _ hi hs E=>h W W' hi (Ju.nonc hs (λr G=>(E r G).2)) hs.size
end Go.Lg
namespace Go.Proofs.YtjcgijbhaemldaaGreatDoor
open Go.Lg
theorem Z3.cst {base:Nat}{av:LN}{W W':World}{v:Value}{n sz:Nat}{cs:LV}(h:Z3 base av W.heap v n sz cs)(hc:Lg.Ju [] W W')(E:W.heap.size≤W'.heap.size):Z3 base av W'.heap v n sz cs:=λL G=>(h L G).cst (hc.mono (by simp)) E
abbrev YF (r:Rsn):LV:=[.int .i64 r.st,.int .i64 r.kd,.int .i64 r.ix,.int .i64 r.ev]
structure J6 (base:Nat)(w:World)(v1 v2 v3 v4:Value)(cos rqs:List TV)(pls:LI)(fbs:List Rsn):Prop where
 o1:w.ownsRow base 39 1 v1 cos.length (cos.flatMap Z7)
 o2:w.ownsRow base 39 1 v2 rqs.length (rqs.flatMap Z7)
 o3:Qt 3 base w v3 pls
 o4:w.ownsRow base 190 4 v4 fbs.length (fbs.flatMap YF)
 d12:Dj v1 v2
 d13:Dj v1 v3
 d14:Dj v1 v4
 d23:Dj v2 v3
 d24:Dj v2 v4
 d34:Dj v3 v4
 e1:∀p∈cos,Z3 base (ob v1++(ob v2++(ob v3++ob v4))) w.heap p.1 p.2.length 1 (p.2.map (.int .i64))
 e2:∀p∈rqs,Z3 base (ob v1++(ob v2++(ob v3++ob v4))) w.heap p.1 p.2.length 1 (p.2.map (.int .i64))
theorem UU {v:Value}:Dj (nS) v:=λb hb=>by simp[ob]at hb
theorem J6.nil (base:Nat)(w:World):J6 base w (nS) (nS) (nS) (nS) [] [] [] []:=
 ⟨QN _ _ _ _,QN _ _ _ _,QN _ _ _ _,QN _ _ _ _,UU,UU,UU,UU,UU,UU,λp hp=>(by cases hp),λp hp=>(by cases hp)⟩
variable {base:Nat}{w w7 w8:World}{v1 v2 v3 v4 v':Value}{cos rqs:List TV}{pls:LI}{fbs:List Rsn}
theorem J6.ext (h:J6 base w v1 v2 v3 v4 cos rqs pls fbs)(hs:Step [] w w7):J6 base w7 v1 v2 v3 v4 cos rqs pls fbs :=
 ⟨Qs h.o1 hs,Qs h.o2 hs,Qs h.o3 hs,Qs h.o4 hs,h.d12,h.d13,h.d14,h.d23,h.d24,h.d34,λp hp=>(h.e1 p hp).ext hs,λp hp=>(h.e2 p hp).ext hs⟩
theorem J6.low {X:LN}(h:J6 base w v1 v2 v3 v4 cos rqs pls fbs)(hs:Step X w w7)(E:∀b∈X,b<base):J6 base w7 v1 v2 v3 v4 cos rqs pls fbs:=by
 have k:∀{e sz n:Nat} {v:Value} {cs:LV},w.ownsRow base e sz v n cs→w7.ownsRow base e sz v n cs:=λo=>Qm o hs (λb hb hm=>by have:=(Qq o b hb).1;have:=E b hm;omega);exact⟨k h.o1,k h.o2,k h.o3,k h.o4,h.d12,h.d13,h.d14,h.d23,h.d24,h.d34,λp hp=>(h.e1 p hp).low hs E,λp hp=>(h.e2 p hp).low hs E⟩
theorem J6.cst (h:J6 base w v1 v2 v3 v4 cos rqs pls fbs)(hc:Lg.Ju [] w w7)(E:w.heap.size≤w7.heap.size):J6 base w7 v1 v2 v3 v4 cos rqs pls fbs :=
 ⟨qB h.o1 hc,qB h.o2 hc,qB h.o3 hc,qB h.o4 hc,h.d12,h.d13,h.d14,h.d23,h.d24,h.d34,λp hp=>(h.e1 p hp).cst hc E,λp hp=>(h.e2 p hp).cst hc E⟩
theorem UV {a b E:Value}{n:Nat}(h:Dj a b)(G:∀x∈ob E,x∈ob a∨n≤x)(hb:∀x∈ob b,x<n):Dj E b:=λx hx hm=>by
 rcases G x hx with h1|h1
 ·exact h x h1 hm
 have:=hb x hm;omega
theorem Vk {a b b':Value}{n:Nat}(h:Dj a b)(E:∀x∈ob b',x∈ob b∨n≤x)(ha:∀x∈ob a,x<n):Dj a b':=λx hx hm=>by
 rcases E x hm with h1|h1
 ·exact h x hx h1
 have:=ha x hx;omega
theorem J6.lt (h:J6 base w v1 v2 v3 v4 cos rqs pls fbs):(∀x∈ob v1,x<w.heap.size)∧(∀x∈ob v2,x<w.heap.size)∧(∀x∈ob v3,x<w.heap.size)∧∀x∈ob v4,x<w.heap.size:=⟨QY h.o1,QY h.o2,QY h.o3,QY h.o4⟩
theorem QbZ {a b c d:LN}{x:Nat}(h:x∈a++(b++(c++d))):x∈a∨x∈b∨x∈c∨x∈d:=by simpa using h
theorem zG {a b c d:LN}{x:Nat}(h:x∈a∨x∈b∨x∈c∨x∈d):x∈a++(b++(c++d)):=by simpa using h
theorem J6.a1 {N e:Nat}{q:TV}(h:J6 base w v1 v2 v3 v4 cos rqs pls fbs)(hs:Step [] w w7)(hq:w7.ownsRow N e 1 q.1 q.2.length (q.2.map (.int .i64)))(I:q.2.length≤1099511627776)(U:w.heap.size≤N)(hb:base≤w.heap.size)(J:w8.ownsRow base 39 1 v' (cos.length+1) (cos.flatMap Z7++Z7 q))
  (G:Step (ob v1) w7 w8) (H:∀b∈ob v',b∈ob v1∨w7.heap.size≤b):J6 base w8 v' v2 v3 v4 (cos++[q]) rqs pls fbs:=by
 have l:=h.lt;have V:=hs.size;have E:=h.ext hs;have av:∀b∈ob v'++(ob v2++(ob v3++ob v4)),b∈ob v1++(ob v2++(ob v3++ob v4))∨w7.heap.size≤b:=by
  intro b hb;rcases QbZ hb with h1|h1|h1|h1
  ·rcases H b h1 with h2|h2
   ·exact .inl (zG (.inl h2))
   exact .inr h2
  ·exact .inl (zG (.inr (.inl h1)))
  ·exact .inl (zG (.inr (.inr (.inl h1))))
  exact .inl (zG (.inr (.inr (.inr h1))))
 have st:Step (ob v1++(ob v2++(ob v3++ob v4))) w7 w8:=G.mono (λb hb=>zG (.inl hb));have g:∀{v:Value} {n sz:Nat} {cs:LV},Z3 base (ob v1++(ob v2++(ob v3++ob v4))) w7.heap v n sz cs→Z3 base (ob v'++(ob v2++(ob v3++ob v4))) w8.heap v n sz cs:=λa=>a.app st av
 refine⟨by rw[Lj,LG];simpa using J,Qm E.o2 G (λb hb hm=>h.d12 b hm hb),Qm E.o3 G (λb hb hm=>h.d13 b hm hb),Qm E.o4 G (λb hb hm=>h.d14 b hm hb),UV h.d12 H (λx hx=>by have:=l.2.1 x hx;omega),UV h.d13 H (λx hx=>by have:=l.2.2.1 x hx;omega),UV h.d14 H (λx hx=>by have:=l.2.2.2 x hx;omega),h.d23,h.d24,h.d34,?_,?_⟩
 ·exact λp hp=>by
   rcases Lo.1 hp with hp|hp
   ·exact g (E.e1 p hp)
   simp only[List.mem_singleton]at hp;subst hp;exact g (Z3.of_own hq I (by omega) (λb hb=>by
   rcases QbZ hb with h1|h1|h1|h1
   ·have:=l.1 b h1;omega
   ·have:=l.2.1 b h1;omega
   ·have:=l.2.2.1 b h1;omega
   have:=l.2.2.2 b h1;omega))
 exact λp hp=>g (E.e2 p hp)
theorem J6.a2 {N e:Nat}{q:TV}(h:J6 base w v1 v2 v3 v4 cos rqs pls fbs)(hs:Step [] w w7)(hq:w7.ownsRow N e 1 q.1 q.2.length (q.2.map (.int .i64)))(I:q.2.length≤1099511627776)(U:w.heap.size≤N)(hb:base≤w.heap.size)(J:w8.ownsRow base 39 1 v' (rqs.length+1) (rqs.flatMap Z7++Z7 q))
  (G:Step (ob v2) w7 w8) (H:∀b∈ob v',b∈ob v2∨w7.heap.size≤b):J6 base w8 v1 v' v3 v4 cos (rqs++[q]) pls fbs:=by
 have l:=h.lt;have V:=hs.size;have E:=h.ext hs;have av:∀b∈ob v1++(ob v'++(ob v3++ob v4)),b∈ob v1++(ob v2++(ob v3++ob v4))∨w7.heap.size≤b:=by
  intro b hb;rcases QbZ hb with h1|h1|h1|h1
  ·exact .inl (zG (.inl h1))
  ·rcases H b h1 with h2|h2
   ·exact .inl (zG (.inr (.inl h2)))
   exact .inr h2
  ·exact .inl (zG (.inr (.inr (.inl h1))))
  exact .inl (zG (.inr (.inr (.inr h1))))
 have st:Step (ob v1++(ob v2++(ob v3++ob v4))) w7 w8:=G.mono (λb hb=>zG (.inr (.inl hb)));have g:∀{v:Value} {n sz:Nat} {cs:LV},Z3 base (ob v1++(ob v2++(ob v3++ob v4))) w7.heap v n sz cs→Z3 base (ob v1++(ob v'++(ob v3++ob v4))) w8.heap v n sz cs:=λa=>a.app st av
 refine⟨Qm E.o1 G (λb hb hm=>h.d12 b hb hm),by rw[Lj,LG];simpa using J,Qm E.o3 G (λb hb hm=>h.d23 b hm hb),Qm E.o4 G (λb hb hm=>h.d24 b hm hb),Vk h.d12 H (λx hx=>by have:=l.1 x hx;omega),h.d13,h.d14,UV h.d23 H (λx hx=>by have:=l.2.2.1 x hx;omega),UV h.d24 H (λx hx=>by have:=l.2.2.2 x hx;omega),h.d34,?_,?_⟩
 ·exact λp hp=>g (E.e1 p hp)
 exact λp hp=>by
  rcases Lo.1 hp with hp|hp
  ·exact g (E.e2 p hp)
  simp only[List.mem_singleton]at hp;subst hp;exact g (Z3.of_own hq I (by omega) (λb hb=>by
  rcases QbZ hb with h1|h1|h1|h1
  ·have:=l.1 b h1;omega
  ·have:=l.2.1 b h1;omega
  ·have:=l.2.2.1 b h1;omega
  have:=l.2.2.2 b h1;omega))
theorem J6.a3 {q:Int}(h:J6 base w v1 v2 v3 v4 cos rqs pls fbs)(hs:Step [] w w7)(I:w8.ownsRow base 3 1 v' (pls.length+1) (pls.map (.int .i64)++[.int .i64 q]))
  (G:Step (ob v3) w7 w8) (H:∀b∈ob v',b∈ob v3∨w7.heap.size≤b):J6 base w8 v1 v2 v' v4 cos rqs (pls++[q]) fbs:=by
 have l:=h.lt;have J:=hs.size;have E:=h.ext hs;have av:∀b∈ob v1++(ob v2++(ob v'++ob v4)),b∈ob v1++(ob v2++(ob v3++ob v4))∨w7.heap.size≤b:=by
  intro b hb;rcases QbZ hb with h1|h1|h1|h1
  ·exact .inl (zG (.inl h1))
  ·exact .inl (zG (.inr (.inl h1)))
  ·rcases H b h1 with h2|h2
   ·exact .inl (zG (.inr (.inr (.inl h2))))
   exact .inr h2
  exact .inl (zG (.inr (.inr (.inr h1))))
 have st:Step (ob v1++(ob v2++(ob v3++ob v4))) w7 w8:=G.mono (λb hb=>zG (.inr (.inr (.inl hb))));have g:∀{v:Value} {n sz:Nat} {cs:LV},Z3 base (ob v1++(ob v2++(ob v3++ob v4))) w7.heap v n sz cs→Z3 base (ob v1++(ob v2++(ob v'++ob v4))) w8.heap v n sz cs:=λa=>a.app st av
 refine⟨Qm E.o1 G (λb hb hm=>h.d13 b hb hm),Qm E.o2 G (λb hb hm=>h.d23 b hb hm),Qt.snoc I,Qm E.o4 G (λb hb hm=>h.d34 b hm hb),h.d12,Vk h.d13 H (λx hx=>by have:=l.1 x hx;omega),h.d14,Vk h.d23 H (λx hx=>by have:=l.2.1 x hx;omega),h.d24,UV h.d34 H (λx hx=>by have:=l.2.2.2 x hx;omega),?_,?_⟩
 ·exact λp hp=>g (E.e1 p hp)
 exact λp hp=>g (E.e2 p hp)
theorem J6.a4 {q:Rsn}(h:J6 base w v1 v2 v3 v4 cos rqs pls fbs)(hs:Step [] w w7)(I:w8.ownsRow base 190 4 v' (fbs.length+1) (fbs.flatMap YF++YF q))
  (G:Step (ob v4) w7 w8) (H:∀b∈ob v',b∈ob v4∨w7.heap.size≤b):J6 base w8 v1 v2 v3 v' cos rqs pls (fbs++[q]):=by
 have l:=h.lt;have J:=hs.size;have E:=h.ext hs;have av:∀b∈ob v1++(ob v2++(ob v3++ob v')),b∈ob v1++(ob v2++(ob v3++ob v4))∨w7.heap.size≤b:=by
  intro b hb;rcases QbZ hb with h1|h1|h1|h1
  ·exact .inl (zG (.inl h1))
  ·exact .inl (zG (.inr (.inl h1)))
  ·exact .inl (zG (.inr (.inr (.inl h1))))
  rcases H b h1 with h2|h2
  ·exact .inl (zG (.inr (.inr (.inr h2))))
  exact .inr h2
 have st:Step (ob v1++(ob v2++(ob v3++ob v4))) w7 w8:=G.mono (λb hb=>zG (.inr (.inr (.inr hb))));have g:∀{v:Value} {n sz:Nat} {cs:LV},Z3 base (ob v1++(ob v2++(ob v3++ob v4))) w7.heap v n sz cs→Z3 base (ob v1++(ob v2++(ob v3++ob v'))) w8.heap v n sz cs:=λa=>a.app st av
 refine⟨Qm E.o1 G (λb hb hm=>h.d14 b hb hm),Qm E.o2 G (λb hb hm=>h.d24 b hb hm),Qm E.o3 G (λb hb hm=>h.d34 b hb hm),by rw[Lj,LG];simpa using I,h.d12,h.d13,Vk h.d14 H (λx hx=>by have:=l.1 x hx;omega),h.d23,Vk h.d24 H (λx hx=>by have:=l.2.1 x hx;omega),Vk h.d34 H (λx hx=>by have:=l.2.2.1 x hx;omega),?_,?_⟩
 ·exact λp hp=>g (E.e1 p hp)
 exact λp hp=>g (E.e2 p hp)
theorem jc (c:Q7)(pl:QD)(ps:List (LI)):∀(l:List (LI)) (i:Nat) (s:Spc),(l.zipIdx i).foldl (QnF c pl ps) s =
  ⟨s.a,s.co++l.map (·.take c.co.length),s.rq++l.map (·.drop c.co.length),s.pl++l.map (λt=>plx ps (t.take c.co.length)),s.fb++(l.zipIdx i).filterMap (λp=>rsn c pl (plx ps (p.1.take c.co.length)) p.2 p.1)⟩
 | [],i,s=>by simp
 | t::l,i,s=>by
  rw[List.zipIdx_cons,LM,jc c pl ps l (i+1)];unfold QnF;simp only[List.map_cons,List.append_assoc,List.cons_append,List.nil_append,List.filterMap_cons];cases rsn c pl (plx ps (t.take c.co.length)) i t with
  | none=>rfl
  | some r=>simp
theorem zd {c:Q7}{rs:LI}:∀{l:LI},(∀x∈wrf c.rq rs l,(c.ev.getD x.1.toNat ⟨.empty,false,false,false,0⟩).co=true)→rfd c rs l=none
 | [],_=>rfl
 | v::l,h=>by
  rw[wrf]at h;rw[rfd];by_cases h1:0≤rfr v 0 c.rq rs
  ·rw[if_pos h1]at h;have h2:=h _ Lm;simp only[]at h2;rw[if_neg (λe=>by rw[h2]at e;cases e.2)];exact zd λx hx=>h x (Lk _ hx)
  rw[if_neg h1]at h;rw[if_neg (λe=>h1 e.1)];exact zd h
theorem zc {c:Q7}{rs:LI}{x:Int×Int}{t:List (Int×Int)}:∀{l:LI}{p:List (Int×Int)},wrf c.rq rs l=p++x::t→(∀y∈p,(c.ev.getD y.1.toNat ⟨.empty,false,false,false,0⟩).co=true)→(c.ev.getD x.1.toNat ⟨.empty,false,false,false,0⟩).co=false→rfd c rs l=some (x.2,x.1)
 | [],p,h,_,_=>by simp[wrf]at h
 | v::l,p,h,hp,hx=>by
  rw[wrf]at h;rw[rfd];by_cases h1:0≤rfr v 0 c.rq rs
  ·rw[if_pos h1]at h;cases p with
   | nil =>
    simp only[List.nil_append,List.cons.injEq]at h;obtain⟨h2,_⟩:=h;subst h2;rw[if_pos ⟨h1,hx⟩]
   | cons y p =>
    simp only[List.cons_append,List.cons.injEq]at h;obtain⟨h2,h3⟩:=h;have h4:=hp y Lm;subst h2;rw[if_neg (λe=>by simp only[]at h4;rw[h4]at e;cases e.2)];exact zc h3 (λy hy=>hp y (Lk _ hy)) hx
  rw[if_neg h1]at h;rw[if_neg (λe=>h1 e.1)];exact zc h hp hx
theorem Qg0 (c:Q7)(t:LI):vio c t=if(yG c.ex c.cs t).2.2=true then some ((yG c.ex c.cs t).1,(yG c.ex c.cs t).2.1)else none:=by
 unfold vio yG;by_cases h1:0≤fix (JT t) 0 c.ex
 ·rw[if_pos h1,if_pos h1];rfl
 rw[if_neg h1,if_neg h1];by_cases h2:0≤fix (Kv t) 0 c.cs
 ·rw[if_pos h2,if_pos h2];rfl
 rw[if_neg h2,if_neg h2];rfl
def Qq1 (N:Nat)(H:Array Obj)(v:Value)(s:Spc):Prop:=∃va vm ve v1 v2 v3 v4 cos rqs,v=.agg #[va,.int .i64 s.a.st,vm,ve,v1,v2,v3,v4]∧cos.map (·.2)=s.co∧rqs.map (·.2)=s.rq ∧
 ∀L:LN,(∀b∈L,b<N)→Zm L H va vm ve s.a∧XQ L H v1 cos∧XQ L H v2 rqs∧QJ L H v3 s.pl∧Zy L H v4 s.fb.length 4 (s.fb.flatMap YF)
end Go.Proofs.YtjcgijbhaemldaaGreatDoor
namespace Go.Lg
open Go.RowKit
def zM (all:Array Oper)(i:Nat)(rest:List (Nat×Bool)):List (Nat×Bool)→Array Bool→Bool
 | [],ls=>Region.ready .any all ls == [i] && Y2 all rest (ls.setIfInBounds i true)
 | (j,true)::l,ls=>(Region.ready .any all ls).contains j && Region.free .any all ls j && zM all i rest l (ls.setIfInBounds j true)
 | (j,false)::l,ls=>!(Region.ready .any all ls).isEmpty && (Region.ready .any all ls).all (λk=>k == j || k == i) && Y2 all ((j,false)::(l++rest)) (ls.setIfInBounds i true) && zM all i rest l (ls.setIfInBounds j true)
def Yq (all:List Oper)(d:Nat)(l:List (Nat×Bool)):Bool:=l.all λp=>!((QL all p.1).looksAt all.toArray).contains d && !((QL all p.1).dst == some d)
def Qi6 (all:List Oper)(pre l:List (Nat×Bool))(i:Nat)(rest:List (Nat×Bool)):Bool :=
 Region.noSelect all.toArray && (pre.length+(l.length+1+rest.length) == all.length) && Xy all.toArray pre (Array.replicate all.length false) && zM all.toArray i rest l (Zw pre (Array.replicate all.length false))
  && (QL all i).guard.isNone && (match (QL all i).dst with|some d=>Yq all d l|none=>false)
def XF (P:Program)(all:List Oper)(C:World→Prop)(K:Fr→World→Prop):List (Nat×Bool)→LN→Fr→World→Prop
 | [],_,f,w=>K f w
 | (j,true)::l,own,f,w=>Yd all f (QL all j)=true∧∃v,(∀w',(yB (QL all j)=true→C w')→(execOp (ev f) (QL all j)).run P w'=.ok (.value v) w')∧XF P all C K l own (QW f (QL all j).dst v) w
 | (j,false)::l,own,f,w=>Yd all f (QL all j)=true∧∀w1,Step [] w w1→C w1→XO P (QL all j) f w1 λE w'=>C w'∧∃own',Step own w1 w'∧(∀b∈own',b∈own∨(w1.heap.size≤b∧b<w'.heap.size))∧XF P all C K l own' E w'
section
variable {P:Program}{n:Nat}{f:Fr}{w:World}{all:List Oper}{C:World→Prop}{K KF:Fr→World→Prop}
theorem XF.ext (E:∀f w w',KF f w→Step [] w w'→KF f w'):∀{l:List (Nat×Bool)}{own:LN}{f:Fr}{w w':World},XF P all C KF l own f w→Step [] w w'→XF P all C KF l own f w'
 | [],_,_,_,_,h,hs=>E _ _ _ h hs
 | (_,true)::_,_,_,_,_,h,hs=>by
  obtain⟨G,v,H,hx⟩:=h;exact⟨G,v,H,XF.ext E hx hs⟩
 | (_,false)::_,_,_,_,_,h,hs=>⟨h.1,λI h1 hc=>h.2 I (hs.trans h1) hc⟩
attribute [local semireducible] XO in
theorem QfV {o:Oper}(hs:∀cs b,o.op≠.select cs b){d:Nat}{v:Value}{K':Fr→World→Prop}(h1:d∉o.looksAt all.toArray)(h2:o.dst≠some d)(E:∀u w',K (QW f o.dst u) w'→K' (QW (QW f o.dst u) (some d) v) w')
  (h:XO P o f w K):XO P o (QW f (some d) v) w K':=by
 have hc:∀u,QW (QW f (some d) v) o.dst u=QW (QW f o.dst u) (some d) v:=λu=>Vd f v u (λe he=>by cases he;exact h2);unfold XO at *;rw[XH (all:=all) hs f (some d) v (λe he=>by cases he;exact h1)];generalize (execOp (ev f) o).run P w=r at *;cases r with
 | ok nx w' =>
  cases nx <;> simp only[upF]at h ⊢
  case value u=>rw[hc];exact E u w' h
  case skip=>rw[hc];exact E _ w' h
  case enter g args =>
   refine Calls.mono h λe G he=>?_;cases e with
   | returned u=>simp only at he ⊢;rw[hc];exact E u G he
   | panicked c=>exact he.elim
   | outgrown=>exact he.elim
 | halt x w'=>exact h.elim
theorem KP {D:List (Nat×Nat)}{f E:Fr}{dst:Option Nat}{v:Value}(hd:inD D dst=true)(h:∀t,Xk D t=false→f t=E t):∀t,Xk D t=false→QW f dst v t=E t:=λt ht =>
 (ZX (λe=>by rw[e]at hd;simp only[inD]at hd;rw[hd]at ht;cases ht) v).trans (h t ht)
def Yn (all:List Oper)(D:List (Nat×Nat))(l:List (Nat×Bool)):Bool:=l.all λp=>inD D (QL all p.1).dst
structure Fl (P:Program)(all:List Oper)(C:World→Prop)(K KF:Fr→World→Prop)(i d:Nat)(rest:List (Nat×Bool))(Φ:Value→World→Prop)(Dc:List (Nat×Nat))(f1:Fr):Prop where
 stab:∀v (own:LN) w w',Φ v w→Step own w w'→(∀b∈ow v,b∉own)→Φ v w'
 spec:∀f w,(∀t,Xk Dc t=false→f t=f1 t)→C w→XO P (QL all i) f w λf' w'=>Step [] w w'∧C w'∧Φ (f' d) w'∧∀b∈ow (f' d),w.heap.size≤b∧b<w'.heap.size
 fin:∀f w,KF f w→∀v,C w→Φ v w→XP P all C K rest (QW f (some d) v) w
 mono:∀f w w',KF f w→Step [] w w'→KF f w'
attribute [local semireducible] XP in
theorem yo {i d:Nat}{rest:List (Nat×Bool)}{Φ:Value→World→Prop}{Dc:List (Nat×Nat)}{f1:Fr}(G:Fl P all C K KF i d rest Φ Dc f1)(hs:Region.noSelect all.toArray=true){v:Value}:∀(l:List (Nat×Bool)) (own:LN) (f:Fr) (w:World),Yq all d l=true→XF P all C KF l own f w→C w→Φ v w →
  (∀b∈ow v,b∉own∧b<w.heap.size)→XP P all C K (l++rest) (QW f (some d) v) w
 | [],own,f,w,_,h,hC,H,_=>G.fin f w h v hC H
 | (j,q)::l,own,f,w,hfr,h,hC,H,hb=>by
  simp only[Yq,List.all_cons,Bool.and_eq_true,Bool.not_eq_true',List.contains_eq_mem,decide_eq_false_iff_not,beq_eq_false_iff_ne,ne_eq]at hfr;obtain⟨⟨h1,h2⟩,hfr⟩:=hfr;have I:Yq all d l=true:=by simpa[Yq]using hfr
  have U:∀cs b,(QL all j).op≠.select cs b:=by
   intro cs b;cases J:all[j]? with
   | none =>
    have:QL all j=default:=by
     clear h h1 h2 hfr I;have key:∀(l:List Oper) (j:Nat),l[j]?=none→QL l j=default:=by
      intro l;induction l with
      | nil=>intro j _;rfl
      | cons a l ih=>intro j hj;cases j with|zero=>simp at hj|succ j=>exact ih j (by simpa using hj)
     exact key all j J
    rw[this];intro e;cases e
   | some o=>rw[Zh J];exact Region.noSelect_spec hs j o cs b (by simpa using J)
  have hd:∀e,some d=some e→e∉(QL all j).looksAt all.toArray:=λe he=>by cases he;exact h1
  cases q with
  | true =>
   obtain⟨hg,u,hu,hx⟩:=h;simp only[List.cons_append,XP];rw[J1 (QL all j) f (some d) v hd,hg,cond_true,cond_true];refine⟨u,λw' hc=>?_,?_⟩
   ·rw[XH (all:=all) U f (some d) v hd];exact hu w' hc
   rw[Vd f v u (λe he=>by cases he;exact h2)];exact yo G hs l own _ w I hx hC H hb
  | false =>
   simp only[List.cons_append,XP];rw[J1 (QL all j) f (some d) v hd,h.1,cond_true,cond_false];refine QfV (all:=all) U h1 h2 (λu w' hx=>?_) (h.2 w (Step.refl _ _) hC);obtain⟨V,own',Y,ha,hx⟩:=hx;refine⟨.inr (.inr V),yo G hs l own' _ w' I hx V (G.stab v own w w' H Y (λb E=>(hb b E).1)) (λb E=>⟨λhm=>?_,Ma (hb b E).2 Y.size⟩)⟩
   rcases ha b hm with h3|h3
   ·exact(hb b E).1 h3
   exact Nat.lt_irrefl _ (Ma (hb b E).2 h3.1)
theorem Qj4 {i d:Nat}{rest:List (Nat×Bool)}{Φ:Value→World→Prop}{Dc:List (Nat×Nat)}{f1:Fr}(G:Fl P all C K KF i d rest Φ Dc f1)(hs:Region.noSelect all.toArray=true)(J:(QL all i).guard=none)(hd:(QL all i).dst=some d):∀(l:List (Nat×Bool)) (ls:Array Bool) (own:LN) (f:Fr) (w:World),ls.size=all.length→Yq all d l=true→Yn all Dc l=true→(∀t,Xk Dc t=false→f t=f1 t) →
  XF P all C KF l own f w→C w→(∀b∈own,b<w.heap.size)→zM all.toArray i rest l ls=true→XA P all C K (l.length+1+rest.length) ls f w
 | [],ls,own,f,w,U,hfr,H,hk1,h,hC,V,hp=>by
  simp only[zM,Bool.and_eq_true,beq_iff_eq]at hp;obtain⟨I,hp⟩:=hp;rw[show([]:List (Nat×Bool)).length+1+rest.length=rest.length+1 by simp;omega];refine Y0 (λh0=>(by rw[h0]at I;cases I)) ?_;rw[I];intro k hk o E;have ha:k=i:=by simpa using hk
  subst ha;have Y:=Zh E;have hx:=G.spec f w hk1 hC;rw[Y]at J hd hx;rw[Ji J,cond_true];refine hx.mono λv w' hx=>?_;rw[hd]at hx ⊢;obtain⟨h1,h2,h3,h4⟩:=hx;simp only[QW,YQ]at h3 h4;refine⟨.inr (.inr h2),Zz hs rest _ _ _ (by simpa using U) (.inl h2) hp (G.fin f w' (G.mono f w w' h h1) v h2 h3)⟩
 | (j,true)::l,ls,own,f,w,U,hfr,H,hk1,h,hC,V,hp=>by
  simp only[zM,Bool.and_eq_true]at hp;obtain⟨⟨I,hf⟩,hc⟩:=hp;have hi:j∈Region.ready .any all.toArray ls:=by simpa using I
  have e:(List.length ((j,true)::l))+1+rest.length=(l.length+1+rest.length)+1:=by simp;omega
  rw[e];have he:Yq all d l=true:=by simp only[Yq,List.all_cons,Bool.and_eq_true]at hfr;exact hfr.2
  simp only[Yn,List.all_cons,Bool.and_eq_true]at H;have hh:Yn all Dc l=true:=H.2;cases E:all[j]? with
  | none =>
   exfalso;obtain⟨_,o,hu,_⟩:=mem_ready.1 hi;simp[E]at hu
  | some o =>
   obtain⟨hl,v,hv,hx⟩:=h;rw[Zh E]at hl hv hx;have hw:∀(j:Nat) (o:Oper) cs b,all[j]?=some o→o.op≠.select cs b:=λj o cs b hj=>Region.noSelect_spec hs j o cs b (by simpa using hj);have hy:=λk ok hk=>Region.free_spec (ops:=all.toArray) (md:=.any) (i:=j) (oi:=o) (listed:=ls) (by simpa using E) hf k ok (by simpa using hk)
   exact XI (v:=v) (D:=λw=>yB o=true→C w) E (λ_ h=>h) hw _ ls f w (λ_=>hC) hy hi (.inl ⟨hl,hv⟩) (Qj4 G hs J hd l _ own _ w (by simpa using U) he hh (by have:=KP (v:=v) H.1 hk1;rw[Zh E]at this;exact this) hx hC V hc)
 | (j,false)::l,ls,own,f,w,U,hfr,H,hk1,h,hC,V,hp=>by
  simp only[zM,Bool.and_eq_true,List.all_eq_true,Bool.or_eq_true,beq_iff_eq,Bool.not_eq_true']at hp;obtain⟨⟨⟨hn,I⟩,hz⟩,hc⟩:=hp;have e:(List.length ((j,false)::l))+1+rest.length=(l.length+1+rest.length)+1:=by simp;omega
  rw[e];have he:Yq all d l=true:=by simp only[Yq,List.all_cons,Bool.and_eq_true]at hfr;exact hfr.2
  simp only[Yn,List.all_cons,Bool.and_eq_true]at H;have hh:Yn all Dc l=true:=H.2;refine Y0 (λh0=>(by rw[h0]at hn;cases hn)) ?_;intro k hk o E;have Y:=Zh E;have hq:(ls.setIfInBounds k true).size=all.length:=by simpa using U
  by_cases ha:k=i
  ·subst ha;have hx:=G.spec f w hk1 hC;rw[Y]at J hd hx;rw[Ji J,cond_true];refine hx.mono λv w' hx=>?_;rw[hd]at hx ⊢;obtain⟨h1,h2,h3,h4⟩:=hx;simp only[QW,YQ]at h3 h4;refine⟨.inr (.inr h2),?_⟩;have hx:=yo G hs ((j,false)::l) own f w' hfr (XF.ext G.mono h h1) h2 h3 (λb hb=>⟨λhm=>Nat.lt_irrefl _ (Ma (V b hm) (h4 b hb).1),(h4 b hb).2⟩)
   have:=Zz hs ((j,false)::(l++rest)) _ _ _ hq (.inl h2) hz hx;rw[show((j,false)::(l++rest)).length=l.length+1+rest.length by simp;omega]at this;exact this
  have h5:k=j:=(I k hk).resolve_right ha;subst h5;have h1:=h.1;have h2:=h.2 w (Step.refl _ _) hC;rw[Y]at h1 h2;rw[h1,cond_true];refine h2.mono λv w' hx=>?_;obtain⟨ht,own',h6,h7,hx⟩:=hx;refine⟨.inr (.inr ht),Qj4 G hs J hd l _ own' _ w' hq he hh (by have:=KP (v:=v) H.1 hk1;rw[Y]at this;exact this) hx ht (λb hb=>?_) hc⟩;rcases h7 b hb with h3|h3
  ·exact Ma (V b h3) h6.size
  exact h3.2
theorem QmW {ro:Option Nat}{m:Nat}{ds:LN}{Q:Exit→LN→Fr→World→Prop}{id:Nat}(C:World→Prop)(pre l:List (Nat×Bool))(i d:Nat)(rest:List (Nat×Bool))(own:LN)(KF:Fr→World→Prop)(Φ:Value→World→Prop)(Dc:List (Nat×Nat))(hm:P.follows .mixedOrders=true)(H:Xn n all=true)(I:QbV all=true)
  (hp:Qi6 all pre l i rest=true) (J:Yn all Dc l=true) (hd:(QL all i).dst=some d) (hC:C { w with drawn:=w.drawn+1 }) (U:∀b∈own,b<w.heap.size)
  (h:XP P all C (λf1 _=>Fl P all C (λf w=>Q .normal ds f w) KF i d rest Φ Dc f1∧XF P all C KF l own f1 { w with drawn:=w.drawn+1 }) pre f { w with drawn:=w.drawn+1 }):WG ro m P n (.region id all.toArray true) Q ds f w:=by
 unfold WG;intro a ha;simp only[Qi6,Bool.and_eq_true,beq_iff_eq,Option.isNone_iff_eq_none]at hp;obtain⟨⟨⟨⟨⟨hs,hl⟩,hq⟩,V⟩,Y⟩,hfr⟩:=hp;rw[hd]at hfr;refine wpIn_region_any hm ?_;have h1:=ZP (K:=λf w=>Q .normal ds f w) (m:=l.length+1+rest.length) hs pre (Array.replicate all.length false) f _ hC hq
  (λf1 G=>Qj4 G.1 hs Y hd l (Zw pre (Array.replicate all.length false)) own f1 _ (by rw[ZN];simp) hfr J (λ_ _=>rfl) G.2 hC U V) h
 rw[hl]at h1;have h2:=qM (ro:=ro) (m:=m) (n:=n) (ds:=ds) (Q:=λe a' w'=>∃ds' E,YL n ds' a' E∧(∀t,ZT all t=false→E t=f t)∧Q e ds' E w') (Y3 H) (VH I) f
  (λa E w hr hk hq=>⟨ds,E,hr,hk,hq⟩) _ _ a f _ ha (λ_ _=>O) h1
 simpa[XJ]using h2
theorem XP.keeps_mono {K':Fr→World→Prop}:∀(l:List (Nat×Bool)) (f:Fr) (w:World),XP P all C K l f w→(∀f w,K f w→K' f w)→XP P all C K' l f w
 | [],f,w,h,hk=>by simp only[XP]at h ⊢;exact hk _ _ h
 | (j,q)::l,f,w,h,hk=>by
  simp only[XP]at h ⊢;cases E:Yd all f (QL all j)with
  | false=>rw[E]at h;exact XP.keeps_mono l _ _ h hk
  | true =>
   rw[E]at h;cases q with
   | true=>obtain⟨v,G,hx⟩:=h;exact⟨v,G,XP.keeps_mono l _ _ hx hk⟩
   | false=>exact XO.mono (λv w' hx=>⟨hx.1,XP.keeps_mono l _ _ hx.2 hk⟩) h
theorem XP.keeps {D:List (Nat×Nat)}{H:Fr}:∀(l:List (Nat×Bool)) (f:Fr) (w:World),Yn all D l=true→(∀t,Xk D t=false→f t=H t)→XP P all C K l f w→XP P all C (λI w'=>(∀t,Xk D t=false→I t=H t)∧K I w') l f w
 | [],f,w,_,E,h=>by simp only[XP]at h ⊢;exact⟨E,h⟩
 | (j,q)::l,f,w,hd,E,h=>by
  simp only[Yn,List.all_cons,Bool.and_eq_true]at hd;have G:Yn all D l=true:=hd.2;simp only[XP]at h ⊢;cases J:Yd all f (QL all j)with
  | false=>rw[J]at h;exact XP.keeps l _ _ G (KP hd.1 E) h
  | true =>
   rw[J]at h;cases q with
   | true=>obtain⟨v,U,hx⟩:=h;exact⟨v,U,XP.keeps l _ _ G (KP hd.1 E) hx⟩
   | false=>exact XO.mono (λv w' hx=>⟨hx.1,XP.keeps l _ _ G (KP hd.1 E) hx.2⟩) h
theorem XF.keeps {D:List (Nat×Nat)}{G:Fr}:∀(l:List (Nat×Bool)) (own:LN) (f:Fr) (w:World),Yn all D l=true→(∀t,Xk D t=false→f t=G t)→XF P all C K l own f w→XF P all C (λH w'=>(∀t,Xk D t=false→H t=G t)∧K H w') l own f w
 | [],own,f,w,_,E,h=>⟨E,h⟩
 | (j,true)::l,own,f,w,hd,E,h=>by
  simp only[Yn,List.all_cons,Bool.and_eq_true]at hd;obtain⟨I,v,J,hx⟩:=h;exact⟨I,v,J,XF.keeps l own _ _ hd.2 (KP hd.1 E) hx⟩
 | (j,false)::l,own,f,w,hd,E,h=>by
  simp only[Yn,List.all_cons,Bool.and_eq_true]at hd;refine⟨h.1,λU h1 hc=>XO.mono (λv w' hx=>?_) (h.2 U h1 hc)⟩;obtain⟨V,own',Y,ha,hx⟩:=hx;exact⟨V,own',Y,ha,XF.keeps l own' _ _ hd.2 (KP hd.1 E) hx⟩
theorem Qkl {ro:Option Nat}{m:Nat}{ds:LN}{Q:Exit→LN→Fr→World→Prop}{id:Nat}{α:Type}(C:World→Prop)(pre l:List (Nat×Bool))(i d:Nat)(rest:List (Nat×Bool))(own:LN)(D Dc:List (Nat×Nat))(S:α→List (Nat×Value))(I:α→World→Prop)(Φ:Value→World→Prop)(hm:P.follows .mixedOrders=true)(J:Xn n all=true)(U:QbV all=true)
  (hp:Qi6 all pre l i rest=true) (G:(Yn all D pre && Yn all D l && Yn all Dc l)=true) (hd:(QL all i).dst=some d) (hC:C { w with drawn:=w.drawn+1 }) (V:∀b∈own,b<w.heap.size)
  (stab:∀v (own:LN) w w',Φ v w→Step own w w'→(∀b∈ow v,b∉own)→Φ v w') (mono:∀z w w',I z w→Step [] w w'→I z w')
  (fin:∀z g w v,I z w→C w→Φ v w→XP P all C (λf w=>Q .normal ds f w) rest (QW (VA (S z) (mix D f g)) (some d) v) w)
  (h:XP P all C (λf1 _=>(∀g w,C w→XO P (QL all i) (mix Dc f1 g) w λE w'=>Step [] w w'∧C w'∧Φ (E d) w'∧∀b∈ow (E d),w.heap.size≤b∧b<w'.heap.size)∧XF P all C (λE w'=>∃z,YV E (S z)∧I z w') l own f1 { w with drawn:=w.drawn+1 }) pre f { w with drawn:=w.drawn+1 }):WG ro m P n (.region id all.toArray true) Q ds f w:=by
 rw[Lt,Lt]at G;refine QmW C pre l i d rest own (λE w'=>(∀t,Xk D t=false→E t=f t)∧∃z,YV E (S z)∧I z w') Φ Dc hm J U hp G.2 hd hC V ?_;refine XP.keeps_mono _ _ _ (XP.keeps pre f _ G.1.1 (λ_ _=>O) h) (λf1 w1 hx=>⟨⟨stab,?_,?_,?_⟩,XF.keeps l own _ _ G.1.2 hx.1 hx.2.2⟩)
 ·intro E w' hk H;have:=hx.2.1 E w' H;rw[Xg hk]at this;exact this
 ·rintro E w' ⟨hk,z,hs,hi⟩ v H Y;have:=fin z E w' v hi H Y;rw[Xg hk,Yv hs]at this;exact this
 rintro E w' hb ⟨hk,z,hs,hi⟩ ha;exact⟨hk,z,hs,mono z _ _ hi ha⟩
theorem fp {j:Nat}{l:List (Nat×Bool)}{own:LN}{v:Value}(E:∀w',(execOp (ev f) (QL all j)).run P w'=.ok (.value v) w')(h:XF P all C K l own (QW f (QL all j).dst v) w)
  (G:Yd all f (QL all j)=true:=by rfl):XF P all C K ((j,true)::l) own f w:=⟨G,v,λw' _=>E w',h⟩
theorem fk {j:Nat}{l:List (Nat×Bool)}{own:LN}(h:∀w1,Step [] w w1→C w1→XO P (QL all j) f w1 λE w'=>C w'∧∃own',Step own w1 w'∧(∀b∈own',b∈own∨(w1.heap.size≤b∧b<w'.heap.size))∧XF P all C K l own' E w')
  (G:Yd all f (QL all j)=true:=by rfl):XF P all C K ((j,false)::l) own f w:=⟨G,h⟩
theorem fe {own:LN}(h:K f w):XF P all C K [] own f w:=h
end
attribute [irreducible] XF
end Go.Lg
namespace Go.Proofs.YtjcgijbhaemldaaGreatDoor
open Go.Proofs.Tryz
open Go.Lg
instance:Bw prog 115 [nS,.int .i64 0,nS,nS,nS,nS,nS,nS] [(0,4),(4,1),(5,1),(6,1),(7,1)]:=⟨by kernel_rfl,by decide⟩
def spF (c:Q7)(pl:QD)(ps:List (LI))(l:List (LI)):List Rsn:=l.zipIdx.filterMap (λp=>rsn c pl (plx ps (p.1.take c.co.length)) p.2 p.1)
theorem Qhx {c:Q7}{pl:QD}{ps:List (LI)}{l:List (LI)}{k:Nat}(h:k<l.length):spF c pl ps (l.take (k+1))=spF c pl ps (l.take k)++(rsn c pl (plx ps ((l[k]'h).take c.co.length)) k (l[k]'h)).toList:=by
 unfold spF;rw[Li h,List.zipIdx_append,List.filterMap_append];have e:0+(l.take k).length=k:=by rw[LC];omega
 rw[e];simp only[List.zipIdx_cons,List.zipIdx_nil,List.filterMap_cons,List.filterMap_nil];cases rsn c pl (plx ps ((l[k]'h).take c.co.length)) k (l[k]'h) <;> rfl
theorem QeC (c:Q7)(pl:QD)(ps:List (LI))(l:List (LI)):(spF c pl ps l).length≤l.length:=by
 unfold spF;refine LL (List.length_filterMap_le _ _) ?_;rw[List.length_zipIdx];exact Lu _
theorem Qdn {c:Q7}{pl sa:QD}{ps ts:List (LI)}(hp:sync (auts c.co)=some (pl,ps))(hs:sync (auts c.co++auts c.rq)=some (sa,ts)):
  spc c=⟨sa,ts.map (·.take c.co.length),ts.map (·.drop c.co.length),ts.map (λt=>plx ps (t.take c.co.length)),spF c pl ps ts⟩:=by
 unfold spc yI Jo;rw[hp,hs];simp only[];rw[jc];simp[spF]
theorem QjM {n:Nat}{u:LI}{s:List ByteArray}{x:Yk}(h:Yh n u s x=0):x.a.st≠0:=by
 unfold Yh at h;split at h
 ·cases h
 split at h
 ·cases h
 split at h
 ·rename_i h1 h2;exact absurd h h2
 split at h
 ·cases h
 split at h
 ·cases h
 assumption
theorem QcI {n:Nat}{al:LI}:∀{l:List Yk}{s:List ByteArray}{u:LI},(Ym n al s u l).1=0→∀x∈l,x.a.st≠0
 | [],_,_,_,x,hx=>by cases hx
 | y::l,s,u,h,x,hx=>by
  rw[VK]at h;by_cases h1:Yh n al s y≠0
  ·rw[if_pos h1]at h;exact absurd h h1
  rw[if_neg h1]at h;have h2:Yh n al s y=0:=Ln.1 h1;rcases Le.1 hx with rfl|hx
  ·exact QjM h2
  exact QcI h x hx
theorem QjN {c:Q7}(h:Zi c=0):∀x∈c.co,x.a.st≠0:=by
 unfold Zi at h;by_cases h1:Js c.ev≠0
 ·rw[if_pos h1]at h;exact absurd h h1
 rw[if_neg h1]at h;by_cases h2:c.co.length=0
 ·rw[if_pos h2]at h;cases h
 rw[if_neg h2]at h;by_cases h3:8<c.co.length∨12<c.co.length+c.rq.length
 ·rw[if_pos h3]at h;cases h
 rw[if_neg h3]at h;by_cases h4:(Ym c.ev.length (KB c.ev.length) [] [] c.co).1≠0
 ·rw[if_pos h4]at h;exact absurd h h4
 exact QcI (Ln.1 h4)
theorem Qh2 {c:Q7}(h:Zi c=0){A:QD}{Q:List (LI)}(hs:sync (auts c.co)=some (A,Q)):QO A∧A.st=(Q.length:Int)∧0<Q.length∧∀e∈A.al,0≤e∧e<(c.ev.length:Int):=by
 have E:=Z9 h;have G:=Xz E.co;have hsp:=YE G hs;refine⟨hsp.1.okay G,hsp.1.st,?_,λe he=>?_⟩
 ·refine Nat.pos_of_ne_zero λH=>?_;obtain⟨a,ha,h1⟩:=hsp.2.1 H;obtain⟨x,hx,rfl⟩:=Lq.1 ha;exact QjN h x hx h1
 rw[hsp.1.al]at he;obtain⟨a,ha,h1⟩:=(ZO G e).1 he;obtain⟨x,hx,rfl⟩:=Lq.1 ha;exact⟨((E.co x hx).al e h1).1,E.ce x hx e h1⟩
theorem QnW {Q:List (LI)}(h:0<Q.length)(t:LI):0≤plx Q t∧plx Q t<(Q.length:Int):=by
 unfold plx;split
 ·rename_i hm;have:=LS hm;omega
 omega
theorem Vt.take {a b:List QD}{t:LI}(h:Vt (a++b) t):Vt a (t.take a.length):=by
 have hl:=h.1;rw[Lj]at hl;refine⟨by rw[LC];omega,λi h1 h2=>?_⟩;have:=h.2 i (by omega) (by rw[Lj];omega);rw[LZ h2]at this;rw[Nb];exact this
theorem Vt.drop {a b:List QD}{t:LI}(h:Vt (a++b) t):Vt b (t.drop a.length):=by
 have hl:=h.1;rw[Lj]at hl;refine⟨by rw[Mw];omega,λi h1 h2=>?_⟩;have:=h.2 (a.length+i) (by omega) (by rw[Lj];omega);rw[MM (by omega)]at this;rw[List.getElem_drop];simpa using this
theorem Vt.tpOk {l:List Yk}{t:LI}(h:Vt (auts l) t):QmR (szs l) t:=by
 have hl:=h.1;unfold auts at hl;rw[Lh]at hl;refine⟨by unfold szs;rw[Lh];exact hl,λi hi=>?_⟩;have h1:=h.2 i hi (by unfold auts;rw[Lh];omega);have E:i<(szs l).length:=by unfold szs;rw[Lh];omega
 rw[←Q8 hi,←Q8 E];unfold auts szs at *;simpa using h1
theorem J6.add {base G T:Nat}{W H I J:World}{U V Y E v' c0 c1 c2 c3:Value}{cos rqs:List TV}{pls:LI}{fbs:List Rsn}{q:Rsn}(hB:QT W.heap G T [c0,c1,c2,c3,U,V,Y,E])(hS:J6 base W U V Y E cos rqs pls fbs)(ha:G<base)(h1:Step [] W H)
  (ho:I.ownsRow base 190 4 v' (fbs.length+1) (fbs.flatMap YF++YF q)) (h2:Step (ob E) H I) (hn:∀b∈ob v',b∈ob E∨H.heap.size≤b) (h3:Step [G] I J):
  Step (G::ob E) W J∧J6 base J U V Y v' cos rqs pls (fbs++[q])∧(∀x∈G::ob E,∃o:Obj,W.heap[x]?=some o∧o.isCells=true):=by
 refine⟨((h1.any).trans' (h2.mono λx hx=>Lk _ hx)).trans' (h3.mono λx hx=>?_),(hS.a4 h1 ho h2 hn).low h3 (λx hx=>?_),λx hx=>?_⟩
 ·simp only[List.mem_singleton]at hx;subst hx;exact Lm
 ·simp only[List.mem_singleton]at hx;subst hx;exact ha
 rcases Le.1 hx with rfl|hx
 ·exact hB.cells
 exact Go.Lg.Zp hS.o4 x hx
set_option maxHeartbeats 40000000 in
theorem Qec {L:LN}{w:World}{c:CL}(h0:ZQ L w.heap c)(mv:Kb w 4096):
  QH prog 90 [c.val] w λr w'=>Step [] w w'∧∃v,r=.tuple #[v,.int .i64 (Xa c.cel)]∧(∃us,v=.agg us.toArray∧us.length=8∧ZM us)∧(Xa c.cel=0→Qq1 w.heap.size w'.heap v (spc c.cel)):=by
 have h:=h0.up (L':=[]) (by simp);refine Zj (Xa c.cel) λE hE=>?_;refine QH.of_G 20 func90 O ntmps90 results90 (by simp) ?_;refine Q2<|QK (by rfl) (by rfl) ?_;refine xl rfl<|QR (us:=c.cells) O λb1 w1 hH hb1 mw=>xl O<|Qu (us:=[nS,.int .i64 0,nS,nS,nS,nS,nS,nS]) O λb2 w2 hA hb2 gz=>Qf ?_;have kh:=hH.trans hA;have my:=mw.lt;have ki:=gz.lt;have mz:=mw.ext hA
 refine Q2<|QK (by rfl) (by rfl) ?_;refine x (Qo mz O O)<|xl O<|xf<|(QjU (h.ext kh) (mv.ext kh)).mono ?_;rintro r3 w3 ⟨h5,vp,rfl,z2,m0⟩;rw[hE]at z2 m0 ⊢;have m1:=kh.trans h5;refine Qb<|x (Qj O O)<|x (Qj O O)<|x Qe<|Qf<|Q2<|Q2<|QK (by rfl) (by rfl) ?_;refine Qb<|x (Q6 O O)<|xe<|Qo7 O (λkj=>?_) (λkj=>?_)
 ·refine Q2<|QK (by rfl) (by rfl) ?_
  refine x (ZD [] Z)<|Qb<|xl O<|Qn (us:=[nS,.int .i64 0,nS,nS,nS,nS,nS,nS]) (gz.ext h5) O O O O ⟨O,O,O,O,O,O,O,O,Z⟩ λw4 hM z3=>Qf<|K7 ⟨λ_ h=>(by cases h),ME,[.agg [nS,.int .i64 0,nS,nS,nS,nS,nS,nS].toArray,.int .i64 E],λW' hN=>⟨⟨⟨_,rfl,Qx rfl ((z3.ext hN).at (L:=[]) (by simp)).cells⟩,rfl,Z⟩,(m1.then1 hM (by omega)).trans hN,_,rfl,⟨_,rfl,rfl,rfl,rfl,rfl,rfl,rfl,rfl,rfl,rfl,Z⟩,λe=>absurd e kj⟩⟩
 have m2:E=0:=Ln.1 kj;obtain⟨b,q,rfl,rfl,hQ,ho,z4⟩:=m0 m2;refine Yj<|Q2<|QK (by rfl) (by rfl) ?_;refine Qb<|x (QE O)<|x (Qa O)<|x (ZG (us:=Zc q.s) ho.B O O O)<|x (ZD [(0,Zc q.s)] ⟨O,O,Z⟩)<|xl O<|Qu (us:=[nS,.int .i64 0,nS,nS,nS,nS,nS,nS]) O λG w5 hU kk h6 =>
  xl rfl<|Qn (us:=[q.s.va,.int .i64 q.s.a.st,q.s.vm,q.s.ve,nS,nS,nS,nS]) h6 O O O O ⟨ho.s.al.one,O,ho.s.mr.one,ho.s.ed.one,O,O,O,O,Z⟩ λH g0 h6=>xe ?_
 have m3:Step [] w3 H:=hU.then1 g0 kk;have kn:=h6.lt;have m4:=ho.ext m3;have hz3:=h5.size;refine Q2<|Q2<|QK (by rfl) (by rfl) ?_;refine Qb<|x (QE O)<|x (Qa O)<|x (Qd m4.B O O)<|x (Qr m4.ts.arr O)<|Qb<|xe ?_;have m5:=(j5 (λa ha=>by
  rcases Lo.1 ha with ha|ha
  ·exact Xz (Z9 hQ.ok).co a ha
  exact Xz (Z9 hQ.ok).rq a ha) hQ.s)
 have ko:=m5.1;have m6:=m5.2;simp only[]at ko m6;have hY:=Z9 hQ.ok;have hckc:=hY.c8;have hZ:q.c.cel.co.length=q.c.co.length:=Lh ..;have z5:q.c.cel.rq.length=q.c.rq.length:=Lh ..;have hcr:=hY.cr;have z9:(auts q.c.cel.co++auts q.c.cel.rq).length=q.c.co.length+q.c.rq.length:=by rw[Lj];unfold auts;rw[Lh,Lh,hZ,z5]
 refine Zj (q.ts.map (·.2)) λT hT=>?_;rw[hT]at ko m6;have hTn:q.ts.length=T.length:=by rw[←hT,Lh]
 refine ZS<|VP (α:=Nat×(Value×Value×Value×Value)×List TV×List TV×LI) [(7,17),(37,99),(100,118)] (λz=>[(37,.int .i64 z.1)]) (λz ds W'=>z.1≤q.ts.length∧Step [G] H W'∧Vq H.heap.size W'.heap.size ds W'∧QT W'.heap G 115 [q.s.va,.int .i64 q.s.a.st,q.s.vm,q.s.ve,z.2.1.1,z.2.1.2.1,z.2.1.2.2.1,z.2.1.2.2.2] ∧
  J6 H.heap.size W' z.2.1.1 z.2.1.2.1 z.2.1.2.2.1 z.2.1.2.2.2 z.2.2.1 z.2.2.2.1 z.2.2.2.2 (spF q.c.cel q.p.a (q.qs.map (·.2)) (T.take z.1))∧z.2.2.1.map (·.2)=(T.take z.1).map (·.take q.c.co.length)∧z.2.2.2.1.map (·.2)=(T.take z.1).map (·.drop q.c.co.length)∧z.2.2.2.2=(T.take z.1).map (λt=>plx (q.qs.map (·.2)) (t.take q.c.co.length)))
  (λz=>q.ts.length - z.1) (by rfl) (0,(nS,nS,nS,nS),[],[],[]) La
  ⟨Ll _,Step.refl _ _,⟨ME,λD hD=>by cases hD⟩,h6,J6.nil _ _,rfl,rfl,rfl⟩ ?_
 rintro⟨k,⟨v1,v2,v3,I⟩,cos,rqs,pls⟩ g ds w7 ⟨hk,kp,m7,kq,J,gh,gi,gj⟩;simp only[]at hk kq J gh gi gj;have gk:Step [] w3 w7:=m3.then1 kp kk;have m8:=m1.trans gk;have hz7:=kp.size;have g1:(T.take k).length=k:=by rw[LC];omega
 have hcosl:cos.length=k:=by have:=congrArg List.length gh;rw[Lh,Lh,g1]at this;exact this
 have hrqsl:rqs.length=k:=by have:=congrArg List.length gi;rw[Lh,Lh,g1]at this;exact this
 have hplsl:pls.length=k:=by rw[gj,Lh,g1]
 have m9:=QeC q.c.cel q.p.a (q.qs.map (·.2)) (T.take k);rw[g1]at m9;refine Zj (spF q.c.cel q.p.a (q.qs.map (·.2)) (T.take k)) λfbs g2=>?_;rw[g2]at J m9;refine Zj (ob v1++(ob v2++(ob v3++ob I))) λav gl=>?_;have ga:∀x∈av,H.heap.size≤x∧x<w7.heap.size:=λx hx=>by
  rw[←gl]at hx;rcases QbZ hx with h1|h1|h1|h1
  ·exact Qq J.o1 x h1
  ·exact Qq J.o2 x h1
  ·exact Qq J.o3 x h1
  exact Qq J.o4 x h1
 have g3:G∉av:=λhm=>by have:=(ga G hm).1;omega
 have kr:∀x∈av,x∈G::av:=λx hx=>Lk _ hx;have g4:K3 (G::av) b w7.heap q:=(ho.up (λx hx=>.inr (by
  rcases Le.1 hx with rfl|hx
  ·exact kk
  have:=(ga x hx).1;omega))).ext gk
 refine Q2<|QK (by rfl) (by rfl) ?_;refine x (QA O O)<|xe<|Q2<|yx O (λpa=>?_) (λpa=>?_)
 ·refine Kp ?_;rw[Lp (by omega)]at gh gi gj g2;have hsp:=Qdn hQ.p hQ.s;rw[hT,hZ,←gh,←gi,←gj,g2]at hsp;have pc:=h5.trans gk;refine Q2<|QK (by rfl) (by rfl) ?_
  refine x (Qo kq O O)<|xl O<|Qn (us:=[q.s.va,.int .i64 q.s.a.st,q.s.vm,q.s.ve,v1,v2,v3,I]) (gz.ext pc) O O O O ⟨ho.s.al.one,O,ho.s.mr.one,ho.s.ed.one,QQ J.o1,QQ J.o2,QQ J.o3,QQ J.o4,Z⟩ λw8 g5 hB8=>Qf ?_;have hb2w:b2<H.heap.size:=by omega
  have gm:Vq H.heap.size w7.heap.size ds w8:=m7.blk g5 (gz.ext pc);have hb2d:b2∉ds:=λhm=>by have:=(gm.2 b2 hm).1;omega
  have hS8:=J.low g5 (λx hx=>by simp only[List.mem_singleton]at hx;subst hx;exact hb2w);refine K7 ⟨λD hD=>(gm.2 D hD).2.2,gm.1,[.agg [q.s.va,.int .i64 q.s.a.st,q.s.vm,q.s.ve,v1,v2,v3,I].toArray,.int .i64 E],λW' hN=>?_⟩;have g6:Lg.Ju [] w8 W':=Lg.Ju.nonc hN (λD hD=>⟨_,(gm.2 D hD).2.2,O⟩);have gb:=hN.size;have h7:=hS8.cst g6 gb
  refine⟨⟨⟨_,O,Qx O ((hB8.step hN hb2d).at (L:=[]) (by simp)).cells⟩,congrArg (Value.int .i64) m2.symm,Z⟩,(m8.then1 g5 (by omega)).then hN (λD hD=>.inr (by have:=(gm.2 D hD).1;omega)),_,O,⟨_,O,O,ho.s.al.one,O,ho.s.mr.one,ho.s.ed.one,QQ J.o1,QQ J.o2,QQ J.o3,QQ J.o4,Z⟩,λ_=>?_⟩;have hl9:pls.length≤1099511627776:=by omega
  have hl8:fbs.length≤1099511627776:=by omega
  rw[hsp];refine⟨q.s.va,q.s.vm,q.s.ve,v1,v2,v3,I,cos,rqs,O,O,O,λL hL=>⟨?_,⟨QV h7.o1 (by omega) (λx hx hm=>?_),λp hp=>h7.e1 p hp L (λx hx=>?_)⟩,⟨QV h7.o2 (by omega) (λx hx hm=>?_),λp hp=>h7.e2 p hp L (λx hx=>?_)⟩,QV h7.o3 hl9 (λx hx hm=>?_),QV h7.o4 hl8 (λx hx hm=>?_)⟩⟩
  ·have h1:=((z4 (b2::L) (λx hx=>by
    rcases Le.1 hx with rfl|hx
    ·exact ki
    have:=hL x hx;omega)).1.ext gk).st (g5.mono (λx hx=>by simp only[List.mem_singleton]at hx;subst hx;exact Lm))
   have h2:=h1.up (L':=L) (λx hx=>.inl (Lk _ hx));exact⟨h2.al.cst (g6.mono (by simp)) gb,h2.mr.cst (g6.mono (by simp)) gb,h2.ed.cst (g6.mono (by simp)) gb⟩
  ·have:=(Qq h7.o1 x hx).1;have:=hL x hm;omega
  ·exact .inl (by have:=hL x hx;omega)
  ·have:=(Qq h7.o2 x hx).1;have:=hL x hm;omega
  ·exact .inl (by have:=hL x hx;omega)
  ·have:=(Qq h7.o3 x hx).1;have:=hL x hm;omega
  have:=(Qq h7.o4 x hx).1;have:=hL x hm;omega
 have gn:k<q.ts.length:=by have h39:(k:Int)<(q.ts.length:Int):=pa;omega
 have gq:k<T.length:=by omega
 have pd:=Lc gn;have hTe:T[k]'gq=(q.ts[k]'gn).2:=by subst hT;simp
 have hq:=Qhx (c:=q.c.cel) (pl:=q.p.a) (ps:=q.qs.map (·.2)) gq;have gr:T.take (k+1)=T.take k++[T[k]'gq]:=Li gq;have gc:=ko _ (Lc gq);rw[g2]at hq;rw[hTe]at hq gr gc;refine Yj ?_
 refine Qnm (α:=(Value×Value×Value×Value)×List TV×List TV×LI) [(7,17),(38,117)] (λz=>[(37,.int .i64 k)]) (λz hO W'=>Step [G] H W'∧Vq H.heap.size W'.heap.size hO W'∧QT W'.heap G 115 [q.s.va,.int .i64 q.s.a.st,q.s.vm,q.s.ve,z.1.1,z.1.2.1,z.1.2.2.1,z.1.2.2.2] ∧
  J6 H.heap.size W' z.1.1 z.1.2.1 z.1.2.2.1 z.1.2.2.2 z.2.1 z.2.2.1 z.2.2.2 (spF q.c.cel q.p.a (q.qs.map (·.2)) (T.take (k+1)))∧z.2.1.map (·.2)=(T.take (k+1)).map (·.take q.c.co.length)∧z.2.2.1.map (·.2)=(T.take (k+1)).map (·.drop q.c.co.length)∧z.2.2.2=(T.take (k+1)).map (λt=>plx (q.qs.map (·.2)) (t.take q.c.co.length))) (by rfl) ?_ ?_
 rotate_left
 ·rintro⟨⟨u1,u2,u3,u4⟩,cos',rqs',pls'⟩ g hO W ⟨hsW,hDW,hBW,hSW,h1,h2,h3⟩;refine QK (by rfl) (by rfl) ?_;refine QP O O<|Qb<|xe ?_;exact⟨(k+1,(u1,u2,u3,u4),cos',rqs',pls'),by simp only[];omega,La,gn,hsW,hDW,hBW,hSW,h1,h2,h3⟩
 refine ZS<|Q2<|QK (by rfl) (by rfl) ?_;refine Qb<|xig (g:=Z7) j0 g4.ts.arr O O gn λa40 pf=>?_;refine Zj (q.ts[k]'gn) λt ht=>?_;rw[ht]at pf pd hq gr gc;have htI:=g4.ts.each t pd;have htl:t.2.length=q.c.co.length+q.c.rq.length:=by rw[gc.1,z9]
 refine x (Qv pf O)<|xl O<|Qu (us:=[.int .i64 0]) O λb7 w9 hs9 hb7 hB9=>xl O<|QF (j:=0) (u:=.int .i64 k) hB9 O O (by decide) O λw10 hs10 hB10 =>
  Qf ?_
 have kt:Step [] w7 w10:=hs9.then1 hs10 hb7;refine Q2<|QK (by rfl) (by rfl) ?_;refine Qb<|Qb<|xl O<|xf<|(Qhv (g4.ext kt) (htI.ext kt) (by omega)).mono ?_;rintro r11 pg ⟨ph,v9,pj,rfl,hI,hr⟩;refine Qb<|x (Qj O O)<|x (Qj O O)<|x Qe<|Qf ?_;have ku:=kt.trans ph;have kv:=g4.ext ku;refine Zj (t.2.take q.c.co.length) λtc hR=>?_
 refine Zj (t.2.drop q.c.co.length) λtr gs=>?_;rw[hZ]at hq;rw[hR]at hI hq;rw[gs]at hr;have htcl:tc.length=q.c.co.length:=by rw[←hR,LC];omega
 have htrl:tr.length=q.c.rq.length:=by rw[←gs,Mw];omega
 have hbdt:=gc.bd (m:=4096) (λa ha=>by
  rcases Lo.1 ha with ha|ha
  ·exact(Xz hY.co a ha).st1
  exact(Xz hY.rq a ha).st1)
 have pn:∀x∈tc,0≤x∧x<4096:=λx hx=>hbdt x (L2 (by rw[hR];exact hx));refine Q2<|Qbf (Step [] pg) [(0,true),(1,true),(2,true),(3,true),(4,true),(5,false),(6,true),(7,true)] mixed (by rfl) (by rfl) (by kernel_rfl) (Step.drew _ _) ?_
 refine p (λ_=>Qk)<|p (λ_=>QE O)<|p (λ_=>Qa O)<|pq (λ_ hc=>Qd (kv.B.ext hc) O O)<|p (λ_=>Qk)<|pk<|xf<|(QfL (hI.ext (Step.drew _ _)) ((mv.ext (m8.trans ku)).ext (Step.drew _ _)) pn (by omega)).mono ?_;rintro r12 Y ⟨rfl,hs12⟩;have ge:=(Step.drew [] pg).trans hs12;refine⟨ge,?_⟩
 have po:(match mget q.mm (Vr tc)with|some u=>u|none=>.int .i64 0)=Value.int .i64 (plx (q.qs.map (·.2)) tc):=by
  rw[hQ.m tc htcl (λx hx=>(pn x hx).1)];unfold plx;by_cases hm:tc∈q.qs.map (·.2)
  ·rw[if_pos hm,if_pos hm]
  rw[if_neg hm,if_neg hm]
 refine Zj (plx (q.qs.map (·.2)) tc) λpi kw=>?_;rw[kw]at po hq;refine pq (λ_ hc=>(JX (k:=Vr tc) (kv.m.ext hc) O O).trans (congrArg (λv=>Result.ok (Next.value v) _) po))<|p (λ_=>Qe)<|pe ?_;have gg:=ku.trans ge;have hI:=hI.ext ge;have hr:=hr.ext ge;have h6:=kq.ext gg;have gt:=J.ext gg;have hS12d:=gt.ext (Step.drew [] Y);have hz712:=gg.size
 have hzd:({ Y with drawn:=Y.drawn+1 }:World).heap.size=Y.heap.size:=rfl
 have hC0:Step av Y { Y with drawn:=Y.drawn+1 }:=Step.drew _ _
 have fin:∀{hf hg hj hh hi:Value} {wx wy:World},Step av Y wx→J6 H.heap.size wx hf hg hj I (cos++[(hh,tc)]) (rqs++[(hi,tr)]) (pls++[pi]) fbs→Step [G] wx wy→QT wy.heap G 115 [q.s.va,.int .i64 q.s.a.st,q.s.vm,q.s.ve,hf,hg,hj,I] →
   Step (G::av) Y wy∧QT wy.heap G 115 [q.s.va,.int .i64 q.s.a.st,q.s.vm,q.s.ve,hf,hg,hj,I]∧J6 H.heap.size wy hf hg hj I (cos++[(hh,tc)]) (rqs++[(hi,tr)]) (pls++[pi]) fbs:=λhC hP hs hB =>
  ⟨(hC.mono kr).trans' (hs.mono (λx hx=>by simp only[List.mem_singleton]at hx;subst hx;exact Lm)),hB,hP.low hs (λx hx=>by simp only[List.mem_singleton]at hx;subst hx;exact kn)⟩
 have hkl:k≤4096:=by omega
 have htr16:tr.length≤16:=by omega
 have htc40:tc.length≤1099511627776:=by omega
 have htr40:tr.length≤1099511627776:=by omega
 have my:cos.length+1≤1099511627776:=by omega
 have ki:rqs.length+1≤1099511627776:=by omega
 have hl3:pls.length+1≤1099511627776:=by omega
 have gu:H.heap.size≤Y.heap.size:=by omega
 refine Qnm (α:=Value×Value×Value×Value×Value) [(55,74)] (λ_=>[]) (λz hO w'=>hO=ds∧Step (G::av) Y w'∧QT w'.heap G 115 [q.s.va,.int .i64 q.s.a.st,q.s.vm,q.s.ve,z.1,z.2.1,z.2.2.1,I]∧J6 H.heap.size w' z.1 z.2.1 z.2.2.1 I (cos++[(z.2.2.2.1,tc)]) (rqs++[(z.2.2.2.2,tr)]) (pls++[pi]) fbs) (by rfl) ?_ ?_
 ·refine Qkl (α:=Value×Value×Value×Value) (Step av Y) [(0,true),(1,true),(2,true),(6,true),(7,true),(8,true),(12,true),(13,true),(14,true)] [(3,false),(4,false),(5,false),(17,true),(9,false),(10,false),(11,false)] 15 70
   [(16,false),(18,false),(19,true),(20,false),(21,true),(22,false)] av [(55,74)] [(58,60),(64,66),(72,72)] (λz=>[(60,z.1),(66,z.2.1),(68,v3),(72,.pointer (some ⟨G,4,none⟩))]) (λz w'=>Step av Y w'∧J6 H.heap.size w' z.1 z.2.1 v3 I (cos++[(z.2.2.1,tc)]) (rqs++[(z.2.2.2,tr)]) pls fbs)
   (λv w'=>∃b,v=.slice (some ⟨b,0,none⟩) 1 1∧QT w'.heap b 3 [.int .i64 pi]) mixed (by rfl) (by rfl) (by kernel_rfl) (by rfl) O hC0 (λx hx=>Ma (ga x hx).2 hz712) ?_ ?_ ?_ ?_
  ·rintro v own w w' ⟨b,rfl,hB⟩ hs hn;exact⟨b,O,hB.step hs (hn b (by simp[ow]))⟩
  ·rintro z w w' ⟨h1,h2⟩ hs;exact⟨h1.trans hs,h2.ext hs⟩
  ·rintro⟨hf,hg,hh,hi⟩ g wz v ⟨pp,hP⟩ _ ⟨b15,rfl,g7⟩;simp only[]at hP;have hcz:=pp.size;refine pk<|Q4 (news:=[.int .i64 pi]) (L:=[]) hP.o3 O O O (g7.at (by simp)) (by simp[Value.oneCell']) hl3 (LL gu hcz) λhj y1 g8 hH hn1=>?_;have Q1:=J6.a3 (q:=pi) hP (Step.refl [] _) g8 hH hn1
   have kx:Step av Y y1:=pp.trans' (hH.mono (λb hb=>by rw[←gl];exact zG (.inr (.inr (.inl hb)))));refine⟨kx,?_⟩;refine pkl (hl:=by kernel_rfl)<|QF (j:=4) (u:=hf) (h6.step kx g3) O O (by simp) (QQ Q1.o1) λy2 hA kz=>p (λ_=>Qa rfl) <|
    pkl (hl:=by kernel_rfl)<|QF (j:=5) (u:=hg) kz O O (by simp) (QQ Q1.o2) λy3 h5 hB3'=>p (λ_=>Qa rfl) <|
    pkl (hl:=by kernel_rfl)<|QF (j:=6) (u:=hj) hB3' O O (by simp) (QQ Q1.o3) λy4 hM hB4'=>pe ?_
   exact⟨(hf,hg,hj,hh,hi),Z,O,fin kx Q1 ((hA.trans' h5).trans' hM) hB4'⟩
  refine p (λ_=>Qa O)<|pq (λ_ hc=>Qd (h6.step hc g3) O O)<|p (λ_=>Qk)<|p (λ_=>Qa O)<|pq (λ_ hc=>Qd (h6.step hc g3) O O)<|p (λ_=>Qk) <|
   p (λ_=>Qa O)<|pq (λ_ hc=>Qd (h6.step hc g3) O O)<|p (λ_=>Qk)<|pe ⟨λg wf hCf=>QG (us:=[[.int .i64 pi]]) O O (by decide) (by simp) ⟨rfl,rfl,Z⟩ λb wf' pt hbf pu=>⟨pt,hCf.trans pt,⟨b,rfl,pu⟩,λx hx=>?_⟩,?_⟩
  ·have hxe:x=b:=by
    have hx':x∈[b]:=hx;simpa using hx'
   subst hxe;exact⟨hbf,pu.lt⟩
  have pw:∀{X:LN},(∀x∈X,x∈ob v1∨x∈ob v2)→∀x∈X,x∈av:=λhX x hx=>by rw[←gl];exact zG ((hX x hx).imp id .inl)
  refine fk λx1 p1 c1=>xf<|(Yt (hI.step c1 kr)).mono ?_;rintro hh y1 ⟨hH,g8⟩;have P1:=hS12d.ext p1;have pb1:=LL gu c1.size;refine⟨c1.trans hH,av,hH.any,λb hb=>.inl hb,?_⟩;refine fk λx2 p2 c2=>QG (us:=[[hh]]) O O (by decide) (by simp) ⟨Zp g8,rfl,Z⟩ λb2' y2 hA hb2' kz=>⟨c2.trans hA,av,hA.any,λb hb=>.inl hb,?_⟩;refine fk λx3 p3 c3=>?_
  have pz:=((hH.trans p2).trans hA).trans p3;have p0:=Qs g8 ((p2.trans hA).trans p3);refine Q4 (news:=[hh]) (L:=[]) (Qs P1.o1 pz) O O O ((kz.ext p3).at (by simp)) (λu hu=>by rw[List.mem_singleton]at hu;subst hu;exact QQ p0) my (LL gu c3.size) λhf y3 ho4 h5 hn3=>?_;have P2:=J6.a1 (q:=(hh,tc)) P1 pz p0 htc40 (Lu _) pb1 ho4 h5 hn3
  have p7:Step av x3 y3:=h5.mono (pw λx hx=>.inl hx);refine⟨c3.trans' p7,av,p7,λb hb=>.inl hb,?_⟩;refine fp (λ_=>Qa O) ?_;refine fk λx4 p4 c4=>xf<|(Yt (hr.step c4 kr)).mono ?_;rintro hi y4 ⟨hM,p8⟩;have P3:=P2.ext p4;have pb3:=LL gu c4.size;refine⟨c4.trans hM,av,hM.any,λb hb=>.inl hb,?_⟩
  refine fk λx5 p5 c5=>QG (us:=[[hi]]) O O (by decide) (by simp) ⟨Zp p8,rfl,Z⟩ λb5' y5 hU hb5' hB5'=>⟨c5.trans hU,av,hU.any,λb hb=>.inl hb,?_⟩;refine fk λx6 p6 c6=>?_;have p9:=((hM.trans p5).trans hU).trans p6;have qc:=Qs p8 ((p5.trans hU).trans p6)
  refine Q4 (news:=[hi]) (L:=[]) (Qs P3.o2 p9) O O O ((hB5'.ext p6).at (by simp)) (λu hu=>by rw[List.mem_singleton]at hu;subst hu;exact QQ qc) ki (LL gu c6.size) λhg y6 ho7 g0 hn6=>?_;have P4:=J6.a2 (q:=(hi,tr)) P3 p9 qc htr40 (Lu _) pb3 ho7 g0 hn6;have k0:Step av x6 y6:=g0.mono (pw λx hx=>.inr hx);refine⟨c6.trans' k0,av,k0,λb hb=>.inl hb,?_⟩
  exact fe ⟨(hf,hg,hh,hi),⟨O,O,O,O,Z⟩,c6.trans' k0,P4⟩
 rintro⟨hf,hg,hj,hh,hi⟩ g hO k4 ⟨rfl,hJ,qo,qr⟩;simp only[]at qo qr;have hz13:=hJ.size;have q0:=(kv.ext ge).st hJ;have hI:=hI.st hJ;have hr:=hr.st hJ;have g9:K3 [] b k4.heap q:=q0.up (by simp);have hcell:∀x∈G::av,∃o:Obj,Y.heap[x]?=some o∧o.isCells=true:=λx hx=>by
  rcases Le.1 hx with rfl|hx
  ·exact h6.cells
  rw[←gl]at hx;rcases QbZ hx with h1|h1|h1|h1
  ·exact Go.Lg.Zp gt.o1 x h1
  ·exact Go.Lg.Zp gt.o2 x h1
  ·exact Go.Lg.Zp gt.o3 x h1
  exact Go.Lg.Zp gt.o4 x h1
 have hD13:Vq H.heap.size w7.heap.size hO k4:=((m7.up (Lu _)).ext gg).step hJ hcell;have hb7n:b7∉G::av:=λhm=>by
  rcases Le.1 hm with h1|h1
  ·omega
  have:=(ga _ h1).2;omega
 have hb1n:b1∉G::av:=λhm=>by
  rcases Le.1 hm with h1|h1
  ·omega
  have:=(ga _ h1).1;omega
 have ka:=((hB10.ext ph).ext ge).step hJ hb7n;have k5:=((mz.ext (h5.trans gk)).ext gg).step hJ hb1n;have hs613:Step [G] H k4:=(kp.trans gg).then hJ (λx hx=>by
  rcases Le.1 hx with h1|h1
  ·subst h1;exact .inl Lm
  exact .inr (ga x h1).1)
 have k6:(cos++[(hh,tc)]).map (·.2)=(T.take (k+1)).map (·.take q.c.co.length):=by rw[gr,Lx,Lx,gh,MA,MA,hR]
 have k7:(rqs++[(hi,tr)]).map (·.2)=(T.take (k+1)).map (·.drop q.c.co.length):=by rw[gr,Lx,Lx,gi,MA,MA,gs]
 have k8:pls++[pi]=(T.take (k+1)).map (λt=>plx (q.qs.map (·.2)) (t.take q.c.co.length)):=by rw[gr,Lx,gj,MA,hR,kw]
 have hVc:Vt (auts q.c.cel.co) tc:=by
  have h1:=gc.take;rw[show(auts q.c.cel.co).length=q.c.co.length by unfold auts;rw[Lh];exact hZ,hR]at h1;exact h1
 have hVr:Vt (auts q.c.cel.rq) tr:=by
  have h1:=gc.drop;rw[show(auts q.c.cel.co).length=q.c.co.length by unfold auts;rw[Lh];exact hZ,gs]at h1;exact h1
 have gv:=Qh2 hQ.ok hQ.p;have hpr:=QnW gv.2.2.1 tc;rw[kw,←gv.2.1]at hpr;have hckp:cks q.p.a pi=0:=by
  unfold cks;rw[if_neg (by rw[(Zs q.p.a).2 gv.1];decide),if_neg (by omega)]
 have hvo:=Qc1 g9.k1 g9.k2 g9.k3 (hI.up (L':=[]) (by simp)) (by rw[hQ.ex,hQ.cs];exact hY.cd) hVc.tpOk;have hw:rsn q.c.cel q.p.a pi k t.2=(match vio q.c.cel tc with|some (kd,j)=>some ⟨k,kd,j,-1⟩|none=>match rfd q.c.cel tr (qn q.p.a pi)with|some (j,v)=>some ⟨k,3,j,v⟩|none=>none):=by unfold rsn;rw[hZ,hR,gs];rfl
 rw[Qg0]at hw;rw[hQ.ex,hQ.cs]at hvo;refine Zj (yG q.c.cel.ex q.c.cel.cs tc) λV hV=>?_;rw[hV]at hvo hw;refine Q2<|Q2<|QK (by rfl) (by rfl) ?_;refine Qb<|x (QE O)<|x (Qa O)<|x (ZG (us:=[q.vs,q.vx,q.vk]) g9.B O O O)<|Qb<|xl O<|xf<|hvo.mono ?_;rintro r14 k9 ⟨h8,rfl⟩;refine Qb<|x (Qj O O)<|x (Qj O O)<|x (Qj O O)<|x (Qj O O)<|x Qe<|x Qe<|x Qe<|Qf ?_;have kb:=qo.ext h8
 have hK:=qr.ext h8;have q4:=hD13.ext h8;have q9:=hs613.trans h8;have hz14:=h8.size;have j1:fbs.length+1≤1099511627776:=by omega
 have hb014:H.heap.size≤k9.heap.size:=by omega
 have hz714:w7.heap.size≤k9.heap.size:=by omega
 refine Q2<|QK (by rfl) (by rfl) ?_;refine Qb<|xe<|K8 rfl (λma=>?_) (λma=>?_)
 ·rw[if_pos ma]at hw;simp only[]at hw;rw[hw]at hq;refine Q2<|QK (by rfl) (by rfl) ?_;refine x (Qa O)<|x (Qd kb O O)<|x (Qd (ka.ext h8) O O)<|Qb<|Qb<|x (QM ⟨O,O,O,O,Z⟩) <|
   xl rfl<|QG (us:=[YF ⟨k,V.1,V.2.1,-1⟩]) O O (by decide) (by simp) ⟨rfl,rfl,Z⟩ λb93 y1 hF hb93 mc=>?_
  have j2:=hF.size;refine xl O<|Q4 (m:=1) (news:=YF ⟨k,V.1,V.2.1,-1⟩) (L:=[]) (Qs hK.o4 hF) O O O (mc.at (by simp)) (by simp[Value.oneCell']) j1 (LL hb014 j2) λu4 y2 gx gy mf=>?_;have mg:G∉ob I:=λhm=>by have:=(Qq hK.o4 _ hm).1;omega
  refine x (Qa O)<|xl O<|QF (j:=7) (u:=u4) ((kb.ext hF).step gy mg) O O (by simp) (QQ gx) λy3 mh mj=>xe ?_;have h4:=J6.add (q:=⟨k,V.1,V.2.1,-1⟩) kb hK kn hF gx gy mf mh;refine Kp<|⟨((hf,hg,hj,u4),cos++[(hh,tc)],rqs++[(hi,tr)],pls++[pi]),La,q9.then h4.1 (λx hx=>?_),((q4.step h4.1 h4.2.2).up (LL hz714 h4.1.size)),mj,?_,k6,k7,k8⟩
  ·rcases Le.1 hx with h1|h1
   ·subst h1;exact .inl Lm
   exact .inr (Qq hK.o4 x h1).1
  simp only[];rw[hq];exact h4.2.1
 rw[if_neg (by rw[ma];decide)]at hw;simp only[]at hw;refine Yj ?_;have hA14:=q0.ext h8;have hr:=hr.ext h8;refine Q2<|QK (by rfl) (by rfl) ?_;refine Qb<|Qb<|Qb<|xl O<|xf<|(QbK (b:=b) (st:=pi) (vr:=pj) hr.cells).mono ?_;rintro r15 kc ⟨hG,c1,c2,c3,rfl,hc1,hc2,hc3,hR1,hR2,hR3⟩;refine xe ?_;have hz15:=hG.size;have g7:=kb.ext hG;have j3:=hK.ext hG
 have j4:=q4.ext hG;have za:=q9.trans hG;have hA15:=hA14.ext hG;have ka:=ka.ext (h8.trans hG);have k5:=k5.ext (h8.trans hG);have hr:=hr.ext hG;refine Zj (wrf q.c.cel.rq tr (enb q.p.a pi)) λfl ke=>?_;have zb:∀x∈G::ob I,x∈G::av:=λx hx=>by
  rcases Le.1 hx with rfl|hx
  ·exact Lm
  exact Lk _ (by rw[←gl];exact zG (.inr (.inr (.inr hx))))
 have mo:∀x∈G::ob I,x<k9.heap.size:=λx hx=>by
  rcases Le.1 hx with rfl|hx
  ·omega
  exact(Qq hK.o4 x hx).2
 have zv:K3 (G::ob I) b kc.heap q:=hA15.up (λx hx=>.inl (zb x hx));have hIr15:QJ (G::ob I) kc.heap pj tr:=hr.up (λx hx=>.inl (zb x hx));have hEv:∀p∈fl,0≤p.1∧p.1<(q.c.ev.length:Int):=λp hp=>by
  rw[←ke]at hp;have h1:=(jY.1 hp).1;unfold enb at h1;obtain⟨e,he,h2⟩:=Lq.1 h1;have h3:=gv.2.2.2 _ (gv.1.ed e (Zx he).1).2.2.1;rw[h2]at h3;exact h3
 refine ZS<|Qkk (α:={ x:Int×Int // x∈fl }) (G::ob I) (by omega) (capt:=[.pointer (some ⟨c1,0,none⟩),.pointer (some ⟨c2,0,none⟩),.pointer (some ⟨c3,0,none⟩)]) O (encs:=λx=>[.int .i64 x.1.1,.int .i64 x.1.2]) (by decide) (λ_=>O)
  (Qan hR1 hR2 hR3 (λhm=>by have:=mo _ hm;omega) (λhm=>by have:=mo _ hm;omega) (λx hx=>by have:=mo _ hx;omega) zv hIr15 (λx hx=>hY.rq x.it (LP hx)) hVr hckp O ke)
  (λpre W=>(∀y∈pre,(q.c.cel.ev.getD y.1.1.toNat ⟨.empty,false,false,false,0⟩).co=true)∧Step [] kc W) (λpre=>(Yc.pure _).and (Yc.step (Lu _)))
  (λe pre W=>e=.exit 2∧(∃p y,pre=p++[y]∧(∀y∈p,(q.c.cel.ev.getD y.1.1.toNat ⟨.empty,false,false,false,0⟩).co=true)∧(q.c.cel.ev.getD y.1.1.toNat ⟨.empty,false,false,false,0⟩).co=false ∧
   ∃u4,Step (G::ob I) kc W∧QT W.heap G 115 [q.s.va,.int .i64 q.s.a.st,q.s.vm,q.s.ve,hf,hg,hj,u4]∧J6 H.heap.size W hf hg hj u4 (cos++[(hh,tc)]) (rqs++[(hi,tr)]) (pls++[pi]) (fbs++[⟨k,3,y.1.2,y.1.1⟩])∧Vq H.heap.size w7.heap.size hO W))
  (λe pre=>(Yc.pure _).and (Yc.ex λp=>Yc.ex λy=>(Yc.pure _).and ((Yc.pure _).and ((Yc.pure _).and (Yc.ex λu4=>(Yc.step (Lu _)).and (Yc.blk.and ((Yc.cst λW W' h hc hz=>h.cst hc hz).and (Vq.stb (by omega)))))))))
  ⟨λy hy=>(by cases hy),Step.refl _ _⟩
  (λf x f' W=>f'=upd (upd (upd (upd f 100 (.int .i64 x.1.1)) 101 (.int .i64 x.1.2)) 16 (.int .i64 x.1.1)) 17 (.int .i64 x.1.2)) (λx f'=>Yc.pure _) ?_ ?_ ?_ ?_
 ·rintro l pre ⟨⟨e,i⟩,he⟩ W U;refine Q2<|QK (by rfl) (by rfl) ?_;refine Qf<|QK (by rfl) (by rfl) ?_;refine Qf ?_;exact⟨O,Jb.refl _ _ _,Lg.Ju.refl _ _,U,O⟩
 ·rintro l pre ⟨⟨e,i⟩,he⟩ f' W ⟨kf,U⟩ rfl _;have hee:=hEv _ he;simp only[]at hee;have hen:e=(e.toNat:Int):=by omega
  have kg:e.toNat<q.c.ev.length:=by omega
  have hAW:=zv.ext U;refine ZS<|Q2<|QK (by rfl) (by rfl) ?_;refine x (Qa O)<|x (Qd (k5.ext U) O O)<|Qb<|xig (g:=Zv) (i:=e.toNat) QaX hAW.c.ev.arr O (congrArg (Value.int .i64) hen) kg λa105 z0=>?_;have hge:q.c.cel.ev.getD e.toNat ⟨.empty,false,false,false,0⟩=q.c.ev[e.toNat]'kg:=by
   show q.c.ev.getD e.toNat _=_;simp[List.getD,kg]
  refine Zj (q.c.ev[e.toNat]'kg) λv hv=>?_;rw[hv]at z0 hge;refine x (Zf O)<|x (Qv (z0.fld 1 (.bool v.co) O) O)<|x (Zt O)<|xe<|K8 O (λmq=>?_) (λmq=>?_)
  ·have ms:v.co=false:=by simpa using mq
   have hS:=j3.ext U;have hB:=g7.ext U;have gb:=U.size;refine Q2<|QK (by rfl) (by rfl) ?_;refine x (Qa O)<|x (Qd hB O O)<|x (Qd (ka.ext U) O O)<|Qb<|Qb<|x (QM ⟨O,O,O,O,Z⟩) <|
    xl rfl<|QG (us:=[YF ⟨k,3,i,e⟩]) O O (by decide) (by simp) ⟨rfl,rfl,Z⟩ λb93 y1 hF hb93 mc=>?_
   have j2:=hF.size;refine xl O<|Q4 (m:=1) (news:=YF ⟨k,3,i,e⟩) (L:=[]) (Qs hS.o4 hF) O O O (mc.at (by simp)) (by simp[Value.oneCell']) j1 (by omega) λu4 y2 gx gy mf=>?_;have mg:G∉ob I:=λhm=>by have:=(Qq hK.o4 _ hm).1;omega
   refine x (Qa O)<|xl O<|QF (j:=7) (u:=u4) ((hB.ext hF).step gy mg) O O (by simp) (QQ gx) λy3 mh mj=>xe ?_;have h4:=J6.add (q:=⟨k,3,i,e⟩) hB hS kn hF gx gy mf mh;refine Kp ?_;exact⟨Jb.step h4.1 gb (λx hx=>⟨.inl hx,h4.2.2 x hx⟩),O,pre,_,O,kf,by simp only[];rw[hge];exact ms,u4,U.any.trans' h4.1,mj,h4.2.1,(j4.ext U).step h4.1 h4.2.2⟩
  have ms:v.co=true:=by simpa using mq
  refine Yj<|⟨Jb.refl _ _ _,Lg.Ju.refl _ _,λy hy=>?_,U⟩;rcases Lo.1 hy with h1|h1
  ·exact kf y h1
  simp only[List.mem_singleton]at h1;subst h1;simp only[];rw[hge];exact ms
 ·rintro D xs W hD hxs ⟨kf,U⟩ mt;have mu:rfd q.c.cel tr (qn q.p.a pi)=none:=zd λx hx=>by
   rw[show wrf q.c.cel.rq tr (qn q.p.a pi)=fl from ke,←hxs]at hx;obtain⟨y,hy,rfl⟩:=Lq.1 hx;exact kf y hy
  rw[mu]at hw;rw[hw]at hq;refine⟨((hf,hg,hj,I),cos++[(hh,tc)],rqs++[(hi,tr)],pls++[pi]),La,za.trans U,(j4.ext U).cons (by omega) (by omega) mt,g7.ext U,?_,k6,k7,k8⟩;simp only[];rw[hq];have h9:=j3.ext U;simpa using h9
 rintro D e pre W hD hSp ⟨rfl,p,y,rfl,hp,hy,u4,hst,hBu,hSu,hDu⟩ mt _;have mu:rfd q.c.cel tr (qn q.p.a pi)=some (y.1.2,y.1.1):=by
  obtain⟨rs,z1⟩:=hSp;rw[Lx]at z1;refine zc (x:=y.1) (t:=rs) (p:=p.map (·.1)) ?_ (λz hz=>?_) hy
  ·exact(show wrf q.c.cel.rq tr (qn q.p.a pi)=fl from ke).trans (z1.symm.trans (by simp))
  obtain⟨z',hz',rfl⟩:=Lq.1 hz;exact hp z' hz'
 rw[mu]at hw;simp only[]at hw;rw[hw]at hq;refine⟨((hf,hg,hj,u4),cos++[(hh,tc)],rqs++[(hi,tr)],pls++[pi]),La,za.then hst (λx hx=>?_),hDu.cons (by omega) (by omega) mt,hBu,?_,k6,k7,k8⟩
 ·rcases Le.1 hx with h1|h1
  ·subst h1;exact .inl Lm
  exact .inr (Qq hK.o4 x h1).1
 simp only[];rw[hq];exact hSu
end Go.Proofs.YtjcgijbhaemldaaGreatDoor
namespace Go.Lg
theorem At.from {L:LN}{H:Array Obj}{a:Addr}{us:LV}(h:At L H a us)(j:Nat):At L H (a.add j) (us.drop j):=
 ⟨λu hu=>by rw[Yi];exact h.out u (MS hu),λu hu=>by rw[Yi];exact h.lt u (MS hu),λi v E=>by
  rw[Addr.add_add];exact h.cell (j+i) v (by rw[←M4];exact E)⟩
end Go.Lg
namespace Go.Proofs.YtjcgijbhaemldaaGreatDoor
open Go.Proofs.Tryz
open Go.Lg
def lwB (l:LI)(n:Int):Nat:=(l.filter λx=>decide (x<n)).length
theorem Qoa {l:LI}{n:Int}{i:Nat}(_:Z2 l)(hi:i≤l.length)(h1:∀m (hm:m<l.length),m<i→l[m]<n)(h2:∀m (hm:m<l.length),i≤m→n≤l[m]):lwB l n=i:=by
 unfold lwB;have e1:(l.take i).filter (λx=>decide (x<n))=l.take i:=Nf.2 λx hx=>by
  obtain⟨m,hm,rfl⟩:=LB hx;rw[Nb];have E:m<i∧m<l.length:=by rw[LC]at hm;omega
  exact decide_eq_true (h1 m E.2 E.1)
 have e2:(l.drop i).filter (λx=>decide (x<n))=[]:=MD.2 λx hx=>by
  obtain⟨m,hm,rfl⟩:=LB hx;rw[List.getElem_drop];have E:i+m<l.length:=by rw[Mw]at hm;omega
  have:=h2 (i+m) E (by omega);simp;omega
 have G:l.filter (λx=>decide (x<n))=l.take i:=by
  conv=>lhs;rw[←MQ i l]
  rw[L8,e1,e2,LO]
 rw[G,LC];omega
theorem Qe3:∀{l:LI}{n:Int},Z2 l→n∈l→lwB l n=l.idxOf n
 | [],_,_,h=>by cases h
 | a::l,n,hi,h=>by
  have E:=L3.1 hi;unfold lwB;by_cases e:a=n
  ·subst e;have e2:l.filter (λx=>decide (x<a))=[]:=MD.2 λx hx=>by have:=E.1 x hx;simp;omega
   rw[Mi,if_neg (by simp),e2];simp
  have hm:n∈l:=by
   rcases Le.1 h with h1|h1
   ·exact absurd h1.symm e
   exact h1
  have ih:=Qe3 E.2 hm;unfold lwB at ih;have ha:=E.1 n hm;rw[Mi,if_pos (decide_eq_true ha),LF,ih,List.idxOf_cons];have:(a == n)=false:=by simpa using e
  rw[this];rfl
theorem QcR {L:LN}{w:World}{v:Value}{l:LI}(h:QJ L w.heap v l)(hi:Z2 l)(n:Int):
  QH prog 57 [v,.int .i64 n] w λr w'=>w'=w∧r=.tuple #[.int .i64 (lwB l n),.bool (decide (n∈l))]:=by
 have ht:=h.le;refine QH.of_W func57 O ntmps57 results57 (by simp) ?_;refine Qc<|x Qe<|Qf<|Qc<|Qb<|x (Qr h O)<|Qf<|Qc<|Qb<|x Qe<|Qf<|Qg<|Qh<|Qz (α:=Nat×Nat) [(7,9),(13,30)] (λz=>[(7,.int .i64 z.1),(8,.int .i64 z.2)])
  (λz w'=>w'=w∧z.1≤z.2∧z.2≤l.length∧(∀m (hm:m<l.length),m<z.1→l[m]<n)∧(∀m (hm:m<l.length),z.2≤m→n≤l[m])) (λz=>z.2 - z.1) (by rfl) (0,l.length) ⟨O,O,Z⟩
  ⟨O,Ll _,Lu _,λm _ J=>absurd J (Me m),λm h1 J=>absurd h1 (by simp only[]at J;omega)⟩ ?_
 rintro⟨i,j⟩ g w1 ⟨rfl,hb,hj,E,G⟩;simp only[]at hb hj E G;refine Qg<|Qc<|Qb<|Qb<|x (QA O O)<|xe<|QC rfl (λhc=>?_) (λhc=>?_)
 ·have e:i=j:=by omega
  subst e;refine Qy<|QX (α:=Bool) [(4,5),(31,53)] (λz=>[(4,.int .i64 i),(5,.bool z)]) (λz w'=>w'=w1∧z=decide (n∈l)) (by rfl) ?_ ?_
  ·refine Qw<|Qb<|Qb<|Qb<|xb (QA O O) (λhe=>?_) (λhe=>?_)
   ·have H:i<l.length:=by omega
    refine Qb<|Qb<|Qb<|xii h O O H λhu hf=>x (Qv hf O)<|Qb<|xb (Zr O O) (λU=>?_) (λU=>?_)
    ·refine Qb<|xs O<|xs O<|xs O<|xs O<|xs O<|xs O<|xs O<|xs O<|xs O<|x (Qp O)<|x (Qp O)<|x Qe<|Qf ?_;have:n∈l:=by rw[←U];exact Lc H
     exact⟨true,⟨O,O,Z⟩,O,by simp[this]⟩
    refine Qb<|Qb<|Qb<|xii h O O H λhv hg=>x (Qv hg O)<|xl O<|xf<|(Qcf _).mono ?_;rintro r3 w3 ⟨rfl,rfl⟩;refine Qb<|xs O<|xs O<|x (Qp O)<|x (Qp O)<|x (Qp O)<|x Qe<|Qf<|⟨false,⟨O,O,Z⟩,O,?_⟩;have:n∉l:=by
     intro hm;obtain⟨m,I,V⟩:=LB hm;by_cases hk:m<i
     ·have:=E m I hk;omega
     by_cases hl:m=i
     ·subst hl;exact U V
     have:=Z2.get hi I (show i<m by omega);have:=G i H (Lu _);omega
    simp[this]
   refine Qb<|xs O<|xs O<|xs O<|xs O<|xs O<|xs O<|xs O<|xs O<|xs O<|xs O<|xs O<|xs O<|xs O<|xs O<|xs O<|xs O<|xs O <|
    x (Qp rfl)<|x Qe<|Qf<|⟨false,⟨O,O,Z⟩,O,?_⟩
   have:n∉l:=by
    intro hm;obtain⟨m,I,V⟩:=LB hm;have:=E m I (by omega);omega
   simp[this]
  rintro z g w7 ⟨rfl,rfl⟩;exact Ql ⟨[.int .i64 i,.bool (decide (n∈l))],⟨O,O,Z⟩,O,by rw[Qoa hi (show i≤l.length by omega) E G];rfl⟩
 refine Qi<|Qh<|Qc<|Qb<|Qb<|QP O O<|x (Xr O (by exact⟨by omega,by omega⟩))<|x (ze (n:=1) O O (by decide))<|x (Xr O (by exact⟨by omega,by omega⟩))<|Qf ?_;have hh:(((i:Int)+(j:Int)) / 2 ^ 1)=(((i+j) / 2:Nat):Int):=by omega
 rw[hh];generalize hq:(i+j) / 2=q;have hn:i≤q:=by omega
 have ho:q<j:=by omega
 have Y:q<l.length:=by omega
 refine Qc<|Qb<|Qb<|xii h O O Y λhw hp=>x (Qv hp O)<|Qb<|xl O<|xf<|(Qfb _ _).mono ?_;rintro r8 w8 ⟨rfl,rfl⟩;refine xe<|QC rfl (λha=>?_) (λha=>?_)
 ·refine Qw<|Qb<|Qf<|⟨(i,q),by simp only[];omega,⟨O,O,Z⟩,O,hn,by omega,E,λm hm hr=>?_⟩;by_cases e:q=m
  ·subst e;omega
  have:=Z2.get hi hm (show q<m by simp only[]at hr;omega);omega
 refine Qw<|Qb<|QP O O<|Qf<|⟨(q+1,j),by simp only[];omega,⟨O,O,Z⟩,O,ho,hj,λm hm hs=>?_,G⟩;by_cases e:m=q
 ·subst e;exact ha
 have:=Z2.get hi Y (show m<q by simp only[]at hs;omega);omega
theorem zZ {L:LN}{w:World}{v:Value}{l:List Ed}(h:Zy L w.heap v l.length 3 (l.flatMap QB)):
  QH prog 51 [v] w λr w'=>Step [] w w'∧w'.ownsRow w.heap.size 129 3 r l.length (l.flatMap QB):=by
 have ha:=h.le;refine QH.of_W func51 O ntmps51 results51 (by simp) ?_;refine Qc<|Qf ?_;obtain⟨ao,cap,E⟩:=h.shape;refine Qg<|Qc<|Qb<|x (V1 (show ev _ _=_ from E) O)<|xe<|QZ rfl (λh4=>?_) (λh4=>?_)
 ·refine Qc<|Qf<|Ql ⟨[nS],La,Step.refl _ _,?_⟩;rcases h.2.2 with⟨h1,h2⟩|⟨a,c,h1,_⟩
  ·have:l=[]:=Lr h2;subst this;exact QN _ _ _ _
  rw[h1]at E;cases E;cases h4
 rcases h.2.2 with⟨h1,h2⟩|⟨a,c,h1,h2,h3⟩
 ·rw[h1]at E;injection E with e1;subst e1;cases h4
 refine Qi<|Qc ?_;have J:∀u∈l.flatMap QB,u.oneCell'=true:=by
  intro u hu;obtain⟨p,_,hp⟩:=MO.1 hu;simp only[QB,List.mem_cons,List.not_mem_nil,or_false]at hp;rcases hp with rfl|rfl|rfl <;> rfl
 refine xl rfl<|VG λb5 w1 G H I=>Qb<|xl O<|Q4 (base:=w.heap.size) (I.own (n:=0) (sz:=3) O (by omega) H) O (show ev _ _=_ from h1) h.1 (h3.ext G) J (by omega) (by have:=I.lt;omega) λU w2 V Y hb=>Qf<|Ql ⟨[U],La,G.then1 Y H,?_⟩;simpa[tup]using V
theorem QdX {L:LN}{w:World}{v:Value}{l:List Vp}(h:Zy L w.heap v l.length 5 (l.flatMap Zv)):
  QH prog 195 [v] w λr w'=>Step [] w w'∧w'.ownsRow w.heap.size 89 5 r l.length (l.flatMap Zv):=by
 have ha:=h.le;refine QH.of_W func195 O ntmps195 results195 (by simp) ?_;refine Qc<|Qf ?_;obtain⟨ao,cap,E⟩:=h.shape;refine Qg<|Qc<|Qb<|x (V1 (show ev _ _=_ from E) O)<|xe<|QZ rfl (λh4=>?_) (λh4=>?_)
 ·refine Qc<|Qf<|Ql ⟨[nS],La,Step.refl _ _,?_⟩;rcases h.2.2 with⟨h1,h2⟩|⟨a,c,h1,_⟩
  ·have:l=[]:=Lr h2;subst this;exact QN _ _ _ _
  rw[h1]at E;cases E;cases h4
 rcases h.2.2 with⟨h1,h2⟩|⟨a,c,h1,h2,h3⟩
 ·rw[h1]at E;injection E with e1;subst e1;cases h4
 refine Qi<|Qc ?_;have J:∀u∈l.flatMap Zv,u.oneCell'=true:=by
  intro u hu;obtain⟨p,_,hp⟩:=MO.1 hu;simp only[Zv,List.mem_cons,List.not_mem_nil,or_false]at hp;rcases hp with rfl|rfl|rfl|rfl|rfl <;> rfl
 refine xl rfl<|VG λb5 w1 G H I=>Qb<|xl O<|Q4 (base:=w.heap.size) (I.own (n:=0) (sz:=5) O (by omega) H) O (show ev _ _=_ from h1) h.1 (h3.ext G) J (by omega) (by have:=I.lt;omega) λU w2 V Y hb=>Qf<|Ql ⟨[U],La,G.then1 Y H,?_⟩;simpa[tup]using V
structure X3 {α:Type}(g:α→LV)(sz T:Nat)(ps:α→List (Value×Nat×Nat×LV))(base:Nat)(w:World)(v:Value)(l:List α):Prop where
 own:w.ownsRow base T sz v l.length (l.flatMap g)
 each:∀q∈l,∀t∈ps q,Z3 base (ob v) w.heap t.1 t.2.1 t.2.2.1 t.2.2.2
section
variable {α:Type}{g:α→LV}{sz T:Nat}{ps:α→List (Value×Nat×Nat×LV)}{base:Nat}{w w':World}{v:Value}{l:List α}
theorem X3.nil:X3 g sz T ps base w (nS) []:=⟨QN _ _ _ _,λq hq=>by cases hq⟩
theorem X3.ext (h:X3 g sz T ps base w v l)(hs:Step [] w w'):X3 g sz T ps base w' v l:=⟨Qs h.own hs,λq hq t ht=>(h.each q hq t ht).ext hs⟩
theorem X3.low {X:LN}(h:X3 g sz T ps base w v l)(hs:Step X w w')(E:∀b∈X,b<base):X3 g sz T ps base w' v l :=
 ⟨Qm h.own hs (λb hb hm=>by have:=(Qq h.own b hb).1;have:=E b hm;omega),λq hq t ht=>(h.each q hq t ht).low hs E⟩
theorem X3.app {E G:World}{H:Value}{q:α}(h:X3 g sz T ps base w v l)(hs:Step [] w E)
  (hq:∀t∈ps q,∃N e,E.ownsRow N e t.2.2.1 t.1 t.2.1 t.2.2.2∧t.2.1≤1099511627776∧w.heap.size≤N) (hb:base≤w.heap.size)
  (U:G.ownsRow base T sz H (l.length+1) (l.flatMap g++g q)) (I:Step (ob v) E G) (J:∀b∈ob H,b∈ob v∨E.heap.size≤b):X3 g sz T ps base G H (l++[q]):=by
 have V:=QY h.own;refine⟨?_,λd hd t ht=>?_⟩
 ·rw[Lj,LG];simpa using U
 rcases Lo.1 hd with hd|hd
 ·exact((h.each d hd t ht).ext hs).app I J
 simp only[List.mem_singleton]at hd;subst hd;obtain⟨N,e,h1,h2,h3⟩:=hq t ht;exact(Z3.of_own h1 h2 (by omega) (λb hb=>by have:=V b hb;omega)).app I J
end
abbrev QlT (q:IV):List (Value×Nat×Nat×LV):=[(q.p.va,q.p.a.al.length,1,q.p.a.al.map (.int .i64)),(q.p.vm,q.p.a.mr.length,1,q.p.a.mr.map (.int .i64)),(q.p.ve,q.p.a.ed.length,3,q.p.a.ed.flatMap QB)]
abbrev IvP (base:Nat)(w:World)(v:Value)(l:List IV):Prop:=X3 Zn 5 92 QlT base w v l
def Vv (N:Nat)(H:Array Obj)(v:Value)(l:List Yk):Prop:=∃qs:List IV,qs.map IV.it=l∧∀L:LN,(∀b∈L,b<N)→Xm L H v qs
theorem IvP.itms {base:Nat}{w:World}{v:Value}{l:List IV}{L:LN}(h:IvP base w v l)(G:l.length≤1099511627776)(hm:∀q∈l,yC q.nm)(E:∀b∈L,b<base):Xm L w.heap v l :=
 ⟨QV h.own G (λb hb H=>by have:=(Qq h.own b hb).1;have:=E b H;omega),λq hq=>⟨h.each q hq (q.p.va,q.p.a.al.length,1,q.p.a.al.map (.int .i64)) (by simp) L (λb hb=>.inl (E b hb)),h.each q hq (q.p.vm,q.p.a.mr.length,1,q.p.a.mr.map (.int .i64)) (by simp) L (λb hb=>.inl (E b hb)),h.each q hq (q.p.ve,q.p.a.ed.length,3,q.p.a.ed.flatMap QB) (by simp) L (λb hb=>.inl (E b hb))⟩,hm⟩
instance:Bw prog 92 [.string .empty,nS,.int .i64 0,nS,nS] [(0,1),(1,4)]:=⟨by kernel_rfl,by decide⟩
set_option maxHeartbeats 4000000 in
theorem yf {L:LN}{w:World}{v vi:Value}{qs:List IV}{ix:LI}(h0:Xm L w.heap v qs)(hD:QJ L w.heap vi ix)(hb:∀i∈ix,0≤i∧i<(qs.length:Int)):
  QH prog 196 [v,vi] w λr w'=>Step [] w w'∧Vv w.heap.size w'.heap r (chs (qs.map IV.it) ix)∧r.oneCell'=true:=by
 have h:Xm [] w.heap v qs:=h0.up (by simp);have hi:QJ [] w.heap vi ix:=hD.up (by simp);have hT:=hi.le;refine QH.of_W func196 O ntmps196 results196 (by simp) ?_;refine Qc<|Qf<|Qc<|Qf<|Qg<|Qc<|Qb<|x (Qr hi O)<|Qb<|xe ?_
 refine Qh<|Qz (α:=Nat×Value×List IV) [(5,5),(7,8),(11,41)] (λz=>[(5,z.2.1),(11,.int .i64 z.1)]) (λz w'=>z.1≤ix.length∧Step [] w w'∧IvP w.heap.size w' z.2.1 z.2.2∧z.2.2.map IV.it=chs (qs.map IV.it) (ix.take z.1)∧∀q∈z.2.2,yC q.nm) (λz=>ix.length - z.1) (by rfl) (0,nS,[]) ⟨O,O,Z⟩
  ⟨Ll _,Step.refl _ _,X3.nil,O,λq hq=>by cases hq⟩ ?_
 rintro⟨k,vo,qo⟩ g w1 ⟨hk,H,I,hf,hp⟩;simp only[]at hk I hf hp;have hU:qo.length=k:=by have:=congrArg List.length hf;unfold chs at this;rw[Lh,Lh,LC]at this;omega
 refine Qc<|x (QA O O)<|xe<|Qg<|QC O (λhr=>?_) (λhr=>?_)
 ·refine Qy ?_;have hE:ix.length≤k:=by have hh:¬(k:Int)<(ix.length:Int):=hr;omega
  rw[Lp hE]at hf;refine Qc<|Qb<|Qf ?_;exact Ql ⟨[_],La,H,⟨qo,hf,λL hL=>I.itms (by omega) hp hL⟩,QQ I.own⟩
 refine Qi ?_;have J:k<ix.length:=by have hh:(k:Int)<(ix.length:Int):=hr;omega
 have hF:=hb _ (Lc J);have h6:ix.take (k+1)=ix.take k++[ix[k]'J]:=Li J;refine Zj (ix[k]'J) λi h7=>?_;rw[h7]at hF h6;have h8:i=(i.toNat:Int):=by omega
 have U:i.toNat<qs.length:=by omega
 have hA:chs (qs.map IV.it) (ix.take (k+1))=chs (qs.map IV.it) (ix.take k)++[(qs[i.toNat]'U).it]:=by
  rw[h6];unfold chs;rw[Lx];simp[List.getD,U]
 have h1:=h.ext H;have hs:=Lc U;refine Zj (qs[i.toNat]'U) λq hq=>?_;rw[hq]at hA hs;have G:=h1.each q hs;have hG:=h1.nm q hs;refine Qg<|Qh<|Qc<|xii (i:=k) (hi.ext H) O O J λhV hh=>?_;rw[h7]at hh;refine x (Qv hh O)<|Qf<|Qc<|Qb<|Qb<|xig (g:=Zn) (i:=i.toNat) XN h1.arr O (congrArg (Value.int .i64) h8) U λhW hB=>?_;rw[hq]at hB
 refine x (Zf O)<|x (QI (us:=[q.p.va,.int .i64 q.p.a.st,q.p.vm,q.p.ve]) (hB.from 1) O O)<|xl O<|Qu (us:=[nS,.int .i64 0,nS,nS]) O λb8 w2 hH hI V =>
  xl rfl<|Qn (us:=[q.p.va,.int .i64 q.p.a.st,q.p.vm,q.p.ve]) V O O O O ⟨G.al.one,O,G.mr.one,G.ed.one,Z⟩ λE hJ V=>xe ?_
 have hj:Step [] w1 E:=hH.then1 hJ hI;have Y:Step [] E { E with drawn:=E.drawn+1 }:=Step.drew _ _
 have hX:=hj.size;have hY:=H.size;have hv:=Qq I.own;have h3:Xm (ob vo) E.heap v qs:=(h.up (L':=ob vo) (λb hb=>.inr (hv b hb).1)).ext (H.trans hj);have hl:b8∉ob vo:=λhm=>by have:=(hv b8 hm).2;omega
 have hw:=G.ext hj;refine QU (Step (ob vo) E) [(0,true),(1,true),(2,true),(3,true),(4,true),(5,true),(6,true),(7,true),(9,true),(10,true),(11,true),(12,true),(14,true),(15,true),(8,false),(13,false),(16,false),(17,true),(18,true),(19,false),(20,false),(21,true)] mixed (by rfl) (by kernel_rfl) (Step.drew _ _) ?_
 refine p (λ_=>Qk)<|p (λ_=>Qk)<|p (λ_=>Qk)<|Go.Lg.pig (g:=Zn) (i:=i.toNat) O XN h3.arr O (congrArg (Value.int .i64) h8) U λhZ hC=>?_;rw[hq]at hC;refine p (λ_=>Zf O)<|pq (λ_ hc=>Qv ((hC.fld 0 (.string q.nm) O).st hc) O)<|p (λ_=>Qa O)<|pq (λ_ hc=>Qd (V.step hc hl) O O)<|p (λ_=>Qa O) <|
  pq (λ_ hc=>Qd (V.step hc hl) O O)<|p (λ_=>Qa O)<|pq (λ_ hc=>Qd (V.step hc hl) O O) <|
  p (λ_=>Qa O)<|pq (λ_ hc=>Qd (V.step hc hl) O O)<|pk<|xf<|(Yt (hw.al.ext Y)).mono ?_
 rintro r4 w4 ⟨ha,hy⟩;refine⟨(Y.trans ha).any,?_⟩;refine pk<|xf<|(Yt ((hw.mr.ext Y).ext ha)).mono ?_;rintro r5 w5 ⟨hg,hz⟩;refine⟨((Y.trans ha).trans hg).any,?_⟩;refine pk<|xf<|(zZ (((hw.ed.ext Y).ext ha).ext hg)).mono ?_;rintro r6 w6 ⟨h2,h4⟩;have hn:=((Y.trans ha).trans hg).trans h2;refine⟨hn.any,?_⟩
 refine p (λ_=>QM ⟨Zp hy,O,Zp hz,Zp h4,Z⟩)<|p (λ_=>ZD [(0,[.string q.nm]),(1,[r4,.int .i64 q.p.a.st,r5,r6])] ⟨O,O,O,O,Z⟩)<|pk<|QG (us:=[Zn ⟨q.nm,⟨r4,r5,r6,q.p.a⟩⟩]) O O (by decide) (by simp) ⟨rfl,rfl,Z⟩ λga w7 he gb hK=>⟨(hn.trans he).any,?_⟩;have ho:=(hj.trans hn).trans he;have gc:=ho.size;have ge:({ E with drawn:=E.drawn+1 }:World).heap.size=E.heap.size:=rfl
 have gg:=ha.size;have gh:=hg.size;refine pk<|Q4 (m:=1) (news:=Zn ⟨q.nm,⟨r4,r5,r6,q.p.a⟩⟩) (L:=[]) (Qs I.own ho) O O O (hK.at (by simp)) (λu hu=>by
   simp only[List.mem_cons,List.not_mem_nil,or_false]at hu;rcases hu with rfl|rfl|rfl|rfl|rfl
   ·rfl
   ·exact QQ hy
   ·rfl
   ·exact QQ hz
   exact QQ h4) (by omega) (by omega) λv8 w8 hM h5 hN=>⟨(hn.trans he).any.trans' h5,?_⟩
 refine p (λ_=>Qe)<|pe ?_;have hO:=G.al.le;have hP:=G.mr.le;have hQ:=G.ed.le;have hR:IvP w.heap.size w8 v8 (qo++[⟨q.nm,⟨r4,r5,r6,q.p.a⟩⟩]):=I.app ho (λt ht=>by
  simp only[List.mem_cons,List.not_mem_nil,or_false]at ht;rcases ht with rfl|rfl|rfl
  ·exact⟨_,_,Qs (Qs (Qs hy hg) h2) he,hO,by omega⟩
  ·exact⟨_,_,Qs (Qs hz h2) he,hP,by omega⟩
  exact⟨_,_,Qs h4 he,hQ,by omega⟩) (by omega) hM h5 hN
 refine Qw<|QP O O<|Qb<|xe<|⟨(k+1,v8,_),by simp only[];omega,⟨O,O,Z⟩,J,(H.trans ho).then h5 (λb hb=>.inr (hv b hb).1),hR,?_,λq' hS=>?_⟩
 ·simp only[];rw[hA,Lx,hf];rfl
 rcases Lo.1 hS with h9|h9
 ·exact hp q' h9
 simp only[List.mem_singleton]at h9;subst h9;exact hG
theorem je {L:LN}{w:World}{bp bm:Nat}{G H I J:Value}{co:LI}{mi:Bool}(U:QT w.heap bp 281 [G,H,I,J])(hm:QT w.heap bm 4 [.bool mi])(V:QJ L w.heap G co)(hi:Z2 co)(n:Int):
  QH prog 197 [.int .i64 n,.pointer (some ⟨bp,0,none⟩),.pointer (some ⟨bm,0,none⟩)] w λr w'=>Step [bm] w w'∧r=.int .i64 (lwB co n)∧QT w'.heap bm 4 [.bool (mi || !decide (n∈co))]:=by
 refine QH.of_W func197 O ntmps197 results197 (by simp) ?_;refine Qc<|Qf<|Qc<|x (Qa O)<|x (Qd U O O)<|Qb<|xl O<|xf<|(QcR V hi n).mono ?_;rintro r1 Y ⟨rfl,rfl⟩;refine Qb<|x (Qj O O)<|x (Qj O O)<|x Qe<|Qf<|QX (α:=Bool) [(14,18)] (λz=>[]) (λz w'=>Step [bm] Y w'∧QT w'.heap bm 4 [.bool (mi || !decide (n∈co))]) (by rfl) ?_ ?_
 ·refine Qw<|xB (Qd hm O O) (λE=>?_) (λE=>?_)
  ·refine Qb<|xs O<|xs O<|x (Qp O)<|xl O<|QF (j:=0) (u:=.bool true) hm O O (by simp) rfl λw2 ha hb=>xe ?_;exact⟨true,Z,ha,by rw[E];exact hb⟩
  refine Qb<|Qb<|x (Zt O)<|x (Qp O)<|xl O<|QF (j:=0) (u:=.bool (!decide (n∈co))) hm O O (by simp) rfl λw3 hc he=>xe ?_;exact⟨true,Z,hc,by rw[E];exact he⟩
 rintro z g w4 ⟨hf,hg⟩;refine Qc<|Qb<|Qf ?_;exact Ql ⟨[_],La,hf,O,hg⟩
theorem Z3.of_lt {base N:Nat}{av:LN}{H:Array Obj}{v:Value}{n sz:Nat}{cs:LV}(h:∀L:LN,(∀b∈L,b<N)→Zy L H v n sz cs)(hb:base≤N)(E:∀b∈av,b<N):Z3 base av H v n sz cs:=λL G =>
 h L (λb I=>(G b I).elim (λh=>by omega) (E b))
theorem Kc (L:LN)(H:Array Obj):QJ L H (nS) []:=Zy.nil L H 1
end Go.Proofs.YtjcgijbhaemldaaGreatDoor
namespace Go.Lg
open Go.RowKit
def yp (P:Program)(all:List Oper)(C:World→Prop)(K:LN→Fr→World→Prop):List (Nat×Bool)→LN→Fr→World→Prop
 | [],own,f,w=>K own f w
 | (j,true)::l,own,f,w=>Yd all f (QL all j)=true∧∃v,(∀w',(yB (QL all j)=true→C w')→(execOp (ev f) (QL all j)).run P w'=.ok (.value v) w')∧yp P all C K l own (QW f (QL all j).dst v) w
 | (j,false)::l,own,f,w=>Yd all f (QL all j)=true∧∀w1,Step [] w w1→C w1→XO P (QL all j) f w1 λE w'=>C w'∧∃own',Step own w1 w'∧(∀b∈own',b∈own∨(w1.heap.size≤b∧b<w'.heap.size))∧yp P all C K l own' E w'
section
variable {P:Program}{n:Nat}{f:Fr}{w:World}{all:List Oper}{C:World→Prop}{K:Fr→World→Prop}{KF:LN→Fr→World→Prop}
theorem yp.ext (E:∀own f w w',KF own f w→Step [] w w'→KF own f w'):∀{l:List (Nat×Bool)}{own:LN}{f:Fr}{w w':World},yp P all C KF l own f w→Step [] w w'→yp P all C KF l own f w'
 | [],_,_,_,_,h,hs=>E _ _ _ _ h hs
 | (_,true)::_,_,_,_,_,h,hs=>by
  obtain⟨G,v,H,hx⟩:=h;exact⟨G,v,H,yp.ext E hx hs⟩
 | (_,false)::_,_,_,_,_,h,hs=>⟨h.1,λI h1 hc=>h.2 I (hs.trans h1) hc⟩
structure Fl2 (P:Program)(all:List Oper)(C:World→Prop)(K:Fr→World→Prop)(KF:LN→Fr→World→Prop)(i d:Nat)(rest:List (Nat×Bool))(Φ:Value→World→Prop)(Dc:List (Nat×Nat))(f1:Fr):Prop where
 stab:∀v (own:LN) w w',Φ v w→Step own w w'→(∀b∈ow v,b∉own)→Φ v w'
 spec:∀f w,(∀t,Xk Dc t=false→f t=f1 t)→C w→XO P (QL all i) f w λf' w'=>Step [] w w'∧C w'∧Φ (f' d) w'∧∀b∈ow (f' d),w.heap.size≤b∧b<w'.heap.size
 fin:∀own f w,KF own f w→∀v,C w→Φ v w→(∀b∈ow v,b∉own∧b<w.heap.size)→XP P all C K rest (QW f (some d) v) w
 mono:∀own f w w',KF own f w→Step [] w w'→KF own f w'
attribute [local semireducible] XP in
theorem U1 {i d:Nat}{rest:List (Nat×Bool)}{Φ:Value→World→Prop}{Dc:List (Nat×Nat)}{f1:Fr}(G:Fl2 P all C K KF i d rest Φ Dc f1)(hs:Region.noSelect all.toArray=true){v:Value}:∀(l:List (Nat×Bool)) (own:LN) (f:Fr) (w:World),Yq all d l=true→yp P all C KF l own f w→C w→Φ v w →
  (∀b∈ow v,b∉own∧b<w.heap.size)→XP P all C K (l++rest) (QW f (some d) v) w
 | [],own,f,w,_,h,hC,H,hb=>G.fin own f w h v hC H hb
 | (j,q)::l,own,f,w,hfr,h,hC,H,hb=>by
  simp only[Yq,List.all_cons,Bool.and_eq_true,Bool.not_eq_true',List.contains_eq_mem,decide_eq_false_iff_not,beq_eq_false_iff_ne,ne_eq]at hfr;obtain⟨⟨h1,h2⟩,hfr⟩:=hfr;have I:Yq all d l=true:=by simpa[Yq]using hfr
  have U:∀cs b,(QL all j).op≠.select cs b:=by
   intro cs b;cases J:all[j]? with
   | none =>
    have:QL all j=default:=by
     clear h h1 h2 hfr I;have key:∀(l:List Oper) (j:Nat),l[j]?=none→QL l j=default:=by
      intro l;induction l with
      | nil=>intro j _;rfl
      | cons a l ih=>intro j hj;cases j with|zero=>simp at hj|succ j=>exact ih j (by simpa using hj)
     exact key all j J
    rw[this];intro e;cases e
   | some o=>rw[Zh J];exact Region.noSelect_spec hs j o cs b (by simpa using J)
  have hd:∀e,some d=some e→e∉(QL all j).looksAt all.toArray:=λe he=>by cases he;exact h1
  cases q with
  | true =>
   obtain⟨hg,u,hu,hx⟩:=h;simp only[List.cons_append,XP];rw[J1 (QL all j) f (some d) v hd,hg,cond_true,cond_true];refine⟨u,λw' hc=>?_,?_⟩
   ·rw[XH (all:=all) U f (some d) v hd];exact hu w' hc
   rw[Vd f v u (λe he=>by cases he;exact h2)];exact U1 G hs l own _ w I hx hC H hb
  | false =>
   simp only[List.cons_append,XP];rw[J1 (QL all j) f (some d) v hd,h.1,cond_true,cond_false];refine QfV (all:=all) U h1 h2 (λu w' hx=>?_) (h.2 w (Step.refl _ _) hC);obtain⟨V,own',Y,ha,hx⟩:=hx;refine⟨.inr (.inr V),U1 G hs l own' _ w' I hx V (G.stab v own w w' H Y (λb E=>(hb b E).1)) (λb E=>⟨λhm=>?_,Ma (hb b E).2 Y.size⟩)⟩
   rcases ha b hm with h3|h3
   ·exact(hb b E).1 h3
   exact Nat.lt_irrefl _ (Ma (hb b E).2 h3.1)
theorem Qea {i d:Nat}{rest:List (Nat×Bool)}{Φ:Value→World→Prop}{Dc:List (Nat×Nat)}{f1:Fr}(G:Fl2 P all C K KF i d rest Φ Dc f1)(hs:Region.noSelect all.toArray=true)(J:(QL all i).guard=none)(hd:(QL all i).dst=some d):∀(l:List (Nat×Bool)) (ls:Array Bool) (own:LN) (f:Fr) (w:World),ls.size=all.length→Yq all d l=true→Yn all Dc l=true→(∀t,Xk Dc t=false→f t=f1 t) →
  yp P all C KF l own f w→C w→(∀b∈own,b<w.heap.size)→zM all.toArray i rest l ls=true→XA P all C K (l.length+1+rest.length) ls f w
 | [],ls,own,f,w,V,hfr,H,hk1,h,hC,U,hp=>by
  simp only[zM,Bool.and_eq_true,beq_iff_eq]at hp;obtain⟨I,hp⟩:=hp;rw[show([]:List (Nat×Bool)).length+1+rest.length=rest.length+1 by simp;omega];refine Y0 (λh0=>(by rw[h0]at I;cases I)) ?_;rw[I];intro k hk o E;have ha:k=i:=by simpa using hk
  subst ha;have Y:=Zh E;have hx:=G.spec f w hk1 hC;rw[Y]at J hd hx;rw[Ji J,cond_true];refine hx.mono λv w' hx=>?_;rw[hd]at hx ⊢;obtain⟨h1,h2,h3,h4⟩:=hx;simp only[QW,YQ]at h3 h4
  refine⟨.inr (.inr h2),Zz hs rest _ _ _ (by simpa using V) (.inl h2) hp (G.fin own f w' (G.mono own f w w' h h1) v h2 h3 (λb hb=>⟨λhm=>Nat.lt_irrefl _ (Ma (U b hm) (h4 b hb).1),(h4 b hb).2⟩))⟩
 | (j,true)::l,ls,own,f,w,V,hfr,H,hk1,h,hC,U,hp=>by
  simp only[zM,Bool.and_eq_true]at hp;obtain⟨⟨I,hf⟩,hc⟩:=hp;have hi:j∈Region.ready .any all.toArray ls:=by simpa using I
  have e:(List.length ((j,true)::l))+1+rest.length=(l.length+1+rest.length)+1:=by simp;omega
  rw[e];have he:Yq all d l=true:=by simp only[Yq,List.all_cons,Bool.and_eq_true]at hfr;exact hfr.2
  simp only[Yn,List.all_cons,Bool.and_eq_true]at H;have hh:Yn all Dc l=true:=H.2;cases E:all[j]? with
  | none =>
   exfalso;obtain⟨_,o,hu,_⟩:=mem_ready.1 hi;simp[E]at hu
  | some o =>
   obtain⟨hl,v,hv,hx⟩:=h;rw[Zh E]at hl hv hx;have hw:∀(j:Nat) (o:Oper) cs b,all[j]?=some o→o.op≠.select cs b:=λj o cs b hj=>Region.noSelect_spec hs j o cs b (by simpa using hj);have hy:=λk ok hk=>Region.free_spec (ops:=all.toArray) (md:=.any) (i:=j) (oi:=o) (listed:=ls) (by simpa using E) hf k ok (by simpa using hk)
   exact XI (v:=v) (D:=λw=>yB o=true→C w) E (λ_ h=>h) hw _ ls f w (λ_=>hC) hy hi (.inl ⟨hl,hv⟩) (Qea G hs J hd l _ own _ w (by simpa using V) he hh (by have:=KP (v:=v) H.1 hk1;rw[Zh E]at this;exact this) hx hC U hc)
 | (j,false)::l,ls,own,f,w,V,hfr,H,hk1,h,hC,U,hp=>by
  simp only[zM,Bool.and_eq_true,List.all_eq_true,Bool.or_eq_true,beq_iff_eq,Bool.not_eq_true']at hp;obtain⟨⟨⟨hn,I⟩,hz⟩,hc⟩:=hp;have e:(List.length ((j,false)::l))+1+rest.length=(l.length+1+rest.length)+1:=by simp;omega
  rw[e];have he:Yq all d l=true:=by simp only[Yq,List.all_cons,Bool.and_eq_true]at hfr;exact hfr.2
  simp only[Yn,List.all_cons,Bool.and_eq_true]at H;have hh:Yn all Dc l=true:=H.2;refine Y0 (λh0=>(by rw[h0]at hn;cases hn)) ?_;intro k hk o E;have Y:=Zh E;have hq:(ls.setIfInBounds k true).size=all.length:=by simpa using V
  by_cases ha:k=i
  ·subst ha;have hx:=G.spec f w hk1 hC;rw[Y]at J hd hx;rw[Ji J,cond_true];refine hx.mono λv w' hx=>?_;rw[hd]at hx ⊢;obtain⟨h1,h2,h3,h4⟩:=hx;simp only[QW,YQ]at h3 h4;refine⟨.inr (.inr h2),?_⟩;have hx:=U1 G hs ((j,false)::l) own f w' hfr (yp.ext G.mono h h1) h2 h3 (λb hb=>⟨λhm=>Nat.lt_irrefl _ (Ma (U b hm) (h4 b hb).1),(h4 b hb).2⟩)
   have:=Zz hs ((j,false)::(l++rest)) _ _ _ hq (.inl h2) hz hx;rw[show((j,false)::(l++rest)).length=l.length+1+rest.length by simp;omega]at this;exact this
  have h5:k=j:=(I k hk).resolve_right ha;subst h5;have h1:=h.1;have h2:=h.2 w (Step.refl _ _) hC;rw[Y]at h1 h2;rw[h1,cond_true];refine h2.mono λv w' hx=>?_;obtain⟨ht,own',h6,h7,hx⟩:=hx;refine⟨.inr (.inr ht),Qea G hs J hd l _ own' _ w' hq he hh (by have:=KP (v:=v) H.1 hk1;rw[Y]at this;exact this) hx ht (λb hb=>?_) hc⟩;rcases h7 b hb with h3|h3
  ·exact Ma (U b h3) h6.size
  exact h3.2
theorem yp.keeps {D:List (Nat×Nat)}{G:Fr}:∀(l:List (Nat×Bool)) (own:LN) (f:Fr) (w:World),Yn all D l=true→(∀t,Xk D t=false→f t=G t)→yp P all C KF l own f w→yp P all C (λo H w'=>(∀t,Xk D t=false→H t=G t)∧KF o H w') l own f w
 | [],own,f,w,_,E,h=>⟨E,h⟩
 | (j,true)::l,own,f,w,hd,E,h=>by
  simp only[Yn,List.all_cons,Bool.and_eq_true]at hd;obtain⟨I,v,J,hx⟩:=h;exact⟨I,v,J,yp.keeps l own _ _ hd.2 (KP hd.1 E) hx⟩
 | (j,false)::l,own,f,w,hd,E,h=>by
  simp only[Yn,List.all_cons,Bool.and_eq_true]at hd;refine⟨h.1,λU h1 hc=>XO.mono (λv w' hx=>?_) (h.2 U h1 hc)⟩;obtain⟨V,own',Y,ha,hx⟩:=hx;exact⟨V,own',Y,ha,yp.keeps l own' _ _ hd.2 (KP hd.1 E) hx⟩
theorem f2p {j:Nat}{l:List (Nat×Bool)}{own:LN}{v:Value}(E:∀w',(execOp (ev f) (QL all j)).run P w'=.ok (.value v) w')(h:yp P all C KF l own (QW f (QL all j).dst v) w)
  (G:Yd all f (QL all j)=true:=by rfl):yp P all C KF ((j,true)::l) own f w:=⟨G,v,λw' _=>E w',h⟩
theorem f2k {j:Nat}{l:List (Nat×Bool)}{own:LN}(h:∀w1,Step [] w w1→C w1→XO P (QL all j) f w1 λE w'=>C w'∧∃own',Step own w1 w'∧(∀b∈own',b∈own∨(w1.heap.size≤b∧b<w'.heap.size))∧yp P all C KF l own' E w')
  (G:Yd all f (QL all j)=true:=by rfl):yp P all C KF ((j,false)::l) own f w:=⟨G,h⟩
theorem f2e {own:LN}(h:KF own f w):yp P all C KF [] own f w:=h
theorem jQ {Q:Exit→Fr→World→Prop}{id:Nat}{α:Type}(C:World→Prop)(pre l:List (Nat×Bool))(i d:Nat)(rest:List (Nat×Bool))(own:LN)(D Dc:List (Nat×Nat))(S:α→List (Nat×Value))(I:α→LN→World→Prop)(Φ:Value→World→Prop)(hm:P.follows .mixedOrders=true)(U:Xn n all=true)
  (hp:Qi6 all pre l i rest=true) (G:(Yn all D pre && Yn all D l && Yn all Dc l)=true) (hd:(QL all i).dst=some d) (hC:C { w with drawn:=w.drawn+1 }) (V:∀b∈own,b<w.heap.size)
  (stab:∀v (own:LN) w w',Φ v w→Step own w w'→(∀b∈ow v,b∉own)→Φ v w') (mono:∀z own w w',I z own w→Step [] w w'→I z own w')
  (fin:∀z g own w v,I z own w→C w→Φ v w→(∀b∈ow v,b∉own∧b<w.heap.size)→XP P all C (λf w=>Q .normal f w) rest (QW (VA (S z) (mix D f g)) (some d) v) w)
  (h:XP P all C (λf1 _=>(∀g w,C w→XO P (QL all i) (mix Dc f1 g) w λE w'=>Step [] w w'∧C w'∧Φ (E d) w'∧∀b∈ow (E d),w.heap.size≤b∧b<w'.heap.size)∧yp P all C (λo E w'=>∃z,YV E (S z)∧I z o w') l own f1 { w with drawn:=w.drawn+1 }) pre f { w with drawn:=w.drawn+1 }):W P n (.region id all.toArray true) Q f w:=by
 rw[Lt,Lt]at G;simp only[Qi6,Bool.and_eq_true,beq_iff_eq,Option.isNone_iff_eq_none]at hp;obtain⟨⟨⟨⟨⟨hs,hl⟩,hq⟩,Y⟩,hg⟩,hfr⟩:=hp;rw[hd]at hfr;refine Y7 C hm U ?_;have h1:=ZP (K:=λf w=>Q .normal f w) (m:=l.length+1+rest.length) hs pre (Array.replicate all.length false) f _ hC hq
  (B:=λf1 _=>Fl2 P all C (λf w=>Q .normal f w) (λo E w'=>(∀t,Xk D t=false→E t=f t)∧∃z,YV E (S z)∧I z o w') i d rest Φ Dc f1∧yp P all C (λo E w'=>(∀t,Xk D t=false→E t=f t)∧∃z,YV E (S z)∧I z o w') l own f1 { w with drawn:=w.drawn+1 })
  (λf1 J=>Qea J.1 hs hg hd l (Zw pre (Array.replicate all.length false)) own f1 _ (by rw[ZN];simp) hfr G.2 (λ_ _=>rfl) J.2 hC V Y)
  (XP.keeps_mono _ _ _ (XP.keeps pre f _ G.1.1 (λ_ _=>O) h) (λf1 w1 hx=>⟨⟨stab,?_,?_,?_⟩,yp.keeps l own _ _ G.1.2 hx.1 hx.2.2⟩))
 ·rw[hl]at h1;exact h1
 ·intro E w' hk H;have:=hx.2.1 E w' H;rw[Xg hk]at this;exact this
 ·rintro o E w' ⟨hk,z,hs,hi⟩ v H hv hb;have:=fin z E o w' v hi H hv hb;rw[Xg hk,Yv hs]at this;exact this
 rintro o E w' hc ⟨hk,z,hs,hi⟩ ha;exact⟨hk,z,hs,mono z o _ _ hi ha⟩
end
attribute [irreducible] yp
end Go.Lg
namespace Go.Proofs.YtjcgijbhaemldaaGreatDoor
open Go.Lg
abbrev Xf:LV:=[nS,nS,nS,nS,nS]
abbrev Qif:LV:=[nS,.int .i64 0,nS,nS]
theorem X6 {a:Array UInt8}(h:a.size≤100):(⟨a⟩:ByteArray).size≤9223372036854775807:=by
 show a.size≤_;omega
def rgB (N M:Nat):LN:=(List.range M).filter λb=>decide (N≤b)
theorem JE {N M b:Nat}:b∈rgB N M↔N≤b∧b<M:=by
 unfold rgB;rw[LJ,Mb,decide_eq_true_iff];exact And.comm
open Go.Proofs.Tryz
def Vx (co:LI)(ls:List (Int×Int)):List (Int×Int):=ls.map λl=>((lwB co l.1:Int),l.2)
theorem Qfg {co:LI}(hi:Z2 co){ls:List (Int×Int)}(h:mis co ls=false):Vx co ls=ixP co ls:=by
 unfold Vx ixP;refine MP λl hl=>?_;unfold mis at h;have h1:=M8.1 h l hl;have hm:l.1∈co:=by simpa using h1
 rw[Qe3 hi hm]
abbrev exG (c:Q7)(i:Int):Exc:=c.ex.getD i.toNat ⟨.empty,[]⟩
abbrev csG (c:Q7)(i:Int):Ju:=c.cs.getD i.toNat ⟨.empty,[],0⟩
def exB (c:Q7)(co ix:LI):List Exc:=ix.map λi=>⟨(exG c i).nm,Vx co (exG c i).ls⟩
def csB (c:Q7)(co ix:LI):List Ju:=ix.map λi=>⟨(csG c i).nm,Vx co (csG c i).ts,(csG c i).bd⟩
def exM (c:Q7)(co ix:LI):Bool:=ix.any λi=>mis co (exG c i).ls
def csM (c:Q7)(co ix:LI):Bool:=ix.any λi=>mis co (csG c i).ts
theorem QkY (c:Q7)(p:Prt):QhC c p=(exM c p.co p.ex || csM c p.co p.cs):=rfl
theorem Qmh {c:Q7}{p:Prt}(hi:Z2 p.co)(h:exM c p.co p.ex=false):exB c p.co p.ex=QkX c p:=by
 unfold exB QkX;refine MP λi E=>?_;rw[Qfg hi (by have:=M8.1 h i E;simpa using this)]
theorem Qmq {c:Q7}{p:Prt}(hi:Z2 p.co)(h:csM c p.co p.cs=false):csB c p.co p.cs=QkZ c p:=by
 unfold csB QkZ;refine MP λi E=>?_;rw[Qfg hi (by have:=M8.1 h i E;simpa using this)]
def ck4:List (Value×LI×Int)→Int
 | []=>0
 | (_,s,n)::l=>if YM n none s≠0 then YM n none s else ck4 l
abbrev skC (x:Value×LI×Int):LV:=[x.1,.int .i64 x.2.2]
theorem QnH (x:Value×LI×Int):(skC x).length=2:=rfl
theorem QcK:∀{l:List (Value×LI×Int)},ck4 l=0→∀x∈l,YM x.2.2 none x.2.1=0
 | [],_,x,hx=>by cases hx
 | (v,s,n)::l,h,x,hx=>by
  rw[ck4]at h;by_cases h1:YM n none s≠0
  ·rw[if_pos h1]at h;exact absurd h h1
  rw[if_neg h1]at h;rcases Le.1 hx with rfl|hx
  ·exact Ln.1 h1
  exact QcK h x hx
theorem Ye.app2 {α:Type}{g:α→LV}{sz T:Nat}{p:α→Value×Nat×Nat×LV}{base N e:Nat}{E G:World}{v H:Value}{l:List α}{q:α}(h:Ye g sz T p base E v l)
  (hq:E.ownsRow N e (p q).2.2.1 (p q).1 (p q).2.1 (p q).2.2.2) (U:(p q).2.1≤1099511627776) (hb:base≤N) (V:∀b∈ob v,b<N)
  (Y:G.ownsRow base T sz H (l.length+1) (l.flatMap g++g q)) (I:Step (ob v) E G) (J:∀b∈ob H,b∈ob v∨E.heap.size≤b):Ye g sz T p base G H (l++[q]):=by
 refine⟨?_,λd hd=>?_⟩
 ·rw[Lj,LG];simpa using Y
 rcases Lo.1 hd with hd|hd
 ·exact(h.each d hd).app I J
 simp only[List.mem_singleton]at hd;subst hd;exact(Z3.of_own hq U hb V).app I J
instance:Bw prog 37 [nS,nS,nS,nS,nS] [(0,1),(1,1),(2,1),(3,1),(4,1)]:=⟨by kernel_rfl,by decide⟩
theorem X5 {v:Value}(h:v.oneCell'=true):v.cells=[v].toArray:=by
 cases v <;> first|rfl|cases h
theorem QiR {N M:Nat}{w':World}{v:Value}{qs:List IV}(h:∀L:LN,(∀b∈L,b<N)→Xm L w'.heap v qs)(H:w'.heap.size=M){L:LN}(E:∀b∈L,b∉rgB N M):Xm L w'.heap v qs:=by
 refine(h (L.filter λb=>decide (b<N)) (λb hb=>by have:=(LJ.1 hb).2;exact of_decide_eq_true this)).up (λb hb=>?_);by_cases G:b<N
 ·exact .inl (LJ.2 ⟨hb,decide_eq_true G⟩)
 refine .inr ?_;have:=E b hb;rw[JE]at this;omega
structure EiA (L:LN)(H:Array Obj)(z:Value×Value×Value)(ev:List Vp)(qc qr:List IV):Prop where
 ev:KA L H z.1 ev
 co:Xm L H z.2.1 qc
 rq:Xm L H z.2.2 qr
theorem EiA.ext {L:LN}{w w':World}{z:Value×Value×Value}{ev:List Vp}{qc qr:List IV}(h:EiA L w.heap z ev qc qr)(hs:Step [] w w'):EiA L w'.heap z ev qc qr:=⟨h.ev.ext hs,h.co.ext hs,h.rq.ext hs⟩
theorem EiA.st {L:LN}{w w':World}{z:Value×Value×Value}{ev:List Vp}{qc qr:List IV}(h:EiA L w.heap z ev qc qr)(hs:Step L w w'):EiA L w'.heap z ev qc qr:=⟨h.ev.st hs,h.co.st hs,h.rq.st hs⟩
theorem EiA.up {L L':LN}{H:Array Obj}{z:Value×Value×Value}{ev:List Vp}{qc qr:List IV}(h:EiA L H z ev qc qr)(E:∀b∈L',b∈L∨H.size≤b):EiA L' H z ev qc qr:=⟨h.ev.up E,h.co.up E,h.rq.up E⟩
set_option maxRecDepth 4096 in
set_option maxHeartbeats 16000000 in
theorem Qd3 {L:LN}{w:World}{c:CL}{v0 v1 v2 v3:Value}{p:Prt}(H:ZQ L w.heap c)(hc0:QJ L w.heap v0 p.co)(hr0:QJ L w.heap v1 p.rq)(hx0:QJ L w.heap v2 p.ex)(hk0:QJ L w.heap v3 p.cs):
  QH prog 158 [c.val,.agg #[v0,v1,v2,v3]] w λr w'=>Step [] w w'∧∃us,r=.tuple #[.agg us.toArray,.int .i64 (qZ c.cel p)]∧us.length=5∧ZM us∧(qZ c.cel p≠0→us=Xf)∧(qZ c.cel p=0→QmY w.heap.size w'.heap (.agg us.toArray) (Qf8 c.cel p)):=by
 have h:=H.up (L':=[]) (by simp);have hc:=hc0.up (L':=[]) (by simp);have hr:=hr0.up (L':=[]) (by simp);have hx:=hx0.up (L':=[]) (by simp);have hk:=hk0.up (L':=[]) (by simp)
 have I:qZ c.cel p=if Zi c.cel≠0 then Zi c.cel else if ck4 [(v0,p.co,(c.co.length:Int)),(v1,p.rq,(c.rq.length:Int)),(v2,p.ex,(c.ex.length:Int)),(v3,p.cs,(c.cs.length:Int))]≠0 then ck4 [(v0,p.co,(c.co.length:Int)),(v1,p.rq,(c.rq.length:Int)),(v2,p.ex,(c.ex.length:Int)),(v3,p.cs,(c.cs.length:Int))]
   else if(exM c.cel p.co p.ex || csM c.cel p.co p.cs)=true then 13 else Zi (Qf8 c.cel p):=by
  have e1:c.cel.co.length=c.co.length:=Lh ..;have e2:c.cel.rq.length=c.rq.length:=Lh ..;have e3:c.cel.ex.length=c.ex.length:=Lh ..;have e4:c.cel.cs.length=c.cs.length:=Lh ..;unfold qZ;rw[e1,e2,e3,e4,QkY];simp only[ck4];by_cases q0:Zi c.cel≠0
  ·rw[if_pos q0,if_pos q0]
  rw[if_neg q0,if_neg q0];by_cases q1:YM (c.co.length:Int) none p.co≠0
  ·simp only[if_pos q1]
  simp only[if_neg q1];by_cases q2:YM (c.rq.length:Int) none p.rq≠0
  ·simp only[if_pos q2]
  simp only[if_neg q2];by_cases q3:YM (c.ex.length:Int) none p.ex≠0
  ·simp only[if_pos q3]
  simp only[if_neg q3];by_cases q4:YM (c.cs.length:Int) none p.cs≠0
  ·simp only[if_pos q4]
  simp only[if_neg q4];simp
 refine Zj (qZ c.cel p) λE hE=>?_;rw[hE]at I ⊢;refine Zj [(v0,p.co,(c.co.length:Int)),(v1,p.rq,(c.rq.length:Int)),(v2,p.ex,(c.ex.length:Int)),(v3,p.cs,(c.cs.length:Int))] λG gh=>?_;rw[gh]at I;have hl4n:G.length=4:=by rw[←gh];rfl
 have hl4i:∀x∈G,QJ [] w.heap x.1 x.2.1:=by
  rw[←gh];intro x hm;simp only[List.mem_cons,List.not_mem_nil,or_false]at hm;rcases hm with rfl|rfl|rfl|rfl
  ·exact hc
  ·exact hr
  ·exact hx
  exact hk
 have hl4z:ck4 G=0→YM (c.co.length:Int) none p.co=0∧YM (c.rq.length:Int) none p.rq=0∧YM (c.ex.length:Int) none p.ex=0∧YM (c.cs.length:Int) none p.cs=0:=by
  intro H;have h1:=QcK H;rw[←gh]at h1;exact⟨h1 (v0,p.co,_) (by simp),h1 (v1,p.rq,_) (by simp),h1 (v2,p.ex,_) (by simp),h1 (v3,p.cs,_) (by simp)⟩
 have hxl:=hx.le;have hkl:=hk.le;refine QH.of_W func158 O ntmps158 results158 (by simp) ?_;refine Qc<|xl O<|QR (us:=c.cells) O λb2 w1 hs1 hb2 mu=>xl O<|QR (us:=[v0,v1,v2,v3]) O λb3 w2 mv hb3 z3=>xl O<|Qu (us:=Xf) O λb4 w3 ke hb4 z4=>Qf ?_;have hl2:=mu.lt;have hl3:=z3.lt;have hl4':=z4.lt;have z5:=(hs1.trans mv).trans ke
 refine Qg<|Qc<|x (Qo ((mu.ext mv).ext ke) O O)<|xl O<|xf<|(Xt (h.ext z5)).mono ?_;rintro r4 w4 ⟨rfl,gi⟩;refine Qf ?_;have mw:=z5.trans gi;have hz4:=gi.size;have gj:=((mu.ext mv).ext ke).ext gi;have gk:=(z3.ext ke).ext gi;have my:=z4.ext gi;refine Qc<|Qb<|x (Q6 O O)<|xe<|Q3 rfl (λkf=>?_) (λkf=>?_)
 ·rw[if_pos kf]at I;subst I;refine Qc<|x (QM Z)<|Qb<|xl O<|Qn (us:=Xf) my O O O O ⟨O,O,O,O,O,Z⟩ λw5 hs5 hB45=>Qf ?_;exact Ql ⟨[.agg Xf.toArray,.int .i64 (Zi c.cel)],⟨⟨_,O,Qx O (hB45.at (L:=[]) (by simp)).cells⟩,rfl,Z⟩,mw.then1 hs5 (by omega),Xf,rfl,rfl,⟨rfl,rfl,rfl,rfl,rfl,Z⟩,λ_=>rfl,λH=>absurd H kf⟩
 rw[if_neg kf]at I;refine Qi ?_;have h4:=h.ext mw;refine Qg<|Qc<|x (Qa O)<|x (Qd gk O O)<|x (Qa O)<|x (Qd gj O O)<|x (Qr h4.co.arr O)<|x (QM ⟨hc.cells,O,Z⟩) <|
  x (Qa rfl)<|x (Qd gk O O)<|x (Qa O)<|x (Qd gj O O)<|x (Qr h4.rq.arr O)<|x (QM ⟨hr.cells,O,Z⟩) <|
  x (Qa rfl)<|x (Qd gk O O)<|x (Qa O)<|x (Qd gj O O)<|x (Qr h4.ex.arr O)<|x (QM ⟨hx.cells,O,Z⟩) <|
  x (Qa rfl)<|x (Qd gk O O)<|x (Qa O)<|x (Qd gj O O)<|x (Qr h4.cs.arr O)<|x (QM ⟨hk.cells,O,Z⟩) <|
  xl rfl<|QG (us:=[skC (v0,p.co,(c.co.length:Int)),skC (v1,p.rq,(c.rq.length:Int)),skC (v2,p.ex,(c.ex.length:Int)),skC (v3,p.cs,(c.cs.length:Int))]) O O (by decide) (by simp) ⟨rfl,rfl,rfl,rfl,rfl,rfl,rfl,rfl,Z⟩ λb54 w6 hS hb54 hB54=>?_
 have z9:Zy [] w6.heap (.slice (some ⟨b54,0,none⟩) 4 4) G.length 2 (G.flatMap skC):=by
  have:=hB54.arr (L:=[]) (by simp) (n:=4) (cap:=4) (sz:=2) (by rfl) (by omega) (Lu _);rw[hl4n,←gh];exact this
 refine x (Qr z9 O)<|Qb<|xe ?_;have hs06:=mw.trans hS;have hz6:=hS.size;refine Qh<|Qz (α:=Nat) [(5,5),(8,9),(56,69)] (λz=>[(56,.int .i64 z)]) (λz w'=>z≤G.length∧Step [] w6 w'∧ck4 (G.drop z)=ck4 G) (λz=>G.length - z) (by rfl) 0 La ⟨Ll _,Step.refl _ _,O⟩ ?_;rintro k g U ⟨hkl4,h6,hck⟩;have gl:=hs06.trans h6;have hz7:=h6.size;refine Qc<|x (QA O O)<|xe ?_
 refine Qg<|QC O (λmz=>?_) (λmz=>?_)
 ·refine Qy ?_;have hke:G.length≤k:=by have ho:¬(k:Int)<(G.length:Int):=mz;omega
  rw[Lv hke]at hck;have hck0:ck4 G=0:=hck.symm;rw[if_neg (λH=>H hck0)]at I;obtain⟨zco,zrq,zex,zcs⟩:=hl4z hck0;have gm:=(Z1 _ _ _).1 zco;have hrq:=(Z1 _ _ _).1 zrq;have hexz:=(Z1 _ _ _).1 zex;have hcsz:=(Z1 _ _ _).1 zcs;have h7:=h.ext gl;have kg:QT U.heap b2 37 c.cells:=(gj.ext hS).ext h6;have m0:QT U.heap b3 281 [v0,v1,v2,v3]:=(gk.ext hS).ext h6
  have hB47:QT U.heap b4 37 Xf:=(my.ext hS).ext h6;have hsd:Step [] U { U with drawn:=U.drawn+1 }:=Step.drew _ _
  refine QX (α:=Nat×(Value×Value×Value)×List IV×List IV) [(70,83),(10,10)] (λz=>[(10,.pointer (some ⟨z.1,0,none⟩))]) (λz w'=>Step [] U w'∧U.heap.size≤z.1∧QT w'.heap z.1 37 [z.2.1.1,z.2.1.2.1,z.2.1.2.2,nS,nS] ∧
   z.2.2.1.map IV.it=chs c.cel.co p.co∧z.2.2.2.map IV.it=chs c.cel.rq p.rq∧ZM [z.2.1.1,z.2.1.2.1,z.2.1.2.2]∧∀L:LN,(∀b∈L,b<U.heap.size∨b=z.1)→EiA L w'.heap z.2.1 c.ev z.2.2.1 z.2.2.2) (by rfl) ?_ ?_
  ·refine jQ (α:=(Value×Value×Value)×List IV×List IV) (Step [] U) [(0,true),(1,true),(3,true),(4,true),(5,true),(6,true),(8,true),(9,true),(10,true),(11,true)] [(2,false),(7,false),(12,false),(13,true)] 14 10 [(15,false)] []
    [(70,83)] [(72,72),(77,77),(82,83)] (λz=>[(83,.agg [z.1.1,z.1.2.1,z.1.2.2,nS,nS].toArray)])
    (λz own w'=>(∀b∈own,U.heap.size≤b)∧z.2.1.map IV.it=chs c.cel.co p.co∧z.2.2.map IV.it=chs c.cel.rq p.rq∧ZM [z.1.1,z.1.2.1,z.1.2.2]∧∀L:LN,(∀b∈L,b∉own)→EiA L w'.heap z.1 c.ev z.2.1 z.2.2)
    (λv w'=>∃b,v=.pointer (some ⟨b,0,none⟩)∧U.heap.size≤b∧QT w'.heap b 37 Xf) mixed (by rfl) (by kernel_rfl) (by rfl) O hsd (by simp) ?_ ?_ ?_ ?_
   ·rintro v own wa wb ⟨b,rfl,hb,hB⟩ hs hn;exact⟨b,O,hb,hB.step hs (hn b (by simp[ow]))⟩
   ·rintro z own wa wb ⟨h1,h2,h3,h4,h5⟩ hs;exact⟨h1,h2,h3,h4,λL hL=>(h5 L hL).ext hs⟩
   ·rintro⟨zv,qc,qr⟩ g own wz v ⟨i1,i2,i3,i4,i5⟩ hCz ⟨b10,rfl,kh,hB10⟩ hbo;simp only[]at i2 i3 i4 i5;have hb10o:=(hbo b10 (by simp[ow])).1;refine pkl (hl:=by kernel_rfl)<|Qn (us:=[zv.1,zv.2.1,zv.2.2,nS,nS]) hB10 O O O O ⟨i4.1,i4.2.1,i4.2.2.1,O,O,Z⟩ λw8 hT hB108=>pe ?_;refine⟨(b10,zv,qc,qr),La,hCz.then1 hT kh,kh,hB108,i2,i3,i4,λL hL=>?_⟩;have h1:=i5 (b10::L) (λb hb=>by
     rcases Le.1 hb with rfl|hb
     ·exact hb10o
     rcases hL b hb with h2|h2
     ·exact λh3=>by have:=i1 b h3;omega
     subst h2;exact hb10o)
    exact(h1.st (hT.mono (by simp))).up (λb hb=>.inl (by simp[hb]))
   refine Go.Lg.p (λ_=>Qa O)<|pq (λ_ hc=>Qd (kg.ext hc) O O)<|Go.Lg.p (λ_=>Qa O)<|pq (λ_ hc=>Qd (kg.ext hc) O O) <|
    Go.Lg.p (λ_=>Qa O)<|pq (λ_ hc=>Qd (m0.ext hc) O O)<|Go.Lg.p (λ_=>Qa O)<|pq (λ_ hc=>Qd (kg.ext hc) O O) <|
    Go.Lg.p (λ_=>Qa O)<|pq (λ_ hc=>Qd (m0.ext hc) O O)<|pe ⟨λg wf hCf=>Qu (us:=Xf) O λb wf' hsf hbf hBf=>⟨hsf,hCf.trans hsf,⟨b,O,LL hCf.size hbf,hBf⟩,λx hx=>?_⟩,?_⟩
   ·have hxe:x=b:=by
     have hx':x∈[b]:=hx;simpa using hx'
    subst hxe;exact⟨hbf,hBf.lt⟩
   refine f2k λx1 p1 c1=>xf<|(QdX (h7.ev.ext c1).arr).mono ?_;rintro m1 y1 ⟨hs1',hU⟩;refine⟨c1.trans hs1',rgB x1.heap.size y1.heap.size,hs1'.any,λb hb=>.inr (JE.1 hb),?_⟩;refine f2k λx2 p2 c2=>xf<|(yf (h7.co.ext c2) (hc.ext (gl.trans c2)) (λi hi=>gm.1 i hi)).mono ?_;rintro r77 y2 ⟨m2,⟨qc,ki,hqcI⟩,kj⟩
   refine⟨c2.trans m2,rgB x1.heap.size y1.heap.size++rgB x2.heap.size y2.heap.size,m2.any,λb hb=>(Lo.1 hb).imp id λhb=>JE.1 hb,?_⟩;refine f2k λx3 p3 c3=>xf<|(yf (h7.rq.ext c3) (hr.ext (gl.trans c3)) (λi hi=>hrq.1 i hi)).mono ?_;rintro r82 y3 ⟨kk,⟨qr,kn,hqrI⟩,ko⟩
   refine⟨c3.trans kk,(rgB x1.heap.size y1.heap.size++rgB x2.heap.size y2.heap.size)++rgB x3.heap.size y3.heap.size,kk.any,λb hb=>(Lo.1 hb).imp id λhb=>JE.1 hb,?_⟩;refine f2p (λ_=>ZD [(0,[m1]),(1,[r77]),(2,[r82])] ⟨Zp hU,O,X5 kj,O,X5 ko,O,Z⟩)<|f2e ?_;refine⟨((m1,r77,r82),qc,qr),La,λb hb=>?_,ki,kn,⟨QQ hU,kj,ko,Z⟩,λL hL=>?_⟩
   ·have e1:=c1.size;have e2:=c2.size;have e3:=c3.size;rcases Lo.1 hb with hb|hb
    ·rcases Lo.1 hb with hb|hb
     ·have:=JE.1 hb;omega
     have:=JE.1 hb;omega
    have:=JE.1 hb;omega
   have hL1:∀b∈L,b∉rgB x1.heap.size y1.heap.size:=λb hb hm=>hL b hb (by simp[hm]);have hL2:∀b∈L,b∉rgB x2.heap.size y2.heap.size:=λb hb hm=>hL b hb (by simp[hm]);have hL3:∀b∈L,b∉rgB x3.heap.size y3.heap.size:=λb hb hm=>hL b hb (by simp[hm]);have hev1:KA L y1.heap m1 c.ev:=⟨QV hU h.ev.arr.le (λb hb hm=>hL1 b hm (JE.2 (Qq hU b hb))),h.ev.nm⟩
   exact⟨(((hev1.ext p2).ext m2).ext p3).ext kk,((QiR hqcI O hL2).ext p3).ext kk,QiR hqrI O hL3⟩
  rintro⟨b10,zv,qc,qr⟩ g wc ⟨hsc,kh,m3,ki,kn,kp,hEi⟩;simp only[]at kh m3 ki kn kp hEi;have hl10:=m3.lt;refine Qc<|xl O<|Qu (us:=[.bool false]) O λb11 w8 hT hb11 hB11=>xl O<|QF (j:=0) (u:=.bool false) hB11 O O (by simp) rfl λw9 m4 kq=>xe ?_;have kr:Step [] wc w9:=hT.then1 m4 hb11;have h8:=hsc.trans kr;have gn:=gl.trans h8;have hz9:=kr.size
  have hl11:=kq.lt;have hB109:=m3.ext kr;have hB29:=kg.ext h8;have hB39:=m0.ext h8;have hB49:=hB47.ext h8;have hn10:b10≠b11:=by omega
  have hup:∀b∈[b10,b11],w.heap.size≤b:=λb hb=>by simp only[List.mem_cons,List.not_mem_nil,or_false]at hb;omega
  have kt:∀b∈[b10,b11],b<w9.heap.size:=λb hb=>by simp only[List.mem_cons,List.not_mem_nil,or_false]at hb;omega
  have hn2:b2∉[b10,b11]:=λhb=>by simp only[List.mem_cons,List.not_mem_nil,or_false]at hb;omega
  have hn3:b3∉[b10,b11]:=λhb=>by simp only[List.mem_cons,List.not_mem_nil,or_false]at hb;omega
  have hn4:b4∉[b10,b11]:=λhb=>by simp only[List.mem_cons,List.not_mem_nil,or_false]at hb;omega
  have ku:∀b∈[b10],b∈[b10,b11]:=λb hb=>by simp only[List.mem_singleton]at hb;simp[hb]
  have kv:∀b∈[b11],b∈[b10,b11]:=λb hb=>by simp only[List.mem_singleton]at hb;simp[hb]
  have hU:=kp.1;have kj:=kp.2.1;have ko:=kp.2.2.1;refine Qc<|x (Zo (l:=[]) (l':=[_,_]))<|Qf<|Qg<|Qc<|x (Qa O)<|x (Qd hB39 O O)<|x (Qr (hx.ext gn) O)<|Qb<|xe<|Qh<|Qz (α:=Nat×Bool×Value×List XV) [(14,15),(17,17),(88,129)] (λz=>[(88,.int .i64 z.1)]) (λz w'=>z.1≤p.ex.length∧Step [b10,b11] w9 w'∧QT w'.heap b10 37 [zv.1,zv.2.1,zv.2.2,z.2.2.1,nS]∧QT w'.heap b11 4 [.bool z.2.1] ∧
   XvN w9.heap.size w' z.2.2.1 z.2.2.2∧z.2.2.2.map (·.x)=exB c.cel p.co (p.ex.take z.1)∧z.2.1=exM c.cel p.co (p.ex.take z.1)∧∀q∈z.2.2.2,yC q.nm) (λz=>p.ex.length - z.1) (by rfl) (0,false,nS,[]) La
   ⟨Ll _,Step.refl _ _,hB109,kq,Ye.nil,O,O,λq hq=>by cases hq⟩ ?_
  rintro⟨k,mi,vx,qx⟩ g V ⟨hk10,hF,m5,gq,kw,gr,kz,m6⟩;simp only[]at hk10 m5 gq kw gr kz m6;have gs:Step [] w V:=gn.then hF (λb hb=>.inr (hup b hb));have m7:=h.ext gs;have m8:=hB29.step hF hn2;have m9:=hB39.step hF hn3;have pa:=hB49.step hF hn4;have hz10:=hF.size
  have hqxl:qx.length=k:=by have:=congrArg List.length gr;unfold exB at this;rw[Lh,Lh,LC]at this;omega
  refine Qc<|x (QA O O)<|xe<|Qg<|QC O (λhG=>?_) (λhG=>?_)
  ·refine Qy ?_;have pc:p.ex.length≤k:=by have ho:¬(k:Int)<(p.ex.length:Int):=hG;omega
   rw[Lp pc]at gr kz;have hlt10:∀b∈[b10,b11],b<V.heap.size:=λb hb=>by have:=kt b hb;omega
   refine Qg<|Qc<|x (Qa O)<|x (Qd m9 O O)<|x (Qr (hk.ext gs) O)<|Qb<|xe<|Qh<|Qz (α:=Nat×Bool×Value×List KV) [(19,20),(22,22),(133,180)] (λz=>[(133,.int .i64 z.1)]) (λz w'=>z.1≤p.cs.length∧Step [b10,b11] V w'∧QT w'.heap b10 37 [zv.1,zv.2.1,zv.2.2,vx,z.2.2.1]∧QT w'.heap b11 4 [.bool z.2.1] ∧
    KvN V.heap.size w' z.2.2.1 z.2.2.2∧z.2.2.2.map (·.k)=csB c.cel p.co (p.cs.take z.1)∧z.2.1=(mi || csM c.cel p.co (p.cs.take z.1))∧∀q∈z.2.2.2,yC q.nm) (λz=>p.cs.length - z.1) (by rfl) (0,mi,nS,[]) La
    ⟨Ll _,Step.refl _ _,m5,gq,Ye.nil,O,by simp[csM],λq hq=>by cases hq⟩ ?_
   rintro⟨k,mk,vk,kx⟩ g hg ⟨hkk10,h9,kB1010,kB1110,kX10,gt,k0,pd⟩;simp only[]at hkk10 kB1010 kB1110 kX10 gt k0 pd;have gu:Step [] w hg:=gs.then h9 (λb hb=>.inr (hup b hb));have k4:=h.ext gu;have kB210:=m8.step h9 hn2;have kB310:=m9.step h9 hn3;have kB410:=pa.step h9 hn4;have kz10:=h9.size
   have hkxl:kx.length=k:=by have:=congrArg List.length gt;unfold csB at this;rw[Lh,Lh,LC]at this;omega
   refine Qc<|x (QA O O)<|xe<|Qg<|QC O (λhG=>?_) (λhG=>?_)
   ·refine Qy ?_;have pc:p.cs.length≤k:=by have ho:¬(k:Int)<(p.cs.length:Int):=hG;omega
    rw[Lp pc]at gt k0;have hmm:mk=(exM c.cel p.co p.ex || csM c.cel p.co p.cs):=by rw[k0,kz]
    rw[←hmm]at I;have kXu:XvN w9.heap.size hg vx qx:=Ye.low kw h9 kt;refine Qg<|Qc<|x (Qd kB1110 O O)<|xe<|QZ O (λk5=>?_) (λk5=>?_)
    ·rw[if_pos k5]at I;subst I;refine Qc<|x (QM Z)<|xl O<|Qn (us:=Xf) kB410 O O O O ⟨O,O,O,O,O,Z⟩ λu11 k6 kB411=>Qf ?_;exact Ql ⟨[.agg Xf.toArray,.int .i64 13],⟨⟨_,O,Qx O (kB411.at (L:=[]) (by simp)).cells⟩,rfl,Z⟩,gu.then1 k6 (by omega),Xf,rfl,rfl,⟨rfl,rfl,rfl,rfl,rfl,Z⟩,λ_=>rfl,λH=>absurd H (by decide)⟩
    rw[if_neg (by rw[k5];simp)]at I;refine Qi ?_;have hmf:(exM c.cel p.co p.ex || csM c.cel p.co p.cs)=false:=by rw[←hmm];exact k5
    have hmf2:=MK.1 hmf;have hE1:qx.map (·.x)=QkX c.cel p:=gr.trans (Qmh gm.2.1 hmf2.1);have hE2:kx.map (·.k)=QkZ c.cel p:=gt.trans (Qmq gm.2.1 hmf2.2);have hcel:(CL.mk zv.1 zv.2.1 zv.2.2 vx vk c.ev qc qr qx kx).cel=Qf8 c.cel p:=by
     show Q7.mk c.ev (qc.map IV.it) (qr.map IV.it) (qx.map (·.x)) (kx.map (·.k))=Q7.mk c.cel.ev _ _ _ _;rw[ki,kn,hE1,hE2];rfl
    have hCu:∀L:LN,(∀b∈L,b<w.heap.size)→ZQ (b4::L) hg.heap (CL.mk zv.1 zv.2.1 zv.2.2 vx vk c.ev qc qr qx kx):=by
     intro L hL;have e1:=hEi (b4::b10::L) (λb hb=>by
      rcases Le.1 hb with rfl|hb
      ·exact .inl (by omega)
      rcases Le.1 hb with rfl|hb
      ·exact .inr O
      have:=hL b hb;exact .inl (by omega))
     have e2:EiA (b11::b4::b10::L) wc.heap zv c.ev qc qr:=e1.up (λb hb=>by
      rcases Le.1 hb with rfl|hb
      ·exact .inr hb11
      exact .inl hb)
     have hm2:∀b∈[b10,b11],b∈b11::b4::b10::L:=λb hb=>by
      simp only[List.mem_cons,List.not_mem_nil,or_false]at hb;rcases hb with rfl|rfl <;> simp
     have e3:=((e2.ext kr).st (hF.mono hm2)).st (h9.mono hm2);have e4:EiA (b4::L) hg.heap zv c.ev qc qr:=e3.up (λb hb=>by
      rcases Le.1 hb with rfl|hb
      ·exact .inl (by simp)
      exact .inl (by simp[hb]))
     have hqx40:qx.length≤1099511627776:=by omega
     have hkx40:kx.length≤1099511627776:=by omega
     have pf:∀b∈b4::L,b<w9.heap.size:=λb hb=>by
      rcases Le.1 hb with rfl|hb
      ·omega
      have:=hL b hb;omega
     have hLt10:∀b∈b4::L,b<V.heap.size:=λb hb=>by have:=pf b hb;omega
     exact⟨e4.ev,e4.co,e4.rq,⟨Ye.arr kXu hqx40 pf,λq hq=>kXu.each q hq _ (λb hb=>.inl (pf b hb)),m6⟩,⟨Ye.arr kX10 hkx40 hLt10,λq hq=>kX10.each q hq _ (λb hb=>.inl (hLt10 b hb)),pd⟩⟩
    rw[←hcel]at I;subst I;refine Qg<|Qc<|x (Qo kB1010 O O)<|xl O<|xf<|(Xt (hCu [] (by simp))).mono ?_;rintro r12 hH ⟨rfl,hV⟩;refine Qf ?_;have gv:=gu.trans hV;have kB412:=kB410.ext hV;refine Qc<|Qb<|x (Q6 O O)<|xe<|Q3 O (λk7=>?_) (λk7=>?_)
    ·refine Qc<|x (QM Z)<|Qb<|xl O<|Qn (us:=Xf) kB412 O O O O ⟨O,O,O,O,O,Z⟩ λhA k8 kB413=>Qf ?_;exact Ql ⟨[.agg Xf.toArray,.int .i64 (Zi (CL.mk zv.1 zv.2.1 zv.2.2 vx vk c.ev qc qr qx kx).cel)],⟨⟨_,O,Qx O (kB413.at (L:=[]) (by simp)).cells⟩,rfl,Z⟩,gv.then1 k8 (by omega),Xf,rfl,rfl,⟨rfl,rfl,rfl,rfl,rfl,Z⟩,λ_=>rfl,λH=>absurd H k7⟩
    refine Qi ?_;have hone5:ZM [zv.1,zv.2.1,zv.2.2,vx,vk]:=⟨hU,kj,ko,QQ kXu.own,QQ kX10.own,Z⟩
    refine Qc<|x (Qo (kB1010.ext hV) O O)<|xl O<|Qn (us:=[zv.1,zv.2.1,zv.2.2,vx,vk]) kB412 O O O O hone5 λhA k8 kB413=>Qf<|Ql ⟨[.agg [zv.1,zv.2.1,zv.2.2,vx,vk].toArray,.int .i64 0],⟨⟨_,O,Qx O (kB413.at (L:=[]) (by simp)).cells⟩,rfl,Z⟩,gv.then1 k8 (by omega),[zv.1,zv.2.1,zv.2.2,vx,vk],?_,rfl,hone5,λH=>absurd H k7,λ_=>⟨(CL.mk zv.1 zv.2.1 zv.2.2 vx vk c.ev qc qr qx kx),rfl,hcel,λL hL=>?_⟩⟩
    ·have H:Zi (CL.mk zv.1 zv.2.1 zv.2.2 vx vk c.ev qc qr qx kx).cel=0:=Ln.1 k7;rw[H];rfl
    exact((((hCu L hL).ext hV).st (k8.mono (by simp)))).up (λb hb=>.inl (by simp[hb]))
   refine Qi ?_;have Y:k<p.cs.length:=by have ho:(k:Int)<(p.cs.length:Int):=hG;omega
   have hI:p.cs.take (k+1)=p.cs.take k++[p.cs[k]'Y]:=Li Y;have pg:=hcsz.1 _ (Lc Y);refine Zj (p.cs[k]'Y) λi gx=>?_;rw[gx]at hI pg;have hW:i=(i.toNat:Int):=by omega
   have J:i.toNat<c.cs.length:=by omega
   have hp:=Lc J;have hJ:csG c.cel i=(c.cs[i.toNat]'J).k:=by
    show(c.cs.map (·.k)).getD i.toNat ⟨.empty,[],0⟩=_;simp[List.getD,J]
   refine Zj (c.cs[i.toNat]'J) λq hq=>?_;rw[hq]at hp hJ;have gy:=k4.cs.each q hp;have ph:=k4.cs.nm q hp;have hql:=gy.le;have hcsB:csB c.cel p.co (p.cs.take (k+1))=csB c.cel p.co (p.cs.take k)++[⟨q.nm,Vx p.co q.ts,q.bd⟩]:=by
    rw[hI];unfold csB;rw[Lx,MA,hJ];rfl
   have hcsM:csM c.cel p.co (p.cs.take (k+1))=(csM c.cel p.co (p.cs.take k) || mis p.co q.ts):=by
    rw[hI];unfold csM;rw[List.any_append,Nw,List.any_nil,Bool.or_false,hJ];rfl
   refine Qg<|Qh<|Qc<|xii (i:=k) (hk.ext gu) O O Y λa90 gz=>?_;rw[gx]at gz;refine x (Qv gz O)<|Qf<|Qg<|QU (Step [] hg) [(0,true),(1,true),(2,true),(3,true),(4,true),(5,true),(6,true),(7,true),(8,true),(9,true),(10,true),(11,true),(12,true),(13,false),(14,false)] mixed (by rfl) (by kernel_rfl) (Step.drew _ _) ?_
   refine Go.Lg.p (λ_=>Qa O)<|pq (λ_ hc=>Qd (kB210.ext hc) O O)<|Go.Lg.p (λ_=>Qk)<|Go.Lg.pig (g:=ZH) (i:=i.toNat) O Kh k4.cs.arr O (congrArg (Value.int .i64) hW) J λa140 h140=>?_;rw[hq]at h140
   refine Go.Lg.p (λ_=>Zf O)<|pq (λ_ hc=>Qv ((h140.fld 0 (.string q.nm) O).st hc) O)<|Go.Lg.p (λ_=>Qa O)<|pq (λ_ hc=>Qd (kB210.ext hc) O O)<|Go.Lg.p (λ_=>Qk)<|Go.Lg.pig (g:=ZH) (i:=i.toNat) O Kh k4.cs.arr O (congrArg (Value.int .i64) hW) J λa146 h146=>?_;rw[hq]at h146
   refine Go.Lg.p (λ_=>Zf O)<|pq (λ_ hc=>Qv ((h146.fld 2 (.int .i64 q.bd) O).st hc) O)<|Go.Lg.p (λ_=>QM ⟨O,O,Z⟩)<|pk<|Qu (us:=[.string .empty,nS,.int .i64 0]) O λha u11 k6 ht kB15=>⟨(Step.drew [] hg).trans k6,?_⟩;refine pkl (hl:=by kernel_rfl)<|Qn (us:=[.string q.nm,nS,.int .i64 q.bd]) kB15 O O O O ⟨O,O,O,Z⟩ λhH hV kB15=>pe ?_;have ht:hg.heap.size≤ha:=ht
   have hC:Step [] hg hH:=((Step.drew [] hg).trans k6).then1 hV ht;have gv:=gu.trans hC;have k12:=h.ext gv;have kB212:=kB210.ext hC;have kz12:=hC.size;have hl15:=kB15.lt;have pj:=gy.ext hC;refine Qg<|Qc<|x (Qa O)<|x (Qd kB212 O O)<|Qb<|xig (g:=ZH) (i:=i.toNat) Kh k12.cs.arr O (congrArg (Value.int .i64) hW) J λa102 g0=>?_;rw[hq]at g0
   refine x (Zf O)<|x (Qv (g0.fld 1 q.v O) O)<|x (Qr pj O)<|Qb<|xe ?_;have pn:∀b∈[ha,b11],w.heap.size≤b:=λb hb=>by simp only[List.mem_cons,List.not_mem_nil,or_false]at hb;omega
   have po:b3∉[ha,b11]:=λhb=>by simp only[List.mem_cons,List.not_mem_nil,or_false]at hb;omega
   have hn1510:b10∉[ha,b11]:=λhb=>by simp only[List.mem_cons,List.not_mem_nil,or_false]at hb;omega
   refine Qh<|Qz (α:=Nat×Bool×Value) [(22,22),(157,173)] (λz=>[(157,.int .i64 z.1)]) (λz w'=>z.1≤q.ts.length∧Step [ha,b11] hH w'∧QT w'.heap ha 153 [.string q.nm,z.2.2,.int .i64 q.bd]∧QT w'.heap b11 4 [.bool z.2.1] ∧
    w'.ownsRow hH.heap.size 155 2 z.2.2 z.1 ((Vx p.co (q.ts.take z.1)).flatMap Zb)∧z.2.1=(mk || mis p.co (q.ts.take z.1))) (λz=>q.ts.length - z.1) (by rfl) (0,mk,nS) La
    ⟨Ll _,Step.refl _ _,kB15,kB1110.ext hC,QN _ _ _ _,by simp[mis]⟩ ?_
   rintro⟨j,mj,vl⟩ g hA ⟨hj,hX,kB1513,kB1113,kO13,hv⟩;simp only[]at hj kB1513 kB1113 kO13 hv;have ks013:Step [] w hA:=gv.then hX (λb hb=>.inr (pn b hb));have kz13:=hX.size;have hw:=Qq kO13;refine Qc<|x (QA O O)<|xe<|Qg<|QC O (λhK=>?_) (λhK=>?_)
   ·refine Qy ?_;have g1:j=q.ts.length:=by have ho:¬(j:Int)<(q.ts.length:Int):=hK;omega
    rw[g1,Ns]at kO13;rw[g1,Ns]at hv;have k9:Step [b11] hg hA:=(hC.any (L:=[b11])).then hX (λb hb=>by
     simp only[List.mem_cons,List.not_mem_nil,or_false]at hb;rcases hb with rfl|rfl
     ·exact .inr ht
     exact .inl (by simp))
    have kB1013:=kB1010.step k9 (by simpa using hn10);have kX13:KvN V.heap.size hA vk kx:=Ye.low kX10 k9 (λb hb=>hlt10 b (kv b hb));have kXge:=Qq kX10.own;have pp:(Vx p.co q.ts).length=q.ts.length:=Lh ..
    refine Qw<|x (Qa O)<|x (Qd kB1013 O O)<|x (Qo kB1513 O O)<|xl O<|QG (us:=[ZH ⟨q.nm,vl,Vx p.co q.ts,q.bd⟩]) O O (by decide) (by simp) ⟨rfl,rfl,Z⟩ λb126 u14 hy hb126 kB126 =>
     xl rfl<|Q4 (news:=ZH ⟨q.nm,vl,Vx p.co q.ts,q.bd⟩) (L:=[]) (Qs kX13.own hy) O O O (kB126.at (by simp)) (Qfc (q:=⟨q.nm,vl,Vx p.co q.ts,q.bd⟩) (QQ kO13)) (by omega) (by have:=hy.size;omega) λhM he g2 hY pt=>?_
    have kX15:KvN V.heap.size he hM (kx++[⟨q.nm,vl,Vx p.co q.ts,q.bd⟩]):=Ye.app2 (N:=hH.heap.size) (kX13.ext hy) (by show u14.ownsRow _ _ 2 vl (Vx p.co q.ts).length _;rw[pp];exact Qs kO13 hy) (by show(Vx p.co q.ts).length≤_;omega) (by omega) (λb hb=>by have:=kXge b hb;omega) g2 hY pt;have pu:b10∉ob vk:=λhm=>by have:=(kXge b10 hm).1;omega
    have pw:b11∉ob vk:=λhm=>by have:=(kXge b11 hm).1;omega
    have ks915:Step [b10,b11] V he:=((h9.trans' (k9.mono kv)).trans hy).then hY (λb hb=>.inr (kXge b hb).1);have kB1015:=(kB1013.ext hy).step hY pu;have kB1115:=(kB1113.ext hy).step hY pw;refine x (Qa O)<|xl O<|QF (j:=4) (u:=hM) kB1015 O O (by simp) (QQ g2) λu16 g3 kB1016=>xe ?_;refine Qw<|QP O O<|Qb<|xe ?_
    refine⟨(k+1,mj,hM,kx++[⟨q.nm,vl,Vx p.co q.ts,q.bd⟩]),by simp only[];omega,La,Y,ks915.trans' (g3.mono ku),kB1016,kB1115.step g3 (by simp only[List.mem_singleton];omega),Ye.low kX15 g3 (λb hb=>hlt10 b (ku b hb)),?_,?_,?_⟩
    ·simp only[];rw[hcsB,Lx,gt];rfl
    ·simp only[];rw[hcsM,hv,k0,Bool.or_assoc]
    intro q' pz;rcases Lo.1 pz with h9'|h9'
    ·exact pd q' h9'
    simp only[List.mem_singleton]at h9';subst h9';exact ph
   refine Qi ?_;have hh:j<q.ts.length:=by have ho:(j:Int)<(q.ts.length:Int):=hK;omega
   have hN:q.ts.take (j+1)=q.ts.take j++[q.ts[j]'hh]:=Li hh;have k9:Step [b11] hg hA:=(hC.any (L:=[b11])).then hX (λb hb=>by
    simp only[List.mem_cons,List.not_mem_nil,or_false]at hb;rcases hb with rfl|rfl
    ·exact .inr ht
    exact .inl (by simp))
   have p0:P2s [] hA.heap q.v q.ts:=(h.ext ks013).cs.each q hp;refine Qg<|Qh<|Qc<|xig (g:=Zb) JN p0 O O hh λa108 g4=>?_;refine Zj (q.ts[j]'hh) λlc p4=>?_;rw[p4]at g4 hN;have p5:Vx p.co (q.ts.take (j+1))=Vx p.co (q.ts.take j)++[((lwB p.co lc.1:Int),lc.2)]:=by
    rw[hN];unfold Vx;rw[Lx];rfl
   have p6:mis p.co (q.ts.take (j+1))=(mis p.co (q.ts.take j) || !decide (lc.1∈p.co)):=by
    rw[hN];unfold mis;rw[List.any_append];simp
   refine x (QI g4 O O)<|xl O<|Qu (us:=[.int .i64 0,.int .i64 0]) O λb22 u14 hy p7 kB17=>xl O<|Qn (us:=Zb lc) kB17 O O O O ⟨O,O,Z⟩ λhe hY kB17=>xe ?_;have hO:Step [] hA he:=hy.then1 hY p7;have ks015:=ks013.trans hO;have kz15:=hO.size;have kB1515:=kB1513.ext hO;have kB1115:=kB1113.ext hO
   have kB315:QT he.heap b3 281 [v0,v1,v2,v3]:=(((kB310.ext hC).step hX po)).ext hO;have g5:ha∉b11::ob vl:=λhb=>by
    rcases Le.1 hb with rfl|hb
    ·omega
    have:=(hw ha hb).1;omega
   have g6:b22∉b11::ob vl:=λhb=>by
    rcases Le.1 hb with rfl|hb
    ·omega
    have:=(hw b22 hb).2;omega
   have g7:b11∉ob vl:=λhb=>by have:=(hw b11 hb).1;omega
   have p8:ha∉ob vl:=λhb=>g5 (Lk _ hb);refine QU (Step (b11::ob vl) he) [(0,true),(1,true),(2,true),(3,true),(4,true),(6,true),(7,true),(5,false),(8,true),(9,false),(10,false),(11,true),(12,false)] mixed (by rfl) (by kernel_rfl) (Step.drew _ _) ?_;have ma:Step [] he { he with drawn:=he.drawn+1 }:=Step.drew _ _
   have hzd:({ he with drawn:=he.drawn+1 }:World).heap.size=he.heap.size:=rfl
   refine Go.Lg.p (λ_=>Qa O)<|pq (λ_ hc=>Qd (kB1515.step hc g5) O O)<|Go.Lg.p (λ_=>Qk)<|Go.Lg.p (λ_=>Qa O)<|pq (λ_ hc=>Qd (kB17.step hc g6) O O) <|
    Go.Lg.p (λ_=>Qa O)<|pq (λ_ hc=>Qd (kB17.step hc g6) O O)<|pk<|xc (first:=[]) (capt:=[.pointer (some ⟨b3,0,none⟩),.pointer (some ⟨b11,0,none⟩)]) O<|(je (kB315.ext ma) (kB1115.ext ma) (hc.ext (ks015.trans ma)) gm.2.1 lc.1).mono ?_
   rintro r16 u16 ⟨g3,rfl,kB1116⟩;have p9:=ma.any.trans' g3;have hP:∀b∈[b11],b∈b11::ob vl:=λb hb=>by simp only[List.mem_singleton]at hb;simp[hb]
   refine⟨p9.mono hP,?_⟩;refine Go.Lg.p (λ_=>QM ⟨O,O,Z⟩)<|pk<|QG (us:=[Zb ((lwB p.co lc.1:Int),lc.2)]) O O (by decide) (by simp) ⟨rfl,rfl,Z⟩ λb119 u17 qo hb119 gq=>⟨(p9.trans qo).mono hP,?_⟩;have g8:=p9.trans qo
   have kO17:u17.ownsRow hH.heap.size 155 2 vl j ((Vx p.co (q.ts.take j)).flatMap Zb):=Qm (Qs kO13 hO) g8 (λb hb hm=>by simp only[List.mem_singleton]at hm;subst hm;exact g7 hb);have kz17:=g8.size;refine pk<|Q4 (news:=Zb ((lwB p.co lc.1:Int),lc.2)) (L:=[]) kO17 O O O (gq.at (by simp)) (λu hu=>by
    simp only[List.mem_cons,List.not_mem_nil,or_false]at hu;rcases hu with rfl|rfl <;> rfl) (by omega) (by omega) λg9 u18 hQ mc hn18=>⟨(g8.mono hP).trans' (mc.mono (λb hb=>Lk _ hb)),?_⟩
   have kB1518:=((kB1515.step g8 (by simp only[List.mem_singleton];omega))).step mc p8;have kB1118:=(kB1116.ext qo).step mc g7;refine Go.Lg.p (λ_=>Qa O)<|pkl (hl:=by kernel_rfl)<|QF (j:=1) (u:=g9) kB1518 O O (by simp) (QQ hQ) λu19 q9 kB1519=>pe ?_;refine Qw<|QP O O<|Qb<|xe ?_;have j1:∀b∈[b11],b∈[ha,b11]:=λb hb=>by simp only[List.mem_singleton]at hb;simp[hb]
   have j2:∀b∈[ha],b∈[ha,b11]:=λb hb=>by simp only[List.mem_singleton]at hb;simp[hb]
   have ks1218:Step [ha,b11] hH u18:=((hX.trans hO).trans' (g8.mono j1)).then mc (λb hb=>.inr (hw b hb).1);refine⟨(j+1,mj || !decide (lc.1∈p.co),g9),by simp only[];omega,La,hh,ks1218.trans' (q9.mono j2),kB1519,kB1118.step q9 (by simp only[List.mem_singleton];omega),?_,?_⟩
   ·simp only[];rw[p5,LG];have:=Qm hQ q9 (λb hb=>by
     simp only[List.mem_singleton];have:=(Qq hQ b hb).1;omega)
    simpa using this
   simp only[];rw[p6,hv,Bool.or_assoc]
  refine Qi ?_;have Y:k<p.ex.length:=by have ho:(k:Int)<(p.ex.length:Int):=hG;omega
  have hI:p.ex.take (k+1)=p.ex.take k++[p.ex[k]'Y]:=Li Y;have pg:=hexz.1 _ (Lc Y);refine Zj (p.ex[k]'Y) λi gx=>?_;rw[gx]at hI pg;have hW:i=(i.toNat:Int):=by omega
  have J:i.toNat<c.ex.length:=by omega
  have hp:=Lc J;have hJ:exG c.cel i=(c.ex[i.toNat]'J).x:=by
   show(c.ex.map (·.x)).getD i.toNat ⟨.empty,[]⟩=_;simp[List.getD,J]
  refine Zj (c.ex[i.toNat]'J) λq hq=>?_;rw[hq]at hp hJ;have gy:=m7.ex.each q hp;have ph:=m7.ex.nm q hp;have hql:=gy.le;have hexB:exB c.cel p.co (p.ex.take (k+1))=exB c.cel p.co (p.ex.take k)++[⟨q.nm,Vx p.co q.ls⟩]:=by
   rw[hI];unfold exB;rw[Lx,MA,hJ];rfl
  have hexM:exM c.cel p.co (p.ex.take (k+1))=(exM c.cel p.co (p.ex.take k) || mis p.co q.ls):=by
   rw[hI];unfold exM;rw[List.any_append,Nw,List.any_nil,Bool.or_false,hJ];rfl
  refine Qg<|Qh<|Qc<|xii (i:=k) (hx.ext gs) O O Y λa90 gz=>?_;rw[gx]at gz;refine x (Qv gz O)<|Qf<|Qc<|x (Qa O)<|x (Qd m8 O O)<|Qb<|xig (g:=ZF) (i:=i.toNat) KC m7.ex.arr O (congrArg (Value.int .i64) hW) J λa95 h95=>?_;rw[hq]at h95;refine x (Zf O)<|x (Qv (h95.fld 0 (.string q.nm) O) O)<|x (QM La)<|xl O<|Qu (us:=[.string .empty,nS]) O λb15 w11 j3 ht mf =>
   xl rfl<|Qn (us:=[.string q.nm,nS]) mf O O O O ⟨O,O,Z⟩ λhZ hs12 mf=>xe ?_
  have hD:Step [] V hZ:=j3.then1 hs12 ht;have hs012:=gs.trans hD;have h12:=h.ext hs012;have hB212:=m8.ext hD;have hz12:=hD.size;have hl15:=mf.lt;have pj:=gy.ext hD;refine Qg<|Qc<|x (Qa O)<|x (Qd hB212 O O)<|Qb<|xig (g:=ZF) (i:=i.toNat) KC h12.ex.arr O (congrArg (Value.int .i64) hW) J λa102 g0=>?_;rw[hq]at g0
  refine x (Zf O)<|x (Qv (g0.fld 1 q.v O) O)<|x (Qr pj O)<|Qb<|xe ?_;have pn:∀b∈[b15,b11],w.heap.size≤b:=λb hb=>by simp only[List.mem_cons,List.not_mem_nil,or_false]at hb;omega
  have po:b3∉[b15,b11]:=λhb=>by simp only[List.mem_cons,List.not_mem_nil,or_false]at hb;omega
  have hn1510:b10∉[b15,b11]:=λhb=>by simp only[List.mem_cons,List.not_mem_nil,or_false]at hb;omega
  refine Qh<|Qz (α:=Nat×Bool×Value) [(17,17),(106,122)] (λz=>[(106,.int .i64 z.1)]) (λz w'=>z.1≤q.ls.length∧Step [b15,b11] hZ w'∧QT w'.heap b15 99 [.string q.nm,z.2.2]∧QT w'.heap b11 4 [.bool z.2.1] ∧
   w'.ownsRow hZ.heap.size 101 2 z.2.2 z.1 ((Vx p.co (q.ls.take z.1)).flatMap Zb)∧z.2.1=(mi || mis p.co (q.ls.take z.1))) (λz=>q.ls.length - z.1) (by rfl) (0,mi,nS) La
   ⟨Ll _,Step.refl _ _,mf,gq.ext hD,QN _ _ _ _,by simp[mis]⟩ ?_
  rintro⟨j,mj,vl⟩ g ga ⟨hj,gb,j4,za,gc,hv⟩;simp only[]at hj j4 za gc hv;have hs013:Step [] w ga:=hs012.then gb (λb hb=>.inr (pn b hb));have hz13:=gb.size;have hw:=Qq gc;refine Qc<|x (QA O O)<|xe<|Qg<|QC O (λhK=>?_) (λhK=>?_)
  ·refine Qy ?_;have g1:j=q.ls.length:=by have ho:¬(j:Int)<(q.ls.length:Int):=hK;omega
   rw[g1,Ns]at gc;rw[g1,Ns]at hv;have mg:Step [b11] V ga:=(hD.any (L:=[b11])).then gb (λb hb=>by
    simp only[List.mem_cons,List.not_mem_nil,or_false]at hb;rcases hb with rfl|rfl
    ·exact .inr ht
    exact .inl (by simp))
   have hB1013:=m5.step mg (by simpa using hn10);have hX13:XvN w9.heap.size ga vx qx:=Ye.low kw mg (λb hb=>kt b (kv b hb));have mh:=Qq kw.own;have pp:(Vx p.co q.ls).length=q.ls.length:=Lh ..
   refine Qw<|x (Qa O)<|x (Qd hB1013 O O)<|x (Qo j4 O O)<|xl O<|QG (us:=[ZF ⟨q.nm,vl,Vx p.co q.ls⟩]) O O (by decide) (by simp) ⟨rfl,rfl,Z⟩ λb126 w14 hz hb126 hB126 =>
    xl rfl<|Q4 (news:=ZF ⟨q.nm,vl,Vx p.co q.ls⟩) (L:=[]) (Qs hX13.own hz) O O O (hB126.at (by simp)) (jW (q:=⟨q.nm,vl,Vx p.co q.ls⟩) (QQ gc)) (by omega) (by have:=hz.size;omega) λhM hf g2 ge pt=>?_
   have hX15:XvN w9.heap.size hf hM (qx++[⟨q.nm,vl,Vx p.co q.ls⟩]):=Ye.app2 (N:=hZ.heap.size) (hX13.ext hz) (by show w14.ownsRow _ _ 2 vl (Vx p.co q.ls).length _;rw[pp];exact Qs gc hz) (by show(Vx p.co q.ls).length≤_;omega) (by omega) (λb hb=>by have:=mh b hb;omega) g2 ge pt;have pu:b10∉ob vx:=λhm=>by have:=(mh b10 hm).1;omega
   have pw:b11∉ob vx:=λhm=>by have:=(mh b11 hm).1;omega
   have hs915:Step [b10,b11] w9 hf:=((hF.trans' (mg.mono kv)).trans hz).then ge (λb hb=>.inr (mh b hb).1);have hB1015:=(hB1013.ext hz).step ge pu;have zb:=(za.ext hz).step ge pw;refine x (Qa O)<|xl O<|QF (j:=3) (u:=hM) hB1015 O O (by simp) (QQ g2) λw16 ka hB1016=>xe ?_;refine Qw<|QP O O<|Qb<|xe ?_
   refine⟨(k+1,mj,hM,qx++[⟨q.nm,vl,Vx p.co q.ls⟩]),by simp only[];omega,La,Y,hs915.trans' (ka.mono ku),hB1016,zb.step ka (by simp only[List.mem_singleton];omega),Ye.low hX15 ka (λb hb=>kt b (ku b hb)),?_,?_,?_⟩
   ·simp only[];rw[hexB,Lx,gr];rfl
   ·simp only[];rw[hexM,hv,kz]
   intro q' pz;rcases Lo.1 pz with h9'|h9'
   ·exact m6 q' h9'
   simp only[List.mem_singleton]at h9';subst h9';exact ph
  refine Qi ?_;have hh:j<q.ls.length:=by have ho:(j:Int)<(q.ls.length:Int):=hK;omega
  have hN:q.ls.take (j+1)=q.ls.take j++[q.ls[j]'hh]:=Li hh;have mg:Step [b11] V ga:=(hD.any (L:=[b11])).then gb (λb hb=>by
   simp only[List.mem_cons,List.not_mem_nil,or_false]at hb;rcases hb with rfl|rfl
   ·exact .inr ht
   exact .inl (by simp))
  have p0:P2s [] ga.heap q.v q.ls:=(h.ext hs013).ex.each q hp;refine Qg<|Qh<|Qc<|xig (g:=Zb) JN p0 O O hh λa108 g4=>?_;refine Zj (q.ls[j]'hh) λlc p4=>?_;rw[p4]at g4 hN;have p5:Vx p.co (q.ls.take (j+1))=Vx p.co (q.ls.take j)++[((lwB p.co lc.1:Int),lc.2)]:=by
   rw[hN];unfold Vx;rw[Lx];rfl
  have p6:mis p.co (q.ls.take (j+1))=(mis p.co (q.ls.take j) || !decide (lc.1∈p.co)):=by
   rw[hN];unfold mis;rw[List.any_append];simp
  refine x (QI g4 O O)<|xl O<|Qu (us:=[.int .i64 0,.int .i64 0]) O λb17 w14 hz p7 mo=>xl O<|Qn (us:=Zb lc) mo O O O O ⟨O,O,Z⟩ λhf ge mo=>xe ?_;have hR:Step [] ga hf:=hz.then1 ge p7;have hs015:=hs013.trans hR;have hz15:=hR.size;have hB1515:=j4.ext hR;have zb:=za.ext hR
  have hB315:QT hf.heap b3 281 [v0,v1,v2,v3]:=(((m9.ext hD).step gb po)).ext hR;have g5:b15∉b11::ob vl:=λhb=>by
   rcases Le.1 hb with rfl|hb
   ·omega
   have:=(hw b15 hb).1;omega
  have g6:b17∉b11::ob vl:=λhb=>by
   rcases Le.1 hb with rfl|hb
   ·omega
   have:=(hw b17 hb).2;omega
  have g7:b11∉ob vl:=λhb=>by have:=(hw b11 hb).1;omega
  have p8:b15∉ob vl:=λhb=>g5 (Lk _ hb);refine QU (Step (b11::ob vl) hf) [(0,true),(1,true),(2,true),(3,true),(4,true),(6,true),(7,true),(5,false),(8,true),(9,false),(10,false),(11,true),(12,false)] mixed (by rfl) (by kernel_rfl) (Step.drew _ _) ?_;have mq:Step [] hf { hf with drawn:=hf.drawn+1 }:=Step.drew _ _
  have hzd:({ hf with drawn:=hf.drawn+1 }:World).heap.size=hf.heap.size:=rfl
  refine Go.Lg.p (λ_=>Qa O)<|pq (λ_ hc=>Qd (hB1515.step hc g5) O O)<|Go.Lg.p (λ_=>Qk)<|Go.Lg.p (λ_=>Qa O)<|pq (λ_ hc=>Qd (mo.step hc g6) O O) <|
   Go.Lg.p (λ_=>Qa O)<|pq (λ_ hc=>Qd (mo.step hc g6) O O)<|pk<|xc (first:=[]) (capt:=[.pointer (some ⟨b3,0,none⟩),.pointer (some ⟨b11,0,none⟩)]) O<|(je (hB315.ext mq) (zb.ext mq) (hc.ext (hs015.trans mq)) gm.2.1 lc.1).mono ?_
  rintro r16 w16 ⟨ka,rfl,hB1116⟩;have z0:=mq.any.trans' ka;have hP:∀b∈[b11],b∈b11::ob vl:=λb hb=>by simp only[List.mem_singleton]at hb;simp[hb]
  refine⟨z0.mono hP,?_⟩;refine Go.Lg.p (λ_=>QM ⟨O,O,Z⟩)<|pk<|QG (us:=[Zb ((lwB p.co lc.1:Int),lc.2)]) O O (by decide) (by simp) ⟨rfl,rfl,Z⟩ λb119 w17 z1 hb119 kq=>⟨(z0.trans z1).mono hP,?_⟩;have kb:=z0.trans z1
  have hO17:w17.ownsRow hZ.heap.size 101 2 vl j ((Vx p.co (q.ls.take j)).flatMap Zb):=Qm (Qs gc hR) kb (λb hb hm=>by simp only[List.mem_singleton]at hm;subst hm;exact g7 hb);have hz17:=kb.size;refine pk<|Q4 (news:=Zb ((lwB p.co lc.1:Int),lc.2)) (L:=[]) hO17 O O O (kq.at (by simp)) (λu hu=>by
   simp only[List.mem_cons,List.not_mem_nil,or_false]at hu;rcases hu with rfl|rfl <;> rfl) (by omega) (by omega) λg9 w18 hQ ms hn18=>⟨(kb.mono hP).trans' (ms.mono (λb hb=>Lk _ hb)),?_⟩
  have hB1518:=((hB1515.step kb (by simp only[List.mem_singleton];omega))).step ms p8;have hB1118:=(hB1116.ext z1).step ms g7;refine Go.Lg.p (λ_=>Qa O)<|pkl (hl:=by kernel_rfl)<|QF (j:=1) (u:=g9) hB1518 O O (by simp) (QQ hQ) λw19 z2 hB1519=>pe ?_;refine Qw<|QP O O<|Qb<|xe ?_;have j1:∀b∈[b11],b∈[b15,b11]:=λb hb=>by simp only[List.mem_singleton]at hb;simp[hb]
  have j2:∀b∈[b15],b∈[b15,b11]:=λb hb=>by simp only[List.mem_singleton]at hb;simp[hb]
  have hs1218:Step [b15,b11] hZ w18:=((gb.trans hR).trans' (kb.mono j1)).then ms (λb hb=>.inr (hw b hb).1);refine⟨(j+1,mj || !decide (lc.1∈p.co),g9),by simp only[];omega,La,hh,hs1218.trans' (z2.mono j2),hB1519,hB1118.step z2 (by simp only[List.mem_singleton];omega),?_,?_⟩
  ·simp only[];rw[p5,LG];have:=Qm hQ z2 (λb hb=>by
    simp only[List.mem_singleton];have:=(Qq hQ b hb).1;omega)
   simpa using this
  simp only[];rw[p6,hv,Bool.or_assoc]
 refine Qi ?_;have gg:k<G.length:=by have ho:(k:Int)<(G.length:Int):=mz;omega
 have hmem:=Lc gg;have hdr:G.drop k=G[k]'gg::G.drop (k+1):=LQ gg;refine Qg<|Qh<|Qc<|xig (g:=skC) QnH (z9.ext h6) O O gg λa58 h58=>?_;refine Zj (G[k]'gg) λq hq=>?_;rw[hq]at h58 hmem hdr;have hqi:=hl4i q hmem;rw[hdr,show q=(q.1,q.2.1,q.2.2) from rfl,ck4]at hck
 refine x (QI h58 O O)<|xl O<|Qu (us:=[nS,.int .i64 0]) O λb8 w8 hT hb8 mt=>xl O<|Qn (us:=skC q) mt O O O O ⟨hqi.one,O,Z⟩ λw9 m4 mt=>xe ?_;have h8:Step [] U w9:=hT.then1 m4 hb8;have gn:=gl.trans h8;refine Qc<|x (Qa O)<|x (Qd mt O O)<|x (Qa O)<|x (Qd mt O O)<|xl O<|xf<|(K9 (hqi.ext gn) q.2.2).mono ?_;rintro r10 V ⟨rfl,rfl⟩;refine Qf<|Qc<|Qb<|x (Q6 O O)<|xe ?_
 refine Q3 rfl (λkc=>?_) (λkc=>?_)
 ·rw[if_pos kc]at hck;have hne:ck4 G≠0:=by rw[←hck];exact kc
  rw[if_pos hne,←hck]at I;subst I;have pa:QT V.heap b4 37 Xf:=((my.ext hS).ext h6).ext h8;refine Qc<|x (QM Z)<|Qb<|xl O<|Qn (us:=Xf) pa O O O O ⟨O,O,O,O,O,Z⟩ λw11 j3 hB411=>Qf ?_
  exact Ql ⟨[.agg Xf.toArray,.int .i64 (YM q.2.2 none q.2.1)],⟨⟨_,O,Qx O (hB411.at (L:=[]) (by simp)).cells⟩,rfl,Z⟩,gn.then1 j3 (by omega),Xf,rfl,rfl,⟨rfl,rfl,rfl,rfl,rfl,Z⟩,λ_=>rfl,λH=>absurd H kc⟩
 rw[if_neg kc]at hck;refine Qi<|Qw<|QP O O<|Qb<|xe ?_;exact⟨k+1,by omega,La,gg,h6.trans h8,hck⟩
theorem QbF (n:Nat):(1:Int)*(2:Int) ^ n=((1 <<< n:Nat):Int):=by
 rw[Nat.shiftLeft_eq,M7,Int.one_mul,Int.natCast_pow];rfl
theorem KI {n:Nat}(h:n<16):1 <<< n<65536:=by
 rw[Nat.shiftLeft_eq,M7];exact Nat.pow_lt_pow_right (by decide) h
theorem Qdz {b k:Nat}(hb:b<65536)(hk:k<16):orB b k<65536:=QeU hb (KI hk)
theorem QlV {n:Nat}(h:n<16):inK .u16 ((1:Int)*(2:Int) ^ n):=by
 rw[QbF];have h1:=KI h;generalize 1 <<< n=m at h1;exact⟨by omega,by omega⟩
theorem QhF {x:Yk}:∀(l:List Yk) (k b:Nat),b<65536→k+l.length≤16→rqB x k b l<65536
 | [],_,_,hb,_=>hb
 | y::l,k,b,hb,hk=>by
  rw[rqB];refine QhF l _ _ ?_ (by simp at hk;omega);by_cases h:(y.a.al.any λe=>decide (e∈x.a.al))=true
  ·rw[if_pos h];exact Qdz hb (by simp at hk;omega)
  rw[if_neg h];exact hb
theorem QbR (ls:List (Int×Int))(l:Int×Int):yM (ls++[l])=orB (yM ls) l.1.toNat:=by
 unfold yM;rw[Mh];rfl
theorem Qav:∀(ls:List (Int×Int)),(∀l∈ls,0≤l.1∧l.1<16)→yM ls<65536:=by
 intro ls;unfold yM;have key:∀(ls:List (Int×Int)) (b:Nat),b<65536→(∀l∈ls,0≤l.1∧l.1<16)→ls.foldl (λb l=>orB b l.1.toNat) b<65536:=by
  intro ls;induction ls with
  | nil=>intro b hb _;exact hb
  | cons l ls ih =>
   intro b hb h;exact ih _ (Qdz hb (by have:=h l Lm;omega)) (λl' hl=>h l' (Lk _ hl))
 exact key ls 0 (by decide)
theorem QaJ (m:Nat)(hm:m<65536)(w:World):QH prog 99 [.int .u16 m] w λr w'=>Step [] w w'∧Qt 3 w.heap.size w' r (setK m 8):=by
 refine QH.of_W func99 O ntmps99 results99 (by simp) ?_;refine Qc<|Qf<|Qc<|Qf<|Qg<|Qc<|Qb<|xe<|Qh<|Qz (α:=Nat×Value) [(3,17)] (λz=>[(3,z.2),(5,.int .i64 z.1)]) (λz w'=>z.1≤8∧Step [] w w'∧Qt 3 w.heap.size w' z.2 (setK m z.1)) (λz=>8 - z.1) (by rfl) (0,nS) ⟨O,O,Z⟩
  ⟨Ll _,Step.refl _ _,QN _ _ _ _⟩ ?_
 rintro⟨k,v⟩ g w1 ⟨hk,G,E⟩;simp only[]at hk E;have hg:=Jf m k;have hh:=G.size;refine Qc<|x (QA O O)<|xe<|Qg<|QC O (λh6=>?_) (λh6=>?_)
 ·refine Qy<|Qc<|Qb<|Qf ?_;have V:k=8:=by omega
  rw[V]at E;exact Ql ⟨[v],La,G,E⟩
 have J:k<8:=by omega
 have Y:m / 2 ^ k<65536:=Nv (Nat.div_le_self _ _) hm;have H:=UE m k;refine Qi<|Qg<|Qh<|Qc<|Qb<|Qf<|Qc<|Qb<|Qb<|x (ze (n:=k) O O (by show k≤16;omega))<|x (Qk8 (a:=m / 2 ^ k) (b:=1) (congrArg (Value.int .u16) (qw m k)) O Y (by decide))<|x (Zr O O)<|xe<|QC rfl (λU=>?_) (λU=>?_)
 ·rw[if_neg (λe=>U (by rw[e];rfl))]at H;refine Qi<|Qw<|QP O O<|Qb<|xe ?_;exact⟨(k+1,v),by simp only[];omega,⟨O,O,Z⟩,J,G,by simp only[];rw[H];exact E⟩
 rw[if_pos (by omega)]at H;refine Qw<|Qb<|Qb<|xl O<|QG (us:=[[.int .i64 k]]) O O (by decide) (by simp) ⟨rfl,rfl,Z⟩ λb15 w2 I hi ha=>?_;have hc:=Qs E I;have hj:=I.size;refine xl rfl<|Q4 (news:=[.int .i64 k]) (L:=[]) hc O O O (ha.at (by simp)) (by simp[Value.oneCell']) (by omega) (by omega) λv3 w3 he hf hl =>
  Qf ?_
 have hge:=Qq E;refine Qw<|QP O O<|Qb<|xe<|⟨(k+1,v3),by simp only[];omega,⟨O,O,Z⟩,J,(G.trans I).then hf (λb hb=>.inr (hge b hb).1),?_⟩;simp only[];rw[H];exact Qt.snoc he
theorem Qhn {w:World}{c:CL}{E G i:Nat}(J:QT w.heap E 37 c.cells)(U:QT w.heap G 3 [.int .i64 i])(hc:ZQ [] w.heap c){q:IV}(hi:c.rq[i]?=some q)(e:Int):
  QH prog 154 [.int .i64 e,.pointer (some ⟨E,0,none⟩),.pointer (some ⟨G,0,none⟩)] w λr w'=>r=.bool (decide (e∈q.p.a.al))∧Step [] w w':=by
 obtain⟨H,hq⟩:=L7.1 hi;have V:=hc.rq.each q (hq ▸ Lc H);refine QH.of_W func154 O ntmps154 results154 (by simp) ?_;refine Qc<|Qf<|Qc<|x (Qa O)<|x (Qd J O O)<|x (Qd U O O)<|xig (g:=Zn) (i:=i) XN hc.rq.arr O O H λY I=>?_;rw[hq]at I;refine x (Zf O)<|x (Zf O)<|x (Qv ((I.fld 1 q.p.va O)) O)<|Qb<|xl O<|xf<|(Yl V.al e).mono ?_
 rintro r1 w1 ⟨rfl,rfl⟩;refine Qf ?_;exact Ql ⟨[_],La,O,Step.refl _ _⟩
theorem QkN {w:World}{c:CL}{V i:Nat}(hh:QT w.heap V 37 c.cells)(hc:ZQ [] w.heap c)(h8:c.co.length≤8){q:IV}(hi:c.rq[i]?=some q):
  QH prog 152 [.int .i64 i,.pointer (some ⟨V,0,none⟩)] w λr w'=>r=.int .u16 (rqB q.it 0 0 c.cel.co)∧Step [] w w':=by
 refine QH.of_W func152 O ntmps152 results152 (by simp) ?_;refine Qc<|xl O<|QR (us:=[.int .i64 i]) O λb2 w1 Y hz ho=>Qf<|Qc<|Qf<|Qg<|Qc<|x (Qa O)<|x (Qd (hh.ext Y) O O)<|x (Qr (hc.ext Y).co.arr O)<|Qb<|xe ?_
 refine Qh<|Qz (α:=Nat×Nat) [(4,6),(10,24)] (λz=>[(4,.int .u16 z.2),(10,.int .i64 z.1)]) (λz w'=>z.1≤c.co.length∧Step [] w1 w'∧z.2<65536∧rqB q.it z.1 z.2 ((c.co.drop z.1).map (·.it))=rqB q.it 0 0 c.cel.co) (λz=>c.co.length - z.1) (by rfl) (0,0) ⟨O,O,Z⟩
  ⟨Ll _,Step.refl _ _,by decide,O⟩ ?_
 rintro⟨k,b⟩ g w2 ⟨hk,J,hb,E⟩;simp only[]at hk hb E;have ha:=Y.trans J;have h2:=hc.ext ha;refine Qc<|x (QA O O)<|xe<|Qg<|QC O (λhe=>?_) (λhe=>?_)
 ·refine Qy ?_;have hp:c.co.length≤k:=by have hq:¬(k:Int)<(c.co.length:Int):=he;omega
  rw[Lv hp]at E;have hs:b=rqB q.it 0 0 c.cel.co:=E;refine Qc<|Qb<|Qf ?_;exact Ql ⟨[.int .u16 b],La,by rw[hs];rfl,ha⟩
 have G:k<c.co.length:=by have hq:(k:Int)<(c.co.length:Int):=he;omega
 have hj:=Lc G;rw[JG G,rqB]at E;refine Qi<|Qg<|Qh<|Qc<|Qb<|xig (g:=Zn) (i:=k) XN h2.co.arr O O G λh1 hl=>?_;refine Zj (c.co[k]'G) λy hy=>?_;rw[hy]at hl hj E;have U:=h2.co.each y hj;refine x (QI hl O O)<|xl O<|Qu (us:=[.string .empty,nS,.int .i64 0,nS,nS]) O λb6 w3 ht hu hf=>x Qe <|
  xl rfl<|Qn (us:=Zn y) hf O O O O ⟨O,U.al.one,O,U.mr.one,U.ed.one,Z⟩ λw4 hv hf=>xe ?_
 have I:Step [] w2 w4:=ht.then1 hv hu;have hm:=ha.trans I;refine Qc<|x (Qa O)<|x (Qa O)<|x (Qd hf O O)<|x (Zo (l:=[]) (l':=[_,_]))<|xl O<|xf<|(QfE (q:=λe=>decide (e∈q.p.a.al)) (cap:=[.pointer (some ⟨V,0,none⟩),.pointer (some ⟨b2,0,none⟩)]) (U.al.ext I)
  (λe w5 H=>Qhn ((hh.ext hm).ext H) ((ho.ext (J.trans I)).ext H) ((hc.ext hm).ext H) hi e)).mono ?_
 rintro r5 w5 ⟨rfl,H⟩;refine xe<|QZ rfl (λhg=>?_) (λhg=>?_)
 ·rw[if_pos (by exact hg)]at E;refine Qw<|Qb<|Qb<|x (QeO (n:=k) O O (by show k≤16;omega) (QlV (by omega)))<|x (Qdu (a:=b) (b:=1 <<< k) O (congrArg (Value.int .u16) (QbF k)) hb (KI (by omega)))<|Qf<|Qw<|QP O O<|Qb<|xe ?_;exact⟨(k+1,orB b k),by simp only[];omega,⟨O,O,Z⟩,G,(J.trans I).trans H,Qdz hb (by omega),E⟩
 rw[if_neg (by intro h0;have hw:(y.p.a.al.any λe=>decide (e∈q.p.a.al))=false:=hg;have hn:(y.p.a.al.any λe=>decide (e∈q.p.a.al))=true:=h0;rw[hw]at hn;cases hn)]at E;refine Qi<|Qw<|QP O O<|Qb<|xe ?_;exact⟨(k+1,b),by simp only[];omega,⟨O,O,Z⟩,G,(J.trans I).trans H,hb,E⟩
theorem QkM {w:World}{c:CL}{V i:Nat}(hg:QT w.heap V 37 c.cells)(hc:ZQ [] w.heap c){q:XV}(hi:c.ex[i]?=some q)(hm:∀l∈q.ls,0≤l.1∧l.1<16):
  QH prog 155 [.int .i64 i,.pointer (some ⟨V,0,none⟩)] w λr w'=>r=.int .u16 (yM q.ls)∧Step [] w w':=by
 obtain⟨Y,hq⟩:=L7.1 hi;have H:=hc.ex.each q (hq ▸ Lc Y);have hu:=H.le;refine QH.of_W func155 O ntmps155 results155 (by simp) ?_;refine Qc<|Qf<|Qc<|Qf<|Qg<|Qc<|x (Qa O)<|x (Qd hg O O)<|Qb<|xig (g:=ZF) (i:=i) KC hc.ex.arr O O Y λhv ha=>?_;rw[hq]at ha;refine x (Zf O)<|x (Qv (ha.fld 1 q.v O) O)<|x (Qr H O)<|Qb<|xe ?_
 refine Qh<|Qz (α:=Nat×Nat) [(4,4),(6,6),(14,23)] (λz=>[(4,.int .u16 z.2),(14,.int .i64 z.1)]) (λz w'=>z.1≤q.ls.length∧Step [] w w'∧z.2=yM (q.ls.take z.1)) (λz=>q.ls.length - z.1) (by rfl) (0,0) ⟨O,O,Z⟩
  ⟨Ll _,Step.refl _ _,O⟩ ?_
 rintro⟨k,b⟩ g w1 ⟨hk,I,hb⟩;simp only[]at hk hb;have hh:b<65536:=by rw[hb];exact Qav _ (λl hl=>hm l (L2 hl))
 refine Qc<|x (QA O O)<|xe<|Qg<|QC O (λJ=>?_) (λJ=>?_)
 ·refine Qy ?_;have hj:q.ls.length≤k:=by have G:¬(k:Int)<(q.ls.length:Int):=J;omega
  rw[Lp hj]at hb;refine Qc<|Qb<|Qf ?_;exact Ql ⟨[.int .u16 b],La,by rw[hb];rfl,I⟩
 have E:k<q.ls.length:=by have G:(k:Int)<(q.ls.length:Int):=J;omega
 have he:q.ls.take (k+1)=q.ls.take k++[q.ls[k]'E]:=Li E;have hn:=hm _ (Lc E);refine Qi<|Qg<|Qh<|Qc<|xig (g:=Zb) JN (H.ext I) O O E λhw G=>?_;refine Zj (q.ls[k]'E) λl hl=>?_;rw[hl]at G he hn;have ho:l.1=(l.1.toNat:Int):=by omega
 have hf:l.1.toNat<16:=by omega
 refine x (QI G O O)<|xl O<|Qu (us:=[.int .i64 0,.int .i64 0]) O λb6 w2 hp hr U=>xl O<|Qn (us:=Zb l) U O O O O ⟨O,O,Z⟩ λw3 hs U =>
  xe ?_
 have ht:Step [] w1 w3:=hp.then1 hs hr;refine Qw<|Qb<|x (Qa O)<|x (Qd U O O)<|x (QeO (n:=l.1.toNat) O (congrArg (Value.int .i64) ho) (by show l.1.toNat≤16;omega) (QlV hf))<|x (Qdu (a:=b) (b:=1 <<< l.1.toNat) O (congrArg (Value.int .u16) (QbF _)) hh (KI hf))<|Qf<|Qw<|QP O O<|Qb<|xe ?_
 exact⟨(k+1,orB b l.1.toNat),by simp only[];omega,⟨O,O,Z⟩,E,I.trans ht,by simp only[];rw[he,QbR,hb]⟩
theorem QkL {w:World}{c:CL}{V i:Nat}(hg:QT w.heap V 37 c.cells)(hc:ZQ [] w.heap c){q:KV}(hi:c.cs[i]?=some q)(hm:∀l∈q.ts,0≤l.1∧l.1<16):
  QH prog 156 [.int .i64 i,.pointer (some ⟨V,0,none⟩)] w λr w'=>r=.int .u16 (yM q.ts)∧Step [] w w':=by
 obtain⟨Y,hq⟩:=L7.1 hi;have H:=hc.cs.each q (hq ▸ Lc Y);have hu:=H.le;refine QH.of_W func156 O ntmps156 results156 (by simp) ?_;refine Qc<|Qf<|Qc<|Qf<|Qg<|Qc<|x (Qa O)<|x (Qd hg O O)<|Qb<|xig (g:=ZH) (i:=i) Kh hc.cs.arr O O Y λhv ha=>?_;rw[hq]at ha;refine x (Zf O)<|x (Qv (ha.fld 1 q.v O) O)<|x (Qr H O)<|Qb<|xe ?_
 refine Qh<|Qz (α:=Nat×Nat) [(4,4),(6,6),(14,23)] (λz=>[(4,.int .u16 z.2),(14,.int .i64 z.1)]) (λz w'=>z.1≤q.ts.length∧Step [] w w'∧z.2=yM (q.ts.take z.1)) (λz=>q.ts.length - z.1) (by rfl) (0,0) ⟨O,O,Z⟩
  ⟨Ll _,Step.refl _ _,O⟩ ?_
 rintro⟨k,b⟩ g w1 ⟨hk,I,hb⟩;simp only[]at hk hb;have hh:b<65536:=by rw[hb];exact Qav _ (λl hl=>hm l (L2 hl))
 refine Qc<|x (QA O O)<|xe<|Qg<|QC O (λJ=>?_) (λJ=>?_)
 ·refine Qy ?_;have hj:q.ts.length≤k:=by have G:¬(k:Int)<(q.ts.length:Int):=J;omega
  rw[Lp hj]at hb;refine Qc<|Qb<|Qf ?_;exact Ql ⟨[.int .u16 b],La,by rw[hb];rfl,I⟩
 have E:k<q.ts.length:=by have G:(k:Int)<(q.ts.length:Int):=J;omega
 have he:q.ts.take (k+1)=q.ts.take k++[q.ts[k]'E]:=Li E;have hn:=hm _ (Lc E);refine Qi<|Qg<|Qh<|Qc<|xig (g:=Zb) JN (H.ext I) O O E λhw G=>?_;refine Zj (q.ts[k]'E) λl hl=>?_;rw[hl]at G he hn;have ho:l.1=(l.1.toNat:Int):=by omega
 have hf:l.1.toNat<16:=by omega
 refine x (QI G O O)<|xl O<|Qu (us:=[.int .i64 0,.int .i64 0]) O λb6 w2 hp hr U=>xl O<|Qn (us:=Zb l) U O O O O ⟨O,O,Z⟩ λw3 hs U =>
  xe ?_
 have ht:Step [] w1 w3:=hp.then1 hs hr;refine Qw<|Qb<|x (Qa O)<|x (Qd U O O)<|x (QeO (n:=l.1.toNat) O (congrArg (Value.int .i64) ho) (by show l.1.toNat≤16;omega) (QlV hf))<|x (Qdu (a:=b) (b:=1 <<< l.1.toNat) O (congrArg (Value.int .u16) (QbF _)) hh (KI hf))<|Qf<|Qw<|QP O O<|Qb<|xe ?_
 exact⟨(k+1,orB b l.1.toNat),by simp only[];omega,⟨O,O,Z⟩,E,I.trans ht,by simp only[];rw[he,QbR,hb]⟩
end Go.Proofs.YtjcgijbhaemldaaGreatDoor
namespace Go.Lg
theorem xcG {P:Program}{f:Fr}{w:World}{K:Fr→World→Prop}{d:Option Nat}{ty:Nat}{ps:String}{af:Array Edge}{gd:Option (Nat×Bool)}{x:Operand}{l:List Operand}{at_:Array Nat}
  {g:Nat} {first capt:LV} (E:∃fn,Fu P g fn) (hx:ev f x=.func (.func g) first.toArray capt.toArray) (h:QH P g (first++l.map (ev f)++capt) w λv w'=>K (QW f d v) w'):
  XO P ⟨d,.call ⟨.value x,l.toArray,at_⟩,ty,ps,af,gd⟩ f w K:=by
 obtain⟨fn,G⟩:=E;exact xc (fn:=fn) hx h
end Go.Lg
namespace Go.Proofs.YtjcgijbhaemldaaGreatDoor
open Go.Proofs.Tryz
open Go.Lg
def gK (m:Nat):Nat:=if m=0 then 152 else if m=1 then 155 else 156
theorem QiX (m:Nat):∃fn,Fu prog (gK m) fn:=by
 unfold gK;split
 ·exact⟨_,inferInstance⟩
 split
 ·exact⟨_,inferInstance⟩
 exact⟨_,inferInstance⟩
abbrev XZ (c:Q7)(m:Nat):LN:=srK c ((m:Int)+1)
theorem Qht (c:Q7):XZ c 0=srR c:=rfl
theorem Qhs (c:Q7):XZ c 1=srX c:=rfl
theorem Qhr (c:Q7):XZ c 2=srC c:=rfl
structure qp (c:Q7):Prop where
 c8:c.co.length≤8
 r:c.rq.length≤32
 x:c.ex.length≤32
 k:c.cs.length≤32
 xl:∀e∈c.ex,∀l∈e.ls,0≤l.1∧l.1<16
 kl:∀e∈c.cs,∀l∈e.ts,0≤l.1∧l.1<16
theorem Qkn.sr {c:Q7}(h:Qkn c):qp c:=by
 have h1:=qb h.cd;have h2:(szs c.co).length=c.co.length:=Lh ..;have E:=h.c8;have G:=h.cr;refine⟨E,by omega,h1.xl,h1.kl,λe he l hl=>?_,λe he l hl=>?_⟩
 ·have:=h1.x e he l hl;omega
 have:=(h1.k e he).1 l hl;omega
theorem VY {c:Q7}(h:qp c){m:Nat}(hm:m<3):(XZ c m).length≤32:=by
 have h1:=h.r;have h2:=h.x;have h3:=h.k;rcases m with _|_|_|m
 ·rw[Qht];unfold srR;rw[Lh];exact h1
 ·rw[Qhs];unfold srX;rw[Lh];exact h2
 ·rw[Qhr];unfold srC;rw[Lh];exact h3
 omega
theorem qW {c:Q7}(h:qp c){m:Nat}(hm:m<3):∀b∈XZ c m,b<65536:=by
 have E:=h.c8;rcases m with _|_|_|m
 ·rw[Qht];unfold srR;intro b hb;obtain⟨x,_,rfl⟩:=Lq.1 hb;exact QhF _ _ _ (by decide) (by omega)
 ·rw[Qhs];unfold srX;intro b hb;obtain⟨x,hx,rfl⟩:=Lq.1 hb;exact Qav _ (h.xl x hx)
 ·rw[Qhr];unfold srC;intro b hb;obtain⟨x,hx,rfl⟩:=Lq.1 hb;exact Qav _ (h.kl x hx)
 omega
abbrev srV (b1:Nat)(c:Q7)(m:Nat):LV:=[.int .i64 ((m:Int)+1),.int .i64 (XZ c m).length,.func (.func (gK m)) #[] #[.pointer (some ⟨b1,0,none⟩)]]
theorem qV (E:Nat)(c:Q7)(m:Nat):(srV E c m).length=3:=rfl
theorem Qdm {w:World}{c:CL}{I m i:Nat}(G:QT w.heap I 37 c.cells)(hc:ZQ [] w.heap c)(H:qp c.cel)(hm:m<3)(hi:i<(XZ c.cel m).length):
  QH prog (gK m) [.int .i64 i,.pointer (some ⟨I,0,none⟩)] w λr w'=>r=.int .u16 ((XZ c.cel m)[i]'hi:Nat)∧Step [] w w':=by
 rcases m with _|_|_|m
 ·have hl:(XZ c.cel 0).length=c.rq.length:=by rw[Qht];unfold srR;rw[Lh];exact Lh ..
  have E:i<c.rq.length:=Nat.lt_of_lt_of_eq hi hl;have e:(XZ c.cel 0)[i]'hi=rqB (c.rq[i]'E).it 0 0 c.cel.co:=by
   show(srR c.cel)[i]'_=_;simp[srR,CL.cel]
  rw[e];have J:c.co.length≤8:=by have:=H.c8;rw[show c.cel.co.length=c.co.length from Lh ..]at this;exact this
  exact QkN G hc J (LE E)
 ·have hl:(XZ c.cel 1).length=c.ex.length:=by rw[Qhs];unfold srX;rw[Lh];exact Lh ..
  have E:i<c.ex.length:=Nat.lt_of_lt_of_eq hi hl;have e:(XZ c.cel 1)[i]'hi=yM (c.ex[i]'E).ls:=by
   show(srX c.cel)[i]'_=_;simp[srX,CL.cel,XV.x]
  rw[e];exact QkM G hc (LE E) (λl hl=>H.xl (c.ex[i]'E).x (LP (Lc E)) l hl)
 ·have hl:(XZ c.cel 2).length=c.cs.length:=by rw[Qhr];unfold srC;rw[Lh];exact Lh ..
  have E:i<c.cs.length:=Nat.lt_of_lt_of_eq hi hl;have e:(XZ c.cel 2)[i]'hi=yM (c.cs[i]'E).ts:=by
   show(srC c.cel)[i]'_=_;simp[srC,CL.cel,KV.k]
  rw[e];exact QkL G hc (LE E) (λl hl=>H.kl (c.cs[i]'E).k (LP (Lc E)) l hl)
 omega
structure Qq0 (N:Nat)(w:World)(c:CL)(r:Value)(b1 b:Nat):Prop where
 r:r=.slice (some ⟨b,0,none⟩) 3 3
 n1:N≤b1
 n:N≤b
 B1:QT w.heap b1 37 c.cells
 B:QT w.heap b 200 ([0,1,2].flatMap (srV b1 c.cel))
theorem VE {L:LN}{w:World}{c:CL}(J:ZQ L w.heap c):
  QH prog 98 [c.val] w λr w'=>Step [] w w'∧∃E b,Qq0 w.heap.size w' c r E b:=by
 have h:=J.up (L':=[]) (by simp);have e0:(XZ c.cel 0).length=c.rq.length:=by rw[Qht];unfold srR;rw[Lh];exact Lh ..
 have e1:(XZ c.cel 1).length=c.ex.length:=by rw[Qhs];unfold srX;rw[Lh];exact Lh ..
 have e2:(XZ c.cel 2).length=c.cs.length:=by rw[Qhr];unfold srC;rw[Lh];exact Lh ..
 refine QH.of_W func98 O ntmps98 results98 (by simp) ?_;refine Qc<|xl O<|QR (us:=c.cells) O λE w1 H U G=>Qf ?_;have h1:=h.ext H;refine Qc<|x (Qa O)<|x (Qd G O O)<|x (Qr h1.rq.arr O)<|x (Zo (l:=[]) (l':=[_]))<|x (QM ⟨O,O,O,Z⟩)<|x (Qa O) <|
  x (Qd G O O)<|x (Qr h1.ex.arr O)<|x (Zo (l:=[]) (l':=[_]))<|x (QM ⟨O,O,O,Z⟩)<|x (Qa O)<|x (Qd G O O) <|
  x (Qr h1.cs.arr O)<|x (Zo (l:=[]) (l':=[_]))<|x (QM ⟨O,O,O,Z⟩) <|
  xl rfl<|QG (us:=[[.int .i64 1,.int .i64 c.rq.length,.func (.func 152) #[] #[.pointer (some ⟨E,0,none⟩)]],[.int .i64 2,.int .i64 c.ex.length,.func (.func 155) #[] #[.pointer (some ⟨E,0,none⟩)]],[.int .i64 3,.int .i64 c.cs.length,.func (.func 156) #[] #[.pointer (some ⟨E,0,none⟩)]]]) O O (by decide) (by simp) ⟨rfl,rfl,rfl,rfl,rfl,rfl,Z⟩ λV w2 I ha Y =>
  Qf ?_
 have hb:=H.size;refine Ql ⟨[_],La,H.trans I,E,V,O,U,by omega,G.ext I,?_⟩;have e:[0,1,2].flatMap (srV E c.cel)=[.int .i64 1,.int .i64 c.rq.length,.func (.func 152) #[] #[.pointer (some ⟨E,0,none⟩)],.int .i64 2,.int .i64 c.ex.length,.func (.func 155) #[] #[.pointer (some ⟨E,0,none⟩)],.int .i64 3,.int .i64 c.cs.length,.func (.func 156) #[] #[.pointer (some ⟨E,0,none⟩)]]:=by
  simp only[List.flatMap_cons,List.flatMap_nil,srV,e0,e1,e2];rfl
 rw[e];exact Y
def srP (c:Q7):Nat→LN
 | 0=>[]
 | m+1=>srP c m++XZ c m
theorem QbD (c:Q7):srP c 3=sets c:=by
 simp only[srP,Qht,Qhs,Qhr,sets,List.nil_append,List.append_assoc]
theorem j9 {c:Q7}(h:qp c):∀m,m≤3→(srP c m).length≤32*m
 | 0,_=>Ll _
 | m+1,hm=>by
  have h1:=j9 h m (by omega);have h2:=VY h (show m<3 by omega);rw[srP,Lj];omega
abbrev Qg7 (l:LN):LV:=l.map λb=>.int .u16 (b:Nat)
abbrev yA (base:Nat)(w:World)(v:Value)(l:LN):Prop:=w.ownsRow base 202 1 v l.length (Qg7 l)
theorem yA.snoc {base:Nat}{w:World}{v:Value}{l:LN}{b:Nat}(h:w.ownsRow base 202 1 v (l.length+1) (Qg7 l++[.int .u16 (b:Nat)])):yA base w v (l++[b]):=by
 unfold yA Qg7;rw[Lj,Lx];exact h
set_option maxHeartbeats 4000000 in
theorem QkS {L:LN}{w:World}{c:CL}(h0:ZQ L w.heap c)(hc:qp c.cel):
  QH prog 101 [c.val] w λr w'=>Step [] w w'∧yA w.heap.size w' r (sets c.cel):=by
 have h:=h0.up (L':=[]) (by simp);refine QH.of_W func101 O ntmps101 results101 (by simp) ?_;refine Qc<|xl O<|QR (us:=c.cells) O λb1 w1 ho hG hr=>Qf<|Qc<|Qf<|Qg<|Qc<|x (Qo hr O O)<|xl O<|xf<|(VE (h.ext ho)).mono ?_;rintro r2 G ⟨ht,E,bs,hS⟩;have hu:=hS.r;subst hu;have he:=ho.trans ht
 have hA:∀{w':World},Step [] G w'→Zy [] w'.heap (.slice (some ⟨bs,0,none⟩) 3 3) [0,1,2].length 3 ([0,1,2].flatMap (srV E c.cel)):=λhs =>
  (hS.B.ext hs).arr (by simp) (n:=3) (cap:=3) (sz:=3) (by rfl) (by omega) (Lu _)
 refine x (Qr (hA (Step.refl _ _)) O)<|Qb<|xe<|Qh<|Qz (α:=Nat×Value) [(3,3),(5,6),(10,27)] (λz=>[(3,z.2),(10,.int .i64 z.1)]) (λz w'=>z.1≤3∧Step [] G w'∧yA G.heap.size w' z.2 (srP c.cel z.1)) (λz=>3 - z.1) (by rfl) (0,nS) ⟨O,O,Z⟩
  ⟨Ll _,Step.refl _ _,QN _ _ _ _⟩ ?_
 rintro⟨m,v⟩ g w3 ⟨hm,U,H⟩;simp only[]at hm H;have hH:=j9 hc m hm;refine Qc<|x (QA O O)<|xe<|Qg<|QC O (λhf=>?_) (λhf=>?_)
 ·refine Qy ?_;have hv:m=3:=by have hg:¬(m:Int)<(3:Nat):=hf;omega
  rw[hv,QbD]at H;refine Qc<|Qb<|Qf ?_;exact Ql ⟨[v],La,he.trans U,Zd H he.size⟩
 have I:m<3:=by have hg:(m:Int)<(3:Nat):=hf;omega
 have hI:=VY hc I;refine Qi ?_;have hJ:=U.size;have hge:=Qq H;have hw:([0,1,2]:LN)[m]'I=m:=by rcases m with _|_|_|m <;> first|rfl|omega
 refine Qg<|Qh<|Qc<|xig (g:=srV E c.cel) (i:=m) (qV E c.cel) (hA U) O O I λhK hp=>?_;rw[hw]at hp;refine x (QI hp O O)<|xl O<|Qu (us:=[.int .i64 0,.int .i64 0,.nilFunc]) O λb5 w4 hy hz V=>xl O<|Qn (us:=srV E c.cel m) V O O O O ⟨O,O,O,Z⟩ λw5 h1 V =>
  xe ?_
 have hh:Step [] w3 w5:=hy.then1 h1 hz;have hL:=hh.size;refine Qc<|x (Qa O)<|x (Qd V O O)<|Qb<|xe<|Qh<|Qz (α:=Nat×Value) [(3,3),(6,6),(16,26)] (λz=>[(3,z.2),(16,.int .i64 z.1)]) (λz w'=>z.1≤(XZ c.cel m).length∧Step (ob v) w5 w'∧yA G.heap.size w' z.2 (srP c.cel m++(XZ c.cel m).take z.1)∧∀b∈ob z.2,b∈ob v∨w5.heap.size≤b) (λz=>(XZ c.cel m).length - z.1) (by rfl) (0,v) ⟨O,O,Z⟩
  ⟨Ll _,Step.refl _ _,by simp only[List.take_zero,List.append_nil];exact Qs H hh,λb hb=>.inl hb⟩ ?_
 rintro⟨i,vi⟩ g w6 ⟨hi,Y,ha,hj⟩;simp only[]at hi ha hj;have hM:=Y.size;have hk:Step [] G w6:=(U.trans hh).then Y (λb hb=>.inr (hge b hb).1);have h2:b5∉ob v:=λhb=>by have:=(hge b5 hb).2;omega
 have h3:=V.step Y h2;have h6:=h.ext (he.trans hk);have h4:QT w6.heap E 37 c.cells:=hS.B1.ext hk;refine Qc<|x (QA O O)<|xe<|Qg<|QC O (λhl=>?_) (λhl=>?_)
 ·refine Qy ?_;have h5:(XZ c.cel m).length≤i:=by have hg:¬(i:Int)<((XZ c.cel m).length:Int):=hl;omega
  rw[Lp h5]at ha;refine Qw<|QP O O<|Qb<|xe ?_;exact⟨(m+1,vi),by simp only[];omega,⟨O,O,Z⟩,I,hk,ha⟩
 have J:i<(XZ c.cel m).length:=by have hg:(i:Int)<((XZ c.cel m).length:Int):=hl;omega
 have hq:(XZ c.cel m).take (i+1)=(XZ c.cel m).take i++[(XZ c.cel m)[i]'J]:=Li J;have hN:(srP c.cel m++(XZ c.cel m).take i).length≤200:=by rw[Lj,LC];omega
 refine Qi<|Qg<|Qh<|Qc<|Qb<|Qf<|Qw<|Qb<|x (Qa O)<|x (Qd h3 O O)<|Qb<|xl O<|xcG (first:=[]) (capt:=[.pointer (some ⟨E,0,none⟩)]) (QiX m) O<|(Qdm h4 h6 hc I J).mono ?_;rintro r7 w7 ⟨rfl,h7⟩;refine Zj ((XZ c.cel m)[i]'J) λbv h8=>?_;rw[h8]at hq ⊢;refine xl rfl<|QG (us:=[[.int .u16 (bv:Nat)]]) O O (by decide) (by simp) ⟨rfl,rfl,Z⟩ λhO w8 hB hP hC=>?_;have hn:=h7.trans hB
 have hQ:=hn.size;refine xl rfl<|Q4 (news:=[.int .u16 (bv:Nat)]) (L:=[]) (Qs ha hn) O O O (hC.at (by simp)) (by simp[Value.oneCell']) (by omega) (by omega) λv9 w9 hD hE hF =>
  Qf<|Qw<|QP O O<|Qb<|xe ?_
 refine⟨(i+1,v9),by simp only[];omega,⟨O,O,Z⟩,J,(Y.trans hn).then hE hj,?_,λb hb=>?_⟩
 ·simp only[];rw[hq,←LA];exact yA.snoc hD
 rcases hF b hb with h9|h9
 ·exact hj b h9
 exact .inr (by omega)
structure MV where
 kd:Int
 ix:Int
 v:Value
 co:LI
def MV.m (q:MV):YW:=⟨q.kd,q.ix,q.co⟩
abbrev YH (q:MV):LV:=[.int .i64 q.kd,.int .i64 q.ix,q.v]
theorem Qn4 (q:MV):(YH q).length=3:=rfl
abbrev mvP (q:MV):Value×Nat×Nat×LV:=(q.v,q.co.length,1,q.co.map (.int .i64))
abbrev MvN (base:Nat)(w:World)(v:Value)(l:List MV):Prop:=Ye YH 3 135 mvP base w v l
theorem Qlo {q:MV}(h:q.v.oneCell'=true):∀u∈YH q,u.oneCell'=true:=by
 intro u hu;simp only[YH,List.mem_cons,List.not_mem_nil,or_false]at hu;rcases hu with rfl|rfl|rfl
 ·rfl
 ·rfl
 exact h
theorem V7 (k:Int):∀(l:LN) (i:Nat),(Jq k i l).length=l.length
 | [],_=>rfl
 | _::l,i=>by rw[Jq,LF,V7 k l,LF]
theorem jn (k:Int):∀(l:LN) (i j:Nat) (h:j<l.length),(Jq k i l).take (j+1)=(Jq k i l).take j++[⟨k,((i+j:Nat):Int),setK (l[j]'h) 8⟩]
 | [],_,j,h=>absurd h (Me _)
 | b::l,i,0,h=>by rw[Jq];rfl
 | b::l,i,j+1,h=>by
  rw[Jq,Nn,Nn,jn k l (i+1) j (by simpa using h),Mq];have e:((i+1+j:Nat):Int)=((i+(j+1):Nat):Int):=by omega
  rw[e];rfl
abbrev mdG (c:Q7)(m:Nat):List YW:=Jq ((m:Int)+1) 0 (XZ c m)
def mdP (c:Q7):Nat→List YW
 | 0=>[]
 | m+1=>mdP c m++mdG c m
theorem Qb1 (c:Q7):mdP c 3=mods c:=by
 simp only[mdP,mods,List.nil_append,List.append_assoc];rfl
theorem QaF {c:Q7}(h:qp c):∀m,m≤3→(mdP c m).length≤32*m
 | 0,_=>Ll _
 | m+1,hm=>by
  have h1:=QaF h m (by omega);have h2:=VY h (show m<3 by omega);rw[mdP,Lj,V7];omega
set_option maxHeartbeats 4000000 in
theorem Qeh {L:LN}{w:World}{c:CL}(Y:ZQ L w.heap c):
  QH prog 48 [c.val] w λr w'=>Step [] w w'∧∃v l,r=.tuple #[v,.int .i64 (Zi c.cel)]∧MvN w.heap.size w' v l∧(Zi c.cel≠0→v=nS∧l=[])∧(Zi c.cel=0→l.map MV.m=mods c.cel):=by
 have h:=Y.up (L':=[]) (by simp);refine Zj (Zi c.cel) λE hE=>?_;rw[hE];refine QH.of_W func48 O ntmps48 results48 (by simp) ?_;refine Qc<|xl O<|QR (us:=c.cells) O λb1 w1 hB gj hC=>x Qe<|Qf<|Qg<|Qc<|x (Qo hC O O)<|xl O<|xf<|(Xt (h.ext hB)).mono ?_;rintro rc wc ⟨hD,hF⟩;rw[hE]at hD;subst hD;have hN:=hC.ext hF;have hr:=hB.trans hF;refine Qf<|Qc<|Qb<|x (Q6 O O)<|xe ?_
 refine Q3 rfl (λH=>?_) (λH=>?_)
 ·refine Qc<|Qb<|x Qe<|Qf ?_;exact Ql ⟨[nS,.int .i64 E],⟨O,O,Z⟩,hr,nS,[],O,Ye.nil,λ_=>⟨O,O⟩,λY=>absurd Y H⟩
 have ht:E=0:=Ln.1 H;have hk:qp c.cel:=(Z9 (hE.trans ht)).sr;refine Qi<|Qc<|Qf<|Qg<|Qc<|x (Qo hN O O)<|xl O<|xf<|(VE (h.ext hr)).mono ?_;rintro r2 I ⟨hO,J,bs,hS⟩;have hP:=hS.r;subst hP;have hu:=hr.trans hO;have hA:∀{w':World},Step [] I w'→Zy [] w'.heap (.slice (some ⟨bs,0,none⟩) 3 3) [0,1,2].length 3 ([0,1,2].flatMap (srV J c.cel)):=λhs =>
  (hS.B.ext hs).arr (by simp) (n:=3) (cap:=3) (sz:=3) (by rfl) (by omega) (Lu _)
 refine x (Qr (hA (Step.refl _ _)) O)<|Qb<|xe<|Qh<|Qz (α:=Nat×Value×List MV) [(5,5),(7,8),(17,39)] (λz=>[(5,z.2.1),(17,.int .i64 z.1)]) (λz w'=>z.1≤3∧Step [] I w'∧MvN I.heap.size w' z.2.1 z.2.2∧z.2.2.map MV.m=mdP c.cel z.1) (λz=>3 - z.1) (by rfl) (0,nS,[]) ⟨O,O,Z⟩
  ⟨Ll _,Step.refl _ _,Ye.nil,O⟩ ?_
 rintro⟨m,v,l⟩ g w3 ⟨hm,hl,ha,he⟩;simp only[]at hm ha he;have gk:=QaF hk m hm;have gl:l.length=(mdP c.cel m).length:=by rw[←he,Lh]
 refine Qc<|x (QA O O)<|xe<|Qg<|QC O (λhv=>?_) (λhv=>?_)
 ·refine Qy ?_;have hQ:m=3:=by have hw:¬(m:Int)<(3:Nat):=hv;omega
  rw[hQ,Qb1]at he;refine Qc<|Qb<|x Qe<|Qf ?_;have hR:=hu.size;exact Ql ⟨[v,.int .i64 0],⟨O,O,Z⟩,hu.trans hl,v,l,by rw[ht];rfl,⟨Zd ha.own hR,λq hq L hL=>ha.each q hq L (λb hb=>(hL b hb).imp (λh=>by omega) id)⟩,λY=>absurd ht Y,λ_=>he⟩
 have U:m<3:=by have hw:(m:Int)<(3:Nat):=hv;omega
 have gm:=VY hk U;refine Qi ?_;have gn:=hl.size;have hge:=Qq ha.own;have hT:([0,1,2]:LN)[m]'U=m:=by rcases m with _|_|_|m <;> first|rfl|omega
 refine Qg<|Qh<|Qc<|xig (g:=srV J c.cel) (i:=m) (qV J c.cel) (hA hl) O O U λgq H=>?_;rw[hT]at H;refine x (QI H O O)<|xl O<|Qu (us:=[.int .i64 0,.int .i64 0,.nilFunc]) O λb7 w4 hU hV hf=>xl O<|Qn (us:=srV J c.cel m) hf O O O O ⟨O,O,O,Z⟩ λw5 hW hf =>
  xe ?_
 have hy:Step [] w3 w5:=hU.then1 hW hV;have gr:=hy.size;refine Qc<|x (Qa O)<|x (Qd hf O O)<|Qb<|xe ?_
 refine Qh<|Qz (α:=Nat×Value×List MV) [(5,5),(8,8),(23,38)] (λz=>[(5,z.2.1),(23,.int .i64 z.1)]) (λz w'=>z.1≤(XZ c.cel m).length∧Step (ob v) w5 w'∧MvN I.heap.size w' z.2.1 z.2.2∧z.2.2.map MV.m=mdP c.cel m++(mdG c.cel m).take z.1∧∀b∈ob z.2.1,b∈ob v∨w5.heap.size≤b) (λz=>(XZ c.cel m).length - z.1) (by rfl) (0,v,l) ⟨O,O,Z⟩
  ⟨Ll _,Step.refl _ _,ha.ext hy,by simp only[List.take_zero,List.append_nil];exact he,λb hb=>.inl hb⟩ ?_
 rintro⟨i,vi,li⟩ g G ⟨hi,hn,hg,hh,ho⟩;simp only[]at hi hg hh ho;have gs:=hn.size;have hX:=Qq hg.own;have hp:Step [] I G:=(hl.trans hy).then hn (λb hb=>.inr (hge b hb).1);have hG:b7∉ob v:=λhb=>by have:=(hge b7 hb).2;omega
 have hH:=hf.step hn hG;have h6:=h.ext (hu.trans hp);have hY:QT G.heap J 37 c.cells:=hS.B1.ext hp;have gt:li.length≤200:=by
  have e1:=congrArg List.length hh;rw[Lh,Lj,LC]at e1;have e2:(mdG c.cel m).length=(XZ c.cel m).length:=V7 _ _ _;omega
 refine Qc<|x (QA O O)<|xe<|Qg<|QC O (λhz=>?_) (λhz=>?_)
 ·refine Qy ?_;have hZ:(XZ c.cel m).length≤i:=by have hw:¬(i:Int)<((XZ c.cel m).length:Int):=hz;omega
  rw[Lp (by rw[V7];exact hZ)]at hh;refine Qw<|QP O O<|Qb<|xe ?_;exact⟨(m+1,vi,li),by simp only[];omega,⟨O,O,Z⟩,U,hp,hg,hh⟩
 have V:i<(XZ c.cel m).length:=by have hw:(i:Int)<((XZ c.cel m).length:Int):=hz;omega
 have h1:(mdG c.cel m).take (i+1)=(mdG c.cel m).take i++[⟨(m:Int)+1,((0+i:Nat):Int),setK ((XZ c.cel m)[i]'V) 8⟩]:=jn _ _ _ _ V;rw[LR]at h1;have hI:=qW hk U _ (Lc V);refine Qi<|Qg<|Qh<|Qc<|Qb<|Qf ?_;have hJ:b7∉ob vi:=λhb=>by
  rcases ho b7 hb with h9|h9
  ·exact hG h9
  have:=hf.lt;omega
 have h2:Step [] G { G with drawn:=G.drawn+1 }:=Step.drew _ _
 have gu:({ G with drawn:=G.drawn+1 }:World).heap.size=G.heap.size:=rfl
 refine QU (Step (ob vi) G) [(0,true),(1,true),(2,true),(3,true),(4,true),(5,true),(6,true),(7,false),(8,false),(9,true),(10,false),(11,false),(12,true)] mixed (by rfl) (by kernel_rfl) (Step.drew _ _) ?_;refine p (λ_=>Qk)<|p (λ_=>Qa O)<|pq (λ_ hc=>Qd (hH.step hc hJ) O O)<|p (λ_=>Qk)<|p (λ_=>Qa O) <|
  pq (λ_ hc=>Qd (hH.step hc hJ) O O)<|p (λ_=>Qk)<|pk<|xcG (first:=[]) (capt:=[.pointer (some ⟨J,0,none⟩)]) (QiX m) O<|(Qdm (hY.ext h2) (h6.ext h2) hk U V).mono ?_
 rintro r8 w8 ⟨rfl,ga⟩;refine Zj ((XZ c.cel m)[i]'V) λbv gb=>?_;rw[gb]at h1 hI ⊢;have h3:=h2.trans ga;refine⟨h3.any,?_⟩;refine pk<|xf<|(QaJ bv hI w8).mono ?_;rintro r9 w9 ⟨gc,h4⟩;have h5:=h3.trans gc;have gv:=h3.size;refine⟨h5.any,?_⟩
 refine p (λ_=>QM ⟨O,O,Zp h4,Z⟩)<|pk<|QG (us:=[YH ⟨(m:Int)+1,i,r9,setK bv 8⟩]) O O (by decide) (by simp) ⟨rfl,rfl,Z⟩ λgx gy h7 gz ge=>⟨(h5.trans h7).any,?_⟩;have hj:=h5.trans h7;have g0:=hj.size
 refine pk<|Q4 (news:=YH ⟨(m:Int)+1,i,r9,setK bv 8⟩) (L:=[]) (Qs hg.own hj) O O O (ge.at (by simp)) (Qlo (q:=⟨(m:Int)+1,i,r9,setK bv 8⟩) (QQ h4)) (by omega) (by omega) λhK gg gh h8 hM=>⟨hj.any.trans' h8,?_⟩;refine p (λ_=>Qe)<|pe ?_;have g1:=Jf bv 8
 have gi:MvN I.heap.size gg hK (li++[⟨(m:Int)+1,i,r9,setK bv 8⟩]):=Ye.app2 (N:=w8.heap.size) (hg.ext hj) (Qs h4 h7) (by show(setK bv 8).length≤_;omega) (by have:=hp.size;omega) (λb hb=>by have:=hX b hb;omega) gh h8 hM;refine Qw<|QP O O<|Qb<|xe ?_
 refine⟨(i+1,hK,li++[⟨(m:Int)+1,i,r9,setK bv 8⟩]),by simp only[];omega,⟨O,O,Z⟩,V,(hn.trans hj).then h8 ho,gi,?_,λb hb=>?_⟩
 ·simp only[];rw[h1,Lx,hh,LA];rfl
 rcases hM b hb with h9|h9
 ·exact ho b h9
 exact .inr (by omega)
theorem QqK {n:Nat}(h:n≤8):2 ^ n≤256:=Nat.pow_le_pow_right (by decide) h
set_option maxHeartbeats 4000000 in
theorem Qba {L:LN}{w:World}{c:CL}(I:ZQ L w.heap c):
  QH prog 50 [c.val] w λr w'=>Step [] w w'∧∃v,r=.tuple #[v,.int .i64 (Zi c.cel)]∧(Zi c.cel≠0→v=nS)∧(Zi c.cel=0→Qt 3 w.heap.size w' v (rem c.cel)):=by
 have h:=I.up (L':=[]) (by simp);refine Zj (Zi c.cel) λE hE=>?_;rw[hE];refine QH.of_W func50 O ntmps50 results50 (by simp) ?_;refine Qc<|xl O<|QR (us:=c.cells) O λb1 w1 hf h9 hg=>x Qe<|Qf<|Qg<|Qc<|x (Qo hg O O)<|xl O<|xf<|(Xt (h.ext hf)).mono ?_;rintro rc wc ⟨hh,hi⟩;rw[hE]at hh;subst hh;have hj:=hg.ext hi;have U:=hf.trans hi;refine Qf<|Qc<|Qb<|x (Q6 O O)<|xe ?_
 refine Q3 rfl (λV=>?_) (λV=>?_)
 ·refine Qc<|Qb<|x Qe<|Qf ?_;exact Ql ⟨[nS,.int .i64 E],⟨O,O,Z⟩,U,nS,O,λ_=>O,λI=>absurd I V⟩
 have Y:E=0:=Ln.1 V;have G:qp c.cel:=(Z9 (hE.trans Y)).sr;have ht:c.cel.co.length=c.co.length:=Lh ..;have h8:c.co.length≤8:=by have:=G.c8;omega
 have hB:=QqK h8;have hC:0<2 ^ c.co.length:=Nat.pow_pos (by decide);have he:(1:Int)*(2:Int) ^ c.co.length - 1=((2 ^ c.co.length - 1:Nat):Int):=by
  rw[QbF,Nat.shiftLeft_eq,M7];omega
 have hu:inK .u16 ((1:Int)*(2:Int) ^ c.co.length - 1):=by rw[he];exact⟨by omega,by omega⟩
 have hl:2 ^ c.co.length - 1<65536:=by omega
 have hv:=j9 G 3 (by omega);rw[QbD]at hv;have hm:Qam c.cel=(sets c.cel).foldl (λl b=>l &&& (65535 ^^^ b)) (2 ^ c.co.length - 1):=by unfold Qam;rw[ht]
 have hw:∀b∈sets c.cel,b<65536:=by
  intro b hb;unfold sets at hb;rcases Lo.1 hb with hb|hb
  ·exact qW G (m:=0) (by omega) b hb
  rcases Lo.1 hb with hb|hb
  ·exact qW G (m:=1) (by omega) b hb
  exact qW G (m:=2) (by omega) b hb
 refine Zj (2 ^ c.co.length - 1) λb0 hz=>?_;rw[hz]at he hm hl;have hn:=h.ext U;refine Qi<|Qc<|x (Qa O)<|x (Qd hj O O)<|x (Qr hn.co.arr O)<|x (QeO (n:=c.co.length) O O (by show c.co.length≤16;omega) (QlV (by omega)))<|x (JW O O hu)<|Qf<|Qg<|Qc<|x (Qo hj O O)<|xl O<|xf<|(QkS hn G).mono ?_;rintro r2 w2 ⟨h1,h2⟩
 have hA:Zy [] w2.heap r2 (sets c.cel).length 1 (Qg7 (sets c.cel)):=QV h2 (by omega) (by simp);have h3:Zy [] w2.heap r2 (sets c.cel).length 1 ((sets c.cel).flatMap λb=>[.int .u16 (b:Nat)]):=by
  have e:(sets c.cel).flatMap (λb=>[Value.int .u16 (b:Nat)])=Qg7 (sets c.cel):=by
   generalize sets c.cel=l;induction l with
   | nil=>rfl
   | cons a l ih=>rw[LW,ih];rfl
  rw[e];exact hA
 refine x (Qr hA O)<|Qb<|xe<|Qh<|Qz (α:=Nat×Nat) [(5,5),(7,7),(21,28)] (λz=>[(5,.int .u16 z.2),(21,.int .i64 z.1)]) (λz w'=>z.1≤(sets c.cel).length∧Step [] w2 w'∧z.2<65536∧((sets c.cel).drop z.1).foldl (λl b=>l &&& (65535 ^^^ b)) z.2=Qam c.cel) (λz=>(sets c.cel).length - z.1) (by rfl) (0,b0) ⟨congrArg (Value.int .u16) he,O,Z⟩
  ⟨Ll _,Step.refl _ _,hl,hm.symm⟩ ?_
 rintro⟨k,b⟩ g w3 ⟨hk,ha,hb,H⟩;simp only[]at hk hb H;have ho:=(U.trans h1).trans ha;refine Qc<|x (QA O O)<|xe<|Qg<|QC O (λhc=>?_) (λhc=>?_)
 ·refine Qy ?_;have h4:(sets c.cel).length≤k:=by have h5:¬(k:Int)<((sets c.cel).length:Int):=hc;omega
  rw[Lv h4]at H;have h6:b=Qam c.cel:=H;refine Qc<|Qb<|xl O<|xf<|(QaJ b hb w3).mono ?_;rintro r4 w4 ⟨h7,hp⟩;refine x Qe<|Qf ?_;rw[h6]at hp;exact Ql ⟨[r4,.int .i64 0],⟨O,O,Z⟩,ho.trans h7,r4,by rw[Y];rfl,λI=>absurd Y I,λ_=>Zd hp ho.size⟩
 have J:k<(sets c.cel).length:=by have h5:(k:Int)<((sets c.cel).length:Int):=hc;omega
 have hq:=hw _ (Lc J);rw[LQ J,LM]at H;refine Qi<|Qg<|Qh<|Qc<|xig (g:=λb:Nat=>[.int .u16 (b:Nat)]) (i:=k) (λ_=>O) (h3.ext ha) O O J λhD hs=>?_;refine Zj ((sets c.cel)[k]'J) λy hy=>?_;rw[hy]at hs hq H;refine x (Qv hs O)<|Qf<|Qw<|Qb<|Qb<|x (Qdw (a:=b) (b:=y) O O hb hq)<|Qf<|Qw<|QP O O<|Qb<|xe ?_
 exact⟨(k+1,b &&& (65535 ^^^ y)),by simp only[];omega,⟨O,O,Z⟩,J,ha,Nv Nat.and_le_left hb,H⟩
theorem QlQ {L:LN}{w:World}{v:Value}{J:Nat}{c:Q7}{es:LN}{g:Nat}{fn:Func}[Fu prog g fn]{cap:LV}{q:Nat→Bool}(h:Zy L w.heap v es.length 3 (es.flatMap (srV J c)))
  (hk:∀(m:Nat) (G:World),Step [] w G→QH prog g ([.agg (srV J c m).toArray]++cap) G λr w'=>r=.bool (q m)∧Step [] G w'):
  QH prog 193 [v,.func (.func g) #[] cap.toArray] w λr w'=>Step [] w w'∧∃i:Int,r=.int .i64 i∧((i=-1∧∀m∈es,q m=false)∨∃k:Nat,∃m,es[k]?=some m∧i=(k:Int)∧q m=true):=by
 have hf:=h.le;refine QH.of_W func193 O ntmps193 results193 (by simp) ?_;refine Qc<|Qf<|Qg<|Qc<|Qb<|x (Qr h O)<|Qb<|xe<|Qh<|Qz (α:=Nat) [(4,5),(8,18)] (λz=>[(8,.int .i64 z)]) (λz w'=>z≤es.length∧Step [] w w'∧∀m∈es.take z,q m=false) (λz=>es.length - z) (by rfl) 0 La ⟨Ll _,Step.refl _ _,λm hm=>by simp at hm⟩ ?_;rintro k g' G ⟨hg,H,U⟩;refine Qc<|x (QA O O)<|xe ?_
 refine Qg<|QC O (λh9=>?_) (λh9=>?_)
 ·refine Qy ?_;have he:es.length≤k:=by have I:¬(k:Int)<(es.length:Int):=h9;omega
  rw[Lp he]at U;refine Qc<|Qf ?_;exact Ql ⟨[.int .i64 (-1)],La,H,-1,O,.inl ⟨O,U⟩⟩
 have E:k<es.length:=by have I:(k:Int)<(es.length:Int):=h9;omega
 have V:es.take (k+1)=es.take k++[es[k]'E]:=Li E;have Y:es[k]?=some (es[k]'E):=LE E;refine Qi<|Qg<|Qh<|Qc<|Qb<|Qf<|Qc<|Qb<|Qb<|Qb<|xig (g:=srV J c) (i:=k) (qV J c) (h.ext H) O O E λhh ha=>?_;refine Zj (es[k]'E) λm hm=>?_;rw[hm]at ha V Y;refine x (QI ha O O)<|xl O<|xc (first:=[]) (capt:=cap) O<|(hk m G H).mono ?_
 rintro r2 w2 ⟨rfl,hb⟩;refine xe<|QZ rfl (λI=>?_) (λI=>?_)
 ·refine Qc<|Qb<|Qf ?_;exact Ql ⟨[.int .i64 k],La,H.trans hb,k,O,.inr ⟨k,m,Y,O,I⟩⟩
 refine Qi<|Qw<|QP O O<|Qb<|xe<|⟨k+1,by omega,La,E,H.trans hb,λm' hc=>?_⟩;rw[V]at hc;rcases Lo.1 hc with h1|h1
 ·exact U m' h1
 simp only[List.mem_singleton]at h1;subst h1;exact I
theorem Qmz {w:World}{E G m:Nat}{c:Q7}{q:MV}(I:QT w.heap G 135 (YH q)):
  QH prog 194 [.agg (srV E c m).toArray,.pointer (some ⟨G,0,none⟩)] w λr w'=>r=.bool (decide ((m:Int)+1=q.kd))∧Step [] w w':=by
 refine QH.of_W func194 O ntmps194 results194 (by simp) ?_;refine Qc<|xl O<|QR (us:=srV E c m) O λU V H Y J=>Qf<|Qc<|x (Qa O)<|x (Qd J O O)<|x (Qa O)<|x (Qd (I.ext H) O O)<|x (Zr O O)<|Qf ?_;exact Ql ⟨[_],La,O,H⟩
set_option maxHeartbeats 4000000 in
theorem Qgn {L:LN}{w:World}{c:CL}{q:MV}(h0:ZQ L w.heap c)(hH:QJ L w.heap q.v q.co):
  QH prog 157 [c.val,.agg #[.int .i64 q.kd,.int .i64 q.ix,q.v]] w λr w'=>r=.int .i64 (mdE c.cel q.m)∧Step [] w w':=by
 have h:=h0.up (L':=[]) (by simp);have hm:=hH.up (L':=[]) (by simp);have G:mdE c.cel q.m=if Zi c.cel≠0 then Zi c.cel else if q.kd<1∨3<q.kd then 11 else if q.ix<0∨((srK c.cel q.kd).length:Int)≤q.ix then 10 else if q.co=setK ((srK c.cel q.kd).getD q.ix.toNat 0) 8 then 0 else 13:=rfl
 refine Zj (mdE c.cel q.m) λE hE=>?_;rw[hE]at G ⊢;refine QH.of_W func157 O ntmps157 results157 (by simp) ?_;refine Qc<|xl O<|QR (us:=c.cells) O λb2 w1 hI gh hy=>xl O<|QR (us:=YH q) O λb3 w2 hg gi hJ=>Qf ?_;have h1:=hI.trans hg;refine Qg<|Qc<|x (Qo (hy.ext hg) O O)<|xl O<|xf<|(Xt (h.ext h1)).mono ?_;rintro r3 w3 ⟨rfl,hh⟩;refine Qf ?_;have hj:=h1.trans hh
 have hK:=(hy.ext hg).ext hh;have hL:=hJ.ext hh;refine Qc<|Qb<|x (Q6 O O)<|xe<|Q3 rfl (λha=>?_) (λha=>?_)
 ·rw[if_pos ha]at G;subst G;refine Qc<|Qb<|Qf ?_;exact Ql ⟨[_],La,O,hj⟩
 rw[if_neg ha]at G;have hl:qp c.cel:=(Z9 (Ln.1 ha)).sr;refine Qi<|Qc<|x (Qo hK O O)<|xl O<|xf<|(VE (h.ext hj)).mono ?_;rintro r4 w4 ⟨h2,H,bs,hS⟩;have hM:=hS.r;subst hM;refine Qf ?_;have hN:=hj.trans h2;have h3:=hL.ext h2
 have hA:Zy [] w4.heap (.slice (some ⟨bs,0,none⟩) 3 3) [0,1,2].length 3 ([0,1,2].flatMap (srV H c.cel)):=hS.B.arr (by simp) (n:=3) (cap:=3) (sz:=3) (by rfl) (by omega) (Lu _);refine Qc<|Qb<|x (Zo (l:=[]) (l':=[_]))<|xl O<|xf<|(QlQ (q:=λm=>decide ((m:Int)+1=q.kd)) (cap:=[.pointer (some ⟨b3,0,none⟩)]) hA (λm w5 I=>Qmz (h3.ext I))).mono ?_;rintro r5 w5 ⟨I,i,rfl,hi⟩;refine Qf ?_
 have h4:=hN.trans I;have hn:=h3.ext I;have h5:=hA.ext I;have hO:QT w5.heap H 37 c.cells:=hS.B1.ext I;refine Qg<|Qh<|Qc<|Qb<|x (QA O O)<|Qf<|Q3 O (λho=>?_) (λho=>?_)
 ·have hp:q.kd<1∨3<q.kd:=by
   rcases hi with⟨_,hi⟩|⟨k,m,_,hi,_⟩
   ·have e0:=of_decide_eq_false (hi 0 (by simp));have e1:=of_decide_eq_false (hi 1 (by simp));have e2:=of_decide_eq_false (hi 2 (by simp));omega
   have gj:i<0:=ho;omega
  rw[if_pos hp]at G;subst G;refine Qc<|Qf ?_;exact Ql ⟨[_],La,O,h4⟩
 obtain⟨m,J,hP,hp⟩:∃m:Nat,m<3∧i=(m:Int)∧q.kd=(m:Int)+1:=by
  rcases hi with⟨hi,_⟩|⟨k,m,hk,hi,hq⟩
  ·exact absurd (by rw[hi];decide:i<0) ho
  have gk:=of_decide_eq_true hq;obtain⟨hQ,hk⟩:=L7.1 hk;have hR:k<3:=hQ;have gl:m=k:=by rcases k with _|_|_|k <;> first|exact hk.symm|omega
  exact⟨k,hR,hi,by omega⟩
 subst hP;rw[if_neg (by omega),show srK c.cel q.kd=XZ c.cel m by rw[hp]]at G;have gm:=VY hl J;have h6:([0,1,2]:LN)[m]'J=m:=by rcases m with _|_|_|m <;> first|rfl|omega
 refine QX (α:=Bool) [(21,34)] (λz=>[(21,.bool z)]) (λz w'=>Step [] w5 w'∧z=decide (q.ix<0∨((XZ c.cel m).length:Int)≤q.ix)) (by rfl) ?_ ?_
 ·refine QU (Step [] w5) [(0,true),(1,true),(2,true),(3,true),(4,true),(5,true),(6,true),(7,true),(8,true),(9,true),(10,true),(11,true),(12,true),(13,true)] mixed (by rfl) (by kernel_rfl) (Step.drew _ _) ?_;refine p (λ_=>Qa O)<|pq (λ_ hc=>Qd (hn.ext hc) O O)<|pb (λ_=>QA O O) (λht=>?_) (λht=>?_)
  ·refine p (λ_=>Qk)<|ps<|ps<|ps<|ps<|ps<|ps<|ps<|ps<|p (λ_=>Qp O)<|p (λ_=>Qe)<|pe ?_;have hu:q.ix<0:=ht;exact⟨true,La,Step.drew _ _,by rw[decide_eq_true (.inl hu)]⟩
  refine p (λ_=>Qk)<|p (λ_=>Qa O)<|pq (λ_ hc=>Qd (hn.ext hc) O O)<|p (λ_=>Qk)<|p (λ_=>Qk) <|
   Go.Lg.pig (g:=srV H c.cel) (i:=m) O (qV H c.cel) h5 O O J λgn h7=>?_
  rw[h6]at h7;refine p (λ_=>Zf O)<|pq (λ_ hc=>Qv ((h7.fld 1 (.int .i64 (XZ c.cel m).length) O).st hc) O)<|p (λ_=>ZV O O) <|
   p (λ_=>Qp O)<|p (λ_=>Qe)<|pe ?_
  have hu:¬q.ix<0:=ht;refine⟨decide (((XZ c.cel m).length:Int)≤q.ix),La,Step.drew _ _,?_⟩;rw[decide_eq_decide];exact⟨.inr,λh=>h.resolve_left hu⟩
 rintro z g V ⟨hb,hz⟩;have he:=h4.trans hb;refine QZ rfl (λhv=>?_) (λhv=>?_)
 ·rw[if_pos (of_decide_eq_true (hz.symm.trans hv))]at G;subst G;refine Qc<|Qf ?_;exact Ql ⟨[_],La,O,he⟩
 have hT:=of_decide_eq_false (hz.symm.trans hv);rw[if_neg hT]at G;have hU:q.ix=(q.ix.toNat:Int):=by omega
 have U:q.ix.toNat<(XZ c.cel m).length:=by omega
 have hV:(XZ c.cel m).getD q.ix.toNat 0=(XZ c.cel m)[q.ix.toNat]'U:=by simp[List.getD,U]
 have h8:=qW hl J _ (Lc U);rw[hV]at G;have h9:=hn.ext hb;have hW:=h5.ext hb;have hB:Step [] V { V with drawn:=V.drawn+1 }:=Step.drew _ _
 have hX:∀{w':World},Step [] V w'→QH prog (gK m) [.int .i64 q.ix,.pointer (some ⟨H,0,none⟩)] w' λr hY=>r=.int .u16 ((XZ c.cel m)[q.ix.toNat]'U:Nat)∧Step [] w' hY:=by
  intro w' hs;have:=Qdm ((hO.ext hb).ext hs) ((h.ext he).ext hs) hl J U;rw[←hU]at this;exact this
 refine Qg<|QU (Step [] V) [(0,true),(1,true),(2,true),(3,true),(4,true),(5,true),(6,true),(7,true),(8,true),(9,false),(10,false),(11,false),(12,true),(13,true)] mixed (by rfl) (by kernel_rfl) (Step.drew _ _) ?_;refine p (λ_=>Qa O)<|pq (λ_ hc=>Qd (h9.ext hc) O O)<|p (λ_=>Qk)<|p (λ_=>Qk)<|Go.Lg.pig (g:=srV H c.cel) (i:=m) O (qV H c.cel) hW O O J λgq hC=>?_;rw[h6]at hC
 refine p (λ_=>Zf O)<|pq (λ_ hc=>Qv ((hC.fld 2 (.func (.func (gK m)) #[] #[.pointer (some ⟨H,0,none⟩)]) O).st hc) O)<|p (λ_=>Qa O)<|pq (λ_ hc=>Qd (h9.ext hc) O O) <|
  pk<|xcG (first:=[]) (capt:=[.pointer (some ⟨H,0,none⟩)]) (QiX m) O<|(hX hB).mono ?_
 rintro r7 w7 ⟨rfl,hZ⟩;refine Zj ((XZ c.cel m)[q.ix.toNat]'U) λbv ga=>?_;rw[ga]at G h8 ⊢;have hD:=hB.trans hZ;refine⟨hD,?_⟩;refine pk<|xf<|(QaJ bv h8 w7).mono ?_;rintro r8 w8 ⟨gb,gc⟩;have hf:=hD.trans gb;refine⟨hf,?_⟩;have gr:=Jf bv 8;refine pk<|xf<|(Vj (hm.ext (he.trans hf)) (Qt.ints (L:=[]) gc (by omega) (by simp))).mono ?_;rintro r9 w9 ⟨rfl,hF⟩
 refine⟨hf.trans hF,?_⟩;refine p (λ_=>Zt O)<|p (λ_=>Qe)<|pe ?_;have hG:=(he.trans hf).trans hF;refine QZ rfl (λhw=>?_) (λhw=>?_)
 ·have ge:¬q.co=setK bv 8:=by
   intro e;have Y:(!decide (q.co=setK bv 8))=true:=hw;rw[decide_eq_true e]at Y;cases Y
  rw[if_neg ge]at G;subst G;refine Qc<|Qf ?_;exact Ql ⟨[_],La,O,hG⟩
 have gg:q.co=setK bv 8:=by
  refine Decidable.byContradiction λe=>?_;have Y:(!decide (q.co=setK bv 8))=false:=hw;rw[decide_eq_false e]at Y;cases Y
 rw[if_pos gg]at G;subst G;refine Qi<|Qc<|Qf ?_;exact Ql ⟨[_],La,O,hG⟩
end Go.Proofs.YtjcgijbhaemldaaGreatDoor
namespace Go.Lg
section
variable {P:Program}{f:Fr}{w:World}{d:Option Nat}{ty:Nat}{ps:String}{af:Array Edge}{gd:Option (Nat×Bool)}
abbrev i2 (p:Int×Int):LV:=[.int .i64 p.1,.int .i64 p.2]
abbrev i5 (a:ByteArray)(b c e:Bool)(i:Int):LV:=[.string a,.bool b,.bool c,.bool e,.int .i64 i]
end
end Go.Lg
namespace Go.Proofs.YtjcgijbhaemldaaGreatDoor
open Go.Lg
open Go.Sort
end Go.Proofs.YtjcgijbhaemldaaGreatDoor
namespace Go.Lg
section
variable {P:Program}{f:Fr}{w:World}{d:Option Nat}{ty:Nat}{ps:String}{af:Array Edge}{gd:Option (Nat×Bool)}
theorem Qdt {t E e bys:Nat}{z:Value}[h:Sl P t e 1 bys z][he:Ik P e .u8][hd:St P E]{x:Operand}{b T n cap:Nat}(G:QT w.heap b T [.int .u8 (n:Int)])(I:n<256)(hx:ev f x=.slice (some ⟨b,0,none⟩) 1 cap):
  (execOp (ev f) ⟨d,.convert t E x,ty,ps,af,gd⟩).run P w=.ok (.value (.string ⟨#[UInt8.ofNat n]⟩)) w:=by
 refine Qar hx ?_;refine run_convert_bytes_back (P:=P) w t E e ⟨b,0,none⟩ cap [UInt8.ofNat n] h.u he.u hd.u (λj hj=>?_);have H:j=0:=by simp at hj;omega
 subst H;rw[Ja];have h1:(⟨b,0,none⟩:Addr).add 0=⟨b,0,none⟩:=rfl;rw[h1,G.cell];have h2:(UInt8.ofNat n).toNat=n:=by simp[UInt8.toNat_ofNat'];omega
 simp[h2]
end
end Go.Lg
namespace Go.Proofs.YtjcgijbhaemldaaGreatDoor
open Go.Lg
theorem KQ {N b:Nat}{w w':World}{v:Value}{l:List IV}(h:∀L:LN,(∀c∈L,c<N)→Xm L w.heap v l)(hb:b<N)(hs:Step [b] w w'):∀L:LN,(∀c∈L,c<N)→Xm L w'.heap v l:=λL E =>
 ((h (b::L) (λc hc=>(Le.1 hc).elim (λe=>by omega) (E c))).st (hs.mono (by simp))).up (λc hc=>.inl (Lk _ hc))
theorem Ul {N b:Nat}{w w':World}{v:Value}{l:List Vp}(h:∀L:LN,(∀c∈L,c<N)→KA L w.heap v l)(hb:b<N)(hs:Step [b] w w'):∀L:LN,(∀c∈L,c<N)→KA L w'.heap v l:=λL E =>
 ((h (b::L) (λc hc=>(Le.1 hc).elim (λe=>by omega) (E c))).st (hs.mono (by simp))).up (λc hc=>.inl (Lk _ hc))
theorem Qky {N b:Nat}{w w':World}{v:Value}{l:List XV}(h:∀L:LN,(∀c∈L,c<N)→qL L w.heap v l)(hb:b<N)(hs:Step [b] w w'):∀L:LN,(∀c∈L,c<N)→qL L w'.heap v l:=λL E =>
 ((h (b::L) (λc hc=>(Le.1 hc).elim (λe=>by omega) (E c))).st (hs.mono (by simp))).up (λc hc=>.inl (Lk _ hc))
theorem Qjm (e:Vp):∀u∈Zv e,u.oneCell'=true:=by
 intro y hy;simp only[Zv,List.mem_cons,List.not_mem_nil,or_false]at hy;rcases hy with rfl|rfl|rfl|rfl|rfl <;> rfl
theorem Qfh {q:IV}(h1:q.p.va.oneCell'=true)(h2:q.p.vm.oneCell'=true)(h3:q.p.ve.oneCell'=true):∀u∈Zn q,u.oneCell'=true:=by
 intro y hy;simp only[Zn,List.mem_cons,List.not_mem_nil,or_false]at hy;rcases hy with rfl|rfl|rfl|rfl|rfl
 ·rfl
 ·exact h1
 ·rfl
 ·exact h2
 exact h3
theorem Qce {base N:Nat}{av:LN}{H:Array Obj}{q:IV}(h:∀L:LN,(∀b∈L,b<N)→Zm L H q.p.va q.p.vm q.p.ve q.p.a)(hb:base≤N)(G:∀b∈av,b<N):∀t∈QlT q,Z3 base av H t.1 t.2.1 t.2.2.1 t.2.2.2:=by
 intro t ht;simp only[List.mem_cons,List.not_mem_nil,or_false]at ht;rcases ht with rfl|rfl|rfl
 ·exact Z3.of_lt (λL E=>(h L E).al) hb G
 ·exact Z3.of_lt (λL E=>(h L E).mr) hb G
 exact Z3.of_lt (λL E=>(h L E).ed) hb G
theorem Zy.full {L:LN}{H:Array Obj}{v:Value}{n sz:Nat}{cs:LV}(h:Zy L H v n sz cs)(E:0<n):∃a cap,v=.slice (some a) n cap∧At L H a cs:=by
 rcases h.2.2 with⟨_,h2⟩|⟨a,cap,h1,_,h3⟩
 ·omega
 exact⟨a,cap,h1,h3⟩
structure yF (base:Nat)(w:World)(vc va:Value)(co:List IV)(al:LI):Prop where
 c:w.ownsRow base 92 5 vc co.length (co.flatMap Zn)
 a:Qt 3 base w va al
 dj:Dj vc va
 each:∀q∈co,∀t∈QlT q,Z3 base (ob vc++ob va) w.heap t.1 t.2.1 t.2.2.1 t.2.2.2
section
variable {base:Nat}{w w':World}{vc va vc' va':Value}{co:List IV}{al:LI}
theorem yF.nil:yF base w (nS) (nS) [] []:=⟨QN _ _ _ _,QN _ _ _ _,Dj.nil _,λq hq=>by cases hq⟩
theorem yF.ext (h:yF base w vc va co al)(hs:Step [] w w'):yF base w' vc va co al:=⟨Qs h.c hs,Qs h.a hs,h.dj,λq hq t ht=>(h.each q hq t ht).ext hs⟩
theorem yF.low {X:LN}(h:yF base w vc va co al)(hs:Step X w w')(E:∀b∈X,b<base):yF base w' vc va co al :=
 ⟨Qm h.c hs (λb hb hm=>by have:=(Qq h.c b hb).1;have:=E b hm;omega),Qm h.a hs (λb hb hm=>by have:=(Qq h.a b hb).1;have:=E b hm;omega),h.dj,λq hq t ht=>(h.each q hq t ht).low hs E⟩
theorem yF.avlt (h:yF base w vc va co al):∀b∈ob vc++ob va,b<w.heap.size:=λb hb=>(Lo.1 hb).elim (QY h.c b) (QY h.a b)
theorem yF.setC {q:IV}(h:yF base w vc va co al)(hq:∀t∈QlT q,Z3 base (ob vc++ob va) w.heap t.1 t.2.1 t.2.2.1 t.2.2.2)(J:w'.ownsRow base 92 5 vc' (co.length+1) (co.flatMap Zn++Zn q))
  (hs:Step (ob vc) w w') (E:∀b∈ob vc',b∈ob vc∨w.heap.size≤b):yF base w' vc' va (co++[q]) al:=by
 have G:Step (ob vc++ob va) w w':=hs.mono (λb hb=>Lo.2 (.inl hb));have H:∀b∈ob vc'++ob va,b∈ob vc++ob va∨w.heap.size≤b:=λb hb=>by
  rcases Lo.1 hb with hb|hb
  ·exact(E b hb).imp (λh=>Lo.2 (.inl h)) id
  exact .inl (Lo.2 (.inr hb))
 refine⟨?_,Qm h.a hs (λb hb U=>h.dj b U hb),λb hb I=>?_,λd hd t ht=>?_⟩
 ·rw[Lj,LG];simpa using J
 ·rcases E b hb with h1|h1
  ·exact h.dj b h1 I
  have:=QY h.a b I;omega
 rcases Lo.1 hd with hd|hd
 ·exact(h.each d hd t ht).app G H
 simp only[List.mem_singleton]at hd;subst hd;exact(hq t ht).app G H
theorem yF.setA {G:LI}(h:yF base w vc va co al)(I:Qt 3 base w' va' G)(hs:Step (ob va) w w')(H:∀b∈ob va',b∈ob va∨w.heap.size≤b):yF base w' vc va' co G:=by
 have J:Step (ob vc++ob va) w w':=hs.mono (λb hb=>Lo.2 (.inr hb));have U:∀b∈ob vc++ob va',b∈ob vc++ob va∨w.heap.size≤b:=λb hb=>by
  rcases Lo.1 hb with hb|hb
  ·exact .inl (Lo.2 (.inl hb))
  exact(H b hb).imp (λh=>Lo.2 (.inr h)) id
 refine⟨Qm h.c hs (λb hb E=>h.dj b hb E),I,λb hb E=>?_,λd hd t ht=>(h.each d hd t ht).app J U⟩;rcases H b E with h1|h1
 ·exact h.dj b hb h1
 have:=QY h.c b hb;omega
theorem yF.itms {L:LN}(h:yF base w vc va co al)(G:co.length≤1099511627776)(hm:∀q∈co,yC q.nm)(E:∀b∈L,b<base):Xm L w.heap vc co :=
 ⟨QV h.c G (λb hb H=>by have:=(Qq h.c b hb).1;have:=E b H;omega),λq hq=>⟨h.each q hq (q.p.va,q.p.a.al.length,1,q.p.a.al.map (.int .i64)) (by simp) L (λb hb=>.inl (E b hb)),h.each q hq (q.p.vm,q.p.a.mr.length,1,q.p.a.mr.map (.int .i64)) (by simp) L (λb hb=>.inl (E b hb)),h.each q hq (q.p.ve,q.p.a.ed.length,3,q.p.a.ed.flatMap QB) (by simp) L (λb hb=>.inl (E b hb))⟩,hm⟩
end
abbrev PtV:={r:LN // r.length=28∧∀n∈r,n<256}
abbrev Yy (r:PtV):LV:=bys r.1
theorem Qat (r:PtV):(Yy r).length=28:=by show(bys r.1).length=28;unfold bys;rw[Lh,r.2.1]
structure LnV where
 ns:LN
 ct:Nat
 vr:Value
 rs:List PtV
 x0:Nat
 x1:Nat
 cl:Nat
abbrev Xh (l:LnV):LV:=bys l.ns++[.int .u8 (l.ct:Int),l.vr,.int .u8 (l.x0:Int),.int .u8 (l.x1:Int),.int .u8 (l.cl:Int)]
structure LnA (L:LN)(H:Array Obj)(l:LnV):Prop where
 n:l.ns.length=81
 b:∀n∈l.ns,n<256
 ct:l.ct<256
 x0:l.x0<256
 x1:l.x1<256
 cl:l.cl<256
 r:Zy L H l.vr l.rs.length 28 (l.rs.flatMap Yy)
theorem YJ (ns:LN):(bys ns).length=ns.length:=by rw[bys,Lh]
theorem Qiz {l:LnV}(h:l.ns.length=81):(Xh l).length=86:=by rw[Xh,Lj,YJ,h];rfl
theorem Qb7 {l:LnV}(h:l.ns.length=81)(j:Nat):(Xh l)[81+j]?=([.int .u8 (l.ct:Int),l.vr,.int .u8 (l.x0:Int),.int .u8 (l.x1:Int),.int .u8 (l.cl:Int)]:LV)[j]?:=by
 rw[Xh,Mz (by rw[YJ];omega),YJ,h,Nr]
def grN (ns:LN)(o:Nat):LN:=(ns.drop o).take 27
theorem Qon {ns:LN}{o:Nat}(h:o+27≤ns.length):(grN ns o).length=27:=by unfold grN;simp;omega
theorem QpX {ns:LN}{o:Nat}(h:∀n∈ns,n<256):∀n∈grN ns o,n<256:=QmF h o 27
theorem QpP {l:LnV}{o:Nat}(j:Nat)(u:Value)(h:(bys (grN l.ns o))[j]?=some u):(Xh l)[o+j]?=some u:=by
 have h1:=QmE (ns:=l.ns) (o:=o) (n:=27) j u h;have h2:=(L7.1 h1).1;rw[Xh,L5 h2];exact h1
theorem QcP (ns:LN)(n:Nat):(bys ns).set 0 (.int .u8 (n:Int))=bys (ns.set 0 n):=by
 unfold bys;rw[Nt]
theorem QeD {ns:LN}{n:Nat}(h:∀m∈ns,m<256)(E:n<256):∀m∈ns.set 0 n,m<256:=λm hm=>by
 rcases Nk hm with h1|rfl
 ·exact h m h1
 exact E
theorem QbJ {ns:LN}{n:Nat}(h:0<ns.length):(ns.set 0 n).getD 0 0=n:=by simp[List.getD,h]
structure yW (a:QD):Prop where
 ok:QO a
 p:0<a.st
 s:a.st≤3
 c:∃a0:QD,QO a0∧0<a0.st∧a=YO a0
theorem QcL {a:QD}(E:QO a)(h:0<a.st):0<(YO a).st:=by
 have H:=(Ug E).1;show 0<((found a).length:Int);have G:(0:Int)∈found a:=by
  have key:∀(f i:Nat) (out:LI),(0:Int)∈out→(0:Int)∈jE a f i out:=by
   intro f;induction f with
   | zero=>intro i out h;exact h
   | succ f ih =>
    intro i out h;rw[jE];split
    ·exact ih _ _ (QaV _ _ _ h)
    exact h
  refine key _ _ _ ?_;unfold fd0;rw[if_pos h];simp
 have:=List.length_pos_of_mem G;omega
theorem yW.of {a E:QD}{n:Nat}(G:QO E)(h1:0<E.st)(h2:E.st≤((1+n % 5:Nat):Int))(h3:a=YO E)(H:n<3):yW a:=by
 have h4:=Qa7 G;subst h3;exact⟨h4.1,QcL G h1,by have:=h4.2.2;omega,E,G,h1,O⟩
def Qpc (N:Nat)(al:LI)(w:World)(p:AV):Prop:=(∀L:LN,(∀b∈L,b<N)→Zm L w.heap p.va p.vm p.ve p.a)∧yW p.a∧p.a.al=al
def QjZ (p:AV):Value:=.agg #[p.va,.int .i64 p.a.st,p.vm,p.ve]
def mkP (N:Nat)(c:Nat)(nm:ByteArray)(al:LI)(i:Nat)(v:Value)(w:World):Prop :=
 if i=5 then ∃b,v=.slice (some ⟨b,0,none⟩) 1 1∧QT w.heap b 5 [.int .u8 (c:Int)]
 else if i=6 then v=.string ⟨#[UInt8.ofNat c]⟩
 else if i=7 then v=.string nm
 else ∃p:AV,v=QjZ p∧Qpc N al w p
theorem Qe1 {N c:Nat}{nm:ByteArray}{al:LI}:∀i v w w',mkP N c nm al i v w→Step [] w w'→mkP N c nm al i v w':=by
 intro i v w w' h hs;unfold mkP at h ⊢;by_cases h5:i=5
 ·rw[if_pos h5]at h ⊢;obtain⟨b,e,G⟩:=h;exact⟨b,e,G.ext hs⟩
 rw[if_neg h5]at h ⊢;by_cases h6:i=6
 ·rw[if_pos h6]at h ⊢;exact h
 rw[if_neg h6]at h ⊢;by_cases E:i=7
 ·rw[if_pos E]at h ⊢;exact h
 rw[if_neg E]at h ⊢;obtain⟨p,e,H,I⟩:=h;exact⟨p,e,λL J=>(H L J).ext hs,I⟩
def yn (i:Nat):LI:=([0,1,2,3,4]:LI).take (2*i - 1)
def JL (i:Nat):LI:=match i with|0=>[0]|1=>[1,2]|_=>[3,4]
theorem Qj1:∀{i:Nat},i<3→yn (i+1)=yn i++JL i
 | 0,_=>rfl
 | 1,_=>rfl
 | 2,_=>rfl
 | i+3,h=>by omega
theorem Qa9 (i:Nat):Z2 (yn i):=List.Pairwise.sublist (List.take_sublist _ _) (by decide)
theorem Qo1 (i:Nat):∀e∈yn i,0≤e∧e<32:=λe he=>by
 have h:=L2 he;simp only[List.mem_cons,List.not_mem_nil,or_false]at h;omega
theorem QfT (i:Nat):(yn i).length≤5:=by unfold yn;simp;omega
theorem QhB:∀(i:Nat),Z2 (JL i)
 | 0=>by decide
 | 1=>by decide
 | _+2=>show Z2 [3,4] by decide
theorem QkW:∀(i:Nat),∀e∈JL i,0≤e∧e<32
 | 0=>by decide
 | 1=>by decide
 | _+2=>show ∀e∈([3,4]:LI),0≤e∧e<32 by decide
theorem QhA:∀(i:Nat),0<(JL i).length∧(JL i).length≤2
 | 0=>by decide
 | 1=>by decide
 | _+2=>show 0<([3,4]:LI).length∧([3,4]:LI).length≤2 by decide
def nmI (c k:Nat):ByteArray:=⟨#[UInt8.ofNat c]⟩++⟨#[UInt8.ofNat (48+k)]⟩
theorem jl (c k:Nat):yC (nmI c k):=by
 show(ByteArray.mk _++ByteArray.mk _).size≤_;rw[ByteArray.size_append];show 1+1≤_;omega
def evL (f:Nat→Bool)(k:Nat):Vp:=⟨⟨#[UInt8.ofNat (97+k)]⟩,f k,false,false,0⟩
def LnK (co:List Yk):Prop:=∀k (h:k<co.length),(co[k]'h).nm=nmI 109 k∧yW (co[k]'h).a∧(co[k]'h).a.al=JL k
theorem LnK.snoc {co:List Yk}{x:Yk}(h:LnK co)(h1:x.nm=nmI 109 co.length)(h2:yW x.a)(h3:x.a.al=JL co.length):LnK (co++[x]):=λk hk=>by
 by_cases hl:k<co.length
 ·rw[LZ hl];exact h k hl
 have e:k=co.length:=by rw[Lj,Lz]at hk;omega
 subst e;rw[MM (Lu _)];simp only[Nat.sub_self,List.getElem_cons_zero];exact⟨h1,h2,h3⟩
structure LnQ (n i:Nat)(rq:List Yk):Prop where
 each:∀x∈rq,(∃j,j<i∧x.nm=nmI 114 j)∧yW x.a∧x.a.al≠[]∧∀e∈x.a.al,e∈yn n
 nd:(rq.map (·.nm)).Nodup
theorem LnQ.nil (n:Nat):LnQ n 0 []:=⟨λx hx=>(by cases hx),ME⟩
theorem LnQ.le {n i j:Nat}{rq:List Yk}(h:LnQ n i rq)(E:i≤j):LnQ n j rq:=⟨λx hx=>let⟨⟨k,h1,h2⟩,h3⟩:=h.each x hx;⟨⟨k,Ma h1 E,h2⟩,h3⟩,h.nd⟩
theorem Qlk:∀i j:Nat,i<3→j<3→nmI 114 i=nmI 114 j→i=j:=by
 intro i j hi hj h;have h2:i=0∨i=1∨i=2:=by omega
 have h3:j=0∨j=1∨j=2:=by omega
 rcases h2 with rfl|rfl|rfl <;> rcases h3 with rfl|rfl|rfl <;> first|rfl|exact absurd h (by decide)
theorem LnQ.snoc {n i:Nat}{rq:List Yk}{x:Yk}(h:LnQ n i rq)(hi:i<2)(h1:x.nm=nmI 114 i)(h2:yW x.a)(h3:x.a.al≠[])(h4:∀e∈x.a.al,e∈yn n):LnQ n (i+1) (rq++[x]):=by
 refine⟨λy hy=>?_,?_⟩
 ·rcases Lo.1 hy with hy|hy
  ·exact(h.le (Nat.le_succ i)).each y hy
  rw[Lb.1 hy];exact⟨⟨i,Nat.lt_succ_self i,h1⟩,h2,h3,h4⟩
 rw[Lx,MA,Mx];refine⟨h.nd,by simp,λa ha b hb e=>?_⟩;obtain⟨y,hy,rfl⟩:=Lq.1 ha;obtain⟨⟨j,hj,h5⟩,_⟩:=h.each y hy;rw[Lb.1 hb,h1,h5]at e;have:=Qlk j i (by omega) (by omega) e;omega
structure LnC (k:Q7):Prop where
 ev:∃f,k.ev=(List.range 5).map (evL f)
 n:1≤k.co.length∧k.co.length≤3
 co:LnK k.co
 r:k.rq.length≤2
 rq:LnQ k.co.length 2 k.rq
 x:k.ex.length≤1
 ex:∀x∈k.ex,x.nm=⟨#[120]⟩∧x.ls≠[]∧Yz (szs k.co) none x.ls=0
 cs:k.cs=[]
def LcK (sz:LI)(ls:List (Int×Int)):Prop:=∀k (h:k<ls.length),(ls[k]'h).1=(k:Int)∧0≤(ls[k]'h).2∧(ls[k]'h).2<cget sz k
theorem LcK.snoc {sz:LI}{ls:List (Int×Int)}{a b:Int}(h:LcK sz ls)(h1:a=(ls.length:Int))(h2:0≤b)(h3:b<cget sz ls.length):LcK sz (ls++[(a,b)]):=λk hk=>by
 by_cases hl:k<ls.length
 ·rw[LZ hl];exact h k hl
 have e:k=ls.length:=by rw[Lj,Lz]at hk;omega
 subst e;rw[MM (Lu _)];simp only[Nat.sub_self,List.getElem_cons_zero];exact⟨h1,h2,h3⟩
theorem LcK.ck {sz:LI}{ls:List (Int×Int)}(h:LcK sz ls)(h2:ls.length=2)(hs:2≤sz.length):Yz sz none ls=0∧ls≠[]:=by
 match ls,h2 with
 | [p,q],_ =>
  obtain⟨a1,a2,a3⟩:=h 0 (by simp);obtain⟨E,G,H⟩:=h 1 (by simp);simp only[List.getElem_cons_zero,List.getElem_cons_succ]at a1 a2 a3 E G H;refine⟨?_,by simp⟩;rw[Yz,if_neg (by rw[a1];omega),if_neg (by simp[zy]),if_neg (by rw[a1];simp only[Int.toNat_natCast];omega),Yz,if_neg (by rw[E];omega),if_neg (by rw[a1,E];decide),if_neg (by rw[E];simp only[Int.toNat_natCast];omega),Yz]
end Go.Proofs.YtjcgijbhaemldaaGreatDoor
namespace Go.Lg
open Go.RowKit
def JC (all:Array Oper)(dp:Nat→LN)(opn:LN)(rest:List (Nat×Bool)):Nat→Array Bool→Bool
 | 0,ls=>Y2 all rest ls && opn.all λi=>ls.getD i false
 | k+1,ls=>!(Region.ready .any all ls).isEmpty && (Region.ready .any all ls).all λi=>opn.contains i && (dp i).all (λj=>opn.contains j && ls.getD j false) && JC all dp opn rest k (ls.setIfInBounds i true)
def QfA (all:List Oper)(dp:Nat→LN)(pre:List (Nat×Bool))(opn:LN)(rest:List (Nat×Bool))(D:List (Nat×Nat)):Bool :=
 Region.noSelect all.toArray && (pre.length+(opn.length+rest.length) == all.length) && Xy all.toArray pre (Array.replicate all.length false) && U5 all D opn && JC all.toArray dp opn rest opn.length (Zw pre (Array.replicate all.length false))
  && opn.all λi=>!((Zw pre (Array.replicate all.length false)).getD i false)
section
variable {P:Program}{n:Nat}{f:Fr}{w:World}{all:List Oper}{C:World→Prop}{K:Fr→World→Prop}
theorem QcX {α:Type}{D:List (Nat×Nat)}{dp:Nat→LN}{opn:LN}{rest:List (Nat×Bool)}{Φ:Nat→Value→World→Prop}{S:α→List (Nat×Value)}{I:α→World→Prop}{f1:Fr}(hs:Region.noSelect all.toArray=true)(Y:U5 all D opn=true)
  (hl:∀w w',C w→Step [] w w'→C w') (stab:∀i v w w',Φ i v w→Step [] w w'→Φ i v w')
  (hm:∀(g:Fr) w,Fa (λi=>Φ i (sl (QL all i).dst g) w) opn→(∀i∈opn,∀j∈opn,i≠j→∀b∈ow (sl (QL all i).dst g),b∉ow (sl (QL all j).dst g))→∃z,YV g (S z)∧I z w)
  (spec:Fa (λi=>∀g w,C w→Fa (λj=>Φ j (sl (QL all j).dst (mix D f1 g)) w) (dp i)→XO P (QL all i) (mix D f1 g) w (λf' w'=>Step [] w w'∧Φ i (sl (QL all i).dst f') w'∧∀b∈ow (sl (QL all i).dst f'),w.heap.size≤b∧b<w'.heap.size)) opn)
  (fin:∀z g w,C w→I z w→XP P all C K rest (VA (S z) (mix D f1 g)) w):
  ∀(k:Nat) (ls:Array Bool) (f:Fr) (w:World),ls.size=all.length→C w→JC all.toArray dp opn rest k ls=true→(∀t,Xk D t=false→f t=f1 t)→(∀i∈opn,ls.getD i false=true→Φ i (sl (QL all i).dst f) w) →
   (∀i∈opn,ls.getD i false=true→(∀b∈ow (sl (QL all i).dst f),b<w.heap.size)∧∀j∈opn,ls.getD j false=true→i≠j→∀b∈ow (sl (QL all i).dst f),b∉ow (sl (QL all j).dst f))→XA P all C K (k+rest.length) ls f w
 | 0,ls,f,w,he,hC,hp,hf,ha,G=>by
  simp only[JC,Bool.and_eq_true,List.all_eq_true]at hp;obtain⟨z,h1,h2⟩:=hm f w (Fa.of λi hi=>ha i hi (hp.2 i hi)) (λi hi j hj E=>(G i hi (hp.2 i hi)).2 j hj (hp.2 j hj) E);have h3:=fin z f w hC h2;rw[Xg hf,Yv h1]at h3;rw[LR];exact Zz hs rest ls f w he (.inl hC) hp.1 h3
 | k+1,ls,f,w,he,hC,hp,hf,ha,G=>by
  simp only[JC,Bool.and_eq_true,List.all_eq_true,List.contains_iff_mem]at hp;obtain⟨hc,hp⟩:=hp;rw[Nat.add_right_comm];refine Y0 (λh0=>(by rw[h0]at hc;cases hc)) ?_;intro i hi o ho;obtain⟨⟨hh,hn⟩,hw⟩:=hp i hi;obtain⟨hg,d,hd,hy⟩:=(Yb Y).1 i hh;have h4:=(Yb Y).2;have hsp:=Fa.all spec i hh f w hC;rw[Xg hf]at hsp;have hsp:=hsp (Fa.of λj hj=>ha j (hn j hj).1 (hn j hj).2)
  have H:=Zh ho;rw[H]at hg hd hsp;rw[Ji hg,cond_true];refine hsp.mono λv w' hx=>?_;have hq:=hl w w' hC hx.1;have hz:=hx.1.size;have old:∀j∈opn,j≠i→sl (QL all j).dst (QW f o.dst v)=sl (QL all j).dst f:=λj hj E=>by
   obtain⟨_,dj,hr,_⟩:=(Yb Y).1 j hj;have hc:o.dst≠some dj:=λe=>h4 j hj i hh E (by rw[hr,H];exact e.symm);rw[hr];exact ZX hc v
  have lsj:∀j,j≠i→(ls.setIfInBounds i true).getD j false=true→ls.getD j false=true:=λj E h=>by rw[getD_set_ne false (Ne.symm E)]at h;exact h
  refine⟨.inr (.inr hq),QcX hs Y hl stab hm spec fin k _ _ _ (by simpa using he) hq hw (λt ht=>?_) (λj hj V=>?_) (λj hj V=>⟨λb hb=>?_,λk hk hu hv b hb J=>?_⟩)⟩
  ·rw[ZX (by rw[hd];intro e;cases e;rw[hy]at ht;cases ht)];exact hf t ht
  ·by_cases E:j=i
   ·subst E;have h2:=hx.2.1;rw[H];exact h2
   rw[old j hj E];exact stab _ _ _ _ (ha j hj (lsj j E V)) hx.1
  ·by_cases E:j=i
   ·subst E;rw[H]at hb;exact(hx.2.2 b hb).2
   rw[old j hj E]at hb;have:=(G j hj (lsj j E V)).1 b hb;omega
  by_cases E:j=i
  ·subst E;have U:k≠j:=Ne.symm hv;rw[old k hk U]at J;rw[H]at hb;have h1:=(G k hk (lsj k U hu)).1 b J;have h2:=(hx.2.2 b hb).1;omega
  rw[old j hj E]at hb;have h1:=(G j hj (lsj j E V)).1 b hb;by_cases U:k=i
  ·subst U;rw[H]at J;have h2:=(hx.2.2 b J).1;omega
  rw[old k hk U]at J;exact(G j hj (lsj j E V)).2 k hk (lsj k U hu) hv b hb J
theorem Qj8 {α:Type}{Q:Exit→Fr→World→Prop}{id:Nat}(C:World→Prop)(pre:List (Nat×Bool))(dp:Nat→LN)(opn:LN)(rest:List (Nat×Bool))(D:List (Nat×Nat))(Φ:Nat→Value→World→Prop)(S:α→List (Nat×Value))(I:α→World→Prop)
  (hm:P.follows .mixedOrders=true) (J:Xn n all=true) (hp:QfA all dp pre opn rest D=true) (hC:C { w with drawn:=w.drawn+1 }) (U:∀w w',C w→Step [] w w'→C w') (stab:∀i v w w',Φ i v w→Step [] w w'→Φ i v w')
  (V:∀(g:Fr) w,Fa (λi=>Φ i (sl (QL all i).dst g) w) opn→(∀i∈opn,∀j∈opn,i≠j→∀b∈ow (sl (QL all i).dst g),b∉ow (sl (QL all j).dst g))→∃z,YV g (S z)∧I z w)
  (h:XP P all C (λf1 _=>Fa (λi=>∀g w,C w→Fa (λj=>Φ j (sl (QL all j).dst (mix D f1 g)) w) (dp i)→XO P (QL all i) (mix D f1 g) w (λE w'=>Step [] w w'∧Φ i (sl (QL all i).dst E) w'∧∀b∈ow (sl (QL all i).dst E),w.heap.size≤b∧b<w'.heap.size)) opn ∧
   ∀z g w,C w→I z w→XP P all C (λf w=>Q .normal f w) rest (VA (S z) (mix D f1 g)) w) pre f { w with drawn:=w.drawn+1 }):W P n (.region id all.toArray true) Q f w:=by
 simp only[QfA,Bool.and_eq_true,beq_iff_eq,List.all_eq_true,Bool.not_eq_true']at hp;obtain⟨⟨⟨⟨⟨hs,hl⟩,hq⟩,Y⟩,ha⟩,G⟩:=hp;refine Y7 C hm J ?_;rw[←hl];have hb:(Array.replicate all.length false).size=all.length:=by simp
 have h1:=ZP (K:=λf w=>Q .normal f w) (m:=opn.length+rest.length) hs pre (Array.replicate all.length false) f _ hC hq (λf1 H=>QcX (P:=P) (C:=C) hs Y U stab V H.1 H.2 opn.length (Zw pre (Array.replicate all.length false)) f1 _ (by rw[ZN];exact hb) hC ha (λ_ _=>O) (λi hi ht=>by rw[G i hi]at ht;cases ht) (λi hi ht=>by rw[G i hi]at ht;cases ht)) h;rw[hl]at h1 ⊢;exact h1
end
section
variable {P:Program}{n:Nat}{f:Fr}{w:World}{all:List Oper}{C J:World→Prop}{K:Fr→World→Prop}
theorem QcW {α:Type}{D:List (Nat×Nat)}{dp:Nat→LN}{opn:LN}{rest:List (Nat×Bool)}{Φ:Nat→Value→World→Prop}{S:α→List (Nat×Value)}{I:α→World→Prop}{f1:Fr}(hs:Region.noSelect all.toArray=true)(ha:U5 all D opn=true)
  (hh:∀w,J w→C w) (hn:∀w w',J w→Step [] w w'→J w') (stab:∀i v w w',Φ i v w→Step [] w w'→Φ i v w')
  (hq:∀(g:Fr) w,Fa (λi=>Φ i (sl (QL all i).dst g) w) opn→(∀i∈opn,∀j∈opn,i≠j→∀b∈ow (sl (QL all i).dst g),b∉ow (sl (QL all j).dst g))→∃z,YV g (S z)∧I z w)
  (spec:Fa (λi=>∀g w,J w→Fa (λj=>Φ j (sl (QL all j).dst (mix D f1 g)) w) (dp i)→XO P (QL all i) (mix D f1 g) w (λf' w'=>Step [] w w'∧Φ i (sl (QL all i).dst f') w'∧∀b∈ow (sl (QL all i).dst f'),w.heap.size≤b∧b<w'.heap.size)) opn)
  (fin:∀z g w,J w→I z w→XP P all C K rest (VA (S z) (mix D f1 g)) w):
  ∀(k:Nat) (ls:Array Bool) (f:Fr) (w:World),ls.size=all.length→J w→JC all.toArray dp opn rest k ls=true→(∀t,Xk D t=false→f t=f1 t)→(∀i∈opn,ls.getD i false=true→Φ i (sl (QL all i).dst f) w) →
   (∀i∈opn,ls.getD i false=true→(∀b∈ow (sl (QL all i).dst f),b<w.heap.size)∧∀j∈opn,ls.getD j false=true→i≠j→∀b∈ow (sl (QL all i).dst f),b∉ow (sl (QL all j).dst f))→XA P all C K (k+rest.length) ls f w
 | 0,ls,f,w,hl,hC,hp,hf,hc,G=>by
  simp only[JC,Bool.and_eq_true,List.all_eq_true]at hp;obtain⟨z,h1,h2⟩:=hq f w (Fa.of λi hi=>hc i hi (hp.2 i hi)) (λi hi j hj E=>(G i hi (hp.2 i hi)).2 j hj (hp.2 j hj) E);have h3:=fin z f w hC h2;rw[Xg hf,Yv h1]at h3;rw[LR];exact Zz hs rest ls f w hl (.inl (hh _ hC)) hp.1 h3
 | k+1,ls,f,w,hl,hC,hp,hf,hc,G=>by
  simp only[JC,Bool.and_eq_true,List.all_eq_true,List.contains_iff_mem]at hp;obtain⟨he,hp⟩:=hp;rw[Nat.add_right_comm];refine Y0 (λh0=>(by rw[h0]at he;cases he)) ?_;intro i hi o ho;obtain⟨⟨hm,hr⟩,h4⟩:=hp i hi;obtain⟨hg,d,hd,h5⟩:=(Yb ha).1 i hm;have h6:=(Yb ha).2;have hsp:=Fa.all spec i hm f w hC;rw[Xg hf]at hsp;have hsp:=hsp (Fa.of λj hj=>hc j (hr j hj).1 (hr j hj).2)
  have H:=Zh ho;rw[H]at hg hd hsp;rw[Ji hg,cond_true];refine hsp.mono λv w' hx=>?_;have hu:=hn w w' hC hx.1;have hz:=hx.1.size;have old:∀j∈opn,j≠i→sl (QL all j).dst (QW f o.dst v)=sl (QL all j).dst f:=λj hj E=>by
   obtain⟨_,dj,hv,_⟩:=(Yb ha).1 j hj;have he:o.dst≠some dj:=λe=>h6 j hj i hm E (by rw[hv,H];exact e.symm);rw[hv];exact ZX he v
  have lsj:∀j,j≠i→(ls.setIfInBounds i true).getD j false=true→ls.getD j false=true:=λj E h=>by rw[getD_set_ne false (Ne.symm E)]at h;exact h
  refine⟨.inr (.inr (hh _ hu)),QcW hs ha hh hn stab hq spec fin k _ _ _ (by simpa using hl) hu h4 (λt ht=>?_) (λj hj Y=>?_) (λj hj Y=>⟨λb hb=>?_,λk hk hw hy b hb U=>?_⟩)⟩
  ·rw[ZX (by rw[hd];intro e;cases e;rw[h5]at ht;cases ht)];exact hf t ht
  ·by_cases E:j=i
   ·subst E;have h2:=hx.2.1;rw[H];exact h2
   rw[old j hj E];exact stab _ _ _ _ (hc j hj (lsj j E Y)) hx.1
  ·by_cases E:j=i
   ·subst E;rw[H]at hb;exact(hx.2.2 b hb).2
   rw[old j hj E]at hb;have:=(G j hj (lsj j E Y)).1 b hb;omega
  by_cases E:j=i
  ·subst E;have V:k≠j:=Ne.symm hy;rw[old k hk V]at U;rw[H]at hb;have h1:=(G k hk (lsj k V hw)).1 b U;have h2:=(hx.2.2 b hb).1;omega
  rw[old j hj E]at hb;have h1:=(G j hj (lsj j E Y)).1 b hb;by_cases V:k=i
  ·subst V;rw[H]at U;have h2:=(hx.2.2 b U).1;omega
  rw[old k hk V]at U;exact(G j hj (lsj j E Y)).2 k hk (lsj k V hw) hy b hb U
theorem Qc0 {α:Type}{Q:Exit→Fr→World→Prop}{id:Nat}(C J:World→Prop)(pre:List (Nat×Bool))(dp:Nat→LN)(opn:LN)(rest:List (Nat×Bool))(D:List (Nat×Nat))(Φ:Nat→Value→World→Prop)(S:α→List (Nat×Value))(I:α→World→Prop)
  (hm:P.follows .mixedOrders=true) (V:Xn n all=true) (hp:QfA all dp pre opn rest D=true) (hC:J { w with drawn:=w.drawn+1 }) (E:∀w,J w→C w) (Y:∀w w',J w→Step [] w w'→J w') (stab:∀i v w w',Φ i v w→Step [] w w'→Φ i v w')
  (ha:∀(g:Fr) w,Fa (λi=>Φ i (sl (QL all i).dst g) w) opn→(∀i∈opn,∀j∈opn,i≠j→∀b∈ow (sl (QL all i).dst g),b∉ow (sl (QL all j).dst g))→∃z,YV g (S z)∧I z w)
  (h:XP P all C (λf1 _=>Fa (λi=>∀g w,J w→Fa (λj=>Φ j (sl (QL all j).dst (mix D f1 g)) w) (dp i)→XO P (QL all i) (mix D f1 g) w (λG w'=>Step [] w w'∧Φ i (sl (QL all i).dst G) w'∧∀b∈ow (sl (QL all i).dst G),w.heap.size≤b∧b<w'.heap.size)) opn ∧
   ∀z g w,J w→I z w→XP P all C (λf w=>Q .normal f w) rest (VA (S z) (mix D f1 g)) w) pre f { w with drawn:=w.drawn+1 }):W P n (.region id all.toArray true) Q f w:=by
 simp only[QfA,Bool.and_eq_true,beq_iff_eq,List.all_eq_true,Bool.not_eq_true']at hp;obtain⟨⟨⟨⟨⟨hs,hl⟩,hq⟩,hb⟩,hc⟩,H⟩:=hp;refine Y7 C hm V ?_;rw[←hl];have he:(Array.replicate all.length false).size=all.length:=by simp
 have h1:=ZP (K:=λf w=>Q .normal f w) (m:=opn.length+rest.length) hs pre (Array.replicate all.length false) f _ (E _ hC) hq (λf1 U=>QcW (P:=P) (C:=C) hs hb E Y stab ha U.1 U.2 opn.length (Zw pre (Array.replicate all.length false)) f1 _ (by rw[ZN];exact he) hC hc (λ_ _=>O) (λi hi ht=>by rw[H i hi]at ht;cases ht) (λi hi ht=>by rw[H i hi]at ht;cases ht)) h;rw[hl]at h1 ⊢
 exact h1
end
end Go.Lg
namespace Go.Proofs
open Go.Proofs.Tryz
open Go.Shelf
def Tryz.sortRm_ren:Go.Shelf.Ren:=⟨λ|6=>148|15=>165|14=>192|28=>207|29=>208|20=>220|21=>221|22=>222|23=>223|24=>224|25=>225|26=>226|27=>227|46=>243|47=>231|48=>232|49=>244|50=>245|57=>252|n=>n,λ|22=>116|24=>269|25=>275|3=>3|39=>218|0=>0|53=>332|55=>334|4=>4|46=>326|45=>325|50=>141|5=>5|9=>9|66=>351|70=>355|76=>366|77=>284|n=>n,λ|n=>n⟩
theorem Tryz.sortRm:Go.Proofs.SlLaysF0.n6 prog Tryz.sortRm_ren:={
 mixed:=by kernel_rfl
 f6:=⟨Tryz.f148.name,by decide,func148.trans (congrArg some (by kernel_rfl))⟩
 f14:=⟨Tryz.f192.name,by decide,func192.trans (congrArg some (by kernel_rfl))⟩
 f15:=func165.trans (congrArg some (by kernel_rfl))
 f20:=⟨Tryz.f220.name,by decide,func220.trans (congrArg some (by kernel_rfl))⟩
 f21:=⟨Tryz.f221.name,by decide,func221.trans (congrArg some (by kernel_rfl))⟩
 f22:=⟨Tryz.f222.name,by decide,func222.trans (congrArg some (by kernel_rfl))⟩
 f23:=⟨Tryz.f223.name,by decide,func223.trans (congrArg some (by kernel_rfl))⟩
 f24:=⟨Tryz.f224.name,by decide,func224.trans (congrArg some (by kernel_rfl))⟩
 f25:=⟨Tryz.f225.name,by decide,func225.trans (congrArg some (by kernel_rfl))⟩
 f26:=⟨Tryz.f226.name,by decide,func226.trans (congrArg some (by kernel_rfl))⟩
 f27:=⟨Tryz.f227.name,by decide,func227.trans (congrArg some (by kernel_rfl))⟩
 f28:=func207.trans (congrArg some (by kernel_rfl))
 f29:=func208.trans (congrArg some (by kernel_rfl))
 f46:=⟨Tryz.f243.name,by decide,func243.trans (congrArg some (by kernel_rfl))⟩
 f47:=func231.trans (congrArg some (by kernel_rfl))
 f48:=func232.trans (congrArg some (by kernel_rfl))
 f49:=⟨Tryz.f244.name,by decide,func244.trans (congrArg some (by kernel_rfl))⟩
 f50:=⟨Tryz.f245.name,by decide,func245.trans (congrArg some (by kernel_rfl))⟩
 f57:=⟨Tryz.f252.name,by decide,func252.trans (congrArg some (by kernel_rfl))⟩
 t0:=underlying0
 a0:=Tryz.isAgg0
 z0:=Tryz.sizeOf0
 v0:=Tryz.zeroValue0
 t3:=underlying3
 a3:=Tryz.isAgg3
 z3:=Tryz.sizeOf3
 v3:=Tryz.zeroValue3
 t4:=underlying4
 a4:=Tryz.isAgg4
 z4:=Tryz.sizeOf4
 v4:=Tryz.zeroValue4
 t5:=underlying5
 a5:=Tryz.isAgg5
 z5:=Tryz.sizeOf5
 v5:=Tryz.zeroValue5
 t9:=underlying9
 a9:=Tryz.isAgg9
 z9:=Tryz.sizeOf9
 v9:=Tryz.zeroValue9
 t22:=underlying116
 a22:=Tryz.isAgg116
 z22:=Tryz.sizeOf116
 v22:=Tryz.zeroValue116
 t25:=underlying275
 a25:=Tryz.isAgg275
 z25:=Tryz.sizeOf275
 v25:=Tryz.zeroValue275
 t39:=underlying218
 a39:=Tryz.isAgg218
 z39:=Tryz.sizeOf218
 v39:=Tryz.zeroValue218
 t45:=underlying325
 a45:=Tryz.isAgg325
 z45:=Tryz.sizeOf325
 v45:=Tryz.zeroValue325
 t46:=underlying326
 a46:=Tryz.isAgg326
 z46:=Tryz.sizeOf326
 v46:=Tryz.zeroValue326
 t50:=underlying141
 a50:=Tryz.isAgg141
 z50:=Tryz.sizeOf141
 v50:=Tryz.zeroValue141
 t53:=underlying332
 a53:=Tryz.isAgg332
 z53:=Tryz.sizeOf332
 v53:=Tryz.zeroValue332
 t55:=underlying334
 a55:=Tryz.isAgg334
 z55:=Tryz.sizeOf334
 v55:=Tryz.zeroValue334
 t66:=underlying351
 a66:=Tryz.isAgg351
 z66:=Tryz.sizeOf351
 v66:=Tryz.zeroValue351
 t70:=underlying355
 a70:=Tryz.isAgg355
 z70:=Tryz.sizeOf355
 v70:=Tryz.zeroValue355
 t76:=underlying366
 a76:=Tryz.isAgg366
 z76:=Tryz.sizeOf366
 v76:=Tryz.zeroValue366
 t77:=underlying284
 a77:=Tryz.isAgg284
 z77:=Tryz.sizeOf284
 v77:=Tryz.zeroValue284 }
end Go.Proofs
namespace Go.Proofs.YtjcgijbhaemldaaGreatDoor
open Go.Lg
structure Vs where
 x:Int
 y:Int
 b:Int
 v:Int
def Vs.ky (p:Vs):Int×Int:=(p.x,p.y)
def yE (a b:QD)(i:Nat)(p:Vs)(v:Int):Vs:=⟨nxt a.ed p.x v,nxt b.ed p.y v,(i:Int),v⟩
def UN (a:QD)(kd x:Int):Bool:=decide (0≤x) && (decide (kd=1) || decide (x∈a.mr))
def lgC (a b:QD)(kd:Int)(p:Vs):Bool:=!(UN a kd p.x == UN b kd p.y)
def lgA (a b:QD)(i:Nat)(p:Vs)(V:List Vs)(v:Int):List Vs:=if(yE a b i p v).ky≠(-1,-1)∧(yE a b i p v).ky∉V.map Vs.ky then V++[yE a b i p v]else V
def vs0:Vs:=⟨-1,-1,-1,0⟩
def gV (V:List Vs)(k:Nat):Vs:=V.getD k vs0
def lgW (V:List Vs):Nat→Nat→LI
 | 0,_=>[]
 | f+1,k=>if 0≤(gV V k).b then(gV V k).v::lgW V f (gV V k).b.toNat else[]
def lgL (a b:QD)(kd:Int)(al:LI):Nat→Nat→List Vs→Option (LI)
 | 0,_,_=>none
 | f+1,i,V=>if i<V.length then(if lgC a b kd (gV V i)=true then some (lgW V (i+1) i).reverse else lgL a b kd al f (i+1) (al.foldl (lgA a b i (gV V i)) V))else none
def fst (a:QD):Int:=if a.st=0 then -1 else 0
def lgq (a b:QD)(kd:Int):Option (LI):=lgL a b kd (mrg (· || ·) a.al b.al) ((a.st.toNat+1)*(b.st.toNat+1)+1) 0 [⟨fst a,fst b,-1,0⟩]
def lgE (a b:QD)(kd:Int):Int:=if Xq a≠0 then Xq a else if Xq b≠0 then Xq b else if kd≠1∧kd≠2 then 11 else 0
structure Rpt where
 ps:Bool
 ev:Int
 f1:Int
 f2:Int
 nc:Bool
 wd:LI
 sts:LI
 tg:Int
def qj (s:Option (Int×Int×Int)):Int×Int×Int:=s.getD (0,0,0)
def QhG (A:QD):LI:=if(Jm A).length=0 then[]else(ptR A A.st.toNat 0 (Jm A) (YG A.st.toNat)).1
def VM (c:Q7):Rpt:=⟨(qY c).isNone,(qj (qY c)).1,(qj (qY c)).2.1,(qj (qY c)).2.2,decide ((Jm (Xc c)).length=0),QhG (Xc c),(ZA c).map (·.st),(Xc c).st⟩
def cdA (c:Q7):QD:=Jp (Xc c) [] (unc c.ev)
def cdE (c:Q7):Int:=if JK c≠0 then JK c else VX (Xc c) [] (unc c.ev)
def ccE (c:Q7):Int:=if cdE c≠0 then cdE c else XB [Xc c,cdA c]
def ccA (c:Q7):QD:=yI [Xc c,cdA c]
def Qgp:LI→LI→Bool
 | a::v,b::w=>if a=b then Qgp v w else decide (a<b)
 | _,_=>false
def less (v w:LI):Bool:=if v.length≠w.length then decide (v.length<w.length)else Qgp v w
def own (c:Q7)(k:Bool):QD:=if k=true then ccA c else Xc c
def cmE (c:Q7)(k:Bool):Int:=if JK c≠0 then JK c else if suE c≠0 then suE c else if k=true∧ccE c≠0 then ccE c else lgE (own c k) (J7 c) 1
def cm1 (z:Option (LI))(w:Option (LI)):Option (LI):=match w with
 | none=>z
 | some w=>match z with
  | none=>some w
  | some v=>if less w v=true then some w else some v
def cmW (a b:QD):Option (LI):=cm1 (cm1 none (lgq a b 1)) (lgq a b 2)
end Go.Proofs.YtjcgijbhaemldaaGreatDoor
namespace Go.Lg
section
variable {P:Program}{K:Fr→World→Prop}{f:Fr}{w:World}{d:Option Nat}{ty:Nat}{ps:String}{af:Array Edge}{gd:Option (Nat×Bool)}
theorem zl {t:Nat}[h1:XX P t]{x y:Operand}{b T i:Nat}{l:List Bool}{u:Bool}(E:QT w.heap b T (l.map Value.bool))(hx:ev f x=.pointer (some ⟨b,0+i*1,none⟩))(hy:ev f y=.bool u)(hi:i<l.length)
  (G:∀w',Step [b] w w'→QT w'.heap b T ((l.set i u).map Value.bool)→K (QW f d undef) w'):XO P ⟨d,.store t x y,ty,ps,af,gd⟩ f w K:=by
 refine QF E hx hy (by simpa using hi) rfl λw' hs H=>G w' hs ?_;rw[Nt];simpa using H
theorem JA {t:Nat}[XX P t]{x:Operand}{b T i:Nat}{l:List Bool}(h:QT w.heap b T (l.map Value.bool))(hx:ev f x=.pointer (some ⟨b,0+i*1,none⟩))(hi:i<l.length):
  (execOp (ev f) ⟨d,.load t x,ty,ps,af,gd⟩).run P w=.ok (.value (.bool (l[i]'hi))) w:=Qd h hx (by simp[hi])
variable {ops:List Oper}{C:World→Prop}{pl:List (Nat×Bool)}{i:Nat}
theorem pqB {b:Bool}(E:∀w',C w'→(execOp (ev f) (QL ops i)).run P w'=.ok (.value (.bool b)) w')(ht:b=true→XP P ops C K pl (QW f (QL ops i).dst (.bool true)) w)(H:b=false→XP P ops C K pl (QW f (QL ops i).dst (.bool false)) w)
  (hd:yB (QL ops i)=true:=by rfl) (G:Yd ops f (QL ops i)=true:=by rfl):XP P ops C K ((i,true)::pl) f w:=by
 cases hb:b with
 | true=>rw[hb]at E;exact pq E (ht hb) hd G
 | false=>rw[hb]at E;exact pq E (H hb) hd G
end
end Go.Lg
namespace Go.Proofs.YtjcgijbhaemldaaGreatDoor
open Go.Proofs.Tryz
open Go.Lg
def bA (n:Nat)(g:Nat→Bool):List Bool:=(List.range n).map g
theorem QoX (n:Nat)(g:Nat→Bool):(bA n g).length=n:=by simp[bA]
theorem QoW {n i:Nat}{g E:Nat→Bool}{u:Bool}(hu:u=E i)(h:∀j,j<n→j≠i→E j=g j):(bA n g).set i u=bA n E:=by
 apply LT
 ·simp[bA]
 intro k h1 h2;rw[MY];have hk:k<n:=by simpa[bA]using h2
 by_cases e:i=k
 ·rw[if_pos e,hu,e];simp[bA]
 rw[if_neg e];have:=h k hk (λG=>e G.symm);simp[bA,this]
theorem QfR (n:Nat):(List.replicate n (Value.bool false).cells.toList).flatten=(bA n (λi=>decide (i<0))).map Value.bool:=by
 apply LT
 ·simp[Value.cells,bA]
 intro i h1 h2;simp[Value.cells,bA]
theorem UO {l:Lf}{s:Int}(h:s.toNat<l.length):l[s.toNat]'h=lft l s:=by unfold lft;simp[List.getD,h]
theorem QlG (n:Nat)(fb:LI):(lf0 n fb).length=n:=by unfold lf0;rw[Up];simp
instance:Bw prog 273 [nS,.int .i64 0,nS,nS,nS,.map none,nS] [(0,4),(4,1),(5,1),(6,1)]:=⟨by kernel_rfl,by decide⟩
structure Pz where
 va:Value
 vm:Value
 ve:Value
 a:QD
 vu:Value
 unc:LI
 mb:Nat
 mm:List (Int×Value)
 bl:Nat
 n:Nat
 rv:Nat→Value
abbrev Pz.cells (p:Pz):LV:=[p.va,.int .i64 p.a.st,p.vm,p.ve,p.vu,.map (some p.mb),.slice (some ⟨p.bl,0,none⟩) p.n p.n]
structure PzA (L:LN)(H:Array Obj)(bp:Nat)(p:Pz):Prop where
 B:QT H bp 273 p.cells
 bL:bp∉L
 a:Zm L H p.va p.vm p.ve p.a
 u:QJ L H p.vu p.unc
 M:ZI JO H p.mb p.mm
 mL:p.mb∉L
 g:∀s,s<p.n→(match mget p.mm ((s:Nat):Int)with|some u=>u|none=>nS)=p.rv s
 R:∀s,s<p.n→QJ L H (p.rv s) (ZC p.a.ed s)
theorem PzA.ext {L:LN}{w w':World}{bp:Nat}{p:Pz}(h:PzA L w.heap bp p)(hs:Step [] w w'):PzA L w'.heap bp p:=⟨h.B.ext hs,h.bL,h.a.ext hs,h.u.ext hs,h.M.ext hs,h.mL,h.g,λs E=>(h.R s E).ext hs⟩
theorem PzA.st {L:LN}{w w':World}{bp:Nat}{p:Pz}(h:PzA L w.heap bp p)(hs:Step L w w'):PzA L w'.heap bp p:=⟨h.B.step hs h.bL,h.bL,h.a.st hs,h.u.st hs,h.M.step hs h.mL,h.mL,h.g,λs E=>(h.R s E).st hs⟩
theorem PzA.up {L L':LN}{H:Array Obj}{bp:Nat}{p:Pz}(h:PzA L H bp p)(E:∀b∈L',b∈L∨H.size≤b):PzA L' H bp p :=
 ⟨h.B,λhm=>by rcases E _ hm with h1|h1;exact h.bL h1;have:=h.B.lt;omega,h.a.up E,h.u.up E,h.M,λhm=>by rcases E _ hm with h1|h1;exact h.mL h1;have:=h.M.lt;omega,h.g,λs G=>(h.R s G).up E⟩
structure PzQ (p:Pz):Prop where
 ok:QO p.a
 n:p.a.st=(p.n:Int)
set_option maxHeartbeats 4000000 in
theorem Qhm {w:World}{va vm ve vr vu:Value}{a:QD}{rm unc:LI}{n:Nat}(h:Zm [] w.heap va vm ve a)(h7:QO a)(hn:a.st=(n:Int))(hr:QJ [] w.heap vr rm)(gn:∀x∈rm,0≤x∧x<a.st)(hu:QJ [] w.heap vu unc):
  QH prog 146 [.agg #[va,.int .i64 a.st,vm,ve],vr,vu] w λr w'=>Step [] w w'∧∃bp p,r=.pointer (some ⟨bp,0,none⟩)∧p.a=a∧p.unc=unc∧p.n=n∧w.heap.size≤p.bl∧PzA [p.bl] w'.heap bp p∧QT w'.heap p.bl 4 ((lf0 n rm).map Value.bool):=by
 have ko:=h7.st1;have gq:=h7.ed;have kp:=h7.ed_le;have kq:=hr.le;refine QH.of_W func146 O ntmps146 results146 (by simp) ?_;refine Qc<|xl O<|QR (us:=[va,.int .i64 a.st,vm,ve]) O λb3 G hh kr hz=>Qf ?_;have kt:=hz.lt
 refine QX (α:=Nat×Nat×Nat) [(7,7),(13,20)] (λz=>[(7,.pointer (some ⟨z.1,0,none⟩))]) (λz w'=>Step [] G w'∧QT w'.heap z.1 273 [va,.int .i64 a.st,vm,ve,vu,.map (some z.2.1),.slice (some ⟨z.2.2,0,none⟩) n n] ∧
  ZI JO w'.heap z.2.1 []∧QT w'.heap z.2.2 4 ((bA n (λi=>decide (i<0))).map Value.bool)∧G.heap.size≤z.1∧G.heap.size≤z.2.1∧G.heap.size≤z.2.2∧z.1≠z.2.1∧z.1≠z.2.2∧z.2.1≠z.2.2) (by rfl) ?_ ?_
 ·have ha:Step [] G { G with drawn:=G.drawn+1 }:=Step.drew _ _
  refine QmQ (Step [] G) [(0,true),(1,true),(3,true),(4,true)] 2 5 [(5,false),(6,true),(7,false),(8,true)] [(2,false),(6,true),(7,false),(8,true)] mixed (by rfl) (by kernel_rfl) (Step.drew _ _) ?_;refine pq (λ_ hc=>Qo (hz.ext hc) O O)<|p (λ_=>Qk)<|p (λ_=>Qa O)<|pq (λ_ hc=>Qd (hz.ext hc) O O)<|pe ⟨⟨O,?_⟩,O,?_⟩
  ·refine Z6 JO λbm w2 U h8 hO=>⟨ha.trans U,?_⟩;refine pk<|XM (n:=n) (congrArg (Value.int .i64) hn) (congrArg (Value.int .i64) hn) (by omega) λbl w3 V hA hB=>⟨(ha.trans U).trans V,?_⟩;rw[QfR]at hB;refine p (λ_=>ZD [(0,[va,.int .i64 a.st,vm,ve]),(1,[vu]),(2,[.map (some bm)]),(3,[.slice (some ⟨bl,0,none⟩) n n])] ⟨O,O,hu.cells,O,O,O,O,O,Z⟩)<|pk <|
    QR (us:=[va,.int .i64 a.st,vm,ve,vu,.map (some bm),.slice (some ⟨bl,0,none⟩) n n]) O λbp w4 E hC I=>⟨((ha.trans U).trans V).trans E,?_⟩
   refine p (λ_=>Qe)<|pe ?_;have gr:=hO.lt;have gs:=hB.lt;have gt:({ G with drawn:=G.drawn+1 }:World).heap.size=G.heap.size:=rfl
   exact⟨(bp,bm,bl),La,((ha.trans U).trans V).trans E,I,(hO.ext V).ext E,hB.ext E,by simp only[];omega,by simp only[];omega,by simp only[];omega,by simp only[];omega,by simp only[];omega,by simp only[];omega⟩
  refine XM (n:=n) (congrArg (Value.int .i64) hn) (congrArg (Value.int .i64) hn) (by omega) λbl w2 U hA hB=>⟨ha.trans U,?_⟩;rw[QfR]at hB;refine pk<|Z6 JO λbm w3 V h8 hP=>⟨(ha.trans U).trans V,?_⟩;refine p (λ_=>ZD [(0,[va,.int .i64 a.st,vm,ve]),(1,[vu]),(2,[.map (some bm)]),(3,[.slice (some ⟨bl,0,none⟩) n n])] ⟨O,O,hu.cells,O,O,O,O,O,Z⟩)<|pk <|
   QR (us:=[va,.int .i64 a.st,vm,ve,vu,.map (some bm),.slice (some ⟨bl,0,none⟩) n n]) O λbp w4 E hC I=>⟨((ha.trans U).trans V).trans E,?_⟩
  refine p (λ_=>Qe)<|pe ?_;have gr:=hP.lt;have gs:=hB.lt;have gt:({ G with drawn:=G.drawn+1 }:World).heap.size=G.heap.size:=rfl
  exact⟨(bp,bm,bl),La,((ha.trans U).trans V).trans E,I,hP.ext E,(hB.ext V).ext E,by simp only[];omega,by simp only[];omega,by simp only[];omega,by simp only[];omega,by simp only[];omega,by simp only[];omega⟩
 rintro⟨bp,bm,bl⟩ g w4 ⟨E,I,hD,hE,hC,h8,hA,hQ,hR,hF⟩;simp only[]at I hD hE hC h8 hA hQ hR hF;have ku:=I.lt;have kv:=hD.lt;have gu:=hh.trans E;have hq:bp∉[bl]:=by simpa using hR
 have hS:bm∉[bl]:=by simpa using hF
 refine Qg<|Qc<|Qb<|x (QE O)<|x (Qa O)<|x (Qd I O O)<|x (Qr (L:=[]) (hE.arr (by simp) (n:=n) (cap:=n) (sz:=1) (by simp[bA]) (by omega) (Lu _)) rfl)<|Qb<|xe<|Qh<|Qz (α:=Nat) [(8,8),(26,35)] (λz=>[(26,.int .i64 z)]) (λz w'=>z≤n∧Step [bl] w4 w'∧QT w'.heap bl 4 ((bA n (λi=>decide (i<z))).map Value.bool)) (λz=>n - z) (by rfl) 0 La ⟨Ll _,Step.refl _ _,hE⟩ ?_
 rintro k g w5 ⟨hk,ht,hG⟩;refine Qc<|x (QA O O)<|xe<|Qg<|QC O (λhT=>?_) (λhT=>?_)
 ·refine Qy ?_;have gv:bA n (λi=>decide (i<k))=(rm.take 0).foldl cut (List.replicate n true):=by
   apply LT
   ·simp[bA]
   intro i h1 h2;have:i<n:=by simpa[bA]using h1
   simp[bA];omega
  rw[gv]at hG;have hU:QJ [bl] G.heap vr rm:=(hr.ext hh).up (λb hb=>.inr (by simp only[List.mem_singleton]at hb;omega));have gx:Zm [bl] G.heap va vm ve a:=(h.ext hh).up (λb hb=>.inr (by simp only[List.mem_singleton]at hb;omega));have hV:=I.step ht hq;refine Qg<|Qc<|Qb<|x (Qr ((hU.ext E).st ht) O)<|Qb<|xe ?_
  refine Qh<|Qz (α:=Nat) [(10,10),(38,48)] (λz=>[(38,.int .i64 z)]) (λz w'=>z≤rm.length∧Step [bl] w4 w'∧QT w'.heap bl 4 (((rm.take z).foldl cut (List.replicate n true)).map Value.bool)) (λz=>rm.length - z) (by rfl) 0 La ⟨Ll _,ht,hG⟩ ?_;rintro j g w6 ⟨hj,H,hf⟩;refine Qc<|x (QA O O)<|xe<|Qg<|QC O (λhH=>?_) (λhH=>?_)
  ·refine Qy ?_;have gy:rm.length≤j:=by have h0:¬(j:Int)<(rm.length:Int):=hH;omega
   rw[Lp gy]at hf;have hW:=I.step H hq;have gz:=hD.step H hS;have kw:=hf.lt;refine Qg<|Qc<|x (Qa O)<|x (Qd ((hz.ext E).step H (by simp only[List.mem_singleton];omega)) O O)<|x (Qr ((gx.ext E).st H).ed O)<|Qb<|xe ?_;have kx:=H.size
   refine Qh<|Qz (α:=Nat×(Nat→Value)×List (Int×Value)) [(12,12),(52,73)] (λz=>[(52,.int .i64 z.1)]) (λz w'=>z.1≤a.ed.length∧Step [bm] w6 w'∧ZI JO w'.heap bm z.2.2∧K4 w6.heap.size w' n z.2.1 (ZC (a.ed.take z.1))∧∀s,s<n→(match mget z.2.2 ((s:Nat):Int)with|some u=>u|none=>nS)=z.2.1 s) (λz=>a.ed.length - z.1) (by rfl) (0,λ_=>nS,[]) ⟨rfl,Z⟩
    ⟨Ll _,Step.refl _ _,gz,⟨λi _=>QN _ _ _ _,λi j _ _ _=>Dj.nil _⟩,λs _=>O⟩ ?_
   rintro⟨i,rv,m⟩ g w7 ⟨hi,J,hI,hg,h3⟩;simp only[]at hi hI hg h3;have kz:=J.size;have hX:bp∉[bm]:=by simpa using hQ
   have g0:bl∉[bm]:=by simpa using Ne.symm hF
   refine Qc<|x (QA O O)<|xe<|Qg<|QC O (λhJ=>?_) (λhJ=>?_)
   ·refine Qy ?_;have g1:a.ed.length≤i:=by have h4:¬(i:Int)<(a.ed.length:Int):=hJ;omega
    rw[Lp g1]at hg;refine Qc<|Qb<|Qf<|Ql ⟨[_],La,(gu.then1 H (by omega)).then1 J (by omega),bp,⟨va,vm,ve,a,vu,unc,bm,m,bl,n,rv⟩,O,O,O,O,by simp only[];omega,⟨hW.step J hX,hq,?_,?_,hI,hS,h3,λs hs=>QV (hg.own s hs) (LL (X8 a.ed s) (by omega)) (λb hb hm=>?_)⟩,hf.step J g0⟩
    ·have h9:Zm [bl,bm] w7.heap va vm ve a:=((((h.ext hh).up (L':=[bl,bm]) (λb hb=>.inr (by simp only[List.mem_cons,List.not_mem_nil,or_false]at hb;omega))).ext E).st (H.mono (by simp))).st (J.mono (by simp));exact h9.up (by simp)
    ·have h9:QJ [bl,bm] w7.heap vu unc:=((((hu.ext hh).up (L':=[bl,bm]) (λb hb=>.inr (by simp only[List.mem_cons,List.not_mem_nil,or_false]at hb;omega))).ext E).st (H.mono (by simp))).st (J.mono (by simp));exact h9.up (by simp)
    have:=(Qq (hg.own s hs) b hb).1;simp only[List.mem_singleton]at hm;omega
   refine Qi ?_;have Y:i<a.ed.length:=by have h4:(i:Int)<(a.ed.length:Int):=hJ;omega
   have hv:a.ed.take (i+1)=a.ed.take i++[a.ed[i]'Y]:=Li Y;have hY:=gq _ (Lc Y);refine Zj (a.ed[i]'Y) λe he=>?_;rw[he]at hv hY;have hZ:e.2.2=(e.2.2.toNat:Int):=by omega
   have hw:e.2.2.toNat<n:=by omega
   have g2:=X8 (a.ed.take i) e.2.2.toNat;rw[LC]at g2;have hK:=zD (a.ed.take i) e hY.2.2.2.1;have g3:qe [bl,bm] w7.heap ve a.ed:=((((h.ed.ext hh).up (L':=[bl,bm]) (λb hb=>.inr (by simp only[List.mem_cons,List.not_mem_nil,or_false]at hb;omega))).ext E).st (H.mono (by simp))).st (J.mono (by simp));refine Qg<|Qh<|Qc<|xie g3 O O Y λk0 h4=>?_;rw[he]at h4
   refine x (QI h4 O O)<|xl O<|Qu (us:=[.int .i64 0,.int .i64 0,.int .i64 0]) O λg4 w8 g5 g6 g7=>xl O<|Qn (us:=QB e) g7 O O O O ⟨O,O,O,Z⟩ λw9 g8 hL=>xe ?_;have hy:Step [] w7 w9:=g5.then1 g8 g6;have k4:=hy.size;have ga:=hg.ext hy;have g9:=ga.own _ hw
   have h5:∀b∈ob (rv e.2.2.toNat),w6.heap.size≤b∧b<w7.heap.size:=λb hb=>⟨(Qq (hg.own _ hw) b hb).1,QY (hg.own _ hw) b hb⟩;have gb:bp∉ob (rv e.2.2.toNat):=λhb=>by have:=h5 _ hb;omega
   have gc:bm∉ob (rv e.2.2.toNat):=λhb=>by have:=h5 _ hb;omega
   have hM:g4∉ob (rv e.2.2.toNat):=λhb=>by have:=h5 _ hb;omega
   have ge:=((hW.step J hX).ext hy);have gg:=hI.ext hy;have gh:=h3 e.2.2.toNat hw;rw[←hZ]at gh;refine QU (Step (ob (rv e.2.2.toNat)) w9) [(0,true),(1,true),(2,true),(3,true),(4,true),(5,true),(6,true),(7,true),(8,true),(9,true),(10,true),(11,true),(12,true),(13,true),(14,true),(15,false),(16,false),(17,false)] mixed (by rfl) (by kernel_rfl) (Step.drew _ _) ?_
   refine p (λ_=>Qk)<|p (λ_=>QE O)<|p (λ_=>Qa O)<|pq (λ_ hc=>Qd (ge.step hc gb) O O) <|
    p (λ_=>Qa O)<|pq (λ_ hc=>Qd (hL.step hc hM) O O)<|p (λ_=>Qk)<|p (λ_=>QE O)<|p (λ_=>Qa O) <|
    pq (λ_ hc=>Qd (ge.step hc gb) O O)<|p (λ_=>Qa O)<|pq (λ_ hc=>Qd (hL.step hc hM) O O) <|
    pq (λ_ hc=>(JX (k:=e.2.2) (gg.step hc gc) O O).trans (congrArg (λv=>Result.ok (Next.value v) _) gh))<|p (λ_=>Qa O)<|pq (λ_ hc=>Qd (hL.step hc hM) O O) <|
    pk<|QG (us:=[[.int .i64 e.1]]) O O (by decide) (by simp) ⟨rfl,rfl,Z⟩ λk5 ka gi k6 kb=>⟨(Step.drew _ _).trans gi,?_⟩
   have ho:Step [] w9 ka:=(Step.drew _ _).trans gi;have k7:=ho.size;refine pk<|Q4 (m:=1) (news:=[.int .i64 e.1]) (Qs g9 ho) O O O (kb.at (L:=[]) (by simp)) (by simp[Value.oneCell']) (by omega) (by omega) λhN k8 kc h6 ke=>⟨ho.any.trans' h6,?_⟩;have kf:=(gg.ext ho).step h6 gc;refine pkl (hl:=by kernel_rfl)<|YR (k:=e.2.2) kf O O λk9 gj kg=>pe ?_
   have kh:∀b∈ob hN,b∈ob (rv e.2.2.toNat)∨w9.heap.size≤b:=λb hb=>(ke b hb).imp id (λh=>by omega);have gk:=ga.app hw (Qt.snoc kc) (ho.any.trans' h6) kh;have gl:=gk.step gj (λi hi b hb=>by have:=(Qq (gk.own i hi) b hb).1;simp only[List.mem_singleton];omega)
   have ki:Kw (ZC (a.ed.take i)) e.2.2.toNat (ZC (a.ed.take i) e.2.2.toNat++[e.1])=ZC (a.ed.take (i+1)):=by rw[hv];exact funext hK
   rw[ki]at gl;refine Qw<|QP O O<|Qb<|xe<|⟨(i+1,Kw rv e.2.2.toNat hN,mput m e.2.2 hN),by simp only[];omega,La,Y,?_,kg,gl,λs hs=>?_⟩
   ·exact(((J.trans hy).trans ho).then h6 (λb hb=>.inr (h5 b hb).1)).trans' gj
   simp only[];rw[J0];by_cases gm:s=e.2.2.toNat
   ·subst gm;rw[if_pos hZ,Z5]
   rw[if_neg (by omega),Yx _ _ gm];exact h3 s hs
  refine Qi ?_;have hp:j<rm.length:=by have h0:(j:Int)<(rm.length:Int):=hH;omega
  have kj:=gn _ (Lc hp);have hv:rm.take (j+1)=rm.take j++[rm[j]'hp]:=Li hp;refine Zj (rm[j]'hp) λs hs=>?_;rw[hs]at kj hv;have hK:s=(s.toNat:Int):=by omega
  have ma:((rm.take j).foldl cut (List.replicate n true)).length=n:=by rw[Up];simp
  refine Qg<|Qh<|Qc<|xii (i:=j) ((hU.ext E).st H) O O hp λmc h0=>?_;rw[hs]at h0;refine x (Qv h0 O)<|Qf<|Qw<|Qb<|x (QE O)<|x (Qa O)<|x (Qd (I.step H hq) O O)<|Qb<|x (QS (i:=s.toNat) O (congrArg (Value.int .i64) hK) (by omega)) <|
   xl rfl<|zl (i:=s.toNat) hf O O (by omega) λw7 J kk=>xe ?_
  refine Qw<|QP O O<|Qb<|xe<|⟨j+1,by omega,La,hp,H.trans' J,?_⟩;rw[hv,Mh];exact kk
 refine Qi ?_;have Y:k<n:=by have mf:(k:Int)<(n:Int):=hT;omega
 have hV:=I.step ht hq;refine Qg<|Qh<|Qc<|Qb<|Qf<|Qw<|Qb<|x (QE O)<|x (Qa O)<|x (Qd hV O O)<|Qb<|x (QS (i:=k) O O (by omega)) <|
  xl rfl<|zl (i:=k) hG O O (by rw[QoX];exact Y) λw6 H hf=>xe ?_
 have kn:(bA n (λi=>decide (i<k))).set k true=bA n (λi=>decide (i<k+1)):=QoW (by simp) (λi _ hi=>by
  by_cases e:i<k
  ·simp[e];omega
  simp[e];omega)
 rw[kn]at hf;refine Qw<|QP O O<|Qb<|xe ?_;exact⟨k+1,by omega,La,Y,ht.trans' H,hf⟩
theorem yd {l r:LI}{i:Nat}(h:i<l.length):cget (l++r) i=cget l i:=by
 unfold cget;simp[List.getD,List.getElem?_append_left h]
set_option maxHeartbeats 4000000 in
theorem Uo {w:World}{bp:Nat}{q:Pz}{lf:Lf}(hA:PzA [] w.heap bp q)(hq:PzQ q)(hB:QT w.heap q.bl 4 (lf.map Value.bool))(hl:lf.length=q.n):
  QH prog 150 [.pointer (some ⟨bp,0,none⟩)] w λr w'=>Step [] w w'∧∃b,r=.slice (some ⟨b,0,none⟩) q.n q.n∧w.heap.size≤b∧QT w'.heap b 3 ((dsts q.a lf).map (Value.int .i64))∧(dsts q.a lf).length=q.n:=by
 have hn:=hq.n;have kt:=hq.ok.st1;have gc:=hq.ok.mr;have ku:=hq.ok.mr_le;have kv:=hq.ok.ed_le;have hM:q.a.st.toNat=q.n:=by omega
 have gv:=QjA (lf:=lf) hq.ok hn;have ge:(qJ q.a.ed lf q.n 0 (jG q.a lf)).1=dsts q.a lf:=by unfold dsts;rw[hM]
 refine Zj (dsts q.a lf) λDD gx=>?_;rw[gx]at ge ⊢;refine QH.of_W func150 O ntmps150 results150 (by simp) ?_;refine Qc<|Qf<|Qc<|Qb<|x (QE O)<|x (Qa O)<|x (Qa O)<|x (Qd hA.B O O)<|xl O<|XM (n:=q.n) (congrArg (Value.int .i64) hn) (congrArg (Value.int .i64) hn) (by omega) λbO w1 gg hC hN=>Qf ?_;rw[jx]at hN
 refine Qg<|Qc<|Qb<|x (Qr (L:=[]) (hN.arr (by simp) (n:=q.n) (cap:=q.n) (sz:=1) (by simp[gA]) (by omega) (Lu _)) rfl)<|Qb<|xe<|Qh<|Qz (α:=Nat) [(4,4),(19,25)] (λz=>[(19,.int .i64 z)]) (λz w'=>z≤q.n∧Step [] w w'∧QT w'.heap bO 3 ((gA q.n (λj=>if j<z then -1 else 0)).map (Value.int .i64))) (λz=>q.n - z) (by rfl) 0 La ⟨Ll _,gg,hN⟩ ?_
 rintro j g G ⟨hj,hh,h0⟩;refine Qc<|x (QA O O)<|xe<|Qg<|QC O (λhO=>?_) (λhO=>?_)
 ·refine Qy ?_;have hP:j=q.n:=by have gy:¬(j:Int)<(q.n:Int):=hO;omega
  have gz:gA q.n (λi=>if i<j then -1 else 0)=((q.a.mr.take 0).foldl (ds1 lf) (List.replicate q.n (-1),[])).1:=by
   apply LT
   ·simp[gA]
   intro i h1 h2;have:i<q.n:=by simpa[gA]using h1
   simp[gA];omega
  rw[gz]at h0;refine Qc<|Qf<|Qg<|Qc<|Qb<|x (QE O)<|x (Qa O)<|x (Qa O)<|x (Qd (hA.ext hh).B O O)<|x (Qr (hA.ext hh).a.mr O)<|Qb<|xe<|Qh<|Qz (α:=Nat×Value) [(5,5),(7,7),(32,50)] (λz=>[(5,z.2),(32,.int .i64 z.1)]) (λz w'=>z.1≤q.a.mr.length∧Step [] w w'∧G.heap.size≤w'.heap.size∧QT w'.heap bO 3 (((q.a.mr.take z.1).foldl (ds1 lf) (List.replicate q.n (-1),[])).1.map (Value.int .i64)) ∧
   Qt 3 G.heap.size w' z.2 ((q.a.mr.take z.1).foldl (ds1 lf) (List.replicate q.n (-1),[])).2) (λz=>q.a.mr.length - z.1) (by rfl) (0,nS) ⟨O,O,Z⟩ ⟨Ll _,hh,Lu _,h0,QN _ _ _ _⟩ ?_
  rintro⟨k,vl⟩ g w3 ⟨hk,h3,gh,ho,ha⟩;simp only[]at hk ho ha;have gi:=Qcw (lf:=lf) (λx hx=>(gc x hx).1) k;rw[hM]at gi;refine Qc<|x (QA O O)<|xe<|Qg<|QC O (λhQ=>?_) (λhQ=>?_)
  ·refine Qy ?_;have g0:q.a.mr.length≤k:=by have hD:¬(k:Int)<(q.a.mr.length:Int):=hQ;omega
   have e0:(q.a.mr.take k).foldl (ds1 lf) (List.replicate q.n (-1),[])=jG q.a lf:=by rw[Lp g0];unfold jG;rw[hM]
   rw[e0]at ho ha;have g1:bO<G.heap.size:=h0.lt;refine Qg<|Qc<|Qf<|Qh<|Qz (α:=Nat×Nat×Value×LI×LI) [(5,5),(8,8),(10,10),(51,100)] (λz=>[(5,z.2.2.1),(8,.int .i64 z.2.1)])
    (λz w'=>Step [] w w'∧G.heap.size≤w'.heap.size∧QT w'.heap bO 3 (z.2.2.2.1.map (Value.int .i64))∧Qt 3 G.heap.size w' z.2.2.1 z.2.2.2.2∧DsI q.n z.2.2.2∧z.1+z.2.1=q.n∧(qJ q.a.ed lf z.1 z.2.1 z.2.2.2).1=DD) (λz=>q.n - z.2.1) (by rfl) (q.n,0,vl,(jG q.a lf).1,(jG q.a lf).2) ⟨O,O,Z⟩
    ⟨h3,gh,ho,ha,gv,O,ge⟩ ?_
   rintro⟨f,i,vl,o,l⟩ g w4 ⟨hf,hR,h4,J,hp,g2,U⟩;simp only[]at hR h4 J hp g2 U;have g3:=hp.le;have gj:=hp.ok.len;simp only[]at g3 gj;have hF:=hA.ext hf;refine Qg<|Qc<|Qb<|Qb<|x (Qr (L:=[]) (QV J (by omega) (by simp)) rfl)<|x (QA rfl rfl)<|xe<|QC O (λhS=>?_) (λhS=>?_)
   ·refine Qy ?_;have g4:¬i<l.length:=by have g5:¬(i:Int)<(l.length:Int):=hS;omega
    rw[Qjw g4]at U;simp only[]at U;subst U;refine Qc<|Qb<|Qf ?_;exact Ql ⟨[.slice (some ⟨bO,0,none⟩) q.n q.n],La,hf,bO,O,hC,h4,gj⟩
   refine Qi ?_;have hr:i<l.length:=by have g5:(i:Int)<(l.length:Int):=hS;omega
   refine Exists.elim (MU (show f≠0 by omega)) λf' g6=>?_;subst g6;rw[qJ,if_pos hr]at U;have gk:=Q8 hr;have hsr:=hp.ok.q _ (Jl hr);have hT:=hp.s0 _ (Jl hr);refine Zj (cget l i) λs hs=>?_;rw[hs]at U hsr gk;simp only[]at hsr hT;rw[hs]at hT;have gl:s=(s.toNat:Int):=by omega
   have gm:=hF.g s.toNat (by omega);rw[←gl]at gm;have g7:=hF.R s.toNat (by omega);have kw:=X8 q.a.ed s.toNat;refine Qg<|Qh<|Qg<|QU (Step [] w4) [(0,true),(1,true),(2,true),(3,true),(4,true),(5,true),(6,true),(7,true),(8,true),(9,true),(10,true)] mixed (by rfl) (by kernel_rfl) (Step.drew _ _) ?_
   refine p (λ_=>Qk)<|p (λ_=>QE O)<|p (λ_=>Qa O)<|pq (λ_ hc=>Qd (hF.B.ext hc) O O)<|p (λ_=>Qk)<|p (λ_=>Qk) <|
    pii (i:=i) O (QV (L:=[]) J (by omega) (by simp)) rfl rfl hr λkx gn=>?_
   rw[gk]at gn;refine pq (λ_ hc=>Qv (gn.ext hc) O)<|pq (λ_ hc=>(JX (k:=s) (hF.M.ext hc) O O).trans (congrArg (λv=>Result.ok (Next.value v) _) gm))<|p (λ_=>Qr g7 O)<|p (λ_=>Qk)<|pe ?_;have hG:Step [] w4 { w4 with drawn:=w4.drawn+1 }:=Step.drew _ _
   refine Qh<|Qz (α:=Nat×Value×LI×LI) [(5,5),(10,10),(67,100)] (λz=>[(5,z.2.1),(67,.int .i64 z.1)])
    (λz w'=>z.1≤(ZC q.a.ed s.toNat).length∧Step [] w w'∧G.heap.size≤w'.heap.size∧QT w'.heap bO 3 (z.2.2.1.map (Value.int .i64))∧Qt 3 G.heap.size w' z.2.1 z.2.2.2∧DsI q.n z.2.2∧0≤cget z.2.2.1 s.toNat∧i<z.2.2.2.length∧cget z.2.2.2 i=s ∧
     ((ZC q.a.ed s.toNat).drop z.1).foldl (KW lf s) z.2.2=(ZC q.a.ed s.toNat).foldl (KW lf s) (o,l)) (λz=>(ZC q.a.ed s.toNat).length - z.1) (by rfl) (0,vl,o,l) ⟨O,O,Z⟩
    ⟨Ll _,hf.trans hG,LL hR hG.size,h4.ext hG,Qs J hG,hp,hT,hr,hs,O⟩ ?_
   rintro⟨m,hH,o2,l2⟩ g w5 ⟨hm,E,hI,ht,hu,hg,hU,h5,hJ,H⟩;simp only[]at hm hI ht hu hg hU h5 hJ H;have gq:=hA.ext E;have g8:=hg.le;have g9:=hg.ok.len;simp only[]at g8 g9;refine Qc<|x (QA O O)<|xe<|Qg<|QC O (λhV=>?_) (λhV=>?_)
   ·refine Qy ?_;have ka:(ZC q.a.ed s.toNat).length≤m:=by have hK:¬(m:Int)<((ZC q.a.ed s.toNat).length:Int):=hV;omega
    rw[Lv ka]at H;simp only[List.foldl_nil]at H;rw[←H]at U;refine Qw<|Qb<|QP O O<|Qf ?_;exact⟨(f',i+1,hH,o2,l2),by simp only[];omega,⟨O,O,Z⟩,E,hI,ht,hu,hg,by simp only[];omega,U⟩
   refine Qi ?_;have hv:m<(ZC q.a.ed s.toNat).length:=by have hK:(m:Int)<((ZC q.a.ed s.toNat).length:Int):=hV;omega
   have gr:=X7 (Lc hv);have kb:=Q5 hv;rw[kb,LM]at H;refine Zj ((ZC q.a.ed s.toNat)[m]'hv) λy hy=>?_;rw[hy]at gr H;have kc:0≤y∧y<(q.n:Int):=by
    obtain⟨e,he,h1,_⟩:=gr;have:=hq.ok.ed e he;omega
   have hw:y=(y.toNat:Int):=by omega
   have h6:y.toNat<o2.length:=by omega
   have hW:s.toNat<o2.length:=by omega
   have ke:=hg.ok.le _ (Jl hW);simp only[]at ke;have hE:=Qjy (lf:=lf) hg hsr hU kc;have hX:=UO (l:=lf) (s:=y) (by omega);refine Qg<|Qh<|Qc<|xii (i:=m) ((gq.R s.toNat (by omega))) O O hv λkz hK=>?_;rw[hy]at hK;refine x (Qv hK O)<|Qf<|QX (α:=Bool) [(71,84)] (λz=>[(84,.bool z)]) (λz w'=>w'=w5∧z=(lft lf y && decide (cget o2 y.toNat<0))) (by rfl) ?_ ?_
   ·refine Qw<|Qb<|x (QE O)<|x (Qa O)<|x (Qd gq.B O O)<|Qb<|x (QS (i:=y.toNat) O (congrArg (Value.int .i64) hw) (by omega))<|x (JA (i:=y.toNat) (hB.ext E) O (by omega))<|?_;rw[hX];cases lft lf y with
    | true =>
     refine Qb<|Qb<|Qb<|x (QS (i:=y.toNat) O (congrArg (Value.int .i64) hw) (by omega))<|x (Vc (i:=y.toNat) ht O h6)<|x (QA O O)<|x (Qp O)<|xe ?_;exact⟨_,La,O,by rw[Q8 h6];rfl⟩
    | false =>
     refine Qb<|xs O<|xs O<|xs O<|xs O<|xs O<|x (Qp O)<|xe ?_;exact⟨_,La,O,O⟩
   rintro z g k0 ⟨rfl,rfl⟩;refine QZ O (λh7=>?_) (λh7=>?_)
   ·rw[Lt,decide_eq_true_eq]at h7;have hY:KW lf s (o2,l2) y=(o2.set y.toNat (cget o2 s.toNat+1),l2++[y]):=by unfold KW;rw[if_pos h7]
    rw[hY]at H hE;have kf:=Q8 hW;have gs:=Q8 h5;rw[hJ]at gs;refine Qc<|Qb<|Qb<|Qb<|Qb<|Qb<|xii (i:=i) (QV (L:=[]) hu (by omega) (by simp)) rfl rfl h5 λk4 gt=>?_;rw[gs]at gt;refine x (Qv gt O)<|x (QS (i:=s.toNat) O (congrArg (Value.int .i64) gl) (by omega))<|x (Vc (i:=s.toNat) ht O hW)<|x (JB O O ⟨by omega,by omega⟩) <|
     x (QS (i:=y.toNat) O (congrArg (Value.int .i64) hw) (by omega))<|xl O<|Jg (i:=y.toNat) ht O O h6 λw6 I hL=>xe ?_
    rw[kf]at hL;have kg:=I.size;have kh:∀b∈ob hH,b∉[bO]:=λb hb=>by have:=Qq hu b hb;simp only[List.mem_singleton];omega
    have h8:Qt 3 G.heap.size w6 hH l2:=Qm hu I kh;have ki:Step [] w w6:=E.then1 I hC;refine Qw<|Qb<|Qb<|xl O<|QG (us:=[[.int .i64 y]]) O O (by decide) (by simp) ⟨rfl,rfl,Z⟩ λk5 w7 h9 k6 kj=>xl rfl<|Q4 (m:=1) (news:=[.int .i64 y]) (Qs h8 h9) rfl rfl rfl (kj.at (L:=[]) (by simp)) (by simp[Value.oneCell']) (by omega) (by have:=h9.size;omega) λhZ w8 kk ga k7 =>
     Qf ?_
    have k8:=h9.size;have k9:=ga.size;refine Qw<|QP O O<|Qb<|xe<|⟨(m+1,hZ,_,l2++[y]),by simp only[];omega,⟨O,O,Z⟩,hv,(ki.trans h9).then ga (λb hb=>.inr (by have:=Qq h8 b hb;have:=gg.size;have:=hh.size;omega)),by omega,(hL.ext h9).step ga (λhb=>by have:=Qq h8 _ hb;omega),Qt.snoc kk,hE.1,hE.2,by simp only[List.length_append];omega,by rw[yd h5];exact hJ,H⟩
   have hY:KW lf s (o2,l2) y=(o2,l2):=by
    unfold KW;rw[if_neg];intro hc;rw[hc.1,decide_eq_true hc.2]at h7;cases h7
   rw[hY]at H;refine Qi<|Qw<|QP O O<|Qb<|xe ?_;exact⟨(m+1,hH,o2,l2),by simp only[];omega,⟨O,O,Z⟩,hv,E,hI,ht,hu,hg,hU,h5,hJ,H⟩
  refine Qi ?_;have V:k<q.a.mr.length:=by have hD:(k:Int)<(q.a.mr.length:Int):=hQ;omega
  have kn:=gc _ (Lc V);have ko:q.a.mr.take (k+1)=q.a.mr.take k++[q.a.mr[k]'V]:=Li V;have Y:(q.a.mr.take (k+1)).foldl (ds1 lf) (List.replicate q.n (-1),[])=ds1 lf ((q.a.mr.take k).foldl (ds1 lf) (List.replicate q.n (-1),[])) (q.a.mr[k]'V):=by rw[ko,Mh];rfl
  have kp:((q.a.mr.take k).foldl (ds1 lf) (List.replicate q.n (-1),[])).1.length=q.n∧((q.a.mr.take k).foldl (ds1 lf) (List.replicate q.n (-1),[])).2.length≤q.a.mr.length:=by
   rw[gi];exact⟨YK _ _,LL (Mg _ _) (by rw[LC];omega)⟩
  refine Zj ((q.a.mr.take k).foldl (ds1 lf) (List.replicate q.n (-1),[])) λz hz=>?_;rw[hz]at ho ha Y kp;refine Zj (q.a.mr[k]'V) λy hy=>?_;rw[hy]at kn Y;have hw:y=(y.toNat:Int):=by omega
  have h6:y.toNat<z.1.length:=by omega
  have hX:=UO (l:=lf) (s:=y) (by omega);have gu:=hA.ext h3;refine Qg<|Qh<|Qc<|xii (i:=k) gu.a.mr O O V λma hD=>?_;rw[hy]at hD;refine x (Qv hD O)<|Qf<|Qc<|Qb<|x (QE O)<|x (Qa O)<|x (Qd gu.B O O)<|Qb<|x (QS (i:=y.toNat) O (congrArg (Value.int .i64) hw) (by omega))<|x (JA (i:=y.toNat) (hB.ext h3) O (by omega))<|xe ?_;rw[hX];refine QZ O (λgb=>?_) (λgb=>?_)
  ·have e1:ds1 lf z y=(z.1.set y.toNat 0,z.2++[y]):=by unfold ds1;rw[if_pos gb]
   rw[e1]at Y;refine Qc<|Qb<|Qb<|x (QS (i:=y.toNat) O (congrArg (Value.int .i64) hw) (by omega))<|xl O<|Jg (i:=y.toNat) ho O O h6 λw4 hf h4=>xe ?_;have hR:=hf.size;have g1:bO<G.heap.size:=h0.lt;have J:Qt 3 G.heap.size w4 vl z.2:=Qm ha hf (λb hb=>by have:=Qq ha b hb;simp only[List.mem_singleton];omega)
   refine Qw<|Qb<|Qb<|xl O<|QG (us:=[[.int .i64 y]]) O O (by decide) (by simp) ⟨rfl,rfl,Z⟩ λmc w5 E mf kq=>xl rfl<|Q4 (m:=1) (news:=[.int .i64 y]) (Qs J E) rfl rfl rfl (kq.at (L:=[]) (by simp)) (by simp[Value.oneCell']) (by omega) (by have:=E.size;omega) λhZ w6 h8 I mg =>
    Qf ?_
   have hI:=E.size;have kg:=I.size;refine Qw<|QP O O<|Qb<|xe<|⟨(k+1,hZ),by simp only[];omega,⟨O,O,Z⟩,V,((h3.then1 hf hC).trans E).then I (λb hb=>.inr (by have:=Qq J b hb;have:=hh.size;omega)),by omega,?_,?_⟩
   ·simp only[];rw[Y];exact(h4.ext E).step I (λhb=>by have:=Qq J _ hb;omega)
   simp only[];rw[Y];exact Qt.snoc h8
  have e1:ds1 lf z y=z:=by unfold ds1;rw[if_neg (by rw[gb];decide)]
  rw[e1]at Y;refine Qi<|Qw<|QP O O<|Qb<|xe ?_;exact⟨(k+1,vl),by simp only[];omega,⟨O,O,Z⟩,V,h3,gh,by simp only[];rw[Y];exact ho,by simp only[];rw[Y];exact ha⟩
 refine Qi ?_;have hP:j<q.n:=by have gy:(j:Int)<(q.n:Int):=hO;omega
 refine Qg<|Qh<|Qc<|Qb<|Qf<|Qw ?_;have kr:(gA q.n (λi=>if i<j then -1 else 0)).set j (-1)=gA q.n (λi=>if i<j+1 then -1 else 0):=zI (by rw[if_pos (by omega)]) (λi _ hi=>by
  by_cases e:i<j
  ·rw[if_pos e,if_pos (by omega)]
  rw[if_neg e,if_neg (by omega)])
 refine Qb<|Qb<|x (QS (i:=j) O O (by omega))<|xl O<|KL (i:=j) h0 O O hP kr λw6 I hL=>xe ?_;refine Qw<|QP O O<|Qb<|xe ?_;exact⟨j+1,by omega,La,hP,hh.then1 I hC,hL⟩
abbrev rmC (rk rs:Int)(x:Int×Int):LV:=[.int .i64 x.1,.int .i64 rk,.int .i64 rs,.int .i64 x.2]
theorem QeG (rk rs:Int)(x:Int×Int):(rmC rk rs x).length=4:=rfl
abbrev RmO (base:Nat)(w:World)(v:Value)(rk rs:Int)(l:List (Int×Int)):Prop:=w.ownsRow base 269 4 v l.length (l.flatMap (rmC rk rs))
theorem RmO.snoc {base:Nat}{w:World}{v:Value}{rk rs:Int}{l:List (Int×Int)}{x:Int×Int}(h:w.ownsRow base 269 4 v (l.length+1) (l.flatMap (rmC rk rs)++rmC rk rs x)):RmO base w v rk rs (l++[x]):=by
 unfold RmO;rw[Lj,LG];simpa using h
theorem Qiy {a:QD}{ul:LI}{lf:Lf}{k:Nat}(h:k<a.ed.length):(a.ed.take (k+1)).foldl (X1 ul lf) []=X1 ul lf ((a.ed.take k).foldl (X1 ul lf) []) (a.ed[k]'h):=by
 rw[Li h,Mh];rfl
set_option maxHeartbeats 4000000 in
theorem Qh4 {w:World}{bp:Nat}{q:Pz}{lf:Lf}(U:PzA [] w.heap bp q)(hq:PzQ q)(hB:QT w.heap q.bl 4 (lf.map Value.bool))(hl:lf.length=q.n)(rk:Int):
  QH prog 190 [.pointer (some ⟨bp,0,none⟩),.int .i64 rk] w λr w'=>Step [] w w'∧RmO w.heap.size w' r rk 2 (lost q.a q.unc lf):=by
 have hn:=hq.n;have hT:=hq.ok.ed_le;refine QH.of_W func190 O ntmps190 results190 (by simp) ?_;refine Qc<|Qf<|Qc<|Qf<|Qg<|Qc<|Qb<|x (QE O)<|x (Qa O)<|x (Qa O)<|x (Qd U.B O O)<|x (Qr U.a.ed O)<|Qb<|xe ?_
 refine Qh<|Qz (α:=Nat×Value) [(5,5),(7,8),(15,72)] (λz=>[(5,z.2),(15,.int .i64 z.1)]) (λz w'=>z.1≤q.a.ed.length∧Step [] w w'∧RmO w.heap.size w' z.2 rk 2 ((q.a.ed.take z.1).foldl (X1 q.unc lf) [])) (λz=>q.a.ed.length - z.1) (by rfl) (0,nS) ⟨O,O,Z⟩ ⟨Ll _,Step.refl _ _,QN _ _ _ _⟩ ?_;rintro⟨k,vo⟩ g w1 ⟨hk,hh,I⟩;simp only[]at hk I
 have hi:=(zt (a:=q.a) (ul:=q.unc) (lf:=lf) (q.a.ed.take k) [] (λe he=>L2 he) (λp hp=>by cases hp)).2;rw[LC]at hi;refine Qc<|x (QA O O)<|xe<|Qg<|QC O (λhj=>?_) (λhj=>?_)
 ·refine Qy ?_;have hC:q.a.ed.length≤k:=by have V:¬(k:Int)<(q.a.ed.length:Int):=hj;omega
  rw[Lp hC]at I;refine Qc<|Qb<|Qf ?_;exact Ql ⟨[_],La,hh,I⟩
 refine Qi ?_;have G:k<q.a.ed.length:=by have V:(k:Int)<(q.a.ed.length:Int):=hj;omega
 have hD:=hq.ok.ed _ (Lc G);have E:=Qiy (ul:=q.unc) (lf:=lf) G;refine Zj ((q.a.ed.take k).foldl (X1 q.unc lf) []) λout hout=>?_;rw[hout]at I E hi;refine Zj (q.a.ed[k]'G) λe he=>?_;rw[he]at hD E;simp only[List.length_nil]at hi;have hE:e.1=(e.1.toNat:Int):=by omega
 have hF:e.2.2=(e.2.2.toNat:Int):=by omega
 have hG:=UO (l:=lf) (s:=e.1) (by omega);have hH:=UO (l:=lf) (s:=e.2.2) (by omega);have hI:=U.ext hh;refine Qg<|Qh<|Qc<|xie hI.a.ed O O G λhU V=>?_;rw[he]at V;refine x (QI V O O)<|xl O<|Qu (us:=[.int .i64 0,.int .i64 0,.int .i64 0]) O λb7 w2 hJ hK H=>xl O<|Qn (us:=QB e) H O O O O ⟨O,O,O,Z⟩ λw3 hL Y=>xe ?_;have h2:Step [] w1 w3:=hJ.then1 hL hK
 have hm:=hh.trans h2;have ha:=U.ext hm;have h3:=hB.ext hm;have hM:=Qs I h2;refine Qg<|QX (α:=Bool) [(19,47)] (λz=>[(47,.bool z)]) (λz w'=>Step [] w3 w'∧(z=true↔(lft lf e.1=false∨lft lf e.2.2=true∨e.2.1∉q.unc))) (by rfl) ?_ ?_
 ·refine QU (Step [] w3) [(0,true),(1,true),(2,true),(3,true),(4,true),(5,true),(6,true),(7,true),(8,true),(9,true),(10,true),(11,true),(12,true),(13,true),(14,true),(15,true),(16,true),(17,true),(18,true),(19,true),(20,true),(21,true),(22,true),(23,true),(24,true),(25,true),(26,false),(27,true),(28,true)] mixed (by rfl) (by kernel_rfl) (Step.drew _ _) ?_
  refine p (λ_=>Qk)<|p (λ_=>QE O)<|p (λ_=>Qa O)<|pq (λ_ hc=>Qd (ha.B.ext hc) O O)<|p (λ_=>Qa O)<|pq (λ_ hc=>Qd (Y.ext hc) O O) <|
   p (λ_=>QS (i:=e.1.toNat) O (congrArg (Value.int .i64) hE) (by omega))<|pq (v:=.bool (lft lf e.1)) (λ_ hc=>(JA (i:=e.1.toNat) (h3.ext hc) O (by omega)).trans (by rw[hG]))<|pB (λ_=>Zt rfl) (λJ=>?_) (λJ=>?_)
  ·refine p (λ_=>Qk)<|ps<|ps<|ps<|ps<|ps<|ps<|ps<|ps<|p (λ_=>Qp O)<|p (λ_=>Qk)<|ps<|ps<|ps<|ps<|ps<|ps<|ps<|ps<|p (λ_=>Qp O)<|pe ?_;exact⟨_,La,Step.drew _ _,by simp at J;simp[J]⟩
  refine p (λ_=>Qk)<|p (λ_=>Qk)<|p (λ_=>QE O)<|p (λ_=>Qa O)<|pq (λ_ hc=>Qd (ha.B.ext hc) O O)<|p (λ_=>Qa O)<|pq (λ_ hc=>Qd (Y.ext hc) O O) <|
   p (λ_=>QS (i:=e.2.2.toNat) O (congrArg (Value.int .i64) hF) (by omega))<|?_
  refine pqB (b:=lft lf e.2.2) (λ_ hc=>(JA (i:=e.2.2.toNat) (h3.ext hc) O (by omega)).trans (by rw[hH])) (λho=>?_) (λho=>?_)
  ·refine p (λ_=>Qp O)<|p (λ_=>Qk)<|ps<|ps<|ps<|ps<|ps<|ps<|ps<|ps<|p (λ_=>Qp O)<|pe ?_;exact⟨_,La,Step.drew _ _,by simp[ho]⟩
  refine p (λ_=>Qp O)<|p (λ_=>Qk)<|p (λ_=>Qk)<|p (λ_=>QE O)<|p (λ_=>Qa O)<|pq (λ_ hc=>Qd (ha.B.ext hc) O O) <|
   p (λ_=>Qa O)<|pq (λ_ hc=>Qd (Y.ext hc) O O)<|pk<|xf<|(Yl (ha.u.ext (Step.drew _ _)) e.2.1).mono ?_
  rintro r4 w4 ⟨rfl,rfl⟩;refine⟨Step.drew _ _,?_⟩;refine p (λ_=>zg O)<|p (λ_=>Qp O)<|pe ?_;exact⟨_,La,Step.drew _ _,by simp at J;simp[J,ho]⟩
 rintro z g w4 ⟨hr,hz⟩;have h4:=hm.trans hr;have hs:=Qs hM hr;have H:=Y.ext hr;refine QZ rfl (λhf=>?_) (λhf=>?_)
 ·refine Qy ?_;have e1:X1 q.unc lf out e=out:=by unfold X1;rw[if_pos (hz.1 hf)]
  rw[e1]at E;refine Qw<|QP O O<|Qb<|xe ?_;exact⟨(k+1,vo),by simp only[];omega,⟨O,O,Z⟩,G,h4,by simp only[];rw[E];exact hs⟩
 refine Qi ?_;have h5:¬(lft lf e.1=false∨lft lf e.2.2=true∨e.2.1∉q.unc):=λh=>by rw[hz.2 h]at hf;cases hf
 have h6:Zy [] w4.heap vo out.length 4 (out.flatMap (rmC rk 2)):=QV hs (by omega) (by simp);refine Qg<|Qc<|Qb<|x (Qr h6 O)<|Qf<|QX (α:=Bool) [(50,62)] (λz=>[(62,.bool z)]) (λz w'=>Step [] w4 w'∧(z=true↔out.getLast?.map (·.1)=some e.1)) (by rfl) ?_ ?_
 ·refine QU (Step [] w4) [(0,true),(1,true),(2,true),(3,true),(4,true),(5,true),(6,true),(7,true),(8,true),(9,true),(10,true),(11,true),(12,true)] mixed (by rfl) (by kernel_rfl) (Step.drew _ _) ?_;refine p (λ_=>Qk)<|pb (λ_=>ZR O O) (λht=>?_) (λht=>?_)
  ·have hV:0<out.length:=by have hN:(0:Int)<(out.length:Int):=ht;omega
   have h7:out.getLast?=some (out[out.length - 1]'(by omega)):=by rw[List.getLast?_eq_getElem?,LE]
   refine Zj (out[out.length - 1]'(by omega)) λy hy=>?_;rw[hy]at h7;refine p (λ_=>Qk)<|p (λ_=>Qk)<|p (λ_=>Qk)<|p (λ_=>JW O O ⟨by omega,by omega⟩)<|Go.Lg.pig (g:=rmC rk 2) (i:=out.length - 1) O (QeG rk 2) h6 O (congrArg (Value.int .i64) (show(out.length:Int) - 1=((out.length - 1:Nat):Int) by omega)) (by omega) λhW h8=>?_;rw[hy]at h8
   refine p (λ_=>Zf O)<|pq (λ_ hc=>Qv ((h8.fld 0 (.int .i64 y.1) O).ext hc) O)<|p (λ_=>Qa O)<|pq (λ_ hc=>Qd (H.ext hc) O O) <|
    p (λ_=>Zr O O)<|p (λ_=>Qp O)<|pe ?_
   exact⟨_,La,Step.drew _ _,by rw[h7];simp⟩
  have h0:out=[]:=Lr (by have hN:¬(0:Int)<(out.length:Int):=ht;omega);refine p (λ_=>Qk)<|ps<|ps<|ps<|ps<|ps<|ps<|ps<|ps<|ps<|p (λ_=>Qp O)<|pe ?_;exact⟨_,La,Step.drew _ _,by simp[h0]⟩
 rintro z2 g w5 ⟨hu,h9⟩;have hv:=h4.trans hu;have hw:=Qs hs hu;have H:=H.ext hu;refine QZ rfl (λhg=>?_) (λhg=>?_)
 ·refine Qy ?_;have e1:X1 q.unc lf out e=out:=by unfold X1;rw[if_neg h5,if_pos (h9.1 hg)]
  rw[e1]at E;refine Qw<|QP O O<|Qb<|xe ?_;exact⟨(k+1,vo),by simp only[];omega,⟨O,O,Z⟩,G,hv,by simp only[];rw[E];exact hw⟩
 refine Qi ?_;have hO:¬out.getLast?.map (·.1)=some e.1:=λh=>by rw[h9.2 h]at hg;cases hg
 have e1:X1 q.unc lf out e=out++[(e.1,e.2.1)]:=by unfold X1;rw[if_neg h5,if_neg hO]
 rw[e1]at E;refine Qw<|Qb<|x (Qa O)<|x (Qd H O O)<|Qb<|x (Qa O)<|x (Qd H O O)<|x (QM ⟨O,O,O,O,Z⟩) <|
  xl rfl<|QG (us:=[rmC rk 2 (e.1,e.2.1)]) O O (by decide) (by simp) ⟨rfl,rfl,Z⟩ λhX w6 h1 hY hP =>
  xl rfl<|Q4 (m:=1) (news:=rmC rk 2 (e.1,e.2.1)) (Qs hw h1) O O O (hP.at (L:=[]) (by simp)) (by simp[Value.oneCell']) (by omega) (by have:=hv.size;have:=h1.size;omega) λhQ w7 hR hS hZ=>Qf<|Qw<|QP O O<|Qb<|xe ?_
 exact⟨(k+1,hQ),by simp only[];omega,⟨O,O,Z⟩,G,(hv.trans h1).then hS (λb hb=>.inr (Qq hw b hb).1),by simp only[];rw[E];exact RmO.snoc hR⟩
theorem jP (lf:Lf)(d:Int):∀(l:LI) (i:Nat),Jn lf i (l++[d])=Jn lf i l++if lf.getD (i+l.length) false=true∧d<0 then[((i+l.length:Nat):Int)]else[]
 | [],i=>by
  simp only[List.nil_append,Jn,List.length_nil,Nat.add_zero]
 | a::l,i=>by
  have ih:=jP lf d l (i+1);rw[show i+1+l.length=i+(a::l).length by simp;omega]at ih;simp only[List.cons_append,Jn,ih];by_cases h:lf.getD i false=true∧a<0
  ·rw[if_pos h,if_pos h,Mq]
  rw[if_neg h,if_neg h]
abbrev blP (l:LI):List (Int×Int):=l.map λs=>(s,-1)
set_option maxHeartbeats 4000000 in
theorem QbT {w:World}{bp:Nat}{q:Pz}{lf:Lf}(hA:PzA [] w.heap bp q)(hq:PzQ q)(hB:QT w.heap q.bl 4 (lf.map Value.bool))(hl:lf.length=q.n)(rk:Int):
  QH prog 191 [.pointer (some ⟨bp,0,none⟩),.int .i64 rk] w λr w'=>Step [] w w'∧RmO w.heap.size w' r rk 3 (blP (Jn lf 0 (dsts q.a lf)))∧(Jn lf 0 (dsts q.a lf)).length≤q.n:=by
 have hn:=hq.n;have h0:=hq.ok.st1;refine QH.of_W func191 O ntmps191 results191 (by simp) ?_;refine Qc<|Qf<|Qc<|Qf<|Qg<|Qc<|Qb<|xl O<|xf<|(Uo hA hq hB hl).mono ?_;rintro r1 U ⟨hg,b,rfl,hb,hh,V⟩;refine Zj (dsts q.a lf) λD hD=>?_;rw[hD]at hh V ⊢;have hi:QJ [] U.heap (.slice (some ⟨b,0,none⟩) q.n q.n) D:=by
  have h:=hh.arr (L:=[]) (by simp) (n:=q.n) (cap:=q.n) (sz:=1) (by simp[V]) (by omega) (Lu _);unfold QJ;rw[V];exact h
 refine x (Qr hi O)<|Qb<|xe<|Qh<|Qz (α:=Nat×Value) [(5,7),(11,33)] (λz=>[(5,z.2),(11,.int .i64 z.1)]) (λz w'=>z.1≤D.length∧Step [] U w'∧RmO U.heap.size w' z.2 rk 3 (blP (Jn lf 0 (D.take z.1)))) (λz=>D.length - z.1) (by rfl) (0,nS) ⟨O,O,Z⟩ ⟨Ll _,Step.refl _ _,QN _ _ _ _⟩ ?_;rintro⟨k,vo⟩ g w2 ⟨hk,I,E⟩;simp only[]at hk E;have hj:=(Uu lf (D.take k) 0).2
 rw[LC]at hj;have Y:=hg.trans I;refine Qc<|x (QA O O)<|xe<|Qg<|QC O (λha=>?_) (λha=>?_)
 ·refine Qy ?_;have ho:D.length≤k:=by have hp:¬(k:Int)<(D.length:Int):=ha;omega
  rw[Lp ho]at E;refine Qc<|Qb<|Qf ?_;exact Ql ⟨[_],La,Y,Zd E hg.size,by have:=(Uu lf D 0).2;omega⟩
 refine Qi ?_;have G:k<D.length:=by have hp:(k:Int)<(D.length:Int):=ha;omega
 have hr:D.take (k+1)=D.take k++[D[k]'G]:=Li G;have H:=jP lf (D[k]'G) (D.take k) 0;rw[←hr,LC,LR,Nd (by omega)]at H;refine Zj (D[k]'G) λd hd=>?_;rw[hd]at H;refine Zj (Jn lf 0 (D.take k)) λout hout=>?_;rw[hout]at H E hj;have hc:k<lf.length:=by omega
 have hs:lf[k]'hc=lf.getD k false:=by simp[List.getD,hc]
 have ht:=hA.ext Y;refine Qg<|Qh<|Qc<|Qb<|xii (i:=k) (hi.ext I) O O G λh1 hm=>?_;rw[hd]at hm;refine x (Qv hm O)<|x Qe<|Qf<|QX (α:=Bool) [(16,26)] (λz=>[(26,.bool z)]) (λz w'=>w'=w2∧(z=true↔lf.getD k false=true∧d<0)) (by rfl) ?_ ?_
 ·refine Qw<|Qb<|x (QE O)<|x (Qa O)<|x (Qd ht.B O O)<|Qb<|x (QS (i:=k) O O (by omega))<|xB (b:=lf.getD k false) ((JA (i:=k) (hB.ext Y) O hc).trans (by rw[hs])) (λhe=>?_) (λhe=>?_)
  ·refine Qb<|Qb<|x (QA O O)<|x (Qp O)<|xe ?_;exact⟨_,La,O,by rw[he];simp⟩
  refine Qb<|xs O<|xs O<|x (Qp O)<|xe ?_;exact⟨_,La,O,by rw[he];simp⟩
 rintro z g w3 ⟨rfl,hz⟩;refine QZ rfl (λJ=>?_) (λJ=>?_)
 ·rw[if_pos (hz.1 J)]at H;refine Qw<|Qb<|Qb<|Qb<|x (QM ⟨O,O,O,O,Z⟩)<|xl O<|QG (us:=[rmC rk 3 ((k:Int),-1)]) O O (by decide) (by simp) ⟨rfl,rfl,Z⟩ λh2 w4 hf h3 hu =>
   xl rfl<|Q4 (m:=1) (news:=rmC rk 3 ((k:Int),-1)) (Qs E hf) O O O (hu.at (L:=[]) (by simp)) (by simp[Value.oneCell']) (by rw[Lh];omega) (by have:=I.size;have:=hf.size;omega) λhv w5 hw hy h4=>Qf<|Qw<|QP O O<|Qb<|xe ?_
  refine⟨(k+1,hv),by simp only[];omega,⟨O,O,Z⟩,G,(I.trans hf).then hy (λb hb=>.inr (Qq E b hb).1),?_⟩;simp only[];rw[H,show blP (out++[(k:Int)])=blP out++[((k:Int),-1)] by simp];exact RmO.snoc hw
 rw[if_neg (λh=>by rw[hz.2 h]at J;cases J),LO]at H;refine Qi<|Qw<|QP O O<|Qb<|xe ?_;exact⟨(k+1,vo),by simp only[];omega,⟨O,O,Z⟩,G,I,by simp only[];rw[H];exact E⟩
theorem Qh3 {w:World}{bp:Nat}{q:Pz}{lf:Lf}(U:PzA [] w.heap bp q)(hq:PzQ q)(V:QT w.heap q.bl 4 (lf.map Value.bool))(hl:lf.length=q.n)(rk:Int):
  QH prog 147 [.pointer (some ⟨bp,0,none⟩),.int .i64 rk,.bool true] w λr w'=>Step [] w w'∧∃rs l,RmO w.heap.size w' r rk rs l∧l.map (·.1)=nxs q.a q.unc lf∧l.length≤1000000:=by
 have ha:=(QaG q.a q.unc lf).2;have hf:=hq.ok.ed_le;have hn:=hq.n;have hg:=hq.ok.st1;have E:nxs q.a q.unc lf=if(lost q.a q.unc lf).length≠0 then(lost q.a q.unc lf).map (·.1)else Jn lf 0 (dsts q.a lf):=rfl
 refine QH.of_W func147 O ntmps147 results147 (by simp) ?_;refine Qc<|Qf<|Qg<|Qc<|Qb<|Qb<|xl O<|xf<|(Qh4 U hq V hl rk).mono ?_;rintro r1 w1 ⟨G,I⟩;refine Zj (lost q.a q.unc lf) λL hL=>?_;rw[hL]at I E ha;refine Qf<|QX (α:=Bool) [(11,17)] (λz=>[(17,.bool z)]) (λz w'=>w'=w1∧(z=true↔L.length≠0)) (by rfl) ?_ ?_
 ·refine Qw<|Qb<|x (Qr (L:=[]) (QV I (by omega) (by simp)) rfl)<|xb (ZR rfl rfl) (λJ=>?_) (λJ=>?_)
  ·refine Qb<|xs O<|xs O<|x (Qp O)<|xe ?_;exact⟨_,La,O,by have Y:(0:Int)<(L.length:Int):=J;simp;intro e;subst e;simp at Y⟩
  refine Qb<|Qb<|x (Zt O)<|x (Qp O)<|xe ?_;have Y:¬(0:Int)<(L.length:Int):=J;have hb:L.length=0:=by omega
  exact⟨_,La,O,by rw[hb];simp⟩
 rintro z g w2 ⟨rfl,hz⟩;refine QZ rfl (λH=>?_) (λH=>?_)
 ·rw[if_pos (hz.1 H)]at E;refine Qc<|Qb<|Qf ?_;exact Ql ⟨[_],La,G,2,L,I,E.symm,by omega⟩
 rw[if_neg (λh=>by rw[hz.2 h]at H;cases H)]at E;refine Qi<|Qc<|Qb<|Qb<|xl O<|xf<|(QbT (U.ext G) hq (V.ext G) hl rk).mono ?_;rintro r3 w3 ⟨hc,he,hh⟩;refine Qf<|Ql ⟨[_],La,G.trans hc,3,_,Zd he G.size,?_,?_⟩
 ·rw[E,Mf];exact List.map_id _
 rw[Lh];omega
structure K5 (base:Nat)(w:World)(n:Nat)(f:Nat→Value)(g:Nat→List Ed):Prop where
 own:∀i,i<n→Ya 129 base w (f i) (g i)
 dj:∀i j,i<n→j<n→i≠j→Dj (f i) (f j)
theorem K5.app {base n i:Nat}{w w':World}{f:Nat→Value}{g:Nat→List Ed}{v':Value}{l:List Ed}(h:K5 base w n f g)(hi:i<n)(H:Ya 129 base w' v' l)(hs:Step (ob (f i)) w w')
  (I:∀b∈ob v',b∈ob (f i)∨w.heap.size≤b):K5 base w' n (Kw f i v') (Kw g i l):=by
 refine⟨λj hj=>?_,λj k hj hk E=>?_⟩
 ·by_cases e:j=i
  ·subst e;rw[Z5,Z5];exact H
  rw[Yx _ _ e,Yx _ _ e];exact Qm (h.own j hj) hs (h.dj j i hj hi e)
 have key:∀j,j<n→j≠i→Dj v' (f j):=λj hj e b hb G=>by
  rcases I b hb with h1|h1
  ·exact h.dj i j hi hj (Ne.symm e) b h1 G
  have:=QY (h.own j hj) b G;omega
 by_cases e1:j=i
 ·subst e1;rw[Z5,Yx _ _ (Ne.symm E)];exact key k hk (Ne.symm E)
 rw[Yx _ _ e1];by_cases e2:k=i
 ·subst e2;rw[Z5];exact(key j hj e1).symm
 rw[Yx _ _ e2];exact h.dj j k hj hk E
theorem K5.step {base n:Nat}{X:LN}{w w':World}{f:Nat→Value}{g:Nat→List Ed}(h:K5 base w n f g)(hs:Step X w w')(E:∀i,i<n→∀b∈ob (f i),b∉X):K5 base w' n f g :=
 ⟨λi hi=>Qm (h.own i hi) hs (E i hi),h.dj⟩
theorem K5.ext {base n:Nat}{w w':World}{f:Nat→Value}{g:Nat→List Ed}(h:K5 base w n f g)(hs:Step [] w w'):K5 base w' n f g:=h.step hs (λ_ _ _ _=>by simp)
def yL (es:List Ed)(s:Nat):List Ed:=Zu es (s:Int)
theorem Qga (es:List Ed)(e:Ed)(E:0≤e.1):Kw (yL es) e.1.toNat (yL es e.1.toNat++[e])=yL (es++[e]):=by
 funext s;unfold yL Zu;rw[L8];by_cases h:s=e.1.toNat
 ·subst h;rw[Z5];have:e.1=(e.1.toNat:Int):=by omega
  simp[←this]
 rw[Yx _ _ h];have:¬e.1=(s:Int):=by omega
 simp[this]
theorem QbM (es:List Ed)(s:Nat):(yL es s).length≤es.length:=JY es _
def Qeg (num:LI)(m:List (Int×Value)):Prop:=∀s:Nat,s<num.length→mget m (s:Int)=if cget num s<0 then none else some (.int .i64 (cget num s))
theorem Vg (l:LI)(k:Int):Zq l k=cget l k.toNat:=rfl
structure Kz (b4 mb:Nat)(r2:Value)(wS:World)(c:Cs)(m:List (Int×Value))(vo vk ve:Value)(w:World):Prop where
 st:Step [b4,mb] wS w
 B4:QT w.heap b4 50 [r2,.int .i64 0,vk,ve]
 M:ZI JO w.heap mb m
 nm:Qeg c.num m
 o:Qt 3 wS.heap.size w vo c.ord
 k:Qt 3 wS.heap.size w vk c.mk'
 e:Ya 129 wS.heap.size w ve c.ed
 d1:Dj vo vk
 d2:Dj vo ve
 d3:Dj vk ve
section
variable {b4 mb:Nat}{r2:Value}{wS:World}{c:Cs}{m:List (Int×Value)}{vo vk ve:Value}{w w' w'':World}
theorem Kz.ext (h:Kz b4 mb r2 wS c m vo vk ve w)(hs:Step [] w w'):Kz b4 mb r2 wS c m vo vk ve w' :=
 ⟨h.st.trans hs,h.B4.ext hs,h.M.ext hs,h.nm,Qs h.o hs,Qs h.k hs,Qs h.e hs,h.d1,h.d2,h.d3⟩
theorem Kz.setK (h:Kz b4 mb r2 wS c m vo vk ve w)(U:b4<wS.heap.size)(lm:mb<wS.heap.size)(ne:mb≠b4){G:Value}{l:LI}(hs:Step (ob vk) w w')(H:Qt 3 wS.heap.size w' G l)
  (I:∀b∈ob G,b∈ob vk∨w.heap.size≤b) (E:Step [b4] w' w'') (J:QT w''.heap b4 50 [r2,.int .i64 0,G,ve]):Kz b4 mb r2 wS ⟨c.ord,c.num,l,c.ed⟩ m vo G ve w'' :=
 ⟨(h.st.then hs (λb hb=>.inr (Qq h.k b hb).1)).then E (λb hb=>.inl (by simp at hb;simp[hb])),J,(h.M.step hs (Q0 h.k lm)).step E (by simpa using ne),h.nm,
  Qm (Qm h.o hs h.d1) E (λb hb=>by have:=(Qq h.o b hb).1;simp;omega),Qm H E (λb hb=>by have:=(Qq H b hb).1;simp;omega),
  Qm (Qm h.e hs h.d3.symm) E (λb hb=>by have:=(Qq h.e b hb).1;simp;omega),h.d1.grow I (QY h.o),h.d2,(h.d3.symm.grow I (QY h.e)).symm⟩
theorem Kz.setE (h:Kz b4 mb r2 wS c m vo vk ve w)(J:b4<wS.heap.size)(lm:mb<wS.heap.size)(ne:mb≠b4){ve':Value}{l:List Ed}(hs:Step (ob ve) w w')(G:Ya 129 wS.heap.size w' ve' l)
  (H:∀b∈ob ve',b∈ob ve∨w.heap.size≤b) (E:Step [b4] w' w'') (I:QT w''.heap b4 50 [r2,.int .i64 0,vk,ve']):Kz b4 mb r2 wS ⟨c.ord,c.num,c.mk',l⟩ m vo vk ve' w'' :=
 ⟨(h.st.then hs (λb hb=>.inr (Qq h.e b hb).1)).then E (λb hb=>.inl (by simp at hb;simp[hb])),I,(h.M.step hs (Q0 h.e lm)).step E (by simpa using ne),h.nm,
  Qm (Qm h.o hs h.d2) E (λb hb=>by have:=(Qq h.o b hb).1;simp;omega),Qm (Qm h.k hs h.d3) E (λb hb=>by have:=(Qq h.k b hb).1;simp;omega),
  Qm G E (λb hb=>by have:=(Qq G b hb).1;simp;omega),h.d1,h.d2.grow H (QY h.o),h.d3.grow H (QY h.k)⟩
theorem Kz.setN (h:Kz b4 mb r2 wS c m vo vk ve w)(lm:mb<wS.heap.size)(ne:mb≠b4){l:LI}{G:List (Int×Value)}(E:Step [mb] w w')(H:ZI JO w'.heap mb G)(hm:Qeg l G):Kz b4 mb r2 wS ⟨c.ord,l,c.mk',c.ed⟩ G vo vk ve w' :=
 ⟨h.st.then E (λb hb=>.inl (by simp at hb;simp[hb])),h.B4.step E (by simpa using ne.symm),H,hm,Qm h.o E (λb hb=>by have:=(Qq h.o b hb).1;simp;omega),
  Qm h.k E (λb hb=>by have:=(Qq h.k b hb).1;simp;omega),Qm h.e E (λb hb=>by have:=(Qq h.e b hb).1;simp;omega),h.d1,h.d2,h.d3⟩
theorem Kz.setO (h:Kz b4 mb r2 wS c m vo vk ve w)(H:b4<wS.heap.size)(lm:mb<wS.heap.size){E:Value}{l:LI}(hs:Step (ob vo) w w')(I:Qt 3 wS.heap.size w' E l)
  (G:∀b∈ob E,b∈ob vo∨w.heap.size≤b):Kz b4 mb r2 wS ⟨l,c.num,c.mk',c.ed⟩ m E vk ve w' :=
 ⟨h.st.then hs (λb hb=>.inr (Qq h.o b hb).1),h.B4.step hs (Q0 h.o H),h.M.step hs (Q0 h.o lm),h.nm,I,Qm h.k hs h.d1.symm,Qm h.e hs h.d2.symm,
  (h.d1.symm.grow G (QY h.k)).symm,(h.d2.symm.grow G (QY h.e)).symm,h.d3⟩
end
theorem Qeg.set {num:LI}{m:List (Int×Value)}(h:Qeg num m){k:Nat}(hk:k<num.length){v:Int}(E:0≤v):Qeg (num.set k v) (mput m (k:Int) (.int .i64 v)):=by
 intro s hs;rw[MW]at hs;rw[J0];by_cases e:s=k
 ·subst e;have:cget (num.set s v) s=v:=by unfold cget;simp[List.getD,hk]
  rw[if_pos rfl,this,if_neg (by omega)]
 rw[if_neg (by omega)];have:cget (num.set k v) s=cget num s:=by unfold cget;simp[List.getD,List.getElem?_set_ne (Ne.symm e)]
 rw[this];exact h s hs
theorem QbB (i:Nat)(c:Cs)(m:LI)(e:Ed):Zk i ⟨c.ord,c.num,m,c.ed⟩ e=⟨(Zk i c e).ord,(Zk i c e).num,m,(Zk i c e).ed⟩∧(Zk i c e).mk'=c.mk':=by
 unfold Zk;split <;> exact⟨O,O⟩
theorem QaR (i:Nat):∀(l:List Ed) (c:Cs) (m:LI),l.foldl (Zk i) ⟨c.ord,c.num,m,c.ed⟩=⟨(l.foldl (Zk i) c).ord,(l.foldl (Zk i) c).num,m,(l.foldl (Zk i) c).ed⟩∧(l.foldl (Zk i) c).mk'=c.mk'
 | [],c,m=>⟨O,O⟩
 | e::l,c,m=>by
  have h1:=QbB i c m e;have h2:=QaR i l (Zk i c e) m;rw[LM,LM,h1.1,h2.1];exact⟨O,h2.2.trans h1.2⟩
theorem jb (i:Nat)(c:Cs)(e:Ed):∃r,(Zk i c e).ord=c.ord++r:=by
 unfold Zk;split
 ·exact⟨_,rfl⟩
 exact⟨[],by simp⟩
theorem Qcl (i:Nat):∀(l:List Ed) (c:Cs),∃r,(l.foldl (Zk i) c).ord=c.ord++r
 | [],c=>⟨[],by simp⟩
 | e::l,c=>by
  obtain⟨E,h1⟩:=jb i c e;obtain⟨r2,h2⟩:=Qcl i l (Zk i c e);exact⟨E++r2,by rw[LM,h2,h1,LA]⟩
theorem Qgb {a:QD}{i:Nat}{c:Cs}(hi:i<c.ord.length):qk a i c=ZW a i ((Zu a.ed (cget c.ord i)).foldl (Zk i) c):=by
 unfold qk;rw[Vg,LU];obtain⟨r,E⟩:=Qcl i (Zu a.ed (cget c.ord i)) c;have hm:=(QaR i (Zu a.ed (cget c.ord i)) c c.mk').2;unfold ZW;have G:Zq ((Zu a.ed (cget c.ord i)).foldl (Zk i) c).ord (i:Int)=Zq c.ord (i:Int):=by
  rw[Vg,Vg,E];simp only[Int.toNat_natCast];exact yd hi
 rw[G];split
 ·rw[(QaR i _ c _).1,hm]
 rfl
set_option maxHeartbeats 8000000 in
theorem zi {w:World}{bp:Nat}{q:Pz}{lf:Lf}(hA:PzA [] w.heap bp q)(hq:PzQ q)(hB:QT w.heap q.bl 4 (lf.map Value.bool))(hl:lf.length=q.n):
  QH prog 151 [.pointer (some ⟨bp,0,none⟩)] w λr w'=>Step [] w w'∧∃v o,r=.tuple #[v,o]∧JS w.heap.size w'.heap v (JU q.a lf)∧o.oneCell'=true:=by
 have hn:=hq.n;have hst1:=hq.ok.st1;have kh:=hq.ok.ed_le;have pg:=X4 hq.ok lf;have Y:JU q.a lf=if q.a.st=0∨lft lf 0=false then⟨q.a.al,0,[],[]⟩else ZY (rstr q.a lf):=rfl
 refine Zj (JU q.a lf) λSA ph=>?_;rw[ph]at Y ⊢;refine QH.of_W func151 O ntmps151 results151 (by simp) ?_;refine Qc<|xl O<|Qu (us:=[nS,.int .i64 0,nS,nS]) O λb2 w1 ki hb2 h9=>Qf ?_;have hl2:=h9.lt;have kj:=hA.ext ki;refine Qc<|Qb<|x (QE O)<|x (Qa O)<|x (Qa O)<|x (Qd kj.B O O)<|xl O<|xf<|(Yt kj.a.al).mono ?_;rintro r2 w2 ⟨hM,hw⟩;have hz2:=hM.size
 have hN:=Qt.ints (L:=[]) hw hA.a.al.le (by simp);refine x (QM ⟨hN.cells,Z⟩)<|xl O<|Qu (us:=[nS,.int .i64 0,nS,nS]) O λb4 w3 pj pn hC =>
  xl rfl<|Qn (us:=[r2,.int .i64 0,nS,nS]) hC O O O O ⟨hN.one,O,O,O,Z⟩ λw4 po hC=>xe ?_
 have U:Step [] w2 w4:=pj.then1 po pn;have ha:=ki.trans hM;have hD:=ha.trans U;have hl4:=hC.lt;have hz24:=U.size;have gj:=hA.ext hD;have pp:∀b∈ob r2,b<w2.heap.size:=QY hw;refine Qg<|QX (α:=Bool) [(22,36)] (λz=>[(36,.bool z)]) (λz w'=>w'=w4∧(z=true↔(q.a.st=0∨lft lf 0=false))) (by rfl) ?_ ?_
 ·refine Qw<|Qb<|x (QE O)<|x (Qa O)<|x (Qa O)<|x (Qd gj.B O O)<|xb (Zr O O) (λgk=>?_) (λgk=>?_)
  ·refine Qb<|xs O<|xs O<|xs O<|xs O<|xs O<|xs O<|xs O<|x (Qp O)<|xe ?_;exact⟨_,La,O,by simp[gk]⟩
  have gl:(0:Int).toNat<lf.length:=by
   have:0<q.n:=by omega
   simp;omega
  have gm:=UO (l:=lf) (s:=0) gl;refine Qb<|Qb<|x (QE O)<|x (Qa O)<|x (Qd gj.B O O)<|x (QS (i:=0) O O (by simp at gl;omega))<|x (v:=.bool (lft lf 0)) ((JA (i:=0) (hB.ext hD) O gl).trans (by rw[←gm];rfl))<|x (Zt O)<|x (Qp O)<|xe ?_;exact⟨_,La,O,by simp[gk]⟩
 rintro z g w4 ⟨rfl,hz⟩;refine QZ rfl (λhO=>?_) (λhO=>?_)
 ·rw[if_pos (hz.1 hO)]at Y;subst Y;refine Qc<|x (Qo hC O O)<|xl O<|Qn (us:=[r2,.int .i64 0,nS,nS]) ((h9.ext hM).ext U) O O O O ⟨hN.one,O,O,O,Z⟩ λw6 hE h9=>Qf<|Ql ⟨[.agg #[r2,.int .i64 0,nS,nS],nS],⟨⟨_,O,Qx O (h9.at (L:=[]) (by simp)).cells⟩,rfl,Z⟩,hD.then1 hE (by omega),_,_,rfl,?_,rfl⟩;have pt:=Qm (Qs hw U) hE (λb hb=>by have:=(Qq hw b hb).1;simp;omega)
  exact⟨r2,_,_,O,λL' hF=>⟨Qt.ints pt hA.a.al.le (λb hb=>by have:=hF b hb;omega),Zy.nil _ _ _,Zy.nil _ _ _⟩⟩
 have kk:¬(q.a.st=0∨lft lf 0=false):=λh=>by rw[hz.2 h]at hO;cases hO
 rw[if_neg kk]at Y;have pu:0<q.a.st:=by have:=hq.ok.st0;omega
 have kn:(rstr q.a lf).st.toNat=q.n:=by show q.a.st.toNat=q.n;omega
 unfold ZY at Y;rw[if_neg (show ¬(rstr q.a lf).st=0 from λh=>kk (.inl h)),kn]at Y;simp only[]at Y;refine Qi<|Qc<|Qb<|x (QE O)<|x (Qa O)<|x (Qa O)<|x (Qd gj.B O O)<|xl O<|XM (n:=q.n) (congrArg (Value.int .i64) hn) (congrArg (Value.int .i64) hn) (by omega) λbE w6 hE pw gn=>Qf ?_;rw[QbL]at gn;have hlE:=gn.lt;have pz:=hD.trans hE;have ko:=hA.ext pz
 refine Qg<|Qc<|Qb<|x (QE O)<|x (Qa O)<|x (Qa O)<|x (Qd ko.B O O)<|x (Qr ko.a.ed O)<|Qb<|xe<|Qh<|Qz (α:=Nat×(Nat→Value)) [(7,7),(50,74)] (λz=>[(50,.int .i64 z.1)]) (λz w'=>z.1≤q.a.ed.length∧Step [bE] w6 w'∧QT w'.heap bE 48 ((List.range q.n).map z.2)∧K5 w6.heap.size w' q.n z.2 (yL ((q.a.ed.take z.1).filter λe=>lft lf e.2.2))) (λz=>q.a.ed.length - z.1) (by rfl) (0,λ_=>nS) La
  ⟨Ll _,Step.refl _ _,gn,⟨λi _=>QN _ _ _ _,λi j _ _ _=>Dj.nil _⟩⟩ ?_
 rintro⟨k,rv⟩ g w7 ⟨hk,hP,gq,V⟩;simp only[]at hk gq V;have hG:Step [] w4 w7:=hE.then1 hP pw;have gr:=hD.trans hG;have hz7:=hP.size;have kp:=hA.ext gr;refine Qc<|x (QA O O)<|xe<|Qg<|QC O (λgs=>?_) (λgs=>?_)
 ·refine Qy ?_;have p0:q.a.ed.length≤k:=by have hQ:¬(k:Int)<(q.a.ed.length:Int):=gs;omega
  rw[Lp p0]at V;have V:K5 w6.heap.size w7 q.n rv (yL (rstr q.a lf).ed):=V;have kq:(rstr q.a lf).ed.length≤q.a.ed.length:=Mg _ _;refine Qc<|xl O<|Z6 JO λmb w8 gt p4 p5=>xl O<|Ys (k:=(0:Int)) p5 O O λE gu kr=>Qb<|Qf ?_;have H:Step [] w7 E:=gt.then1 gu p4;have p6:=H.size;have hS:=kr.lt
  refine Qc<|xl O<|QG (us:=[[.int .i64 0]]) O O (by decide) (by simp) ⟨rfl,rfl,Z⟩ λkt gv hy hb77 p7=>Qf<|Qg<|Qc<|Qf ?_;have gx:mb≠b4:=by omega
  have hH:b4<E.heap.size:=by omega
  have p8:=gr.trans H;have gy:∀b∈[b4,mb],w2.heap.size≤b:=λb hb=>by simp only[List.mem_cons,List.not_mem_nil,or_false]at hb;omega
  have p9:PzA [b4,mb] E.heap bp q:=((hA.ext ha).up (λb hb=>.inr (gy b hb))).ext (U.trans (hG.trans H));have hlw:=hB.lt;have ku:∀s,s<q.n→qe [b4,mb] E.heap (rv s) (yL (rstr q.a lf).ed s):=λs hs=>QV (Qs (V.own s hs) H) (by have:=QbM (rstr q.a lf).ed s;omega) (λb hb hm=>by
   have h1:=(Qq (V.own s hs) b hb).1;have h2:=QY (V.own s hs) b hb;simp only[List.mem_cons,List.not_mem_nil,or_false]at hm;omega)
  have hJ:=gq.ext H;have kv:∀b,b<w2.heap.size→b∉[b4,mb]:=λb hb hm=>by have:=gy b hm;omega
  have qc:bE∉[b4,mb]:=by simp only[List.mem_cons,List.not_mem_nil,or_false];omega
  have hblw:q.bl<w2.heap.size:=by omega
  have qo:QT E.heap b4 50 [r2,.int .i64 0,nS,nS]:=((hC.ext hG)).ext H;have qr:QT E.heap b2 50 [nS,.int .i64 0,nS,nS]:=((h9.ext hM).ext U).ext (hG.trans H);have q0:=Qs hw (U.trans (hG.trans H));have q4:Qt 3 E.heap.size gv (.slice (some ⟨kt,0,none⟩) 1 1) [0]:=p7.own (n:=1) (sz:=1) O (by omega) (by omega)
  have kw:Qeg (ZK (rstr q.a lf)).num (mput [] (0:Int) (.int .i64 0)):=by
   have h0:Qeg (List.replicate q.n (-1)) ([]:List (Int×Value)):=λs hs=>by
    have q9:s<q.n:=by simpa using hs
    have:cget (List.replicate q.n (-1)) s=-1:=by unfold cget;simp[List.getD,q9]
    rw[this];rfl
   have h1:=h0.set (k:=0) (by simp;omega) (v:=0) (MH _);unfold ZK;rw[kn];exact h1
  have gz:∀e∈(rstr q.a lf).ed,0≤e.1∧e.1<q.a.st∧0≤e.2.2∧e.2.2<q.a.st:=λe he=>by have:=pg.ed e he;exact⟨this.1,this.2.1,this.2.2.2.1,this.2.2.2.2⟩
  have kx:VR q.a.st (ZK (rstr q.a lf)):=QfK (a:=rstr q.a lf) pu;have kz:(rstr q.a lf).mr=q.a.mr:=rfl;refine Zj (rstr q.a lf) λR hR=>?_;rw[hR]at Y ku kw gz kx kz kq;have j1:R.al=q.a.al:=by rw[←hR];rfl
  have hnN:q.a.st.toNat=q.n:=by omega
  refine Qh<|Qz (α:=Nat×Cs×List (Int×Value)×Value×Value×Value) [(9,10),(12,14),(78,142)] (λz=>[(9,z.2.2.2.1),(10,.int .i64 z.1)])
   (λz w'=>Kz b4 mb r2 E z.2.1 z.2.2.1 z.2.2.2.1 z.2.2.2.2.1 z.2.2.2.2.2 w'∧z.1≤z.2.1.ord.length∧VR q.a.st z.2.1∧z.2.1.mk'.length≤z.1∧z.2.1.ed.length≤z.1*131072∧YP R (q.n - z.1) z.1 z.2.1=YP R q.n 0 (ZK R)) (λz=>q.n - z.1) (by rfl)
   (0,ZK R,mput [] (0:Int) (.int .i64 0),.slice (some ⟨kt,0,none⟩) 1 1,nS,nS) ⟨O,O,Z⟩
   ⟨⟨hy.any,qo.ext hy,kr.ext hy,kw,q4,QN _ _ _ _,QN _ _ _ _,Dj.nil' _,Dj.nil' _,Dj.nil' _⟩,Ll _,kx,Ll _,Ll _,O⟩ ?_
  rintro⟨i,c,m,vo,vk,ve⟩ g j2 ⟨I,hi,hc,j3,j4,g0⟩;simp only[]at I hi hc j3 j4 g0;have hcle:=hc.le;have hT:=Qt.ints (L:=[]) I.o (by omega) (by simp);refine Qg<|Qc<|Qb<|Qb<|x (Qr hT O)<|x (QA O O)<|xe<|QC O (λza=>?_) (λza=>?_)
  ·refine Qy ?_;have zb:c=YP R q.n 0 (ZK R):=by rw[←g0,jL (by omega)]
   refine Qc<|Qb<|x (Qr hT O)<|x (Qa O)<|xl O<|QF I.B4 O O (by simp) rfl λho ha hg=>xe ?_;have zv:=Qt.ints (L:=[]) I.k (by omega) (by simp);have z0:=Ya.eds (L:=[]) I.e (by have:=hc.el;omega) (by simp)
   refine Qc<|x (Qo hg O O)<|Qb<|xl O<|Qn (us:=[r2,.int .i64 c.ord.length,vk,ve]) ((qr.step I.st (kv _ (by omega))).step ha (by simp;omega)) O O O O ⟨hN.one,O,zv.one,z0.one,Z⟩ λz1 hU z2=>Qf ?_;have k0:Step [b4,mb] E ho:=I.st.then ha (λb hb=>.inl (by simp at hb;simp[hb]));have z3:Step [] w z1:=(p8.then k0 (λb hb=>.inr (by have:=gy b hb;omega))).then1 hU (by omega)
   refine Ql ⟨[.agg #[r2,.int .i64 c.ord.length,vk,ve],vo],⟨⟨_,O,Qx O (z2.at (L:=[]) (by simp)).cells⟩,rfl,Z⟩,z3,_,_,rfl,?_,hT.one⟩;rw[←zb]at Y;subst Y;have k1:=Qm (Qm I.k ha (λb hb=>by have:=(Qq I.k b hb).1;simp;omega)) hU (λb hb=>by have:=(Qq I.k b hb).1;simp;omega)
   have k2:=Qm (Qm I.e ha (λb hb=>by have:=(Qq I.e b hb).1;simp;omega)) hU (λb hb=>by have:=(Qq I.e b hb).1;simp;omega);have k3:=Qm (Qm q0 k0 (λb hb=>kv b (pp b hb))) hU (λb hb=>by have:=(Qq hw b hb).1;simp;omega)
   exact⟨r2,vk,ve,O,λL' hF=>⟨by rw[j1];exact Qt.ints k3 hA.a.al.le (λb hb=>by have:=hF b hb;omega),Qt.ints k1 (by show c.mk'.length≤_;omega) (λb hb=>by have:=hF b hb;omega),Ya.eds k2 (by show c.ed.length≤_;have:=hc.el;omega) (λb hb=>by have:=hF b hb;omega)⟩⟩
  have G:i<c.ord.length:=by omega
  refine Qi ?_;have k5:=Q8 G;have hsr:=hc.ord _ (Jl G);have hj:=Qgb (a:=R) G;refine Zj (cget c.ord i) λs0 k6=>?_;rw[k6]at k5 hsr hj;have k7:s0=(s0.toNat:Int):=by omega
  have g1:s0.toNat<q.n:=by omega
  have z4:yL R.ed s0.toNat=Zu R.ed s0:=by unfold yL;rw[←k7]
  have hV:=ku s0.toNat g1;rw[z4]at hV;have z9:=JY R.ed s0;have k8:∀e∈Zu R.ed s0,0≤e.2.2∧e.2.2<q.a.st:=λe he=>⟨(gz e (Zx he).1).2.2.1,(gz e (Zx he).1).2.2.2⟩;refine Zj (Zu R.ed s0) λos hos=>?_;rw[hos]at hV z9 k8 hj;refine Qg<|Qh<|Qg<|Qc<|Qb<|Qb<|Qb<|xii (i:=i) hT O O G λa87 k9=>?_;rw[k5]at k9
  refine x (Qv k9 O)<|x (QS (i:=s0.toNat) O (congrArg (Value.int .i64) k7) g1)<|x (Qd (u:=rv s0.toNat) (hJ.step I.st qc) O (VZ g1))<|x (Qr (hV.st I.st) O)<|Qb<|xe<|Qh<|Qz (α:=Nat×Cs×List (Int×Value)×Value×Value) [(9,9),(12,14),(92,126)] (λz=>[(9,z.2.2.2.1),(92,.int .i64 z.1)])
   (λz w'=>Kz b4 mb r2 E z.2.1 z.2.2.1 z.2.2.2.1 vk z.2.2.2.2 w'∧z.1≤os.length∧VR q.a.st z.2.1∧z.2.1.mk'=c.mk'∧z.2.1.ed.length=c.ed.length+z.1∧(∃r,z.2.1.ord=c.ord++r)∧(os.drop z.1).foldl (Zk i) z.2.1=os.foldl (Zk i) c) (λz=>os.length - z.1) (by rfl) (0,c,m,vo,ve) ⟨O,O,Z⟩
   ⟨I,Ll _,hc,O,O,⟨[],by simp⟩,rfl⟩ ?_
  rintro⟨k4,d,m4,hW,hX⟩ g ho ⟨hh,hk4,J,g2,ma,hY,h3⟩;simp only[]at hh hk4 J g2 ma hY h3;have hcle4:=J.le;have hoA4:=Qt.ints (L:=[]) hh.o (by omega) (by simp);have g3:i<d.ord.length:=by obtain⟨r,hr⟩:=hY;rw[hr,Lj];omega
  have mc:cget d.ord i=s0:=by obtain⟨r,hr⟩:=hY;rw[hr,yd G];exact k6
  refine Qc<|x (QA O O)<|xe<|Qg<|QC O (λh93=>?_) (λh93=>?_)
  ·refine Qy ?_;rw[Lv (by omega),Nq]at h3;rw[←h3]at hj;have mf:=p9.st hh.st;have hg4:d.ord[i]'g3=s0:=by rw[Q8 g3];exact mc
   have hmkC:ZW R i d=if s0∈q.a.mr then⟨d.ord,d.num,d.mk'++[(i:Int)],d.ed⟩else d:=by
    unfold ZW;rw[Vg,LU,mc,kz]
   rw[hmkC]at hj;have hZ:YP R (q.n - (i+1)) (i+1) (qk R i c)=YP R q.n 0 (ZK R):=by
    rw[←g0];obtain⟨t,ht⟩:∃t,q.n - i=t+1:=⟨q.n - i - 1,by omega⟩;rw[ht,YP,if_pos G,show q.n - (i+1)=t by omega]
   have hm4l:=congrArg List.length g2;refine Qg<|QU (Step [] ho) [(0,true),(1,true),(2,true),(3,true),(4,true),(5,true),(6,true),(7,true),(8,true),(9,false)] mixed (by rfl) (by kernel_rfl) (Step.drew _ _) ?_;refine p (λ_=>Qk)<|p (λ_=>QE O)<|p (λ_=>Qa O)<|p (λ_=>Qa O)<|pq (λ_ hc=>Qd (mf.B.ext hc) O O)<|p (λ_=>Qk) <|
    p (λ_=>Qk)<|pii (i:=i) O hoA4 O O g3 λa134 mg=>?_
   rw[hg4]at mg;refine pq (λ_ hc=>Qv (mg.ext hc) O)<|pk<|xf<|(Yl (mf.a.mr.ext (Step.drew _ _)) s0).mono ?_;rintro r16 w16 ⟨rfl,rfl⟩;refine⟨Step.drew _ _,pe ?_⟩;have hf:=hh.ext (Step.drew [] ho);refine QC O (λg4=>?_) (λg4=>?_)
   ·rw[if_neg g4]at hj;refine Qi<|Qw<|Qb<|QP O O<|Qf ?_;rw[hj]at hZ;exact⟨(i+1,d,m4,hW,vk,hX),by simp only[];omega,⟨O,O,Z⟩,hf,by simp only[];omega,J,by simp only[];omega,by simp only[];omega,hZ⟩
   rw[if_pos g4]at hj;refine Qw<|x (Qa O)<|x (Qd hf.B4 O O)<|Qb<|xl O<|QG (us:=[[.int .i64 i]]) O O (by decide) (by simp) ⟨rfl,rfl,Z⟩ λb140 w17 hs17 hb140 hB140=>?_;have hK:=hf.ext hs17;refine xl O<|Q4 (news:=[.int .i64 i]) (L:=[]) hK.k O O O (hB140.at (by simp)) (by simp[Value.oneCell']) (by omega) hK.st.size λmh w18 mj mo hn18=>?_
   have hk18:Qt 3 E.heap.size w18 mh (d.mk'++[(i:Int)]):=Qt.snoc mj;refine x (Qa O)<|xl O<|QF (hK.B4.step mo (Q0 hK.k hH)) O O (by simp) (QQ mj) λw19 hs19 hB19=>xe ?_;have hI19:=hK.setK hH hS gx mo hk18 hn18 hs19 hB19;refine Qw<|Qb<|QP O O<|Qf ?_;rw[hj]at hZ
   exact⟨(i+1,⟨d.ord,d.num,d.mk'++[(i:Int)],d.ed⟩,m4,hW,mh,hX),by simp only[];omega,⟨O,O,Z⟩,hI19,by simp only[];omega,⟨J.nl,J.sum,J.ord,J.num,J.el⟩,by simp only[List.length_append,List.length_singleton];omega,by simp only[];omega,hZ⟩
  refine Qi ?_;have ga:k4<os.length:=by omega
  have hdr:=Q5 ga;rw[hdr,LM]at h3;have g5:=k8 _ (Lc ga);refine Zj (os[k4]'ga) λe he=>?_;rw[he]at h3 g5;have gb:e.2.2=(e.2.2.toNat:Int):=by omega
  have gc:e.2.2.toNat<d.num.length:=by rw[J.nl];omega
  have mq:=hh.nm e.2.2.toNat gc;rw[←gb]at mq;have ms:Zq d.num e.2.2=cget d.num e.2.2.toNat:=rfl;refine Qg<|Qh<|Qc<|xie (hV.st hh.st) O O ga λa94 mt=>?_;rw[he]at mt;refine x (QI mt O O)<|xl O<|Qu (us:=[.int .i64 0,.int .i64 0,.int .i64 0]) O λg6 w20 hs20 g7 hg=>xl O<|Qn (us:=QB e) hg O O O O ⟨O,O,O,Z⟩ λge hs21 hg=>xe ?_;have mu:Step [] ho ge:=hs20.then1 hs21 g7
  have hf:=hh.ext mu;have hl12:=hg.lt;have hz21:=mu.size;have hIz:=hh.st.size;have hc5:VR q.a.st (Zk i d e):=QbA J g5.1 g5.2 (by have:=J.el;omega);have mv:Zk i d e=⟨(Z8 d e).ord,(Z8 d e).num,(Z8 d e).mk',(Z8 d e).ed++[((i:Int),e.2.1,Zq (Z8 d e).num e.2.2)]⟩:=qT gc
  refine QX (α:=Value) [(13,14),(96,102)] (λz=>[(13,.int .i64 (if cget d.num e.2.2.toNat<0 then 0 else cget d.num e.2.2.toNat)),(14,.bool (!decide (cget d.num e.2.2.toNat<0)))]) (λz w'=>w'=ge) (by rfl) ?_ ?_
  ·refine Qw<|Qb<|x (Qa O)<|x (Qd hg O O)<|x (v:=.tuple #[.int .i64 (if cget d.num e.2.2.toNat<0 then 0 else cget d.num e.2.2.toNat),.bool (!decide (cget d.num e.2.2.toNat<0))]) ((KK (k:=e.2.2) hf.M O O).trans (congrArg (λv=>Result.ok (Next.value v) _) ?_))<|Qb<|x (Qj O O)<|x (Qj O O)<|x Qe<|Qf ?_
   ·rw[mq];by_cases hp:cget d.num e.2.2.toNat<0
    ·simp[hp]
    simp[hp]
   exact⟨.bool true,⟨O,O,Z⟩,O⟩
  rintro z5 g ge rfl;refine QX (α:=Value×List (Int×Value)×Int) [(9,9),(13,13),(103,115)] (λz=>[(9,z.1),(13,.int .i64 z.2.2)]) (λz w'=>cget (Z8 d e).num e.2.2.toNat=z.2.2∧Kz b4 mb r2 E (Z8 d e) z.2.1 z.1 vk hX w'∧QT w'.heap g6 129 (QB e)∧ge.heap.size≤w'.heap.size) (by rfl) ?_ ?_
  ·refine Qc<|Qb<|x (Zt O)<|xe<|QZ O (λg8=>?_) (λg8=>?_)
   ·have hp:cget d.num e.2.2.toNat<0:=by simpa using g8
    have hL:Z8 d e=⟨d.ord++[e.2.2],d.num.set e.2.2.toNat d.ord.length,d.mk',d.ed⟩:=by unfold Z8;rw[ms,if_pos hp]
    have hcg:cget (Z8 d e).num e.2.2.toNat=(d.ord.length:Int):=by rw[hL];unfold cget;simp[List.getD,gc]
    refine Qc<|Qb<|x (Qr (Qt.ints (L:=[]) hf.o (by omega) (by simp)) rfl)<|Qf<|Qc<|Qb<|x (Qa rfl)<|x (Qd hg rfl rfl)<|Qb<|xl rfl<|YR (k:=e.2.2) hf.M rfl rfl λw22 g9 hM22=>xe ?_;have mw:=hf.nm.set gc (v:=(d.ord.length:Int)) (by omega);rw[←gb]at mw;have hI6:=hf.setN hS gx g9 hM22 mw;have gg:=hg.step g9 (by simp;omega)
    refine Qw<|Qb<|x (Qa O)<|x (Qd gg O O)<|xl O<|QG (us:=[[.int .i64 e.2.2]]) O O (by decide) (by simp) ⟨rfl,rfl,Z⟩ λb114 w23 ka hb114 hB114=>?_;have kb:=hI6.ext ka;refine xl O<|Q4 (news:=[.int .i64 e.2.2]) (L:=[]) kb.o O O O (hB114.at (by simp)) (by simp[Value.oneCell']) (by show d.ord.length+1≤_;omega) kb.st.size λmy w24 ho24 U hn24=>Qf ?_
    have hk24:Qt 3 E.heap.size w24 my (d.ord++[e.2.2]):=Qt.snoc ho24;have hb12o:g6∉ob hW:=λhb=>by have:=QY hh.o g6 hb;omega
    have h4:=kb.setO hH hS U hk24 hn24;have:=g9.size;have:=ka.size;have:=U.size;refine⟨(my,mput m4 e.2.2 (.int .i64 d.ord.length),(d.ord.length:Int)),⟨O,O,Z⟩,hcg,?_,(gg.ext ka).step U hb12o,by omega⟩;simp only[];rw[hL];exact h4
   have hp:¬cget d.num e.2.2.toNat<0:=by simpa using g8
   have hL:Z8 d e=d:=by unfold Z8;rw[ms,if_neg hp]
   have kh:(if cget d.num e.2.2.toNat<0 then 0 else cget d.num e.2.2.toNat)=cget (Z8 d e).num e.2.2.toNat:=by rw[hL,if_neg hp]
   refine Qi<|⟨(hW,m4,if cget d.num e.2.2.toNat<0 then 0 else cget d.num e.2.2.toNat),⟨O,O,Z⟩,kh.symm,?_,hg,Lu _⟩
   rw[hL];exact hf
  rintro⟨vo5,m5,tn⟩ g w25 ⟨mz,h4,gg,hz25⟩;simp only[]at h4 mz;have m0:(Z8 d e).ed=d.ed:=by unfold Z8;split <;> rfl
  have hgN:Zq (Z8 d e).num e.2.2=cget (Z8 d e).num e.2.2.toNat:=rfl;rw[hgN,m0,mz]at mv;have heN:Ya 129 E.heap.size w25 hX d.ed:=by have:=h4.e;rw[m0]at this;exact this
  refine Qw<|x (Qa O)<|x (Qd h4.B4 O O)<|Qb<|x (Qa O)<|x (Qd gg O O)<|Qb<|x (QM ⟨O,O,O,Z⟩) <|
   xl rfl<|QG (us:=[QB ((i:Int),e.2.1,tn)]) O O (by decide) (by exact(by decide:1*3≤1000000)) ⟨O,O,Z⟩ λb123 w26 m1 hb123 hB123=>?_
  have gh:=h4.ext m1;refine xl O<|Q4 (m:=1) (news:=QB ((i:Int),e.2.1,tn)) (L:=[]) (Qs heN m1) O O O (hB123.at (by simp)) (λu hu=>by simp only[QB,List.mem_cons,List.not_mem_nil,or_false]at hu;rcases hu with rfl|rfl|rfl <;> rfl) (by have:=J.el;omega) gh.st.size λm2 w27 m3 m6 hn27=>?_
  have hk27:Ya 129 E.heap.size w27 m2 (d.ed++[((i:Int),e.2.1,tn)]):=Ya.snoc m3;refine x (Qa O)<|xl O<|QF (gh.B4.step m6 (Q0 gh.e hH)) O O (by simp) (QQ m3) λw28 hs28 hB28=>xe ?_;have m7:=gh.setE hH hS gx m6 hk27 hn27 hs28 hB28;rw[←mv]at m7;refine Qw<|QP O O<|Qb<|xe<|⟨(k4+1,Zk i d e,m5,vo5,m2),by simp only[];omega,⟨O,O,Z⟩,m7,by simp only[];omega,hc5,?_,?_,?_,h3⟩
  ·simp only[];rw[←g2];exact(QbB i d [] e).2
  ·simp only[];rw[QbC,ma];omega
  simp only[];obtain⟨r1,h1⟩:=jb i d e;obtain⟨r2',h2⟩:=hY;exact⟨r2'++r1,by rw[h1,h2,LA]⟩
 refine Qi ?_;have G:k<q.a.ed.length:=by have hQ:(k:Int)<(q.a.ed.length:Int):=gs;omega
 have m8:=hq.ok.ed _ (Lc G);have htk:q.a.ed.take (k+1)=q.a.ed.take k++[q.a.ed[k]'G]:=Li G;have h5:(q.a.ed.take (k+1)).filter (λe=>lft lf e.2.2)=(q.a.ed.take k).filter (λe=>lft lf e.2.2)++if lft lf (q.a.ed[k]'G).2.2=true then[q.a.ed[k]'G]else[]:=by
  rw[htk,L8];congr 1;by_cases h:lft lf (q.a.ed[k]'G).2.2=true
  ·simp[h]
  simp[h]
 have hfll:((q.a.ed.take k).filter (λe=>lft lf e.2.2)).length≤k:=LL (Mg _ _) (by rw[LC];omega);refine Zj ((q.a.ed.take k).filter (λe=>lft lf e.2.2)) λkept hkept=>?_;rw[hkept]at h5 V hfll;refine Zj (q.a.ed[k]'G) λe he=>?_;rw[he]at m8 h5;have m9:e.1=(e.1.toNat:Int):=by omega
 have gb:e.2.2=(e.2.2.toNat:Int):=by omega
 have gm:=UO (l:=lf) (s:=e.2.2) (by omega);have hv:e.1.toNat<q.n:=by omega
 refine Qg<|Qh<|Qc<|xie kp.a.ed O O G λa52 hQ=>?_;rw[he]at hQ;refine x (QI hQ O O)<|xl O<|Qu (us:=[.int .i64 0,.int .i64 0,.int .i64 0]) O λb7 w8 gt hb7 h6=>xl O<|Qn (us:=QB e) h6 O O O O ⟨O,O,O,Z⟩ λE gu h6=>xe ?_;have H:Step [] w7 E:=gt.then1 gu hb7;have p6:=H.size;have hA9:=kp.ext H;have hB9:=hB.ext (gr.trans H);have kc:=V.ext H;have hJ:=gq.ext H
 refine Qg<|QU (Step [] E) [(0,true),(1,true),(2,true),(3,true),(4,true),(5,true),(6,true),(7,true)] mixed (by rfl) (by kernel_rfl) (Step.drew _ _) ?_;refine p (λ_=>Qk)<|p (λ_=>QE O)<|p (λ_=>Qa O)<|pq (λ_ hc=>Qd (hA9.B.ext hc) O O)<|p (λ_=>Qa O)<|pq (λ_ hc=>Qd (h6.ext hc) O O) <|
  p (λ_=>QS (i:=e.2.2.toNat) O (congrArg (Value.int .i64) gb) (by omega))<|pq (v:=.bool (lft lf e.2.2)) (λ_ hc=>(JA (i:=e.2.2.toNat) (hB9.ext hc) O (by omega)).trans (by rw[gm]))<|pe ?_
 have h7:Step [] E { E with drawn:=E.drawn+1 }:=Step.drew _ _
 refine QZ rfl (λke=>?_) (λke=>?_)
 ·rw[if_pos ke]at h5;have hrow:=kc.own _ hv;have kf:∀b∈ob (rv e.1.toNat),w6.heap.size≤b∧b<w7.heap.size:=λb hb=>⟨(Qq (V.own _ hv) b hb).1,QY (V.own _ hv) b hb⟩;have pa:bE∉ob (rv e.1.toNat):=λhb=>by have:=kf _ hb;omega
  have kg:b7∉ob (rv e.1.toNat):=λhb=>by have:=kf _ hb;omega
  have kq:=QbM kept e.1.toNat;refine QU (Step (ob (rv e.1.toNat)) E) [(0,true),(1,true),(2,true),(3,true),(4,true),(5,true),(6,true),(7,true),(8,true),(9,false),(10,false),(11,true),(12,false)] mixed (by rfl) (by kernel_rfl) (h7.any.trans' (Step.drew _ _)) ?_;refine p (λ_=>Qk)<|p (λ_=>Qa O)<|pq (λ_ hc=>Qd (h6.step hc kg) O O)<|p (λ_=>Qk)<|p (λ_=>Qa O) <|
   pq (λ_ hc=>Qd (h6.step hc kg) O O)<|p (λ_=>QS (i:=e.1.toNat) O (congrArg (Value.int .i64) m9) hv)<|pq (λ_ hc=>Qd (u:=rv e.1.toNat) (hJ.step hc pa) O (VZ hv)) <|
   pq (λ_ hc=>Qo (h6.step hc kg) O O)<|pk<|QG (us:=[QB e]) O O (by decide) (by exact(by decide:1*3≤1000000)) ⟨O,O,Z⟩ λb71 gv hy hb71 hB71=>⟨(h7.any.trans' (Step.drew _ _)).trans' hy.any,?_⟩
  have h8:Step [] E gv:=(h7.trans (Step.drew _ _)).trans hy;have hz10:=h8.size;refine pk<|Q4 (m:=1) (news:=QB e) (L:=[]) (Qs hrow h8) O O O (hB71.at (by simp)) (λu hu=>by simp only[QB,List.mem_cons,List.not_mem_nil,or_false]at hu;rcases hu with rfl|rfl|rfl <;> rfl) (by omega) (by omega) λvr j2 pc gi hn11=>⟨h8.any.trans' gi,?_⟩
  have hBE11:=(hJ.ext h8).step gi pa;have hlen:((List.range q.n).map rv).length=q.n:=by simp
  refine p (λ_=>QS (i:=e.1.toNat) O (congrArg (Value.int .i64) m9) hv)<|pkl (hl:=by kernel_rfl)<|QF (j:=0+e.1.toNat*1) (u:=vr) hBE11 O O (by rw[hlen];omega) (QQ pc) λho ha hBE12=>pe ?_;have g7:QT ho.heap bE 48 ((List.range q.n).map (Kw rv e.1.toNat vr)):=by
   have e1:=Qbp id q.n rv e.1.toNat vr;simp only[id]at e1;rw[←e1];simpa using hBE12
  have hvn:∀b∈ob vr,b∈ob (rv e.1.toNat)∨E.heap.size≤b:=λb hb=>(hn11 b hb).imp id (λh=>by omega);have pd:=kc.app hv (Ya.snoc pc) (h8.any.trans' gi) hvn;have pf:=pd.step ha (λi hi b hb=>by have:=(Qq (pd.own i hi) b hb).1;simp only[List.mem_singleton];omega);rw[Qga kept e m8.1,←h5]at pf;refine Qw<|QP O O<|Qb<|xe ?_
  exact⟨(k+1,Kw rv e.1.toNat vr),by simp only[];omega,La,G,(((hP.trans H).trans h8).then gi (λb hb=>.inr (kf b hb).1)).trans' ha,g7,pf⟩
 rw[if_neg (by rw[ke];decide),LO]at h5;refine Qi<|Qw<|QP O O<|Qb<|xe ?_;exact⟨(k+1,rv),by simp only[];omega,La,G,(hP.trans H).trans h7,(hJ.ext h7),by simp only[];rw[h5];exact kc.ext h7⟩
open Go.Sort
abbrev Rz:={ x:Int×Int×Int×Int // 0≤x.1∧x.1<4096 }
instance:Inhabited Rz:=⟨⟨(0,0,0,0),by decide⟩⟩
abbrev q5 (x:Rz):LV:=[.int .i64 x.1.1,.int .i64 x.1.2.1,.int .i64 x.1.2.2.1,.int .i64 x.1.2.2.2]
abbrev RzO (base:Nat)(w:World)(v:Value)(l:List Rz):Prop:=w.ownsRow base 269 4 v l.length (l.flatMap q5)
set_option maxHeartbeats 1000000 in
theorem Qp4 (x y:Rz)(W:World):Calls prog 149 #[.agg (q5 x).toArray,.agg (q5 y).toArray] W λe w'=>e=.returned (.int .i64 (x.1.1 - y.1.1))∧∃q os',w'=grow (W.drewN q) os':=by
 have E:IntKind.i64.wrap (x.1.1 - y.1.1)=x.1.1 - y.1.1:=Xu ⟨by have:=x.2;have:=y.2;omega,by have:=x.2;have:=y.2;omega⟩
 go_enter func149,ntmps149
 go_wp2
 go_ret;exact⟨by rw[←E];rfl,0,_,by rw[alloc_eq_grow,alloc_eq_grow,grow_grow];rfl⟩
theorem Qac (x:Rz):(q5 x).length=4:=rfl
theorem Qab:∀l:List Rz,(l.flatMap q5).length=l.length*4
 | []=>rfl
 | x::l=>by rw[LW,Lj,Qab l,Qac,LF];omega
theorem QeE {l:List Rz}{j:Nat}(hj:j<l.length*4):(l.flatMap q5)[j]?=some ((flatK q5 4 l.toArray)[j]!):=by
 have h1:j / 4<l.length:=Nat.div_lt_of_lt_mul (by omega);have h2:j % 4<4:=Nat.mod_lt _ (by decide);rw[get_flatK _ _ _ _ (by simpa using hj)];have h3:=JH q5 4 Qac l (j / 4) h1;have h4:(l.flatMap q5)[j]?=(q5 (l[j / 4]'h1))[j % 4]?:=by
  rw[←h3,Ms,if_pos h2,M4];congr 1;omega
 rw[h4];have h5:(l.toArray)[j / 4]! = l[j / 4]'h1:=by simp[h1]
 rw[h5];have h6:j % 4<(q5 (l[j / 4]'h1)).length:=h2;exact(LE h6).trans (congrArg some (getElem!_pos (q5 (l[j / 4]'h1)) (j % 4) h6).symm)
theorem QnK:SWO (ltOf λx y:Rz=>x.1.1 - y.1.1) where
 irrefl x:=by unfold ltOf;simp
 trans x y z h1 h2:=by unfold ltOf at *;simp at *;omega
 ntrans x y z h1 h2:=by unfold ltOf at *;simp at *;omega
set_option maxHeartbeats 1000000 in
theorem Qf7 {w:World}{base:Nat}{v:Value}{l:List Rz}(h:RzO base w v l)(hl:l.length≤1099511627776):
  QH prog 148 [v,.func (.func 149) #[] #[]] w λ_ w'=>Step (ob v) w w'∧∃l',l'.length=l.length∧RzO base w' v l':=by
 unfold QH;rcases h.2 with⟨rfl,V⟩|⟨g,cap,cur,rfl,Y,G,ha,hb,hf,hh⟩
 ·have hm:l=[]:=Lr V;subst hm;have hc:=AnyF.slices_SortFunc_none Tryz.sortRm none 0 (.func (.func 149) #[] #[]) w;change Calls prog 148 _ _ _ at hc;refine Calls.mono hc λe w' he=>?_;obtain⟨rfl,rfl⟩:=he;exact⟨Step.refl _ _,[],O,h⟩
 have J:g<w.heap.size:=(LH.1 G).1;have hH:HoldsK q5 4 w g 0 l.toArray:=by
  intro j hj;rw[size_flatK,MJ]at hj;have h1:=QeE hj;rw[←hh,Ms,if_pos hj]at h1;constructor
  ·show(match w.heap[g]? with|some (.cells c _ _)=>if(none:Option _).isSome then none else c[0+j]?|_=>none)=_
   rw[G];simp only[Nat.zero_add,Option.isSome_none,Bool.false_eq_true,if_false];rw[←Array.getElem?_toList,h1];rfl
  show(match w.heap[g]? with|some (.cells _ _ (lo,hi))=>decide (lo≤0+j) && decide (0+j<hi)|_=>false)=false
  rw[G];simp
 have eg:∀args w,(callFunc 149 args).run prog w=.ok (.enter 149 args) w:=enters_of func149 (by kernel_rfl) O;have hc:=AnyQ.slices_SortFunc Tryz.sortRm 4 Tryz.isAgg269 Tryz.sizeOf269 q5 Qac (λx v U=>by simp at U;rcases U with rfl|rfl|rfl|rfl <;> rfl) (λx y=>x.1.1 - y.1.1) QnK 149 #[] g 0 cap l.toArray w eg (λm os dk _ x y=>Qp4 x y _) hH J (by simp;omega)
 change Calls prog 148 _ _ _ at hc;rw[MJ]at hc;refine Calls.mono hc λe w' he=>?_;obtain⟨rfl,E,n,os,hp,_,rfl⟩:=he;have H:E.size=l.length:=by have:=hp.1;simpa using this
 have I:(sortWorldK q5 4 w g 0 n E os).heap=w.heap.modify g (onCells (putCells id 0 (flatK q5 4 E)))++os:=rfl;refine⟨⟨rfl,O,O,?_,λk hk hn=>?_⟩,E.toList,by simpa using H,?_⟩
 ·rw[I,Array.size_append,Array.size_modify];omega
 ·rw[I,Array.getElem?_append,Array.size_modify,if_pos hk,Array.getElem?_modify,if_neg (λe=>hn (by simp[ob,e]))]
 refine⟨Qab _,.inr ⟨g,cap,putCells id 0 (flatK q5 4 E) cur,by simp[H],Y,?_,by simp[H];exact ha,hb,by simp[putCells,hf],?_⟩⟩
 ·rw[I,Array.getElem?_append,Array.size_modify,if_pos J,Array.getElem?_modify,if_pos rfl,G];rfl
 apply List.ext_getElem?;intro j;rw[Ms];by_cases hj:j<E.toList.length*4
 ·rw[if_pos hj,QeE hj,Array.getElem?_toList];have ho:j<cur.size:=by simp[H]at hj;omega
  have hq:j<(flatK q5 4 E).size:=by simpa using hj
  simp only[putCells,Array.getElem?_mapIdx,Array.getElem?_eq_getElem ho,Option.map_some,Nat.zero_le,Nat.zero_add,true_and,if_pos hq,Nat.sub_zero,id]
 rw[if_neg hj,M2];rw[Qab];omega
end Go.Proofs.YtjcgijbhaemldaaGreatDoor
