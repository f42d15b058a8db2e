/- Merged out of 17 texts. -/
import Derived.Test.YtfhgnlkdcdlblaaGreatDoorKed
import Derived.Test.YtfhgnlkdcdlblaaGreatDoorKec
import Derived.Test.YtfhgnlkdcdlblaaGreatDoorKea
import Derived.ChangeSame
import Derived.Carry
import Derived.OpenShut
import Derived.RowKit
import Derived.ChangeSlices
import Derived.WideShapes
import Derived.ProofKit
/- Queues: an owned slice whose head is cut off, and to whose end is appended. -/
namespace Go.Lg
open Go.RowKit

def ownsQ (w : World) (base e sz : Nat) (v : Value) (n : Nat) (cs : List Value) : Prop :=
  cs.length = n * sz ∧ ((v = .slice none 0 0 ∧ n = 0) ∨ ∃ g off cap cur, v = .slice (some ⟨g, off, none⟩) n cap ∧ base ≤ g ∧ w.heap[g]? = some (.cells cur e (0, 0)) ∧ n ≤ cap ∧ cap ≤ maxLen ∧ off + cap * sz ≤ cur.size ∧ (cur.toList.drop off).take (n * sz) = cs)
theorem ownsQ.of_row {w : World} {base e sz n : Nat} {v : Value} {cs : List Value} (h : w.ownsRow base e sz v n cs) : ownsQ w base e sz v n cs :=
  ⟨h.1, h.2.imp id fun ⟨g, cap, cur, h1, h2, h3, h4, h5, h6, h7⟩ => ⟨g, 0, cap, cur, h1, h2, h3, h4, h5, by omega, by simpa using h7⟩⟩
theorem q_step {X : List Nat} {w w' : World} {base e sz n : Nat} {v : Value} {cs : List Value} (h : ownsQ w base e sz v n cs) (hs : Step X w w') (hX : ∀ b ∈ ob v, b ∉ X) : ownsQ w' base e sz v n cs := by
  refine ⟨h.1, h.2.imp id fun ⟨g, off, cap, cur, h1, h2, h3, h4⟩ => ⟨g, off, cap, cur, h1, h2, ?_, h4⟩⟩
  rw [hs.block g (Array.getElem?_eq_some_iff.1 h3).1 (hX g (by rw [h1]; simp [ob]))]; exact h3
theorem q_ext {w w' : World} {base e sz n : Nat} {v : Value} {cs : List Value} (h : ownsQ w base e sz v n cs) (hs : Step [] w w') : ownsQ w' base e sz v n cs := q_step h hs (fun _ _ => by simp)
theorem q_ge {w : World} {base e sz n : Nat} {v : Value} {cs : List Value} (h : ownsQ w base e sz v n cs) : ∀ b ∈ ob v, base ≤ b ∧ b < w.heap.size := by
  intro b hb
  rcases h.2 with ⟨h1, _⟩ | ⟨g, off, cap, cur, h1, h2, h3, _⟩
  · subst h1; simp [ob] at hb
  · subst h1; simp [ob] at hb; subst hb; exact ⟨h2, (Array.getElem?_eq_some_iff.1 h3).1⟩
theorem q_cells {w : World} {g off e n : Nat} {cur : Array Value} {cs : List Value} (h3 : w.heap[g]? = some (.cells cur e (0, 0))) (h7 : (cur.toList.drop off).take n = cs) : ∀ j u, cs[j]? = some u → w.cell? ((⟨g, off, none⟩ : Addr).add j) = some u := by
  intro j u hu
  rw [cel_world, lit_add']
  unfold cel; simp only [h3]
  rw [← h7, List.getElem?_take] at hu
  split at hu
  · simpa using hu
  · cases hu
theorem q_arr {L : List Nat} {w : World} {base e sz n : Nat} {v : Value} {cs : List Value} (h : ownsQ w base e sz v n cs) (hn : n ≤ 1099511627776) (hL : ∀ b ∈ ob v, b ∉ L) : Arr L w.heap v n sz cs := by
  refine ⟨h.1, hn, ?_⟩
  rcases h.2 with h1 | ⟨g, off, cap, cur, h1, h2, h3, h4, h5, h6, h7⟩
  · exact .inl h1
  · exact .inr ⟨_, _, h1, h4, hL g (by rw [h1]; simp [ob]), (Array.getElem?_eq_some_iff.1 h3).1, fun j u hu => q_cells h3 h7 j u hu⟩
section
variable {P : Program} {K : Fr → World → Prop} {f : Fr} {w : World} {d : Option Nat} {ty : Nat} {ps : String} {af : Array Edge} {gd : Option (Nat × Bool)} {ops l : List Oper}
theorem xslQ {t e sz bys : Nat} {z : Value} [h : Sl P t e sz bys z] {x y1 : Operand} {base : Nat} {v : Value} {n : Nat} {cs : List Value} {k : IntKind} {lo : Nat} (hown : ownsQ w base e sz v n cs) (hx : ev f x = v) (hl : ev f y1 = .int k lo) (h1 : lo ≤ n)
    (hK : ∀ v', ownsQ w base e sz v' (n - lo) (cs.drop (lo * sz)) → ob v' = ob v → XL P ops K l (putF f d v') w)
    (hg : gdF ops f ⟨d, .slice t x (some y1) none none, ty, ps, af, gd⟩ = true := by rfl) : XL P ops K (⟨d, .slice t x (some y1) none none, ty, ps, af, gd⟩ :: l) f w := by
  obtain ⟨i, hi', _, hsz, _⟩ := Sl.info h
  rcases hown.2 with ⟨hv, hn⟩ | ⟨g, off, cap, cur, hv, h2, h3, h4, h5, h6, h7⟩
  · have e2 : lo = 0 := by omega
    subst e2 hn hv
    have hcs : cs = [] := List.eq_nil_of_length_eq_zero (by simpa using hown.1)
    subst hcs
    refine xl hg (xv (v := .slice none 0 0) ?_ (hK _ ⟨by simp, .inl ⟨rfl, rfl⟩⟩ rfl))
    simp [execOp, hx, hl, Instr.sliceAt, Instr.slice, run_underlying h.u, Instr.sliceBounds, Instr.sliceBound, asIntOf, sizeOf, typeInfo, hi']
  · subst hv
    have e2 : (Instr.sliceBound (.int k lo) n .sliceB).run P w = .ok lo w := run_sliceBound h1
    have hr : (execOp (ev f) ⟨d, .slice t x (some y1) none none, ty, ps, af, gd⟩).run P w = .ok (.value (.slice (if cap = lo then some ⟨g, off, none⟩ else some ((⟨g, off, none⟩ : Addr).add (lo * sz))) (n - lo) (cap - lo))) w := by
      simp [execOp, hx, hl, Instr.sliceAt, Instr.slice, run_underlying h.u, Instr.sliceBounds, e2, sizeOf, typeInfo, hi', hsz]
    have hlen : (cs.drop (lo * sz)).length = (n - lo) * sz := by rw [List.length_drop, hown.1, ← Nat.sub_mul]
    by_cases hc : cap = lo
    · rw [if_pos hc] at hr
      have hnl : n - lo = 0 := by omega
      refine xl hg (xv hr (hK _ ⟨hlen, .inr ⟨g, off, cap - lo, cur, rfl, h2, h3, by omega, by omega, ?_, ?_⟩⟩ rfl))
      · have : (cap - lo) * sz ≤ cap * sz := Nat.mul_le_mul_right _ (by omega)
        omega
      · rw [hnl] at hlen ⊢
        have : cs.drop (lo * sz) = [] := List.eq_nil_of_length_eq_zero (by simpa using hlen)
        rw [this]; simp
    · rw [if_neg hc, lit_add'] at hr
      refine xl hg (xv hr (hK _ ⟨hlen, .inr ⟨g, off + lo * sz, cap - lo, cur, rfl, h2, h3, by omega, by omega, ?_, ?_⟩⟩ rfl))
      · rw [Nat.sub_mul]
        have : lo * sz ≤ cap * sz := Nat.mul_le_mul_right _ (by omega)
        omega
      · rw [← h7, List.drop_take, List.drop_drop, ← Nat.sub_mul]
theorem run_append_q {base t ty e : Nat} {sz bys : Nat} {z : Value} [h : Sl P t e sz bys z] {v : Value} {n : Nat} {cs : List Value} (hown : ownsQ w base e sz v n cs)
    {a : Addr} {m c : Nat} {news : List Value} (hl : news.length = m * sz) (hm : 0 < m) (hnews : ∀ j u, news[j]? = some u → w.cell? (a.add j) = some u) (h1 : ∀ u ∈ news, u.oneCell' = true)
    (hb : n + m ≤ 1099511627776) (hby : bys ≤ 128) (hbase : base ≤ w.heap.size) :
    ∃ v' w', (Builtin.append_ #[t, t] ty #[v, .slice (some a) m c]).run P w = .ok v' w' ∧ ownsQ w' base e sz v' (n + m) (cs ++ news) ∧ Step (ob v) w w' ∧ (∀ b ∈ ob v', b ∈ ob v ∨ w.heap.size ≤ b) := by
  obtain ⟨i, hi, hz, hsz, hbys⟩ := Sl.info h
  have hbytes : (n + m) * bys ≤ 140737488355328 := Nat.le_trans (Nat.mul_le_mul hb hby) (by omega)
  have h63 : n + m ≤ maxLen := by simp only [maxLen]; omega
  have new : ∀ (old : Nat), ∀ o', o' = (Obj.cells (cs.toArray ++ news.toArray ++ Builtin.zeroCells z.cells (grownCap w (n + m) old e - (n + m))) e) →
        ownsQ (w.drew.alloc o') base e sz (.slice (some ⟨w.heap.size, 0, none⟩) (n + m) (grownCap w (n + m) old e)) (n + m) (cs ++ news) := by
      intro old o' ho'
      subst ho'
      have hge := grownCap_ge w (n + m) old e
      have hcm : grownCap w (n + m) old e ≤ maxLen := grownCap_le_maxLen w (n + m) old e h63
      have hlen : (cs ++ news).length = (n + m) * sz := by rw [List.length_append, hown.1, hl, Nat.add_mul]
      refine ownsQ.of_row ⟨hlen, .inr ⟨w.heap.size, _, _, rfl, hbase, al_new w.drew _, hge, hcm, ?_, ?_⟩⟩
      · simp only [Array.size_append, List.size_toArray, size_zeroCells, h.zs, hown.1, hl, ← Nat.add_mul]
        congr 1; omega
      · simp only [Array.toList_append, List.append_assoc]
        rw [← List.append_assoc, ← hlen]
        exact List.take_left
  have stp : ∀ o', Step (ob v) w (w.drew.alloc o') := fun o' => ⟨rfl, rfl, rfl, by rw [al_size]; exact Nat.le_succ _, fun k hk _ => al_old w.drew o' k hk⟩
  have fin : ∀ (b : Nat), b ∈ ob (.slice (some ⟨w.heap.size, 0, none⟩) (n + m) 0) → b ∈ ob v ∨ w.heap.size ≤ b := fun b hb' => by simp [ob] at hb'; omega
  rcases hown.2 with ⟨rfl, rfl⟩ | ⟨g, off, cap, cur, rfl, hbg, hgg, hnc, hcm, hcs, htake⟩
  · have hx : cs = [] := List.eq_nil_of_length_eq_zero (by simpa using hown.1)
    subst hx
    have hr := run_append_nil (P := P) w t ty e i z h.u hi hz a m c news (by rw [hsz]; exact hl) hnews hm (by omega) (by rw [hbys]; have hb2 := hbytes; simp only [Nat.zero_add] at hb2; omega)
    have hn := new 0 _ rfl
    simp only [Nat.zero_add, List.nil_append, Array.empty_append] at hn ⊢
    exact ⟨_, _, hr, hn, stp _, fun b hb' => fin b hb'⟩
  · rcases Nat.lt_or_ge cap (n + m) with hroom | hroom
    · have holds := q_cells (w := w) hgg htake
      have hr := run_append_grow (P := P) w t ty e i z h.u hi hz ⟨g, off, none⟩ n cap cs (by rw [hsz]; exact hown.1) holds a m c news (by rw [hsz]; exact hl) hnews hroom (by omega) (growslice_fits hroom (by rw [hbys]; exact hbytes))
      exact ⟨_, _, hr, new cap _ rfl, stp _, fun b hb' => fin b hb'⟩
    · have hfit : off + n * i.size + news.length ≤ cur.size := by
        rw [hl, hsz]
        have : (n + m) * sz ≤ cap * sz := Nat.mul_le_mul_right _ hroom
        rw [Nat.add_mul] at this; omega
      have hf := run_firstCells_some (P := P) w i.size m a m c news (by rw [hsz]; exact hl) hnews
      have hst := run_storeCells_at P g (off + n * i.size) e news 0 cur w hgg (by simpa using hfit) h1
      simp only [Nat.add_zero] at hst
      have hr : (Builtin.append_ #[t, t] ty #[.slice (some ⟨g, off, none⟩) n cap, .slice (some a) m c]).run P w =
          .ok (.slice (some ⟨g, off, none⟩) (n + m) cap) (w.setRow g (cur.toList.take (off + n * i.size) ++ news ++ cur.toList.drop (off + n * i.size + news.length)).toArray) := by
        simp [Builtin.append_, run_underlying h.u, sizeOf, typeInfo, hi, Builtin.lenOf, hroom, hf, lit_add', hst]
      refine ⟨_, _, hr, ⟨by rw [List.length_append, hown.1, hl, Nat.add_mul], .inr ⟨g, off, cap, _, rfl, hbg, setRow_heap w g _ _ e (0, 0) hgg, hroom, hcm, ?_, ?_⟩⟩, ?_, fun b hb' => .inl hb'⟩
      · simp only [List.size_toArray, List.length_append, List.length_take, List.length_drop, Array.length_toList]
        omega
      · have hsz' : cur.toList.length = cur.size := Array.length_toList
        rw [hsz] at hfit ⊢
        have e1 : (cur.toList.take (off + n * sz)).drop off = cs := by
          rw [List.drop_take, show off + n * sz - off = n * sz by omega]; exact htake
        have e2 : (List.toArray (cur.toList.take (off + n * sz) ++ news ++ cur.toList.drop (off + n * sz + news.length))).toList.drop off = cs ++ news ++ cur.toList.drop (off + n * sz + news.length) := by
          show (cur.toList.take (off + n * sz) ++ news ++ cur.toList.drop (off + n * sz + news.length)).drop off = _
          rw [List.append_assoc, List.drop_append_of_le_length (by rw [List.length_take]; omega), e1, List.append_assoc]
        rw [e2]
        have hlen : (cs ++ news).length = (n + m) * sz := by rw [List.length_append, hown.1, hl, Nat.add_mul]
        rw [← hlen]
        exact List.take_left
      · exact Step.setRow w g _
theorem o_appQ {t e sz bys : Nat} {z : Value} [h : Sl P t e sz bys z] {s y : Operand} {base : Nat} {v : Value} {n : Nat} {cs : List Value} (hown : ownsQ w base e sz v n cs) (hs : ev f s = v)
    {a : Addr} {m c : Nat} {news : List Value} (hy : ev f y = .slice (some a) m c) (hl : news.length = m * sz) (hm : 0 < m) {L : List Nat} (hsrc : At L w.heap a news) (h1 : ∀ u ∈ news, u.oneCell' = true)
    (hb : n + m ≤ 1099511627776) (hbase : base ≤ w.heap.size)
    (hK : ∀ v' w', ownsQ w' base e sz v' (n + m) (cs ++ news) → Step (ob v) w w' → (∀ b ∈ ob v', b ∈ ob v ∨ w.heap.size ≤ b) → K (putF f d v') w') (hby : bys ≤ 128 := by decide) :
    XO P ⟨d, .call ⟨.builtin .append, #[s, y], #[t, t]⟩, ty, ps, af, gd⟩ f w K := by
  obtain ⟨v', w', hr, h2, h3, h4⟩ := run_append_q (P := P) (t := t) (ty := ty) hown hl hm hsrc.cells h1 hb hby hbase (c := c)
  have hr' : (execOp (ev f) ⟨d, .call ⟨.builtin .append, #[s, y], #[t, t]⟩, ty, ps, af, gd⟩).run P w = .ok (.value v') w' := by
    simp [execOp, resolve, invoke, builtin, hs, hy, hr]
  exact xv hr' (hK v' w' h2 h3 h4)
end
abbrev IntsQ (e base : Nat) (w : World) (v : Value) (l : List Int) : Prop := ownsQ w base e 1 v l.length (l.map (.int .i64))
theorem IntsQ.snoc {e base : Nat} {w : World} {v : Value} {l : List Int} {n : Int} (h : ownsQ w base e 1 v (l.length + 1) (l.map (Value.int .i64) ++ [.int .i64 n])) : IntsQ e base w v (l ++ [n]) := by
  unfold IntsQ; simpa using h
theorem IntsQ.tail {e base : Nat} {w : World} {v : Value} {s : Int} {l : List Int} (h : ownsQ w base e 1 v ((s :: l).length - 1) (((s :: l).map (Value.int .i64)).drop (1 * 1))) : IntsQ e base w v l := by
  unfold IntsQ; simpa using h
end Go.Lg
/- reach.backward: the distances to some states, as plain functions; rows of lists that grow. -/
namespace Go.Proofs.YtfhgnlkdcdlblaaGreatDoor
open Go.Lg

/-! ### Rows -/
def updF {α : Type} (f : Nat → α) (i : Nat) (x : α) : Nat → α := fun j => if j = i then x else f j
theorem updF_same {α : Type} (f : Nat → α) (i : Nat) (x : α) : updF f i x i = x := by simp [updF]
theorem updF_ne {α : Type} (f : Nat → α) {i j : Nat} (x : α) (h : j ≠ i) : updF f i x j = f j := by simp [updF, h]
theorem updF_map {α β : Type} (k : α → β) (n : Nat) (f : Nat → α) (i : Nat) (x : α) : ((List.range n).map fun j => k (f j)).set i (k x) = (List.range n).map fun j => k (updF f i x j) := by
  apply List.ext_getElem
  · simp
  · intro j h1 h2
    rw [List.getElem_set]
    by_cases e : i = j
    · subst e; simp [updF_same]
    · rw [if_neg e]; simp [updF_ne _ _ (Ne.symm e)]
structure RowsF (base : Nat) (w : World) (n : Nat) (f : Nat → Value) (g : Nat → List Int) : Prop where
  own : ∀ i, i < n → IntsO 3 base w (f i) (g i)
  dj : ∀ i j, i < n → j < n → i ≠ j → Dj (f i) (f j)
theorem RowsF.app {base n i : Nat} {w w' : World} {f : Nat → Value} {g : Nat → List Int} {v' : Value} {l : List Int} (h : RowsF base w n f g) (hi : i < n) (ho : IntsO 3 base w' v' l) (hs : Step (ob (f i)) w w')
    (hn : ∀ b ∈ ob v', b ∈ ob (f i) ∨ w.heap.size ≤ b) : RowsF base w' n (updF f i v') (updF g i l) := by
  refine ⟨fun j hj => ?_, fun j k hj hk hjk => ?_⟩
  · by_cases e : j = i
    · subst e; rw [updF_same, updF_same]; exact ho
    · rw [updF_ne _ _ e, updF_ne _ _ e]
      exact own_step (h.own j hj) hs (h.dj j i hj hi e)
  · have key : ∀ j, j < n → j ≠ i → Dj v' (f j) := fun j hj e b hb hbj => by
      rcases hn b hb with h1 | h1
      · exact h.dj i j hi hj (Ne.symm e) b h1 hbj
      · have := own_lt (h.own j hj) b hbj; omega
    by_cases e1 : j = i
    · subst e1
      rw [updF_same, updF_ne _ _ (Ne.symm hjk)]
      exact key k hk (Ne.symm hjk)
    · rw [updF_ne _ _ e1]
      by_cases e2 : k = i
      · subst e2; rw [updF_same]; exact (key j hj e1).symm
      · rw [updF_ne _ _ e2]; exact h.dj j k hj hk hjk
theorem RowsF.step {base n : Nat} {X : List Nat} {w w' : World} {f : Nat → Value} {g : Nat → List Int} (h : RowsF base w n f g) (hs : Step X w w') (hX : ∀ i, i < n → ∀ b ∈ ob (f i), b ∉ X) : RowsF base w' n f g :=
  ⟨fun i hi => own_step (h.own i hi) hs (hX i hi), h.dj⟩
theorem RowsF.ext {base n : Nat} {w w' : World} {f : Nat → Value} {g : Nat → List Int} (h : RowsF base w n f g) (hs : Step [] w w') : RowsF base w' n f g := h.step hs (fun _ _ _ _ => by simp)

/-! ### Plain -/
/-- The states from which an edge leads to s. -/
def intoL (es : List Ed) (s : Nat) : List Int := (es.filter fun e => decide (e.2.2 = (s : Int))).map (·.1)
theorem intoL_snoc (es : List Ed) (e : Ed) (h0 : 0 ≤ e.2.2) : ∀ s, updF (intoL es) e.2.2.toNat (intoL es e.2.2.toNat ++ [e.1]) s = intoL (es ++ [e]) s := by
  intro s
  unfold intoL
  rw [List.filter_append, List.map_append]
  by_cases h : s = e.2.2.toNat
  · subst h
    rw [updF_same]
    have : e.2.2 = (e.2.2.toNat : Int) := by omega
    simp [← this]
  · rw [updF_ne _ _ h]
    have : ¬ e.2.2 = (s : Int) := by omega
    simp [this]
theorem intoL_mem {es : List Ed} {s : Nat} {p : Int} (h : p ∈ intoL es s) : ∃ e ∈ es, e.1 = p ∧ e.2.2 = (s : Int) := by
  unfold intoL at h
  simp only [List.mem_map, List.mem_filter, decide_eq_true_eq] at h
  obtain ⟨e, ⟨h1, h2⟩, h3⟩ := h
  exact ⟨e, h1, h3, h2⟩
theorem intoL_len (es : List Ed) (s : Nat) : (intoL es s).length ≤ es.length := by
  unfold intoL; rw [List.length_map]; exact List.length_filter_le _ _
def bwE (s : Int) (st : List Int × List Int) (p : Int) : List Int × List Int := if cget st.1 p.toNat < 0 then (st.1.set p.toNat (cget st.1 s.toNat + 1), st.2 ++ [p]) else st
def bwL (es : List Ed) : Nat → List Int → List Int → List Int
  | 0, o, _ => o
  | _ + 1, o, [] => o
  | f + 1, o, s :: q => bwL es f ((intoL es s.toNat).foldl (bwE s) (o, q)).1 ((intoL es s.toNat).foldl (bwE s) (o, q)).2
def bw0 (n : Nat) (to : List Int) : List Int := (List.range n).map fun i : Nat => if (i : Int) ∈ to then 0 else -1
/-- The distances (-1: never). -/
def bwd (n : Nat) (es : List Ed) (to : List Int) : List Int := bwL es (n + to.length) (bw0 n to) to
theorem bwL_nil (es : List Ed) (f : Nat) (o : List Int) : bwL es f o [] = o := by cases f <;> rfl
/-- What holds of the search. -/
structure BwOk (n : Nat) (o q : List Int) : Prop where
  len : o.length = n
  q : ∀ x ∈ q, 0 ≤ x ∧ x < (n : Int)
  le : ∀ x ∈ o, -1 ≤ x ∧ x + (neg o : Int) ≤ n
theorem neg_le (l : List Int) : neg l ≤ l.length := List.length_filter_le _ _
theorem bwE_ok {n : Nat} {s p : Int} {st : List Int × List Int} (h : BwOk n st.1 st.2) (hs : 0 ≤ s ∧ s < (n : Int)) (hos : 0 ≤ cget st.1 s.toNat) (hp : 0 ≤ p ∧ p < (n : Int)) :
    BwOk n (bwE s st p).1 (bwE s st p).2 ∧ neg (bwE s st p).1 + (bwE s st p).2.length = neg st.1 + st.2.length ∧ 0 ≤ cget (bwE s st p).1 s.toNat := by
  unfold bwE
  have hl := h.len
  have hpl : p.toNat < st.1.length := by omega
  have hsl : s.toNat < st.1.length := by omega
  by_cases hc : cget st.1 p.toNat < 0
  · rw [if_pos hc]
    have hc' : st.1[p.toNat]'hpl < 0 := by rw [cget_eq hpl]; exact hc
    have hv := h.le _ (cget_mem hsl)
    have hng := neg_set st.1 p.toNat (cget st.1 s.toNat + 1) hpl hc' (by omega)
    refine ⟨⟨by simp [hl], fun x hx => ?_, fun x hx => ?_⟩, ?_, ?_⟩
    · simp only [List.mem_append, List.mem_singleton] at hx
      rcases hx with hx | rfl
      · exact h.q x hx
      · exact hp
    · simp only [] at hx ⊢
      rcases List.mem_or_eq_of_mem_set hx with h1 | h1
      · have := h.le x h1; omega
      · subst h1; omega
    · simp only [List.length_append, List.length_singleton]; omega
    · simp only []
      have hne : s.toNat ≠ p.toNat := fun e => by rw [e] at hos; omega
      have : cget (st.1.set p.toNat (cget st.1 s.toNat + 1)) s.toNat = cget st.1 s.toNat := by
        unfold cget; simp [List.getD, List.getElem?_set_ne (Ne.symm hne)]
      rw [this]; exact hos
  · rw [if_neg hc]
    exact ⟨h, rfl, hos⟩
theorem bw0_len (n : Nat) (to : List Int) : (bw0 n to).length = n := by simp [bw0]
theorem bw0_ok {n : Nat} {to : List Int} (h : ∀ x ∈ to, 0 ≤ x ∧ x < (n : Int)) : BwOk n (bw0 n to) to := by
  refine ⟨bw0_len n to, h, fun x hx => ?_⟩
  have hn := neg_le (bw0 n to)
  rw [bw0_len] at hn
  unfold bw0 at hx
  simp only [List.mem_map] at hx
  obtain ⟨i, _, rfl⟩ := hx
  split <;> omega
theorem bw0_get {n : Nat} {to : List Int} {x : Int} (h : 0 ≤ x ∧ x < (n : Int)) (hx : x ∈ to) : cget (bw0 n to) x.toNat = 0 := by
  have h1 : x.toNat < (bw0 n to).length := by rw [bw0_len]; omega
  rw [← cget_eq h1]
  have : ((x.toNat : Nat) : Int) = x := by omega
  simp [bw0, this, hx]
/-- Every state that waits has its distance. -/
def Set0 (o q : List Int) : Prop := ∀ x ∈ q, 0 ≤ cget o x.toNat
theorem bwE_set0 {n : Nat} {s p : Int} {st : List Int × List Int} (h : BwOk n st.1 st.2) (hos : 0 ≤ cget st.1 s.toNat) (hp : 0 ≤ p ∧ p < (n : Int)) (h0 : Set0 st.1 st.2) : Set0 (bwE s st p).1 (bwE s st p).2 := by
  unfold bwE
  have hpl : p.toNat < st.1.length := by have := h.len; omega
  by_cases hc : cget st.1 p.toNat < 0
  · rw [if_pos hc]
    intro x hx
    simp only [] at hx ⊢
    have e1 : cget (st.1.set p.toNat (cget st.1 s.toNat + 1)) x.toNat = if x.toNat = p.toNat then cget st.1 s.toNat + 1 else cget st.1 x.toNat := by
      by_cases e : x.toNat = p.toNat
      · rw [if_pos e, e]; unfold cget; simp [List.getD, hpl]
      · rw [if_neg e]; unfold cget; simp [List.getD, List.getElem?_set_ne (Ne.symm e)]
    rw [e1]
    split
    · omega
    · rename_i e
      simp only [List.mem_append, List.mem_singleton] at hx
      rcases hx with hx | rfl
      · exact h0 x hx
      · exact absurd rfl e
  · rw [if_neg hc]; exact h0
end Go.Proofs.YtfhgnlkdcdlblaaGreatDoor
/- Contracts: reach.backward, Coreachable. -/
namespace Go.Proofs.YtfhgnlkdcdlblaaGreatDoor
open Go.Lg

theorem rows_nil (n : Nat) : (List.replicate n (Value.slice none 0 0).cells.toList).flatten = (List.range n).map (fun _ => Value.slice none 0 0) := by
  apply List.ext_getElem
  · simp [Value.cells]
  · intro i h1 h2
    simp [Value.cells]
theorem ints_zero (n : Nat) : (List.replicate n (Value.int .i64 0).cells.toList).flatten = (gA n (fun j => if j < 0 then -1 else 0)).map (Value.int .i64) := by
  apply List.ext_getElem
  · simp [Value.cells, gA]
  · intro i h1 h2
    simp [Value.cells, gA]
theorem rows_get {rv : Nat → Value} {n i : Nat} (hi : i < n) : ((List.range n).map rv)[0 + i * 1]? = some (rv i) := by simp [hi]
theorem backward_ok {w : World} {va vm ve vf vt : Value} {a : Aut} {n : Nat} {to : List Int} (h : AutA [] w.heap va vm ve a) (hn : a.st = (n : Int)) (hst1 : a.st ≤ 4096) (hed : ∀ e ∈ a.ed, 0 ≤ e.1 ∧ e.1 < a.st ∧ 0 ≤ e.2.2 ∧ e.2.2 < a.st)
    (hel : a.ed.length ≤ 1000000) (hto : Ints [] w.heap vt to) (htb : ∀ s ∈ to, 0 ≤ s ∧ s < a.st) (htl : to.length ≤ 4096) :
    Ret Tryz.prog 38 [.agg #[va, .int .i64 a.st, vm, ve, vf], vt] w fun r w' => Step [] w w' ∧ ∃ b, r = .slice (some ⟨b, 0, none⟩) n n ∧ w.heap.size ≤ b ∧ Blk w'.heap b 3 ((bwd n a.ed to).map (Value.int .i64)) := by
  refine Ret.of_W Tryz.func38 rfl Tryz.ntmps38 Tryz.results38 (by simp) ?_
  refine W_seq <| W_region (by rfl) ?_
  refine xl rfl <| o_box (us := [va, .int .i64 a.st, vm, ve, vf]) rfl fun b2 w1 hs1 hb2 hB2 => x r_assign <| xe ?_
  refine W_seq <| W_region (by rfl) ?_
  refine x (r_fieldB rfl) <| x (r_fieldB rfl) <| x (r_loadB hB2 rfl rfl) <| xl rfl <| o_make (n := n) (congrArg (Value.int .i64) hn) (congrArg (Value.int .i64) hn) (by omega) fun bI w2 hs2 hbI hBI => x r_assign <| xe ?_
  rw [rows_nil] at hBI
  have hs12 := hs1.trans hs2
  have hz1 := hs1.size
  have hz2 := hs2.size
  have hlI := hBI.lt
  have hl2 := hB2.lt
  have htb' : ∀ s ∈ to, 0 ≤ s ∧ s < (n : Int) := fun s hs => by have := htb s hs; omega
  refine W_seq <| W_seq <| W_region (by rfl) ?_
  refine x (r_fieldB rfl) <| x (r_fieldB rfl) <| x (r_loadB (hB2.ext hs2) rfl rfl) <| x (r_lenA h.ed rfl) <| x r_move <| xe ?_
  refine W_block <| W_loop (α := Nat × (Nat → Value)) [(7, 7), (24, 41)] (fun z => [(24, .int .i64 z.1)]) (fun z w' => z.1 ≤ a.ed.length ∧ Step [bI] w2 w' ∧ Blk w'.heap bI 32 ((List.range n).map z.2) ∧ RowsF w2.heap.size w' n z.2 (intoL (a.ed.take z.1))) (fun z => a.ed.length - z.1) (by rfl) (0, fun _ => .slice none 0 0) ⟨rfl, trivial⟩
    ⟨Nat.zero_le _, Step.refl _ _, hBI, ⟨fun i _ => own_nil _ _ _ _, fun i j _ _ _ => Dj.nil _⟩⟩ ?_
  rintro ⟨k, rv⟩ g w3 ⟨hk, hs3, hBI3, hR3⟩
  simp only [] at hk hBI3 hR3
  have hz3 := hs3.size
  have hs23 : Step [] w1 w3 := hs2.then1 hs3 hbI
  refine W_seq <| W_region (by rfl) ?_
  refine x (r_lss rfl rfl) <| xe ?_
  refine W_seq <| W_ifn rfl (fun h25 => ?_) (fun h25 => ?_)
  · refine W_exit ?_
    have hke : a.ed.length ≤ k := by have h18 : ¬ (k : Int) < (a.ed.length : Int) := h25; omega
    rw [List.take_of_length_le hke] at hR3
    have hI3 : ∀ i, i < n → Ints [] w3.heap (rv i) (intoL a.ed i) := fun i hi => own_arr (hR3.own i hi) (by have := intoL_len a.ed i; omega) (by simp)
    have hto3 := (hto.ext hs1).ext hs23
    refine W_seq <| W_region (by rfl) ?_
    refine x (r_fieldB rfl) <| x (r_fieldB rfl) <| x (r_loadB (hB2.ext hs23) rfl rfl) <| xl rfl <| o_make (n := n) (congrArg (Value.int .i64) hn) (congrArg (Value.int .i64) hn) (by omega) fun bO w4 hs4 hbO hBO => x r_assign <| xe ?_
    rw [ints_zero] at hBO
    refine W_seq <| W_seq <| W_region (by rfl) ?_
    refine x r_move <| x (r_lenA (L := []) (hBO.arr (by simp) (n := n) (cap := n) (sz := 1) (by simp [gA]) (by omega) (Nat.le_refl _)) rfl) <| x r_move <| xe ?_
    refine W_block <| W_loop (α := Nat) [(9, 9), (48, 54)] (fun z => [(48, .int .i64 z)]) (fun z w' => z ≤ n ∧ Step [] w3 w' ∧ Blk w'.heap bO 3 ((gA n (fun j => if j < z then -1 else 0)).map (Value.int .i64))) (fun z => n - z) (by rfl) 0 ⟨rfl, trivial⟩ ⟨Nat.zero_le _, hs4, hBO⟩ ?_
    rintro j g w5 ⟨hj, hs5, hBO5⟩
    refine W_seq <| W_region (by rfl) ?_
    refine x (r_lss rfl rfl) <| xe ?_
    refine W_seq <| W_ifn rfl (fun h49 => ?_) (fun h49 => ?_)
    · refine W_exit ?_
      have hjn : j = n := by have h50 : ¬ (j : Int) < (n : Int) := h49; omega
      have hg0 : gA n (fun i => if i < j then -1 else 0) = gA n (fun i : Nat => if (i : Int) ∈ to.take 0 then 0 else -1) := gA_congr fun i hi => by rw [if_pos (by omega), if_neg (by simp)]
      rw [hg0] at hBO5
      refine W_seq <| W_region (by rfl) ?_
      refine x r_move <| xl rfl <| xf <| (clone_ok (hto3.ext hs5)).mono ?_
      rintro vq w6 ⟨hs6, hQ6⟩
      have hlO := hBO5.lt
      have hs36 := hs5.trans hs6
      have hz5 := hs5.size
      refine x r_assign <| xe ?_
      refine W_seq <| W_seq <| W_region (by rfl) ?_
      refine x r_move <| x (r_lenA (hto3.ext hs36) rfl) <| x r_move <| xe ?_
      refine W_block <| W_loop (α := Nat) [(12, 12), (59, 66)] (fun z => [(59, .int .i64 z)]) (fun z w' => z ≤ to.length ∧ Step [] w3 w' ∧ Blk w'.heap bO 3 ((gA n (fun i : Nat => if (i : Int) ∈ to.take z then 0 else -1)).map (Value.int .i64)) ∧ IntsO 3 w5.heap.size w' vq to ∧ w5.heap.size ≤ w'.heap.size) (fun z => to.length - z) (by rfl) 0 ⟨rfl, trivial⟩
        ⟨Nat.zero_le _, hs36, hBO5.ext hs6, hQ6, hs6.size⟩ ?_
      rintro i g w7 ⟨hi, hs7, hBO7, hQ7, hz7⟩
      refine W_seq <| W_region (by rfl) ?_
      refine x (r_lss rfl rfl) <| xe ?_
      refine W_seq <| W_ifn rfl (fun h60 => ?_) (fun h60 => ?_)
      · refine W_exit ?_
        have hie : to.length ≤ i := by have h61 : ¬ (i : Int) < (to.length : Int) := h60; omega
        rw [List.take_of_length_le hie] at hBO7
        have hBO7' : Blk w7.heap bO 3 ((bw0 n to).map (Value.int .i64)) := hBO7
        refine W_seq <| W_block <| W_loop (α := Nat × Value × List Int × List Int) [(10, 10), (13, 13), (15, 15), (67, 101)] (fun z => [(10, z.2.1)])
          (fun z w' => Step [] w3 w' ∧ w5.heap.size ≤ w'.heap.size ∧ Blk w'.heap bO 3 (z.2.2.1.map (Value.int .i64)) ∧ IntsQ 3 w5.heap.size w' z.2.1 z.2.2.2 ∧ BwOk n z.2.2.1 z.2.2.2 ∧ Set0 z.2.2.1 z.2.2.2 ∧ neg z.2.2.1 + z.2.2.2.length ≤ z.1 ∧ z.1 ≤ 8192 ∧ bwL a.ed z.1 z.2.2.1 z.2.2.2 = bwd n a.ed to)
          (fun z => z.1 + 1 - (if z.2.2.2 = [] then 1 else 0)) (by rfl) (n + to.length, vq, bw0 n to, to) ⟨rfl, trivial⟩
          ⟨hs7, hz7, hBO7', ownsQ.of_row hQ7, bw0_ok htb', fun x hx => by rw [bw0_get (htb' x hx) hx]; omega, by have := neg_le (bw0 n to); rw [bw0_len] at this; simp only []; omega, by simp only []; omega, rfl⟩ ?_
        rintro ⟨fu, vq, o, q⟩ g w8 ⟨hs8, hz8, hBO8, hQ8, hok, hset, hfu, hfu2, hres⟩
        simp only [] at hz8 hBO8 hQ8 hok hset hfu hfu2 hres
        have hnq : neg o + q.length ≤ 8192 := by omega
        refine W_seq <| W_seq <| W_region (by rfl) ?_
        refine x r_move <| x (r_lenA (q_arr (L := []) hQ8 (by omega) (by simp)) rfl) <| x (r_gtr rfl rfl) <| xe ?_
        refine W_ifn rfl (fun h69 => ?_) (fun h69 => ?_)
        · refine W_exit ?_
          have hq0 : q = [] := List.eq_nil_of_length_eq_zero (by have h70 : ¬ (q.length : Int) > 0 := h69; omega)
          rw [hq0, bwL_nil] at hres
          rw [hres] at hBO8
          refine W_seq <| W_region (by rfl) ?_
          refine x r_move <| x r_assign <| xe ?_
          exact W_ret ⟨[.slice (some ⟨bO, 0, none⟩) n n], ⟨rfl, trivial⟩, hs1.trans (hs23.trans hs8), bO, rfl, by omega, hBO8⟩
        refine W_skip ?_
        have hq1 : 0 < q.length := by have h70 : (q.length : Int) > 0 := h69; omega
        refine Exists.elim (List.exists_cons_of_length_pos hq1) fun s hq' => Exists.elim hq' fun q' hqq => ?_
        subst hqq
        have hfu1 : 0 < fu := by simp only [List.length_cons] at hfu; omega
        refine Exists.elim (Nat.exists_eq_succ_of_ne_zero (show fu ≠ 0 by omega)) fun fu' hfe => ?_
        subst hfe
        have hsr := hok.q s List.mem_cons_self
        have hos := hset s List.mem_cons_self
        have hsn : s = (s.toNat : Int) := by omega
        rw [bwL] at hres
        simp only [List.length_cons] at hfu
        refine W_block <| W_seq <| W_region (by rfl) ?_
        refine x r_move <| xii (i := 0) (q_arr (L := []) hQ8 (by simp only [List.length_cons]; omega) (by simp)) rfl rfl (by simp) fun a71 h71 => x (r_loadA h71 rfl) <| x r_assign <| xe ?_
        refine W_seq <| W_region (by rfl) ?_
        refine x r_move <| xslQ (lo := 1) hQ8 rfl rfl (by simp only [List.length_cons]; omega) fun vq1 hQ81 hobq => x r_assign <| xe ?_
        have hQ9 : IntsQ 3 w5.heap.size w8 vq1 q' := IntsQ.tail hQ81
        refine W_seq <| W_region (by rfl) ?_
        refine x r_move <| x r_move <| x (r_indexB (i := s.toNat) rfl (congrArg (Value.int .i64) hsn) (by omega)) <| x (r_loadB (u := rv s.toNat) (hBI3.ext hs8) rfl (rows_get (by omega))) <| x (r_lenA ((hI3 s.toNat (by omega)).ext hs8) rfl) <| x r_move <| xe ?_
        have hil := intoL_len a.ed s.toNat
        refine W_block <| W_loop (α := Nat × Value × List Int × List Int) [(10, 10), (15, 15), (80, 101)] (fun z => [(10, z.2.1), (80, .int .i64 z.1)])
          (fun z w' => z.1 ≤ (intoL a.ed s.toNat).length ∧ Step [] w3 w' ∧ w5.heap.size ≤ w'.heap.size ∧ Blk w'.heap bO 3 (z.2.2.1.map (Value.int .i64)) ∧ IntsQ 3 w5.heap.size w' z.2.1 z.2.2.2 ∧ BwOk n z.2.2.1 z.2.2.2 ∧ Set0 z.2.2.1 z.2.2.2 ∧ 0 ≤ cget z.2.2.1 s.toNat ∧ neg z.2.2.1 + z.2.2.2.length ≤ fu' ∧ ((intoL a.ed s.toNat).drop z.1).foldl (bwE s) (z.2.2.1, z.2.2.2) = (intoL a.ed s.toNat).foldl (bwE s) (o, q'))
          (fun z => (intoL a.ed s.toNat).length - z.1) (by rfl) (0, vq1, o, q') ⟨rfl, rfl, trivial⟩
          ⟨Nat.zero_le _, hs8, hz8, hBO8, hQ9, ⟨hok.len, fun x hx => hok.q x (List.mem_cons_of_mem _ hx), hok.le⟩, fun x hx => hset x (List.mem_cons_of_mem _ hx), hos, by simp only []; omega, rfl⟩ ?_
        rintro ⟨m, vq2, o2, q2⟩ g w9 ⟨hm, hs9, hz9, hBO9, hQ9, hok9, hset9, hos9, hfu9, hfo⟩
        simp only [] at hm hz9 hBO9 hQ9 hok9 hset9 hos9 hfu9 hfo
        refine W_seq <| W_region (by rfl) ?_
        refine x (r_lss rfl rfl) <| xe ?_
        refine W_seq <| W_ifn rfl (fun h81 => ?_) (fun h81 => ?_)
        · refine W_exit ?_
          have hme : (intoL a.ed s.toNat).length ≤ m := by have h82 : ¬ (m : Int) < ((intoL a.ed s.toNat).length : Int) := h81; omega
          rw [List.drop_of_length_le hme] at hfo
          rw [← hfo] at hres
          exact ⟨(fu', vq2, o2, q2), by simp only []; split <;> simp <;> omega, ⟨rfl, trivial⟩, hs9, hz9, hBO9, hQ9, hok9, hset9, hfu9, by simp only []; omega, hres⟩
        refine W_skip ?_
        have hmlt : m < (intoL a.ed s.toNat).length := by have h82 : (m : Int) < ((intoL a.ed s.toNat).length : Int) := h81; omega
        have hpm := intoL_mem (List.getElem_mem hmlt)
        have hdr := drop_cons hmlt
        rw [hdr, List.foldl_cons] at hfo
        refine exE ((intoL a.ed s.toNat)[m]'hmlt) fun p hp => ?_
        rw [hp] at hpm hfo
        have hpb : 0 ≤ p ∧ p < (n : Int) := by
          obtain ⟨e, he, h1, _⟩ := hpm
          have := hed e he
          omega
        have hpn : p = (p.toNat : Int) := by omega
        have hol := hok9.len
        have hpl : p.toNat < o2.length := by omega
        have hsl : s.toNat < o2.length := by omega
        have hvs := hok9.le _ (cget_mem hsl)
        have hEk := bwE_ok (st := (o2, q2)) hok9 hsr hos9 hpb
        have hE0 := bwE_set0 (st := (o2, q2)) hok9 hos9 hpb hset9
        refine W_seq <| W_block <| W_seq <| W_region (by rfl) ?_
        refine xii (i := m) ((hI3 s.toNat (by omega)).ext hs9) rfl rfl hmlt fun a82 h82 => ?_
        rw [hp] at h82
        refine x (r_loadA h82 rfl) <| x r_assign <| xe ?_
        refine W_seq <| W_region (by rfl) ?_
        refine x r_move <| x r_move <| x (r_indexB (i := p.toNat) rfl (congrArg (Value.int .i64) hpn) (by omega)) <| x (r_loadI (i := p.toNat) hBO9 rfl hpl) <| x (r_lss rfl rfl) <| xe ?_
        refine W_ifn rfl (fun h88 => ?_) (fun h88 => ?_)
        · refine W_skip ?_
          have hc : ¬ cget o2 p.toNat < 0 := by rw [← cget_eq hpl]; exact h88
          have hEq : bwE s (o2, q2) p = (o2, q2) := by unfold bwE; rw [if_neg hc]
          rw [hEq] at hfo
          refine W_region (by rfl) ?_
          refine x (r_add rfl rfl ⟨by omega, by omega⟩) <| x r_move <| xe ?_
          exact ⟨(m + 1, vq2, o2, q2), by simp only []; omega, ⟨rfl, rfl, trivial⟩, hmlt, hs9, hz9, hBO9, hQ9, hok9, hset9, hos9, hfu9, hfo⟩
        have hc : cget o2 p.toNat < 0 := by rw [← cget_eq hpl]; exact h88
        have hEq : bwE s (o2, q2) p = (o2.set p.toNat (cget o2 s.toNat + 1), q2 ++ [p]) := by unfold bwE; rw [if_pos hc]
        rw [hEq] at hfo hEk hE0
        have hcs := cget_eq hsl
        refine W_seq <| W_region (by rfl) ?_
        refine x r_move <| x r_move <| x r_move <| x r_move <| x (r_indexB (i := s.toNat) rfl (congrArg (Value.int .i64) hsn) (by omega)) <| x (r_loadI (i := s.toNat) hBO9 rfl hsl) <| x (r_add rfl rfl ⟨by omega, by omega⟩) <|
          x (r_indexB (i := p.toNat) rfl (congrArg (Value.int .i64) hpn) (by omega)) <| xl rfl <| o_storeI (i := p.toNat) hBO9 rfl rfl hpl fun w10 hs10 hBO10 => xe ?_
        rw [hcs] at hBO10
        have hz10 := hs10.size
        have hnO : ∀ b ∈ ob vq2, b ∉ [bO] := fun b hb => by have := q_ge hQ9 b hb; simp; omega
        have hQ10 := q_step hQ9 hs10 hnO
        have hs3a : Step [] w3 w10 := hs9.then1 hs10 (by omega)
        refine W_region (by rfl) ?_
        refine x r_move <| x r_move <| xl rfl <| o_lits (us := [[.int .i64 p]]) rfl rfl (by decide) (by simp) ⟨rfl, rfl, trivial⟩ fun b99 w11 hs11 hb99 hB99 => xl rfl <| o_appQ (m := 1) (news := [.int .i64 p]) (q_ext hQ10 hs11) rfl rfl rfl (by omega) (hB99.at (L := []) (by simp)) (by simp [Value.oneCell']) (by omega) (by have := hs11.size; omega) fun vq3 w12 hQ12 hs12 hn12 =>
          x r_assign <| xe ?_
        have hz11 := hs11.size
        have hz12 := hs12.size
        have hQ12' : IntsQ 3 w5.heap.size w12 vq3 (q2 ++ [p]) := IntsQ.snoc hQ12
        have hz3O : w3.heap.size ≤ w5.heap.size := by omega
        refine W_region (by rfl) ?_
        refine x (r_add rfl rfl ⟨by omega, by omega⟩) <| x r_move <| xe ?_
        refine ⟨(m + 1, vq3, _, q2 ++ [p]), by simp only []; omega, ⟨rfl, rfl, trivial⟩, hmlt, (hs3a.trans hs11).then hs12 (fun b hb => .inr (by have := q_ge hQ9 b hb; omega)), by omega, (hBO10.ext hs11).step hs12 (fun hb => by have := q_ge hQ9 _ hb; omega), hQ12', hEk.1, hE0, hEk.2.2, ?_, hfo⟩
        have h5 : neg (o2.set p.toNat (cget o2 s.toNat + 1)) + (q2 ++ [p]).length = neg o2 + q2.length := hEk.2.1
        simp only []; omega
      refine W_skip ?_
      have hilt : i < to.length := by have h61 : (i : Int) < (to.length : Int) := h60; omega
      have hti := htb' _ (List.getElem_mem hilt)
      have htk : to.take (i + 1) = to.take i ++ [to[i]'hilt] := List.take_succ_eq_append_getElem hilt
      refine exE (to[i]'hilt) fun s hs => ?_
      rw [hs] at hti htk
      have hsn : s = (s.toNat : Int) := by omega
      have hst : (gA n (fun j : Nat => if (j : Int) ∈ to.take i then 0 else -1)).set s.toNat 0 = gA n (fun j : Nat => if (j : Int) ∈ to.take (i + 1) then 0 else -1) := gA_set (by rw [htk]; simp; omega) (fun j _ hj => by
        rw [htk]
        have : ¬ (j : Int) = s := by omega
        simp [this])
      refine W_seq <| W_block <| W_seq <| W_region (by rfl) ?_
      refine xii (i := i) (hto3.ext hs7) rfl rfl hilt fun a61 h61 => ?_
      rw [hs] at h61
      refine x (r_loadA h61 rfl) <| x r_assign <| xe ?_
      refine W_region (by rfl) ?_
      refine x r_move <| x r_move <| x (r_indexB (i := s.toNat) rfl (congrArg (Value.int .i64) hsn) (by omega)) <| xl rfl <| o_storeG (i := s.toNat) hBO7 rfl rfl (by omega) hst fun w8 hs8 hBO8 => xe ?_
      refine W_region (by rfl) ?_
      refine x (r_add rfl rfl ⟨by omega, by omega⟩) <| x r_move <| xe ?_
      have hz8 := hs8.size
      exact ⟨i + 1, by omega, ⟨rfl, trivial⟩, hilt, hs7.then1 hs8 (by omega), hBO8, own_step hQ7 hs8 (fun b hb => by have := own_ge hQ7 b hb; simp; omega), by omega⟩
    refine W_skip ?_
    have hjn : j < n := by have h50 : (j : Int) < (n : Int) := h49; omega
    refine W_seq <| W_block <| W_seq <| W_region (by rfl) ?_
    refine x r_move <| x r_assign <| xe ?_
    refine W_region (by rfl) ?_
    have hst : (gA n (fun i => if i < j then -1 else 0)).set j (-1) = gA n (fun i => if i < j + 1 then -1 else 0) := gA_set (by rw [if_pos (by omega)]) (fun i _ hi => by
      by_cases e : i < j
      · rw [if_pos e, if_pos (by omega)]
      · rw [if_neg e, if_neg (by omega)])
    refine x r_move <| x r_move <| x (r_indexB (i := j) rfl rfl (by omega)) <| xl rfl <| o_storeG (i := j) hBO5 rfl rfl hjn hst fun w6 hs6 hBO6 => xe ?_
    refine W_region (by rfl) ?_
    refine x (r_add rfl rfl ⟨by omega, by omega⟩) <| x r_move <| xe ?_
    exact ⟨j + 1, by omega, ⟨rfl, trivial⟩, hjn, hs5.then1 hs6 (by omega), hBO6⟩
  refine W_skip ?_
  have hlt : k < a.ed.length := by have h18 : (k : Int) < (a.ed.length : Int) := h25; omega
  have htk : a.ed.take (k + 1) = a.ed.take k ++ [a.ed[k]'hlt] := List.take_succ_eq_append_getElem hlt
  have hek := hed _ (List.getElem_mem hlt)
  refine exE (a.ed[k]'hlt) fun e he => ?_
  rw [he] at htk hek
  have hto' : e.2.2 = (e.2.2.toNat : Int) := by omega
  have htn : e.2.2.toNat < n := by omega
  have hil := intoL_len (a.ed.take k) e.2.2.toNat
  rw [List.length_take] at hil
  have hsn := intoL_snoc (a.ed.take k) e hek.2.2.1
  refine W_seq <| W_block <| W_seq <| W_region (by rfl) ?_
  refine xie ((h.ed.ext hs1).ext hs23) rfl rfl hlt fun a18 h18 => ?_
  rw [he] at h18
  refine x (r_loadsA h18 rfl rfl) <| xl rfl <| o_alloc (us := [.int .i64 0, .int .i64 0, .int .i64 0]) rfl fun b7 w4 hs4 hb7 hB7 => xl rfl <| o_stores (us := edCells e) hB7 rfl rfl rfl rfl ⟨rfl, rfl, rfl, trivial⟩ fun w5 hs5 hB7' => xe ?_
  have hs35 : Step [] w3 w5 := hs4.then1 hs5 hb7
  have hz5 := hs35.size
  have hR5 := hR3.ext hs35
  have hrow := hR5.own _ htn
  have hIn : ∀ b ∈ ob (rv e.2.2.toNat), w2.heap.size ≤ b ∧ b < w3.heap.size := fun b hb => ⟨(own_ge (hR3.own _ htn) b hb).1, own_lt (hR3.own _ htn) b hb⟩
  have hbIn : bI ∉ ob (rv e.2.2.toNat) := fun hb => by have := hIn _ hb; omega
  have hb7n : b7 ∉ ob (rv e.2.2.toNat) := fun hb => by have := hIn _ hb; omega
  have hBI5 := hBI3.ext hs35
  refine W_draw (Step (ob (rv e.2.2.toNat)) w5) [(0, true), (1, true), (2, true), (3, true), (4, true), (5, true), (6, true), (7, true), (8, true), (9, true), (10, false), (11, false), (12, true), (13, false)] Tryz.mixed (by rfl) (by kernel_rfl) (Step.drew _ _) ?_
  refine p (fun _ => r_move) <| p (fun _ => r_fieldB rfl) <| pq (fun _ hc => r_loadB (hB7'.step hc hb7n) rfl rfl) <| p (fun _ => r_move) <| p (fun _ => r_fieldB rfl) <| pq (fun _ hc => r_loadB (hB7'.step hc hb7n) rfl rfl) <|
    p (fun _ => r_indexB (i := e.2.2.toNat) rfl (congrArg (Value.int .i64) hto') htn) <| pq (fun _ hc => r_loadB (u := rv e.2.2.toNat) (hBI5.step hc hbIn) rfl (rows_get htn)) <| p (fun _ => r_fieldB rfl) <| pq (fun _ hc => r_loadB (hB7'.step hc hb7n) rfl rfl) <|
    pk <| o_lits (us := [[.int .i64 e.1]]) rfl rfl (by decide) (by simp) ⟨rfl, rfl, trivial⟩ fun b38 w6 hs6 hb38 hB38 => ⟨(Step.drew _ _).trans hs6, ?_⟩
  have hs56 : Step [] w5 w6 := (Step.drew _ _).trans hs6
  have hz6 := hs56.size
  refine pk <| o_app (m := 1) (news := [.int .i64 e.1]) (own_ext hrow hs56) rfl rfl rfl (hB38.at (L := []) (by simp)) (by simp [Value.oneCell']) (by omega) (by omega) fun vr w7 ho7 hs7 hn7 => ⟨hs56.any.trans' hs7, ?_⟩
  have hBI7 := (hBI5.ext hs56).step hs7 hbIn
  have hlen : ((List.range n).map rv).length = n := by simp
  refine p (fun _ => r_indexB (i := e.2.2.toNat) rfl (congrArg (Value.int .i64) hto') htn) <| pkl (hl := by kernel_rfl) <| o_store (j := 0 + e.2.2.toNat * 1) (u := vr) hBI7 rfl rfl (by rw [hlen]; omega) (own_arr (L := []) ho7 (by omega) (by simp)).one fun w8 hs8 hBI8 => pe ?_
  have hb8 : Blk w8.heap bI 32 ((List.range n).map (updF rv e.2.2.toNat vr)) := by
    have e1 := updF_map id n rv e.2.2.toNat vr
    simp only [id] at e1
    rw [← e1]
    simpa using hBI8
  have hvn : ∀ b ∈ ob vr, b ∈ ob (rv e.2.2.toNat) ∨ w5.heap.size ≤ b := fun b hb => (hn7 b hb).imp id (fun h => by omega)
  have hR7 := hR5.app htn (IntsO.snoc ho7) (hs56.any.trans' hs7) hvn
  have hR8 := hR7.step hs8 (fun i hi b hb => by have := (own_ge (hR7.own i hi) b hb).1; simp; omega)
  have hfe : updF (intoL (a.ed.take k)) e.2.2.toNat (intoL (a.ed.take k) e.2.2.toNat ++ [e.1]) = intoL (a.ed.take (k + 1)) := by rw [htk]; exact funext hsn
  rw [hfe] at hR8
  refine W_region (by rfl) ?_
  refine x (r_add rfl rfl ⟨by omega, by omega⟩) <| x r_move <| xe ?_
  refine ⟨(k + 1, updF rv e.2.2.toNat vr), by simp only []; omega, ⟨rfl, trivial⟩, hlt, ?_, hb8, hR8⟩
  exact (((hs3.trans hs35).trans hs56).then hs7 (fun b hb => .inr (hIn b hb).1)).trans' hs8
end Go.Proofs.YtfhgnlkdcdlblaaGreatDoor
/- Contract: reach.Coreachable. -/
namespace Go.Proofs.YtfhgnlkdcdlblaaGreatDoor
open Go.Lg

/-- The numbers below k with a distance. -/
def corS (d : List Int) (k : Nat) : List Int := ((List.range k).filter fun i => decide (0 ≤ cget d i)).map fun i : Nat => (i : Int)
def cor (a : Aut) : List Int := corS (bwd a.st.toNat a.ed a.mr) a.st.toNat
theorem corS_succ (d : List Int) (k : Nat) : corS d (k + 1) = if 0 ≤ cget d k then corS d k ++ [(k : Int)] else corS d k := by
  unfold corS
  rw [List.range_succ, List.filter_append, List.map_append]
  by_cases h : 0 ≤ cget d k
  · simp [h]
  · simp [h]
theorem corS_len (d : List Int) (k : Nat) : (corS d k).length ≤ k := by
  unfold corS; rw [List.length_map]; have := List.length_filter_le (fun i => decide (0 ≤ cget d i)) (List.range k); simpa using this
theorem bwE_len (s : Int) (st : List Int × List Int) (p : Int) : (bwE s st p).1.length = st.1.length := by unfold bwE; split <;> simp
theorem bwEs_len (s : Int) : ∀ (ps : List Int) (st : List Int × List Int), (ps.foldl (bwE s) st).1.length = st.1.length
  | [], _ => rfl
  | p :: ps, st => by rw [List.foldl_cons, bwEs_len s ps, bwE_len]
theorem bwL_len (es : List Ed) : ∀ (f : Nat) (o q : List Int), (bwL es f o q).length = o.length
  | 0, _, _ => rfl
  | _ + 1, _, [] => rfl
  | f + 1, o, s :: q => by rw [bwL, bwL_len es f, bwEs_len]
theorem bwd_len (n : Nat) (es : List Ed) (to : List Int) : (bwd n es to).length = n := by unfold bwd; rw [bwL_len, bw0_len]
theorem Coreachable_ok {w : World} {va vm ve : Value} {a : Aut} (h : AutA [] w.heap va vm ve a) :
    Ret Tryz.prog 11 [.agg #[va, .int .i64 a.st, vm, ve]] w fun r w' => Step [] w w' ∧ ∃ v, r = .tuple #[v, .int .i64 (ckA a)] ∧ IntsO 3 w.heap.size w' v (if ckA a = 0 then cor a else []) := by
  refine Ret.of_W Tryz.func11 rfl Tryz.ntmps11 Tryz.results11 (by simp) ?_
  refine W_seq <| W_region (by rfl) ?_
  refine xl rfl <| o_box (us := [va, .int .i64 a.st, vm, ve]) rfl fun b1 w1 hs1 hb1 hB1 => x r_assign <| x r_assign <| xe ?_
  refine W_seq <| W_seq <| W_region (by rfl) ?_
  refine x (r_loadsB hB1 rfl rfl) <| xl rfl <| xf <| (check_ok (h.ext hs1)).mono ?_
  rintro r2 w2 ⟨rfl, hs2⟩
  refine x r_assign <| xe ?_
  refine W_seq <| W_region (by rfl) ?_
  refine x r_move <| x (r_neq rfl rfl) <| xe ?_
  have hz1 := hs1.size
  have hz2 := hs2.size
  refine W_if rfl (fun h11 => ?_) (fun h11 => ?_)
  · refine W_seq <| W_region (by rfl) ?_
    refine x r_move <| x r_assign <| x r_assign <| xe ?_
    refine W_ret ⟨[.slice none 0 0, .int .i64 (ckA a)], ⟨rfl, rfl, trivial⟩, hs1.trans hs2, _, rfl, ?_⟩
    rw [if_neg h11]; exact own_nil _ _ _ _
  have hck : ckA a = 0 := Decidable.not_not.1 h11
  have ho := (ckA_zero a).1 hck
  refine exN ho.st0 fun n hn => ?_
  have hnt : a.st.toNat = n := by omega
  have hst1 := ho.st1
  have hml := ho.mr_le
  have hel := ho.ed_le
  refine W_skip ?_
  refine W_seq <| W_region (by rfl) ?_
  refine x r_assign <| xe ?_
  have hA2 := (h.ext hs1).ext hs2
  have hd0 : Step [] w2 { w2 with drawn := w2.drawn + 1 } := Step.drew _ _
  refine W_seq <| W_seq <| W_draw (Step [] w2) [(0, true), (2, true), (3, true), (6, true), (1, false), (4, false), (5, true)] Tryz.mixed (by rfl) (by kernel_rfl) (Step.drew _ _) ?_
  refine pq (fun _ hc => r_loadsB ((hB1.ext hs2).ext hc) rfl rfl) <| p (fun _ => r_fieldB rfl) <| pq (fun _ hc => r_loadB ((hB1.ext hs2).ext hc) rfl rfl) <|
    p (fun _ => r_move) <| pk <| xf <| (newGraph_ok (hA2.ext hd0) hn hst1 (fun e he => ⟨(ho.ed e he).1, (ho.ed e he).2.1⟩)).mono ?_
  rintro r3 w3 ⟨hs3, bF, rfl, _, _⟩
  refine ⟨hd0.trans hs3, ?_⟩
  have hs23 := hd0.trans hs3
  refine pk <| xf <| (backward_ok (hA2.ext hs23) hn hst1 (fun e he => ⟨(ho.ed e he).1, (ho.ed e he).2.1, (ho.ed e he).2.2.2⟩) (by omega) (hA2.mr.ext hs23) ho.mr hml).mono ?_
  rintro r4 w4 ⟨hs4, bO, rfl, hbO, hBO⟩
  refine ⟨hs23.trans hs4, ?_⟩
  have hs24 := hs23.trans hs4
  have hdl := bwd_len n a.ed a.mr
  have hAO : Arr [] w4.heap (.slice (some ⟨bO, 0, none⟩) n n) n 1 ((bwd n a.ed a.mr).map (Value.int .i64)) := hBO.arr (by simp) (by simp [hdl]) (by omega) (Nat.le_refl _)
  refine p (fun _ => r_lenA hAO rfl) <| pe ?_
  have hz4 := hs24.size
  have hcor : cor a = corS (bwd n a.ed a.mr) n := by unfold cor; rw [hnt]
  refine W_block <| W_loop (α := Nat × Value) [(5, 7), (19, 30)] (fun z => [(5, z.2), (19, .int .i64 z.1)]) (fun z w' => z.1 ≤ n ∧ Step [] w4 w' ∧ IntsO 3 w4.heap.size w' z.2 (corS (bwd n a.ed a.mr) z.1)) (fun z => n - z.1) (by rfl) (0, .slice none 0 0) ⟨rfl, rfl, trivial⟩
    ⟨Nat.zero_le _, Step.refl _ _, own_nil _ _ _ _⟩ ?_
  rintro ⟨k, v⟩ g w5 ⟨hk, hs5, ho5⟩
  simp only [] at hk ho5
  refine W_seq <| W_region (by rfl) ?_
  refine x (r_lss rfl rfl) <| xe ?_
  refine W_seq <| W_ifn rfl (fun h20 => ?_) (fun h20 => ?_)
  · refine W_exit ?_
    have hkn : k = n := by have h21 : ¬ (k : Int) < (n : Int) := h20; omega
    rw [hkn, ← hcor] at ho5
    refine W_seq <| W_region (by rfl) ?_
    refine x r_move <| x r_assign <| x r_assign <| xe ?_
    refine W_ret ⟨[v, .int .i64 0], ⟨rfl, rfl, trivial⟩, (hs1.trans hs2).trans (hs24.trans hs5), _, by rw [hck]; rfl, ?_⟩
    rw [if_pos hck]; exact own_base ho5 (by omega)
  have hkn : k < n := by have h21 : (k : Int) < (n : Int) := h20; omega
  have hsu := corS_succ (bwd n a.ed a.mr) k
  have hcl := corS_len (bwd n a.ed a.mr) k
  refine W_skip ?_
  refine W_seq <| W_block <| W_seq <| W_region (by rfl) ?_
  have hA5 : Ints [] w5.heap (.slice (some ⟨bO, 0, none⟩) n n) (bwd n a.ed a.mr) := by unfold Ints; rw [hdl]; exact hAO.ext hs5
  refine x r_move <| xic (i := k) hA5 rfl rfl (by omega) fun a22 h22 => x (r_loadA h22 rfl) <| x r_assign <| x r_assign <| xe ?_
  refine W_seq <| W_region (by rfl) ?_
  refine x r_move <| x (r_geq rfl rfl) <| xe ?_
  refine W_ifn rfl (fun h25 => ?_) (fun h25 => ?_)
  · refine W_skip ?_
    rw [if_neg h25] at hsu
    refine W_region (by rfl) ?_
    refine x (r_add rfl rfl ⟨by omega, by omega⟩) <| x r_move <| xe ?_
    exact ⟨(k + 1, v), by simp only []; omega, ⟨rfl, rfl, trivial⟩, hkn, hs5, by rw [hsu]; exact ho5⟩
  rw [if_pos h25] at hsu
  have hz5 := hs5.size
  refine W_region (by rfl) ?_
  refine x r_move <| x r_move <| xl rfl <| o_lits (us := [[.int .i64 k]]) rfl rfl (by decide) (by simp) ⟨rfl, rfl, trivial⟩ fun b28 w6 hs6 hb28 hB28 => xl rfl <| o_app (m := 1) (news := [.int .i64 k]) (own_ext ho5 hs6) rfl rfl rfl (hB28.at (L := []) (by simp)) (by simp [Value.oneCell']) (by omega) (by have := hs6.size; omega) fun v7 w7 ho7 hs7 hn7 =>
    x r_assign <| xe ?_
  refine W_region (by rfl) ?_
  refine x (r_add rfl rfl ⟨by omega, by omega⟩) <| x r_move <| xe ?_
  exact ⟨(k + 1, v7), by simp only []; omega, ⟨rfl, rfl, trivial⟩, hkn, (hs5.trans hs6).then hs7 (fun b hb => .inr (own_ge ho5 b hb).1), by rw [hsu]; exact IntsO.snoc ho7⟩
end Go.Proofs.YtfhgnlkdcdlblaaGreatDoor
/- Contracts: reach.edges and the iterator that it makes. -/
namespace Go.Proofs.YtfhgnlkdcdlblaaGreatDoor
open Go.Lg

theorem pslB {P : Program} {ops : List Oper} {K : Fr → World → Prop} {f : Fr} {w : World} {d : Option Nat} {ty : Nat} {ps : String} {af : Array Edge} {gd : Option (Nat × Bool)} {C : World → Prop} {pl : List (Nat × Bool)} {i0 : Nat}
    {t e sz bys : Nat} {z : Value} {x y1 y2 : Operand} {L : List Nat} {v : Value} {n : Nat} {cs : List Value} {H : Array Obj} {k k' : IntKind} {lo hi : Nat} [h : Sl P t e sz bys z]
    (ho : opAt ops i0 = ⟨d, .slice t x (some y1) (some y2) none, ty, ps, af, gd⟩) (hA : Arr L H v n sz cs) (hx : ev f x = v) (hl : ev f y1 = .int k lo) (hh : ev f y2 = .int k' hi) (h1 : lo ≤ hi) (h2 : hi ≤ n)
    (hK : ∀ v', Arr L H v' (hi - lo) sz ((cs.drop (lo * sz)).take ((hi - lo) * sz)) → XP P ops C K pl (putF f d v') w)
    (hg : gdF ops f (opAt ops i0) = true := by rfl) : XP P ops C K ((i0, true) :: pl) f w := by
  obtain ⟨v', h3, h4⟩ := r_slice (P := P) (d := d) (ty := ty) (ps := ps) (af := af) (gd := gd) (t := t) hA hx hl hh h1 h2
  exact Lg.p (fun w' => by rw [ho]; exact h4 w') (by rw [ho]; exact hK v' h3) hg
theorem fS_lt {es : List Ed} (hs : es.Pairwise fun x y => x.1 ≤ y.1) (s : Nat) : ∀ (m : Nat) (hm : m < es.length), (m : Int) < fS es s ↔ (es[m]'hm).1 < (s : Int) := by
  unfold fS cnF
  induction es with
  | nil => intro m hm; simp at hm
  | cons e es ih =>
    intro m hm
    simp only [List.pairwise_cons] at hs
    have ih := ih hs.2
    simp only [List.filter_cons]
    by_cases h1 : e.1 < (s : Int)
    · simp only [h1, decide_true, if_true, List.length_cons]
      cases m with
      | zero => simp only [List.getElem_cons_zero]; omega
      | succ m =>
        have := ih m (by simpa using hm)
        simp only [List.getElem_cons_succ]
        rw [← this]; omega
    · have h0 : (es.filter fun e => decide (e.1 < (s : Int))) = [] := List.filter_eq_nil_iff.2 (fun d hd => by have := hs.1 d hd; simp; omega)
      simp only [h1, decide_false, Bool.false_eq_true, if_false, h0, List.length_nil]
      cases m with
      | zero => simp only [List.getElem_cons_zero]; omega
      | succ m =>
        have hd : es[m]'(by simpa using hm) ∈ es := List.getElem_mem _
        have := hs.1 _ hd
        simp only [List.getElem_cons_succ]; omega
theorem fS_mono (es : List Ed) (s : Nat) : fS es s ≤ fS es (s + 1) := by
  have h := fS_succ es s
  have := (cnF_le (fun e : Ed => decide (e.1 + 1 = ((s + 1 : Nat) : Int))) es).1
  unfold cN at h; omega
theorem seg_out {es : List Ed} (hs : es.Pairwise fun x y => x.1 ≤ y.1) (s lo hi : Nat) (h1 : fS es s = (lo : Int)) (h2 : fS es (s + 1) = (hi : Int)) : (es.drop lo).take (hi - lo) = outE es s ∧ hi ≤ es.length ∧ lo ≤ hi := by
  have hm := fS_mono es s
  have hl := (cnF_le (fun e : Ed => decide (e.1 < ((s + 1 : Nat) : Int))) es).2
  have hhi : hi ≤ es.length := by unfold fS at h2; omega
  refine ⟨?_, hhi, by omega⟩
  exact cut_filter (fun e : Ed => decide (e.1 = (s : Int))) es lo hi (by omega) hhi
    (fun m hm hml => by have := (fS_lt hs s m hm).1 (by omega); simp; omega)
    (fun m hm h3 h4 => by
      have h5 : ¬ (es[m]'hm).1 < (s : Int) := fun h => by have := (fS_lt hs s m hm).2 h; omega
      have h6 := (fS_lt hs (s + 1) m hm).1 (by omega)
      simp; omega)
    (fun m hm h3 => by
      have h6 : ¬ (es[m]'hm).1 < ((s + 1 : Nat) : Int) := fun h => by have := (fS_lt hs (s + 1) m hm).2 h; omega
      simp; omega)
theorem flat_drop : ∀ (l : List Ed) (k : Nat), (l.flatMap edCells).drop (k * 3) = (l.drop k).flatMap edCells
  | [], k => by simp
  | e :: l, 0 => by simp
  | e :: l, k + 1 => by
    simp only [List.flatMap_cons, List.drop_succ_cons, Nat.add_mul, Nat.one_mul]
    rw [Nat.add_comm, ← List.drop_drop, show (edCells e ++ l.flatMap edCells).drop 3 = l.flatMap edCells from rfl, flat_drop l k]
theorem flat_take : ∀ (l : List Ed) (k : Nat), (l.flatMap edCells).take (k * 3) = (l.take k).flatMap edCells
  | [], k => by simp
  | e :: l, 0 => by simp
  | e :: l, k + 1 => by
    simp only [List.flatMap_cons, List.take_succ_cons, Nat.add_mul, Nat.one_mul]
    rw [Nat.add_comm, List.take_append, show (edCells e).length = 3 from rfl, show 3 + k * 3 - 3 = k * 3 by omega, flat_take l k, List.take_of_length_le (by rw [show (edCells e).length = 3 from rfl]; omega)]

theorem edges_ok {w : World} {va vm ve vf : Value} {st s : Int} :
    Ret Tryz.prog 68 [.agg #[va, .int .i64 st, vm, ve, vf], .int .i64 s] w fun r w' => Step [] w w' ∧ ∃ b1 b2, r = .func (.func 92) #[] #[.pointer (some ⟨b1, 0, none⟩), .pointer (some ⟨b2, 0, none⟩)] ∧
      w.heap.size ≤ b1 ∧ w.heap.size ≤ b2 ∧ Blk w'.heap b1 89 [va, .int .i64 st, vm, ve, vf] ∧ Blk w'.heap b2 3 [.int .i64 s] := by
  refine Ret.of_W Tryz.func68 rfl Tryz.ntmps68 Tryz.results68 (by simp) ?_
  refine W_seq <| W_region (by rfl) ?_
  refine xl rfl <| o_box (us := [va, .int .i64 st, vm, ve, vf]) rfl fun b2 w1 hs1 hb2 hB2 => xl rfl <| o_box (us := [.int .i64 s]) rfl fun b3 w2 hs2 hb3 hB3 => x r_assign <| xe ?_
  refine W_seq <| W_region (by rfl) ?_
  refine x r_makeFunc <| x r_assign <| xe ?_
  have hz1 := hs1.size
  exact W_ret ⟨[_], ⟨rfl, trivial⟩, hs1.trans hs2, b2, b3, rfl, hb2, by omega, hB2.ext hs2, hB3⟩

/-- The iterator: it gives the edges of the state in their order, whatever the loop does that keeps what it reads. -/
theorem edges1_seq {L : List Nat} {w : World} {b1 b2 bF n s m : Nat} {va vm ve : Value} {a : Aut} (hB1 : Blk w.heap b1 89 [va, .int .i64 a.st, vm, ve, .slice (some ⟨bF, 0, none⟩) (n + 1) (n + 1)]) (hB2 : Blk w.heap b2 3 [.int .i64 s])
    (hBF : Blk w.heap bF 3 ((gA (n + 1) (fS a.ed)).map (Value.int .i64))) (hE : Eds L w.heap ve a.ed) (hso : a.ed.Pairwise fun x y => x.1 ≤ y.1) (hs : s < n) (hn : n ≤ 4096) :
    SeqStopsK (fen none) m Tryz.prog 92 [.pointer (some ⟨b1, 0, none⟩), .pointer (some ⟨b2, 0, none⟩)].toArray (fun x : { e : Ed // e ∈ a.ed } => #[.agg (edCells x.1).toArray]) (Lw w.heap.size L)
      (fun ys => ys.map (·.1) = outE a.ed s) (fun _ => True) (a.ed.length + 1) w := by
  intro l J Jx W hbel hJ hJx hY h0
  have hwW : Step [] w W := Step.of_below hbel
  have ab : ∀ {ys : List { e : Ed // e ∈ a.ed }} {W1 W2 : World}, J ys W1 → Step [] W1 W2 → J ys W2 := fun {ys W1 W2} hj hst => hJ ys W1 W2 none hj ⟨hst.os, hst.tape, hst.output, hst.size, fun k hk _ => hst.block k hk (by simp)⟩ (fun r e => by cases e)
  have hcl := cnF_le (fun e : Ed => decide (e.1 < (s : Int))) a.ed
  have hcl' := cnF_le (fun e : Ed => decide (e.1 < ((s + 1 : Nat) : Int))) a.ed
  obtain ⟨lo, hlo⟩ : ∃ lo : Nat, fS a.ed s = (lo : Int) := ⟨(fS a.ed s).toNat, by unfold fS; omega⟩
  obtain ⟨hi, hhi⟩ : ∃ hi : Nat, fS a.ed (s + 1) = (hi : Int) := ⟨(fS a.ed (s + 1)).toNat, by unfold fS; omega⟩
  obtain ⟨hseg, hhl, hlh⟩ := seg_out hso s lo hi hlo hhi
  have hel := hE.le
  have hol : (outE a.ed s).length = hi - lo := by rw [← hseg, List.length_take, List.length_drop]; omega
  have hmem : ∀ e ∈ outE a.ed s, e ∈ a.ed := fun e he => (outE_mem he).1
  have key : Ret Tryz.prog 92 [.func (.yield l) #[] #[], .pointer (some ⟨b1, 0, none⟩), .pointer (some ⟨b2, 0, none⟩)] W (fun _ W' => (∃ ys, ys.map (·.1) = outE a.ed s ∧ J ys W') ∨ (∃ pre, True ∧ Jx pre W')) := by
    refine Ret.of_G m Tryz.func92 rfl Tryz.ntmps92 Tryz.results92 (by simp) ?_
    have hB1' := hB1.ext hwW
    have hB2' := hB2.ext hwW
    have hBF' := hBF.ext hwW
    refine G_seq <| G_draw (Step [] W) [(0, true), (1, true), (2, true), (3, true), (4, true), (5, true), (6, true), (7, true), (8, true), (9, true), (10, true), (11, true), (12, true), (13, true), (14, true), (15, true), (16, true)] Tryz.mixed (by rfl) (by rfl) (by kernel_rfl) (Step.drew _ _) ?_
    refine p (fun _ => r_fieldB rfl) <| p (fun _ => r_fieldB rfl) <| pq (fun _ hc => r_loadB (hB1'.ext hc) rfl rfl) <| p (fun _ => r_fieldB rfl) <| pq (fun _ hc => r_loadB (hB1'.ext hc) rfl rfl) <| pq (fun _ hc => r_loadB (hB2'.ext hc) rfl rfl) <|
      p (fun _ => r_indexB (i := s) rfl rfl (by omega)) <| pq (fun _ hc => r_loadG (i := s) (hBF'.ext hc) rfl (by omega)) <| p (fun _ => r_fieldB rfl) <| pq (fun _ hc => r_loadB (hB1'.ext hc) rfl rfl) <|
      pq (fun _ hc => r_loadB (hB2'.ext hc) rfl rfl) <| p (fun _ => r_add rfl rfl ⟨by omega, by omega⟩) <| p (fun _ => r_indexB (i := s + 1) rfl rfl (by omega)) <| pq (fun _ hc => r_loadG (i := s + 1) (hBF'.ext hc) rfl (by omega)) <|
      pslB (lo := lo) (hi := hi) rfl hE rfl (congrArg (Value.int .i64) hlo) (congrArg (Value.int .i64) hhi) hlh hhl fun v20 hA20 => p (fun _ => r_lenA hA20 rfl) <| p (fun _ => r_move) <| pe ?_
    have hS : Eds L w.heap v20 (outE a.ed s) := by
      unfold Eds
      rw [hol, ← hseg, ← flat_take, ← flat_drop]; exact hA20
    have hd0 : Step [] W { W with drawn := W.drawn + 1 } := Step.drew _ _
    refine G_block <| G_loop (α := Nat × List { e : Ed // e ∈ a.ed }) [(5, 5), (22, 30)] (fun z => [(22, .int .i64 z.1)]) (fun z ds W' => ds = [] ∧ z.1 ≤ (outE a.ed s).length ∧ Step L w W' ∧ z.2.map (·.1) = (outE a.ed s).take z.1 ∧ J z.2 W') (fun z => (outE a.ed s).length - z.1) (by rfl) (0, []) ⟨rfl, trivial⟩
      ⟨rfl, Nat.zero_le _, (hwW.trans hd0).any, rfl, ab h0 hd0⟩ ?_
    rintro ⟨k, ys⟩ g ds w1 ⟨rfl, hk, hs1, hys, hJ1⟩
    simp only [] at hk hys hJ1
    refine G_seq <| G_region (by rfl) (by rfl) ?_
    refine x (r_lss rfl rfl) <| xe ?_
    refine G_seq <| G_ifn rfl (fun h23 => ?_) (fun h23 => ?_)
    · refine G_exit ?_
      have hke : (outE a.ed s).length ≤ k := by
        have h24 : ¬ (k : Int) < ((hi - lo : Nat) : Int) := h23
        omega
      rw [List.take_of_length_le hke] at hys
      exact ⟨fun _ h => (by cases h), List.nodup_nil, [], fun W' hW' => ⟨trivial, .inl ⟨ys, hys, ab hJ1 hW'⟩⟩⟩
    refine G_skip ?_
    have hlt : k < (outE a.ed s).length := by
      have h24 : (k : Int) < ((hi - lo : Nat) : Int) := h23
      omega
    have hel2 := outE_len a.ed s
    have htk : (outE a.ed s).take (k + 1) = (outE a.ed s).take k ++ [(outE a.ed s)[k]'hlt] := List.take_succ_eq_append_getElem hlt
    have hme := hmem _ (List.getElem_mem hlt)
    have hyl : ys.length = k := by have := congrArg List.length hys; rw [List.length_map, List.length_take] at this; omega
    refine exE ((outE a.ed s)[k]'hlt) fun e he => ?_
    rw [he] at htk hme
    refine G_seq <| G_block <| G_seq <| G_region (by rfl) (by rfl) ?_
    refine xie (i := k) (hS.st hs1) rfl rfl hlt fun a24 h24 => ?_
    rw [he] at h24
    refine x (r_loadsA h24 rfl rfl) <| xl rfl <| o_alloc (us := [.int .i64 0, .int .i64 0, .int .i64 0]) rfl fun b5 w2 hs2 hb5 hB5 => xl rfl <| o_stores (us := edCells e) hB5 rfl rfl rfl rfl ⟨rfl, rfl, rfl, trivial⟩ fun w3 hs3 hB5' => xe ?_
    have hs13 : Step [] w1 w3 := hs2.then1 hs3 hb5
    refine G_seq <| G_regionY (by rfl) ?_
    refine XLY.pre2 ?_
    refine x r_move <| x (r_loadsB hB5' rfl rfl) <| xe ?_
    refine xy (l := l) rfl (hY ys ⟨e, hme⟩ w3 (ab hJ1 hs13) (by omega)) fun en W3 hen => Or.elim hen (fun h1 => ⟨.bool true, h1.1, ?_⟩) (fun h1 => ⟨.bool false, h1.1, ?_⟩)
    · refine XLY.of_XL <| x (r_not rfl) <| xe ?_
      refine G_false rfl <| G_skip ?_
      refine G_region (by rfl) (by rfl) ?_
      refine x (r_add rfl rfl ⟨by omega, by omega⟩) <| x r_move <| xe ?_
      exact ⟨(k + 1, ys ++ [⟨e, hme⟩]), by simp only []; omega, ⟨rfl, trivial⟩, rfl, hlt, (hs1.trans hs13).lw h1.2.2, by rw [htk, List.map_append, hys]; rfl, h1.2.1⟩
    · refine XLY.of_XL <| x (r_not rfl) <| xe ?_
      refine G_true rfl ?_
      refine G_ret ⟨fun _ h => (by cases h), List.nodup_nil, [], fun W' hW' => ⟨trivial, .inr ⟨ys ++ [⟨e, hme⟩], trivial, ?_⟩⟩⟩
      exact hJx _ W3 W' none h1.2 ⟨hW'.os, hW'.tape, hW'.output, hW'.size, fun k hk _ => hW'.block k hk (by simp)⟩ (fun r e => by cases e)
  refine (callsIn_wide (n := m)).2 ?_
  have ea : (#[.func (.yield l) #[] #[]] ++ [.pointer (some ⟨b1, 0, none⟩), .pointer (some ⟨b2, 0, none⟩)].toArray : Array Value) = [.func (.yield l) #[] #[], .pointer (some ⟨b1, 0, none⟩), .pointer (some ⟨b2, 0, none⟩)].toArray := by simp
  rw [ea]
  unfold Ret at key
  refine Calls.mono key fun e w' he => ?_
  cases e with
  | returned v => exact ⟨⟨v, rfl⟩, he⟩
  | panicked c => exact he.elim
  | outgrown => exact he.elim
end Go.Proofs.YtfhgnlkdcdlblaaGreatDoor
/- Plain: every state of a product but the first one has an edge from a lesser state; the way back along first edges. -/
namespace Go.Proofs.YtfhgnlkdcdlblaaGreatDoor
open Go.Lg

def Par (n : Nat) (ed : List Ed) : Prop := ∀ j : Nat, 0 < j → j < n → ∃ e ∈ ed, e.2.2 = (j : Int) ∧ e.1 < (j : Int)
theorem syE_par {aa : List Aut} {i : Nat} {t : List Int} {s s' : Sy} {v : Int} (h : Par s.tup.length s.ed) (hi : i < s.tup.length) (e : syE aa i t s v = some s') : Par s'.tup.length s'.ed ∧ i < s'.tup.length := by
  unfold syE at e
  cases hs : stepT v aa t with
  | none => rw [hs] at e; cases e; exact ⟨h, hi⟩
  | some u =>
    rw [hs] at e
    simp only [] at e
    by_cases hu : u ∈ s.tup
    · rw [if_pos hu] at e
      cases e
      refine ⟨fun j h0 hj => ?_, hi⟩
      obtain ⟨d, hd, h1⟩ := h j h0 hj
      exact ⟨d, List.mem_append_left _ hd, h1⟩
    · rw [if_neg hu] at e
      split at e
      · cases e
      · cases e
        refine ⟨fun j h0 hj => ?_, by simp; omega⟩
        simp only [List.length_append, List.length_singleton] at hj
        by_cases hjl : j = s.tup.length
        · exact ⟨((i : Int), v, (s.tup.length : Int)), by simp, by rw [hjl], by simp only []; omega⟩
        · obtain ⟨d, hd, h1⟩ := h j h0 (by omega)
          exact ⟨d, List.mem_append_left _ hd, h1⟩
theorem syEs_par {aa : List Aut} {i : Nat} {t : List Int} : ∀ (vs : List Int) (s s' : Sy), Par s.tup.length s.ed → i < s.tup.length → syEs aa i t vs s = some s' → Par s'.tup.length s'.ed
  | [], s, s', h, _, e => by cases e; exact h
  | v :: vs, s, s', h, hi, e => by
    rw [syEs] at e
    obtain ⟨s1, h1, h2⟩ := Option.bind_eq_some_iff.1 e
    have := syE_par h hi h1
    exact syEs_par vs s1 s' this.1 this.2 h2
theorem syL_par {aa : List Aut} : ∀ (f i : Nat) (s s' : Sy), Par s.tup.length s.ed → syL aa f i s = some s' → Par s'.tup.length s'.ed
  | 0, i, s, s', h, e => by cases e; exact h
  | f + 1, i, s, s', h, e => by
    rw [syL] at e
    split at e
    · rename_i hi
      obtain ⟨s1, h1, h2⟩ := Option.bind_eq_some_iff.1 e
      have ht : (syMark aa i (syT s i) s).tup = s.tup := by unfold syMark; split <;> rfl
      have hed : (syMark aa i (syT s i) s).ed = s.ed := by unfold syMark; split <;> rfl
      refine syL_par f (i + 1) s1 s' (syEs_par _ _ s1 (by rw [ht, hed]; exact h) (by rw [ht]; exact hi) h1) h2
    · cases e; exact h
theorem sync_par {aa : List Aut} {A : Aut} {Q : List (List Int)} (h : sync aa = some (A, Q)) : Par Q.length A.ed := by
  unfold sync at h
  split at h
  · cases h; intro j _ hj; simp at hj
  · obtain ⟨s, h1, h2⟩ := Option.map_eq_some_iff.1 h
    cases h2
    exact syL_par 4096 0 (sy0 aa) s (fun j h0 hj => by simp [sy0] at hj; omega) h1
/-- The first edge to a state. -/
def fto (ed : List Ed) (s : Int) : Ed := (ed.find? fun e => e.2.2 == s).getD (0, 0, 0)
theorem fto_spec {n : Nat} {ed : List Ed} (hp : Par n ed) (hs : ed.Pairwise fun x y => x.1 ≤ y.1) {j : Nat} (h0 : 0 < j) (hj : j < n) : fto ed j ∈ ed ∧ (fto ed j).2.2 = (j : Int) ∧ (fto ed j).1 < (j : Int) := by
  obtain ⟨e, he, h1, h2⟩ := hp j h0 hj
  have hf : ∃ d, ed.find? (fun e => e.2.2 == (j : Int)) = some d := by
    cases hf : ed.find? (fun e => e.2.2 == (j : Int)) with
    | none => rw [List.find?_eq_none] at hf; have := hf e he; simp [h1] at this
    | some d => exact ⟨d, rfl⟩
  obtain ⟨d, hd⟩ := hf
  have e1 : fto ed j = d := by unfold fto; rw [hd]; rfl
  rw [e1]
  obtain ⟨hdp, pre, post, heq, hno⟩ := List.find?_eq_some_iff_append.1 hd
  have hdj : d.2.2 = (j : Int) := by simpa using hdp
  refine ⟨by rw [heq]; simp, hdj, ?_⟩
  rw [heq] at he hs
  rcases List.mem_append.1 he with h3 | h3
  · have := hno e h3; simp [h1] at this
  · rcases List.mem_cons.1 h3 with rfl | h3
    · exact h2
    · have := (List.pairwise_cons.1 (List.pairwise_append.1 hs).2.1).1 e h3
      omega
/-- The events on the way back. -/
def bak (ed : List Ed) : Nat → Int → List Int
  | 0, _ => []
  | f + 1, s => if 0 < s then (fto ed s).2.1 :: bak ed f (fto ed s).1 else []
end Go.Proofs.YtfhgnlkdcdlblaaGreatDoor
/- The least word to a state: reach.path as plain functions; where all states are reached it finds one. -/
namespace Go.Proofs.YtfhgnlkdcdlblaaGreatDoor
open Go.Lg

def stS (st : List Ed) : List Int := st.map (·.1)
def gE (st : List Ed) (k : Nat) : Ed := st.getD k (0, -1, 0)
theorem gE_eq {st : List Ed} {k : Nat} (h : k < st.length) : st[k]'h = gE st k := by simp [gE, List.getD, h]
theorem gE_mem {st : List Ed} {k : Nat} (h : k < st.length) : gE st k ∈ st := by rw [← gE_eq h]; exact List.getElem_mem h
def addP (pm : Ed → Bool) (i : Nat) (st : List Ed) (e : Ed) : List Ed := if e.2.2 ∉ stS st ∧ pm e = true then st ++ [(e.2.2, (i : Int), e.2.1)] else st
def wrd (st : List Ed) : Nat → Nat → List Int
  | 0, _ => []
  | f + 1, k => if 0 ≤ (gE st k).2.1 then (gE st k).2.2 :: wrd st f (gE st k).2.1.toNat else []
def pthL (wt : Int → Bool) (pm : Ed → Bool) (es : List Ed) : Nat → Nat → List Ed → List Int × Bool
  | 0, _, _ => ([], false)
  | f + 1, i, st => if i < st.length then (if wt (gE st i).1 = true then ((wrd st (i + 1) i).reverse, true) else pthL wt pm es f (i + 1) ((outE es (gE st i).1).foldl (addP pm i) st)) else ([], false)
/-- The word, and whether there is one. -/
def pth (wt : Int → Bool) (pm : Ed → Bool) (es : List Ed) (n from0 : Nat) : List Int × Bool := pthL wt pm es (n + 1) 0 [((from0 : Int), -1, -1)]
structure PtOk (n : Nat) (st : List Ed) : Prop where
  nd : (stS st).Nodup
  rg : ∀ x ∈ st, 0 ≤ x.1 ∧ x.1 < (n : Int)
  par : ∀ k, k < st.length → (gE st k).2.1 = -1 ∨ (0 ≤ (gE st k).2.1 ∧ (gE st k).2.1 < (k : Int))
theorem PtOk.le {n : Nat} {st : List Ed} (h : PtOk n st) : st.length ≤ n := by
  have := pig n (stS st) h.nd (fun x hx => by
    unfold stS at hx
    obtain ⟨y, hy, rfl⟩ := List.mem_map.1 hx
    exact h.rg y hy)
  simpa [stS] using this
theorem gE_snoc {st : List Ed} {x : Ed} {k : Nat} (h : k < st.length) : gE (st ++ [x]) k = gE st k := by
  unfold gE; simp [List.getD, List.getElem?_append_left h]
theorem gE_last (st : List Ed) (x : Ed) : gE (st ++ [x]) st.length = x := by
  unfold gE; simp [List.getD]
theorem addP_ok {n i : Nat} {pm : Ed → Bool} {st : List Ed} {e : Ed} (h : PtOk n st) (hi : i < st.length) (he : 0 ≤ e.2.2 ∧ e.2.2 < (n : Int)) : PtOk n (addP pm i st e) ∧ i < (addP pm i st e).length := by
  unfold addP
  split
  · rename_i hc
    refine ⟨⟨?_, fun x hx => ?_, fun k hk => ?_⟩, by simp; omega⟩
    · unfold stS at hc ⊢
      rw [List.map_append]
      exact nodup_snoc h.nd hc.1
    · simp only [List.mem_append, List.mem_singleton] at hx
      rcases hx with hx | rfl
      · exact h.rg x hx
      · exact he
    · by_cases hkl : k < st.length
      · rw [gE_snoc hkl]; exact h.par k hkl
      · have : k = st.length := by simp at hk; omega
        subst this
        rw [gE_last]
        simp only []; omega
  · exact ⟨h, hi⟩
theorem pt0_ok {n from0 : Nat} (h : from0 < n) : PtOk n [((from0 : Int), -1, -1)] := by
  refine ⟨by simp [stS], fun x hx => ?_, fun k hk => ?_⟩
  · simp at hx; subst hx; simp only []; omega
  · simp at hk; subst hk; exact .inl rfl
theorem pthL_done {wt : Int → Bool} {pm : Ed → Bool} {es : List Ed} {f i : Nat} {st : List Ed} (h : ¬ i < st.length) : pthL wt pm es f i st = ([], false) := by
  cases f with
  | zero => rfl
  | succ f => rw [pthL, if_neg h]

/-! ### Where every state is reached, a wanted one is found -/
theorem addP_pre (pm : Ed → Bool) (i : Nat) (st : List Ed) (e : Ed) : st <+: addP pm i st e := by
  unfold addP; split
  · exact List.prefix_append _ _
  · exact List.prefix_refl _
theorem addPs_pre (pm : Ed → Bool) (i : Nat) : ∀ (l : List Ed) (st : List Ed), st <+: l.foldl (addP pm i) st
  | [], _ => List.prefix_refl _
  | e :: l, st => (addP_pre pm i st e).trans (addPs_pre pm i l _)
theorem addPs_ok {n i : Nat} {pm : Ed → Bool} : ∀ (l : List Ed) (st : List Ed), PtOk n st → i < st.length → (∀ e ∈ l, 0 ≤ e.2.2 ∧ e.2.2 < (n : Int)) → PtOk n (l.foldl (addP pm i) st) ∧ i < (l.foldl (addP pm i) st).length
  | [], _, h, hi, _ => ⟨h, hi⟩
  | e :: l, st, h, hi, hl => by
    have h1 := addP_ok (pm := pm) h hi (hl e List.mem_cons_self)
    exact addPs_ok l _ h1.1 h1.2 (fun d hd => hl d (List.mem_cons_of_mem _ hd))
theorem gE_pre {st st' : List Ed} (h : st <+: st') {k : Nat} (hk : k < st.length) : gE st' k = gE st k := by
  obtain ⟨r, rfl⟩ := h
  unfold gE; simp [List.getD, List.getElem?_append_left hk]
theorem stS_pre {st st' : List Ed} (h : st <+: st') {x : Int} (hx : x ∈ stS st) : x ∈ stS st' := by
  obtain ⟨r, rfl⟩ := h
  unfold stS at *; rw [List.map_append]; exact List.mem_append_left _ hx
theorem addPs_mem {pm : Ed → Bool} {i : Nat} : ∀ (l : List Ed) (st : List Ed), (∀ e ∈ l, pm e = true) → ∀ e ∈ l, e.2.2 ∈ stS (l.foldl (addP pm i) st)
  | [], _, _, e, he => by cases he
  | d :: l, st, h, e, he => by
    rcases List.mem_cons.1 he with rfl | he
    · refine stS_pre (addPs_pre pm i l _) ?_
      unfold addP
      by_cases hc : e.2.2 ∈ stS st
      · rw [if_neg (fun h => h.1 hc)]; exact hc
      · rw [if_pos ⟨hc, h e List.mem_cons_self⟩]
        unfold stS; rw [List.map_append]; simp
    · exact addPs_mem l _ (fun e he => h e (List.mem_cons_of_mem _ he)) e he
theorem pthL_found {wt : Int → Bool} {pm : Ed → Bool} {es : List Ed} {n : Nat} (hpar : Par n es) (hes : ∀ e ∈ es, 0 ≤ e.1 ∧ 0 ≤ e.2.2 ∧ e.2.2 < (n : Int)) (hpm : ∀ e ∈ es, pm e = true) {s : Nat} (hs : s < n) (hw : wt s = true) :
    ∀ (f i : Nat) (st : List Ed), PtOk n st → (0 : Int) ∈ stS st → n + 1 ≤ f + i → (∀ k, k < i → k < st.length → wt (gE st k).1 = false ∧ ∀ e ∈ es, e.1 = (gE st k).1 → e.2.2 ∈ stS st) → (pthL wt pm es f i st).2 = true := by
  have fin : ∀ (i : Nat) (st : List Ed), PtOk n st → (0 : Int) ∈ stS st → ¬ i < st.length → (∀ k, k < i → k < st.length → wt (gE st k).1 = false ∧ ∀ e ∈ es, e.1 = (gE st k).1 → e.2.2 ∈ stS st) → False := by
    intro i st hok h0 hi hcl
    have idx : ∀ x ∈ stS st, ∃ k, k < st.length ∧ (gE st k).1 = x := by
      intro x hx
      unfold stS at hx
      obtain ⟨y, hy, rfl⟩ := List.mem_map.1 hx
      obtain ⟨k, hk, rfl⟩ := List.getElem_of_mem hy
      exact ⟨k, hk, by rw [gE_eq hk]⟩
    have all : ∀ (m j : Nat), j < m → j < n → (j : Int) ∈ stS st := by
      intro m
      induction m with
      | zero => intro j hj; omega
      | succ m ih =>
        intro j hj hjn
        by_cases hj0 : j = 0
        · subst hj0; exact h0
        · obtain ⟨e, he, h1, h2⟩ := hpar j (by omega) hjn
          have he0 := (hes e he).1
          have h3 := ih e.1.toNat (by omega) (by omega)
          have h4 : ((e.1.toNat : Nat) : Int) = e.1 := by omega
          rw [h4] at h3
          obtain ⟨k, hk, hke⟩ := idx _ h3
          have h5 := (hcl k (by omega) hk).2 e he hke.symm
          rw [h1] at h5; exact h5
    obtain ⟨k, hk, hke⟩ := idx _ (all (s + 1) s (by omega) hs)
    have := (hcl k (by omega) hk).1
    rw [hke, hw] at this; cases this
  intro f
  induction f with
  | zero =>
    intro i st hok h0 hf hcl
    have := hok.le
    exact (fin i st hok h0 (by omega) hcl).elim
  | succ f ih =>
    intro i st hok h0 hf hcl
    by_cases hi : i < st.length
    · rw [pthL, if_pos hi]
      split
      · rfl
      · rename_i hwn
        have ho := fun e (he : e ∈ outE es (gE st i).1) => outE_mem he
        have hk := addPs_ok (pm := pm) (outE es (gE st i).1) st hok hi (fun e he => (hes e (ho e he).1).2)
        have hpre := addPs_pre pm i (outE es (gE st i).1) st
        have hl : st.length ≤ ((outE es (gE st i).1).foldl (addP pm i) st).length := hpre.length_le
        refine ih (i + 1) _ hk.1 (stS_pre hpre h0) (by omega) (fun k hki hkl => ?_)
        by_cases e : k = i
        · subst e
          rw [gE_pre hpre hi]
          refine ⟨by simpa using hwn, fun e he h1 => ?_⟩
          exact addPs_mem _ st (fun d hd => hpm d (ho d hd).1) e (by unfold outE; simp [he, h1])
        · have hks : k < st.length := by omega
          rw [gE_pre hpre hks]
          have := hcl k (by omega) hks
          exact ⟨this.1, fun e he h1 => stS_pre hpre (this.2 e he h1)⟩
    · exact (fin i st hok h0 hi hcl).elim
theorem pth_found {wt : Int → Bool} {pm : Ed → Bool} {es : List Ed} {n : Nat} (hpar : Par n es) (hes : ∀ e ∈ es, 0 ≤ e.1 ∧ 0 ≤ e.2.2 ∧ e.2.2 < (n : Int)) (hpm : ∀ e ∈ es, pm e = true) {s : Nat} (hs : s < n) (hw : wt s = true) : (pth wt pm es n 0).2 = true :=
  pthL_found hpar hes hpm hs hw (n + 1) 0 _ (pt0_ok (by omega)) (by simp [stS]) (by omega) (fun k hk => by omega)
end Go.Proofs.YtfhgnlkdcdlblaaGreatDoor
/- Contract: reach.path (its loop over a function within a loop). -/
namespace Go.Proofs.YtfhgnlkdcdlblaaGreatDoor
open Go.Lg

structure PI (w0 : World) (b4 b7 b10 b11 bS n : Nat) (gc : List Value) (pf : Value) (bi i : Nat) (vs : Value) (st : List Ed) (W : World) : Prop where
  stp : Step [] w0 W
  B4 : Blk W.heap b4 89 gc
  B7 : Blk W.heap b7 86 [pf]
  B10 : Blk W.heap b10 125 [vs]
  B11 : Blk W.heap b11 93 [.slice (some ⟨bS, 0, none⟩) n n]
  BS : Blk W.heap bS 4 ((flg n (stS st)).map Value.bool)
  BI : Blk W.heap bi 3 [.int .i64 i]
  R : EdsO 124 w0.heap.size W vs st
  ne : ∀ b ∈ ob vs, b ≠ b4 ∧ b ≠ b7 ∧ b ≠ b10 ∧ b ≠ b11 ∧ b ≠ bS ∧ b ≠ bi
theorem PI.ext {w0 : World} {b4 b7 b10 b11 bS n : Nat} {gc : List Value} {pf : Value} {bi i : Nat} {vs : Value} {st : List Ed} {W W' : World} (h : PI w0 b4 b7 b10 b11 bS n gc pf bi i vs st W) (hs : Step [] W W') : PI w0 b4 b7 b10 b11 bS n gc pf bi i vs st W' :=
  ⟨h.stp.trans hs, h.B4.ext hs, h.B7.ext hs, h.B10.ext hs, h.B11.ext hs, h.BS.ext hs, h.BI.ext hs, own_ext h.R hs, h.ne⟩
theorem PI.stb {w0 : World} {b4 b7 b10 b11 bS n : Nat} {gc : List Value} {pf : Value} {bi i : Nat} {vs : Value} {st : List Ed} {B : Nat} (hB : w0.heap.size ≤ B) : Stb B (fun W => PI w0 b4 b7 b10 b11 bS n gc pf bi i vs st W) := fun W W' X h hs hX =>
  ⟨Stb.step hB W W' X h.stp hs hX, Stb.blk W W' X h.B4 hs hX, Stb.blk W W' X h.B7 hs hX, Stb.blk W W' X h.B10 hs hX, Stb.blk W W' X h.B11 hs hX, Stb.blk W W' X h.BS hs hX, Stb.blk W W' X h.BI hs hX, Stb.row W W' X h.R hs hX, h.ne⟩
/-- The blocks of deferred calls. -/
def DsK (lo hi : Nat) (ds : List Nat) (W : World) : Prop := ds.Nodup ∧ ∀ D ∈ ds, lo ≤ D ∧ D < hi ∧ W.heap[D]? = some (.deferred (some []))
theorem DsK.step {lo hi : Nat} {ds : List Nat} {W W' : World} {X : List Nat} (h : DsK lo hi ds W) (hs : Step X W W') (hX : ∀ b ∈ X, ∃ o : Obj, W.heap[b]? = some o ∧ o.isCells = true) : DsK lo hi ds W' := by
  refine ⟨h.1, fun D hD => ⟨(h.2 D hD).1, (h.2 D hD).2.1, ?_⟩⟩
  have h3 := (h.2 D hD).2.2
  refine (hs.block D (Array.getElem?_eq_some_iff.1 h3).1 (fun hx => ?_)).trans h3
  obtain ⟨o, h4, h5⟩ := hX D hx
  rw [h3] at h4; cases h4; cases h5
theorem DsK.ext {lo hi : Nat} {ds : List Nat} {W W' : World} (h : DsK lo hi ds W) (hs : Step [] W W') : DsK lo hi ds W' := h.step hs (fun _ hb => by cases hb)
theorem DsK.blk {lo hi : Nat} {ds : List Nat} {W W' : World} {b T : Nat} {cs : List Value} (h : DsK lo hi ds W) (hs : Step [b] W W') (hb : Blk W.heap b T cs) : DsK lo hi ds W' :=
  h.step hs (fun c hc => by have e : c = b := by simpa using hc
                            subst e; exact hb.cells)
theorem DsK.up {lo hi hi' : Nat} {ds : List Nat} {W : World} (h : DsK lo hi ds W) (hh : hi ≤ hi') : DsK lo hi' ds W := ⟨h.1, fun D hD => ⟨(h.2 D hD).1, by have := (h.2 D hD).2.1; omega, (h.2 D hD).2.2⟩⟩
theorem DsK.cons {lo hi : Nat} {ds : List Nat} {W : World} {D : Nat} (h : DsK lo hi ds W) (hl : lo ≤ hi) (hD : hi ≤ D) (hd : W.heap[D]? = some (.deferred (some []))) : DsK lo W.heap.size (D :: ds) W := by
  have hlt := (Array.getElem?_eq_some_iff.1 hd).1
  refine ⟨List.nodup_cons.2 ⟨fun hm => by have := (h.2 D hm).2.1; omega, h.1⟩, fun E hE => ?_⟩
  rcases List.mem_cons.1 hE with rfl | hE
  · exact ⟨by omega, hlt, hd⟩
  · have := h.2 E hE
    exact ⟨this.1, (Array.getElem?_eq_some_iff.1 this.2.2).1, this.2.2⟩
theorem DsK.stb {lo hi B : Nat} {ds : List Nat} (hh : hi ≤ B) : Stb B (fun W => DsK lo hi ds W) := fun W W' X h hs hX => by
  refine ⟨h.1, fun D hD => ⟨(h.2 D hD).1, (h.2 D hD).2.1, ?_⟩⟩
  have h3 := (h.2 D hD).2.2
  refine (hs.block D (Array.getElem?_eq_some_iff.1 h3).1 (fun hx => ?_)).trans h3
  have := (hX D hx).1
  have := (h.2 D hD).2.1
  omega
theorem DsK.own {lo hi : Nat} {ds : List Nat} {W : World} {base e sz n : Nat} {v : Value} {cs : List Value} (h : DsK lo hi ds W) (ho : W.ownsRow base e sz v n cs) : ∀ b ∈ ob v, b ∉ ds := fun b hb hd => by
  obtain ⟨o, h1, h2⟩ := own_cells ho b hb
  rw [(h.2 b hd).2.2] at h1; cases h1; cases h2
theorem DsK.rst {lo hi B : Nat} {L ds : List Nat} {W W' : World} (h : DsK lo hi ds W) (hs : RSt B L W W') : DsK lo hi ds W' := ⟨h.1, fun D hD => ⟨(h.2 D hD).1, (h.2 D hD).2.1, hs.other D _ (h.2 D hD).2.2 rfl⟩⟩
theorem PI.add {w0 : World} {b4 b7 b10 b11 bS n : Nat} {gc : List Value} {pf : Value} {bi i : Nat} {v v' : Value} {st : List Ed} {x : Ed} {W W1 W2 W3 W4 : World} {B : Nat} {L0 : List Nat} (h : PI w0 b4 b7 b10 b11 bS n gc pf bi i v st W)
    (hd : bS ≠ b4 ∧ bS ≠ b7 ∧ bS ≠ b10 ∧ bS ≠ b11 ∧ bS ≠ bi ∧ b10 ≠ b4 ∧ b10 ≠ b7 ∧ b10 ≠ b11 ∧ b10 ≠ bi) (hB : B ≤ W.heap.size) (hbS : w0.heap.size ≤ bS) (hb10 : w0.heap.size ≤ b10) (hlt : b4 < W.heap.size ∧ b7 < W.heap.size ∧ b11 < W.heap.size ∧ bi < W.heap.size)
    (h1 : Step [bS] W W1) (hS : Blk W1.heap bS 4 ((flg n (stS (st ++ [x]))).map Value.bool)) (h2 : Step [] W1 W2) (h3 : Step (ob v) W2 W3) (hR : EdsO 124 w0.heap.size W3 v' (st ++ [x])) (hn : ∀ b ∈ ob v', b ∈ ob v ∨ W2.heap.size ≤ b)
    (h4 : Step [b10] W3 W4) (h10 : Blk W4.heap b10 125 [v']) (hv : ∀ b ∈ ob v, b ∈ L0 ∨ B ≤ b) :
    PI w0 b4 b7 b10 b11 bS n gc pf bi i v' (st ++ [x]) W4 ∧ RSt B (bS :: b10 :: L0) W W4 ∧ (∀ b ∈ ob v', b ∈ L0 ∨ B ≤ b) := by
  have hz1 := h1.size
  have hz2 := h2.size
  have hz3 := h3.size
  have hlS := h.BS.lt
  have hl10 := h.B10.lt
  have key : ∀ b T cs, Blk W.heap b T cs → b ≠ bS → b ∉ ob v → b ≠ b10 → Blk W4.heap b T cs := fun b T cs hb e1 e2 e3 => (((hb.step h1 (by simpa using e1)).ext h2).step h3 e2).step h4 (by simpa using e3)
  have hne := h.ne
  have nin : ∀ b, (∀ c ∈ ob v, c ≠ b) → b ∉ ob v := fun b hb hm => hb b hm rfl
  have hb10v : b10 ∉ ob v := nin _ fun c hc => (hne c hc).2.2.1
  have hbSv : bS ∉ ob v := nin _ fun c hc => (hne c hc).2.2.2.2.1
  have hRow : W2.ownsRow w0.heap.size 124 3 v st.length (st.flatMap edCells) := own_ext (own_step h.R h1 (fun b hb => by have := (hne b hb).2.2.2.2.1; simpa using this)) h2
  have hge : ∀ b ∈ ob v', b ≠ b4 ∧ b ≠ b7 ∧ b ≠ b10 ∧ b ≠ b11 ∧ b ≠ bS ∧ b ≠ bi := fun b hb => by
    rcases hn b hb with hb | hb
    · exact hne b hb
    · omega
  refine ⟨⟨?_, key _ _ _ h.B4 hd.1.symm (nin _ fun c hc => (hne c hc).1) hd.2.2.2.2.2.1.symm, key _ _ _ h.B7 hd.2.1.symm (nin _ fun c hc => (hne c hc).2.1) hd.2.2.2.2.2.2.1.symm, h10,
    key _ _ _ h.B11 hd.2.2.2.1.symm (nin _ fun c hc => (hne c hc).2.2.2.1) hd.2.2.2.2.2.2.2.1.symm, ((hS.ext h2).step h3 hbSv).step h4 (by have := hd.2.2.1; simpa using this), key _ _ _ h.BI hd.2.2.2.2.1.symm (nin _ fun c hc => (hne c hc).2.2.2.2.2) hd.2.2.2.2.2.2.2.2.symm,
    own_step hR h4 (fun b hb => by have := (hge b hb).2.2.1; simpa using this), hge⟩, ?_, fun b hb => ?_⟩
  · exact (((h.stp.then1 h1 hbS).trans h2).then h3 (fun b hb => .inr (own_ge h.R b hb).1)).then1 h4 hb10
  · have r1 : RSt B (bS :: b10 :: L0) W W1 := RSt.blk h1 hB h.BS (.inl (by simp))
    have r2 : RSt B (bS :: b10 :: L0) W1 W2 := RSt.ext h2 (by omega)
    have r3 : RSt B (bS :: b10 :: L0) W2 W3 := RSt.step h3 (by omega) (fun b hb => ⟨(hv b hb).imp (fun h => by simp [h]) id, own_cells hRow b hb⟩)
    have r4 : RSt B (bS :: b10 :: L0) W3 W4 := RSt.blk h4 (by omega) ((((h.B10.step h1 (by have := hd.2.2.1; simpa using this.symm)).ext h2).step h3 hb10v)) (.inl (by simp))
    exact ((r1.trans r2).trans r3).trans r4
  · rcases hn b hb with hb | hb
    · exact hv b hb
    · exact .inr (by omega)
theorem flg_at {n : Nat} {l : List Int} {x : Int} (h0 : 0 ≤ x) (h1 : x < (n : Int)) : ((flg n l).map Value.bool)[0 + x.toNat * 1]? = some (.bool (decide (x ∈ l))) := by
  have hlt : x.toNat < (flg n l).length := by rw [flg_len]; omega
  have e : ((x.toNat : Nat) : Int) = x := by omega
  simp only [Nat.zero_add, Nat.mul_one, List.getElem?_map, List.getElem?_eq_getElem hlt, Option.map_some, flg_get, e]

theorem path_ok {w : World} {va vm ve : Value} {a : Aut} {n bF from0 gw gp : Nat} {fw fp : Func} [Fu Tryz.prog gw fw] [Fu Tryz.prog gp fp] {cw cp : List Value} {wt : Int → Bool} {pm : Ed → Bool}
    (hA : AutA [] w.heap va vm ve a) (hn : a.st = (n : Int)) (hst1 : n ≤ 4096) (hed : ∀ e ∈ a.ed, 0 ≤ e.2.2 ∧ e.2.2 < (n : Int)) (hso : a.ed.Pairwise fun x y => x.1 ≤ y.1) (hBF : Blk w.heap bF 3 ((gA (n + 1) (fS a.ed)).map (Value.int .i64))) (hf : from0 < n)
    (hwt : ∀ (s : Int) (w' : World), 0 ≤ s → s < (n : Int) → Step [] w w' → Ret Tryz.prog gw (.int .i64 s :: cw) w' fun r w'' => r = .bool (wt s) ∧ Step [] w' w'')
    (hpm : ∀ (e : Ed) (w' : World), e ∈ a.ed → Step [] w w' → Ret Tryz.prog gp (.agg (edCells e).toArray :: cp) w' fun r w'' => r = .bool (pm e) ∧ Step [] w' w'') :
    Ret Tryz.prog 41 [.agg #[va, .int .i64 a.st, vm, ve, .slice (some ⟨bF, 0, none⟩) (n + 1) (n + 1)], .int .i64 from0, .func (.func gw) #[] cw.toArray, .func (.func gp) #[] cp.toArray] w fun r w' =>
      Step [] w w' ∧ ∃ v, r = .tuple #[v, .bool (pth wt pm a.ed n from0).2] ∧ IntsO 3 w.heap.size w' v (pth wt pm a.ed n from0).1 := by
  refine Ret.of_G 3 Tryz.func41 rfl Tryz.ntmps41 Tryz.results41 (by simp) ?_
  refine G_seq <| G_region (by rfl) (by rfl) ?_
  refine xl rfl <| o_box (us := [va, .int .i64 a.st, vm, ve, .slice (some ⟨bF, 0, none⟩) (n + 1) (n + 1)]) rfl fun b4 w1 hs1 hb4 hB4 => xl rfl <| o_box (us := [.func (.func gp) #[] cp.toArray]) rfl fun b7 w2 hs2 hb7 hB7 => x r_assign <| x r_assign <| xe ?_
  refine G_seq <| G_region (by rfl) (by rfl) ?_
  refine x r_move <| x (r_build ⟨rfl, rfl, rfl, trivial⟩) <| xl rfl <| o_lits (us := [[.int .i64 from0, .int .i64 (-1), .int .i64 (-1)]]) rfl rfl (by decide) (by simp) ⟨rfl, rfl, trivial⟩ fun bL w3 hs3 hbL hBL =>
    xl rfl <| o_alloc (us := [.slice none 0 0]) rfl fun b10 w4 hs4 hb10 hB10 => xl rfl <| o_store (u := .slice (some ⟨bL, 0, none⟩) 1 1) hB10 rfl rfl (by decide) rfl fun w5 hs5 hB10' => xe ?_
  have hl4 := hB4.lt
  have hl7 := hB7.lt
  have hlL := hBL.lt
  have hl10 := hB10.lt
  have hz1 := hs1.size
  have hz2 := hs2.size
  have hz3 := hs3.size
  have hz4 := hs4.size
  have hz5 := hs5.size
  have hs15 : Step [] w1 w5 := ((hs2.trans hs3).trans hs4).then1 hs5 (by omega)
  have hs25 : Step [] w2 w5 := (hs3.trans hs4).then1 hs5 (by omega)
  have hs35 : Step [] w3 w5 := hs4.then1 hs5 (by omega)
  refine G_seq <| G_region (by rfl) (by rfl) ?_
  refine x (r_fieldB rfl) <| x (r_fieldB rfl) <| x (r_loadB (hB4.ext hs15) rfl rfl) <| xl rfl <| o_make (n := n) (congrArg (Value.int .i64) hn) (congrArg (Value.int .i64) hn) (by omega) fun bS w6 hs6 hbS hBS => xl rfl <| o_alloc (us := [.slice none 0 0]) rfl fun b11 w7 hs7 hb11 hB11 =>
    xl rfl <| o_store (u := .slice (some ⟨bS, 0, none⟩) n n) hB11 rfl rfl (by decide) rfl fun w8 hs8 hB11' => xe ?_
  have hlS := hBS.lt
  have hl11 := hB11.lt
  have hz6 := hs6.size
  have hz7 := hs7.size
  have hz8 := hs8.size
  have hs58 : Step [] w5 w8 := (hs6.trans hs7).then1 hs8 (by omega)
  have hs68 : Step [] w6 w8 := hs7.then1 hs8 (by omega)
  have hBS0 : Blk w6.heap bS 4 ((flg n []).map Value.bool) := by
    have e : (List.replicate n (Value.bool false).cells.toList).flatten = (flg n []).map Value.bool := by
      simp only [flg, List.not_mem_nil, decide_false, List.map_map]
      apply List.ext_getElem
      · simp [Value.cells]
      · intro i h1 h2
        simp [Value.cells]
    rw [← e]; exact hBS
  refine G_seq <| G_region (by rfl) (by rfl) ?_
  refine x (r_loadB hB11' rfl rfl) <| x r_move <| x (r_indexB (i := from0) rfl rfl hf) <| xl rfl <| o_store (j := 0 + from0 * 1) (u := .bool true) (hBS0.ext hs68) rfl rfl (by rw [List.length_map, flg_len]; omega) rfl fun w9 hs9 hBS9 => xe ?_
  have hz9 := hs9.size
  have hBS9' : Blk w9.heap bS 4 ((flg n [(from0 : Int)]).map Value.bool) := by
    have e1 := flg_set (n := n) (l := []) (x := (from0 : Int)) (by omega)
    rw [List.nil_append] at e1
    rw [← e1, List.map_set]
    simpa using hBS9
  refine G_seq <| G_seq <| G_region (by rfl) (by rfl) ?_
  refine xl rfl <| o_alloc (us := [.int .i64 0]) rfl fun b12 w10 hs10 hb12 hB12 => xl rfl <| o_store (u := .int .i64 0) hB12 rfl rfl (by decide) rfl fun w11 hs11 hB12' => xe ?_
  have hl12 := hB12.lt
  have hz10 := hs10.size
  have hz11 := hs11.size
  have hs911 : Step [] w9 w11 := hs10.then1 hs11 hb12
  have hst0 : Step [] w w11 := (((hs1.trans hs15).trans hs58).then1 hs9 (by omega)).trans hs911
  have hPI : PI w b4 b7 b10 b11 bS n [va, .int .i64 a.st, vm, ve, .slice (some ⟨bF, 0, none⟩) (n + 1) (n + 1)] (.func (.func gp) #[] cp.toArray) b12 0 (.slice (some ⟨bL, 0, none⟩) 1 1) [((from0 : Int), -1, -1)] w11 := by
    refine ⟨hst0, (((hB4.ext hs15).ext hs58).step hs9 (by simp; omega)).ext hs911, (((hB7.ext hs25).ext hs58).step hs9 (by simp; omega)).ext hs911, ((hB10'.ext hs58).step hs9 (by simp; omega)).ext hs911,
      (hB11'.step hs9 (by simp; omega)).ext hs911, hBS9'.ext hs911, hB12', ?_, fun b hb => ?_⟩
    · have hBL11 := (((hBL.ext hs35).ext hs58).step hs9 (by simp; omega)).ext hs911
      exact hBL11.own (n := 1) (sz := 3) rfl (by omega) (by omega)
    · have e : b = bL := by simpa [ob] using hb
      subst e; omega
  have hel := hA.ed.le
  refine G_block <| G_loop (α := Nat × Nat × Nat × Value × List Ed) [(8, 9), (12, 15), (26, 68), (70, 94)] (fun z => [(12, .pointer (some ⟨z.2.1, 0, none⟩))])
    (fun z ds W => PI w b4 b7 b10 b11 bS n [va, .int .i64 a.st, vm, ve, .slice (some ⟨bF, 0, none⟩) (n + 1) (n + 1)] (.func (.func gp) #[] cp.toArray) z.2.1 z.1 z.2.2.2.1 z.2.2.2.2 W ∧ PtOk n z.2.2.2.2 ∧ DsK w.heap.size W.heap.size ds W ∧ w11.heap.size ≤ W.heap.size ∧
      (z.2.1 ≠ b4 ∧ z.2.1 ≠ b7 ∧ z.2.1 ≠ b10 ∧ z.2.1 ≠ b11 ∧ z.2.1 ≠ bS) ∧ w.heap.size ≤ z.2.1 ∧ z.1 ≤ z.2.2.2.2.length ∧ n + 1 ≤ z.2.2.1 + z.1 ∧ pthL wt pm a.ed z.2.2.1 z.1 z.2.2.2.2 = pth wt pm a.ed n from0)
    (fun z => n + 1 - z.1) (by rfl) (0, b12, n + 1, .slice (some ⟨bL, 0, none⟩) 1 1, [((from0 : Int), -1, -1)]) ⟨rfl, trivial⟩
    ⟨hPI, pt0_ok hf, ⟨List.nodup_nil, fun _ h => by cases h⟩, Nat.le_refl _, by simp only []; omega, by simp only []; omega, by simp, by simp, rfl⟩ ?_
  rintro ⟨i, bi, fu, vs, st⟩ g ds w12 ⟨hP, hok, hds, hz12, hbi, hbi0, hil, hfu, hres⟩
  simp only [] at hP hok hds hbi hbi0 hil hfu hres
  have hstl := hok.le
  refine G_seq <| G_seq <| G_region (by rfl) (by rfl) ?_
  refine x (r_loadB hP.BI rfl rfl) <| x (r_loadB hP.B10 rfl rfl) <| x (r_lenA (own_arr (L := []) hP.R (by omega) (by simp)) rfl) <| x (r_lss rfl rfl) <| xe ?_
  refine G_ifn rfl (fun h29 => ?_) (fun h29 => ?_)
  · refine G_exit ?_
    have hie : ¬ i < st.length := by have h30 : ¬ (i : Int) < (st.length : Int) := h29; omega
    rw [pthL_done hie] at hres
    refine G_seq <| G_region (by rfl) (by rfl) ?_
    refine x r_assign <| x r_assign <| xe ?_
    refine G_ret ⟨fun D hD => (hds.2 D hD).2.2, hds.1, [.slice none 0 0, .bool false], fun w' hw' => ⟨⟨rfl, rfl, trivial⟩, hP.stp.then hw' (fun D hD => .inr (hds.2 D hD).1), _, by rw [← hres]; rfl, ?_⟩⟩
    rw [← hres]; exact own_nil _ _ _ _
  have hlt : i < st.length := by have h30 : (i : Int) < (st.length : Int) := h29; omega
  refine Exists.elim (Nat.exists_eq_succ_of_ne_zero (show fu ≠ 0 by omega)) fun fu' hfe => ?_
  subst hfe
  rw [pthL, if_pos hlt] at hres
  have hrg := hok.rg _ (gE_mem hlt)
  have hge := gE_eq hlt
  refine exE (gE st i) fun s0 hs0 => ?_
  rw [hs0] at hres hrg hge
  refine G_skip ?_
  refine G_seq <| G_block <| G_seq <| G_seq <| G_region (by rfl) (by rfl) ?_
  refine x r_move <| x (r_loadB hP.B10 rfl rfl) <| x (r_loadB hP.BI rfl rfl) <| xie (i := i) (own_arr (L := []) hP.R (by omega) (by simp)) rfl rfl hlt fun a35 h35 => ?_
  rw [hge] at h35
  refine x (r_field rfl) <| x (r_loadA (h35.fld 0 (.int .i64 s0.1) rfl) rfl) <| xl rfl <| xc (first := []) (capt := cw) rfl <| (hwt s0.1 _ hrg.1 hrg.2 hP.stp).mono ?_
  rintro r13 w13 ⟨rfl, hs13⟩
  have hz13 := hs13.size
  have hP13 := hP.ext hs13
  have hds13 := hds.ext hs13
  refine xe ?_
  refine G_cond rfl (fun h38 => ?_) (fun h38 => ?_)
  · rw [if_pos h38] at hres
    have hds0 : DsK w.heap.size w12.heap.size ds w13 := hds13
    refine G_seq <| G_region (by rfl) (by rfl) ?_
    refine x r_assign <| xe ?_
    refine G_seq <| G_seq <| G_region (by rfl) (by rfl) ?_
    refine x (r_loadB hP13.BI rfl rfl) <| x r_assign <| xe ?_
    refine G_block <| G_loop (α := Nat × Nat × Value × List Int) [(13, 14), (40, 58)] (fun z => [(13, z.2.2.1), (14, .int .i64 z.2.1)])
      (fun z ds' W => ds' = ds ∧ Step [] w13 W ∧ DsK w.heap.size w12.heap.size ds W ∧ z.2.1 < z.1 ∧ z.2.1 < st.length ∧ IntsO 3 w13.heap.size W z.2.2.1 z.2.2.2 ∧ z.2.2.2.length + z.1 ≤ i + 1 ∧ z.2.2.2 ++ wrd st z.1 z.2.1 = wrd st (i + 1) i)
      (fun z => z.1) (by rfl) (i + 1, i, .slice none 0 0, []) ⟨rfl, rfl, trivial⟩ ⟨rfl, Step.refl _ _, hds0, by simp, hlt, own_nil _ _ _ _, by simp, rfl⟩ ?_
    rintro ⟨f, k, v, acc⟩ g ds' w14 ⟨rfl, hs14, hds14, hkf, hkl, hO14, hal, hwr⟩
    simp only [] at hkf hkl hO14 hal hwr
    refine Exists.elim (Nat.exists_eq_succ_of_ne_zero (show f ≠ 0 by omega)) fun f' hfe => ?_
    subst hfe
    rw [wrd] at hwr
    have hgk := gE_eq hkl
    have hpk := hok.par k hkl
    refine exE (gE st k) fun s1 hs1' => ?_
    rw [hs1'] at hwr hgk hpk
    have hP14 := hP13.ext hs14
    have hz14 := hs14.size
    refine G_seq <| G_seq <| G_region (by rfl) (by rfl) ?_
    refine x (r_loadB hP14.B10 rfl rfl) <| x r_move <| xie (i := k) (own_arr (L := []) hP14.R (by omega) (by simp)) rfl rfl hkl fun a42 h42 => ?_
    rw [hgk] at h42
    refine x (r_field rfl) <| x (r_loadA (h42.fld 1 (.int .i64 s1.2.1) rfl) rfl) <| x (r_geq rfl rfl) <| xe ?_
    refine G_ifn rfl (fun h45 => ?_) (fun h45 => ?_)
    · refine G_exit ?_
      rw [if_neg h45, List.append_nil] at hwr
      refine G_seq <| G_region (by rfl) (by rfl) ?_
      refine x r_move <| xl rfl <| xf <| (Reverse_ok hO14 (by omega)).mono ?_
      rintro r15 w15 ⟨hO15, hs15'⟩
      have hds15 := hds14.step hs15' (own_cells hO14)
      refine xe ?_
      refine G_seq <| G_region (by rfl) (by rfl) ?_
      refine x r_move <| x r_assign <| x r_assign <| xe ?_
      refine G_ret ⟨fun D hD => (hds15.2 D hD).2.2, hds15.1, [v, .bool true], fun w' hw' => ⟨⟨rfl, rfl, trivial⟩, ?_, v, by rw [← hres]; rfl, ?_⟩⟩
      · exact ((hP14.stp).then hs15' (fun b hb => .inr (by have := (own_ge hO14 b hb).1; omega))).then hw' (fun D hD => .inr (hds15.2 D hD).1)
      · rw [← hres, ← hwr]
        exact own_base (own_step hO15 hw' (hds15.own hO15)) (by omega)
    rw [if_pos h45] at hwr
    have h46 : 0 ≤ s1.2.1 := h45
    refine G_skip ?_
    refine G_seq <| G_block <| G_region (by rfl) (by rfl) ?_
    refine x r_move <| x (r_loadB hP14.B10 rfl rfl) <| x r_move <| xie (i := k) (own_arr (L := []) hP14.R (by omega) (by simp)) rfl rfl hkl fun a54 h54 => ?_
    rw [hgk] at h54
    refine x (r_field rfl) <| x (r_loadA (h54.fld 2 (.int .i64 s1.2.2) rfl) rfl) <| xl rfl <| o_lits (us := [[.int .i64 s1.2.2]]) rfl rfl (by decide) (by simp) ⟨rfl, rfl, trivial⟩ fun b57 w16 hs16 hb57 hB57 => xl rfl <| o_app (m := 1) (news := [.int .i64 s1.2.2]) (own_ext hO14 hs16) rfl rfl rfl (hB57.at (L := []) (by simp)) (by simp [Value.oneCell']) (by omega) (by have := hs16.size; omega) fun v17 w17 hO17 hs17 hn17 =>
      x r_assign <| xe ?_
    have hs1417 : Step [] w13 w17 := (hs14.trans hs16).then hs17 (fun b hb => .inr (own_ge hO14 b hb).1)
    have hP17 := hP13.ext hs1417
    have hds17 := (hds14.ext hs16).step hs17 (own_cells (own_ext hO14 hs16))
    refine G_region (by rfl) (by rfl) ?_
    refine x (r_loadB hP17.B10 rfl rfl) <| x r_move <| xie (i := k) (own_arr (L := []) hP17.R (by omega) (by simp)) rfl rfl hkl fun a48 h48 => ?_
    rw [hgk] at h48
    refine x (r_field rfl) <| x (r_loadA (h48.fld 1 (.int .i64 s1.2.1) rfl) rfl) <| x r_assign <| xe ?_
    have hkn : s1.2.1 = (s1.2.1.toNat : Int) := by omega
    refine ⟨(f', s1.2.1.toNat, v17, acc ++ [s1.2.2]), by simp only []; omega, ⟨rfl, congrArg (Value.int .i64) hkn, trivial⟩, rfl, hs1417, hds17, by simp only []; omega, by simp only []; omega, IntsO.snoc hO17, ?_, ?_⟩
    · simp only [List.length_append, List.length_singleton]; omega
    · rw [List.append_assoc]; exact hwr
  rw [if_neg (by rw [h38]; decide)] at hres
  have hsn : s0.1 = (s0.1.toNat : Int) := by omega
  refine G_skip ?_
  have hd0 : Step [] w13 { w13 with drawn := w13.drawn + 1 } := Step.drew _ _
  refine G_seq <| G_draw (Step [] w13) [(0, true), (1, true), (2, true), (3, true), (4, true), (5, true), (6, false)] Tryz.mixed (by rfl) (by rfl) (by kernel_rfl) (Step.drew _ _) ?_
  refine pq (fun _ hc => r_loadsB (hP13.B4.ext hc) rfl rfl) <| pq (fun _ hc => r_loadB (hP13.B10.ext hc) rfl rfl) <| pq (fun _ hc => r_loadB (hP13.BI.ext hc) rfl rfl) <|
    pie (i := i) rfl (own_arr (L := []) hP13.R (by omega) (by simp)) rfl rfl hlt fun a65 h65 => ?_
  rw [hge] at h65
  refine p (fun _ => r_field rfl) <| pq (fun _ hc => r_loadA ((h65.fld 0 (.int .i64 s0.1) rfl).ext hc) rfl) <| pk <| xf <| (edges_ok (va := va) (vm := vm) (ve := ve) (vf := .slice (some ⟨bF, 0, none⟩) (n + 1) (n + 1)) (st := a.st) (s := s0.1)).mono ?_
  rintro r18 w14 ⟨hs14, b1, b2, rfl, hb1, hb2, hB1, hB2⟩
  have hs1314 := hd0.trans hs14
  refine ⟨hs1314, pe ?_⟩
  have hP14 := hP13.ext hs1314
  have hds14 : DsK w.heap.size w12.heap.size ds w14 := hds13.ext hs1314
  have hz14 := hs1314.size
  have hE14 : Eds (bS :: b10 :: ob vs) w14.heap ve a.ed := by
    refine (hA.ed.up (L' := bS :: b10 :: ob vs) (fun b hb => .inr ?_)).step hP14.stp (fun _ hb => by cases hb)
    rcases List.mem_cons.1 hb with rfl | hb
    · omega
    · rcases List.mem_cons.1 hb with rfl | hb
      · omega
      · exact (own_ge hP14.R b hb).1
  rw [hsn] at hB2
  have hzw : w.heap.size ≤ w14.heap.size := hP14.stp.size
  have hdist : bS ≠ b4 ∧ bS ≠ b7 ∧ bS ≠ b10 ∧ bS ≠ b11 ∧ bS ≠ bi ∧ b10 ≠ b4 ∧ b10 ≠ b7 ∧ b10 ≠ b11 ∧ b10 ≠ bi := by omega
  have hq4 := hP14.B4.lt
  have hq7 := hP14.B7.lt
  have hq10 := hP14.B10.lt
  have hq11 := hP14.B11.lt
  have hqS := hP14.BS.lt
  have hqi := hP14.BI.lt
  refine G_block <| G_range (α := { e : Ed // e ∈ a.ed }) (bS :: b10 :: ob vs) (by omega) (capt := [.pointer (some ⟨b1, 0, none⟩), .pointer (some ⟨b2, 0, none⟩)]) rfl (enc := fun x => .agg (edCells x.1).toArray) (by decide)
    (edges1_seq hB1 hB2 (hBF.ext hP14.stp) hE14 hso (by omega) hst1)
    (fun pre W => ∃ v, PI w b4 b7 b10 b11 bS n [va, .int .i64 a.st, vm, ve, .slice (some ⟨bF, 0, none⟩) (n + 1) (n + 1)] (.func (.func gp) #[] cp.toArray) bi i v ((pre.map (·.1)).foldl (addP pm i) st) W ∧ PtOk n ((pre.map (·.1)).foldl (addP pm i) st) ∧ i < ((pre.map (·.1)).foldl (addP pm i) st).length ∧
      (∀ b ∈ ob v, b ∈ ob vs ∨ w14.heap.size ≤ b) ∧ DsK w.heap.size w12.heap.size ds W ∧ w14.heap.size ≤ W.heap.size)
    (fun pre => Stb.ex fun v => (PI.stb hzw).and ((Stb.pure _).and ((Stb.pure _).and ((Stb.pure _).and ((DsK.stb (by omega)).and (fun W W' X h hs _ => Nat.le_trans h hs.size))))))
    ⟨vs, hP14, hok, hlt, fun b hb => .inl hb, hds14, Nat.le_refl _⟩
    (fun f x f' W => ∃ b, f' = upd (upd f 69 (.agg (edCells x.1).toArray)) 15 (.pointer (some ⟨b, 0, none⟩)) ∧ w14.heap.size ≤ b ∧ Blk W.heap b 85 (edCells x.1))
    (fun x f' => Stb.ex fun b => (Stb.pure _).and ((Stb.pure _).and Stb.blk)) ?_ ?_ ?_
  · rintro l pre ⟨e, he⟩ W ⟨v, hPv, hokv, hiv, hobv, hdv, hzv⟩
    refine G_region (by rfl) (by rfl) ?_
    refine xl rfl <| o_alloc (us := [.int .i64 0, .int .i64 0, .int .i64 0]) rfl fun b15 w15 hs15' hb15 hB15 => xl rfl <| o_stores (us := edCells e) hB15 rfl rfl rfl rfl ⟨rfl, rfl, rfl, trivial⟩ fun w16 hs16 hB15' => xe ?_
    have hsW : Step [] W w16 := hs15'.then1 hs16 hb15
    have hzs := hsW.size
    exact ⟨rfl, RSt.ext hsW hzv, ⟨v, hPv.ext hsW, hokv, hiv, hobv, hdv.ext hsW, by omega⟩, b15, rfl, by omega, hB15'⟩
  · rintro l pre ⟨e, he⟩ f' W ⟨v, hPv, hokv, hiv, hobv, hdv, hzv⟩ ⟨b15, rfl, hb15, hB15⟩ _
    have hfo : ((pre ++ [(⟨e, he⟩ : { e : Ed // e ∈ a.ed })]).map (·.1)).foldl (addP pm i) st = addP pm i ((pre.map (·.1)).foldl (addP pm i) st) e := by rw [List.map_append, List.foldl_append]; rfl
    refine exE ((pre.map (·.1)).foldl (addP pm i) st) fun st' hst' => ?_
    rw [hst'] at hPv hokv hiv hfo
    have heb := hed e he
    have hetn : e.2.2 = (e.2.2.toNat : Int) := by omega
    have hadd := addP_ok (pm := pm) hokv hiv heb
    have hfla := flg_at (l := stS st') heb.1 heb.2
    have hsl := hokv.le
    have hzs := hPv.stp.size
    refine G_block <| G_seq <| G_region (by rfl) (by rfl) ?_
    by_cases hin : e.2.2 ∈ stS st'
    · rw [decide_eq_true hin] at hfla
      have hst2 : addP pm i st' e = st' := by unfold addP; rw [if_neg (fun h => h.1 hin)]
      refine x (r_loadB hPv.B11 rfl rfl) <| x (r_fieldB rfl) <| x (r_loadB hB15 rfl rfl) <| x (r_indexB (i := e.2.2.toNat) rfl (congrArg (Value.int .i64) hetn) (by omega)) <| x (r_loadB hPv.BS rfl hfla) <| x (r_not rfl) <| x r_move <|
        xs rfl <| xs rfl <| xs rfl <| x (r_pick rfl) <| xe ?_
      refine G_false rfl <| G_skip ?_
      refine ⟨RSt.refl _ _ _, v, ?_⟩
      rw [hfo, hst2]
      exact ⟨hPv, hokv, hiv, hobv, hdv, hzv⟩
    rw [decide_eq_false hin] at hfla
    refine x (r_loadB hPv.B11 rfl rfl) <| x (r_fieldB rfl) <| x (r_loadB hB15 rfl rfl) <| x (r_indexB (i := e.2.2.toNat) rfl (congrArg (Value.int .i64) hetn) (by omega)) <| x (r_loadB hPv.BS rfl hfla) <| x (r_not rfl) <| x r_move <|
      x (r_loadB hPv.B7 rfl rfl) <| x (r_loadsB hB15 rfl rfl) <| xl rfl <| xc (first := []) (capt := cp) rfl <| (hpm e _ he hPv.stp).mono ?_
    rintro r19 w15 ⟨rfl, hs15'⟩
    refine x (r_pick rfl) <| xe ?_
    have hPv15 := hPv.ext hs15'
    have hz15 := hs15'.size
    refine G_cond rfl (fun hp => ?_) (fun hp => ?_)
    · have hst2 : addP pm i st' e = st' ++ [(e.2.2, (i : Int), e.2.1)] := by unfold addP; rw [if_pos ⟨hin, hp⟩]
      rw [hst2] at hfo hadd
      have hB15b := hB15.ext hs15'
      refine G_seq <| G_region (by rfl) (by rfl) ?_
      refine x (r_loadB hPv15.B11 rfl rfl) <| x (r_fieldB rfl) <| x (r_loadB hB15b rfl rfl) <| x (r_indexB (i := e.2.2.toNat) rfl (congrArg (Value.int .i64) hetn) (by omega)) <| xl rfl <| o_store (j := 0 + e.2.2.toNat * 1) (u := .bool true) hPv15.BS rfl rfl (by rw [List.length_map, flg_len]; omega) rfl fun w16 hs16 hBS16 => xe ?_
      have hBS16' : Blk w16.heap bS 4 ((flg n (stS (st' ++ [(e.2.2, (i : Int), e.2.1)]))).map Value.bool) := by
        have e1 := flg_set (n := n) (l := stS st') heb.1
        have e2 : stS (st' ++ [(e.2.2, (i : Int), e.2.1)]) = stS st' ++ [e.2.2] := by unfold stS; rw [List.map_append]; rfl
        rw [e2, ← e1, List.map_set]
        simpa using hBS16
      have hz16 := hs16.size
      have hB10' := hPv15.B10.step hs16 (by have := hdist.2.2.1; simpa using this.symm)
      have hBI' := hPv15.BI.step hs16 (by have := hdist.2.2.2.2.1; simpa using this.symm)
      have hR16 : EdsO 124 w.heap.size w16 v st' := own_step hPv15.R hs16 (fun b hb => by have := (hPv15.ne b hb).2.2.2.2.1; simpa using this)
      have hB15c := hB15b.step hs16 (by simp; omega)
      refine G_region (by rfl) (by rfl) ?_
      refine x (r_loadB hB10' rfl rfl) <| x (r_fieldB rfl) <| x (r_loadB hB15c rfl rfl) <| x (r_loadB hBI' rfl rfl) <| x (r_fieldB rfl) <| x (r_loadB hB15c rfl rfl) <| x (r_build ⟨rfl, rfl, rfl, trivial⟩) <|
        xl rfl <| o_lits (us := [[.int .i64 e.2.2, .int .i64 i, .int .i64 e.2.1]]) rfl rfl (by decide) (by simp) ⟨rfl, rfl, trivial⟩ fun b92 w17 hs17 hb92 hB92 =>
        xl rfl <| o_app (m := 1) (news := [.int .i64 e.2.2, .int .i64 i, .int .i64 e.2.1]) (own_ext hR16 hs17) rfl rfl rfl (hB92.at (L := []) (by simp)) (by simp [Value.oneCell']) (by omega) (by have := hs17.size; omega) fun v18 w18 hO18 hs18 hn18 => ?_
      have hB10v : b10 ∉ ob v := fun hm => (hPv15.ne b10 hm).2.2.1 rfl
      refine xl rfl <| o_store (u := v18) ((hB10'.ext hs17).step hs18 hB10v) rfl rfl (by simp) (own_arr (L := []) hO18 (by omega) (by simp)).one fun w19 hs19 hB19 => xe ?_
      have hfin := hPv15.add (B := w14.heap.size) (L0 := ob vs) hdist (by omega) (by omega) (by omega) ⟨by omega, by omega, by omega, by omega⟩ hs16 hBS16' hs17 hs18 (EdsO.snoc hO18) hn18 hs19 hB19 hobv
      have hrs : RSt w14.heap.size (bS :: b10 :: ob vs) W w19 := (RSt.ext hs15' hzv).trans hfin.2.1
      have hzf := hrs.lw.size
      refine ⟨hrs, v18, ?_⟩
      rw [hfo]
      exact ⟨hfin.1, hadd.1, hadd.2, hfin.2.2, hdv.rst hrs, by omega⟩
    · have hst2 : addP pm i st' e = st' := by unfold addP; rw [if_neg (fun h => by rw [hp] at h; exact absurd h.2 (by decide))]
      refine G_skip ?_
      refine ⟨RSt.ext hs15' hzv, v, ?_⟩
      rw [hfo, hst2]
      exact ⟨hPv15, hokv, hiv, hobv, hdv.ext hs15', by omega⟩
  · rintro D xs W hD hxs ⟨v, hPv, hokv, hiv, hobv, hdv, hzv⟩ hdD
    rw [hxs, ← hsn] at hPv hokv hiv
    refine exE ((outE a.ed s0.1).foldl (addP pm i) st) fun st' hst' => ?_
    rw [hst'] at hPv hokv hiv hres
    have hsl := hokv.le
    have hdn := hdv.cons (by omega) (by omega) hdD
    have hzW := hPv.stp.size
    refine G_seq <| G_seq <| G_region (by rfl) (by rfl) ?_
    refine x (r_loadB hPv.BI rfl rfl) <| xe ?_
    refine G_region (by rfl) (by rfl) ?_
    refine xl rfl <| o_alloc (us := [.int .i64 0]) rfl fun bj w20 hs20 hbj hBj => xl rfl <| o_store (u := .int .i64 i) hBj rfl rfl (by simp) rfl fun w21 hs21 hBj' => xe ?_
    refine G_region (by rfl) (by rfl) ?_
    refine x (r_loadB hBj' rfl rfl) <| x (r_add rfl rfl ⟨by omega, by omega⟩) <| xl rfl <| o_store (u := .int .i64 ((i : Int) + 1)) hBj' rfl rfl (by simp) rfl fun w22 hs22 hBj2 => xe ?_
    have hs2022 : Step [] W w22 := (hs20.then1 hs21 hbj).then1 hs22 hbj
    have hz22 := hs2022.size
    have hPn := hPv.ext hs2022
    have hdf := (hdn.ext hs2022).up hz22
    have hjn : ∀ b ∈ ob v, b ≠ bj := fun b hb e => by have := own_lt hPv.R b hb; omega
    refine ⟨(i + 1, bj, fu', v, st'), by simp only []; omega, ⟨rfl, trivial⟩, ⟨hPn.stp, hPn.B4, hPn.B7, hPn.B10, hPn.B11, hPn.BS, hBj2, hPn.R, fun b hb => ⟨(hPn.ne b hb).1, (hPn.ne b hb).2.1, (hPn.ne b hb).2.2.1, (hPn.ne b hb).2.2.2.1, (hPn.ne b hb).2.2.2.2.1, hjn b hb⟩⟩, hokv, hdf, by omega, ?_, by simp only []; omega, hiv, by simp only []; omega, hres⟩
    have t4 := hPv.B4.lt
    have t7 := hPv.B7.lt
    have t10 := hPv.B10.lt
    have t11 := hPv.B11.lt
    have tS := hPv.BS.lt
    simp only []; omega
end Go.Proofs.YtfhgnlkdcdlblaaGreatDoor
/- Drawn regions in which several operations that make memory are open: each is described by itself, and what it has made stands. -/
namespace Go.Lg
open Go.RowKit

def sl (d : Option Nat) (f : Fr) : Value := match d with | some d => f d | none => undef
/-- The block of a new value. -/
def ow : Value → List Nat
  | .slice (some a) _ _ => [a.block]
  | .pointer (some a) => [a.block]
  | .map (some b) => [b]
  | _ => []
def Fa (p : Nat → Prop) : List Nat → Prop
  | [] => True
  | i :: l => p i ∧ Fa p l
theorem Fa.all {p : Nat → Prop} : ∀ {l : List Nat}, Fa p l → ∀ i ∈ l, p i
  | [], _, _, hi => by cases hi
  | j :: l, h, i, hi => by
    rcases List.mem_cons.1 hi with rfl | hi
    · exact h.1
    · exact Fa.all h.2 i hi
theorem Fa.of {p : Nat → Prop} : ∀ {l : List Nat}, (∀ i ∈ l, p i) → Fa p l
  | [], _ => trivial
  | i :: _, h => ⟨h i List.mem_cons_self, Fa.of fun j hj => h j (List.mem_cons_of_mem _ hj)⟩
def openGo (all : Array Oper) (opn : List Nat) (rest : List (Nat × Bool)) : Nat → Array Bool → Bool
  | 0, ls => planGo all rest ls && opn.all fun i => ls.getD i false
  | k + 1, ls => !(Region.ready .any all ls).isEmpty && (Region.ready .any all ls).all fun i => opn.contains i && openGo all opn rest k (ls.setIfInBounds i true)
/-- The results of the open operations: slots of D, all apart; no guards. -/
def opnOk (all : List Oper) (D : List (Nat × Nat)) : List Nat → Bool
  | [] => true
  | i :: l => (opAt all i).guard.isNone && (match (opAt all i).dst with | some d => memR D d && l.all (fun j => !((opAt all j).dst == some d)) | none => false) && !l.contains i && opnOk all D l
theorem opnOk_spec {all : List Oper} {D : List (Nat × Nat)} : ∀ {l : List Nat}, opnOk all D l = true → (∀ i ∈ l, (opAt all i).guard = none ∧ ∃ d, (opAt all i).dst = some d ∧ memR D d = true) ∧ ∀ i ∈ l, ∀ j ∈ l, i ≠ j → (opAt all i).dst ≠ (opAt all j).dst
  | [], _ => ⟨fun _ h => (by cases h), fun _ h => (by cases h)⟩
  | i :: l, h => by
    simp only [opnOk, Bool.and_eq_true, Option.isNone_iff_eq_none] at h
    obtain ⟨⟨⟨hg, hd⟩, hc⟩, hl⟩ := h
    have ih := opnOk_spec hl
    cases hdd : (opAt all i).dst with
    | none => rw [hdd] at hd; cases hd
    | some d =>
      rw [hdd] at hd
      simp only [Bool.and_eq_true, List.all_eq_true, Bool.not_eq_true', beq_eq_false_iff_ne, ne_eq] at hd
      have hij : ∀ j ∈ l, (opAt all j).dst ≠ some d := fun j hj => hd.2 j hj
      refine ⟨fun j hj => ?_, fun j hj k hk hjk => ?_⟩
      · rcases List.mem_cons.1 hj with rfl | hj
        · exact ⟨hg, d, hdd, hd.1⟩
        · exact ih.1 j hj
      · rcases List.mem_cons.1 hj with hj1 | hj1
        · rcases List.mem_cons.1 hk with hk1 | hk1
          · exact absurd (hj1.trans hk1.symm) hjk
          · rw [hj1, hdd]; exact fun e => hij k hk1 e.symm
        · rcases List.mem_cons.1 hk with hk1 | hk1
          · rw [hk1, hdd]; exact hij j hj1
          · exact ih.2 j hj1 k hk1 hjk
def drOk (all : List Oper) (pre : List (Nat × Bool)) (opn : List Nat) (rest : List (Nat × Bool)) (D : List (Nat × Nat)) : Bool :=
  Region.noSelect all.toArray && (pre.length + (opn.length + rest.length) == all.length) && quietGo all.toArray pre (Array.replicate all.length false) && opnOk all D opn && openGo all.toArray opn rest opn.length (quietLs pre (Array.replicate all.length false))
    && opn.all fun i => !((quietLs pre (Array.replicate all.length false)).getD i false)
section
variable {P : Program} {n : Nat} {f : Fr} {w : World} {all : List Oper} {C : World → Prop} {K : Fr → World → Prop}
theorem gdF_none {o : Oper} (h : o.guard = none) : gdF all f o = true := by unfold gdF; rw [h]
theorem mix_mix (D : List (Nat × Nat)) (f1 g : Fr) {t : Nat} (h : memR D t = false) : mix D f1 g t = f1 t := by unfold mix; rw [h]; rfl
theorem XA_open {α : Type} {D : List (Nat × Nat)} {opn : List Nat} {rest : List (Nat × Bool)} {Φ : Nat → Value → World → Prop} {S : α → List (Nat × Value)} {I : α → World → Prop} {f1 : Fr} (hs : Region.noSelect all.toArray = true) (hop : opnOk all D opn = true)
    (hCs : ∀ w w', C w → Step [] w w' → C w') (stab : ∀ i v w w', Φ i v w → Step [] w w' → Φ i v w')
    (hconv : ∀ (g : Fr) w, Fa (fun i => Φ i (sl (opAt all i).dst g) w) opn → (∀ i ∈ opn, ∀ j ∈ opn, i ≠ j → ∀ b ∈ ow (sl (opAt all i).dst g), b ∉ ow (sl (opAt all j).dst g)) → ∃ z, Slots g (S z) ∧ I z w)
    (spec : Fa (fun i => ∀ g w, C w → XO P (opAt all i) (mix D f1 g) w (fun f' w' => Step [] w w' ∧ Φ i (sl (opAt all i).dst f') w' ∧ ∀ b ∈ ow (sl (opAt all i).dst f'), w.heap.size ≤ b ∧ b < w'.heap.size)) opn)
    (fin : ∀ z g w, C w → I z w → XP P all C K rest (updS (S z) (mix D f1 g)) w) :
    ∀ (k : Nat) (ls : Array Bool) (f : Fr) (w : World), ls.size = all.length → C w → openGo all.toArray opn rest k ls = true → (∀ t, memR D t = false → f t = f1 t) → (∀ i ∈ opn, ls.getD i false = true → Φ i (sl (opAt all i).dst f) w) →
      (∀ i ∈ opn, ls.getD i false = true → (∀ b ∈ ow (sl (opAt all i).dst f), b < w.heap.size) ∧ ∀ j ∈ opn, ls.getD j false = true → i ≠ j → ∀ b ∈ ow (sl (opAt all i).dst f), b ∉ ow (sl (opAt all j).dst f)) → XA P all C K (k + rest.length) ls f w
  | 0, ls, f, w, hsz, hC, hp, hf, hphi, hdj => by
    simp only [openGo, Bool.and_eq_true, List.all_eq_true] at hp
    obtain ⟨z, h1, h2⟩ := hconv f w (Fa.of fun i hi => hphi i hi (hp.2 i hi)) (fun i hi j hj hij => (hdj i hi (hp.2 i hi)).2 j hj (hp.2 j hj) hij)
    have h3 := fin z f w hC h2
    rw [mix_of hf, updS_self h1] at h3
    rw [Nat.zero_add]
    exact XA_of_plan hs rest ls f w hsz (.inl hC) hp.1 h3
  | k + 1, ls, f, w, hsz, hC, hp, hf, hphi, hdj => by
    simp only [openGo, Bool.and_eq_true, List.all_eq_true, List.contains_iff_mem] at hp
    obtain ⟨hne, hp⟩ := hp
    rw [Nat.add_right_comm]
    refine XA_succ (fun h0 => (by rw [h0] at hne; cases hne)) ?_
    intro i hi o ho
    obtain ⟨hio, hgo⟩ := hp i hi
    obtain ⟨hg, d, hd, hdD⟩ := (opnOk_spec hop).1 i hio
    have hdis := (opnOk_spec hop).2
    have hsp := Fa.all spec i hio f w hC
    rw [mix_of hf] at hsp
    have hoi := opAt_some ho
    rw [hoi] at hg hd hsp
    rw [gdF_none hg, cond_true]
    refine hsp.mono fun v w' hx => ?_
    have hC' := hCs w w' hC hx.1
    have hz := hx.1.size
    have old : ∀ j ∈ opn, j ≠ i → sl (opAt all j).dst (putF f o.dst v) = sl (opAt all j).dst f := fun j hj hij => by
      obtain ⟨_, dj, hdj', _⟩ := (opnOk_spec hop).1 j hj
      have hne : o.dst ≠ some dj := fun e => hdis j hj i hio hij (by rw [hdj', hoi]; exact e.symm)
      rw [hdj']
      exact putF_keep hne v
    have lsj : ∀ j, j ≠ i → (ls.setIfInBounds i true).getD j false = true → ls.getD j false = true := fun j hij h => by rw [getD_set_ne false (Ne.symm hij)] at h; exact h
    refine ⟨.inr (.inr hC'), XA_open hs hop hCs stab hconv spec fin k _ _ _ (by simpa using hsz) hC' hgo (fun t ht => ?_) (fun j hj hlj => ?_) (fun j hj hlj => ⟨fun b hb => ?_, fun k hk hlk hjk b hb hbk => ?_⟩)⟩
    · rw [putF_keep (by rw [hd]; intro e; cases e; rw [hdD] at ht; cases ht)]; exact hf t ht
    · by_cases hij : j = i
      · subst hij
        have h2 := hx.2.1
        rw [hoi]; exact h2
      · rw [old j hj hij]
        exact stab _ _ _ _ (hphi j hj (lsj j hij hlj)) hx.1
    · by_cases hij : j = i
      · subst hij
        rw [hoi] at hb
        exact (hx.2.2 b hb).2
      · rw [old j hj hij] at hb
        have := (hdj j hj (lsj j hij hlj)).1 b hb
        omega
    · by_cases hij : j = i
      · subst hij
        have hki : k ≠ j := Ne.symm hjk
        rw [old k hk hki] at hbk
        rw [hoi] at hb
        have h1 := (hdj k hk (lsj k hki hlk)).1 b hbk
        have h2 := (hx.2.2 b hb).1
        omega
      · rw [old j hj hij] at hb
        have h1 := (hdj j hj (lsj j hij hlj)).1 b hb
        by_cases hki : k = i
        · subst hki
          rw [hoi] at hbk
          have h2 := (hx.2.2 b hbk).1
          omega
        · rw [old k hk hki] at hbk
          exact (hdj j hj (lsj j hij hlj)).2 k hk (lsj k hki hlk) hjk b hb hbk
theorem W_drawO {α : Type} {Q : Exit → Fr → World → Prop} {id : Nat} (C : World → Prop) (pre : List (Nat × Bool)) (opn : List Nat) (rest : List (Nat × Bool)) (D : List (Nat × Nat)) (Φ : Nat → Value → World → Prop) (S : α → List (Nat × Value)) (I : α → World → Prop)
    (hm : P.follows .mixedOrders = true) (hn : dstOk n all = true) (hp : drOk all pre opn rest D = true) (hC : C { w with drawn := w.drawn + 1 }) (hCs : ∀ w w', C w → Step [] w w' → C w') (stab : ∀ i v w w', Φ i v w → Step [] w w' → Φ i v w')
    (hconv : ∀ (g : Fr) w, Fa (fun i => Φ i (sl (opAt all i).dst g) w) opn → (∀ i ∈ opn, ∀ j ∈ opn, i ≠ j → ∀ b ∈ ow (sl (opAt all i).dst g), b ∉ ow (sl (opAt all j).dst g)) → ∃ z, Slots g (S z) ∧ I z w)
    (h : XP P all C (fun f1 _ => Fa (fun i => ∀ g w, C w → XO P (opAt all i) (mix D f1 g) w (fun f' w' => Step [] w w' ∧ Φ i (sl (opAt all i).dst f') w' ∧ ∀ b ∈ ow (sl (opAt all i).dst f'), w.heap.size ≤ b ∧ b < w'.heap.size)) opn ∧
      ∀ z g w, C w → I z w → XP P all C (fun f w => Q .normal f w) rest (updS (S z) (mix D f1 g)) w) pre f { w with drawn := w.drawn + 1 }) : W P n (.region id all.toArray true) Q f w := by
  simp only [drOk, Bool.and_eq_true, beq_iff_eq, List.all_eq_true, Bool.not_eq_true'] at hp
  obtain ⟨⟨⟨⟨⟨hs, hl⟩, hq⟩, hop⟩, hgo⟩, hun⟩ := hp
  refine W_draw_any C hm hn ?_
  rw [← hl]
  have hsz : (Array.replicate all.length false).size = all.length := by simp
  have h1 := XA_of_quiet (K := fun f w => Q .normal f w) (m := opn.length + rest.length) hs pre (Array.replicate all.length false) f _ hC hq (fun f1 hB => XA_open (P := P) (C := C) hs hop hCs stab hconv hB.1 hB.2 opn.length (quietLs pre (Array.replicate all.length false)) f1 _ (by rw [quietLs_size]; exact hsz) hC hgo (fun _ _ => rfl) (fun i hi ht => by rw [hun i hi] at ht; cases ht) (fun i hi ht => by rw [hun i hi] at ht; cases ht)) h
  rw [hl] at h1 ⊢
  exact h1
end
end Go.Lg
/- Contract: reach.Path, where its arguments are right. -/
namespace Go.Proofs.YtfhgnlkdcdlblaaGreatDoor
open Go.Lg

theorem r_indexV {P : Program} {f : Fr} {w : World} {d : Option Nat} {ty : Nat} {ps : String} {af : Array Edge} {gd : Option (Nat × Bool)} {x y : Operand} {t m e : Nat} [h : Ay P t m e 1] [h1 : One P e] {cs : List Value} {k : IntKind} {i : Nat} {u : Value} (hx : ev f x = .agg cs.toArray) (hy : ev f y = .int k i) (hi : i < m) (hu : cs[i]? = some u) :
    (execOp (ev f) ⟨d, .index t x y, ty, ps, af, gd⟩).run P w = .ok (.value u) w := by
  have hz := sizeOf_one (P := P) (w := w) (t := e)
  have hg := isAgg_one (P := P) (w := w) (t := e)
  simp [execOp, hx, hy, Instr.index, asIntOf, run_underlying h.u, hz, part, hg, hu]
  intro h2; omega

theorem Path1_ok {w : World} {b bs n : Nat} {l : List Int} {s : Int} (hB : Blk w.heap b 93 [.slice (some ⟨bs, 0, none⟩) n n]) (hS : Blk w.heap bs 4 ((flg n l).map Value.bool)) (h0 : 0 ≤ s) (h1 : s < (n : Int)) :
    Ret Tryz.prog 42 [.int .i64 s, .pointer (some ⟨b, 0, none⟩)] w fun r w' => r = .bool (decide (s ∈ l)) ∧ Step [] w w' := by
  refine Ret.of_W Tryz.func42 rfl Tryz.ntmps42 Tryz.results42 (by simp) ?_
  have hsn : s = (s.toNat : Int) := by omega
  refine W_seq <| W_region (by rfl) ?_
  refine x r_assign <| xe ?_
  refine W_seq <| W_region (by rfl) ?_
  refine x (r_loadB hB rfl rfl) <| x r_move <| x (r_indexB (i := s.toNat) rfl (congrArg (Value.int .i64) hsn) (by omega)) <| x (r_loadB hS rfl (flg_at h0 h1)) <| x r_assign <| xe ?_
  exact W_ret ⟨[_], ⟨rfl, trivial⟩, rfl, Step.refl _ _⟩
theorem Path2_ok {w : World} {b bs n : Nat} {l : List Int} {e : Ed} (hB : Blk w.heap b 93 [.slice (some ⟨bs, 0, none⟩) n n]) (hS : Blk w.heap bs 4 ((flg n l).map Value.bool)) (h0 : 0 ≤ e.2.2) (h1 : e.2.2 < (n : Int)) :
    Ret Tryz.prog 43 [.agg (edCells e).toArray, .pointer (some ⟨b, 0, none⟩)] w fun r w' => r = .bool (decide (e.2.2 ∈ l)) ∧ Step [] w w' := by
  refine Ret.of_W Tryz.func43 rfl Tryz.ntmps43 Tryz.results43 (by simp) ?_
  have hsn : e.2.2 = (e.2.2.toNat : Int) := by omega
  refine W_seq <| W_region (by rfl) ?_
  refine xl rfl <| o_box (us := edCells e) rfl fun b2 w1 hs1 hb2 hB2 => x r_assign <| xe ?_
  refine W_seq <| W_region (by rfl) ?_
  refine x (r_loadB (hB.ext hs1) rfl rfl) <| x (r_fieldB rfl) <| x (r_loadB hB2 rfl rfl) <| x (r_indexB (i := e.2.2.toNat) rfl (congrArg (Value.int .i64) hsn) (by omega)) <| x (r_loadB (hS.ext hs1) rfl (flg_at h0 h1)) <| x r_assign <| xe ?_
  exact W_ret ⟨[_], ⟨rfl, trivial⟩, rfl, hs1⟩

instance : Ay Tryz.prog 52 2 32 1 := ⟨by kernel_rfl, by kernel_rfl⟩
/-- The least word from a state to a target within a set, and whether there is one. -/
def ptR (a : Aut) (n from0 : Nat) (tg wi : List Int) : List Int × Bool := pth (fun s => decide (s ∈ tg)) (fun e => decide (e.2.2 ∈ wi)) a.ed n from0
def phP (N n : Nat) (tg wi : List Int) (i : Nat) (v : Value) (w : World) : Prop :=
  if i = 2 then ∃ b, v = .slice (some ⟨b, 0, none⟩) n n ∧ N ≤ b ∧ Blk w.heap b 4 ((flg n wi).map Value.bool)
  else if i = 5 then ∃ b, v = .slice (some ⟨b, 0, none⟩) n n ∧ N ≤ b ∧ Blk w.heap b 4 ((flg n tg).map Value.bool)
  else ∃ b, v = .pointer (some ⟨b, 0, none⟩) ∧ N ≤ b ∧ Blk w.heap b 93 [.slice none 0 0]
theorem phP_ext {N n : Nat} {tg wi : List Int} (i : Nat) (v : Value) (w w' : World) (h : phP N n tg wi i v w) (hs : Step [] w w') : phP N n tg wi i v w' := by
  unfold phP at *
  split
  · rename_i e; rw [if_pos e] at h; obtain ⟨b, h1, h2, h3⟩ := h; exact ⟨b, h1, h2, h3.ext hs⟩
  · rename_i e
    rw [if_neg e] at h
    split
    · rename_i e2; rw [if_pos e2] at h; obtain ⟨b, h1, h2, h3⟩ := h; exact ⟨b, h1, h2, h3.ext hs⟩
    · rename_i e2; rw [if_neg e2] at h; obtain ⟨b, h1, h2, h3⟩ := h; exact ⟨b, h1, h2, h3.ext hs⟩
structure PhZ where
  bi : Nat
  bt : Nat
  b15 : Nat
  b16 : Nat
theorem Path_ok {w : World} {va vm ve vt vi : Value} {a : Aut} {n from0 : Nat} {tg wi : List Int} (h : AutA [] w.heap va vm ve a) (hck : ckA a = 0) (hn : a.st = (n : Int)) (hf : from0 < n) (ht : Ints [] w.heap vt tg) (hi : Ints [] w.heap vi wi)
    (htk : ckS a.st none tg = 0) (hik : ckS a.st none wi = 0) (hin : (from0 : Int) ∈ wi) :
    Ret Tryz.prog 13 [.agg #[va, .int .i64 a.st, vm, ve], .int .i64 from0, vt, vi] w fun r w' => Step [] w w' ∧ ∃ v, r = .tuple #[v, .bool (ptR a n from0 tg wi).2, .int .i64 0] ∧ IntsO 3 w.heap.size w' v (ptR a n from0 tg wi).1 := by
  have ho := (ckA_zero a).1 hck
  have hst1 := ho.st1
  refine Ret.of_W Tryz.func13 rfl Tryz.ntmps13 Tryz.results13 (by simp) ?_
  refine W_seq <| W_region (by rfl) ?_
  refine xl rfl <| o_box (us := [va, .int .i64 a.st, vm, ve]) rfl fun b4 w1 hs1 hb4 hB4 => x r_assign <| x r_assign <| x r_assign <| xe ?_
  refine W_seq <| W_seq <| W_region (by rfl) ?_
  refine x (r_loadsB hB4 rfl rfl) <| xl rfl <| xf <| (check_ok (h.ext hs1)).mono ?_
  rintro r2 w2 ⟨rfl, hs2⟩
  refine x r_assign <| xe ?_
  refine W_seq <| W_region (by rfl) ?_
  refine x r_move <| x (r_neq rfl rfl) <| xe ?_
  refine W_if rfl (fun h20 => absurd hck h20) (fun h20 => ?_)
  refine W_skip ?_
  have hs12 := hs1.trans hs2
  have hB42 := hB4.ext hs2
  have hfst : ¬ (from0 : Int) ≥ a.st := by omega
  refine W_seq <| W_seq <| W_region (by rfl) ?_
  refine x r_move <| xb (r_lss rfl rfl) (fun h23 => absurd h23 (by omega)) (fun h23 => ?_)
  refine x r_move <| x r_move <| x (r_fieldB rfl) <| x (r_loadB hB42 rfl rfl) <| x (r_geq rfl rfl) <| x (r_pick rfl) <| xe ?_
  refine W_if rfl (fun h29 => absurd h29 hfst) (fun h29 => ?_)
  refine W_skip ?_
  refine W_seq <| W_seq <| W_region (by rfl) ?_
  refine x r_move <| x r_move <| x (r_build ⟨ht.cells, hi.cells, trivial⟩) <| x r_move <| xe ?_
  refine W_block <| W_loop (α := Nat) [(8, 10), (13, 14), (33, 42)] (fun z => [(33, .int .i64 z)]) (fun z w' => z ≤ 2 ∧ Step [] w2 w') (fun z => 2 - z) (by rfl) 0 ⟨rfl, trivial⟩ ⟨by omega, Step.refl _ _⟩ ?_
  rintro k g w4 ⟨hk, hs4⟩
  refine W_seq <| W_region (by rfl) ?_
  refine x (r_lss rfl rfl) <| xe ?_
  refine W_seq <| W_ifn rfl (fun h34 => ?_) (fun h34 => ?_)
  · refine W_exit ?_
    have hs04 := hs12.trans hs4
    have hA4 := h.ext hs04
    have hz04 := hs04.size
    have hB44 := hB42.ext hs4
    have htm := ((ckS_zero a.st tg none).1 htk).1
    have him := ((ckS_zero a.st wi none).1 hik).1
    refine W_seq <| W_drawO (α := PhZ) (Step [] w4) [(0, true), (1, true), (3, true), (4, true)] [2, 5, 6, 7] [(8, false), (9, false)] [(15, 16), (45, 45), (48, 48)] (phP w4.heap.size n tg wi)
      (fun z => [(45, .slice (some ⟨z.bi, 0, none⟩) n n), (48, .slice (some ⟨z.bt, 0, none⟩) n n), (15, .pointer (some ⟨z.b15, 0, none⟩)), (16, .pointer (some ⟨z.b16, 0, none⟩))])
      (fun z w' => Blk w'.heap z.bi 4 ((flg n wi).map Value.bool) ∧ Blk w'.heap z.bt 4 ((flg n tg).map Value.bool) ∧ Blk w'.heap z.b15 93 [.slice none 0 0] ∧ Blk w'.heap z.b16 93 [.slice none 0 0] ∧ (z.b15 ≠ z.b16 ∧ z.bi ≠ z.b15 ∧ z.bi ≠ z.b16 ∧ z.bt ≠ z.b15 ∧ z.bt ≠ z.b16) ∧ w4.heap.size ≤ z.b15 ∧ w4.heap.size ≤ z.b16)
      Tryz.mixed (by rfl) (by kernel_rfl) (Step.drew _ _) (fun _ _ h1 h2 => h1.trans h2) phP_ext ?_ ?_
    · rintro g w' ⟨⟨bi, e1, _, hbi⟩, ⟨bt, e2, _, hbt⟩, ⟨b15, e3, h15, hb15⟩, ⟨b16, e4, h16, hb16⟩, _⟩ hdj
      refine ⟨⟨bi, bt, b15, b16⟩, ⟨e1, e2, e3, e4, trivial⟩, hbi, hbt, hb15, hb16, ?_, h15, h16⟩
      have d1 := hdj 6 (by simp) 7 (by simp) (by decide)
      have d2 := hdj 2 (by simp) 6 (by simp) (by decide)
      have d3 := hdj 2 (by simp) 7 (by simp) (by decide)
      have d4 := hdj 5 (by simp) 6 (by simp) (by decide)
      have d5 := hdj 5 (by simp) 7 (by simp) (by decide)
      rw [e3, e4] at d1
      rw [e1, e3] at d2
      rw [e1, e4] at d3
      rw [e2, e3] at d4
      rw [e2, e4] at d5
      simp only [ow, List.mem_singleton, forall_eq] at d1 d2 d3 d4 d5
      exact ⟨d1, d2, d3, d4, d5⟩
    · refine pq (fun _ hc => r_loadsB (hB44.ext hc) rfl rfl) <| p (fun _ => r_move) <| pq (fun _ hc => r_loadsB (hB44.ext hc) rfl rfl) <| p (fun _ => r_move) <| pe ⟨⟨?_, ?_, ?_, ?_, trivial⟩, ?_⟩
      · intro g w' hc
        refine xf <| (flags_ok ((hi.ext hs04).ext hc) hn hst1 him).mono ?_
        rintro r5 w5 ⟨hs5, b, rfl, hb, hB⟩
        exact ⟨hs5, ⟨b, rfl, Nat.le_trans hc.size hb, hB⟩, fun c hc' => by rw [List.mem_singleton.1 (show c ∈ [b] from hc')]; exact ⟨hb, hB.lt⟩⟩
      · intro g w' hc
        refine xf <| (flags_ok ((ht.ext hs04).ext hc) hn hst1 htm).mono ?_
        rintro r5 w5 ⟨hs5, b, rfl, hb, hB⟩
        exact ⟨hs5, ⟨b, rfl, Nat.le_trans hc.size hb, hB⟩, fun c hc' => by rw [List.mem_singleton.1 (show c ∈ [b] from hc')]; exact ⟨hb, hB.lt⟩⟩
      · intro g w' hc
        exact o_alloc (us := [.slice none 0 0]) rfl fun b w5 hs5 hb hB => ⟨hs5, ⟨b, rfl, Nat.le_trans hc.size hb, hB⟩, fun c hc' => by rw [List.mem_singleton.1 (show c ∈ [b] from hc')]; exact ⟨hb, hB.lt⟩⟩
      · intro g w' hc
        exact o_alloc (us := [.slice none 0 0]) rfl fun b w5 hs5 hb hB => ⟨hs5, ⟨b, rfl, Nat.le_trans hc.size hb, hB⟩, fun c hc' => by rw [List.mem_singleton.1 (show c ∈ [b] from hc')]; exact ⟨hb, hB.lt⟩⟩
      rintro ⟨bi, bt, b15, b16⟩ g w5 hc5 ⟨hbi, hbt, hb15, hb16, hne, h15, h16⟩
      simp only [] at hbi hbt hb15 hb16 hne h15 h16
      refine pk <| o_store (u := .slice (some ⟨bi, 0, none⟩) n n) hb15 rfl rfl (by simp) rfl fun w6 hs6 hb15' => ⟨hc5.then1 hs6 h15, ?_⟩
      refine pk <| o_store (u := .slice (some ⟨bt, 0, none⟩) n n) (hb16.step hs6 (by simp; omega)) rfl rfl (by simp) rfl fun w7 hs7 hb16' => ⟨(hc5.then1 hs6 h15).then1 hs7 h16, pe ?_⟩
      have hs47 : Step [] w4 w7 := (hc5.then1 hs6 h15).then1 hs7 h16
      have hb15'' := hb15'.step hs7 (by simp; omega)
      have hbi7 := (hbi.step hs6 (by simp; omega)).step hs7 (by simp; omega)
      have hbt7 := (hbt.step hs6 (by simp; omega)).step hs7 (by simp; omega)
      have hz47 := hs47.size
      have hfl : ((flg n wi).map Value.bool)[0 + from0 * 1]? = some (.bool true) := by
        have e1 := flg_at (n := n) (l := wi) (x := (from0 : Int)) (by omega) (by omega)
        rw [decide_eq_true hin] at e1; exact e1
      refine W_seq <| W_seq <| W_region (by rfl) ?_
      refine x (r_loadB hb15'' rfl rfl) <| x r_move <| x (r_indexB (i := from0) rfl rfl hf) <| x (r_loadB hbi7 rfl hfl) <| x (r_not rfl) <| xe ?_
      refine W_false rfl <| W_skip ?_
      refine W_seq <| W_region (by rfl) ?_
      refine x (r_loadsB (hB44.ext hs47) rfl rfl) <| xl rfl <| xf <| (newGraph_ok (hA4.ext hs47) hn hst1 (fun e he => ⟨(ho.ed e he).1, (ho.ed e he).2.1⟩)).mono ?_
      rintro r8 w8 ⟨hs8, bF, rfl, hbF, hBF⟩
      have hs48 := hs47.trans hs8
      have hz8 := hs8.size
      refine x r_move <| x (r_makeFunc (l := []) (l' := [_])) <| x (r_makeFunc (l := []) (l' := [_])) <| xl rfl <| xf <|
        (path_ok (wt := fun s => decide (s ∈ tg)) (pm := fun e => decide (e.2.2 ∈ wi)) (cw := [.pointer (some ⟨b16, 0, none⟩)]) (cp := [.pointer (some ⟨b15, 0, none⟩)]) (gw := 42) (gp := 43) (hA4.ext hs48) hn (by omega) (fun e he => by have := (ho.ed e he).2.2.2; omega) ho.eds hBF hf
          (fun s w' h0 h1 hs' => Path1_ok ((hb16'.ext hs8).ext hs') ((hbt7.ext hs8).ext hs') h0 h1) (fun e w' he hs' => Path2_ok ((hb15''.ext hs8).ext hs') ((hbi7.ext hs8).ext hs') (by have := (ho.ed e he).2.2.2; omega) (by have := (ho.ed e he).2.2.2; omega))).mono ?_
      rintro r9 w9 ⟨hs9, v, rfl, hv⟩
      refine x r_move <| x (r_extract rfl rfl) <| x (r_extract rfl rfl) <| x r_assign <| x r_assign <| xe ?_
      refine W_seq <| W_region (by rfl) ?_
      refine x r_move <| x r_move <| x r_assign <| x r_assign <| x r_assign <| xe ?_
      exact W_ret ⟨[_, _, _], ⟨rfl, rfl, rfl, trivial⟩, hs04.trans (hs48.trans hs9), v, rfl, own_base hv (by omega)⟩
  refine W_skip ?_
  have hk2 : k < 2 := by have h35 : (k : Int) < 2 := h34; omega
  have hex : ∃ u l, [vt, vi][k]? = some u ∧ Ints [] w.heap u l ∧ ckS a.st none l = 0 := by
    rcases k with _ | k
    · exact ⟨vt, tg, rfl, ht, htk⟩
    · have : k = 0 := by omega
      subst this; exact ⟨vi, wi, rfl, hi, hik⟩
  refine Exists.elim hex fun u hu => Exists.elim hu fun l hl => ?_
  refine W_seq <| W_block <| W_seq <| W_region (by rfl) ?_
  refine x (r_indexV (i := k) (cs := [vt, vi]) rfl rfl hk2 hl.1) <| x r_assign <| xe ?_
  refine W_seq <| W_region (by rfl) ?_
  refine x (r_loadsB (hB42.ext hs4) rfl rfl) <| x r_move <| xl rfl <| xf <| (checkStates_ok (va := va) (vm := vm) (ve := ve) (a := a) ((hl.2.1.ext hs12).ext hs4)).mono ?_
  rintro r5 w5 ⟨rfl, hs5⟩
  refine x r_assign <| xe ?_
  refine W_seq <| W_region (by rfl) ?_
  refine x r_move <| x (r_neq rfl rfl) <| xe ?_
  refine W_if rfl (fun h40 => absurd hl.2.2 h40) (fun h40 => ?_)
  refine W_skip ?_
  refine W_region (by rfl) ?_
  refine x (r_add rfl rfl ⟨by omega, by omega⟩) <| x r_move <| xe ?_
  exact ⟨k + 1, by omega, ⟨rfl, trivial⟩, by omega, hs4.trans hs5⟩
end Go.Proofs.YtfhgnlkdcdlblaaGreatDoor
/- Contracts: controllable.open (of a right problem), refused. -/
namespace Go.Proofs.YtfhgnlkdcdlblaaGreatDoor
open Go.Lg

theorem opE_parts {p s : Aut} (h : opE p s = 0) : ckA p = 0 ∧ ckA s = 0 ∧ mrg (fun p q => p && !q) s.al p.al = [] ∧ opC p s = 0 := by
  have hc : opC p s = 0 := by
    unfold opE at h
    split at h
    · rename_i h1; exact absurd h h1
    · rename_i h1; exact Decidable.not_not.1 h1
  obtain ⟨h1, h2⟩ := opC_zero hc
  have c1 := (ckA_zero p).2 h1
  have c2 := (ckA_zero s).2 h2
  refine ⟨c1, c2, ?_, hc⟩
  unfold opC at hc
  rw [if_neg (by simp [c1]), if_neg (by simp [c2])] at hc
  split at hc
  · assumption
  · cases hc
abbrev unL (aP : Aut) (ul : List Int) : List Int := mrg (fun p q => p && q) ul aP.al
structure CPr (H : Array Obj) (b : Nat) (aP aS : Aut) (ul : List Int) (m1 m2 : Nat) (sal vu qa qm qe vt : Value) (qs : List TV) : Prop where
  B : Blk H b 81 [.map (some m1), .map (some m2), sal, vu, qa, .int .i64 (opA aP aS).st, qm, qe, vt]
  M1 : MapB kPair H m1 (edMap [] aP.ed)
  M2 : MapB kPair H m2 (edMap [] aS.ed)
  al : Ints [] H sal aS.al
  un : Ints [] H vu (unL aP ul)
  A : AutA [] H qa qm qe (opA aP aS)
  T : Tups [] H vt qs
  q : qs.map (·.2) = opQ aP aS
theorem CPr.ext {w w' : World} {b : Nat} {aP aS : Aut} {ul : List Int} {m1 m2 : Nat} {sal vu qa qm qe vt : Value} {qs : List TV} (h : CPr w.heap b aP aS ul m1 m2 sal vu qa qm qe vt qs) (hs : Step [] w w') : CPr w'.heap b aP aS ul m1 m2 sal vu qa qm qe vt qs :=
  ⟨h.B.ext hs, h.M1.ext hs, h.M2.ext hs, h.al.ext hs, h.un.ext hs, h.A.ext hs, h.T.ext hs, h.q⟩
def CPx (H : Array Obj) (b : Nat) (aP aS : Aut) (ul : List Int) : Prop := ∃ m1 m2 sal vu qa qm qe vt qs, CPr H b aP aS ul m1 m2 sal vu qa qm qe vt qs
instance : Bw Tryz.prog 81 [.map none, .map none, .slice none 0 0, .slice none 0 0, .slice none 0 0, .int .i64 0, .slice none 0 0, .slice none 0 0, .slice none 0 0] [(0, 1), (1, 1), (2, 1), (3, 1), (4, 4), (8, 1)] := ⟨by kernel_rfl, by decide⟩

theorem copen_ok {w : World} {pva pvm pve sa sm se vl : Value} {aP aS : Aut} {ul : List Int} (hp : AutA [] w.heap pva pvm pve aP) (hs : AutA [] w.heap sa sm se aS) (hu : Ints [] w.heap vl ul) (hE : opE aP aS = 0) (hck : ckS 32 none ul = 0) (hst : aP.st ≤ 100 ∧ aS.st ≤ 100) :
    Ret Tryz.prog 31 [.agg #[pva, .int .i64 aP.st, pvm, pve], .agg #[sa, .int .i64 aS.st, sm, se], vl] w fun r w' => Step [] w w' ∧ ∃ b, r = .tuple #[.pointer (some ⟨b, 0, none⟩), .int .i64 0] ∧ w.heap.size ≤ b ∧ CPx w'.heap b aP aS ul := by
  obtain ⟨c1, c2, hsub, hopC⟩ := opE_parts hE
  have o1 := (ckA_zero aP).1 c1
  have o2 := (ckA_zero aS).1 c2
  have hal1 := o1.al_le
  have hal2 := o2.al_le
  have hul : ul.length ≤ 32 := by
    have h1 := (ckS_zero 32 ul none).1 hck
    have := inc_length ul 0 32 h1.2.1 h1.1
    omega
  refine Ret.of_W Tryz.func31 rfl Tryz.ntmps31 Tryz.results31 (by simp) ?_
  refine W_seq <| W_region (by rfl) ?_
  refine xl rfl <| o_box (us := [pva, .int .i64 aP.st, pvm, pve]) rfl fun b3 w1 hs1 hb3 hB3 => xl rfl <| o_box (us := [sa, .int .i64 aS.st, sm, se]) rfl fun b4 w2 hs2 hb4 hB4 => x r_assign <| x r_assign <| xe ?_
  obtain ⟨ps, hps⟩ := exD ([⟨pva, pvm, pve, aP⟩, ⟨sa, sm, se, aS⟩] : List AV)
  have hs12 := hs1.trans hs2
  have hB32 := hB3.ext hs2
  refine W_seq <| W_seq <| W_region (by rfl) ?_
  refine x (r_loadsB hB32 rfl rfl) <| x (r_loadsB hB4 rfl rfl) <| xl rfl <| o_lits (us := [avCells ⟨pva, pvm, pve, aP⟩, avCells ⟨sa, sm, se, aS⟩]) rfl rfl (by decide) (by exact (by decide : 2 * 4 ≤ 1000000)) ⟨rfl, rfl, rfl, rfl, trivial⟩ fun b17 w4 hs4 hb17 hB17 => ?_
  have hA4 : Arr [] w4.heap (.slice (some ⟨b17, 0, none⟩) 2 2) 2 4 (ps.flatMap avCells) := by rw [← hps]; exact hB17.arr (by simp) rfl (by omega) (by omega)
  have hpl : ps.length = 2 := by rw [← hps]; rfl
  have hA4' : Arr [] w4.heap (.slice (some ⟨b17, 0, none⟩) 2 2) ps.length 4 (ps.flatMap avCells) := by rw [hpl]; exact hA4
  have hW4 := hs12.trans hs4
  have hAA : ∀ p ∈ ps, AutA [] w.heap p.va p.vm p.ve p.a ∧ ckA p.a = 0 := by
    rw [← hps]; intro p hp'; simp at hp'
    rcases hp' with rfl | rfl
    · exact ⟨hp, c1⟩
    · exact ⟨hs, c2⟩
  refine x (r_lenA hA4 rfl) <| x r_move <| xe ?_
  refine W_block <| W_loop (α := Nat) [(6, 7), (9, 10), (19, 28)] (fun z => [(19, .int .i64 z)]) (fun z w' => z ≤ 2 ∧ Step [] w4 w') (fun z => 2 - z) (by rfl) 0 ⟨rfl, trivial⟩ ⟨Nat.zero_le _, Step.refl _ _⟩ ?_
  rintro k g w5 ⟨hk, hs5⟩
  have hW5 := hW4.trans hs5
  have hB35 := (hB32.ext hs4).ext hs5
  have hB45 := (hB4.ext hs4).ext hs5
  refine W_seq <| W_region (by rfl) ?_
  refine x (r_lss rfl rfl) <| xe ?_
  refine W_seq <| W_ifn rfl (fun h20 => ?_) (fun h20 => ?_)
  · refine W_exit ?_
    refine W_seq <| W_seq <| W_region (by rfl) ?_
    refine x r_move <| xl rfl <| xf <| (CheckSet_ok (hu.ext hW5) 32).mono ?_
    rintro r6 w6 ⟨rfl, rfl⟩
    refine x r_assign <| xe ?_
    refine W_seq <| W_region (by rfl) ?_
    refine x r_move <| x (r_neq rfl rfl) <| xe ?_
    refine W_if rfl (fun h32 => absurd hck h32) (fun h32 => ?_)
    refine W_skip ?_
    refine W_seq <| W_seq <| W_region (by rfl) ?_
    refine x (r_fieldB rfl) <| x (r_loadB hB45 rfl rfl) <| x (r_fieldB rfl) <| x (r_loadB hB35 rfl rfl) <| xl rfl <| xf <| (Subset_ok (hs.al.ext hW5) (hp.al.ext hW5) (by omega)).mono ?_
    rintro r7 w7 ⟨hs7, rfl⟩
    refine x (r_not rfl) <| xe ?_
    refine W_cond rfl (fun h39 => by simp [hsub] at h39) (fun h39 => ?_)
    refine W_skip ?_
    have hB37 := hB35.ext hs7
    have hB47 := hB45.ext hs7
    refine W_seq <| W_region (by rfl) ?_
    refine x (r_loadsB hB37 rfl rfl) <| x (r_loadsB hB47 rfl rfl) <| xl rfl <| o_lits (us := [avCells ⟨pva, pvm, pve, aP⟩, avCells ⟨sa, sm, se, aS⟩]) rfl rfl (by decide) (by exact (by decide : 2 * 4 ≤ 1000000)) ⟨rfl, rfl, rfl, rfl, trivial⟩ fun b43 w8 hs8 hb43 hB43 => ?_
    have hW8 := (hW5.trans hs7).trans hs8
    have hAu : Auts [] w8.heap (.slice (some ⟨b43, 0, none⟩) 2 2) [⟨pva, pvm, pve, aP⟩, ⟨sa, sm, se, aS⟩] := by
      refine ⟨hB43.arr (by simp) rfl (by simp) (by simp), fun q hq => ?_⟩
      simp at hq
      rcases hq with rfl | rfl
      · exact hp.ext hW8
      · exact hs.ext hW8
    refine xl rfl <| xf <| (Synchronous_ok hAu (by intro q hq; simp at hq; rcases hq with rfl | rfl; exact hst.1; exact hst.2)).mono ?_
    rintro r9 w9 ⟨hs9, va, vt, c, rfl, hR⟩
    obtain ⟨hc, hO⟩ := OpRes.of hopC hR
    rw [hE] at hc
    subst hc
    obtain ⟨qa, qm, qe, hva, hAF⟩ := (hO.good hE).1
    obtain ⟨qs, hqs, hTF⟩ := (hO.good hE).2
    subst hva
    have hPA := hAF [] (by simp)
    have hPT := hTF [] (by simp)
    refine x r_move <| x (r_extract rfl rfl) <| x (r_extract rfl rfl) <| x (r_extract rfl rfl) <| xl rfl <| o_alloc (us := [.slice none 0 0, .int .i64 0, .slice none 0 0, .slice none 0 0]) rfl fun b12 w10 hs10 hb12 hB12 => xl rfl <| o_stores (us := [qa, .int .i64 (opA aP aS).st, qm, qe]) hB12 rfl rfl rfl rfl ⟨hPA.al.one, rfl, hPA.mr.one, hPA.ed.one, trivial⟩ fun w11 hs11 hB12' => x r_assign <| x r_assign <| xe ?_
    have hs911 : Step [] w9 w11 := hs10.then1 hs11 hb12
    have hs711 := (hs8.trans hs9).trans hs911
    have hW11 := (hW8.trans hs9).trans hs911
    refine W_seq <| W_seq <| W_region (by rfl) ?_
    refine x r_move <| x (r_neq rfl rfl) <| xe ?_
    refine W_if rfl (fun h49 => absurd rfl h49) (fun h49 => ?_)
    refine W_skip ?_
    have hB3b := hB37.ext hs711
    have hB4b := hB47.ext hs711
    have hd0 : Step [] w11 { w11 with drawn := w11.drawn + 1 } := Step.drew _ _
    have hPA11 := hPA.ext hs911
    have hPT11 := hPT.ext hs911
    refine W_seq <| W_draw (Step [] w11) [(0, true), (2, true), (4, true), (5, true), (6, true), (7, true), (8, true), (10, true), (11, true), (1, false), (3, false), (9, false), (12, true), (13, false), (14, true), (15, true)] Tryz.mixed (by rfl) (by kernel_rfl) (Step.drew _ _) ?_
    refine pq (fun _ hc => r_loadsB (hB3b.ext hc) rfl rfl) <| pq (fun _ hc => r_loadsB (hB4b.ext hc) rfl rfl) <| p (fun _ => r_fieldB rfl) <| pq (fun _ hc => r_loadB (hB4b.ext hc) rfl rfl) <| p (fun _ => r_move) <| p (fun _ => r_fieldB rfl) <| pq (fun _ hc => r_loadB (hB3b.ext hc) rfl rfl) <|
      pq (fun _ hc => r_loadsB (hB12'.ext hc) rfl rfl) <| p (fun _ => r_move) <| pk <| xf <| (csteps_ok ((hp.ed.ext hW11).ext hd0)).mono ?_
    rintro r12 w12 ⟨hs12', m1, rfl, hm1, hM1⟩
    have hc12 := hd0.trans hs12'
    refine ⟨hc12, ?_⟩
    refine pk <| xf <| (csteps_ok ((hs.ed.ext hW11).ext hc12)).mono ?_
    rintro r13 w13 ⟨hs13, m2, rfl, hm2, hM2⟩
    have hc13 := hc12.trans hs13
    refine ⟨hc13, ?_⟩
    refine pk <| xf <| (Intersect_ok ((hu.ext hW11).ext hc13) ((hp.al.ext hW11).ext hc13) (by omega)).mono ?_
    rintro vu w14 ⟨hs14, hU⟩
    have hc14 := hc13.trans hs14
    refine ⟨hc14, ?_⟩
    have hull : (unL aP ul).length ≤ ul.length + aP.al.length := mrg_len (fun p q => p && q) ul aP.al
    have hUA : Ints [] w14.heap vu (unL aP ul) := own_arr hU (by omega) (by simp)
    refine p (fun _ => r_buildW [(0, [.map (some m1)]), (1, [.map (some m2)]), (2, [sa]), (3, [vu]), (4, [qa, .int .i64 (opA aP aS).st, qm, qe]), (5, [vt])] ⟨rfl, rfl, rfl, rfl, hs.al.cells, rfl, hUA.cells, rfl, rfl, rfl, hPT.arr.cells, rfl, trivial⟩) <|
      pk <| o_box (us := [.map (some m1), .map (some m2), sa, vu, qa, .int .i64 (opA aP aS).st, qm, qe, vt]) rfl fun b64 w15 hs15 hb64 hB64 => ⟨hc14.trans hs15, ?_⟩
    refine p (fun _ => r_assign) <| p (fun _ => r_assign) <| pe ?_
    have hz11 := hW11.size
    have hz14 := hc14.size
    refine W_ret ⟨[_, _], ⟨rfl, rfl, trivial⟩, hW11.trans (hc14.trans hs15), b64, rfl, by omega, m1, m2, sa, vu, qa, qm, qe, vt, qs, hB64, ((hM1.ext hs13).ext hs14).ext hs15, (hM2.ext hs14).ext hs15, hs.al.ext (hW11.trans (hc14.trans hs15)), hUA.ext hs15, hPA11.ext (hc14.trans hs15), hPT11.ext (hc14.trans hs15), hqs⟩
  have hlt : k < ps.length := by have h21 : (k : Int) < 2 := h20; omega
  have hA := hAA _ (List.getElem_mem hlt)
  obtain ⟨q, hq⟩ := exD (ps[k]'hlt)
  rw [hq] at hA
  have hA4s := hA4'.ext hs5
  refine W_skip ?_
  refine W_seq <| W_block <| W_seq <| W_region (by rfl) ?_
  refine xig av_len hA4s rfl rfl hlt fun a16 h16 => ?_
  rw [hq] at h16
  refine x (r_loadsA h16 rfl rfl) <| xl rfl <| o_alloc (us := [.slice none 0 0, .int .i64 0, .slice none 0 0, .slice none 0 0]) rfl fun b8 w11 hs11 hb8 hB8 => xl rfl <| o_stores (us := avCells q) hB8 rfl rfl rfl rfl ⟨hA.1.al.one, rfl, hA.1.mr.one, hA.1.ed.one, trivial⟩ fun w12 hs12 hB8' =>
    xe ?_
  have hs512 : Step [] w5 w12 := hs11.then1 hs12 hb8
  refine W_seq <| W_region (by rfl) ?_
  refine x (r_loadsB hB8' rfl rfl) <| xl rfl <| xf <| (check_ok ((hA.1.ext hW5).ext hs512)).mono ?_
  rintro r13 w13 ⟨rfl, hs13'⟩
  refine x r_assign <| xe ?_
  refine W_seq <| W_region (by rfl) ?_
  refine x r_move <| x (r_neq rfl rfl) <| xe ?_
  refine W_if rfl (fun h26 => absurd hA.2 h26) (fun h26 => ?_)
  refine W_skip ?_
  refine W_region (by rfl) ?_
  refine x (r_add rfl rfl ⟨by omega, by omega⟩) <| x r_move <| xe ?_
  exact ⟨k + 1, by omega, ⟨rfl, trivial⟩, by omega, (hs5.trans hs512).trans hs13'⟩
end Go.Proofs.YtfhgnlkdcdlblaaGreatDoor
/- Contracts: controllable.refused, Check$1. -/
namespace Go.Proofs.YtfhgnlkdcdlblaaGreatDoor
open Go.Lg

theorem r_lookE {P : Program} {f : Fr} {w : World} {d : Option Nat} {ty : Nat} {ps : String} {af : Array Edge} {gd : Option (Nat × Bool)} {t kt et : Nat} [hm : Mp P t kt et (.int .i64 0)] [hk : Key P kt kPair] {x y : Operand} {b : Nat} {s : Aut} {q v : Int} (h : MapB kPair w.heap b (edMap [] s.ed))
    (hs : s.ed.Pairwise fun x y => x.1 < y.1 ∨ (x.1 = y.1 ∧ x.2.1 < y.2.1)) (hx : ev f x = .map (some b)) (hy : ev f y = kPair (q, v)) :
    (execOp (ev f) ⟨d, .lookup t x y true, ty, ps, af, gd⟩).run P w = .ok (.value (.tuple #[.int .i64 ((eget s.ed q v).getD 0), .bool (decide ((eget s.ed q v).isSome = true))])) w := by
  rw [r_lookup h hx hy, edMap_get s.ed [] q v hs]
  cases eget s.ed q v <;> rfl
/-- The requirement refuses event u in the pair. -/
def rfu (aP aS : Aut) (t : List Int) (u : Int) : Bool := (eget aP.ed (t.getD 0 0) u).isSome && (!(eget aS.ed (t.getD 1 0) u).isSome && decide (u ∈ aS.al))
def rfs (aP aS : Aut) (us : List Int) (t : List Int) : Int := (us.find? (rfu aP aS t)).getD (-1)
theorem rfs_cons (aP aS : Aut) (u : Int) (us t : List Int) : rfs aP aS (u :: us) t = if rfu aP aS t u = true then u else rfs aP aS us t := by
  unfold rfs; rw [List.find?_cons]; cases rfu aP aS t u <;> rfl
theorem tv_at {qs : List TV} {k : Nat} (hk : k < qs.length) {l : List (List Int)} (h : qs.map (·.2) = l) : (qs[k]'hk).2 = l.getD k [] := by
  rw [← h]; simp [List.getD, hk]
theorem refused_ok {w : World} {b : Nat} {aP aS : Aut} {ul : List Int} {m1 m2 : Nat} {sal vu qa qm qe vt : Value} {qs : List TV} (h : CPr w.heap b aP aS ul m1 m2 sal vu qa qm qe vt qs) (o1 : Okay aP) (o2 : Okay aS) {k : Nat} (hk : k < qs.length) (hv : Vt [aP, aS] (qs[k]'hk).2) :
    Ret Tryz.prog 32 [.pointer (some ⟨b, 0, none⟩), .int .i64 k] w fun r w' => r = .int .i64 (rfs aP aS (unL aP ul) (qs[k]'hk).2) ∧ Step [] w w' := by
  have hul := h.un.le
  have hql := h.T.arr.le
  have hin := h.T.each _ (List.getElem_mem hk)
  have hlen : (qs[k]'hk).2.length = 2 := hv.1
  obtain ⟨q, hq⟩ := exD (qs[k]'hk)
  rw [hq] at hin hlen ⊢
  refine Ret.of_W Tryz.func32 rfl Tryz.ntmps32 Tryz.results32 (by simp) ?_
  refine W_seq <| W_region (by rfl) ?_
  refine x r_assign <| xe ?_
  refine W_seq <| W_seq <| W_region (by rfl) ?_
  refine x r_move <| x (r_nilCheck rfl) <| x (r_fieldB rfl) <| x (r_loadB h.B rfl rfl) <| x (r_lenA h.un rfl) <| x r_move <| xe ?_
  refine W_block <| W_loop (α := Nat) [(4, 4), (6, 10), (16, 72)] (fun z => [(16, .int .i64 z)]) (fun z w' => z ≤ (unL aP ul).length ∧ Step [] w w' ∧ rfs aP aS ((unL aP ul).drop z) q.2 = rfs aP aS (unL aP ul) q.2) (fun z => (unL aP ul).length - z) (by rfl) 0 ⟨rfl, trivial⟩ ⟨Nat.zero_le _, Step.refl _ _, rfl⟩ ?_
  rintro i g w1 ⟨hi, hs1, hr⟩
  refine W_seq <| W_region (by rfl) ?_
  refine x (r_lss rfl rfl) <| xe ?_
  refine W_seq <| W_ifn rfl (fun h17 => ?_) (fun h17 => ?_)
  · refine W_exit ?_
    have hie : (unL aP ul).length ≤ i := by have h18 : ¬ (i : Int) < ((unL aP ul).length : Int) := h17; omega
    rw [List.drop_of_length_le hie] at hr
    refine W_seq <| W_region (by rfl) ?_
    refine x r_assign <| xe ?_
    exact W_ret ⟨[.int .i64 (-1)], ⟨rfl, trivial⟩, by rw [← hr]; rfl, hs1⟩
  refine W_skip ?_
  have hlt : i < (unL aP ul).length := by have h18 : (i : Int) < ((unL aP ul).length : Int) := h17; omega
  have hdr := drop_cons hlt
  rw [hdr, rfs_cons] at hr
  refine exE ((unL aP ul)[i]'hlt) fun u hu => ?_
  rw [hu] at hr
  have h1 := h.ext hs1
  have hin1 := hin.ext hs1
  have hg0 : q.2[0]'(by omega) = q.2.getD 0 0 := by simp [List.getD, hlen]
  have hg1 : q.2[1]'(by omega) = q.2.getD 1 0 := by simp [List.getD, hlen]
  refine W_seq <| W_block <| W_seq <| W_region (by rfl) ?_
  refine xii (i := i) h1.un rfl rfl hlt fun a18 h18 => ?_
  rw [hu] at h18
  refine x (r_loadA h18 rfl) <| x r_assign <| xe ?_
  refine W_seq <| W_draw (Step [] w1) [(0, true), (1, true), (2, true), (3, true), (4, true), (5, true), (6, true), (7, true), (8, true), (9, true), (10, true), (11, true), (12, true), (13, true), (14, true), (15, true), (16, true), (17, true), (18, true), (19, true), (20, true)] Tryz.mixed (by rfl) (by kernel_rfl) (Step.drew _ _) ?_
  refine p (fun _ => r_move) <| p (fun _ => r_nilCheck rfl) <| p (fun _ => r_fieldB rfl) <| pq (fun _ hc => r_loadB (h1.B.ext hc) rfl rfl) <| p (fun _ => r_move) <| p (fun _ => r_nilCheck rfl) <|
    p (fun _ => r_fieldB rfl) <| pq (fun _ hc => r_loadB (h1.B.ext hc) rfl rfl) <| p (fun _ => r_move) <| Lg.pig (i := k) (g := tvCells) rfl (fun _ => rfl) h1.T.arr rfl rfl hk fun a30 h30 => ?_
  rw [hq] at h30
  refine pq (fun _ hc => r_loadA (h30.ext hc) rfl) <| pii (i := 0) rfl hin1 rfl rfl (by omega) fun a32 h32 => ?_
  rw [hg0] at h32
  refine pq (fun _ hc => r_loadA (h32.ext hc) rfl) <| p (fun _ => r_move) <| p (fun _ => r_build ⟨rfl, rfl, trivial⟩) <| pq (fun _ hc => r_lookE (q := q.2.getD 0 0) (v := u) (h1.M1.ext hc) o1.edi rfl rfl) <| p (fun _ => r_move) <| p (fun _ => r_extract rfl rfl) <| p (fun _ => r_extract rfl rfl) <| p (fun _ => r_assign) <|
    p (fun _ => r_assign) <| pe ?_
  have hs2 : Step [] w1 { w1 with drawn := w1.drawn + 1 } := Step.drew _ _
  have h2 := h1.ext hs2
  have hin2 := hin1.ext hs2
  refine W_seq <| W_draw (Step [] { w1 with drawn := w1.drawn + 1 }) [(0, true), (1, true), (2, true), (3, true), (4, true), (5, true), (6, true), (7, true), (8, true), (9, true), (10, true), (11, true), (12, true), (13, true), (14, true), (15, true), (16, true), (17, true), (18, true), (19, true), (20, true)] Tryz.mixed (by rfl) (by kernel_rfl) (Step.drew _ _) ?_
  refine p (fun _ => r_move) <| p (fun _ => r_nilCheck rfl) <| p (fun _ => r_fieldB rfl) <| pq (fun _ hc => r_loadB (h2.B.ext hc) rfl rfl) <| p (fun _ => r_move) <| p (fun _ => r_nilCheck rfl) <|
    p (fun _ => r_fieldB rfl) <| pq (fun _ hc => r_loadB (h2.B.ext hc) rfl rfl) <| p (fun _ => r_move) <| Lg.pig (i := k) (g := tvCells) rfl (fun _ => rfl) h2.T.arr rfl rfl hk fun a49 h49 => ?_
  rw [hq] at h49
  refine pq (fun _ hc => r_loadA (h49.ext hc) rfl) <| pii (i := 1) rfl hin2 rfl rfl (by omega) fun a51 h51 => ?_
  rw [hg1] at h51
  refine pq (fun _ hc => r_loadA (h51.ext hc) rfl) <| p (fun _ => r_move) <| p (fun _ => r_build ⟨rfl, rfl, trivial⟩) <| pq (fun _ hc => r_lookE (q := q.2.getD 1 0) (v := u) (h2.M2.ext hc) o2.edi rfl rfl) <| p (fun _ => r_move) <| p (fun _ => r_extract rfl rfl) <| p (fun _ => r_extract rfl rfl) <| p (fun _ => r_assign) <|
    p (fun _ => r_assign) <| pe ?_
  have hs3 : Step [] w1 { w1 with drawn := w1.drawn + 1 + 1 } := hs2.trans (Step.drew _ _)
  have h3 := h1.ext hs3
  refine W_cut (α := Bool) [(58, 70)] (fun z => [(70, .bool z)]) (fun z w' => Step [] w1 w' ∧ z = rfu aP aS q.2 u) (by rfl) ?_ ?_
  · refine W_region (by rfl) ?_
    refine x r_move <| xb r_move (fun h59 => ?_) (fun h59 => ?_)
    · refine xb r_move (fun h60 => ?_) (fun h60 => ?_)
      · refine x (r_not rfl) <| x (r_pick rfl) <| x r_move <| xs rfl <| xs rfl <| xs rfl <| xs rfl <| xs rfl <| xs rfl <| x (r_pick rfl) <| xe ?_
        exact ⟨false, ⟨rfl, trivial⟩, hs3, by unfold rfu; rw [h60]; simp⟩
      · refine x (r_not rfl) <| x (r_pick rfl) <| x r_move <| x r_move <| x (r_nilCheck rfl) <| x (r_fieldB rfl) <| x (r_loadB h3.B rfl rfl) <| x r_move <| xl rfl <| xf <| (alContains_ok h3.al o2.ali u).mono ?_
        rintro r4 w4 ⟨rfl, rfl⟩
        refine x (r_pick rfl) <| xe ?_
        exact ⟨decide (u ∈ aS.al), ⟨rfl, trivial⟩, hs3, by unfold rfu; rw [h59, Bool.eq_false_iff.2 h60]; simp⟩
    · refine xs rfl <| xs rfl <| x (r_pick rfl) <| x r_move <| xs rfl <| xs rfl <| xs rfl <| xs rfl <| xs rfl <| xs rfl <| x (r_pick rfl) <| xe ?_
      exact ⟨false, ⟨rfl, trivial⟩, hs3, by unfold rfu; rw [Bool.eq_false_iff.2 h59]; simp⟩
  rintro z g w4 ⟨hs4, rfl⟩
  refine W_cond rfl (fun h70 => ?_) (fun h70 => ?_)
  · rw [if_pos h70] at hr
    refine W_seq <| W_region (by rfl) ?_
    refine x r_move <| x r_assign <| xe ?_
    exact W_ret ⟨[.int .i64 u], ⟨rfl, trivial⟩, by rw [← hr]; rfl, hs1.trans hs4⟩
  rw [if_neg (by rw [h70]; decide)] at hr
  refine W_skip ?_
  refine W_region (by rfl) ?_
  refine x (r_add rfl rfl ⟨by omega, by omega⟩) <| x r_move <| xe ?_
  exact ⟨i + 1, by omega, ⟨rfl, trivial⟩, hlt, hs1.trans hs4, hr⟩
theorem Check1_ok {b T : Nat} {n : Int} (e : Ed) (w : World) (hB : Blk w.heap b T [.int .i64 n]) :
    Ret Tryz.prog 34 ([.agg (edCells e).toArray] ++ [.pointer (some ⟨b, 0, none⟩)]) w fun r w' => r = .bool (decide (e.2.2 = n)) ∧ Step [] w w' := by
  refine Ret.of_W Tryz.func34 rfl Tryz.ntmps34 Tryz.results34 (by simp) ?_
  refine W_seq <| W_region (by rfl) ?_
  refine xl rfl <| o_box (us := edCells e) rfl fun b2 w1 hs1 hb2 hB2 => x r_assign <| xe ?_
  refine W_seq <| W_region (by rfl) ?_
  refine x (r_fieldB rfl) <| x (r_loadB hB2 rfl rfl) <| x (r_loadB (hB.ext hs1) rfl rfl) <| x (r_eql rfl rfl) <| x r_assign <| xe ?_
  exact W_ret ⟨[_], ⟨rfl, trivial⟩, rfl, hs1⟩
end Go.Proofs.YtfhgnlkdcdlblaaGreatDoor
/- Contract: controllable.Check of a right problem. -/
namespace Go.Proofs.YtfhgnlkdcdlblaaGreatDoor
open Go.Lg

def chkP (aP aS : Aut) (ul : List Int) (k : Nat) : Int := rfs aP aS (unL aP ul) ((opQ aP aS).getD k [])
def chkS (aP aS : Aut) (ul : List Int) : Option Nat := (List.range (opQ aP aS).length).find? fun k => decide (0 ≤ chkP aP aS ul k)
/-- The word, the event, and whether nothing is refused. -/
def chk (aP aS : Aut) (ul : List Int) : List Int × Int × Bool := match chkS aP aS ul with
  | none => ([], 0, true)
  | some k => ((bak (opA aP aS).ed (k + 1) k).reverse, chkP aP aS ul k, false)
theorem ixq_fto {es : List Ed} {s : Int} {r : Value} (h : IxQ (fun e : Ed => decide (e.2.2 = s)) es r) (hex : ∃ e ∈ es, e.2.2 = s) : ∃ (i : Nat) (hi : i < es.length), r = .int .i64 i ∧ es[i]'hi = fto es s := by
  rcases h with ⟨_, h⟩ | ⟨i, hi, h1, h2, h3⟩
  · obtain ⟨e, he, hs⟩ := hex
    obtain ⟨m, hm, rfl⟩ := List.getElem_of_mem he
    have := h m hm
    simp [hs] at this
  · refine ⟨i, hi, h1, ?_⟩
    have : es.find? (fun e => e.2.2 == s) = some (es[i]'hi) := by
      rw [List.find?_eq_some_iff_getElem]
      refine ⟨by simpa using h2, i, hi, rfl, fun j hj => ?_⟩
      have := h3 j hj
      simpa using this
    unfold fto; rw [this]; rfl
theorem Check_ok {w : World} {pva pvm pve sa sm se vl : Value} {aP aS : Aut} {ul : List Int} (hp : AutA [] w.heap pva pvm pve aP) (hs : AutA [] w.heap sa sm se aS) (hu : Ints [] w.heap vl ul) (hE : opE aP aS = 0) (hck : ckS 32 none ul = 0) (hst : aP.st ≤ 100 ∧ aS.st ≤ 100) :
    Ret Tryz.prog 8 [.agg #[pva, .int .i64 aP.st, pvm, pve], .agg #[sa, .int .i64 aS.st, sm, se], vl] w fun r w' => Step [] w w' ∧ ∃ v, r = .tuple #[v, .int .i64 (chk aP aS ul).2.1, .bool (chk aP aS ul).2.2, .int .i64 0] ∧ IntsO 3 w.heap.size w' v (chk aP aS ul).1 := by
  obtain ⟨o1, o2, hsync, hVt, hql⟩ := opE_zero hE
  obtain ⟨hSyP, oA, _⟩ := opE_syP hE
  have hpar := sync_par hsync
  have hsrt := oA.eds
  have hel := oA.ed_le
  have hAst := hSyP.st
  refine Ret.of_W Tryz.func8 rfl Tryz.ntmps8 Tryz.results8 (by simp) ?_
  refine W_seq <| W_region (by rfl) ?_
  refine xl rfl <| o_box (us := [pva, .int .i64 aP.st, pvm, pve]) rfl fun b3 w1 hs1 hb3 hB3 => xl rfl <| o_box (us := [sa, .int .i64 aS.st, sm, se]) rfl fun b4 w2 hs2 hb4 hB4 => x r_assign <| x r_assign <| x r_assign <| x r_assign <| xe ?_
  have hs12 := hs1.trans hs2
  refine W_seq <| W_region (by rfl) ?_
  refine x (r_loadsB (hB3.ext hs2) rfl rfl) <| x (r_loadsB hB4 rfl rfl) <| x r_move <| xl rfl <| xf <| (copen_ok (hp.ext hs12) (hs.ext hs12) (hu.ext hs12) hE hck hst).mono ?_
  rintro r3 w3 ⟨hs3, b, rfl, hb, m1, m2, sal, vu, qa, qm, qe, vt, qs, hC⟩
  have hW3 := hs12.trans hs3
  have hz3 := hW3.size
  refine x r_move <| x (r_extract rfl rfl) <| x (r_extract rfl rfl) <| x r_assign <| x r_assign <| xe ?_
  refine W_seq <| W_seq <| W_region (by rfl) ?_
  refine x r_move <| x (r_neq rfl rfl) <| xe ?_
  refine W_if rfl (fun h22 => absurd rfl h22) (fun h22 => ?_)
  refine W_skip ?_
  have hqn : qs.length = (opQ aP aS).length := by rw [← hC.q, List.length_map]
  refine W_seq <| W_seq <| W_region (by rfl) ?_
  refine x r_move <| x (r_nilCheck rfl) <| x (r_fieldB rfl) <| x (r_fieldB rfl) <| x (r_loadB hC.B rfl rfl) <| x r_move <| xe ?_
  refine W_block <| W_loop (α := Nat) [(6, 9), (11, 13), (29, 71)] (fun z => [(6, .slice none 0 0), (29, .int .i64 z)]) (fun z w' => z ≤ (opQ aP aS).length ∧ Step [] w3 w' ∧ ∀ m, m < z → ¬ 0 ≤ chkP aP aS ul m) (fun z => (opQ aP aS).length - z) (by rfl) 0 ⟨rfl, rfl, trivial⟩ ⟨Nat.zero_le _, Step.refl _ _, fun m hm => by omega⟩ ?_
  rintro k g w4 ⟨hk, hs4, hno⟩
  refine W_seq <| W_region (by rfl) ?_
  refine x (r_lss rfl rfl) <| xe ?_
  refine W_seq <| W_ifn rfl (fun h30 => ?_) (fun h30 => ?_)
  · refine W_exit ?_
    have hkn : k = (opQ aP aS).length := by have h31 : ¬ (k : Int) < (opA aP aS).st := h30; omega
    have hch : chk aP aS ul = ([], 0, true) := by
      unfold chk
      have : chkS aP aS ul = none := by
        unfold chkS
        rw [List.find?_eq_none]
        intro m hm
        have := hno m (by rw [hkn]; exact List.mem_range.1 hm)
        simpa using this
      rw [this]
    refine W_seq <| W_region (by rfl) ?_
    refine x r_assign <| x r_assign <| x r_assign <| x r_assign <| xe ?_
    refine W_ret ⟨[.slice none 0 0, .int .i64 0, .bool true, .int .i64 0], ⟨rfl, rfl, rfl, rfl, trivial⟩, hW3.trans hs4, .slice none 0 0, by rw [hch]; rfl, ?_⟩
    rw [hch]; exact own_nil _ _ _ _
  refine W_skip ?_
  have hkn : k < (opQ aP aS).length := by have h31 : (k : Int) < (opA aP aS).st := h30; omega
  have hkq : k < qs.length := by omega
  have htv := tv_at hkq hC.q
  have hvt : Vt [aP, aS] (qs[k]'hkq).2 := by
    rw [htv]
    exact hVt _ (by simp [List.getD, hkn])
  refine W_seq <| W_block <| W_seq <| W_region (by rfl) ?_
  refine x r_move <| xl rfl <| o_alloc (us := [.int .i64 0]) rfl fun b11 w5 hs5 hb11 hB11 => xl rfl <| o_store (u := .int .i64 k) hB11 rfl rfl (by decide) rfl fun w6 hs6 hB11' => xe ?_
  have hs36 : Step [] w3 w6 := hs4.trans (hs5.then1 hs6 hb11)
  have hz36 := hs4.size
  refine W_seq <| W_region (by rfl) ?_
  refine x r_move <| x (r_loadB hB11' rfl rfl) <| xl rfl <| xf <| (refused_ok (hC.ext hs36) o1 o2 hkq hvt).mono ?_
  rintro r7 w7 ⟨rfl, hs7⟩
  rw [htv]
  refine x r_assign <| xe ?_
  refine W_seq <| W_seq <| W_region (by rfl) ?_
  refine x r_move <| x (r_lss rfl rfl) <| xe ?_
  refine W_if rfl (fun h36 => ?_) (fun h36 => ?_)
  · refine W_exit ?_
    refine W_region (by rfl) ?_
    refine x (r_add rfl rfl ⟨by omega, by omega⟩) <| x r_move <| xe ?_
    refine ⟨k + 1, by omega, ⟨rfl, rfl, trivial⟩, hkn, hs36.trans hs7, fun m hm => ?_⟩
    by_cases e : m = k
    · subst e
      have h37 : chkP aP aS ul m < 0 := h36
      omega
    · exact hno m (by omega)
  refine W_skip ?_
  have h37 : 0 ≤ chkP aP aS ul k := by have h38 : ¬ chkP aP aS ul k < 0 := h36; omega
  have hch : chk aP aS ul = ((bak (opA aP aS).ed (k + 1) k).reverse, chkP aP aS ul k, false) := by
    unfold chk
    have : chkS aP aS ul = some k := by
      unfold chkS
      rw [List.find?_range_eq_some]
      refine ⟨by simpa using h37, List.mem_range.2 hkn, fun m hm => ?_⟩
      have := hno m hm
      simpa using this
    rw [this]
  have hs37 := hs36.trans hs7
  have hz37 := hs37.size
  have hl11 := hB11'.lt
  have hz7 := hs7.size
  have hB117 := hB11'.ext hs7
  have hb11' : w3.heap.size ≤ b11 := by omega
  refine W_seq <| W_block <| W_loop (α := Nat × Nat × Value × List Int) [(6, 6), (13, 13), (37, 66)] (fun z => [(6, z.2.2.1)])
    (fun z w' => Step [] w3 w' ∧ w7.heap.size ≤ w'.heap.size ∧ Blk w'.heap b11 3 [.int .i64 z.2.1] ∧ IntsO 3 w7.heap.size w' z.2.2.1 z.2.2.2 ∧ z.2.1 < z.1 ∧ z.2.1 < (opQ aP aS).length ∧ z.2.2.2.length + z.1 ≤ k + 1 ∧ z.2.2.2 ++ bak (opA aP aS).ed z.1 z.2.1 = bak (opA aP aS).ed (k + 1) k)
    (fun z => z.1) (by rfl) (k + 1, k, .slice none 0 0, []) ⟨rfl, trivial⟩ ⟨hs37, Nat.le_refl _, hB117, own_nil _ _ _ _, by simp, hkn, by simp, rfl⟩ ?_
  rintro ⟨f, s, v, acc⟩ g w8 ⟨hs8, hz8, hB8, hO8, hsf, hsn, hal, hbk⟩
  simp only [] at hB8 hO8 hsf hsn hal hbk
  refine Exists.elim (Nat.exists_eq_succ_of_ne_zero (show f ≠ 0 by omega)) fun f' hfe => ?_
  subst hfe
  rw [bak] at hbk
  refine W_seq <| W_seq <| W_region (by rfl) ?_
  refine x (r_loadB hB8 rfl rfl) <| x (r_gtr rfl rfl) <| xe ?_
  refine W_ifn rfl (fun h38 => ?_) (fun h38 => ?_)
  · refine W_exit ?_
    rw [if_neg (by have h39 : ¬ (s : Int) > 0 := h38; omega), List.append_nil] at hbk
    refine W_seq <| W_region (by rfl) ?_
    refine x r_move <| xl rfl <| xf <| (Reverse_ok hO8 (by omega)).mono ?_
    rintro r9 w9 ⟨hO9, hs9⟩
    refine xe ?_
    refine W_seq <| W_region (by rfl) ?_
    refine x r_move <| x r_move <| x r_assign <| x r_assign <| x r_assign <| x r_assign <| xe ?_
    refine W_ret ⟨[v, .int .i64 (chkP aP aS ul k), .bool false, .int .i64 0], ⟨rfl, rfl, rfl, rfl, trivial⟩, (hW3.trans hs8).then hs9 (fun c hc => .inr (by have := (own_ge hO8 c hc).1; omega)), v, by rw [hch]; rfl, ?_⟩
    rw [hch, ← hbk]; exact own_base hO9 (by omega)
  have hs0 : 0 < s := by have h39 : (s : Int) > 0 := h38; omega
  rw [if_pos (by omega)] at hbk
  have hft := fto_spec hpar hsrt hs0 hsn
  have hfe := oA.ed _ hft.1
  refine W_skip ?_
  have hC8 := hC.ext hs8
  refine W_block <| W_seq <| W_region (by rfl) ?_
  refine x r_move <| x (r_nilCheck rfl) <| x (r_fieldB rfl) <| x (r_fieldB rfl) <| x (r_loadB hC8.B rfl rfl) <| x (r_makeFunc (l := []) (l' := [_])) <| xl rfl <| xf <| (ixfE_ok (g := 34) (cap := [.pointer (some ⟨b11, 0, none⟩)]) (q := fun e => decide (e.2.2 = (s : Int))) hC8.A.ed (fun e w1 hsw => Check1_ok e w1 (hB8.ext hsw))).mono ?_
  rintro r10 w10 ⟨hs10, hix⟩
  refine Exists.elim (ixq_fto hix ⟨_, hft.1, hft.2.1⟩) fun i hi => Exists.elim hi fun hil hr => ?_
  refine exE (fto (opA aP aS).ed s) fun e he => ?_
  rw [he] at hft hfe hbk hr
  have hr1 := hr.1
  subst hr1
  refine x r_assign <| xe ?_
  have hs310 := hs8.trans hs10
  have hC10 := hC.ext hs310
  have hz10 := hs10.size
  refine W_seq <| W_region (by rfl) ?_
  refine x r_move <| x r_move <| x (r_nilCheck rfl) <| x (r_fieldB rfl) <| x (r_fieldB rfl) <| x (r_loadB hC10.B rfl rfl) <| x r_move <| xie (i := i) hC10.A.ed rfl rfl hil fun a53 h53 => ?_
  rw [hr.2] at h53
  refine x (r_field rfl) <| x (r_loadA (h53.fld 1 (.int .i64 e.2.1) rfl) rfl) <| xl rfl <| o_lits (us := [[.int .i64 e.2.1]]) rfl rfl (by decide) (by simp) ⟨rfl, rfl, trivial⟩ fun b56 w11 hs11 hb56 hB56 =>
    xl rfl <| o_app (m := 1) (news := [.int .i64 e.2.1]) (own_ext hO8 (hs10.trans hs11)) rfl rfl rfl (hB56.at (L := []) (by simp)) (by simp [Value.oneCell']) (by omega) (by have := hs11.size; omega) fun v12 w12 hO12 hs12' hn12 => x r_assign <| xe ?_
  have hz11 := hs11.size
  have hz12 := hs12'.size
  have hs312 : Step [] w3 w12 := (hs310.trans hs11).then hs12' (fun c hc => .inr (by have := (own_ge hO8 c hc).1; omega))
  have hC12 := hC.ext hs312
  have hB12 : Blk w12.heap b11 3 [.int .i64 s] := ((hB8.ext hs10).ext hs11).step hs12' (fun hm => by have := (own_ge hO8 _ hm).1; omega)
  refine W_region (by rfl) ?_
  refine x r_move <| x (r_nilCheck rfl) <| x (r_fieldB rfl) <| x (r_fieldB rfl) <| x (r_loadB hC12.B rfl rfl) <| x r_move <| xie (i := i) hC12.A.ed rfl rfl hil fun a64 h64 => ?_
  rw [hr.2] at h64
  refine x (r_field rfl) <| x (r_loadA (h64.fld 0 (.int .i64 e.1) rfl) rfl) <| xl rfl <| o_store (u := .int .i64 e.1) hB12 rfl rfl (by simp) rfl fun w13 hs13 hB13 => xe ?_
  have hen : e.1 = (e.1.toNat : Int) := by omega
  have hb11n : ∀ c ∈ ob v12, c ∉ [b11] := fun c hc => by have := (own_ge hO12 c hc).1; simp; omega
  have hB13' : Blk w13.heap b11 3 [.int .i64 (e.1.toNat : Int)] := by rw [← hen]; exact hB13
  refine ⟨(f', e.1.toNat, v12, acc ++ [e.2.1]), by simp only []; omega, ⟨rfl, trivial⟩, hs312.then1 hs13 hb11', by have := hs13.size; omega, hB13', own_step (IntsO.snoc hO12) hs13 hb11n, by simp only []; omega, by simp only []; omega, ?_, ?_⟩
  · simp only [List.length_append, List.length_singleton]; omega
  · rw [List.append_assoc]
    simp only [] at hbk ⊢
    rw [← hen]; exact hbk
end Go.Proofs.YtfhgnlkdcdlblaaGreatDoor
/- Contract: supervisor.Conforms. -/
namespace Go.Proofs.YtfhgnlkdcdlblaaGreatDoor
open Go.Lg

def natI (k : Nat) : List Int := (List.range k).map fun i : Nat => (i : Int)
theorem natI_len (k : Nat) : (natI k).length = k := by simp [natI]
theorem natI_succ (k : Nat) : natI (k + 1) = natI k ++ [(k : Int)] := by unfold natI; rw [List.range_succ, List.map_append]; rfl
theorem natI_mem (k : Nat) (x : Int) : x ∈ natI k ↔ 0 ≤ x ∧ x < (k : Int) := by
  unfold natI
  simp only [List.mem_map, List.mem_range]
  constructor
  · rintro ⟨i, hi, rfl⟩; omega
  · intro h; exact ⟨x.toNat, by omega, by omega⟩
theorem natI_inc (k : Nat) : Inc (natI k) := by
  induction k with
  | zero => exact List.Pairwise.nil
  | succ k ih =>
    rw [natI_succ]
    refine List.pairwise_append.2 ⟨ih, List.pairwise_singleton _ _, fun x hx y hy => ?_⟩
    have := (natI_mem k x).1 hx
    simp at hy; omega
theorem corS_mem (d : List Int) (k : Nat) (x : Int) : x ∈ corS d k → 0 ≤ x ∧ x < (k : Int) := by
  unfold corS
  simp only [List.mem_map, List.mem_filter, List.mem_range]
  rintro ⟨i, hi, rfl⟩; omega
theorem corS_inc (d : List Int) (k : Nat) : Inc (corS d k) := by
  induction k with
  | zero => exact List.Pairwise.nil
  | succ k ih =>
    rw [corS_succ]
    split
    · refine List.pairwise_append.2 ⟨ih, List.pairwise_singleton _ _, fun x hx y hy => ?_⟩
      have := corS_mem d k x hx
      simp at hy; omega
    · exact ih
theorem cor_inc (A : Aut) : Inc (cor A) := corS_inc _ _
/-- The states that block. -/
def blkS (A : Aut) : List Int := mrg (fun p q => p && !q) (natI A.st.toNat) (cor A)
theorem blkS_inc (A : Aut) : Inc (blkS A) := mrg_inc _ _ _ _ (Nat.le_refl _) (natI_inc _) (corS_inc _ _)
theorem blkS_mem (A : Aut) (x : Int) : x ∈ blkS A ↔ (0 ≤ x ∧ x < (A.st.toNat : Int)) ∧ x ∉ cor A := by
  unfold blkS
  rw [mem_mrg (natI_inc _) (cor_inc A)]
  have hm := natI_mem A.st.toNat x
  by_cases h1 : x ∈ cor A
  · simp [h1]
  · by_cases h2 : x ∈ natI A.st.toNat
    · have := hm.1 h2
      simp [h1, h2]; omega
    · have : ¬ (0 ≤ x ∧ x < (A.st.toNat : Int)) := fun h => h2 (hm.2 h)
      simp only [h1, h2, false_or, false_and, this]
theorem ckS_of {n : Int} {l : List Int} (h1 : ∀ x ∈ l, 0 ≤ x ∧ x < n) (h2 : Inc l) : ckS n none l = 0 := (ckS_zero n l none).2 ⟨h1, h2, fun y hy => by cases hy⟩
/-- What Conforms returns: kind, word, event, error. -/
def cfm (aP aS : Aut) (ul : List Int) : Int × List Int × Int × Int :=
  if opE aP aS ≠ 0 then (0, [], 0, opE aP aS)
  else if ckS 32 none ul ≠ 0 then (0, [], 0, ckS 32 none ul)
  else if (chk aP aS ul).2.2 = false then (2, (chk aP aS ul).1, (chk aP aS ul).2.1, 0)
  else if blkS (opA aP aS) = [] then (1, [], -1, 0)
  else (3, (ptR (opA aP aS) (opA aP aS).st.toNat 0 (blkS (opA aP aS)) (natI (opA aP aS).st.toNat)).1, -1, 0)
theorem Conforms_ok {w : World} {pva pvm pve sa sm se vl : Value} {aP aS : Aut} {ul : List Int} (hp : AutA [] w.heap pva pvm pve aP) (hs : AutA [] w.heap sa sm se aS) (hu : Ints [] w.heap vl ul) (hst : Okay aP → Okay aS → aP.st ≤ 100 ∧ aS.st ≤ 100) :
    Ret Tryz.prog 7 [.agg #[pva, .int .i64 aP.st, pvm, pve], .agg #[sa, .int .i64 aS.st, sm, se], vl] w fun r w' => Step [] w w' ∧ ∃ v, r = .tuple #[.int .i64 (cfm aP aS ul).1, v, .int .i64 (cfm aP aS ul).2.2.1, .int .i64 (cfm aP aS ul).2.2.2] ∧ IntsO 3 w.heap.size w' v (cfm aP aS ul).2.1 := by
  refine Ret.of_W Tryz.func7 rfl Tryz.ntmps7 Tryz.results7 (by simp) ?_
  refine W_seq <| W_region (by rfl) ?_
  refine xl rfl <| o_box (us := [pva, .int .i64 aP.st, pvm, pve]) rfl fun b3 w1 hs1 hb3 hB3 => xl rfl <| o_box (us := [sa, .int .i64 aS.st, sm, se]) rfl fun b4 w2 hs2 hb4 hB4 => x r_assign <| x r_assign <| x r_assign <| x r_assign <| xe ?_
  have hs12 := hs1.trans hs2
  refine W_seq <| W_region (by rfl) ?_
  refine x (r_loadsB (hB3.ext hs2) rfl rfl) <| x (r_loadsB hB4 rfl rfl) <| xl rfl <| xf <| (sopen_ok (hp.ext hs12) (hs.ext hs12) hst).mono ?_
  rintro r3 w3 ⟨hs3, va, vt, rfl, hO⟩
  refine Exists.elim hO.shape fun us hus => ?_
  have hz12 := hs12.size
  refine x r_move <| x (r_extract rfl rfl) <| x (r_extract rfl rfl) <| x (r_extract rfl rfl) <| xl rfl <| o_alloc (us := [.slice none 0 0, .int .i64 0, .slice none 0 0, .slice none 0 0]) rfl fun b10 w4 hs4 hb10 hB10 => xl rfl <| o_stores (us := us) hB10 rfl (show ev _ _ = _ from hus.1) hus.2.1 rfl hus.2.2 fun w5 hs5 hB10' => x r_assign <| x r_assign <| xe ?_
  have hs35 : Step [] w3 w5 := hs4.then1 hs5 hb10
  have hs25 := hs3.trans hs35
  have hW5 := hs12.trans hs25
  refine W_seq <| W_seq <| W_region (by rfl) ?_
  refine x r_move <| x (r_neq rfl rfl) <| xe ?_
  refine W_if rfl (fun h27 => ?_) (fun h27 => ?_)
  · have hcf : cfm aP aS ul = (0, [], 0, opE aP aS) := by unfold cfm; rw [if_pos h27]
    refine W_seq <| W_region (by rfl) ?_
    refine x r_move <| x r_assign <| x r_assign <| x r_assign <| x r_assign <| xe ?_
    refine W_ret ⟨[.int .i64 0, .slice none 0 0, .int .i64 0, .int .i64 (opE aP aS)], ⟨rfl, rfl, rfl, rfl, trivial⟩, hW5, .slice none 0 0, by rw [hcf]; rfl, ?_⟩
    rw [hcf]; exact own_nil _ _ _ _
  have hE : opE aP aS = 0 := Decidable.not_not.1 h27
  refine W_skip ?_
  refine W_seq <| W_seq <| W_region (by rfl) ?_
  refine x r_move <| xl rfl <| xf <| (CheckSet_ok (hu.ext hW5) 32).mono ?_
  rintro r6 w6 ⟨rfl, rfl⟩
  refine x r_assign <| xe ?_
  refine W_seq <| W_region (by rfl) ?_
  refine x r_move <| x (r_neq rfl rfl) <| xe ?_
  refine W_if rfl (fun h32 => ?_) (fun h32 => ?_)
  · have hcf : cfm aP aS ul = (0, [], 0, ckS 32 none ul) := by unfold cfm; rw [if_neg h27, if_pos h32]
    refine W_seq <| W_region (by rfl) ?_
    refine x r_move <| x r_assign <| x r_assign <| x r_assign <| x r_assign <| xe ?_
    refine W_ret ⟨[.int .i64 0, .slice none 0 0, .int .i64 0, .int .i64 (ckS 32 none ul)], ⟨rfl, rfl, rfl, rfl, trivial⟩, hW5, .slice none 0 0, by rw [hcf]; rfl, ?_⟩
    rw [hcf]; exact own_nil _ _ _ _
  have hck : ckS 32 none ul = 0 := Decidable.not_not.1 h32
  have hpar := opE_zero hE
  have hSy := opE_syP hE
  have hst' := hst hpar.1 hpar.2.1
  refine W_skip ?_
  refine W_seq <| W_region (by rfl) ?_
  refine x (r_loadsB ((hB3.ext hs2).ext hs25) rfl rfl) <| x (r_loadsB (hB4.ext hs25) rfl rfl) <| x r_move <| xl rfl <| xf <| (Check_ok (hp.ext hW5) (hs.ext hW5) (hu.ext hW5) hE hck hst').mono ?_
  rintro r7 w7 ⟨hs7, vw, rfl, hvw⟩
  have hW7 := hW5.trans hs7
  have hz7 := hW7.size
  have hz5 := hW5.size
  refine x r_move <| x (r_extract rfl rfl) <| x (r_extract rfl rfl) <| x (r_extract rfl rfl) <| x (r_extract rfl rfl) <| x r_assign <| x r_assign <| x r_assign <| x r_assign <| xe ?_
  refine W_seq <| W_seq <| W_region (by rfl) ?_
  refine x r_move <| x (r_neq rfl rfl) <| xe ?_
  refine W_if rfl (fun h44 => absurd rfl h44) (fun h44 => ?_)
  refine W_skip ?_
  refine W_seq <| W_seq <| W_region (by rfl) ?_
  refine x r_move <| x (r_not rfl) <| xe ?_
  refine W_cond rfl (fun h47 => ?_) (fun h47 => ?_)
  · have hif : (chk aP aS ul).2.2 = false := by simpa using h47
    have hcf : cfm aP aS ul = (2, (chk aP aS ul).1, (chk aP aS ul).2.1, 0) := by unfold cfm; rw [if_neg h27, if_neg h32, if_pos hif]
    refine W_seq <| W_region (by rfl) ?_
    refine x r_move <| x r_move <| x r_assign <| x r_assign <| x r_assign <| x r_assign <| xe ?_
    refine W_ret ⟨[.int .i64 2, vw, .int .i64 (chk aP aS ul).2.1, .int .i64 0], ⟨rfl, rfl, rfl, rfl, trivial⟩, hW7, vw, by rw [hcf]; rfl, ?_⟩
    rw [hcf]; exact own_base hvw (by omega)
  have hif : ¬ (chk aP aS ul).2.2 = false := by simpa using h47
  refine W_skip ?_
  refine Exists.elim (hO.good hE).1 fun qa hq => Exists.elim hq fun qm hq => Exists.elim hq fun qe hq => ?_
  have hA3 : AutA [] w3.heap qa qm qe (opA aP aS) := hq.2 [] (by simp)
  have hus' : us = [qa, .int .i64 (opA aP aS).st, qm, qe] := by
    have h1 := hus.1.symm.trans hq.1
    injection h1 with h2
    exact congrArg Array.toList h2
  subst hus'
  have hA7 := (hA3.ext hs35).ext hs7
  have hB107 := hB10'.ext hs7
  have oA := hSy.2.1
  have hckA : ckA (opA aP aS) = 0 := (ckA_zero _).2 oA
  refine exN oA.st0 fun n hn => ?_
  have hnt : (opA aP aS).st.toNat = n := by omega
  have hst1 := oA.st1
  refine W_seq <| W_region (by rfl) ?_
  refine x r_assign <| xe ?_
  refine W_seq <| W_seq <| W_region (by rfl) ?_
  refine x (r_fieldB rfl) <| x (r_loadB hB107 rfl rfl) <| x r_move <| xe ?_
  refine W_block <| W_loop (α := Nat × Value) [(14, 15), (52, 59)] (fun z => [(14, z.2), (52, .int .i64 z.1)]) (fun z w' => z.1 ≤ n ∧ Step [] w7 w' ∧ IntsO 3 w7.heap.size w' z.2 (natI z.1)) (fun z => n - z.1) (by rfl) (0, .slice none 0 0) ⟨rfl, rfl, trivial⟩ ⟨Nat.zero_le _, Step.refl _ _, own_nil _ _ _ _⟩ ?_
  rintro ⟨k, v⟩ g w8 ⟨hk, hs8, hO8⟩
  simp only [] at hk hO8
  have hnl := natI_len k
  have hz8 := hs8.size
  refine W_seq <| W_region (by rfl) ?_
  refine x (r_lss rfl rfl) <| xe ?_
  refine W_seq <| W_ifn rfl (fun h53 => ?_) (fun h53 => ?_)
  · refine W_exit ?_
    have hkn : k = n := by have h54 : ¬ (k : Int) < (opA aP aS).st := h53; omega
    subst hkn
    have hall : Ints [] w8.heap v (natI k) := own_arr hO8 (by omega) (by simp)
    refine W_seq <| W_region (by rfl) ?_
    refine x (r_loadsB (hB107.ext hs8) rfl rfl) <| xl rfl <| xf <| (Coreachable_ok (hA7.ext hs8)).mono ?_
    rintro r9 w9 ⟨hs9, vg, rfl, hg⟩
    rw [if_pos hckA] at hg
    have hgl : (cor (opA aP aS)).length ≤ k := by unfold cor; rw [hnt]; exact corS_len _ _
    refine x r_move <| x (r_extract rfl rfl) <| x (r_extract rfl rfl) <| x r_assign <| x r_assign <| xe ?_
    refine W_seq <| W_seq <| W_region (by rfl) ?_
    refine x r_move <| x r_move <| xl rfl <| xf <| (Minus_ok (hall.ext hs9) (own_arr (L := []) hg (by omega) (by simp)) (by omega)).mono ?_
    rintro vb w10 ⟨hs10, hb⟩
    have hbe : mrg (fun p q => p && !q) (natI k) (cor (opA aP aS)) = blkS (opA aP aS) := by unfold blkS; rw [hnt]
    rw [hbe] at hb
    have hbl : (blkS (opA aP aS)).length ≤ k + k := by
      rw [← hbe]
      have := mrg_len (fun p q => p && !q) (natI k) (cor (opA aP aS))
      omega
    have hbA : Ints [] w10.heap vb (blkS (opA aP aS)) := own_arr hb (by omega) (by simp)
    have hs710 := (hs8.trans hs9).trans hs10
    refine x r_assign <| xe ?_
    refine W_seq <| W_region (by rfl) ?_
    refine x r_move <| x (r_lenA hbA rfl) <| x (r_gtr rfl rfl) <| xe ?_
    refine W_if rfl (fun h70 => ?_) (fun h70 => ?_)
    · have hbne : blkS (opA aP aS) ≠ [] := by
        intro e
        have h71 : ((blkS (opA aP aS)).length : Int) > 0 := h70
        rw [e] at h71; simp at h71
      have hbm : ∀ x ∈ blkS (opA aP aS), 0 ≤ x ∧ x < (k : Int) := fun x hx => by have := ((blkS_mem _ x).1 hx).1; omega
      have hk0 : 0 < k := by
        obtain ⟨y, hy⟩ := List.exists_mem_of_ne_nil _ hbne
        have := hbm y hy; omega
      have hcf : cfm aP aS ul = (3, (ptR (opA aP aS) k 0 (blkS (opA aP aS)) (natI k)).1, -1, 0) := by unfold cfm; rw [if_neg h27, if_neg h32, if_neg hif, if_neg hbne, hnt]
      refine W_seq <| W_region (by rfl) ?_
      refine x (r_loadsB ((hB107.ext hs710)) rfl rfl) <| x r_move <| x r_move <| xl rfl <| xf <| (Path_ok (from0 := 0) (hA7.ext hs710) hckA hn hk0 hbA (hall.ext (hs9.trans hs10)) (ckS_of (by rw [hn]; exact hbm) (blkS_inc _)) (ckS_of (by rw [hn]; exact fun x hx => (natI_mem k x).1 hx) (natI_inc k)) ((natI_mem k 0).2 (by omega))).mono ?_
      rintro r11 w11 ⟨hs11, vp, rfl, hvp⟩
      refine x r_move <| x (r_extract rfl rfl) <| x (r_extract rfl rfl) <| x (r_extract rfl rfl) <| x r_assign <| xe ?_
      refine W_seq <| W_region (by rfl) ?_
      refine x r_move <| x r_assign <| x r_assign <| x r_assign <| x r_assign <| xe ?_
      have hz10 := hs710.size
      refine W_ret ⟨[.int .i64 3, vp, .int .i64 (-1), .int .i64 0], ⟨rfl, rfl, rfl, rfl, trivial⟩, hW7.trans (hs710.trans hs11), vp, by rw [hcf]; rfl, ?_⟩
      rw [hcf]; exact own_base hvp (by omega)
    have hbe0 : blkS (opA aP aS) = [] := List.eq_nil_of_length_eq_zero (by have h71 : ¬ ((blkS (opA aP aS)).length : Int) > 0 := h70; omega)
    have hcf : cfm aP aS ul = (1, [], -1, 0) := by unfold cfm; rw [if_neg h27, if_neg h32, if_neg hif, if_pos hbe0]
    refine W_skip ?_
    refine W_seq <| W_region (by rfl) ?_
    refine x r_assign <| x r_assign <| x r_assign <| x r_assign <| xe ?_
    refine W_ret ⟨[.int .i64 1, .slice none 0 0, .int .i64 (-1), .int .i64 0], ⟨rfl, rfl, rfl, rfl, trivial⟩, hW7.trans hs710, .slice none 0 0, by rw [hcf]; rfl, ?_⟩
    rw [hcf]; exact own_nil _ _ _ _
  refine W_skip ?_
  have hkn : k < n := by have h54 : (k : Int) < (opA aP aS).st := h53; omega
  refine W_seq <| W_block <| W_seq <| W_region (by rfl) ?_
  refine x r_move <| x r_assign <| xe ?_
  refine W_region (by rfl) ?_
  refine x r_move <| x r_move <| xl rfl <| o_lits (us := [[.int .i64 k]]) rfl rfl (by decide) (by simp) ⟨rfl, rfl, trivial⟩ fun b57 w12 hs12' hb57 hB57 => xl rfl <| o_app (m := 1) (news := [.int .i64 k]) (own_ext hO8 hs12') rfl rfl rfl (hB57.at (L := []) (by simp)) (by simp [Value.oneCell']) (by omega) (by have := hs12'.size; omega) fun v13 w13 hO13 hs13 hn13 =>
    x r_assign <| xe ?_
  refine W_region (by rfl) ?_
  refine x (r_add rfl rfl ⟨by omega, by omega⟩) <| x r_move <| xe ?_
  exact ⟨(k + 1, v13), by simp only []; omega, ⟨rfl, rfl, trivial⟩, hkn, (hs8.trans hs12').then hs13 (fun c hc => .inr (own_ge hO8 c hc).1), by rw [natI_succ]; exact IntsO.snoc hO13⟩
end Go.Proofs.YtfhgnlkdcdlblaaGreatDoor
/- The function SupervisorConforms returns true. -/
namespace Go.Proofs.YtfhgnlkdcdlblaaGreatDoor
open Go.Lg

def bdS (g : List Int) (k : Nat) : List Int := (natI k).filter fun x => decide (x ∉ g)
theorem bdS_succ (g : List Int) (k : Nat) : bdS g (k + 1) = if (k : Int) ∈ g then bdS g k else bdS g k ++ [(k : Int)] := by
  unfold bdS
  rw [natI_succ, List.filter_append]
  by_cases h : (k : Int) ∈ g
  · simp [h]
  · simp [h]
theorem bdS_len (g : List Int) (k : Nat) : (bdS g k).length ≤ k := by
  have := List.length_filter_le (fun x => decide (x ∉ g)) (natI k)
  rw [natI_len] at this; exact this
theorem bdS_blk (A : Aut) : bdS (cor A) A.st.toNat = blkS A := by
  refine Inc.ext (List.Pairwise.filter _ (natI_inc _)) (blkS_inc A) (fun x => ?_)
  rw [blkS_mem]
  unfold bdS
  rw [List.mem_filter, natI_mem]
  simp
theorem found_blk {aP aS : Aut} (hE : opE aP aS = 0) (hb : blkS (opA aP aS) ≠ []) {n : Nat} (hn : (opA aP aS).st = (n : Int)) : (ptR (opA aP aS) n 0 (blkS (opA aP aS)) (natI n)).2 = true := by
  obtain ⟨_, _, hsync, _, _⟩ := opE_zero hE
  obtain ⟨hSy, oA, _⟩ := opE_syP hE
  have hpar := sync_par hsync
  have hq : (opQ aP aS).length = n := by have := hSy.st; omega
  rw [hq] at hpar
  obtain ⟨y, hy⟩ := List.exists_mem_of_ne_nil _ hb
  have hyb := ((blkS_mem _ y).1 hy).1
  have hyn : y = (y.toNat : Int) := by omega
  unfold ptR
  refine pth_found hpar (fun e he => ⟨(oA.ed e he).1, by have := (oA.ed e he).2.2.2; omega, by have := (oA.ed e he).2.2.2; omega⟩) (fun e he => decide_eq_true ((natI_mem n _).2 (by have := (oA.ed e he).2.2.2; omega))) (s := y.toNat) (by omega) ?_
  rw [← hyn]; exact decide_eq_true hy
theorem bak_len (ed : List Ed) : ∀ (f : Nat) (s : Int), (bak ed f s).length ≤ f
  | 0, _ => by simp [bak]
  | f + 1, s => by
    rw [bak]
    split
    · have := bak_len ed f (fto ed s).1
      simp only [List.length_cons]; omega
    · simp
theorem wrd_len (st : List Ed) : ∀ (f k : Nat), (wrd st f k).length ≤ f
  | 0, _ => by simp [wrd]
  | f + 1, k => by
    rw [wrd]
    split
    · have := wrd_len st f (gE st k).2.1.toNat
      simp only [List.length_cons]; omega
    · simp
theorem pthL_len (wt : Int → Bool) (pm : Ed → Bool) (es : List Ed) : ∀ (f i : Nat) (st : List Ed), (pthL wt pm es f i st).1.length ≤ f + i
  | 0, _, _ => by simp [pthL]
  | f + 1, i, st => by
    rw [pthL]
    split
    · split
      · have := wrd_len st (i + 1) i
        simp only [List.length_reverse]; omega
      · have := pthL_len wt pm es f (i + 1) ((outE es (gE st i).1).foldl (addP pm i) st)
        omega
    · simp
theorem ptR_len (a : Aut) (n : Nat) (tg wi : List Int) : (ptR a n 0 tg wi).1.length ≤ n + 1 := pthL_len _ _ _ (n + 1) 0 _
theorem chk_len {aP aS : Aut} (hE : opE aP aS = 0) (ul : List Int) : (chk aP aS ul).1.length ≤ 4097 := by
  have hq := (opE_zero hE).2.2.2.2
  unfold chk
  cases h : chkS aP aS ul with
  | none => simp
  | some k =>
    unfold chkS at h
    have hk := List.mem_range.1 ((List.find?_range_eq_some.1 h).2.1)
    have := bak_len (opA aP aS).ed (k + 1) k
    simp only [List.length_reverse]; omega
theorem cfm_len {aP aS : Aut} (ul : List Int) : (cfm aP aS ul).2.1.length ≤ 10000 := by
  unfold cfm
  split
  · simp
  · rename_i hE
    have hE' : opE aP aS = 0 := Decidable.not_not.1 hE
    split
    · simp
    · split
      · have := chk_len hE' ul; simp only []; omega
      · split
        · simp
        · have := ptR_len (opA aP aS) (opA aP aS).st.toNat (blkS (opA aP aS)) (natI (opA aP aS).st.toNat)
          have := (opE_syP hE').2.1.st1
          simp only []; omega
set_option maxHeartbeats 8000000 in
theorem lawConforms_ok {ns : List Nat} (hn : ns.length = 57) (hns : ∀ n ∈ ns, n < 256) (w : World) :
    Ret Tryz.prog 3 [.agg (bys ns).toArray] w fun r w' => r = .bool true ∧ Step [] w w' := by
  refine Ret.of_W Tryz.func3 rfl Tryz.ntmps3 Tryz.results3 (by simp) ?_
  refine W_seq <| W_region (by rfl) ?_
  refine xl rfl <| o_box (us := bys ns) rfl fun b1 w1 hs1 hb1 hB1 => x r_assign <| xe ?_
  refine W_seq <| W_seq <| W_region (by rfl) ?_
  refine xl rfl <| xf <| (known_ok w1).mono ?_
  rintro r2 w2 ⟨rfl, hs2⟩
  refine x (r_not rfl) <| xe ?_
  refine W_false rfl ?_
  refine W_skip ?_
  refine W_seq <| W_region (by rfl) ?_
  refine x (r_loadsB (hB1.ext hs2) rfl (by simp [bys]; exact hn)) <| xl rfl <| xf <| (make26_ok hn hns).mono ?_
  rintro r3 w3 ⟨hs3, vp, vs, vu, aP, aS, u, rfl, hFP, hFS, hPb, huo⟩
  obtain ⟨pva, pvm, pve, rfl, hPA⟩ := hFP
  obtain ⟨sva, svm, sve, rfl, hSA⟩ := hFS
  have hP0 := hPA [] (by simp)
  have hS0 := hSA [] (by simp)
  have hE := hPb.opE0
  have hst := hPb.st100
  have hst' := hst hPb.p hPb.s
  have hul : (setK u 5).length ≤ 5 := setK_len u 5
  have hU3 : Ints [] w3.heap vu (setK u 5) := own_arr huo (by omega) (by simp)
  have hck : ckS 32 none (setK u 5) = 0 := ckS_of (fun x hx => by have := setK_bd u 5 x hx; omega) (setK_inc u 5)
  obtain ⟨ul, hule⟩ := exD (setK u 5)
  rw [hule] at hU3 hck
  clear huo
  have hW3 := (hs1.trans hs2).trans hs3
  refine x r_move <| x (r_extract rfl rfl) <| x (r_extract rfl rfl) <|
    x (r_extract rfl rfl) <| xl rfl <| o_alloc (us := [.slice none 0 0, .int .i64 0, .slice none 0 0, .slice none 0 0]) rfl fun b3 w4 hs4 hb3 hB3 => xl rfl <| o_alloc (us := [.slice none 0 0, .int .i64 0, .slice none 0 0, .slice none 0 0]) rfl fun b4 w5 hs5 hb4 hB4 =>
    xl rfl <| o_stores (us := [pva, .int .i64 aP.st, pvm, pve]) (hB3.ext hs5) rfl rfl rfl rfl ⟨hP0.al.one, rfl, hP0.mr.one, hP0.ed.one, trivial⟩ fun w6 hs6 hB36 => ?_
  have hl3 := hB3.lt
  have hz4 := hs4.size
  have hB46 := hB4.step hs6 (by simp; omega)
  refine xl rfl <| o_stores (us := [sva, .int .i64 aS.st, svm, sve]) hB46 rfl rfl rfl rfl ⟨hS0.al.one, rfl, hS0.mr.one, hS0.ed.one, trivial⟩ fun w7 hs7 hB47 => x r_assign <| xe ?_
  have hB37 := hB36.step hs7 (by simp; omega)
  have hs37 : Step [] w3 w7 := ((hs4.trans hs5).then1 hs6 hb3).then1 hs7 (by omega)
  have hW7 := hW3.trans hs37
  have hP7 := hP0.ext hs37
  have hS7 := hS0.ext hs37
  have hU7 := hU3.ext hs37
  have hcE : (cfm aP aS ul).2.2.2 = 0 := by
    unfold cfm
    rw [if_neg (by simp [hE]), if_neg (by simp [hck])]
    split
    · rfl
    · split <;> rfl
  refine W_seq <| W_region (by rfl) ?_
  refine x (r_loadsB hB37 rfl rfl) <| x (r_loadsB hB47 rfl rfl) <| x r_move <| xl rfl <| xf <| (Conforms_ok hP7 hS7 hU7 hst).mono ?_
  rintro r8 w8 ⟨hs8, vw, rfl, hvw⟩
  refine x r_move <| x (r_extract rfl rfl) <| x (r_extract rfl rfl) <| x (r_extract rfl rfl) <| x (r_extract rfl rfl) <| x r_assign <| x r_assign <| x r_assign <| x r_assign <| xe ?_
  refine W_seq <| W_region (by rfl) ?_
  refine x (r_loadsB (hB37.ext hs8) rfl rfl) <| x (r_loadsB (hB47.ext hs8) rfl rfl) <| x r_move <| xl rfl <| xf <| (Check_ok (hP7.ext hs8) (hS7.ext hs8) (hU7.ext hs8) hE hck hst').mono ?_
  rintro r9 w9 ⟨hs9, vv, rfl, hvv⟩
  refine x r_move <| x (r_extract rfl rfl) <| x (r_extract rfl rfl) <| x (r_extract rfl rfl) <| x (r_extract rfl rfl) <| x r_assign <| x r_assign <| x r_assign <| x r_assign <| xe ?_
  have hs79 := hs8.trans hs9
  have hW9 := hW7.trans hs79
  refine W_seq <| W_seq <| W_region (by rfl) ?_
  refine x r_move <| xb (r_neq rfl rfl) (fun h51 => absurd hcE h51) (fun h51 => ?_)
  refine x r_move <| x r_move <| x (r_neq rfl rfl) <| x (r_pick rfl) <| xe ?_
  refine W_if rfl (fun h55 => absurd rfl h55) (fun h55 => ?_)
  refine W_skip ?_
  have hcl := cfm_len (aP := aP) (aS := aS) ul
  have hkl := chk_len hE ul
  have hVw : Ints [] w9.heap vw (cfm aP aS ul).2.1 := own_arr (own_ext hvw hs9) (by omega) (by simp)
  have hVv : Ints [] w9.heap vv (chk aP aS ul).1 := own_arr hvv (by omega) (by simp)
  refine W_seq <| W_seq <| W_region (by rfl) ?_
  refine x r_move <| x (r_not rfl) <| xe ?_
  refine W_cond rfl (fun h57 => ?_) (fun h57 => ?_)
  · have hif : (chk aP aS ul).2.2 = false := by simpa using h57
    have hcf : cfm aP aS ul = (2, (chk aP aS ul).1, (chk aP aS ul).2.1, 0) := by unfold cfm; rw [if_neg (by simp [hE]), if_neg (by simp [hck]), if_pos hif]
    have f1 : (cfm aP aS ul).1 = 2 := by rw [hcf]
    have f2 : (cfm aP aS ul).2.1 = (chk aP aS ul).1 := by rw [hcf]
    have f3 : (cfm aP aS ul).2.2.1 = (chk aP aS ul).2.1 := by rw [hcf]
    refine W_seq <| W_region (by rfl) ?_
    refine x r_move <| xb (r_eql rfl rfl) (fun h59 => ?_) (fun h59 => absurd f1 h59)
    refine x r_move <| x r_move <| x r_move <| xl rfl <| xf <| (wEqual_ok hVw hVv).mono ?_
    rintro r11 w11 ⟨hr11, hs11⟩
    rw [decide_eq_true f2] at hr11
    subst hr11
    refine x (r_pick rfl) <| x r_move <| x r_move <| x r_move <| x (r_eql rfl rfl) <| x (r_pick rfl) <| x r_assign <| xe ?_
    exact W_ret ⟨[_], ⟨rfl, trivial⟩, congrArg Value.bool (decide_eq_true f3), hW9.trans hs11⟩
  have hif : ¬ (chk aP aS ul).2.2 = false := by simpa using h57
  have hev : (cfm aP aS ul).2.2.1 = -1 := by
    unfold cfm
    rw [if_neg (by simp [hE]), if_neg (by simp [hck]), if_neg hif]
    split <;> rfl
  obtain ⟨hSy, oA, _⟩ := opE_syP hE
  have hckA : ckA (opA aP aS) = 0 := (ckA_zero _).2 oA
  refine exN oA.st0 fun n hnn => ?_
  have hnt : (opA aP aS).st.toNat = n := by omega
  have hst1 := oA.st1
  refine W_skip ?_
  refine W_seq <| W_region (by rfl) ?_
  refine x (r_loadsB (hB37.ext hs79) rfl rfl) <| x (r_loadsB (hB47.ext hs79) rfl rfl) <| xl rfl <| xf <| (Loop_ok (hP7.ext hs79) (hS7.ext hs79) hst).mono ?_
  rintro r13 w13 ⟨hs13, va, rfl, _, hgd⟩
  obtain ⟨qa, qm, qe, rfl, hAF⟩ := hgd hE
  have hA13 := hAF [] (by simp)
  refine x r_move <| x (r_extract rfl rfl) <| x (r_extract rfl rfl) <| xl rfl <| o_alloc (us := [.slice none 0 0, .int .i64 0, .slice none 0 0, .slice none 0 0]) rfl fun b14 w14 hs14 hb14 hB14 => xl rfl <| o_stores (us := [qa, .int .i64 (opA aP aS).st, qm, qe]) hB14 rfl rfl rfl rfl ⟨hA13.al.one, rfl, hA13.mr.one, hA13.ed.one, trivial⟩ fun w15 hs15 hB14' =>
    x r_assign <| xe ?_
  have hs1315 : Step [] w13 w15 := hs14.then1 hs15 hb14
  have hs915 := hs13.trans hs1315
  refine W_seq <| W_region (by rfl) ?_
  refine x (r_loadsB hB14' rfl rfl) <| xl rfl <| xf <| (Coreachable_ok (hA13.ext hs1315)).mono ?_
  rintro r16 w16 ⟨hs16, vg, rfl, hvg⟩
  rw [if_pos hckA] at hvg
  have hgl : (cor (opA aP aS)).length ≤ n := by unfold cor; rw [hnt]; exact corS_len _ _
  refine x r_move <| x (r_extract rfl rfl) <| x (r_extract rfl rfl) <| x r_assign <| x r_assign <| xe ?_
  have hs916 := hs915.trans hs16
  refine W_seq <| W_seq <| W_region (by rfl) ?_
  refine x r_move <| xb (r_neq rfl rfl) (fun h82 => absurd hE h82) (fun h82 => ?_)
  refine x r_move <| x r_move <| xb (r_neq rfl rfl) (fun h85 => absurd hckA h85) (fun h85 => ?_)
  refine x (r_pick rfl) <| x r_move <| x r_move <| x (r_neq rfl rfl) <| x (r_pick rfl) <| xe ?_
  refine W_if rfl (fun h90 => absurd hev h90) (fun h90 => ?_)
  refine W_skip ?_
  refine W_seq <| W_region (by rfl) ?_
  refine x r_assign <| x r_assign <| xe ?_
  refine W_seq <| W_seq <| W_region (by rfl) ?_
  refine x r_assign <| xe ?_
  have hG16 : Ints [] w16.heap vg (cor (opA aP aS)) := own_arr hvg (by omega) (by simp)
  have hB16 := hB14'.ext hs16
  have hA16 := (hA13.ext hs1315).ext hs16
  refine W_block <| W_loop (α := Nat × Value × Value) [(18, 20), (91, 108)] (fun z => [(18, z.2.1), (19, z.2.2), (20, .int .i64 z.1)])
    (fun z w' => z.1 ≤ n ∧ Step [] w16 w' ∧ IntsO 3 w16.heap.size w' z.2.1 (bdS (cor (opA aP aS)) z.1) ∧ IntsO 3 w16.heap.size w' z.2.2 (natI z.1) ∧ Dj z.2.1 z.2.2) (fun z => n - z.1) (by rfl) (0, .slice none 0 0, .slice none 0 0) ⟨rfl, rfl, rfl, trivial⟩
    ⟨Nat.zero_le _, Step.refl _ _, own_nil _ _ _ _, own_nil _ _ _ _, Dj.nil _⟩ ?_
  rintro ⟨k, vb, vl⟩ g w18 ⟨hk, hs18, hOb, hOl, hdj⟩
  simp only [] at hk hOb hOl hdj
  have hnl := natI_len k
  have hbl := bdS_len (cor (opA aP aS)) k
  have hz18 := hs18.size
  refine W_seq <| W_seq <| W_region (by rfl) ?_
  refine x r_move <| x (r_fieldB rfl) <| x (r_loadB (hB16.ext hs18) rfl rfl) <| x (r_lss rfl rfl) <| xe ?_
  refine W_ifn rfl (fun h94 => ?_) (fun h94 => ?_)
  · refine W_exit ?_
    have hkn : k = n := by have h95 : ¬ (k : Int) < (opA aP aS).st := h94; omega
    subst hkn
    have hbb : bdS (cor (opA aP aS)) k = blkS (opA aP aS) := by rw [← hnt]; exact bdS_blk _
    rw [hbb] at hOb hbl
    have hBl : Ints [] w18.heap vb (blkS (opA aP aS)) := own_arr hOb (by omega) (by simp)
    have hAll : Ints [] w18.heap vl (natI k) := own_arr hOl (by omega) (by simp)
    refine W_seq <| W_seq <| W_region (by rfl) ?_
    refine x r_move <| x (r_lenA hBl rfl) <| x (r_eql rfl rfl) <| xe ?_
    refine W_if rfl (fun h111 => ?_) (fun h111 => ?_)
    · have hb0 : blkS (opA aP aS) = [] := List.eq_nil_of_length_eq_zero (by have h112 : ((blkS (opA aP aS)).length : Int) = 0 := h111; omega)
      have hcf : cfm aP aS ul = (1, [], -1, 0) := by unfold cfm; rw [if_neg (by simp [hE]), if_neg (by simp [hck]), if_neg hif, if_pos hb0]
      have f1 : (cfm aP aS ul).1 = 1 := by rw [hcf]
      have f2 : ((cfm aP aS ul).2.1.length : Int) = 0 := by rw [hcf]; rfl
      refine W_seq <| W_region (by rfl) ?_
      refine x r_move <| xb (r_eql rfl rfl) (fun h113 => ?_) (fun h113 => absurd f1 h113)
      refine x r_move <| x r_move <| x (r_lenA hVw rfl) <| x (r_eql rfl rfl) <| x (r_pick rfl) <| x r_assign <| xe ?_
      exact W_ret ⟨[_], ⟨rfl, trivial⟩, congrArg Value.bool (decide_eq_true f2), hW9.trans (hs916.trans hs18)⟩
    have hbne : blkS (opA aP aS) ≠ [] := fun e => h111 (by rw [e]; rfl)
    have hbm : ∀ x ∈ blkS (opA aP aS), 0 ≤ x ∧ x < (k : Int) := fun x hx => by have := ((blkS_mem _ x).1 hx).1; omega
    have hk0 : 0 < k := by
      obtain ⟨y, hy⟩ := List.exists_mem_of_ne_nil _ hbne
      have := hbm y hy; omega
    have hcf : cfm aP aS ul = (3, (ptR (opA aP aS) k 0 (blkS (opA aP aS)) (natI k)).1, -1, 0) := by unfold cfm; rw [if_neg (by simp [hE]), if_neg (by simp [hck]), if_neg hif, if_neg hbne, hnt]
    have f1 : (cfm aP aS ul).1 = 3 := by rw [hcf]
    have f2 : (cfm aP aS ul).2.1 = (ptR (opA aP aS) k 0 (blkS (opA aP aS)) (natI k)).1 := by rw [hcf]
    have hfd := found_blk hE hbne hnn
    have hpl := ptR_len (opA aP aS) k (blkS (opA aP aS)) (natI k)
    refine W_skip ?_
    refine W_seq <| W_region (by rfl) ?_
    refine x (r_loadsB (hB16.ext hs18) rfl rfl) <| x r_move <| x r_move <| xl rfl <| xf <| (Path_ok (from0 := 0) (hA16.ext hs18) hckA hnn hk0 hBl hAll (ckS_of (by rw [hnn]; exact hbm) (blkS_inc _)) (ckS_of (by rw [hnn]; exact fun x hx => (natI_mem k x).1 hx) (natI_inc k)) ((natI_mem k 0).2 (by omega))).mono ?_
    rintro r20 w20 ⟨hs20, vy, hr20, hvy⟩
    rw [hfd] at hr20
    subst hr20
    refine x r_move <| x (r_extract rfl rfl) <| x (r_extract rfl rfl) <| x (r_extract rfl rfl) <| x r_assign <| x r_assign <| x r_assign <| xe ?_
    have hVw20 := hVw.ext (hs916.trans (hs18.trans hs20))
    have hVy : Ints [] w20.heap vy (ptR (opA aP aS) k 0 (blkS (opA aP aS)) (natI k)).1 := own_arr hvy (by omega) (by simp)
    refine W_seq <| W_region (by rfl) ?_
    refine x r_move <| xb (r_eql rfl rfl) (fun h128 => ?_) (fun h128 => absurd rfl h128)
    refine x r_move <| x r_move <| x (r_pick rfl) <| x r_move <| x r_move <| xb (r_eql rfl rfl) (fun h134 => ?_) (fun h134 => absurd f1 h134)
    refine x (r_pick rfl) <| x r_move <| x r_move <| x r_move <| xl rfl <| xf <| (wEqual_ok hVw20 hVy).mono ?_
    rintro r21 w21 ⟨hr21, hs21⟩
    rw [decide_eq_true f2] at hr21
    subst hr21
    refine x (r_pick rfl) <| x r_assign <| xe ?_
    exact W_ret ⟨[_], ⟨rfl, trivial⟩, rfl, hW9.trans (hs916.trans (hs18.trans (hs20.trans hs21)))⟩
  refine W_skip ?_
  have hkn : k < n := by have h95 : (k : Int) < (opA aP aS).st := h94; omega
  have hbs := bdS_succ (cor (opA aP aS)) k
  refine W_seq <| W_block <| W_seq <| W_region (by rfl) ?_
  refine x r_move <| x r_move <| xl rfl <| o_lits (us := [[.int .i64 k]]) rfl rfl (by decide) (by simp) ⟨rfl, rfl, trivial⟩ fun b99 w24 hs24 hb99 hB99 => xl rfl <| o_app (m := 1) (news := [.int .i64 k]) (own_ext hOl hs24) rfl rfl rfl (hB99.at (L := []) (by simp)) (by simp [Value.oneCell']) (by omega) (by have := hs24.size; omega) fun v25 w25 hO25 hs25 hn25 =>
    x r_assign <| xe ?_
  have hz24 := hs24.size
  have hz25 := hs25.size
  have hs1625 : Step [] w16 w25 := (hs18.trans hs24).then hs25 (fun c hc => .inr (own_ge hOl c hc).1)
  have hOb25 : IntsO 3 w16.heap.size w25 vb (bdS (cor (opA aP aS)) k) := own_step (own_ext hOb hs24) hs25 hdj
  have hdj25 : Dj vb v25 := hdj.grow hn25 (fun b hb => by have := own_lt hOb b hb; omega)
  have hOl25 : IntsO 3 w16.heap.size w25 v25 (natI (k + 1)) := by rw [natI_succ]; exact IntsO.snoc hO25
  refine W_seq <| W_region (by rfl) ?_
  refine x r_move <| x r_move <| xl rfl <| xf <| (has30_ok (hG16.ext hs1625) k).mono ?_
  rintro r26 w26 ⟨rfl, rfl⟩
  refine x (r_not rfl) <| xe ?_
  refine W_cond rfl (fun h104 => ?_) (fun h104 => ?_)
  · have hni : ¬ (k : Int) ∈ cor (opA aP aS) := by simpa using h104
    rw [if_neg hni] at hbs
    refine W_region (by rfl) ?_
    refine x r_move <| x r_move <| xl rfl <| o_lits (us := [[.int .i64 k]]) rfl rfl (by decide) (by simp) ⟨rfl, rfl, trivial⟩ fun b107 w27 hs27 hb107 hB107 => xl rfl <| o_app (m := 1) (news := [.int .i64 k]) (own_ext hOb25 hs27) rfl rfl rfl (hB107.at (L := []) (by simp)) (by simp [Value.oneCell']) (by omega) (by have := hs27.size; omega) fun v28 w28 hO28 hs28 hn28 =>
      x r_assign <| xe ?_
    have hz27 := hs27.size
    refine W_region (by rfl) ?_
    refine x r_move <| x (r_add rfl rfl ⟨by omega, by omega⟩) <| x r_assign <| xe ?_
    refine ⟨(k + 1, v28, v25), by simp only []; omega, ⟨rfl, rfl, rfl, trivial⟩, hkn, (hs1625.trans hs27).then hs28 (fun c hc => .inr (own_ge hOb25 c hc).1), by rw [hbs]; exact IntsO.snoc hO28, own_step (own_ext hOl25 hs27) hs28 hdj25.symm, ?_⟩
    exact (hdj25.symm.grow hn28 (fun b hb => by have := own_lt hOl25 b hb; omega)).symm
  have hni : (k : Int) ∈ cor (opA aP aS) := by simpa using h104
  rw [if_pos hni] at hbs
  refine W_skip ?_
  refine W_region (by rfl) ?_
  refine x r_move <| x (r_add rfl rfl ⟨by omega, by omega⟩) <| x r_assign <| xe ?_
  exact ⟨(k + 1, vb, v25), by simp only []; omega, ⟨rfl, rfl, rfl, trivial⟩, hkn, hs1625, by rw [hbs]; exact hOb25, hOl25, hdj25⟩
end Go.Proofs.YtfhgnlkdcdlblaaGreatDoor
/- What a law's row asks of a call that returns true and turns nothing that was there. -/
namespace Go.Lg
open Go.ChangeShapes Go.WideShapes Go.RowKit
section
variable {H : Type} {enc : TypeId × Value → H} {P : Program}
/-- The arguments read as they did. -/
theorem carry_all (hl : laidOutB P = true) {W W' : World} (hS : Step [] W W') {sp : Nat → Bool} : ∀ {ts : List TypeId} {vs : List Value} {ds : List (DataW H)} {ps : List MemPlace},
    (ts.all fun t => P.readableRec t && decide (t < P.types.size)) = true → DataW.TrodAll enc P W 0 (fun _ => true) true ts vs ds ps → (∀ x ∈ ps, x.block < W.heap.size) → (∀ x ∈ ps, sp x.block = true) → DataW.TrodAll enc P W' 0 sp true ts vs ds ps
  | [], vs, ds, ps, _, h, _, _ => by
    obtain ⟨rfl, rfl, rfl⟩ := trodAll_nil h
    exact trodAll_mk0
  | t :: ts, vs, ds, ps, hr, h, hlt, hsp => by
    obtain ⟨v, vs1, d, ds1, a, b, rfl, rfl, rfl, h1, h2⟩ := trodAll_cons h
    simp only [List.all_cons, Bool.and_eq_true, decide_eq_true_eq] at hr
    have hb : Below W.heap.size W W' := hS.below
    refine trodAll_cons_mk (WideElems.Trod_stays hl hr.1.1 hr.1.2 h1 (fun x hx => hb.same (hlt x (List.mem_append_left _ hx))) (fun x hx => hsp x (List.mem_append_left _ hx))) ?_
    exact carry_all hl hS (by simpa using hr.2) h2 (fun x hx => hlt x (List.mem_append_right _ hx)) (fun x hx => hsp x (List.mem_append_right _ hx))
theorem law_post {f : Func} {s : ChangeSpec} {apart fresh handsOn again : Bool} {W W' : World} {args : Array Value} {ds gs : List (DataW H)} {before : List MemPlace} {tb : TypeId}
    (hl : laidOutB P = true) (hread : (f.params.toList.all fun t => P.readableRec t && decide (t < P.types.size)) = true) (hrt : f.resultTypes = #[tb]) (htb : P.underlying tb = some .bool) (hvr : s.vars = [])
    (hfn : s.fn H (ds ++ gs) = { results := [.lit (.bool true)], args := ds })
    (hW : DataW.Whole enc P f.params.toList s.vars apart W args.toList ds gs before) (hS : Step [] W W') : s.post enc P f apart fresh handsOn again W args (.bool true) W' := by
  have hlt := hW.lt
  have hW' := hW
  obtain ⟨p, q, hA, hV, rfl, hz, hn⟩ := hW
  rw [hvr] at hV
  obtain ⟨rfl, rfl⟩ := trodVars_none hV
  rw [List.append_nil] at *
  have hargs : ∀ sp : Nat → Bool, (∀ x ∈ p, sp x.block = true) → DataW.TrodAll enc P W' 0 sp true f.params.toList args.toList ds p := fun sp hsp => carry_all hl hS hread hA hlt hsp
  have hres : ∀ (b : Nat) (sp : Nat → Bool) (hd : Bool), DataW.TrodAll enc P W' b sp hd f.resultTypes.toList ((Value.bool true).resultList f.resultTypes.size) [.lit (.bool true)] [] := fun b sp hd => by
    rw [hrt]; exact trodAll_mk1 (shut_bool htb true)
  have hb : Below W.heap.size W W' := hS.below
  have hvars : ∀ sp : Nat → Bool, DataW.TrodVars enc P W' sp s.vars ([] : List (DataW H)) [] := fun sp => by rw [hvr]; rfl
  have hfn1 : (s.fn H ds).results = [.lit (.bool true)] := by rw [hfn]
  have hfn2 : (s.fn H ds).args = ds := by rw [hfn]
  have hfn3 : (s.fn H ds).vars = [] := by rw [hfn]
  have hok : ∀ (j : Nat) (t : TypeId) (r : Value), f.resultTypes[j]? = some t → ((Value.bool true).resultList f.resultTypes.size)[j]? = some r → Value.okWide P W' .any 0 t r := ok_one hrt rfl (okWide_bool_mk htb true)
  refine ⟨ds, [], p, [], p, [], hW', ?_, ?_, ?_, ?_, fun _ => ⟨hok, [.lit (.bool true)] ++ ds, [], ([] ++ p) ++ [], ⟨[] ++ p, [], ?_, ?_, rfl, ?_, ?_⟩, ?_⟩⟩
  · rw [List.append_nil, hfn1]; exact hres _ _ _
  · rw [List.append_nil, hfn2]; exact hargs _ (fun x hx => by simpa using hlt x hx)
  · rw [List.append_nil, hfn3]; exact hvars _
  · exact World.keptBut_mono (fun _ f => f.elim) (hb.frame (fun _ => False))
  · exact trodAll_append (hargs _ (fun _ _ => rfl)) (hres _ _ _)
  · exact hvars _
  · intro b off hp
    have hp' : MemPlace.cell b off ∈ p := by simpa using hp
    rw [hb.frozen (p := ⟨b, off, none⟩) (hlt _ hp')]
    exact hz b off hp'
  · intro ha
    have := hn ha
    simpa using this
  · intro x hx _
    simpa using hx
end
end Go.Lg
/- Arguments of laws: structs of bytes, slices of bytes. -/
namespace Go.Proofs.YtfhgnlkdcdlblaaGreatDoor
open Go.ChangeShapes Go.WideShapes Go.RowKit Go.Lg

def isU8 (P : Program) (u : TypeId) : Bool := match P.underlying u with
  | some (.int .u8) => true
  | _ => false
theorem isU8_spec {P : Program} {u : TypeId} (h : isU8 P u = true) : P.underlying u = some (.int .u8) := by
  unfold isU8 at h
  split at h
  · assumption
  · cases h
theorem bys_of : ∀ (l : List Value), (∀ v ∈ l, ∃ n : Nat, v = .int .u8 (n : Int) ∧ n < 256) → ∃ ns : List Nat, l = bys ns ∧ ns.length = l.length ∧ ∀ n ∈ ns, n < 256
  | [], _ => ⟨[], rfl, rfl, by simp⟩
  | v :: l, h => by
    obtain ⟨n, rfl, hn⟩ := h v List.mem_cons_self
    obtain ⟨ns, h1, h2, h3⟩ := bys_of l (fun v hv => h v (List.mem_cons_of_mem _ hv))
    refine ⟨n :: ns, by rw [h1]; rfl, by simp [h2], fun m hm => ?_⟩
    rcases List.mem_cons.1 hm with rfl | hm
    · exact hn
    · exact h3 m hm
/-- A struct of bytes alone: its cells. -/
theorem bytes_of {P : Program} {W : World} {base t m : Nat} {v : Value} {fs : Array Field} (hu : P.underlying t = some (.struct fs)) (hts : ((P.cellTypes P.depth t).map fun ts => ts.all (isU8 P)) = some true) (hc : P.cellsOf t = m) (hval : Value.okWide P W .any base t v) :
    ∃ ns : List Nat, v = .agg (bys ns).toArray ∧ ns.length = m ∧ ∀ n ∈ ns, n < 256 := by
  simp only [Value.okWide, hu] at hval
  obtain ⟨cs, rfl, hsz, ts, hts', _, hcell⟩ := hval
  rw [hts'] at hts
  simp only [Option.map_some, Option.some.injEq] at hts
  obtain ⟨l⟩ := cs
  obtain ⟨ns, h1, h2, h3⟩ := bys_of l (fun v hv => by
    obtain ⟨i, hi, rfl⟩ := List.getElem_of_mem hv
    obtain ⟨u, hu1, hu2⟩ := hcell i l[i] (by simp [hi])
    have hu3 := isU8_spec (List.all_eq_true.1 hts u (List.mem_of_getElem? hu1))
    simp only [Cell.okWide, hu3] at hu2
    generalize l[i] = x at hu2
    cases x <;> simp only [Cell.ok, hu3] at hu2
    obtain ⟨rfl, hr⟩ := hu2
    simp only [IntKind.has] at hr
    rw [show IntKind.u8.min = 0 from rfl, show IntKind.u8.max = 255 from rfl] at hr
    rename_i n
    exact ⟨n.toNat, by rw [Int.toNat_of_nonneg hr.1], by omega⟩)
  subst h1
  refine ⟨ns, rfl, ?_, h3⟩
  rw [h2, ← hc, ← hsz]; rfl
theorem At.of_cell {w : World} {a : Addr} {u : Value} (h : w.cell? a = some u) : At [] w.heap a [u] := by
  have hc : cel w.heap a = some u := h
  refine ⟨by simp, ?_, fun j v hv => ?_⟩
  · unfold cel at hc
    cases hb : w.heap[a.block]? with
    | none => rw [hb] at hc; cases hc
    | some o => exact (Array.getElem?_eq_some_iff.1 hb).1
  · cases j with
    | zero => simp at hv; subst hv; rw [show a.add 0 = a by simp [Addr.add]]; exact hc
    | succ j => simp at hv
theorem wf_nat {n : Int} (h : (Lit.int .u8 n).wf = true) : ∃ m : Nat, n = m ∧ m < 256 := by
  simp only [Lit.wf, Bool.and_eq_true, decide_eq_true_eq] at h
  rw [show IntKind.u8.min = 0 from rfl, show IntKind.u8.max = 255 from rfl] at h
  exact ⟨n.toNat, by omega, by omega⟩
/-- The first bytes of a slice that is handed over. -/
theorem bytes_slice {H : Type} {enc : TypeId × Value → H} {P : Program} {W : World} {base : Nat} {sp : Nat → Bool} {held : Bool} {t e : TypeId} {ad : Option Addr} {nb cb : Nat} {d : DataW H} {ps : List MemPlace} (ht : P.underlying t = some (.slice e)) (he : P.underlying e = some (.int .u8)) (hc : P.cellsOf e = 1)
    (h : DataW.Trod enc P W base sp held t (.slice ad nb cb) d ps) (m : Nat) :
    ∃ ms : List Nat, ms.length = min nb m ∧ (∀ k (hk : k < ms.length), ∃ a, ad = some a ∧ At [] W.heap (a.add (k * 1)) [.int .u8 ((ms[k]'hk : Nat) : Int)]) ∧ ∀ n ∈ ms, n < 256 := by
  obtain ⟨fuel, hf⟩ := h
  rcases open_ints ht he hc hf with ⟨hcs, _⟩ | ⟨a, len, cap, zs, hcs, _, hl, _, hz, _, hcell, hwz⟩
  · simp [Value.cells] at hcs
    obtain ⟨rfl, rfl, rfl⟩ := hcs
    exact ⟨[], by simp, fun k hk => by simp at hk, by simp⟩
  · simp [Value.cells] at hcs
    obtain ⟨rfl, rfl, rfl⟩ := hcs
    have hzl : nb ≤ zs.length := by rw [hz]; split <;> omega
    have hget : ∀ k, k < min nb m → ∃ n : Nat, zs.getD k 0 = (n : Int) ∧ n < 256 := fun k hk => wf_nat (hwz _ (by simp [List.getD, show k < zs.length by omega]))
    refine ⟨(zs.take (min nb m)).map Int.toNat, by simp; omega, fun k hk => ⟨a, rfl, ?_⟩, fun n hn => ?_⟩
    · have hk' : k < min nb m := by simp at hk; omega
      obtain ⟨n, hn, _⟩ := hget k hk'
      have h1 := hcell k (by omega)
      rw [hn] at h1
      have e1 : (((zs.take (min nb m)).map Int.toNat)[k]'hk : Nat) = n := by
        rw [List.getElem_map, List.getElem_take]
        have : zs[k]'(by omega) = zs.getD k 0 := by simp [List.getD, show k < zs.length by omega]
        rw [this, hn]; rfl
      rw [e1, Nat.mul_one]
      exact At.of_cell h1
    · obtain ⟨z, hz', rfl⟩ := List.mem_map.1 hn
      obtain ⟨n, rfl, hn2⟩ := wf_nat (hwz z (List.mem_of_mem_take hz'))
      simpa using hn2
end Go.Proofs.YtfhgnlkdcdlblaaGreatDoor
