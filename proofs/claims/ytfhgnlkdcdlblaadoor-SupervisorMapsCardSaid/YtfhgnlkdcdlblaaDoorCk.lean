/- Contract: product.Synchronous. -/
import Derived.Test.YtfhgnlkdcdlblaaDoorCj
import Derived.Test.YtfhgnlkdcdlblaaDoorSs
namespace Go.Proofs.YtfhgnlkdcdlblaaDoor
open Go.Lg

/-- The map of the known tuples. -/
def KnOk (n : Nat) (m : List (ByteArray × Value)) (tup : List (List Int)) : Prop :=
  ∀ u : List Int, u.length = n → (∀ x ∈ u, 0 ≤ x) → mget m (keyA u) = if u ∈ tup then some (.int .i64 (tup.idxOf u : Int)) else none
theorem KnOk.add {n : Nat} {m : List (ByteArray × Value)} {tup : List (List Int)} (h : KnOk n m tup) {u : List Int} (hu : u ∉ tup) (h0 : ∀ x ∈ u, 0 ≤ x) : KnOk n (mput m (keyA u) (.int .i64 (tup.length : Int))) (tup ++ [u]) := by
  intro v hv h1
  rw [mget_mput]
  by_cases e : u = v
  · subst e
    rw [if_pos rfl, if_pos (by simp), List.idxOf_append, if_neg hu]; simp
  · rw [if_neg (fun hk => e (keyA_inj h0 h1 hk)), h v hv h1]
    by_cases hm : v ∈ tup
    · rw [if_pos hm, if_pos (by simp [hm]), List.idxOf_append, if_pos hm]
    · rw [if_neg hm, if_neg (by simp [hm, Ne.symm e])]
/-- What the search holds in memory. -/
structure SyI (N b2 b38 b37 : Nat) (ve : Value) (wS : World) (s : Sy) (m : List (ByteArray × Value)) (qs : List TV) (vt vk vd : Value) (w : World) : Prop where
  st : Step [b2, b38, b37] wS w
  A : Blk w.heap b2 35 [ve, .int .i64 0, vk, vd]
  M : MapB kStr w.heap b38 m
  t : TupO 32 N w vt qs
  tb : ∀ b ∈ ob vt, b = b37 ∨ wS.heap.size ≤ b
  k : IntsO 3 wS.heap.size w vk s.mk'
  e : EdsO 93 wS.heap.size w vd s.ed
  q : qs.map (·.2) = s.tup
  el : ∀ p ∈ qs, IntsO 3 N w p.1 p.2
  sep : ∀ p ∈ qs, ∀ b ∈ ob p.1, b ≠ b38 ∧ b ∉ ob vt ∧ b ∉ ob vk ∧ b ∉ ob vd
  d1 : Dj vt vk
  d2 : Dj vt vd
  d3 : Dj vk vd
section
variable {N b2 b38 b37 : Nat} {ve : Value} {wS : World} {s : Sy} {m : List (ByteArray × Value)} {qs : List TV} {vt vk vd : Value} {w w' w'' : World}
theorem SyI.ext (h : SyI N b2 b38 b37 ve wS s m qs vt vk vd w) (hs : Step [] w w') : SyI N b2 b38 b37 ve wS s m qs vt vk vd w' :=
  ⟨h.st.trans hs, h.A.ext hs, h.M.ext hs, own_ext h.t hs, h.tb, own_ext h.k hs, own_ext h.e hs, h.q, fun p hp => own_ext (h.el p hp) hs, h.sep, h.d1, h.d2, h.d3⟩
/-- The blocks of the search are other ones than those of the automaton and the map. -/
structure SyN (N b2 b38 b37 : Nat) (wS : World) : Prop where
  l2 : b2 < N
  l38 : b38 < wS.heap.size
  l37 : b37 < wS.heap.size
  n37 : N ≤ b37
  n38 : b37 < b38
  nS : N ≤ wS.heap.size
theorem SyI.setK (h : SyI N b2 b38 b37 ve wS s m qs vt vk vd w) (n : SyN N b2 b38 b37 wS) {vk' : Value} {l : List Int} (hs : Step (ob vk) w w') (hk' : IntsO 3 wS.heap.size w' vk' l)
    (hn : ∀ b ∈ ob vk', b ∈ ob vk ∨ w.heap.size ≤ b) (hs2 : Step [b2] w' w'') (hB : Blk w''.heap b2 35 [ve, .int .i64 0, vk', vd]) : SyI N b2 b38 b37 ve wS ⟨s.tup, l, s.ed⟩ m qs vt vk' vd w'' := by
  have hge := own_ge h.k
  have l2 := n.l2; have l38 := n.l38; have n37 := n.n37; have n38 := n.n38; have nS := n.nS
  refine ⟨(h.st.then hs (fun b hb => .inr (hge b hb).1)).then hs2 (fun b hb => .inl (by simp at hb; simp [hb])), hB, (h.M.step hs (own_notin h.k (by omega))).step hs2 (by simp; omega),
    own_step (own_step h.t hs h.d1) hs2 (fun b hb => by have := (own_ge h.t b hb).1; simp; omega), h.tb, own_step hk' hs2 (fun b hb => by have := (own_ge hk' b hb).1; simp; omega),
    own_step (own_step h.e hs h.d3.symm) hs2 (fun b hb => by have := (own_ge h.e b hb).1; simp; omega), h.q,
    fun p hp => own_step (own_step (h.el p hp) hs (fun b hb => (h.sep p hp b hb).2.2.1)) hs2 (fun b hb => by have := (own_ge (h.el p hp) b hb).1; simp; omega),
    fun p hp b hb => ⟨(h.sep p hp b hb).1, (h.sep p hp b hb).2.1, fun hb' => ?_, (h.sep p hp b hb).2.2.2⟩, h.d1.grow hn (own_lt h.t), h.d2, (h.d3.symm.grow hn (own_lt h.e)).symm⟩
  rcases hn b hb' with h1 | h1
  · exact (h.sep p hp b hb).2.2.1 h1
  · have := own_lt (h.el p hp) b hb; omega
theorem SyI.setE (h : SyI N b2 b38 b37 ve wS s m qs vt vk vd w) (n : SyN N b2 b38 b37 wS) {vd' : Value} {l : List Ed} (hs : Step (ob vd) w w') (hk' : EdsO 93 wS.heap.size w' vd' l)
    (hn : ∀ b ∈ ob vd', b ∈ ob vd ∨ w.heap.size ≤ b) (hs2 : Step [b2] w' w'') (hB : Blk w''.heap b2 35 [ve, .int .i64 0, vk, vd']) : SyI N b2 b38 b37 ve wS ⟨s.tup, s.mk', l⟩ m qs vt vk vd' w'' := by
  have hge := own_ge h.e
  have l2 := n.l2; have l38 := n.l38; have n37 := n.n37; have n38 := n.n38; have nS := n.nS
  refine ⟨(h.st.then hs (fun b hb => .inr (hge b hb).1)).then hs2 (fun b hb => .inl (by simp at hb; simp [hb])), hB, (h.M.step hs (own_notin h.e (by omega))).step hs2 (by simp; omega),
    own_step (own_step h.t hs h.d2) hs2 (fun b hb => by have := (own_ge h.t b hb).1; simp; omega), h.tb, own_step (own_step h.k hs h.d3) hs2 (fun b hb => by have := (own_ge h.k b hb).1; simp; omega),
    own_step hk' hs2 (fun b hb => by have := (own_ge hk' b hb).1; simp; omega), h.q,
    fun p hp => own_step (own_step (h.el p hp) hs (fun b hb => (h.sep p hp b hb).2.2.2)) hs2 (fun b hb => by have := (own_ge (h.el p hp) b hb).1; simp; omega),
    fun p hp b hb => ⟨(h.sep p hp b hb).1, (h.sep p hp b hb).2.1, (h.sep p hp b hb).2.2.1, fun hb' => ?_⟩, h.d1, h.d2.grow hn (own_lt h.t), h.d3.grow hn (own_lt h.k)⟩
  rcases hn b hb' with h1 | h1
  · exact (h.sep p hp b hb).2.2.2 h1
  · have := own_lt (h.el p hp) b hb; omega
/-- The map is written. -/
theorem SyI.setM (h : SyI N b2 b38 b37 ve wS s m qs vt vk vd w) (n : SyN N b2 b38 b37 wS) {m' : List (ByteArray × Value)} (hs : Step [b38] w w') (hm : MapB kStr w'.heap b38 m') : SyI N b2 b38 b37 ve wS s m' qs vt vk vd w' := by
  have l2 := n.l2; have l38 := n.l38; have n37 := n.n37; have n38 := n.n38; have nS := n.nS
  exact ⟨h.st.then hs (fun b hb => .inl (by simp at hb; simp [hb])), h.A.step hs (by simp; omega), hm, own_step h.t hs (fun b hb => by have := h.tb b hb; simp; omega), h.tb,
    own_step h.k hs (fun b hb => by have := (own_ge h.k b hb).1; simp; omega), own_step h.e hs (fun b hb => by have := (own_ge h.e b hb).1; simp; omega), h.q,
    fun p hp => own_step (h.el p hp) hs (fun b hb => by have := (h.sep p hp b hb).1; simpa using this), h.sep, h.d1, h.d2, h.d3⟩
/-- A tuple more. -/
theorem SyI.setT (h : SyI N b2 b38 b37 ve wS s m qs vt vk vd w) (n : SyN N b2 b38 b37 wS) {vt' vx : Value} {u : List Int} (hx : IntsO 3 wS.heap.size w vx u) (hxs : ∀ b ∈ ob vx, b ∉ ob vt ∧ b ∉ ob vk ∧ b ∉ ob vd) (hs : Step (ob vt) w w')
    (ht' : TupO 32 N w' vt' (qs ++ [(vx, u)])) (hn : ∀ b ∈ ob vt', b ∈ ob vt ∨ w.heap.size ≤ b) : SyI N b2 b38 b37 ve wS ⟨s.tup ++ [u], s.mk', s.ed⟩ m (qs ++ [(vx, u)]) vt' vk vd w' := by
  have l2 := n.l2; have l38 := n.l38; have n37 := n.n37; have n38 := n.n38; have nS := n.nS
  have hwz := h.st.size
  have nott : ∀ c, c < w.heap.size → c ∉ ob vt → c ∉ ob vt' := fun c hc hv hv' => by
    rcases hn c hv' with h1 | h1
    · exact hv h1
    · omega
  refine ⟨h.st.then hs (fun b hb => by have := h.tb b hb; simp; omega), h.A.step hs (fun hb => by have := h.tb b2 hb; omega), h.M.step hs (fun hb => by have := h.tb b38 hb; omega), ht',
    fun b hb => ?_, own_step h.k hs h.d1.symm, own_step h.e hs h.d2.symm, by rw [List.map_append, h.q]; rfl, fun p hp => ?_, fun p hp b hb => ?_, (h.d1.symm.grow hn (own_lt h.k)).symm, (h.d2.symm.grow hn (own_lt h.e)).symm, h.d3⟩
  · rcases hn b hb with h1 | h1
    · exact h.tb b h1
    · exact .inr (by omega)
  · rcases List.mem_append.1 hp with hp | hp
    · exact own_step (h.el p hp) hs (fun b hb => (h.sep p hp b hb).2.1)
    · simp only [List.mem_singleton] at hp
      subst hp
      exact own_base (own_step hx hs (fun b hb => (hxs b hb).1)) nS
  · rcases List.mem_append.1 hp with hp | hp
    · have := h.sep p hp b hb
      exact ⟨this.1, nott b (own_lt (h.el p hp) b hb) this.2.1, this.2.2⟩
    · simp only [List.mem_singleton] at hp
      subst hp
      have h1 := (own_ge hx b hb)
      have h2 := hxs b hb
      exact ⟨by omega, nott b h1.2 h2.1, h2.2⟩
/-- As slices that are read. -/
theorem SyI.tups (h : SyI N b2 b38 b37 ve wS s m qs vt vk vd w) (hn : qs.length ≤ 1099511627776) (hl : ∀ p ∈ qs, p.2.length ≤ 1099511627776) {L : List Nat} (hL : ∀ b ∈ L, b < N) : Tups L w.heap vt qs :=
  ⟨own_arr h.t hn (fun b hb hbL => by have := (own_ge h.t b hb).1; have := hL b hbL; omega), fun p hp => IntsO.ints (h.el p hp) (hl p hp) hL⟩
end
end Go.Proofs.YtfhgnlkdcdlblaaDoor
