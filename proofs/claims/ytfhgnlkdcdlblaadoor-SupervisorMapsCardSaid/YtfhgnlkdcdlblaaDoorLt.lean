/- Lists of automata, lists of lists, in memory. -/
import Derived.Test.YtfhgnlkdcdlblaaDoorLr
namespace Go.Lg
section
variable {P : Program} {ops : List Oper} {K : Fr → World → Prop} {f : Fr} {w : World} {d : Option Nat} {ty : Nat} {ps : String} {af : Array Edge} {gd : Option (Nat × Bool)} {l : List Oper} {C : World → Prop} {pl : List (Nat × Bool)} {i0 : Nat}
/-- An element of a slice whose elements are g of plain data. -/
theorem xig {α : Type} {g : α → List Value} {x y : Operand} {t e sz bys : Nat} {z : Value} [Sl P t e sz bys z] (hg' : ∀ x, (g x).length = sz) {L : List Nat} {es : List α} {v : Value} {k : IntKind} {i : Nat}
    (h : Arr L w.heap v es.length sz (es.flatMap g)) (hv : ev f x = v) (hy : ev f y = .int k i) (hi : i < es.length)
    (hK : ∀ a, At L w.heap a (g es[i]) → XL P ops K l (putF f d (.pointer (some a))) w) (hg : gdF ops f ⟨d, .indexAddr t x y, ty, ps, af, gd⟩ = true := by rfl) :
    XL P ops K (⟨d, .indexAddr t x y, ty, ps, af, gd⟩ :: l) f w := by
  obtain ⟨a, cap, h1, h2⟩ := Arr.at h hi
  rw [flat_at g sz hg' es i hi] at h2
  refine xl hg (xv (r_index (hv.trans h1) hy (by omega) (by omega)) (hK _ ?_))
  simpa using h2
theorem pig {α : Type} {g : α → List Value} {x y : Operand} {t e sz bys : Nat} {z : Value} [Sl P t e sz bys z] (ho : opAt ops i0 = ⟨d, .indexAddr t x y, ty, ps, af, gd⟩) (hg' : ∀ x, (g x).length = sz) {L : List Nat} {es : List α} {v : Value} {H : Array Obj} {k : IntKind} {i : Nat}
    (h : Arr L H v es.length sz (es.flatMap g)) (hv : ev f x = v) (hy : ev f y = .int k i) (hi : i < es.length)
    (hK : ∀ a, At L H a (g es[i]) → XP P ops C K pl (putF f d (.pointer (some a))) w) (hg : gdF ops f (opAt ops i0) = true := by rfl) :
    XP P ops C K ((i0, true) :: pl) f w := by
  obtain ⟨a, cap, h1, h2⟩ := Arr.at h hi
  rw [flat_at g sz hg' es i hi] at h2
  refine Lg.p (fun w' => by rw [ho]; exact r_index (hv.trans h1) hy (by omega) (by omega)) ?_ hg
  rw [ho]
  refine hK _ ?_
  simpa using h2
end
/-- What is read goes along while the blocks that are written change. -/
theorem Arr.grow {X X' Y : List Nat} {w w' : World} {v : Value} {n sz : Nat} {cs : List Value} (h : Arr X w.heap v n sz cs) (hs : Step Y w w') (hY : ∀ b ∈ Y, b ∈ X) (hX : ∀ b ∈ X', b ∈ X ∨ w.heap.size ≤ b) : Arr X' w'.heap v n sz cs := by
  have h1 : Arr (X ++ X') w.heap v n sz cs := h.up (fun b hb => by
    rcases List.mem_append.1 hb with h1 | h1
    · exact .inl h1
    · exact hX b h1)
  have h2 := h1.step hs (fun b hb => List.mem_append.2 (.inl (hY b hb)))
  exact h2.up (fun b hb => .inl (List.mem_append.2 (.inr hb)))

/-! ### Slices of automata -/
structure AV where
  va : Value
  vm : Value
  ve : Value
  a : Aut
abbrev avCells (p : AV) : List Value := [p.va, .int .i64 p.a.st, p.vm, p.ve]
structure Auts (L : List Nat) (H : Array Obj) (v : Value) (ps : List AV) : Prop where
  arr : Arr L H v ps.length 4 (ps.flatMap avCells)
  each : ∀ p ∈ ps, AutA L H p.va p.vm p.ve p.a
theorem Auts.ext {L : List Nat} {w w' : World} {v : Value} {ps : List AV} (h : Auts L w.heap v ps) (hs : Step [] w w') : Auts L w'.heap v ps := ⟨h.arr.ext hs, fun p hp => (h.each p hp).ext hs⟩
theorem Auts.st {L : List Nat} {w w' : World} {v : Value} {ps : List AV} (h : Auts L w.heap v ps) (hs : Step L w w') : Auts L w'.heap v ps := ⟨h.arr.st hs, fun p hp => (h.each p hp).st hs⟩
theorem Auts.up {L L' : List Nat} {H : Array Obj} {v : Value} {ps : List AV} (h : Auts L H v ps) (hL : ∀ b ∈ L', b ∈ L ∨ H.size ≤ b) : Auts L' H v ps := ⟨h.arr.up hL, fun p hp => (h.each p hp).up hL⟩

/-! ### Slices of slices of ints -/
abbrev TV := Value × List Int
abbrev tvCells (p : TV) : List Value := [p.1]
structure Tups (L : List Nat) (H : Array Obj) (v : Value) (ps : List TV) : Prop where
  arr : Arr L H v ps.length 1 (ps.flatMap tvCells)
  each : ∀ p ∈ ps, Ints L H p.1 p.2
theorem Tups.ext {L : List Nat} {w w' : World} {v : Value} {ps : List TV} (h : Tups L w.heap v ps) (hs : Step [] w w') : Tups L w'.heap v ps := ⟨h.arr.ext hs, fun p hp => (h.each p hp).ext hs⟩
theorem Tups.st {L : List Nat} {w w' : World} {v : Value} {ps : List TV} (h : Tups L w.heap v ps) (hs : Step L w w') : Tups L w'.heap v ps := ⟨h.arr.st hs, fun p hp => (h.each p hp).st hs⟩
theorem Tups.up {L L' : List Nat} {H : Array Obj} {v : Value} {ps : List TV} (h : Tups L H v ps) (hL : ∀ b ∈ L', b ∈ L ∨ H.size ≤ b) : Tups L' H v ps := ⟨h.arr.up hL, fun p hp => (h.each p hp).up hL⟩
/-- New ones: all of their memory lies from block N on. -/
def TupF (N : Nat) (H : Array Obj) (v : Value) (l : List (List Int)) : Prop := ∃ ps : List TV, ps.map (·.2) = l ∧ ∀ L : List Nat, (∀ b ∈ L, b < N) → Tups L H v ps
theorem TupF.ext {N : Nat} {w w' : World} {v : Value} {l : List (List Int)} (h : TupF N w.heap v l) (hs : Step [] w w') : TupF N w'.heap v l := let ⟨ps, h1, h2⟩ := h; ⟨ps, h1, fun L hL => (h2 L hL).ext hs⟩
theorem TupF.mono {N M : Nat} {H : Array Obj} {v : Value} {l : List (List Int)} (h : TupF N H v l) (hM : M ≤ N) : TupF M H v l := let ⟨ps, h1, h2⟩ := h; ⟨ps, h1, fun L hL => h2 L (fun b hb => Nat.lt_of_lt_of_le (hL b hb) hM)⟩
/-- What the call owns: a slice of slices. -/
abbrev TupO (e base : Nat) (w : World) (v : Value) (ps : List TV) : Prop := w.ownsRow base e 1 v ps.length (ps.flatMap tvCells)
theorem TupO.snoc {e base : Nat} {w : World} {v : Value} {ps : List TV} {p : TV} (h : w.ownsRow base e 1 v (ps.length + 1) (ps.flatMap tvCells ++ [p.1])) : TupO e base w v (ps ++ [p]) := by
  unfold TupO
  rw [List.length_append, List.flatMap_append]; simpa using h

/-! ### Stores into a row of the call's own -/
theorem own_slice {w : World} {base e sz n : Nat} {v : Value} {cs : List Value} (h : w.ownsRow base e sz v n cs) (hn : 0 < n) : ∃ g cap, v = .slice (some ⟨g, 0, none⟩) n cap := by
  rcases h.2 with ⟨_, h0⟩ | ⟨g, cap, cur, h1, _⟩
  · omega
  · exact ⟨g, cap, h1⟩
section
variable {P : Program} {ops : List Oper} {K : Fr → World → Prop} {f : Fr} {w : World} {d : Option Nat} {ty : Nat} {ps : String} {af : Array Edge} {gd : Option (Nat × Bool)} {l : List Oper}
theorem o_storeO {t : Nat} [h1 : One P t] {x y : Operand} {base e n g cap i : Nat} {cs : List Value} {u : Value} (h : w.ownsRow base e 1 (.slice (some ⟨g, 0, none⟩) n cap) n cs) (hx : ev f x = .pointer (some ⟨g, 0 + i * 1, none⟩)) (hy : ev f y = u) (hi : i < n) (hu : u.oneCell' = true)
    (hK : ∀ w', Step [g] w w' → w'.ownsRow base e 1 (.slice (some ⟨g, 0, none⟩) n cap) n (cs.set i u) → K (putF f d undef) w') : XO P ⟨d, .store t x y, ty, ps, af, gd⟩ f w K := by
  obtain ⟨hl, h⟩ := h
  rcases h with ⟨h0, _⟩ | ⟨g', cap', cur, e1, hb, hg, hnc, hm, hsz, htk⟩
  · cases h0
  cases e1
  have hB : Blk w.heap g e cur.toList := by unfold Blk; simpa using hg
  refine o_store (j := i) hB (by rw [hx]; simp) hy (by simp [hsz]; omega) hu fun w' hs hB' => hK w' hs ⟨by simpa using hl, .inr ⟨g, cap, (cur.toList.set i u).toArray, rfl, hb, hB', hnc, hm, by simpa using hsz, ?_⟩⟩
  rw [← htk]
  simp [List.take_set]
end
section
variable {P : Program} {f : Fr} {w : World} {d : Option Nat} {ty : Nat} {ps : String} {af : Array Edge} {gd : Option (Nat × Bool)} {κ : Type} [DecidableEq κ]
theorem r_lookupS {t kt et : Nat} {z : Value} [hm : Mp P t kt et z] {enc : κ → Value} [hk : Key P kt enc] {x y : Operand} {b : Nat} {m : List (κ × Value)} {k : κ} {u : Value} (h : MapB enc w.heap b m) (hx : ev f x = .map (some b)) (hy : ev f y = enc k) (hg : mget m k = some u) :
    (execOp (ev f) ⟨d, .lookup t x y true, ty, ps, af, gd⟩).run P w = .ok (.value (.tuple #[u, .bool true])) w := by
  have := r_lookup (P := P) (t := t) (d := d) (ty := ty) (ps := ps) (af := af) (gd := gd) h hx hy
  rw [hg] at this; exact this
theorem r_lookupN {t kt et : Nat} {z : Value} [hm : Mp P t kt et z] {enc : κ → Value} [hk : Key P kt enc] {x y : Operand} {b : Nat} {m : List (κ × Value)} {k : κ} (h : MapB enc w.heap b m) (hx : ev f x = .map (some b)) (hy : ev f y = enc k) (hg : mget m k = none) :
    (execOp (ev f) ⟨d, .lookup t x y true, ty, ps, af, gd⟩).run P w = .ok (.value (.tuple #[z, .bool false])) w := by
  have := r_lookup (P := P) (t := t) (d := d) (ty := ty) (ps := ps) (af := af) (gd := gd) h hx hy
  rw [hg] at this; exact this
end
end Go.Lg
