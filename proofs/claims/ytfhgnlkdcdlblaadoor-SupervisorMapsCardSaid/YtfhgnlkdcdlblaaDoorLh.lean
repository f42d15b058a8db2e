/- Memory: what is read (Arr), what the call owns (Blk, ownsRow), steps of the world, and the operations that make or write memory. -/
import Derived.Test.YtfhgnlkdcdlblaaDoorLo
import Derived.Deep.OwnRows
namespace Go.Lg
open Go.RowKit

/-! ### Steps of the world: only blocks of L, and new ones, have turned -/
structure Step (L : List Nat) (w w' : World) : Prop where
  os : w'.os = w.os
  tape : w'.tape = w.tape
  output : w'.output = w.output
  size : w.heap.size ≤ w'.heap.size
  block : ∀ k, k < w.heap.size → k ∉ L → w'.heap[k]? = w.heap[k]?
theorem Step.refl (L : List Nat) (w : World) : Step L w w := ⟨rfl, rfl, rfl, Nat.le_refl _, fun _ _ _ => rfl⟩
theorem Step.drew (L : List Nat) (w : World) : Step L w { w with drawn := w.drawn + 1 } := ⟨rfl, rfl, rfl, Nat.le_refl _, fun _ _ _ => rfl⟩
theorem Step.mono {L L' : List Nat} {w w' : World} (h : Step L w w') (hL : ∀ b ∈ L, b ∈ L') : Step L' w w' :=
  ⟨h.os, h.tape, h.output, h.size, fun k hk hn => h.block k hk (fun hm => hn (hL k hm))⟩
theorem Step.any {L : List Nat} {w w' : World} (h : Step [] w w') : Step L w w' := h.mono (fun _ hb => by cases hb)
/-- One step more, of blocks that are new since w0 or of L. -/
theorem Step.then {L L' : List Nat} {w0 w w' : World} (h : Step L w0 w) (k : Step L' w w') (hn : ∀ b ∈ L', b ∈ L ∨ w0.heap.size ≤ b) : Step L w0 w' :=
  ⟨k.os.trans h.os, k.tape.trans h.tape, k.output.trans h.output, Nat.le_trans h.size k.size, fun i hi hL =>
    (k.block i (Nat.lt_of_lt_of_le hi h.size) (fun hm => by rcases hn i hm with h1 | h1; exact hL h1; omega)).trans (h.block i hi hL)⟩
theorem Step.trans {L : List Nat} {w0 w w' : World} (h : Step L w0 w) (k : Step [] w w') : Step L w0 w' := h.then k (fun _ hb => by cases hb)
theorem Step.trans' {L : List Nat} {w0 w w' : World} (h : Step L w0 w) (k : Step L w w') : Step L w0 w' := h.then k (fun _ hb => .inl hb)
theorem Step.below {w w' : World} (h : Step [] w w') : Below w.heap.size w w' := ⟨h.os, h.tape, h.output, h.size, fun k hk => h.block k hk (by simp)⟩
theorem Step.of_below {w w' : World} (h : Below w.heap.size w w') : Step [] w w' := ⟨h.os, h.tape, h.output, h.size, fun k hk _ => h.block k hk⟩
theorem Step.of_grown {w w' : World} {row : Option Nat} (h : w.grownBy w' row) : Step row.toList w w' :=
  ⟨h.os, h.tape, h.output, h.size, fun k hk hn => h.block k hk (fun e => hn (by simp [← e]))⟩
theorem al_old (w : World) (o : Obj) (k : Nat) (h : k < w.heap.size) : (w.alloc o).heap[k]? = w.heap[k]? := by
  show (w.heap.push o)[k]? = _
  rw [Array.getElem?_push, if_neg (by omega)]
theorem al_new (w : World) (o : Obj) : (w.alloc o).heap[w.heap.size]? = some o := by
  show (w.heap.push o)[w.heap.size]? = _
  simp
theorem al_size (w : World) (o : Obj) : (w.alloc o).heap.size = w.heap.size + 1 := by show (w.heap.push o).size = _; simp
theorem Step.alloc (w : World) (o : Obj) : Step [] w (w.alloc o) := ⟨rfl, rfl, rfl, by rw [al_size]; omega, fun k hk _ => al_old w o k hk⟩
theorem Step.setRow (w : World) (g : Nat) (cs : Array Value) : Step [g] w (w.setRow g cs) :=
  ⟨rfl, rfl, rfl, by simp [World.setRow], fun k _ hn => setRow_other w g k cs (fun e => hn (by simp [e]))⟩

/-! ### Cells -/
def cel (H : Array Obj) (a : Addr) : Option Value := match H[a.block]? with
  | some (.cells c _ _) => if a.spot.isSome then none else c[a.off]?
  | _ => none
theorem cel_world (w : World) (a : Addr) : w.cell? a = cel w.heap a := rfl
/-- The cells from address a on; its block is none of L. -/
structure At (L : List Nat) (H : Array Obj) (a : Addr) (us : List Value) : Prop where
  out : a.block ∉ L
  lt : a.block < H.size
  cell : ∀ j u, us[j]? = some u → cel H (a.add j) = some u
theorem add_block (a : Addr) (j : Nat) : (a.add j).block = a.block := by unfold Addr.add; split <;> rfl
theorem cel_step {L : List Nat} {w w' : World} (h : Step L w w') {a : Addr} (ho : a.block ∉ L) (hl : a.block < w.heap.size) : cel w'.heap a = cel w.heap a := by
  unfold cel; rw [h.block _ hl ho]
theorem At.step {L X : List Nat} {w w' : World} {a : Addr} {us : List Value} (h : At L w.heap a us) (hs : Step X w w') (hX : ∀ b ∈ X, b ∈ L) : At L w'.heap a us :=
  ⟨h.out, Nat.lt_of_lt_of_le h.lt hs.size, fun j u hu => by rw [cel_step (L := X) hs (by rw [add_block]; exact fun hm => h.out (hX _ hm)) (by rw [add_block]; exact h.lt)]; exact h.cell j u hu⟩
theorem At.ext {L : List Nat} {w w' : World} {a : Addr} {us : List Value} (h : At L w.heap a us) (hs : Step [] w w') : At L w'.heap a us := h.step hs (fun _ hb => by cases hb)
theorem At.st {L : List Nat} {w w' : World} {a : Addr} {us : List Value} (h : At L w.heap a us) (hs : Step L w w') : At L w'.heap a us := h.step hs (fun _ hb => hb)
theorem At.one {L : List Nat} {w : World} {a : Addr} {u : Value} (h : At L w.heap a [u]) : w.cell? a = some u := by
  have := h.cell 0 u rfl
  simp only [Addr.add, if_true] at this
  exact this
theorem At.cells {L : List Nat} {w : World} {a : Addr} {us : List Value} (h : At L w.heap a us) : ∀ j v, us[j]? = some v → w.cell? (a.add j) = some v := h.cell
theorem Addr.add_add (a : Addr) (i j : Nat) : (a.add i).add j = a.add (i + j) := by
  unfold Addr.add
  by_cases hi : i = 0
  · subst hi; simp
  · by_cases hj : j = 0
    · subst hj; simp
    · simp [hi, hj, Nat.add_assoc]
/-- A field of what lies at a. -/
theorem At.fld {L : List Nat} {H : Array Obj} {a : Addr} {us : List Value} (h : At L H a us) (j : Nat) (u : Value) (hu : us[j]? = some u) : At L H (a.add j) [u] :=
  ⟨by rw [add_block]; exact h.out, by rw [add_block]; exact h.lt, fun i v hv => by
    cases i with
    | zero => simp at hv; subst hv; rw [Addr.add_add, Nat.add_zero]; exact h.cell j u hu
    | succ i => simp at hv⟩
theorem At.up {L L' : List Nat} {H : Array Obj} {a : Addr} {us : List Value} (h : At L H a us) (hL : ∀ b ∈ L', b ∈ L ∨ H.size ≤ b) : At L' H a us :=
  ⟨fun hm => by rcases hL _ hm with h1 | h1; exact h.out h1; have := h.lt; omega, h.lt, h.cell⟩

/-! ### Slices that are read -/
/-- The slice v has n elements of sz cells each: cs; its block is none of L. -/
def Arr (L : List Nat) (H : Array Obj) (v : Value) (n sz : Nat) (cs : List Value) : Prop :=
  cs.length = n * sz ∧ n ≤ 1099511627776 ∧ ((v = .slice none 0 0 ∧ n = 0) ∨ ∃ a cap, v = .slice (some a) n cap ∧ n ≤ cap ∧ At L H a cs)
theorem Arr.step {L X : List Nat} {w w' : World} {v : Value} {n sz : Nat} {cs : List Value} (h : Arr L w.heap v n sz cs) (hs : Step X w w') (hX : ∀ b ∈ X, b ∈ L) : Arr L w'.heap v n sz cs :=
  ⟨h.1, h.2.1, h.2.2.imp id fun ⟨a, cap, h1, h2, h3⟩ => ⟨a, cap, h1, h2, h3.step hs hX⟩⟩
theorem Arr.ext {L : List Nat} {w w' : World} {v : Value} {n sz : Nat} {cs : List Value} (h : Arr L w.heap v n sz cs) (hs : Step [] w w') : Arr L w'.heap v n sz cs := h.step hs (fun _ hb => by cases hb)
theorem Arr.st {L : List Nat} {w w' : World} {v : Value} {n sz : Nat} {cs : List Value} (h : Arr L w.heap v n sz cs) (hs : Step L w w') : Arr L w'.heap v n sz cs := h.step hs (fun _ hb => hb)
theorem Arr.up {L L' : List Nat} {H : Array Obj} {v : Value} {n sz : Nat} {cs : List Value} (h : Arr L H v n sz cs) (hL : ∀ b ∈ L', b ∈ L ∨ H.size ≤ b) : Arr L' H v n sz cs :=
  ⟨h.1, h.2.1, h.2.2.imp id fun ⟨a, cap, h1, h2, h3⟩ => ⟨a, cap, h1, h2, h3.up hL⟩⟩
theorem Arr.nil (L : List Nat) (H : Array Obj) (sz : Nat) : Arr L H (.slice none 0 0) 0 sz [] := ⟨by simp, by omega, .inl ⟨rfl, rfl⟩⟩
theorem Arr.shape {L : List Nat} {H : Array Obj} {v : Value} {n sz : Nat} {cs : List Value} (h : Arr L H v n sz cs) : ∃ a cap, v = .slice a n cap := by
  rcases h.2.2 with ⟨h1, h2⟩ | ⟨a, cap, h1, _⟩
  · exact ⟨none, 0, by rw [h1, h2]⟩
  · exact ⟨some a, cap, h1⟩
theorem Arr.one {L : List Nat} {H : Array Obj} {v : Value} {n sz : Nat} {cs : List Value} (h : Arr L H v n sz cs) : v.oneCell' = true := by obtain ⟨a, cap, rfl⟩ := h.shape; rfl
theorem Arr.cells {L : List Nat} {H : Array Obj} {v : Value} {n sz : Nat} {cs : List Value} (h : Arr L H v n sz cs) : v.cells = [v].toArray := by obtain ⟨a, cap, rfl⟩ := h.shape; rfl
theorem Arr.le {L : List Nat} {H : Array Obj} {v : Value} {n sz : Nat} {cs : List Value} (h : Arr L H v n sz cs) : n ≤ 1099511627776 := h.2.1
/-- Of an element. -/
theorem Arr.at {L : List Nat} {H : Array Obj} {v : Value} {n sz : Nat} {cs : List Value} (h : Arr L H v n sz cs) {i : Nat} (hi : i < n) :
    ∃ a cap, v = .slice (some a) n cap ∧ At L H (a.add (i * sz)) ((cs.drop (i * sz)).take sz) := by
  rcases h.2.2 with ⟨_, h2⟩ | ⟨a, cap, h1, _, h3⟩
  · omega
  · refine ⟨a, cap, h1, by rw [add_block]; exact h3.out, by rw [add_block]; exact h3.lt, fun j u hu => ?_⟩
    rw [Addr.add_add]
    refine h3.cell _ u ?_
    rw [List.getElem?_take] at hu
    split at hu
    · simpa using hu
    · cases hu
abbrev Ints (L : List Nat) (H : Array Obj) (v : Value) (l : List Int) : Prop := Arr L H v l.length 1 (l.map (.int .i64))
theorem Ints.at {L : List Nat} {H : Array Obj} {v : Value} {l : List Int} (h : Ints L H v l) {i : Nat} (hi : i < l.length) :
    ∃ a cap, v = .slice (some a) l.length cap ∧ At L H (a.add (i * 1)) [.int .i64 l[i]] := by
  obtain ⟨a, cap, h1, h2⟩ := Arr.at h hi
  refine ⟨a, cap, h1, ?_⟩
  have : ((l.map (Value.int .i64)).drop (i * 1)).take 1 = [.int .i64 l[i]] := by
    rw [Nat.mul_one, List.drop_eq_getElem_cons (by simpa using hi)]; simp
  rw [this] at h2
  exact h2

/-! ### What the call owns -/
/-- Block b, of type T, holds just these cells. -/
def Blk (H : Array Obj) (b T : Nat) (cs : List Value) : Prop := H[b]? = some (.cells cs.toArray T (0, 0))
theorem Blk.lt {H : Array Obj} {b T : Nat} {cs : List Value} (h : Blk H b T cs) : b < H.size := (Array.getElem?_eq_some_iff.1 h).1
theorem Blk.step {X : List Nat} {w w' : World} {b T : Nat} {cs : List Value} (h : Blk w.heap b T cs) (hs : Step X w w') (hb : b ∉ X) : Blk w'.heap b T cs := by
  unfold Blk; rw [hs.block b h.lt hb]; exact h
theorem Blk.ext {w w' : World} {b T : Nat} {cs : List Value} (h : Blk w.heap b T cs) (hs : Step [] w w') : Blk w'.heap b T cs := h.step hs (by simp)
theorem Blk.cell {H : Array Obj} {b T : Nat} {cs : List Value} (h : Blk H b T cs) (j : Nat) : cel H ⟨b, j, none⟩ = cs[j]? := by
  unfold Blk at h; simp [cel, h]
theorem lit_add (b j : Nat) : (⟨b, 0, none⟩ : Addr).add j = ⟨b, j, none⟩ := by unfold Addr.add; split <;> simp_all
theorem lit_add' (b i j : Nat) : (⟨b, i, none⟩ : Addr).add j = ⟨b, i + j, none⟩ := by unfold Addr.add; split <;> simp_all
theorem Blk.at {L : List Nat} {H : Array Obj} {b T : Nat} {cs : List Value} (h : Blk H b T cs) (hb : b ∉ L) : At L H ⟨b, 0, none⟩ cs :=
  ⟨hb, h.lt, fun j u hu => by rw [lit_add, h.cell]; exact hu⟩
theorem Blk.arr {L : List Nat} {H : Array Obj} {b T : Nat} {cs : List Value} (h : Blk H b T cs) (hb : b ∉ L) {n cap sz : Nat} (hl : cs.length = n * sz) (hn : n ≤ 1099511627776) (hc : n ≤ cap) :
    Arr L H (.slice (some ⟨b, 0, none⟩) n cap) n sz cs := ⟨hl, hn, .inr ⟨_, _, rfl, hc, h.at hb⟩⟩

def ob : Value → List Nat
  | .slice (some a) _ _ => [a.block]
  | _ => []
theorem ob_own (v : Value) : ob v = v.ownBlock.toList := by cases v <;> try rfl
                                                            rename_i a _ _; cases a <;> rfl
theorem own_step {X : List Nat} {w w' : World} {base e sz n : Nat} {v : Value} {cs : List Value} (h : w.ownsRow base e sz v n cs) (hs : Step X w w') (hX : ∀ b ∈ ob v, b ∉ X) : w'.ownsRow base e sz v n cs := by
  refine ⟨h.1, h.2.imp id fun ⟨g, cap, cur, h1, h2, h3, h4⟩ => ⟨g, cap, cur, h1, h2, ?_, h4⟩⟩
  rw [hs.block g (Array.getElem?_eq_some_iff.1 h3).1 (hX g (by rw [h1]; simp [ob]))]; exact h3
theorem own_ext {w w' : World} {base e sz n : Nat} {v : Value} {cs : List Value} (h : w.ownsRow base e sz v n cs) (hs : Step [] w w') : w'.ownsRow base e sz v n cs := own_step h hs (fun _ _ => by simp)
theorem own_ge {w : World} {base e sz n : Nat} {v : Value} {cs : List Value} (h : w.ownsRow base e sz v n cs) : ∀ b ∈ ob v, base ≤ b ∧ b < w.heap.size := by
  intro b hb
  rcases h.2 with ⟨h1, _⟩ | ⟨g, cap, cur, h1, h2, h3, _⟩
  · subst h1; simp [ob] at hb
  · subst h1; simp [ob] at hb; subst hb; exact ⟨h2, (Array.getElem?_eq_some_iff.1 h3).1⟩
theorem own_base {w : World} {base base' e sz n : Nat} {v : Value} {cs : List Value} (h : w.ownsRow base e sz v n cs) (hb : base' ≤ base) : w.ownsRow base' e sz v n cs :=
  ⟨h.1, h.2.imp id fun ⟨g, cap, cur, h1, h2, h3⟩ => ⟨g, cap, cur, h1, Nat.le_trans hb h2, h3⟩⟩
/-- A slice of the call's own is a slice that can be read. -/
theorem own_arr {L : List Nat} {w : World} {base e sz n : Nat} {v : Value} {cs : List Value} (h : w.ownsRow base e sz v n cs) (hn : n ≤ 1099511627776) (hL : ∀ b ∈ ob v, b ∉ L) : Arr L w.heap v n sz cs := by
  refine ⟨h.1, hn, ?_⟩
  rcases h.2 with h1 | ⟨g, cap, cur, h1, h2, h3, h4, h5, h6, h7⟩
  · exact .inl h1
  · refine .inr ⟨_, _, h1, h4, hL g (by rw [h1]; simp [ob]), (Array.getElem?_eq_some_iff.1 h3).1, fun j u hu => ?_⟩
    rw [lit_add]
    unfold cel; simp only [h3]
    rw [← h7, List.getElem?_take] at hu
    split at hu
    · simpa using hu
    · cases hu
theorem own_nil (w : World) (base e sz : Nat) : w.ownsRow base e sz (.slice none 0 0) 0 [] := World.ownsRow_nil w base e sz
/-- A new slice, full. -/
theorem Blk.own {w : World} {b T sz n : Nat} {cs : List Value} (h : Blk w.heap b T cs) (hl : cs.length = n * sz) (hn : n ≤ 1099511627776) {base : Nat} (hb : base ≤ b) : w.ownsRow base T sz (.slice (some ⟨b, 0, none⟩) n n) n cs :=
  ⟨hl, .inr ⟨b, n, cs.toArray, rfl, hb, h, Nat.le_refl _, by simp only [maxLen]; omega, by simp [hl], by simp [← hl]⟩⟩

/-! ### Operations on slices that are read -/
section
variable {P : Program} {ops : List Oper} {K : Fr → World → Prop} {f : Fr} {w : World} {d : Option Nat} {ty : Nat} {ps : String} {af : Array Edge} {gd : Option (Nat × Bool)} {l : List Oper}
theorem r_lenA {x : Operand} {t e sz' bys : Nat} {z : Value} [Sl P t e sz' bys z] {L : List Nat} {n sz : Nat} {cs : List Value} {v : Value} {H : Array Obj} (h : Arr L H v n sz cs) (hv : ev f x = v) :
    (execOp (ev f) ⟨d, .call ⟨.builtin .len, #[x], #[t]⟩, ty, ps, af, gd⟩).run P w = .ok (.value (.int .i64 n)) w := by
  obtain ⟨a, cap, h1⟩ := h.shape
  exact r_len (hv.trans h1)
/-- An element's address. -/
theorem xi {x y : Operand} {t e sz bys : Nat} {z : Value} [Sl P t e sz bys z] {L : List Nat} {n : Nat} {cs : List Value} {v : Value} {k : IntKind} {i : Nat}
    (h : Arr L w.heap v n sz cs) (hv : ev f x = v) (hy : ev f y = .int k i) (hi : i < n)
    (hK : ∀ a, At L w.heap a ((cs.drop (i * sz)).take sz) → XL P ops K l (putF f d (.pointer (some a))) w) (hg : gdF ops f ⟨d, .indexAddr t x y, ty, ps, af, gd⟩ = true := by rfl) :
    XL P ops K (⟨d, .indexAddr t x y, ty, ps, af, gd⟩ :: l) f w := by
  obtain ⟨a, cap, h1, h2⟩ := h.at hi
  refine xl hg (xv (r_index (hv.trans h1) hy (by omega) (by omega)) (hK _ ?_))
  simpa using h2
/-- Of integers. -/
theorem xii {x y : Operand} {t e bys : Nat} {z : Value} [Sl P t e 1 bys z] {L : List Nat} {li : List Int} {v : Value} {k : IntKind} {i : Nat}
    (h : Ints L w.heap v li) (hv : ev f x = v) (hy : ev f y = .int k i) (hi : i < li.length)
    (hK : ∀ a, At L w.heap a [.int .i64 li[i]] → XL P ops K l (putF f d (.pointer (some a))) w) (hg : gdF ops f ⟨d, .indexAddr t x y, ty, ps, af, gd⟩ = true := by rfl) :
    XL P ops K (⟨d, .indexAddr t x y, ty, ps, af, gd⟩ :: l) f w := by
  obtain ⟨a, cap, h1, h2⟩ := Ints.at h hi
  refine xl hg (xv (r_index (hv.trans h1) hy (by omega) (by omega)) (hK _ ?_))
  simpa using h2
theorem r_loadA {t : Nat} [One P t] {x : Operand} {a : Addr} {L : List Nat} {u : Value} (h : At L w.heap a [u]) (hx : ev f x = .pointer (some a)) :
    (execOp (ev f) ⟨d, .load t x, ty, ps, af, gd⟩).run P w = .ok (.value u) w := r_load hx h.one
theorem r_loadsA {t sz : Nat} [Ag P t sz] {x : Operand} {a : Addr} {L : List Nat} {us : List Value} (h : At L w.heap a us) (hx : ev f x = .pointer (some a)) (hl : us.length = sz) :
    (execOp (ev f) ⟨d, .load t x, ty, ps, af, gd⟩).run P w = .ok (.value (.agg us.toArray)) w := r_loads hx hl h.cells
theorem r_loadB {t : Nat} [One P t] {x : Operand} {b T j : Nat} {cs : List Value} {u : Value} (h : Blk w.heap b T cs) (hx : ev f x = .pointer (some ⟨b, j, none⟩)) (hj : cs[j]? = some u) :
    (execOp (ev f) ⟨d, .load t x, ty, ps, af, gd⟩).run P w = .ok (.value u) w := r_load hx (by rw [cel_world, h.cell]; exact hj)
theorem r_loadsB {t sz : Nat} [Ag P t sz] {x : Operand} {b T : Nat} {cs : List Value} (h : Blk w.heap b T cs) (hx : ev f x = .pointer (some ⟨b, 0, none⟩)) (hl : cs.length = sz) :
    (execOp (ev f) ⟨d, .load t x, ty, ps, af, gd⟩).run P w = .ok (.value (.agg cs.toArray)) w := r_loads hx hl (h.at (L := []) (by simp)).cells
theorem r_fieldB {t j off : Nat} [FOff P t j off] {x : Operand} {b o : Nat} (hx : ev f x = .pointer (some ⟨b, o, none⟩)) :
    (execOp (ev f) ⟨d, .fieldAddr t x j, ty, ps, af, gd⟩).run P w = .ok (.value (.pointer (some ⟨b, o + off, none⟩))) w := by
  rw [← lit_add']; exact r_field hx
end

/-! ### Operations that make memory -/
section
variable {P : Program} {K : Fr → World → Prop} {f : Fr} {w : World} {d : Option Nat} {ty : Nat} {ps : String} {af : Array Edge} {gd : Option (Nat × Bool)}
theorem o_box {t : Nat} {x : Operand} {us : List Value} (hx : (ev f x).cells = us.toArray)
    (hK : ∀ b w', Step [] w w' → w.heap.size ≤ b → Blk w'.heap b t us → K (putF f d (.pointer (some ⟨b, 0, none⟩))) w') : XO P ⟨d, .box t x, ty, ps, af, gd⟩ f w K := by
  have hr : (execOp (ev f) ⟨d, .box t x, ty, ps, af, gd⟩).run P w = .ok (.value (.pointer (some ⟨w.heap.size, 0, none⟩))) (w.alloc (.cells us.toArray t)) := by
    simp [execOp, Instr.box, newVar, newRow, hx]
  exact xv hr (hK _ _ (Step.alloc w _) (Nat.le_refl _) (al_new w _))
theorem o_alloc {t : Nat} {z : Value} [h : Ze P t z] {us : List Value} (hz : z.cells = us.toArray)
    (hK : ∀ b w', Step [] w w' → w.heap.size ≤ b → Blk w'.heap b t us → K (putF f d (.pointer (some ⟨b, 0, none⟩))) w') : XO P ⟨d, .alloc t, ty, ps, af, gd⟩ f w K := by
  have hr : (execOp (ev f) ⟨d, .alloc t, ty, ps, af, gd⟩).run P w = .ok (.value (.pointer (some ⟨w.heap.size, 0, none⟩))) (w.alloc (.cells us.toArray t)) := by
    have hi := h.i
    cases hq : P.info? t with
    | none => simp [hq] at hi
    | some i =>
      simp [hq] at hi
      simp [execOp, Instr.alloc, newVar, newRow, zeroValue, typeInfo, hq, hi, hz]
  exact xv hr (hK _ _ (Step.alloc w _) (Nat.le_refl _) (al_new w _))
def CellsOf (sz : Nat) : List Value → List (List Value) → Prop
  | [], [] => True
  | v :: vs, u :: us => v.cells = u.toArray ∧ u.length = sz ∧ CellsOf sz vs us
  | _, _ => False
theorem CellsOf.length {sz : Nat} : ∀ {vs : List Value} {us : List (List Value)}, CellsOf sz vs us → us.length = vs.length ∧ us.flatten.length = vs.length * sz
  | [], [], _ => by simp
  | [], _ :: _, h => h.elim
  | _ :: _, [], h => h.elim
  | v :: vs, u :: us, h => by
    obtain ⟨h1, h2⟩ := CellsOf.length h.2.2
    simp [h1, h2, h.2.1, Nat.add_mul, Nat.add_comm]
theorem fill_cells {sz : Nat} : ∀ (vs : List Value) (us : List (List Value)) (i0 : Nat) (pre rest : List Value), CellsOf sz vs us → pre.length = i0 * sz → rest.length = vs.length * sz →
    Instr.fill (fun i => some (i * sz, sz)) (pre ++ rest).toArray ((vs.zipIdx i0).map fun x => (x.2, x.1)) = some (pre ++ us.flatten).toArray
  | [], [], i0, pre, rest, _, _, hr => by
    have : rest = [] := List.eq_nil_of_length_eq_zero (by simpa using hr)
    subst this; simp [Instr.fill]
  | [], _ :: _, _, _, _, h, _, _ => h.elim
  | _ :: _, [], _, _, _, h, _, _ => h.elim
  | v :: vs, u :: us, i0, pre, rest, h, hp, hr => by
    obtain ⟨h1, h2, h3⟩ := h
    have hr' : sz ≤ rest.length := by rw [hr]; simp [Nat.add_mul]
    have ih := fill_cells vs us (i0 + 1) (pre ++ u) (rest.drop sz) h3 (by simp [hp, h2, Nat.add_mul]) (by simp only [List.length_drop, hr, List.length_cons, Nat.add_mul, Nat.one_mul]; omega)
    simp only [List.zipIdx_cons, List.map_cons]
    unfold Instr.fill
    have hsz : v.cells.size = sz := by rw [h1]; simp [h2]
    simp only [hsz]
    rw [if_neg (by simp; omega)]
    have key : v.cells.zipIdx.foldl (fun cs (x : Value × Nat) => cs.setIfInBounds (i0 * sz + x.2) x.1) (pre ++ rest).toArray = (pre ++ u ++ rest.drop sz).toArray := by
      rw [← Array.foldl_toList, Array.toList_zipIdx, h1]
      obtain ⟨g1, g2⟩ := Great.foldl_set (i0 * sz) u 0 (pre ++ rest).toArray
      apply Array.ext'
      apply List.ext_getElem?
      intro k
      have g3 := g2 k
      simp only [Array.getElem?_toList]
      rw [g3]
      simp only [Nat.add_zero, List.size_toArray, List.length_append, List.getElem?_toArray]
      split
      · rename_i hc
        rw [List.append_assoc, List.getElem?_append_right (by omega), List.getElem?_append_left (by omega), ← hp]
      · rename_i hc
        by_cases hk : k < pre.length
        · rw [List.append_assoc, List.getElem?_append_left hk, List.getElem?_append_left hk]
        · rw [List.append_assoc, List.getElem?_append_right (by omega), List.getElem?_append_right (by omega)]
          by_cases hk2 : k < pre.length + sz
          · exfalso; apply hc; omega
          · rw [List.getElem?_append_right (by omega), List.getElem?_drop]
            congr 1; omega
    have ih' := ih
    rw [List.append_assoc (as := pre) (bs := u)] at key
    rw [show (v.cells.zipIdx.foldl (fun cs (x : Value × Nat) => cs.setIfInBounds (i0 * sz + x.2) x.1) (pre ++ rest).toArray) = (pre ++ u ++ rest.drop sz).toArray by rw [key, List.append_assoc]]
    rw [ih]
    simp
theorem zipIdx_of (f : Fr) : ∀ (ps : List (Nat × Operand)) (i : Nat), ps.map (·.1) = List.range' i ps.length → (ps.map fun x => (x.1, ev f x.2)) = ((ps.map fun x => ev f x.2).zipIdx i).map fun x => (x.2, x.1)
  | [], _, _ => rfl
  | p :: ps, i, h => by
    simp only [List.map_cons, List.length_cons, List.range'_succ, List.cons.injEq] at h
    simp only [List.map_cons, List.zipIdx_cons]
    rw [zipIdx_of f ps (i + 1) h.2, h.1]
/-- A slice literal, every place written. -/
theorem o_lits {t e sz bys : Nat} {z : Value} [h : Sl P t e sz bys z] {n : Nat} {parts : List (Nat × Operand)} {us : List (List Value)} (hp : parts.map (·.1) = List.range' 0 n) (hn : parts.length = n) (h0 : 0 < n) (hs : n * sz ≤ 1000000)
    (hc : CellsOf sz (parts.map fun x => ev f x.2) us)
    (hK : ∀ b w', Step [] w w' → w.heap.size ≤ b → Blk w'.heap b e us.flatten → K (putF f d (.slice (some ⟨b, 0, none⟩) n n)) w') : XO P ⟨d, .buildSlice t n parts.toArray, ty, ps, af, gd⟩ f w K := by
  obtain ⟨ie, hie, hz, hsz, _⟩ := Sl.info h
  subst hn
  have hpos := h.pos
  have hm : 0 < parts.length * sz := Nat.mul_pos h0 hpos
  have hfill : Instr.fill (fun i => some (i * ie.size, ie.size)) ((Array.range (parts.length * ie.size)).map (z.cells[· % z.cells.size]!)) (parts.toArray.map fun (i, x) => (i, ev f x)).toList = some us.flatten.toArray := by
    rw [hsz]
    have := fill_cells (parts.map fun x => ev f x.2) us 0 [] ((Array.range (parts.length * sz)).map (z.cells[· % z.cells.size]!)).toList hc (by simp) (by simp)
    simp only [List.nil_append, Array.toArray_toList] at this
    rw [← this, ← zipIdx_of f parts 0 hp]
    simp
  have hr : (execOp (ev f) ⟨d, .buildSlice t parts.length parts.toArray, ty, ps, af, gd⟩).run P w = .ok (.value (.slice (some ⟨w.heap.size, 0, none⟩) parts.length parts.length)) (w.alloc (.cells us.flatten.toArray e)) := by
    have := run_buildSlice (P := P) w t e parts.length (parts.toArray.map fun (i, x) => (i, ev f x)) us.flatten.toArray ie z h.u hie hz (by rw [hsz]; omega) (by rw [hsz]; omega) hfill
    simp only [execOp, Sem.run_bind, this, Result.andThen_ok, Sem.run_pure]
  exact xv hr (hK _ _ (Step.alloc w _) (Nat.le_refl _) (al_new w _))

/-- append onto a slice of the call's own. -/
theorem run_append_my {base t ty e : Nat} {sz bys : Nat} {z : Value} [h : Sl P t e sz bys z] {v : Value} {n : Nat} {cs : List Value} (hown : w.ownsRow base e sz v n cs)
    {a : Addr} {m c : Nat} {news : List Value} (hl : news.length = m * sz) (hnews : ∀ j u, news[j]? = some u → w.cell? (a.add j) = some u) (h1 : ∀ u ∈ news, u.oneCell' = true)
    (hb : n + m ≤ 1099511627776) (hby : bys ≤ 128) (hbase : base ≤ w.heap.size) :
    ∃ v' w', (Builtin.append_ #[t, t] ty #[v, .slice (some a) m c]).run P w = .ok v' w' ∧ w'.ownsRow base e sz v' (n + m) (cs ++ news) ∧ Step (ob v) w w' ∧ (∀ b ∈ ob v', b ∈ ob v ∨ w.heap.size ≤ b) := by
  obtain ⟨i, hi, hz, hsz, hbys⟩ := Sl.info h
  have hbytes : (n + m) * bys ≤ 140737488355328 := Nat.le_trans (Nat.mul_le_mul hb hby) (by omega)
  have h63 : n + m ≤ maxLen := by simp only [maxLen]; omega
  by_cases hg : ∃ g cap cur, v = .slice (some ⟨g, 0, none⟩) n cap ∧ w.heap[g]? = some (.cells cur e (0, 0)) ∧ n + m ≤ cap
  · obtain ⟨v', w', hr, ho, hgr, _⟩ := run_append_own (P := P) w base t ty e i z sz bys h.u hi hz hsz hbys h.zs h.pos v n cs hown a m c news hl hnews h1 h63 hbytes hbase
    refine ⟨v', w', hr, ho, by rw [ob_own]; exact Step.of_grown hgr, ?_⟩
    obtain ⟨g, cap, cur, rfl, hgg, hroom⟩ := hg
    rcases hown.2 with ⟨h2, _⟩ | ⟨g2, cap2, cur2, h2, h3, h4, h5, h6, h7, h8⟩
    · cases h2
    · cases h2
      have hfit : n * i.size + news.length ≤ cur2.size := by rw [hl, h7, hsz, ← Nat.add_mul]; exact Nat.mul_le_mul_right _ hroom
      have hr2 := run_append_room (P := P) w t ty e i h.u hi g n cap cur2 h4 a m c news (by rw [hsz]; exact hl) hnews h1 hroom hfit
      rw [hr2] at hr
      cases hr
      intro b hb'
      exact .inl hb'
  · have new : ∀ (old : Nat), old < n + m → ∀ o', o' = (Obj.cells (cs.toArray ++ news.toArray ++ Builtin.zeroCells z.cells (grownCap w (n + m) old e - (n + m))) e) →
        (w.drew.alloc o').ownsRow base e sz (.slice (some ⟨w.heap.size, 0, none⟩) (n + m) (grownCap w (n + m) old e)) (n + m) (cs ++ news) := by
      intro old ho o' ho'
      subst ho'
      have hge := grownCap_ge w (n + m) old e
      have hcm : grownCap w (n + m) old e ≤ maxLen := grownCap_le_maxLen w (n + m) old e h63
      have hlen : (cs ++ news).length = (n + m) * sz := by rw [List.length_append, hown.1, hl, Nat.add_mul]
      refine ⟨hlen, .inr ⟨w.heap.size, _, _, rfl, hbase, al_new w.drew _, hge, hcm, ?_, ?_⟩⟩
      · simp only [Array.size_append, List.size_toArray, size_zeroCells, h.zs, hown.1, hl, ← Nat.add_mul]
        congr 1; omega
      · simp only [Array.toList_append, List.append_assoc]
        rw [← List.append_assoc, ← hlen]
        exact List.take_left
    have stp : ∀ o', Step (ob v) w (w.drew.alloc o') := fun o' => ⟨rfl, rfl, rfl, by rw [al_size]; exact Nat.le_succ _, fun k hk _ => al_old w.drew o' k hk⟩
    have fin : ∀ (b : Nat), b ∈ ob (.slice (some ⟨w.heap.size, 0, none⟩) (n + m) 0) → b ∈ ob v ∨ w.heap.size ≤ b := fun b hb' => by simp [ob] at hb'; omega
    rcases hown.2 with ⟨rfl, rfl⟩ | ⟨g, cap, cur, rfl, hbg, hgg, hnc, hcm, hcs, htake⟩
    · have hx : cs = [] := List.eq_nil_of_length_eq_zero (by simpa using hown.1)
      subst hx
      by_cases hm : m = 0
      · subst hm
        have hn : news = [] := List.eq_nil_of_length_eq_zero (by simpa using hl)
        subst hn
        refine ⟨.slice none 0 0, w, ?_, own_nil _ _ _ _, Step.refl _ _, fun b hb' => by simp [ob] at hb'⟩
        simp [Builtin.append_, run_underlying h.u, sizeOf, typeInfo, hi, Builtin.lenOf, Builtin.firstCells, loadCells, loadCellsFrom]
      · have hr := run_append_nil (P := P) w t ty e i z h.u hi hz a m c news (by rw [hsz]; exact hl) hnews (by omega) (by omega) (by rw [hbys]; have hb2 := hbytes; simp only [Nat.zero_add] at hb2; omega)
        have hn := new 0 (by omega) _ rfl
        simp only [Nat.zero_add, List.nil_append, Array.empty_append] at hn ⊢
        exact ⟨_, _, hr, hn, stp _, fun b hb' => fin b hb'⟩
    · have hroom : cap < n + m := by
        rcases Nat.lt_or_ge cap (n + m) with hlt | hge
        · exact hlt
        · exact absurd ⟨g, cap, cur, rfl, hgg, hge⟩ hg
      have holds : ∀ j u, cs[j]? = some u → w.cell? ((⟨g, 0, none⟩ : Addr).add j) = some u := hown.cells (g := g) rfl
      have hr := run_append_grow (P := P) w t ty e i z h.u hi hz ⟨g, 0, none⟩ n cap cs (by rw [hsz]; exact hown.1) holds a m c news (by rw [hsz]; exact hl) hnews hroom (by omega) (growslice_fits hroom (by rw [hbys]; exact hbytes))
      exact ⟨_, _, hr, new cap hroom _ rfl, stp _, fun b hb' => fin b hb'⟩
theorem o_app {t e sz bys : Nat} {z : Value} [h : Sl P t e sz bys z] {s y : Operand} {base : Nat} {v : Value} {n : Nat} {cs : List Value} (hown : w.ownsRow base e sz v n cs) (hs : ev f s = v)
    {a : Addr} {m c : Nat} {news : List Value} (hy : ev f y = .slice (some a) m c) (hl : news.length = m * sz) {L : List Nat} (hsrc : At L w.heap a news) (h1 : ∀ u ∈ news, u.oneCell' = true)
    (hb : n + m ≤ 1099511627776) (hbase : base ≤ w.heap.size)
    (hK : ∀ v' w', w'.ownsRow base e sz v' (n + m) (cs ++ news) → Step (ob v) w w' → (∀ b ∈ ob v', b ∈ ob v ∨ w.heap.size ≤ b) → K (putF f d v') w') (hby : bys ≤ 128 := by decide) :
    XO P ⟨d, .call ⟨.builtin .append, #[s, y], #[t, t]⟩, ty, ps, af, gd⟩ f w K := by
  obtain ⟨v', w', hr, h2, h3, h4⟩ := run_append_my (P := P) (t := t) (ty := ty) hown hl hsrc.cells h1 hb hby hbase (c := c)
  have hr' : (execOp (ev f) ⟨d, .call ⟨.builtin .append, #[s, y], #[t, t]⟩, ty, ps, af, gd⟩).run P w = .ok (.value v') w' := by
    simp [execOp, resolve, invoke, builtin, hs, hy, hr]
  exact xv hr' (hK v' w' h2 h3 h4)
end

/-! ### Struct and array literals of one-cell parts -/
def bsOf (P : Program) (t : Nat) : Option (List Value × List Nat) := match P.info? t, P.underlying t with
  | some it, some (.struct fs) => match it.zero, fs.toList.mapM (fun f => (P.info? f.type).bind fun i => if i.size = 1 then some f.offset else none) with
    | some (.agg zs), some offs => some (zs.toList, offs)
    | _, _ => none
  | some it, some (.array n e) => match it.zero, P.info? e with
    | some (.agg zs), some ie => if ie.size = 1 then some (zs.toList, List.range n) else none
    | _, _ => none
  | _, _ => none
class Bs (P : Program) (t : Nat) (zs : outParam (List Value)) (offs : outParam (List Nat)) : Prop where
  h : bsOf P t = some (zs, offs)
  b : offs.all (· < zs.length) = true
def bld (offs : List Nat) (zs : List Value) : List (Nat × Value) → List Value
  | [] => zs
  | (j, v) :: ps => bld offs (zs.set (offs.getD j 0) v) ps
def OneL : List Value → Prop
  | [] => True
  | v :: vs => v.cells = [v].toArray ∧ OneL vs
theorem fill_one {place : Nat → Option (Nat × Nat)} {offs : List Nat} (hp : ∀ j, j < offs.length → place j = some (offs.getD j 0, 1)) : ∀ (ps : List (Nat × Value)) (zs : List Value), OneL (ps.map (·.2)) → ps.all (fun p => p.1 < offs.length) = true →
    (∀ o ∈ offs, o < zs.length) → Instr.fill place zs.toArray ps = some (bld offs zs ps).toArray
  | [], zs, _, _, _ => rfl
  | (j, v) :: ps, zs, h1, h2, h3 => by
    simp only [List.all_cons, Bool.and_eq_true, decide_eq_true_eq] at h2
    have hj := hp j h2.1
    have hoff : offs.getD j 0 < zs.length := h3 _ (by simp [List.getD, List.getElem?_eq_getElem h2.1])
    unfold Instr.fill
    simp only [hj]
    have hc : v.cells = #[v] := h1.1
    simp only [hc]
    rw [if_neg (by rw [show (#[v] : Array Value).size = 1 from rfl, List.size_toArray]; simp only [ne_eq, not_true, decide_false, Bool.false_or, decide_eq_true_eq]; omega)]
    have : (#[v] : Array Value).zipIdx.foldl (fun cs (x : Value × Nat) => cs.setIfInBounds (offs.getD j 0 + x.2) x.1) zs.toArray = (zs.set (offs.getD j 0) v).toArray := by
      simp [Array.zipIdx]
    rw [this]
    exact fill_one hp ps _ h1.2 h2.2 (fun o ho => by rw [List.length_set]; exact h3 o ho)
theorem bsOf_built {P : Program} {t : Nat} {zs : List Value} {offs : List Nat} (h : bsOf P t = some (zs, offs)) (hb : offs.all (· < zs.length) = true) (ps : List (Nat × Value)) (h1 : OneL (ps.map (·.2))) (h2 : ps.all (fun p => p.1 < offs.length) = true) :
    P.built t ps = some (bld offs zs ps).toArray := by
  have h3 : ∀ o ∈ offs, o < zs.length := fun o ho => by simpa using List.all_eq_true.1 hb o ho
  unfold bsOf at h
  unfold Program.built
  cases hi : P.info? t with
  | none => simp [hi] at h
  | some it =>
    cases hu : P.underlying t with
    | none => simp [hi, hu] at h
    | some dd =>
      simp only [hi, hu] at h
      cases dd <;> simp only [] at h <;> try (cases h)
      case struct fs =>
        cases hz : it.zero with
        | none => simp [hz] at h
        | some z =>
          cases z <;> simp only [hz] at h <;> try (cases h)
          rename_i za
          cases hm : fs.toList.mapM (fun f => (P.info? f.type).bind fun i => if i.size = 1 then some f.offset else none) with
          | none => simp [hm] at h
          | some offs' =>
            simp only [hm, Option.some.injEq, Prod.mk.injEq] at h
            obtain ⟨rfl, rfl⟩ := h
            have key : ∀ (l : List Field) (offs : List Nat), l.mapM (fun f => (P.info? f.type).bind fun i => if i.size = 1 then some f.offset else none) = some offs →
                l.mapM (fun f => (P.info? f.type).map fun i => (f.offset, i.size)) = some (offs.map fun o => (o, 1)) := by
              intro l
              induction l with
              | nil => intro offs h; simp at h; subst h; rfl
              | cons f l ih =>
                intro offs h
                simp only [List.mapM_cons] at h ⊢
                cases hf : P.info? f.type with
                | none => simp [hf] at h
                | some i =>
                  by_cases hs : i.size = 1
                  · simp only [hf, Option.bind_some, hs, if_true, Option.bind_eq_bind] at h
                    cases hl : l.mapM (fun f => (P.info? f.type).bind fun i => if i.size = 1 then some f.offset else none) with
                    | none => simp [hl] at h
                    | some os =>
                      simp [hl] at h
                      subst h
                      simp [ih os hl, hs]
                  · simp [hf, hs] at h
            have hm' := key _ _ hm
            simp only [hz, hm', Value.cells]
            rw [← fill_one (place := fun j => ((offs'.map fun o => (o, 1)).toArray)[j]?) (fun j hj => by simp [List.getElem?_eq_getElem hj, List.getD]) ps za.toList h1 h2 h3]
      case array n e =>
        cases hz : it.zero with
        | none => simp [hz] at h
        | some z =>
          cases z <;> simp only [hz] at h <;> try (cases h)
          rename_i za
          cases hie : P.info? e with
          | none => simp [hie] at h
          | some ie =>
            simp only [hie] at h
            split at h
            · rename_i hs
              simp only [Option.some.injEq, Prod.mk.injEq] at h
              obtain ⟨rfl, rfl⟩ := h
              simp only [hz, hie, Value.cells]
              rw [← fill_one (place := fun i => some (i * ie.size, ie.size)) (fun j hj => by simp at hj; simp [hs, List.getD, hj]) ps za.toList h1 h2 h3]
            · cases h
theorem r_build {P : Program} {f : Fr} {w : World} {d : Option Nat} {ty : Nat} {ps : String} {af : Array Edge} {gd : Option (Nat × Bool)} {t : Nat} {zs : List Value} {offs : List Nat} [h : Bs P t zs offs] {parts : List (Nat × Operand)}
    (h1 : OneL (parts.map fun x => ev f x.2)) (h2 : parts.all (fun p => p.1 < offs.length) = true := by rfl) :
    (execOp (ev f) ⟨d, .build t parts.toArray, ty, ps, af, gd⟩).run P w = .ok (.value (.agg (bld offs zs (parts.map fun x => (x.1, ev f x.2))).toArray)) w := by
  have hb := bsOf_built h.h h.b (parts.map fun x => (x.1, ev f x.2)) (by rw [List.map_map]; exact h1) (by rw [List.all_map]; exact h2)
  have hr := run_build (P := P) w t (parts.toArray.map fun (i, x) => (i, ev f x)) _ (by simpa using hb)
  simp only [execOp, Sem.run_bind, hr, Result.andThen_ok, Sem.run_pure]
end Go.Lg
