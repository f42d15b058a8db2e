/- More operations: stores, slicing, make, conversions; the quiet forms for drawn regions; automata as data. -/
import Derived.Test.YtfhgnlkdcdlblaaDoorLm
namespace Go.Lg
open Go.RowKit

section
variable {P : Program} {ops : List Oper} {K : Fr → World → Prop} {f : Fr} {w : World} {d : Option Nat} {ty : Nat} {ps : String} {af : Array Edge} {gd : Option (Nat × Bool)} {l : List Oper}
theorem setRow_blk {b T : Nat} {cs cs' : List Value} (h : Blk w.heap b T cs) : Blk (w.setRow b cs'.toArray).heap b T cs' := setRow_heap w b cs.toArray cs'.toArray T (0, 0) h
theorem take_set_drop (cs : List Value) (j : Nat) (u : Value) (h : j < cs.length) : cs.take j ++ [u] ++ cs.drop (j + 1) = cs.set j u := by
  rw [List.set_eq_take_append_cons_drop, if_pos h]; simp
/-- A store of one cell into a block of the call's own. -/
theorem o_store {t : Nat} [h1 : One P t] {x y : Operand} {b T j : Nat} {cs : List Value} {u : Value} (hB : Blk w.heap b T cs) (hx : ev f x = .pointer (some ⟨b, j, none⟩)) (hy : ev f y = u) (hj : j < cs.length) (hu : u.oneCell' = true)
    (hK : ∀ w', Step [b] w w' → Blk w'.heap b T (cs.set j u) → K (putF f d undef) w') : XO P ⟨d, .store t x y, ty, ps, af, gd⟩ f w K := by
  have hc : u.cells = #[u] := by cases u <;> first | rfl | cases hu
  have hr := run_storeCells_at P b j T [u] 0 cs.toArray w hB (by simp; omega) (by simp [hu])
  simp only [Nat.add_zero, List.length_singleton, take_set_drop cs j u hj] at hr
  refine xk (w' := w.setRow b (cs.set j u).toArray) ?_ (hK _ (Step.setRow _ _ _) (setRow_blk hB))
  simp [execOp, hx, hy, Instr.storeAt, Instr.sureAddr, storeVar, sizeOf_one, hc, hr]
def OnesL : List Value → Prop
  | [] => True
  | u :: us => u.oneCell' = true ∧ OnesL us
theorem OnesL.all : ∀ {us : List Value}, OnesL us → ∀ u ∈ us, u.oneCell' = true
  | [], _, u, hu => by cases hu
  | v :: us, h, u, hu => by
    rcases List.mem_cons.1 hu with rfl | hu
    · exact h.1
    · exact OnesL.all h.2 u hu
/-- A store of a whole struct or array. -/
theorem o_stores {t sz : Nat} [h1 : Ag P t sz] {x y : Operand} {b T : Nat} {cs us : List Value} (hB : Blk w.heap b T cs) (hx : ev f x = .pointer (some ⟨b, 0, none⟩)) (hy : ev f y = .agg us.toArray) (hl : us.length = sz) (hj : cs.length = sz) (hu : OnesL us)
    (hK : ∀ w', Step [b] w w' → Blk w'.heap b T us → K (putF f d undef) w') : XO P ⟨d, .store t x y, ty, ps, af, gd⟩ f w K := by
  have hr := run_storeCells_at P b 0 T us 0 cs.toArray w hB (by simp; omega) hu.all
  have e : (cs.take 0 ++ us ++ cs.drop us.length) = us := by rw [hl, ← hj]; simp
  simp only [Nat.add_zero, Nat.zero_add, e] at hr
  refine xk (w' := w.setRow b us.toArray) ?_ (hK _ (Step.setRow _ _ _) (setRow_blk hB))
  subst hl
  simp [execOp, hx, hy, Instr.storeAt, Instr.sureAddr, storeVar, sizeOf_ag (sz := us.length), Value.cells, hr]
theorem r_indexB {x y : Operand} {t e sz bys : Nat} {z : Value} [h : Sl P t e sz bys z] {b o n c : Nat} {k : IntKind} {i : Nat} (hx : ev f x = .slice (some ⟨b, o, none⟩) n c) (hy : ev f y = .int k i) (h1 : i < n) :
    (execOp (ev f) ⟨d, .indexAddr t x y, ty, ps, af, gd⟩).run P w = .ok (.value (.pointer (some ⟨b, o + i * sz, none⟩))) w := by
  have := r_index (P := P) (w := w) (d := d) (ty := ty) (ps := ps) (af := af) (gd := gd) (t := t) hx hy (by omega) (by omega)
  rw [lit_add'] at this
  simpa using this
/-- make([]T, n) -/
theorem o_make {t e sz bys : Nat} {z : Value} [h : Sl P t e sz bys z] {x y : Operand} {k k' : IntKind} {n : Nat} (hx : ev f x = .int k n) (hy : ev f y = .int k' n) (hn : n ≤ 1099511627776)
    (hK : ∀ b w', Step [] w w' → w.heap.size ≤ b → Blk w'.heap b e (List.replicate n z.cells.toList).flatten → K (putF f d (.slice (some ⟨b, 0, none⟩) n n)) w') (hby : bys ≤ 128 := by decide) :
    XO P ⟨d, .makeSlice t x y, ty, ps, af, gd⟩ f w K := by
  obtain ⟨i, hi, hz, hsz, hbys⟩ := Sl.info h
  have hb : i.bytes * n ≤ 281474976710656 := by
    rw [hbys]; exact Nat.le_trans (Nat.mul_le_mul hby hn) (by omega)
  have hb' : (i.bytes : Int) * (n : Int) ≤ 281474976710656 := by
    have h : ((i.bytes * n : Nat) : Int) ≤ 281474976710656 := by omega
    rwa [Int.natCast_mul] at h
  have hr := run_make (P := P) w t e i z h.u hi hz k k' n n (by omega) (Int.le_refl _) hb' (by omega)
  simp only [Int.toNat_natCast] at hr
  have hcells : madeCells z.cells (n * i.size) = (List.replicate n z.cells.toList).flatten.toArray := by
    have hzs : z.cells.size = i.size := by rw [h.zs, hsz]
    have hpos : 0 < z.cells.size := by rw [h.zs]; exact h.pos
    apply Array.ext'
    apply List.ext_getElem?
    intro j
    simp only [madeCells, ← hzs, Array.toList_map, Array.toList_range, List.getElem?_map]
    have hlen : ∀ n, (List.replicate n z.cells.toList).flatten.length = n * z.cells.size := fun n => by simp
    have key : ∀ n j, j < n * z.cells.size → (List.replicate n z.cells.toList).flatten[j]? = some z.cells[j % z.cells.size]! := by
      intro n
      induction n with
      | zero => intro j hj; omega
      | succ n ih =>
        intro j hj
        rw [List.replicate_succ, List.flatten_cons]
        by_cases hlt : j < z.cells.size
        · rw [List.getElem?_append_left (by simpa using hlt), Nat.mod_eq_of_lt hlt]
          simp [hlt]
        · rw [List.getElem?_append_right (by simp; omega)]
          have := ih (j - z.cells.size) (by rw [Nat.add_mul] at hj; omega)
          rw [Array.length_toList, this]
          rw [← Nat.mod_eq_sub_mod (by omega)]
    by_cases hj : j < n * z.cells.size
    · rw [key n j hj]; simp [hj]
    · rw [List.getElem?_eq_none (by simpa using Nat.le_of_not_lt hj), List.getElem?_eq_none (by rw [hlen]; omega)]; rfl
  rw [hcells] at hr
  refine xv (w' := w.alloc (.cells (List.replicate n z.cells.toList).flatten.toArray e)) (v := .slice (some ⟨w.heap.size, 0, none⟩) n n) ?_ (hK _ _ (Step.alloc w _) (Nat.le_refl _) (al_new w _))
  simp [execOp, hx, hy, hr]

/-! slicing -/
theorem run_sliceBound {k : IntKind} {i y : Nat} {c : BoundsCode} (h : i ≤ y) : (Instr.sliceBound (.int k i) y c).run P w = .ok i w := by
  simp [Instr.sliceBound, asIntOf, h]
theorem Arr.cut {L : List Nat} {H : Array Obj} {a : Addr} {n cap sz : Nat} {cs : List Value} (h : Arr L H (.slice (some a) n cap) n sz cs) {lo hi : Nat} (h1 : lo ≤ hi) (h2 : hi ≤ n) :
    Arr L H (.slice (if cap = lo then some a else some (a.add (lo * sz))) (hi - lo) (cap - lo)) (hi - lo) sz ((cs.drop (lo * sz)).take ((hi - lo) * sz)) := by
  obtain ⟨h3, h4, h5⟩ := h
  rcases h5 with ⟨h6, _⟩ | ⟨a', cap', h6, h7, h8⟩
  · cases h6
  · cases h6
    refine ⟨?_, by omega, .inr ?_⟩
    · simp only [List.length_take, List.length_drop, h3, ← Nat.sub_mul]
      rw [Nat.min_eq_left]; exact Nat.mul_le_mul_right _ (by omega)
    · split
      · rename_i hc
        have : hi - lo = 0 := by omega
        refine ⟨a, cap - lo, by rw [this], by omega, h8.out, h8.lt, fun j u hu => ?_⟩
        simp [this] at hu
      · refine ⟨a.add (lo * sz), cap - lo, rfl, by omega, by rw [add_block]; exact h8.out, by rw [add_block]; exact h8.lt, fun j u hu => ?_⟩
        rw [Addr.add_add]
        rw [List.getElem?_take] at hu
        split at hu
        · exact h8.cell _ u (by simpa using hu)
        · cases hu
/-- s[lo:hi], both given -/
theorem r_slice {t e sz bys : Nat} {z : Value} [h : Sl P t e sz bys z] {x y1 y2 : Operand} {L : List Nat} {v : Value} {n : Nat} {cs : List Value} {H : Array Obj} {k k' : IntKind} {lo hi : Nat} (hA : Arr L H v n sz cs) (hx : ev f x = v) (hl : ev f y1 = .int k lo) (hh : ev f y2 = .int k' hi)
    (h1 : lo ≤ hi) (h2 : hi ≤ n) : ∃ v', Arr L H v' (hi - lo) sz ((cs.drop (lo * sz)).take ((hi - lo) * sz)) ∧ ∀ w, (execOp (ev f) ⟨d, .slice t x (some y1) (some y2) none, ty, ps, af, gd⟩).run P w = .ok (.value v') w := by
  obtain ⟨i, hi', _, hsz, _⟩ := Sl.info h
  rcases hA.2.2 with ⟨hv, hn⟩ | ⟨a, cap, hv, hc, hat⟩
  · have e1 : hi = 0 := by omega
    have e2 : lo = 0 := by omega
    subst e1 e2
    refine ⟨.slice none 0 0, ⟨by simp, by omega, .inl ⟨rfl, rfl⟩⟩, fun w => ?_⟩
    simp [execOp, hx, hv, hl, hh, Instr.sliceAt, Instr.slice, run_underlying h.u, Instr.sliceBounds, Instr.sliceBound, asIntOf, sizeOf, typeInfo, hi']
  · subst hv
    refine ⟨_, hA.cut h1 h2, fun w => ?_⟩
    have e1 : (Instr.sliceBound (.int k' hi) cap .sliceAcap).run P w = .ok hi w := run_sliceBound (by omega)
    have e2 : (Instr.sliceBound (.int k lo) hi .sliceB).run P w = .ok lo w := run_sliceBound (by omega)
    simp [execOp, hx, hl, hh, Instr.sliceAt, Instr.slice, run_underlying h.u, Instr.sliceBounds, e1, e2, sizeOf, typeInfo, hi', hsz]
/-- s[lo:] -/
theorem r_sliceL {t e sz bys : Nat} {z : Value} [h : Sl P t e sz bys z] {x y1 : Operand} {L : List Nat} {v : Value} {n : Nat} {cs : List Value} {H : Array Obj} {k : IntKind} {lo : Nat} (hA : Arr L H v n sz cs) (hx : ev f x = v) (hl : ev f y1 = .int k lo)
    (h1 : lo ≤ n) : ∃ v', Arr L H v' (n - lo) sz (cs.drop (lo * sz)) ∧ ∀ w, (execOp (ev f) ⟨d, .slice t x (some y1) none none, ty, ps, af, gd⟩).run P w = .ok (.value v') w := by
  obtain ⟨i, hi', _, hsz, _⟩ := Sl.info h
  rcases hA.2.2 with ⟨hv, hn⟩ | ⟨a, cap, hv, hc, hat⟩
  · have e2 : lo = 0 := by omega
    subst e2 hn
    have : cs = [] := List.eq_nil_of_length_eq_zero (by simpa using hA.1)
    subst this
    refine ⟨.slice none 0 0, ⟨by simp, by omega, .inl ⟨rfl, rfl⟩⟩, fun w => ?_⟩
    simp [execOp, hx, hv, hl, Instr.sliceAt, Instr.slice, run_underlying h.u, Instr.sliceBounds, Instr.sliceBound, asIntOf, sizeOf, typeInfo, hi']
  · subst hv
    have hcut := hA.cut h1 (Nat.le_refl n)
    have e : (cs.drop (lo * sz)).take ((n - lo) * sz) = cs.drop (lo * sz) := List.take_of_length_le (by rw [List.length_drop, hA.1, ← Nat.sub_mul]; exact Nat.le_refl _)
    rw [e] at hcut
    refine ⟨_, hcut, fun w => ?_⟩
    have e2 : (Instr.sliceBound (.int k lo) n .sliceB).run P w = .ok lo w := run_sliceBound h1
    simp [execOp, hx, hl, Instr.sliceAt, Instr.slice, run_underlying h.u, Instr.sliceBounds, e2, sizeOf, typeInfo, hi', hsz]
/-- s[:hi] -/
theorem r_sliceH {t e sz bys : Nat} {z : Value} [h : Sl P t e sz bys z] {x y2 : Operand} {L : List Nat} {v : Value} {n : Nat} {cs : List Value} {H : Array Obj} {k : IntKind} {hi : Nat} (hA : Arr L H v n sz cs) (hx : ev f x = v) (hh : ev f y2 = .int k hi)
    (h1 : hi ≤ n) : ∃ v', Arr L H v' hi sz (cs.take (hi * sz)) ∧ ∀ w, (execOp (ev f) ⟨d, .slice t x none (some y2) none, ty, ps, af, gd⟩).run P w = .ok (.value v') w := by
  obtain ⟨i, hi', _, hsz, _⟩ := Sl.info h
  rcases hA.2.2 with ⟨hv, hn⟩ | ⟨a, cap, hv, hc, hat⟩
  · have e2 : hi = 0 := by omega
    subst e2
    refine ⟨.slice none 0 0, ⟨by simp, by omega, .inl ⟨rfl, rfl⟩⟩, fun w => ?_⟩
    simp [execOp, hx, hv, hh, Instr.sliceAt, Instr.slice, run_underlying h.u, Instr.sliceBounds, Instr.sliceBound, asIntOf, sizeOf, typeInfo, hi']
  · subst hv
    have hcut := hA.cut (Nat.zero_le hi) h1
    simp only [Nat.zero_mul, List.drop_zero, Nat.sub_zero] at hcut
    refine ⟨_, hcut, fun w => ?_⟩
    have e2 : (Instr.sliceBound (.int k hi) cap .sliceAcap).run P w = .ok hi w := run_sliceBound (by omega)
    simp [execOp, hx, hh, Instr.sliceAt, Instr.slice, run_underlying h.u, Instr.sliceBounds, e2, sizeOf, typeInfo, hi']
end

/-! ### Quiet forms, for a drawn region whose worlds are steps from w0 -/
section
variable {P : Program} {ops : List Oper} {K : Fr → World → Prop} {C : World → Prop} {f : Fr} {w w0 : World} {d : Option Nat} {ty : Nat} {ps : String} {af : Array Edge} {gd : Option (Nat × Bool)} {pl : List (Nat × Bool)} {i0 : Nat}
theorem pi {x y : Operand} {t e sz bys : Nat} {z : Value} [Sl P t e sz bys z] {L : List Nat} {n : Nat} {cs : List Value} {v : Value} {H : Array Obj} {k : IntKind} {i : Nat}
    (ho : opAt ops i0 = ⟨d, .indexAddr t x y, ty, ps, af, gd⟩) (h : Arr L H v n sz cs) (hv : ev f x = v) (hy : ev f y = .int k i) (hi : i < n)
    (hK : ∀ a, At L H a ((cs.drop (i * sz)).take sz) → XP P ops C K pl (putF f d (.pointer (some a))) w) (hg : gdF ops f (opAt ops i0) = true := by rfl) :
    XP P ops C K ((i0, true) :: pl) f w := by
  obtain ⟨a, cap, h1, h2⟩ := h.at hi
  refine Lg.p (fun w' => by rw [ho]; exact r_index (hv.trans h1) hy (by omega) (by omega)) ?_ hg
  rw [ho]
  refine hK _ ?_
  simpa using h2
theorem pii {x y : Operand} {t e bys : Nat} {z : Value} [Sl P t e 1 bys z] {L : List Nat} {li : List Int} {v : Value} {H : Array Obj} {k : IntKind} {i : Nat}
    (ho : opAt ops i0 = ⟨d, .indexAddr t x y, ty, ps, af, gd⟩) (h : Ints L H v li) (hv : ev f x = v) (hy : ev f y = .int k i) (hi : i < li.length)
    (hK : ∀ a, At L H a [.int .i64 li[i]] → XP P ops C K pl (putF f d (.pointer (some a))) w) (hg : gdF ops f (opAt ops i0) = true := by rfl) :
    XP P ops C K ((i0, true) :: pl) f w := by
  obtain ⟨a, cap, h1, h2⟩ := Ints.at h hi
  refine Lg.p (fun w' => by rw [ho]; exact r_index (hv.trans h1) hy (by omega) (by omega)) ?_ hg
  rw [ho]
  refine hK _ ?_
  simpa using h2
end

/-! ### Edges and automata -/
abbrev Ed := Int × Int × Int
def edCells (e : Ed) : List Value := [.int .i64 e.1, .int .i64 e.2.1, .int .i64 e.2.2]
abbrev Eds (L : List Nat) (H : Array Obj) (v : Value) (es : List Ed) : Prop := Arr L H v es.length 3 (es.flatMap edCells)
theorem flat_at {α : Type} (g : α → List Value) (sz : Nat) (hg : ∀ x, (g x).length = sz) : ∀ (l : List α) (i : Nat) (h : i < l.length), ((l.flatMap g).drop (i * sz)).take sz = g l[i]
  | x :: l, 0, _ => by simp [hg]
  | x :: l, i + 1, h => by
    have := flat_at g sz hg l i (by simpa using h)
    simp only [List.flatMap_cons, List.getElem_cons_succ]
    rw [← this, Nat.add_mul, Nat.one_mul, Nat.add_comm, List.drop_append, hg]
    simp [Nat.add_sub_cancel_left, List.drop_eq_nil_of_le, hg]
theorem flat_len {α : Type} (g : α → List Value) (sz : Nat) (hg : ∀ x, (g x).length = sz) (l : List α) : (l.flatMap g).length = l.length * sz := by
  induction l with
  | nil => simp
  | cons x l ih => simp [ih, hg, Nat.add_mul, Nat.add_comm]
theorem edCells_len (e : Ed) : (edCells e).length = 3 := rfl
/-- An automaton as plain data. -/
structure Aut where
  al : List Int
  st : Int
  mr : List Int
  ed : List Ed
structure AutA (L : List Nat) (H : Array Obj) (va vm ve : Value) (a : Aut) : Prop where
  al : Ints L H va a.al
  mr : Ints L H vm a.mr
  ed : Eds L H ve a.ed
/-- The value v is the automaton a. -/
def AutV (L : List Nat) (H : Array Obj) (v : Value) (a : Aut) : Prop := ∃ va vm ve, v = .agg #[va, .int .i64 a.st, vm, ve] ∧ AutA L H va vm ve a
theorem AutA.ext {L : List Nat} {w w' : World} {va vm ve : Value} {a : Aut} (h : AutA L w.heap va vm ve a) (hs : Step [] w w') : AutA L w'.heap va vm ve a := ⟨h.al.ext hs, h.mr.ext hs, h.ed.ext hs⟩
theorem AutA.st {L : List Nat} {w w' : World} {va vm ve : Value} {a : Aut} (h : AutA L w.heap va vm ve a) (hs : Step L w w') : AutA L w'.heap va vm ve a := ⟨h.al.st hs, h.mr.st hs, h.ed.st hs⟩
theorem AutA.up {L L' : List Nat} {H : Array Obj} {va vm ve : Value} {a : Aut} (h : AutA L H va vm ve a) (hL : ∀ b ∈ L', b ∈ L ∨ H.size ≤ b) : AutA L' H va vm ve a := ⟨h.al.up hL, h.mr.up hL, h.ed.up hL⟩
theorem AutA.v {L : List Nat} {H : Array Obj} {va vm ve : Value} {a : Aut} (h : AutA L H va vm ve a) : AutV L H (.agg #[va, .int .i64 a.st, vm, ve]) a := ⟨va, vm, ve, rfl, h⟩
theorem AutV.ext {L : List Nat} {w w' : World} {v : Value} {a : Aut} (h : AutV L w.heap v a) (hs : Step [] w w') : AutV L w'.heap v a := let ⟨va, vm, ve, h1, h2⟩ := h; ⟨va, vm, ve, h1, h2.ext hs⟩
theorem AutV.st {L : List Nat} {w w' : World} {v : Value} {a : Aut} (h : AutV L w.heap v a) (hs : Step L w w') : AutV L w'.heap v a := let ⟨va, vm, ve, h1, h2⟩ := h; ⟨va, vm, ve, h1, h2.st hs⟩
theorem AutV.up {L L' : List Nat} {H : Array Obj} {v : Value} {a : Aut} (h : AutV L H v a) (hL : ∀ b ∈ L', b ∈ L ∨ H.size ≤ b) : AutV L' H v a := let ⟨va, vm, ve, h1, h2⟩ := h; ⟨va, vm, ve, h1, h2.up hL⟩

/-! ### Small things -/
section
variable {P : Program} {f : Fr} {w : World} {d : Option Nat} {ty : Nat} {ps : String} {af : Array Edge} {gd : Option (Nat × Bool)}
class Ik (P : Program) (t : Nat) (k : outParam IntKind) : Prop where
  u : P.underlying t = some (.int k)
theorem r_conv {t t' : Nat} {k k' : IntKind} [h : Ik P t k] [h' : Ik P t' k'] {x : Operand} {n : Int} {k0 : IntKind} (hx : ev f x = .int k0 n) (hn : inK k' n) :
    (execOp (ev f) ⟨d, .convert t t' x, ty, ps, af, gd⟩).run P w = .ok (.value (.int k' n)) w := by
  simp [execOp, hx, convert, run_underlying h.u, run_underlying h'.u, Conv.intToInt, wrap_in hn]
theorem r_min {x y : Operand} {a b : Int} {k : IntKind} {ts : Array Nat} (hx : ev f x = .int k a) (hy : ev f y = .int k b) :
    (execOp (ev f) ⟨d, .call ⟨.builtin .min, #[x, y], ts⟩, ty, ps, af, gd⟩).run P w = .ok (.value (.int k (min a b))) w := by
  simp [execOp, resolve, invoke, builtin, Builtin.min_, Builtin.min2, hx, hy]; split <;> omega
theorem r_max {x y : Operand} {a b : Int} {k : IntKind} {ts : Array Nat} (hx : ev f x = .int k a) (hy : ev f y = .int k b) :
    (execOp (ev f) ⟨d, .call ⟨.builtin .max, #[x, y], ts⟩, ty, ps, af, gd⟩).run P w = .ok (.value (.int k (max a b))) w := by
  simp [execOp, resolve, invoke, builtin, Builtin.max_, Builtin.max2, hx, hy]; split <;> omega
class Bk (P : Program) (t : Nat) : Prop where
  u : P.underlying t = some .bool
theorem r_eql_bool {t t' : Nat} [h : Bk P t] {x y : Operand} {a b : Bool} (hx : ev f x = .bool a) (hy : ev f y = .bool b) :
    (execOp (ev f) ⟨d, .binOp .eql t x y t', ty, ps, af, gd⟩).run P w = .ok (.value (.bool (a == b))) w := by
  have hg : (eqGuard .eql t x y (.bool a) (.bool b)).run P w = .ok () w := by simp [eqGuard]
  simp [execOp, hx, hy, hg, run_eql_bool (P := P) (w := w) t a b h.u]
end
theorem drop_cons {α : Type} {l : List α} {k : Nat} (h : k < l.length) : l.drop k = l[k] :: l.drop (k + 1) := List.drop_eq_getElem_cons h

/-! ### Elements of edges -/
theorem Eds.at {L : List Nat} {H : Array Obj} {v : Value} {es : List Ed} (h : Eds L H v es) {i : Nat} (hi : i < es.length) :
    ∃ a cap, v = .slice (some a) es.length cap ∧ At L H (a.add (i * 3)) (edCells es[i]) := by
  obtain ⟨a, cap, h1, h2⟩ := Arr.at h hi
  rw [flat_at edCells 3 edCells_len es i hi] at h2
  exact ⟨a, cap, h1, h2⟩
section
variable {P : Program} {ops : List Oper} {K : Fr → World → Prop} {f : Fr} {w : World} {d : Option Nat} {ty : Nat} {ps : String} {af : Array Edge} {gd : Option (Nat × Bool)} {l : List Oper} {C : World → Prop} {pl : List (Nat × Bool)} {i0 : Nat}
theorem xie {x y : Operand} {t e bys : Nat} {z : Value} [Sl P t e 3 bys z] {L : List Nat} {es : List Ed} {v : Value} {k : IntKind} {i : Nat}
    (h : Eds L w.heap v es) (hv : ev f x = v) (hy : ev f y = .int k i) (hi : i < es.length)
    (hK : ∀ a, At L w.heap a (edCells es[i]) → XL P ops K l (putF f d (.pointer (some a))) w) (hg : gdF ops f ⟨d, .indexAddr t x y, ty, ps, af, gd⟩ = true := by rfl) :
    XL P ops K (⟨d, .indexAddr t x y, ty, ps, af, gd⟩ :: l) f w := by
  obtain ⟨a, cap, h1, h2⟩ := Eds.at h hi
  refine xl hg (xv (r_index (hv.trans h1) hy (by omega) (by omega)) (hK _ ?_))
  simpa using h2
theorem pie {x y : Operand} {t e bys : Nat} {z : Value} [Sl P t e 3 bys z] {L : List Nat} {es : List Ed} {v : Value} {H : Array Obj} {k : IntKind} {i : Nat}
    (ho : opAt ops i0 = ⟨d, .indexAddr t x y, ty, ps, af, gd⟩) (h : Eds L H v es) (hv : ev f x = v) (hy : ev f y = .int k i) (hi : i < es.length)
    (hK : ∀ a, At L H a (edCells es[i]) → XP P ops C K pl (putF f d (.pointer (some a))) w) (hg : gdF ops f (opAt ops i0) = true := by rfl) :
    XP P ops C K ((i0, true) :: pl) f w := by
  obtain ⟨a, cap, h1, h2⟩ := Eds.at h hi
  refine Lg.p (fun w' => by rw [ho]; exact r_index (hv.trans h1) hy (by omega) (by omega)) ?_ hg
  rw [ho]
  refine hK _ ?_
  simpa using h2
end

section
variable {P : Program} {f : Fr} {w : World} {d : Option Nat} {ty : Nat} {ps : String} {af : Array Edge} {gd : Option (Nat × Bool)}
theorem r_shr {t t' : Nat} {x y : Operand} {k k' : IntKind} {a : Int} {n : Nat} (hx : ev f x = .int k a) (hy : ev f y = .int k' n) (hn : n ≤ k.bits) :
    (execOp (ev f) ⟨d, .binOp .shr t x y t', ty, ps, af, gd⟩).run P w = .ok (.value (.int k (a / 2 ^ n))) w := by
  refine r_bin hx hy ?_
  have h1 : ¬ ((n : Int) < 0) := by omega
  simp only [binOp, Op.shift, h1, if_false, Int.toNat_natCast, Nat.min_eq_left hn, Sem.run_pure]
  rw [Int.fdiv_eq_ediv_of_nonneg _ (Int.le_of_lt (Int.pow_pos (by decide)))]
/-- A struct of three ints, compared. -/
class S3 (P : Program) (t : Nat) : Prop where
  u : ∃ f0 f1 f2, P.underlying t = some (.struct #[f0, f1, f2]) ∧ f0.name ≠ "_" ∧ f1.name ≠ "_" ∧ f2.name ≠ "_" ∧ f0.offset = 0 ∧ f1.offset = 1 ∧ f2.offset = 2 ∧
    P.underlying f0.type = some (.int .i64) ∧ P.underlying f1.type = some (.int .i64) ∧ P.underlying f2.type = some (.int .i64)
  s : P.stoodInHeld t = false
  g : P.eqGuardType P.depth t = false
theorem run_equal_s3 {t : Nat} [h : S3 P t] (w : World) (p q : Ed) : (Op.equal t (.agg (edCells p).toArray) (.agg (edCells q).toArray)).run P w = .ok (decide (p = q)) w := by
  obtain ⟨a, b, c⟩ := p
  obtain ⟨a', b', c'⟩ := q
  obtain ⟨f0, f1, f2, hu, n0, n1, n2, o0, o1, o2, u0, u1, u2⟩ := h.u
  have hag : ∀ e w, P.underlying e = some (.int .i64) → (isAgg e).run P w = .ok false w := fun e w he => by simp [isAgg, run_underlying he]
  have hp : ∀ e (x y z : Int) (w : World), P.underlying e = some (.int .i64) → (part e #[.int .i64 x, .int .i64 y, .int .i64 z] 0).run P w = .ok (.int .i64 x) w := fun e x y z w he => by simp [part, hag e w he]
  have hp1 : ∀ e (x y z : Int) (w : World), P.underlying e = some (.int .i64) → (part e #[.int .i64 x, .int .i64 y, .int .i64 z] 1).run P w = .ok (.int .i64 y) w := fun e x y z w he => by simp [part, hag e w he]
  have hp2 : ∀ e (x y z : Int) (w : World), P.underlying e = some (.int .i64) → (part e #[.int .i64 x, .int .i64 y, .int .i64 z] 2).run P w = .ok (.int .i64 z) w := fun e x y z w he => by simp [part, hag e w he]
  have heq : ∀ e (m : Nat) (x y : Int) (w : World), P.underlying e = some (.int .i64) → (Op.equalIn (m + 1) e (.int .i64 x) (.int .i64 y)).run P w = .ok (x == y) w := fun e m x y w he => by simp [Op.equalIn, run_underlying he]
  have key : ∀ m, (Op.equalIn (m + 2) t (.agg (edCells (a, b, c)).toArray) (.agg (edCells (a', b', c')).toArray)).run P w = .ok (decide ((a, b, c) = (a', b', c'))) w := by
    intro m
    simp only [edCells]
    unfold Op.equalIn
    simp only [Sem.run_bind, run_underlying hu, Result.andThen_ok]
    by_cases e1 : a = a'
    · subst e1
      by_cases e2 : b = b'
      · subst e2
        by_cases e3 : c = c'
        · subst e3; simp [h.s, n0, n1, n2, o0, o1, o2, hp _ _ _ _ _ u0, hp1 _ _ _ _ _ u1, hp2 _ _ _ _ _ u2, heq _ _ _ _ _ u0, heq _ _ _ _ _ u1, heq _ _ _ _ _ u2]
        · simp [h.s, n0, n1, n2, o0, o1, o2, hp _ _ _ _ _ u0, hp1 _ _ _ _ _ u1, hp2 _ _ _ _ _ u2, heq _ _ _ _ _ u0, heq _ _ _ _ _ u1, heq _ _ _ _ _ u2, e3]
      · simp [h.s, n0, n1, o0, o1, hp _ _ _ _ _ u0, hp1 _ _ _ _ _ u1, heq _ _ _ _ _ u0, heq _ _ _ _ _ u1, e2]
    · simp [h.s, n0, o0, hp _ _ _ _ _ u0, heq _ _ _ _ _ u0, e1]
  exact key 9998
theorem r_neq_struct {t t' : Nat} [h : S3 P t] {x y : Operand} {p q : Ed} (hx : ev f x = .agg (edCells p).toArray) (hy : ev f y = .agg (edCells q).toArray) :
    (execOp (ev f) ⟨d, .binOp .neq t x y t', ty, ps, af, gd⟩).run P w = .ok (.value (.bool (decide (¬ p = q)))) w := by
  have hg : (eqGuard .neq t x y (.agg (edCells p).toArray) (.agg (edCells q).toArray)).run P w = .ok () w := by simp [eqGuard, h.g]
  simp only [execOp, hx, hy, Sem.run_bind, hg, Result.andThen_ok, binOp, run_equal_s3, Sem.run_pure]
  by_cases e : p = q <;> simp [e]
end

theorem Step.then1 {L : List Nat} {w0 w w' : World} {b : Nat} (h : Step L w0 w) (k : Step [b] w w') (hb : w0.heap.size ≤ b) : Step L w0 w' := h.then k (fun c hc => .inr (by simp at hc; omega))

section
variable {P : Program} {K : Fr → World → Prop} {f : Fr} {w : World} {d : Option Nat} {ty : Nat} {ps : String} {af : Array Edge} {gd : Option (Nat × Bool)}
/-- s == nil -/
theorem r_eqnil {t t' e sz bys : Nat} {z : Value} [h : Sl P t e sz bys z] {x y : Operand} {a : Option Addr} {n c : Nat} (hx : ev f x = .slice a n c) (hy : ev f y = .slice none 0 0) :
    (execOp (ev f) ⟨d, .binOp .eql t x y t', ty, ps, af, gd⟩).run P w = .ok (.value (.bool a.isNone)) w := by
  have hg : (eqGuard .eql t x y (.slice a n c) (.slice none 0 0)).run P w = .ok () w := by simp [eqGuard]
  have key : ∀ m, (Op.equalIn (m + 1) t (.slice a n c) (.slice none 0 0)).run P w = .ok a.isNone w := by
    intro m
    unfold Op.equalIn
    cases a <;> simp [run_underlying h.u]
  have he : (Op.equal t (.slice a n c) (.slice none 0 0)).run P w = .ok a.isNone w := key 9999
  simp only [execOp, hx, hy, Sem.run_bind, hg, Result.andThen_ok, binOp, he, Sem.run_pure]
/-- []T{} -/
theorem o_lit0 {t e sz bys : Nat} {z : Value} [h : Sl P t e sz bys z]
    (hK : ∀ b w', Step [] w w' → w.heap.size ≤ b → Blk w'.heap b e [] → K (putF f d (.slice (some ⟨b, 0, none⟩) 0 0)) w') : XO P ⟨d, .buildSlice t 0 #[], ty, ps, af, gd⟩ f w K := by
  obtain ⟨ie, hie, hz, hsz, _⟩ := Sl.info h
  have hr : (execOp (ev f) ⟨d, .buildSlice t 0 #[], ty, ps, af, gd⟩).run P w = .ok (.value (.slice (some ⟨w.heap.size, 0, none⟩) 0 0)) (w.alloc (.cells #[] e)) := by
    simp [execOp, Instr.buildSlice, run_underlying h.u, sizeOf, typeInfo, hie, Instr.fill, newRow]
    have e0 : Array.map (fun _ => (default : Value)) (Array.range 0) = #[] := by apply Array.ext'; simp
    rw [e0]
  exact xv hr (hK _ _ (Step.alloc w _) (Nat.le_refl _) (al_new w _))
end
/-- A slice of ints of the call's own, from block base on (e: the type int). -/
abbrev IntsO (e base : Nat) (w : World) (v : Value) (l : List Int) : Prop := w.ownsRow base e 1 v l.length (l.map (.int .i64))
theorem IntsO.ints {e base : Nat} {w : World} {v : Value} {l : List Int} {L : List Nat} (h : IntsO e base w v l) (hn : l.length ≤ 1099511627776) (hL : ∀ b ∈ L, b < base) : Ints L w.heap v l :=
  own_arr h hn (fun b hb hbL => by have := (own_ge h b hb).1; have := hL b hbL; omega)
theorem one_ints (l : List Int) : ∀ u ∈ l.map (Value.int .i64), u.oneCell' = true := by
  intro u hu; obtain ⟨n, _, rfl⟩ := List.mem_map.1 hu; rfl

section
variable {P : Program} {ops : List Oper} {K : Fr → World → Prop} {f : Fr} {w : World} {d : Option Nat} {ty : Nat} {ps : String} {af : Array Edge} {gd : Option (Nat × Bool)} {l : List Oper} {C : World → Prop} {pl : List (Nat × Bool)} {i0 : Nat}
  {t e sz bys : Nat} {z : Value} {x y1 y2 : Operand} {L : List Nat} {v : Value} {n : Nat} {cs : List Value} {H : Array Obj} {k k' : IntKind} {lo hi : Nat}
theorem pslL [h : Sl P t e sz bys z] (ho : opAt ops i0 = ⟨d, .slice t x (some y1) none none, ty, ps, af, gd⟩) (hA : Arr L H v n sz cs) (hx : ev f x = v) (hl : ev f y1 = .int k lo) (h1 : lo ≤ n) (hK : ∀ v', Arr L H v' (n - lo) sz (cs.drop (lo * sz)) → XP P ops C K pl (putF f d v') w)
    (hg : gdF ops f (opAt ops i0) = true := by rfl) : XP P ops C K ((i0, true) :: pl) f w := by
  obtain ⟨v', h2, h3⟩ := r_sliceL (P := P) (d := d) (ty := ty) (ps := ps) (af := af) (gd := gd) (t := t) hA hx hl h1
  exact Lg.p (fun w' => by rw [ho]; exact h3 w') (by rw [ho]; exact hK v' h2) hg
theorem xslL [h : Sl P t e sz bys z] (hA : Arr L H v n sz cs) (hx : ev f x = v) (hl : ev f y1 = .int k lo) (h1 : lo ≤ n) (hK : ∀ v', Arr L H v' (n - lo) sz (cs.drop (lo * sz)) → XL P ops K l (putF f d v') w)
    (hg : gdF ops f ⟨d, .slice t x (some y1) none none, ty, ps, af, gd⟩ = true := by rfl) : XL P ops K (⟨d, .slice t x (some y1) none none, ty, ps, af, gd⟩ :: l) f w := by
  obtain ⟨v', h2, h3⟩ := r_sliceL (P := P) (d := d) (ty := ty) (ps := ps) (af := af) (gd := gd) (t := t) hA hx hl h1
  exact xl hg (xv (h3 w) (hK v' h2))
theorem xslB [h : Sl P t e sz bys z] (hA : Arr L H v n sz cs) (hx : ev f x = v) (hl : ev f y1 = .int k lo) (hh : ev f y2 = .int k' hi) (h1 : lo ≤ hi) (h2 : hi ≤ n) (hK : ∀ v', Arr L H v' (hi - lo) sz ((cs.drop (lo * sz)).take ((hi - lo) * sz)) → XL P ops K l (putF f d v') w)
    (hg : gdF ops f ⟨d, .slice t x (some y1) (some y2) none, ty, ps, af, gd⟩ = true := by rfl) : XL P ops K (⟨d, .slice t x (some y1) (some y2) none, ty, ps, af, gd⟩ :: l) f w := by
  obtain ⟨v', h3, h4⟩ := r_slice (P := P) (d := d) (ty := ty) (ps := ps) (af := af) (gd := gd) (t := t) hA hx hl hh h1 h2
  exact xl hg (xv (h4 w) (hK v' h3))
theorem xslH [h : Sl P t e sz bys z] (hA : Arr L H v n sz cs) (hx : ev f x = v) (hh : ev f y2 = .int k hi) (h1 : hi ≤ n) (hK : ∀ v', Arr L H v' hi sz (cs.take (hi * sz)) → XL P ops K l (putF f d v') w)
    (hg : gdF ops f ⟨d, .slice t x none (some y2) none, ty, ps, af, gd⟩ = true := by rfl) : XL P ops K (⟨d, .slice t x none (some y2) none, ty, ps, af, gd⟩ :: l) f w := by
  obtain ⟨v', h2, h3⟩ := r_sliceH (P := P) (d := d) (ty := ty) (ps := ps) (af := af) (gd := gd) (t := t) hA hx hh h1
  exact xl hg (xv (h3 w) (hK v' h2))
end
theorem Ints.drop {L : List Nat} {H : Array Obj} {v : Value} {l : List Int} {lo : Nat} (h : Arr L H v (l.length - lo) 1 ((l.map (Value.int .i64)).drop (lo * 1))) : Ints L H v (l.drop lo) := by
  rw [Nat.mul_one, ← List.map_drop] at h
  have e : (l.drop lo).length = l.length - lo := List.length_drop
  unfold Ints
  rw [e]; exact h
theorem IntsO.snoc {e base : Nat} {w : World} {v : Value} {l : List Int} {n : Int} (h : w.ownsRow base e 1 v (l.length + 1) (l.map (Value.int .i64) ++ [.int .i64 n])) : IntsO e base w v (l ++ [n]) := by
  unfold IntsO
  rw [List.length_append, List.map_append]; exact h

/-! ### Several slices of the call's own -/
def Dj (u v : Value) : Prop := ∀ b ∈ ob u, b ∉ ob v
theorem Dj.symm {u v : Value} (h : Dj u v) : Dj v u := fun b hb hu => h b hu hb
theorem Dj.nil (v : Value) : Dj (.slice none 0 0) v := fun b hb => by simp [ob] at hb
theorem Dj.nil' (v : Value) : Dj v (.slice none 0 0) := (Dj.nil v).symm
theorem Dj.grow {u v v' : Value} {N : Nat} (h : Dj u v) (hn : ∀ b ∈ ob v', b ∈ ob v ∨ N ≤ b) (hu : ∀ b ∈ ob u, b < N) : Dj u v' :=
  fun b hb hv => by rcases hn b hv with h1 | h1; exact h b hb h1; have := hu b hb; omega
theorem own_lt {w : World} {base e sz n : Nat} {v : Value} {cs : List Value} (h : w.ownsRow base e sz v n cs) : ∀ b ∈ ob v, b < w.heap.size := fun b hb => (own_ge h b hb).2
theorem own_notin {w : World} {base e sz n : Nat} {v : Value} {cs : List Value} (h : w.ownsRow base e sz v n cs) {b : Nat} (hb : b < base) : b ∉ ob v := fun hm => by have := (own_ge h b hm).1; omega
abbrev EdsO (e base : Nat) (w : World) (v : Value) (l : List Ed) : Prop := w.ownsRow base e 3 v l.length (l.flatMap edCells)
theorem EdsO.snoc {e base : Nat} {w : World} {v : Value} {l : List Ed} {n : Ed} (h : w.ownsRow base e 3 v (l.length + 1) (l.flatMap edCells ++ edCells n)) : EdsO e base w v (l ++ [n]) := by
  unfold EdsO
  rw [List.length_append, List.flatMap_append]; simpa using h
theorem EdsO.eds {e base : Nat} {w : World} {v : Value} {l : List Ed} {L : List Nat} (h : EdsO e base w v l) (hn : l.length ≤ 1099511627776) (hL : ∀ b ∈ L, b < base) : Eds L w.heap v l :=
  own_arr h hn (fun b hb hbL => by have := (own_ge h b hb).1; have := hL b hbL; omega)
/-- A new automaton: all of its memory lies from block N on. -/
def AutF (N : Nat) (H : Array Obj) (v : Value) (a : Aut) : Prop := ∃ va vm ve, v = .agg #[va, .int .i64 a.st, vm, ve] ∧ ∀ L : List Nat, (∀ b ∈ L, b < N) → AutA L H va vm ve a
theorem AutF.v {N : Nat} {H : Array Obj} {v : Value} {a : Aut} (h : AutF N H v a) {L : List Nat} (hL : ∀ b ∈ L, b < N) : AutV L H v a := let ⟨va, vm, ve, h1, h2⟩ := h; ⟨va, vm, ve, h1, h2 L hL⟩
theorem AutF.ext {N : Nat} {w w' : World} {v : Value} {a : Aut} (h : AutF N w.heap v a) (hs : Step [] w w') : AutF N w'.heap v a := let ⟨va, vm, ve, h1, h2⟩ := h; ⟨va, vm, ve, h1, fun L hL => (h2 L hL).ext hs⟩
theorem AutF.mono {N M : Nat} {H : Array Obj} {v : Value} {a : Aut} (h : AutF N H v a) (hM : M ≤ N) : AutF M H v a := let ⟨va, vm, ve, h1, h2⟩ := h; ⟨va, vm, ve, h1, fun L hL => h2 L (fun b hb => Nat.lt_of_lt_of_le (hL b hb) hM)⟩
section
variable {P : Program} {K : Fr → World → Prop} {f : Fr} {w : World} {d : Option Nat} {ty : Nat} {ps : String} {af : Array Edge} {gd : Option (Nat × Bool)}
/-- A cell of a block of integers. -/
theorem r_loadI {t : Nat} [One P t] {x : Operand} {b T i : Nat} {l : List Int} (h : Blk w.heap b T (l.map (.int .i64))) (hx : ev f x = .pointer (some ⟨b, 0 + i * 1, none⟩)) (hi : i < l.length) :
    (execOp (ev f) ⟨d, .load t x, ty, ps, af, gd⟩).run P w = .ok (.value (.int .i64 l[i])) w := r_loadB h hx (by simp [hi])
theorem o_storeI {t : Nat} [h1 : One P t] {x y : Operand} {b T i : Nat} {l : List Int} {u : Int} (hB : Blk w.heap b T (l.map (.int .i64))) (hx : ev f x = .pointer (some ⟨b, 0 + i * 1, none⟩)) (hy : ev f y = .int .i64 u) (hi : i < l.length)
    (hK : ∀ w', Step [b] w w' → Blk w'.heap b T ((l.set i u).map (.int .i64)) → K (putF f d undef) w') : XO P ⟨d, .store t x y, ty, ps, af, gd⟩ f w K := by
  refine o_store hB hx hy (by simpa using hi) rfl fun w' hs hB' => hK w' hs ?_
  rw [List.map_set]
  simpa using hB'
end
theorem rep_flat (n : Nat) (u : Value) : (List.replicate n [u]).flatten = List.replicate n u := by
  induction n with
  | zero => rfl
  | succ n ih => simp [List.replicate_succ, ih]
end Go.Lg
