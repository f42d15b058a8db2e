/- The operations' rules: what one operation does, over any program. -/
import Derived.Test.YtfhgnlkdcdlblaaDoorLg
import Derived.WalkKit
import Derived.Laws.AppendOwn
import Derived.Laws.Rows
import Derived.Laws.Tables
import Derived.Great.BuildSlice
namespace Go.Lg
open Go.RowKit

/-! ### Facts on types, found by instance -/
/-- t is a slice type; its elements' type e takes sz cells, by bytes, z its zero. -/
class Sl (P : Program) (t : Nat) (e sz bys : outParam Nat) (z : outParam Value) : Prop where
  u : P.underlying t = some (.slice e)
  i : (P.info? e).map (fun i => (i.zero, i.size, i.bytes)) = some (some z, sz, bys)
  zs : z.cells.size = sz
  pos : 0 < sz
/-- The field j of struct t: its offset. -/
def fOff (P : Program) (t j : Nat) : Option Nat := match P.underlying t with
  | some (.struct fs) => match fs[j]? with
    | some fd => match P.info? fd.type with
      | some i => if i.size = 0 then none else some fd.offset
      | none => none
    | none => none
  | _ => none
class FOff (P : Program) (t j : Nat) (off : outParam Nat) : Prop where
  h : fOff P t j = some off
/-- A type of one cell, no struct and no array. -/
class One (P : Program) (t : Nat) : Prop where
  u : ∃ d, P.underlying t = some d ∧ (match d with | .struct _ | .array .. => false | _ => true) = true
  i : (P.info? t).map (·.size) = some 1
/-- A struct or an array of sz cells. -/
class Ag (P : Program) (t : Nat) (sz : outParam Nat) : Prop where
  u : ∃ d, P.underlying t = some d ∧ (match d with | .struct _ | .array .. => true | _ => false) = true
  i : (P.info? t).map (·.size) = some sz
class Ze (P : Program) (t : Nat) (z : outParam Value) : Prop where
  i : (P.info? t).map (·.zero) = some (some z)
/-- A function with a body. -/
class Fu (P : Program) (g : Nat) (fn : outParam Func) : Prop where
  f : P.funcs[g]? = some fn
  b : fn.body.isNone = false
  nm : (fn.name == "runtime.NumGoroutine") = false

/-! ### Lists of operations -/
section
variable {P : Program} {ops : List Oper} {K : Fr → World → Prop} {f : Fr} {w : World}
theorem xe (h : K f w) : XL P ops K [] f w := by simp only [XL]; exact h
theorem xl {o : Oper} {l : List Oper} (hg : gdF ops f o = true) (h : XO P o f w (XL P ops K l)) : XL P ops K (o :: l) f w := by
  simp only [XL, hg, cond_true]; exact h
theorem xs {o : Oper} {l : List Oper} (hg : gdF ops f o = false) (h : XL P ops K l (putF f o.dst undef) w) : XL P ops K (o :: l) f w := by
  simp only [XL, hg, cond_false]; exact h
theorem xv {o : Oper} {v : Value} {w' : World} (hr : (execOp (ev f) o).run P w = .ok (.value v) w') (h : K (putF f o.dst v) w') : XO P o f w K := by
  simp only [XO, hr, upF]; exact h
theorem xk {o : Oper} {w' : World} (hr : (execOp (ev f) o).run P w = .ok .skip w') (h : K (putF f o.dst undef) w') : XO P o f w K := by
  simp only [XO, hr, upF]; exact h
/-- value operations, in one -/
theorem x {o : Oper} {l : List Oper} {v : Value} (hr : (execOp (ev f) o).run P w = .ok (.value v) w) (h : XL P ops K l (putF f o.dst v) w) (hg : gdF ops f o = true := by rfl) : XL P ops K (o :: l) f w :=
  xl hg (xv hr h)

/-- a test, parted -/
theorem xb {o : Oper} {l : List Oper} {q : Prop} [Decidable q] (hr : (execOp (ev f) o).run P w = .ok (.value (.bool (decide q))) w) (ht : q → XL P ops K l (putF f o.dst (.bool true)) w) (hf : ¬ q → XL P ops K l (putF f o.dst (.bool false)) w)
    (hg : gdF ops f o = true := by rfl) : XL P ops K (o :: l) f w := by
  by_cases h : q
  · rw [decide_eq_true h] at hr; exact x hr (ht h) hg
  · rw [decide_eq_false h] at hr; exact x hr (hf h) hg
variable {C : World → Prop}
theorem pe (h : K f w) : XP P ops C K [] f w := by simp only [XP]; exact h
theorem pq {i : Nat} {pl : List (Nat × Bool)} {v : Value} (hr : ∀ w', C w' → (execOp (ev f) (opAt ops i)).run P w' = .ok (.value v) w') (h : XP P ops C K pl (putF f (opAt ops i).dst v) w)
    (hd : rdB (opAt ops i) = true := by rfl) (hg : gdF ops f (opAt ops i) = true := by rfl) : XP P ops C K ((i, true) :: pl) f w := by
  simp only [XP, hg, cond_true]; exact ⟨v, fun w' hc => hr w' (hc hd), h⟩
/-- A plain value operation. -/
theorem p {i : Nat} {pl : List (Nat × Bool)} {v : Value} (hr : ∀ w', (execOp (ev f) (opAt ops i)).run P w' = .ok (.value v) w') (h : XP P ops C K pl (putF f (opAt ops i).dst v) w)
    (hg : gdF ops f (opAt ops i) = true := by rfl) : XP P ops C K ((i, true) :: pl) f w := by
  simp only [XP, hg, cond_true]; exact ⟨v, fun w' _ => hr w', h⟩
theorem ps {i : Nat} {q : Bool} {pl : List (Nat × Bool)} (h : XP P ops C K pl (putF f (opAt ops i).dst undef) w)
    (hg : gdF ops f (opAt ops i) = false := by rfl) : XP P ops C K ((i, q) :: pl) f w := by
  simp only [XP, hg, cond_false]; exact h
theorem pb {i : Nat} {pl : List (Nat × Bool)} {q : Prop} [Decidable q] (hr : ∀ w', (execOp (ev f) (opAt ops i)).run P w' = .ok (.value (.bool (decide q))) w') (ht : q → XP P ops C K pl (putF f (opAt ops i).dst (.bool true)) w) (hf : ¬ q → XP P ops C K pl (putF f (opAt ops i).dst (.bool false)) w)
    (hg : gdF ops f (opAt ops i) = true := by rfl) : XP P ops C K ((i, true) :: pl) f w := by
  by_cases h : q
  · rw [decide_eq_true h] at hr; exact p hr (ht h) hg
  · rw [decide_eq_false h] at hr; exact p hr (hf h) hg
/-- An operation that makes or writes memory, or a call: the class is kept. -/
theorem pk {i : Nat} {pl : List (Nat × Bool)} (h : XO P (opAt ops i) f w fun f' w' => C w' ∧ XP P ops C K pl f' w')
    (hg : gdF ops f (opAt ops i) = true := by rfl) : XP P ops C K ((i, false) :: pl) f w := by
  simp only [XP, hg, cond_true, cond_false]; exact h.mono fun _ _ hx => ⟨.inr (.inr hx.1), hx.2⟩
/-- The same, behind all that reads. -/
theorem pkl {i : Nat} {pl : List (Nat × Bool)} (h : XO P (opAt ops i) f w fun f' w' => XP P ops C K pl f' w')
    (hl : lateB ops i = true := by rfl) (hg : gdF ops f (opAt ops i) = true := by rfl) : XP P ops C K ((i, false) :: pl) f w := by
  simp only [XP, hg, cond_true, cond_false]; exact h.mono fun _ _ hx => ⟨.inl hl, hx⟩
end

/-! ### Run equations -/
section
variable {P : Program} {f : Fr} {w : World} {d : Option Nat} {ty : Nat} {ps : String} {af : Array Edge} {gd : Option (Nat × Bool)}
theorem r_move {x : Operand} : (execOp (ev f) ⟨d, .move x, ty, ps, af, gd⟩).run P w = .ok (.value (ev f x)) w := by simp [execOp]
theorem r_assign {x : Operand} : (execOp (ev f) ⟨d, .assign x, ty, ps, af, gd⟩).run P w = .ok (.value (ev f x)) w := by simp [execOp]
theorem r_pick {c a b : Operand} {t : Bool} (h : ev f c = .bool t) : (execOp (ev f) ⟨d, .pick c a b, ty, ps, af, gd⟩).run P w = .ok (.value (bif t then ev f a else ev f b)) w := by
  cases t <;> simp [execOp, h, asBool]
theorem r_extract {x : Operand} {j : Nat} {vs : List Value} {v : Value} (h : ev f x = .tuple vs.toArray) (hj : vs[j]? = some v) : (execOp (ev f) ⟨d, .extract x j, ty, ps, af, gd⟩).run P w = .ok (.value v) w := by
  simp [execOp, h, Instr.extract, hj]

/- integers -/
theorem eqGuard_int {op : BinOp} {t : TypeId} {x y : Operand} {k k' : IntKind} {a b : Int} : (eqGuard op t x y (.int k a) (.int k' b)).run P w = .ok () w := by
  simp only [eqGuard]; split <;> simp
theorem r_bin {op : BinOp} {t t' : Nat} {x y : Operand} {k k' : IntKind} {a b : Int} {v : Value} (hx : ev f x = .int k a) (hy : ev f y = .int k' b)
    (h : (binOp op t (.int k a) (.int k' b)).run P w = .ok v w) : (execOp (ev f) ⟨d, .binOp op t x y t', ty, ps, af, gd⟩).run P w = .ok (.value v) w := by
  simp [execOp, hx, hy, eqGuard_int, h]
def inK (k : IntKind) (n : Int) : Prop := match k with
  | .i64 => -9223372036854775808 ≤ n ∧ n ≤ 9223372036854775807
  | .u8 => 0 ≤ n ∧ n ≤ 255
  | .u32 => 0 ≤ n ∧ n ≤ 4294967295
  | .u64 => 0 ≤ n ∧ n ≤ 18446744073709551615
  | .i32 => -2147483648 ≤ n ∧ n ≤ 2147483647
  | _ => False
theorem wrap_in {k : IntKind} {n : Int} (h : inK k n) : k.wrap n = n := by
  cases k <;> simp only [inK] at h <;> simp only [IntKind.wrap, IntKind.bits, IntKind.signed] <;> first | exact h.elim | (simp; omega)
theorem r_add {t t' : Nat} {x y : Operand} {k : IntKind} {a b : Int} (hx : ev f x = .int k a) (hy : ev f y = .int k b) (h : inK k (a + b)) :
    (execOp (ev f) ⟨d, .binOp .add t x y t', ty, ps, af, gd⟩).run P w = .ok (.value (.int k (a + b))) w := r_bin hx hy (by simp [binOp, Op.intArith, wrap_in h])
theorem r_sub {t t' : Nat} {x y : Operand} {k : IntKind} {a b : Int} (hx : ev f x = .int k a) (hy : ev f y = .int k b) (h : inK k (a - b)) :
    (execOp (ev f) ⟨d, .binOp .sub t x y t', ty, ps, af, gd⟩).run P w = .ok (.value (.int k (a - b))) w := r_bin hx hy (by simp [binOp, Op.intArith, wrap_in h])
theorem r_mul {t t' : Nat} {x y : Operand} {k : IntKind} {a b : Int} (hx : ev f x = .int k a) (hy : ev f y = .int k b) (h : inK k (a * b)) :
    (execOp (ev f) ⟨d, .binOp .mul t x y t', ty, ps, af, gd⟩).run P w = .ok (.value (.int k (a * b))) w := r_bin hx hy (by simp [binOp, Op.intArith, wrap_in h])
theorem r_lss {t t' : Nat} {x y : Operand} {k : IntKind} {a b : Int} (hx : ev f x = .int k a) (hy : ev f y = .int k b) :
    (execOp (ev f) ⟨d, .binOp .lss t x y t', ty, ps, af, gd⟩).run P w = .ok (.value (.bool (decide (a < b)))) w := r_bin hx hy (by simp [binOp, Op.intCmp])
theorem r_leq {t t' : Nat} {x y : Operand} {k : IntKind} {a b : Int} (hx : ev f x = .int k a) (hy : ev f y = .int k b) :
    (execOp (ev f) ⟨d, .binOp .leq t x y t', ty, ps, af, gd⟩).run P w = .ok (.value (.bool (decide (a ≤ b)))) w := r_bin hx hy (by simp [binOp, Op.intCmp])
theorem r_gtr {t t' : Nat} {x y : Operand} {k : IntKind} {a b : Int} (hx : ev f x = .int k a) (hy : ev f y = .int k b) :
    (execOp (ev f) ⟨d, .binOp .gtr t x y t', ty, ps, af, gd⟩).run P w = .ok (.value (.bool (decide (b < a)))) w := r_bin hx hy (by simp [binOp, Op.intCmp])
theorem r_geq {t t' : Nat} {x y : Operand} {k : IntKind} {a b : Int} (hx : ev f x = .int k a) (hy : ev f y = .int k b) :
    (execOp (ev f) ⟨d, .binOp .geq t x y t', ty, ps, af, gd⟩).run P w = .ok (.value (.bool (decide (b ≤ a)))) w := r_bin hx hy (by simp [binOp, Op.intCmp])
theorem r_eql {t t' : Nat} {x y : Operand} {k : IntKind} {a b : Int} (hx : ev f x = .int k a) (hy : ev f y = .int k b) :
    (execOp (ev f) ⟨d, .binOp .eql t x y t', ty, ps, af, gd⟩).run P w = .ok (.value (.bool (decide (a = b)))) w :=
  r_bin hx hy (by simp [binOp, Op.intCmp]; by_cases h : a = b <;> simp [h])
theorem r_neq {t t' : Nat} {x y : Operand} {k : IntKind} {a b : Int} (hx : ev f x = .int k a) (hy : ev f y = .int k b) :
    (execOp (ev f) ⟨d, .binOp .neq t x y t', ty, ps, af, gd⟩).run P w = .ok (.value (.bool (decide (¬ a = b)))) w :=
  r_bin hx hy (by simp [binOp, Op.intCmp]; by_cases h : a = b <;> simp [h])
theorem r_not {t : Nat} {x : Operand} {b : Bool} (hx : ev f x = .bool b) : (execOp (ev f) ⟨d, .unOp .not t x, ty, ps, af, gd⟩).run P w = .ok (.value (.bool (!b))) w := by
  simp [execOp, hx, Op.unary]

/- slices -/
theorem r_len {x : Operand} {t e sz bys : Nat} {z : Value} [h : Sl P t e sz bys z] {a : Option Addr} {n c : Nat} (hx : ev f x = .slice a n c) :
    (execOp (ev f) ⟨d, .call ⟨.builtin .len, #[x], #[t]⟩, ty, ps, af, gd⟩).run P w = .ok (.value (.int .i64 n)) w := by
  simp [execOp, resolve, invoke, builtin, Builtin.len_, hx, run_underlying h.u, goInt]
theorem Sl.info {t e sz bys : Nat} {z : Value} (h : Sl P t e sz bys z) : ∃ i, P.info? e = some i ∧ i.zero = some z ∧ i.size = sz ∧ i.bytes = bys := by
  have := h.i
  cases hi : P.info? e with
  | none => simp [hi] at this
  | some i => simp [hi] at this; exact ⟨i, rfl, this.1, this.2.1, this.2.2⟩
theorem r_index {x y : Operand} {t e sz bys : Nat} {z : Value} [h : Sl P t e sz bys z] {a : Addr} {n c : Nat} {k : IntKind} {i : Int} (hx : ev f x = .slice (some a) n c) (hy : ev f y = .int k i) (h0 : 0 ≤ i) (h1 : i < n) :
    (execOp (ev f) ⟨d, .indexAddr t x y, ty, ps, af, gd⟩).run P w = .ok (.value (.pointer (some (a.add (i.toNat * sz))))) w := by
  obtain ⟨ii, hi, _, hs, _⟩ := Sl.info h
  simp [execOp, hx, hy, Instr.indexAt, asIntOf, run_underlying h.u, h0, h1, sizeOf, typeInfo, hi, hs]
/- memory -/
theorem isAgg_one {t : Nat} [h : One P t] : (isAgg t).run P w = .ok false w := by
  obtain ⟨d, hu, hd⟩ := h.u
  unfold isAgg
  cases d <;> simp at hd <;> simp [run_underlying hu]
theorem isAgg_ag {t sz : Nat} [h : Ag P t sz] : (isAgg t).run P w = .ok true w := by
  obtain ⟨d, hu, hd⟩ := h.u
  unfold isAgg
  cases d <;> simp at hd <;> simp [run_underlying hu]
theorem run_loadVar_one {t : Nat} [h : One P t] {a : Addr} {v : Value} (hc : w.cell? a = some v) : (loadVar t a).run P w = .ok v w := by
  simp [loadVar, isAgg_one, hc]
theorem sizeOf_one {t : Nat} [h : One P t] : (sizeOf t).run P w = .ok 1 w := by
  have := h.i
  cases hi : P.info? t with
  | none => simp [hi] at this
  | some i => simp [hi] at this; simp [sizeOf, typeInfo, hi, this]
theorem sizeOf_ag {t sz : Nat} [h : Ag P t sz] : (sizeOf t).run P w = .ok sz w := by
  have := h.i
  cases hi : P.info? t with
  | none => simp [hi] at this
  | some i => simp [hi] at this; simp [sizeOf, typeInfo, hi, this]
theorem run_loadCellsFrom {a : Addr} : ∀ (vs : List Value) (i : Nat) (acc : Array Value), (∀ j v, vs[j]? = some v → w.cell? (a.add (i + j)) = some v) → (loadCellsFrom a i vs.length acc).run P w = .ok (acc ++ vs.toArray) w
  | [], _, acc, _ => by simp [loadCellsFrom]
  | v :: vs, i, acc, h => by
    have h0 := h 0 v rfl
    have ih := run_loadCellsFrom vs (i + 1) (acc.push v) (fun j u hu => by have := h (j + 1) u (by simpa using hu); simpa [Nat.add_assoc, Nat.add_comm 1 j] using this)
    simp only [Nat.add_zero] at h0
    simp [loadCellsFrom, h0, ih]
theorem run_loadVar_ag {t sz : Nat} [h : Ag P t sz] {a : Addr} {vs : List Value} (hl : vs.length = sz) (hc : ∀ j v, vs[j]? = some v → w.cell? (a.add j) = some v) : (loadVar t a).run P w = .ok (.agg vs.toArray) w := by
  have := run_loadCellsFrom (P := P) (w := w) (a := a) vs 0 #[] (by simpa using hc)
  subst hl
  simp [loadVar, isAgg_ag, sizeOf_ag (sz := vs.length), loadCells, this]
theorem r_load {t : Nat} [h : One P t] {x : Operand} {a : Addr} {v : Value} (hx : ev f x = .pointer (some a)) (hc : w.cell? a = some v) :
    (execOp (ev f) ⟨d, .load t x, ty, ps, af, gd⟩).run P w = .ok (.value v) w := by
  simp [execOp, hx, Instr.loadAt, Instr.sureAddr, run_loadVar_one hc]
theorem r_loads {t sz : Nat} [h : Ag P t sz] {x : Operand} {a : Addr} {vs : List Value} (hx : ev f x = .pointer (some a)) (hl : vs.length = sz) (hc : ∀ j v, vs[j]? = some v → w.cell? (a.add j) = some v) :
    (execOp (ev f) ⟨d, .load t x, ty, ps, af, gd⟩).run P w = .ok (.value (.agg vs.toArray)) w := by
  simp [execOp, hx, Instr.loadAt, Instr.sureAddr, run_loadVar_ag hl hc]
theorem r_field {t j off : Nat} [h : FOff P t j off] {x : Operand} {a : Addr} (hx : ev f x = .pointer (some a)) :
    (execOp (ev f) ⟨d, .fieldAddr t x j, ty, ps, af, gd⟩).run P w = .ok (.value (.pointer (some (a.add off)))) w := by
  have hh := h.h
  unfold fOff at hh
  cases hu : P.underlying t with
  | none => simp [hu] at hh
  | some dd =>
    cases dd <;> simp [hu] at hh
    rename_i fs
    cases hf : fs[j]? with
    | none => simp [hf] at hh
    | some fd =>
      cases hi : P.info? fd.type with
      | none => simp [hf, hi] at hh
      | some i =>
        simp [hf, hi] at hh
        simp [execOp, hx, Instr.fieldAt, run_underlying hu, hf, Instr.sureAddr, fieldPlace, sizeOf, typeInfo, hi, hh]
theorem r_nilCheck {x : Operand} {a : Addr} (hx : ev f x = .pointer (some a)) : (execOp (ev f) ⟨d, .nilCheck x, ty, ps, af, gd⟩).run P w = .ok (.value (.pointer (some a))) w := by
  simp [execOp, hx]
theorem r_makeFunc {fn : Fn} {l l' : List Operand} : (execOp (ev f) ⟨d, .makeFunc fn l.toArray l'.toArray, ty, ps, af, gd⟩).run P w = .ok (.value (.func fn (l.map (ev f)).toArray (l'.map (ev f)).toArray)) w := by
  simp [execOp, Instr.makeFunc]
end

/-! ### Calls -/
/-- Function g, called with these arguments in w, returns, and R holds of what it returns. -/
def Ret (P : Program) (g : Nat) (args : List Value) (w : World) (R : Value → World → Prop) : Prop :=
  Calls P g args.toArray w fun e w' => match e with | .returned v => R v w' | _ => False
theorem Ret.mono {P : Program} {g : Nat} {args : List Value} {w : World} {R R' : Value → World → Prop} (h : Ret P g args w R) (hr : ∀ v w', R v w' → R' v w') : Ret P g args w R' :=
  Calls.mono h fun e w' he => by cases e <;> first | exact hr _ _ he | exact he
theorem xc {P : Program} {f : Fr} {w : World} {K : Fr → World → Prop} {d : Option Nat} {ty : Nat} {ps : String} {af : Array Edge} {gd : Option (Nat × Bool)} {x : Operand} {l : List Operand} {at_ : Array Nat}
    {g : Nat} {fn : Func} {first capt : List Value} [hF : Fu P g fn] (hx : ev f x = .func (.func g) first.toArray capt.toArray) (h : Ret P g (first ++ l.map (ev f) ++ capt) w fun v w' => K (putF f d v) w') :
    XO P ⟨d, .call ⟨.value x, l.toArray, at_⟩, ty, ps, af, gd⟩ f w K := by
  have hr : (execOp (ev f) ⟨d, .call ⟨.value x, l.toArray, at_⟩, ty, ps, af, gd⟩).run P w = .ok (.enter g (first ++ l.map (ev f) ++ capt).toArray) w := by
    have h1 : ¬ fn.name = "runtime.NumGoroutine" := by simpa using hF.nm
    have h2 : ¬ fn.body = none := by have := hF.b; intro e; rw [e] at this; cases this
    simp [execOp, resolve, hx, Deferred.ofValue, invoke, callFunc, hF.f, h1, h2]
  simp only [XO, hr, upF]
  exact h
/-- A call of a function by its name. -/
theorem xf {P : Program} {f : Fr} {w : World} {K : Fr → World → Prop} {d : Option Nat} {ty : Nat} {ps : String} {af : Array Edge} {gd : Option (Nat × Bool)} {l : List Operand} {at_ : Array Nat}
    {g : Nat} {fn : Func} [hF : Fu P g fn] (h : Ret P g (l.map (ev f)) w fun v w' => K (putF f d v) w') :
    XO P ⟨d, .call ⟨.value (.func g), l.toArray, at_⟩, ty, ps, af, gd⟩ f w K :=
  xc (first := []) (capt := []) (g := g) (fn := fn) rfl (by simpa using h)

/-! ### A function's body -/
def ent : List Value → Fr
  | [], _ => undef
  | v :: _, 0 => v
  | _ :: l, t + 1 => ent l t
def ResOk (P : Program) (f : Fr) (w : World) : List ResultVar → List Value → Prop
  | [], [] => True
  | .tmp t :: rs, v :: vs => f t = v ∧ ResOk P f w rs vs
  | .cell a t :: rs, v :: vs => (∃ ad, f a = .pointer (some ad) ∧ (loadVar t ad).run P w = .ok v w) ∧ ResOk P f w rs vs
  | _, _ => False
def tup : List Value → Value
  | [v] => v
  | vs => .tuple vs.toArray
/-- What is asked where a function's body ends. -/
def rq (P : Program) (rs : List ResultVar) (R : Value → World → Prop) : Exit → Fr → World → Prop
  | .ret, f, w => ∃ vs, ResOk P f w rs vs ∧ R (tup vs) w
  | .normal, f, w => ∃ vs, ResOk P f w rs vs ∧ R (tup vs) w
  | _, _, _ => False
theorem run_results {P : Program} {n : Nat} {a : Act} {f : Fr} {w : World} (hr : Rel n a f) (g : ResultVar → Sem Value) (g1 : ∀ t, g (.tmp t) = pure (a.tmps.getD t undef))
    (g2 : ∀ ad t, g (.cell ad t) = (do loadVar t (← asAddr (a.tmps.getD ad undef)))) : ∀ (rs : List ResultVar) (vs : List Value), ResOk P f w rs vs → (rs.mapM g).run P w = .ok vs w
  | [], [], _ => by simp
  | [], _ :: _, h => h.elim
  | .tmp t :: rs, [], h => h.elim
  | .cell _ _ :: rs, [], h => h.elim
  | .tmp t :: rs, v :: vs, h => by
    have ih := run_results hr g g1 g2 rs vs h.2
    have hg := hr.get t
    rw [h.1] at hg
    simp only [List.mapM_cons, Sem.run_bind, Sem.run_pure, Result.andThen_ok, ih, hg, g1]
  | .cell ad t :: rs, v :: vs, h => by
    have ih := run_results hr g g1 g2 rs vs h.2
    obtain ⟨⟨a0, h1, h2⟩, _⟩ := h
    have hg := hr.get ad
    rw [h1] at hg
    have h5 : (asAddr (.pointer (some a0))).run P w = .ok a0 w := rfl
    simp only [List.mapM_cons, Sem.run_bind, g2, hg, h5, Sem.run_pure, Result.andThen_ok, h2, ih]
theorem Ret.of_W {P : Program} {g : Nat} {fn : Func} {c : Code} {args : List Value} {w : World} {R : Value → World → Prop} {n : Nat} {rs : List ResultVar}
    (hf : P.funcs[g]? = some fn) (hb : fn.body = some c) (hn : fn.ntmps = n) (hrs : fn.results = rs.toArray) (hl : args.length ≤ n)
    (h : W P n c (rq P rs R) (ent args) w) : Ret P g args w R := by
  unfold W at h
  refine calls_of_wp hf hb (wp_mono (h _ ?_) ?_)
  · refine ⟨by simp [hn]; omega, rfl, fun t => ?_⟩
    have key : ∀ (l : List Value) (t : Nat), l[t]?.getD undef = ent l t := by
      intro l
      induction l with
      | nil => intro t; rfl
      | cons v l ih => intro t; cases t with | zero => rfl | succ t => simpa [ent] using ih t
    rw [← key]
    simp only [Array.getD_eq_getD_getElem?, Array.getElem?_append, List.size_toArray, List.getElem?_toArray]
    by_cases ht : t < args.length
    · simp [ht]
    · simp [ht, Array.getElem?_replicate]; split <;> rfl
  · rintro e a' w' ⟨f', h1, _, h3⟩
    have fin : (∃ vs, ResOk P f' w' rs vs ∧ R (tup vs) w') → a'.defers = [] ∧ ∃ v, (results fn a'.tmps).run P w' = .ok v w' ∧ R v w' := by
      rintro ⟨vs, hv, hR⟩
      refine ⟨h1.defers, tup vs, ?_, hR⟩
      simp only [results, hrs, List.mapM_toArray, Sem.run_bind, Sem.run_map]
      rw [run_results h1 _ (fun _ => rfl) (fun _ _ => rfl) rs vs hv]
      cases vs with
      | nil => rfl
      | cons v vs => cases vs with | nil => rfl | cons u us => rfl
    cases e with
    | normal => exact fin h3
    | ret => exact fin h3
    | exit id => exact h3.elim
    | goto l => exact h3.elim
    | panic c => exact h3.elim
    | outgrown => exact h3.elim
attribute [irreducible] Ret
end Go.Lg
