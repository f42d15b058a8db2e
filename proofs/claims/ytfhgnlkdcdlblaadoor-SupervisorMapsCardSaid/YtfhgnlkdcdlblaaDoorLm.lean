/- Maps: keys by an injective encoding, contents as a list of pairs. -/
import Derived.Test.YtfhgnlkdcdlblaaDoorLh
import Derived.MapKept
namespace Go.Lg
open Go.RowKit

section
variable {κ : Type} [DecidableEq κ]
def mget : List (κ × Value) → κ → Option Value
  | [], _ => none
  | (k', v) :: m, k => if k' = k then some v else mget m k
def mput : List (κ × Value) → κ → Value → List (κ × Value)
  | [], k, v => [(k, v)]
  | (k', v') :: m, k, v => if k' = k then (k', v) :: m else (k', v') :: mput m k v
theorem mget_mput (m : List (κ × Value)) (k k' : κ) (v : Value) : mget (mput m k v) k' = if k = k' then some v else mget m k' := by
  induction m with
  | nil => simp [mget, mput]
  | cons p m ih =>
    obtain ⟨q, u⟩ := p
    simp only [mput]
    by_cases h : q = k
    · subst h; simp [mget]; by_cases h2 : q = k' <;> simp [h2]
    · simp only [h, if_false, mget, ih]
      by_cases h2 : q = k'
      · subst h2; simp [Ne.symm h]
      · simp [h2]
theorem mput_length_le (m : List (κ × Value)) (k : κ) (v : Value) : m.length ≤ (mput m k v).length ∧ (mput m k v).length ≤ m.length + 1 := by
  induction m with
  | nil => simp [mput]
  | cons p m ih =>
    obtain ⟨q, u⟩ := p
    simp only [mput]
    split <;> simp <;> omega
theorem mput_length_old {m : List (κ × Value)} {k : κ} {u : Value} (h : mget m k = some u) (v : Value) : (mput m k v).length = m.length := by
  induction m with
  | nil => simp [mget] at h
  | cons p m ih =>
    obtain ⟨q, x⟩ := p
    simp only [mput]
    by_cases hq : q = k
    · simp [hq]
    · simp only [mget, hq, if_false] at h; simp [hq, ih h]
theorem mput_length_new {m : List (κ × Value)} {k : κ} (h : mget m k = none) (v : Value) : (mput m k v).length = m.length + 1 := by
  induction m with
  | nil => simp [mput]
  | cons p m ih =>
    obtain ⟨q, x⟩ := p
    simp only [mput]
    by_cases hq : q = k
    · simp [mget, hq] at h
    · simp only [mget, hq, if_false] at h; simp [hq, ih h]
def fnd (k : κ) : List κ → List MapEntry → Nat → Option (Nat × Value)
  | q :: ks, e :: es, i => if k = q then some (i, e.val) else fnd k ks es (i + 1)
  | _, _, _ => none
end

/-- Keys of type kt are the values enc k. -/
class Key (P : Program) (kt : Nat) {κ : Type} [DecidableEq κ] (enc : κ → Value) : Prop where
  check : ∀ (w : World) (em : Bool) (k : κ), (Instr.checkKey em 10000 kt (enc k)).run P w = .ok () w
  find : ∀ (w : World) (k : κ) (ks : List κ) (es : List MapEntry), es.map (·.key) = ks.map enc → (Instr.findKey kt (enc k) es).run P w = .ok (fnd k ks es 0) w
  same : ∀ k, Instr.sameBits 10000 (enc k) (enc k) = true

abbrev kInt (n : Int) : Value := .int .i64 n
abbrev kPair (p : Int × Int) : Value := .agg #[.int .i64 p.1, .int .i64 p.2]
abbrev kStr (s : ByteArray) : Value := .string s

theorem key_int {P : Program} {kt : Nat} (hu : P.underlying kt = some (.int .i64)) : Key P kt kInt := by
  refine ⟨fun w em k => ?_, fun w k ks es h => ?_, fun k => by simp [Instr.sameBits]⟩
  · have hck : ∀ n, (Instr.checkKey em (n + 1) kt (kInt k)).run P w = .ok () w := fun n => by simp [Instr.checkKey, run_underlying hu]
    exact hck 9999
  · have key : ∀ (ks : List Int) (es : List MapEntry) (i : Nat), es.map (·.key) = ks.map kInt → Instr.findNow (.int .i64) (kInt k) es i = some (fnd k ks es i) := by
      intro ks
      induction ks with
      | nil => intro es i h; simp at h; subst h; rfl
      | cons q ks ih =>
        intro es i h
        cases es with
        | nil => simp at h
        | cons e es =>
          simp only [List.map_cons, List.cons.injEq] at h
          have ih' := ih es (i + 1) h.2
          simp only [Instr.findNow, h.1, Instr.sameNow, kInt, if_true, fnd]
          by_cases hq : k = q
          · subst hq; simp
          · have : (k == q) = false := by simpa using hq
            simp [hq, this, ih']
    simp [Instr.findKey, run_underlying hu, key ks es 0 h]
theorem key_str {P : Program} {kt : Nat} (hu : P.underlying kt = some .string) : Key P kt kStr := by
  refine ⟨fun w em k => ?_, fun w k ks es h => ?_, fun k => by simp [Instr.sameBits, (MapKept.bytes_beq k k).2 rfl]⟩
  · have hck : ∀ n, (Instr.checkKey em (n + 1) kt (kStr k)).run P w = .ok () w := fun n => by simp [Instr.checkKey, run_underlying hu]
    exact hck 9999
  · have key : ∀ (ks : List ByteArray) (es : List MapEntry) (i : Nat), es.map (·.key) = ks.map kStr → Instr.findNow .string (kStr k) es i = some (fnd k ks es i) := by
      intro ks
      induction ks with
      | nil => intro es i h; simp at h; subst h; rfl
      | cons q ks ih =>
        intro es i h
        cases es with
        | nil => simp at h
        | cons e es =>
          simp only [List.map_cons, List.cons.injEq] at h
          have ih' := ih es (i + 1) h.2
          simp only [Instr.findNow, h.1, Instr.sameNow, kStr, fnd]
          by_cases hq : k = q
          · subst hq; simp [(MapKept.bytes_beq k k).2 rfl]
          · have : (k == q) = false := by
              cases hb : (k == q) with
              | false => rfl
              | true => exact absurd ((MapKept.bytes_beq k q).1 hb) hq
            simp [hq, this, ih']
    simp [Instr.findKey, run_underlying hu, key ks es 0 h]
theorem run_equal_pair {P : Program} {kt e : Nat} (hu : P.underlying kt = some (.array 2 e)) (he : P.underlying e = some (.int .i64)) (hs : (P.info? e).map (·.size) = some 1) (w : World) (p q : Int × Int) :
    (Op.equal kt (kPair p) (kPair q)).run P w = .ok (decide (p = q)) w := by
  obtain ⟨a, b⟩ := p
  obtain ⟨c, d⟩ := q
  cases hi : P.info? e with
  | none => simp [hi] at hs
  | some ie =>
    simp [hi] at hs
    have hag : ∀ w, (isAgg e).run P w = .ok false w := fun w => by simp [isAgg, run_underlying he]
    have hp : ∀ (x y : Int) (w : World), (part e #[.int .i64 x, .int .i64 y] 0).run P w = .ok (.int .i64 x) w := fun x y w => by simp [part, hag]
    have hp1 : ∀ (x y : Int) (w : World), (part e #[.int .i64 x, .int .i64 y] 1).run P w = .ok (.int .i64 y) w := fun x y w => by simp [part, hag]
    have heq : ∀ (m : Nat) (x y : Int) (w : World), (Op.equalIn (m + 1) e (.int .i64 x) (.int .i64 y)).run P w = .ok (x == y) w := fun m x y w => by simp [Op.equalIn, run_underlying he]
    simp only [Op.equal, Op.maxDepth, kPair]
    unfold Op.equalIn
    simp only [Sem.run_bind, run_underlying hu, Result.andThen_ok, sizeOf, typeInfo, run_program, hi, Sem.run_pure, hs]
    simp only [Std.Legacy.Range.forIn_eq_forIn_range', Std.Legacy.Range.size, Nat.sub_zero, Nat.add_sub_cancel, Nat.div_one, List.range'_succ, List.range'_zero, List.forIn_cons, List.forIn_nil, Nat.zero_mul, Nat.one_mul, Nat.zero_add]
    by_cases h1 : a = c
    · subst h1
      by_cases h2 : b = d
      · subst h2; simp [hp, hp1, heq]
      · simp [hp, hp1, heq, h2]
    · simp [hp, heq, h1]
theorem key_pair {P : Program} {kt e : Nat} (hu : P.underlying kt = some (.array 2 e)) (he : P.underlying e = some (.int .i64)) (hs : (P.info? e).map (·.size) = some 1) : Key P kt kPair := by
  refine ⟨fun w em k => ?_, fun w k ks es h => ?_, fun k => ?_⟩
  · obtain ⟨a, b⟩ := k
    cases hi : P.info? e with
    | none => simp [hi] at hs
    | some ie =>
      simp [hi] at hs
      have hag : ∀ w, (isAgg e).run P w = .ok false w := fun w => by simp [isAgg, run_underlying he]
      have hp : ∀ (x y : Int) (w : World), (part e #[.int .i64 x, .int .i64 y] 0).run P w = .ok (.int .i64 x) w := fun x y w => by simp [part, hag]
      have hp1 : ∀ (x y : Int) (w : World), (part e #[.int .i64 x, .int .i64 y] 1).run P w = .ok (.int .i64 y) w := fun x y w => by simp [part, hag]
      have hck : ∀ (m : Nat) (x : Int) (w : World), (Instr.checkKey em (m + 1) e (.int .i64 x)).run P w = .ok () w := fun m x w => by simp [Instr.checkKey, run_underlying he]
      simp only [kPair]
      unfold Instr.checkKey
      simp only [Sem.run_bind, run_underlying hu, Result.andThen_ok, sizeOf, typeInfo]
      simp [Std.Legacy.Range.forIn_eq_forIn_range', Std.Legacy.Range.size, List.range'_succ, hi, hs, hp, hp1, hck]
  · have hno : ∀ es i, es.map (·.key) = ks.map kPair → Instr.findNow (.array 2 e) (kPair k) es i = none ∨ es = [] := by
      intro es i h
      cases es with
      | nil => exact .inr rfl
      | cons e es => left; simp [Instr.findNow, Instr.sameNow]
    have ask : ∀ (ks : List (Int × Int)) (es : List MapEntry) (i : Nat), es.map (·.key) = ks.map kPair → (Instr.findAsking kt (kPair k) es i).run P w = .ok (fnd k ks es i) w := by
      intro ks
      induction ks with
      | nil => intro es i h; simp at h; subst h; simp [Instr.findAsking, fnd]
      | cons q ks ih =>
        intro es i h
        cases es with
        | nil => simp at h
        | cons e es =>
          simp only [List.map_cons, List.cons.injEq] at h
          have ih' := ih es (i + 1) h.2
          simp only [Instr.findAsking, h.1, Sem.run_bind, run_equal_pair hu he hs, Result.andThen_ok, fnd]
          by_cases hq : k = q
          · subst hq; simp
          · simp [hq, ih']
    rcases hno es 0 h with h1 | h1
    · simp [Instr.findKey, run_underlying hu, h1, ask ks es 0 h]
    · subst h1
      have : ks = [] := by simpa using h.symm
      subst this
      simp [Instr.findKey, run_underlying hu, Instr.findNow, fnd]
  · simp [Instr.sameBits]

/-! ### Maps in memory -/
class Mp (P : Program) (t : Nat) (kt et : outParam Nat) (z : outParam Value) : Prop where
  u : P.underlying t = some (.map kt et)
  z : (P.info? et).map (·.zero) = some (some z)
def MapB {κ : Type} (enc : κ → Value) (H : Array Obj) (b : Nat) (m : List (κ × Value)) : Prop :=
  ∃ es clock, H[b]? = some (.map es clock) ∧ es.toList.map (fun e => (e.key, e.val)) = m.map (fun p => (enc p.1, p.2))
section
variable {κ : Type} {enc : κ → Value}
theorem MapB.lt {H : Array Obj} {b : Nat} {m : List (κ × Value)} (h : MapB enc H b m) : b < H.size := by
  obtain ⟨es, c, h1, _⟩ := h; exact (Array.getElem?_eq_some_iff.1 h1).1
theorem MapB.step {X : List Nat} {w w' : World} {b : Nat} {m : List (κ × Value)} (h : MapB enc w.heap b m) (hs : Step X w w') (hb : b ∉ X) : MapB enc w'.heap b m := by
  have hl := h.lt
  obtain ⟨es, c, h1, h2⟩ := h
  exact ⟨es, c, by rw [hs.block b hl hb]; exact h1, h2⟩
theorem MapB.ext {w w' : World} {b : Nat} {m : List (κ × Value)} (h : MapB enc w.heap b m) (hs : Step [] w w') : MapB enc w'.heap b m := h.step hs (by simp)
theorem keys_of {m : List (κ × Value)} {es : List MapEntry} (h : es.map (fun e => (e.key, e.val)) = m.map (fun p => (enc p.1, p.2))) : es.map (·.key) = (m.map (·.1)).map enc := by
  have := congrArg (List.map Prod.fst) h
  simp only [List.map_map] at this ⊢
  exact this
variable [DecidableEq κ]
theorem fnd_none {k : κ} : ∀ {m : List (κ × Value)} {es : List MapEntry} {i : Nat}, es.map (fun e => (e.key, e.val)) = m.map (fun p => (enc p.1, p.2)) → mget m k = none → fnd k (m.map (·.1)) es i = none
  | [], es, i, h, _ => by simp [fnd]
  | (q, u) :: m, [], i, h, _ => by simp at h
  | (q, u) :: m, e :: es, i, h, hm => by
    simp only [List.map_cons, List.cons.injEq] at h
    simp only [mget] at hm
    by_cases hq : q = k
    · simp [hq] at hm
    · simp only [hq, if_false] at hm
      simp only [List.map_cons, fnd, Ne.symm hq, if_false]
      exact fnd_none h.2 hm
theorem fnd_some {k : κ} {u : Value} : ∀ {m : List (κ × Value)} {es : List MapEntry} {i : Nat}, es.map (fun e => (e.key, e.val)) = m.map (fun p => (enc p.1, p.2)) → mget m k = some u →
    ∃ j, fnd k (m.map (·.1)) es i = some (i + j, u) ∧ j < es.length ∧ (∃ e, es[j]? = some e ∧ e.key = enc k) ∧
      ∀ v, (es.modify j fun e => { e with key := enc k, val := v }).map (fun e => (e.key, e.val)) = (mput m k v).map (fun p => (enc p.1, p.2))
  | [], es, i, _, h => by simp [mget] at h
  | (q, x) :: m, [], i, h, _ => by simp at h
  | (q, x) :: m, e :: es, i, h, hm => by
    simp only [List.map_cons, List.cons.injEq, Prod.mk.injEq] at h
    simp only [mget] at hm
    by_cases hq : q = k
    · subst hq
      simp at hm; subst hm
      refine ⟨0, by simp [fnd, h.1.2], by simp, ⟨e, rfl, h.1.1⟩, fun v => ?_⟩
      simp [mput, h.2]
    · simp only [hq, if_false] at hm
      obtain ⟨j, h1, h2, ⟨e', h3, h3'⟩, h4⟩ := fnd_some (i := i + 1) h.2 hm
      refine ⟨j + 1, ?_, by simp; omega, ⟨e', by simpa using h3, h3'⟩, fun v => ?_⟩
      · simp only [List.map_cons, fnd, Ne.symm hq, if_false, h1]
        congr 2; omega
      · simp only [mput, hq, if_false, List.modify_succ_cons, List.map_cons, h4 v, h.1]
end

section
variable {P : Program} {K : Fr → World → Prop} {f : Fr} {w : World} {d : Option Nat} {ty : Nat} {ps : String} {af : Array Edge} {gd : Option (Nat × Bool)} {κ : Type} [DecidableEq κ]
omit [DecidableEq κ] in
theorem o_makeMap {t : Nat} (enc : κ → Value)
    (hK : ∀ b w', Step [] w w' → w.heap.size ≤ b → MapB enc w'.heap b [] → K (putF f d (.map (some b))) w') : XO P ⟨d, .makeMap t none, ty, ps, af, gd⟩ f w K := by
  have hr : (execOp (ev f) ⟨d, .makeMap t none, ty, ps, af, gd⟩).run P w = .ok (.value (.map (some w.heap.size))) (w.alloc (.map #[] 0)) := by
    simp [execOp, Instr.makeMap]
  exact xv hr (hK _ _ (Step.alloc w _) (Nat.le_refl _) ⟨#[], 0, al_new w _, rfl⟩)
theorem run_getObj_my {b : Nat} {es : Array MapEntry} {c : Nat} (h : w.heap[b]? = some (.map es c)) : (getObj b).run P w = .ok (.map es c) w := by
  simp [getObj, Sem.run, h]
theorem run_setObj_my {b : Nat} {es es' : Array MapEntry} {c c' : Nat} (h : w.heap[b]? = some (.map es c)) : (setObj b (.map es' c')).run P w = .ok () { w with heap := w.heap.setIfInBounds b (.map es' c') } := by
  simp [setObj, Sem.run, h]
theorem r_lookup {t kt et : Nat} {z : Value} [hm : Mp P t kt et z] {enc : κ → Value} [hk : Key P kt enc] {x y : Operand} {b : Nat} {m : List (κ × Value)} {k : κ} (h : MapB enc w.heap b m) (hx : ev f x = .map (some b)) (hy : ev f y = enc k) :
    (execOp (ev f) ⟨d, .lookup t x y true, ty, ps, af, gd⟩).run P w = .ok (.value (match mget m k with | some u => .tuple #[u, .bool true] | none => .tuple #[z, .bool false])) w := by
  obtain ⟨es, c, h1, h2⟩ := h
  have hf := hk.find w k (m.map (·.1)) es.toList (keys_of h2)
  have hz : (zeroValue et).run P w = .ok z w := by
    have := hm.z
    cases hi : P.info? et with
    | none => simp [hi] at this
    | some i => simp [hi] at this; simp [zeroValue, typeInfo, hi, this]
  simp only [execOp, Sem.run_bind, Instr.lookup, run_underlying hm.u, Result.andThen_ok, hx, hy, run_getObj_my h1, Sem.run_pure, hk.check, hf]
  cases hg : mget m k with
  | none => rw [fnd_none h2 hg]; simp [hz]
  | some u =>
    obtain ⟨j, hj, _⟩ := fnd_some (i := 0) h2 hg
    rw [hj]; simp
theorem r_lookup1 {t kt et : Nat} {z : Value} [hm : Mp P t kt et z] {enc : κ → Value} [hk : Key P kt enc] {x y : Operand} {b : Nat} {m : List (κ × Value)} {k : κ} (h : MapB enc w.heap b m) (hx : ev f x = .map (some b)) (hy : ev f y = enc k) :
    (execOp (ev f) ⟨d, .lookup t x y false, ty, ps, af, gd⟩).run P w = .ok (.value (match mget m k with | some u => u | none => z)) w := by
  obtain ⟨es, c, h1, h2⟩ := h
  have hf := hk.find w k (m.map (·.1)) es.toList (keys_of h2)
  have hz : (zeroValue et).run P w = .ok z w := by
    have := hm.z
    cases hi : P.info? et with
    | none => simp [hi] at this
    | some i => simp [hi] at this; simp [zeroValue, typeInfo, hi, this]
  simp only [execOp, Sem.run_bind, Instr.lookup, run_underlying hm.u, Result.andThen_ok, hx, hy, run_getObj_my h1, Sem.run_pure, hk.check, hf]
  cases hg : mget m k with
  | none => rw [fnd_none h2 hg]; simp [hz]
  | some u =>
    obtain ⟨j, hj, _⟩ := fnd_some (i := 0) h2 hg
    rw [hj]; simp
omit [DecidableEq κ] in
theorem r_lenM {t kt et : Nat} {z : Value} [hm : Mp P t kt et z] {enc : κ → Value} {x : Operand} {b : Nat} {m : List (κ × Value)} (h : MapB enc w.heap b m) (hx : ev f x = .map (some b)) :
    (execOp (ev f) ⟨d, .call ⟨.builtin .len, #[x], #[t]⟩, ty, ps, af, gd⟩).run P w = .ok (.value (.int .i64 m.length)) w := by
  obtain ⟨es, c, h1, h2⟩ := h
  have hl : es.size = m.length := by have := congrArg List.length h2; simpa using this
  simp [execOp, resolve, invoke, builtin, Builtin.len_, hx, run_underlying hm.u, goInt, run_getObj_my h1, hl]
theorem run_update {t kt et : Nat} {z : Value} [hm : Mp P t kt et z] {enc : κ → Value} [hk : Key P kt enc] {b : Nat} {m : List (κ × Value)} {k : κ} {u : Value} (h : MapB enc w.heap b m) :
    ∃ w', (Instr.mapUpdate t (.map (some b)) (enc k) u).run P w = .ok () w' ∧ Step [b] w w' ∧ MapB enc w'.heap b (mput m k u) := by
  have hl := h.lt
  obtain ⟨es, c, h1, h2⟩ := h
  have hf := hk.find w k (m.map (·.1)) es.toList (keys_of h2)
  have stp : ∀ es' c', Step [b] w { w with heap := w.heap.setIfInBounds b (.map es' c') } := fun es' c' =>
    ⟨rfl, rfl, rfl, by simp, fun i hi hn => by
      have : b ≠ i := fun e => hn (by simp [e])
      simp [Array.getElem?_setIfInBounds_ne this]⟩
  cases hg : mget m k with
  | none =>
    rw [fnd_none h2 hg] at hf
    refine ⟨_, ?_, stp (es.push { key := enc k, val := u, born := c }) (c + 1), es.push { key := enc k, val := u, born := c }, c + 1, ?_, ?_⟩
    · simp only [Instr.mapUpdate, Sem.run_bind, run_underlying hm.u, Result.andThen_ok, run_getObj_my h1, hk.check, hf, run_setObj_my h1]
    · simp [hl]
    · have hput : mput m k u = m ++ [(k, u)] := by
        clear h2 hf
        induction m with
        | nil => rfl
        | cons p m ih =>
          obtain ⟨q, x⟩ := p
          by_cases hq : q = k
          · simp [mget, hq] at hg
          · simp only [mget, hq, if_false] at hg; simp [mput, hq, ih hg]
      simp [hput, h2]
  | some u0 =>
    obtain ⟨j, hj, hlt, ⟨e, he, hek⟩, hmod⟩ := fnd_some (i := 0) h2 hg
    rw [hj] at hf
    simp only [Nat.zero_add] at hf
    have hst : ∀ w, (Instr.keyThatStays (enc k) (enc k)).run P w = .ok (enc k) w := fun w => by simp [Instr.keyThatStays, hk.same]
    have hkey : ((es[j]?).map (·.key)).getD (enc k) = enc k := by
      have : es[j]? = some e := by simpa using he
      simp [this, hek]
    refine ⟨_, ?_, stp (es.modify j fun e => { e with key := enc k, val := u }) c, es.modify j fun e => { e with key := enc k, val := u }, c, ?_, ?_⟩
    · simp only [Instr.mapUpdate, Sem.run_bind, run_underlying hm.u, Result.andThen_ok, run_getObj_my h1, hk.check, hf, hkey, hst, run_setObj_my h1]
    · simp [hl]
    · rw [Array.toList_modify]; exact hmod u
theorem o_update {t kt et : Nat} {z : Value} [hm : Mp P t kt et z] {enc : κ → Value} [hk : Key P kt enc] {x y v : Operand} {b : Nat} {m : List (κ × Value)} {k : κ} (h : MapB enc w.heap b m) (hx : ev f x = .map (some b)) (hy : ev f y = enc k)
    (hK : ∀ w', Step [b] w w' → MapB enc w'.heap b (mput m k (ev f v)) → K (putF f d undef) w') : XO P ⟨d, .mapUpdate t x y v, ty, ps, af, gd⟩ f w K := by
  obtain ⟨w', h1, h2, h3⟩ := run_update (P := P) (t := t) (k := k) (u := ev f v) h
  exact xk (w' := w') (by simp [execOp, hx, hy, h1]) (hK w' h2 h3)
theorem o_insert {t kt et : Nat} {z : Value} [hm : Mp P t kt et z] {enc : κ → Value} [hk : Key P kt enc] {x y v : Operand} {b : Nat} {m : List (κ × Value)} {k : κ} (h : MapB enc w.heap b m) (hx : ev f x = .map (some b)) (hy : ev f y = enc k)
    (hK : ∀ w', Step [b] w w' → MapB enc w'.heap b (mput m k (ev f v)) → K (putF f d undef) w') : XO P ⟨d, .insert t x y v, ty, ps, af, gd⟩ f w K := by
  obtain ⟨w', h1, h2, h3⟩ := run_update (P := P) (t := t) (k := k) (u := ev f v) h
  exact xk (w' := w') (by simp [execOp, hx, hy, h1]) (hK w' h2 h3)
end
end Go.Lg
