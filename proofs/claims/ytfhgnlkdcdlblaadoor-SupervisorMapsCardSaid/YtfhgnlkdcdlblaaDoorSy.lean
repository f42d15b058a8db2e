/- What is merged, by membership; when Controls are consistent. -/
import Derived.Test.YtfhgnlkdcdlblaaDoorSu
namespace Go.Proofs.YtfhgnlkdcdlblaaDoor
open Go.Lg

theorem Inc.lt_of {a : Int} {l : List Int} (h : Inc (a :: l)) {x : Int} (hx : x ∈ l) : a < x := (List.pairwise_cons.1 h).1 x hx
theorem Inc.tail {a : Int} {l : List Int} (h : Inc (a :: l)) : Inc l := (List.pairwise_cons.1 h).2
theorem mrg_mem (keep : Bool → Bool → Bool) : ∀ (n : Nat) (a b : List Int), a.length + b.length ≤ n → Inc a → Inc b → ∀ x, x ∈ mrg keep a b ↔ (x ∈ a ∨ x ∈ b) ∧ keep (decide (x ∈ a)) (decide (x ∈ b)) = true := by
  intro n
  induction n with
  | zero =>
    intro a b h _ _ x
    have ha : a = [] := List.eq_nil_of_length_eq_zero (by omega)
    have hb : b = [] := List.eq_nil_of_length_eq_zero (by omega)
    subst ha hb; simp [mrg_nil]
  | succ n ih =>
    intro a b hn ia ib x
    cases a with
    | nil =>
      cases b with
      | nil => simp [mrg_nil]
      | cons y b =>
        rw [mrg_step keep (by simp)]
        have := ih [] b (by simp at hn ⊢; omega) ia ib.tail x
        have hy : y ∉ b := fun h => by have := ib.lt_of h; omega
        simp only [inA, tl, hx, cond_true, cond_false, List.tail_cons, List.headD_cons, List.mem_append]
        rw [this]
        by_cases e : x = y
        · subst e
          cases hk : keep false true <;> simp [hk, hy]
        · cases keep false true <;> simp [e]
    | cons u a =>
      cases b with
      | nil =>
        rw [mrg_step keep (by simp)]
        have := ih a [] (by simp at hn ⊢; omega) ia.tail ib x
        have hy : u ∉ a := fun h => by have := ia.lt_of h; omega
        simp only [inA, tl, hx, cond_true, cond_false, List.tail_cons, List.headD_cons, List.mem_append]
        rw [this]
        by_cases e : x = u
        · subst e
          cases hk : keep true false <;> simp [hk, hy]
        · cases keep true false <;> simp [e]
      | cons y b =>
        rw [mrg_step keep (by simp)]
        have hu : u ∉ a := fun h => by have := ia.lt_of h; omega
        have hy : y ∉ b := fun h => by have := ib.lt_of h; omega
        rcases Int.lt_trichotomy u y with h1 | h1 | h1
        · have hub : u ∉ y :: b := fun h => by
            rcases List.mem_cons.1 h with h | h
            · omega
            · have := ib.lt_of h; omega
          have := ih a (y :: b) (by simp at hn ⊢; omega) ia.tail ib x
          have e1 : decide (u ≤ y) = true := decide_eq_true (by omega)
          have e2 : decide (y ≤ u) = false := decide_eq_false (by omega)
          simp only [inA, tl, hx, e1, e2, cond_true, cond_false, List.tail_cons, List.headD_cons, List.mem_append]
          rw [this]
          by_cases e : x = u
          · subst e
            cases hk : keep true false <;> simp [hk, hu, hub]
          · cases keep true false <;> simp [e]
        · subst h1
          have := ih a b (by simp at hn ⊢; omega) ia.tail ib.tail x
          have e1 : decide (u ≤ u) = true := decide_eq_true (by omega)
          simp only [inA, tl, hx, e1, cond_true, List.tail_cons, List.headD_cons, List.mem_append]
          rw [this]
          by_cases e : x = u
          · subst e
            cases hk : keep true true <;> simp [hk, hu, hy]
          · cases keep true true <;> simp [e]
        · have hub : y ∉ u :: a := fun h => by
            rcases List.mem_cons.1 h with h | h
            · omega
            · have := ia.lt_of h; omega
          have := ih (u :: a) b (by simp at hn ⊢; omega) ia ib.tail x
          have e1 : decide (u ≤ y) = false := decide_eq_false (by omega)
          have e2 : decide (y ≤ u) = true := decide_eq_true (by omega)
          simp only [inA, tl, hx, e1, e2, cond_true, cond_false, List.tail_cons, List.headD_cons, List.mem_append]
          rw [this]
          by_cases e : x = y
          · subst e
            cases hk : keep false true <;> simp [hk, hy, hub]
          · cases keep false true <;> simp [e]
theorem mem_mrg {keep : Bool → Bool → Bool} {a b : List Int} (ia : Inc a) (ib : Inc b) (x : Int) : x ∈ mrg keep a b ↔ (x ∈ a ∨ x ∈ b) ∧ keep (decide (x ∈ a)) (decide (x ∈ b)) = true :=
  mrg_mem keep _ a b (Nat.le_refl _) ia ib x
theorem mem_meets {a b : List Int} (ia : Inc a) (ib : Inc b) (x : Int) : x ∈ meets a b ↔ x ∈ a ∧ x ∈ b := by
  unfold meets; rw [mem_mrg ia ib]; simp; intro h _; exact .inl h
theorem meets_nil {a b : List Int} (ia : Inc a) (ib : Inc b) : (meets a b).length = 0 ↔ ∀ x ∈ a, x ∉ b := by
  rw [List.length_eq_zero_iff]
  constructor
  · intro h x hx hb
    have := (mem_meets ia ib x).2 ⟨hx, hb⟩
    rw [h] at this; cases this
  · intro h
    refine List.eq_nil_iff_forall_not_mem.2 fun x hx => ?_
    have := (mem_meets ia ib x).1 hx
    exact h x this.1 this.2
/-- The definition. -/
def lawC (a b : Ctl) : Bool := (a.en.all fun x => !decide (x ∈ b.dis)) && (b.en.all fun x => !decide (x ∈ a.dis)) && (!a.ps || !b.ps || a.mk' == b.mk')
theorem consC_law {a b : Ctl} (h1 : Inc a.en) (h2 : Inc a.dis) (h3 : Inc b.en) (h4 : Inc b.dis) : consC a b = lawC a b := by
  unfold consC lawC
  congr 1
  rw [Bool.eq_iff_iff]
  simp only [decide_eq_true_eq, Nat.add_eq_zero_iff, Bool.and_eq_true, List.all_eq_true, Bool.not_eq_true', decide_eq_false_iff_not]
  rw [meets_nil h1 h4, meets_nil h3 h2]
theorem lawC_symm (a b : Ctl) : lawC b a = lawC a b := by
  unfold lawC
  rw [Bool.and_comm (b.en.all _), Bool.or_comm (!b.ps)]
  congr 2
  cases a.mk' <;> cases b.mk' <;> rfl
/-- The set of a mask's bits. -/
def setK (m k : Nat) : List Int := ((List.range' 0 k).filter fun i => decide (((m / 2 ^ i) &&& 1) = 1)).map fun i : Nat => (i : Int)
theorem setK_succ (m k : Nat) : setK m (k + 1) = if (m / 2 ^ k) &&& 1 = 1 then setK m k ++ [(k : Int)] else setK m k := by
  unfold setK
  rw [List.range'_1_concat, List.filter_append, List.map_append, Nat.zero_add]
  by_cases h : (m / 2 ^ k) &&& 1 = 1
  · rw [if_pos h, List.filter_cons, if_pos (decide_eq_true h)]; rfl
  · rw [if_neg h, List.filter_cons, if_neg (by rw [decide_eq_false h]; simp), List.filter_nil, List.map_nil, List.append_nil]
theorem setK_len (m : Nat) : ∀ k, (setK m k).length ≤ k
  | 0 => by simp [setK]
  | k + 1 => by
    have := setK_len m k
    rw [setK_succ]
    split
    · simp; omega
    · omega
theorem setK_inc (m k : Nat) : Inc (setK m k) := by
  unfold setK Inc
  rw [List.pairwise_map]
  refine List.Pairwise.sublist List.filter_sublist ?_
  exact (List.pairwise_lt_range' (s := 0) (n := k)).imp (fun h => by omega)
end Go.Proofs.YtfhgnlkdcdlblaaDoor
