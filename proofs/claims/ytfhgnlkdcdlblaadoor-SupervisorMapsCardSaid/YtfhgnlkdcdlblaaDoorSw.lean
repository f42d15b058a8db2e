/- What supervisor.Reduce computes, as plain functions. -/
import Derived.Test.YtfhgnlkdcdlblaaDoorSv
namespace Go.Proofs.YtfhgnlkdcdlblaaDoor
open Go.Lg

/-! ### Maps to numbers -/
def gget : List ((Int × Int) × Int) → Int × Int → Option Int
  | [], _ => none
  | (k', v) :: m, k => if k' = k then some v else gget m k
def gput : List ((Int × Int) × Int) → Int × Int → Int → List ((Int × Int) × Int)
  | [], k, v => [(k, v)]
  | (k', v') :: m, k, v => if k' = k then (k', v) :: m else (k', v') :: gput m k v
def genc (m : List ((Int × Int) × Int)) : List ((Int × Int) × Value) := m.map fun p => (p.1, .int .i64 p.2)
theorem genc_get (k : Int × Int) : ∀ m, mget (genc m) k = (gget m k).map (Value.int .i64)
  | [] => rfl
  | (k', v) :: m => by
    have ih := genc_get k m
    unfold genc at *
    simp only [List.map_cons, mget, gget]
    split
    · rfl
    · exact ih
theorem genc_put (k : Int × Int) (v : Int) : ∀ m, mput (genc m) k (.int .i64 v) = genc (gput m k v)
  | [] => rfl
  | (k', v') :: m => by
    have ih := genc_put k v m
    unfold genc at *
    simp only [List.map_cons, mput, gput]
    split
    · rfl
    · simp only [List.map_cons, ih]
theorem gget_gput (k k' : Int × Int) (v : Int) : ∀ m, gget (gput m k v) k' = if k = k' then some v else gget m k'
  | [] => by simp [gput, gget]
  | (q, v') :: m => by
    have ih := gget_gput k k' v m
    rw [gput]
    by_cases h : q = k
    · subst h
      rw [if_pos rfl, gget, gget]
      split <;> rfl
    · rw [if_neg h, gget, gget, ih]
      by_cases h2 : q = k'
      · subst h2; rw [if_pos rfl, if_pos rfl, if_neg (Ne.symm h)]
      · rw [if_neg h2, if_neg h2]

/-! ### The reduced supervisor -/
def redE (s : Aut) (cls : List Int) (x : Nat) (m : List ((Int × Int) × Int)) (v : Int) : List ((Int × Int) × Int) := gput m (cget cls x, v) (cget cls (to0 s x v).toNat)
def redX (s : Aut) (l : List Ctl) (cls : List Int) (z : List Int × List ((Int × Int) × Int)) (x : Nat) : List Int × List ((Int × Int) × Int) :=
  if cget cls x < 0 then z else (if ((lget l x).mk' && (lget l x).ps) = true then uni1 z.1 (cget cls x) else z.1, (lget l x).en.foldl (redE s cls x) z.2)
def redZ (s : Aut) (l : List Ctl) (cls : List Int) : List Int × List ((Int × Int) × Int) := (List.range' 0 cls.length).foldl (redX s l cls) ([], [])
def redF (m : List ((Int × Int) × Int)) (c : Nat) (v : Int) : Option Ed := (gget m ((c : Int), v)).map fun t => ((c : Int), v, t)
def redR (m : List ((Int × Int) × Int)) (al : List Int) (n : Nat) : List Ed := (List.range' 0 n).flatMap fun c => al.filterMap (redF m c)
/-- The supervisor of the classes. -/
def redA (s : Aut) (l : List Ctl) (cls : List Int) : Aut := ⟨s.al, maxI cls + 1, (redZ s l cls).1, redR (redZ s l cls).2 s.al (maxI cls + 1).toNat⟩
def red (p s : Aut) : Aut := redA s (ctls p s (opQ p s)) (clsOf p s (opQ p s))
/-- The code and the automaton that Reduce returns. -/
def rdE (p s : Aut) : Int := if opE p s ≠ 0 then opE p s else if opQ p s = [] then 0 else ckA (red p s)
def rdA (p s : Aut) : Aut := if opQ p s = [] then ⟨s.al, 0, [], []⟩ else canA (red p s)

theorem numS_bd {z : List Int × List Int} {n : Nat} (h : ∀ c ∈ z.2, -1 ≤ c ∧ c < n) (hK : z.1.length ≤ n) (h0 : 0 < z.1.length) (c : Int) : (∀ d ∈ (numS z c).2, -1 ≤ d ∧ d < (n + 1 : Nat)) ∧ (numS z c).1.length ≤ n + 1 ∧ 0 < (numS z c).1.length := by
  unfold numS
  split
  · rename_i hc
    have := List.idxOf_lt_length_of_mem hc
    refine ⟨fun d hd => ?_, by simp only []; omega, h0⟩
    simp only [List.mem_append, List.mem_singleton] at hd
    rcases hd with hd | rfl
    · have := h d hd; omega
    · omega
  · refine ⟨fun d hd => ?_, by simp; omega, by simp⟩
    simp only [List.mem_append, List.mem_singleton] at hd
    rcases hd with hd | rfl
    · have := h d hd; omega
    · omega
theorem nums_bdF : ∀ (l : List Int) (z : List Int × List Int) (n : Nat), (∀ c ∈ z.2, -1 ≤ c ∧ c < n) → z.1.length ≤ n → 0 < z.1.length → ∀ c ∈ (l.foldl numS z).2, -1 ≤ c ∧ c < (n + l.length : Nat)
  | [], z, n, h, _, _ => by simpa using h
  | d :: l, z, n, h, hK, h0 => by
    obtain ⟨h1, h2, h3⟩ := numS_bd h hK h0 d
    have := nums_bdF l (numS z d) (n + 1) h1 h2 h3
    rw [List.foldl_cons]
    intro c hc
    have := this c hc
    simp only [List.length_cons]
    omega
theorem nums_bd (l : List Int) : ∀ c ∈ nums l, -1 ≤ c ∧ c ≤ l.length := by
  intro c hc
  have := nums_bdF l ([-1], []) 1 (by simp) (by simp) (by simp) c hc
  omega
theorem maxI_mem {l : List Int} (h : 0 < l.length) : maxI l ∈ l := by
  have key : ∀ (r : List Int) (m : Int), r.foldl max m = m ∨ r.foldl max m ∈ r := by
    intro r
    induction r with
    | nil => intro m; exact .inl rfl
    | cons a r ih =>
      intro m
      rw [List.foldl_cons]
      rcases ih (max m a) with h1 | h1
      · rw [h1]
        by_cases e : m ≤ a
        · rw [Int.max_eq_right e]; exact .inr List.mem_cons_self
        · rw [Int.max_eq_left (by omega)]; exact .inl rfl
      · exact .inr (List.mem_cons_of_mem _ h1)
  cases l with
  | nil => simp at h
  | cons a l =>
    unfold maxI
    simp only [List.drop_succ_cons, List.drop_zero]
    have e : cget (a :: l) 0 = a := rfl
    rw [e]
    rcases key l a with h1 | h1
    · rw [h1]; exact List.mem_cons_self
    · exact List.mem_cons_of_mem _ h1
end Go.Proofs.YtfhgnlkdcdlblaaDoor
