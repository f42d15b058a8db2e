/- The plain functions that the contracts speak of. -/
import Derived.Test.YtfhgnlkdcdlblaaDoorLr
namespace Go.Proofs.YtfhgnlkdcdlblaaDoor
open Go.Lg
/-- Strictly increasing. -/
abbrev Inc (l : List Int) : Prop := l.Pairwise (· < ·)
def leO : Option Int → Int → Bool
  | none, _ => false
  | some b, a => decide (a ≤ b)
/-- checkSet -/
def ckS (n : Int) : Option Int → List Int → Int
  | _, [] => 0
  | pr, a :: l => if a < 0 ∨ n ≤ a then 2 else if leO pr a = true then 5 else ckS n (some a) l
def pv {α : Type} (l : List α) (k : Nat) : Option α := if k = 0 then none else l[k - 1]?
theorem pv_succ {α : Type} {l : List α} {k : Nat} (h : k < l.length) : pv l (k + 1) = some l[k] := by simp [pv, h]
def edO : Option Ed → Ed → Bool
  | none, _ => false
  | some y, a => decide (a.1 < y.1 ∨ (a.1 = y.1 ∧ a.2.1 ≤ y.2.1))
/-- checkEdges -/
def ckE (al : List Int) (st : Int) : Option Ed → List Ed → Int
  | _, [] => 0
  | pr, a :: l => if a.1 < 0 ∨ st ≤ a.1 ∨ a.2.2 < 0 ∨ st ≤ a.2.2 then 2 else if a.2.1 ∉ al then 9 else if edO pr a = true then 5 else ckE al st (some a) l
/-- Check -/
def ckA (a : Aut) : Int :=
  if ckS 32 none a.al ≠ 0 then ckS 32 none a.al else if a.st < 0 then 2 else if 4096 < a.st then 3 else if ckS a.st none a.mr ≠ 0 then ckS a.st none a.mr else ckE a.al a.st none a.ed
/-! the merge of two sets -/
def inA : List Int → List Int → Bool
  | [], _ => false
  | _ :: _, [] => true
  | a :: _, b :: _ => decide (a ≤ b)
def tl (c : Bool) (l : List Int) : List Int := bif c then l.tail else l
def hx (a b : List Int) : Int := bif inA b a then b.headD 0 else a.headD 0
def mrgF (keep : Bool → Bool → Bool) : Nat → List Int → List Int → List Int
  | 0, _, _ => []
  | n + 1, a, b => if a = [] ∧ b = [] then [] else (bif keep (inA a b) (inA b a) then [hx a b] else []) ++ mrgF keep n (tl (inA a b) a) (tl (inA b a) b)
def mrg (keep : Bool → Bool → Bool) (a b : List Int) : List Int := mrgF keep (a.length + b.length) a b
theorem inA_tl {a b : List Int} (h : ¬ (a = [] ∧ b = [])) : (tl (inA a b) a).length + (tl (inA b a) b).length < a.length + b.length := by
  cases a with
  | nil => cases b with
    | nil => simp at h
    | cons y b => simp [inA, tl]
  | cons x a => cases b with
    | nil => simp [inA, tl]
    | cons y b =>
      simp only [inA, tl]
      by_cases h1 : x ≤ y <;> by_cases h2 : y ≤ x <;> simp [h1, h2] <;> omega
theorem mrgF_fuel (keep : Bool → Bool → Bool) : ∀ (n : Nat) (a b : List Int), a.length + b.length ≤ n → mrgF keep n a b = mrg keep a b := by
  have key : ∀ (n m : Nat) (a b : List Int), a.length + b.length ≤ n → a.length + b.length ≤ m → mrgF keep n a b = mrgF keep m a b := by
    intro n
    induction n with
    | zero =>
      intro m a b h1 _
      have ha : a = [] := List.eq_nil_of_length_eq_zero (by omega)
      have hb : b = [] := List.eq_nil_of_length_eq_zero (by omega)
      subst ha hb
      cases m <;> simp [mrgF]
    | succ n ih =>
      intro m a b h1 h2
      by_cases h : a = [] ∧ b = []
      · obtain ⟨rfl, rfl⟩ := h
        cases m <;> simp [mrgF]
      · have hlt := inA_tl h
        cases m with
        | zero => omega
        | succ m => rw [mrgF, mrgF, if_neg h, if_neg h, ih m _ _ (by omega) (by omega)]
  intro n a b h
  exact key n _ a b h (Nat.le_refl _)
theorem mrg_nil (keep : Bool → Bool → Bool) : mrg keep [] [] = [] := rfl
theorem mrg_step (keep : Bool → Bool → Bool) {a b : List Int} (h : ¬ (a = [] ∧ b = [])) :
    mrg keep a b = (bif keep (inA a b) (inA b a) then [hx a b] else []) ++ mrg keep (tl (inA a b) a) (tl (inA b a) b) := by
  have hlt := inA_tl h
  rw [← mrgF_fuel keep (a.length + b.length - 1 + 1) a b (by omega), mrgF, if_neg h, mrgF_fuel keep _ _ _ (by omega)]
theorem mrg_length (keep : Bool → Bool → Bool) : ∀ (n : Nat) (a b : List Int), a.length + b.length ≤ n → (mrg keep a b).length ≤ a.length + b.length := by
  intro n
  induction n with
  | zero =>
    intro a b h
    have ha : a = [] := List.eq_nil_of_length_eq_zero (by omega)
    have hb : b = [] := List.eq_nil_of_length_eq_zero (by omega)
    subst ha hb; simp [mrg_nil]
  | succ n ih =>
    intro a b hn
    by_cases h : a = [] ∧ b = []
    · obtain ⟨rfl, rfl⟩ := h; simp [mrg_nil]
    · have hlt := inA_tl h
      rw [mrg_step keep h]
      have := ih (tl (inA a b) a) (tl (inA b a) b) (by omega)
      cases keep (inA a b) (inA b a) <;> simp <;> omega
theorem mrg_len (keep : Bool → Bool → Bool) (a b : List Int) : (mrg keep a b).length ≤ a.length + b.length := mrg_length keep _ a b (Nat.le_refl _)
/-! edges of a state -/
theorem cut_filter {α : Type} (q : α → Bool) (es : List α) (lo hi : Nat) (h1 : lo ≤ hi) (h2 : hi ≤ es.length) (ha : ∀ m (hm : m < es.length), m < lo → q es[m] = false) (hb : ∀ m (hm : m < es.length), lo ≤ m → m < hi → q es[m] = true)
    (hc : ∀ m (hm : m < es.length), hi ≤ m → q es[m] = false) : (es.drop lo).take (hi - lo) = es.filter q := by
  have e1 : es = es.take lo ++ ((es.drop lo).take (hi - lo) ++ es.drop hi) := by
    conv => lhs; rw [← List.take_append_drop lo es]
    congr 1
    conv => lhs; rw [← List.take_append_drop (hi - lo) (es.drop lo)]
    rw [List.drop_drop]
    congr 2; omega
  have f1 : (es.take lo).filter q = [] := by
    rw [List.filter_eq_nil_iff]
    intro a ha'
    obtain ⟨m, hm, rfl⟩ := List.getElem_of_mem ha'
    rw [List.length_take] at hm
    rw [List.getElem_take, ha m (by omega) (by omega)]; simp
  have f3 : (es.drop hi).filter q = [] := by
    rw [List.filter_eq_nil_iff]
    intro a ha'
    obtain ⟨m, hm, rfl⟩ := List.getElem_of_mem ha'
    rw [List.length_drop] at hm
    rw [List.getElem_drop, hc (hi + m) (by omega) (by omega)]; simp
  have f2 : ((es.drop lo).take (hi - lo)).filter q = (es.drop lo).take (hi - lo) := by
    rw [List.filter_eq_self]
    intro a ha'
    obtain ⟨m, hm, rfl⟩ := List.getElem_of_mem ha'
    rw [List.length_take, List.length_drop] at hm
    rw [List.getElem_take, List.getElem_drop]
    exact hb (lo + m) (by omega) (by omega) (by omega)
  conv => rhs; rw [e1]
  rw [List.filter_append, List.filter_append, f1, f2, f3]; simp
def outE (es : List Ed) (s : Int) : List Ed := es.filter fun e => decide (e.1 = s)
end Go.Proofs.YtfhgnlkdcdlblaaDoor
