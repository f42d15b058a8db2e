/- Supervisors as plain functions. -/
import Derived.Test.YtfhgnlkdcdlblaaDoorSr
namespace Go.Proofs.YtfhgnlkdcdlblaaDoor
open Go.Lg

structure Ctl where
  en : List Int
  dis : List Int
  mk' : Bool
  ps : Bool
def ctl0 : Ctl := ⟨[], [], false, false⟩
def uni1 (l : List Int) (v : Int) : List Int := mrg (· || ·) l [v]
/-- What an event adds to the Control of a state. -/
def ctlE (p s : Aut) (x y : Int) (c : Ctl) (v : Int) : Ctl :=
  match eget p.ed x v with
  | none => c
  | some _ => match eget s.ed y v with
    | some _ => ⟨uni1 c.en v, c.dis, c.mk', c.ps⟩
    | none => ⟨c.en, uni1 c.dis v, c.mk', c.ps⟩
def ctlB (p s : Aut) (x y : Int) (c : Ctl) : Ctl := ⟨c.en, c.dis, decide (y ∈ s.mr), c.ps || decide (x ∈ p.mr)⟩
def ctlP (p s : Aut) (x y : Int) (c : Ctl) : Ctl := s.al.foldl (ctlE p s x y) (ctlB p s x y c)
def px (q : List Int) : Int := q.getD 0 0
def py (q : List Int) : Int := q.getD 1 0
def ctlQ (p s : Aut) (l : List Ctl) (q : List Int) : List Ctl := l.set (py q).toNat (ctlP p s (px q) (py q) (l.getD (py q).toNat ctl0))
def ctls (p s : Aut) (pairs : List (List Int)) : List Ctl := pairs.foldl (ctlQ p s) (List.replicate s.st.toNat ctl0)
def occs (n : Nat) (pairs : List (List Int)) : List Bool := pairs.foldl (fun o q => o.set (py q).toNat true) (List.replicate n false)
def meets (a b : List Int) : List Int := mrg (· && ·) a b
def consC (a b : Ctl) : Bool := decide ((meets a.en b.dis).length + (meets b.en a.dis).length = 0) && (!a.ps || !b.ps || a.mk' == b.mk')

/-! ### Classes -/
def cget (l : List Int) (i : Nat) : Int := l.getD i 0
def mergeC (cl : List Int) (x y : Nat) : List Int := cl.map fun c => if c = cget cl y then cget cl x else c
def lget (l : List Ctl) (i : Nat) : Ctl := l.getD i ctl0
def to0 (s : Aut) (x : Nat) (v : Int) : Int := match eget s.ed x v with | some u => u | none => 0
/-- An event of two states of a class. -/
def clE (s : Aut) (x y : Nat) (z : List Int × Bool) (v : Int) : List Int × Bool :=
  if cget z.1 (to0 s x v).toNat ≠ cget z.1 (to0 s y v).toNat then (mergeC z.1 (to0 s x v).toNat (to0 s y v).toNat, true) else z
def clY (s : Aut) (l : List Ctl) (x : Nat) (z : List Int × Bool) (y : Nat) : List Int × Bool :=
  if cget z.1 x < 0 ∨ cget z.1 x ≠ cget z.1 y then z else (meets (lget l x).en (lget l y).en).foldl (clE s x y) z
def clX (s : Aut) (l : List Ctl) (n : Nat) (z : List Int × Bool) (x : Nat) : List Int × Bool := (List.range' (x + 1) (n - (x + 1))).foldl (clY s l x) z
def pass (s : Aut) (l : List Ctl) (cl : List Int) : List Int × Bool := (List.range' 0 cl.length).foldl (clX s l cl.length) (cl, false)
def closeC (s : Aut) (l : List Ctl) : Nat → List Int → List Int
  | 0, cl => cl
  | f + 1, cl => if (pass s l cl).2 = true then closeC s l f (pass s l cl).1 else (pass s l cl).1
/-- The unequal pairs. -/
def uneq (cl : List Int) : Nat := (cl.flatMap fun a => cl.map fun b => (a, b)).countP fun p => decide (p.1 ≠ p.2)
theorem countP_le {α : Type} (p q : α → Bool) : ∀ (l : List α), (∀ x ∈ l, q x = true → p x = true) → l.countP q ≤ l.countP p
  | [], _ => by simp
  | x :: l, h => by
    have ih := countP_le p q l (fun y hy => h y (List.mem_cons_of_mem _ hy))
    have hx := h x List.mem_cons_self
    rw [List.countP_cons, List.countP_cons]
    cases hq : q x
    · simp; omega
    · rw [hx hq]; simp; omega
theorem countP_lt {α : Type} (p q : α → Bool) : ∀ (l : List α), (∀ x ∈ l, q x = true → p x = true) → (∃ x ∈ l, p x = true ∧ q x = false) → l.countP q < l.countP p
  | [], _, h => by obtain ⟨x, hx, _⟩ := h; cases hx
  | x :: l, h, he => by
    have ih := countP_lt p q l (fun y hy => h y (List.mem_cons_of_mem _ hy))
    have il := countP_le p q l (fun y hy => h y (List.mem_cons_of_mem _ hy))
    have hx := h x List.mem_cons_self
    rw [List.countP_cons, List.countP_cons]
    obtain ⟨y, hy, h1, h2⟩ := he
    rcases List.mem_cons.1 hy with rfl | hy
    · rw [h1, h2]; simp; omega
    · have := ih ⟨y, hy, h1, h2⟩
      cases hq : q x
      · simp; omega
      · rw [hx hq]; simp; omega
theorem uneq_map (cl : List Int) (g : Int → Int) : uneq (cl.map g) = (cl.flatMap fun a => cl.map fun b => (a, b)).countP fun p => decide (g p.1 ≠ g p.2) := by
  have e : ((cl.map g).flatMap fun a => (cl.map g).map fun b => (a, b)) = (cl.flatMap fun a => cl.map fun b => (a, b)).map fun p => (g p.1, g p.2) := by
    rw [List.map_flatMap, List.flatMap_map]
    simp only [List.map_map]
    rfl
  unfold uneq
  rw [e, List.countP_map]
  rfl
theorem uneq_merge_lt {cl : List Int} {x y : Nat} (hx : x < cl.length) (hy : y < cl.length) (h : cget cl x ≠ cget cl y) : uneq (mergeC cl x y) < uneq cl := by
  unfold mergeC
  rw [uneq_map]
  unfold uneq
  have ex : cget cl x = cl[x] := by simp [cget, List.getD, hx]
  have ey : cget cl y = cl[y] := by simp [cget, List.getD, hy]
  refine countP_lt _ _ _ ?_ ⟨(cl[x], cl[y]), ?_, ?_, ?_⟩
  · rintro ⟨a, b⟩ _ hq
    simp only [decide_eq_true_eq] at hq ⊢
    rintro rfl
    exact hq rfl
  · simp only [List.mem_flatMap, List.mem_map]
    exact ⟨cl[x], List.getElem_mem hx, cl[y], List.getElem_mem hy, rfl⟩
  · rw [ex, ey] at h
    simpa using h
  · simp only [decide_eq_false_iff_not, Decidable.not_not]
    rw [ex, ey] at *
    simp
theorem uneq_le (cl : List Int) : uneq cl ≤ cl.length * cl.length := by
  unfold uneq
  refine Nat.le_trans List.countP_le_length ?_
  have : ∀ (l : List Int), (l.flatMap fun a => cl.map fun b => (a, b)).length = l.length * cl.length := by
    intro l
    induction l with
    | nil => simp
    | cons a l ih => simp only [List.flatMap_cons, List.length_append, List.length_map, ih, List.length_cons, Nat.add_mul, Nat.one_mul]; omega
  rw [this]; exact Nat.le_refl _
theorem mergeC_len (cl : List Int) (x y : Nat) : (mergeC cl x y).length = cl.length := by simp [mergeC]
/-- The states lead to states. -/
def StB (s : Aut) (n : Nat) : Prop := ∀ e ∈ s.ed, 0 ≤ e.2.2 ∧ e.2.2 < n
theorem to0_lt {s : Aut} {n : Nat} (h : StB s n) (hn : 0 < n) (x : Nat) (v : Int) : 0 ≤ to0 s x v ∧ to0 s x v < n := by
  unfold to0
  split
  · rename_i u hu; have := h _ (eget_mem hu); exact this
  · omega
/-- What a pass keeps. -/
structure ClI (n k : Nat) (b : Bool) (z : List Int × Bool) : Prop where
  len : z.1.length = n
  less : z.2 = true → uneq z.1 < k ∨ (b = true ∧ uneq z.1 ≤ k)
  le : uneq z.1 ≤ k
def consAll (l : List Ctl) (cl : List Int) : Bool :=
  (List.range' 0 cl.length).all fun x => (List.range' 0 x).all fun y => !(decide (0 ≤ cget cl x ∧ cget cl x = cget cl y) && !consC (lget l x) (lget l y))
def tryC (s : Aut) (l : List Ctl) (cl : List Int) (x y : Nat) : List Int :=
  if cget cl x < 0 ∨ cget cl y < 0 ∨ cget cl x = cget cl y then cl else
    let d := closeC s l (cl.length * cl.length + 1) (mergeC cl x y)
    if consAll l d = true then d else cl
def tryX (s : Aut) (l : List Ctl) (n : Nat) (cl : List Int) (x : Nat) : List Int := (List.range' (x + 1) (n - (x + 1))).foldl (fun c y => tryC s l c x y) cl
def cls0 (o : List Bool) : List Int := (List.range' 0 o.length).map fun i => if o.getD i false = true then (i : Int) else -1
def clsA (s : Aut) (l : List Ctl) (cl : List Int) : List Int := (List.range' 0 cl.length).foldl (tryX s l cl.length) cl
/-- The classes in the order of their least states: the classes met so far. -/
def numS (z : List Int × List Int) (c : Int) : List Int × List Int :=
  if c ∈ z.1 then (z.1, z.2 ++ [(z.1.idxOf c : Int) - 1]) else (z.1 ++ [c], z.2 ++ [(z.1.length : Int) - 1])
def nums (cl : List Int) : List Int := (cl.foldl numS ([-1], [])).2
def clsOf (p s : Aut) (pairs : List (List Int)) : List Int := nums (clsA s (ctls p s pairs) (cls0 (occs s.st.toNat pairs)))
end Go.Proofs.YtfhgnlkdcdlblaaDoor
