/- The synchronous product as a plain function. -/
import Derived.Test.YtfhgnlkdcdlblaaDoorSq
import Derived.Test.YtfhgnlkdcdlblaaDoorLt
namespace Go.Proofs.YtfhgnlkdcdlblaaDoor
open Go.Lg

def ckL : List Aut → Int
  | [] => 0
  | a :: l => if ckA a ≠ 0 then ckA a else ckL l
def ckP (l : List Aut) : Int := if 12 < l.length then 3 else ckL l
theorem ckL_zero : ∀ (l : List Aut), ckL l = 0 ↔ ∀ a ∈ l, Okay a
  | [] => by simp [ckL]
  | a :: l => by
    rw [ckL]
    by_cases h : ckA a = 0
    · rw [if_neg (by simpa using h), ckL_zero l]
      simp [(ckA_zero a).1 h]
    · rw [if_pos h]
      simp only [List.forall_mem_cons]
      exact ⟨fun e => absurd e h, fun e => absurd ((ckA_zero a).2 e.1) h⟩
def evs (l : List Aut) : List Int := l.foldl (fun acc a => mrg (· || ·) acc a.al) []
/-- The map of the edges. -/
def edMap (m : List ((Int × Int) × Value)) (es : List Ed) : List ((Int × Int) × Value) := es.foldl (fun m e => mput m (e.1, e.2.1) (.int .i64 e.2.2)) m
def eget : List Ed → Int → Int → Option Int
  | [], _, _ => none
  | e :: l, s, v => if e.1 = s ∧ e.2.1 = v then some e.2.2 else eget l s v
theorem eget_none {l : List Ed} {s v : Int} (h : ∀ e ∈ l, ¬ (e.1 = s ∧ e.2.1 = v)) : eget l s v = none := by
  induction l with
  | nil => rfl
  | cons e l ih =>
    rw [eget, if_neg (h e List.mem_cons_self)]
    exact ih fun e he => h e (List.mem_cons_of_mem _ he)
theorem edMap_get : ∀ (es : List Ed) (m : List ((Int × Int) × Value)) (s v : Int), (es.Pairwise fun x y => x.1 < y.1 ∨ (x.1 = y.1 ∧ x.2.1 < y.2.1)) →
    mget (edMap m es) (s, v) = match eget es s v with | some t => some (.int .i64 t) | none => mget m (s, v)
  | [], m, s, v, _ => rfl
  | e :: es, m, s, v, h => by
    simp only [List.pairwise_cons] at h
    have ih := edMap_get es (mput m (e.1, e.2.1) (.int .i64 e.2.2)) s v h.2
    unfold edMap at *
    rw [List.foldl_cons, ih, eget]
    by_cases hk : e.1 = s ∧ e.2.1 = v
    · rw [if_pos hk, eget_none (fun x hx hx2 => by have := h.1 x hx; omega)]
      simp only [mget_mput]
      rw [if_pos (by rw [hk.1, hk.2])]
    · rw [if_neg hk]
      cases eget es s v with
      | some t => rfl
      | none =>
        simp only [mget_mput]
        rw [if_neg (fun he => hk (by simpa using he))]
/-- A step of the tuple. -/
def stepT (ev : Int) : List Aut → List Int → Option (List Int)
  | a :: as, t :: ts => if ev ∉ a.al then (stepT ev as ts).map (t :: ·) else match eget a.ed t ev with | none => none | some u => (stepT ev as ts).map (u :: ·)
  | _, _ => some []
def markT : List Aut → List Int → Bool
  | a :: as, t :: ts => decide (t ∈ a.mr) && markT as ts
  | _, _ => true

/-! ### The search -/
structure Sy where
  tup : List (List Int)
  mk' : List Int
  ed : List Ed
def syE (aa : List Aut) (i : Nat) (t : List Int) (s : Sy) (v : Int) : Option Sy :=
  match stepT v aa t with
  | none => some s
  | some u => if u ∈ s.tup then some ⟨s.tup, s.mk', s.ed ++ [((i : Int), v, (s.tup.idxOf u : Int))]⟩
    else if s.tup.length = 4096 then none else some ⟨s.tup ++ [u], s.mk', s.ed ++ [((i : Int), v, (s.tup.length : Int))]⟩
def syEs (aa : List Aut) (i : Nat) (t : List Int) : List Int → Sy → Option Sy
  | [], s => some s
  | v :: vs, s => (syE aa i t s v).bind (syEs aa i t vs)
def syMark (aa : List Aut) (i : Nat) (t : List Int) (s : Sy) : Sy := if markT aa t = true then ⟨s.tup, s.mk' ++ [(i : Int)], s.ed⟩ else s
def syT (s : Sy) (i : Nat) : List Int := s.tup.getD i []
def syL (aa : List Aut) : Nat → Nat → Sy → Option Sy
  | 0, _, s => some s
  | f + 1, i, s => if i < s.tup.length then (syEs aa i (syT s i) (evs aa) (syMark aa i (syT s i) s)).bind (syL aa f (i + 1)) else some s
def sy0 (aa : List Aut) : Sy := ⟨[List.replicate aa.length 0], [], []⟩
/-- The product and its tuples; none: too many states. -/
def sync (aa : List Aut) : Option (Aut × List (List Int)) :=
  if ∃ a ∈ aa, a.st = 0 then some (⟨evs aa, 0, [], []⟩, []) else (syL aa 4096 0 (sy0 aa)).map fun s => (⟨evs aa, s.tup.length, s.mk', s.ed⟩, s.tup)
theorem syL_done {aa : List Aut} {f i : Nat} {s : Sy} (h : ¬ i < s.tup.length) : syL aa f i s = some s := by
  cases f with
  | zero => rfl
  | succ f => rw [syL, if_neg h]
/-- A tuple of states that are there. -/
def Vt (aa : List Aut) (t : List Int) : Prop := t.length = aa.length ∧ ∀ i (h : i < t.length) (h' : i < aa.length), 0 ≤ t[i] ∧ t[i] < aa[i].st
theorem Vt.cons {a : Aut} {aa : List Aut} {u : Int} {t : List Int} (h0 : 0 ≤ u) (h1 : u < a.st) (h : Vt aa t) : Vt (a :: aa) (u :: t) := by
  refine ⟨by simp [h.1], fun i h2 h3 => ?_⟩
  cases i with
  | zero => exact ⟨h0, h1⟩
  | succ i => exact h.2 i (by simpa using h2) (by simpa using h3)
theorem eget_mem {l : List Ed} {s v u : Int} (h : eget l s v = some u) : (s, v, u) ∈ l := by
  induction l with
  | nil => cases h
  | cons e l ih =>
    rw [eget] at h
    split at h
    · rename_i he
      obtain ⟨e1, e2⟩ := he
      cases h
      obtain ⟨a, b, c⟩ := e
      simp only [] at e1 e2
      subst e1 e2
      exact List.mem_cons_self
    · exact List.mem_cons_of_mem _ (ih h)
theorem stepT_valid {v : Int} : ∀ {aa : List Aut} {t u : List Int}, (∀ a ∈ aa, Okay a) → Vt aa t → stepT v aa t = some u → Vt aa u
  | [], t, u, _, h, hs => by
    cases t with
    | nil => simp [stepT] at hs; subst hs; exact h
    | cons x t => have := h.1; simp at this
  | a :: aa, [], u, _, h, hs => by have := h.1; simp at this
  | a :: aa, x :: t, u, ho, h, hs => by
    have hx := h.2 0 (by simp) (by simp)
    have ht : Vt aa t := ⟨by have := h.1; simpa using this, fun i h2 h3 => h.2 (i + 1) (by simpa using h2) (by simpa using h3)⟩
    have ho' : ∀ a ∈ aa, Okay a := fun a ha => ho a (List.mem_cons_of_mem _ ha)
    rw [stepT] at hs
    split at hs
    · obtain ⟨u', h1, rfl⟩ := Option.map_eq_some_iff.1 hs
      exact Vt.cons hx.1 hx.2 (stepT_valid ho' ht h1)
    · split at hs
      · cases hs
      · rename_i q hq
        obtain ⟨u', h1, rfl⟩ := Option.map_eq_some_iff.1 hs
        have := (ho a List.mem_cons_self).ed _ (eget_mem hq)
        exact Vt.cons this.2.2.2.1 this.2.2.2.2 (stepT_valid ho' ht h1)
/-- What holds of the search. -/
structure SyOk (aa : List Aut) (s : Sy) : Prop where
  v : ∀ t ∈ s.tup, Vt aa t
  le : s.tup.length ≤ 4096
theorem syMark_ok {aa : List Aut} {i : Nat} {t : List Int} {s : Sy} (h : SyOk aa s) : SyOk aa (syMark aa i t s) := by
  unfold syMark; split
  · exact ⟨h.v, h.le⟩
  · exact h
theorem syE_ok {aa : List Aut} {i : Nat} {t : List Int} {s s' : Sy} {v : Int} (ho : ∀ a ∈ aa, Okay a) (h : SyOk aa s) (ht : Vt aa t) (hs : syE aa i t s v = some s') : SyOk aa s' := by
  unfold syE at hs
  split at hs
  · cases hs; exact h
  · rename_i u hu
    have hv := stepT_valid ho ht hu
    split at hs
    · cases hs; exact ⟨h.v, h.le⟩
    · split at hs
      · cases hs
      · cases hs
        have := h.le
        refine ⟨fun t ht => ?_, by simp; omega⟩
        simp only [List.mem_append, List.mem_singleton] at ht
        rcases ht with ht | rfl
        · exact h.v t ht
        · exact hv
end Go.Proofs.YtfhgnlkdcdlblaaDoor
