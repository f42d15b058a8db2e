/- What supervisor.open computes, as plain functions. -/
import Derived.Test.YtfhgnlkdcdlblaaDoorSu
namespace Go.Proofs.YtfhgnlkdcdlblaaDoor
open Go.Lg

theorem syEs_ok {aa : List Aut} {i : Nat} {t : List Int} (ho : ∀ a ∈ aa, Okay a) (ht : Vt aa t) : ∀ (vs : List Int) (s s' : Sy), SyOk aa s → syEs aa i t vs s = some s' → SyOk aa s'
  | [], s, s', h, e => by cases e; exact h
  | v :: vs, s, s', h, e => by
    rw [syEs] at e
    obtain ⟨s1, h1, h2⟩ := Option.bind_eq_some_iff.1 e
    exact syEs_ok ho ht vs s1 s' (syE_ok ho h ht h1) h2
theorem syL_ok {aa : List Aut} (ho : ∀ a ∈ aa, Okay a) : ∀ (f i : Nat) (s s' : Sy), SyOk aa s → syL aa f i s = some s' → SyOk aa s'
  | 0, i, s, s', h, e => by cases e; exact h
  | f + 1, i, s, s', h, e => by
    rw [syL] at e
    split at e
    · rename_i hi
      obtain ⟨s1, h1, h2⟩ := Option.bind_eq_some_iff.1 e
      have hv : Vt aa (syT s i) := h.v _ (by unfold syT; simp [List.getD, hi])
      exact syL_ok ho f _ s1 s' (syEs_ok ho hv _ _ _ (syMark_ok h) h1) h2
    · cases e; exact h
theorem sy0_ok {aa : List Aut} (ho : ∀ a ∈ aa, Okay a) (hz : ¬ ∃ a ∈ aa, a.st = 0) : SyOk aa (sy0 aa) := by
  refine ⟨fun t ht => ?_, by simp [sy0]⟩
  simp only [sy0, List.mem_singleton] at ht
  subst ht
  refine ⟨by simp, fun i h1 h2 => ?_⟩
  have h3 := (ho aa[i] (List.getElem_mem h2)).st0
  have h4 : aa[i].st ≠ 0 := fun e => hz ⟨aa[i], List.getElem_mem h2, e⟩
  simp only [List.getElem_replicate]; omega
theorem sync_ok {aa : List Aut} (ho : ∀ a ∈ aa, Okay a) {z : Aut × List (List Int)} (h : sync aa = some z) : (∀ t ∈ z.2, Vt aa t) ∧ z.2.length ≤ 4096 := by
  unfold sync at h
  split at h
  · cases h; simp
  · rename_i hz
    obtain ⟨s, h1, rfl⟩ := Option.map_eq_some_iff.1 h
    have := syL_ok ho _ _ _ _ (sy0_ok ho hz) h1
    exact ⟨this.v, this.le⟩
def opC (p s : Aut) : Int := if ckA p ≠ 0 then ckA p else if ckA s ≠ 0 then ckA s else if mrg (fun p q => p && !q) s.al p.al = [] then 0 else 9
/-- The code that open returns; the product; its pairs. -/
def opE (p s : Aut) : Int := if opC p s ≠ 0 then opC p s else match sync [p, s] with | none => 3 | some _ => 0
def opA (p s : Aut) : Aut := match sync [p, s] with | none => ⟨[], 0, [], []⟩ | some z => z.1
def opQ (p s : Aut) : List (List Int) := match sync [p, s] with | none => [] | some z => z.2
theorem opC_zero {p s : Aut} (h : opC p s = 0) : Okay p ∧ Okay s := by
  unfold opC at h
  split at h
  · rename_i h1; exact absurd h h1
  · rename_i h1
    split at h
    · rename_i h2; exact absurd h h2
    · rename_i h2
      exact ⟨(ckA_zero p).1 (Decidable.not_not.1 h1), (ckA_zero s).1 (Decidable.not_not.1 h2)⟩
theorem opE_zero {p s : Aut} (h : opE p s = 0) : Okay p ∧ Okay s ∧ sync [p, s] = some (opA p s, opQ p s) ∧ (∀ t ∈ opQ p s, Vt [p, s] t) ∧ (opQ p s).length ≤ 4096 := by
  have h' := h
  unfold opE at h'
  split at h'
  · rename_i h1; exact absurd h' h1
  · rename_i h1
    obtain ⟨h2, h3⟩ := opC_zero (Decidable.not_not.1 h1)
    cases hs : sync [p, s] with
    | none => rw [hs] at h'; cases h'
    | some z =>
      have hk := sync_ok (aa := [p, s]) (by intro a ha; simp at ha; rcases ha with rfl | rfl <;> assumption) hs
      have e1 : opA p s = z.1 := by unfold opA; rw [hs]
      have e2 : opQ p s = z.2 := by unfold opQ; rw [hs]
      rw [e1, e2]
      exact ⟨h2, h3, rfl, hk⟩
def maxI (l : List Int) : Int := (l.drop 1).foldl max (cget l 0)
end Go.Proofs.YtfhgnlkdcdlblaaDoor
