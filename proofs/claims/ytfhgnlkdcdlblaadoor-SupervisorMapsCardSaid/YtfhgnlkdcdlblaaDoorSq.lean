/- Right automata; the canonical form as a plain function. -/
import Derived.Test.YtfhgnlkdcdlblaaDoorSp
namespace Go.Proofs.YtfhgnlkdcdlblaaDoor
open Go.Lg

/-- A right automaton. -/
structure Okay (a : Aut) : Prop where
  al : ∀ e ∈ a.al, 0 ≤ e ∧ e < 32
  ali : Inc a.al
  st0 : 0 ≤ a.st
  st1 : a.st ≤ 4096
  mr : ∀ s ∈ a.mr, 0 ≤ s ∧ s < a.st
  mri : Inc a.mr
  ed : ∀ e ∈ a.ed, 0 ≤ e.1 ∧ e.1 < a.st ∧ e.2.1 ∈ a.al ∧ 0 ≤ e.2.2 ∧ e.2.2 < a.st
  edi : a.ed.Pairwise fun x y => x.1 < y.1 ∨ (x.1 = y.1 ∧ x.2.1 < y.2.1)
theorem ckS_zero (n : Int) : ∀ (l : List Int) (pr : Option Int), ckS n pr l = 0 ↔ (∀ x ∈ l, 0 ≤ x ∧ x < n) ∧ Inc l ∧ ∀ y, pr = some y → ∀ x ∈ l, y < x
  | [], pr => by simp [ckS]
  | a :: l, pr => by
    have ih := ckS_zero n l (some a)
    rw [ckS]
    by_cases h1 : a < 0 ∨ n ≤ a
    · rw [if_pos h1]
      simp only [List.forall_mem_cons]
      constructor
      · intro h; cases h
      · rintro ⟨⟨h, _⟩, _⟩; omega
    · rw [if_neg h1]
      by_cases h2 : leO pr a = true
      · rw [if_pos h2]
        constructor
        · intro h; cases h
        · rintro ⟨_, _, h⟩
          cases pr with
          | none => simp [leO] at h2
          | some y => simp [leO] at h2; have := h y rfl a List.mem_cons_self; omega
      · rw [if_neg h2, ih]
        simp only [List.forall_mem_cons, List.pairwise_cons]
        constructor
        · rintro ⟨h3, h4, h5⟩
          refine ⟨⟨by omega, h3⟩, ⟨fun b hb => h5 a rfl b hb, h4⟩, ?_⟩
          rintro y rfl
          simp [leO] at h2
          exact ⟨h2, fun z hz => by have := h5 a rfl z hz; omega⟩
        · rintro ⟨⟨_, h3⟩, ⟨h4, h5⟩, _⟩
          exact ⟨h3, h5, fun y hy z hz => by cases hy; exact h4 z hz⟩
theorem ckE_zero (al : List Int) (st : Int) : ∀ (l : List Ed) (pr : Option Ed), ckE al st pr l = 0 ↔ (∀ e ∈ l, 0 ≤ e.1 ∧ e.1 < st ∧ e.2.1 ∈ al ∧ 0 ≤ e.2.2 ∧ e.2.2 < st) ∧ (l.Pairwise fun x y => x.1 < y.1 ∨ (x.1 = y.1 ∧ x.2.1 < y.2.1)) ∧
    ∀ y, pr = some y → ∀ e ∈ l, y.1 < e.1 ∨ (y.1 = e.1 ∧ y.2.1 < e.2.1)
  | [], pr => by simp [ckE]
  | a :: l, pr => by
    have ih := ckE_zero al st l (some a)
    rw [ckE]
    by_cases h1 : a.1 < 0 ∨ st ≤ a.1 ∨ a.2.2 < 0 ∨ st ≤ a.2.2
    · rw [if_pos h1]
      simp only [List.forall_mem_cons]
      constructor
      · intro h; cases h
      · rintro ⟨⟨h, _⟩, _⟩; omega
    · rw [if_neg h1]
      by_cases h2 : a.2.1 ∉ al
      · rw [if_pos h2]
        constructor
        · intro h; cases h
        · rintro ⟨h, _⟩; exact absurd (h a List.mem_cons_self).2.2.1 h2
      · rw [if_neg h2]
        by_cases h3 : edO pr a = true
        · rw [if_pos h3]
          constructor
          · intro h; cases h
          · rintro ⟨_, _, h⟩
            cases pr with
            | none => simp [edO] at h3
            | some y => simp [edO] at h3; have := h y rfl a List.mem_cons_self; omega
        · rw [if_neg h3, ih]
          simp only [List.forall_mem_cons, List.pairwise_cons]
          have h2' : a.2.1 ∈ al := Decidable.not_not.1 h2
          constructor
          · rintro ⟨h4, h5, h6⟩
            refine ⟨⟨⟨by omega, by omega, h2', by omega, by omega⟩, h4⟩, ⟨fun b hb => h6 a rfl b hb, h5⟩, ?_⟩
            rintro y rfl
            simp [edO] at h3
            have hya : y.1 < a.1 ∨ y.1 = a.1 ∧ y.2.1 < a.2.1 := by omega
            exact ⟨hya, fun z hz => by have := h6 a rfl z hz; omega⟩
          · rintro ⟨⟨_, h4⟩, ⟨h5, h6⟩, _⟩
            exact ⟨h4, h6, fun y hy z hz => by cases hy; exact h5 z hz⟩
theorem ckA_zero (a : Aut) : ckA a = 0 ↔ Okay a := by
  unfold ckA
  by_cases h1 : ckS 32 none a.al ≠ 0
  · rw [if_pos h1]
    exact ⟨fun h => absurd h h1, fun h => absurd ((ckS_zero 32 a.al none).2 ⟨h.al, h.ali, fun _ h => by cases h⟩) h1⟩
  · rw [if_neg h1]
    have h1' := (ckS_zero 32 a.al none).1 (Decidable.not_not.1 h1)
    by_cases h2 : a.st < 0
    · rw [if_pos h2]; exact ⟨fun h => (by cases h), fun h => (by have := h.st0; omega)⟩
    · rw [if_neg h2]
      by_cases h3 : 4096 < a.st
      · rw [if_pos h3]; exact ⟨fun h => (by cases h), fun h => (by have := h.st1; omega)⟩
      · rw [if_neg h3]
        by_cases h4 : ckS a.st none a.mr ≠ 0
        · rw [if_pos h4]
          exact ⟨fun h => absurd h h4, fun h => absurd ((ckS_zero a.st a.mr none).2 ⟨h.mr, h.mri, fun _ h => by cases h⟩) h4⟩
        · rw [if_neg h4, ckE_zero]
          have h4' := (ckS_zero a.st a.mr none).1 (Decidable.not_not.1 h4)
          exact ⟨fun h => ⟨h1'.1, h1'.2.1, by omega, by omega, h4'.1, h4'.2.1, h.1, h.2.1⟩, fun h => ⟨h.ed, h.edi, fun _ h => by cases h⟩⟩
theorem inc_length : ∀ (l : List Int) (a n : Int), Inc l → (∀ x ∈ l, a ≤ x ∧ x < n) → (l.length : Int) ≤ max 0 (n - a)
  | [], a, n, _, _ => by simp; omega
  | x :: l, a, n, h1, h2 => by
    simp only [List.pairwise_cons, List.forall_mem_cons] at h1 h2
    have := inc_length l (x + 1) n h1.2 (fun y hy => ⟨by have := h1.1 y hy; omega, (h2.2 y hy).2⟩)
    simp only [List.length_cons]
    omega
theorem Okay.al_le {a : Aut} (h : Okay a) : a.al.length ≤ 32 := by have := inc_length a.al 0 32 h.ali h.al; omega
theorem Okay.mr_le {a : Aut} (h : Okay a) : a.mr.length ≤ 4096 := by have := inc_length a.mr 0 a.st h.mri h.mr; have := h.st1; omega
theorem Okay.eds {a : Aut} (h : Okay a) : a.ed.Pairwise fun x y => x.1 ≤ y.1 := h.edi.imp fun h => by omega

/-! ### The canonical form -/
structure Cs where
  ord : List Int
  num : List Int
  mk' : List Int
  ed : List Ed
def getI (l : List Int) (k : Int) : Int := l.getD k.toNat 0
def stepE (i : Nat) (c : Cs) (e : Ed) : Cs :=
  if getI c.num e.2.2 < 0 then ⟨c.ord ++ [e.2.2], c.num.set e.2.2.toNat c.ord.length, c.mk', c.ed ++ [((i : Int), e.2.1, (c.ord.length : Int))]⟩
  else ⟨c.ord, c.num, c.mk', c.ed ++ [((i : Int), e.2.1, getI c.num e.2.2)]⟩
def markC (a : Aut) (i : Nat) (c : Cs) : Cs := if getI c.ord i ∈ a.mr then ⟨c.ord, c.num, c.mk' ++ [(i : Int)], c.ed⟩ else c
def rowC (a : Aut) (i : Nat) (c : Cs) : Cs := (outE a.ed (getI c.ord i)).foldl (stepE i) (markC a i c)
def canL (a : Aut) : Nat → Nat → Cs → Cs
  | 0, _, c => c
  | f + 1, i, c => if i < c.ord.length then canL a f (i + 1) (rowC a i c) else c
def can0 (a : Aut) : Cs := ⟨[0], (List.replicate a.st.toNat (-1)).set 0 0, [], []⟩
def canA (a : Aut) : Aut := if a.st = 0 then ⟨a.al, 0, [], []⟩ else
  let c := canL a a.st.toNat 0 (can0 a); ⟨a.al, c.ord.length, c.mk', c.ed⟩
def neg (l : List Int) : Nat := (l.filter (· < 0)).length
theorem neg_set : ∀ (l : List Int) (k : Nat) (v : Int) (h : k < l.length), l[k] < 0 → 0 ≤ v → neg (l.set k v) + 1 = neg l
  | a :: l, 0, v, _, h1, h2 => by
    have h1' : a < 0 := h1
    simp [neg, h1', show ¬ v < 0 by omega]
  | a :: l, k + 1, v, h, h1, h2 => by
    have ih := neg_set l k v (by simpa using h) h1 h2
    unfold neg at *
    simp only [List.set_cons_succ, List.filter_cons]
    split
    · simp only [List.length_cons]; omega
    · exact ih
/-- What holds of the state of the search. -/
structure CsOk (st : Int) (c : Cs) : Prop where
  nl : c.num.length = st.toNat
  sum : c.ord.length + neg c.num = st.toNat
  ord : ∀ s ∈ c.ord, 0 ≤ s ∧ s < st
  num : ∀ v ∈ c.num, v < c.ord.length
  el : c.ed.length ≤ 1000000000
theorem CsOk.le {st : Int} {c : Cs} (h : CsOk st c) : c.ord.length ≤ st.toNat := by have := h.sum; omega
theorem getI_eq {l : List Int} {k : Int} (h : k.toNat < l.length) : getI l k = l[k.toNat] := by unfold getI; simp [List.getD, h]
theorem getI_mem {l : List Int} {k : Int} (h : k.toNat < l.length) : getI l k ∈ l := by unfold getI; simp [List.getD, h]
theorem stepE_ok {st : Int} {c : Cs} {i : Nat} {e : Ed} (h : CsOk st c) (h0 : 0 ≤ e.2.2) (h1 : e.2.2 < st) (hl : c.ed.length + 1 ≤ 1000000000) : CsOk st (stepE i c e) := by
  have hk : e.2.2.toNat < c.num.length := by rw [h.nl]; omega
  unfold stepE
  split
  · rename_i hn
    rw [getI_eq hk] at hn
    refine ⟨by simp [h.nl], ?_, ?_, ?_, by simpa using hl⟩
    · have := neg_set c.num e.2.2.toNat c.ord.length hk hn (by omega)
      have := h.sum
      simp only [List.length_append, List.length_singleton]; omega
    · intro s hs
      simp only [List.mem_append, List.mem_singleton] at hs
      rcases hs with hs | rfl
      · exact h.ord s hs
      · exact ⟨h0, h1⟩
    · intro v hv
      simp only [List.length_append, List.length_singleton]
      rcases List.mem_or_eq_of_mem_set hv with hv | rfl
      · have := h.num v hv; omega
      · omega
  · exact ⟨h.nl, h.sum, h.ord, h.num, by simpa using hl⟩
theorem stepE_ed (i : Nat) (c : Cs) (e : Ed) : (stepE i c e).ed.length = c.ed.length + 1 := by unfold stepE; split <;> simp
theorem fold_ed (i : Nat) : ∀ (l : List Ed) (c : Cs), (l.foldl (stepE i) c).ed.length = c.ed.length + l.length
  | [], c => by simp
  | e :: l, c => by simp only [List.foldl_cons, fold_ed i l, stepE_ed, List.length_cons]; omega
theorem markC_ok {a : Aut} {st : Int} {c : Cs} {i : Nat} (h : CsOk st c) : CsOk st (markC a i c) := by
  unfold markC; split
  · exact ⟨h.nl, h.sum, h.ord, h.num, h.el⟩
  · exact h
theorem outE_mem {es : List Ed} {s : Int} {e : Ed} (h : e ∈ outE es s) : e ∈ es ∧ e.1 = s := by unfold outE at h; simpa using h
theorem can0_ok {a : Aut} (h0 : 0 < a.st) : CsOk a.st (can0 a) := by
  have hpos : 0 < a.st.toNat := by omega
  refine ⟨by simp [can0], ?_, ?_, ?_, by simp [can0]⟩
  · have hlt : 0 < (List.replicate a.st.toNat (-1 : Int)).length := by simpa using hpos
    have h1 := neg_set (List.replicate a.st.toNat (-1)) 0 0 hlt (by simp) (Int.le_refl _)
    have h2 : neg (List.replicate a.st.toNat (-1)) = a.st.toNat := by
      unfold neg; rw [List.filter_eq_self.2 (by intro b hb; have := List.eq_of_mem_replicate hb; subst this; rfl)]; simp
    simp only [can0, List.length_singleton]; omega
  · intro s hs; simp [can0] at hs; subst hs; omega
  · intro v hv
    simp only [can0, List.length_singleton] at *
    rcases List.mem_or_eq_of_mem_set hv with hv | rfl
    · have := List.eq_of_mem_replicate hv; omega
    · omega
theorem canL_done {a : Aut} {f i : Nat} {c : Cs} (h : ¬ i < c.ord.length) : canL a f i c = c := by
  cases f with
  | zero => rfl
  | succ f => rw [canL, if_neg h]
theorem Okay.ed_le {a : Aut} (h : Okay a) : a.ed.length ≤ 131072 := by
  have h1 : Inc (a.ed.map fun e => e.1 * 32 + e.2.1) := by
    refine List.pairwise_map.2 (List.Pairwise.imp_of_mem ?_ h.edi)
    intro x y hx hy hxy
    have h2 := h.al _ (h.ed x hx).2.2.1
    have h3 := h.al _ (h.ed y hy).2.2.1
    omega
  have h2 := inc_length _ 0 131072 h1 (by
    intro v hv
    obtain ⟨e, he, rfl⟩ := List.mem_map.1 hv
    have h3 := h.ed e he
    have h4 := h.al _ h3.2.2.1
    have := h.st1
    omega)
  simp only [List.length_map] at h2
  omega
theorem outE_len (es : List Ed) (s : Int) : (outE es s).length ≤ es.length := List.length_filter_le _ _
end Go.Proofs.YtfhgnlkdcdlblaaDoor
