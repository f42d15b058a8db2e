/- Merged out of 20 texts. -/
import Derived.Test.YtfhgnlkdcdlblaaGreatDoorKfa
import Derived.Shelf.Strings.Builder1
import Derived.Shelf.Strings.BuilderF
import Derived.Shelf.Strings.BuilderK
import Derived.Shelf.Strconv.Itoa0
import Derived.Shelf.Strconv.Itoa1
import Derived.Shelf.LaysM
import Derived.Shelf.Strconv.Itoa2
import Derived.Shelf.Strconv.Itoa3
import Derived.Shelf.Strings.BuilderCap
import Derived.Test.YtfhgnlkdcdlblaaGreatDoorProg
import Derived.Lib.Builder
import Derived.Laws.Externs
/- Right automata; the canonical form as a plain function. -/
namespace Go.Proofs.YtfhgnlkdcdlblaaGreatDoor
open Go.Lg

/-- A right automaton. -/
structure Okay (a : Aut) : Prop where
  al : ∀ e ∈ a.al, 0 ≤ e ∧ e < 32
  ali : Inc a.al
  st0 : 0 ≤ a.st
  st1 : a.st ≤ 4096
  mr : ∀ s ∈ a.mr, 0 ≤ s ∧ s < a.st
  mri : Inc a.mr
  ed : ∀ e ∈ a.ed, 0 ≤ e.1 ∧ e.1 < a.st ∧ e.2.1 ∈ a.al ∧ 0 ≤ e.2.2 ∧ e.2.2 < a.st
  edi : a.ed.Pairwise fun x y => x.1 < y.1 ∨ (x.1 = y.1 ∧ x.2.1 < y.2.1)
theorem ckS_zero (n : Int) : ∀ (l : List Int) (pr : Option Int), ckS n pr l = 0 ↔ (∀ x ∈ l, 0 ≤ x ∧ x < n) ∧ Inc l ∧ ∀ y, pr = some y → ∀ x ∈ l, y < x
  | [], pr => by simp [ckS]
  | a :: l, pr => by
    have ih := ckS_zero n l (some a)
    rw [ckS]
    by_cases h1 : a < 0 ∨ n ≤ a
    · rw [if_pos h1]
      simp only [List.forall_mem_cons]
      constructor
      · intro h; cases h
      · rintro ⟨⟨h, _⟩, _⟩; omega
    · rw [if_neg h1]
      by_cases h2 : leO pr a = true
      · rw [if_pos h2]
        constructor
        · intro h; cases h
        · rintro ⟨_, _, h⟩
          cases pr with
          | none => simp [leO] at h2
          | some y => simp [leO] at h2; have := h y rfl a List.mem_cons_self; omega
      · rw [if_neg h2, ih]
        simp only [List.forall_mem_cons, List.pairwise_cons]
        constructor
        · rintro ⟨h3, h4, h5⟩
          refine ⟨⟨by omega, h3⟩, ⟨fun b hb => h5 a rfl b hb, h4⟩, ?_⟩
          rintro y rfl
          simp [leO] at h2
          exact ⟨h2, fun z hz => by have := h5 a rfl z hz; omega⟩
        · rintro ⟨⟨_, h3⟩, ⟨h4, h5⟩, _⟩
          exact ⟨h3, h5, fun y hy z hz => by cases hy; exact h4 z hz⟩
theorem ckE_zero (al : List Int) (st : Int) : ∀ (l : List Ed) (pr : Option Ed), ckE al st pr l = 0 ↔ (∀ e ∈ l, 0 ≤ e.1 ∧ e.1 < st ∧ e.2.1 ∈ al ∧ 0 ≤ e.2.2 ∧ e.2.2 < st) ∧ (l.Pairwise fun x y => x.1 < y.1 ∨ (x.1 = y.1 ∧ x.2.1 < y.2.1)) ∧
    ∀ y, pr = some y → ∀ e ∈ l, y.1 < e.1 ∨ (y.1 = e.1 ∧ y.2.1 < e.2.1)
  | [], pr => by simp [ckE]
  | a :: l, pr => by
    have ih := ckE_zero al st l (some a)
    rw [ckE]
    by_cases h1 : a.1 < 0 ∨ st ≤ a.1 ∨ a.2.2 < 0 ∨ st ≤ a.2.2
    · rw [if_pos h1]
      simp only [List.forall_mem_cons]
      constructor
      · intro h; cases h
      · rintro ⟨⟨h, _⟩, _⟩; omega
    · rw [if_neg h1]
      by_cases h2 : a.2.1 ∉ al
      · rw [if_pos h2]
        constructor
        · intro h; cases h
        · rintro ⟨h, _⟩; exact absurd (h a List.mem_cons_self).2.2.1 h2
      · rw [if_neg h2]
        by_cases h3 : edO pr a = true
        · rw [if_pos h3]
          constructor
          · intro h; cases h
          · rintro ⟨_, _, h⟩
            cases pr with
            | none => simp [edO] at h3
            | some y => simp [edO] at h3; have := h y rfl a List.mem_cons_self; omega
        · rw [if_neg h3, ih]
          simp only [List.forall_mem_cons, List.pairwise_cons]
          have h2' : a.2.1 ∈ al := Decidable.not_not.1 h2
          constructor
          · rintro ⟨h4, h5, h6⟩
            refine ⟨⟨⟨by omega, by omega, h2', by omega, by omega⟩, h4⟩, ⟨fun b hb => h6 a rfl b hb, h5⟩, ?_⟩
            rintro y rfl
            simp [edO] at h3
            have hya : y.1 < a.1 ∨ y.1 = a.1 ∧ y.2.1 < a.2.1 := by omega
            exact ⟨hya, fun z hz => by have := h6 a rfl z hz; omega⟩
          · rintro ⟨⟨_, h4⟩, ⟨h5, h6⟩, _⟩
            exact ⟨h4, h6, fun y hy z hz => by cases hy; exact h5 z hz⟩
theorem ckA_zero (a : Aut) : ckA a = 0 ↔ Okay a := by
  unfold ckA
  by_cases h1 : ckS 32 none a.al ≠ 0
  · rw [if_pos h1]
    exact ⟨fun h => absurd h h1, fun h => absurd ((ckS_zero 32 a.al none).2 ⟨h.al, h.ali, fun _ h => by cases h⟩) h1⟩
  · rw [if_neg h1]
    have h1' := (ckS_zero 32 a.al none).1 (Decidable.not_not.1 h1)
    by_cases h2 : a.st < 0
    · rw [if_pos h2]; exact ⟨fun h => (by cases h), fun h => (by have := h.st0; omega)⟩
    · rw [if_neg h2]
      by_cases h3 : 4096 < a.st
      · rw [if_pos h3]; exact ⟨fun h => (by cases h), fun h => (by have := h.st1; omega)⟩
      · rw [if_neg h3]
        by_cases h4 : ckS a.st none a.mr ≠ 0
        · rw [if_pos h4]
          exact ⟨fun h => absurd h h4, fun h => absurd ((ckS_zero a.st a.mr none).2 ⟨h.mr, h.mri, fun _ h => by cases h⟩) h4⟩
        · rw [if_neg h4, ckE_zero]
          have h4' := (ckS_zero a.st a.mr none).1 (Decidable.not_not.1 h4)
          exact ⟨fun h => ⟨h1'.1, h1'.2.1, by omega, by omega, h4'.1, h4'.2.1, h.1, h.2.1⟩, fun h => ⟨h.ed, h.edi, fun _ h => by cases h⟩⟩
theorem inc_length : ∀ (l : List Int) (a n : Int), Inc l → (∀ x ∈ l, a ≤ x ∧ x < n) → (l.length : Int) ≤ max 0 (n - a)
  | [], a, n, _, _ => by simp; omega
  | x :: l, a, n, h1, h2 => by
    simp only [List.pairwise_cons, List.forall_mem_cons] at h1 h2
    have := inc_length l (x + 1) n h1.2 (fun y hy => ⟨by have := h1.1 y hy; omega, (h2.2 y hy).2⟩)
    simp only [List.length_cons]
    omega
theorem Okay.al_le {a : Aut} (h : Okay a) : a.al.length ≤ 32 := by have := inc_length a.al 0 32 h.ali h.al; omega
theorem Okay.mr_le {a : Aut} (h : Okay a) : a.mr.length ≤ 4096 := by have := inc_length a.mr 0 a.st h.mri h.mr; have := h.st1; omega
theorem Okay.eds {a : Aut} (h : Okay a) : a.ed.Pairwise fun x y => x.1 ≤ y.1 := h.edi.imp fun h => by omega

/-! ### The canonical form -/
structure Cs where
  ord : List Int
  num : List Int
  mk' : List Int
  ed : List Ed
def getI (l : List Int) (k : Int) : Int := l.getD k.toNat 0
def stepE (i : Nat) (c : Cs) (e : Ed) : Cs :=
  if getI c.num e.2.2 < 0 then ⟨c.ord ++ [e.2.2], c.num.set e.2.2.toNat c.ord.length, c.mk', c.ed ++ [((i : Int), e.2.1, (c.ord.length : Int))]⟩
  else ⟨c.ord, c.num, c.mk', c.ed ++ [((i : Int), e.2.1, getI c.num e.2.2)]⟩
def markC (a : Aut) (i : Nat) (c : Cs) : Cs := if getI c.ord i ∈ a.mr then ⟨c.ord, c.num, c.mk' ++ [(i : Int)], c.ed⟩ else c
def rowC (a : Aut) (i : Nat) (c : Cs) : Cs := (outE a.ed (getI c.ord i)).foldl (stepE i) (markC a i c)
def canL (a : Aut) : Nat → Nat → Cs → Cs
  | 0, _, c => c
  | f + 1, i, c => if i < c.ord.length then canL a f (i + 1) (rowC a i c) else c
def can0 (a : Aut) : Cs := ⟨[0], (List.replicate a.st.toNat (-1)).set 0 0, [], []⟩
def canA (a : Aut) : Aut := if a.st = 0 then ⟨a.al, 0, [], []⟩ else
  let c := canL a a.st.toNat 0 (can0 a); ⟨a.al, c.ord.length, c.mk', c.ed⟩
def neg (l : List Int) : Nat := (l.filter (· < 0)).length
theorem neg_set : ∀ (l : List Int) (k : Nat) (v : Int) (h : k < l.length), l[k] < 0 → 0 ≤ v → neg (l.set k v) + 1 = neg l
  | a :: l, 0, v, _, h1, h2 => by
    have h1' : a < 0 := h1
    simp [neg, h1', show ¬ v < 0 by omega]
  | a :: l, k + 1, v, h, h1, h2 => by
    have ih := neg_set l k v (by simpa using h) h1 h2
    unfold neg at *
    simp only [List.set_cons_succ, List.filter_cons]
    split
    · simp only [List.length_cons]; omega
    · exact ih
/-- What holds of the state of the search. -/
structure CsOk (st : Int) (c : Cs) : Prop where
  nl : c.num.length = st.toNat
  sum : c.ord.length + neg c.num = st.toNat
  ord : ∀ s ∈ c.ord, 0 ≤ s ∧ s < st
  num : ∀ v ∈ c.num, v < c.ord.length
  el : c.ed.length ≤ 1000000000
theorem CsOk.le {st : Int} {c : Cs} (h : CsOk st c) : c.ord.length ≤ st.toNat := by have := h.sum; omega
theorem getI_eq {l : List Int} {k : Int} (h : k.toNat < l.length) : getI l k = l[k.toNat] := by unfold getI; simp [List.getD, h]
theorem getI_mem {l : List Int} {k : Int} (h : k.toNat < l.length) : getI l k ∈ l := by unfold getI; simp [List.getD, h]
theorem stepE_ok {st : Int} {c : Cs} {i : Nat} {e : Ed} (h : CsOk st c) (h0 : 0 ≤ e.2.2) (h1 : e.2.2 < st) (hl : c.ed.length + 1 ≤ 1000000000) : CsOk st (stepE i c e) := by
  have hk : e.2.2.toNat < c.num.length := by rw [h.nl]; omega
  unfold stepE
  split
  · rename_i hn
    rw [getI_eq hk] at hn
    refine ⟨by simp [h.nl], ?_, ?_, ?_, by simpa using hl⟩
    · have := neg_set c.num e.2.2.toNat c.ord.length hk hn (by omega)
      have := h.sum
      simp only [List.length_append, List.length_singleton]; omega
    · intro s hs
      simp only [List.mem_append, List.mem_singleton] at hs
      rcases hs with hs | rfl
      · exact h.ord s hs
      · exact ⟨h0, h1⟩
    · intro v hv
      simp only [List.length_append, List.length_singleton]
      rcases List.mem_or_eq_of_mem_set hv with hv | rfl
      · have := h.num v hv; omega
      · omega
  · exact ⟨h.nl, h.sum, h.ord, h.num, by simpa using hl⟩
theorem stepE_ed (i : Nat) (c : Cs) (e : Ed) : (stepE i c e).ed.length = c.ed.length + 1 := by unfold stepE; split <;> simp
theorem fold_ed (i : Nat) : ∀ (l : List Ed) (c : Cs), (l.foldl (stepE i) c).ed.length = c.ed.length + l.length
  | [], c => by simp
  | e :: l, c => by simp only [List.foldl_cons, fold_ed i l, stepE_ed, List.length_cons]; omega
theorem markC_ok {a : Aut} {st : Int} {c : Cs} {i : Nat} (h : CsOk st c) : CsOk st (markC a i c) := by
  unfold markC; split
  · exact ⟨h.nl, h.sum, h.ord, h.num, h.el⟩
  · exact h
theorem outE_mem {es : List Ed} {s : Int} {e : Ed} (h : e ∈ outE es s) : e ∈ es ∧ e.1 = s := by unfold outE at h; simpa using h
theorem can0_ok {a : Aut} (h0 : 0 < a.st) : CsOk a.st (can0 a) := by
  have hpos : 0 < a.st.toNat := by omega
  refine ⟨by simp [can0], ?_, ?_, ?_, by simp [can0]⟩
  · have hlt : 0 < (List.replicate a.st.toNat (-1 : Int)).length := by simpa using hpos
    have h1 := neg_set (List.replicate a.st.toNat (-1)) 0 0 hlt (by simp) (Int.le_refl _)
    have h2 : neg (List.replicate a.st.toNat (-1)) = a.st.toNat := by
      unfold neg; rw [List.filter_eq_self.2 (by intro b hb; have := List.eq_of_mem_replicate hb; subst this; rfl)]; simp
    simp only [can0, List.length_singleton]; omega
  · intro s hs; simp [can0] at hs; subst hs; omega
  · intro v hv
    simp only [can0, List.length_singleton] at *
    rcases List.mem_or_eq_of_mem_set hv with hv | rfl
    · have := List.eq_of_mem_replicate hv; omega
    · omega
theorem canL_done {a : Aut} {f i : Nat} {c : Cs} (h : ¬ i < c.ord.length) : canL a f i c = c := by
  cases f with
  | zero => rfl
  | succ f => rw [canL, if_neg h]
theorem Okay.ed_le {a : Aut} (h : Okay a) : a.ed.length ≤ 131072 := by
  have h1 : Inc (a.ed.map fun e => e.1 * 32 + e.2.1) := by
    refine List.pairwise_map.2 (List.Pairwise.imp_of_mem ?_ h.edi)
    intro x y hx hy hxy
    have h2 := h.al _ (h.ed x hx).2.2.1
    have h3 := h.al _ (h.ed y hy).2.2.1
    omega
  have h2 := inc_length _ 0 131072 h1 (by
    intro v hv
    obtain ⟨e, he, rfl⟩ := List.mem_map.1 hv
    have h3 := h.ed e he
    have h4 := h.al _ h3.2.2.1
    have := h.st1
    omega)
  simp only [List.length_map] at h2
  omega
theorem outE_len (es : List Ed) (s : Int) : (outE es s).length ≤ es.length := List.length_filter_le _ _
end Go.Proofs.YtfhgnlkdcdlblaaGreatDoor
/- Contracts: automaton.canonical, Canonical. -/
namespace Go.Proofs.YtfhgnlkdcdlblaaGreatDoor
open Go.Lg

/-- What the search of canonical holds in memory. -/
structure CanI (b3 b22 : Nat) (r3 : Value) (wS : World) (c : Cs) (vo vk ve : Value) (w : World) : Prop where
  st : Step [b3, b22] wS w
  B3 : Blk w.heap b3 35 [r3, .int .i64 0, vk, ve]
  B22 : Blk w.heap b22 3 (c.num.map (Value.int .i64))
  o : IntsO 3 wS.heap.size w vo c.ord
  k : IntsO 3 wS.heap.size w vk c.mk'
  e : EdsO 85 wS.heap.size w ve c.ed
  d1 : Dj vo vk
  d2 : Dj vo ve
  d3 : Dj vk ve
theorem CanI.ext {b3 b22 : Nat} {r3 : Value} {wS : World} {c : Cs} {vo vk ve : Value} {w w' : World} (h : CanI b3 b22 r3 wS c vo vk ve w) (hs : Step [] w w') : CanI b3 b22 r3 wS c vo vk ve w' :=
  ⟨h.st.trans hs, h.B3.ext hs, h.B22.ext hs, own_ext h.o hs, own_ext h.k hs, own_ext h.e hs, h.d1, h.d2, h.d3⟩
section
variable {b3 b22 : Nat} {r3 : Value} {wS : World} {c : Cs} {vo vk ve : Value} {w w' w'' : World}
theorem CanI.setK (h : CanI b3 b22 r3 wS c vo vk ve w) (l3 : b3 < wS.heap.size) (l22 : b22 < wS.heap.size) (ne : b3 ≠ b22) {vk' : Value} {m : List Int} (hs : Step (ob vk) w w') (hk' : IntsO 3 wS.heap.size w' vk' m)
    (hn : ∀ b ∈ ob vk', b ∈ ob vk ∨ w.heap.size ≤ b) (hs2 : Step [b3] w' w'') (hB : Blk w''.heap b3 35 [r3, .int .i64 0, vk', ve]) : CanI b3 b22 r3 wS ⟨c.ord, c.num, m, c.ed⟩ vo vk' ve w'' := by
  have hge := own_ge h.k
  refine ⟨(h.st.then hs (fun b hb => .inr (hge b hb).1)).then hs2 (fun b hb => .inl (by simp at hb; simp [hb])), hB, (h.B22.step hs (own_notin h.k l22)).step hs2 (by simp; omega),
    own_step (own_step h.o hs h.d1) hs2 (fun b hb => by have := (own_ge h.o b hb).1; simp; omega), own_step hk' hs2 (fun b hb => by have := (own_ge hk' b hb).1; simp; omega),
    own_step (own_step h.e hs h.d3.symm) hs2 (fun b hb => by have := (own_ge h.e b hb).1; simp; omega), h.d1.grow hn (own_lt h.o), h.d2, (h.d3.symm.grow hn (own_lt h.e)).symm⟩
theorem CanI.setE (h : CanI b3 b22 r3 wS c vo vk ve w) (l3 : b3 < wS.heap.size) (l22 : b22 < wS.heap.size) (ne : b3 ≠ b22) {ve' : Value} {m : List Ed} (hs : Step (ob ve) w w') (hk' : EdsO 85 wS.heap.size w' ve' m)
    (hn : ∀ b ∈ ob ve', b ∈ ob ve ∨ w.heap.size ≤ b) (hs2 : Step [b3] w' w'') (hB : Blk w''.heap b3 35 [r3, .int .i64 0, vk, ve']) : CanI b3 b22 r3 wS ⟨c.ord, c.num, c.mk', m⟩ vo vk ve' w'' := by
  have hge := own_ge h.e
  refine ⟨(h.st.then hs (fun b hb => .inr (hge b hb).1)).then hs2 (fun b hb => .inl (by simp at hb; simp [hb])), hB, (h.B22.step hs (own_notin h.e l22)).step hs2 (by simp; omega),
    own_step (own_step h.o hs h.d2) hs2 (fun b hb => by have := (own_ge h.o b hb).1; simp; omega), own_step (own_step h.k hs h.d3) hs2 (fun b hb => by have := (own_ge h.k b hb).1; simp; omega),
    own_step hk' hs2 (fun b hb => by have := (own_ge hk' b hb).1; simp; omega), h.d1, h.d2.grow hn (own_lt h.o), h.d3.grow hn (own_lt h.k)⟩
/-- number is written, then order grows. -/
theorem CanI.setN (h : CanI b3 b22 r3 wS c vo vk ve w) (l22 : b22 < wS.heap.size) (ne : b3 ≠ b22) {m : List Int} (hs2 : Step [b22] w w') (hB : Blk w'.heap b22 3 (m.map (Value.int .i64))) : CanI b3 b22 r3 wS ⟨c.ord, m, c.mk', c.ed⟩ vo vk ve w' :=
  ⟨h.st.then hs2 (fun b hb => .inl (by simp at hb; simp [hb])), h.B3.step hs2 (by simp; omega), hB, own_step h.o hs2 (fun b hb => by have := (own_ge h.o b hb).1; simp; omega),
    own_step h.k hs2 (fun b hb => by have := (own_ge h.k b hb).1; simp; omega), own_step h.e hs2 (fun b hb => by have := (own_ge h.e b hb).1; simp; omega), h.d1, h.d2, h.d3⟩
theorem CanI.setO (h : CanI b3 b22 r3 wS c vo vk ve w) (l3 : b3 < wS.heap.size) (l22 : b22 < wS.heap.size) {vo' : Value} {m : List Int} (hs : Step (ob vo) w w') (hk' : IntsO 3 wS.heap.size w' vo' m)
    (hn : ∀ b ∈ ob vo', b ∈ ob vo ∨ w.heap.size ≤ b) : CanI b3 b22 r3 wS ⟨m, c.num, c.mk', c.ed⟩ vo' vk ve w' :=
  ⟨h.st.then hs (fun b hb => .inr (own_ge h.o b hb).1), h.B3.step hs (own_notin h.o l3), h.B22.step hs (own_notin h.o l22), hk', own_step h.k hs h.d1.symm, own_step h.e hs h.d2.symm,
    (h.d1.symm.grow hn (own_lt h.k)).symm, (h.d2.symm.grow hn (own_lt h.e)).symm, h.d3⟩
end

/-- The target of an edge gets its number. -/
def numC (c : Cs) (e : Ed) : Cs := if getI c.num e.2.2 < 0 then ⟨c.ord ++ [e.2.2], c.num.set e.2.2.toNat c.ord.length, c.mk', c.ed⟩ else c
theorem numC_nl (c : Cs) (e : Ed) : (numC c e).num.length = c.num.length := by unfold numC; split <;> simp
theorem stepE_numC {i : Nat} {c : Cs} {e : Ed} (h : e.2.2.toNat < c.num.length) : stepE i c e = ⟨(numC c e).ord, (numC c e).num, (numC c e).mk', (numC c e).ed ++ [((i : Int), e.2.1, getI (numC c e).num e.2.2)]⟩ := by
  unfold stepE numC
  split
  · simp [getI, List.getD, h]
  · rfl

set_option maxHeartbeats 1000000 in
theorem canonical_ok {L : List Nat} {w : World} {va vm ve : Value} {a : Aut} (h : AutA L w.heap va vm ve a) (hok : Okay a) :
    Ret Tryz.prog 74 [.agg #[va, .int .i64 a.st, vm, ve]] w fun r w' => Step [] w w' ∧ AutF w.heap.size w'.heap r (canA a) := by
  have hst0 := hok.st0
  have hst1 := hok.st1
  refine Ret.of_W Tryz.func74 rfl Tryz.ntmps74 Tryz.results74 (by simp) ?_
  refine W_seq <| W_region (by rfl) ?_
  refine xl rfl <| o_box (us := [va, .int .i64 a.st, vm, ve]) rfl fun b1 w1 hs1 hb1 hB1 => xl rfl <| o_alloc (us := [.slice none 0 0, .int .i64 0, .slice none 0 0, .slice none 0 0]) rfl fun b2 w2 hs2 hb2 hB2 => xe ?_
  have hz1 := hs1.size
  have hz2 := hs2.size
  have hl1 := hB1.lt
  have hl2 := hB2.lt
  refine W_seq <| W_region (by rfl) ?_
  refine x (r_fieldB rfl) <| x (r_loadB (hB1.ext hs2) rfl rfl) <| xl rfl <| xf <| (clone_ok ((h.al.ext hs1).ext hs2)).mono ?_
  rintro r3 w3 ⟨hs3, hr3⟩
  have hz3 := hs3.size
  refine x (r_build ⟨(IntsO.ints (L := []) hr3 h.al.le (by simp)).cells, trivial⟩) <| xl rfl <| o_alloc (us := [.slice none 0 0, .int .i64 0, .slice none 0 0, .slice none 0 0]) rfl fun b3 w4 hs4 hb3 hB3 =>
    xl rfl <| o_stores (us := [r3, .int .i64 0, .slice none 0 0, .slice none 0 0]) hB3 rfl rfl rfl rfl ⟨(IntsO.ints (L := []) hr3 h.al.le (by simp)).one, rfl, rfl, rfl, trivial⟩ fun w5 hs5 hB3 => xe ?_
  have hS5 : Step [] w3 w5 := hs4.then1 hs5 hb3
  have hz5 := hS5.size
  have hl3 := hB3.lt
  have hW5 : Step [] w w5 := ((hs1.trans hs2).trans hs3).trans hS5
  refine W_seq <| W_seq <| W_region (by rfl) ?_
  refine x (r_fieldB rfl) <| x (r_loadB (((hB1.ext hs2).ext hs3).ext hS5) rfl rfl) <| x (r_eql rfl rfl) <| xe ?_
  refine W_if rfl (fun h18 => ?_) (fun h18 => ?_)
  · refine W_seq <| W_region (by rfl) ?_
    refine x (r_loadsB hB3 rfl rfl) <| xl rfl <| o_stores (us := [r3, .int .i64 0, .slice none 0 0, .slice none 0 0]) ((hB2.ext hs3).ext hS5) rfl rfl rfl rfl ⟨(IntsO.ints (L := []) hr3 h.al.le (by simp)).one, rfl, rfl, rfl, trivial⟩ fun w6 hs6 hB2 => xe ?_
    refine W_ret ⟨[.agg #[r3, .int .i64 0, .slice none 0 0, .slice none 0 0]], ⟨⟨_, rfl, run_loadVar_ag rfl (hB2.at (L := []) (by simp)).cells⟩, trivial⟩, hW5.then1 hs6 (by omega), ?_⟩
    have hr6 := own_step (own_ext hr3 hS5) hs6 (fun b hb => by have := (own_ge hr3 b hb).1; simp; omega)
    unfold canA
    rw [if_pos h18]
    exact ⟨r3, _, _, rfl, fun L' hL' => ⟨IntsO.ints hr6 h.al.le (fun b hb => by have := hL' b hb; omega), Arr.nil _ _ _, Arr.nil _ _ _⟩⟩
  have hpos : 0 < a.st := by omega
  obtain ⟨n, hn⟩ : ∃ n : Nat, a.st = n := ⟨a.st.toNat, by omega⟩
  have hnn : a.st.toNat = n := by omega
  refine W_skip ?_
  refine W_seq <| W_region (by rfl) ?_
  refine x (r_fieldB rfl) <| x (r_loadB (((hB1.ext hs2).ext hs3).ext hS5) rfl rfl) <| xl rfl <| o_make (n := n) (congrArg (Value.int .i64) hn) (congrArg (Value.int .i64) hn) (by omega) fun b22 w7 hs7 hb22 hB22 => x r_assign <| xe ?_
  have hz7 := hs7.size
  have hl22 := hB22.lt
  have hW7 := hW5.trans hs7
  rw [show (List.replicate n (Value.int .i64 0).cells.toList).flatten = ((List.replicate n 0).map (Value.int .i64)) by rw [show (Value.int .i64 0).cells.toList = [Value.int .i64 0] from rfl, rep_flat, List.map_replicate]] at hB22
  have hw7A : Step [] w3 w7 := hS5.trans hs7
  -- number[i] = -1
  refine W_seq <| W_seq <| W_region (by rfl) ?_
  refine x r_move <| x (r_len rfl) <| x r_move <| xe ?_
  refine W_block <| W_loop (α := Nat) [(5, 5), (25, 31)] (fun k => [(25, .int .i64 k)]) (fun k w' => Step [b22] w7 w' ∧ k ≤ n ∧ Blk w'.heap b22 3 ((List.replicate k (-1) ++ List.replicate (n - k) 0).map (Value.int .i64))) (fun k => n - k) (by rfl) 0 ⟨rfl, trivial⟩
    ⟨Step.refl _ _, Nat.zero_le _, by simpa using hB22⟩ ?_
  rintro k g w8 ⟨hs8, hk, hB8⟩
  refine W_seq <| W_region (by rfl) ?_
  refine x (r_lss rfl rfl) <| xe ?_
  refine W_seq <| W_ifn rfl (fun h26 => ?_) (fun h26 => ?_)
  rotate_left
  · have hlt : k < n := by omega
    refine W_skip ?_
    refine W_seq <| W_block <| W_seq <| W_region (by rfl) ?_
    refine x r_move <| x r_assign <| xe ?_
    refine W_region (by rfl) ?_
    refine x r_move <| x r_move <| x (r_indexB rfl rfl hlt) <| xl rfl <| o_storeI hB8 rfl rfl (by simp; omega) fun w9 hs9 hB9 => xe ?_
    refine W_region (by rfl) ?_
    refine x (r_add rfl rfl ⟨by omega, by omega⟩) <| x r_move <| xe ?_
    refine ⟨k + 1, by omega, ⟨rfl, trivial⟩, hs8.trans' hs9, by omega, ?_⟩
    have e : (List.replicate k (-1 : Int) ++ List.replicate (n - k) 0).set k (-1) = List.replicate (k + 1) (-1) ++ List.replicate (n - (k + 1)) 0 := by
      rw [List.set_append_right _ _ (by simp)]
      obtain ⟨m, hm⟩ : ∃ m, n - k = m + 1 := ⟨n - k - 1, by omega⟩
      rw [hm, show n - (k + 1) = m by omega, List.replicate_succ, List.replicate_succ' (n := k)]
      simp
    rw [e] at hB9; exact hB9
  have hkn : n = k := by omega
  subst hkn
  simp only [Nat.sub_self, List.replicate_zero, List.append_nil] at hB8
  refine W_exit ?_
  refine W_seq <| W_region (by rfl) ?_
  refine x r_move <| x (r_indexB (i := 0) rfl rfl (by omega)) <| xl rfl <| o_storeI (i := 0) hB8 rfl rfl (by simp; omega) fun wS hs9 hBS => xe ?_
  have hzS : w8.heap.size ≤ wS.heap.size := hs9.size
  have hz8 := hs8.size
  have hSS : Step [b22] w7 wS := hs8.trans' hs9
  have hWS : Step [] w wS := hW7.then1 hSS (by omega)
  -- what is kept from here on: all but b3 and b22
  have hA : AutA [b3, b22] wS.heap va vm ve a := (h.up (fun b hb => .inr (by simp at hb; omega))).ext hWS
  have hB1S : Blk wS.heap b1 35 [va, .int .i64 a.st, vm, ve] := ((((hB1.ext hs2).ext hs3).ext hS5).ext hs7).step hSS (by simp; omega)
  have hB2S : Blk wS.heap b2 35 [.slice none 0 0, .int .i64 0, .slice none 0 0, .slice none 0 0] := (((hB2.ext hs3).ext hS5).ext hs7).step hSS (by simp; omega)
  have hB3S : Blk wS.heap b3 35 [r3, .int .i64 0, .slice none 0 0, .slice none 0 0] := (hB3.ext hs7).step hSS (by simp; omega)
  have hr3S : IntsO 3 w2.heap.size wS r3 a.al := own_step (own_ext hr3 hw7A) hSS (fun b hb => by have := own_lt hr3 b hb; simp; omega)
  have hr3lt : ∀ b ∈ ob r3, b < w3.heap.size := own_lt hr3
  have hlb3 : b3 < wS.heap.size := by omega
  have hlb22 : b22 < wS.heap.size := by omega
  have hne : b3 ≠ b22 := by omega
  refine W_seq <| W_region (by rfl) ?_
  refine xl rfl <| o_lits (us := [[.int .i64 0]]) rfl rfl (by decide) (by simp) ⟨rfl, rfl, trivial⟩ fun b34 w10 hs10 hb34 hB34 => x r_assign <| xe ?_
  have ho10 : IntsO 3 wS.heap.size w10 (.slice (some ⟨b34, 0, none⟩) 1 1) [0] := hB34.own (n := 1) (sz := 1) rfl (by omega) (by omega)
  refine W_seq <| W_seq <| W_region (by rfl) ?_
  refine x r_assign <| xe ?_
  -- the search
  have hedle := hok.ed_le
  have hbound : ∀ e ∈ a.ed, 0 ≤ e.1 ∧ e.1 ≤ 1099511627776 := fun e he => by have := hok.ed e he; omega
  refine W_block <| W_loop (α := Nat × Cs × Value × Value × Value) [(6, 9), (11, 11), (35, 100)] (fun z => [(6, z.2.2.1), (7, .int .i64 z.1)])
    (fun z w' => CanI b3 b22 r3 wS z.2.1 z.2.2.1 z.2.2.2.1 z.2.2.2.2 w' ∧ z.1 ≤ z.2.1.ord.length ∧ CsOk a.st z.2.1 ∧ z.2.1.mk'.length ≤ z.1 ∧ z.2.1.ed.length ≤ z.1 * 131072 ∧ canL a (a.st.toNat - z.1) z.1 z.2.1 = canL a a.st.toNat 0 (can0 a))
    (fun z => a.st.toNat - z.1) (by rfl) (0, can0 a, .slice (some ⟨b34, 0, none⟩) 1 1, .slice none 0 0, .slice none 0 0) ⟨rfl, rfl, trivial⟩
    ⟨⟨hs10.any, hB3S.ext hs10, by show Blk _ _ _ (List.map _ ((List.replicate a.st.toNat (-1)).set 0 0)); rw [hnn]; exact hBS.ext hs10, ho10, own_nil _ _ _ _, own_nil _ _ _ _, Dj.nil' _, Dj.nil' _, Dj.nil' _⟩, Nat.zero_le _, can0_ok hpos, Nat.zero_le _, Nat.zero_le _, rfl⟩ ?_
  rintro ⟨i, c, vo, vk, ve'⟩ g2 w11 ⟨hI, hi, hc, hmk, hed, hcan⟩
  simp only [] at hI hi hc hmk hed hcan
  have hcle := hc.le
  have hoA := IntsO.ints (L := []) hI.o (by omega) (by simp)
  have hA11 := hA.st hI.st
  have hB1' := hB1S.step hI.st (by simp; omega)
  refine W_seq <| W_seq <| W_region (by rfl) ?_
  refine x r_move <| x r_move <| x (r_lenA hoA rfl) <| x (r_lss rfl rfl) <| xe ?_
  refine W_ifn rfl (fun h38 => ?_) (fun h38 => ?_)
  · have hend : c = canL a a.st.toNat 0 (can0 a) := by rw [← hcan, canL_done (by omega)]
    refine W_exit ?_
    refine W_seq <| W_region (by rfl) ?_
    refine x r_move <| x (r_lenA hoA rfl) <| x (r_fieldB rfl) <| xl rfl <| o_store hI.B3 rfl rfl (by simp) rfl fun w12 hs12 hB12 => xe ?_
    refine W_seq <| W_region (by rfl) ?_
    have hkA := IntsO.ints (L := []) hI.k (by omega) (by simp)
    have heA := EdsO.eds (L := []) hI.e (by have := hc.el; omega) (by simp)
    have hr3A := IntsO.ints (L := []) hr3 h.al.le (by simp)
    refine x (r_loadsB hB12 rfl rfl) <| xl rfl <| o_stores (us := [r3, .int .i64 c.ord.length, vk, ve']) (((hB2S.step hI.st (by simp; omega))).step hs12 (by simp; omega)) rfl rfl rfl rfl ⟨hr3A.one, rfl, hkA.one, heA.one, trivial⟩ fun w13 hs13 hB13 => xe ?_
    have hE1 : Step [b3, b22] wS w12 := hI.st.then hs12 (fun b hb => .inl (by simp at hb; simp [hb]))
    have hfin : Step [] w w13 := (hWS.then hE1 (fun b hb => .inr (by simp at hb; omega))).then1 hs13 (by omega)
    refine W_ret ⟨[.agg #[r3, .int .i64 c.ord.length, vk, ve']], ⟨⟨_, rfl, run_loadVar_ag rfl (hB13.at (L := []) (by simp)).cells⟩, trivial⟩, hfin, ?_⟩
    unfold canA
    rw [if_neg h18]
    simp only []
    rw [← hend]
    have hNge : w.heap.size ≤ wS.heap.size := hWS.size
    have k1 := own_step (own_step hI.k hs12 (fun b hb => by have := (own_ge hI.k b hb).1; simp; omega)) hs13 (fun b hb => by have := (own_ge hI.k b hb).1; simp; omega)
    have k2 := own_step (own_step hI.e hs12 (fun b hb => by have := (own_ge hI.e b hb).1; simp; omega)) hs13 (fun b hb => by have := (own_ge hI.e b hb).1; simp; omega)
    have k3 := own_step (own_step hr3S hE1 (fun b hb => by have := hr3lt b hb; simp; omega)) hs13 (fun b hb => by have := (own_ge hr3 b hb).1; simp; omega)
    exact ⟨r3, vk, ve', rfl, fun L' hL' => ⟨IntsO.ints k3 h.al.le (fun b hb => by have := hL' b hb; omega), IntsO.ints k1 (by show c.mk'.length ≤ _; omega) (fun b hb => by have := hL' b hb; omega), EdsO.eds k2 (by show c.ed.length ≤ _; have := hc.el; omega) (fun b hb => by have := hL' b hb; omega)⟩⟩
  have hlt : i < c.ord.length := by omega
  refine W_skip ?_
  -- marked
  refine W_seq <| W_block <| W_cut (α := Value) [(8, 9), (41, 57)] (fun z => []) (fun z w' => CanI b3 b22 r3 wS (markC a i c) vo z ve' w') (by rfl) ?_ ?_
  · refine W_seq <| W_draw (Step [] w11) [(0, true), (1, true), (2, true), (3, true), (4, true), (5, true), (6, false), (7, true), (8, true), (9, true), (10, true), (11, true)] Tryz.mixed (by rfl) (by kernel_rfl) (Step.drew _ _) ?_
    refine p (fun _ => r_fieldB rfl) <| pq (fun _ hc => r_loadB (hB1'.ext hc) rfl rfl) <| p (fun _ => r_move) <| p (fun _ => r_move) <| pii rfl hoA rfl rfl hlt fun a46 h46 =>
      pq (fun _ hc => r_loadA (h46.ext hc) rfl) <| pk <| xf <| (bsearch_ok (hA11.mr.ext (Step.drew _ _)) hok.mri _).mono ?_
    rintro r14 w14 ⟨rfl, j14, rfl⟩
    refine ⟨Step.drew _ _, ?_⟩
    refine p (fun _ => r_move) <| p (fun _ => r_extract rfl rfl) <| p (fun _ => r_extract rfl rfl) <| p (fun _ => r_assign) <| p (fun _ => r_assign) <| pe ?_
    have hI' := hI.ext (Step.drew [] w11)
    refine W_seq <| W_region (by rfl) ?_
    refine x r_move <| xe ?_
    have hgi : getI c.ord i = c.ord[i] := getI_eq (by simpa using hlt)
    refine W_ifn rfl (fun h51 => ?_) (fun h51 => ?_)
    · refine W_skip ?_
      refine ⟨vk, trivial, ?_⟩
      unfold markC; rw [hgi, if_neg h51]; exact hI'
    refine W_region (by rfl) ?_
    refine x (r_fieldB rfl) <| x (r_loadB hI'.B3 rfl rfl) <| x r_move <| xl rfl <| o_lits (us := [[.int .i64 i]]) rfl rfl (by decide) (by simp) ⟨rfl, rfl, trivial⟩ fun b55 w15 hs15 hb55 hB55 => ?_
    have hI15 := hI'.ext hs15
    refine xl rfl <| o_app (news := [.int .i64 i]) (L := []) hI15.k rfl rfl rfl (hB55.at (by simp)) (by simp [Value.oneCell']) (by omega) hI15.st.size fun v16 w16 ho16 hs16 hn16 => ?_
    have hk16 : IntsO 3 wS.heap.size w16 v16 (c.mk' ++ [(i : Int)]) := IntsO.snoc ho16
    refine x (r_fieldB rfl) <| xl rfl <| o_store (hI15.B3.step hs16 (own_notin hI15.k hlb3)) rfl rfl (by simp) (IntsO.ints (L := []) hk16 (by simp; omega) (by simp)).one fun w17 hs17 hB17 => xe ?_
    refine ⟨v16, trivial, ?_⟩
    unfold markC; rw [hgi, if_pos h51]
    exact hI15.setK hlb3 hlb22 hne hs16 hk16 hn16 hs17 hB17
  rintro vk2 g3 w18 hI2
  have hc2 : CsOk a.st (markC a i c) := markC_ok hc
  have hord2 : (markC a i c).ord = c.ord := by unfold markC; split <;> rfl
  have hed2 : (markC a i c).ed = c.ed := by unfold markC; split <;> rfl
  have hmk2 : (markC a i c).mk'.length ≤ i + 1 := by
    unfold markC; split
    · simp only [List.length_append, List.length_singleton]; omega
    · omega
  have hoA2 : Ints [] w18.heap vo (markC a i c).ord := IntsO.ints (L := []) hI2.o (by rw [hord2]; omega) (by simp)
  rw [hord2] at hoA2
  have hW18 : Step [] w w18 := hWS.then hI2.st (fun b hb => .inr (by simp at hb; omega))
  have hNw := hWS.size
  have hA18 : AutA (b3 :: b22 :: (ob vo ++ ob ve')) w18.heap va vm ve a := (h.up (fun b hb => .inr (by
    simp only [List.mem_cons, List.mem_append] at hb
    rcases hb with rfl | rfl | hb | hb
    · omega
    · omega
    · have := (own_ge hI2.o b hb).1; omega
    · have := (own_ge hI2.e b hb).1; omega))).ext hW18
  have hB1'' := hB1S.step hI2.st (by simp; omega)
  have hs := hc.ord c.ord[i] (List.getElem_mem hlt)
  refine W_seq <| W_draw (Step [] w18) [(0, true), (1, true), (2, true), (3, true), (4, true), (7, true), (5, false), (6, true)] Tryz.mixed (by rfl) (by kernel_rfl) (Step.drew _ _) ?_
  refine pq (fun _ hc => r_loadsB (hB1''.ext hc) rfl rfl) <| p (fun _ => r_move) <| p (fun _ => r_move) <| pii rfl hoA2 rfl rfl hlt fun a61 h61 =>
    pq (fun _ hc => r_loadA (h61.ext hc) rfl) <| p (fun _ => r_move) <| pk <| xf <| (out_ok (hA18.ed.ext (Step.drew _ _)) hok.eds hbound c.ord[i] hs.1 (by omega)).mono ?_
  rintro r19 w19 ⟨hs19, hr19⟩
  have hs19' : Step [] w18 w19 := (Step.drew [] w18).trans hs19
  refine ⟨hs19', ?_⟩
  refine p (fun _ => r_lenA hr19 rfl) <| pe ?_
  have hI3 := hI2.ext hs19'
  have hgi : getI c.ord i = c.ord[i] := getI_eq (by simpa using hlt)
  have hol := outE_len a.ed c.ord[i]
  have hrow : rowC a i c = (outE a.ed c.ord[i]).foldl (stepE i) (markC a i c) := by unfold rowC; rw [hgi]
  generalize hos : outE a.ed c.ord[i] = os at *
  have hosm : ∀ e ∈ os, 0 ≤ e.2.2 ∧ e.2.2 < a.st := fun e he => by rw [← hos] at he; have := hok.ed e (outE_mem he).1; omega
  -- the edges of the state
  refine W_block <| W_loop (α := Nat × Cs × Value × Value) [(6, 6), (11, 11), (65, 100)] (fun z => [(6, z.2.2.1), (65, .int .i64 z.1)])
    (fun z w' => CanI b3 b22 r3 wS z.2.1 z.2.2.1 vk2 z.2.2.2 w' ∧ Step (b3 :: b22 :: (ob vo ++ ob ve')) w19 w' ∧ (∀ b ∈ ob z.2.2.1, b ∈ ob vo ∨ w19.heap.size ≤ b) ∧ (∀ b ∈ ob z.2.2.2, b ∈ ob ve' ∨ w19.heap.size ≤ b) ∧ z.1 ≤ os.length ∧ CsOk a.st z.2.1 ∧ z.2.1.mk' = (markC a i c).mk' ∧ z.2.1.ed.length = c.ed.length + z.1 ∧ c.ord.length ≤ z.2.1.ord.length ∧ (os.drop z.1).foldl (stepE i) z.2.1 = rowC a i c)
    (fun z => os.length - z.1) (by rfl) (0, markC a i c, vo, ve') ⟨rfl, rfl, trivial⟩
    ⟨hI3, Step.refl _ _, fun _ hb => .inl hb, fun _ hb => .inl hb, Nat.zero_le _, hc2, rfl, by simp [hed2], by simp [hord2], by rw [hrow]; rfl⟩ ?_
  rintro ⟨k, d, vo2, ve2⟩ g4 w20 ⟨hI4, hS4, hv4, hw4, hk4, hc4, hm4, he4, ho4, hf4⟩
  simp only [] at hI4 hS4 hv4 hw4 hk4 hc4 hm4 he4 ho4 hf4
  refine W_seq <| W_region (by rfl) ?_
  refine x (r_lss rfl rfl) <| xe ?_
  refine W_seq <| W_ifn rfl (fun h66 => ?_) (fun h66 => ?_)
  · rw [List.drop_of_length_le (by omega), List.foldl_nil] at hf4
    subst hf4
    refine W_exit ?_
    refine W_region (by rfl) ?_
    refine x r_move <| x (r_add rfl rfl ⟨by omega, by omega⟩) <| x r_assign <| xe ?_
    have hcle4 := hc4.le
    refine ⟨(i + 1, rowC a i c, vo2, vk2, ve2), by simp only []; omega, ⟨rfl, rfl, trivial⟩, hI4, by simp only []; omega, hc4, by simp only []; rw [hm4]; exact hmk2, by simp only []; omega, ?_⟩
    simp only []
    rw [← hcan]
    obtain ⟨m, hm⟩ : ∃ m, a.st.toNat - i = m + 1 := ⟨a.st.toNat - i - 1, by omega⟩
    rw [hm, canL, if_pos hlt, show a.st.toNat - (i + 1) = m by omega]
  have hlt4 : k < os.length := by omega
  have hdr := drop_cons hlt4
  rw [hdr, List.foldl_cons] at hf4
  have hto := hosm os[k] (List.getElem_mem hlt4)
  have hr20 := hr19.st hS4
  have hcle4 := hc4.le
  have hz19 := hs19'.size
  have hzS4 := hS4.size
  have hz18 := hI2.st.size
  have hI4z := hI4.st.size
  have hoA4 := IntsO.ints (L := []) hI4.o (by omega) (by simp)
  obtain ⟨q, hq⟩ : ∃ q : Nat, os[k].2.2 = q := ⟨os[k].2.2.toNat, by omega⟩
  have hqn : os[k].2.2.toNat = q := by omega
  have hqk : q < n := by omega
  have hqd : q < d.num.length := by rw [hc4.nl]; omega
  have hgq : getI d.num os[k].2.2 = d.num[q] := by rw [getI_eq (by omega)]; simp only [hqn]
  have hle4 := own_lt hI4.e
  have hlo4 := own_lt hI4.o
  refine W_skip ?_
  refine W_seq <| W_block <| W_seq <| W_region (by rfl) ?_
  refine xie hr20 rfl rfl hlt4 fun a67 h67 => x (r_loadsA h67 rfl rfl) <| xl rfl <| o_alloc (us := [.int .i64 0, .int .i64 0, .int .i64 0]) rfl fun b11 w21 hs21 hb11 hB11 => xl rfl <| o_stores (us := edCells os[k]) hB11 rfl rfl rfl rfl ⟨rfl, rfl, rfl, trivial⟩ fun w22 hs22 hB11 => xe ?_
  have hS22 : Step [] w20 w22 := hs21.then1 hs22 hb11
  have hI5 := hI4.ext hS22
  have hz22 := hS22.size
  have hl11 := hB11.lt
  have hS5 := hS4.trans hS22
  refine W_cut (α := Value) [(6, 6), (69, 85)] (fun z => [(6, z)]) (fun z w' => CanI b3 b22 r3 wS (numC d os[k]) z vk2 ve2 w' ∧ Step (b3 :: b22 :: (ob vo ++ ob ve')) w19 w' ∧ (∀ b ∈ ob z, b ∈ ob vo ∨ w19.heap.size ≤ b) ∧ Blk w'.heap b11 85 (edCells os[k])) (by rfl) ?_ ?_
  · refine W_seq <| W_region (by rfl) ?_
    refine x r_move <| x (r_fieldB rfl) <| x (r_loadB hB11 rfl rfl) <| x (r_indexB rfl (congrArg (Value.int .i64) hq) hqk) <| x (r_loadI hI5.B22 rfl hqd) <| x (r_lss rfl rfl) <| xe ?_
    refine W_ifn rfl (fun h74 => ?_) (fun h74 => ?_)
    · refine W_skip ?_
      refine ⟨vo2, ⟨rfl, trivial⟩, ?_, hS5, hv4, hB11⟩
      unfold numC; rw [hgq, if_neg h74]; exact hI5
    refine W_seq <| W_region (by rfl) ?_
    refine x r_move <| x (r_fieldB rfl) <| x (r_loadB hB11 rfl rfl) <| x r_move <| x (r_lenA hoA4 rfl) <| x (r_indexB rfl (congrArg (Value.int .i64) hq) hqk) <| xl rfl <| o_storeI hI5.B22 rfl rfl hqd fun w23 hs23 hB23 => xe ?_
    have hI6 := hI5.setN hlb22 hne hs23 hB23
    have hB11' := hB11.step hs23 (by simp; omega)
    refine W_region (by rfl) ?_
    refine x r_move <| x (r_fieldB rfl) <| x (r_loadB hB11' rfl rfl) <| xl rfl <| o_lits (us := [[.int .i64 os[k].2.2]]) rfl rfl (by decide) (by simp) ⟨rfl, rfl, trivial⟩ fun b84 w24 hs24 hb84 hB84 => ?_
    have hI7 := hI6.ext hs24
    refine xl rfl <| o_app (news := [.int .i64 os[k].2.2]) (L := []) hI7.o rfl rfl rfl (hB84.at (by simp)) (by simp [Value.oneCell']) (by show d.ord.length + 1 ≤ _; omega) hI7.st.size fun v25 w25 ho25 hs25 hn25 => x r_assign <| xe ?_
    have hk25 : IntsO 3 wS.heap.size w25 v25 (d.ord ++ [os[k].2.2]) := IntsO.snoc ho25
    have hz23 := hs23.size
    have hz24 := hs24.size
    refine ⟨v25, ⟨rfl, trivial⟩, ?_, ?_, ?_, (hB11'.ext hs24).step hs25 (fun hb => by have := hlo4 _ hb; omega)⟩
    · unfold numC; rw [hgq, if_pos h74, hqn]
      exact hI7.setO hlb3 hlb22 hs25 hk25 hn25
    · refine ((hS5.then hs23 (fun b hb => .inl ?_)).trans hs24).then hs25 (fun b hb => ?_)
      · simp at hb; simp [hb]
      · rcases hv4 b hb with h1 | h1
        · exact .inl (by simp [h1])
        · exact .inr h1
    · intro b hb
      rcases hn25 b hb with h1 | h1
      · exact hv4 b h1
      · exact .inr (by omega)
  rintro vo3 g5 w26 ⟨hI8, hS8, hv8, hB8'⟩
  have hd2 : stepE i d os[k] = ⟨(numC d os[k]).ord, (numC d os[k]).num, (numC d os[k]).mk', (numC d os[k]).ed ++ [((i : Int), os[k].2.1, getI (numC d os[k]).num os[k].2.2)]⟩ := stepE_numC (by omega)
  have hnl : q < (numC d os[k]).num.length := by rw [numC_nl]; exact hqd
  have hg2 : getI (numC d os[k]).num os[k].2.2 = (numC d os[k]).num[q] := by rw [getI_eq (by omega)]; simp only [hqn]
  have hne3 := own_notin hI8.e hlb3
  have hne22 := own_notin hI8.e hlb22
  have hne11 : b11 ∉ ob ve2 := fun hb => by have := hle4 _ hb; omega
  have hedn : (numC d os[k]).ed = d.ed := by unfold numC; split <;> rfl
  have hc5 : CsOk a.st (stepE i d os[k]) := stepE_ok hc4 hto.1 hto.2 (by rw [he4]; omega)
  refine W_draw (Step (ob ve2) w26) [(0, true), (1, true), (2, true), (3, true), (4, true), (5, true), (6, true), (7, true), (8, true), (9, true), (10, true), (11, false), (12, false), (13, true), (14, false)] Tryz.mixed (by rfl) (by kernel_rfl) (Step.drew _ _) ?_
  refine p (fun _ => r_fieldB rfl) <| pq (fun _ hc => r_loadB (hI8.B3.step hc hne3) rfl rfl) <| p (fun _ => r_move) <| p (fun _ => r_fieldB rfl) <| pq (fun _ hc => r_loadB (hB8'.step hc hne11) rfl rfl) <|
    p (fun _ => r_move) <| p (fun _ => r_fieldB rfl) <| pq (fun _ hc => r_loadB (hB8'.step hc hne11) rfl rfl) <| p (fun _ => r_indexB rfl (congrArg (Value.int .i64) hq) hqk) <|
    pq (fun _ hc => r_loadI (hI8.B22.step hc hne22) rfl hnl) <| p (fun _ => r_build ⟨rfl, rfl, rfl, trivial⟩) <| pk <| o_lits (us := [edCells ((i : Int), os[k].2.1, (numC d os[k]).num[q])]) rfl rfl (by decide) (by exact (by decide : 1 * 3 ≤ 1000000)) ⟨rfl, rfl, trivial⟩ fun b97 w27 hs27 hb97 hB97 => ?_
  have hs27' : Step [] w26 w27 := (Step.drew [] w26).trans hs27
  refine ⟨hs27'.any, ?_⟩
  have hI9 := hI8.ext hs27'
  refine pk <| o_app (news := edCells ((i : Int), os[k].2.1, (numC d os[k]).num[q])) (L := []) hI9.e rfl rfl rfl (hB97.at (by simp)) (fun u hu => by simp only [edCells, List.mem_cons, List.not_mem_nil, or_false] at hu; rcases hu with rfl | rfl | rfl <;> rfl) (by rw [hedn]; have := hc4.el; omega) hI9.st.size fun v28 w28 ho28 hs28 hn28 => ?_
  refine ⟨hs27'.any.trans' hs28, ?_⟩
  have hk28 : EdsO 85 wS.heap.size w28 v28 ((numC d os[k]).ed ++ [((i : Int), os[k].2.1, (numC d os[k]).num[q])]) := EdsO.snoc ho28
  refine p (fun _ => r_fieldB rfl) <| pkl (hl := by kernel_rfl) <| o_store (hI9.B3.step hs28 hne3) rfl rfl (by simp) (EdsO.eds (L := []) hk28 (by simp [hedn]; have := hc4.el; omega) (by simp)).one fun w29 hs29 hB29 => pe ?_
  have hIA := hI9.setE hlb3 hlb22 hne hs28 hk28 hn28 hs29 hB29
  rw [← hg2] at hIA
  rw [← hd2] at hIA
  refine W_region (by rfl) ?_
  refine x (r_add rfl rfl ⟨by omega, by omega⟩) <| x r_move <| xe ?_
  have hz26 := hS8.size
  have hz27 := hs27'.size
  refine ⟨(k + 1, stepE i d os[k], vo3, v28), by simp only []; omega, ⟨rfl, rfl, trivial⟩, hIA, ?_, hv8, ?_, by simp only []; omega, hc5, ?_, ?_, ?_, hf4⟩
  · refine (((hS8.trans hs27')).then hs28 (fun b hb => ?_)).then hs29 (fun b hb => .inl (by simp at hb; simp [hb]))
    rcases hw4 b hb with h1 | h1
    · exact .inl (by simp [h1])
    · exact .inr h1
  · intro b hb
    rcases hn28 b hb with h1 | h1
    · exact hw4 b h1
    · exact .inr (by omega)
  · simp only []; rw [← hm4, hd2]; simp only []; unfold numC; split <;> rfl
  · simp only []; rw [stepE_ed, he4]; omega
  · simp only []; rw [hd2]; simp only []; unfold numC; split
    · simp only [List.length_append]; omega
    · omega
end Go.Proofs.YtfhgnlkdcdlblaaGreatDoor
/-
  DERIVED: THE SHELF's CONTRACTS AT THIS DUMP, IN PLAIN WORDS (tools/lay-plain.mjs out of 'TryzShelf.lean', which tools/lay-shelf.mjs wrote): THE SAME DECLARATIONS UNDER THE SAME NAMES: 'import', 'namespace', 'open', 'def', 'theorem' AND NOTHING ELSE: no command of the shelf's: FOR A HAND-IN. Each laying: the table of numbers ('.._ren') and one theorem, a field a fact of the dump's own or the kernel's comparison; each contract: ONE APPLICATION.
-/
namespace Go.Proofs
open Go.Shelf
def Tryz.lays169_ren : Go.Shelf.Ren := ⟨fun | 169 => 104 | n => n, fun | 70 => 160 | 9 => 9 | 0 => 0 | 72 => 163 | 37 => 161 | 127 => 173 | 3 => 3 | 5 => 5 | n => n, fun | n => n⟩
theorem Tryz.lays169 : Go.Proofs.Lays.n169 Tryz.prog Tryz.lays169_ren := {
  mixed := by kernel_rfl
  f169 := Tryz.func104.trans (congrArg some (by kernel_rfl))
  t0 := Tryz.underlying0
  a0 := Tryz.isAgg0
  z0 := Tryz.sizeOf0
  v0 := Tryz.zeroValue0
  t3 := Tryz.underlying3
  a3 := Tryz.isAgg3
  z3 := Tryz.sizeOf3
  v3 := Tryz.zeroValue3
  t9 := Tryz.underlying9
  a9 := Tryz.isAgg9
  z9 := Tryz.sizeOf9
  v9 := Tryz.zeroValue9
  t37 := Tryz.underlying161
  a37 := Tryz.isAgg161
  z37 := Tryz.sizeOf161
  v37 := Tryz.zeroValue161
  t70 := Tryz.underlying160
  a70 := Tryz.isAgg160
  z70 := Tryz.sizeOf160
  v70 := Tryz.zeroValue160
  t72 := Tryz.underlying163
  a72 := Tryz.isAgg163
  z72 := Tryz.sizeOf163
  v72 := Tryz.zeroValue163
  t127 := Tryz.underlying173
  a127 := Tryz.isAgg173
  z127 := Tryz.sizeOf173
  v127 := Tryz.zeroValue173 }
theorem Tryz.Builder_Extra_169 : Builder.Extra Tryz.prog Tryz.lays169_ren := {
  sizeBuilder := by kernel_rfl
  liesBuilder := by kernel_rfl
  t5 := Tryz.underlying5
  a5 := Tryz.isAgg5
  z5 := Tryz.sizeOf5
  v5 := Tryz.zeroValue5
  infoByte := by kernel_rfl
  cellsByte := by kernel_rfl
  sizeByte := by kernel_rfl
  neB5 := by decide }
open Go.RowKit in
/-- (*strings.Builder).String: "String returns the accumulated string.": OF A BUILDER THAT HOLDS AT LEAST ONE BYTE. ✋ THE MODEL FREEZES THOSE BYTES IN THE BUFFER (unsafe.String): a later write INTO them ends the model's run without an answer; a later append BEHIND them goes on. The statement's order of evaluation is drawn: one draw. (LAID: no walk: one application.) -/
theorem Tryz.Builder_String (B b : Nat) (l : List UInt8) (w : World) (h : Lib.IsBuilder 163 5 B b (Lib.byteCells l) w) (h0 : l ≠ []) :
    Calls Tryz.prog 104 #[.pointer (some ⟨b, 0, none⟩)] w fun e w' => e = .returned (.string ⟨l.toArray⟩) ∧ Below B w w' := Any.Builder_String Tryz.lays169 Tryz.Builder_Extra_169 B b l w h h0
open Go.RowKit in
/-- (*strings.Builder).String OF A BUILDER THAT HOLDS NO BYTE: the empty string. (Its buffer is nil, or a row of which it has taken nothing yet; where that row has NO capacity the model lays one new block for unsafe.SliceData's 'some address'.) One draw. (LAID: no walk: one application.) -/
theorem Tryz.Builder_String_empty (B b : Nat) (w : World) (h : Lib.IsBuilder 163 5 B b [] w) (hBw : B ≤ w.heap.size) :
    Calls Tryz.prog 104 #[.pointer (some ⟨b, 0, none⟩)] w fun e w' => e = .returned (.string ⟨#[]⟩) ∧ Below B w w' := Any.Builder_String_empty Tryz.lays169 Tryz.Builder_Extra_169 B b w h hBw
open Go.RowKit in
/-- (*strings.Builder).String: "String returns the accumulated string.": WHATEVER THE BUILDER HOLDS. (LAID: no walk: one application.) -/
theorem Tryz.Builder_String_any (B b : Nat) (l : List UInt8) (w : World) (h : Lib.IsBuilder 163 5 B b (Lib.byteCells l) w) (hBw : B ≤ w.heap.size) :
    Calls Tryz.prog 104 #[.pointer (some ⟨b, 0, none⟩)] w fun e w' => e = .returned (.string ⟨l.toArray⟩) ∧ Below B w w' := Any.Builder_String_any Tryz.lays169 Tryz.Builder_Extra_169 B b l w h hBw
open Go.RowKit in
/-- (*strings.Builder).String: "String returns the accumulated string.": OF A BUILDER THAT HOLDS AT LEAST ONE BYTE. ✋ THE MODEL FREEZES THOSE BYTES IN THE BUFFER (unsafe.String): a later write INTO them ends the model's run without an answer; a later append BEHIND them goes on. The statement's order of evaluation is drawn: one draw. THE FORM '_f': IT SAYS BESIDES THAT THE BUILDER IS A BUILDER STILL ('Lib.IsBuilderF', the same bytes): SO IT CAN BE WRITTEN ON: 'b.WriteString(b.String()[:k])'. (LAID: no walk: one application.) -/
theorem Tryz.Builder_String_f (B b : Nat) (l : List UInt8) (w : World) (h : Lib.IsBuilderF 163 5 B b (Lib.byteCells l) w) (h0 : l ≠ []) :
    Calls Tryz.prog 104 #[.pointer (some ⟨b, 0, none⟩)] w fun e w' => e = .returned (.string ⟨l.toArray⟩) ∧ (Lib.IsBuilderF 163 5 B b (Lib.byteCells l) w' ∧ Below B w w') := Any.Builder_String_f Tryz.lays169 Tryz.Builder_Extra_169 B b l w h h0
open Go.RowKit in
/-- (*strings.Builder).String OF A BUILDER THAT HOLDS NO BYTE: the empty string; THE FORM '_f': a builder still. (LAID: no walk: one application.) -/
theorem Tryz.Builder_String_empty_f (B b : Nat) (w : World) (h : Lib.IsBuilderF 163 5 B b [] w) (hBw : B ≤ w.heap.size) :
    Calls Tryz.prog 104 #[.pointer (some ⟨b, 0, none⟩)] w fun e w' => e = .returned (.string ⟨#[]⟩) ∧ (Lib.IsBuilderF 163 5 B b [] w' ∧ Below B w w') := Any.Builder_String_empty_f Tryz.lays169 Tryz.Builder_Extra_169 B b w h hBw
open Go.RowKit in
/-- (*strings.Builder).String: "String returns the accumulated string.": WHATEVER THE BUILDER HOLDS; THE FORM '_f': OF A BUILDER THAT MAY HAVE BEEN READ BEFORE; AND IT IS A BUILDER STILL, holding the same bytes: it can be written on. (LAID: no walk: one application.) -/
theorem Tryz.Builder_String_any_f (B b : Nat) (l : List UInt8) (w : World) (h : Lib.IsBuilderF 163 5 B b (Lib.byteCells l) w) (hBw : B ≤ w.heap.size) :
    Calls Tryz.prog 104 #[.pointer (some ⟨b, 0, none⟩)] w fun e w' => e = .returned (.string ⟨l.toArray⟩) ∧ (Lib.IsBuilderF 163 5 B b (Lib.byteCells l) w' ∧ Below B w w') := Any.Builder_String_any_f Tryz.lays169 Tryz.Builder_Extra_169 B b l w h hBw
open Go.RowKit in
/-- (*strings.Builder).String: "String returns the accumulated string.": OF A BUILDER THAT HOLDS AT LEAST ONE BYTE. ✋ THE MODEL FREEZES THOSE BYTES IN THE BUFFER (unsafe.String): a later write INTO them ends the model's run without an answer; a later append BEHIND them goes on. The statement's order of evaluation is drawn: one draw. THE FORM '_k': OVER 'Lib.IsBuilderF' (a builder that 'String()' may have read), AND WITH THE FRAME THAT REACHES ABOVE THE BUILDER: 'Lib.OthersKept': every block that is not b and is no row of uint8's stands as it stood: the iterator of a range among them. (LAID: no walk: one application.) -/
theorem Tryz.Builder_String_k (B b : Nat) (l : List UInt8) (w : World) (h : Lib.IsBuilderF 163 5 B b (Lib.byteCells l) w) (h0 : l ≠ []) :
    Calls Tryz.prog 104 #[.pointer (some ⟨b, 0, none⟩)] w fun e w' => e = .returned (.string ⟨l.toArray⟩) ∧ (Lib.IsBuilderF 163 5 B b (Lib.byteCells l) w' ∧ Below B w w' ∧ Lib.OthersKept 5 (some b) w w') := Any.Builder_String_k Tryz.lays169 Tryz.Builder_Extra_169 B b l w h h0
open Go.RowKit in
/-- (*strings.Builder).String OF A BUILDER THAT HOLDS NO BYTE: the empty string; THE FORM '_k': OVER 'Lib.IsBuilderF' (a builder that 'String()' may have read), AND WITH THE FRAME THAT REACHES ABOVE THE BUILDER: 'Lib.OthersKept': every block that is not b and is no row of uint8's stands as it stood: the iterator of a range among them. (LAID: no walk: one application.) -/
theorem Tryz.Builder_String_empty_k (B b : Nat) (w : World) (h : Lib.IsBuilderF 163 5 B b [] w) (hBw : B ≤ w.heap.size) :
    Calls Tryz.prog 104 #[.pointer (some ⟨b, 0, none⟩)] w fun e w' => e = .returned (.string ⟨#[]⟩) ∧ (Lib.IsBuilderF 163 5 B b [] w' ∧ Below B w w' ∧ Lib.OthersKept 5 (some b) w w') := Any.Builder_String_empty_k Tryz.lays169 Tryz.Builder_Extra_169 B b w h hBw
open Go.RowKit in
/-- (*strings.Builder).String: "String returns the accumulated string.": WHATEVER THE BUILDER HOLDS; THE FORM '_k': OVER 'Lib.IsBuilderF' (a builder that 'String()' may have read), AND WITH THE FRAME THAT REACHES ABOVE THE BUILDER: 'Lib.OthersKept': every block that is not b and is no row of uint8's stands as it stood: the iterator of a range among them. (LAID: no walk: one application.) -/
theorem Tryz.Builder_String_any_k (B b : Nat) (l : List UInt8) (w : World) (h : Lib.IsBuilderF 163 5 B b (Lib.byteCells l) w) (hBw : B ≤ w.heap.size) :
    Calls Tryz.prog 104 #[.pointer (some ⟨b, 0, none⟩)] w fun e w' => e = .returned (.string ⟨l.toArray⟩) ∧ (Lib.IsBuilderF 163 5 B b (Lib.byteCells l) w' ∧ Below B w w' ∧ Lib.OthersKept 5 (some b) w w') := Any.Builder_String_any_k Tryz.lays169 Tryz.Builder_Extra_169 B b l w h hBw
def Tryz.laysM171_ren : Go.Shelf.Ren := ⟨fun | 171 => 102 | 243 => 109 | 246 => 112 | 283 => 113 | 284 => 114 | 285 => 115 | 286 => 116 | 129 => 118 | 317 => 117 | 318 => 119 | 319 => 120 | 320 => 121 | 337 => 122 | 338 => 123 | n => n, fun | 3 => 3 | 9 => 9 | 2 => 2 | 4 => 4 | 171 => 177 | 0 => 0 | 53 => 178 | 37 => 161 | 5 => 5 | 173 => 181 | 212 => 184 | 51 => 185 | 20 => 20 | 213 => 186 | 46 => 171 | 232 => 189 | 233 => 190 | n => n, fun | 17 => 0 | 18 => 1 | 19 => 2 | n => n⟩
theorem Tryz.laysM171 : Go.Proofs.LaysM.n171 Tryz.prog Tryz.laysM171_ren := {
  mixed := by kernel_rfl
  f129 := Tryz.func118.trans (congrArg some (by kernel_rfl))
  f171 := Tryz.func102.trans (congrArg some (by kernel_rfl))
  f243 := Tryz.func109.trans (congrArg some (by kernel_rfl))
  f246 := Tryz.func112.trans (congrArg some (by kernel_rfl))
  f283 := Tryz.func113.trans (congrArg some (by kernel_rfl))
  f284 := Tryz.func114.trans (congrArg some (by kernel_rfl))
  f285 := Tryz.func115.trans (congrArg some (by kernel_rfl))
  f286 := Tryz.func116.trans (congrArg some (by kernel_rfl))
  f317 := Tryz.func117.trans (congrArg some (by kernel_rfl))
  f318 := Tryz.func119.trans (congrArg some (by kernel_rfl))
  f319 := Tryz.func120.trans (congrArg some (by kernel_rfl))
  f320 := Tryz.func121.trans (congrArg some (by kernel_rfl))
  f337 := Tryz.func122.trans (congrArg some (by kernel_rfl))
  f338 := Tryz.func123.trans (congrArg some (by kernel_rfl))
  t0 := Tryz.underlying0
  a0 := Tryz.isAgg0
  z0 := Tryz.sizeOf0
  v0 := Tryz.zeroValue0
  t2 := Tryz.underlying2
  a2 := Tryz.isAgg2
  z2 := Tryz.sizeOf2
  v2 := Tryz.zeroValue2
  t3 := Tryz.underlying3
  a3 := Tryz.isAgg3
  z3 := Tryz.sizeOf3
  v3 := Tryz.zeroValue3
  t4 := Tryz.underlying4
  a4 := Tryz.isAgg4
  z4 := Tryz.sizeOf4
  v4 := Tryz.zeroValue4
  t5 := Tryz.underlying5
  a5 := Tryz.isAgg5
  z5 := Tryz.sizeOf5
  v5 := Tryz.zeroValue5
  t9 := Tryz.underlying9
  a9 := Tryz.isAgg9
  z9 := Tryz.sizeOf9
  v9 := Tryz.zeroValue9
  t20 := Tryz.underlying20
  a20 := Tryz.isAgg20
  z20 := Tryz.sizeOf20
  v20 := Tryz.zeroValue20
  t37 := Tryz.underlying161
  a37 := Tryz.isAgg161
  z37 := Tryz.sizeOf161
  v37 := Tryz.zeroValue161
  t46 := Tryz.underlying171
  a46 := Tryz.isAgg171
  z46 := Tryz.sizeOf171
  v46 := Tryz.zeroValue171
  t51 := Tryz.underlying185
  a51 := Tryz.isAgg185
  z51 := Tryz.sizeOf185
  v51 := Tryz.zeroValue185
  t53 := Tryz.underlying178
  a53 := Tryz.isAgg178
  z53 := Tryz.sizeOf178
  v53 := Tryz.zeroValue178
  t171 := Tryz.underlying177
  a171 := Tryz.isAgg177
  z171 := Tryz.sizeOf177
  v171 := Tryz.zeroValue177
  t173 := Tryz.underlying181
  a173 := Tryz.isAgg181
  z173 := Tryz.sizeOf181
  v173 := Tryz.zeroValue181
  t212 := Tryz.underlying184
  a212 := Tryz.isAgg184
  z212 := Tryz.sizeOf184
  v212 := Tryz.zeroValue184
  t213 := Tryz.underlying186
  a213 := Tryz.isAgg186
  z213 := Tryz.sizeOf186
  t232 := Tryz.underlying189
  a232 := Tryz.isAgg189
  z232 := Tryz.sizeOf189
  v232 := Tryz.zeroValue189
  t233 := Tryz.underlying190
  a233 := Tryz.isAgg190
  z233 := Tryz.sizeOf190
  v233 := Tryz.zeroValue190
  g17 := by kernel_rfl
  g18 := by kernel_rfl
  g19 := by kernel_rfl
  i0 := by kernel_rfl
  i2 := by kernel_rfl
  i3 := by kernel_rfl
  i4 := by kernel_rfl
  i5 := by kernel_rfl
  i9 := by kernel_rfl
  i20 := by kernel_rfl
  i37 := by kernel_rfl
  i46 := by kernel_rfl
  i51 := by kernel_rfl
  i53 := by kernel_rfl
  i171 := by kernel_rfl
  i173 := by kernel_rfl
  i212 := by kernel_rfl
  i232 := by kernel_rfl
  i233 := by kernel_rfl
  m17 := by kernel_rfl
  m18 := by kernel_rfl
  m19 := by kernel_rfl }
open Go.RowKit Go.Sort Go.Lib in
/-- strconv.Itoa: "Itoa is equivalent to FormatInt(int64(i), 10).": i's DECIMAL NUMERAL ('Lib.itoa': a '-' where i is negative, then the digits), FOR EVERY int. The world behind the call: the world before it, new blocks behind the heap (the library's 'var a [24]byte'), draws. (LAID: no walk: one application.) -/
theorem Tryz.strconv_Itoa (n : Int) (h0 : -9223372036854775808 ≤ n) (h1 : n ≤ 9223372036854775807) (w : World) (htab : Lib.TabIs Tryz.prog w "internal/strconv.uint64pow10" .u64 Lib.pow10Tab) :
    Calls Tryz.prog 102 #[.int .i64 n] w fun e w' => e = .returned (.string ⟨(Lib.itoa n).toArray⟩) ∧ ∃ k os, w' = grow (w.drewN k) os := Any.strconv_Itoa Tryz.laysM171 n h0 h1 w htab
def Tryz.lays171_ren : Go.Shelf.Ren := ⟨fun | 171 => 102 | 243 => 109 | 246 => 112 | 283 => 113 | 284 => 114 | 285 => 115 | 286 => 116 | 129 => 118 | 317 => 117 | 318 => 119 | 319 => 120 | 320 => 121 | 337 => 122 | 338 => 123 | n => n, fun | 3 => 3 | 9 => 9 | 2 => 2 | 4 => 4 | 171 => 177 | 0 => 0 | 53 => 178 | 37 => 161 | 5 => 5 | 173 => 181 | 212 => 184 | 51 => 185 | 20 => 20 | 213 => 186 | 46 => 171 | 232 => 189 | 233 => 190 | n => n, fun | 17 => 0 | 18 => 1 | 19 => 2 | n => n⟩
theorem Tryz.lays171 : Go.Proofs.Lays.n171 Tryz.prog Tryz.lays171_ren := {
  mixed := by kernel_rfl
  f129 := Tryz.func118.trans (congrArg some (by kernel_rfl))
  f171 := Tryz.func102.trans (congrArg some (by kernel_rfl))
  f243 := Tryz.func109.trans (congrArg some (by kernel_rfl))
  f246 := Tryz.func112.trans (congrArg some (by kernel_rfl))
  f283 := Tryz.func113.trans (congrArg some (by kernel_rfl))
  f284 := Tryz.func114.trans (congrArg some (by kernel_rfl))
  f285 := Tryz.func115.trans (congrArg some (by kernel_rfl))
  f286 := Tryz.func116.trans (congrArg some (by kernel_rfl))
  f317 := Tryz.func117.trans (congrArg some (by kernel_rfl))
  f318 := Tryz.func119.trans (congrArg some (by kernel_rfl))
  f319 := Tryz.func120.trans (congrArg some (by kernel_rfl))
  f320 := Tryz.func121.trans (congrArg some (by kernel_rfl))
  f337 := Tryz.func122.trans (congrArg some (by kernel_rfl))
  f338 := Tryz.func123.trans (congrArg some (by kernel_rfl))
  t0 := Tryz.underlying0
  a0 := Tryz.isAgg0
  z0 := Tryz.sizeOf0
  v0 := Tryz.zeroValue0
  t2 := Tryz.underlying2
  a2 := Tryz.isAgg2
  z2 := Tryz.sizeOf2
  v2 := Tryz.zeroValue2
  t3 := Tryz.underlying3
  a3 := Tryz.isAgg3
  z3 := Tryz.sizeOf3
  v3 := Tryz.zeroValue3
  t4 := Tryz.underlying4
  a4 := Tryz.isAgg4
  z4 := Tryz.sizeOf4
  v4 := Tryz.zeroValue4
  t5 := Tryz.underlying5
  a5 := Tryz.isAgg5
  z5 := Tryz.sizeOf5
  v5 := Tryz.zeroValue5
  t9 := Tryz.underlying9
  a9 := Tryz.isAgg9
  z9 := Tryz.sizeOf9
  v9 := Tryz.zeroValue9
  t20 := Tryz.underlying20
  a20 := Tryz.isAgg20
  z20 := Tryz.sizeOf20
  v20 := Tryz.zeroValue20
  t37 := Tryz.underlying161
  a37 := Tryz.isAgg161
  z37 := Tryz.sizeOf161
  v37 := Tryz.zeroValue161
  t46 := Tryz.underlying171
  a46 := Tryz.isAgg171
  z46 := Tryz.sizeOf171
  v46 := Tryz.zeroValue171
  t51 := Tryz.underlying185
  a51 := Tryz.isAgg185
  z51 := Tryz.sizeOf185
  v51 := Tryz.zeroValue185
  t53 := Tryz.underlying178
  a53 := Tryz.isAgg178
  z53 := Tryz.sizeOf178
  v53 := Tryz.zeroValue178
  t171 := Tryz.underlying177
  a171 := Tryz.isAgg177
  z171 := Tryz.sizeOf177
  v171 := Tryz.zeroValue177
  t173 := Tryz.underlying181
  a173 := Tryz.isAgg181
  z173 := Tryz.sizeOf181
  v173 := Tryz.zeroValue181
  t212 := Tryz.underlying184
  a212 := Tryz.isAgg184
  z212 := Tryz.sizeOf184
  v212 := Tryz.zeroValue184
  t213 := Tryz.underlying186
  a213 := Tryz.isAgg186
  z213 := Tryz.sizeOf186
  t232 := Tryz.underlying189
  a232 := Tryz.isAgg189
  z232 := Tryz.sizeOf189
  v232 := Tryz.zeroValue189
  t233 := Tryz.underlying190
  a233 := Tryz.isAgg190
  z233 := Tryz.sizeOf190
  v233 := Tryz.zeroValue190
  g17 := by kernel_rfl
  g18 := by kernel_rfl
  g19 := by kernel_rfl }
open Go.RowKit Go.Sort Go.Lib in
/-- THE ROAD WITHOUT THE TABLE: 0 <= i < 100: NO PREMISE ON THE WORLD, AND THE WORLD IS AS IT WAS: a row that keeps its argument in that range need list no table ('laid = []'). (LAID: no walk: one application.) -/
theorem Tryz.strconv_Itoa_small (i : Nat) (hi : i < 100) (w : World) :
    Calls Tryz.prog 102 #[.int .i64 i] w fun e w' => e = .returned (.string ⟨(Lib.decDigits i).toArray⟩) ∧ w' = w := Any.strconv_Itoa_small Tryz.lays171 i hi w
end Go.Proofs
/- strings.Builder's writers, strconv.Itoa, product.key. -/
namespace Go.Lg
open Go.RowKit
section
variable {P : Program} {K : Fr → World → Prop} {f : Fr} {w : World} {d : Option Nat} {ty : Nat} {ps : String} {af : Array Edge} {gd : Option (Nat × Bool)}
theorem r_isnil {t te t' : Nat} (hp : P.underlying t = some (.pointer te)) {x y : Operand} {a : Option Addr} (hx : ev f x = .pointer a) (hy : ev f y = .pointer none) :
    (execOp (ev f) ⟨d, .binOp .eql t x y t', ty, ps, af, gd⟩).run P w = .ok (.value (.bool a.isNone)) w := by
  have hg : (eqGuard .eql t x y (.pointer a) (.pointer none)).run P w = .ok () w := by simp [eqGuard]
  have key : ∀ m, (Op.equalIn (m + 1) t (.pointer a) (.pointer none)).run P w = .ok a.isNone w := by
    intro m
    unfold Op.equalIn
    cases a <;> simp [run_underlying hp]
  have he : (Op.equal t (.pointer a) (.pointer none)).run P w = .ok a.isNone w := key 9999
  simp only [execOp, hx, hy, Sem.run_bind, hg, Result.andThen_ok, binOp, he, Sem.run_pure]
theorem r_neqsame {t te t' : Nat} {j : TypeInfo} (hp : P.underlying t = some (.pointer te)) (hj : P.info? te = some j) {x y : Operand} {a : Addr} (hx : ev f x = .pointer (some a)) (hy : ev f y = .pointer (some a)) :
    (execOp (ev f) ⟨d, .binOp .neq t x y t', ty, ps, af, gd⟩).run P w = .ok (.value (.bool false)) w := by
  have hg : (eqGuard .neq t x y (.pointer (some a)) (.pointer (some a))).run P w = .ok () w := by simp [eqGuard]
  simp only [execOp, hx, hy, Sem.run_bind, hg, Result.andThen_ok, Lib.run_neq_ptr_same w a hp hj, Sem.run_pure]
theorem r_convP {t t' : Nat} {x : Operand} {v v' : Value} (hx : ev f x = v) (h : (convert t t' v).run P w = .ok v' w) :
    (execOp (ev f) ⟨d, .convert t t' x, ty, ps, af, gd⟩).run P w = .ok (.value v') w := by
  simp [execOp, hx, h]
theorem r_extern {g : Nat} {fn : Func} {e : Array Value → Sem Value} {x : Operand} {v : Value} {ts : Array Nat} (hf : P.funcs[g]? = some fn) (hname : (fn.name == "runtime.NumGoroutine") = false)
    (hb : fn.body.isNone = true) (hn : Extern.findNext fn = none) (he : Extern.find fn = some e) (h : (e #[ev f x]).run P w = .ok v w) :
    (execOp (ev f) ⟨d, .call ⟨.value (.func g), #[x], ts⟩, ty, ps, af, gd⟩).run P w = .ok (.value v) w := by
  have hc := run_callFunc_extern hf hname hb hn he #[ev f x] w
  rw [h] at hc
  have h0 : ev f (.func g) = .func (.func g) #[] #[] := rfl
  simp [execOp, resolve, h0, Deferred.ofValue, invoke, hc, Result.andThen]
/-- append(bytes, s...) -/
theorem o_appS {t e u : Nat} [h : Sl P t e 1 1 (.int .u8 0)] (hu : P.underlying u = some .string) {s y : Operand} {base : Nat} {v : Value} {n : Nat} {cs : List Value} (hown : w.ownsRow base e 1 v n cs) (hs : ev f s = v)
    {b : ByteArray} (hy : ev f y = .string b) (hb : n + b.size ≤ 1099511627776) (hbase : base ≤ w.heap.size)
    (hK : ∀ v' w', w'.ownsRow base e 1 v' (n + b.size) (cs ++ Lib.strCells b) → Step (ob v) w w' → K (putF f d v') w') :
    XO P ⟨d, .call ⟨.builtin .append, #[s, y], #[t, u]⟩, ty, ps, af, gd⟩ f w K := by
  obtain ⟨i, hi, hz, hsz, hbys⟩ := Sl.info h
  obtain ⟨v', w', hr, h2, h3, _⟩ := Lib.run_append_own_string (P := P) w base t u ty e i h.u hu hi hz hsz hbys v n cs hown b (by simp only [maxLen]; omega) (by omega) hbase
  have hr' : (execOp (ev f) ⟨d, .call ⟨.builtin .append, #[s, y], #[t, u]⟩, ty, ps, af, gd⟩).run P w = .ok (.value v') w' := by
    simp [execOp, resolve, invoke, builtin, hs, hy, hr]
  exact xv hr' (hK v' w' h2 (by rw [ob_own]; exact Step.of_grown h3))
theorem r_lenS {x : Operand} {u : Nat} (hu : P.underlying u = some .string) {b : ByteArray} (hx : ev f x = .string b) :
    (execOp (ev f) ⟨d, .call ⟨.builtin .len, #[x], #[u]⟩, ty, ps, af, gd⟩).run P w = .ok (.value (.int .i64 b.size)) w := by
  simp [execOp, resolve, invoke, builtin, Builtin.len_, hx, run_underlying hu, goInt]
end
end Go.Lg
namespace Go.Proofs.YtfhgnlkdcdlblaaGreatDoor
open Go.Lg

/-- The builder in block b holds these bytes. -/
def Bl (p : Value) (b : Nat) (bs : List UInt8) (w : World) : Prop := ∃ v, Blk w.heap b 163 [p, v] ∧ w.ownsRow (b + 1) 5 1 v bs.length (Lib.byteCells bs)
def me (b : Nat) : Value := .pointer (some ⟨b, 0, none⟩)
theorem info_of {P : Program} {t n : Nat} (h : (P.info? t).map (·.size) = some n) : ∃ j, P.info? t = some j ∧ j.size = n := by
  simpa using h
theorem blk_shape {w : World} {b T : Nat} {cs : List Value} (h : Blk w.heap b T cs) : w.shape? b = some (T, cs.length) := by
  unfold Blk at h; simp [World.shape?, h]

theorem copyCheck_ok {w0 w : World} {b : Nat} {bs : List UInt8} {p : Value} (h0 : Step [] w0 w) (hb : w0.heap.size ≤ b) (hp : p = .pointer none ∨ p = me b) (h : Bl p b bs w) :
    Ret Tryz.prog 108 [me b] w fun r w' => r = .tuple #[] ∧ Step [] w0 w' ∧ Bl (me b) b bs w' := by
  obtain ⟨v, hB, ho⟩ := h
  obtain ⟨j, hj, hjs⟩ := info_of (P := Tryz.prog) (t := 163) (n := 2) (by kernel_rfl)
  refine Ret.of_W Tryz.func108 rfl Tryz.ntmps108 Tryz.results108 (by simp) ?_
  refine W_seq <| W_region (by rfl) ?_
  rcases hp with rfl | rfl
  · refine x r_move <| x (r_nilCheck rfl) <| x (r_fieldB rfl) <| x (r_loadB hB rfl rfl) <| x (r_isnil Tryz.underlying160 rfl rfl) <| xe ?_
    refine W_true rfl ?_
    refine W_region (by rfl) ?_
    refine x r_move <| x r_move <| x (r_convP (v' := me b) rfl (Lib.run_to_unsafe w ⟨b, 0, none⟩ Tryz.underlying160 Tryz.underlying174 hj (by rw [hjs]; decide) (blk_shape hB) (by simp))) <|
      x (r_extern (v := me b) Tryz.func111 (by kernel_rfl) (by kernel_rfl) (by kernel_rfl) (e := Extern.AbiNoEscape.same) (by kernel_rfl) rfl) <|
      x (r_convP (v' := me b) rfl (Lib.run_from_unsafe w ⟨b, 0, none⟩ Tryz.underlying174 Tryz.underlying160 hj (blk_shape hB) (by kernel_rfl))) <| x (r_nilCheck rfl) <|
      x (r_fieldB rfl) <| xl rfl <| o_store hB rfl rfl (by simp) rfl fun w2 hs2 hB2 => xe ?_
    exact ⟨[], trivial, rfl, h0.then1 hs2 hb, v, hB2, own_step ho hs2 (fun c hc => by have := (own_ge ho c hc).1; simp; omega)⟩
  · refine x r_move <| x (r_nilCheck rfl) <| x (r_fieldB rfl) <| x (r_loadB hB rfl rfl) <| x (r_isnil Tryz.underlying160 rfl rfl) <| xe ?_
    refine W_false rfl ?_
    refine W_seq <| W_region (by rfl) ?_
    refine x r_move <| x (r_nilCheck rfl) <| x (r_fieldB rfl) <| x (r_loadB hB rfl rfl) <| x r_move <| x (r_neqsame Tryz.underlying160 hj rfl rfl) <| xe ?_
    refine W_false rfl ?_
    refine W_skip ?_
    exact ⟨[], trivial, rfl, h0, v, hB, ho⟩

theorem writeByte_ok {w0 w : World} {b : Nat} {bs : List UInt8} {p : Value} (h0 : Step [] w0 w) (hb : w0.heap.size ≤ b) (hp : p = .pointer none ∨ p = me b) (h : Bl p b bs w) (c : UInt8) (hl : bs.length + 1 ≤ 1000000000) :
    Ret Tryz.prog 103 [me b, .int .u8 c.toNat] w fun _ w' => Step [] w0 w' ∧ Bl (me b) b (bs ++ [c]) w' := by
  refine Ret.of_W Tryz.func103 rfl Tryz.ntmps103 Tryz.results103 (by simp) ?_
  refine W_seq <| W_region (by rfl) ?_
  refine x r_assign <| xe ?_
  refine W_seq <| W_region (by rfl) ?_
  refine x r_move <| xl rfl <| xf <| (copyCheck_ok h0 hb hp h).mono ?_
  rintro r1 w1 ⟨rfl, hs1, v, hB, ho⟩
  refine xe ?_
  have hlt := hB.lt
  refine W_seq <| W_region (by rfl) ?_
  refine x r_move <| x r_move <| x (r_nilCheck rfl) <| x (r_fieldB rfl) <| x (r_loadB hB rfl rfl) <| x r_move <| xl rfl <| o_lits (us := [[.int .u8 c.toNat]]) rfl rfl (by decide) (by simp) ⟨rfl, rfl, trivial⟩ fun b13 w2 hs2 hb13 hB13 => ?_
  have hz2 := hs2.size
  have ho2 := own_ext ho hs2
  refine xl rfl <| o_app (news := [.int .u8 c.toNat]) (L := []) ho2 rfl rfl rfl (hB13.at (by simp)) (by simp [Value.oneCell']) (by omega) (by omega) fun v3 w3 ho3 hs3 hn3 => ?_
  have hB3 := (hB.ext hs2).step hs3 (fun hc => by have := (own_ge ho b hc).1; omega)
  have ho3' : w3.ownsRow (b + 1) 5 1 v3 (bs ++ [c]).length (Lib.byteCells (bs ++ [c])) := by simpa [Lib.byteCells] using ho3
  refine x (r_nilCheck rfl) <| x (r_fieldB rfl) <| xl rfl <| o_store hB3 rfl rfl (by simp) (own_arr (L := []) ho3' (by simp; omega) (by simp)).one fun w4 hs4 hB4 => xe ?_
  refine W_seq <| W_region (by rfl) ?_
  refine x r_assign <| xe ?_
  refine W_ret ⟨[.nilIface], ⟨rfl, trivial⟩, (((hs1.trans hs2).then hs3 (fun c hc => .inr ?_)).then1 hs4 hb), v3, hB4, own_step ho3' hs4 (fun c hc => by have := (own_ge ho3' c hc).1; simp; omega)⟩
  have := (own_ge ho c hc).1; omega
theorem writeString_ok {w0 w : World} {b : Nat} {bs : List UInt8} {p : Value} (h0 : Step [] w0 w) (hb : w0.heap.size ≤ b) (hp : p = .pointer none ∨ p = me b) (h : Bl p b bs w) (s : ByteArray) (hl : bs.length + s.size ≤ 1000000000) :
    Ret Tryz.prog 101 [me b, .string s] w fun _ w' => Step [] w0 w' ∧ Bl (me b) b (bs ++ s.data.toList) w' := by
  refine Ret.of_W Tryz.func101 rfl Tryz.ntmps101 Tryz.results101 (by simp) ?_
  refine W_seq <| W_region (by rfl) ?_
  refine x r_assign <| x r_assign <| xe ?_
  refine W_seq <| W_region (by rfl) ?_
  refine x r_move <| xl rfl <| xf <| (copyCheck_ok h0 hb hp h).mono ?_
  rintro r1 w1 ⟨rfl, hs1, v, hB, ho⟩
  refine xe ?_
  have hlt := hB.lt
  refine W_seq <| W_region (by rfl) ?_
  refine x r_move <| x r_move <| x (r_nilCheck rfl) <| x (r_fieldB rfl) <| x (r_loadB hB rfl rfl) <| x r_move <| xl rfl <| o_appS Tryz.underlying9 ho rfl rfl (by omega) (by omega) fun v3 w3 ho3 hs3 => ?_
  have hB3 := hB.step hs3 (fun hc => by have := (own_ge ho b hc).1; omega)
  have hsz : s.size = s.data.toList.length := rfl
  have ho3' : w3.ownsRow (b + 1) 5 1 v3 (bs ++ s.data.toList).length (Lib.byteCells (bs ++ s.data.toList)) := by
    rw [List.length_append, ← hsz, show Lib.byteCells (bs ++ s.data.toList) = Lib.byteCells bs ++ Lib.strCells s by simp [Lib.byteCells, Lib.strCells_eq]]; exact ho3
  refine x (r_nilCheck rfl) <| x (r_fieldB rfl) <| xl rfl <| o_store hB3 rfl rfl (by simp) (own_arr (L := []) ho3' (by rw [List.length_append, ← hsz]; omega) (by simp)).one fun w4 hs4 hB4 => xe ?_
  refine W_seq <| W_region (by rfl) ?_
  refine x r_move <| x (r_lenS Tryz.underlying9 rfl) <| x r_assign <| x r_assign <| xe ?_
  refine W_ret ⟨[.int .i64 s.size, .nilIface], ⟨rfl, rfl, trivial⟩, ((hs1.then hs3 (fun c hc => .inr ?_)).then1 hs4 hb), v3, hB4, own_step ho3' hs4 (fun c hc => by have := (own_ge ho3' c hc).1; simp; omega)⟩
  have := (own_ge ho c hc).1; omega
theorem string_ok {w0 w : World} {b : Nat} {bs : List UInt8} {p : Value} (h0 : Step [] w0 w) (hb : w0.heap.size ≤ b) (hp : p = .pointer none ∨ p = me b) (h : Bl p b bs w) :
    Ret Tryz.prog 104 [me b] w fun r w' => r = .string ⟨bs.toArray⟩ ∧ Step [] w0 w' := by
  obtain ⟨v, hB, ho⟩ := h
  have hlt := hB.lt
  have hat : Lib.BuilderAt 163 5 b b p (Lib.byteCells bs) w := ⟨Nat.le_refl _, v, hB, by rw [Lib.byteCells_length]; exact own_base ho (by omega), fun e => by
    have : b ∈ ob v := by rw [ob_own, e]; simp
    have := (own_ge ho b this).1; omega⟩
  unfold Ret
  refine Calls.mono (Tryz.Builder_String_any b b bs w (by rcases hp with rfl | rfl; exact .inl hat; exact .inr hat) (by omega)) ?_
  rintro e w' ⟨rfl, hw⟩
  exact ⟨rfl, ⟨hw.os.trans h0.os, hw.tape.trans h0.tape, hw.output.trans h0.output, Nat.le_trans h0.size hw.size, fun k hk hL => (hw.block k (by omega)).trans (h0.block k hk hL)⟩⟩
/-- The library's table of powers of ten lies as its text lays it. -/
def Tb (w : World) : Prop := Lib.TabIs Tryz.prog w "internal/strconv.uint64pow10" .u64 Lib.pow10Tab
theorem var_step {P : Program} {w w' : World} {name : String} {v : Array Value} (h : w.var? P name = some v) (hs : Step [] w w') : w'.var? P name = some v := by
  unfold World.var? at *
  rw [Option.bind_eq_some_iff] at *
  obtain ⟨g, h1, h2⟩ := h
  refine ⟨g, h1, ?_⟩
  cases ho : w.heap[g]? with
  | none => rw [ho] at h2; cases h2
  | some o =>
    have hlt : g < w.heap.size := (Array.getElem?_eq_some_iff.1 ho).1
    rw [hs.block g hlt (by simp)]
    exact h2
theorem Tb.ext {w w' : World} (h : Tb w) (hs : Step [] w w') : Tb w' := var_step h hs
/-- Numbers below m can be printed. -/
def Kb (w : World) (m : Int) : Prop := m ≤ 100 ∨ (m ≤ 1000000 ∧ Tb w)
theorem Kb.ext {w w' : World} {m : Int} (h : Kb w m) (hs : Step [] w w') : Kb w' m := h.imp id fun h => ⟨h.1, h.2.ext hs⟩
theorem Kb.le {w : World} {m : Int} (h : Kb w m) : m ≤ 1000000 := by rcases h with h | h <;> omega
theorem step_grown {w : World} {k : Nat} {os : Array Obj} : Step [] w (Sort.grow (w.drewN k) os) := by
  refine ⟨rfl, rfl, rfl, ?_, fun i hi _ => ?_⟩
  · show w.heap.size ≤ (w.heap ++ os).size
    simp
  · show (w.heap ++ os)[i]? = w.heap[i]?
    rw [Array.getElem?_append_left hi]
theorem itoa_ok {m : Int} (i : Nat) (hi : (i : Int) < m) (w : World) (hk : Kb w m) : Ret Tryz.prog 102 [.int .i64 i] w fun r w' => r = .string ⟨(Lib.decDigits i).toArray⟩ ∧ Step [] w w' := by
  unfold Ret
  rcases hk with hk | hk
  · refine Calls.mono (Tryz.strconv_Itoa_small i (by omega) w) ?_
    rintro e w' ⟨rfl, rfl⟩
    exact ⟨rfl, Step.refl _ _⟩
  · refine Calls.mono (Tryz.strconv_Itoa i (by omega) (by omega) w hk.2) ?_
    rintro e w' ⟨rfl, k, os, rfl⟩
    refine ⟨?_, step_grown⟩
    unfold Lib.itoa
    rw [if_neg (by omega), Int.toNat_natCast]

/-! ### The key of a tuple -/
def keyB (l : List Int) : List UInt8 := l.flatMap fun n => Lib.decDigits n.toNat ++ [32]
theorem dec_small : ∀ (k u : Nat), u < 10 ^ k → (Lib.decDigits u).length ≤ max 1 k
  | 0, u, h => by
    unfold Lib.decDigits
    rw [dif_pos (by simp at h; omega)]; simp
  | k + 1, u, h => by
    unfold Lib.decDigits
    split
    · simp
    · rename_i hu
      have ih := dec_small k (u / 10) (by rw [Nat.pow_succ] at h; omega)
      rw [List.length_append]
      simp only [List.length_singleton]
      have h1 : k ≠ 0 := fun e => by subst e; simp at h; omega
      omega
theorem Bl.ext {w w' : World} {p : Value} {b : Nat} {bs : List UInt8} (h : Bl p b bs w) (hs : Step [] w w') : Bl p b bs w' := by
  obtain ⟨v, h1, h2⟩ := h
  exact ⟨v, h1.ext hs, own_ext h2 hs⟩
theorem keyK_ok {L : List Nat} {w : World} {v : Value} {l : List Int} {m : Int} (h : Ints L w.heap v l) (hkb : Kb w m) (hb : ∀ n ∈ l, 0 ≤ n ∧ n < m) (hl : l.length ≤ 1000000) :
    Ret Tryz.prog 88 [v] w fun r w' => r = .string ⟨(keyB l).toArray⟩ ∧ Step [] w w' := by
  refine Ret.of_W Tryz.func88 rfl Tryz.ntmps88 Tryz.results88 (by simp) ?_
  refine W_seq <| W_region (by rfl) ?_
  refine x r_assign <| xe ?_
  refine W_seq <| W_region (by rfl) ?_
  refine xl rfl <| o_alloc (us := [.pointer none, .slice none 0 0]) rfl fun b3 w1 hs1 hb3 hB3 => xe ?_
  refine W_seq <| W_seq <| W_region (by rfl) ?_
  refine x r_move <| x (r_lenA h rfl) <| x r_move <| xe ?_
  refine W_block <| W_loop (α := Nat × Value) [(5, 5), (8, 16)] (fun z => [(8, .int .i64 z.1)]) (fun z w' => z.1 ≤ l.length ∧ Step [] w w' ∧ (z.2 = .pointer none ∨ z.2 = me b3) ∧ Bl z.2 b3 (keyB (l.take z.1)) w' ∧ (keyB (l.take z.1)).length ≤ 8 * z.1) (fun z => l.length - z.1) (by rfl) (0, .pointer none) ⟨rfl, trivial⟩
    ⟨Nat.zero_le _, hs1, .inl rfl, ⟨_, hB3, own_nil _ _ _ _⟩, Nat.le_refl _⟩ ?_
  rintro ⟨k, p⟩ g w2 ⟨hk, hs2, hp, hBl, hlen⟩
  simp only [] at hk hp hBl hlen
  refine W_seq <| W_region (by rfl) ?_
  refine x (r_lss rfl rfl) <| xe ?_
  refine W_seq <| W_ifn rfl (fun h9 => ?_) (fun h9 => ?_)
  · refine W_exit ?_
    refine W_seq <| W_region (by rfl) ?_
    rw [List.take_of_length_le (by omega)] at hBl
    refine xl rfl <| xf <| (string_ok hs2 hb3 hp hBl).mono ?_
    rintro r3 w3 ⟨rfl, hs3⟩
    refine x r_assign <| xe ?_
    exact W_ret ⟨[.string ⟨(keyB l).toArray⟩], ⟨rfl, trivial⟩, rfl, hs3⟩
  have hlt : k < l.length := by omega
  have hbd := hb l[k] (List.getElem_mem hlt)
  obtain ⟨q, hq⟩ : ∃ q : Nat, l[k] = q := ⟨l[k].toNat, by omega⟩
  have hqn : l[k].toNat = q := by omega
  have hds := dec_small 7 q (by have := hkb.le; omega)
  have htk : keyB (l.take (k + 1)) = keyB (l.take k) ++ Lib.decDigits q ++ [32] := by
    rw [List.take_succ_eq_append_getElem hlt]
    unfold keyB
    rw [List.flatMap_append, List.flatMap_singleton, hqn, List.append_assoc]
  refine W_skip ?_
  refine W_seq <| W_block <| W_seq <| W_region (by rfl) ?_
  refine xii (h.ext hs2) rfl rfl hlt fun a10 h10 => x (r_loadA h10 rfl) <| x r_assign <| xe ?_
  refine W_seq <| W_region (by rfl) ?_
  refine x r_move <| xl rfl <| xf ?_
  refine (show Ret _ _ [.int .i64 l[k]] _ _ by rw [hq]; exact (itoa_ok q (by omega) w2 (hkb.ext hs2))).mono ?_
  rintro r4 w4 ⟨rfl, hs4⟩
  refine xl rfl <| xf <| (writeString_ok (hs2.trans hs4) hb3 hp (hBl.ext hs4) ⟨(Lib.decDigits q).toArray⟩ (by show _ + (Lib.decDigits q).toArray.size ≤ _; simp; omega)).mono ?_
  rintro r5 w5 ⟨hs5, hBl5⟩
  refine xe ?_
  refine W_region (by rfl) ?_
  refine xl rfl <| xf <| (writeByte_ok hs5 hb3 (.inr rfl) hBl5 32 (by simp; omega)).mono ?_
  rintro r6 w6 ⟨hs6, hBl6⟩
  refine xe ?_
  refine W_region (by rfl) ?_
  refine x (r_add rfl rfl ⟨by omega, by omega⟩) <| x r_move <| xe ?_
  refine ⟨(k + 1, me b3), by simp only []; omega, ⟨rfl, trivial⟩, by simp only []; omega, hs6, .inr rfl, ?_, ?_⟩
  · simp only []; rw [htk]; simpa using hBl6
  · simp only []; rw [htk]; simp; omega
theorem key_ok {L : List Nat} {w : World} {v : Value} {l : List Int} (h : Ints L w.heap v l) (hb : ∀ n ∈ l, 0 ≤ n ∧ n < 100) (hl : l.length ≤ 1000000) :
    Ret Tryz.prog 88 [v] w fun r w' => r = .string ⟨(keyB l).toArray⟩ ∧ Step [] w w' := keyK_ok (m := 100) h (.inl (Int.le_refl _)) hb hl
end Go.Proofs.YtfhgnlkdcdlblaaGreatDoor
/- Lists of automata, lists of lists, in memory. -/
namespace Go.Lg
section
variable {P : Program} {ops : List Oper} {K : Fr → World → Prop} {f : Fr} {w : World} {d : Option Nat} {ty : Nat} {ps : String} {af : Array Edge} {gd : Option (Nat × Bool)} {l : List Oper} {C : World → Prop} {pl : List (Nat × Bool)} {i0 : Nat}
/-- An element of a slice whose elements are g of plain data. -/
theorem xig {α : Type} {g : α → List Value} {x y : Operand} {t e sz bys : Nat} {z : Value} [Sl P t e sz bys z] (hg' : ∀ x, (g x).length = sz) {L : List Nat} {es : List α} {v : Value} {k : IntKind} {i : Nat}
    (h : Arr L w.heap v es.length sz (es.flatMap g)) (hv : ev f x = v) (hy : ev f y = .int k i) (hi : i < es.length)
    (hK : ∀ a, At L w.heap a (g es[i]) → XL P ops K l (putF f d (.pointer (some a))) w) (hg : gdF ops f ⟨d, .indexAddr t x y, ty, ps, af, gd⟩ = true := by rfl) :
    XL P ops K (⟨d, .indexAddr t x y, ty, ps, af, gd⟩ :: l) f w := by
  obtain ⟨a, cap, h1, h2⟩ := Arr.at h hi
  rw [flat_at g sz hg' es i hi] at h2
  refine xl hg (xv (r_index (hv.trans h1) hy (by omega) (by omega)) (hK _ ?_))
  simpa using h2
theorem pig {α : Type} {g : α → List Value} {x y : Operand} {t e sz bys : Nat} {z : Value} [Sl P t e sz bys z] (ho : opAt ops i0 = ⟨d, .indexAddr t x y, ty, ps, af, gd⟩) (hg' : ∀ x, (g x).length = sz) {L : List Nat} {es : List α} {v : Value} {H : Array Obj} {k : IntKind} {i : Nat}
    (h : Arr L H v es.length sz (es.flatMap g)) (hv : ev f x = v) (hy : ev f y = .int k i) (hi : i < es.length)
    (hK : ∀ a, At L H a (g es[i]) → XP P ops C K pl (putF f d (.pointer (some a))) w) (hg : gdF ops f (opAt ops i0) = true := by rfl) :
    XP P ops C K ((i0, true) :: pl) f w := by
  obtain ⟨a, cap, h1, h2⟩ := Arr.at h hi
  rw [flat_at g sz hg' es i hi] at h2
  refine Lg.p (fun w' => by rw [ho]; exact r_index (hv.trans h1) hy (by omega) (by omega)) ?_ hg
  rw [ho]
  refine hK _ ?_
  simpa using h2
end
/-- What is read goes along while the blocks that are written change. -/
theorem Arr.grow {X X' Y : List Nat} {w w' : World} {v : Value} {n sz : Nat} {cs : List Value} (h : Arr X w.heap v n sz cs) (hs : Step Y w w') (hY : ∀ b ∈ Y, b ∈ X) (hX : ∀ b ∈ X', b ∈ X ∨ w.heap.size ≤ b) : Arr X' w'.heap v n sz cs := by
  have h1 : Arr (X ++ X') w.heap v n sz cs := h.up (fun b hb => by
    rcases List.mem_append.1 hb with h1 | h1
    · exact .inl h1
    · exact hX b h1)
  have h2 := h1.step hs (fun b hb => List.mem_append.2 (.inl (hY b hb)))
  exact h2.up (fun b hb => .inl (List.mem_append.2 (.inr hb)))

/-! ### Slices of automata -/
structure AV where
  va : Value
  vm : Value
  ve : Value
  a : Aut
abbrev avCells (p : AV) : List Value := [p.va, .int .i64 p.a.st, p.vm, p.ve]
structure Auts (L : List Nat) (H : Array Obj) (v : Value) (ps : List AV) : Prop where
  arr : Arr L H v ps.length 4 (ps.flatMap avCells)
  each : ∀ p ∈ ps, AutA L H p.va p.vm p.ve p.a
theorem Auts.ext {L : List Nat} {w w' : World} {v : Value} {ps : List AV} (h : Auts L w.heap v ps) (hs : Step [] w w') : Auts L w'.heap v ps := ⟨h.arr.ext hs, fun p hp => (h.each p hp).ext hs⟩
theorem Auts.st {L : List Nat} {w w' : World} {v : Value} {ps : List AV} (h : Auts L w.heap v ps) (hs : Step L w w') : Auts L w'.heap v ps := ⟨h.arr.st hs, fun p hp => (h.each p hp).st hs⟩
theorem Auts.up {L L' : List Nat} {H : Array Obj} {v : Value} {ps : List AV} (h : Auts L H v ps) (hL : ∀ b ∈ L', b ∈ L ∨ H.size ≤ b) : Auts L' H v ps := ⟨h.arr.up hL, fun p hp => (h.each p hp).up hL⟩

/-! ### Slices of slices of ints -/
abbrev TV := Value × List Int
abbrev tvCells (p : TV) : List Value := [p.1]
structure Tups (L : List Nat) (H : Array Obj) (v : Value) (ps : List TV) : Prop where
  arr : Arr L H v ps.length 1 (ps.flatMap tvCells)
  each : ∀ p ∈ ps, Ints L H p.1 p.2
theorem Tups.ext {L : List Nat} {w w' : World} {v : Value} {ps : List TV} (h : Tups L w.heap v ps) (hs : Step [] w w') : Tups L w'.heap v ps := ⟨h.arr.ext hs, fun p hp => (h.each p hp).ext hs⟩
theorem Tups.st {L : List Nat} {w w' : World} {v : Value} {ps : List TV} (h : Tups L w.heap v ps) (hs : Step L w w') : Tups L w'.heap v ps := ⟨h.arr.st hs, fun p hp => (h.each p hp).st hs⟩
theorem Tups.up {L L' : List Nat} {H : Array Obj} {v : Value} {ps : List TV} (h : Tups L H v ps) (hL : ∀ b ∈ L', b ∈ L ∨ H.size ≤ b) : Tups L' H v ps := ⟨h.arr.up hL, fun p hp => (h.each p hp).up hL⟩
/-- New ones: all of their memory lies from block N on. -/
def TupF (N : Nat) (H : Array Obj) (v : Value) (l : List (List Int)) : Prop := ∃ ps : List TV, ps.map (·.2) = l ∧ ∀ L : List Nat, (∀ b ∈ L, b < N) → Tups L H v ps
theorem TupF.ext {N : Nat} {w w' : World} {v : Value} {l : List (List Int)} (h : TupF N w.heap v l) (hs : Step [] w w') : TupF N w'.heap v l := let ⟨ps, h1, h2⟩ := h; ⟨ps, h1, fun L hL => (h2 L hL).ext hs⟩
theorem TupF.mono {N M : Nat} {H : Array Obj} {v : Value} {l : List (List Int)} (h : TupF N H v l) (hM : M ≤ N) : TupF M H v l := let ⟨ps, h1, h2⟩ := h; ⟨ps, h1, fun L hL => h2 L (fun b hb => Nat.lt_of_lt_of_le (hL b hb) hM)⟩
/-- What the call owns: a slice of slices. -/
abbrev TupO (e base : Nat) (w : World) (v : Value) (ps : List TV) : Prop := w.ownsRow base e 1 v ps.length (ps.flatMap tvCells)
theorem TupO.snoc {e base : Nat} {w : World} {v : Value} {ps : List TV} {p : TV} (h : w.ownsRow base e 1 v (ps.length + 1) (ps.flatMap tvCells ++ [p.1])) : TupO e base w v (ps ++ [p]) := by
  unfold TupO
  rw [List.length_append, List.flatMap_append]; simpa using h

/-! ### Stores into a row of the call's own -/
theorem own_slice {w : World} {base e sz n : Nat} {v : Value} {cs : List Value} (h : w.ownsRow base e sz v n cs) (hn : 0 < n) : ∃ g cap, v = .slice (some ⟨g, 0, none⟩) n cap := by
  rcases h.2 with ⟨_, h0⟩ | ⟨g, cap, cur, h1, _⟩
  · omega
  · exact ⟨g, cap, h1⟩
section
variable {P : Program} {ops : List Oper} {K : Fr → World → Prop} {f : Fr} {w : World} {d : Option Nat} {ty : Nat} {ps : String} {af : Array Edge} {gd : Option (Nat × Bool)} {l : List Oper}
theorem o_storeO {t : Nat} [h1 : One P t] {x y : Operand} {base e n g cap i : Nat} {cs : List Value} {u : Value} (h : w.ownsRow base e 1 (.slice (some ⟨g, 0, none⟩) n cap) n cs) (hx : ev f x = .pointer (some ⟨g, 0 + i * 1, none⟩)) (hy : ev f y = u) (hi : i < n) (hu : u.oneCell' = true)
    (hK : ∀ w', Step [g] w w' → w'.ownsRow base e 1 (.slice (some ⟨g, 0, none⟩) n cap) n (cs.set i u) → K (putF f d undef) w') : XO P ⟨d, .store t x y, ty, ps, af, gd⟩ f w K := by
  obtain ⟨hl, h⟩ := h
  rcases h with ⟨h0, _⟩ | ⟨g', cap', cur, e1, hb, hg, hnc, hm, hsz, htk⟩
  · cases h0
  cases e1
  have hB : Blk w.heap g e cur.toList := by unfold Blk; simpa using hg
  refine o_store (j := i) hB (by rw [hx]; simp) hy (by simp [hsz]; omega) hu fun w' hs hB' => hK w' hs ⟨by simpa using hl, .inr ⟨g, cap, (cur.toList.set i u).toArray, rfl, hb, hB', hnc, hm, by simpa using hsz, ?_⟩⟩
  rw [← htk]
  simp [List.take_set]
end
section
variable {P : Program} {f : Fr} {w : World} {d : Option Nat} {ty : Nat} {ps : String} {af : Array Edge} {gd : Option (Nat × Bool)} {κ : Type} [DecidableEq κ]
theorem r_lookupS {t kt et : Nat} {z : Value} [hm : Mp P t kt et z] {enc : κ → Value} [hk : Key P kt enc] {x y : Operand} {b : Nat} {m : List (κ × Value)} {k : κ} {u : Value} (h : MapB enc w.heap b m) (hx : ev f x = .map (some b)) (hy : ev f y = enc k) (hg : mget m k = some u) :
    (execOp (ev f) ⟨d, .lookup t x y true, ty, ps, af, gd⟩).run P w = .ok (.value (.tuple #[u, .bool true])) w := by
  have := r_lookup (P := P) (t := t) (d := d) (ty := ty) (ps := ps) (af := af) (gd := gd) h hx hy
  rw [hg] at this; exact this
theorem r_lookupN {t kt et : Nat} {z : Value} [hm : Mp P t kt et z] {enc : κ → Value} [hk : Key P kt enc] {x y : Operand} {b : Nat} {m : List (κ × Value)} {k : κ} (h : MapB enc w.heap b m) (hx : ev f x = .map (some b)) (hy : ev f y = enc k) (hg : mget m k = none) :
    (execOp (ev f) ⟨d, .lookup t x y true, ty, ps, af, gd⟩).run P w = .ok (.value (.tuple #[z, .bool false])) w := by
  have := r_lookup (P := P) (t := t) (d := d) (ty := ty) (ps := ps) (af := af) (gd := gd) h hx hy
  rw [hg] at this; exact this
end
end Go.Lg
/- The synchronous product as a plain function. -/
namespace Go.Proofs.YtfhgnlkdcdlblaaGreatDoor
open Go.Lg

def ckL : List Aut → Int
  | [] => 0
  | a :: l => if ckA a ≠ 0 then ckA a else ckL l
def ckP (l : List Aut) : Int := if 12 < l.length then 3 else ckL l
theorem ckL_zero : ∀ (l : List Aut), ckL l = 0 ↔ ∀ a ∈ l, Okay a
  | [] => by simp [ckL]
  | a :: l => by
    rw [ckL]
    by_cases h : ckA a = 0
    · rw [if_neg (by simpa using h), ckL_zero l]
      simp [(ckA_zero a).1 h]
    · rw [if_pos h]
      simp only [List.forall_mem_cons]
      exact ⟨fun e => absurd e h, fun e => absurd ((ckA_zero a).2 e.1) h⟩
def evs (l : List Aut) : List Int := l.foldl (fun acc a => mrg (· || ·) acc a.al) []
/-- The map of the edges. -/
def edMap (m : List ((Int × Int) × Value)) (es : List Ed) : List ((Int × Int) × Value) := es.foldl (fun m e => mput m (e.1, e.2.1) (.int .i64 e.2.2)) m
def eget : List Ed → Int → Int → Option Int
  | [], _, _ => none
  | e :: l, s, v => if e.1 = s ∧ e.2.1 = v then some e.2.2 else eget l s v
theorem eget_none {l : List Ed} {s v : Int} (h : ∀ e ∈ l, ¬ (e.1 = s ∧ e.2.1 = v)) : eget l s v = none := by
  induction l with
  | nil => rfl
  | cons e l ih =>
    rw [eget, if_neg (h e List.mem_cons_self)]
    exact ih fun e he => h e (List.mem_cons_of_mem _ he)
theorem edMap_get : ∀ (es : List Ed) (m : List ((Int × Int) × Value)) (s v : Int), (es.Pairwise fun x y => x.1 < y.1 ∨ (x.1 = y.1 ∧ x.2.1 < y.2.1)) →
    mget (edMap m es) (s, v) = match eget es s v with | some t => some (.int .i64 t) | none => mget m (s, v)
  | [], m, s, v, _ => rfl
  | e :: es, m, s, v, h => by
    simp only [List.pairwise_cons] at h
    have ih := edMap_get es (mput m (e.1, e.2.1) (.int .i64 e.2.2)) s v h.2
    unfold edMap at *
    rw [List.foldl_cons, ih, eget]
    by_cases hk : e.1 = s ∧ e.2.1 = v
    · rw [if_pos hk, eget_none (fun x hx hx2 => by have := h.1 x hx; omega)]
      simp only [mget_mput]
      rw [if_pos (by rw [hk.1, hk.2])]
    · rw [if_neg hk]
      cases eget es s v with
      | some t => rfl
      | none =>
        simp only [mget_mput]
        rw [if_neg (fun he => hk (by simpa using he))]
/-- A step of the tuple. -/
def stepT (ev : Int) : List Aut → List Int → Option (List Int)
  | a :: bs, t :: ts => if ev ∉ a.al then (stepT ev bs ts).map (t :: ·) else match eget a.ed t ev with | none => none | some u => (stepT ev bs ts).map (u :: ·)
  | _, _ => some []
def markT : List Aut → List Int → Bool
  | a :: bs, t :: ts => decide (t ∈ a.mr) && markT bs ts
  | _, _ => true

/-! ### The search -/
structure Sy where
  tup : List (List Int)
  mk' : List Int
  ed : List Ed
def syE (aa : List Aut) (i : Nat) (t : List Int) (s : Sy) (v : Int) : Option Sy :=
  match stepT v aa t with
  | none => some s
  | some u => if u ∈ s.tup then some ⟨s.tup, s.mk', s.ed ++ [((i : Int), v, (s.tup.idxOf u : Int))]⟩
    else if s.tup.length = 4096 then none else some ⟨s.tup ++ [u], s.mk', s.ed ++ [((i : Int), v, (s.tup.length : Int))]⟩
def syEs (aa : List Aut) (i : Nat) (t : List Int) : List Int → Sy → Option Sy
  | [], s => some s
  | v :: vs, s => (syE aa i t s v).bind (syEs aa i t vs)
def syMark (aa : List Aut) (i : Nat) (t : List Int) (s : Sy) : Sy := if markT aa t = true then ⟨s.tup, s.mk' ++ [(i : Int)], s.ed⟩ else s
def syT (s : Sy) (i : Nat) : List Int := s.tup.getD i []
def syL (aa : List Aut) : Nat → Nat → Sy → Option Sy
  | 0, _, s => some s
  | f + 1, i, s => if i < s.tup.length then (syEs aa i (syT s i) (evs aa) (syMark aa i (syT s i) s)).bind (syL aa f (i + 1)) else some s
def sy0 (aa : List Aut) : Sy := ⟨[List.replicate aa.length 0], [], []⟩
/-- The product and its tuples; none: too many states. -/
def sync (aa : List Aut) : Option (Aut × List (List Int)) :=
  if ∃ a ∈ aa, a.st = 0 then some (⟨evs aa, 0, [], []⟩, []) else (syL aa 4096 0 (sy0 aa)).map fun s => (⟨evs aa, s.tup.length, s.mk', s.ed⟩, s.tup)
theorem syL_done {aa : List Aut} {f i : Nat} {s : Sy} (h : ¬ i < s.tup.length) : syL aa f i s = some s := by
  cases f with
  | zero => rfl
  | succ f => rw [syL, if_neg h]
/-- A tuple of states that are there. -/
def Vt (aa : List Aut) (t : List Int) : Prop := t.length = aa.length ∧ ∀ i (h : i < t.length) (h' : i < aa.length), 0 ≤ t[i] ∧ t[i] < aa[i].st
theorem Vt.cons {a : Aut} {aa : List Aut} {u : Int} {t : List Int} (h0 : 0 ≤ u) (h1 : u < a.st) (h : Vt aa t) : Vt (a :: aa) (u :: t) := by
  refine ⟨by simp [h.1], fun i h2 h3 => ?_⟩
  cases i with
  | zero => exact ⟨h0, h1⟩
  | succ i => exact h.2 i (by simpa using h2) (by simpa using h3)
theorem eget_mem {l : List Ed} {s v u : Int} (h : eget l s v = some u) : (s, v, u) ∈ l := by
  induction l with
  | nil => cases h
  | cons e l ih =>
    rw [eget] at h
    split at h
    · rename_i he
      obtain ⟨e1, e2⟩ := he
      cases h
      obtain ⟨a, b, c⟩ := e
      simp only [] at e1 e2
      subst e1 e2
      exact List.mem_cons_self
    · exact List.mem_cons_of_mem _ (ih h)
theorem stepT_valid {v : Int} : ∀ {aa : List Aut} {t u : List Int}, (∀ a ∈ aa, Okay a) → Vt aa t → stepT v aa t = some u → Vt aa u
  | [], t, u, _, h, hs => by
    cases t with
    | nil => simp [stepT] at hs; subst hs; exact h
    | cons x t => have := h.1; simp at this
  | a :: aa, [], u, _, h, hs => by have := h.1; simp at this
  | a :: aa, x :: t, u, ho, h, hs => by
    have hx := h.2 0 (by simp) (by simp)
    have ht : Vt aa t := ⟨by have := h.1; simpa using this, fun i h2 h3 => h.2 (i + 1) (by simpa using h2) (by simpa using h3)⟩
    have ho' : ∀ a ∈ aa, Okay a := fun a ha => ho a (List.mem_cons_of_mem _ ha)
    rw [stepT] at hs
    split at hs
    · obtain ⟨u', h1, rfl⟩ := Option.map_eq_some_iff.1 hs
      exact Vt.cons hx.1 hx.2 (stepT_valid ho' ht h1)
    · split at hs
      · cases hs
      · rename_i q hq
        obtain ⟨u', h1, rfl⟩ := Option.map_eq_some_iff.1 hs
        have := (ho a List.mem_cons_self).ed _ (eget_mem hq)
        exact Vt.cons this.2.2.2.1 this.2.2.2.2 (stepT_valid ho' ht h1)
/-- What holds of the search. -/
structure SyOk (aa : List Aut) (s : Sy) : Prop where
  v : ∀ t ∈ s.tup, Vt aa t
  le : s.tup.length ≤ 4096
theorem syMark_ok {aa : List Aut} {i : Nat} {t : List Int} {s : Sy} (h : SyOk aa s) : SyOk aa (syMark aa i t s) := by
  unfold syMark; split
  · exact ⟨h.v, h.le⟩
  · exact h
theorem syE_ok {aa : List Aut} {i : Nat} {t : List Int} {s s' : Sy} {v : Int} (ho : ∀ a ∈ aa, Okay a) (h : SyOk aa s) (ht : Vt aa t) (hs : syE aa i t s v = some s') : SyOk aa s' := by
  unfold syE at hs
  split at hs
  · cases hs; exact h
  · rename_i u hu
    have hv := stepT_valid ho ht hu
    split at hs
    · cases hs; exact ⟨h.v, h.le⟩
    · split at hs
      · cases hs
      · cases hs
        have := h.le
        refine ⟨fun t ht => ?_, by simp; omega⟩
        simp only [List.mem_append, List.mem_singleton] at ht
        rcases ht with ht | rfl
        · exact h.v t ht
        · exact hv
end Go.Proofs.YtfhgnlkdcdlblaaGreatDoor
/- Contracts: product.Check, events, open, initial, marked, step. -/
namespace Go.Proofs.YtfhgnlkdcdlblaaGreatDoor
open Go.Lg

theorem av_len (p : AV) : (avCells p).length = 4 := rfl
theorem tv_len (p : TV) : (tvCells p).length = 1 := rfl
theorem Auts.le {L : List Nat} {H : Array Obj} {v : Value} {ps : List AV} (h : Auts L H v ps) : ps.length ≤ 1099511627776 := h.arr.le

theorem ckL_drop {l : List Aut} {k : Nat} (h : k < l.length) : ckL (l.drop k) = if ckA l[k] ≠ 0 then ckA l[k] else ckL (l.drop (k + 1)) := by
  rw [List.drop_eq_getElem_cons h, ckL]
theorem pCheck_ok {L : List Nat} {w : World} {v : Value} {ps : List AV} (h : Auts L w.heap v ps) :
    Ret Tryz.prog 85 [v] w fun r w' => r = .int .i64 (ckP (ps.map (·.a))) ∧ Step [] w w' := by
  have hle := Auts.le h
  refine Ret.of_W Tryz.func85 rfl Tryz.ntmps85 Tryz.results85 (by simp) ?_
  refine W_seq <| W_region (by rfl) ?_
  refine x r_assign <| xe ?_
  refine W_seq <| W_seq <| W_region (by rfl) ?_
  refine x r_move <| x (r_lenA h.arr rfl) <| x (r_gtr rfl rfl) <| xe ?_
  refine W_if rfl (fun h8 => ?_) (fun h8 => ?_)
  · refine W_seq <| W_region (by rfl) ?_
    refine x r_assign <| xe ?_
    refine W_ret ⟨[.int .i64 3], ⟨rfl, trivial⟩, ?_, Step.refl _ _⟩
    unfold ckP; rw [if_pos (by simp; omega)]; rfl
  refine W_skip ?_
  have hP : ckP (ps.map (·.a)) = ckL (ps.map (·.a)) := by unfold ckP; rw [if_neg (by simp; omega)]
  rw [hP]
  refine W_seq <| W_seq <| W_region (by rfl) ?_
  refine x r_move <| x (r_lenA h.arr rfl) <| x r_move <| xe ?_
  refine W_block <| W_loop (α := Nat) [(2, 2), (4, 5), (11, 20)] (fun z => [(11, .int .i64 z)]) (fun z w' => z ≤ ps.length ∧ Step [] w w' ∧ ckL (ps.map (·.a)) = ckL ((ps.map (·.a)).drop z)) (fun z => ps.length - z) (by rfl) 0 ⟨rfl, trivial⟩
    ⟨Nat.zero_le _, Step.refl _ _, rfl⟩ ?_
  rintro k g w1 ⟨hk, hs1, hck⟩
  refine W_seq <| W_region (by rfl) ?_
  refine x (r_lss rfl rfl) <| xe ?_
  refine W_seq <| W_ifn rfl (fun h12 => ?_) (fun h12 => ?_)
  · refine W_exit ?_
    refine W_seq <| W_region (by rfl) ?_
    refine x r_assign <| xe ?_
    refine W_ret ⟨[.int .i64 0], ⟨rfl, trivial⟩, ?_, hs1⟩
    rw [hck, List.drop_of_length_le (by simp; omega)]; rfl
  have hlt : k < ps.length := by omega
  have hlt' : k < (ps.map (·.a)).length := by simpa using hlt
  rw [ckL_drop hlt', List.getElem_map] at hck
  refine W_skip ?_
  refine W_seq <| W_block <| W_seq <| W_region (by rfl) ?_
  refine xig av_len (h.ext hs1).arr rfl rfl hlt fun a13 h13 => x (r_loadsA h13 rfl rfl) <| xl rfl <| o_alloc (us := [.slice none 0 0, .int .i64 0, .slice none 0 0, .slice none 0 0]) rfl fun b4 w2 hs2 hb4 hB4 => ?_
  have hA := h.each ps[k] (List.getElem_mem hlt)
  refine xl rfl <| o_stores (us := avCells ps[k]) hB4 rfl rfl rfl rfl ⟨hA.al.one, rfl, hA.mr.one, hA.ed.one, trivial⟩ fun w3 hs3 hB4 => xe ?_
  have hs13 : Step [] w1 w3 := hs2.then1 hs3 hb4
  refine W_seq <| W_region (by rfl) ?_
  refine x (r_loadsB hB4 rfl rfl) <| xl rfl <| xf <| (check_ok ((hA.ext hs1).ext hs13)).mono ?_
  rintro r4 w4 ⟨rfl, hs4⟩
  refine x r_assign <| xe ?_
  have hst := (hs1.trans hs13).trans hs4
  refine W_seq <| W_region (by rfl) ?_
  refine x r_move <| x (r_neq rfl rfl) <| xe ?_
  refine W_if rfl (fun h18 => ?_) (fun h18 => ?_)
  · refine W_seq <| W_region (by rfl) ?_
    refine x r_move <| x r_assign <| xe ?_
    refine W_ret ⟨[.int .i64 (ckA ps[k].a)], ⟨rfl, trivial⟩, ?_, hst⟩
    rw [hck, if_pos h18]; rfl
  refine W_skip ?_
  refine W_region (by rfl) ?_
  refine x (r_add rfl rfl ⟨by omega, by omega⟩) <| x r_move <| xe ?_
  refine ⟨k + 1, by omega, ⟨rfl, trivial⟩, hlt, hst, ?_⟩
  rw [hck, if_neg h18]

theorem evs_take {l : List Aut} {k : Nat} (h : k < l.length) : evs (l.take (k + 1)) = mrg (· || ·) (evs (l.take k)) l[k].al := by
  unfold evs
  rw [List.take_succ_eq_append_getElem h, List.foldl_append]; rfl
theorem evs_len (l : List Aut) (h : ∀ a ∈ l, a.al.length ≤ 32) : (evs l).length ≤ 32 * l.length := by
  have key : ∀ (l : List Aut) (acc : List Int), (∀ a ∈ l, a.al.length ≤ 32) → (l.foldl (fun acc a => mrg (· || ·) acc a.al) acc).length ≤ acc.length + 32 * l.length := by
    intro l
    induction l with
    | nil => intro acc _; simp
    | cons a l ih =>
      intro acc h
      have h1 := ih (mrg (· || ·) acc a.al) (fun a ha => h a (List.mem_cons_of_mem _ ha))
      have h2 := mrg_len (· || ·) acc a.al
      have h3 := h a List.mem_cons_self
      simp only [List.foldl_cons, List.length_cons]
      omega
  have := key l [] h
  unfold evs; simpa using this
theorem events_ok {L : List Nat} {w : World} {v : Value} {ps : List AV} (h : Auts L w.heap v ps) (hn : ps.length ≤ 12) (hal : ∀ p ∈ ps, p.a.al.length ≤ 32) :
    Ret Tryz.prog 100 [v] w fun r w' => Step [] w w' ∧ IntsO 3 w.heap.size w' r (evs (ps.map (·.a))) := by
  refine Ret.of_W Tryz.func100 rfl Tryz.ntmps100 Tryz.results100 (by simp) ?_
  refine W_seq <| W_region (by rfl) ?_
  refine x r_assign <| xe ?_
  refine W_seq <| W_region (by rfl) ?_
  refine x r_assign <| xe ?_
  refine W_seq <| W_seq <| W_region (by rfl) ?_
  refine x r_move <| x (r_lenA h.arr rfl) <| x r_move <| xe ?_
  refine W_block <| W_loop (α := Nat × Value) [(3, 3), (5, 5), (8, 16)] (fun z => [(3, z.2), (8, .int .i64 z.1)]) (fun z w' => z.1 ≤ ps.length ∧ Step [] w w' ∧ IntsO 3 w.heap.size w' z.2 (evs ((ps.map (·.a)).take z.1))) (fun z => ps.length - z.1) (by rfl) (0, .slice none 0 0) ⟨rfl, rfl, trivial⟩
    ⟨Nat.zero_le _, Step.refl _ _, own_nil _ _ _ _⟩ ?_
  rintro ⟨k, vo⟩ g w1 ⟨hk, hs1, ho⟩
  simp only [] at hk ho
  have hel := evs_len ((ps.map (·.a)).take k) (fun a ha => by obtain ⟨p, hp, rfl⟩ := List.mem_map.1 (List.mem_of_mem_take ha); exact hal p hp)
  have htl : ((ps.map (·.a)).take k).length ≤ 12 := by simp; omega
  refine W_seq <| W_region (by rfl) ?_
  refine x (r_lss rfl rfl) <| xe ?_
  refine W_seq <| W_ifn rfl (fun h9 => ?_) (fun h9 => ?_)
  · refine W_exit ?_
    refine W_seq <| W_region (by rfl) ?_
    refine x r_move <| x r_assign <| xe ?_
    refine W_ret ⟨[vo], ⟨rfl, trivial⟩, hs1, ?_⟩
    rw [List.take_of_length_le (by simp; omega)] at ho
    exact ho
  have hlt : k < ps.length := by omega
  refine W_skip ?_
  refine W_seq <| W_block <| W_seq <| W_region (by rfl) ?_
  refine xig av_len (h.ext hs1).arr rfl rfl hlt fun a10 h10 => x (r_loadsA h10 rfl rfl) <| xl rfl <| o_alloc (us := [.slice none 0 0, .int .i64 0, .slice none 0 0, .slice none 0 0]) rfl fun b5 w2 hs2 hb5 hB5 => ?_
  have hA := h.each ps[k] (List.getElem_mem hlt)
  have hal' := hal ps[k] (List.getElem_mem hlt)
  refine xl rfl <| o_stores (us := avCells ps[k]) hB5 rfl rfl rfl rfl ⟨hA.al.one, rfl, hA.mr.one, hA.ed.one, trivial⟩ fun w3 hs3 hB5 => xe ?_
  have hs13 : Step [] w1 w3 := hs2.then1 hs3 hb5
  have hst := hs1.trans hs13
  refine W_region (by rfl) ?_
  refine x r_move <| x (r_fieldB rfl) <| x (r_loadB hB5 rfl rfl) <| xl rfl <| xf <| (Union_ok (IntsO.ints (L := []) (own_ext ho hs13) (by omega) (by simp)) (hA.al.ext hst) (by omega)).mono ?_
  rintro r4 w4 ⟨hs4, ho4⟩
  refine x r_assign <| xe ?_
  refine W_region (by rfl) ?_
  refine x (r_add rfl rfl ⟨by omega, by omega⟩) <| x r_move <| xe ?_
  refine ⟨(k + 1, r4), by simp only []; omega, ⟨rfl, rfl, trivial⟩, hlt, hst.trans hs4, ?_⟩
  simp only []
  rw [evs_take (by simpa using hlt), List.getElem_map]
  exact own_base ho4 hst.size

/-! ### The machine -/
abbrev mCell (b : Nat) : List Value := [.map (some b)]
structure Mach (L : List Nat) (H : Array Obj) (vl ve vs : Value) (ps : List AV) (ms : List Nat) : Prop where
  al : Auts L H vl ps
  ev : Ints L H ve (evs (ps.map (·.a)))
  ml : ms.length = ps.length
  sl : Arr L H vs ms.length 1 (ms.flatMap mCell)
  mp : ∀ i (h : i < ms.length) (h' : i < ps.length), MapB kPair H ms[i] (edMap [] ps[i].a.ed) ∧ ms[i] ∉ L
theorem Mach.ext {L : List Nat} {w w' : World} {vl ve vs : Value} {ps : List AV} {ms : List Nat} (h : Mach L w.heap vl ve vs ps ms) (hs : Step [] w w') : Mach L w'.heap vl ve vs ps ms :=
  ⟨h.al.ext hs, h.ev.ext hs, h.ml, h.sl.ext hs, fun i h1 h2 => ⟨(h.mp i h1 h2).1.ext hs, (h.mp i h1 h2).2⟩⟩
theorem Mach.st {L : List Nat} {w w' : World} {vl ve vs : Value} {ps : List AV} {ms : List Nat} (h : Mach L w.heap vl ve vs ps ms) (hs : Step L w w') : Mach L w'.heap vl ve vs ps ms :=
  ⟨h.al.st hs, h.ev.st hs, h.ml, h.sl.st hs, fun i h1 h2 => ⟨(h.mp i h1 h2).1.step hs (h.mp i h1 h2).2, (h.mp i h1 h2).2⟩⟩
theorem Mach.up {L L' : List Nat} {H : Array Obj} {vl ve vs : Value} {ps : List AV} {ms : List Nat} (h : Mach L H vl ve vs ps ms) (hL : ∀ b ∈ L', b ∈ L ∨ H.size ≤ b) : Mach L' H vl ve vs ps ms :=
  ⟨h.al.up hL, h.ev.up hL, h.ml, h.sl.up hL, fun i h1 h2 => ⟨(h.mp i h1 h2).1, fun hm => by rcases hL _ hm with h3 | h3; exact (h.mp i h1 h2).2 h3; have := (h.mp i h1 h2).1.lt; omega⟩⟩
end Go.Proofs.YtfhgnlkdcdlblaaGreatDoor
/- Contracts: product.open, initial, marked, step. -/
namespace Go.Proofs.YtfhgnlkdcdlblaaGreatDoor
open Go.Lg

theorem edMap_snoc {m : List ((Int × Int) × Value)} {es : List Ed} {k : Nat} (h : k < es.length) : edMap m (es.take (k + 1)) = mput (edMap m (es.take k)) (es[k].1, es[k].2.1) (.int .i64 es[k].2.2) := by
  unfold edMap
  rw [List.take_succ_eq_append_getElem h, List.foldl_append]; rfl

theorem open_ok {L : List Nat} {w : World} {vl : Value} {ps : List AV} (h : Auts L w.heap vl ps) (hn : ps.length ≤ 12) (hal : ∀ p ∈ ps, p.a.al.length ≤ 32) (hL : ∀ b ∈ L, b < w.heap.size) :
    Ret Tryz.prog 86 [vl] w fun r w' => Step [] w w' ∧ ∃ ve vs ms, r = .agg #[vl, ve, vs] ∧ Mach L w'.heap vl ve vs ps ms ∧ IntsO 3 w.heap.size w' ve (evs (ps.map (·.a))) := by
  refine Ret.of_W Tryz.func86 rfl Tryz.ntmps86 Tryz.results86 (by simp) ?_
  refine W_seq <| W_region (by rfl) ?_
  refine xl rfl <| o_alloc (us := [.slice none 0 0, .slice none 0 0, .slice none 0 0]) rfl fun b2 w1 hs1 hb2 hB2 => xe ?_
  refine W_seq <| W_region (by rfl) ?_
  refine x r_move <| x r_move <| xl rfl <| xf <| (events_ok (h.ext hs1) hn hal).mono ?_
  rintro ve w2 ⟨hs2, hve⟩
  have hel := evs_len (ps.map (·.a)) (fun a ha => by obtain ⟨p, hp, rfl⟩ := List.mem_map.1 ha; exact hal p hp)
  have hevl : (evs (ps.map (·.a))).length ≤ 1000 := by simp at hel; omega
  have hveA := IntsO.ints (L := []) hve (by omega) (by simp)
  refine x (r_build ⟨h.arr.cells, hveA.cells, trivial⟩) <| xl rfl <| o_alloc (us := [.slice none 0 0, .slice none 0 0, .slice none 0 0]) rfl fun b3 w3 hs3 hb3 hB3 =>
    xl rfl <| o_stores (us := [vl, ve, .slice none 0 0]) hB3 rfl rfl rfl rfl ⟨h.arr.one, hveA.one, rfl, trivial⟩ fun w4 hs4 hB3 => xe ?_
  have hz1 := hs1.size
  have hz2 := hs2.size
  have hS4 : Step [] w2 w4 := hs3.then1 hs4 hb3
  have hz4 := hS4.size
  have hl2 := hB2.lt
  have hl3 := hB3.lt
  have hW4 : Step [] w w4 := (hs1.trans hs2).trans hS4
  have hve4 := own_ext hve hS4
  refine W_seq <| W_seq <| W_region (by rfl) ?_
  refine x r_move <| x (r_lenA h.arr rfl) <| x r_move <| xe ?_
  have hevlt := own_lt hve
  -- one map for each automaton
  refine W_block <| W_loop (α := Nat × List Nat × Value) [(5, 6), (8, 8), (15, 42)] (fun z => [(15, .int .i64 z.1)])
    (fun z w' => z.1 ≤ ps.length ∧ z.2.1.length = z.1 ∧ Step [b3] w4 w' ∧ Blk w'.heap b3 147 [vl, ve, z.2.2] ∧ w'.ownsRow w4.heap.size 79 1 z.2.2 z.2.1.length (z.2.1.flatMap mCell) ∧
      (∀ i (h : i < z.2.1.length) (h' : i < ps.length), MapB kPair w'.heap z.2.1[i] (edMap [] ps[i].a.ed) ∧ w4.heap.size ≤ z.2.1[i] ∧ z.2.1[i] ∉ ob z.2.2)) (fun z => ps.length - z.1) (by rfl) (0, [], .slice none 0 0) ⟨rfl, trivial⟩
    ⟨Nat.zero_le _, rfl, Step.refl _ _, hB3, own_nil _ _ _ _, fun i h => by simp at h⟩ ?_
  rintro ⟨k, ms, vs⟩ g w5 ⟨hk, hml, hs5, hB5, ho5, hmp5⟩
  simp only [] at hk hml hs5 hB5 ho5 hmp5
  have hW5 : Step [] w w5 := hW4.then1 hs5 (by omega)
  have hz5 := hs5.size
  have hge5 := own_ge ho5
  refine W_seq <| W_region (by rfl) ?_
  refine x (r_lss rfl rfl) <| xe ?_
  refine W_seq <| W_ifn rfl (fun h16 => ?_) (fun h16 => ?_)
  · have hke : k = ps.length := by omega
    subst hke
    refine W_exit ?_
    refine W_seq <| W_region (by rfl) ?_
    have hvsA := own_arr (L := []) ho5 (by omega) (by simp)
    refine x (r_loadsB hB5 rfl rfl) <| xl rfl <| o_stores (us := [vl, ve, vs]) (((hB2.ext hs2).ext hS4).step hs5 (by simp; omega)) rfl rfl rfl rfl ⟨h.arr.one, hveA.one, hvsA.one, trivial⟩ fun w6 hs6 hB6 => xe ?_
    have hW6 := hW5.then1 hs6 hb2
    have hve6 : IntsO 3 w1.heap.size w6 ve _ := own_step (own_step hve4 hs5 (fun b hb => by have := hevlt b hb; simp; omega)) hs6 (fun b hb => by have := (own_ge hve b hb).1; simp; omega)
    have ho6 := own_step ho5 hs6 (fun b hb => by have := (hge5 b hb).1; simp; omega)
    refine W_ret ⟨[.agg #[vl, ve, vs]], ⟨⟨_, rfl, run_loadVar_ag rfl (hB6.at (L := []) (by simp)).cells⟩, trivial⟩, hW6, ve, vs, ms, rfl, ⟨h.ext hW6, IntsO.ints hve6 (by omega) (fun b hb => by have := hL b hb; omega), hml, own_arr ho6 (by omega) (fun b hb hbL => by have := hL b hbL; have := (own_ge ho6 b hb).1; omega), fun i h1 h2 => ⟨?_, fun hbL => by have := hL _ hbL; have := (hmp5 i h1 h2).2.1; omega⟩⟩, own_base hve6 hz1⟩
    obtain ⟨m1, m2, _⟩ := hmp5 i h1 h2
    exact m1.step hs6 (fun hb => by
      simp only [List.mem_singleton] at hb
      have h7 := (((hB2.ext hs2).ext hS4).step hs5 (by simp; omega))
      rw [hb] at m1
      obtain ⟨es, c, m4, _⟩ := m1
      unfold Blk at h7
      rw [h7] at m4; cases m4)
  have hlt : k < ps.length := by omega
  have hA := h.each ps[k] (List.getElem_mem hlt)
  refine W_skip ?_
  refine W_seq <| W_block <| W_seq <| W_region (by rfl) ?_
  refine xig av_len (h.ext hW5).arr rfl rfl hlt fun a17 h17 => x (r_loadsA h17 rfl rfl) <| xl rfl <| o_alloc (us := [.slice none 0 0, .int .i64 0, .slice none 0 0, .slice none 0 0]) rfl fun b5 w7 hs7 hb5 hB5' =>
    xl rfl <| o_stores (us := avCells ps[k]) hB5' rfl rfl rfl rfl ⟨hA.al.one, rfl, hA.mr.one, hA.ed.one, trivial⟩ fun w8 hs8 hBa => xe ?_
  have hs58 : Step [] w5 w8 := hs7.then1 hs8 hb5
  have hz8 := hs58.size
  have hl5 := hBa.lt
  refine W_seq <| W_region (by rfl) ?_
  refine xl rfl <| o_makeMap kPair fun bm w9 hs9 hbm hm9 => x r_assign <| xe ?_
  have hz9 := hs9.size
  have hlm := hm9.lt
  have hs59 := hs58.trans hs9
  have hW9 := hW5.trans hs59
  refine W_seq <| W_seq <| W_region (by rfl) ?_
  refine x (r_fieldB rfl) <| x (r_loadB (hBa.ext hs9) rfl rfl) <| x (r_lenA hA.ed rfl) <| x r_move <| xe ?_
  have hed9 := (hA.ed.up (L' := [bm]) (fun b hb => .inr (by simp at hb; have := hW5.size; omega))).ext hW9
  have hedl := hA.ed.le
  -- the edges
  refine W_block <| W_loop (α := Nat) [(8, 8), (23, 35)] (fun z => [(23, .int .i64 z)]) (fun z w' => z ≤ ps[k].a.ed.length ∧ Step [bm] w9 w' ∧ MapB kPair w'.heap bm (edMap [] (ps[k].a.ed.take z))) (fun z => ps[k].a.ed.length - z) (by rfl) 0 ⟨rfl, trivial⟩
    ⟨Nat.zero_le _, Step.refl _ _, hm9⟩ ?_
  rintro j g2 w10 ⟨hj, hs10, hm10⟩
  have hz10 := hs10.size
  refine W_seq <| W_region (by rfl) ?_
  refine x (r_lss rfl rfl) <| xe ?_
  refine W_seq <| W_ifn rfl (fun h24 => ?_) (fun h24 => ?_)
  · refine W_exit ?_
    rw [List.take_of_length_le (by omega)] at hm10
    have hs510 : Step [] w5 w10 := hs59.then1 hs10 (by omega)
    have hB10 : Blk w10.heap b3 147 [vl, ve, vs] := hB5.ext hs510
    refine W_region (by rfl) ?_
    refine x (r_fieldB rfl) <| x (r_loadB hB10 rfl rfl) <| x r_move <| xl rfl <| o_lits (us := [[.map (some bm)]]) rfl rfl (by decide) (by simp) ⟨rfl, rfl, trivial⟩ fun b39 w11 hs11 hb39 hB39 => ?_
    have hs511 := hs510.trans hs11
    have ho11 := own_ext ho5 hs511
    have hz11 := hs511.size
    refine xl rfl <| o_app (news := [.map (some bm)]) (L := []) ho11 rfl rfl rfl (hB39.at (by simp)) (by simp [Value.oneCell']) (by omega) (by omega) fun v12 w12 ho12 hs12 hn12 => ?_
    have ho12' : w12.ownsRow w4.heap.size 79 1 v12 (ms ++ [bm]).length ((ms ++ [bm]).flatMap mCell) := by
      rw [List.length_append, List.flatMap_append]; simpa using ho12
    have hB12 := (hB10.ext hs11).step hs12 (own_notin ho5 (by omega))
    refine x (r_fieldB rfl) <| xl rfl <| o_store hB12 rfl rfl (by simp) (own_arr (L := []) ho12' (by simp; omega) (by simp)).one fun w13 hs13 hB13 => xe ?_
    refine W_region (by rfl) ?_
    refine x (r_add rfl rfl ⟨by omega, by omega⟩) <| x r_move <| xe ?_
    have hnew : ∀ b ∈ ob v12, w4.heap.size ≤ b := fun b hb => (own_ge ho12' b hb).1
    have hz10' : w10.heap.size ≤ w11.heap.size := hs11.size
    refine ⟨(k + 1, ms ++ [bm], v12), by simp only []; omega, ⟨rfl, trivial⟩, hlt, by simp [hml], ?_, hB13, own_step ho12' hs13 (fun b hb => by have := hnew b hb; simp; omega), ?_⟩
    · exact ((hs5.trans hs511).then hs12 (fun b hb => .inr (hge5 b hb).1)).trans' hs13
    · intro i h1 h2
      simp only [List.length_append, List.length_singleton] at h1
      have keep : ∀ (c : Nat) (m : List ((Int × Int) × Value)), MapB kPair w10.heap c m → c ≠ b3 → c ∉ ob vs → MapB kPair w13.heap c m := fun c m hm hc3 hcv =>
        ((hm.ext hs11).step hs12 hcv).step hs13 (by simpa using hc3)
      by_cases hi : i < ms.length
      · obtain ⟨m1, m2, m3⟩ := hmp5 i hi h2
        simp only [List.getElem_append_left hi]
        refine ⟨keep _ _ (m1.ext hs510) (by omega) m3, m2, fun hb => ?_⟩
        have hlt5 := m1.lt
        rcases hn12 _ hb with h5 | h5
        · exact m3 h5
        · omega
      · have hi' : i = ms.length := by omega
        subst hi'
        simp only [List.getElem_append_right (Nat.le_refl _), Nat.sub_self, List.getElem_singleton]
        have hq : ms.length = k := hml
        have e2 : ps[ms.length] = ps[k] := by simp only [hq]
        rw [e2]
        refine ⟨keep _ _ hm10 (by omega) (fun hb => by have := (hge5 _ hb).2; omega), by omega, fun hb => ?_⟩
        rcases hn12 _ hb with h5 | h5
        · have := (hge5 _ h5).2; omega
        · omega
  have hlt2 : j < ps[k].a.ed.length := by omega
  refine W_skip ?_
  refine W_seq <| W_block <| W_seq <| W_region (by rfl) ?_
  refine xie (hed9.st hs10) rfl rfl hlt2 fun a25 h25 => x (r_loadsA h25 rfl rfl) <| xl rfl <| o_alloc (us := [.int .i64 0, .int .i64 0, .int .i64 0]) rfl fun b8 w14 hs14 hb8 hB8 => xl rfl <| o_stores (us := edCells ps[k].a.ed[j]) hB8 rfl rfl rfl rfl ⟨rfl, rfl, rfl, trivial⟩ fun w15 hs15 hB8 => xe ?_
  have hs1015 : Step [] w10 w15 := hs14.then1 hs15 hb8
  refine W_region (by rfl) ?_
  refine x r_move <| x (r_fieldB rfl) <| x (r_loadB hB8 rfl rfl) <| x (r_fieldB rfl) <| x (r_loadB hB8 rfl rfl) <| x (r_build ⟨rfl, rfl, trivial⟩) <| x (r_fieldB rfl) <|
    x (r_loadB hB8 rfl rfl) <| xl rfl <| o_update (k := (ps[k].a.ed[j].1, ps[k].a.ed[j].2.1)) (hm10.ext hs1015) rfl rfl fun w16 hs16 hm16 => xe ?_
  refine W_region (by rfl) ?_
  refine x (r_add rfl rfl ⟨by omega, by omega⟩) <| x r_move <| xe ?_
  refine ⟨j + 1, by omega, ⟨rfl, trivial⟩, hlt2, (hs10.trans hs1015).trans' hs16, ?_⟩
  rw [edMap_snoc hlt2]
  exact hm16
end Go.Proofs.YtfhgnlkdcdlblaaGreatDoor
/- Contracts: product's initial, marked, step. -/
namespace Go.Proofs.YtfhgnlkdcdlblaaGreatDoor
open Go.Lg

theorem initial_ok {L : List Nat} {w : World} {vl ve vs : Value} {ps : List AV} {ms : List Nat} (h : Mach L w.heap vl ve vs ps ms) (hn : ps.length ≤ 12) :
    Ret Tryz.prog 87 [.agg #[vl, ve, vs]] w fun r w' => Step [] w w' ∧
      if ∃ p ∈ ps, p.a.st = 0 then r = .tuple #[.slice none 0 0, .bool false] else ∃ v, r = .tuple #[v, .bool true] ∧ IntsO 3 w.heap.size w' v (List.replicate ps.length 0) := by
  refine Ret.of_W Tryz.func87 rfl Tryz.ntmps87 Tryz.results87 (by simp) ?_
  refine W_seq <| W_region (by rfl) ?_
  refine xl rfl <| o_box (us := [vl, ve, vs]) rfl fun b1 w1 hs1 hb1 hB1 => x r_assign <| x r_assign <| xe ?_
  refine W_seq <| W_seq <| W_region (by rfl) ?_
  refine x (r_fieldB rfl) <| x (r_loadB hB1 rfl rfl) <| x (r_lenA h.al.arr rfl) <| x r_move <| xe ?_
  refine W_block <| W_loop (α := Nat) [(2, 3), (5, 5), (9, 16)] (fun z => [(9, .int .i64 z)]) (fun z w' => z ≤ ps.length ∧ Step [] w1 w' ∧ ∀ i (h : i < ps.length), i < z → ps[i].a.st ≠ 0) (fun z => ps.length - z) (by rfl) 0 ⟨rfl, trivial⟩
    ⟨Nat.zero_le _, Step.refl _ _, fun i _ h => by omega⟩ ?_
  rintro k g w2 ⟨hk, hs2, hnz⟩
  refine W_seq <| W_region (by rfl) ?_
  refine x (r_lss rfl rfl) <| xe ?_
  refine W_seq <| W_ifn rfl (fun h10 => ?_) (fun h10 => ?_)
  · refine W_exit ?_
    refine W_seq <| W_region (by rfl) ?_
    refine x (r_fieldB rfl) <| x (r_loadB (hB1.ext hs2) rfl rfl) <| x (r_lenA h.al.arr rfl) <| xl rfl <| o_make (n := ps.length) rfl rfl (by omega) fun b20 w3 hs3 hb20 hB20 => x r_assign <| x r_assign <| xe ?_
    rw [show (List.replicate ps.length (Value.int .i64 0).cells.toList).flatten = ((List.replicate ps.length 0).map (Value.int .i64)) by rw [show (Value.int .i64 0).cells.toList = [Value.int .i64 0] from rfl, rep_flat, List.map_replicate]] at hB20
    have hz := (hs1.trans hs2).size
    refine W_ret ⟨[.slice (some ⟨b20, 0, none⟩) ps.length ps.length, .bool true], ⟨rfl, rfl, trivial⟩, (hs1.trans hs2).trans hs3, ?_⟩
    rw [if_neg (by
      rintro ⟨p, hp, h0⟩
      obtain ⟨i, hi, rfl⟩ := List.getElem_of_mem hp
      exact hnz i hi (by omega) h0)]
    refine ⟨_, rfl, ?_⟩
    have := hB20.own (n := ps.length) (sz := 1) (base := w.heap.size) (by simp) (by omega) (by omega)
    unfold IntsO
    rw [List.length_replicate]; exact this
  have hlt : k < ps.length := by omega
  have hA := h.al.each ps[k] (List.getElem_mem hlt)
  refine W_skip ?_
  refine W_seq <| W_block <| W_seq <| W_region (by rfl) ?_
  refine xig av_len ((h.al.ext hs1).ext hs2).arr rfl rfl hlt fun a11 h11 => x (r_loadsA h11 rfl rfl) <| xl rfl <| o_alloc (us := [.slice none 0 0, .int .i64 0, .slice none 0 0, .slice none 0 0]) rfl fun b5 w4 hs4 hb5 hB5 =>
    xl rfl <| o_stores (us := avCells ps[k]) hB5 rfl rfl rfl rfl ⟨hA.al.one, rfl, hA.mr.one, hA.ed.one, trivial⟩ fun w5 hs5 hB5 => xe ?_
  have hs25 : Step [] w2 w5 := hs4.then1 hs5 hb5
  refine W_seq <| W_region (by rfl) ?_
  refine x (r_fieldB rfl) <| x (r_loadB hB5 rfl rfl) <| x (r_eql rfl rfl) <| xe ?_
  refine W_if rfl (fun h15 => ?_) (fun h15 => ?_)
  · refine W_seq <| W_region (by rfl) ?_
    refine x r_assign <| x r_assign <| xe ?_
    refine W_ret ⟨[.slice none 0 0, .bool false], ⟨rfl, rfl, trivial⟩, (hs1.trans hs2).trans hs25, ?_⟩
    rw [if_pos ⟨ps[k], List.getElem_mem hlt, h15⟩]; rfl
  refine W_skip ?_
  refine W_region (by rfl) ?_
  refine x (r_add rfl rfl ⟨by omega, by omega⟩) <| x r_move <| xe ?_
  refine ⟨k + 1, by omega, ⟨rfl, trivial⟩, hlt, hs2.trans hs25, fun i hi hik => ?_⟩
  by_cases e : i = k
  · subst e; exact h15
  · exact hnz i hi (by omega)

theorem markT_drop {aa : List Aut} {ts : List Int} {k : Nat} (h : k < aa.length) (h' : k < ts.length) : markT (aa.drop k) (ts.drop k) = (decide (ts[k] ∈ aa[k].mr) && markT (aa.drop (k + 1)) (ts.drop (k + 1))) := by
  rw [List.drop_eq_getElem_cons h, List.drop_eq_getElem_cons h', markT]
theorem marked_ok {L : List Nat} {w : World} {vl ve vs vt : Value} {ps : List AV} {ms : List Nat} {ts : List Int} (h : Mach L w.heap vl ve vs ps ms) (ht : Ints L w.heap vt ts) (hl : ts.length = ps.length) (hi : ∀ p ∈ ps, Inc p.a.mr) (hn : ps.length ≤ 12) :
    Ret Tryz.prog 89 [.agg #[vl, ve, vs], vt] w fun r w' => r = .bool (markT (ps.map (·.a)) ts) ∧ Step [] w w' := by
  refine Ret.of_W Tryz.func89 rfl Tryz.ntmps89 Tryz.results89 (by simp) ?_
  refine W_seq <| W_region (by rfl) ?_
  refine xl rfl <| o_box (us := [vl, ve, vs]) rfl fun b2 w1 hs1 hb2 hB2 => x r_assign <| xe ?_
  refine W_seq <| W_seq <| W_region (by rfl) ?_
  refine x (r_fieldB rfl) <| x (r_loadB hB2 rfl rfl) <| x (r_lenA h.al.arr rfl) <| x r_move <| xe ?_
  refine W_block <| W_loop (α := Nat) [(4, 6), (10, 23)] (fun z => [(10, .int .i64 z)]) (fun z w' => z ≤ ps.length ∧ Step [] w w' ∧ markT (ps.map (·.a)) ts = markT ((ps.map (·.a)).drop z) (ts.drop z)) (fun z => ps.length - z) (by rfl) 0 ⟨rfl, trivial⟩
    ⟨Nat.zero_le _, hs1, rfl⟩ ?_
  rintro k g w2 ⟨hk, hs2, hmk⟩
  refine W_seq <| W_region (by rfl) ?_
  refine x (r_lss rfl rfl) <| xe ?_
  refine W_seq <| W_ifn rfl (fun h11 => ?_) (fun h11 => ?_)
  · refine W_exit ?_
    refine W_seq <| W_region (by rfl) ?_
    refine x r_assign <| xe ?_
    refine W_ret ⟨[.bool true], ⟨rfl, trivial⟩, ?_, hs2⟩
    rw [hmk, List.drop_of_length_le (by simp; omega)]; rfl
  have hlt : k < ps.length := by omega
  have hlt' : k < ts.length := by omega
  have hA := h.al.each ps[k] (List.getElem_mem hlt)
  rw [markT_drop (by simpa using hlt) hlt', List.getElem_map] at hmk
  refine W_skip ?_
  refine W_seq <| W_block <| W_seq <| W_region (by rfl) ?_
  refine x r_move <| xig av_len (h.al.ext hs2).arr rfl rfl hlt fun a13 h13 => x (r_loadsA h13 rfl rfl) <| xl rfl <| o_alloc (us := [.slice none 0 0, .int .i64 0, .slice none 0 0, .slice none 0 0]) rfl fun b6 w3 hs3 hb6 hB6 => x r_assign <|
    xl rfl <| o_stores (us := avCells ps[k]) hB6 rfl rfl rfl rfl ⟨hA.al.one, rfl, hA.mr.one, hA.ed.one, trivial⟩ fun w4 hs4 hB6 => xe ?_
  have hs24 : Step [] w2 w4 := hs3.then1 hs4 hb6
  have hst := hs2.trans hs24
  refine W_seq <| W_draw (Step [] w4) [(0, true), (1, true), (2, true), (3, true), (4, true), (5, true), (6, false), (7, true)] Tryz.mixed (by rfl) (by kernel_rfl) (Step.drew _ _) ?_
  refine p (fun _ => r_fieldB rfl) <| pq (fun _ hc => r_loadB (hB6.ext hc) rfl rfl) <| p (fun _ => r_move) <| p (fun _ => r_move) <| pii rfl (ht.ext hst) rfl rfl hlt' fun a19 h19 =>
    pq (fun _ hc => r_loadA (h19.ext hc) rfl) <| pk <| xf <| (alContains_ok ((hA.mr.ext hst).ext (Step.drew _ _)) (hi ps[k] (List.getElem_mem hlt)) _).mono ?_
  rintro r5 w5 ⟨rfl, rfl⟩
  refine ⟨Step.drew _ _, ?_⟩
  refine p (fun _ => r_not rfl) <| pe ?_
  have hst5 := hst.trans (Step.drew [] w4)
  refine W_cond rfl (fun h22 => ?_) (fun h22 => ?_)
  · refine W_seq <| W_region (by rfl) ?_
    refine x r_assign <| xe ?_
    refine W_ret ⟨[.bool false], ⟨rfl, trivial⟩, ?_, hst5⟩
    rw [hmk, show decide (ts[k] ∈ ps[k].a.mr) = false by simpa using h22]; rfl
  refine W_skip ?_
  refine W_region (by rfl) ?_
  refine x (r_add rfl rfl ⟨by omega, by omega⟩) <| x r_move <| xe ?_
  refine ⟨k + 1, by omega, ⟨rfl, trivial⟩, hlt, hst5, ?_⟩
  rw [hmk, show decide (ts[k] ∈ ps[k].a.mr) = true by simpa using h22, Bool.true_and]

theorem stepT_drop {aa : List Aut} {ts : List Int} {k : Nat} {v : Int} (h : k < aa.length) (h' : k < ts.length) : stepT v (aa.drop k) (ts.drop k) =
    if v ∉ aa[k].al then (stepT v (aa.drop (k + 1)) (ts.drop (k + 1))).map (ts[k] :: ·) else match eget aa[k].ed ts[k] v with | none => none | some u => (stepT v (aa.drop (k + 1)) (ts.drop (k + 1))).map (u :: ·) := by
  rw [List.drop_eq_getElem_cons h, List.drop_eq_getElem_cons h']
  show (if v ∉ aa[k].al then _ else _) = _
  split
  · rfl
  · cases eget aa[k].ed ts[k] v <;> rfl
theorem pstep_ok {L : List Nat} {w : World} {vl ve vs vt : Value} {ps : List AV} {ms : List Nat} {ts : List Int} (h : Mach L w.heap vl ve vs ps ms) (ht : Ints L w.heap vt ts) (hl : ts.length = ps.length) (hi : ∀ p ∈ ps, Inc p.a.al)
    (hed : ∀ p ∈ ps, p.a.ed.Pairwise fun x y => x.1 < y.1 ∨ (x.1 = y.1 ∧ x.2.1 < y.2.1)) (hn : ps.length ≤ 12) (v : Int) :
    Ret Tryz.prog 90 [.agg #[vl, ve, vs], vt, .int .i64 v] w fun r w' => Step [] w w' ∧
      match stepT v (ps.map (·.a)) ts with | none => r = .tuple #[.slice none 0 0, .bool false] | some u => ∃ v', r = .tuple #[v', .bool true] ∧ IntsO 3 w.heap.size w' v' u := by
  refine Ret.of_W Tryz.func90 rfl Tryz.ntmps90 Tryz.results90 (by simp) ?_
  refine W_seq <| W_region (by rfl) ?_
  refine xl rfl <| o_box (us := [vl, ve, vs]) rfl fun b3 w1 hs1 hb3 hB3 => x r_assign <| x r_assign <| xe ?_
  refine W_seq <| W_region (by rfl) ?_
  refine x r_move <| xl rfl <| xf <| (clone_ok (ht.ext hs1)).mono ?_
  rintro vx w2 ⟨hs2, hx2⟩
  refine x r_assign <| xe ?_
  have hz1 := hs1.size
  have hz2 := hs2.size
  have hl3 := hB3.lt
  have hW2 := hs1.trans hs2
  refine W_seq <| W_seq <| W_region (by rfl) ?_
  refine x (r_fieldB rfl) <| x (r_loadB (hB3.ext hs2) rfl rfl) <| x (r_lenA h.al.arr rfl) <| x r_move <| xe ?_
  have hge := own_ge hx2
  have hM2 : Mach (ob vx) w2.heap vl ve vs ps ms := ((h.up (L' := ob vx) (fun b hb => .inr (by have := (hge b hb).1; omega))).ext hW2)
  have hT2 : Ints (ob vx) w2.heap vt ts := ((ht.up (L' := ob vx) (fun b hb => .inr (by have := (hge b hb).1; omega))).ext hW2)
  refine W_block <| W_loop (α := Nat × List Int) [(6, 7), (9, 12), (18, 49)] (fun z => [(18, .int .i64 z.1)])
    (fun z w' => z.1 ≤ ps.length ∧ z.2.length = z.1 ∧ Step (ob vx) w2 w' ∧ IntsO 3 w1.heap.size w' vx (z.2 ++ ts.drop z.1) ∧ stepT v (ps.map (·.a)) ts = (stepT v ((ps.map (·.a)).drop z.1) (ts.drop z.1)).map (z.2 ++ ·)) (fun z => ps.length - z.1) (by rfl) (0, []) ⟨rfl, trivial⟩
    ⟨Nat.zero_le _, rfl, Step.refl _ _, hx2, by simp⟩ ?_
  rintro ⟨k, pre⟩ g w3 ⟨hk, hpl, hs3, hx3, hst⟩
  simp only [] at hk hpl hx3 hst
  have hz3 := hs3.size
  have hW3 : Step [] w w3 := hW2.then hs3 (fun b hb => .inr (by have := (hge b hb).1; omega))
  refine W_seq <| W_region (by rfl) ?_
  refine x (r_lss rfl rfl) <| xe ?_
  refine W_seq <| W_ifn rfl (fun h19 => ?_) (fun h19 => ?_)
  · refine W_exit ?_
    refine W_seq <| W_region (by rfl) ?_
    refine x r_move <| x r_assign <| x r_assign <| xe ?_
    refine W_ret ⟨[vx, .bool true], ⟨rfl, rfl, trivial⟩, hW3, ?_⟩
    rw [List.drop_of_length_le (by simp; omega), List.drop_of_length_le (by omega)] at hst
    rw [List.drop_of_length_le (by omega)] at hx3
    rw [hst]
    simp only [stepT, Option.map_some]
    exact ⟨vx, rfl, own_base hx3 hz1⟩
  have hlt : k < ps.length := by omega
  have hlt' : k < ts.length := by omega
  have hltm : k < ms.length := by rw [h.ml]; exact hlt
  have hA := h.al.each ps[k] (List.getElem_mem hlt)
  rw [stepT_drop (by simpa using hlt) hlt', List.getElem_map] at hst
  have hM3 := hM2.st hs3
  have hT3 := hT2.st hs3
  refine W_skip ?_
  refine W_seq <| W_block <| W_seq <| W_region (by rfl) ?_
  refine x r_move <| xig av_len hM3.al.arr rfl rfl hlt fun a21 h21 => x (r_loadsA h21 rfl rfl) <| xl rfl <| o_alloc (us := [.slice none 0 0, .int .i64 0, .slice none 0 0, .slice none 0 0]) rfl fun b10 w4 hs4 hb10 hB10 => x r_assign <|
    xl rfl <| o_stores (us := avCells ps[k]) hB10 rfl rfl rfl rfl ⟨hA.al.one, rfl, hA.mr.one, hA.ed.one, trivial⟩ fun w5 hs5 hB10 => xe ?_
  have hs35 : Step [] w3 w5 := hs4.then1 hs5 hb10
  have hW5 := hW3.trans hs35
  refine W_seq <| W_seq <| W_region (by rfl) ?_
  refine x (r_fieldB rfl) <| x (r_loadB hB10 rfl rfl) <| x r_move <| xl rfl <| xf <| (alContains_ok (hA.al.ext hW5) (hi ps[k] (List.getElem_mem hlt)) v).mono ?_
  rintro r6 w6 ⟨rfl, rfl⟩
  refine x (r_not rfl) <| xe ?_
  have hdr := drop_cons hlt'
  refine W_cond rfl (fun h27 => ?_) (fun h27 => ?_)
  · have hna : v ∉ ps[k].a.al := by simpa using h27
    refine W_exit ?_
    refine W_region (by rfl) ?_
    refine x (r_add rfl rfl ⟨by omega, by omega⟩) <| x r_move <| xe ?_
    refine ⟨(k + 1, pre ++ [ts[k]]), by simp only []; omega, ⟨rfl, trivial⟩, hlt, by simp [hpl], hs3.trans hs35, ?_, ?_⟩
    · simp only [List.append_assoc, List.singleton_append]
      rw [← hdr]; exact own_ext hx3 hs35
    · simp only []
      rw [hst, if_pos hna, Option.map_map]
      congr 1; funext l; simp
  have hya : ¬ (v ∉ ps[k].a.al) := by simpa using h27
  rw [if_neg hya] at hst
  refine W_skip ?_
  have hB3' := (hB3.ext hs2).step hs3 (fun hb => by have := (hge b3 hb).1; omega)
  have hM5 := hM3.ext hs35
  obtain ⟨hmk, hmo⟩ := hM5.mp k hltm hlt
  refine W_seq <| W_draw (Step [] w6) [(0, true), (1, true), (2, true), (3, true), (4, true), (5, true), (6, true), (7, true), (8, true), (9, true), (10, true), (11, true), (12, true), (13, true), (14, true), (15, true), (16, true)] Tryz.mixed (by rfl) (by kernel_rfl) (Step.drew _ _) ?_
  refine p (fun _ => r_fieldB rfl) <| pq (fun _ hc => r_loadB ((hB3'.ext hs35).ext hc) rfl rfl) <| p (fun _ => r_move) <| pig rfl (g := mCell) (fun _ => rfl) hM5.sl rfl rfl hltm fun a32 h32 =>
    pq (fun _ hc => r_loadA (h32.ext hc) rfl) <| p (fun _ => r_move) <| p (fun _ => r_move) <| pii rfl (hT3.ext hs35) rfl rfl hlt' fun a36 h36 => pq (fun _ hc => r_loadA (h36.ext hc) rfl) <|
    p (fun _ => r_move) <| p (fun _ => r_build ⟨rfl, rfl, trivial⟩) <| pq (fun _ hc => r_lookup (k := (ts[k], v)) (hmk.ext hc) rfl rfl) <| ?_
  rw [edMap_get ps[k].a.ed [] ts[k] v (hed ps[k] (List.getElem_mem hlt))]
  have hs36 : Step [] w3 { w6 with drawn := w6.drawn + 1 } := hs35.trans (Step.drew [] w6)
  cases he : eget ps[k].a.ed ts[k] v with
  | none =>
    rw [he] at hst
    refine p (fun _ => r_move) <| p (fun _ => r_extract rfl rfl) <| p (fun _ => r_extract rfl rfl) <| p (fun _ => r_assign) <| p (fun _ => r_assign) <| pe ?_
    refine W_seq <| W_seq <| W_region (by rfl) ?_
    refine x r_move <| x (r_not rfl) <| xe ?_
    refine W_true rfl ?_
    refine W_seq <| W_region (by rfl) ?_
    refine x r_assign <| x r_assign <| xe ?_
    refine W_ret ⟨[.slice none 0 0, .bool false], ⟨rfl, rfl, trivial⟩, hW3.trans hs36, ?_⟩
    rw [hst]; rfl
  | some u =>
    rw [he] at hst
    refine p (fun _ => r_move) <| p (fun _ => r_extract rfl rfl) <| p (fun _ => r_extract rfl rfl) <| p (fun _ => r_assign) <| p (fun _ => r_assign) <| pe ?_
    refine W_seq <| W_seq <| W_region (by rfl) ?_
    refine x r_move <| x (r_not rfl) <| xe ?_
    refine W_false rfl ?_
    refine W_skip ?_
    have hx6 := own_ext hx3 hs36
    have hlen : (pre ++ ts.drop k).length = ts.length := by simp; omega
    obtain ⟨gx, cx, hvx⟩ := own_slice hx3 (by omega)
    have hobx : ob vx = [gx] := by rw [hvx]; rfl
    refine W_region (by rfl) ?_
    refine x r_move <| x r_move <| x r_move <| x (r_indexB hvx rfl (by omega)) <| xl rfl <| o_storeO (u := .int .i64 u) (by rw [hvx] at hx6; exact hx6) rfl rfl (by omega) rfl fun w7 hs7 hx7 => xe ?_
    refine W_region (by rfl) ?_
    refine x (r_add rfl rfl ⟨by omega, by omega⟩) <| x r_move <| xe ?_
    have hset : (pre ++ ts.drop k).set k u = (pre ++ [u]) ++ ts.drop (k + 1) := by
      rw [hdr, List.set_append_right _ _ (by omega), hpl, Nat.sub_self, List.set_cons_zero, List.append_assoc]; rfl
    refine ⟨(k + 1, pre ++ [u]), by simp only []; omega, ⟨rfl, trivial⟩, hlt, by simp [hpl], (hs3.trans hs36).then hs7 (fun b hb => .inl (by rw [hobx]; exact hb)), ?_, ?_⟩
    · simp only []
      rw [← hset]
      unfold IntsO
      rw [List.length_set, List.map_set, hvx]; exact hx7
    · simp only []
      rw [hst, Option.map_map]
      congr 1; funext l; simp
end Go.Proofs.YtfhgnlkdcdlblaaGreatDoor
/- The keys of tuples are different. -/
namespace Go.Proofs.YtfhgnlkdcdlblaaGreatDoor
open Go.Lg
theorem u8_ofNat {n : Nat} (h : n < 256) : (UInt8.ofNat n).toNat = n := by
  simp [Nat.mod_eq_of_lt h]
theorem dec_no32 (u : Nat) : (32 : UInt8) ∉ Lib.decDigits u := by
  induction u using Nat.strongRecOn with
  | _ u ih =>
    unfold Lib.decDigits
    split
    · intro h
      simp only [List.mem_singleton] at h
      have := congrArg UInt8.toNat h
      rw [u8_ofNat (by omega)] at this
      have h32 : (32 : UInt8).toNat = 32 := rfl
      omega
    · intro h
      rcases List.mem_append.1 h with h | h
      · exact ih _ (by omega) h
      · simp only [List.mem_singleton] at h
        have := congrArg UInt8.toNat h
        rw [u8_ofNat (by omega)] at this
        have h32 : (32 : UInt8).toNat = 32 := rfl
        omega
def dval (l : List UInt8) : Nat := l.foldl (fun a b => a * 10 + (b.toNat - 48)) 0
theorem dval_dec (u : Nat) : dval (Lib.decDigits u) = u := by
  induction u using Nat.strongRecOn with
  | _ u ih =>
    unfold Lib.decDigits
    split
    · simp only [dval, List.foldl_cons, List.foldl_nil]
      rw [u8_ofNat (by omega)]; omega
    · have := ih (u / 10) (by omega)
      unfold dval at *
      rw [List.foldl_append, this]
      simp only [List.foldl_cons, List.foldl_nil]
      rw [u8_ofNat (by omega)]; omega
theorem split32 : ∀ {a b r r' : List UInt8}, (32 : UInt8) ∉ a → (32 : UInt8) ∉ b → a ++ 32 :: r = b ++ 32 :: r' → a = b ∧ r = r'
  | [], [], _, _, _, _, h => by simpa using h
  | [], y :: b, _, _, _, hb, h => by simp at h; exact absurd h.1 (by intro e; exact hb (by simp [e]))
  | x :: a, [], _, _, ha, _, h => by simp at h; exact absurd h.1 (by intro e; exact ha (by simp [e]))
  | x :: a, y :: b, _, _, ha, hb, h => by
    simp only [List.cons_append, List.cons.injEq] at h
    have := split32 (fun e => ha (List.mem_cons_of_mem _ e)) (fun e => hb (List.mem_cons_of_mem _ e)) h.2
    exact ⟨by rw [h.1, this.1], this.2⟩
theorem keyB_inj : ∀ {l l' : List Int}, (∀ n ∈ l, 0 ≤ n) → (∀ n ∈ l', 0 ≤ n) → keyB l = keyB l' → l = l'
  | [], [], _, _, _ => rfl
  | [], y :: b, _, _, h => by simp [keyB] at h
  | x :: a, [], _, _, h => by simp [keyB] at h
  | x :: a, y :: b, ha, hb, h => by
    have h' : Lib.decDigits x.toNat ++ 32 :: keyB a = Lib.decDigits y.toNat ++ 32 :: keyB b := by simpa [keyB] using h
    obtain ⟨h1, h2⟩ := split32 (dec_no32 _) (dec_no32 _) h'
    have h3 : x.toNat = y.toNat := by rw [← dval_dec x.toNat, ← dval_dec y.toNat, h1]
    have h4 := keyB_inj (fun n hn => ha n (List.mem_cons_of_mem _ hn)) (fun n hn => hb n (List.mem_cons_of_mem _ hn)) h2
    have h5 := ha x List.mem_cons_self
    have h6 := hb y List.mem_cons_self
    rw [h4, show x = y by omega]
def keyA (l : List Int) : ByteArray := ⟨(keyB l).toArray⟩
theorem keyA_inj {l l' : List Int} (h1 : ∀ n ∈ l, 0 ≤ n) (h2 : ∀ n ∈ l', 0 ≤ n) (h : keyA l = keyA l') : l = l' := by
  refine keyB_inj h1 h2 ?_
  have := congrArg (fun b : ByteArray => b.data.toList) h
  simpa [keyA] using this
end Go.Proofs.YtfhgnlkdcdlblaaGreatDoor
/- Contract: product.Synchronous. -/
namespace Go.Proofs.YtfhgnlkdcdlblaaGreatDoor
open Go.Lg

/-- The map of the known tuples. -/
def KnOk (n : Nat) (m : List (ByteArray × Value)) (tup : List (List Int)) : Prop :=
  ∀ u : List Int, u.length = n → (∀ x ∈ u, 0 ≤ x) → mget m (keyA u) = if u ∈ tup then some (.int .i64 (tup.idxOf u : Int)) else none
theorem KnOk.add {n : Nat} {m : List (ByteArray × Value)} {tup : List (List Int)} (h : KnOk n m tup) {u : List Int} (hu : u ∉ tup) (h0 : ∀ x ∈ u, 0 ≤ x) : KnOk n (mput m (keyA u) (.int .i64 (tup.length : Int))) (tup ++ [u]) := by
  intro v hv h1
  rw [mget_mput]
  by_cases e : u = v
  · subst e
    rw [if_pos rfl, if_pos (by simp), List.idxOf_append, if_neg hu]; simp
  · rw [if_neg (fun hk => e (keyA_inj h0 h1 hk)), h v hv h1]
    by_cases hm : v ∈ tup
    · rw [if_pos hm, if_pos (by simp [hm]), List.idxOf_append, if_pos hm]
    · rw [if_neg hm, if_neg (by simp [hm, Ne.symm e])]
/-- What the search holds in memory. -/
structure SyI (N b2 b38 b37 : Nat) (ve : Value) (wS : World) (s : Sy) (m : List (ByteArray × Value)) (qs : List TV) (vt vk vd : Value) (w : World) : Prop where
  st : Step [b2, b38, b37] wS w
  A : Blk w.heap b2 35 [ve, .int .i64 0, vk, vd]
  M : MapB kStr w.heap b38 m
  t : TupO 32 N w vt qs
  tb : ∀ b ∈ ob vt, b = b37 ∨ wS.heap.size ≤ b
  k : IntsO 3 wS.heap.size w vk s.mk'
  e : EdsO 85 wS.heap.size w vd s.ed
  q : qs.map (·.2) = s.tup
  el : ∀ p ∈ qs, IntsO 3 N w p.1 p.2
  sep : ∀ p ∈ qs, ∀ b ∈ ob p.1, b ≠ b38 ∧ b ∉ ob vt ∧ b ∉ ob vk ∧ b ∉ ob vd
  d1 : Dj vt vk
  d2 : Dj vt vd
  d3 : Dj vk vd
section
variable {N b2 b38 b37 : Nat} {ve : Value} {wS : World} {s : Sy} {m : List (ByteArray × Value)} {qs : List TV} {vt vk vd : Value} {w w' w'' : World}
theorem SyI.ext (h : SyI N b2 b38 b37 ve wS s m qs vt vk vd w) (hs : Step [] w w') : SyI N b2 b38 b37 ve wS s m qs vt vk vd w' :=
  ⟨h.st.trans hs, h.A.ext hs, h.M.ext hs, own_ext h.t hs, h.tb, own_ext h.k hs, own_ext h.e hs, h.q, fun p hp => own_ext (h.el p hp) hs, h.sep, h.d1, h.d2, h.d3⟩
/-- The blocks of the search are other ones than those of the automaton and the map. -/
structure SyN (N b2 b38 b37 : Nat) (wS : World) : Prop where
  l2 : b2 < N
  l38 : b38 < wS.heap.size
  l37 : b37 < wS.heap.size
  n37 : N ≤ b37
  n38 : b37 < b38
  nS : N ≤ wS.heap.size
theorem SyI.setK (h : SyI N b2 b38 b37 ve wS s m qs vt vk vd w) (n : SyN N b2 b38 b37 wS) {vk' : Value} {l : List Int} (hs : Step (ob vk) w w') (hk' : IntsO 3 wS.heap.size w' vk' l)
    (hn : ∀ b ∈ ob vk', b ∈ ob vk ∨ w.heap.size ≤ b) (hs2 : Step [b2] w' w'') (hB : Blk w''.heap b2 35 [ve, .int .i64 0, vk', vd]) : SyI N b2 b38 b37 ve wS ⟨s.tup, l, s.ed⟩ m qs vt vk' vd w'' := by
  have hge := own_ge h.k
  have l2 := n.l2; have l38 := n.l38; have n37 := n.n37; have n38 := n.n38; have nS := n.nS
  refine ⟨(h.st.then hs (fun b hb => .inr (hge b hb).1)).then hs2 (fun b hb => .inl (by simp at hb; simp [hb])), hB, (h.M.step hs (own_notin h.k (by omega))).step hs2 (by simp; omega),
    own_step (own_step h.t hs h.d1) hs2 (fun b hb => by have := (own_ge h.t b hb).1; simp; omega), h.tb, own_step hk' hs2 (fun b hb => by have := (own_ge hk' b hb).1; simp; omega),
    own_step (own_step h.e hs h.d3.symm) hs2 (fun b hb => by have := (own_ge h.e b hb).1; simp; omega), h.q,
    fun p hp => own_step (own_step (h.el p hp) hs (fun b hb => (h.sep p hp b hb).2.2.1)) hs2 (fun b hb => by have := (own_ge (h.el p hp) b hb).1; simp; omega),
    fun p hp b hb => ⟨(h.sep p hp b hb).1, (h.sep p hp b hb).2.1, fun hb' => ?_, (h.sep p hp b hb).2.2.2⟩, h.d1.grow hn (own_lt h.t), h.d2, (h.d3.symm.grow hn (own_lt h.e)).symm⟩
  rcases hn b hb' with h1 | h1
  · exact (h.sep p hp b hb).2.2.1 h1
  · have := own_lt (h.el p hp) b hb; omega
theorem SyI.setE (h : SyI N b2 b38 b37 ve wS s m qs vt vk vd w) (n : SyN N b2 b38 b37 wS) {vd' : Value} {l : List Ed} (hs : Step (ob vd) w w') (hk' : EdsO 85 wS.heap.size w' vd' l)
    (hn : ∀ b ∈ ob vd', b ∈ ob vd ∨ w.heap.size ≤ b) (hs2 : Step [b2] w' w'') (hB : Blk w''.heap b2 35 [ve, .int .i64 0, vk, vd']) : SyI N b2 b38 b37 ve wS ⟨s.tup, s.mk', l⟩ m qs vt vk vd' w'' := by
  have hge := own_ge h.e
  have l2 := n.l2; have l38 := n.l38; have n37 := n.n37; have n38 := n.n38; have nS := n.nS
  refine ⟨(h.st.then hs (fun b hb => .inr (hge b hb).1)).then hs2 (fun b hb => .inl (by simp at hb; simp [hb])), hB, (h.M.step hs (own_notin h.e (by omega))).step hs2 (by simp; omega),
    own_step (own_step h.t hs h.d2) hs2 (fun b hb => by have := (own_ge h.t b hb).1; simp; omega), h.tb, own_step (own_step h.k hs h.d3) hs2 (fun b hb => by have := (own_ge h.k b hb).1; simp; omega),
    own_step hk' hs2 (fun b hb => by have := (own_ge hk' b hb).1; simp; omega), h.q,
    fun p hp => own_step (own_step (h.el p hp) hs (fun b hb => (h.sep p hp b hb).2.2.2)) hs2 (fun b hb => by have := (own_ge (h.el p hp) b hb).1; simp; omega),
    fun p hp b hb => ⟨(h.sep p hp b hb).1, (h.sep p hp b hb).2.1, (h.sep p hp b hb).2.2.1, fun hb' => ?_⟩, h.d1, h.d2.grow hn (own_lt h.t), h.d3.grow hn (own_lt h.k)⟩
  rcases hn b hb' with h1 | h1
  · exact (h.sep p hp b hb).2.2.2 h1
  · have := own_lt (h.el p hp) b hb; omega
/-- The map is written. -/
theorem SyI.setM (h : SyI N b2 b38 b37 ve wS s m qs vt vk vd w) (n : SyN N b2 b38 b37 wS) {m' : List (ByteArray × Value)} (hs : Step [b38] w w') (hm : MapB kStr w'.heap b38 m') : SyI N b2 b38 b37 ve wS s m' qs vt vk vd w' := by
  have l2 := n.l2; have l38 := n.l38; have n37 := n.n37; have n38 := n.n38; have nS := n.nS
  exact ⟨h.st.then hs (fun b hb => .inl (by simp at hb; simp [hb])), h.A.step hs (by simp; omega), hm, own_step h.t hs (fun b hb => by have := h.tb b hb; simp; omega), h.tb,
    own_step h.k hs (fun b hb => by have := (own_ge h.k b hb).1; simp; omega), own_step h.e hs (fun b hb => by have := (own_ge h.e b hb).1; simp; omega), h.q,
    fun p hp => own_step (h.el p hp) hs (fun b hb => by have := (h.sep p hp b hb).1; simpa using this), h.sep, h.d1, h.d2, h.d3⟩
/-- A tuple more. -/
theorem SyI.setT (h : SyI N b2 b38 b37 ve wS s m qs vt vk vd w) (n : SyN N b2 b38 b37 wS) {vt' vx : Value} {u : List Int} (hx : IntsO 3 wS.heap.size w vx u) (hxs : ∀ b ∈ ob vx, b ∉ ob vt ∧ b ∉ ob vk ∧ b ∉ ob vd) (hs : Step (ob vt) w w')
    (ht' : TupO 32 N w' vt' (qs ++ [(vx, u)])) (hn : ∀ b ∈ ob vt', b ∈ ob vt ∨ w.heap.size ≤ b) : SyI N b2 b38 b37 ve wS ⟨s.tup ++ [u], s.mk', s.ed⟩ m (qs ++ [(vx, u)]) vt' vk vd w' := by
  have l2 := n.l2; have l38 := n.l38; have n37 := n.n37; have n38 := n.n38; have nS := n.nS
  have hwz := h.st.size
  have nott : ∀ c, c < w.heap.size → c ∉ ob vt → c ∉ ob vt' := fun c hc hv hv' => by
    rcases hn c hv' with h1 | h1
    · exact hv h1
    · omega
  refine ⟨h.st.then hs (fun b hb => by have := h.tb b hb; simp; omega), h.A.step hs (fun hb => by have := h.tb b2 hb; omega), h.M.step hs (fun hb => by have := h.tb b38 hb; omega), ht',
    fun b hb => ?_, own_step h.k hs h.d1.symm, own_step h.e hs h.d2.symm, by rw [List.map_append, h.q]; rfl, fun p hp => ?_, fun p hp b hb => ?_, (h.d1.symm.grow hn (own_lt h.k)).symm, (h.d2.symm.grow hn (own_lt h.e)).symm, h.d3⟩
  · rcases hn b hb with h1 | h1
    · exact h.tb b h1
    · exact .inr (by omega)
  · rcases List.mem_append.1 hp with hp | hp
    · exact own_step (h.el p hp) hs (fun b hb => (h.sep p hp b hb).2.1)
    · simp only [List.mem_singleton] at hp
      subst hp
      exact own_base (own_step hx hs (fun b hb => (hxs b hb).1)) nS
  · rcases List.mem_append.1 hp with hp | hp
    · have := h.sep p hp b hb
      exact ⟨this.1, nott b (own_lt (h.el p hp) b hb) this.2.1, this.2.2⟩
    · simp only [List.mem_singleton] at hp
      subst hp
      have h1 := (own_ge hx b hb)
      have h2 := hxs b hb
      exact ⟨by omega, nott b h1.2 h2.1, h2.2⟩
/-- As slices that are read. -/
theorem SyI.tups (h : SyI N b2 b38 b37 ve wS s m qs vt vk vd w) (hn : qs.length ≤ 1099511627776) (hl : ∀ p ∈ qs, p.2.length ≤ 1099511627776) {L : List Nat} (hL : ∀ b ∈ L, b < N) : Tups L w.heap vt qs :=
  ⟨own_arr h.t hn (fun b hb hbL => by have := (own_ge h.t b hb).1; have := hL b hbL; omega), fun p hp => IntsO.ints (h.el p hp) (hl p hp) hL⟩
end
end Go.Proofs.YtfhgnlkdcdlblaaGreatDoor
/- Contract: product.Synchronous. -/
namespace Go.Proofs.YtfhgnlkdcdlblaaGreatDoor
open Go.Lg

theorem optD {α : Type} (o : Option α) : o = none ∨ ∃ t, o = some t := by cases o; exact .inl rfl; exact .inr ⟨_, rfl⟩
def zA : Value := .agg #[.slice none 0 0, .int .i64 0, .slice none 0 0, .slice none 0 0]
def nilS : Value := .slice none 0 0
/-- What Synchronous returns. -/
def SyRes (N : Nat) (H : Array Obj) (aa : List Aut) (va vt : Value) (c : Int) : Prop :=
  if ckP aa ≠ 0 then c = ckP aa ∧ va = zA ∧ vt = nilS else match sync aa with
    | none => c = 3 ∧ va = zA ∧ vt = nilS
    | some z => c = 0 ∧ AutF N H va z.1 ∧ TupF N H vt z.2
def syAdd (s : Sy) (u : List Int) : Sy := if u ∈ s.tup then s else ⟨s.tup ++ [u], s.mk', s.ed⟩
theorem syAdd_mk (s : Sy) (u : List Int) : (syAdd s u).mk' = s.mk' := by unfold syAdd; split <;> rfl
theorem syAdd_ed (s : Sy) (u : List Int) : (syAdd s u).ed = s.ed := by unfold syAdd; split <;> rfl
theorem syE_add {aa : List Aut} {i : Nat} {t u : List Int} {s : Sy} {v : Int} (h : stepT v aa t = some u) (hl : u ∈ s.tup ∨ s.tup.length ≠ 4096) :
    syE aa i t s v = some ⟨(syAdd s u).tup, (syAdd s u).mk', (syAdd s u).ed ++ [((i : Int), v, ((syAdd s u).tup.idxOf u : Int))]⟩ := by
  unfold syE syAdd
  rw [h]
  simp only []
  by_cases hu : u ∈ s.tup
  · simp only [if_pos hu]
  · simp only [if_neg hu]
    rw [if_neg (by rcases hl with h1 | h1; exact absurd h1 hu; exact h1), List.idxOf_append, if_neg hu]; simp
theorem syE_none {aa : List Aut} {i : Nat} {t u : List Int} {s : Sy} {v : Int} (h : stepT v aa t = some u) (hu : u ∉ s.tup) (hl : s.tup.length = 4096) : syE aa i t s v = none := by
  unfold syE
  rw [h]
  simp only []
  rw [if_neg hu, if_pos hl]
theorem syE_skip {aa : List Aut} {i : Nat} {t : List Int} {s : Sy} {v : Int} (h : stepT v aa t = none) : syE aa i t s v = some s := by
  unfold syE; rw [h]
theorem syT_q {s : Sy} {qs : List TV} {i : Nat} (hq : qs.map (·.2) = s.tup) (h : i < qs.length) : syT s i = qs[i].2 := by
  unfold syT; rw [← hq]; simp [List.getD, h]
theorem Vt.bd {aa : List Aut} {t : List Int} (h : Vt aa t) {m : Int} (hm : ∀ a ∈ aa, a.st ≤ m) : ∀ x ∈ t, 0 ≤ x ∧ x < m := by
  intro x hx
  obtain ⟨i, hi, rfl⟩ := List.getElem_of_mem hx
  have hi' : i < aa.length := by rw [← h.1]; exact hi
  have := h.2 i hi hi'
  have := hm aa[i] (List.getElem_mem hi')
  omega

set_option maxHeartbeats 20000000 in
theorem SyncK_ok {L : List Nat} {w : World} {vl : Value} {ps : List AV} {km : Int} (h : Auts L w.heap vl ps) (hkb : Kb w km) (hk0 : 0 < km) (hst : ∀ p ∈ ps, p.a.st ≤ km) :
    Ret Tryz.prog 63 [vl] w fun r w' => Step [] w w' ∧ ∃ va vt c, r = .tuple #[va, vt, .int .i64 c] ∧ SyRes w.heap.size w'.heap (ps.map (·.a)) va vt c := by
  refine Ret.of_W Tryz.func63 rfl Tryz.ntmps63 Tryz.results63 (by simp) ?_
  generalize haa : ps.map (·.a) = aa
  refine W_seq <| W_region (by rfl) ?_
  refine xl rfl <| o_alloc (us := [.slice none 0 0, .int .i64 0, .slice none 0 0, .slice none 0 0]) rfl fun b2 w1 hs1 hb2 hB2 => x r_assign <| x r_assign <| xe ?_
  have hz1 := hs1.size
  have hl2 := hB2.lt
  refine W_seq <| W_seq <| W_region (by rfl) ?_
  refine x r_move <| xl rfl <| xf <| (pCheck_ok (h.ext hs1)).mono ?_
  rintro r2 w2 ⟨rfl, hs2⟩
  refine x r_assign <| xe ?_
  rw [haa]
  refine W_seq <| W_region (by rfl) ?_
  refine x r_move <| x (r_neq rfl rfl) <| xe ?_
  refine W_if rfl (fun h20 => ?_) (fun h20 => ?_)
  · refine W_seq <| W_region (by rfl) ?_
    refine x (r_build trivial) <| x r_move <| xl rfl <| o_stores (us := [.slice none 0 0, .int .i64 0, .slice none 0 0, .slice none 0 0]) (hB2.ext hs2) rfl rfl rfl rfl ⟨rfl, rfl, rfl, rfl, trivial⟩ fun w3 hs3 hB3 => x r_assign <| x r_assign <| xe ?_
    refine W_ret ⟨[zA, nilS, .int .i64 (ckP aa)], ⟨⟨_, rfl, run_loadVar_ag rfl (hB3.at (L := []) (by simp)).cells⟩, rfl, rfl, trivial⟩, (hs1.trans hs2).then1 hs3 hb2, zA, nilS, ckP aa, rfl, ?_⟩
    unfold SyRes; rw [if_pos h20]; exact ⟨rfl, rfl, rfl⟩
  have hck : ckP aa = 0 := Decidable.not_not.1 h20
  have hn : ps.length ≤ 12 := by
    unfold ckP at hck
    split at hck
    · cases hck
    · rename_i h1; rw [← haa] at h1; simp at h1; exact h1
  have hokA : ∀ a ∈ aa, Okay a := by
    unfold ckP at hck
    split at hck
    · cases hck
    · exact (ckL_zero aa).1 hck
  have hok : ∀ p ∈ ps, Okay p.a := fun p hp => hokA p.a (by rw [← haa]; exact List.mem_map_of_mem hp)
  have hal : ∀ p ∈ ps, p.a.al.length ≤ 32 := fun p hp => (hok p hp).al_le
  have hstA : ∀ a ∈ aa, a.st ≤ km := fun a ha => by rw [← haa] at ha; obtain ⟨p, hp, rfl⟩ := List.mem_map.1 ha; exact hst p hp
  have hlenA : aa.length = ps.length := by rw [← haa]; simp
  refine W_skip ?_
  refine W_seq <| W_region (by rfl) ?_
  refine x r_move <| xl rfl <| xf <| (open_ok (L := [b2]) (((h.up (fun b hb => .inr (by simp at hb; omega))).ext hs1).ext hs2) hn hal (fun b hb => by simp at hb; have := hs2.size; omega)).mono ?_
  rintro r4 w4 ⟨hs4, ve, vs, ms, rfl, hM4, hve4⟩
  rw [haa] at hve4
  have hvl := h.arr.one
  have hel := evs_len aa (fun a ha => (hokA a ha).al_le)
  have hevl : (evs aa).length ≤ 1000 := by omega
  have hveA := IntsO.ints (L := []) hve4 (by omega) (by simp)
  refine xl rfl <| o_alloc (us := [.slice none 0 0, .slice none 0 0, .slice none 0 0]) rfl fun b6 w5 hs5 hb6 hB6 => xl rfl <| o_stores (us := [vl, ve, vs]) hB6 rfl rfl rfl rfl ⟨hvl, hveA.one, hM4.sl.one, trivial⟩ fun w6 hs6 hB6 => xe ?_
  have hs46 : Step [] w4 w6 := hs5.then1 hs6 hb6
  have hz2 := hs2.size
  have hz4 := hs4.size
  have hz6 := hs46.size
  have hl6 := hB6.lt
  refine W_seq <| W_region (by rfl) ?_
  have hB2' := ((hB2.ext hs2).ext hs4).ext hs46
  refine x (r_fieldB rfl) <| x (r_loadB hB6 rfl rfl) <| x (r_fieldB rfl) <| xl rfl <| o_store hB2' rfl rfl (by simp) hveA.one fun w7 hs7 hB7 => xe ?_
  have hz7 := hs7.size
  have hW7 : Step [] w w7 := ((((hs1.trans hs2).trans hs4).trans hs46).then1 hs7 hb2)
  have hM7 : Mach [b2] w7.heap vl ve vs ps ms := (hM4.ext hs46).st hs7
  have hve7 : IntsO 3 w2.heap.size w7 ve (evs aa) := own_step (own_ext hve4 hs46) hs7 (fun b hb => by have := (own_ge hve4 b hb).1; simp; omega)
  have hB6' := hB6.step hs7 (by simp; omega)
  refine W_seq <| W_region (by rfl) ?_
  refine x (r_loadsB hB6' rfl rfl) <| xl rfl <| xf <| (initial_ok hM7 hn).mono ?_
  rintro r8 w8 ⟨hs8, hr8⟩
  have hz8 := hs8.size
  have hB8 := hB7.ext hs8
  have hexA : (∃ p ∈ ps, p.a.st = 0) ↔ (∃ a ∈ aa, a.st = 0) := by
    rw [← haa]
    constructor
    · rintro ⟨p, hp, h0⟩; exact ⟨p.a, List.mem_map_of_mem hp, h0⟩
    · rintro ⟨a, ha, h0⟩; obtain ⟨p, hp, rfl⟩ := List.mem_map.1 ha; exact ⟨p, hp, h0⟩
  by_cases hz : ∃ p ∈ ps, p.a.st = 0
  · rw [if_pos hz] at hr8
    subst hr8
    refine x r_move <| x (r_extract rfl rfl) <| x (r_extract rfl rfl) <| x r_assign <| x r_assign <| xe ?_
    refine W_seq <| W_seq <| W_region (by rfl) ?_
    refine x r_move <| x (r_not rfl) <| xe ?_
    refine W_true rfl ?_
    refine W_seq <| W_region (by rfl) ?_
    refine x (r_loadsB hB8 rfl rfl) <| xl rfl <| o_stores (us := [ve, .int .i64 0, .slice none 0 0, .slice none 0 0]) hB8 rfl rfl rfl rfl ⟨hveA.one, rfl, rfl, rfl, trivial⟩ fun w9 hs9 hB9 => x r_assign <| x r_assign <| xe ?_
    refine W_ret ⟨[.agg #[ve, .int .i64 0, .slice none 0 0, .slice none 0 0], nilS, .int .i64 0], ⟨⟨_, rfl, run_loadVar_ag rfl (hB9.at (L := []) (by simp)).cells⟩, rfl, rfl, trivial⟩, (hW7.trans hs8).then1 hs9 hb2, _, nilS, 0, rfl, ?_⟩
    unfold SyRes
    rw [if_neg h20]
    unfold sync
    rw [if_pos (hexA.1 hz)]
    have hve9 := own_step (own_ext hve7 hs8) hs9 (fun b hb => by have := (own_ge hve4 b hb).1; simp; omega)
    refine ⟨rfl, ⟨ve, _, _, rfl, fun L' hL' => ⟨IntsO.ints hve9 (by show (evs aa).length ≤ _; omega) (fun b hb => by have := hL' b hb; omega), Arr.nil _ _ _, Arr.nil _ _ _⟩⟩, [], rfl, fun L' hL' => ⟨Arr.nil _ _ _, fun p hp => by cases hp⟩⟩
  rw [if_neg hz] at hr8
  obtain ⟨vf, rfl, hf8⟩ := hr8
  have hfA := IntsO.ints (L := []) hf8 (by simp; omega) (by simp)
  refine x r_move <| x (r_extract rfl rfl) <| x (r_extract rfl rfl) <| x r_assign <| x r_assign <| xe ?_
  refine W_seq <| W_seq <| W_region (by rfl) ?_
  refine x r_move <| x (r_not rfl) <| xe ?_
  refine W_false rfl ?_
  refine W_skip ?_
  refine W_seq <| W_region (by rfl) ?_
  refine x r_move <| xl rfl <| o_lits (us := [[vf]]) rfl rfl (by decide) (by simp) ⟨hfA.cells, rfl, trivial⟩ fun b37 w10 hs10 hb37 hB37 => x r_assign <| xe ?_
  have hz10 := hs10.size
  have hl37 := hB37.lt
  refine W_seq <| W_region (by rfl) ?_
  refine xl rfl <| o_makeMap kStr fun b38 w11 hs11 hb38 hm11 => ?_
  have hz11 := hs11.size
  have hl38 := hm11.lt
  refine x r_move <| xl rfl <| xf <| (keyK_ok ((hfA.ext hs10).ext hs11) (hkb.ext ((hW7.trans hs8).trans (hs10.trans hs11))) (fun n hn => by have := List.eq_of_mem_replicate hn; omega) (by simp; omega)).mono ?_
  rintro r12 w12 ⟨rfl, hs12⟩
  have hz12 := hs12.size
  refine xl rfl <| o_insert (k := keyA (List.replicate ps.length 0)) (hm11.ext hs12) rfl rfl fun wS hs13 hmS => x r_move <| x r_assign <| xe ?_
  have hzS := hs13.size
  have hs812 : Step [] w8 w12 := (hs10.trans hs11).trans hs12
  have hs8S : Step [] w8 wS := hs812.then1 hs13 (by omega)
  have hWS : Step [] w wS := (hW7.trans hs8).trans hs8S
  have hzWS := hWS.size
  -- what stands at the start of the search
  have hnew : ∀ b ∈ [b2, b38, b37], b ∈ [b2] ∨ w8.heap.size ≤ b := fun b hb => by
    simp only [List.mem_cons, List.not_mem_nil, or_false] at hb
    rcases hb with rfl | rfl | rfl
    · exact .inl (by simp)
    · exact .inr (by omega)
    · exact .inr (by omega)
  have hMS : Mach [b2, b38, b37] wS.heap vl ve vs ps ms := ((hM7.ext hs8).up hnew).ext hs8S
  have hB6S : Blk wS.heap b6 147 [vl, ve, vs] := (hB6'.ext hs8).ext hs8S
  have hveS : IntsO 3 w2.heap.size wS ve (evs aa) := own_ext (own_ext hve7 hs8) hs8S
  have hvelt := own_lt hve4
  have hgef := own_ge hf8
  have hSN : SyN w1.heap.size b2 b38 b37 wS := ⟨by omega, by omega, by omega, by omega, by omega, by omega⟩
  have hSI : SyI w1.heap.size b2 b38 b37 ve wS (sy0 aa) (mput [] (keyA (List.replicate ps.length 0)) (.int .i64 0)) [(vf, List.replicate ps.length 0)] (.slice (some ⟨b37, 0, none⟩) 1 1) nilS nilS wS := by
    refine ⟨Step.refl _ _, hB8.ext hs8S, hmS, ?_, fun b hb => by simp [ob] at hb; exact .inl hb, own_nil _ _ _ _, own_nil _ _ _ _, by simp [sy0, hlenA], fun p hp => ?_, fun p hp b hb => ?_, Dj.nil' _, Dj.nil' _, Dj.nil' _⟩
    · exact (((hB37.ext hs11).ext hs12).step hs13 (by simp; omega)).own (n := 1) (sz := 1) rfl (by omega) (by omega)
    · simp only [List.mem_singleton] at hp; subst hp
      exact own_base (own_ext hf8 hs8S) (by omega)
    · simp only [List.mem_singleton] at hp; subst hp
      have := hgef b hb
      refine ⟨by omega, ?_, by simp [ob, nilS], by simp [ob, nilS]⟩
      simp [ob]; omega
  have hkn0 : KnOk ps.length (mput [] (keyA (List.replicate ps.length 0)) (.int .i64 0)) (sy0 aa).tup := by
    have hk0 : KnOk ps.length [] [] := fun u _ _ => rfl
    have := hk0.add (u := List.replicate ps.length 0) (by simp) (fun x hx => by have := List.eq_of_mem_replicate hx; omega)
    simpa [sy0, hlenA] using this
  have hok0 : SyOk aa (sy0 aa) := by
    refine ⟨fun t ht => ?_, by simp [sy0]⟩
    simp only [sy0, List.mem_singleton] at ht
    subst ht
    refine ⟨by simp, fun i h1 h2 => ?_⟩
    have h3 := (hokA aa[i] (List.getElem_mem h2)).st0
    have h4 : aa[i].st ≠ 0 := fun e => hz (hexA.2 ⟨aa[i], List.getElem_mem h2, e⟩)
    simp only [List.getElem_replicate]; omega
  generalize hT : syL aa 4096 0 (sy0 aa) = T
  have hfinal : ∀ s, T = some s → sync aa = some (⟨evs aa, s.tup.length, s.mk', s.ed⟩, s.tup) := fun s hs => by
    unfold sync; rw [if_neg (fun e => hz (hexA.2 e)), hT, hs]; rfl
  have hfinalN : T = none → sync aa = none := fun hs => by unfold sync; rw [if_neg (fun e => hz (hexA.2 e)), hT, hs]; rfl
  refine W_seq <| W_seq <| W_region (by rfl) ?_
  refine x r_assign <| xe ?_
  have hb6S : b6 ∉ [b2, b38, b37] := by simp; omega
  -- the search
  refine W_block <| W_loop (α := Nat × Sy × List (ByteArray × Value) × List TV × Value × Value × Value) [(3, 4), (10, 10), (12, 16), (42, 111)] (fun z => [(3, z.2.2.2.2.1), (10, .int .i64 z.1)])
    (fun z w' => SyI w1.heap.size b2 b38 b37 ve wS z.2.1 z.2.2.1 z.2.2.2.1 z.2.2.2.2.1 z.2.2.2.2.2.1 z.2.2.2.2.2.2 w' ∧ SyOk aa z.2.1 ∧ KnOk ps.length z.2.2.1 z.2.1.tup ∧ z.1 ≤ z.2.1.tup.length ∧ z.2.1.mk'.length ≤ z.1 ∧ z.2.1.ed.length ≤ z.1 * 1000 ∧ syL aa (4096 - z.1) z.1 z.2.1 = T)
    (fun z => 4096 - z.1) (by rfl) (0, sy0 aa, _, _, _, nilS, nilS) ⟨rfl, rfl, trivial⟩ ⟨hSI, hok0, hkn0, Nat.zero_le _, Nat.zero_le _, Nat.zero_le _, hT⟩ ?_
  rintro ⟨i, s, m, qs, vt, vk, vd⟩ g w14 ⟨hI, hsk, hkn, hi, hmk, hed, hrun⟩
  simp only [] at hI hsk hkn hi hmk hed hrun
  have hle := hsk.le
  have hql : qs.length = s.tup.length := by rw [← hI.q]; simp
  have hqv : ∀ p ∈ qs, Vt aa p.2 := fun p hp => hsk.v p.2 (by rw [← hI.q]; exact List.mem_map_of_mem hp)
  have hqn : ∀ p ∈ qs, p.2.length ≤ 12 := fun p hp => by have := (hqv p hp).1; omega
  have htA := own_arr (L := []) hI.t (by omega) (by simp)
  refine W_seq <| W_seq <| W_region (by rfl) ?_
  refine x r_move <| x r_move <| x (r_lenA htA rfl) <| x (r_lss rfl rfl) <| xe ?_
  refine W_ifn rfl (fun h45 => ?_) (fun h45 => ?_)
  · have hend : T = some s := by rw [← hrun, syL_done (by omega)]
    refine W_exit ?_
    refine W_seq <| W_region (by rfl) ?_
    refine x r_move <| x (r_lenA htA rfl) <| x (r_fieldB rfl) <| xl rfl <| o_store hI.A rfl rfl (by simp) rfl fun w15 hs15 hB15 => xe ?_
    refine W_seq <| W_region (by rfl) ?_
    have hkA := IntsO.ints (L := []) hI.k (by omega) (by simp)
    have heA := EdsO.eds (L := []) hI.e (by omega) (by simp)
    refine x (r_loadsB hB15 rfl rfl) <| x r_move <| xl rfl <| o_stores (us := [ve, .int .i64 qs.length, vk, vd]) hB15 rfl rfl rfl rfl ⟨hveA.one, rfl, hkA.one, heA.one, trivial⟩ fun w16 hs16 hB16 => x r_assign <| x r_assign <| xe ?_
    have hs1516 : Step [b2] w14 w16 := hs15.trans' hs16
    have hfin : Step [] w w16 := (hWS.then hI.st (fun b hb => .inr (by simp at hb; omega))).then1 hs1516 hb2
    refine W_ret ⟨[.agg #[ve, .int .i64 qs.length, vk, vd], vt, .int .i64 0], ⟨⟨_, rfl, run_loadVar_ag rfl (hB16.at (L := []) (by simp)).cells⟩, rfl, rfl, trivial⟩, hfin, _, vt, 0, rfl, ?_⟩
    unfold SyRes
    rw [if_neg h20, hfinal s hend]
    have e1 : (qs.length : Int) = s.tup.length := by rw [hql]
    have k0 : IntsO 3 w2.heap.size w16 ve (evs aa) := own_step (own_step hveS hI.st (fun b hb => by have := (own_ge hve4 b hb).1; have := hvelt b hb; simp; omega)) hs1516 (fun b hb => by have := (own_ge hve4 b hb).1; simp; omega)
    have k1 := own_step hI.k hs1516 (fun b hb => by have := (own_ge hI.k b hb).1; simp; omega)
    have k2 := own_step hI.e hs1516 (fun b hb => by have := (own_ge hI.e b hb).1; simp; omega)
    have k3 := own_step hI.t hs1516 (fun b hb => by have := (own_ge hI.t b hb).1; simp; omega)
    refine ⟨rfl, ⟨ve, vk, vd, by rw [e1], fun L' hL' => ⟨IntsO.ints k0 (by show (evs aa).length ≤ _; omega) (fun b hb => by have := hL' b hb; omega), IntsO.ints k1 (by show s.mk'.length ≤ _; omega) (fun b hb => by have := hL' b hb; omega), EdsO.eds k2 (by show s.ed.length ≤ _; omega) (fun b hb => by have := hL' b hb; omega)⟩⟩, qs, hI.q, fun L' hL' => ⟨?_, fun p hp => ?_⟩⟩
    · exact own_arr k3 (by omega) (fun b hb hbL => by have := (own_ge hI.t b hb).1; have := hL' b hbL; omega)
    · exact IntsO.ints (own_step (hI.el p hp) hs1516 (fun b hb => by have := (own_ge (hI.el p hp) b hb).1; simp; omega)) (by have := hqn p hp; omega) (fun b hb => by have := hL' b hb; omega)
  have hlt : i < s.tup.length := by omega
  have hltq : i < qs.length := by omega
  have hsyT := syT_q hI.q hltq
  have htv := hqv (qs[i]'hltq) (List.getElem_mem hltq)
  obtain ⟨t, htdef⟩ : ∃ t, (qs[i]'hltq).2 = t := ⟨_, rfl⟩
  rw [htdef] at hsyT htv
  refine W_skip ?_
  have hrun2 : (syEs aa i t (evs aa) (syMark aa i t s)).bind (syL aa (4096 - (i + 1)) (i + 1)) = T := by
    rw [← hrun]
    obtain ⟨f, hf⟩ : ∃ f, 4096 - i = f + 1 := ⟨4096 - i - 1, by omega⟩
    rw [hf, syL, if_pos hlt, hsyT, show 4096 - (i + 1) = f by omega]
  have hM14 := hMS.st hI.st
  have hM14' : Mach [] w14.heap vl ve vs ps ms := hM14.up (fun _ hb => by cases hb)
  have hB614 := hB6S.step hI.st hb6S
  have htI : Ints [] w14.heap (qs[i]'hltq).1 t := by rw [← htdef]; exact IntsO.ints (hI.el (qs[i]'hltq) (List.getElem_mem hltq)) (by have := hqn (qs[i]'hltq) (List.getElem_mem hltq); omega) (by simp)
  refine W_seq <| W_block <| W_cut (α := Value) [(48, 59)] (fun z => []) (fun z w' => SyI w1.heap.size b2 b38 b37 ve wS (syMark aa i t s) m qs vt z vd w') (by rfl) ?_ ?_
  · refine W_seq <| W_draw (Step [] w14) [(0, true), (1, true), (2, true), (3, true), (4, true), (5, false)] Tryz.mixed (by rfl) (by kernel_rfl) (Step.drew _ _) ?_
    refine pq (fun _ hc => r_loadsB (hB614.ext hc) rfl rfl) <| p (fun _ => r_move) <| p (fun _ => r_move) <| pig rfl tv_len htA rfl rfl hltq fun a51 h51 =>
      pq (fun _ hc => r_loadA (h51.ext hc) rfl) <| pk <| xf <| (marked_ok (hM14'.ext (Step.drew _ _)) (htI.ext (Step.drew _ _)) (by rw [htv.1, hlenA]) (fun p hp => (hok p hp).mri) hn).mono ?_
    rintro r17 w17 ⟨rfl, hs17⟩
    have hs17' := (Step.drew [] w14).trans hs17
    refine ⟨hs17', ?_⟩
    refine pe ?_
    have hI17 := hI.ext hs17'
    refine W_cond rfl (fun h53 => ?_) (fun h53 => ?_)
    rotate_left
    · refine W_skip ?_
      refine ⟨vk, trivial, ?_⟩
      rw [haa] at h53
      unfold syMark; rw [if_neg (by rw [h53]; simp)]; exact hI17
    refine W_region (by rfl) ?_
    refine x (r_fieldB rfl) <| x (r_loadB hI17.A rfl rfl) <| x r_move <| xl rfl <| o_lits (us := [[.int .i64 i]]) rfl rfl (by decide) (by simp) ⟨rfl, rfl, trivial⟩ fun b57 w18 hs18 hb57 hB57 => ?_
    have hI18 := hI17.ext hs18
    refine xl rfl <| o_app (news := [.int .i64 i]) (L := []) hI18.k rfl rfl rfl (hB57.at (by simp)) (by simp [Value.oneCell']) (by omega) hI18.st.size fun v19 w19 ho19 hs19 hn19 => ?_
    have hk19 : IntsO 3 wS.heap.size w19 v19 (s.mk' ++ [(i : Int)]) := IntsO.snoc ho19
    refine x (r_fieldB rfl) <| xl rfl <| o_store (hI18.A.step hs19 (own_notin hI18.k (by omega))) rfl rfl (by simp) (IntsO.ints (L := []) hk19 (by simp; omega) (by simp)).one fun w20 hs20 hB20 => xe ?_
    refine ⟨v19, trivial, ?_⟩
    rw [haa] at h53
    unfold syMark; rw [if_pos h53]
    exact hI18.setK hSN hs19 hk19 hn19 hs20 hB20
  rintro vk2 g3 w21 hI2
  have hsk2 : SyOk aa (syMark aa i t s) := syMark_ok hsk
  have htup2 : (syMark aa i t s).tup = s.tup := by unfold syMark; split <;> rfl
  have hed2 : (syMark aa i t s).ed = s.ed := by unfold syMark; split <;> rfl
  have hmk2 : (syMark aa i t s).mk'.length ≤ i + 1 := by
    unfold syMark; split
    · simp only [List.length_append, List.length_singleton]; omega
    · omega
  have hveI : Ints [b2, b38, b37] wS.heap ve (evs aa) := by have := hMS.ev; rw [haa] at this; exact this
  refine W_seq <| W_region (by rfl) ?_
  refine x (r_fieldB rfl) <| x (r_loadB (hB6S.step hI2.st hb6S) rfl rfl) <| x (r_lenA hveI rfl) <| x r_move <| xe ?_
  -- the events
  refine W_block <| W_loop (α := Nat × Sy × List (ByteArray × Value) × List TV × Value × Value) [(3, 4), (12, 16), (63, 111)] (fun z => [(3, z.2.2.2.2.1), (63, .int .i64 z.1)])
    (fun z w' => SyI w1.heap.size b2 b38 b37 ve wS z.2.1 z.2.2.1 z.2.2.2.1 z.2.2.2.2.1 vk2 z.2.2.2.2.2 w' ∧ SyOk aa z.2.1 ∧ KnOk ps.length z.2.2.1 z.2.1.tup ∧ z.1 ≤ (evs aa).length ∧ z.2.1.mk' = (syMark aa i t s).mk' ∧ z.2.1.ed.length ≤ i * 1000 + z.1 ∧
      (∃ h : i < z.2.2.2.1.length, (z.2.2.2.1[i]'h).2 = t) ∧ (syEs aa i t ((evs aa).drop z.1) z.2.1).bind (syL aa (4096 - (i + 1)) (i + 1)) = T)
    (fun z => (evs aa).length - z.1) (by rfl) (0, syMark aa i t s, m, qs, vt, vd) ⟨rfl, rfl, trivial⟩
    ⟨hI2, hsk2, by rw [htup2]; exact hkn, Nat.zero_le _, rfl, by rw [hed2]; simpa using hed, ⟨hltq, htdef⟩, hrun2⟩ ?_
  rintro ⟨j, s4, m4, qs4, vt4, vd4⟩ g4 w22 ⟨hI4, hsk4, hkn4, hj, hmk4, hed4, ⟨hlt4, ht4⟩, hrun4⟩
  simp only [] at hI4 hsk4 hkn4 hj hmk4 hed4 hrun4 hlt4 ht4
  have hql4 : qs4.length = s4.tup.length := by rw [← hI4.q]; simp
  have hle4 := hsk4.le
  refine W_seq <| W_region (by rfl) ?_
  refine x (r_lss rfl rfl) <| xe ?_
  refine W_seq <| W_ifn rfl (fun h64 => ?_) (fun h64 => ?_)
  · rw [List.drop_of_length_le (by omega), syEs] at hrun4
    refine W_exit ?_
    refine W_region (by rfl) ?_
    refine x r_move <| x (r_add rfl rfl ⟨by omega, by omega⟩) <| x r_assign <| xe ?_
    refine ⟨(i + 1, s4, m4, qs4, vt4, vk2, vd4), by simp only []; omega, ⟨rfl, rfl, trivial⟩, hI4, hsk4, hkn4, by simp only []; omega, by simp only []; rw [hmk4]; exact hmk2, by simp only []; omega, hrun4⟩
  have hltj : j < (evs aa).length := by omega
  rw [drop_cons hltj, syEs] at hrun4
  obtain ⟨v, hvj⟩ : ∃ v, (evs aa)[j] = v := ⟨_, rfl⟩
  rw [hvj] at hrun4
  refine W_skip ?_
  refine W_seq <| W_block <| W_seq <| W_region (by rfl) ?_
  have hveI4 := hveI.st hI4.st
  refine xii hveI4 rfl rfl hltj fun a65 h65 => ?_
  rw [hvj] at h65
  refine x (r_loadA h65 rfl) <| x r_assign <| xe ?_
  have hM22 := (hMS.st hI4.st).up (L' := []) (fun _ hb => by cases hb)
  have hB622 := hB6S.step hI4.st hb6S
  have htA4 := own_arr (L := []) hI4.t (by omega) (by simp)
  have htI4 : Ints [] w22.heap (qs4[i]'hlt4).1 t := by rw [← ht4]; exact IntsO.ints (hI4.el (qs4[i]'hlt4) (List.getElem_mem hlt4)) (by rw [ht4, htv.1]; omega) (by simp)
  refine W_seq <| W_draw (Step [] w22) [(0, true), (1, true), (2, true), (3, true), (4, true), (5, true), (6, false), (7, true), (8, true), (9, true), (10, true), (11, true)] Tryz.mixed (by rfl) (by kernel_rfl) (Step.drew _ _) ?_
  refine pq (fun _ hc => r_loadsB (hB622.ext hc) rfl rfl) <| p (fun _ => r_move) <| p (fun _ => r_move) <| pig rfl tv_len htA4 rfl rfl hlt4 fun a71 h71 =>
    pq (fun _ hc => r_loadA (h71.ext hc) rfl) <| p (fun _ => r_move) <| pk <| xf <| (pstep_ok (hM22.ext (Step.drew _ _)) (htI4.ext (Step.drew _ _)) (by rw [htv.1, hlenA]) (fun p hp => (hok p hp).ali) (fun p hp => (hok p hp).edi) hn _).mono ?_
  rintro r23 w23 ⟨hs23, hr23⟩
  rw [haa] at hr23
  have hs23' := (Step.drew [] w22).trans hs23
  refine ⟨hs23', ?_⟩
  have hI5 := hI4.ext hs23'
  have hz23 := hs23'.size
  have hz22 := hI4.st.size
  rcases optD (stepT v aa t) with hstp | ⟨u, hstp⟩
  · rw [hstp] at hr23
    subst hr23
    rw [syE_skip hstp] at hrun4
    refine p (fun _ => r_move) <| p (fun _ => r_extract rfl rfl) <| p (fun _ => r_extract rfl rfl) <| p (fun _ => r_assign) <| p (fun _ => r_assign) <| pe ?_
    refine W_seq <| W_seq <| W_region (by rfl) ?_
    refine x r_move <| x (r_not rfl) <| xe ?_
    refine W_true rfl ?_
    refine W_exit ?_
    refine W_region (by rfl) ?_
    refine x (r_add rfl rfl ⟨by omega, by omega⟩) <| x r_move <| xe ?_
    exact ⟨(j + 1, s4, m4, qs4, vt4, vd4), by simp only []; omega, ⟨rfl, rfl, trivial⟩, hI5, hsk4, hkn4, hltj, hmk4, by simp only []; omega, ⟨hlt4, ht4⟩, hrun4⟩
  · rw [hstp] at hr23
    obtain ⟨vx, rfl, hx23⟩ := hr23
    have huv := stepT_valid hokA htv hstp
    have hul : u.length = ps.length := by rw [huv.1, hlenA]
    have hub := huv.bd hstA
    have hu0 : ∀ x ∈ u, 0 ≤ x := fun x hx => (hub x hx).1
    refine p (fun _ => r_move) <| p (fun _ => r_extract rfl rfl) <| p (fun _ => r_extract rfl rfl) <| p (fun _ => r_assign) <| p (fun _ => r_assign) <| pe ?_
    refine W_seq <| W_seq <| W_region (by rfl) ?_
    refine x r_move <| x (r_not rfl) <| xe ?_
    refine W_false rfl ?_
    refine W_skip ?_
    have hxA := IntsO.ints (L := []) hx23 (by omega) (by simp)
    have hgex := own_ge hx23
    refine W_cut (α := Unit) [(15, 16), (79, 85)] (fun z => [(15, .int .i64 (if u ∈ s4.tup then (s4.tup.idxOf u : Int) else 0)), (16, .bool (decide (u ∈ s4.tup)))]) (fun z w' => Step [] w23 w') (by rfl) ?_ ?_
    · refine W_region (by rfl) ?_
      refine x r_move <| x r_move <| xl rfl <| xf <| (keyK_ok hxA (hkb.ext (hWS.then hI5.st (fun b hb => .inr (by simp at hb; omega)))) hub (by omega)).mono ?_
      rintro r24 w24 ⟨rfl, hs24⟩
      by_cases hu : u ∈ s4.tup
      · refine x (r_lookupS (k := keyA u) ((hI5.ext hs24).M) rfl rfl (by rw [hkn4 u hul hu0, if_pos hu])) <| x r_move <| x (r_extract rfl rfl) <| x (r_extract rfl rfl) <| x r_assign <| x r_assign <| xe ?_
        exact ⟨(), ⟨congrArg (Value.int .i64) (if_pos hu).symm, congrArg Value.bool (decide_eq_true hu).symm, trivial⟩, hs24⟩
      · refine x (r_lookupN (k := keyA u) ((hI5.ext hs24).M) rfl rfl (by rw [hkn4 u hul hu0, if_neg hu])) <| x r_move <| x (r_extract rfl rfl) <| x (r_extract rfl rfl) <| x r_assign <| x r_assign <| xe ?_
        exact ⟨(), ⟨congrArg (Value.int .i64) (if_neg hu).symm, congrArg Value.bool (decide_eq_false hu).symm, trivial⟩, hs24⟩
    rintro _ g6 w25 hs25
    have hI6 := hI5.ext hs25
    have hx25 := own_ext hx23 hs25
    have hxA25 := hxA.ext hs25
    have hz25 := hs25.size
    have hadd : ∀ b ∈ ob vx, b ∉ ob vt4 ∧ b ∉ ob vk2 ∧ b ∉ ob vd4 := fun b hb => by
      have h1 := (hgex b hb).1
      have h1' : w22.heap.size ≤ b := h1
      exact ⟨fun hb' => by have := own_lt hI4.t b hb'; omega, fun hb' => by have := own_lt hI4.k b hb'; omega, fun hb' => by have := own_lt hI4.e b hb'; omega⟩
    refine W_cut (α := List (ByteArray × Value) × List TV × Value) [(3, 4), (15, 15), (86, 101)] (fun z => [(3, z.2.2), (15, .int .i64 ((syAdd s4 u).tup.idxOf u : Int))])
      (fun z w' => SyI w1.heap.size b2 b38 b37 ve wS (syAdd s4 u) z.1 z.2.1 z.2.2 vk2 vd4 w' ∧ (u ∈ s4.tup ∨ s4.tup.length ≠ 4096) ∧ KnOk ps.length z.1 (syAdd s4 u).tup ∧ ∃ h : i < z.2.1.length, (z.2.1[i]'h).2 = t) (by rfl) ?_ ?_
    · refine W_seq <| W_region (by rfl) ?_
      refine x r_move <| x (r_not rfl) <| xe ?_
      refine W_cond rfl (fun h87 => ?_) (fun h87 => ?_)
      rotate_left
      · have hu : u ∈ s4.tup := by simpa using h87
        refine W_skip ?_
        have e1 : syAdd s4 u = s4 := by unfold syAdd; rw [if_pos hu]
        have e2 : (if u ∈ s4.tup then (s4.tup.idxOf u : Int) else 0) = ((syAdd s4 u).tup.idxOf u : Int) := by rw [e1, if_pos hu]
        refine ⟨(m4, qs4, vt4), ⟨rfl, congrArg (Value.int .i64) e2, trivial⟩, ?_, .inl hu, ?_, hlt4, ht4⟩
        · rw [e1]; exact hI6
        · rw [e1]; exact hkn4
      have hu : u ∉ s4.tup := by simpa using h87
      have htA6 := own_arr (L := []) hI6.t (by omega) (by simp)
      refine W_seq <| W_seq <| W_region (by rfl) ?_
      refine x r_move <| x (r_lenA htA6 rfl) <| x (r_eql rfl rfl) <| xe ?_
      refine W_if rfl (fun h90 => ?_) (fun h90 => ?_)
      · refine W_seq <| W_region (by rfl) ?_
        refine x (r_build trivial) <| xl rfl <| o_stores (us := [.slice none 0 0, .int .i64 0, .slice none 0 0, .slice none 0 0]) hI6.A rfl rfl rfl rfl ⟨rfl, rfl, rfl, rfl, trivial⟩ fun w26 hs26 hB26 => x r_assign <| x r_assign <| xe ?_
        refine W_ret ⟨[zA, nilS, .int .i64 3], ⟨⟨_, rfl, run_loadVar_ag rfl (hB26.at (L := []) (by simp)).cells⟩, rfl, rfl, trivial⟩, (hWS.then hI6.st (fun b hb => .inr (by simp at hb; omega))).then1 hs26 hb2, zA, nilS, 3, rfl, ?_⟩
        unfold SyRes
        rw [syE_none hstp hu (by omega)] at hrun4
        rw [if_neg h20, hfinalN hrun4.symm]
        exact ⟨rfl, rfl, rfl⟩
      have hl4 : s4.tup.length ≠ 4096 := by omega
      refine W_skip ?_
      refine W_seq <| W_region (by rfl) ?_
      refine x r_move <| x (r_lenA htA6 rfl) <| x r_assign <| xe ?_
      refine W_seq <| W_region (by rfl) ?_
      refine x r_move <| x r_move <| xl rfl <| xf <| (keyK_ok hxA25 (hkb.ext (hWS.then hI6.st (fun b hb => .inr (by simp at hb; omega)))) hub (by omega)).mono ?_
      rintro r26 w26 ⟨rfl, hs26⟩
      have hI7 := hI6.ext hs26
      refine x r_move <| xl rfl <| o_update (k := keyA u) hI7.M rfl rfl fun w27 hs27 hm27 => xe ?_
      have hI8 := hI7.setM hSN hs27 hm27
      have hx27 := own_step (own_ext hx25 hs26) hs27 (fun b hb => by have := (hgex b hb).1; have h1' : w22.heap.size ≤ b := this; simp; omega)
      refine W_region (by rfl) ?_
      refine x r_move <| x r_move <| xl rfl <| o_lits (us := [[vx]]) rfl rfl (by decide) (by simp) ⟨hxA.cells, rfl, trivial⟩ fun b100 w28 hs28 hb100 hB100 => ?_
      have hI9 := hI8.ext hs28
      refine xl rfl <| o_app (news := [vx]) (L := []) hI9.t rfl rfl rfl (hB100.at (by simp)) (fun y hy => by simp only [List.mem_singleton] at hy; subst hy; exact hxA.one) (by omega) (by have := hI9.st.size; have := hSN.nS; omega) fun v29 w29 ho29 hs29 hn29 => x r_assign <| xe ?_
      have hk29 : TupO 32 w1.heap.size w29 v29 (qs4 ++ [(vx, u)]) := TupO.snoc ho29
      have hIA := hI9.setT hSN (u := u) (own_base (own_ext hx27 hs28) (by show wS.heap.size ≤ w22.heap.size; omega)) hadd hs29 hk29 hn29
      have e1 : syAdd s4 u = ⟨s4.tup ++ [u], s4.mk', s4.ed⟩ := by unfold syAdd; rw [if_neg hu]
      have e2 : (qs4.length : Int) = ((syAdd s4 u).tup.idxOf u : Int) := by
        rw [e1]
        simp only []
        rw [List.idxOf_append, if_neg hu, ← hql4]; simp
      refine ⟨(mput m4 (keyA u) (.int .i64 (qs4.length : Int)), qs4 ++ [(vx, u)], v29), ⟨rfl, congrArg (Value.int .i64) e2, trivial⟩, ?_, .inr hl4, ?_, by simp; omega, ?_⟩
      · rw [e1]; exact hIA
      · rw [e1]
        simp only []
        rw [hql4]; exact hkn4.add hu hu0
      · simp only []
        rw [List.getElem_append_left hlt4]; exact ht4
    rintro ⟨m5, qs5, vt5⟩ g7 w30 ⟨hI10, hlim, hkn5, hlt5, ht5⟩
    simp only [] at hI10 hkn5 hlt5 ht5
    have hed5 : (syAdd s4 u).ed.length ≤ i * 1000 + j := by rw [syAdd_ed]; exact hed4
    have hsy := syE_add (aa := aa) (i := i) (s := s4) hstp hlim
    have hsk5 := syE_ok hokA hsk4 htv hsy
    rw [hsy] at hrun4
    refine W_region (by rfl) ?_
    refine x (r_fieldB rfl) <| x (r_loadB hI10.A rfl rfl) <| x r_move <| x r_move <| x r_move <| x (r_build ⟨rfl, rfl, rfl, trivial⟩) <| xl rfl <| o_lits (us := [edCells ((i : Int), v, ((syAdd s4 u).tup.idxOf u : Int))]) rfl rfl (by decide) (by exact (by decide : 1 * 3 ≤ 1000000)) ⟨rfl, rfl, trivial⟩ fun b108 w31 hs31 hb108 hB108 => ?_
    have hI11 := hI10.ext hs31
    refine xl rfl <| o_app (news := edCells ((i : Int), v, ((syAdd s4 u).tup.idxOf u : Int))) (L := []) hI11.e rfl rfl rfl (hB108.at (by simp)) (fun y hy => by simp only [edCells, List.mem_cons, List.not_mem_nil, or_false] at hy; rcases hy with rfl | rfl | rfl <;> rfl) (by omega) hI11.st.size fun v32 w32 ho32 hs32 hn32 => ?_
    have hk32 : EdsO 85 wS.heap.size w32 v32 ((syAdd s4 u).ed ++ [((i : Int), v, ((syAdd s4 u).tup.idxOf u : Int))]) := EdsO.snoc ho32
    refine x (r_fieldB rfl) <| xl rfl <| o_store (hI11.A.step hs32 (own_notin hI11.e (by omega))) rfl rfl (by simp) (EdsO.eds (L := []) hk32 (by simp; omega) (by simp)).one fun w33 hs33 hB33 => xe ?_
    have hI12 := hI11.setE hSN hs32 hk32 hn32 hs33 hB33
    refine W_region (by rfl) ?_
    refine x (r_add rfl rfl ⟨by omega, by omega⟩) <| x r_move <| xe ?_
    refine ⟨(j + 1, _, m5, qs5, vt5, v32), by simp only []; omega, ⟨rfl, rfl, trivial⟩, hI12, hsk5, hkn5, hltj, ?_, ?_, ⟨hlt5, ht5⟩, hrun4⟩
    · simp only []; rw [syAdd_mk]; exact hmk4
    · simp only [List.length_append, List.length_singleton]; omega
theorem Synchronous_ok {L : List Nat} {w : World} {vl : Value} {ps : List AV} (h : Auts L w.heap vl ps) (hst : ∀ p ∈ ps, p.a.st ≤ 100) :
    Ret Tryz.prog 63 [vl] w fun r w' => Step [] w w' ∧ ∃ va vt c, r = .tuple #[va, vt, .int .i64 c] ∧ SyRes w.heap.size w'.heap (ps.map (·.a)) va vt c :=
  SyncK_ok (km := 100) h (.inl (Int.le_refl _)) (by decide) hst
end Go.Proofs.YtfhgnlkdcdlblaaGreatDoor
/- Supervisors as plain functions. -/
namespace Go.Proofs.YtfhgnlkdcdlblaaGreatDoor
open Go.Lg

structure Ctl where
  en : List Int
  dis : List Int
  mk' : Bool
  ps : Bool
def ctl0 : Ctl := ⟨[], [], false, false⟩
def uni1 (l : List Int) (v : Int) : List Int := mrg (· || ·) l [v]
/-- What an event adds to the Control of a state. -/
def ctlE (p s : Aut) (x y : Int) (c : Ctl) (v : Int) : Ctl :=
  match eget p.ed x v with
  | none => c
  | some _ => match eget s.ed y v with
    | some _ => ⟨uni1 c.en v, c.dis, c.mk', c.ps⟩
    | none => ⟨c.en, uni1 c.dis v, c.mk', c.ps⟩
def ctlB (p s : Aut) (x y : Int) (c : Ctl) : Ctl := ⟨c.en, c.dis, decide (y ∈ s.mr), c.ps || decide (x ∈ p.mr)⟩
def ctlP (p s : Aut) (x y : Int) (c : Ctl) : Ctl := s.al.foldl (ctlE p s x y) (ctlB p s x y c)
def px (q : List Int) : Int := q.getD 0 0
def py (q : List Int) : Int := q.getD 1 0
def ctlQ (p s : Aut) (l : List Ctl) (q : List Int) : List Ctl := l.set (py q).toNat (ctlP p s (px q) (py q) (l.getD (py q).toNat ctl0))
def ctls (p s : Aut) (pairs : List (List Int)) : List Ctl := pairs.foldl (ctlQ p s) (List.replicate s.st.toNat ctl0)
def occs (n : Nat) (pairs : List (List Int)) : List Bool := pairs.foldl (fun o q => o.set (py q).toNat true) (List.replicate n false)
def meets (a b : List Int) : List Int := mrg (· && ·) a b
def consC (a b : Ctl) : Bool := decide ((meets a.en b.dis).length + (meets b.en a.dis).length = 0) && (!a.ps || !b.ps || a.mk' == b.mk')

/-! ### Classes -/
def cget (l : List Int) (i : Nat) : Int := l.getD i 0
def mergeC (cl : List Int) (x y : Nat) : List Int := cl.map fun c => if c = cget cl y then cget cl x else c
def lget (l : List Ctl) (i : Nat) : Ctl := l.getD i ctl0
def to0 (s : Aut) (x : Nat) (v : Int) : Int := match eget s.ed x v with | some u => u | none => 0
/-- An event of two states of a class. -/
def clE (s : Aut) (x y : Nat) (z : List Int × Bool) (v : Int) : List Int × Bool :=
  if cget z.1 (to0 s x v).toNat ≠ cget z.1 (to0 s y v).toNat then (mergeC z.1 (to0 s x v).toNat (to0 s y v).toNat, true) else z
def clY (s : Aut) (l : List Ctl) (x : Nat) (z : List Int × Bool) (y : Nat) : List Int × Bool :=
  if cget z.1 x < 0 ∨ cget z.1 x ≠ cget z.1 y then z else (meets (lget l x).en (lget l y).en).foldl (clE s x y) z
def clX (s : Aut) (l : List Ctl) (n : Nat) (z : List Int × Bool) (x : Nat) : List Int × Bool := (List.range' (x + 1) (n - (x + 1))).foldl (clY s l x) z
def pass (s : Aut) (l : List Ctl) (cl : List Int) : List Int × Bool := (List.range' 0 cl.length).foldl (clX s l cl.length) (cl, false)
def closeC (s : Aut) (l : List Ctl) : Nat → List Int → List Int
  | 0, cl => cl
  | f + 1, cl => if (pass s l cl).2 = true then closeC s l f (pass s l cl).1 else (pass s l cl).1
/-- The unequal pairs. -/
def uneq (cl : List Int) : Nat := (cl.flatMap fun a => cl.map fun b => (a, b)).countP fun p => decide (p.1 ≠ p.2)
theorem countP_le {α : Type} (p q : α → Bool) : ∀ (l : List α), (∀ x ∈ l, q x = true → p x = true) → l.countP q ≤ l.countP p
  | [], _ => by simp
  | x :: l, h => by
    have ih := countP_le p q l (fun y hy => h y (List.mem_cons_of_mem _ hy))
    have hx := h x List.mem_cons_self
    rw [List.countP_cons, List.countP_cons]
    cases hq : q x
    · simp; omega
    · rw [hx hq]; simp; omega
theorem countP_lt {α : Type} (p q : α → Bool) : ∀ (l : List α), (∀ x ∈ l, q x = true → p x = true) → (∃ x ∈ l, p x = true ∧ q x = false) → l.countP q < l.countP p
  | [], _, h => by obtain ⟨x, hx, _⟩ := h; cases hx
  | x :: l, h, he => by
    have ih := countP_lt p q l (fun y hy => h y (List.mem_cons_of_mem _ hy))
    have il := countP_le p q l (fun y hy => h y (List.mem_cons_of_mem _ hy))
    have hx := h x List.mem_cons_self
    rw [List.countP_cons, List.countP_cons]
    obtain ⟨y, hy, h1, h2⟩ := he
    rcases List.mem_cons.1 hy with rfl | hy
    · rw [h1, h2]; simp; omega
    · have := ih ⟨y, hy, h1, h2⟩
      cases hq : q x
      · simp; omega
      · rw [hx hq]; simp; omega
theorem uneq_map (cl : List Int) (g : Int → Int) : uneq (cl.map g) = (cl.flatMap fun a => cl.map fun b => (a, b)).countP fun p => decide (g p.1 ≠ g p.2) := by
  have e : ((cl.map g).flatMap fun a => (cl.map g).map fun b => (a, b)) = (cl.flatMap fun a => cl.map fun b => (a, b)).map fun p => (g p.1, g p.2) := by
    rw [List.map_flatMap, List.flatMap_map]
    simp only [List.map_map]
    rfl
  unfold uneq
  rw [e, List.countP_map]
  rfl
theorem uneq_merge_lt {cl : List Int} {x y : Nat} (hx : x < cl.length) (hy : y < cl.length) (h : cget cl x ≠ cget cl y) : uneq (mergeC cl x y) < uneq cl := by
  unfold mergeC
  rw [uneq_map]
  unfold uneq
  have ex : cget cl x = cl[x] := by simp [cget, List.getD, hx]
  have ey : cget cl y = cl[y] := by simp [cget, List.getD, hy]
  refine countP_lt _ _ _ ?_ ⟨(cl[x], cl[y]), ?_, ?_, ?_⟩
  · rintro ⟨a, b⟩ _ hq
    simp only [decide_eq_true_eq] at hq ⊢
    rintro rfl
    exact hq rfl
  · simp only [List.mem_flatMap, List.mem_map]
    exact ⟨cl[x], List.getElem_mem hx, cl[y], List.getElem_mem hy, rfl⟩
  · rw [ex, ey] at h
    simpa using h
  · simp only [decide_eq_false_iff_not, Decidable.not_not]
    rw [ex, ey] at *
    simp
theorem uneq_le (cl : List Int) : uneq cl ≤ cl.length * cl.length := by
  unfold uneq
  refine Nat.le_trans List.countP_le_length ?_
  have : ∀ (l : List Int), (l.flatMap fun a => cl.map fun b => (a, b)).length = l.length * cl.length := by
    intro l
    induction l with
    | nil => simp
    | cons a l ih => simp only [List.flatMap_cons, List.length_append, List.length_map, ih, List.length_cons, Nat.add_mul, Nat.one_mul]; omega
  rw [this]; exact Nat.le_refl _
theorem mergeC_len (cl : List Int) (x y : Nat) : (mergeC cl x y).length = cl.length := by simp [mergeC]
/-- The states lead to states. -/
def StB (s : Aut) (n : Nat) : Prop := ∀ e ∈ s.ed, 0 ≤ e.2.2 ∧ e.2.2 < n
theorem to0_lt {s : Aut} {n : Nat} (h : StB s n) (hn : 0 < n) (x : Nat) (v : Int) : 0 ≤ to0 s x v ∧ to0 s x v < n := by
  unfold to0
  split
  · rename_i u hu; have := h _ (eget_mem hu); exact this
  · omega
/-- What a pass keeps. -/
structure ClI (n k : Nat) (b : Bool) (z : List Int × Bool) : Prop where
  len : z.1.length = n
  less : z.2 = true → uneq z.1 < k ∨ (b = true ∧ uneq z.1 ≤ k)
  le : uneq z.1 ≤ k
def consAll (l : List Ctl) (cl : List Int) : Bool :=
  (List.range' 0 cl.length).all fun x => (List.range' 0 x).all fun y => !(decide (0 ≤ cget cl x ∧ cget cl x = cget cl y) && !consC (lget l x) (lget l y))
def tryC (s : Aut) (l : List Ctl) (cl : List Int) (x y : Nat) : List Int :=
  if cget cl x < 0 ∨ cget cl y < 0 ∨ cget cl x = cget cl y then cl else
    let d := closeC s l (cl.length * cl.length + 1) (mergeC cl x y)
    if consAll l d = true then d else cl
def tryX (s : Aut) (l : List Ctl) (n : Nat) (cl : List Int) (x : Nat) : List Int := (List.range' (x + 1) (n - (x + 1))).foldl (fun c y => tryC s l c x y) cl
def cls0 (o : List Bool) : List Int := (List.range' 0 o.length).map fun i => if o.getD i false = true then (i : Int) else -1
def clsA (s : Aut) (l : List Ctl) (cl : List Int) : List Int := (List.range' 0 cl.length).foldl (tryX s l cl.length) cl
/-- The classes in the order of their least states: the classes met so far. -/
def numS (z : List Int × List Int) (c : Int) : List Int × List Int :=
  if c ∈ z.1 then (z.1, z.2 ++ [(z.1.idxOf c : Int) - 1]) else (z.1 ++ [c], z.2 ++ [(z.1.length : Int) - 1])
def nums (cl : List Int) : List Int := (cl.foldl numS ([-1], [])).2
def clsOf (p s : Aut) (pairs : List (List Int)) : List Int := nums (clsA s (ctls p s pairs) (cls0 (occs s.st.toNat pairs)))
end Go.Proofs.YtfhgnlkdcdlblaaGreatDoor
/- Lists of Controls as data. -/
namespace Go.Proofs.YtfhgnlkdcdlblaaGreatDoor
open Go.Lg

theorem flat_set {α : Type} (g : α → List Value) (sz : Nat) (hg : ∀ x, (g x).length = sz) : ∀ (l : List α) (i j : Nat) (h : i < l.length) (y : α) (u : Value), j < sz → g y = (g l[i]).set j u →
    (l.flatMap g).set (i * sz + j) u = (l.set i y).flatMap g
  | x :: l, 0, j, h, y, u, hj, hy => by
    simp only [List.getElem_cons_zero] at hy
    simp only [Nat.zero_mul, Nat.zero_add, List.flatMap_cons, List.set_cons_zero]
    rw [List.set_append_left _ _ (by rw [hg]; exact hj), hy]
  | x :: l, i + 1, j, h, y, u, hj, hy => by
    simp only [List.getElem_cons_succ] at hy
    simp only [List.flatMap_cons, List.set_cons_succ]
    rw [List.set_append_right _ _ (by rw [hg, Nat.add_mul]; omega), hg, show (i + 1) * sz + j - sz = i * sz + j by rw [Nat.add_mul]; omega, flat_set g sz hg l i j (by simpa using h) y u hj hy]
theorem flat_get {α : Type} (g : α → List Value) (sz : Nat) (hg : ∀ x, (g x).length = sz) (l : List α) (i j : Nat) (h : i < l.length) (hj : j < sz) : (l.flatMap g)[i * sz + j]? = (g l[i])[j]? := by
  rw [← flat_at g sz hg l i h, List.getElem?_take, if_pos hj, List.getElem?_drop]
/-- A Control: its two lists in memory. -/
structure CV where
  ve : Value
  vd : Value
  c : Ctl
abbrev cvCells (p : CV) : List Value := [p.ve, p.vd, .bool p.c.mk', .bool p.c.ps]
theorem cv_len (p : CV) : (cvCells p).length = 4 := rfl
structure CvA (L : List Nat) (H : Array Obj) (p : CV) : Prop where
  en : Ints L H p.ve p.c.en
  dis : Ints L H p.vd p.c.dis
structure Ctls (L : List Nat) (H : Array Obj) (v : Value) (cs : List CV) : Prop where
  arr : Arr L H v cs.length 4 (cs.flatMap cvCells)
  each : ∀ p ∈ cs, CvA L H p
theorem CvA.ext {L : List Nat} {w w' : World} {p : CV} (h : CvA L w.heap p) (hs : Step [] w w') : CvA L w'.heap p := ⟨h.en.ext hs, h.dis.ext hs⟩
theorem CvA.st {L : List Nat} {w w' : World} {p : CV} (h : CvA L w.heap p) (hs : Step L w w') : CvA L w'.heap p := ⟨h.en.st hs, h.dis.st hs⟩
theorem CvA.up {L L' : List Nat} {H : Array Obj} {p : CV} (h : CvA L H p) (hL : ∀ b ∈ L', b ∈ L ∨ H.size ≤ b) : CvA L' H p := ⟨h.en.up hL, h.dis.up hL⟩
theorem Ctls.ext {L : List Nat} {w w' : World} {v : Value} {cs : List CV} (h : Ctls L w.heap v cs) (hs : Step [] w w') : Ctls L w'.heap v cs := ⟨h.arr.ext hs, fun p hp => (h.each p hp).ext hs⟩
theorem Ctls.st {L : List Nat} {w w' : World} {v : Value} {cs : List CV} (h : Ctls L w.heap v cs) (hs : Step L w w') : Ctls L w'.heap v cs := ⟨h.arr.st hs, fun p hp => (h.each p hp).st hs⟩
theorem Ctls.up {L L' : List Nat} {H : Array Obj} {v : Value} {cs : List CV} (h : Ctls L H v cs) (hL : ∀ b ∈ L', b ∈ L ∨ H.size ≤ b) : Ctls L' H v cs := ⟨h.arr.up hL, fun p hp => (h.each p hp).up hL⟩
/-- Controls in new memory. -/
def CtlF (N : Nat) (H : Array Obj) (v : Value) (l : List Ctl) : Prop := ∃ cs : List CV, cs.map (·.c) = l ∧ ∀ L : List Nat, (∀ b ∈ L, b < N) → Ctls L H v cs
theorem CtlF.ext {N : Nat} {w w' : World} {v : Value} {l : List Ctl} (h : CtlF N w.heap v l) (hs : Step [] w w') : CtlF N w'.heap v l := let ⟨cs, h1, h2⟩ := h; ⟨cs, h1, fun L hL => (h2 L hL).ext hs⟩
theorem CtlF.mono {N M : Nat} {H : Array Obj} {v : Value} {l : List Ctl} (h : CtlF N H v l) (hM : M ≤ N) : CtlF M H v l := let ⟨cs, h1, h2⟩ := h; ⟨cs, h1, fun L hL => h2 L (fun b hb => Nat.lt_of_lt_of_le (hL b hb) hM)⟩
theorem lget_cv {cs : List CV} {l : List Ctl} (h : cs.map (·.c) = l) {i : Nat} (hi : i < cs.length) : lget l i = cs[i].c := by
  subst h; simp [lget, List.getD, hi]
end Go.Proofs.YtfhgnlkdcdlblaaGreatDoor
/- A drawn region in which, behind the quiet operations, two may come up in either order. -/
namespace Go.Lg
section
variable {P : Program} {n : Nat} {f : Fr} {w : World} {all : List Oper} {C : World → Prop} {K : Fr → World → Prop}
def forkGo (all : Array Oper) (i j : Nat) (p1 p2 : List (Nat × Bool)) : List (Nat × Bool) → Array Bool → Bool
  | [], ls => Region.ready .any all ls == [i, j] && planGo all p1 (ls.setIfInBounds i true) && planGo all p2 (ls.setIfInBounds j true)
  | (k, q) :: pl, ls => q && (Region.ready .any all ls).contains k && Region.free .any all ls k && forkGo all i j p1 p2 pl (ls.setIfInBounds k true)
def forkOk (all : List Oper) (pl : List (Nat × Bool)) (i j : Nat) (p1 p2 : List (Nat × Bool)) : Bool :=
  Region.noSelect all.toArray && pl.length + 1 + p1.length == all.length && p1.length == p2.length && forkGo all.toArray i j p1 p2 pl (Array.replicate all.length false)
/-- Both orders. -/
def Fk (P : Program) (all : List Oper) (C : World → Prop) (K : Fr → World → Prop) (i j : Nat) (p1 p2 : List (Nat × Bool)) (f : Fr) (w : World) : Prop :=
  (gdF all f (opAt all i) = true ∧ XO P (opAt all i) f w fun f' w' => C w' ∧ XP P all C K p1 f' w') ∧
  (gdF all f (opAt all j) = true ∧ XO P (opAt all j) f w fun f' w' => C w' ∧ XP P all C K p2 f' w')
theorem XA_of_fork {i j : Nat} {p1 p2 : List (Nat × Bool)} (hl : p1.length = p2.length) (hs : Region.noSelect all.toArray = true) : ∀ (pl : List (Nat × Bool)) (ls : Array Bool) (f : Fr) (w : World), ls.size = all.length → C w → forkGo all.toArray i j p1 p2 pl ls = true →
    XP P all C (Fk P all C K i j p1 p2) pl f w → XA P all C K (pl.length + (1 + p1.length)) ls f w
  | [], ls, f, w, hsz, hC, hp, h => by
    simp only [forkGo, Bool.and_eq_true, beq_iff_eq] at hp
    obtain ⟨⟨hr, h1⟩, h2⟩ := hp
    simp only [XP] at h
    rw [List.length_nil, Nat.zero_add, Nat.add_comm]
    refine XA_succ (fun h0 => (by rw [h0] at hr; cases hr)) ?_
    rw [hr]
    intro k hk o ho
    have hsz' : (ls.setIfInBounds k true).size = all.length := by simpa using hsz
    simp only [List.mem_cons, List.not_mem_nil, or_false] at hk
    rcases hk with rfl | rfl
    · have := h.1
      rw [opAt_some ho] at this
      rw [this.1, cond_true]
      exact this.2.mono fun v w' hx => ⟨.inr (.inr hx.1), XA_of_plan hs p1 _ _ _ hsz' (.inl hx.1) h1 hx.2⟩
    · have := h.2
      rw [opAt_some ho] at this
      rw [this.1, cond_true, hl]
      exact this.2.mono fun v w' hx => ⟨.inr (.inr hx.1), XA_of_plan hs p2 _ _ _ hsz' (.inl hx.1) h2 hx.2⟩
  | (i0, q) :: pl, ls, f, w, hsz, hC, hp, h => by
    simp only [forkGo, Bool.and_eq_true] at hp
    obtain ⟨⟨⟨rfl, hr⟩, hf⟩, hp'⟩ := hp
    simp only [XP] at h
    have hri : i0 ∈ Region.ready .any all.toArray ls := by simpa using hr
    have e : (List.length ((i0, true) :: pl)) + (1 + p1.length) = (pl.length + (1 + p1.length)) + 1 := by simp; omega
    rw [e]
    cases ho : all[i0]? with
    | none =>
      exfalso
      obtain ⟨_, o, hoo, _⟩ := mem_ready.1 hri
      simp [ho] at hoo
    | some o =>
      rw [opAt_some ho] at h
      have hsel : ∀ (j : Nat) (o : Oper) cs b, all[j]? = some o → o.op ≠ .select cs b := fun j o cs b hj => Region.noSelect_spec hs j o cs b (by simpa using hj)
      have hfree := fun j oj hj => Region.free_spec (ops := all.toArray) (md := .any) (i := i0) (oi := o) (listed := ls) (by simpa using ho) hf j oj (by simpa using hj)
      have hsz' : (ls.setIfInBounds i0 true).size = all.length := by simpa using hsz
      cases hg : gdF all f o with
      | false =>
        rw [hg] at h
        exact XA_first (v := undef) (D := fun w => rdB o = true → C w) ho (fun _ h => h) hsel _ ls f w (fun _ => hC) hfree hri (.inr ⟨hg, rfl⟩) (XA_of_fork hl hs pl _ _ _ hsz' hC hp' h)
      | true =>
        rw [hg] at h
        simp only [cond_true] at h
        obtain ⟨v, hv, hx⟩ := h
        exact XA_first (v := v) (D := fun w => rdB o = true → C w) ho (fun _ h => h) hsel _ ls f w (fun _ => hC) hfree hri (.inl ⟨hg, hv⟩) (XA_of_fork hl hs pl _ _ _ hsz' hC hp' hx)
theorem W_draw2 {Q : Exit → Fr → World → Prop} {id : Nat} (C : World → Prop) (pl : List (Nat × Bool)) (i j : Nat) (p1 p2 : List (Nat × Bool)) (hm : P.follows .mixedOrders = true) (hn : dstOk n all = true) (hp : forkOk all pl i j p1 p2 = true)
    (hC : C { w with drawn := w.drawn + 1 }) (h : XP P all C (Fk P all C (fun f w => Q .normal f w) i j p1 p2) pl f { w with drawn := w.drawn + 1 }) : W P n (.region id all.toArray true) Q f w := by
  simp only [forkOk, Bool.and_eq_true, beq_iff_eq] at hp
  obtain ⟨⟨⟨hs, hl⟩, hl2⟩, hp⟩ := hp
  refine W_draw_any C hm hn ?_
  have h1 := XA_of_fork hl2 hs pl _ _ _ (by simp) hC hp h
  rw [← Nat.add_assoc, hl] at h1
  exact h1
end
end Go.Lg
/- Contracts: supervisor's steps, controls. -/
namespace Go.Proofs.YtfhgnlkdcdlblaaGreatDoor
open Go.Lg

theorem edMap_take {m : List ((Int × Int) × Value)} {es : List Ed} {k : Nat} (h : k < es.length) : edMap m (es.take (k + 1)) = mput (edMap m (es.take k)) (es[k].1, es[k].2.1) (.int .i64 es[k].2.2) := by
  unfold edMap
  rw [List.take_succ_eq_append_getElem h, List.foldl_append]; rfl
theorem steps_ok {L : List Nat} {w : World} {va vm ve : Value} {st : Int} {es : List Ed} (h : Eds L w.heap ve es) :
    Ret Tryz.prog 50 [.agg #[va, .int .i64 st, vm, ve]] w fun r w' => Step [] w w' ∧ ∃ b, r = .map (some b) ∧ w.heap.size ≤ b ∧ MapB kPair w'.heap b (edMap [] es) := by
  have hle := h.le
  refine Ret.of_W Tryz.func50 rfl Tryz.ntmps50 Tryz.results50 (by simp) ?_
  refine W_seq <| W_region (by rfl) ?_
  refine xl rfl <| o_box (us := [va, .int .i64 st, vm, ve]) rfl fun b1 w1 hs1 hb1 hB1 => x r_assign <| xe ?_
  refine W_seq <| W_region (by rfl) ?_
  refine xl rfl <| o_makeMap kPair fun b6 w2 hs2 hb6 hm6 => x r_assign <| xe ?_
  refine W_seq <| W_seq <| W_region (by rfl) ?_
  refine x (r_fieldB rfl) <| x (r_loadB (hB1.ext hs2) rfl rfl) <| x (r_lenA h rfl) <| x r_move <| xe ?_
  have hz1 := hs1.size
  have hz2 := hs2.size
  have hl6 := hm6.lt
  have hE : Eds [b6] w2.heap ve es := (h.up (L' := [b6]) (fun b hb => .inr (by simp at hb; omega))).ext (hs1.trans hs2)
  refine W_block <| W_loop (α := Nat) [(5, 5), (10, 22)] (fun z => [(10, .int .i64 z)]) (fun z w' => z ≤ es.length ∧ Step [b6] w2 w' ∧ MapB kPair w'.heap b6 (edMap [] (es.take z))) (fun z => es.length - z) (by rfl) 0 ⟨rfl, trivial⟩
    ⟨Nat.zero_le _, Step.refl _ _, hm6⟩ ?_
  rintro k g w3 ⟨hk, hs3, hm3⟩
  have hz3 := hs3.size
  refine W_seq <| W_region (by rfl) ?_
  refine x (r_lss rfl rfl) <| xe ?_
  refine W_seq <| W_ifn rfl (fun h11 => ?_) (fun h11 => ?_)
  · refine W_exit ?_
    refine W_seq <| W_region (by rfl) ?_
    refine x r_move <| x r_assign <| xe ?_
    rw [List.take_of_length_le (by omega)] at hm3
    refine W_ret ⟨[.map (some b6)], ⟨rfl, trivial⟩, (hs1.trans hs2).then1 hs3 (by omega), b6, rfl, by omega, hm3⟩
  have hlt : k < es.length := by omega
  refine W_skip ?_
  refine W_seq <| W_block <| W_seq <| W_region (by rfl) ?_
  refine xie (hE.st hs3) rfl rfl hlt fun a12 h12 => x (r_loadsA h12 rfl rfl) <| xl rfl <| o_alloc (us := [.int .i64 0, .int .i64 0, .int .i64 0]) rfl fun b5 w4 hs4 hb5 hB5 => xl rfl <| o_stores (us := edCells es[k]) hB5 rfl rfl rfl rfl ⟨rfl, rfl, rfl, trivial⟩ fun w5 hs5 hB5 =>
    xe ?_
  have hs35 : Step [] w3 w5 := hs4.then1 hs5 hb5
  refine W_region (by rfl) ?_
  refine x r_move <| x (r_fieldB rfl) <| x (r_loadB hB5 rfl rfl) <| x (r_fieldB rfl) <| x (r_loadB hB5 rfl rfl) <| x (r_build ⟨rfl, rfl, trivial⟩) <| x (r_fieldB rfl) <|
    x (r_loadB hB5 rfl rfl) <| xl rfl <| o_update (k := (es[k].1, es[k].2.1)) (hm3.ext hs35) rfl rfl fun w6 hs6 hm6 => xe ?_
  refine W_region (by rfl) ?_
  refine x (r_add rfl rfl ⟨by omega, by omega⟩) <| x r_move <| xe ?_
  refine ⟨k + 1, by omega, ⟨rfl, trivial⟩, hlt, (hs3.trans hs35).trans' hs6, ?_⟩
  rw [edMap_take hlt]; exact hm6
end Go.Proofs.YtfhgnlkdcdlblaaGreatDoor
/- Contract: supervisor.controls. -/
namespace Go.Proofs.YtfhgnlkdcdlblaaGreatDoor
open Go.Lg

theorem Vt2 {a b : Aut} {t : List Int} (h : Vt [a, b] t) : ∃ x y : Nat, t = [(x : Int), (y : Int)] ∧ (x : Int) < a.st ∧ (y : Int) < b.st := by
  obtain ⟨h1, h2⟩ := h
  match t, h1, h2 with
  | [u, v], _, h2 =>
    have e0 := h2 0 (by simp) (by simp)
    have e1 := h2 1 (by simp) (by simp)
    simp only [List.getElem_cons_zero, List.getElem_cons_succ] at e0 e1
    exact ⟨u.toNat, v.toNat, by rw [Int.toNat_of_nonneg e0.1, Int.toNat_of_nonneg e1.1], by omega, by omega⟩
def cv0 : CV := ⟨.slice none 0 0, .slice none 0 0, ctl0⟩
theorem flat_set0 {cs : List CV} {i j : Nat} (h : i < cs.length) {y : CV} {u : Value} (hj : j < 4) (hy : cvCells y = (cvCells cs[i]).set j u) : (cs.flatMap cvCells).set (0 + i * 4 + j) u = (cs.set i y).flatMap cvCells := by
  rw [Nat.zero_add]; exact flat_set cvCells 4 cv_len cs i j h y u hj hy
theorem flat_get0 {cs : List CV} {i j : Nat} (h : i < cs.length) (hj : j < 4) : (cs.flatMap cvCells)[0 + i * 4 + j]? = (cvCells cs[i])[j]? := by
  rw [Nat.zero_add]; exact flat_get cvCells 4 cv_len cs i j h hj
theorem optC {α : Type} (o : Option α) : o = none ∨ ∃ t, o = some t := by cases o; exact .inl rfl; exact .inr ⟨_, rfl⟩
theorem uni1_len (l : List Int) (v : Int) : (uni1 l v).length ≤ l.length + 1 := by have := mrg_len (· || ·) l [v]; simpa [uni1] using this
theorem occ_get {cs : List CV} {l : List Ctl} {n i : Nat} (h : cs.map (·.c) = l) (hl : cs.length = n) (hi : i < n) : l.getD i ctl0 = (cs[i]'(by omega)).c := by
  subst h; subst hl; simp [List.getD, hi]

set_option maxHeartbeats 4000000 in
theorem controls_ok {L : List Nat} {w : World} {pva pvm pve sa sm se vt : Value} {aP aS : Aut} {qs : List TV} (hp : AutA L w.heap pva pvm pve aP) (hs : AutA L w.heap sa sm se aS) (hpo : Okay aP) (hso : Okay aS)
    (ht : Tups L w.heap vt qs) (hq : ∀ q ∈ qs, Vt [aP, aS] q.2) (hqn : qs.length ≤ 4096) :
    Ret Tryz.prog 46 [.agg #[pva, .int .i64 aP.st, pvm, pve], .agg #[sa, .int .i64 aS.st, sm, se], vt] w fun r w' => Step [] w w' ∧ ∃ vo b, r = .tuple #[vo, .slice (some ⟨b, 0, none⟩) aS.st.toNat aS.st.toNat] ∧
      CtlF w.heap.size w'.heap vo (ctls aP aS (qs.map (·.2))) ∧ (∀ c ∈ ctls aP aS (qs.map (·.2)), c.en.length ≤ 1000000 ∧ c.dis.length ≤ 1000000) ∧ w.heap.size ≤ b ∧ Blk w'.heap b 4 ((occs aS.st.toNat (qs.map (·.2))).map .bool) := by
  obtain ⟨n, hn⟩ : ∃ n : Nat, aS.st = n := ⟨aS.st.toNat, by have := hso.st0; omega⟩
  have hn4 : n ≤ 4096 := by have := hso.st1; omega
  have hnn : aS.st.toNat = n := by omega
  rw [hnn]
  have hal := hso.al_le
  refine Ret.of_W Tryz.func46 rfl Tryz.ntmps46 Tryz.results46 (by simp) ?_
  refine W_seq <| W_region (by rfl) ?_
  refine xl rfl <| o_box (us := [pva, .int .i64 aP.st, pvm, pve]) rfl fun b3 w1 hs1 hb3 hB3 => xl rfl <| o_box (us := [sa, .int .i64 aS.st, sm, se]) rfl fun b4 w2 hs2 hb4 hB4 => x r_assign <| x r_assign <| xe ?_
  have hs12 := hs1.trans hs2
  refine W_seq <| W_draw (Step [] w2) [(0, true), (2, true), (1, false), (3, false), (4, true), (5, true)] Tryz.mixed (by rfl) (by kernel_rfl) (Step.drew _ _) ?_
  refine pq (fun _ hc => r_loadsB ((hB3.ext hs2).ext hc) rfl rfl) <| pq (fun _ hc => r_loadsB (hB4.ext hc) rfl rfl) <| pk <| xf <| (steps_ok ((hp.ed.ext hs12).ext (Step.drew _ _))).mono ?_
  rintro r3 w3 ⟨hs3, b20, rfl, hb20, hm20⟩
  have hs23 := (Step.drew [] w2).trans hs3
  refine ⟨hs23, ?_⟩
  refine pk <| xf <| (steps_ok ((hs.ed.ext hs12).ext hs23)).mono ?_
  rintro r4 w4 ⟨hs4, b22, rfl, hb22, hm22⟩
  have hs24 := hs23.trans hs4
  refine ⟨hs24, ?_⟩
  refine p (fun _ => r_assign) <| p (fun _ => r_assign) <| pe ?_
  have hz1 := hs1.size
  have hz2 := hs2.size
  have hz3 := hs23.size
  have hz4 := hs4.size
  have hl3 := hB3.lt
  have hl4 := hB4.lt
  have hl20 := hm20.lt
  have hl22 := hm22.lt
  -- the two lists
  refine W_cut (α := Nat × Nat) [(10, 11), (25, 30)] (fun z => [(10, .slice (some ⟨z.1, 0, none⟩) n n), (11, .slice (some ⟨z.2, 0, none⟩) n n)])
    (fun z w' => Step [] w4 w' ∧ w4.heap.size ≤ z.1 ∧ w4.heap.size ≤ z.2 ∧ z.1 ≠ z.2 ∧ Blk w'.heap z.1 69 ((List.replicate n cv0).flatMap cvCells) ∧ Blk w'.heap z.2 4 ((List.replicate n false).map .bool)) (by rfl) ?_ ?_
  · have e1 : (List.replicate n [Value.slice none 0 0, .slice none 0 0, .bool false, .bool false]).flatten = (List.replicate n cv0).flatMap cvCells := by rw [List.flatMap_def, List.map_replicate]; rfl
    have e2 : (List.replicate n [Value.bool false]).flatten = (List.replicate n false).map .bool := by rw [rep_flat, List.map_replicate]
    refine W_draw2 (Step [] w4) [(0, true), (1, true), (3, true), (4, true)] 2 5 [(6, true), (5, false), (7, true)] [(2, false), (6, true), (7, true)] Tryz.mixed (by rfl) (by kernel_rfl) (Step.drew _ _) ?_
    refine p (fun _ => r_fieldB rfl) <| pq (fun _ hc => r_loadB ((hB4.ext hs24).ext hc) rfl rfl) <| p (fun _ => r_fieldB rfl) <| pq (fun _ hc => r_loadB ((hB4.ext hs24).ext hc) rfl rfl) <|
      pe ⟨⟨rfl, ?_⟩, rfl, ?_⟩
    · refine o_make (n := n) (congrArg (Value.int .i64) hn) (congrArg (Value.int .i64) hn) (by omega) fun b27 w5 hs5 hb27 hB27 => ?_
      have hs45 := (Step.drew [] w4).trans hs5
      have hl27 := hB27.lt
      refine ⟨hs45, p (fun _ => r_assign) <| pk <| o_make (n := n) (congrArg (Value.int .i64) hn) (congrArg (Value.int .i64) hn) (by omega) fun b30 w6 hs6 hb30 hB30 => ?_⟩
      have hb27' : w4.heap.size ≤ b27 := hb27
      have hz5 := hs45.size
      refine ⟨hs45.trans hs6, p (fun _ => r_assign) <| pe ⟨(b27, b30), ⟨rfl, rfl, trivial⟩, hs45.trans hs6, hb27', by simp only []; omega, by simp only [ne_eq]; omega, ?_, ?_⟩⟩
      · rw [← e1]; exact hB27.ext hs6
      · rw [← e2]; exact hB30
    · refine o_make (n := n) (congrArg (Value.int .i64) hn) (congrArg (Value.int .i64) hn) (by omega) fun b30 w5 hs5 hb30 hB30 => ?_
      have hs45 := (Step.drew [] w4).trans hs5
      have hl30 := hB30.lt
      refine ⟨hs45, pk <| o_make (n := n) (congrArg (Value.int .i64) hn) (congrArg (Value.int .i64) hn) (by omega) fun b27 w6 hs6 hb27 hB27 => ?_⟩
      have hb30' : w4.heap.size ≤ b30 := hb30
      have hz5 := hs45.size
      refine ⟨hs45.trans hs6, p (fun _ => r_assign) <| p (fun _ => r_assign) <| pe ⟨(b27, b30), ⟨rfl, rfl, trivial⟩, hs45.trans hs6, by simp only []; omega, hb30', by simp only [ne_eq]; omega, ?_, ?_⟩⟩
      · rw [← e1]; exact hB27
      · rw [← e2]; exact hB30.ext hs6
  rintro ⟨bo, bb⟩ g5 wS ⟨hsS, hbo, hbb, hne, hBo, hBb⟩
  simp only [] at hbo hbb hne hBo hBb
  have hzS := hsS.size
  have hlo := hBo.lt
  have hlb := hBb.lt
  have hs2S := hs24.trans hsS
  have hWS : Step [] w wS := hs12.trans hs2S
  have hnew : ∀ b ∈ [bo, bb], b ∈ L ∨ w.heap.size ≤ b := fun b hb => by
    simp only [List.mem_cons, List.not_mem_nil, or_false] at hb
    right; omega
  have hp5 : AutA [bo, bb] wS.heap pva pvm pve aP := (hp.up hnew).ext hWS
  have hs5 : AutA [bo, bb] wS.heap sa sm se aS := (hs.up hnew).ext hWS
  have ht5 : Tups [bo, bb] wS.heap vt qs := (ht.up hnew).ext hWS
  have hB3S := (hB3.ext hs2).ext hs2S
  have hB4S := hB4.ext hs2S
  have hm20S := (hm20.ext hs4).ext hsS
  have hm22S := hm22.ext hsS
  have n3 : b3 ∉ [bo, bb] := by simp; omega
  have n4 : b4 ∉ [bo, bb] := by simp; omega
  have n20 : b20 ∉ [bo, bb] := by simp; omega
  have n22 : b22 ∉ [bo, bb] := by simp; omega
  refine W_seq <| W_seq <| W_region (by rfl) ?_
  refine x r_move <| x (r_lenA ht5.arr rfl) <| x r_move <| xe ?_
  -- the pairs
  refine W_block <| W_loop (α := Nat × List CV × List Bool) [(13, 14), (16, 20), (33, 122)] (fun z => [(33, .int .i64 z.1)])
    (fun z w' => z.1 ≤ qs.length ∧ Step [bo, bb] wS w' ∧ Blk w'.heap bo 69 (z.2.1.flatMap cvCells) ∧ Blk w'.heap bb 4 (z.2.2.map .bool) ∧ z.2.1.length = n ∧ z.2.2.length = n ∧
      (∀ c ∈ z.2.1, IntsO 3 wS.heap.size w' c.ve c.c.en ∧ IntsO 3 wS.heap.size w' c.vd c.c.dis ∧ c.c.en.length ≤ z.1 * 32 ∧ c.c.dis.length ≤ z.1 * 32) ∧
      z.2.1.map (·.c) = ((qs.map (·.2)).take z.1).foldl (ctlQ aP aS) (List.replicate n ctl0) ∧ z.2.2 = ((qs.map (·.2)).take z.1).foldl (fun o q => o.set (py q).toNat true) (List.replicate n false))
    (fun z => qs.length - z.1) (by rfl) (0, List.replicate n cv0, List.replicate n false) ⟨rfl, trivial⟩
    ⟨Nat.zero_le _, Step.refl _ _, hBo, hBb, by simp, by simp, fun c hc => by
      have := List.eq_of_mem_replicate hc
      subst this
      exact ⟨own_nil _ _ _ _, own_nil _ _ _ _, Nat.zero_le _, Nat.zero_le _⟩, by simp [cv0], by simp⟩ ?_
  rintro ⟨k, cs, os⟩ g w5 ⟨hk, hst, hBo5, hBb5, hcl, hol, hce, hcm, hos⟩
  simp only [] at hk hBo5 hBb5 hcl hol hce hcm hos
  have hz5 := hst.size
  refine W_seq <| W_region (by rfl) ?_
  refine x (r_lss rfl rfl) <| xe ?_
  refine W_seq <| W_ifn rfl (fun h34 => ?_) (fun h34 => ?_)
  · refine W_exit ?_
    refine W_seq <| W_region (by rfl) ?_
    refine x r_move <| x r_move <| x r_assign <| x r_assign <| xe ?_
    rw [List.take_of_length_le (by simp; omega)] at hcm hos
    refine W_ret ⟨[.slice (some ⟨bo, 0, none⟩) n n, .slice (some ⟨bb, 0, none⟩) n n], ⟨rfl, rfl, trivial⟩, hWS.then hst (fun b hb => .inr (by simp only [List.mem_cons, List.not_mem_nil, or_false] at hb; omega)), _, bb, rfl, ⟨cs, ?_, fun L' hL' => ⟨?_, fun c hc => ?_⟩⟩, ?_, by omega, ?_⟩
    · unfold ctls; rw [hnn]; exact hcm
    · rw [hcl]
      exact hBo5.arr (fun hb => by have := hL' _ hb; omega) (by rw [flat_len _ 4 cv_len, hcl]) (by omega) (Nat.le_refl _)
    · obtain ⟨c1, c2, c3, c4⟩ := hce c hc
      exact ⟨IntsO.ints c1 (by omega) (fun b hb => by have := hL' b hb; omega), IntsO.ints c2 (by omega) (fun b hb => by have := hL' b hb; omega)⟩
    · unfold ctls; rw [hnn, ← hcm]
      intro c hc
      obtain ⟨c', hc', rfl⟩ := List.mem_map.1 hc
      obtain ⟨_, _, c3, c4⟩ := hce c' hc'
      exact ⟨by omega, by omega⟩
    · unfold occs; rw [← hos]; exact hBb5
  have hlt : k < qs.length := by omega
  obtain ⟨xi, yi, hqe, hxl, hyl⟩ := Vt2 (hq qs[k] (List.getElem_mem hlt))
  have hyn : yi < n := by omega
  have hyc : yi < cs.length := by omega
  have hqI : Ints [bo, bb] wS.heap qs[k].1 [(xi : Int), (yi : Int)] := by rw [← hqe]; exact ht5.each qs[k] (List.getElem_mem hlt)
  obtain ⟨ce1, ce2, ce3, ce4⟩ := hce cs[yi] (List.getElem_mem hyc)
  generalize hcv : cs[yi] = cv at ce1 ce2 ce3 ce4
  refine W_skip ?_
  refine W_seq <| W_block <| W_seq <| W_region (by rfl) ?_
  refine xig (g := tvCells) (fun _ => rfl) (ht5.arr.st hst) rfl rfl hlt fun a35 h35 => x (r_loadA h35 rfl) <| x r_assign <| xe ?_
  refine W_seq <| W_region (by rfl) ?_
  refine x r_move <| x r_move <| xii (i := 1) (hqI.st hst) rfl rfl (by simp) fun a39 h39 => x (r_loadA h39 rfl) <| x (r_indexB (i := yi) rfl rfl hyn) <|
    x r_assign <| xe ?_
  refine W_seq <| W_region (by rfl) ?_
  refine x r_move <| x r_move <| xii (i := 1) (hqI.st hst) rfl rfl (by simp) fun a44 h44 => x (r_loadA h44 rfl) <| x (r_indexB (i := yi) rfl rfl hyn) <|
    xl rfl <| o_store (u := .bool true) hBb5 rfl rfl (by simp; omega) rfl fun w6 hs6 hBb6 => xe ?_
  have hs6' : Step [bo, bb] w5 w6 := hs6.mono (by simp)
  have hst6 := hst.trans' hs6'
  have hBb6' : Blk w6.heap bb 4 ((os.set yi true).map .bool) := by rw [List.map_set]; simpa using hBb6
  have hBo6 : Blk w6.heap bo 69 (cs.flatMap cvCells) := hBo5.step hs6 (by simp [hne])
  refine W_seq <| W_draw (Step [] w6) [(0, true), (1, true), (2, true), (3, true), (4, true), (5, true), (6, false), (7, true), (8, true), (9, false)] Tryz.mixed (by rfl) (by kernel_rfl) (Step.drew _ _) ?_
  refine p (fun _ => r_move) <| p (fun _ => r_fieldB rfl) <| pq (fun _ hc => r_loadB ((hB4S.step hst6 n4).ext hc) rfl rfl) <| p (fun _ => r_move) <| pii (i := 1) rfl (hqI.st hst6) rfl rfl (by simp) fun a51 h51 =>
    pq (fun _ hc => r_loadA (h51.ext hc) rfl) <| pk <| xf <| (alContains_ok (((hs5.mr.st hst6)).ext (Step.drew _ _)) hso.mri _).mono ?_
  rintro r7 w7 ⟨rfl, rfl⟩
  refine ⟨Step.drew _ _, ?_⟩
  refine p (fun _ => r_nilCheck rfl) <| p (fun _ => r_fieldB rfl) <|
    pkl (hl := by kernel_rfl) <| o_store (hBo6.ext (Step.drew _ _)) rfl rfl (by rw [flat_len _ 4 cv_len]; omega) rfl fun w8 hs8 hBo8 => pe ?_
  have hs8' : Step [bo, bb] w6 w8 := ((Step.drew [bo, bb] w6).then hs8 (fun b hb => .inl (by simp at hb; simp [hb])))
  have hst8 := hst6.trans' hs8'
  have hBb8 : Blk w8.heap bb 4 ((os.set yi true).map .bool) := (hBb6'.ext (Step.drew [] w6)).step hs8 (by simp; omega)
  have hBo8' : Blk w8.heap bo 69 ((cs.set yi ⟨cv.ve, cv.vd, ⟨cv.c.en, cv.c.dis, decide ((yi : Int) ∈ aS.mr), cv.c.ps⟩⟩).flatMap cvCells) := by
    rw [← flat_set0 (j := 2) (u := .bool (decide ((yi : Int) ∈ aS.mr))) hyc (by omega) (by rw [hcv]; rfl)]; exact hBo8
  generalize hcs1 : cs.set yi ⟨cv.ve, cv.vd, ⟨cv.c.en, cv.c.dis, decide ((yi : Int) ∈ aS.mr), cv.c.ps⟩⟩ = cs1 at hBo8'
  have hl1 : cs1.length = n := by rw [← hcs1]; simpa using hcl
  have hy1 : yi < cs1.length := by omega
  have hcv1 : cs1[yi] = ⟨cv.ve, cv.vd, ⟨cv.c.en, cv.c.dis, decide ((yi : Int) ∈ aS.mr), cv.c.ps⟩⟩ := by subst hcs1; simp
  have hset1 : ∀ c, cs1.set yi c = cs.set yi c := fun c => by subst hcs1; simp
  refine W_cut (α := Unit) [(56, 70)] (fun z => []) (fun z w' => Step [bo, bb] w8 w' ∧ Blk w'.heap bb 4 ((os.set yi true).map .bool) ∧ Blk w'.heap bo 69 ((cs.set yi ⟨cv.ve, cv.vd, ctlB aP aS xi yi cv.c⟩).flatMap cvCells)) (by rfl) ?_ ?_
  · cases hps : cv.c.ps with
    | true =>
      refine W_draw (Step [] w8) [(0, true), (1, true), (2, true), (3, true), (4, true), (5, true), (6, true), (7, true), (8, true), (9, true), (10, true), (11, false), (12, true), (13, true), (14, true), (15, false)] Tryz.mixed (by rfl) (by kernel_rfl) (Step.drew _ _) ?_
      refine p (fun _ => r_move) <| p (fun _ => r_move) <| p (fun _ => r_nilCheck rfl) <| p (fun _ => r_fieldB rfl) <| pq (fun _ hc => r_loadB (u := .bool true) (hBo8'.ext hc) rfl (by rw [flat_get0 hy1 (by omega), hcv1]; simp [hps])) <| p (fun _ => r_move) <|
        ps <| ps <| ps <| ps <| ps <| ps <| p (fun _ => r_pick rfl) <|
        p (fun _ => r_nilCheck rfl) <| p (fun _ => r_fieldB rfl) <| pkl (hl := by kernel_rfl) <| o_store (u := .bool true) (hBo8'.ext (Step.drew _ _)) rfl rfl (by rw [flat_len _ 4 cv_len]; omega) rfl fun w10 hs10 hBo10 => pe ?_
      refine ⟨(), trivial, (Step.drew [bo, bb] w8).then hs10 (fun b hb => .inl (by simp at hb; simp [hb])), (hBb8.ext (Step.drew [] w8)).step hs10 (by simp; omega), ?_⟩
      rw [← hset1, ← flat_set0 (j := 3) (u := .bool true) hy1 (by omega) (by rw [hcv1]; simp [ctlB, hps])]; exact hBo10
    | false =>
      refine W_draw (Step [] w8) [(0, true), (1, true), (2, true), (3, true), (4, true), (5, true), (6, true), (7, true), (8, true), (9, true), (10, true), (11, false), (12, true), (13, true), (14, true), (15, false)] Tryz.mixed (by rfl) (by kernel_rfl) (Step.drew _ _) ?_
      refine p (fun _ => r_move) <| p (fun _ => r_move) <| p (fun _ => r_nilCheck rfl) <| p (fun _ => r_fieldB rfl) <| pq (fun _ hc => r_loadB (u := .bool false) (hBo8'.ext hc) rfl (by rw [flat_get0 hy1 (by omega), hcv1]; simp [hps])) <| p (fun _ => r_move) <|
        p (fun _ => r_fieldB rfl) <| pq (fun _ hc => r_loadB ((hB3S.step hst8 n3).ext hc) rfl rfl) <| p (fun _ => r_move) <| pii (i := 0) rfl (hqI.st hst8) rfl rfl (by simp) fun a65 h65 =>
        pq (fun _ hc => r_loadA (h65.ext hc) rfl) <| pk <| xf <| (alContains_ok ((hp5.mr.st hst8).ext (Step.drew _ _)) hpo.mri _).mono ?_
      rintro r9 w9 ⟨rfl, rfl⟩
      refine ⟨Step.drew _ _, ?_⟩
      refine p (fun _ => r_pick rfl) <|
        p (fun _ => r_nilCheck rfl) <| p (fun _ => r_fieldB rfl) <| pkl (hl := by kernel_rfl) <| o_store (u := .bool (decide ((xi : Int) ∈ aP.mr))) (hBo8'.ext (Step.drew _ _)) rfl rfl (by rw [flat_len _ 4 cv_len]; omega) rfl fun w10 hs10 hBo10 => pe ?_
      refine ⟨(), trivial, (Step.drew [bo, bb] w8).then hs10 (fun b hb => .inl (by simp at hb; simp [hb])), (hBb8.ext (Step.drew [] w8)).step hs10 (by simp; omega), ?_⟩
      rw [← hset1, ← flat_set0 (j := 3) (u := .bool (decide ((xi : Int) ∈ aP.mr))) hy1 (by omega) (by rw [hcv1]; simp [ctlB, hps])]; exact hBo10
  rintro _ g8 w11 ⟨hs11, hBb11, hBo11⟩
  have hst11 := hst8.trans' hs11
  have hs511 : Step [bo, bb] w5 w11 := (hs6'.trans' hs8').trans' hs11
  have hnb : ∀ v : Value, (∀ b ∈ ob v, wS.heap.size ≤ b) → ∀ b ∈ ob v, b ∉ [bo, bb] := fun v hv b hb => by have := hv b hb; simp; omega
  refine W_seq <| W_region (by rfl) ?_
  refine x (r_fieldB rfl) <| x (r_loadB (hB4S.step hst11 n4) rfl rfl) <| x (r_lenA hs5.al rfl) <| x r_move <| xe ?_
  -- the events
  refine W_block <| W_loop (α := Nat × CV) [(16, 20), (74, 121)] (fun z => [(74, .int .i64 z.1)])
    (fun z w' => z.1 ≤ aS.al.length ∧ Step [bo, bb] w11 w' ∧ Blk w'.heap bb 4 ((os.set yi true).map .bool) ∧ Blk w'.heap bo 69 ((cs.set yi z.2).flatMap cvCells) ∧
      z.2.c = (aS.al.take z.1).foldl (ctlE aP aS xi yi) (ctlB aP aS xi yi cv.c) ∧ IntsO 3 wS.heap.size w' z.2.ve z.2.c.en ∧ IntsO 3 wS.heap.size w' z.2.vd z.2.c.dis ∧ z.2.c.en.length ≤ k * 32 + z.1 ∧ z.2.c.dis.length ≤ k * 32 + z.1)
    (fun z => aS.al.length - z.1) (by rfl) (0, ⟨cv.ve, cv.vd, ctlB aP aS xi yi cv.c⟩) ⟨rfl, trivial⟩
    ⟨Nat.zero_le _, Step.refl _ _, hBb11, hBo11, rfl, own_step ce1 hs511 (hnb _ (fun b hb => (own_ge ce1 b hb).1)), own_step ce2 hs511 (hnb _ (fun b hb => (own_ge ce2 b hb).1)), ce3, ce4⟩ ?_
  rintro ⟨j, cz⟩ g12 w12 ⟨hj, hs12', hBb12, hBo12, hcz, hez, hdz, hel, hdl⟩
  simp only [] at hj hBo12 hcz hez hdz hel hdl
  have hst12 := hst11.trans' hs12'
  have hz12 := hst12.size
  have hcy : yi < (cs.set yi cz).length := by simpa using hyc
  have hczg : (cs.set yi cz)[yi] = cz := by simp
  refine W_seq <| W_region (by rfl) ?_
  refine x (r_lss rfl rfl) <| xe ?_
  refine W_seq <| W_ifn rfl (fun h75 => ?_) (fun h75 => ?_)
  · refine W_exit ?_
    refine W_region (by rfl) ?_
    refine x (r_add rfl rfl ⟨by omega, by omega⟩) <| x r_move <| xe ?_
    rw [List.take_of_length_le (by omega)] at hcz
    have htk : (qs.map (·.2)).take (k + 1) = (qs.map (·.2)).take k ++ [qs[k].2] := by rw [List.take_succ_eq_append_getElem (by simpa using hlt), List.getElem_map]
    refine ⟨(k + 1, cs.set yi cz, os.set yi true), by simp only []; omega, ⟨rfl, trivial⟩, hlt, hst12, hBo12, hBb12, by simpa using hcl, by simpa using hol, fun c hc => ?_, ?_, ?_⟩
    · rcases List.mem_or_eq_of_mem_set hc with hc | rfl
      · obtain ⟨c1, c2, c3, c4⟩ := hce c hc
        have hs512 := hs511.trans' hs12'
        exact ⟨own_step c1 hs512 (hnb _ (fun b hb => (own_ge c1 b hb).1)), own_step c2 hs512 (hnb _ (fun b hb => (own_ge c2 b hb).1)), by simp only []; omega, by simp only []; omega⟩
      · exact ⟨hez, hdz, by simp only []; omega, by simp only []; omega⟩
    · simp only []
      rw [htk, List.foldl_append, ← hcm, List.map_set, hcz]
      show _ = ctlQ aP aS (cs.map (·.c)) qs[k].2
      unfold ctlQ ctlP
      rw [hqe, show py [(xi : Int), (yi : Int)] = (yi : Int) from rfl, show px [(xi : Int), (yi : Int)] = (xi : Int) from rfl, Int.toNat_natCast, occ_get rfl hcl hyn, hcv]
    · simp only []
      rw [htk, List.foldl_append, ← hos, hqe]
      show _ = os.set (py [(xi : Int), (yi : Int)]).toNat true
      rw [show py [(xi : Int), (yi : Int)] = (yi : Int) from rfl, Int.toNat_natCast]
  have hltj : j < aS.al.length := by omega
  have htj : aS.al.take (j + 1) = aS.al.take j ++ [aS.al[j]] := List.take_succ_eq_append_getElem hltj
  have hali := hs5.al.st hst12
  obtain ⟨v, hv⟩ : ∃ v, aS.al[j] = v := ⟨_, rfl⟩
  have hnext : (aS.al.take (j + 1)).foldl (ctlE aP aS xi yi) (ctlB aP aS xi yi cv.c) = ctlE aP aS xi yi cz.c v := by rw [htj, List.foldl_append, ← hcz, hv]; rfl
  refine W_skip ?_
  refine W_seq <| W_block <| W_seq <| W_region (by rfl) ?_
  refine xii hali rfl rfl hltj fun a76 h76 => ?_
  rw [hv] at h76
  refine x (r_loadA h76 rfl) <| x r_assign <| xe ?_
  have hg1 := edMap_get aP.ed [] xi v hpo.edi
  have hg2 := edMap_get aS.ed [] yi v hso.edi
  have hm20' := hm20S.step hst12 n20
  have hm22' := hm22S.step hst12 n22
  rcases optC (eget aP.ed xi v) with he1 | ⟨t1, he1⟩
  · rw [he1] at hg1
    refine W_seq <| W_seq <| W_region (by rfl) ?_
    refine x r_move <| x r_move <| xii (i := 0) (hqI.st hst12) rfl rfl (by simp) fun a81 h81 => x (r_loadA h81 rfl) <| x r_move <| x (r_build ⟨rfl, rfl, trivial⟩) <|
      x (r_lookupN (k := ((xi : Int), v)) hm20' rfl rfl hg1) <| x r_move <| x (r_extract rfl rfl) <| x (r_extract rfl rfl) <| x r_assign <| x r_assign <| xe ?_
    refine W_seq <| W_region (by rfl) ?_
    refine x r_move <| x (r_not rfl) <| xe ?_
    refine W_true rfl ?_
    refine W_exit ?_
    refine W_region (by rfl) ?_
    refine x (r_add rfl rfl ⟨by omega, by omega⟩) <| x r_move <| xe ?_
    refine ⟨(j + 1, cz), by simp only []; omega, ⟨rfl, trivial⟩, hltj, hs12', hBb12, hBo12, ?_, hez, hdz, by simp only []; omega, by simp only []; omega⟩
    simp only []
    rw [hnext]; unfold ctlE; rw [he1]
  rw [he1] at hg1
  have hc2 := optC (eget aS.ed yi v)
  refine W_seq <| W_seq <| W_region (by rfl) ?_
  refine x r_move <| x r_move <| xii (i := 0) (hqI.st hst12) rfl rfl (by simp) fun a81 h81 => x (r_loadA h81 rfl) <| x r_move <| x (r_build ⟨rfl, rfl, trivial⟩) <|
    x (r_lookupS (k := ((xi : Int), v)) hm20' rfl rfl hg1) <| x r_move <| x (r_extract rfl rfl) <| x (r_extract rfl rfl) <| x r_assign <| x r_assign <| xe ?_
  refine W_seq <| W_region (by rfl) ?_
  refine x r_move <| x (r_not rfl) <| xe ?_
  refine W_false rfl ?_
  refine W_skip ?_
  refine W_seq <| W_region (by rfl) ?_
  rcases hc2 with he2 | ⟨t2, he2⟩
  rotate_left
  · rw [he2] at hg2
    refine x r_move <| x r_move <| xii (i := 1) (hqI.st hst12) rfl rfl (by simp) fun a93 h93 => x (r_loadA h93 rfl) <| x r_move <| x (r_build ⟨rfl, rfl, trivial⟩) <|
      x (r_lookupS (k := ((yi : Int), v)) hm22' rfl rfl hg2) <| x r_move <| x (r_extract rfl rfl) <| x (r_extract rfl rfl) <| x r_assign <| x r_assign <| xe ?_
    refine W_seq <| W_region (by rfl) ?_
    refine x r_move <| xe ?_
    refine W_true rfl ?_
    refine W_region (by rfl) ?_
    refine x r_move <| x r_move <| x (r_nilCheck rfl) <| x (r_fieldB rfl) <| x (r_loadB (u := cz.ve) hBo12 rfl (by rw [flat_get0 hcy (by omega), hczg]; rfl)) <| x r_move <| xl rfl <| o_lits (us := [[.int .i64 v]]) rfl rfl (by decide) (by simp) ⟨rfl, rfl, trivial⟩ fun b107 w13 hs13 hb107 hB107 => ?_
    have hV : Ints [] w13.heap (.slice (some ⟨b107, 0, none⟩) 1 1) [v] := hB107.arr (by simp) rfl (by simp) (by simp)
    refine xl rfl <| xf <| (Union_ok (IntsO.ints (L := []) (own_ext hez hs13) (by omega) (by simp)) hV (by simp; omega)).mono ?_
    rintro vU w14 ⟨hs14, hU⟩
    have hs1314 := hs13.trans hs14
    have hul := uni1_len cz.c.en v
    have hUA := IntsO.ints (L := []) (l := uni1 cz.c.en v) hU (by omega) (by simp)
    refine x (r_nilCheck rfl) <| x (r_fieldB rfl) <| xl rfl <| o_store (u := vU) (hBo12.ext hs1314) rfl rfl (by rw [flat_len _ 4 cv_len]; omega) hUA.one fun w15 hs15 hBo15 =>
      xe ?_
    have hs1215 : Step [bo, bb] w12 w15 := (hs1314.any).then hs15 (fun b hb => .inl (by simp at hb; simp [hb]))
    have hU' := own_base (base' := wS.heap.size) hU (by have := hs13.size; omega)
    refine W_region (by rfl) ?_
    refine x (r_add rfl rfl ⟨by omega, by omega⟩) <| x r_move <| xe ?_
    refine ⟨(j + 1, ⟨vU, cz.vd, ⟨uni1 cz.c.en v, cz.c.dis, cz.c.mk', cz.c.ps⟩⟩), by simp only []; omega, ⟨rfl, trivial⟩, hltj, hs12'.trans' hs1215, (hBb12.ext hs1314).step hs15 (by simp; omega), ?_, ?_,
      own_step hU' hs15 (fun b hb => by have := (own_ge hU' b hb).1; simp; omega), own_step (own_ext hdz hs1314) hs15 (fun b hb => by have := (own_ge hdz b hb).1; simp; omega), by simp only []; omega, by simp only []; omega⟩
    · have := flat_set0 (cs := cs.set yi cz) (i := yi) (j := 0) (u := vU) (y := ⟨vU, cz.vd, ⟨uni1 cz.c.en v, cz.c.dis, cz.c.mk', cz.c.ps⟩⟩) hcy (by omega) (by rw [hczg]; rfl)
      rw [List.set_set] at this
      simp only []
      rw [← this]; exact hBo15
    · simp only []
      rw [hnext]; unfold ctlE; rw [he1]; simp only []; rw [he2]
  · rw [he2] at hg2
    refine x r_move <| x r_move <| xii (i := 1) (hqI.st hst12) rfl rfl (by simp) fun a93 h93 => x (r_loadA h93 rfl) <| x r_move <| x (r_build ⟨rfl, rfl, trivial⟩) <|
      x (r_lookupN (k := ((yi : Int), v)) hm22' rfl rfl hg2) <| x r_move <| x (r_extract rfl rfl) <| x (r_extract rfl rfl) <| x r_assign <| x r_assign <| xe ?_
    refine W_seq <| W_region (by rfl) ?_
    refine x r_move <| xe ?_
    refine W_false rfl ?_
    refine W_region (by rfl) ?_
    refine x r_move <| x r_move <| x (r_nilCheck rfl) <| x (r_fieldB rfl) <| x (r_loadB (u := cz.vd) hBo12 rfl (by rw [flat_get0 hcy (by omega), hczg]; rfl)) <| x r_move <| xl rfl <| o_lits (us := [[.int .i64 v]]) rfl rfl (by decide) (by simp) ⟨rfl, rfl, trivial⟩ fun b107 w13 hs13 hb107 hB107 => ?_
    have hV : Ints [] w13.heap (.slice (some ⟨b107, 0, none⟩) 1 1) [v] := hB107.arr (by simp) rfl (by simp) (by simp)
    refine xl rfl <| xf <| (Union_ok (IntsO.ints (L := []) (own_ext hdz hs13) (by omega) (by simp)) hV (by simp; omega)).mono ?_
    rintro vU w14 ⟨hs14, hU⟩
    have hs1314 := hs13.trans hs14
    have hul := uni1_len cz.c.dis v
    have hUA := IntsO.ints (L := []) (l := uni1 cz.c.dis v) hU (by omega) (by simp)
    refine x (r_nilCheck rfl) <| x (r_fieldB rfl) <| xl rfl <| o_store (u := vU) (hBo12.ext hs1314) rfl rfl (by rw [flat_len _ 4 cv_len]; omega) hUA.one fun w15 hs15 hBo15 =>
      xe ?_
    have hs1215 : Step [bo, bb] w12 w15 := (hs1314.any).then hs15 (fun b hb => .inl (by simp at hb; simp [hb]))
    have hU' := own_base (base' := wS.heap.size) hU (by have := hs13.size; omega)
    refine W_region (by rfl) ?_
    refine x (r_add rfl rfl ⟨by omega, by omega⟩) <| x r_move <| xe ?_
    refine ⟨(j + 1, ⟨cz.ve, vU, ⟨cz.c.en, uni1 cz.c.dis v, cz.c.mk', cz.c.ps⟩⟩), by simp only []; omega, ⟨rfl, trivial⟩, hltj, hs12'.trans' hs1215, (hBb12.ext hs1314).step hs15 (by simp; omega), ?_, ?_,
      own_step (own_ext hez hs1314) hs15 (fun b hb => by have := (own_ge hez b hb).1; simp; omega), own_step hU' hs15 (fun b hb => by have := (own_ge hU' b hb).1; simp; omega), by simp only []; omega, by simp only []; omega⟩
    · have := flat_set0 (cs := cs.set yi cz) (i := yi) (j := 1) (u := vU) (y := ⟨cz.ve, vU, ⟨cz.c.en, uni1 cz.c.dis v, cz.c.mk', cz.c.ps⟩⟩) hcy (by omega) (by rw [hczg]; rfl)
      rw [List.set_set] at this
      simp only []
      rw [← this]; exact hBo15
    · simp only []
      rw [hnext]; unfold ctlE; rw [he1]; simp only []; rw [he2]
end Go.Proofs.YtfhgnlkdcdlblaaGreatDoor
/- More rules: reading a list by cget; a look-up in the map of the edges; storing into an owned list. -/
namespace Go.Lg
open Go.Proofs.YtfhgnlkdcdlblaaGreatDoor
theorem cget_eq {l : List Int} {i : Nat} (h : i < l.length) : l[i] = cget l i := by simp [cget, List.getD, h]
section
variable {P : Program} {ops l : List Oper} {K : Fr → World → Prop} {f : Fr} {w : World} {d : Option Nat} {ty : Nat} {ps : String} {af : Array Edge} {gd : Option (Nat × Bool)} {C : World → Prop} {pl : List (Nat × Bool)} {i0 : Nat}
theorem xic {x y : Operand} {t e bys : Nat} {z : Value} [Sl P t e 1 bys z] {L : List Nat} {li : List Int} {v : Value} {k : IntKind} {i : Nat}
    (h : Ints L w.heap v li) (hv : ev f x = v) (hy : ev f y = .int k i) (hi : i < li.length)
    (hK : ∀ a, At L w.heap a [.int .i64 (cget li i)] → XL P ops K l (putF f d (.pointer (some a))) w) (hg : gdF ops f ⟨d, .indexAddr t x y, ty, ps, af, gd⟩ = true := by rfl) :
    XL P ops K (⟨d, .indexAddr t x y, ty, ps, af, gd⟩ :: l) f w :=
  xii h hv hy hi (fun a ha => hK a (by rw [← cget_eq hi]; exact ha)) hg
theorem pic {x y : Operand} {t e bys : Nat} {z : Value} [Sl P t e 1 bys z] {L : List Nat} {li : List Int} {v : Value} {H : Array Obj} {k : IntKind} {i : Nat}
    (ho : opAt ops i0 = ⟨d, .indexAddr t x y, ty, ps, af, gd⟩) (h : Ints L H v li) (hv : ev f x = v) (hy : ev f y = .int k i) (hi : i < li.length)
    (hK : ∀ a, At L H a [.int .i64 (cget li i)] → XP P ops C K pl (putF f d (.pointer (some a))) w) (hg : gdF ops f (opAt ops i0) = true := by rfl) : XP P ops C K ((i0, true) :: pl) f w :=
  pii ho h hv hy hi (fun a ha => hK a (by rw [← cget_eq hi]; exact ha)) hg
theorem r_lookT {t kt et : Nat} [hm : Mp P t kt et (.int .i64 0)] [hk : Key P kt kPair] {x y : Operand} {b : Nat} {s : Aut} {q : Nat} {v : Int} {u : Nat} (h : MapB kPair w.heap b (edMap [] s.ed)) (hs : s.ed.Pairwise fun x y => x.1 < y.1 ∨ (x.1 = y.1 ∧ x.2.1 < y.2.1))
    (hu : to0 s q v = u) (hx : ev f x = .map (some b)) (hy : ev f y = kPair ((q : Int), v)) :
    (execOp (ev f) ⟨d, .lookup t x y false, ty, ps, af, gd⟩).run P w = .ok (.value (.int .i64 u)) w := by
  rw [r_lookup1 h hx hy, edMap_get s.ed [] q v hs, ← hu]
  unfold to0
  cases eget s.ed q v <;> rfl
theorem o_storeIO {t : Nat} [h1 : One P t] {x y : Operand} {base e g cap i : Nat} {li : List Int} {v : Value} {u : Int} (h : IntsO e base w v li) (hv : v = .slice (some ⟨g, 0, none⟩) li.length cap) (hx : ev f x = .pointer (some ⟨g, 0 + i * 1, none⟩)) (hy : ev f y = .int .i64 u) (hi : i < li.length)
    (hK : ∀ w', Step (ob v) w w' → IntsO e base w' v (li.set i u) → K (putF f d undef) w') : XO P ⟨d, .store t x y, ty, ps, af, gd⟩ f w K := by
  have h' := h
  unfold IntsO at h'
  rw [hv] at h'
  refine o_storeO h' hx hy hi rfl fun w' hs hw => hK w' (by rw [hv]; exact hs) ?_
  unfold IntsO
  rw [List.length_set, List.map_set, hv]; exact hw
end
theorem rng_cons {a n : Nat} (h : a < n) : List.range' a (n - a) = a :: List.range' (a + 1) (n - (a + 1)) := by
  rw [show n - a = (n - (a + 1)) + 1 by omega, List.range'_succ]
theorem rng_nil {a n : Nat} (h : n ≤ a) : List.range' a (n - a) = [] := by rw [show n - a = 0 by omega]; rfl
end Go.Lg
/- Contracts: supervisor's merger: merge. -/
namespace Go.Proofs.YtfhgnlkdcdlblaaGreatDoor
open Go.Lg

/-- The merger in memory. -/
structure Mg (N bm bs : Nat) (s : Aut) (vl : Value) (cs : List CV) (vc : Value) (cl : List Int) (w : World) : Prop where
  B : Blk w.heap bm 132 [vc, vl, .map (some bs)]
  c : IntsO 3 N w vc cl
  l : Ctls (ob vc) w.heap vl cs
  m : MapB kPair w.heap bs (edMap [] s.ed)
  nm : bm ∉ ob vc
  ns : bs ∉ ob vc
theorem Mg.ext {N bm bs : Nat} {s : Aut} {vl : Value} {cs : List CV} {vc : Value} {cl : List Int} {w w' : World} (h : Mg N bm bs s vl cs vc cl w) (hs : Step [] w w') : Mg N bm bs s vl cs vc cl w' :=
  ⟨h.B.ext hs, own_ext h.c hs, h.l.ext hs, h.m.ext hs, h.nm, h.ns⟩
theorem Mg.st {N bm bs : Nat} {s : Aut} {vl : Value} {cs : List CV} {vc : Value} {cl cl' : List Int} {w w' : World} (h : Mg N bm bs s vl cs vc cl w) (hs : Step (ob vc) w w') (hc : IntsO 3 N w' vc cl') : Mg N bm bs s vl cs vc cl' w' :=
  ⟨h.B.step hs h.nm, hc, h.l.st hs, h.m.step hs h.ns, h.nm, h.ns⟩
def mgF (a b c : Int) : Int := if c = a then b else c
theorem mg_set {cl : List Int} {k : Nat} {a b : Int} (h : k < cl.length) : ((cl.take k).map (mgF a b) ++ cl.drop k).set k (mgF a b (cget cl k)) = (cl.take (k + 1)).map (mgF a b) ++ cl.drop (k + 1) := by
  have h1 : ((cl.take k).map (mgF a b)).length = k := by simp; omega
  rw [List.set_append_right _ _ (by omega), h1, Nat.sub_self, List.drop_eq_getElem_cons h, List.set_cons_zero, List.take_succ_eq_append_getElem h, List.map_append, List.append_assoc, ← cget_eq h]; rfl
theorem mg_get {cl : List Int} {k : Nat} {a b : Int} (h : k < cl.length) : cget ((cl.take k).map (mgF a b) ++ cl.drop k) k = cget cl k := by
  have h1 : ((cl.take k).map (mgF a b)).length = k := by simp; omega
  have h2 : k < ((cl.take k).map (mgF a b) ++ cl.drop k).length := by simp; omega
  rw [← cget_eq h2, List.getElem_append_right (by omega), ← cget_eq h]
  simp only [h1, Nat.sub_self, List.getElem_drop, Nat.add_zero]
theorem mg_same {cl : List Int} {k : Nat} {a b : Int} (h : k < cl.length) (hne : cget cl k ≠ a) : (cl.take k).map (mgF a b) ++ cl.drop k = (cl.take (k + 1)).map (mgF a b) ++ cl.drop (k + 1) := by
  rw [List.drop_eq_getElem_cons h, List.take_succ_eq_append_getElem h, List.map_append, List.append_assoc]
  have : cl[k] = mgF a b cl[k] := by unfold mgF; rw [if_neg (by rw [cget_eq h]; exact hne)]
  simp [← this]

theorem mmerge_ok {N bm bs : Nat} {s : Aut} {vl : Value} {cs : List CV} {vc : Value} {cl : List Int} {w : World} {x' y' : Nat} (h : Mg N bm bs s vl cs vc cl w) (hx : x' < cl.length) (hy : y' < cl.length) (hn : cl.length ≤ 4096) :
    Ret Tryz.prog 70 [.pointer (some ⟨bm, 0, none⟩), .int .i64 x', .int .i64 y'] w fun _ w' => Step (ob vc) w w' ∧ IntsO 3 N w' vc (mergeC cl x' y') := by
  refine Ret.of_W Tryz.func70 rfl Tryz.ntmps70 Tryz.results70 (by simp) ?_
  have hI := IntsO.ints (L := []) h.c (by omega) (by simp)
  obtain ⟨g0, cap, hvc⟩ := own_slice h.c (by omega)
  refine W_seq <| W_draw (Step [] w) [(0, true), (1, true), (2, true), (3, true), (4, true), (5, true), (6, true), (7, true), (8, true), (9, true), (10, true), (11, true), (12, true), (13, true), (14, true), (15, true)] Tryz.mixed (by rfl) (by kernel_rfl) (Step.drew _ _) ?_
  refine p (fun _ => r_move) <| p (fun _ => r_nilCheck rfl) <| p (fun _ => r_fieldB rfl) <| pq (fun _ hc => r_loadB (h.B.ext hc) rfl rfl) <| p (fun _ => r_move) <| pic (i := y') rfl hI rfl rfl hy fun a14 h14 =>
    pq (fun _ hc => r_loadA (h14.ext hc) rfl) <| p (fun _ => r_move) <| p (fun _ => r_nilCheck rfl) <| p (fun _ => r_fieldB rfl) <| pq (fun _ hc => r_loadB (h.B.ext hc) rfl rfl) <|
    p (fun _ => r_move) <| pic (i := x') rfl hI rfl rfl hx fun a21 h21 => pq (fun _ hc => r_loadA (h21.ext hc) rfl) <| p (fun _ => r_assign) <|
    p (fun _ => r_assign) <| pe ?_
  have h1 := h.ext (Step.drew [] w)
  generalize hw1 : ({ w with drawn := w.drawn + 1 } : World) = w1 at h1
  have hs1 : Step [] w w1 := by rw [← hw1]; exact Step.drew _ _
  refine W_seq <| W_region (by rfl) ?_
  refine x r_move <| x (r_nilCheck rfl) <| x (r_fieldB rfl) <| x (r_loadB h1.B rfl rfl) <| x (r_lenA hI rfl) <| x r_move <| xe ?_
  refine W_block <| W_loop (α := Nat) [(8, 8), (28, 47)] (fun z => [(28, .int .i64 z)]) (fun z w' => z ≤ cl.length ∧ Step (ob vc) w1 w' ∧ IntsO 3 N w' vc ((cl.take z).map (mgF (cget cl y') (cget cl x')) ++ cl.drop z)) (fun z => cl.length - z) (by rfl) 0 ⟨rfl, trivial⟩
    ⟨Nat.zero_le _, Step.refl _ _, by simpa using h1.c⟩ ?_
  rintro k g w2 ⟨hk, hs2, ho2⟩
  have h2 := h1.st hs2 ho2
  have hlen : ((cl.take k).map (mgF (cget cl y') (cget cl x')) ++ cl.drop k).length = cl.length := by simp; omega
  refine W_seq <| W_region (by rfl) ?_
  refine x (r_lss rfl rfl) <| xe ?_
  refine W_seq <| W_ifn rfl (fun h29 => ?_) (fun h29 => ?_)
  · refine W_exit ?_
    rw [List.take_of_length_le (by omega), List.drop_of_length_le (by omega), List.append_nil] at ho2
    exact ⟨[], trivial, hs1.any.trans' hs2, ho2⟩
  have hlt : k < cl.length := by omega
  have hgk := mg_get (a := cget cl y') (b := cget cl x') hlt
  have hI2 := IntsO.ints (L := []) ho2 (by omega) (by simp)
  refine W_skip ?_
  refine W_seq <| W_block <| W_seq <| W_region (by rfl) ?_
  refine x r_move <| x r_assign <| xe ?_
  refine W_seq <| W_region (by rfl) ?_
  refine x r_move <| x (r_nilCheck rfl) <| x (r_fieldB rfl) <| x (r_loadB h2.B rfl rfl) <| x r_move <| xic (i := k) hI2 rfl rfl (by omega) fun a36 h36 => ?_
  rw [hgk] at h36
  refine x (r_loadA h36 rfl) <| x r_move <| x (r_eql rfl rfl) <| xe ?_
  refine W_ifn rfl (fun h39 => ?_) (fun h39 => ?_)
  · refine W_skip ?_
    refine W_region (by rfl) ?_
    refine x (r_add rfl rfl ⟨by omega, by omega⟩) <| x r_move <| xe ?_
    exact ⟨k + 1, by omega, ⟨rfl, trivial⟩, hlt, hs2, by rw [← mg_same hlt h39]; exact ho2⟩
  refine W_region (by rfl) ?_
  refine x r_move <| x (r_nilCheck rfl) <| x (r_fieldB rfl) <| x (r_loadB h2.B rfl rfl) <| x r_move <| x r_move <| x (r_indexB (i := k) hvc rfl hlt) <|
    xl rfl <| o_storeIO (u := cget cl x') ho2 (by rw [hlen]; exact hvc) rfl rfl (by omega) fun w3 hs3 ho3 => xe ?_
  refine W_region (by rfl) ?_
  refine x (r_add rfl rfl ⟨by omega, by omega⟩) <| x r_move <| xe ?_
  refine ⟨k + 1, by omega, ⟨rfl, trivial⟩, hlt, hs2.trans' hs3, ?_⟩
  rw [← mg_set hlt, show mgF (cget cl y') (cget cl x') (cget cl k) = cget cl x' by unfold mgF; rw [if_pos h39]]; exact ho3
end Go.Proofs.YtfhgnlkdcdlblaaGreatDoor
/- Contracts: supervisor.Consistent; merger.consistent. -/
namespace Go.Proofs.YtfhgnlkdcdlblaaGreatDoor
open Go.Lg

theorem Consistent_ok {L L' : List Nat} {w : World} {c d : CV} (hc : CvA L w.heap c) (hd : CvA L' w.heap d) (l1 : c.c.en.length ≤ 1000000) (l2 : c.c.dis.length ≤ 1000000) (l3 : d.c.en.length ≤ 1000000) (l4 : d.c.dis.length ≤ 1000000) :
    Ret Tryz.prog 94 [.agg (cvCells c).toArray, .agg (cvCells d).toArray] w fun r w' => r = .bool (consC c.c d.c) ∧ Step [] w w' := by
  refine Ret.of_W Tryz.func94 rfl Tryz.ntmps94 Tryz.results94 (by simp) ?_
  refine W_seq <| W_region (by rfl) ?_
  refine xl rfl <| o_box (us := cvCells c) rfl fun b2 w1 hs1 hb2 hB2 => xl rfl <| o_box (us := cvCells d) rfl fun b3 w2 hs2 hb3 hB3 => x r_assign <| xe ?_
  have hs12 := hs1.trans hs2
  have e1 := mrg_len (· && ·) c.c.en d.c.dis
  have e2 := mrg_len (· && ·) d.c.en c.c.dis
  have hB2' := hB2.ext hs2
  refine W_seq <| W_seq <| W_draw (Step [] w2) [(0, true), (1, true), (2, true), (3, true), (6, true), (7, true), (8, true), (9, true), (4, false), (5, true), (10, false), (11, true), (12, true), (13, true)] Tryz.mixed (by rfl) (by kernel_rfl) (Step.drew _ _) ?_
  refine p (fun _ => r_fieldB rfl) <| pq (fun _ hc => r_loadB (hB2'.ext hc) rfl rfl) <| p (fun _ => r_fieldB rfl) <| pq (fun _ hc => r_loadB (hB3.ext hc) rfl rfl) <|
    p (fun _ => r_fieldB rfl) <| pq (fun _ hc => r_loadB (hB3.ext hc) rfl rfl) <| p (fun _ => r_fieldB rfl) <| pq (fun _ hc => r_loadB (hB2'.ext hc) rfl rfl) <|
    pk <| xf <| (Intersect_ok ((hc.en.ext hs12).ext (Step.drew _ _)) ((hd.dis.ext hs12).ext (Step.drew _ _)) (by omega)).mono ?_
  rintro v3 w3 ⟨hs3, ho3⟩
  have hs23 := (Step.drew [] w2).trans hs3
  refine ⟨hs23, ?_⟩
  have hI3 := IntsO.ints (L := []) ho3 (by omega) (by simp)
  refine p (fun _ => r_lenA hI3 rfl) <| pk <| xf <| (Intersect_ok ((hd.en.ext hs12).ext hs23) ((hc.dis.ext hs12).ext hs23) (by omega)).mono ?_
  rintro v4 w4 ⟨hs4, ho4⟩
  have hs24 := hs23.trans hs4
  refine ⟨hs24, ?_⟩
  have hI4 := IntsO.ints (L := []) ho4 (by omega) (by simp)
  refine p (fun _ => r_lenA hI4 rfl) <| p (fun _ => r_add rfl rfl ⟨by omega, by omega⟩) <| p (fun _ => r_gtr rfl rfl) <| pe ?_
  have hsW := hs12.trans hs24
  refine W_if rfl (fun h18 => ?_) (fun h18 => ?_)
  · refine W_seq <| W_region (by rfl) ?_
    refine x r_assign <| xe ?_
    refine W_ret ⟨[.bool false], ⟨rfl, trivial⟩, ?_, hsW⟩
    unfold consC meets
    rw [decide_eq_false (by omega)]; rfl
  have hz : decide ((meets c.c.en d.c.dis).length + (meets d.c.en c.c.dis).length = 0) = true := decide_eq_true (by unfold meets; omega)
  refine W_skip ?_
  have hB24 := hB2'.ext hs24
  have hB34 := hB3.ext hs24
  refine W_seq <| W_region (by rfl) ?_
  rcases Bool.eq_false_or_eq_true c.c.ps with hp1 | hp1
  · rcases Bool.eq_false_or_eq_true d.c.ps with hp2 | hp2
    · refine x (r_fieldB rfl) <| x (r_loadB (u := .bool true) hB24 rfl (congrArg (fun b => some (Value.bool b)) hp1)) <| x (r_not rfl) <| x r_move <| x (r_fieldB rfl) <| x (r_loadB (u := .bool true) hB34 rfl (congrArg (fun b => some (Value.bool b)) hp2)) <|
        x (r_not rfl) <| x (r_pick rfl) <| x r_move <| x (r_fieldB rfl) <| x (r_loadB hB24 rfl rfl) <| x (r_fieldB rfl) <|
        x (r_loadB hB34 rfl rfl) <| x (r_eql_bool rfl rfl) <| x (r_pick rfl) <| x r_assign <| xe ?_
      refine W_ret ⟨[.bool (c.c.mk' == d.c.mk')], ⟨rfl, trivial⟩, ?_, hsW⟩
      unfold consC; rw [hz, hp1, hp2]; rfl
    · refine x (r_fieldB rfl) <| x (r_loadB (u := .bool true) hB24 rfl (congrArg (fun b => some (Value.bool b)) hp1)) <| x (r_not rfl) <| x r_move <| x (r_fieldB rfl) <| x (r_loadB (u := .bool false) hB34 rfl (congrArg (fun b => some (Value.bool b)) hp2)) <|
        x (r_not rfl) <| x (r_pick rfl) <| x r_move <| xs rfl <| xs rfl <| xs rfl <| xs rfl <| xs rfl <| x (r_pick rfl) <| x r_assign <| xe ?_
      refine W_ret ⟨[.bool true], ⟨rfl, trivial⟩, ?_, hsW⟩
      unfold consC; rw [hz, hp1, hp2]; rfl
  · refine x (r_fieldB rfl) <| x (r_loadB (u := .bool false) hB24 rfl (congrArg (fun b => some (Value.bool b)) hp1)) <| x (r_not rfl) <| x r_move <| xs rfl <| xs rfl <| xs rfl <|
      x (r_pick rfl) <| x r_move <| xs rfl <| xs rfl <| xs rfl <| xs rfl <| xs rfl <| x (r_pick rfl) <| x r_assign <| xe ?_
    refine W_ret ⟨[.bool true], ⟨rfl, trivial⟩, ?_, hsW⟩
    unfold consC; rw [hz, hp1]; rfl

/-- The Controls are short. -/
def Sht (cs : List CV) : Prop := ∀ c ∈ cs, c.c.en.length ≤ 1000000 ∧ c.c.dis.length ≤ 1000000

theorem mcons_ok {N bm bs : Nat} {s : Aut} {vl : Value} {cs : List CV} {vc : Value} {cl : List Int} {w : World} (h : Mg N bm bs s vl cs vc cl w) (hl : cs.length = cl.length) (hn : cl.length ≤ 4096) (hsh : Sht cs) :
    Ret Tryz.prog 72 [.pointer (some ⟨bm, 0, none⟩)] w fun r w' => r = .bool (consAll (cs.map (·.c)) cl) ∧ Step [] w w' := by
  refine Ret.of_W Tryz.func72 rfl Tryz.ntmps72 Tryz.results72 (by simp) ?_
  have hI := IntsO.ints (L := []) h.c (by omega) (by simp)
  obtain ⟨q, hq⟩ : ∃ q : Nat → Nat → Bool, q = fun x y => !(decide (0 ≤ cget cl x ∧ cget cl x = cget cl y) && !consC (lget (cs.map (·.c)) x) (lget (cs.map (·.c)) y)) := ⟨_, rfl⟩
  have hgoal : consAll (cs.map (·.c)) cl = (List.range' 0 (cl.length - 0)).all fun x => (List.range' 0 (x - 0)).all (q x) := by subst hq; rfl
  rw [hgoal]
  refine W_seq <| W_region (by rfl) ?_
  refine x r_assign <| xe ?_
  refine W_seq <| W_seq <| W_region (by rfl) ?_
  refine x r_move <| x (r_nilCheck rfl) <| x (r_fieldB rfl) <| x (r_loadB h.B rfl rfl) <| x (r_lenA hI rfl) <| x r_move <| xe ?_
  refine W_block <| W_loop (α := Nat) [(2, 4), (10, 61)] (fun z => [(10, .int .i64 z)]) (fun z w' => z ≤ cl.length ∧ Step [] w w' ∧ ((List.range' 0 (cl.length - 0)).all fun x => (List.range' 0 (x - 0)).all (q x)) = ((List.range' z (cl.length - z)).all fun x => (List.range' 0 (x - 0)).all (q x)))
    (fun z => cl.length - z) (by rfl) 0 ⟨rfl, trivial⟩ ⟨Nat.zero_le _, Step.refl _ _, rfl⟩ ?_
  rintro i g w1 ⟨hi, hs1, hr1⟩
  refine W_seq <| W_region (by rfl) ?_
  refine x (r_lss rfl rfl) <| xe ?_
  refine W_seq <| W_ifn rfl (fun h11 => ?_) (fun h11 => ?_)
  · refine W_exit ?_
    refine W_seq <| W_region (by rfl) ?_
    refine x r_assign <| xe ?_
    refine W_ret ⟨[.bool true], ⟨rfl, trivial⟩, ?_, hs1⟩
    rw [hr1, rng_nil (by omega)]; rfl
  have hlt : i < cl.length := by omega
  rw [rng_cons hlt, List.all_cons] at hr1
  refine W_skip ?_
  refine W_seq <| W_block <| W_seq <| W_region (by rfl) ?_
  refine x r_move <| x r_assign <| xe ?_
  refine W_seq <| W_region (by rfl) ?_
  refine x r_move <| x r_move <| xe ?_
  refine W_block <| W_loop (α := Nat) [(2, 2), (4, 4), (14, 60)] (fun z => [(14, .int .i64 z)]) (fun z w' => z ≤ i ∧ Step [] w w' ∧ (List.range' 0 (i - 0)).all (q i) = (List.range' z (i - z)).all (q i)) (fun z => i - z) (by rfl) 0 ⟨rfl, trivial⟩
    ⟨Nat.zero_le _, hs1, rfl⟩ ?_
  rintro j g2 w2 ⟨hj, hs2, hr2⟩
  refine W_seq <| W_region (by rfl) ?_
  refine x (r_lss rfl rfl) <| xe ?_
  refine W_seq <| W_ifn rfl (fun h15 => ?_) (fun h15 => ?_)
  · refine W_exit ?_
    refine W_region (by rfl) ?_
    refine x (r_add rfl rfl ⟨by omega, by omega⟩) <| x r_move <| xe ?_
    rw [rng_nil (a := j) (by omega)] at hr2
    refine ⟨i + 1, by omega, ⟨rfl, trivial⟩, hlt, hs2, ?_⟩
    rw [hr1, hr2]; rfl
  have hltj : j < i := by omega
  rw [rng_cons hltj, List.all_cons] at hr2
  have h2 := h.ext hs2
  have hI2 := IntsO.ints (L := []) h2.c (by omega) (by simp)
  have hci : i < cs.length := by omega
  have hcj : j < cs.length := by omega
  have hqe : q i j = !(decide (0 ≤ cget cl i ∧ cget cl i = cget cl j) && !consC (cs[i]'hci).c (cs[j]'hcj).c) := by subst hq; simp only []; rw [lget_cv rfl hci, lget_cv rfl hcj]
  have hli := hsh _ (List.getElem_mem hci)
  have hlj := hsh _ (List.getElem_mem hcj)
  have hai := h2.l.each _ (List.getElem_mem hci)
  have haj := h2.l.each _ (List.getElem_mem hcj)
  obtain ⟨ci, hcie⟩ : ∃ c, cs[i]'hci = c := ⟨_, rfl⟩
  obtain ⟨cj, hcje⟩ : ∃ c, cs[j]'hcj = c := ⟨_, rfl⟩
  rw [hcie] at hli hai hqe
  rw [hcje] at hlj haj hqe
  refine W_skip ?_
  refine W_seq <| W_block <| W_seq <| W_region (by rfl) ?_
  refine x r_move <| x r_assign <| xe ?_
  refine W_cut (α := Unit) [(17, 59)] (fun z => [(59, .bool (!q i j))]) (fun z w' => Step [] w w') (by rfl) ?_ ?_
  · refine W_draw (Step [] w2) [(0, true), (1, true), (2, true), (3, true), (4, true), (5, true), (6, true), (7, true), (8, true), (9, true), (10, true), (11, true), (12, true), (13, true), (14, true), (15, true), (16, true), (17, true), (18, true), (19, true), (20, true), (21, true), (22, true), (23, true), (24, true), (25, true), (26, true), (27, true), (28, true), (29, true), (30, true), (31, true), (32, true), (33, true), (34, true), (35, true), (36, true), (37, true), (38, true), (39, true), (40, false), (41, true), (42, true)] Tryz.mixed (by rfl) (by kernel_rfl) (Step.drew _ _) ?_
    refine p (fun _ => r_move) <| p (fun _ => r_nilCheck rfl) <| p (fun _ => r_fieldB rfl) <| pq (fun _ hc => r_loadB (h2.B.ext hc) rfl rfl) <| p (fun _ => r_move) <| pic (i := i) rfl hI2 rfl rfl hlt fun a22 h22 =>
      pq (fun _ hc => r_loadA (h22.ext hc) rfl) <| pb (fun _ => r_geq rfl rfl) (fun h24 => ?_) (fun h24 => ?_)
    · refine p (fun _ => r_move) <| p (fun _ => r_move) <| p (fun _ => r_nilCheck rfl) <| p (fun _ => r_fieldB rfl) <| pq (fun _ hc => r_loadB (h2.B.ext hc) rfl rfl) <| p (fun _ => r_move) <|
        pic (i := i) rfl hI2 rfl rfl hlt fun a31 h31 => pq (fun _ hc => r_loadA (h31.ext hc) rfl) <| p (fun _ => r_move) <| p (fun _ => r_nilCheck rfl) <|
        p (fun _ => r_fieldB rfl) <| pq (fun _ hc => r_loadB (h2.B.ext hc) rfl rfl) <| p (fun _ => r_move) <| pic (i := j) rfl hI2 rfl rfl (Nat.lt_trans hltj hlt) fun a38 h38 => pq (fun _ hc => r_loadA (h38.ext hc) rfl) <|
        pb (fun _ => r_eql rfl rfl) (fun h40 => ?_) (fun h40 => ?_)
      · refine p (fun _ => r_pick rfl) <| p (fun _ => r_move) <| p (fun _ => r_move) <| p (fun _ => r_nilCheck rfl) <| p (fun _ => r_fieldB rfl) <| pq (fun _ hc => r_loadB (h2.B.ext hc) rfl rfl) <|
          p (fun _ => r_move) <| pig (g := cvCells) (i := i) rfl cv_len h2.l.arr rfl rfl hci fun a48 h48 => ?_
        rw [hcie] at h48
        refine pq (fun _ hc => r_loadsA (h48.ext hc) rfl rfl) <| p (fun _ => r_move) <|
          p (fun _ => r_nilCheck rfl) <| p (fun _ => r_fieldB rfl) <| pq (fun _ hc => r_loadB (h2.B.ext hc) rfl rfl) <| p (fun _ => r_move) <| pig (g := cvCells) (i := j) rfl cv_len h2.l.arr rfl rfl hcj fun a55 h55 => ?_
        rw [hcje] at h55
        refine pq (fun _ hc => r_loadsA (h55.ext hc) rfl rfl) <| pk <| xf <| (Consistent_ok (hai.ext (Step.drew _ _)) (haj.ext (Step.drew _ _)) hli.1 hli.2 hlj.1 hlj.2).mono ?_
        rintro r3 w3 ⟨rfl, hs3⟩
        have hs23 := (Step.drew [] w2).trans hs3
        refine ⟨hs23, ?_⟩
        refine p (fun _ => r_not rfl) <| p (fun _ => r_pick rfl) <| pe ?_
        refine ⟨(), ⟨congrArg Value.bool ?_, trivial⟩, hs2.trans hs23⟩
        rw [hqe, decide_eq_true ⟨h24, h40⟩]; simp
      refine p (fun _ => r_pick rfl) <| p (fun _ => r_move) <| ps <| ps <| ps <| ps <| ps <| ps <| ps <| ps <| ps <| ps <| ps <| ps <| ps <| ps <| ps <| ps <| p (fun _ => r_pick rfl) <|
        pe ?_
      refine ⟨(), ⟨congrArg Value.bool ?_, trivial⟩, hs2.trans (Step.drew _ _)⟩
      rw [hqe, decide_eq_false (fun e => h40 e.2)]; rfl
    refine p (fun _ => r_move) <| ps <| ps <| ps <| ps <| ps <| ps <| ps <| ps <| ps <| ps <| ps <| ps <| ps <| ps <| ps <| p (fun _ => r_pick rfl) <| p (fun _ => r_move) <|
      ps <| ps <| ps <| ps <| ps <| ps <| ps <| ps <| ps <| ps <| ps <| ps <| ps <| ps <| ps <| ps <| p (fun _ => r_pick rfl) <| pe ?_
    refine ⟨(), ⟨congrArg Value.bool ?_, trivial⟩, hs2.trans (Step.drew _ _)⟩
    rw [hqe, decide_eq_false (fun e => h24 e.1)]; rfl
  rintro _ g4 w4 hs4
  refine W_cond rfl (fun h59 => ?_) (fun h59 => ?_)
  · refine W_seq <| W_region (by rfl) ?_
    refine x r_assign <| xe ?_
    refine W_ret ⟨[.bool false], ⟨rfl, trivial⟩, ?_, hs4⟩
    rw [hr1, hr2, show q i j = false by simpa using h59]; rfl
  refine W_skip ?_
  refine W_region (by rfl) ?_
  refine x (r_add rfl rfl ⟨by omega, by omega⟩) <| x r_move <| xe ?_
  refine ⟨j + 1, by omega, ⟨rfl, trivial⟩, hltj, hs4, ?_⟩
  rw [hr2, show q i j = true by simpa using h59]; rfl
end Go.Proofs.YtfhgnlkdcdlblaaGreatDoor
