/- Merged out of 13 texts. -/
import Derived.Test.YtfhgnlkdcdlblaaDoorKbc
/- Merged out of the texts Ta Dg Dh Tb Di. -/
/- The Controls as the definition says: plain law for SupervisorMaps. -/
namespace Go.Proofs.YtfhgnlkdcdlblaaDoor
open Go.Lg

theorem Inc.ext : ∀ {a b : List Int}, Inc a → Inc b → (∀ x, x ∈ a ↔ x ∈ b) → a = b
  | [], [], _, _, _ => rfl
  | [], y :: b, _, _, h => by have := (h y).2 List.mem_cons_self; cases this
  | x :: a, [], _, _, h => by have := (h x).1 List.mem_cons_self; cases this
  | x :: a, y :: b, ia, ib, h => by
    have e : x = y := by
      have h1 := (h x).1 List.mem_cons_self
      have h2 := (h y).2 List.mem_cons_self
      rcases List.mem_cons.1 h1 with h1 | h1
      · exact h1
      · rcases List.mem_cons.1 h2 with h2 | h2
        · exact h2.symm
        · have := ib.lt_of h1; have := ia.lt_of h2; omega
    subst e
    congr 1
    refine Inc.ext ia.tail ib.tail fun z => ?_
    have hz := h z
    constructor
    · intro hm
      have := hz.1 (List.mem_cons_of_mem _ hm)
      rcases List.mem_cons.1 this with h1 | h1
      · have := ia.lt_of hm; omega
      · exact h1
    · intro hm
      have := hz.2 (List.mem_cons_of_mem _ hm)
      rcases List.mem_cons.1 this with h1 | h1
      · have := ib.lt_of hm; omega
      · exact h1
theorem uni1_mem {l : List Int} (h : Inc l) (v x : Int) : x ∈ uni1 l v ↔ x ∈ l ∨ x = v := by
  unfold uni1
  rw [mem_mrg h (by simp)]
  simp
theorem uni1_inc {l : List Int} (h : Inc l) (v : Int) : Inc (uni1 l v) := mrg_inc _ _ l [v] (Nat.le_refl _) h (by simp)
theorem nxt_eget (es : List Ed) (s v : Int) : nxt es s v = match eget es s v with | some u => u | none => -1 := by
  induction es with
  | nil => rfl
  | cons e es ih =>
    rw [nxt, eget]
    split
    · rfl
    · exact ih
theorem nxt_nonneg {a : Aut} (ho : Okay a) (s v : Int) : 0 ≤ nxt a.ed s v ↔ (eget a.ed s v).isSome = true := by
  rw [nxt_eget]
  cases h : eget a.ed s v with
  | none => simp
  | some u => simp; exact (ho.ed _ (eget_mem h)).2.2.2.1
/-! ### The definition -/
def canX (p : Aut) (pairs : List (List Int)) (x e : Int) : Bool := pairs.any fun q => decide (py q = x) && decide (0 ≤ nxt p.ed (px q) e)
def ctlD (p s : Aut) (pairs : List (List Int)) (x : Int) : Ctl :=
  ⟨s.al.filter fun e => canX p pairs x e && decide (0 ≤ nxt s.ed x e), s.al.filter fun e => canX p pairs x e && !decide (0 ≤ nxt s.ed x e),
    (pairs.any fun q => decide (py q = x)) && decide (x ∈ s.mr), pairs.any fun q => decide (py q = x) && decide (px q ∈ p.mr)⟩
/-- A Control after the pairs so far. -/
structure CtlI (p s : Aut) (pairs : List (List Int)) (x : Int) (c : Ctl) : Prop where
  ei : Inc c.en
  di : Inc c.dis
  em : ∀ e, e ∈ c.en ↔ e ∈ s.al ∧ canX p pairs x e = true ∧ 0 ≤ nxt s.ed x e
  dm : ∀ e, e ∈ c.dis ↔ e ∈ s.al ∧ canX p pairs x e = true ∧ ¬ 0 ≤ nxt s.ed x e
  mk2 : c.mk' = ((pairs.any fun q => decide (py q = x)) && decide (x ∈ s.mr))
  ps : c.ps = pairs.any fun q => decide (py q = x) && decide (px q ∈ p.mr)
theorem CtlI.eq {p s : Aut} {pairs : List (List Int)} {x : Int} {c : Ctl} (h : CtlI p s pairs x c) (hi : Inc s.al) : c = ctlD p s pairs x := by
  obtain ⟨en, dis, mk', ps⟩ := c
  have e1 : en = s.al.filter fun e => canX p pairs x e && decide (0 ≤ nxt s.ed x e) := by
    refine Inc.ext h.ei (List.Pairwise.sublist List.filter_sublist hi) fun e => ?_
    rw [h.em e, List.mem_filter]; simp
  have e2 : dis = s.al.filter fun e => canX p pairs x e && !decide (0 ≤ nxt s.ed x e) := by
    refine Inc.ext h.di (List.Pairwise.sublist List.filter_sublist hi) fun e => ?_
    rw [h.dm e, List.mem_filter]; simp
  have e3 := h.mk2
  have e4 := h.ps
  simp only [] at e3 e4
  unfold ctlD
  rw [e1, e2, e3, e4]
theorem CtlI.zero (p s : Aut) (x : Int) : CtlI p s [] x ctl0 := ⟨by simp [ctl0], by simp [ctl0], by simp [ctl0, canX], by simp [ctl0, canX], by simp [ctl0], by simp [ctl0]⟩
theorem CtlI.other {p s : Aut} {pairs : List (List Int)} {x : Int} {c : Ctl} (h : CtlI p s pairs x c) {q : List Int} (hq : py q ≠ x) : CtlI p s (pairs ++ [q]) x c := by
  have hc : ∀ e, canX p (pairs ++ [q]) x e = canX p pairs x e := fun e => by unfold canX; rw [List.any_append]; simp [hq]
  refine ⟨h.ei, h.di, fun e => by rw [hc]; exact h.em e, fun e => by rw [hc]; exact h.dm e, ?_, ?_⟩
  · rw [h.mk2, List.any_append]; simp [hq]
  · rw [h.ps, List.any_append]; simp [hq]
/-- The events of a pair. -/
theorem ctlE_fold {p s : Aut} (hp : Okay p) (hs : Okay s) (x y : Int) : ∀ (vs : List Int) (c : Ctl), Inc c.en → Inc c.dis →
    Inc (vs.foldl (ctlE p s x y) c).en ∧ Inc (vs.foldl (ctlE p s x y) c).dis ∧ (vs.foldl (ctlE p s x y) c).mk' = c.mk' ∧ (vs.foldl (ctlE p s x y) c).ps = c.ps ∧
    (∀ e, e ∈ (vs.foldl (ctlE p s x y) c).en ↔ e ∈ c.en ∨ (e ∈ vs ∧ 0 ≤ nxt p.ed x e ∧ 0 ≤ nxt s.ed y e)) ∧ (∀ e, e ∈ (vs.foldl (ctlE p s x y) c).dis ↔ e ∈ c.dis ∨ (e ∈ vs ∧ 0 ≤ nxt p.ed x e ∧ ¬ 0 ≤ nxt s.ed y e))
  | [], c, h1, h2 => ⟨h1, h2, rfl, rfl, fun e => by simp, fun e => by simp⟩
  | v :: vs, c, h1, h2 => by
    rw [List.foldl_cons]
    have np := nxt_nonneg hp x v
    have ns := nxt_nonneg hs y v
    unfold ctlE
    cases hep : eget p.ed x v with
    | none =>
      rw [hep] at np
      obtain ⟨i1, i2, i3, i4, i5, i6⟩ := ctlE_fold hp hs x y vs c h1 h2
      unfold ctlE at i1 i2 i3 i4 i5 i6
      refine ⟨i1, i2, i3, i4, fun e => ?_, fun e => ?_⟩
      · rw [i5 e]
        constructor
        · rintro (h | h)
          · exact .inl h
          · exact .inr ⟨List.mem_cons_of_mem _ h.1, h.2⟩
        · rintro (h | ⟨h, h3, h4⟩)
          · exact .inl h
          · rcases List.mem_cons.1 h with rfl | h
            · have := np.1 h3; cases this
            · exact .inr ⟨h, h3, h4⟩
      · rw [i6 e]
        constructor
        · rintro (h | h)
          · exact .inl h
          · exact .inr ⟨List.mem_cons_of_mem _ h.1, h.2⟩
        · rintro (h | ⟨h, h3, h4⟩)
          · exact .inl h
          · rcases List.mem_cons.1 h with rfl | h
            · have := np.1 h3; cases this
            · exact .inr ⟨h, h3, h4⟩
    | some t =>
      rw [hep] at np
      have hpv : 0 ≤ nxt p.ed x v := np.2 rfl
      cases hes : eget s.ed y v with
      | some u =>
        rw [hes] at ns
        have hsv : 0 ≤ nxt s.ed y v := ns.2 rfl
        obtain ⟨i1, i2, i3, i4, i5, i6⟩ := ctlE_fold hp hs x y vs ⟨uni1 c.en v, c.dis, c.mk', c.ps⟩ (uni1_inc h1 v) h2
        unfold ctlE at i1 i2 i3 i4 i5 i6
        refine ⟨i1, i2, i3, i4, fun e => ?_, fun e => ?_⟩
        · rw [i5 e, uni1_mem h1]
          constructor
          · rintro ((h | rfl) | h)
            · exact .inl h
            · exact .inr ⟨List.mem_cons_self, hpv, hsv⟩
            · exact .inr ⟨List.mem_cons_of_mem _ h.1, h.2⟩
          · rintro (h | ⟨h, h3⟩)
            · exact .inl (.inl h)
            · rcases List.mem_cons.1 h with rfl | h
              · exact .inl (.inr rfl)
              · exact .inr ⟨h, h3⟩
        · rw [i6 e]
          constructor
          · rintro (h | h)
            · exact .inl h
            · exact .inr ⟨List.mem_cons_of_mem _ h.1, h.2⟩
          · rintro (h | ⟨h, h3, h4⟩)
            · exact .inl h
            · rcases List.mem_cons.1 h with rfl | h
              · exact absurd hsv h4
              · exact .inr ⟨h, h3, h4⟩
      | none =>
        rw [hes] at ns
        have hsv : ¬ 0 ≤ nxt s.ed y v := fun h => by have := ns.1 h; cases this
        obtain ⟨i1, i2, i3, i4, i5, i6⟩ := ctlE_fold hp hs x y vs ⟨c.en, uni1 c.dis v, c.mk', c.ps⟩ h1 (uni1_inc h2 v)
        unfold ctlE at i1 i2 i3 i4 i5 i6
        refine ⟨i1, i2, i3, i4, fun e => ?_, fun e => ?_⟩
        · rw [i5 e]
          constructor
          · rintro (h | h)
            · exact .inl h
            · exact .inr ⟨List.mem_cons_of_mem _ h.1, h.2⟩
          · rintro (h | ⟨h, h3, h4⟩)
            · exact .inl h
            · rcases List.mem_cons.1 h with rfl | h
              · exact absurd h4 hsv
              · exact .inr ⟨h, h3, h4⟩
        · rw [i6 e, uni1_mem h2]
          constructor
          · rintro ((h | rfl) | h)
            · exact .inl h
            · exact .inr ⟨List.mem_cons_self, hpv, hsv⟩
            · exact .inr ⟨List.mem_cons_of_mem _ h.1, h.2⟩
          · rintro (h | ⟨h, h3⟩)
            · exact .inl (.inl h)
            · rcases List.mem_cons.1 h with rfl | h
              · exact .inl (.inr rfl)
              · exact .inr ⟨h, h3⟩
theorem CtlI.pair {p s : Aut} (hp : Okay p) (hs : Okay s) {pairs : List (List Int)} {c : Ctl} {q : List Int} (h : CtlI p s pairs (py q) c) : CtlI p s (pairs ++ [q]) (py q) (ctlP p s (px q) (py q) c) := by
  unfold ctlP
  obtain ⟨i1, i2, i3, i4, i5, i6⟩ := ctlE_fold hp hs (px q) (py q) s.al (ctlB p s (px q) (py q) c) h.ei h.di
  have hc : ∀ e, canX p (pairs ++ [q]) (py q) e = true ↔ canX p pairs (py q) e = true ∨ 0 ≤ nxt p.ed (px q) e := fun e => by unfold canX; rw [List.any_append]; simp
  refine ⟨i1, i2, fun e => ?_, fun e => ?_, ?_, ?_⟩
  · rw [i5 e, hc]
    show e ∈ c.en ∨ _ ↔ _
    rw [h.em e]
    constructor
    · rintro (⟨a1, a2, a3⟩ | ⟨a1, a2, a3⟩)
      · exact ⟨a1, .inl a2, a3⟩
      · exact ⟨a1, .inr a2, a3⟩
    · rintro ⟨a1, a2 | a2, a3⟩
      · exact .inl ⟨a1, a2, a3⟩
      · exact .inr ⟨a1, a2, a3⟩
  · rw [i6 e, hc]
    show e ∈ c.dis ∨ _ ↔ _
    rw [h.dm e]
    constructor
    · rintro (⟨a1, a2, a3⟩ | ⟨a1, a2, a3⟩)
      · exact ⟨a1, .inl a2, a3⟩
      · exact ⟨a1, .inr a2, a3⟩
    · rintro ⟨a1, a2 | a2, a3⟩
      · exact .inl ⟨a1, a2, a3⟩
      · exact .inr ⟨a1, a2, a3⟩
  · rw [i3, List.any_append]
    simp [ctlB]
  · rw [i4, List.any_append]
    show (c.ps || _) = _
    rw [h.ps]; simp
theorem ctls_def {p s : Aut} (hp : Okay p) (hs : Okay s) {pairs : List (List Int)} (hv : ∀ q ∈ pairs, Vt [p, s] q) : ∀ x, x < s.st.toNat → lget (ctls p s pairs) x = ctlD p s pairs x := by
  have key : ∀ (r pre : List (List Int)) (l : List Ctl), (∀ q ∈ r, Vt [p, s] q) → l.length = s.st.toNat → (∀ x, x < s.st.toNat → CtlI p s pre x (lget l x)) → ∀ x, x < s.st.toNat → CtlI p s (pre ++ r) x (lget (r.foldl (ctlQ p s) l) x) := by
    intro r
    induction r with
    | nil => intro pre l _ _ h x hx; simpa using h x hx
    | cons q r ih =>
      intro pre l hr hl h x hx
      obtain ⟨xi, yi, rfl, hx1, hy1⟩ := Vt2 (hr q List.mem_cons_self)
      rw [List.foldl_cons, show pre ++ [(xi : Int), (yi : Int)] :: r = (pre ++ [[(xi : Int), (yi : Int)]]) ++ r by simp]
      refine ih _ _ (fun q hq => hr q (List.mem_cons_of_mem _ hq)) (by simp [ctlQ, hl]) (fun z hz => ?_) x hx
      have e1 : py [(xi : Int), (yi : Int)] = (yi : Int) := rfl
      have e2 : px [(xi : Int), (yi : Int)] = (xi : Int) := rfl
      unfold ctlQ
      rw [e1, e2, Int.toNat_natCast]
      by_cases ez : z = yi
      · subst ez
        have e3 : lget (l.set z (ctlP p s xi z (l.getD z ctl0))) z = ctlP p s xi z (lget l z) := by
          unfold lget
          simp only [List.getD]
          rw [List.getElem?_set_self (by omega)]; rfl
        rw [e3]
        have := CtlI.pair hp hs (q := [(xi : Int), (z : Int)]) (c := lget l z) (h z hz)
        exact this
      · have e3 : lget (l.set yi (ctlP p s xi yi (l.getD yi ctl0))) z = lget l z := by
          unfold lget
          simp only [List.getD, List.getElem?_set]
          rw [if_neg (fun e => ez e.symm)]
        rw [e3]
        exact (h z hz).other (by rw [e1]; omega)
  intro x hx
  have h1 := key pairs [] (List.replicate s.st.toNat ctl0) hv (by simp) (fun z hz => by
    have : lget (List.replicate s.st.toNat ctl0) z = ctl0 := by unfold lget; simp [List.getD, hz]
    rw [this]; exact CtlI.zero p s z) x hx
  rw [List.nil_append] at h1
  exact h1.eq hs.ali
end Go.Proofs.YtfhgnlkdcdlblaaDoor

/- Contracts: supervisor.Loop; automaton.Equal and law30's same where both are equal. -/
namespace Go.Proofs.YtfhgnlkdcdlblaaDoor
open Go.Lg

theorem Loop_ok {L : List Nat} {w : World} {pva pvm pve sa sm se : Value} {aP aS : Aut} (hp : AutA L w.heap pva pvm pve aP) (hs : AutA L w.heap sa sm se aS) (hst : Okay aP → Okay aS → aP.st ≤ 100 ∧ aS.st ≤ 100) :
    Ret Tryd.prog 16 [.agg #[pva, .int .i64 aP.st, pvm, pve], .agg #[sa, .int .i64 aS.st, sm, se]] w fun r w' => Step [] w w' ∧ ∃ v, r = .tuple #[v, .int .i64 (opE aP aS)] ∧
      (opE aP aS ≠ 0 → v = zA) ∧ (opE aP aS = 0 → AutF w.heap.size w'.heap v (opA aP aS)) := by
  refine Ret.of_W Tryd.func16 rfl Tryd.ntmps16 Tryd.results16 (by simp) ?_
  refine W_seq <| W_region (by rfl) ?_
  refine xl rfl <| o_box (us := [pva, .int .i64 aP.st, pvm, pve]) rfl fun b2 w1 hs1 hb2 hB2 => xl rfl <| o_box (us := [sa, .int .i64 aS.st, sm, se]) rfl fun b3 w2 hs2 hb3 hB3 =>
    xl rfl <| o_alloc (us := [.slice none 0 0, .int .i64 0, .slice none 0 0, .slice none 0 0]) rfl fun b4 w3 hs3 hb4 hB4 => x r_assign <| xe ?_
  have hs13 := (hs1.trans hs2).trans hs3
  have hz1 := hs1.size
  have hz2 := hs2.size
  have hl4 := hB4.lt
  refine W_seq <| W_region (by rfl) ?_
  refine x (r_loadsB ((hB2.ext hs2).ext hs3) rfl rfl) <| x (r_loadsB (hB3.ext hs3) rfl rfl) <| xl rfl <| xf <| (sopen_ok (hp.ext hs13) (hs.ext hs13) hst).mono ?_
  rintro r4 w4 ⟨hs4, va, vt, rfl, hO⟩
  obtain ⟨us, hva, husl, hus⟩ := hO.shape
  refine x r_move <| x (r_extract rfl rfl) <|
    x (r_extract rfl rfl) <| x (r_extract rfl rfl) <| xl rfl <| o_alloc (us := [.slice none 0 0, .int .i64 0, .slice none 0 0, .slice none 0 0]) rfl fun b6 w5 hs5 hb6 hB6 => xl rfl <| o_stores (us := us) hB6 rfl hva husl rfl hus fun w6 hs6 hB6' =>
    x r_assign <| x r_assign <| xe ?_
  have hs46 : Step [] w4 w6 := hs5.then1 hs6 hb6
  have hs36 := hs4.trans hs46
  have hz3 := hs3.size
  have hz13 := hs13.size
  refine W_seq <| W_region (by rfl) ?_
  refine x (r_loadsB hB6' rfl husl) <| x r_move <| xl rfl <| o_stores (us := us) (hB4.ext hs36) rfl rfl husl rfl hus fun w7 hs7 hB7 => x r_assign <| xe ?_
  refine W_ret ⟨[.agg us.toArray, .int .i64 (opE aP aS)], ⟨⟨_, rfl, run_loadVar_ag husl (hB7.at (L := []) (by simp)).cells⟩, rfl, trivial⟩, (hs13.trans hs36).then1 hs7 (by omega), va, by rw [hva]; rfl, fun e => (hO.bad e).1, fun e => ?_⟩
  exact (AutF_st1 ((hO.good e).1.ext hs46) (by omega) hs7).mono hz13

theorem Equal_same {L L' : List Nat} {w : World} {va vm ve va' vm' ve' : Value} {a : Aut} (h : AutA L w.heap va vm ve a) (h' : AutA L' w.heap va' vm' ve' a) :
    Ret Tryd.prog 15 [.agg #[va, .int .i64 a.st, vm, ve], .agg #[va', .int .i64 a.st, vm', ve']] w fun r w' => r = .bool true ∧ Step [] w w' := by
  refine Ret.of_W Tryd.func15 rfl Tryd.ntmps15 Tryd.results15 (by simp) ?_
  refine W_seq <| W_region (by rfl) ?_
  refine xl rfl <| o_box (us := [va, .int .i64 a.st, vm, ve]) rfl fun b2 w1 hs1 hb2 hB2 => xl rfl <| o_box (us := [va', .int .i64 a.st, vm', ve']) rfl fun b3 w2 hs2 hb3 hB3 => x r_assign <| xe ?_
  have hs12 := hs1.trans hs2
  have hB22 := hB2.ext hs2
  refine W_seq <| W_region (by rfl) ?_
  refine x (r_fieldB rfl) <| x (r_loadB hB22 rfl rfl) <| x (r_fieldB rfl) <| x (r_loadB hB3 rfl rfl) <| xb (r_eql rfl rfl) (fun _ => ?_) (fun h9 => absurd rfl h9)
  refine x r_move <| x (r_fieldB rfl) <| x (r_loadB hB22 rfl rfl) <| x (r_fieldB rfl) <| x (r_loadB hB3 rfl rfl) <| xl rfl <| xf <| (equalI_ok (h.al.ext hs12) (h'.al.ext hs12)).mono ?_
  rintro r3 w3 ⟨hr3, hs3⟩
  rw [decide_eq_true rfl] at hr3
  subst hr3
  have hs13 := hs12.trans hs3
  refine x (r_pick rfl) <|
    x r_move <| x (r_fieldB rfl) <| x (r_loadB (hB22.ext hs3) rfl rfl) <| x (r_fieldB rfl) <| x (r_loadB (hB3.ext hs3) rfl rfl) <|
    xl rfl <| xf <| (equalI_ok (h.mr.ext hs13) (h'.mr.ext hs13)).mono ?_
  rintro r4 w4 ⟨hr4, hs4⟩
  rw [decide_eq_true rfl] at hr4
  subst hr4
  have hs14 := hs13.trans hs4
  have hs34 := hs3.trans hs4
  refine x (r_pick rfl) <| x r_move <| x (r_fieldB rfl) <| x (r_loadB (hB22.ext hs34) rfl rfl) <|
    x (r_fieldB rfl) <| x (r_loadB (hB3.ext hs34) rfl rfl) <| xl rfl <| xf <| (equalE_ok (h.ed.ext hs14) (h'.ed.ext hs14)).mono ?_
  rintro r5 w5 ⟨hr5, hs5⟩
  rw [decide_eq_true rfl] at hr5
  subst hr5
  refine x (r_pick rfl) <| x r_assign <| xe ?_
  exact W_ret ⟨[.bool true], ⟨rfl, trivial⟩, rfl, hs14.trans hs5⟩

theorem same_ok {L L' : List Nat} {w : World} {c d : CV} (hc : CvA L w.heap c) (hd : CvA L' w.heap d) (he : c.c = d.c) :
    Ret Tryd.prog 20 [.agg (cvCells c).toArray, .agg (cvCells d).toArray] w fun r w' => r = .bool true ∧ Step [] w w' := by
  refine Ret.of_W Tryd.func20 rfl Tryd.ntmps20 Tryd.results20 (by simp) ?_
  refine W_seq <| W_region (by rfl) ?_
  refine xl rfl <| o_box (us := cvCells c) rfl fun b2 w1 hs1 hb2 hB2 => xl rfl <| o_box (us := cvCells d) rfl fun b3 w2 hs2 hb3 hB3 => x r_assign <| xe ?_
  have hs12 := hs1.trans hs2
  have hB22 := hB2.ext hs2
  have hen := hc.en
  have hdi := hc.dis
  rw [he] at hen hdi
  have hmk : d.c.mk' = c.c.mk' := by rw [he]
  have hps : d.c.ps = c.c.ps := by rw [he]
  refine W_seq <| W_region (by rfl) ?_
  refine x (r_fieldB rfl) <| x (r_loadB hB22 rfl rfl) <| x (r_fieldB rfl) <| x (r_loadB hB3 rfl rfl) <| xl rfl <| xf <| (wEqual_ok (hen.ext hs12) (hd.en.ext hs12)).mono ?_
  rintro r3 w3 ⟨hr3, hs3⟩
  rw [decide_eq_true rfl] at hr3
  subst hr3
  have hs13 := hs12.trans hs3
  refine x r_move <| x (r_fieldB rfl) <| x (r_loadB (hB22.ext hs3) rfl rfl) <| x (r_fieldB rfl) <| x (r_loadB (hB3.ext hs3) rfl rfl) <| xl rfl <| xf <| (wEqual_ok (hdi.ext hs13) (hd.dis.ext hs13)).mono ?_
  rintro r4 w4 ⟨hr4, hs4⟩
  rw [decide_eq_true rfl] at hr4
  subst hr4
  have hs34 := hs3.trans hs4
  refine x (r_pick rfl) <| x r_move <| x (r_fieldB rfl) <| x (r_loadB (hB22.ext hs34) rfl rfl) <| x (r_fieldB rfl) <| x (r_loadB (u := .bool c.c.mk') (hB3.ext hs34) rfl (congrArg (fun b => some (Value.bool b)) hmk)) <| x (r_eqT rfl rfl) <|
    x (r_pick rfl) <| x r_move <| x (r_fieldB rfl) <| x (r_loadB (hB22.ext hs34) rfl rfl) <| x (r_fieldB rfl) <| x (r_loadB (u := .bool c.c.ps) (hB3.ext hs34) rfl (congrArg (fun b => some (Value.bool b)) hps)) <|
    x (r_eqT rfl rfl) <| x (r_pick rfl) <| x r_assign <| xe ?_
  exact W_ret ⟨[.bool true], ⟨rfl, trivial⟩, rfl, hs13.trans hs4⟩
end Go.Proofs.YtfhgnlkdcdlblaaDoor

/- Contract: law30's control. -/
namespace Go.Lg
section
variable {P : Program} {f : Fr} {w : World} {d : Option Nat} {ty : Nat} {ps : String} {af : Array Edge} {gd : Option (Nat × Bool)}
theorem r_moveV {x : Operand} {v : Value} (h : ev f x = v) : (execOp (ev f) ⟨d, .move x, ty, ps, af, gd⟩).run P w = .ok (.value v) w := by rw [← h]; exact r_move
end
end Go.Lg
namespace Go.Proofs.YtfhgnlkdcdlblaaDoor
open Go.Lg

theorem filter_snoc {l : List Int} {e : Int} {p : Int → Bool} : (l ++ [e]).filter p = if p e = true then l.filter p ++ [e] else l.filter p := by
  rw [List.filter_append]
  by_cases h : p e = true
  · rw [if_pos h, List.filter_cons, if_pos h]; rfl
  · rw [if_neg h, List.filter_cons, if_neg h, List.filter_nil, List.append_nil]
/-- What the loops hold. -/
structure CcI (w4 : World) (b : Nat) (m q : Bool) (ve vd : Value) (E D : List Int) (w : World) : Prop where
  st : Step [b] w4 w
  B : Blk w.heap b 56 [ve, vd, .bool m, .bool q]
  e : IntsO 3 w4.heap.size w ve E
  d : IntsO 3 w4.heap.size w vd D
  dj : Dj ve vd
section
variable {w4 w w' w'' : World} {b : Nat} {m q : Bool} {ve vd : Value} {E D : List Int}
theorem CcI.ext (h : CcI w4 b m q ve vd E D w) (hs : Step [] w w') : CcI w4 b m q ve vd E D w' := ⟨h.st.trans hs, h.B.ext hs, own_ext h.e hs, own_ext h.d hs, h.dj⟩
theorem CcI.setE (h : CcI w4 b m q ve vd E D w) (hb : b < w4.heap.size) {ve' : Value} {E' : List Int} (hs : Step (ob ve) w w') (hm : IntsO 3 w4.heap.size w' ve' E') (hn : ∀ b ∈ ob ve', b ∈ ob ve ∨ w.heap.size ≤ b) (hs2 : Step [b] w' w'')
    (hB : Blk w''.heap b 56 [ve', vd, .bool m, .bool q]) : CcI w4 b m q ve' vd E' D w'' :=
  ⟨(h.st.then hs (fun c hc => .inr (own_ge h.e c hc).1)).trans' hs2, hB, own_step hm hs2 (fun c hc => by have := (own_ge hm c hc).1; simp; omega),
    own_step (own_step h.d hs h.dj.symm) hs2 (fun c hc => by have := (own_ge h.d c hc).1; simp; omega), (h.dj.symm.grow hn (own_lt h.d)).symm⟩
theorem CcI.setD (h : CcI w4 b m q ve vd E D w) (hb : b < w4.heap.size) {vd' : Value} {D' : List Int} (hs : Step (ob vd) w w') (hm : IntsO 3 w4.heap.size w' vd' D') (hn : ∀ b ∈ ob vd', b ∈ ob vd ∨ w.heap.size ≤ b) (hs2 : Step [b] w' w'')
    (hB : Blk w''.heap b 56 [ve, vd', .bool m, .bool q]) : CcI w4 b m q ve vd' E D' w'' :=
  ⟨(h.st.then hs (fun c hc => .inr (own_ge h.d c hc).1)).trans' hs2, hB, own_step (own_step h.e hs h.dj) hs2 (fun c hc => by have := (own_ge h.e c hc).1; simp; omega),
    own_step hm hs2 (fun c hc => by have := (own_ge hm c hc).1; simp; omega), h.dj.grow hn (own_lt h.e)⟩
theorem CcI.setB (h : CcI w4 b m q ve vd E D w) (hb : b < w4.heap.size) {m' q' : Bool} (hs : Step [b] w w') (hB : Blk w'.heap b 56 [ve, vd, .bool m', .bool q']) : CcI w4 b m' q' ve vd E D w' :=
  ⟨h.st.trans' hs, hB, own_step h.e hs (fun c hc => by have := (own_ge h.e c hc).1; simp; omega), own_step h.d hs (fun c hc => by have := (own_ge h.d c hc).1; simp; omega), h.dj⟩
end
def hitQ (p : Aut) (x e : Int) (q : List Int) : Bool := decide (py q = x) && decide (0 ≤ nxt p.ed (px q) e)
theorem canX_take (p : Aut) (x e : Int) {ps : List (List Int)} {k : Nat} (h : k < ps.length) : canX p (ps.take (k + 1)) x e = (canX p (ps.take k) x e || hitQ p x e ps[k]) := by
  unfold canX hitQ
  rw [List.take_succ_eq_append_getElem h, List.any_append]; simp

set_option maxHeartbeats 4000000 in
theorem control_ok {L : List Nat} {w : World} {pva pvm pve sa sm se vt : Value} {aP aS : Aut} {qs : List TV} (hp : AutA L w.heap pva pvm pve aP) (hs : AutA L w.heap sa sm se aS) (hal : aS.al.length ≤ 32)
    (ht : Tups L w.heap vt qs) (hq : ∀ q ∈ qs, Vt [aP, aS] q.2) (hqn : qs.length ≤ 4096) (x0 : Int) :
    Ret Tryd.prog 19 [.agg #[pva, .int .i64 aP.st, pvm, pve], .agg #[sa, .int .i64 aS.st, sm, se], vt, .int .i64 x0] w fun r w' => Step [] w w' ∧ ∃ cv occ, r = .tuple #[.agg (cvCells cv).toArray, .bool occ] ∧
      cv.c = ctlD aP aS (qs.map (·.2)) x0 ∧ (∀ L' : List Nat, (∀ b ∈ L', b < w.heap.size) → CvA L' w'.heap cv) ∧ occ = (qs.map (·.2)).any fun q => decide (py q = x0) := by
  refine Ret.of_W Tryd.func19 rfl Tryd.ntmps19 Tryd.results19 (by simp) ?_
  refine exE (qs.map (·.2)) fun prs hprs => ?_
  have hpl : prs.length = qs.length := by rw [← hprs]; simp
  rw [hprs]
  refine W_seq <| W_region (by rfl) ?_
  refine xl rfl <| o_box (us := [pva, .int .i64 aP.st, pvm, pve]) rfl fun b4 w1 hs1 hb4 hB4 => xl rfl <| o_box (us := [sa, .int .i64 aS.st, sm, se]) rfl fun b5 w2 hs2 hb5 hB5 =>
    xl rfl <| o_alloc (us := [.slice none 0 0, .slice none 0 0, .bool false, .bool false]) rfl fun b8 w3 hs3 hb8 hB8 => x r_assign <| xe ?_
  refine W_seq <| W_region (by rfl) ?_
  refine xl rfl <| o_alloc (us := [.slice none 0 0, .slice none 0 0, .bool false, .bool false]) rfl fun b10 w4 hs4 hb10 hB10 => xe ?_
  refine W_seq <| W_region (by rfl) ?_
  refine x r_assign <| xe ?_
  have hz1 := hs1.size
  have hz2 := hs2.size
  have hz3 := hs3.size
  have hz4 := hs4.size
  have hl4 := hB4.lt
  have hl5 := hB5.lt
  have hl8 := hB8.lt
  have hl10 := hB10.lt
  have hW4 := ((hs1.trans hs2).trans hs3).trans hs4
  have hB44 := ((hB4.ext hs2).ext hs3).ext hs4
  have hB54 := (hB5.ext hs3).ext hs4
  have hB84 := hB8.ext hs4
  have hnew : ∀ b ∈ [b10], b ∈ L ∨ w.heap.size ≤ b := fun b hb => .inr (by simp at hb; omega)
  have hp4 : AutA [b10] w4.heap pva pvm pve aP := (hp.up hnew).ext hW4
  have hs4' : AutA [b10] w4.heap sa sm se aS := (hs.up hnew).ext hW4
  have ht4 : Tups [b10] w4.heap vt qs := (ht.up hnew).ext hW4
  have n4 : b4 ∉ [b10] := by simp; omega
  have n5 : b5 ∉ [b10] := by simp; omega
  have n8 : b8 ∉ [b10] := by simp; omega
  have hqI : ∀ k (h : k < qs.length), ∃ xi yi : Nat, qs[k].2 = [(xi : Int), (yi : Int)] ∧ prs[k]'(by omega) = [(xi : Int), (yi : Int)] := fun k h => by
    obtain ⟨xi, yi, e, _, _⟩ := Vt2 (hq _ (List.getElem_mem h))
    exact ⟨xi, yi, e, by subst hprs; simp only [List.getElem_map]; exact e⟩
  -- enabled and disabled events
  refine W_cut (α := Value × Value) [(12, 15), (17, 78)] (fun z => []) (fun z w' => CcI w4 b10 false false z.1 z.2 (aS.al.filter fun e => canX aP prs x0 e && decide (0 ≤ nxt aS.ed x0 e)) (aS.al.filter fun e => canX aP prs x0 e && !decide (0 ≤ nxt aS.ed x0 e)) w') (by rfl) ?_ ?_
  · refine W_seq <| W_region (by rfl) ?_
    refine x r_assign <| xe ?_
    refine W_block <| W_loop (α := Nat × Value × Value) [(12, 15), (17, 78)] (fun z => [(12, .int .i64 z.1)])
      (fun z w' => z.1 ≤ aS.al.length ∧ CcI w4 b10 false false z.2.1 z.2.2 ((aS.al.take z.1).filter fun e => canX aP prs x0 e && decide (0 ≤ nxt aS.ed x0 e)) ((aS.al.take z.1).filter fun e => canX aP prs x0 e && !decide (0 ≤ nxt aS.ed x0 e)) w')
      (fun z => aS.al.length - z.1) (by rfl) (0, .slice none 0 0, .slice none 0 0) ⟨rfl, trivial⟩ ⟨Nat.zero_le _, ⟨Step.refl _ _, hB10, own_nil _ _ _ _, own_nil _ _ _ _, Dj.nil' _⟩⟩ ?_
    rintro ⟨i, ve, vd⟩ g5 w5 ⟨hi, hI⟩
    simp only [] at hi hI
    have hB55 := hB54.step hI.st n5
    have ha5 := hs4'.st hI.st
    refine W_seq <| W_seq <| W_region (by rfl) ?_
    refine x r_move <| x (r_fieldB rfl) <| x (r_loadB hB55 rfl rfl) <| x (r_lenA ha5.al rfl) <| x (r_lss rfl rfl) <| xe ?_
    refine W_ifn rfl (fun h21 => ?_) (fun h21 => ?_)
    · refine W_exit ?_
      rw [List.take_of_length_le (by omega)] at hI
      exact ⟨(ve, vd), trivial, hI⟩
    have hlt : i < aS.al.length := by omega
    refine exE (cget aS.al i) fun e he => ?_
    have htk : aS.al.take (i + 1) = aS.al.take i ++ [e] := by rw [List.take_succ_eq_append_getElem hlt, cget_eq hlt, he]
    have hlE : ((aS.al.take i).filter fun e => canX aP prs x0 e && decide (0 ≤ nxt aS.ed x0 e)).length ≤ 32 := Nat.le_trans (List.length_filter_le _ _) (by simp; omega)
    have hlD : ((aS.al.take i).filter fun e => canX aP prs x0 e && !decide (0 ≤ nxt aS.ed x0 e)).length ≤ 32 := Nat.le_trans (List.length_filter_le _ _) (by simp; omega)
    refine W_skip ?_
    refine W_seq <| W_block <| W_seq <| W_region (by rfl) ?_
    refine x (r_fieldB rfl) <| x (r_loadB hB55 rfl rfl) <| x r_move <| xic (i := i) ha5.al rfl rfl hlt fun a27 h27 => ?_
    rw [he] at h27
    refine x (r_loadA h27 rfl) <| x r_assign <| xe ?_
    refine W_seq <| W_region (by rfl) ?_
    refine x r_assign <| xe ?_
    -- can
    refine W_cut (α := Unit) [(14, 15), (29, 57)] (fun z => [(14, .bool (canX aP prs x0 e))]) (fun z w' => Step [] w5 w') (by rfl) ?_ ?_
    · refine W_seq <| W_region (by rfl) ?_
      refine x r_assign <| xe ?_
      refine W_block <| W_loop (α := Nat) [(14, 15), (29, 57)] (fun z => [(14, .bool (canX aP (prs.take z) x0 e)), (15, .int .i64 z)]) (fun z w' => z ≤ qs.length ∧ Step [] w5 w') (fun z => qs.length - z) (by rfl) 0 ⟨rfl, rfl, trivial⟩ ⟨Nat.zero_le _, Step.refl _ _⟩ ?_
      rintro k g13 w13 ⟨hk, hs13⟩
      have ht13 := (ht4.st hI.st).ext hs13
      refine W_seq <| W_seq <| W_region (by rfl) ?_
      refine x r_move <| x r_move <| x (r_lenA ht13.arr rfl) <| x (r_lss rfl rfl) <| xe ?_
      refine W_ifn rfl (fun h32 => ?_) (fun h32 => ?_)
      · refine W_exit ?_
        exact ⟨(), ⟨congrArg (fun l => Value.bool (canX aP l x0 e)) (List.take_of_length_le (by omega)), trivial⟩, hs13⟩
      have hltk : k < qs.length := by omega
      have hltp : k < prs.length := by omega
      obtain ⟨xi, yi, hqe, hpe⟩ := hqI k hltk
      have hct := canX_take aP x0 e hltp
      rw [hpe] at hct
      have hqI13 : Ints [b10] w13.heap (qs[k]'hltk).1 [(xi : Int), (yi : Int)] := by rw [← hqe]; exact ht13.each _ (List.getElem_mem hltk)
      have hB413 := (hB44.step hI.st n4).ext hs13
      have hed13 := (hp4.st hI.st).ed.ext hs13
      refine exE (nxt aP.ed xi e) fun t htn => ?_
      have hhit : hitQ aP x0 e [(xi : Int), (yi : Int)] = (decide ((yi : Int) = x0) && decide (0 ≤ t)) := by rw [← htn]; rfl
      rw [hhit] at hct
      have hnx := next30_ok (va := pva) (vm := pvm) (a := aP) (hed13.ext (Step.drew [] w13)) xi e aP.st
      rw [htn] at hnx
      refine exE (canX aP (prs.take k) x0 e) fun cn hcn => ?_
      rw [hcn] at hct
      refine W_skip ?_
      refine W_cut (α := Unit) [(14, 14), (34, 57)] (fun z => [(14, .bool (canX aP (prs.take (k + 1)) x0 e))]) (fun z w' => Step [] w5 w') (by rfl) ?_ ?_
      · refine W_block ?_
        refine Or.elim (Bool.eq_false_or_eq_true cn) (fun hc => ?_) (fun hc => ?_)
        · rw [hc] at hct hcn
          refine W_draw (Step [] w13) [(0, true), (1, true), (2, true), (3, true), (4, true), (5, true), (6, true), (7, true), (8, true), (9, true), (10, true), (11, true), (12, true), (13, true), (14, true), (15, true), (16, true), (17, true), (18, true), (19, false), (20, true), (21, true), (22, true), (23, true)] Tryd.mixed (by rfl) (by kernel_rfl) (Step.drew _ _) ?_
          refine p (fun _ => r_moveV (congrArg Value.bool hcn)) <| p (fun _ => r_move) <| ps <| ps <| ps <| ps <| ps <| ps <| ps <| ps <| ps <| ps <| ps <| ps <| ps <| ps <| ps <| ps <| ps <| ps <| ps <| ps <| p (fun _ => r_pick rfl) <| p (fun _ => r_assign) <| pe ?_
          exact ⟨(), ⟨congrArg Value.bool (by rw [hct]; rfl), trivial⟩, hs13.trans (Step.drew _ _)⟩
        · rw [hc] at hct hcn
          refine W_draw (Step [] w13) [(0, true), (1, true), (2, true), (3, true), (4, true), (5, true), (6, true), (7, true), (8, true), (9, true), (10, true), (11, true), (12, true), (13, true), (14, true), (15, true), (16, true), (17, true), (18, true), (19, false), (20, true), (21, true), (22, true), (23, true)] Tryd.mixed (by rfl) (by kernel_rfl) (Step.drew _ _) ?_
          refine p (fun _ => r_moveV (congrArg Value.bool hcn)) <| p (fun _ => r_move) <| p (fun _ => r_move) <| p (fun _ => r_move) <| Lg.pig (g := tvCells) (i := k) rfl (fun _ => rfl) ht13.arr rfl rfl hltk fun a39 h39 =>
            pq (fun _ hc => r_loadA (h39.ext hc) rfl) <| pii (i := 1) rfl hqI13 rfl rfl (by simp) fun a41 h41 => pq (fun _ hc => r_loadA (h41.ext hc) rfl) <|
            p (fun _ => r_move) <| pb (fun _ => r_eql rfl rfl) (fun h44 => ?_) (fun h44 => ?_)
          · refine p (fun _ => r_move) <| pq (fun _ hc => r_loadsB (hB413.ext hc) rfl rfl) <| p (fun _ => r_move) <| p (fun _ => r_move) <| Lg.pig (g := tvCells) (i := k) rfl (fun _ => rfl) ht13.arr rfl rfl hltk fun a49 h49 =>
              pq (fun _ hc => r_loadA (h49.ext hc) rfl) <| pii (i := 0) rfl hqI13 rfl rfl (by simp) fun a51 h51 => pq (fun _ hc => r_loadA (h51.ext hc) rfl) <| p (fun _ => r_move) <|
              pk <| xf <| hnx.mono ?_
            rintro r22 w22 ⟨rfl, hs22⟩
            have hs1322 := (Step.drew [] w13).trans hs22
            refine ⟨hs1322, p (fun _ => r_geq rfl rfl) <| p (fun _ => r_pick rfl) <| p (fun _ => r_pick rfl) <| p (fun _ => r_assign) <| pe ?_⟩
            exact ⟨(), ⟨congrArg Value.bool (by rw [hct, decide_eq_true (show (yi : Int) = x0 from h44)]; rfl), trivial⟩, hs13.trans hs1322⟩
          refine p (fun _ => r_move) <| ps <| ps <| ps <| ps <| ps <| ps <| ps <| ps <| ps <| ps <| p (fun _ => r_pick rfl) <| p (fun _ => r_pick rfl) <| p (fun _ => r_assign) <| pe ?_
          exact ⟨(), ⟨congrArg Value.bool (by rw [hct, decide_eq_false (show ¬ (yi : Int) = x0 from h44)]; rfl), trivial⟩, hs13.trans (Step.drew _ _)⟩
      rintro _ g14 w14 hs14
      refine W_region (by rfl) ?_
      refine x r_move <| x (r_add rfl rfl ⟨by omega, by omega⟩) <| x r_assign <| xe ?_
      exact ⟨k + 1, by omega, ⟨rfl, rfl, trivial⟩, hltk, hs14⟩
    rintro _ g15 w15 hs15
    have hI15 := hI.ext hs15
    have hB515 := hB55.ext hs15
    refine exE (canX aP prs x0 e) fun cn hcn => ?_
    refine exE (nxt aS.ed x0 e) fun t htn => ?_
    have hnx := next30_ok (va := sa) (vm := sm) (a := aS) (ha5.ed.ext hs15) x0 e aS.st
    rw [htn] at hnx
    have hfE : (aS.al.take (i + 1)).filter (fun e => canX aP prs x0 e && decide (0 ≤ nxt aS.ed x0 e)) = if (cn && decide (0 ≤ t)) = true then ((aS.al.take i).filter fun e => canX aP prs x0 e && decide (0 ≤ nxt aS.ed x0 e)) ++ [e] else (aS.al.take i).filter fun e => canX aP prs x0 e && decide (0 ≤ nxt aS.ed x0 e) := by
      rw [htk, filter_snoc, hcn, htn]
    have hfD : (aS.al.take (i + 1)).filter (fun e => canX aP prs x0 e && !decide (0 ≤ nxt aS.ed x0 e)) = if (cn && !decide (0 ≤ t)) = true then ((aS.al.take i).filter fun e => canX aP prs x0 e && !decide (0 ≤ nxt aS.ed x0 e)) ++ [e] else (aS.al.take i).filter fun e => canX aP prs x0 e && !decide (0 ≤ nxt aS.ed x0 e) := by
      rw [htk, filter_snoc, hcn, htn]
    refine W_cut (α := Unit) [(58, 65)] (fun z => [(65, .bool (cn && decide (0 ≤ t)))]) (fun z w' => Step [] w15 w') (by rfl) ?_ ?_
    · refine Or.elim (Bool.eq_false_or_eq_true cn) (fun hc => ?_) (fun hc => ?_)
      · refine W_region (by rfl) ?_
        refine x (r_moveV (congrArg Value.bool (hcn.trans hc))) <| x r_move <| x (r_loadsB hB515 rfl rfl) <| x r_move <| x r_move <| xl rfl <| xf <| hnx.mono ?_
        rintro r14 w16 ⟨rfl, hs16⟩
        refine x (r_geq rfl rfl) <| x (r_pick rfl) <| xe ?_
        exact ⟨(), ⟨congrArg Value.bool (by rw [hc]; rfl), trivial⟩, hs16⟩
      · refine W_region (by rfl) ?_
        refine x (r_moveV (congrArg Value.bool (hcn.trans hc))) <| x r_move <| xs rfl <| xs rfl <| xs rfl <| xs rfl <| xs rfl <| x (r_pick rfl) <| xe ?_
        exact ⟨(), ⟨congrArg Value.bool (by rw [hc]; rfl), trivial⟩, Step.refl _ _⟩
    rintro _ g16 w16 hs16
    have hI16 := hI15.ext hs16
    refine W_cond rfl (fun h65 => ?_) (fun h65 => ?_)
    · have h65' : (cn && decide (0 ≤ t)) = true := h65
      rw [if_pos h65'] at hfE
      rw [if_neg (by cases cn <;> simp at h65' ⊢; omega)] at hfD
      refine W_region (by rfl) ?_
      refine x (r_fieldB rfl) <| x (r_loadB hI16.B rfl rfl) <| x r_move <| xl rfl <| o_lits (us := [[.int .i64 e]]) rfl rfl (by decide) (by simp) ⟨rfl, rfl, trivial⟩ fun b69 w17 hs17 hb69 hB69 => ?_
      have hI17 := hI16.ext hs17
      refine xl rfl <| o_app (news := [.int .i64 e]) (L := []) hI17.e rfl rfl rfl (hB69.at (by simp)) (by simp [Value.oneCell']) (by omega) hI17.st.size fun v18 w18 ho18 hs18 hn18 => ?_
      have ho18' := IntsO.snoc ho18
      refine x (r_fieldB rfl) <| xl rfl <| o_store (hI17.B.step hs18 (own_notin hI17.e hl10)) rfl rfl (by simp) (IntsO.ints (L := []) ho18' (by simp; omega) (by simp)).one fun w19 hs19 hB19 =>
        xe ?_
      refine W_region (by rfl) ?_
      refine x r_move <| x (r_add rfl rfl ⟨by omega, by omega⟩) <| x r_assign <| xe ?_
      refine ⟨(i + 1, v18, vd), by simp only []; omega, ⟨rfl, trivial⟩, hlt, ?_⟩
      simp only []
      rw [hfE, hfD]; exact hI17.setE hl10 hs18 ho18' hn18 hs19 hB19
    have h65' : (cn && decide (0 ≤ t)) = false := h65
    rw [if_neg (by rw [h65']; simp)] at hfE
    refine W_seq <| W_region (by rfl) ?_
    refine x (r_moveV (congrArg Value.bool hcn)) <| xe ?_
    refine W_cond rfl (fun h72 => ?_) (fun h72 => ?_)
    rotate_left
    · rw [if_neg (by rw [h72]; simp)] at hfD
      refine W_skip ?_
      refine W_region (by rfl) ?_
      refine x r_move <| x (r_add rfl rfl ⟨by omega, by omega⟩) <| x r_assign <| xe ?_
      refine ⟨(i + 1, ve, vd), by simp only []; omega, ⟨rfl, trivial⟩, hlt, ?_⟩
      simp only []
      rw [hfE, hfD]; exact hI16
    rw [if_pos (by rw [h72] at h65' ⊢; simpa using h65')] at hfD
    refine W_region (by rfl) ?_
    refine x (r_fieldB rfl) <| x (r_loadB hI16.B rfl rfl) <| x r_move <| xl rfl <| o_lits (us := [[.int .i64 e]]) rfl rfl (by decide) (by simp) ⟨rfl, rfl, trivial⟩ fun b69 w17 hs17 hb69 hB69 => ?_
    have hI17 := hI16.ext hs17
    refine xl rfl <| o_app (news := [.int .i64 e]) (L := []) hI17.d rfl rfl rfl (hB69.at (by simp)) (by simp [Value.oneCell']) (by omega) hI17.st.size fun v18 w18 ho18 hs18 hn18 => ?_
    have ho18' := IntsO.snoc ho18
    refine x (r_fieldB rfl) <| xl rfl <| o_store (hI17.B.step hs18 (own_notin hI17.d hl10)) rfl rfl (by simp) (IntsO.ints (L := []) ho18' (by simp; omega) (by simp)).one fun w19 hs19 hB19 =>
      xe ?_
    refine W_region (by rfl) ?_
    refine x r_move <| x (r_add rfl rfl ⟨by omega, by omega⟩) <| x r_assign <| xe ?_
    refine ⟨(i + 1, ve, v18), by simp only []; omega, ⟨rfl, trivial⟩, hlt, ?_⟩
    simp only []
    rw [hfE, hfD]; exact hI17.setD hl10 hs18 ho18' hn18 hs19 hB19
  rintro ⟨ve, vd⟩ g5 w5 hI5
  simp only [] at hI5
  refine exE (aS.al.filter fun e => canX aP prs x0 e && decide (0 ≤ nxt aS.ed x0 e)) fun E hE => ?_
  refine exE (aS.al.filter fun e => canX aP prs x0 e && !decide (0 ≤ nxt aS.ed x0 e)) fun D hD => ?_
  have hlE : E.length ≤ 32 := by rw [← hE]; exact Nat.le_trans (List.length_filter_le _ _) hal
  have hlD : D.length ≤ 32 := by rw [← hD]; exact Nat.le_trans (List.length_filter_le _ _) hal
  rw [hE, hD] at hI5
  refine W_seq <| W_seq <| W_region (by rfl) ?_
  refine x r_assign <| xe ?_
  refine W_block <| W_loop (α := Nat) [(11, 11), (16, 16), (79, 106)] (fun z => [(11, .bool ((prs.take z).any fun q => decide (py q = x0))), (16, .int .i64 z)])
    (fun z w' => z ≤ qs.length ∧ CcI w4 b10 false ((prs.take z).any fun q => decide (py q = x0) && decide (px q ∈ aP.mr)) ve vd E D w') (fun z => qs.length - z) (by rfl) 0 ⟨rfl, rfl, trivial⟩ ⟨Nat.zero_le _, hI5⟩ ?_
  rintro k g6 w6 ⟨hk, hI⟩
  have ht6 := ht4.st hI.st
  have hB46 := hB44.step hI.st n4
  have hB56 := hB54.step hI.st n5
  have hB86 := hB84.step hI.st n8
  refine W_seq <| W_seq <| W_region (by rfl) ?_
  refine x r_move <| x r_move <| x (r_lenA ht6.arr rfl) <| x (r_lss rfl rfl) <| xe ?_
  refine W_ifn rfl (fun h82 => ?_) (fun h82 => ?_)
  · have htk : prs.take k = prs := List.take_of_length_le (by omega)
    rw [htk] at hI
    refine exE (prs.any fun q => decide (py q = x0)) fun oc hoc => ?_
    refine exE (prs.any fun q => decide (py q = x0) && decide (px q ∈ aP.mr)) fun pz hpz => ?_
    rw [hpz] at hI
    have hoc' : ((prs.take k).any fun q => decide (py q = x0)) = oc := by rw [htk]; exact hoc
    have hmr := (hs4'.st hI.st).mr
    have hveA := IntsO.ints (L := []) hI.e (by omega) (by simp)
    have hvdA := IntsO.ints (L := []) hI.d (by omega) (by simp)
    refine W_exit ?_
    refine W_cut (α := Unit) [(107, 114)] (fun z => []) (fun z w' => CcI w4 b10 (oc && decide (x0 ∈ aS.mr)) pz ve vd E D w') (by rfl) ?_ ?_
    · refine Or.elim (Bool.eq_false_or_eq_true oc) (fun hc => ?_) (fun hc => ?_)
      · refine W_region (by rfl) ?_
        refine x (r_moveV (congrArg Value.bool (hoc'.trans hc))) <| x r_move <| x (r_fieldB rfl) <| x (r_loadB hB56 rfl rfl) <| x r_move <| xl rfl <| xf <| (has30_ok hmr x0).mono ?_
        rintro r7 w7 ⟨rfl, rfl⟩
        refine x (r_pick rfl) <| x (r_fieldB rfl) <| xl rfl <| o_store (u := .bool (decide (x0 ∈ aS.mr))) hI.B rfl rfl (by simp) rfl fun w8 hs8 hB8' => xe ?_
        exact ⟨(), trivial, by rw [hc]; exact hI.setB hl10 hs8 hB8'⟩
      · refine W_region (by rfl) ?_
        refine x (r_moveV (congrArg Value.bool (hoc'.trans hc))) <| x r_move <| xs rfl <| xs rfl <| xs rfl <| xs rfl <| x (r_pick rfl) <| x (r_fieldB rfl) <| xl rfl <| o_store (u := .bool false) hI.B rfl rfl (by simp) rfl fun w8 hs8 hB8' => xe ?_
        exact ⟨(), trivial, by rw [hc]; exact hI.setB hl10 hs8 hB8'⟩
    rintro _ g9 w9 hI9
    refine W_seq <| W_region (by rfl) ?_
    refine x (r_loadsB hI9.B rfl rfl) <| x r_move <| xl rfl <| o_stores (us := [ve, vd, .bool (oc && decide (x0 ∈ aS.mr)), .bool pz]) (hB84.step hI9.st n8) rfl rfl rfl rfl ⟨hveA.one, hvdA.one, rfl, rfl, trivial⟩ fun w10 hs10 hB10' => x r_assign <| xe ?_
    refine W_ret ⟨[.agg #[ve, vd, .bool (oc && decide (x0 ∈ aS.mr)), .bool pz], .bool oc], ⟨⟨_, rfl, run_loadVar_ag rfl (hB10'.at (L := []) (by simp)).cells⟩, congrArg Value.bool hoc', trivial⟩, (hW4.then1 hI9.st (by omega)).then1 hs10 (by omega),
      ⟨ve, vd, ⟨E, D, oc && decide (x0 ∈ aS.mr), pz⟩⟩, oc, rfl, by unfold ctlD; rw [hE, hD, hoc, hpz], fun L' hL' => ⟨?_, ?_⟩, hoc.symm⟩
    · exact IntsO.ints (own_step hI9.e hs10 (fun c hc => by have := (own_ge hI9.e c hc).1; simp; omega)) (by show E.length ≤ _; omega) (fun b hb => by have := hL' b hb; omega)
    · exact IntsO.ints (own_step hI9.d hs10 (fun c hc => by have := (own_ge hI9.d c hc).1; simp; omega)) (by show D.length ≤ _; omega) (fun b hb => by have := hL' b hb; omega)
  have hltk : k < qs.length := by omega
  have hltp : k < prs.length := by omega
  obtain ⟨xi, yi, hqe, hpe⟩ := hqI k hltk
  have hqI6 : Ints [b10] w6.heap (qs[k]'hltk).1 [(xi : Int), (yi : Int)] := by rw [← hqe]; exact ht6.each _ (List.getElem_mem hltk)
  have hto : ((prs.take (k + 1)).any fun q => decide (py q = x0)) = (((prs.take k).any fun q => decide (py q = x0)) || decide ((yi : Int) = x0)) := by
    rw [List.take_succ_eq_append_getElem hltp, List.any_append, hpe]; simp [py]
  have htp : ((prs.take (k + 1)).any fun q => decide (py q = x0) && decide (px q ∈ aP.mr)) = (((prs.take k).any fun q => decide (py q = x0) && decide (px q ∈ aP.mr)) || (decide ((yi : Int) = x0) && decide ((xi : Int) ∈ aP.mr))) := by
    rw [List.take_succ_eq_append_getElem hltp, List.any_append, hpe]; simp [py, px]
  refine exE ((prs.take k).any fun q => decide (py q = x0) && decide (px q ∈ aP.mr)) fun pz hpz => ?_
  rw [hpz] at hI htp
  refine W_skip ?_
  refine W_seq <| W_block <| W_seq <| W_region (by rfl) ?_
  refine x r_move <| x r_move <| xig (g := tvCells) (i := k) (fun _ => rfl) ht6.arr rfl rfl hltk fun a87 h87 => x (r_loadA h87 rfl) <| xii (i := 1) hqI6 rfl rfl (by simp) fun a89 h89 =>
    x (r_loadA h89 rfl) <| x r_move <| x (r_eql rfl rfl) <| xe ?_
  refine W_ifn rfl (fun h92 => ?_) (fun h92 => ?_)
  · have h92' : ¬ (yi : Int) = x0 := h92
    rw [decide_eq_false h92'] at hto htp
    refine W_skip ?_
    refine W_region (by rfl) ?_
    refine x r_move <| x (r_add rfl rfl ⟨by omega, by omega⟩) <| x r_assign <| xe ?_
    refine ⟨k + 1, by omega, ⟨congrArg Value.bool (by rw [hto]; simp), rfl, trivial⟩, hltk, ?_⟩
    rw [htp]; simpa using hI
  have h92' : (yi : Int) = x0 := h92
  rw [decide_eq_true h92'] at hto htp
  refine W_seq <| W_region (by rfl) ?_
  refine x r_assign <| xe ?_
  refine Or.elim (Bool.eq_false_or_eq_true pz) (fun hc => ?_) (fun hc => ?_)
  · refine W_draw (Step [] w6) [(0, true), (1, true), (2, true), (3, true), (4, true), (5, true), (6, true), (7, true), (8, true), (9, true), (10, true), (11, false), (12, true), (13, true), (14, false)] Tryd.mixed (by rfl) (by kernel_rfl) (Step.drew _ _) ?_
    refine p (fun _ => r_fieldB rfl) <| pq (fun _ h => r_loadB (u := .bool true) (hI.B.ext h) rfl (congrArg (fun b => some (Value.bool b)) hc)) <| p (fun _ => r_move) <| ps <| ps <| ps <| ps <| ps <| ps <| ps <| ps <| ps <| p (fun _ => r_pick rfl) <| p (fun _ => r_fieldB rfl) <|
      pkl (hl := by kernel_rfl) <| o_store (u := .bool true) (hI.B.ext (Step.drew _ _)) rfl rfl (by simp) rfl fun w12 hs12 hB12 => pe ?_
    have hI12 : CcI w4 b10 false (pz || decide ((xi : Int) ∈ aP.mr)) ve vd E D w12 := by rw [hc]; exact (hI.ext (Step.drew _ _)).setB hl10 hs12 hB12
    refine W_region (by rfl) ?_
    refine x r_move <| x (r_add rfl rfl ⟨by omega, by omega⟩) <| x r_assign <| xe ?_
    refine ⟨k + 1, by omega, ⟨congrArg Value.bool (by rw [hto]; simp), rfl, trivial⟩, hltk, ?_⟩
    rw [htp]; simpa using hI12
  · have hmr := (hp4.st hI.st).mr
    refine W_draw (Step [] w6) [(0, true), (1, true), (2, true), (3, true), (4, true), (5, true), (6, true), (7, true), (8, true), (9, true), (10, true), (11, false), (12, true), (13, true), (14, false)] Tryd.mixed (by rfl) (by kernel_rfl) (Step.drew _ _) ?_
    refine p (fun _ => r_fieldB rfl) <| pq (fun _ h => r_loadB (u := .bool false) (hI.B.ext h) rfl (congrArg (fun b => some (Value.bool b)) hc)) <| p (fun _ => r_move) <| p (fun _ => r_fieldB rfl) <|
      pq (fun _ h => r_loadB (hB46.ext h) rfl rfl) <| p (fun _ => r_move) <| p (fun _ => r_move) <| Lg.pig (g := tvCells) (i := k) rfl (fun _ => rfl) ht6.arr rfl rfl hltk fun a100 h100 =>
      pq (fun _ h => r_loadA (h100.ext h) rfl) <| pii (i := 0) rfl hqI6 rfl rfl (by simp) fun a102 h102 => pq (fun _ h => r_loadA (h102.ext h) rfl) <|
      pk <| xf <| (has30_ok (hmr.ext (Step.drew [] w6)) (xi : Int)).mono ?_
    rintro r11 w11 ⟨rfl, rfl⟩
    refine ⟨Step.drew _ _, p (fun _ => r_pick rfl) <| p (fun _ => r_fieldB rfl) <|
      pkl (hl := by kernel_rfl) <| o_store (u := .bool (decide ((xi : Int) ∈ aP.mr))) (hI.B.ext (Step.drew _ _)) rfl rfl (by simp) rfl fun w12 hs12 hB12 => pe ?_⟩
    have hI12 : CcI w4 b10 false (pz || decide ((xi : Int) ∈ aP.mr)) ve vd E D w12 := by rw [hc]; exact (hI.ext (Step.drew _ _)).setB hl10 hs12 hB12
    refine W_region (by rfl) ?_
    refine x r_move <| x (r_add rfl rfl ⟨by omega, by omega⟩) <| x r_assign <| xe ?_
    refine ⟨k + 1, by omega, ⟨congrArg Value.bool (by rw [hto]; simp), rfl, trivial⟩, hltk, ?_⟩
    rw [htp]; simpa using hI12
end Go.Proofs.YtfhgnlkdcdlblaaDoor

/- The product of a plant and a supervisor of at most 5 states is found. -/
namespace Go.Proofs.YtfhgnlkdcdlblaaDoor
open Go.Lg

def encT (t : List Int) : Int := px t * 5 + py t
theorem tup_small {aP aS : Aut} (h : Pb aP aS) {s : Sy} (hs : SyOk [aP, aS] s) (hd : s.tup.Nodup) : s.tup.length ≤ 25 := by
  have h1 : (s.tup.map encT).Nodup := by
    unfold List.Nodup
    rw [List.pairwise_map]
    refine List.Pairwise.imp_of_mem (fun {a b} ha hb hne => ?_) hd
    obtain ⟨x1, y1, rfl, p1, q1⟩ := Vt2 (hs.v a ha)
    obtain ⟨x2, y2, rfl, p2, q2⟩ := Vt2 (hs.v b hb)
    intro e
    have e' : (x1 : Int) * 5 + y1 = x2 * 5 + y2 := e
    have := h.p5
    have := h.s5
    have ex : x1 = x2 := by omega
    have ey : y1 = y2 := by omega
    exact hne (by rw [ex, ey])
  have h2 := pig 25 (s.tup.map encT) h1 (fun z hz => by
    obtain ⟨t, ht, rfl⟩ := List.mem_map.1 hz
    obtain ⟨x1, y1, rfl, p1, q1⟩ := Vt2 (hs.v t ht)
    have := h.p5
    have := h.s5
    show 0 ≤ (x1 : Int) * 5 + y1 ∧ (x1 : Int) * 5 + y1 < 25
    omega)
  simpa using h2
theorem syE_some {aP aS : Aut} (h : Pb aP aS) {s : Sy} (hs : SyOk [aP, aS] s) (hd : s.tup.Nodup) (i : Nat) (t : List Int) (v : Int) : ∃ s', syE [aP, aS] i t s v = some s' ∧ s'.tup.Nodup := by
  have hl := tup_small h hs hd
  unfold syE
  cases stepT v [aP, aS] t with
  | none => exact ⟨s, rfl, hd⟩
  | some u =>
    simp only []
    by_cases hu : u ∈ s.tup
    · rw [if_pos hu]; exact ⟨_, rfl, hd⟩
    · rw [if_neg hu, if_neg (by omega)]
      refine ⟨_, rfl, ?_⟩
      simp only []
      rw [List.nodup_append]
      exact ⟨hd, by simp, fun a ha b hb => by simp only [List.mem_singleton] at hb; subst hb; exact fun e => hu (by rw [← e]; exact ha)⟩
theorem syEs_some {aP aS : Aut} (h : Pb aP aS) (ho : ∀ a ∈ [aP, aS], Okay a) {i : Nat} {t : List Int} (ht : Vt [aP, aS] t) : ∀ (vs : List Int) (s : Sy), SyOk [aP, aS] s → s.tup.Nodup → ∃ s', syEs [aP, aS] i t vs s = some s' ∧ s'.tup.Nodup
  | [], s, _, hd => ⟨s, rfl, hd⟩
  | v :: vs, s, hs, hd => by
    obtain ⟨s1, h1, h2⟩ := syE_some h hs hd i t v
    obtain ⟨s2, h3, h4⟩ := syEs_some h ho ht vs s1 (syE_ok ho hs ht h1) h2
    exact ⟨s2, by rw [syEs, h1]; exact h3, h4⟩
theorem syL_some {aP aS : Aut} (h : Pb aP aS) (ho : ∀ a ∈ [aP, aS], Okay a) : ∀ (f i : Nat) (s : Sy), SyOk [aP, aS] s → s.tup.Nodup → ∃ s', syL [aP, aS] f i s = some s'
  | 0, _, s, _, _ => ⟨s, rfl⟩
  | f + 1, i, s, hs, hd => by
    rw [syL]
    split
    · rename_i hi
      have hv : Vt [aP, aS] (syT s i) := hs.v _ (by unfold syT; simp [List.getD, hi])
      have hm : (syMark [aP, aS] i (syT s i) s).tup = s.tup := by unfold syMark; split <;> rfl
      obtain ⟨s1, h1, h2⟩ := syEs_some h ho hv (evs [aP, aS]) (syMark [aP, aS] i (syT s i) s) (syMark_ok hs) (by rw [hm]; exact hd)
      obtain ⟨s2, h3⟩ := syL_some h ho f (i + 1) s1 (syEs_ok ho hv _ _ _ (syMark_ok hs) h1) h2
      exact ⟨s2, by rw [h1]; exact h3⟩
    · exact ⟨s, rfl⟩
theorem Pb.okay {aP aS : Aut} (h : Pb aP aS) : ∀ a ∈ [aP, aS], Okay a := fun a ha => by
  simp only [List.mem_cons, List.not_mem_nil, or_false] at ha
  rcases ha with rfl | rfl
  · exact h.p
  · exact h.s
theorem Pb.opE0 {aP aS : Aut} (h : Pb aP aS) : opE aP aS = 0 := by
  have hc : opC aP aS = 0 := by
    unfold opC
    rw [if_neg (by simp [(ckA_zero aP).2 h.p]), if_neg (by simp [(ckA_zero aS).2 h.s]), if_pos]
    refine List.eq_nil_iff_forall_not_mem.2 fun x hx => ?_
    have := (mem_mrg h.s.ali h.p.ali x).1 hx
    simp only [Bool.and_eq_true, decide_eq_true_eq, Bool.not_eq_true', decide_eq_false_iff_not] at this
    exact this.2.2 (h.sub x this.2.1)
  unfold opE
  rw [if_neg (by simp [hc])]
  have hsome : ∃ z, sync [aP, aS] = some z := by
    unfold sync
    split
    · exact ⟨_, rfl⟩
    · rename_i hz
      obtain ⟨s, hs⟩ := syL_some h h.okay 4096 0 (sy0 [aP, aS]) (sy0_ok h.okay hz) (by simp [sy0])
      rw [hs]; exact ⟨_, rfl⟩
  obtain ⟨z, hz⟩ := hsome
  rw [hz]
theorem Pb.st100 {aP aS : Aut} (h : Pb aP aS) : Okay aP → Okay aS → aP.st ≤ 100 ∧ aS.st ≤ 100 := fun _ _ => ⟨by have := h.p5; omega, by have := h.s5; omega⟩
/-- A Control of the definition is consistent with itself. -/
theorem ctlD_self (p s : Aut) (pairs : List (List Int)) (x : Int) (hi : Inc s.al) : consC (ctlD p s pairs x) (ctlD p s pairs x) = true := by
  have i1 : Inc (ctlD p s pairs x).en := List.Pairwise.sublist List.filter_sublist hi
  have i2 : Inc (ctlD p s pairs x).dis := List.Pairwise.sublist List.filter_sublist hi
  rw [consC_law i1 i2 i1 i2]
  unfold lawC
  have h1 : (ctlD p s pairs x).en.all (fun y => !decide (y ∈ (ctlD p s pairs x).dis)) = true := by
    rw [List.all_eq_true]
    intro y hy
    simp only [Bool.not_eq_true', decide_eq_false_iff_not]
    intro hd
    simp only [ctlD, List.mem_filter, Bool.and_eq_true, decide_eq_true_eq, Bool.not_eq_true', decide_eq_false_iff_not] at hy hd
    exact hd.2.2 hy.2.2
  rw [h1]
  simp
end Go.Proofs.YtfhgnlkdcdlblaaDoor

/- The function SupervisorMaps returns true. -/
namespace Go.Lg
section
variable {P : Program} {f : Fr} {w : World} {d : Option Nat} {ty : Nat} {ps : String} {af : Array Edge} {gd : Option (Nat × Bool)}
theorem r_neqF {t t' : Nat} {x y : Operand} {k : IntKind} {a b : Int} (hx : ev f x = .int k a) (hy : ev f y = .int k b) (h : a = b) :
    (execOp (ev f) ⟨d, .binOp .neq t x y t', ty, ps, af, gd⟩).run P w = .ok (.value (.bool false)) w := by
  rw [r_neq hx hy, decide_eq_false (fun e => e h)]
end
end Go.Lg
namespace Go.Proofs.YtfhgnlkdcdlblaaDoor
open Go.Lg

theorem Pb.opC0 {aP aS : Aut} (h : Pb aP aS) : opC aP aS = 0 := by
  have := h.opE0
  unfold opE at this
  split at this
  · rename_i h1; exact absurd this h1
  · rename_i h1; exact Decidable.not_not.1 h1
theorem AutF_comp {N : Nat} {H : Array Obj} {va vm ve : Value} {n : Int} {a : Aut} (h : AutF N H (.agg #[va, .int .i64 n, vm, ve]) a) : n = a.st ∧ ∀ L : List Nat, (∀ b ∈ L, b < N) → AutA L H va vm ve a := by
  obtain ⟨x1, x2, x3, e, h⟩ := h
  simp only [Value.agg.injEq, Array.mk.injEq, List.cons.injEq, and_true, Value.int.injEq, true_and] at e
  obtain ⟨rfl, rfl, rfl, rfl⟩ := e
  exact ⟨rfl, h⟩

set_option maxHeartbeats 4000000 in
theorem lawMaps_ok {ns : List Nat} (hn : ns.length = 57) (hns : ∀ n ∈ ns, n < 256) (w : World) :
    Ret Tryd.prog 4 [.agg (bys ns).toArray] w fun r w' => r = .bool true ∧ Step [] w w' := by
  refine Ret.of_W Tryd.func4 rfl Tryd.ntmps4 Tryd.results4 (by simp) ?_
  refine W_seq <| W_region (by rfl) ?_
  refine xl rfl <| o_box (us := bys ns) rfl fun b1 w1 hs1 hb1 hB1 => x r_assign <| xe ?_
  refine W_seq <| W_seq <| W_region (by rfl) ?_
  refine xl rfl <| xf <| (known_ok w1).mono ?_
  rintro r2 w2 ⟨rfl, hs2⟩
  refine x (r_not rfl) <| xe ?_
  refine W_false rfl ?_
  refine W_skip ?_
  refine W_seq <| W_region (by rfl) ?_
  refine x (r_loadsB (hB1.ext hs2) rfl (by simp [bys]; exact hn)) <| xl rfl <| xf <| (make26_ok hn hns).mono ?_
  rintro r3 w3 ⟨hs3, vp, vs, vu, aP, aS, u, rfl, hFP, hFS, hPb, huo⟩
  obtain ⟨pva, pvm, pve, rfl, hPA⟩ := hFP
  obtain ⟨sva, svm, sve, rfl, hSA⟩ := hFS
  have hP0 := hPA [] (by simp)
  have hS0 := hSA [] (by simp)
  have hE0 := hPb.opE0
  obtain ⟨o1, o2, _, hv, hl⟩ := opE_zero hE0
  have hW3 := (hs1.trans hs2).trans hs3
  refine x r_move <| x (r_extract rfl rfl) <| x (r_extract rfl rfl) <|
    x (r_extract rfl rfl) <| xl rfl <| o_alloc (us := [.slice none 0 0, .int .i64 0, .slice none 0 0, .slice none 0 0]) rfl fun b3 w4 hs4 hb3 hB3 => xl rfl <| o_alloc (us := [.slice none 0 0, .int .i64 0, .slice none 0 0, .slice none 0 0]) rfl fun b4 w5 hs5 hb4 hB4 =>
    xl rfl <| o_stores (us := [pva, .int .i64 aP.st, pvm, pve]) (hB3.ext hs5) rfl rfl rfl rfl ⟨hP0.al.one, rfl, hP0.mr.one, hP0.ed.one, trivial⟩ fun w6 hs6 hB36 => ?_
  have hl3 := hB3.lt
  have hz4 := hs4.size
  have hB46 := hB4.step hs6 (by simp; omega)
  refine xl rfl <| o_stores (us := [sva, .int .i64 aS.st, svm, sve]) hB46 rfl rfl rfl rfl ⟨hS0.al.one, rfl, hS0.mr.one, hS0.ed.one, trivial⟩ fun w7 hs7 hB47 => x r_assign <| xe ?_
  have hB37 := hB36.step hs7 (by simp; omega)
  have hs37 : Step [] w3 w7 := ((hs4.trans hs5).then1 hs6 hb3).then1 hs7 (by omega)
  have hW7 := hW3.trans hs37
  have hP7 := hP0.ext hs37
  have hS7 := hS0.ext hs37
  refine W_seq <| W_region (by rfl) ?_
  refine x (r_loadsB hB37 rfl rfl) <| x (r_loadsB hB47 rfl rfl) <| xl rfl <| xf <| (Loop_ok hP7 hS7 hPb.st100).mono ?_
  rintro r8 w8 ⟨hs8, va, hr8, _, hga⟩
  rw [hE0] at hr8
  subst hr8
  obtain ⟨ava, avm, ave, rfl, hAA⟩ := hga hE0
  have hA8 := hAA [] (by simp)
  refine x r_move <| x (r_extract rfl rfl) <|
    x (r_extract rfl rfl) <| xl rfl <| o_alloc (us := [.slice none 0 0, .int .i64 0, .slice none 0 0, .slice none 0 0]) rfl fun b6 w9 hs9 hb6 hB6 => xl rfl <| o_stores (us := [ava, .int .i64 (opA aP aS).st, avm, ave]) hB6 rfl rfl rfl rfl ⟨hA8.al.one, rfl, hA8.mr.one, hA8.ed.one, trivial⟩ fun w10 hs10 hB610 => x r_assign <|
    xe ?_
  have hs810 : Step [] w8 w10 := hs9.then1 hs10 hb6
  have hs710 := hs8.trans hs810
  refine W_seq <| W_region (by rfl) ?_
  refine x (r_loadsB (hB37.ext hs710) rfl rfl) <| x (r_loadsB (hB47.ext hs710) rfl rfl) <| xl rfl <| xf <| (Map_ok (hP7.ext hs710) (hS7.ext hs710) hPb.st100).mono ?_
  rintro r11 w11 ⟨hs11, vl, hr11, _, hgl⟩
  rw [hE0] at hr11
  subst hr11
  obtain ⟨⟨cs, hcs, hCs⟩, hCb⟩ := hgl hE0
  have hC11 := hCs [] (by simp)
  have hcl : cs.length = aS.st.toNat := by have := ctls_len aP aS (opQ aP aS); rw [← hcs] at this; simpa using this
  refine x r_move <| x (r_extract rfl rfl) <|
    x (r_extract rfl rfl) <| x r_assign <| x r_assign <| xe ?_
  have hs711 := hs710.trans hs11
  refine W_seq <| W_region (by rfl) ?_
  refine x (r_loadsB (hB37.ext hs711) rfl rfl) <| x (r_loadsB (hB47.ext hs711) rfl rfl) <| xl rfl <| o_lits (us := [avCells ⟨pva, pvm, pve, aP⟩, avCells ⟨sva, svm, sve, aS⟩]) rfl rfl (by decide) (by exact (by decide : 2 * 4 ≤ 1000000)) ⟨rfl, rfl, rfl, rfl, trivial⟩ fun b39 w12 hs12 hb39 hB39 => ?_
  have hs712 := hs711.trans hs12
  have hAu : Auts [] w12.heap (.slice (some ⟨b39, 0, none⟩) 2 2) [⟨pva, pvm, pve, aP⟩, ⟨sva, svm, sve, aS⟩] := by
    refine ⟨hB39.arr (by simp) rfl (by simp) (by simp), fun q hq => ?_⟩
    simp only [List.mem_cons, List.not_mem_nil, or_false] at hq
    rcases hq with rfl | rfl
    · exact hP7.ext hs712
    · exact hS7.ext hs712
  refine xl rfl <| xf <| (Synchronous_ok hAu (by intro q hq; simp only [List.mem_cons, List.not_mem_nil, or_false] at hq; rcases hq with rfl | rfl; exact (hPb.st100 o1 o2).1; exact (hPb.st100 o1 o2).2)).mono ?_
  rintro r13 w13 ⟨hs13, vb, vt, c, rfl, hR⟩
  obtain ⟨hc, hO⟩ := OpRes.of hPb.opC0 hR
  rw [hE0] at hc
  subst hc
  obtain ⟨hFb, hFt⟩ := hO.good hE0
  obtain ⟨bva, bvm, bve, rfl, hBA⟩ := hFb
  obtain ⟨qs, hqe, hqs⟩ := hFt
  have hB13 := hBA [] (by simp)
  refine x r_move <| x (r_extract rfl rfl) <| x (r_extract rfl rfl) <| x (r_extract rfl rfl) <|
    xl rfl <| o_alloc (us := [.slice none 0 0, .int .i64 0, .slice none 0 0, .slice none 0 0]) rfl fun b10 w14 hs14 hb10 hB10 => xl rfl <| o_stores (us := [bva, .int .i64 (opA aP aS).st, bvm, bve]) hB10 rfl rfl rfl rfl ⟨hB13.al.one, rfl, hB13.mr.one, hB13.ed.one, trivial⟩ fun w15 hs15 hB1015 => x r_assign <| x r_assign <|
    xe ?_
  have hs1315 : Step [] w13 w15 := hs14.then1 hs15 hb10
  have hs1215 := hs13.trans hs1315
  have hs715 := hs712.trans hs1215
  have hs1115 := hs12.trans hs1215
  have hs1015 := hs11.trans hs1115
  have hs815 := hs810.trans hs1015
  have hC15 := hC11.ext hs1115
  have hT15 : Tups [] w15.heap vt qs := (hqs [] (by simp)).ext hs1315
  have hst0 := o2.st0
  have hn0 : (cs.length : Int) = aS.st := by omega
  have hs5' := hPb.s5
  have hB415 := hB47.ext hs715
  have hB315 := hB37.ext hs715
  refine W_seq <| W_seq <| W_region (by rfl) ?_
  refine x r_move <| x (r_neq rfl rfl) <| x r_move <| x r_move <| x (r_neq rfl rfl) <| x (r_pick rfl) <| x r_move <| x r_move <| x (r_neq rfl rfl) <| x (r_pick rfl) <| x r_move <| x (r_loadsB (hB610.ext hs1015) rfl rfl) <| x (r_loadsB hB1015 rfl rfl) <|
    xl rfl <| xf <| (Equal_same (hA8.ext hs815) (hB13.ext hs1315)).mono ?_
  rintro r16 w16 ⟨rfl, hs16⟩
  refine x (r_not rfl) <| x (r_pick rfl) <| x r_move <| x r_move <| x (r_lenA hC15.arr rfl) <| x (r_fieldB rfl) <|
    x (r_loadB (hB415.ext hs16) rfl rfl) <| x (r_neqF rfl rfl hn0) <| x (r_pick rfl) <| xe ?_
  refine W_false rfl ?_
  refine W_skip ?_
  have hW16 := (hW7.trans hs715).trans hs16
  refine W_seq <| W_seq <| W_region (by rfl) ?_
  refine x r_assign <| xe ?_
  refine W_block <| W_loop (α := Nat) [(2, 2), (13, 15), (67, 99)] (fun z => [(13, .int .i64 z)]) (fun z w' => z ≤ cs.length ∧ Step [] w15 w') (fun z => cs.length - z) (by rfl) 0 ⟨rfl, trivial⟩ ⟨Nat.zero_le _, hs16⟩ ?_
  rintro k g18 w18 ⟨hk, hs18⟩
  have hC18 := hC15.ext hs18
  refine W_seq <| W_seq <| W_region (by rfl) ?_
  refine x r_move <| x r_move <| x (r_lenA hC18.arr rfl) <| x (r_lss rfl rfl) <| xe ?_
  refine W_ifn rfl (fun h70 => ?_) (fun h70 => ?_)
  · refine W_exit ?_
    refine W_seq <| W_region (by rfl) ?_
    refine x r_assign <| xe ?_
    exact W_ret ⟨[.bool true], ⟨rfl, trivial⟩, rfl, (hW7.trans hs715).trans hs18⟩
  have hlt : k < cs.length := by omega
  have hcd : (cs[k]'hlt).c = ctlD aP aS (opQ aP aS) k := by rw [← lget_cv hcs hlt]; exact ctls_def o1 o2 hv k (by omega)
  have hCk := hC18.each _ (List.getElem_mem hlt)
  have hLk := hCb _ (by rw [← hcs]; exact List.mem_map_of_mem (List.getElem_mem hlt))
  refine exE (cs[k]'hlt) fun ck hck => ?_
  rw [hck] at hcd hCk hLk
  have hqsl : qs.length ≤ 4096 := by rw [← hqe] at hl; simpa using hl
  refine W_skip ?_
  refine W_seq <| W_block <| W_seq <| W_region (by rfl) ?_
  refine x (r_loadsB (hB315.ext hs18) rfl rfl) <| x (r_loadsB (hB415.ext hs18) rfl rfl) <| x r_move <| x r_move <| xl rfl <| xf <| (control_ok ((hP7.ext hs715).ext hs18) ((hS7.ext hs715).ext hs18) o2.al_le (hT15.ext hs18) (fun q hq => hv q.2 (by rw [← hqe]; exact List.mem_map_of_mem hq)) hqsl k).mono ?_
  rintro r19 w19 ⟨hs19, cv, oc, rfl, hce, hcvA, _⟩
  rw [hqe, ← hcd] at hce
  have hcv := hcvA [] (by simp)
  refine x r_move <| x (r_extract rfl rfl) <| x (r_extract rfl rfl) <| xl rfl <| o_alloc (us := [.slice none 0 0, .slice none 0 0, .bool false, .bool false]) rfl fun b14 w20 hs20 hb14 hB14 => xl rfl <| o_stores (us := cvCells cv) hB14 rfl rfl rfl rfl ⟨hcv.en.one, hcv.dis.one, rfl, rfl, trivial⟩ fun w21 hs21 hB1421 =>
    x r_assign <| xe ?_
  have hs1921 : Step [] w19 w21 := hs20.then1 hs21 hb14
  have hs1821 := hs19.trans hs1921
  have hC21 := hC18.ext hs1821
  have hC21k := hCk.ext hs1821
  have hself : consC ck.c ck.c = true := by rw [hcd]; exact ctlD_self aP aS _ _ o2.ali
  refine W_seq <| W_draw (Step [] w21) [(0, true), (1, true), (2, true), (3, true), (4, true), (5, false), (6, true), (7, true), (8, true), (9, true), (10, true), (11, true), (12, true), (13, true), (14, true), (15, true), (16, false), (17, true), (18, true)] Tryd.mixed (by rfl) (by kernel_rfl) (Step.drew _ _) ?_
  refine p (fun _ => r_move) <| p (fun _ => r_move) <| Lg.pig (g := cvCells) (i := k) rfl cv_len hC21.arr rfl rfl hlt fun a83 h83 => ?_
  rw [hck] at h83
  refine pq (fun _ hc => r_loadsA (h83.ext hc) rfl rfl) <|
    pq (fun _ hc => r_loadsB (hB1421.ext hc) rfl rfl) <| pk <| xf <| (same_ok (hC21k.ext (Step.drew _ _)) ((hcv.ext hs1921).ext (Step.drew _ _)) hce.symm).mono ?_
  rintro r22 w22 ⟨rfl, hs22⟩
  have hs2122 := (Step.drew [] w21).trans hs22
  refine ⟨hs2122, p (fun _ => r_not rfl) <| p (fun _ => r_move) <|
    p (fun _ => r_move) <| p (fun _ => r_move) <| Lg.pig (g := cvCells) (i := k) rfl cv_len hC21.arr rfl rfl hlt fun a91 h91 => ?_⟩
  rw [hck] at h91
  refine pq (fun _ hc => r_loadsA (h91.ext hc) rfl rfl) <| p (fun _ => r_move) <| p (fun _ => r_move) <| Lg.pig (g := cvCells) (i := k) rfl cv_len hC21.arr rfl rfl hlt fun a95 h95 => ?_
  rw [hck] at h95
  refine pq (fun _ hc => r_loadsA (h95.ext hc) rfl rfl) <|
    pk <| xf <| (Consistent_ok (hC21k.ext hs2122) (hC21k.ext hs2122) hLk.1 hLk.2 hLk.1 hLk.2).mono ?_
  rintro r23 w23 ⟨hr23, hs23⟩
  rw [hself] at hr23
  subst hr23
  have hs2123 := hs2122.trans hs23
  refine ⟨hs2123, p (fun _ => r_not rfl) <| p (fun _ => r_pick rfl) <| pe ?_⟩
  refine W_false rfl ?_
  refine W_skip ?_
  refine W_region (by rfl) ?_
  refine x r_move <| x (r_add rfl rfl ⟨by omega, by omega⟩) <| x r_assign <| xe ?_
  exact ⟨k + 1, by omega, ⟨rfl, trivial⟩, hlt, (hs18.trans hs1821).trans hs2123⟩
end Go.Proofs.YtfhgnlkdcdlblaaDoor
/- Contract: law30's join. -/
namespace Go.Proofs.YtfhgnlkdcdlblaaDoor
open Go.Lg

def joinC (cl : List Int) (i j : Nat) : List Int := cl.map (mgF (max (cget cl i) (cget cl j)) (min (cget cl i) (cget cl j)))
theorem joinC_len (cl : List Int) (i j : Nat) : (joinC cl i j).length = cl.length := by simp [joinC]

theorem join_ok {N : Nat} {vc : Value} {cl : List Int} {w : World} {i j : Nat} (h : IntsO 3 N w vc cl) (hi : i < cl.length) (hj : j < cl.length) (hn : cl.length ≤ 4096) :
    Ret Tryd.prog 75 [vc, .int .i64 i, .int .i64 j] w fun _ w' => Step (ob vc) w w' ∧ IntsO 3 N w' vc (joinC cl i j) := by
  refine Ret.of_W Tryd.func75 rfl Tryd.ntmps75 Tryd.results75 (by simp) ?_
  have hI := IntsO.ints (L := []) h (by omega) (by simp)
  obtain ⟨g0, cap, hvc⟩ := own_slice h (by omega)
  refine W_seq <| W_draw (Step [] w) [(0, true), (1, true), (2, true), (3, true), (4, true), (5, true), (6, true), (7, true), (8, true), (9, true), (10, true), (11, true), (12, true), (13, true), (14, true), (15, true), (16, true), (17, true), (18, true), (19, true)] Tryd.mixed (by rfl) (by kernel_rfl) (Step.drew _ _) ?_
  refine p (fun _ => r_move) <| p (fun _ => r_move) <| pic (i := i) rfl hI rfl rfl hi fun a11 h11 => pq (fun _ hc => r_loadA (h11.ext hc) rfl) <|
    p (fun _ => r_move) <| p (fun _ => r_move) <| pic (i := j) rfl hI rfl rfl hj fun a15 h15 => pq (fun _ hc => r_loadA (h15.ext hc) rfl) <| p (fun _ => r_min rfl rfl) <|
    p (fun _ => r_move) <| p (fun _ => r_move) <| pic (i := i) rfl hI rfl rfl hi fun a20 h20 => pq (fun _ hc => r_loadA (h20.ext hc) rfl) <| p (fun _ => r_move) <|
    p (fun _ => r_move) <| pic (i := j) rfl hI rfl rfl hj fun a24 h24 => pq (fun _ hc => r_loadA (h24.ext hc) rfl) <| p (fun _ => r_max rfl rfl) <|
    p (fun _ => r_assign) <| p (fun _ => r_assign) <| pe ?_
  have h1 := own_ext h (Step.drew [] w)
  refine W_seq <| W_region (by rfl) ?_
  refine x r_assign <| xe ?_
  refine W_block <| W_loop (α := Nat) [(8, 8), (27, 42)] (fun z => [(8, .int .i64 z)]) (fun z w' => z ≤ cl.length ∧ Step (ob vc) w w' ∧ IntsO 3 N w' vc ((cl.take z).map (mgF (max (cget cl i) (cget cl j)) (min (cget cl i) (cget cl j))) ++ cl.drop z)) (fun z => cl.length - z) (by rfl) 0 ⟨rfl, trivial⟩
    ⟨Nat.zero_le _, Step.drew _ _, by simpa using h1⟩ ?_
  rintro k g w2 ⟨hk, hs2, ho2⟩
  have hlen : ((cl.take k).map (mgF (max (cget cl i) (cget cl j)) (min (cget cl i) (cget cl j))) ++ cl.drop k).length = cl.length := by simp; omega
  have hI2 := IntsO.ints (L := []) ho2 (by omega) (by simp)
  have hI2n : Arr [] w2.heap vc cl.length 1 (((cl.take k).map (mgF (max (cget cl i) (cget cl j)) (min (cget cl i) (cget cl j))) ++ cl.drop k).map (.int .i64)) := by rw [← hlen]; exact hI2
  refine W_seq <| W_seq <| W_region (by rfl) ?_
  refine x r_move <| x r_move <| x (r_lenA hI2n rfl) <| x (r_lss rfl rfl) <| xe ?_
  refine W_ifn rfl (fun h30 => ?_) (fun h30 => ?_)
  · refine W_exit ?_
    rw [List.take_of_length_le (by omega), List.drop_of_length_le (by omega), List.append_nil] at ho2
    exact ⟨[], trivial, hs2, ho2⟩
  have hlt : k < cl.length := by omega
  have hgk := mg_get (a := max (cget cl i) (cget cl j)) (b := min (cget cl i) (cget cl j)) hlt
  refine W_skip ?_
  refine W_seq <| W_block <| W_seq <| W_region (by rfl) ?_
  refine x r_move <| x r_move <| xic (i := k) hI2 rfl rfl (by omega) fun a35 h35 => ?_
  rw [hgk] at h35
  refine x (r_loadA h35 rfl) <| x r_move <| x (r_eql rfl rfl) <| xe ?_
  refine W_ifn rfl (fun h38 => ?_) (fun h38 => ?_)
  · refine W_skip ?_
    refine W_region (by rfl) ?_
    refine x r_move <| x (r_add rfl rfl ⟨by omega, by omega⟩) <| x r_assign <| xe ?_
    exact ⟨k + 1, by omega, ⟨rfl, trivial⟩, hlt, hs2, by rw [← mg_same hlt h38]; exact ho2⟩
  refine W_region (by rfl) ?_
  refine x r_move <| x r_move <| x r_move <| x (r_indexB (i := k) hvc rfl hlt) <|
    xl rfl <| o_storeIO (u := min (cget cl i) (cget cl j)) ho2 (by rw [hlen]; exact hvc) rfl rfl (by omega) fun w3 hs3 ho3 => xe ?_
  refine W_region (by rfl) ?_
  refine x r_move <| x (r_add rfl rfl ⟨by omega, by omega⟩) <| x r_assign <| xe ?_
  refine ⟨k + 1, by omega, ⟨rfl, trivial⟩, hlt, hs2.trans' hs3, ?_⟩
  rw [← mg_set hlt, show mgF (max (cget cl i) (cget cl j)) (min (cget cl i) (cget cl j)) (cget cl k) = min (cget cl i) (cget cl j) by unfold mgF; rw [if_pos h38]]; exact ho3
end Go.Proofs.YtfhgnlkdcdlblaaDoor
/- The synchronous product as a graph: its edges are the steps of its tuples; it is a right automaton. -/
namespace Go.Proofs.YtfhgnlkdcdlblaaDoor
open Go.Lg

/-! ### Edges in a grid: by state, then by event -/
def grid (g : Nat → Int → Option Ed) (vs : List Int) (n : Nat) : List Ed := (List.range' 0 n).flatMap fun j => vs.filterMap (g j)
theorem grid_succ (g : Nat → Int → Option Ed) (vs : List Int) (n : Nat) : grid g vs (n + 1) = grid g vs n ++ vs.filterMap (g n) := by
  unfold grid; rw [List.range'_1_concat, List.flatMap_append]; simp
theorem eget_append (l m : List Ed) (s v : Int) : eget (l ++ m) s v = match eget l s v with | some u => some u | none => eget m s v := by
  induction l with
  | nil => rfl
  | cons e l ih =>
    rw [List.cons_append, eget, eget]
    split
    · rfl
    · exact ih
/-- An edge of the grid stands where it belongs. -/
def GridOk (g : Nat → Int → Option Ed) : Prop := ∀ j v e, g j v = some e → e.1 = (j : Int) ∧ e.2.1 = v
theorem eget_row {g : Nat → Int → Option Ed} (hg : GridOk g) (j : Nat) (v : Int) : ∀ (vs : List Int), eget (vs.filterMap (g j)) j v = if v ∈ vs then (g j v).map (·.2.2) else none
  | [] => by simp [eget]
  | u :: vs => by
    have ih := eget_row hg j v vs
    rw [List.filterMap_cons]
    cases hu : g j u with
    | none =>
      simp only []
      rw [ih]
      by_cases e : v = u
      · subst e; simp [hu]
      · simp [e]
    | some e =>
      have he := hg j u e hu
      simp only []
      rw [eget]
      by_cases e2 : u = v
      · subst e2
        rw [if_pos he, if_pos List.mem_cons_self, hu]; rfl
      · rw [if_neg (fun h => e2 (he.2.symm.trans h.2)), ih]
        simp [Ne.symm e2]
theorem eget_row_ne {g : Nat → Int → Option Ed} (hg : GridOk g) {j i : Nat} (h : j ≠ i) (v : Int) (vs : List Int) : eget (vs.filterMap (g j)) i v = none := by
  refine eget_none fun e he h2 => ?_
  obtain ⟨u, _, hu⟩ := List.mem_filterMap.1 he
  have := hg j u e hu
  omega
theorem eget_grid {g : Nat → Int → Option Ed} (hg : GridOk g) (vs : List Int) (j : Nat) (v : Int) : ∀ n, eget (grid g vs n) j v = if j < n ∧ v ∈ vs then (g j v).map (·.2.2) else none
  | 0 => by simp [grid, eget]
  | n + 1 => by
    rw [grid_succ, eget_append, eget_grid hg vs j v n]
    by_cases e : j = n
    · subst e
      rw [if_neg (by omega), eget_row hg]
      simp
    · rw [eget_row_ne hg (Ne.symm e)]
      by_cases h : j < n ∧ v ∈ vs
      · rw [if_pos h, if_pos ⟨by omega, h.2⟩]
        cases (g j v).map (·.2.2) <;> rfl
      · rw [if_neg h, if_neg (fun h2 => h ⟨by omega, h2.2⟩)]
theorem grid_mem {g : Nat → Int → Option Ed} {vs : List Int} {n : Nat} {e : Ed} (h : e ∈ grid g vs n) : ∃ j v, j < n ∧ v ∈ vs ∧ g j v = some e := by
  unfold grid at h
  obtain ⟨j, hj, h2⟩ := List.mem_flatMap.1 h
  obtain ⟨v, hv, h3⟩ := List.mem_filterMap.1 h2
  rw [List.mem_range'_1] at hj
  exact ⟨j, v, by omega, hv, h3⟩
theorem grid_pw {g : Nat → Int → Option Ed} (hg : GridOk g) {vs : List Int} (hi : Inc vs) : ∀ n, (grid g vs n).Pairwise fun x y : Ed => x.1 < y.1 ∨ (x.1 = y.1 ∧ x.2.1 < y.2.1)
  | 0 => by simp [grid]
  | n + 1 => by
    rw [grid_succ, List.pairwise_append]
    refine ⟨grid_pw hg hi n, pw_filterMap (r := (· < ·)) (fun x y u v hxy hu hv => ?_) hi, fun e he e' he' => ?_⟩
    · have h1 := hg n x u hu
      have h2 := hg n y v hv
      right; omega
    · obtain ⟨j, v, hj, _, h1⟩ := grid_mem he
      obtain ⟨v', _, h2⟩ := List.mem_filterMap.1 he'
      have h3 := hg j v e h1
      have h4 := hg n v' e' h2
      left; omega
theorem outE_append (l m : List Ed) (s : Int) : outE (l ++ m) s = outE l s ++ outE m s := by unfold outE; rw [List.filter_append]
theorem outE_grid {g : Nat → Int → Option Ed} (hg : GridOk g) (vs : List Int) (j : Nat) : ∀ n, outE (grid g vs n) j = if j < n then vs.filterMap (g j) else []
  | 0 => by simp [grid, outE]
  | n + 1 => by
    rw [grid_succ, outE_append, outE_grid hg vs j n]
    have key : ∀ e ∈ vs.filterMap (g n), e.1 = (n : Int) := fun e he => by
      obtain ⟨v, _, h2⟩ := List.mem_filterMap.1 he
      exact (hg n v e h2).1
    by_cases e : j = n
    · subst e
      rw [if_neg (by omega), if_pos (by omega), List.nil_append]
      unfold outE
      rw [List.filter_eq_self]
      intro x hx; simpa using key x hx
    · have : outE (vs.filterMap (g n)) j = [] := by
        unfold outE
        rw [List.filter_eq_nil_iff]
        intro x hx; have := key x hx; simp; omega
      rw [this, List.append_nil]
      by_cases h : j < n
      · rw [if_pos h, if_pos (by omega)]
      · rw [if_neg h, if_neg (by omega)]

/-! ### The union of the alphabets -/
theorem evs_snoc (l : List Aut) (a : Aut) : evs (l ++ [a]) = mrg (· || ·) (evs l) a.al := by unfold evs; rw [List.foldl_append]; rfl
theorem evsF (l : List Aut) : ∀ (acc : List Int), (∀ a ∈ l, Inc a.al) → Inc acc → Inc (l.foldl (fun acc a => mrg (· || ·) acc a.al) acc) ∧ ∀ x, x ∈ l.foldl (fun acc a => mrg (· || ·) acc a.al) acc ↔ x ∈ acc ∨ ∃ a ∈ l, x ∈ a.al := by
  induction l with
  | nil => intro acc _ h; exact ⟨h, fun x => by simp⟩
  | cons a l ih =>
    intro acc hl h
    have ha := hl a List.mem_cons_self
    obtain ⟨h1, h2⟩ := ih (mrg (· || ·) acc a.al) (fun b hb => hl b (List.mem_cons_of_mem _ hb)) (mrg_inc _ _ _ _ (Nat.le_refl _) h ha)
    rw [List.foldl_cons]
    refine ⟨h1, fun x => ?_⟩
    rw [h2 x, mem_mrg h ha]
    simp only [List.mem_cons, exists_eq_or_imp]
    constructor
    · rintro (⟨h3 | h3, _⟩ | h3)
      · exact .inl h3
      · exact .inr (.inl h3)
      · exact .inr (.inr h3)
    · rintro (h3 | h3 | h3)
      · exact .inl ⟨.inl h3, by simp [h3]⟩
      · exact .inl ⟨.inr h3, by simp [h3]⟩
      · exact .inr h3
theorem evs_inc {l : List Aut} (h : ∀ a ∈ l, Okay a) : Inc (evs l) := (evsF l [] (fun a ha => (h a ha).ali) (by simp)).1
theorem evs_mem {l : List Aut} (h : ∀ a ∈ l, Okay a) (x : Int) : x ∈ evs l ↔ ∃ a ∈ l, x ∈ a.al := by
  have := (evsF l [] (fun a ha => (h a ha).ali) (by simp)).2 x
  unfold evs; rw [this]; simp

/-! ### The search -/
def syF (aa : List Aut) (tup : List (List Int)) (j : Nat) (v : Int) : Option Ed := (stepT v aa (tup.getD j [])).map fun u => ((j : Int), v, (tup.idxOf u : Int))
theorem syF_ok (aa : List Aut) (tup : List (List Int)) : GridOk (syF aa tup) := by
  intro j v e h
  unfold syF at h
  obtain ⟨u, _, rfl⟩ := Option.map_eq_some_iff.1 h
  exact ⟨rfl, rfl⟩
theorem fm_congr {α β : Type} {f g : α → Option β} : ∀ {l : List α}, (∀ x ∈ l, f x = g x) → l.filterMap f = l.filterMap g
  | [], _ => rfl
  | x :: l, h => by rw [List.filterMap_cons, List.filterMap_cons, h x List.mem_cons_self, fm_congr (fun y hy => h y (List.mem_cons_of_mem _ hy))]
theorem fm_one {α β : Type} {f : α → Option β} {v : α} {e : β} (h : f v = some e) : [v].filterMap f = [e] := by rw [List.filterMap_cons, h]; rfl
theorem fm_none {α β : Type} {f : α → Option β} {v : α} (h : f v = none) : [v].filterMap f = [] := by rw [List.filterMap_cons, h]; rfl
theorem syF_none {aa : List Aut} {tup : List (List Int)} {j : Nat} {v : Int} (h : stepT v aa (tup.getD j []) = none) : syF aa tup j v = none := by unfold syF; rw [h]; rfl
theorem syF_some {aa : List Aut} {tup : List (List Int)} {j : Nat} {v : Int} {u : List Int} (h : stepT v aa (tup.getD j []) = some u) : syF aa tup j v = some ((j : Int), v, (tup.idxOf u : Int)) := by unfold syF; rw [h]; rfl
def Clo (aa : List Aut) (tup : List (List Int)) (j : Nat) (vs : List Int) : Prop := ∀ v ∈ vs, ∀ u, stepT v aa (tup.getD j []) = some u → u ∈ tup
theorem getD_pre {tup r : List (List Int)} {j : Nat} (h : j < tup.length) : (tup ++ r).getD j [] = tup.getD j [] := by simp [List.getD, List.getElem?_append_left h]
theorem syF_pre {aa : List Aut} {tup r : List (List Int)} {j : Nat} {vs : List Int} (hj : j < tup.length) (hc : Clo aa tup j vs) : vs.filterMap (syF aa (tup ++ r) j) = vs.filterMap (syF aa tup j) := by
  refine fm_congr fun v hv => ?_
  unfold syF
  rw [getD_pre hj]
  cases hs : stepT v aa (tup.getD j []) with
  | none => rfl
  | some u =>
    have hu := hc v hv u hs
    simp only [Option.map_some, Option.some.injEq, Prod.mk.injEq, true_and]
    rw [List.idxOf_append, if_pos hu]
theorem Clo.pre {aa : List Aut} {tup r : List (List Int)} {j : Nat} {vs : List Int} (hj : j < tup.length) (hc : Clo aa tup j vs) : Clo aa (tup ++ r) j vs := by
  intro v hv u hu
  rw [getD_pre hj] at hu
  exact List.mem_append_left _ (hc v hv u hu)
theorem nodup_snoc {α : Type} {l : List α} {u : α} (h : l.Nodup) (hu : u ∉ l) : (l ++ [u]).Nodup := by
  rw [List.nodup_append]
  exact ⟨h, by simp, fun a ha b hb => by simp only [List.mem_singleton] at hb; subst hb; exact fun e => hu (by rw [← e]; exact ha)⟩
theorem syEs_spec {aa : List Aut} {i : Nat} : ∀ (vs : List Int) (s s' : Sy), i < s.tup.length → s.tup.Nodup → syEs aa i (syT s i) vs s = some s' →
    ∃ r, s'.tup = s.tup ++ r ∧ s'.mk' = s.mk' ∧ s'.ed = s.ed ++ vs.filterMap (syF aa s'.tup i) ∧ Clo aa s'.tup i vs ∧ s'.tup.Nodup
  | [], s, s', _, hd, e => by cases e; exact ⟨[], by simp, rfl, by simp, fun v hv => (by cases hv), hd⟩
  | v :: vs, s, s', hi, hd, e => by
    rw [syEs] at e
    obtain ⟨s1, h1, h2⟩ := Option.bind_eq_some_iff.1 e
    have key : ∃ r1, s1.tup = s.tup ++ r1 ∧ s1.mk' = s.mk' ∧ s1.ed = s.ed ++ [v].filterMap (syF aa s1.tup i) ∧ Clo aa s1.tup i [v] ∧ s1.tup.Nodup := by
      unfold syE at h1
      have eT : syT s i = s.tup.getD i [] := rfl
      rw [eT] at h1
      cases hs : stepT v aa (s.tup.getD i []) with
      | none =>
        rw [hs] at h1
        cases h1
        refine ⟨[], by simp, rfl, by rw [fm_none (syF_none hs), List.append_nil], fun v' hv' u hu => ?_, hd⟩
        simp only [List.mem_singleton] at hv'; subst hv'
        rw [hs] at hu; cases hu
      | some u =>
        rw [hs] at h1
        simp only [] at h1
        by_cases hu : u ∈ s.tup
        · rw [if_pos hu] at h1
          cases h1
          refine ⟨[], by simp, rfl, by rw [fm_one (syF_some hs)], fun v' hv' u' hu' => ?_, hd⟩
          simp only [List.mem_singleton] at hv'; subst hv'
          simp only [] at hu' ⊢
          rw [hs] at hu'; cases hu'; exact hu
        · rw [if_neg hu] at h1
          split at h1
          · cases h1
          · cases h1
            have e2 : (s.tup ++ [u]).getD i [] = s.tup.getD i [] := getD_pre hi
            have e3 : (s.tup ++ [u]).idxOf u = s.tup.length := by rw [List.idxOf_append, if_neg hu]; simp
            refine ⟨[u], rfl, rfl, ?_, fun v' hv' u' hu' => ?_, nodup_snoc hd hu⟩
            · rw [fm_one (syF_some (tup := s.tup ++ [u]) (u := u) (by rw [e2]; exact hs)), e3]
            · simp only [List.mem_singleton] at hv'; subst hv'
              simp only [] at hu' ⊢
              rw [e2, hs] at hu'; cases hu'; simp
    obtain ⟨r1, k1, k2, k3, k4, k5⟩ := key
    have hi1 : i < s1.tup.length := by rw [k1]; simp; omega
    have eT : syT s1 i = syT s i := by unfold syT; rw [k1]; exact getD_pre hi
    rw [← eT] at h2
    obtain ⟨r2, g1, g2, g3, g4, g5⟩ := syEs_spec vs s1 s' hi1 k5 h2
    refine ⟨r1 ++ r2, by rw [g1, k1, List.append_assoc], g2.trans k2, ?_, ?_, g5⟩
    · rw [g3, k3, List.append_assoc]
      congr 1
      rw [show v :: vs = [v] ++ vs from rfl, List.filterMap_append]
      congr 1
      rw [g1]
      exact (syF_pre hi1 k4).symm
    · intro v' hv' u hu
      rcases List.mem_cons.1 hv' with rfl | hv'
      · have := k4.pre (r := r2) hi1
        rw [← g1] at this
        exact this v' List.mem_cons_self u hu
      · exact g4 v' hv' u hu
/-- Before tuple i is taken. -/
structure SyG (aa : List Aut) (i : Nat) (s : Sy) : Prop where
  nd : s.tup.Nodup
  le : i ≤ s.tup.length
  hd : s.tup.getD 0 [] = List.replicate aa.length 0 ∧ 0 < s.tup.length
  mk2 : s.mk' = ((List.range' 0 i).filter fun j => markT aa (s.tup.getD j [])).map fun j : Nat => (j : Int)
  ed : s.ed = grid (syF aa s.tup) (evs aa) i
  cl : ∀ j, j < i → Clo aa s.tup j (evs aa)
theorem flatMap_congr' {α β : Type} {f g : α → List β} : ∀ {l : List α}, (∀ x ∈ l, f x = g x) → l.flatMap f = l.flatMap g
  | [], _ => rfl
  | x :: l, h => by rw [List.flatMap_cons, List.flatMap_cons, h x List.mem_cons_self, flatMap_congr' (fun y hy => h y (List.mem_cons_of_mem _ hy))]
theorem SyG.next {aa : List Aut} {i : Nat} {s s' : Sy} (h : SyG aa i s) (hi : i < s.tup.length) (e : syEs aa i (syT s i) (evs aa) (syMark aa i (syT s i) s) = some s') : SyG aa (i + 1) s' := by
  have ht : (syMark aa i (syT s i) s).tup = s.tup := by unfold syMark; split <;> rfl
  have hed : (syMark aa i (syT s i) s).ed = s.ed := by unfold syMark; split <;> rfl
  have hT : syT (syMark aa i (syT s i) s) i = syT s i := by show (syMark aa i (syT s i) s).tup.getD i [] = s.tup.getD i []; rw [ht]
  rw [← hT] at e
  obtain ⟨r, g1, g2, g3, g4, g5⟩ := syEs_spec (evs aa) _ s' (by rw [ht]; exact hi) (by rw [ht]; exact h.nd) (by rw [hT] at e ⊢; exact e)
  rw [ht] at g1
  rw [hed] at g3
  have pre : ∀ j, j ≤ i → s'.tup.getD j [] = s.tup.getD j [] := fun j hj => by rw [g1]; exact getD_pre (by omega)
  refine ⟨g5, by rw [g1]; simp; omega, ⟨by rw [pre 0 (by omega)]; exact h.hd.1, by rw [g1]; simp; omega⟩, ?_, ?_, fun j hj => ?_⟩
  · rw [g2, List.range'_1_concat, List.filter_append, List.map_append, Nat.zero_add]
    have e1 : ((List.range' 0 i).filter fun j => markT aa (s'.tup.getD j [])) = (List.range' 0 i).filter fun j => markT aa (s.tup.getD j []) := by
      refine List.filter_congr fun j hj => ?_
      rw [List.mem_range'_1] at hj
      rw [pre j (by omega)]
    rw [e1]
    unfold syMark
    by_cases hm : markT aa (syT s i) = true
    · rw [if_pos hm]
      have hm' : markT aa (s'.tup.getD i []) = true := by rw [pre i (Nat.le_refl _)]; exact hm
      simp only [List.filter_cons, hm', if_true, List.filter_nil, List.map_cons, List.map_nil]
      rw [h.mk2]
    · rw [if_neg hm]
      have hm' : markT aa (s'.tup.getD i []) = false := by rw [pre i (Nat.le_refl _)]; exact eq_false_of_ne_true hm
      rw [List.filter_cons, if_neg (by rw [hm']; simp), List.filter_nil, h.mk2]; simp
  · rw [g3, grid_succ, h.ed]
    congr 1
    unfold grid
    refine flatMap_congr' fun j hj => ?_
    rw [List.mem_range'_1] at hj
    rw [g1]
    exact (syF_pre (by omega) (h.cl j (by omega))).symm
  · by_cases e2 : j = i
    · subst e2; exact g4
    · have := (h.cl j (by omega)).pre (r := r) (by omega)
      rw [← g1] at this
      exact this
theorem syL_spec {aa : List Aut} : ∀ (f i : Nat) (s s' : Sy), SyG aa i s → syL aa f i s = some s' → ∃ i', SyG aa i' s' ∧ (s'.tup.length = i' ∨ i' = i + f)
  | 0, i, s, s', h, e => by cases e; exact ⟨i, h, .inr rfl⟩
  | f + 1, i, s, s', h, e => by
    rw [syL] at e
    split at e
    · rename_i hi
      obtain ⟨s1, h1, h2⟩ := Option.bind_eq_some_iff.1 e
      obtain ⟨i', h3, h4⟩ := syL_spec f (i + 1) s1 s' (h.next hi h1) h2
      exact ⟨i', h3, by omega⟩
    · cases e; exact ⟨i, h, .inl (by have := h.le; omega)⟩
/-- What the product is. -/
structure SyP (aa : List Aut) (A : Aut) (Q : List (List Int)) : Prop where
  al : A.al = evs aa
  st : A.st = (Q.length : Int)
  nd : Q.Nodup
  v : ∀ t ∈ Q, Vt aa t
  le : Q.length ≤ 4096
  hd : 0 < Q.length → Q.getD 0 [] = List.replicate aa.length 0
  mk2 : A.mr = ((List.range' 0 Q.length).filter fun j => markT aa (Q.getD j [])).map fun j : Nat => (j : Int)
  ed : A.ed = grid (syF aa Q) (evs aa) Q.length
  cl : ∀ j, j < Q.length → Clo aa Q j (evs aa)
theorem sync_spec {aa : List Aut} (ho : ∀ a ∈ aa, Okay a) {A : Aut} {Q : List (List Int)} (h : sync aa = some (A, Q)) : SyP aa A Q ∧ (Q.length = 0 ↔ ∃ a ∈ aa, a.st = 0) := by
  have hok := sync_ok ho h
  unfold sync at h
  split at h
  · rename_i hz
    cases h
    exact ⟨⟨rfl, rfl, by simp, by simp, by simp, fun h => by simp at h, by simp, by simp [grid], fun j hj => by simp at hj⟩, by simpa using hz⟩
  · rename_i hz
    obtain ⟨s, h1, h2⟩ := Option.map_eq_some_iff.1 h
    have h0 : SyG aa 0 (sy0 aa) := ⟨by simp [sy0], by simp, ⟨by simp [sy0], by simp [sy0]⟩, by simp [sy0], by simp [sy0, grid], fun j hj => by omega⟩
    obtain ⟨i', h3, h4⟩ := syL_spec 4096 0 (sy0 aa) s h0 h1
    cases h2
    have hl : i' = s.tup.length := by
      have h5 := h3.le
      have h6 := hok.2
      simp only [] at h6
      omega
    subst hl
    refine ⟨⟨rfl, rfl, h3.nd, hok.1, hok.2, fun _ => h3.hd.1, h3.mk2, h3.ed, h3.cl⟩, ?_⟩
    have := h3.hd.2
    constructor
    · intro h; have h7 : s.tup.length = 0 := h; omega
    · intro h; exact absurd h hz
/-- A step of the product is a step of its tuple. -/
theorem SyP.step {aa : List Aut} {A : Aut} {Q : List (List Int)} (h : SyP aa A Q) {j : Nat} (hj : j < Q.length) (v : Int) :
    eget A.ed j v = if v ∈ evs aa then (stepT v aa (Q.getD j [])).map fun u => (Q.idxOf u : Int) else none := by
  rw [h.ed, eget_grid (syF_ok aa Q)]
  by_cases hv : v ∈ evs aa
  · rw [if_pos ⟨hj, hv⟩, if_pos hv]
    unfold syF
    rw [Option.map_map]; rfl
  · rw [if_neg (fun e => hv e.2), if_neg hv]
theorem SyP.to {aa : List Aut} {A : Aut} {Q : List (List Int)} (h : SyP aa A Q) {j : Nat} (hj : j < Q.length) {v : Int} (hv : v ∈ evs aa) {u : List Int} (hu : stepT v aa (Q.getD j []) = some u) : Q.idxOf u < Q.length ∧ Q.getD (Q.idxOf u) [] = u := by
  have hm := h.cl j hj v hv u hu
  have hl := List.idxOf_lt_length_of_mem hm
  refine ⟨hl, ?_⟩
  simp [List.getD, hl]
theorem SyP.okay {aa : List Aut} (ho : ∀ a ∈ aa, Okay a) {A : Aut} {Q : List (List Int)} (h : SyP aa A Q) : Okay A := by
  have hle := h.le
  refine ⟨fun e he => ?_, by rw [h.al]; exact evs_inc ho, by rw [h.st]; omega, by rw [h.st]; omega, fun s hs => ?_, ?_, fun e he => ?_, by rw [h.ed]; exact grid_pw (syF_ok aa Q) (evs_inc ho) _⟩
  · rw [h.al] at he
    obtain ⟨a, ha, hx⟩ := (evs_mem ho e).1 he
    exact (ho a ha).al e hx
  · rw [h.mk2] at hs
    simp only [List.mem_map, List.mem_filter, List.mem_range'_1] at hs
    obtain ⟨i, ⟨hi, _⟩, rfl⟩ := hs
    rw [h.st]; omega
  · rw [h.mk2]
    unfold Inc
    rw [List.pairwise_map]
    refine List.Pairwise.sublist List.filter_sublist ?_
    exact (List.pairwise_lt_range' (s := 0) (n := Q.length)).imp (fun h => by omega)
  · rw [h.ed] at he
    obtain ⟨j, v, hj, hv, hg⟩ := grid_mem he
    unfold syF at hg
    obtain ⟨u, hu, rfl⟩ := Option.map_eq_some_iff.1 hg
    have := (h.to hj hv hu).1
    rw [h.st, h.al]
    exact ⟨by simp only []; omega, by simp only []; omega, hv, by simp only []; omega, by simp only []; omega⟩
end Go.Proofs.YtfhgnlkdcdlblaaDoor
/- SupervisorReduces, plain law, part 1: both closures are the least one. -/
namespace Go.Proofs.YtfhgnlkdcdlblaaDoor
open Go.Lg

theorem cget_map {cl : List Int} (g : Int → Int) {x : Nat} (h : x < cl.length) : cget (cl.map g) x = g (cget cl x) := by simp [cget, List.getD, h]
theorem cget_merge {cl : List Int} {u v x : Nat} (h : x < cl.length) : cget (mergeC cl u v) x = if cget cl x = cget cl v then cget cl u else cget cl x := by unfold mergeC; rw [cget_map _ h]
/-- Equal under c, so under e. -/
def Rf (n : Nat) (c e : List Int) : Prop := ∀ x y, x < n → y < n → cget c x = cget c y → cget e x = cget e y
theorem Rf.refl (n : Nat) (c : List Int) : Rf n c c := fun _ _ _ _ h => h
theorem Rf.trans {n : Nat} {a b c : List Int} (h : Rf n a b) (k : Rf n b c) : Rf n a c := fun x y hx hy e => k x y hx hy (h x y hx hy e)
theorem Rf.merge {n : Nat} {c e : List Int} (hl : c.length = n) (h : Rf n c e) {u v : Nat} (hu : u < n) (hv : v < n) (huv : cget e u = cget e v) : Rf n (mergeC c u v) e := by
  intro x y hx hy hxy
  rw [cget_merge (by omega), cget_merge (by omega)] at hxy
  by_cases h1 : cget c x = cget c v
  · rw [if_pos h1] at hxy
    have e1 := h x v hx hv h1
    by_cases h2 : cget c y = cget c v
    · exact e1.trans (h y v hy hv h2).symm
    · rw [if_neg h2] at hxy
      exact e1.trans (huv.symm.trans (h u y hu hy hxy))
  · rw [if_neg h1] at hxy
    by_cases h2 : cget c y = cget c v
    · rw [if_pos h2] at hxy
      exact (h x u hx hu hxy).trans (huv.trans (h y v hy hv h2).symm)
    · rw [if_neg h2] at hxy
      exact h x y hx hy hxy
theorem Rf.of_merge {n : Nat} {c : List Int} (hl : c.length = n) (u v : Nat) : Rf n c (mergeC c u v) := by
  intro x y hx hy h
  rw [cget_merge (by omega), cget_merge (by omega), h]
theorem merge_eq {n : Nat} {c : List Int} (hl : c.length = n) {u v : Nat} (hu : u < n) (hv : v < n) : cget (mergeC c u v) u = cget (mergeC c u v) v := by
  rw [cget_merge (by omega), cget_merge (by omega), if_pos rfl]
  split <;> rfl
theorem merge_sign {n : Nat} {c : List Int} (hl : c.length = n) {u v : Nat} (hu : 0 ≤ cget c u) (hv : 0 ≤ cget c v) {x : Nat} (hx : x < n) : cget (mergeC c u v) x < 0 ↔ cget c x < 0 := by
  rw [cget_merge (by omega)]
  split
  · rename_i h; rw [h]; omega
  · exact Iff.rfl
/-- joinC is a merge, one way or the other. -/
theorem joinC_merge (c : List Int) (i j : Nat) : joinC c i j = mergeC c i j ∨ joinC c i j = mergeC c j i := by
  unfold joinC mergeC mgF
  rcases Int.le_total (cget c i) (cget c j) with h | h
  · left
    rw [Int.max_eq_right h, Int.min_eq_left h]
  · right
    rw [Int.max_eq_left h, Int.min_eq_right h]

/-! ### What is forced -/
/-- States of one class and an event of both: where it leads. -/
def Frc (s : Aut) (l : List Ctl) (n : Nat) (c : List Int) (u t : Nat) : Prop :=
  ∃ x y e, x < n ∧ y < n ∧ 0 ≤ cget c x ∧ cget c x = cget c y ∧ e ∈ (lget l x).en ∧ e ∈ (lget l y).en ∧ u = (to0 s x e).toNat ∧ t = (to0 s y e).toNat
def Clsd (s : Aut) (l : List Ctl) (n : Nat) (c : List Int) : Prop := ∀ u t, Frc s l n c u t → cget c u = cget c t
theorem Frc.symm {s : Aut} {l : List Ctl} {n : Nat} {c : List Int} {u t : Nat} (h : Frc s l n c u t) : Frc s l n c t u := by
  obtain ⟨x, y, e, h1, h2, h3, h4, h5, h6, h7, h8⟩ := h
  exact ⟨y, x, e, h2, h1, by omega, h4.symm, h6, h5, h8, h7⟩
/-- Where the enabled events of states that occur lead: to states that occur. -/
def Occ (s : Aut) (l : List Ctl) (n : Nat) (c : List Int) : Prop := ∀ x, x < n → 0 ≤ cget c x → ∀ e ∈ (lget l x).en, (to0 s x e).toNat < n ∧ 0 ≤ cget c (to0 s x e).toNat
inductive Stps (s : Aut) (l : List Ctl) (n : Nat) (z : List Int × Bool) : List Int × Bool → Prop
  | refl : Stps s l n z z
  | step {z' : List Int × Bool} (u t : Nat) : Stps s l n z z' → cget z'.1 u ≠ cget z'.1 t → Frc s l n z'.1 u t → Stps s l n z (mergeC z'.1 u t, true)
theorem Stps.trans {s : Aut} {l : List Ctl} {n : Nat} {z z' z'' : List Int × Bool} (h : Stps s l n z z') (k : Stps s l n z' z'') : Stps s l n z z'' := by
  induction k with
  | refl => exact h
  | step u t _ h1 h2 ih => exact .step u t ih h1 h2
/-- What steps keep. -/
structure Kp (s : Aut) (l : List Ctl) (n : Nat) (z z' : List Int × Bool) : Prop where
  len : z'.1.length = n
  sg : ∀ x, x < n → (cget z'.1 x < 0 ↔ cget z.1 x < 0)
  up : Rf n z.1 z'.1
  dn : ∀ e, Clsd s l n e → (∀ x, x < n → (cget e x < 0 ↔ cget z.1 x < 0)) → Rf n z.1 e → Rf n z'.1 e
  fl : z'.2 = false → z' = z
  un : z' = z ∨ uneq z'.1 < uneq z.1
theorem Stps.kp {s : Aut} {l : List Ctl} {n : Nat} {z z' : List Int × Bool} (hl : z.1.length = n) (ho : Occ s l n z.1) (h : Stps s l n z z') : Kp s l n z z' := by
  induction h with
  | refl => exact ⟨hl, fun _ _ => Iff.rfl, Rf.refl _ _, fun _ _ _ h => h, fun _ => rfl, .inl rfl⟩
  | step u t h1 h2 h3 ih =>
    obtain ⟨x, y, e, k1, k2, k3, k4, k5, k6, rfl, rfl⟩ := h3
    rename_i z'
    have sx := ih.sg x k1
    have sy := ih.sg y k2
    obtain ⟨o1, o2⟩ := ho x k1 (by omega) e k5
    obtain ⟨o3, o4⟩ := ho y k2 (by omega) e k6
    have su := ih.sg _ o1
    have st := ih.sg _ o3
    refine ⟨by simp [mergeC_len, ih.len], fun q hq => ?_, ih.up.trans (Rf.of_merge ih.len _ _), fun E hE hsg hr => ?_, fun h => by simp at h, .inr ?_⟩
    · rw [merge_sign ih.len (by omega) (by omega) hq]; exact ih.sg q hq
    · have hd := ih.dn E hE hsg hr
      refine Rf.merge ih.len hd o1 o3 (hE _ _ ⟨x, y, e, k1, k2, ?_, hd x y k1 k2 k4, k5, k6, rfl, rfl⟩)
      have := hsg x k1
      omega
    · have := uneq_merge_lt (cl := z'.1) (by rw [ih.len]; exact o1) (by rw [ih.len]; exact o3) h2
      rcases ih.un with h4 | h4
      · rw [h4] at this; rw [← h4]; simpa [h4] using this
      · simp only []; omega

/-! ### The passes of the program -/
section
variable {s : Aut} {l : List Ctl} {n : Nat}
theorem clE_fold {x y : Nat} : ∀ (vs : List Int) (z : List Int × Bool), z.1.length = n → x < n → y < n → 0 ≤ cget z.1 x → cget z.1 x = cget z.1 y → Occ s l n z.1 → (∀ e ∈ vs, e ∈ (lget l x).en ∧ e ∈ (lget l y).en) → Stps s l n z (vs.foldl (clE s x y) z)
  | [], z, _, _, _, _, _, _, _ => .refl
  | v :: vs, z, hl, hx, hy, h0, hxy, ho, hv => by
    obtain ⟨v1, v2⟩ := hv v List.mem_cons_self
    have h1 : Stps s l n z (clE s x y z v) := by
      unfold clE
      split
      · rename_i hne; exact .step _ _ .refl hne ⟨x, y, v, hx, hy, h0, hxy, v1, v2, rfl, rfl⟩
      · exact .refl
    have k := h1.kp hl ho
    have ho' : Occ s l n (clE s x y z v).1 := fun q hq hq0 e he => by
      have := k.sg q hq
      obtain ⟨a, b⟩ := ho q hq (by omega) e he
      have := k.sg _ a
      exact ⟨a, by omega⟩
    have := k.sg x hx
    exact h1.trans (clE_fold vs _ k.len hx hy (by omega) (k.up x y hx hy hxy) ho' (fun e he => hv e (List.mem_cons_of_mem _ he)))
theorem Occ.of {c d : List Int} (ho : Occ s l n c) (h : ∀ x, x < n → (cget d x < 0 ↔ cget c x < 0)) : Occ s l n d := fun q hq hq0 e he => by
  have := h q hq
  obtain ⟨a, b⟩ := ho q hq (by omega) e he
  have := h _ a
  exact ⟨a, by omega⟩
/-- A fold of steps is steps. -/
theorem fold_stps {α : Type} {f : List Int × Bool → α → List Int × Bool} {P : α → Prop} (hf : ∀ z a, P a → z.1.length = n → Occ s l n z.1 → Stps s l n z (f z a)) : ∀ (rs : List α) (z : List Int × Bool), (∀ a ∈ rs, P a) → z.1.length = n → Occ s l n z.1 → Stps s l n z (rs.foldl f z)
  | [], _, _, _, _ => .refl
  | a :: rs, z, hP, hl, ho => by
    have h1 := hf z a (hP a List.mem_cons_self) hl ho
    have k := h1.kp hl ho
    exact h1.trans (fold_stps hf rs _ (fun b hb => hP b (List.mem_cons_of_mem _ hb)) k.len (ho.of k.sg))
/-- A fold that has not stepped: no part of it has. -/
theorem fold_flag {α : Type} {f : List Int × Bool → α → List Int × Bool} {P : α → Prop} {T : List Int → α → Prop} (hf : ∀ z a, P a → z.1.length = n → Occ s l n z.1 → Stps s l n z (f z a)) (hT : ∀ z a, P a → z.1.length = n → Occ s l n z.1 → (f z a).2 = false → T z.1 a) :
    ∀ (rs : List α) (z : List Int × Bool), (∀ a ∈ rs, P a) → z.1.length = n → Occ s l n z.1 → (rs.foldl f z).2 = false → rs.foldl f z = z ∧ ∀ a ∈ rs, T z.1 a
  | [], _, _, _, _, _ => ⟨rfl, fun a ha => by cases ha⟩
  | a :: rs, z, hP, hl, ho, h => by
    have h1 := hf z a (hP a List.mem_cons_self) hl ho
    have k := h1.kp hl ho
    obtain ⟨h2, h3⟩ := fold_flag hf hT rs _ (fun b hb => hP b (List.mem_cons_of_mem _ hb)) k.len (ho.of k.sg) h
    have h' : (f z a).2 = false := by have h0 := h; rw [List.foldl_cons, h2] at h0; exact h0
    have h4 := k.fl h'
    rw [h4] at h3
    rw [List.foldl_cons, h2]
    refine ⟨h4, fun b hb => ?_⟩
    rcases List.mem_cons.1 hb with rfl | hb
    · exact hT z b (hP b List.mem_cons_self) hl ho h'
    · exact h3 b hb
end
end Go.Proofs.YtfhgnlkdcdlblaaDoor
/- SupervisorReduces, plain law, part 2: the passes of the program and of the law. -/
namespace Go.Proofs.YtfhgnlkdcdlblaaDoor
open Go.Lg

section
variable {s : Aut} {l : List Ctl} {n : Nat}
/-! ### The program -/
theorem clE_flag {x y : Nat} : ∀ (vs : List Int) (z : List Int × Bool), (vs.foldl (clE s x y) z).2 = false → ∀ v ∈ vs, cget z.1 (to0 s x v).toNat = cget z.1 (to0 s y v).toNat
  | [], _, _, v, hv => by cases hv
  | v :: vs, z, h, u, hu => by
    rw [List.foldl_cons] at h
    have key : ∀ (ws : List Int) (q : List Int × Bool), q.2 = true → (ws.foldl (clE s x y) q).2 = true := by
      intro ws
      induction ws with
      | nil => intro q hq; exact hq
      | cons w ws ih =>
        intro q hq
        rw [List.foldl_cons]
        refine ih _ ?_
        unfold clE; split
        · rfl
        · exact hq
    have hc : cget z.1 (to0 s x v).toNat = cget z.1 (to0 s y v).toNat := by
      by_cases e : cget z.1 (to0 s x v).toNat = cget z.1 (to0 s y v).toNat
      · exact e
      · have h1 : clE s x y z v = (mergeC z.1 (to0 s x v).toNat (to0 s y v).toNat, true) := by unfold clE; rw [if_pos e]
        rw [h1, key _ _ rfl] at h; cases h
    have h2 : clE s x y z v = z := by unfold clE; rw [if_neg (fun e => e hc)]
    rw [h2] at h
    rcases List.mem_cons.1 hu with rfl | hu
    · exact hc
    · exact clE_flag vs z h u hu
/-- The lists of enabled events are sets. -/
def IncL (l : List Ctl) (n : Nat) : Prop := ∀ x, x < n → Inc (lget l x).en
theorem clY_stps (hi : IncL l n) {x : Nat} (hx : x < n) (z : List Int × Bool) (y : Nat) (hy : y < n) (hl : z.1.length = n) (ho : Occ s l n z.1) : Stps s l n z (clY s l x z y) := by
  unfold clY
  split
  · exact .refl
  · rename_i h
    refine clE_fold _ z hl hx hy (by omega) (by omega) ho fun e he => ?_
    exact (mem_meets (hi x hx) (hi y hy) e).1 he
/-- x and y lead alike. -/
def Alk (s : Aut) (l : List Ctl) (c : List Int) (x y : Nat) : Prop := 0 ≤ cget c x → cget c x = cget c y → ∀ e, e ∈ (lget l x).en → e ∈ (lget l y).en → cget c (to0 s x e).toNat = cget c (to0 s y e).toNat
theorem clY_flag (hi : IncL l n) {x : Nat} (hx : x < n) (z : List Int × Bool) (y : Nat) (hy : y < n) (h : (clY s l x z y).2 = false) : Alk s l z.1 x y := by
  intro h0 h1 e he1 he2
  unfold clY at h
  rw [if_neg (by omega)] at h
  exact clE_flag _ z h e ((mem_meets (hi x hx) (hi y hy) e).2 ⟨he1, he2⟩)
theorem clX_stps (hi : IncL l n) (z : List Int × Bool) (x : Nat) (hx : x < n) (hl : z.1.length = n) (ho : Occ s l n z.1) : Stps s l n z (clX s l n z x) := by
  unfold clX
  exact fold_stps (P := fun y => y < n) (fun z y hy hl ho => clY_stps hi hx z y hy hl ho) _ z (fun y hy => by rw [List.mem_range'_1] at hy; omega) hl ho
theorem clX_flag (hi : IncL l n) (z : List Int × Bool) (x : Nat) (hx : x < n) (hl : z.1.length = n) (ho : Occ s l n z.1) (h : (clX s l n z x).2 = false) : ∀ y, x < y → y < n → Alk s l z.1 x y := by
  unfold clX at h
  intro y hy hyn
  exact (fold_flag (P := fun y => y < n) (T := fun c y => Alk s l c x y) (fun z y hy hl ho => clY_stps hi hx z y hy hl ho) (fun z y hy _ _ h => clY_flag hi hx z y hy h) _ z (fun y hy => by rw [List.mem_range'_1] at hy; omega) hl ho h).2 y (by rw [List.mem_range'_1]; omega)
theorem pass_stps (hi : IncL l n) (c : List Int) (hl : c.length = n) (ho : Occ s l n c) : Stps s l n (c, false) (pass s l c) := by
  unfold pass
  rw [hl]
  exact fold_stps (P := fun y => y < n) (fun z y hy hl ho => clX_stps hi z y hy hl ho) _ _ (fun y hy => by rw [List.mem_range'_1] at hy; omega) hl ho
theorem Alk.symm {c : List Int} {x y : Nat} (h : Alk s l c x y) : Alk s l c y x := fun h0 h1 e h2 h3 => (h (by omega) h1.symm e h3 h2).symm
theorem clsd_of_alk {c : List Int} (h : ∀ x y, x < y → y < n → Alk s l c x y) : Clsd s l n c := by
  rintro u t ⟨x, y, e, h1, h2, h3, h4, h5, h6, rfl, rfl⟩
  rcases Nat.lt_trichotomy x y with hlt | heq | hgt
  · exact h x y hlt h2 h3 h4 e h5 h6
  · subst heq; rfl
  · exact (h y x hgt h1).symm h3 h4 e h5 h6
theorem pass_flag (hi : IncL l n) (c : List Int) (hl : c.length = n) (ho : Occ s l n c) (h : (pass s l c).2 = false) : (pass s l c).1 = c ∧ Clsd s l n c := by
  have h0 := h
  unfold pass at h
  rw [hl] at h
  have := fold_flag (P := fun y => y < n) (T := fun c x => ∀ y, x < y → y < n → Alk s l c x y) (fun z y hy hl ho => clX_stps hi z y hy hl ho) (fun z x hx hl ho h => clX_flag hi z x hx hl ho h) _ (c, false) (fun y hy => by rw [List.mem_range'_1] at hy; omega) hl ho h
  refine ⟨?_, clsd_of_alk fun x y hxy hy => this.2 x (by rw [List.mem_range'_1]; omega) y hxy hy⟩
  unfold pass
  rw [hl, this.1]
/-- What a closure is. -/
structure Clo2 (s : Aut) (l : List Ctl) (n : Nat) (c d : List Int) : Prop where
  len : d.length = n
  sg : ∀ x, x < n → (cget d x < 0 ↔ cget c x < 0)
  up : Rf n c d
  dn : ∀ e, Clsd s l n e → (∀ x, x < n → (cget e x < 0 ↔ cget c x < 0)) → Rf n c e → Rf n d e
  cl : Clsd s l n d
theorem Clo2.of_kp {c d : List Int} {z : List Int × Bool} (k : Kp s l n (c, false) z) (h : Clo2 s l n z.1 d) : Clo2 s l n c d :=
  ⟨h.len, fun x hx => (h.sg x hx).trans (k.sg x hx), k.up.trans h.up, fun e he hs hr => h.dn e he (fun x hx => (hs x hx).trans (k.sg x hx).symm) (k.dn e he hs hr), h.cl⟩
theorem closeC_spec (hi : IncL l n) : ∀ (f : Nat) (c : List Int), c.length = n → Occ s l n c → uneq c < f → Clo2 s l n c (closeC s l f c)
  | 0, _, _, _, h => by omega
  | f + 1, c, hl, ho, hf => by
    have hs := pass_stps hi c hl ho
    have k := hs.kp hl ho
    rw [closeC]
    cases hp : (pass s l c).2 with
    | false =>
      obtain ⟨h1, h2⟩ := pass_flag hi c hl ho hp
      rw [if_neg (by simp), h1]
      exact ⟨hl, fun _ _ => Iff.rfl, Rf.refl _ _, fun _ _ _ h => h, h2⟩
    | true =>
      rw [if_pos rfl]
      have hu : uneq (pass s l c).1 < uneq c := by
        rcases k.un with h | h
        · rw [h] at hp; cases hp
        · exact h
      exact Clo2.of_kp k (closeC_spec hi f _ k.len (ho.of k.sg) (by omega))

/-! ### The law -/
def lwE (s : Aut) (l : List Ctl) (x y : Nat) (z : List Int × Bool) (e : Int) : List Int × Bool :=
  if e ∉ (lget l y).en then z else if cget z.1 (nxt s.ed x e).toNat ≠ cget z.1 (nxt s.ed y e).toNat then (joinC z.1 (nxt s.ed x e).toNat (nxt s.ed y e).toNat, true) else z
def lwY (s : Aut) (l : List Ctl) (x : Nat) (z : List Int × Bool) (y : Nat) : List Int × Bool :=
  if cget z.1 x < 0 ∨ cget z.1 x ≠ cget z.1 y then z else (lget l x).en.foldl (lwE s l x y) z
def lwX (s : Aut) (l : List Ctl) (z : List Int × Bool) (x : Nat) : List Int × Bool := (List.range' 0 x).foldl (lwY s l x) z
def lwPass (s : Aut) (l : List Ctl) (c : List Int) : List Int × Bool := (List.range' 0 c.length).foldl (lwX s l) (c, false)
def lwClose (s : Aut) (l : List Ctl) : Nat → List Int → List Int
  | 0, cl => cl
  | f + 1, cl => if (lwPass s l cl).2 = true then lwClose s l f (lwPass s l cl).1 else (lwPass s l cl).1
/-- The edges of enabled events. -/
def Nx (s : Aut) (l : List Ctl) (n : Nat) : Prop := ∀ x, x < n → ∀ e ∈ (lget l x).en, nxt s.ed x e = to0 s x e ∧ 0 ≤ to0 s x e
theorem lwE_stps (hn : Nx s l n) {x y : Nat} (hx : x < n) (hy : y < n) (z : List Int × Bool) (e : Int) (he : e ∈ (lget l x).en) (h0 : 0 ≤ cget z.1 x) (h1 : cget z.1 x = cget z.1 y) : Stps s l n z (lwE s l x y z e) := by
  unfold lwE
  split
  · exact .refl
  · rename_i h2
    have h2' : e ∈ (lget l y).en := Decidable.not_not.1 h2
    rw [(hn x hx e he).1, (hn y hy e h2').1]
    split
    · rename_i hne
      have hF : Frc s l n z.1 (to0 s x e).toNat (to0 s y e).toNat := ⟨x, y, e, hx, hy, h0, h1, he, h2', rfl, rfl⟩
      rcases joinC_merge z.1 (to0 s x e).toNat (to0 s y e).toNat with h | h
      · rw [h]; exact .step _ _ .refl hne hF
      · rw [h]; exact .step _ _ .refl (Ne.symm hne) hF.symm
    · exact .refl
theorem lwE_fold (hn : Nx s l n) {x y : Nat} (hx : x < n) (hy : y < n) : ∀ (vs : List Int) (z : List Int × Bool), (∀ e ∈ vs, e ∈ (lget l x).en) → z.1.length = n → Occ s l n z.1 → 0 ≤ cget z.1 x → cget z.1 x = cget z.1 y → Stps s l n z (vs.foldl (lwE s l x y) z)
  | [], _, _, _, _, _, _ => .refl
  | v :: vs, z, hv, hl, ho, h0, h1 => by
    have hs := lwE_stps hn hx hy z v (hv v List.mem_cons_self) h0 h1
    have k := hs.kp hl ho
    have := k.sg x hx
    exact hs.trans (lwE_fold hn hx hy vs _ (fun e he => hv e (List.mem_cons_of_mem _ he)) k.len (ho.of k.sg) (by omega) (k.up x y hx hy h1))
theorem lwE_flag (hn : Nx s l n) {x y : Nat} (hx : x < n) (hy : y < n) : ∀ (vs : List Int) (z : List Int × Bool), (∀ e ∈ vs, e ∈ (lget l x).en) → (vs.foldl (lwE s l x y) z).2 = false → ∀ v ∈ vs, v ∈ (lget l y).en → cget z.1 (to0 s x v).toNat = cget z.1 (to0 s y v).toNat
  | [], _, _, _, v, hv, _ => by cases hv
  | v :: vs, z, hvs, h, u, hu, hy2 => by
    rw [List.foldl_cons] at h
    have key : ∀ (ws : List Int) (q : List Int × Bool), q.2 = true → (ws.foldl (lwE s l x y) q).2 = true := by
      intro ws
      induction ws with
      | nil => intro q hq; exact hq
      | cons w ws ih =>
        intro q hq
        rw [List.foldl_cons]
        refine ih _ ?_
        unfold lwE; split
        · exact hq
        · split
          · rfl
          · exact hq
    have hc : v ∈ (lget l y).en → cget z.1 (to0 s x v).toNat = cget z.1 (to0 s y v).toNat := fun hvy => by
      by_cases e : cget z.1 (to0 s x v).toNat = cget z.1 (to0 s y v).toNat
      · exact e
      · have h1 : (lwE s l x y z v).2 = true := by
          unfold lwE
          rw [if_neg (fun h => h hvy), (hn x hx v (hvs v List.mem_cons_self)).1, (hn y hy v hvy).1, if_pos e]
        rw [key _ _ h1] at h; cases h
    have h2 : lwE s l x y z v = z := by
      unfold lwE
      by_cases hvy : v ∈ (lget l y).en
      · rw [if_neg (fun h => h hvy), (hn x hx v (hvs v List.mem_cons_self)).1, (hn y hy v hvy).1, if_neg (fun h => h (hc hvy))]
      · rw [if_pos hvy]
    rw [h2] at h
    rcases List.mem_cons.1 hu with rfl | hu
    · exact hc hy2
    · exact lwE_flag hn hx hy vs z (fun e he => hvs e (List.mem_cons_of_mem _ he)) h u hu hy2
theorem lwY_stps (hn : Nx s l n) {x : Nat} (hx : x < n) (z : List Int × Bool) (y : Nat) (hy : y < n) (hl : z.1.length = n) (ho : Occ s l n z.1) : Stps s l n z (lwY s l x z y) := by
  unfold lwY
  split
  · exact .refl
  · rename_i h
    exact lwE_fold hn hx hy _ z (fun _ h => h) hl ho (by omega) (by omega)
theorem lwY_flag (hn : Nx s l n) {x : Nat} (hx : x < n) (z : List Int × Bool) (y : Nat) (hy : y < n) (h : (lwY s l x z y).2 = false) : Alk s l z.1 x y := by
  intro h0 h1 e he1 he2
  unfold lwY at h
  rw [if_neg (by omega)] at h
  exact lwE_flag hn hx hy _ z (fun _ h => h) h e he1 he2
theorem lwX_stps (hn : Nx s l n) (z : List Int × Bool) (x : Nat) (hx : x < n) (hl : z.1.length = n) (ho : Occ s l n z.1) : Stps s l n z (lwX s l z x) := by
  unfold lwX
  exact fold_stps (P := fun y => y < n) (fun z y hy hl ho => lwY_stps hn hx z y hy hl ho) _ z (fun y hy => by rw [List.mem_range'_1] at hy; omega) hl ho
theorem lwX_flag (hn : Nx s l n) (z : List Int × Bool) (x : Nat) (hx : x < n) (hl : z.1.length = n) (ho : Occ s l n z.1) (h : (lwX s l z x).2 = false) : ∀ y, y < x → Alk s l z.1 x y := by
  unfold lwX at h
  intro y hy
  exact (fold_flag (P := fun y => y < n) (T := fun c y => Alk s l c x y) (fun z y hy hl ho => lwY_stps hn hx z y hy hl ho) (fun z y hy _ _ h => lwY_flag hn hx z y hy h) _ z (fun y hy => by rw [List.mem_range'_1] at hy; omega) hl ho h).2 y (by rw [List.mem_range'_1]; omega)
theorem lwPass_stps (hn : Nx s l n) (c : List Int) (hl : c.length = n) (ho : Occ s l n c) : Stps s l n (c, false) (lwPass s l c) := by
  unfold lwPass
  rw [hl]
  exact fold_stps (P := fun y => y < n) (fun z y hy hl ho => lwX_stps hn z y hy hl ho) _ _ (fun y hy => by rw [List.mem_range'_1] at hy; omega) hl ho
theorem lwPass_flag (hn : Nx s l n) (c : List Int) (hl : c.length = n) (ho : Occ s l n c) (h : (lwPass s l c).2 = false) : (lwPass s l c).1 = c ∧ Clsd s l n c := by
  have h0 := h
  unfold lwPass at h
  rw [hl] at h
  have := fold_flag (P := fun y => y < n) (T := fun c x => ∀ y, y < x → Alk s l c x y) (fun z y hy hl ho => lwX_stps hn z y hy hl ho) (fun z x hx hl ho h => lwX_flag hn z x hx hl ho h) _ (c, false) (fun y hy => by rw [List.mem_range'_1] at hy; omega) hl ho h
  refine ⟨?_, clsd_of_alk fun x y hxy hy => (this.2 y (by rw [List.mem_range'_1]; omega) x hxy).symm⟩
  unfold lwPass
  rw [hl, this.1]
theorem lwClose_spec (hn : Nx s l n) : ∀ (f : Nat) (c : List Int), c.length = n → Occ s l n c → uneq c < f → Clo2 s l n c (lwClose s l f c)
  | 0, _, _, _, h => by omega
  | f + 1, c, hl, ho, hf => by
    have hs := lwPass_stps hn c hl ho
    have k := hs.kp hl ho
    rw [lwClose]
    cases hp : (lwPass s l c).2 with
    | false =>
      obtain ⟨h1, h2⟩ := lwPass_flag hn c hl ho hp
      rw [if_neg (by simp), h1]
      exact ⟨hl, fun _ _ => Iff.rfl, Rf.refl _ _, fun _ _ _ h => h, h2⟩
    | true =>
      rw [if_pos rfl]
      have hu : uneq (lwPass s l c).1 < uneq c := by
        rcases k.un with h | h
        · rw [h] at hp; cases hp
        · exact h
      exact Clo2.of_kp k (lwClose_spec hn f _ k.len (ho.of k.sg) (by omega))
end
end Go.Proofs.YtfhgnlkdcdlblaaDoor
/- SupervisorReduces, plain law, part 3: program and law part the states alike. -/
namespace Go.Proofs.YtfhgnlkdcdlblaaDoor
open Go.Lg

/-- The same classes. -/
structure Sm (n : Nat) (c d : List Int) : Prop where
  r : Rf n c d
  q : Rf n d c
  sg : ∀ x, x < n → (cget d x < 0 ↔ cget c x < 0)
theorem Sm.refl (n : Nat) (c : List Int) : Sm n c c := ⟨Rf.refl _ _, Rf.refl _ _, fun _ _ => Iff.rfl⟩
/-- A class is its least state. -/
def Lst (n : Nat) (d : List Int) : Prop := ∀ x, x < n → 0 ≤ cget d x → cget d x ≤ x ∧ cget d (cget d x).toNat = cget d x
theorem cget_join {d : List Int} {u v x : Nat} (h : x < d.length) : cget (joinC d u v) x = if cget d x = max (cget d u) (cget d v) then min (cget d u) (cget d v) else cget d x := by
  unfold joinC; rw [cget_map _ h]; rfl
theorem Lst.join {n : Nat} {d : List Int} (hl : d.length = n) (h : Lst n d) {u v : Nat} (hu : u < n) (hv : v < n) (hu0 : 0 ≤ cget d u) (hv0 : 0 ≤ cget d v) : Lst n (joinC d u v) := by
  by_cases he : cget d u = cget d v
  · have e : joinC d u v = d := by
      unfold joinC
      rw [he, Int.max_self, Int.min_self]
      conv => rhs; rw [← List.map_id d]
      refine List.map_congr_left fun c _ => ?_
      unfold mgF; split
      · rename_i h; exact h.symm
      · rfl
    rw [e]; exact h
  have hu1 := h u hu hu0
  have hv1 := h v hv hv0
  -- the lesser label and its state
  have hmin : cget d (min (cget d u) (cget d v)).toNat = min (cget d u) (cget d v) ∧ (min (cget d u) (cget d v)).toNat < n := by
    rcases Int.le_total (cget d u) (cget d v) with h1 | h1
    · rw [Int.min_eq_left h1]; exact ⟨hu1.2, by omega⟩
    · rw [Int.min_eq_right h1]; exact ⟨hv1.2, by omega⟩
  have hne : min (cget d u) (cget d v) ≠ max (cget d u) (cget d v) := by omega
  intro x hx hx0
  rw [cget_join (by omega)] at hx0 ⊢
  by_cases h1 : cget d x = max (cget d u) (cget d v)
  · rw [if_pos h1] at hx0 ⊢
    have hx1 := h x hx (by omega)
    refine ⟨by omega, ?_⟩
    rw [cget_join (by omega), hmin.1, if_neg hne]
  · rw [if_neg h1] at hx0 ⊢
    have hx1 := h x hx hx0
    refine ⟨hx1.1, ?_⟩
    rw [cget_join (by omega), hx1.2, if_neg h1]
section
variable {s : Aut} {l : List Ctl} {n : Nat}
theorem lwE_lst (hn : Nx s l n) {x y : Nat} (hx : x < n) (hy : y < n) (z : List Int × Bool) (e : Int) (he : e ∈ (lget l x).en) (h0 : 0 ≤ cget z.1 x) (h1 : cget z.1 x = cget z.1 y) (hl : z.1.length = n) (ho : Occ s l n z.1) (hL : Lst n z.1) : Lst n (lwE s l x y z e).1 := by
  unfold lwE
  split
  · exact hL
  · rename_i h2
    have h2' : e ∈ (lget l y).en := Decidable.not_not.1 h2
    rw [(hn x hx e he).1, (hn y hy e h2').1]
    obtain ⟨a1, a2⟩ := ho x hx h0 e he
    obtain ⟨b1, b2⟩ := ho y hy (by omega) e h2'
    split
    · exact hL.join hl a1 b1 a2 b2
    · exact hL
theorem lwE_fold_lst (hn : Nx s l n) {x y : Nat} (hx : x < n) (hy : y < n) : ∀ (vs : List Int) (z : List Int × Bool), (∀ e ∈ vs, e ∈ (lget l x).en) → z.1.length = n → Occ s l n z.1 → 0 ≤ cget z.1 x → cget z.1 x = cget z.1 y → Lst n z.1 → Lst n (vs.foldl (lwE s l x y) z).1
  | [], _, _, _, _, _, _, h => h
  | v :: vs, z, hv, hl, ho, h0, h1, hL => by
    have hs := lwE_stps hn hx hy z v (hv v List.mem_cons_self) h0 h1
    have k := hs.kp hl ho
    have := k.sg x hx
    exact lwE_fold_lst hn hx hy vs _ (fun e he => hv e (List.mem_cons_of_mem _ he)) k.len (ho.of k.sg) (by omega) (k.up x y hx hy h1) (lwE_lst hn hx hy z v (hv v List.mem_cons_self) h0 h1 hl ho hL)
theorem fold_lst {α : Type} {f : List Int × Bool → α → List Int × Bool} {P : α → Prop} (hf : ∀ z a, P a → z.1.length = n → Occ s l n z.1 → Stps s l n z (f z a)) (hL : ∀ z a, P a → z.1.length = n → Occ s l n z.1 → Lst n z.1 → Lst n (f z a).1) :
    ∀ (rs : List α) (z : List Int × Bool), (∀ a ∈ rs, P a) → z.1.length = n → Occ s l n z.1 → Lst n z.1 → Lst n (rs.foldl f z).1
  | [], _, _, _, _, h => h
  | a :: rs, z, hP, hl, ho, h => by
    have k := (hf z a (hP a List.mem_cons_self) hl ho).kp hl ho
    exact fold_lst hf hL rs _ (fun b hb => hP b (List.mem_cons_of_mem _ hb)) k.len (ho.of k.sg) (hL z a (hP a List.mem_cons_self) hl ho h)
theorem lwY_lst (hn : Nx s l n) {x : Nat} (hx : x < n) (z : List Int × Bool) (y : Nat) (hy : y < n) (hl : z.1.length = n) (ho : Occ s l n z.1) (hL : Lst n z.1) : Lst n (lwY s l x z y).1 := by
  unfold lwY
  split
  · exact hL
  · rename_i h
    exact lwE_fold_lst hn hx hy _ z (fun _ h => h) hl ho (by omega) (by omega) hL
theorem lwX_lst (hn : Nx s l n) (z : List Int × Bool) (x : Nat) (hx : x < n) (hl : z.1.length = n) (ho : Occ s l n z.1) (hL : Lst n z.1) : Lst n (lwX s l z x).1 := by
  unfold lwX
  exact fold_lst (P := fun y => y < n) (fun z y hy hl ho => lwY_stps hn hx z y hy hl ho) (fun z y hy hl ho h => lwY_lst hn hx z y hy hl ho h) _ z (fun y hy => by rw [List.mem_range'_1] at hy; omega) hl ho hL
theorem lwPass_lst (hn : Nx s l n) (c : List Int) (hl : c.length = n) (ho : Occ s l n c) (hL : Lst n c) : Lst n (lwPass s l c).1 := by
  unfold lwPass
  rw [hl]
  exact fold_lst (P := fun y => y < n) (fun z y hy hl ho => lwX_stps hn z y hy hl ho) (fun z y hy hl ho h => lwX_lst hn z y hy hl ho h) _ (c, false) (fun y hy => by rw [List.mem_range'_1] at hy; omega) hl ho hL
theorem lwClose_lst (hn : Nx s l n) : ∀ (f : Nat) (c : List Int), c.length = n → Occ s l n c → Lst n c → Lst n (lwClose s l f c)
  | 0, _, _, _, h => h
  | f + 1, c, hl, ho, hL => by
    have k := (lwPass_stps hn c hl ho).kp hl ho
    have h1 := lwPass_lst hn c hl ho hL
    rw [lwClose]
    split
    · exact lwClose_lst hn f _ k.len (ho.of k.sg) h1
    · exact h1
/-! ### Trying two states -/
def lwCons (l : List Ctl) (c : List Int) : Bool := (List.range' 0 c.length).all fun x => (List.range' 0 x).all fun y => !(decide (0 ≤ cget c x ∧ cget c x = cget c y) && !lawC (lget l x) (lget l y))
def lwMerge (s : Aut) (l : List Ctl) (c : List Int) (i j : Nat) : List Int × Bool :=
  if lwCons l (lwClose s l (c.length * c.length + 1) (joinC c i j)) = true then (lwClose s l (c.length * c.length + 1) (joinC c i j), true) else (c, false)
def lwTry (s : Aut) (l : List Ctl) (c : List Int) (i j : Nat) : List Int := if 0 ≤ cget c i ∧ 0 ≤ cget c j ∧ cget c i ≠ cget c j then (lwMerge s l c i j).1 else c
/-- All lists of Controls are sets. -/
def IncA (l : List Ctl) (n : Nat) : Prop := ∀ x, x < n → Inc (lget l x).en ∧ Inc (lget l x).dis
theorem all_congr' {α : Type} {f g : α → Bool} : ∀ {rs : List α}, (∀ x ∈ rs, f x = g x) → rs.all f = rs.all g
  | [], _ => rfl
  | x :: rs, h => by rw [List.all_cons, List.all_cons, h x List.mem_cons_self, all_congr' (fun y hy => h y (List.mem_cons_of_mem _ hy))]
theorem cons_same (hi : IncA l n) {c d : List Int} (hc : c.length = n) (hd : d.length = n) (h : Sm n c d) : consAll l c = lwCons l d := by
  unfold consAll lwCons
  rw [hc, hd]
  refine all_congr' fun x hx => all_congr' fun y hy => ?_
  rw [List.mem_range'_1] at hx hy
  have hx' : x < n := by omega
  have hy' : y < n := by omega
  rw [consC_law (hi x hx').1 (hi x hx').2 (hi y hy').1 (hi y hy').2]
  have e : decide (0 ≤ cget c x ∧ cget c x = cget c y) = decide (0 ≤ cget d x ∧ cget d x = cget d y) := by
    rw [decide_eq_decide]
    have := h.sg x hx'
    have h1 := h.r x y hx' hy'
    have h2 := h.q x y hx' hy'
    constructor
    · rintro ⟨a, b⟩; exact ⟨by omega, h1 b⟩
    · rintro ⟨a, b⟩; exact ⟨by omega, h2 b⟩
  rw [e]
/-- What is kept while states are tried. -/
structure TrI (s : Aut) (l : List Ctl) (n : Nat) (c d : List Int) : Prop where
  lc : c.length = n
  ld : d.length = n
  sm : Sm n c d
  oc : Occ s l n c
  ls : Lst n d
theorem TrI.od {c d : List Int} (h : TrI s l n c d) : Occ s l n d := h.oc.of h.sm.sg
theorem try_same (hi : IncA l n) (hn : Nx s l n) {c d : List Int} (h : TrI s l n c d) {x y : Nat} (hx : x < n) (hy : y < n) : TrI s l n (tryC s l c x y) (lwTry s l d x y) := by
  have sx := h.sm.sg x hx
  have sy := h.sm.sg y hy
  have r := h.sm.r x y hx hy
  have q := h.sm.q x y hx hy
  unfold tryC lwTry
  by_cases h1 : cget c x < 0 ∨ cget c y < 0 ∨ cget c x = cget c y
  · have hcond : ¬ (0 ≤ cget d x ∧ 0 ≤ cget d y ∧ cget d x ≠ cget d y) := fun e => h1.elim (fun a => by omega) (fun a => a.elim (fun a => by omega) (fun a => e.2.2 (r a)))
    rw [if_pos h1, if_neg hcond]
    exact h
  · have hcond : 0 ≤ cget d x ∧ 0 ≤ cget d y ∧ cget d x ≠ cget d y := ⟨by omega, by omega, fun e => h1 (.inr (.inr (q e)))⟩
    rw [if_neg h1, if_pos hcond]
    have hod := h.od
    have hiL : IncL l n := fun x hx => (hi x hx).1
    have hc0 : 0 ≤ cget c x := by omega
    have hc1 : 0 ≤ cget c y := by omega
    have hd0 : 0 ≤ cget d x := by omega
    have hd1 : 0 ≤ cget d y := by omega
    -- after the merge
    have lc' : (mergeC c x y).length = n := by rw [mergeC_len]; exact h.lc
    have oc' : Occ s l n (mergeC c x y) := h.oc.of fun q hq => merge_sign h.lc hc0 hc1 hq
    have ld' : (joinC d x y).length = n := by rw [joinC_len]; exact h.ld
    have sgd : ∀ q, q < n → (cget (joinC d x y) q < 0 ↔ cget d q < 0) := fun q hq => by
      rcases joinC_merge d x y with e | e
      · rw [e]; exact merge_sign h.ld hd0 hd1 hq
      · rw [e]; exact merge_sign h.ld hd1 hd0 hq
    have od' : Occ s l n (joinC d x y) := hod.of sgd
    have updj : Rf n d (joinC d x y) := by
      rcases joinC_merge d x y with e | e
      · rw [e]; exact Rf.of_merge h.ld _ _
      · rw [e]; exact Rf.of_merge h.ld _ _
    have jxy : cget (joinC d x y) x = cget (joinC d x y) y := by
      rcases joinC_merge d x y with e | e
      · rw [e]; exact merge_eq h.ld hx hy
      · rw [e]; exact (merge_eq h.ld hy hx).symm
    have dnj : ∀ e, Rf n d e → cget e x = cget e y → Rf n (joinC d x y) e := fun e hr hxy => by
      rcases joinC_merge d x y with e' | e'
      · rw [e']; exact Rf.merge h.ld hr hx hy hxy
      · rw [e']; exact Rf.merge h.ld hr hy hx hxy.symm
    have K1 := closeC_spec hiL (c.length * c.length + 1) (mergeC c x y) lc' oc' (by have := uneq_le (mergeC c x y); rw [mergeC_len] at this; omega)
    have K2 := lwClose_spec hn (d.length * d.length + 1) (joinC d x y) ld' od' (by have := uneq_le (joinC d x y); rw [joinC_len] at this; omega)
    have L2 := lwClose_lst hn (d.length * d.length + 1) (joinC d x y) ld' od' (h.ls.join h.ld hx hy hd0 hd1)
    have sgc : ∀ q, q < n → (cget (mergeC c x y) q < 0 ↔ cget c q < 0) := fun q hq => merge_sign h.lc hc0 hc1 hq
    have S : Sm n (closeC s l (c.length * c.length + 1) (mergeC c x y)) (lwClose s l (d.length * d.length + 1) (joinC d x y)) := by
      refine ⟨K1.dn _ K2.cl (fun q hq => ?_) ?_, K2.dn _ K1.cl (fun q hq => ?_) ?_, fun q hq => ?_⟩
      · rw [K2.sg q hq, sgd q hq, h.sm.sg q hq, sgc q hq]
      · exact Rf.merge h.lc ((h.sm.r.trans updj).trans K2.up) hx hy (K2.up x y hx hy jxy)
      · rw [K1.sg q hq, sgc q hq, sgd q hq, h.sm.sg q hq]
      · exact dnj _ ((h.sm.q.trans (Rf.of_merge h.lc _ _)).trans K1.up) (K1.up x y hx hy (merge_eq h.lc hx hy))
      · rw [K2.sg q hq, sgd q hq, h.sm.sg q hq, K1.sg q hq, sgc q hq]
    have hcons := cons_same hi K1.len K2.len S
    unfold lwMerge
    by_cases hk : consAll l (closeC s l (c.length * c.length + 1) (mergeC c x y)) = true
    · rw [if_pos hk, if_pos (by rw [← hcons]; exact hk)]
      exact ⟨K1.len, K2.len, S, oc'.of K1.sg, L2⟩
    · rw [if_neg hk, if_neg (by rw [← hcons]; exact hk)]
      exact h
def lwTX (s : Aut) (l : List Ctl) (n : Nat) (c : List Int) (x : Nat) : List Int := (List.range' (x + 1) (n - (x + 1))).foldl (fun c y => lwTry s l c x y) c
def lwA (s : Aut) (l : List Ctl) (c : List Int) : List Int := (List.range' 0 c.length).foldl (lwTX s l c.length) c
theorem fold_two {α : Type} {f g : List Int → α → List Int} {P : α → Prop} {I : List Int → List Int → Prop} (h : ∀ c d a, P a → I c d → I (f c a) (g d a)) : ∀ (rs : List α) (c d : List Int), (∀ a ∈ rs, P a) → I c d → I (rs.foldl f c) (rs.foldl g d)
  | [], _, _, _, hI => hI
  | a :: rs, c, d, hP, hI => fold_two h rs _ _ (fun b hb => hP b (List.mem_cons_of_mem _ hb)) (h c d a (hP a List.mem_cons_self) hI)
theorem cls_same (hi : IncA l n) (hn : Nx s l n) {c d : List Int} (h : TrI s l n c d) : TrI s l n (clsA s l c) (lwA s l d) := by
  unfold clsA lwA
  rw [h.lc, h.ld]
  refine fold_two (P := fun x => x < n) (I := TrI s l n) (fun c d x hx hI => ?_) _ c d (fun x hx => by rw [List.mem_range'_1] at hx; omega) h
  unfold tryX lwTX
  exact fold_two (f := fun c y => tryC s l c x y) (g := fun d y => lwTry s l d x y) (P := fun y => y < n) (I := TrI s l n) (fun c d y hy hI => try_same hi hn hI hx hy) (List.range' (x + 1) (n - (x + 1))) c d (fun y hy => by rw [List.mem_range'_1] at hy; omega) hI
end
/-! ### The numbers -/
def lwN (d : List Int) (z : List Int × Nat) (x : Nat) : List Int × Nat :=
  if cget d x < 0 then (z.1 ++ [-1], z.2) else if cget d x = x then (z.1 ++ [(z.2 : Int)], z.2 + 1) else (z.1 ++ [cget z.1 (cget d x).toNat], z.2)
def lwNums (d : List Int) : List Int × Nat := (List.range' 0 d.length).foldl (lwN d) ([], 0)
theorem idx_append {K : List Int} {a b : Int} (h : a ∈ K) : (K ++ [b]).idxOf a = K.idxOf a := by rw [List.idxOf_append, if_pos h]
theorem cget_snoc_lt {l : List Int} {a : Int} {i : Nat} (h : i < l.length) : cget (l ++ [a]) i = cget l i := cget_pre h
theorem cget_snoc_eq {l : List Int} {a : Int} : cget (l ++ [a]) l.length = a := by simp [cget, List.getD]
/-- While the numbers are given. -/
structure NmI (c d : List Int) (k : Nat) (z1 : List Int × List Int) (z2 : List Int × Nat) : Prop where
  eq : z1.2 = z2.1
  len : z1.2.length = k
  cnt : z1.1.length = z2.2 + 1
  neg : (-1 : Int) ∈ z1.1
  n0 : z1.1.idxOf (-1) = 0
  mem : ∀ b ∈ z1.1, b = -1 ∨ ∃ y, y < k ∧ cget c y = b ∧ 0 ≤ b
  inn : ∀ y, y < k → cget c y ∈ z1.1 ∧ cget z1.2 y = (z1.1.idxOf (cget c y) : Int) - 1
theorem num_same {n : Nat} {c d : List Int} (hc : c.length = n) (hd : d.length = n) (h : Sm n c d) (hL : Lst n d) (hm : ∀ x, x < n → cget c x < 0 → cget c x = -1) : ∀ k, k ≤ n → NmI c d k ((c.take k).foldl numS ([-1], [])) ((List.range' 0 k).foldl (lwN d) ([], 0))
  | 0, _ => ⟨rfl, rfl, rfl, by simp, by simp, fun b hb => .inl (by simpa using hb), fun y hy => by omega⟩
  | k + 1, hk => by
    have ih := num_same hc hd h hL hm k (by omega)
    have hkc : k < c.length := by omega
    rw [List.take_succ_eq_append_getElem hkc, List.foldl_append, List.range'_1_concat, List.foldl_append, Nat.zero_add]
    simp only [List.foldl_cons, List.foldl_nil]
    rw [cget_eq hkc]
    generalize (c.take k).foldl numS ([-1], []) = z1 at ih
    generalize (List.range' 0 k).foldl (lwN d) ([], 0) = z2 at ih
    have hk' : k < n := by omega
    have sk := h.sg k hk'
    have old : ∀ {K' : List Int} {a : Int}, (∀ b, b ∈ z1.1 → K'.idxOf b = z1.1.idxOf b ∧ b ∈ K') → ∀ y, y < k → cget c y ∈ K' ∧ cget (z1.2 ++ [a]) y = (K'.idxOf (cget c y) : Int) - 1 := fun hK y hy => by
      obtain ⟨i1, i2⟩ := ih.inn y hy
      obtain ⟨j1, j2⟩ := hK _ i1
      exact ⟨j2, by rw [cget_snoc_lt (by rw [ih.len]; exact hy), i2, j1]⟩
    have same : ∀ b, b ∈ z1.1 → z1.1.idxOf b = z1.1.idxOf b ∧ b ∈ z1.1 := fun b hb => ⟨rfl, hb⟩
    unfold numS lwN
    by_cases hneg : cget c k < 0
    · have e1 := hm k hk' hneg
      rw [if_pos (by rw [e1]; exact ih.neg), if_pos (by omega), e1, ih.n0]
      refine ⟨by simp [ih.eq], by simp [ih.len], ih.cnt, ih.neg, ih.n0, fun b hb => ?_, fun y hy => ?_⟩
      · rcases ih.mem b hb with a | ⟨y, y1, y2, y3⟩
        · exact .inl a
        · exact .inr ⟨y, by omega, y2, y3⟩
      · by_cases e : y = k
        · subst e
          refine ⟨by rw [e1]; exact ih.neg, ?_⟩
          rw [e1, ih.n0]
          have := cget_snoc_eq (l := z1.2) (a := ((0 : Nat) : Int) - 1)
          rw [ih.len] at this
          exact this
        · exact old same y (by omega)
    · rw [if_neg (show ¬ cget d k < 0 by omega)]
      have hd0 : 0 ≤ cget d k := by omega
      obtain ⟨m1, m2⟩ := hL k hk' hd0
      by_cases hin : cget c k ∈ z1.1
      · rw [if_pos hin]
        obtain ⟨y, y1, y2, y3⟩ := (ih.mem _ hin).resolve_left (by omega)
        have hy' : y < n := by omega
        have e2 : cget d y = cget d k := h.r y k hy' hk' y2
        have hy0 := hL y hy' (by omega)
        have hlt : (cget d k).toNat < k := by omega
        rw [if_neg (show ¬ cget d k = (k : Int) by omega)]
        have e3 : cget c (cget d k).toNat = cget c k := h.q _ k (by omega) hk' m2
        obtain ⟨j1, j2⟩ := ih.inn _ hlt
        rw [e3] at j2
        refine ⟨by rw [← ih.eq, j2], by simp [ih.len], ih.cnt, ih.neg, ih.n0, fun b hb => ?_, fun q hq => ?_⟩
        · rcases ih.mem b hb with a | ⟨y, y1, y2, y3⟩
          · exact .inl a
          · exact .inr ⟨y, by omega, y2, y3⟩
        · by_cases e : q = k
          · subst e
            refine ⟨hin, ?_⟩
            have := cget_snoc_eq (l := z1.2) (a := (z1.1.idxOf (cget c q) : Int) - 1)
            rw [ih.len] at this
            exact this
          · exact old same q (by omega)
      · rw [if_neg hin]
        have hself : cget d k = (k : Int) := by
          rcases Int.lt_or_le (cget d k) k with hlt | hge
          · exfalso
            have e3 : cget c (cget d k).toNat = cget c k := h.q _ k (by omega) hk' m2
            have := (ih.inn (cget d k).toNat (by omega)).1
            rw [e3] at this
            exact hin this
          · omega
        rw [if_pos hself]
        have hcnt := ih.cnt
        refine ⟨by simp only []; rw [← ih.eq]; congr 2; omega, by simp [ih.len], by simp; omega, List.mem_append_left _ ih.neg, by rw [idx_append ih.neg]; exact ih.n0, fun b hb => ?_, fun q hq => ?_⟩
        · rcases List.mem_append.1 hb with hb | hb
          · rcases ih.mem b hb with a | ⟨y, y1, y2, y3⟩
            · exact .inl a
            · exact .inr ⟨y, by omega, y2, y3⟩
          · simp only [List.mem_singleton] at hb; subst hb; exact .inr ⟨k, by omega, rfl, by omega⟩
        · by_cases e : q = k
          · subst e
            refine ⟨by simp, ?_⟩
            rw [List.idxOf_append, if_neg hin]
            have := cget_snoc_eq (l := z1.2) (a := (z1.1.length : Int) - 1)
            rw [ih.len] at this
            simp only [List.idxOf_cons_self, Nat.zero_add]
            exact this
          · exact old (fun b hb => ⟨idx_append hb, List.mem_append_left _ hb⟩) q (by omega)
end Go.Proofs.YtfhgnlkdcdlblaaDoor
/- SupervisorReduces, plain law, part 4: the Controls, the numbers, the reduced supervisor. -/
namespace Go.Proofs.YtfhgnlkdcdlblaaDoor
open Go.Lg

/-! ### The first classes -/
def occB (pairs : List (List Int)) (x : Nat) : Bool := pairs.any fun q => decide (py q = (x : Int))
def lw0 (n : Nat) (pairs : List (List Int)) : List Int := (List.range' 0 n).map fun x : Nat => if occB pairs x = true then (x : Int) else -1
theorem cget_range {n : Nat} (f : Nat → Int) {x : Nat} (h : x < n) : cget ((List.range' 0 n).map f) x = f x := by simp [cget, List.getD, h]
theorem cget_lw0 {n : Nat} {pairs : List (List Int)} {x : Nat} (h : x < n) : cget (lw0 n pairs) x = if occB pairs x = true then (x : Int) else -1 := cget_range _ h
theorem occs_get {n : Nat} {x : Nat} (hx : x < n) : ∀ (pairs : List (List Int)) (o : List Bool), o.length = n → (∀ q ∈ pairs, 0 ≤ py q ∧ py q < n) → (pairs.foldl (fun o q => o.set (py q).toNat true) o).getD x false = (o.getD x false || occB pairs x)
  | [], o, _, _ => by simp [occB]
  | q :: pairs, o, hl, hv => by
    have hq := hv q List.mem_cons_self
    rw [List.foldl_cons, occs_get hx pairs _ (by simpa using hl) (fun r hr => hv r (List.mem_cons_of_mem _ hr))]
    unfold occB
    rw [List.any_cons]
    by_cases e : py q = (x : Int)
    · have : (py q).toNat = x := by omega
      rw [this, decide_eq_true e]
      have h1 : (o.set x true).getD x false = true := by simp [List.getD, hl, hx]
      rw [h1]; simp
    · have : (py q).toNat ≠ x := by omega
      rw [decide_eq_false e]
      have h1 : (o.set (py q).toNat true).getD x false = o.getD x false := by simp [List.getD, List.getElem?_set_ne this]
      rw [h1]; simp
theorem cls0_eq {p s : Aut} {pairs : List (List Int)} (hv : ∀ q ∈ pairs, Vt [p, s] q) : cls0 (occs s.st.toNat pairs) = lw0 s.st.toNat pairs := by
  unfold cls0 lw0
  rw [occs_len]
  refine List.map_congr_left fun x hx => ?_
  rw [List.mem_range'_1] at hx
  have hx' : x < s.st.toNat := by omega
  unfold occs
  rw [occs_get hx' pairs (List.replicate s.st.toNat false) (by simp) (fun q hq => by
    obtain ⟨a, b, rfl, _, h2⟩ := Vt2 (hv q hq)
    show 0 ≤ (b : Int) ∧ (b : Int) < _
    omega)]
  have : (List.replicate s.st.toNat false).getD x false = false := by simp [List.getD, hx']
  rw [this, Bool.false_or]
theorem ctls_eq {p s : Aut} (hp : Okay p) (hs : Okay s) {pairs : List (List Int)} (hv : ∀ q ∈ pairs, Vt [p, s] q) : ctls p s pairs = (List.range' 0 s.st.toNat).map fun x : Nat => ctlD p s pairs x := by
  refine List.ext_getElem (by rw [ctls_len]; simp) fun i h1 h2 => ?_
  have h3 : i < s.st.toNat := by rw [ctls_len] at h1; exact h1
  have := ctls_def hp hs hv i h3
  unfold lget at this
  rw [List.getElem_map, List.getElem_range', Nat.zero_add, Nat.one_mul, ← this]
  simp [List.getD, h1]
section
variable {p s : Aut} {pairs : List (List Int)}
theorem ctls_incA (hp : Okay p) (hs : Okay s) (hv : ∀ q ∈ pairs, Vt [p, s] q) : IncA (ctls p s pairs) s.st.toNat := fun x hx => by
  rw [ctls_def hp hs hv x hx]
  exact ⟨List.Pairwise.sublist List.filter_sublist hs.ali, List.Pairwise.sublist List.filter_sublist hs.ali⟩
theorem ctls_en (hp : Okay p) (hs : Okay s) (hv : ∀ q ∈ pairs, Vt [p, s] q) {x : Nat} (hx : x < s.st.toNat) {e : Int} (he : e ∈ (lget (ctls p s pairs) x).en) : e ∈ s.al ∧ canX p pairs x e = true ∧ 0 ≤ nxt s.ed x e := by
  rw [ctls_def hp hs hv x hx] at he
  simp only [ctlD, List.mem_filter, Bool.and_eq_true, decide_eq_true_eq] at he
  exact ⟨he.1, he.2.1, he.2.2⟩
theorem ctls_nx (hp : Okay p) (hs : Okay s) (hv : ∀ q ∈ pairs, Vt [p, s] q) : Nx s (ctls p s pairs) s.st.toNat := fun x hx e he => by
  have h := (ctls_en hp hs hv hx he).2.2
  have h1 := h
  rw [nxt_eget] at h1 ⊢
  unfold to0
  cases hg : eget s.ed x e with
  | none => rw [hg] at h1; simp at h1
  | some u => rw [hg] at h1; exact ⟨rfl, h1⟩
theorem ctls_occ (hp : Okay p) (hs : Okay s) {A : Aut} (h : SyP [p, s] A pairs) : Occ s (ctls p s pairs) s.st.toNat (lw0 s.st.toNat pairs) := fun x hx _ e he => by
  have hv := h.v
  obtain ⟨h1, h2, h3⟩ := ctls_en hp hs hv hx he
  obtain ⟨n1, n2⟩ := ctls_nx hp hs hv x hx e he
  have hlt : nxt s.ed x e < s.st := (hs.ed _ (nxt_mem h3)).2.2.2.2
  have ho : ∀ a ∈ [p, s], Okay a := fun a ha => by
    simp only [List.mem_cons, List.not_mem_nil, or_false] at ha
    rcases ha with rfl | rfl
    · exact hp
    · exact hs
  -- the pair that leads there
  unfold canX at h2
  rw [List.any_eq_true] at h2
  obtain ⟨q, hq, hqx⟩ := h2
  simp only [Bool.and_eq_true, decide_eq_true_eq] at hqx
  obtain ⟨a, b, rfl, ha, hb⟩ := Vt2 (hv q hq)
  have e1 : px [(a : Int), (b : Int)] = (a : Int) := rfl
  have e2 : py [(a : Int), (b : Int)] = (b : Int) := rfl
  rw [e1, e2] at hqx
  obtain ⟨rfl, hpa⟩ : b = x ∧ 0 ≤ nxt p.ed a e := ⟨by omega, hqx.2⟩
  obtain ⟨j, hj, hqj⟩ := List.getElem_of_mem hq
  have hpal : e ∈ p.al := (hp.ed _ (nxt_mem hpa)).2.2.1
  have hev : e ∈ evs [p, s] := (evs_mem ho e).2 ⟨p, by simp, hpal⟩
  have hst : stepT e [p, s] [(a : Int), (b : Int)] = some [nxt p.ed a e, nxt s.ed b e] := by
    have g1 := (nxt_nonneg hp a e).1 hpa
    have g2 := (nxt_nonneg hs b e).1 h3
    obtain ⟨u, hu⟩ := Option.isSome_iff_exists.1 g1
    obtain ⟨t, ht⟩ := Option.isSome_iff_exists.1 g2
    have f1 : nxt p.ed a e = u := by rw [nxt_eget, hu]
    have f2 : nxt s.ed b e = t := by rw [nxt_eget, ht]
    rw [stepT, if_neg (fun h => h hpal), hu, stepT, if_neg (fun h => h h1), ht, f1, f2]
    rfl
  have hg : pairs.getD j [] = [(a : Int), (b : Int)] := by rw [← hqj]; simp [List.getD, hj]
  have hm := h.cl j hj e hev _ (by rw [hg]; exact hst)
  have hto : (to0 s b e).toNat < s.st.toNat := by rw [← n1]; omega
  refine ⟨hto, ?_⟩
  rw [cget_lw0 hto, if_pos]
  · omega
  · unfold occB
    rw [List.any_eq_true]
    refine ⟨_, hm, ?_⟩
    have e3 : py [nxt p.ed a e, nxt s.ed b e] = nxt s.ed b e := rfl
    rw [e3, n1]; simp; omega
theorem lw0_tri (hp : Okay p) (hs : Okay s) {A : Aut} (h : SyP [p, s] A pairs) : TrI s (ctls p s pairs) s.st.toNat (lw0 s.st.toNat pairs) (lw0 s.st.toNat pairs) := by
  refine ⟨by simp [lw0], by simp [lw0], Sm.refl _ _, ctls_occ hp hs h, fun x hx h0 => ?_⟩
  rw [cget_lw0 hx] at h0 ⊢
  split at h0
  · rename_i ho
    rw [if_pos ho]
    refine ⟨Int.le_refl _, ?_⟩
    rw [Int.toNat_natCast, cget_lw0 hx, if_pos ho]
  · omega
end
/-! ### Labels that are no classes are -1 -/
def Ng (c : List Int) : Prop := ∀ x, cget c x < 0 → cget c x = -1
theorem Ng.merge {c : List Int} (h : Ng c) (u v : Nat) : Ng (mergeC c u v) := by
  intro x hx
  rcases Nat.lt_or_ge x c.length with hl | hl
  · rw [cget_merge hl] at hx ⊢
    split at hx
    · rename_i e; rw [if_pos e]; exact h u hx
    · rename_i e; rw [if_neg e]; exact h x hx
  · have : cget (mergeC c u v) x = 0 := by simp [cget, List.getD, mergeC_len, hl]
    omega
theorem Stps.ng {s : Aut} {l : List Ctl} {n : Nat} {z z' : List Int × Bool} (h : Stps s l n z z') (hn : Ng z.1) : Ng z'.1 := by
  induction h with
  | refl => exact hn
  | step u t _ _ _ ih => exact ih.merge u t
section
variable {s : Aut} {l : List Ctl} {n : Nat}
theorem closeC_ng (hi : IncL l n) : ∀ (f : Nat) (c : List Int), c.length = n → Occ s l n c → Ng c → Ng (closeC s l f c)
  | 0, _, _, _, h => h
  | f + 1, c, hl, ho, hN => by
    have hs := pass_stps hi c hl ho
    have k := hs.kp hl ho
    rw [closeC]
    split
    · exact closeC_ng hi f _ k.len (ho.of k.sg) (hs.ng hN)
    · exact hs.ng hN
theorem clsA_ng (hi : IncA l n) (hn : Nx s l n) {c d : List Int} (h : TrI s l n c d) (hN : Ng c) : Ng (clsA s l c) := by
  have key : TrI s l n (clsA s l c) (lwA s l d) ∧ Ng (clsA s l c) := by
    unfold clsA lwA
    rw [h.lc, h.ld]
    refine fold_two (P := fun x => x < n) (I := fun c d => TrI s l n c d ∧ Ng c) (fun c d x hx hI => ?_) _ c d (fun x hx => by rw [List.mem_range'_1] at hx; omega) ⟨h, hN⟩
    unfold tryX lwTX
    refine fold_two (f := fun c y => tryC s l c x y) (g := fun d y => lwTry s l d x y) (P := fun y => y < n) (I := fun c d => TrI s l n c d ∧ Ng c) (fun c d y hy hI => ⟨try_same hi hn hI.1 hx hy, ?_⟩) (List.range' (x + 1) (n - (x + 1))) c d (fun y hy => by rw [List.mem_range'_1] at hy; omega) hI
    unfold tryC
    split
    · exact hI.2
    · rename_i h1
      have hc0 : 0 ≤ cget c x := by omega
      have hc1 : 0 ≤ cget c y := by omega
      have := closeC_ng (s := s) (fun x hx => (hi x hx).1) (c.length * c.length + 1) (mergeC c x y) (by rw [mergeC_len]; exact hI.1.lc) (hI.1.oc.of fun q hq => merge_sign hI.1.lc hc0 hc1 hq) (hI.2.merge x y)
      simp only []
      split
      · exact this
      · exact hI.2
  exact key.2
end
/-! ### The numbers and their greatest -/
theorem numMax {n : Nat} {c d : List Int} (hc : c.length = n) (hd : d.length = n) (h : Sm n c d) (hL : Lst n d) (hm : ∀ x, x < n → cget c x < 0 → cget c x = -1) : ∀ k, k ≤ n → ((List.range' 0 k).foldl (lwN d) ([], 0)).2 = 0 ∨ ∃ y, y < k ∧ cget ((List.range' 0 k).foldl (lwN d) ([], 0)).1 y = (((List.range' 0 k).foldl (lwN d) ([], 0)).2 : Int) - 1
  | 0, _ => .inl rfl
  | k + 1, hk => by
    have ih := numMax hc hd h hL hm k (by omega)
    have I := num_same hc hd h hL hm k (by omega)
    have hlen := I.len
    rw [I.eq] at hlen
    rw [List.range'_1_concat, List.foldl_append, Nat.zero_add]
    simp only [List.foldl_cons, List.foldl_nil]
    generalize (List.range' 0 k).foldl (lwN d) ([], 0) = z at ih hlen
    unfold lwN
    split
    · rcases ih with h1 | ⟨y, h1, h2⟩
      · exact .inl h1
      · exact .inr ⟨y, by omega, by simp only []; rw [cget_snoc_lt (by omega)]; exact h2⟩
    · split
      · right
        refine ⟨k, by omega, ?_⟩
        have := cget_snoc_eq (l := z.1) (a := (z.2 : Int))
        rw [hlen] at this
        simp only []
        rw [this]; omega
      · rcases ih with h1 | ⟨y, h1, h2⟩
        · exact .inl h1
        · exact .inr ⟨y, by omega, by simp only []; rw [cget_snoc_lt (by omega)]; exact h2⟩
theorem maxI_ge {l : List Int} {x : Nat} (h : x < l.length) : cget l x ≤ maxI l := by
  have key : ∀ (r : List Int) (m : Int), m ≤ r.foldl max m ∧ ∀ a ∈ r, a ≤ r.foldl max m := by
    intro r
    induction r with
    | nil => intro m; exact ⟨Int.le_refl _, fun a ha => by cases ha⟩
    | cons b r ih =>
      intro m
      rw [List.foldl_cons]
      obtain ⟨h1, h2⟩ := ih (max m b)
      refine ⟨by omega, fun a ha => ?_⟩
      rcases List.mem_cons.1 ha with rfl | ha
      · omega
      · exact h2 a ha
  cases l with
  | nil => simp at h
  | cons a l =>
    unfold maxI
    have e : cget (a :: l) 0 = a := rfl
    rw [e]
    simp only [List.drop_succ_cons, List.drop_zero]
    obtain ⟨h1, h2⟩ := key l a
    cases x with
    | zero => exact h1
    | succ x =>
      have hx : x < l.length := by simpa using h
      have : cget (a :: l) (x + 1) = l[x] := by simp [cget, List.getD, hx]
      rw [this]; exact h2 _ (List.getElem_mem hx)
/-- What the numbers are. -/
structure NmR (n : Nat) (c d : List Int) : Prop where
  eq : nums c = (lwNums d).1
  len : (nums c).length = n
  lo : ∀ x, x < n → (cget (nums c) x < 0 ↔ cget c x < 0)
  m1 : ∀ x, x < n → -1 ≤ cget (nums c) x
  hi : ∀ x, x < n → cget (nums c) x < (lwNums d).2
  mx : 0 < n → maxI (nums c) + 1 = (lwNums d).2
theorem num_all {n : Nat} {c d : List Int} (hc : c.length = n) (hd : d.length = n) (h : Sm n c d) (hL : Lst n d) (hm : ∀ x, x < n → cget c x < 0 → cget c x = -1) : NmR n c d := by
  have I := num_same hc hd h hL hm n (Nat.le_refl _)
  have M := numMax hc hd h hL hm n (Nat.le_refl _)
  rw [List.take_of_length_le (by omega)] at I
  have e1 : (c.foldl numS ([-1], [])).2 = nums c := rfl
  have e2 : (List.range' 0 n).foldl (lwN d) ([], 0) = lwNums d := by unfold lwNums; rw [hd]
  rw [e2] at I M
  have hcnt := I.cnt
  have hhi : ∀ x, x < n → -1 ≤ cget (nums c) x ∧ cget (nums c) x < (lwNums d).2 := fun x hx => by
    obtain ⟨h1, h2⟩ := I.inn x hx
    rw [e1] at h2
    have := List.idxOf_lt_length_of_mem h1
    rw [h2]; omega
  refine ⟨I.eq, I.len, fun x hx => ?_, fun x hx => (hhi x hx).1, fun x hx => (hhi x hx).2, fun h0 => ?_⟩
  · obtain ⟨h1, h2⟩ := I.inn x hx
    rw [e1] at h2
    constructor
    · intro h3
      have h4 : (c.foldl numS ([-1], [])).1.idxOf (cget c x) = 0 := by omega
      have h5 := List.getElem_idxOf (List.idxOf_lt_length_of_mem h1)
      have h6 := List.getElem_idxOf (List.idxOf_lt_length_of_mem I.neg)
      simp only [h4] at h5
      simp only [I.n0] at h6
      rw [h5] at h6
      omega
    · intro h3
      rw [hm x hx h3, I.n0] at h2
      omega
  · have hlen : 0 < (nums c).length := by rw [← e1, I.len]; exact h0
    have hle : (nums c).length = n := by rw [← e1, I.len]
    obtain ⟨x, hx, hxe⟩ := List.getElem_of_mem (maxI_mem hlen)
    rw [cget_eq hx] at hxe
    have h1 := hhi x (by omega)
    rcases M with h2 | ⟨y, hy, h2⟩
    · have := h1.1; rw [← hxe]; omega
    · rw [← I.eq, e1] at h2
      have := maxI_ge (l := nums c) (x := y) (by omega)
      rw [← hxe] at this ⊢
      omega
end Go.Proofs.YtfhgnlkdcdlblaaDoor
/- Contracts: automaton.next, follow, reached, Generates, Accepts. -/
namespace Go.Proofs.YtfhgnlkdcdlblaaDoor
open Go.Lg

/-- What IndexFunc answers. -/
def IxQ {α : Type} (q : α → Bool) (es : List α) (r : Value) : Prop := (r = .int .i64 (-1) ∧ ∀ m (hm : m < es.length), q (es[m]'hm) = false) ∨ ∃ (i : Nat) (hi : i < es.length), r = .int .i64 i ∧ q (es[i]'hi) = true ∧ ∀ m (hm : m < i), q (es[m]'(by omega)) = false
theorem ixfE_ok {g : Nat} {fn : Func} [Fu Tryd.prog g fn] {cap : List Value} {q : Ed → Bool} {L : List Nat} {w : World} {v : Value} {es : List Ed} (h : Eds L w.heap v es)
    (hk : ∀ (e : Ed) (w1 : World), Step [] w w1 → Ret Tryd.prog g ([.agg (edCells e).toArray] ++ cap) w1 fun r w' => r = .bool (q e) ∧ Step [] w1 w') :
    Ret Tryd.prog 106 [v, .func (.func g) #[] cap.toArray] w fun r w' => Step [] w w' ∧ IxQ q es r := by
  have hle := h.le
  refine Ret.of_W Tryd.func106 rfl Tryd.ntmps106 Tryd.results106 (by simp) ?_
  refine W_seq <| W_region (by rfl) ?_
  refine x r_assign <| xe ?_
  refine W_seq <| W_seq <| W_region (by rfl) ?_
  refine x r_move <| x (r_lenA h rfl) <| x r_move <| xe ?_
  refine W_block <| W_loop (α := Nat) [(4, 5), (8, 18)] (fun z => [(8, .int .i64 z)]) (fun z w' => z ≤ es.length ∧ Step [] w w' ∧ ∀ m (hm : m < es.length), m < z → q (es[m]'hm) = false) (fun z => es.length - z) (by rfl) 0 ⟨rfl, trivial⟩ ⟨Nat.zero_le _, Step.refl _ _, fun m _ h0 => absurd h0 (Nat.not_lt_zero m)⟩ ?_
  rintro k g1 w1 ⟨hk1, hs1, hq⟩
  refine W_seq <| W_region (by rfl) ?_
  refine x (r_lss rfl rfl) <| xe ?_
  refine W_seq <| W_ifn rfl (fun h9 => ?_) (fun h9 => ?_)
  · refine W_exit ?_
    refine W_seq <| W_region (by rfl) ?_
    refine x r_assign <| xe ?_
    exact W_ret ⟨[.int .i64 (-1)], ⟨rfl, trivial⟩, hs1, .inl ⟨rfl, fun m hm => hq m hm (by omega)⟩⟩
  have hlt : k < es.length := by omega
  refine W_skip ?_
  refine W_seq <| W_block <| W_seq <| W_region (by rfl) ?_
  refine x r_move <| x r_assign <| xe ?_
  refine W_seq <| W_region (by rfl) ?_
  refine x r_move <| x r_move <| x r_move <| xie (h.ext hs1) rfl rfl hlt fun a14 h14 => x (r_loadsA h14 rfl rfl) <| xl rfl <| xc (first := []) (capt := cap) rfl <| (hk (es[k]'hlt) w1 hs1).mono ?_
  rintro r2 w2 ⟨rfl, hs2⟩
  refine xe ?_
  refine W_cond rfl (fun h16 => ?_) (fun h16 => ?_)
  · refine W_seq <| W_region (by rfl) ?_
    refine x r_move <| x r_assign <| xe ?_
    exact W_ret ⟨[.int .i64 k], ⟨rfl, trivial⟩, hs1.trans hs2, .inr ⟨k, hlt, rfl, h16, fun m hm => hq m (by omega) hm⟩⟩
  refine W_skip ?_
  refine W_region (by rfl) ?_
  refine x (r_add rfl rfl ⟨by omega, by omega⟩) <| x r_move <| xe ?_
  refine ⟨k + 1, by omega, ⟨rfl, trivial⟩, hlt, hs1.trans hs2, fun m hm hmk => ?_⟩
  by_cases e : m = k
  · subst e; exact h16
  · exact hq m hm (by omega)
theorem ixfI_ok {g : Nat} {fn : Func} [Fu Tryd.prog g fn] {cap : List Value} {q : Int → Bool} {L : List Nat} {w : World} {v : Value} {es : List Int} (h : Ints L w.heap v es)
    (hk : ∀ (e : Int) (w1 : World), Step [] w w1 → Ret Tryd.prog g ([.int .i64 e] ++ cap) w1 fun r w' => r = .bool (q e) ∧ Step [] w1 w') :
    Ret Tryd.prog 100 [v, .func (.func g) #[] cap.toArray] w fun r w' => Step [] w w' ∧ IxQ q es r := by
  have hle := h.le
  refine Ret.of_W Tryd.func100 rfl Tryd.ntmps100 Tryd.results100 (by simp) ?_
  refine W_seq <| W_region (by rfl) ?_
  refine x r_assign <| xe ?_
  refine W_seq <| W_seq <| W_region (by rfl) ?_
  refine x r_move <| x (r_lenA h rfl) <| x r_move <| xe ?_
  refine W_block <| W_loop (α := Nat) [(4, 5), (8, 18)] (fun z => [(8, .int .i64 z)]) (fun z w' => z ≤ es.length ∧ Step [] w w' ∧ ∀ m (hm : m < es.length), m < z → q (es[m]'hm) = false) (fun z => es.length - z) (by rfl) 0 ⟨rfl, trivial⟩ ⟨Nat.zero_le _, Step.refl _ _, fun m _ h0 => absurd h0 (Nat.not_lt_zero m)⟩ ?_
  rintro k g1 w1 ⟨hk1, hs1, hq⟩
  refine W_seq <| W_region (by rfl) ?_
  refine x (r_lss rfl rfl) <| xe ?_
  refine W_seq <| W_ifn rfl (fun h9 => ?_) (fun h9 => ?_)
  · refine W_exit ?_
    refine W_seq <| W_region (by rfl) ?_
    refine x r_assign <| xe ?_
    exact W_ret ⟨[.int .i64 (-1)], ⟨rfl, trivial⟩, hs1, .inl ⟨rfl, fun m hm => hq m hm (by omega)⟩⟩
  have hlt : k < es.length := by omega
  refine W_skip ?_
  refine W_seq <| W_block <| W_seq <| W_region (by rfl) ?_
  refine x r_move <| x r_assign <| xe ?_
  refine W_seq <| W_region (by rfl) ?_
  refine x r_move <| x r_move <| x r_move <| xii (h.ext hs1) rfl rfl hlt fun a14 h14 => x (r_loadA h14 rfl) <| xl rfl <| xc (first := []) (capt := cap) rfl <| (hk (es[k]'hlt) w1 hs1).mono ?_
  rintro r2 w2 ⟨rfl, hs2⟩
  refine xe ?_
  refine W_cond rfl (fun h16 => ?_) (fun h16 => ?_)
  · refine W_seq <| W_region (by rfl) ?_
    refine x r_move <| x r_assign <| xe ?_
    exact W_ret ⟨[.int .i64 k], ⟨rfl, trivial⟩, hs1.trans hs2, .inr ⟨k, hlt, rfl, h16, fun m hm => hq m (by omega) hm⟩⟩
  refine W_skip ?_
  refine W_region (by rfl) ?_
  refine x (r_add rfl rfl ⟨by omega, by omega⟩) <| x r_move <| xe ?_
  refine ⟨k + 1, by omega, ⟨rfl, trivial⟩, hlt, hs1.trans hs2, fun m hm hmk => ?_⟩
  by_cases e : m = k
  · subst e; exact h16
  · exact hq m hm (by omega)
theorem cnfI_ok {g : Nat} {fn : Func} [Fu Tryd.prog g fn] {cap : List Value} {q : Int → Bool} {L : List Nat} {w : World} {v : Value} {es : List Int} (h : Ints L w.heap v es)
    (hk : ∀ (e : Int) (w1 : World), Step [] w w1 → Ret Tryd.prog g ([.int .i64 e] ++ cap) w1 fun r w' => r = .bool (q e) ∧ Step [] w1 w') :
    Ret Tryd.prog 84 [v, .func (.func g) #[] cap.toArray] w fun r w' => r = .bool (es.any q) ∧ Step [] w w' := by
  refine Ret.of_W Tryd.func84 rfl Tryd.ntmps84 Tryd.results84 (by simp) ?_
  refine W_seq <| W_region (by rfl) ?_
  refine x r_assign <| xe ?_
  refine W_seq <| W_region (by rfl) ?_
  refine x r_move <| x r_move <| xl rfl <| xf <| (ixfI_ok h hk).mono ?_
  rintro r1 w1 ⟨hs1, hr⟩
  refine Or.elim hr (fun hr => ?_) (fun hr => ?_)
  · obtain ⟨rfl, hq⟩ := hr
    have e : es.any q = false := by
      rw [List.any_eq_false]
      intro z hz
      obtain ⟨i, hi, rfl⟩ := List.getElem_of_mem hz
      rw [hq i hi]; simp
    refine x (r_geq rfl rfl) <| x r_assign <| xe ?_
    exact W_ret ⟨[.bool false], ⟨rfl, trivial⟩, by rw [e]; rfl, hs1⟩
  · obtain ⟨i, hi, rfl, h1, _⟩ := hr
    have e : es.any q = true := List.any_eq_true.2 ⟨_, List.getElem_mem hi, h1⟩
    have e2 : decide ((0 : Int) ≤ (i : Int)) = true := by simp
    refine x (r_geq rfl rfl) <| x r_assign <| xe ?_
    exact W_ret ⟨[.bool (decide ((0 : Int) ≤ (i : Int)))], ⟨rfl, trivial⟩, by rw [e, e2]; rfl, hs1⟩

/-! ### automaton.next -/
theorem nxt_out (es : List Ed) (s v : Int) : nxt es s v = nxt (outE es s) s v := by
  induction es with
  | nil => rfl
  | cons e es ih =>
    unfold outE at *
    rw [List.filter_cons]
    by_cases h : e.1 = s
    · rw [if_pos (by simpa using h), nxt, nxt, ih]
    · rw [if_neg (by simpa using h), nxt, if_neg (fun c => h c.1), ih]
theorem nxt_at : ∀ (l : List Ed) (s v : Int) (i : Nat) (hi : i < l.length), (∀ e ∈ l, e.1 = s) → (l[i]'hi).2.1 = v → (∀ m (hm : m < i), (l[m]'(by omega)).2.1 ≠ v) → nxt l s v = (l[i]'hi).2.2
  | e :: l, s, v, 0, _, hs, hv, _ => by rw [nxt, if_pos ⟨hs e List.mem_cons_self, hv⟩]; rfl
  | e :: l, s, v, i + 1, hi, hs, hv, hm => by
    rw [nxt, if_neg (fun c => hm 0 (by omega) c.2)]
    exact nxt_at l s v i (by simpa using hi) (fun e he => hs e (List.mem_cons_of_mem _ he)) hv (fun m hm' => hm (m + 1) (by omega))
theorem nxt_no : ∀ (l : List Ed) (s v : Int), (∀ e ∈ l, e.2.1 ≠ v) → nxt l s v = -1
  | [], _, _, _ => rfl
  | e :: l, s, v, h => by rw [nxt, if_neg (fun c => h e List.mem_cons_self c.2)]; exact nxt_no l s v (fun e he => h e (List.mem_cons_of_mem _ he))
theorem next1_ok {b T : Nat} {n : Int} (e : Ed) (w : World) (hB : Blk w.heap b T [.int .i64 n]) :
    Ret Tryd.prog 107 ([.agg (edCells e).toArray] ++ [.pointer (some ⟨b, 0, none⟩)]) w fun r w' => r = .bool (decide (e.2.1 = n)) ∧ Step [] w w' := by
  refine Ret.of_W Tryd.func107 rfl Tryd.ntmps107 Tryd.results107 (by simp) ?_
  refine W_seq <| W_region (by rfl) ?_
  refine xl rfl <| o_box (us := edCells e) rfl fun b2 w1 hs1 hb2 hB2 => x r_assign <| xe ?_
  refine W_seq <| W_region (by rfl) ?_
  refine x (r_fieldB rfl) <| x (r_loadB hB2 rfl rfl) <| x (r_loadB (hB.ext hs1) rfl rfl) <| x (r_eql rfl rfl) <| x r_assign <| xe ?_
  exact W_ret ⟨[_], ⟨rfl, trivial⟩, rfl, hs1⟩
theorem anext_ok {L : List Nat} {w : World} {va vm ve : Value} {st : Int} {a : Aut} (h : Eds L w.heap ve a.ed) (ho : Okay a) (s v : Int) (hs0 : 0 ≤ s) (hs1 : s < a.st) :
    Ret Tryd.prog 101 [.agg #[va, .int .i64 st, vm, ve], .int .i64 s, .int .i64 v] w fun r w' => r = .int .i64 (nxt a.ed s v) ∧ Step [] w w' := by
  have hst := ho.st1
  refine Ret.of_W Tryd.func101 rfl Tryd.ntmps101 Tryd.results101 (by simp) ?_
  refine W_seq <| W_region (by rfl) ?_
  refine xl rfl <| o_box (us := [va, .int .i64 st, vm, ve]) rfl fun b3 w1 hs1 hb3 hB3 => xl rfl <| o_box (us := [.int .i64 v]) rfl fun b5 w2 hs2 hb5 hB5 => x r_assign <| xe ?_
  refine W_seq <| W_region (by rfl) ?_
  refine x (r_loadsB (hB3.ext hs2) rfl rfl) <| x r_move <| xl rfl <| xf <| (out_ok ((h.ext hs1).ext hs2) ho.eds (fun e he => ⟨(ho.ed e he).1, by have := (ho.ed e he).2.1; omega⟩) s hs0 (by omega)).mono ?_
  rintro vo w3 ⟨hs3, hE⟩
  refine x r_assign <| xe ?_
  have hall : ∀ e ∈ outE a.ed s, e.1 = s := fun e he => (outE_mem he).2
  rw [nxt_out]
  refine W_seq <| W_region (by rfl) ?_
  refine x r_move <| x (r_makeFunc (l := []) (l' := [.tmp 5])) <| xl rfl <| xf <| (ixfE_ok (q := fun e => decide (e.2.1 = v)) (cap := [.pointer (some ⟨b5, 0, none⟩)]) hE (fun e w4 hs4 => next1_ok e w4 ((hB5.ext hs3).ext hs4))).mono ?_
  rintro r4 w4 ⟨hs4, hr⟩
  have hW := ((hs1.trans hs2).trans hs3).trans hs4
  refine Or.elim hr (fun hr => ?_) (fun hr => ?_)
  · obtain ⟨rfl, hq⟩ := hr
    have e1 : nxt (outE a.ed s) s v = -1 := nxt_no _ _ _ fun e he => by
      obtain ⟨i, hi, rfl⟩ := List.getElem_of_mem he
      simpa using hq i hi
    rw [e1]
    refine x r_assign <| xe ?_
    refine W_seq <| W_seq <| W_region (by rfl) ?_
    refine x r_move <| x (r_lss rfl rfl) <| xe ?_
    refine W_true rfl ?_
    refine W_seq <| W_region (by rfl) ?_
    refine x r_assign <| xe ?_
    exact W_ret ⟨[.int .i64 (-1)], ⟨rfl, trivial⟩, rfl, hW⟩
  · obtain ⟨i, hi, rfl, h1, h2⟩ := hr
    have e1 : nxt (outE a.ed s) s v = ((outE a.ed s)[i]'hi).2.2 := nxt_at _ s v i hi hall (by simpa using h1) (fun m hm => by simpa using h2 m hm)
    rw [e1]
    refine x r_assign <| xe ?_
    refine W_seq <| W_seq <| W_region (by rfl) ?_
    refine x r_move <| x (r_lss rfl rfl) <| xe ?_
    refine W_if rfl (fun h16 => absurd h16 (by omega)) (fun h16 => ?_)
    refine W_skip ?_
    refine W_seq <| W_region (by rfl) ?_
    refine x r_move <| x r_move <| xie (hE.ext hs4) rfl rfl hi fun a19 h19 => x (r_field rfl) <| x (r_loadA (h19.fld 2 _ rfl) rfl) <| x r_assign <| xe ?_
    exact W_ret ⟨[_], ⟨rfl, trivial⟩, rfl, hW⟩

/-! ### follow -/
def flw (a : Aut) : Int → List Int → Int × Nat
  | s, [] => (s, 0)
  | s, v :: u => if nxt a.ed s v < 0 then (s, 0) else ((flw a (nxt a.ed s v) u).1, (flw a (nxt a.ed s v) u).2 + 1)
theorem flw_le (a : Aut) : ∀ (u : List Int) (s : Int), (flw a s u).2 ≤ u.length
  | [], s => by simp [flw]
  | v :: u, s => by
    rw [flw]
    split
    · simp
    · have := flw_le a u (nxt a.ed s v); simp; omega
theorem nxt_lt {a : Aut} (ho : Okay a) {s v : Int} (h : ¬ nxt a.ed s v < 0) : nxt a.ed s v < a.st := (ho.ed _ (nxt_mem (by omega))).2.2.2.2
theorem follow_ok {L L' : List Nat} {w : World} {va vm ve vw : Value} {st : Int} {a : Aut} {u : List Int} (h : Eds L w.heap ve a.ed) (hw : Ints L' w.heap vw u) (ho : Okay a) (s : Int) (hs0 : 0 ≤ s) (hs1 : s < a.st) :
    Ret Tryd.prog 86 [.agg #[va, .int .i64 st, vm, ve], .int .i64 s, vw] w fun r w' => r = .tuple #[.int .i64 (flw a s u).1, .int .i64 (flw a s u).2] ∧ Step [] w w' := by
  have hle := hw.le
  refine Ret.of_W Tryd.func86 rfl Tryd.ntmps86 Tryd.results86 (by simp) ?_
  refine W_seq <| W_region (by rfl) ?_
  refine xl rfl <| o_box (us := [va, .int .i64 st, vm, ve]) rfl fun b3 w1 hs1 hb3 hB3 => x r_assign <| x r_assign <| xe ?_
  refine W_seq <| W_seq <| W_region (by rfl) ?_
  refine x r_move <| x (r_lenA hw rfl) <| x r_move <| xe ?_
  refine W_block <| W_loop (α := Nat × Int) [(1, 1), (6, 10), (13, 27)] (fun z => [(1, .int .i64 z.2), (13, .int .i64 z.1)]) (fun z w' => z.1 ≤ u.length ∧ 0 ≤ z.2 ∧ z.2 < a.st ∧ Step [] w1 w' ∧ flw a s u = ((flw a z.2 (u.drop z.1)).1, (flw a z.2 (u.drop z.1)).2 + z.1)) (fun z => u.length - z.1) (by rfl) (0, s) ⟨rfl, rfl, trivial⟩ ⟨Nat.zero_le _, hs0, by assumption, Step.refl _ _, by simp⟩ ?_
  rintro ⟨k, t⟩ g w2 ⟨hk, ht0, ht1, hs2, hf⟩
  simp only [] at hk ht0 ht1 hf
  have hW2 := hs1.trans hs2
  refine W_seq <| W_region (by rfl) ?_
  refine x (r_lss rfl rfl) <| xe ?_
  refine W_seq <| W_ifn rfl (fun h14 => ?_) (fun h14 => ?_)
  · refine W_exit ?_
    refine W_seq <| W_region (by rfl) ?_
    refine x r_move <| x r_move <| x (r_lenA hw rfl) <| x r_assign <| x r_assign <| xe ?_
    rw [List.drop_of_length_le (by omega)] at hf
    have hk2 : k = u.length := by have h15 : ¬ (k : Int) < (u.length : Int) := h14; omega
    refine W_ret ⟨[.int .i64 t, .int .i64 u.length], ⟨rfl, rfl, trivial⟩, ?_, hW2⟩
    rw [hf, hk2]
    simp [flw, tup]
  have hlt : k < u.length := by omega
  rw [drop_cons hlt, flw] at hf
  refine W_skip ?_
  refine W_seq <| W_block <| W_seq <| W_region (by rfl) ?_
  refine x r_move <| xii (hw.ext hW2) rfl rfl hlt fun a16 h16 => x (r_loadA h16 rfl) <| x r_assign <| x r_assign <| xe ?_
  refine W_seq <| W_region (by rfl) ?_
  refine x (r_loadsB (hB3.ext hs2) rfl rfl) <| x r_move <| x r_move <| xl rfl <| xf <| (anext_ok (h.ext hW2) ho t (u[k]'hlt) ht0 ht1).mono ?_
  rintro r3 w3 ⟨rfl, hs3⟩
  refine x r_assign <| xe ?_
  refine W_seq <| W_seq <| W_region (by rfl) ?_
  refine x r_move <| x (r_lss rfl rfl) <| xe ?_
  refine W_if rfl (fun h23 => ?_) (fun h23 => ?_)
  · rw [if_pos h23] at hf
    refine W_seq <| W_region (by rfl) ?_
    refine x r_move <| x r_move <| x r_assign <| x r_assign <| xe ?_
    refine W_ret ⟨[.int .i64 t, .int .i64 k], ⟨rfl, rfl, trivial⟩, ?_, hW2.trans hs3⟩
    rw [hf]
    simp [tup]
  rw [if_neg h23] at hf
  have hn := nxt_lt ho h23
  refine W_skip ?_
  refine W_region (by rfl) ?_
  refine x r_move <| x r_assign <| xe ?_
  refine W_region (by rfl) ?_
  refine x (r_add rfl rfl ⟨by omega, by omega⟩) <| x r_move <| xe ?_
  refine ⟨(k + 1, nxt a.ed t (u[k]'hlt)), by simp only []; omega, ⟨rfl, rfl, trivial⟩, hlt, by simp only []; omega, hn, hs2.trans hs3, ?_⟩
  simp only []
  rw [hf]
  simp; omega
/-! ### reached, Generates, Accepts -/
def rchd (a : Aut) (u : List Int) : Int × Bool := if a.st = 0 then (0, false) else ((flw a 0 u).1, decide (((flw a 0 u).2 : Int) = (u.length : Int)))
theorem reached_ok {L L' : List Nat} {w : World} {va vm ve vw : Value} {a : Aut} {u : List Int} (h : Eds L w.heap ve a.ed) (hw : Ints L' w.heap vw u) (ho : Okay a) :
    Ret Tryd.prog 82 [.agg #[va, .int .i64 a.st, vm, ve], vw] w fun r w' => r = .tuple #[.int .i64 (rchd a u).1, .bool (rchd a u).2] ∧ Step [] w w' := by
  have h0 := ho.st0
  refine Ret.of_W Tryd.func82 rfl Tryd.ntmps82 Tryd.results82 (by simp) ?_
  refine W_seq <| W_region (by rfl) ?_
  refine xl rfl <| o_box (us := [va, .int .i64 a.st, vm, ve]) rfl fun b2 w1 hs1 hb2 hB2 => x r_assign <| x r_assign <| xe ?_
  refine W_seq <| W_seq <| W_region (by rfl) ?_
  refine x (r_fieldB rfl) <| x (r_loadB hB2 rfl rfl) <| x (r_eql rfl rfl) <| xe ?_
  unfold rchd
  refine W_if rfl (fun h10 => ?_) (fun h10 => ?_)
  · refine W_seq <| W_region (by rfl) ?_
    refine x r_assign <| x r_assign <| xe ?_
    exact W_ret ⟨[.int .i64 0, .bool false], ⟨rfl, rfl, trivial⟩, by rw [if_pos h10]; rfl, hs1⟩
  rw [if_neg h10]
  refine W_skip ?_
  refine W_seq <| W_region (by rfl) ?_
  refine x (r_loadsB hB2 rfl rfl) <| x r_move <| xl rfl <| xf <| (follow_ok (h.ext hs1) (hw.ext hs1) ho 0 (by omega) (by omega)).mono ?_
  rintro r2 w2 ⟨rfl, hs2⟩
  refine x r_move <| x (r_extract rfl rfl) <| x (r_extract rfl rfl) <|
    x r_assign <| x r_assign <| xe ?_
  refine W_seq <| W_region (by rfl) ?_
  refine x r_move <| x r_move <| x r_move <| x (r_lenA hw rfl) <| x (r_eql rfl rfl) <| x r_assign <| x r_assign <| xe ?_
  exact W_ret ⟨[_, _], ⟨rfl, rfl, trivial⟩, rfl, hs1.trans hs2⟩
def gens (a : Aut) (u : List Int) : Bool := if ckA a ≠ 0 then false else (rchd a u).2
theorem Generates_ok {L L' : List Nat} {w : World} {va vm ve vw : Value} {a : Aut} {u : List Int} (h : AutA L w.heap va vm ve a) (hw : Ints L' w.heap vw u) :
    Ret Tryd.prog 57 [.agg #[va, .int .i64 a.st, vm, ve], vw] w fun r w' => r = .tuple #[.bool (gens a u), .int .i64 (ckA a)] ∧ Step [] w w' := by
  refine Ret.of_W Tryd.func57 rfl Tryd.ntmps57 Tryd.results57 (by simp) ?_
  refine W_seq <| W_region (by rfl) ?_
  refine xl rfl <| o_box (us := [va, .int .i64 a.st, vm, ve]) rfl fun b2 w1 hs1 hb2 hB2 => x r_assign <| x r_assign <| xe ?_
  refine W_seq <| W_seq <| W_region (by rfl) ?_
  refine x (r_loadsB hB2 rfl rfl) <| xl rfl <| xf <| (check_ok (h.ext hs1)).mono ?_
  rintro r2 w2 ⟨rfl, hs2⟩
  refine x r_assign <| xe ?_
  refine W_seq <| W_region (by rfl) ?_
  refine x r_move <| x (r_neq rfl rfl) <| xe ?_
  unfold gens
  refine W_if rfl (fun h12 => ?_) (fun h12 => ?_)
  · refine W_seq <| W_region (by rfl) ?_
    refine x r_move <| x r_assign <| x r_assign <| xe ?_
    exact W_ret ⟨[_, _], ⟨rfl, rfl, trivial⟩, by rw [if_pos h12]; rfl, hs1.trans hs2⟩
  have hc : ckA a = 0 := Decidable.not_not.1 h12
  rw [if_neg h12, hc]
  have hs12 := hs1.trans hs2
  refine W_skip ?_
  refine W_seq <| W_region (by rfl) ?_
  refine x (r_loadsB (hB2.ext hs2) rfl rfl) <| x r_move <| xl rfl <| xf <| (reached_ok (h.ed.ext hs12) (hw.ext hs12) ((ckA_zero a).1 hc)).mono ?_
  rintro r3 w3 ⟨rfl, hs3⟩
  refine x r_move <| x (r_extract rfl rfl) <|
    x (r_extract rfl rfl) <| x r_assign <| x r_assign <| xe ?_
  refine W_seq <| W_region (by rfl) ?_
  refine x r_move <| x r_assign <| x r_assign <| xe ?_
  exact W_ret ⟨[_, _], ⟨rfl, rfl, trivial⟩, rfl, hs12.trans hs3⟩
def accs (a : Aut) (u : List Int) : Bool := if ckA a ≠ 0 then false else (rchd a u).2 && decide ((rchd a u).1 ∈ a.mr)
theorem Accepts_ok {L L' : List Nat} {w : World} {va vm ve vw : Value} {a : Aut} {u : List Int} (h : AutA L w.heap va vm ve a) (hw : Ints L' w.heap vw u) :
    Ret Tryd.prog 62 [.agg #[va, .int .i64 a.st, vm, ve], vw] w fun r w' => r = .tuple #[.bool (accs a u), .int .i64 (ckA a)] ∧ Step [] w w' := by
  refine Ret.of_W Tryd.func62 rfl Tryd.ntmps62 Tryd.results62 (by simp) ?_
  refine W_seq <| W_region (by rfl) ?_
  refine xl rfl <| o_box (us := [va, .int .i64 a.st, vm, ve]) rfl fun b2 w1 hs1 hb2 hB2 => x r_assign <| x r_assign <| xe ?_
  refine W_seq <| W_seq <| W_region (by rfl) ?_
  refine x (r_loadsB hB2 rfl rfl) <| xl rfl <| xf <| (check_ok (h.ext hs1)).mono ?_
  rintro r2 w2 ⟨rfl, hs2⟩
  refine x r_assign <| xe ?_
  refine W_seq <| W_region (by rfl) ?_
  refine x r_move <| x (r_neq rfl rfl) <| xe ?_
  unfold accs
  refine W_if rfl (fun h12 => ?_) (fun h12 => ?_)
  · refine W_seq <| W_region (by rfl) ?_
    refine x r_move <| x r_assign <| x r_assign <| xe ?_
    exact W_ret ⟨[_, _], ⟨rfl, rfl, trivial⟩, by rw [if_pos h12]; rfl, hs1.trans hs2⟩
  have hc : ckA a = 0 := Decidable.not_not.1 h12
  rw [if_neg h12, hc]
  have hs12 := hs1.trans hs2
  refine W_skip ?_
  refine W_seq <| W_region (by rfl) ?_
  refine x (r_loadsB (hB2.ext hs2) rfl rfl) <| x r_move <| xl rfl <| xf <| (reached_ok (h.ed.ext hs12) (hw.ext hs12) ((ckA_zero a).1 hc)).mono ?_
  rintro r3 w3 ⟨hr3, hs3⟩
  have hs13 := hs12.trans hs3
  have hB23 := (hB2.ext hs2).ext hs3
  refine exE (rchd a u) fun z hz => ?_
  rw [hz] at hr3 ⊢
  obtain ⟨t, b⟩ := z
  subst hr3
  refine x r_move <| x (r_extract rfl rfl) <|
    x (r_extract rfl rfl) <| x r_assign <| x r_assign <| xe ?_
  cases b with
  | false =>
    refine W_seq <| W_region (by rfl) ?_
    refine x r_move <| x r_move <| xs rfl <| xs rfl <| xs rfl <| xs rfl <|
      x (r_pick rfl) <| x r_assign <| x r_assign <| xe ?_
    exact W_ret ⟨[_, _], ⟨rfl, rfl, trivial⟩, rfl, hs13⟩
  | true =>
    refine W_seq <| W_region (by rfl) ?_
    refine x r_move <| x r_move <| x (r_fieldB rfl) <| x (r_loadB hB23 rfl rfl) <| x r_move <| xl rfl <| xf <| (contains_ok (h.mr.ext hs13) t).mono ?_
    rintro r4 w4 ⟨rfl, rfl⟩
    refine x (r_pick rfl) <| x r_assign <| x r_assign <| xe ?_
    exact W_ret ⟨[_, _], ⟨rfl, rfl, trivial⟩, rfl, hs13⟩
end Go.Proofs.YtfhgnlkdcdlblaaDoor
/- Contracts: automaton.checkState, Run, Enabled; product.checkTuple, checkEvent, Step. -/
namespace Go.Proofs.YtfhgnlkdcdlblaaDoor
open Go.Lg

def cks (a : Aut) (s : Int) : Int := if ckA a ≠ 0 then ckA a else if s < 0 ∨ a.st ≤ s then 2 else 0
theorem checkState_ok {L : List Nat} {w : World} {va vm ve : Value} {a : Aut} (h : AutA L w.heap va vm ve a) (s : Int) :
    Ret Tryd.prog 83 [.agg #[va, .int .i64 a.st, vm, ve], .int .i64 s] w fun r w' => r = .int .i64 (cks a s) ∧ Step [] w w' := by
  refine Ret.of_W Tryd.func83 rfl Tryd.ntmps83 Tryd.results83 (by simp) ?_
  refine W_seq <| W_region (by rfl) ?_
  refine xl rfl <| o_box (us := [va, .int .i64 a.st, vm, ve]) rfl fun b2 w1 hs1 hb2 hB2 => x r_assign <| xe ?_
  refine W_seq <| W_seq <| W_region (by rfl) ?_
  refine x (r_loadsB hB2 rfl rfl) <| xl rfl <| xf <| (check_ok (h.ext hs1)).mono ?_
  rintro r2 w2 ⟨rfl, hs2⟩
  refine x r_assign <| xe ?_
  unfold cks
  have hs12 := hs1.trans hs2
  refine W_seq <| W_region (by rfl) ?_
  refine x r_move <| x (r_neq rfl rfl) <| xe ?_
  refine W_if rfl (fun h9 => ?_) (fun h9 => ?_)
  · refine W_seq <| W_region (by rfl) ?_
    refine x r_move <| x r_assign <| xe ?_
    exact W_ret ⟨[_], ⟨rfl, trivial⟩, by rw [if_pos h9]; rfl, hs12⟩
  rw [if_neg h9]
  refine W_skip ?_
  refine W_seq <| W_cut (α := Unit) [(11, 18)] (fun z => [(18, .bool (decide (s < 0 ∨ a.st ≤ s)))]) (fun z w' => w' = w2) (by rfl) ?_ ?_
  · refine W_region (by rfl) ?_
    refine x r_move <| xb (r_lss rfl rfl) (fun h12 => ?_) (fun h12 => ?_)
    · refine x r_move <| xs rfl <| xs rfl <| xs rfl <| xs rfl <| x (r_pick rfl) <| xe ?_
      exact ⟨(), ⟨by rw [decide_eq_true (Or.inl h12)]; rfl, trivial⟩, rfl⟩
    refine x r_move <| x r_move <| x (r_fieldB rfl) <| x (r_loadB (hB2.ext hs2) rfl rfl) <| x (r_geq rfl rfl) <| x (r_pick rfl) <| xe ?_
    exact ⟨(), ⟨by show Value.bool (decide (a.st ≤ s)) = _; simp [h12], trivial⟩, rfl⟩
  rintro z g w3 rfl
  refine W_if rfl (fun h18 => ?_) (fun h18 => ?_)
  · refine W_seq <| W_region (by rfl) ?_
    refine x r_assign <| xe ?_
    exact W_ret ⟨[_], ⟨rfl, trivial⟩, by rw [if_pos h18]; rfl, hs12⟩
  refine W_skip ?_
  refine W_seq <| W_region (by rfl) ?_
  refine x r_assign <| xe ?_
  exact W_ret ⟨[_], ⟨rfl, trivial⟩, by rw [if_neg h18]; rfl, hs12⟩
theorem cks_zero {a : Aut} {s : Int} (h : cks a s = 0) : Okay a ∧ 0 ≤ s ∧ s < a.st := by
  unfold cks at h
  split at h
  · rename_i h1; exact absurd h h1
  · rename_i h1
    split at h
    · cases h
    · rename_i h2; exact ⟨(ckA_zero a).1 (Decidable.not_not.1 h1), by omega, by omega⟩
theorem cks_ok {a : Aut} (ho : Okay a) {s : Int} (h0 : 0 ≤ s) (h1 : s < a.st) : cks a s = 0 := by
  unfold cks
  rw [if_neg (by simpa using (ckA_zero a).2 ho), if_neg (by omega)]

theorem run1_ok {L : List Nat} {b T : Nat} {va : Value} {al : List Int} {us : List Value} (e : Int) (w : World) (hB : Blk w.heap b T (va :: us)) (hA : Ints L w.heap va al) :
    Ret Tryd.prog 85 ([.int .i64 e] ++ [.pointer (some ⟨b, 0, none⟩)]) w fun r w' => r = .bool (decide (e ∉ al)) ∧ Step [] w w' := by
  refine Ret.of_W Tryd.func85 rfl Tryd.ntmps85 Tryd.results85 (by simp) ?_
  refine W_seq <| W_region (by rfl) ?_
  refine x r_assign <| xe ?_
  refine W_seq <| W_region (by rfl) ?_
  refine x (r_fieldB rfl) <| x (r_loadB hB rfl rfl) <| x r_move <| xl rfl <| xf <| (contains_ok hA e).mono ?_
  rintro r1 w1 ⟨rfl, rfl⟩
  refine x (r_not rfl) <| x r_assign <| xe ?_
  refine W_ret ⟨[_], ⟨rfl, trivial⟩, ?_, Step.refl _ _⟩
  show Value.bool (!decide (e ∈ al)) = _
  rw [decide_not]
def runE (a : Aut) (s : Int) (u : List Int) : Int := if cks a s ≠ 0 then cks a s else if (u.any fun e => decide (e ∉ a.al)) = true then 9 else 0
theorem Run_ok {L L' : List Nat} {w : World} {va vm ve vw : Value} {a : Aut} {u : List Int} (h : AutA L w.heap va vm ve a) (hw : Ints L' w.heap vw u) (s : Int) :
    Ret Tryd.prog 58 [.agg #[va, .int .i64 a.st, vm, ve], .int .i64 s, vw] w fun r w' => Step [] w w' ∧ r = if runE a s u ≠ 0 then .tuple #[.int .i64 0, .int .i64 0, .int .i64 (runE a s u)] else .tuple #[.int .i64 (flw a s u).1, .int .i64 (flw a s u).2, .int .i64 0] := by
  refine Ret.of_W Tryd.func58 rfl Tryd.ntmps58 Tryd.results58 (by simp) ?_
  refine W_seq <| W_region (by rfl) ?_
  refine xl rfl <| o_box (us := [va, .int .i64 a.st, vm, ve]) rfl fun b3 w1 hs1 hb3 hB3 => x r_assign <| x r_assign <| x r_assign <| xe ?_
  refine W_seq <| W_seq <| W_region (by rfl) ?_
  refine x (r_loadsB hB3 rfl rfl) <| x r_move <| xl rfl <| xf <| (checkState_ok (h.ext hs1) s).mono ?_
  rintro r2 w2 ⟨rfl, hs2⟩
  refine x r_assign <| xe ?_
  have hs12 := hs1.trans hs2
  unfold runE
  refine W_seq <| W_region (by rfl) ?_
  refine x r_move <| x (r_neq rfl rfl) <| xe ?_
  refine W_if rfl (fun h13 => ?_) (fun h13 => ?_)
  · refine W_seq <| W_region (by rfl) ?_
    refine x r_move <| x r_assign <| x r_assign <| x r_assign <| xe ?_
    exact W_ret ⟨[_, _, _], ⟨rfl, rfl, rfl, trivial⟩, hs12, by rw [if_pos h13, if_pos h13]; rfl⟩
  have hc : cks a s = 0 := Decidable.not_not.1 h13
  obtain ⟨ho, h0, h1⟩ := cks_zero hc
  rw [if_neg h13]
  refine W_skip ?_
  refine W_seq <| W_seq <| W_region (by rfl) ?_
  refine x r_move <| x (r_makeFunc (l := []) (l' := [.tmp 3])) <| xl rfl <| xf <| (cnfI_ok (q := fun e => decide (e ∉ a.al)) (cap := [.pointer (some ⟨b3, 0, none⟩)]) (hw.ext hs12) (fun e w4 hs4 => run1_ok e w4 ((hB3.ext hs2).ext hs4) ((h.al.ext hs12).ext hs4))).mono ?_
  rintro r3 w3 ⟨rfl, hs3⟩
  refine xe ?_
  have hs13 := hs12.trans hs3
  refine W_cond rfl (fun h17 => ?_) (fun h17 => ?_)
  · rw [if_pos h17]
    refine W_seq <| W_region (by rfl) ?_
    refine x r_assign <| x r_assign <| x r_assign <| xe ?_
    exact W_ret ⟨[_, _, _], ⟨rfl, rfl, rfl, trivial⟩, hs13, by rw [if_pos (by decide)]; rfl⟩
  rw [if_neg (by rw [h17]; simp)]
  refine W_skip ?_
  refine W_seq <| W_region (by rfl) ?_
  refine x (r_loadsB ((hB3.ext hs2).ext hs3) rfl rfl) <| x r_move <| x r_move <| xl rfl <| xf <| (follow_ok (h.ed.ext hs13) (hw.ext hs13) ho s h0 h1).mono ?_
  rintro r4 w4 ⟨rfl, hs4⟩
  refine x r_move <| x (r_extract rfl rfl) <|
    x (r_extract rfl rfl) <| x r_assign <| x r_assign <| xe ?_
  refine W_seq <| W_region (by rfl) ?_
  refine x r_move <| x r_move <| x r_assign <| x r_assign <| x r_assign <| xe ?_
  exact W_ret ⟨[_, _, _], ⟨rfl, rfl, rfl, trivial⟩, hs13.trans hs4, rfl⟩

/-! ### Enabled -/
def enb (a : Aut) (s : Int) : List Int := (outE a.ed s).map (·.2.1)
theorem enb_take {l : List Ed} {k : Nat} (h : k < l.length) : (l.take (k + 1)).map (·.2.1) = (l.take k).map (·.2.1) ++ [(l[k]'h).2.1] := by
  rw [List.take_add_one, List.getElem?_eq_getElem h, List.map_append]; rfl
theorem Enabled_ok {L : List Nat} {w : World} {va vm ve : Value} {a : Aut} (h : AutA L w.heap va vm ve a) (s : Int) :
    Ret Tryd.prog 59 [.agg #[va, .int .i64 a.st, vm, ve], .int .i64 s] w fun r w' => Step [] w w' ∧ ∃ v, r = .tuple #[v, .int .i64 (cks a s)] ∧ (cks a s ≠ 0 → v = nilS) ∧ (cks a s = 0 → IntsO 3 w.heap.size w' v (enb a s)) := by
  refine Ret.of_W Tryd.func59 rfl Tryd.ntmps59 Tryd.results59 (by simp) ?_
  refine W_seq <| W_region (by rfl) ?_
  refine xl rfl <| o_box (us := [va, .int .i64 a.st, vm, ve]) rfl fun b2 w1 hs1 hb2 hB2 => x r_assign <| x r_assign <| xe ?_
  refine W_seq <| W_seq <| W_region (by rfl) ?_
  refine x (r_loadsB hB2 rfl rfl) <| x r_move <| xl rfl <| xf <| (checkState_ok (h.ext hs1) s).mono ?_
  rintro r2 w2 ⟨rfl, hs2⟩
  refine x r_assign <| xe ?_
  have hs12 := hs1.trans hs2
  refine W_seq <| W_region (by rfl) ?_
  refine x r_move <| x (r_neq rfl rfl) <| xe ?_
  refine W_if rfl (fun h14 => ?_) (fun h14 => ?_)
  · refine W_seq <| W_region (by rfl) ?_
    refine x r_move <| x r_assign <| x r_assign <| xe ?_
    exact W_ret ⟨[nilS, _], ⟨rfl, rfl, trivial⟩, hs12, nilS, rfl, fun _ => rfl, fun e => absurd e h14⟩
  have hc : cks a s = 0 := Decidable.not_not.1 h14
  obtain ⟨ho, h0, h1⟩ := cks_zero hc
  have hst := ho.st1
  rw [hc]
  refine W_skip ?_
  refine W_seq <| W_region (by rfl) ?_
  refine x r_assign <| xe ?_
  refine W_seq <| W_seq <| W_region (by rfl) ?_
  refine x (r_loadsB (hB2.ext hs2) rfl rfl) <| x r_move <| xl rfl <| xf <| (out_ok (h.ed.ext hs12) ho.eds (fun e he => ⟨(ho.ed e he).1, by have := (ho.ed e he).2.1; omega⟩) s h0 (by omega)).mono ?_
  rintro vo w3 ⟨hs3, hE⟩
  refine x (r_lenA hE rfl) <| x r_move <| xe ?_
  have hW3 := hs12.trans hs3
  have hz3 := hW3.size
  have hlen := outE_len a.ed s
  have hel := ho.ed_le
  refine exE (outE a.ed s) fun os hos => ?_
  rw [hos] at hE hlen
  refine W_block <| W_loop (α := Nat × Value) [(7, 7), (9, 9), (20, 29)] (fun z => [(7, z.2), (20, .int .i64 z.1)]) (fun z w' => z.1 ≤ os.length ∧ Step [] w3 w' ∧ IntsO 3 w3.heap.size w' z.2 ((os.take z.1).map (·.2.1))) (fun z => os.length - z.1) (by rfl) (0, .slice none 0 0) ⟨rfl, by rw [hos]; rfl, trivial⟩ ⟨Nat.zero_le _, Step.refl _ _, own_nil _ _ _ _⟩ ?_
  rintro ⟨k, v⟩ g w4 ⟨hk, hs4, ho4⟩
  simp only [] at hk ho4
  have hz4 := hs4.size
  refine W_seq <| W_region (by rfl) ?_
  refine x (r_lss rfl rfl) <| xe ?_
  refine W_seq <| W_ifn rfl (fun h21 => ?_) (fun h21 => ?_)
  · refine W_exit ?_
    refine W_seq <| W_region (by rfl) ?_
    refine x r_move <| x r_assign <| x r_assign <| xe ?_
    rw [List.take_of_length_le (by rw [hos] at h21; omega)] at ho4
    refine W_ret ⟨[v, _], ⟨rfl, rfl, trivial⟩, hW3.trans hs4, v, rfl, fun e => absurd rfl e, fun _ => ?_⟩
    unfold enb
    rw [hos]; exact own_base ho4 hz3
  have hlt : k < os.length := by rw [hos] at h21; omega
  refine W_skip ?_
  refine W_seq <| W_block <| W_seq <| W_region (by rfl) ?_
  refine xie (hE.ext hs4) rfl rfl hlt fun a22 h22 => x (r_loadsA h22 rfl rfl) <| xl rfl <| o_alloc (us := [.int .i64 0, .int .i64 0, .int .i64 0]) rfl fun b9 w5 hs5 hb9 hB9 => xl rfl <| o_stores (us := edCells (os[k]'hlt)) hB9 rfl rfl rfl rfl ⟨rfl, rfl, rfl, trivial⟩ fun w6 hs6 hB96 =>
    xe ?_
  have hs46 : Step [] w4 w6 := hs5.then1 hs6 hb9
  have ho6 := own_ext ho4 hs46
  refine W_region (by rfl) ?_
  refine x r_move <| x (r_fieldB rfl) <| x (r_loadB hB96 rfl rfl) <| xl rfl <| o_lits (us := [[.int .i64 (os[k]'hlt).2.1]]) rfl rfl (by decide) (by simp) ⟨rfl, rfl, trivial⟩ fun b27 w7 hs7 hb27 hB27 => ?_
  have ho7 := own_ext ho6 hs7
  have hz7 := (hs46.trans hs7).size
  have htl : ((os.take k).map (·.2.1)).length ≤ 131072 := by simp; omega
  refine xl rfl <| o_app (news := [.int .i64 (os[k]'hlt).2.1]) (L := []) ho7 rfl rfl rfl (hB27.at (by simp)) (by simp [Value.oneCell']) (by omega) (by omega) fun v8 w8 ho8 hs8 hn8 => x r_assign <| xe ?_
  have hge := own_ge ho4
  refine W_region (by rfl) ?_
  refine x (r_add rfl rfl ⟨by omega, by omega⟩) <| x r_move <| xe ?_
  refine ⟨(k + 1, v8), by simp only []; omega, ⟨rfl, rfl, trivial⟩, hlt, ((hs4.trans hs46).trans hs7).then hs8 (fun b hb => .inr (hge b hb).1), ?_⟩
  simp only []
  rw [enb_take hlt]
  exact IntsO.snoc ho8

/-! ### product.checkTuple, checkEvent, Step -/
def ckTL : List Aut → List Int → Int
  | a :: l, t :: ts => if t < 0 ∨ a.st ≤ t then 2 else ckTL l ts
  | _, _ => 0
def ckT (l : List Aut) (t : List Int) : Int := if ckP l ≠ 0 then ckP l else if t.length ≠ l.length then 4 else ckTL l t
theorem checkTuple_ok {L L' : List Nat} {w : World} {v vt : Value} {ps : List AV} {ts : List Int} (h : Auts L w.heap v ps) (ht : Ints L' w.heap vt ts) :
    Ret Tryd.prog 88 [v, vt] w fun r w' => r = .int .i64 (ckT (ps.map (·.a)) ts) ∧ Step [] w w' := by
  have hle := Auts.le h
  have hle2 := ht.le
  refine Ret.of_W Tryd.func88 rfl Tryd.ntmps88 Tryd.results88 (by simp) ?_
  refine W_seq <| W_region (by rfl) ?_
  refine x r_assign <| xe ?_
  refine W_seq <| W_seq <| W_region (by rfl) ?_
  refine x r_move <| xl rfl <| xf <| (pCheck_ok h).mono ?_
  rintro r1 w1 ⟨rfl, hs1⟩
  refine x r_assign <| xe ?_
  unfold ckT
  refine W_seq <| W_region (by rfl) ?_
  refine x r_move <| x (r_neq rfl rfl) <| xe ?_
  refine W_if rfl (fun h11 => ?_) (fun h11 => ?_)
  · refine W_seq <| W_region (by rfl) ?_
    refine x r_move <| x r_assign <| xe ?_
    exact W_ret ⟨[_], ⟨rfl, trivial⟩, by rw [if_pos h11]; rfl, hs1⟩
  rw [if_neg h11]
  refine W_skip ?_
  refine W_seq <| W_seq <| W_region (by rfl) ?_
  refine x r_move <| x (r_lenA ht rfl) <| x r_move <| x (r_lenA h.arr rfl) <| x (r_neq rfl rfl) <| xe ?_
  refine W_if rfl (fun h17 => ?_) (fun h17 => ?_)
  · refine W_seq <| W_region (by rfl) ?_
    refine x r_assign <| xe ?_
    exact W_ret ⟨[_], ⟨rfl, trivial⟩, by rw [if_pos (by rw [List.length_map]; omega)]; rfl, hs1⟩
  have hl : ts.length = ps.length := by omega
  rw [if_neg (by rw [List.length_map]; omega)]
  refine W_skip ?_
  refine W_seq <| W_seq <| W_region (by rfl) ?_
  refine x r_move <| x (r_lenA h.arr rfl) <| x r_move <| xe ?_
  refine W_block <| W_loop (α := Nat) [(4, 4), (6, 7), (20, 39)] (fun z => [(20, .int .i64 z)]) (fun z w' => z ≤ ps.length ∧ Step [] w1 w' ∧ ckTL (ps.map (·.a)) ts = ckTL ((ps.drop z).map (·.a)) (ts.drop z)) (fun z => ps.length - z) (by rfl) 0 ⟨rfl, trivial⟩ ⟨Nat.zero_le _, Step.refl _ _, rfl⟩ ?_
  rintro k g w2 ⟨hk, hs2, hr⟩
  have hW2 := hs1.trans hs2
  refine W_seq <| W_region (by rfl) ?_
  refine x (r_lss rfl rfl) <| xe ?_
  refine W_seq <| W_ifn rfl (fun h21 => ?_) (fun h21 => ?_)
  · refine W_exit ?_
    refine W_seq <| W_region (by rfl) ?_
    refine x r_assign <| xe ?_
    refine W_ret ⟨[_], ⟨rfl, trivial⟩, ?_, hW2⟩
    rw [hr, List.drop_of_length_le (by omega)]; rfl
  have hlt : k < ps.length := by omega
  have hlt' : k < ts.length := by omega
  rw [drop_cons hlt, drop_cons hlt', List.map_cons, ckTL] at hr
  have hA := h.each _ (List.getElem_mem hlt)
  refine exE (ps[k]'hlt) fun pk hpk => ?_
  rw [hpk] at hA hr
  refine W_skip ?_
  refine W_seq <| W_block <| W_seq <| W_region (by rfl) ?_
  refine x r_move <| xig av_len (h.arr.ext hW2) rfl rfl hlt fun a23 h23 => ?_
  rw [hpk] at h23
  refine x (r_loadsA h23 rfl rfl) <| xl rfl <| o_alloc (us := [.slice none 0 0, .int .i64 0, .slice none 0 0, .slice none 0 0]) rfl fun b7 w3 hs3 hb7 hB7 => x r_assign <|
    xl rfl <| o_stores (us := avCells pk) hB7 rfl rfl rfl rfl ⟨hA.al.one, rfl, hA.mr.one, hA.ed.one, trivial⟩ fun w4 hs4 hB74 => xe ?_
  have hs24 : Step [] w2 w4 := hs3.then1 hs4 hb7
  have hW4 := hW2.trans hs24
  refine exE (ts[k]'hlt') fun tk htk => ?_
  rw [htk] at hr
  refine W_cut (α := Unit) [(25, 38)] (fun z => [(38, .bool (decide (tk < 0 ∨ pk.a.st ≤ tk)))]) (fun z w' => Step [] w4 w') (by rfl) ?_ ?_
  · refine W_draw (Step [] w4) [(0, true), (1, true), (2, true), (3, true), (4, true), (5, true), (6, true), (7, true), (8, true), (9, true), (10, true), (11, true), (12, true), (13, true)] Tryd.mixed (by rfl) (by kernel_rfl) (Step.drew _ _) ?_
    refine p (fun _ => r_move) <| p (fun _ => r_move) <| pii rfl (ht.ext hW4) rfl rfl hlt' fun a27 h27 => ?_
    rw [htk] at h27
    refine pq (fun _ hc => r_loadA (h27.ext hc) rfl) <|
      pb (fun _ => r_lss rfl rfl) (fun h29 => ?_) (fun h29 => ?_)
    · refine p (fun _ => r_move) <| Lg.ps <| Lg.ps <| Lg.ps <| Lg.ps <| Lg.ps <| Lg.ps <| Lg.ps <| p (fun _ => r_pick rfl) <| pe ?_
      exact ⟨(), ⟨by rw [decide_eq_true (Or.inl h29)]; rfl, trivial⟩, Step.drew _ _⟩
    refine p (fun _ => r_move) <| p (fun _ => r_move) <| p (fun _ => r_move) <| pii rfl (ht.ext hW4) rfl rfl hlt' fun a33 h33 => ?_
    rw [htk] at h33
    refine pq (fun _ hc => r_loadA (h33.ext hc) rfl) <|
      p (fun _ => r_fieldB rfl) <| pq (fun _ hc => r_loadB (hB74.ext hc) rfl rfl) <| p (fun _ => r_geq rfl rfl) <| p (fun _ => r_pick rfl) <| pe ?_
    exact ⟨(), ⟨by show Value.bool (decide (pk.a.st ≤ tk)) = _; simp [h29], trivial⟩, Step.drew _ _⟩
  rintro z g w5 hs5
  refine W_if rfl (fun h38 => ?_) (fun h38 => ?_)
  · refine W_seq <| W_region (by rfl) ?_
    refine x r_assign <| xe ?_
    exact W_ret ⟨[_], ⟨rfl, trivial⟩, by rw [hr, if_pos h38]; rfl, hW4.trans hs5⟩
  refine W_skip ?_
  refine W_region (by rfl) ?_
  refine x (r_add rfl rfl ⟨by omega, by omega⟩) <| x r_move <| xe ?_
  exact ⟨k + 1, by omega, ⟨rfl, trivial⟩, hlt, (hs2.trans hs24).trans hs5, by rw [hr, if_neg h38]⟩
theorem ckP_zero {l : List Aut} (h : ckP l = 0) : l.length ≤ 12 ∧ ∀ a ∈ l, Okay a := by
  unfold ckP at h
  split at h
  · cases h
  · rename_i h1; exact ⟨by omega, (ckL_zero l).1 h⟩
theorem ckTL_zero : ∀ {l : List Aut} {t : List Int}, t.length = l.length → (ckTL l t = 0 ↔ Vt l t)
  | [], t, hl => by
    have : t = [] := List.eq_nil_of_length_eq_zero hl
    subst this
    exact ⟨fun _ => ⟨rfl, fun i h => by simp at h⟩, fun _ => rfl⟩
  | a :: l, [], hl => by simp at hl
  | a :: l, t :: ts, hl => by
    rw [ckTL]
    have ih := ckTL_zero (l := l) (t := ts) (by simpa using hl)
    constructor
    · intro h
      split at h
      · cases h
      · rename_i h1
        exact Vt.cons (by omega) (by omega) (ih.1 h)
    · intro h
      have h0 := h.2 0 (by simp) (by simp)
      simp only [List.getElem_cons_zero] at h0
      rw [if_neg (by omega), ih]
      exact ⟨by simpa using hl, fun i h2 h3 => h.2 (i + 1) (by simpa using h2) (by simpa using h3)⟩
theorem ckT_zero {l : List Aut} {t : List Int} (h : ckT l t = 0) : l.length ≤ 12 ∧ (∀ a ∈ l, Okay a) ∧ Vt l t := by
  unfold ckT at h
  split at h
  · rename_i h1; exact absurd h h1
  · rename_i h1
    split at h
    · cases h
    · rename_i h2
      obtain ⟨h3, h4⟩ := ckP_zero (Decidable.not_not.1 h1)
      exact ⟨h3, h4, (ckTL_zero (by omega)).1 h⟩
theorem ckT_ok {l : List Aut} {t : List Int} (hn : l.length ≤ 12) (ho : ∀ a ∈ l, Okay a) (hv : Vt l t) : ckT l t = 0 := by
  have h1 : ckP l = 0 := by unfold ckP; rw [if_neg (by omega)]; exact (ckL_zero l).2 ho
  unfold ckT
  rw [if_neg (by simp [h1]), if_neg (by simp [hv.1])]
  exact (ckTL_zero hv.1).2 hv
def ckV (l : List Aut) (t : List Int) (v : Int) : Int := if ckT l t ≠ 0 then ckT l t else if v ∉ evs l then 9 else 0
theorem checkEvent_ok {L L' : List Nat} {w : World} {v vt : Value} {ps : List AV} {ts : List Int} (h : Auts L w.heap v ps) (ht : Ints L' w.heap vt ts) (e : Int) :
    Ret Tryd.prog 61 [v, vt, .int .i64 e] w fun r w' => r = .int .i64 (ckV (ps.map (·.a)) ts e) ∧ Step [] w w' := by
  refine Ret.of_W Tryd.func61 rfl Tryd.ntmps61 Tryd.results61 (by simp) ?_
  refine W_seq <| W_region (by rfl) ?_
  refine x r_assign <| xe ?_
  refine W_seq <| W_seq <| W_region (by rfl) ?_
  refine x r_move <| x r_move <| xl rfl <| xf <| (checkTuple_ok h ht).mono ?_
  rintro r1 w1 ⟨rfl, hs1⟩
  refine x r_assign <| xe ?_
  unfold ckV
  refine W_seq <| W_region (by rfl) ?_
  refine x r_move <| x (r_neq rfl rfl) <| xe ?_
  refine W_if rfl (fun h12 => ?_) (fun h12 => ?_)
  · refine W_seq <| W_region (by rfl) ?_
    refine x r_move <| x r_assign <| xe ?_
    exact W_ret ⟨[_], ⟨rfl, trivial⟩, by rw [if_pos h12]; rfl, hs1⟩
  rw [if_neg h12]
  obtain ⟨h1, h2, h3⟩ := ckT_zero (Decidable.not_not.1 h12)
  rw [List.length_map] at h1
  have hev : (evs (ps.map (·.a))).length ≤ 1099511627776 := by have := evs_len (ps.map (·.a)) (fun a ha => (h2 a ha).al_le); rw [List.length_map] at this; omega
  refine W_skip ?_
  refine W_seq <| W_seq <| W_region (by rfl) ?_
  refine x r_move <| xl rfl <| xf <| (events_ok (h.ext hs1) h1 (fun p hp => (h2 p.a (List.mem_map_of_mem hp)).al_le)).mono ?_
  rintro r2 w2 ⟨hs2, ho2⟩
  refine x r_move <| xl rfl <| xf <| (alContains_ok (IntsO.ints (L := []) ho2 hev (by simp)) (evs_inc h2) e).mono ?_
  rintro r3 w3 ⟨rfl, rfl⟩
  refine x (r_not rfl) <| xe ?_
  have hs12 := hs1.trans hs2
  refine W_cond rfl (fun h18 => ?_) (fun h18 => ?_)
  · have hn : e ∉ evs (ps.map (·.a)) := by simpa using h18
    refine W_seq <| W_region (by rfl) ?_
    refine x r_assign <| xe ?_
    exact W_ret ⟨[_], ⟨rfl, trivial⟩, by rw [if_pos hn]; rfl, hs12⟩
  have hn : ¬ e ∉ evs (ps.map (·.a)) := by simpa using h18
  refine W_skip ?_
  refine W_seq <| W_region (by rfl) ?_
  refine x r_assign <| xe ?_
  exact W_ret ⟨[_], ⟨rfl, trivial⟩, by rw [if_neg hn]; rfl, hs12⟩
theorem pStep_ok {w : World} {v vt : Value} {ps : List AV} {ts : List Int} (h : Auts [] w.heap v ps) (ht : Ints [] w.heap vt ts) (e : Int) :
    Ret Tryd.prog 27 [v, vt, .int .i64 e] w fun r w' => Step [] w w' ∧ (ckV (ps.map (·.a)) ts e ≠ 0 → r = .tuple #[nilS, .bool false, .int .i64 (ckV (ps.map (·.a)) ts e)]) ∧ (ckV (ps.map (·.a)) ts e = 0 →
      match stepT e (ps.map (·.a)) ts with | none => r = .tuple #[nilS, .bool false, .int .i64 0] | some u => ∃ v', r = .tuple #[v', .bool true, .int .i64 0] ∧ IntsO 3 w.heap.size w' v' u) := by
  refine Ret.of_W Tryd.func27 rfl Tryd.ntmps27 Tryd.results27 (by simp) ?_
  refine W_seq <| W_region (by rfl) ?_
  refine x r_assign <| x r_assign <| x r_assign <| xe ?_
  refine W_seq <| W_seq <| W_region (by rfl) ?_
  refine x r_move <| x r_move <| x r_move <| xl rfl <| xf <| (checkEvent_ok h ht e).mono ?_
  rintro r1 w1 ⟨rfl, hs1⟩
  refine x r_assign <| xe ?_
  refine W_seq <| W_region (by rfl) ?_
  refine x r_move <| x (r_neq rfl rfl) <| xe ?_
  refine W_if rfl (fun h15 => ?_) (fun h15 => ?_)
  · refine W_seq <| W_region (by rfl) ?_
    refine x r_move <| x r_assign <| x r_assign <| x r_assign <| xe ?_
    exact W_ret ⟨[nilS, .bool false, _], ⟨rfl, rfl, rfl, trivial⟩, hs1, fun _ => rfl, fun e => absurd e h15⟩
  have hc : ckV (ps.map (·.a)) ts e = 0 := Decidable.not_not.1 h15
  have hct : ckT (ps.map (·.a)) ts = 0 := by
    unfold ckV at hc
    split at hc
    · rename_i h1; exact absurd hc h1
    · rename_i h1; exact Decidable.not_not.1 h1
  obtain ⟨h1, h2, h3⟩ := ckT_zero hct
  rw [List.length_map] at h1
  have hl : ts.length = ps.length := by have := h3.1; rw [List.length_map] at this; exact this
  refine W_skip ?_
  refine W_seq <| W_region (by rfl) ?_
  refine x r_move <| xl rfl <| xf <| (open_ok (h.ext hs1) h1 (fun p hp => (h2 p.a (List.mem_map_of_mem hp)).al_le) (by simp)).mono ?_
  rintro r2 w2 ⟨hs2, ve, vs, ms, rfl, hM, _⟩
  have hs12 := hs1.trans hs2
  refine x r_move <| x r_move <| xl rfl <| xf <| (pstep_ok hM (ht.ext hs12) hl (fun p hp => (h2 p.a (List.mem_map_of_mem hp)).ali) (fun p hp => (h2 p.a (List.mem_map_of_mem hp)).edi) h1 e).mono ?_
  rintro r3 w3 ⟨hs3, hr3⟩
  have hz := hs12.size
  have hs13 := hs12.trans hs3
  refine exE (stepT e (ps.map (·.a)) ts) fun z hz0 => ?_
  rw [hz0] at hr3 ⊢
  cases z with
  | none =>
    simp only [] at hr3
    subst hr3
    refine x r_move <| x (r_extract rfl rfl) <| x (r_extract rfl rfl) <| x r_assign <| x r_assign <| xe ?_
    refine W_seq <| W_region (by rfl) ?_
    refine x r_move <| x r_move <| x r_assign <| x r_assign <| x r_assign <| xe ?_
    exact W_ret ⟨[nilS, .bool false, .int .i64 0], ⟨rfl, rfl, rfl, trivial⟩, hs13, fun e => absurd hc e, fun _ => rfl⟩
  | some u =>
    simp only [] at hr3
    obtain ⟨v', rfl, ho3⟩ := hr3
    refine x r_move <| x (r_extract rfl rfl) <| x (r_extract rfl rfl) <| x r_assign <| x r_assign <| xe ?_
    refine W_seq <| W_region (by rfl) ?_
    refine x r_move <| x r_move <| x r_assign <| x r_assign <| x r_assign <| xe ?_
    exact W_ret ⟨[v', .bool true, .int .i64 0], ⟨rfl, rfl, rfl, trivial⟩, hs13, fun e => absurd hc e, fun _ => ⟨v', rfl, own_base ho3 hz⟩⟩
end Go.Proofs.YtfhgnlkdcdlblaaDoor
/- SupervisorAfter, plain law: what the closed loop does after a word. -/
namespace Go.Proofs.YtfhgnlkdcdlblaaDoor
open Go.Lg

/-- The tuples along a word. -/
def goT (aa : List Aut) : List Int → List Int → Option (List Int)
  | t, [] => some t
  | t, v :: u => if v ∉ evs aa then none else match stepT v aa t with | none => none | some t' => goT aa t' u
theorem go_flw {aa : List Aut} {A : Aut} {Q : List (List Int)} (h : SyP aa A Q) : ∀ (u : List Int) (j : Nat), j < Q.length →
    (∃ j' : Nat, j' < Q.length ∧ flw A j u = ((j' : Int), u.length) ∧ goT aa (Q.getD j []) u = some (Q.getD j' [])) ∨ ((flw A j u).2 < u.length ∧ goT aa (Q.getD j []) u = none)
  | [], j, hj => .inl ⟨j, hj, rfl, rfl⟩
  | v :: u, j, hj => by
    have hs := h.step hj v
    by_cases hv : v ∈ evs aa
    · rw [if_pos hv] at hs
      cases ht : stepT v aa (Q.getD j []) with
      | none =>
        rw [ht] at hs
        have hn : nxt A.ed j v = -1 := by rw [nxt_eget, hs]; rfl
        right
        rw [flw, if_pos (by rw [hn]; decide), goT, if_neg (fun e => e hv), ht]
        exact ⟨by simp, rfl⟩
      | some t' =>
        obtain ⟨h1, h2⟩ := h.to hj hv ht
        rw [ht] at hs
        have hn : nxt A.ed j v = (Q.idxOf t' : Int) := by rw [nxt_eget, hs]; rfl
        rw [flw, hn, if_neg (by omega), goT, if_neg (fun e => e hv), ht]
        rcases go_flw h u (Q.idxOf t') h1 with ⟨j', k1, k2, k3⟩ | ⟨k1, k2⟩
        · left
          refine ⟨j', k1, ?_, ?_⟩
          · rw [k2]; simp
          · rw [h2] at k3; exact k3
        · right
          rw [h2] at k2
          exact ⟨by simp; omega, k2⟩
    · rw [if_neg hv] at hs
      have hn : nxt A.ed j v = -1 := by rw [nxt_eget, hs]
      right
      rw [flw, if_pos (by rw [hn]; decide), goT, if_pos hv]
      exact ⟨by simp, rfl⟩
theorem enb_syP {aa : List Aut} {A : Aut} {Q : List (List Int)} (h : SyP aa A Q) {j : Nat} (hj : j < Q.length) : enb A j = (evs aa).filter fun v => (stepT v aa (Q.getD j [])).isSome := by
  unfold enb
  rw [h.ed, outE_grid (syF_ok aa Q), if_pos hj]
  generalize evs aa = vs
  induction vs with
  | nil => rfl
  | cons v vs ih =>
    rw [List.filterMap_cons, List.filter_cons]
    cases hs : stepT v aa (Q.getD j []) with
    | none => rw [syF_none hs]; exact ih
    | some u =>
      rw [syF_some hs]
      simp only [List.map_cons, Option.isSome_some, if_true]
      rw [ih]
theorem enb_mem {a : Aut} (ho : Okay a) (x v : Int) : v ∈ enb a x ↔ 0 ≤ nxt a.ed x v := by
  unfold enb
  rw [nxt_nonneg ho]
  constructor
  · intro h
    obtain ⟨e, he, rfl⟩ := List.mem_map.1 h
    obtain ⟨h1, h2⟩ := outE_mem he
    cases hg : eget a.ed x e.2.1 with
    | some _ => rfl
    | none =>
      exfalso
      have key : ∀ (l : List Ed), e ∈ l → eget l x e.2.1 = none → False := by
        intro l
        induction l with
        | nil => intro h; cases h
        | cons d l ih =>
          intro hm hg
          rw [eget] at hg
          split at hg
          · cases hg
          · rename_i hne
            rcases List.mem_cons.1 hm with rfl | hm
            · exact hne ⟨h2, rfl⟩
            · exact ih hm hg
      exact key a.ed h1 hg
  · intro h
    obtain ⟨u, hu⟩ := Option.isSome_iff_exists.1 h
    have := eget_mem hu
    refine List.mem_map.2 ⟨(x, v, u), ?_, rfl⟩
    unfold outE
    exact List.mem_filter.2 ⟨this, by simp⟩
theorem enb_inc {a : Aut} (ho : Okay a) (x : Int) : Inc (enb a x) := by
  unfold enb Inc
  rw [List.pairwise_map]
  have h1 : (outE a.ed x).Pairwise fun x y : Ed => x.1 < y.1 ∨ (x.1 = y.1 ∧ x.2.1 < y.2.1) := List.Pairwise.sublist List.filter_sublist ho.edi
  refine List.Pairwise.imp_of_mem (fun {a b} ha hb hab => ?_) h1
  have h2 := (outE_mem ha).2
  have h3 := (outE_mem hb).2
  omega
theorem enb_filter {a : Aut} (ho : Okay a) (x : Int) : enb a x = a.al.filter fun v => decide (0 ≤ nxt a.ed x v) := by
  refine Inc.ext (enb_inc ho x) (List.Pairwise.sublist List.filter_sublist ho.ali) fun v => ?_
  rw [enb_mem ho, List.mem_filter]
  constructor
  · intro h; exact ⟨(ho.ed _ (nxt_mem h)).2.2.1, by simpa using h⟩
  · intro h; simpa using h.2
theorem evs_two {p s : Aut} (hp : Okay p) (hs : Okay s) (hsub : ∀ x ∈ s.al, x ∈ p.al) : evs [p, s] = p.al := by
  have ho : ∀ a ∈ [p, s], Okay a := fun a ha => by
    simp only [List.mem_cons, List.not_mem_nil, or_false] at ha
    rcases ha with rfl | rfl
    · exact hp
    · exact hs
  refine Inc.ext (evs_inc ho) hp.ali fun x => ?_
  rw [evs_mem ho]
  simp only [List.mem_cons, List.not_mem_nil, or_false, exists_eq_or_imp, exists_eq_left]
  exact ⟨fun h => h.elim id (hsub x), .inl⟩
/-- The law's lists. -/
def yesP (p s : Aut) (x y : Int) (v : Int) : Bool := decide (0 ≤ nxt p.ed x v) && !(decide (v ∈ s.al) && decide (nxt s.ed y v < 0))
def noP (p s : Aut) (x y : Int) (v : Int) : Bool := decide (0 ≤ nxt p.ed x v) && (decide (v ∈ s.al) && decide (nxt s.ed y v < 0))
theorem step_yes {p s : Aut} (hp : Okay p) (hs : Okay s) (x y : Int) {v : Int} (hv : v ∈ p.al) : (stepT v [p, s] [x, y]).isSome = yesP p s x y v := by
  have h1 := nxt_nonneg hp x v
  have h2 := nxt_nonneg hs y v
  unfold yesP
  rw [stepT, if_neg (fun e => e hv)]
  cases hx : eget p.ed x v with
  | none =>
    rw [hx] at h1
    have : ¬ 0 ≤ nxt p.ed x v := fun h => by have := h1.1 h; cases this
    simp [this]
  | some u =>
    rw [hx] at h1
    have h3 : 0 ≤ nxt p.ed x v := h1.2 rfl
    simp only [Option.isSome_map, decide_eq_true h3, Bool.true_and]
    rw [stepT]
    by_cases hvs : v ∈ s.al
    · rw [if_neg (fun e => e hvs)]
      cases hy : eget s.ed y v with
      | none =>
        rw [hy] at h2
        have : ¬ 0 ≤ nxt s.ed y v := fun h => by have := h2.1 h; cases this
        simp [hvs]; omega
      | some t =>
        rw [hy] at h2
        have : 0 ≤ nxt s.ed y v := h2.2 rfl
        simp [hvs, stepT]; omega
    · rw [if_pos hvs]; simp [hvs, stepT]
theorem after_on {p s : Aut} (hp : Okay p) (hs : Okay s) (hsub : ∀ x ∈ s.al, x ∈ p.al) {A : Aut} {Q : List (List Int)} (h : SyP [p, s] A Q) {j : Nat} (hj : j < Q.length) {x y : Int} (hq : Q.getD j [] = [x, y]) : enb A j = p.al.filter (yesP p s x y) := by
  rw [enb_syP h hj, evs_two hp hs hsub, hq]
  exact List.filter_congr fun v hv => step_yes hp hs x y hv
theorem after_off {p s : Aut} (hp : Okay p) (x y : Int) : mrg (fun p q => p && !q) (enb p x) (p.al.filter (yesP p s x y)) = p.al.filter (noP p s x y) := by
  have i1 := enb_inc hp x
  have i2 : Inc (p.al.filter (yesP p s x y)) := List.Pairwise.sublist List.filter_sublist hp.ali
  refine Inc.ext (mrg_inc _ _ _ _ (Nat.le_refl _) i1 i2) (List.Pairwise.sublist List.filter_sublist hp.ali) fun v => ?_
  rw [mem_mrg i1 i2]
  simp only [Bool.and_eq_true, decide_eq_true_eq, Bool.not_eq_true', decide_eq_false_iff_not]
  rw [enb_filter hp]
  simp only [List.mem_filter]
  unfold yesP noP
  simp only [Bool.and_eq_true, decide_eq_true_eq, Bool.not_eq_true', Bool.and_eq_false_iff, decide_eq_false_iff_not]
  constructor
  · rintro ⟨_, ⟨h1, h2⟩, h3⟩
    refine ⟨h1, h2, ?_⟩
    by_cases h4 : v ∈ s.al
    · by_cases h5 : nxt s.ed y v < 0
      · exact ⟨h4, h5⟩
      · exact absurd ⟨h1, h2, .inr h5⟩ h3
    · exact absurd ⟨h1, h2, .inl h4⟩ h3
  · rintro ⟨h1, h2, h3, h4⟩
    exact ⟨.inl ⟨h1, h2⟩, ⟨h1, h2⟩, fun h => h.2.2.elim (fun e => e h3) (fun e => e h4)⟩
/-! ### What After returns -/
def afE (p s : Aut) (u : List Int) : Int := if opE p s ≠ 0 then opE p s else if gens (opA p s) u = false then 10 else 0
def afAt (p s : Aut) (u : List Int) : Int := (flw (opA p s) 0 u).1
def afOn (p s : Aut) (u : List Int) : List Int := enb (opA p s) (afAt p s u)
def afOff (p s : Aut) (u : List Int) : List Int := mrg (fun p q => p && !q) (enb p (px ((opQ p s).getD (afAt p s u).toNat []))) (afOn p s u)
theorem opE_syP {p s : Aut} (h : opE p s = 0) : SyP [p, s] (opA p s) (opQ p s) ∧ Okay (opA p s) ∧ ((opQ p s).length = 0 ↔ p.st = 0 ∨ s.st = 0) := by
  obtain ⟨h1, h2, h3, _⟩ := opE_zero h
  have ho : ∀ a ∈ [p, s], Okay a := fun a ha => by
    simp only [List.mem_cons, List.not_mem_nil, or_false] at ha
    rcases ha with rfl | rfl
    · exact h1
    · exact h2
  obtain ⟨k1, k2⟩ := sync_spec ho h3
  exact ⟨k1, k1.okay ho, by rw [k2]; simp⟩
/-- The state after a word that is generated. -/
theorem gens_at {A : Aut} (ho : Okay A) {aa : List Aut} {Q : List (List Int)} (h : SyP aa A Q) {u : List Int} (hg : gens A u = true) : ∃ j : Nat, j < Q.length ∧ flw A 0 u = ((j : Int), u.length) ∧ goT aa (Q.getD 0 []) u = some (Q.getD j []) := by
  unfold gens at hg
  rw [if_neg (by simpa using (ckA_zero A).2 ho)] at hg
  unfold rchd at hg
  split at hg
  · cases hg
  · rename_i hz
    have hst := h.st
    have h0 : 0 < Q.length := by omega
    rcases go_flw h u 0 h0 with ⟨j, k1, k2, k3⟩ | ⟨k1, _⟩
    · exact ⟨j, k1, k2, k3⟩
    · simp only [decide_eq_true_eq] at hg
      have : ((0 : Nat) : Int) = 0 := rfl
      rw [this] at k1
      omega
theorem gens_not {A : Aut} (ho : Okay A) {aa : List Aut} {Q : List (List Int)} (h : SyP aa A Q) {u : List Int} (hg : gens A u = false) : Q.length = 0 ∨ goT aa (Q.getD 0 []) u = none := by
  unfold gens at hg
  rw [if_neg (by simpa using (ckA_zero A).2 ho)] at hg
  unfold rchd at hg
  have hst := h.st
  by_cases h0 : Q.length = 0
  · exact .inl h0
  · right
    rw [if_neg (by omega)] at hg
    rcases go_flw h u 0 (by omega) with ⟨j, k1, k2, k3⟩ | ⟨_, k2⟩
    · have : ((0 : Nat) : Int) = 0 := rfl
      rw [this] at k2
      rw [k2] at hg
      simp at hg
    · exact k2
theorem flw_al {a : Aut} (ho : Okay a) : ∀ (u : List Int) (s : Int), (flw a s u).2 = u.length → ∀ e ∈ u, e ∈ a.al
  | [], _, _, e, he => by cases he
  | v :: u, s, h, e, he => by
    rw [flw] at h
    split at h
    · simp at h
    · rename_i hn
      rcases List.mem_cons.1 he with rfl | he
      · exact (ho.ed _ (nxt_mem (show 0 ≤ nxt a.ed s e by omega))).2.2.1
      · exact flw_al ho u _ (by simpa using h) e he
theorem runE_gens {a : Aut} (ho : Okay a) {u : List Int} {j : Nat} (hj : (j : Int) < a.st) (h : flw a 0 u = ((j : Int), u.length)) : runE a 0 u = 0 := by
  unfold runE
  rw [cks_ok ho (Int.le_refl 0) (by omega), if_neg (by simp), if_neg]
  rw [Bool.not_eq_true, List.any_eq_false]
  intro e he
  have := flw_al ho u 0 (by rw [h]) e he
  simp [this]
end Go.Proofs.YtfhgnlkdcdlblaaDoor
/- SupervisorReduces, plain law, part 5: the reduced supervisor of the program is that of the law. -/
namespace Go.Proofs.YtfhgnlkdcdlblaaDoor
open Go.Lg

/-! ### The law's automaton -/
def lwTo1 (s : Aut) (l : List Ctl) (nm : List Int) (c : Nat) (e : Int) (t : Int) (x : Nat) : Int := if cget nm x = (c : Int) ∧ e ∈ (lget l x).en then cget nm (nxt s.ed x e).toNat else t
def lwTo (s : Aut) (l : List Ctl) (nm : List Int) (k c : Nat) (e : Int) : Int := (List.range' 0 k).foldl (lwTo1 s l nm c e) (-1)
def lwMk1 (l : List Ctl) (nm : List Int) (c x : Nat) : Bool := decide (cget nm x = (c : Int)) && (lget l x).mk' && (lget l x).ps
def lwMk (l : List Ctl) (nm : List Int) (k c : Nat) : Bool := (List.range' 0 k).any (lwMk1 l nm c)
def lwG (s : Aut) (l : List Ctl) (nm : List Int) (k c : Nat) (e : Int) : Option Ed := if 0 ≤ lwTo s l nm k c e then some ((c : Int), e, lwTo s l nm k c e) else none
def lwAut (s : Aut) (l : List Ctl) (nm : List Int) (k n : Nat) : Aut := ⟨s.al, (n : Int), ((List.range' 0 n).filter (lwMk l nm k)).map fun c : Nat => (c : Int), grid (lwG s l nm k) s.al n⟩
theorem lwTo_succ (s : Aut) (l : List Ctl) (nm : List Int) (k c : Nat) (e : Int) : lwTo s l nm (k + 1) c e = lwTo1 s l nm c e (lwTo s l nm k c e) k := by
  unfold lwTo; rw [List.range'_1_concat, List.foldl_append, Nat.zero_add]; rfl
theorem lwMk_succ (l : List Ctl) (nm : List Int) (k c : Nat) : lwMk l nm (k + 1) c = (lwMk l nm k c || lwMk1 l nm c k) := by
  unfold lwMk; rw [List.range'_1_concat, List.any_append, Nat.zero_add]; simp
theorem lwG_ok (s : Aut) (l : List Ctl) (nm : List Int) (k : Nat) : GridOk (lwG s l nm k) := by
  intro c e d h
  unfold lwG at h
  split at h
  · cases h; exact ⟨rfl, rfl⟩
  · cases h
/-! ### The program's maps -/
theorem redE_fold (s : Aut) (cls : List Int) (x : Nat) (c : Int) (v : Int) : ∀ (vs : List Int) (m : List ((Int × Int) × Int)), gget (vs.foldl (redE s cls x) m) (c, v) = if c = cget cls x ∧ v ∈ vs then some (cget cls (to0 s x v).toNat) else gget m (c, v)
  | [], m => by simp
  | u :: vs, m => by
    rw [List.foldl_cons, redE_fold s cls x c v vs]
    unfold redE
    rw [gget_gput]
    by_cases hc : c = cget cls x
    · by_cases hv : v ∈ vs
      · rw [if_pos ⟨hc, hv⟩, if_pos ⟨hc, List.mem_cons_of_mem _ hv⟩]
      · rw [if_neg (fun e => hv e.2)]
        by_cases hu : u = v
        · subst hu
          rw [if_pos (by rw [hc]), if_pos ⟨hc, List.mem_cons_self⟩]
        · rw [if_neg (fun e => hu (by simpa using (Prod.mk.inj e).2)), if_neg (fun e => by
            rcases List.mem_cons.1 e.2 with h | h
            · exact hu h.symm
            · exact hv h)]
    · rw [if_neg (fun e => hc e.1), if_neg (fun e => hc ((Prod.mk.inj e).1.symm)), if_neg (fun e => hc e.1)]
section
variable {s : Aut} {l : List Ctl} {n : Nat} {nm : List Int}
/-- What is known of the numbers. -/
structure NmK (s : Aut) (l : List Ctl) (n m : Nat) (nm : List Int) : Prop where
  len : nm.length = n
  hi : ∀ x, x < n → cget nm x < (m : Int)
  nx : Nx s l n
  to : ∀ x, x < n → 0 ≤ cget nm x → ∀ e ∈ (lget l x).en, (to0 s x e).toNat < n ∧ 0 ≤ cget nm (to0 s x e).toNat
structure RdI (s : Aut) (l : List Ctl) (nm : List Int) (k : Nat) (z : List Int × List ((Int × Int) × Int)) : Prop where
  inc : Inc z.1
  mem : ∀ b, b ∈ z.1 ↔ ∃ c : Nat, b = (c : Int) ∧ lwMk l nm k c = true
  get : ∀ (c : Nat) (e : Int), gget z.2 ((c : Int), e) = if 0 ≤ lwTo s l nm k c e then some (lwTo s l nm k c e) else none
theorem red_step {m : Nat} (h : NmK s l n m nm) : ∀ k, k ≤ n → RdI s l nm k ((List.range' 0 k).foldl (redX s l nm) ([], []))
  | 0, _ => ⟨by simp, fun b => by simp [lwMk], fun c e => by simp [lwTo, gget]⟩
  | k + 1, hk => by
    have ih := red_step h k (by omega)
    rw [List.range'_1_concat, List.foldl_append, Nat.zero_add]
    simp only [List.foldl_cons, List.foldl_nil]
    generalize (List.range' 0 k).foldl (redX s l nm) ([], []) = z at ih
    have hk' : k < n := by omega
    unfold redX
    by_cases hneg : cget nm k < 0
    · rw [if_pos hneg]
      refine ⟨ih.inc, fun b => ?_, fun c e => ?_⟩
      · rw [ih.mem b]
        have : ∀ c : Nat, lwMk l nm (k + 1) c = lwMk l nm k c := fun c => by
          rw [lwMk_succ]; unfold lwMk1; rw [decide_eq_false (by omega)]; simp
        constructor
        · rintro ⟨c, h1, h2⟩; exact ⟨c, h1, by rw [this]; exact h2⟩
        · rintro ⟨c, h1, h2⟩; exact ⟨c, h1, by rw [this] at h2; exact h2⟩
      · have : lwTo s l nm (k + 1) c e = lwTo s l nm k c e := by rw [lwTo_succ]; unfold lwTo1; rw [if_neg (by omega)]
        rw [this]; exact ih.get c e
    · rw [if_neg hneg]
      refine ⟨?_, fun b => ?_, fun c e => ?_⟩
      · simp only []
        split
        · exact uni1_inc ih.inc _
        · exact ih.inc
      · simp only []
        have hsucc : ∀ c : Nat, lwMk l nm (k + 1) c = true ↔ lwMk l nm k c = true ∨ (cget nm k = (c : Int) ∧ ((lget l k).mk' && (lget l k).ps) = true) := fun c => by
          rw [lwMk_succ, Bool.or_eq_true]
          unfold lwMk1
          simp only [Bool.and_eq_true, decide_eq_true_eq]
          constructor
          · rintro (a | ⟨⟨a, b⟩, c⟩)
            · exact .inl a
            · exact .inr ⟨a, b, c⟩
          · rintro (a | ⟨a, b, c⟩)
            · exact .inl a
            · exact .inr ⟨⟨a, b⟩, c⟩
        by_cases hm : ((lget l k).mk' && (lget l k).ps) = true
        · rw [if_pos hm, uni1_mem ih.inc, ih.mem b]
          constructor
          · rintro (⟨c, a, a2⟩ | a)
            · exact ⟨c, a, (hsucc c).2 (.inl a2)⟩
            · exact ⟨(cget nm k).toNat, by omega, (hsucc _).2 (.inr ⟨by omega, hm⟩)⟩
          · rintro ⟨c, a, a2⟩
            rcases (hsucc c).1 a2 with a3 | ⟨a3, _⟩
            · exact .inl ⟨c, a, a3⟩
            · exact .inr (by omega)
        · rw [if_neg hm, ih.mem b]
          constructor
          · rintro ⟨c, a, a2⟩; exact ⟨c, a, (hsucc c).2 (.inl a2)⟩
          · rintro ⟨c, a, a2⟩
            rcases (hsucc c).1 a2 with a3 | ⟨_, a3⟩
            · exact ⟨c, a, a3⟩
            · exact absurd a3 hm
      · simp only []
        rw [redE_fold, lwTo_succ]
        unfold lwTo1
        by_cases hc : cget nm k = (c : Int) ∧ e ∈ (lget l k).en
        · obtain ⟨n1, _⟩ := h.nx k hk' e hc.2
          obtain ⟨_, t2⟩ := h.to k hk' (by omega) e hc.2
          rw [if_pos hc, if_pos ⟨hc.1.symm, hc.2⟩, n1, if_pos t2]
        · rw [if_neg hc, if_neg (fun a => hc ⟨a.1.symm, a.2⟩)]
          exact ih.get c e
theorem lwTo_hi {m : Nat} (h : NmK s l n m nm) (hm : 0 < m) : ∀ k, k ≤ n → ∀ (c : Nat) (e : Int), lwTo s l nm k c e < (m : Int)
  | 0, _, c, e => by simp [lwTo]; omega
  | k + 1, hk, c, e => by
    have ih := lwTo_hi h hm k (by omega) c e
    rw [lwTo_succ]
    unfold lwTo1
    split
    · rename_i hc
      have hk' : k < n := by omega
      obtain ⟨n1, _⟩ := h.nx k hk' e hc.2
      obtain ⟨t1, _⟩ := h.to k hk' (by omega) e hc.2
      rw [n1]; exact h.hi _ t1
    · exact ih
theorem lwMk_hi {m : Nat} (h : NmK s l n m nm) {k c : Nat} (hk : k ≤ n) (hc : lwMk l nm k c = true) : c < m := by
  unfold lwMk at hc
  rw [List.any_eq_true] at hc
  obtain ⟨x, hx, h1⟩ := hc
  rw [List.mem_range'_1] at hx
  unfold lwMk1 at h1
  simp only [Bool.and_eq_true, decide_eq_true_eq] at h1
  have := h.hi x (by omega)
  omega
/-- The automaton of the classes is the law's. -/
theorem redA_eq {m : Nat} (h : NmK s l n m nm) (hmx : maxI nm + 1 = (m : Int)) : redA s l nm = lwAut s l nm n m := by
  have R := red_step h n (Nat.le_refl _)
  have hz : redZ s l nm = (List.range' 0 n).foldl (redX s l nm) ([], []) := by unfold redZ; rw [h.len]
  rw [← hz] at R
  unfold redA lwAut
  have e1 : (redZ s l nm).1 = ((List.range' 0 m).filter (lwMk l nm n)).map fun c : Nat => (c : Int) := by
    refine Inc.ext R.inc ?_ fun b => ?_
    · unfold Inc
      rw [List.pairwise_map]
      refine List.Pairwise.sublist List.filter_sublist ?_
      exact (List.pairwise_lt_range' (s := 0) (n := m)).imp (fun h => by omega)
    · rw [R.mem b, List.mem_map]
      constructor
      · rintro ⟨c, rfl, h2⟩
        exact ⟨c, List.mem_filter.2 ⟨by rw [List.mem_range'_1]; have := lwMk_hi h (Nat.le_refl _) h2; omega, h2⟩, rfl⟩
      · rintro ⟨c, h2, rfl⟩
        exact ⟨c, rfl, (List.mem_filter.1 h2).2⟩
  have e2 : redR (redZ s l nm).2 s.al (maxI nm + 1).toNat = grid (lwG s l nm n) s.al m := by
    rw [hmx, Int.toNat_natCast]
    unfold redR grid
    refine flatMap_congr' fun c _ => fm_congr fun e _ => ?_
    unfold redF lwG
    rw [R.get c e]
    split <;> rfl
  rw [hmx, e1]
  rw [hmx] at e2
  rw [e2]
theorem lwAut_okay {m : Nat} (hs : Okay s) (h : NmK s l n m nm) (hm : m ≤ 4096) : Okay (lwAut s l nm n m) := by
  refine ⟨hs.al, hs.ali, by simp [lwAut], by simp only [lwAut]; omega, fun b hb => ?_, ?_, fun d hd => ?_, ?_⟩
  · simp only [lwAut, List.mem_map, List.mem_filter, List.mem_range'_1] at hb ⊢
    obtain ⟨c, ⟨hc, _⟩, rfl⟩ := hb
    omega
  · simp only [lwAut]
    unfold Inc
    rw [List.pairwise_map]
    refine List.Pairwise.sublist List.filter_sublist ?_
    exact (List.pairwise_lt_range' (s := 0) (n := m)).imp (fun h => by omega)
  · simp only [lwAut] at hd ⊢
    obtain ⟨c, e, hc, he, hg⟩ := grid_mem hd
    unfold lwG at hg
    split at hg
    · rename_i h0
      cases hg
      have := lwTo_hi h (by omega) n (Nat.le_refl _) c e
      exact ⟨by omega, by omega, he, h0, this⟩
    · cases hg
  · exact grid_pw (lwG_ok s l nm n) hs.ali _
end
theorem cget_ge {l : List Int} {x : Nat} (h : l.length ≤ x) : cget l x = 0 := by unfold cget; rw [List.getD_eq_getElem?_getD, List.getElem?_eq_none h]; rfl
/-! ### All together -/
def lwCls (p s : Aut) : List Int := lwA s (ctls p s (opQ p s)) (lw0 s.st.toNat (opQ p s))
def lwRed (p s : Aut) : Aut := lwAut s (ctls p s (opQ p s)) (lwNums (lwCls p s)).1 s.st.toNat (lwNums (lwCls p s)).2
structure RedR (p s : Aut) : Prop where
  cls : clsOf p s (opQ p s) = (lwNums (lwCls p s)).1
  nk : NmK s (ctls p s (opQ p s)) s.st.toNat (lwNums (lwCls p s)).2 (lwNums (lwCls p s)).1
  ok : Okay (lwRed p s)
  e0 : rdE p s = 0
  eq : rdA p s = canA (lwRed p s)
  tr : TrI s (ctls p s (opQ p s)) s.st.toNat (clsA s (ctls p s (opQ p s)) (lw0 s.st.toNat (opQ p s))) (lwCls p s)
theorem red_law {p s : Aut} (h0 : opE p s = 0) : RedR p s := by
  obtain ⟨hp, hs, _, hv, hl⟩ := opE_zero h0
  obtain ⟨hSy, hOA, hQz⟩ := opE_syP h0
  have hst1 := hs.st1
  have hiA := ctls_incA hp hs hv
  have hnx := ctls_nx hp hs hv
  have T0 := lw0_tri hp hs hSy
  have T := cls_same hiA hnx T0
  have hN0 : Ng (lw0 s.st.toNat (opQ p s)) := fun x hx => by
    rcases Nat.lt_or_ge x s.st.toNat with hlt | hge
    · rw [cget_lw0 hlt] at hx ⊢
      split at hx
      · omega
      · rename_i e; rw [if_neg e]
    · have : cget (lw0 s.st.toNat (opQ p s)) x = 0 := cget_ge (by simp [lw0]; omega)
      omega
  have hN := clsA_ng hiA hnx T0 hN0
  have NR := num_all T.lc T.ld T.sm T.ls (fun x _ h => hN x h)
  have hcls : clsOf p s (opQ p s) = nums (clsA s (ctls p s (opQ p s)) (lw0 s.st.toNat (opQ p s))) := by unfold clsOf; rw [cls0_eq hv]
  have hto : ∀ x, x < s.st.toNat → 0 ≤ cget (nums (clsA s (ctls p s (opQ p s)) (lw0 s.st.toNat (opQ p s)))) x → ∀ e ∈ (lget (ctls p s (opQ p s)) x).en, (to0 s x e).toNat < s.st.toNat ∧ 0 ≤ cget (nums (clsA s (ctls p s (opQ p s)) (lw0 s.st.toNat (opQ p s)))) (to0 s x e).toNat := fun x hx hx0 e he => by
    have h1 := NR.lo x hx
    obtain ⟨a, b⟩ := T.oc x hx (by omega) e he
    have h2 := NR.lo _ a
    exact ⟨a, by omega⟩
  have nk : NmK s (ctls p s (opQ p s)) s.st.toNat (lwNums (lwCls p s)).2 (lwNums (lwCls p s)).1 := by
    have hi := NR.hi
    have len := NR.len
    rw [NR.eq] at hto hi len
    exact ⟨len, hi, hnx, hto⟩
  have hcnt : (lwNums (lwCls p s)).2 ≤ s.st.toNat := by
    have := num_same T.lc T.ld T.sm T.ls (fun x _ h => hN x h) s.st.toNat (Nat.le_refl _)
    have key : ∀ (d : List Int) (k : Nat), ((List.range' 0 k).foldl (lwN d) ([], 0)).2 ≤ k := by
      intro d k
      induction k with
      | zero => exact Nat.le_refl _
      | succ k ih =>
        rw [List.range'_1_concat, List.foldl_append, Nat.zero_add]
        simp only [List.foldl_cons, List.foldl_nil]
        generalize (List.range' 0 k).foldl (lwN d) ([], 0) = z at ih
        unfold lwN
        split
        · exact Nat.le_succ_of_le ih
        · split
          · exact Nat.succ_le_succ ih
          · exact Nat.le_succ_of_le ih
    unfold lwNums
    have hl2 : (lwCls p s).length = s.st.toNat := T.ld
    rw [hl2]
    exact key _ _
  have ok : Okay (lwRed p s) := lwAut_okay hs nk (by omega)
  have hst0 := hs.st0
  refine ⟨hcls.trans NR.eq, nk, ok, ?_, ?_, T⟩
  · unfold rdE
    rw [if_neg (by simpa using h0)]
    split
    · rfl
    · rename_i hq
      have hne : ¬ s.st = 0 := fun e => hq (List.eq_nil_of_length_eq_zero (hQz.2 (.inr e)))
      have e : red p s = lwRed p s := by
        unfold red
        rw [hcls, NR.eq]
        have hmx := NR.mx (by omega)
        rw [NR.eq] at hmx
        exact redA_eq nk hmx
      rw [e]; exact (ckA_zero _).2 ok
  · unfold rdA
    split
    · rename_i hq
      -- nothing occurs
      have hz : (lwNums (lwCls p s)).2 = 0 := by
        have hd : ∀ x, x < s.st.toNat → cget (lwCls p s) x < 0 := fun x hx => by
          have h1 : cget (lwCls p s) x < 0 ↔ _ := T.sm.sg x hx
          have hsg : ∀ x, x < s.st.toNat → (cget (clsA s (ctls p s (opQ p s)) (lw0 s.st.toNat (opQ p s))) x < 0 ↔ cget (lw0 s.st.toNat (opQ p s)) x < 0) := by
            have key : TrI s (ctls p s (opQ p s)) s.st.toNat (clsA s (ctls p s (opQ p s)) (lw0 s.st.toNat (opQ p s))) (lwCls p s) ∧ ∀ x, x < s.st.toNat → (cget (clsA s (ctls p s (opQ p s)) (lw0 s.st.toNat (opQ p s))) x < 0 ↔ cget (lw0 s.st.toNat (opQ p s)) x < 0) := by
              unfold lwCls clsA lwA
              rw [T0.lc]
              refine fold_two (P := fun x => x < s.st.toNat) (I := fun c d => TrI s (ctls p s (opQ p s)) s.st.toNat c d ∧ ∀ x, x < s.st.toNat → (cget c x < 0 ↔ cget (lw0 s.st.toNat (opQ p s)) x < 0)) (fun c d x hx hI => ?_) _ _ _ (fun x hx => by rw [List.mem_range'_1] at hx; omega) ⟨T0, fun _ _ => Iff.rfl⟩
              unfold tryX lwTX
              refine fold_two (f := fun c y => tryC s (ctls p s (opQ p s)) c x y) (g := fun d y => lwTry s (ctls p s (opQ p s)) d x y) (P := fun y => y < s.st.toNat) (I := fun c d => TrI s (ctls p s (opQ p s)) s.st.toNat c d ∧ ∀ x, x < s.st.toNat → (cget c x < 0 ↔ cget (lw0 s.st.toNat (opQ p s)) x < 0)) (fun c d y hy hI => ⟨try_same hiA hnx hI.1 hx hy, fun q hq => ?_⟩) (List.range' (x + 1) (s.st.toNat - (x + 1))) c d (fun y hy => by rw [List.mem_range'_1] at hy; omega) hI
              rw [← hI.2 q hq]
              unfold tryC
              split
              · exact Iff.rfl
              · rename_i h1
                have hc0 : 0 ≤ cget c x := by omega
                have hc1 : 0 ≤ cget c y := by omega
                have K1 := closeC_spec (s := s) (fun x hx => (hiA x hx).1) (c.length * c.length + 1) (mergeC c x y) (by rw [mergeC_len]; exact hI.1.lc) (hI.1.oc.of fun q hq => merge_sign hI.1.lc hc0 hc1 hq) (by have := uneq_le (mergeC c x y); rw [mergeC_len] at this; omega)
                simp only []
                split
                · rw [K1.sg q hq, merge_sign hI.1.lc hc0 hc1 hq]
                · exact Iff.rfl
            exact key.2
          have h2 := hsg x hx
          have h3 : occB (opQ p s) x = false := by rw [hq]; rfl
          rw [cget_lw0 hx, h3, if_neg (by simp)] at h2
          rw [h1, h2]; decide
        have key : ∀ k, k ≤ s.st.toNat → ((List.range' 0 k).foldl (lwN (lwCls p s)) ([], 0)).2 = 0 := by
          intro k
          induction k with
          | zero => intro _; rfl
          | succ k ih =>
            intro hk
            rw [List.range'_1_concat, List.foldl_append, Nat.zero_add]
            simp only [List.foldl_cons, List.foldl_nil]
            unfold lwN
            rw [if_pos (hd k (by omega))]
            exact ih (by omega)
        unfold lwNums
        rw [show (lwCls p s).length = s.st.toNat from T.ld]
        exact key _ (Nat.le_refl _)
      unfold canA lwRed lwAut
      rw [hz]
      rfl
    · rename_i hq
      have hne : ¬ s.st = 0 := fun e => hq (List.eq_nil_of_length_eq_zero (hQz.2 (.inr e)))
      have e : red p s = lwRed p s := by
        unfold red
        rw [hcls, NR.eq]
        have hmx := NR.mx (by omega)
        rw [NR.eq] at hmx
        exact redA_eq nk hmx
      rw [e]
end Go.Proofs.YtfhgnlkdcdlblaaDoor
/- Contract: law30's merge. -/
namespace Go.Proofs.YtfhgnlkdcdlblaaDoor
open Go.Lg

theorem uneq_join_lt {c : List Int} {u t : Nat} (hu : u < c.length) (ht : t < c.length) (h : cget c u ≠ cget c t) : uneq (joinC c u t) < uneq c := by
  rcases joinC_merge c u t with e | e
  · rw [e]; exact uneq_merge_lt hu ht h
  · rw [e]; exact uneq_merge_lt ht hu (Ne.symm h)
theorem lwE_eq {s : Aut} {l : List Ctl} {x y : Nat} {z : List Int × Bool} {v : Int} {u t : Nat} (hy : v ∈ (lget l y).en) (hu : nxt s.ed x v = u) (ht : nxt s.ed y v = t) : lwE s l x y z v = if cget z.1 u ≠ cget z.1 t then (joinC z.1 u t, true) else z := by
  unfold lwE; rw [if_neg (fun h => h hy), hu, ht, Int.toNat_natCast, Int.toNat_natCast]
theorem all_drop {f : Nat → Bool} {n k : Nat} (h : k < n) : (List.range' k (n - k)).all f = (f k && (List.range' (k + 1) (n - (k + 1))).all f) := by rw [rng_cons h, List.all_cons]

set_option maxHeartbeats 8000000 in
theorem lmerge_ok {w : World} {sa sm se vl vc : Value} {st : Int} {aS : Aut} {cs : List CV} {c : List Int} {n i j : Nat} (hE : Eds [] w.heap se aS.ed) (hC : Ctls [] w.heap vl cs) (hc : Ints [] w.heap vc c) (hn : c.length = n) (hcs : cs.length = n) (hn4 : n ≤ 4096)
    (hi : i < n) (hj : j < n) (hnx : ∀ x, x < n → ∀ e ∈ (lget (cs.map (·.c)) x).en, 0 ≤ nxt aS.ed x e ∧ nxt aS.ed x e < n) :
    Ret Tryd.prog 43 [.agg #[sa, .int .i64 st, sm, se], vl, vc, .int .i64 i, .int .i64 j] w fun r w' => Step [] w w' ∧ ∃ v b, r = .tuple #[v, .bool b] ∧ Ints [] w'.heap v (lwMerge aS (cs.map (·.c)) c i j).1 := by
  refine exE (cs.map (·.c)) fun l hlE => ?_
  rw [hlE] at hnx ⊢
  refine Ret.of_W Tryd.func43 rfl Tryd.ntmps43 Tryd.results43 (by simp) ?_
  refine W_seq <| W_region (by rfl) ?_
  refine xl rfl <| o_box (us := [sa, .int .i64 st, sm, se]) rfl fun b5 w1 hs1 hb5 hB5 => x r_assign <| x r_assign <| xe ?_
  refine W_seq <| W_region (by rfl) ?_
  refine xl rfl <| o_lit0 fun b22 w2 hs2 hb22 hB22 => x r_move <| ?_
  have hs12 := hs1.trans hs2
  have hz1 := hs1.size
  have hz2 := hs2.size
  have hl5 := hB5.lt
  have ho2 : w2.ownsRow w1.heap.size 3 1 (.slice (some ⟨b22, 0, none⟩) 0 0) 0 [] := hB22.own (n := 0) (sz := 1) rfl (by omega) hb22
  refine xl rfl <| o_appV ho2 rfl (hc.ext hs12) rfl (one_ints c) (by omega) (by omega) fun vo w3 ho3 hs3 hn3 => ?_
  have ho3' : IntsO 3 w1.heap.size w3 vo c := by
    have : w3.ownsRow w1.heap.size 3 1 vo (0 + c.length) ([] ++ c.map (.int .i64)) := ho3
    rw [Nat.zero_add, List.nil_append] at this; exact this
  have hW3 : Step [] w w3 := hs12.then hs3 (fun b hb => .inr (by have := (own_ge ho2 b hb).1; omega))
  have hgeo := own_ge ho3'
  have hup : ∀ b ∈ ob vo, b ∈ ([] : List Nat) ∨ w.heap.size ≤ b := fun b hb => .inr (by have := (hgeo b hb).1; omega)
  have hC3 : Ctls (ob vo) w3.heap vl cs := (hC.up hup).ext hW3
  have hE3 : Eds (ob vo) w3.heap se aS.ed := (hE.up hup).ext hW3
  have hc3 : Ints (ob vo) w3.heap vc c := (hc.up hup).ext hW3
  have hB53 := (hB5.ext hs2).step hs3 (own_notin ho2 hl5)
  have hno5 : b5 ∉ ob vo := own_notin ho3' hl5
  refine x r_assign <| xe ?_
  refine W_seq <| W_region (by rfl) ?_
  refine x r_move <| x r_move <| x r_move <| xl rfl <| xf <| (join_ok (i := i) (j := j) ho3' (by omega) (by omega) (by omega)).mono ?_
  rintro r4 w4 ⟨hs4, ho4⟩
  refine xe ?_
  have hlj : (joinC c i j).length = n := by rw [joinC_len]; exact hn
  have hU0 := uneq_le (joinC c i j)
  rw [hlj] at hU0
  refine exE (lwClose aS l (n * n + 1) (joinC c i j)) fun T hT => ?_
  have hRes : lwMerge aS l c i j = if lwCons l T = true then (T, true) else (c, false) := by unfold lwMerge; rw [hn, hT]
  rw [hRes]
  refine W_seq <| W_seq <| W_region (by rfl) ?_
  refine x r_assign <| xe ?_
  refine W_block <| W_loop (α := List Int × Bool × Nat) [(13, 15), (17, 19), (29, 96)] (fun z => [(13, .bool z.2.1)])
    (fun z w' => Step (ob vo) w3 w' ∧ IntsO 3 w1.heap.size w' vo z.1 ∧ z.1.length = n ∧ (z.2.1 = true → lwClose aS l z.2.2 z.1 = T ∧ uneq z.1 < z.2.2) ∧ (z.2.1 = false → z.1 = T))
    (fun z => bif z.2.1 then uneq z.1 + 1 else 0) (by rfl) (joinC c i j, true, n * n + 1) ⟨rfl, trivial⟩ ⟨hs4, ho4, hlj, fun _ => ⟨hT, by simp only []; omega⟩, fun e => by cases e⟩ ?_
  rintro ⟨c1, more, fu⟩ g1 w5 ⟨hs5, ho5, hl1, hm1, hm0⟩
  simp only [] at ho5 hl1 hm1 hm0
  refine W_seq <| W_seq <| W_region (by rfl) ?_
  refine x r_move <| xe ?_
  refine W_cond rfl (fun h29 => ?_) (fun h29 => ?_)
  rotate_left
  · refine W_exit ?_
    have e := hm0 h29
    rw [e] at ho5 hl1
    have hW5 : Step [] w w5 := hW3.then hs5 (fun b hb => .inr (by have := (hgeo b hb).1; omega))
    have hC5 := hC3.st hs5
    have hT5 := IntsO.ints (L := []) ho5 (by omega) (by simp)
    have hT5n : Arr [] w5.heap vo n 1 (T.map (.int .i64)) := by rw [← hl1]; exact hT5
    have hcons : lwCons l T = (List.range' 0 n).all fun x => (List.range' 0 x).all fun y => !(decide (0 ≤ cget T x ∧ cget T x = cget T y) && !lawC (lget l x) (lget l y)) := by unfold lwCons; rw [hl1]
    refine W_seq <| W_seq <| W_region (by rfl) ?_
    refine x r_assign <| xe ?_
    refine W_block <| W_loop (α := Nat) [(10, 11), (20, 21), (97, 136)] (fun z => [(20, .int .i64 z)]) (fun z w' => z ≤ n ∧ Step [] w5 w' ∧ lwCons l T = (List.range' z (n - z)).all fun x => (List.range' 0 x).all fun y => !(decide (0 ≤ cget T x ∧ cget T x = cget T y) && !lawC (lget l x) (lget l y))) (fun z => n - z) (by rfl) 0 ⟨rfl, trivial⟩ ⟨Nat.zero_le _, Step.refl _ _, hcons⟩ ?_
    rintro q g6 w6 ⟨hq, hs6, hr6⟩
    refine W_seq <| W_seq <| W_region (by rfl) ?_
    refine x r_move <| x r_move <| x (r_lenA hT5n rfl) <| x (r_lss rfl rfl) <| xe ?_
    refine W_ifn rfl (fun h100 => ?_) (fun h100 => ?_)
    · refine W_exit ?_
      refine W_seq <| W_region (by rfl) ?_
      refine x r_move <| x r_assign <| x r_assign <| xe ?_
      rw [rng_nil (by omega)] at hr6
      refine W_ret ⟨[vo, .bool true], ⟨rfl, rfl, trivial⟩, hW5.trans hs6, vo, true, rfl, ?_⟩
      rw [if_pos (show lwCons l T = true from hr6)]
      exact hT5.ext hs6
    have hqn : q < n := by omega
    rw [all_drop hqn] at hr6
    refine W_skip ?_
    refine W_seq <| W_block <| W_seq <| W_region (by rfl) ?_
    refine x r_assign <| xe ?_
    refine W_block <| W_loop (α := Nat) [(10, 11), (21, 21), (103, 136)] (fun z => [(21, .int .i64 z)]) (fun z w' => z ≤ q ∧ Step [] w5 w' ∧ lwCons l T = (((List.range' z (q - z)).all fun y => !(decide (0 ≤ cget T q ∧ cget T q = cget T y) && !lawC (lget l q) (lget l y))) && (List.range' (q + 1) (n - (q + 1))).all fun x => (List.range' 0 x).all fun y => !(decide (0 ≤ cget T x ∧ cget T x = cget T y) && !lawC (lget l x) (lget l y)))) (fun z => q - z) (by rfl) 0 ⟨rfl, trivial⟩ ⟨Nat.zero_le _, hs6, hr6⟩ ?_
    rintro r g7 w7 ⟨hr, hs7, hr7⟩
    refine W_seq <| W_seq <| W_region (by rfl) ?_
    refine x r_move <| x r_move <| x (r_lss rfl rfl) <| xe ?_
    refine W_ifn rfl (fun h105 => ?_) (fun h105 => ?_)
    · refine W_exit ?_
      refine W_region (by rfl) ?_
      refine x r_move <| x (r_add rfl rfl ⟨by omega, by omega⟩) <| x r_assign <| xe ?_
      rw [rng_nil (by omega), List.all_nil, Bool.true_and] at hr7
      exact ⟨q + 1, by omega, ⟨rfl, trivial⟩, hqn, hs7, hr7⟩
    have hrq : r < q := by omega
    rw [all_drop hrq] at hr7
    have hqc : q < cs.length := by omega
    have hrc : r < cs.length := by omega
    have hqT : q < T.length := by omega
    have hrT : r < T.length := by omega
    have hT7 := hT5.ext hs7
    have hC7 := hC5.ext hs7
    have haq := hC7.each _ (List.getElem_mem hqc)
    have har := hC7.each _ (List.getElem_mem hrc)
    refine exE (cs[q]'hqc) fun cq hcq => exE (cs[r]'hrc) fun cr hcr => ?_
    rw [hcq] at haq
    rw [hcr] at har
    have elq : lget l q = cq.c := by rw [← hcq]; exact lget_cv hlE hqc
    have elr : lget l r = cr.c := by rw [← hcr]; exact lget_cv hlE hrc
    refine W_skip ?_
    refine W_seq <| W_block <| W_cut (α := Unit) [(108, 135)] (fun z => [(135, .bool (decide (0 ≤ cget T q ∧ cget T q = cget T r) && !lawC (lget l q) (lget l r)))]) (fun z w' => Step [] w7 w') (by rfl) ?_ ?_
    · refine W_draw (Step [] w7) [(0, true), (1, true), (2, true), (3, true), (4, true), (5, true), (6, true), (7, true), (8, true), (9, true), (10, true), (11, true), (12, true), (13, true), (14, true), (15, true), (16, true), (17, true), (18, true), (19, true), (20, true), (21, true), (22, true), (23, true), (24, true), (25, false), (26, true), (27, true)] Tryd.mixed (by rfl) (by kernel_rfl) (Step.drew _ _) ?_
      refine p (fun _ => r_move) <| p (fun _ => r_move) <| pic (i := q) rfl hT7 rfl rfl hqT fun a110 h110 => pq (fun _ hc => r_loadA (h110.ext hc) rfl) <|
        pb (fun _ => r_geq rfl rfl) (fun h112 => ?_) (fun h112 => ?_)
      · refine p (fun _ => r_move) <| p (fun _ => r_move) <| p (fun _ => r_move) <| pic (i := q) rfl hT7 rfl rfl hqT fun a116 h116 => pq (fun _ hc => r_loadA (h116.ext hc) rfl) <|
          p (fun _ => r_move) <| p (fun _ => r_move) <| pic (i := r) rfl hT7 rfl rfl hrT fun a120 h120 => pq (fun _ hc => r_loadA (h120.ext hc) rfl) <|
          pb (fun _ => r_eql rfl rfl) (fun h122 => ?_) (fun h122 => ?_)
        · refine p (fun _ => r_pick rfl) <| p (fun _ => r_move) <| p (fun _ => r_move) <| p (fun _ => r_move) <| Lg.pig (g := cvCells) (i := q) rfl cv_len hC7.arr rfl rfl hqc fun a127 h127 => ?_
          rw [hcq] at h127
          refine pq (fun _ hc => r_loadsA (h127.ext hc) rfl rfl) <| p (fun _ => r_move) <| p (fun _ => r_move) <| Lg.pig (g := cvCells) (i := r) rfl cv_len hC7.arr rfl rfl hrc fun a131 h131 => ?_
          rw [hcr] at h131
          refine pq (fun _ hc => r_loadsA (h131.ext hc) rfl rfl) <| pk <| xf <| (lcons_ok (haq.ext (Step.drew [] w7)) (har.ext (Step.drew [] w7))).mono ?_
          rintro r8 w8 ⟨rfl, hs8⟩
          refine ⟨(Step.drew [] w7).trans hs8, p (fun _ => r_not rfl) <| p (fun _ => r_pick rfl) <| pe ?_⟩
          have e1 : (!lawC cq.c cr.c) = (decide (0 ≤ cget T q ∧ cget T q = cget T r) && !lawC (lget l q) (lget l r)) := by rw [elq, elr, decide_eq_true ⟨h112, h122⟩, Bool.true_and]
          exact ⟨(), ⟨congrArg Value.bool e1, trivial⟩, (Step.drew [] w7).trans hs8⟩
        refine p (fun _ => r_pick rfl) <| p (fun _ => r_move) <| ps <| ps <| ps <| ps <| ps <| ps <| ps <| ps <| ps <| ps <| p (fun _ => r_pick rfl) <| pe ?_
        have e1 : false = (decide (0 ≤ cget T q ∧ cget T q = cget T r) && !lawC (lget l q) (lget l r)) := by rw [decide_eq_false (fun e => h122 e.2), Bool.false_and]
        exact ⟨(), ⟨congrArg Value.bool e1, trivial⟩, Step.drew _ _⟩
      refine p (fun _ => r_move) <| ps <| ps <| ps <| ps <| ps <| ps <| ps <| ps <| ps <| p (fun _ => r_pick rfl) <| p (fun _ => r_move) <| ps <| ps <| ps <| ps <| ps <| ps <| ps <| ps <| ps <| ps <| p (fun _ => r_pick rfl) <|
        pe ?_
      have e1 : false = (decide (0 ≤ cget T q ∧ cget T q = cget T r) && !lawC (lget l q) (lget l r)) := by rw [decide_eq_false (fun e => h112 e.1), Bool.false_and]
      exact ⟨(), ⟨congrArg Value.bool e1, trivial⟩, Step.drew _ _⟩
    rintro z9 g9 w9 hs9
    refine W_cond rfl (fun h135 => ?_) (fun h135 => ?_)
    · have h136 : (decide (0 ≤ cget T q ∧ cget T q = cget T r) && !lawC (lget l q) (lget l r)) = true := h135
      rw [h136] at hr7
      refine W_seq <| W_region (by rfl) ?_
      refine x r_move <| x r_assign <| x r_assign <| xe ?_
      refine W_ret ⟨[vc, .bool false], ⟨rfl, rfl, trivial⟩, (hW5.trans hs7).trans hs9, vc, false, rfl, ?_⟩
      rw [if_neg (by rw [hr7]; simp)]
      exact (hc.ext hW5).ext (hs7.trans hs9)
    have h136 : (decide (0 ≤ cget T q ∧ cget T q = cget T r) && !lawC (lget l q) (lget l r)) = false := h135
    rw [h136, Bool.not_false, Bool.true_and] at hr7
    refine W_skip ?_
    refine W_region (by rfl) ?_
    refine x r_move <| x (r_add rfl rfl ⟨by omega, by omega⟩) <| x r_assign <| xe ?_
    exact ⟨r + 1, by omega, ⟨rfl, trivial⟩, hrq, hs7.trans hs9, hr7⟩
  have hT1 := (hm1 h29).1
  have hU1 := (hm1 h29).2
  refine exE (fu - 1) fun f' hf' => exE (uneq c1) fun U hU => exE (lwPass aS l c1) fun Pz hP => ?_
  have hfu : fu = f' + 1 := by omega
  rw [hfu, lwClose, hP] at hT1
  unfold lwPass at hP
  rw [hl1] at hP
  have hIo : Arr [] w5.heap vo n 1 (c1.map (.int .i64)) := by rw [← hl1]; exact IntsO.ints (L := []) ho5 (by omega) (by simp)
  refine W_skip ?_
  refine W_block <| W_seq <| W_region (by rfl) ?_
  refine x r_assign <| xe ?_
  refine W_seq <| W_region (by rfl) ?_
  refine x r_assign <| xe ?_
  refine W_block <| W_loop (α := (List Int × Bool) × Nat) [(13, 15), (17, 19), (30, 96)] (fun z => [(13, .bool z.1.2), (14, .int .i64 z.2)])
    (fun z w' => ClS w1.heap.size vo n U w5 z.1 w' ∧ z.2 ≤ n ∧ (List.range' z.2 (n - z.2)).foldl (lwX aS l) z.1 = Pz) (fun z => n - z.2) (by rfl) ((c1, false), 0) ⟨rfl, rfl, trivial⟩
    ⟨⟨Step.refl _ _, ho5, hl1, by simp only []; omega, fun e => by cases e⟩, Nat.zero_le _, hP⟩ ?_
  rintro ⟨z2, x1⟩ g10 w10 ⟨hC10, hx1, hr10⟩
  simp only [] at hC10 hx1 hr10
  have hl10 := hC10.len
  have hI10 : Arr [] w10.heap vo n 1 (z2.1.map (.int .i64)) := by rw [← hl10]; exact IntsO.ints (L := []) hC10.c (by omega) (by simp)
  refine W_seq <| W_seq <| W_region (by rfl) ?_
  refine x r_move <| x r_move <| x (r_lenA hI10 rfl) <| x (r_lss rfl rfl) <| xe ?_
  refine W_ifn rfl (fun h33 => ?_) (fun h33 => ?_)
  · refine W_exit ?_
    rw [rng_nil (by omega)] at hr10
    have hr10' : z2 = Pz := hr10
    rw [← hr10'] at hT1
    refine ⟨(z2.1, z2.2, f'), ?_, ⟨rfl, trivial⟩, hs5.trans' hC10.st, hC10.c, hC10.len, fun e => ?_, fun e => ?_⟩
    · show (bif z2.2 then uneq z2.1 + 1 else 0) < (bif more then uneq c1 + 1 else 0)
      rw [show more = true from h29, cond_true]
      cases hz : z2.2
      · rw [cond_false]; omega
      · rw [cond_true]; have := hC10.lt hz; omega
    · simp only [] at e ⊢
      rw [if_pos e] at hT1
      exact ⟨hT1, by have := hC10.lt e; omega⟩
    · simp only [] at e ⊢
      rw [if_neg (by rw [e]; simp)] at hT1
      exact hT1
  have hx1n : x1 < n := by omega
  rw [rng_cons hx1n, List.foldl_cons] at hr10
  refine exE (lwX aS l z2 x1) fun Z1 hZ1 => ?_
  rw [hZ1] at hr10
  unfold lwX at hZ1
  refine W_skip ?_
  refine W_seq <| W_block <| W_seq <| W_region (by rfl) ?_
  refine x r_assign <| xe ?_
  refine W_block <| W_loop (α := (List Int × Bool) × Nat) [(13, 13), (15, 15), (17, 19), (36, 96)] (fun z => [(13, .bool z.1.2), (15, .int .i64 z.2)])
    (fun z w' => ClS w1.heap.size vo n U w5 z.1 w' ∧ z.2 ≤ x1 ∧ (List.range' z.2 (x1 - z.2)).foldl (lwY aS l x1) z.1 = Z1) (fun z => x1 - z.2) (by rfl) (z2, 0) ⟨rfl, rfl, trivial⟩ ⟨hC10, Nat.zero_le _, hZ1⟩ ?_
  rintro ⟨z3, y1⟩ g11 w11 ⟨hC11, hy1, hr11⟩
  simp only [] at hC11 hy1 hr11
  have hl11 := hC11.len
  refine W_seq <| W_seq <| W_region (by rfl) ?_
  refine x r_move <| x r_move <| x (r_lss rfl rfl) <| xe ?_
  refine W_ifn rfl (fun h38 => ?_) (fun h38 => ?_)
  · refine W_exit ?_
    refine W_region (by rfl) ?_
    refine x r_move <| x (r_add rfl rfl ⟨by omega, by omega⟩) <| x r_assign <| xe ?_
    rw [rng_nil (by omega)] at hr11
    have hr11' : z3 = Z1 := hr11
    refine ⟨(z3, x1 + 1), by simp only []; omega, ⟨rfl, rfl, trivial⟩, hC11, hx1n, ?_⟩
    simp only []
    rw [hr11']; exact hr10
  have hyx : y1 < x1 := by omega
  rw [rng_cons hyx, List.foldl_cons] at hr11
  refine exE (lwY aS l x1 z3 y1) fun Z2 hZ2 => ?_
  rw [hZ2] at hr11
  unfold lwY at hZ2
  have hx3 : x1 < z3.1.length := by omega
  have hy3 : y1 < z3.1.length := by omega
  have hcx : x1 < cs.length := by omega
  have hcy : y1 < cs.length := by omega
  have hI11 := IntsO.ints (L := []) hC11.c (by omega) (by simp)
  refine W_skip ?_
  refine W_seq <| W_block <| W_seq <| W_cut (α := Unit) [(41, 56)] (fun z => [(56, .bool (decide (cget z3.1 x1 < 0 ∨ cget z3.1 x1 ≠ cget z3.1 y1)))]) (fun z w' => Step [] w11 w') (by rfl) ?_ ?_
  · refine W_draw (Step [] w11) [(0, true), (1, true), (2, true), (3, true), (4, true), (5, true), (6, true), (7, true), (8, true), (9, true), (10, true), (11, true), (12, true), (13, true), (14, true), (15, true)] Tryd.mixed (by rfl) (by kernel_rfl) (Step.drew _ _) ?_
    refine p (fun _ => r_move) <| p (fun _ => r_move) <| pic (i := x1) rfl hI11 rfl rfl hx3 fun a43 h43 => pq (fun _ hc => r_loadA (h43.ext hc) rfl) <|
      pb (fun _ => r_lss rfl rfl) (fun h45 => ?_) (fun h45 => ?_)
    · refine p (fun _ => r_move) <| ps <| ps <| ps <| ps <| ps <| ps <| ps <| ps <| ps <| p (fun _ => r_pick rfl) <| pe ?_
      exact ⟨(), ⟨congrArg Value.bool (decide_eq_true (.inl h45)).symm, trivial⟩, Step.drew _ _⟩
    refine p (fun _ => r_move) <| p (fun _ => r_move) <| p (fun _ => r_move) <| pic (i := x1) rfl hI11 rfl rfl hx3 fun a49 h49 => pq (fun _ hc => r_loadA (h49.ext hc) rfl) <|
      p (fun _ => r_move) <| p (fun _ => r_move) <| pic (i := y1) rfl hI11 rfl rfl hy3 fun a53 h53 => pq (fun _ hc => r_loadA (h53.ext hc) rfl) <| p (fun _ => r_neq rfl rfl) <|
      p (fun _ => r_pick rfl) <| pe ?_
    refine ⟨(), ⟨congrArg Value.bool ?_, trivial⟩, Step.drew _ _⟩
    exact decide_eq_decide.2 ⟨fun e => .inr e, fun e => e.resolve_left h45⟩
  rintro z12 g12 w12 hs12'
  have hC12 := hC11.ext hs12'
  refine W_if rfl (fun h56 => ?_) (fun h56 => ?_)
  · rw [if_pos h56] at hZ2
    refine W_exit ?_
    refine W_region (by rfl) ?_
    refine x r_move <| x (r_add rfl rfl ⟨by omega, by omega⟩) <| x r_assign <| xe ?_
    refine ⟨(z3, y1 + 1), by simp only []; omega, ⟨rfl, rfl, trivial⟩, hC12, hyx, ?_⟩
    simp only []
    rw [hZ2]; exact hr11
  rw [if_neg h56] at hZ2
  have hS12 : Step (ob vo) w3 w12 := hs5.trans' hC12.st
  have hCt := hC3.st hS12
  have hax := hCt.each _ (List.getElem_mem hcx)
  have hay := hCt.each _ (List.getElem_mem hcy)
  refine exE (cs[x1]'hcx) fun cx hcxe => exE (cs[y1]'hcy) fun cy hcye => ?_
  rw [hcxe] at hax
  rw [hcye] at hay
  have elx : lget l x1 = cx.c := by rw [← hcxe]; exact lget_cv hlE hcx
  have ely : lget l y1 = cy.c := by rw [← hcye]; exact lget_cv hlE hcy
  have hnxx := hnx x1 hx1n
  have hnxy := hnx y1 (by omega)
  rw [elx] at hZ2 hnxx
  rw [ely] at hnxy
  have hxle := hax.en.le
  refine W_skip ?_
  refine W_seq <| W_region (by rfl) ?_
  refine x r_move <| x r_move <| xig (g := cvCells) (i := x1) cv_len hCt.arr rfl rfl hcx fun a59 h59 => ?_
  rw [hcxe] at h59
  refine x (r_field rfl) <| x (r_loadA (h59.fld 0 _ rfl) rfl) <| x (r_lenA hax.en rfl) <| x r_move <| xe ?_
  refine W_block <| W_loop (α := (List Int × Bool) × Nat) [(13, 13), (17, 19), (63, 96)] (fun z => [(13, .bool z.1.2), (63, .int .i64 z.2)])
    (fun z w' => ClS w1.heap.size vo n U w5 z.1 w' ∧ Step (ob vo) w12 w' ∧ z.2 ≤ cx.c.en.length ∧ (cx.c.en.drop z.2).foldl (lwE aS l x1 y1) z.1 = Z2) (fun z => cx.c.en.length - z.2) (by rfl) (z3, 0) ⟨rfl, rfl, trivial⟩ ⟨hC12, Step.refl _ _, Nat.zero_le _, hZ2⟩ ?_
  rintro ⟨z6, k⟩ g13 w13 ⟨hC13, hs13, hk, hr13⟩
  simp only [] at hC13 hk hr13
  have hl13 := hC13.len
  refine W_seq <| W_region (by rfl) ?_
  refine x (r_lss rfl rfl) <| xe ?_
  refine W_seq <| W_ifn rfl (fun h64 => ?_) (fun h64 => ?_)
  · refine W_exit ?_
    rw [List.drop_of_length_le (by omega)] at hr13
    have hr13' : z6 = Z2 := hr13
    refine W_region (by rfl) ?_
    refine x r_move <| x (r_add rfl rfl ⟨by omega, by omega⟩) <| x r_assign <| xe ?_
    refine ⟨(z6, y1 + 1), by simp only []; omega, ⟨rfl, rfl, trivial⟩, hC13, hyx, ?_⟩
    simp only []
    rw [hr13']; exact hr11
  have hltk : k < cx.c.en.length := by omega
  rw [List.drop_eq_getElem_cons hltk, List.foldl_cons] at hr13
  have hvm : (cx.c.en[k]'hltk) ∈ cx.c.en := List.getElem_mem hltk
  refine exE (cx.c.en[k]'hltk) fun v hv => ?_
  rw [hv] at hr13 hvm
  have hCt13 := hCt.st hs13
  have hax13 := hax.st hs13
  have hay13 := hay.st hs13
  have hE13 := hE3.st (hS12.trans' hs13)
  have hB513 := (hB53.step hS12 hno5).step hs13 hno5
  refine W_skip ?_
  refine W_seq <| W_block <| W_seq <| W_region (by rfl) ?_
  refine xii hax13.en rfl rfl hltk fun a65 h65 => ?_
  rw [hv] at h65
  refine x (r_loadA h65 rfl) <| x r_assign <| xe ?_
  refine W_seq <| W_seq <| W_region (by rfl) ?_
  refine x r_move <| x r_move <| xig (g := cvCells) (i := y1) cv_len hCt13.arr rfl rfl hcy fun a69 h69 => ?_
  rw [hcye] at h69
  refine x (r_field rfl) <| x (r_loadA (h69.fld 0 _ rfl) rfl) <| x r_move <|
    xl rfl <| xf <| (has30_ok hay13.en v).mono ?_
  rintro r14 w14 ⟨hr14, rfl⟩
  refine Or.elim (Decidable.em (v ∈ cy.c.en)) (fun hvy => ?_) (fun hvy => ?_)
  rotate_left
  · rw [decide_eq_false hvy] at hr14
    subst hr14
    have hskip : lwE aS l x1 y1 z6 v = z6 := by unfold lwE; rw [ely, if_pos hvy]
    rw [hskip] at hr13
    refine x (r_not rfl) <| xe ?_
    refine W_true rfl ?_
    refine W_exit ?_
    refine W_region (by rfl) ?_
    refine x (r_add rfl rfl ⟨by omega, by omega⟩) <| x r_move <| xe ?_
    exact ⟨(z6, k + 1), by simp only []; omega, ⟨rfl, rfl, trivial⟩, hC13, hs13, hltk, hr13⟩
  rw [decide_eq_true hvy] at hr14
  subst hr14
  have hux := hnxx v hvm
  have huy := hnxy v hvy
  refine exN hux.1 fun u hu => exN huy.1 fun t ht => ?_
  rw [lwE_eq (by rw [ely]; exact hvy) hu ht] at hr13
  rw [hu] at hux
  rw [ht] at huy
  have hun : u < z6.1.length := by omega
  have htn : t < z6.1.length := by omega
  refine x (r_not rfl) <| xe ?_
  refine W_false rfl ?_
  refine W_skip ?_
  refine W_seq <| W_draw (Step [] w14) [(0, true), (1, true), (2, true), (4, true), (5, true), (6, true), (3, false), (7, false), (8, true), (9, true)] Tryd.mixed (by rfl) (by kernel_rfl) (Step.drew _ _) ?_
  refine pq (fun _ hc => r_loadsB (hB513.ext hc) rfl rfl) <| p (fun _ => r_move) <| p (fun _ => r_move) <| pq (fun _ hc => r_loadsB (hB513.ext hc) rfl rfl) <|
    p (fun _ => r_move) <| p (fun _ => r_move) <| pk <| xf <| (next30_ok (hE13.ext (Step.drew [] w14)) x1 v st).mono ?_
  rintro r15 w15 ⟨hr15, hs15⟩
  rw [hu] at hr15
  subst hr15
  have hs1415 := (Step.drew [] w14).trans hs15
  refine ⟨hs1415, ?_⟩
  refine pk <| xf <| (next30_ok (hE13.ext hs1415) y1 v st).mono ?_
  rintro r16 w16 ⟨hr16, hs16⟩
  rw [ht] at hr16
  subst hr16
  have hs1416 := hs1415.trans hs16
  refine ⟨hs1416, ?_⟩
  refine p (fun _ => r_assign) <| p (fun _ => r_assign) <| pe ?_
  have hC16 := hC13.ext hs1416
  have hs16' := hs13.trans hs1416
  have hI16 := IntsO.ints (L := []) hC16.c (by omega) (by simp)
  refine W_seq <| W_draw (Step [] w16) [(0, true), (1, true), (2, true), (3, true), (4, true), (5, true), (6, true), (7, true), (8, true)] Tryd.mixed (by rfl) (by kernel_rfl) (Step.drew _ _) ?_
  refine p (fun _ => r_move) <| p (fun _ => r_move) <| pic (i := u) rfl hI16 rfl rfl hun fun a85 h85 => pq (fun _ hc => r_loadA (h85.ext hc) rfl) <|
    p (fun _ => r_move) <| p (fun _ => r_move) <| pic (i := t) rfl hI16 rfl rfl htn fun a89 h89 => pq (fun _ hc => r_loadA (h89.ext hc) rfl) <| p (fun _ => r_neq rfl rfl) <|
    pe ?_
  have hd := Step.drew [] w16
  have hC17 := hC16.ext hd
  have hs17 := hs16'.trans hd
  refine W_ifn rfl (fun h91 => ?_) (fun h91 => ?_)
  · rw [if_neg h91] at hr13
    refine W_skip ?_
    refine W_region (by rfl) ?_
    refine x (r_add rfl rfl ⟨by omega, by omega⟩) <| x r_move <| xe ?_
    exact ⟨(z6, k + 1), by simp only []; omega, ⟨rfl, rfl, trivial⟩, hC17, hs17, hltk, hr13⟩
  rw [if_pos h91] at hr13
  have hdec := uneq_join_lt hun htn h91
  have hle6 := hC13.le
  refine W_seq <| W_region (by rfl) ?_
  refine x r_move <| x r_move <| x r_move <| xl rfl <| xf <| (join_ok hC17.c hun htn (by omega)).mono ?_
  rintro r18 w18 ⟨hs18, ho18⟩
  refine xe ?_
  refine W_region (by rfl) ?_
  refine x r_assign <| xe ?_
  refine W_region (by rfl) ?_
  refine x (r_add rfl rfl ⟨by omega, by omega⟩) <| x r_move <| xe ?_
  exact ⟨((joinC z6.1 u t, true), k + 1), by simp only []; omega, ⟨rfl, rfl, trivial⟩, ⟨hC17.st.trans' hs18, ho18, by simp only [joinC_len]; exact hl13, by simp only []; omega, fun _ => by simp only []; omega⟩, hs17.trans' hs18, hltk, hr13⟩
end Go.Proofs.YtfhgnlkdcdlblaaDoor
/- Contract: law30's reduce. -/
namespace Go.Proofs.YtfhgnlkdcdlblaaDoor
open Go.Lg

theorem fold_len {α : Type} {f : List Int × Bool → α → List Int × Bool} (hf : ∀ z a, (f z a).1.length = z.1.length) : ∀ (rs : List α) (z : List Int × Bool), (rs.foldl f z).1.length = z.1.length
  | [], _ => rfl
  | a :: rs, z => by rw [List.foldl_cons, fold_len hf rs, hf]
theorem lwE_len (s : Aut) (l : List Ctl) (x y : Nat) (z : List Int × Bool) (e : Int) : (lwE s l x y z e).1.length = z.1.length := by
  unfold lwE
  split
  · rfl
  · split
    · exact joinC_len _ _ _
    · rfl
theorem lwY_len (s : Aut) (l : List Ctl) (x : Nat) (z : List Int × Bool) (y : Nat) : (lwY s l x z y).1.length = z.1.length := by
  unfold lwY
  split
  · rfl
  · exact fold_len (lwE_len s l x y) _ z
theorem lwX_len (s : Aut) (l : List Ctl) (z : List Int × Bool) (x : Nat) : (lwX s l z x).1.length = z.1.length := fold_len (lwY_len s l x) _ z
theorem lwPass_len (s : Aut) (l : List Ctl) (c : List Int) : (lwPass s l c).1.length = c.length := fold_len (lwX_len s l) _ (c, false)
theorem lwClose_len (s : Aut) (l : List Ctl) : ∀ (f : Nat) (c : List Int), (lwClose s l f c).length = c.length
  | 0, _ => rfl
  | f + 1, c => by
    rw [lwClose]
    split
    · rw [lwClose_len s l f, lwPass_len]
    · exact lwPass_len s l c
theorem lwMerge_len (s : Aut) (l : List Ctl) (c : List Int) (i j : Nat) : (lwMerge s l c i j).1.length = c.length := by
  unfold lwMerge
  split
  · exact (lwClose_len s l _ _).trans (joinC_len _ _ _)
  · rfl
theorem lw0_succ (k : Nat) (pairs : List (List Int)) : lw0 (k + 1) pairs = lw0 k pairs ++ [if occB pairs k = true then (k : Int) else -1] := by
  unfold lw0; rw [List.range'_1_concat, List.map_append, Nat.zero_add]; rfl
theorem lw0_len (k : Nat) (pairs : List (List Int)) : (lw0 k pairs).length = k := by simp [lw0]
theorem ctlD_succ (p s : Aut) (pairs : List (List Int)) (k : Nat) : ((List.range' 0 (k + 1)).map fun x : Nat => ctlD p s pairs x) = ((List.range' 0 k).map fun x : Nat => ctlD p s pairs x) ++ [ctlD p s pairs k] := by
  rw [List.range'_1_concat, List.map_append, Nat.zero_add]; rfl
theorem lwN_succ (d : List Int) (k : Nat) : (List.range' 0 (k + 1)).foldl (lwN d) ([], 0) = lwN d ((List.range' 0 k).foldl (lwN d) ([], 0)) k := by
  rw [List.range'_1_concat, List.foldl_append, Nat.zero_add]; rfl
theorem mk_succ (l : List Ctl) (nm : List Int) (N k : Nat) : ((List.range' 0 (k + 1)).filter (lwMk l nm N)).map (fun c : Nat => (c : Int)) = if lwMk l nm N k = true then ((List.range' 0 k).filter (lwMk l nm N)).map (fun c : Nat => (c : Int)) ++ [(k : Int)] else ((List.range' 0 k).filter (lwMk l nm N)).map (fun c : Nat => (c : Int)) := by
  rw [List.range'_1_concat, List.filter_append, List.map_append, Nat.zero_add]
  by_cases h : lwMk l nm N k = true
  · rw [if_pos h, List.filter_cons, if_pos h]; rfl
  · rw [if_neg h, List.filter_cons, if_neg h, List.filter_nil, List.map_nil, List.append_nil]
theorem mk_len (l : List Ctl) (nm : List Int) (N k : Nat) : (((List.range' 0 k).filter (lwMk l nm N)).map (fun c : Nat => (c : Int))).length ≤ k := by
  rw [List.length_map]; exact Nat.le_trans (List.length_filter_le _ _) (by simp)
theorem fm_take {g : Int → Option Ed} {al : List Int} {k : Nat} (h : k < al.length) : (al.take (k + 1)).filterMap g = match g (al[k]'h) with | some e => (al.take k).filterMap g ++ [e] | none => (al.take k).filterMap g := by
  rw [List.take_succ_eq_append_getElem h, List.filterMap_append]
  cases hg : g (al[k]'h) with
  | none => rw [fm_none hg, List.append_nil]
  | some e => rw [fm_one hg]
theorem boolD (b : Bool) : b = true ∨ b = false := by cases b; exact .inr rfl; exact .inl rfl
/-- The first loop. -/
structure RdL (w7 : World) (vl vc : Value) (cs : List CV) (c : List Int) (w : World) : Prop where
  st : Step [] w7 w
  l : w.ownsRow w7.heap.size 56 4 vl cs.length (cs.flatMap cvCells)
  c : IntsO 3 w7.heap.size w vc c
  dj : Dj vl vc
  each : ∀ p ∈ cs, CvA (ob vl ++ ob vc) w.heap p
theorem RdL.ext {w7 w w' : World} {vl vc : Value} {cs : List CV} {c : List Int} (h : RdL w7 vl vc cs c w) (hs : Step [] w w') : RdL w7 vl vc cs c w' :=
  ⟨h.st.trans hs, own_ext h.l hs, own_ext h.c hs, h.dj, fun p hp => (h.each p hp).ext hs⟩
theorem RdL.setL {w7 w w' : World} {vl vc vl' : Value} {cs : List CV} {c : List Int} {cv : CV} (h : RdL w7 vl vc cs c w) (hs : Step (ob vl) w w') (hm : w'.ownsRow w7.heap.size 56 4 vl' (cs.length + 1) (cs.flatMap cvCells ++ cvCells cv)) (hn : ∀ b ∈ ob vl', b ∈ ob vl ∨ w.heap.size ≤ b)
    (hcv : CvA (ob vl ++ ob vc) w.heap cv) : RdL w7 vl' vc (cs ++ [cv]) c w' := by
  have hlc := own_lt h.c
  refine ⟨h.st.then hs (fun b hb => .inr (own_ge h.l b hb).1), by rw [List.length_append, List.flatMap_append]; simpa using hm, own_step h.c hs h.dj.symm, (h.dj.symm.grow hn hlc).symm, fun p hp => ?_⟩
  have key : ∀ q : CV, CvA (ob vl ++ ob vc) w.heap q → CvA (ob vl' ++ ob vc) w'.heap q := fun q hq => by
    have hup : ∀ b ∈ ob vl' ++ ob vl ++ ob vc, b ∈ ob vl ++ ob vc ∨ w.heap.size ≤ b := fun b hb => by
      simp only [List.mem_append] at hb ⊢
      rcases hb with (hb | hb) | hb
      · rcases hn b hb with h1 | h1
        · exact .inl (.inl h1)
        · exact .inr h1
      · exact .inl (.inl hb)
      · exact .inl (.inr hb)
    have h1 := hq.up hup
    have h2 : CvA (ob vl' ++ ob vl ++ ob vc) w'.heap q := ⟨h1.en.step hs (fun b hb => by simp [hb]), h1.dis.step hs (fun b hb => by simp [hb])⟩
    exact h2.up (fun b hb => .inl (by simp only [List.mem_append] at hb ⊢; rcases hb with hb | hb; exact .inl (.inl hb); exact .inr hb))
  rcases List.mem_append.1 hp with hp | hp
  · exact key p (h.each p hp)
  · simp only [List.mem_singleton] at hp; subst hp; exact key p hcv
theorem RdL.setC {w7 w w' : World} {vl vc vc' : Value} {cs : List CV} {c c' : List Int} (h : RdL w7 vl vc cs c w) (hs : Step (ob vc) w w') (hm : IntsO 3 w7.heap.size w' vc' c') (hn : ∀ b ∈ ob vc', b ∈ ob vc ∨ w.heap.size ≤ b) : RdL w7 vl vc' cs c' w' := by
  have hll := own_lt h.l
  refine ⟨h.st.then hs (fun b hb => .inr (own_ge h.c b hb).1), own_step h.l hs h.dj, hm, h.dj.grow hn hll, fun p hp => ?_⟩
  have hq := h.each p hp
  have hup : ∀ b ∈ ob vl ++ ob vc' ++ ob vc, b ∈ ob vl ++ ob vc ∨ w.heap.size ≤ b := fun b hb => by
    simp only [List.mem_append] at hb ⊢
    rcases hb with (hb | hb) | hb
    · exact .inl (.inl hb)
    · rcases hn b hb with h1 | h1
      · exact .inl (.inr h1)
      · exact .inr h1
    · exact .inl (.inr hb)
  have h1 := hq.up hup
  have h2 : CvA (ob vl ++ ob vc' ++ ob vc) w'.heap p := ⟨h1.en.step hs (fun b hb => by simp [hb]), h1.dis.step hs (fun b hb => by simp [hb])⟩
  exact h2.up (fun b hb => .inl (by simp only [List.mem_append] at hb ⊢; rcases hb with hb | hb; exact .inl (.inl hb); exact .inl (.inr hb)))
theorem RdL.ctls {w7 w : World} {vl vc : Value} {cs : List CV} {c : List Int} (h : RdL w7 vl vc cs c w) (hn : cs.length ≤ 4096) : Ctls [] w.heap vl cs := ⟨own_arr h.l (by omega) (fun b _ => by simp), fun p hp => (h.each p hp).up (fun b hb => by cases hb)⟩
theorem ones_cv {L : List Nat} {H : Array Obj} {p : CV} (h : CvA L H p) : ∀ u ∈ cvCells p, u.oneCell' = true := fun u hu => by
  simp only [List.mem_cons, List.not_mem_nil, or_false] at hu
  rcases hu with rfl | rfl | rfl | rfl
  · exact h.en.one
  · exact h.dis.one
  · rfl
  · rfl
end Go.Proofs.YtfhgnlkdcdlblaaDoor
