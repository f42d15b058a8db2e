/- Merged out of 12 texts. -/
import Derived.Test.YtfhgnlkdcdlblaaDoorKdc
/- Merged out of the texts Ta Dg Dh Tb Di. -/
/- The Controls as the definition says: plain law for SupervisorMaps. -/
namespace Go.Proofs.YtfhgnlkdcdlblaaDoor
open Go.Lg

theorem Inc.ext : ∀ {a b : List Int}, Inc a → Inc b → (∀ x, x ∈ a ↔ x ∈ b) → a = b
  | [], [], _, _, _ => rfl
  | [], y :: b, _, _, h => by have := (h y).2 List.mem_cons_self; cases this
  | x :: a, [], _, _, h => by have := (h x).1 List.mem_cons_self; cases this
  | x :: a, y :: b, ia, ib, h => by
    have e : x = y := by
      have h1 := (h x).1 List.mem_cons_self
      have h2 := (h y).2 List.mem_cons_self
      rcases List.mem_cons.1 h1 with h1 | h1
      · exact h1
      · rcases List.mem_cons.1 h2 with h2 | h2
        · exact h2.symm
        · have := ib.lt_of h1; have := ia.lt_of h2; omega
    subst e
    congr 1
    refine Inc.ext ia.tail ib.tail fun z => ?_
    have hz := h z
    constructor
    · intro hm
      have := hz.1 (List.mem_cons_of_mem _ hm)
      rcases List.mem_cons.1 this with h1 | h1
      · have := ia.lt_of hm; omega
      · exact h1
    · intro hm
      have := hz.2 (List.mem_cons_of_mem _ hm)
      rcases List.mem_cons.1 this with h1 | h1
      · have := ib.lt_of hm; omega
      · exact h1
theorem uni1_mem {l : List Int} (h : Inc l) (v x : Int) : x ∈ uni1 l v ↔ x ∈ l ∨ x = v := by
  unfold uni1
  rw [mem_mrg h (by simp)]
  simp
theorem uni1_inc {l : List Int} (h : Inc l) (v : Int) : Inc (uni1 l v) := mrg_inc _ _ l [v] (Nat.le_refl _) h (by simp)
theorem nxt_eget (es : List Ed) (s v : Int) : nxt es s v = match eget es s v with | some u => u | none => -1 := by
  induction es with
  | nil => rfl
  | cons e es ih =>
    rw [nxt, eget]
    split
    · rfl
    · exact ih
theorem nxt_nonneg {a : Aut} (ho : Okay a) (s v : Int) : 0 ≤ nxt a.ed s v ↔ (eget a.ed s v).isSome = true := by
  rw [nxt_eget]
  cases h : eget a.ed s v with
  | none => simp
  | some u => simp; exact (ho.ed _ (eget_mem h)).2.2.2.1
/-! ### The definition -/
def canX (p : Aut) (pairs : List (List Int)) (x e : Int) : Bool := pairs.any fun q => decide (py q = x) && decide (0 ≤ nxt p.ed (px q) e)
def ctlD (p s : Aut) (pairs : List (List Int)) (x : Int) : Ctl :=
  ⟨s.al.filter fun e => canX p pairs x e && decide (0 ≤ nxt s.ed x e), s.al.filter fun e => canX p pairs x e && !decide (0 ≤ nxt s.ed x e),
    (pairs.any fun q => decide (py q = x)) && decide (x ∈ s.mr), pairs.any fun q => decide (py q = x) && decide (px q ∈ p.mr)⟩
/-- A Control after the pairs so far. -/
structure CtlI (p s : Aut) (pairs : List (List Int)) (x : Int) (c : Ctl) : Prop where
  ei : Inc c.en
  di : Inc c.dis
  em : ∀ e, e ∈ c.en ↔ e ∈ s.al ∧ canX p pairs x e = true ∧ 0 ≤ nxt s.ed x e
  dm : ∀ e, e ∈ c.dis ↔ e ∈ s.al ∧ canX p pairs x e = true ∧ ¬ 0 ≤ nxt s.ed x e
  mk2 : c.mk' = ((pairs.any fun q => decide (py q = x)) && decide (x ∈ s.mr))
  ps : c.ps = pairs.any fun q => decide (py q = x) && decide (px q ∈ p.mr)
theorem CtlI.eq {p s : Aut} {pairs : List (List Int)} {x : Int} {c : Ctl} (h : CtlI p s pairs x c) (hi : Inc s.al) : c = ctlD p s pairs x := by
  obtain ⟨en, dis, mk', ps⟩ := c
  have e1 : en = s.al.filter fun e => canX p pairs x e && decide (0 ≤ nxt s.ed x e) := by
    refine Inc.ext h.ei (List.Pairwise.sublist List.filter_sublist hi) fun e => ?_
    rw [h.em e, List.mem_filter]; simp
  have e2 : dis = s.al.filter fun e => canX p pairs x e && !decide (0 ≤ nxt s.ed x e) := by
    refine Inc.ext h.di (List.Pairwise.sublist List.filter_sublist hi) fun e => ?_
    rw [h.dm e, List.mem_filter]; simp
  have e3 := h.mk2
  have e4 := h.ps
  simp only [] at e3 e4
  unfold ctlD
  rw [e1, e2, e3, e4]
theorem CtlI.zero (p s : Aut) (x : Int) : CtlI p s [] x ctl0 := ⟨by simp [ctl0], by simp [ctl0], by simp [ctl0, canX], by simp [ctl0, canX], by simp [ctl0], by simp [ctl0]⟩
theorem CtlI.other {p s : Aut} {pairs : List (List Int)} {x : Int} {c : Ctl} (h : CtlI p s pairs x c) {q : List Int} (hq : py q ≠ x) : CtlI p s (pairs ++ [q]) x c := by
  have hc : ∀ e, canX p (pairs ++ [q]) x e = canX p pairs x e := fun e => by unfold canX; rw [List.any_append]; simp [hq]
  refine ⟨h.ei, h.di, fun e => by rw [hc]; exact h.em e, fun e => by rw [hc]; exact h.dm e, ?_, ?_⟩
  · rw [h.mk2, List.any_append]; simp [hq]
  · rw [h.ps, List.any_append]; simp [hq]
/-- The events of a pair. -/
theorem ctlE_fold {p s : Aut} (hp : Okay p) (hs : Okay s) (x y : Int) : ∀ (vs : List Int) (c : Ctl), Inc c.en → Inc c.dis →
    Inc (vs.foldl (ctlE p s x y) c).en ∧ Inc (vs.foldl (ctlE p s x y) c).dis ∧ (vs.foldl (ctlE p s x y) c).mk' = c.mk' ∧ (vs.foldl (ctlE p s x y) c).ps = c.ps ∧
    (∀ e, e ∈ (vs.foldl (ctlE p s x y) c).en ↔ e ∈ c.en ∨ (e ∈ vs ∧ 0 ≤ nxt p.ed x e ∧ 0 ≤ nxt s.ed y e)) ∧ (∀ e, e ∈ (vs.foldl (ctlE p s x y) c).dis ↔ e ∈ c.dis ∨ (e ∈ vs ∧ 0 ≤ nxt p.ed x e ∧ ¬ 0 ≤ nxt s.ed y e))
  | [], c, h1, h2 => ⟨h1, h2, rfl, rfl, fun e => by simp, fun e => by simp⟩
  | v :: vs, c, h1, h2 => by
    rw [List.foldl_cons]
    have np := nxt_nonneg hp x v
    have ns := nxt_nonneg hs y v
    unfold ctlE
    cases hep : eget p.ed x v with
    | none =>
      rw [hep] at np
      obtain ⟨i1, i2, i3, i4, i5, i6⟩ := ctlE_fold hp hs x y vs c h1 h2
      unfold ctlE at i1 i2 i3 i4 i5 i6
      refine ⟨i1, i2, i3, i4, fun e => ?_, fun e => ?_⟩
      · rw [i5 e]
        constructor
        · rintro (h | h)
          · exact .inl h
          · exact .inr ⟨List.mem_cons_of_mem _ h.1, h.2⟩
        · rintro (h | ⟨h, h3, h4⟩)
          · exact .inl h
          · rcases List.mem_cons.1 h with rfl | h
            · have := np.1 h3; cases this
            · exact .inr ⟨h, h3, h4⟩
      · rw [i6 e]
        constructor
        · rintro (h | h)
          · exact .inl h
          · exact .inr ⟨List.mem_cons_of_mem _ h.1, h.2⟩
        · rintro (h | ⟨h, h3, h4⟩)
          · exact .inl h
          · rcases List.mem_cons.1 h with rfl | h
            · have := np.1 h3; cases this
            · exact .inr ⟨h, h3, h4⟩
    | some t =>
      rw [hep] at np
      have hpv : 0 ≤ nxt p.ed x v := np.2 rfl
      cases hes : eget s.ed y v with
      | some u =>
        rw [hes] at ns
        have hsv : 0 ≤ nxt s.ed y v := ns.2 rfl
        obtain ⟨i1, i2, i3, i4, i5, i6⟩ := ctlE_fold hp hs x y vs ⟨uni1 c.en v, c.dis, c.mk', c.ps⟩ (uni1_inc h1 v) h2
        unfold ctlE at i1 i2 i3 i4 i5 i6
        refine ⟨i1, i2, i3, i4, fun e => ?_, fun e => ?_⟩
        · rw [i5 e, uni1_mem h1]
          constructor
          · rintro ((h | rfl) | h)
            · exact .inl h
            · exact .inr ⟨List.mem_cons_self, hpv, hsv⟩
            · exact .inr ⟨List.mem_cons_of_mem _ h.1, h.2⟩
          · rintro (h | ⟨h, h3⟩)
            · exact .inl (.inl h)
            · rcases List.mem_cons.1 h with rfl | h
              · exact .inl (.inr rfl)
              · exact .inr ⟨h, h3⟩
        · rw [i6 e]
          constructor
          · rintro (h | h)
            · exact .inl h
            · exact .inr ⟨List.mem_cons_of_mem _ h.1, h.2⟩
          · rintro (h | ⟨h, h3, h4⟩)
            · exact .inl h
            · rcases List.mem_cons.1 h with rfl | h
              · exact absurd hsv h4
              · exact .inr ⟨h, h3, h4⟩
      | none =>
        rw [hes] at ns
        have hsv : ¬ 0 ≤ nxt s.ed y v := fun h => by have := ns.1 h; cases this
        obtain ⟨i1, i2, i3, i4, i5, i6⟩ := ctlE_fold hp hs x y vs ⟨c.en, uni1 c.dis v, c.mk', c.ps⟩ h1 (uni1_inc h2 v)
        unfold ctlE at i1 i2 i3 i4 i5 i6
        refine ⟨i1, i2, i3, i4, fun e => ?_, fun e => ?_⟩
        · rw [i5 e]
          constructor
          · rintro (h | h)
            · exact .inl h
            · exact .inr ⟨List.mem_cons_of_mem _ h.1, h.2⟩
          · rintro (h | ⟨h, h3, h4⟩)
            · exact .inl h
            · rcases List.mem_cons.1 h with rfl | h
              · exact absurd h4 hsv
              · exact .inr ⟨h, h3, h4⟩
        · rw [i6 e, uni1_mem h2]
          constructor
          · rintro ((h | rfl) | h)
            · exact .inl h
            · exact .inr ⟨List.mem_cons_self, hpv, hsv⟩
            · exact .inr ⟨List.mem_cons_of_mem _ h.1, h.2⟩
          · rintro (h | ⟨h, h3⟩)
            · exact .inl (.inl h)
            · rcases List.mem_cons.1 h with rfl | h
              · exact .inl (.inr rfl)
              · exact .inr ⟨h, h3⟩
theorem CtlI.pair {p s : Aut} (hp : Okay p) (hs : Okay s) {pairs : List (List Int)} {c : Ctl} {q : List Int} (h : CtlI p s pairs (py q) c) : CtlI p s (pairs ++ [q]) (py q) (ctlP p s (px q) (py q) c) := by
  unfold ctlP
  obtain ⟨i1, i2, i3, i4, i5, i6⟩ := ctlE_fold hp hs (px q) (py q) s.al (ctlB p s (px q) (py q) c) h.ei h.di
  have hc : ∀ e, canX p (pairs ++ [q]) (py q) e = true ↔ canX p pairs (py q) e = true ∨ 0 ≤ nxt p.ed (px q) e := fun e => by unfold canX; rw [List.any_append]; simp
  refine ⟨i1, i2, fun e => ?_, fun e => ?_, ?_, ?_⟩
  · rw [i5 e, hc]
    show e ∈ c.en ∨ _ ↔ _
    rw [h.em e]
    constructor
    · rintro (⟨a1, a2, a3⟩ | ⟨a1, a2, a3⟩)
      · exact ⟨a1, .inl a2, a3⟩
      · exact ⟨a1, .inr a2, a3⟩
    · rintro ⟨a1, a2 | a2, a3⟩
      · exact .inl ⟨a1, a2, a3⟩
      · exact .inr ⟨a1, a2, a3⟩
  · rw [i6 e, hc]
    show e ∈ c.dis ∨ _ ↔ _
    rw [h.dm e]
    constructor
    · rintro (⟨a1, a2, a3⟩ | ⟨a1, a2, a3⟩)
      · exact ⟨a1, .inl a2, a3⟩
      · exact ⟨a1, .inr a2, a3⟩
    · rintro ⟨a1, a2 | a2, a3⟩
      · exact .inl ⟨a1, a2, a3⟩
      · exact .inr ⟨a1, a2, a3⟩
  · rw [i3, List.any_append]
    simp [ctlB]
  · rw [i4, List.any_append]
    show (c.ps || _) = _
    rw [h.ps]; simp
theorem ctls_def {p s : Aut} (hp : Okay p) (hs : Okay s) {pairs : List (List Int)} (hv : ∀ q ∈ pairs, Vt [p, s] q) : ∀ x, x < s.st.toNat → lget (ctls p s pairs) x = ctlD p s pairs x := by
  have key : ∀ (r pre : List (List Int)) (l : List Ctl), (∀ q ∈ r, Vt [p, s] q) → l.length = s.st.toNat → (∀ x, x < s.st.toNat → CtlI p s pre x (lget l x)) → ∀ x, x < s.st.toNat → CtlI p s (pre ++ r) x (lget (r.foldl (ctlQ p s) l) x) := by
    intro r
    induction r with
    | nil => intro pre l _ _ h x hx; simpa using h x hx
    | cons q r ih =>
      intro pre l hr hl h x hx
      obtain ⟨xi, yi, rfl, hx1, hy1⟩ := Vt2 (hr q List.mem_cons_self)
      rw [List.foldl_cons, show pre ++ [(xi : Int), (yi : Int)] :: r = (pre ++ [[(xi : Int), (yi : Int)]]) ++ r by simp]
      refine ih _ _ (fun q hq => hr q (List.mem_cons_of_mem _ hq)) (by simp [ctlQ, hl]) (fun z hz => ?_) x hx
      have e1 : py [(xi : Int), (yi : Int)] = (yi : Int) := rfl
      have e2 : px [(xi : Int), (yi : Int)] = (xi : Int) := rfl
      unfold ctlQ
      rw [e1, e2, Int.toNat_natCast]
      by_cases ez : z = yi
      · subst ez
        have e3 : lget (l.set z (ctlP p s xi z (l.getD z ctl0))) z = ctlP p s xi z (lget l z) := by
          unfold lget
          simp only [List.getD]
          rw [List.getElem?_set_self (by omega)]; rfl
        rw [e3]
        have := CtlI.pair hp hs (q := [(xi : Int), (z : Int)]) (c := lget l z) (h z hz)
        exact this
      · have e3 : lget (l.set yi (ctlP p s xi yi (l.getD yi ctl0))) z = lget l z := by
          unfold lget
          simp only [List.getD, List.getElem?_set]
          rw [if_neg (fun e => ez e.symm)]
        rw [e3]
        exact (h z hz).other (by rw [e1]; omega)
  intro x hx
  have h1 := key pairs [] (List.replicate s.st.toNat ctl0) hv (by simp) (fun z hz => by
    have : lget (List.replicate s.st.toNat ctl0) z = ctl0 := by unfold lget; simp [List.getD, hz]
    rw [this]; exact CtlI.zero p s z) x hx
  rw [List.nil_append] at h1
  exact h1.eq hs.ali
end Go.Proofs.YtfhgnlkdcdlblaaDoor

/- Contracts: supervisor.Loop; automaton.Equal and law30's same where both are equal. -/
namespace Go.Proofs.YtfhgnlkdcdlblaaDoor
open Go.Lg

theorem Loop_ok {L : List Nat} {w : World} {pva pvm pve sa sm se : Value} {aP aS : Aut} (hp : AutA L w.heap pva pvm pve aP) (hs : AutA L w.heap sa sm se aS) (hst : Okay aP → Okay aS → aP.st ≤ 100 ∧ aS.st ≤ 100) :
    Ret Tryd.prog 16 [.agg #[pva, .int .i64 aP.st, pvm, pve], .agg #[sa, .int .i64 aS.st, sm, se]] w fun r w' => Step [] w w' ∧ ∃ v, r = .tuple #[v, .int .i64 (opE aP aS)] ∧
      (opE aP aS ≠ 0 → v = zA) ∧ (opE aP aS = 0 → AutF w.heap.size w'.heap v (opA aP aS)) := by
  refine Ret.of_W Tryd.func16 rfl Tryd.ntmps16 Tryd.results16 (by simp) ?_
  refine W_seq <| W_region (by rfl) ?_
  refine xl rfl <| o_box (us := [pva, .int .i64 aP.st, pvm, pve]) rfl fun b2 w1 hs1 hb2 hB2 => xl rfl <| o_box (us := [sa, .int .i64 aS.st, sm, se]) rfl fun b3 w2 hs2 hb3 hB3 =>
    xl rfl <| o_alloc (us := [.slice none 0 0, .int .i64 0, .slice none 0 0, .slice none 0 0]) rfl fun b4 w3 hs3 hb4 hB4 => x r_assign <| xe ?_
  have hs13 := (hs1.trans hs2).trans hs3
  have hz1 := hs1.size
  have hz2 := hs2.size
  have hl4 := hB4.lt
  refine W_seq <| W_region (by rfl) ?_
  refine x (r_loadsB ((hB2.ext hs2).ext hs3) rfl rfl) <| x (r_loadsB (hB3.ext hs3) rfl rfl) <| xl rfl <| xf <| (sopen_ok (hp.ext hs13) (hs.ext hs13) hst).mono ?_
  rintro r4 w4 ⟨hs4, va, vt, rfl, hO⟩
  obtain ⟨us, hva, husl, hus⟩ := hO.shape
  refine x r_move <| x (r_extract rfl rfl) <|
    x (r_extract rfl rfl) <| x (r_extract rfl rfl) <| xl rfl <| o_alloc (us := [.slice none 0 0, .int .i64 0, .slice none 0 0, .slice none 0 0]) rfl fun b6 w5 hs5 hb6 hB6 => xl rfl <| o_stores (us := us) hB6 rfl hva husl rfl hus fun w6 hs6 hB6' =>
    x r_assign <| x r_assign <| xe ?_
  have hs46 : Step [] w4 w6 := hs5.then1 hs6 hb6
  have hs36 := hs4.trans hs46
  have hz3 := hs3.size
  have hz13 := hs13.size
  refine W_seq <| W_region (by rfl) ?_
  refine x (r_loadsB hB6' rfl husl) <| x r_move <| xl rfl <| o_stores (us := us) (hB4.ext hs36) rfl rfl husl rfl hus fun w7 hs7 hB7 => x r_assign <| xe ?_
  refine W_ret ⟨[.agg us.toArray, .int .i64 (opE aP aS)], ⟨⟨_, rfl, run_loadVar_ag husl (hB7.at (L := []) (by simp)).cells⟩, rfl, trivial⟩, (hs13.trans hs36).then1 hs7 (by omega), va, by rw [hva]; rfl, fun e => (hO.bad e).1, fun e => ?_⟩
  exact (AutF_st1 ((hO.good e).1.ext hs46) (by omega) hs7).mono hz13

theorem Equal_same {L L' : List Nat} {w : World} {va vm ve va' vm' ve' : Value} {a : Aut} (h : AutA L w.heap va vm ve a) (h' : AutA L' w.heap va' vm' ve' a) :
    Ret Tryd.prog 15 [.agg #[va, .int .i64 a.st, vm, ve], .agg #[va', .int .i64 a.st, vm', ve']] w fun r w' => r = .bool true ∧ Step [] w w' := by
  refine Ret.of_W Tryd.func15 rfl Tryd.ntmps15 Tryd.results15 (by simp) ?_
  refine W_seq <| W_region (by rfl) ?_
  refine xl rfl <| o_box (us := [va, .int .i64 a.st, vm, ve]) rfl fun b2 w1 hs1 hb2 hB2 => xl rfl <| o_box (us := [va', .int .i64 a.st, vm', ve']) rfl fun b3 w2 hs2 hb3 hB3 => x r_assign <| xe ?_
  have hs12 := hs1.trans hs2
  have hB22 := hB2.ext hs2
  refine W_seq <| W_region (by rfl) ?_
  refine x (r_fieldB rfl) <| x (r_loadB hB22 rfl rfl) <| x (r_fieldB rfl) <| x (r_loadB hB3 rfl rfl) <| xb (r_eql rfl rfl) (fun _ => ?_) (fun h9 => absurd rfl h9)
  refine x r_move <| x (r_fieldB rfl) <| x (r_loadB hB22 rfl rfl) <| x (r_fieldB rfl) <| x (r_loadB hB3 rfl rfl) <| xl rfl <| xf <| (equalI_ok (h.al.ext hs12) (h'.al.ext hs12)).mono ?_
  rintro r3 w3 ⟨hr3, hs3⟩
  rw [decide_eq_true rfl] at hr3
  subst hr3
  have hs13 := hs12.trans hs3
  refine x (r_pick rfl) <|
    x r_move <| x (r_fieldB rfl) <| x (r_loadB (hB22.ext hs3) rfl rfl) <| x (r_fieldB rfl) <| x (r_loadB (hB3.ext hs3) rfl rfl) <|
    xl rfl <| xf <| (equalI_ok (h.mr.ext hs13) (h'.mr.ext hs13)).mono ?_
  rintro r4 w4 ⟨hr4, hs4⟩
  rw [decide_eq_true rfl] at hr4
  subst hr4
  have hs14 := hs13.trans hs4
  have hs34 := hs3.trans hs4
  refine x (r_pick rfl) <| x r_move <| x (r_fieldB rfl) <| x (r_loadB (hB22.ext hs34) rfl rfl) <|
    x (r_fieldB rfl) <| x (r_loadB (hB3.ext hs34) rfl rfl) <| xl rfl <| xf <| (equalE_ok (h.ed.ext hs14) (h'.ed.ext hs14)).mono ?_
  rintro r5 w5 ⟨hr5, hs5⟩
  rw [decide_eq_true rfl] at hr5
  subst hr5
  refine x (r_pick rfl) <| x r_assign <| xe ?_
  exact W_ret ⟨[.bool true], ⟨rfl, trivial⟩, rfl, hs14.trans hs5⟩

theorem same_ok {L L' : List Nat} {w : World} {c d : CV} (hc : CvA L w.heap c) (hd : CvA L' w.heap d) (he : c.c = d.c) :
    Ret Tryd.prog 20 [.agg (cvCells c).toArray, .agg (cvCells d).toArray] w fun r w' => r = .bool true ∧ Step [] w w' := by
  refine Ret.of_W Tryd.func20 rfl Tryd.ntmps20 Tryd.results20 (by simp) ?_
  refine W_seq <| W_region (by rfl) ?_
  refine xl rfl <| o_box (us := cvCells c) rfl fun b2 w1 hs1 hb2 hB2 => xl rfl <| o_box (us := cvCells d) rfl fun b3 w2 hs2 hb3 hB3 => x r_assign <| xe ?_
  have hs12 := hs1.trans hs2
  have hB22 := hB2.ext hs2
  have hen := hc.en
  have hdi := hc.dis
  rw [he] at hen hdi
  have hmk : d.c.mk' = c.c.mk' := by rw [he]
  have hps : d.c.ps = c.c.ps := by rw [he]
  refine W_seq <| W_region (by rfl) ?_
  refine x (r_fieldB rfl) <| x (r_loadB hB22 rfl rfl) <| x (r_fieldB rfl) <| x (r_loadB hB3 rfl rfl) <| xl rfl <| xf <| (wEqual_ok (hen.ext hs12) (hd.en.ext hs12)).mono ?_
  rintro r3 w3 ⟨hr3, hs3⟩
  rw [decide_eq_true rfl] at hr3
  subst hr3
  have hs13 := hs12.trans hs3
  refine x r_move <| x (r_fieldB rfl) <| x (r_loadB (hB22.ext hs3) rfl rfl) <| x (r_fieldB rfl) <| x (r_loadB (hB3.ext hs3) rfl rfl) <| xl rfl <| xf <| (wEqual_ok (hdi.ext hs13) (hd.dis.ext hs13)).mono ?_
  rintro r4 w4 ⟨hr4, hs4⟩
  rw [decide_eq_true rfl] at hr4
  subst hr4
  have hs34 := hs3.trans hs4
  refine x (r_pick rfl) <| x r_move <| x (r_fieldB rfl) <| x (r_loadB (hB22.ext hs34) rfl rfl) <| x (r_fieldB rfl) <| x (r_loadB (u := .bool c.c.mk') (hB3.ext hs34) rfl (congrArg (fun b => some (Value.bool b)) hmk)) <| x (r_eqT rfl rfl) <|
    x (r_pick rfl) <| x r_move <| x (r_fieldB rfl) <| x (r_loadB (hB22.ext hs34) rfl rfl) <| x (r_fieldB rfl) <| x (r_loadB (u := .bool c.c.ps) (hB3.ext hs34) rfl (congrArg (fun b => some (Value.bool b)) hps)) <|
    x (r_eqT rfl rfl) <| x (r_pick rfl) <| x r_assign <| xe ?_
  exact W_ret ⟨[.bool true], ⟨rfl, trivial⟩, rfl, hs13.trans hs4⟩
end Go.Proofs.YtfhgnlkdcdlblaaDoor

/- Contract: law30's control. -/
namespace Go.Lg
section
variable {P : Program} {f : Fr} {w : World} {d : Option Nat} {ty : Nat} {ps : String} {af : Array Edge} {gd : Option (Nat × Bool)}
theorem r_moveV {x : Operand} {v : Value} (h : ev f x = v) : (execOp (ev f) ⟨d, .move x, ty, ps, af, gd⟩).run P w = .ok (.value v) w := by rw [← h]; exact r_move
end
end Go.Lg
namespace Go.Proofs.YtfhgnlkdcdlblaaDoor
open Go.Lg

theorem filter_snoc {l : List Int} {e : Int} {p : Int → Bool} : (l ++ [e]).filter p = if p e = true then l.filter p ++ [e] else l.filter p := by
  rw [List.filter_append]
  by_cases h : p e = true
  · rw [if_pos h, List.filter_cons, if_pos h]; rfl
  · rw [if_neg h, List.filter_cons, if_neg h, List.filter_nil, List.append_nil]
/-- What the loops hold. -/
structure CcI (w4 : World) (b : Nat) (m q : Bool) (ve vd : Value) (E D : List Int) (w : World) : Prop where
  st : Step [b] w4 w
  B : Blk w.heap b 56 [ve, vd, .bool m, .bool q]
  e : IntsO 3 w4.heap.size w ve E
  d : IntsO 3 w4.heap.size w vd D
  dj : Dj ve vd
section
variable {w4 w w' w'' : World} {b : Nat} {m q : Bool} {ve vd : Value} {E D : List Int}
theorem CcI.ext (h : CcI w4 b m q ve vd E D w) (hs : Step [] w w') : CcI w4 b m q ve vd E D w' := ⟨h.st.trans hs, h.B.ext hs, own_ext h.e hs, own_ext h.d hs, h.dj⟩
theorem CcI.setE (h : CcI w4 b m q ve vd E D w) (hb : b < w4.heap.size) {ve' : Value} {E' : List Int} (hs : Step (ob ve) w w') (hm : IntsO 3 w4.heap.size w' ve' E') (hn : ∀ b ∈ ob ve', b ∈ ob ve ∨ w.heap.size ≤ b) (hs2 : Step [b] w' w'')
    (hB : Blk w''.heap b 56 [ve', vd, .bool m, .bool q]) : CcI w4 b m q ve' vd E' D w'' :=
  ⟨(h.st.then hs (fun c hc => .inr (own_ge h.e c hc).1)).trans' hs2, hB, own_step hm hs2 (fun c hc => by have := (own_ge hm c hc).1; simp; omega),
    own_step (own_step h.d hs h.dj.symm) hs2 (fun c hc => by have := (own_ge h.d c hc).1; simp; omega), (h.dj.symm.grow hn (own_lt h.d)).symm⟩
theorem CcI.setD (h : CcI w4 b m q ve vd E D w) (hb : b < w4.heap.size) {vd' : Value} {D' : List Int} (hs : Step (ob vd) w w') (hm : IntsO 3 w4.heap.size w' vd' D') (hn : ∀ b ∈ ob vd', b ∈ ob vd ∨ w.heap.size ≤ b) (hs2 : Step [b] w' w'')
    (hB : Blk w''.heap b 56 [ve, vd', .bool m, .bool q]) : CcI w4 b m q ve vd' E D' w'' :=
  ⟨(h.st.then hs (fun c hc => .inr (own_ge h.d c hc).1)).trans' hs2, hB, own_step (own_step h.e hs h.dj) hs2 (fun c hc => by have := (own_ge h.e c hc).1; simp; omega),
    own_step hm hs2 (fun c hc => by have := (own_ge hm c hc).1; simp; omega), h.dj.grow hn (own_lt h.e)⟩
theorem CcI.setB (h : CcI w4 b m q ve vd E D w) (hb : b < w4.heap.size) {m' q' : Bool} (hs : Step [b] w w') (hB : Blk w'.heap b 56 [ve, vd, .bool m', .bool q']) : CcI w4 b m' q' ve vd E D w' :=
  ⟨h.st.trans' hs, hB, own_step h.e hs (fun c hc => by have := (own_ge h.e c hc).1; simp; omega), own_step h.d hs (fun c hc => by have := (own_ge h.d c hc).1; simp; omega), h.dj⟩
end
def hitQ (p : Aut) (x e : Int) (q : List Int) : Bool := decide (py q = x) && decide (0 ≤ nxt p.ed (px q) e)
theorem canX_take (p : Aut) (x e : Int) {ps : List (List Int)} {k : Nat} (h : k < ps.length) : canX p (ps.take (k + 1)) x e = (canX p (ps.take k) x e || hitQ p x e ps[k]) := by
  unfold canX hitQ
  rw [List.take_succ_eq_append_getElem h, List.any_append]; simp

set_option maxHeartbeats 4000000 in
theorem control_ok {L : List Nat} {w : World} {pva pvm pve sa sm se vt : Value} {aP aS : Aut} {qs : List TV} (hp : AutA L w.heap pva pvm pve aP) (hs : AutA L w.heap sa sm se aS) (hal : aS.al.length ≤ 32)
    (ht : Tups L w.heap vt qs) (hq : ∀ q ∈ qs, Vt [aP, aS] q.2) (hqn : qs.length ≤ 4096) (x0 : Int) :
    Ret Tryd.prog 19 [.agg #[pva, .int .i64 aP.st, pvm, pve], .agg #[sa, .int .i64 aS.st, sm, se], vt, .int .i64 x0] w fun r w' => Step [] w w' ∧ ∃ cv occ, r = .tuple #[.agg (cvCells cv).toArray, .bool occ] ∧
      cv.c = ctlD aP aS (qs.map (·.2)) x0 ∧ (∀ L' : List Nat, (∀ b ∈ L', b < w.heap.size) → CvA L' w'.heap cv) ∧ occ = (qs.map (·.2)).any fun q => decide (py q = x0) := by
  refine Ret.of_W Tryd.func19 rfl Tryd.ntmps19 Tryd.results19 (by simp) ?_
  refine exE (qs.map (·.2)) fun prs hprs => ?_
  have hpl : prs.length = qs.length := by rw [← hprs]; simp
  rw [hprs]
  refine W_seq <| W_region (by rfl) ?_
  refine xl rfl <| o_box (us := [pva, .int .i64 aP.st, pvm, pve]) rfl fun b4 w1 hs1 hb4 hB4 => xl rfl <| o_box (us := [sa, .int .i64 aS.st, sm, se]) rfl fun b5 w2 hs2 hb5 hB5 =>
    xl rfl <| o_alloc (us := [.slice none 0 0, .slice none 0 0, .bool false, .bool false]) rfl fun b8 w3 hs3 hb8 hB8 => x r_assign <| xe ?_
  refine W_seq <| W_region (by rfl) ?_
  refine xl rfl <| o_alloc (us := [.slice none 0 0, .slice none 0 0, .bool false, .bool false]) rfl fun b10 w4 hs4 hb10 hB10 => xe ?_
  refine W_seq <| W_region (by rfl) ?_
  refine x r_assign <| xe ?_
  have hz1 := hs1.size
  have hz2 := hs2.size
  have hz3 := hs3.size
  have hz4 := hs4.size
  have hl4 := hB4.lt
  have hl5 := hB5.lt
  have hl8 := hB8.lt
  have hl10 := hB10.lt
  have hW4 := ((hs1.trans hs2).trans hs3).trans hs4
  have hB44 := ((hB4.ext hs2).ext hs3).ext hs4
  have hB54 := (hB5.ext hs3).ext hs4
  have hB84 := hB8.ext hs4
  have hnew : ∀ b ∈ [b10], b ∈ L ∨ w.heap.size ≤ b := fun b hb => .inr (by simp at hb; omega)
  have hp4 : AutA [b10] w4.heap pva pvm pve aP := (hp.up hnew).ext hW4
  have hs4' : AutA [b10] w4.heap sa sm se aS := (hs.up hnew).ext hW4
  have ht4 : Tups [b10] w4.heap vt qs := (ht.up hnew).ext hW4
  have n4 : b4 ∉ [b10] := by simp; omega
  have n5 : b5 ∉ [b10] := by simp; omega
  have n8 : b8 ∉ [b10] := by simp; omega
  have hqI : ∀ k (h : k < qs.length), ∃ xi yi : Nat, qs[k].2 = [(xi : Int), (yi : Int)] ∧ prs[k]'(by omega) = [(xi : Int), (yi : Int)] := fun k h => by
    obtain ⟨xi, yi, e, _, _⟩ := Vt2 (hq _ (List.getElem_mem h))
    exact ⟨xi, yi, e, by subst hprs; simp only [List.getElem_map]; exact e⟩
  -- enabled and disabled events
  refine W_cut (α := Value × Value) [(12, 15), (17, 78)] (fun z => []) (fun z w' => CcI w4 b10 false false z.1 z.2 (aS.al.filter fun e => canX aP prs x0 e && decide (0 ≤ nxt aS.ed x0 e)) (aS.al.filter fun e => canX aP prs x0 e && !decide (0 ≤ nxt aS.ed x0 e)) w') (by rfl) ?_ ?_
  · refine W_seq <| W_region (by rfl) ?_
    refine x r_assign <| xe ?_
    refine W_block <| W_loop (α := Nat × Value × Value) [(12, 15), (17, 78)] (fun z => [(12, .int .i64 z.1)])
      (fun z w' => z.1 ≤ aS.al.length ∧ CcI w4 b10 false false z.2.1 z.2.2 ((aS.al.take z.1).filter fun e => canX aP prs x0 e && decide (0 ≤ nxt aS.ed x0 e)) ((aS.al.take z.1).filter fun e => canX aP prs x0 e && !decide (0 ≤ nxt aS.ed x0 e)) w')
      (fun z => aS.al.length - z.1) (by rfl) (0, .slice none 0 0, .slice none 0 0) ⟨rfl, trivial⟩ ⟨Nat.zero_le _, ⟨Step.refl _ _, hB10, own_nil _ _ _ _, own_nil _ _ _ _, Dj.nil' _⟩⟩ ?_
    rintro ⟨i, ve, vd⟩ g5 w5 ⟨hi, hI⟩
    simp only [] at hi hI
    have hB55 := hB54.step hI.st n5
    have ha5 := hs4'.st hI.st
    refine W_seq <| W_seq <| W_region (by rfl) ?_
    refine x r_move <| x (r_fieldB rfl) <| x (r_loadB hB55 rfl rfl) <| x (r_lenA ha5.al rfl) <| x (r_lss rfl rfl) <| xe ?_
    refine W_ifn rfl (fun h21 => ?_) (fun h21 => ?_)
    · refine W_exit ?_
      rw [List.take_of_length_le (by omega)] at hI
      exact ⟨(ve, vd), trivial, hI⟩
    have hlt : i < aS.al.length := by omega
    refine exE (cget aS.al i) fun e he => ?_
    have htk : aS.al.take (i + 1) = aS.al.take i ++ [e] := by rw [List.take_succ_eq_append_getElem hlt, cget_eq hlt, he]
    have hlE : ((aS.al.take i).filter fun e => canX aP prs x0 e && decide (0 ≤ nxt aS.ed x0 e)).length ≤ 32 := Nat.le_trans (List.length_filter_le _ _) (by simp; omega)
    have hlD : ((aS.al.take i).filter fun e => canX aP prs x0 e && !decide (0 ≤ nxt aS.ed x0 e)).length ≤ 32 := Nat.le_trans (List.length_filter_le _ _) (by simp; omega)
    refine W_skip ?_
    refine W_seq <| W_block <| W_seq <| W_region (by rfl) ?_
    refine x (r_fieldB rfl) <| x (r_loadB hB55 rfl rfl) <| x r_move <| xic (i := i) ha5.al rfl rfl hlt fun a27 h27 => ?_
    rw [he] at h27
    refine x (r_loadA h27 rfl) <| x r_assign <| xe ?_
    refine W_seq <| W_region (by rfl) ?_
    refine x r_assign <| xe ?_
    -- can
    refine W_cut (α := Unit) [(14, 15), (29, 57)] (fun z => [(14, .bool (canX aP prs x0 e))]) (fun z w' => Step [] w5 w') (by rfl) ?_ ?_
    · refine W_seq <| W_region (by rfl) ?_
      refine x r_assign <| xe ?_
      refine W_block <| W_loop (α := Nat) [(14, 15), (29, 57)] (fun z => [(14, .bool (canX aP (prs.take z) x0 e)), (15, .int .i64 z)]) (fun z w' => z ≤ qs.length ∧ Step [] w5 w') (fun z => qs.length - z) (by rfl) 0 ⟨rfl, rfl, trivial⟩ ⟨Nat.zero_le _, Step.refl _ _⟩ ?_
      rintro k g13 w13 ⟨hk, hs13⟩
      have ht13 := (ht4.st hI.st).ext hs13
      refine W_seq <| W_seq <| W_region (by rfl) ?_
      refine x r_move <| x r_move <| x (r_lenA ht13.arr rfl) <| x (r_lss rfl rfl) <| xe ?_
      refine W_ifn rfl (fun h32 => ?_) (fun h32 => ?_)
      · refine W_exit ?_
        exact ⟨(), ⟨congrArg (fun l => Value.bool (canX aP l x0 e)) (List.take_of_length_le (by omega)), trivial⟩, hs13⟩
      have hltk : k < qs.length := by omega
      have hltp : k < prs.length := by omega
      obtain ⟨xi, yi, hqe, hpe⟩ := hqI k hltk
      have hct := canX_take aP x0 e hltp
      rw [hpe] at hct
      have hqI13 : Ints [b10] w13.heap (qs[k]'hltk).1 [(xi : Int), (yi : Int)] := by rw [← hqe]; exact ht13.each _ (List.getElem_mem hltk)
      have hB413 := (hB44.step hI.st n4).ext hs13
      have hed13 := (hp4.st hI.st).ed.ext hs13
      refine exE (nxt aP.ed xi e) fun t htn => ?_
      have hhit : hitQ aP x0 e [(xi : Int), (yi : Int)] = (decide ((yi : Int) = x0) && decide (0 ≤ t)) := by rw [← htn]; rfl
      rw [hhit] at hct
      have hnx := next30_ok (va := pva) (vm := pvm) (a := aP) (hed13.ext (Step.drew [] w13)) xi e aP.st
      rw [htn] at hnx
      refine exE (canX aP (prs.take k) x0 e) fun cn hcn => ?_
      rw [hcn] at hct
      refine W_skip ?_
      refine W_cut (α := Unit) [(14, 14), (34, 57)] (fun z => [(14, .bool (canX aP (prs.take (k + 1)) x0 e))]) (fun z w' => Step [] w5 w') (by rfl) ?_ ?_
      · refine W_block ?_
        refine Or.elim (Bool.eq_false_or_eq_true cn) (fun hc => ?_) (fun hc => ?_)
        · rw [hc] at hct hcn
          refine W_draw (Step [] w13) [(0, true), (1, true), (2, true), (3, true), (4, true), (5, true), (6, true), (7, true), (8, true), (9, true), (10, true), (11, true), (12, true), (13, true), (14, true), (15, true), (16, true), (17, true), (18, true), (19, false), (20, true), (21, true), (22, true), (23, true)] Tryd.mixed (by rfl) (by kernel_rfl) (Step.drew _ _) ?_
          refine p (fun _ => r_moveV (congrArg Value.bool hcn)) <| p (fun _ => r_move) <| ps <| ps <| ps <| ps <| ps <| ps <| ps <| ps <| ps <| ps <| ps <| ps <| ps <| ps <| ps <| ps <| ps <| ps <| ps <| ps <| p (fun _ => r_pick rfl) <| p (fun _ => r_assign) <| pe ?_
          exact ⟨(), ⟨congrArg Value.bool (by rw [hct]; rfl), trivial⟩, hs13.trans (Step.drew _ _)⟩
        · rw [hc] at hct hcn
          refine W_draw (Step [] w13) [(0, true), (1, true), (2, true), (3, true), (4, true), (5, true), (6, true), (7, true), (8, true), (9, true), (10, true), (11, true), (12, true), (13, true), (14, true), (15, true), (16, true), (17, true), (18, true), (19, false), (20, true), (21, true), (22, true), (23, true)] Tryd.mixed (by rfl) (by kernel_rfl) (Step.drew _ _) ?_
          refine p (fun _ => r_moveV (congrArg Value.bool hcn)) <| p (fun _ => r_move) <| p (fun _ => r_move) <| p (fun _ => r_move) <| Lg.pig (g := tvCells) (i := k) rfl (fun _ => rfl) ht13.arr rfl rfl hltk fun a39 h39 =>
            pq (fun _ hc => r_loadA (h39.ext hc) rfl) <| pii (i := 1) rfl hqI13 rfl rfl (by simp) fun a41 h41 => pq (fun _ hc => r_loadA (h41.ext hc) rfl) <|
            p (fun _ => r_move) <| pb (fun _ => r_eql rfl rfl) (fun h44 => ?_) (fun h44 => ?_)
          · refine p (fun _ => r_move) <| pq (fun _ hc => r_loadsB (hB413.ext hc) rfl rfl) <| p (fun _ => r_move) <| p (fun _ => r_move) <| Lg.pig (g := tvCells) (i := k) rfl (fun _ => rfl) ht13.arr rfl rfl hltk fun a49 h49 =>
              pq (fun _ hc => r_loadA (h49.ext hc) rfl) <| pii (i := 0) rfl hqI13 rfl rfl (by simp) fun a51 h51 => pq (fun _ hc => r_loadA (h51.ext hc) rfl) <| p (fun _ => r_move) <|
              pk <| xf <| hnx.mono ?_
            rintro r22 w22 ⟨rfl, hs22⟩
            have hs1322 := (Step.drew [] w13).trans hs22
            refine ⟨hs1322, p (fun _ => r_geq rfl rfl) <| p (fun _ => r_pick rfl) <| p (fun _ => r_pick rfl) <| p (fun _ => r_assign) <| pe ?_⟩
            exact ⟨(), ⟨congrArg Value.bool (by rw [hct, decide_eq_true (show (yi : Int) = x0 from h44)]; rfl), trivial⟩, hs13.trans hs1322⟩
          refine p (fun _ => r_move) <| ps <| ps <| ps <| ps <| ps <| ps <| ps <| ps <| ps <| ps <| p (fun _ => r_pick rfl) <| p (fun _ => r_pick rfl) <| p (fun _ => r_assign) <| pe ?_
          exact ⟨(), ⟨congrArg Value.bool (by rw [hct, decide_eq_false (show ¬ (yi : Int) = x0 from h44)]; rfl), trivial⟩, hs13.trans (Step.drew _ _)⟩
      rintro _ g14 w14 hs14
      refine W_region (by rfl) ?_
      refine x r_move <| x (r_add rfl rfl ⟨by omega, by omega⟩) <| x r_assign <| xe ?_
      exact ⟨k + 1, by omega, ⟨rfl, rfl, trivial⟩, hltk, hs14⟩
    rintro _ g15 w15 hs15
    have hI15 := hI.ext hs15
    have hB515 := hB55.ext hs15
    refine exE (canX aP prs x0 e) fun cn hcn => ?_
    refine exE (nxt aS.ed x0 e) fun t htn => ?_
    have hnx := next30_ok (va := sa) (vm := sm) (a := aS) (ha5.ed.ext hs15) x0 e aS.st
    rw [htn] at hnx
    have hfE : (aS.al.take (i + 1)).filter (fun e => canX aP prs x0 e && decide (0 ≤ nxt aS.ed x0 e)) = if (cn && decide (0 ≤ t)) = true then ((aS.al.take i).filter fun e => canX aP prs x0 e && decide (0 ≤ nxt aS.ed x0 e)) ++ [e] else (aS.al.take i).filter fun e => canX aP prs x0 e && decide (0 ≤ nxt aS.ed x0 e) := by
      rw [htk, filter_snoc, hcn, htn]
    have hfD : (aS.al.take (i + 1)).filter (fun e => canX aP prs x0 e && !decide (0 ≤ nxt aS.ed x0 e)) = if (cn && !decide (0 ≤ t)) = true then ((aS.al.take i).filter fun e => canX aP prs x0 e && !decide (0 ≤ nxt aS.ed x0 e)) ++ [e] else (aS.al.take i).filter fun e => canX aP prs x0 e && !decide (0 ≤ nxt aS.ed x0 e) := by
      rw [htk, filter_snoc, hcn, htn]
    refine W_cut (α := Unit) [(58, 65)] (fun z => [(65, .bool (cn && decide (0 ≤ t)))]) (fun z w' => Step [] w15 w') (by rfl) ?_ ?_
    · refine Or.elim (Bool.eq_false_or_eq_true cn) (fun hc => ?_) (fun hc => ?_)
      · refine W_region (by rfl) ?_
        refine x (r_moveV (congrArg Value.bool (hcn.trans hc))) <| x r_move <| x (r_loadsB hB515 rfl rfl) <| x r_move <| x r_move <| xl rfl <| xf <| hnx.mono ?_
        rintro r14 w16 ⟨rfl, hs16⟩
        refine x (r_geq rfl rfl) <| x (r_pick rfl) <| xe ?_
        exact ⟨(), ⟨congrArg Value.bool (by rw [hc]; rfl), trivial⟩, hs16⟩
      · refine W_region (by rfl) ?_
        refine x (r_moveV (congrArg Value.bool (hcn.trans hc))) <| x r_move <| xs rfl <| xs rfl <| xs rfl <| xs rfl <| xs rfl <| x (r_pick rfl) <| xe ?_
        exact ⟨(), ⟨congrArg Value.bool (by rw [hc]; rfl), trivial⟩, Step.refl _ _⟩
    rintro _ g16 w16 hs16
    have hI16 := hI15.ext hs16
    refine W_cond rfl (fun h65 => ?_) (fun h65 => ?_)
    · have h65' : (cn && decide (0 ≤ t)) = true := h65
      rw [if_pos h65'] at hfE
      rw [if_neg (by cases cn <;> simp at h65' ⊢; omega)] at hfD
      refine W_region (by rfl) ?_
      refine x (r_fieldB rfl) <| x (r_loadB hI16.B rfl rfl) <| x r_move <| xl rfl <| o_lits (us := [[.int .i64 e]]) rfl rfl (by decide) (by simp) ⟨rfl, rfl, trivial⟩ fun b69 w17 hs17 hb69 hB69 => ?_
      have hI17 := hI16.ext hs17
      refine xl rfl <| o_app (news := [.int .i64 e]) (L := []) hI17.e rfl rfl rfl (hB69.at (by simp)) (by simp [Value.oneCell']) (by omega) hI17.st.size fun v18 w18 ho18 hs18 hn18 => ?_
      have ho18' := IntsO.snoc ho18
      refine x (r_fieldB rfl) <| xl rfl <| o_store (hI17.B.step hs18 (own_notin hI17.e hl10)) rfl rfl (by simp) (IntsO.ints (L := []) ho18' (by simp; omega) (by simp)).one fun w19 hs19 hB19 =>
        xe ?_
      refine W_region (by rfl) ?_
      refine x r_move <| x (r_add rfl rfl ⟨by omega, by omega⟩) <| x r_assign <| xe ?_
      refine ⟨(i + 1, v18, vd), by simp only []; omega, ⟨rfl, trivial⟩, hlt, ?_⟩
      simp only []
      rw [hfE, hfD]; exact hI17.setE hl10 hs18 ho18' hn18 hs19 hB19
    have h65' : (cn && decide (0 ≤ t)) = false := h65
    rw [if_neg (by rw [h65']; simp)] at hfE
    refine W_seq <| W_region (by rfl) ?_
    refine x (r_moveV (congrArg Value.bool hcn)) <| xe ?_
    refine W_cond rfl (fun h72 => ?_) (fun h72 => ?_)
    rotate_left
    · rw [if_neg (by rw [h72]; simp)] at hfD
      refine W_skip ?_
      refine W_region (by rfl) ?_
      refine x r_move <| x (r_add rfl rfl ⟨by omega, by omega⟩) <| x r_assign <| xe ?_
      refine ⟨(i + 1, ve, vd), by simp only []; omega, ⟨rfl, trivial⟩, hlt, ?_⟩
      simp only []
      rw [hfE, hfD]; exact hI16
    rw [if_pos (by rw [h72] at h65' ⊢; simpa using h65')] at hfD
    refine W_region (by rfl) ?_
    refine x (r_fieldB rfl) <| x (r_loadB hI16.B rfl rfl) <| x r_move <| xl rfl <| o_lits (us := [[.int .i64 e]]) rfl rfl (by decide) (by simp) ⟨rfl, rfl, trivial⟩ fun b69 w17 hs17 hb69 hB69 => ?_
    have hI17 := hI16.ext hs17
    refine xl rfl <| o_app (news := [.int .i64 e]) (L := []) hI17.d rfl rfl rfl (hB69.at (by simp)) (by simp [Value.oneCell']) (by omega) hI17.st.size fun v18 w18 ho18 hs18 hn18 => ?_
    have ho18' := IntsO.snoc ho18
    refine x (r_fieldB rfl) <| xl rfl <| o_store (hI17.B.step hs18 (own_notin hI17.d hl10)) rfl rfl (by simp) (IntsO.ints (L := []) ho18' (by simp; omega) (by simp)).one fun w19 hs19 hB19 =>
      xe ?_
    refine W_region (by rfl) ?_
    refine x r_move <| x (r_add rfl rfl ⟨by omega, by omega⟩) <| x r_assign <| xe ?_
    refine ⟨(i + 1, ve, v18), by simp only []; omega, ⟨rfl, trivial⟩, hlt, ?_⟩
    simp only []
    rw [hfE, hfD]; exact hI17.setD hl10 hs18 ho18' hn18 hs19 hB19
  rintro ⟨ve, vd⟩ g5 w5 hI5
  simp only [] at hI5
  refine exE (aS.al.filter fun e => canX aP prs x0 e && decide (0 ≤ nxt aS.ed x0 e)) fun E hE => ?_
  refine exE (aS.al.filter fun e => canX aP prs x0 e && !decide (0 ≤ nxt aS.ed x0 e)) fun D hD => ?_
  have hlE : E.length ≤ 32 := by rw [← hE]; exact Nat.le_trans (List.length_filter_le _ _) hal
  have hlD : D.length ≤ 32 := by rw [← hD]; exact Nat.le_trans (List.length_filter_le _ _) hal
  rw [hE, hD] at hI5
  refine W_seq <| W_seq <| W_region (by rfl) ?_
  refine x r_assign <| xe ?_
  refine W_block <| W_loop (α := Nat) [(11, 11), (16, 16), (79, 106)] (fun z => [(11, .bool ((prs.take z).any fun q => decide (py q = x0))), (16, .int .i64 z)])
    (fun z w' => z ≤ qs.length ∧ CcI w4 b10 false ((prs.take z).any fun q => decide (py q = x0) && decide (px q ∈ aP.mr)) ve vd E D w') (fun z => qs.length - z) (by rfl) 0 ⟨rfl, rfl, trivial⟩ ⟨Nat.zero_le _, hI5⟩ ?_
  rintro k g6 w6 ⟨hk, hI⟩
  have ht6 := ht4.st hI.st
  have hB46 := hB44.step hI.st n4
  have hB56 := hB54.step hI.st n5
  have hB86 := hB84.step hI.st n8
  refine W_seq <| W_seq <| W_region (by rfl) ?_
  refine x r_move <| x r_move <| x (r_lenA ht6.arr rfl) <| x (r_lss rfl rfl) <| xe ?_
  refine W_ifn rfl (fun h82 => ?_) (fun h82 => ?_)
  · have htk : prs.take k = prs := List.take_of_length_le (by omega)
    rw [htk] at hI
    refine exE (prs.any fun q => decide (py q = x0)) fun oc hoc => ?_
    refine exE (prs.any fun q => decide (py q = x0) && decide (px q ∈ aP.mr)) fun pz hpz => ?_
    rw [hpz] at hI
    have hoc' : ((prs.take k).any fun q => decide (py q = x0)) = oc := by rw [htk]; exact hoc
    have hmr := (hs4'.st hI.st).mr
    have hveA := IntsO.ints (L := []) hI.e (by omega) (by simp)
    have hvdA := IntsO.ints (L := []) hI.d (by omega) (by simp)
    refine W_exit ?_
    refine W_cut (α := Unit) [(107, 114)] (fun z => []) (fun z w' => CcI w4 b10 (oc && decide (x0 ∈ aS.mr)) pz ve vd E D w') (by rfl) ?_ ?_
    · refine Or.elim (Bool.eq_false_or_eq_true oc) (fun hc => ?_) (fun hc => ?_)
      · refine W_region (by rfl) ?_
        refine x (r_moveV (congrArg Value.bool (hoc'.trans hc))) <| x r_move <| x (r_fieldB rfl) <| x (r_loadB hB56 rfl rfl) <| x r_move <| xl rfl <| xf <| (has30_ok hmr x0).mono ?_
        rintro r7 w7 ⟨rfl, rfl⟩
        refine x (r_pick rfl) <| x (r_fieldB rfl) <| xl rfl <| o_store (u := .bool (decide (x0 ∈ aS.mr))) hI.B rfl rfl (by simp) rfl fun w8 hs8 hB8' => xe ?_
        exact ⟨(), trivial, by rw [hc]; exact hI.setB hl10 hs8 hB8'⟩
      · refine W_region (by rfl) ?_
        refine x (r_moveV (congrArg Value.bool (hoc'.trans hc))) <| x r_move <| xs rfl <| xs rfl <| xs rfl <| xs rfl <| x (r_pick rfl) <| x (r_fieldB rfl) <| xl rfl <| o_store (u := .bool false) hI.B rfl rfl (by simp) rfl fun w8 hs8 hB8' => xe ?_
        exact ⟨(), trivial, by rw [hc]; exact hI.setB hl10 hs8 hB8'⟩
    rintro _ g9 w9 hI9
    refine W_seq <| W_region (by rfl) ?_
    refine x (r_loadsB hI9.B rfl rfl) <| x r_move <| xl rfl <| o_stores (us := [ve, vd, .bool (oc && decide (x0 ∈ aS.mr)), .bool pz]) (hB84.step hI9.st n8) rfl rfl rfl rfl ⟨hveA.one, hvdA.one, rfl, rfl, trivial⟩ fun w10 hs10 hB10' => x r_assign <| xe ?_
    refine W_ret ⟨[.agg #[ve, vd, .bool (oc && decide (x0 ∈ aS.mr)), .bool pz], .bool oc], ⟨⟨_, rfl, run_loadVar_ag rfl (hB10'.at (L := []) (by simp)).cells⟩, congrArg Value.bool hoc', trivial⟩, (hW4.then1 hI9.st (by omega)).then1 hs10 (by omega),
      ⟨ve, vd, ⟨E, D, oc && decide (x0 ∈ aS.mr), pz⟩⟩, oc, rfl, by unfold ctlD; rw [hE, hD, hoc, hpz], fun L' hL' => ⟨?_, ?_⟩, hoc.symm⟩
    · exact IntsO.ints (own_step hI9.e hs10 (fun c hc => by have := (own_ge hI9.e c hc).1; simp; omega)) (by show E.length ≤ _; omega) (fun b hb => by have := hL' b hb; omega)
    · exact IntsO.ints (own_step hI9.d hs10 (fun c hc => by have := (own_ge hI9.d c hc).1; simp; omega)) (by show D.length ≤ _; omega) (fun b hb => by have := hL' b hb; omega)
  have hltk : k < qs.length := by omega
  have hltp : k < prs.length := by omega
  obtain ⟨xi, yi, hqe, hpe⟩ := hqI k hltk
  have hqI6 : Ints [b10] w6.heap (qs[k]'hltk).1 [(xi : Int), (yi : Int)] := by rw [← hqe]; exact ht6.each _ (List.getElem_mem hltk)
  have hto : ((prs.take (k + 1)).any fun q => decide (py q = x0)) = (((prs.take k).any fun q => decide (py q = x0)) || decide ((yi : Int) = x0)) := by
    rw [List.take_succ_eq_append_getElem hltp, List.any_append, hpe]; simp [py]
  have htp : ((prs.take (k + 1)).any fun q => decide (py q = x0) && decide (px q ∈ aP.mr)) = (((prs.take k).any fun q => decide (py q = x0) && decide (px q ∈ aP.mr)) || (decide ((yi : Int) = x0) && decide ((xi : Int) ∈ aP.mr))) := by
    rw [List.take_succ_eq_append_getElem hltp, List.any_append, hpe]; simp [py, px]
  refine exE ((prs.take k).any fun q => decide (py q = x0) && decide (px q ∈ aP.mr)) fun pz hpz => ?_
  rw [hpz] at hI htp
  refine W_skip ?_
  refine W_seq <| W_block <| W_seq <| W_region (by rfl) ?_
  refine x r_move <| x r_move <| xig (g := tvCells) (i := k) (fun _ => rfl) ht6.arr rfl rfl hltk fun a87 h87 => x (r_loadA h87 rfl) <| xii (i := 1) hqI6 rfl rfl (by simp) fun a89 h89 =>
    x (r_loadA h89 rfl) <| x r_move <| x (r_eql rfl rfl) <| xe ?_
  refine W_ifn rfl (fun h92 => ?_) (fun h92 => ?_)
  · have h92' : ¬ (yi : Int) = x0 := h92
    rw [decide_eq_false h92'] at hto htp
    refine W_skip ?_
    refine W_region (by rfl) ?_
    refine x r_move <| x (r_add rfl rfl ⟨by omega, by omega⟩) <| x r_assign <| xe ?_
    refine ⟨k + 1, by omega, ⟨congrArg Value.bool (by rw [hto]; simp), rfl, trivial⟩, hltk, ?_⟩
    rw [htp]; simpa using hI
  have h92' : (yi : Int) = x0 := h92
  rw [decide_eq_true h92'] at hto htp
  refine W_seq <| W_region (by rfl) ?_
  refine x r_assign <| xe ?_
  refine Or.elim (Bool.eq_false_or_eq_true pz) (fun hc => ?_) (fun hc => ?_)
  · refine W_draw (Step [] w6) [(0, true), (1, true), (2, true), (3, true), (4, true), (5, true), (6, true), (7, true), (8, true), (9, true), (10, true), (11, false), (12, true), (13, true), (14, false)] Tryd.mixed (by rfl) (by kernel_rfl) (Step.drew _ _) ?_
    refine p (fun _ => r_fieldB rfl) <| pq (fun _ h => r_loadB (u := .bool true) (hI.B.ext h) rfl (congrArg (fun b => some (Value.bool b)) hc)) <| p (fun _ => r_move) <| ps <| ps <| ps <| ps <| ps <| ps <| ps <| ps <| ps <| p (fun _ => r_pick rfl) <| p (fun _ => r_fieldB rfl) <|
      pkl (hl := by kernel_rfl) <| o_store (u := .bool true) (hI.B.ext (Step.drew _ _)) rfl rfl (by simp) rfl fun w12 hs12 hB12 => pe ?_
    have hI12 : CcI w4 b10 false (pz || decide ((xi : Int) ∈ aP.mr)) ve vd E D w12 := by rw [hc]; exact (hI.ext (Step.drew _ _)).setB hl10 hs12 hB12
    refine W_region (by rfl) ?_
    refine x r_move <| x (r_add rfl rfl ⟨by omega, by omega⟩) <| x r_assign <| xe ?_
    refine ⟨k + 1, by omega, ⟨congrArg Value.bool (by rw [hto]; simp), rfl, trivial⟩, hltk, ?_⟩
    rw [htp]; simpa using hI12
  · have hmr := (hp4.st hI.st).mr
    refine W_draw (Step [] w6) [(0, true), (1, true), (2, true), (3, true), (4, true), (5, true), (6, true), (7, true), (8, true), (9, true), (10, true), (11, false), (12, true), (13, true), (14, false)] Tryd.mixed (by rfl) (by kernel_rfl) (Step.drew _ _) ?_
    refine p (fun _ => r_fieldB rfl) <| pq (fun _ h => r_loadB (u := .bool false) (hI.B.ext h) rfl (congrArg (fun b => some (Value.bool b)) hc)) <| p (fun _ => r_move) <| p (fun _ => r_fieldB rfl) <|
      pq (fun _ h => r_loadB (hB46.ext h) rfl rfl) <| p (fun _ => r_move) <| p (fun _ => r_move) <| Lg.pig (g := tvCells) (i := k) rfl (fun _ => rfl) ht6.arr rfl rfl hltk fun a100 h100 =>
      pq (fun _ h => r_loadA (h100.ext h) rfl) <| pii (i := 0) rfl hqI6 rfl rfl (by simp) fun a102 h102 => pq (fun _ h => r_loadA (h102.ext h) rfl) <|
      pk <| xf <| (has30_ok (hmr.ext (Step.drew [] w6)) (xi : Int)).mono ?_
    rintro r11 w11 ⟨rfl, rfl⟩
    refine ⟨Step.drew _ _, p (fun _ => r_pick rfl) <| p (fun _ => r_fieldB rfl) <|
      pkl (hl := by kernel_rfl) <| o_store (u := .bool (decide ((xi : Int) ∈ aP.mr))) (hI.B.ext (Step.drew _ _)) rfl rfl (by simp) rfl fun w12 hs12 hB12 => pe ?_⟩
    have hI12 : CcI w4 b10 false (pz || decide ((xi : Int) ∈ aP.mr)) ve vd E D w12 := by rw [hc]; exact (hI.ext (Step.drew _ _)).setB hl10 hs12 hB12
    refine W_region (by rfl) ?_
    refine x r_move <| x (r_add rfl rfl ⟨by omega, by omega⟩) <| x r_assign <| xe ?_
    refine ⟨k + 1, by omega, ⟨congrArg Value.bool (by rw [hto]; simp), rfl, trivial⟩, hltk, ?_⟩
    rw [htp]; simpa using hI12
end Go.Proofs.YtfhgnlkdcdlblaaDoor

/- The product of a plant and a supervisor of at most 5 states is found. -/
namespace Go.Proofs.YtfhgnlkdcdlblaaDoor
open Go.Lg

def encT (t : List Int) : Int := px t * 5 + py t
theorem tup_small {aP aS : Aut} (h : Pb aP aS) {s : Sy} (hs : SyOk [aP, aS] s) (hd : s.tup.Nodup) : s.tup.length ≤ 25 := by
  have h1 : (s.tup.map encT).Nodup := by
    unfold List.Nodup
    rw [List.pairwise_map]
    refine List.Pairwise.imp_of_mem (fun {a b} ha hb hne => ?_) hd
    obtain ⟨x1, y1, rfl, p1, q1⟩ := Vt2 (hs.v a ha)
    obtain ⟨x2, y2, rfl, p2, q2⟩ := Vt2 (hs.v b hb)
    intro e
    have e' : (x1 : Int) * 5 + y1 = x2 * 5 + y2 := e
    have := h.p5
    have := h.s5
    have ex : x1 = x2 := by omega
    have ey : y1 = y2 := by omega
    exact hne (by rw [ex, ey])
  have h2 := pig 25 (s.tup.map encT) h1 (fun z hz => by
    obtain ⟨t, ht, rfl⟩ := List.mem_map.1 hz
    obtain ⟨x1, y1, rfl, p1, q1⟩ := Vt2 (hs.v t ht)
    have := h.p5
    have := h.s5
    show 0 ≤ (x1 : Int) * 5 + y1 ∧ (x1 : Int) * 5 + y1 < 25
    omega)
  simpa using h2
theorem syE_some {aP aS : Aut} (h : Pb aP aS) {s : Sy} (hs : SyOk [aP, aS] s) (hd : s.tup.Nodup) (i : Nat) (t : List Int) (v : Int) : ∃ s', syE [aP, aS] i t s v = some s' ∧ s'.tup.Nodup := by
  have hl := tup_small h hs hd
  unfold syE
  cases stepT v [aP, aS] t with
  | none => exact ⟨s, rfl, hd⟩
  | some u =>
    simp only []
    by_cases hu : u ∈ s.tup
    · rw [if_pos hu]; exact ⟨_, rfl, hd⟩
    · rw [if_neg hu, if_neg (by omega)]
      refine ⟨_, rfl, ?_⟩
      simp only []
      rw [List.nodup_append]
      exact ⟨hd, by simp, fun a ha b hb => by simp only [List.mem_singleton] at hb; subst hb; exact fun e => hu (by rw [← e]; exact ha)⟩
theorem syEs_some {aP aS : Aut} (h : Pb aP aS) (ho : ∀ a ∈ [aP, aS], Okay a) {i : Nat} {t : List Int} (ht : Vt [aP, aS] t) : ∀ (vs : List Int) (s : Sy), SyOk [aP, aS] s → s.tup.Nodup → ∃ s', syEs [aP, aS] i t vs s = some s' ∧ s'.tup.Nodup
  | [], s, _, hd => ⟨s, rfl, hd⟩
  | v :: vs, s, hs, hd => by
    obtain ⟨s1, h1, h2⟩ := syE_some h hs hd i t v
    obtain ⟨s2, h3, h4⟩ := syEs_some h ho ht vs s1 (syE_ok ho hs ht h1) h2
    exact ⟨s2, by rw [syEs, h1]; exact h3, h4⟩
theorem syL_some {aP aS : Aut} (h : Pb aP aS) (ho : ∀ a ∈ [aP, aS], Okay a) : ∀ (f i : Nat) (s : Sy), SyOk [aP, aS] s → s.tup.Nodup → ∃ s', syL [aP, aS] f i s = some s'
  | 0, _, s, _, _ => ⟨s, rfl⟩
  | f + 1, i, s, hs, hd => by
    rw [syL]
    split
    · rename_i hi
      have hv : Vt [aP, aS] (syT s i) := hs.v _ (by unfold syT; simp [List.getD, hi])
      have hm : (syMark [aP, aS] i (syT s i) s).tup = s.tup := by unfold syMark; split <;> rfl
      obtain ⟨s1, h1, h2⟩ := syEs_some h ho hv (evs [aP, aS]) (syMark [aP, aS] i (syT s i) s) (syMark_ok hs) (by rw [hm]; exact hd)
      obtain ⟨s2, h3⟩ := syL_some h ho f (i + 1) s1 (syEs_ok ho hv _ _ _ (syMark_ok hs) h1) h2
      exact ⟨s2, by rw [h1]; exact h3⟩
    · exact ⟨s, rfl⟩
theorem Pb.okay {aP aS : Aut} (h : Pb aP aS) : ∀ a ∈ [aP, aS], Okay a := fun a ha => by
  simp only [List.mem_cons, List.not_mem_nil, or_false] at ha
  rcases ha with rfl | rfl
  · exact h.p
  · exact h.s
theorem Pb.opE0 {aP aS : Aut} (h : Pb aP aS) : opE aP aS = 0 := by
  have hc : opC aP aS = 0 := by
    unfold opC
    rw [if_neg (by simp [(ckA_zero aP).2 h.p]), if_neg (by simp [(ckA_zero aS).2 h.s]), if_pos]
    refine List.eq_nil_iff_forall_not_mem.2 fun x hx => ?_
    have := (mem_mrg h.s.ali h.p.ali x).1 hx
    simp only [Bool.and_eq_true, decide_eq_true_eq, Bool.not_eq_true', decide_eq_false_iff_not] at this
    exact this.2.2 (h.sub x this.2.1)
  unfold opE
  rw [if_neg (by simp [hc])]
  have hsome : ∃ z, sync [aP, aS] = some z := by
    unfold sync
    split
    · exact ⟨_, rfl⟩
    · rename_i hz
      obtain ⟨s, hs⟩ := syL_some h h.okay 4096 0 (sy0 [aP, aS]) (sy0_ok h.okay hz) (by simp [sy0])
      rw [hs]; exact ⟨_, rfl⟩
  obtain ⟨z, hz⟩ := hsome
  rw [hz]
theorem Pb.st100 {aP aS : Aut} (h : Pb aP aS) : Okay aP → Okay aS → aP.st ≤ 100 ∧ aS.st ≤ 100 := fun _ _ => ⟨by have := h.p5; omega, by have := h.s5; omega⟩
/-- A Control of the definition is consistent with itself. -/
theorem ctlD_self (p s : Aut) (pairs : List (List Int)) (x : Int) (hi : Inc s.al) : consC (ctlD p s pairs x) (ctlD p s pairs x) = true := by
  have i1 : Inc (ctlD p s pairs x).en := List.Pairwise.sublist List.filter_sublist hi
  have i2 : Inc (ctlD p s pairs x).dis := List.Pairwise.sublist List.filter_sublist hi
  rw [consC_law i1 i2 i1 i2]
  unfold lawC
  have h1 : (ctlD p s pairs x).en.all (fun y => !decide (y ∈ (ctlD p s pairs x).dis)) = true := by
    rw [List.all_eq_true]
    intro y hy
    simp only [Bool.not_eq_true', decide_eq_false_iff_not]
    intro hd
    simp only [ctlD, List.mem_filter, Bool.and_eq_true, decide_eq_true_eq, Bool.not_eq_true', decide_eq_false_iff_not] at hy hd
    exact hd.2.2 hy.2.2
  rw [h1]
  simp
end Go.Proofs.YtfhgnlkdcdlblaaDoor

/- The function SupervisorMaps returns true. -/
namespace Go.Lg
section
variable {P : Program} {f : Fr} {w : World} {d : Option Nat} {ty : Nat} {ps : String} {af : Array Edge} {gd : Option (Nat × Bool)}
theorem r_neqF {t t' : Nat} {x y : Operand} {k : IntKind} {a b : Int} (hx : ev f x = .int k a) (hy : ev f y = .int k b) (h : a = b) :
    (execOp (ev f) ⟨d, .binOp .neq t x y t', ty, ps, af, gd⟩).run P w = .ok (.value (.bool false)) w := by
  rw [r_neq hx hy, decide_eq_false (fun e => e h)]
end
end Go.Lg
namespace Go.Proofs.YtfhgnlkdcdlblaaDoor
open Go.Lg

theorem Pb.opC0 {aP aS : Aut} (h : Pb aP aS) : opC aP aS = 0 := by
  have := h.opE0
  unfold opE at this
  split at this
  · rename_i h1; exact absurd this h1
  · rename_i h1; exact Decidable.not_not.1 h1
theorem AutF_comp {N : Nat} {H : Array Obj} {va vm ve : Value} {n : Int} {a : Aut} (h : AutF N H (.agg #[va, .int .i64 n, vm, ve]) a) : n = a.st ∧ ∀ L : List Nat, (∀ b ∈ L, b < N) → AutA L H va vm ve a := by
  obtain ⟨x1, x2, x3, e, h⟩ := h
  simp only [Value.agg.injEq, Array.mk.injEq, List.cons.injEq, and_true, Value.int.injEq, true_and] at e
  obtain ⟨rfl, rfl, rfl, rfl⟩ := e
  exact ⟨rfl, h⟩

set_option maxHeartbeats 4000000 in
theorem lawMaps_ok {ns : List Nat} (hn : ns.length = 57) (hns : ∀ n ∈ ns, n < 256) (w : World) :
    Ret Tryd.prog 4 [.agg (bys ns).toArray] w fun r w' => r = .bool true ∧ Step [] w w' := by
  refine Ret.of_W Tryd.func4 rfl Tryd.ntmps4 Tryd.results4 (by simp) ?_
  refine W_seq <| W_region (by rfl) ?_
  refine xl rfl <| o_box (us := bys ns) rfl fun b1 w1 hs1 hb1 hB1 => x r_assign <| xe ?_
  refine W_seq <| W_seq <| W_region (by rfl) ?_
  refine xl rfl <| xf <| (known_ok w1).mono ?_
  rintro r2 w2 ⟨rfl, hs2⟩
  refine x (r_not rfl) <| xe ?_
  refine W_false rfl ?_
  refine W_skip ?_
  refine W_seq <| W_region (by rfl) ?_
  refine x (r_loadsB (hB1.ext hs2) rfl (by simp [bys]; exact hn)) <| xl rfl <| xf <| (make26_ok hn hns).mono ?_
  rintro r3 w3 ⟨hs3, vp, vs, vu, aP, aS, u, rfl, hFP, hFS, hPb, huo⟩
  obtain ⟨pva, pvm, pve, rfl, hPA⟩ := hFP
  obtain ⟨sva, svm, sve, rfl, hSA⟩ := hFS
  have hP0 := hPA [] (by simp)
  have hS0 := hSA [] (by simp)
  have hE0 := hPb.opE0
  obtain ⟨o1, o2, _, hv, hl⟩ := opE_zero hE0
  have hW3 := (hs1.trans hs2).trans hs3
  refine x r_move <| x (r_extract rfl rfl) <| x (r_extract rfl rfl) <|
    x (r_extract rfl rfl) <| xl rfl <| o_alloc (us := [.slice none 0 0, .int .i64 0, .slice none 0 0, .slice none 0 0]) rfl fun b3 w4 hs4 hb3 hB3 => xl rfl <| o_alloc (us := [.slice none 0 0, .int .i64 0, .slice none 0 0, .slice none 0 0]) rfl fun b4 w5 hs5 hb4 hB4 =>
    xl rfl <| o_stores (us := [pva, .int .i64 aP.st, pvm, pve]) (hB3.ext hs5) rfl rfl rfl rfl ⟨hP0.al.one, rfl, hP0.mr.one, hP0.ed.one, trivial⟩ fun w6 hs6 hB36 => ?_
  have hl3 := hB3.lt
  have hz4 := hs4.size
  have hB46 := hB4.step hs6 (by simp; omega)
  refine xl rfl <| o_stores (us := [sva, .int .i64 aS.st, svm, sve]) hB46 rfl rfl rfl rfl ⟨hS0.al.one, rfl, hS0.mr.one, hS0.ed.one, trivial⟩ fun w7 hs7 hB47 => x r_assign <| xe ?_
  have hB37 := hB36.step hs7 (by simp; omega)
  have hs37 : Step [] w3 w7 := ((hs4.trans hs5).then1 hs6 hb3).then1 hs7 (by omega)
  have hW7 := hW3.trans hs37
  have hP7 := hP0.ext hs37
  have hS7 := hS0.ext hs37
  refine W_seq <| W_region (by rfl) ?_
  refine x (r_loadsB hB37 rfl rfl) <| x (r_loadsB hB47 rfl rfl) <| xl rfl <| xf <| (Loop_ok hP7 hS7 hPb.st100).mono ?_
  rintro r8 w8 ⟨hs8, va, hr8, _, hga⟩
  rw [hE0] at hr8
  subst hr8
  obtain ⟨ava, avm, ave, rfl, hAA⟩ := hga hE0
  have hA8 := hAA [] (by simp)
  refine x r_move <| x (r_extract rfl rfl) <|
    x (r_extract rfl rfl) <| xl rfl <| o_alloc (us := [.slice none 0 0, .int .i64 0, .slice none 0 0, .slice none 0 0]) rfl fun b6 w9 hs9 hb6 hB6 => xl rfl <| o_stores (us := [ava, .int .i64 (opA aP aS).st, avm, ave]) hB6 rfl rfl rfl rfl ⟨hA8.al.one, rfl, hA8.mr.one, hA8.ed.one, trivial⟩ fun w10 hs10 hB610 => x r_assign <|
    xe ?_
  have hs810 : Step [] w8 w10 := hs9.then1 hs10 hb6
  have hs710 := hs8.trans hs810
  refine W_seq <| W_region (by rfl) ?_
  refine x (r_loadsB (hB37.ext hs710) rfl rfl) <| x (r_loadsB (hB47.ext hs710) rfl rfl) <| xl rfl <| xf <| (Map_ok (hP7.ext hs710) (hS7.ext hs710) hPb.st100).mono ?_
  rintro r11 w11 ⟨hs11, vl, hr11, _, hgl⟩
  rw [hE0] at hr11
  subst hr11
  obtain ⟨⟨cs, hcs, hCs⟩, hCb⟩ := hgl hE0
  have hC11 := hCs [] (by simp)
  have hcl : cs.length = aS.st.toNat := by have := ctls_len aP aS (opQ aP aS); rw [← hcs] at this; simpa using this
  refine x r_move <| x (r_extract rfl rfl) <|
    x (r_extract rfl rfl) <| x r_assign <| x r_assign <| xe ?_
  have hs711 := hs710.trans hs11
  refine W_seq <| W_region (by rfl) ?_
  refine x (r_loadsB (hB37.ext hs711) rfl rfl) <| x (r_loadsB (hB47.ext hs711) rfl rfl) <| xl rfl <| o_lits (us := [avCells ⟨pva, pvm, pve, aP⟩, avCells ⟨sva, svm, sve, aS⟩]) rfl rfl (by decide) (by exact (by decide : 2 * 4 ≤ 1000000)) ⟨rfl, rfl, rfl, rfl, trivial⟩ fun b39 w12 hs12 hb39 hB39 => ?_
  have hs712 := hs711.trans hs12
  have hAu : Auts [] w12.heap (.slice (some ⟨b39, 0, none⟩) 2 2) [⟨pva, pvm, pve, aP⟩, ⟨sva, svm, sve, aS⟩] := by
    refine ⟨hB39.arr (by simp) rfl (by simp) (by simp), fun q hq => ?_⟩
    simp only [List.mem_cons, List.not_mem_nil, or_false] at hq
    rcases hq with rfl | rfl
    · exact hP7.ext hs712
    · exact hS7.ext hs712
  refine xl rfl <| xf <| (Synchronous_ok hAu (by intro q hq; simp only [List.mem_cons, List.not_mem_nil, or_false] at hq; rcases hq with rfl | rfl; exact (hPb.st100 o1 o2).1; exact (hPb.st100 o1 o2).2)).mono ?_
  rintro r13 w13 ⟨hs13, vb, vt, c, rfl, hR⟩
  obtain ⟨hc, hO⟩ := OpRes.of hPb.opC0 hR
  rw [hE0] at hc
  subst hc
  obtain ⟨hFb, hFt⟩ := hO.good hE0
  obtain ⟨bva, bvm, bve, rfl, hBA⟩ := hFb
  obtain ⟨qs, hqe, hqs⟩ := hFt
  have hB13 := hBA [] (by simp)
  refine x r_move <| x (r_extract rfl rfl) <| x (r_extract rfl rfl) <| x (r_extract rfl rfl) <|
    xl rfl <| o_alloc (us := [.slice none 0 0, .int .i64 0, .slice none 0 0, .slice none 0 0]) rfl fun b10 w14 hs14 hb10 hB10 => xl rfl <| o_stores (us := [bva, .int .i64 (opA aP aS).st, bvm, bve]) hB10 rfl rfl rfl rfl ⟨hB13.al.one, rfl, hB13.mr.one, hB13.ed.one, trivial⟩ fun w15 hs15 hB1015 => x r_assign <| x r_assign <|
    xe ?_
  have hs1315 : Step [] w13 w15 := hs14.then1 hs15 hb10
  have hs1215 := hs13.trans hs1315
  have hs715 := hs712.trans hs1215
  have hs1115 := hs12.trans hs1215
  have hs1015 := hs11.trans hs1115
  have hs815 := hs810.trans hs1015
  have hC15 := hC11.ext hs1115
  have hT15 : Tups [] w15.heap vt qs := (hqs [] (by simp)).ext hs1315
  have hst0 := o2.st0
  have hn0 : (cs.length : Int) = aS.st := by omega
  have hs5' := hPb.s5
  have hB415 := hB47.ext hs715
  have hB315 := hB37.ext hs715
  refine W_seq <| W_seq <| W_region (by rfl) ?_
  refine x r_move <| x (r_neq rfl rfl) <| x r_move <| x r_move <| x (r_neq rfl rfl) <| x (r_pick rfl) <| x r_move <| x r_move <| x (r_neq rfl rfl) <| x (r_pick rfl) <| x r_move <| x (r_loadsB (hB610.ext hs1015) rfl rfl) <| x (r_loadsB hB1015 rfl rfl) <|
    xl rfl <| xf <| (Equal_same (hA8.ext hs815) (hB13.ext hs1315)).mono ?_
  rintro r16 w16 ⟨rfl, hs16⟩
  refine x (r_not rfl) <| x (r_pick rfl) <| x r_move <| x r_move <| x (r_lenA hC15.arr rfl) <| x (r_fieldB rfl) <|
    x (r_loadB (hB415.ext hs16) rfl rfl) <| x (r_neqF rfl rfl hn0) <| x (r_pick rfl) <| xe ?_
  refine W_false rfl ?_
  refine W_skip ?_
  have hW16 := (hW7.trans hs715).trans hs16
  refine W_seq <| W_seq <| W_region (by rfl) ?_
  refine x r_assign <| xe ?_
  refine W_block <| W_loop (α := Nat) [(2, 2), (13, 15), (67, 99)] (fun z => [(13, .int .i64 z)]) (fun z w' => z ≤ cs.length ∧ Step [] w15 w') (fun z => cs.length - z) (by rfl) 0 ⟨rfl, trivial⟩ ⟨Nat.zero_le _, hs16⟩ ?_
  rintro k g18 w18 ⟨hk, hs18⟩
  have hC18 := hC15.ext hs18
  refine W_seq <| W_seq <| W_region (by rfl) ?_
  refine x r_move <| x r_move <| x (r_lenA hC18.arr rfl) <| x (r_lss rfl rfl) <| xe ?_
  refine W_ifn rfl (fun h70 => ?_) (fun h70 => ?_)
  · refine W_exit ?_
    refine W_seq <| W_region (by rfl) ?_
    refine x r_assign <| xe ?_
    exact W_ret ⟨[.bool true], ⟨rfl, trivial⟩, rfl, (hW7.trans hs715).trans hs18⟩
  have hlt : k < cs.length := by omega
  have hcd : (cs[k]'hlt).c = ctlD aP aS (opQ aP aS) k := by rw [← lget_cv hcs hlt]; exact ctls_def o1 o2 hv k (by omega)
  have hCk := hC18.each _ (List.getElem_mem hlt)
  have hLk := hCb _ (by rw [← hcs]; exact List.mem_map_of_mem (List.getElem_mem hlt))
  refine exE (cs[k]'hlt) fun ck hck => ?_
  rw [hck] at hcd hCk hLk
  have hqsl : qs.length ≤ 4096 := by rw [← hqe] at hl; simpa using hl
  refine W_skip ?_
  refine W_seq <| W_block <| W_seq <| W_region (by rfl) ?_
  refine x (r_loadsB (hB315.ext hs18) rfl rfl) <| x (r_loadsB (hB415.ext hs18) rfl rfl) <| x r_move <| x r_move <| xl rfl <| xf <| (control_ok ((hP7.ext hs715).ext hs18) ((hS7.ext hs715).ext hs18) o2.al_le (hT15.ext hs18) (fun q hq => hv q.2 (by rw [← hqe]; exact List.mem_map_of_mem hq)) hqsl k).mono ?_
  rintro r19 w19 ⟨hs19, cv, oc, rfl, hce, hcvA, _⟩
  rw [hqe, ← hcd] at hce
  have hcv := hcvA [] (by simp)
  refine x r_move <| x (r_extract rfl rfl) <| x (r_extract rfl rfl) <| xl rfl <| o_alloc (us := [.slice none 0 0, .slice none 0 0, .bool false, .bool false]) rfl fun b14 w20 hs20 hb14 hB14 => xl rfl <| o_stores (us := cvCells cv) hB14 rfl rfl rfl rfl ⟨hcv.en.one, hcv.dis.one, rfl, rfl, trivial⟩ fun w21 hs21 hB1421 =>
    x r_assign <| xe ?_
  have hs1921 : Step [] w19 w21 := hs20.then1 hs21 hb14
  have hs1821 := hs19.trans hs1921
  have hC21 := hC18.ext hs1821
  have hC21k := hCk.ext hs1821
  have hself : consC ck.c ck.c = true := by rw [hcd]; exact ctlD_self aP aS _ _ o2.ali
  refine W_seq <| W_draw (Step [] w21) [(0, true), (1, true), (2, true), (3, true), (4, true), (5, false), (6, true), (7, true), (8, true), (9, true), (10, true), (11, true), (12, true), (13, true), (14, true), (15, true), (16, false), (17, true), (18, true)] Tryd.mixed (by rfl) (by kernel_rfl) (Step.drew _ _) ?_
  refine p (fun _ => r_move) <| p (fun _ => r_move) <| Lg.pig (g := cvCells) (i := k) rfl cv_len hC21.arr rfl rfl hlt fun a83 h83 => ?_
  rw [hck] at h83
  refine pq (fun _ hc => r_loadsA (h83.ext hc) rfl rfl) <|
    pq (fun _ hc => r_loadsB (hB1421.ext hc) rfl rfl) <| pk <| xf <| (same_ok (hC21k.ext (Step.drew _ _)) ((hcv.ext hs1921).ext (Step.drew _ _)) hce.symm).mono ?_
  rintro r22 w22 ⟨rfl, hs22⟩
  have hs2122 := (Step.drew [] w21).trans hs22
  refine ⟨hs2122, p (fun _ => r_not rfl) <| p (fun _ => r_move) <|
    p (fun _ => r_move) <| p (fun _ => r_move) <| Lg.pig (g := cvCells) (i := k) rfl cv_len hC21.arr rfl rfl hlt fun a91 h91 => ?_⟩
  rw [hck] at h91
  refine pq (fun _ hc => r_loadsA (h91.ext hc) rfl rfl) <| p (fun _ => r_move) <| p (fun _ => r_move) <| Lg.pig (g := cvCells) (i := k) rfl cv_len hC21.arr rfl rfl hlt fun a95 h95 => ?_
  rw [hck] at h95
  refine pq (fun _ hc => r_loadsA (h95.ext hc) rfl rfl) <|
    pk <| xf <| (Consistent_ok (hC21k.ext hs2122) (hC21k.ext hs2122) hLk.1 hLk.2 hLk.1 hLk.2).mono ?_
  rintro r23 w23 ⟨hr23, hs23⟩
  rw [hself] at hr23
  subst hr23
  have hs2123 := hs2122.trans hs23
  refine ⟨hs2123, p (fun _ => r_not rfl) <| p (fun _ => r_pick rfl) <| pe ?_⟩
  refine W_false rfl ?_
  refine W_skip ?_
  refine W_region (by rfl) ?_
  refine x r_move <| x (r_add rfl rfl ⟨by omega, by omega⟩) <| x r_assign <| xe ?_
  exact ⟨k + 1, by omega, ⟨rfl, trivial⟩, hlt, (hs18.trans hs1821).trans hs2123⟩
end Go.Proofs.YtfhgnlkdcdlblaaDoor
/- The synchronous product as a graph: its edges are the steps of its tuples; it is a right automaton. -/
namespace Go.Proofs.YtfhgnlkdcdlblaaDoor
open Go.Lg

/-! ### Edges in a grid: by state, then by event -/
def grid (g : Nat → Int → Option Ed) (vs : List Int) (n : Nat) : List Ed := (List.range' 0 n).flatMap fun j => vs.filterMap (g j)
theorem grid_succ (g : Nat → Int → Option Ed) (vs : List Int) (n : Nat) : grid g vs (n + 1) = grid g vs n ++ vs.filterMap (g n) := by
  unfold grid; rw [List.range'_1_concat, List.flatMap_append]; simp
theorem eget_append (l m : List Ed) (s v : Int) : eget (l ++ m) s v = match eget l s v with | some u => some u | none => eget m s v := by
  induction l with
  | nil => rfl
  | cons e l ih =>
    rw [List.cons_append, eget, eget]
    split
    · rfl
    · exact ih
/-- An edge of the grid stands where it belongs. -/
def GridOk (g : Nat → Int → Option Ed) : Prop := ∀ j v e, g j v = some e → e.1 = (j : Int) ∧ e.2.1 = v
theorem eget_row {g : Nat → Int → Option Ed} (hg : GridOk g) (j : Nat) (v : Int) : ∀ (vs : List Int), eget (vs.filterMap (g j)) j v = if v ∈ vs then (g j v).map (·.2.2) else none
  | [] => by simp [eget]
  | u :: vs => by
    have ih := eget_row hg j v vs
    rw [List.filterMap_cons]
    cases hu : g j u with
    | none =>
      simp only []
      rw [ih]
      by_cases e : v = u
      · subst e; simp [hu]
      · simp [e]
    | some e =>
      have he := hg j u e hu
      simp only []
      rw [eget]
      by_cases e2 : u = v
      · subst e2
        rw [if_pos he, if_pos List.mem_cons_self, hu]; rfl
      · rw [if_neg (fun h => e2 (he.2.symm.trans h.2)), ih]
        simp [Ne.symm e2]
theorem eget_row_ne {g : Nat → Int → Option Ed} (hg : GridOk g) {j i : Nat} (h : j ≠ i) (v : Int) (vs : List Int) : eget (vs.filterMap (g j)) i v = none := by
  refine eget_none fun e he h2 => ?_
  obtain ⟨u, _, hu⟩ := List.mem_filterMap.1 he
  have := hg j u e hu
  omega
theorem eget_grid {g : Nat → Int → Option Ed} (hg : GridOk g) (vs : List Int) (j : Nat) (v : Int) : ∀ n, eget (grid g vs n) j v = if j < n ∧ v ∈ vs then (g j v).map (·.2.2) else none
  | 0 => by simp [grid, eget]
  | n + 1 => by
    rw [grid_succ, eget_append, eget_grid hg vs j v n]
    by_cases e : j = n
    · subst e
      rw [if_neg (by omega), eget_row hg]
      simp
    · rw [eget_row_ne hg (Ne.symm e)]
      by_cases h : j < n ∧ v ∈ vs
      · rw [if_pos h, if_pos ⟨by omega, h.2⟩]
        cases (g j v).map (·.2.2) <;> rfl
      · rw [if_neg h, if_neg (fun h2 => h ⟨by omega, h2.2⟩)]
theorem grid_mem {g : Nat → Int → Option Ed} {vs : List Int} {n : Nat} {e : Ed} (h : e ∈ grid g vs n) : ∃ j v, j < n ∧ v ∈ vs ∧ g j v = some e := by
  unfold grid at h
  obtain ⟨j, hj, h2⟩ := List.mem_flatMap.1 h
  obtain ⟨v, hv, h3⟩ := List.mem_filterMap.1 h2
  rw [List.mem_range'_1] at hj
  exact ⟨j, v, by omega, hv, h3⟩
theorem grid_pw {g : Nat → Int → Option Ed} (hg : GridOk g) {vs : List Int} (hi : Inc vs) : ∀ n, (grid g vs n).Pairwise fun x y : Ed => x.1 < y.1 ∨ (x.1 = y.1 ∧ x.2.1 < y.2.1)
  | 0 => by simp [grid]
  | n + 1 => by
    rw [grid_succ, List.pairwise_append]
    refine ⟨grid_pw hg hi n, pw_filterMap (r := (· < ·)) (fun x y u v hxy hu hv => ?_) hi, fun e he e' he' => ?_⟩
    · have h1 := hg n x u hu
      have h2 := hg n y v hv
      right; omega
    · obtain ⟨j, v, hj, _, h1⟩ := grid_mem he
      obtain ⟨v', _, h2⟩ := List.mem_filterMap.1 he'
      have h3 := hg j v e h1
      have h4 := hg n v' e' h2
      left; omega
theorem outE_append (l m : List Ed) (s : Int) : outE (l ++ m) s = outE l s ++ outE m s := by unfold outE; rw [List.filter_append]
theorem outE_grid {g : Nat → Int → Option Ed} (hg : GridOk g) (vs : List Int) (j : Nat) : ∀ n, outE (grid g vs n) j = if j < n then vs.filterMap (g j) else []
  | 0 => by simp [grid, outE]
  | n + 1 => by
    rw [grid_succ, outE_append, outE_grid hg vs j n]
    have key : ∀ e ∈ vs.filterMap (g n), e.1 = (n : Int) := fun e he => by
      obtain ⟨v, _, h2⟩ := List.mem_filterMap.1 he
      exact (hg n v e h2).1
    by_cases e : j = n
    · subst e
      rw [if_neg (by omega), if_pos (by omega), List.nil_append]
      unfold outE
      rw [List.filter_eq_self]
      intro x hx; simpa using key x hx
    · have : outE (vs.filterMap (g n)) j = [] := by
        unfold outE
        rw [List.filter_eq_nil_iff]
        intro x hx; have := key x hx; simp; omega
      rw [this, List.append_nil]
      by_cases h : j < n
      · rw [if_pos h, if_pos (by omega)]
      · rw [if_neg h, if_neg (by omega)]

/-! ### The union of the alphabets -/
theorem evs_snoc (l : List Aut) (a : Aut) : evs (l ++ [a]) = mrg (· || ·) (evs l) a.al := by unfold evs; rw [List.foldl_append]; rfl
theorem evsF (l : List Aut) : ∀ (acc : List Int), (∀ a ∈ l, Inc a.al) → Inc acc → Inc (l.foldl (fun acc a => mrg (· || ·) acc a.al) acc) ∧ ∀ x, x ∈ l.foldl (fun acc a => mrg (· || ·) acc a.al) acc ↔ x ∈ acc ∨ ∃ a ∈ l, x ∈ a.al := by
  induction l with
  | nil => intro acc _ h; exact ⟨h, fun x => by simp⟩
  | cons a l ih =>
    intro acc hl h
    have ha := hl a List.mem_cons_self
    obtain ⟨h1, h2⟩ := ih (mrg (· || ·) acc a.al) (fun b hb => hl b (List.mem_cons_of_mem _ hb)) (mrg_inc _ _ _ _ (Nat.le_refl _) h ha)
    rw [List.foldl_cons]
    refine ⟨h1, fun x => ?_⟩
    rw [h2 x, mem_mrg h ha]
    simp only [List.mem_cons, exists_eq_or_imp]
    constructor
    · rintro (⟨h3 | h3, _⟩ | h3)
      · exact .inl h3
      · exact .inr (.inl h3)
      · exact .inr (.inr h3)
    · rintro (h3 | h3 | h3)
      · exact .inl ⟨.inl h3, by simp [h3]⟩
      · exact .inl ⟨.inr h3, by simp [h3]⟩
      · exact .inr h3
theorem evs_inc {l : List Aut} (h : ∀ a ∈ l, Okay a) : Inc (evs l) := (evsF l [] (fun a ha => (h a ha).ali) (by simp)).1
theorem evs_mem {l : List Aut} (h : ∀ a ∈ l, Okay a) (x : Int) : x ∈ evs l ↔ ∃ a ∈ l, x ∈ a.al := by
  have := (evsF l [] (fun a ha => (h a ha).ali) (by simp)).2 x
  unfold evs; rw [this]; simp

/-! ### The search -/
def syF (aa : List Aut) (tup : List (List Int)) (j : Nat) (v : Int) : Option Ed := (stepT v aa (tup.getD j [])).map fun u => ((j : Int), v, (tup.idxOf u : Int))
theorem syF_ok (aa : List Aut) (tup : List (List Int)) : GridOk (syF aa tup) := by
  intro j v e h
  unfold syF at h
  obtain ⟨u, _, rfl⟩ := Option.map_eq_some_iff.1 h
  exact ⟨rfl, rfl⟩
theorem fm_congr {α β : Type} {f g : α → Option β} : ∀ {l : List α}, (∀ x ∈ l, f x = g x) → l.filterMap f = l.filterMap g
  | [], _ => rfl
  | x :: l, h => by rw [List.filterMap_cons, List.filterMap_cons, h x List.mem_cons_self, fm_congr (fun y hy => h y (List.mem_cons_of_mem _ hy))]
theorem fm_one {α β : Type} {f : α → Option β} {v : α} {e : β} (h : f v = some e) : [v].filterMap f = [e] := by rw [List.filterMap_cons, h]; rfl
theorem fm_none {α β : Type} {f : α → Option β} {v : α} (h : f v = none) : [v].filterMap f = [] := by rw [List.filterMap_cons, h]; rfl
theorem syF_none {aa : List Aut} {tup : List (List Int)} {j : Nat} {v : Int} (h : stepT v aa (tup.getD j []) = none) : syF aa tup j v = none := by unfold syF; rw [h]; rfl
theorem syF_some {aa : List Aut} {tup : List (List Int)} {j : Nat} {v : Int} {u : List Int} (h : stepT v aa (tup.getD j []) = some u) : syF aa tup j v = some ((j : Int), v, (tup.idxOf u : Int)) := by unfold syF; rw [h]; rfl
def Clo (aa : List Aut) (tup : List (List Int)) (j : Nat) (vs : List Int) : Prop := ∀ v ∈ vs, ∀ u, stepT v aa (tup.getD j []) = some u → u ∈ tup
theorem getD_pre {tup r : List (List Int)} {j : Nat} (h : j < tup.length) : (tup ++ r).getD j [] = tup.getD j [] := by simp [List.getD, List.getElem?_append_left h]
theorem syF_pre {aa : List Aut} {tup r : List (List Int)} {j : Nat} {vs : List Int} (hj : j < tup.length) (hc : Clo aa tup j vs) : vs.filterMap (syF aa (tup ++ r) j) = vs.filterMap (syF aa tup j) := by
  refine fm_congr fun v hv => ?_
  unfold syF
  rw [getD_pre hj]
  cases hs : stepT v aa (tup.getD j []) with
  | none => rfl
  | some u =>
    have hu := hc v hv u hs
    simp only [Option.map_some, Option.some.injEq, Prod.mk.injEq, true_and]
    rw [List.idxOf_append, if_pos hu]
theorem Clo.pre {aa : List Aut} {tup r : List (List Int)} {j : Nat} {vs : List Int} (hj : j < tup.length) (hc : Clo aa tup j vs) : Clo aa (tup ++ r) j vs := by
  intro v hv u hu
  rw [getD_pre hj] at hu
  exact List.mem_append_left _ (hc v hv u hu)
theorem nodup_snoc {α : Type} {l : List α} {u : α} (h : l.Nodup) (hu : u ∉ l) : (l ++ [u]).Nodup := by
  rw [List.nodup_append]
  exact ⟨h, by simp, fun a ha b hb => by simp only [List.mem_singleton] at hb; subst hb; exact fun e => hu (by rw [← e]; exact ha)⟩
theorem syEs_spec {aa : List Aut} {i : Nat} : ∀ (vs : List Int) (s s' : Sy), i < s.tup.length → s.tup.Nodup → syEs aa i (syT s i) vs s = some s' →
    ∃ r, s'.tup = s.tup ++ r ∧ s'.mk' = s.mk' ∧ s'.ed = s.ed ++ vs.filterMap (syF aa s'.tup i) ∧ Clo aa s'.tup i vs ∧ s'.tup.Nodup
  | [], s, s', _, hd, e => by cases e; exact ⟨[], by simp, rfl, by simp, fun v hv => (by cases hv), hd⟩
  | v :: vs, s, s', hi, hd, e => by
    rw [syEs] at e
    obtain ⟨s1, h1, h2⟩ := Option.bind_eq_some_iff.1 e
    have key : ∃ r1, s1.tup = s.tup ++ r1 ∧ s1.mk' = s.mk' ∧ s1.ed = s.ed ++ [v].filterMap (syF aa s1.tup i) ∧ Clo aa s1.tup i [v] ∧ s1.tup.Nodup := by
      unfold syE at h1
      have eT : syT s i = s.tup.getD i [] := rfl
      rw [eT] at h1
      cases hs : stepT v aa (s.tup.getD i []) with
      | none =>
        rw [hs] at h1
        cases h1
        refine ⟨[], by simp, rfl, by rw [fm_none (syF_none hs), List.append_nil], fun v' hv' u hu => ?_, hd⟩
        simp only [List.mem_singleton] at hv'; subst hv'
        rw [hs] at hu; cases hu
      | some u =>
        rw [hs] at h1
        simp only [] at h1
        by_cases hu : u ∈ s.tup
        · rw [if_pos hu] at h1
          cases h1
          refine ⟨[], by simp, rfl, by rw [fm_one (syF_some hs)], fun v' hv' u' hu' => ?_, hd⟩
          simp only [List.mem_singleton] at hv'; subst hv'
          simp only [] at hu' ⊢
          rw [hs] at hu'; cases hu'; exact hu
        · rw [if_neg hu] at h1
          split at h1
          · cases h1
          · cases h1
            have e2 : (s.tup ++ [u]).getD i [] = s.tup.getD i [] := getD_pre hi
            have e3 : (s.tup ++ [u]).idxOf u = s.tup.length := by rw [List.idxOf_append, if_neg hu]; simp
            refine ⟨[u], rfl, rfl, ?_, fun v' hv' u' hu' => ?_, nodup_snoc hd hu⟩
            · rw [fm_one (syF_some (tup := s.tup ++ [u]) (u := u) (by rw [e2]; exact hs)), e3]
            · simp only [List.mem_singleton] at hv'; subst hv'
              simp only [] at hu' ⊢
              rw [e2, hs] at hu'; cases hu'; simp
    obtain ⟨r1, k1, k2, k3, k4, k5⟩ := key
    have hi1 : i < s1.tup.length := by rw [k1]; simp; omega
    have eT : syT s1 i = syT s i := by unfold syT; rw [k1]; exact getD_pre hi
    rw [← eT] at h2
    obtain ⟨r2, g1, g2, g3, g4, g5⟩ := syEs_spec vs s1 s' hi1 k5 h2
    refine ⟨r1 ++ r2, by rw [g1, k1, List.append_assoc], g2.trans k2, ?_, ?_, g5⟩
    · rw [g3, k3, List.append_assoc]
      congr 1
      rw [show v :: vs = [v] ++ vs from rfl, List.filterMap_append]
      congr 1
      rw [g1]
      exact (syF_pre hi1 k4).symm
    · intro v' hv' u hu
      rcases List.mem_cons.1 hv' with rfl | hv'
      · have := k4.pre (r := r2) hi1
        rw [← g1] at this
        exact this v' List.mem_cons_self u hu
      · exact g4 v' hv' u hu
/-- Before tuple i is taken. -/
structure SyG (aa : List Aut) (i : Nat) (s : Sy) : Prop where
  nd : s.tup.Nodup
  le : i ≤ s.tup.length
  hd : s.tup.getD 0 [] = List.replicate aa.length 0 ∧ 0 < s.tup.length
  mk2 : s.mk' = ((List.range' 0 i).filter fun j => markT aa (s.tup.getD j [])).map fun j : Nat => (j : Int)
  ed : s.ed = grid (syF aa s.tup) (evs aa) i
  cl : ∀ j, j < i → Clo aa s.tup j (evs aa)
theorem flatMap_congr' {α β : Type} {f g : α → List β} : ∀ {l : List α}, (∀ x ∈ l, f x = g x) → l.flatMap f = l.flatMap g
  | [], _ => rfl
  | x :: l, h => by rw [List.flatMap_cons, List.flatMap_cons, h x List.mem_cons_self, flatMap_congr' (fun y hy => h y (List.mem_cons_of_mem _ hy))]
theorem SyG.next {aa : List Aut} {i : Nat} {s s' : Sy} (h : SyG aa i s) (hi : i < s.tup.length) (e : syEs aa i (syT s i) (evs aa) (syMark aa i (syT s i) s) = some s') : SyG aa (i + 1) s' := by
  have ht : (syMark aa i (syT s i) s).tup = s.tup := by unfold syMark; split <;> rfl
  have hed : (syMark aa i (syT s i) s).ed = s.ed := by unfold syMark; split <;> rfl
  have hT : syT (syMark aa i (syT s i) s) i = syT s i := by show (syMark aa i (syT s i) s).tup.getD i [] = s.tup.getD i []; rw [ht]
  rw [← hT] at e
  obtain ⟨r, g1, g2, g3, g4, g5⟩ := syEs_spec (evs aa) _ s' (by rw [ht]; exact hi) (by rw [ht]; exact h.nd) (by rw [hT] at e ⊢; exact e)
  rw [ht] at g1
  rw [hed] at g3
  have pre : ∀ j, j ≤ i → s'.tup.getD j [] = s.tup.getD j [] := fun j hj => by rw [g1]; exact getD_pre (by omega)
  refine ⟨g5, by rw [g1]; simp; omega, ⟨by rw [pre 0 (by omega)]; exact h.hd.1, by rw [g1]; simp; omega⟩, ?_, ?_, fun j hj => ?_⟩
  · rw [g2, List.range'_1_concat, List.filter_append, List.map_append, Nat.zero_add]
    have e1 : ((List.range' 0 i).filter fun j => markT aa (s'.tup.getD j [])) = (List.range' 0 i).filter fun j => markT aa (s.tup.getD j []) := by
      refine List.filter_congr fun j hj => ?_
      rw [List.mem_range'_1] at hj
      rw [pre j (by omega)]
    rw [e1]
    unfold syMark
    by_cases hm : markT aa (syT s i) = true
    · rw [if_pos hm]
      have hm' : markT aa (s'.tup.getD i []) = true := by rw [pre i (Nat.le_refl _)]; exact hm
      simp only [List.filter_cons, hm', if_true, List.filter_nil, List.map_cons, List.map_nil]
      rw [h.mk2]
    · rw [if_neg hm]
      have hm' : markT aa (s'.tup.getD i []) = false := by rw [pre i (Nat.le_refl _)]; exact eq_false_of_ne_true hm
      rw [List.filter_cons, if_neg (by rw [hm']; simp), List.filter_nil, h.mk2]; simp
  · rw [g3, grid_succ, h.ed]
    congr 1
    unfold grid
    refine flatMap_congr' fun j hj => ?_
    rw [List.mem_range'_1] at hj
    rw [g1]
    exact (syF_pre (by omega) (h.cl j (by omega))).symm
  · by_cases e2 : j = i
    · subst e2; exact g4
    · have := (h.cl j (by omega)).pre (r := r) (by omega)
      rw [← g1] at this
      exact this
theorem syL_spec {aa : List Aut} : ∀ (f i : Nat) (s s' : Sy), SyG aa i s → syL aa f i s = some s' → ∃ i', SyG aa i' s' ∧ (s'.tup.length = i' ∨ i' = i + f)
  | 0, i, s, s', h, e => by cases e; exact ⟨i, h, .inr rfl⟩
  | f + 1, i, s, s', h, e => by
    rw [syL] at e
    split at e
    · rename_i hi
      obtain ⟨s1, h1, h2⟩ := Option.bind_eq_some_iff.1 e
      obtain ⟨i', h3, h4⟩ := syL_spec f (i + 1) s1 s' (h.next hi h1) h2
      exact ⟨i', h3, by omega⟩
    · cases e; exact ⟨i, h, .inl (by have := h.le; omega)⟩
/-- What the product is. -/
structure SyP (aa : List Aut) (A : Aut) (Q : List (List Int)) : Prop where
  al : A.al = evs aa
  st : A.st = (Q.length : Int)
  nd : Q.Nodup
  v : ∀ t ∈ Q, Vt aa t
  le : Q.length ≤ 4096
  hd : 0 < Q.length → Q.getD 0 [] = List.replicate aa.length 0
  mk2 : A.mr = ((List.range' 0 Q.length).filter fun j => markT aa (Q.getD j [])).map fun j : Nat => (j : Int)
  ed : A.ed = grid (syF aa Q) (evs aa) Q.length
  cl : ∀ j, j < Q.length → Clo aa Q j (evs aa)
theorem sync_spec {aa : List Aut} (ho : ∀ a ∈ aa, Okay a) {A : Aut} {Q : List (List Int)} (h : sync aa = some (A, Q)) : SyP aa A Q ∧ (Q.length = 0 ↔ ∃ a ∈ aa, a.st = 0) := by
  have hok := sync_ok ho h
  unfold sync at h
  split at h
  · rename_i hz
    cases h
    exact ⟨⟨rfl, rfl, by simp, by simp, by simp, fun h => by simp at h, by simp, by simp [grid], fun j hj => by simp at hj⟩, by simpa using hz⟩
  · rename_i hz
    obtain ⟨s, h1, h2⟩ := Option.map_eq_some_iff.1 h
    have h0 : SyG aa 0 (sy0 aa) := ⟨by simp [sy0], by simp, ⟨by simp [sy0], by simp [sy0]⟩, by simp [sy0], by simp [sy0, grid], fun j hj => by omega⟩
    obtain ⟨i', h3, h4⟩ := syL_spec 4096 0 (sy0 aa) s h0 h1
    cases h2
    have hl : i' = s.tup.length := by
      have h5 := h3.le
      have h6 := hok.2
      simp only [] at h6
      omega
    subst hl
    refine ⟨⟨rfl, rfl, h3.nd, hok.1, hok.2, fun _ => h3.hd.1, h3.mk2, h3.ed, h3.cl⟩, ?_⟩
    have := h3.hd.2
    constructor
    · intro h; have h7 : s.tup.length = 0 := h; omega
    · intro h; exact absurd h hz
/-- A step of the product is a step of its tuple. -/
theorem SyP.step {aa : List Aut} {A : Aut} {Q : List (List Int)} (h : SyP aa A Q) {j : Nat} (hj : j < Q.length) (v : Int) :
    eget A.ed j v = if v ∈ evs aa then (stepT v aa (Q.getD j [])).map fun u => (Q.idxOf u : Int) else none := by
  rw [h.ed, eget_grid (syF_ok aa Q)]
  by_cases hv : v ∈ evs aa
  · rw [if_pos ⟨hj, hv⟩, if_pos hv]
    unfold syF
    rw [Option.map_map]; rfl
  · rw [if_neg (fun e => hv e.2), if_neg hv]
theorem SyP.to {aa : List Aut} {A : Aut} {Q : List (List Int)} (h : SyP aa A Q) {j : Nat} (hj : j < Q.length) {v : Int} (hv : v ∈ evs aa) {u : List Int} (hu : stepT v aa (Q.getD j []) = some u) : Q.idxOf u < Q.length ∧ Q.getD (Q.idxOf u) [] = u := by
  have hm := h.cl j hj v hv u hu
  have hl := List.idxOf_lt_length_of_mem hm
  refine ⟨hl, ?_⟩
  simp [List.getD, hl]
theorem SyP.okay {aa : List Aut} (ho : ∀ a ∈ aa, Okay a) {A : Aut} {Q : List (List Int)} (h : SyP aa A Q) : Okay A := by
  have hle := h.le
  refine ⟨fun e he => ?_, by rw [h.al]; exact evs_inc ho, by rw [h.st]; omega, by rw [h.st]; omega, fun s hs => ?_, ?_, fun e he => ?_, by rw [h.ed]; exact grid_pw (syF_ok aa Q) (evs_inc ho) _⟩
  · rw [h.al] at he
    obtain ⟨a, ha, hx⟩ := (evs_mem ho e).1 he
    exact (ho a ha).al e hx
  · rw [h.mk2] at hs
    simp only [List.mem_map, List.mem_filter, List.mem_range'_1] at hs
    obtain ⟨i, ⟨hi, _⟩, rfl⟩ := hs
    rw [h.st]; omega
  · rw [h.mk2]
    unfold Inc
    rw [List.pairwise_map]
    refine List.Pairwise.sublist List.filter_sublist ?_
    exact (List.pairwise_lt_range' (s := 0) (n := Q.length)).imp (fun h => by omega)
  · rw [h.ed] at he
    obtain ⟨j, v, hj, hv, hg⟩ := grid_mem he
    unfold syF at hg
    obtain ⟨u, hu, rfl⟩ := Option.map_eq_some_iff.1 hg
    have := (h.to hj hv hu).1
    rw [h.st, h.al]
    exact ⟨by simp only []; omega, by simp only []; omega, hv, by simp only []; omega, by simp only []; omega⟩
end Go.Proofs.YtfhgnlkdcdlblaaDoor
/- Contracts: automaton.next, follow, reached, Generates, Accepts. -/
namespace Go.Proofs.YtfhgnlkdcdlblaaDoor
open Go.Lg

/-- What IndexFunc answers. -/
def IxQ {α : Type} (q : α → Bool) (es : List α) (r : Value) : Prop := (r = .int .i64 (-1) ∧ ∀ m (hm : m < es.length), q (es[m]'hm) = false) ∨ ∃ (i : Nat) (hi : i < es.length), r = .int .i64 i ∧ q (es[i]'hi) = true ∧ ∀ m (hm : m < i), q (es[m]'(by omega)) = false
theorem ixfE_ok {g : Nat} {fn : Func} [Fu Tryd.prog g fn] {cap : List Value} {q : Ed → Bool} {L : List Nat} {w : World} {v : Value} {es : List Ed} (h : Eds L w.heap v es)
    (hk : ∀ (e : Ed) (w1 : World), Step [] w w1 → Ret Tryd.prog g ([.agg (edCells e).toArray] ++ cap) w1 fun r w' => r = .bool (q e) ∧ Step [] w1 w') :
    Ret Tryd.prog 106 [v, .func (.func g) #[] cap.toArray] w fun r w' => Step [] w w' ∧ IxQ q es r := by
  have hle := h.le
  refine Ret.of_W Tryd.func106 rfl Tryd.ntmps106 Tryd.results106 (by simp) ?_
  refine W_seq <| W_region (by rfl) ?_
  refine x r_assign <| xe ?_
  refine W_seq <| W_seq <| W_region (by rfl) ?_
  refine x r_move <| x (r_lenA h rfl) <| x r_move <| xe ?_
  refine W_block <| W_loop (α := Nat) [(4, 5), (8, 18)] (fun z => [(8, .int .i64 z)]) (fun z w' => z ≤ es.length ∧ Step [] w w' ∧ ∀ m (hm : m < es.length), m < z → q (es[m]'hm) = false) (fun z => es.length - z) (by rfl) 0 ⟨rfl, trivial⟩ ⟨Nat.zero_le _, Step.refl _ _, fun m _ h0 => absurd h0 (Nat.not_lt_zero m)⟩ ?_
  rintro k g1 w1 ⟨hk1, hs1, hq⟩
  refine W_seq <| W_region (by rfl) ?_
  refine x (r_lss rfl rfl) <| xe ?_
  refine W_seq <| W_ifn rfl (fun h9 => ?_) (fun h9 => ?_)
  · refine W_exit ?_
    refine W_seq <| W_region (by rfl) ?_
    refine x r_assign <| xe ?_
    exact W_ret ⟨[.int .i64 (-1)], ⟨rfl, trivial⟩, hs1, .inl ⟨rfl, fun m hm => hq m hm (by omega)⟩⟩
  have hlt : k < es.length := by omega
  refine W_skip ?_
  refine W_seq <| W_block <| W_seq <| W_region (by rfl) ?_
  refine x r_move <| x r_assign <| xe ?_
  refine W_seq <| W_region (by rfl) ?_
  refine x r_move <| x r_move <| x r_move <| xie (h.ext hs1) rfl rfl hlt fun a14 h14 => x (r_loadsA h14 rfl rfl) <| xl rfl <| xc (first := []) (capt := cap) rfl <| (hk (es[k]'hlt) w1 hs1).mono ?_
  rintro r2 w2 ⟨rfl, hs2⟩
  refine xe ?_
  refine W_cond rfl (fun h16 => ?_) (fun h16 => ?_)
  · refine W_seq <| W_region (by rfl) ?_
    refine x r_move <| x r_assign <| xe ?_
    exact W_ret ⟨[.int .i64 k], ⟨rfl, trivial⟩, hs1.trans hs2, .inr ⟨k, hlt, rfl, h16, fun m hm => hq m (by omega) hm⟩⟩
  refine W_skip ?_
  refine W_region (by rfl) ?_
  refine x (r_add rfl rfl ⟨by omega, by omega⟩) <| x r_move <| xe ?_
  refine ⟨k + 1, by omega, ⟨rfl, trivial⟩, hlt, hs1.trans hs2, fun m hm hmk => ?_⟩
  by_cases e : m = k
  · subst e; exact h16
  · exact hq m hm (by omega)
theorem ixfI_ok {g : Nat} {fn : Func} [Fu Tryd.prog g fn] {cap : List Value} {q : Int → Bool} {L : List Nat} {w : World} {v : Value} {es : List Int} (h : Ints L w.heap v es)
    (hk : ∀ (e : Int) (w1 : World), Step [] w w1 → Ret Tryd.prog g ([.int .i64 e] ++ cap) w1 fun r w' => r = .bool (q e) ∧ Step [] w1 w') :
    Ret Tryd.prog 100 [v, .func (.func g) #[] cap.toArray] w fun r w' => Step [] w w' ∧ IxQ q es r := by
  have hle := h.le
  refine Ret.of_W Tryd.func100 rfl Tryd.ntmps100 Tryd.results100 (by simp) ?_
  refine W_seq <| W_region (by rfl) ?_
  refine x r_assign <| xe ?_
  refine W_seq <| W_seq <| W_region (by rfl) ?_
  refine x r_move <| x (r_lenA h rfl) <| x r_move <| xe ?_
  refine W_block <| W_loop (α := Nat) [(4, 5), (8, 18)] (fun z => [(8, .int .i64 z)]) (fun z w' => z ≤ es.length ∧ Step [] w w' ∧ ∀ m (hm : m < es.length), m < z → q (es[m]'hm) = false) (fun z => es.length - z) (by rfl) 0 ⟨rfl, trivial⟩ ⟨Nat.zero_le _, Step.refl _ _, fun m _ h0 => absurd h0 (Nat.not_lt_zero m)⟩ ?_
  rintro k g1 w1 ⟨hk1, hs1, hq⟩
  refine W_seq <| W_region (by rfl) ?_
  refine x (r_lss rfl rfl) <| xe ?_
  refine W_seq <| W_ifn rfl (fun h9 => ?_) (fun h9 => ?_)
  · refine W_exit ?_
    refine W_seq <| W_region (by rfl) ?_
    refine x r_assign <| xe ?_
    exact W_ret ⟨[.int .i64 (-1)], ⟨rfl, trivial⟩, hs1, .inl ⟨rfl, fun m hm => hq m hm (by omega)⟩⟩
  have hlt : k < es.length := by omega
  refine W_skip ?_
  refine W_seq <| W_block <| W_seq <| W_region (by rfl) ?_
  refine x r_move <| x r_assign <| xe ?_
  refine W_seq <| W_region (by rfl) ?_
  refine x r_move <| x r_move <| x r_move <| xii (h.ext hs1) rfl rfl hlt fun a14 h14 => x (r_loadA h14 rfl) <| xl rfl <| xc (first := []) (capt := cap) rfl <| (hk (es[k]'hlt) w1 hs1).mono ?_
  rintro r2 w2 ⟨rfl, hs2⟩
  refine xe ?_
  refine W_cond rfl (fun h16 => ?_) (fun h16 => ?_)
  · refine W_seq <| W_region (by rfl) ?_
    refine x r_move <| x r_assign <| xe ?_
    exact W_ret ⟨[.int .i64 k], ⟨rfl, trivial⟩, hs1.trans hs2, .inr ⟨k, hlt, rfl, h16, fun m hm => hq m (by omega) hm⟩⟩
  refine W_skip ?_
  refine W_region (by rfl) ?_
  refine x (r_add rfl rfl ⟨by omega, by omega⟩) <| x r_move <| xe ?_
  refine ⟨k + 1, by omega, ⟨rfl, trivial⟩, hlt, hs1.trans hs2, fun m hm hmk => ?_⟩
  by_cases e : m = k
  · subst e; exact h16
  · exact hq m hm (by omega)
theorem cnfI_ok {g : Nat} {fn : Func} [Fu Tryd.prog g fn] {cap : List Value} {q : Int → Bool} {L : List Nat} {w : World} {v : Value} {es : List Int} (h : Ints L w.heap v es)
    (hk : ∀ (e : Int) (w1 : World), Step [] w w1 → Ret Tryd.prog g ([.int .i64 e] ++ cap) w1 fun r w' => r = .bool (q e) ∧ Step [] w1 w') :
    Ret Tryd.prog 84 [v, .func (.func g) #[] cap.toArray] w fun r w' => r = .bool (es.any q) ∧ Step [] w w' := by
  refine Ret.of_W Tryd.func84 rfl Tryd.ntmps84 Tryd.results84 (by simp) ?_
  refine W_seq <| W_region (by rfl) ?_
  refine x r_assign <| xe ?_
  refine W_seq <| W_region (by rfl) ?_
  refine x r_move <| x r_move <| xl rfl <| xf <| (ixfI_ok h hk).mono ?_
  rintro r1 w1 ⟨hs1, hr⟩
  refine Or.elim hr (fun hr => ?_) (fun hr => ?_)
  · obtain ⟨rfl, hq⟩ := hr
    have e : es.any q = false := by
      rw [List.any_eq_false]
      intro z hz
      obtain ⟨i, hi, rfl⟩ := List.getElem_of_mem hz
      rw [hq i hi]; simp
    refine x (r_geq rfl rfl) <| x r_assign <| xe ?_
    exact W_ret ⟨[.bool false], ⟨rfl, trivial⟩, by rw [e]; rfl, hs1⟩
  · obtain ⟨i, hi, rfl, h1, _⟩ := hr
    have e : es.any q = true := List.any_eq_true.2 ⟨_, List.getElem_mem hi, h1⟩
    have e2 : decide ((0 : Int) ≤ (i : Int)) = true := by simp
    refine x (r_geq rfl rfl) <| x r_assign <| xe ?_
    exact W_ret ⟨[.bool (decide ((0 : Int) ≤ (i : Int)))], ⟨rfl, trivial⟩, by rw [e, e2]; rfl, hs1⟩

/-! ### automaton.next -/
theorem nxt_out (es : List Ed) (s v : Int) : nxt es s v = nxt (outE es s) s v := by
  induction es with
  | nil => rfl
  | cons e es ih =>
    unfold outE at *
    rw [List.filter_cons]
    by_cases h : e.1 = s
    · rw [if_pos (by simpa using h), nxt, nxt, ih]
    · rw [if_neg (by simpa using h), nxt, if_neg (fun c => h c.1), ih]
theorem nxt_at : ∀ (l : List Ed) (s v : Int) (i : Nat) (hi : i < l.length), (∀ e ∈ l, e.1 = s) → (l[i]'hi).2.1 = v → (∀ m (hm : m < i), (l[m]'(by omega)).2.1 ≠ v) → nxt l s v = (l[i]'hi).2.2
  | e :: l, s, v, 0, _, hs, hv, _ => by rw [nxt, if_pos ⟨hs e List.mem_cons_self, hv⟩]; rfl
  | e :: l, s, v, i + 1, hi, hs, hv, hm => by
    rw [nxt, if_neg (fun c => hm 0 (by omega) c.2)]
    exact nxt_at l s v i (by simpa using hi) (fun e he => hs e (List.mem_cons_of_mem _ he)) hv (fun m hm' => hm (m + 1) (by omega))
theorem nxt_no : ∀ (l : List Ed) (s v : Int), (∀ e ∈ l, e.2.1 ≠ v) → nxt l s v = -1
  | [], _, _, _ => rfl
  | e :: l, s, v, h => by rw [nxt, if_neg (fun c => h e List.mem_cons_self c.2)]; exact nxt_no l s v (fun e he => h e (List.mem_cons_of_mem _ he))
theorem next1_ok {b T : Nat} {n : Int} (e : Ed) (w : World) (hB : Blk w.heap b T [.int .i64 n]) :
    Ret Tryd.prog 107 ([.agg (edCells e).toArray] ++ [.pointer (some ⟨b, 0, none⟩)]) w fun r w' => r = .bool (decide (e.2.1 = n)) ∧ Step [] w w' := by
  refine Ret.of_W Tryd.func107 rfl Tryd.ntmps107 Tryd.results107 (by simp) ?_
  refine W_seq <| W_region (by rfl) ?_
  refine xl rfl <| o_box (us := edCells e) rfl fun b2 w1 hs1 hb2 hB2 => x r_assign <| xe ?_
  refine W_seq <| W_region (by rfl) ?_
  refine x (r_fieldB rfl) <| x (r_loadB hB2 rfl rfl) <| x (r_loadB (hB.ext hs1) rfl rfl) <| x (r_eql rfl rfl) <| x r_assign <| xe ?_
  exact W_ret ⟨[_], ⟨rfl, trivial⟩, rfl, hs1⟩
theorem anext_ok {L : List Nat} {w : World} {va vm ve : Value} {st : Int} {a : Aut} (h : Eds L w.heap ve a.ed) (ho : Okay a) (s v : Int) (hs0 : 0 ≤ s) (hs1 : s < a.st) :
    Ret Tryd.prog 101 [.agg #[va, .int .i64 st, vm, ve], .int .i64 s, .int .i64 v] w fun r w' => r = .int .i64 (nxt a.ed s v) ∧ Step [] w w' := by
  have hst := ho.st1
  refine Ret.of_W Tryd.func101 rfl Tryd.ntmps101 Tryd.results101 (by simp) ?_
  refine W_seq <| W_region (by rfl) ?_
  refine xl rfl <| o_box (us := [va, .int .i64 st, vm, ve]) rfl fun b3 w1 hs1 hb3 hB3 => xl rfl <| o_box (us := [.int .i64 v]) rfl fun b5 w2 hs2 hb5 hB5 => x r_assign <| xe ?_
  refine W_seq <| W_region (by rfl) ?_
  refine x (r_loadsB (hB3.ext hs2) rfl rfl) <| x r_move <| xl rfl <| xf <| (out_ok ((h.ext hs1).ext hs2) ho.eds (fun e he => ⟨(ho.ed e he).1, by have := (ho.ed e he).2.1; omega⟩) s hs0 (by omega)).mono ?_
  rintro vo w3 ⟨hs3, hE⟩
  refine x r_assign <| xe ?_
  have hall : ∀ e ∈ outE a.ed s, e.1 = s := fun e he => (outE_mem he).2
  rw [nxt_out]
  refine W_seq <| W_region (by rfl) ?_
  refine x r_move <| x (r_makeFunc (l := []) (l' := [.tmp 5])) <| xl rfl <| xf <| (ixfE_ok (q := fun e => decide (e.2.1 = v)) (cap := [.pointer (some ⟨b5, 0, none⟩)]) hE (fun e w4 hs4 => next1_ok e w4 ((hB5.ext hs3).ext hs4))).mono ?_
  rintro r4 w4 ⟨hs4, hr⟩
  have hW := ((hs1.trans hs2).trans hs3).trans hs4
  refine Or.elim hr (fun hr => ?_) (fun hr => ?_)
  · obtain ⟨rfl, hq⟩ := hr
    have e1 : nxt (outE a.ed s) s v = -1 := nxt_no _ _ _ fun e he => by
      obtain ⟨i, hi, rfl⟩ := List.getElem_of_mem he
      simpa using hq i hi
    rw [e1]
    refine x r_assign <| xe ?_
    refine W_seq <| W_seq <| W_region (by rfl) ?_
    refine x r_move <| x (r_lss rfl rfl) <| xe ?_
    refine W_true rfl ?_
    refine W_seq <| W_region (by rfl) ?_
    refine x r_assign <| xe ?_
    exact W_ret ⟨[.int .i64 (-1)], ⟨rfl, trivial⟩, rfl, hW⟩
  · obtain ⟨i, hi, rfl, h1, h2⟩ := hr
    have e1 : nxt (outE a.ed s) s v = ((outE a.ed s)[i]'hi).2.2 := nxt_at _ s v i hi hall (by simpa using h1) (fun m hm => by simpa using h2 m hm)
    rw [e1]
    refine x r_assign <| xe ?_
    refine W_seq <| W_seq <| W_region (by rfl) ?_
    refine x r_move <| x (r_lss rfl rfl) <| xe ?_
    refine W_if rfl (fun h16 => absurd h16 (by omega)) (fun h16 => ?_)
    refine W_skip ?_
    refine W_seq <| W_region (by rfl) ?_
    refine x r_move <| x r_move <| xie (hE.ext hs4) rfl rfl hi fun a19 h19 => x (r_field rfl) <| x (r_loadA (h19.fld 2 _ rfl) rfl) <| x r_assign <| xe ?_
    exact W_ret ⟨[_], ⟨rfl, trivial⟩, rfl, hW⟩

/-! ### follow -/
def flw (a : Aut) : Int → List Int → Int × Nat
  | s, [] => (s, 0)
  | s, v :: u => if nxt a.ed s v < 0 then (s, 0) else ((flw a (nxt a.ed s v) u).1, (flw a (nxt a.ed s v) u).2 + 1)
theorem flw_le (a : Aut) : ∀ (u : List Int) (s : Int), (flw a s u).2 ≤ u.length
  | [], s => by simp [flw]
  | v :: u, s => by
    rw [flw]
    split
    · simp
    · have := flw_le a u (nxt a.ed s v); simp; omega
theorem nxt_lt {a : Aut} (ho : Okay a) {s v : Int} (h : ¬ nxt a.ed s v < 0) : nxt a.ed s v < a.st := (ho.ed _ (nxt_mem (by omega))).2.2.2.2
theorem follow_ok {L L' : List Nat} {w : World} {va vm ve vw : Value} {st : Int} {a : Aut} {u : List Int} (h : Eds L w.heap ve a.ed) (hw : Ints L' w.heap vw u) (ho : Okay a) (s : Int) (hs0 : 0 ≤ s) (hs1 : s < a.st) :
    Ret Tryd.prog 86 [.agg #[va, .int .i64 st, vm, ve], .int .i64 s, vw] w fun r w' => r = .tuple #[.int .i64 (flw a s u).1, .int .i64 (flw a s u).2] ∧ Step [] w w' := by
  have hle := hw.le
  refine Ret.of_W Tryd.func86 rfl Tryd.ntmps86 Tryd.results86 (by simp) ?_
  refine W_seq <| W_region (by rfl) ?_
  refine xl rfl <| o_box (us := [va, .int .i64 st, vm, ve]) rfl fun b3 w1 hs1 hb3 hB3 => x r_assign <| x r_assign <| xe ?_
  refine W_seq <| W_seq <| W_region (by rfl) ?_
  refine x r_move <| x (r_lenA hw rfl) <| x r_move <| xe ?_
  refine W_block <| W_loop (α := Nat × Int) [(1, 1), (6, 10), (13, 27)] (fun z => [(1, .int .i64 z.2), (13, .int .i64 z.1)]) (fun z w' => z.1 ≤ u.length ∧ 0 ≤ z.2 ∧ z.2 < a.st ∧ Step [] w1 w' ∧ flw a s u = ((flw a z.2 (u.drop z.1)).1, (flw a z.2 (u.drop z.1)).2 + z.1)) (fun z => u.length - z.1) (by rfl) (0, s) ⟨rfl, rfl, trivial⟩ ⟨Nat.zero_le _, hs0, by assumption, Step.refl _ _, by simp⟩ ?_
  rintro ⟨k, t⟩ g w2 ⟨hk, ht0, ht1, hs2, hf⟩
  simp only [] at hk ht0 ht1 hf
  have hW2 := hs1.trans hs2
  refine W_seq <| W_region (by rfl) ?_
  refine x (r_lss rfl rfl) <| xe ?_
  refine W_seq <| W_ifn rfl (fun h14 => ?_) (fun h14 => ?_)
  · refine W_exit ?_
    refine W_seq <| W_region (by rfl) ?_
    refine x r_move <| x r_move <| x (r_lenA hw rfl) <| x r_assign <| x r_assign <| xe ?_
    rw [List.drop_of_length_le (by omega)] at hf
    have hk2 : k = u.length := by have h15 : ¬ (k : Int) < (u.length : Int) := h14; omega
    refine W_ret ⟨[.int .i64 t, .int .i64 u.length], ⟨rfl, rfl, trivial⟩, ?_, hW2⟩
    rw [hf, hk2]
    simp [flw, tup]
  have hlt : k < u.length := by omega
  rw [drop_cons hlt, flw] at hf
  refine W_skip ?_
  refine W_seq <| W_block <| W_seq <| W_region (by rfl) ?_
  refine x r_move <| xii (hw.ext hW2) rfl rfl hlt fun a16 h16 => x (r_loadA h16 rfl) <| x r_assign <| x r_assign <| xe ?_
  refine W_seq <| W_region (by rfl) ?_
  refine x (r_loadsB (hB3.ext hs2) rfl rfl) <| x r_move <| x r_move <| xl rfl <| xf <| (anext_ok (h.ext hW2) ho t (u[k]'hlt) ht0 ht1).mono ?_
  rintro r3 w3 ⟨rfl, hs3⟩
  refine x r_assign <| xe ?_
  refine W_seq <| W_seq <| W_region (by rfl) ?_
  refine x r_move <| x (r_lss rfl rfl) <| xe ?_
  refine W_if rfl (fun h23 => ?_) (fun h23 => ?_)
  · rw [if_pos h23] at hf
    refine W_seq <| W_region (by rfl) ?_
    refine x r_move <| x r_move <| x r_assign <| x r_assign <| xe ?_
    refine W_ret ⟨[.int .i64 t, .int .i64 k], ⟨rfl, rfl, trivial⟩, ?_, hW2.trans hs3⟩
    rw [hf]
    simp [tup]
  rw [if_neg h23] at hf
  have hn := nxt_lt ho h23
  refine W_skip ?_
  refine W_region (by rfl) ?_
  refine x r_move <| x r_assign <| xe ?_
  refine W_region (by rfl) ?_
  refine x (r_add rfl rfl ⟨by omega, by omega⟩) <| x r_move <| xe ?_
  refine ⟨(k + 1, nxt a.ed t (u[k]'hlt)), by simp only []; omega, ⟨rfl, rfl, trivial⟩, hlt, by simp only []; omega, hn, hs2.trans hs3, ?_⟩
  simp only []
  rw [hf]
  simp; omega
/-! ### reached, Generates, Accepts -/
def rchd (a : Aut) (u : List Int) : Int × Bool := if a.st = 0 then (0, false) else ((flw a 0 u).1, decide (((flw a 0 u).2 : Int) = (u.length : Int)))
theorem reached_ok {L L' : List Nat} {w : World} {va vm ve vw : Value} {a : Aut} {u : List Int} (h : Eds L w.heap ve a.ed) (hw : Ints L' w.heap vw u) (ho : Okay a) :
    Ret Tryd.prog 82 [.agg #[va, .int .i64 a.st, vm, ve], vw] w fun r w' => r = .tuple #[.int .i64 (rchd a u).1, .bool (rchd a u).2] ∧ Step [] w w' := by
  have h0 := ho.st0
  refine Ret.of_W Tryd.func82 rfl Tryd.ntmps82 Tryd.results82 (by simp) ?_
  refine W_seq <| W_region (by rfl) ?_
  refine xl rfl <| o_box (us := [va, .int .i64 a.st, vm, ve]) rfl fun b2 w1 hs1 hb2 hB2 => x r_assign <| x r_assign <| xe ?_
  refine W_seq <| W_seq <| W_region (by rfl) ?_
  refine x (r_fieldB rfl) <| x (r_loadB hB2 rfl rfl) <| x (r_eql rfl rfl) <| xe ?_
  unfold rchd
  refine W_if rfl (fun h10 => ?_) (fun h10 => ?_)
  · refine W_seq <| W_region (by rfl) ?_
    refine x r_assign <| x r_assign <| xe ?_
    exact W_ret ⟨[.int .i64 0, .bool false], ⟨rfl, rfl, trivial⟩, by rw [if_pos h10]; rfl, hs1⟩
  rw [if_neg h10]
  refine W_skip ?_
  refine W_seq <| W_region (by rfl) ?_
  refine x (r_loadsB hB2 rfl rfl) <| x r_move <| xl rfl <| xf <| (follow_ok (h.ext hs1) (hw.ext hs1) ho 0 (by omega) (by omega)).mono ?_
  rintro r2 w2 ⟨rfl, hs2⟩
  refine x r_move <| x (r_extract rfl rfl) <| x (r_extract rfl rfl) <|
    x r_assign <| x r_assign <| xe ?_
  refine W_seq <| W_region (by rfl) ?_
  refine x r_move <| x r_move <| x r_move <| x (r_lenA hw rfl) <| x (r_eql rfl rfl) <| x r_assign <| x r_assign <| xe ?_
  exact W_ret ⟨[_, _], ⟨rfl, rfl, trivial⟩, rfl, hs1.trans hs2⟩
def gens (a : Aut) (u : List Int) : Bool := if ckA a ≠ 0 then false else (rchd a u).2
theorem Generates_ok {L L' : List Nat} {w : World} {va vm ve vw : Value} {a : Aut} {u : List Int} (h : AutA L w.heap va vm ve a) (hw : Ints L' w.heap vw u) :
    Ret Tryd.prog 57 [.agg #[va, .int .i64 a.st, vm, ve], vw] w fun r w' => r = .tuple #[.bool (gens a u), .int .i64 (ckA a)] ∧ Step [] w w' := by
  refine Ret.of_W Tryd.func57 rfl Tryd.ntmps57 Tryd.results57 (by simp) ?_
  refine W_seq <| W_region (by rfl) ?_
  refine xl rfl <| o_box (us := [va, .int .i64 a.st, vm, ve]) rfl fun b2 w1 hs1 hb2 hB2 => x r_assign <| x r_assign <| xe ?_
  refine W_seq <| W_seq <| W_region (by rfl) ?_
  refine x (r_loadsB hB2 rfl rfl) <| xl rfl <| xf <| (check_ok (h.ext hs1)).mono ?_
  rintro r2 w2 ⟨rfl, hs2⟩
  refine x r_assign <| xe ?_
  refine W_seq <| W_region (by rfl) ?_
  refine x r_move <| x (r_neq rfl rfl) <| xe ?_
  unfold gens
  refine W_if rfl (fun h12 => ?_) (fun h12 => ?_)
  · refine W_seq <| W_region (by rfl) ?_
    refine x r_move <| x r_assign <| x r_assign <| xe ?_
    exact W_ret ⟨[_, _], ⟨rfl, rfl, trivial⟩, by rw [if_pos h12]; rfl, hs1.trans hs2⟩
  have hc : ckA a = 0 := Decidable.not_not.1 h12
  rw [if_neg h12, hc]
  have hs12 := hs1.trans hs2
  refine W_skip ?_
  refine W_seq <| W_region (by rfl) ?_
  refine x (r_loadsB (hB2.ext hs2) rfl rfl) <| x r_move <| xl rfl <| xf <| (reached_ok (h.ed.ext hs12) (hw.ext hs12) ((ckA_zero a).1 hc)).mono ?_
  rintro r3 w3 ⟨rfl, hs3⟩
  refine x r_move <| x (r_extract rfl rfl) <|
    x (r_extract rfl rfl) <| x r_assign <| x r_assign <| xe ?_
  refine W_seq <| W_region (by rfl) ?_
  refine x r_move <| x r_assign <| x r_assign <| xe ?_
  exact W_ret ⟨[_, _], ⟨rfl, rfl, trivial⟩, rfl, hs12.trans hs3⟩
def accs (a : Aut) (u : List Int) : Bool := if ckA a ≠ 0 then false else (rchd a u).2 && decide ((rchd a u).1 ∈ a.mr)
theorem Accepts_ok {L L' : List Nat} {w : World} {va vm ve vw : Value} {a : Aut} {u : List Int} (h : AutA L w.heap va vm ve a) (hw : Ints L' w.heap vw u) :
    Ret Tryd.prog 62 [.agg #[va, .int .i64 a.st, vm, ve], vw] w fun r w' => r = .tuple #[.bool (accs a u), .int .i64 (ckA a)] ∧ Step [] w w' := by
  refine Ret.of_W Tryd.func62 rfl Tryd.ntmps62 Tryd.results62 (by simp) ?_
  refine W_seq <| W_region (by rfl) ?_
  refine xl rfl <| o_box (us := [va, .int .i64 a.st, vm, ve]) rfl fun b2 w1 hs1 hb2 hB2 => x r_assign <| x r_assign <| xe ?_
  refine W_seq <| W_seq <| W_region (by rfl) ?_
  refine x (r_loadsB hB2 rfl rfl) <| xl rfl <| xf <| (check_ok (h.ext hs1)).mono ?_
  rintro r2 w2 ⟨rfl, hs2⟩
  refine x r_assign <| xe ?_
  refine W_seq <| W_region (by rfl) ?_
  refine x r_move <| x (r_neq rfl rfl) <| xe ?_
  unfold accs
  refine W_if rfl (fun h12 => ?_) (fun h12 => ?_)
  · refine W_seq <| W_region (by rfl) ?_
    refine x r_move <| x r_assign <| x r_assign <| xe ?_
    exact W_ret ⟨[_, _], ⟨rfl, rfl, trivial⟩, by rw [if_pos h12]; rfl, hs1.trans hs2⟩
  have hc : ckA a = 0 := Decidable.not_not.1 h12
  rw [if_neg h12, hc]
  have hs12 := hs1.trans hs2
  refine W_skip ?_
  refine W_seq <| W_region (by rfl) ?_
  refine x (r_loadsB (hB2.ext hs2) rfl rfl) <| x r_move <| xl rfl <| xf <| (reached_ok (h.ed.ext hs12) (hw.ext hs12) ((ckA_zero a).1 hc)).mono ?_
  rintro r3 w3 ⟨hr3, hs3⟩
  have hs13 := hs12.trans hs3
  have hB23 := (hB2.ext hs2).ext hs3
  refine exE (rchd a u) fun z hz => ?_
  rw [hz] at hr3 ⊢
  obtain ⟨t, b⟩ := z
  subst hr3
  refine x r_move <| x (r_extract rfl rfl) <|
    x (r_extract rfl rfl) <| x r_assign <| x r_assign <| xe ?_
  cases b with
  | false =>
    refine W_seq <| W_region (by rfl) ?_
    refine x r_move <| x r_move <| xs rfl <| xs rfl <| xs rfl <| xs rfl <|
      x (r_pick rfl) <| x r_assign <| x r_assign <| xe ?_
    exact W_ret ⟨[_, _], ⟨rfl, rfl, trivial⟩, rfl, hs13⟩
  | true =>
    refine W_seq <| W_region (by rfl) ?_
    refine x r_move <| x r_move <| x (r_fieldB rfl) <| x (r_loadB hB23 rfl rfl) <| x r_move <| xl rfl <| xf <| (contains_ok (h.mr.ext hs13) t).mono ?_
    rintro r4 w4 ⟨rfl, rfl⟩
    refine x (r_pick rfl) <| x r_assign <| x r_assign <| xe ?_
    exact W_ret ⟨[_, _], ⟨rfl, rfl, trivial⟩, rfl, hs13⟩
end Go.Proofs.YtfhgnlkdcdlblaaDoor
/- Contracts: automaton.checkState, Run, Enabled; product.checkTuple, checkEvent, Step. -/
namespace Go.Proofs.YtfhgnlkdcdlblaaDoor
open Go.Lg

def cks (a : Aut) (s : Int) : Int := if ckA a ≠ 0 then ckA a else if s < 0 ∨ a.st ≤ s then 2 else 0
theorem checkState_ok {L : List Nat} {w : World} {va vm ve : Value} {a : Aut} (h : AutA L w.heap va vm ve a) (s : Int) :
    Ret Tryd.prog 83 [.agg #[va, .int .i64 a.st, vm, ve], .int .i64 s] w fun r w' => r = .int .i64 (cks a s) ∧ Step [] w w' := by
  refine Ret.of_W Tryd.func83 rfl Tryd.ntmps83 Tryd.results83 (by simp) ?_
  refine W_seq <| W_region (by rfl) ?_
  refine xl rfl <| o_box (us := [va, .int .i64 a.st, vm, ve]) rfl fun b2 w1 hs1 hb2 hB2 => x r_assign <| xe ?_
  refine W_seq <| W_seq <| W_region (by rfl) ?_
  refine x (r_loadsB hB2 rfl rfl) <| xl rfl <| xf <| (check_ok (h.ext hs1)).mono ?_
  rintro r2 w2 ⟨rfl, hs2⟩
  refine x r_assign <| xe ?_
  unfold cks
  have hs12 := hs1.trans hs2
  refine W_seq <| W_region (by rfl) ?_
  refine x r_move <| x (r_neq rfl rfl) <| xe ?_
  refine W_if rfl (fun h9 => ?_) (fun h9 => ?_)
  · refine W_seq <| W_region (by rfl) ?_
    refine x r_move <| x r_assign <| xe ?_
    exact W_ret ⟨[_], ⟨rfl, trivial⟩, by rw [if_pos h9]; rfl, hs12⟩
  rw [if_neg h9]
  refine W_skip ?_
  refine W_seq <| W_cut (α := Unit) [(11, 18)] (fun z => [(18, .bool (decide (s < 0 ∨ a.st ≤ s)))]) (fun z w' => w' = w2) (by rfl) ?_ ?_
  · refine W_region (by rfl) ?_
    refine x r_move <| xb (r_lss rfl rfl) (fun h12 => ?_) (fun h12 => ?_)
    · refine x r_move <| xs rfl <| xs rfl <| xs rfl <| xs rfl <| x (r_pick rfl) <| xe ?_
      exact ⟨(), ⟨by rw [decide_eq_true (Or.inl h12)]; rfl, trivial⟩, rfl⟩
    refine x r_move <| x r_move <| x (r_fieldB rfl) <| x (r_loadB (hB2.ext hs2) rfl rfl) <| x (r_geq rfl rfl) <| x (r_pick rfl) <| xe ?_
    exact ⟨(), ⟨by show Value.bool (decide (a.st ≤ s)) = _; simp [h12], trivial⟩, rfl⟩
  rintro z g w3 rfl
  refine W_if rfl (fun h18 => ?_) (fun h18 => ?_)
  · refine W_seq <| W_region (by rfl) ?_
    refine x r_assign <| xe ?_
    exact W_ret ⟨[_], ⟨rfl, trivial⟩, by rw [if_pos h18]; rfl, hs12⟩
  refine W_skip ?_
  refine W_seq <| W_region (by rfl) ?_
  refine x r_assign <| xe ?_
  exact W_ret ⟨[_], ⟨rfl, trivial⟩, by rw [if_neg h18]; rfl, hs12⟩
theorem cks_zero {a : Aut} {s : Int} (h : cks a s = 0) : Okay a ∧ 0 ≤ s ∧ s < a.st := by
  unfold cks at h
  split at h
  · rename_i h1; exact absurd h h1
  · rename_i h1
    split at h
    · cases h
    · rename_i h2; exact ⟨(ckA_zero a).1 (Decidable.not_not.1 h1), by omega, by omega⟩
theorem cks_ok {a : Aut} (ho : Okay a) {s : Int} (h0 : 0 ≤ s) (h1 : s < a.st) : cks a s = 0 := by
  unfold cks
  rw [if_neg (by simpa using (ckA_zero a).2 ho), if_neg (by omega)]

theorem run1_ok {L : List Nat} {b T : Nat} {va : Value} {al : List Int} {us : List Value} (e : Int) (w : World) (hB : Blk w.heap b T (va :: us)) (hA : Ints L w.heap va al) :
    Ret Tryd.prog 85 ([.int .i64 e] ++ [.pointer (some ⟨b, 0, none⟩)]) w fun r w' => r = .bool (decide (e ∉ al)) ∧ Step [] w w' := by
  refine Ret.of_W Tryd.func85 rfl Tryd.ntmps85 Tryd.results85 (by simp) ?_
  refine W_seq <| W_region (by rfl) ?_
  refine x r_assign <| xe ?_
  refine W_seq <| W_region (by rfl) ?_
  refine x (r_fieldB rfl) <| x (r_loadB hB rfl rfl) <| x r_move <| xl rfl <| xf <| (contains_ok hA e).mono ?_
  rintro r1 w1 ⟨rfl, rfl⟩
  refine x (r_not rfl) <| x r_assign <| xe ?_
  refine W_ret ⟨[_], ⟨rfl, trivial⟩, ?_, Step.refl _ _⟩
  show Value.bool (!decide (e ∈ al)) = _
  rw [decide_not]
def runE (a : Aut) (s : Int) (u : List Int) : Int := if cks a s ≠ 0 then cks a s else if (u.any fun e => decide (e ∉ a.al)) = true then 9 else 0
theorem Run_ok {L L' : List Nat} {w : World} {va vm ve vw : Value} {a : Aut} {u : List Int} (h : AutA L w.heap va vm ve a) (hw : Ints L' w.heap vw u) (s : Int) :
    Ret Tryd.prog 58 [.agg #[va, .int .i64 a.st, vm, ve], .int .i64 s, vw] w fun r w' => Step [] w w' ∧ r = if runE a s u ≠ 0 then .tuple #[.int .i64 0, .int .i64 0, .int .i64 (runE a s u)] else .tuple #[.int .i64 (flw a s u).1, .int .i64 (flw a s u).2, .int .i64 0] := by
  refine Ret.of_W Tryd.func58 rfl Tryd.ntmps58 Tryd.results58 (by simp) ?_
  refine W_seq <| W_region (by rfl) ?_
  refine xl rfl <| o_box (us := [va, .int .i64 a.st, vm, ve]) rfl fun b3 w1 hs1 hb3 hB3 => x r_assign <| x r_assign <| x r_assign <| xe ?_
  refine W_seq <| W_seq <| W_region (by rfl) ?_
  refine x (r_loadsB hB3 rfl rfl) <| x r_move <| xl rfl <| xf <| (checkState_ok (h.ext hs1) s).mono ?_
  rintro r2 w2 ⟨rfl, hs2⟩
  refine x r_assign <| xe ?_
  have hs12 := hs1.trans hs2
  unfold runE
  refine W_seq <| W_region (by rfl) ?_
  refine x r_move <| x (r_neq rfl rfl) <| xe ?_
  refine W_if rfl (fun h13 => ?_) (fun h13 => ?_)
  · refine W_seq <| W_region (by rfl) ?_
    refine x r_move <| x r_assign <| x r_assign <| x r_assign <| xe ?_
    exact W_ret ⟨[_, _, _], ⟨rfl, rfl, rfl, trivial⟩, hs12, by rw [if_pos h13, if_pos h13]; rfl⟩
  have hc : cks a s = 0 := Decidable.not_not.1 h13
  obtain ⟨ho, h0, h1⟩ := cks_zero hc
  rw [if_neg h13]
  refine W_skip ?_
  refine W_seq <| W_seq <| W_region (by rfl) ?_
  refine x r_move <| x (r_makeFunc (l := []) (l' := [.tmp 3])) <| xl rfl <| xf <| (cnfI_ok (q := fun e => decide (e ∉ a.al)) (cap := [.pointer (some ⟨b3, 0, none⟩)]) (hw.ext hs12) (fun e w4 hs4 => run1_ok e w4 ((hB3.ext hs2).ext hs4) ((h.al.ext hs12).ext hs4))).mono ?_
  rintro r3 w3 ⟨rfl, hs3⟩
  refine xe ?_
  have hs13 := hs12.trans hs3
  refine W_cond rfl (fun h17 => ?_) (fun h17 => ?_)
  · rw [if_pos h17]
    refine W_seq <| W_region (by rfl) ?_
    refine x r_assign <| x r_assign <| x r_assign <| xe ?_
    exact W_ret ⟨[_, _, _], ⟨rfl, rfl, rfl, trivial⟩, hs13, by rw [if_pos (by decide)]; rfl⟩
  rw [if_neg (by rw [h17]; simp)]
  refine W_skip ?_
  refine W_seq <| W_region (by rfl) ?_
  refine x (r_loadsB ((hB3.ext hs2).ext hs3) rfl rfl) <| x r_move <| x r_move <| xl rfl <| xf <| (follow_ok (h.ed.ext hs13) (hw.ext hs13) ho s h0 h1).mono ?_
  rintro r4 w4 ⟨rfl, hs4⟩
  refine x r_move <| x (r_extract rfl rfl) <|
    x (r_extract rfl rfl) <| x r_assign <| x r_assign <| xe ?_
  refine W_seq <| W_region (by rfl) ?_
  refine x r_move <| x r_move <| x r_assign <| x r_assign <| x r_assign <| xe ?_
  exact W_ret ⟨[_, _, _], ⟨rfl, rfl, rfl, trivial⟩, hs13.trans hs4, rfl⟩

/-! ### Enabled -/
def enb (a : Aut) (s : Int) : List Int := (outE a.ed s).map (·.2.1)
theorem enb_take {l : List Ed} {k : Nat} (h : k < l.length) : (l.take (k + 1)).map (·.2.1) = (l.take k).map (·.2.1) ++ [(l[k]'h).2.1] := by
  rw [List.take_add_one, List.getElem?_eq_getElem h, List.map_append]; rfl
theorem Enabled_ok {L : List Nat} {w : World} {va vm ve : Value} {a : Aut} (h : AutA L w.heap va vm ve a) (s : Int) :
    Ret Tryd.prog 59 [.agg #[va, .int .i64 a.st, vm, ve], .int .i64 s] w fun r w' => Step [] w w' ∧ ∃ v, r = .tuple #[v, .int .i64 (cks a s)] ∧ (cks a s ≠ 0 → v = nilS) ∧ (cks a s = 0 → IntsO 3 w.heap.size w' v (enb a s)) := by
  refine Ret.of_W Tryd.func59 rfl Tryd.ntmps59 Tryd.results59 (by simp) ?_
  refine W_seq <| W_region (by rfl) ?_
  refine xl rfl <| o_box (us := [va, .int .i64 a.st, vm, ve]) rfl fun b2 w1 hs1 hb2 hB2 => x r_assign <| x r_assign <| xe ?_
  refine W_seq <| W_seq <| W_region (by rfl) ?_
  refine x (r_loadsB hB2 rfl rfl) <| x r_move <| xl rfl <| xf <| (checkState_ok (h.ext hs1) s).mono ?_
  rintro r2 w2 ⟨rfl, hs2⟩
  refine x r_assign <| xe ?_
  have hs12 := hs1.trans hs2
  refine W_seq <| W_region (by rfl) ?_
  refine x r_move <| x (r_neq rfl rfl) <| xe ?_
  refine W_if rfl (fun h14 => ?_) (fun h14 => ?_)
  · refine W_seq <| W_region (by rfl) ?_
    refine x r_move <| x r_assign <| x r_assign <| xe ?_
    exact W_ret ⟨[nilS, _], ⟨rfl, rfl, trivial⟩, hs12, nilS, rfl, fun _ => rfl, fun e => absurd e h14⟩
  have hc : cks a s = 0 := Decidable.not_not.1 h14
  obtain ⟨ho, h0, h1⟩ := cks_zero hc
  have hst := ho.st1
  rw [hc]
  refine W_skip ?_
  refine W_seq <| W_region (by rfl) ?_
  refine x r_assign <| xe ?_
  refine W_seq <| W_seq <| W_region (by rfl) ?_
  refine x (r_loadsB (hB2.ext hs2) rfl rfl) <| x r_move <| xl rfl <| xf <| (out_ok (h.ed.ext hs12) ho.eds (fun e he => ⟨(ho.ed e he).1, by have := (ho.ed e he).2.1; omega⟩) s h0 (by omega)).mono ?_
  rintro vo w3 ⟨hs3, hE⟩
  refine x (r_lenA hE rfl) <| x r_move <| xe ?_
  have hW3 := hs12.trans hs3
  have hz3 := hW3.size
  have hlen := outE_len a.ed s
  have hel := ho.ed_le
  refine exE (outE a.ed s) fun os hos => ?_
  rw [hos] at hE hlen
  refine W_block <| W_loop (α := Nat × Value) [(7, 7), (9, 9), (20, 29)] (fun z => [(7, z.2), (20, .int .i64 z.1)]) (fun z w' => z.1 ≤ os.length ∧ Step [] w3 w' ∧ IntsO 3 w3.heap.size w' z.2 ((os.take z.1).map (·.2.1))) (fun z => os.length - z.1) (by rfl) (0, .slice none 0 0) ⟨rfl, by rw [hos]; rfl, trivial⟩ ⟨Nat.zero_le _, Step.refl _ _, own_nil _ _ _ _⟩ ?_
  rintro ⟨k, v⟩ g w4 ⟨hk, hs4, ho4⟩
  simp only [] at hk ho4
  have hz4 := hs4.size
  refine W_seq <| W_region (by rfl) ?_
  refine x (r_lss rfl rfl) <| xe ?_
  refine W_seq <| W_ifn rfl (fun h21 => ?_) (fun h21 => ?_)
  · refine W_exit ?_
    refine W_seq <| W_region (by rfl) ?_
    refine x r_move <| x r_assign <| x r_assign <| xe ?_
    rw [List.take_of_length_le (by rw [hos] at h21; omega)] at ho4
    refine W_ret ⟨[v, _], ⟨rfl, rfl, trivial⟩, hW3.trans hs4, v, rfl, fun e => absurd rfl e, fun _ => ?_⟩
    unfold enb
    rw [hos]; exact own_base ho4 hz3
  have hlt : k < os.length := by rw [hos] at h21; omega
  refine W_skip ?_
  refine W_seq <| W_block <| W_seq <| W_region (by rfl) ?_
  refine xie (hE.ext hs4) rfl rfl hlt fun a22 h22 => x (r_loadsA h22 rfl rfl) <| xl rfl <| o_alloc (us := [.int .i64 0, .int .i64 0, .int .i64 0]) rfl fun b9 w5 hs5 hb9 hB9 => xl rfl <| o_stores (us := edCells (os[k]'hlt)) hB9 rfl rfl rfl rfl ⟨rfl, rfl, rfl, trivial⟩ fun w6 hs6 hB96 =>
    xe ?_
  have hs46 : Step [] w4 w6 := hs5.then1 hs6 hb9
  have ho6 := own_ext ho4 hs46
  refine W_region (by rfl) ?_
  refine x r_move <| x (r_fieldB rfl) <| x (r_loadB hB96 rfl rfl) <| xl rfl <| o_lits (us := [[.int .i64 (os[k]'hlt).2.1]]) rfl rfl (by decide) (by simp) ⟨rfl, rfl, trivial⟩ fun b27 w7 hs7 hb27 hB27 => ?_
  have ho7 := own_ext ho6 hs7
  have hz7 := (hs46.trans hs7).size
  have htl : ((os.take k).map (·.2.1)).length ≤ 131072 := by simp; omega
  refine xl rfl <| o_app (news := [.int .i64 (os[k]'hlt).2.1]) (L := []) ho7 rfl rfl rfl (hB27.at (by simp)) (by simp [Value.oneCell']) (by omega) (by omega) fun v8 w8 ho8 hs8 hn8 => x r_assign <| xe ?_
  have hge := own_ge ho4
  refine W_region (by rfl) ?_
  refine x (r_add rfl rfl ⟨by omega, by omega⟩) <| x r_move <| xe ?_
  refine ⟨(k + 1, v8), by simp only []; omega, ⟨rfl, rfl, trivial⟩, hlt, ((hs4.trans hs46).trans hs7).then hs8 (fun b hb => .inr (hge b hb).1), ?_⟩
  simp only []
  rw [enb_take hlt]
  exact IntsO.snoc ho8

/-! ### product.checkTuple, checkEvent, Step -/
def ckTL : List Aut → List Int → Int
  | a :: l, t :: ts => if t < 0 ∨ a.st ≤ t then 2 else ckTL l ts
  | _, _ => 0
def ckT (l : List Aut) (t : List Int) : Int := if ckP l ≠ 0 then ckP l else if t.length ≠ l.length then 4 else ckTL l t
theorem checkTuple_ok {L L' : List Nat} {w : World} {v vt : Value} {ps : List AV} {ts : List Int} (h : Auts L w.heap v ps) (ht : Ints L' w.heap vt ts) :
    Ret Tryd.prog 88 [v, vt] w fun r w' => r = .int .i64 (ckT (ps.map (·.a)) ts) ∧ Step [] w w' := by
  have hle := Auts.le h
  have hle2 := ht.le
  refine Ret.of_W Tryd.func88 rfl Tryd.ntmps88 Tryd.results88 (by simp) ?_
  refine W_seq <| W_region (by rfl) ?_
  refine x r_assign <| xe ?_
  refine W_seq <| W_seq <| W_region (by rfl) ?_
  refine x r_move <| xl rfl <| xf <| (pCheck_ok h).mono ?_
  rintro r1 w1 ⟨rfl, hs1⟩
  refine x r_assign <| xe ?_
  unfold ckT
  refine W_seq <| W_region (by rfl) ?_
  refine x r_move <| x (r_neq rfl rfl) <| xe ?_
  refine W_if rfl (fun h11 => ?_) (fun h11 => ?_)
  · refine W_seq <| W_region (by rfl) ?_
    refine x r_move <| x r_assign <| xe ?_
    exact W_ret ⟨[_], ⟨rfl, trivial⟩, by rw [if_pos h11]; rfl, hs1⟩
  rw [if_neg h11]
  refine W_skip ?_
  refine W_seq <| W_seq <| W_region (by rfl) ?_
  refine x r_move <| x (r_lenA ht rfl) <| x r_move <| x (r_lenA h.arr rfl) <| x (r_neq rfl rfl) <| xe ?_
  refine W_if rfl (fun h17 => ?_) (fun h17 => ?_)
  · refine W_seq <| W_region (by rfl) ?_
    refine x r_assign <| xe ?_
    exact W_ret ⟨[_], ⟨rfl, trivial⟩, by rw [if_pos (by rw [List.length_map]; omega)]; rfl, hs1⟩
  have hl : ts.length = ps.length := by omega
  rw [if_neg (by rw [List.length_map]; omega)]
  refine W_skip ?_
  refine W_seq <| W_seq <| W_region (by rfl) ?_
  refine x r_move <| x (r_lenA h.arr rfl) <| x r_move <| xe ?_
  refine W_block <| W_loop (α := Nat) [(4, 4), (6, 7), (20, 39)] (fun z => [(20, .int .i64 z)]) (fun z w' => z ≤ ps.length ∧ Step [] w1 w' ∧ ckTL (ps.map (·.a)) ts = ckTL ((ps.drop z).map (·.a)) (ts.drop z)) (fun z => ps.length - z) (by rfl) 0 ⟨rfl, trivial⟩ ⟨Nat.zero_le _, Step.refl _ _, rfl⟩ ?_
  rintro k g w2 ⟨hk, hs2, hr⟩
  have hW2 := hs1.trans hs2
  refine W_seq <| W_region (by rfl) ?_
  refine x (r_lss rfl rfl) <| xe ?_
  refine W_seq <| W_ifn rfl (fun h21 => ?_) (fun h21 => ?_)
  · refine W_exit ?_
    refine W_seq <| W_region (by rfl) ?_
    refine x r_assign <| xe ?_
    refine W_ret ⟨[_], ⟨rfl, trivial⟩, ?_, hW2⟩
    rw [hr, List.drop_of_length_le (by omega)]; rfl
  have hlt : k < ps.length := by omega
  have hlt' : k < ts.length := by omega
  rw [drop_cons hlt, drop_cons hlt', List.map_cons, ckTL] at hr
  have hA := h.each _ (List.getElem_mem hlt)
  refine exE (ps[k]'hlt) fun pk hpk => ?_
  rw [hpk] at hA hr
  refine W_skip ?_
  refine W_seq <| W_block <| W_seq <| W_region (by rfl) ?_
  refine x r_move <| xig av_len (h.arr.ext hW2) rfl rfl hlt fun a23 h23 => ?_
  rw [hpk] at h23
  refine x (r_loadsA h23 rfl rfl) <| xl rfl <| o_alloc (us := [.slice none 0 0, .int .i64 0, .slice none 0 0, .slice none 0 0]) rfl fun b7 w3 hs3 hb7 hB7 => x r_assign <|
    xl rfl <| o_stores (us := avCells pk) hB7 rfl rfl rfl rfl ⟨hA.al.one, rfl, hA.mr.one, hA.ed.one, trivial⟩ fun w4 hs4 hB74 => xe ?_
  have hs24 : Step [] w2 w4 := hs3.then1 hs4 hb7
  have hW4 := hW2.trans hs24
  refine exE (ts[k]'hlt') fun tk htk => ?_
  rw [htk] at hr
  refine W_cut (α := Unit) [(25, 38)] (fun z => [(38, .bool (decide (tk < 0 ∨ pk.a.st ≤ tk)))]) (fun z w' => Step [] w4 w') (by rfl) ?_ ?_
  · refine W_draw (Step [] w4) [(0, true), (1, true), (2, true), (3, true), (4, true), (5, true), (6, true), (7, true), (8, true), (9, true), (10, true), (11, true), (12, true), (13, true)] Tryd.mixed (by rfl) (by kernel_rfl) (Step.drew _ _) ?_
    refine p (fun _ => r_move) <| p (fun _ => r_move) <| pii rfl (ht.ext hW4) rfl rfl hlt' fun a27 h27 => ?_
    rw [htk] at h27
    refine pq (fun _ hc => r_loadA (h27.ext hc) rfl) <|
      pb (fun _ => r_lss rfl rfl) (fun h29 => ?_) (fun h29 => ?_)
    · refine p (fun _ => r_move) <| Lg.ps <| Lg.ps <| Lg.ps <| Lg.ps <| Lg.ps <| Lg.ps <| Lg.ps <| p (fun _ => r_pick rfl) <| pe ?_
      exact ⟨(), ⟨by rw [decide_eq_true (Or.inl h29)]; rfl, trivial⟩, Step.drew _ _⟩
    refine p (fun _ => r_move) <| p (fun _ => r_move) <| p (fun _ => r_move) <| pii rfl (ht.ext hW4) rfl rfl hlt' fun a33 h33 => ?_
    rw [htk] at h33
    refine pq (fun _ hc => r_loadA (h33.ext hc) rfl) <|
      p (fun _ => r_fieldB rfl) <| pq (fun _ hc => r_loadB (hB74.ext hc) rfl rfl) <| p (fun _ => r_geq rfl rfl) <| p (fun _ => r_pick rfl) <| pe ?_
    exact ⟨(), ⟨by show Value.bool (decide (pk.a.st ≤ tk)) = _; simp [h29], trivial⟩, Step.drew _ _⟩
  rintro z g w5 hs5
  refine W_if rfl (fun h38 => ?_) (fun h38 => ?_)
  · refine W_seq <| W_region (by rfl) ?_
    refine x r_assign <| xe ?_
    exact W_ret ⟨[_], ⟨rfl, trivial⟩, by rw [hr, if_pos h38]; rfl, hW4.trans hs5⟩
  refine W_skip ?_
  refine W_region (by rfl) ?_
  refine x (r_add rfl rfl ⟨by omega, by omega⟩) <| x r_move <| xe ?_
  exact ⟨k + 1, by omega, ⟨rfl, trivial⟩, hlt, (hs2.trans hs24).trans hs5, by rw [hr, if_neg h38]⟩
theorem ckP_zero {l : List Aut} (h : ckP l = 0) : l.length ≤ 12 ∧ ∀ a ∈ l, Okay a := by
  unfold ckP at h
  split at h
  · cases h
  · rename_i h1; exact ⟨by omega, (ckL_zero l).1 h⟩
theorem ckTL_zero : ∀ {l : List Aut} {t : List Int}, t.length = l.length → (ckTL l t = 0 ↔ Vt l t)
  | [], t, hl => by
    have : t = [] := List.eq_nil_of_length_eq_zero hl
    subst this
    exact ⟨fun _ => ⟨rfl, fun i h => by simp at h⟩, fun _ => rfl⟩
  | a :: l, [], hl => by simp at hl
  | a :: l, t :: ts, hl => by
    rw [ckTL]
    have ih := ckTL_zero (l := l) (t := ts) (by simpa using hl)
    constructor
    · intro h
      split at h
      · cases h
      · rename_i h1
        exact Vt.cons (by omega) (by omega) (ih.1 h)
    · intro h
      have h0 := h.2 0 (by simp) (by simp)
      simp only [List.getElem_cons_zero] at h0
      rw [if_neg (by omega), ih]
      exact ⟨by simpa using hl, fun i h2 h3 => h.2 (i + 1) (by simpa using h2) (by simpa using h3)⟩
theorem ckT_zero {l : List Aut} {t : List Int} (h : ckT l t = 0) : l.length ≤ 12 ∧ (∀ a ∈ l, Okay a) ∧ Vt l t := by
  unfold ckT at h
  split at h
  · rename_i h1; exact absurd h h1
  · rename_i h1
    split at h
    · cases h
    · rename_i h2
      obtain ⟨h3, h4⟩ := ckP_zero (Decidable.not_not.1 h1)
      exact ⟨h3, h4, (ckTL_zero (by omega)).1 h⟩
theorem ckT_ok {l : List Aut} {t : List Int} (hn : l.length ≤ 12) (ho : ∀ a ∈ l, Okay a) (hv : Vt l t) : ckT l t = 0 := by
  have h1 : ckP l = 0 := by unfold ckP; rw [if_neg (by omega)]; exact (ckL_zero l).2 ho
  unfold ckT
  rw [if_neg (by simp [h1]), if_neg (by simp [hv.1])]
  exact (ckTL_zero hv.1).2 hv
def ckV (l : List Aut) (t : List Int) (v : Int) : Int := if ckT l t ≠ 0 then ckT l t else if v ∉ evs l then 9 else 0
theorem checkEvent_ok {L L' : List Nat} {w : World} {v vt : Value} {ps : List AV} {ts : List Int} (h : Auts L w.heap v ps) (ht : Ints L' w.heap vt ts) (e : Int) :
    Ret Tryd.prog 61 [v, vt, .int .i64 e] w fun r w' => r = .int .i64 (ckV (ps.map (·.a)) ts e) ∧ Step [] w w' := by
  refine Ret.of_W Tryd.func61 rfl Tryd.ntmps61 Tryd.results61 (by simp) ?_
  refine W_seq <| W_region (by rfl) ?_
  refine x r_assign <| xe ?_
  refine W_seq <| W_seq <| W_region (by rfl) ?_
  refine x r_move <| x r_move <| xl rfl <| xf <| (checkTuple_ok h ht).mono ?_
  rintro r1 w1 ⟨rfl, hs1⟩
  refine x r_assign <| xe ?_
  unfold ckV
  refine W_seq <| W_region (by rfl) ?_
  refine x r_move <| x (r_neq rfl rfl) <| xe ?_
  refine W_if rfl (fun h12 => ?_) (fun h12 => ?_)
  · refine W_seq <| W_region (by rfl) ?_
    refine x r_move <| x r_assign <| xe ?_
    exact W_ret ⟨[_], ⟨rfl, trivial⟩, by rw [if_pos h12]; rfl, hs1⟩
  rw [if_neg h12]
  obtain ⟨h1, h2, h3⟩ := ckT_zero (Decidable.not_not.1 h12)
  rw [List.length_map] at h1
  have hev : (evs (ps.map (·.a))).length ≤ 1099511627776 := by have := evs_len (ps.map (·.a)) (fun a ha => (h2 a ha).al_le); rw [List.length_map] at this; omega
  refine W_skip ?_
  refine W_seq <| W_seq <| W_region (by rfl) ?_
  refine x r_move <| xl rfl <| xf <| (events_ok (h.ext hs1) h1 (fun p hp => (h2 p.a (List.mem_map_of_mem hp)).al_le)).mono ?_
  rintro r2 w2 ⟨hs2, ho2⟩
  refine x r_move <| xl rfl <| xf <| (alContains_ok (IntsO.ints (L := []) ho2 hev (by simp)) (evs_inc h2) e).mono ?_
  rintro r3 w3 ⟨rfl, rfl⟩
  refine x (r_not rfl) <| xe ?_
  have hs12 := hs1.trans hs2
  refine W_cond rfl (fun h18 => ?_) (fun h18 => ?_)
  · have hn : e ∉ evs (ps.map (·.a)) := by simpa using h18
    refine W_seq <| W_region (by rfl) ?_
    refine x r_assign <| xe ?_
    exact W_ret ⟨[_], ⟨rfl, trivial⟩, by rw [if_pos hn]; rfl, hs12⟩
  have hn : ¬ e ∉ evs (ps.map (·.a)) := by simpa using h18
  refine W_skip ?_
  refine W_seq <| W_region (by rfl) ?_
  refine x r_assign <| xe ?_
  exact W_ret ⟨[_], ⟨rfl, trivial⟩, by rw [if_neg hn]; rfl, hs12⟩
theorem pStep_ok {w : World} {v vt : Value} {ps : List AV} {ts : List Int} (h : Auts [] w.heap v ps) (ht : Ints [] w.heap vt ts) (e : Int) :
    Ret Tryd.prog 27 [v, vt, .int .i64 e] w fun r w' => Step [] w w' ∧ (ckV (ps.map (·.a)) ts e ≠ 0 → r = .tuple #[nilS, .bool false, .int .i64 (ckV (ps.map (·.a)) ts e)]) ∧ (ckV (ps.map (·.a)) ts e = 0 →
      match stepT e (ps.map (·.a)) ts with | none => r = .tuple #[nilS, .bool false, .int .i64 0] | some u => ∃ v', r = .tuple #[v', .bool true, .int .i64 0] ∧ IntsO 3 w.heap.size w' v' u) := by
  refine Ret.of_W Tryd.func27 rfl Tryd.ntmps27 Tryd.results27 (by simp) ?_
  refine W_seq <| W_region (by rfl) ?_
  refine x r_assign <| x r_assign <| x r_assign <| xe ?_
  refine W_seq <| W_seq <| W_region (by rfl) ?_
  refine x r_move <| x r_move <| x r_move <| xl rfl <| xf <| (checkEvent_ok h ht e).mono ?_
  rintro r1 w1 ⟨rfl, hs1⟩
  refine x r_assign <| xe ?_
  refine W_seq <| W_region (by rfl) ?_
  refine x r_move <| x (r_neq rfl rfl) <| xe ?_
  refine W_if rfl (fun h15 => ?_) (fun h15 => ?_)
  · refine W_seq <| W_region (by rfl) ?_
    refine x r_move <| x r_assign <| x r_assign <| x r_assign <| xe ?_
    exact W_ret ⟨[nilS, .bool false, _], ⟨rfl, rfl, rfl, trivial⟩, hs1, fun _ => rfl, fun e => absurd e h15⟩
  have hc : ckV (ps.map (·.a)) ts e = 0 := Decidable.not_not.1 h15
  have hct : ckT (ps.map (·.a)) ts = 0 := by
    unfold ckV at hc
    split at hc
    · rename_i h1; exact absurd hc h1
    · rename_i h1; exact Decidable.not_not.1 h1
  obtain ⟨h1, h2, h3⟩ := ckT_zero hct
  rw [List.length_map] at h1
  have hl : ts.length = ps.length := by have := h3.1; rw [List.length_map] at this; exact this
  refine W_skip ?_
  refine W_seq <| W_region (by rfl) ?_
  refine x r_move <| xl rfl <| xf <| (open_ok (h.ext hs1) h1 (fun p hp => (h2 p.a (List.mem_map_of_mem hp)).al_le) (by simp)).mono ?_
  rintro r2 w2 ⟨hs2, ve, vs, ms, rfl, hM, _⟩
  have hs12 := hs1.trans hs2
  refine x r_move <| x r_move <| xl rfl <| xf <| (pstep_ok hM (ht.ext hs12) hl (fun p hp => (h2 p.a (List.mem_map_of_mem hp)).ali) (fun p hp => (h2 p.a (List.mem_map_of_mem hp)).edi) h1 e).mono ?_
  rintro r3 w3 ⟨hs3, hr3⟩
  have hz := hs12.size
  have hs13 := hs12.trans hs3
  refine exE (stepT e (ps.map (·.a)) ts) fun z hz0 => ?_
  rw [hz0] at hr3 ⊢
  cases z with
  | none =>
    simp only [] at hr3
    subst hr3
    refine x r_move <| x (r_extract rfl rfl) <| x (r_extract rfl rfl) <| x r_assign <| x r_assign <| xe ?_
    refine W_seq <| W_region (by rfl) ?_
    refine x r_move <| x r_move <| x r_assign <| x r_assign <| x r_assign <| xe ?_
    exact W_ret ⟨[nilS, .bool false, .int .i64 0], ⟨rfl, rfl, rfl, trivial⟩, hs13, fun e => absurd hc e, fun _ => rfl⟩
  | some u =>
    simp only [] at hr3
    obtain ⟨v', rfl, ho3⟩ := hr3
    refine x r_move <| x (r_extract rfl rfl) <| x (r_extract rfl rfl) <| x r_assign <| x r_assign <| xe ?_
    refine W_seq <| W_region (by rfl) ?_
    refine x r_move <| x r_move <| x r_assign <| x r_assign <| x r_assign <| xe ?_
    exact W_ret ⟨[v', .bool true, .int .i64 0], ⟨rfl, rfl, rfl, trivial⟩, hs13, fun e => absurd hc e, fun _ => ⟨v', rfl, own_base ho3 hz⟩⟩
end Go.Proofs.YtfhgnlkdcdlblaaDoor
/- SupervisorAfter, plain law: what the closed loop does after a word. -/
namespace Go.Proofs.YtfhgnlkdcdlblaaDoor
open Go.Lg

/-- The tuples along a word. -/
def goT (aa : List Aut) : List Int → List Int → Option (List Int)
  | t, [] => some t
  | t, v :: u => if v ∉ evs aa then none else match stepT v aa t with | none => none | some t' => goT aa t' u
theorem go_flw {aa : List Aut} {A : Aut} {Q : List (List Int)} (h : SyP aa A Q) : ∀ (u : List Int) (j : Nat), j < Q.length →
    (∃ j' : Nat, j' < Q.length ∧ flw A j u = ((j' : Int), u.length) ∧ goT aa (Q.getD j []) u = some (Q.getD j' [])) ∨ ((flw A j u).2 < u.length ∧ goT aa (Q.getD j []) u = none)
  | [], j, hj => .inl ⟨j, hj, rfl, rfl⟩
  | v :: u, j, hj => by
    have hs := h.step hj v
    by_cases hv : v ∈ evs aa
    · rw [if_pos hv] at hs
      cases ht : stepT v aa (Q.getD j []) with
      | none =>
        rw [ht] at hs
        have hn : nxt A.ed j v = -1 := by rw [nxt_eget, hs]; rfl
        right
        rw [flw, if_pos (by rw [hn]; decide), goT, if_neg (fun e => e hv), ht]
        exact ⟨by simp, rfl⟩
      | some t' =>
        obtain ⟨h1, h2⟩ := h.to hj hv ht
        rw [ht] at hs
        have hn : nxt A.ed j v = (Q.idxOf t' : Int) := by rw [nxt_eget, hs]; rfl
        rw [flw, hn, if_neg (by omega), goT, if_neg (fun e => e hv), ht]
        rcases go_flw h u (Q.idxOf t') h1 with ⟨j', k1, k2, k3⟩ | ⟨k1, k2⟩
        · left
          refine ⟨j', k1, ?_, ?_⟩
          · rw [k2]; simp
          · rw [h2] at k3; exact k3
        · right
          rw [h2] at k2
          exact ⟨by simp; omega, k2⟩
    · rw [if_neg hv] at hs
      have hn : nxt A.ed j v = -1 := by rw [nxt_eget, hs]
      right
      rw [flw, if_pos (by rw [hn]; decide), goT, if_pos hv]
      exact ⟨by simp, rfl⟩
theorem enb_syP {aa : List Aut} {A : Aut} {Q : List (List Int)} (h : SyP aa A Q) {j : Nat} (hj : j < Q.length) : enb A j = (evs aa).filter fun v => (stepT v aa (Q.getD j [])).isSome := by
  unfold enb
  rw [h.ed, outE_grid (syF_ok aa Q), if_pos hj]
  generalize evs aa = vs
  induction vs with
  | nil => rfl
  | cons v vs ih =>
    rw [List.filterMap_cons, List.filter_cons]
    cases hs : stepT v aa (Q.getD j []) with
    | none => rw [syF_none hs]; exact ih
    | some u =>
      rw [syF_some hs]
      simp only [List.map_cons, Option.isSome_some, if_true]
      rw [ih]
theorem enb_mem {a : Aut} (ho : Okay a) (x v : Int) : v ∈ enb a x ↔ 0 ≤ nxt a.ed x v := by
  unfold enb
  rw [nxt_nonneg ho]
  constructor
  · intro h
    obtain ⟨e, he, rfl⟩ := List.mem_map.1 h
    obtain ⟨h1, h2⟩ := outE_mem he
    cases hg : eget a.ed x e.2.1 with
    | some _ => rfl
    | none =>
      exfalso
      have key : ∀ (l : List Ed), e ∈ l → eget l x e.2.1 = none → False := by
        intro l
        induction l with
        | nil => intro h; cases h
        | cons d l ih =>
          intro hm hg
          rw [eget] at hg
          split at hg
          · cases hg
          · rename_i hne
            rcases List.mem_cons.1 hm with rfl | hm
            · exact hne ⟨h2, rfl⟩
            · exact ih hm hg
      exact key a.ed h1 hg
  · intro h
    obtain ⟨u, hu⟩ := Option.isSome_iff_exists.1 h
    have := eget_mem hu
    refine List.mem_map.2 ⟨(x, v, u), ?_, rfl⟩
    unfold outE
    exact List.mem_filter.2 ⟨this, by simp⟩
theorem enb_inc {a : Aut} (ho : Okay a) (x : Int) : Inc (enb a x) := by
  unfold enb Inc
  rw [List.pairwise_map]
  have h1 : (outE a.ed x).Pairwise fun x y : Ed => x.1 < y.1 ∨ (x.1 = y.1 ∧ x.2.1 < y.2.1) := List.Pairwise.sublist List.filter_sublist ho.edi
  refine List.Pairwise.imp_of_mem (fun {a b} ha hb hab => ?_) h1
  have h2 := (outE_mem ha).2
  have h3 := (outE_mem hb).2
  omega
theorem enb_filter {a : Aut} (ho : Okay a) (x : Int) : enb a x = a.al.filter fun v => decide (0 ≤ nxt a.ed x v) := by
  refine Inc.ext (enb_inc ho x) (List.Pairwise.sublist List.filter_sublist ho.ali) fun v => ?_
  rw [enb_mem ho, List.mem_filter]
  constructor
  · intro h; exact ⟨(ho.ed _ (nxt_mem h)).2.2.1, by simpa using h⟩
  · intro h; simpa using h.2
theorem evs_two {p s : Aut} (hp : Okay p) (hs : Okay s) (hsub : ∀ x ∈ s.al, x ∈ p.al) : evs [p, s] = p.al := by
  have ho : ∀ a ∈ [p, s], Okay a := fun a ha => by
    simp only [List.mem_cons, List.not_mem_nil, or_false] at ha
    rcases ha with rfl | rfl
    · exact hp
    · exact hs
  refine Inc.ext (evs_inc ho) hp.ali fun x => ?_
  rw [evs_mem ho]
  simp only [List.mem_cons, List.not_mem_nil, or_false, exists_eq_or_imp, exists_eq_left]
  exact ⟨fun h => h.elim id (hsub x), .inl⟩
/-- The law's lists. -/
def yesP (p s : Aut) (x y : Int) (v : Int) : Bool := decide (0 ≤ nxt p.ed x v) && !(decide (v ∈ s.al) && decide (nxt s.ed y v < 0))
def noP (p s : Aut) (x y : Int) (v : Int) : Bool := decide (0 ≤ nxt p.ed x v) && (decide (v ∈ s.al) && decide (nxt s.ed y v < 0))
theorem step_yes {p s : Aut} (hp : Okay p) (hs : Okay s) (x y : Int) {v : Int} (hv : v ∈ p.al) : (stepT v [p, s] [x, y]).isSome = yesP p s x y v := by
  have h1 := nxt_nonneg hp x v
  have h2 := nxt_nonneg hs y v
  unfold yesP
  rw [stepT, if_neg (fun e => e hv)]
  cases hx : eget p.ed x v with
  | none =>
    rw [hx] at h1
    have : ¬ 0 ≤ nxt p.ed x v := fun h => by have := h1.1 h; cases this
    simp [this]
  | some u =>
    rw [hx] at h1
    have h3 : 0 ≤ nxt p.ed x v := h1.2 rfl
    simp only [Option.isSome_map, decide_eq_true h3, Bool.true_and]
    rw [stepT]
    by_cases hvs : v ∈ s.al
    · rw [if_neg (fun e => e hvs)]
      cases hy : eget s.ed y v with
      | none =>
        rw [hy] at h2
        have : ¬ 0 ≤ nxt s.ed y v := fun h => by have := h2.1 h; cases this
        simp [hvs]; omega
      | some t =>
        rw [hy] at h2
        have : 0 ≤ nxt s.ed y v := h2.2 rfl
        simp [hvs, stepT]; omega
    · rw [if_pos hvs]; simp [hvs, stepT]
theorem after_on {p s : Aut} (hp : Okay p) (hs : Okay s) (hsub : ∀ x ∈ s.al, x ∈ p.al) {A : Aut} {Q : List (List Int)} (h : SyP [p, s] A Q) {j : Nat} (hj : j < Q.length) {x y : Int} (hq : Q.getD j [] = [x, y]) : enb A j = p.al.filter (yesP p s x y) := by
  rw [enb_syP h hj, evs_two hp hs hsub, hq]
  exact List.filter_congr fun v hv => step_yes hp hs x y hv
theorem after_off {p s : Aut} (hp : Okay p) (x y : Int) : mrg (fun p q => p && !q) (enb p x) (p.al.filter (yesP p s x y)) = p.al.filter (noP p s x y) := by
  have i1 := enb_inc hp x
  have i2 : Inc (p.al.filter (yesP p s x y)) := List.Pairwise.sublist List.filter_sublist hp.ali
  refine Inc.ext (mrg_inc _ _ _ _ (Nat.le_refl _) i1 i2) (List.Pairwise.sublist List.filter_sublist hp.ali) fun v => ?_
  rw [mem_mrg i1 i2]
  simp only [Bool.and_eq_true, decide_eq_true_eq, Bool.not_eq_true', decide_eq_false_iff_not]
  rw [enb_filter hp]
  simp only [List.mem_filter]
  unfold yesP noP
  simp only [Bool.and_eq_true, decide_eq_true_eq, Bool.not_eq_true', Bool.and_eq_false_iff, decide_eq_false_iff_not]
  constructor
  · rintro ⟨_, ⟨h1, h2⟩, h3⟩
    refine ⟨h1, h2, ?_⟩
    by_cases h4 : v ∈ s.al
    · by_cases h5 : nxt s.ed y v < 0
      · exact ⟨h4, h5⟩
      · exact absurd ⟨h1, h2, .inr h5⟩ h3
    · exact absurd ⟨h1, h2, .inl h4⟩ h3
  · rintro ⟨h1, h2, h3, h4⟩
    exact ⟨.inl ⟨h1, h2⟩, ⟨h1, h2⟩, fun h => h.2.2.elim (fun e => e h3) (fun e => e h4)⟩
/-! ### What After returns -/
def afE (p s : Aut) (u : List Int) : Int := if opE p s ≠ 0 then opE p s else if gens (opA p s) u = false then 10 else 0
def afAt (p s : Aut) (u : List Int) : Int := (flw (opA p s) 0 u).1
def afOn (p s : Aut) (u : List Int) : List Int := enb (opA p s) (afAt p s u)
def afOff (p s : Aut) (u : List Int) : List Int := mrg (fun p q => p && !q) (enb p (px ((opQ p s).getD (afAt p s u).toNat []))) (afOn p s u)
theorem opE_syP {p s : Aut} (h : opE p s = 0) : SyP [p, s] (opA p s) (opQ p s) ∧ Okay (opA p s) ∧ ((opQ p s).length = 0 ↔ p.st = 0 ∨ s.st = 0) := by
  obtain ⟨h1, h2, h3, _⟩ := opE_zero h
  have ho : ∀ a ∈ [p, s], Okay a := fun a ha => by
    simp only [List.mem_cons, List.not_mem_nil, or_false] at ha
    rcases ha with rfl | rfl
    · exact h1
    · exact h2
  obtain ⟨k1, k2⟩ := sync_spec ho h3
  exact ⟨k1, k1.okay ho, by rw [k2]; simp⟩
/-- The state after a word that is generated. -/
theorem gens_at {A : Aut} (ho : Okay A) {aa : List Aut} {Q : List (List Int)} (h : SyP aa A Q) {u : List Int} (hg : gens A u = true) : ∃ j : Nat, j < Q.length ∧ flw A 0 u = ((j : Int), u.length) ∧ goT aa (Q.getD 0 []) u = some (Q.getD j []) := by
  unfold gens at hg
  rw [if_neg (by simpa using (ckA_zero A).2 ho)] at hg
  unfold rchd at hg
  split at hg
  · cases hg
  · rename_i hz
    have hst := h.st
    have h0 : 0 < Q.length := by omega
    rcases go_flw h u 0 h0 with ⟨j, k1, k2, k3⟩ | ⟨k1, _⟩
    · exact ⟨j, k1, k2, k3⟩
    · simp only [decide_eq_true_eq] at hg
      have : ((0 : Nat) : Int) = 0 := rfl
      rw [this] at k1
      omega
theorem gens_not {A : Aut} (ho : Okay A) {aa : List Aut} {Q : List (List Int)} (h : SyP aa A Q) {u : List Int} (hg : gens A u = false) : Q.length = 0 ∨ goT aa (Q.getD 0 []) u = none := by
  unfold gens at hg
  rw [if_neg (by simpa using (ckA_zero A).2 ho)] at hg
  unfold rchd at hg
  have hst := h.st
  by_cases h0 : Q.length = 0
  · exact .inl h0
  · right
    rw [if_neg (by omega)] at hg
    rcases go_flw h u 0 (by omega) with ⟨j, k1, k2, k3⟩ | ⟨_, k2⟩
    · have : ((0 : Nat) : Int) = 0 := rfl
      rw [this] at k2
      rw [k2] at hg
      simp at hg
    · exact k2
theorem flw_al {a : Aut} (ho : Okay a) : ∀ (u : List Int) (s : Int), (flw a s u).2 = u.length → ∀ e ∈ u, e ∈ a.al
  | [], _, _, e, he => by cases he
  | v :: u, s, h, e, he => by
    rw [flw] at h
    split at h
    · simp at h
    · rename_i hn
      rcases List.mem_cons.1 he with rfl | he
      · exact (ho.ed _ (nxt_mem (show 0 ≤ nxt a.ed s e by omega))).2.2.1
      · exact flw_al ho u _ (by simpa using h) e he
theorem runE_gens {a : Aut} (ho : Okay a) {u : List Int} {j : Nat} (hj : (j : Int) < a.st) (h : flw a 0 u = ((j : Int), u.length)) : runE a 0 u = 0 := by
  unfold runE
  rw [cks_ok ho (Int.le_refl 0) (by omega), if_neg (by simp), if_neg]
  rw [Bool.not_eq_true, List.any_eq_false]
  intro e he
  have := flw_al ho u 0 (by rw [h]) e he
  simp [this]
end Go.Proofs.YtfhgnlkdcdlblaaDoor
/- More rules: comparing bools and pairs; a drawn region whose open orders are told by a tree with forks of two or three. -/
namespace Go.Lg
section
variable {P : Program} {f : Fr} {w : World} {d : Option Nat} {ty : Nat} {ps : String} {af : Array Edge} {gd : Option (Nat × Bool)}
theorem r_neq_bool {t t' : Nat} [h : Bk P t] {x y : Operand} {a b : Bool} (hx : ev f x = .bool a) (hy : ev f y = .bool b) :
    (execOp (ev f) ⟨d, .binOp .neq t x y t', ty, ps, af, gd⟩).run P w = .ok (.value (.bool (!(a == b)))) w := by
  have hg : (eqGuard .neq t x y (.bool a) (.bool b)).run P w = .ok () w := by simp [eqGuard]
  simp [execOp, hx, hy, hg, run_neq_bool (P := P) (w := w) t a b h.u]
/-- An array of two ints. -/
class A2 (P : Program) (t : Nat) : Prop where
  u : ∃ e, P.underlying t = some (.array 2 e) ∧ P.underlying e = some (.int .i64) ∧ (P.info? e).map (·.size) = some 1
  g : P.eqGuardType P.depth t = false
theorem r_neq_pair {t t' : Nat} [h : A2 P t] {x y : Operand} {p q : Int × Int} (hx : ev f x = kPair p) (hy : ev f y = kPair q) :
    (execOp (ev f) ⟨d, .binOp .neq t x y t', ty, ps, af, gd⟩).run P w = .ok (.value (.bool (decide (¬ p = q)))) w := by
  obtain ⟨e, h1, h2, h3⟩ := h.u
  have hg : (eqGuard .neq t x y (kPair p) (kPair q)).run P w = .ok () w := by simp [eqGuard, kPair, h.g]
  have he := run_equal_pair h1 h2 h3 w p q
  simp only [execOp, hx, hy, Sem.run_bind, hg, Result.andThen_ok, binOp, he, Sem.run_pure]
  by_cases e : p = q <;> simp [e]
end
/-! ### Trees with forks of two or three -/
inductive Pu where
  | pl (l : List (Nat × Bool))
  | f2 (pre : List (Nat × Bool)) (i j : Nat) (t1 t2 : Pu)
  | f3 (pre : List (Nat × Bool)) (i j k : Nat) (t1 t2 t3 : Pu)
def Pu.len : Pu → Nat
  | .pl l => l.length
  | .f2 pre _ _ t1 _ => pre.length + (1 + t1.len)
  | .f3 pre _ _ _ t1 _ _ => pre.length + (1 + t1.len)
/-- What comes ahead of a fork may hold calls too, where nothing else is ready. -/
def puGo (all : Array Oper) : Pu → Array Bool → Bool
  | .pl l, ls => planGo all l ls
  | .f2 pre i j t1 t2, ls => quietGo all pre ls && Region.ready .any all (quietLs pre ls) == [i, j] && t1.len == t2.len && puGo all t1 ((quietLs pre ls).setIfInBounds i true) && puGo all t2 ((quietLs pre ls).setIfInBounds j true)
  | .f3 pre i j k t1 t2 t3, ls => quietGo all pre ls && Region.ready .any all (quietLs pre ls) == [i, j, k] && t1.len == t2.len && t1.len == t3.len && puGo all t1 ((quietLs pre ls).setIfInBounds i true) && puGo all t2 ((quietLs pre ls).setIfInBounds j true) && puGo all t3 ((quietLs pre ls).setIfInBounds k true)
def puOk (all : List Oper) (t : Pu) : Bool := Region.noSelect all.toArray && t.len == all.length && puGo all.toArray t (Array.replicate all.length false)
def XE (P : Program) (all : List Oper) (C : World → Prop) (i : Nat) (N : Fr → World → Prop) (f : Fr) (w : World) : Prop := gdF all f (opAt all i) = true ∧ XO P (opAt all i) f w fun f' w' => C w' ∧ N f' w'
def XU (P : Program) (all : List Oper) (C : World → Prop) (K : Fr → World → Prop) : Pu → Fr → World → Prop
  | .pl l => XP P all C K l
  | .f2 pre i j t1 t2 => XP P all C (fun f w => XE P all C i (XU P all C K t1) f w ∧ XE P all C j (XU P all C K t2) f w) pre
  | .f3 pre i j k t1 t2 t3 => XP P all C (fun f w => XE P all C i (XU P all C K t1) f w ∧ XE P all C j (XU P all C K t2) f w ∧ XE P all C k (XU P all C K t3) f w) pre
section
variable {P : Program} {n : Nat} {f : Fr} {w : World} {all : List Oper} {C : World → Prop} {K B : Fr → World → Prop}
theorem XA_of_pu (hs : Region.noSelect all.toArray = true) : ∀ (t : Pu) (ls : Array Bool) (f : Fr) (w : World), ls.size = all.length → C w → puGo all.toArray t ls = true → XU P all C K t f w → XA P all C K t.len ls f w
  | .pl l, ls, f, w, hsz, hC, hp, h => XA_of_plan hs l ls f w hsz (.inl hC) hp h
  | .f2 pre i j t1 t2, ls, f, w, hsz, hC, hp, h => by
    simp only [puGo, Bool.and_eq_true, beq_iff_eq] at hp
    obtain ⟨⟨⟨⟨hq, hr⟩, hl⟩, h1⟩, h2⟩ := hp
    rw [Pu.len]
    refine XA_of_quiet (B := fun f w => XE P all C i (XU P all C K t1) f w ∧ XE P all C j (XU P all C K t2) f w) hs pre ls f w hC hq (fun f hB => ?_) h
    have hsz' : ∀ k, ((quietLs pre ls).setIfInBounds k true).size = all.length := fun k => by simp [quietLs_size, hsz]
    rw [Nat.add_comm 1]
    refine XA_succ (fun h0 => (by rw [h0] at hr; cases hr)) ?_
    rw [hr]
    intro k hk o ho
    simp only [List.mem_cons, List.not_mem_nil, or_false] at hk
    rcases hk with rfl | rfl
    · have := hB.1
      unfold XE at this
      rw [opAt_some ho] at this
      rw [this.1, cond_true]
      exact this.2.mono fun v w' hx => ⟨.inr (.inr hx.1), XA_of_pu hs t1 _ _ _ (hsz' _) hx.1 h1 hx.2⟩
    · have := hB.2
      unfold XE at this
      rw [opAt_some ho] at this
      rw [this.1, cond_true, hl]
      exact this.2.mono fun v w' hx => ⟨.inr (.inr hx.1), XA_of_pu hs t2 _ _ _ (hsz' _) hx.1 h2 hx.2⟩
  | .f3 pre i j k t1 t2 t3, ls, f, w, hsz, hC, hp, h => by
    simp only [puGo, Bool.and_eq_true, beq_iff_eq] at hp
    obtain ⟨⟨⟨⟨⟨⟨hq, hr⟩, hl⟩, hl3⟩, h1⟩, h2⟩, h3⟩ := hp
    rw [Pu.len]
    refine XA_of_quiet (B := fun f w => XE P all C i (XU P all C K t1) f w ∧ XE P all C j (XU P all C K t2) f w ∧ XE P all C k (XU P all C K t3) f w) hs pre ls f w hC hq (fun f hB => ?_) h
    have hsz' : ∀ k, ((quietLs pre ls).setIfInBounds k true).size = all.length := fun k => by simp [quietLs_size, hsz]
    rw [Nat.add_comm 1]
    refine XA_succ (fun h0 => (by rw [h0] at hr; cases hr)) ?_
    rw [hr]
    intro q hk o ho
    simp only [List.mem_cons, List.not_mem_nil, or_false] at hk
    rcases hk with rfl | rfl | rfl
    · have := hB.1
      unfold XE at this
      rw [opAt_some ho] at this
      rw [this.1, cond_true]
      exact this.2.mono fun v w' hx => ⟨.inr (.inr hx.1), XA_of_pu hs t1 _ _ _ (hsz' _) hx.1 h1 hx.2⟩
    · have := hB.2.1
      unfold XE at this
      rw [opAt_some ho] at this
      rw [this.1, cond_true, hl]
      exact this.2.mono fun v w' hx => ⟨.inr (.inr hx.1), XA_of_pu hs t2 _ _ _ (hsz' _) hx.1 h2 hx.2⟩
    · have := hB.2.2
      unfold XE at this
      rw [opAt_some ho] at this
      rw [this.1, cond_true, hl3]
      exact this.2.mono fun v w' hx => ⟨.inr (.inr hx.1), XA_of_pu hs t3 _ _ _ (hsz' _) hx.1 h3 hx.2⟩
theorem W_drawU {Q : Exit → Fr → World → Prop} {id : Nat} (C : World → Prop) (t : Pu) (hm : P.follows .mixedOrders = true) (hn : dstOk n all = true) (hp : puOk all t = true)
    (hC : C { w with drawn := w.drawn + 1 }) (h : XU P all C (fun f w => Q .normal f w) t f { w with drawn := w.drawn + 1 }) : W P n (.region id all.toArray true) Q f w := by
  simp only [puOk, Bool.and_eq_true, beq_iff_eq] at hp
  obtain ⟨⟨hs, hl⟩, hp⟩ := hp
  refine W_draw_any C hm hn ?_
  have h1 := XA_of_pu hs t _ _ _ (by simp) hC hp h
  rw [hl] at h1
  exact h1
/-- The forms in which a tree is walked. -/
theorem uP {l : List (Nat × Bool)} (h : XP P all C K l f w) : XU P all C K (.pl l) f w := h
theorem u2 {pre : List (Nat × Bool)} {i j : Nat} {t1 t2 : Pu} (h : XP P all C (fun f w => XE P all C i (XU P all C K t1) f w ∧ XE P all C j (XU P all C K t2) f w) pre f w) : XU P all C K (.f2 pre i j t1 t2) f w := h
theorem u3 {pre : List (Nat × Bool)} {i j k : Nat} {t1 t2 t3 : Pu} (h : XP P all C (fun f w => XE P all C i (XU P all C K t1) f w ∧ XE P all C j (XU P all C K t2) f w ∧ XE P all C k (XU P all C K t3) f w) pre f w) : XU P all C K (.f3 pre i j k t1 t2 t3) f w := h
theorem ue {i : Nat} {N : Fr → World → Prop} (h : XO P (opAt all i) f w fun f' w' => C w' ∧ N f' w') (hg : gdF all f (opAt all i) = true := by rfl) : XE P all C i N f w := ⟨hg, h⟩
end
attribute [irreducible] XU XE
end Go.Lg
/- What supervisor.Equivalent computes, as plain functions. -/
namespace Go.Proofs.YtfhgnlkdcdlblaaDoor
open Go.Lg

structure En where
  x : Int
  y : Int
  u : List Int
def En.ky (e : En) : Int × Int := (e.x, e.y)
def dfr (a b : Aut) (x y : Int) : Bool := !(decide (x = -1) == decide (y = -1)) || !(decide (x ∈ a.mr) == decide (y ∈ b.mr))
def enN (a b : Aut) (e : En) (v : Int) : En := ⟨nxt a.ed e.x v, nxt b.ed e.y v, e.u ++ [v]⟩
def eqS (a b : Aut) (e : En) (L : List En) (v : Int) : List En := if (enN a b e v).ky ≠ (-1, -1) ∧ (enN a b e v).ky ∉ (L.drop 1).map En.ky then L ++ [enN a b e v] else L
def en0 : En := ⟨-1, -1, []⟩
def eqL (a b : Aut) (al : List Int) : Nat → Nat → List En → Option (List Int)
  | 0, _, _ => none
  | f + 1, i, L => if i < L.length then (if dfr a b (L.getD i en0).x (L.getD i en0).y = true then some (L.getD i en0).u else eqL a b al f (i + 1) (al.foldl (eqS a b (L.getD i en0)) L)) else none
def eqI (a b : Aut) : List En := [⟨if 0 < a.st then 0 else -1, if 0 < b.st then 0 else -1, []⟩]
/-- The word that tells two automata apart; none: there is none. -/
def eqv (a b : Aut) (al : List Int) : Option (List Int) := eqL a b al ((a.st.toNat + 1) * (b.st.toNat + 1) + 1) 0 (eqI a b)
/-- A state, or none. -/
def St1 (a : Aut) (x : Int) : Prop := -1 ≤ x ∧ x < a.st
theorem nxt_st1 {a : Aut} (ho : Okay a) (x v : Int) : St1 a (nxt a.ed x v) := by
  have h0 := ho.st0
  unfold St1
  by_cases h : nxt a.ed x v < 0
  · have : nxt a.ed x v = -1 := by
      rw [nxt_eget] at h ⊢
      cases hg : eget a.ed x v with
      | none => rfl
      | some u =>
        rw [hg] at h
        have := (ho.ed _ (eget_mem hg)).2.2.2.1
        simp only [] at h this
        omega
    omega
  · have := nxt_lt ho h; omega
/-- What holds of the entries. -/
structure EnI (a b : Aut) (L : List En) : Prop where
  ne : 0 < L.length
  st : ∀ e ∈ L, St1 a e.x ∧ St1 b e.y
  nd : ((L.drop 1).map En.ky).Nodup
  wd : ∀ i (h : i < L.length), (L[i]'h).u.length ≤ i
theorem eqS_I {a b : Aut} (ha : Okay a) (hb : Okay b) {L : List En} (h : EnI a b L) {i : Nat} (hi : i < L.length) {e : En} (he : L[i]'hi = e) (v : Int) : EnI a b (eqS a b e L v) ∧ ∃ r, eqS a b e L v = L ++ r := by
  unfold eqS
  split
  · rename_i hc
    refine ⟨⟨by simp, fun d hd => ?_, ?_, fun k hk => ?_⟩, _, rfl⟩
    · rcases List.mem_append.1 hd with hd | hd
      · exact h.st d hd
      · simp only [List.mem_singleton] at hd; subst hd; exact ⟨nxt_st1 ha _ _, nxt_st1 hb _ _⟩
    · rw [List.drop_append_of_le_length (by have := h.ne; omega), List.map_append]
      exact nodup_snoc h.nd hc.2
    · rcases Nat.lt_or_ge k L.length with hlt | hge
      · rw [List.getElem_append_left hlt]; exact h.wd k hlt
      · rw [List.getElem_append_right hge]
        have hk' : k = L.length := by simp at hk; omega
        subst hk'
        have := h.wd i hi
        rw [he] at this
        simp [enN]; omega
  · exact ⟨h, [], by simp⟩
theorem eqS_fold {a b : Aut} (ha : Okay a) (hb : Okay b) : ∀ (vs : List Int) (L : List En) (i : Nat) (hi : i < L.length) (e : En), L[i]'hi = e → EnI a b L → EnI a b (vs.foldl (eqS a b e) L) ∧ ∃ r, vs.foldl (eqS a b e) L = L ++ r
  | [], L, _, _, _, _, h => ⟨h, [], by simp⟩
  | v :: vs, L, i, hi, e, he, h => by
    obtain ⟨h1, r, hr⟩ := eqS_I ha hb h hi he v
    have hi' : i < (eqS a b e L v).length := by rw [hr]; simp; omega
    obtain ⟨h2, r2, hr2⟩ := eqS_fold ha hb vs (eqS a b e L v) i hi' e (by simp only [hr]; rw [List.getElem_append_left hi]; exact he) h1
    exact ⟨h2, r ++ r2, by rw [List.foldl_cons, hr2, hr, List.append_assoc]⟩
/-- There are not too many. -/
theorem EnI.le {a b : Aut} (ha : Okay a) (hb : Okay b) {L : List En} (h : EnI a b L) : L.length ≤ (a.st.toNat + 1) * (b.st.toNat + 1) + 1 := by
  have h0 := ha.st0
  have h1 := hb.st0
  have key : ((L.drop 1).map fun e : En => ((e.x + 1) * ((b.st.toNat + 1 : Nat) : Int) + (e.y + 1) : Int)).Nodup := by
    have hn := h.nd
    unfold List.Nodup at hn ⊢
    rw [List.pairwise_map] at hn ⊢
    refine List.Pairwise.imp_of_mem (fun {p q} hp hq hne e => hne ?_) hn
    have sp := h.st p (List.mem_of_mem_drop hp)
    have sq := h.st q (List.mem_of_mem_drop hq)
    unfold St1 at sp sq
    have hy : p.y = q.y ∧ p.x = q.x := by
      have e2 : ((b.st.toNat + 1 : Nat) : Int) = b.st + 1 := by omega
      rw [e2] at e
      have l1 : 0 ≤ p.y + 1 ∧ p.y + 1 < b.st + 1 := by omega
      have l2 : 0 ≤ q.y + 1 ∧ q.y + 1 < b.st + 1 := by omega
      have m1 : ((p.x + 1) * (b.st + 1) + (p.y + 1)) % (b.st + 1) = p.y + 1 := by rw [Int.mul_comm, Int.mul_add_emod_self_left]; exact Int.emod_eq_of_lt l1.1 l1.2
      have m2 : ((q.x + 1) * (b.st + 1) + (q.y + 1)) % (b.st + 1) = q.y + 1 := by rw [Int.mul_comm, Int.mul_add_emod_self_left]; exact Int.emod_eq_of_lt l2.1 l2.2
      have d1 : ((p.x + 1) * (b.st + 1) + (p.y + 1)) / (b.st + 1) = p.x + 1 := by rw [Int.mul_comm, Int.mul_add_ediv_left _ _ (by omega), Int.ediv_eq_zero_of_lt l1.1 l1.2]; omega
      have d2 : ((q.x + 1) * (b.st + 1) + (q.y + 1)) / (b.st + 1) = q.x + 1 := by rw [Int.mul_comm, Int.mul_add_ediv_left _ _ (by omega), Int.ediv_eq_zero_of_lt l2.1 l2.2]; omega
      rw [e] at m1 d1
      constructor
      · omega
      · omega
    unfold En.ky
    rw [hy.1, hy.2]
  have := pig ((a.st.toNat + 1) * (b.st.toNat + 1)) _ key (fun z hz => by
    obtain ⟨e, he, rfl⟩ := List.mem_map.1 hz
    have se := h.st e (List.mem_of_mem_drop he)
    unfold St1 at se
    have e1 : 0 ≤ e.x + 1 ∧ e.x + 1 ≤ a.st.toNat := by omega
    have e2 : 0 ≤ e.y + 1 ∧ e.y + 1 ≤ b.st.toNat := by omega
    obtain ⟨p, hp⟩ := Int.eq_ofNat_of_zero_le e1.1
    obtain ⟨q, hq⟩ := Int.eq_ofNat_of_zero_le e2.1
    rw [hp, hq]
    have e3 : p ≤ a.st.toNat := by omega
    have e4 : q ≤ b.st.toNat := by omega
    have : p * (b.st.toNat + 1) + q < (a.st.toNat + 1) * (b.st.toNat + 1) := by
      have := Nat.mul_le_mul_right (b.st.toNat + 1) e3
      rw [Nat.add_mul]; omega
    refine ⟨Int.add_nonneg (Int.mul_nonneg (by omega) (by omega)) (by omega), ?_⟩
    exact_mod_cast this)
  simp at this
  omega
theorem eqI_I (a b : Aut) (h0 : 0 ≤ a.st) (h1 : 0 ≤ b.st) : EnI a b (eqI a b) := by
  refine ⟨by simp [eqI], fun e he => ?_, by simp [eqI], fun i hi => ?_⟩
  · simp only [eqI, List.mem_singleton] at he
    subst he
    unfold St1
    simp only []
    constructor
    · split <;> omega
    · split <;> omega
  · simp [eqI]
end Go.Proofs.YtfhgnlkdcdlblaaDoor
/- SupervisorCompares, plain law: the word that is found is the least one. -/
namespace Go.Proofs.YtfhgnlkdcdlblaaDoor
open Go.Lg

theorem revInd {motive : List Int → Prop} (nil : motive []) (append_singleton : ∀ u v, motive u → motive (u ++ [v])) (u : List Int) : motive u := by
  have key : ∀ r : List Int, motive r.reverse := by
    intro r
    induction r with
    | nil => exact nil
    | cons v r ih => rw [List.reverse_cons]; exact append_singleton _ _ ih
  have := key u.reverse
  rw [List.reverse_reverse] at this
  exact this
/-! ### Words as numbers: shortlex -/
def enc (u : List Int) : Int := u.foldl (fun n e => n * 33 + (e + 1)) 0
theorem enc_snoc (u : List Int) (v : Int) : enc (u ++ [v]) = enc u * 33 + (v + 1) := by unfold enc; rw [List.foldl_append]; rfl
def Sml (u : List Int) : Prop := ∀ e ∈ u, 0 ≤ e ∧ e < 32
theorem Sml.snoc {u : List Int} {v : Int} (h : Sml (u ++ [v])) : Sml u ∧ 0 ≤ v ∧ v < 32 := ⟨fun e he => h e (List.mem_append_left _ he), h v (by simp)⟩
theorem enc_ge {u : List Int} (h : Sml u) : 0 ≤ enc u := by
  induction u using revInd with
  | nil => exact Int.le_refl _
  | append_singleton u v ih => rw [enc_snoc]; have := ih h.snoc.1; have := h.snoc.2; omega
theorem enc_lo {u : List Int} (h : Sml u) : (33 : Int) ^ u.length ≤ 32 * enc u + 1 := by
  induction u using revInd with
  | nil => decide
  | append_singleton u v ih =>
    have h1 := ih h.snoc.1
    have h2 := h.snoc.2
    rw [enc_snoc, List.length_append, List.length_singleton, Int.pow_succ]; omega
theorem enc_hi {u : List Int} (h : Sml u) : enc u < (33 : Int) ^ u.length := by
  induction u using revInd with
  | nil => decide
  | append_singleton u v ih =>
    have h1 := ih h.snoc.1
    have h2 := h.snoc.2
    rw [enc_snoc, List.length_append, List.length_singleton, Int.pow_succ]; omega
theorem pow_mono {m n : Nat} (h : m ≤ n) : (33 : Int) ^ m ≤ 33 ^ n := by
  induction h with
  | refl => exact Int.le_refl _
  | step h ih =>
    rename_i k
    have : (0 : Int) ≤ 33 ^ k := by
      have hp : ∀ k : Nat, (0 : Int) ≤ 33 ^ k := fun k => by induction k with | zero => decide | succ k ih => rw [Int.pow_succ]; omega
      exact hp k
    rw [Int.pow_succ]; omega
theorem enc_len {u v : List Int} (hu : Sml u) (hv : Sml v) (h : enc u ≤ enc v) : u.length ≤ v.length := by
  rcases Nat.lt_or_ge v.length u.length with hlt | hge
  · exfalso
    have h1 := enc_lo hu
    have h2 := enc_hi hv
    have h3 := pow_mono (show v.length + 1 ≤ u.length from hlt)
    rw [Int.pow_succ] at h3
    have h4 : (1 : Int) ≤ 33 ^ v.length := pow_mono (Nat.zero_le v.length)
    omega
  · exact hge
theorem enc_inj : ∀ {u v : List Int}, Sml u → Sml v → enc u = enc v → u = v := by
  intro u
  induction u using revInd with
  | nil =>
    intro v _ hv h
    have := enc_len hv (u := v) (v := []) (by simp [Sml]) (by omega)
    exact (List.eq_nil_of_length_eq_zero (by simpa using this)).symm
  | append_singleton u a ih =>
    intro v hu hv h
    rcases List.eq_nil_or_concat v with rfl | ⟨v', b, rfl⟩
    · have := enc_len hu (by simp [Sml]) (show enc (u ++ [a]) ≤ enc [] by omega)
      simp at this
    · rw [List.concat_eq_append] at *
      have h1 := hu.snoc
      have h2 := hv.snoc
      rw [enc_snoc, enc_snoc] at h
      have e1 : enc u = enc v' := by omega
      have e2 : a = b := by omega
      rw [ih h1.1 h2.1 e1, e2]
/-! ### Running a word -/
def rn (a : Aut) (x : Int) (u : List Int) : Int := u.foldl (fun s v => nxt a.ed s v) x
theorem rn_snoc (a : Aut) (x : Int) (u : List Int) (v : Int) : rn a x (u ++ [v]) = nxt a.ed (rn a x u) v := by unfold rn; rw [List.foldl_append]; rfl
theorem rn_cons (a : Aut) (x : Int) (v : Int) (u : List Int) : rn a x (v :: u) = rn a (nxt a.ed x v) u := rfl
theorem nxt_neg {a : Aut} (ho : Okay a) (v : Int) : nxt a.ed (-1) v = -1 := by
  rw [nxt_eget]
  cases hg : eget a.ed (-1) v with
  | none => rfl
  | some u => have := (ho.ed _ (eget_mem hg)).1; simp only [] at this; omega
theorem rn_neg {a : Aut} (ho : Okay a) : ∀ u, rn a (-1) u = -1
  | [] => rfl
  | v :: u => by rw [rn_cons, nxt_neg ho]; exact rn_neg ho u
def x0 (a : Aut) : Int := if 0 < a.st then 0 else -1
theorem rn_flw {a : Aut} (ho : Okay a) : ∀ (u : List Int) (s : Int), 0 ≤ s → ((flw a s u).2 = u.length ↔ 0 ≤ rn a s u) ∧ ((flw a s u).2 = u.length → (flw a s u).1 = rn a s u)
  | [], s, hs => ⟨⟨fun _ => hs, fun _ => rfl⟩, fun _ => rfl⟩
  | v :: u, s, hs => by
    rw [flw, rn_cons]
    by_cases h : nxt a.ed s v < 0
    · have e : nxt a.ed s v = -1 := by have := (nxt_st1 ho s v).1; omega
      rw [if_pos h, e, rn_neg ho]
      exact ⟨⟨fun h => by simp at h, fun h => by omega⟩, fun h => by simp at h⟩
    · rw [if_neg h]
      obtain ⟨h1, h2⟩ := rn_flw ho u (nxt a.ed s v) (by omega)
      constructor
      · rw [← h1]; simp
      · intro h3; exact h2 (by simpa using h3)
theorem gens_rn {a : Aut} (ho : Okay a) (u : List Int) : gens a u = decide (0 ≤ rn a (x0 a) u) := by
  unfold gens rchd
  rw [if_neg (by simpa using (ckA_zero a).2 ho)]
  have h0 := ho.st0
  by_cases hz : a.st = 0
  · rw [if_pos hz]
    have : x0 a = -1 := by unfold x0; rw [if_neg (by omega)]
    rw [this, rn_neg ho]; rfl
  · rw [if_neg hz]
    have : x0 a = 0 := by unfold x0; rw [if_pos (by omega)]
    rw [this]
    have h1 := (rn_flw ho u 0 (Int.le_refl 0)).1
    simp only []
    rw [decide_eq_decide, ← h1]; omega
theorem accs_rn {a : Aut} (ho : Okay a) (u : List Int) : accs a u = decide (rn a (x0 a) u ∈ a.mr) := by
  have hg := gens_rn ho u
  unfold gens at hg
  unfold accs
  rw [if_neg (by simpa using (ckA_zero a).2 ho)] at hg ⊢
  rw [hg]
  by_cases hr : 0 ≤ rn a (x0 a) u
  · rw [decide_eq_true hr, Bool.true_and]
    have hz : ¬ a.st = 0 := fun e => by
      have : x0 a = -1 := by unfold x0; rw [if_neg (by omega)]
      rw [this, rn_neg ho] at hr; omega
    have h0 := ho.st0
    have hx : x0 a = 0 := by unfold x0; rw [if_pos (by omega)]
    unfold rchd
    rw [if_neg hz]
    rw [hx] at hr ⊢
    obtain ⟨h1, h2⟩ := rn_flw ho u 0 (Int.le_refl 0)
    simp only []
    rw [h2 (h1.2 hr)]
  · rw [decide_eq_false hr, Bool.false_and]
    symm
    exact decide_eq_false fun hm => by have := (ho.mr _ hm).1; omega
theorem rn_st1 {a : Aut} (ho : Okay a) (u : List Int) : St1 a (rn a (x0 a) u) := by
  have h0 := ho.st0
  induction u using revInd with
  | nil =>
    show St1 a (x0 a)
    unfold x0 St1
    split <;> omega
  | append_singleton u v _ => rw [rn_snoc]; exact nxt_st1 ho _ _
/-- A word tells two automata apart. -/
def dif (a b : Aut) (u : List Int) : Bool := !(gens a u == gens b u) || !(accs a u == accs b u)
theorem dif_dfr {a b : Aut} (ha : Okay a) (hb : Okay b) (u : List Int) : dif a b u = dfr a b (rn a (x0 a) u) (rn b (x0 b) u) := by
  unfold dif dfr
  rw [gens_rn ha, gens_rn hb, accs_rn ha, accs_rn hb]
  have h1 := (rn_st1 ha u).1
  have h2 := (rn_st1 hb u).1
  have e1 : decide (0 ≤ rn a (x0 a) u) = !decide (rn a (x0 a) u = -1) := by rw [← decide_not, decide_eq_decide]; omega
  have e2 : decide (0 ≤ rn b (x0 b) u) = !decide (rn b (x0 b) u = -1) := by rw [← decide_not, decide_eq_decide]; omega
  rw [e1, e2]
  cases decide (rn a (x0 a) u = -1) <;> cases decide (rn b (x0 b) u = -1) <;> rfl
theorem dfr_none {a b : Aut} (ha : Okay a) (hb : Okay b) : dfr a b (-1) (-1) = false := by
  unfold dfr
  have ma : decide ((-1 : Int) ∈ a.mr) = false := decide_eq_false fun hm => by have := (ha.mr _ hm).1; omega
  have mb : decide ((-1 : Int) ∈ b.mr) = false := decide_eq_false fun hm => by have := (hb.mr _ hm).1; omega
  rw [ma, mb]; rfl
/-! ### The search -/
/-- Before entry i is taken, with the events vs of entry i already done. -/
structure BfI (a b : Aut) (al : List Int) (i : Nat) (dn : List Int) (L : List En) : Prop where
  ne : 0 < L.length
  le : i ≤ L.length
  rx : ∀ e ∈ L, e.x = rn a (x0 a) e.u ∧ e.y = rn b (x0 b) e.u ∧ ∀ v ∈ e.u, v ∈ al
  so : L.Pairwise fun p q => enc p.u < enc q.u
  hd : (L.getD 0 en0).u = []
  pr : ∀ e ∈ L, e.u = [] ∨ ∃ j v, j < L.length ∧ e.u = (L.getD j en0).u ++ [v] ∧ (j < i ∨ (j = i ∧ v ∈ dn))
  ch : ∀ j v, j < L.length → (j < i ∧ v ∈ al ∨ j = i ∧ v ∈ dn) → (enN a b (L.getD j en0) v).ky ≠ (-1, -1) → ∃ e ∈ L, e.ky = (enN a b (L.getD j en0) v).ky ∧ enc e.u ≤ enc ((L.getD j en0).u ++ [v])
  nd : ∀ j, j < i → dfr a b (L.getD j en0).x (L.getD j en0).y = false
theorem getD_mem {L : List En} {i : Nat} (h : i < L.length) : L.getD i en0 ∈ L := by simp [List.getD, h]
theorem getD_app {L r : List En} {i : Nat} (h : i < L.length) : (L ++ r).getD i en0 = L.getD i en0 := by simp [List.getD, List.getElem?_append_left h]
theorem BfI.step {a b : Aut} {al : List Int} (hal : Sml al) {i : Nat} {dn : List Int} {L : List En} (h : BfI a b al i dn L) (hi : i < L.length) {v : Int} (hv : v ∈ al) (hdn : ∀ u ∈ dn, u < v ∧ u ∈ al) : BfI a b al i (dn ++ [v]) (eqS a b (L.getD i en0) L v) := by
  have hSm : ∀ e ∈ L, Sml e.u := fun e he u hu => hal u ((h.rx e he).2.2 u hu)
  have hiM := getD_mem hi
  have hrx := h.rx _ hiM
  -- the new word is greater than all
  have hnew : ∀ e ∈ L, enc e.u < enc ((L.getD i en0).u ++ [v]) := fun e he => by
    have hgi := enc_ge (hSm _ hiM)
    have hvb := hal v hv
    rw [enc_snoc]
    rcases h.pr e he with h1 | ⟨j, u, hj, h1, h2⟩
    · rw [h1]; show (0 : Int) < _; omega
    · rw [h1, enc_snoc]
      rcases h2 with h2 | ⟨rfl, h2⟩
      · have hlt : enc (L.getD j en0).u < enc (L.getD i en0).u := by
          have := List.pairwise_iff_getElem.1 h.so j i (by omega) hi h2
          simpa [List.getD, hj, hi] using this
        have hub : u < 32 := by
          have := (h.rx e he).2.2 u (by rw [h1]; simp)
          exact (hal u this).2
        omega
      · have := hdn u h2; omega
  have keepD : ∀ r : List En, ∀ j, j < L.length → (L ++ r).getD j en0 = L.getD j en0 := fun r j hj => getD_app hj
  unfold eqS
  by_cases hc : (enN a b (L.getD i en0) v).ky ≠ (-1, -1) ∧ (enN a b (L.getD i en0) v).ky ∉ (L.drop 1).map En.ky
  · rw [if_pos hc]
    refine ⟨by simp, by simp; omega, fun e he => ?_, ?_, by rw [keepD _ 0 h.ne]; exact h.hd, fun e he => ?_, fun j u hj hju hk => ?_, fun j hj => by rw [keepD _ j (by omega)]; exact h.nd j hj⟩
    · rcases List.mem_append.1 he with he | he
      · exact h.rx e he
      · simp only [List.mem_singleton] at he
        subst he
        refine ⟨?_, ?_, fun u hu => ?_⟩
        · show nxt a.ed (L.getD i en0).x v = rn a (x0 a) ((L.getD i en0).u ++ [v]); rw [rn_snoc, hrx.1]
        · show nxt b.ed (L.getD i en0).y v = rn b (x0 b) ((L.getD i en0).u ++ [v]); rw [rn_snoc, hrx.2.1]
        · rcases List.mem_append.1 (show u ∈ (L.getD i en0).u ++ [v] from hu) with hu | hu
          · exact hrx.2.2 u hu
          · simp only [List.mem_singleton] at hu; subst hu; exact hv
    · rw [List.pairwise_append]
      refine ⟨h.so, by simp, fun p hp q hq => ?_⟩
      simp only [List.mem_singleton] at hq
      subst hq
      exact hnew p hp
    · rcases List.mem_append.1 he with he | he
      · rcases h.pr e he with h1 | ⟨j, u, hj, h1, h2⟩
        · exact .inl h1
        · refine .inr ⟨j, u, by simp; omega, by rw [keepD _ j hj]; exact h1, ?_⟩
          rcases h2 with h2 | ⟨h2, h3⟩
          · exact .inl h2
          · exact .inr ⟨h2, List.mem_append_left _ h3⟩
      · simp only [List.mem_singleton] at he
        subst he
        exact .inr ⟨i, v, by simp; omega, by rw [keepD _ i hi]; rfl, .inr ⟨rfl, by simp⟩⟩
    · have hj' : j < L.length := by rcases hju with ⟨h1, _⟩ | ⟨h1, _⟩ <;> omega
      rw [keepD _ j hj'] at hk ⊢
      by_cases hnewv : j = i ∧ u = v
      · obtain ⟨rfl, rfl⟩ := hnewv
        exact ⟨_, by simp, rfl, Int.le_refl _⟩
      · have hju' : j < i ∧ u ∈ al ∨ j = i ∧ u ∈ dn := by
          rcases hju with h1 | ⟨h1, h2⟩
          · exact .inl h1
          · rcases List.mem_append.1 h2 with h3 | h3
            · exact .inr ⟨h1, h3⟩
            · simp only [List.mem_singleton] at h3; exact absurd ⟨h1, h3⟩ hnewv
        obtain ⟨e, he, h1, h2⟩ := h.ch j u hj' hju' hk
        exact ⟨e, List.mem_append_left _ he, h1, h2⟩
  · rw [if_neg hc]
    refine ⟨h.ne, h.le, h.rx, h.so, h.hd, fun e he => ?_, fun j u hj hju hk => ?_, h.nd⟩
    · rcases h.pr e he with h1 | ⟨j, u, hj, h1, h2⟩
      · exact .inl h1
      · refine .inr ⟨j, u, hj, h1, ?_⟩
        rcases h2 with h2 | ⟨h2, h3⟩
        · exact .inl h2
        · exact .inr ⟨h2, List.mem_append_left _ h3⟩
    · by_cases hnewv : j = i ∧ u = v
      · obtain ⟨rfl, rfl⟩ := hnewv
        have hm : (enN a b (L.getD j en0) u).ky ∈ (L.drop 1).map En.ky := Decidable.not_not.1 (fun hn => hc ⟨hk, hn⟩)
        obtain ⟨e, he, h1⟩ := List.mem_map.1 hm
        have heL := List.mem_of_mem_drop he
        exact ⟨e, heL, h1, Int.le_of_lt (hnew e heL)⟩
      · have hju' : j < i ∧ u ∈ al ∨ j = i ∧ u ∈ dn := by
          rcases hju with h1 | ⟨h1, h2⟩
          · exact .inl h1
          · rcases List.mem_append.1 h2 with h3 | h3
            · exact .inr ⟨h1, h3⟩
            · simp only [List.mem_singleton] at h3; exact absurd ⟨h1, h3⟩ hnewv
        exact h.ch j u hj hju' hk
theorem eqS_pre (a b : Aut) (e : En) (L : List En) (v : Int) : ∃ r, eqS a b e L v = L ++ r := by
  unfold eqS
  split
  · exact ⟨_, rfl⟩
  · exact ⟨[], by simp⟩
theorem BfI.fold {a b : Aut} {al : List Int} (hal : Sml al) (hinc : Inc al) {i : Nat} {e : En} : ∀ (vs dn : List Int) (L : List En), BfI a b al i dn L → i < L.length → L.getD i en0 = e → dn ++ vs = al → BfI a b al i al (vs.foldl (eqS a b e) L) ∧ i < (vs.foldl (eqS a b e) L).length
  | [], dn, L, h, hi, he, hd => by rw [List.append_nil] at hd; subst hd; exact ⟨h, hi⟩
  | v :: vs, dn, L, h, hi, he, hd => by
    have hva : v ∈ al := by rw [← hd]; simp
    have hdn : ∀ u ∈ dn, u < v ∧ u ∈ al := fun u hu => by
      refine ⟨?_, by rw [← hd]; exact List.mem_append_left _ hu⟩
      rw [← hd] at hinc
      exact (List.pairwise_append.1 hinc).2.2 u hu v List.mem_cons_self
    have h1 := h.step hal hi hva hdn
    obtain ⟨r, hr⟩ := eqS_pre a b (L.getD i en0) L v
    rw [he] at h1 hr
    refine BfI.fold hal hinc vs (dn ++ [v]) _ h1 (by rw [hr]; simp; omega) ?_ (by rw [List.append_assoc]; exact hd)
    rw [hr, getD_app hi]; exact he
theorem BfI.next {a b : Aut} {al : List Int} {i : Nat} {L : List En} (h : BfI a b al i al L) (hi : i < L.length) (hd : dfr a b (L.getD i en0).x (L.getD i en0).y = false) : BfI a b al (i + 1) [] L := by
  refine ⟨h.ne, hi, h.rx, h.so, h.hd, fun e he => ?_, fun j v hj hju hk => ?_, fun j hj => ?_⟩
  · rcases h.pr e he with h1 | ⟨j, u, hj, h1, h2⟩
    · exact .inl h1
    · exact .inr ⟨j, u, hj, h1, .inl (by omega)⟩
  · refine h.ch j v hj ?_ hk
    rcases hju with ⟨h1, h2⟩ | ⟨_, h2⟩
    · by_cases e : j = i
      · exact .inr ⟨e, h2⟩
      · exact .inl ⟨by omega, h2⟩
    · cases h2
  · by_cases e : j = i
    · subst e; exact hd
    · exact h.nd j (by omega)
/-- Every word up to a bound has its entry. -/
theorem BfI.all {a b : Aut} (ha : Okay a) (hb : Okay b) {al : List Int} (hal : Sml al) {i : Nat} {L : List En} (h : BfI a b al i [] L) {B : Option Int} (hB : ∀ j, j < L.length → (∀ c, B = some c → enc (L.getD j en0).u < c) → j < i) : ∀ (u : List Int), (∀ v ∈ u, v ∈ al) → (∀ c, B = some c → enc u < c) → (rn a (x0 a) u, rn b (x0 b) u) ≠ (-1, -1) →
    ∃ j, j < L.length ∧ (L.getD j en0).ky = (rn a (x0 a) u, rn b (x0 b) u) ∧ enc (L.getD j en0).u ≤ enc u := by
  intro u
  induction u using revInd with
  | nil =>
    intro _ _ _
    have hr := h.rx _ (getD_mem h.ne)
    refine ⟨0, h.ne, ?_, by rw [h.hd]; exact Int.le_refl _⟩
    unfold En.ky
    rw [hr.1, hr.2.1, h.hd]
  | append_singleton u v ih =>
    intro hv hlt hne
    have hv1 : ∀ e ∈ u, e ∈ al := fun e he => hv e (List.mem_append_left _ he)
    have hv2 : v ∈ al := hv v (by simp)
    have hsu : Sml u := fun e he => hal e (hv1 e he)
    have hgu := enc_ge hsu
    have hvb := hal v hv2
    have hne' : (rn a (x0 a) u, rn b (x0 b) u) ≠ ((-1 : Int), (-1 : Int)) := fun e => by
      apply hne
      rw [rn_snoc, rn_snoc, (Prod.mk.inj e).1, (Prod.mk.inj e).2, nxt_neg ha, nxt_neg hb]
    obtain ⟨j, hj, hk, hle⟩ := ih hv1 (fun c hc => by have := hlt c hc; rw [enc_snoc] at this; omega) hne'
    have hji : j < i := hB j hj (fun c hc => by have := hlt c hc; rw [enc_snoc] at this; omega)
    have hky : (enN a b (L.getD j en0) v).ky = (rn a (x0 a) (u ++ [v]), rn b (x0 b) (u ++ [v])) := by
      have e1 : (L.getD j en0).x = rn a (x0 a) u := (Prod.mk.inj hk).1
      have e2 : (L.getD j en0).y = rn b (x0 b) u := (Prod.mk.inj hk).2
      show (nxt a.ed (L.getD j en0).x v, nxt b.ed (L.getD j en0).y v) = _
      rw [rn_snoc, rn_snoc, e1, e2]
    obtain ⟨e, he, h1, h2⟩ := h.ch j v hj (.inl ⟨hji, hv2⟩) (by rw [hky]; exact hne)
    obtain ⟨q, hq, hqe⟩ := List.getElem_of_mem he
    have hqd : L.getD q en0 = e := by rw [← hqe]; simp [List.getD, hq]
    refine ⟨q, hq, by rw [hqd, h1, hky], ?_⟩
    rw [hqd]
    rw [enc_snoc] at h2 ⊢
    omega
/-- What the search returns. -/
theorem eqL_spec {a b : Aut} (ha : Okay a) (hb : Okay b) {al : List Int} (hal : Sml al) (hinc : Inc al) : ∀ (f i : Nat) (L : List En), BfI a b al i [] L → EnI a b L → (a.st.toNat + 1) * (b.st.toNat + 1) + 1 ≤ i + f →
    match eqL a b al f i L with
    | some w => dif a b w = true ∧ (∀ v ∈ w, v ∈ al) ∧ ∀ u, (∀ v ∈ u, v ∈ al) → dif a b u = true → enc w ≤ enc u
    | none => ∀ u, (∀ v ∈ u, v ∈ al) → dif a b u = false
  | 0, i, L, h, hE, hf => by
    have hle := hE.le ha hb
    have hi : i = L.length := by have := h.le; omega
    rw [eqL]
    intro u hu
    cases hd : dif a b u with
    | false => rfl
    | true =>
      exfalso
      rw [dif_dfr ha hb] at hd
      have hne : (rn a (x0 a) u, rn b (x0 b) u) ≠ ((-1 : Int), (-1 : Int)) := fun e => by
        rw [(Prod.mk.inj e).1, (Prod.mk.inj e).2, dfr_none ha hb] at hd; cases hd
      obtain ⟨j, hj, hk, _⟩ := h.all ha hb hal (B := none) (fun j hj _ => by omega) u hu (fun c hc => by cases hc) hne
      have := h.nd j (by omega)
      have e1 : (L.getD j en0).x = rn a (x0 a) u := (Prod.mk.inj hk).1
      have e2 : (L.getD j en0).y = rn b (x0 b) u := (Prod.mk.inj hk).2
      rw [e1, e2, hd] at this; cases this
  | f + 1, i, L, h, hE, hf => by
    rw [eqL]
    by_cases hi : i < L.length
    · rw [if_pos hi]
      cases hdf : dfr a b (L.getD i en0).x (L.getD i en0).y with
      | true =>
        rw [if_pos rfl]
        have hr := h.rx _ (getD_mem hi)
        refine ⟨by rw [dif_dfr ha hb, ← hr.1, ← hr.2.1]; exact hdf, hr.2.2, fun u hu hd => ?_⟩
        rcases Int.lt_or_le (enc u) (enc (L.getD i en0).u) with hlt | hge
        · exfalso
          rw [dif_dfr ha hb] at hd
          have hne : (rn a (x0 a) u, rn b (x0 b) u) ≠ ((-1 : Int), (-1 : Int)) := fun e => by
            rw [(Prod.mk.inj e).1, (Prod.mk.inj e).2, dfr_none ha hb] at hd; cases hd
          have hB : ∀ j, j < L.length → (∀ c, some (enc (L.getD i en0).u) = some c → enc (L.getD j en0).u < c) → j < i := fun j hj hc => by
            have h1 := hc _ rfl
            rcases Nat.lt_or_ge j i with h2 | h2
            · exact h2
            · exfalso
              rcases Nat.eq_or_lt_of_le h2 with h3 | h3
              · subst h3; omega
              · have := List.pairwise_iff_getElem.1 h.so i j hi hj h3
                have e1 : (L[i]'hi) = L.getD i en0 := by simp [List.getD, hi]
                have e2 : (L[j]'hj) = L.getD j en0 := by simp [List.getD, hj]
                rw [e1, e2] at this; omega
          obtain ⟨j, hj, hk, hle⟩ := h.all ha hb hal hB u hu (fun c hc => by cases hc; exact hlt) hne
          have hji := hB j hj (fun c hc => by cases hc; omega)
          have := h.nd j hji
          have e1 : (L.getD j en0).x = rn a (x0 a) u := (Prod.mk.inj hk).1
          have e2 : (L.getD j en0).y = rn b (x0 b) u := (Prod.mk.inj hk).2
          rw [e1, e2, hd] at this; cases this
        · exact hge
      | false =>
        rw [if_neg (by simp)]
        obtain ⟨k1, k2⟩ := BfI.fold hal hinc (e := L.getD i en0) al [] L h hi rfl rfl
        have hei : L[i]'hi = L.getD i en0 := by simp [List.getD, hi]
        obtain ⟨hE2, r, hr⟩ := eqS_fold ha hb al L i hi (L.getD i en0) hei hE
        refine eqL_spec ha hb hal hinc f (i + 1) _ (k1.next k2 ?_) hE2 (by omega)
        rw [hr, getD_app hi]; exact hdf
    · rw [if_neg hi]
      intro u hu
      cases hd : dif a b u with
      | false => rfl
      | true =>
        exfalso
        rw [dif_dfr ha hb] at hd
        have hne : (rn a (x0 a) u, rn b (x0 b) u) ≠ ((-1 : Int), (-1 : Int)) := fun e => by
          rw [(Prod.mk.inj e).1, (Prod.mk.inj e).2, dfr_none ha hb] at hd; cases hd
        obtain ⟨j, hj, hk, _⟩ := h.all ha hb hal (B := none) (fun j hj _ => by omega) u hu (fun c hc => by cases hc) hne
        have := h.nd j (by omega)
        have e1 : (L.getD j en0).x = rn a (x0 a) u := (Prod.mk.inj hk).1
        have e2 : (L.getD j en0).y = rn b (x0 b) u := (Prod.mk.inj hk).2
        rw [e1, e2, hd] at this; cases this
theorem eqv_spec {a b : Aut} (ha : Okay a) (hb : Okay b) {al : List Int} (hal : Sml al) (hinc : Inc al) :
    match eqv a b al with
    | some w => dif a b w = true ∧ (∀ v ∈ w, v ∈ al) ∧ ∀ u, (∀ v ∈ u, v ∈ al) → dif a b u = true → enc w ≤ enc u
    | none => ∀ u, (∀ v ∈ u, v ∈ al) → dif a b u = false := by
  unfold eqv
  refine eqL_spec ha hb hal hinc _ 0 (eqI a b) ?_ (eqI_I a b ha.st0 hb.st0) (by omega)
  refine ⟨by simp [eqI], Nat.zero_le _, fun e he => ?_, by simp [eqI], by simp [eqI, List.getD], fun e he => ?_, fun j v _ hju => ?_, fun j hj => by omega⟩
  · simp only [eqI, List.mem_singleton] at he
    subst he
    exact ⟨rfl, rfl, by simp⟩
  · simp only [eqI, List.mem_singleton] at he
    subst he; exact .inl rfl
  · rcases hju with ⟨h1, _⟩ | ⟨_, h2⟩
    · omega
    · cases h2
end Go.Proofs.YtfhgnlkdcdlblaaDoor
/- automaton.Words as a plain function: all words up to a length, in shortlex order. -/
namespace Go.Proofs.YtfhgnlkdcdlblaaDoor
open Go.Lg

structure Fw where
  u : List Int
  s : Int
def fw0 : Fw := ⟨[], 0⟩
def wdN (e : Fw) (d : Ed) : Fw := ⟨e.u ++ [d.2.1], d.2.2⟩
def wdR (a : Aut) (e : Fw) : List Fw := (outE a.ed e.s).map (wdN e)
def wdL (a : Aut) (most : Nat) : Nat → Nat → List Fw → Option (List Fw)
  | 0, _, L => some L
  | f + 1, i, L => if i < L.length then (if (L.getD i fw0).u.length = most then some L else if 1024 < (L ++ wdR a (L.getD i fw0)).length then none else wdL a most f (i + 1) (L ++ wdR a (L.getD i fw0))) else some L
def wds (a : Aut) (most : Nat) : Option (List Fw) := wdL a most 1025 0 [fw0]
structure WdI (a : Aut) (most i : Nat) (L : List Fw) : Prop where
  ne : 0 < L.length
  le : i ≤ L.length
  mx : L.length ≤ 1024
  rx : ∀ e ∈ L, e.s = rn a 0 e.u ∧ 0 ≤ e.s ∧ e.s < a.st ∧ (∀ v ∈ e.u, v ∈ a.al) ∧ e.u.length ≤ most
  so : L.Pairwise fun p q => enc p.u < enc q.u
  hd : (L.getD 0 fw0).u = []
  pr : ∀ e ∈ L, e.u = [] ∨ ∃ j v, j < i ∧ e.u = (L.getD j fw0).u ++ [v]
  ch : ∀ j v, j < i → 0 ≤ nxt a.ed (L.getD j fw0).s v → ∃ e ∈ L, e.u = (L.getD j fw0).u ++ [v]
theorem fget_mem {L : List Fw} {i : Nat} (h : i < L.length) : L.getD i fw0 ∈ L := by simp [List.getD, h]
theorem fget_app {L r : List Fw} {i : Nat} (h : i < L.length) : (L ++ r).getD i fw0 = L.getD i fw0 := by simp [List.getD, List.getElem?_append_left h]
theorem WdI.step {a : Aut} (ho : Okay a) {most i : Nat} {L : List Fw} (h : WdI a most i L) (hi : i < L.length) (hl : (L.getD i fw0).u.length ≠ most) (hm : ¬ 1024 < (L ++ wdR a (L.getD i fw0)).length) : WdI a most (i + 1) (L ++ wdR a (L.getD i fw0)) := by
  have hal : Sml a.al := ho.al
  have hSm : ∀ e ∈ L, Sml e.u := fun e he u hu => hal u ((h.rx e he).2.2.2.1 u hu)
  have hiM := fget_mem hi
  obtain ⟨r1, r2, r3, r4, r5⟩ := h.rx _ hiM
  generalize hei : L.getD i fw0 = ei at *
  have hrow : ∀ e ∈ wdR a ei, ∃ d ∈ outE a.ed ei.s, e = wdN ei d ∧ d.2.1 ∈ a.al ∧ 0 ≤ d.2.2 ∧ d.2.2 < a.st ∧ nxt a.ed ei.s d.2.1 = d.2.2 := fun e he => by
    unfold wdR at he
    obtain ⟨d, hd, rfl⟩ := List.mem_map.1 he
    obtain ⟨hd1, hd2⟩ := outE_mem hd
    have hda := ho.ed d hd1
    refine ⟨d, hd, rfl, hda.2.2.1, hda.2.2.2.1, hda.2.2.2.2, ?_⟩
    -- the edge is the one that is found
    rw [nxt_out]
    obtain ⟨k, hk, rfl⟩ := List.getElem_of_mem hd
    refine nxt_at _ ei.s _ k hk (fun e he => (outE_mem he).2) rfl (fun m hmk e => ?_)
    have hp : (outE a.ed ei.s).Pairwise fun x y : Ed => x.1 < y.1 ∨ (x.1 = y.1 ∧ x.2.1 < y.2.1) := List.Pairwise.sublist List.filter_sublist ho.edi
    have := List.pairwise_iff_getElem.1 hp m k (by omega) hk hmk
    have e1 := (outE_mem (List.getElem_mem (l := outE a.ed ei.s) (show m < (outE a.ed ei.s).length by omega))).2
    have e2 := (outE_mem (List.getElem_mem hk)).2
    omega
  have hgi := enc_ge (hSm _ hiM)
  have hnew : ∀ e ∈ L, ∀ v, v ∈ a.al → enc e.u < enc (ei.u ++ [v]) := fun e he v hv => by
    have hvb := hal v hv
    rw [enc_snoc]
    rcases h.pr e he with h1 | ⟨j, u, hj, h1⟩
    · rw [h1]; show (0 : Int) < _; omega
    · rw [h1, enc_snoc]
      have hlt : enc (L.getD j fw0).u < enc ei.u := by
        have := List.pairwise_iff_getElem.1 h.so j i (by omega) hi hj
        rw [← hei]
        simpa [List.getD, show j < L.length by omega, hi] using this
      have hub : u < 32 := by
        have := (h.rx e he).2.2.2.1 u (by rw [h1]; simp)
        exact (hal u this).2
      omega
  have keepD : ∀ r : List Fw, ∀ j, j < L.length → (L ++ r).getD j fw0 = L.getD j fw0 := fun r j hj => fget_app hj
  refine ⟨by simp; have := h.ne; omega, by simp; omega, by omega, fun e he => ?_, ?_, by rw [keepD _ 0 h.ne]; exact h.hd, fun e he => ?_, fun j v hj hn => ?_⟩
  · rcases List.mem_append.1 he with he | he
    · exact h.rx e he
    · obtain ⟨d, _, rfl, h1, h2, h3, h4⟩ := hrow e he
      refine ⟨?_, h2, h3, fun u hu => ?_, ?_⟩
      · show d.2.2 = rn a 0 (ei.u ++ [d.2.1]); rw [rn_snoc, ← r1, h4]
      · rcases List.mem_append.1 (show u ∈ ei.u ++ [d.2.1] from hu) with hu | hu
        · exact r4 u hu
        · simp only [List.mem_singleton] at hu; subst hu; exact h1
      · show (ei.u ++ [d.2.1]).length ≤ most
        rw [List.length_append, List.length_singleton]; omega
  · rw [List.pairwise_append]
    refine ⟨h.so, ?_, fun p hp q hq => ?_⟩
    · unfold wdR
      rw [List.pairwise_map]
      have hp : (outE a.ed ei.s).Pairwise fun x y : Ed => x.1 < y.1 ∨ (x.1 = y.1 ∧ x.2.1 < y.2.1) := List.Pairwise.sublist List.filter_sublist ho.edi
      refine List.Pairwise.imp_of_mem (fun {x y} hx hy hxy => ?_) hp
      have e1 := (outE_mem hx).2
      have e2 := (outE_mem hy).2
      show enc (ei.u ++ [x.2.1]) < enc (ei.u ++ [y.2.1])
      rw [enc_snoc, enc_snoc]; omega
    · obtain ⟨d, _, rfl, h1, _⟩ := hrow q hq
      exact hnew p hp _ h1
  · rcases List.mem_append.1 he with he | he
    · rcases h.pr e he with h1 | ⟨j, u, hj, h1⟩
      · exact .inl h1
      · exact .inr ⟨j, u, by omega, by rw [keepD _ j (by omega)]; exact h1⟩
    · obtain ⟨d, _, rfl, _⟩ := hrow e he
      exact .inr ⟨i, d.2.1, by omega, by rw [keepD _ i hi, hei]; rfl⟩
  · rw [keepD _ j (by omega)] at hn ⊢
    by_cases e : j = i
    · subst e
      rw [hei] at hn ⊢
      have hm2 := nxt_mem hn
      refine ⟨wdN ei (ei.s, v, nxt a.ed ei.s v), List.mem_append_right _ ?_, rfl⟩
      unfold wdR
      exact List.mem_map_of_mem (by unfold outE; exact List.mem_filter.2 ⟨hm2, by simp⟩)
    · obtain ⟨e', he', h1⟩ := h.ch j v (by omega) hn
      exact ⟨e', List.mem_append_left _ he', h1⟩
/-- Where the search ends. -/
structure WdR (a : Aut) (most : Nat) (L : List Fw) : Prop where
  so : L.Pairwise fun p q => enc p.u < enc q.u
  mx : L.length ≤ 1024
  rx : ∀ e ∈ L, e.s = rn a 0 e.u ∧ 0 ≤ e.s ∧ e.s < a.st ∧ (∀ v ∈ e.u, v ∈ a.al) ∧ e.u.length ≤ most
  all : ∀ u : List Int, 0 ≤ rn a 0 u → u.length ≤ most → ∃ e ∈ L, e.u = u
theorem WdI.fin {a : Aut} (ho : Okay a) {most i : Nat} {L : List Fw} (h : WdI a most i L) (hend : L.length ≤ i ∨ (i < L.length ∧ (L.getD i fw0).u.length = most)) : WdR a most L := by
  have hal : Sml a.al := ho.al
  have hSm : ∀ e ∈ L, Sml e.u := fun e he u hu => hal u ((h.rx e he).2.2.2.1 u hu)
  refine ⟨h.so, h.mx, h.rx, fun u => ?_⟩
  induction u using revInd with
  | nil => intro _ _; exact ⟨_, fget_mem h.ne, h.hd⟩
  | append_singleton u v ih =>
    intro hn hlen
    rw [List.length_append, List.length_singleton] at hlen
    rw [rn_snoc] at hn
    have hr0 : 0 ≤ rn a 0 u := by
      rcases Int.lt_or_le (rn a 0 u) 0 with hlt | hge
      · exfalso
        have hm := nxt_mem hn
        have := (ho.ed _ hm).1
        simp only [] at this
        omega
      · exact hge
    obtain ⟨e, he, heu⟩ := ih hr0 (by omega)
    obtain ⟨j, hj, hje⟩ := List.getElem_of_mem he
    have hjd : L.getD j fw0 = e := by rw [← hje]; simp [List.getD, hj]
    have hji : j < i := by
      rcases hend with h1 | ⟨hi, h1⟩
      · omega
      · rcases Nat.lt_or_ge j i with h2 | h2
        · exact h2
        · exfalso
          have hle : enc (L.getD i fw0).u ≤ enc u := by
            rcases Nat.eq_or_lt_of_le h2 with h3 | h3
            · subst h3; rw [hjd, heu]; exact Int.le_refl _
            · have := List.pairwise_iff_getElem.1 h.so i j hi hj h3
              have e1 : (L[i]'hi) = L.getD i fw0 := by simp [List.getD, hi]
              rw [e1, hje, heu] at this; omega
          have := enc_len (hSm _ (fget_mem hi)) (by rw [← heu]; exact hSm e he) hle
          omega
    have hes := (h.rx e he).1
    obtain ⟨e', he', h1⟩ := h.ch j v hji (by rw [hjd, hes, heu]; exact hn)
    exact ⟨e', he', by rw [h1, hjd, heu]⟩
theorem wdL_spec {a : Aut} (ho : Okay a) {most : Nat} : ∀ (f i : Nat) (L R : List Fw), WdI a most i L → 1025 ≤ i + f → wdL a most f i L = some R → WdR a most R
  | 0, i, L, R, h, hf, e => by
    rw [wdL] at e
    cases e
    exact h.fin ho (.inl (by have := h.mx; omega))
  | f + 1, i, L, R, h, hf, e => by
    rw [wdL] at e
    by_cases hi : i < L.length
    · rw [if_pos hi] at e
      by_cases hl : (L.getD i fw0).u.length = most
      · rw [if_pos hl] at e
        cases e
        exact h.fin ho (.inr ⟨hi, hl⟩)
      · rw [if_neg hl] at e
        by_cases hm : 1024 < (L ++ wdR a (L.getD i fw0)).length
        · rw [if_pos hm] at e; cases e
        · rw [if_neg hm] at e
          exact wdL_spec ho f (i + 1) _ R (h.step ho hi hl hm) (by omega) e
    · rw [if_neg hi] at e
      cases e
      exact h.fin ho (.inl (by omega))
theorem wd0_I {a : Aut} (h0 : 0 < a.st) (most : Nat) : WdI a most 0 [fw0] := by
  refine ⟨by simp, Nat.zero_le _, by simp, fun e he => ?_, by simp, by simp [List.getD, fw0], fun e he => ?_, fun j v hj => by omega⟩
  · simp only [List.mem_singleton] at he
    subst he
    exact ⟨rfl, Int.le_refl _, h0, by simp [fw0], by simp [fw0]⟩
  · simp only [List.mem_singleton] at he
    subst he; exact .inl rfl
theorem wds_spec {a : Aut} (ho : Okay a) (h0 : 0 < a.st) {most : Nat} {R : List Fw} (h : wds a most = some R) : WdR a most R := wdL_spec ho 1025 0 [fw0] R (wd0_I h0 most) (by omega) h
end Go.Proofs.YtfhgnlkdcdlblaaDoor
/- append onto a slice that is still read. -/
namespace Go.Lg
section
variable {P : Program} {ops : List Oper} {K : Fr → World → Prop} {f : Fr} {w : World} {d : Option Nat} {ty : Nat} {ps : String} {af : Array Edge} {gd : Option (Nat × Bool)}
theorem run_append_keep {base t ty e : Nat} {sz bys : Nat} {z : Value} [h : Sl P t e sz bys z] {v : Value} {n : Nat} {cs : List Value} (hown : w.ownsRow base e sz v n cs)
    {a : Addr} {m c : Nat} {news : List Value} (hl : news.length = m * sz) (hnews : ∀ j u, news[j]? = some u → w.cell? (a.add j) = some u) (h1 : ∀ u ∈ news, u.oneCell' = true)
    (hb : n + m ≤ 1099511627776) (hby : bys ≤ 128) (hbase : base ≤ w.heap.size) :
    ∃ v' w', (Builtin.append_ #[t, t] ty #[v, .slice (some a) m c]).run P w = .ok v' w' ∧ w'.ownsRow base e sz v' (n + m) (cs ++ news) ∧ Step (ob v) w w' ∧ (∀ b ∈ ob v', b ∈ ob v ∨ w.heap.size ≤ b) ∧ w'.ownsRow base e sz v n cs := by
  obtain ⟨i, hi, hz, hsz, hbys⟩ := Sl.info h
  have hbytes : (n + m) * bys ≤ 140737488355328 := Nat.le_trans (Nat.mul_le_mul hb hby) (by omega)
  have h63 : n + m ≤ maxLen := by simp only [maxLen]; omega
  by_cases hg : ∃ g cap cur, v = .slice (some ⟨g, 0, none⟩) n cap ∧ w.heap[g]? = some (.cells cur e (0, 0)) ∧ n + m ≤ cap
  · obtain ⟨v', w', hr, ho, hgr, _⟩ := run_append_own (P := P) w base t ty e i z sz bys h.u hi hz hsz hbys h.zs h.pos v n cs hown a m c news hl hnews h1 h63 hbytes hbase
    have hst : Step (ob v) w w' := by rw [ob_own]; exact Step.of_grown hgr
    refine ⟨v', w', hr, ho, hst, ?_⟩
    obtain ⟨g, cap, cur, rfl, hgg, hroom⟩ := hg
    rcases hown.2 with ⟨h2, _⟩ | ⟨g2, cap2, cur2, h2, h3, h4, h5, h6, h7, h8⟩
    · cases h2
    · cases h2
      have hfit : n * i.size + news.length ≤ cur2.size := by rw [hl, h7, hsz, ← Nat.add_mul]; exact Nat.mul_le_mul_right _ hroom
      have hr2 := run_append_room (P := P) w t ty e i h.u hi g n cap cur2 h4 a m c news (by rw [hsz]; exact hl) hnews h1 hroom hfit
      rw [hr2] at hr
      cases hr
      refine ⟨fun b hb' => .inl hb', hown.1, ?_⟩
      have hcl := hown.1
      rcases ho.2 with ⟨e1, _⟩ | ⟨g3, cap3, cur3, e1, k3, k4, k5, k6, k7, k8⟩
      · cases e1
      · cases e1
        refine .inr ⟨g, cap, cur3, rfl, k3, k4, h5, k6, k7, ?_⟩
        have := congrArg (List.take (n * sz)) k8
        rw [List.take_take, Nat.min_eq_left (Nat.mul_le_mul_right _ (Nat.le_add_right n m)), List.take_append_of_le_length (by omega), List.take_of_length_le (l := cs) (by omega)] at this
        exact this
  · have new : ∀ (old : Nat), old < n + m → ∀ o', o' = (Obj.cells (cs.toArray ++ news.toArray ++ Builtin.zeroCells z.cells (grownCap w (n + m) old e - (n + m))) e) →
        (w.drew.alloc o').ownsRow base e sz (.slice (some ⟨w.heap.size, 0, none⟩) (n + m) (grownCap w (n + m) old e)) (n + m) (cs ++ news) := by
      intro old ho o' ho'
      subst ho'
      have hge := grownCap_ge w (n + m) old e
      have hcm : grownCap w (n + m) old e ≤ maxLen := grownCap_le_maxLen w (n + m) old e h63
      have hlen : (cs ++ news).length = (n + m) * sz := by rw [List.length_append, hown.1, hl, Nat.add_mul]
      refine ⟨hlen, .inr ⟨w.heap.size, _, _, rfl, hbase, al_new w.drew _, hge, hcm, ?_, ?_⟩⟩
      · simp only [Array.size_append, List.size_toArray, size_zeroCells, h.zs, hown.1, hl, ← Nat.add_mul]
        congr 1; omega
      · simp only [Array.toList_append, List.append_assoc]
        rw [← List.append_assoc, ← hlen]
        exact List.take_left
    have stp : ∀ o', Step (ob v) w (w.drew.alloc o') := fun o' => ⟨rfl, rfl, rfl, by rw [al_size]; exact Nat.le_succ _, fun k hk _ => al_old w.drew o' k hk⟩
    have stp0 : ∀ o', Step [] w (w.drew.alloc o') := fun o' => ⟨rfl, rfl, rfl, by rw [al_size]; exact Nat.le_succ _, fun k hk _ => al_old w.drew o' k hk⟩
    have fin : ∀ (b : Nat), b ∈ ob (.slice (some ⟨w.heap.size, 0, none⟩) (n + m) 0) → b ∈ ob v ∨ w.heap.size ≤ b := fun b hb' => by simp [ob] at hb'; omega
    rcases hown.2 with ⟨rfl, rfl⟩ | ⟨g, cap, cur, rfl, hbg, hgg, hnc, hcm, hcs, htake⟩
    · have hx : cs = [] := List.eq_nil_of_length_eq_zero (by simpa using hown.1)
      subst hx
      by_cases hm : m = 0
      · subst hm
        have hn : news = [] := List.eq_nil_of_length_eq_zero (by simpa using hl)
        subst hn
        refine ⟨.slice none 0 0, w, ?_, own_nil _ _ _ _, Step.refl _ _, fun b hb' => by simp [ob] at hb', own_nil _ _ _ _⟩
        simp [Builtin.append_, run_underlying h.u, sizeOf, typeInfo, hi, Builtin.lenOf, Builtin.firstCells, loadCells, loadCellsFrom]
      · have hr := run_append_nil (P := P) w t ty e i z h.u hi hz a m c news (by rw [hsz]; exact hl) hnews (by omega) (by omega) (by rw [hbys]; have hb2 := hbytes; simp only [Nat.zero_add] at hb2; omega)
        have hn := new 0 (by omega) _ rfl
        simp only [Nat.zero_add, List.nil_append, Array.empty_append] at hn ⊢
        exact ⟨_, _, hr, hn, stp _, fun b hb' => fin b hb', own_nil _ _ _ _⟩
    · have hroom : cap < n + m := by
        rcases Nat.lt_or_ge cap (n + m) with hlt | hge
        · exact hlt
        · exact absurd ⟨g, cap, cur, rfl, hgg, hge⟩ hg
      have holds : ∀ j u, cs[j]? = some u → w.cell? ((⟨g, 0, none⟩ : Addr).add j) = some u := hown.cells (g := g) rfl
      have hr := run_append_grow (P := P) w t ty e i z h.u hi hz ⟨g, 0, none⟩ n cap cs (by rw [hsz]; exact hown.1) holds a m c news (by rw [hsz]; exact hl) hnews hroom (by omega) (growslice_fits hroom (by rw [hbys]; exact hbytes))
      exact ⟨_, _, hr, new cap hroom _ rfl, stp _, fun b hb' => fin b hb', own_ext hown (stp0 _)⟩
theorem o_appK {t e sz bys : Nat} {z : Value} [h : Sl P t e sz bys z] {s y : Operand} {base : Nat} {v : Value} {n : Nat} {cs : List Value} (hown : w.ownsRow base e sz v n cs) (hs : ev f s = v)
    {a : Addr} {m c : Nat} {news : List Value} (hy : ev f y = .slice (some a) m c) (hl : news.length = m * sz) {L : List Nat} (hsrc : At L w.heap a news) (h1 : ∀ u ∈ news, u.oneCell' = true)
    (hb : n + m ≤ 1099511627776) (hbase : base ≤ w.heap.size)
    (hK : ∀ v' w', w'.ownsRow base e sz v' (n + m) (cs ++ news) → Step (ob v) w w' → (∀ b ∈ ob v', b ∈ ob v ∨ w.heap.size ≤ b) → w'.ownsRow base e sz v n cs → K (putF f d v') w') (hby : bys ≤ 128 := by decide) :
    XO P ⟨d, .call ⟨.builtin .append, #[s, y], #[t, t]⟩, ty, ps, af, gd⟩ f w K := by
  obtain ⟨v', w', hr, h2, h3, h4, h5⟩ := run_append_keep (P := P) (t := t) (ty := ty) hown hl hsrc.cells h1 hb hby hbase (c := c)
  have hr' : (execOp (ev f) ⟨d, .call ⟨.builtin .append, #[s, y], #[t, t]⟩, ty, ps, af, gd⟩).run P w = .ok (.value v') w' := by
    simp [execOp, resolve, invoke, builtin, hs, hy, hr]
  exact xv hr' (hK v' w' h2 h3 h4 h5)
end
section
variable {P : Program} {ops : List Oper} {K : Fr → World → Prop} {f : Fr} {w : World} {d : Option Nat} {ty : Nat} {ps : String} {af : Array Edge} {gd : Option (Nat × Bool)} {C : World → Prop} {pl : List (Nat × Bool)} {i0 : Nat}
/-- An element of a slice that stands in every world of the class. -/
theorem pigC {α : Type} {g : α → List Value} {x y : Operand} {t e sz bys : Nat} {z : Value} [Sl P t e sz bys z] (ho : opAt ops i0 = ⟨d, .indexAddr t x y, ty, ps, af, gd⟩) (hg' : ∀ x, (g x).length = sz) {L : List Nat} {es : List α} {v : Value} {w0 : World} {k : IntKind} {i : Nat}
    (h : ∀ w', C w' → Arr L w'.heap v es.length sz (es.flatMap g)) (h0 : C w0) (hv : ev f x = v) (hy : ev f y = .int k i) (hi : i < es.length)
    (hK : ∀ a, (∀ w', C w' → At L w'.heap a (g es[i])) → XP P ops C K pl (putF f d (.pointer (some a))) w) (hg : gdF ops f (opAt ops i0) = true := by rfl) :
    XP P ops C K ((i0, true) :: pl) f w := by
  obtain ⟨a, cap, h1, _⟩ := Arr.at (h w0 h0) hi
  refine Lg.p (fun w' => by rw [ho]; exact r_index (hv.trans h1) hy (by omega) (by omega)) ?_ hg
  rw [ho]
  refine hK _ fun w' hc => ?_
  obtain ⟨a', cap', h1', h2⟩ := Arr.at (h w' hc) hi
  rw [h1'] at h1
  cases h1
  rw [flat_at g sz hg' es i hi] at h2
  simpa using h2
/-- The first cells of a block. -/
theorem o_storesP {t sz : Nat} [h1 : Ag P t sz] {x y : Operand} {b T : Nat} {cs us : List Value} (hB : Blk w.heap b T cs) (hx : ev f x = .pointer (some ⟨b, 0, none⟩)) (hy : ev f y = .agg us.toArray) (hl : us.length = sz) (hj : sz ≤ cs.length) (hu : ∀ u ∈ us, u.oneCell' = true)
    (hK : ∀ w', Step [b] w w' → Blk w'.heap b T (us ++ cs.drop sz) → K (putF f d undef) w') : XO P ⟨d, .store t x y, ty, ps, af, gd⟩ f w K := by
  have hr := run_storeCells_at P b 0 T us 0 cs.toArray w hB (by simp; omega) hu
  have e : (cs.take 0 ++ us ++ cs.drop us.length) = us ++ cs.drop us.length := by simp
  simp only [Nat.add_zero, Nat.zero_add, e] at hr
  subst hl
  refine xk (w' := w.setRow b (us ++ cs.drop us.length).toArray) ?_ (hK _ (Step.setRow _ _ _) (setRow_blk hB))
  simp [execOp, hx, hy, Instr.storeAt, Instr.sureAddr, storeVar, sizeOf_ag (sz := us.length), Value.cells, hr]
end
end Go.Lg
/- Contract: automaton.Words. -/
namespace Go.Proofs.YtfhgnlkdcdlblaaDoor
open Go.Lg

theorem boolX (b : Bool) : b = true ∨ b = false := by cases b; exact .inr rfl; exact .inl rfl
structure FV where
  v : Value
  f : Fw
abbrev fvCells (p : FV) : List Value := [p.v, .int .i64 p.f.s]
theorem fv_len (p : FV) : (fvCells p).length = 2 := rfl
structure WdM (wB : World) (vL : Value) (es : List FV) (w : World) : Prop where
  st : Step [] wB w
  l : w.ownsRow wB.heap.size 124 2 vL es.length (es.flatMap fvCells)
  each : ∀ p ∈ es, Ints (ob vL) w.heap p.v p.f.u
theorem WdM.ext {wB w w' : World} {vL : Value} {es : List FV} (h : WdM wB vL es w) (hs : Step [] w w') : WdM wB vL es w' := ⟨h.st.trans hs, own_ext h.l hs, fun p hp => (h.each p hp).ext hs⟩
theorem WdM.add {wB w w' : World} {vL vL' : Value} {es : List FV} {p : FV} (h : WdM wB vL es w) (hs : Step (ob vL) w w') (hl : w'.ownsRow wB.heap.size 124 2 vL' (es.length + 1) (es.flatMap fvCells ++ fvCells p)) (hn : ∀ b ∈ ob vL', b ∈ ob vL ∨ w.heap.size ≤ b) (hp : Ints (ob vL) w.heap p.v p.f.u) : WdM wB vL' (es ++ [p]) w' := by
  refine ⟨h.st.then hs (fun b hb => .inr (own_ge h.l b hb).1), by rw [List.length_append, List.flatMap_append]; simpa using hl, fun q hq => ?_⟩
  rcases List.mem_append.1 hq with hq | hq
  · exact (h.each q hq).grow hs (fun b hb => hb) hn
  · simp only [List.mem_singleton] at hq; subst hq; exact hp.grow hs (fun b hb => hb) hn
theorem fv_get {es : List FV} {i : Nat} (h : i < es.length) : (es.map (·.f)).getD i fw0 = (es[i]'h).f := by simp [List.getD, h]
theorem out_len {a : Aut} (ho : Okay a) (s : Int) : (outE a.ed s).length ≤ 32 := by
  have hp : (outE a.ed s).Pairwise fun x y : Ed => x.1 < y.1 ∨ (x.1 = y.1 ∧ x.2.1 < y.2.1) := List.Pairwise.sublist List.filter_sublist ho.edi
  have hi : Inc ((outE a.ed s).map fun e => e.2.1) := by
    unfold Inc
    rw [List.pairwise_map]
    refine List.Pairwise.imp_of_mem (fun {x y} hx hy hxy => ?_) hp
    have e1 := (outE_mem hx).2
    have e2 := (outE_mem hy).2
    omega
  have := inc_length _ 0 32 hi (fun v hv => by
    obtain ⟨e, he, rfl⟩ := List.mem_map.1 hv
    exact ho.al _ (ho.ed e (outE_mem he).1).2.2.1)
  rw [List.length_map] at this
  omega
def wdsW (a : Aut) (most : Nat) : Option (List (List Int)) := if a.st = 0 then some [] else (wds a most).map fun L => L.map (·.u)
def WdRes (o : Option (List (List Int))) (r : Value) (H : Array Obj) : Prop := (o = none ∧ r = .tuple #[nilS, .int .i64 3]) ∨ ∃ l v ps, o = some l ∧ r = .tuple #[v, .int .i64 0] ∧ Tups [] H v ps ∧ ps.map (·.2) = l

set_option maxHeartbeats 16000000 in
theorem Words_ok {w : World} {va vm ve : Value} {a : Aut} (h : AutA [] w.heap va vm ve a) (hck : ckA a = 0) (ho : Okay a) (most : Nat) (hmo : most ≤ 4096) :
    Ret Tryd.prog 31 [.agg #[va, .int .i64 a.st, vm, ve], .int .i64 most, .bool false] w fun r w' => Step [] w w' ∧ WdRes (wdsW a most) r w'.heap := by
  have hst0 := ho.st0
  have hst1 := ho.st1
  refine Ret.of_W Tryd.func31 rfl Tryd.ntmps31 Tryd.results31 (by simp) ?_
  refine W_seq <| W_region (by rfl) ?_
  refine xl rfl <| o_box (us := [va, .int .i64 a.st, vm, ve]) rfl fun b3 w1 hs1 hb3 hB3 => x r_assign <| x r_assign <| xe ?_
  refine W_seq <| W_seq <| W_region (by rfl) ?_
  refine x (r_loadsB hB3 rfl rfl) <| xl rfl <| xf <| (check_ok (h.ext hs1)).mono ?_
  rintro r2 w2 ⟨hr2, hs2⟩
  rw [hck] at hr2
  subst hr2
  have hs12 := hs1.trans hs2
  refine x r_assign <| xe ?_
  refine W_seq <| W_region (by rfl) ?_
  refine x r_move <| x (r_neq rfl rfl) <| xe ?_
  refine W_false rfl ?_
  refine W_skip ?_
  refine W_seq <| W_seq <| W_region (by rfl) ?_
  refine x r_move <| xb (r_lss rfl rfl) (fun h22 => absurd (show (most : Int) < 0 from h22) (by omega)) (fun h22 => ?_)
  refine x r_move <| x r_move <| x (r_gtr rfl rfl) <| x (r_pick rfl) <| xe ?_
  refine W_if rfl (fun h26 => absurd (show (most : Int) > 4096 from h26) (by omega)) (fun h26 => ?_)
  refine W_skip ?_
  have hB32 := hB3.ext hs2
  refine W_seq <| W_seq <| W_region (by rfl) ?_
  refine x (r_fieldB rfl) <| x (r_loadB hB32 rfl rfl) <| x (r_eql rfl rfl) <| xe ?_
  refine W_if rfl (fun h29 => ?_) (fun h29 => ?_)
  · refine W_seq <| W_region (by rfl) ?_
    refine x r_assign <| x r_assign <| xe ?_
    exact W_ret ⟨[nilS, .int .i64 0], ⟨rfl, rfl, trivial⟩, hs12, .inr ⟨[], nilS, [], by unfold wdsW; rw [if_pos h29], rfl, ⟨Arr.nil _ _ _, fun p hp => by cases hp⟩, rfl⟩⟩
  have hpos : 0 < a.st := by have h30 : ¬ a.st = 0 := h29; omega
  have hW : wdsW a most = (wds a most).map fun L => L.map (·.u) := by unfold wdsW; rw [if_neg (by omega)]
  refine exE (wds a most) fun R hR => ?_
  rw [hR] at hW
  refine W_skip ?_
  refine W_seq <| W_region (by rfl) ?_
  refine x (r_build trivial) <| xl rfl <| o_lits (us := [fvCells ⟨.slice none 0 0, fw0⟩]) rfl rfl (by decide) (by exact (by decide : 1 * 2 ≤ 1000000)) ⟨rfl, rfl, trivial⟩ fun b31 w3 hs3 hb31 hB31 => x r_assign <| xe ?_
  have hl31 := hB31.lt
  have hI0 : WdM w2 (.slice (some ⟨b31, 0, none⟩) 1 1) [⟨.slice none 0 0, fw0⟩] w3 := by
    refine ⟨hs3, hB31.own (n := 1) rfl (by omega) hb31, fun p hp => ?_⟩
    simp only [List.mem_singleton] at hp; subst hp; exact Arr.nil _ _ _
  have hbound : ∀ e ∈ a.ed, 0 ≤ e.1 ∧ e.1 ≤ 1099511627776 := fun e he => by have := ho.ed e he; omega
  refine W_cut (α := Value × List FV) [(6, 7), (9, 10), (12, 12), (32, 77)] (fun z => [(9, z.1)]) (fun z w' => WdM w2 z.1 z.2 w' ∧ R = some (z.2.map (·.f)) ∧ z.2.length ≤ 1024) (by rfl) ?_ ?_
  · refine W_seq <| W_region (by rfl) ?_
    refine x r_assign <| xe ?_
    refine W_block <| W_loop (α := Nat × Value × List FV) [(6, 7), (9, 10), (12, 12), (32, 77)] (fun z => [(9, z.2.1), (10, .int .i64 z.1)])
      (fun z w' => z.1 ≤ 1025 ∧ WdM w2 z.2.1 z.2.2 w' ∧ WdI a most z.1 (z.2.2.map (·.f)) ∧ wdL a most (1025 - z.1) z.1 (z.2.2.map (·.f)) = R) (fun z => 1025 - z.1) (by rfl) (0, .slice (some ⟨b31, 0, none⟩) 1 1, [⟨.slice none 0 0, fw0⟩]) ⟨rfl, rfl, trivial⟩
      ⟨Nat.zero_le _, hI0, wd0_I hpos most, hR⟩ ?_
    rintro ⟨i, vL, es⟩ g4 w4 ⟨hiF, hM4, hJ4, hR4⟩
    simp only [] at hiF hM4 hJ4 hR4
    have hmx := hJ4.mx
    have hle := hJ4.le
    rw [List.length_map] at hmx hle
    have hLr : Arr [] w4.heap vL es.length 2 (es.flatMap fvCells) := own_arr hM4.l (by omega) (fun b _ => by simp)
    refine W_seq <| W_seq <| W_region (by rfl) ?_
    refine x r_move <| x r_move <| x (r_lenA hLr rfl) <| x (r_lss rfl rfl) <| xe ?_
    refine W_ifn rfl (fun h35 => ?_) (fun h35 => ?_)
    · refine W_exit ?_
      have h36 : ¬ i < (es.map (·.f)).length := by rw [List.length_map]; have h37 : ¬ (i : Int) < (es.length : Int) := h35; omega
      refine ⟨(vL, es), ⟨rfl, trivial⟩, hM4, ?_, hmx⟩
      rw [← hR4]
      generalize 1025 - i = f
      cases f with
      | zero => rfl
      | succ f => rw [wdL, if_neg h36]
    have hi : i < es.length := by have h37 : (i : Int) < (es.length : Int) := h35; omega
    rw [show 1025 - i = (1025 - (i + 1)) + 1 by omega, wdL, if_pos (by rw [List.length_map]; exact hi), fv_get hi] at hR4
    have hWd0 := hM4.each _ (List.getElem_mem hi)
    have hrx := hJ4.rx _ (List.mem_map_of_mem (f := fun q : FV => q.f) (List.getElem_mem hi))
    have hst := fun hl hm => hJ4.step ho (by rw [List.length_map]; exact hi) hl hm
    rw [fv_get hi] at hst
    refine exE (es[i]'hi) fun ei hei => ?_
    rw [hei] at hR4 hWd0 hrx hst
    have hs4 := hM4.st
    have hWd := hWd0.up (L' := []) (fun b hb => by cases hb)
    refine W_skip ?_
    refine W_seq <| W_block <| W_seq <| W_seq <| W_region (by rfl) ?_
    refine x r_move <| x r_move <| xig (g := fvCells) (i := i) fv_len hLr rfl rfl hi fun a40 h40 => ?_
    rw [hei] at h40
    refine x (r_field rfl) <| x (r_loadA (h40.fld 0 _ rfl) rfl) <| x (r_lenA hWd rfl) <| x r_move <| x (r_eql rfl rfl) <| xe ?_
    refine W_if rfl (fun h45 => ?_) (fun h45 => ?_)
    · refine W_exit ?_
      have h46 : ei.f.u.length = most := by have h47 : (ei.f.u.length : Int) = (most : Int) := h45; omega
      rw [if_pos h46] at hR4
      exact ⟨(vL, es), ⟨rfl, trivial⟩, hM4, hR4.symm, hmx⟩
    have h46 : ei.f.u.length ≠ most := by have h47 : ¬ (ei.f.u.length : Int) = (most : Int) := h45; omega
    rw [if_neg h46] at hR4
    have hst2 := hst h46
    refine W_skip ?_
    have hB34 := hB32.ext hs4
    have hA4 : AutA (ob vL) w4.heap va vm ve a := ((h.ext hs12).up (L' := ob vL) (fun b hb => .inr (own_ge hM4.l b hb).1)).ext hs4
    have hosl := out_len ho ei.f.s
    have hout := out_ok (va := va) (vm := vm) (st := a.st) (hA4.ed.ext (Step.drew [] w4)) ho.eds hbound ei.f.s hrx.2.1 (by omega)
    refine exE (outE a.ed ei.f.s) fun os hos => ?_
    rw [hos] at hosl hout
    have hos2 : wdR a ei.f = os.map (wdN ei.f) := by unfold wdR; rw [hos]
    rw [hos2] at hR4 hst2
    refine W_seq <| W_seq <| W_draw (Step [] w4) [(0, true), (1, true), (2, true), (3, true), (4, true), (5, true), (8, true), (6, false), (7, true)] Tryd.mixed (by rfl) (by kernel_rfl) (Step.drew _ _) ?_
    refine pq (fun _ hc => r_loadsB (hB34.ext hc) rfl rfl) <| p (fun _ => r_move) <| p (fun _ => r_move) <| Lg.pig (g := fvCells) (i := i) rfl fv_len hLr rfl rfl hi fun a49 h49 => ?_
    rw [hei] at h49
    refine p (fun _ => r_field rfl) <| pq (fun _ hc => r_loadA ((h49.fld 1 _ rfl).ext hc) rfl) <| p (fun _ => r_move) <| pk <| xf <| hout.mono ?_
    rintro ro w5 ⟨hs5', hro⟩
    have hs5 := (Step.drew [] w4).trans hs5'
    refine ⟨hs5, ?_⟩
    refine p (fun _ => r_lenA hro rfl) <| pe ?_
    have hM5 := hM4.ext hs5
    refine exE (es.map (·.f) ++ os.map (wdN ei.f)) fun L1 hL1 => ?_
    rw [hL1] at hR4 hst2
    refine W_block <| W_loop (α := Nat × Value × List FV) [(9, 9), (12, 12), (54, 74)] (fun z => [(9, z.2.1), (54, .int .i64 z.1)])
      (fun z w' => z.1 ≤ os.length ∧ WdM w2 z.2.1 z.2.2 w' ∧ Eds (ob z.2.1) w'.heap ro os ∧ z.2.2.length = es.length + z.1 ∧ (∃ h : i < z.2.2.length, z.2.2[i]'h = ei) ∧ z.2.2.map (·.f) ++ (os.drop z.1).map (wdN ei.f) = L1) (fun z => os.length - z.1) (by rfl) (0, vL, es) ⟨rfl, rfl, trivial⟩
      ⟨Nat.zero_le _, hM5, hro, rfl, ⟨hi, hei⟩, hL1⟩ ?_
    rintro ⟨k, vL2, fs⟩ g6 w6 ⟨hk, hM6, hro6, hfl, hfi, hr6⟩
    simp only [] at hk hM6 hro6 hfl hfi hr6
    refine W_seq <| W_region (by rfl) ?_
    refine x (r_lss rfl rfl) <| xe ?_
    refine W_seq <| W_ifn rfl (fun h55 => ?_) (fun h55 => ?_)
    · refine W_exit ?_
      have hk2 : os.length ≤ k := by have h56 : ¬ (k : Int) < (os.length : Int) := h55; omega
      rw [List.drop_of_length_le hk2, List.map_nil, List.append_nil] at hr6
      have hLr6 : Arr [] w6.heap vL2 fs.length 2 (fs.flatMap fvCells) := own_arr hM6.l (by omega) (fun b _ => by simp)
      have hl1 : L1.length = fs.length := by rw [← hr6, List.length_map]
      refine W_seq <| W_region (by rfl) ?_
      refine x r_move <| x (r_lenA hLr6 rfl) <| x (r_gtr rfl rfl) <| xe ?_
      refine W_if rfl (fun h77 => ?_) (fun h77 => ?_)
      · have h78 : 1024 < L1.length := by have h79 : (fs.length : Int) > 1024 := h77; omega
        rw [if_pos h78] at hR4
        refine W_seq <| W_region (by rfl) ?_
        refine x r_assign <| x r_assign <| xe ?_
        exact W_ret ⟨[nilS, .int .i64 3], ⟨rfl, rfl, trivial⟩, hs12.trans hM6.st, .inl ⟨by rw [hW, ← hR4]; rfl, rfl⟩⟩
      have h78 : ¬ 1024 < L1.length := by have h79 : ¬ (fs.length : Int) > 1024 := h77; omega
      rw [if_neg h78, ← hr6] at hR4
      have hJ6 := hst2 h78
      rw [← hr6] at hJ6
      refine W_skip ?_
      refine W_region (by rfl) ?_
      refine x r_move <| x (r_add rfl rfl ⟨by omega, by omega⟩) <| x r_assign <| xe ?_
      exact ⟨(i + 1, vL2, fs), by simp only []; omega, ⟨rfl, rfl, trivial⟩, by simp only []; omega, hM6, hJ6, hR4⟩
    have hklt : k < os.length := by have h56 : (k : Int) < (os.length : Int) := h55; omega
    rw [drop_cons hklt, List.map_cons] at hr6
    refine exE (os[k]'hklt) fun d hd => ?_
    rw [hd] at hr6
    refine W_skip ?_
    refine Exists.elim hfi fun hi6 hei6 => ?_
    have hWd6 := hM6.each _ (List.getElem_mem hi6)
    rw [hei6] at hWd6
    refine W_cut (α := Value × Value) [(9, 9), (12, 12), (56, 73)] (fun z => [(9, z.1)]) (fun z w' => WdM w2 z.1 (fs ++ [⟨z.2, wdN ei.f d⟩]) w' ∧ Eds (ob z.1) w'.heap ro os) (by rfl) ?_ ?_
    · refine W_block <| W_seq <| W_region (by rfl) ?_
      refine xie (i := k) hro6 rfl rfl hklt fun a56 h56 => ?_
      rw [hd] at h56
      refine x (r_loadsA h56 rfl rfl) <| xl rfl <| o_alloc (us := [.int .i64 0, .int .i64 0, .int .i64 0]) rfl fun b12 w7 hs7 hb12 hB12' => xl rfl <| o_stores (us := edCells d) hB12' rfl rfl rfl rfl ⟨rfl, rfl, rfl, trivial⟩ fun w8 hs8 hB12 => xe ?_
      have hs68 : Step [] w6 w8 := hs7.then1 hs8 hb12
      have hM8 := hM6.ext hs68
      have hro8 := hro6.ext hs68
      have hWd8 := hWd6.ext hs68
      have hLr8 : Arr [] w8.heap vL2 fs.length 2 (fs.flatMap fvCells) := own_arr hM8.l (by omega) (fun b _ => by simp)
      have hWd8' := hWd8.up (L' := []) (fun b hb => by cases hb)
      have hc0 : Step [] w8 { w8 with drawn := w8.drawn + 1 } := Step.drew [] w8
      have hz0 := hc0.size
      have hul := hrx.2.2.2.2
      have hCC : ∀ w', Step [] w8 w' → Step (ob vL2) w8 w' ∧ w'.ownsRow w2.heap.size 124 2 vL2 fs.length (fs.flatMap fvCells) := fun w' hs => ⟨hs.mono (by simp), own_ext hM8.l hs⟩
      have hnb : b12 ∉ ob vL2 := fun hb => by have := own_lt hM6.l b12 hb; omega
      refine W_drawU (fun w' => Step (ob vL2) w8 w' ∧ w'.ownsRow w2.heap.size 124 2 vL2 fs.length (fs.flatMap fvCells)) (.f2 [(0, true), (1, true), (2, true), (3, true), (4, true), (5, true), (7, true), (8, true), (11, true), (12, true)] 6 9 (.pl [(9, false), (10, false), (13, true), (14, false), (15, false), (16, true)]) (.pl [(6, false), (10, false), (13, true), (14, false), (15, false), (16, true)])) Tryd.mixed (by rfl) (by kernel_rfl) (hCC _ hc0) ?_
      refine u2 <| p (fun _ => r_move) <| p (fun _ => r_move) <| p (fun _ => r_move) <| pigC (g := fvCells) (i := i) (L := []) rfl fv_len (fun w' hc => own_arr hc.2 (by omega) (fun b _ => by simp)) (hCC _ hc0) rfl rfl hi6 fun a61 h61 => ?_
      rw [hei6] at h61
      refine p (fun _ => r_field rfl) <| pq (fun w' hc => r_loadA ((h61 w' hc).fld 0 _ rfl) rfl) <| p (fun _ => r_fieldB rfl) <| pq (fun _ hc => r_loadB (hB12.step hc.1 hnb) rfl rfl) <| p (fun _ => r_fieldB rfl) <| pq (fun _ hc => r_loadB (hB12.step hc.1 hnb) rfl rfl) <| pe ⟨?_, ?_⟩
      · refine ue <| xf <| (clone_ok (hWd8'.ext hc0)).mono ?_
        rintro vk w9 ⟨hs9, hok⟩
        have hc9 := hc0.trans hs9
        have hz9 := hs9.size
        have hgek := own_ge hok
        refine ⟨hCC _ hc9, ?_⟩
        refine uP <| pk <| o_lits (us := [[.int .i64 d.2.1]]) rfl rfl (by decide) (by simp) ⟨rfl, rfl, trivial⟩ fun bl w10 hs10 hbl hBl => ?_
        have hc10 := hc9.trans hs10
        have hz10 := hs10.size
        refine ⟨hCC _ hc10, ?_⟩
        refine pk <| o_app (news := [.int .i64 d.2.1]) (L := []) (own_ext hok hs10) rfl rfl rfl (hBl.at (by simp)) (by simp [Value.oneCell']) (by omega) (by omega) fun va' w11 hoa hs11 hna => ?_
        have hc11 : Step [] w8 w11 := hc10.then hs11 (fun b hb => .inr (by have := (hgek b hb).1; omega))
        have hz11 := hs11.size
        have hoa2 := IntsO.snoc (own_base hoa (show w8.heap.size ≤ _ by omega))
        refine ⟨hCC _ hc11, ?_⟩
        have hone := (IntsO.ints (L := []) hoa2 (by simp; omega) (by simp)).one
        have hcel := (IntsO.ints (L := []) hoa2 (by simp; omega) (by simp)).cells
        refine p (fun _ => r_build ⟨hcel, rfl, trivial⟩) <| pk <| o_lits (us := [fvCells ⟨va', wdN ei.f d⟩]) rfl rfl (by decide) (by exact (by decide : 1 * 2 ≤ 1000000)) ⟨rfl, rfl, trivial⟩ fun bm w12 hs12 hbm hBm => ?_
        have hc12 := hc11.trans hs12
        refine ⟨hCC _ hc12, ?_⟩
        have hM12 := hM8.ext hc12
        have hz12 := hM12.st.size
        refine pk <| o_appK (news := fvCells ⟨va', wdN ei.f d⟩) (L := []) (m := 1) hM12.l rfl rfl rfl (hBm.at (by simp)) (by intro u hu; simp only [List.mem_cons, List.not_mem_nil, or_false] at hu; rcases hu with rfl | rfl; exact hone; rfl) (by omega) hz12 fun vz w13 hoz hs13 hnz hkz => ⟨⟨(hc12.mono (by simp)).trans' hs13, hkz⟩, p (fun _ => r_assign) <| pe ?_⟩
        have hpI : Ints (ob vL2) w12.heap va' (wdN ei.f d).u := IntsO.ints (own_ext hoa2 hs12) (by show (ei.f.u ++ [d.2.1]).length ≤ _; rw [List.length_append, List.length_singleton]; omega) (fun b hb => own_lt hM8.l b hb)
        exact ⟨(vz, va'), ⟨rfl, trivial⟩, hM12.add hs13 hoz hnz hpI, (hro8.ext hc12).grow hs13 (fun b hb => hb) hnz⟩
      · refine ue <| o_lits (us := [[.int .i64 d.2.1]]) rfl rfl (by decide) (by simp) ⟨rfl, rfl, trivial⟩ fun bl w9 hs9 hbl hBl => ?_
        have hc9 := hc0.trans hs9
        have hz9 := hs9.size
        refine ⟨hCC _ hc9, ?_⟩
        refine uP <| pk <| xf <| (clone_ok (hWd8'.ext hc9)).mono ?_
        rintro vk w10 ⟨hs10, hok⟩
        have hc10 := hc9.trans hs10
        have hz10 := hs10.size
        have hgek := own_ge hok
        refine ⟨hCC _ hc10, ?_⟩
        refine pk <| o_app (news := [.int .i64 d.2.1]) (L := []) hok rfl rfl rfl ((hBl.ext hs10).at (by simp)) (by simp [Value.oneCell']) (by omega) (by omega) fun va' w11 hoa hs11 hna => ?_
        have hc11 : Step [] w8 w11 := hc10.then hs11 (fun b hb => .inr (by have := (hgek b hb).1; omega))
        have hz11 := hs11.size
        have hoa2 := IntsO.snoc (own_base hoa (show w8.heap.size ≤ _ by omega))
        refine ⟨hCC _ hc11, ?_⟩
        have hone := (IntsO.ints (L := []) hoa2 (by simp; omega) (by simp)).one
        have hcel := (IntsO.ints (L := []) hoa2 (by simp; omega) (by simp)).cells
        refine p (fun _ => r_build ⟨hcel, rfl, trivial⟩) <| pk <| o_lits (us := [fvCells ⟨va', wdN ei.f d⟩]) rfl rfl (by decide) (by exact (by decide : 1 * 2 ≤ 1000000)) ⟨rfl, rfl, trivial⟩ fun bm w12 hs12 hbm hBm => ?_
        have hc12 := hc11.trans hs12
        refine ⟨hCC _ hc12, ?_⟩
        have hM12 := hM8.ext hc12
        have hz12 := hM12.st.size
        refine pk <| o_appK (news := fvCells ⟨va', wdN ei.f d⟩) (L := []) (m := 1) hM12.l rfl rfl rfl (hBm.at (by simp)) (by intro u hu; simp only [List.mem_cons, List.not_mem_nil, or_false] at hu; rcases hu with rfl | rfl; exact hone; rfl) (by omega) hz12 fun vz w13 hoz hs13 hnz hkz => ⟨⟨(hc12.mono (by simp)).trans' hs13, hkz⟩, p (fun _ => r_assign) <| pe ?_⟩
        have hpI : Ints (ob vL2) w12.heap va' (wdN ei.f d).u := IntsO.ints (own_ext hoa2 hs12) (by show (ei.f.u ++ [d.2.1]).length ≤ _; rw [List.length_append, List.length_singleton]; omega) (fun b hb => own_lt hM8.l b hb)
        exact ⟨(vz, va'), ⟨rfl, trivial⟩, hM12.add hs13 hoz hnz hpI, (hro8.ext hc12).grow hs13 (fun b hb => hb) hnz⟩
    rintro ⟨vz, va'⟩ g14 w14 ⟨hM14, hro14⟩
    simp only [] at hM14 hro14
    refine W_region (by rfl) ?_
    refine x (r_add rfl rfl ⟨by omega, by omega⟩) <| x r_move <| xe ?_
    exact ⟨(k + 1, vz, fs ++ [⟨va', wdN ei.f d⟩]), by simp only []; omega, ⟨rfl, rfl, trivial⟩, hklt, hM14, hro14, by simp; omega, ⟨by simp; omega, by simp only []; rw [List.getElem_append_left hi6]; exact hei6⟩, by simp only []; rw [List.map_append, List.append_assoc]; exact hr6⟩
  rintro ⟨vL, es⟩ g20 w20 ⟨hM20, hR20, hel⟩
  simp only [] at hM20 hR20 hel
  rw [hR20] at hW
  have hs20 := hs12.trans hM20.st
  have hLr : Arr [] w20.heap vL es.length 2 (es.flatMap fvCells) := own_arr hM20.l (by omega) (fun b _ => by simp)
  refine W_seq <| W_region (by rfl) ?_
  refine x r_assign <| xe ?_
  refine W_seq <| W_seq <| W_region (by rfl) ?_
  refine x r_move <| x (r_lenA hLr rfl) <| x r_move <| xe ?_
  refine W_block <| W_loop (α := Nat × Value × List TV) [(13, 13), (15, 15), (80, 100)] (fun z => [(13, z.2.1), (80, .int .i64 z.1)])
    (fun z w' => z.1 ≤ es.length ∧ Step [] w20 w' ∧ TupO 32 w20.heap.size w' z.2.1 z.2.2 ∧ z.2.2.map (·.2) = (es.take z.1).map (fun p => p.f.u) ∧ ∀ p ∈ z.2.2, Ints (ob z.2.1) w'.heap p.1 p.2) (fun z => es.length - z.1) (by rfl) (0, .slice none 0 0, []) ⟨rfl, rfl, trivial⟩
    ⟨Nat.zero_le _, Step.refl _ _, own_nil _ _ _ _, rfl, fun p hp => by cases hp⟩ ?_
  rintro ⟨k, vT, ps⟩ g21 w21 ⟨hk, hs21, hT, hTm, hTe⟩
  simp only [] at hk hs21 hT hTm hTe
  have hpl : ps.length = k := by have := congrArg List.length hTm; simpa [Nat.min_eq_left hk] using this
  refine W_seq <| W_region (by rfl) ?_
  refine x (r_lss rfl rfl) <| xe ?_
  refine W_seq <| W_ifn rfl (fun h81 => ?_) (fun h81 => ?_)
  · refine W_exit ?_
    have hk2 : es.length ≤ k := by have h82 : ¬ (k : Int) < (es.length : Int) := h81; omega
    refine W_seq <| W_region (by rfl) ?_
    refine x r_move <| x r_assign <| x r_assign <| xe ?_
    refine W_ret ⟨[vT, .int .i64 0], ⟨rfl, rfl, trivial⟩, hs20.trans hs21, .inr ⟨_, vT, ps, hW, rfl, ⟨own_arr hT (by omega) (fun b _ => by simp), fun p hp => (hTe p hp).up (fun b hb => by cases hb)⟩, ?_⟩⟩
    rw [hTm, List.take_of_length_le hk2]; exact (List.map_map (f := fun q : FV => q.f) (g := fun q : Fw => q.u) (l := es)).symm
  have hklt : k < es.length := by have h82 : (k : Int) < (es.length : Int) := h81; omega
  have hEk := hM20.each _ (List.getElem_mem hklt)
  refine exE (es[k]'hklt) fun ek hek => ?_
  rw [hek] at hEk
  have hEk20 : Ints (ob vT) w21.heap ek.v ek.f.u := ((hEk.up (L' := []) (fun b hb => by cases hb)).up (fun b hb => .inr (own_ge hT b hb).1)).ext hs21
  refine W_skip ?_
  refine W_seq <| W_block <| W_seq <| W_region (by rfl) ?_
  refine xig (g := fvCells) (i := k) fv_len (hLr.ext hs21) rfl rfl hklt fun a82 h82 => ?_
  rw [hek] at h82
  refine x (r_loadsA h82 rfl rfl) <| xl rfl <| o_alloc (us := [.slice none 0 0, .int .i64 0]) rfl fun b15 w22 hs22 hb15 hB15' => xl rfl <| o_stores (us := fvCells ek) hB15' rfl rfl rfl rfl ⟨hEk20.one, rfl, trivial⟩ fun w23 hs23 hB15 => xe ?_
  have hs2123 : Step [] w21 w23 := hs22.then1 hs23 hb15
  refine W_seq <| W_region (by rfl) ?_
  refine x r_move <| x (r_not rfl) <| x r_move <| xs rfl <| xs rfl <| xs rfl <| xs rfl <| xs rfl <| x (r_pick rfl) <| xe ?_
  refine W_true rfl ?_
  have hEk23 := hEk20.ext hs2123
  have hT23 := own_ext hT hs2123
  have hul := hEk23.le
  refine W_region (by rfl) ?_
  refine x r_move <| xl rfl <| o_lit0 fun b94 w24 hs24 hb94 hB94 => x (r_fieldB rfl) <| x (r_loadB (hB15.ext hs24) rfl rfl) <|
    xl rfl <| o_appV (base := w23.heap.size) (hB94.own (n := 0) (sz := 1) rfl (by omega) hb94) rfl (hEk23.ext hs24) rfl (one_ints ek.f.u) (by omega) (by have := hs24.size; omega) fun v25 w25 ho25 hs25 hn25 => ?_
  have hs2325 : Step [] w23 w25 := hs24.then1 hs25 hb94
  have ho25' : IntsO 3 w23.heap.size w25 v25 ek.f.u := by simpa [tup] using ho25
  have hI25 : Ints (ob vT) w25.heap v25 ek.f.u := IntsO.ints ho25' hul (fun b hb => own_lt hT23 b hb)
  refine xl rfl <| o_lits (us := [[v25]]) rfl rfl (by decide) (by simp) ⟨hI25.cells, rfl, trivial⟩ fun b98 w26 hs26 hb98 hB98 => ?_
  have hs2326 := hs2325.trans hs26
  have hT26 := own_ext hT23 hs2326
  refine xl rfl <| o_app (news := [v25]) (L := []) hT26 rfl rfl rfl (hB98.at (by simp)) (fun y hy => by simp only [List.mem_singleton] at hy; subst hy; exact hI25.one) (by omega) (by have := hs21.size; have := hs2123.size; have := hs2326.size; omega) fun v27 w27 ho27 hs27 hn27 => x r_assign <| xe ?_
  have hs2127 : Step [] w20 w27 := ((hs21.trans hs2123).trans hs2326).then hs27 (fun b hb => .inr (own_ge hT b hb).1)
  have hT27 : TupO 32 w20.heap.size w27 v27 (ps ++ [(v25, ek.f.u)]) := TupO.snoc ho27
  refine W_region (by rfl) ?_
  refine x (r_add rfl rfl ⟨by omega, by omega⟩) <| x r_move <| xe ?_
  refine ⟨(k + 1, v27, ps ++ [(v25, ek.f.u)]), by simp only []; omega, ⟨rfl, rfl, trivial⟩, hklt, hs2127, hT27, ?_, fun p hp => ?_⟩
  · simp only []
    rw [List.map_append, hTm, List.take_succ_eq_append_getElem hklt, List.map_append, hek]; rfl
  · rcases List.mem_append.1 hp with hp | hp
    · exact (((hTe p hp).ext hs2123).ext hs2326).grow hs27 (fun b hb => hb) hn27
    · simp only [List.mem_singleton] at hp
      subst hp
      exact (hI25.ext hs26).grow hs27 (fun b hb => hb) hn27
end Go.Proofs.YtfhgnlkdcdlblaaDoor
/- Contracts: Equivalent's closure, pair.differ. -/
namespace Go.Lg
theorem r_neq_boolV {P : Program} {f : Fr} {w : World} {d : Option Nat} {ty : Nat} {ps : String} {af : Array Edge} {gd : Option (Nat × Bool)} {t t' : Nat} [h : Bk P t] {x y : Operand} {a b c : Bool} (hx : ev f x = .bool a) (hy : ev f y = .bool b) (hc : (!(a == b)) = c) :
    (execOp (ev f) ⟨d, .binOp .neq t x y t', ty, ps, af, gd⟩).run P w = .ok (.value (.bool c)) w := by rw [r_neq_bool hx hy, hc]
section
variable {P : Program} {f : Fr} {w : World} {d : Option Nat} {ty : Nat} {ps : String} {af : Array Edge} {gd : Option (Nat × Bool)} {κ : Type} [DecidableEq κ]
theorem r_lookup1N {t kt et : Nat} {z : Value} [hm : Mp P t kt et z] {enc : κ → Value} [hk : Key P kt enc] {x y : Operand} {b : Nat} {m : List (κ × Value)} {k : κ} (h : MapB enc w.heap b m) (hx : ev f x = .map (some b)) (hy : ev f y = enc k) (hg : mget m k = none) :
    (execOp (ev f) ⟨d, .lookup t x y false, ty, ps, af, gd⟩).run P w = .ok (.value z) w := by
  rw [r_lookup1 h hx hy, hg]
end
end Go.Lg
namespace Go.Proofs.YtfhgnlkdcdlblaaDoor
open Go.Lg
instance : A2 Tryd.prog 90 := ⟨⟨_, Tryd.underlying90, Tryd.underlying3, by kernel_rfl⟩, by kernel_rfl⟩

theorem eto_ok {w : World} {b : Nat} {a : Aut} (h : MapB kPair w.heap b (edMap [] a.ed)) (hs : a.ed.Pairwise fun x y => x.1 < y.1 ∨ (x.1 = y.1 ∧ x.2.1 < y.2.1)) (s v : Int) :
    Ret Tryd.prog 55 [.map (some b), .int .i64 s, .int .i64 v] w fun r w' => r = .int .i64 (nxt a.ed s v) ∧ Step [] w w' := by
  have hg := edMap_get a.ed [] s v hs
  refine Ret.of_W Tryd.func55 rfl Tryd.ntmps55 Tryd.results55 (by simp) ?_
  rw [nxt_eget]
  refine W_seq <| W_region (by rfl) ?_
  refine x r_assign <| xe ?_
  refine W_seq <| W_seq <| W_region (by rfl) ?_
  refine x r_move <| x r_move <| x r_move <| x (r_build ⟨rfl, rfl, trivial⟩) <| ?_
  cases he : eget a.ed s v with
  | none =>
    rw [he] at hg
    refine x (r_lookupN (k := (s, v)) h rfl rfl hg) <| x r_move <| x (r_extract rfl rfl) <| x (r_extract rfl rfl) <|
      x r_assign <| x r_assign <| xe ?_
    refine W_seq <| W_region (by rfl) ?_
    refine x r_move <| xe ?_
    refine W_false rfl ?_
    refine W_skip ?_
    refine W_seq <| W_region (by rfl) ?_
    refine x r_assign <| xe ?_
    exact W_ret ⟨[.int .i64 (-1)], ⟨rfl, trivial⟩, rfl, Step.refl _ _⟩
  | some u =>
    rw [he] at hg
    refine x (r_lookupS (k := (s, v)) h rfl rfl hg) <| x r_move <| x (r_extract rfl rfl) <| x (r_extract rfl rfl) <|
      x r_assign <| x r_assign <| xe ?_
    refine W_seq <| W_region (by rfl) ?_
    refine x r_move <| xe ?_
    refine W_true rfl ?_
    refine W_seq <| W_region (by rfl) ?_
    refine x r_move <| x r_assign <| xe ?_
    exact W_ret ⟨[.int .i64 u], ⟨rfl, trivial⟩, rfl, Step.refl _ _⟩

theorem differ_ok {L : List Nat} {w : World} {pva pvm pve sa sm se vw : Value} {a b : Aut} (ha : AutA L w.heap pva pvm pve a) (hb : AutA L w.heap sa sm se b) (hia : Inc a.mr) (hib : Inc b.mr) (x0 y0 : Int) :
    Ret Tryd.prog 56 [.agg #[.int .i64 x0, .int .i64 y0, vw], .agg #[pva, .int .i64 a.st, pvm, pve], .agg #[sa, .int .i64 b.st, sm, se]] w fun r w' => r = .bool (dfr a b x0 y0) ∧ Step [] w w' := by
  refine Ret.of_W Tryd.func56 rfl Tryd.ntmps56 Tryd.results56 (by simp) ?_
  refine W_seq <| W_region (by rfl) ?_
  refine xl rfl <| o_box (us := [.int .i64 x0, .int .i64 y0, vw]) rfl fun b3 w1 hs1 hb3 hB3 => xl rfl <| o_box (us := [pva, .int .i64 a.st, pvm, pve]) rfl fun b4 w2 hs2 hb4 hB4 => xl rfl <| o_box (us := [sa, .int .i64 b.st, sm, se]) rfl fun b5 w3 hs3 hb5 hB5 => x r_assign <|
    xe ?_
  have hs13 := (hs1.trans hs2).trans hs3
  have hB33 := (hB3.ext hs2).ext hs3
  have hB43 := hB4.ext hs3
  unfold dfr
  refine Or.elim (Decidable.em ((!(decide (x0 = -1) == decide (y0 = -1))) = true)) (fun h13 => ?_) (fun h13 => ?_)
  · refine W_seq <| W_draw (Step [] w3) [(0, true), (1, true), (2, true), (3, true), (4, true), (5, true), (6, true), (7, true), (8, true), (9, true), (10, true), (11, true), (13, true), (14, true), (15, true), (16, true), (12, false), (17, false), (18, true), (19, true), (20, true)] Tryd.mixed (by rfl) (by kernel_rfl) (Step.drew _ _) ?_
    refine p (fun _ => r_fieldB rfl) <| pq (fun _ hc => r_loadB (hB33.ext hc) rfl rfl) <| p (fun _ => r_eql rfl rfl) <| p (fun _ => r_fieldB rfl) <|
      pq (fun _ hc => r_loadB (hB33.ext hc) rfl rfl) <| p (fun _ => r_eql rfl rfl) <| p (fun _ => r_neq_boolV rfl rfl h13) <|
      p (fun _ => r_move) <| ps <| ps <| ps <| ps <| ps <| ps <| ps <| ps <| ps <| ps <| ps <| p (fun _ => r_pick rfl) <| p (fun _ => r_assign) <| pe ?_
    exact W_ret ⟨[.bool true], ⟨rfl, trivial⟩, by rw [h13]; rfl, hs13.trans (Step.drew [] w3)⟩
  have h14 := eq_false_of_ne_true h13
  refine W_seq <| W_draw (Step [] w3) [(0, true), (1, true), (2, true), (3, true), (4, true), (5, true), (6, true), (7, true), (8, true), (9, true), (10, true), (11, true), (13, true), (14, true), (15, true), (16, true), (12, false), (17, false), (18, true), (19, true), (20, true)] Tryd.mixed (by rfl) (by kernel_rfl) (Step.drew _ _) ?_
  refine p (fun _ => r_fieldB rfl) <| pq (fun _ hc => r_loadB (hB33.ext hc) rfl rfl) <| p (fun _ => r_eql rfl rfl) <| p (fun _ => r_fieldB rfl) <|
    pq (fun _ hc => r_loadB (hB33.ext hc) rfl rfl) <| p (fun _ => r_eql rfl rfl) <| p (fun _ => r_neq_boolV rfl rfl h14) <|
    p (fun _ => r_move) <| p (fun _ => r_fieldB rfl) <| pq (fun _ hc => r_loadB (hB43.ext hc) rfl rfl) <| p (fun _ => r_fieldB rfl) <| pq (fun _ hc => r_loadB (hB33.ext hc) rfl rfl) <|
    p (fun _ => r_fieldB rfl) <| pq (fun _ hc => r_loadB (hB5.ext hc) rfl rfl) <| p (fun _ => r_fieldB rfl) <| pq (fun _ hc => r_loadB (hB33.ext hc) rfl rfl) <|
    pk <| xf <| (alContains_ok ((ha.mr.ext hs13).ext (Step.drew [] w3)) hia x0).mono ?_
  rintro r4 w4 ⟨rfl, rfl⟩
  refine ⟨Step.drew _ _, ?_⟩
  refine pk <| xf <| (alContains_ok ((hb.mr.ext hs13).ext (Step.drew [] w3)) hib y0).mono ?_
  rintro r5 w5 ⟨rfl, rfl⟩
  refine ⟨Step.drew _ _, ?_⟩
  refine p (fun _ => r_neq_bool rfl rfl) <|
    p (fun _ => r_pick rfl) <| p (fun _ => r_assign) <| pe ?_
  exact W_ret ⟨[.bool (!(decide (x0 ∈ a.mr) == decide (y0 ∈ b.mr)))], ⟨rfl, trivial⟩, by rw [h14, Bool.false_or]; rfl, hs13.trans (Step.drew [] w3)⟩
end Go.Proofs.YtfhgnlkdcdlblaaDoor
