/- Merged out of the texts Ta Dg Dh Tb Di. -/
import Derived.Test.YtfhgnlkdcdlblaaDoorMa
import Derived.Test.YtfhgnlkdcdlblaaDoorCy
/- The Controls as the definition says: plain law for SupervisorMaps. -/
namespace Go.Proofs.YtfhgnlkdcdlblaaDoor
open Go.Lg

theorem Inc.ext : ∀ {a b : List Int}, Inc a → Inc b → (∀ x, x ∈ a ↔ x ∈ b) → a = b
  | [], [], _, _, _ => rfl
  | [], y :: b, _, _, h => by have := (h y).2 List.mem_cons_self; cases this
  | x :: a, [], _, _, h => by have := (h x).1 List.mem_cons_self; cases this
  | x :: a, y :: b, ia, ib, h => by
    have e : x = y := by
      have h1 := (h x).1 List.mem_cons_self
      have h2 := (h y).2 List.mem_cons_self
      rcases List.mem_cons.1 h1 with h1 | h1
      · exact h1
      · rcases List.mem_cons.1 h2 with h2 | h2
        · exact h2.symm
        · have := ib.lt_of h1; have := ia.lt_of h2; omega
    subst e
    congr 1
    refine Inc.ext ia.tail ib.tail fun z => ?_
    have hz := h z
    constructor
    · intro hm
      have := hz.1 (List.mem_cons_of_mem _ hm)
      rcases List.mem_cons.1 this with h1 | h1
      · have := ia.lt_of hm; omega
      · exact h1
    · intro hm
      have := hz.2 (List.mem_cons_of_mem _ hm)
      rcases List.mem_cons.1 this with h1 | h1
      · have := ib.lt_of hm; omega
      · exact h1
theorem uni1_mem {l : List Int} (h : Inc l) (v x : Int) : x ∈ uni1 l v ↔ x ∈ l ∨ x = v := by
  unfold uni1
  rw [mem_mrg h (by simp)]
  simp
theorem uni1_inc {l : List Int} (h : Inc l) (v : Int) : Inc (uni1 l v) := mrg_inc _ _ l [v] (Nat.le_refl _) h (by simp)
theorem nxt_eget (es : List Ed) (s v : Int) : nxt es s v = match eget es s v with | some u => u | none => -1 := by
  induction es with
  | nil => rfl
  | cons e es ih =>
    rw [nxt, eget]
    split
    · rfl
    · exact ih
theorem nxt_nonneg {a : Aut} (ho : Okay a) (s v : Int) : 0 ≤ nxt a.ed s v ↔ (eget a.ed s v).isSome = true := by
  rw [nxt_eget]
  cases h : eget a.ed s v with
  | none => simp
  | some u => simp; exact (ho.ed _ (eget_mem h)).2.2.2.1
/-! ### The definition -/
def canX (p : Aut) (pairs : List (List Int)) (x e : Int) : Bool := pairs.any fun q => decide (py q = x) && decide (0 ≤ nxt p.ed (px q) e)
def ctlD (p s : Aut) (pairs : List (List Int)) (x : Int) : Ctl :=
  ⟨s.al.filter fun e => canX p pairs x e && decide (0 ≤ nxt s.ed x e), s.al.filter fun e => canX p pairs x e && !decide (0 ≤ nxt s.ed x e),
    (pairs.any fun q => decide (py q = x)) && decide (x ∈ s.mr), pairs.any fun q => decide (py q = x) && decide (px q ∈ p.mr)⟩
/-- A Control after the pairs so far. -/
structure CtlI (p s : Aut) (pairs : List (List Int)) (x : Int) (c : Ctl) : Prop where
  ei : Inc c.en
  di : Inc c.dis
  em : ∀ e, e ∈ c.en ↔ e ∈ s.al ∧ canX p pairs x e = true ∧ 0 ≤ nxt s.ed x e
  dm : ∀ e, e ∈ c.dis ↔ e ∈ s.al ∧ canX p pairs x e = true ∧ ¬ 0 ≤ nxt s.ed x e
  mk2 : c.mk' = ((pairs.any fun q => decide (py q = x)) && decide (x ∈ s.mr))
  ps : c.ps = pairs.any fun q => decide (py q = x) && decide (px q ∈ p.mr)
theorem CtlI.eq {p s : Aut} {pairs : List (List Int)} {x : Int} {c : Ctl} (h : CtlI p s pairs x c) (hi : Inc s.al) : c = ctlD p s pairs x := by
  obtain ⟨en, dis, mk', ps⟩ := c
  have e1 : en = s.al.filter fun e => canX p pairs x e && decide (0 ≤ nxt s.ed x e) := by
    refine Inc.ext h.ei (List.Pairwise.sublist List.filter_sublist hi) fun e => ?_
    rw [h.em e, List.mem_filter]; simp
  have e2 : dis = s.al.filter fun e => canX p pairs x e && !decide (0 ≤ nxt s.ed x e) := by
    refine Inc.ext h.di (List.Pairwise.sublist List.filter_sublist hi) fun e => ?_
    rw [h.dm e, List.mem_filter]; simp
  have e3 := h.mk2
  have e4 := h.ps
  simp only [] at e3 e4
  unfold ctlD
  rw [e1, e2, e3, e4]
theorem CtlI.zero (p s : Aut) (x : Int) : CtlI p s [] x ctl0 := ⟨by simp [ctl0], by simp [ctl0], by simp [ctl0, canX], by simp [ctl0, canX], by simp [ctl0], by simp [ctl0]⟩
theorem CtlI.other {p s : Aut} {pairs : List (List Int)} {x : Int} {c : Ctl} (h : CtlI p s pairs x c) {q : List Int} (hq : py q ≠ x) : CtlI p s (pairs ++ [q]) x c := by
  have hc : ∀ e, canX p (pairs ++ [q]) x e = canX p pairs x e := fun e => by unfold canX; rw [List.any_append]; simp [hq]
  refine ⟨h.ei, h.di, fun e => by rw [hc]; exact h.em e, fun e => by rw [hc]; exact h.dm e, ?_, ?_⟩
  · rw [h.mk2, List.any_append]; simp [hq]
  · rw [h.ps, List.any_append]; simp [hq]
/-- The events of a pair. -/
theorem ctlE_fold {p s : Aut} (hp : Okay p) (hs : Okay s) (x y : Int) : ∀ (vs : List Int) (c : Ctl), Inc c.en → Inc c.dis →
    Inc (vs.foldl (ctlE p s x y) c).en ∧ Inc (vs.foldl (ctlE p s x y) c).dis ∧ (vs.foldl (ctlE p s x y) c).mk' = c.mk' ∧ (vs.foldl (ctlE p s x y) c).ps = c.ps ∧
    (∀ e, e ∈ (vs.foldl (ctlE p s x y) c).en ↔ e ∈ c.en ∨ (e ∈ vs ∧ 0 ≤ nxt p.ed x e ∧ 0 ≤ nxt s.ed y e)) ∧ (∀ e, e ∈ (vs.foldl (ctlE p s x y) c).dis ↔ e ∈ c.dis ∨ (e ∈ vs ∧ 0 ≤ nxt p.ed x e ∧ ¬ 0 ≤ nxt s.ed y e))
  | [], c, h1, h2 => ⟨h1, h2, rfl, rfl, fun e => by simp, fun e => by simp⟩
  | v :: vs, c, h1, h2 => by
    rw [List.foldl_cons]
    have np := nxt_nonneg hp x v
    have ns := nxt_nonneg hs y v
    unfold ctlE
    cases hep : eget p.ed x v with
    | none =>
      rw [hep] at np
      obtain ⟨i1, i2, i3, i4, i5, i6⟩ := ctlE_fold hp hs x y vs c h1 h2
      unfold ctlE at i1 i2 i3 i4 i5 i6
      refine ⟨i1, i2, i3, i4, fun e => ?_, fun e => ?_⟩
      · rw [i5 e]
        constructor
        · rintro (h | h)
          · exact .inl h
          · exact .inr ⟨List.mem_cons_of_mem _ h.1, h.2⟩
        · rintro (h | ⟨h, h3, h4⟩)
          · exact .inl h
          · rcases List.mem_cons.1 h with rfl | h
            · have := np.1 h3; cases this
            · exact .inr ⟨h, h3, h4⟩
      · rw [i6 e]
        constructor
        · rintro (h | h)
          · exact .inl h
          · exact .inr ⟨List.mem_cons_of_mem _ h.1, h.2⟩
        · rintro (h | ⟨h, h3, h4⟩)
          · exact .inl h
          · rcases List.mem_cons.1 h with rfl | h
            · have := np.1 h3; cases this
            · exact .inr ⟨h, h3, h4⟩
    | some t =>
      rw [hep] at np
      have hpv : 0 ≤ nxt p.ed x v := np.2 rfl
      cases hes : eget s.ed y v with
      | some u =>
        rw [hes] at ns
        have hsv : 0 ≤ nxt s.ed y v := ns.2 rfl
        obtain ⟨i1, i2, i3, i4, i5, i6⟩ := ctlE_fold hp hs x y vs ⟨uni1 c.en v, c.dis, c.mk', c.ps⟩ (uni1_inc h1 v) h2
        unfold ctlE at i1 i2 i3 i4 i5 i6
        refine ⟨i1, i2, i3, i4, fun e => ?_, fun e => ?_⟩
        · rw [i5 e, uni1_mem h1]
          constructor
          · rintro ((h | rfl) | h)
            · exact .inl h
            · exact .inr ⟨List.mem_cons_self, hpv, hsv⟩
            · exact .inr ⟨List.mem_cons_of_mem _ h.1, h.2⟩
          · rintro (h | ⟨h, h3⟩)
            · exact .inl (.inl h)
            · rcases List.mem_cons.1 h with rfl | h
              · exact .inl (.inr rfl)
              · exact .inr ⟨h, h3⟩
        · rw [i6 e]
          constructor
          · rintro (h | h)
            · exact .inl h
            · exact .inr ⟨List.mem_cons_of_mem _ h.1, h.2⟩
          · rintro (h | ⟨h, h3, h4⟩)
            · exact .inl h
            · rcases List.mem_cons.1 h with rfl | h
              · exact absurd hsv h4
              · exact .inr ⟨h, h3, h4⟩
      | none =>
        rw [hes] at ns
        have hsv : ¬ 0 ≤ nxt s.ed y v := fun h => by have := ns.1 h; cases this
        obtain ⟨i1, i2, i3, i4, i5, i6⟩ := ctlE_fold hp hs x y vs ⟨c.en, uni1 c.dis v, c.mk', c.ps⟩ h1 (uni1_inc h2 v)
        unfold ctlE at i1 i2 i3 i4 i5 i6
        refine ⟨i1, i2, i3, i4, fun e => ?_, fun e => ?_⟩
        · rw [i5 e]
          constructor
          · rintro (h | h)
            · exact .inl h
            · exact .inr ⟨List.mem_cons_of_mem _ h.1, h.2⟩
          · rintro (h | ⟨h, h3, h4⟩)
            · exact .inl h
            · rcases List.mem_cons.1 h with rfl | h
              · exact absurd h4 hsv
              · exact .inr ⟨h, h3, h4⟩
        · rw [i6 e, uni1_mem h2]
          constructor
          · rintro ((h | rfl) | h)
            · exact .inl h
            · exact .inr ⟨List.mem_cons_self, hpv, hsv⟩
            · exact .inr ⟨List.mem_cons_of_mem _ h.1, h.2⟩
          · rintro (h | ⟨h, h3⟩)
            · exact .inl (.inl h)
            · rcases List.mem_cons.1 h with rfl | h
              · exact .inl (.inr rfl)
              · exact .inr ⟨h, h3⟩
theorem CtlI.pair {p s : Aut} (hp : Okay p) (hs : Okay s) {pairs : List (List Int)} {c : Ctl} {q : List Int} (h : CtlI p s pairs (py q) c) : CtlI p s (pairs ++ [q]) (py q) (ctlP p s (px q) (py q) c) := by
  unfold ctlP
  obtain ⟨i1, i2, i3, i4, i5, i6⟩ := ctlE_fold hp hs (px q) (py q) s.al (ctlB p s (px q) (py q) c) h.ei h.di
  have hc : ∀ e, canX p (pairs ++ [q]) (py q) e = true ↔ canX p pairs (py q) e = true ∨ 0 ≤ nxt p.ed (px q) e := fun e => by unfold canX; rw [List.any_append]; simp
  refine ⟨i1, i2, fun e => ?_, fun e => ?_, ?_, ?_⟩
  · rw [i5 e, hc]
    show e ∈ c.en ∨ _ ↔ _
    rw [h.em e]
    constructor
    · rintro (⟨a1, a2, a3⟩ | ⟨a1, a2, a3⟩)
      · exact ⟨a1, .inl a2, a3⟩
      · exact ⟨a1, .inr a2, a3⟩
    · rintro ⟨a1, a2 | a2, a3⟩
      · exact .inl ⟨a1, a2, a3⟩
      · exact .inr ⟨a1, a2, a3⟩
  · rw [i6 e, hc]
    show e ∈ c.dis ∨ _ ↔ _
    rw [h.dm e]
    constructor
    · rintro (⟨a1, a2, a3⟩ | ⟨a1, a2, a3⟩)
      · exact ⟨a1, .inl a2, a3⟩
      · exact ⟨a1, .inr a2, a3⟩
    · rintro ⟨a1, a2 | a2, a3⟩
      · exact .inl ⟨a1, a2, a3⟩
      · exact .inr ⟨a1, a2, a3⟩
  · rw [i3, List.any_append]
    simp [ctlB]
  · rw [i4, List.any_append]
    show (c.ps || _) = _
    rw [h.ps]; simp
theorem ctls_def {p s : Aut} (hp : Okay p) (hs : Okay s) {pairs : List (List Int)} (hv : ∀ q ∈ pairs, Vt [p, s] q) : ∀ x, x < s.st.toNat → lget (ctls p s pairs) x = ctlD p s pairs x := by
  have key : ∀ (r pre : List (List Int)) (l : List Ctl), (∀ q ∈ r, Vt [p, s] q) → l.length = s.st.toNat → (∀ x, x < s.st.toNat → CtlI p s pre x (lget l x)) → ∀ x, x < s.st.toNat → CtlI p s (pre ++ r) x (lget (r.foldl (ctlQ p s) l) x) := by
    intro r
    induction r with
    | nil => intro pre l _ _ h x hx; simpa using h x hx
    | cons q r ih =>
      intro pre l hr hl h x hx
      obtain ⟨xi, yi, rfl, hx1, hy1⟩ := Vt2 (hr q List.mem_cons_self)
      rw [List.foldl_cons, show pre ++ [(xi : Int), (yi : Int)] :: r = (pre ++ [[(xi : Int), (yi : Int)]]) ++ r by simp]
      refine ih _ _ (fun q hq => hr q (List.mem_cons_of_mem _ hq)) (by simp [ctlQ, hl]) (fun z hz => ?_) x hx
      have e1 : py [(xi : Int), (yi : Int)] = (yi : Int) := rfl
      have e2 : px [(xi : Int), (yi : Int)] = (xi : Int) := rfl
      unfold ctlQ
      rw [e1, e2, Int.toNat_natCast]
      by_cases ez : z = yi
      · subst ez
        have e3 : lget (l.set z (ctlP p s xi z (l.getD z ctl0))) z = ctlP p s xi z (lget l z) := by
          unfold lget
          simp only [List.getD]
          rw [List.getElem?_set_self (by omega)]; rfl
        rw [e3]
        have := CtlI.pair hp hs (q := [(xi : Int), (z : Int)]) (c := lget l z) (h z hz)
        exact this
      · have e3 : lget (l.set yi (ctlP p s xi yi (l.getD yi ctl0))) z = lget l z := by
          unfold lget
          simp only [List.getD, List.getElem?_set]
          rw [if_neg (fun e => ez e.symm)]
        rw [e3]
        exact (h z hz).other (by rw [e1]; omega)
  intro x hx
  have h1 := key pairs [] (List.replicate s.st.toNat ctl0) hv (by simp) (fun z hz => by
    have : lget (List.replicate s.st.toNat ctl0) z = ctl0 := by unfold lget; simp [List.getD, hz]
    rw [this]; exact CtlI.zero p s z) x hx
  rw [List.nil_append] at h1
  exact h1.eq hs.ali
end Go.Proofs.YtfhgnlkdcdlblaaDoor

/- Contracts: supervisor.Loop; automaton.Equal and law30's same where both are equal. -/
namespace Go.Proofs.YtfhgnlkdcdlblaaDoor
open Go.Lg

theorem Loop_ok {L : List Nat} {w : World} {pva pvm pve sa sm se : Value} {aP aS : Aut} (hp : AutA L w.heap pva pvm pve aP) (hs : AutA L w.heap sa sm se aS) (hst : Okay aP → Okay aS → aP.st ≤ 100 ∧ aS.st ≤ 100) :
    Ret Tryd.prog 16 [.agg #[pva, .int .i64 aP.st, pvm, pve], .agg #[sa, .int .i64 aS.st, sm, se]] w fun r w' => Step [] w w' ∧ ∃ v, r = .tuple #[v, .int .i64 (opE aP aS)] ∧
      (opE aP aS ≠ 0 → v = zA) ∧ (opE aP aS = 0 → AutF w.heap.size w'.heap v (opA aP aS)) := by
  refine Ret.of_W Tryd.func16 rfl Tryd.ntmps16 Tryd.results16 (by simp) ?_
  refine W_seq <| W_region (by rfl) ?_
  refine xl rfl <| o_box (us := [pva, .int .i64 aP.st, pvm, pve]) rfl fun b2 w1 hs1 hb2 hB2 => xl rfl <| o_box (us := [sa, .int .i64 aS.st, sm, se]) rfl fun b3 w2 hs2 hb3 hB3 =>
    xl rfl <| o_alloc (us := [.slice none 0 0, .int .i64 0, .slice none 0 0, .slice none 0 0]) rfl fun b4 w3 hs3 hb4 hB4 => x r_assign <| xe ?_
  have hs13 := (hs1.trans hs2).trans hs3
  have hz1 := hs1.size
  have hz2 := hs2.size
  have hl4 := hB4.lt
  refine W_seq <| W_region (by rfl) ?_
  refine x (r_loadsB ((hB2.ext hs2).ext hs3) rfl rfl) <| x (r_loadsB (hB3.ext hs3) rfl rfl) <| xl rfl <| xf <| (sopen_ok (hp.ext hs13) (hs.ext hs13) hst).mono ?_
  rintro r4 w4 ⟨hs4, va, vt, rfl, hO⟩
  obtain ⟨us, hva, husl, hus⟩ := hO.shape
  refine x r_move <| x (r_extract rfl rfl) <|
    x (r_extract rfl rfl) <| x (r_extract rfl rfl) <| xl rfl <| o_alloc (us := [.slice none 0 0, .int .i64 0, .slice none 0 0, .slice none 0 0]) rfl fun b6 w5 hs5 hb6 hB6 => xl rfl <| o_stores (us := us) hB6 rfl hva husl rfl hus fun w6 hs6 hB6' =>
    x r_assign <| x r_assign <| xe ?_
  have hs46 : Step [] w4 w6 := hs5.then1 hs6 hb6
  have hs36 := hs4.trans hs46
  have hz3 := hs3.size
  have hz13 := hs13.size
  refine W_seq <| W_region (by rfl) ?_
  refine x (r_loadsB hB6' rfl husl) <| x r_move <| xl rfl <| o_stores (us := us) (hB4.ext hs36) rfl rfl husl rfl hus fun w7 hs7 hB7 => x r_assign <| xe ?_
  refine W_ret ⟨[.agg us.toArray, .int .i64 (opE aP aS)], ⟨⟨_, rfl, run_loadVar_ag husl (hB7.at (L := []) (by simp)).cells⟩, rfl, trivial⟩, (hs13.trans hs36).then1 hs7 (by omega), va, by rw [hva]; rfl, fun e => (hO.bad e).1, fun e => ?_⟩
  exact (AutF_st1 ((hO.good e).1.ext hs46) (by omega) hs7).mono hz13

theorem Equal_same {L L' : List Nat} {w : World} {va vm ve va' vm' ve' : Value} {a : Aut} (h : AutA L w.heap va vm ve a) (h' : AutA L' w.heap va' vm' ve' a) :
    Ret Tryd.prog 15 [.agg #[va, .int .i64 a.st, vm, ve], .agg #[va', .int .i64 a.st, vm', ve']] w fun r w' => r = .bool true ∧ Step [] w w' := by
  refine Ret.of_W Tryd.func15 rfl Tryd.ntmps15 Tryd.results15 (by simp) ?_
  refine W_seq <| W_region (by rfl) ?_
  refine xl rfl <| o_box (us := [va, .int .i64 a.st, vm, ve]) rfl fun b2 w1 hs1 hb2 hB2 => xl rfl <| o_box (us := [va', .int .i64 a.st, vm', ve']) rfl fun b3 w2 hs2 hb3 hB3 => x r_assign <| xe ?_
  have hs12 := hs1.trans hs2
  have hB22 := hB2.ext hs2
  refine W_seq <| W_region (by rfl) ?_
  refine x (r_fieldB rfl) <| x (r_loadB hB22 rfl rfl) <| x (r_fieldB rfl) <| x (r_loadB hB3 rfl rfl) <| xb (r_eql rfl rfl) (fun _ => ?_) (fun h9 => absurd rfl h9)
  refine x r_move <| x (r_fieldB rfl) <| x (r_loadB hB22 rfl rfl) <| x (r_fieldB rfl) <| x (r_loadB hB3 rfl rfl) <| xl rfl <| xf <| (equalI_ok (h.al.ext hs12) (h'.al.ext hs12)).mono ?_
  rintro r3 w3 ⟨hr3, hs3⟩
  rw [decide_eq_true rfl] at hr3
  subst hr3
  have hs13 := hs12.trans hs3
  refine x (r_pick rfl) <|
    x r_move <| x (r_fieldB rfl) <| x (r_loadB (hB22.ext hs3) rfl rfl) <| x (r_fieldB rfl) <| x (r_loadB (hB3.ext hs3) rfl rfl) <|
    xl rfl <| xf <| (equalI_ok (h.mr.ext hs13) (h'.mr.ext hs13)).mono ?_
  rintro r4 w4 ⟨hr4, hs4⟩
  rw [decide_eq_true rfl] at hr4
  subst hr4
  have hs14 := hs13.trans hs4
  have hs34 := hs3.trans hs4
  refine x (r_pick rfl) <| x r_move <| x (r_fieldB rfl) <| x (r_loadB (hB22.ext hs34) rfl rfl) <|
    x (r_fieldB rfl) <| x (r_loadB (hB3.ext hs34) rfl rfl) <| xl rfl <| xf <| (equalE_ok (h.ed.ext hs14) (h'.ed.ext hs14)).mono ?_
  rintro r5 w5 ⟨hr5, hs5⟩
  rw [decide_eq_true rfl] at hr5
  subst hr5
  refine x (r_pick rfl) <| x r_assign <| xe ?_
  exact W_ret ⟨[.bool true], ⟨rfl, trivial⟩, rfl, hs14.trans hs5⟩

theorem same_ok {L L' : List Nat} {w : World} {c d : CV} (hc : CvA L w.heap c) (hd : CvA L' w.heap d) (he : c.c = d.c) :
    Ret Tryd.prog 20 [.agg (cvCells c).toArray, .agg (cvCells d).toArray] w fun r w' => r = .bool true ∧ Step [] w w' := by
  refine Ret.of_W Tryd.func20 rfl Tryd.ntmps20 Tryd.results20 (by simp) ?_
  refine W_seq <| W_region (by rfl) ?_
  refine xl rfl <| o_box (us := cvCells c) rfl fun b2 w1 hs1 hb2 hB2 => xl rfl <| o_box (us := cvCells d) rfl fun b3 w2 hs2 hb3 hB3 => x r_assign <| xe ?_
  have hs12 := hs1.trans hs2
  have hB22 := hB2.ext hs2
  have hen := hc.en
  have hdi := hc.dis
  rw [he] at hen hdi
  have hmk : d.c.mk' = c.c.mk' := by rw [he]
  have hps : d.c.ps = c.c.ps := by rw [he]
  refine W_seq <| W_region (by rfl) ?_
  refine x (r_fieldB rfl) <| x (r_loadB hB22 rfl rfl) <| x (r_fieldB rfl) <| x (r_loadB hB3 rfl rfl) <| xl rfl <| xf <| (wEqual_ok (hen.ext hs12) (hd.en.ext hs12)).mono ?_
  rintro r3 w3 ⟨hr3, hs3⟩
  rw [decide_eq_true rfl] at hr3
  subst hr3
  have hs13 := hs12.trans hs3
  refine x r_move <| x (r_fieldB rfl) <| x (r_loadB (hB22.ext hs3) rfl rfl) <| x (r_fieldB rfl) <| x (r_loadB (hB3.ext hs3) rfl rfl) <| xl rfl <| xf <| (wEqual_ok (hdi.ext hs13) (hd.dis.ext hs13)).mono ?_
  rintro r4 w4 ⟨hr4, hs4⟩
  rw [decide_eq_true rfl] at hr4
  subst hr4
  have hs34 := hs3.trans hs4
  refine x (r_pick rfl) <| x r_move <| x (r_fieldB rfl) <| x (r_loadB (hB22.ext hs34) rfl rfl) <| x (r_fieldB rfl) <| x (r_loadB (u := .bool c.c.mk') (hB3.ext hs34) rfl (congrArg (fun b => some (Value.bool b)) hmk)) <| x (r_eqT rfl rfl) <|
    x (r_pick rfl) <| x r_move <| x (r_fieldB rfl) <| x (r_loadB (hB22.ext hs34) rfl rfl) <| x (r_fieldB rfl) <| x (r_loadB (u := .bool c.c.ps) (hB3.ext hs34) rfl (congrArg (fun b => some (Value.bool b)) hps)) <|
    x (r_eqT rfl rfl) <| x (r_pick rfl) <| x r_assign <| xe ?_
  exact W_ret ⟨[.bool true], ⟨rfl, trivial⟩, rfl, hs13.trans hs4⟩
end Go.Proofs.YtfhgnlkdcdlblaaDoor

/- Contract: law30's control. -/
namespace Go.Lg
section
variable {P : Program} {f : Fr} {w : World} {d : Option Nat} {ty : Nat} {ps : String} {af : Array Edge} {gd : Option (Nat × Bool)}
theorem r_moveV {x : Operand} {v : Value} (h : ev f x = v) : (execOp (ev f) ⟨d, .move x, ty, ps, af, gd⟩).run P w = .ok (.value v) w := by rw [← h]; exact r_move
end
end Go.Lg
namespace Go.Proofs.YtfhgnlkdcdlblaaDoor
open Go.Lg

theorem filter_snoc {l : List Int} {e : Int} {p : Int → Bool} : (l ++ [e]).filter p = if p e = true then l.filter p ++ [e] else l.filter p := by
  rw [List.filter_append]
  by_cases h : p e = true
  · rw [if_pos h, List.filter_cons, if_pos h]; rfl
  · rw [if_neg h, List.filter_cons, if_neg h, List.filter_nil, List.append_nil]
/-- What the loops hold. -/
structure CcI (w4 : World) (b : Nat) (m q : Bool) (ve vd : Value) (E D : List Int) (w : World) : Prop where
  st : Step [b] w4 w
  B : Blk w.heap b 56 [ve, vd, .bool m, .bool q]
  e : IntsO 3 w4.heap.size w ve E
  d : IntsO 3 w4.heap.size w vd D
  dj : Dj ve vd
section
variable {w4 w w' w'' : World} {b : Nat} {m q : Bool} {ve vd : Value} {E D : List Int}
theorem CcI.ext (h : CcI w4 b m q ve vd E D w) (hs : Step [] w w') : CcI w4 b m q ve vd E D w' := ⟨h.st.trans hs, h.B.ext hs, own_ext h.e hs, own_ext h.d hs, h.dj⟩
theorem CcI.setE (h : CcI w4 b m q ve vd E D w) (hb : b < w4.heap.size) {ve' : Value} {E' : List Int} (hs : Step (ob ve) w w') (hm : IntsO 3 w4.heap.size w' ve' E') (hn : ∀ b ∈ ob ve', b ∈ ob ve ∨ w.heap.size ≤ b) (hs2 : Step [b] w' w'')
    (hB : Blk w''.heap b 56 [ve', vd, .bool m, .bool q]) : CcI w4 b m q ve' vd E' D w'' :=
  ⟨(h.st.then hs (fun c hc => .inr (own_ge h.e c hc).1)).trans' hs2, hB, own_step hm hs2 (fun c hc => by have := (own_ge hm c hc).1; simp; omega),
    own_step (own_step h.d hs h.dj.symm) hs2 (fun c hc => by have := (own_ge h.d c hc).1; simp; omega), (h.dj.symm.grow hn (own_lt h.d)).symm⟩
theorem CcI.setD (h : CcI w4 b m q ve vd E D w) (hb : b < w4.heap.size) {vd' : Value} {D' : List Int} (hs : Step (ob vd) w w') (hm : IntsO 3 w4.heap.size w' vd' D') (hn : ∀ b ∈ ob vd', b ∈ ob vd ∨ w.heap.size ≤ b) (hs2 : Step [b] w' w'')
    (hB : Blk w''.heap b 56 [ve, vd', .bool m, .bool q]) : CcI w4 b m q ve vd' E D' w'' :=
  ⟨(h.st.then hs (fun c hc => .inr (own_ge h.d c hc).1)).trans' hs2, hB, own_step (own_step h.e hs h.dj) hs2 (fun c hc => by have := (own_ge h.e c hc).1; simp; omega),
    own_step hm hs2 (fun c hc => by have := (own_ge hm c hc).1; simp; omega), h.dj.grow hn (own_lt h.e)⟩
theorem CcI.setB (h : CcI w4 b m q ve vd E D w) (hb : b < w4.heap.size) {m' q' : Bool} (hs : Step [b] w w') (hB : Blk w'.heap b 56 [ve, vd, .bool m', .bool q']) : CcI w4 b m' q' ve vd E D w' :=
  ⟨h.st.trans' hs, hB, own_step h.e hs (fun c hc => by have := (own_ge h.e c hc).1; simp; omega), own_step h.d hs (fun c hc => by have := (own_ge h.d c hc).1; simp; omega), h.dj⟩
end
def hitQ (p : Aut) (x e : Int) (q : List Int) : Bool := decide (py q = x) && decide (0 ≤ nxt p.ed (px q) e)
theorem canX_take (p : Aut) (x e : Int) {ps : List (List Int)} {k : Nat} (h : k < ps.length) : canX p (ps.take (k + 1)) x e = (canX p (ps.take k) x e || hitQ p x e ps[k]) := by
  unfold canX hitQ
  rw [List.take_succ_eq_append_getElem h, List.any_append]; simp

set_option maxHeartbeats 4000000 in
theorem control_ok {L : List Nat} {w : World} {pva pvm pve sa sm se vt : Value} {aP aS : Aut} {qs : List TV} (hp : AutA L w.heap pva pvm pve aP) (hs : AutA L w.heap sa sm se aS) (hal : aS.al.length ≤ 32)
    (ht : Tups L w.heap vt qs) (hq : ∀ q ∈ qs, Vt [aP, aS] q.2) (hqn : qs.length ≤ 4096) (x0 : Int) :
    Ret Tryd.prog 19 [.agg #[pva, .int .i64 aP.st, pvm, pve], .agg #[sa, .int .i64 aS.st, sm, se], vt, .int .i64 x0] w fun r w' => Step [] w w' ∧ ∃ cv occ, r = .tuple #[.agg (cvCells cv).toArray, .bool occ] ∧
      cv.c = ctlD aP aS (qs.map (·.2)) x0 ∧ (∀ L' : List Nat, (∀ b ∈ L', b < w.heap.size) → CvA L' w'.heap cv) ∧ occ = (qs.map (·.2)).any fun q => decide (py q = x0) := by
  refine Ret.of_W Tryd.func19 rfl Tryd.ntmps19 Tryd.results19 (by simp) ?_
  refine exE (qs.map (·.2)) fun prs hprs => ?_
  have hpl : prs.length = qs.length := by rw [← hprs]; simp
  rw [hprs]
  refine W_seq <| W_region (by rfl) ?_
  refine xl rfl <| o_box (us := [pva, .int .i64 aP.st, pvm, pve]) rfl fun b4 w1 hs1 hb4 hB4 => xl rfl <| o_box (us := [sa, .int .i64 aS.st, sm, se]) rfl fun b5 w2 hs2 hb5 hB5 =>
    xl rfl <| o_alloc (us := [.slice none 0 0, .slice none 0 0, .bool false, .bool false]) rfl fun b8 w3 hs3 hb8 hB8 => x r_assign <| xe ?_
  refine W_seq <| W_region (by rfl) ?_
  refine xl rfl <| o_alloc (us := [.slice none 0 0, .slice none 0 0, .bool false, .bool false]) rfl fun b10 w4 hs4 hb10 hB10 => xe ?_
  refine W_seq <| W_region (by rfl) ?_
  refine x r_assign <| xe ?_
  have hz1 := hs1.size
  have hz2 := hs2.size
  have hz3 := hs3.size
  have hz4 := hs4.size
  have hl4 := hB4.lt
  have hl5 := hB5.lt
  have hl8 := hB8.lt
  have hl10 := hB10.lt
  have hW4 := ((hs1.trans hs2).trans hs3).trans hs4
  have hB44 := ((hB4.ext hs2).ext hs3).ext hs4
  have hB54 := (hB5.ext hs3).ext hs4
  have hB84 := hB8.ext hs4
  have hnew : ∀ b ∈ [b10], b ∈ L ∨ w.heap.size ≤ b := fun b hb => .inr (by simp at hb; omega)
  have hp4 : AutA [b10] w4.heap pva pvm pve aP := (hp.up hnew).ext hW4
  have hs4' : AutA [b10] w4.heap sa sm se aS := (hs.up hnew).ext hW4
  have ht4 : Tups [b10] w4.heap vt qs := (ht.up hnew).ext hW4
  have n4 : b4 ∉ [b10] := by simp; omega
  have n5 : b5 ∉ [b10] := by simp; omega
  have n8 : b8 ∉ [b10] := by simp; omega
  have hqI : ∀ k (h : k < qs.length), ∃ xi yi : Nat, qs[k].2 = [(xi : Int), (yi : Int)] ∧ prs[k]'(by omega) = [(xi : Int), (yi : Int)] := fun k h => by
    obtain ⟨xi, yi, e, _, _⟩ := Vt2 (hq _ (List.getElem_mem h))
    exact ⟨xi, yi, e, by subst hprs; simp only [List.getElem_map]; exact e⟩
  -- enabled and disabled events
  refine W_cut (α := Value × Value) [(12, 15), (17, 78)] (fun z => []) (fun z w' => CcI w4 b10 false false z.1 z.2 (aS.al.filter fun e => canX aP prs x0 e && decide (0 ≤ nxt aS.ed x0 e)) (aS.al.filter fun e => canX aP prs x0 e && !decide (0 ≤ nxt aS.ed x0 e)) w') (by rfl) ?_ ?_
  · refine W_seq <| W_region (by rfl) ?_
    refine x r_assign <| xe ?_
    refine W_block <| W_loop (α := Nat × Value × Value) [(12, 15), (17, 78)] (fun z => [(12, .int .i64 z.1)])
      (fun z w' => z.1 ≤ aS.al.length ∧ CcI w4 b10 false false z.2.1 z.2.2 ((aS.al.take z.1).filter fun e => canX aP prs x0 e && decide (0 ≤ nxt aS.ed x0 e)) ((aS.al.take z.1).filter fun e => canX aP prs x0 e && !decide (0 ≤ nxt aS.ed x0 e)) w')
      (fun z => aS.al.length - z.1) (by rfl) (0, .slice none 0 0, .slice none 0 0) ⟨rfl, trivial⟩ ⟨Nat.zero_le _, ⟨Step.refl _ _, hB10, own_nil _ _ _ _, own_nil _ _ _ _, Dj.nil' _⟩⟩ ?_
    rintro ⟨i, ve, vd⟩ g5 w5 ⟨hi, hI⟩
    simp only [] at hi hI
    have hB55 := hB54.step hI.st n5
    have ha5 := hs4'.st hI.st
    refine W_seq <| W_seq <| W_region (by rfl) ?_
    refine x r_move <| x (r_fieldB rfl) <| x (r_loadB hB55 rfl rfl) <| x (r_lenA ha5.al rfl) <| x (r_lss rfl rfl) <| xe ?_
    refine W_ifn rfl (fun h21 => ?_) (fun h21 => ?_)
    · refine W_exit ?_
      rw [List.take_of_length_le (by omega)] at hI
      exact ⟨(ve, vd), trivial, hI⟩
    have hlt : i < aS.al.length := by omega
    refine exE (cget aS.al i) fun e he => ?_
    have htk : aS.al.take (i + 1) = aS.al.take i ++ [e] := by rw [List.take_succ_eq_append_getElem hlt, cget_eq hlt, he]
    have hlE : ((aS.al.take i).filter fun e => canX aP prs x0 e && decide (0 ≤ nxt aS.ed x0 e)).length ≤ 32 := Nat.le_trans (List.length_filter_le _ _) (by simp; omega)
    have hlD : ((aS.al.take i).filter fun e => canX aP prs x0 e && !decide (0 ≤ nxt aS.ed x0 e)).length ≤ 32 := Nat.le_trans (List.length_filter_le _ _) (by simp; omega)
    refine W_skip ?_
    refine W_seq <| W_block <| W_seq <| W_region (by rfl) ?_
    refine x (r_fieldB rfl) <| x (r_loadB hB55 rfl rfl) <| x r_move <| xic (i := i) ha5.al rfl rfl hlt fun a27 h27 => ?_
    rw [he] at h27
    refine x (r_loadA h27 rfl) <| x r_assign <| xe ?_
    refine W_seq <| W_region (by rfl) ?_
    refine x r_assign <| xe ?_
    -- can
    refine W_cut (α := Unit) [(14, 15), (29, 57)] (fun z => [(14, .bool (canX aP prs x0 e))]) (fun z w' => Step [] w5 w') (by rfl) ?_ ?_
    · refine W_seq <| W_region (by rfl) ?_
      refine x r_assign <| xe ?_
      refine W_block <| W_loop (α := Nat) [(14, 15), (29, 57)] (fun z => [(14, .bool (canX aP (prs.take z) x0 e)), (15, .int .i64 z)]) (fun z w' => z ≤ qs.length ∧ Step [] w5 w') (fun z => qs.length - z) (by rfl) 0 ⟨rfl, rfl, trivial⟩ ⟨Nat.zero_le _, Step.refl _ _⟩ ?_
      rintro k g13 w13 ⟨hk, hs13⟩
      have ht13 := (ht4.st hI.st).ext hs13
      refine W_seq <| W_seq <| W_region (by rfl) ?_
      refine x r_move <| x r_move <| x (r_lenA ht13.arr rfl) <| x (r_lss rfl rfl) <| xe ?_
      refine W_ifn rfl (fun h32 => ?_) (fun h32 => ?_)
      · refine W_exit ?_
        exact ⟨(), ⟨congrArg (fun l => Value.bool (canX aP l x0 e)) (List.take_of_length_le (by omega)), trivial⟩, hs13⟩
      have hltk : k < qs.length := by omega
      have hltp : k < prs.length := by omega
      obtain ⟨xi, yi, hqe, hpe⟩ := hqI k hltk
      have hct := canX_take aP x0 e hltp
      rw [hpe] at hct
      have hqI13 : Ints [b10] w13.heap (qs[k]'hltk).1 [(xi : Int), (yi : Int)] := by rw [← hqe]; exact ht13.each _ (List.getElem_mem hltk)
      have hB413 := (hB44.step hI.st n4).ext hs13
      have hed13 := (hp4.st hI.st).ed.ext hs13
      refine exE (nxt aP.ed xi e) fun t htn => ?_
      have hhit : hitQ aP x0 e [(xi : Int), (yi : Int)] = (decide ((yi : Int) = x0) && decide (0 ≤ t)) := by rw [← htn]; rfl
      rw [hhit] at hct
      have hnx := next30_ok (va := pva) (vm := pvm) (a := aP) (hed13.ext (Step.drew [] w13)) xi e aP.st
      rw [htn] at hnx
      refine exE (canX aP (prs.take k) x0 e) fun cn hcn => ?_
      rw [hcn] at hct
      refine W_skip ?_
      refine W_cut (α := Unit) [(14, 14), (34, 57)] (fun z => [(14, .bool (canX aP (prs.take (k + 1)) x0 e))]) (fun z w' => Step [] w5 w') (by rfl) ?_ ?_
      · refine W_block ?_
        refine Or.elim (Bool.eq_false_or_eq_true cn) (fun hc => ?_) (fun hc => ?_)
        · rw [hc] at hct hcn
          refine W_draw (Step [] w13) [(0, true), (1, true), (2, true), (3, true), (4, true), (5, true), (6, true), (7, true), (8, true), (9, true), (10, true), (11, true), (12, true), (13, true), (14, true), (15, true), (16, true), (17, true), (18, true), (19, false), (20, true), (21, true), (22, true), (23, true)] Tryd.mixed (by rfl) (by kernel_rfl) (Step.drew _ _) ?_
          refine p (fun _ => r_moveV (congrArg Value.bool hcn)) <| p (fun _ => r_move) <| ps <| ps <| ps <| ps <| ps <| ps <| ps <| ps <| ps <| ps <| ps <| ps <| ps <| ps <| ps <| ps <| ps <| ps <| ps <| ps <| p (fun _ => r_pick rfl) <| p (fun _ => r_assign) <| pe ?_
          exact ⟨(), ⟨congrArg Value.bool (by rw [hct]; rfl), trivial⟩, hs13.trans (Step.drew _ _)⟩
        · rw [hc] at hct hcn
          refine W_draw (Step [] w13) [(0, true), (1, true), (2, true), (3, true), (4, true), (5, true), (6, true), (7, true), (8, true), (9, true), (10, true), (11, true), (12, true), (13, true), (14, true), (15, true), (16, true), (17, true), (18, true), (19, false), (20, true), (21, true), (22, true), (23, true)] Tryd.mixed (by rfl) (by kernel_rfl) (Step.drew _ _) ?_
          refine p (fun _ => r_moveV (congrArg Value.bool hcn)) <| p (fun _ => r_move) <| p (fun _ => r_move) <| p (fun _ => r_move) <| Lg.pig (g := tvCells) (i := k) rfl (fun _ => rfl) ht13.arr rfl rfl hltk fun a39 h39 =>
            pq (fun _ hc => r_loadA (h39.ext hc) rfl) <| pii (i := 1) rfl hqI13 rfl rfl (by simp) fun a41 h41 => pq (fun _ hc => r_loadA (h41.ext hc) rfl) <|
            p (fun _ => r_move) <| pb (fun _ => r_eql rfl rfl) (fun h44 => ?_) (fun h44 => ?_)
          · refine p (fun _ => r_move) <| pq (fun _ hc => r_loadsB (hB413.ext hc) rfl rfl) <| p (fun _ => r_move) <| p (fun _ => r_move) <| Lg.pig (g := tvCells) (i := k) rfl (fun _ => rfl) ht13.arr rfl rfl hltk fun a49 h49 =>
              pq (fun _ hc => r_loadA (h49.ext hc) rfl) <| pii (i := 0) rfl hqI13 rfl rfl (by simp) fun a51 h51 => pq (fun _ hc => r_loadA (h51.ext hc) rfl) <| p (fun _ => r_move) <|
              pk <| xf <| hnx.mono ?_
            rintro r22 w22 ⟨rfl, hs22⟩
            have hs1322 := (Step.drew [] w13).trans hs22
            refine ⟨hs1322, p (fun _ => r_geq rfl rfl) <| p (fun _ => r_pick rfl) <| p (fun _ => r_pick rfl) <| p (fun _ => r_assign) <| pe ?_⟩
            exact ⟨(), ⟨congrArg Value.bool (by rw [hct, decide_eq_true (show (yi : Int) = x0 from h44)]; rfl), trivial⟩, hs13.trans hs1322⟩
          refine p (fun _ => r_move) <| ps <| ps <| ps <| ps <| ps <| ps <| ps <| ps <| ps <| ps <| p (fun _ => r_pick rfl) <| p (fun _ => r_pick rfl) <| p (fun _ => r_assign) <| pe ?_
          exact ⟨(), ⟨congrArg Value.bool (by rw [hct, decide_eq_false (show ¬ (yi : Int) = x0 from h44)]; rfl), trivial⟩, hs13.trans (Step.drew _ _)⟩
      rintro _ g14 w14 hs14
      refine W_region (by rfl) ?_
      refine x r_move <| x (r_add rfl rfl ⟨by omega, by omega⟩) <| x r_assign <| xe ?_
      exact ⟨k + 1, by omega, ⟨rfl, rfl, trivial⟩, hltk, hs14⟩
    rintro _ g15 w15 hs15
    have hI15 := hI.ext hs15
    have hB515 := hB55.ext hs15
    refine exE (canX aP prs x0 e) fun cn hcn => ?_
    refine exE (nxt aS.ed x0 e) fun t htn => ?_
    have hnx := next30_ok (va := sa) (vm := sm) (a := aS) (ha5.ed.ext hs15) x0 e aS.st
    rw [htn] at hnx
    have hfE : (aS.al.take (i + 1)).filter (fun e => canX aP prs x0 e && decide (0 ≤ nxt aS.ed x0 e)) = if (cn && decide (0 ≤ t)) = true then ((aS.al.take i).filter fun e => canX aP prs x0 e && decide (0 ≤ nxt aS.ed x0 e)) ++ [e] else (aS.al.take i).filter fun e => canX aP prs x0 e && decide (0 ≤ nxt aS.ed x0 e) := by
      rw [htk, filter_snoc, hcn, htn]
    have hfD : (aS.al.take (i + 1)).filter (fun e => canX aP prs x0 e && !decide (0 ≤ nxt aS.ed x0 e)) = if (cn && !decide (0 ≤ t)) = true then ((aS.al.take i).filter fun e => canX aP prs x0 e && !decide (0 ≤ nxt aS.ed x0 e)) ++ [e] else (aS.al.take i).filter fun e => canX aP prs x0 e && !decide (0 ≤ nxt aS.ed x0 e) := by
      rw [htk, filter_snoc, hcn, htn]
    refine W_cut (α := Unit) [(58, 65)] (fun z => [(65, .bool (cn && decide (0 ≤ t)))]) (fun z w' => Step [] w15 w') (by rfl) ?_ ?_
    · refine Or.elim (Bool.eq_false_or_eq_true cn) (fun hc => ?_) (fun hc => ?_)
      · refine W_region (by rfl) ?_
        refine x (r_moveV (congrArg Value.bool (hcn.trans hc))) <| x r_move <| x (r_loadsB hB515 rfl rfl) <| x r_move <| x r_move <| xl rfl <| xf <| hnx.mono ?_
        rintro r14 w16 ⟨rfl, hs16⟩
        refine x (r_geq rfl rfl) <| x (r_pick rfl) <| xe ?_
        exact ⟨(), ⟨congrArg Value.bool (by rw [hc]; rfl), trivial⟩, hs16⟩
      · refine W_region (by rfl) ?_
        refine x (r_moveV (congrArg Value.bool (hcn.trans hc))) <| x r_move <| xs rfl <| xs rfl <| xs rfl <| xs rfl <| xs rfl <| x (r_pick rfl) <| xe ?_
        exact ⟨(), ⟨congrArg Value.bool (by rw [hc]; rfl), trivial⟩, Step.refl _ _⟩
    rintro _ g16 w16 hs16
    have hI16 := hI15.ext hs16
    refine W_cond rfl (fun h65 => ?_) (fun h65 => ?_)
    · have h65' : (cn && decide (0 ≤ t)) = true := h65
      rw [if_pos h65'] at hfE
      rw [if_neg (by cases cn <;> simp at h65' ⊢; omega)] at hfD
      refine W_region (by rfl) ?_
      refine x (r_fieldB rfl) <| x (r_loadB hI16.B rfl rfl) <| x r_move <| xl rfl <| o_lits (us := [[.int .i64 e]]) rfl rfl (by decide) (by simp) ⟨rfl, rfl, trivial⟩ fun b69 w17 hs17 hb69 hB69 => ?_
      have hI17 := hI16.ext hs17
      refine xl rfl <| o_app (news := [.int .i64 e]) (L := []) hI17.e rfl rfl rfl (hB69.at (by simp)) (by simp [Value.oneCell']) (by omega) hI17.st.size fun v18 w18 ho18 hs18 hn18 => ?_
      have ho18' := IntsO.snoc ho18
      refine x (r_fieldB rfl) <| xl rfl <| o_store (hI17.B.step hs18 (own_notin hI17.e hl10)) rfl rfl (by simp) (IntsO.ints (L := []) ho18' (by simp; omega) (by simp)).one fun w19 hs19 hB19 =>
        xe ?_
      refine W_region (by rfl) ?_
      refine x r_move <| x (r_add rfl rfl ⟨by omega, by omega⟩) <| x r_assign <| xe ?_
      refine ⟨(i + 1, v18, vd), by simp only []; omega, ⟨rfl, trivial⟩, hlt, ?_⟩
      simp only []
      rw [hfE, hfD]; exact hI17.setE hl10 hs18 ho18' hn18 hs19 hB19
    have h65' : (cn && decide (0 ≤ t)) = false := h65
    rw [if_neg (by rw [h65']; simp)] at hfE
    refine W_seq <| W_region (by rfl) ?_
    refine x (r_moveV (congrArg Value.bool hcn)) <| xe ?_
    refine W_cond rfl (fun h72 => ?_) (fun h72 => ?_)
    rotate_left
    · rw [if_neg (by rw [h72]; simp)] at hfD
      refine W_skip ?_
      refine W_region (by rfl) ?_
      refine x r_move <| x (r_add rfl rfl ⟨by omega, by omega⟩) <| x r_assign <| xe ?_
      refine ⟨(i + 1, ve, vd), by simp only []; omega, ⟨rfl, trivial⟩, hlt, ?_⟩
      simp only []
      rw [hfE, hfD]; exact hI16
    rw [if_pos (by rw [h72] at h65' ⊢; simpa using h65')] at hfD
    refine W_region (by rfl) ?_
    refine x (r_fieldB rfl) <| x (r_loadB hI16.B rfl rfl) <| x r_move <| xl rfl <| o_lits (us := [[.int .i64 e]]) rfl rfl (by decide) (by simp) ⟨rfl, rfl, trivial⟩ fun b69 w17 hs17 hb69 hB69 => ?_
    have hI17 := hI16.ext hs17
    refine xl rfl <| o_app (news := [.int .i64 e]) (L := []) hI17.d rfl rfl rfl (hB69.at (by simp)) (by simp [Value.oneCell']) (by omega) hI17.st.size fun v18 w18 ho18 hs18 hn18 => ?_
    have ho18' := IntsO.snoc ho18
    refine x (r_fieldB rfl) <| xl rfl <| o_store (hI17.B.step hs18 (own_notin hI17.d hl10)) rfl rfl (by simp) (IntsO.ints (L := []) ho18' (by simp; omega) (by simp)).one fun w19 hs19 hB19 =>
      xe ?_
    refine W_region (by rfl) ?_
    refine x r_move <| x (r_add rfl rfl ⟨by omega, by omega⟩) <| x r_assign <| xe ?_
    refine ⟨(i + 1, ve, v18), by simp only []; omega, ⟨rfl, trivial⟩, hlt, ?_⟩
    simp only []
    rw [hfE, hfD]; exact hI17.setD hl10 hs18 ho18' hn18 hs19 hB19
  rintro ⟨ve, vd⟩ g5 w5 hI5
  simp only [] at hI5
  refine exE (aS.al.filter fun e => canX aP prs x0 e && decide (0 ≤ nxt aS.ed x0 e)) fun E hE => ?_
  refine exE (aS.al.filter fun e => canX aP prs x0 e && !decide (0 ≤ nxt aS.ed x0 e)) fun D hD => ?_
  have hlE : E.length ≤ 32 := by rw [← hE]; exact Nat.le_trans (List.length_filter_le _ _) hal
  have hlD : D.length ≤ 32 := by rw [← hD]; exact Nat.le_trans (List.length_filter_le _ _) hal
  rw [hE, hD] at hI5
  refine W_seq <| W_seq <| W_region (by rfl) ?_
  refine x r_assign <| xe ?_
  refine W_block <| W_loop (α := Nat) [(11, 11), (16, 16), (79, 106)] (fun z => [(11, .bool ((prs.take z).any fun q => decide (py q = x0))), (16, .int .i64 z)])
    (fun z w' => z ≤ qs.length ∧ CcI w4 b10 false ((prs.take z).any fun q => decide (py q = x0) && decide (px q ∈ aP.mr)) ve vd E D w') (fun z => qs.length - z) (by rfl) 0 ⟨rfl, rfl, trivial⟩ ⟨Nat.zero_le _, hI5⟩ ?_
  rintro k g6 w6 ⟨hk, hI⟩
  have ht6 := ht4.st hI.st
  have hB46 := hB44.step hI.st n4
  have hB56 := hB54.step hI.st n5
  have hB86 := hB84.step hI.st n8
  refine W_seq <| W_seq <| W_region (by rfl) ?_
  refine x r_move <| x r_move <| x (r_lenA ht6.arr rfl) <| x (r_lss rfl rfl) <| xe ?_
  refine W_ifn rfl (fun h82 => ?_) (fun h82 => ?_)
  · have htk : prs.take k = prs := List.take_of_length_le (by omega)
    rw [htk] at hI
    refine exE (prs.any fun q => decide (py q = x0)) fun oc hoc => ?_
    refine exE (prs.any fun q => decide (py q = x0) && decide (px q ∈ aP.mr)) fun pz hpz => ?_
    rw [hpz] at hI
    have hoc' : ((prs.take k).any fun q => decide (py q = x0)) = oc := by rw [htk]; exact hoc
    have hmr := (hs4'.st hI.st).mr
    have hveA := IntsO.ints (L := []) hI.e (by omega) (by simp)
    have hvdA := IntsO.ints (L := []) hI.d (by omega) (by simp)
    refine W_exit ?_
    refine W_cut (α := Unit) [(107, 114)] (fun z => []) (fun z w' => CcI w4 b10 (oc && decide (x0 ∈ aS.mr)) pz ve vd E D w') (by rfl) ?_ ?_
    · refine Or.elim (Bool.eq_false_or_eq_true oc) (fun hc => ?_) (fun hc => ?_)
      · refine W_region (by rfl) ?_
        refine x (r_moveV (congrArg Value.bool (hoc'.trans hc))) <| x r_move <| x (r_fieldB rfl) <| x (r_loadB hB56 rfl rfl) <| x r_move <| xl rfl <| xf <| (has30_ok hmr x0).mono ?_
        rintro r7 w7 ⟨rfl, rfl⟩
        refine x (r_pick rfl) <| x (r_fieldB rfl) <| xl rfl <| o_store (u := .bool (decide (x0 ∈ aS.mr))) hI.B rfl rfl (by simp) rfl fun w8 hs8 hB8' => xe ?_
        exact ⟨(), trivial, by rw [hc]; exact hI.setB hl10 hs8 hB8'⟩
      · refine W_region (by rfl) ?_
        refine x (r_moveV (congrArg Value.bool (hoc'.trans hc))) <| x r_move <| xs rfl <| xs rfl <| xs rfl <| xs rfl <| x (r_pick rfl) <| x (r_fieldB rfl) <| xl rfl <| o_store (u := .bool false) hI.B rfl rfl (by simp) rfl fun w8 hs8 hB8' => xe ?_
        exact ⟨(), trivial, by rw [hc]; exact hI.setB hl10 hs8 hB8'⟩
    rintro _ g9 w9 hI9
    refine W_seq <| W_region (by rfl) ?_
    refine x (r_loadsB hI9.B rfl rfl) <| x r_move <| xl rfl <| o_stores (us := [ve, vd, .bool (oc && decide (x0 ∈ aS.mr)), .bool pz]) (hB84.step hI9.st n8) rfl rfl rfl rfl ⟨hveA.one, hvdA.one, rfl, rfl, trivial⟩ fun w10 hs10 hB10' => x r_assign <| xe ?_
    refine W_ret ⟨[.agg #[ve, vd, .bool (oc && decide (x0 ∈ aS.mr)), .bool pz], .bool oc], ⟨⟨_, rfl, run_loadVar_ag rfl (hB10'.at (L := []) (by simp)).cells⟩, congrArg Value.bool hoc', trivial⟩, (hW4.then1 hI9.st (by omega)).then1 hs10 (by omega),
      ⟨ve, vd, ⟨E, D, oc && decide (x0 ∈ aS.mr), pz⟩⟩, oc, rfl, by unfold ctlD; rw [hE, hD, hoc, hpz], fun L' hL' => ⟨?_, ?_⟩, hoc.symm⟩
    · exact IntsO.ints (own_step hI9.e hs10 (fun c hc => by have := (own_ge hI9.e c hc).1; simp; omega)) (by show E.length ≤ _; omega) (fun b hb => by have := hL' b hb; omega)
    · exact IntsO.ints (own_step hI9.d hs10 (fun c hc => by have := (own_ge hI9.d c hc).1; simp; omega)) (by show D.length ≤ _; omega) (fun b hb => by have := hL' b hb; omega)
  have hltk : k < qs.length := by omega
  have hltp : k < prs.length := by omega
  obtain ⟨xi, yi, hqe, hpe⟩ := hqI k hltk
  have hqI6 : Ints [b10] w6.heap (qs[k]'hltk).1 [(xi : Int), (yi : Int)] := by rw [← hqe]; exact ht6.each _ (List.getElem_mem hltk)
  have hto : ((prs.take (k + 1)).any fun q => decide (py q = x0)) = (((prs.take k).any fun q => decide (py q = x0)) || decide ((yi : Int) = x0)) := by
    rw [List.take_succ_eq_append_getElem hltp, List.any_append, hpe]; simp [py]
  have htp : ((prs.take (k + 1)).any fun q => decide (py q = x0) && decide (px q ∈ aP.mr)) = (((prs.take k).any fun q => decide (py q = x0) && decide (px q ∈ aP.mr)) || (decide ((yi : Int) = x0) && decide ((xi : Int) ∈ aP.mr))) := by
    rw [List.take_succ_eq_append_getElem hltp, List.any_append, hpe]; simp [py, px]
  refine exE ((prs.take k).any fun q => decide (py q = x0) && decide (px q ∈ aP.mr)) fun pz hpz => ?_
  rw [hpz] at hI htp
  refine W_skip ?_
  refine W_seq <| W_block <| W_seq <| W_region (by rfl) ?_
  refine x r_move <| x r_move <| xig (g := tvCells) (i := k) (fun _ => rfl) ht6.arr rfl rfl hltk fun a87 h87 => x (r_loadA h87 rfl) <| xii (i := 1) hqI6 rfl rfl (by simp) fun a89 h89 =>
    x (r_loadA h89 rfl) <| x r_move <| x (r_eql rfl rfl) <| xe ?_
  refine W_ifn rfl (fun h92 => ?_) (fun h92 => ?_)
  · have h92' : ¬ (yi : Int) = x0 := h92
    rw [decide_eq_false h92'] at hto htp
    refine W_skip ?_
    refine W_region (by rfl) ?_
    refine x r_move <| x (r_add rfl rfl ⟨by omega, by omega⟩) <| x r_assign <| xe ?_
    refine ⟨k + 1, by omega, ⟨congrArg Value.bool (by rw [hto]; simp), rfl, trivial⟩, hltk, ?_⟩
    rw [htp]; simpa using hI
  have h92' : (yi : Int) = x0 := h92
  rw [decide_eq_true h92'] at hto htp
  refine W_seq <| W_region (by rfl) ?_
  refine x r_assign <| xe ?_
  refine Or.elim (Bool.eq_false_or_eq_true pz) (fun hc => ?_) (fun hc => ?_)
  · refine W_draw (Step [] w6) [(0, true), (1, true), (2, true), (3, true), (4, true), (5, true), (6, true), (7, true), (8, true), (9, true), (10, true), (11, false), (12, true), (13, true), (14, false)] Tryd.mixed (by rfl) (by kernel_rfl) (Step.drew _ _) ?_
    refine p (fun _ => r_fieldB rfl) <| pq (fun _ h => r_loadB (u := .bool true) (hI.B.ext h) rfl (congrArg (fun b => some (Value.bool b)) hc)) <| p (fun _ => r_move) <| ps <| ps <| ps <| ps <| ps <| ps <| ps <| ps <| ps <| p (fun _ => r_pick rfl) <| p (fun _ => r_fieldB rfl) <|
      pkl (hl := by kernel_rfl) <| o_store (u := .bool true) (hI.B.ext (Step.drew _ _)) rfl rfl (by simp) rfl fun w12 hs12 hB12 => pe ?_
    have hI12 : CcI w4 b10 false (pz || decide ((xi : Int) ∈ aP.mr)) ve vd E D w12 := by rw [hc]; exact (hI.ext (Step.drew _ _)).setB hl10 hs12 hB12
    refine W_region (by rfl) ?_
    refine x r_move <| x (r_add rfl rfl ⟨by omega, by omega⟩) <| x r_assign <| xe ?_
    refine ⟨k + 1, by omega, ⟨congrArg Value.bool (by rw [hto]; simp), rfl, trivial⟩, hltk, ?_⟩
    rw [htp]; simpa using hI12
  · have hmr := (hp4.st hI.st).mr
    refine W_draw (Step [] w6) [(0, true), (1, true), (2, true), (3, true), (4, true), (5, true), (6, true), (7, true), (8, true), (9, true), (10, true), (11, false), (12, true), (13, true), (14, false)] Tryd.mixed (by rfl) (by kernel_rfl) (Step.drew _ _) ?_
    refine p (fun _ => r_fieldB rfl) <| pq (fun _ h => r_loadB (u := .bool false) (hI.B.ext h) rfl (congrArg (fun b => some (Value.bool b)) hc)) <| p (fun _ => r_move) <| p (fun _ => r_fieldB rfl) <|
      pq (fun _ h => r_loadB (hB46.ext h) rfl rfl) <| p (fun _ => r_move) <| p (fun _ => r_move) <| Lg.pig (g := tvCells) (i := k) rfl (fun _ => rfl) ht6.arr rfl rfl hltk fun a100 h100 =>
      pq (fun _ h => r_loadA (h100.ext h) rfl) <| pii (i := 0) rfl hqI6 rfl rfl (by simp) fun a102 h102 => pq (fun _ h => r_loadA (h102.ext h) rfl) <|
      pk <| xf <| (has30_ok (hmr.ext (Step.drew [] w6)) (xi : Int)).mono ?_
    rintro r11 w11 ⟨rfl, rfl⟩
    refine ⟨Step.drew _ _, p (fun _ => r_pick rfl) <| p (fun _ => r_fieldB rfl) <|
      pkl (hl := by kernel_rfl) <| o_store (u := .bool (decide ((xi : Int) ∈ aP.mr))) (hI.B.ext (Step.drew _ _)) rfl rfl (by simp) rfl fun w12 hs12 hB12 => pe ?_⟩
    have hI12 : CcI w4 b10 false (pz || decide ((xi : Int) ∈ aP.mr)) ve vd E D w12 := by rw [hc]; exact (hI.ext (Step.drew _ _)).setB hl10 hs12 hB12
    refine W_region (by rfl) ?_
    refine x r_move <| x (r_add rfl rfl ⟨by omega, by omega⟩) <| x r_assign <| xe ?_
    refine ⟨k + 1, by omega, ⟨congrArg Value.bool (by rw [hto]; simp), rfl, trivial⟩, hltk, ?_⟩
    rw [htp]; simpa using hI12
end Go.Proofs.YtfhgnlkdcdlblaaDoor

/- The product of a plant and a supervisor of at most 5 states is found. -/
namespace Go.Proofs.YtfhgnlkdcdlblaaDoor
open Go.Lg

def encT (t : List Int) : Int := px t * 5 + py t
theorem tup_small {aP aS : Aut} (h : Pb aP aS) {s : Sy} (hs : SyOk [aP, aS] s) (hd : s.tup.Nodup) : s.tup.length ≤ 25 := by
  have h1 : (s.tup.map encT).Nodup := by
    unfold List.Nodup
    rw [List.pairwise_map]
    refine List.Pairwise.imp_of_mem (fun {a b} ha hb hne => ?_) hd
    obtain ⟨x1, y1, rfl, p1, q1⟩ := Vt2 (hs.v a ha)
    obtain ⟨x2, y2, rfl, p2, q2⟩ := Vt2 (hs.v b hb)
    intro e
    have e' : (x1 : Int) * 5 + y1 = x2 * 5 + y2 := e
    have := h.p5
    have := h.s5
    have ex : x1 = x2 := by omega
    have ey : y1 = y2 := by omega
    exact hne (by rw [ex, ey])
  have h2 := pig 25 (s.tup.map encT) h1 (fun z hz => by
    obtain ⟨t, ht, rfl⟩ := List.mem_map.1 hz
    obtain ⟨x1, y1, rfl, p1, q1⟩ := Vt2 (hs.v t ht)
    have := h.p5
    have := h.s5
    show 0 ≤ (x1 : Int) * 5 + y1 ∧ (x1 : Int) * 5 + y1 < 25
    omega)
  simpa using h2
theorem syE_some {aP aS : Aut} (h : Pb aP aS) {s : Sy} (hs : SyOk [aP, aS] s) (hd : s.tup.Nodup) (i : Nat) (t : List Int) (v : Int) : ∃ s', syE [aP, aS] i t s v = some s' ∧ s'.tup.Nodup := by
  have hl := tup_small h hs hd
  unfold syE
  cases stepT v [aP, aS] t with
  | none => exact ⟨s, rfl, hd⟩
  | some u =>
    simp only []
    by_cases hu : u ∈ s.tup
    · rw [if_pos hu]; exact ⟨_, rfl, hd⟩
    · rw [if_neg hu, if_neg (by omega)]
      refine ⟨_, rfl, ?_⟩
      simp only []
      rw [List.nodup_append]
      exact ⟨hd, by simp, fun a ha b hb => by simp only [List.mem_singleton] at hb; subst hb; exact fun e => hu (by rw [← e]; exact ha)⟩
theorem syEs_some {aP aS : Aut} (h : Pb aP aS) (ho : ∀ a ∈ [aP, aS], Okay a) {i : Nat} {t : List Int} (ht : Vt [aP, aS] t) : ∀ (vs : List Int) (s : Sy), SyOk [aP, aS] s → s.tup.Nodup → ∃ s', syEs [aP, aS] i t vs s = some s' ∧ s'.tup.Nodup
  | [], s, _, hd => ⟨s, rfl, hd⟩
  | v :: vs, s, hs, hd => by
    obtain ⟨s1, h1, h2⟩ := syE_some h hs hd i t v
    obtain ⟨s2, h3, h4⟩ := syEs_some h ho ht vs s1 (syE_ok ho hs ht h1) h2
    exact ⟨s2, by rw [syEs, h1]; exact h3, h4⟩
theorem syL_some {aP aS : Aut} (h : Pb aP aS) (ho : ∀ a ∈ [aP, aS], Okay a) : ∀ (f i : Nat) (s : Sy), SyOk [aP, aS] s → s.tup.Nodup → ∃ s', syL [aP, aS] f i s = some s'
  | 0, _, s, _, _ => ⟨s, rfl⟩
  | f + 1, i, s, hs, hd => by
    rw [syL]
    split
    · rename_i hi
      have hv : Vt [aP, aS] (syT s i) := hs.v _ (by unfold syT; simp [List.getD, hi])
      have hm : (syMark [aP, aS] i (syT s i) s).tup = s.tup := by unfold syMark; split <;> rfl
      obtain ⟨s1, h1, h2⟩ := syEs_some h ho hv (evs [aP, aS]) (syMark [aP, aS] i (syT s i) s) (syMark_ok hs) (by rw [hm]; exact hd)
      obtain ⟨s2, h3⟩ := syL_some h ho f (i + 1) s1 (syEs_ok ho hv _ _ _ (syMark_ok hs) h1) h2
      exact ⟨s2, by rw [h1]; exact h3⟩
    · exact ⟨s, rfl⟩
theorem Pb.okay {aP aS : Aut} (h : Pb aP aS) : ∀ a ∈ [aP, aS], Okay a := fun a ha => by
  simp only [List.mem_cons, List.not_mem_nil, or_false] at ha
  rcases ha with rfl | rfl
  · exact h.p
  · exact h.s
theorem Pb.opE0 {aP aS : Aut} (h : Pb aP aS) : opE aP aS = 0 := by
  have hc : opC aP aS = 0 := by
    unfold opC
    rw [if_neg (by simp [(ckA_zero aP).2 h.p]), if_neg (by simp [(ckA_zero aS).2 h.s]), if_pos]
    refine List.eq_nil_iff_forall_not_mem.2 fun x hx => ?_
    have := (mem_mrg h.s.ali h.p.ali x).1 hx
    simp only [Bool.and_eq_true, decide_eq_true_eq, Bool.not_eq_true', decide_eq_false_iff_not] at this
    exact this.2.2 (h.sub x this.2.1)
  unfold opE
  rw [if_neg (by simp [hc])]
  have hsome : ∃ z, sync [aP, aS] = some z := by
    unfold sync
    split
    · exact ⟨_, rfl⟩
    · rename_i hz
      obtain ⟨s, hs⟩ := syL_some h h.okay 4096 0 (sy0 [aP, aS]) (sy0_ok h.okay hz) (by simp [sy0])
      rw [hs]; exact ⟨_, rfl⟩
  obtain ⟨z, hz⟩ := hsome
  rw [hz]
theorem Pb.st100 {aP aS : Aut} (h : Pb aP aS) : Okay aP → Okay aS → aP.st ≤ 100 ∧ aS.st ≤ 100 := fun _ _ => ⟨by have := h.p5; omega, by have := h.s5; omega⟩
/-- A Control of the definition is consistent with itself. -/
theorem ctlD_self (p s : Aut) (pairs : List (List Int)) (x : Int) (hi : Inc s.al) : consC (ctlD p s pairs x) (ctlD p s pairs x) = true := by
  have i1 : Inc (ctlD p s pairs x).en := List.Pairwise.sublist List.filter_sublist hi
  have i2 : Inc (ctlD p s pairs x).dis := List.Pairwise.sublist List.filter_sublist hi
  rw [consC_law i1 i2 i1 i2]
  unfold lawC
  have h1 : (ctlD p s pairs x).en.all (fun y => !decide (y ∈ (ctlD p s pairs x).dis)) = true := by
    rw [List.all_eq_true]
    intro y hy
    simp only [Bool.not_eq_true', decide_eq_false_iff_not]
    intro hd
    simp only [ctlD, List.mem_filter, Bool.and_eq_true, decide_eq_true_eq, Bool.not_eq_true', decide_eq_false_iff_not] at hy hd
    exact hd.2.2 hy.2.2
  rw [h1]
  simp
end Go.Proofs.YtfhgnlkdcdlblaaDoor

/- The function SupervisorMaps returns true. -/
namespace Go.Lg
section
variable {P : Program} {f : Fr} {w : World} {d : Option Nat} {ty : Nat} {ps : String} {af : Array Edge} {gd : Option (Nat × Bool)}
theorem r_neqF {t t' : Nat} {x y : Operand} {k : IntKind} {a b : Int} (hx : ev f x = .int k a) (hy : ev f y = .int k b) (h : a = b) :
    (execOp (ev f) ⟨d, .binOp .neq t x y t', ty, ps, af, gd⟩).run P w = .ok (.value (.bool false)) w := by
  rw [r_neq hx hy, decide_eq_false (fun e => e h)]
end
end Go.Lg
namespace Go.Proofs.YtfhgnlkdcdlblaaDoor
open Go.Lg

theorem Pb.opC0 {aP aS : Aut} (h : Pb aP aS) : opC aP aS = 0 := by
  have := h.opE0
  unfold opE at this
  split at this
  · rename_i h1; exact absurd this h1
  · rename_i h1; exact Decidable.not_not.1 h1
theorem AutF_comp {N : Nat} {H : Array Obj} {va vm ve : Value} {n : Int} {a : Aut} (h : AutF N H (.agg #[va, .int .i64 n, vm, ve]) a) : n = a.st ∧ ∀ L : List Nat, (∀ b ∈ L, b < N) → AutA L H va vm ve a := by
  obtain ⟨x1, x2, x3, e, h⟩ := h
  simp only [Value.agg.injEq, Array.mk.injEq, List.cons.injEq, and_true, Value.int.injEq, true_and] at e
  obtain ⟨rfl, rfl, rfl, rfl⟩ := e
  exact ⟨rfl, h⟩

set_option maxHeartbeats 4000000 in
theorem lawMaps_ok {ns : List Nat} (hn : ns.length = 57) (hns : ∀ n ∈ ns, n < 256) (w : World) :
    Ret Tryd.prog 4 [.agg (bys ns).toArray] w fun r w' => r = .bool true ∧ Step [] w w' := by
  refine Ret.of_W Tryd.func4 rfl Tryd.ntmps4 Tryd.results4 (by simp) ?_
  refine W_seq <| W_region (by rfl) ?_
  refine xl rfl <| o_box (us := bys ns) rfl fun b1 w1 hs1 hb1 hB1 => x r_assign <| xe ?_
  refine W_seq <| W_seq <| W_region (by rfl) ?_
  refine xl rfl <| xf <| (known_ok w1).mono ?_
  rintro r2 w2 ⟨rfl, hs2⟩
  refine x (r_not rfl) <| xe ?_
  refine W_false rfl ?_
  refine W_skip ?_
  refine W_seq <| W_region (by rfl) ?_
  refine x (r_loadsB (hB1.ext hs2) rfl (by simp [bys]; exact hn)) <| xl rfl <| xf <| (make26_ok hn hns).mono ?_
  rintro r3 w3 ⟨hs3, vp, vs, vu, aP, aS, u, rfl, hFP, hFS, hPb, huo⟩
  obtain ⟨pva, pvm, pve, rfl, hPA⟩ := hFP
  obtain ⟨sva, svm, sve, rfl, hSA⟩ := hFS
  have hP0 := hPA [] (by simp)
  have hS0 := hSA [] (by simp)
  have hE0 := hPb.opE0
  obtain ⟨o1, o2, _, hv, hl⟩ := opE_zero hE0
  have hW3 := (hs1.trans hs2).trans hs3
  refine x r_move <| x (r_extract rfl rfl) <| x (r_extract rfl rfl) <|
    x (r_extract rfl rfl) <| xl rfl <| o_alloc (us := [.slice none 0 0, .int .i64 0, .slice none 0 0, .slice none 0 0]) rfl fun b3 w4 hs4 hb3 hB3 => xl rfl <| o_alloc (us := [.slice none 0 0, .int .i64 0, .slice none 0 0, .slice none 0 0]) rfl fun b4 w5 hs5 hb4 hB4 =>
    xl rfl <| o_stores (us := [pva, .int .i64 aP.st, pvm, pve]) (hB3.ext hs5) rfl rfl rfl rfl ⟨hP0.al.one, rfl, hP0.mr.one, hP0.ed.one, trivial⟩ fun w6 hs6 hB36 => ?_
  have hl3 := hB3.lt
  have hz4 := hs4.size
  have hB46 := hB4.step hs6 (by simp; omega)
  refine xl rfl <| o_stores (us := [sva, .int .i64 aS.st, svm, sve]) hB46 rfl rfl rfl rfl ⟨hS0.al.one, rfl, hS0.mr.one, hS0.ed.one, trivial⟩ fun w7 hs7 hB47 => x r_assign <| xe ?_
  have hB37 := hB36.step hs7 (by simp; omega)
  have hs37 : Step [] w3 w7 := ((hs4.trans hs5).then1 hs6 hb3).then1 hs7 (by omega)
  have hW7 := hW3.trans hs37
  have hP7 := hP0.ext hs37
  have hS7 := hS0.ext hs37
  refine W_seq <| W_region (by rfl) ?_
  refine x (r_loadsB hB37 rfl rfl) <| x (r_loadsB hB47 rfl rfl) <| xl rfl <| xf <| (Loop_ok hP7 hS7 hPb.st100).mono ?_
  rintro r8 w8 ⟨hs8, va, hr8, _, hga⟩
  rw [hE0] at hr8
  subst hr8
  obtain ⟨ava, avm, ave, rfl, hAA⟩ := hga hE0
  have hA8 := hAA [] (by simp)
  refine x r_move <| x (r_extract rfl rfl) <|
    x (r_extract rfl rfl) <| xl rfl <| o_alloc (us := [.slice none 0 0, .int .i64 0, .slice none 0 0, .slice none 0 0]) rfl fun b6 w9 hs9 hb6 hB6 => xl rfl <| o_stores (us := [ava, .int .i64 (opA aP aS).st, avm, ave]) hB6 rfl rfl rfl rfl ⟨hA8.al.one, rfl, hA8.mr.one, hA8.ed.one, trivial⟩ fun w10 hs10 hB610 => x r_assign <|
    xe ?_
  have hs810 : Step [] w8 w10 := hs9.then1 hs10 hb6
  have hs710 := hs8.trans hs810
  refine W_seq <| W_region (by rfl) ?_
  refine x (r_loadsB (hB37.ext hs710) rfl rfl) <| x (r_loadsB (hB47.ext hs710) rfl rfl) <| xl rfl <| xf <| (Map_ok (hP7.ext hs710) (hS7.ext hs710) hPb.st100).mono ?_
  rintro r11 w11 ⟨hs11, vl, hr11, _, hgl⟩
  rw [hE0] at hr11
  subst hr11
  obtain ⟨⟨cs, hcs, hCs⟩, hCb⟩ := hgl hE0
  have hC11 := hCs [] (by simp)
  have hcl : cs.length = aS.st.toNat := by have := ctls_len aP aS (opQ aP aS); rw [← hcs] at this; simpa using this
  refine x r_move <| x (r_extract rfl rfl) <|
    x (r_extract rfl rfl) <| x r_assign <| x r_assign <| xe ?_
  have hs711 := hs710.trans hs11
  refine W_seq <| W_region (by rfl) ?_
  refine x (r_loadsB (hB37.ext hs711) rfl rfl) <| x (r_loadsB (hB47.ext hs711) rfl rfl) <| xl rfl <| o_lits (us := [avCells ⟨pva, pvm, pve, aP⟩, avCells ⟨sva, svm, sve, aS⟩]) rfl rfl (by decide) (by exact (by decide : 2 * 4 ≤ 1000000)) ⟨rfl, rfl, rfl, rfl, trivial⟩ fun b39 w12 hs12 hb39 hB39 => ?_
  have hs712 := hs711.trans hs12
  have hAu : Auts [] w12.heap (.slice (some ⟨b39, 0, none⟩) 2 2) [⟨pva, pvm, pve, aP⟩, ⟨sva, svm, sve, aS⟩] := by
    refine ⟨hB39.arr (by simp) rfl (by simp) (by simp), fun q hq => ?_⟩
    simp only [List.mem_cons, List.not_mem_nil, or_false] at hq
    rcases hq with rfl | rfl
    · exact hP7.ext hs712
    · exact hS7.ext hs712
  refine xl rfl <| xf <| (Synchronous_ok hAu (by intro q hq; simp only [List.mem_cons, List.not_mem_nil, or_false] at hq; rcases hq with rfl | rfl; exact (hPb.st100 o1 o2).1; exact (hPb.st100 o1 o2).2)).mono ?_
  rintro r13 w13 ⟨hs13, vb, vt, c, rfl, hR⟩
  obtain ⟨hc, hO⟩ := OpRes.of hPb.opC0 hR
  rw [hE0] at hc
  subst hc
  obtain ⟨hFb, hFt⟩ := hO.good hE0
  obtain ⟨bva, bvm, bve, rfl, hBA⟩ := hFb
  obtain ⟨qs, hqe, hqs⟩ := hFt
  have hB13 := hBA [] (by simp)
  refine x r_move <| x (r_extract rfl rfl) <| x (r_extract rfl rfl) <| x (r_extract rfl rfl) <|
    xl rfl <| o_alloc (us := [.slice none 0 0, .int .i64 0, .slice none 0 0, .slice none 0 0]) rfl fun b10 w14 hs14 hb10 hB10 => xl rfl <| o_stores (us := [bva, .int .i64 (opA aP aS).st, bvm, bve]) hB10 rfl rfl rfl rfl ⟨hB13.al.one, rfl, hB13.mr.one, hB13.ed.one, trivial⟩ fun w15 hs15 hB1015 => x r_assign <| x r_assign <|
    xe ?_
  have hs1315 : Step [] w13 w15 := hs14.then1 hs15 hb10
  have hs1215 := hs13.trans hs1315
  have hs715 := hs712.trans hs1215
  have hs1115 := hs12.trans hs1215
  have hs1015 := hs11.trans hs1115
  have hs815 := hs810.trans hs1015
  have hC15 := hC11.ext hs1115
  have hT15 : Tups [] w15.heap vt qs := (hqs [] (by simp)).ext hs1315
  have hst0 := o2.st0
  have hn0 : (cs.length : Int) = aS.st := by omega
  have hs5' := hPb.s5
  have hB415 := hB47.ext hs715
  have hB315 := hB37.ext hs715
  refine W_seq <| W_seq <| W_region (by rfl) ?_
  refine x r_move <| x (r_neq rfl rfl) <| x r_move <| x r_move <| x (r_neq rfl rfl) <| x (r_pick rfl) <| x r_move <| x r_move <| x (r_neq rfl rfl) <| x (r_pick rfl) <| x r_move <| x (r_loadsB (hB610.ext hs1015) rfl rfl) <| x (r_loadsB hB1015 rfl rfl) <|
    xl rfl <| xf <| (Equal_same (hA8.ext hs815) (hB13.ext hs1315)).mono ?_
  rintro r16 w16 ⟨rfl, hs16⟩
  refine x (r_not rfl) <| x (r_pick rfl) <| x r_move <| x r_move <| x (r_lenA hC15.arr rfl) <| x (r_fieldB rfl) <|
    x (r_loadB (hB415.ext hs16) rfl rfl) <| x (r_neqF rfl rfl hn0) <| x (r_pick rfl) <| xe ?_
  refine W_false rfl ?_
  refine W_skip ?_
  have hW16 := (hW7.trans hs715).trans hs16
  refine W_seq <| W_seq <| W_region (by rfl) ?_
  refine x r_assign <| xe ?_
  refine W_block <| W_loop (α := Nat) [(2, 2), (13, 15), (67, 99)] (fun z => [(13, .int .i64 z)]) (fun z w' => z ≤ cs.length ∧ Step [] w15 w') (fun z => cs.length - z) (by rfl) 0 ⟨rfl, trivial⟩ ⟨Nat.zero_le _, hs16⟩ ?_
  rintro k g18 w18 ⟨hk, hs18⟩
  have hC18 := hC15.ext hs18
  refine W_seq <| W_seq <| W_region (by rfl) ?_
  refine x r_move <| x r_move <| x (r_lenA hC18.arr rfl) <| x (r_lss rfl rfl) <| xe ?_
  refine W_ifn rfl (fun h70 => ?_) (fun h70 => ?_)
  · refine W_exit ?_
    refine W_seq <| W_region (by rfl) ?_
    refine x r_assign <| xe ?_
    exact W_ret ⟨[.bool true], ⟨rfl, trivial⟩, rfl, (hW7.trans hs715).trans hs18⟩
  have hlt : k < cs.length := by omega
  have hcd : (cs[k]'hlt).c = ctlD aP aS (opQ aP aS) k := by rw [← lget_cv hcs hlt]; exact ctls_def o1 o2 hv k (by omega)
  have hCk := hC18.each _ (List.getElem_mem hlt)
  have hLk := hCb _ (by rw [← hcs]; exact List.mem_map_of_mem (List.getElem_mem hlt))
  refine exE (cs[k]'hlt) fun ck hck => ?_
  rw [hck] at hcd hCk hLk
  have hqsl : qs.length ≤ 4096 := by rw [← hqe] at hl; simpa using hl
  refine W_skip ?_
  refine W_seq <| W_block <| W_seq <| W_region (by rfl) ?_
  refine x (r_loadsB (hB315.ext hs18) rfl rfl) <| x (r_loadsB (hB415.ext hs18) rfl rfl) <| x r_move <| x r_move <| xl rfl <| xf <| (control_ok ((hP7.ext hs715).ext hs18) ((hS7.ext hs715).ext hs18) o2.al_le (hT15.ext hs18) (fun q hq => hv q.2 (by rw [← hqe]; exact List.mem_map_of_mem hq)) hqsl k).mono ?_
  rintro r19 w19 ⟨hs19, cv, oc, rfl, hce, hcvA, _⟩
  rw [hqe, ← hcd] at hce
  have hcv := hcvA [] (by simp)
  refine x r_move <| x (r_extract rfl rfl) <| x (r_extract rfl rfl) <| xl rfl <| o_alloc (us := [.slice none 0 0, .slice none 0 0, .bool false, .bool false]) rfl fun b14 w20 hs20 hb14 hB14 => xl rfl <| o_stores (us := cvCells cv) hB14 rfl rfl rfl rfl ⟨hcv.en.one, hcv.dis.one, rfl, rfl, trivial⟩ fun w21 hs21 hB1421 =>
    x r_assign <| xe ?_
  have hs1921 : Step [] w19 w21 := hs20.then1 hs21 hb14
  have hs1821 := hs19.trans hs1921
  have hC21 := hC18.ext hs1821
  have hC21k := hCk.ext hs1821
  have hself : consC ck.c ck.c = true := by rw [hcd]; exact ctlD_self aP aS _ _ o2.ali
  refine W_seq <| W_draw (Step [] w21) [(0, true), (1, true), (2, true), (3, true), (4, true), (5, false), (6, true), (7, true), (8, true), (9, true), (10, true), (11, true), (12, true), (13, true), (14, true), (15, true), (16, false), (17, true), (18, true)] Tryd.mixed (by rfl) (by kernel_rfl) (Step.drew _ _) ?_
  refine p (fun _ => r_move) <| p (fun _ => r_move) <| Lg.pig (g := cvCells) (i := k) rfl cv_len hC21.arr rfl rfl hlt fun a83 h83 => ?_
  rw [hck] at h83
  refine pq (fun _ hc => r_loadsA (h83.ext hc) rfl rfl) <|
    pq (fun _ hc => r_loadsB (hB1421.ext hc) rfl rfl) <| pk <| xf <| (same_ok (hC21k.ext (Step.drew _ _)) ((hcv.ext hs1921).ext (Step.drew _ _)) hce.symm).mono ?_
  rintro r22 w22 ⟨rfl, hs22⟩
  have hs2122 := (Step.drew [] w21).trans hs22
  refine ⟨hs2122, p (fun _ => r_not rfl) <| p (fun _ => r_move) <|
    p (fun _ => r_move) <| p (fun _ => r_move) <| Lg.pig (g := cvCells) (i := k) rfl cv_len hC21.arr rfl rfl hlt fun a91 h91 => ?_⟩
  rw [hck] at h91
  refine pq (fun _ hc => r_loadsA (h91.ext hc) rfl rfl) <| p (fun _ => r_move) <| p (fun _ => r_move) <| Lg.pig (g := cvCells) (i := k) rfl cv_len hC21.arr rfl rfl hlt fun a95 h95 => ?_
  rw [hck] at h95
  refine pq (fun _ hc => r_loadsA (h95.ext hc) rfl rfl) <|
    pk <| xf <| (Consistent_ok (hC21k.ext hs2122) (hC21k.ext hs2122) hLk.1 hLk.2 hLk.1 hLk.2).mono ?_
  rintro r23 w23 ⟨hr23, hs23⟩
  rw [hself] at hr23
  subst hr23
  have hs2123 := hs2122.trans hs23
  refine ⟨hs2123, p (fun _ => r_not rfl) <| p (fun _ => r_pick rfl) <| pe ?_⟩
  refine W_false rfl ?_
  refine W_skip ?_
  refine W_region (by rfl) ?_
  refine x r_move <| x (r_add rfl rfl ⟨by omega, by omega⟩) <| x r_assign <| xe ?_
  exact ⟨k + 1, by omega, ⟨rfl, trivial⟩, hlt, (hs18.trans hs1821).trans hs2123⟩
end Go.Proofs.YtfhgnlkdcdlblaaDoor
