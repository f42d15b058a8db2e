/- Merged out of 21 texts. -/
import Derived.Test.YtfhgnlkdcdlblaaGreatDoorKfc
/- Merged out of the texts Ta Dg Dh Tb Di. -/
/- The Controls as the definition says: plain law for SupervisorMaps. -/
namespace Go.Proofs.YtfhgnlkdcdlblaaGreatDoor
open Go.Lg

theorem Inc.ext : ∀ {a b : List Int}, Inc a → Inc b → (∀ x, x ∈ a ↔ x ∈ b) → a = b
  | [], [], _, _, _ => rfl
  | [], y :: b, _, _, h => by have := (h y).2 List.mem_cons_self; cases this
  | x :: a, [], _, _, h => by have := (h x).1 List.mem_cons_self; cases this
  | x :: a, y :: b, ia, ib, h => by
    have e : x = y := by
      have h1 := (h x).1 List.mem_cons_self
      have h2 := (h y).2 List.mem_cons_self
      rcases List.mem_cons.1 h1 with h1 | h1
      · exact h1
      · rcases List.mem_cons.1 h2 with h2 | h2
        · exact h2.symm
        · have := ib.lt_of h1; have := ia.lt_of h2; omega
    subst e
    congr 1
    refine Inc.ext ia.tail ib.tail fun z => ?_
    have hz := h z
    constructor
    · intro hm
      have := hz.1 (List.mem_cons_of_mem _ hm)
      rcases List.mem_cons.1 this with h1 | h1
      · have := ia.lt_of hm; omega
      · exact h1
    · intro hm
      have := hz.2 (List.mem_cons_of_mem _ hm)
      rcases List.mem_cons.1 this with h1 | h1
      · have := ib.lt_of hm; omega
      · exact h1
theorem uni1_mem {l : List Int} (h : Inc l) (v x : Int) : x ∈ uni1 l v ↔ x ∈ l ∨ x = v := by
  unfold uni1
  rw [mem_mrg h (by simp)]
  simp
theorem uni1_inc {l : List Int} (h : Inc l) (v : Int) : Inc (uni1 l v) := mrg_inc _ _ l [v] (Nat.le_refl _) h (by simp)
theorem nxt_eget (es : List Ed) (s v : Int) : nxt es s v = match eget es s v with | some u => u | none => -1 := by
  induction es with
  | nil => rfl
  | cons e es ih =>
    rw [nxt, eget]
    split
    · rfl
    · exact ih
theorem nxt_nonneg {a : Aut} (ho : Okay a) (s v : Int) : 0 ≤ nxt a.ed s v ↔ (eget a.ed s v).isSome = true := by
  rw [nxt_eget]
  cases h : eget a.ed s v with
  | none => simp
  | some u => simp; exact (ho.ed _ (eget_mem h)).2.2.2.1
/-! ### The definition -/
def canX (p : Aut) (pairs : List (List Int)) (x e : Int) : Bool := pairs.any fun q => decide (py q = x) && decide (0 ≤ nxt p.ed (px q) e)
def ctlD (p s : Aut) (pairs : List (List Int)) (x : Int) : Ctl :=
  ⟨s.al.filter fun e => canX p pairs x e && decide (0 ≤ nxt s.ed x e), s.al.filter fun e => canX p pairs x e && !decide (0 ≤ nxt s.ed x e),
    (pairs.any fun q => decide (py q = x)) && decide (x ∈ s.mr), pairs.any fun q => decide (py q = x) && decide (px q ∈ p.mr)⟩
/-- A Control after the pairs so far. -/
structure CtlI (p s : Aut) (pairs : List (List Int)) (x : Int) (c : Ctl) : Prop where
  ei : Inc c.en
  di : Inc c.dis
  em : ∀ e, e ∈ c.en ↔ e ∈ s.al ∧ canX p pairs x e = true ∧ 0 ≤ nxt s.ed x e
  dm : ∀ e, e ∈ c.dis ↔ e ∈ s.al ∧ canX p pairs x e = true ∧ ¬ 0 ≤ nxt s.ed x e
  mk2 : c.mk' = ((pairs.any fun q => decide (py q = x)) && decide (x ∈ s.mr))
  ps : c.ps = pairs.any fun q => decide (py q = x) && decide (px q ∈ p.mr)
theorem CtlI.eq {p s : Aut} {pairs : List (List Int)} {x : Int} {c : Ctl} (h : CtlI p s pairs x c) (hi : Inc s.al) : c = ctlD p s pairs x := by
  obtain ⟨en, dis, mk', ps⟩ := c
  have e1 : en = s.al.filter fun e => canX p pairs x e && decide (0 ≤ nxt s.ed x e) := by
    refine Inc.ext h.ei (List.Pairwise.sublist List.filter_sublist hi) fun e => ?_
    rw [h.em e, List.mem_filter]; simp
  have e2 : dis = s.al.filter fun e => canX p pairs x e && !decide (0 ≤ nxt s.ed x e) := by
    refine Inc.ext h.di (List.Pairwise.sublist List.filter_sublist hi) fun e => ?_
    rw [h.dm e, List.mem_filter]; simp
  have e3 := h.mk2
  have e4 := h.ps
  simp only [] at e3 e4
  unfold ctlD
  rw [e1, e2, e3, e4]
theorem CtlI.zero (p s : Aut) (x : Int) : CtlI p s [] x ctl0 := ⟨by simp [ctl0], by simp [ctl0], by simp [ctl0, canX], by simp [ctl0, canX], by simp [ctl0], by simp [ctl0]⟩
theorem CtlI.other {p s : Aut} {pairs : List (List Int)} {x : Int} {c : Ctl} (h : CtlI p s pairs x c) {q : List Int} (hq : py q ≠ x) : CtlI p s (pairs ++ [q]) x c := by
  have hc : ∀ e, canX p (pairs ++ [q]) x e = canX p pairs x e := fun e => by unfold canX; rw [List.any_append]; simp [hq]
  refine ⟨h.ei, h.di, fun e => by rw [hc]; exact h.em e, fun e => by rw [hc]; exact h.dm e, ?_, ?_⟩
  · rw [h.mk2, List.any_append]; simp [hq]
  · rw [h.ps, List.any_append]; simp [hq]
/-- The events of a pair. -/
theorem ctlE_fold {p s : Aut} (hp : Okay p) (hs : Okay s) (x y : Int) : ∀ (vs : List Int) (c : Ctl), Inc c.en → Inc c.dis →
    Inc (vs.foldl (ctlE p s x y) c).en ∧ Inc (vs.foldl (ctlE p s x y) c).dis ∧ (vs.foldl (ctlE p s x y) c).mk' = c.mk' ∧ (vs.foldl (ctlE p s x y) c).ps = c.ps ∧
    (∀ e, e ∈ (vs.foldl (ctlE p s x y) c).en ↔ e ∈ c.en ∨ (e ∈ vs ∧ 0 ≤ nxt p.ed x e ∧ 0 ≤ nxt s.ed y e)) ∧ (∀ e, e ∈ (vs.foldl (ctlE p s x y) c).dis ↔ e ∈ c.dis ∨ (e ∈ vs ∧ 0 ≤ nxt p.ed x e ∧ ¬ 0 ≤ nxt s.ed y e))
  | [], c, h1, h2 => ⟨h1, h2, rfl, rfl, fun e => by simp, fun e => by simp⟩
  | v :: vs, c, h1, h2 => by
    rw [List.foldl_cons]
    have np := nxt_nonneg hp x v
    have ns := nxt_nonneg hs y v
    unfold ctlE
    cases hep : eget p.ed x v with
    | none =>
      rw [hep] at np
      obtain ⟨i1, i2, i3, i4, i5, i6⟩ := ctlE_fold hp hs x y vs c h1 h2
      unfold ctlE at i1 i2 i3 i4 i5 i6
      refine ⟨i1, i2, i3, i4, fun e => ?_, fun e => ?_⟩
      · rw [i5 e]
        constructor
        · rintro (h | h)
          · exact .inl h
          · exact .inr ⟨List.mem_cons_of_mem _ h.1, h.2⟩
        · rintro (h | ⟨h, h3, h4⟩)
          · exact .inl h
          · rcases List.mem_cons.1 h with rfl | h
            · have := np.1 h3; cases this
            · exact .inr ⟨h, h3, h4⟩
      · rw [i6 e]
        constructor
        · rintro (h | h)
          · exact .inl h
          · exact .inr ⟨List.mem_cons_of_mem _ h.1, h.2⟩
        · rintro (h | ⟨h, h3, h4⟩)
          · exact .inl h
          · rcases List.mem_cons.1 h with rfl | h
            · have := np.1 h3; cases this
            · exact .inr ⟨h, h3, h4⟩
    | some t =>
      rw [hep] at np
      have hpv : 0 ≤ nxt p.ed x v := np.2 rfl
      cases hes : eget s.ed y v with
      | some u =>
        rw [hes] at ns
        have hsv : 0 ≤ nxt s.ed y v := ns.2 rfl
        obtain ⟨i1, i2, i3, i4, i5, i6⟩ := ctlE_fold hp hs x y vs ⟨uni1 c.en v, c.dis, c.mk', c.ps⟩ (uni1_inc h1 v) h2
        unfold ctlE at i1 i2 i3 i4 i5 i6
        refine ⟨i1, i2, i3, i4, fun e => ?_, fun e => ?_⟩
        · rw [i5 e, uni1_mem h1]
          constructor
          · rintro ((h | rfl) | h)
            · exact .inl h
            · exact .inr ⟨List.mem_cons_self, hpv, hsv⟩
            · exact .inr ⟨List.mem_cons_of_mem _ h.1, h.2⟩
          · rintro (h | ⟨h, h3⟩)
            · exact .inl (.inl h)
            · rcases List.mem_cons.1 h with rfl | h
              · exact .inl (.inr rfl)
              · exact .inr ⟨h, h3⟩
        · rw [i6 e]
          constructor
          · rintro (h | h)
            · exact .inl h
            · exact .inr ⟨List.mem_cons_of_mem _ h.1, h.2⟩
          · rintro (h | ⟨h, h3, h4⟩)
            · exact .inl h
            · rcases List.mem_cons.1 h with rfl | h
              · exact absurd hsv h4
              · exact .inr ⟨h, h3, h4⟩
      | none =>
        rw [hes] at ns
        have hsv : ¬ 0 ≤ nxt s.ed y v := fun h => by have := ns.1 h; cases this
        obtain ⟨i1, i2, i3, i4, i5, i6⟩ := ctlE_fold hp hs x y vs ⟨c.en, uni1 c.dis v, c.mk', c.ps⟩ h1 (uni1_inc h2 v)
        unfold ctlE at i1 i2 i3 i4 i5 i6
        refine ⟨i1, i2, i3, i4, fun e => ?_, fun e => ?_⟩
        · rw [i5 e]
          constructor
          · rintro (h | h)
            · exact .inl h
            · exact .inr ⟨List.mem_cons_of_mem _ h.1, h.2⟩
          · rintro (h | ⟨h, h3, h4⟩)
            · exact .inl h
            · rcases List.mem_cons.1 h with rfl | h
              · exact absurd h4 hsv
              · exact .inr ⟨h, h3, h4⟩
        · rw [i6 e, uni1_mem h2]
          constructor
          · rintro ((h | rfl) | h)
            · exact .inl h
            · exact .inr ⟨List.mem_cons_self, hpv, hsv⟩
            · exact .inr ⟨List.mem_cons_of_mem _ h.1, h.2⟩
          · rintro (h | ⟨h, h3⟩)
            · exact .inl (.inl h)
            · rcases List.mem_cons.1 h with rfl | h
              · exact .inl (.inr rfl)
              · exact .inr ⟨h, h3⟩
theorem CtlI.pair {p s : Aut} (hp : Okay p) (hs : Okay s) {pairs : List (List Int)} {c : Ctl} {q : List Int} (h : CtlI p s pairs (py q) c) : CtlI p s (pairs ++ [q]) (py q) (ctlP p s (px q) (py q) c) := by
  unfold ctlP
  obtain ⟨i1, i2, i3, i4, i5, i6⟩ := ctlE_fold hp hs (px q) (py q) s.al (ctlB p s (px q) (py q) c) h.ei h.di
  have hc : ∀ e, canX p (pairs ++ [q]) (py q) e = true ↔ canX p pairs (py q) e = true ∨ 0 ≤ nxt p.ed (px q) e := fun e => by unfold canX; rw [List.any_append]; simp
  refine ⟨i1, i2, fun e => ?_, fun e => ?_, ?_, ?_⟩
  · rw [i5 e, hc]
    show e ∈ c.en ∨ _ ↔ _
    rw [h.em e]
    constructor
    · rintro (⟨a1, a2, a3⟩ | ⟨a1, a2, a3⟩)
      · exact ⟨a1, .inl a2, a3⟩
      · exact ⟨a1, .inr a2, a3⟩
    · rintro ⟨a1, a2 | a2, a3⟩
      · exact .inl ⟨a1, a2, a3⟩
      · exact .inr ⟨a1, a2, a3⟩
  · rw [i6 e, hc]
    show e ∈ c.dis ∨ _ ↔ _
    rw [h.dm e]
    constructor
    · rintro (⟨a1, a2, a3⟩ | ⟨a1, a2, a3⟩)
      · exact ⟨a1, .inl a2, a3⟩
      · exact ⟨a1, .inr a2, a3⟩
    · rintro ⟨a1, a2 | a2, a3⟩
      · exact .inl ⟨a1, a2, a3⟩
      · exact .inr ⟨a1, a2, a3⟩
  · rw [i3, List.any_append]
    simp [ctlB]
  · rw [i4, List.any_append]
    show (c.ps || _) = _
    rw [h.ps]; simp
theorem ctls_def {p s : Aut} (hp : Okay p) (hs : Okay s) {pairs : List (List Int)} (hv : ∀ q ∈ pairs, Vt [p, s] q) : ∀ x, x < s.st.toNat → lget (ctls p s pairs) x = ctlD p s pairs x := by
  have key : ∀ (r pre : List (List Int)) (l : List Ctl), (∀ q ∈ r, Vt [p, s] q) → l.length = s.st.toNat → (∀ x, x < s.st.toNat → CtlI p s pre x (lget l x)) → ∀ x, x < s.st.toNat → CtlI p s (pre ++ r) x (lget (r.foldl (ctlQ p s) l) x) := by
    intro r
    induction r with
    | nil => intro pre l _ _ h x hx; simpa using h x hx
    | cons q r ih =>
      intro pre l hr hl h x hx
      obtain ⟨xi, yi, rfl, hx1, hy1⟩ := Vt2 (hr q List.mem_cons_self)
      rw [List.foldl_cons, show pre ++ [(xi : Int), (yi : Int)] :: r = (pre ++ [[(xi : Int), (yi : Int)]]) ++ r by simp]
      refine ih _ _ (fun q hq => hr q (List.mem_cons_of_mem _ hq)) (by simp [ctlQ, hl]) (fun z hz => ?_) x hx
      have e1 : py [(xi : Int), (yi : Int)] = (yi : Int) := rfl
      have e2 : px [(xi : Int), (yi : Int)] = (xi : Int) := rfl
      unfold ctlQ
      rw [e1, e2, Int.toNat_natCast]
      by_cases ez : z = yi
      · subst ez
        have e3 : lget (l.set z (ctlP p s xi z (l.getD z ctl0))) z = ctlP p s xi z (lget l z) := by
          unfold lget
          simp only [List.getD]
          rw [List.getElem?_set_self (by omega)]; rfl
        rw [e3]
        have := CtlI.pair hp hs (q := [(xi : Int), (z : Int)]) (c := lget l z) (h z hz)
        exact this
      · have e3 : lget (l.set yi (ctlP p s xi yi (l.getD yi ctl0))) z = lget l z := by
          unfold lget
          simp only [List.getD, List.getElem?_set]
          rw [if_neg (fun e => ez e.symm)]
        rw [e3]
        exact (h z hz).other (by rw [e1]; omega)
  intro x hx
  have h1 := key pairs [] (List.replicate s.st.toNat ctl0) hv (by simp) (fun z hz => by
    have : lget (List.replicate s.st.toNat ctl0) z = ctl0 := by unfold lget; simp [List.getD, hz]
    rw [this]; exact CtlI.zero p s z) x hx
  rw [List.nil_append] at h1
  exact h1.eq hs.ali
end Go.Proofs.YtfhgnlkdcdlblaaGreatDoor

/- Contracts: supervisor.Loop; automaton.Equal and law30's same where both are equal. -/
namespace Go.Proofs.YtfhgnlkdcdlblaaGreatDoor
open Go.Lg

theorem Loop_ok {L : List Nat} {w : World} {pva pvm pve sa sm se : Value} {aP aS : Aut} (hp : AutA L w.heap pva pvm pve aP) (hs : AutA L w.heap sa sm se aS) (hst : Okay aP → Okay aS → aP.st ≤ 100 ∧ aS.st ≤ 100) :
    Ret Tryz.prog 10 [.agg #[pva, .int .i64 aP.st, pvm, pve], .agg #[sa, .int .i64 aS.st, sm, se]] w fun r w' => Step [] w w' ∧ ∃ v, r = .tuple #[v, .int .i64 (opE aP aS)] ∧
      (opE aP aS ≠ 0 → v = zA) ∧ (opE aP aS = 0 → AutF w.heap.size w'.heap v (opA aP aS)) := by
  refine Ret.of_W Tryz.func10 rfl Tryz.ntmps10 Tryz.results10 (by simp) ?_
  refine W_seq <| W_region (by rfl) ?_
  refine xl rfl <| o_box (us := [pva, .int .i64 aP.st, pvm, pve]) rfl fun b2 w1 hs1 hb2 hB2 => xl rfl <| o_box (us := [sa, .int .i64 aS.st, sm, se]) rfl fun b3 w2 hs2 hb3 hB3 =>
    xl rfl <| o_alloc (us := [.slice none 0 0, .int .i64 0, .slice none 0 0, .slice none 0 0]) rfl fun b4 w3 hs3 hb4 hB4 => x r_assign <| xe ?_
  have hs13 := (hs1.trans hs2).trans hs3
  have hz1 := hs1.size
  have hz2 := hs2.size
  have hl4 := hB4.lt
  refine W_seq <| W_region (by rfl) ?_
  refine x (r_loadsB ((hB2.ext hs2).ext hs3) rfl rfl) <| x (r_loadsB (hB3.ext hs3) rfl rfl) <| xl rfl <| xf <| (sopen_ok (hp.ext hs13) (hs.ext hs13) hst).mono ?_
  rintro r4 w4 ⟨hs4, va, vt, rfl, hO⟩
  obtain ⟨us, hva, husl, hus⟩ := hO.shape
  refine x r_move <| x (r_extract rfl rfl) <|
    x (r_extract rfl rfl) <| x (r_extract rfl rfl) <| xl rfl <| o_alloc (us := [.slice none 0 0, .int .i64 0, .slice none 0 0, .slice none 0 0]) rfl fun b6 w5 hs5 hb6 hB6 => xl rfl <| o_stores (us := us) hB6 rfl hva husl rfl hus fun w6 hs6 hB6' =>
    x r_assign <| x r_assign <| xe ?_
  have hs46 : Step [] w4 w6 := hs5.then1 hs6 hb6
  have hs36 := hs4.trans hs46
  have hz3 := hs3.size
  have hz13 := hs13.size
  refine W_seq <| W_region (by rfl) ?_
  refine x (r_loadsB hB6' rfl husl) <| x r_move <| xl rfl <| o_stores (us := us) (hB4.ext hs36) rfl rfl husl rfl hus fun w7 hs7 hB7 => x r_assign <| xe ?_
  refine W_ret ⟨[.agg us.toArray, .int .i64 (opE aP aS)], ⟨⟨_, rfl, run_loadVar_ag husl (hB7.at (L := []) (by simp)).cells⟩, rfl, trivial⟩, (hs13.trans hs36).then1 hs7 (by omega), va, by rw [hva]; rfl, fun e => (hO.bad e).1, fun e => ?_⟩
  exact (AutF_st1 ((hO.good e).1.ext hs46) (by omega) hs7).mono hz13

theorem Equal_same {L L' : List Nat} {w : World} {va vm ve va' vm' ve' : Value} {a : Aut} (h : AutA L w.heap va vm ve a) (h' : AutA L' w.heap va' vm' ve' a) :
    Ret Tryz.prog 57 [.agg #[va, .int .i64 a.st, vm, ve], .agg #[va', .int .i64 a.st, vm', ve']] w fun r w' => r = .bool true ∧ Step [] w w' := by
  refine Ret.of_W Tryz.func57 rfl Tryz.ntmps57 Tryz.results57 (by simp) ?_
  refine W_seq <| W_region (by rfl) ?_
  refine xl rfl <| o_box (us := [va, .int .i64 a.st, vm, ve]) rfl fun b2 w1 hs1 hb2 hB2 => xl rfl <| o_box (us := [va', .int .i64 a.st, vm', ve']) rfl fun b3 w2 hs2 hb3 hB3 => x r_assign <| xe ?_
  have hs12 := hs1.trans hs2
  have hB22 := hB2.ext hs2
  refine W_seq <| W_region (by rfl) ?_
  refine x (r_fieldB rfl) <| x (r_loadB hB22 rfl rfl) <| x (r_fieldB rfl) <| x (r_loadB hB3 rfl rfl) <| xb (r_eql rfl rfl) (fun _ => ?_) (fun h9 => absurd rfl h9)
  refine x r_move <| x (r_fieldB rfl) <| x (r_loadB hB22 rfl rfl) <| x (r_fieldB rfl) <| x (r_loadB hB3 rfl rfl) <| xl rfl <| xf <| (equalI_ok (h.al.ext hs12) (h'.al.ext hs12)).mono ?_
  rintro r3 w3 ⟨hr3, hs3⟩
  rw [decide_eq_true rfl] at hr3
  subst hr3
  have hs13 := hs12.trans hs3
  refine x (r_pick rfl) <|
    x r_move <| x (r_fieldB rfl) <| x (r_loadB (hB22.ext hs3) rfl rfl) <| x (r_fieldB rfl) <| x (r_loadB (hB3.ext hs3) rfl rfl) <|
    xl rfl <| xf <| (equalI_ok (h.mr.ext hs13) (h'.mr.ext hs13)).mono ?_
  rintro r4 w4 ⟨hr4, hs4⟩
  rw [decide_eq_true rfl] at hr4
  subst hr4
  have hs14 := hs13.trans hs4
  have hs34 := hs3.trans hs4
  refine x (r_pick rfl) <| x r_move <| x (r_fieldB rfl) <| x (r_loadB (hB22.ext hs34) rfl rfl) <|
    x (r_fieldB rfl) <| x (r_loadB (hB3.ext hs34) rfl rfl) <| xl rfl <| xf <| (equalE_ok (h.ed.ext hs14) (h'.ed.ext hs14)).mono ?_
  rintro r5 w5 ⟨hr5, hs5⟩
  rw [decide_eq_true rfl] at hr5
  subst hr5
  refine x (r_pick rfl) <| x r_assign <| xe ?_
  exact W_ret ⟨[.bool true], ⟨rfl, trivial⟩, rfl, hs14.trans hs5⟩

end Go.Proofs.YtfhgnlkdcdlblaaGreatDoor

/- Contract: law30's control. -/
namespace Go.Lg
section
variable {P : Program} {f : Fr} {w : World} {d : Option Nat} {ty : Nat} {ps : String} {af : Array Edge} {gd : Option (Nat × Bool)}
theorem r_moveV {x : Operand} {v : Value} (h : ev f x = v) : (execOp (ev f) ⟨d, .move x, ty, ps, af, gd⟩).run P w = .ok (.value v) w := by rw [← h]; exact r_move
end
end Go.Lg
namespace Go.Proofs.YtfhgnlkdcdlblaaGreatDoor
open Go.Lg

theorem filter_snoc {l : List Int} {e : Int} {p : Int → Bool} : (l ++ [e]).filter p = if p e = true then l.filter p ++ [e] else l.filter p := by
  rw [List.filter_append]
  by_cases h : p e = true
  · rw [if_pos h, List.filter_cons, if_pos h]; rfl
  · rw [if_neg h, List.filter_cons, if_neg h, List.filter_nil, List.append_nil]
/-- What the loops hold. -/
structure CcI (w4 : World) (b : Nat) (m q : Bool) (ve vd : Value) (E D : List Int) (w : World) : Prop where
  st : Step [b] w4 w
  B : Blk w.heap b 69 [ve, vd, .bool m, .bool q]
  e : IntsO 3 w4.heap.size w ve E
  d : IntsO 3 w4.heap.size w vd D
  dj : Dj ve vd
section
variable {w4 w w' w'' : World} {b : Nat} {m q : Bool} {ve vd : Value} {E D : List Int}
theorem CcI.ext (h : CcI w4 b m q ve vd E D w) (hs : Step [] w w') : CcI w4 b m q ve vd E D w' := ⟨h.st.trans hs, h.B.ext hs, own_ext h.e hs, own_ext h.d hs, h.dj⟩
theorem CcI.setE (h : CcI w4 b m q ve vd E D w) (hb : b < w4.heap.size) {ve' : Value} {E' : List Int} (hs : Step (ob ve) w w') (hm : IntsO 3 w4.heap.size w' ve' E') (hn : ∀ b ∈ ob ve', b ∈ ob ve ∨ w.heap.size ≤ b) (hs2 : Step [b] w' w'')
    (hB : Blk w''.heap b 69 [ve', vd, .bool m, .bool q]) : CcI w4 b m q ve' vd E' D w'' :=
  ⟨(h.st.then hs (fun c hc => .inr (own_ge h.e c hc).1)).trans' hs2, hB, own_step hm hs2 (fun c hc => by have := (own_ge hm c hc).1; simp; omega),
    own_step (own_step h.d hs h.dj.symm) hs2 (fun c hc => by have := (own_ge h.d c hc).1; simp; omega), (h.dj.symm.grow hn (own_lt h.d)).symm⟩
theorem CcI.setD (h : CcI w4 b m q ve vd E D w) (hb : b < w4.heap.size) {vd' : Value} {D' : List Int} (hs : Step (ob vd) w w') (hm : IntsO 3 w4.heap.size w' vd' D') (hn : ∀ b ∈ ob vd', b ∈ ob vd ∨ w.heap.size ≤ b) (hs2 : Step [b] w' w'')
    (hB : Blk w''.heap b 69 [ve, vd', .bool m, .bool q]) : CcI w4 b m q ve vd' E D' w'' :=
  ⟨(h.st.then hs (fun c hc => .inr (own_ge h.d c hc).1)).trans' hs2, hB, own_step (own_step h.e hs h.dj) hs2 (fun c hc => by have := (own_ge h.e c hc).1; simp; omega),
    own_step hm hs2 (fun c hc => by have := (own_ge hm c hc).1; simp; omega), h.dj.grow hn (own_lt h.e)⟩
theorem CcI.setB (h : CcI w4 b m q ve vd E D w) (hb : b < w4.heap.size) {m' q' : Bool} (hs : Step [b] w w') (hB : Blk w'.heap b 69 [ve, vd, .bool m', .bool q']) : CcI w4 b m' q' ve vd E D w' :=
  ⟨h.st.trans' hs, hB, own_step h.e hs (fun c hc => by have := (own_ge h.e c hc).1; simp; omega), own_step h.d hs (fun c hc => by have := (own_ge h.d c hc).1; simp; omega), h.dj⟩
end
def hitQ (p : Aut) (x e : Int) (q : List Int) : Bool := decide (py q = x) && decide (0 ≤ nxt p.ed (px q) e)
theorem canX_take (p : Aut) (x e : Int) {ps : List (List Int)} {k : Nat} (h : k < ps.length) : canX p (ps.take (k + 1)) x e = (canX p (ps.take k) x e || hitQ p x e ps[k]) := by
  unfold canX hitQ
  rw [List.take_succ_eq_append_getElem h, List.any_append]; simp

end Go.Proofs.YtfhgnlkdcdlblaaGreatDoor

/- The product of a plant and a supervisor of at most 5 states is found. -/
namespace Go.Proofs.YtfhgnlkdcdlblaaGreatDoor
open Go.Lg

def encT (t : List Int) : Int := px t * 5 + py t
theorem tup_small {aP aS : Aut} (h : Pb aP aS) {s : Sy} (hs : SyOk [aP, aS] s) (hd : s.tup.Nodup) : s.tup.length ≤ 25 := by
  have h1 : (s.tup.map encT).Nodup := by
    unfold List.Nodup
    rw [List.pairwise_map]
    refine List.Pairwise.imp_of_mem (fun {a b} ha hb hne => ?_) hd
    obtain ⟨x1, y1, rfl, p1, q1⟩ := Vt2 (hs.v a ha)
    obtain ⟨x2, y2, rfl, p2, q2⟩ := Vt2 (hs.v b hb)
    intro e
    have e' : (x1 : Int) * 5 + y1 = x2 * 5 + y2 := e
    have := h.p5
    have := h.s5
    have ex : x1 = x2 := by omega
    have ey : y1 = y2 := by omega
    exact hne (by rw [ex, ey])
  have h2 := pig 25 (s.tup.map encT) h1 (fun z hz => by
    obtain ⟨t, ht, rfl⟩ := List.mem_map.1 hz
    obtain ⟨x1, y1, rfl, p1, q1⟩ := Vt2 (hs.v t ht)
    have := h.p5
    have := h.s5
    show 0 ≤ (x1 : Int) * 5 + y1 ∧ (x1 : Int) * 5 + y1 < 25
    omega)
  simpa using h2
theorem syE_some {aP aS : Aut} (h : Pb aP aS) {s : Sy} (hs : SyOk [aP, aS] s) (hd : s.tup.Nodup) (i : Nat) (t : List Int) (v : Int) : ∃ s', syE [aP, aS] i t s v = some s' ∧ s'.tup.Nodup := by
  have hl := tup_small h hs hd
  unfold syE
  cases stepT v [aP, aS] t with
  | none => exact ⟨s, rfl, hd⟩
  | some u =>
    simp only []
    by_cases hu : u ∈ s.tup
    · rw [if_pos hu]; exact ⟨_, rfl, hd⟩
    · rw [if_neg hu, if_neg (by omega)]
      refine ⟨_, rfl, ?_⟩
      simp only []
      rw [List.nodup_append]
      exact ⟨hd, by simp, fun a ha b hb => by simp only [List.mem_singleton] at hb; subst hb; exact fun e => hu (by rw [← e]; exact ha)⟩
theorem syEs_some {aP aS : Aut} (h : Pb aP aS) (ho : ∀ a ∈ [aP, aS], Okay a) {i : Nat} {t : List Int} (ht : Vt [aP, aS] t) : ∀ (vs : List Int) (s : Sy), SyOk [aP, aS] s → s.tup.Nodup → ∃ s', syEs [aP, aS] i t vs s = some s' ∧ s'.tup.Nodup
  | [], s, _, hd => ⟨s, rfl, hd⟩
  | v :: vs, s, hs, hd => by
    obtain ⟨s1, h1, h2⟩ := syE_some h hs hd i t v
    obtain ⟨s2, h3, h4⟩ := syEs_some h ho ht vs s1 (syE_ok ho hs ht h1) h2
    exact ⟨s2, by rw [syEs, h1]; exact h3, h4⟩
theorem syL_some {aP aS : Aut} (h : Pb aP aS) (ho : ∀ a ∈ [aP, aS], Okay a) : ∀ (f i : Nat) (s : Sy), SyOk [aP, aS] s → s.tup.Nodup → ∃ s', syL [aP, aS] f i s = some s'
  | 0, _, s, _, _ => ⟨s, rfl⟩
  | f + 1, i, s, hs, hd => by
    rw [syL]
    split
    · rename_i hi
      have hv : Vt [aP, aS] (syT s i) := hs.v _ (by unfold syT; simp [List.getD, hi])
      have hm : (syMark [aP, aS] i (syT s i) s).tup = s.tup := by unfold syMark; split <;> rfl
      obtain ⟨s1, h1, h2⟩ := syEs_some h ho hv (evs [aP, aS]) (syMark [aP, aS] i (syT s i) s) (syMark_ok hs) (by rw [hm]; exact hd)
      obtain ⟨s2, h3⟩ := syL_some h ho f (i + 1) s1 (syEs_ok ho hv _ _ _ (syMark_ok hs) h1) h2
      exact ⟨s2, by rw [h1]; exact h3⟩
    · exact ⟨s, rfl⟩
theorem Pb.okay {aP aS : Aut} (h : Pb aP aS) : ∀ a ∈ [aP, aS], Okay a := fun a ha => by
  simp only [List.mem_cons, List.not_mem_nil, or_false] at ha
  rcases ha with rfl | rfl
  · exact h.p
  · exact h.s
theorem Pb.opE0 {aP aS : Aut} (h : Pb aP aS) : opE aP aS = 0 := by
  have hc : opC aP aS = 0 := by
    unfold opC
    rw [if_neg (by simp [(ckA_zero aP).2 h.p]), if_neg (by simp [(ckA_zero aS).2 h.s]), if_pos]
    refine List.eq_nil_iff_forall_not_mem.2 fun x hx => ?_
    have := (mem_mrg h.s.ali h.p.ali x).1 hx
    simp only [Bool.and_eq_true, decide_eq_true_eq, Bool.not_eq_true', decide_eq_false_iff_not] at this
    exact this.2.2 (h.sub x this.2.1)
  unfold opE
  rw [if_neg (by simp [hc])]
  have hsome : ∃ z, sync [aP, aS] = some z := by
    unfold sync
    split
    · exact ⟨_, rfl⟩
    · rename_i hz
      obtain ⟨s, hs⟩ := syL_some h h.okay 4096 0 (sy0 [aP, aS]) (sy0_ok h.okay hz) (by simp [sy0])
      rw [hs]; exact ⟨_, rfl⟩
  obtain ⟨z, hz⟩ := hsome
  rw [hz]
theorem Pb.st100 {aP aS : Aut} (h : Pb aP aS) : Okay aP → Okay aS → aP.st ≤ 100 ∧ aS.st ≤ 100 := fun _ _ => ⟨by have := h.p5; omega, by have := h.s5; omega⟩
/-- A Control of the definition is consistent with itself. -/
theorem ctlD_self (p s : Aut) (pairs : List (List Int)) (x : Int) (hi : Inc s.al) : consC (ctlD p s pairs x) (ctlD p s pairs x) = true := by
  have i1 : Inc (ctlD p s pairs x).en := List.Pairwise.sublist List.filter_sublist hi
  have i2 : Inc (ctlD p s pairs x).dis := List.Pairwise.sublist List.filter_sublist hi
  rw [consC_law i1 i2 i1 i2]
  unfold lawC
  have h1 : (ctlD p s pairs x).en.all (fun y => !decide (y ∈ (ctlD p s pairs x).dis)) = true := by
    rw [List.all_eq_true]
    intro y hy
    simp only [Bool.not_eq_true', decide_eq_false_iff_not]
    intro hd
    simp only [ctlD, List.mem_filter, Bool.and_eq_true, decide_eq_true_eq, Bool.not_eq_true', decide_eq_false_iff_not] at hy hd
    exact hd.2.2 hy.2.2
  rw [h1]
  simp
end Go.Proofs.YtfhgnlkdcdlblaaGreatDoor

/- The function SupervisorMaps returns true. -/
namespace Go.Lg
section
variable {P : Program} {f : Fr} {w : World} {d : Option Nat} {ty : Nat} {ps : String} {af : Array Edge} {gd : Option (Nat × Bool)}
theorem r_neqF {t t' : Nat} {x y : Operand} {k : IntKind} {a b : Int} (hx : ev f x = .int k a) (hy : ev f y = .int k b) (h : a = b) :
    (execOp (ev f) ⟨d, .binOp .neq t x y t', ty, ps, af, gd⟩).run P w = .ok (.value (.bool false)) w := by
  rw [r_neq hx hy, decide_eq_false (fun e => e h)]
end
end Go.Lg
namespace Go.Proofs.YtfhgnlkdcdlblaaGreatDoor
open Go.Lg

theorem Pb.opC0 {aP aS : Aut} (h : Pb aP aS) : opC aP aS = 0 := by
  have := h.opE0
  unfold opE at this
  split at this
  · rename_i h1; exact absurd this h1
  · rename_i h1; exact Decidable.not_not.1 h1
theorem AutF_comp {N : Nat} {H : Array Obj} {va vm ve : Value} {n : Int} {a : Aut} (h : AutF N H (.agg #[va, .int .i64 n, vm, ve]) a) : n = a.st ∧ ∀ L : List Nat, (∀ b ∈ L, b < N) → AutA L H va vm ve a := by
  obtain ⟨x1, x2, x3, e, h⟩ := h
  simp only [Value.agg.injEq, Array.mk.injEq, List.cons.injEq, and_true, Value.int.injEq, true_and] at e
  obtain ⟨rfl, rfl, rfl, rfl⟩ := e
  exact ⟨rfl, h⟩

end Go.Proofs.YtfhgnlkdcdlblaaGreatDoor
/- The synchronous product as a graph: its edges are the steps of its tuples; it is a right automaton. -/
namespace Go.Proofs.YtfhgnlkdcdlblaaGreatDoor
open Go.Lg

/-! ### Edges in a grid: by state, then by event -/
def grid (g : Nat → Int → Option Ed) (vs : List Int) (n : Nat) : List Ed := (List.range' 0 n).flatMap fun j => vs.filterMap (g j)
theorem grid_succ (g : Nat → Int → Option Ed) (vs : List Int) (n : Nat) : grid g vs (n + 1) = grid g vs n ++ vs.filterMap (g n) := by
  unfold grid; rw [List.range'_1_concat, List.flatMap_append]; simp
theorem eget_append (l m : List Ed) (s v : Int) : eget (l ++ m) s v = match eget l s v with | some u => some u | none => eget m s v := by
  induction l with
  | nil => rfl
  | cons e l ih =>
    rw [List.cons_append, eget, eget]
    split
    · rfl
    · exact ih
/-- An edge of the grid stands where it belongs. -/
def GridOk (g : Nat → Int → Option Ed) : Prop := ∀ j v e, g j v = some e → e.1 = (j : Int) ∧ e.2.1 = v
theorem eget_row {g : Nat → Int → Option Ed} (hg : GridOk g) (j : Nat) (v : Int) : ∀ (vs : List Int), eget (vs.filterMap (g j)) j v = if v ∈ vs then (g j v).map (·.2.2) else none
  | [] => by simp [eget]
  | u :: vs => by
    have ih := eget_row hg j v vs
    rw [List.filterMap_cons]
    cases hu : g j u with
    | none =>
      simp only []
      rw [ih]
      by_cases e : v = u
      · subst e; simp [hu]
      · simp [e]
    | some e =>
      have he := hg j u e hu
      simp only []
      rw [eget]
      by_cases e2 : u = v
      · subst e2
        rw [if_pos he, if_pos List.mem_cons_self, hu]; rfl
      · rw [if_neg (fun h => e2 (he.2.symm.trans h.2)), ih]
        simp [Ne.symm e2]
theorem eget_row_ne {g : Nat → Int → Option Ed} (hg : GridOk g) {j i : Nat} (h : j ≠ i) (v : Int) (vs : List Int) : eget (vs.filterMap (g j)) i v = none := by
  refine eget_none fun e he h2 => ?_
  obtain ⟨u, _, hu⟩ := List.mem_filterMap.1 he
  have := hg j u e hu
  omega
theorem eget_grid {g : Nat → Int → Option Ed} (hg : GridOk g) (vs : List Int) (j : Nat) (v : Int) : ∀ n, eget (grid g vs n) j v = if j < n ∧ v ∈ vs then (g j v).map (·.2.2) else none
  | 0 => by simp [grid, eget]
  | n + 1 => by
    rw [grid_succ, eget_append, eget_grid hg vs j v n]
    by_cases e : j = n
    · subst e
      rw [if_neg (by omega), eget_row hg]
      simp
    · rw [eget_row_ne hg (Ne.symm e)]
      by_cases h : j < n ∧ v ∈ vs
      · rw [if_pos h, if_pos ⟨by omega, h.2⟩]
        cases (g j v).map (·.2.2) <;> rfl
      · rw [if_neg h, if_neg (fun h2 => h ⟨by omega, h2.2⟩)]
theorem grid_mem {g : Nat → Int → Option Ed} {vs : List Int} {n : Nat} {e : Ed} (h : e ∈ grid g vs n) : ∃ j v, j < n ∧ v ∈ vs ∧ g j v = some e := by
  unfold grid at h
  obtain ⟨j, hj, h2⟩ := List.mem_flatMap.1 h
  obtain ⟨v, hv, h3⟩ := List.mem_filterMap.1 h2
  rw [List.mem_range'_1] at hj
  exact ⟨j, v, by omega, hv, h3⟩
theorem grid_pw {g : Nat → Int → Option Ed} (hg : GridOk g) {vs : List Int} (hi : Inc vs) : ∀ n, (grid g vs n).Pairwise fun x y : Ed => x.1 < y.1 ∨ (x.1 = y.1 ∧ x.2.1 < y.2.1)
  | 0 => by simp [grid]
  | n + 1 => by
    rw [grid_succ, List.pairwise_append]
    refine ⟨grid_pw hg hi n, pw_filterMap (r := (· < ·)) (fun x y u v hxy hu hv => ?_) hi, fun e he e' he' => ?_⟩
    · have h1 := hg n x u hu
      have h2 := hg n y v hv
      right; omega
    · obtain ⟨j, v, hj, _, h1⟩ := grid_mem he
      obtain ⟨v', _, h2⟩ := List.mem_filterMap.1 he'
      have h3 := hg j v e h1
      have h4 := hg n v' e' h2
      left; omega
theorem outE_append (l m : List Ed) (s : Int) : outE (l ++ m) s = outE l s ++ outE m s := by unfold outE; rw [List.filter_append]
theorem outE_grid {g : Nat → Int → Option Ed} (hg : GridOk g) (vs : List Int) (j : Nat) : ∀ n, outE (grid g vs n) j = if j < n then vs.filterMap (g j) else []
  | 0 => by simp [grid, outE]
  | n + 1 => by
    rw [grid_succ, outE_append, outE_grid hg vs j n]
    have key : ∀ e ∈ vs.filterMap (g n), e.1 = (n : Int) := fun e he => by
      obtain ⟨v, _, h2⟩ := List.mem_filterMap.1 he
      exact (hg n v e h2).1
    by_cases e : j = n
    · subst e
      rw [if_neg (by omega), if_pos (by omega), List.nil_append]
      unfold outE
      rw [List.filter_eq_self]
      intro x hx; simpa using key x hx
    · have : outE (vs.filterMap (g n)) j = [] := by
        unfold outE
        rw [List.filter_eq_nil_iff]
        intro x hx; have := key x hx; simp; omega
      rw [this, List.append_nil]
      by_cases h : j < n
      · rw [if_pos h, if_pos (by omega)]
      · rw [if_neg h, if_neg (by omega)]

/-! ### The union of the alphabets -/
theorem evs_snoc (l : List Aut) (a : Aut) : evs (l ++ [a]) = mrg (· || ·) (evs l) a.al := by unfold evs; rw [List.foldl_append]; rfl
theorem evsF (l : List Aut) : ∀ (acc : List Int), (∀ a ∈ l, Inc a.al) → Inc acc → Inc (l.foldl (fun acc a => mrg (· || ·) acc a.al) acc) ∧ ∀ x, x ∈ l.foldl (fun acc a => mrg (· || ·) acc a.al) acc ↔ x ∈ acc ∨ ∃ a ∈ l, x ∈ a.al := by
  induction l with
  | nil => intro acc _ h; exact ⟨h, fun x => by simp⟩
  | cons a l ih =>
    intro acc hl h
    have ha := hl a List.mem_cons_self
    obtain ⟨h1, h2⟩ := ih (mrg (· || ·) acc a.al) (fun b hb => hl b (List.mem_cons_of_mem _ hb)) (mrg_inc _ _ _ _ (Nat.le_refl _) h ha)
    rw [List.foldl_cons]
    refine ⟨h1, fun x => ?_⟩
    rw [h2 x, mem_mrg h ha]
    simp only [List.mem_cons, exists_eq_or_imp]
    constructor
    · rintro (⟨h3 | h3, _⟩ | h3)
      · exact .inl h3
      · exact .inr (.inl h3)
      · exact .inr (.inr h3)
    · rintro (h3 | h3 | h3)
      · exact .inl ⟨.inl h3, by simp [h3]⟩
      · exact .inl ⟨.inr h3, by simp [h3]⟩
      · exact .inr h3
theorem evs_inc {l : List Aut} (h : ∀ a ∈ l, Okay a) : Inc (evs l) := (evsF l [] (fun a ha => (h a ha).ali) (by simp)).1
theorem evs_mem {l : List Aut} (h : ∀ a ∈ l, Okay a) (x : Int) : x ∈ evs l ↔ ∃ a ∈ l, x ∈ a.al := by
  have := (evsF l [] (fun a ha => (h a ha).ali) (by simp)).2 x
  unfold evs; rw [this]; simp

/-! ### The search -/
def syF (aa : List Aut) (tup : List (List Int)) (j : Nat) (v : Int) : Option Ed := (stepT v aa (tup.getD j [])).map fun u => ((j : Int), v, (tup.idxOf u : Int))
theorem syF_ok (aa : List Aut) (tup : List (List Int)) : GridOk (syF aa tup) := by
  intro j v e h
  unfold syF at h
  obtain ⟨u, _, rfl⟩ := Option.map_eq_some_iff.1 h
  exact ⟨rfl, rfl⟩
theorem fm_congr {α β : Type} {f g : α → Option β} : ∀ {l : List α}, (∀ x ∈ l, f x = g x) → l.filterMap f = l.filterMap g
  | [], _ => rfl
  | x :: l, h => by rw [List.filterMap_cons, List.filterMap_cons, h x List.mem_cons_self, fm_congr (fun y hy => h y (List.mem_cons_of_mem _ hy))]
theorem fm_one {α β : Type} {f : α → Option β} {v : α} {e : β} (h : f v = some e) : [v].filterMap f = [e] := by rw [List.filterMap_cons, h]; rfl
theorem fm_none {α β : Type} {f : α → Option β} {v : α} (h : f v = none) : [v].filterMap f = [] := by rw [List.filterMap_cons, h]; rfl
theorem syF_none {aa : List Aut} {tup : List (List Int)} {j : Nat} {v : Int} (h : stepT v aa (tup.getD j []) = none) : syF aa tup j v = none := by unfold syF; rw [h]; rfl
theorem syF_some {aa : List Aut} {tup : List (List Int)} {j : Nat} {v : Int} {u : List Int} (h : stepT v aa (tup.getD j []) = some u) : syF aa tup j v = some ((j : Int), v, (tup.idxOf u : Int)) := by unfold syF; rw [h]; rfl
def Clo (aa : List Aut) (tup : List (List Int)) (j : Nat) (vs : List Int) : Prop := ∀ v ∈ vs, ∀ u, stepT v aa (tup.getD j []) = some u → u ∈ tup
theorem getD_pre {tup r : List (List Int)} {j : Nat} (h : j < tup.length) : (tup ++ r).getD j [] = tup.getD j [] := by simp [List.getD, List.getElem?_append_left h]
theorem syF_pre {aa : List Aut} {tup r : List (List Int)} {j : Nat} {vs : List Int} (hj : j < tup.length) (hc : Clo aa tup j vs) : vs.filterMap (syF aa (tup ++ r) j) = vs.filterMap (syF aa tup j) := by
  refine fm_congr fun v hv => ?_
  unfold syF
  rw [getD_pre hj]
  cases hs : stepT v aa (tup.getD j []) with
  | none => rfl
  | some u =>
    have hu := hc v hv u hs
    simp only [Option.map_some, Option.some.injEq, Prod.mk.injEq, true_and]
    rw [List.idxOf_append, if_pos hu]
theorem Clo.pre {aa : List Aut} {tup r : List (List Int)} {j : Nat} {vs : List Int} (hj : j < tup.length) (hc : Clo aa tup j vs) : Clo aa (tup ++ r) j vs := by
  intro v hv u hu
  rw [getD_pre hj] at hu
  exact List.mem_append_left _ (hc v hv u hu)
theorem nodup_snoc {α : Type} {l : List α} {u : α} (h : l.Nodup) (hu : u ∉ l) : (l ++ [u]).Nodup := by
  rw [List.nodup_append]
  exact ⟨h, by simp, fun a ha b hb => by simp only [List.mem_singleton] at hb; subst hb; exact fun e => hu (by rw [← e]; exact ha)⟩
theorem syEs_spec {aa : List Aut} {i : Nat} : ∀ (vs : List Int) (s s' : Sy), i < s.tup.length → s.tup.Nodup → syEs aa i (syT s i) vs s = some s' →
    ∃ r, s'.tup = s.tup ++ r ∧ s'.mk' = s.mk' ∧ s'.ed = s.ed ++ vs.filterMap (syF aa s'.tup i) ∧ Clo aa s'.tup i vs ∧ s'.tup.Nodup
  | [], s, s', _, hd, e => by cases e; exact ⟨[], by simp, rfl, by simp, fun v hv => (by cases hv), hd⟩
  | v :: vs, s, s', hi, hd, e => by
    rw [syEs] at e
    obtain ⟨s1, h1, h2⟩ := Option.bind_eq_some_iff.1 e
    have key : ∃ r1, s1.tup = s.tup ++ r1 ∧ s1.mk' = s.mk' ∧ s1.ed = s.ed ++ [v].filterMap (syF aa s1.tup i) ∧ Clo aa s1.tup i [v] ∧ s1.tup.Nodup := by
      unfold syE at h1
      have eT : syT s i = s.tup.getD i [] := rfl
      rw [eT] at h1
      cases hs : stepT v aa (s.tup.getD i []) with
      | none =>
        rw [hs] at h1
        cases h1
        refine ⟨[], by simp, rfl, by rw [fm_none (syF_none hs), List.append_nil], fun v' hv' u hu => ?_, hd⟩
        simp only [List.mem_singleton] at hv'; subst hv'
        rw [hs] at hu; cases hu
      | some u =>
        rw [hs] at h1
        simp only [] at h1
        by_cases hu : u ∈ s.tup
        · rw [if_pos hu] at h1
          cases h1
          refine ⟨[], by simp, rfl, by rw [fm_one (syF_some hs)], fun v' hv' u' hu' => ?_, hd⟩
          simp only [List.mem_singleton] at hv'; subst hv'
          simp only [] at hu' ⊢
          rw [hs] at hu'; cases hu'; exact hu
        · rw [if_neg hu] at h1
          split at h1
          · cases h1
          · cases h1
            have e2 : (s.tup ++ [u]).getD i [] = s.tup.getD i [] := getD_pre hi
            have e3 : (s.tup ++ [u]).idxOf u = s.tup.length := by rw [List.idxOf_append, if_neg hu]; simp
            refine ⟨[u], rfl, rfl, ?_, fun v' hv' u' hu' => ?_, nodup_snoc hd hu⟩
            · rw [fm_one (syF_some (tup := s.tup ++ [u]) (u := u) (by rw [e2]; exact hs)), e3]
            · simp only [List.mem_singleton] at hv'; subst hv'
              simp only [] at hu' ⊢
              rw [e2, hs] at hu'; cases hu'; simp
    obtain ⟨r1, k1, k2, k3, k4, k5⟩ := key
    have hi1 : i < s1.tup.length := by rw [k1]; simp; omega
    have eT : syT s1 i = syT s i := by unfold syT; rw [k1]; exact getD_pre hi
    rw [← eT] at h2
    obtain ⟨r2, g1, g2, g3, g4, g5⟩ := syEs_spec vs s1 s' hi1 k5 h2
    refine ⟨r1 ++ r2, by rw [g1, k1, List.append_assoc], g2.trans k2, ?_, ?_, g5⟩
    · rw [g3, k3, List.append_assoc]
      congr 1
      rw [show v :: vs = [v] ++ vs from rfl, List.filterMap_append]
      congr 1
      rw [g1]
      exact (syF_pre hi1 k4).symm
    · intro v' hv' u hu
      rcases List.mem_cons.1 hv' with rfl | hv'
      · have := k4.pre (r := r2) hi1
        rw [← g1] at this
        exact this v' List.mem_cons_self u hu
      · exact g4 v' hv' u hu
/-- Before tuple i is taken. -/
structure SyG (aa : List Aut) (i : Nat) (s : Sy) : Prop where
  nd : s.tup.Nodup
  le : i ≤ s.tup.length
  hd : s.tup.getD 0 [] = List.replicate aa.length 0 ∧ 0 < s.tup.length
  mk2 : s.mk' = ((List.range' 0 i).filter fun j => markT aa (s.tup.getD j [])).map fun j : Nat => (j : Int)
  ed : s.ed = grid (syF aa s.tup) (evs aa) i
  cl : ∀ j, j < i → Clo aa s.tup j (evs aa)
theorem flatMap_congr' {α β : Type} {f g : α → List β} : ∀ {l : List α}, (∀ x ∈ l, f x = g x) → l.flatMap f = l.flatMap g
  | [], _ => rfl
  | x :: l, h => by rw [List.flatMap_cons, List.flatMap_cons, h x List.mem_cons_self, flatMap_congr' (fun y hy => h y (List.mem_cons_of_mem _ hy))]
theorem SyG.next {aa : List Aut} {i : Nat} {s s' : Sy} (h : SyG aa i s) (hi : i < s.tup.length) (e : syEs aa i (syT s i) (evs aa) (syMark aa i (syT s i) s) = some s') : SyG aa (i + 1) s' := by
  have ht : (syMark aa i (syT s i) s).tup = s.tup := by unfold syMark; split <;> rfl
  have hed : (syMark aa i (syT s i) s).ed = s.ed := by unfold syMark; split <;> rfl
  have hT : syT (syMark aa i (syT s i) s) i = syT s i := by show (syMark aa i (syT s i) s).tup.getD i [] = s.tup.getD i []; rw [ht]
  rw [← hT] at e
  obtain ⟨r, g1, g2, g3, g4, g5⟩ := syEs_spec (evs aa) _ s' (by rw [ht]; exact hi) (by rw [ht]; exact h.nd) (by rw [hT] at e ⊢; exact e)
  rw [ht] at g1
  rw [hed] at g3
  have pre : ∀ j, j ≤ i → s'.tup.getD j [] = s.tup.getD j [] := fun j hj => by rw [g1]; exact getD_pre (by omega)
  refine ⟨g5, by rw [g1]; simp; omega, ⟨by rw [pre 0 (by omega)]; exact h.hd.1, by rw [g1]; simp; omega⟩, ?_, ?_, fun j hj => ?_⟩
  · rw [g2, List.range'_1_concat, List.filter_append, List.map_append, Nat.zero_add]
    have e1 : ((List.range' 0 i).filter fun j => markT aa (s'.tup.getD j [])) = (List.range' 0 i).filter fun j => markT aa (s.tup.getD j []) := by
      refine List.filter_congr fun j hj => ?_
      rw [List.mem_range'_1] at hj
      rw [pre j (by omega)]
    rw [e1]
    unfold syMark
    by_cases hm : markT aa (syT s i) = true
    · rw [if_pos hm]
      have hm' : markT aa (s'.tup.getD i []) = true := by rw [pre i (Nat.le_refl _)]; exact hm
      simp only [List.filter_cons, hm', if_true, List.filter_nil, List.map_cons, List.map_nil]
      rw [h.mk2]
    · rw [if_neg hm]
      have hm' : markT aa (s'.tup.getD i []) = false := by rw [pre i (Nat.le_refl _)]; exact eq_false_of_ne_true hm
      rw [List.filter_cons, if_neg (by rw [hm']; simp), List.filter_nil, h.mk2]; simp
  · rw [g3, grid_succ, h.ed]
    congr 1
    unfold grid
    refine flatMap_congr' fun j hj => ?_
    rw [List.mem_range'_1] at hj
    rw [g1]
    exact (syF_pre (by omega) (h.cl j (by omega))).symm
  · by_cases e2 : j = i
    · subst e2; exact g4
    · have := (h.cl j (by omega)).pre (r := r) (by omega)
      rw [← g1] at this
      exact this
theorem syL_spec {aa : List Aut} : ∀ (f i : Nat) (s s' : Sy), SyG aa i s → syL aa f i s = some s' → ∃ i', SyG aa i' s' ∧ (s'.tup.length = i' ∨ i' = i + f)
  | 0, i, s, s', h, e => by cases e; exact ⟨i, h, .inr rfl⟩
  | f + 1, i, s, s', h, e => by
    rw [syL] at e
    split at e
    · rename_i hi
      obtain ⟨s1, h1, h2⟩ := Option.bind_eq_some_iff.1 e
      obtain ⟨i', h3, h4⟩ := syL_spec f (i + 1) s1 s' (h.next hi h1) h2
      exact ⟨i', h3, by omega⟩
    · cases e; exact ⟨i, h, .inl (by have := h.le; omega)⟩
/-- What the product is. -/
structure SyP (aa : List Aut) (A : Aut) (Q : List (List Int)) : Prop where
  al : A.al = evs aa
  st : A.st = (Q.length : Int)
  nd : Q.Nodup
  v : ∀ t ∈ Q, Vt aa t
  le : Q.length ≤ 4096
  hd : 0 < Q.length → Q.getD 0 [] = List.replicate aa.length 0
  mk2 : A.mr = ((List.range' 0 Q.length).filter fun j => markT aa (Q.getD j [])).map fun j : Nat => (j : Int)
  ed : A.ed = grid (syF aa Q) (evs aa) Q.length
  cl : ∀ j, j < Q.length → Clo aa Q j (evs aa)
theorem sync_spec {aa : List Aut} (ho : ∀ a ∈ aa, Okay a) {A : Aut} {Q : List (List Int)} (h : sync aa = some (A, Q)) : SyP aa A Q ∧ (Q.length = 0 ↔ ∃ a ∈ aa, a.st = 0) := by
  have hok := sync_ok ho h
  unfold sync at h
  split at h
  · rename_i hz
    cases h
    exact ⟨⟨rfl, rfl, by simp, by simp, by simp, fun h => by simp at h, by simp, by simp [grid], fun j hj => by simp at hj⟩, by simpa using hz⟩
  · rename_i hz
    obtain ⟨s, h1, h2⟩ := Option.map_eq_some_iff.1 h
    have h0 : SyG aa 0 (sy0 aa) := ⟨by simp [sy0], by simp, ⟨by simp [sy0], by simp [sy0]⟩, by simp [sy0], by simp [sy0, grid], fun j hj => by omega⟩
    obtain ⟨i', h3, h4⟩ := syL_spec 4096 0 (sy0 aa) s h0 h1
    cases h2
    have hl : i' = s.tup.length := by
      have h5 := h3.le
      have h6 := hok.2
      simp only [] at h6
      omega
    subst hl
    refine ⟨⟨rfl, rfl, h3.nd, hok.1, hok.2, fun _ => h3.hd.1, h3.mk2, h3.ed, h3.cl⟩, ?_⟩
    have := h3.hd.2
    constructor
    · intro h; have h7 : s.tup.length = 0 := h; omega
    · intro h; exact absurd h hz
/-- A step of the product is a step of its tuple. -/
theorem SyP.step {aa : List Aut} {A : Aut} {Q : List (List Int)} (h : SyP aa A Q) {j : Nat} (hj : j < Q.length) (v : Int) :
    eget A.ed j v = if v ∈ evs aa then (stepT v aa (Q.getD j [])).map fun u => (Q.idxOf u : Int) else none := by
  rw [h.ed, eget_grid (syF_ok aa Q)]
  by_cases hv : v ∈ evs aa
  · rw [if_pos ⟨hj, hv⟩, if_pos hv]
    unfold syF
    rw [Option.map_map]; rfl
  · rw [if_neg (fun e => hv e.2), if_neg hv]
theorem SyP.to {aa : List Aut} {A : Aut} {Q : List (List Int)} (h : SyP aa A Q) {j : Nat} (hj : j < Q.length) {v : Int} (hv : v ∈ evs aa) {u : List Int} (hu : stepT v aa (Q.getD j []) = some u) : Q.idxOf u < Q.length ∧ Q.getD (Q.idxOf u) [] = u := by
  have hm := h.cl j hj v hv u hu
  have hl := List.idxOf_lt_length_of_mem hm
  refine ⟨hl, ?_⟩
  simp [List.getD, hl]
theorem SyP.okay {aa : List Aut} (ho : ∀ a ∈ aa, Okay a) {A : Aut} {Q : List (List Int)} (h : SyP aa A Q) : Okay A := by
  have hle := h.le
  refine ⟨fun e he => ?_, by rw [h.al]; exact evs_inc ho, by rw [h.st]; omega, by rw [h.st]; omega, fun s hs => ?_, ?_, fun e he => ?_, by rw [h.ed]; exact grid_pw (syF_ok aa Q) (evs_inc ho) _⟩
  · rw [h.al] at he
    obtain ⟨a, ha, hx⟩ := (evs_mem ho e).1 he
    exact (ho a ha).al e hx
  · rw [h.mk2] at hs
    simp only [List.mem_map, List.mem_filter, List.mem_range'_1] at hs
    obtain ⟨i, ⟨hi, _⟩, rfl⟩ := hs
    rw [h.st]; omega
  · rw [h.mk2]
    unfold Inc
    rw [List.pairwise_map]
    refine List.Pairwise.sublist List.filter_sublist ?_
    exact (List.pairwise_lt_range' (s := 0) (n := Q.length)).imp (fun h => by omega)
  · rw [h.ed] at he
    obtain ⟨j, v, hj, hv, hg⟩ := grid_mem he
    unfold syF at hg
    obtain ⟨u, hu, rfl⟩ := Option.map_eq_some_iff.1 hg
    have := (h.to hj hv hu).1
    rw [h.st, h.al]
    exact ⟨by simp only []; omega, by simp only []; omega, hv, by simp only []; omega, by simp only []; omega⟩
end Go.Proofs.YtfhgnlkdcdlblaaGreatDoor
/- Contracts: automaton.next, follow, reached, Generates, Accepts. -/
namespace Go.Proofs.YtfhgnlkdcdlblaaGreatDoor
open Go.Lg

/-- What IndexFunc answers. -/
def IxQ {α : Type} (q : α → Bool) (es : List α) (r : Value) : Prop := (r = .int .i64 (-1) ∧ ∀ m (hm : m < es.length), q (es[m]'hm) = false) ∨ ∃ (i : Nat) (hi : i < es.length), r = .int .i64 i ∧ q (es[i]'hi) = true ∧ ∀ m (hm : m < i), q (es[m]'(by omega)) = false
theorem ixfE_ok {g : Nat} {fn : Func} [Fu Tryz.prog g fn] {cap : List Value} {q : Ed → Bool} {L : List Nat} {w : World} {v : Value} {es : List Ed} (h : Eds L w.heap v es)
    (hk : ∀ (e : Ed) (w1 : World), Step [] w w1 → Ret Tryz.prog g ([.agg (edCells e).toArray] ++ cap) w1 fun r w' => r = .bool (q e) ∧ Step [] w1 w') :
    Ret Tryz.prog 33 [v, .func (.func g) #[] cap.toArray] w fun r w' => Step [] w w' ∧ IxQ q es r := by
  have hle := h.le
  refine Ret.of_W Tryz.func33 rfl Tryz.ntmps33 Tryz.results33 (by simp) ?_
  refine W_seq <| W_region (by rfl) ?_
  refine x r_assign <| xe ?_
  refine W_seq <| W_seq <| W_region (by rfl) ?_
  refine x r_move <| x (r_lenA h rfl) <| x r_move <| xe ?_
  refine W_block <| W_loop (α := Nat) [(4, 5), (8, 18)] (fun z => [(8, .int .i64 z)]) (fun z w' => z ≤ es.length ∧ Step [] w w' ∧ ∀ m (hm : m < es.length), m < z → q (es[m]'hm) = false) (fun z => es.length - z) (by rfl) 0 ⟨rfl, trivial⟩ ⟨Nat.zero_le _, Step.refl _ _, fun m _ h0 => absurd h0 (Nat.not_lt_zero m)⟩ ?_
  rintro k g1 w1 ⟨hk1, hs1, hq⟩
  refine W_seq <| W_region (by rfl) ?_
  refine x (r_lss rfl rfl) <| xe ?_
  refine W_seq <| W_ifn rfl (fun h9 => ?_) (fun h9 => ?_)
  · refine W_exit ?_
    refine W_seq <| W_region (by rfl) ?_
    refine x r_assign <| xe ?_
    exact W_ret ⟨[.int .i64 (-1)], ⟨rfl, trivial⟩, hs1, .inl ⟨rfl, fun m hm => hq m hm (by omega)⟩⟩
  have hlt : k < es.length := by omega
  refine W_skip ?_
  refine W_seq <| W_block <| W_seq <| W_region (by rfl) ?_
  refine x r_move <| x r_assign <| xe ?_
  refine W_seq <| W_region (by rfl) ?_
  refine x r_move <| x r_move <| x r_move <| xie (h.ext hs1) rfl rfl hlt fun a14 h14 => x (r_loadsA h14 rfl rfl) <| xl rfl <| xc (first := []) (capt := cap) rfl <| (hk (es[k]'hlt) w1 hs1).mono ?_
  rintro r2 w2 ⟨rfl, hs2⟩
  refine xe ?_
  refine W_cond rfl (fun h16 => ?_) (fun h16 => ?_)
  · refine W_seq <| W_region (by rfl) ?_
    refine x r_move <| x r_assign <| xe ?_
    exact W_ret ⟨[.int .i64 k], ⟨rfl, trivial⟩, hs1.trans hs2, .inr ⟨k, hlt, rfl, h16, fun m hm => hq m (by omega) hm⟩⟩
  refine W_skip ?_
  refine W_region (by rfl) ?_
  refine x (r_add rfl rfl ⟨by omega, by omega⟩) <| x r_move <| xe ?_
  refine ⟨k + 1, by omega, ⟨rfl, trivial⟩, hlt, hs1.trans hs2, fun m hm hmk => ?_⟩
  by_cases e : m = k
  · subst e; exact h16
  · exact hq m hm (by omega)
theorem ixfI_ok {g : Nat} {fn : Func} [Fu Tryz.prog g fn] {cap : List Value} {q : Int → Bool} {L : List Nat} {w : World} {v : Value} {es : List Int} (h : Ints L w.heap v es)
    (hk : ∀ (e : Int) (w1 : World), Step [] w w1 → Ret Tryz.prog g ([.int .i64 e] ++ cap) w1 fun r w' => r = .bool (q e) ∧ Step [] w1 w') :
    Ret Tryz.prog 95 [v, .func (.func g) #[] cap.toArray] w fun r w' => Step [] w w' ∧ IxQ q es r := by
  have hle := h.le
  refine Ret.of_W Tryz.func95 rfl Tryz.ntmps95 Tryz.results95 (by simp) ?_
  refine W_seq <| W_region (by rfl) ?_
  refine x r_assign <| xe ?_
  refine W_seq <| W_seq <| W_region (by rfl) ?_
  refine x r_move <| x (r_lenA h rfl) <| x r_move <| xe ?_
  refine W_block <| W_loop (α := Nat) [(4, 5), (8, 18)] (fun z => [(8, .int .i64 z)]) (fun z w' => z ≤ es.length ∧ Step [] w w' ∧ ∀ m (hm : m < es.length), m < z → q (es[m]'hm) = false) (fun z => es.length - z) (by rfl) 0 ⟨rfl, trivial⟩ ⟨Nat.zero_le _, Step.refl _ _, fun m _ h0 => absurd h0 (Nat.not_lt_zero m)⟩ ?_
  rintro k g1 w1 ⟨hk1, hs1, hq⟩
  refine W_seq <| W_region (by rfl) ?_
  refine x (r_lss rfl rfl) <| xe ?_
  refine W_seq <| W_ifn rfl (fun h9 => ?_) (fun h9 => ?_)
  · refine W_exit ?_
    refine W_seq <| W_region (by rfl) ?_
    refine x r_assign <| xe ?_
    exact W_ret ⟨[.int .i64 (-1)], ⟨rfl, trivial⟩, hs1, .inl ⟨rfl, fun m hm => hq m hm (by omega)⟩⟩
  have hlt : k < es.length := by omega
  refine W_skip ?_
  refine W_seq <| W_block <| W_seq <| W_region (by rfl) ?_
  refine x r_move <| x r_assign <| xe ?_
  refine W_seq <| W_region (by rfl) ?_
  refine x r_move <| x r_move <| x r_move <| xii (h.ext hs1) rfl rfl hlt fun a14 h14 => x (r_loadA h14 rfl) <| xl rfl <| xc (first := []) (capt := cap) rfl <| (hk (es[k]'hlt) w1 hs1).mono ?_
  rintro r2 w2 ⟨rfl, hs2⟩
  refine xe ?_
  refine W_cond rfl (fun h16 => ?_) (fun h16 => ?_)
  · refine W_seq <| W_region (by rfl) ?_
    refine x r_move <| x r_assign <| xe ?_
    exact W_ret ⟨[.int .i64 k], ⟨rfl, trivial⟩, hs1.trans hs2, .inr ⟨k, hlt, rfl, h16, fun m hm => hq m (by omega) hm⟩⟩
  refine W_skip ?_
  refine W_region (by rfl) ?_
  refine x (r_add rfl rfl ⟨by omega, by omega⟩) <| x r_move <| xe ?_
  refine ⟨k + 1, by omega, ⟨rfl, trivial⟩, hlt, hs1.trans hs2, fun m hm hmk => ?_⟩
  by_cases e : m = k
  · subst e; exact h16
  · exact hq m hm (by omega)
theorem cnfI_ok {g : Nat} {fn : Func} [Fu Tryz.prog g fn] {cap : List Value} {q : Int → Bool} {L : List Nat} {w : World} {v : Value} {es : List Int} (h : Ints L w.heap v es)
    (hk : ∀ (e : Int) (w1 : World), Step [] w w1 → Ret Tryz.prog g ([.int .i64 e] ++ cap) w1 fun r w' => r = .bool (q e) ∧ Step [] w1 w') :
    Ret Tryz.prog 76 [v, .func (.func g) #[] cap.toArray] w fun r w' => r = .bool (es.any q) ∧ Step [] w w' := by
  refine Ret.of_W Tryz.func76 rfl Tryz.ntmps76 Tryz.results76 (by simp) ?_
  refine W_seq <| W_region (by rfl) ?_
  refine x r_assign <| xe ?_
  refine W_seq <| W_region (by rfl) ?_
  refine x r_move <| x r_move <| xl rfl <| xf <| (ixfI_ok h hk).mono ?_
  rintro r1 w1 ⟨hs1, hr⟩
  refine Or.elim hr (fun hr => ?_) (fun hr => ?_)
  · obtain ⟨rfl, hq⟩ := hr
    have e : es.any q = false := by
      rw [List.any_eq_false]
      intro z hz
      obtain ⟨i, hi, rfl⟩ := List.getElem_of_mem hz
      rw [hq i hi]; simp
    refine x (r_geq rfl rfl) <| x r_assign <| xe ?_
    exact W_ret ⟨[.bool false], ⟨rfl, trivial⟩, by rw [e]; rfl, hs1⟩
  · obtain ⟨i, hi, rfl, h1, _⟩ := hr
    have e : es.any q = true := List.any_eq_true.2 ⟨_, List.getElem_mem hi, h1⟩
    have e2 : decide ((0 : Int) ≤ (i : Int)) = true := by simp
    refine x (r_geq rfl rfl) <| x r_assign <| xe ?_
    exact W_ret ⟨[.bool (decide ((0 : Int) ≤ (i : Int)))], ⟨rfl, trivial⟩, by rw [e, e2]; rfl, hs1⟩

/-! ### automaton.next -/
theorem nxt_out (es : List Ed) (s v : Int) : nxt es s v = nxt (outE es s) s v := by
  induction es with
  | nil => rfl
  | cons e es ih =>
    unfold outE at *
    rw [List.filter_cons]
    by_cases h : e.1 = s
    · rw [if_pos (by simpa using h), nxt, nxt, ih]
    · rw [if_neg (by simpa using h), nxt, if_neg (fun c => h c.1), ih]
theorem nxt_at : ∀ (l : List Ed) (s v : Int) (i : Nat) (hi : i < l.length), (∀ e ∈ l, e.1 = s) → (l[i]'hi).2.1 = v → (∀ m (hm : m < i), (l[m]'(by omega)).2.1 ≠ v) → nxt l s v = (l[i]'hi).2.2
  | e :: l, s, v, 0, _, hs, hv, _ => by rw [nxt, if_pos ⟨hs e List.mem_cons_self, hv⟩]; rfl
  | e :: l, s, v, i + 1, hi, hs, hv, hm => by
    rw [nxt, if_neg (fun c => hm 0 (by omega) c.2)]
    exact nxt_at l s v i (by simpa using hi) (fun e he => hs e (List.mem_cons_of_mem _ he)) hv (fun m hm' => hm (m + 1) (by omega))
theorem nxt_no : ∀ (l : List Ed) (s v : Int), (∀ e ∈ l, e.2.1 ≠ v) → nxt l s v = -1
  | [], _, _, _ => rfl
  | e :: l, s, v, h => by rw [nxt, if_neg (fun c => h e List.mem_cons_self c.2)]; exact nxt_no l s v (fun e he => h e (List.mem_cons_of_mem _ he))
theorem next1_ok {b T : Nat} {n : Int} (e : Ed) (w : World) (hB : Blk w.heap b T [.int .i64 n]) :
    Ret Tryz.prog 107 ([.agg (edCells e).toArray] ++ [.pointer (some ⟨b, 0, none⟩)]) w fun r w' => r = .bool (decide (e.2.1 = n)) ∧ Step [] w w' := by
  refine Ret.of_W Tryz.func107 rfl Tryz.ntmps107 Tryz.results107 (by simp) ?_
  refine W_seq <| W_region (by rfl) ?_
  refine xl rfl <| o_box (us := edCells e) rfl fun b2 w1 hs1 hb2 hB2 => x r_assign <| xe ?_
  refine W_seq <| W_region (by rfl) ?_
  refine x (r_fieldB rfl) <| x (r_loadB hB2 rfl rfl) <| x (r_loadB (hB.ext hs1) rfl rfl) <| x (r_eql rfl rfl) <| x r_assign <| xe ?_
  exact W_ret ⟨[_], ⟨rfl, trivial⟩, rfl, hs1⟩
theorem anext_ok {L : List Nat} {w : World} {va vm ve : Value} {st : Int} {a : Aut} (h : Eds L w.heap ve a.ed) (ho : Okay a) (s v : Int) (hs0 : 0 ≤ s) (hs1 : s < a.st) :
    Ret Tryz.prog 96 [.agg #[va, .int .i64 st, vm, ve], .int .i64 s, .int .i64 v] w fun r w' => r = .int .i64 (nxt a.ed s v) ∧ Step [] w w' := by
  have hst := ho.st1
  refine Ret.of_W Tryz.func96 rfl Tryz.ntmps96 Tryz.results96 (by simp) ?_
  refine W_seq <| W_region (by rfl) ?_
  refine xl rfl <| o_box (us := [va, .int .i64 st, vm, ve]) rfl fun b3 w1 hs1 hb3 hB3 => xl rfl <| o_box (us := [.int .i64 v]) rfl fun b5 w2 hs2 hb5 hB5 => x r_assign <| xe ?_
  refine W_seq <| W_region (by rfl) ?_
  refine x (r_loadsB (hB3.ext hs2) rfl rfl) <| x r_move <| xl rfl <| xf <| (out_ok ((h.ext hs1).ext hs2) ho.eds (fun e he => ⟨(ho.ed e he).1, by have := (ho.ed e he).2.1; omega⟩) s hs0 (by omega)).mono ?_
  rintro vo w3 ⟨hs3, hE⟩
  refine x r_assign <| xe ?_
  have hall : ∀ e ∈ outE a.ed s, e.1 = s := fun e he => (outE_mem he).2
  rw [nxt_out]
  refine W_seq <| W_region (by rfl) ?_
  refine x r_move <| x (r_makeFunc (l := []) (l' := [.tmp 5])) <| xl rfl <| xf <| (ixfE_ok (q := fun e => decide (e.2.1 = v)) (cap := [.pointer (some ⟨b5, 0, none⟩)]) hE (fun e w4 hs4 => next1_ok e w4 ((hB5.ext hs3).ext hs4))).mono ?_
  rintro r4 w4 ⟨hs4, hr⟩
  have hW := ((hs1.trans hs2).trans hs3).trans hs4
  refine Or.elim hr (fun hr => ?_) (fun hr => ?_)
  · obtain ⟨rfl, hq⟩ := hr
    have e1 : nxt (outE a.ed s) s v = -1 := nxt_no _ _ _ fun e he => by
      obtain ⟨i, hi, rfl⟩ := List.getElem_of_mem he
      simpa using hq i hi
    rw [e1]
    refine x r_assign <| xe ?_
    refine W_seq <| W_seq <| W_region (by rfl) ?_
    refine x r_move <| x (r_lss rfl rfl) <| xe ?_
    refine W_true rfl ?_
    refine W_seq <| W_region (by rfl) ?_
    refine x r_assign <| xe ?_
    exact W_ret ⟨[.int .i64 (-1)], ⟨rfl, trivial⟩, rfl, hW⟩
  · obtain ⟨i, hi, rfl, h1, h2⟩ := hr
    have e1 : nxt (outE a.ed s) s v = ((outE a.ed s)[i]'hi).2.2 := nxt_at _ s v i hi hall (by simpa using h1) (fun m hm => by simpa using h2 m hm)
    rw [e1]
    refine x r_assign <| xe ?_
    refine W_seq <| W_seq <| W_region (by rfl) ?_
    refine x r_move <| x (r_lss rfl rfl) <| xe ?_
    refine W_if rfl (fun h16 => absurd h16 (by omega)) (fun h16 => ?_)
    refine W_skip ?_
    refine W_seq <| W_region (by rfl) ?_
    refine x r_move <| x r_move <| xie (hE.ext hs4) rfl rfl hi fun a19 h19 => x (r_field rfl) <| x (r_loadA (h19.fld 2 _ rfl) rfl) <| x r_assign <| xe ?_
    exact W_ret ⟨[_], ⟨rfl, trivial⟩, rfl, hW⟩

/-! ### follow -/
def flw (a : Aut) : Int → List Int → Int × Nat
  | s, [] => (s, 0)
  | s, v :: u => if nxt a.ed s v < 0 then (s, 0) else ((flw a (nxt a.ed s v) u).1, (flw a (nxt a.ed s v) u).2 + 1)
theorem flw_le (a : Aut) : ∀ (u : List Int) (s : Int), (flw a s u).2 ≤ u.length
  | [], s => by simp [flw]
  | v :: u, s => by
    rw [flw]
    split
    · simp
    · have := flw_le a u (nxt a.ed s v); simp; omega
theorem nxt_lt {a : Aut} (ho : Okay a) {s v : Int} (h : ¬ nxt a.ed s v < 0) : nxt a.ed s v < a.st := (ho.ed _ (nxt_mem (by omega))).2.2.2.2
theorem follow_ok {L L' : List Nat} {w : World} {va vm ve vw : Value} {st : Int} {a : Aut} {u : List Int} (h : Eds L w.heap ve a.ed) (hw : Ints L' w.heap vw u) (ho : Okay a) (s : Int) (hs0 : 0 ≤ s) (hs1 : s < a.st) :
    Ret Tryz.prog 78 [.agg #[va, .int .i64 st, vm, ve], .int .i64 s, vw] w fun r w' => r = .tuple #[.int .i64 (flw a s u).1, .int .i64 (flw a s u).2] ∧ Step [] w w' := by
  have hle := hw.le
  refine Ret.of_W Tryz.func78 rfl Tryz.ntmps78 Tryz.results78 (by simp) ?_
  refine W_seq <| W_region (by rfl) ?_
  refine xl rfl <| o_box (us := [va, .int .i64 st, vm, ve]) rfl fun b3 w1 hs1 hb3 hB3 => x r_assign <| x r_assign <| xe ?_
  refine W_seq <| W_seq <| W_region (by rfl) ?_
  refine x r_move <| x (r_lenA hw rfl) <| x r_move <| xe ?_
  refine W_block <| W_loop (α := Nat × Int) [(1, 1), (6, 10), (13, 27)] (fun z => [(1, .int .i64 z.2), (13, .int .i64 z.1)]) (fun z w' => z.1 ≤ u.length ∧ 0 ≤ z.2 ∧ z.2 < a.st ∧ Step [] w1 w' ∧ flw a s u = ((flw a z.2 (u.drop z.1)).1, (flw a z.2 (u.drop z.1)).2 + z.1)) (fun z => u.length - z.1) (by rfl) (0, s) ⟨rfl, rfl, trivial⟩ ⟨Nat.zero_le _, hs0, by assumption, Step.refl _ _, by simp⟩ ?_
  rintro ⟨k, t⟩ g w2 ⟨hk, ht0, ht1, hs2, hf⟩
  simp only [] at hk ht0 ht1 hf
  have hW2 := hs1.trans hs2
  refine W_seq <| W_region (by rfl) ?_
  refine x (r_lss rfl rfl) <| xe ?_
  refine W_seq <| W_ifn rfl (fun h14 => ?_) (fun h14 => ?_)
  · refine W_exit ?_
    refine W_seq <| W_region (by rfl) ?_
    refine x r_move <| x r_move <| x (r_lenA hw rfl) <| x r_assign <| x r_assign <| xe ?_
    rw [List.drop_of_length_le (by omega)] at hf
    have hk2 : k = u.length := by have h15 : ¬ (k : Int) < (u.length : Int) := h14; omega
    refine W_ret ⟨[.int .i64 t, .int .i64 u.length], ⟨rfl, rfl, trivial⟩, ?_, hW2⟩
    rw [hf, hk2]
    simp [flw, tup]
  have hlt : k < u.length := by omega
  rw [drop_cons hlt, flw] at hf
  refine W_skip ?_
  refine W_seq <| W_block <| W_seq <| W_region (by rfl) ?_
  refine x r_move <| xii (hw.ext hW2) rfl rfl hlt fun a16 h16 => x (r_loadA h16 rfl) <| x r_assign <| x r_assign <| xe ?_
  refine W_seq <| W_region (by rfl) ?_
  refine x (r_loadsB (hB3.ext hs2) rfl rfl) <| x r_move <| x r_move <| xl rfl <| xf <| (anext_ok (h.ext hW2) ho t (u[k]'hlt) ht0 ht1).mono ?_
  rintro r3 w3 ⟨rfl, hs3⟩
  refine x r_assign <| xe ?_
  refine W_seq <| W_seq <| W_region (by rfl) ?_
  refine x r_move <| x (r_lss rfl rfl) <| xe ?_
  refine W_if rfl (fun h23 => ?_) (fun h23 => ?_)
  · rw [if_pos h23] at hf
    refine W_seq <| W_region (by rfl) ?_
    refine x r_move <| x r_move <| x r_assign <| x r_assign <| xe ?_
    refine W_ret ⟨[.int .i64 t, .int .i64 k], ⟨rfl, rfl, trivial⟩, ?_, hW2.trans hs3⟩
    rw [hf]
    simp [tup]
  rw [if_neg h23] at hf
  have hn := nxt_lt ho h23
  refine W_skip ?_
  refine W_region (by rfl) ?_
  refine x r_move <| x r_assign <| xe ?_
  refine W_region (by rfl) ?_
  refine x (r_add rfl rfl ⟨by omega, by omega⟩) <| x r_move <| xe ?_
  refine ⟨(k + 1, nxt a.ed t (u[k]'hlt)), by simp only []; omega, ⟨rfl, rfl, trivial⟩, hlt, by simp only []; omega, hn, hs2.trans hs3, ?_⟩
  simp only []
  rw [hf]
  simp; omega
/-! ### reached, Generates, Accepts -/
def rchd (a : Aut) (u : List Int) : Int × Bool := if a.st = 0 then (0, false) else ((flw a 0 u).1, decide (((flw a 0 u).2 : Int) = (u.length : Int)))
theorem reached_ok {L L' : List Nat} {w : World} {va vm ve vw : Value} {a : Aut} {u : List Int} (h : Eds L w.heap ve a.ed) (hw : Ints L' w.heap vw u) (ho : Okay a) :
    Ret Tryz.prog 58 [.agg #[va, .int .i64 a.st, vm, ve], vw] w fun r w' => r = .tuple #[.int .i64 (rchd a u).1, .bool (rchd a u).2] ∧ Step [] w w' := by
  have h0 := ho.st0
  refine Ret.of_W Tryz.func58 rfl Tryz.ntmps58 Tryz.results58 (by simp) ?_
  refine W_seq <| W_region (by rfl) ?_
  refine xl rfl <| o_box (us := [va, .int .i64 a.st, vm, ve]) rfl fun b2 w1 hs1 hb2 hB2 => x r_assign <| x r_assign <| xe ?_
  refine W_seq <| W_seq <| W_region (by rfl) ?_
  refine x (r_fieldB rfl) <| x (r_loadB hB2 rfl rfl) <| x (r_eql rfl rfl) <| xe ?_
  unfold rchd
  refine W_if rfl (fun h10 => ?_) (fun h10 => ?_)
  · refine W_seq <| W_region (by rfl) ?_
    refine x r_assign <| x r_assign <| xe ?_
    exact W_ret ⟨[.int .i64 0, .bool false], ⟨rfl, rfl, trivial⟩, by rw [if_pos h10]; rfl, hs1⟩
  rw [if_neg h10]
  refine W_skip ?_
  refine W_seq <| W_region (by rfl) ?_
  refine x (r_loadsB hB2 rfl rfl) <| x r_move <| xl rfl <| xf <| (follow_ok (h.ext hs1) (hw.ext hs1) ho 0 (by omega) (by omega)).mono ?_
  rintro r2 w2 ⟨rfl, hs2⟩
  refine x r_move <| x (r_extract rfl rfl) <| x (r_extract rfl rfl) <|
    x r_assign <| x r_assign <| xe ?_
  refine W_seq <| W_region (by rfl) ?_
  refine x r_move <| x r_move <| x r_move <| x (r_lenA hw rfl) <| x (r_eql rfl rfl) <| x r_assign <| x r_assign <| xe ?_
  exact W_ret ⟨[_, _], ⟨rfl, rfl, trivial⟩, rfl, hs1.trans hs2⟩
def gens (a : Aut) (u : List Int) : Bool := if ckA a ≠ 0 then false else (rchd a u).2
theorem Generates_ok {L L' : List Nat} {w : World} {va vm ve vw : Value} {a : Aut} {u : List Int} (h : AutA L w.heap va vm ve a) (hw : Ints L' w.heap vw u) :
    Ret Tryz.prog 23 [.agg #[va, .int .i64 a.st, vm, ve], vw] w fun r w' => r = .tuple #[.bool (gens a u), .int .i64 (ckA a)] ∧ Step [] w w' := by
  refine Ret.of_W Tryz.func23 rfl Tryz.ntmps23 Tryz.results23 (by simp) ?_
  refine W_seq <| W_region (by rfl) ?_
  refine xl rfl <| o_box (us := [va, .int .i64 a.st, vm, ve]) rfl fun b2 w1 hs1 hb2 hB2 => x r_assign <| x r_assign <| xe ?_
  refine W_seq <| W_seq <| W_region (by rfl) ?_
  refine x (r_loadsB hB2 rfl rfl) <| xl rfl <| xf <| (check_ok (h.ext hs1)).mono ?_
  rintro r2 w2 ⟨rfl, hs2⟩
  refine x r_assign <| xe ?_
  refine W_seq <| W_region (by rfl) ?_
  refine x r_move <| x (r_neq rfl rfl) <| xe ?_
  unfold gens
  refine W_if rfl (fun h12 => ?_) (fun h12 => ?_)
  · refine W_seq <| W_region (by rfl) ?_
    refine x r_move <| x r_assign <| x r_assign <| xe ?_
    exact W_ret ⟨[_, _], ⟨rfl, rfl, trivial⟩, by rw [if_pos h12]; rfl, hs1.trans hs2⟩
  have hc : ckA a = 0 := Decidable.not_not.1 h12
  rw [if_neg h12, hc]
  have hs12 := hs1.trans hs2
  refine W_skip ?_
  refine W_seq <| W_region (by rfl) ?_
  refine x (r_loadsB (hB2.ext hs2) rfl rfl) <| x r_move <| xl rfl <| xf <| (reached_ok (h.ed.ext hs12) (hw.ext hs12) ((ckA_zero a).1 hc)).mono ?_
  rintro r3 w3 ⟨rfl, hs3⟩
  refine x r_move <| x (r_extract rfl rfl) <|
    x (r_extract rfl rfl) <| x r_assign <| x r_assign <| xe ?_
  refine W_seq <| W_region (by rfl) ?_
  refine x r_move <| x r_assign <| x r_assign <| xe ?_
  exact W_ret ⟨[_, _], ⟨rfl, rfl, trivial⟩, rfl, hs12.trans hs3⟩
def accs (a : Aut) (u : List Int) : Bool := if ckA a ≠ 0 then false else (rchd a u).2 && decide ((rchd a u).1 ∈ a.mr)
end Go.Proofs.YtfhgnlkdcdlblaaGreatDoor
/- Contracts: automaton.checkState, Run, Enabled; product.checkTuple, checkEvent, Step. -/
namespace Go.Proofs.YtfhgnlkdcdlblaaGreatDoor
open Go.Lg

def cks (a : Aut) (s : Int) : Int := if ckA a ≠ 0 then ckA a else if s < 0 ∨ a.st ≤ s then 2 else 0
theorem checkState_ok {L : List Nat} {w : World} {va vm ve : Value} {a : Aut} (h : AutA L w.heap va vm ve a) (s : Int) :
    Ret Tryz.prog 75 [.agg #[va, .int .i64 a.st, vm, ve], .int .i64 s] w fun r w' => r = .int .i64 (cks a s) ∧ Step [] w w' := by
  refine Ret.of_W Tryz.func75 rfl Tryz.ntmps75 Tryz.results75 (by simp) ?_
  refine W_seq <| W_region (by rfl) ?_
  refine xl rfl <| o_box (us := [va, .int .i64 a.st, vm, ve]) rfl fun b2 w1 hs1 hb2 hB2 => x r_assign <| xe ?_
  refine W_seq <| W_seq <| W_region (by rfl) ?_
  refine x (r_loadsB hB2 rfl rfl) <| xl rfl <| xf <| (check_ok (h.ext hs1)).mono ?_
  rintro r2 w2 ⟨rfl, hs2⟩
  refine x r_assign <| xe ?_
  unfold cks
  have hs12 := hs1.trans hs2
  refine W_seq <| W_region (by rfl) ?_
  refine x r_move <| x (r_neq rfl rfl) <| xe ?_
  refine W_if rfl (fun h9 => ?_) (fun h9 => ?_)
  · refine W_seq <| W_region (by rfl) ?_
    refine x r_move <| x r_assign <| xe ?_
    exact W_ret ⟨[_], ⟨rfl, trivial⟩, by rw [if_pos h9]; rfl, hs12⟩
  rw [if_neg h9]
  refine W_skip ?_
  refine W_seq <| W_cut (α := Unit) [(11, 18)] (fun z => [(18, .bool (decide (s < 0 ∨ a.st ≤ s)))]) (fun z w' => w' = w2) (by rfl) ?_ ?_
  · refine W_region (by rfl) ?_
    refine x r_move <| xb (r_lss rfl rfl) (fun h12 => ?_) (fun h12 => ?_)
    · refine x r_move <| xs rfl <| xs rfl <| xs rfl <| xs rfl <| x (r_pick rfl) <| xe ?_
      exact ⟨(), ⟨by rw [decide_eq_true (Or.inl h12)]; rfl, trivial⟩, rfl⟩
    refine x r_move <| x r_move <| x (r_fieldB rfl) <| x (r_loadB (hB2.ext hs2) rfl rfl) <| x (r_geq rfl rfl) <| x (r_pick rfl) <| xe ?_
    exact ⟨(), ⟨by show Value.bool (decide (a.st ≤ s)) = _; simp [h12], trivial⟩, rfl⟩
  rintro z g w3 rfl
  refine W_if rfl (fun h18 => ?_) (fun h18 => ?_)
  · refine W_seq <| W_region (by rfl) ?_
    refine x r_assign <| xe ?_
    exact W_ret ⟨[_], ⟨rfl, trivial⟩, by rw [if_pos h18]; rfl, hs12⟩
  refine W_skip ?_
  refine W_seq <| W_region (by rfl) ?_
  refine x r_assign <| xe ?_
  exact W_ret ⟨[_], ⟨rfl, trivial⟩, by rw [if_neg h18]; rfl, hs12⟩
theorem cks_zero {a : Aut} {s : Int} (h : cks a s = 0) : Okay a ∧ 0 ≤ s ∧ s < a.st := by
  unfold cks at h
  split at h
  · rename_i h1; exact absurd h h1
  · rename_i h1
    split at h
    · cases h
    · rename_i h2; exact ⟨(ckA_zero a).1 (Decidable.not_not.1 h1), by omega, by omega⟩
theorem cks_ok {a : Aut} (ho : Okay a) {s : Int} (h0 : 0 ≤ s) (h1 : s < a.st) : cks a s = 0 := by
  unfold cks
  rw [if_neg (by simpa using (ckA_zero a).2 ho), if_neg (by omega)]

theorem run1_ok {L : List Nat} {b T : Nat} {va : Value} {al : List Int} {us : List Value} (e : Int) (w : World) (hB : Blk w.heap b T (va :: us)) (hA : Ints L w.heap va al) :
    Ret Tryz.prog 77 ([.int .i64 e] ++ [.pointer (some ⟨b, 0, none⟩)]) w fun r w' => r = .bool (decide (e ∉ al)) ∧ Step [] w w' := by
  refine Ret.of_W Tryz.func77 rfl Tryz.ntmps77 Tryz.results77 (by simp) ?_
  refine W_seq <| W_region (by rfl) ?_
  refine x r_assign <| xe ?_
  refine W_seq <| W_region (by rfl) ?_
  refine x (r_fieldB rfl) <| x (r_loadB hB rfl rfl) <| x r_move <| xl rfl <| xf <| (contains_ok hA e).mono ?_
  rintro r1 w1 ⟨rfl, rfl⟩
  refine x (r_not rfl) <| x r_assign <| xe ?_
  refine W_ret ⟨[_], ⟨rfl, trivial⟩, ?_, Step.refl _ _⟩
  show Value.bool (!decide (e ∈ al)) = _
  rw [decide_not]
def runE (a : Aut) (s : Int) (u : List Int) : Int := if cks a s ≠ 0 then cks a s else if (u.any fun e => decide (e ∉ a.al)) = true then 9 else 0
theorem Run_ok {L L' : List Nat} {w : World} {va vm ve vw : Value} {a : Aut} {u : List Int} (h : AutA L w.heap va vm ve a) (hw : Ints L' w.heap vw u) (s : Int) :
    Ret Tryz.prog 55 [.agg #[va, .int .i64 a.st, vm, ve], .int .i64 s, vw] w fun r w' => Step [] w w' ∧ r = if runE a s u ≠ 0 then .tuple #[.int .i64 0, .int .i64 0, .int .i64 (runE a s u)] else .tuple #[.int .i64 (flw a s u).1, .int .i64 (flw a s u).2, .int .i64 0] := by
  refine Ret.of_W Tryz.func55 rfl Tryz.ntmps55 Tryz.results55 (by simp) ?_
  refine W_seq <| W_region (by rfl) ?_
  refine xl rfl <| o_box (us := [va, .int .i64 a.st, vm, ve]) rfl fun b3 w1 hs1 hb3 hB3 => x r_assign <| x r_assign <| x r_assign <| xe ?_
  refine W_seq <| W_seq <| W_region (by rfl) ?_
  refine x (r_loadsB hB3 rfl rfl) <| x r_move <| xl rfl <| xf <| (checkState_ok (h.ext hs1) s).mono ?_
  rintro r2 w2 ⟨rfl, hs2⟩
  refine x r_assign <| xe ?_
  have hs12 := hs1.trans hs2
  unfold runE
  refine W_seq <| W_region (by rfl) ?_
  refine x r_move <| x (r_neq rfl rfl) <| xe ?_
  refine W_if rfl (fun h13 => ?_) (fun h13 => ?_)
  · refine W_seq <| W_region (by rfl) ?_
    refine x r_move <| x r_assign <| x r_assign <| x r_assign <| xe ?_
    exact W_ret ⟨[_, _, _], ⟨rfl, rfl, rfl, trivial⟩, hs12, by rw [if_pos h13, if_pos h13]; rfl⟩
  have hc : cks a s = 0 := Decidable.not_not.1 h13
  obtain ⟨ho, h0, h1⟩ := cks_zero hc
  rw [if_neg h13]
  refine W_skip ?_
  refine W_seq <| W_seq <| W_region (by rfl) ?_
  refine x r_move <| x (r_makeFunc (l := []) (l' := [.tmp 3])) <| xl rfl <| xf <| (cnfI_ok (q := fun e => decide (e ∉ a.al)) (cap := [.pointer (some ⟨b3, 0, none⟩)]) (hw.ext hs12) (fun e w4 hs4 => run1_ok e w4 ((hB3.ext hs2).ext hs4) ((h.al.ext hs12).ext hs4))).mono ?_
  rintro r3 w3 ⟨rfl, hs3⟩
  refine xe ?_
  have hs13 := hs12.trans hs3
  refine W_cond rfl (fun h17 => ?_) (fun h17 => ?_)
  · rw [if_pos h17]
    refine W_seq <| W_region (by rfl) ?_
    refine x r_assign <| x r_assign <| x r_assign <| xe ?_
    exact W_ret ⟨[_, _, _], ⟨rfl, rfl, rfl, trivial⟩, hs13, by rw [if_pos (by decide)]; rfl⟩
  rw [if_neg (by rw [h17]; simp)]
  refine W_skip ?_
  refine W_seq <| W_region (by rfl) ?_
  refine x (r_loadsB ((hB3.ext hs2).ext hs3) rfl rfl) <| x r_move <| x r_move <| xl rfl <| xf <| (follow_ok (h.ed.ext hs13) (hw.ext hs13) ho s h0 h1).mono ?_
  rintro r4 w4 ⟨rfl, hs4⟩
  refine x r_move <| x (r_extract rfl rfl) <|
    x (r_extract rfl rfl) <| x r_assign <| x r_assign <| xe ?_
  refine W_seq <| W_region (by rfl) ?_
  refine x r_move <| x r_move <| x r_assign <| x r_assign <| x r_assign <| xe ?_
  exact W_ret ⟨[_, _, _], ⟨rfl, rfl, rfl, trivial⟩, hs13.trans hs4, rfl⟩

/-! ### Enabled -/
def enb (a : Aut) (s : Int) : List Int := (outE a.ed s).map (·.2.1)
theorem enb_take {l : List Ed} {k : Nat} (h : k < l.length) : (l.take (k + 1)).map (·.2.1) = (l.take k).map (·.2.1) ++ [(l[k]'h).2.1] := by
  rw [List.take_add_one, List.getElem?_eq_getElem h, List.map_append]; rfl
theorem Enabled_ok {L : List Nat} {w : World} {va vm ve : Value} {a : Aut} (h : AutA L w.heap va vm ve a) (s : Int) :
    Ret Tryz.prog 56 [.agg #[va, .int .i64 a.st, vm, ve], .int .i64 s] w fun r w' => Step [] w w' ∧ ∃ v, r = .tuple #[v, .int .i64 (cks a s)] ∧ (cks a s ≠ 0 → v = nilS) ∧ (cks a s = 0 → IntsO 3 w.heap.size w' v (enb a s)) := by
  refine Ret.of_W Tryz.func56 rfl Tryz.ntmps56 Tryz.results56 (by simp) ?_
  refine W_seq <| W_region (by rfl) ?_
  refine xl rfl <| o_box (us := [va, .int .i64 a.st, vm, ve]) rfl fun b2 w1 hs1 hb2 hB2 => x r_assign <| x r_assign <| xe ?_
  refine W_seq <| W_seq <| W_region (by rfl) ?_
  refine x (r_loadsB hB2 rfl rfl) <| x r_move <| xl rfl <| xf <| (checkState_ok (h.ext hs1) s).mono ?_
  rintro r2 w2 ⟨rfl, hs2⟩
  refine x r_assign <| xe ?_
  have hs12 := hs1.trans hs2
  refine W_seq <| W_region (by rfl) ?_
  refine x r_move <| x (r_neq rfl rfl) <| xe ?_
  refine W_if rfl (fun h14 => ?_) (fun h14 => ?_)
  · refine W_seq <| W_region (by rfl) ?_
    refine x r_move <| x r_assign <| x r_assign <| xe ?_
    exact W_ret ⟨[nilS, _], ⟨rfl, rfl, trivial⟩, hs12, nilS, rfl, fun _ => rfl, fun e => absurd e h14⟩
  have hc : cks a s = 0 := Decidable.not_not.1 h14
  obtain ⟨ho, h0, h1⟩ := cks_zero hc
  have hst := ho.st1
  rw [hc]
  refine W_skip ?_
  refine W_seq <| W_region (by rfl) ?_
  refine x r_assign <| xe ?_
  refine W_seq <| W_seq <| W_region (by rfl) ?_
  refine x (r_loadsB (hB2.ext hs2) rfl rfl) <| x r_move <| xl rfl <| xf <| (out_ok (h.ed.ext hs12) ho.eds (fun e he => ⟨(ho.ed e he).1, by have := (ho.ed e he).2.1; omega⟩) s h0 (by omega)).mono ?_
  rintro vo w3 ⟨hs3, hE⟩
  refine x (r_lenA hE rfl) <| x r_move <| xe ?_
  have hW3 := hs12.trans hs3
  have hz3 := hW3.size
  have hlen := outE_len a.ed s
  have hel := ho.ed_le
  refine exE (outE a.ed s) fun os hos => ?_
  rw [hos] at hE hlen
  refine W_block <| W_loop (α := Nat × Value) [(7, 7), (9, 9), (20, 29)] (fun z => [(7, z.2), (20, .int .i64 z.1)]) (fun z w' => z.1 ≤ os.length ∧ Step [] w3 w' ∧ IntsO 3 w3.heap.size w' z.2 ((os.take z.1).map (·.2.1))) (fun z => os.length - z.1) (by rfl) (0, .slice none 0 0) ⟨rfl, by rw [hos]; rfl, trivial⟩ ⟨Nat.zero_le _, Step.refl _ _, own_nil _ _ _ _⟩ ?_
  rintro ⟨k, v⟩ g w4 ⟨hk, hs4, ho4⟩
  simp only [] at hk ho4
  have hz4 := hs4.size
  refine W_seq <| W_region (by rfl) ?_
  refine x (r_lss rfl rfl) <| xe ?_
  refine W_seq <| W_ifn rfl (fun h21 => ?_) (fun h21 => ?_)
  · refine W_exit ?_
    refine W_seq <| W_region (by rfl) ?_
    refine x r_move <| x r_assign <| x r_assign <| xe ?_
    rw [List.take_of_length_le (by rw [hos] at h21; omega)] at ho4
    refine W_ret ⟨[v, _], ⟨rfl, rfl, trivial⟩, hW3.trans hs4, v, rfl, fun e => absurd rfl e, fun _ => ?_⟩
    unfold enb
    rw [hos]; exact own_base ho4 hz3
  have hlt : k < os.length := by rw [hos] at h21; omega
  refine W_skip ?_
  refine W_seq <| W_block <| W_seq <| W_region (by rfl) ?_
  refine xie (hE.ext hs4) rfl rfl hlt fun a22 h22 => x (r_loadsA h22 rfl rfl) <| xl rfl <| o_alloc (us := [.int .i64 0, .int .i64 0, .int .i64 0]) rfl fun b9 w5 hs5 hb9 hB9 => xl rfl <| o_stores (us := edCells (os[k]'hlt)) hB9 rfl rfl rfl rfl ⟨rfl, rfl, rfl, trivial⟩ fun w6 hs6 hB96 =>
    xe ?_
  have hs46 : Step [] w4 w6 := hs5.then1 hs6 hb9
  have ho6 := own_ext ho4 hs46
  refine W_region (by rfl) ?_
  refine x r_move <| x (r_fieldB rfl) <| x (r_loadB hB96 rfl rfl) <| xl rfl <| o_lits (us := [[.int .i64 (os[k]'hlt).2.1]]) rfl rfl (by decide) (by simp) ⟨rfl, rfl, trivial⟩ fun b27 w7 hs7 hb27 hB27 => ?_
  have ho7 := own_ext ho6 hs7
  have hz7 := (hs46.trans hs7).size
  have htl : ((os.take k).map (·.2.1)).length ≤ 131072 := by simp; omega
  refine xl rfl <| o_app (news := [.int .i64 (os[k]'hlt).2.1]) (L := []) ho7 rfl rfl rfl (hB27.at (by simp)) (by simp [Value.oneCell']) (by omega) (by omega) fun v8 w8 ho8 hs8 hn8 => x r_assign <| xe ?_
  have hge := own_ge ho4
  refine W_region (by rfl) ?_
  refine x (r_add rfl rfl ⟨by omega, by omega⟩) <| x r_move <| xe ?_
  refine ⟨(k + 1, v8), by simp only []; omega, ⟨rfl, rfl, trivial⟩, hlt, ((hs4.trans hs46).trans hs7).then hs8 (fun b hb => .inr (hge b hb).1), ?_⟩
  simp only []
  rw [enb_take hlt]
  exact IntsO.snoc ho8

/-! ### product.checkTuple, checkEvent, Step -/
def ckTL : List Aut → List Int → Int
  | a :: l, t :: ts => if t < 0 ∨ a.st ≤ t then 2 else ckTL l ts
  | _, _ => 0
def ckT (l : List Aut) (t : List Int) : Int := if ckP l ≠ 0 then ckP l else if t.length ≠ l.length then 4 else ckTL l t
theorem ckP_zero {l : List Aut} (h : ckP l = 0) : l.length ≤ 12 ∧ ∀ a ∈ l, Okay a := by
  unfold ckP at h
  split at h
  · cases h
  · rename_i h1; exact ⟨by omega, (ckL_zero l).1 h⟩
theorem ckTL_zero : ∀ {l : List Aut} {t : List Int}, t.length = l.length → (ckTL l t = 0 ↔ Vt l t)
  | [], t, hl => by
    have : t = [] := List.eq_nil_of_length_eq_zero hl
    subst this
    exact ⟨fun _ => ⟨rfl, fun i h => by simp at h⟩, fun _ => rfl⟩
  | a :: l, [], hl => by simp at hl
  | a :: l, t :: ts, hl => by
    rw [ckTL]
    have ih := ckTL_zero (l := l) (t := ts) (by simpa using hl)
    constructor
    · intro h
      split at h
      · cases h
      · rename_i h1
        exact Vt.cons (by omega) (by omega) (ih.1 h)
    · intro h
      have h0 := h.2 0 (by simp) (by simp)
      simp only [List.getElem_cons_zero] at h0
      rw [if_neg (by omega), ih]
      exact ⟨by simpa using hl, fun i h2 h3 => h.2 (i + 1) (by simpa using h2) (by simpa using h3)⟩
theorem ckT_zero {l : List Aut} {t : List Int} (h : ckT l t = 0) : l.length ≤ 12 ∧ (∀ a ∈ l, Okay a) ∧ Vt l t := by
  unfold ckT at h
  split at h
  · rename_i h1; exact absurd h h1
  · rename_i h1
    split at h
    · cases h
    · rename_i h2
      obtain ⟨h3, h4⟩ := ckP_zero (Decidable.not_not.1 h1)
      exact ⟨h3, h4, (ckTL_zero (by omega)).1 h⟩
theorem ckT_ok {l : List Aut} {t : List Int} (hn : l.length ≤ 12) (ho : ∀ a ∈ l, Okay a) (hv : Vt l t) : ckT l t = 0 := by
  have h1 : ckP l = 0 := by unfold ckP; rw [if_neg (by omega)]; exact (ckL_zero l).2 ho
  unfold ckT
  rw [if_neg (by simp [h1]), if_neg (by simp [hv.1])]
  exact (ckTL_zero hv.1).2 hv
def ckV (l : List Aut) (t : List Int) (v : Int) : Int := if ckT l t ≠ 0 then ckT l t else if v ∉ evs l then 9 else 0
end Go.Proofs.YtfhgnlkdcdlblaaGreatDoor
/- SupervisorAfter, plain law: what the closed loop does after a word. -/
namespace Go.Proofs.YtfhgnlkdcdlblaaGreatDoor
open Go.Lg

/-- The tuples along a word. -/
def goT (aa : List Aut) : List Int → List Int → Option (List Int)
  | t, [] => some t
  | t, v :: u => if v ∉ evs aa then none else match stepT v aa t with | none => none | some t' => goT aa t' u
theorem go_flw {aa : List Aut} {A : Aut} {Q : List (List Int)} (h : SyP aa A Q) : ∀ (u : List Int) (j : Nat), j < Q.length →
    (∃ j' : Nat, j' < Q.length ∧ flw A j u = ((j' : Int), u.length) ∧ goT aa (Q.getD j []) u = some (Q.getD j' [])) ∨ ((flw A j u).2 < u.length ∧ goT aa (Q.getD j []) u = none)
  | [], j, hj => .inl ⟨j, hj, rfl, rfl⟩
  | v :: u, j, hj => by
    have hs := h.step hj v
    by_cases hv : v ∈ evs aa
    · rw [if_pos hv] at hs
      cases ht : stepT v aa (Q.getD j []) with
      | none =>
        rw [ht] at hs
        have hn : nxt A.ed j v = -1 := by rw [nxt_eget, hs]; rfl
        right
        rw [flw, if_pos (by rw [hn]; decide), goT, if_neg (fun e => e hv), ht]
        exact ⟨by simp, rfl⟩
      | some t' =>
        obtain ⟨h1, h2⟩ := h.to hj hv ht
        rw [ht] at hs
        have hn : nxt A.ed j v = (Q.idxOf t' : Int) := by rw [nxt_eget, hs]; rfl
        rw [flw, hn, if_neg (by omega), goT, if_neg (fun e => e hv), ht]
        rcases go_flw h u (Q.idxOf t') h1 with ⟨j', k1, k2, k3⟩ | ⟨k1, k2⟩
        · left
          refine ⟨j', k1, ?_, ?_⟩
          · rw [k2]; simp
          · rw [h2] at k3; exact k3
        · right
          rw [h2] at k2
          exact ⟨by simp; omega, k2⟩
    · rw [if_neg hv] at hs
      have hn : nxt A.ed j v = -1 := by rw [nxt_eget, hs]
      right
      rw [flw, if_pos (by rw [hn]; decide), goT, if_pos hv]
      exact ⟨by simp, rfl⟩
theorem enb_syP {aa : List Aut} {A : Aut} {Q : List (List Int)} (h : SyP aa A Q) {j : Nat} (hj : j < Q.length) : enb A j = (evs aa).filter fun v => (stepT v aa (Q.getD j [])).isSome := by
  unfold enb
  rw [h.ed, outE_grid (syF_ok aa Q), if_pos hj]
  generalize evs aa = vs
  induction vs with
  | nil => rfl
  | cons v vs ih =>
    rw [List.filterMap_cons, List.filter_cons]
    cases hs : stepT v aa (Q.getD j []) with
    | none => rw [syF_none hs]; exact ih
    | some u =>
      rw [syF_some hs]
      simp only [List.map_cons, Option.isSome_some, if_true]
      rw [ih]
theorem enb_mem {a : Aut} (ho : Okay a) (x v : Int) : v ∈ enb a x ↔ 0 ≤ nxt a.ed x v := by
  unfold enb
  rw [nxt_nonneg ho]
  constructor
  · intro h
    obtain ⟨e, he, rfl⟩ := List.mem_map.1 h
    obtain ⟨h1, h2⟩ := outE_mem he
    cases hg : eget a.ed x e.2.1 with
    | some _ => rfl
    | none =>
      exfalso
      have key : ∀ (l : List Ed), e ∈ l → eget l x e.2.1 = none → False := by
        intro l
        induction l with
        | nil => intro h; cases h
        | cons d l ih =>
          intro hm hg
          rw [eget] at hg
          split at hg
          · cases hg
          · rename_i hne
            rcases List.mem_cons.1 hm with rfl | hm
            · exact hne ⟨h2, rfl⟩
            · exact ih hm hg
      exact key a.ed h1 hg
  · intro h
    obtain ⟨u, hu⟩ := Option.isSome_iff_exists.1 h
    have := eget_mem hu
    refine List.mem_map.2 ⟨(x, v, u), ?_, rfl⟩
    unfold outE
    exact List.mem_filter.2 ⟨this, by simp⟩
theorem enb_inc {a : Aut} (ho : Okay a) (x : Int) : Inc (enb a x) := by
  unfold enb Inc
  rw [List.pairwise_map]
  have h1 : (outE a.ed x).Pairwise fun x y : Ed => x.1 < y.1 ∨ (x.1 = y.1 ∧ x.2.1 < y.2.1) := List.Pairwise.sublist List.filter_sublist ho.edi
  refine List.Pairwise.imp_of_mem (fun {a b} ha hb hab => ?_) h1
  have h2 := (outE_mem ha).2
  have h3 := (outE_mem hb).2
  omega
theorem enb_filter {a : Aut} (ho : Okay a) (x : Int) : enb a x = a.al.filter fun v => decide (0 ≤ nxt a.ed x v) := by
  refine Inc.ext (enb_inc ho x) (List.Pairwise.sublist List.filter_sublist ho.ali) fun v => ?_
  rw [enb_mem ho, List.mem_filter]
  constructor
  · intro h; exact ⟨(ho.ed _ (nxt_mem h)).2.2.1, by simpa using h⟩
  · intro h; simpa using h.2
theorem evs_two {p s : Aut} (hp : Okay p) (hs : Okay s) (hsub : ∀ x ∈ s.al, x ∈ p.al) : evs [p, s] = p.al := by
  have ho : ∀ a ∈ [p, s], Okay a := fun a ha => by
    simp only [List.mem_cons, List.not_mem_nil, or_false] at ha
    rcases ha with rfl | rfl
    · exact hp
    · exact hs
  refine Inc.ext (evs_inc ho) hp.ali fun x => ?_
  rw [evs_mem ho]
  simp only [List.mem_cons, List.not_mem_nil, or_false, exists_eq_or_imp, exists_eq_left]
  exact ⟨fun h => h.elim id (hsub x), .inl⟩
/-- The law's lists. -/
def yesP (p s : Aut) (x y : Int) (v : Int) : Bool := decide (0 ≤ nxt p.ed x v) && !(decide (v ∈ s.al) && decide (nxt s.ed y v < 0))
def noP (p s : Aut) (x y : Int) (v : Int) : Bool := decide (0 ≤ nxt p.ed x v) && (decide (v ∈ s.al) && decide (nxt s.ed y v < 0))
theorem step_yes {p s : Aut} (hp : Okay p) (hs : Okay s) (x y : Int) {v : Int} (hv : v ∈ p.al) : (stepT v [p, s] [x, y]).isSome = yesP p s x y v := by
  have h1 := nxt_nonneg hp x v
  have h2 := nxt_nonneg hs y v
  unfold yesP
  rw [stepT, if_neg (fun e => e hv)]
  cases hx : eget p.ed x v with
  | none =>
    rw [hx] at h1
    have : ¬ 0 ≤ nxt p.ed x v := fun h => by have := h1.1 h; cases this
    simp [this]
  | some u =>
    rw [hx] at h1
    have h3 : 0 ≤ nxt p.ed x v := h1.2 rfl
    simp only [Option.isSome_map, decide_eq_true h3, Bool.true_and]
    rw [stepT]
    by_cases hvs : v ∈ s.al
    · rw [if_neg (fun e => e hvs)]
      cases hy : eget s.ed y v with
      | none =>
        rw [hy] at h2
        have : ¬ 0 ≤ nxt s.ed y v := fun h => by have := h2.1 h; cases this
        simp [hvs]; omega
      | some t =>
        rw [hy] at h2
        have : 0 ≤ nxt s.ed y v := h2.2 rfl
        simp [hvs, stepT]; omega
    · rw [if_pos hvs]; simp [hvs, stepT]
theorem after_on {p s : Aut} (hp : Okay p) (hs : Okay s) (hsub : ∀ x ∈ s.al, x ∈ p.al) {A : Aut} {Q : List (List Int)} (h : SyP [p, s] A Q) {j : Nat} (hj : j < Q.length) {x y : Int} (hq : Q.getD j [] = [x, y]) : enb A j = p.al.filter (yesP p s x y) := by
  rw [enb_syP h hj, evs_two hp hs hsub, hq]
  exact List.filter_congr fun v hv => step_yes hp hs x y hv
theorem after_off {p s : Aut} (hp : Okay p) (x y : Int) : mrg (fun p q => p && !q) (enb p x) (p.al.filter (yesP p s x y)) = p.al.filter (noP p s x y) := by
  have i1 := enb_inc hp x
  have i2 : Inc (p.al.filter (yesP p s x y)) := List.Pairwise.sublist List.filter_sublist hp.ali
  refine Inc.ext (mrg_inc _ _ _ _ (Nat.le_refl _) i1 i2) (List.Pairwise.sublist List.filter_sublist hp.ali) fun v => ?_
  rw [mem_mrg i1 i2]
  simp only [Bool.and_eq_true, decide_eq_true_eq, Bool.not_eq_true', decide_eq_false_iff_not]
  rw [enb_filter hp]
  simp only [List.mem_filter]
  unfold yesP noP
  simp only [Bool.and_eq_true, decide_eq_true_eq, Bool.not_eq_true', Bool.and_eq_false_iff, decide_eq_false_iff_not]
  constructor
  · rintro ⟨_, ⟨h1, h2⟩, h3⟩
    refine ⟨h1, h2, ?_⟩
    by_cases h4 : v ∈ s.al
    · by_cases h5 : nxt s.ed y v < 0
      · exact ⟨h4, h5⟩
      · exact absurd ⟨h1, h2, .inr h5⟩ h3
    · exact absurd ⟨h1, h2, .inl h4⟩ h3
  · rintro ⟨h1, h2, h3, h4⟩
    exact ⟨.inl ⟨h1, h2⟩, ⟨h1, h2⟩, fun h => h.2.2.elim (fun e => e h3) (fun e => e h4)⟩
/-! ### What After returns -/
def afE (p s : Aut) (u : List Int) : Int := if opE p s ≠ 0 then opE p s else if gens (opA p s) u = false then 10 else 0
def afAt (p s : Aut) (u : List Int) : Int := (flw (opA p s) 0 u).1
def afOn (p s : Aut) (u : List Int) : List Int := enb (opA p s) (afAt p s u)
def afOff (p s : Aut) (u : List Int) : List Int := mrg (fun p q => p && !q) (enb p (px ((opQ p s).getD (afAt p s u).toNat []))) (afOn p s u)
theorem opE_syP {p s : Aut} (h : opE p s = 0) : SyP [p, s] (opA p s) (opQ p s) ∧ Okay (opA p s) ∧ ((opQ p s).length = 0 ↔ p.st = 0 ∨ s.st = 0) := by
  obtain ⟨h1, h2, h3, _⟩ := opE_zero h
  have ho : ∀ a ∈ [p, s], Okay a := fun a ha => by
    simp only [List.mem_cons, List.not_mem_nil, or_false] at ha
    rcases ha with rfl | rfl
    · exact h1
    · exact h2
  obtain ⟨k1, k2⟩ := sync_spec ho h3
  exact ⟨k1, k1.okay ho, by rw [k2]; simp⟩
/-- The state after a word that is generated. -/
theorem gens_at {A : Aut} (ho : Okay A) {aa : List Aut} {Q : List (List Int)} (h : SyP aa A Q) {u : List Int} (hg : gens A u = true) : ∃ j : Nat, j < Q.length ∧ flw A 0 u = ((j : Int), u.length) ∧ goT aa (Q.getD 0 []) u = some (Q.getD j []) := by
  unfold gens at hg
  rw [if_neg (by simpa using (ckA_zero A).2 ho)] at hg
  unfold rchd at hg
  split at hg
  · cases hg
  · rename_i hz
    have hst := h.st
    have h0 : 0 < Q.length := by omega
    rcases go_flw h u 0 h0 with ⟨j, k1, k2, k3⟩ | ⟨k1, _⟩
    · exact ⟨j, k1, k2, k3⟩
    · simp only [decide_eq_true_eq] at hg
      have : ((0 : Nat) : Int) = 0 := rfl
      rw [this] at k1
      omega
theorem gens_not {A : Aut} (ho : Okay A) {aa : List Aut} {Q : List (List Int)} (h : SyP aa A Q) {u : List Int} (hg : gens A u = false) : Q.length = 0 ∨ goT aa (Q.getD 0 []) u = none := by
  unfold gens at hg
  rw [if_neg (by simpa using (ckA_zero A).2 ho)] at hg
  unfold rchd at hg
  have hst := h.st
  by_cases h0 : Q.length = 0
  · exact .inl h0
  · right
    rw [if_neg (by omega)] at hg
    rcases go_flw h u 0 (by omega) with ⟨j, k1, k2, k3⟩ | ⟨_, k2⟩
    · have : ((0 : Nat) : Int) = 0 := rfl
      rw [this] at k2
      rw [k2] at hg
      simp at hg
    · exact k2
theorem flw_al {a : Aut} (ho : Okay a) : ∀ (u : List Int) (s : Int), (flw a s u).2 = u.length → ∀ e ∈ u, e ∈ a.al
  | [], _, _, e, he => by cases he
  | v :: u, s, h, e, he => by
    rw [flw] at h
    split at h
    · simp at h
    · rename_i hn
      rcases List.mem_cons.1 he with rfl | he
      · exact (ho.ed _ (nxt_mem (show 0 ≤ nxt a.ed s e by omega))).2.2.1
      · exact flw_al ho u _ (by simpa using h) e he
theorem runE_gens {a : Aut} (ho : Okay a) {u : List Int} {j : Nat} (hj : (j : Int) < a.st) (h : flw a 0 u = ((j : Int), u.length)) : runE a 0 u = 0 := by
  unfold runE
  rw [cks_ok ho (Int.le_refl 0) (by omega), if_neg (by simp), if_neg]
  rw [Bool.not_eq_true, List.any_eq_false]
  intro e he
  have := flw_al ho u 0 (by rw [h]) e he
  simp [this]
end Go.Proofs.YtfhgnlkdcdlblaaGreatDoor
/- More rules: comparing bools and pairs; a drawn region whose open orders are told by a tree with forks of two or three. -/
namespace Go.Lg
section
variable {P : Program} {f : Fr} {w : World} {d : Option Nat} {ty : Nat} {ps : String} {af : Array Edge} {gd : Option (Nat × Bool)}
theorem r_neq_bool {t t' : Nat} [h : Bk P t] {x y : Operand} {a b : Bool} (hx : ev f x = .bool a) (hy : ev f y = .bool b) :
    (execOp (ev f) ⟨d, .binOp .neq t x y t', ty, ps, af, gd⟩).run P w = .ok (.value (.bool (!(a == b)))) w := by
  have hg : (eqGuard .neq t x y (.bool a) (.bool b)).run P w = .ok () w := by simp [eqGuard]
  simp [execOp, hx, hy, hg, run_neq_bool (P := P) (w := w) t a b h.u]
/-- An array of two ints. -/
class A2 (P : Program) (t : Nat) : Prop where
  u : ∃ e, P.underlying t = some (.array 2 e) ∧ P.underlying e = some (.int .i64) ∧ (P.info? e).map (·.size) = some 1
  g : P.eqGuardType P.depth t = false
theorem r_neq_pair {t t' : Nat} [h : A2 P t] {x y : Operand} {p q : Int × Int} (hx : ev f x = kPair p) (hy : ev f y = kPair q) :
    (execOp (ev f) ⟨d, .binOp .neq t x y t', ty, ps, af, gd⟩).run P w = .ok (.value (.bool (decide (¬ p = q)))) w := by
  obtain ⟨e, h1, h2, h3⟩ := h.u
  have hg : (eqGuard .neq t x y (kPair p) (kPair q)).run P w = .ok () w := by simp [eqGuard, kPair, h.g]
  have he := run_equal_pair h1 h2 h3 w p q
  simp only [execOp, hx, hy, Sem.run_bind, hg, Result.andThen_ok, binOp, he, Sem.run_pure]
  by_cases e : p = q <;> simp [e]
end
/-! ### Trees with forks of two or three -/
inductive Pu where
  | pl (l : List (Nat × Bool))
  | f2 (pre : List (Nat × Bool)) (i j : Nat) (t1 t2 : Pu)
  | f3 (pre : List (Nat × Bool)) (i j k : Nat) (t1 t2 t3 : Pu)
def Pu.len : Pu → Nat
  | .pl l => l.length
  | .f2 pre _ _ t1 _ => pre.length + (1 + t1.len)
  | .f3 pre _ _ _ t1 _ _ => pre.length + (1 + t1.len)
/-- What comes ahead of a fork may hold calls too, where nothing else is ready. -/
def puGo (all : Array Oper) : Pu → Array Bool → Bool
  | .pl l, ls => planGo all l ls
  | .f2 pre i j t1 t2, ls => quietGo all pre ls && Region.ready .any all (quietLs pre ls) == [i, j] && t1.len == t2.len && puGo all t1 ((quietLs pre ls).setIfInBounds i true) && puGo all t2 ((quietLs pre ls).setIfInBounds j true)
  | .f3 pre i j k t1 t2 t3, ls => quietGo all pre ls && Region.ready .any all (quietLs pre ls) == [i, j, k] && t1.len == t2.len && t1.len == t3.len && puGo all t1 ((quietLs pre ls).setIfInBounds i true) && puGo all t2 ((quietLs pre ls).setIfInBounds j true) && puGo all t3 ((quietLs pre ls).setIfInBounds k true)
def puOk (all : List Oper) (t : Pu) : Bool := Region.noSelect all.toArray && t.len == all.length && puGo all.toArray t (Array.replicate all.length false)
def XE (P : Program) (all : List Oper) (C : World → Prop) (i : Nat) (N : Fr → World → Prop) (f : Fr) (w : World) : Prop := gdF all f (opAt all i) = true ∧ XO P (opAt all i) f w fun f' w' => C w' ∧ N f' w'
def XU (P : Program) (all : List Oper) (C : World → Prop) (K : Fr → World → Prop) : Pu → Fr → World → Prop
  | .pl l => XP P all C K l
  | .f2 pre i j t1 t2 => XP P all C (fun f w => XE P all C i (XU P all C K t1) f w ∧ XE P all C j (XU P all C K t2) f w) pre
  | .f3 pre i j k t1 t2 t3 => XP P all C (fun f w => XE P all C i (XU P all C K t1) f w ∧ XE P all C j (XU P all C K t2) f w ∧ XE P all C k (XU P all C K t3) f w) pre
section
variable {P : Program} {n : Nat} {f : Fr} {w : World} {all : List Oper} {C : World → Prop} {K B : Fr → World → Prop}
theorem XA_of_pu (hs : Region.noSelect all.toArray = true) : ∀ (t : Pu) (ls : Array Bool) (f : Fr) (w : World), ls.size = all.length → C w → puGo all.toArray t ls = true → XU P all C K t f w → XA P all C K t.len ls f w
  | .pl l, ls, f, w, hsz, hC, hp, h => XA_of_plan hs l ls f w hsz (.inl hC) hp h
  | .f2 pre i j t1 t2, ls, f, w, hsz, hC, hp, h => by
    simp only [puGo, Bool.and_eq_true, beq_iff_eq] at hp
    obtain ⟨⟨⟨⟨hq, hr⟩, hl⟩, h1⟩, h2⟩ := hp
    rw [Pu.len]
    refine XA_of_quiet (B := fun f w => XE P all C i (XU P all C K t1) f w ∧ XE P all C j (XU P all C K t2) f w) hs pre ls f w hC hq (fun f hB => ?_) h
    have hsz' : ∀ k, ((quietLs pre ls).setIfInBounds k true).size = all.length := fun k => by simp [quietLs_size, hsz]
    rw [Nat.add_comm 1]
    refine XA_succ (fun h0 => (by rw [h0] at hr; cases hr)) ?_
    rw [hr]
    intro k hk o ho
    simp only [List.mem_cons, List.not_mem_nil, or_false] at hk
    rcases hk with rfl | rfl
    · have := hB.1
      unfold XE at this
      rw [opAt_some ho] at this
      rw [this.1, cond_true]
      exact this.2.mono fun v w' hx => ⟨.inr (.inr hx.1), XA_of_pu hs t1 _ _ _ (hsz' _) hx.1 h1 hx.2⟩
    · have := hB.2
      unfold XE at this
      rw [opAt_some ho] at this
      rw [this.1, cond_true, hl]
      exact this.2.mono fun v w' hx => ⟨.inr (.inr hx.1), XA_of_pu hs t2 _ _ _ (hsz' _) hx.1 h2 hx.2⟩
  | .f3 pre i j k t1 t2 t3, ls, f, w, hsz, hC, hp, h => by
    simp only [puGo, Bool.and_eq_true, beq_iff_eq] at hp
    obtain ⟨⟨⟨⟨⟨⟨hq, hr⟩, hl⟩, hl3⟩, h1⟩, h2⟩, h3⟩ := hp
    rw [Pu.len]
    refine XA_of_quiet (B := fun f w => XE P all C i (XU P all C K t1) f w ∧ XE P all C j (XU P all C K t2) f w ∧ XE P all C k (XU P all C K t3) f w) hs pre ls f w hC hq (fun f hB => ?_) h
    have hsz' : ∀ k, ((quietLs pre ls).setIfInBounds k true).size = all.length := fun k => by simp [quietLs_size, hsz]
    rw [Nat.add_comm 1]
    refine XA_succ (fun h0 => (by rw [h0] at hr; cases hr)) ?_
    rw [hr]
    intro q hk o ho
    simp only [List.mem_cons, List.not_mem_nil, or_false] at hk
    rcases hk with rfl | rfl | rfl
    · have := hB.1
      unfold XE at this
      rw [opAt_some ho] at this
      rw [this.1, cond_true]
      exact this.2.mono fun v w' hx => ⟨.inr (.inr hx.1), XA_of_pu hs t1 _ _ _ (hsz' _) hx.1 h1 hx.2⟩
    · have := hB.2.1
      unfold XE at this
      rw [opAt_some ho] at this
      rw [this.1, cond_true, hl]
      exact this.2.mono fun v w' hx => ⟨.inr (.inr hx.1), XA_of_pu hs t2 _ _ _ (hsz' _) hx.1 h2 hx.2⟩
    · have := hB.2.2
      unfold XE at this
      rw [opAt_some ho] at this
      rw [this.1, cond_true, hl3]
      exact this.2.mono fun v w' hx => ⟨.inr (.inr hx.1), XA_of_pu hs t3 _ _ _ (hsz' _) hx.1 h3 hx.2⟩
theorem W_drawU {Q : Exit → Fr → World → Prop} {id : Nat} (C : World → Prop) (t : Pu) (hm : P.follows .mixedOrders = true) (hn : dstOk n all = true) (hp : puOk all t = true)
    (hC : C { w with drawn := w.drawn + 1 }) (h : XU P all C (fun f w => Q .normal f w) t f { w with drawn := w.drawn + 1 }) : W P n (.region id all.toArray true) Q f w := by
  simp only [puOk, Bool.and_eq_true, beq_iff_eq] at hp
  obtain ⟨⟨hs, hl⟩, hp⟩ := hp
  refine W_draw_any C hm hn ?_
  have h1 := XA_of_pu hs t _ _ _ (by simp) hC hp h
  rw [hl] at h1
  exact h1
/-- The forms in which a tree is walked. -/
theorem uP {l : List (Nat × Bool)} (h : XP P all C K l f w) : XU P all C K (.pl l) f w := h
theorem u2 {pre : List (Nat × Bool)} {i j : Nat} {t1 t2 : Pu} (h : XP P all C (fun f w => XE P all C i (XU P all C K t1) f w ∧ XE P all C j (XU P all C K t2) f w) pre f w) : XU P all C K (.f2 pre i j t1 t2) f w := h
theorem u3 {pre : List (Nat × Bool)} {i j k : Nat} {t1 t2 t3 : Pu} (h : XP P all C (fun f w => XE P all C i (XU P all C K t1) f w ∧ XE P all C j (XU P all C K t2) f w ∧ XE P all C k (XU P all C K t3) f w) pre f w) : XU P all C K (.f3 pre i j k t1 t2 t3) f w := h
theorem ue {i : Nat} {N : Fr → World → Prop} (h : XO P (opAt all i) f w fun f' w' => C w' ∧ N f' w') (hg : gdF all f (opAt all i) = true := by rfl) : XE P all C i N f w := ⟨hg, h⟩
end
attribute [irreducible] XU XE
end Go.Lg
/- What supervisor.Equivalent computes, as plain functions. -/
namespace Go.Proofs.YtfhgnlkdcdlblaaGreatDoor
open Go.Lg

structure En where
  x : Int
  y : Int
  u : List Int
def En.ky (e : En) : Int × Int := (e.x, e.y)
def dfr (a b : Aut) (x y : Int) : Bool := !(decide (x = -1) == decide (y = -1)) || !(decide (x ∈ a.mr) == decide (y ∈ b.mr))
def enN (a b : Aut) (e : En) (v : Int) : En := ⟨nxt a.ed e.x v, nxt b.ed e.y v, e.u ++ [v]⟩
def eqS (a b : Aut) (e : En) (L : List En) (v : Int) : List En := if (enN a b e v).ky ≠ (-1, -1) ∧ (enN a b e v).ky ∉ (L.drop 1).map En.ky then L ++ [enN a b e v] else L
def en0 : En := ⟨-1, -1, []⟩
def eqL (a b : Aut) (al : List Int) : Nat → Nat → List En → Option (List Int)
  | 0, _, _ => none
  | f + 1, i, L => if i < L.length then (if dfr a b (L.getD i en0).x (L.getD i en0).y = true then some (L.getD i en0).u else eqL a b al f (i + 1) (al.foldl (eqS a b (L.getD i en0)) L)) else none
def eqI (a b : Aut) : List En := [⟨if 0 < a.st then 0 else -1, if 0 < b.st then 0 else -1, []⟩]
/-- The word that tells two automata apart; none: there is none. -/
def eqv (a b : Aut) (al : List Int) : Option (List Int) := eqL a b al ((a.st.toNat + 1) * (b.st.toNat + 1) + 1) 0 (eqI a b)
/-- A state, or none. -/
def St1 (a : Aut) (x : Int) : Prop := -1 ≤ x ∧ x < a.st
theorem nxt_st1 {a : Aut} (ho : Okay a) (x v : Int) : St1 a (nxt a.ed x v) := by
  have h0 := ho.st0
  unfold St1
  by_cases h : nxt a.ed x v < 0
  · have : nxt a.ed x v = -1 := by
      rw [nxt_eget] at h ⊢
      cases hg : eget a.ed x v with
      | none => rfl
      | some u =>
        rw [hg] at h
        have := (ho.ed _ (eget_mem hg)).2.2.2.1
        simp only [] at h this
        omega
    omega
  · have := nxt_lt ho h; omega
/-- What holds of the entries. -/
structure EnI (a b : Aut) (L : List En) : Prop where
  ne : 0 < L.length
  st : ∀ e ∈ L, St1 a e.x ∧ St1 b e.y
  nd : ((L.drop 1).map En.ky).Nodup
  wd : ∀ i (h : i < L.length), (L[i]'h).u.length ≤ i
theorem eqS_I {a b : Aut} (ha : Okay a) (hb : Okay b) {L : List En} (h : EnI a b L) {i : Nat} (hi : i < L.length) {e : En} (he : L[i]'hi = e) (v : Int) : EnI a b (eqS a b e L v) ∧ ∃ r, eqS a b e L v = L ++ r := by
  unfold eqS
  split
  · rename_i hc
    refine ⟨⟨by simp, fun d hd => ?_, ?_, fun k hk => ?_⟩, _, rfl⟩
    · rcases List.mem_append.1 hd with hd | hd
      · exact h.st d hd
      · simp only [List.mem_singleton] at hd; subst hd; exact ⟨nxt_st1 ha _ _, nxt_st1 hb _ _⟩
    · rw [List.drop_append_of_le_length (by have := h.ne; omega), List.map_append]
      exact nodup_snoc h.nd hc.2
    · rcases Nat.lt_or_ge k L.length with hlt | hge
      · rw [List.getElem_append_left hlt]; exact h.wd k hlt
      · rw [List.getElem_append_right hge]
        have hk' : k = L.length := by simp at hk; omega
        subst hk'
        have := h.wd i hi
        rw [he] at this
        simp [enN]; omega
  · exact ⟨h, [], by simp⟩
theorem eqS_fold {a b : Aut} (ha : Okay a) (hb : Okay b) : ∀ (vs : List Int) (L : List En) (i : Nat) (hi : i < L.length) (e : En), L[i]'hi = e → EnI a b L → EnI a b (vs.foldl (eqS a b e) L) ∧ ∃ r, vs.foldl (eqS a b e) L = L ++ r
  | [], L, _, _, _, _, h => ⟨h, [], by simp⟩
  | v :: vs, L, i, hi, e, he, h => by
    obtain ⟨h1, r, hr⟩ := eqS_I ha hb h hi he v
    have hi' : i < (eqS a b e L v).length := by rw [hr]; simp; omega
    obtain ⟨h2, r2, hr2⟩ := eqS_fold ha hb vs (eqS a b e L v) i hi' e (by simp only [hr]; rw [List.getElem_append_left hi]; exact he) h1
    exact ⟨h2, r ++ r2, by rw [List.foldl_cons, hr2, hr, List.append_assoc]⟩
/-- There are not too many. -/
theorem EnI.le {a b : Aut} (ha : Okay a) (hb : Okay b) {L : List En} (h : EnI a b L) : L.length ≤ (a.st.toNat + 1) * (b.st.toNat + 1) + 1 := by
  have h0 := ha.st0
  have h1 := hb.st0
  have key : ((L.drop 1).map fun e : En => ((e.x + 1) * ((b.st.toNat + 1 : Nat) : Int) + (e.y + 1) : Int)).Nodup := by
    have hn := h.nd
    unfold List.Nodup at hn ⊢
    rw [List.pairwise_map] at hn ⊢
    refine List.Pairwise.imp_of_mem (fun {p q} hp hq hne e => hne ?_) hn
    have sp := h.st p (List.mem_of_mem_drop hp)
    have sq := h.st q (List.mem_of_mem_drop hq)
    unfold St1 at sp sq
    have hy : p.y = q.y ∧ p.x = q.x := by
      have e2 : ((b.st.toNat + 1 : Nat) : Int) = b.st + 1 := by omega
      rw [e2] at e
      have l1 : 0 ≤ p.y + 1 ∧ p.y + 1 < b.st + 1 := by omega
      have l2 : 0 ≤ q.y + 1 ∧ q.y + 1 < b.st + 1 := by omega
      have m1 : ((p.x + 1) * (b.st + 1) + (p.y + 1)) % (b.st + 1) = p.y + 1 := by rw [Int.mul_comm, Int.mul_add_emod_self_left]; exact Int.emod_eq_of_lt l1.1 l1.2
      have m2 : ((q.x + 1) * (b.st + 1) + (q.y + 1)) % (b.st + 1) = q.y + 1 := by rw [Int.mul_comm, Int.mul_add_emod_self_left]; exact Int.emod_eq_of_lt l2.1 l2.2
      have d1 : ((p.x + 1) * (b.st + 1) + (p.y + 1)) / (b.st + 1) = p.x + 1 := by rw [Int.mul_comm, Int.mul_add_ediv_left _ _ (by omega), Int.ediv_eq_zero_of_lt l1.1 l1.2]; omega
      have d2 : ((q.x + 1) * (b.st + 1) + (q.y + 1)) / (b.st + 1) = q.x + 1 := by rw [Int.mul_comm, Int.mul_add_ediv_left _ _ (by omega), Int.ediv_eq_zero_of_lt l2.1 l2.2]; omega
      rw [e] at m1 d1
      constructor
      · omega
      · omega
    unfold En.ky
    rw [hy.1, hy.2]
  have := pig ((a.st.toNat + 1) * (b.st.toNat + 1)) _ key (fun z hz => by
    obtain ⟨e, he, rfl⟩ := List.mem_map.1 hz
    have se := h.st e (List.mem_of_mem_drop he)
    unfold St1 at se
    have e1 : 0 ≤ e.x + 1 ∧ e.x + 1 ≤ a.st.toNat := by omega
    have e2 : 0 ≤ e.y + 1 ∧ e.y + 1 ≤ b.st.toNat := by omega
    obtain ⟨p, hp⟩ := Int.eq_ofNat_of_zero_le e1.1
    obtain ⟨q, hq⟩ := Int.eq_ofNat_of_zero_le e2.1
    rw [hp, hq]
    have e3 : p ≤ a.st.toNat := by omega
    have e4 : q ≤ b.st.toNat := by omega
    have : p * (b.st.toNat + 1) + q < (a.st.toNat + 1) * (b.st.toNat + 1) := by
      have := Nat.mul_le_mul_right (b.st.toNat + 1) e3
      rw [Nat.add_mul]; omega
    refine ⟨Int.add_nonneg (Int.mul_nonneg (by omega) (by omega)) (by omega), ?_⟩
    exact_mod_cast this)
  simp at this
  omega
theorem eqI_I (a b : Aut) (h0 : 0 ≤ a.st) (h1 : 0 ≤ b.st) : EnI a b (eqI a b) := by
  refine ⟨by simp [eqI], fun e he => ?_, by simp [eqI], fun i hi => ?_⟩
  · simp only [eqI, List.mem_singleton] at he
    subst he
    unfold St1
    simp only []
    constructor
    · split <;> omega
    · split <;> omega
  · simp [eqI]
end Go.Proofs.YtfhgnlkdcdlblaaGreatDoor
/- Contracts: Equivalent's closure, pair.differ. -/
namespace Go.Lg
theorem r_neq_boolV {P : Program} {f : Fr} {w : World} {d : Option Nat} {ty : Nat} {ps : String} {af : Array Edge} {gd : Option (Nat × Bool)} {t t' : Nat} [h : Bk P t] {x y : Operand} {a b c : Bool} (hx : ev f x = .bool a) (hy : ev f y = .bool b) (hc : (!(a == b)) = c) :
    (execOp (ev f) ⟨d, .binOp .neq t x y t', ty, ps, af, gd⟩).run P w = .ok (.value (.bool c)) w := by rw [r_neq_bool hx hy, hc]
section
variable {P : Program} {f : Fr} {w : World} {d : Option Nat} {ty : Nat} {ps : String} {af : Array Edge} {gd : Option (Nat × Bool)} {κ : Type} [DecidableEq κ]
theorem r_lookup1N {t kt et : Nat} {z : Value} [hm : Mp P t kt et z] {enc : κ → Value} [hk : Key P kt enc] {x y : Operand} {b : Nat} {m : List (κ × Value)} {k : κ} (h : MapB enc w.heap b m) (hx : ev f x = .map (some b)) (hy : ev f y = enc k) (hg : mget m k = none) :
    (execOp (ev f) ⟨d, .lookup t x y false, ty, ps, af, gd⟩).run P w = .ok (.value z) w := by
  rw [r_lookup1 h hx hy, hg]
end
end Go.Lg
namespace Go.Proofs.YtfhgnlkdcdlblaaGreatDoor
open Go.Lg
instance : A2 Tryz.prog 104 := ⟨⟨_, Tryz.underlying104, Tryz.underlying3, by kernel_rfl⟩, by kernel_rfl⟩

theorem eto_ok {w : World} {b : Nat} {a : Aut} (h : MapB kPair w.heap b (edMap [] a.ed)) (hs : a.ed.Pairwise fun x y => x.1 < y.1 ∨ (x.1 = y.1 ∧ x.2.1 < y.2.1)) (s v : Int) :
    Ret Tryz.prog 53 [.map (some b), .int .i64 s, .int .i64 v] w fun r w' => r = .int .i64 (nxt a.ed s v) ∧ Step [] w w' := by
  have hg := edMap_get a.ed [] s v hs
  refine Ret.of_W Tryz.func53 rfl Tryz.ntmps53 Tryz.results53 (by simp) ?_
  rw [nxt_eget]
  refine W_seq <| W_region (by rfl) ?_
  refine x r_assign <| xe ?_
  refine W_seq <| W_seq <| W_region (by rfl) ?_
  refine x r_move <| x r_move <| x r_move <| x (r_build ⟨rfl, rfl, trivial⟩) <| ?_
  cases he : eget a.ed s v with
  | none =>
    rw [he] at hg
    refine x (r_lookupN (k := (s, v)) h rfl rfl hg) <| x r_move <| x (r_extract rfl rfl) <| x (r_extract rfl rfl) <|
      x r_assign <| x r_assign <| xe ?_
    refine W_seq <| W_region (by rfl) ?_
    refine x r_move <| xe ?_
    refine W_false rfl ?_
    refine W_skip ?_
    refine W_seq <| W_region (by rfl) ?_
    refine x r_assign <| xe ?_
    exact W_ret ⟨[.int .i64 (-1)], ⟨rfl, trivial⟩, rfl, Step.refl _ _⟩
  | some u =>
    rw [he] at hg
    refine x (r_lookupS (k := (s, v)) h rfl rfl hg) <| x r_move <| x (r_extract rfl rfl) <| x (r_extract rfl rfl) <|
      x r_assign <| x r_assign <| xe ?_
    refine W_seq <| W_region (by rfl) ?_
    refine x r_move <| xe ?_
    refine W_true rfl ?_
    refine W_seq <| W_region (by rfl) ?_
    refine x r_move <| x r_assign <| xe ?_
    exact W_ret ⟨[.int .i64 u], ⟨rfl, trivial⟩, rfl, Step.refl _ _⟩

theorem differ_ok {L : List Nat} {w : World} {pva pvm pve sa sm se vw : Value} {a b : Aut} (ha : AutA L w.heap pva pvm pve a) (hb : AutA L w.heap sa sm se b) (hia : Inc a.mr) (hib : Inc b.mr) (x0 y0 : Int) :
    Ret Tryz.prog 54 [.agg #[.int .i64 x0, .int .i64 y0, vw], .agg #[pva, .int .i64 a.st, pvm, pve], .agg #[sa, .int .i64 b.st, sm, se]] w fun r w' => r = .bool (dfr a b x0 y0) ∧ Step [] w w' := by
  refine Ret.of_W Tryz.func54 rfl Tryz.ntmps54 Tryz.results54 (by simp) ?_
  refine W_seq <| W_region (by rfl) ?_
  refine xl rfl <| o_box (us := [.int .i64 x0, .int .i64 y0, vw]) rfl fun b3 w1 hs1 hb3 hB3 => xl rfl <| o_box (us := [pva, .int .i64 a.st, pvm, pve]) rfl fun b4 w2 hs2 hb4 hB4 => xl rfl <| o_box (us := [sa, .int .i64 b.st, sm, se]) rfl fun b5 w3 hs3 hb5 hB5 => x r_assign <|
    xe ?_
  have hs13 := (hs1.trans hs2).trans hs3
  have hB33 := (hB3.ext hs2).ext hs3
  have hB43 := hB4.ext hs3
  unfold dfr
  refine Or.elim (Decidable.em ((!(decide (x0 = -1) == decide (y0 = -1))) = true)) (fun h13 => ?_) (fun h13 => ?_)
  · refine W_seq <| W_draw (Step [] w3) [(0, true), (1, true), (2, true), (3, true), (4, true), (5, true), (6, true), (7, true), (8, true), (9, true), (10, true), (11, true), (13, true), (14, true), (15, true), (16, true), (12, false), (17, false), (18, true), (19, true), (20, true)] Tryz.mixed (by rfl) (by kernel_rfl) (Step.drew _ _) ?_
    refine p (fun _ => r_fieldB rfl) <| pq (fun _ hc => r_loadB (hB33.ext hc) rfl rfl) <| p (fun _ => r_eql rfl rfl) <| p (fun _ => r_fieldB rfl) <|
      pq (fun _ hc => r_loadB (hB33.ext hc) rfl rfl) <| p (fun _ => r_eql rfl rfl) <| p (fun _ => r_neq_boolV rfl rfl h13) <|
      p (fun _ => r_move) <| ps <| ps <| ps <| ps <| ps <| ps <| ps <| ps <| ps <| ps <| ps <| p (fun _ => r_pick rfl) <| p (fun _ => r_assign) <| pe ?_
    exact W_ret ⟨[.bool true], ⟨rfl, trivial⟩, by rw [h13]; rfl, hs13.trans (Step.drew [] w3)⟩
  have h14 := eq_false_of_ne_true h13
  refine W_seq <| W_draw (Step [] w3) [(0, true), (1, true), (2, true), (3, true), (4, true), (5, true), (6, true), (7, true), (8, true), (9, true), (10, true), (11, true), (13, true), (14, true), (15, true), (16, true), (12, false), (17, false), (18, true), (19, true), (20, true)] Tryz.mixed (by rfl) (by kernel_rfl) (Step.drew _ _) ?_
  refine p (fun _ => r_fieldB rfl) <| pq (fun _ hc => r_loadB (hB33.ext hc) rfl rfl) <| p (fun _ => r_eql rfl rfl) <| p (fun _ => r_fieldB rfl) <|
    pq (fun _ hc => r_loadB (hB33.ext hc) rfl rfl) <| p (fun _ => r_eql rfl rfl) <| p (fun _ => r_neq_boolV rfl rfl h14) <|
    p (fun _ => r_move) <| p (fun _ => r_fieldB rfl) <| pq (fun _ hc => r_loadB (hB43.ext hc) rfl rfl) <| p (fun _ => r_fieldB rfl) <| pq (fun _ hc => r_loadB (hB33.ext hc) rfl rfl) <|
    p (fun _ => r_fieldB rfl) <| pq (fun _ hc => r_loadB (hB5.ext hc) rfl rfl) <| p (fun _ => r_fieldB rfl) <| pq (fun _ hc => r_loadB (hB33.ext hc) rfl rfl) <|
    pk <| xf <| (alContains_ok ((ha.mr.ext hs13).ext (Step.drew [] w3)) hia x0).mono ?_
  rintro r4 w4 ⟨rfl, rfl⟩
  refine ⟨Step.drew _ _, ?_⟩
  refine pk <| xf <| (alContains_ok ((hb.mr.ext hs13).ext (Step.drew [] w3)) hib y0).mono ?_
  rintro r5 w5 ⟨rfl, rfl⟩
  refine ⟨Step.drew _ _, ?_⟩
  refine p (fun _ => r_neq_bool rfl rfl) <|
    p (fun _ => r_pick rfl) <| p (fun _ => r_assign) <| pe ?_
  exact W_ret ⟨[.bool (!(decide (x0 ∈ a.mr) == decide (y0 ∈ b.mr)))], ⟨rfl, trivial⟩, by rw [h14, Bool.false_or]; rfl, hs13.trans (Step.drew [] w3)⟩
end Go.Proofs.YtfhgnlkdcdlblaaGreatDoor
/- Contract: supervisor.Equivalent where the first pair has an error. -/
namespace Go.Proofs.YtfhgnlkdcdlblaaGreatDoor
open Go.Lg

theorem EquivalentE_ok {w : World} {pva pvm pve sva svm sve tva tvm tve : Value} {aP aS aT : Aut} (hP : AutA [] w.heap pva pvm pve aP) (hS : AutA [] w.heap sva svm sve aS) (hst1 : Okay aP → Okay aS → aP.st ≤ 100 ∧ aS.st ≤ 100) (hE1 : opE aP aS ≠ 0) :
    Ret Tryz.prog 20 [.agg #[pva, .int .i64 aP.st, pvm, pve], .agg #[sva, .int .i64 aS.st, svm, sve], .agg #[tva, .int .i64 aT.st, tvm, tve]] w fun r w' => Step [] w w' ∧ r = .tuple #[nilS, .bool false, .int .i64 (opE aP aS)] := by
  refine Ret.of_W Tryz.func20 rfl Tryz.ntmps20 Tryz.results20 (by simp) ?_
  refine W_seq <| W_region (by rfl) ?_
  refine xl rfl <| o_box (us := [pva, .int .i64 aP.st, pvm, pve]) rfl fun b3 w1 hs1 hb3 hB3 => xl rfl <| o_box (us := [sva, .int .i64 aS.st, svm, sve]) rfl fun b4 w2 hs2 hb4 hB4 => xl rfl <| o_box (us := [tva, .int .i64 aT.st, tvm, tve]) rfl fun b5 w3 hs3 hb5 hB5 => x r_assign <|
    x r_assign <| x r_assign <| xe ?_
  have hs13 := (hs1.trans hs2).trans hs3
  refine W_seq <| W_region (by rfl) ?_
  refine x (r_loadsB ((hB3.ext hs2).ext hs3) rfl rfl) <| x (r_loadsB (hB4.ext hs3) rfl rfl) <| xl rfl <| xf <| (sopen_ok (hP.ext hs13) (hS.ext hs13) hst1).mono ?_
  rintro r4 w4 ⟨hs4, va4, vt4, rfl, hO4⟩
  obtain ⟨rfl, rfl⟩ := hO4.bad hE1
  refine x r_move <| x (r_extract rfl rfl) <|
    x (r_extract rfl rfl) <| x (r_extract rfl rfl) <| xl rfl <| o_alloc (us := [.slice none 0 0, .int .i64 0, .slice none 0 0, .slice none 0 0]) rfl fun b9 w5 hs5 hb9 hB9 => xl rfl <| o_stores (us := [.slice none 0 0, .int .i64 0, .slice none 0 0, .slice none 0 0]) hB9 rfl rfl rfl rfl ⟨rfl, rfl, rfl, rfl, trivial⟩ fun w6 hs6 hB96 =>
    x r_assign <| x r_assign <| xe ?_
  have hs46 : Step [] w4 w6 := hs5.then1 hs6 hb9
  refine W_seq <| W_seq <| W_region (by rfl) ?_
  refine x r_move <| x (r_neq rfl rfl) <| xe ?_
  refine W_if rfl (fun h => ?_) (fun h => absurd hE1 h)
  refine W_seq <| W_region (by rfl) ?_
  refine x r_move <| x r_assign <| x r_assign <| x r_assign <| xe ?_
  exact W_ret ⟨[_, _, _], ⟨rfl, rfl, rfl, trivial⟩, (hs13.trans hs4).trans hs46, rfl⟩
end Go.Proofs.YtfhgnlkdcdlblaaGreatDoor
/- Contracts: overseerlaw30.few, none. -/
namespace Go.Proofs.YtfhgnlkdcdlblaaGreatDoor
open Go.Lg

theorem noneZ_ok (w : World) : Ret Tryz.prog 22 [zA] w fun r w' => r = .bool true ∧ Step [] w w' := by
  refine Ret.of_W Tryz.func22 rfl Tryz.ntmps22 Tryz.results22 (by simp) ?_
  refine W_seq <| W_region (by rfl) ?_
  refine xl rfl <| o_box (us := [.slice none 0 0, .int .i64 0, .slice none 0 0, .slice none 0 0]) rfl fun b1 w1 hs1 hb1 hB1 => x r_assign <| xe ?_
  have hA : AutA [] w1.heap (.slice none 0 0) (.slice none 0 0) (.slice none 0 0) (⟨[], 0, [], []⟩ : Aut) := ⟨Arr.nil _ _ _, Arr.nil _ _ _, Arr.nil _ _ _⟩
  refine W_seq <| W_region (by rfl) ?_
  refine x (r_loadsB hB1 rfl rfl) <| x (r_build trivial) <| xl rfl <| xf <| (Equal_same hA hA).mono ?_
  rintro r2 w2 ⟨rfl, hs2⟩
  refine x r_assign <| xe ?_
  exact W_ret ⟨[_], ⟨rfl, trivial⟩, rfl, hs1.trans hs2⟩
/-- Few events, marked states, edges; and few states, or an error. -/
def fewP (a : Aut) : Prop := a.al.length ≤ 12 ∧ a.mr.length ≤ 12 ∧ a.ed.length ≤ 12 ∧ (a.st ≤ 40 ∨ ckA a ≠ 0)
theorem few_ok {w : World} {n1 c1 n2 c2 n3 c3 : Nat} {a1 a2 a3 : Option Addr} {st : Int} (hA : n1 ≤ 12 → n2 ≤ 12 → n3 ≤ 12 → ∃ a : Aut, a.st = st ∧ AutA [] w.heap (.slice a1 n1 c1) (.slice a2 n2 c2) (.slice a3 n3 c3) a ∧ a.al.length = n1 ∧ a.mr.length = n2 ∧ a.ed.length = n3) :
    Ret Tryz.prog 14 [.agg #[.slice a1 n1 c1, .int .i64 st, .slice a2 n2 c2, .slice a3 n3 c3]] w fun r w' => Step [] w w' ∧ ∃ c : Bool, r = .bool c ∧
      (c = true → ∃ a : Aut, a.st = st ∧ AutA [] w.heap (.slice a1 n1 c1) (.slice a2 n2 c2) (.slice a3 n3 c3) a ∧ fewP a) := by
  refine Ret.of_W Tryz.func14 rfl Tryz.ntmps14 Tryz.results14 (by simp) ?_
  refine W_seq <| W_region (by rfl) ?_
  refine xl rfl <| o_box (us := [.slice a1 n1 c1, .int .i64 st, .slice a2 n2 c2, .slice a3 n3 c3]) rfl fun b1 w1 hs1 hb1 hB1 => x r_assign <| xe ?_
  refine W_seq <| W_region (by rfl) ?_
  refine x (r_fieldB rfl) <| x (r_loadB hB1 rfl rfl) <| x (r_len rfl) <| xb (r_leq rfl rfl) (fun h6 => ?_) (fun h6 => ?_)
  · refine x r_move <| x (r_fieldB rfl) <| x (r_loadB hB1 rfl rfl) <| x (r_len rfl) <| xb (r_leq rfl rfl) (fun h11 => ?_) (fun h11 => ?_)
    · refine x (r_pick rfl) <| x r_move <| x (r_fieldB rfl) <| x (r_loadB hB1 rfl rfl) <| x (r_len rfl) <| xb (r_leq rfl rfl) (fun h17 => ?_) (fun h17 => ?_)
      · refine x (r_pick rfl) <| x r_move <| x (r_fieldB rfl) <| x (r_loadB hB1 rfl rfl) <| ?_
        have g1 : n1 ≤ 12 := by have h7 : (n1 : Int) ≤ 12 := h6; omega
        have g2 : n2 ≤ 12 := by have h7 : (n2 : Int) ≤ 12 := h11; omega
        have g3 : n3 ≤ 12 := by have h7 : (n3 : Int) ≤ 12 := h17; omega
        refine Exists.elim (hA g1 g2 g3) fun a ha => ?_
        have hst := ha.1
        subst hst
        refine xb (r_leq rfl rfl) (fun h22 => ?_) (fun h22 => ?_)
        · refine x r_move <| xs rfl <| xs rfl <| xs rfl <| x (r_pick rfl) <| x (r_pick rfl) <| x r_assign <| xe ?_
          exact W_ret ⟨[_], ⟨rfl, trivial⟩, hs1, true, rfl, fun _ => ⟨a, rfl, ha.2.1, by omega, by omega, by omega, .inl h22⟩⟩
        · refine x r_move <| x (r_loadsB hB1 rfl rfl) <| xl rfl <| xf <| (check_ok (ha.2.1.ext hs1)).mono ?_
          rintro r2 w2 ⟨rfl, hs2⟩
          refine x (r_neq rfl rfl) <| x (r_pick rfl) <| x (r_pick rfl) <| x r_assign <| xe ?_
          exact W_ret ⟨[_], ⟨rfl, trivial⟩, hs1.trans hs2, decide (ckA a ≠ 0), rfl, fun h => ⟨a, rfl, ha.2.1, by omega, by omega, by omega, .inr (of_decide_eq_true h)⟩⟩
      · refine x (r_pick rfl) <| x r_move <| xs rfl <| xs rfl <| xs rfl <| xs rfl <| xs rfl <| xs rfl <| xs rfl <| xs rfl <| x (r_pick rfl) <| x r_assign <| xe ?_
        exact W_ret ⟨[_], ⟨rfl, trivial⟩, hs1, false, rfl, fun h => by cases h⟩
    · refine x (r_pick rfl) <| x r_move <| xs rfl <| xs rfl <| xs rfl <| xs rfl <| x (r_pick rfl) <| x r_move <| xs rfl <| xs rfl <| xs rfl <| xs rfl <| xs rfl <| xs rfl <| xs rfl <| xs rfl <| x (r_pick rfl) <| x r_assign <| xe ?_
      exact W_ret ⟨[_], ⟨rfl, trivial⟩, hs1, false, rfl, fun h => by cases h⟩
  · refine x r_move <| xs rfl <| xs rfl <| xs rfl <| xs rfl <| x (r_pick rfl) <| x r_move <| xs rfl <| xs rfl <| xs rfl <| xs rfl <| x (r_pick rfl) <| x r_move <| xs rfl <| xs rfl <| xs rfl <| xs rfl <| xs rfl <| xs rfl <| xs rfl <| xs rfl <| x (r_pick rfl) <| x r_assign <| xe ?_
    exact W_ret ⟨[_], ⟨rfl, trivial⟩, hs1, false, rfl, fun h => by cases h⟩
end Go.Proofs.YtfhgnlkdcdlblaaGreatDoor
/- Contract: law30's join. -/
namespace Go.Proofs.YtfhgnlkdcdlblaaGreatDoor
open Go.Lg

def joinC (cl : List Int) (i j : Nat) : List Int := cl.map (mgF (max (cget cl i) (cget cl j)) (min (cget cl i) (cget cl j)))
theorem joinC_len (cl : List Int) (i j : Nat) : (joinC cl i j).length = cl.length := by simp [joinC]

end Go.Proofs.YtfhgnlkdcdlblaaGreatDoor
/- SupervisorReduces, plain law, part 1: both closures are the least one. -/
namespace Go.Proofs.YtfhgnlkdcdlblaaGreatDoor
open Go.Lg

theorem cget_map {cl : List Int} (g : Int → Int) {x : Nat} (h : x < cl.length) : cget (cl.map g) x = g (cget cl x) := by simp [cget, List.getD, h]
theorem cget_merge {cl : List Int} {u v x : Nat} (h : x < cl.length) : cget (mergeC cl u v) x = if cget cl x = cget cl v then cget cl u else cget cl x := by unfold mergeC; rw [cget_map _ h]
/-- Equal under c, so under e. -/
def Rf (n : Nat) (c e : List Int) : Prop := ∀ x y, x < n → y < n → cget c x = cget c y → cget e x = cget e y
theorem Rf.refl (n : Nat) (c : List Int) : Rf n c c := fun _ _ _ _ h => h
theorem Rf.trans {n : Nat} {a b c : List Int} (h : Rf n a b) (k : Rf n b c) : Rf n a c := fun x y hx hy e => k x y hx hy (h x y hx hy e)
theorem Rf.merge {n : Nat} {c e : List Int} (hl : c.length = n) (h : Rf n c e) {u v : Nat} (hu : u < n) (hv : v < n) (huv : cget e u = cget e v) : Rf n (mergeC c u v) e := by
  intro x y hx hy hxy
  rw [cget_merge (by omega), cget_merge (by omega)] at hxy
  by_cases h1 : cget c x = cget c v
  · rw [if_pos h1] at hxy
    have e1 := h x v hx hv h1
    by_cases h2 : cget c y = cget c v
    · exact e1.trans (h y v hy hv h2).symm
    · rw [if_neg h2] at hxy
      exact e1.trans (huv.symm.trans (h u y hu hy hxy))
  · rw [if_neg h1] at hxy
    by_cases h2 : cget c y = cget c v
    · rw [if_pos h2] at hxy
      exact (h x u hx hu hxy).trans (huv.trans (h y v hy hv h2).symm)
    · rw [if_neg h2] at hxy
      exact h x y hx hy hxy
theorem Rf.of_merge {n : Nat} {c : List Int} (hl : c.length = n) (u v : Nat) : Rf n c (mergeC c u v) := by
  intro x y hx hy h
  rw [cget_merge (by omega), cget_merge (by omega), h]
theorem merge_eq {n : Nat} {c : List Int} (hl : c.length = n) {u v : Nat} (hu : u < n) (hv : v < n) : cget (mergeC c u v) u = cget (mergeC c u v) v := by
  rw [cget_merge (by omega), cget_merge (by omega), if_pos rfl]
  split <;> rfl
theorem merge_sign {n : Nat} {c : List Int} (hl : c.length = n) {u v : Nat} (hu : 0 ≤ cget c u) (hv : 0 ≤ cget c v) {x : Nat} (hx : x < n) : cget (mergeC c u v) x < 0 ↔ cget c x < 0 := by
  rw [cget_merge (by omega)]
  split
  · rename_i h; rw [h]; omega
  · exact Iff.rfl
/-- joinC is a merge, one way or the other. -/
theorem joinC_merge (c : List Int) (i j : Nat) : joinC c i j = mergeC c i j ∨ joinC c i j = mergeC c j i := by
  unfold joinC mergeC mgF
  rcases Int.le_total (cget c i) (cget c j) with h | h
  · left
    rw [Int.max_eq_right h, Int.min_eq_left h]
  · right
    rw [Int.max_eq_left h, Int.min_eq_right h]

/-! ### What is forced -/
/-- States of one class and an event of both: where it leads. -/
def Frc (s : Aut) (l : List Ctl) (n : Nat) (c : List Int) (u t : Nat) : Prop :=
  ∃ x y e, x < n ∧ y < n ∧ 0 ≤ cget c x ∧ cget c x = cget c y ∧ e ∈ (lget l x).en ∧ e ∈ (lget l y).en ∧ u = (to0 s x e).toNat ∧ t = (to0 s y e).toNat
def Clsd (s : Aut) (l : List Ctl) (n : Nat) (c : List Int) : Prop := ∀ u t, Frc s l n c u t → cget c u = cget c t
theorem Frc.symm {s : Aut} {l : List Ctl} {n : Nat} {c : List Int} {u t : Nat} (h : Frc s l n c u t) : Frc s l n c t u := by
  obtain ⟨x, y, e, h1, h2, h3, h4, h5, h6, h7, h8⟩ := h
  exact ⟨y, x, e, h2, h1, by omega, h4.symm, h6, h5, h8, h7⟩
/-- Where the enabled events of states that occur lead: to states that occur. -/
def Occ (s : Aut) (l : List Ctl) (n : Nat) (c : List Int) : Prop := ∀ x, x < n → 0 ≤ cget c x → ∀ e ∈ (lget l x).en, (to0 s x e).toNat < n ∧ 0 ≤ cget c (to0 s x e).toNat
inductive Stps (s : Aut) (l : List Ctl) (n : Nat) (z : List Int × Bool) : List Int × Bool → Prop
  | refl : Stps s l n z z
  | step {z' : List Int × Bool} (u t : Nat) : Stps s l n z z' → cget z'.1 u ≠ cget z'.1 t → Frc s l n z'.1 u t → Stps s l n z (mergeC z'.1 u t, true)
theorem Stps.trans {s : Aut} {l : List Ctl} {n : Nat} {z z' z'' : List Int × Bool} (h : Stps s l n z z') (k : Stps s l n z' z'') : Stps s l n z z'' := by
  induction k with
  | refl => exact h
  | step u t _ h1 h2 ih => exact .step u t ih h1 h2
/-- What steps keep. -/
structure Kp (s : Aut) (l : List Ctl) (n : Nat) (z z' : List Int × Bool) : Prop where
  len : z'.1.length = n
  sg : ∀ x, x < n → (cget z'.1 x < 0 ↔ cget z.1 x < 0)
  up : Rf n z.1 z'.1
  dn : ∀ e, Clsd s l n e → (∀ x, x < n → (cget e x < 0 ↔ cget z.1 x < 0)) → Rf n z.1 e → Rf n z'.1 e
  fl : z'.2 = false → z' = z
  un : z' = z ∨ uneq z'.1 < uneq z.1
theorem Stps.kp {s : Aut} {l : List Ctl} {n : Nat} {z z' : List Int × Bool} (hl : z.1.length = n) (ho : Occ s l n z.1) (h : Stps s l n z z') : Kp s l n z z' := by
  induction h with
  | refl => exact ⟨hl, fun _ _ => Iff.rfl, Rf.refl _ _, fun _ _ _ h => h, fun _ => rfl, .inl rfl⟩
  | step u t h1 h2 h3 ih =>
    obtain ⟨x, y, e, k1, k2, k3, k4, k5, k6, rfl, rfl⟩ := h3
    rename_i z'
    have sx := ih.sg x k1
    have sy := ih.sg y k2
    obtain ⟨o1, o2⟩ := ho x k1 (by omega) e k5
    obtain ⟨o3, o4⟩ := ho y k2 (by omega) e k6
    have su := ih.sg _ o1
    have st := ih.sg _ o3
    refine ⟨by simp [mergeC_len, ih.len], fun q hq => ?_, ih.up.trans (Rf.of_merge ih.len _ _), fun E hE hsg hr => ?_, fun h => by simp at h, .inr ?_⟩
    · rw [merge_sign ih.len (by omega) (by omega) hq]; exact ih.sg q hq
    · have hd := ih.dn E hE hsg hr
      refine Rf.merge ih.len hd o1 o3 (hE _ _ ⟨x, y, e, k1, k2, ?_, hd x y k1 k2 k4, k5, k6, rfl, rfl⟩)
      have := hsg x k1
      omega
    · have := uneq_merge_lt (cl := z'.1) (by rw [ih.len]; exact o1) (by rw [ih.len]; exact o3) h2
      rcases ih.un with h4 | h4
      · rw [h4] at this; rw [← h4]; simpa [h4] using this
      · simp only []; omega

/-! ### The passes of the program -/
section
variable {s : Aut} {l : List Ctl} {n : Nat}
theorem clE_fold {x y : Nat} : ∀ (vs : List Int) (z : List Int × Bool), z.1.length = n → x < n → y < n → 0 ≤ cget z.1 x → cget z.1 x = cget z.1 y → Occ s l n z.1 → (∀ e ∈ vs, e ∈ (lget l x).en ∧ e ∈ (lget l y).en) → Stps s l n z (vs.foldl (clE s x y) z)
  | [], z, _, _, _, _, _, _, _ => .refl
  | v :: vs, z, hl, hx, hy, h0, hxy, ho, hv => by
    obtain ⟨v1, v2⟩ := hv v List.mem_cons_self
    have h1 : Stps s l n z (clE s x y z v) := by
      unfold clE
      split
      · rename_i hne; exact .step _ _ .refl hne ⟨x, y, v, hx, hy, h0, hxy, v1, v2, rfl, rfl⟩
      · exact .refl
    have k := h1.kp hl ho
    have ho' : Occ s l n (clE s x y z v).1 := fun q hq hq0 e he => by
      have := k.sg q hq
      obtain ⟨a, b⟩ := ho q hq (by omega) e he
      have := k.sg _ a
      exact ⟨a, by omega⟩
    have := k.sg x hx
    exact h1.trans (clE_fold vs _ k.len hx hy (by omega) (k.up x y hx hy hxy) ho' (fun e he => hv e (List.mem_cons_of_mem _ he)))
theorem Occ.of {c d : List Int} (ho : Occ s l n c) (h : ∀ x, x < n → (cget d x < 0 ↔ cget c x < 0)) : Occ s l n d := fun q hq hq0 e he => by
  have := h q hq
  obtain ⟨a, b⟩ := ho q hq (by omega) e he
  have := h _ a
  exact ⟨a, by omega⟩
/-- A fold of steps is steps. -/
theorem fold_stps {α : Type} {f : List Int × Bool → α → List Int × Bool} {P : α → Prop} (hf : ∀ z a, P a → z.1.length = n → Occ s l n z.1 → Stps s l n z (f z a)) : ∀ (rs : List α) (z : List Int × Bool), (∀ a ∈ rs, P a) → z.1.length = n → Occ s l n z.1 → Stps s l n z (rs.foldl f z)
  | [], _, _, _, _ => .refl
  | a :: rs, z, hP, hl, ho => by
    have h1 := hf z a (hP a List.mem_cons_self) hl ho
    have k := h1.kp hl ho
    exact h1.trans (fold_stps hf rs _ (fun b hb => hP b (List.mem_cons_of_mem _ hb)) k.len (ho.of k.sg))
/-- A fold that has not stepped: no part of it has. -/
theorem fold_flag {α : Type} {f : List Int × Bool → α → List Int × Bool} {P : α → Prop} {T : List Int → α → Prop} (hf : ∀ z a, P a → z.1.length = n → Occ s l n z.1 → Stps s l n z (f z a)) (hT : ∀ z a, P a → z.1.length = n → Occ s l n z.1 → (f z a).2 = false → T z.1 a) :
    ∀ (rs : List α) (z : List Int × Bool), (∀ a ∈ rs, P a) → z.1.length = n → Occ s l n z.1 → (rs.foldl f z).2 = false → rs.foldl f z = z ∧ ∀ a ∈ rs, T z.1 a
  | [], _, _, _, _, _ => ⟨rfl, fun a ha => by cases ha⟩
  | a :: rs, z, hP, hl, ho, h => by
    have h1 := hf z a (hP a List.mem_cons_self) hl ho
    have k := h1.kp hl ho
    obtain ⟨h2, h3⟩ := fold_flag hf hT rs _ (fun b hb => hP b (List.mem_cons_of_mem _ hb)) k.len (ho.of k.sg) h
    have h' : (f z a).2 = false := by have h0 := h; rw [List.foldl_cons, h2] at h0; exact h0
    have h4 := k.fl h'
    rw [h4] at h3
    rw [List.foldl_cons, h2]
    refine ⟨h4, fun b hb => ?_⟩
    rcases List.mem_cons.1 hb with rfl | hb
    · exact hT z b (hP b List.mem_cons_self) hl ho h'
    · exact h3 b hb
end
end Go.Proofs.YtfhgnlkdcdlblaaGreatDoor
/- SupervisorReduces, plain law, part 2: the passes of the program and of the law. -/
namespace Go.Proofs.YtfhgnlkdcdlblaaGreatDoor
open Go.Lg

section
variable {s : Aut} {l : List Ctl} {n : Nat}
/-! ### The program -/
theorem clE_flag {x y : Nat} : ∀ (vs : List Int) (z : List Int × Bool), (vs.foldl (clE s x y) z).2 = false → ∀ v ∈ vs, cget z.1 (to0 s x v).toNat = cget z.1 (to0 s y v).toNat
  | [], _, _, v, hv => by cases hv
  | v :: vs, z, h, u, hu => by
    rw [List.foldl_cons] at h
    have key : ∀ (ws : List Int) (q : List Int × Bool), q.2 = true → (ws.foldl (clE s x y) q).2 = true := by
      intro ws
      induction ws with
      | nil => intro q hq; exact hq
      | cons w ws ih =>
        intro q hq
        rw [List.foldl_cons]
        refine ih _ ?_
        unfold clE; split
        · rfl
        · exact hq
    have hc : cget z.1 (to0 s x v).toNat = cget z.1 (to0 s y v).toNat := by
      by_cases e : cget z.1 (to0 s x v).toNat = cget z.1 (to0 s y v).toNat
      · exact e
      · have h1 : clE s x y z v = (mergeC z.1 (to0 s x v).toNat (to0 s y v).toNat, true) := by unfold clE; rw [if_pos e]
        rw [h1, key _ _ rfl] at h; cases h
    have h2 : clE s x y z v = z := by unfold clE; rw [if_neg (fun e => e hc)]
    rw [h2] at h
    rcases List.mem_cons.1 hu with rfl | hu
    · exact hc
    · exact clE_flag vs z h u hu
/-- The lists of enabled events are sets. -/
def IncL (l : List Ctl) (n : Nat) : Prop := ∀ x, x < n → Inc (lget l x).en
theorem clY_stps (hi : IncL l n) {x : Nat} (hx : x < n) (z : List Int × Bool) (y : Nat) (hy : y < n) (hl : z.1.length = n) (ho : Occ s l n z.1) : Stps s l n z (clY s l x z y) := by
  unfold clY
  split
  · exact .refl
  · rename_i h
    refine clE_fold _ z hl hx hy (by omega) (by omega) ho fun e he => ?_
    exact (mem_meets (hi x hx) (hi y hy) e).1 he
/-- x and y lead alike. -/
def Alk (s : Aut) (l : List Ctl) (c : List Int) (x y : Nat) : Prop := 0 ≤ cget c x → cget c x = cget c y → ∀ e, e ∈ (lget l x).en → e ∈ (lget l y).en → cget c (to0 s x e).toNat = cget c (to0 s y e).toNat
theorem clY_flag (hi : IncL l n) {x : Nat} (hx : x < n) (z : List Int × Bool) (y : Nat) (hy : y < n) (h : (clY s l x z y).2 = false) : Alk s l z.1 x y := by
  intro h0 h1 e he1 he2
  unfold clY at h
  rw [if_neg (by omega)] at h
  exact clE_flag _ z h e ((mem_meets (hi x hx) (hi y hy) e).2 ⟨he1, he2⟩)
theorem clX_stps (hi : IncL l n) (z : List Int × Bool) (x : Nat) (hx : x < n) (hl : z.1.length = n) (ho : Occ s l n z.1) : Stps s l n z (clX s l n z x) := by
  unfold clX
  exact fold_stps (P := fun y => y < n) (fun z y hy hl ho => clY_stps hi hx z y hy hl ho) _ z (fun y hy => by rw [List.mem_range'_1] at hy; omega) hl ho
theorem clX_flag (hi : IncL l n) (z : List Int × Bool) (x : Nat) (hx : x < n) (hl : z.1.length = n) (ho : Occ s l n z.1) (h : (clX s l n z x).2 = false) : ∀ y, x < y → y < n → Alk s l z.1 x y := by
  unfold clX at h
  intro y hy hyn
  exact (fold_flag (P := fun y => y < n) (T := fun c y => Alk s l c x y) (fun z y hy hl ho => clY_stps hi hx z y hy hl ho) (fun z y hy _ _ h => clY_flag hi hx z y hy h) _ z (fun y hy => by rw [List.mem_range'_1] at hy; omega) hl ho h).2 y (by rw [List.mem_range'_1]; omega)
theorem pass_stps (hi : IncL l n) (c : List Int) (hl : c.length = n) (ho : Occ s l n c) : Stps s l n (c, false) (pass s l c) := by
  unfold pass
  rw [hl]
  exact fold_stps (P := fun y => y < n) (fun z y hy hl ho => clX_stps hi z y hy hl ho) _ _ (fun y hy => by rw [List.mem_range'_1] at hy; omega) hl ho
theorem Alk.symm {c : List Int} {x y : Nat} (h : Alk s l c x y) : Alk s l c y x := fun h0 h1 e h2 h3 => (h (by omega) h1.symm e h3 h2).symm
theorem clsd_of_alk {c : List Int} (h : ∀ x y, x < y → y < n → Alk s l c x y) : Clsd s l n c := by
  rintro u t ⟨x, y, e, h1, h2, h3, h4, h5, h6, rfl, rfl⟩
  rcases Nat.lt_trichotomy x y with hlt | heq | hgt
  · exact h x y hlt h2 h3 h4 e h5 h6
  · subst heq; rfl
  · exact (h y x hgt h1).symm h3 h4 e h5 h6
theorem pass_flag (hi : IncL l n) (c : List Int) (hl : c.length = n) (ho : Occ s l n c) (h : (pass s l c).2 = false) : (pass s l c).1 = c ∧ Clsd s l n c := by
  have h0 := h
  unfold pass at h
  rw [hl] at h
  have := fold_flag (P := fun y => y < n) (T := fun c x => ∀ y, x < y → y < n → Alk s l c x y) (fun z y hy hl ho => clX_stps hi z y hy hl ho) (fun z x hx hl ho h => clX_flag hi z x hx hl ho h) _ (c, false) (fun y hy => by rw [List.mem_range'_1] at hy; omega) hl ho h
  refine ⟨?_, clsd_of_alk fun x y hxy hy => this.2 x (by rw [List.mem_range'_1]; omega) y hxy hy⟩
  unfold pass
  rw [hl, this.1]
/-- What a closure is. -/
structure Clo2 (s : Aut) (l : List Ctl) (n : Nat) (c d : List Int) : Prop where
  len : d.length = n
  sg : ∀ x, x < n → (cget d x < 0 ↔ cget c x < 0)
  up : Rf n c d
  dn : ∀ e, Clsd s l n e → (∀ x, x < n → (cget e x < 0 ↔ cget c x < 0)) → Rf n c e → Rf n d e
  cl : Clsd s l n d
theorem Clo2.of_kp {c d : List Int} {z : List Int × Bool} (k : Kp s l n (c, false) z) (h : Clo2 s l n z.1 d) : Clo2 s l n c d :=
  ⟨h.len, fun x hx => (h.sg x hx).trans (k.sg x hx), k.up.trans h.up, fun e he hs hr => h.dn e he (fun x hx => (hs x hx).trans (k.sg x hx).symm) (k.dn e he hs hr), h.cl⟩
theorem closeC_spec (hi : IncL l n) : ∀ (f : Nat) (c : List Int), c.length = n → Occ s l n c → uneq c < f → Clo2 s l n c (closeC s l f c)
  | 0, _, _, _, h => by omega
  | f + 1, c, hl, ho, hf => by
    have hs := pass_stps hi c hl ho
    have k := hs.kp hl ho
    rw [closeC]
    cases hp : (pass s l c).2 with
    | false =>
      obtain ⟨h1, h2⟩ := pass_flag hi c hl ho hp
      rw [if_neg (by simp), h1]
      exact ⟨hl, fun _ _ => Iff.rfl, Rf.refl _ _, fun _ _ _ h => h, h2⟩
    | true =>
      rw [if_pos rfl]
      have hu : uneq (pass s l c).1 < uneq c := by
        rcases k.un with h | h
        · rw [h] at hp; cases hp
        · exact h
      exact Clo2.of_kp k (closeC_spec hi f _ k.len (ho.of k.sg) (by omega))

/-! ### The law -/
def lwE (s : Aut) (l : List Ctl) (x y : Nat) (z : List Int × Bool) (e : Int) : List Int × Bool :=
  if e ∉ (lget l y).en then z else if cget z.1 (nxt s.ed x e).toNat ≠ cget z.1 (nxt s.ed y e).toNat then (joinC z.1 (nxt s.ed x e).toNat (nxt s.ed y e).toNat, true) else z
def lwY (s : Aut) (l : List Ctl) (x : Nat) (z : List Int × Bool) (y : Nat) : List Int × Bool :=
  if cget z.1 x < 0 ∨ cget z.1 x ≠ cget z.1 y then z else (lget l x).en.foldl (lwE s l x y) z
def lwX (s : Aut) (l : List Ctl) (z : List Int × Bool) (x : Nat) : List Int × Bool := (List.range' 0 x).foldl (lwY s l x) z
def lwPass (s : Aut) (l : List Ctl) (c : List Int) : List Int × Bool := (List.range' 0 c.length).foldl (lwX s l) (c, false)
def lwClose (s : Aut) (l : List Ctl) : Nat → List Int → List Int
  | 0, cl => cl
  | f + 1, cl => if (lwPass s l cl).2 = true then lwClose s l f (lwPass s l cl).1 else (lwPass s l cl).1
/-- The edges of enabled events. -/
def Nx (s : Aut) (l : List Ctl) (n : Nat) : Prop := ∀ x, x < n → ∀ e ∈ (lget l x).en, nxt s.ed x e = to0 s x e ∧ 0 ≤ to0 s x e
theorem lwE_stps (hn : Nx s l n) {x y : Nat} (hx : x < n) (hy : y < n) (z : List Int × Bool) (e : Int) (he : e ∈ (lget l x).en) (h0 : 0 ≤ cget z.1 x) (h1 : cget z.1 x = cget z.1 y) : Stps s l n z (lwE s l x y z e) := by
  unfold lwE
  split
  · exact .refl
  · rename_i h2
    have h2' : e ∈ (lget l y).en := Decidable.not_not.1 h2
    rw [(hn x hx e he).1, (hn y hy e h2').1]
    split
    · rename_i hne
      have hF : Frc s l n z.1 (to0 s x e).toNat (to0 s y e).toNat := ⟨x, y, e, hx, hy, h0, h1, he, h2', rfl, rfl⟩
      rcases joinC_merge z.1 (to0 s x e).toNat (to0 s y e).toNat with h | h
      · rw [h]; exact .step _ _ .refl hne hF
      · rw [h]; exact .step _ _ .refl (Ne.symm hne) hF.symm
    · exact .refl
theorem lwE_fold (hn : Nx s l n) {x y : Nat} (hx : x < n) (hy : y < n) : ∀ (vs : List Int) (z : List Int × Bool), (∀ e ∈ vs, e ∈ (lget l x).en) → z.1.length = n → Occ s l n z.1 → 0 ≤ cget z.1 x → cget z.1 x = cget z.1 y → Stps s l n z (vs.foldl (lwE s l x y) z)
  | [], _, _, _, _, _, _ => .refl
  | v :: vs, z, hv, hl, ho, h0, h1 => by
    have hs := lwE_stps hn hx hy z v (hv v List.mem_cons_self) h0 h1
    have k := hs.kp hl ho
    have := k.sg x hx
    exact hs.trans (lwE_fold hn hx hy vs _ (fun e he => hv e (List.mem_cons_of_mem _ he)) k.len (ho.of k.sg) (by omega) (k.up x y hx hy h1))
theorem lwE_flag (hn : Nx s l n) {x y : Nat} (hx : x < n) (hy : y < n) : ∀ (vs : List Int) (z : List Int × Bool), (∀ e ∈ vs, e ∈ (lget l x).en) → (vs.foldl (lwE s l x y) z).2 = false → ∀ v ∈ vs, v ∈ (lget l y).en → cget z.1 (to0 s x v).toNat = cget z.1 (to0 s y v).toNat
  | [], _, _, _, v, hv, _ => by cases hv
  | v :: vs, z, hvs, h, u, hu, hy2 => by
    rw [List.foldl_cons] at h
    have key : ∀ (ws : List Int) (q : List Int × Bool), q.2 = true → (ws.foldl (lwE s l x y) q).2 = true := by
      intro ws
      induction ws with
      | nil => intro q hq; exact hq
      | cons w ws ih =>
        intro q hq
        rw [List.foldl_cons]
        refine ih _ ?_
        unfold lwE; split
        · exact hq
        · split
          · rfl
          · exact hq
    have hc : v ∈ (lget l y).en → cget z.1 (to0 s x v).toNat = cget z.1 (to0 s y v).toNat := fun hvy => by
      by_cases e : cget z.1 (to0 s x v).toNat = cget z.1 (to0 s y v).toNat
      · exact e
      · have h1 : (lwE s l x y z v).2 = true := by
          unfold lwE
          rw [if_neg (fun h => h hvy), (hn x hx v (hvs v List.mem_cons_self)).1, (hn y hy v hvy).1, if_pos e]
        rw [key _ _ h1] at h; cases h
    have h2 : lwE s l x y z v = z := by
      unfold lwE
      by_cases hvy : v ∈ (lget l y).en
      · rw [if_neg (fun h => h hvy), (hn x hx v (hvs v List.mem_cons_self)).1, (hn y hy v hvy).1, if_neg (fun h => h (hc hvy))]
      · rw [if_pos hvy]
    rw [h2] at h
    rcases List.mem_cons.1 hu with rfl | hu
    · exact hc hy2
    · exact lwE_flag hn hx hy vs z (fun e he => hvs e (List.mem_cons_of_mem _ he)) h u hu hy2
theorem lwY_stps (hn : Nx s l n) {x : Nat} (hx : x < n) (z : List Int × Bool) (y : Nat) (hy : y < n) (hl : z.1.length = n) (ho : Occ s l n z.1) : Stps s l n z (lwY s l x z y) := by
  unfold lwY
  split
  · exact .refl
  · rename_i h
    exact lwE_fold hn hx hy _ z (fun _ h => h) hl ho (by omega) (by omega)
theorem lwY_flag (hn : Nx s l n) {x : Nat} (hx : x < n) (z : List Int × Bool) (y : Nat) (hy : y < n) (h : (lwY s l x z y).2 = false) : Alk s l z.1 x y := by
  intro h0 h1 e he1 he2
  unfold lwY at h
  rw [if_neg (by omega)] at h
  exact lwE_flag hn hx hy _ z (fun _ h => h) h e he1 he2
theorem lwX_stps (hn : Nx s l n) (z : List Int × Bool) (x : Nat) (hx : x < n) (hl : z.1.length = n) (ho : Occ s l n z.1) : Stps s l n z (lwX s l z x) := by
  unfold lwX
  exact fold_stps (P := fun y => y < n) (fun z y hy hl ho => lwY_stps hn hx z y hy hl ho) _ z (fun y hy => by rw [List.mem_range'_1] at hy; omega) hl ho
theorem lwX_flag (hn : Nx s l n) (z : List Int × Bool) (x : Nat) (hx : x < n) (hl : z.1.length = n) (ho : Occ s l n z.1) (h : (lwX s l z x).2 = false) : ∀ y, y < x → Alk s l z.1 x y := by
  unfold lwX at h
  intro y hy
  exact (fold_flag (P := fun y => y < n) (T := fun c y => Alk s l c x y) (fun z y hy hl ho => lwY_stps hn hx z y hy hl ho) (fun z y hy _ _ h => lwY_flag hn hx z y hy h) _ z (fun y hy => by rw [List.mem_range'_1] at hy; omega) hl ho h).2 y (by rw [List.mem_range'_1]; omega)
theorem lwPass_stps (hn : Nx s l n) (c : List Int) (hl : c.length = n) (ho : Occ s l n c) : Stps s l n (c, false) (lwPass s l c) := by
  unfold lwPass
  rw [hl]
  exact fold_stps (P := fun y => y < n) (fun z y hy hl ho => lwX_stps hn z y hy hl ho) _ _ (fun y hy => by rw [List.mem_range'_1] at hy; omega) hl ho
theorem lwPass_flag (hn : Nx s l n) (c : List Int) (hl : c.length = n) (ho : Occ s l n c) (h : (lwPass s l c).2 = false) : (lwPass s l c).1 = c ∧ Clsd s l n c := by
  have h0 := h
  unfold lwPass at h
  rw [hl] at h
  have := fold_flag (P := fun y => y < n) (T := fun c x => ∀ y, y < x → Alk s l c x y) (fun z y hy hl ho => lwX_stps hn z y hy hl ho) (fun z x hx hl ho h => lwX_flag hn z x hx hl ho h) _ (c, false) (fun y hy => by rw [List.mem_range'_1] at hy; omega) hl ho h
  refine ⟨?_, clsd_of_alk fun x y hxy hy => (this.2 y (by rw [List.mem_range'_1]; omega) x hxy).symm⟩
  unfold lwPass
  rw [hl, this.1]
theorem lwClose_spec (hn : Nx s l n) : ∀ (f : Nat) (c : List Int), c.length = n → Occ s l n c → uneq c < f → Clo2 s l n c (lwClose s l f c)
  | 0, _, _, _, h => by omega
  | f + 1, c, hl, ho, hf => by
    have hs := lwPass_stps hn c hl ho
    have k := hs.kp hl ho
    rw [lwClose]
    cases hp : (lwPass s l c).2 with
    | false =>
      obtain ⟨h1, h2⟩ := lwPass_flag hn c hl ho hp
      rw [if_neg (by simp), h1]
      exact ⟨hl, fun _ _ => Iff.rfl, Rf.refl _ _, fun _ _ _ h => h, h2⟩
    | true =>
      rw [if_pos rfl]
      have hu : uneq (lwPass s l c).1 < uneq c := by
        rcases k.un with h | h
        · rw [h] at hp; cases hp
        · exact h
      exact Clo2.of_kp k (lwClose_spec hn f _ k.len (ho.of k.sg) (by omega))
end
end Go.Proofs.YtfhgnlkdcdlblaaGreatDoor
/- SupervisorReduces, plain law, part 3: program and law part the states alike. -/
namespace Go.Proofs.YtfhgnlkdcdlblaaGreatDoor
open Go.Lg

/-- The same classes. -/
structure Sm (n : Nat) (c d : List Int) : Prop where
  r : Rf n c d
  q : Rf n d c
  sg : ∀ x, x < n → (cget d x < 0 ↔ cget c x < 0)
theorem Sm.refl (n : Nat) (c : List Int) : Sm n c c := ⟨Rf.refl _ _, Rf.refl _ _, fun _ _ => Iff.rfl⟩
/-- A class is its least state. -/
def Lst (n : Nat) (d : List Int) : Prop := ∀ x, x < n → 0 ≤ cget d x → cget d x ≤ x ∧ cget d (cget d x).toNat = cget d x
theorem cget_join {d : List Int} {u v x : Nat} (h : x < d.length) : cget (joinC d u v) x = if cget d x = max (cget d u) (cget d v) then min (cget d u) (cget d v) else cget d x := by
  unfold joinC; rw [cget_map _ h]; rfl
theorem Lst.join {n : Nat} {d : List Int} (hl : d.length = n) (h : Lst n d) {u v : Nat} (hu : u < n) (hv : v < n) (hu0 : 0 ≤ cget d u) (hv0 : 0 ≤ cget d v) : Lst n (joinC d u v) := by
  by_cases he : cget d u = cget d v
  · have e : joinC d u v = d := by
      unfold joinC
      rw [he, Int.max_self, Int.min_self]
      conv => rhs; rw [← List.map_id d]
      refine List.map_congr_left fun c _ => ?_
      unfold mgF; split
      · rename_i h; exact h.symm
      · rfl
    rw [e]; exact h
  have hu1 := h u hu hu0
  have hv1 := h v hv hv0
  -- the lesser label and its state
  have hmin : cget d (min (cget d u) (cget d v)).toNat = min (cget d u) (cget d v) ∧ (min (cget d u) (cget d v)).toNat < n := by
    rcases Int.le_total (cget d u) (cget d v) with h1 | h1
    · rw [Int.min_eq_left h1]; exact ⟨hu1.2, by omega⟩
    · rw [Int.min_eq_right h1]; exact ⟨hv1.2, by omega⟩
  have hne : min (cget d u) (cget d v) ≠ max (cget d u) (cget d v) := by omega
  intro x hx hx0
  rw [cget_join (by omega)] at hx0 ⊢
  by_cases h1 : cget d x = max (cget d u) (cget d v)
  · rw [if_pos h1] at hx0 ⊢
    have hx1 := h x hx (by omega)
    refine ⟨by omega, ?_⟩
    rw [cget_join (by omega), hmin.1, if_neg hne]
  · rw [if_neg h1] at hx0 ⊢
    have hx1 := h x hx hx0
    refine ⟨hx1.1, ?_⟩
    rw [cget_join (by omega), hx1.2, if_neg h1]
section
variable {s : Aut} {l : List Ctl} {n : Nat}
theorem lwE_lst (hn : Nx s l n) {x y : Nat} (hx : x < n) (hy : y < n) (z : List Int × Bool) (e : Int) (he : e ∈ (lget l x).en) (h0 : 0 ≤ cget z.1 x) (h1 : cget z.1 x = cget z.1 y) (hl : z.1.length = n) (ho : Occ s l n z.1) (hL : Lst n z.1) : Lst n (lwE s l x y z e).1 := by
  unfold lwE
  split
  · exact hL
  · rename_i h2
    have h2' : e ∈ (lget l y).en := Decidable.not_not.1 h2
    rw [(hn x hx e he).1, (hn y hy e h2').1]
    obtain ⟨a1, a2⟩ := ho x hx h0 e he
    obtain ⟨b1, b2⟩ := ho y hy (by omega) e h2'
    split
    · exact hL.join hl a1 b1 a2 b2
    · exact hL
theorem lwE_fold_lst (hn : Nx s l n) {x y : Nat} (hx : x < n) (hy : y < n) : ∀ (vs : List Int) (z : List Int × Bool), (∀ e ∈ vs, e ∈ (lget l x).en) → z.1.length = n → Occ s l n z.1 → 0 ≤ cget z.1 x → cget z.1 x = cget z.1 y → Lst n z.1 → Lst n (vs.foldl (lwE s l x y) z).1
  | [], _, _, _, _, _, _, h => h
  | v :: vs, z, hv, hl, ho, h0, h1, hL => by
    have hs := lwE_stps hn hx hy z v (hv v List.mem_cons_self) h0 h1
    have k := hs.kp hl ho
    have := k.sg x hx
    exact lwE_fold_lst hn hx hy vs _ (fun e he => hv e (List.mem_cons_of_mem _ he)) k.len (ho.of k.sg) (by omega) (k.up x y hx hy h1) (lwE_lst hn hx hy z v (hv v List.mem_cons_self) h0 h1 hl ho hL)
theorem fold_lst {α : Type} {f : List Int × Bool → α → List Int × Bool} {P : α → Prop} (hf : ∀ z a, P a → z.1.length = n → Occ s l n z.1 → Stps s l n z (f z a)) (hL : ∀ z a, P a → z.1.length = n → Occ s l n z.1 → Lst n z.1 → Lst n (f z a).1) :
    ∀ (rs : List α) (z : List Int × Bool), (∀ a ∈ rs, P a) → z.1.length = n → Occ s l n z.1 → Lst n z.1 → Lst n (rs.foldl f z).1
  | [], _, _, _, _, h => h
  | a :: rs, z, hP, hl, ho, h => by
    have k := (hf z a (hP a List.mem_cons_self) hl ho).kp hl ho
    exact fold_lst hf hL rs _ (fun b hb => hP b (List.mem_cons_of_mem _ hb)) k.len (ho.of k.sg) (hL z a (hP a List.mem_cons_self) hl ho h)
theorem lwY_lst (hn : Nx s l n) {x : Nat} (hx : x < n) (z : List Int × Bool) (y : Nat) (hy : y < n) (hl : z.1.length = n) (ho : Occ s l n z.1) (hL : Lst n z.1) : Lst n (lwY s l x z y).1 := by
  unfold lwY
  split
  · exact hL
  · rename_i h
    exact lwE_fold_lst hn hx hy _ z (fun _ h => h) hl ho (by omega) (by omega) hL
theorem lwX_lst (hn : Nx s l n) (z : List Int × Bool) (x : Nat) (hx : x < n) (hl : z.1.length = n) (ho : Occ s l n z.1) (hL : Lst n z.1) : Lst n (lwX s l z x).1 := by
  unfold lwX
  exact fold_lst (P := fun y => y < n) (fun z y hy hl ho => lwY_stps hn hx z y hy hl ho) (fun z y hy hl ho h => lwY_lst hn hx z y hy hl ho h) _ z (fun y hy => by rw [List.mem_range'_1] at hy; omega) hl ho hL
theorem lwPass_lst (hn : Nx s l n) (c : List Int) (hl : c.length = n) (ho : Occ s l n c) (hL : Lst n c) : Lst n (lwPass s l c).1 := by
  unfold lwPass
  rw [hl]
  exact fold_lst (P := fun y => y < n) (fun z y hy hl ho => lwX_stps hn z y hy hl ho) (fun z y hy hl ho h => lwX_lst hn z y hy hl ho h) _ (c, false) (fun y hy => by rw [List.mem_range'_1] at hy; omega) hl ho hL
theorem lwClose_lst (hn : Nx s l n) : ∀ (f : Nat) (c : List Int), c.length = n → Occ s l n c → Lst n c → Lst n (lwClose s l f c)
  | 0, _, _, _, h => h
  | f + 1, c, hl, ho, hL => by
    have k := (lwPass_stps hn c hl ho).kp hl ho
    have h1 := lwPass_lst hn c hl ho hL
    rw [lwClose]
    split
    · exact lwClose_lst hn f _ k.len (ho.of k.sg) h1
    · exact h1
/-! ### Trying two states -/
def lwCons (l : List Ctl) (c : List Int) : Bool := (List.range' 0 c.length).all fun x => (List.range' 0 x).all fun y => !(decide (0 ≤ cget c x ∧ cget c x = cget c y) && !lawC (lget l x) (lget l y))
def lwMerge (s : Aut) (l : List Ctl) (c : List Int) (i j : Nat) : List Int × Bool :=
  if lwCons l (lwClose s l (c.length * c.length + 1) (joinC c i j)) = true then (lwClose s l (c.length * c.length + 1) (joinC c i j), true) else (c, false)
def lwTry (s : Aut) (l : List Ctl) (c : List Int) (i j : Nat) : List Int := if 0 ≤ cget c i ∧ 0 ≤ cget c j ∧ cget c i ≠ cget c j then (lwMerge s l c i j).1 else c
/-- All lists of Controls are sets. -/
def IncA (l : List Ctl) (n : Nat) : Prop := ∀ x, x < n → Inc (lget l x).en ∧ Inc (lget l x).dis
theorem all_congr' {α : Type} {f g : α → Bool} : ∀ {rs : List α}, (∀ x ∈ rs, f x = g x) → rs.all f = rs.all g
  | [], _ => rfl
  | x :: rs, h => by rw [List.all_cons, List.all_cons, h x List.mem_cons_self, all_congr' (fun y hy => h y (List.mem_cons_of_mem _ hy))]
theorem cons_same (hi : IncA l n) {c d : List Int} (hc : c.length = n) (hd : d.length = n) (h : Sm n c d) : consAll l c = lwCons l d := by
  unfold consAll lwCons
  rw [hc, hd]
  refine all_congr' fun x hx => all_congr' fun y hy => ?_
  rw [List.mem_range'_1] at hx hy
  have hx' : x < n := by omega
  have hy' : y < n := by omega
  rw [consC_law (hi x hx').1 (hi x hx').2 (hi y hy').1 (hi y hy').2]
  have e : decide (0 ≤ cget c x ∧ cget c x = cget c y) = decide (0 ≤ cget d x ∧ cget d x = cget d y) := by
    rw [decide_eq_decide]
    have := h.sg x hx'
    have h1 := h.r x y hx' hy'
    have h2 := h.q x y hx' hy'
    constructor
    · rintro ⟨a, b⟩; exact ⟨by omega, h1 b⟩
    · rintro ⟨a, b⟩; exact ⟨by omega, h2 b⟩
  rw [e]
/-- What is kept while states are tried. -/
structure TrI (s : Aut) (l : List Ctl) (n : Nat) (c d : List Int) : Prop where
  lc : c.length = n
  ld : d.length = n
  sm : Sm n c d
  oc : Occ s l n c
  ls : Lst n d
theorem TrI.od {c d : List Int} (h : TrI s l n c d) : Occ s l n d := h.oc.of h.sm.sg
theorem try_same (hi : IncA l n) (hn : Nx s l n) {c d : List Int} (h : TrI s l n c d) {x y : Nat} (hx : x < n) (hy : y < n) : TrI s l n (tryC s l c x y) (lwTry s l d x y) := by
  have sx := h.sm.sg x hx
  have sy := h.sm.sg y hy
  have r := h.sm.r x y hx hy
  have q := h.sm.q x y hx hy
  unfold tryC lwTry
  by_cases h1 : cget c x < 0 ∨ cget c y < 0 ∨ cget c x = cget c y
  · have hcond : ¬ (0 ≤ cget d x ∧ 0 ≤ cget d y ∧ cget d x ≠ cget d y) := fun e => h1.elim (fun a => by omega) (fun a => a.elim (fun a => by omega) (fun a => e.2.2 (r a)))
    rw [if_pos h1, if_neg hcond]
    exact h
  · have hcond : 0 ≤ cget d x ∧ 0 ≤ cget d y ∧ cget d x ≠ cget d y := ⟨by omega, by omega, fun e => h1 (.inr (.inr (q e)))⟩
    rw [if_neg h1, if_pos hcond]
    have hod := h.od
    have hiL : IncL l n := fun x hx => (hi x hx).1
    have hc0 : 0 ≤ cget c x := by omega
    have hc1 : 0 ≤ cget c y := by omega
    have hd0 : 0 ≤ cget d x := by omega
    have hd1 : 0 ≤ cget d y := by omega
    -- after the merge
    have lc' : (mergeC c x y).length = n := by rw [mergeC_len]; exact h.lc
    have oc' : Occ s l n (mergeC c x y) := h.oc.of fun q hq => merge_sign h.lc hc0 hc1 hq
    have ld' : (joinC d x y).length = n := by rw [joinC_len]; exact h.ld
    have sgd : ∀ q, q < n → (cget (joinC d x y) q < 0 ↔ cget d q < 0) := fun q hq => by
      rcases joinC_merge d x y with e | e
      · rw [e]; exact merge_sign h.ld hd0 hd1 hq
      · rw [e]; exact merge_sign h.ld hd1 hd0 hq
    have od' : Occ s l n (joinC d x y) := hod.of sgd
    have updj : Rf n d (joinC d x y) := by
      rcases joinC_merge d x y with e | e
      · rw [e]; exact Rf.of_merge h.ld _ _
      · rw [e]; exact Rf.of_merge h.ld _ _
    have jxy : cget (joinC d x y) x = cget (joinC d x y) y := by
      rcases joinC_merge d x y with e | e
      · rw [e]; exact merge_eq h.ld hx hy
      · rw [e]; exact (merge_eq h.ld hy hx).symm
    have dnj : ∀ e, Rf n d e → cget e x = cget e y → Rf n (joinC d x y) e := fun e hr hxy => by
      rcases joinC_merge d x y with e' | e'
      · rw [e']; exact Rf.merge h.ld hr hx hy hxy
      · rw [e']; exact Rf.merge h.ld hr hy hx hxy.symm
    have K1 := closeC_spec hiL (c.length * c.length + 1) (mergeC c x y) lc' oc' (by have := uneq_le (mergeC c x y); rw [mergeC_len] at this; omega)
    have K2 := lwClose_spec hn (d.length * d.length + 1) (joinC d x y) ld' od' (by have := uneq_le (joinC d x y); rw [joinC_len] at this; omega)
    have L2 := lwClose_lst hn (d.length * d.length + 1) (joinC d x y) ld' od' (h.ls.join h.ld hx hy hd0 hd1)
    have sgc : ∀ q, q < n → (cget (mergeC c x y) q < 0 ↔ cget c q < 0) := fun q hq => merge_sign h.lc hc0 hc1 hq
    have S : Sm n (closeC s l (c.length * c.length + 1) (mergeC c x y)) (lwClose s l (d.length * d.length + 1) (joinC d x y)) := by
      refine ⟨K1.dn _ K2.cl (fun q hq => ?_) ?_, K2.dn _ K1.cl (fun q hq => ?_) ?_, fun q hq => ?_⟩
      · rw [K2.sg q hq, sgd q hq, h.sm.sg q hq, sgc q hq]
      · exact Rf.merge h.lc ((h.sm.r.trans updj).trans K2.up) hx hy (K2.up x y hx hy jxy)
      · rw [K1.sg q hq, sgc q hq, sgd q hq, h.sm.sg q hq]
      · exact dnj _ ((h.sm.q.trans (Rf.of_merge h.lc _ _)).trans K1.up) (K1.up x y hx hy (merge_eq h.lc hx hy))
      · rw [K2.sg q hq, sgd q hq, h.sm.sg q hq, K1.sg q hq, sgc q hq]
    have hcons := cons_same hi K1.len K2.len S
    unfold lwMerge
    by_cases hk : consAll l (closeC s l (c.length * c.length + 1) (mergeC c x y)) = true
    · rw [if_pos hk, if_pos (by rw [← hcons]; exact hk)]
      exact ⟨K1.len, K2.len, S, oc'.of K1.sg, L2⟩
    · rw [if_neg hk, if_neg (by rw [← hcons]; exact hk)]
      exact h
def lwTX (s : Aut) (l : List Ctl) (n : Nat) (c : List Int) (x : Nat) : List Int := (List.range' (x + 1) (n - (x + 1))).foldl (fun c y => lwTry s l c x y) c
def lwA (s : Aut) (l : List Ctl) (c : List Int) : List Int := (List.range' 0 c.length).foldl (lwTX s l c.length) c
theorem fold_two {α : Type} {f g : List Int → α → List Int} {P : α → Prop} {I : List Int → List Int → Prop} (h : ∀ c d a, P a → I c d → I (f c a) (g d a)) : ∀ (rs : List α) (c d : List Int), (∀ a ∈ rs, P a) → I c d → I (rs.foldl f c) (rs.foldl g d)
  | [], _, _, _, hI => hI
  | a :: rs, c, d, hP, hI => fold_two h rs _ _ (fun b hb => hP b (List.mem_cons_of_mem _ hb)) (h c d a (hP a List.mem_cons_self) hI)
theorem cls_same (hi : IncA l n) (hn : Nx s l n) {c d : List Int} (h : TrI s l n c d) : TrI s l n (clsA s l c) (lwA s l d) := by
  unfold clsA lwA
  rw [h.lc, h.ld]
  refine fold_two (P := fun x => x < n) (I := TrI s l n) (fun c d x hx hI => ?_) _ c d (fun x hx => by rw [List.mem_range'_1] at hx; omega) h
  unfold tryX lwTX
  exact fold_two (f := fun c y => tryC s l c x y) (g := fun d y => lwTry s l d x y) (P := fun y => y < n) (I := TrI s l n) (fun c d y hy hI => try_same hi hn hI hx hy) (List.range' (x + 1) (n - (x + 1))) c d (fun y hy => by rw [List.mem_range'_1] at hy; omega) hI
end
/-! ### The numbers -/
def lwN (d : List Int) (z : List Int × Nat) (x : Nat) : List Int × Nat :=
  if cget d x < 0 then (z.1 ++ [-1], z.2) else if cget d x = x then (z.1 ++ [(z.2 : Int)], z.2 + 1) else (z.1 ++ [cget z.1 (cget d x).toNat], z.2)
def lwNums (d : List Int) : List Int × Nat := (List.range' 0 d.length).foldl (lwN d) ([], 0)
theorem idx_append {K : List Int} {a b : Int} (h : a ∈ K) : (K ++ [b]).idxOf a = K.idxOf a := by rw [List.idxOf_append, if_pos h]
theorem cget_snoc_lt {l : List Int} {a : Int} {i : Nat} (h : i < l.length) : cget (l ++ [a]) i = cget l i := cget_pre h
theorem cget_snoc_eq {l : List Int} {a : Int} : cget (l ++ [a]) l.length = a := by simp [cget, List.getD]
/-- While the numbers are given. -/
structure NmI (c d : List Int) (k : Nat) (z1 : List Int × List Int) (z2 : List Int × Nat) : Prop where
  eq : z1.2 = z2.1
  len : z1.2.length = k
  cnt : z1.1.length = z2.2 + 1
  neg : (-1 : Int) ∈ z1.1
  n0 : z1.1.idxOf (-1) = 0
  mem : ∀ b ∈ z1.1, b = -1 ∨ ∃ y, y < k ∧ cget c y = b ∧ 0 ≤ b
  inn : ∀ y, y < k → cget c y ∈ z1.1 ∧ cget z1.2 y = (z1.1.idxOf (cget c y) : Int) - 1
theorem num_same {n : Nat} {c d : List Int} (hc : c.length = n) (hd : d.length = n) (h : Sm n c d) (hL : Lst n d) (hm : ∀ x, x < n → cget c x < 0 → cget c x = -1) : ∀ k, k ≤ n → NmI c d k ((c.take k).foldl numS ([-1], [])) ((List.range' 0 k).foldl (lwN d) ([], 0))
  | 0, _ => ⟨rfl, rfl, rfl, by simp, by simp, fun b hb => .inl (by simpa using hb), fun y hy => by omega⟩
  | k + 1, hk => by
    have ih := num_same hc hd h hL hm k (by omega)
    have hkc : k < c.length := by omega
    rw [List.take_succ_eq_append_getElem hkc, List.foldl_append, List.range'_1_concat, List.foldl_append, Nat.zero_add]
    simp only [List.foldl_cons, List.foldl_nil]
    rw [cget_eq hkc]
    generalize (c.take k).foldl numS ([-1], []) = z1 at ih
    generalize (List.range' 0 k).foldl (lwN d) ([], 0) = z2 at ih
    have hk' : k < n := by omega
    have sk := h.sg k hk'
    have old : ∀ {K' : List Int} {a : Int}, (∀ b, b ∈ z1.1 → K'.idxOf b = z1.1.idxOf b ∧ b ∈ K') → ∀ y, y < k → cget c y ∈ K' ∧ cget (z1.2 ++ [a]) y = (K'.idxOf (cget c y) : Int) - 1 := fun hK y hy => by
      obtain ⟨i1, i2⟩ := ih.inn y hy
      obtain ⟨j1, j2⟩ := hK _ i1
      exact ⟨j2, by rw [cget_snoc_lt (by rw [ih.len]; exact hy), i2, j1]⟩
    have same : ∀ b, b ∈ z1.1 → z1.1.idxOf b = z1.1.idxOf b ∧ b ∈ z1.1 := fun b hb => ⟨rfl, hb⟩
    unfold numS lwN
    by_cases hneg : cget c k < 0
    · have e1 := hm k hk' hneg
      rw [if_pos (by rw [e1]; exact ih.neg), if_pos (by omega), e1, ih.n0]
      refine ⟨by simp [ih.eq], by simp [ih.len], ih.cnt, ih.neg, ih.n0, fun b hb => ?_, fun y hy => ?_⟩
      · rcases ih.mem b hb with a | ⟨y, y1, y2, y3⟩
        · exact .inl a
        · exact .inr ⟨y, by omega, y2, y3⟩
      · by_cases e : y = k
        · subst e
          refine ⟨by rw [e1]; exact ih.neg, ?_⟩
          rw [e1, ih.n0]
          have := cget_snoc_eq (l := z1.2) (a := ((0 : Nat) : Int) - 1)
          rw [ih.len] at this
          exact this
        · exact old same y (by omega)
    · rw [if_neg (show ¬ cget d k < 0 by omega)]
      have hd0 : 0 ≤ cget d k := by omega
      obtain ⟨m1, m2⟩ := hL k hk' hd0
      by_cases hin : cget c k ∈ z1.1
      · rw [if_pos hin]
        obtain ⟨y, y1, y2, y3⟩ := (ih.mem _ hin).resolve_left (by omega)
        have hy' : y < n := by omega
        have e2 : cget d y = cget d k := h.r y k hy' hk' y2
        have hy0 := hL y hy' (by omega)
        have hlt : (cget d k).toNat < k := by omega
        rw [if_neg (show ¬ cget d k = (k : Int) by omega)]
        have e3 : cget c (cget d k).toNat = cget c k := h.q _ k (by omega) hk' m2
        obtain ⟨j1, j2⟩ := ih.inn _ hlt
        rw [e3] at j2
        refine ⟨by rw [← ih.eq, j2], by simp [ih.len], ih.cnt, ih.neg, ih.n0, fun b hb => ?_, fun q hq => ?_⟩
        · rcases ih.mem b hb with a | ⟨y, y1, y2, y3⟩
          · exact .inl a
          · exact .inr ⟨y, by omega, y2, y3⟩
        · by_cases e : q = k
          · subst e
            refine ⟨hin, ?_⟩
            have := cget_snoc_eq (l := z1.2) (a := (z1.1.idxOf (cget c q) : Int) - 1)
            rw [ih.len] at this
            exact this
          · exact old same q (by omega)
      · rw [if_neg hin]
        have hself : cget d k = (k : Int) := by
          rcases Int.lt_or_le (cget d k) k with hlt | hge
          · exfalso
            have e3 : cget c (cget d k).toNat = cget c k := h.q _ k (by omega) hk' m2
            have := (ih.inn (cget d k).toNat (by omega)).1
            rw [e3] at this
            exact hin this
          · omega
        rw [if_pos hself]
        have hcnt := ih.cnt
        refine ⟨by simp only []; rw [← ih.eq]; congr 2; omega, by simp [ih.len], by simp; omega, List.mem_append_left _ ih.neg, by rw [idx_append ih.neg]; exact ih.n0, fun b hb => ?_, fun q hq => ?_⟩
        · rcases List.mem_append.1 hb with hb | hb
          · rcases ih.mem b hb with a | ⟨y, y1, y2, y3⟩
            · exact .inl a
            · exact .inr ⟨y, by omega, y2, y3⟩
          · simp only [List.mem_singleton] at hb; subst hb; exact .inr ⟨k, by omega, rfl, by omega⟩
        · by_cases e : q = k
          · subst e
            refine ⟨by simp, ?_⟩
            rw [List.idxOf_append, if_neg hin]
            have := cget_snoc_eq (l := z1.2) (a := (z1.1.length : Int) - 1)
            rw [ih.len] at this
            simp only [List.idxOf_cons_self, Nat.zero_add]
            exact this
          · exact old (fun b hb => ⟨idx_append hb, List.mem_append_left _ hb⟩) q (by omega)
end Go.Proofs.YtfhgnlkdcdlblaaGreatDoor
/- SupervisorReduces, plain law, part 4: the Controls, the numbers, the reduced supervisor. -/
namespace Go.Proofs.YtfhgnlkdcdlblaaGreatDoor
open Go.Lg

/-! ### The first classes -/
def occB (pairs : List (List Int)) (x : Nat) : Bool := pairs.any fun q => decide (py q = (x : Int))
def lw0 (n : Nat) (pairs : List (List Int)) : List Int := (List.range' 0 n).map fun x : Nat => if occB pairs x = true then (x : Int) else -1
theorem cget_range {n : Nat} (f : Nat → Int) {x : Nat} (h : x < n) : cget ((List.range' 0 n).map f) x = f x := by simp [cget, List.getD, h]
theorem cget_lw0 {n : Nat} {pairs : List (List Int)} {x : Nat} (h : x < n) : cget (lw0 n pairs) x = if occB pairs x = true then (x : Int) else -1 := cget_range _ h
theorem occs_get {n : Nat} {x : Nat} (hx : x < n) : ∀ (pairs : List (List Int)) (o : List Bool), o.length = n → (∀ q ∈ pairs, 0 ≤ py q ∧ py q < n) → (pairs.foldl (fun o q => o.set (py q).toNat true) o).getD x false = (o.getD x false || occB pairs x)
  | [], o, _, _ => by simp [occB]
  | q :: pairs, o, hl, hv => by
    have hq := hv q List.mem_cons_self
    rw [List.foldl_cons, occs_get hx pairs _ (by simpa using hl) (fun r hr => hv r (List.mem_cons_of_mem _ hr))]
    unfold occB
    rw [List.any_cons]
    by_cases e : py q = (x : Int)
    · have : (py q).toNat = x := by omega
      rw [this, decide_eq_true e]
      have h1 : (o.set x true).getD x false = true := by simp [List.getD, hl, hx]
      rw [h1]; simp
    · have : (py q).toNat ≠ x := by omega
      rw [decide_eq_false e]
      have h1 : (o.set (py q).toNat true).getD x false = o.getD x false := by simp [List.getD, List.getElem?_set_ne this]
      rw [h1]; simp
theorem cls0_eq {p s : Aut} {pairs : List (List Int)} (hv : ∀ q ∈ pairs, Vt [p, s] q) : cls0 (occs s.st.toNat pairs) = lw0 s.st.toNat pairs := by
  unfold cls0 lw0
  rw [occs_len]
  refine List.map_congr_left fun x hx => ?_
  rw [List.mem_range'_1] at hx
  have hx' : x < s.st.toNat := by omega
  unfold occs
  rw [occs_get hx' pairs (List.replicate s.st.toNat false) (by simp) (fun q hq => by
    obtain ⟨a, b, rfl, _, h2⟩ := Vt2 (hv q hq)
    show 0 ≤ (b : Int) ∧ (b : Int) < _
    omega)]
  have : (List.replicate s.st.toNat false).getD x false = false := by simp [List.getD, hx']
  rw [this, Bool.false_or]
theorem ctls_eq {p s : Aut} (hp : Okay p) (hs : Okay s) {pairs : List (List Int)} (hv : ∀ q ∈ pairs, Vt [p, s] q) : ctls p s pairs = (List.range' 0 s.st.toNat).map fun x : Nat => ctlD p s pairs x := by
  refine List.ext_getElem (by rw [ctls_len]; simp) fun i h1 h2 => ?_
  have h3 : i < s.st.toNat := by rw [ctls_len] at h1; exact h1
  have := ctls_def hp hs hv i h3
  unfold lget at this
  rw [List.getElem_map, List.getElem_range', Nat.zero_add, Nat.one_mul, ← this]
  simp [List.getD, h1]
section
variable {p s : Aut} {pairs : List (List Int)}
theorem ctls_incA (hp : Okay p) (hs : Okay s) (hv : ∀ q ∈ pairs, Vt [p, s] q) : IncA (ctls p s pairs) s.st.toNat := fun x hx => by
  rw [ctls_def hp hs hv x hx]
  exact ⟨List.Pairwise.sublist List.filter_sublist hs.ali, List.Pairwise.sublist List.filter_sublist hs.ali⟩
theorem ctls_en (hp : Okay p) (hs : Okay s) (hv : ∀ q ∈ pairs, Vt [p, s] q) {x : Nat} (hx : x < s.st.toNat) {e : Int} (he : e ∈ (lget (ctls p s pairs) x).en) : e ∈ s.al ∧ canX p pairs x e = true ∧ 0 ≤ nxt s.ed x e := by
  rw [ctls_def hp hs hv x hx] at he
  simp only [ctlD, List.mem_filter, Bool.and_eq_true, decide_eq_true_eq] at he
  exact ⟨he.1, he.2.1, he.2.2⟩
theorem ctls_nx (hp : Okay p) (hs : Okay s) (hv : ∀ q ∈ pairs, Vt [p, s] q) : Nx s (ctls p s pairs) s.st.toNat := fun x hx e he => by
  have h := (ctls_en hp hs hv hx he).2.2
  have h1 := h
  rw [nxt_eget] at h1 ⊢
  unfold to0
  cases hg : eget s.ed x e with
  | none => rw [hg] at h1; simp at h1
  | some u => rw [hg] at h1; exact ⟨rfl, h1⟩
theorem ctls_occ (hp : Okay p) (hs : Okay s) {A : Aut} (h : SyP [p, s] A pairs) : Occ s (ctls p s pairs) s.st.toNat (lw0 s.st.toNat pairs) := fun x hx _ e he => by
  have hv := h.v
  obtain ⟨h1, h2, h3⟩ := ctls_en hp hs hv hx he
  obtain ⟨n1, n2⟩ := ctls_nx hp hs hv x hx e he
  have hlt : nxt s.ed x e < s.st := (hs.ed _ (nxt_mem h3)).2.2.2.2
  have ho : ∀ a ∈ [p, s], Okay a := fun a ha => by
    simp only [List.mem_cons, List.not_mem_nil, or_false] at ha
    rcases ha with rfl | rfl
    · exact hp
    · exact hs
  -- the pair that leads there
  unfold canX at h2
  rw [List.any_eq_true] at h2
  obtain ⟨q, hq, hqx⟩ := h2
  simp only [Bool.and_eq_true, decide_eq_true_eq] at hqx
  obtain ⟨a, b, rfl, ha, hb⟩ := Vt2 (hv q hq)
  have e1 : px [(a : Int), (b : Int)] = (a : Int) := rfl
  have e2 : py [(a : Int), (b : Int)] = (b : Int) := rfl
  rw [e1, e2] at hqx
  obtain ⟨rfl, hpa⟩ : b = x ∧ 0 ≤ nxt p.ed a e := ⟨by omega, hqx.2⟩
  obtain ⟨j, hj, hqj⟩ := List.getElem_of_mem hq
  have hpal : e ∈ p.al := (hp.ed _ (nxt_mem hpa)).2.2.1
  have hev : e ∈ evs [p, s] := (evs_mem ho e).2 ⟨p, by simp, hpal⟩
  have hst : stepT e [p, s] [(a : Int), (b : Int)] = some [nxt p.ed a e, nxt s.ed b e] := by
    have g1 := (nxt_nonneg hp a e).1 hpa
    have g2 := (nxt_nonneg hs b e).1 h3
    obtain ⟨u, hu⟩ := Option.isSome_iff_exists.1 g1
    obtain ⟨t, ht⟩ := Option.isSome_iff_exists.1 g2
    have f1 : nxt p.ed a e = u := by rw [nxt_eget, hu]
    have f2 : nxt s.ed b e = t := by rw [nxt_eget, ht]
    rw [stepT, if_neg (fun h => h hpal), hu, stepT, if_neg (fun h => h h1), ht, f1, f2]
    rfl
  have hg : pairs.getD j [] = [(a : Int), (b : Int)] := by rw [← hqj]; simp [List.getD, hj]
  have hm := h.cl j hj e hev _ (by rw [hg]; exact hst)
  have hto : (to0 s b e).toNat < s.st.toNat := by rw [← n1]; omega
  refine ⟨hto, ?_⟩
  rw [cget_lw0 hto, if_pos]
  · omega
  · unfold occB
    rw [List.any_eq_true]
    refine ⟨_, hm, ?_⟩
    have e3 : py [nxt p.ed a e, nxt s.ed b e] = nxt s.ed b e := rfl
    rw [e3, n1]; simp; omega
theorem lw0_tri (hp : Okay p) (hs : Okay s) {A : Aut} (h : SyP [p, s] A pairs) : TrI s (ctls p s pairs) s.st.toNat (lw0 s.st.toNat pairs) (lw0 s.st.toNat pairs) := by
  refine ⟨by simp [lw0], by simp [lw0], Sm.refl _ _, ctls_occ hp hs h, fun x hx h0 => ?_⟩
  rw [cget_lw0 hx] at h0 ⊢
  split at h0
  · rename_i ho
    rw [if_pos ho]
    refine ⟨Int.le_refl _, ?_⟩
    rw [Int.toNat_natCast, cget_lw0 hx, if_pos ho]
  · omega
end
/-! ### Labels that are no classes are -1 -/
def Ng (c : List Int) : Prop := ∀ x, cget c x < 0 → cget c x = -1
theorem Ng.merge {c : List Int} (h : Ng c) (u v : Nat) : Ng (mergeC c u v) := by
  intro x hx
  rcases Nat.lt_or_ge x c.length with hl | hl
  · rw [cget_merge hl] at hx ⊢
    split at hx
    · rename_i e; rw [if_pos e]; exact h u hx
    · rename_i e; rw [if_neg e]; exact h x hx
  · have : cget (mergeC c u v) x = 0 := by simp [cget, List.getD, mergeC_len, hl]
    omega
theorem Stps.ng {s : Aut} {l : List Ctl} {n : Nat} {z z' : List Int × Bool} (h : Stps s l n z z') (hn : Ng z.1) : Ng z'.1 := by
  induction h with
  | refl => exact hn
  | step u t _ _ _ ih => exact ih.merge u t
section
variable {s : Aut} {l : List Ctl} {n : Nat}
theorem closeC_ng (hi : IncL l n) : ∀ (f : Nat) (c : List Int), c.length = n → Occ s l n c → Ng c → Ng (closeC s l f c)
  | 0, _, _, _, h => h
  | f + 1, c, hl, ho, hN => by
    have hs := pass_stps hi c hl ho
    have k := hs.kp hl ho
    rw [closeC]
    split
    · exact closeC_ng hi f _ k.len (ho.of k.sg) (hs.ng hN)
    · exact hs.ng hN
theorem clsA_ng (hi : IncA l n) (hn : Nx s l n) {c d : List Int} (h : TrI s l n c d) (hN : Ng c) : Ng (clsA s l c) := by
  have key : TrI s l n (clsA s l c) (lwA s l d) ∧ Ng (clsA s l c) := by
    unfold clsA lwA
    rw [h.lc, h.ld]
    refine fold_two (P := fun x => x < n) (I := fun c d => TrI s l n c d ∧ Ng c) (fun c d x hx hI => ?_) _ c d (fun x hx => by rw [List.mem_range'_1] at hx; omega) ⟨h, hN⟩
    unfold tryX lwTX
    refine fold_two (f := fun c y => tryC s l c x y) (g := fun d y => lwTry s l d x y) (P := fun y => y < n) (I := fun c d => TrI s l n c d ∧ Ng c) (fun c d y hy hI => ⟨try_same hi hn hI.1 hx hy, ?_⟩) (List.range' (x + 1) (n - (x + 1))) c d (fun y hy => by rw [List.mem_range'_1] at hy; omega) hI
    unfold tryC
    split
    · exact hI.2
    · rename_i h1
      have hc0 : 0 ≤ cget c x := by omega
      have hc1 : 0 ≤ cget c y := by omega
      have := closeC_ng (s := s) (fun x hx => (hi x hx).1) (c.length * c.length + 1) (mergeC c x y) (by rw [mergeC_len]; exact hI.1.lc) (hI.1.oc.of fun q hq => merge_sign hI.1.lc hc0 hc1 hq) (hI.2.merge x y)
      simp only []
      split
      · exact this
      · exact hI.2
  exact key.2
end
/-! ### The numbers and their greatest -/
theorem numMax {n : Nat} {c d : List Int} (hc : c.length = n) (hd : d.length = n) (h : Sm n c d) (hL : Lst n d) (hm : ∀ x, x < n → cget c x < 0 → cget c x = -1) : ∀ k, k ≤ n → ((List.range' 0 k).foldl (lwN d) ([], 0)).2 = 0 ∨ ∃ y, y < k ∧ cget ((List.range' 0 k).foldl (lwN d) ([], 0)).1 y = (((List.range' 0 k).foldl (lwN d) ([], 0)).2 : Int) - 1
  | 0, _ => .inl rfl
  | k + 1, hk => by
    have ih := numMax hc hd h hL hm k (by omega)
    have I := num_same hc hd h hL hm k (by omega)
    have hlen := I.len
    rw [I.eq] at hlen
    rw [List.range'_1_concat, List.foldl_append, Nat.zero_add]
    simp only [List.foldl_cons, List.foldl_nil]
    generalize (List.range' 0 k).foldl (lwN d) ([], 0) = z at ih hlen
    unfold lwN
    split
    · rcases ih with h1 | ⟨y, h1, h2⟩
      · exact .inl h1
      · exact .inr ⟨y, by omega, by simp only []; rw [cget_snoc_lt (by omega)]; exact h2⟩
    · split
      · right
        refine ⟨k, by omega, ?_⟩
        have := cget_snoc_eq (l := z.1) (a := (z.2 : Int))
        rw [hlen] at this
        simp only []
        rw [this]; omega
      · rcases ih with h1 | ⟨y, h1, h2⟩
        · exact .inl h1
        · exact .inr ⟨y, by omega, by simp only []; rw [cget_snoc_lt (by omega)]; exact h2⟩
theorem maxI_ge {l : List Int} {x : Nat} (h : x < l.length) : cget l x ≤ maxI l := by
  have key : ∀ (r : List Int) (m : Int), m ≤ r.foldl max m ∧ ∀ a ∈ r, a ≤ r.foldl max m := by
    intro r
    induction r with
    | nil => intro m; exact ⟨Int.le_refl _, fun a ha => by cases ha⟩
    | cons b r ih =>
      intro m
      rw [List.foldl_cons]
      obtain ⟨h1, h2⟩ := ih (max m b)
      refine ⟨by omega, fun a ha => ?_⟩
      rcases List.mem_cons.1 ha with rfl | ha
      · omega
      · exact h2 a ha
  cases l with
  | nil => simp at h
  | cons a l =>
    unfold maxI
    have e : cget (a :: l) 0 = a := rfl
    rw [e]
    simp only [List.drop_succ_cons, List.drop_zero]
    obtain ⟨h1, h2⟩ := key l a
    cases x with
    | zero => exact h1
    | succ x =>
      have hx : x < l.length := by simpa using h
      have : cget (a :: l) (x + 1) = l[x] := by simp [cget, List.getD, hx]
      rw [this]; exact h2 _ (List.getElem_mem hx)
/-- What the numbers are. -/
structure NmR (n : Nat) (c d : List Int) : Prop where
  eq : nums c = (lwNums d).1
  len : (nums c).length = n
  lo : ∀ x, x < n → (cget (nums c) x < 0 ↔ cget c x < 0)
  m1 : ∀ x, x < n → -1 ≤ cget (nums c) x
  hi : ∀ x, x < n → cget (nums c) x < (lwNums d).2
  mx : 0 < n → maxI (nums c) + 1 = (lwNums d).2
theorem num_all {n : Nat} {c d : List Int} (hc : c.length = n) (hd : d.length = n) (h : Sm n c d) (hL : Lst n d) (hm : ∀ x, x < n → cget c x < 0 → cget c x = -1) : NmR n c d := by
  have I := num_same hc hd h hL hm n (Nat.le_refl _)
  have M := numMax hc hd h hL hm n (Nat.le_refl _)
  rw [List.take_of_length_le (by omega)] at I
  have e1 : (c.foldl numS ([-1], [])).2 = nums c := rfl
  have e2 : (List.range' 0 n).foldl (lwN d) ([], 0) = lwNums d := by unfold lwNums; rw [hd]
  rw [e2] at I M
  have hcnt := I.cnt
  have hhi : ∀ x, x < n → -1 ≤ cget (nums c) x ∧ cget (nums c) x < (lwNums d).2 := fun x hx => by
    obtain ⟨h1, h2⟩ := I.inn x hx
    rw [e1] at h2
    have := List.idxOf_lt_length_of_mem h1
    rw [h2]; omega
  refine ⟨I.eq, I.len, fun x hx => ?_, fun x hx => (hhi x hx).1, fun x hx => (hhi x hx).2, fun h0 => ?_⟩
  · obtain ⟨h1, h2⟩ := I.inn x hx
    rw [e1] at h2
    constructor
    · intro h3
      have h4 : (c.foldl numS ([-1], [])).1.idxOf (cget c x) = 0 := by omega
      have h5 := List.getElem_idxOf (List.idxOf_lt_length_of_mem h1)
      have h6 := List.getElem_idxOf (List.idxOf_lt_length_of_mem I.neg)
      simp only [h4] at h5
      simp only [I.n0] at h6
      rw [h5] at h6
      omega
    · intro h3
      rw [hm x hx h3, I.n0] at h2
      omega
  · have hlen : 0 < (nums c).length := by rw [← e1, I.len]; exact h0
    have hle : (nums c).length = n := by rw [← e1, I.len]
    obtain ⟨x, hx, hxe⟩ := List.getElem_of_mem (maxI_mem hlen)
    rw [cget_eq hx] at hxe
    have h1 := hhi x (by omega)
    rcases M with h2 | ⟨y, hy, h2⟩
    · have := h1.1; rw [← hxe]; omega
    · rw [← I.eq, e1] at h2
      have := maxI_ge (l := nums c) (x := y) (by omega)
      rw [← hxe] at this ⊢
      omega
end Go.Proofs.YtfhgnlkdcdlblaaGreatDoor
/- SupervisorReduces, plain law, part 5: the reduced supervisor of the program is that of the law. -/
namespace Go.Proofs.YtfhgnlkdcdlblaaGreatDoor
open Go.Lg

/-! ### The law's automaton -/
def lwTo1 (s : Aut) (l : List Ctl) (nm : List Int) (c : Nat) (e : Int) (t : Int) (x : Nat) : Int := if cget nm x = (c : Int) ∧ e ∈ (lget l x).en then cget nm (nxt s.ed x e).toNat else t
def lwTo (s : Aut) (l : List Ctl) (nm : List Int) (k c : Nat) (e : Int) : Int := (List.range' 0 k).foldl (lwTo1 s l nm c e) (-1)
def lwMk1 (l : List Ctl) (nm : List Int) (c x : Nat) : Bool := decide (cget nm x = (c : Int)) && (lget l x).mk' && (lget l x).ps
def lwMk (l : List Ctl) (nm : List Int) (k c : Nat) : Bool := (List.range' 0 k).any (lwMk1 l nm c)
def lwG (s : Aut) (l : List Ctl) (nm : List Int) (k c : Nat) (e : Int) : Option Ed := if 0 ≤ lwTo s l nm k c e then some ((c : Int), e, lwTo s l nm k c e) else none
def lwAut (s : Aut) (l : List Ctl) (nm : List Int) (k n : Nat) : Aut := ⟨s.al, (n : Int), ((List.range' 0 n).filter (lwMk l nm k)).map fun c : Nat => (c : Int), grid (lwG s l nm k) s.al n⟩
theorem lwTo_succ (s : Aut) (l : List Ctl) (nm : List Int) (k c : Nat) (e : Int) : lwTo s l nm (k + 1) c e = lwTo1 s l nm c e (lwTo s l nm k c e) k := by
  unfold lwTo; rw [List.range'_1_concat, List.foldl_append, Nat.zero_add]; rfl
theorem lwMk_succ (l : List Ctl) (nm : List Int) (k c : Nat) : lwMk l nm (k + 1) c = (lwMk l nm k c || lwMk1 l nm c k) := by
  unfold lwMk; rw [List.range'_1_concat, List.any_append, Nat.zero_add]; simp
theorem lwG_ok (s : Aut) (l : List Ctl) (nm : List Int) (k : Nat) : GridOk (lwG s l nm k) := by
  intro c e d h
  unfold lwG at h
  split at h
  · cases h; exact ⟨rfl, rfl⟩
  · cases h
/-! ### The program's maps -/
theorem redE_fold (s : Aut) (cls : List Int) (x : Nat) (c : Int) (v : Int) : ∀ (vs : List Int) (m : List ((Int × Int) × Int)), gget (vs.foldl (redE s cls x) m) (c, v) = if c = cget cls x ∧ v ∈ vs then some (cget cls (to0 s x v).toNat) else gget m (c, v)
  | [], m => by simp
  | u :: vs, m => by
    rw [List.foldl_cons, redE_fold s cls x c v vs]
    unfold redE
    rw [gget_gput]
    by_cases hc : c = cget cls x
    · by_cases hv : v ∈ vs
      · rw [if_pos ⟨hc, hv⟩, if_pos ⟨hc, List.mem_cons_of_mem _ hv⟩]
      · rw [if_neg (fun e => hv e.2)]
        by_cases hu : u = v
        · subst hu
          rw [if_pos (by rw [hc]), if_pos ⟨hc, List.mem_cons_self⟩]
        · rw [if_neg (fun e => hu (by simpa using (Prod.mk.inj e).2)), if_neg (fun e => by
            rcases List.mem_cons.1 e.2 with h | h
            · exact hu h.symm
            · exact hv h)]
    · rw [if_neg (fun e => hc e.1), if_neg (fun e => hc ((Prod.mk.inj e).1.symm)), if_neg (fun e => hc e.1)]
section
variable {s : Aut} {l : List Ctl} {n : Nat} {nm : List Int}
/-- What is known of the numbers. -/
structure NmK (s : Aut) (l : List Ctl) (n m : Nat) (nm : List Int) : Prop where
  len : nm.length = n
  hi : ∀ x, x < n → cget nm x < (m : Int)
  nx : Nx s l n
  to : ∀ x, x < n → 0 ≤ cget nm x → ∀ e ∈ (lget l x).en, (to0 s x e).toNat < n ∧ 0 ≤ cget nm (to0 s x e).toNat
structure RdI (s : Aut) (l : List Ctl) (nm : List Int) (k : Nat) (z : List Int × List ((Int × Int) × Int)) : Prop where
  inc : Inc z.1
  mem : ∀ b, b ∈ z.1 ↔ ∃ c : Nat, b = (c : Int) ∧ lwMk l nm k c = true
  get : ∀ (c : Nat) (e : Int), gget z.2 ((c : Int), e) = if 0 ≤ lwTo s l nm k c e then some (lwTo s l nm k c e) else none
theorem red_step {m : Nat} (h : NmK s l n m nm) : ∀ k, k ≤ n → RdI s l nm k ((List.range' 0 k).foldl (redX s l nm) ([], []))
  | 0, _ => ⟨by simp, fun b => by simp [lwMk], fun c e => by simp [lwTo, gget]⟩
  | k + 1, hk => by
    have ih := red_step h k (by omega)
    rw [List.range'_1_concat, List.foldl_append, Nat.zero_add]
    simp only [List.foldl_cons, List.foldl_nil]
    generalize (List.range' 0 k).foldl (redX s l nm) ([], []) = z at ih
    have hk' : k < n := by omega
    unfold redX
    by_cases hneg : cget nm k < 0
    · rw [if_pos hneg]
      refine ⟨ih.inc, fun b => ?_, fun c e => ?_⟩
      · rw [ih.mem b]
        have : ∀ c : Nat, lwMk l nm (k + 1) c = lwMk l nm k c := fun c => by
          rw [lwMk_succ]; unfold lwMk1; rw [decide_eq_false (by omega)]; simp
        constructor
        · rintro ⟨c, h1, h2⟩; exact ⟨c, h1, by rw [this]; exact h2⟩
        · rintro ⟨c, h1, h2⟩; exact ⟨c, h1, by rw [this] at h2; exact h2⟩
      · have : lwTo s l nm (k + 1) c e = lwTo s l nm k c e := by rw [lwTo_succ]; unfold lwTo1; rw [if_neg (by omega)]
        rw [this]; exact ih.get c e
    · rw [if_neg hneg]
      refine ⟨?_, fun b => ?_, fun c e => ?_⟩
      · simp only []
        split
        · exact uni1_inc ih.inc _
        · exact ih.inc
      · simp only []
        have hsucc : ∀ c : Nat, lwMk l nm (k + 1) c = true ↔ lwMk l nm k c = true ∨ (cget nm k = (c : Int) ∧ ((lget l k).mk' && (lget l k).ps) = true) := fun c => by
          rw [lwMk_succ, Bool.or_eq_true]
          unfold lwMk1
          simp only [Bool.and_eq_true, decide_eq_true_eq]
          constructor
          · rintro (a | ⟨⟨a, b⟩, c⟩)
            · exact .inl a
            · exact .inr ⟨a, b, c⟩
          · rintro (a | ⟨a, b, c⟩)
            · exact .inl a
            · exact .inr ⟨⟨a, b⟩, c⟩
        by_cases hm : ((lget l k).mk' && (lget l k).ps) = true
        · rw [if_pos hm, uni1_mem ih.inc, ih.mem b]
          constructor
          · rintro (⟨c, a, a2⟩ | a)
            · exact ⟨c, a, (hsucc c).2 (.inl a2)⟩
            · exact ⟨(cget nm k).toNat, by omega, (hsucc _).2 (.inr ⟨by omega, hm⟩)⟩
          · rintro ⟨c, a, a2⟩
            rcases (hsucc c).1 a2 with a3 | ⟨a3, _⟩
            · exact .inl ⟨c, a, a3⟩
            · exact .inr (by omega)
        · rw [if_neg hm, ih.mem b]
          constructor
          · rintro ⟨c, a, a2⟩; exact ⟨c, a, (hsucc c).2 (.inl a2)⟩
          · rintro ⟨c, a, a2⟩
            rcases (hsucc c).1 a2 with a3 | ⟨_, a3⟩
            · exact ⟨c, a, a3⟩
            · exact absurd a3 hm
      · simp only []
        rw [redE_fold, lwTo_succ]
        unfold lwTo1
        by_cases hc : cget nm k = (c : Int) ∧ e ∈ (lget l k).en
        · obtain ⟨n1, _⟩ := h.nx k hk' e hc.2
          obtain ⟨_, t2⟩ := h.to k hk' (by omega) e hc.2
          rw [if_pos hc, if_pos ⟨hc.1.symm, hc.2⟩, n1, if_pos t2]
        · rw [if_neg hc, if_neg (fun a => hc ⟨a.1.symm, a.2⟩)]
          exact ih.get c e
theorem lwTo_hi {m : Nat} (h : NmK s l n m nm) (hm : 0 < m) : ∀ k, k ≤ n → ∀ (c : Nat) (e : Int), lwTo s l nm k c e < (m : Int)
  | 0, _, c, e => by simp [lwTo]; omega
  | k + 1, hk, c, e => by
    have ih := lwTo_hi h hm k (by omega) c e
    rw [lwTo_succ]
    unfold lwTo1
    split
    · rename_i hc
      have hk' : k < n := by omega
      obtain ⟨n1, _⟩ := h.nx k hk' e hc.2
      obtain ⟨t1, _⟩ := h.to k hk' (by omega) e hc.2
      rw [n1]; exact h.hi _ t1
    · exact ih
theorem lwMk_hi {m : Nat} (h : NmK s l n m nm) {k c : Nat} (hk : k ≤ n) (hc : lwMk l nm k c = true) : c < m := by
  unfold lwMk at hc
  rw [List.any_eq_true] at hc
  obtain ⟨x, hx, h1⟩ := hc
  rw [List.mem_range'_1] at hx
  unfold lwMk1 at h1
  simp only [Bool.and_eq_true, decide_eq_true_eq] at h1
  have := h.hi x (by omega)
  omega
/-- The automaton of the classes is the law's. -/
theorem redA_eq {m : Nat} (h : NmK s l n m nm) (hmx : maxI nm + 1 = (m : Int)) : redA s l nm = lwAut s l nm n m := by
  have R := red_step h n (Nat.le_refl _)
  have hz : redZ s l nm = (List.range' 0 n).foldl (redX s l nm) ([], []) := by unfold redZ; rw [h.len]
  rw [← hz] at R
  unfold redA lwAut
  have e1 : (redZ s l nm).1 = ((List.range' 0 m).filter (lwMk l nm n)).map fun c : Nat => (c : Int) := by
    refine Inc.ext R.inc ?_ fun b => ?_
    · unfold Inc
      rw [List.pairwise_map]
      refine List.Pairwise.sublist List.filter_sublist ?_
      exact (List.pairwise_lt_range' (s := 0) (n := m)).imp (fun h => by omega)
    · rw [R.mem b, List.mem_map]
      constructor
      · rintro ⟨c, rfl, h2⟩
        exact ⟨c, List.mem_filter.2 ⟨by rw [List.mem_range'_1]; have := lwMk_hi h (Nat.le_refl _) h2; omega, h2⟩, rfl⟩
      · rintro ⟨c, h2, rfl⟩
        exact ⟨c, rfl, (List.mem_filter.1 h2).2⟩
  have e2 : redR (redZ s l nm).2 s.al (maxI nm + 1).toNat = grid (lwG s l nm n) s.al m := by
    rw [hmx, Int.toNat_natCast]
    unfold redR grid
    refine flatMap_congr' fun c _ => fm_congr fun e _ => ?_
    unfold redF lwG
    rw [R.get c e]
    split <;> rfl
  rw [hmx, e1]
  rw [hmx] at e2
  rw [e2]
theorem lwAut_okay {m : Nat} (hs : Okay s) (h : NmK s l n m nm) (hm : m ≤ 4096) : Okay (lwAut s l nm n m) := by
  refine ⟨hs.al, hs.ali, by simp [lwAut], by simp only [lwAut]; omega, fun b hb => ?_, ?_, fun d hd => ?_, ?_⟩
  · simp only [lwAut, List.mem_map, List.mem_filter, List.mem_range'_1] at hb ⊢
    obtain ⟨c, ⟨hc, _⟩, rfl⟩ := hb
    omega
  · simp only [lwAut]
    unfold Inc
    rw [List.pairwise_map]
    refine List.Pairwise.sublist List.filter_sublist ?_
    exact (List.pairwise_lt_range' (s := 0) (n := m)).imp (fun h => by omega)
  · simp only [lwAut] at hd ⊢
    obtain ⟨c, e, hc, he, hg⟩ := grid_mem hd
    unfold lwG at hg
    split at hg
    · rename_i h0
      cases hg
      have := lwTo_hi h (by omega) n (Nat.le_refl _) c e
      exact ⟨by omega, by omega, he, h0, this⟩
    · cases hg
  · exact grid_pw (lwG_ok s l nm n) hs.ali _
end
theorem cget_ge {l : List Int} {x : Nat} (h : l.length ≤ x) : cget l x = 0 := by unfold cget; rw [List.getD_eq_getElem?_getD, List.getElem?_eq_none h]; rfl
/-! ### All together -/
def lwCls (p s : Aut) : List Int := lwA s (ctls p s (opQ p s)) (lw0 s.st.toNat (opQ p s))
def lwRed (p s : Aut) : Aut := lwAut s (ctls p s (opQ p s)) (lwNums (lwCls p s)).1 s.st.toNat (lwNums (lwCls p s)).2
structure RedR (p s : Aut) : Prop where
  cls : clsOf p s (opQ p s) = (lwNums (lwCls p s)).1
  nk : NmK s (ctls p s (opQ p s)) s.st.toNat (lwNums (lwCls p s)).2 (lwNums (lwCls p s)).1
  ok : Okay (lwRed p s)
  e0 : rdE p s = 0
  eq : rdA p s = canA (lwRed p s)
  tr : TrI s (ctls p s (opQ p s)) s.st.toNat (clsA s (ctls p s (opQ p s)) (lw0 s.st.toNat (opQ p s))) (lwCls p s)
theorem red_law {p s : Aut} (h0 : opE p s = 0) : RedR p s := by
  obtain ⟨hp, hs, _, hv, hl⟩ := opE_zero h0
  obtain ⟨hSy, hOA, hQz⟩ := opE_syP h0
  have hst1 := hs.st1
  have hiA := ctls_incA hp hs hv
  have hnx := ctls_nx hp hs hv
  have T0 := lw0_tri hp hs hSy
  have T := cls_same hiA hnx T0
  have hN0 : Ng (lw0 s.st.toNat (opQ p s)) := fun x hx => by
    rcases Nat.lt_or_ge x s.st.toNat with hlt | hge
    · rw [cget_lw0 hlt] at hx ⊢
      split at hx
      · omega
      · rename_i e; rw [if_neg e]
    · have : cget (lw0 s.st.toNat (opQ p s)) x = 0 := cget_ge (by simp [lw0]; omega)
      omega
  have hN := clsA_ng hiA hnx T0 hN0
  have NR := num_all T.lc T.ld T.sm T.ls (fun x _ h => hN x h)
  have hcls : clsOf p s (opQ p s) = nums (clsA s (ctls p s (opQ p s)) (lw0 s.st.toNat (opQ p s))) := by unfold clsOf; rw [cls0_eq hv]
  have hto : ∀ x, x < s.st.toNat → 0 ≤ cget (nums (clsA s (ctls p s (opQ p s)) (lw0 s.st.toNat (opQ p s)))) x → ∀ e ∈ (lget (ctls p s (opQ p s)) x).en, (to0 s x e).toNat < s.st.toNat ∧ 0 ≤ cget (nums (clsA s (ctls p s (opQ p s)) (lw0 s.st.toNat (opQ p s)))) (to0 s x e).toNat := fun x hx hx0 e he => by
    have h1 := NR.lo x hx
    obtain ⟨a, b⟩ := T.oc x hx (by omega) e he
    have h2 := NR.lo _ a
    exact ⟨a, by omega⟩
  have nk : NmK s (ctls p s (opQ p s)) s.st.toNat (lwNums (lwCls p s)).2 (lwNums (lwCls p s)).1 := by
    have hi := NR.hi
    have len := NR.len
    rw [NR.eq] at hto hi len
    exact ⟨len, hi, hnx, hto⟩
  have hcnt : (lwNums (lwCls p s)).2 ≤ s.st.toNat := by
    have := num_same T.lc T.ld T.sm T.ls (fun x _ h => hN x h) s.st.toNat (Nat.le_refl _)
    have key : ∀ (d : List Int) (k : Nat), ((List.range' 0 k).foldl (lwN d) ([], 0)).2 ≤ k := by
      intro d k
      induction k with
      | zero => exact Nat.le_refl _
      | succ k ih =>
        rw [List.range'_1_concat, List.foldl_append, Nat.zero_add]
        simp only [List.foldl_cons, List.foldl_nil]
        generalize (List.range' 0 k).foldl (lwN d) ([], 0) = z at ih
        unfold lwN
        split
        · exact Nat.le_succ_of_le ih
        · split
          · exact Nat.succ_le_succ ih
          · exact Nat.le_succ_of_le ih
    unfold lwNums
    have hl2 : (lwCls p s).length = s.st.toNat := T.ld
    rw [hl2]
    exact key _ _
  have ok : Okay (lwRed p s) := lwAut_okay hs nk (by omega)
  have hst0 := hs.st0
  refine ⟨hcls.trans NR.eq, nk, ok, ?_, ?_, T⟩
  · unfold rdE
    rw [if_neg (by simpa using h0)]
    split
    · rfl
    · rename_i hq
      have hne : ¬ s.st = 0 := fun e => hq (List.eq_nil_of_length_eq_zero (hQz.2 (.inr e)))
      have e : red p s = lwRed p s := by
        unfold red
        rw [hcls, NR.eq]
        have hmx := NR.mx (by omega)
        rw [NR.eq] at hmx
        exact redA_eq nk hmx
      rw [e]; exact (ckA_zero _).2 ok
  · unfold rdA
    split
    · rename_i hq
      -- nothing occurs
      have hz : (lwNums (lwCls p s)).2 = 0 := by
        have hd : ∀ x, x < s.st.toNat → cget (lwCls p s) x < 0 := fun x hx => by
          have h1 : cget (lwCls p s) x < 0 ↔ _ := T.sm.sg x hx
          have hsg : ∀ x, x < s.st.toNat → (cget (clsA s (ctls p s (opQ p s)) (lw0 s.st.toNat (opQ p s))) x < 0 ↔ cget (lw0 s.st.toNat (opQ p s)) x < 0) := by
            have key : TrI s (ctls p s (opQ p s)) s.st.toNat (clsA s (ctls p s (opQ p s)) (lw0 s.st.toNat (opQ p s))) (lwCls p s) ∧ ∀ x, x < s.st.toNat → (cget (clsA s (ctls p s (opQ p s)) (lw0 s.st.toNat (opQ p s))) x < 0 ↔ cget (lw0 s.st.toNat (opQ p s)) x < 0) := by
              unfold lwCls clsA lwA
              rw [T0.lc]
              refine fold_two (P := fun x => x < s.st.toNat) (I := fun c d => TrI s (ctls p s (opQ p s)) s.st.toNat c d ∧ ∀ x, x < s.st.toNat → (cget c x < 0 ↔ cget (lw0 s.st.toNat (opQ p s)) x < 0)) (fun c d x hx hI => ?_) _ _ _ (fun x hx => by rw [List.mem_range'_1] at hx; omega) ⟨T0, fun _ _ => Iff.rfl⟩
              unfold tryX lwTX
              refine fold_two (f := fun c y => tryC s (ctls p s (opQ p s)) c x y) (g := fun d y => lwTry s (ctls p s (opQ p s)) d x y) (P := fun y => y < s.st.toNat) (I := fun c d => TrI s (ctls p s (opQ p s)) s.st.toNat c d ∧ ∀ x, x < s.st.toNat → (cget c x < 0 ↔ cget (lw0 s.st.toNat (opQ p s)) x < 0)) (fun c d y hy hI => ⟨try_same hiA hnx hI.1 hx hy, fun q hq => ?_⟩) (List.range' (x + 1) (s.st.toNat - (x + 1))) c d (fun y hy => by rw [List.mem_range'_1] at hy; omega) hI
              rw [← hI.2 q hq]
              unfold tryC
              split
              · exact Iff.rfl
              · rename_i h1
                have hc0 : 0 ≤ cget c x := by omega
                have hc1 : 0 ≤ cget c y := by omega
                have K1 := closeC_spec (s := s) (fun x hx => (hiA x hx).1) (c.length * c.length + 1) (mergeC c x y) (by rw [mergeC_len]; exact hI.1.lc) (hI.1.oc.of fun q hq => merge_sign hI.1.lc hc0 hc1 hq) (by have := uneq_le (mergeC c x y); rw [mergeC_len] at this; omega)
                simp only []
                split
                · rw [K1.sg q hq, merge_sign hI.1.lc hc0 hc1 hq]
                · exact Iff.rfl
            exact key.2
          have h2 := hsg x hx
          have h3 : occB (opQ p s) x = false := by rw [hq]; rfl
          rw [cget_lw0 hx, h3, if_neg (by simp)] at h2
          rw [h1, h2]; decide
        have key : ∀ k, k ≤ s.st.toNat → ((List.range' 0 k).foldl (lwN (lwCls p s)) ([], 0)).2 = 0 := by
          intro k
          induction k with
          | zero => intro _; rfl
          | succ k ih =>
            intro hk
            rw [List.range'_1_concat, List.foldl_append, Nat.zero_add]
            simp only [List.foldl_cons, List.foldl_nil]
            unfold lwN
            rw [if_pos (hd k (by omega))]
            exact ih (by omega)
        unfold lwNums
        rw [show (lwCls p s).length = s.st.toNat from T.ld]
        exact key _ (Nat.le_refl _)
      unfold canA lwRed lwAut
      rw [hz]
      rfl
    · rename_i hq
      have hne : ¬ s.st = 0 := fun e => hq (List.eq_nil_of_length_eq_zero (hQz.2 (.inr e)))
      have e : red p s = lwRed p s := by
        unfold red
        rw [hcls, NR.eq]
        have hmx := NR.mx (by omega)
        rw [NR.eq] at hmx
        exact redA_eq nk hmx
      rw [e]
end Go.Proofs.YtfhgnlkdcdlblaaGreatDoor
/- Supervisors that do the same with a plant: a relation of their states; then Equivalent finds no word. -/
namespace Go.Proofs.YtfhgnlkdcdlblaaGreatDoor
open Go.Lg

theorem eqS_all {a b : Aut} {Rl : Int → Int → Prop} {al : List Int} (hs : ∀ x y v, v ∈ al → Rl x y → Rl (nxt a.ed x v) (nxt b.ed y v)) {e : En} (he : Rl e.x e.y) : ∀ (vs : List Int) (L : List En), (∀ v ∈ vs, v ∈ al) → (∀ d ∈ L, Rl d.x d.y) → ∀ d ∈ vs.foldl (eqS a b e) L, Rl d.x d.y
  | [], L, _, h => h
  | v :: vs, L, hv, h => by
    refine eqS_all hs he vs (eqS a b e L v) (fun u hu => hv u (List.mem_cons_of_mem _ hu)) fun d hd => ?_
    unfold eqS at hd
    split at hd
    · rcases List.mem_append.1 hd with hd | hd
      · exact h d hd
      · simp only [List.mem_singleton] at hd
        subst hd
        exact hs e.x e.y v (hv v List.mem_cons_self) he
    · exact h d hd
theorem eqL_none {a b : Aut} {Rl : Int → Int → Prop} {al : List Int} (hs : ∀ x y v, v ∈ al → Rl x y → Rl (nxt a.ed x v) (nxt b.ed y v)) (hd : ∀ x y, Rl x y → dfr a b x y = false) : ∀ (f i : Nat) (L : List En), (∀ d ∈ L, Rl d.x d.y) → eqL a b al f i L = none
  | 0, _, _, _ => rfl
  | f + 1, i, L, h => by
    rw [eqL]
    split
    · rename_i hi
      have hm : L.getD i en0 ∈ L := by simp [List.getD, hi]
      rw [if_neg (by rw [hd _ _ (h _ hm)]; simp)]
      exact eqL_none hs hd f (i + 1) _ (eqS_all hs (h _ hm) al L (fun _ h => h) h)
    · rfl
theorem eqv_none {a b : Aut} {Rl : Int → Int → Prop} {al : List Int} (h0 : Rl (if 0 < a.st then 0 else -1) (if 0 < b.st then 0 else -1)) (hs : ∀ x y v, v ∈ al → Rl x y → Rl (nxt a.ed x v) (nxt b.ed y v)) (hd : ∀ x y, Rl x y → dfr a b x y = false) : eqv a b al = none :=
  eqL_none hs hd _ _ _ (fun d hd => by simp only [eqI, List.mem_singleton] at hd; subst hd; exact h0)
/-- A relation of the states of two supervisors of a plant. -/
structure Bis (p s t : Aut) (R : Int → Int → Int → Prop) : Prop where
  init : R 0 0 0
  step : ∀ pn xn yn, R pn xn yn → ∀ v ∈ p.al, (stepT v [p, s] [pn, xn] = none ∧ stepT v [p, t] [pn, yn] = none) ∨ ∃ p' x' y', stepT v [p, s] [pn, xn] = some [p', x'] ∧ stepT v [p, t] [pn, yn] = some [p', y'] ∧ R p' x' y'
  mark : ∀ pn xn yn, R pn xn yn → markT [p, s] [pn, xn] = markT [p, t] [pn, yn]
theorem Bis.comp {p s r t : Aut} {R1 R2 : Int → Int → Int → Prop} (h : Bis p s r R1) (k : Bis p r t R2) : Bis p s t (fun pn xn yn => ∃ c, R1 pn xn c ∧ R2 pn c yn) := by
  refine ⟨⟨0, h.init, k.init⟩, ?_, ?_⟩
  · rintro pn xn yn ⟨c, h1, h2⟩ v hv
    rcases h.step pn xn c h1 v hv with ⟨a1, a2⟩ | ⟨p', x', c', a1, a2, a3⟩
    · rcases k.step pn c yn h2 v hv with ⟨b1, b2⟩ | ⟨p', c', y', b1, b2, b3⟩
      · exact .inl ⟨a1, b2⟩
      · rw [a2] at b1; cases b1
    · rcases k.step pn c yn h2 v hv with ⟨b1, b2⟩ | ⟨p'', c'', y', b1, b2, b3⟩
      · rw [a2] at b1; cases b1
      · rw [a2] at b1
        simp only [Option.some.injEq, List.cons.injEq, and_true] at b1
        obtain ⟨rfl, rfl⟩ := b1
        exact .inr ⟨p', x', y', a1, b2, c', a3, b3⟩
  · rintro pn xn yn ⟨c, h1, h2⟩
    exact (h.mark pn xn c h1).trans (k.mark pn c yn h2)
theorem SyP.mem_mr {aa : List Aut} {A : Aut} {Q : List (List Int)} (h : SyP aa A Q) {j : Nat} (hj : j < Q.length) : decide ((j : Int) ∈ A.mr) = markT aa (Q.getD j []) := by
  rw [h.mk2]
  rw [Bool.eq_iff_iff]
  simp only [decide_eq_true_eq, List.mem_map, List.mem_filter, List.mem_range'_1]
  constructor
  · rintro ⟨i, ⟨_, h2⟩, h3⟩
    have : i = j := by omega
    subst this; exact h2
  · intro h2; exact ⟨j, ⟨by omega, h2⟩, rfl⟩
theorem bis_none {p s t A B : Aut} {QA QB : List (List Int)} (hA : SyP [p, s] A QA) (hB : SyP [p, t] B QB) (ea : evs [p, s] = p.al) (eb : evs [p, t] = p.al) (hoA : Okay A) (hoB : Okay B) {R : Int → Int → Int → Prop} (h : Bis p s t R) (hz : QA.length = 0 ↔ QB.length = 0) : eqv A B p.al = none := by
  have hstA := hA.st
  have hstB := hB.st
  refine eqv_none (Rl := fun x y => (x = -1 ∧ y = -1) ∨ ∃ i j : Nat, x = i ∧ y = j ∧ i < QA.length ∧ j < QB.length ∧ ∃ pn xn yn, QA.getD i [] = [pn, xn] ∧ QB.getD j [] = [pn, yn] ∧ R pn xn yn) ?_ ?_ ?_
  · by_cases h0 : QA.length = 0
    · left
      have := hz.1 h0
      rw [if_neg (by omega), if_neg (by omega)]; exact ⟨rfl, rfl⟩
    · have h1 : ¬ QB.length = 0 := fun e => h0 (hz.2 e)
      right
      rw [if_pos (by omega), if_pos (by omega)]
      exact ⟨0, 0, rfl, rfl, by omega, by omega, 0, 0, 0, hA.hd (by omega), hB.hd (by omega), h.init⟩
  · rintro x y v hv (⟨rfl, rfl⟩ | ⟨i, j, rfl, rfl, hi, hj, pn, xn, yn, h1, h2, h3⟩)
    · left
      have key : ∀ {a : Aut}, Okay a → nxt a.ed (-1) v = -1 := fun {a} ho => by
        rw [nxt_eget]
        cases hg : eget a.ed (-1) v with
        | none => rfl
        | some u => have := (ho.ed _ (eget_mem hg)).1; simp only [] at this; omega
      exact ⟨key hoA, key hoB⟩
    · have sA := hA.step hi v
      have sB := hB.step hj v
      rw [if_pos (by rw [ea]; exact hv), h1] at sA
      rw [if_pos (by rw [eb]; exact hv), h2] at sB
      rcases h.step pn xn yn h3 v hv with ⟨a1, a2⟩ | ⟨p', x', y', a1, a2, a3⟩
      · left
        rw [a1] at sA
        rw [a2] at sB
        rw [nxt_eget, nxt_eget, sA, sB]; exact ⟨rfl, rfl⟩
      · right
        have tA := hA.to hi (by rw [ea]; exact hv) (by rw [h1]; exact a1)
        have tB := hB.to hj (by rw [eb]; exact hv) (by rw [h2]; exact a2)
        rw [a1] at sA
        rw [a2] at sB
        refine ⟨QA.idxOf [p', x'], QB.idxOf [p', y'], ?_, ?_, tA.1, tB.1, p', x', y', tA.2, tB.2, a3⟩
        · rw [nxt_eget, sA]; rfl
        · rw [nxt_eget, sB]; rfl
  · rintro x y (⟨rfl, rfl⟩ | ⟨i, j, rfl, rfl, hi, hj, pn, xn, yn, h1, h2, h3⟩)
    · unfold dfr
      have ma : decide ((-1 : Int) ∈ A.mr) = false := decide_eq_false fun hm => by have := (hoA.mr _ hm).1; omega
      have mb : decide ((-1 : Int) ∈ B.mr) = false := decide_eq_false fun hm => by have := (hoB.mr _ hm).1; omega
      rw [ma, mb]; rfl
    · unfold dfr
      rw [hA.mem_mr hi, hB.mem_mr hj, h1, h2, h.mark pn xn yn h3, decide_eq_false (show ¬ (i : Int) = -1 by omega), decide_eq_false (show ¬ (j : Int) = -1 by omega)]
      simp
/-- The closed loop is a supervisor that does the same. -/
theorem bis_loop {p s A : Aut} {QA : List (List Int)} (hp : Okay p) (hs : Okay s) (hsub : ∀ x ∈ s.al, x ∈ p.al) (hA : SyP [p, s] A QA) (h0 : 0 < QA.length) : Bis p s A (fun pn xn yn => ∃ j : Nat, yn = j ∧ j < QA.length ∧ QA.getD j [] = [pn, xn]) := by
  have ea := evs_two hp hs hsub
  refine ⟨⟨0, rfl, h0, hA.hd h0⟩, ?_, ?_⟩
  · rintro pn xn yn ⟨j, rfl, hj, hq⟩ v hv
    have sA := hA.step hj v
    rw [if_pos (by rw [ea]; exact hv), hq] at sA
    have hAal : v ∈ A.al := by rw [hA.al, ea]; exact hv
    cases hst : stepT v [p, s] [pn, xn] with
    | none =>
      left
      refine ⟨rfl, ?_⟩
      rw [hst] at sA
      rw [stepT, if_neg (fun h => h hv)]
      cases eget p.ed pn v with
      | none => rfl
      | some u =>
        simp only []
        rw [stepT, if_neg (fun h => h hAal), sA]; rfl
    | some t =>
      right
      have hv2 := stepT_valid (aa := [p, s]) (fun a ha => by simp only [List.mem_cons, List.not_mem_nil, or_false] at ha; rcases ha with rfl | rfl; exact hp; exact hs) (hA.v _ (by rw [← hq]; simp [List.getD, hj])) hst
      obtain ⟨a, b, rfl, _, _⟩ := Vt2 hv2
      have tA := hA.to hj (by rw [ea]; exact hv) (by rw [hq]; exact hst)
      rw [hst] at sA
      refine ⟨a, b, QA.idxOf [(a : Int), (b : Int)], rfl, ?_, QA.idxOf [(a : Int), (b : Int)], rfl, tA.1, tA.2⟩
      rw [stepT, if_neg (fun h => h hv)] at hst ⊢
      cases hep : eget p.ed pn v with
      | none => rw [hep] at hst; cases hst
      | some u =>
        rw [hep] at hst
        simp only [] at hst ⊢
        rw [stepT, if_neg (fun h => h hAal), sA]
        obtain ⟨u', _, hu⟩ := Option.map_eq_some_iff.1 hst
        simp only [List.cons.injEq] at hu
        rw [hu.1]
        rfl
  · rintro pn xn yn ⟨j, rfl, hj, hq⟩
    have hm := hA.mem_mr hj
    rw [hq] at hm
    have e1 : markT [p, s] [pn, xn] = (decide (pn ∈ p.mr) && (decide (xn ∈ s.mr) && true)) := rfl
    have e2 : markT [p, A] [pn, (j : Int)] = (decide (pn ∈ p.mr) && (decide ((j : Int) ∈ A.mr) && true)) := rfl
    rw [e2, hm, e1]
    cases decide (pn ∈ p.mr) <;> simp
end Go.Proofs.YtfhgnlkdcdlblaaGreatDoor
/- The canonical form as a graph: it does the same as the automaton. -/
namespace Go.Proofs.YtfhgnlkdcdlblaaGreatDoor
open Go.Lg

def cnF (ord : List Int) (j : Nat) (e : Ed) : Ed := ((j : Int), e.2.1, (ord.idxOf e.2.2 : Int))
def cnR (a : Aut) (ord : List Int) (j : Nat) : List Ed := (outE a.ed (getI ord j)).map (cnF ord j)
theorem getI_pre {l r : List Int} {j : Nat} (h : j < l.length) : getI (l ++ r) j = getI l j := by unfold getI; rw [Int.toNat_natCast]; exact cget_pre h
/-- The numbers that have been given. -/
structure NuI (st : Int) (ord num : List Int) : Prop where
  nd : ord.Nodup
  bd : ∀ s ∈ ord, 0 ≤ s ∧ s < st
  nl : num.length = st.toNat
  nu : ∀ k, 0 ≤ k → k < st → getI num k = if k ∈ ord then (ord.idxOf k : Int) else -1
theorem stepE_spec {st : Int} {i : Nat} {c : Cs} (h : NuI st c.ord c.num) {e : Ed} (h0 : 0 ≤ e.2.2) (h1 : e.2.2 < st) : NuI st (stepE i c e).ord (stepE i c e).num ∧ (∃ r, (stepE i c e).ord = c.ord ++ r) ∧ (stepE i c e).mk' = c.mk' ∧ (stepE i c e).ed = c.ed ++ [cnF (stepE i c e).ord i e] ∧ e.2.2 ∈ (stepE i c e).ord := by
  have hn := h.nu e.2.2 h0 h1
  have hlt : e.2.2.toNat < c.num.length := by rw [h.nl]; omega
  unfold stepE
  by_cases hm : e.2.2 ∈ c.ord
  · rw [if_pos hm] at hn
    rw [if_neg (by rw [hn]; omega)]
    refine ⟨h, ⟨[], by simp⟩, rfl, ?_, hm⟩
    simp only [cnF]
    rw [hn]
  · rw [if_neg hm] at hn
    rw [if_pos (by rw [hn]; decide)]
    have hidx : (c.ord ++ [e.2.2]).idxOf e.2.2 = c.ord.length := by rw [List.idxOf_append, if_neg hm]; simp
    refine ⟨⟨nodup_snoc h.nd hm, fun s hs => ?_, by simp [h.nl], fun k k0 k1 => ?_⟩, ⟨[e.2.2], rfl⟩, rfl, ?_, by simp⟩
    · rcases List.mem_append.1 hs with hs | hs
      · exact h.bd s hs
      · simp only [List.mem_singleton] at hs; subst hs; exact ⟨h0, h1⟩
    · simp only []
      by_cases ek : k = e.2.2
      · subst ek
        rw [if_pos (by simp), hidx]
        unfold getI
        simp [List.getD, List.getElem?_set_self hlt]
      · have hne : e.2.2.toNat ≠ k.toNat := by omega
        have e1 : getI (c.num.set e.2.2.toNat c.ord.length) k = getI c.num k := by unfold getI; simp [List.getD, List.getElem?_set_ne hne]
        rw [e1, h.nu k k0 k1]
        by_cases hk : k ∈ c.ord
        · rw [if_pos hk, if_pos (List.mem_append_left _ hk), List.idxOf_append, if_pos hk]
        · rw [if_neg hk, if_neg (fun hmm => by
            rcases List.mem_append.1 hmm with h2 | h2
            · exact hk h2
            · simp only [List.mem_singleton] at h2; exact ek h2)]
    · simp only [cnF]
      rw [hidx]
theorem stepE_fold {st : Int} {i : Nat} : ∀ (es : List Ed) (c : Cs), NuI st c.ord c.num → (∀ e ∈ es, 0 ≤ e.2.2 ∧ e.2.2 < st) → NuI st (es.foldl (stepE i) c).ord (es.foldl (stepE i) c).num ∧ (∃ r, (es.foldl (stepE i) c).ord = c.ord ++ r) ∧ (es.foldl (stepE i) c).mk' = c.mk' ∧
    (es.foldl (stepE i) c).ed = c.ed ++ es.map (cnF (es.foldl (stepE i) c).ord i) ∧ ∀ e ∈ es, e.2.2 ∈ (es.foldl (stepE i) c).ord
  | [], c, h, _ => ⟨h, ⟨[], by simp⟩, rfl, by simp, fun e he => by cases he⟩
  | e :: es, c, h, hb => by
    obtain ⟨b0, b1⟩ := hb e List.mem_cons_self
    obtain ⟨h1, ⟨r1, h2⟩, h3, h4, h5⟩ := stepE_spec (i := i) h b0 b1
    obtain ⟨k1, ⟨r2, k2⟩, k3, k4, k5⟩ := stepE_fold (i := i) es (stepE i c e) h1 (fun d hd => hb d (List.mem_cons_of_mem _ hd))
    rw [List.foldl_cons]
    refine ⟨k1, ⟨r1 ++ r2, by rw [k2, h2, List.append_assoc]⟩, k3.trans h3, ?_, fun d hd => ?_⟩
    · rw [k4, h4, List.append_assoc, List.map_cons]
      have : cnF (stepE i c e).ord i e = cnF (es.foldl (stepE i) (stepE i c e)).ord i e := by
        unfold cnF
        rw [k2, List.idxOf_append, if_pos h5]
      rw [this]; rfl
    · rcases List.mem_cons.1 hd with rfl | hd
      · rw [k2]; exact List.mem_append_left _ h5
      · exact k5 d hd
/-- Before state i is taken. -/
structure CnG (a : Aut) (i : Nat) (c : Cs) : Prop where
  nu : NuI a.st c.ord c.num
  le : i ≤ c.ord.length
  hd : getI c.ord 0 = 0 ∧ 0 < c.ord.length
  mk2 : c.mk' = ((List.range' 0 i).filter fun j : Nat => decide (getI c.ord j ∈ a.mr)).map fun j : Nat => (j : Int)
  ed : c.ed = (List.range' 0 i).flatMap (cnR a c.ord)
  cl : ∀ j, j < i → ∀ e ∈ outE a.ed (getI c.ord j), e.2.2 ∈ c.ord
theorem cnR_pre {a : Aut} {ord r : List Int} {j : Nat} (hj : j < ord.length) (hc : ∀ e ∈ outE a.ed (getI ord j), e.2.2 ∈ ord) : cnR a (ord ++ r) j = cnR a ord j := by
  unfold cnR
  rw [getI_pre hj]
  refine List.map_congr_left fun e he => ?_
  unfold cnF
  rw [List.idxOf_append, if_pos (hc e he)]
theorem CnG.next {a : Aut} (ho : Okay a) {i : Nat} {c : Cs} (h : CnG a i c) (hi : i < c.ord.length) : CnG a (i + 1) (rowC a i c) := by
  unfold rowC
  have hmo : (markC a i c).ord = c.ord := by unfold markC; split <;> rfl
  have hmn : (markC a i c).num = c.num := by unfold markC; split <;> rfl
  have hme : (markC a i c).ed = c.ed := by unfold markC; split <;> rfl
  obtain ⟨k1, ⟨r, k2⟩, k3, k4, k5⟩ := stepE_fold (st := a.st) (i := i) (outE a.ed (getI c.ord i)) (markC a i c) (by rw [hmo, hmn]; exact h.nu) (fun e he => (ho.ed e (outE_mem he).1).2.2.2)
  generalize (outE a.ed (getI c.ord i)).foldl (stepE i) (markC a i c) = d at k1 k2 k3 k4 k5
  rw [hmo] at k2
  rw [hme] at k4
  have pre : ∀ j : Nat, j ≤ i → getI d.ord j = getI c.ord j := fun j hj => by rw [k2]; exact getI_pre (by omega)
  refine ⟨k1, by rw [k2]; simp; omega, ⟨by have := pre 0 (by omega); rw [show ((0 : Nat) : Int) = 0 from rfl] at this; rw [this]; exact h.hd.1, by rw [k2]; simp; omega⟩, ?_, ?_, fun j hj => ?_⟩
  · rw [k3, List.range'_1_concat, List.filter_append, List.map_append, Nat.zero_add]
    have e1 : ((List.range' 0 i).filter fun j : Nat => decide (getI d.ord j ∈ a.mr)) = (List.range' 0 i).filter fun j : Nat => decide (getI c.ord j ∈ a.mr) := by
      refine List.filter_congr fun j hj => ?_
      rw [List.mem_range'_1] at hj
      rw [pre j (by omega)]
    rw [e1]
    unfold markC
    by_cases hm : getI c.ord i ∈ a.mr
    · rw [if_pos hm]
      simp only []
      rw [List.filter_cons, if_pos (by rw [pre i (Nat.le_refl _)]; exact decide_eq_true hm), List.filter_nil, h.mk2]; rfl
    · rw [if_neg hm]
      rw [List.filter_cons, if_neg (by rw [pre i (Nat.le_refl _), decide_eq_false hm]; simp), List.filter_nil, h.mk2]; simp
  · rw [k4, List.range'_1_concat, List.flatMap_append, Nat.zero_add, h.ed]
    congr 1
    · refine flatMap_congr' fun j hj => ?_
      rw [List.mem_range'_1] at hj
      rw [k2]
      exact (cnR_pre (by omega) (h.cl j (by omega))).symm
    · simp only [List.flatMap_cons, List.flatMap_nil, List.append_nil]
      unfold cnR
      rw [pre i (Nat.le_refl _)]
  · by_cases e : j = i
    · subst e; rw [pre j (Nat.le_refl _)]; exact k5
    · intro d' hd'
      rw [pre j (by omega)] at hd'
      rw [k2]; exact List.mem_append_left _ (h.cl j (by omega) d' hd')
theorem canL_spec {a : Aut} (ho : Okay a) : ∀ (f i : Nat) (c : Cs), CnG a i c → ∃ i', CnG a i' (canL a f i c) ∧ ((canL a f i c).ord.length = i' ∨ i' = i + f)
  | 0, i, c, h => ⟨i, h, .inr rfl⟩
  | f + 1, i, c, h => by
    rw [canL]
    split
    · rename_i hi
      obtain ⟨i', h1, h2⟩ := canL_spec ho f (i + 1) _ (h.next ho hi)
      exact ⟨i', h1, by omega⟩
    · exact ⟨i, h, .inl (by have := h.le; omega)⟩
/-- What the canonical form is. -/
structure CnP (a : Aut) (ord : List Int) : Prop where
  nd : ord.Nodup
  bd : ∀ s ∈ ord, 0 ≤ s ∧ s < a.st
  hd : getI ord 0 = 0 ∧ 0 < ord.length
  al : (canA a).al = a.al
  st : (canA a).st = (ord.length : Int)
  mk2 : (canA a).mr = ((List.range' 0 ord.length).filter fun j : Nat => decide (getI ord j ∈ a.mr)).map fun j : Nat => (j : Int)
  ed : (canA a).ed = (List.range' 0 ord.length).flatMap (cnR a ord)
  cl : ∀ j, j < ord.length → ∀ e ∈ outE a.ed (getI ord j), e.2.2 ∈ ord
theorem canA_spec {a : Aut} (ho : Okay a) (h0 : 0 < a.st) : ∃ ord, CnP a ord := by
  have hpos : 0 < a.st.toNat := by omega
  have hI : CnG a 0 (can0 a) := by
    refine ⟨⟨by simp [can0], fun s hs => by simp [can0] at hs; subst hs; omega, by simp [can0], fun k k0 k1 => ?_⟩, Nat.zero_le _, ⟨by simp [can0, getI], by simp [can0]⟩, by simp [can0], by simp [can0], fun j hj => by omega⟩
    by_cases ek : k = 0
    · subst ek
      rw [if_pos (by simp [can0])]
      unfold getI can0
      simp [List.getD, hpos]
    · rw [if_neg (by simpa [can0] using ek)]
      unfold can0
      have hne : 0 ≠ k.toNat := by omega
      have hlt : k.toNat < a.st.toNat := by omega
      unfold getI
      rw [List.getD_eq_getElem?_getD, List.getElem?_set_ne hne]
      simp [hlt]
  obtain ⟨i', h1, h2⟩ := canL_spec ho a.st.toNat 0 (can0 a) hI
  have hlen : (canL a a.st.toNat 0 (can0 a)).ord.length ≤ a.st.toNat := pig _ _ h1.nu.nd (fun x hx => by have := h1.nu.bd x hx; omega)
  have hi' : i' = (canL a a.st.toNat 0 (can0 a)).ord.length := by have := h1.le; omega
  subst hi'
  have hcan : canA a = ⟨a.al, ((canL a a.st.toNat 0 (can0 a)).ord.length : Int), (canL a a.st.toNat 0 (can0 a)).mk', (canL a a.st.toNat 0 (can0 a)).ed⟩ := by unfold canA; rw [if_neg (by omega)]
  refine ⟨(canL a a.st.toNat 0 (can0 a)).ord, h1.nu.nd, h1.nu.bd, h1.hd, by rw [hcan], by rw [hcan], ?_, ?_, h1.cl⟩
  · rw [hcan]; exact h1.mk2
  · rw [hcan]; exact h1.ed
theorem eget_out (es : List Ed) (s v : Int) : eget es s v = eget (outE es s) s v := by
  induction es with
  | nil => rfl
  | cons e es ih =>
    unfold outE at *
    rw [List.filter_cons]
    by_cases h : e.1 = s
    · rw [if_pos (by simpa using h), eget, eget, ih]
    · rw [if_neg (by simpa using h), eget, if_neg (fun c => h c.1), ih]
theorem eget_cnR {a : Aut} {ord : List Int} {j : Nat} (v : Int) : eget (cnR a ord j) j v = (eget a.ed (getI ord j) v).map fun u => (ord.idxOf u : Int) := by
  rw [eget_out a.ed]
  unfold cnR
  have key : ∀ (l : List Ed), (∀ e ∈ l, e.1 = getI ord j) → eget (l.map (cnF ord j)) j v = (eget l (getI ord j) v).map fun u => (ord.idxOf u : Int) := by
    intro l
    induction l with
    | nil => intro _; rfl
    | cons e l ih =>
      intro hl
      rw [List.map_cons, eget, eget]
      have he := hl e List.mem_cons_self
      by_cases hv : e.2.1 = v
      · rw [if_pos ⟨rfl, hv⟩, if_pos ⟨he, hv⟩]; rfl
      · rw [if_neg (fun c => hv c.2), if_neg (fun c => hv c.2)]
        exact ih (fun d hd => hl d (List.mem_cons_of_mem _ hd))
  exact key _ (fun e he => (outE_mem he).2)
theorem eget_cnRne {a : Aut} {ord : List Int} {j i : Nat} (h : j ≠ i) (v : Int) : eget (cnR a ord j) i v = none := by
  refine eget_none fun e he h2 => ?_
  unfold cnR at he
  obtain ⟨d, _, rfl⟩ := List.mem_map.1 he
  have : (j : Int) = i := h2.1
  omega
theorem CnP.step {a : Aut} {ord : List Int} (h : CnP a ord) {j : Nat} (hj : j < ord.length) (v : Int) : eget (canA a).ed j v = (eget a.ed (getI ord j) v).map fun u => (ord.idxOf u : Int) := by
  rw [h.ed]
  have key : ∀ n, j < n → eget ((List.range' 0 n).flatMap (cnR a ord)) j v = eget (cnR a ord j) j v := by
    intro n
    induction n with
    | zero => intro h; omega
    | succ n ih =>
      intro hn
      rw [List.range'_1_concat, List.flatMap_append, Nat.zero_add, eget_append]
      simp only [List.flatMap_cons, List.flatMap_nil, List.append_nil]
      by_cases e : j = n
      · subst e
        have : eget ((List.range' 0 j).flatMap (cnR a ord)) j v = none := eget_none fun d hd h2 => by
          obtain ⟨k, hk, hd2⟩ := List.mem_flatMap.1 hd
          rw [List.mem_range'_1] at hk
          unfold cnR at hd2
          obtain ⟨d', _, rfl⟩ := List.mem_map.1 hd2
          have : (k : Int) = j := h2.1
          omega
        rw [this]
      · rw [ih (by omega), eget_cnRne (Ne.symm e)]
        cases eget (cnR a ord j) j v <;> rfl
  rw [key _ hj]
  exact eget_cnR v
section
variable {p s : Aut} {pn xn v : Int}
theorem step_n1 (hv : v ∈ p.al) (h : eget p.ed pn v = none) : stepT v [p, s] [pn, xn] = none := by rw [stepT, if_neg (fun e => e hv), h]
theorem step_n2 (hv : v ∈ p.al) {p' : Int} (h : eget p.ed pn v = some p') (hs : v ∈ s.al) (h2 : eget s.ed xn v = none) : stepT v [p, s] [pn, xn] = none := by
  rw [stepT, if_neg (fun e => e hv), h]; simp only []; rw [stepT, if_neg (fun e => e hs), h2]; rfl
theorem step_s2 (hv : v ∈ p.al) {p' x' : Int} (h : eget p.ed pn v = some p') (hs : v ∈ s.al) (h2 : eget s.ed xn v = some x') : stepT v [p, s] [pn, xn] = some [p', x'] := by
  rw [stepT, if_neg (fun e => e hv), h]; simp only []; rw [stepT, if_neg (fun e => e hs), h2]; rfl
theorem step_s1 (hv : v ∈ p.al) {p' : Int} (h : eget p.ed pn v = some p') (hs : v ∉ s.al) : stepT v [p, s] [pn, xn] = some [p', xn] := by
  rw [stepT, if_neg (fun e => e hv), h]; simp only []; rw [stepT, if_pos hs]; rfl
end
/-- The canonical form of a supervisor does the same. -/
theorem bis_can {p q : Aut} (hq : Okay q) (h0 : 0 < q.st) : ∃ R, Bis p q (canA q) R ∧ (canA q).al = q.al ∧ (canA q).st ≤ q.st ∧ 0 < (canA q).st := by
  obtain ⟨ord, h⟩ := canA_spec hq h0
  refine ⟨fun _ k c => ∃ j : Nat, c = j ∧ j < ord.length ∧ getI ord j = k, ⟨⟨0, rfl, h.hd.2, h.hd.1⟩, ?_, ?_⟩, h.al, ?_, ?_⟩
  · rintro pn k c ⟨j, rfl, hj, hk⟩ v hv
    have hs := h.step hj v
    rw [hk] at hs
    cases hep : eget p.ed pn v with
    | none => exact .inl ⟨step_n1 hv hep, step_n1 hv hep⟩
    | some p' =>
      by_cases hvq : v ∈ q.al
      · have hvc : v ∈ (canA q).al := by rw [h.al]; exact hvq
        cases heq : eget q.ed k v with
        | none =>
          rw [heq] at hs
          exact .inl ⟨step_n2 hv hep hvq heq, step_n2 hv hep hvc hs⟩
        | some u =>
          rw [heq] at hs
          right
          have hm : u ∈ ord := h.cl j hj (k, v, u) (by rw [hk]; unfold outE; exact List.mem_filter.2 ⟨eget_mem heq, by simp⟩)
          refine ⟨p', u, (ord.idxOf u : Int), step_s2 hv hep hvq heq, step_s2 hv hep hvc hs, ord.idxOf u, rfl, List.idxOf_lt_length_of_mem hm, ?_⟩
          unfold getI
          rw [Int.toNat_natCast]
          simp [List.getD, List.idxOf_lt_length_of_mem hm]
      · have hvc : v ∉ (canA q).al := by rw [h.al]; exact hvq
        exact .inr ⟨p', k, j, step_s1 hv hep hvq, step_s1 hv hep hvc, j, rfl, hj, hk⟩
  · rintro pn k c ⟨j, rfl, hj, hk⟩
    have e1 : markT [p, q] [pn, k] = (decide (pn ∈ p.mr) && (decide (k ∈ q.mr) && true)) := rfl
    have e2 : markT [p, canA q] [pn, (j : Int)] = (decide (pn ∈ p.mr) && (decide ((j : Int) ∈ (canA q).mr) && true)) := rfl
    have e3 : decide ((j : Int) ∈ (canA q).mr) = decide (k ∈ q.mr) := by
      rw [h.mk2, decide_eq_decide]
      simp only [List.mem_map, List.mem_filter, List.mem_range'_1, decide_eq_true_eq]
      constructor
      · rintro ⟨i, ⟨_, h2⟩, h3⟩
        have : i = j := by omega
        subst this; rw [hk] at h2; exact h2
      · intro h2; exact ⟨j, ⟨by omega, by rw [hk]; exact h2⟩, rfl⟩
    rw [e1, e2, e3]
  · rw [h.st]
    have := pig q.st.toNat ord h.nd (fun x hx => by have := h.bd x hx; omega)
    omega
  · rw [h.st]; have := h.hd.2; omega
end Go.Proofs.YtfhgnlkdcdlblaaGreatDoor
/- SupervisorKeeps, plain law: the reduced supervisor does the same. -/
namespace Go.Proofs.YtfhgnlkdcdlblaaGreatDoor
open Go.Lg

/-! ### The classes at the end are closed and consistent -/
section
variable {s : Aut} {l : List Ctl} {n : Nat}
theorem clsA_closed (hi : IncA l n) (hn : Nx s l n) {c d : List Int} (h : TrI s l n c d) (hc : Clsd s l n c) (hk : consAll l c = true) : Clsd s l n (clsA s l c) ∧ consAll l (clsA s l c) = true := by
  have key : TrI s l n (clsA s l c) (lwA s l d) ∧ Clsd s l n (clsA s l c) ∧ consAll l (clsA s l c) = true := by
    unfold clsA lwA
    rw [h.lc, h.ld]
    refine fold_two (P := fun x => x < n) (I := fun c d => TrI s l n c d ∧ Clsd s l n c ∧ consAll l c = true) (fun c d x hx hI => ?_) _ c d (fun x hx => by rw [List.mem_range'_1] at hx; omega) ⟨h, hc, hk⟩
    unfold tryX lwTX
    refine fold_two (f := fun c y => tryC s l c x y) (g := fun d y => lwTry s l d x y) (P := fun y => y < n) (I := fun c d => TrI s l n c d ∧ Clsd s l n c ∧ consAll l c = true) (fun c d y hy hI => ⟨try_same hi hn hI.1 hx hy, ?_⟩) (List.range' (x + 1) (n - (x + 1))) c d (fun y hy => by rw [List.mem_range'_1] at hy; omega) hI
    unfold tryC
    split
    · exact hI.2
    · rename_i h1
      have hc0 : 0 ≤ cget c x := by omega
      have hc1 : 0 ≤ cget c y := by omega
      have K1 := closeC_spec (s := s) (fun x hx => (hi x hx).1) (c.length * c.length + 1) (mergeC c x y) (by rw [mergeC_len]; exact hI.1.lc) (hI.1.oc.of fun q hq => merge_sign hI.1.lc hc0 hc1 hq) (by have := uneq_le (mergeC c x y); rw [mergeC_len] at this; omega)
      simp only []
      split
      · rename_i h2; exact ⟨K1.cl, h2⟩
      · exact hI.2
  exact key.2
end
theorem lw0_closed {s : Aut} {l : List Ctl} {n : Nat} {pairs : List (List Int)} : Clsd s l n (lw0 n pairs) ∧ consAll l (lw0 n pairs) = true := by
  have inj : ∀ x y, x < n → y < n → 0 ≤ cget (lw0 n pairs) x → cget (lw0 n pairs) x = cget (lw0 n pairs) y → x = y := fun x y hx hy h0 he => by
    rw [cget_lw0 hx] at h0 he
    rw [cget_lw0 hy] at he
    split at h0
    · rename_i h1
      rw [if_pos h1] at he
      split at he <;> omega
    · omega
  refine ⟨?_, ?_⟩
  · rintro u t ⟨x, y, e, h1, h2, h3, h4, _, _, rfl, rfl⟩
    rw [inj x y h1 h2 h3 h4]
  · unfold consAll
    rw [lw0_len']
    rw [List.all_eq_true]
    intro x hx
    rw [List.all_eq_true]
    intro y hy
    rw [List.mem_range'_1] at hx hy
    have : ¬ (0 ≤ cget (lw0 n pairs) x ∧ cget (lw0 n pairs) x = cget (lw0 n pairs) y) := fun h => by
      have := inj x y (by omega) (by omega) h.1 h.2; omega
    rw [decide_eq_false this]; rfl
where
  lw0_len' {n : Nat} {pairs : List (List Int)} : (lw0 n pairs).length = n := by simp [lw0]
theorem consAll_spec {l : List Ctl} {c : List Int} {n : Nat} (hl : c.length = n) (hi : IncA l n) (h : consAll l c = true) {x y : Nat} (hx : x < n) (hy : y < n) (hne : x ≠ y) (h0 : 0 ≤ cget c x) (he : cget c x = cget c y) : lawC (lget l x) (lget l y) = true := by
  have key : ∀ a b, a < n → b < a → 0 ≤ cget c a → cget c a = cget c b → lawC (lget l a) (lget l b) = true := fun a b ha hb h0 he => by
    unfold consAll at h
    rw [hl, List.all_eq_true] at h
    have h1 := h a (by rw [List.mem_range'_1]; omega)
    rw [List.all_eq_true] at h1
    have h2 := h1 b (by rw [List.mem_range'_1]; omega)
    rw [decide_eq_true ⟨h0, he⟩] at h2
    rw [← consC_law (hi a ha).1 (hi a ha).2 (hi b (by omega)).1 (hi b (by omega)).2]
    simpa using h2
  rcases Nat.lt_or_ge y x with h1 | h1
  · exact key x y hx h1 h0 he
  · have := key y x hy (by omega) (by omega) he.symm
    rw [lawC_symm] at this; exact this
theorem lwN_zero {d : List Int} (h : cget d 0 = 0) : ∀ k, cget ((List.range' 0 (k + 1)).foldl (lwN d) ([], 0)).1 0 = 0 ∧ ((List.range' 0 (k + 1)).foldl (lwN d) ([], 0)).1.length = k + 1
  | 0 => by
    have e : (List.range' 0 (0 + 1)).foldl (lwN d) ([], 0) = ([0], 1) := by
      show lwN d ([], 0) 0 = ([0], 1)
      unfold lwN
      rw [if_neg (by omega), if_pos (show cget d 0 = ((0 : Nat) : Int) from h)]; rfl
    rw [e]; exact ⟨rfl, rfl⟩
  | k + 1 => by
    obtain ⟨h1, h2⟩ := lwN_zero h k
    rw [List.range'_1_concat, List.foldl_append, Nat.zero_add]
    simp only [List.foldl_cons, List.foldl_nil]
    generalize (List.range' 0 (k + 1)).foldl (lwN d) ([], 0) = z at h1 h2
    unfold lwN
    split
    · exact ⟨by simp only []; rw [cget_snoc_lt (by omega)]; exact h1, by simp [h2]⟩
    · split
      · exact ⟨by simp only []; rw [cget_snoc_lt (by omega)]; exact h1, by simp [h2]⟩
      · exact ⟨by simp only []; rw [cget_snoc_lt (by omega)]; exact h1, by simp [h2]⟩
/-! ### The reduced supervisor -/
theorem lwTo_in {s : Aut} {l : List Ctl} {nm : List Int} {c : Nat} {e t : Int} (ht : ∀ x : Nat, cget nm x = (c : Int) → e ∈ (lget l x).en → cget nm (nxt s.ed x e).toNat = t) : ∀ k, (lwTo s l nm k c e = -1 ∧ ∀ x, x < k → cget nm x = (c : Int) → e ∉ (lget l x).en) ∨ lwTo s l nm k c e = t
  | 0 => .inl ⟨rfl, fun x hx => by omega⟩
  | k + 1 => by
    rw [lwTo_succ]
    unfold lwTo1
    by_cases hc : cget nm k = (c : Int) ∧ e ∈ (lget l k).en
    · rw [if_pos hc]; exact .inr (ht k hc.1 hc.2)
    · rw [if_neg hc]
      rcases lwTo_in ht k with ⟨h1, h2⟩ | h1
      · refine .inl ⟨h1, fun x hx hxc hxe => ?_⟩
        by_cases ex : x = k
        · subst ex; exact hc ⟨hxc, hxe⟩
        · exact h2 x (by omega) hxc hxe
      · exact .inr h1
theorem lwTo_none {s : Aut} {l : List Ctl} {nm : List Int} {c : Nat} {e : Int} : ∀ k, (∀ x, x < k → cget nm x = (c : Int) → e ∉ (lget l x).en) → lwTo s l nm k c e = -1
  | 0, _ => rfl
  | k + 1, h => by
    rw [lwTo_succ]
    unfold lwTo1
    rw [if_neg (fun hc => h k (by omega) hc.1 hc.2)]
    exact lwTo_none k (fun x hx => h x (by omega))
theorem lwTo_some {s : Aut} {l : List Ctl} {nm : List Int} {c : Nat} {e t : Int} (ht : ∀ x : Nat, cget nm x = (c : Int) → e ∈ (lget l x).en → cget nm (nxt s.ed x e).toNat = t) {k x : Nat} (hx : x < k) (hxc : cget nm x = (c : Int)) (hxe : e ∈ (lget l x).en) : lwTo s l nm k c e = t := by
  rcases lwTo_in ht k with ⟨_, h2⟩ | h1
  · exact absurd hxe (h2 x hx hxc)
  · exact h1
theorem bis_red {p s : Aut} (h0 : opE p s = 0) (hsub : ∀ x ∈ s.al, x ∈ p.al) (hQ : 0 < (opQ p s).length) : ∃ R, Bis p s (lwRed p s) R ∧ 0 < (lwRed p s).st := by
  obtain ⟨hp, hs, _, hv, hl⟩ := opE_zero h0
  obtain ⟨hSy, hOA, hQz⟩ := opE_syP h0
  have hR := red_law h0
  have hiA := ctls_incA hp hs hv
  have hnx := ctls_nx hp hs hv
  have hcd := ctls_def hp hs hv
  have T0 := lw0_tri hp hs hSy
  have T := hR.tr
  obtain ⟨hclsd, hcons⟩ := clsA_closed hiA hnx T0 (lw0_closed (s := s) (l := ctls p s (opQ p s))).1 (lw0_closed (s := s)).2
  have hnk := hR.nk
  have hst0 := hs.st0
  have hsne : ¬ s.st = 0 := fun e => by have := hQz.2 (.inr e); omega
  have ea := evs_two hp hs hsub
  generalize hlE : ctls p s (opQ p s) = l at *
  generalize hNE : s.st.toNat = N at *
  generalize hc1E : clsA s l (lw0 N (opQ p s)) = c1 at *
  have hN0 : Ng c1 := by
    have hN00 : Ng (lw0 N (opQ p s)) := fun x hx => by
      rcases Nat.lt_or_ge x N with hlt | hge
      · rw [cget_lw0 hlt] at hx ⊢
        split at hx
        · omega
        · rename_i e; rw [if_neg e]
      · have : cget (lw0 N (opQ p s)) x = 0 := cget_ge (by simp [lw0]; omega)
        omega
    rw [← hc1E]; exact clsA_ng hiA hnx T0 hN00
  have NR := num_all T.lc T.ld T.sm T.ls (fun x _ h => hN0 x h)
  have I := num_same T.lc T.ld T.sm T.ls (fun x _ h => hN0 x h) N (Nat.le_refl _)
  rw [List.take_of_length_le (by have := T.lc; omega)] at I
  have hnm : nums c1 = (lwNums (lwCls p s)).1 := NR.eq
  have hinn : ∀ y, y < N → cget c1 y ∈ (c1.foldl numS ([-1], [])).1 ∧ cget (nums c1) y = ((c1.foldl numS ([-1], [])).1.idxOf (cget c1 y) : Int) - 1 := I.inn
  have same : ∀ x y, x < N → y < N → (cget (nums c1) x = cget (nums c1) y ↔ cget c1 x = cget c1 y) := fun x y hx hy => by
    obtain ⟨a1, a2⟩ := hinn x hx
    obtain ⟨b1, b2⟩ := hinn y hy
    constructor
    · intro h
      have e : (c1.foldl numS ([-1], [])).1.idxOf (cget c1 x) = (c1.foldl numS ([-1], [])).1.idxOf (cget c1 y) := by omega
      have g1 := List.getElem_idxOf (List.idxOf_lt_length_of_mem a1)
      have g2 := List.getElem_idxOf (List.idxOf_lt_length_of_mem b1)
      simp only [e] at g1
      rw [g1] at g2; exact g2
    · intro h; rw [a2, b2, h]
  -- states that occur
  have hocc : ∀ x, x < N → occB (opQ p s) x = true → 0 ≤ cget (nums c1) x := fun x hx ho => by
    have h1 := NR.lo x hx
    have h2 : cget c1 x < 0 ↔ cget (lw0 N (opQ p s)) x < 0 := by
      have hN00 := T0
      have key : TrI s l N c1 (lwCls p s) := T
      -- the sign goes with the law's classes, and those with the first
      have := sign_kept hiA hnx T0 x hx
      rw [hc1E] at this; exact this
    rw [cget_lw0 hx, if_pos ho] at h2
    omega
  have hred : lwRed p s = lwAut s l (nums c1) N (lwNums (lwCls p s)).2 := by unfold lwRed; rw [hlE, hNE, ← hnm]
  rw [← hnm] at hnk
  have hmem : ∀ pn xn : Int, [pn, xn] ∈ opQ p s → ∃ x : Nat, xn = x ∧ x < N ∧ occB (opQ p s) x = true := fun pn xn hm => by
    obtain ⟨a, b, e, ha, hb⟩ := Vt2 (hv _ hm)
    simp only [List.cons.injEq, and_true] at e
    refine ⟨b, e.2, by omega, ?_⟩
    unfold occB
    rw [List.any_eq_true]
    exact ⟨_, hm, by rw [e.2]; simp [py]⟩
  have hgetj : ∀ t, t ∈ opQ p s → ∃ j, j < (opQ p s).length ∧ (opQ p s).getD j [] = t := fun t ht => by
    obtain ⟨j, hj, e⟩ := List.getElem_of_mem ht
    exact ⟨j, hj, by rw [← e]; simp [List.getD, hj]⟩
  have hclo : ∀ (pn xn v : Int) (t : List Int), [pn, xn] ∈ opQ p s → v ∈ p.al → stepT v [p, s] [pn, xn] = some t → t ∈ opQ p s := fun pn xn v t hm hv' hst => by
    obtain ⟨j, hj, e⟩ := hgetj _ hm
    exact hSy.cl j hj v (by rw [ea]; exact hv') t (by rw [e]; exact hst)
  have hen : ∀ (pn : Int) (x : Nat) (v : Int), x < N → [pn, (x : Int)] ∈ opQ p s → v ∈ s.al → (eget p.ed pn v).isSome = true → (v ∈ (lget l x).en ↔ 0 ≤ nxt s.ed x v) ∧ (v ∈ (lget l x).dis ↔ ¬ 0 ≤ nxt s.ed x v) := fun pn x v hx hm hvs hep => by
    have hcan : canX p (opQ p s) x v = true := by
      unfold canX
      rw [List.any_eq_true]
      refine ⟨_, hm, ?_⟩
      have e1 : py [pn, (x : Int)] = (x : Int) := rfl
      have e2 : px [pn, (x : Int)] = pn := rfl
      rw [e1, e2, decide_eq_true rfl, Bool.true_and]
      exact decide_eq_true ((nxt_nonneg hp pn v).2 hep)
    rw [hcd x hx]
    simp only [ctlD, List.mem_filter, hcan, Bool.true_and, decide_eq_true_eq, Bool.not_eq_true', decide_eq_false_iff_not]
    exact ⟨⟨fun h => h.2, fun h => ⟨hvs, h⟩⟩, ⟨fun h => h.2, fun h => ⟨hvs, h⟩⟩⟩
  refine ⟨fun pn xn k => [pn, xn] ∈ opQ p s ∧ ∃ x : Nat, xn = x ∧ x < N ∧ k = cget (nums c1) x, ⟨⟨?_, 0, rfl, by omega, ?_⟩, ?_, ?_⟩, ?_⟩
  · have := hSy.hd hQ
    have e : (opQ p s).getD 0 [] ∈ opQ p s := by simp [List.getD, hQ]
    rw [this] at e; exact e
  · have e : [(0 : Int), 0] ∈ opQ p s := by
      have := hSy.hd hQ
      have e : (opQ p s).getD 0 [] ∈ opQ p s := by simp [List.getD, hQ]
      rw [this] at e; exact e
    obtain ⟨x, hx0, hxN, ho⟩ := hmem 0 0 e
    have hx00 : x = 0 := by omega
    subst hx00
    have h1 := hocc 0 hxN ho
    have hd0 : cget (lwCls p s) 0 = 0 := by
      have h2 := NR.lo 0 hxN
      have h3 := T.sm.sg 0 hxN
      have := (T.ls 0 hxN (by omega)).1
      omega
    obtain ⟨N', hN'⟩ : ∃ N', N = N' + 1 := ⟨N - 1, by omega⟩
    have := (lwN_zero hd0 N').1
    rw [hnm]
    unfold lwNums
    rw [show (lwCls p s).length = N from T.ld, hN']
    exact this.symm
  · rintro pn xn k ⟨hm, x, rfl, hx, rfl⟩ v hv'
    have hoc : 0 ≤ cget (nums c1) x := by
      obtain ⟨x', e, hx', ho⟩ := hmem pn x hm
      have : x' = x := by omega
      subst this; exact hocc x' hx ho
    obtain ⟨kk, hkk⟩ : ∃ kk : Nat, cget (nums c1) x = kk := ⟨(cget (nums c1) x).toNat, by omega⟩
    cases hep : eget p.ed pn v with
    | none => exact .inl ⟨step_n1 hv' hep, step_n1 hv' hep⟩
    | some p' =>
      by_cases hvs : v ∈ s.al
      · have hvr : v ∈ (lwRed p s).al := hvs
        obtain ⟨he1, he2⟩ := hen pn x v hx hm hvs (by rw [hep]; rfl)
        have hkm : kk < (lwNums (lwCls p s)).2 := by have := NR.hi x hx; omega
        have hge : eget (lwRed p s).ed (cget (nums c1) x) v = (lwG s l (nums c1) N kk v).map (·.2.2) := by
          rw [hred, hkk]
          show eget (grid (lwG s l (nums c1) N) s.al _) kk v = _
          rw [eget_grid (lwG_ok s l (nums c1) N), if_pos ⟨hkm, hvs⟩]
        cases hes : eget s.ed x v with
        | some x' =>
          have hn0 : 0 ≤ nxt s.ed x v := (nxt_nonneg hs x v).2 (by rw [hes]; rfl)
          have hnx' : nxt s.ed x v = x' := by rw [nxt_eget, hes]
          have hven := he1.2 hn0
          have hto : ∀ y : Nat, cget (nums c1) y = (kk : Int) → v ∈ (lget l y).en → cget (nums c1) (nxt s.ed y v).toNat = cget (nums c1) (nxt s.ed x v).toNat := fun y hyk hye => by
            by_cases hyN : y < N
            · have hcl : cget c1 x = cget c1 y := (same x y hx hyN).1 (by rw [hkk, hyk])
              have hx0 : 0 ≤ cget c1 x := by have := NR.lo x hx; omega
              have := hclsd _ _ ⟨x, y, v, hx, hyN, hx0, hcl, hven, hye, rfl, rfl⟩
              obtain ⟨n1, _⟩ := hnx x hx v hven
              obtain ⟨n2, _⟩ := hnx y hyN v hye
              have t1 := hnk.to x hx (by omega) v hven
              have t2 := hnk.to y hyN (by omega) v hye
              rw [n1, n2]
              exact ((same _ _ t1.1 t2.1).2 this).symm
            · exfalso
              have : lget l y = ctl0 := by unfold lget; rw [← hlE]; rw [List.getD_eq_getElem?_getD, List.getElem?_eq_none (by rw [ctls_len]; omega)]; rfl
              rw [this] at hye; simp [ctl0] at hye
          have t1 := hnk.to x hx (by omega) v hven
          have n1 := (hnx x hx v hven).1
          have hpos : 0 ≤ cget (nums c1) (nxt s.ed x v).toNat := by rw [n1]; exact t1.2
          have hTo := lwTo_some (k := N) hto hx hkk hven
          have hG : lwG s l (nums c1) N kk v = some ((kk : Int), v, cget (nums c1) (nxt s.ed x v).toNat) := by unfold lwG; rw [hTo, if_pos hpos]
          rw [hG] at hge
          have hst := step_s2 (s := s) (xn := (x : Int)) hv' hep hvs hes
          refine .inr ⟨p', x', cget (nums c1) (nxt s.ed x v).toNat, hst, step_s2 hv' hep hvr hge, hclo pn x v _ hm hv' hst, x'.toNat, ?_, ?_, ?_⟩
          · rw [hnx'] at hn0; omega
          · have := t1.1; rw [← n1, hnx'] at this; exact this
          · rw [hnx']
        | none =>
          have hn0 : ¬ 0 ≤ nxt s.ed x v := fun h => by have := (nxt_nonneg hs x v).1 h; rw [hes] at this; cases this
          have hdis := he2.2 hn0
          have hno : ∀ y, y < N → cget (nums c1) y = (kk : Int) → v ∉ (lget l y).en := fun y hyN hyk hye => by
            by_cases exy : x = y
            · subst exy; exact hn0 (he1.1 hye)
            · have hcl : cget c1 x = cget c1 y := (same x y hx hyN).1 (by rw [hkk, hyk])
              have hx0 : 0 ≤ cget c1 x := by have := NR.lo x hx; omega
              have hlaw := consAll_spec T.lc hiA hcons hx hyN exy hx0 hcl
              unfold lawC at hlaw
              simp only [Bool.and_eq_true, List.all_eq_true, Bool.not_eq_true', decide_eq_false_iff_not] at hlaw
              exact hlaw.1.2 v hye hdis
          have hTo := lwTo_none (s := s) N hno
          have hG : lwG s l (nums c1) N kk v = none := by unfold lwG; rw [hTo]; rfl
          rw [hG] at hge
          exact .inl ⟨step_n2 hv' hep hvs hes, step_n2 hv' hep hvr hge⟩
      · have hvr : v ∉ (lwRed p s).al := hvs
        have hst := step_s1 (s := s) (xn := (x : Int)) hv' hep hvs
        exact .inr ⟨p', x, cget (nums c1) x, hst, step_s1 hv' hep hvr, hclo pn x v _ hm hv' hst, x, rfl, hx, rfl⟩
  · rintro pn xn k ⟨hm, x, rfl, hx, rfl⟩
    have hoc : 0 ≤ cget (nums c1) x := by
      obtain ⟨x', e, hx', ho⟩ := hmem pn x hm
      have : x' = x := by omega
      subst this; exact hocc x' hx ho
    obtain ⟨kk, hkk⟩ : ∃ kk : Nat, cget (nums c1) x = kk := ⟨(cget (nums c1) x).toNat, by omega⟩
    have e1 : markT [p, s] [pn, (x : Int)] = (decide (pn ∈ p.mr) && (decide ((x : Int) ∈ s.mr) && true)) := rfl
    have e2 : markT [p, lwRed p s] [pn, cget (nums c1) x] = (decide (pn ∈ p.mr) && (decide (cget (nums c1) x ∈ (lwRed p s).mr) && true)) := rfl
    rw [e1, e2]
    by_cases hpm : pn ∈ p.mr
    · rw [decide_eq_true hpm, Bool.true_and, Bool.true_and, Bool.and_true, Bool.and_true]
      have hany : (opQ p s).any (fun q => decide (py q = (x : Int))) = true := by rw [List.any_eq_true]; exact ⟨_, hm, by simp [py]⟩
      have hps : (lget l x).ps = true := by
        rw [hcd x hx]
        show ((opQ p s).any fun q => decide (py q = (x : Int)) && decide (px q ∈ p.mr)) = true
        rw [List.any_eq_true]
        exact ⟨_, hm, by simp [py, px, hpm]⟩
      have hmk : (lget l x).mk' = decide ((x : Int) ∈ s.mr) := by
        rw [hcd x hx]
        show (((opQ p s).any fun q => decide (py q = (x : Int))) && decide ((x : Int) ∈ s.mr)) = _
        rw [hany, Bool.true_and]
      have hkm : kk < (lwNums (lwCls p s)).2 := by have := NR.hi x hx; omega
      have hmr : decide (cget (nums c1) x ∈ (lwRed p s).mr) = lwMk l (nums c1) N kk := by
        rw [hred, hkk]
        show decide ((kk : Int) ∈ ((List.range' 0 (lwNums (lwCls p s)).2).filter (lwMk l (nums c1) N)).map fun c : Nat => (c : Int)) = _
        rw [Bool.eq_iff_iff]
        simp only [decide_eq_true_eq, List.mem_map, List.mem_filter, List.mem_range'_1]
        constructor
        · rintro ⟨i, ⟨_, h2⟩, h3⟩
          have : i = kk := by omega
          subst this; exact h2
        · intro h2; exact ⟨kk, ⟨by omega, h2⟩, rfl⟩
      rw [hmr, ← hmk]
      cases hmx : (lget l x).mk' with
      | true =>
        symm
        unfold lwMk
        rw [List.any_eq_true]
        refine ⟨x, by rw [List.mem_range'_1]; omega, ?_⟩
        unfold lwMk1
        rw [decide_eq_true hkk, hmx, hps]; rfl
      | false =>
        symm
        cases hq : lwMk l (nums c1) N kk with
        | false => rfl
        | true =>
          exfalso
          unfold lwMk at hq
          rw [List.any_eq_true] at hq
          obtain ⟨y, hy, hy1⟩ := hq
          rw [List.mem_range'_1] at hy
          unfold lwMk1 at hy1
          simp only [Bool.and_eq_true, decide_eq_true_eq] at hy1
          have hyN : y < N := by omega
          by_cases exy : x = y
          · subst exy; rw [hmx] at hy1; exact absurd hy1.1.2 (by simp)
          · have hcl : cget c1 x = cget c1 y := (same x y hx hyN).1 (by rw [hkk, hy1.1.1])
            have hx0 : 0 ≤ cget c1 x := by have := NR.lo x hx; omega
            have hlaw := consAll_spec T.lc hiA hcons hx hyN exy hx0 hcl
            unfold lawC at hlaw
            rw [hps, hy1.2, hmx, hy1.1.2] at hlaw
            simp at hlaw
    · rw [decide_eq_false hpm, Bool.false_and, Bool.false_and]
  · have e : [(0 : Int), 0] ∈ opQ p s := by
      have := hSy.hd hQ
      have e : (opQ p s).getD 0 [] ∈ opQ p s := by simp [List.getD, hQ]
      rw [this] at e; exact e
    obtain ⟨x, hx0, hxN, ho⟩ := hmem 0 0 e
    have h1 := hocc x hxN ho
    have h2 := NR.hi x hxN
    rw [hred]
    show (0 : Int) < ((lwNums (lwCls p s)).2 : Int)
    omega
where
  sign_kept {s : Aut} {l : List Ctl} {n : Nat} {c d : List Int} (hi : IncA l n) (hn : Nx s l n) (h : TrI s l n c d) : ∀ x, x < n → (cget (clsA s l c) x < 0 ↔ cget c x < 0) := by
    have key : TrI s l n (clsA s l c) (lwA s l d) ∧ ∀ x, x < n → (cget (clsA s l c) x < 0 ↔ cget c x < 0) := by
      generalize hc0 : c = c0
      have hb : ∀ x, x < n → (cget c x < 0 ↔ cget c0 x < 0) := fun x _ => by rw [hc0]
      rw [← hc0]
      have hb' : TrI s l n c d ∧ ∀ x, x < n → (cget c x < 0 ↔ cget c0 x < 0) := ⟨h, hb⟩
      have goal : TrI s l n (clsA s l c) (lwA s l d) ∧ ∀ x, x < n → (cget (clsA s l c) x < 0 ↔ cget c0 x < 0) := by
        unfold clsA lwA
        rw [h.lc, h.ld]
        refine fold_two (P := fun x => x < n) (I := fun c d => TrI s l n c d ∧ ∀ x, x < n → (cget c x < 0 ↔ cget c0 x < 0)) (fun c d x hx hI => ?_) _ c d (fun x hx => by rw [List.mem_range'_1] at hx; omega) hb'
        unfold tryX lwTX
        refine fold_two (f := fun c y => tryC s l c x y) (g := fun d y => lwTry s l d x y) (P := fun y => y < n) (I := fun c d => TrI s l n c d ∧ ∀ x, x < n → (cget c x < 0 ↔ cget c0 x < 0)) (fun c d y hy hI => ⟨try_same hi hn hI.1 hx hy, fun q hq => ?_⟩) (List.range' (x + 1) (n - (x + 1))) c d (fun y hy => by rw [List.mem_range'_1] at hy; omega) hI
        rw [← hI.2 q hq]
        unfold tryC
        split
        · exact Iff.rfl
        · rename_i h1
          have hc0 : 0 ≤ cget c x := by omega
          have hc1 : 0 ≤ cget c y := by omega
          have K1 := closeC_spec (s := s) (fun x hx => (hi x hx).1) (c.length * c.length + 1) (mergeC c x y) (by rw [mergeC_len]; exact hI.1.lc) (hI.1.oc.of fun q hq => merge_sign hI.1.lc hc0 hc1 hq) (by have := uneq_le (mergeC c x y); rw [mergeC_len] at this; omega)
          simp only []
          split
          · rw [K1.sg q hq, merge_sign hI.1.lc hc0 hc1 hq]
          · exact Iff.rfl
      refine ⟨goal.1, fun x hx => ?_⟩
      rw [goal.2 x hx, hc0]
    exact key.2
end Go.Proofs.YtfhgnlkdcdlblaaGreatDoor
/- SupervisorKeeps, plain law: all together. -/
namespace Go.Proofs.YtfhgnlkdcdlblaaGreatDoor
open Go.Lg

theorem canA_okay {a : Aut} (ho : Okay a) : Okay (canA a) := by
  have h0 := ho.st0
  have h1 := ho.st1
  by_cases hz : a.st = 0
  · unfold canA
    rw [if_pos hz]
    exact ⟨ho.al, ho.ali, by simp, by simp, by simp, by simp, by simp, by simp⟩
  · obtain ⟨ord, h⟩ := canA_spec ho (by omega)
    have hl : ord.length ≤ a.st.toNat := pig _ _ h.nd (fun x hx => by have := h.bd x hx; omega)
    refine ⟨by rw [h.al]; exact ho.al, by rw [h.al]; exact ho.ali, by rw [h.st]; omega, by rw [h.st]; omega, fun s hs => ?_, ?_, fun e he => ?_, ?_⟩
    · rw [h.mk2] at hs
      simp only [List.mem_map, List.mem_filter, List.mem_range'_1] at hs
      obtain ⟨i, ⟨hi, _⟩, rfl⟩ := hs
      rw [h.st]; omega
    · rw [h.mk2]
      unfold Inc
      rw [List.pairwise_map]
      refine List.Pairwise.sublist List.filter_sublist ?_
      exact (List.pairwise_lt_range' (s := 0) (n := ord.length)).imp (fun h => by omega)
    · rw [h.ed] at he
      obtain ⟨j, hj, hd⟩ := List.mem_flatMap.1 he
      rw [List.mem_range'_1] at hj
      unfold cnR at hd
      obtain ⟨d, hd2, rfl⟩ := List.mem_map.1 hd
      have hm := h.cl j (by omega) d hd2
      have := List.idxOf_lt_length_of_mem hm
      have hda := (ho.ed d (outE_mem hd2).1).2.2.1
      rw [h.st, h.al]
      unfold cnF
      exact ⟨by simp only []; omega, by simp only []; omega, hda, by simp only []; omega, by simp only []; omega⟩
    · rw [h.ed]
      have key : ∀ n, ((List.range' 0 n).flatMap (cnR a ord)).Pairwise fun x y : Ed => x.1 < y.1 ∨ (x.1 = y.1 ∧ x.2.1 < y.2.1) := by
        intro n
        induction n with
        | zero => simp
        | succ n ih =>
          rw [List.range'_1_concat, List.flatMap_append, Nat.zero_add, List.pairwise_append]
          refine ⟨ih, ?_, fun x hx y hy => ?_⟩
          · simp only [List.flatMap_cons, List.flatMap_nil, List.append_nil]
            unfold cnR
            rw [List.pairwise_map]
            have h2 : (outE a.ed (getI ord n)).Pairwise fun x y : Ed => x.1 < y.1 ∨ (x.1 = y.1 ∧ x.2.1 < y.2.1) := List.Pairwise.sublist List.filter_sublist ho.edi
            refine List.Pairwise.imp_of_mem (fun {x y} hx hy hxy => ?_) h2
            have e1 := (outE_mem hx).2
            have e2 := (outE_mem hy).2
            right
            exact ⟨rfl, by show x.2.1 < y.2.1; omega⟩
          · obtain ⟨j, hj, hx2⟩ := List.mem_flatMap.1 hx
            rw [List.mem_range'_1] at hj
            simp only [List.flatMap_cons, List.flatMap_nil, List.append_nil] at hy
            unfold cnR at hx2 hy
            obtain ⟨d, _, rfl⟩ := List.mem_map.1 hx2
            obtain ⟨d', _, rfl⟩ := List.mem_map.1 hy
            left
            show (j : Int) < (n : Int)
            omega
      exact key _
/-! ### The product of two small automata is found -/
theorem tup_le {p s : Aut} (hp : Okay p) (hs : Okay s) {z : Sy} (hz : SyOk [p, s] z) (hd : z.tup.Nodup) : z.tup.length ≤ p.st.toNat * s.st.toNat := by
  have p0 := hp.st0
  have s0 := hs.st0
  have h1 : (z.tup.map fun t => px t * s.st + py t).Nodup := by
    unfold List.Nodup
    rw [List.pairwise_map]
    refine List.Pairwise.imp_of_mem (fun {a b} ha hb hne e => hne ?_) hd
    obtain ⟨x1, y1, rfl, p1, q1⟩ := Vt2 (hz.v a ha)
    obtain ⟨x2, y2, rfl, p2, q2⟩ := Vt2 (hz.v b hb)
    have e' : (x1 : Int) * s.st + y1 = x2 * s.st + y2 := e
    have m1 : ((x1 : Int) * s.st + y1) % s.st = y1 := by rw [Int.mul_comm, Int.mul_add_emod_self_left]; exact Int.emod_eq_of_lt (by omega) q1
    have m2 : ((x2 : Int) * s.st + y2) % s.st = y2 := by rw [Int.mul_comm, Int.mul_add_emod_self_left]; exact Int.emod_eq_of_lt (by omega) q2
    have d1 : ((x1 : Int) * s.st + y1) / s.st = x1 := by rw [Int.mul_comm, Int.mul_add_ediv_left _ _ (by omega), Int.ediv_eq_zero_of_lt (by omega) q1]; omega
    have d2 : ((x2 : Int) * s.st + y2) / s.st = x2 := by rw [Int.mul_comm, Int.mul_add_ediv_left _ _ (by omega), Int.ediv_eq_zero_of_lt (by omega) q2]; omega
    rw [e'] at m1 d1
    have ex : x1 = x2 := by omega
    have ey : y1 = y2 := by omega
    rw [ex, ey]
  have h2 := pig (p.st.toNat * s.st.toNat) _ h1 (fun u hu => by
    obtain ⟨t, ht, rfl⟩ := List.mem_map.1 hu
    obtain ⟨x1, y1, rfl, p1, q1⟩ := Vt2 (hz.v t ht)
    show 0 ≤ (x1 : Int) * s.st + y1 ∧ (x1 : Int) * s.st + y1 < _
    have e1 : s.st = (s.st.toNat : Int) := by omega
    have l1 : x1 + 1 ≤ p.st.toNat := by omega
    have l2 : y1 < s.st.toNat := by omega
    have := Nat.mul_le_mul_right s.st.toNat l1
    rw [Nat.add_mul, Nat.one_mul] at this
    rw [e1]
    refine ⟨Int.add_nonneg (Int.mul_nonneg (by omega) (by omega)) (by omega), ?_⟩
    have h3 : x1 * s.st.toNat + y1 < p.st.toNat * s.st.toNat := by omega
    exact_mod_cast h3)
  simpa using h2
theorem syE_some2 {p s : Aut} (hp : Okay p) (hs : Okay s) (hm : p.st.toNat * s.st.toNat < 4096) {z : Sy} (hz : SyOk [p, s] z) (hd : z.tup.Nodup) (i : Nat) (t : List Int) (v : Int) : ∃ z', syE [p, s] i t z v = some z' ∧ z'.tup.Nodup := by
  have hl := tup_le hp hs hz hd
  unfold syE
  cases stepT v [p, s] t with
  | none => exact ⟨z, rfl, hd⟩
  | some u =>
    simp only []
    by_cases hu : u ∈ z.tup
    · rw [if_pos hu]; exact ⟨_, rfl, hd⟩
    · rw [if_neg hu, if_neg (by omega)]
      exact ⟨_, rfl, nodup_snoc hd hu⟩
theorem syEs_some2 {p s : Aut} (hp : Okay p) (hs : Okay s) (hm : p.st.toNat * s.st.toNat < 4096) (ho : ∀ a ∈ [p, s], Okay a) {i : Nat} {t : List Int} (ht : Vt [p, s] t) : ∀ (vs : List Int) (z : Sy), SyOk [p, s] z → z.tup.Nodup → ∃ z', syEs [p, s] i t vs z = some z' ∧ z'.tup.Nodup
  | [], z, _, hd => ⟨z, rfl, hd⟩
  | v :: vs, z, hz, hd => by
    obtain ⟨s1, h1, h2⟩ := syE_some2 hp hs hm hz hd i t v
    obtain ⟨s2, h3, h4⟩ := syEs_some2 hp hs hm ho ht vs s1 (syE_ok ho hz ht h1) h2
    exact ⟨s2, by rw [syEs, h1]; exact h3, h4⟩
theorem syL_some2 {p s : Aut} (hp : Okay p) (hs : Okay s) (hm : p.st.toNat * s.st.toNat < 4096) (ho : ∀ a ∈ [p, s], Okay a) : ∀ (f i : Nat) (z : Sy), SyOk [p, s] z → z.tup.Nodup → ∃ z', syL [p, s] f i z = some z'
  | 0, _, z, _, _ => ⟨z, rfl⟩
  | f + 1, i, z, hz, hd => by
    rw [syL]
    split
    · rename_i hi
      have hv : Vt [p, s] (syT z i) := hz.v _ (by unfold syT; simp [List.getD, hi])
      have hmk : (syMark [p, s] i (syT z i) z).tup = z.tup := by unfold syMark; split <;> rfl
      obtain ⟨s1, h1, h2⟩ := syEs_some2 hp hs hm ho hv (evs [p, s]) (syMark [p, s] i (syT z i) z) (syMark_ok hz) (by rw [hmk]; exact hd)
      obtain ⟨s2, h3⟩ := syL_some2 hp hs hm ho f (i + 1) s1 (syEs_ok ho hv _ _ _ (syMark_ok hz) h1) h2
      exact ⟨s2, by rw [h1]; exact h3⟩
    · exact ⟨z, rfl⟩
theorem opE_small {p s : Aut} (hp : Okay p) (hs : Okay s) (hsub : ∀ x ∈ s.al, x ∈ p.al) (hm : p.st.toNat * s.st.toNat < 4096) : opE p s = 0 := by
  have ho : ∀ a ∈ [p, s], Okay a := fun a ha => by
    simp only [List.mem_cons, List.not_mem_nil, or_false] at ha
    rcases ha with rfl | rfl
    · exact hp
    · exact hs
  have hc : opC p s = 0 := by
    unfold opC
    rw [if_neg (by simp [(ckA_zero p).2 hp]), if_neg (by simp [(ckA_zero s).2 hs]), if_pos]
    refine List.eq_nil_iff_forall_not_mem.2 fun x hx => ?_
    have := (mem_mrg hs.ali hp.ali x).1 hx
    simp only [Bool.and_eq_true, decide_eq_true_eq, Bool.not_eq_true', decide_eq_false_iff_not] at this
    exact this.2.2 (hsub x this.2.1)
  unfold opE
  rw [if_neg (by simp [hc])]
  have hsome : ∃ z, sync [p, s] = some z := by
    unfold sync
    split
    · exact ⟨_, rfl⟩
    · rename_i hz
      obtain ⟨z, hz2⟩ := syL_some2 hp hs hm ho 4096 0 (sy0 [p, s]) (sy0_ok ho hz) (by simp [sy0])
      rw [hz2]; exact ⟨_, rfl⟩
  obtain ⟨z, hz⟩ := hsome
  rw [hz]
theorem eqv_empty {a b : Aut} (ha : Okay a) (hb : Okay b) (za : a.st = 0) (zb : b.st = 0) (al : List Int) : eqv a b al = none := by
  refine eqv_none (Rl := fun x y => x = -1 ∧ y = -1) ?_ ?_ ?_
  · rw [if_neg (by omega), if_neg (by omega)]; exact ⟨rfl, rfl⟩
  · rintro x y v _ ⟨rfl, rfl⟩
    have key : ∀ {a : Aut}, Okay a → nxt a.ed (-1) v = -1 := fun {a} ho => by
      rw [nxt_eget]
      cases hg : eget a.ed (-1) v with
      | none => rfl
      | some u => have := (ho.ed _ (eget_mem hg)).1; simp only [] at this; omega
    exact ⟨key ha, key hb⟩
  · rintro x y ⟨rfl, rfl⟩
    unfold dfr
    have ma : decide ((-1 : Int) ∈ a.mr) = false := decide_eq_false fun hm => by have := (ha.mr _ hm).1; omega
    have mb : decide ((-1 : Int) ∈ b.mr) = false := decide_eq_false fun hm => by have := (hb.mr _ hm).1; omega
    rw [ma, mb]; rfl
/-- The reduced supervisor of a problem. -/
structure RdK (p s : Aut) : Prop where
  pb : Pb p (rdA p s)
  al : (rdA p s).al = s.al
  st : (rdA p s).st ≤ s.st
  bi : 0 < (opQ p s).length → (∃ R, Bis p s (rdA p s) R) ∧ 0 < (rdA p s).st
  ze : (opQ p s).length = 0 → p.st = 0 ∨ (rdA p s).st = 0
theorem rd_keeps {p s : Aut} (h : Pb p s) : RdK p s := by
  have hE := h.opE0
  have hR := red_law hE
  obtain ⟨hSy, hOA, hQz⟩ := opE_syP hE
  have hs5 := h.s5
  have s0 := h.s.st0
  have hok : Okay (rdA p s) := by rw [hR.eq]; exact canA_okay hR.ok
  have hal : (rdA p s).al = s.al := by
    rw [hR.eq]
    unfold canA
    split <;> rfl
  by_cases hq : (opQ p s).length = 0
  · have hq' : opQ p s = [] := List.eq_nil_of_length_eq_zero hq
    have he : rdA p s = ⟨s.al, 0, [], []⟩ := by unfold rdA; rw [if_pos hq']
    have hst : (rdA p s).st = 0 := by rw [he]
    exact ⟨⟨h.p, hok, h.p5, by omega, fun x hx => h.sub x (by rw [hal] at hx; exact hx)⟩, hal, by omega, fun h0 => by omega, fun _ => .inr hst⟩
  · obtain ⟨R1, hB1, hst1⟩ := bis_red hE h.sub (by omega)
    obtain ⟨R2, hB2, _, hle, hpos⟩ := bis_can (p := p) hR.ok hst1
    have hle2 : (lwRed p s).st ≤ s.st := by
      have hm : (lwRed p s).st = ((lwNums (lwCls p s)).2 : Int) := rfl
      have hcnt : (lwNums (lwCls p s)).2 ≤ s.st.toNat := by
        have key : ∀ (d : List Int) (k : Nat), ((List.range' 0 k).foldl (lwN d) ([], 0)).2 ≤ k := by
          intro d k
          induction k with
          | zero => exact Nat.le_refl _
          | succ k ih =>
            rw [List.range'_1_concat, List.foldl_append, Nat.zero_add]
            simp only [List.foldl_cons, List.foldl_nil]
            generalize (List.range' 0 k).foldl (lwN d) ([], 0) = z at ih
            unfold lwN
            split
            · exact Nat.le_succ_of_le ih
            · split
              · exact Nat.succ_le_succ ih
              · exact Nat.le_succ_of_le ih
        unfold lwNums
        rw [show (lwCls p s).length = s.st.toNat from hR.tr.ld]
        exact key _ _
      rw [hm]; omega
    rw [← hR.eq] at hB2 hle hpos
    exact ⟨⟨h.p, hok, h.p5, by omega, fun x hx => h.sub x (by rw [hal] at hx; exact hx)⟩, hal, by omega, fun _ => ⟨⟨_, hB1.comp hB2⟩, hpos⟩, fun e => absurd e hq⟩
/-- What Equivalent finds: no word. -/
theorem keeps_eq {p s t : Aut} (h : Pb p s) (ht : Okay t) (hsub : ∀ x ∈ t.al, x ∈ p.al) (hE : opE p t = 0) (hb : 0 < (opQ p s).length → (∃ R, Bis p s t R) ∧ 0 < t.st) (hz : (opQ p s).length = 0 → p.st = 0 ∨ t.st = 0) : eqv (opA p s) (opA p t) p.al = none := by
  have hE1 := h.opE0
  obtain ⟨hSy, hOA, hQz⟩ := opE_syP hE1
  obtain ⟨hSy2, hOB, hQz2⟩ := opE_syP hE
  by_cases hq : (opQ p s).length = 0
  · have h2 : (opQ p t).length = 0 := hQz2.2 (hz hq)
    exact eqv_empty hOA hOB (by rw [hSy.st, hq]; rfl) (by rw [hSy2.st, h2]; rfl) _
  · obtain ⟨⟨R, hB⟩, hpos⟩ := hb (by omega)
    refine bis_none hSy hSy2 (evs_two h.p h.s h.sub) (evs_two h.p ht hsub) hOA hOB hB ⟨fun e => absurd e hq, fun e => ?_⟩
    have := hQz2.1 e
    rcases this with h3 | h3
    · exact hQz.2 (.inl h3)
    · omega
structure KpR (p s : Aut) : Prop where
  e1 : rdE p s = 0
  pb1 : Pb p (rdA p s)
  e2 : rdE p (rdA p s) = 0
  pb2 : Pb p (rdA p (rdA p s))
  le1 : (rdA p s).st ≤ s.st
  le2 : (rdA p (rdA p s)).st ≤ (rdA p s).st
  lok : Okay (opA p s)
  lst : (opA p s).st ≤ 25
  lE : opE p (opA p s) = 0
  q1 : eqv (opA p s) (opA p (rdA p s)) p.al = none
  q2 : eqv (opA p s) (opA p (rdA p (rdA p s))) p.al = none
  q3 : eqv (opA p s) (opA p (opA p s)) p.al = none
theorem keeps_law {p s : Aut} (h : Pb p s) : KpR p s := by
  have K1 := rd_keeps h
  have K2 := rd_keeps K1.pb
  have hE := h.opE0
  obtain ⟨hSy, hOA, hQz⟩ := opE_syP hE
  obtain ⟨hSy1, _, hQz1⟩ := opE_syP K1.pb.opE0
  have p0 := h.p.st0
  have p5 := h.p5
  have s0 := h.s.st0
  have s5 := h.s5
  have ea := evs_two h.p h.s h.sub
  have hlst : (opA p s).st ≤ 25 := by
    have h1 : (opQ p s).length ≤ 25 := by
      have hk : ((opQ p s).map encT).Nodup := by
        unfold List.Nodup
        rw [List.pairwise_map]
        refine List.Pairwise.imp_of_mem (fun {a b} ha hb hne => ?_) hSy.nd
        obtain ⟨x1, y1, rfl, p1, q1⟩ := Vt2 (hSy.v a ha)
        obtain ⟨x2, y2, rfl, p2, q2⟩ := Vt2 (hSy.v b hb)
        intro e
        have e' : (x1 : Int) * 5 + y1 = x2 * 5 + y2 := e
        have ex : x1 = x2 := by omega
        have ey : y1 = y2 := by omega
        exact hne (by rw [ex, ey])
      have := pig 25 _ hk (fun z hz => by
        obtain ⟨t, ht, rfl⟩ := List.mem_map.1 hz
        obtain ⟨x1, y1, rfl, p1, q1⟩ := Vt2 (hSy.v t ht)
        show 0 ≤ (x1 : Int) * 5 + y1 ∧ (x1 : Int) * 5 + y1 < 25
        omega)
      simpa using this
    rw [hSy.st]; omega
  have hLsub : ∀ x ∈ (opA p s).al, x ∈ p.al := fun x hx => by rw [hSy.al, ea] at hx; exact hx
  have hLE : opE p (opA p s) = 0 := opE_small h.p hOA hLsub (by
    have h1 : p.st.toNat ≤ 5 := by omega
    have h2 : (opA p s).st.toNat ≤ 25 := by omega
    have := Nat.mul_le_mul h1 h2
    omega)
  refine ⟨(red_law hE).e0, K1.pb, (red_law K1.pb.opE0).e0, K2.pb, K1.st, K2.st, hOA, hlst, hLE, ?_, ?_, ?_⟩
  · exact keeps_eq h K1.pb.s K1.pb.sub K1.pb.opE0 K1.bi K1.ze
  · refine keeps_eq h K2.pb.s K2.pb.sub K2.pb.opE0 (fun hq => ?_) (fun hq => ?_)
    · obtain ⟨⟨R1, b1⟩, s1⟩ := K1.bi hq
      have hq1 : 0 < (opQ p (rdA p s)).length := by
        rcases Nat.eq_zero_or_pos (opQ p (rdA p s)).length with e | e
        · rcases hQz1.1 e with h3 | h3
          · have := hQz.2 (.inl h3); omega
          · omega
        · exact e
      obtain ⟨⟨R2, b2⟩, s2⟩ := K2.bi hq1
      exact ⟨⟨_, b1.comp b2⟩, s2⟩
    · rcases K1.ze hq with h3 | h3
      · exact .inl h3
      · exact .inr (by have := K2.st; have := K2.pb.s.st0; omega)
  · refine keeps_eq h hOA hLsub hLE (fun hq => ?_) (fun hq => ?_)
    · exact ⟨⟨_, bis_loop h.p h.s h.sub hSy hq⟩, by rw [hSy.st]; omega⟩
    · exact .inr (by rw [hSy.st, hq]; rfl)
end Go.Proofs.YtfhgnlkdcdlblaaGreatDoor
/- Plain: what the functions answer to few events, states and edges. -/
namespace Go.Proofs.YtfhgnlkdcdlblaaGreatDoor
open Go.Lg

theorem eqv_self (a : Aut) (al : List Int) : eqv a a al = none := by
  refine eqv_none (Rl := fun x y => x = y) rfl (fun x y v _ e => by rw [e]) (fun x y e => ?_)
  subst e
  unfold dfr
  simp
theorem opE_few {p s : Aut} (hp : fewP p) (hs : fewP s) : opE p s = opC p s := by
  by_cases hc : opC p s = 0
  · obtain ⟨h1, h2⟩ := opC_zero hc
    have c1 := (ckA_zero p).2 h1
    have c2 := (ckA_zero s).2 h2
    have s1 : p.st ≤ 40 := hp.2.2.2.resolve_right (fun h => h c1)
    have s2 : s.st ≤ 40 := hs.2.2.2.resolve_right (fun h => h c2)
    rw [hc]
    refine opE_small h1 h2 (fun x hx => ?_) ?_
    · have hm : mrg (fun p q => p && !q) s.al p.al = [] := by
        unfold opC at hc
        rw [if_neg (by simp [c1]), if_neg (by simp [c2])] at hc
        split at hc
        · assumption
        · cases hc
      by_cases hxp : x ∈ p.al
      · exact hxp
      · have : x ∈ mrg (fun p q => p && !q) s.al p.al := (mem_mrg h2.ali h1.ali x).2 ⟨.inl hx, by simp [hx, hxp]⟩
        rw [hm] at this; cases this
    · have h3 : p.st.toNat ≤ 40 := by omega
      have h4 : s.st.toNat ≤ 40 := by omega
      have := Nat.mul_le_mul h3 h4
      omega
  · unfold opE; rw [if_pos hc]
theorem few_st {p s : Aut} (hp : fewP p) (hs : fewP s) : Okay p → Okay s → p.st ≤ 100 ∧ s.st ≤ 100 := fun h1 h2 => by
  have s1 : p.st ≤ 40 := hp.2.2.2.resolve_right (fun h => h ((ckA_zero p).2 h1))
  have s2 : s.st ≤ 40 := hs.2.2.2.resolve_right (fun h => h ((ckA_zero s).2 h2))
  omega
end Go.Proofs.YtfhgnlkdcdlblaaGreatDoor
