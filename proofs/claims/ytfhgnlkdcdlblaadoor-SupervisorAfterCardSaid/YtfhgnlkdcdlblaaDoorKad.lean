/- Merged out of 9 texts. -/
import Derived.Test.YtfhgnlkdcdlblaaDoorKac
import Derived.Test.YtfhgnlkdcdlblaaDoorKaa
import Derived.ChangeSame
import Derived.Carry
import Derived.OpenShut
import Derived.RowKit
import Derived.ChangeSlices
import Derived.WideShapes
import Derived.ProofKit
/- Merged out of the texts Ta Dg Dh Tb Di. -/
/- The Controls as the definition says: plain law for SupervisorMaps. -/
namespace Go.Proofs.YtfhgnlkdcdlblaaDoor
open Go.Lg

theorem Inc.ext : ∀ {a b : List Int}, Inc a → Inc b → (∀ x, x ∈ a ↔ x ∈ b) → a = b
  | [], [], _, _, _ => rfl
  | [], y :: b, _, _, h => by have := (h y).2 List.mem_cons_self; cases this
  | x :: a, [], _, _, h => by have := (h x).1 List.mem_cons_self; cases this
  | x :: a, y :: b, ia, ib, h => by
    have e : x = y := by
      have h1 := (h x).1 List.mem_cons_self
      have h2 := (h y).2 List.mem_cons_self
      rcases List.mem_cons.1 h1 with h1 | h1
      · exact h1
      · rcases List.mem_cons.1 h2 with h2 | h2
        · exact h2.symm
        · have := ib.lt_of h1; have := ia.lt_of h2; omega
    subst e
    congr 1
    refine Inc.ext ia.tail ib.tail fun z => ?_
    have hz := h z
    constructor
    · intro hm
      have := hz.1 (List.mem_cons_of_mem _ hm)
      rcases List.mem_cons.1 this with h1 | h1
      · have := ia.lt_of hm; omega
      · exact h1
    · intro hm
      have := hz.2 (List.mem_cons_of_mem _ hm)
      rcases List.mem_cons.1 this with h1 | h1
      · have := ib.lt_of hm; omega
      · exact h1
theorem uni1_mem {l : List Int} (h : Inc l) (v x : Int) : x ∈ uni1 l v ↔ x ∈ l ∨ x = v := by
  unfold uni1
  rw [mem_mrg h (by simp)]
  simp
theorem uni1_inc {l : List Int} (h : Inc l) (v : Int) : Inc (uni1 l v) := mrg_inc _ _ l [v] (Nat.le_refl _) h (by simp)
theorem nxt_eget (es : List Ed) (s v : Int) : nxt es s v = match eget es s v with | some u => u | none => -1 := by
  induction es with
  | nil => rfl
  | cons e es ih =>
    rw [nxt, eget]
    split
    · rfl
    · exact ih
theorem nxt_nonneg {a : Aut} (ho : Okay a) (s v : Int) : 0 ≤ nxt a.ed s v ↔ (eget a.ed s v).isSome = true := by
  rw [nxt_eget]
  cases h : eget a.ed s v with
  | none => simp
  | some u => simp; exact (ho.ed _ (eget_mem h)).2.2.2.1
/-! ### The definition -/
def canX (p : Aut) (pairs : List (List Int)) (x e : Int) : Bool := pairs.any fun q => decide (py q = x) && decide (0 ≤ nxt p.ed (px q) e)
def ctlD (p s : Aut) (pairs : List (List Int)) (x : Int) : Ctl :=
  ⟨s.al.filter fun e => canX p pairs x e && decide (0 ≤ nxt s.ed x e), s.al.filter fun e => canX p pairs x e && !decide (0 ≤ nxt s.ed x e),
    (pairs.any fun q => decide (py q = x)) && decide (x ∈ s.mr), pairs.any fun q => decide (py q = x) && decide (px q ∈ p.mr)⟩
/-- A Control after the pairs so far. -/
structure CtlI (p s : Aut) (pairs : List (List Int)) (x : Int) (c : Ctl) : Prop where
  ei : Inc c.en
  di : Inc c.dis
  em : ∀ e, e ∈ c.en ↔ e ∈ s.al ∧ canX p pairs x e = true ∧ 0 ≤ nxt s.ed x e
  dm : ∀ e, e ∈ c.dis ↔ e ∈ s.al ∧ canX p pairs x e = true ∧ ¬ 0 ≤ nxt s.ed x e
  mk2 : c.mk' = ((pairs.any fun q => decide (py q = x)) && decide (x ∈ s.mr))
  ps : c.ps = pairs.any fun q => decide (py q = x) && decide (px q ∈ p.mr)
theorem CtlI.eq {p s : Aut} {pairs : List (List Int)} {x : Int} {c : Ctl} (h : CtlI p s pairs x c) (hi : Inc s.al) : c = ctlD p s pairs x := by
  obtain ⟨en, dis, mk', ps⟩ := c
  have e1 : en = s.al.filter fun e => canX p pairs x e && decide (0 ≤ nxt s.ed x e) := by
    refine Inc.ext h.ei (List.Pairwise.sublist List.filter_sublist hi) fun e => ?_
    rw [h.em e, List.mem_filter]; simp
  have e2 : dis = s.al.filter fun e => canX p pairs x e && !decide (0 ≤ nxt s.ed x e) := by
    refine Inc.ext h.di (List.Pairwise.sublist List.filter_sublist hi) fun e => ?_
    rw [h.dm e, List.mem_filter]; simp
  have e3 := h.mk2
  have e4 := h.ps
  simp only [] at e3 e4
  unfold ctlD
  rw [e1, e2, e3, e4]
theorem CtlI.zero (p s : Aut) (x : Int) : CtlI p s [] x ctl0 := ⟨by simp [ctl0], by simp [ctl0], by simp [ctl0, canX], by simp [ctl0, canX], by simp [ctl0], by simp [ctl0]⟩
theorem CtlI.other {p s : Aut} {pairs : List (List Int)} {x : Int} {c : Ctl} (h : CtlI p s pairs x c) {q : List Int} (hq : py q ≠ x) : CtlI p s (pairs ++ [q]) x c := by
  have hc : ∀ e, canX p (pairs ++ [q]) x e = canX p pairs x e := fun e => by unfold canX; rw [List.any_append]; simp [hq]
  refine ⟨h.ei, h.di, fun e => by rw [hc]; exact h.em e, fun e => by rw [hc]; exact h.dm e, ?_, ?_⟩
  · rw [h.mk2, List.any_append]; simp [hq]
  · rw [h.ps, List.any_append]; simp [hq]
/-- The events of a pair. -/
theorem ctlE_fold {p s : Aut} (hp : Okay p) (hs : Okay s) (x y : Int) : ∀ (vs : List Int) (c : Ctl), Inc c.en → Inc c.dis →
    Inc (vs.foldl (ctlE p s x y) c).en ∧ Inc (vs.foldl (ctlE p s x y) c).dis ∧ (vs.foldl (ctlE p s x y) c).mk' = c.mk' ∧ (vs.foldl (ctlE p s x y) c).ps = c.ps ∧
    (∀ e, e ∈ (vs.foldl (ctlE p s x y) c).en ↔ e ∈ c.en ∨ (e ∈ vs ∧ 0 ≤ nxt p.ed x e ∧ 0 ≤ nxt s.ed y e)) ∧ (∀ e, e ∈ (vs.foldl (ctlE p s x y) c).dis ↔ e ∈ c.dis ∨ (e ∈ vs ∧ 0 ≤ nxt p.ed x e ∧ ¬ 0 ≤ nxt s.ed y e))
  | [], c, h1, h2 => ⟨h1, h2, rfl, rfl, fun e => by simp, fun e => by simp⟩
  | v :: vs, c, h1, h2 => by
    rw [List.foldl_cons]
    have np := nxt_nonneg hp x v
    have ns := nxt_nonneg hs y v
    unfold ctlE
    cases hep : eget p.ed x v with
    | none =>
      rw [hep] at np
      obtain ⟨i1, i2, i3, i4, i5, i6⟩ := ctlE_fold hp hs x y vs c h1 h2
      unfold ctlE at i1 i2 i3 i4 i5 i6
      refine ⟨i1, i2, i3, i4, fun e => ?_, fun e => ?_⟩
      · rw [i5 e]
        constructor
        · rintro (h | h)
          · exact .inl h
          · exact .inr ⟨List.mem_cons_of_mem _ h.1, h.2⟩
        · rintro (h | ⟨h, h3, h4⟩)
          · exact .inl h
          · rcases List.mem_cons.1 h with rfl | h
            · have := np.1 h3; cases this
            · exact .inr ⟨h, h3, h4⟩
      · rw [i6 e]
        constructor
        · rintro (h | h)
          · exact .inl h
          · exact .inr ⟨List.mem_cons_of_mem _ h.1, h.2⟩
        · rintro (h | ⟨h, h3, h4⟩)
          · exact .inl h
          · rcases List.mem_cons.1 h with rfl | h
            · have := np.1 h3; cases this
            · exact .inr ⟨h, h3, h4⟩
    | some t =>
      rw [hep] at np
      have hpv : 0 ≤ nxt p.ed x v := np.2 rfl
      cases hes : eget s.ed y v with
      | some u =>
        rw [hes] at ns
        have hsv : 0 ≤ nxt s.ed y v := ns.2 rfl
        obtain ⟨i1, i2, i3, i4, i5, i6⟩ := ctlE_fold hp hs x y vs ⟨uni1 c.en v, c.dis, c.mk', c.ps⟩ (uni1_inc h1 v) h2
        unfold ctlE at i1 i2 i3 i4 i5 i6
        refine ⟨i1, i2, i3, i4, fun e => ?_, fun e => ?_⟩
        · rw [i5 e, uni1_mem h1]
          constructor
          · rintro ((h | rfl) | h)
            · exact .inl h
            · exact .inr ⟨List.mem_cons_self, hpv, hsv⟩
            · exact .inr ⟨List.mem_cons_of_mem _ h.1, h.2⟩
          · rintro (h | ⟨h, h3⟩)
            · exact .inl (.inl h)
            · rcases List.mem_cons.1 h with rfl | h
              · exact .inl (.inr rfl)
              · exact .inr ⟨h, h3⟩
        · rw [i6 e]
          constructor
          · rintro (h | h)
            · exact .inl h
            · exact .inr ⟨List.mem_cons_of_mem _ h.1, h.2⟩
          · rintro (h | ⟨h, h3, h4⟩)
            · exact .inl h
            · rcases List.mem_cons.1 h with rfl | h
              · exact absurd hsv h4
              · exact .inr ⟨h, h3, h4⟩
      | none =>
        rw [hes] at ns
        have hsv : ¬ 0 ≤ nxt s.ed y v := fun h => by have := ns.1 h; cases this
        obtain ⟨i1, i2, i3, i4, i5, i6⟩ := ctlE_fold hp hs x y vs ⟨c.en, uni1 c.dis v, c.mk', c.ps⟩ h1 (uni1_inc h2 v)
        unfold ctlE at i1 i2 i3 i4 i5 i6
        refine ⟨i1, i2, i3, i4, fun e => ?_, fun e => ?_⟩
        · rw [i5 e]
          constructor
          · rintro (h | h)
            · exact .inl h
            · exact .inr ⟨List.mem_cons_of_mem _ h.1, h.2⟩
          · rintro (h | ⟨h, h3, h4⟩)
            · exact .inl h
            · rcases List.mem_cons.1 h with rfl | h
              · exact absurd h4 hsv
              · exact .inr ⟨h, h3, h4⟩
        · rw [i6 e, uni1_mem h2]
          constructor
          · rintro ((h | rfl) | h)
            · exact .inl h
            · exact .inr ⟨List.mem_cons_self, hpv, hsv⟩
            · exact .inr ⟨List.mem_cons_of_mem _ h.1, h.2⟩
          · rintro (h | ⟨h, h3⟩)
            · exact .inl (.inl h)
            · rcases List.mem_cons.1 h with rfl | h
              · exact .inl (.inr rfl)
              · exact .inr ⟨h, h3⟩
theorem CtlI.pair {p s : Aut} (hp : Okay p) (hs : Okay s) {pairs : List (List Int)} {c : Ctl} {q : List Int} (h : CtlI p s pairs (py q) c) : CtlI p s (pairs ++ [q]) (py q) (ctlP p s (px q) (py q) c) := by
  unfold ctlP
  obtain ⟨i1, i2, i3, i4, i5, i6⟩ := ctlE_fold hp hs (px q) (py q) s.al (ctlB p s (px q) (py q) c) h.ei h.di
  have hc : ∀ e, canX p (pairs ++ [q]) (py q) e = true ↔ canX p pairs (py q) e = true ∨ 0 ≤ nxt p.ed (px q) e := fun e => by unfold canX; rw [List.any_append]; simp
  refine ⟨i1, i2, fun e => ?_, fun e => ?_, ?_, ?_⟩
  · rw [i5 e, hc]
    show e ∈ c.en ∨ _ ↔ _
    rw [h.em e]
    constructor
    · rintro (⟨a1, a2, a3⟩ | ⟨a1, a2, a3⟩)
      · exact ⟨a1, .inl a2, a3⟩
      · exact ⟨a1, .inr a2, a3⟩
    · rintro ⟨a1, a2 | a2, a3⟩
      · exact .inl ⟨a1, a2, a3⟩
      · exact .inr ⟨a1, a2, a3⟩
  · rw [i6 e, hc]
    show e ∈ c.dis ∨ _ ↔ _
    rw [h.dm e]
    constructor
    · rintro (⟨a1, a2, a3⟩ | ⟨a1, a2, a3⟩)
      · exact ⟨a1, .inl a2, a3⟩
      · exact ⟨a1, .inr a2, a3⟩
    · rintro ⟨a1, a2 | a2, a3⟩
      · exact .inl ⟨a1, a2, a3⟩
      · exact .inr ⟨a1, a2, a3⟩
  · rw [i3, List.any_append]
    simp [ctlB]
  · rw [i4, List.any_append]
    show (c.ps || _) = _
    rw [h.ps]; simp
theorem ctls_def {p s : Aut} (hp : Okay p) (hs : Okay s) {pairs : List (List Int)} (hv : ∀ q ∈ pairs, Vt [p, s] q) : ∀ x, x < s.st.toNat → lget (ctls p s pairs) x = ctlD p s pairs x := by
  have key : ∀ (r pre : List (List Int)) (l : List Ctl), (∀ q ∈ r, Vt [p, s] q) → l.length = s.st.toNat → (∀ x, x < s.st.toNat → CtlI p s pre x (lget l x)) → ∀ x, x < s.st.toNat → CtlI p s (pre ++ r) x (lget (r.foldl (ctlQ p s) l) x) := by
    intro r
    induction r with
    | nil => intro pre l _ _ h x hx; simpa using h x hx
    | cons q r ih =>
      intro pre l hr hl h x hx
      obtain ⟨xi, yi, rfl, hx1, hy1⟩ := Vt2 (hr q List.mem_cons_self)
      rw [List.foldl_cons, show pre ++ [(xi : Int), (yi : Int)] :: r = (pre ++ [[(xi : Int), (yi : Int)]]) ++ r by simp]
      refine ih _ _ (fun q hq => hr q (List.mem_cons_of_mem _ hq)) (by simp [ctlQ, hl]) (fun z hz => ?_) x hx
      have e1 : py [(xi : Int), (yi : Int)] = (yi : Int) := rfl
      have e2 : px [(xi : Int), (yi : Int)] = (xi : Int) := rfl
      unfold ctlQ
      rw [e1, e2, Int.toNat_natCast]
      by_cases ez : z = yi
      · subst ez
        have e3 : lget (l.set z (ctlP p s xi z (l.getD z ctl0))) z = ctlP p s xi z (lget l z) := by
          unfold lget
          simp only [List.getD]
          rw [List.getElem?_set_self (by omega)]; rfl
        rw [e3]
        have := CtlI.pair hp hs (q := [(xi : Int), (z : Int)]) (c := lget l z) (h z hz)
        exact this
      · have e3 : lget (l.set yi (ctlP p s xi yi (l.getD yi ctl0))) z = lget l z := by
          unfold lget
          simp only [List.getD, List.getElem?_set]
          rw [if_neg (fun e => ez e.symm)]
        rw [e3]
        exact (h z hz).other (by rw [e1]; omega)
  intro x hx
  have h1 := key pairs [] (List.replicate s.st.toNat ctl0) hv (by simp) (fun z hz => by
    have : lget (List.replicate s.st.toNat ctl0) z = ctl0 := by unfold lget; simp [List.getD, hz]
    rw [this]; exact CtlI.zero p s z) x hx
  rw [List.nil_append] at h1
  exact h1.eq hs.ali
end Go.Proofs.YtfhgnlkdcdlblaaDoor

/- Contracts: supervisor.Loop; automaton.Equal and law30's same where both are equal. -/
namespace Go.Proofs.YtfhgnlkdcdlblaaDoor
open Go.Lg

theorem Loop_ok {L : List Nat} {w : World} {pva pvm pve sa sm se : Value} {aP aS : Aut} (hp : AutA L w.heap pva pvm pve aP) (hs : AutA L w.heap sa sm se aS) (hst : Okay aP → Okay aS → aP.st ≤ 100 ∧ aS.st ≤ 100) :
    Ret Tryd.prog 16 [.agg #[pva, .int .i64 aP.st, pvm, pve], .agg #[sa, .int .i64 aS.st, sm, se]] w fun r w' => Step [] w w' ∧ ∃ v, r = .tuple #[v, .int .i64 (opE aP aS)] ∧
      (opE aP aS ≠ 0 → v = zA) ∧ (opE aP aS = 0 → AutF w.heap.size w'.heap v (opA aP aS)) := by
  refine Ret.of_W Tryd.func16 rfl Tryd.ntmps16 Tryd.results16 (by simp) ?_
  refine W_seq <| W_region (by rfl) ?_
  refine xl rfl <| o_box (us := [pva, .int .i64 aP.st, pvm, pve]) rfl fun b2 w1 hs1 hb2 hB2 => xl rfl <| o_box (us := [sa, .int .i64 aS.st, sm, se]) rfl fun b3 w2 hs2 hb3 hB3 =>
    xl rfl <| o_alloc (us := [.slice none 0 0, .int .i64 0, .slice none 0 0, .slice none 0 0]) rfl fun b4 w3 hs3 hb4 hB4 => x r_assign <| xe ?_
  have hs13 := (hs1.trans hs2).trans hs3
  have hz1 := hs1.size
  have hz2 := hs2.size
  have hl4 := hB4.lt
  refine W_seq <| W_region (by rfl) ?_
  refine x (r_loadsB ((hB2.ext hs2).ext hs3) rfl rfl) <| x (r_loadsB (hB3.ext hs3) rfl rfl) <| xl rfl <| xf <| (sopen_ok (hp.ext hs13) (hs.ext hs13) hst).mono ?_
  rintro r4 w4 ⟨hs4, va, vt, rfl, hO⟩
  obtain ⟨us, hva, husl, hus⟩ := hO.shape
  refine x r_move <| x (r_extract rfl rfl) <|
    x (r_extract rfl rfl) <| x (r_extract rfl rfl) <| xl rfl <| o_alloc (us := [.slice none 0 0, .int .i64 0, .slice none 0 0, .slice none 0 0]) rfl fun b6 w5 hs5 hb6 hB6 => xl rfl <| o_stores (us := us) hB6 rfl hva husl rfl hus fun w6 hs6 hB6' =>
    x r_assign <| x r_assign <| xe ?_
  have hs46 : Step [] w4 w6 := hs5.then1 hs6 hb6
  have hs36 := hs4.trans hs46
  have hz3 := hs3.size
  have hz13 := hs13.size
  refine W_seq <| W_region (by rfl) ?_
  refine x (r_loadsB hB6' rfl husl) <| x r_move <| xl rfl <| o_stores (us := us) (hB4.ext hs36) rfl rfl husl rfl hus fun w7 hs7 hB7 => x r_assign <| xe ?_
  refine W_ret ⟨[.agg us.toArray, .int .i64 (opE aP aS)], ⟨⟨_, rfl, run_loadVar_ag husl (hB7.at (L := []) (by simp)).cells⟩, rfl, trivial⟩, (hs13.trans hs36).then1 hs7 (by omega), va, by rw [hva]; rfl, fun e => (hO.bad e).1, fun e => ?_⟩
  exact (AutF_st1 ((hO.good e).1.ext hs46) (by omega) hs7).mono hz13

theorem Equal_same {L L' : List Nat} {w : World} {va vm ve va' vm' ve' : Value} {a : Aut} (h : AutA L w.heap va vm ve a) (h' : AutA L' w.heap va' vm' ve' a) :
    Ret Tryd.prog 15 [.agg #[va, .int .i64 a.st, vm, ve], .agg #[va', .int .i64 a.st, vm', ve']] w fun r w' => r = .bool true ∧ Step [] w w' := by
  refine Ret.of_W Tryd.func15 rfl Tryd.ntmps15 Tryd.results15 (by simp) ?_
  refine W_seq <| W_region (by rfl) ?_
  refine xl rfl <| o_box (us := [va, .int .i64 a.st, vm, ve]) rfl fun b2 w1 hs1 hb2 hB2 => xl rfl <| o_box (us := [va', .int .i64 a.st, vm', ve']) rfl fun b3 w2 hs2 hb3 hB3 => x r_assign <| xe ?_
  have hs12 := hs1.trans hs2
  have hB22 := hB2.ext hs2
  refine W_seq <| W_region (by rfl) ?_
  refine x (r_fieldB rfl) <| x (r_loadB hB22 rfl rfl) <| x (r_fieldB rfl) <| x (r_loadB hB3 rfl rfl) <| xb (r_eql rfl rfl) (fun _ => ?_) (fun h9 => absurd rfl h9)
  refine x r_move <| x (r_fieldB rfl) <| x (r_loadB hB22 rfl rfl) <| x (r_fieldB rfl) <| x (r_loadB hB3 rfl rfl) <| xl rfl <| xf <| (equalI_ok (h.al.ext hs12) (h'.al.ext hs12)).mono ?_
  rintro r3 w3 ⟨hr3, hs3⟩
  rw [decide_eq_true rfl] at hr3
  subst hr3
  have hs13 := hs12.trans hs3
  refine x (r_pick rfl) <|
    x r_move <| x (r_fieldB rfl) <| x (r_loadB (hB22.ext hs3) rfl rfl) <| x (r_fieldB rfl) <| x (r_loadB (hB3.ext hs3) rfl rfl) <|
    xl rfl <| xf <| (equalI_ok (h.mr.ext hs13) (h'.mr.ext hs13)).mono ?_
  rintro r4 w4 ⟨hr4, hs4⟩
  rw [decide_eq_true rfl] at hr4
  subst hr4
  have hs14 := hs13.trans hs4
  have hs34 := hs3.trans hs4
  refine x (r_pick rfl) <| x r_move <| x (r_fieldB rfl) <| x (r_loadB (hB22.ext hs34) rfl rfl) <|
    x (r_fieldB rfl) <| x (r_loadB (hB3.ext hs34) rfl rfl) <| xl rfl <| xf <| (equalE_ok (h.ed.ext hs14) (h'.ed.ext hs14)).mono ?_
  rintro r5 w5 ⟨hr5, hs5⟩
  rw [decide_eq_true rfl] at hr5
  subst hr5
  refine x (r_pick rfl) <| x r_assign <| xe ?_
  exact W_ret ⟨[.bool true], ⟨rfl, trivial⟩, rfl, hs14.trans hs5⟩

theorem same_ok {L L' : List Nat} {w : World} {c d : CV} (hc : CvA L w.heap c) (hd : CvA L' w.heap d) (he : c.c = d.c) :
    Ret Tryd.prog 20 [.agg (cvCells c).toArray, .agg (cvCells d).toArray] w fun r w' => r = .bool true ∧ Step [] w w' := by
  refine Ret.of_W Tryd.func20 rfl Tryd.ntmps20 Tryd.results20 (by simp) ?_
  refine W_seq <| W_region (by rfl) ?_
  refine xl rfl <| o_box (us := cvCells c) rfl fun b2 w1 hs1 hb2 hB2 => xl rfl <| o_box (us := cvCells d) rfl fun b3 w2 hs2 hb3 hB3 => x r_assign <| xe ?_
  have hs12 := hs1.trans hs2
  have hB22 := hB2.ext hs2
  have hen := hc.en
  have hdi := hc.dis
  rw [he] at hen hdi
  have hmk : d.c.mk' = c.c.mk' := by rw [he]
  have hps : d.c.ps = c.c.ps := by rw [he]
  refine W_seq <| W_region (by rfl) ?_
  refine x (r_fieldB rfl) <| x (r_loadB hB22 rfl rfl) <| x (r_fieldB rfl) <| x (r_loadB hB3 rfl rfl) <| xl rfl <| xf <| (wEqual_ok (hen.ext hs12) (hd.en.ext hs12)).mono ?_
  rintro r3 w3 ⟨hr3, hs3⟩
  rw [decide_eq_true rfl] at hr3
  subst hr3
  have hs13 := hs12.trans hs3
  refine x r_move <| x (r_fieldB rfl) <| x (r_loadB (hB22.ext hs3) rfl rfl) <| x (r_fieldB rfl) <| x (r_loadB (hB3.ext hs3) rfl rfl) <| xl rfl <| xf <| (wEqual_ok (hdi.ext hs13) (hd.dis.ext hs13)).mono ?_
  rintro r4 w4 ⟨hr4, hs4⟩
  rw [decide_eq_true rfl] at hr4
  subst hr4
  have hs34 := hs3.trans hs4
  refine x (r_pick rfl) <| x r_move <| x (r_fieldB rfl) <| x (r_loadB (hB22.ext hs34) rfl rfl) <| x (r_fieldB rfl) <| x (r_loadB (u := .bool c.c.mk') (hB3.ext hs34) rfl (congrArg (fun b => some (Value.bool b)) hmk)) <| x (r_eqT rfl rfl) <|
    x (r_pick rfl) <| x r_move <| x (r_fieldB rfl) <| x (r_loadB (hB22.ext hs34) rfl rfl) <| x (r_fieldB rfl) <| x (r_loadB (u := .bool c.c.ps) (hB3.ext hs34) rfl (congrArg (fun b => some (Value.bool b)) hps)) <|
    x (r_eqT rfl rfl) <| x (r_pick rfl) <| x r_assign <| xe ?_
  exact W_ret ⟨[.bool true], ⟨rfl, trivial⟩, rfl, hs13.trans hs4⟩
end Go.Proofs.YtfhgnlkdcdlblaaDoor

/- Contract: law30's control. -/
namespace Go.Lg
section
variable {P : Program} {f : Fr} {w : World} {d : Option Nat} {ty : Nat} {ps : String} {af : Array Edge} {gd : Option (Nat × Bool)}
theorem r_moveV {x : Operand} {v : Value} (h : ev f x = v) : (execOp (ev f) ⟨d, .move x, ty, ps, af, gd⟩).run P w = .ok (.value v) w := by rw [← h]; exact r_move
end
end Go.Lg
namespace Go.Proofs.YtfhgnlkdcdlblaaDoor
open Go.Lg

theorem filter_snoc {l : List Int} {e : Int} {p : Int → Bool} : (l ++ [e]).filter p = if p e = true then l.filter p ++ [e] else l.filter p := by
  rw [List.filter_append]
  by_cases h : p e = true
  · rw [if_pos h, List.filter_cons, if_pos h]; rfl
  · rw [if_neg h, List.filter_cons, if_neg h, List.filter_nil, List.append_nil]
/-- What the loops hold. -/
structure CcI (w4 : World) (b : Nat) (m q : Bool) (ve vd : Value) (E D : List Int) (w : World) : Prop where
  st : Step [b] w4 w
  B : Blk w.heap b 56 [ve, vd, .bool m, .bool q]
  e : IntsO 3 w4.heap.size w ve E
  d : IntsO 3 w4.heap.size w vd D
  dj : Dj ve vd
section
variable {w4 w w' w'' : World} {b : Nat} {m q : Bool} {ve vd : Value} {E D : List Int}
theorem CcI.ext (h : CcI w4 b m q ve vd E D w) (hs : Step [] w w') : CcI w4 b m q ve vd E D w' := ⟨h.st.trans hs, h.B.ext hs, own_ext h.e hs, own_ext h.d hs, h.dj⟩
theorem CcI.setE (h : CcI w4 b m q ve vd E D w) (hb : b < w4.heap.size) {ve' : Value} {E' : List Int} (hs : Step (ob ve) w w') (hm : IntsO 3 w4.heap.size w' ve' E') (hn : ∀ b ∈ ob ve', b ∈ ob ve ∨ w.heap.size ≤ b) (hs2 : Step [b] w' w'')
    (hB : Blk w''.heap b 56 [ve', vd, .bool m, .bool q]) : CcI w4 b m q ve' vd E' D w'' :=
  ⟨(h.st.then hs (fun c hc => .inr (own_ge h.e c hc).1)).trans' hs2, hB, own_step hm hs2 (fun c hc => by have := (own_ge hm c hc).1; simp; omega),
    own_step (own_step h.d hs h.dj.symm) hs2 (fun c hc => by have := (own_ge h.d c hc).1; simp; omega), (h.dj.symm.grow hn (own_lt h.d)).symm⟩
theorem CcI.setD (h : CcI w4 b m q ve vd E D w) (hb : b < w4.heap.size) {vd' : Value} {D' : List Int} (hs : Step (ob vd) w w') (hm : IntsO 3 w4.heap.size w' vd' D') (hn : ∀ b ∈ ob vd', b ∈ ob vd ∨ w.heap.size ≤ b) (hs2 : Step [b] w' w'')
    (hB : Blk w''.heap b 56 [ve, vd', .bool m, .bool q]) : CcI w4 b m q ve vd' E D' w'' :=
  ⟨(h.st.then hs (fun c hc => .inr (own_ge h.d c hc).1)).trans' hs2, hB, own_step (own_step h.e hs h.dj) hs2 (fun c hc => by have := (own_ge h.e c hc).1; simp; omega),
    own_step hm hs2 (fun c hc => by have := (own_ge hm c hc).1; simp; omega), h.dj.grow hn (own_lt h.e)⟩
theorem CcI.setB (h : CcI w4 b m q ve vd E D w) (hb : b < w4.heap.size) {m' q' : Bool} (hs : Step [b] w w') (hB : Blk w'.heap b 56 [ve, vd, .bool m', .bool q']) : CcI w4 b m' q' ve vd E D w' :=
  ⟨h.st.trans' hs, hB, own_step h.e hs (fun c hc => by have := (own_ge h.e c hc).1; simp; omega), own_step h.d hs (fun c hc => by have := (own_ge h.d c hc).1; simp; omega), h.dj⟩
end
def hitQ (p : Aut) (x e : Int) (q : List Int) : Bool := decide (py q = x) && decide (0 ≤ nxt p.ed (px q) e)
theorem canX_take (p : Aut) (x e : Int) {ps : List (List Int)} {k : Nat} (h : k < ps.length) : canX p (ps.take (k + 1)) x e = (canX p (ps.take k) x e || hitQ p x e ps[k]) := by
  unfold canX hitQ
  rw [List.take_succ_eq_append_getElem h, List.any_append]; simp

set_option maxHeartbeats 4000000 in
theorem control_ok {L : List Nat} {w : World} {pva pvm pve sa sm se vt : Value} {aP aS : Aut} {qs : List TV} (hp : AutA L w.heap pva pvm pve aP) (hs : AutA L w.heap sa sm se aS) (hal : aS.al.length ≤ 32)
    (ht : Tups L w.heap vt qs) (hq : ∀ q ∈ qs, Vt [aP, aS] q.2) (hqn : qs.length ≤ 4096) (x0 : Int) :
    Ret Tryd.prog 19 [.agg #[pva, .int .i64 aP.st, pvm, pve], .agg #[sa, .int .i64 aS.st, sm, se], vt, .int .i64 x0] w fun r w' => Step [] w w' ∧ ∃ cv occ, r = .tuple #[.agg (cvCells cv).toArray, .bool occ] ∧
      cv.c = ctlD aP aS (qs.map (·.2)) x0 ∧ (∀ L' : List Nat, (∀ b ∈ L', b < w.heap.size) → CvA L' w'.heap cv) ∧ occ = (qs.map (·.2)).any fun q => decide (py q = x0) := by
  refine Ret.of_W Tryd.func19 rfl Tryd.ntmps19 Tryd.results19 (by simp) ?_
  refine exE (qs.map (·.2)) fun prs hprs => ?_
  have hpl : prs.length = qs.length := by rw [← hprs]; simp
  rw [hprs]
  refine W_seq <| W_region (by rfl) ?_
  refine xl rfl <| o_box (us := [pva, .int .i64 aP.st, pvm, pve]) rfl fun b4 w1 hs1 hb4 hB4 => xl rfl <| o_box (us := [sa, .int .i64 aS.st, sm, se]) rfl fun b5 w2 hs2 hb5 hB5 =>
    xl rfl <| o_alloc (us := [.slice none 0 0, .slice none 0 0, .bool false, .bool false]) rfl fun b8 w3 hs3 hb8 hB8 => x r_assign <| xe ?_
  refine W_seq <| W_region (by rfl) ?_
  refine xl rfl <| o_alloc (us := [.slice none 0 0, .slice none 0 0, .bool false, .bool false]) rfl fun b10 w4 hs4 hb10 hB10 => xe ?_
  refine W_seq <| W_region (by rfl) ?_
  refine x r_assign <| xe ?_
  have hz1 := hs1.size
  have hz2 := hs2.size
  have hz3 := hs3.size
  have hz4 := hs4.size
  have hl4 := hB4.lt
  have hl5 := hB5.lt
  have hl8 := hB8.lt
  have hl10 := hB10.lt
  have hW4 := ((hs1.trans hs2).trans hs3).trans hs4
  have hB44 := ((hB4.ext hs2).ext hs3).ext hs4
  have hB54 := (hB5.ext hs3).ext hs4
  have hB84 := hB8.ext hs4
  have hnew : ∀ b ∈ [b10], b ∈ L ∨ w.heap.size ≤ b := fun b hb => .inr (by simp at hb; omega)
  have hp4 : AutA [b10] w4.heap pva pvm pve aP := (hp.up hnew).ext hW4
  have hs4' : AutA [b10] w4.heap sa sm se aS := (hs.up hnew).ext hW4
  have ht4 : Tups [b10] w4.heap vt qs := (ht.up hnew).ext hW4
  have n4 : b4 ∉ [b10] := by simp; omega
  have n5 : b5 ∉ [b10] := by simp; omega
  have n8 : b8 ∉ [b10] := by simp; omega
  have hqI : ∀ k (h : k < qs.length), ∃ xi yi : Nat, qs[k].2 = [(xi : Int), (yi : Int)] ∧ prs[k]'(by omega) = [(xi : Int), (yi : Int)] := fun k h => by
    obtain ⟨xi, yi, e, _, _⟩ := Vt2 (hq _ (List.getElem_mem h))
    exact ⟨xi, yi, e, by subst hprs; simp only [List.getElem_map]; exact e⟩
  -- enabled and disabled events
  refine W_cut (α := Value × Value) [(12, 15), (17, 78)] (fun z => []) (fun z w' => CcI w4 b10 false false z.1 z.2 (aS.al.filter fun e => canX aP prs x0 e && decide (0 ≤ nxt aS.ed x0 e)) (aS.al.filter fun e => canX aP prs x0 e && !decide (0 ≤ nxt aS.ed x0 e)) w') (by rfl) ?_ ?_
  · refine W_seq <| W_region (by rfl) ?_
    refine x r_assign <| xe ?_
    refine W_block <| W_loop (α := Nat × Value × Value) [(12, 15), (17, 78)] (fun z => [(12, .int .i64 z.1)])
      (fun z w' => z.1 ≤ aS.al.length ∧ CcI w4 b10 false false z.2.1 z.2.2 ((aS.al.take z.1).filter fun e => canX aP prs x0 e && decide (0 ≤ nxt aS.ed x0 e)) ((aS.al.take z.1).filter fun e => canX aP prs x0 e && !decide (0 ≤ nxt aS.ed x0 e)) w')
      (fun z => aS.al.length - z.1) (by rfl) (0, .slice none 0 0, .slice none 0 0) ⟨rfl, trivial⟩ ⟨Nat.zero_le _, ⟨Step.refl _ _, hB10, own_nil _ _ _ _, own_nil _ _ _ _, Dj.nil' _⟩⟩ ?_
    rintro ⟨i, ve, vd⟩ g5 w5 ⟨hi, hI⟩
    simp only [] at hi hI
    have hB55 := hB54.step hI.st n5
    have ha5 := hs4'.st hI.st
    refine W_seq <| W_seq <| W_region (by rfl) ?_
    refine x r_move <| x (r_fieldB rfl) <| x (r_loadB hB55 rfl rfl) <| x (r_lenA ha5.al rfl) <| x (r_lss rfl rfl) <| xe ?_
    refine W_ifn rfl (fun h21 => ?_) (fun h21 => ?_)
    · refine W_exit ?_
      rw [List.take_of_length_le (by omega)] at hI
      exact ⟨(ve, vd), trivial, hI⟩
    have hlt : i < aS.al.length := by omega
    refine exE (cget aS.al i) fun e he => ?_
    have htk : aS.al.take (i + 1) = aS.al.take i ++ [e] := by rw [List.take_succ_eq_append_getElem hlt, cget_eq hlt, he]
    have hlE : ((aS.al.take i).filter fun e => canX aP prs x0 e && decide (0 ≤ nxt aS.ed x0 e)).length ≤ 32 := Nat.le_trans (List.length_filter_le _ _) (by simp; omega)
    have hlD : ((aS.al.take i).filter fun e => canX aP prs x0 e && !decide (0 ≤ nxt aS.ed x0 e)).length ≤ 32 := Nat.le_trans (List.length_filter_le _ _) (by simp; omega)
    refine W_skip ?_
    refine W_seq <| W_block <| W_seq <| W_region (by rfl) ?_
    refine x (r_fieldB rfl) <| x (r_loadB hB55 rfl rfl) <| x r_move <| xic (i := i) ha5.al rfl rfl hlt fun a27 h27 => ?_
    rw [he] at h27
    refine x (r_loadA h27 rfl) <| x r_assign <| xe ?_
    refine W_seq <| W_region (by rfl) ?_
    refine x r_assign <| xe ?_
    -- can
    refine W_cut (α := Unit) [(14, 15), (29, 57)] (fun z => [(14, .bool (canX aP prs x0 e))]) (fun z w' => Step [] w5 w') (by rfl) ?_ ?_
    · refine W_seq <| W_region (by rfl) ?_
      refine x r_assign <| xe ?_
      refine W_block <| W_loop (α := Nat) [(14, 15), (29, 57)] (fun z => [(14, .bool (canX aP (prs.take z) x0 e)), (15, .int .i64 z)]) (fun z w' => z ≤ qs.length ∧ Step [] w5 w') (fun z => qs.length - z) (by rfl) 0 ⟨rfl, rfl, trivial⟩ ⟨Nat.zero_le _, Step.refl _ _⟩ ?_
      rintro k g13 w13 ⟨hk, hs13⟩
      have ht13 := (ht4.st hI.st).ext hs13
      refine W_seq <| W_seq <| W_region (by rfl) ?_
      refine x r_move <| x r_move <| x (r_lenA ht13.arr rfl) <| x (r_lss rfl rfl) <| xe ?_
      refine W_ifn rfl (fun h32 => ?_) (fun h32 => ?_)
      · refine W_exit ?_
        exact ⟨(), ⟨congrArg (fun l => Value.bool (canX aP l x0 e)) (List.take_of_length_le (by omega)), trivial⟩, hs13⟩
      have hltk : k < qs.length := by omega
      have hltp : k < prs.length := by omega
      obtain ⟨xi, yi, hqe, hpe⟩ := hqI k hltk
      have hct := canX_take aP x0 e hltp
      rw [hpe] at hct
      have hqI13 : Ints [b10] w13.heap (qs[k]'hltk).1 [(xi : Int), (yi : Int)] := by rw [← hqe]; exact ht13.each _ (List.getElem_mem hltk)
      have hB413 := (hB44.step hI.st n4).ext hs13
      have hed13 := (hp4.st hI.st).ed.ext hs13
      refine exE (nxt aP.ed xi e) fun t htn => ?_
      have hhit : hitQ aP x0 e [(xi : Int), (yi : Int)] = (decide ((yi : Int) = x0) && decide (0 ≤ t)) := by rw [← htn]; rfl
      rw [hhit] at hct
      have hnx := next30_ok (va := pva) (vm := pvm) (a := aP) (hed13.ext (Step.drew [] w13)) xi e aP.st
      rw [htn] at hnx
      refine exE (canX aP (prs.take k) x0 e) fun cn hcn => ?_
      rw [hcn] at hct
      refine W_skip ?_
      refine W_cut (α := Unit) [(14, 14), (34, 57)] (fun z => [(14, .bool (canX aP (prs.take (k + 1)) x0 e))]) (fun z w' => Step [] w5 w') (by rfl) ?_ ?_
      · refine W_block ?_
        refine Or.elim (Bool.eq_false_or_eq_true cn) (fun hc => ?_) (fun hc => ?_)
        · rw [hc] at hct hcn
          refine W_draw (Step [] w13) [(0, true), (1, true), (2, true), (3, true), (4, true), (5, true), (6, true), (7, true), (8, true), (9, true), (10, true), (11, true), (12, true), (13, true), (14, true), (15, true), (16, true), (17, true), (18, true), (19, false), (20, true), (21, true), (22, true), (23, true)] Tryd.mixed (by rfl) (by kernel_rfl) (Step.drew _ _) ?_
          refine p (fun _ => r_moveV (congrArg Value.bool hcn)) <| p (fun _ => r_move) <| ps <| ps <| ps <| ps <| ps <| ps <| ps <| ps <| ps <| ps <| ps <| ps <| ps <| ps <| ps <| ps <| ps <| ps <| ps <| ps <| p (fun _ => r_pick rfl) <| p (fun _ => r_assign) <| pe ?_
          exact ⟨(), ⟨congrArg Value.bool (by rw [hct]; rfl), trivial⟩, hs13.trans (Step.drew _ _)⟩
        · rw [hc] at hct hcn
          refine W_draw (Step [] w13) [(0, true), (1, true), (2, true), (3, true), (4, true), (5, true), (6, true), (7, true), (8, true), (9, true), (10, true), (11, true), (12, true), (13, true), (14, true), (15, true), (16, true), (17, true), (18, true), (19, false), (20, true), (21, true), (22, true), (23, true)] Tryd.mixed (by rfl) (by kernel_rfl) (Step.drew _ _) ?_
          refine p (fun _ => r_moveV (congrArg Value.bool hcn)) <| p (fun _ => r_move) <| p (fun _ => r_move) <| p (fun _ => r_move) <| Lg.pig (g := tvCells) (i := k) rfl (fun _ => rfl) ht13.arr rfl rfl hltk fun a39 h39 =>
            pq (fun _ hc => r_loadA (h39.ext hc) rfl) <| pii (i := 1) rfl hqI13 rfl rfl (by simp) fun a41 h41 => pq (fun _ hc => r_loadA (h41.ext hc) rfl) <|
            p (fun _ => r_move) <| pb (fun _ => r_eql rfl rfl) (fun h44 => ?_) (fun h44 => ?_)
          · refine p (fun _ => r_move) <| pq (fun _ hc => r_loadsB (hB413.ext hc) rfl rfl) <| p (fun _ => r_move) <| p (fun _ => r_move) <| Lg.pig (g := tvCells) (i := k) rfl (fun _ => rfl) ht13.arr rfl rfl hltk fun a49 h49 =>
              pq (fun _ hc => r_loadA (h49.ext hc) rfl) <| pii (i := 0) rfl hqI13 rfl rfl (by simp) fun a51 h51 => pq (fun _ hc => r_loadA (h51.ext hc) rfl) <| p (fun _ => r_move) <|
              pk <| xf <| hnx.mono ?_
            rintro r22 w22 ⟨rfl, hs22⟩
            have hs1322 := (Step.drew [] w13).trans hs22
            refine ⟨hs1322, p (fun _ => r_geq rfl rfl) <| p (fun _ => r_pick rfl) <| p (fun _ => r_pick rfl) <| p (fun _ => r_assign) <| pe ?_⟩
            exact ⟨(), ⟨congrArg Value.bool (by rw [hct, decide_eq_true (show (yi : Int) = x0 from h44)]; rfl), trivial⟩, hs13.trans hs1322⟩
          refine p (fun _ => r_move) <| ps <| ps <| ps <| ps <| ps <| ps <| ps <| ps <| ps <| ps <| p (fun _ => r_pick rfl) <| p (fun _ => r_pick rfl) <| p (fun _ => r_assign) <| pe ?_
          exact ⟨(), ⟨congrArg Value.bool (by rw [hct, decide_eq_false (show ¬ (yi : Int) = x0 from h44)]; rfl), trivial⟩, hs13.trans (Step.drew _ _)⟩
      rintro _ g14 w14 hs14
      refine W_region (by rfl) ?_
      refine x r_move <| x (r_add rfl rfl ⟨by omega, by omega⟩) <| x r_assign <| xe ?_
      exact ⟨k + 1, by omega, ⟨rfl, rfl, trivial⟩, hltk, hs14⟩
    rintro _ g15 w15 hs15
    have hI15 := hI.ext hs15
    have hB515 := hB55.ext hs15
    refine exE (canX aP prs x0 e) fun cn hcn => ?_
    refine exE (nxt aS.ed x0 e) fun t htn => ?_
    have hnx := next30_ok (va := sa) (vm := sm) (a := aS) (ha5.ed.ext hs15) x0 e aS.st
    rw [htn] at hnx
    have hfE : (aS.al.take (i + 1)).filter (fun e => canX aP prs x0 e && decide (0 ≤ nxt aS.ed x0 e)) = if (cn && decide (0 ≤ t)) = true then ((aS.al.take i).filter fun e => canX aP prs x0 e && decide (0 ≤ nxt aS.ed x0 e)) ++ [e] else (aS.al.take i).filter fun e => canX aP prs x0 e && decide (0 ≤ nxt aS.ed x0 e) := by
      rw [htk, filter_snoc, hcn, htn]
    have hfD : (aS.al.take (i + 1)).filter (fun e => canX aP prs x0 e && !decide (0 ≤ nxt aS.ed x0 e)) = if (cn && !decide (0 ≤ t)) = true then ((aS.al.take i).filter fun e => canX aP prs x0 e && !decide (0 ≤ nxt aS.ed x0 e)) ++ [e] else (aS.al.take i).filter fun e => canX aP prs x0 e && !decide (0 ≤ nxt aS.ed x0 e) := by
      rw [htk, filter_snoc, hcn, htn]
    refine W_cut (α := Unit) [(58, 65)] (fun z => [(65, .bool (cn && decide (0 ≤ t)))]) (fun z w' => Step [] w15 w') (by rfl) ?_ ?_
    · refine Or.elim (Bool.eq_false_or_eq_true cn) (fun hc => ?_) (fun hc => ?_)
      · refine W_region (by rfl) ?_
        refine x (r_moveV (congrArg Value.bool (hcn.trans hc))) <| x r_move <| x (r_loadsB hB515 rfl rfl) <| x r_move <| x r_move <| xl rfl <| xf <| hnx.mono ?_
        rintro r14 w16 ⟨rfl, hs16⟩
        refine x (r_geq rfl rfl) <| x (r_pick rfl) <| xe ?_
        exact ⟨(), ⟨congrArg Value.bool (by rw [hc]; rfl), trivial⟩, hs16⟩
      · refine W_region (by rfl) ?_
        refine x (r_moveV (congrArg Value.bool (hcn.trans hc))) <| x r_move <| xs rfl <| xs rfl <| xs rfl <| xs rfl <| xs rfl <| x (r_pick rfl) <| xe ?_
        exact ⟨(), ⟨congrArg Value.bool (by rw [hc]; rfl), trivial⟩, Step.refl _ _⟩
    rintro _ g16 w16 hs16
    have hI16 := hI15.ext hs16
    refine W_cond rfl (fun h65 => ?_) (fun h65 => ?_)
    · have h65' : (cn && decide (0 ≤ t)) = true := h65
      rw [if_pos h65'] at hfE
      rw [if_neg (by cases cn <;> simp at h65' ⊢; omega)] at hfD
      refine W_region (by rfl) ?_
      refine x (r_fieldB rfl) <| x (r_loadB hI16.B rfl rfl) <| x r_move <| xl rfl <| o_lits (us := [[.int .i64 e]]) rfl rfl (by decide) (by simp) ⟨rfl, rfl, trivial⟩ fun b69 w17 hs17 hb69 hB69 => ?_
      have hI17 := hI16.ext hs17
      refine xl rfl <| o_app (news := [.int .i64 e]) (L := []) hI17.e rfl rfl rfl (hB69.at (by simp)) (by simp [Value.oneCell']) (by omega) hI17.st.size fun v18 w18 ho18 hs18 hn18 => ?_
      have ho18' := IntsO.snoc ho18
      refine x (r_fieldB rfl) <| xl rfl <| o_store (hI17.B.step hs18 (own_notin hI17.e hl10)) rfl rfl (by simp) (IntsO.ints (L := []) ho18' (by simp; omega) (by simp)).one fun w19 hs19 hB19 =>
        xe ?_
      refine W_region (by rfl) ?_
      refine x r_move <| x (r_add rfl rfl ⟨by omega, by omega⟩) <| x r_assign <| xe ?_
      refine ⟨(i + 1, v18, vd), by simp only []; omega, ⟨rfl, trivial⟩, hlt, ?_⟩
      simp only []
      rw [hfE, hfD]; exact hI17.setE hl10 hs18 ho18' hn18 hs19 hB19
    have h65' : (cn && decide (0 ≤ t)) = false := h65
    rw [if_neg (by rw [h65']; simp)] at hfE
    refine W_seq <| W_region (by rfl) ?_
    refine x (r_moveV (congrArg Value.bool hcn)) <| xe ?_
    refine W_cond rfl (fun h72 => ?_) (fun h72 => ?_)
    rotate_left
    · rw [if_neg (by rw [h72]; simp)] at hfD
      refine W_skip ?_
      refine W_region (by rfl) ?_
      refine x r_move <| x (r_add rfl rfl ⟨by omega, by omega⟩) <| x r_assign <| xe ?_
      refine ⟨(i + 1, ve, vd), by simp only []; omega, ⟨rfl, trivial⟩, hlt, ?_⟩
      simp only []
      rw [hfE, hfD]; exact hI16
    rw [if_pos (by rw [h72] at h65' ⊢; simpa using h65')] at hfD
    refine W_region (by rfl) ?_
    refine x (r_fieldB rfl) <| x (r_loadB hI16.B rfl rfl) <| x r_move <| xl rfl <| o_lits (us := [[.int .i64 e]]) rfl rfl (by decide) (by simp) ⟨rfl, rfl, trivial⟩ fun b69 w17 hs17 hb69 hB69 => ?_
    have hI17 := hI16.ext hs17
    refine xl rfl <| o_app (news := [.int .i64 e]) (L := []) hI17.d rfl rfl rfl (hB69.at (by simp)) (by simp [Value.oneCell']) (by omega) hI17.st.size fun v18 w18 ho18 hs18 hn18 => ?_
    have ho18' := IntsO.snoc ho18
    refine x (r_fieldB rfl) <| xl rfl <| o_store (hI17.B.step hs18 (own_notin hI17.d hl10)) rfl rfl (by simp) (IntsO.ints (L := []) ho18' (by simp; omega) (by simp)).one fun w19 hs19 hB19 =>
      xe ?_
    refine W_region (by rfl) ?_
    refine x r_move <| x (r_add rfl rfl ⟨by omega, by omega⟩) <| x r_assign <| xe ?_
    refine ⟨(i + 1, ve, v18), by simp only []; omega, ⟨rfl, trivial⟩, hlt, ?_⟩
    simp only []
    rw [hfE, hfD]; exact hI17.setD hl10 hs18 ho18' hn18 hs19 hB19
  rintro ⟨ve, vd⟩ g5 w5 hI5
  simp only [] at hI5
  refine exE (aS.al.filter fun e => canX aP prs x0 e && decide (0 ≤ nxt aS.ed x0 e)) fun E hE => ?_
  refine exE (aS.al.filter fun e => canX aP prs x0 e && !decide (0 ≤ nxt aS.ed x0 e)) fun D hD => ?_
  have hlE : E.length ≤ 32 := by rw [← hE]; exact Nat.le_trans (List.length_filter_le _ _) hal
  have hlD : D.length ≤ 32 := by rw [← hD]; exact Nat.le_trans (List.length_filter_le _ _) hal
  rw [hE, hD] at hI5
  refine W_seq <| W_seq <| W_region (by rfl) ?_
  refine x r_assign <| xe ?_
  refine W_block <| W_loop (α := Nat) [(11, 11), (16, 16), (79, 106)] (fun z => [(11, .bool ((prs.take z).any fun q => decide (py q = x0))), (16, .int .i64 z)])
    (fun z w' => z ≤ qs.length ∧ CcI w4 b10 false ((prs.take z).any fun q => decide (py q = x0) && decide (px q ∈ aP.mr)) ve vd E D w') (fun z => qs.length - z) (by rfl) 0 ⟨rfl, rfl, trivial⟩ ⟨Nat.zero_le _, hI5⟩ ?_
  rintro k g6 w6 ⟨hk, hI⟩
  have ht6 := ht4.st hI.st
  have hB46 := hB44.step hI.st n4
  have hB56 := hB54.step hI.st n5
  have hB86 := hB84.step hI.st n8
  refine W_seq <| W_seq <| W_region (by rfl) ?_
  refine x r_move <| x r_move <| x (r_lenA ht6.arr rfl) <| x (r_lss rfl rfl) <| xe ?_
  refine W_ifn rfl (fun h82 => ?_) (fun h82 => ?_)
  · have htk : prs.take k = prs := List.take_of_length_le (by omega)
    rw [htk] at hI
    refine exE (prs.any fun q => decide (py q = x0)) fun oc hoc => ?_
    refine exE (prs.any fun q => decide (py q = x0) && decide (px q ∈ aP.mr)) fun pz hpz => ?_
    rw [hpz] at hI
    have hoc' : ((prs.take k).any fun q => decide (py q = x0)) = oc := by rw [htk]; exact hoc
    have hmr := (hs4'.st hI.st).mr
    have hveA := IntsO.ints (L := []) hI.e (by omega) (by simp)
    have hvdA := IntsO.ints (L := []) hI.d (by omega) (by simp)
    refine W_exit ?_
    refine W_cut (α := Unit) [(107, 114)] (fun z => []) (fun z w' => CcI w4 b10 (oc && decide (x0 ∈ aS.mr)) pz ve vd E D w') (by rfl) ?_ ?_
    · refine Or.elim (Bool.eq_false_or_eq_true oc) (fun hc => ?_) (fun hc => ?_)
      · refine W_region (by rfl) ?_
        refine x (r_moveV (congrArg Value.bool (hoc'.trans hc))) <| x r_move <| x (r_fieldB rfl) <| x (r_loadB hB56 rfl rfl) <| x r_move <| xl rfl <| xf <| (has30_ok hmr x0).mono ?_
        rintro r7 w7 ⟨rfl, rfl⟩
        refine x (r_pick rfl) <| x (r_fieldB rfl) <| xl rfl <| o_store (u := .bool (decide (x0 ∈ aS.mr))) hI.B rfl rfl (by simp) rfl fun w8 hs8 hB8' => xe ?_
        exact ⟨(), trivial, by rw [hc]; exact hI.setB hl10 hs8 hB8'⟩
      · refine W_region (by rfl) ?_
        refine x (r_moveV (congrArg Value.bool (hoc'.trans hc))) <| x r_move <| xs rfl <| xs rfl <| xs rfl <| xs rfl <| x (r_pick rfl) <| x (r_fieldB rfl) <| xl rfl <| o_store (u := .bool false) hI.B rfl rfl (by simp) rfl fun w8 hs8 hB8' => xe ?_
        exact ⟨(), trivial, by rw [hc]; exact hI.setB hl10 hs8 hB8'⟩
    rintro _ g9 w9 hI9
    refine W_seq <| W_region (by rfl) ?_
    refine x (r_loadsB hI9.B rfl rfl) <| x r_move <| xl rfl <| o_stores (us := [ve, vd, .bool (oc && decide (x0 ∈ aS.mr)), .bool pz]) (hB84.step hI9.st n8) rfl rfl rfl rfl ⟨hveA.one, hvdA.one, rfl, rfl, trivial⟩ fun w10 hs10 hB10' => x r_assign <| xe ?_
    refine W_ret ⟨[.agg #[ve, vd, .bool (oc && decide (x0 ∈ aS.mr)), .bool pz], .bool oc], ⟨⟨_, rfl, run_loadVar_ag rfl (hB10'.at (L := []) (by simp)).cells⟩, congrArg Value.bool hoc', trivial⟩, (hW4.then1 hI9.st (by omega)).then1 hs10 (by omega),
      ⟨ve, vd, ⟨E, D, oc && decide (x0 ∈ aS.mr), pz⟩⟩, oc, rfl, by unfold ctlD; rw [hE, hD, hoc, hpz], fun L' hL' => ⟨?_, ?_⟩, hoc.symm⟩
    · exact IntsO.ints (own_step hI9.e hs10 (fun c hc => by have := (own_ge hI9.e c hc).1; simp; omega)) (by show E.length ≤ _; omega) (fun b hb => by have := hL' b hb; omega)
    · exact IntsO.ints (own_step hI9.d hs10 (fun c hc => by have := (own_ge hI9.d c hc).1; simp; omega)) (by show D.length ≤ _; omega) (fun b hb => by have := hL' b hb; omega)
  have hltk : k < qs.length := by omega
  have hltp : k < prs.length := by omega
  obtain ⟨xi, yi, hqe, hpe⟩ := hqI k hltk
  have hqI6 : Ints [b10] w6.heap (qs[k]'hltk).1 [(xi : Int), (yi : Int)] := by rw [← hqe]; exact ht6.each _ (List.getElem_mem hltk)
  have hto : ((prs.take (k + 1)).any fun q => decide (py q = x0)) = (((prs.take k).any fun q => decide (py q = x0)) || decide ((yi : Int) = x0)) := by
    rw [List.take_succ_eq_append_getElem hltp, List.any_append, hpe]; simp [py]
  have htp : ((prs.take (k + 1)).any fun q => decide (py q = x0) && decide (px q ∈ aP.mr)) = (((prs.take k).any fun q => decide (py q = x0) && decide (px q ∈ aP.mr)) || (decide ((yi : Int) = x0) && decide ((xi : Int) ∈ aP.mr))) := by
    rw [List.take_succ_eq_append_getElem hltp, List.any_append, hpe]; simp [py, px]
  refine exE ((prs.take k).any fun q => decide (py q = x0) && decide (px q ∈ aP.mr)) fun pz hpz => ?_
  rw [hpz] at hI htp
  refine W_skip ?_
  refine W_seq <| W_block <| W_seq <| W_region (by rfl) ?_
  refine x r_move <| x r_move <| xig (g := tvCells) (i := k) (fun _ => rfl) ht6.arr rfl rfl hltk fun a87 h87 => x (r_loadA h87 rfl) <| xii (i := 1) hqI6 rfl rfl (by simp) fun a89 h89 =>
    x (r_loadA h89 rfl) <| x r_move <| x (r_eql rfl rfl) <| xe ?_
  refine W_ifn rfl (fun h92 => ?_) (fun h92 => ?_)
  · have h92' : ¬ (yi : Int) = x0 := h92
    rw [decide_eq_false h92'] at hto htp
    refine W_skip ?_
    refine W_region (by rfl) ?_
    refine x r_move <| x (r_add rfl rfl ⟨by omega, by omega⟩) <| x r_assign <| xe ?_
    refine ⟨k + 1, by omega, ⟨congrArg Value.bool (by rw [hto]; simp), rfl, trivial⟩, hltk, ?_⟩
    rw [htp]; simpa using hI
  have h92' : (yi : Int) = x0 := h92
  rw [decide_eq_true h92'] at hto htp
  refine W_seq <| W_region (by rfl) ?_
  refine x r_assign <| xe ?_
  refine Or.elim (Bool.eq_false_or_eq_true pz) (fun hc => ?_) (fun hc => ?_)
  · refine W_draw (Step [] w6) [(0, true), (1, true), (2, true), (3, true), (4, true), (5, true), (6, true), (7, true), (8, true), (9, true), (10, true), (11, false), (12, true), (13, true), (14, false)] Tryd.mixed (by rfl) (by kernel_rfl) (Step.drew _ _) ?_
    refine p (fun _ => r_fieldB rfl) <| pq (fun _ h => r_loadB (u := .bool true) (hI.B.ext h) rfl (congrArg (fun b => some (Value.bool b)) hc)) <| p (fun _ => r_move) <| ps <| ps <| ps <| ps <| ps <| ps <| ps <| ps <| ps <| p (fun _ => r_pick rfl) <| p (fun _ => r_fieldB rfl) <|
      pkl (hl := by kernel_rfl) <| o_store (u := .bool true) (hI.B.ext (Step.drew _ _)) rfl rfl (by simp) rfl fun w12 hs12 hB12 => pe ?_
    have hI12 : CcI w4 b10 false (pz || decide ((xi : Int) ∈ aP.mr)) ve vd E D w12 := by rw [hc]; exact (hI.ext (Step.drew _ _)).setB hl10 hs12 hB12
    refine W_region (by rfl) ?_
    refine x r_move <| x (r_add rfl rfl ⟨by omega, by omega⟩) <| x r_assign <| xe ?_
    refine ⟨k + 1, by omega, ⟨congrArg Value.bool (by rw [hto]; simp), rfl, trivial⟩, hltk, ?_⟩
    rw [htp]; simpa using hI12
  · have hmr := (hp4.st hI.st).mr
    refine W_draw (Step [] w6) [(0, true), (1, true), (2, true), (3, true), (4, true), (5, true), (6, true), (7, true), (8, true), (9, true), (10, true), (11, false), (12, true), (13, true), (14, false)] Tryd.mixed (by rfl) (by kernel_rfl) (Step.drew _ _) ?_
    refine p (fun _ => r_fieldB rfl) <| pq (fun _ h => r_loadB (u := .bool false) (hI.B.ext h) rfl (congrArg (fun b => some (Value.bool b)) hc)) <| p (fun _ => r_move) <| p (fun _ => r_fieldB rfl) <|
      pq (fun _ h => r_loadB (hB46.ext h) rfl rfl) <| p (fun _ => r_move) <| p (fun _ => r_move) <| Lg.pig (g := tvCells) (i := k) rfl (fun _ => rfl) ht6.arr rfl rfl hltk fun a100 h100 =>
      pq (fun _ h => r_loadA (h100.ext h) rfl) <| pii (i := 0) rfl hqI6 rfl rfl (by simp) fun a102 h102 => pq (fun _ h => r_loadA (h102.ext h) rfl) <|
      pk <| xf <| (has30_ok (hmr.ext (Step.drew [] w6)) (xi : Int)).mono ?_
    rintro r11 w11 ⟨rfl, rfl⟩
    refine ⟨Step.drew _ _, p (fun _ => r_pick rfl) <| p (fun _ => r_fieldB rfl) <|
      pkl (hl := by kernel_rfl) <| o_store (u := .bool (decide ((xi : Int) ∈ aP.mr))) (hI.B.ext (Step.drew _ _)) rfl rfl (by simp) rfl fun w12 hs12 hB12 => pe ?_⟩
    have hI12 : CcI w4 b10 false (pz || decide ((xi : Int) ∈ aP.mr)) ve vd E D w12 := by rw [hc]; exact (hI.ext (Step.drew _ _)).setB hl10 hs12 hB12
    refine W_region (by rfl) ?_
    refine x r_move <| x (r_add rfl rfl ⟨by omega, by omega⟩) <| x r_assign <| xe ?_
    refine ⟨k + 1, by omega, ⟨congrArg Value.bool (by rw [hto]; simp), rfl, trivial⟩, hltk, ?_⟩
    rw [htp]; simpa using hI12
end Go.Proofs.YtfhgnlkdcdlblaaDoor

/- The product of a plant and a supervisor of at most 5 states is found. -/
namespace Go.Proofs.YtfhgnlkdcdlblaaDoor
open Go.Lg

def encT (t : List Int) : Int := px t * 5 + py t
theorem tup_small {aP aS : Aut} (h : Pb aP aS) {s : Sy} (hs : SyOk [aP, aS] s) (hd : s.tup.Nodup) : s.tup.length ≤ 25 := by
  have h1 : (s.tup.map encT).Nodup := by
    unfold List.Nodup
    rw [List.pairwise_map]
    refine List.Pairwise.imp_of_mem (fun {a b} ha hb hne => ?_) hd
    obtain ⟨x1, y1, rfl, p1, q1⟩ := Vt2 (hs.v a ha)
    obtain ⟨x2, y2, rfl, p2, q2⟩ := Vt2 (hs.v b hb)
    intro e
    have e' : (x1 : Int) * 5 + y1 = x2 * 5 + y2 := e
    have := h.p5
    have := h.s5
    have ex : x1 = x2 := by omega
    have ey : y1 = y2 := by omega
    exact hne (by rw [ex, ey])
  have h2 := pig 25 (s.tup.map encT) h1 (fun z hz => by
    obtain ⟨t, ht, rfl⟩ := List.mem_map.1 hz
    obtain ⟨x1, y1, rfl, p1, q1⟩ := Vt2 (hs.v t ht)
    have := h.p5
    have := h.s5
    show 0 ≤ (x1 : Int) * 5 + y1 ∧ (x1 : Int) * 5 + y1 < 25
    omega)
  simpa using h2
theorem syE_some {aP aS : Aut} (h : Pb aP aS) {s : Sy} (hs : SyOk [aP, aS] s) (hd : s.tup.Nodup) (i : Nat) (t : List Int) (v : Int) : ∃ s', syE [aP, aS] i t s v = some s' ∧ s'.tup.Nodup := by
  have hl := tup_small h hs hd
  unfold syE
  cases stepT v [aP, aS] t with
  | none => exact ⟨s, rfl, hd⟩
  | some u =>
    simp only []
    by_cases hu : u ∈ s.tup
    · rw [if_pos hu]; exact ⟨_, rfl, hd⟩
    · rw [if_neg hu, if_neg (by omega)]
      refine ⟨_, rfl, ?_⟩
      simp only []
      rw [List.nodup_append]
      exact ⟨hd, by simp, fun a ha b hb => by simp only [List.mem_singleton] at hb; subst hb; exact fun e => hu (by rw [← e]; exact ha)⟩
theorem syEs_some {aP aS : Aut} (h : Pb aP aS) (ho : ∀ a ∈ [aP, aS], Okay a) {i : Nat} {t : List Int} (ht : Vt [aP, aS] t) : ∀ (vs : List Int) (s : Sy), SyOk [aP, aS] s → s.tup.Nodup → ∃ s', syEs [aP, aS] i t vs s = some s' ∧ s'.tup.Nodup
  | [], s, _, hd => ⟨s, rfl, hd⟩
  | v :: vs, s, hs, hd => by
    obtain ⟨s1, h1, h2⟩ := syE_some h hs hd i t v
    obtain ⟨s2, h3, h4⟩ := syEs_some h ho ht vs s1 (syE_ok ho hs ht h1) h2
    exact ⟨s2, by rw [syEs, h1]; exact h3, h4⟩
theorem syL_some {aP aS : Aut} (h : Pb aP aS) (ho : ∀ a ∈ [aP, aS], Okay a) : ∀ (f i : Nat) (s : Sy), SyOk [aP, aS] s → s.tup.Nodup → ∃ s', syL [aP, aS] f i s = some s'
  | 0, _, s, _, _ => ⟨s, rfl⟩
  | f + 1, i, s, hs, hd => by
    rw [syL]
    split
    · rename_i hi
      have hv : Vt [aP, aS] (syT s i) := hs.v _ (by unfold syT; simp [List.getD, hi])
      have hm : (syMark [aP, aS] i (syT s i) s).tup = s.tup := by unfold syMark; split <;> rfl
      obtain ⟨s1, h1, h2⟩ := syEs_some h ho hv (evs [aP, aS]) (syMark [aP, aS] i (syT s i) s) (syMark_ok hs) (by rw [hm]; exact hd)
      obtain ⟨s2, h3⟩ := syL_some h ho f (i + 1) s1 (syEs_ok ho hv _ _ _ (syMark_ok hs) h1) h2
      exact ⟨s2, by rw [h1]; exact h3⟩
    · exact ⟨s, rfl⟩
theorem Pb.okay {aP aS : Aut} (h : Pb aP aS) : ∀ a ∈ [aP, aS], Okay a := fun a ha => by
  simp only [List.mem_cons, List.not_mem_nil, or_false] at ha
  rcases ha with rfl | rfl
  · exact h.p
  · exact h.s
theorem Pb.opE0 {aP aS : Aut} (h : Pb aP aS) : opE aP aS = 0 := by
  have hc : opC aP aS = 0 := by
    unfold opC
    rw [if_neg (by simp [(ckA_zero aP).2 h.p]), if_neg (by simp [(ckA_zero aS).2 h.s]), if_pos]
    refine List.eq_nil_iff_forall_not_mem.2 fun x hx => ?_
    have := (mem_mrg h.s.ali h.p.ali x).1 hx
    simp only [Bool.and_eq_true, decide_eq_true_eq, Bool.not_eq_true', decide_eq_false_iff_not] at this
    exact this.2.2 (h.sub x this.2.1)
  unfold opE
  rw [if_neg (by simp [hc])]
  have hsome : ∃ z, sync [aP, aS] = some z := by
    unfold sync
    split
    · exact ⟨_, rfl⟩
    · rename_i hz
      obtain ⟨s, hs⟩ := syL_some h h.okay 4096 0 (sy0 [aP, aS]) (sy0_ok h.okay hz) (by simp [sy0])
      rw [hs]; exact ⟨_, rfl⟩
  obtain ⟨z, hz⟩ := hsome
  rw [hz]
theorem Pb.st100 {aP aS : Aut} (h : Pb aP aS) : Okay aP → Okay aS → aP.st ≤ 100 ∧ aS.st ≤ 100 := fun _ _ => ⟨by have := h.p5; omega, by have := h.s5; omega⟩
/-- A Control of the definition is consistent with itself. -/
theorem ctlD_self (p s : Aut) (pairs : List (List Int)) (x : Int) (hi : Inc s.al) : consC (ctlD p s pairs x) (ctlD p s pairs x) = true := by
  have i1 : Inc (ctlD p s pairs x).en := List.Pairwise.sublist List.filter_sublist hi
  have i2 : Inc (ctlD p s pairs x).dis := List.Pairwise.sublist List.filter_sublist hi
  rw [consC_law i1 i2 i1 i2]
  unfold lawC
  have h1 : (ctlD p s pairs x).en.all (fun y => !decide (y ∈ (ctlD p s pairs x).dis)) = true := by
    rw [List.all_eq_true]
    intro y hy
    simp only [Bool.not_eq_true', decide_eq_false_iff_not]
    intro hd
    simp only [ctlD, List.mem_filter, Bool.and_eq_true, decide_eq_true_eq, Bool.not_eq_true', decide_eq_false_iff_not] at hy hd
    exact hd.2.2 hy.2.2
  rw [h1]
  simp
end Go.Proofs.YtfhgnlkdcdlblaaDoor

/- The function SupervisorMaps returns true. -/
namespace Go.Lg
section
variable {P : Program} {f : Fr} {w : World} {d : Option Nat} {ty : Nat} {ps : String} {af : Array Edge} {gd : Option (Nat × Bool)}
theorem r_neqF {t t' : Nat} {x y : Operand} {k : IntKind} {a b : Int} (hx : ev f x = .int k a) (hy : ev f y = .int k b) (h : a = b) :
    (execOp (ev f) ⟨d, .binOp .neq t x y t', ty, ps, af, gd⟩).run P w = .ok (.value (.bool false)) w := by
  rw [r_neq hx hy, decide_eq_false (fun e => e h)]
end
end Go.Lg
namespace Go.Proofs.YtfhgnlkdcdlblaaDoor
open Go.Lg

theorem Pb.opC0 {aP aS : Aut} (h : Pb aP aS) : opC aP aS = 0 := by
  have := h.opE0
  unfold opE at this
  split at this
  · rename_i h1; exact absurd this h1
  · rename_i h1; exact Decidable.not_not.1 h1
theorem AutF_comp {N : Nat} {H : Array Obj} {va vm ve : Value} {n : Int} {a : Aut} (h : AutF N H (.agg #[va, .int .i64 n, vm, ve]) a) : n = a.st ∧ ∀ L : List Nat, (∀ b ∈ L, b < N) → AutA L H va vm ve a := by
  obtain ⟨x1, x2, x3, e, h⟩ := h
  simp only [Value.agg.injEq, Array.mk.injEq, List.cons.injEq, and_true, Value.int.injEq, true_and] at e
  obtain ⟨rfl, rfl, rfl, rfl⟩ := e
  exact ⟨rfl, h⟩

set_option maxHeartbeats 4000000 in
theorem lawMaps_ok {ns : List Nat} (hn : ns.length = 57) (hns : ∀ n ∈ ns, n < 256) (w : World) :
    Ret Tryd.prog 4 [.agg (bys ns).toArray] w fun r w' => r = .bool true ∧ Step [] w w' := by
  refine Ret.of_W Tryd.func4 rfl Tryd.ntmps4 Tryd.results4 (by simp) ?_
  refine W_seq <| W_region (by rfl) ?_
  refine xl rfl <| o_box (us := bys ns) rfl fun b1 w1 hs1 hb1 hB1 => x r_assign <| xe ?_
  refine W_seq <| W_seq <| W_region (by rfl) ?_
  refine xl rfl <| xf <| (known_ok w1).mono ?_
  rintro r2 w2 ⟨rfl, hs2⟩
  refine x (r_not rfl) <| xe ?_
  refine W_false rfl ?_
  refine W_skip ?_
  refine W_seq <| W_region (by rfl) ?_
  refine x (r_loadsB (hB1.ext hs2) rfl (by simp [bys]; exact hn)) <| xl rfl <| xf <| (make26_ok hn hns).mono ?_
  rintro r3 w3 ⟨hs3, vp, vs, vu, aP, aS, u, rfl, hFP, hFS, hPb, huo⟩
  obtain ⟨pva, pvm, pve, rfl, hPA⟩ := hFP
  obtain ⟨sva, svm, sve, rfl, hSA⟩ := hFS
  have hP0 := hPA [] (by simp)
  have hS0 := hSA [] (by simp)
  have hE0 := hPb.opE0
  obtain ⟨o1, o2, _, hv, hl⟩ := opE_zero hE0
  have hW3 := (hs1.trans hs2).trans hs3
  refine x r_move <| x (r_extract rfl rfl) <| x (r_extract rfl rfl) <|
    x (r_extract rfl rfl) <| xl rfl <| o_alloc (us := [.slice none 0 0, .int .i64 0, .slice none 0 0, .slice none 0 0]) rfl fun b3 w4 hs4 hb3 hB3 => xl rfl <| o_alloc (us := [.slice none 0 0, .int .i64 0, .slice none 0 0, .slice none 0 0]) rfl fun b4 w5 hs5 hb4 hB4 =>
    xl rfl <| o_stores (us := [pva, .int .i64 aP.st, pvm, pve]) (hB3.ext hs5) rfl rfl rfl rfl ⟨hP0.al.one, rfl, hP0.mr.one, hP0.ed.one, trivial⟩ fun w6 hs6 hB36 => ?_
  have hl3 := hB3.lt
  have hz4 := hs4.size
  have hB46 := hB4.step hs6 (by simp; omega)
  refine xl rfl <| o_stores (us := [sva, .int .i64 aS.st, svm, sve]) hB46 rfl rfl rfl rfl ⟨hS0.al.one, rfl, hS0.mr.one, hS0.ed.one, trivial⟩ fun w7 hs7 hB47 => x r_assign <| xe ?_
  have hB37 := hB36.step hs7 (by simp; omega)
  have hs37 : Step [] w3 w7 := ((hs4.trans hs5).then1 hs6 hb3).then1 hs7 (by omega)
  have hW7 := hW3.trans hs37
  have hP7 := hP0.ext hs37
  have hS7 := hS0.ext hs37
  refine W_seq <| W_region (by rfl) ?_
  refine x (r_loadsB hB37 rfl rfl) <| x (r_loadsB hB47 rfl rfl) <| xl rfl <| xf <| (Loop_ok hP7 hS7 hPb.st100).mono ?_
  rintro r8 w8 ⟨hs8, va, hr8, _, hga⟩
  rw [hE0] at hr8
  subst hr8
  obtain ⟨ava, avm, ave, rfl, hAA⟩ := hga hE0
  have hA8 := hAA [] (by simp)
  refine x r_move <| x (r_extract rfl rfl) <|
    x (r_extract rfl rfl) <| xl rfl <| o_alloc (us := [.slice none 0 0, .int .i64 0, .slice none 0 0, .slice none 0 0]) rfl fun b6 w9 hs9 hb6 hB6 => xl rfl <| o_stores (us := [ava, .int .i64 (opA aP aS).st, avm, ave]) hB6 rfl rfl rfl rfl ⟨hA8.al.one, rfl, hA8.mr.one, hA8.ed.one, trivial⟩ fun w10 hs10 hB610 => x r_assign <|
    xe ?_
  have hs810 : Step [] w8 w10 := hs9.then1 hs10 hb6
  have hs710 := hs8.trans hs810
  refine W_seq <| W_region (by rfl) ?_
  refine x (r_loadsB (hB37.ext hs710) rfl rfl) <| x (r_loadsB (hB47.ext hs710) rfl rfl) <| xl rfl <| xf <| (Map_ok (hP7.ext hs710) (hS7.ext hs710) hPb.st100).mono ?_
  rintro r11 w11 ⟨hs11, vl, hr11, _, hgl⟩
  rw [hE0] at hr11
  subst hr11
  obtain ⟨⟨cs, hcs, hCs⟩, hCb⟩ := hgl hE0
  have hC11 := hCs [] (by simp)
  have hcl : cs.length = aS.st.toNat := by have := ctls_len aP aS (opQ aP aS); rw [← hcs] at this; simpa using this
  refine x r_move <| x (r_extract rfl rfl) <|
    x (r_extract rfl rfl) <| x r_assign <| x r_assign <| xe ?_
  have hs711 := hs710.trans hs11
  refine W_seq <| W_region (by rfl) ?_
  refine x (r_loadsB (hB37.ext hs711) rfl rfl) <| x (r_loadsB (hB47.ext hs711) rfl rfl) <| xl rfl <| o_lits (us := [avCells ⟨pva, pvm, pve, aP⟩, avCells ⟨sva, svm, sve, aS⟩]) rfl rfl (by decide) (by exact (by decide : 2 * 4 ≤ 1000000)) ⟨rfl, rfl, rfl, rfl, trivial⟩ fun b39 w12 hs12 hb39 hB39 => ?_
  have hs712 := hs711.trans hs12
  have hAu : Auts [] w12.heap (.slice (some ⟨b39, 0, none⟩) 2 2) [⟨pva, pvm, pve, aP⟩, ⟨sva, svm, sve, aS⟩] := by
    refine ⟨hB39.arr (by simp) rfl (by simp) (by simp), fun q hq => ?_⟩
    simp only [List.mem_cons, List.not_mem_nil, or_false] at hq
    rcases hq with rfl | rfl
    · exact hP7.ext hs712
    · exact hS7.ext hs712
  refine xl rfl <| xf <| (Synchronous_ok hAu (by intro q hq; simp only [List.mem_cons, List.not_mem_nil, or_false] at hq; rcases hq with rfl | rfl; exact (hPb.st100 o1 o2).1; exact (hPb.st100 o1 o2).2)).mono ?_
  rintro r13 w13 ⟨hs13, vb, vt, c, rfl, hR⟩
  obtain ⟨hc, hO⟩ := OpRes.of hPb.opC0 hR
  rw [hE0] at hc
  subst hc
  obtain ⟨hFb, hFt⟩ := hO.good hE0
  obtain ⟨bva, bvm, bve, rfl, hBA⟩ := hFb
  obtain ⟨qs, hqe, hqs⟩ := hFt
  have hB13 := hBA [] (by simp)
  refine x r_move <| x (r_extract rfl rfl) <| x (r_extract rfl rfl) <| x (r_extract rfl rfl) <|
    xl rfl <| o_alloc (us := [.slice none 0 0, .int .i64 0, .slice none 0 0, .slice none 0 0]) rfl fun b10 w14 hs14 hb10 hB10 => xl rfl <| o_stores (us := [bva, .int .i64 (opA aP aS).st, bvm, bve]) hB10 rfl rfl rfl rfl ⟨hB13.al.one, rfl, hB13.mr.one, hB13.ed.one, trivial⟩ fun w15 hs15 hB1015 => x r_assign <| x r_assign <|
    xe ?_
  have hs1315 : Step [] w13 w15 := hs14.then1 hs15 hb10
  have hs1215 := hs13.trans hs1315
  have hs715 := hs712.trans hs1215
  have hs1115 := hs12.trans hs1215
  have hs1015 := hs11.trans hs1115
  have hs815 := hs810.trans hs1015
  have hC15 := hC11.ext hs1115
  have hT15 : Tups [] w15.heap vt qs := (hqs [] (by simp)).ext hs1315
  have hst0 := o2.st0
  have hn0 : (cs.length : Int) = aS.st := by omega
  have hs5' := hPb.s5
  have hB415 := hB47.ext hs715
  have hB315 := hB37.ext hs715
  refine W_seq <| W_seq <| W_region (by rfl) ?_
  refine x r_move <| x (r_neq rfl rfl) <| x r_move <| x r_move <| x (r_neq rfl rfl) <| x (r_pick rfl) <| x r_move <| x r_move <| x (r_neq rfl rfl) <| x (r_pick rfl) <| x r_move <| x (r_loadsB (hB610.ext hs1015) rfl rfl) <| x (r_loadsB hB1015 rfl rfl) <|
    xl rfl <| xf <| (Equal_same (hA8.ext hs815) (hB13.ext hs1315)).mono ?_
  rintro r16 w16 ⟨rfl, hs16⟩
  refine x (r_not rfl) <| x (r_pick rfl) <| x r_move <| x r_move <| x (r_lenA hC15.arr rfl) <| x (r_fieldB rfl) <|
    x (r_loadB (hB415.ext hs16) rfl rfl) <| x (r_neqF rfl rfl hn0) <| x (r_pick rfl) <| xe ?_
  refine W_false rfl ?_
  refine W_skip ?_
  have hW16 := (hW7.trans hs715).trans hs16
  refine W_seq <| W_seq <| W_region (by rfl) ?_
  refine x r_assign <| xe ?_
  refine W_block <| W_loop (α := Nat) [(2, 2), (13, 15), (67, 99)] (fun z => [(13, .int .i64 z)]) (fun z w' => z ≤ cs.length ∧ Step [] w15 w') (fun z => cs.length - z) (by rfl) 0 ⟨rfl, trivial⟩ ⟨Nat.zero_le _, hs16⟩ ?_
  rintro k g18 w18 ⟨hk, hs18⟩
  have hC18 := hC15.ext hs18
  refine W_seq <| W_seq <| W_region (by rfl) ?_
  refine x r_move <| x r_move <| x (r_lenA hC18.arr rfl) <| x (r_lss rfl rfl) <| xe ?_
  refine W_ifn rfl (fun h70 => ?_) (fun h70 => ?_)
  · refine W_exit ?_
    refine W_seq <| W_region (by rfl) ?_
    refine x r_assign <| xe ?_
    exact W_ret ⟨[.bool true], ⟨rfl, trivial⟩, rfl, (hW7.trans hs715).trans hs18⟩
  have hlt : k < cs.length := by omega
  have hcd : (cs[k]'hlt).c = ctlD aP aS (opQ aP aS) k := by rw [← lget_cv hcs hlt]; exact ctls_def o1 o2 hv k (by omega)
  have hCk := hC18.each _ (List.getElem_mem hlt)
  have hLk := hCb _ (by rw [← hcs]; exact List.mem_map_of_mem (List.getElem_mem hlt))
  refine exE (cs[k]'hlt) fun ck hck => ?_
  rw [hck] at hcd hCk hLk
  have hqsl : qs.length ≤ 4096 := by rw [← hqe] at hl; simpa using hl
  refine W_skip ?_
  refine W_seq <| W_block <| W_seq <| W_region (by rfl) ?_
  refine x (r_loadsB (hB315.ext hs18) rfl rfl) <| x (r_loadsB (hB415.ext hs18) rfl rfl) <| x r_move <| x r_move <| xl rfl <| xf <| (control_ok ((hP7.ext hs715).ext hs18) ((hS7.ext hs715).ext hs18) o2.al_le (hT15.ext hs18) (fun q hq => hv q.2 (by rw [← hqe]; exact List.mem_map_of_mem hq)) hqsl k).mono ?_
  rintro r19 w19 ⟨hs19, cv, oc, rfl, hce, hcvA, _⟩
  rw [hqe, ← hcd] at hce
  have hcv := hcvA [] (by simp)
  refine x r_move <| x (r_extract rfl rfl) <| x (r_extract rfl rfl) <| xl rfl <| o_alloc (us := [.slice none 0 0, .slice none 0 0, .bool false, .bool false]) rfl fun b14 w20 hs20 hb14 hB14 => xl rfl <| o_stores (us := cvCells cv) hB14 rfl rfl rfl rfl ⟨hcv.en.one, hcv.dis.one, rfl, rfl, trivial⟩ fun w21 hs21 hB1421 =>
    x r_assign <| xe ?_
  have hs1921 : Step [] w19 w21 := hs20.then1 hs21 hb14
  have hs1821 := hs19.trans hs1921
  have hC21 := hC18.ext hs1821
  have hC21k := hCk.ext hs1821
  have hself : consC ck.c ck.c = true := by rw [hcd]; exact ctlD_self aP aS _ _ o2.ali
  refine W_seq <| W_draw (Step [] w21) [(0, true), (1, true), (2, true), (3, true), (4, true), (5, false), (6, true), (7, true), (8, true), (9, true), (10, true), (11, true), (12, true), (13, true), (14, true), (15, true), (16, false), (17, true), (18, true)] Tryd.mixed (by rfl) (by kernel_rfl) (Step.drew _ _) ?_
  refine p (fun _ => r_move) <| p (fun _ => r_move) <| Lg.pig (g := cvCells) (i := k) rfl cv_len hC21.arr rfl rfl hlt fun a83 h83 => ?_
  rw [hck] at h83
  refine pq (fun _ hc => r_loadsA (h83.ext hc) rfl rfl) <|
    pq (fun _ hc => r_loadsB (hB1421.ext hc) rfl rfl) <| pk <| xf <| (same_ok (hC21k.ext (Step.drew _ _)) ((hcv.ext hs1921).ext (Step.drew _ _)) hce.symm).mono ?_
  rintro r22 w22 ⟨rfl, hs22⟩
  have hs2122 := (Step.drew [] w21).trans hs22
  refine ⟨hs2122, p (fun _ => r_not rfl) <| p (fun _ => r_move) <|
    p (fun _ => r_move) <| p (fun _ => r_move) <| Lg.pig (g := cvCells) (i := k) rfl cv_len hC21.arr rfl rfl hlt fun a91 h91 => ?_⟩
  rw [hck] at h91
  refine pq (fun _ hc => r_loadsA (h91.ext hc) rfl rfl) <| p (fun _ => r_move) <| p (fun _ => r_move) <| Lg.pig (g := cvCells) (i := k) rfl cv_len hC21.arr rfl rfl hlt fun a95 h95 => ?_
  rw [hck] at h95
  refine pq (fun _ hc => r_loadsA (h95.ext hc) rfl rfl) <|
    pk <| xf <| (Consistent_ok (hC21k.ext hs2122) (hC21k.ext hs2122) hLk.1 hLk.2 hLk.1 hLk.2).mono ?_
  rintro r23 w23 ⟨hr23, hs23⟩
  rw [hself] at hr23
  subst hr23
  have hs2123 := hs2122.trans hs23
  refine ⟨hs2123, p (fun _ => r_not rfl) <| p (fun _ => r_pick rfl) <| pe ?_⟩
  refine W_false rfl ?_
  refine W_skip ?_
  refine W_region (by rfl) ?_
  refine x r_move <| x (r_add rfl rfl ⟨by omega, by omega⟩) <| x r_assign <| xe ?_
  exact ⟨k + 1, by omega, ⟨rfl, trivial⟩, hlt, (hs18.trans hs1821).trans hs2123⟩
end Go.Proofs.YtfhgnlkdcdlblaaDoor
/- The synchronous product as a graph: its edges are the steps of its tuples; it is a right automaton. -/
namespace Go.Proofs.YtfhgnlkdcdlblaaDoor
open Go.Lg

/-! ### Edges in a grid: by state, then by event -/
def grid (g : Nat → Int → Option Ed) (vs : List Int) (n : Nat) : List Ed := (List.range' 0 n).flatMap fun j => vs.filterMap (g j)
theorem grid_succ (g : Nat → Int → Option Ed) (vs : List Int) (n : Nat) : grid g vs (n + 1) = grid g vs n ++ vs.filterMap (g n) := by
  unfold grid; rw [List.range'_1_concat, List.flatMap_append]; simp
theorem eget_append (l m : List Ed) (s v : Int) : eget (l ++ m) s v = match eget l s v with | some u => some u | none => eget m s v := by
  induction l with
  | nil => rfl
  | cons e l ih =>
    rw [List.cons_append, eget, eget]
    split
    · rfl
    · exact ih
/-- An edge of the grid stands where it belongs. -/
def GridOk (g : Nat → Int → Option Ed) : Prop := ∀ j v e, g j v = some e → e.1 = (j : Int) ∧ e.2.1 = v
theorem eget_row {g : Nat → Int → Option Ed} (hg : GridOk g) (j : Nat) (v : Int) : ∀ (vs : List Int), eget (vs.filterMap (g j)) j v = if v ∈ vs then (g j v).map (·.2.2) else none
  | [] => by simp [eget]
  | u :: vs => by
    have ih := eget_row hg j v vs
    rw [List.filterMap_cons]
    cases hu : g j u with
    | none =>
      simp only []
      rw [ih]
      by_cases e : v = u
      · subst e; simp [hu]
      · simp [e]
    | some e =>
      have he := hg j u e hu
      simp only []
      rw [eget]
      by_cases e2 : u = v
      · subst e2
        rw [if_pos he, if_pos List.mem_cons_self, hu]; rfl
      · rw [if_neg (fun h => e2 (he.2.symm.trans h.2)), ih]
        simp [Ne.symm e2]
theorem eget_row_ne {g : Nat → Int → Option Ed} (hg : GridOk g) {j i : Nat} (h : j ≠ i) (v : Int) (vs : List Int) : eget (vs.filterMap (g j)) i v = none := by
  refine eget_none fun e he h2 => ?_
  obtain ⟨u, _, hu⟩ := List.mem_filterMap.1 he
  have := hg j u e hu
  omega
theorem eget_grid {g : Nat → Int → Option Ed} (hg : GridOk g) (vs : List Int) (j : Nat) (v : Int) : ∀ n, eget (grid g vs n) j v = if j < n ∧ v ∈ vs then (g j v).map (·.2.2) else none
  | 0 => by simp [grid, eget]
  | n + 1 => by
    rw [grid_succ, eget_append, eget_grid hg vs j v n]
    by_cases e : j = n
    · subst e
      rw [if_neg (by omega), eget_row hg]
      simp
    · rw [eget_row_ne hg (Ne.symm e)]
      by_cases h : j < n ∧ v ∈ vs
      · rw [if_pos h, if_pos ⟨by omega, h.2⟩]
        cases (g j v).map (·.2.2) <;> rfl
      · rw [if_neg h, if_neg (fun h2 => h ⟨by omega, h2.2⟩)]
theorem grid_mem {g : Nat → Int → Option Ed} {vs : List Int} {n : Nat} {e : Ed} (h : e ∈ grid g vs n) : ∃ j v, j < n ∧ v ∈ vs ∧ g j v = some e := by
  unfold grid at h
  obtain ⟨j, hj, h2⟩ := List.mem_flatMap.1 h
  obtain ⟨v, hv, h3⟩ := List.mem_filterMap.1 h2
  rw [List.mem_range'_1] at hj
  exact ⟨j, v, by omega, hv, h3⟩
theorem grid_pw {g : Nat → Int → Option Ed} (hg : GridOk g) {vs : List Int} (hi : Inc vs) : ∀ n, (grid g vs n).Pairwise fun x y : Ed => x.1 < y.1 ∨ (x.1 = y.1 ∧ x.2.1 < y.2.1)
  | 0 => by simp [grid]
  | n + 1 => by
    rw [grid_succ, List.pairwise_append]
    refine ⟨grid_pw hg hi n, pw_filterMap (r := (· < ·)) (fun x y u v hxy hu hv => ?_) hi, fun e he e' he' => ?_⟩
    · have h1 := hg n x u hu
      have h2 := hg n y v hv
      right; omega
    · obtain ⟨j, v, hj, _, h1⟩ := grid_mem he
      obtain ⟨v', _, h2⟩ := List.mem_filterMap.1 he'
      have h3 := hg j v e h1
      have h4 := hg n v' e' h2
      left; omega
theorem outE_append (l m : List Ed) (s : Int) : outE (l ++ m) s = outE l s ++ outE m s := by unfold outE; rw [List.filter_append]
theorem outE_grid {g : Nat → Int → Option Ed} (hg : GridOk g) (vs : List Int) (j : Nat) : ∀ n, outE (grid g vs n) j = if j < n then vs.filterMap (g j) else []
  | 0 => by simp [grid, outE]
  | n + 1 => by
    rw [grid_succ, outE_append, outE_grid hg vs j n]
    have key : ∀ e ∈ vs.filterMap (g n), e.1 = (n : Int) := fun e he => by
      obtain ⟨v, _, h2⟩ := List.mem_filterMap.1 he
      exact (hg n v e h2).1
    by_cases e : j = n
    · subst e
      rw [if_neg (by omega), if_pos (by omega), List.nil_append]
      unfold outE
      rw [List.filter_eq_self]
      intro x hx; simpa using key x hx
    · have : outE (vs.filterMap (g n)) j = [] := by
        unfold outE
        rw [List.filter_eq_nil_iff]
        intro x hx; have := key x hx; simp; omega
      rw [this, List.append_nil]
      by_cases h : j < n
      · rw [if_pos h, if_pos (by omega)]
      · rw [if_neg h, if_neg (by omega)]

/-! ### The union of the alphabets -/
theorem evs_snoc (l : List Aut) (a : Aut) : evs (l ++ [a]) = mrg (· || ·) (evs l) a.al := by unfold evs; rw [List.foldl_append]; rfl
theorem evsF (l : List Aut) : ∀ (acc : List Int), (∀ a ∈ l, Inc a.al) → Inc acc → Inc (l.foldl (fun acc a => mrg (· || ·) acc a.al) acc) ∧ ∀ x, x ∈ l.foldl (fun acc a => mrg (· || ·) acc a.al) acc ↔ x ∈ acc ∨ ∃ a ∈ l, x ∈ a.al := by
  induction l with
  | nil => intro acc _ h; exact ⟨h, fun x => by simp⟩
  | cons a l ih =>
    intro acc hl h
    have ha := hl a List.mem_cons_self
    obtain ⟨h1, h2⟩ := ih (mrg (· || ·) acc a.al) (fun b hb => hl b (List.mem_cons_of_mem _ hb)) (mrg_inc _ _ _ _ (Nat.le_refl _) h ha)
    rw [List.foldl_cons]
    refine ⟨h1, fun x => ?_⟩
    rw [h2 x, mem_mrg h ha]
    simp only [List.mem_cons, exists_eq_or_imp]
    constructor
    · rintro (⟨h3 | h3, _⟩ | h3)
      · exact .inl h3
      · exact .inr (.inl h3)
      · exact .inr (.inr h3)
    · rintro (h3 | h3 | h3)
      · exact .inl ⟨.inl h3, by simp [h3]⟩
      · exact .inl ⟨.inr h3, by simp [h3]⟩
      · exact .inr h3
theorem evs_inc {l : List Aut} (h : ∀ a ∈ l, Okay a) : Inc (evs l) := (evsF l [] (fun a ha => (h a ha).ali) (by simp)).1
theorem evs_mem {l : List Aut} (h : ∀ a ∈ l, Okay a) (x : Int) : x ∈ evs l ↔ ∃ a ∈ l, x ∈ a.al := by
  have := (evsF l [] (fun a ha => (h a ha).ali) (by simp)).2 x
  unfold evs; rw [this]; simp

/-! ### The search -/
def syF (aa : List Aut) (tup : List (List Int)) (j : Nat) (v : Int) : Option Ed := (stepT v aa (tup.getD j [])).map fun u => ((j : Int), v, (tup.idxOf u : Int))
theorem syF_ok (aa : List Aut) (tup : List (List Int)) : GridOk (syF aa tup) := by
  intro j v e h
  unfold syF at h
  obtain ⟨u, _, rfl⟩ := Option.map_eq_some_iff.1 h
  exact ⟨rfl, rfl⟩
theorem fm_congr {α β : Type} {f g : α → Option β} : ∀ {l : List α}, (∀ x ∈ l, f x = g x) → l.filterMap f = l.filterMap g
  | [], _ => rfl
  | x :: l, h => by rw [List.filterMap_cons, List.filterMap_cons, h x List.mem_cons_self, fm_congr (fun y hy => h y (List.mem_cons_of_mem _ hy))]
theorem fm_one {α β : Type} {f : α → Option β} {v : α} {e : β} (h : f v = some e) : [v].filterMap f = [e] := by rw [List.filterMap_cons, h]; rfl
theorem fm_none {α β : Type} {f : α → Option β} {v : α} (h : f v = none) : [v].filterMap f = [] := by rw [List.filterMap_cons, h]; rfl
theorem syF_none {aa : List Aut} {tup : List (List Int)} {j : Nat} {v : Int} (h : stepT v aa (tup.getD j []) = none) : syF aa tup j v = none := by unfold syF; rw [h]; rfl
theorem syF_some {aa : List Aut} {tup : List (List Int)} {j : Nat} {v : Int} {u : List Int} (h : stepT v aa (tup.getD j []) = some u) : syF aa tup j v = some ((j : Int), v, (tup.idxOf u : Int)) := by unfold syF; rw [h]; rfl
def Clo (aa : List Aut) (tup : List (List Int)) (j : Nat) (vs : List Int) : Prop := ∀ v ∈ vs, ∀ u, stepT v aa (tup.getD j []) = some u → u ∈ tup
theorem getD_pre {tup r : List (List Int)} {j : Nat} (h : j < tup.length) : (tup ++ r).getD j [] = tup.getD j [] := by simp [List.getD, List.getElem?_append_left h]
theorem syF_pre {aa : List Aut} {tup r : List (List Int)} {j : Nat} {vs : List Int} (hj : j < tup.length) (hc : Clo aa tup j vs) : vs.filterMap (syF aa (tup ++ r) j) = vs.filterMap (syF aa tup j) := by
  refine fm_congr fun v hv => ?_
  unfold syF
  rw [getD_pre hj]
  cases hs : stepT v aa (tup.getD j []) with
  | none => rfl
  | some u =>
    have hu := hc v hv u hs
    simp only [Option.map_some, Option.some.injEq, Prod.mk.injEq, true_and]
    rw [List.idxOf_append, if_pos hu]
theorem Clo.pre {aa : List Aut} {tup r : List (List Int)} {j : Nat} {vs : List Int} (hj : j < tup.length) (hc : Clo aa tup j vs) : Clo aa (tup ++ r) j vs := by
  intro v hv u hu
  rw [getD_pre hj] at hu
  exact List.mem_append_left _ (hc v hv u hu)
theorem nodup_snoc {α : Type} {l : List α} {u : α} (h : l.Nodup) (hu : u ∉ l) : (l ++ [u]).Nodup := by
  rw [List.nodup_append]
  exact ⟨h, by simp, fun a ha b hb => by simp only [List.mem_singleton] at hb; subst hb; exact fun e => hu (by rw [← e]; exact ha)⟩
theorem syEs_spec {aa : List Aut} {i : Nat} : ∀ (vs : List Int) (s s' : Sy), i < s.tup.length → s.tup.Nodup → syEs aa i (syT s i) vs s = some s' →
    ∃ r, s'.tup = s.tup ++ r ∧ s'.mk' = s.mk' ∧ s'.ed = s.ed ++ vs.filterMap (syF aa s'.tup i) ∧ Clo aa s'.tup i vs ∧ s'.tup.Nodup
  | [], s, s', _, hd, e => by cases e; exact ⟨[], by simp, rfl, by simp, fun v hv => (by cases hv), hd⟩
  | v :: vs, s, s', hi, hd, e => by
    rw [syEs] at e
    obtain ⟨s1, h1, h2⟩ := Option.bind_eq_some_iff.1 e
    have key : ∃ r1, s1.tup = s.tup ++ r1 ∧ s1.mk' = s.mk' ∧ s1.ed = s.ed ++ [v].filterMap (syF aa s1.tup i) ∧ Clo aa s1.tup i [v] ∧ s1.tup.Nodup := by
      unfold syE at h1
      have eT : syT s i = s.tup.getD i [] := rfl
      rw [eT] at h1
      cases hs : stepT v aa (s.tup.getD i []) with
      | none =>
        rw [hs] at h1
        cases h1
        refine ⟨[], by simp, rfl, by rw [fm_none (syF_none hs), List.append_nil], fun v' hv' u hu => ?_, hd⟩
        simp only [List.mem_singleton] at hv'; subst hv'
        rw [hs] at hu; cases hu
      | some u =>
        rw [hs] at h1
        simp only [] at h1
        by_cases hu : u ∈ s.tup
        · rw [if_pos hu] at h1
          cases h1
          refine ⟨[], by simp, rfl, by rw [fm_one (syF_some hs)], fun v' hv' u' hu' => ?_, hd⟩
          simp only [List.mem_singleton] at hv'; subst hv'
          simp only [] at hu' ⊢
          rw [hs] at hu'; cases hu'; exact hu
        · rw [if_neg hu] at h1
          split at h1
          · cases h1
          · cases h1
            have e2 : (s.tup ++ [u]).getD i [] = s.tup.getD i [] := getD_pre hi
            have e3 : (s.tup ++ [u]).idxOf u = s.tup.length := by rw [List.idxOf_append, if_neg hu]; simp
            refine ⟨[u], rfl, rfl, ?_, fun v' hv' u' hu' => ?_, nodup_snoc hd hu⟩
            · rw [fm_one (syF_some (tup := s.tup ++ [u]) (u := u) (by rw [e2]; exact hs)), e3]
            · simp only [List.mem_singleton] at hv'; subst hv'
              simp only [] at hu' ⊢
              rw [e2, hs] at hu'; cases hu'; simp
    obtain ⟨r1, k1, k2, k3, k4, k5⟩ := key
    have hi1 : i < s1.tup.length := by rw [k1]; simp; omega
    have eT : syT s1 i = syT s i := by unfold syT; rw [k1]; exact getD_pre hi
    rw [← eT] at h2
    obtain ⟨r2, g1, g2, g3, g4, g5⟩ := syEs_spec vs s1 s' hi1 k5 h2
    refine ⟨r1 ++ r2, by rw [g1, k1, List.append_assoc], g2.trans k2, ?_, ?_, g5⟩
    · rw [g3, k3, List.append_assoc]
      congr 1
      rw [show v :: vs = [v] ++ vs from rfl, List.filterMap_append]
      congr 1
      rw [g1]
      exact (syF_pre hi1 k4).symm
    · intro v' hv' u hu
      rcases List.mem_cons.1 hv' with rfl | hv'
      · have := k4.pre (r := r2) hi1
        rw [← g1] at this
        exact this v' List.mem_cons_self u hu
      · exact g4 v' hv' u hu
/-- Before tuple i is taken. -/
structure SyG (aa : List Aut) (i : Nat) (s : Sy) : Prop where
  nd : s.tup.Nodup
  le : i ≤ s.tup.length
  hd : s.tup.getD 0 [] = List.replicate aa.length 0 ∧ 0 < s.tup.length
  mk2 : s.mk' = ((List.range' 0 i).filter fun j => markT aa (s.tup.getD j [])).map fun j : Nat => (j : Int)
  ed : s.ed = grid (syF aa s.tup) (evs aa) i
  cl : ∀ j, j < i → Clo aa s.tup j (evs aa)
theorem flatMap_congr' {α β : Type} {f g : α → List β} : ∀ {l : List α}, (∀ x ∈ l, f x = g x) → l.flatMap f = l.flatMap g
  | [], _ => rfl
  | x :: l, h => by rw [List.flatMap_cons, List.flatMap_cons, h x List.mem_cons_self, flatMap_congr' (fun y hy => h y (List.mem_cons_of_mem _ hy))]
theorem SyG.next {aa : List Aut} {i : Nat} {s s' : Sy} (h : SyG aa i s) (hi : i < s.tup.length) (e : syEs aa i (syT s i) (evs aa) (syMark aa i (syT s i) s) = some s') : SyG aa (i + 1) s' := by
  have ht : (syMark aa i (syT s i) s).tup = s.tup := by unfold syMark; split <;> rfl
  have hed : (syMark aa i (syT s i) s).ed = s.ed := by unfold syMark; split <;> rfl
  have hT : syT (syMark aa i (syT s i) s) i = syT s i := by show (syMark aa i (syT s i) s).tup.getD i [] = s.tup.getD i []; rw [ht]
  rw [← hT] at e
  obtain ⟨r, g1, g2, g3, g4, g5⟩ := syEs_spec (evs aa) _ s' (by rw [ht]; exact hi) (by rw [ht]; exact h.nd) (by rw [hT] at e ⊢; exact e)
  rw [ht] at g1
  rw [hed] at g3
  have pre : ∀ j, j ≤ i → s'.tup.getD j [] = s.tup.getD j [] := fun j hj => by rw [g1]; exact getD_pre (by omega)
  refine ⟨g5, by rw [g1]; simp; omega, ⟨by rw [pre 0 (by omega)]; exact h.hd.1, by rw [g1]; simp; omega⟩, ?_, ?_, fun j hj => ?_⟩
  · rw [g2, List.range'_1_concat, List.filter_append, List.map_append, Nat.zero_add]
    have e1 : ((List.range' 0 i).filter fun j => markT aa (s'.tup.getD j [])) = (List.range' 0 i).filter fun j => markT aa (s.tup.getD j []) := by
      refine List.filter_congr fun j hj => ?_
      rw [List.mem_range'_1] at hj
      rw [pre j (by omega)]
    rw [e1]
    unfold syMark
    by_cases hm : markT aa (syT s i) = true
    · rw [if_pos hm]
      have hm' : markT aa (s'.tup.getD i []) = true := by rw [pre i (Nat.le_refl _)]; exact hm
      simp only [List.filter_cons, hm', if_true, List.filter_nil, List.map_cons, List.map_nil]
      rw [h.mk2]
    · rw [if_neg hm]
      have hm' : markT aa (s'.tup.getD i []) = false := by rw [pre i (Nat.le_refl _)]; exact eq_false_of_ne_true hm
      rw [List.filter_cons, if_neg (by rw [hm']; simp), List.filter_nil, h.mk2]; simp
  · rw [g3, grid_succ, h.ed]
    congr 1
    unfold grid
    refine flatMap_congr' fun j hj => ?_
    rw [List.mem_range'_1] at hj
    rw [g1]
    exact (syF_pre (by omega) (h.cl j (by omega))).symm
  · by_cases e2 : j = i
    · subst e2; exact g4
    · have := (h.cl j (by omega)).pre (r := r) (by omega)
      rw [← g1] at this
      exact this
theorem syL_spec {aa : List Aut} : ∀ (f i : Nat) (s s' : Sy), SyG aa i s → syL aa f i s = some s' → ∃ i', SyG aa i' s' ∧ (s'.tup.length = i' ∨ i' = i + f)
  | 0, i, s, s', h, e => by cases e; exact ⟨i, h, .inr rfl⟩
  | f + 1, i, s, s', h, e => by
    rw [syL] at e
    split at e
    · rename_i hi
      obtain ⟨s1, h1, h2⟩ := Option.bind_eq_some_iff.1 e
      obtain ⟨i', h3, h4⟩ := syL_spec f (i + 1) s1 s' (h.next hi h1) h2
      exact ⟨i', h3, by omega⟩
    · cases e; exact ⟨i, h, .inl (by have := h.le; omega)⟩
/-- What the product is. -/
structure SyP (aa : List Aut) (A : Aut) (Q : List (List Int)) : Prop where
  al : A.al = evs aa
  st : A.st = (Q.length : Int)
  nd : Q.Nodup
  v : ∀ t ∈ Q, Vt aa t
  le : Q.length ≤ 4096
  hd : 0 < Q.length → Q.getD 0 [] = List.replicate aa.length 0
  mk2 : A.mr = ((List.range' 0 Q.length).filter fun j => markT aa (Q.getD j [])).map fun j : Nat => (j : Int)
  ed : A.ed = grid (syF aa Q) (evs aa) Q.length
  cl : ∀ j, j < Q.length → Clo aa Q j (evs aa)
theorem sync_spec {aa : List Aut} (ho : ∀ a ∈ aa, Okay a) {A : Aut} {Q : List (List Int)} (h : sync aa = some (A, Q)) : SyP aa A Q ∧ (Q.length = 0 ↔ ∃ a ∈ aa, a.st = 0) := by
  have hok := sync_ok ho h
  unfold sync at h
  split at h
  · rename_i hz
    cases h
    exact ⟨⟨rfl, rfl, by simp, by simp, by simp, fun h => by simp at h, by simp, by simp [grid], fun j hj => by simp at hj⟩, by simpa using hz⟩
  · rename_i hz
    obtain ⟨s, h1, h2⟩ := Option.map_eq_some_iff.1 h
    have h0 : SyG aa 0 (sy0 aa) := ⟨by simp [sy0], by simp, ⟨by simp [sy0], by simp [sy0]⟩, by simp [sy0], by simp [sy0, grid], fun j hj => by omega⟩
    obtain ⟨i', h3, h4⟩ := syL_spec 4096 0 (sy0 aa) s h0 h1
    cases h2
    have hl : i' = s.tup.length := by
      have h5 := h3.le
      have h6 := hok.2
      simp only [] at h6
      omega
    subst hl
    refine ⟨⟨rfl, rfl, h3.nd, hok.1, hok.2, fun _ => h3.hd.1, h3.mk2, h3.ed, h3.cl⟩, ?_⟩
    have := h3.hd.2
    constructor
    · intro h; have h7 : s.tup.length = 0 := h; omega
    · intro h; exact absurd h hz
/-- A step of the product is a step of its tuple. -/
theorem SyP.step {aa : List Aut} {A : Aut} {Q : List (List Int)} (h : SyP aa A Q) {j : Nat} (hj : j < Q.length) (v : Int) :
    eget A.ed j v = if v ∈ evs aa then (stepT v aa (Q.getD j [])).map fun u => (Q.idxOf u : Int) else none := by
  rw [h.ed, eget_grid (syF_ok aa Q)]
  by_cases hv : v ∈ evs aa
  · rw [if_pos ⟨hj, hv⟩, if_pos hv]
    unfold syF
    rw [Option.map_map]; rfl
  · rw [if_neg (fun e => hv e.2), if_neg hv]
theorem SyP.to {aa : List Aut} {A : Aut} {Q : List (List Int)} (h : SyP aa A Q) {j : Nat} (hj : j < Q.length) {v : Int} (hv : v ∈ evs aa) {u : List Int} (hu : stepT v aa (Q.getD j []) = some u) : Q.idxOf u < Q.length ∧ Q.getD (Q.idxOf u) [] = u := by
  have hm := h.cl j hj v hv u hu
  have hl := List.idxOf_lt_length_of_mem hm
  refine ⟨hl, ?_⟩
  simp [List.getD, hl]
theorem SyP.okay {aa : List Aut} (ho : ∀ a ∈ aa, Okay a) {A : Aut} {Q : List (List Int)} (h : SyP aa A Q) : Okay A := by
  have hle := h.le
  refine ⟨fun e he => ?_, by rw [h.al]; exact evs_inc ho, by rw [h.st]; omega, by rw [h.st]; omega, fun s hs => ?_, ?_, fun e he => ?_, by rw [h.ed]; exact grid_pw (syF_ok aa Q) (evs_inc ho) _⟩
  · rw [h.al] at he
    obtain ⟨a, ha, hx⟩ := (evs_mem ho e).1 he
    exact (ho a ha).al e hx
  · rw [h.mk2] at hs
    simp only [List.mem_map, List.mem_filter, List.mem_range'_1] at hs
    obtain ⟨i, ⟨hi, _⟩, rfl⟩ := hs
    rw [h.st]; omega
  · rw [h.mk2]
    unfold Inc
    rw [List.pairwise_map]
    refine List.Pairwise.sublist List.filter_sublist ?_
    exact (List.pairwise_lt_range' (s := 0) (n := Q.length)).imp (fun h => by omega)
  · rw [h.ed] at he
    obtain ⟨j, v, hj, hv, hg⟩ := grid_mem he
    unfold syF at hg
    obtain ⟨u, hu, rfl⟩ := Option.map_eq_some_iff.1 hg
    have := (h.to hj hv hu).1
    rw [h.st, h.al]
    exact ⟨by simp only []; omega, by simp only []; omega, hv, by simp only []; omega, by simp only []; omega⟩
end Go.Proofs.YtfhgnlkdcdlblaaDoor
/- Contracts: automaton.next, follow, reached, Generates, Accepts. -/
namespace Go.Proofs.YtfhgnlkdcdlblaaDoor
open Go.Lg

/-- What IndexFunc answers. -/
def IxQ {α : Type} (q : α → Bool) (es : List α) (r : Value) : Prop := (r = .int .i64 (-1) ∧ ∀ m (hm : m < es.length), q (es[m]'hm) = false) ∨ ∃ (i : Nat) (hi : i < es.length), r = .int .i64 i ∧ q (es[i]'hi) = true ∧ ∀ m (hm : m < i), q (es[m]'(by omega)) = false
theorem ixfE_ok {g : Nat} {fn : Func} [Fu Tryd.prog g fn] {cap : List Value} {q : Ed → Bool} {L : List Nat} {w : World} {v : Value} {es : List Ed} (h : Eds L w.heap v es)
    (hk : ∀ (e : Ed) (w1 : World), Step [] w w1 → Ret Tryd.prog g ([.agg (edCells e).toArray] ++ cap) w1 fun r w' => r = .bool (q e) ∧ Step [] w1 w') :
    Ret Tryd.prog 106 [v, .func (.func g) #[] cap.toArray] w fun r w' => Step [] w w' ∧ IxQ q es r := by
  have hle := h.le
  refine Ret.of_W Tryd.func106 rfl Tryd.ntmps106 Tryd.results106 (by simp) ?_
  refine W_seq <| W_region (by rfl) ?_
  refine x r_assign <| xe ?_
  refine W_seq <| W_seq <| W_region (by rfl) ?_
  refine x r_move <| x (r_lenA h rfl) <| x r_move <| xe ?_
  refine W_block <| W_loop (α := Nat) [(4, 5), (8, 18)] (fun z => [(8, .int .i64 z)]) (fun z w' => z ≤ es.length ∧ Step [] w w' ∧ ∀ m (hm : m < es.length), m < z → q (es[m]'hm) = false) (fun z => es.length - z) (by rfl) 0 ⟨rfl, trivial⟩ ⟨Nat.zero_le _, Step.refl _ _, fun m _ h0 => absurd h0 (Nat.not_lt_zero m)⟩ ?_
  rintro k g1 w1 ⟨hk1, hs1, hq⟩
  refine W_seq <| W_region (by rfl) ?_
  refine x (r_lss rfl rfl) <| xe ?_
  refine W_seq <| W_ifn rfl (fun h9 => ?_) (fun h9 => ?_)
  · refine W_exit ?_
    refine W_seq <| W_region (by rfl) ?_
    refine x r_assign <| xe ?_
    exact W_ret ⟨[.int .i64 (-1)], ⟨rfl, trivial⟩, hs1, .inl ⟨rfl, fun m hm => hq m hm (by omega)⟩⟩
  have hlt : k < es.length := by omega
  refine W_skip ?_
  refine W_seq <| W_block <| W_seq <| W_region (by rfl) ?_
  refine x r_move <| x r_assign <| xe ?_
  refine W_seq <| W_region (by rfl) ?_
  refine x r_move <| x r_move <| x r_move <| xie (h.ext hs1) rfl rfl hlt fun a14 h14 => x (r_loadsA h14 rfl rfl) <| xl rfl <| xc (first := []) (capt := cap) rfl <| (hk (es[k]'hlt) w1 hs1).mono ?_
  rintro r2 w2 ⟨rfl, hs2⟩
  refine xe ?_
  refine W_cond rfl (fun h16 => ?_) (fun h16 => ?_)
  · refine W_seq <| W_region (by rfl) ?_
    refine x r_move <| x r_assign <| xe ?_
    exact W_ret ⟨[.int .i64 k], ⟨rfl, trivial⟩, hs1.trans hs2, .inr ⟨k, hlt, rfl, h16, fun m hm => hq m (by omega) hm⟩⟩
  refine W_skip ?_
  refine W_region (by rfl) ?_
  refine x (r_add rfl rfl ⟨by omega, by omega⟩) <| x r_move <| xe ?_
  refine ⟨k + 1, by omega, ⟨rfl, trivial⟩, hlt, hs1.trans hs2, fun m hm hmk => ?_⟩
  by_cases e : m = k
  · subst e; exact h16
  · exact hq m hm (by omega)
theorem ixfI_ok {g : Nat} {fn : Func} [Fu Tryd.prog g fn] {cap : List Value} {q : Int → Bool} {L : List Nat} {w : World} {v : Value} {es : List Int} (h : Ints L w.heap v es)
    (hk : ∀ (e : Int) (w1 : World), Step [] w w1 → Ret Tryd.prog g ([.int .i64 e] ++ cap) w1 fun r w' => r = .bool (q e) ∧ Step [] w1 w') :
    Ret Tryd.prog 100 [v, .func (.func g) #[] cap.toArray] w fun r w' => Step [] w w' ∧ IxQ q es r := by
  have hle := h.le
  refine Ret.of_W Tryd.func100 rfl Tryd.ntmps100 Tryd.results100 (by simp) ?_
  refine W_seq <| W_region (by rfl) ?_
  refine x r_assign <| xe ?_
  refine W_seq <| W_seq <| W_region (by rfl) ?_
  refine x r_move <| x (r_lenA h rfl) <| x r_move <| xe ?_
  refine W_block <| W_loop (α := Nat) [(4, 5), (8, 18)] (fun z => [(8, .int .i64 z)]) (fun z w' => z ≤ es.length ∧ Step [] w w' ∧ ∀ m (hm : m < es.length), m < z → q (es[m]'hm) = false) (fun z => es.length - z) (by rfl) 0 ⟨rfl, trivial⟩ ⟨Nat.zero_le _, Step.refl _ _, fun m _ h0 => absurd h0 (Nat.not_lt_zero m)⟩ ?_
  rintro k g1 w1 ⟨hk1, hs1, hq⟩
  refine W_seq <| W_region (by rfl) ?_
  refine x (r_lss rfl rfl) <| xe ?_
  refine W_seq <| W_ifn rfl (fun h9 => ?_) (fun h9 => ?_)
  · refine W_exit ?_
    refine W_seq <| W_region (by rfl) ?_
    refine x r_assign <| xe ?_
    exact W_ret ⟨[.int .i64 (-1)], ⟨rfl, trivial⟩, hs1, .inl ⟨rfl, fun m hm => hq m hm (by omega)⟩⟩
  have hlt : k < es.length := by omega
  refine W_skip ?_
  refine W_seq <| W_block <| W_seq <| W_region (by rfl) ?_
  refine x r_move <| x r_assign <| xe ?_
  refine W_seq <| W_region (by rfl) ?_
  refine x r_move <| x r_move <| x r_move <| xii (h.ext hs1) rfl rfl hlt fun a14 h14 => x (r_loadA h14 rfl) <| xl rfl <| xc (first := []) (capt := cap) rfl <| (hk (es[k]'hlt) w1 hs1).mono ?_
  rintro r2 w2 ⟨rfl, hs2⟩
  refine xe ?_
  refine W_cond rfl (fun h16 => ?_) (fun h16 => ?_)
  · refine W_seq <| W_region (by rfl) ?_
    refine x r_move <| x r_assign <| xe ?_
    exact W_ret ⟨[.int .i64 k], ⟨rfl, trivial⟩, hs1.trans hs2, .inr ⟨k, hlt, rfl, h16, fun m hm => hq m (by omega) hm⟩⟩
  refine W_skip ?_
  refine W_region (by rfl) ?_
  refine x (r_add rfl rfl ⟨by omega, by omega⟩) <| x r_move <| xe ?_
  refine ⟨k + 1, by omega, ⟨rfl, trivial⟩, hlt, hs1.trans hs2, fun m hm hmk => ?_⟩
  by_cases e : m = k
  · subst e; exact h16
  · exact hq m hm (by omega)
theorem cnfI_ok {g : Nat} {fn : Func} [Fu Tryd.prog g fn] {cap : List Value} {q : Int → Bool} {L : List Nat} {w : World} {v : Value} {es : List Int} (h : Ints L w.heap v es)
    (hk : ∀ (e : Int) (w1 : World), Step [] w w1 → Ret Tryd.prog g ([.int .i64 e] ++ cap) w1 fun r w' => r = .bool (q e) ∧ Step [] w1 w') :
    Ret Tryd.prog 84 [v, .func (.func g) #[] cap.toArray] w fun r w' => r = .bool (es.any q) ∧ Step [] w w' := by
  refine Ret.of_W Tryd.func84 rfl Tryd.ntmps84 Tryd.results84 (by simp) ?_
  refine W_seq <| W_region (by rfl) ?_
  refine x r_assign <| xe ?_
  refine W_seq <| W_region (by rfl) ?_
  refine x r_move <| x r_move <| xl rfl <| xf <| (ixfI_ok h hk).mono ?_
  rintro r1 w1 ⟨hs1, hr⟩
  refine Or.elim hr (fun hr => ?_) (fun hr => ?_)
  · obtain ⟨rfl, hq⟩ := hr
    have e : es.any q = false := by
      rw [List.any_eq_false]
      intro z hz
      obtain ⟨i, hi, rfl⟩ := List.getElem_of_mem hz
      rw [hq i hi]; simp
    refine x (r_geq rfl rfl) <| x r_assign <| xe ?_
    exact W_ret ⟨[.bool false], ⟨rfl, trivial⟩, by rw [e]; rfl, hs1⟩
  · obtain ⟨i, hi, rfl, h1, _⟩ := hr
    have e : es.any q = true := List.any_eq_true.2 ⟨_, List.getElem_mem hi, h1⟩
    have e2 : decide ((0 : Int) ≤ (i : Int)) = true := by simp
    refine x (r_geq rfl rfl) <| x r_assign <| xe ?_
    exact W_ret ⟨[.bool (decide ((0 : Int) ≤ (i : Int)))], ⟨rfl, trivial⟩, by rw [e, e2]; rfl, hs1⟩

/-! ### automaton.next -/
theorem nxt_out (es : List Ed) (s v : Int) : nxt es s v = nxt (outE es s) s v := by
  induction es with
  | nil => rfl
  | cons e es ih =>
    unfold outE at *
    rw [List.filter_cons]
    by_cases h : e.1 = s
    · rw [if_pos (by simpa using h), nxt, nxt, ih]
    · rw [if_neg (by simpa using h), nxt, if_neg (fun c => h c.1), ih]
theorem nxt_at : ∀ (l : List Ed) (s v : Int) (i : Nat) (hi : i < l.length), (∀ e ∈ l, e.1 = s) → (l[i]'hi).2.1 = v → (∀ m (hm : m < i), (l[m]'(by omega)).2.1 ≠ v) → nxt l s v = (l[i]'hi).2.2
  | e :: l, s, v, 0, _, hs, hv, _ => by rw [nxt, if_pos ⟨hs e List.mem_cons_self, hv⟩]; rfl
  | e :: l, s, v, i + 1, hi, hs, hv, hm => by
    rw [nxt, if_neg (fun c => hm 0 (by omega) c.2)]
    exact nxt_at l s v i (by simpa using hi) (fun e he => hs e (List.mem_cons_of_mem _ he)) hv (fun m hm' => hm (m + 1) (by omega))
theorem nxt_no : ∀ (l : List Ed) (s v : Int), (∀ e ∈ l, e.2.1 ≠ v) → nxt l s v = -1
  | [], _, _, _ => rfl
  | e :: l, s, v, h => by rw [nxt, if_neg (fun c => h e List.mem_cons_self c.2)]; exact nxt_no l s v (fun e he => h e (List.mem_cons_of_mem _ he))
theorem next1_ok {b T : Nat} {n : Int} (e : Ed) (w : World) (hB : Blk w.heap b T [.int .i64 n]) :
    Ret Tryd.prog 107 ([.agg (edCells e).toArray] ++ [.pointer (some ⟨b, 0, none⟩)]) w fun r w' => r = .bool (decide (e.2.1 = n)) ∧ Step [] w w' := by
  refine Ret.of_W Tryd.func107 rfl Tryd.ntmps107 Tryd.results107 (by simp) ?_
  refine W_seq <| W_region (by rfl) ?_
  refine xl rfl <| o_box (us := edCells e) rfl fun b2 w1 hs1 hb2 hB2 => x r_assign <| xe ?_
  refine W_seq <| W_region (by rfl) ?_
  refine x (r_fieldB rfl) <| x (r_loadB hB2 rfl rfl) <| x (r_loadB (hB.ext hs1) rfl rfl) <| x (r_eql rfl rfl) <| x r_assign <| xe ?_
  exact W_ret ⟨[_], ⟨rfl, trivial⟩, rfl, hs1⟩
theorem anext_ok {L : List Nat} {w : World} {va vm ve : Value} {st : Int} {a : Aut} (h : Eds L w.heap ve a.ed) (ho : Okay a) (s v : Int) (hs0 : 0 ≤ s) (hs1 : s < a.st) :
    Ret Tryd.prog 101 [.agg #[va, .int .i64 st, vm, ve], .int .i64 s, .int .i64 v] w fun r w' => r = .int .i64 (nxt a.ed s v) ∧ Step [] w w' := by
  have hst := ho.st1
  refine Ret.of_W Tryd.func101 rfl Tryd.ntmps101 Tryd.results101 (by simp) ?_
  refine W_seq <| W_region (by rfl) ?_
  refine xl rfl <| o_box (us := [va, .int .i64 st, vm, ve]) rfl fun b3 w1 hs1 hb3 hB3 => xl rfl <| o_box (us := [.int .i64 v]) rfl fun b5 w2 hs2 hb5 hB5 => x r_assign <| xe ?_
  refine W_seq <| W_region (by rfl) ?_
  refine x (r_loadsB (hB3.ext hs2) rfl rfl) <| x r_move <| xl rfl <| xf <| (out_ok ((h.ext hs1).ext hs2) ho.eds (fun e he => ⟨(ho.ed e he).1, by have := (ho.ed e he).2.1; omega⟩) s hs0 (by omega)).mono ?_
  rintro vo w3 ⟨hs3, hE⟩
  refine x r_assign <| xe ?_
  have hall : ∀ e ∈ outE a.ed s, e.1 = s := fun e he => (outE_mem he).2
  rw [nxt_out]
  refine W_seq <| W_region (by rfl) ?_
  refine x r_move <| x (r_makeFunc (l := []) (l' := [.tmp 5])) <| xl rfl <| xf <| (ixfE_ok (q := fun e => decide (e.2.1 = v)) (cap := [.pointer (some ⟨b5, 0, none⟩)]) hE (fun e w4 hs4 => next1_ok e w4 ((hB5.ext hs3).ext hs4))).mono ?_
  rintro r4 w4 ⟨hs4, hr⟩
  have hW := ((hs1.trans hs2).trans hs3).trans hs4
  refine Or.elim hr (fun hr => ?_) (fun hr => ?_)
  · obtain ⟨rfl, hq⟩ := hr
    have e1 : nxt (outE a.ed s) s v = -1 := nxt_no _ _ _ fun e he => by
      obtain ⟨i, hi, rfl⟩ := List.getElem_of_mem he
      simpa using hq i hi
    rw [e1]
    refine x r_assign <| xe ?_
    refine W_seq <| W_seq <| W_region (by rfl) ?_
    refine x r_move <| x (r_lss rfl rfl) <| xe ?_
    refine W_true rfl ?_
    refine W_seq <| W_region (by rfl) ?_
    refine x r_assign <| xe ?_
    exact W_ret ⟨[.int .i64 (-1)], ⟨rfl, trivial⟩, rfl, hW⟩
  · obtain ⟨i, hi, rfl, h1, h2⟩ := hr
    have e1 : nxt (outE a.ed s) s v = ((outE a.ed s)[i]'hi).2.2 := nxt_at _ s v i hi hall (by simpa using h1) (fun m hm => by simpa using h2 m hm)
    rw [e1]
    refine x r_assign <| xe ?_
    refine W_seq <| W_seq <| W_region (by rfl) ?_
    refine x r_move <| x (r_lss rfl rfl) <| xe ?_
    refine W_if rfl (fun h16 => absurd h16 (by omega)) (fun h16 => ?_)
    refine W_skip ?_
    refine W_seq <| W_region (by rfl) ?_
    refine x r_move <| x r_move <| xie (hE.ext hs4) rfl rfl hi fun a19 h19 => x (r_field rfl) <| x (r_loadA (h19.fld 2 _ rfl) rfl) <| x r_assign <| xe ?_
    exact W_ret ⟨[_], ⟨rfl, trivial⟩, rfl, hW⟩

/-! ### follow -/
def flw (a : Aut) : Int → List Int → Int × Nat
  | s, [] => (s, 0)
  | s, v :: u => if nxt a.ed s v < 0 then (s, 0) else ((flw a (nxt a.ed s v) u).1, (flw a (nxt a.ed s v) u).2 + 1)
theorem flw_le (a : Aut) : ∀ (u : List Int) (s : Int), (flw a s u).2 ≤ u.length
  | [], s => by simp [flw]
  | v :: u, s => by
    rw [flw]
    split
    · simp
    · have := flw_le a u (nxt a.ed s v); simp; omega
theorem nxt_lt {a : Aut} (ho : Okay a) {s v : Int} (h : ¬ nxt a.ed s v < 0) : nxt a.ed s v < a.st := (ho.ed _ (nxt_mem (by omega))).2.2.2.2
theorem follow_ok {L L' : List Nat} {w : World} {va vm ve vw : Value} {st : Int} {a : Aut} {u : List Int} (h : Eds L w.heap ve a.ed) (hw : Ints L' w.heap vw u) (ho : Okay a) (s : Int) (hs0 : 0 ≤ s) (hs1 : s < a.st) :
    Ret Tryd.prog 86 [.agg #[va, .int .i64 st, vm, ve], .int .i64 s, vw] w fun r w' => r = .tuple #[.int .i64 (flw a s u).1, .int .i64 (flw a s u).2] ∧ Step [] w w' := by
  have hle := hw.le
  refine Ret.of_W Tryd.func86 rfl Tryd.ntmps86 Tryd.results86 (by simp) ?_
  refine W_seq <| W_region (by rfl) ?_
  refine xl rfl <| o_box (us := [va, .int .i64 st, vm, ve]) rfl fun b3 w1 hs1 hb3 hB3 => x r_assign <| x r_assign <| xe ?_
  refine W_seq <| W_seq <| W_region (by rfl) ?_
  refine x r_move <| x (r_lenA hw rfl) <| x r_move <| xe ?_
  refine W_block <| W_loop (α := Nat × Int) [(1, 1), (6, 10), (13, 27)] (fun z => [(1, .int .i64 z.2), (13, .int .i64 z.1)]) (fun z w' => z.1 ≤ u.length ∧ 0 ≤ z.2 ∧ z.2 < a.st ∧ Step [] w1 w' ∧ flw a s u = ((flw a z.2 (u.drop z.1)).1, (flw a z.2 (u.drop z.1)).2 + z.1)) (fun z => u.length - z.1) (by rfl) (0, s) ⟨rfl, rfl, trivial⟩ ⟨Nat.zero_le _, hs0, by assumption, Step.refl _ _, by simp⟩ ?_
  rintro ⟨k, t⟩ g w2 ⟨hk, ht0, ht1, hs2, hf⟩
  simp only [] at hk ht0 ht1 hf
  have hW2 := hs1.trans hs2
  refine W_seq <| W_region (by rfl) ?_
  refine x (r_lss rfl rfl) <| xe ?_
  refine W_seq <| W_ifn rfl (fun h14 => ?_) (fun h14 => ?_)
  · refine W_exit ?_
    refine W_seq <| W_region (by rfl) ?_
    refine x r_move <| x r_move <| x (r_lenA hw rfl) <| x r_assign <| x r_assign <| xe ?_
    rw [List.drop_of_length_le (by omega)] at hf
    have hk2 : k = u.length := by have h15 : ¬ (k : Int) < (u.length : Int) := h14; omega
    refine W_ret ⟨[.int .i64 t, .int .i64 u.length], ⟨rfl, rfl, trivial⟩, ?_, hW2⟩
    rw [hf, hk2]
    simp [flw, tup]
  have hlt : k < u.length := by omega
  rw [drop_cons hlt, flw] at hf
  refine W_skip ?_
  refine W_seq <| W_block <| W_seq <| W_region (by rfl) ?_
  refine x r_move <| xii (hw.ext hW2) rfl rfl hlt fun a16 h16 => x (r_loadA h16 rfl) <| x r_assign <| x r_assign <| xe ?_
  refine W_seq <| W_region (by rfl) ?_
  refine x (r_loadsB (hB3.ext hs2) rfl rfl) <| x r_move <| x r_move <| xl rfl <| xf <| (anext_ok (h.ext hW2) ho t (u[k]'hlt) ht0 ht1).mono ?_
  rintro r3 w3 ⟨rfl, hs3⟩
  refine x r_assign <| xe ?_
  refine W_seq <| W_seq <| W_region (by rfl) ?_
  refine x r_move <| x (r_lss rfl rfl) <| xe ?_
  refine W_if rfl (fun h23 => ?_) (fun h23 => ?_)
  · rw [if_pos h23] at hf
    refine W_seq <| W_region (by rfl) ?_
    refine x r_move <| x r_move <| x r_assign <| x r_assign <| xe ?_
    refine W_ret ⟨[.int .i64 t, .int .i64 k], ⟨rfl, rfl, trivial⟩, ?_, hW2.trans hs3⟩
    rw [hf]
    simp [tup]
  rw [if_neg h23] at hf
  have hn := nxt_lt ho h23
  refine W_skip ?_
  refine W_region (by rfl) ?_
  refine x r_move <| x r_assign <| xe ?_
  refine W_region (by rfl) ?_
  refine x (r_add rfl rfl ⟨by omega, by omega⟩) <| x r_move <| xe ?_
  refine ⟨(k + 1, nxt a.ed t (u[k]'hlt)), by simp only []; omega, ⟨rfl, rfl, trivial⟩, hlt, by simp only []; omega, hn, hs2.trans hs3, ?_⟩
  simp only []
  rw [hf]
  simp; omega
/-! ### reached, Generates, Accepts -/
def rchd (a : Aut) (u : List Int) : Int × Bool := if a.st = 0 then (0, false) else ((flw a 0 u).1, decide (((flw a 0 u).2 : Int) = (u.length : Int)))
theorem reached_ok {L L' : List Nat} {w : World} {va vm ve vw : Value} {a : Aut} {u : List Int} (h : Eds L w.heap ve a.ed) (hw : Ints L' w.heap vw u) (ho : Okay a) :
    Ret Tryd.prog 82 [.agg #[va, .int .i64 a.st, vm, ve], vw] w fun r w' => r = .tuple #[.int .i64 (rchd a u).1, .bool (rchd a u).2] ∧ Step [] w w' := by
  have h0 := ho.st0
  refine Ret.of_W Tryd.func82 rfl Tryd.ntmps82 Tryd.results82 (by simp) ?_
  refine W_seq <| W_region (by rfl) ?_
  refine xl rfl <| o_box (us := [va, .int .i64 a.st, vm, ve]) rfl fun b2 w1 hs1 hb2 hB2 => x r_assign <| x r_assign <| xe ?_
  refine W_seq <| W_seq <| W_region (by rfl) ?_
  refine x (r_fieldB rfl) <| x (r_loadB hB2 rfl rfl) <| x (r_eql rfl rfl) <| xe ?_
  unfold rchd
  refine W_if rfl (fun h10 => ?_) (fun h10 => ?_)
  · refine W_seq <| W_region (by rfl) ?_
    refine x r_assign <| x r_assign <| xe ?_
    exact W_ret ⟨[.int .i64 0, .bool false], ⟨rfl, rfl, trivial⟩, by rw [if_pos h10]; rfl, hs1⟩
  rw [if_neg h10]
  refine W_skip ?_
  refine W_seq <| W_region (by rfl) ?_
  refine x (r_loadsB hB2 rfl rfl) <| x r_move <| xl rfl <| xf <| (follow_ok (h.ext hs1) (hw.ext hs1) ho 0 (by omega) (by omega)).mono ?_
  rintro r2 w2 ⟨rfl, hs2⟩
  refine x r_move <| x (r_extract rfl rfl) <| x (r_extract rfl rfl) <|
    x r_assign <| x r_assign <| xe ?_
  refine W_seq <| W_region (by rfl) ?_
  refine x r_move <| x r_move <| x r_move <| x (r_lenA hw rfl) <| x (r_eql rfl rfl) <| x r_assign <| x r_assign <| xe ?_
  exact W_ret ⟨[_, _], ⟨rfl, rfl, trivial⟩, rfl, hs1.trans hs2⟩
def gens (a : Aut) (u : List Int) : Bool := if ckA a ≠ 0 then false else (rchd a u).2
theorem Generates_ok {L L' : List Nat} {w : World} {va vm ve vw : Value} {a : Aut} {u : List Int} (h : AutA L w.heap va vm ve a) (hw : Ints L' w.heap vw u) :
    Ret Tryd.prog 57 [.agg #[va, .int .i64 a.st, vm, ve], vw] w fun r w' => r = .tuple #[.bool (gens a u), .int .i64 (ckA a)] ∧ Step [] w w' := by
  refine Ret.of_W Tryd.func57 rfl Tryd.ntmps57 Tryd.results57 (by simp) ?_
  refine W_seq <| W_region (by rfl) ?_
  refine xl rfl <| o_box (us := [va, .int .i64 a.st, vm, ve]) rfl fun b2 w1 hs1 hb2 hB2 => x r_assign <| x r_assign <| xe ?_
  refine W_seq <| W_seq <| W_region (by rfl) ?_
  refine x (r_loadsB hB2 rfl rfl) <| xl rfl <| xf <| (check_ok (h.ext hs1)).mono ?_
  rintro r2 w2 ⟨rfl, hs2⟩
  refine x r_assign <| xe ?_
  refine W_seq <| W_region (by rfl) ?_
  refine x r_move <| x (r_neq rfl rfl) <| xe ?_
  unfold gens
  refine W_if rfl (fun h12 => ?_) (fun h12 => ?_)
  · refine W_seq <| W_region (by rfl) ?_
    refine x r_move <| x r_assign <| x r_assign <| xe ?_
    exact W_ret ⟨[_, _], ⟨rfl, rfl, trivial⟩, by rw [if_pos h12]; rfl, hs1.trans hs2⟩
  have hc : ckA a = 0 := Decidable.not_not.1 h12
  rw [if_neg h12, hc]
  have hs12 := hs1.trans hs2
  refine W_skip ?_
  refine W_seq <| W_region (by rfl) ?_
  refine x (r_loadsB (hB2.ext hs2) rfl rfl) <| x r_move <| xl rfl <| xf <| (reached_ok (h.ed.ext hs12) (hw.ext hs12) ((ckA_zero a).1 hc)).mono ?_
  rintro r3 w3 ⟨rfl, hs3⟩
  refine x r_move <| x (r_extract rfl rfl) <|
    x (r_extract rfl rfl) <| x r_assign <| x r_assign <| xe ?_
  refine W_seq <| W_region (by rfl) ?_
  refine x r_move <| x r_assign <| x r_assign <| xe ?_
  exact W_ret ⟨[_, _], ⟨rfl, rfl, trivial⟩, rfl, hs12.trans hs3⟩
def accs (a : Aut) (u : List Int) : Bool := if ckA a ≠ 0 then false else (rchd a u).2 && decide ((rchd a u).1 ∈ a.mr)
theorem Accepts_ok {L L' : List Nat} {w : World} {va vm ve vw : Value} {a : Aut} {u : List Int} (h : AutA L w.heap va vm ve a) (hw : Ints L' w.heap vw u) :
    Ret Tryd.prog 62 [.agg #[va, .int .i64 a.st, vm, ve], vw] w fun r w' => r = .tuple #[.bool (accs a u), .int .i64 (ckA a)] ∧ Step [] w w' := by
  refine Ret.of_W Tryd.func62 rfl Tryd.ntmps62 Tryd.results62 (by simp) ?_
  refine W_seq <| W_region (by rfl) ?_
  refine xl rfl <| o_box (us := [va, .int .i64 a.st, vm, ve]) rfl fun b2 w1 hs1 hb2 hB2 => x r_assign <| x r_assign <| xe ?_
  refine W_seq <| W_seq <| W_region (by rfl) ?_
  refine x (r_loadsB hB2 rfl rfl) <| xl rfl <| xf <| (check_ok (h.ext hs1)).mono ?_
  rintro r2 w2 ⟨rfl, hs2⟩
  refine x r_assign <| xe ?_
  refine W_seq <| W_region (by rfl) ?_
  refine x r_move <| x (r_neq rfl rfl) <| xe ?_
  unfold accs
  refine W_if rfl (fun h12 => ?_) (fun h12 => ?_)
  · refine W_seq <| W_region (by rfl) ?_
    refine x r_move <| x r_assign <| x r_assign <| xe ?_
    exact W_ret ⟨[_, _], ⟨rfl, rfl, trivial⟩, by rw [if_pos h12]; rfl, hs1.trans hs2⟩
  have hc : ckA a = 0 := Decidable.not_not.1 h12
  rw [if_neg h12, hc]
  have hs12 := hs1.trans hs2
  refine W_skip ?_
  refine W_seq <| W_region (by rfl) ?_
  refine x (r_loadsB (hB2.ext hs2) rfl rfl) <| x r_move <| xl rfl <| xf <| (reached_ok (h.ed.ext hs12) (hw.ext hs12) ((ckA_zero a).1 hc)).mono ?_
  rintro r3 w3 ⟨hr3, hs3⟩
  have hs13 := hs12.trans hs3
  have hB23 := (hB2.ext hs2).ext hs3
  refine exE (rchd a u) fun z hz => ?_
  rw [hz] at hr3 ⊢
  obtain ⟨t, b⟩ := z
  subst hr3
  refine x r_move <| x (r_extract rfl rfl) <|
    x (r_extract rfl rfl) <| x r_assign <| x r_assign <| xe ?_
  cases b with
  | false =>
    refine W_seq <| W_region (by rfl) ?_
    refine x r_move <| x r_move <| xs rfl <| xs rfl <| xs rfl <| xs rfl <|
      x (r_pick rfl) <| x r_assign <| x r_assign <| xe ?_
    exact W_ret ⟨[_, _], ⟨rfl, rfl, trivial⟩, rfl, hs13⟩
  | true =>
    refine W_seq <| W_region (by rfl) ?_
    refine x r_move <| x r_move <| x (r_fieldB rfl) <| x (r_loadB hB23 rfl rfl) <| x r_move <| xl rfl <| xf <| (contains_ok (h.mr.ext hs13) t).mono ?_
    rintro r4 w4 ⟨rfl, rfl⟩
    refine x (r_pick rfl) <| x r_assign <| x r_assign <| xe ?_
    exact W_ret ⟨[_, _], ⟨rfl, rfl, trivial⟩, rfl, hs13⟩
end Go.Proofs.YtfhgnlkdcdlblaaDoor
/- Contracts: automaton.checkState, Run, Enabled; product.checkTuple, checkEvent, Step. -/
namespace Go.Proofs.YtfhgnlkdcdlblaaDoor
open Go.Lg

def cks (a : Aut) (s : Int) : Int := if ckA a ≠ 0 then ckA a else if s < 0 ∨ a.st ≤ s then 2 else 0
theorem checkState_ok {L : List Nat} {w : World} {va vm ve : Value} {a : Aut} (h : AutA L w.heap va vm ve a) (s : Int) :
    Ret Tryd.prog 83 [.agg #[va, .int .i64 a.st, vm, ve], .int .i64 s] w fun r w' => r = .int .i64 (cks a s) ∧ Step [] w w' := by
  refine Ret.of_W Tryd.func83 rfl Tryd.ntmps83 Tryd.results83 (by simp) ?_
  refine W_seq <| W_region (by rfl) ?_
  refine xl rfl <| o_box (us := [va, .int .i64 a.st, vm, ve]) rfl fun b2 w1 hs1 hb2 hB2 => x r_assign <| xe ?_
  refine W_seq <| W_seq <| W_region (by rfl) ?_
  refine x (r_loadsB hB2 rfl rfl) <| xl rfl <| xf <| (check_ok (h.ext hs1)).mono ?_
  rintro r2 w2 ⟨rfl, hs2⟩
  refine x r_assign <| xe ?_
  unfold cks
  have hs12 := hs1.trans hs2
  refine W_seq <| W_region (by rfl) ?_
  refine x r_move <| x (r_neq rfl rfl) <| xe ?_
  refine W_if rfl (fun h9 => ?_) (fun h9 => ?_)
  · refine W_seq <| W_region (by rfl) ?_
    refine x r_move <| x r_assign <| xe ?_
    exact W_ret ⟨[_], ⟨rfl, trivial⟩, by rw [if_pos h9]; rfl, hs12⟩
  rw [if_neg h9]
  refine W_skip ?_
  refine W_seq <| W_cut (α := Unit) [(11, 18)] (fun z => [(18, .bool (decide (s < 0 ∨ a.st ≤ s)))]) (fun z w' => w' = w2) (by rfl) ?_ ?_
  · refine W_region (by rfl) ?_
    refine x r_move <| xb (r_lss rfl rfl) (fun h12 => ?_) (fun h12 => ?_)
    · refine x r_move <| xs rfl <| xs rfl <| xs rfl <| xs rfl <| x (r_pick rfl) <| xe ?_
      exact ⟨(), ⟨by rw [decide_eq_true (Or.inl h12)]; rfl, trivial⟩, rfl⟩
    refine x r_move <| x r_move <| x (r_fieldB rfl) <| x (r_loadB (hB2.ext hs2) rfl rfl) <| x (r_geq rfl rfl) <| x (r_pick rfl) <| xe ?_
    exact ⟨(), ⟨by show Value.bool (decide (a.st ≤ s)) = _; simp [h12], trivial⟩, rfl⟩
  rintro z g w3 rfl
  refine W_if rfl (fun h18 => ?_) (fun h18 => ?_)
  · refine W_seq <| W_region (by rfl) ?_
    refine x r_assign <| xe ?_
    exact W_ret ⟨[_], ⟨rfl, trivial⟩, by rw [if_pos h18]; rfl, hs12⟩
  refine W_skip ?_
  refine W_seq <| W_region (by rfl) ?_
  refine x r_assign <| xe ?_
  exact W_ret ⟨[_], ⟨rfl, trivial⟩, by rw [if_neg h18]; rfl, hs12⟩
theorem cks_zero {a : Aut} {s : Int} (h : cks a s = 0) : Okay a ∧ 0 ≤ s ∧ s < a.st := by
  unfold cks at h
  split at h
  · rename_i h1; exact absurd h h1
  · rename_i h1
    split at h
    · cases h
    · rename_i h2; exact ⟨(ckA_zero a).1 (Decidable.not_not.1 h1), by omega, by omega⟩
theorem cks_ok {a : Aut} (ho : Okay a) {s : Int} (h0 : 0 ≤ s) (h1 : s < a.st) : cks a s = 0 := by
  unfold cks
  rw [if_neg (by simpa using (ckA_zero a).2 ho), if_neg (by omega)]

theorem run1_ok {L : List Nat} {b T : Nat} {va : Value} {al : List Int} {us : List Value} (e : Int) (w : World) (hB : Blk w.heap b T (va :: us)) (hA : Ints L w.heap va al) :
    Ret Tryd.prog 85 ([.int .i64 e] ++ [.pointer (some ⟨b, 0, none⟩)]) w fun r w' => r = .bool (decide (e ∉ al)) ∧ Step [] w w' := by
  refine Ret.of_W Tryd.func85 rfl Tryd.ntmps85 Tryd.results85 (by simp) ?_
  refine W_seq <| W_region (by rfl) ?_
  refine x r_assign <| xe ?_
  refine W_seq <| W_region (by rfl) ?_
  refine x (r_fieldB rfl) <| x (r_loadB hB rfl rfl) <| x r_move <| xl rfl <| xf <| (contains_ok hA e).mono ?_
  rintro r1 w1 ⟨rfl, rfl⟩
  refine x (r_not rfl) <| x r_assign <| xe ?_
  refine W_ret ⟨[_], ⟨rfl, trivial⟩, ?_, Step.refl _ _⟩
  show Value.bool (!decide (e ∈ al)) = _
  rw [decide_not]
def runE (a : Aut) (s : Int) (u : List Int) : Int := if cks a s ≠ 0 then cks a s else if (u.any fun e => decide (e ∉ a.al)) = true then 9 else 0
theorem Run_ok {L L' : List Nat} {w : World} {va vm ve vw : Value} {a : Aut} {u : List Int} (h : AutA L w.heap va vm ve a) (hw : Ints L' w.heap vw u) (s : Int) :
    Ret Tryd.prog 58 [.agg #[va, .int .i64 a.st, vm, ve], .int .i64 s, vw] w fun r w' => Step [] w w' ∧ r = if runE a s u ≠ 0 then .tuple #[.int .i64 0, .int .i64 0, .int .i64 (runE a s u)] else .tuple #[.int .i64 (flw a s u).1, .int .i64 (flw a s u).2, .int .i64 0] := by
  refine Ret.of_W Tryd.func58 rfl Tryd.ntmps58 Tryd.results58 (by simp) ?_
  refine W_seq <| W_region (by rfl) ?_
  refine xl rfl <| o_box (us := [va, .int .i64 a.st, vm, ve]) rfl fun b3 w1 hs1 hb3 hB3 => x r_assign <| x r_assign <| x r_assign <| xe ?_
  refine W_seq <| W_seq <| W_region (by rfl) ?_
  refine x (r_loadsB hB3 rfl rfl) <| x r_move <| xl rfl <| xf <| (checkState_ok (h.ext hs1) s).mono ?_
  rintro r2 w2 ⟨rfl, hs2⟩
  refine x r_assign <| xe ?_
  have hs12 := hs1.trans hs2
  unfold runE
  refine W_seq <| W_region (by rfl) ?_
  refine x r_move <| x (r_neq rfl rfl) <| xe ?_
  refine W_if rfl (fun h13 => ?_) (fun h13 => ?_)
  · refine W_seq <| W_region (by rfl) ?_
    refine x r_move <| x r_assign <| x r_assign <| x r_assign <| xe ?_
    exact W_ret ⟨[_, _, _], ⟨rfl, rfl, rfl, trivial⟩, hs12, by rw [if_pos h13, if_pos h13]; rfl⟩
  have hc : cks a s = 0 := Decidable.not_not.1 h13
  obtain ⟨ho, h0, h1⟩ := cks_zero hc
  rw [if_neg h13]
  refine W_skip ?_
  refine W_seq <| W_seq <| W_region (by rfl) ?_
  refine x r_move <| x (r_makeFunc (l := []) (l' := [.tmp 3])) <| xl rfl <| xf <| (cnfI_ok (q := fun e => decide (e ∉ a.al)) (cap := [.pointer (some ⟨b3, 0, none⟩)]) (hw.ext hs12) (fun e w4 hs4 => run1_ok e w4 ((hB3.ext hs2).ext hs4) ((h.al.ext hs12).ext hs4))).mono ?_
  rintro r3 w3 ⟨rfl, hs3⟩
  refine xe ?_
  have hs13 := hs12.trans hs3
  refine W_cond rfl (fun h17 => ?_) (fun h17 => ?_)
  · rw [if_pos h17]
    refine W_seq <| W_region (by rfl) ?_
    refine x r_assign <| x r_assign <| x r_assign <| xe ?_
    exact W_ret ⟨[_, _, _], ⟨rfl, rfl, rfl, trivial⟩, hs13, by rw [if_pos (by decide)]; rfl⟩
  rw [if_neg (by rw [h17]; simp)]
  refine W_skip ?_
  refine W_seq <| W_region (by rfl) ?_
  refine x (r_loadsB ((hB3.ext hs2).ext hs3) rfl rfl) <| x r_move <| x r_move <| xl rfl <| xf <| (follow_ok (h.ed.ext hs13) (hw.ext hs13) ho s h0 h1).mono ?_
  rintro r4 w4 ⟨rfl, hs4⟩
  refine x r_move <| x (r_extract rfl rfl) <|
    x (r_extract rfl rfl) <| x r_assign <| x r_assign <| xe ?_
  refine W_seq <| W_region (by rfl) ?_
  refine x r_move <| x r_move <| x r_assign <| x r_assign <| x r_assign <| xe ?_
  exact W_ret ⟨[_, _, _], ⟨rfl, rfl, rfl, trivial⟩, hs13.trans hs4, rfl⟩

/-! ### Enabled -/
def enb (a : Aut) (s : Int) : List Int := (outE a.ed s).map (·.2.1)
theorem enb_take {l : List Ed} {k : Nat} (h : k < l.length) : (l.take (k + 1)).map (·.2.1) = (l.take k).map (·.2.1) ++ [(l[k]'h).2.1] := by
  rw [List.take_add_one, List.getElem?_eq_getElem h, List.map_append]; rfl
theorem Enabled_ok {L : List Nat} {w : World} {va vm ve : Value} {a : Aut} (h : AutA L w.heap va vm ve a) (s : Int) :
    Ret Tryd.prog 59 [.agg #[va, .int .i64 a.st, vm, ve], .int .i64 s] w fun r w' => Step [] w w' ∧ ∃ v, r = .tuple #[v, .int .i64 (cks a s)] ∧ (cks a s ≠ 0 → v = nilS) ∧ (cks a s = 0 → IntsO 3 w.heap.size w' v (enb a s)) := by
  refine Ret.of_W Tryd.func59 rfl Tryd.ntmps59 Tryd.results59 (by simp) ?_
  refine W_seq <| W_region (by rfl) ?_
  refine xl rfl <| o_box (us := [va, .int .i64 a.st, vm, ve]) rfl fun b2 w1 hs1 hb2 hB2 => x r_assign <| x r_assign <| xe ?_
  refine W_seq <| W_seq <| W_region (by rfl) ?_
  refine x (r_loadsB hB2 rfl rfl) <| x r_move <| xl rfl <| xf <| (checkState_ok (h.ext hs1) s).mono ?_
  rintro r2 w2 ⟨rfl, hs2⟩
  refine x r_assign <| xe ?_
  have hs12 := hs1.trans hs2
  refine W_seq <| W_region (by rfl) ?_
  refine x r_move <| x (r_neq rfl rfl) <| xe ?_
  refine W_if rfl (fun h14 => ?_) (fun h14 => ?_)
  · refine W_seq <| W_region (by rfl) ?_
    refine x r_move <| x r_assign <| x r_assign <| xe ?_
    exact W_ret ⟨[nilS, _], ⟨rfl, rfl, trivial⟩, hs12, nilS, rfl, fun _ => rfl, fun e => absurd e h14⟩
  have hc : cks a s = 0 := Decidable.not_not.1 h14
  obtain ⟨ho, h0, h1⟩ := cks_zero hc
  have hst := ho.st1
  rw [hc]
  refine W_skip ?_
  refine W_seq <| W_region (by rfl) ?_
  refine x r_assign <| xe ?_
  refine W_seq <| W_seq <| W_region (by rfl) ?_
  refine x (r_loadsB (hB2.ext hs2) rfl rfl) <| x r_move <| xl rfl <| xf <| (out_ok (h.ed.ext hs12) ho.eds (fun e he => ⟨(ho.ed e he).1, by have := (ho.ed e he).2.1; omega⟩) s h0 (by omega)).mono ?_
  rintro vo w3 ⟨hs3, hE⟩
  refine x (r_lenA hE rfl) <| x r_move <| xe ?_
  have hW3 := hs12.trans hs3
  have hz3 := hW3.size
  have hlen := outE_len a.ed s
  have hel := ho.ed_le
  refine exE (outE a.ed s) fun os hos => ?_
  rw [hos] at hE hlen
  refine W_block <| W_loop (α := Nat × Value) [(7, 7), (9, 9), (20, 29)] (fun z => [(7, z.2), (20, .int .i64 z.1)]) (fun z w' => z.1 ≤ os.length ∧ Step [] w3 w' ∧ IntsO 3 w3.heap.size w' z.2 ((os.take z.1).map (·.2.1))) (fun z => os.length - z.1) (by rfl) (0, .slice none 0 0) ⟨rfl, by rw [hos]; rfl, trivial⟩ ⟨Nat.zero_le _, Step.refl _ _, own_nil _ _ _ _⟩ ?_
  rintro ⟨k, v⟩ g w4 ⟨hk, hs4, ho4⟩
  simp only [] at hk ho4
  have hz4 := hs4.size
  refine W_seq <| W_region (by rfl) ?_
  refine x (r_lss rfl rfl) <| xe ?_
  refine W_seq <| W_ifn rfl (fun h21 => ?_) (fun h21 => ?_)
  · refine W_exit ?_
    refine W_seq <| W_region (by rfl) ?_
    refine x r_move <| x r_assign <| x r_assign <| xe ?_
    rw [List.take_of_length_le (by rw [hos] at h21; omega)] at ho4
    refine W_ret ⟨[v, _], ⟨rfl, rfl, trivial⟩, hW3.trans hs4, v, rfl, fun e => absurd rfl e, fun _ => ?_⟩
    unfold enb
    rw [hos]; exact own_base ho4 hz3
  have hlt : k < os.length := by rw [hos] at h21; omega
  refine W_skip ?_
  refine W_seq <| W_block <| W_seq <| W_region (by rfl) ?_
  refine xie (hE.ext hs4) rfl rfl hlt fun a22 h22 => x (r_loadsA h22 rfl rfl) <| xl rfl <| o_alloc (us := [.int .i64 0, .int .i64 0, .int .i64 0]) rfl fun b9 w5 hs5 hb9 hB9 => xl rfl <| o_stores (us := edCells (os[k]'hlt)) hB9 rfl rfl rfl rfl ⟨rfl, rfl, rfl, trivial⟩ fun w6 hs6 hB96 =>
    xe ?_
  have hs46 : Step [] w4 w6 := hs5.then1 hs6 hb9
  have ho6 := own_ext ho4 hs46
  refine W_region (by rfl) ?_
  refine x r_move <| x (r_fieldB rfl) <| x (r_loadB hB96 rfl rfl) <| xl rfl <| o_lits (us := [[.int .i64 (os[k]'hlt).2.1]]) rfl rfl (by decide) (by simp) ⟨rfl, rfl, trivial⟩ fun b27 w7 hs7 hb27 hB27 => ?_
  have ho7 := own_ext ho6 hs7
  have hz7 := (hs46.trans hs7).size
  have htl : ((os.take k).map (·.2.1)).length ≤ 131072 := by simp; omega
  refine xl rfl <| o_app (news := [.int .i64 (os[k]'hlt).2.1]) (L := []) ho7 rfl rfl rfl (hB27.at (by simp)) (by simp [Value.oneCell']) (by omega) (by omega) fun v8 w8 ho8 hs8 hn8 => x r_assign <| xe ?_
  have hge := own_ge ho4
  refine W_region (by rfl) ?_
  refine x (r_add rfl rfl ⟨by omega, by omega⟩) <| x r_move <| xe ?_
  refine ⟨(k + 1, v8), by simp only []; omega, ⟨rfl, rfl, trivial⟩, hlt, ((hs4.trans hs46).trans hs7).then hs8 (fun b hb => .inr (hge b hb).1), ?_⟩
  simp only []
  rw [enb_take hlt]
  exact IntsO.snoc ho8

/-! ### product.checkTuple, checkEvent, Step -/
def ckTL : List Aut → List Int → Int
  | a :: l, t :: ts => if t < 0 ∨ a.st ≤ t then 2 else ckTL l ts
  | _, _ => 0
def ckT (l : List Aut) (t : List Int) : Int := if ckP l ≠ 0 then ckP l else if t.length ≠ l.length then 4 else ckTL l t
theorem checkTuple_ok {L L' : List Nat} {w : World} {v vt : Value} {ps : List AV} {ts : List Int} (h : Auts L w.heap v ps) (ht : Ints L' w.heap vt ts) :
    Ret Tryd.prog 88 [v, vt] w fun r w' => r = .int .i64 (ckT (ps.map (·.a)) ts) ∧ Step [] w w' := by
  have hle := Auts.le h
  have hle2 := ht.le
  refine Ret.of_W Tryd.func88 rfl Tryd.ntmps88 Tryd.results88 (by simp) ?_
  refine W_seq <| W_region (by rfl) ?_
  refine x r_assign <| xe ?_
  refine W_seq <| W_seq <| W_region (by rfl) ?_
  refine x r_move <| xl rfl <| xf <| (pCheck_ok h).mono ?_
  rintro r1 w1 ⟨rfl, hs1⟩
  refine x r_assign <| xe ?_
  unfold ckT
  refine W_seq <| W_region (by rfl) ?_
  refine x r_move <| x (r_neq rfl rfl) <| xe ?_
  refine W_if rfl (fun h11 => ?_) (fun h11 => ?_)
  · refine W_seq <| W_region (by rfl) ?_
    refine x r_move <| x r_assign <| xe ?_
    exact W_ret ⟨[_], ⟨rfl, trivial⟩, by rw [if_pos h11]; rfl, hs1⟩
  rw [if_neg h11]
  refine W_skip ?_
  refine W_seq <| W_seq <| W_region (by rfl) ?_
  refine x r_move <| x (r_lenA ht rfl) <| x r_move <| x (r_lenA h.arr rfl) <| x (r_neq rfl rfl) <| xe ?_
  refine W_if rfl (fun h17 => ?_) (fun h17 => ?_)
  · refine W_seq <| W_region (by rfl) ?_
    refine x r_assign <| xe ?_
    exact W_ret ⟨[_], ⟨rfl, trivial⟩, by rw [if_pos (by rw [List.length_map]; omega)]; rfl, hs1⟩
  have hl : ts.length = ps.length := by omega
  rw [if_neg (by rw [List.length_map]; omega)]
  refine W_skip ?_
  refine W_seq <| W_seq <| W_region (by rfl) ?_
  refine x r_move <| x (r_lenA h.arr rfl) <| x r_move <| xe ?_
  refine W_block <| W_loop (α := Nat) [(4, 4), (6, 7), (20, 39)] (fun z => [(20, .int .i64 z)]) (fun z w' => z ≤ ps.length ∧ Step [] w1 w' ∧ ckTL (ps.map (·.a)) ts = ckTL ((ps.drop z).map (·.a)) (ts.drop z)) (fun z => ps.length - z) (by rfl) 0 ⟨rfl, trivial⟩ ⟨Nat.zero_le _, Step.refl _ _, rfl⟩ ?_
  rintro k g w2 ⟨hk, hs2, hr⟩
  have hW2 := hs1.trans hs2
  refine W_seq <| W_region (by rfl) ?_
  refine x (r_lss rfl rfl) <| xe ?_
  refine W_seq <| W_ifn rfl (fun h21 => ?_) (fun h21 => ?_)
  · refine W_exit ?_
    refine W_seq <| W_region (by rfl) ?_
    refine x r_assign <| xe ?_
    refine W_ret ⟨[_], ⟨rfl, trivial⟩, ?_, hW2⟩
    rw [hr, List.drop_of_length_le (by omega)]; rfl
  have hlt : k < ps.length := by omega
  have hlt' : k < ts.length := by omega
  rw [drop_cons hlt, drop_cons hlt', List.map_cons, ckTL] at hr
  have hA := h.each _ (List.getElem_mem hlt)
  refine exE (ps[k]'hlt) fun pk hpk => ?_
  rw [hpk] at hA hr
  refine W_skip ?_
  refine W_seq <| W_block <| W_seq <| W_region (by rfl) ?_
  refine x r_move <| xig av_len (h.arr.ext hW2) rfl rfl hlt fun a23 h23 => ?_
  rw [hpk] at h23
  refine x (r_loadsA h23 rfl rfl) <| xl rfl <| o_alloc (us := [.slice none 0 0, .int .i64 0, .slice none 0 0, .slice none 0 0]) rfl fun b7 w3 hs3 hb7 hB7 => x r_assign <|
    xl rfl <| o_stores (us := avCells pk) hB7 rfl rfl rfl rfl ⟨hA.al.one, rfl, hA.mr.one, hA.ed.one, trivial⟩ fun w4 hs4 hB74 => xe ?_
  have hs24 : Step [] w2 w4 := hs3.then1 hs4 hb7
  have hW4 := hW2.trans hs24
  refine exE (ts[k]'hlt') fun tk htk => ?_
  rw [htk] at hr
  refine W_cut (α := Unit) [(25, 38)] (fun z => [(38, .bool (decide (tk < 0 ∨ pk.a.st ≤ tk)))]) (fun z w' => Step [] w4 w') (by rfl) ?_ ?_
  · refine W_draw (Step [] w4) [(0, true), (1, true), (2, true), (3, true), (4, true), (5, true), (6, true), (7, true), (8, true), (9, true), (10, true), (11, true), (12, true), (13, true)] Tryd.mixed (by rfl) (by kernel_rfl) (Step.drew _ _) ?_
    refine p (fun _ => r_move) <| p (fun _ => r_move) <| pii rfl (ht.ext hW4) rfl rfl hlt' fun a27 h27 => ?_
    rw [htk] at h27
    refine pq (fun _ hc => r_loadA (h27.ext hc) rfl) <|
      pb (fun _ => r_lss rfl rfl) (fun h29 => ?_) (fun h29 => ?_)
    · refine p (fun _ => r_move) <| Lg.ps <| Lg.ps <| Lg.ps <| Lg.ps <| Lg.ps <| Lg.ps <| Lg.ps <| p (fun _ => r_pick rfl) <| pe ?_
      exact ⟨(), ⟨by rw [decide_eq_true (Or.inl h29)]; rfl, trivial⟩, Step.drew _ _⟩
    refine p (fun _ => r_move) <| p (fun _ => r_move) <| p (fun _ => r_move) <| pii rfl (ht.ext hW4) rfl rfl hlt' fun a33 h33 => ?_
    rw [htk] at h33
    refine pq (fun _ hc => r_loadA (h33.ext hc) rfl) <|
      p (fun _ => r_fieldB rfl) <| pq (fun _ hc => r_loadB (hB74.ext hc) rfl rfl) <| p (fun _ => r_geq rfl rfl) <| p (fun _ => r_pick rfl) <| pe ?_
    exact ⟨(), ⟨by show Value.bool (decide (pk.a.st ≤ tk)) = _; simp [h29], trivial⟩, Step.drew _ _⟩
  rintro z g w5 hs5
  refine W_if rfl (fun h38 => ?_) (fun h38 => ?_)
  · refine W_seq <| W_region (by rfl) ?_
    refine x r_assign <| xe ?_
    exact W_ret ⟨[_], ⟨rfl, trivial⟩, by rw [hr, if_pos h38]; rfl, hW4.trans hs5⟩
  refine W_skip ?_
  refine W_region (by rfl) ?_
  refine x (r_add rfl rfl ⟨by omega, by omega⟩) <| x r_move <| xe ?_
  exact ⟨k + 1, by omega, ⟨rfl, trivial⟩, hlt, (hs2.trans hs24).trans hs5, by rw [hr, if_neg h38]⟩
theorem ckP_zero {l : List Aut} (h : ckP l = 0) : l.length ≤ 12 ∧ ∀ a ∈ l, Okay a := by
  unfold ckP at h
  split at h
  · cases h
  · rename_i h1; exact ⟨by omega, (ckL_zero l).1 h⟩
theorem ckTL_zero : ∀ {l : List Aut} {t : List Int}, t.length = l.length → (ckTL l t = 0 ↔ Vt l t)
  | [], t, hl => by
    have : t = [] := List.eq_nil_of_length_eq_zero hl
    subst this
    exact ⟨fun _ => ⟨rfl, fun i h => by simp at h⟩, fun _ => rfl⟩
  | a :: l, [], hl => by simp at hl
  | a :: l, t :: ts, hl => by
    rw [ckTL]
    have ih := ckTL_zero (l := l) (t := ts) (by simpa using hl)
    constructor
    · intro h
      split at h
      · cases h
      · rename_i h1
        exact Vt.cons (by omega) (by omega) (ih.1 h)
    · intro h
      have h0 := h.2 0 (by simp) (by simp)
      simp only [List.getElem_cons_zero] at h0
      rw [if_neg (by omega), ih]
      exact ⟨by simpa using hl, fun i h2 h3 => h.2 (i + 1) (by simpa using h2) (by simpa using h3)⟩
theorem ckT_zero {l : List Aut} {t : List Int} (h : ckT l t = 0) : l.length ≤ 12 ∧ (∀ a ∈ l, Okay a) ∧ Vt l t := by
  unfold ckT at h
  split at h
  · rename_i h1; exact absurd h h1
  · rename_i h1
    split at h
    · cases h
    · rename_i h2
      obtain ⟨h3, h4⟩ := ckP_zero (Decidable.not_not.1 h1)
      exact ⟨h3, h4, (ckTL_zero (by omega)).1 h⟩
theorem ckT_ok {l : List Aut} {t : List Int} (hn : l.length ≤ 12) (ho : ∀ a ∈ l, Okay a) (hv : Vt l t) : ckT l t = 0 := by
  have h1 : ckP l = 0 := by unfold ckP; rw [if_neg (by omega)]; exact (ckL_zero l).2 ho
  unfold ckT
  rw [if_neg (by simp [h1]), if_neg (by simp [hv.1])]
  exact (ckTL_zero hv.1).2 hv
def ckV (l : List Aut) (t : List Int) (v : Int) : Int := if ckT l t ≠ 0 then ckT l t else if v ∉ evs l then 9 else 0
theorem checkEvent_ok {L L' : List Nat} {w : World} {v vt : Value} {ps : List AV} {ts : List Int} (h : Auts L w.heap v ps) (ht : Ints L' w.heap vt ts) (e : Int) :
    Ret Tryd.prog 61 [v, vt, .int .i64 e] w fun r w' => r = .int .i64 (ckV (ps.map (·.a)) ts e) ∧ Step [] w w' := by
  refine Ret.of_W Tryd.func61 rfl Tryd.ntmps61 Tryd.results61 (by simp) ?_
  refine W_seq <| W_region (by rfl) ?_
  refine x r_assign <| xe ?_
  refine W_seq <| W_seq <| W_region (by rfl) ?_
  refine x r_move <| x r_move <| xl rfl <| xf <| (checkTuple_ok h ht).mono ?_
  rintro r1 w1 ⟨rfl, hs1⟩
  refine x r_assign <| xe ?_
  unfold ckV
  refine W_seq <| W_region (by rfl) ?_
  refine x r_move <| x (r_neq rfl rfl) <| xe ?_
  refine W_if rfl (fun h12 => ?_) (fun h12 => ?_)
  · refine W_seq <| W_region (by rfl) ?_
    refine x r_move <| x r_assign <| xe ?_
    exact W_ret ⟨[_], ⟨rfl, trivial⟩, by rw [if_pos h12]; rfl, hs1⟩
  rw [if_neg h12]
  obtain ⟨h1, h2, h3⟩ := ckT_zero (Decidable.not_not.1 h12)
  rw [List.length_map] at h1
  have hev : (evs (ps.map (·.a))).length ≤ 1099511627776 := by have := evs_len (ps.map (·.a)) (fun a ha => (h2 a ha).al_le); rw [List.length_map] at this; omega
  refine W_skip ?_
  refine W_seq <| W_seq <| W_region (by rfl) ?_
  refine x r_move <| xl rfl <| xf <| (events_ok (h.ext hs1) h1 (fun p hp => (h2 p.a (List.mem_map_of_mem hp)).al_le)).mono ?_
  rintro r2 w2 ⟨hs2, ho2⟩
  refine x r_move <| xl rfl <| xf <| (alContains_ok (IntsO.ints (L := []) ho2 hev (by simp)) (evs_inc h2) e).mono ?_
  rintro r3 w3 ⟨rfl, rfl⟩
  refine x (r_not rfl) <| xe ?_
  have hs12 := hs1.trans hs2
  refine W_cond rfl (fun h18 => ?_) (fun h18 => ?_)
  · have hn : e ∉ evs (ps.map (·.a)) := by simpa using h18
    refine W_seq <| W_region (by rfl) ?_
    refine x r_assign <| xe ?_
    exact W_ret ⟨[_], ⟨rfl, trivial⟩, by rw [if_pos hn]; rfl, hs12⟩
  have hn : ¬ e ∉ evs (ps.map (·.a)) := by simpa using h18
  refine W_skip ?_
  refine W_seq <| W_region (by rfl) ?_
  refine x r_assign <| xe ?_
  exact W_ret ⟨[_], ⟨rfl, trivial⟩, by rw [if_neg hn]; rfl, hs12⟩
theorem pStep_ok {w : World} {v vt : Value} {ps : List AV} {ts : List Int} (h : Auts [] w.heap v ps) (ht : Ints [] w.heap vt ts) (e : Int) :
    Ret Tryd.prog 27 [v, vt, .int .i64 e] w fun r w' => Step [] w w' ∧ (ckV (ps.map (·.a)) ts e ≠ 0 → r = .tuple #[nilS, .bool false, .int .i64 (ckV (ps.map (·.a)) ts e)]) ∧ (ckV (ps.map (·.a)) ts e = 0 →
      match stepT e (ps.map (·.a)) ts with | none => r = .tuple #[nilS, .bool false, .int .i64 0] | some u => ∃ v', r = .tuple #[v', .bool true, .int .i64 0] ∧ IntsO 3 w.heap.size w' v' u) := by
  refine Ret.of_W Tryd.func27 rfl Tryd.ntmps27 Tryd.results27 (by simp) ?_
  refine W_seq <| W_region (by rfl) ?_
  refine x r_assign <| x r_assign <| x r_assign <| xe ?_
  refine W_seq <| W_seq <| W_region (by rfl) ?_
  refine x r_move <| x r_move <| x r_move <| xl rfl <| xf <| (checkEvent_ok h ht e).mono ?_
  rintro r1 w1 ⟨rfl, hs1⟩
  refine x r_assign <| xe ?_
  refine W_seq <| W_region (by rfl) ?_
  refine x r_move <| x (r_neq rfl rfl) <| xe ?_
  refine W_if rfl (fun h15 => ?_) (fun h15 => ?_)
  · refine W_seq <| W_region (by rfl) ?_
    refine x r_move <| x r_assign <| x r_assign <| x r_assign <| xe ?_
    exact W_ret ⟨[nilS, .bool false, _], ⟨rfl, rfl, rfl, trivial⟩, hs1, fun _ => rfl, fun e => absurd e h15⟩
  have hc : ckV (ps.map (·.a)) ts e = 0 := Decidable.not_not.1 h15
  have hct : ckT (ps.map (·.a)) ts = 0 := by
    unfold ckV at hc
    split at hc
    · rename_i h1; exact absurd hc h1
    · rename_i h1; exact Decidable.not_not.1 h1
  obtain ⟨h1, h2, h3⟩ := ckT_zero hct
  rw [List.length_map] at h1
  have hl : ts.length = ps.length := by have := h3.1; rw [List.length_map] at this; exact this
  refine W_skip ?_
  refine W_seq <| W_region (by rfl) ?_
  refine x r_move <| xl rfl <| xf <| (open_ok (h.ext hs1) h1 (fun p hp => (h2 p.a (List.mem_map_of_mem hp)).al_le) (by simp)).mono ?_
  rintro r2 w2 ⟨hs2, ve, vs, ms, rfl, hM, _⟩
  have hs12 := hs1.trans hs2
  refine x r_move <| x r_move <| xl rfl <| xf <| (pstep_ok hM (ht.ext hs12) hl (fun p hp => (h2 p.a (List.mem_map_of_mem hp)).ali) (fun p hp => (h2 p.a (List.mem_map_of_mem hp)).edi) h1 e).mono ?_
  rintro r3 w3 ⟨hs3, hr3⟩
  have hz := hs12.size
  have hs13 := hs12.trans hs3
  refine exE (stepT e (ps.map (·.a)) ts) fun z hz0 => ?_
  rw [hz0] at hr3 ⊢
  cases z with
  | none =>
    simp only [] at hr3
    subst hr3
    refine x r_move <| x (r_extract rfl rfl) <| x (r_extract rfl rfl) <| x r_assign <| x r_assign <| xe ?_
    refine W_seq <| W_region (by rfl) ?_
    refine x r_move <| x r_move <| x r_assign <| x r_assign <| x r_assign <| xe ?_
    exact W_ret ⟨[nilS, .bool false, .int .i64 0], ⟨rfl, rfl, rfl, trivial⟩, hs13, fun e => absurd hc e, fun _ => rfl⟩
  | some u =>
    simp only [] at hr3
    obtain ⟨v', rfl, ho3⟩ := hr3
    refine x r_move <| x (r_extract rfl rfl) <| x (r_extract rfl rfl) <| x r_assign <| x r_assign <| xe ?_
    refine W_seq <| W_region (by rfl) ?_
    refine x r_move <| x r_move <| x r_assign <| x r_assign <| x r_assign <| xe ?_
    exact W_ret ⟨[v', .bool true, .int .i64 0], ⟨rfl, rfl, rfl, trivial⟩, hs13, fun e => absurd hc e, fun _ => ⟨v', rfl, own_base ho3 hz⟩⟩
end Go.Proofs.YtfhgnlkdcdlblaaDoor
/- SupervisorAfter, plain law: what the closed loop does after a word. -/
namespace Go.Proofs.YtfhgnlkdcdlblaaDoor
open Go.Lg

/-- The tuples along a word. -/
def goT (aa : List Aut) : List Int → List Int → Option (List Int)
  | t, [] => some t
  | t, v :: u => if v ∉ evs aa then none else match stepT v aa t with | none => none | some t' => goT aa t' u
theorem go_flw {aa : List Aut} {A : Aut} {Q : List (List Int)} (h : SyP aa A Q) : ∀ (u : List Int) (j : Nat), j < Q.length →
    (∃ j' : Nat, j' < Q.length ∧ flw A j u = ((j' : Int), u.length) ∧ goT aa (Q.getD j []) u = some (Q.getD j' [])) ∨ ((flw A j u).2 < u.length ∧ goT aa (Q.getD j []) u = none)
  | [], j, hj => .inl ⟨j, hj, rfl, rfl⟩
  | v :: u, j, hj => by
    have hs := h.step hj v
    by_cases hv : v ∈ evs aa
    · rw [if_pos hv] at hs
      cases ht : stepT v aa (Q.getD j []) with
      | none =>
        rw [ht] at hs
        have hn : nxt A.ed j v = -1 := by rw [nxt_eget, hs]; rfl
        right
        rw [flw, if_pos (by rw [hn]; decide), goT, if_neg (fun e => e hv), ht]
        exact ⟨by simp, rfl⟩
      | some t' =>
        obtain ⟨h1, h2⟩ := h.to hj hv ht
        rw [ht] at hs
        have hn : nxt A.ed j v = (Q.idxOf t' : Int) := by rw [nxt_eget, hs]; rfl
        rw [flw, hn, if_neg (by omega), goT, if_neg (fun e => e hv), ht]
        rcases go_flw h u (Q.idxOf t') h1 with ⟨j', k1, k2, k3⟩ | ⟨k1, k2⟩
        · left
          refine ⟨j', k1, ?_, ?_⟩
          · rw [k2]; simp
          · rw [h2] at k3; exact k3
        · right
          rw [h2] at k2
          exact ⟨by simp; omega, k2⟩
    · rw [if_neg hv] at hs
      have hn : nxt A.ed j v = -1 := by rw [nxt_eget, hs]
      right
      rw [flw, if_pos (by rw [hn]; decide), goT, if_pos hv]
      exact ⟨by simp, rfl⟩
theorem enb_syP {aa : List Aut} {A : Aut} {Q : List (List Int)} (h : SyP aa A Q) {j : Nat} (hj : j < Q.length) : enb A j = (evs aa).filter fun v => (stepT v aa (Q.getD j [])).isSome := by
  unfold enb
  rw [h.ed, outE_grid (syF_ok aa Q), if_pos hj]
  generalize evs aa = vs
  induction vs with
  | nil => rfl
  | cons v vs ih =>
    rw [List.filterMap_cons, List.filter_cons]
    cases hs : stepT v aa (Q.getD j []) with
    | none => rw [syF_none hs]; exact ih
    | some u =>
      rw [syF_some hs]
      simp only [List.map_cons, Option.isSome_some, if_true]
      rw [ih]
theorem enb_mem {a : Aut} (ho : Okay a) (x v : Int) : v ∈ enb a x ↔ 0 ≤ nxt a.ed x v := by
  unfold enb
  rw [nxt_nonneg ho]
  constructor
  · intro h
    obtain ⟨e, he, rfl⟩ := List.mem_map.1 h
    obtain ⟨h1, h2⟩ := outE_mem he
    cases hg : eget a.ed x e.2.1 with
    | some _ => rfl
    | none =>
      exfalso
      have key : ∀ (l : List Ed), e ∈ l → eget l x e.2.1 = none → False := by
        intro l
        induction l with
        | nil => intro h; cases h
        | cons d l ih =>
          intro hm hg
          rw [eget] at hg
          split at hg
          · cases hg
          · rename_i hne
            rcases List.mem_cons.1 hm with rfl | hm
            · exact hne ⟨h2, rfl⟩
            · exact ih hm hg
      exact key a.ed h1 hg
  · intro h
    obtain ⟨u, hu⟩ := Option.isSome_iff_exists.1 h
    have := eget_mem hu
    refine List.mem_map.2 ⟨(x, v, u), ?_, rfl⟩
    unfold outE
    exact List.mem_filter.2 ⟨this, by simp⟩
theorem enb_inc {a : Aut} (ho : Okay a) (x : Int) : Inc (enb a x) := by
  unfold enb Inc
  rw [List.pairwise_map]
  have h1 : (outE a.ed x).Pairwise fun x y : Ed => x.1 < y.1 ∨ (x.1 = y.1 ∧ x.2.1 < y.2.1) := List.Pairwise.sublist List.filter_sublist ho.edi
  refine List.Pairwise.imp_of_mem (fun {a b} ha hb hab => ?_) h1
  have h2 := (outE_mem ha).2
  have h3 := (outE_mem hb).2
  omega
theorem enb_filter {a : Aut} (ho : Okay a) (x : Int) : enb a x = a.al.filter fun v => decide (0 ≤ nxt a.ed x v) := by
  refine Inc.ext (enb_inc ho x) (List.Pairwise.sublist List.filter_sublist ho.ali) fun v => ?_
  rw [enb_mem ho, List.mem_filter]
  constructor
  · intro h; exact ⟨(ho.ed _ (nxt_mem h)).2.2.1, by simpa using h⟩
  · intro h; simpa using h.2
theorem evs_two {p s : Aut} (hp : Okay p) (hs : Okay s) (hsub : ∀ x ∈ s.al, x ∈ p.al) : evs [p, s] = p.al := by
  have ho : ∀ a ∈ [p, s], Okay a := fun a ha => by
    simp only [List.mem_cons, List.not_mem_nil, or_false] at ha
    rcases ha with rfl | rfl
    · exact hp
    · exact hs
  refine Inc.ext (evs_inc ho) hp.ali fun x => ?_
  rw [evs_mem ho]
  simp only [List.mem_cons, List.not_mem_nil, or_false, exists_eq_or_imp, exists_eq_left]
  exact ⟨fun h => h.elim id (hsub x), .inl⟩
/-- The law's lists. -/
def yesP (p s : Aut) (x y : Int) (v : Int) : Bool := decide (0 ≤ nxt p.ed x v) && !(decide (v ∈ s.al) && decide (nxt s.ed y v < 0))
def noP (p s : Aut) (x y : Int) (v : Int) : Bool := decide (0 ≤ nxt p.ed x v) && (decide (v ∈ s.al) && decide (nxt s.ed y v < 0))
theorem step_yes {p s : Aut} (hp : Okay p) (hs : Okay s) (x y : Int) {v : Int} (hv : v ∈ p.al) : (stepT v [p, s] [x, y]).isSome = yesP p s x y v := by
  have h1 := nxt_nonneg hp x v
  have h2 := nxt_nonneg hs y v
  unfold yesP
  rw [stepT, if_neg (fun e => e hv)]
  cases hx : eget p.ed x v with
  | none =>
    rw [hx] at h1
    have : ¬ 0 ≤ nxt p.ed x v := fun h => by have := h1.1 h; cases this
    simp [this]
  | some u =>
    rw [hx] at h1
    have h3 : 0 ≤ nxt p.ed x v := h1.2 rfl
    simp only [Option.isSome_map, decide_eq_true h3, Bool.true_and]
    rw [stepT]
    by_cases hvs : v ∈ s.al
    · rw [if_neg (fun e => e hvs)]
      cases hy : eget s.ed y v with
      | none =>
        rw [hy] at h2
        have : ¬ 0 ≤ nxt s.ed y v := fun h => by have := h2.1 h; cases this
        simp [hvs]; omega
      | some t =>
        rw [hy] at h2
        have : 0 ≤ nxt s.ed y v := h2.2 rfl
        simp [hvs, stepT]; omega
    · rw [if_pos hvs]; simp [hvs, stepT]
theorem after_on {p s : Aut} (hp : Okay p) (hs : Okay s) (hsub : ∀ x ∈ s.al, x ∈ p.al) {A : Aut} {Q : List (List Int)} (h : SyP [p, s] A Q) {j : Nat} (hj : j < Q.length) {x y : Int} (hq : Q.getD j [] = [x, y]) : enb A j = p.al.filter (yesP p s x y) := by
  rw [enb_syP h hj, evs_two hp hs hsub, hq]
  exact List.filter_congr fun v hv => step_yes hp hs x y hv
theorem after_off {p s : Aut} (hp : Okay p) (x y : Int) : mrg (fun p q => p && !q) (enb p x) (p.al.filter (yesP p s x y)) = p.al.filter (noP p s x y) := by
  have i1 := enb_inc hp x
  have i2 : Inc (p.al.filter (yesP p s x y)) := List.Pairwise.sublist List.filter_sublist hp.ali
  refine Inc.ext (mrg_inc _ _ _ _ (Nat.le_refl _) i1 i2) (List.Pairwise.sublist List.filter_sublist hp.ali) fun v => ?_
  rw [mem_mrg i1 i2]
  simp only [Bool.and_eq_true, decide_eq_true_eq, Bool.not_eq_true', decide_eq_false_iff_not]
  rw [enb_filter hp]
  simp only [List.mem_filter]
  unfold yesP noP
  simp only [Bool.and_eq_true, decide_eq_true_eq, Bool.not_eq_true', Bool.and_eq_false_iff, decide_eq_false_iff_not]
  constructor
  · rintro ⟨_, ⟨h1, h2⟩, h3⟩
    refine ⟨h1, h2, ?_⟩
    by_cases h4 : v ∈ s.al
    · by_cases h5 : nxt s.ed y v < 0
      · exact ⟨h4, h5⟩
      · exact absurd ⟨h1, h2, .inr h5⟩ h3
    · exact absurd ⟨h1, h2, .inl h4⟩ h3
  · rintro ⟨h1, h2, h3, h4⟩
    exact ⟨.inl ⟨h1, h2⟩, ⟨h1, h2⟩, fun h => h.2.2.elim (fun e => e h3) (fun e => e h4)⟩
/-! ### What After returns -/
def afE (p s : Aut) (u : List Int) : Int := if opE p s ≠ 0 then opE p s else if gens (opA p s) u = false then 10 else 0
def afAt (p s : Aut) (u : List Int) : Int := (flw (opA p s) 0 u).1
def afOn (p s : Aut) (u : List Int) : List Int := enb (opA p s) (afAt p s u)
def afOff (p s : Aut) (u : List Int) : List Int := mrg (fun p q => p && !q) (enb p (px ((opQ p s).getD (afAt p s u).toNat []))) (afOn p s u)
theorem opE_syP {p s : Aut} (h : opE p s = 0) : SyP [p, s] (opA p s) (opQ p s) ∧ Okay (opA p s) ∧ ((opQ p s).length = 0 ↔ p.st = 0 ∨ s.st = 0) := by
  obtain ⟨h1, h2, h3, _⟩ := opE_zero h
  have ho : ∀ a ∈ [p, s], Okay a := fun a ha => by
    simp only [List.mem_cons, List.not_mem_nil, or_false] at ha
    rcases ha with rfl | rfl
    · exact h1
    · exact h2
  obtain ⟨k1, k2⟩ := sync_spec ho h3
  exact ⟨k1, k1.okay ho, by rw [k2]; simp⟩
/-- The state after a word that is generated. -/
theorem gens_at {A : Aut} (ho : Okay A) {aa : List Aut} {Q : List (List Int)} (h : SyP aa A Q) {u : List Int} (hg : gens A u = true) : ∃ j : Nat, j < Q.length ∧ flw A 0 u = ((j : Int), u.length) ∧ goT aa (Q.getD 0 []) u = some (Q.getD j []) := by
  unfold gens at hg
  rw [if_neg (by simpa using (ckA_zero A).2 ho)] at hg
  unfold rchd at hg
  split at hg
  · cases hg
  · rename_i hz
    have hst := h.st
    have h0 : 0 < Q.length := by omega
    rcases go_flw h u 0 h0 with ⟨j, k1, k2, k3⟩ | ⟨k1, _⟩
    · exact ⟨j, k1, k2, k3⟩
    · simp only [decide_eq_true_eq] at hg
      have : ((0 : Nat) : Int) = 0 := rfl
      rw [this] at k1
      omega
theorem gens_not {A : Aut} (ho : Okay A) {aa : List Aut} {Q : List (List Int)} (h : SyP aa A Q) {u : List Int} (hg : gens A u = false) : Q.length = 0 ∨ goT aa (Q.getD 0 []) u = none := by
  unfold gens at hg
  rw [if_neg (by simpa using (ckA_zero A).2 ho)] at hg
  unfold rchd at hg
  have hst := h.st
  by_cases h0 : Q.length = 0
  · exact .inl h0
  · right
    rw [if_neg (by omega)] at hg
    rcases go_flw h u 0 (by omega) with ⟨j, k1, k2, k3⟩ | ⟨_, k2⟩
    · have : ((0 : Nat) : Int) = 0 := rfl
      rw [this] at k2
      rw [k2] at hg
      simp at hg
    · exact k2
theorem flw_al {a : Aut} (ho : Okay a) : ∀ (u : List Int) (s : Int), (flw a s u).2 = u.length → ∀ e ∈ u, e ∈ a.al
  | [], _, _, e, he => by cases he
  | v :: u, s, h, e, he => by
    rw [flw] at h
    split at h
    · simp at h
    · rename_i hn
      rcases List.mem_cons.1 he with rfl | he
      · exact (ho.ed _ (nxt_mem (show 0 ≤ nxt a.ed s e by omega))).2.2.1
      · exact flw_al ho u _ (by simpa using h) e he
theorem runE_gens {a : Aut} (ho : Okay a) {u : List Int} {j : Nat} (hj : (j : Int) < a.st) (h : flw a 0 u = ((j : Int), u.length)) : runE a 0 u = 0 := by
  unfold runE
  rw [cks_ok ho (Int.le_refl 0) (by omega), if_neg (by simp), if_neg]
  rw [Bool.not_eq_true, List.any_eq_false]
  intro e he
  have := flw_al ho u 0 (by rw [h]) e he
  simp [this]
end Go.Proofs.YtfhgnlkdcdlblaaDoor
/- Contract: supervisor.After. -/
namespace Go.Proofs.YtfhgnlkdcdlblaaDoor
open Go.Lg

set_option maxHeartbeats 1000000 in
theorem After_ok {L L' : List Nat} {w : World} {pva pvm pve sa sm se vw : Value} {aP aS : Aut} {u : List Int} (hp : AutA L w.heap pva pvm pve aP) (hs : AutA L w.heap sa sm se aS) (hw : Ints L' w.heap vw u) (hst : Okay aP → Okay aS → aP.st ≤ 100 ∧ aS.st ≤ 100) :
    Ret Tryd.prog 26 [.agg #[pva, .int .i64 aP.st, pvm, pve], .agg #[sa, .int .i64 aS.st, sm, se], vw] w fun r w' => Step [] w w' ∧ ∃ v1 v2, r = .tuple #[v1, v2, .int .i64 (afE aP aS u)] ∧ (afE aP aS u ≠ 0 → v1 = nilS ∧ v2 = nilS) ∧
      (afE aP aS u = 0 → IntsO 3 w.heap.size w' v1 (afOn aP aS u) ∧ IntsO 3 w.heap.size w' v2 (afOff aP aS u)) := by
  refine Ret.of_W Tryd.func26 rfl Tryd.ntmps26 Tryd.results26 (by simp) ?_
  refine W_seq <| W_region (by rfl) ?_
  refine xl rfl <| o_box (us := [pva, .int .i64 aP.st, pvm, pve]) rfl fun b3 w1 hs1 hb3 hB3 => xl rfl <| o_box (us := [sa, .int .i64 aS.st, sm, se]) rfl fun b4 w2 hs2 hb4 hB4 => x r_assign <| x r_assign <| x r_assign <| xe ?_
  have hs12 := hs1.trans hs2
  refine W_seq <| W_region (by rfl) ?_
  refine x (r_loadsB (hB3.ext hs2) rfl rfl) <| x (r_loadsB hB4 rfl rfl) <| xl rfl <| xf <| (sopen_ok (hp.ext hs12) (hs.ext hs12) hst).mono ?_
  rintro r3 w3 ⟨hs3, va, vt, rfl, hO⟩
  obtain ⟨us, hva, husl, hus⟩ := hO.shape
  have hs13 := hs12.trans hs3
  refine x r_move <| x (r_extract rfl rfl) <|
    x (r_extract rfl rfl) <| x (r_extract rfl rfl) <| xl rfl <| o_alloc (us := [.slice none 0 0, .int .i64 0, .slice none 0 0, .slice none 0 0]) rfl fun b9 w4 hs4 hb9 hB9 => xl rfl <| o_stores (us := us) hB9 rfl hva husl rfl hus fun w5 hs5 hB95 =>
    x r_assign <| x r_assign <| xe ?_
  have hs35 : Step [] w3 w5 := hs4.then1 hs5 hb9
  have hs15 := hs13.trans hs35
  refine W_seq <| W_seq <| W_region (by rfl) ?_
  refine x r_move <| x (r_neq rfl rfl) <| xe ?_
  unfold afE
  refine W_if rfl (fun h26 => ?_) (fun h26 => ?_)
  · rw [if_pos h26]
    refine W_seq <| W_region (by rfl) ?_
    refine x r_move <| x r_assign <| x r_assign <| x r_assign <| xe ?_
    exact W_ret ⟨[nilS, nilS, _], ⟨rfl, rfl, rfl, trivial⟩, hs15, nilS, nilS, rfl, fun _ => ⟨rfl, rfl⟩, fun e => absurd e h26⟩
  rw [if_neg h26]
  have hE0 : opE aP aS = 0 := Decidable.not_not.1 h26
  obtain ⟨o1, o2, _, hv, hl⟩ := opE_zero hE0
  obtain ⟨hSy, hOA, _⟩ := opE_syP hE0
  obtain ⟨hFA, qs, hqe, hqs⟩ := hO.good hE0
  obtain ⟨ava, avm, ave, rfl, hAA⟩ := hFA
  obtain rfl : us = [ava, .int .i64 (opA aP aS).st, avm, ave] := by simpa using hva.symm
  have hA3 := hAA [] (by simp)
  have hT3 := hqs [] (by simp)
  have hA5 := hA3.ext hs35
  refine W_skip ?_
  refine W_seq <| W_seq <| W_region (by rfl) ?_
  refine x (r_loadsB hB95 rfl rfl) <| x r_move <| xl rfl <| xf <| (Generates_ok hA5 (hw.ext hs15)).mono ?_
  rintro r6 w6 ⟨rfl, hs6⟩
  refine x r_move <| x (r_extract rfl rfl) <|
    x (r_extract rfl rfl) <| x r_assign <| x r_assign <| xe ?_
  have hs16 := hs15.trans hs6
  refine W_seq <| W_region (by rfl) ?_
  refine x r_move <| x (r_not rfl) <| xe ?_
  refine W_cond rfl (fun h35 => ?_) (fun h35 => ?_)
  · have hg : gens (opA aP aS) u = false := by simpa using h35
    rw [if_pos hg]
    refine W_seq <| W_region (by rfl) ?_
    refine x r_assign <| x r_assign <| x r_assign <| xe ?_
    exact W_ret ⟨[nilS, nilS, _], ⟨rfl, rfl, rfl, trivial⟩, hs16, nilS, nilS, rfl, fun _ => ⟨rfl, rfl⟩, fun e => absurd e (by decide)⟩
  have hg : gens (opA aP aS) u = true := by simpa using h35
  rw [if_neg (by rw [hg]; simp)]
  obtain ⟨j, hj, hfl, _⟩ := gens_at hOA hSy hg
  have hst' := hSy.st
  have hat : afAt aP aS u = (j : Int) := by unfold afAt; rw [hfl]
  have hrun := runE_gens hOA (j := j) (by omega) hfl
  have hck : cks (opA aP aS) j = 0 := cks_ok hOA (by omega) (by omega)
  have hB96 := hB95.ext hs6
  have hA6 := hA5.ext hs6
  refine W_skip ?_
  refine W_seq <| W_region (by rfl) ?_
  refine x (r_loadsB hB96 rfl rfl) <| x r_move <| xl rfl <| xf <| (Run_ok hA6 (hw.ext hs16) 0).mono ?_
  rintro r7 w7 ⟨hs7, hr7⟩
  rw [hrun, if_neg (by simp), hfl] at hr7
  subst hr7
  refine x r_move <| x (r_extract rfl rfl) <| x (r_extract rfl rfl) <|
    x (r_extract rfl rfl) <| x r_assign <| x r_assign <| x r_assign <| xe ?_
  have hs17 := hs16.trans hs7
  refine W_seq <| W_region (by rfl) ?_
  refine x (r_loadsB (hB96.ext hs7) rfl rfl) <| x r_move <| xl rfl <| xf <| (Enabled_ok (hA6.ext hs7) j).mono ?_
  rintro r8 w8 ⟨hs8, v8, hr8, _, hg8⟩
  rw [hck] at hr8
  subst hr8
  have ho8 := hg8 hck
  refine x r_move <| x (r_extract rfl rfl) <|
    x (r_extract rfl rfl) <| x r_assign <| xe ?_
  have hs18 := hs17.trans hs8
  have hs28 : Step [] w2 w8 := ((((hs3.trans hs35).trans hs6).trans hs7).trans hs8)
  have hs38 : Step [] w3 w8 := (((hs35.trans hs6).trans hs7).trans hs8)
  have hql : qs.length = (opQ aP aS).length := by rw [← hqe]; simp
  have hjq : j < qs.length := by omega
  have hTj := hT3.each _ (List.getElem_mem hjq)
  have hQj : (opQ aP aS).getD j [] = (qs[j]'hjq).2 := by rw [← hqe]; simp [List.getD, hjq]
  have hVj := hv ((opQ aP aS).getD j []) (by rw [hQj, ← hqe]; exact List.mem_map_of_mem (List.getElem_mem hjq))
  refine Exists.elim (Vt2 hVj) fun xn hV1 => Exists.elim hV1 fun yn hV2 => ?_
  have hxy := hV2.1
  have hx1 := hV2.2.1
  refine exE (qs[j]'hjq) fun qj hqj => ?_
  rw [hqj] at hTj hQj
  have hq2 : qj.2 = [(xn : Int), (yn : Int)] := by rw [← hQj]; exact hxy
  rw [hq2] at hTj
  have hT8 := (hT3.ext hs38).arr
  have hTj8 := hTj.ext hs38
  have hckp : cks aP xn = 0 := cks_ok o1 (by omega) (by omega)
  have hp8 := hp.ext hs18
  have hB38 := (hB3.ext hs2).ext hs28
  refine W_seq <| W_draw (Step [] w8) [(0, true), (1, true), (2, true), (3, true), (4, true), (5, true), (6, true), (7, false), (8, true), (9, true), (10, true), (11, true), (12, true)] Tryd.mixed (by rfl) (by kernel_rfl) (Step.drew _ _) ?_
  refine pq (fun _ hc => r_loadsB (hB38.ext hc) rfl rfl) <| p (fun _ => r_move) <| p (fun _ => r_move) <| Lg.pig (g := tvCells) (i := j) rfl tv_len hT8 rfl rfl hjq fun a53 h53 => ?_
  rw [hqj] at h53
  refine pq (fun _ hc => r_loadA (h53.ext hc) rfl) <| pii (i := 0) rfl hTj8 rfl rfl (by simp) fun a55 h55 => pq (fun _ hc => r_loadA (h55.ext hc) rfl) <| pk <| xf <| (Enabled_ok (hp8.ext (Step.drew [] w8)) xn).mono ?_
  rintro r9 w9 ⟨hs9, v9, hr9, _, hg9⟩
  rw [hckp] at hr9
  subst hr9
  have ho9 := hg9 hckp
  have hs89 := (Step.drew [] w8).trans hs9
  refine ⟨hs89, ?_⟩
  refine p (fun _ => r_move) <| p (fun _ => r_extract rfl rfl) <| p (fun _ => r_extract rfl rfl) <| p (fun _ => r_assign) <| p (fun _ => r_assign) <| pe ?_
  have l8 : (enb (opA aP aS) j).length ≤ 131072 := by unfold enb; rw [List.length_map]; have := outE_len (opA aP aS).ed j; have := hOA.ed_le; omega
  have l9 : (enb aP xn).length ≤ 131072 := by unfold enb; rw [List.length_map]; have := outE_len aP.ed xn; have := o1.ed_le; omega
  have ho89 := own_ext ho8 hs89
  refine W_seq <| W_region (by rfl) ?_
  refine x r_move <| x r_move <| x r_move <| xl rfl <| xf <| (Minus_ok (IntsO.ints (L := []) ho9 (by omega) (by simp)) (IntsO.ints (L := []) ho89 (by omega) (by simp)) (by omega)).mono ?_
  rintro v10 w10 ⟨hs10, ho10⟩
  refine x r_assign <| x r_assign <| x r_assign <| xe ?_
  have hz7 := hs17.size
  have hz9 := (hs18.trans hs89).size
  refine W_ret ⟨[v8, v10, .int .i64 0], ⟨rfl, rfl, rfl, trivial⟩, (hs18.trans hs89).trans hs10, v8, v10, rfl, fun e => absurd rfl e, fun _ => ⟨?_, ?_⟩⟩
  · unfold afOn
    rw [hat]
    exact own_base (own_ext ho89 hs10) hz7
  · unfold afOff afOn
    rw [hat, Int.toNat_natCast, hxy]
    exact own_base ho10 hz9
end Go.Proofs.YtfhgnlkdcdlblaaDoor
/- The function SupervisorAfter returns true. -/
namespace Go.Proofs.YtfhgnlkdcdlblaaDoor
open Go.Lg

/-- Two lists of the call's own. -/
structure TwI (w0 : World) (v1 v2 : Value) (l1 l2 : List Int) (w : World) : Prop where
  st : Step [] w0 w
  a : IntsO 3 w0.heap.size w v1 l1
  b : IntsO 3 w0.heap.size w v2 l2
  dj : Dj v1 v2
section
variable {w0 w w' : World} {v1 v2 : Value} {l1 l2 : List Int}
theorem TwI.ext (h : TwI w0 v1 v2 l1 l2 w) (hs : Step [] w w') : TwI w0 v1 v2 l1 l2 w' := ⟨h.st.trans hs, own_ext h.a hs, own_ext h.b hs, h.dj⟩
theorem TwI.set1 (h : TwI w0 v1 v2 l1 l2 w) {v' : Value} {l' : List Int} (hs : Step (ob v1) w w') (hm : IntsO 3 w0.heap.size w' v' l') (hn : ∀ b ∈ ob v', b ∈ ob v1 ∨ w.heap.size ≤ b) : TwI w0 v' v2 l' l2 w' :=
  ⟨h.st.then hs (fun c hc => .inr (own_ge h.a c hc).1), hm, own_step h.b hs h.dj.symm, (h.dj.symm.grow hn (own_lt h.b)).symm⟩
theorem TwI.set2 (h : TwI w0 v1 v2 l1 l2 w) {v' : Value} {l' : List Int} (hs : Step (ob v2) w w') (hm : IntsO 3 w0.heap.size w' v' l') (hn : ∀ b ∈ ob v', b ∈ ob v2 ∨ w.heap.size ≤ b) : TwI w0 v1 v' l1 l' w' :=
  ⟨h.st.then hs (fun c hc => .inr (own_ge h.b c hc).1), own_step h.a hs h.dj, hm, h.dj.grow hn (own_lt h.a)⟩
end
theorem afE_none {p s : Aut} (h0 : opE p s = 0) {u : List Int} (hg : (opQ p s).length = 0 ∨ goT [p, s] [0, 0] u = none) : afE p s u = 10 := by
  obtain ⟨hSy, hOA, _⟩ := opE_syP h0
  have : gens (opA p s) u = false := by
    cases e : gens (opA p s) u with
    | false => rfl
    | true =>
      obtain ⟨j, hj, _, h3⟩ := gens_at hOA hSy e
      have h4 := hSy.hd (by omega)
      rw [h4] at h3
      rcases hg with hg | hg
      · omega
      · rw [show List.replicate [p, s].length (0 : Int) = [0, 0] from rfl, hg] at h3; cases h3
  unfold afE
  rw [if_neg (by simpa using h0), if_pos this]
theorem afE_some {p s : Aut} (h0 : opE p s = 0) {u t : List Int} (hz : ¬ (opQ p s).length = 0) (hg : goT [p, s] [0, 0] u = some t) : afE p s u = 0 ∧ ∃ j : Nat, j < (opQ p s).length ∧ afAt p s u = j ∧ (opQ p s).getD j [] = t := by
  obtain ⟨hSy, hOA, _⟩ := opE_syP h0
  have h4 := hSy.hd (by omega)
  have : gens (opA p s) u = true := by
    cases e : gens (opA p s) u with
    | true => rfl
    | false =>
      rcases gens_not hOA hSy e with h | h
      · exact absurd h hz
      · rw [h4, show List.replicate [p, s].length (0 : Int) = [0, 0] from rfl, hg] at h; cases h
  refine ⟨by unfold afE; rw [if_neg (by simpa using h0), if_neg (by rw [this]; simp)], ?_⟩
  obtain ⟨j, hj, h2, h3⟩ := gens_at hOA hSy this
  rw [h4, show List.replicate [p, s].length (0 : Int) = [0, 0] from rfl, hg] at h3
  exact ⟨j, hj, by unfold afAt; rw [h2], (Option.some.inj h3).symm⟩
theorem goT_drop {aa : List Aut} {t u : List Int} {k : Nat} (h : k < u.length) : goT aa t (u.drop k) = if (u[k]'h) ∉ evs aa then none else match stepT (u[k]'h) aa t with | none => none | some t' => goT aa t' (u.drop (k + 1)) := by
  rw [drop_cons h]; rfl
theorem noP_snoc {l : List Int} {k : Nat} (h : k < l.length) (f : Int → Bool) : (l.take (k + 1)).filter f = if f (l[k]'h) = true then (l.take k).filter f ++ [l[k]'h] else (l.take k).filter f := by
  rw [List.take_succ_eq_append_getElem h]; exact filter_snoc

set_option maxHeartbeats 8000000 in
theorem lawAfter_ok {ns ms : List Nat} (hn : ns.length = 57) (hns : ∀ n ∈ ns, n < 256) {L : List Nat} {w : World} {vb : Value} {ad : Option Addr} {nb cb : Nat} (hvb : vb = .slice ad nb cb) (hnb : ms.length = min nb 6) (hb : ∀ k (hk : k < ms.length), ∃ a, ad = some a ∧ At L w.heap (a.add (k * 1)) [.int .u8 ((ms[k]'hk : Nat) : Int)]) (hms : ∀ n ∈ ms, n < 256) :
    Ret Tryd.prog 7 [.agg (bys ns).toArray, vb] w fun r w' => r = .bool true ∧ Step [] w w' := by
  refine Ret.of_W Tryd.func7 rfl Tryd.ntmps7 Tryd.results7 (by simp) ?_
  refine W_seq <| W_region (by rfl) ?_
  refine xl rfl <| o_box (us := bys ns) rfl fun b2 w1 hs1 hb2 hB2 => x r_assign <| xe ?_
  refine W_seq <| W_seq <| W_region (by rfl) ?_
  refine xl rfl <| xf <| (known_ok w1).mono ?_
  rintro r2 w2 ⟨rfl, hs2⟩
  refine x (r_not rfl) <| xe ?_
  refine W_false rfl ?_
  refine W_skip ?_
  refine W_seq <| W_region (by rfl) ?_
  refine x (r_loadsB (hB2.ext hs2) rfl (by simp [bys]; exact hn)) <| xl rfl <| xf <| (make26_ok hn hns).mono ?_
  rintro r3 w3 ⟨hs3, vp, vs, vu, aP, aS, u0, rfl, hFP, hFS, hPb, huo⟩
  obtain ⟨pva, pvm, pve, rfl, hPA⟩ := hFP
  obtain ⟨sva, svm, sve, rfl, hSA⟩ := hFS
  have hP0 := hPA [] (by simp)
  have hS0 := hSA [] (by simp)
  have hE0 := hPb.opE0
  obtain ⟨hSy, hOA, hQz⟩ := opE_syP hE0
  obtain ⟨o1, o2, _, hv, hl⟩ := opE_zero hE0
  have hW3 := (hs1.trans hs2).trans hs3
  refine x r_move <| x (r_extract rfl rfl) <| x (r_extract rfl rfl) <|
    x (r_extract rfl rfl) <| xl rfl <| o_alloc (us := [.slice none 0 0, .int .i64 0, .slice none 0 0, .slice none 0 0]) rfl fun b5 w4 hs4 hb5 hB5 => xl rfl <| o_alloc (us := [.slice none 0 0, .int .i64 0, .slice none 0 0, .slice none 0 0]) rfl fun b6 w5 hs5 hb6 hB6 =>
    xl rfl <| o_stores (us := [pva, .int .i64 aP.st, pvm, pve]) (hB5.ext hs5) rfl rfl rfl rfl ⟨hP0.al.one, rfl, hP0.mr.one, hP0.ed.one, trivial⟩ fun w6 hs6 hB56 => ?_
  have hl5 := hB5.lt
  have hz4 := hs4.size
  have hB66 := hB6.step hs6 (by simp; omega)
  refine xl rfl <| o_stores (us := [sva, .int .i64 aS.st, svm, sve]) hB66 rfl rfl rfl rfl ⟨hS0.al.one, rfl, hS0.mr.one, hS0.ed.one, trivial⟩ fun w7 hs7 hB67 => x r_assign <| xe ?_
  have hB57 := hB56.step hs7 (by simp; omega)
  have hs37 : Step [] w3 w7 := ((hs4.trans hs5).then1 hs6 hb5).then1 hs7 (by omega)
  have hW7 := hW3.trans hs37
  have hP7 := hP0.ext hs37
  have hS7 := hS0.ext hs37
  refine W_seq <| W_region (by rfl) ?_
  refine x r_assign <| xe ?_
  refine W_seq <| W_seq <| W_region (by rfl) ?_
  refine x r_assign <| xe ?_
  refine W_block <| W_loop (α := Nat × Value) [(8, 9), (31, 49)] (fun z => [(8, z.2), (9, .int .i64 z.1)]) (fun z w' => z.1 ≤ ms.length ∧ z.1 ≤ 6 ∧ Step [] w7 w' ∧ IntsO 3 w7.heap.size w' z.2 ((ms.take z.1).map fun n : Nat => (n : Int) % 5)) (fun z => 6 - z.1) (by rfl) (0, .slice none 0 0) ⟨rfl, rfl, trivial⟩
    ⟨Nat.zero_le _, Nat.zero_le _, Step.refl _ _, own_nil _ _ _ _⟩ ?_
  rintro ⟨k, vw⟩ g w8 ⟨hk, hk6, hs8, ho8⟩
  simp only [] at hk hk6 ho8
  have hlen : ((ms.take k).map fun n : Nat => (n : Int) % 5).length = k := by simp; omega
  refine W_seq <| W_cut (α := Unit) [(31, 38)] (fun z => [(38, .bool (decide (k < ms.length ∧ k < 6)))]) (fun z w' => w' = w8) (by rfl) ?_ ?_
  · refine W_region (by rfl) ?_
    refine x r_move <| x r_move <| x (r_len hvb) <| xb (r_lss rfl rfl) (fun h34 => ?_) (fun h34 => ?_)
    · refine x r_move <| x r_move <| x (r_lss rfl rfl) <| x (r_pick rfl) <| xe ?_
      exact ⟨(), ⟨by show Value.bool (decide ((k : Int) < 6)) = _; congr 1; rw [decide_eq_decide]; simp only [] at h34; omega, trivial⟩, rfl⟩
    refine x r_move <| xs rfl <| xs rfl <| x (r_pick rfl) <| xe ?_
    exact ⟨(), ⟨by show Value.bool false = _; congr 1; symm; rw [decide_eq_false_iff_not]; simp only [] at h34; omega, trivial⟩, rfl⟩
  rintro z g9 w9 rfl
  refine W_ifn rfl (fun h38 => ?_) (fun h38 => ?_)
  · refine W_exit ?_
    refine exE ((ms.take k).map fun n : Nat => (n : Int) % 5) fun u hu => ?_
    rw [hu] at ho8 hlen
    have hIw := IntsO.ints (L := []) ho8 (by omega) (by simp)
    have hW8 := hW7.trans hs8
    refine W_seq <| W_region (by rfl) ?_
    refine x (r_loadsB (hB57.ext hs8) rfl rfl) <| x (r_loadsB (hB67.ext hs8) rfl rfl) <| x r_move <| xl rfl <| xf <| (After_ok (hP7.ext hs8) (hS7.ext hs8) hIw hPb.st100).mono ?_
    rintro r10 w10 ⟨hs10, v1, v2, rfl, hbad, hgood⟩
    refine x r_move <|
      x (r_extract rfl rfl) <| x (r_extract rfl rfl) <| x (r_extract rfl rfl) <| x r_assign <| x r_assign <| x r_assign <| xe ?_
    have hs710 := hs8.trans hs10
    refine W_seq <| W_region (by rfl) ?_
    refine x (r_loadsB (hB57.ext hs710) rfl rfl) <| x (r_loadsB (hB67.ext hs710) rfl rfl) <| xl rfl <| o_lits (us := [avCells ⟨pva, pvm, pve, aP⟩, avCells ⟨sva, svm, sve, aS⟩]) rfl rfl (by decide) (by exact (by decide : 2 * 4 ≤ 1000000)) ⟨rfl, rfl, rfl, rfl, trivial⟩ fun b60 w11 hs11 hb60 hB60 =>
      x r_assign <| xe ?_
    have hs711 := hs710.trans hs11
    have hW11 := hW7.trans hs711
    have hP11 := hP7.ext hs711
    have hS11 := hS7.ext hs711
    have hB511 := hB57.ext hs711
    have hB611 := hB67.ext hs711
    have hIw11 := (hIw.ext hs10).ext hs11
    have hAu : Auts [] w11.heap (.slice (some ⟨b60, 0, none⟩) 2 2) [⟨pva, pvm, pve, aP⟩, ⟨sva, svm, sve, aS⟩] := by
      refine ⟨hB60.arr (by simp) rfl (by simp) (by simp), fun q hq => ?_⟩
      simp only [List.mem_cons, List.not_mem_nil, or_false] at hq
      rcases hq with rfl | rfl
      · exact hP11
      · exact hS11
    refine W_seq <| W_cut (α := Unit) [(61, 68)] (fun z => [(68, .bool (decide (aP.st = 0 ∨ aS.st = 0)))]) (fun z w' => w' = w11) (by rfl) ?_ ?_
    · refine W_region (by rfl) ?_
      refine x (r_fieldB rfl) <| x (r_loadB hB511 rfl rfl) <| xb (r_eql rfl rfl) (fun h63 => ?_) (fun h63 => ?_)
      · refine x r_move <| xs rfl <| xs rfl <| xs rfl <| x (r_pick rfl) <| xe ?_
        exact ⟨(), ⟨by rw [decide_eq_true (Or.inl h63)]; rfl, trivial⟩, rfl⟩
      refine x r_move <| x (r_fieldB rfl) <| x (r_loadB hB611 rfl rfl) <| x (r_eql rfl rfl) <| x (r_pick rfl) <| xe ?_
      exact ⟨(), ⟨by show Value.bool (decide (aS.st = 0)) = _; simp [h63], trivial⟩, rfl⟩
    rintro z12 g12 w12 rfl
    refine W_if rfl (fun h68 => ?_) (fun h68 => ?_)
    · have hE := afE_none (u := u) hE0 (.inl (hQz.2 h68))
      obtain ⟨hv1, hv2⟩ := hbad (by rw [hE]; decide)
      have hA1 : Arr [] w12.heap v1 0 1 [] := by rw [hv1]; exact Arr.nil _ _ _
      have hA2 : Arr [] w12.heap v2 0 1 [] := by rw [hv2]; exact Arr.nil _ _ _
      refine W_seq <| W_region (by rfl) ?_
      refine x r_move <| x (r_lenA hA1 rfl) <| x r_move <| x (r_lenA hA2 rfl) <| x (r_add rfl rfl ⟨by decide, by decide⟩) <| x (r_eql rfl rfl) <| x r_move <| x r_move <| x (r_eql rfl rfl) <| x (r_pick rfl) <| x r_assign <| xe ?_
      exact W_ret ⟨[.bool (decide (afE aP aS u = 10))], ⟨rfl, trivial⟩, by rw [decide_eq_true hE]; rfl, hW11⟩
    have hQ0 : ¬ (opQ aP aS).length = 0 := fun e => h68 (hQz.1 e)
    have hp0 := o1.st0
    have hs0 := o2.st0
    refine W_skip ?_
    refine W_seq <| W_region (by rfl) ?_
    refine xl rfl <| o_lits (us := [[.int .i64 0], [.int .i64 0]]) rfl rfl (by decide) (by exact (by decide : 2 * 1 ≤ 1000000)) ⟨rfl, rfl, rfl, rfl, trivial⟩ fun b79 w14 hs14 hb79 hB79 => x r_assign <| xe ?_
    have hI0 : Ints [] w14.heap (.slice (some ⟨b79, 0, none⟩) 2 2) [0, 0] := hB79.arr (by simp) rfl (by simp) (by simp)
    have hV0 : Vt [aP, aS] [0, 0] := Vt.cons (Int.le_refl 0) (by omega) (Vt.cons (Int.le_refl 0) (by omega) ⟨rfl, fun i h => by simp at h⟩)
    refine W_seq <| W_seq <| W_region (by rfl) ?_
    refine x r_assign <| xe ?_
    refine W_block <| W_loop (α := Nat × Value × List Int) [(4, 4), (14, 18), (80, 113)] (fun z => [(14, z.2.1), (15, .int .i64 z.1)]) (fun z w' => z.1 ≤ u.length ∧ Step [] w12 w' ∧ Ints [] w'.heap z.2.1 z.2.2 ∧ Vt [aP, aS] z.2.2 ∧ goT [aP, aS] [0, 0] u = goT [aP, aS] z.2.2 (u.drop z.1)) (fun z => u.length - z.1) (by rfl) (0, .slice (some ⟨b79, 0, none⟩) 2 2, [0, 0]) ⟨rfl, rfl, trivial⟩
      ⟨Nat.zero_le _, hs14, hI0, hV0, rfl⟩ ?_
    rintro ⟨i, va, t⟩ g15 w15 ⟨hi, hs15, hI15, hV15, hgo⟩
    simp only [] at hi hI15 hV15 hgo
    have hW15 := hW11.trans hs15
    refine W_seq <| W_seq <| W_region (by rfl) ?_
    refine x r_move <| x r_move <| x (r_lenA hIw11 rfl) <| x (r_lss rfl rfl) <| xe ?_
    refine W_ifn rfl (fun h83 => ?_) (fun h83 => ?_)
    · refine W_exit ?_
      have hi2 : u.length ≤ i := by have h84 : ¬ (i : Int) < (u.length : Int) := h83; omega
      rw [List.drop_of_length_le hi2] at hgo
      obtain ⟨hE, j, hj, hat, hqj⟩ := afE_some hE0 hQ0 hgo
      obtain ⟨xn, yn, rfl, hx1, hy1⟩ := Vt2 hV15
      obtain ⟨hon, hoff⟩ := hgood hE
      have eon : afOn aP aS u = aP.al.filter (yesP aP aS xn yn) := by unfold afOn; rw [hat]; exact after_on o1 o2 hPb.sub hSy hj hqj
      have eoff : afOff aP aS u = aP.al.filter (noP aP aS xn yn) := by unfold afOff; rw [eon, hat, Int.toNat_natCast, hqj]; exact after_off o1 xn yn
      rw [eon] at hon
      rw [eoff] at hoff
      have hal := o1.al_le
      have lf : ∀ f : Int → Bool, (aP.al.filter f).length ≤ 32 := fun f => Nat.le_trans (List.length_filter_le _ _) hal
      have hOn := (((IntsO.ints (L := []) hon (by have := lf (yesP aP aS xn yn); omega) (by simp)).ext hs11).ext hs15)
      have hOff := (((IntsO.ints (L := []) hoff (by have := lf (noP aP aS xn yn); omega) (by simp)).ext hs11).ext hs15)
      refine W_seq <| W_region (by rfl) ?_
      refine x r_assign <| x r_assign <| xe ?_
      refine W_seq <| W_seq <| W_region (by rfl) ?_
      refine x r_assign <| xe ?_
      refine W_block <| W_loop (α := Nat × Value × Value) [(19, 22), (114, 153)] (fun z => [(19, z.2.1), (20, z.2.2), (21, .int .i64 z.1)]) (fun z w' => z.1 ≤ aP.al.length ∧ TwI w15 z.2.1 z.2.2 ((aP.al.take z.1).filter (yesP aP aS xn yn)) ((aP.al.take z.1).filter (noP aP aS xn yn)) w') (fun z => aP.al.length - z.1) (by rfl) (0, .slice none 0 0, .slice none 0 0) ⟨rfl, rfl, rfl, trivial⟩
        ⟨Nat.zero_le _, Step.refl _ _, own_nil _ _ _ _, own_nil _ _ _ _, fun b hb => by simp [ob] at hb⟩ ?_
      rintro ⟨q, vy, vn⟩ g16 w16 ⟨hq, hT⟩
      simp only [] at hq hT
      have hs16 := hT.st
      have hP16 := (hP11.ext hs15).ext hs16
      have hS16 := (hS11.ext hs15).ext hs16
      have hB516 := (hB511.ext hs15).ext hs16
      have hB616 := (hB611.ext hs15).ext hs16
      have hW16 := hW15.trans hs16
      have hz15 := hs16.size
      refine W_seq <| W_seq <| W_region (by rfl) ?_
      refine x r_move <| x (r_fieldB rfl) <| x (r_loadB hB516 rfl rfl) <| x (r_lenA hP16.al rfl) <| x (r_lss rfl rfl) <| xe ?_
      refine W_ifn rfl (fun h118 => ?_) (fun h118 => ?_)
      · refine W_exit ?_
        have hq2 : aP.al.length ≤ q := by have h119 : ¬ (q : Int) < (aP.al.length : Int) := h118; omega
        rw [List.take_of_length_le hq2] at hT
        have hY := IntsO.ints (L := []) hT.a (by have := lf (yesP aP aS xn yn); omega) (by simp)
        have hN := IntsO.ints (L := []) hT.b (by have := lf (noP aP aS xn yn); omega) (by simp)
        refine W_seq <| W_region (by rfl) ?_
        refine x r_move <| x r_move <| xl rfl <| xf <| (wEqual_ok (hOn.ext hs16) hY).mono ?_
        rintro r17 w17 ⟨hr17, hs17⟩
        rw [decide_eq_true rfl] at hr17
        subst hr17
        refine x r_move <| x r_move <| x r_move <|
          xl rfl <| xf <| (wEqual_ok ((hOff.ext hs16).ext hs17) (hN.ext hs17)).mono ?_
        rintro r18 w18 ⟨hr18, hs18⟩
        rw [decide_eq_true rfl] at hr18
        subst hr18
        refine x (r_pick rfl) <| x r_move <| x r_move <| x (r_eql rfl rfl) <|
          x (r_pick rfl) <| x r_assign <| xe ?_
        exact W_ret ⟨[.bool (decide (afE aP aS u = 0))], ⟨rfl, trivial⟩, by rw [decide_eq_true hE]; rfl, (hW16.trans hs17).trans hs18⟩
      have hlt : q < aP.al.length := by have h119 : (q : Int) < (aP.al.length : Int) := h118; omega
      refine exE (aP.al[q]'hlt) fun e he => ?_
      have hY1 := noP_snoc hlt (yesP aP aS xn yn)
      have hN1 := noP_snoc hlt (noP aP aS xn yn)
      rw [he] at hY1 hN1
      have lY : ((aP.al.take q).filter (yesP aP aS xn yn)).length ≤ 32 := Nat.le_trans (List.length_filter_le _ _) (by simp; omega)
      have lN : ((aP.al.take q).filter (noP aP aS xn yn)).length ≤ 32 := Nat.le_trans (List.length_filter_le _ _) (by simp; omega)
      refine W_skip ?_
      refine W_seq <| W_block <| W_seq <| W_region (by rfl) ?_
      refine x (r_fieldB rfl) <| x (r_loadB hB516 rfl rfl) <| x r_move <| xii hP16.al rfl rfl hlt fun a124 h124 => ?_
      rw [he] at h124
      refine x (r_loadA h124 rfl) <| x r_assign <|
        xe ?_
      have hI16 := hI15.ext hs16
      refine W_seq <| W_seq <| W_draw (Step [] w16) [(0, true), (1, true), (2, true), (3, true), (4, true), (5, false), (6, true)] Tryd.mixed (by rfl) (by kernel_rfl) (Step.drew _ _) ?_
      refine pq (fun _ hc => r_loadsB (hB516.ext hc) rfl rfl) <| p (fun _ => r_move) <| pii (i := 0) rfl hI16 rfl rfl (by simp) fun a128 h128 =>
        pq (fun _ hc => r_loadA (h128.ext hc) rfl) <| p (fun _ => r_move) <| pk <| xf <| (next30_ok (hP16.ed.ext (Step.drew [] w16)) xn e aP.st).mono ?_
      rintro r20 w20 ⟨rfl, hs20⟩
      have hs1620 := (Step.drew [] w16).trans hs20
      refine ⟨hs1620, ?_⟩
      refine p (fun _ => r_lss rfl rfl) <| pe ?_
      have hT20 := hT.ext hs1620
      refine W_if rfl (fun h132 => ?_) (fun h132 => ?_)
      · refine W_exit ?_
        have hny : yesP aP aS xn yn e = false := by unfold yesP; rw [decide_eq_false (by omega)]; rfl
        have hnn : noP aP aS xn yn e = false := by unfold noP; rw [decide_eq_false (by omega)]; rfl
        rw [if_neg (by rw [hny]; simp)] at hY1
        rw [if_neg (by rw [hnn]; simp)] at hN1
        refine W_region (by rfl) ?_
        refine x r_move <| x (r_add rfl rfl ⟨by omega, by omega⟩) <| x r_assign <| xe ?_
        exact ⟨(q + 1, vy, vn), by simp only []; omega, ⟨rfl, rfl, rfl, trivial⟩, hlt, by simp only []; rw [hY1, hN1]; exact hT20⟩
      have hp1 : decide (0 ≤ nxt aP.ed xn e) = true := decide_eq_true (by omega)
      refine W_skip ?_
      refine W_cut (α := Unit) [(133, 145)] (fun z => [(145, .bool (noP aP aS xn yn e))]) (fun z w' => Step [] w20 w') (by rfl) ?_ ?_
      · refine Or.elim (Decidable.em (e ∈ aS.al)) (fun hes => ?_) (fun hes => ?_)
        · refine W_draw (Step [] w20) [(0, true), (1, true), (2, true), (3, false), (4, true), (5, true), (6, true), (7, true), (8, true), (9, true), (10, false), (11, true), (12, true)] Tryd.mixed (by rfl) (by kernel_rfl) (Step.drew _ _) ?_
          refine p (fun _ => r_fieldB rfl) <| pq (fun _ hc => r_loadB ((hB616.ext hs1620).ext hc) rfl rfl) <| p (fun _ => r_move) <| pk <| xf <| (has30_ok ((hS16.al.ext hs1620).ext (Step.drew [] w20)) e).mono ?_
          rintro r21 w21 ⟨hr21, rfl⟩
          rw [decide_eq_true hes] at hr21
          subst hr21
          refine ⟨Step.drew _ _, ?_⟩
          refine p (fun _ => r_move) <|
            pq (fun _ hc => r_loadsB ((hB616.ext hs1620).ext hc) rfl rfl) <| p (fun _ => r_move) <| pii (i := 1) rfl (hI16.ext hs1620) rfl rfl (by simp) fun a140 h140 =>
            pq (fun _ hc => r_loadA (h140.ext hc) rfl) <| p (fun _ => r_move) <| pk <| xf <| (next30_ok ((hS16.ed.ext hs1620).ext (Step.drew [] w20)) yn e aS.st).mono ?_
          rintro r22 w22 ⟨rfl, hs22⟩
          refine ⟨(Step.drew [] w20).trans hs22, ?_⟩
          refine p (fun _ => r_lss rfl rfl) <| p (fun _ => r_pick rfl) <| pe ?_
          exact ⟨(), ⟨by show Value.bool (decide (nxt aS.ed yn e < 0)) = _; unfold noP; rw [hp1, decide_eq_true hes]; rfl, trivial⟩, (Step.drew [] w20).trans hs22⟩
        · refine W_draw (Step [] w20) [(0, true), (1, true), (2, true), (3, false), (4, true), (5, true), (6, true), (7, true), (8, true), (9, true), (10, false), (11, true), (12, true)] Tryd.mixed (by rfl) (by kernel_rfl) (Step.drew _ _) ?_
          refine p (fun _ => r_fieldB rfl) <| pq (fun _ hc => r_loadB ((hB616.ext hs1620).ext hc) rfl rfl) <| p (fun _ => r_move) <| pk <| xf <| (has30_ok ((hS16.al.ext hs1620).ext (Step.drew [] w20)) e).mono ?_
          rintro r21 w21 ⟨hr21, rfl⟩
          rw [decide_eq_false hes] at hr21
          subst hr21
          refine ⟨Step.drew _ _, ?_⟩
          refine p (fun _ => r_move) <| ps <| ps <| ps <| ps <| ps <| ps <| ps <| p (fun _ => r_pick rfl) <| pe ?_
          exact ⟨(), ⟨by show Value.bool false = _; unfold noP; rw [hp1, decide_eq_false hes]; rfl, trivial⟩, Step.drew _ _⟩
      rintro z23 g23 w23 hs23
      have hT23 := hT20.ext hs23
      have hz23 := (hs1620.trans hs23).size
      refine W_cond rfl (fun h145 => ?_) (fun h145 => ?_)
      · have hny : yesP aP aS xn yn e = false := by
          have h146 : (decide (0 ≤ nxt aP.ed xn e) && (decide (e ∈ aS.al) && decide (nxt aS.ed yn e < 0))) = true := h145
          rw [hp1, Bool.true_and] at h146
          unfold yesP
          rw [hp1, h146]; rfl
        rw [if_neg (by rw [hny]; simp)] at hY1
        rw [if_pos h145] at hN1
        refine W_region (by rfl) ?_
        refine x r_move <| x r_move <| xl rfl <| o_lits (us := [[.int .i64 e]]) rfl rfl (by decide) (by simp) ⟨rfl, rfl, trivial⟩ fun b148 w24 hs24 hb148 hB148 => ?_
        have hT24 := hT23.ext hs24
        have hz24 := hs24.size
        refine xl rfl <| o_app (news := [.int .i64 e]) (L := []) hT24.b rfl rfl rfl (hB148.at (by simp)) (by simp [Value.oneCell']) (by omega) (by omega) fun v25 w25 ho25 hs25 hn25 =>
          x r_assign <| xe ?_
        refine W_region (by rfl) ?_
        refine x r_move <| x (r_add rfl rfl ⟨by omega, by omega⟩) <| x r_assign <| xe ?_
        refine ⟨(q + 1, vy, v25), by simp only []; omega, ⟨rfl, rfl, rfl, trivial⟩, hlt, ?_⟩
        simp only []
        rw [hY1, hN1]
        exact hT24.set2 hs25 (IntsO.snoc ho25) hn25
      have hyy : yesP aP aS xn yn e = true := by
        have h146 : (decide (0 ≤ nxt aP.ed xn e) && (decide (e ∈ aS.al) && decide (nxt aS.ed yn e < 0))) = false := h145
        rw [hp1, Bool.true_and] at h146
        unfold yesP
        rw [hp1, h146]; rfl
      rw [if_pos hyy] at hY1
      rw [if_neg (by rw [h145]; simp)] at hN1
      refine W_region (by rfl) ?_
      refine x r_move <| x r_move <| xl rfl <| o_lits (us := [[.int .i64 e]]) rfl rfl (by decide) (by simp) ⟨rfl, rfl, trivial⟩ fun b152 w26 hs26 hb152 hB152 => ?_
      have hT26 := hT23.ext hs26
      have hz26 := hs26.size
      refine xl rfl <| o_app (news := [.int .i64 e]) (L := []) hT26.a rfl rfl rfl (hB152.at (by simp)) (by simp [Value.oneCell']) (by omega) (by omega) fun v27 w27 ho27 hs27 hn27 =>
        x r_assign <| xe ?_
      refine W_region (by rfl) ?_
      refine x r_move <| x (r_add rfl rfl ⟨by omega, by omega⟩) <| x r_assign <| xe ?_
      refine ⟨(q + 1, v27, vn), by simp only []; omega, ⟨rfl, rfl, rfl, trivial⟩, hlt, ?_⟩
      simp only []
      rw [hY1, hN1]
      exact hT26.set1 hs27 (IntsO.snoc ho27) hn27
    have hlt : i < u.length := by have h84 : (i : Int) < (u.length : Int) := h83; omega
    rw [goT_drop hlt] at hgo
    refine exE (u[i]'hlt) fun e he => ?_
    rw [he] at hgo
    have hct : ckT [aP, aS] t = 0 := ckT_ok (by simp) hPb.okay hV15
    refine W_skip ?_
    refine W_seq <| W_block <| W_seq <| W_region (by rfl) ?_
    refine x r_move <| x r_move <| x r_move <| x r_move <| xii (hIw11.ext hs15) rfl rfl hlt fun a91 h91 => ?_
    rw [he] at h91
    refine x (r_loadA h91 rfl) <| xl rfl <| xf <| (pStep_ok (hAu.ext hs15) hI15 e).mono ?_
    rintro r28 w28 ⟨hs28, hck, hst⟩
    have fin : goT [aP, aS] [0, 0] u = none → (∃ b : Bool, ∃ c : Int, r28 = .tuple #[nilS, .bool false, .int .i64 c]) → afE aP aS u = 10 ∧ Arr [] w28.heap v1 0 1 [] ∧ Arr [] w28.heap v2 0 1 [] := fun hgn _ => by
      have hE := afE_none hE0 (.inr hgn)
      obtain ⟨hv1, hv2⟩ := hbad (by rw [hE]; decide)
      exact ⟨hE, by rw [hv1]; exact Arr.nil _ _ _, by rw [hv2]; exact Arr.nil _ _ _⟩
    have hev : ckV [aP, aS] t e = if e ∉ evs [aP, aS] then 9 else 0 := by unfold ckV; rw [if_neg (by simpa using hct)]
    refine Or.elim (Decidable.em (e ∈ evs [aP, aS])) (fun hee => ?_) (fun hee => ?_)
    · rw [if_neg (fun h => h hee)] at hev hgo
      have hst' := hst hev
      refine Or.elim (optD (stepT e [aP, aS] t)) (fun hz => ?_) (fun hz => Exists.elim hz fun t' hz => ?_)
      · have hst2 : r28 = .tuple #[nilS, .bool false, .int .i64 0] := by
          have h3 := hst'
          rw [show List.map (fun x : AV => x.a) [⟨pva, pvm, pve, aP⟩, ⟨sva, svm, sve, aS⟩] = [aP, aS] from rfl, hz] at h3
          exact h3
        rw [hz] at hgo
        obtain ⟨hE, hA1, hA2⟩ := fin hgo ⟨false, 0, hst2⟩
        subst hst2
        refine x r_move <| x (r_extract rfl rfl) <| x (r_extract rfl rfl) <| x (r_extract rfl rfl) <| x r_assign <| x r_assign <| x r_assign <| xe ?_
        refine W_seq <| W_seq <| W_region (by rfl) ?_
        refine x r_move <| x (r_neq rfl rfl) <| x r_move <| x r_move <| x (r_not rfl) <| x (r_pick rfl) <| xe ?_
        refine W_true rfl ?_
        refine W_seq <| W_region (by rfl) ?_
        refine x r_move <| x (r_lenA hA1 rfl) <| x r_move <| x (r_lenA hA2 rfl) <| x (r_add rfl rfl ⟨by decide, by decide⟩) <| x (r_eql rfl rfl) <| x r_move <| x r_move <| x (r_eql rfl rfl) <| x (r_pick rfl) <| x r_assign <| xe ?_
        exact W_ret ⟨[.bool (decide (afE aP aS u = 10))], ⟨rfl, trivial⟩, by rw [decide_eq_true hE]; rfl, hW15.trans hs28⟩
      · have hst2 : ∃ v', r28 = .tuple #[v', .bool true, .int .i64 0] ∧ IntsO 3 w15.heap.size w28 v' t' := by
          have h3 := hst'
          rw [show List.map (fun x : AV => x.a) [⟨pva, pvm, pve, aP⟩, ⟨sva, svm, sve, aS⟩] = [aP, aS] from rfl, hz] at h3
          exact h3
        rw [hz] at hgo
        have hV' := stepT_valid hPb.okay hV15 hz
        have hlt' : t'.length = 2 := hV'.1
        obtain ⟨v', rfl, ho'⟩ := hst2
        refine x r_move <| x (r_extract rfl rfl) <| x (r_extract rfl rfl) <| x (r_extract rfl rfl) <| x r_assign <| x r_assign <| x r_assign <| xe ?_
        refine W_seq <| W_seq <| W_region (by rfl) ?_
        refine x r_move <| x (r_neq rfl rfl) <| x r_move <| x r_move <| x (r_not rfl) <| x (r_pick rfl) <| xe ?_
        refine W_false rfl ?_
        refine W_skip ?_
        refine W_region (by rfl) ?_
        refine x r_move <| x r_assign <| xe ?_
        refine W_region (by rfl) ?_
        refine x r_move <| x (r_add rfl rfl ⟨by omega, by omega⟩) <| x r_assign <| xe ?_
        exact ⟨(i + 1, v', t'), by simp only []; omega, ⟨rfl, rfl, trivial⟩, hlt, hs15.trans hs28, IntsO.ints (L := []) ho' (by show t'.length ≤ _; omega) (by simp), hV', hgo⟩
    · rw [if_pos hee] at hev hgo
      have hst2 : r28 = .tuple #[nilS, .bool false, .int .i64 9] := by
        have h3 := hck (by show ckV [aP, aS] t e ≠ 0; rw [hev]; decide)
        rw [show List.map (fun x : AV => x.a) [⟨pva, pvm, pve, aP⟩, ⟨sva, svm, sve, aS⟩] = [aP, aS] from rfl, hev] at h3
        exact h3
      obtain ⟨hE, hA1, hA2⟩ := fin hgo ⟨false, 9, hst2⟩
      subst hst2
      refine x r_move <| x (r_extract rfl rfl) <| x (r_extract rfl rfl) <| x (r_extract rfl rfl) <| x r_assign <| x r_assign <| x r_assign <| xe ?_
      refine W_seq <| W_seq <| W_region (by rfl) ?_
      refine x r_move <| x (r_neq rfl rfl) <| x r_move <| xs rfl <| xs rfl <| x (r_pick rfl) <| xe ?_
      refine W_true rfl ?_
      refine W_seq <| W_region (by rfl) ?_
      refine x r_move <| x (r_lenA hA1 rfl) <| x r_move <| x (r_lenA hA2 rfl) <| x (r_add rfl rfl ⟨by decide, by decide⟩) <| x (r_eql rfl rfl) <| x r_move <| x r_move <| x (r_eql rfl rfl) <| x (r_pick rfl) <| x r_assign <| xe ?_
      exact W_ret ⟨[.bool (decide (afE aP aS u = 10))], ⟨rfl, trivial⟩, by rw [decide_eq_true hE]; rfl, hW15.trans hs28⟩
  refine exE ((ms.getD k 0 : Nat)) fun m hm => ?_
  have hkm : k < ms.length := h38.1
  have hm256 : m < 256 := by rw [← hm]; exact getD_lt hms k
  have hmk : ms[k]'hkm = m := by rw [← hm]; simp [List.getD, hkm]
  obtain ⟨ab, hab, h44⟩ := hb k hkm
  rw [hmk] at h44
  replace h44 := (h44.ext hW7).ext hs8
  have hvb' : vb = .slice (some ab) nb cb := by rw [hvb, hab]
  refine W_skip ?_
  refine W_seq <| W_block <| W_region (by rfl) ?_
  refine x r_move <| x r_move <| x r_move <| x (r_index (i := (k : Int)) hvb' rfl (by omega) (by omega)) <| ?_
  refine x (r_loadA h44 rfl) <| x (r_rem rfl rfl (by omega) (by omega)) <| x (r_conv rfl (by exact ⟨by omega, by omega⟩)) <|
    xl rfl <| o_lits (us := [[.int .i64 ((m : Int) % 5)]]) rfl rfl (by decide) (by simp) ⟨rfl, rfl, trivial⟩ fun b48 w31 hs31 hb48 hB48 => ?_
  have ho31 := own_ext ho8 hs31
  have hz31 := (hs8.trans hs31).size
  refine xl rfl <| o_app (news := [.int .i64 ((m : Int) % 5)]) (L := []) ho31 rfl rfl rfl (hB48.at (by simp)) (by simp [Value.oneCell']) (by omega) (by omega) fun v32 w32 ho32 hs32 hn32 =>
    x r_assign <| xe ?_
  have hge := own_ge ho8
  refine W_region (by rfl) ?_
  refine x r_move <| x (r_add rfl rfl ⟨by omega, by omega⟩) <| x r_assign <| xe ?_
  refine ⟨(k + 1, v32), by simp only []; omega, ⟨rfl, rfl, trivial⟩, hkm, by omega, (hs8.trans hs31).then hs32 (fun b hb => .inr (hge b hb).1), ?_⟩
  simp only []
  rw [List.take_succ_eq_append_getElem hkm, List.map_append, hmk]
  exact IntsO.snoc ho32
end Go.Proofs.YtfhgnlkdcdlblaaDoor
/- What a law's row asks of a call that returns true and turns nothing that was there. -/
namespace Go.Lg
open Go.ChangeShapes Go.WideShapes Go.RowKit
section
variable {H : Type} {enc : TypeId × Value → H} {P : Program}
/-- The arguments read as they did. -/
theorem carry_all (hl : laidOutB P = true) {W W' : World} (hS : Step [] W W') {sp : Nat → Bool} : ∀ {ts : List TypeId} {vs : List Value} {ds : List (DataW H)} {ps : List MemPlace},
    (ts.all fun t => P.readableRec t && decide (t < P.types.size)) = true → DataW.TrodAll enc P W 0 (fun _ => true) true ts vs ds ps → (∀ x ∈ ps, x.block < W.heap.size) → (∀ x ∈ ps, sp x.block = true) → DataW.TrodAll enc P W' 0 sp true ts vs ds ps
  | [], vs, ds, ps, _, h, _, _ => by
    obtain ⟨rfl, rfl, rfl⟩ := trodAll_nil h
    exact trodAll_mk0
  | t :: ts, vs, ds, ps, hr, h, hlt, hsp => by
    obtain ⟨v, vs1, d, ds1, a, b, rfl, rfl, rfl, h1, h2⟩ := trodAll_cons h
    simp only [List.all_cons, Bool.and_eq_true, decide_eq_true_eq] at hr
    have hb : Below W.heap.size W W' := hS.below
    refine trodAll_cons_mk (WideElems.Trod_stays hl hr.1.1 hr.1.2 h1 (fun x hx => hb.same (hlt x (List.mem_append_left _ hx))) (fun x hx => hsp x (List.mem_append_left _ hx))) ?_
    exact carry_all hl hS (by simpa using hr.2) h2 (fun x hx => hlt x (List.mem_append_right _ hx)) (fun x hx => hsp x (List.mem_append_right _ hx))
theorem law_post {f : Func} {s : ChangeSpec} {apart fresh handsOn again : Bool} {W W' : World} {args : Array Value} {ds gs : List (DataW H)} {before : List MemPlace} {tb : TypeId}
    (hl : laidOutB P = true) (hread : (f.params.toList.all fun t => P.readableRec t && decide (t < P.types.size)) = true) (hrt : f.resultTypes = #[tb]) (htb : P.underlying tb = some .bool) (hvr : s.vars = [])
    (hfn : s.fn H (ds ++ gs) = { results := [.lit (.bool true)], args := ds })
    (hW : DataW.Whole enc P f.params.toList s.vars apart W args.toList ds gs before) (hS : Step [] W W') : s.post enc P f apart fresh handsOn again W args (.bool true) W' := by
  have hlt := hW.lt
  have hW' := hW
  obtain ⟨p, q, hA, hV, rfl, hz, hn⟩ := hW
  rw [hvr] at hV
  obtain ⟨rfl, rfl⟩ := trodVars_none hV
  rw [List.append_nil] at *
  have hargs : ∀ sp : Nat → Bool, (∀ x ∈ p, sp x.block = true) → DataW.TrodAll enc P W' 0 sp true f.params.toList args.toList ds p := fun sp hsp => carry_all hl hS hread hA hlt hsp
  have hres : ∀ (b : Nat) (sp : Nat → Bool) (hd : Bool), DataW.TrodAll enc P W' b sp hd f.resultTypes.toList ((Value.bool true).resultList f.resultTypes.size) [.lit (.bool true)] [] := fun b sp hd => by
    rw [hrt]; exact trodAll_mk1 (shut_bool htb true)
  have hb : Below W.heap.size W W' := hS.below
  have hvars : ∀ sp : Nat → Bool, DataW.TrodVars enc P W' sp s.vars ([] : List (DataW H)) [] := fun sp => by rw [hvr]; rfl
  have hfn1 : (s.fn H ds).results = [.lit (.bool true)] := by rw [hfn]
  have hfn2 : (s.fn H ds).args = ds := by rw [hfn]
  have hfn3 : (s.fn H ds).vars = [] := by rw [hfn]
  have hok : ∀ (j : Nat) (t : TypeId) (r : Value), f.resultTypes[j]? = some t → ((Value.bool true).resultList f.resultTypes.size)[j]? = some r → Value.okWide P W' .any 0 t r := ok_one hrt rfl (okWide_bool_mk htb true)
  refine ⟨ds, [], p, [], p, [], hW', ?_, ?_, ?_, ?_, fun _ => ⟨hok, [.lit (.bool true)] ++ ds, [], ([] ++ p) ++ [], ⟨[] ++ p, [], ?_, ?_, rfl, ?_, ?_⟩, ?_⟩⟩
  · rw [List.append_nil, hfn1]; exact hres _ _ _
  · rw [List.append_nil, hfn2]; exact hargs _ (fun x hx => by simpa using hlt x hx)
  · rw [List.append_nil, hfn3]; exact hvars _
  · exact World.keptBut_mono (fun _ f => f.elim) (hb.frame (fun _ => False))
  · exact trodAll_append (hargs _ (fun _ _ => rfl)) (hres _ _ _)
  · exact hvars _
  · intro b off hp
    have hp' : MemPlace.cell b off ∈ p := by simpa using hp
    rw [hb.frozen (p := ⟨b, off, none⟩) (hlt _ hp')]
    exact hz b off hp'
  · intro ha
    have := hn ha
    simpa using this
  · intro x hx _
    simpa using hx
end
end Go.Lg
/- Arguments of laws: structs of bytes, slices of bytes. -/
namespace Go.Proofs.YtfhgnlkdcdlblaaDoor
open Go.ChangeShapes Go.WideShapes Go.RowKit Go.Lg

def isU8 (P : Program) (u : TypeId) : Bool := match P.underlying u with
  | some (.int .u8) => true
  | _ => false
theorem isU8_spec {P : Program} {u : TypeId} (h : isU8 P u = true) : P.underlying u = some (.int .u8) := by
  unfold isU8 at h
  split at h
  · assumption
  · cases h
theorem bys_of : ∀ (l : List Value), (∀ v ∈ l, ∃ n : Nat, v = .int .u8 (n : Int) ∧ n < 256) → ∃ ns : List Nat, l = bys ns ∧ ns.length = l.length ∧ ∀ n ∈ ns, n < 256
  | [], _ => ⟨[], rfl, rfl, by simp⟩
  | v :: l, h => by
    obtain ⟨n, rfl, hn⟩ := h v List.mem_cons_self
    obtain ⟨ns, h1, h2, h3⟩ := bys_of l (fun v hv => h v (List.mem_cons_of_mem _ hv))
    refine ⟨n :: ns, by rw [h1]; rfl, by simp [h2], fun m hm => ?_⟩
    rcases List.mem_cons.1 hm with rfl | hm
    · exact hn
    · exact h3 m hm
/-- A struct of bytes alone: its cells. -/
theorem bytes_of {P : Program} {W : World} {base t m : Nat} {v : Value} {fs : Array Field} (hu : P.underlying t = some (.struct fs)) (hts : ((P.cellTypes P.depth t).map fun ts => ts.all (isU8 P)) = some true) (hc : P.cellsOf t = m) (hval : Value.okWide P W .any base t v) :
    ∃ ns : List Nat, v = .agg (bys ns).toArray ∧ ns.length = m ∧ ∀ n ∈ ns, n < 256 := by
  simp only [Value.okWide, hu] at hval
  obtain ⟨cs, rfl, hsz, ts, hts', _, hcell⟩ := hval
  rw [hts'] at hts
  simp only [Option.map_some, Option.some.injEq] at hts
  obtain ⟨l⟩ := cs
  obtain ⟨ns, h1, h2, h3⟩ := bys_of l (fun v hv => by
    obtain ⟨i, hi, rfl⟩ := List.getElem_of_mem hv
    obtain ⟨u, hu1, hu2⟩ := hcell i l[i] (by simp [hi])
    have hu3 := isU8_spec (List.all_eq_true.1 hts u (List.mem_of_getElem? hu1))
    simp only [Cell.okWide, hu3] at hu2
    generalize l[i] = x at hu2
    cases x <;> simp only [Cell.ok, hu3] at hu2
    obtain ⟨rfl, hr⟩ := hu2
    simp only [IntKind.has] at hr
    rw [show IntKind.u8.min = 0 from rfl, show IntKind.u8.max = 255 from rfl] at hr
    rename_i n
    exact ⟨n.toNat, by rw [Int.toNat_of_nonneg hr.1], by omega⟩)
  subst h1
  refine ⟨ns, rfl, ?_, h3⟩
  rw [h2, ← hc, ← hsz]; rfl
theorem At.of_cell {w : World} {a : Addr} {u : Value} (h : w.cell? a = some u) : At [] w.heap a [u] := by
  have hc : cel w.heap a = some u := h
  refine ⟨by simp, ?_, fun j v hv => ?_⟩
  · unfold cel at hc
    cases hb : w.heap[a.block]? with
    | none => rw [hb] at hc; cases hc
    | some o => exact (Array.getElem?_eq_some_iff.1 hb).1
  · cases j with
    | zero => simp at hv; subst hv; rw [show a.add 0 = a by simp [Addr.add]]; exact hc
    | succ j => simp at hv
theorem wf_nat {n : Int} (h : (Lit.int .u8 n).wf = true) : ∃ m : Nat, n = m ∧ m < 256 := by
  simp only [Lit.wf, Bool.and_eq_true, decide_eq_true_eq] at h
  rw [show IntKind.u8.min = 0 from rfl, show IntKind.u8.max = 255 from rfl] at h
  exact ⟨n.toNat, by omega, by omega⟩
/-- The first bytes of a slice that is handed over. -/
theorem bytes_slice {H : Type} {enc : TypeId × Value → H} {P : Program} {W : World} {base : Nat} {sp : Nat → Bool} {held : Bool} {t e : TypeId} {ad : Option Addr} {nb cb : Nat} {d : DataW H} {ps : List MemPlace} (ht : P.underlying t = some (.slice e)) (he : P.underlying e = some (.int .u8)) (hc : P.cellsOf e = 1)
    (h : DataW.Trod enc P W base sp held t (.slice ad nb cb) d ps) (m : Nat) :
    ∃ ms : List Nat, ms.length = min nb m ∧ (∀ k (hk : k < ms.length), ∃ a, ad = some a ∧ At [] W.heap (a.add (k * 1)) [.int .u8 ((ms[k]'hk : Nat) : Int)]) ∧ ∀ n ∈ ms, n < 256 := by
  obtain ⟨fuel, hf⟩ := h
  rcases open_ints ht he hc hf with ⟨hcs, _⟩ | ⟨a, len, cap, zs, hcs, _, hl, _, hz, _, hcell, hwz⟩
  · simp [Value.cells] at hcs
    obtain ⟨rfl, rfl, rfl⟩ := hcs
    exact ⟨[], by simp, fun k hk => by simp at hk, by simp⟩
  · simp [Value.cells] at hcs
    obtain ⟨rfl, rfl, rfl⟩ := hcs
    have hzl : nb ≤ zs.length := by rw [hz]; split <;> omega
    have hget : ∀ k, k < min nb m → ∃ n : Nat, zs.getD k 0 = (n : Int) ∧ n < 256 := fun k hk => wf_nat (hwz _ (by simp [List.getD, show k < zs.length by omega]))
    refine ⟨(zs.take (min nb m)).map Int.toNat, by simp; omega, fun k hk => ⟨a, rfl, ?_⟩, fun n hn => ?_⟩
    · have hk' : k < min nb m := by simp at hk; omega
      obtain ⟨n, hn, _⟩ := hget k hk'
      have h1 := hcell k (by omega)
      rw [hn] at h1
      have e1 : (((zs.take (min nb m)).map Int.toNat)[k]'hk : Nat) = n := by
        rw [List.getElem_map, List.getElem_take]
        have : zs[k]'(by omega) = zs.getD k 0 := by simp [List.getD, show k < zs.length by omega]
        rw [this, hn]; rfl
      rw [e1, Nat.mul_one]
      exact At.of_cell h1
    · obtain ⟨z, hz', rfl⟩ := List.mem_map.1 hn
      obtain ⟨n, rfl, hn2⟩ := wf_nat (hwz z (List.mem_of_mem_take hz'))
      simpa using hn2
end Go.Proofs.YtfhgnlkdcdlblaaDoor
