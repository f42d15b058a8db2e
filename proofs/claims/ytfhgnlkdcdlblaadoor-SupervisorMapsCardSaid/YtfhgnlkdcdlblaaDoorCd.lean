/- Contracts: alphabet.merge and what is made of it; slices.Clone. -/
import Derived.Test.YtfhgnlkdcdlblaaDoorCc
namespace Go.Proofs.YtfhgnlkdcdlblaaDoor
open Go.Lg

theorem clone_ok {L : List Nat} {w : World} {v : Value} {l : List Int} (h : Ints L w.heap v l) :
    Ret Tryd.prog 38 [v] w fun r w' => Step [] w w' ∧ IntsO 3 w.heap.size w' r l := by
  have hle := h.le
  refine Ret.of_W Tryd.func38 rfl Tryd.ntmps38 Tryd.results38 (by simp) ?_
  refine W_seq <| W_region (by rfl) ?_
  refine x r_assign <| xe ?_
  obtain ⟨ao, cap, hv⟩ := h.shape
  refine W_seq <| W_seq <| W_region (by rfl) ?_
  refine x r_move <| x (r_eqnil (show ev _ _ = _ from hv) rfl) <| xe ?_
  refine W_cond rfl (fun h4 => ?_) (fun h4 => ?_)
  · refine W_seq <| W_region (by rfl) ?_
    refine x r_assign <| xe ?_
    refine W_ret ⟨[.slice none 0 0], ⟨rfl, trivial⟩, Step.refl _ _, ?_⟩
    rcases h.2.2 with ⟨h1, h2⟩ | ⟨a, c, h1, _⟩
    · have : l = [] := List.eq_nil_of_length_eq_zero h2
      subst this; exact own_nil _ _ _ _
    · rw [h1] at hv; cases hv; cases h4
  rcases h.2.2 with ⟨h1, h2⟩ | ⟨a, c, h1, h2, h3⟩
  · rw [h1] at hv; injection hv with e1; subst e1; cases h4
  refine W_skip ?_
  refine W_seq <| W_region (by rfl) ?_
  refine xl rfl <| o_lit0 fun b5 w1 hs1 hb5 hB5 => x r_move <| xl rfl <| o_app (base := w.heap.size) (hB5.own (n := 0) (sz := 1) rfl (by omega) hb5) rfl (show ev _ _ = _ from h1) (by simp) (h3.ext hs1) (one_ints l) (by omega) (by have := hB5.lt; omega) fun v2 w2 ho2 hs2 hn2 => x r_assign <| xe ?_
  refine W_ret ⟨[v2], ⟨rfl, trivial⟩, hs1.then1 hs2 hb5, ?_⟩
  simpa [tup] using ho2

theorem merge_ok {g : Nat} {fn : Func} [Fu Tryd.prog g fn] {keep : Bool → Bool → Bool} (hk : ∀ (p q : Bool) (w : World), Ret Tryd.prog g [.bool p, .bool q] w fun r w' => r = .bool (keep p q) ∧ w' = w)
    {L L' : List Nat} {w : World} {va vb : Value} {a b : List Int} (ha : Ints L w.heap va a) (hb : Ints L' w.heap vb b) (hlen : a.length + b.length ≤ 1099511627776) :
    Ret Tryd.prog 67 [va, vb, .func (.func g) #[] #[]] w fun r w' => Step [] w w' ∧ IntsO 3 w.heap.size w' r (mrg keep a b) := by
  refine Ret.of_W Tryd.func67 rfl Tryd.ntmps67 Tryd.results67 (by simp) ?_
  refine W_seq <| W_region (by rfl) ?_
  refine x r_assign <| xe ?_
  refine W_seq <| W_region (by rfl) ?_
  refine x r_assign <| xe ?_
  refine W_seq <| W_block <| W_loop (α := (List Int × Value) × (List Int × Value) × (List Int × Value)) [(0, 1), (7, 72)] (fun z => [(0, z.1.2), (1, z.2.1.2), (7, z.2.2.2)])
    (fun z w' => Ints L w.heap z.1.2 z.1.1 ∧ Ints L' w.heap z.2.1.2 z.2.1.1 ∧ IntsO 3 w.heap.size w' z.2.2.2 z.2.2.1 ∧ Step [] w w' ∧ z.2.2.1 ++ mrg keep z.1.1 z.2.1.1 = mrg keep a b ∧ z.2.2.1.length + z.1.1.length + z.2.1.1.length ≤ 1099511627776)
    (fun z => z.1.1.length + z.2.1.1.length) (by rfl) ((a, va), (b, vb), ([], .slice none 0 0)) ⟨rfl, rfl, rfl, trivial⟩ ⟨ha, hb, own_nil _ _ _ _, Step.refl _ _, rfl, by simp; omega⟩ ?_
  clear ha hb
  rintro ⟨⟨a1, va1⟩, ⟨b1, vb1⟩, ⟨o, vo⟩⟩ g1 w1 ⟨ha, hb, ho, hs, hm, hl⟩
  simp only [] at ha hb ho hs hm hl
  refine W_seq <| W_cut (α := Bool) [(11, 18)] (fun z => [(18, .bool z)]) (fun z w' => w' = w1 ∧ z = decide (¬ (a1 = [] ∧ b1 = []))) (by rfl) ?_ ?_
  · refine W_region (by rfl) ?_
    refine x r_move <| x (r_lenA ha rfl) <| xb (r_gtr rfl rfl) (fun h13 => ?_) (fun h13 => ?_)
    · refine x r_move <| xs rfl <| xs rfl <| xs rfl <| x (r_pick rfl) <| xe ?_
      have : a1 ≠ [] := by intro e; subst e; simp at h13
      exact ⟨true, ⟨rfl, trivial⟩, rfl, by simp [this]⟩
    refine x r_move <| x r_move <| x (r_lenA hb rfl) <| x (r_gtr rfl rfl) <| x (r_pick rfl) <| xe ?_
    have : a1 = [] := List.eq_nil_of_length_eq_zero (by omega)
    refine ⟨_, ⟨rfl, trivial⟩, rfl, ?_⟩
    cases b1 <;> simp [this]
  rintro z g2 w2 ⟨rfl, rfl⟩
  refine W_ifn rfl (fun h18 => ?_) (fun h18 => ?_)
  · refine W_exit ?_
    refine W_seq <| W_region (by rfl) ?_
    refine x r_move <| x r_assign <| xe ?_
    refine W_ret ⟨[vo], ⟨rfl, trivial⟩, hs, ?_⟩
    obtain ⟨rfl, rfl⟩ := Decidable.not_not.1 h18
    rw [mrg_nil, List.append_nil] at hm
    rw [← hm]; exact ho
  refine W_skip ?_
  rw [mrg_step keep h18] at hm
  have hlt := inA_tl h18
  have hla := ha.le
  have hlb := hb.le
  -- the two tests
  refine W_block <| W_cut (α := Bool) [(8, 8), (19, 35)] (fun z => [(8, .bool z)]) (fun z w' => Step [] w2 w' ∧ z = inA a1 b1) (by rfl) ?_ ?_
  · refine W_draw (Step [] w2) [(0, true), (1, true), (2, true), (3, true), (4, true), (5, true), (6, true), (7, true), (8, true), (9, true), (10, true), (11, true), (12, true), (13, true), (14, true), (15, true), (16, true), (17, true)] Tryd.mixed (by rfl) (by kernel_rfl) (Step.drew _ _) ?_
    refine p (fun _ => r_move) <| p (fun _ => r_lenA ha rfl) <| pb (fun _ => r_gtr rfl rfl) (fun h21 => ?_) (fun h21 => ?_)
    · refine p (fun _ => r_move) <| p (fun _ => r_move) <| p (fun _ => r_lenA hb rfl) <| pb (fun _ => r_eql rfl rfl) (fun h25 => ?_) (fun h25 => ?_)
      · refine p (fun _ => r_move) <| ps <| ps <| ps <| ps <| ps <| ps <| ps <| p (fun _ => r_pick rfl) <| p (fun _ => r_pick rfl) <| p (fun _ => r_assign) <| pe ?_
        refine ⟨true, ⟨rfl, trivial⟩, Step.drew _ _, ?_⟩
        have : b1 = [] := List.eq_nil_of_length_eq_zero (by omega)
        subst this
        cases a1 with
        | nil => simp at h21
        | cons y a1 => rfl
      have hA : 0 < a1.length := by omega
      have hB : 0 < b1.length := by omega
      refine p (fun _ => r_move) <| p (fun _ => r_move) <| pii rfl (i := 0) (ha.ext hs) rfl rfl hA fun a28 h28 => pq (fun _ hc => r_loadA (h28.ext hc) rfl) <|
        p (fun _ => r_move) <| pii rfl (i := 0) (hb.ext hs) rfl rfl hB fun a31 h31 => pq (fun _ hc => r_loadA (h31.ext hc) rfl) <| p (fun _ => r_leq rfl rfl) <|
        p (fun _ => r_pick rfl) <| p (fun _ => r_pick rfl) <| p (fun _ => r_assign) <| pe ?_
      refine ⟨_, ⟨rfl, trivial⟩, Step.drew _ _, ?_⟩
      cases a1 with
      | nil => simp at hA
      | cons y a1 => cases b1 with
        | nil => simp at hB
        | cons z b1 => rfl
    refine p (fun _ => r_move) <| ps <| ps <| ps <| ps <| ps <| ps <| ps <| ps <| ps <| ps <| ps <| ps <| p (fun _ => r_pick rfl) <| p (fun _ => r_assign) <| pe ?_
    refine ⟨false, ⟨rfl, trivial⟩, Step.drew _ _, ?_⟩
    have : a1 = [] := List.eq_nil_of_length_eq_zero (by omega)
    subst this; rfl
  rintro z g3 w3 ⟨hs3, rfl⟩
  replace ho := own_ext ho hs3
  replace hs := hs.trans hs3
  refine W_cut (α := Bool) [(9, 9), (36, 52)] (fun z => [(9, .bool z)]) (fun z w' => Step [] w3 w' ∧ z = inA b1 a1) (by rfl) ?_ ?_
  · refine W_draw (Step [] w3) [(0, true), (1, true), (2, true), (3, true), (4, true), (5, true), (6, true), (7, true), (8, true), (9, true), (10, true), (11, true), (12, true), (13, true), (14, true), (15, true), (16, true), (17, true)] Tryd.mixed (by rfl) (by kernel_rfl) (Step.drew _ _) ?_
    refine p (fun _ => r_move) <| p (fun _ => r_lenA hb rfl) <| pb (fun _ => r_gtr rfl rfl) (fun h38 => ?_) (fun h38 => ?_)
    · refine p (fun _ => r_move) <| p (fun _ => r_move) <| p (fun _ => r_lenA ha rfl) <| pb (fun _ => r_eql rfl rfl) (fun h42 => ?_) (fun h42 => ?_)
      · refine p (fun _ => r_move) <| ps <| ps <| ps <| ps <| ps <| ps <| ps <| p (fun _ => r_pick rfl) <| p (fun _ => r_pick rfl) <| p (fun _ => r_assign) <| pe ?_
        refine ⟨true, ⟨rfl, trivial⟩, Step.drew _ _, ?_⟩
        have : a1 = [] := List.eq_nil_of_length_eq_zero (by omega)
        subst this
        cases b1 with
        | nil => simp at h38
        | cons y b1 => rfl
      have hA : 0 < a1.length := by omega
      have hB : 0 < b1.length := by omega
      refine p (fun _ => r_move) <| p (fun _ => r_move) <| pii rfl (i := 0) (hb.ext hs) rfl rfl hB fun a45 h45 => pq (fun _ hc => r_loadA (h45.ext hc) rfl) <|
        p (fun _ => r_move) <| pii rfl (i := 0) (ha.ext hs) rfl rfl hA fun a48 h48 => pq (fun _ hc => r_loadA (h48.ext hc) rfl) <| p (fun _ => r_leq rfl rfl) <|
        p (fun _ => r_pick rfl) <| p (fun _ => r_pick rfl) <| p (fun _ => r_assign) <| pe ?_
      refine ⟨_, ⟨rfl, trivial⟩, Step.drew _ _, ?_⟩
      cases a1 with
      | nil => simp at hA
      | cons y a1 => cases b1 with
        | nil => simp at hB
        | cons z b1 => rfl
    refine p (fun _ => r_move) <| ps <| ps <| ps <| ps <| ps <| ps <| ps <| ps <| ps <| ps <| ps <| ps <| p (fun _ => r_pick rfl) <| p (fun _ => r_assign) <| pe ?_
    refine ⟨false, ⟨rfl, trivial⟩, Step.drew _ _, ?_⟩
    have : b1 = [] := List.eq_nil_of_length_eq_zero (by omega)
    subst this; rfl
  rintro z g4 w4 ⟨hs4, rfl⟩
  replace ho := own_ext ho hs4
  replace hs := hs.trans hs4
  refine W_seq <| W_region (by rfl) ?_
  refine x r_assign <| xe ?_
  -- a's head
  refine W_cut (α := Value) [(0, 0), (10, 10), (53, 58)] (fun z => [(0, z), (10, .int .i64 (bif inA a1 b1 then a1.headD 0 else 0))]) (fun z w' => Step [] w4 w' ∧ Ints L w.heap z (tl (inA a1 b1) a1)) (by rfl) ?_ ?_
  · refine W_seq <| W_region (by rfl) ?_
    refine x r_move <| xe ?_
    refine W_cond rfl (fun h53 => ?_) (fun h53 => ?_)
    · have hA : 0 < a1.length := by cases a1 with | nil => simp [inA] at h53 | cons y a1 => simp
      refine W_draw (Step [] w4) [(0, true), (1, true), (2, true), (3, true), (4, true), (5, true), (6, true)] Tryd.mixed (by rfl) (by kernel_rfl) (Step.drew _ _) ?_
      refine p (fun _ => r_move) <| pii rfl (i := 0) (ha.ext hs) rfl rfl hA fun a55 h55 => pq (fun _ hc => r_loadA (h55.ext hc) rfl) <| p (fun _ => r_move) <|
        pslL rfl (lo := 1) ha rfl rfl hA fun v' hv' => p (fun _ => r_assign) <| p (fun _ => r_assign) <| pe ?_
      have hv2 := Ints.drop hv'
      refine ⟨v', ⟨rfl, ?_, trivial⟩, Step.drew _ _, ?_⟩
      · show Value.int .i64 a1[0] = _
        rw [h53]; cases a1 with | nil => simp at hA | cons y a1 => rfl
      · rw [h53]; simpa [tl] using hv2
    refine W_skip ?_
    refine ⟨va1, ⟨rfl, by show _ = _; rw [h53]; rfl, trivial⟩, Step.refl _ _, ?_⟩
    rw [h53]; exact ha
  rintro va2 g5 w5 ⟨hs5, ha2⟩
  replace ho := own_ext ho hs5
  replace hs := hs.trans hs5
  -- b's head
  refine W_cut (α := Value) [(1, 1), (10, 10), (59, 64)] (fun z => [(1, z), (10, .int .i64 (bif inA b1 a1 then b1.headD 0 else bif inA a1 b1 then a1.headD 0 else 0))]) (fun z w' => Step [] w5 w' ∧ Ints L' w.heap z (tl (inA b1 a1) b1)) (by rfl) ?_ ?_
  · refine W_seq <| W_region (by rfl) ?_
    refine x r_move <| xe ?_
    refine W_cond rfl (fun h59 => ?_) (fun h59 => ?_)
    · have hB : 0 < b1.length := by cases b1 with | nil => simp [inA] at h59 | cons y b1 => simp
      refine W_draw (Step [] w5) [(0, true), (1, true), (2, true), (3, true), (4, true), (5, true), (6, true)] Tryd.mixed (by rfl) (by kernel_rfl) (Step.drew _ _) ?_
      refine p (fun _ => r_move) <| pii rfl (i := 0) (hb.ext hs) rfl rfl hB fun a55 h55 => pq (fun _ hc => r_loadA (h55.ext hc) rfl) <| p (fun _ => r_move) <|
        pslL rfl (lo := 1) hb rfl rfl hB fun v' hv' => p (fun _ => r_assign) <| p (fun _ => r_assign) <| pe ?_
      have hv2 := Ints.drop hv'
      refine ⟨v', ⟨rfl, ?_, trivial⟩, Step.drew _ _, ?_⟩
      · show Value.int .i64 b1[0] = _
        rw [h59]; cases b1 with | nil => simp at hB | cons y b1 => rfl
      · rw [h59]; simpa [tl] using hv2
    refine W_skip ?_
    refine ⟨vb1, ⟨rfl, by show _ = _; rw [h59]; rfl, trivial⟩, Step.refl _ _, ?_⟩
    rw [h59]; exact hb
  rintro vb2 g6 w6 ⟨hs6, hb2⟩
  replace ho := own_ext ho hs6
  replace hs := hs.trans hs6
  have hxe : (bif inA b1 a1 then b1.headD 0 else bif inA a1 b1 then a1.headD 0 else 0) = hx a1 b1 := by
    unfold hx
    cases e : inA b1 a1 with
    | true => rfl
    | false =>
      cases e2 : inA a1 b1 with
      | true => rfl
      | false => rw [e, e2] at hlt; simp [tl] at hlt
  refine W_seq <| W_region (by rfl) ?_
  refine x r_move <| x r_move <| x r_move <| xl rfl <| xc (first := []) (capt := []) rfl <| (hk _ _ _).mono ?_
  rintro r7 w7 ⟨rfl, rfl⟩
  refine xe ?_
  refine W_cond rfl (fun h68 => ?_) (fun h68 => ?_)
  · refine W_region (by rfl) ?_
    rw [h68, cond_true] at hm
    refine x r_move <| x r_move <| xl rfl <| o_lits (us := [[.int .i64 (hx a1 b1)]]) rfl rfl (by decide) (by simp) ⟨by rw [← hxe]; rfl, rfl, trivial⟩ fun b71 w8 hs8 hb71 hB71 =>
      xl rfl <| o_app (news := [.int .i64 (hx a1 b1)]) (L := []) (own_ext ho hs8) rfl rfl rfl (hB71.at (by simp)) (by simp [Value.oneCell']) (by omega) (by have := hs.size; have := hs8.size; omega) fun v9 w9 ho9 hs9 hn9 => x r_assign <| xe ?_
    have hge := own_ge ho
    refine ⟨((tl (inA a1 b1) a1, va2), (tl (inA b1 a1) b1, vb2), (o ++ [hx a1 b1], v9)), by simp only []; omega, ⟨rfl, rfl, rfl, trivial⟩, ha2, hb2, ?_, (hs.trans hs8).then hs9 (fun b hb => .inr (hge b hb).1), by rw [List.append_assoc]; exact hm, by simp only [List.length_append, List.length_singleton]; omega⟩
    exact IntsO.snoc ho9
  rw [h68, cond_false, List.nil_append] at hm
  refine W_skip ?_
  exact ⟨((tl (inA a1 b1) a1, va2), (tl (inA b1 a1) b1, vb2), (o, vo)), by simp only []; omega, ⟨rfl, rfl, rfl, trivial⟩, ha2, hb2, ho, hs, hm, by simp only []; omega⟩

theorem and_ok (p q : Bool) (w : World) : Ret Tryd.prog 68 [.bool p, .bool q] w fun r w' => r = .bool (p && q) ∧ w' = w := by
  refine Ret.of_W Tryd.func68 rfl Tryd.ntmps68 Tryd.results68 (by simp) ?_
  refine W_seq <| W_region (by rfl) ?_
  refine x r_assign <| xe ?_
  refine W_seq <| W_region (by rfl) ?_
  cases p
  · refine x r_move <| x r_move <| xs rfl <| x (r_pick rfl) <| x r_assign <| xe ?_
    exact W_ret ⟨[.bool false], ⟨rfl, trivial⟩, rfl, rfl⟩
  · refine x r_move <| x r_move <| x r_move <| x (r_pick rfl) <| x r_assign <| xe ?_
    exact W_ret ⟨[.bool q], ⟨rfl, trivial⟩, rfl, rfl⟩
theorem or_ok (p q : Bool) (w : World) : Ret Tryd.prog 73 [.bool p, .bool q] w fun r w' => r = .bool (p || q) ∧ w' = w := by
  refine Ret.of_W Tryd.func73 rfl Tryd.ntmps73 Tryd.results73 (by simp) ?_
  refine W_seq <| W_region (by rfl) ?_
  refine x r_assign <| xe ?_
  refine W_seq <| W_region (by rfl) ?_
  cases p
  · refine x r_move <| x r_move <| x r_move <| x (r_pick rfl) <| x r_assign <| xe ?_
    exact W_ret ⟨[.bool q], ⟨rfl, trivial⟩, rfl, rfl⟩
  · refine x r_move <| x r_move <| xs rfl <| x (r_pick rfl) <| x r_assign <| xe ?_
    exact W_ret ⟨[.bool true], ⟨rfl, trivial⟩, rfl, rfl⟩
theorem minus_ok (p q : Bool) (w : World) : Ret Tryd.prog 87 [.bool p, .bool q] w fun r w' => r = .bool (p && !q) ∧ w' = w := by
  refine Ret.of_W Tryd.func87 rfl Tryd.ntmps87 Tryd.results87 (by simp) ?_
  refine W_seq <| W_region (by rfl) ?_
  refine x r_assign <| xe ?_
  refine W_seq <| W_region (by rfl) ?_
  cases p
  · refine x r_move <| x r_move <| xs rfl <| xs rfl <| x (r_pick rfl) <| x r_assign <| xe ?_
    exact W_ret ⟨[.bool false], ⟨rfl, trivial⟩, rfl, rfl⟩
  · refine x r_move <| x r_move <| x r_move <| x (r_not rfl) <| x (r_pick rfl) <| x r_assign <| xe ?_
    exact W_ret ⟨[.bool (!q)], ⟨rfl, trivial⟩, rfl, rfl⟩
theorem Intersect_ok {L L' : List Nat} {w : World} {va vb : Value} {a b : List Int} (ha : Ints L w.heap va a) (hb : Ints L' w.heap vb b) (hlen : a.length + b.length ≤ 1099511627776) :
    Ret Tryd.prog 35 [va, vb] w fun r w' => Step [] w w' ∧ IntsO 3 w.heap.size w' r (mrg (· && ·) a b) := by
  refine Ret.of_W Tryd.func35 rfl Tryd.ntmps35 Tryd.results35 (by simp) ?_
  refine W_seq <| W_region (by rfl) ?_
  refine x r_assign <| xe ?_
  refine W_seq <| W_region (by rfl) ?_
  refine x r_move <| x r_move <| xl rfl <| xf <| (merge_ok and_ok ha hb hlen).mono ?_
  rintro r1 w1 ⟨hs, ho⟩
  refine x r_assign <| xe ?_
  exact W_ret ⟨[r1], ⟨rfl, trivial⟩, hs, ho⟩
theorem Union_ok {L L' : List Nat} {w : World} {va vb : Value} {a b : List Int} (ha : Ints L w.heap va a) (hb : Ints L' w.heap vb b) (hlen : a.length + b.length ≤ 1099511627776) :
    Ret Tryd.prog 41 [va, vb] w fun r w' => Step [] w w' ∧ IntsO 3 w.heap.size w' r (mrg (· || ·) a b) := by
  refine Ret.of_W Tryd.func41 rfl Tryd.ntmps41 Tryd.results41 (by simp) ?_
  refine W_seq <| W_region (by rfl) ?_
  refine x r_assign <| xe ?_
  refine W_seq <| W_region (by rfl) ?_
  refine x r_move <| x r_move <| xl rfl <| xf <| (merge_ok or_ok ha hb hlen).mono ?_
  rintro r1 w1 ⟨hs, ho⟩
  refine x r_assign <| xe ?_
  exact W_ret ⟨[r1], ⟨rfl, trivial⟩, hs, ho⟩
theorem Minus_ok {L L' : List Nat} {w : World} {va vb : Value} {a b : List Int} (ha : Ints L w.heap va a) (hb : Ints L' w.heap vb b) (hlen : a.length + b.length ≤ 1099511627776) :
    Ret Tryd.prog 60 [va, vb] w fun r w' => Step [] w w' ∧ IntsO 3 w.heap.size w' r (mrg (fun p q => p && !q) a b) := by
  refine Ret.of_W Tryd.func60 rfl Tryd.ntmps60 Tryd.results60 (by simp) ?_
  refine W_seq <| W_region (by rfl) ?_
  refine x r_assign <| xe ?_
  refine W_seq <| W_region (by rfl) ?_
  refine x r_move <| x r_move <| xl rfl <| xf <| (merge_ok minus_ok ha hb hlen).mono ?_
  rintro r1 w1 ⟨hs, ho⟩
  refine x r_assign <| xe ?_
  exact W_ret ⟨[r1], ⟨rfl, trivial⟩, hs, ho⟩
theorem Subset_ok {L L' : List Nat} {w : World} {va vb : Value} {a b : List Int} (ha : Ints L w.heap va a) (hb : Ints L' w.heap vb b) (hlen : a.length + b.length ≤ 1099511627776) :
    Ret Tryd.prog 69 [va, vb] w fun r w' => Step [] w w' ∧ r = .bool (decide (mrg (fun p q => p && !q) a b = [])) := by
  refine Ret.of_W Tryd.func69 rfl Tryd.ntmps69 Tryd.results69 (by simp) ?_
  refine W_seq <| W_region (by rfl) ?_
  refine x r_assign <| xe ?_
  refine W_seq <| W_region (by rfl) ?_
  refine x r_move <| x r_move <| xl rfl <| xf <| (Minus_ok ha hb hlen).mono ?_
  rintro r1 w1 ⟨hs, ho⟩
  have hm := mrg_len (fun p q => p && !q) a b
  have hi := IntsO.ints (L := []) ho (by omega) (by simp)
  refine x (r_lenA hi rfl) <| x (r_eql rfl rfl) <| x r_assign <| xe ?_
  refine W_ret ⟨[.bool (decide (((mrg (fun p q => p && !q) a b).length : Int) = 0))], ⟨rfl, trivial⟩, hs, ?_⟩
  simp [tup]
end Go.Proofs.YtfhgnlkdcdlblaaDoor
