/- Contracts: slices.BinarySearchFunc on edges, automaton.out. -/
import Derived.Test.YtfhgnlkdcdlblaaDoorCd
namespace Go.Proofs.YtfhgnlkdcdlblaaDoor
open Go.Lg

theorem bsf_ok {g : Nat} {fn : Func} [Fu Tryd.prog g fn] (hk : ∀ (e : Ed) (s : Int) (w : World), 0 ≤ e.1 → e.1 ≤ 1099511627776 → 0 ≤ s → s ≤ 1099511627776 → Ret Tryd.prog g [.agg (edCells e).toArray, .int .i64 s] w fun r w' => r = .int .i64 (e.1 - s) ∧ Step [] w w')
    {L : List Nat} {w : World} {v : Value} {es : List Ed} (h : Eds L w.heap v es) (hi : es.Pairwise (fun a b => a.1 ≤ b.1)) (hb : ∀ e ∈ es, 0 ≤ e.1 ∧ e.1 ≤ 1099511627776) (s : Int) (hs0 : 0 ≤ s) (hs1 : s ≤ 1099511627776) :
    Ret Tryd.prog 89 [v, .int .i64 s, .func (.func g) #[] #[]] w fun r w' => Step [] w w' ∧ ∃ (i : Nat) (b : Bool), r = .tuple #[.int .i64 i, .bool b] ∧ i ≤ es.length ∧
      (∀ m (hm : m < es.length), m < i → es[m].1 < s) ∧ (∀ m (hm : m < es.length), i ≤ m → s ≤ es[m].1) := by
  have hle := h.le
  have hget : ∀ {i j : Nat} (hj : j < es.length) (hij : i < j), es[i].1 ≤ es[j].1 := fun {i j} hj hij => List.pairwise_iff_getElem.1 hi i j (by omega) hj hij
  have hbd : ∀ m (hm : m < es.length), 0 ≤ es[m].1 ∧ es[m].1 ≤ 1099511627776 := fun m hm => hb _ (List.getElem_mem hm)
  refine Ret.of_W Tryd.func89 rfl Tryd.ntmps89 Tryd.results89 (by simp) ?_
  refine W_seq <| W_region (by rfl) ?_
  refine x r_assign <| x r_assign <| xe ?_
  refine W_seq <| W_region (by rfl) ?_
  refine x r_move <| x (r_lenA h rfl) <| x r_assign <| xe ?_
  refine W_seq <| W_region (by rfl) ?_
  refine x r_move <| x r_assign <| x r_assign <| xe ?_
  refine W_seq <| W_block <| W_loop (α := Nat × Nat) [(9, 11), (15, 34)] (fun z => [(9, .int .i64 z.1), (10, .int .i64 z.2)])
    (fun z w' => Step [] w w' ∧ z.1 ≤ z.2 ∧ z.2 ≤ es.length ∧ (∀ m (hm : m < es.length), m < z.1 → es[m].1 < s) ∧ (∀ m (hm : m < es.length), z.2 ≤ m → s ≤ es[m].1)) (fun z => z.2 - z.1) (by rfl) (0, es.length) ⟨rfl, rfl, trivial⟩
    ⟨Step.refl _ _, Nat.zero_le _, Nat.le_refl _, fun m _ h0 => absurd h0 (Nat.not_lt_zero m), fun m h1 h0 => absurd h1 (by simp only [] at h0; omega)⟩ ?_
  rintro ⟨i, j⟩ g1 w1 ⟨hst, hij, hj, hlo, hhi⟩
  simp only [] at hij hj hlo hhi
  refine W_seq <| W_seq <| W_region (by rfl) ?_
  refine x r_move <| x r_move <| x (r_lss rfl rfl) <| xe ?_
  refine W_ifn rfl (fun h17 => ?_) (fun h17 => ?_)
  · have e : i = j := by omega
    subst e
    refine W_exit ?_
    refine W_cut (α := Bool) [(6, 7), (35, 48)] (fun z => [(6, .int .i64 i), (7, .bool z)]) (fun z w' => Step [] w1 w') (by rfl) ?_ ?_
    · refine W_region (by rfl) ?_
      refine x r_move <| x r_move <| x r_move <| xb (r_lss rfl rfl) (fun h38 => ?_) (fun h38 => ?_)
      · have hlt : i < es.length := by omega
        have hq := hbd i hlt
        refine x r_move <| x r_move <| x r_move <| x r_move <| xie (h.ext hst) rfl rfl hlt fun a43 h43 => x (r_loadsA h43 rfl rfl) <| x r_move <| xl rfl <| xc (first := []) (capt := []) rfl <| (hk es[i] s _ hq.1 hq.2 hs0 hs1).mono ?_
        rintro r2 w2 ⟨rfl, hs2⟩
        refine x (r_eql rfl rfl) <| x (r_pick rfl) <| x r_assign <| x r_assign <| xe ?_
        exact ⟨_, ⟨rfl, rfl, trivial⟩, hs2⟩
      refine x r_move <| xs rfl <| xs rfl <| xs rfl <| xs rfl <| xs rfl <| xs rfl <| xs rfl <| xs rfl <| x (r_pick rfl) <| x r_assign <| x r_assign <| xe ?_
      exact ⟨false, ⟨rfl, rfl, trivial⟩, Step.refl _ _⟩
    rintro z g3 w3 hs3
    exact W_ret ⟨[.int .i64 i, .bool z], ⟨rfl, rfl, trivial⟩, hst.trans hs3, i, z, rfl, hj, hlo, hhi⟩
  have hij' : i < j := by omega
  refine W_skip ?_
  refine W_block <| W_seq <| W_region (by rfl) ?_
  refine x r_move <| x r_move <| x (r_add rfl rfl ⟨by omega, by omega⟩) <| x (r_conv rfl (by exact ⟨by omega, by omega⟩)) <| x (r_shr (n := 1) rfl rfl (by decide)) <| x (r_conv rfl (by exact ⟨by omega, by omega⟩)) <| x r_assign <| xe ?_
  have hh : (((i : Int) + (j : Int)) / 2 ^ 1) = (((i + j) / 2 : Nat) : Int) := by omega
  rw [hh]
  generalize hq : (i + j) / 2 = q
  have hqi : i ≤ q := by omega
  have hqj : q < j := by omega
  have hql : q < es.length := by omega
  have hqb := hbd q hql
  refine W_seq <| W_region (by rfl) ?_
  refine x r_move <| x r_move <| x r_move <| xie (h.ext hst) rfl rfl hql fun a27 h27 => x (r_loadsA h27 rfl rfl) <| x r_move <| xl rfl <| xc (first := []) (capt := []) rfl <| (hk es[q] s _ hqb.1 hqb.2 hs0 hs1).mono ?_
  rintro r4 w4 ⟨rfl, hs4⟩
  refine x (r_lss rfl rfl) <| xe ?_
  refine W_ifn rfl (fun h31 => ?_) (fun h31 => ?_)
  · refine W_region (by rfl) ?_
    refine x r_move <| x r_assign <| xe ?_
    refine ⟨(i, q), by simp only []; omega, ⟨rfl, rfl, trivial⟩, hst.trans hs4, hqi, by omega, hlo, fun m hm hqm => ?_⟩
    by_cases e : q = m
    · subst e; omega
    · have := hget hm (show q < m by simp only [] at hqm; omega); omega
  refine W_region (by rfl) ?_
  refine x r_move <| x (r_add rfl rfl ⟨by omega, by omega⟩) <| x r_assign <| xe ?_
  refine ⟨(q + 1, j), by simp only []; omega, ⟨rfl, rfl, trivial⟩, hst.trans hs4, hqj, hj, fun m hm hmq => ?_, hhi⟩
  by_cases e : m = q
  · subst e; omega
  · have := hget hql (show m < q by simp only [] at hmq; omega); omega

theorem out1_ok (e : Ed) (s : Int) (w : World) (h0 : 0 ≤ e.1) (h1 : e.1 ≤ 1099511627776) (h2 : 0 ≤ s) (h3 : s ≤ 1099511627776) :
    Ret Tryd.prog 90 [.agg (edCells e).toArray, .int .i64 s] w fun r w' => r = .int .i64 (e.1 - s) ∧ Step [] w w' := by
  refine Ret.of_W Tryd.func90 rfl Tryd.ntmps90 Tryd.results90 (by simp) ?_
  refine W_seq <| W_region (by rfl) ?_
  refine xl rfl <| o_box (us := edCells e) rfl fun b2 w1 hs1 hb2 hB2 => x r_assign <| xe ?_
  refine W_seq <| W_region (by rfl) ?_
  refine x (r_fieldB rfl) <| x (r_loadB hB2 rfl rfl) <| x r_move <| x (r_sub rfl rfl ⟨by omega, by omega⟩) <| x r_assign <| xe ?_
  exact W_ret ⟨[.int .i64 (e.1 - s)], ⟨rfl, trivial⟩, rfl, hs1⟩
theorem out2_ok (e : Ed) (s : Int) (w : World) (h0 : 0 ≤ e.1) (h1 : e.1 ≤ 1099511627776) (h2 : 0 ≤ s) (h3 : s ≤ 1099511627776) :
    Ret Tryd.prog 91 [.agg (edCells e).toArray, .int .i64 s] w fun r w' => r = .int .i64 (e.1 - s) ∧ Step [] w w' := by
  refine Ret.of_W Tryd.func91 rfl Tryd.ntmps91 Tryd.results91 (by simp) ?_
  refine W_seq <| W_region (by rfl) ?_
  refine xl rfl <| o_box (us := edCells e) rfl fun b2 w1 hs1 hb2 hB2 => x r_assign <| xe ?_
  refine W_seq <| W_region (by rfl) ?_
  refine x (r_fieldB rfl) <| x (r_loadB hB2 rfl rfl) <| x r_move <| x (r_sub rfl rfl ⟨by omega, by omega⟩) <| x r_assign <| xe ?_
  exact W_ret ⟨[.int .i64 (e.1 - s)], ⟨rfl, trivial⟩, rfl, hs1⟩
theorem out_ok {L : List Nat} {w : World} {va vm ve : Value} {st : Int} {es : List Ed} (h : Eds L w.heap ve es) (hi : es.Pairwise (fun a b => a.1 ≤ b.1)) (hb : ∀ e ∈ es, 0 ≤ e.1 ∧ e.1 ≤ 1099511627776) (s : Int) (hs0 : 0 ≤ s) (hs1 : s < 1099511627776) :
    Ret Tryd.prog 63 [.agg #[va, .int .i64 st, vm, ve], .int .i64 s] w fun r w' => Step [] w w' ∧ Eds L w'.heap r (outE es s) := by
  refine Ret.of_W Tryd.func63 rfl Tryd.ntmps63 Tryd.results63 (by simp) ?_
  refine W_seq <| W_region (by rfl) ?_
  refine xl rfl <| o_box (us := [va, .int .i64 st, vm, ve]) rfl fun b2 w1 hs1' hb2 hB2 => x r_assign <| xe ?_
  replace h := h.ext hs1'
  refine W_seq <| W_region (by rfl) ?_
  refine x (r_fieldB rfl) <| x (r_loadB hB2 rfl rfl) <| x r_move <| xl rfl <| xf <| (bsf_ok out1_ok h hi hb s hs0 (by omega)).mono ?_
  rintro r2 w2 ⟨hs2, lo, b, rfl, hlo, hl1, hl2⟩
  replace h := h.ext hs2
  replace hB2 := hB2.ext hs2
  refine x r_move <| x (r_extract rfl rfl) <| x (r_extract rfl rfl) <| x r_assign <| x r_assign <| xe ?_
  refine W_seq <| W_region (by rfl) ?_
  refine x (r_fieldB rfl) <| x (r_loadB hB2 rfl rfl) <| x r_move <| x (r_add rfl rfl ⟨by omega, by omega⟩) <| xl rfl <| xf <| (bsf_ok out2_ok h hi hb (s + 1) (by omega) (by omega)).mono ?_
  rintro r3 w3 ⟨hs3, hi', b', rfl, hhi, hh1, hh2⟩
  replace h := h.ext hs3
  replace hB2 := hB2.ext hs3
  refine x r_move <| x (r_extract rfl rfl) <| x (r_extract rfl rfl) <| x r_assign <| x r_assign <| xe ?_
  have hlh : lo ≤ hi' := by
    rcases Nat.lt_or_ge hi' lo with hlt | hge
    · have h1 := hl1 hi' (by omega) hlt
      have h2 := hh2 hi' (by omega) (Nat.le_refl _)
      omega
    · exact hge
  refine W_seq <| W_region (by rfl) ?_
  refine x (r_fieldB rfl) <| x (r_loadB hB2 rfl rfl) <| x r_move <| x r_move <| xslB h rfl rfl rfl hlh hhi fun v' hv' => x r_assign <| xe ?_
  refine W_ret ⟨[v'], ⟨rfl, trivial⟩, (hs1'.trans hs2).trans hs3, ?_⟩
  have hc := cut_filter (fun e : Ed => decide (e.1 = s)) es lo hi' hlh hhi (fun m hm hml => by have := hl1 m hm hml; simp; omega) (fun m hm h1 h2 => by have := hl2 m hm h1; have := hh1 m hm h2; simp; omega) (fun m hm h1 => by have := hh2 m hm h1; simp; omega)
  have hlen : (outE es s).length = hi' - lo := by unfold outE; rw [← hc, List.length_take, List.length_drop]; omega
  show Arr L w3.heap v' (outE es s).length 3 _
  rw [hlen]
  have e1 : (outE es s).flatMap edCells = ((es.flatMap edCells).drop (lo * 3)).take ((hi' - lo) * 3) := by
    unfold outE
    rw [← hc]
    have key : ∀ (l : List Ed) (k : Nat), (l.flatMap edCells).drop (k * 3) = (l.drop k).flatMap edCells := by
      intro l
      induction l with
      | nil => intro k; simp
      | cons a l ih => intro k; cases k with
        | zero => simp
        | succ k => simp only [List.flatMap_cons, List.drop_succ_cons, Nat.add_mul, Nat.one_mul]; rw [Nat.add_comm, ← List.drop_drop, show (edCells a ++ l.flatMap edCells).drop 3 = l.flatMap edCells from rfl, ih]
    have key2 : ∀ (l : List Ed) (k : Nat), (l.flatMap edCells).take (k * 3) = (l.take k).flatMap edCells := by
      intro l
      induction l with
      | nil => intro k; simp
      | cons a l ih => intro k; cases k with
        | zero => simp
        | succ k =>
          simp only [List.flatMap_cons, List.take_succ_cons, Nat.add_mul, Nat.one_mul]
          rw [List.take_append, edCells_len, ← ih, List.take_of_length_le (by simp [edCells_len])]
          simp
    rw [key, key2]
  rw [e1]; exact hv'
end Go.Proofs.YtfhgnlkdcdlblaaDoor
