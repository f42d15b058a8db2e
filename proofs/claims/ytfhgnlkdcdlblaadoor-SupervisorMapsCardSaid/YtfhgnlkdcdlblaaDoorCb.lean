/- Contracts: slices.Index, Contains, Equal, BinarySearch; alphabet.Contains. -/
import Derived.Test.YtfhgnlkdcdlblaaDoorCa
import Derived.Test.YtfhgnlkdcdlblaaDoorSp
namespace Go.Proofs.YtfhgnlkdcdlblaaDoor
open Go.Lg

theorem index_ok {L : List Nat} {w : World} {v : Value} {l : List Int} (h : Ints L w.heap v l) (n : Int) :
    Ret Tryd.prog 92 [v, .int .i64 n] w fun r w' => w' = w ∧ ∃ i : Int, r = .int .i64 i ∧ (0 ≤ i ↔ n ∈ l) := by
  have hle := h.le
  refine Ret.of_W Tryd.func92 rfl Tryd.ntmps92 Tryd.results92 (by simp) ?_
  refine W_seq <| W_region (by rfl) ?_
  refine x r_assign <| xe ?_
  refine W_seq <| W_seq <| W_region (by rfl) ?_
  refine x r_move <| x (r_lenA h rfl) <| x r_move <| xe ?_
  refine W_block <| W_loop (α := Nat) [(4, 5), (8, 18)] (fun k => [(8, .int .i64 k)]) (fun k w' => w' = w ∧ k ≤ l.length ∧ (n ∈ l ↔ n ∈ l.drop k)) (fun k => l.length - k) (by rfl) 0 ⟨rfl, trivial⟩ ⟨rfl, Nat.zero_le _, by simp⟩ ?_
  rintro k g w1 ⟨rfl, hk, hm⟩
  refine W_seq <| W_region (by rfl) ?_
  refine x (r_lss rfl rfl) <| xe ?_
  refine W_seq <| W_ifn rfl (fun h9 => ?_) (fun h9 => ?_)
  · refine W_exit ?_
    refine W_seq <| W_region (by rfl) ?_
    refine x r_assign <| xe ?_
    refine W_ret ⟨[.int .i64 (-1)], ⟨rfl, trivial⟩, rfl, -1, rfl, ?_⟩
    rw [List.drop_of_length_le (by omega)] at hm
    simp [hm]
  have hlt : k < l.length := by omega
  have hd := drop_cons hlt
  refine W_skip ?_
  refine W_seq <| W_block <| W_seq <| W_region (by rfl) ?_
  refine x r_move <| x r_assign <| xe ?_
  refine W_seq <| W_region (by rfl) ?_
  refine x r_move <| x r_move <| x r_move <| xii h rfl rfl hlt fun a14 h14 => x (r_loadA h14 rfl) <| x (r_eql rfl rfl) <| xe ?_
  refine W_if rfl (fun h16 => ?_) (fun h16 => ?_)
  · refine W_seq <| W_region (by rfl) ?_
    refine x r_move <| x r_assign <| xe ?_
    refine W_ret ⟨[.int .i64 k], ⟨rfl, trivial⟩, rfl, k, rfl, ?_⟩
    have : n ∈ l := by rw [hm, hd, h16]; exact List.mem_cons_self
    simp [this]
  refine W_skip ?_
  refine W_region (by rfl) ?_
  refine x (r_add rfl rfl ⟨by omega, by omega⟩) <| x r_move <| xe ?_
  refine ⟨k + 1, by omega, ⟨rfl, trivial⟩, rfl, by omega, ?_⟩
  rw [hm, hd, List.mem_cons]
  exact ⟨fun h => h.resolve_left h16, .inr⟩

theorem contains_ok {L : List Nat} {w : World} {v : Value} {l : List Int} (h : Ints L w.heap v l) (n : Int) :
    Ret Tryd.prog 64 [v, .int .i64 n] w fun r w' => r = .bool (decide (n ∈ l)) ∧ w' = w := by
  refine Ret.of_W Tryd.func64 rfl Tryd.ntmps64 Tryd.results64 (by simp) ?_
  refine W_seq <| W_region (by rfl) ?_
  refine x r_assign <| xe ?_
  refine W_seq <| W_region (by rfl) ?_
  refine x r_move <| x r_move <| xl rfl <| xf <| (index_ok h n).mono ?_
  rintro r1 w1 ⟨rfl, i, rfl, hi⟩
  refine x (r_geq rfl rfl) <| x r_assign <| xe ?_
  refine W_ret ⟨[.bool (decide (0 ≤ i))], ⟨rfl, trivial⟩, ?_, rfl⟩
  simp [tup, hi]

theorem equalI_ok {L L' : List Nat} {w : World} {v v' : Value} {l l' : List Int} (h : Ints L w.heap v l) (h' : Ints L' w.heap v' l') :
    Ret Tryd.prog 44 [v, v'] w fun r w' => r = .bool (decide (l = l')) ∧ Step [] w w' := by
  have hle := h.le
  refine Ret.of_W Tryd.func44 rfl Tryd.ntmps44 Tryd.results44 (by simp) ?_
  refine W_seq <| W_region (by rfl) ?_
  refine x r_assign <| xe ?_
  refine W_seq <| W_seq <| W_region (by rfl) ?_
  refine x r_move <| x (r_lenA h rfl) <| x r_move <| x (r_lenA h' rfl) <| x (r_neq rfl rfl) <| xe ?_
  refine W_if rfl (fun h10 => ?_) (fun h10 => ?_)
  · refine W_seq <| W_region (by rfl) ?_
    refine x r_assign <| xe ?_
    refine W_ret ⟨[.bool false], ⟨rfl, trivial⟩, ?_, Step.refl _ _⟩
    have : l ≠ l' := fun e => h10 (by rw [e])
    simp [tup, this]
  have hll : l.length = l'.length := by omega
  refine W_skip ?_
  refine W_seq <| W_seq <| W_region (by rfl) ?_
  refine x r_move <| x (r_lenA h rfl) <| x r_move <| xe ?_
  refine W_block <| W_loop (α := Nat) [(4, 5), (13, 25)] (fun k => [(13, .int .i64 k)]) (fun k w' => Step [] w w' ∧ k ≤ l.length ∧ (l = l' ↔ l.drop k = l'.drop k)) (fun k => l.length - k) (by rfl) 0 ⟨rfl, trivial⟩ ⟨Step.refl _ _, Nat.zero_le _, by simp⟩ ?_
  rintro k g w1 ⟨hs, hk, hm⟩
  replace h := h.ext hs
  replace h' := h'.ext hs
  refine W_seq <| W_region (by rfl) ?_
  refine x (r_lss rfl rfl) <| xe ?_
  refine W_seq <| W_ifn rfl (fun h14 => ?_) (fun h14 => ?_)
  · refine W_exit ?_
    refine W_seq <| W_region (by rfl) ?_
    refine x r_assign <| xe ?_
    refine W_ret ⟨[.bool true], ⟨rfl, trivial⟩, ?_, hs⟩
    rw [List.drop_of_length_le (by omega), List.drop_of_length_le (by omega)] at hm
    simp [tup, hm]
  have hlt : k < l.length := by omega
  have hlt' : k < l'.length := by omega
  refine W_skip ?_
  refine W_seq <| W_block <| W_seq <| W_region (by rfl) ?_
  refine x r_move <| x r_assign <| xe ?_
  refine W_seq <| W_draw (Step [] w1) [(0, true), (1, true), (2, true), (3, true), (4, true), (5, true), (6, true), (7, true), (8, true)] Tryd.mixed (by rfl) (by kernel_rfl) (Step.drew _ _) ?_
  refine p (fun _ => r_move) <| p (fun _ => r_move) <| pii rfl h rfl rfl hlt fun a18 h18 => pq (fun _ hc => r_loadA (h18.ext hc) rfl) <|
    p (fun _ => r_move) <| p (fun _ => r_move) <| pii rfl h' rfl rfl hlt' fun a22 h22 => pq (fun _ hc => r_loadA (h22.ext hc) rfl) <| p (fun _ => r_neq rfl rfl) <| pe ?_
  have hs' := hs.trans (Step.drew [] w1)
  refine W_if rfl (fun h24 => ?_) (fun h24 => ?_)
  · refine W_seq <| W_region (by rfl) ?_
    refine x r_assign <| xe ?_
    refine W_ret ⟨[.bool false], ⟨rfl, trivial⟩, ?_, hs'⟩
    have : l ≠ l' := fun e => h24 (by simp [e])
    simp [tup, this]
  refine W_skip ?_
  refine W_region (by rfl) ?_
  refine x (r_add rfl rfl ⟨by omega, by omega⟩) <| x r_move <| xe ?_
  refine ⟨k + 1, by omega, ⟨rfl, trivial⟩, hs', by omega, ?_⟩
  have e : l[k] = l'[k] := Decidable.not_not.1 h24
  rw [hm, drop_cons hlt, drop_cons hlt', e]; exact ⟨fun h => (List.cons.inj h).2, fun h => by rw [h]⟩

theorem equalE_ok {L L' : List Nat} {w : World} {v v' : Value} {l l' : List Ed} (h : Eds L w.heap v l) (h' : Eds L' w.heap v' l') :
    Ret Tryd.prog 45 [v, v'] w fun r w' => r = .bool (decide (l = l')) ∧ Step [] w w' := by
  have hle := h.le
  refine Ret.of_W Tryd.func45 rfl Tryd.ntmps45 Tryd.results45 (by simp) ?_
  refine W_seq <| W_region (by rfl) ?_
  refine x r_assign <| xe ?_
  refine W_seq <| W_seq <| W_region (by rfl) ?_
  refine x r_move <| x (r_lenA h rfl) <| x r_move <| x (r_lenA h' rfl) <| x (r_neq rfl rfl) <| xe ?_
  refine W_if rfl (fun h10 => ?_) (fun h10 => ?_)
  · refine W_seq <| W_region (by rfl) ?_
    refine x r_assign <| xe ?_
    refine W_ret ⟨[.bool false], ⟨rfl, trivial⟩, ?_, Step.refl _ _⟩
    have : l ≠ l' := fun e => h10 (by rw [e])
    simp [tup, this]
  have hll : l.length = l'.length := by omega
  refine W_skip ?_
  refine W_seq <| W_seq <| W_region (by rfl) ?_
  refine x r_move <| x (r_lenA h rfl) <| x r_move <| xe ?_
  refine W_block <| W_loop (α := Nat) [(4, 5), (13, 25)] (fun k => [(13, .int .i64 k)]) (fun k w' => Step [] w w' ∧ k ≤ l.length ∧ (l = l' ↔ l.drop k = l'.drop k)) (fun k => l.length - k) (by rfl) 0 ⟨rfl, trivial⟩ ⟨Step.refl _ _, Nat.zero_le _, by simp⟩ ?_
  rintro k g w1 ⟨hs, hk, hm⟩
  replace h := h.ext hs
  replace h' := h'.ext hs
  refine W_seq <| W_region (by rfl) ?_
  refine x (r_lss rfl rfl) <| xe ?_
  refine W_seq <| W_ifn rfl (fun h14 => ?_) (fun h14 => ?_)
  · refine W_exit ?_
    refine W_seq <| W_region (by rfl) ?_
    refine x r_assign <| xe ?_
    refine W_ret ⟨[.bool true], ⟨rfl, trivial⟩, ?_, hs⟩
    rw [List.drop_of_length_le (by omega), List.drop_of_length_le (by omega)] at hm
    simp [tup, hm]
  have hlt : k < l.length := by omega
  have hlt' : k < l'.length := by omega
  refine W_skip ?_
  refine W_seq <| W_block <| W_seq <| W_region (by rfl) ?_
  refine x r_move <| x r_assign <| xe ?_
  refine W_seq <| W_draw (Step [] w1) [(0, true), (1, true), (2, true), (3, true), (4, true), (5, true), (6, true), (7, true), (8, true)] Tryd.mixed (by rfl) (by kernel_rfl) (Step.drew _ _) ?_
  refine p (fun _ => r_move) <| p (fun _ => r_move) <| pie rfl h rfl rfl hlt fun a18 h18 => pq (fun _ hc => r_loadsA (h18.ext hc) rfl rfl) <|
    p (fun _ => r_move) <| p (fun _ => r_move) <| pie rfl h' rfl rfl hlt' fun a22 h22 => pq (fun _ hc => r_loadsA (h22.ext hc) rfl rfl) <| p (fun _ => r_neq_struct rfl rfl) <| pe ?_
  have hs' := hs.trans (Step.drew [] w1)
  refine W_if rfl (fun h24 => ?_) (fun h24 => ?_)
  · refine W_seq <| W_region (by rfl) ?_
    refine x r_assign <| xe ?_
    refine W_ret ⟨[.bool false], ⟨rfl, trivial⟩, ?_, hs'⟩
    have : l ≠ l' := fun e => h24 (by simp [e])
    simp [tup, this]
  refine W_skip ?_
  refine W_region (by rfl) ?_
  refine x (r_add rfl rfl ⟨by omega, by omega⟩) <| x r_move <| xe ?_
  refine ⟨k + 1, by omega, ⟨rfl, trivial⟩, hs', by omega, ?_⟩
  have e : l[k] = l'[k] := Decidable.not_not.1 h24
  rw [hm, drop_cons hlt, drop_cons hlt', e]; exact ⟨fun h => (List.cons.inj h).2, fun h => by rw [h]⟩

theorem isNaN_ok {w : World} (n : Int) : Ret Tryd.prog 103 [.int .i64 n] w fun r w' => r = .bool false ∧ w' = w := by
  refine Ret.of_W Tryd.func103 rfl Tryd.ntmps103 Tryd.results103 (by simp) ?_
  refine W_seq <| W_region (by rfl) ?_
  refine x r_assign <| xe ?_
  refine W_seq <| W_region (by rfl) ?_
  refine x r_move <| x r_move <| x (r_neq rfl rfl) <| x r_assign <| xe ?_
  exact W_ret ⟨[.bool (decide (¬ n = n))], ⟨rfl, trivial⟩, by simp [tup], rfl⟩
theorem isNaN2_ok {w : World} (n : Int) : Ret Tryd.prog 108 [.int .i64 n] w fun r w' => r = .bool false ∧ w' = w := by
  refine Ret.of_W Tryd.func108 rfl Tryd.ntmps108 Tryd.results108 (by simp) ?_
  refine W_seq <| W_region (by rfl) ?_
  refine x r_assign <| xe ?_
  refine W_seq <| W_region (by rfl) ?_
  refine x r_move <| x r_move <| x (r_neq rfl rfl) <| x r_assign <| xe ?_
  exact W_ret ⟨[.bool (decide (¬ n = n))], ⟨rfl, trivial⟩, by simp [tup], rfl⟩
theorem less_ok {w : World} (m n : Int) : Ret Tryd.prog 102 [.int .i64 m, .int .i64 n] w fun r w' => r = .bool (decide (m < n)) ∧ w' = w := by
  refine Ret.of_W Tryd.func102 rfl Tryd.ntmps102 Tryd.results102 (by simp) ?_
  refine W_seq <| W_region (by rfl) ?_
  refine x r_assign <| xe ?_
  refine W_seq <| W_region (by rfl) ?_
  refine x r_move <| xl rfl <| xf <| (isNaN2_ok m).mono ?_
  rintro r1 w1 ⟨rfl, rfl⟩
  refine x r_move <| xs rfl <| xs rfl <| xs rfl <| x (r_pick rfl) <| x r_move <| x r_move <| x r_move <| x (r_lss rfl rfl) <| x (r_pick rfl) <| x r_assign <| xe ?_
  exact W_ret ⟨[.bool (decide (m < n))], ⟨rfl, trivial⟩, rfl, rfl⟩

theorem Inc.get {l : List Int} (h : Inc l) {i j : Nat} (hj : j < l.length) (hij : i < j) : l[i] < l[j] := List.pairwise_iff_getElem.1 h i j (by omega) hj hij
theorem bsearch_ok {L : List Nat} {w : World} {v : Value} {l : List Int} (h : Ints L w.heap v l) (hi : Inc l) (n : Int) :
    Ret Tryd.prog 97 [v, .int .i64 n] w fun r w' => w' = w ∧ ∃ i : Int, r = .tuple #[.int .i64 i, .bool (decide (n ∈ l))] := by
  have hle := h.le
  refine Ret.of_W Tryd.func97 rfl Tryd.ntmps97 Tryd.results97 (by simp) ?_
  refine W_seq <| W_region (by rfl) ?_
  refine x r_assign <| x r_assign <| xe ?_
  refine W_seq <| W_region (by rfl) ?_
  refine x r_move <| x (r_lenA h rfl) <| x r_assign <| xe ?_
  refine W_seq <| W_region (by rfl) ?_
  refine x r_move <| x r_assign <| x r_assign <| xe ?_
  refine W_seq <| W_block <| W_loop (α := Nat × Nat) [(7, 9), (13, 30)] (fun z => [(7, .int .i64 z.1), (8, .int .i64 z.2)])
    (fun z w' => w' = w ∧ z.1 ≤ z.2 ∧ z.2 ≤ l.length ∧ (∀ m (hm : m < l.length), m < z.1 → l[m] < n) ∧ (∀ m (hm : m < l.length), z.2 ≤ m → n ≤ l[m])) (fun z => z.2 - z.1) (by rfl) (0, l.length) ⟨rfl, rfl, trivial⟩
    ⟨rfl, Nat.zero_le _, Nat.le_refl _, fun m _ h0 => absurd h0 (Nat.not_lt_zero m), fun m h1 h0 => absurd h1 (by simp only [] at h0; omega)⟩ ?_
  rintro ⟨i, j⟩ g w1 ⟨rfl, hij, hj, hlo, hhi⟩
  simp only [] at hij hj hlo hhi
  refine W_seq <| W_seq <| W_region (by rfl) ?_
  refine x r_move <| x r_move <| x (r_lss rfl rfl) <| xe ?_
  refine W_ifn rfl (fun h15 => ?_) (fun h15 => ?_)
  · have e : i = j := by omega
    subst e
    refine W_exit ?_
    refine W_cut (α := Bool) [(4, 5), (31, 53)] (fun z => [(4, .int .i64 i), (5, .bool z)]) (fun z w' => w' = w1 ∧ z = decide (n ∈ l)) (by rfl) ?_ ?_
    · refine W_region (by rfl) ?_
      refine x r_move <| x r_move <| x r_move <| xb (r_lss rfl rfl) (fun h34 => ?_) (fun h34 => ?_)
      · have hlt : i < l.length := by omega
        refine x r_move <| x r_move <| x r_move <| xii h rfl rfl hlt fun a38 h38 => x (r_loadA h38 rfl) <| x r_move <| xb (r_eql rfl rfl) (fun h41 => ?_) (fun h41 => ?_)
        · refine x r_move <| xs rfl <| xs rfl <| xs rfl <| xs rfl <| xs rfl <| xs rfl <| xs rfl <| xs rfl <| xs rfl <| x (r_pick rfl) <| x (r_pick rfl) <| x r_assign <| x r_assign <| xe ?_
          have : n ∈ l := by rw [← h41]; exact List.getElem_mem hlt
          exact ⟨true, ⟨rfl, rfl, trivial⟩, rfl, by simp [this]⟩
        refine x r_move <| x r_move <| x r_move <| xii h rfl rfl hlt fun a45 h45 => x (r_loadA h45 rfl) <| xl rfl <| xf <| (isNaN_ok _).mono ?_
        rintro r3 w3 ⟨rfl, rfl⟩
        refine x r_move <| xs rfl <| xs rfl <| x (r_pick rfl) <| x (r_pick rfl) <| x (r_pick rfl) <| x r_assign <| x r_assign <| xe ?_
        refine ⟨false, ⟨rfl, rfl, trivial⟩, rfl, ?_⟩
        have : n ∉ l := by
          intro hm
          obtain ⟨m, hm1, hm2⟩ := List.getElem_of_mem hm
          by_cases hmi : m < i
          · have := hlo m hm1 hmi; omega
          · by_cases hme : m = i
            · subst hme; exact h41 hm2
            · have := Inc.get hi hm1 (show i < m by omega)
              have := hhi i hlt (Nat.le_refl _)
              omega
        simp [this]
      refine x r_move <| xs rfl <| xs rfl <| xs rfl <| xs rfl <| xs rfl <| xs rfl <| xs rfl <| xs rfl <| xs rfl <| xs rfl <| xs rfl <| xs rfl <| xs rfl <| xs rfl <| xs rfl <| xs rfl <| xs rfl <|
        x (r_pick rfl) <| x r_assign <| x r_assign <| xe ?_
      refine ⟨false, ⟨rfl, rfl, trivial⟩, rfl, ?_⟩
      have : n ∉ l := by
        intro hm
        obtain ⟨m, hm1, hm2⟩ := List.getElem_of_mem hm
        have := hlo m hm1 (by omega); omega
      simp [this]
    rintro z g w7 ⟨rfl, rfl⟩
    exact W_ret ⟨[.int .i64 i, .bool (decide (n ∈ l))], ⟨rfl, rfl, trivial⟩, rfl, i, rfl⟩
  have hij' : i < j := by omega
  refine W_skip ?_
  refine W_block <| W_seq <| W_region (by rfl) ?_
  refine x r_move <| x r_move <| x (r_add rfl rfl ⟨by omega, by omega⟩) <| x (r_conv rfl (by exact ⟨by omega, by omega⟩)) <| x (r_shr (n := 1) rfl rfl (by decide)) <| x (r_conv rfl (by exact ⟨by omega, by omega⟩)) <| x r_assign <| xe ?_
  have hh : (((i : Int) + (j : Int)) / 2 ^ 1) = (((i + j) / 2 : Nat) : Int) := by omega
  rw [hh]
  generalize hq : (i + j) / 2 = q
  have hqi : i ≤ q := by omega
  have hqj : q < j := by omega
  have hql : q < l.length := by omega
  refine W_seq <| W_region (by rfl) ?_
  refine x r_move <| x r_move <| xii h rfl rfl hql fun a24 h24 => x (r_loadA h24 rfl) <| x r_move <| xl rfl <| xf <| (less_ok _ _).mono ?_
  rintro r8 w8 ⟨rfl, rfl⟩
  refine xe ?_
  refine W_ifn rfl (fun h27 => ?_) (fun h27 => ?_)
  · refine W_region (by rfl) ?_
    refine x r_move <| x r_assign <| xe ?_
    refine ⟨(i, q), by simp only []; omega, ⟨rfl, rfl, trivial⟩, rfl, hqi, by omega, hlo, fun m hm hqm => ?_⟩
    by_cases e : q = m
    · subst e; omega
    · have := Inc.get hi hm (show q < m by simp only [] at hqm; omega); omega
  refine W_region (by rfl) ?_
  refine x r_move <| x (r_add rfl rfl ⟨by omega, by omega⟩) <| x r_assign <| xe ?_
  refine ⟨(q + 1, j), by simp only []; omega, ⟨rfl, rfl, trivial⟩, rfl, hqj, hj, fun m hm hmq => ?_, hhi⟩
  by_cases e : m = q
  · subst e; exact h27
  · have := Inc.get hi hql (show m < q by simp only [] at hmq; omega); omega

theorem alContains_ok {L : List Nat} {w : World} {v : Value} {l : List Int} (h : Ints L w.heap v l) (hi : Inc l) (n : Int) :
    Ret Tryd.prog 76 [v, .int .i64 n] w fun r w' => r = .bool (decide (n ∈ l)) ∧ w' = w := by
  refine Ret.of_W Tryd.func76 rfl Tryd.ntmps76 Tryd.results76 (by simp) ?_
  refine W_seq <| W_region (by rfl) ?_
  refine x r_assign <| xe ?_
  refine W_seq <| W_region (by rfl) ?_
  refine x r_move <| x r_move <| xl rfl <| xf <| (bsearch_ok h hi n).mono ?_
  rintro r1 w1 ⟨rfl, i, rfl⟩
  refine x r_move <| x (r_extract rfl rfl) <| x (r_extract rfl rfl) <| x r_assign <| x r_assign <| xe ?_
  refine W_seq <| W_region (by rfl) ?_
  refine x r_move <| x r_assign <| xe ?_
  exact W_ret ⟨[.bool (decide (n ∈ l))], ⟨rfl, trivial⟩, rfl, rfl⟩
end Go.Proofs.YtfhgnlkdcdlblaaDoor
