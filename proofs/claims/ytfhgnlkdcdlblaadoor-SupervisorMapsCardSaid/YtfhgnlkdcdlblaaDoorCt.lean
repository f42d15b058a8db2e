/- Contracts: supervisor.Map, Classes; slices.Max; automaton.Canonical. -/
import Derived.Test.YtfhgnlkdcdlblaaDoorCs
namespace Go.Proofs.YtfhgnlkdcdlblaaDoor
open Go.Lg

theorem Map_ok {L : List Nat} {w : World} {pva pvm pve sa sm se : Value} {aP aS : Aut} (hp : AutA L w.heap pva pvm pve aP) (hs : AutA L w.heap sa sm se aS) (hst : Okay aP → Okay aS → aP.st ≤ 100 ∧ aS.st ≤ 100) :
    Ret Tryd.prog 17 [.agg #[pva, .int .i64 aP.st, pvm, pve], .agg #[sa, .int .i64 aS.st, sm, se]] w fun r w' => Step [] w w' ∧ ∃ v, r = .tuple #[v, .int .i64 (opE aP aS)] ∧
      (opE aP aS ≠ 0 → v = nilS) ∧ (opE aP aS = 0 → CtlF w.heap.size w'.heap v (ctls aP aS (opQ aP aS)) ∧ ∀ c ∈ ctls aP aS (opQ aP aS), c.en.length ≤ 1000000 ∧ c.dis.length ≤ 1000000) := by
  refine Ret.of_W Tryd.func17 rfl Tryd.ntmps17 Tryd.results17 (by simp) ?_
  refine W_seq <| W_region (by rfl) ?_
  refine xl rfl <| o_box (us := [pva, .int .i64 aP.st, pvm, pve]) rfl fun b2 w1 hs1 hb2 hB2 => xl rfl <| o_box (us := [sa, .int .i64 aS.st, sm, se]) rfl fun b3 w2 hs2 hb3 hB3 => x r_assign <| x r_assign <| xe ?_
  have hs12 := hs1.trans hs2
  refine W_seq <| W_region (by rfl) ?_
  refine x (r_loadsB (hB2.ext hs2) rfl rfl) <| x (r_loadsB hB3 rfl rfl) <| xl rfl <| xf <| (sopen_ok (hp.ext hs12) (hs.ext hs12) hst).mono ?_
  rintro r3 w3 ⟨hs3, va, vt, rfl, hO⟩
  obtain ⟨us, hva, husl, hus⟩ := hO.shape
  refine x r_move <| x (r_extract rfl rfl) <|
    x (r_extract rfl rfl) <| x (r_extract rfl rfl) <| xl rfl <| o_alloc (us := [.slice none 0 0, .int .i64 0, .slice none 0 0, .slice none 0 0]) rfl fun b6 w4 hs4 hb6 hB6 => xl rfl <| o_stores (us := us) hB6 rfl hva husl rfl hus fun w5 hs5 hB6 =>
    x r_assign <| x r_assign <| xe ?_
  have hs35 : Step [] w3 w5 := hs4.then1 hs5 hb6
  have hW5 := (hs12.trans hs3).trans hs35
  refine W_seq <| W_seq <| W_region (by rfl) ?_
  refine x r_move <| x (r_neq rfl rfl) <| xe ?_
  refine W_if rfl (fun h19 => ?_) (fun h19 => ?_)
  · refine W_seq <| W_region (by rfl) ?_
    refine x r_move <| x r_assign <| x r_assign <| xe ?_
    exact W_ret ⟨[nilS, .int .i64 (opE aP aS)], ⟨rfl, rfl, trivial⟩, hW5, nilS, rfl, fun _ => rfl, fun e => absurd e h19⟩
  have h0 : opE aP aS = 0 := Decidable.not_not.1 h19
  obtain ⟨o1, o2, _, hv, hl⟩ := opE_zero h0
  obtain ⟨qs, hqe, hqs⟩ := (hO.good h0).2
  have hqsl : qs.length ≤ 4096 := by rw [← hqe] at hl; simpa using hl
  have hT5 : Tups [] w5.heap vt qs := (hqs [] (by simp)).ext hs35
  have hB2' := ((hB2.ext hs2).ext hs3).ext hs35
  have hB3' := (hB3.ext hs3).ext hs35
  refine W_skip ?_
  refine W_seq <| W_region (by rfl) ?_
  refine x (r_loadsB hB2' rfl rfl) <| x (r_loadsB hB3' rfl rfl) <| x r_move <| xl rfl <| xf <| (controls_ok ((hp.ext hW5).up (L' := []) (fun _ hb => by cases hb)) ((hs.ext hW5).up (L' := []) (fun _ hb => by cases hb)) o1 o2 hT5 (fun q hq => hv q.2 (by rw [← hqe]; exact List.mem_map_of_mem hq)) hqsl).mono ?_
  rintro r6 w6 ⟨hs6, vo, bo, rfl, hC, hCb, _, _⟩
  refine x r_move <| x (r_extract rfl rfl) <| x (r_extract rfl rfl) <| x r_assign <| x r_assign <| xe ?_
  refine W_seq <| W_region (by rfl) ?_
  refine x r_move <| x r_assign <| x r_assign <| xe ?_
  rw [hqe] at hC hCb
  have hz := hW5.size
  exact W_ret ⟨[vo, .int .i64 0], ⟨rfl, rfl, trivial⟩, hW5.trans hs6, vo, by rw [h0]; rfl, fun e => absurd h0 e, fun _ => ⟨hC.mono hz, hCb⟩⟩

theorem Classes_ok {L : List Nat} {w : World} {pva pvm pve sa sm se : Value} {aP aS : Aut} (hp : AutA L w.heap pva pvm pve aP) (hs : AutA L w.heap sa sm se aS) (hst : Okay aP → Okay aS → aP.st ≤ 100 ∧ aS.st ≤ 100) :
    Ret Tryd.prog 11 [.agg #[pva, .int .i64 aP.st, pvm, pve], .agg #[sa, .int .i64 aS.st, sm, se]] w fun r w' => Step [] w w' ∧ ∃ v, r = .tuple #[v, .int .i64 (opE aP aS)] ∧
      (opE aP aS ≠ 0 → v = nilS) ∧ (opE aP aS = 0 → IntsO 3 w.heap.size w' v (clsOf aP aS (opQ aP aS))) := by
  refine Ret.of_W Tryd.func11 rfl Tryd.ntmps11 Tryd.results11 (by simp) ?_
  refine W_seq <| W_region (by rfl) ?_
  refine xl rfl <| o_box (us := [pva, .int .i64 aP.st, pvm, pve]) rfl fun b2 w1 hs1 hb2 hB2 => xl rfl <| o_box (us := [sa, .int .i64 aS.st, sm, se]) rfl fun b3 w2 hs2 hb3 hB3 => x r_assign <| x r_assign <| xe ?_
  have hs12 := hs1.trans hs2
  refine W_seq <| W_region (by rfl) ?_
  refine x (r_loadsB (hB2.ext hs2) rfl rfl) <| x (r_loadsB hB3 rfl rfl) <| xl rfl <| xf <| (sopen_ok (hp.ext hs12) (hs.ext hs12) hst).mono ?_
  rintro r3 w3 ⟨hs3, va, vt, rfl, hO⟩
  obtain ⟨us, hva, husl, hus⟩ := hO.shape
  refine x r_move <| x (r_extract rfl rfl) <|
    x (r_extract rfl rfl) <| x (r_extract rfl rfl) <| xl rfl <| o_alloc (us := [.slice none 0 0, .int .i64 0, .slice none 0 0, .slice none 0 0]) rfl fun b6 w4 hs4 hb6 hB6 => xl rfl <| o_stores (us := us) hB6 rfl hva husl rfl hus fun w5 hs5 hB6 =>
    x r_assign <| x r_assign <| xe ?_
  have hs35 : Step [] w3 w5 := hs4.then1 hs5 hb6
  have hW5 := (hs12.trans hs3).trans hs35
  refine W_seq <| W_seq <| W_region (by rfl) ?_
  refine x r_move <| x (r_neq rfl rfl) <| xe ?_
  refine W_if rfl (fun h19 => ?_) (fun h19 => ?_)
  · refine W_seq <| W_region (by rfl) ?_
    refine x r_move <| x r_assign <| x r_assign <| xe ?_
    exact W_ret ⟨[nilS, .int .i64 (opE aP aS)], ⟨rfl, rfl, trivial⟩, hW5, nilS, rfl, fun _ => rfl, fun e => absurd e h19⟩
  have h0 : opE aP aS = 0 := Decidable.not_not.1 h19
  obtain ⟨o1, o2, _, hv, hl⟩ := opE_zero h0
  obtain ⟨qs, hqe, hqs⟩ := (hO.good h0).2
  have hqsl : qs.length ≤ 4096 := by rw [← hqe] at hl; simpa using hl
  have hT5 : Tups [] w5.heap vt qs := (hqs [] (by simp)).ext hs35
  have hB2' := ((hB2.ext hs2).ext hs3).ext hs35
  have hB3' := (hB3.ext hs3).ext hs35
  refine W_skip ?_
  refine W_seq <| W_region (by rfl) ?_
  refine x (r_loadsB hB2' rfl rfl) <| x (r_loadsB hB3' rfl rfl) <| x r_move <| xl rfl <| xf <| (classes_ok ((hp.ext hW5).up (L' := []) (fun _ hb => by cases hb)) ((hs.ext hW5).up (L' := []) (fun _ hb => by cases hb)) o1 o2 hT5 (fun q hq => hv q.2 (by rw [← hqe]; exact List.mem_map_of_mem hq)) hqsl).mono ?_
  rintro r6 w6 ⟨hs6, vo, vl, rfl, hC, _, _⟩
  refine x r_move <| x (r_extract rfl rfl) <| x (r_extract rfl rfl) <| x r_assign <| x r_assign <| xe ?_
  refine W_seq <| W_region (by rfl) ?_
  refine x r_move <| x r_assign <| x r_assign <| xe ?_
  rw [hqe] at hC
  have hz := hW5.size
  exact W_ret ⟨[vo, .int .i64 0], ⟨rfl, rfl, trivial⟩, hW5.trans hs6, vo, by rw [h0]; rfl, fun e => absurd h0 e, fun _ => own_base hC hz⟩

theorem Max_ok {L : List Nat} {w : World} {v : Value} {l : List Int} (h : Ints L w.heap v l) (h0 : 0 < l.length) :
    Ret Tryd.prog 39 [v] w fun r w' => r = .int .i64 (maxI l) ∧ w' = w := by
  have hle := h.le
  refine Ret.of_W Tryd.func39 rfl Tryd.ntmps39 Tryd.results39 (by simp) ?_
  refine W_seq <| W_region (by rfl) ?_
  refine x r_assign <| xe ?_
  refine W_seq <| W_seq <| W_region (by rfl) ?_
  refine x r_move <| x (r_lenA h rfl) <| x (r_lss rfl rfl) <| xe ?_
  refine W_ifn rfl (fun h7 => ?_) (fun h7 => absurd h7 (by omega))
  refine W_skip ?_
  refine W_seq <| W_region (by rfl) ?_
  refine x r_move <| xic (i := 0) h rfl rfl h0 fun a10 h10 => x (r_loadA h10 rfl) <| x r_assign <| xe ?_
  refine W_seq <| W_seq <| W_region (by rfl) ?_
  refine x r_assign <| xe ?_
  refine W_block <| W_loop (α := Nat × Int) [(3, 4), (12, 23)] (fun z => [(3, .int .i64 z.2), (4, .int .i64 z.1)]) (fun z w' => w' = w ∧ z.1 ≤ l.length ∧ (l.drop z.1).foldl max z.2 = maxI l) (fun z => l.length - z.1) (by rfl) (1, cget l 0) ⟨rfl, rfl, trivial⟩
    ⟨rfl, h0, rfl⟩ ?_
  rintro ⟨k, m⟩ g w4 ⟨rfl, hk, hr⟩
  simp only [] at hk hr
  refine W_seq <| W_seq <| W_region (by rfl) ?_
  refine x r_move <| x r_move <| x (r_lenA h rfl) <| x (r_lss rfl rfl) <| xe ?_
  refine W_ifn rfl (fun h15 => ?_) (fun h15 => ?_)
  · refine W_exit ?_
    refine W_seq <| W_region (by rfl) ?_
    refine x r_move <| x r_assign <| xe ?_
    rw [List.drop_of_length_le (by omega)] at hr
    exact W_ret ⟨[.int .i64 m], ⟨rfl, trivial⟩, by rw [← hr]; rfl, rfl⟩
  have hlt : k < l.length := by omega
  rw [List.drop_eq_getElem_cons hlt, List.foldl_cons, cget_eq hlt] at hr
  refine W_skip ?_
  refine W_seq <| W_block <| W_region (by rfl) ?_
  refine x r_move <| x r_move <| x r_move <| xic (i := k) h rfl rfl hlt fun a21 h21 => x (r_loadA h21 rfl) <| x (r_max rfl rfl) <| x r_assign <|
    xe ?_
  refine W_region (by rfl) ?_
  refine x r_move <| x (r_add rfl rfl ⟨by omega, by omega⟩) <| x r_assign <| xe ?_
  exact ⟨(k + 1, max m (cget l k)), by simp only []; omega, ⟨rfl, rfl, trivial⟩, rfl, hlt, hr⟩

theorem Canonical_ok {L : List Nat} {w : World} {va vm ve : Value} {a : Aut} (h : AutA L w.heap va vm ve a) :
    Ret Tryd.prog 42 [.agg #[va, .int .i64 a.st, vm, ve]] w fun r w' => Step [] w w' ∧ ∃ v, r = .tuple #[v, .int .i64 (ckA a)] ∧ (ckA a ≠ 0 → v = zA) ∧ (ckA a = 0 → AutF w.heap.size w'.heap v (canA a)) := by
  refine Ret.of_W Tryd.func42 rfl Tryd.ntmps42 Tryd.results42 (by simp) ?_
  refine W_seq <| W_region (by rfl) ?_
  refine xl rfl <| o_box (us := [va, .int .i64 a.st, vm, ve]) rfl fun b1 w1 hs1 hb1 hB1 => xl rfl <| o_alloc (us := [.slice none 0 0, .int .i64 0, .slice none 0 0, .slice none 0 0]) rfl fun b2 w2 hs2 hb2 hB2 => x r_assign <| xe ?_
  have hs12 := hs1.trans hs2
  refine W_seq <| W_seq <| W_region (by rfl) ?_
  refine x (r_loadsB (hB1.ext hs2) rfl rfl) <| xl rfl <| xf <| (check_ok (h.ext hs12)).mono ?_
  rintro r3 w3 ⟨rfl, hs3⟩
  refine x r_assign <| xe ?_
  have hz1 := hs1.size
  refine W_seq <| W_region (by rfl) ?_
  refine x r_move <| x (r_neq rfl rfl) <| xe ?_
  refine W_if rfl (fun h8 => ?_) (fun h8 => ?_)
  · refine W_seq <| W_region (by rfl) ?_
    refine x (r_build trivial) <| x r_move <| xl rfl <| o_stores (us := [.slice none 0 0, .int .i64 0, .slice none 0 0, .slice none 0 0]) (hB2.ext hs3) rfl rfl rfl rfl ⟨rfl, rfl, rfl, rfl, trivial⟩ fun w4 hs4 hB4 => x r_assign <| xe ?_
    exact W_ret ⟨[zA, .int .i64 (ckA a)], ⟨⟨_, rfl, run_loadVar_ag rfl (hB4.at (L := []) (by simp)).cells⟩, rfl, trivial⟩, (hs12.trans hs3).then1 hs4 (by omega), zA, rfl, fun _ => rfl, fun e => absurd e h8⟩
  have hc : ckA a = 0 := Decidable.not_not.1 h8
  have hok := (ckA_zero a).1 hc
  have hl2 := hB2.lt
  have hs13 := hs12.trans hs3
  refine W_skip ?_
  refine W_seq <| W_region (by rfl) ?_
  refine x (r_loadsB ((hB1.ext hs2).ext hs3) rfl rfl) <| xl rfl <| xf <| (canonical_ok (h.ext hs13) hok).mono ?_
  rintro v w5 ⟨hs5, hF⟩
  obtain ⟨us, hva, husl, hus⟩ := AutF_shape hF
  have hz3 := hs3.size
  have hz13 := hs13.size
  refine xl rfl <| o_stores (us := us) ((hB2.ext hs3).ext hs5) rfl hva husl rfl hus fun w6 hs6 hB6 =>
    x r_assign <| xe ?_
  refine W_ret ⟨[.agg us.toArray, .int .i64 0], ⟨⟨_, rfl, run_loadVar_ag husl (hB6.at (L := []) (by simp)).cells⟩, rfl, trivial⟩, (hs13.trans hs5).then1 hs6 (by omega), v, by rw [hc, hva]; rfl, fun e => absurd hc e, fun _ => ?_⟩
  exact (AutF_st1 hF (by omega) hs6).mono hz13
end Go.Proofs.YtfhgnlkdcdlblaaDoor
