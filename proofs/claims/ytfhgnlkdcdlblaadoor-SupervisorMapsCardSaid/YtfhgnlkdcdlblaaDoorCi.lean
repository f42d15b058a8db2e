/- Contracts: product.open, initial, marked, step. -/
import Derived.Test.YtfhgnlkdcdlblaaDoorCh
namespace Go.Proofs.YtfhgnlkdcdlblaaDoor
open Go.Lg

theorem edMap_snoc {m : List ((Int × Int) × Value)} {es : List Ed} {k : Nat} (h : k < es.length) : edMap m (es.take (k + 1)) = mput (edMap m (es.take k)) (es[k].1, es[k].2.1) (.int .i64 es[k].2.2) := by
  unfold edMap
  rw [List.take_succ_eq_append_getElem h, List.foldl_append]; rfl

theorem open_ok {L : List Nat} {w : World} {vl : Value} {ps : List AV} (h : Auts L w.heap vl ps) (hn : ps.length ≤ 12) (hal : ∀ p ∈ ps, p.a.al.length ≤ 32) (hL : ∀ b ∈ L, b < w.heap.size) :
    Ret Tryd.prog 48 [vl] w fun r w' => Step [] w w' ∧ ∃ ve vs ms, r = .agg #[vl, ve, vs] ∧ Mach L w'.heap vl ve vs ps ms ∧ IntsO 3 w.heap.size w' ve (evs (ps.map (·.a))) := by
  refine Ret.of_W Tryd.func48 rfl Tryd.ntmps48 Tryd.results48 (by simp) ?_
  refine W_seq <| W_region (by rfl) ?_
  refine xl rfl <| o_alloc (us := [.slice none 0 0, .slice none 0 0, .slice none 0 0]) rfl fun b2 w1 hs1 hb2 hB2 => xe ?_
  refine W_seq <| W_region (by rfl) ?_
  refine x r_move <| x r_move <| xl rfl <| xf <| (events_ok (h.ext hs1) hn hal).mono ?_
  rintro ve w2 ⟨hs2, hve⟩
  have hel := evs_len (ps.map (·.a)) (fun a ha => by obtain ⟨p, hp, rfl⟩ := List.mem_map.1 ha; exact hal p hp)
  have hevl : (evs (ps.map (·.a))).length ≤ 1000 := by simp at hel; omega
  have hveA := IntsO.ints (L := []) hve (by omega) (by simp)
  refine x (r_build ⟨h.arr.cells, hveA.cells, trivial⟩) <| xl rfl <| o_alloc (us := [.slice none 0 0, .slice none 0 0, .slice none 0 0]) rfl fun b3 w3 hs3 hb3 hB3 =>
    xl rfl <| o_stores (us := [vl, ve, .slice none 0 0]) hB3 rfl rfl rfl rfl ⟨h.arr.one, hveA.one, rfl, trivial⟩ fun w4 hs4 hB3 => xe ?_
  have hz1 := hs1.size
  have hz2 := hs2.size
  have hS4 : Step [] w2 w4 := hs3.then1 hs4 hb3
  have hz4 := hS4.size
  have hl2 := hB2.lt
  have hl3 := hB3.lt
  have hW4 : Step [] w w4 := (hs1.trans hs2).trans hS4
  have hve4 := own_ext hve hS4
  refine W_seq <| W_seq <| W_region (by rfl) ?_
  refine x r_move <| x (r_lenA h.arr rfl) <| x r_move <| xe ?_
  have hevlt := own_lt hve
  -- one map for each automaton
  refine W_block <| W_loop (α := Nat × List Nat × Value) [(5, 6), (8, 8), (15, 42)] (fun z => [(15, .int .i64 z.1)])
    (fun z w' => z.1 ≤ ps.length ∧ z.2.1.length = z.1 ∧ Step [b3] w4 w' ∧ Blk w'.heap b3 104 [vl, ve, z.2.2] ∧ w'.ownsRow w4.heap.size 88 1 z.2.2 z.2.1.length (z.2.1.flatMap mCell) ∧
      (∀ i (h : i < z.2.1.length) (h' : i < ps.length), MapB kPair w'.heap z.2.1[i] (edMap [] ps[i].a.ed) ∧ w4.heap.size ≤ z.2.1[i] ∧ z.2.1[i] ∉ ob z.2.2)) (fun z => ps.length - z.1) (by rfl) (0, [], .slice none 0 0) ⟨rfl, trivial⟩
    ⟨Nat.zero_le _, rfl, Step.refl _ _, hB3, own_nil _ _ _ _, fun i h => by simp at h⟩ ?_
  rintro ⟨k, ms, vs⟩ g w5 ⟨hk, hml, hs5, hB5, ho5, hmp5⟩
  simp only [] at hk hml hs5 hB5 ho5 hmp5
  have hW5 : Step [] w w5 := hW4.then1 hs5 (by omega)
  have hz5 := hs5.size
  have hge5 := own_ge ho5
  refine W_seq <| W_region (by rfl) ?_
  refine x (r_lss rfl rfl) <| xe ?_
  refine W_seq <| W_ifn rfl (fun h16 => ?_) (fun h16 => ?_)
  · have hke : k = ps.length := by omega
    subst hke
    refine W_exit ?_
    refine W_seq <| W_region (by rfl) ?_
    have hvsA := own_arr (L := []) ho5 (by omega) (by simp)
    refine x (r_loadsB hB5 rfl rfl) <| xl rfl <| o_stores (us := [vl, ve, vs]) (((hB2.ext hs2).ext hS4).step hs5 (by simp; omega)) rfl rfl rfl rfl ⟨h.arr.one, hveA.one, hvsA.one, trivial⟩ fun w6 hs6 hB6 => xe ?_
    have hW6 := hW5.then1 hs6 hb2
    have hve6 : IntsO 3 w1.heap.size w6 ve _ := own_step (own_step hve4 hs5 (fun b hb => by have := hevlt b hb; simp; omega)) hs6 (fun b hb => by have := (own_ge hve b hb).1; simp; omega)
    have ho6 := own_step ho5 hs6 (fun b hb => by have := (hge5 b hb).1; simp; omega)
    refine W_ret ⟨[.agg #[vl, ve, vs]], ⟨⟨_, rfl, run_loadVar_ag rfl (hB6.at (L := []) (by simp)).cells⟩, trivial⟩, hW6, ve, vs, ms, rfl, ⟨h.ext hW6, IntsO.ints hve6 (by omega) (fun b hb => by have := hL b hb; omega), hml, own_arr ho6 (by omega) (fun b hb hbL => by have := hL b hbL; have := (own_ge ho6 b hb).1; omega), fun i h1 h2 => ⟨?_, fun hbL => by have := hL _ hbL; have := (hmp5 i h1 h2).2.1; omega⟩⟩, own_base hve6 hz1⟩
    obtain ⟨m1, m2, _⟩ := hmp5 i h1 h2
    exact m1.step hs6 (fun hb => by
      simp only [List.mem_singleton] at hb
      have h7 := (((hB2.ext hs2).ext hS4).step hs5 (by simp; omega))
      rw [hb] at m1
      obtain ⟨es, c, m4, _⟩ := m1
      unfold Blk at h7
      rw [h7] at m4; cases m4)
  have hlt : k < ps.length := by omega
  have hA := h.each ps[k] (List.getElem_mem hlt)
  refine W_skip ?_
  refine W_seq <| W_block <| W_seq <| W_region (by rfl) ?_
  refine xig av_len (h.ext hW5).arr rfl rfl hlt fun a17 h17 => x (r_loadsA h17 rfl rfl) <| xl rfl <| o_alloc (us := [.slice none 0 0, .int .i64 0, .slice none 0 0, .slice none 0 0]) rfl fun b5 w7 hs7 hb5 hB5' =>
    xl rfl <| o_stores (us := avCells ps[k]) hB5' rfl rfl rfl rfl ⟨hA.al.one, rfl, hA.mr.one, hA.ed.one, trivial⟩ fun w8 hs8 hBa => xe ?_
  have hs58 : Step [] w5 w8 := hs7.then1 hs8 hb5
  have hz8 := hs58.size
  have hl5 := hBa.lt
  refine W_seq <| W_region (by rfl) ?_
  refine xl rfl <| o_makeMap kPair fun bm w9 hs9 hbm hm9 => x r_assign <| xe ?_
  have hz9 := hs9.size
  have hlm := hm9.lt
  have hs59 := hs58.trans hs9
  have hW9 := hW5.trans hs59
  refine W_seq <| W_seq <| W_region (by rfl) ?_
  refine x (r_fieldB rfl) <| x (r_loadB (hBa.ext hs9) rfl rfl) <| x (r_lenA hA.ed rfl) <| x r_move <| xe ?_
  have hed9 := (hA.ed.up (L' := [bm]) (fun b hb => .inr (by simp at hb; have := hW5.size; omega))).ext hW9
  have hedl := hA.ed.le
  -- the edges
  refine W_block <| W_loop (α := Nat) [(8, 8), (23, 35)] (fun z => [(23, .int .i64 z)]) (fun z w' => z ≤ ps[k].a.ed.length ∧ Step [bm] w9 w' ∧ MapB kPair w'.heap bm (edMap [] (ps[k].a.ed.take z))) (fun z => ps[k].a.ed.length - z) (by rfl) 0 ⟨rfl, trivial⟩
    ⟨Nat.zero_le _, Step.refl _ _, hm9⟩ ?_
  rintro j g2 w10 ⟨hj, hs10, hm10⟩
  have hz10 := hs10.size
  refine W_seq <| W_region (by rfl) ?_
  refine x (r_lss rfl rfl) <| xe ?_
  refine W_seq <| W_ifn rfl (fun h24 => ?_) (fun h24 => ?_)
  · refine W_exit ?_
    rw [List.take_of_length_le (by omega)] at hm10
    have hs510 : Step [] w5 w10 := hs59.then1 hs10 (by omega)
    have hB10 : Blk w10.heap b3 104 [vl, ve, vs] := hB5.ext hs510
    refine W_region (by rfl) ?_
    refine x (r_fieldB rfl) <| x (r_loadB hB10 rfl rfl) <| x r_move <| xl rfl <| o_lits (us := [[.map (some bm)]]) rfl rfl (by decide) (by simp) ⟨rfl, rfl, trivial⟩ fun b39 w11 hs11 hb39 hB39 => ?_
    have hs511 := hs510.trans hs11
    have ho11 := own_ext ho5 hs511
    have hz11 := hs511.size
    refine xl rfl <| o_app (news := [.map (some bm)]) (L := []) ho11 rfl rfl rfl (hB39.at (by simp)) (by simp [Value.oneCell']) (by omega) (by omega) fun v12 w12 ho12 hs12 hn12 => ?_
    have ho12' : w12.ownsRow w4.heap.size 88 1 v12 (ms ++ [bm]).length ((ms ++ [bm]).flatMap mCell) := by
      rw [List.length_append, List.flatMap_append]; simpa using ho12
    have hB12 := (hB10.ext hs11).step hs12 (own_notin ho5 (by omega))
    refine x (r_fieldB rfl) <| xl rfl <| o_store hB12 rfl rfl (by simp) (own_arr (L := []) ho12' (by simp; omega) (by simp)).one fun w13 hs13 hB13 => xe ?_
    refine W_region (by rfl) ?_
    refine x (r_add rfl rfl ⟨by omega, by omega⟩) <| x r_move <| xe ?_
    have hnew : ∀ b ∈ ob v12, w4.heap.size ≤ b := fun b hb => (own_ge ho12' b hb).1
    have hz10' : w10.heap.size ≤ w11.heap.size := hs11.size
    refine ⟨(k + 1, ms ++ [bm], v12), by simp only []; omega, ⟨rfl, trivial⟩, hlt, by simp [hml], ?_, hB13, own_step ho12' hs13 (fun b hb => by have := hnew b hb; simp; omega), ?_⟩
    · exact ((hs5.trans hs511).then hs12 (fun b hb => .inr (hge5 b hb).1)).trans' hs13
    · intro i h1 h2
      simp only [List.length_append, List.length_singleton] at h1
      have keep : ∀ (c : Nat) (m : List ((Int × Int) × Value)), MapB kPair w10.heap c m → c ≠ b3 → c ∉ ob vs → MapB kPair w13.heap c m := fun c m hm hc3 hcv =>
        ((hm.ext hs11).step hs12 hcv).step hs13 (by simpa using hc3)
      by_cases hi : i < ms.length
      · obtain ⟨m1, m2, m3⟩ := hmp5 i hi h2
        simp only [List.getElem_append_left hi]
        refine ⟨keep _ _ (m1.ext hs510) (by omega) m3, m2, fun hb => ?_⟩
        have hlt5 := m1.lt
        rcases hn12 _ hb with h5 | h5
        · exact m3 h5
        · omega
      · have hi' : i = ms.length := by omega
        subst hi'
        simp only [List.getElem_append_right (Nat.le_refl _), Nat.sub_self, List.getElem_singleton]
        have hq : ms.length = k := hml
        have e2 : ps[ms.length] = ps[k] := by simp only [hq]
        rw [e2]
        refine ⟨keep _ _ hm10 (by omega) (fun hb => by have := (hge5 _ hb).2; omega), by omega, fun hb => ?_⟩
        rcases hn12 _ hb with h5 | h5
        · have := (hge5 _ h5).2; omega
        · omega
  have hlt2 : j < ps[k].a.ed.length := by omega
  refine W_skip ?_
  refine W_seq <| W_block <| W_seq <| W_region (by rfl) ?_
  refine xie (hed9.st hs10) rfl rfl hlt2 fun a25 h25 => x (r_loadsA h25 rfl rfl) <| xl rfl <| o_alloc (us := [.int .i64 0, .int .i64 0, .int .i64 0]) rfl fun b8 w14 hs14 hb8 hB8 => xl rfl <| o_stores (us := edCells ps[k].a.ed[j]) hB8 rfl rfl rfl rfl ⟨rfl, rfl, rfl, trivial⟩ fun w15 hs15 hB8 => xe ?_
  have hs1015 : Step [] w10 w15 := hs14.then1 hs15 hb8
  refine W_region (by rfl) ?_
  refine x r_move <| x (r_fieldB rfl) <| x (r_loadB hB8 rfl rfl) <| x (r_fieldB rfl) <| x (r_loadB hB8 rfl rfl) <| x (r_build ⟨rfl, rfl, trivial⟩) <| x (r_fieldB rfl) <|
    x (r_loadB hB8 rfl rfl) <| xl rfl <| o_update (k := (ps[k].a.ed[j].1, ps[k].a.ed[j].2.1)) (hm10.ext hs1015) rfl rfl fun w16 hs16 hm16 => xe ?_
  refine W_region (by rfl) ?_
  refine x (r_add rfl rfl ⟨by omega, by omega⟩) <| x r_move <| xe ?_
  refine ⟨j + 1, by omega, ⟨rfl, trivial⟩, hlt2, (hs10.trans hs1015).trans' hs16, ?_⟩
  rw [edMap_snoc hlt2]
  exact hm16
end Go.Proofs.YtfhgnlkdcdlblaaDoor
