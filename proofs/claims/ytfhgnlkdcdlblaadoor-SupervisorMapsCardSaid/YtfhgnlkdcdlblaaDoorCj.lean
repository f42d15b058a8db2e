/- Contracts: product's initial, marked, step. -/
import Derived.Test.YtfhgnlkdcdlblaaDoorCi
namespace Go.Proofs.YtfhgnlkdcdlblaaDoor
open Go.Lg

theorem initial_ok {L : List Nat} {w : World} {vl ve vs : Value} {ps : List AV} {ms : List Nat} (h : Mach L w.heap vl ve vs ps ms) (hn : ps.length ≤ 12) :
    Ret Tryd.prog 49 [.agg #[vl, ve, vs]] w fun r w' => Step [] w w' ∧
      if ∃ p ∈ ps, p.a.st = 0 then r = .tuple #[.slice none 0 0, .bool false] else ∃ v, r = .tuple #[v, .bool true] ∧ IntsO 3 w.heap.size w' v (List.replicate ps.length 0) := by
  refine Ret.of_W Tryd.func49 rfl Tryd.ntmps49 Tryd.results49 (by simp) ?_
  refine W_seq <| W_region (by rfl) ?_
  refine xl rfl <| o_box (us := [vl, ve, vs]) rfl fun b1 w1 hs1 hb1 hB1 => x r_assign <| x r_assign <| xe ?_
  refine W_seq <| W_seq <| W_region (by rfl) ?_
  refine x (r_fieldB rfl) <| x (r_loadB hB1 rfl rfl) <| x (r_lenA h.al.arr rfl) <| x r_move <| xe ?_
  refine W_block <| W_loop (α := Nat) [(2, 3), (5, 5), (9, 16)] (fun z => [(9, .int .i64 z)]) (fun z w' => z ≤ ps.length ∧ Step [] w1 w' ∧ ∀ i (h : i < ps.length), i < z → ps[i].a.st ≠ 0) (fun z => ps.length - z) (by rfl) 0 ⟨rfl, trivial⟩
    ⟨Nat.zero_le _, Step.refl _ _, fun i _ h => by omega⟩ ?_
  rintro k g w2 ⟨hk, hs2, hnz⟩
  refine W_seq <| W_region (by rfl) ?_
  refine x (r_lss rfl rfl) <| xe ?_
  refine W_seq <| W_ifn rfl (fun h10 => ?_) (fun h10 => ?_)
  · refine W_exit ?_
    refine W_seq <| W_region (by rfl) ?_
    refine x (r_fieldB rfl) <| x (r_loadB (hB1.ext hs2) rfl rfl) <| x (r_lenA h.al.arr rfl) <| xl rfl <| o_make (n := ps.length) rfl rfl (by omega) fun b20 w3 hs3 hb20 hB20 => x r_assign <| x r_assign <| xe ?_
    rw [show (List.replicate ps.length (Value.int .i64 0).cells.toList).flatten = ((List.replicate ps.length 0).map (Value.int .i64)) by rw [show (Value.int .i64 0).cells.toList = [Value.int .i64 0] from rfl, rep_flat, List.map_replicate]] at hB20
    have hz := (hs1.trans hs2).size
    refine W_ret ⟨[.slice (some ⟨b20, 0, none⟩) ps.length ps.length, .bool true], ⟨rfl, rfl, trivial⟩, (hs1.trans hs2).trans hs3, ?_⟩
    rw [if_neg (by
      rintro ⟨p, hp, h0⟩
      obtain ⟨i, hi, rfl⟩ := List.getElem_of_mem hp
      exact hnz i hi (by omega) h0)]
    refine ⟨_, rfl, ?_⟩
    have := hB20.own (n := ps.length) (sz := 1) (base := w.heap.size) (by simp) (by omega) (by omega)
    unfold IntsO
    rw [List.length_replicate]; exact this
  have hlt : k < ps.length := by omega
  have hA := h.al.each ps[k] (List.getElem_mem hlt)
  refine W_skip ?_
  refine W_seq <| W_block <| W_seq <| W_region (by rfl) ?_
  refine xig av_len ((h.al.ext hs1).ext hs2).arr rfl rfl hlt fun a11 h11 => x (r_loadsA h11 rfl rfl) <| xl rfl <| o_alloc (us := [.slice none 0 0, .int .i64 0, .slice none 0 0, .slice none 0 0]) rfl fun b5 w4 hs4 hb5 hB5 =>
    xl rfl <| o_stores (us := avCells ps[k]) hB5 rfl rfl rfl rfl ⟨hA.al.one, rfl, hA.mr.one, hA.ed.one, trivial⟩ fun w5 hs5 hB5 => xe ?_
  have hs25 : Step [] w2 w5 := hs4.then1 hs5 hb5
  refine W_seq <| W_region (by rfl) ?_
  refine x (r_fieldB rfl) <| x (r_loadB hB5 rfl rfl) <| x (r_eql rfl rfl) <| xe ?_
  refine W_if rfl (fun h15 => ?_) (fun h15 => ?_)
  · refine W_seq <| W_region (by rfl) ?_
    refine x r_assign <| x r_assign <| xe ?_
    refine W_ret ⟨[.slice none 0 0, .bool false], ⟨rfl, rfl, trivial⟩, (hs1.trans hs2).trans hs25, ?_⟩
    rw [if_pos ⟨ps[k], List.getElem_mem hlt, h15⟩]; rfl
  refine W_skip ?_
  refine W_region (by rfl) ?_
  refine x (r_add rfl rfl ⟨by omega, by omega⟩) <| x r_move <| xe ?_
  refine ⟨k + 1, by omega, ⟨rfl, trivial⟩, hlt, hs2.trans hs25, fun i hi hik => ?_⟩
  by_cases e : i = k
  · subst e; exact h15
  · exact hnz i hi (by omega)

theorem markT_drop {aa : List Aut} {ts : List Int} {k : Nat} (h : k < aa.length) (h' : k < ts.length) : markT (aa.drop k) (ts.drop k) = (decide (ts[k] ∈ aa[k].mr) && markT (aa.drop (k + 1)) (ts.drop (k + 1))) := by
  rw [List.drop_eq_getElem_cons h, List.drop_eq_getElem_cons h', markT]
theorem marked_ok {L : List Nat} {w : World} {vl ve vs vt : Value} {ps : List AV} {ms : List Nat} {ts : List Int} (h : Mach L w.heap vl ve vs ps ms) (ht : Ints L w.heap vt ts) (hl : ts.length = ps.length) (hi : ∀ p ∈ ps, Inc p.a.mr) (hn : ps.length ≤ 12) :
    Ret Tryd.prog 51 [.agg #[vl, ve, vs], vt] w fun r w' => r = .bool (markT (ps.map (·.a)) ts) ∧ Step [] w w' := by
  refine Ret.of_W Tryd.func51 rfl Tryd.ntmps51 Tryd.results51 (by simp) ?_
  refine W_seq <| W_region (by rfl) ?_
  refine xl rfl <| o_box (us := [vl, ve, vs]) rfl fun b2 w1 hs1 hb2 hB2 => x r_assign <| xe ?_
  refine W_seq <| W_seq <| W_region (by rfl) ?_
  refine x (r_fieldB rfl) <| x (r_loadB hB2 rfl rfl) <| x (r_lenA h.al.arr rfl) <| x r_move <| xe ?_
  refine W_block <| W_loop (α := Nat) [(4, 6), (10, 23)] (fun z => [(10, .int .i64 z)]) (fun z w' => z ≤ ps.length ∧ Step [] w w' ∧ markT (ps.map (·.a)) ts = markT ((ps.map (·.a)).drop z) (ts.drop z)) (fun z => ps.length - z) (by rfl) 0 ⟨rfl, trivial⟩
    ⟨Nat.zero_le _, hs1, rfl⟩ ?_
  rintro k g w2 ⟨hk, hs2, hmk⟩
  refine W_seq <| W_region (by rfl) ?_
  refine x (r_lss rfl rfl) <| xe ?_
  refine W_seq <| W_ifn rfl (fun h11 => ?_) (fun h11 => ?_)
  · refine W_exit ?_
    refine W_seq <| W_region (by rfl) ?_
    refine x r_assign <| xe ?_
    refine W_ret ⟨[.bool true], ⟨rfl, trivial⟩, ?_, hs2⟩
    rw [hmk, List.drop_of_length_le (by simp; omega)]; rfl
  have hlt : k < ps.length := by omega
  have hlt' : k < ts.length := by omega
  have hA := h.al.each ps[k] (List.getElem_mem hlt)
  rw [markT_drop (by simpa using hlt) hlt', List.getElem_map] at hmk
  refine W_skip ?_
  refine W_seq <| W_block <| W_seq <| W_region (by rfl) ?_
  refine x r_move <| xig av_len (h.al.ext hs2).arr rfl rfl hlt fun a13 h13 => x (r_loadsA h13 rfl rfl) <| xl rfl <| o_alloc (us := [.slice none 0 0, .int .i64 0, .slice none 0 0, .slice none 0 0]) rfl fun b6 w3 hs3 hb6 hB6 => x r_assign <|
    xl rfl <| o_stores (us := avCells ps[k]) hB6 rfl rfl rfl rfl ⟨hA.al.one, rfl, hA.mr.one, hA.ed.one, trivial⟩ fun w4 hs4 hB6 => xe ?_
  have hs24 : Step [] w2 w4 := hs3.then1 hs4 hb6
  have hst := hs2.trans hs24
  refine W_seq <| W_draw (Step [] w4) [(0, true), (1, true), (2, true), (3, true), (4, true), (5, true), (6, false), (7, true)] Tryd.mixed (by rfl) (by kernel_rfl) (Step.drew _ _) ?_
  refine p (fun _ => r_fieldB rfl) <| pq (fun _ hc => r_loadB (hB6.ext hc) rfl rfl) <| p (fun _ => r_move) <| p (fun _ => r_move) <| pii rfl (ht.ext hst) rfl rfl hlt' fun a19 h19 =>
    pq (fun _ hc => r_loadA (h19.ext hc) rfl) <| pk <| xf <| (alContains_ok ((hA.mr.ext hst).ext (Step.drew _ _)) (hi ps[k] (List.getElem_mem hlt)) _).mono ?_
  rintro r5 w5 ⟨rfl, rfl⟩
  refine ⟨Step.drew _ _, ?_⟩
  refine p (fun _ => r_not rfl) <| pe ?_
  have hst5 := hst.trans (Step.drew [] w4)
  refine W_cond rfl (fun h22 => ?_) (fun h22 => ?_)
  · refine W_seq <| W_region (by rfl) ?_
    refine x r_assign <| xe ?_
    refine W_ret ⟨[.bool false], ⟨rfl, trivial⟩, ?_, hst5⟩
    rw [hmk, show decide (ts[k] ∈ ps[k].a.mr) = false by simpa using h22]; rfl
  refine W_skip ?_
  refine W_region (by rfl) ?_
  refine x (r_add rfl rfl ⟨by omega, by omega⟩) <| x r_move <| xe ?_
  refine ⟨k + 1, by omega, ⟨rfl, trivial⟩, hlt, hst5, ?_⟩
  rw [hmk, show decide (ts[k] ∈ ps[k].a.mr) = true by simpa using h22, Bool.true_and]

theorem stepT_drop {aa : List Aut} {ts : List Int} {k : Nat} {v : Int} (h : k < aa.length) (h' : k < ts.length) : stepT v (aa.drop k) (ts.drop k) =
    if v ∉ aa[k].al then (stepT v (aa.drop (k + 1)) (ts.drop (k + 1))).map (ts[k] :: ·) else match eget aa[k].ed ts[k] v with | none => none | some u => (stepT v (aa.drop (k + 1)) (ts.drop (k + 1))).map (u :: ·) := by
  rw [List.drop_eq_getElem_cons h, List.drop_eq_getElem_cons h', stepT]
  split
  · rfl
  · cases eget aa[k].ed ts[k] v <;> rfl
theorem pstep_ok {L : List Nat} {w : World} {vl ve vs vt : Value} {ps : List AV} {ms : List Nat} {ts : List Int} (h : Mach L w.heap vl ve vs ps ms) (ht : Ints L w.heap vt ts) (hl : ts.length = ps.length) (hi : ∀ p ∈ ps, Inc p.a.al)
    (hed : ∀ p ∈ ps, p.a.ed.Pairwise fun x y => x.1 < y.1 ∨ (x.1 = y.1 ∧ x.2.1 < y.2.1)) (hn : ps.length ≤ 12) (v : Int) :
    Ret Tryd.prog 52 [.agg #[vl, ve, vs], vt, .int .i64 v] w fun r w' => Step [] w w' ∧
      match stepT v (ps.map (·.a)) ts with | none => r = .tuple #[.slice none 0 0, .bool false] | some u => ∃ v', r = .tuple #[v', .bool true] ∧ IntsO 3 w.heap.size w' v' u := by
  refine Ret.of_W Tryd.func52 rfl Tryd.ntmps52 Tryd.results52 (by simp) ?_
  refine W_seq <| W_region (by rfl) ?_
  refine xl rfl <| o_box (us := [vl, ve, vs]) rfl fun b3 w1 hs1 hb3 hB3 => x r_assign <| x r_assign <| xe ?_
  refine W_seq <| W_region (by rfl) ?_
  refine x r_move <| xl rfl <| xf <| (clone_ok (ht.ext hs1)).mono ?_
  rintro vx w2 ⟨hs2, hx2⟩
  refine x r_assign <| xe ?_
  have hz1 := hs1.size
  have hz2 := hs2.size
  have hl3 := hB3.lt
  have hW2 := hs1.trans hs2
  refine W_seq <| W_seq <| W_region (by rfl) ?_
  refine x (r_fieldB rfl) <| x (r_loadB (hB3.ext hs2) rfl rfl) <| x (r_lenA h.al.arr rfl) <| x r_move <| xe ?_
  have hge := own_ge hx2
  have hM2 : Mach (ob vx) w2.heap vl ve vs ps ms := ((h.up (L' := ob vx) (fun b hb => .inr (by have := (hge b hb).1; omega))).ext hW2)
  have hT2 : Ints (ob vx) w2.heap vt ts := ((ht.up (L' := ob vx) (fun b hb => .inr (by have := (hge b hb).1; omega))).ext hW2)
  refine W_block <| W_loop (α := Nat × List Int) [(6, 7), (9, 12), (18, 49)] (fun z => [(18, .int .i64 z.1)])
    (fun z w' => z.1 ≤ ps.length ∧ z.2.length = z.1 ∧ Step (ob vx) w2 w' ∧ IntsO 3 w1.heap.size w' vx (z.2 ++ ts.drop z.1) ∧ stepT v (ps.map (·.a)) ts = (stepT v ((ps.map (·.a)).drop z.1) (ts.drop z.1)).map (z.2 ++ ·)) (fun z => ps.length - z.1) (by rfl) (0, []) ⟨rfl, trivial⟩
    ⟨Nat.zero_le _, rfl, Step.refl _ _, hx2, by simp⟩ ?_
  rintro ⟨k, pre⟩ g w3 ⟨hk, hpl, hs3, hx3, hst⟩
  simp only [] at hk hpl hx3 hst
  have hz3 := hs3.size
  have hW3 : Step [] w w3 := hW2.then hs3 (fun b hb => .inr (by have := (hge b hb).1; omega))
  refine W_seq <| W_region (by rfl) ?_
  refine x (r_lss rfl rfl) <| xe ?_
  refine W_seq <| W_ifn rfl (fun h19 => ?_) (fun h19 => ?_)
  · refine W_exit ?_
    refine W_seq <| W_region (by rfl) ?_
    refine x r_move <| x r_assign <| x r_assign <| xe ?_
    refine W_ret ⟨[vx, .bool true], ⟨rfl, rfl, trivial⟩, hW3, ?_⟩
    rw [List.drop_of_length_le (by simp; omega), List.drop_of_length_le (by omega)] at hst
    rw [List.drop_of_length_le (by omega)] at hx3
    rw [hst]
    simp only [stepT, Option.map_some]
    exact ⟨vx, rfl, own_base hx3 hz1⟩
  have hlt : k < ps.length := by omega
  have hlt' : k < ts.length := by omega
  have hltm : k < ms.length := by rw [h.ml]; exact hlt
  have hA := h.al.each ps[k] (List.getElem_mem hlt)
  rw [stepT_drop (by simpa using hlt) hlt', List.getElem_map] at hst
  have hM3 := hM2.st hs3
  have hT3 := hT2.st hs3
  refine W_skip ?_
  refine W_seq <| W_block <| W_seq <| W_region (by rfl) ?_
  refine x r_move <| xig av_len hM3.al.arr rfl rfl hlt fun a21 h21 => x (r_loadsA h21 rfl rfl) <| xl rfl <| o_alloc (us := [.slice none 0 0, .int .i64 0, .slice none 0 0, .slice none 0 0]) rfl fun b10 w4 hs4 hb10 hB10 => x r_assign <|
    xl rfl <| o_stores (us := avCells ps[k]) hB10 rfl rfl rfl rfl ⟨hA.al.one, rfl, hA.mr.one, hA.ed.one, trivial⟩ fun w5 hs5 hB10 => xe ?_
  have hs35 : Step [] w3 w5 := hs4.then1 hs5 hb10
  have hW5 := hW3.trans hs35
  refine W_seq <| W_seq <| W_region (by rfl) ?_
  refine x (r_fieldB rfl) <| x (r_loadB hB10 rfl rfl) <| x r_move <| xl rfl <| xf <| (alContains_ok (hA.al.ext hW5) (hi ps[k] (List.getElem_mem hlt)) v).mono ?_
  rintro r6 w6 ⟨rfl, rfl⟩
  refine x (r_not rfl) <| xe ?_
  have hdr := drop_cons hlt'
  refine W_cond rfl (fun h27 => ?_) (fun h27 => ?_)
  · have hna : v ∉ ps[k].a.al := by simpa using h27
    refine W_exit ?_
    refine W_region (by rfl) ?_
    refine x (r_add rfl rfl ⟨by omega, by omega⟩) <| x r_move <| xe ?_
    refine ⟨(k + 1, pre ++ [ts[k]]), by simp only []; omega, ⟨rfl, trivial⟩, hlt, by simp [hpl], hs3.trans hs35, ?_, ?_⟩
    · simp only [List.append_assoc, List.singleton_append]
      rw [← hdr]; exact own_ext hx3 hs35
    · simp only []
      rw [hst, if_pos hna, Option.map_map]
      congr 1; funext l; simp
  have hya : ¬ (v ∉ ps[k].a.al) := by simpa using h27
  rw [if_neg hya] at hst
  refine W_skip ?_
  have hB3' := (hB3.ext hs2).step hs3 (fun hb => by have := (hge b3 hb).1; omega)
  have hM5 := hM3.ext hs35
  obtain ⟨hmk, hmo⟩ := hM5.mp k hltm hlt
  refine W_seq <| W_draw (Step [] w6) [(0, true), (1, true), (2, true), (3, true), (4, true), (5, true), (6, true), (7, true), (8, true), (9, true), (10, true), (11, true), (12, true), (13, true), (14, true), (15, true), (16, true)] Tryd.mixed (by rfl) (by kernel_rfl) (Step.drew _ _) ?_
  refine p (fun _ => r_fieldB rfl) <| pq (fun _ hc => r_loadB ((hB3'.ext hs35).ext hc) rfl rfl) <| p (fun _ => r_move) <| pig rfl (g := mCell) (fun _ => rfl) hM5.sl rfl rfl hltm fun a32 h32 =>
    pq (fun _ hc => r_loadA (h32.ext hc) rfl) <| p (fun _ => r_move) <| p (fun _ => r_move) <| pii rfl (hT3.ext hs35) rfl rfl hlt' fun a36 h36 => pq (fun _ hc => r_loadA (h36.ext hc) rfl) <|
    p (fun _ => r_move) <| p (fun _ => r_build ⟨rfl, rfl, trivial⟩) <| pq (fun _ hc => r_lookup (k := (ts[k], v)) (hmk.ext hc) rfl rfl) <| ?_
  rw [edMap_get ps[k].a.ed [] ts[k] v (hed ps[k] (List.getElem_mem hlt))]
  have hs36 : Step [] w3 { w6 with drawn := w6.drawn + 1 } := hs35.trans (Step.drew [] w6)
  cases he : eget ps[k].a.ed ts[k] v with
  | none =>
    rw [he] at hst
    refine p (fun _ => r_move) <| p (fun _ => r_extract rfl rfl) <| p (fun _ => r_extract rfl rfl) <| p (fun _ => r_assign) <| p (fun _ => r_assign) <| pe ?_
    refine W_seq <| W_seq <| W_region (by rfl) ?_
    refine x r_move <| x (r_not rfl) <| xe ?_
    refine W_true rfl ?_
    refine W_seq <| W_region (by rfl) ?_
    refine x r_assign <| x r_assign <| xe ?_
    refine W_ret ⟨[.slice none 0 0, .bool false], ⟨rfl, rfl, trivial⟩, hW3.trans hs36, ?_⟩
    rw [hst]; rfl
  | some u =>
    rw [he] at hst
    refine p (fun _ => r_move) <| p (fun _ => r_extract rfl rfl) <| p (fun _ => r_extract rfl rfl) <| p (fun _ => r_assign) <| p (fun _ => r_assign) <| pe ?_
    refine W_seq <| W_seq <| W_region (by rfl) ?_
    refine x r_move <| x (r_not rfl) <| xe ?_
    refine W_false rfl ?_
    refine W_skip ?_
    have hx6 := own_ext hx3 hs36
    have hlen : (pre ++ ts.drop k).length = ts.length := by simp; omega
    obtain ⟨gx, cx, hvx⟩ := own_slice hx3 (by omega)
    have hobx : ob vx = [gx] := by rw [hvx]; rfl
    refine W_region (by rfl) ?_
    refine x r_move <| x r_move <| x r_move <| x (r_indexB hvx rfl (by omega)) <| xl rfl <| o_storeO (u := .int .i64 u) (by rw [hvx] at hx6; exact hx6) rfl rfl (by omega) rfl fun w7 hs7 hx7 => xe ?_
    refine W_region (by rfl) ?_
    refine x (r_add rfl rfl ⟨by omega, by omega⟩) <| x r_move <| xe ?_
    have hset : (pre ++ ts.drop k).set k u = (pre ++ [u]) ++ ts.drop (k + 1) := by
      rw [hdr, List.set_append_right _ _ (by omega), hpl, Nat.sub_self, List.set_cons_zero, List.append_assoc]; rfl
    refine ⟨(k + 1, pre ++ [u]), by simp only []; omega, ⟨rfl, trivial⟩, hlt, by simp [hpl], (hs3.trans hs36).then hs7 (fun b hb => .inl (by rw [hobx]; exact hb)), ?_, ?_⟩
    · simp only []
      rw [← hset]
      unfold IntsO
      rw [List.length_set, List.map_set, hvx]; exact hx7
    · simp only []
      rw [hst, Option.map_map]
      congr 1; funext l; simp
end Go.Proofs.YtfhgnlkdcdlblaaDoor
