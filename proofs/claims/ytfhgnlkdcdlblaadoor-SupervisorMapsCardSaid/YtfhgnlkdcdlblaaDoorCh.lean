/- Contracts: product.Check, events, open, initial, marked, step. -/
import Derived.Test.YtfhgnlkdcdlblaaDoorCg
import Derived.Test.YtfhgnlkdcdlblaaDoorSr
namespace Go.Proofs.YtfhgnlkdcdlblaaDoor
open Go.Lg

theorem av_len (p : AV) : (avCells p).length = 4 := rfl
theorem tv_len (p : TV) : (tvCells p).length = 1 := rfl
theorem Auts.le {L : List Nat} {H : Array Obj} {v : Value} {ps : List AV} (h : Auts L H v ps) : ps.length ≤ 1099511627776 := h.arr.le

theorem ckL_drop {l : List Aut} {k : Nat} (h : k < l.length) : ckL (l.drop k) = if ckA l[k] ≠ 0 then ckA l[k] else ckL (l.drop (k + 1)) := by
  rw [List.drop_eq_getElem_cons h, ckL]
theorem pCheck_ok {L : List Nat} {w : World} {v : Value} {ps : List AV} (h : Auts L w.heap v ps) :
    Ret Tryd.prog 47 [v] w fun r w' => r = .int .i64 (ckP (ps.map (·.a))) ∧ Step [] w w' := by
  have hle := Auts.le h
  refine Ret.of_W Tryd.func47 rfl Tryd.ntmps47 Tryd.results47 (by simp) ?_
  refine W_seq <| W_region (by rfl) ?_
  refine x r_assign <| xe ?_
  refine W_seq <| W_seq <| W_region (by rfl) ?_
  refine x r_move <| x (r_lenA h.arr rfl) <| x (r_gtr rfl rfl) <| xe ?_
  refine W_if rfl (fun h8 => ?_) (fun h8 => ?_)
  · refine W_seq <| W_region (by rfl) ?_
    refine x r_assign <| xe ?_
    refine W_ret ⟨[.int .i64 3], ⟨rfl, trivial⟩, ?_, Step.refl _ _⟩
    unfold ckP; rw [if_pos (by simp; omega)]; rfl
  refine W_skip ?_
  have hP : ckP (ps.map (·.a)) = ckL (ps.map (·.a)) := by unfold ckP; rw [if_neg (by simp; omega)]
  rw [hP]
  refine W_seq <| W_seq <| W_region (by rfl) ?_
  refine x r_move <| x (r_lenA h.arr rfl) <| x r_move <| xe ?_
  refine W_block <| W_loop (α := Nat) [(2, 2), (4, 5), (11, 20)] (fun z => [(11, .int .i64 z)]) (fun z w' => z ≤ ps.length ∧ Step [] w w' ∧ ckL (ps.map (·.a)) = ckL ((ps.map (·.a)).drop z)) (fun z => ps.length - z) (by rfl) 0 ⟨rfl, trivial⟩
    ⟨Nat.zero_le _, Step.refl _ _, rfl⟩ ?_
  rintro k g w1 ⟨hk, hs1, hck⟩
  refine W_seq <| W_region (by rfl) ?_
  refine x (r_lss rfl rfl) <| xe ?_
  refine W_seq <| W_ifn rfl (fun h12 => ?_) (fun h12 => ?_)
  · refine W_exit ?_
    refine W_seq <| W_region (by rfl) ?_
    refine x r_assign <| xe ?_
    refine W_ret ⟨[.int .i64 0], ⟨rfl, trivial⟩, ?_, hs1⟩
    rw [hck, List.drop_of_length_le (by simp; omega)]; rfl
  have hlt : k < ps.length := by omega
  have hlt' : k < (ps.map (·.a)).length := by simpa using hlt
  rw [ckL_drop hlt', List.getElem_map] at hck
  refine W_skip ?_
  refine W_seq <| W_block <| W_seq <| W_region (by rfl) ?_
  refine xig av_len (h.ext hs1).arr rfl rfl hlt fun a13 h13 => x (r_loadsA h13 rfl rfl) <| xl rfl <| o_alloc (us := [.slice none 0 0, .int .i64 0, .slice none 0 0, .slice none 0 0]) rfl fun b4 w2 hs2 hb4 hB4 => ?_
  have hA := h.each ps[k] (List.getElem_mem hlt)
  refine xl rfl <| o_stores (us := avCells ps[k]) hB4 rfl rfl rfl rfl ⟨hA.al.one, rfl, hA.mr.one, hA.ed.one, trivial⟩ fun w3 hs3 hB4 => xe ?_
  have hs13 : Step [] w1 w3 := hs2.then1 hs3 hb4
  refine W_seq <| W_region (by rfl) ?_
  refine x (r_loadsB hB4 rfl rfl) <| xl rfl <| xf <| (check_ok ((hA.ext hs1).ext hs13)).mono ?_
  rintro r4 w4 ⟨rfl, hs4⟩
  refine x r_assign <| xe ?_
  have hst := (hs1.trans hs13).trans hs4
  refine W_seq <| W_region (by rfl) ?_
  refine x r_move <| x (r_neq rfl rfl) <| xe ?_
  refine W_if rfl (fun h18 => ?_) (fun h18 => ?_)
  · refine W_seq <| W_region (by rfl) ?_
    refine x r_move <| x r_assign <| xe ?_
    refine W_ret ⟨[.int .i64 (ckA ps[k].a)], ⟨rfl, trivial⟩, ?_, hst⟩
    rw [hck, if_pos h18]; rfl
  refine W_skip ?_
  refine W_region (by rfl) ?_
  refine x (r_add rfl rfl ⟨by omega, by omega⟩) <| x r_move <| xe ?_
  refine ⟨k + 1, by omega, ⟨rfl, trivial⟩, hlt, hst, ?_⟩
  rw [hck, if_neg h18]

theorem evs_take {l : List Aut} {k : Nat} (h : k < l.length) : evs (l.take (k + 1)) = mrg (· || ·) (evs (l.take k)) l[k].al := by
  unfold evs
  rw [List.take_succ_eq_append_getElem h, List.foldl_append]; rfl
theorem evs_len (l : List Aut) (h : ∀ a ∈ l, a.al.length ≤ 32) : (evs l).length ≤ 32 * l.length := by
  have key : ∀ (l : List Aut) (acc : List Int), (∀ a ∈ l, a.al.length ≤ 32) → (l.foldl (fun acc a => mrg (· || ·) acc a.al) acc).length ≤ acc.length + 32 * l.length := by
    intro l
    induction l with
    | nil => intro acc _; simp
    | cons a l ih =>
      intro acc h
      have h1 := ih (mrg (· || ·) acc a.al) (fun a ha => h a (List.mem_cons_of_mem _ ha))
      have h2 := mrg_len (· || ·) acc a.al
      have h3 := h a List.mem_cons_self
      simp only [List.foldl_cons, List.length_cons]
      omega
  have := key l [] h
  unfold evs; simpa using this
theorem events_ok {L : List Nat} {w : World} {v : Value} {ps : List AV} (h : Auts L w.heap v ps) (hn : ps.length ≤ 12) (hal : ∀ p ∈ ps, p.a.al.length ≤ 32) :
    Ret Tryd.prog 77 [v] w fun r w' => Step [] w w' ∧ IntsO 3 w.heap.size w' r (evs (ps.map (·.a))) := by
  refine Ret.of_W Tryd.func77 rfl Tryd.ntmps77 Tryd.results77 (by simp) ?_
  refine W_seq <| W_region (by rfl) ?_
  refine x r_assign <| xe ?_
  refine W_seq <| W_region (by rfl) ?_
  refine x r_assign <| xe ?_
  refine W_seq <| W_seq <| W_region (by rfl) ?_
  refine x r_move <| x (r_lenA h.arr rfl) <| x r_move <| xe ?_
  refine W_block <| W_loop (α := Nat × Value) [(3, 3), (5, 5), (8, 16)] (fun z => [(3, z.2), (8, .int .i64 z.1)]) (fun z w' => z.1 ≤ ps.length ∧ Step [] w w' ∧ IntsO 3 w.heap.size w' z.2 (evs ((ps.map (·.a)).take z.1))) (fun z => ps.length - z.1) (by rfl) (0, .slice none 0 0) ⟨rfl, rfl, trivial⟩
    ⟨Nat.zero_le _, Step.refl _ _, own_nil _ _ _ _⟩ ?_
  rintro ⟨k, vo⟩ g w1 ⟨hk, hs1, ho⟩
  simp only [] at hk ho
  have hel := evs_len ((ps.map (·.a)).take k) (fun a ha => by obtain ⟨p, hp, rfl⟩ := List.mem_map.1 (List.mem_of_mem_take ha); exact hal p hp)
  have htl : ((ps.map (·.a)).take k).length ≤ 12 := by simp; omega
  refine W_seq <| W_region (by rfl) ?_
  refine x (r_lss rfl rfl) <| xe ?_
  refine W_seq <| W_ifn rfl (fun h9 => ?_) (fun h9 => ?_)
  · refine W_exit ?_
    refine W_seq <| W_region (by rfl) ?_
    refine x r_move <| x r_assign <| xe ?_
    refine W_ret ⟨[vo], ⟨rfl, trivial⟩, hs1, ?_⟩
    rw [List.take_of_length_le (by simp; omega)] at ho
    exact ho
  have hlt : k < ps.length := by omega
  refine W_skip ?_
  refine W_seq <| W_block <| W_seq <| W_region (by rfl) ?_
  refine xig av_len (h.ext hs1).arr rfl rfl hlt fun a10 h10 => x (r_loadsA h10 rfl rfl) <| xl rfl <| o_alloc (us := [.slice none 0 0, .int .i64 0, .slice none 0 0, .slice none 0 0]) rfl fun b5 w2 hs2 hb5 hB5 => ?_
  have hA := h.each ps[k] (List.getElem_mem hlt)
  have hal' := hal ps[k] (List.getElem_mem hlt)
  refine xl rfl <| o_stores (us := avCells ps[k]) hB5 rfl rfl rfl rfl ⟨hA.al.one, rfl, hA.mr.one, hA.ed.one, trivial⟩ fun w3 hs3 hB5 => xe ?_
  have hs13 : Step [] w1 w3 := hs2.then1 hs3 hb5
  have hst := hs1.trans hs13
  refine W_region (by rfl) ?_
  refine x r_move <| x (r_fieldB rfl) <| x (r_loadB hB5 rfl rfl) <| xl rfl <| xf <| (Union_ok (IntsO.ints (L := []) (own_ext ho hs13) (by omega) (by simp)) (hA.al.ext hst) (by omega)).mono ?_
  rintro r4 w4 ⟨hs4, ho4⟩
  refine x r_assign <| xe ?_
  refine W_region (by rfl) ?_
  refine x (r_add rfl rfl ⟨by omega, by omega⟩) <| x r_move <| xe ?_
  refine ⟨(k + 1, r4), by simp only []; omega, ⟨rfl, rfl, trivial⟩, hlt, hst.trans hs4, ?_⟩
  simp only []
  rw [evs_take (by simpa using hlt), List.getElem_map]
  exact own_base ho4 hst.size

/-! ### The machine -/
abbrev mCell (b : Nat) : List Value := [.map (some b)]
structure Mach (L : List Nat) (H : Array Obj) (vl ve vs : Value) (ps : List AV) (ms : List Nat) : Prop where
  al : Auts L H vl ps
  ev : Ints L H ve (evs (ps.map (·.a)))
  ml : ms.length = ps.length
  sl : Arr L H vs ms.length 1 (ms.flatMap mCell)
  mp : ∀ i (h : i < ms.length) (h' : i < ps.length), MapB kPair H ms[i] (edMap [] ps[i].a.ed) ∧ ms[i] ∉ L
theorem Mach.ext {L : List Nat} {w w' : World} {vl ve vs : Value} {ps : List AV} {ms : List Nat} (h : Mach L w.heap vl ve vs ps ms) (hs : Step [] w w') : Mach L w'.heap vl ve vs ps ms :=
  ⟨h.al.ext hs, h.ev.ext hs, h.ml, h.sl.ext hs, fun i h1 h2 => ⟨(h.mp i h1 h2).1.ext hs, (h.mp i h1 h2).2⟩⟩
theorem Mach.st {L : List Nat} {w w' : World} {vl ve vs : Value} {ps : List AV} {ms : List Nat} (h : Mach L w.heap vl ve vs ps ms) (hs : Step L w w') : Mach L w'.heap vl ve vs ps ms :=
  ⟨h.al.st hs, h.ev.st hs, h.ml, h.sl.st hs, fun i h1 h2 => ⟨(h.mp i h1 h2).1.step hs (h.mp i h1 h2).2, (h.mp i h1 h2).2⟩⟩
theorem Mach.up {L L' : List Nat} {H : Array Obj} {vl ve vs : Value} {ps : List AV} {ms : List Nat} (h : Mach L H vl ve vs ps ms) (hL : ∀ b ∈ L', b ∈ L ∨ H.size ≤ b) : Mach L' H vl ve vs ps ms :=
  ⟨h.al.up hL, h.ev.up hL, h.ml, h.sl.up hL, fun i h1 h2 => ⟨(h.mp i h1 h2).1, fun hm => by rcases hL _ hm with h3 | h3; exact (h.mp i h1 h2).2 h3; have := (h.mp i h1 h2).1.lt; omega⟩⟩
end Go.Proofs.YtfhgnlkdcdlblaaDoor
