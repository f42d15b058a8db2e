/- Contracts: automaton.checkSet, checkEdges, Check. -/
import Derived.Test.YtfhgnlkdcdlblaaDoorCb
import Derived.Test.YtfhgnlkdcdlblaaDoorSp
namespace Go.Proofs.YtfhgnlkdcdlblaaDoor
open Go.Lg

theorem checkSet_ok {L : List Nat} {w : World} {v : Value} {l : List Int} (h : Ints L w.heap v l) (n : Int) :
    Ret Tryd.prog 53 [v, .int .i64 n] w fun r w' => r = .int .i64 (ckS n none l) ∧ w' = w := by
  have hle := h.le
  refine Ret.of_W Tryd.func53 rfl Tryd.ntmps53 Tryd.results53 (by simp) ?_
  refine W_seq <| W_region (by rfl) ?_
  refine x r_assign <| xe ?_
  refine W_seq <| W_seq <| W_region (by rfl) ?_
  refine x r_move <| x (r_lenA h rfl) <| x r_move <| xe ?_
  refine W_block <| W_loop (α := Nat) [(4, 6), (9, 34)] (fun k => [(9, .int .i64 k)]) (fun k w' => w' = w ∧ k ≤ l.length ∧ ckS n (pv l k) (l.drop k) = ckS n none l) (fun k => l.length - k) (by rfl) 0 ⟨rfl, trivial⟩ ⟨rfl, Nat.zero_le _, rfl⟩ ?_
  rintro k g w1 ⟨rfl, hk, hm⟩
  refine W_seq <| W_region (by rfl) ?_
  refine x (r_lss rfl rfl) <| xe ?_
  refine W_seq <| W_ifn rfl (fun h10 => ?_) (fun h10 => ?_)
  · refine W_exit ?_
    refine W_seq <| W_region (by rfl) ?_
    refine x r_assign <| xe ?_
    refine W_ret ⟨[.int .i64 0], ⟨rfl, trivial⟩, ?_, rfl⟩
    rw [← hm, List.drop_of_length_le (by omega)]; rfl
  have hlt : k < l.length := by omega
  have hd := drop_cons hlt
  rw [hd, ckS] at hm
  refine W_skip ?_
  refine W_seq <| W_block <| W_seq <| W_region (by rfl) ?_
  refine x r_move <| xii h rfl rfl hlt fun a12 h12 => x (r_loadA h12 rfl) <| x r_assign <| x r_assign <| xe ?_
  refine W_block <| W_cut (α := Bool) [(14, 21)] (fun z => [(14, .bool z)]) (fun z w' => w' = w1 ∧ z = decide (l[k] < 0 ∨ n ≤ l[k])) (by rfl) ?_ ?_
  · refine W_region (by rfl) ?_
    refine x r_move <| xb (r_lss rfl rfl) (fun h16 => ?_) (fun h16 => ?_)
    · refine x r_move <| xs rfl <| xs rfl <| xs rfl <| x (r_pick rfl) <| x r_assign <| xe ?_
      exact ⟨true, ⟨rfl, trivial⟩, rfl, by simp [h16]⟩
    refine x r_move <| x r_move <| x r_move <| x (r_geq rfl rfl) <| x (r_pick rfl) <| x r_assign <| xe ?_
    exact ⟨_, ⟨rfl, trivial⟩, rfl, by simp [h16]⟩
  rintro z g w2 ⟨rfl, rfl⟩
  refine W_if rfl (fun h14 => ?_) (fun h14 => ?_)
  · refine W_seq <| W_region (by rfl) ?_
    refine x r_assign <| xe ?_
    refine W_ret ⟨[.int .i64 2], ⟨rfl, trivial⟩, ?_, rfl⟩
    rw [← hm, if_pos h14]; rfl
  rw [if_neg h14] at hm
  refine W_cut (α := Bool) [(22, 33)] (fun z => [(22, .bool z)]) (fun z w' => w' = w2 ∧ z = leO (pv l k) l[k]) (by rfl) ?_ ?_
  · refine W_region (by rfl) ?_
    refine x r_move <| xb (r_gtr rfl rfl) (fun h24 => ?_) (fun h24 => ?_)
    · have hk1 : ((k : Int) - 1) = ((k - 1 : Nat) : Int) := by omega
      refine x r_move <| x r_move <| x r_move <| x r_move <| x (r_sub rfl rfl ⟨by omega, by omega⟩) <| xii (i := k - 1) h rfl (by show Value.int _ ((k : Int) - 1) = _; rw [hk1]) (by omega) fun a30 h30 => x (r_loadA h30 rfl) <| x (r_leq rfl rfl) <| x (r_pick rfl) <| x r_assign <| xe ?_
      refine ⟨_, ⟨rfl, trivial⟩, rfl, ?_⟩
      have : pv l k = some l[k - 1] := by
        have h0 : k ≠ 0 := by omega
        simp [pv, h0, show k - 1 < l.length by omega]
      rw [this]; rfl
    refine x r_move <| xs rfl <| xs rfl <| xs rfl <| xs rfl <| xs rfl <| xs rfl <| xs rfl <| x (r_pick rfl) <| x r_assign <| xe ?_
    have h0 : k = 0 := by omega
    exact ⟨false, ⟨rfl, trivial⟩, rfl, by simp [pv, h0, leO]⟩
  rintro z g w3 ⟨rfl, rfl⟩
  refine W_cond rfl (fun h22 => ?_) (fun h22 => ?_)
  · refine W_seq <| W_region (by rfl) ?_
    refine x r_assign <| xe ?_
    refine W_ret ⟨[.int .i64 5], ⟨rfl, trivial⟩, ?_, rfl⟩
    rw [← hm, if_pos h22]; rfl
  rw [if_neg (by simp [h22])] at hm
  refine W_skip ?_
  refine W_region (by rfl) ?_
  refine x (r_add rfl rfl ⟨by omega, by omega⟩) <| x r_move <| xe ?_
  exact ⟨k + 1, by omega, ⟨rfl, trivial⟩, rfl, by omega, by rw [pv_succ hlt]; exact hm⟩

theorem checkEdges_ok {L : List Nat} {w : World} {va vm ve : Value} {a : Aut} (h : AutA L w.heap va vm ve a) :
    Ret Tryd.prog 54 [.agg #[va, .int .i64 a.st, vm, ve]] w fun r w' => r = .int .i64 (ckE a.al a.st none a.ed) ∧ Step [] w w' := by
  obtain ⟨hal, _, hed⟩ := h
  have hle := hed.le
  refine Ret.of_W Tryd.func54 rfl Tryd.ntmps54 Tryd.results54 (by simp) ?_
  refine W_seq <| W_region (by rfl) ?_
  refine xl rfl <| o_box (us := [va, .int .i64 a.st, vm, ve]) rfl fun b1 w1 hs1 hb1 hB1 => x r_assign <| xe ?_
  replace hal := hal.ext hs1
  replace hed := hed.ext hs1
  refine W_seq <| W_seq <| W_region (by rfl) ?_
  refine x (r_fieldB rfl) <| x (r_loadB hB1 rfl rfl) <| x (r_lenA hed rfl) <| x r_move <| xe ?_
  refine W_block <| W_loop (α := Nat) [(2, 5), (9, 71)] (fun k => [(9, .int .i64 k)]) (fun k w' => Step [] w1 w' ∧ k ≤ a.ed.length ∧ ckE a.al a.st (pv a.ed k) (a.ed.drop k) = ckE a.al a.st none a.ed) (fun k => a.ed.length - k) (by rfl) 0 ⟨rfl, trivial⟩
    ⟨Step.refl _ _, Nat.zero_le _, rfl⟩ ?_
  rintro k g w2 ⟨hs2, hk, hm⟩
  replace hal := hal.ext hs2
  replace hed := hed.ext hs2
  replace hB1 := hB1.ext hs2
  refine W_seq <| W_region (by rfl) ?_
  refine x (r_lss rfl rfl) <| xe ?_
  refine W_seq <| W_ifn rfl (fun h10 => ?_) (fun h10 => ?_)
  · refine W_exit ?_
    refine W_seq <| W_region (by rfl) ?_
    refine x r_assign <| xe ?_
    refine W_ret ⟨[.int .i64 0], ⟨rfl, trivial⟩, ?_, hs1.trans hs2⟩
    rw [← hm, List.drop_of_length_le (by omega)]; rfl
  have hlt : k < a.ed.length := by omega
  have hd := drop_cons hlt
  rw [hd, ckE] at hm
  refine W_skip ?_
  refine W_seq <| W_block <| W_seq <| W_region (by rfl) ?_
  refine x r_move <| xie hed rfl rfl hlt fun a12 h12 => x (r_loadsA h12 rfl rfl) <| xl rfl <| o_alloc (us := [.int .i64 0, .int .i64 0, .int .i64 0]) rfl fun b4 w3 hs3 hb4 hB4 => x r_assign <|
    xl rfl <| o_stores hB4 rfl rfl rfl rfl ⟨rfl, rfl, rfl, trivial⟩ fun w4 hs4 hB4 => xe ?_
  have hs5 := hs3.then1 hs4 hb4
  replace hal := hal.ext hs5
  replace hed := hed.ext hs5
  replace hB1 := hB1.ext hs5
  have hsA := (hs1.trans hs2).trans hs5
  refine W_seq <| W_block <| W_cut (α := Bool) [(14, 36)] (fun z => [(14, .bool z)]) (fun z w' => w' = w4 ∧ z = decide (a.ed[k].1 < 0 ∨ a.st ≤ a.ed[k].1 ∨ a.ed[k].2.2 < 0 ∨ a.st ≤ a.ed[k].2.2)) (by rfl) ?_ ?_
  · refine W_region (by rfl) ?_
    refine x (r_fieldB rfl) <| x (r_loadB hB4 rfl rfl) <| xb (r_lss rfl rfl) (fun h17 => ?_) (fun h17 => ?_)
    · refine x r_move <| xs rfl <| xs rfl <| xs rfl <| xs rfl <| xs rfl <| x (r_pick rfl) <| x r_move <| xs rfl <| xs rfl <| xs rfl <| x (r_pick rfl) <| x r_move <| xs rfl <| xs rfl <| xs rfl <| xs rfl <| xs rfl <| x (r_pick rfl) <| x r_assign <| xe ?_
      exact ⟨true, ⟨rfl, trivial⟩, rfl, by simp [h17]⟩
    refine x r_move <| x (r_fieldB rfl) <| x (r_loadB hB4 rfl rfl) <| x (r_fieldB rfl) <| x (r_loadB hB1 rfl rfl) <| xb (r_geq rfl rfl) (fun h23 => ?_) (fun h23 => ?_)
    · refine x (r_pick rfl) <| x r_move <| xs rfl <| xs rfl <| xs rfl <| x (r_pick rfl) <| x r_move <| xs rfl <| xs rfl <| xs rfl <| xs rfl <| xs rfl <| x (r_pick rfl) <| x r_assign <| xe ?_
      exact ⟨true, ⟨rfl, trivial⟩, rfl, by simp [h23]⟩
    refine x (r_pick rfl) <| x r_move <| x (r_fieldB rfl) <| x (r_loadB hB4 rfl rfl) <| xb (r_lss rfl rfl) (fun h28 => ?_) (fun h28 => ?_)
    · refine x (r_pick rfl) <| x r_move <| xs rfl <| xs rfl <| xs rfl <| xs rfl <| xs rfl <| x (r_pick rfl) <| x r_assign <| xe ?_
      exact ⟨true, ⟨rfl, trivial⟩, rfl, by simp [h28]⟩
    refine x (r_pick rfl) <| x r_move <| x (r_fieldB rfl) <| x (r_loadB hB4 rfl rfl) <| x (r_fieldB rfl) <| x (r_loadB hB1 rfl rfl) <| x (r_geq rfl rfl) <| x (r_pick rfl) <| x r_assign <| xe ?_
    exact ⟨_, ⟨rfl, trivial⟩, rfl, by simp [h17, h23, h28]⟩
  rintro z g w5 ⟨rfl, rfl⟩
  refine W_if rfl (fun h14 => ?_) (fun h14 => ?_)
  · refine W_seq <| W_region (by rfl) ?_
    refine x r_assign <| xe ?_
    refine W_ret ⟨[.int .i64 2], ⟨rfl, trivial⟩, ?_, hsA⟩
    rw [← hm, if_pos h14]; rfl
  rw [if_neg h14] at hm
  refine W_seq <| W_region (by rfl) ?_
  refine x (r_fieldB rfl) <| x (r_loadB hB1 rfl rfl) <| x (r_fieldB rfl) <| x (r_loadB hB4 rfl rfl) <| xl rfl <| xf <| (contains_ok hal _).mono ?_
  rintro r4 w6 ⟨rfl, rfl⟩
  refine x (r_not rfl) <| x r_assign <| xe ?_
  refine W_cond rfl (fun h37 => ?_) (fun h37 => ?_)
  · have hn : a.ed[k].2.1 ∉ a.al := by simpa using h37
    refine W_seq <| W_region (by rfl) ?_
    refine x r_assign <| xe ?_
    refine W_ret ⟨[.int .i64 9], ⟨rfl, trivial⟩, ?_, hsA⟩
    rw [← hm, if_pos hn]; rfl
  have hn : ¬ (a.ed[k].2.1 ∉ a.al) := by simpa using h37
  rw [if_neg hn] at hm
  refine W_skip ?_
  refine W_seq <| W_seq <| W_region (by rfl) ?_
  refine x r_move <| x (r_eql rfl rfl) <| xe ?_
  refine W_if rfl (fun h45 => ?_) (fun h45 => ?_)
  · have h0 : k = 0 := by omega
    rw [if_neg (by simp [pv, h0, edO])] at hm
    refine W_exit ?_
    refine W_region (by rfl) ?_
    refine x (r_add rfl rfl ⟨by omega, by omega⟩) <| x r_move <| xe ?_
    exact ⟨k + 1, by omega, ⟨rfl, trivial⟩, hs2.trans hs5, by omega, by rw [pv_succ hlt]; exact hm⟩
  have h0 : k ≠ 0 := by omega
  have hk1 : ((k : Int) - 1) = ((k - 1 : Nat) : Int) := by omega
  have hlt1 : k - 1 < a.ed.length := by omega
  refine W_skip ?_
  refine W_seq <| W_region (by rfl) ?_
  refine x (r_fieldB rfl) <| x (r_loadB hB1 rfl rfl) <| x r_move <| x (r_sub rfl rfl ⟨by omega, by omega⟩) <| xie (i := k - 1) hed rfl (by show Value.int _ ((k : Int) - 1) = _; rw [hk1]) hlt1 fun a50 h50 =>
    x (r_loadsA h50 rfl rfl) <| xl rfl <| o_alloc (us := [.int .i64 0, .int .i64 0, .int .i64 0]) rfl fun b5 w7 hs7 hb5 hB5 => xl rfl <| o_stores hB5 rfl rfl rfl rfl ⟨rfl, rfl, rfl, trivial⟩ fun w8 hs8 hB5 => xe ?_
  have hs9 := hs7.then1 hs8 hb5
  replace hB4 := hB4.ext hs9
  replace hsA := hsA.trans hs9
  have hp : pv a.ed k = some a.ed[k - 1] := by simp [pv, h0, hlt1]
  rw [hp] at hm
  refine W_cut (α := Bool) [(52, 70)] (fun z => [(70, .bool z)]) (fun z w' => w' = w8 ∧ z = edO (some a.ed[k - 1]) a.ed[k]) (by rfl) ?_ ?_
  · refine W_region (by rfl) ?_
    refine x (r_fieldB rfl) <| x (r_loadB hB4 rfl rfl) <| x (r_fieldB rfl) <| x (r_loadB hB5 rfl rfl) <| xb (r_lss rfl rfl) (fun h56 => ?_) (fun h56 => ?_)
    · refine x r_move <| xs rfl <| xs rfl <| xs rfl <| xs rfl <| xs rfl <| xs rfl <| xs rfl <| xs rfl <| xs rfl <| xs rfl <| xs rfl <| xs rfl <| x (r_pick rfl) <| xe ?_
      exact ⟨true, ⟨rfl, trivial⟩, rfl, by simp [edO, h56]⟩
    refine x r_move <| x (r_fieldB rfl) <| x (r_loadB hB4 rfl rfl) <| x (r_fieldB rfl) <| x (r_loadB hB5 rfl rfl) <| xb (r_eql rfl rfl) (fun h62 => ?_) (fun h62 => ?_)
    · refine x r_move <| x (r_fieldB rfl) <| x (r_loadB hB4 rfl rfl) <| x (r_fieldB rfl) <| x (r_loadB hB5 rfl rfl) <| x (r_leq rfl rfl) <| x (r_pick rfl) <| x (r_pick rfl) <| xe ?_
      exact ⟨_, ⟨rfl, trivial⟩, rfl, by simp [edO, h62]⟩
    refine x r_move <| xs rfl <| xs rfl <| xs rfl <| xs rfl <| xs rfl <| x (r_pick rfl) <| x (r_pick rfl) <| xe ?_
    exact ⟨false, ⟨rfl, trivial⟩, rfl, by simp [edO, h62, h56]⟩
  rintro z g w9 ⟨rfl, rfl⟩
  refine W_cond rfl (fun h70 => ?_) (fun h70 => ?_)
  · refine W_seq <| W_region (by rfl) ?_
    refine x r_assign <| xe ?_
    refine W_ret ⟨[.int .i64 5], ⟨rfl, trivial⟩, ?_, hsA⟩
    rw [← hm, if_pos h70]; rfl
  rw [if_neg (by simp [h70])] at hm
  refine W_skip ?_
  refine W_region (by rfl) ?_
  refine x (r_add rfl rfl ⟨by omega, by omega⟩) <| x r_move <| xe ?_
  exact ⟨k + 1, by omega, ⟨rfl, trivial⟩, (hs2.trans hs5).trans hs9, by omega, by rw [pv_succ hlt]; exact hm⟩

theorem check_ok {L : List Nat} {w : World} {va vm ve : Value} {a : Aut} (h : AutA L w.heap va vm ve a) :
    Ret Tryd.prog 24 [.agg #[va, .int .i64 a.st, vm, ve]] w fun r w' => r = .int .i64 (ckA a) ∧ Step [] w w' := by
  refine Ret.of_W Tryd.func24 rfl Tryd.ntmps24 Tryd.results24 (by simp) ?_
  refine W_seq <| W_region (by rfl) ?_
  refine xl rfl <| o_box (us := [va, .int .i64 a.st, vm, ve]) rfl fun b1 w1 hs1 hb1 hB1 => x r_assign <| xe ?_
  replace h := h.ext hs1
  refine W_seq <| W_seq <| W_region (by rfl) ?_
  refine x (r_fieldB rfl) <| x (r_loadB hB1 rfl rfl) <| xl rfl <| xf <| (checkSet_ok h.al 32).mono ?_
  rintro r2 w2 ⟨rfl, rfl⟩
  refine x r_assign <| xe ?_
  refine W_seq <| W_region (by rfl) ?_
  refine x r_move <| x (r_neq rfl rfl) <| xe ?_
  refine W_if rfl (fun h9 => ?_) (fun h9 => ?_)
  · refine W_seq <| W_region (by rfl) ?_
    refine x r_move <| x r_assign <| xe ?_
    refine W_ret ⟨[.int .i64 (ckS 32 none a.al)], ⟨rfl, trivial⟩, ?_, hs1⟩
    rw [ckA, if_pos h9]; rfl
  refine W_skip ?_
  refine W_seq <| W_block <| W_seq <| W_region (by rfl) ?_
  refine x (r_fieldB rfl) <| x (r_loadB hB1 rfl rfl) <| x (r_lss rfl rfl) <| x r_assign <| xe ?_
  refine W_if rfl (fun h11 => ?_) (fun h11 => ?_)
  · refine W_seq <| W_region (by rfl) ?_
    refine x r_assign <| xe ?_
    refine W_ret ⟨[.int .i64 2], ⟨rfl, trivial⟩, ?_, hs1⟩
    rw [ckA, if_neg h9, if_pos h11]; rfl
  refine W_seq <| W_region (by rfl) ?_
  refine x (r_fieldB rfl) <| x (r_loadB hB1 rfl rfl) <| x (r_gtr rfl rfl) <| x r_assign <| xe ?_
  refine W_if rfl (fun h15 => ?_) (fun h15 => ?_)
  · refine W_seq <| W_region (by rfl) ?_
    refine x r_assign <| xe ?_
    refine W_ret ⟨[.int .i64 3], ⟨rfl, trivial⟩, ?_, hs1⟩
    rw [ckA, if_neg h9, if_neg h11, if_pos h15]; rfl
  refine W_skip ?_
  refine W_seq <| W_seq <| W_region (by rfl) ?_
  refine x (r_fieldB rfl) <| x (r_loadB hB1 rfl rfl) <| x (r_fieldB rfl) <| x (r_loadB hB1 rfl rfl) <| xl rfl <| xf <| (checkSet_ok h.mr a.st).mono ?_
  rintro r3 w3 ⟨rfl, rfl⟩
  refine x r_assign <| xe ?_
  refine W_seq <| W_region (by rfl) ?_
  refine x r_move <| x (r_neq rfl rfl) <| xe ?_
  refine W_if rfl (fun h25 => ?_) (fun h25 => ?_)
  · refine W_seq <| W_region (by rfl) ?_
    refine x r_move <| x r_assign <| xe ?_
    refine W_ret ⟨[.int .i64 (ckS a.st none a.mr)], ⟨rfl, trivial⟩, ?_, hs1⟩
    rw [ckA, if_neg h9, if_neg h11, if_neg h15, if_pos h25]; rfl
  refine W_skip ?_
  refine W_seq <| W_region (by rfl) ?_
  refine x (r_loadsB hB1 rfl rfl) <| xl rfl <| xf <| (checkEdges_ok h).mono ?_
  rintro r4 w4 ⟨rfl, hs4⟩
  refine x r_assign <| xe ?_
  refine W_ret ⟨[.int .i64 (ckE a.al a.st none a.ed)], ⟨rfl, trivial⟩, ?_, hs1.trans hs4⟩
  rw [ckA, if_neg h9, if_neg h11, if_neg h15, if_neg h25]; rfl
end Go.Proofs.YtfhgnlkdcdlblaaDoor
