/- Contracts: overseerlaw30's example and known; word.Equal. -/
import Derived.Test.YtfhgnlkdcdlblaaDoorCu
import Derived.Test.YtfhgnlkdcdlblaaDoorSx
namespace Go.Proofs.YtfhgnlkdcdlblaaDoor
open Go.Lg

theorem wEqual_ok {L L' : List Nat} {w : World} {v v' : Value} {l l' : List Int} (h : Ints L w.heap v l) (h' : Ints L' w.heap v' l') :
    Ret Tryd.prog 14 [v, v'] w fun r w' => r = .bool (decide (l = l')) ∧ Step [] w w' := by
  refine Ret.of_W Tryd.func14 rfl Tryd.ntmps14 Tryd.results14 (by simp) ?_
  refine W_seq <| W_region (by rfl) ?_
  refine x r_assign <| xe ?_
  refine W_seq <| W_region (by rfl) ?_
  refine x r_move <| x r_move <| xl rfl <| xf <| (equalI_ok h h').mono ?_
  rintro r1 w1 ⟨rfl, hs1⟩
  refine x r_assign <| xe ?_
  exact W_ret ⟨[.bool (decide (l = l'))], ⟨rfl, trivial⟩, rfl, hs1⟩

/-- An automaton whose three lists are new blocks. -/
theorem AutF_lits {N : Nat} {H : Array Obj} {a : Aut} {b1 b2 b3 n1 n2 n3 : Nat} (h1 : Blk H b1 3 (a.al.map (.int .i64))) (h2 : Blk H b2 3 (a.mr.map (.int .i64))) (h3 : Blk H b3 93 (a.ed.flatMap edCells)) (g1 : N ≤ b1) (g2 : N ≤ b2) (g3 : N ≤ b3)
    (l1 : a.al.length = n1) (l2 : a.mr.length = n2) (l3 : a.ed.length = n3) (m1 : n1 ≤ 1000) (m2 : n2 ≤ 1000) (m3 : n3 ≤ 1000) :
    AutF N H (.agg #[.slice (some ⟨b1, 0, none⟩) n1 n1, .int .i64 a.st, .slice (some ⟨b2, 0, none⟩) n2 n2, .slice (some ⟨b3, 0, none⟩) n3 n3]) a := by
  subst l1 l2 l3
  refine ⟨_, _, _, rfl, fun L hL => ⟨?_, ?_, ?_⟩⟩
  · exact h1.arr (fun hb => by have := hL _ hb; omega) (by simp) (by omega) (Nat.le_refl _)
  · exact h2.arr (fun hb => by have := hL _ hb; omega) (by simp) (by omega) (Nat.le_refl _)
  · exact h3.arr (fun hb => by have := hL _ hb; omega) (by rw [flat_len _ 3 edCells_len]) (by omega) (Nat.le_refl _)
def exA (again : Bool) : Aut := bif again then exP else exL

set_option maxHeartbeats 1000000 in
theorem example_ok (again : Bool) (w : World) : Ret Tryd.prog 32 [.bool again] w fun r w' => Step [] w w' ∧ ∃ v1 v2, r = .tuple #[v1, v2] ∧ AutF w.heap.size w'.heap v1 (exA again) ∧ AutF w.heap.size w'.heap v2 exS := by
  refine Ret.of_W Tryd.func32 rfl Tryd.ntmps32 Tryd.results32 (by simp) ?_
  refine W_seq <| W_region (by rfl) ?_
  refine xl rfl <| o_alloc (us := [.slice none 0 0, .int .i64 0, .slice none 0 0, .slice none 0 0]) rfl fun b2 w1 hs1 hb2 hB2 => xl rfl <| o_alloc (us := [.slice none 0 0, .int .i64 0, .slice none 0 0, .slice none 0 0]) rfl fun b3 w2 hs2 hb3 hB3 => xe ?_
  have hz1 := hs1.size
  have hz2 := hs2.size
  have hl2 := hB2.lt
  have hl3 := hB3.lt
  have hs12 := hs1.trans hs2
  have hB22 := hB2.ext hs2
  refine W_seq <| W_region (by rfl) ?_
  refine xl rfl <| o_lits (us := [[.int .i64 0], [.int .i64 1]]) rfl rfl (by decide) (by decide) ⟨rfl, rfl, rfl, rfl, trivial⟩ fun b4 w3 hs3 hb4 hB4 => xl rfl <| o_lits (us := [[.int .i64 0], [.int .i64 1]]) rfl rfl (by decide) (by decide) ⟨rfl, rfl, rfl, rfl, trivial⟩ fun b5 w4 hs4 hb5 hB5 =>
    x (r_build ⟨rfl, rfl, rfl, trivial⟩) <| x (r_build ⟨rfl, rfl, rfl, trivial⟩) <| x (r_build ⟨rfl, rfl, rfl, trivial⟩) <| xl rfl <| o_lits (us := [edCells (0, 0, 1), edCells (1, 0, 1), edCells (1, 1, 0)]) rfl rfl (by decide) (by exact (by decide : 3 * 3 ≤ 1000000)) ⟨rfl, rfl, rfl, rfl, rfl, rfl, trivial⟩ fun b9 w5 hs5 hb9 hB9 => ?_
  have hs25 := (hs3.trans hs4).trans hs5
  refine x (r_build ⟨rfl, rfl, rfl, rfl, trivial⟩) <| xl rfl <| o_stores (us := [.slice (some ⟨b4, 0, none⟩) 2 2, .int .i64 2, .slice (some ⟨b5, 0, none⟩) 2 2, .slice (some ⟨b9, 0, none⟩) 3 3]) (hB22.ext hs25) rfl rfl rfl rfl ⟨rfl, rfl, rfl, rfl, trivial⟩ fun w6 hs6 hB6 => xe ?_
  have hz3 := hs3.size
  have hz4 := hs4.size
  have hz5 := hs5.size
  have hl4 := hB4.lt
  have hl5 := hB5.lt
  have hl9 := hB9.lt
  have hs26 : Step [b2] w2 w6 := (hs25.any (L := [b2])).trans' hs6
  have hW6 : Step [] w w6 := (hs12.trans hs25).then1 hs6 hb2
  have hB36 := (hB3.ext hs25).step hs6 (by simp; omega)
  have hB46 : Blk w6.heap b4 3 ([0, 1].map (.int .i64)) := ((hB4.ext hs4).ext hs5).step hs6 (by simp; omega)
  have hB56 : Blk w6.heap b5 3 ([0, 1].map (.int .i64)) := (hB5.ext hs5).step hs6 (by simp; omega)
  have hB96 : Blk w6.heap b9 93 ([(0, 0, 1), (1, 0, 1), (1, 1, 0)].flatMap edCells) := hB9.step hs6 (by simp; omega)
  -- the edges of the plant
  refine W_cut (α := Nat) [(11, 16)] (fun z => []) (fun z w' => Step [b2] w6 w' ∧ w2.heap.size ≤ z ∧ z < w'.heap.size ∧ Blk w'.heap b2 35 [.slice (some ⟨b4, 0, none⟩) 2 2, .int .i64 2, .slice (some ⟨b5, 0, none⟩) 2 2, .slice (some ⟨z, 0, none⟩) (exA again).ed.length (exA again).ed.length] ∧
    Blk w'.heap z 93 ((exA again).ed.flatMap edCells)) (by rfl) ?_ ?_
  · refine W_seq <| W_region (by rfl) ?_
    refine x r_move <| x (r_not rfl) <| xe ?_
    refine W_cond rfl (fun h12 => ?_) (fun h12 => ?_)
    · have e : again = false := by simpa using h12
      refine W_region (by rfl) ?_
      refine x (r_build ⟨rfl, rfl, rfl, trivial⟩) <| x (r_build ⟨rfl, rfl, rfl, trivial⟩) <| xl rfl <| o_lits (us := [edCells (0, 0, 1), edCells (1, 1, 0)]) rfl rfl (by decide) (by exact (by decide : 2 * 3 ≤ 1000000)) ⟨rfl, rfl, rfl, rfl, trivial⟩ fun b15 w7 hs7 hb15 hB15 =>
        x (r_fieldB rfl) <| xl rfl <| o_store (u := .slice (some ⟨b15, 0, none⟩) 2 2) (hB6.ext hs7) rfl rfl (by simp) rfl fun w8 hs8 hB8 => xe ?_
      have hz6 := hs6.size
      have hz7 := hs7.size
      have hz8 := hs8.size
      have hl15 := hB15.lt
      refine ⟨b15, trivial, (hs7.any (L := [b2])).trans' hs8, by omega, by omega, ?_, ?_⟩
      · rw [e]; exact hB8
      · rw [e]; exact hB15.step hs8 (by simp; omega)
    · have e : again = true := by simpa using h12
      have hz6 := hs6.size
      refine W_skip ?_
      refine ⟨b9, trivial, Step.refl _ _, by omega, by omega, ?_, ?_⟩
      · rw [e]; exact hB6
      · rw [e]; exact hB96
  rintro be g9 w9 ⟨hs9, hbe, hlbe, hB9', hBe⟩
  have hz6 := hs6.size
  have hz9 := hs9.size
  have hW9 : Step [] w w9 := hW6.then1 hs9 hb2
  have hB39 := hB36.step hs9 (by simp; omega)
  have hB49 := hB46.step hs9 (by simp; omega)
  have hB59 := hB56.step hs9 (by simp; omega)
  refine W_seq <| W_region (by rfl) ?_
  refine xl rfl <| o_lits (us := [[.int .i64 0], [.int .i64 1]]) rfl rfl (by decide) (by decide) ⟨rfl, rfl, rfl, rfl, trivial⟩ fun b17 w10 hs10 hb17 hB17 => xl rfl <| o_lits (us := [[.int .i64 0], [.int .i64 1], [.int .i64 2]]) rfl rfl (by decide) (by decide) ⟨rfl, rfl, rfl, rfl, rfl, rfl, trivial⟩ fun b18 w11 hs11 hb18 hB18 =>
    x (r_build ⟨rfl, rfl, rfl, trivial⟩) <| x (r_build ⟨rfl, rfl, rfl, trivial⟩) <| x (r_build ⟨rfl, rfl, rfl, trivial⟩) <| x (r_build ⟨rfl, rfl, rfl, trivial⟩) <|
    xl rfl <| o_lits (us := [edCells (0, 0, 1), edCells (1, 0, 2), edCells (1, 1, 0), edCells (2, 1, 0)]) rfl rfl (by decide) (by exact (by decide : 4 * 3 ≤ 1000000)) ⟨rfl, rfl, rfl, rfl, rfl, rfl, rfl, rfl, trivial⟩ fun b23 w12 hs12' hb23 hB23 => ?_
  have hs912 := (hs10.trans hs11).trans hs12'
  refine x (r_build ⟨rfl, rfl, rfl, rfl, trivial⟩) <|
    xl rfl <| o_stores (us := [.slice (some ⟨b17, 0, none⟩) 2 2, .int .i64 3, .slice (some ⟨b18, 0, none⟩) 3 3, .slice (some ⟨b23, 0, none⟩) 4 4]) (hB39.ext hs912) rfl rfl rfl rfl ⟨rfl, rfl, rfl, rfl, trivial⟩ fun w13 hs13 hB13 => xe ?_
  have hz10 := hs10.size
  have hz11 := hs11.size
  have hz12 := hs12'.size
  have hz13 := hs13.size
  have hl17 := hB17.lt
  have hl18 := hB18.lt
  have hl23 := hB23.lt
  have hB213 := (hB9'.ext hs912).step hs13 (by simp; omega)
  refine W_seq <| W_draw (fun w' => Step [b2] w13 w' ∧ Blk w'.heap b2 35 [.slice (some ⟨b4, 0, none⟩) 2 2, .int .i64 2, .slice (some ⟨b5, 0, none⟩) 2 2, .slice (some ⟨be, 0, none⟩) (exA again).ed.length (exA again).ed.length]) [(0, true), (1, true), (2, false), (3, false)] Tryd.mixed (by rfl) (by kernel_rfl) ⟨Step.drew _ _, hB213.ext (Step.drew _ _)⟩ ?_
  refine pq (fun _ hc => r_loadsB hc.2 rfl rfl) <| pq (fun _ hc => r_loadsB (hB13.step hc.1 (by simp; omega)) rfl rfl) <|
    pk <| o_stores (us := [.slice (some ⟨b4, 0, none⟩) 2 2, .int .i64 2, .slice (some ⟨b5, 0, none⟩) 2 2, .slice (some ⟨be, 0, none⟩) (exA again).ed.length (exA again).ed.length]) (hB213.ext (Step.drew _ _)) rfl rfl rfl rfl ⟨rfl, rfl, rfl, rfl, trivial⟩ fun w14 hs14 hB14 => ⟨⟨(Step.drew [b2] w13).trans' hs14, hB14⟩, ?_⟩
  refine pkl (hl := by kernel_rfl) <| o_stores (us := [.slice (some ⟨b17, 0, none⟩) 2 2, .int .i64 3, .slice (some ⟨b18, 0, none⟩) 3 3, .slice (some ⟨b23, 0, none⟩) 4 4]) ((hB13.ext (Step.drew [] w13)).step hs14 (by simp; omega)) rfl rfl rfl rfl ⟨rfl, rfl, rfl, rfl, trivial⟩ fun w15 hs15 hB15 => pe ?_
  have hd := Step.drew [] w13
  have hB215 := hB14.step hs15 (by simp; omega)
  have mv : ∀ {b T : Nat} {cs : List Value}, Blk w12.heap b T cs → b ≠ b2 → b ≠ b3 → Blk w15.heap b T cs := fun h n2 n3 => (((h.step hs13 (by simpa using n3)).ext hd).step hs14 (by simpa using n2)).step hs15 (by simpa using n3)
  have hst : Step [] w w15 := (((hW9.trans hs912).then1 hs13 (by omega)).trans hd |>.then1 hs14 hb2).then1 hs15 (by omega)
  refine W_ret ⟨[.agg #[.slice (some ⟨b4, 0, none⟩) 2 2, .int .i64 2, .slice (some ⟨b5, 0, none⟩) 2 2, .slice (some ⟨be, 0, none⟩) (exA again).ed.length (exA again).ed.length], .agg #[.slice (some ⟨b17, 0, none⟩) 2 2, .int .i64 3, .slice (some ⟨b18, 0, none⟩) 3 3, .slice (some ⟨b23, 0, none⟩) 4 4]],
    ⟨⟨_, rfl, run_loadVar_ag rfl (hB215.at (L := []) (by simp)).cells⟩, ⟨_, rfl, run_loadVar_ag rfl (hB15.at (L := []) (by simp)).cells⟩, trivial⟩, hst, _, _, rfl, ?_, ?_⟩
  · have e1 : (exA again).al = [0, 1] := by cases again <;> rfl
    have e2 : (exA again).mr = [0, 1] := by cases again <;> rfl
    have e3 : (exA again).st = 2 := by cases again <;> rfl
    have e4 : (exA again).ed.length ≤ 3 := by cases again <;> decide
    have := AutF_lits (N := w.heap.size) (a := exA again) (b1 := b4) (b2 := b5) (b3 := be) (n1 := 2) (n2 := 2) (n3 := (exA again).ed.length) (by rw [e1]; exact mv (hB49.ext hs912) (by omega) (by omega)) (by rw [e2]; exact mv (hB59.ext hs912) (by omega) (by omega)) (mv (hBe.ext hs912) (by omega) (by omega)) (by omega) (by omega) (by omega) (by rw [e1]; rfl) (by rw [e2]; rfl) rfl (by omega) (by omega) (by omega)
    rw [e3] at this
    exact this
  · exact AutF_lits (a := exS) (mv ((hB17.ext hs11).ext hs12') (by omega) (by omega)) (mv (hB18.ext hs12') (by omega) (by omega)) (mv hB23 (by omega) (by omega)) (by omega) (by omega) (by omega) rfl rfl rfl (by decide) (by decide) (by decide)
end Go.Proofs.YtfhgnlkdcdlblaaDoor
