/- Contracts: supervisor's steps, controls. -/
import Derived.Test.YtfhgnlkdcdlblaaDoorCe
import Derived.Test.YtfhgnlkdcdlblaaDoorLu
import Derived.Test.YtfhgnlkdcdlblaaDoorLw
namespace Go.Proofs.YtfhgnlkdcdlblaaDoor
open Go.Lg

theorem edMap_take {m : List ((Int × Int) × Value)} {es : List Ed} {k : Nat} (h : k < es.length) : edMap m (es.take (k + 1)) = mput (edMap m (es.take k)) (es[k].1, es[k].2.1) (.int .i64 es[k].2.2) := by
  unfold edMap
  rw [List.take_succ_eq_append_getElem h, List.foldl_append]; rfl
theorem steps_ok {L : List Nat} {w : World} {va vm ve : Value} {st : Int} {es : List Ed} (h : Eds L w.heap ve es) :
    Ret Tryd.prog 40 [.agg #[va, .int .i64 st, vm, ve]] w fun r w' => Step [] w w' ∧ ∃ b, r = .map (some b) ∧ w.heap.size ≤ b ∧ MapB kPair w'.heap b (edMap [] es) := by
  have hle := h.le
  refine Ret.of_W Tryd.func40 rfl Tryd.ntmps40 Tryd.results40 (by simp) ?_
  refine W_seq <| W_region (by rfl) ?_
  refine xl rfl <| o_box (us := [va, .int .i64 st, vm, ve]) rfl fun b1 w1 hs1 hb1 hB1 => x r_assign <| xe ?_
  refine W_seq <| W_region (by rfl) ?_
  refine xl rfl <| o_makeMap kPair fun b6 w2 hs2 hb6 hm6 => x r_assign <| xe ?_
  refine W_seq <| W_seq <| W_region (by rfl) ?_
  refine x (r_fieldB rfl) <| x (r_loadB (hB1.ext hs2) rfl rfl) <| x (r_lenA h rfl) <| x r_move <| xe ?_
  have hz1 := hs1.size
  have hz2 := hs2.size
  have hl6 := hm6.lt
  have hE : Eds [b6] w2.heap ve es := (h.up (L' := [b6]) (fun b hb => .inr (by simp at hb; omega))).ext (hs1.trans hs2)
  refine W_block <| W_loop (α := Nat) [(5, 5), (10, 22)] (fun z => [(10, .int .i64 z)]) (fun z w' => z ≤ es.length ∧ Step [b6] w2 w' ∧ MapB kPair w'.heap b6 (edMap [] (es.take z))) (fun z => es.length - z) (by rfl) 0 ⟨rfl, trivial⟩
    ⟨Nat.zero_le _, Step.refl _ _, hm6⟩ ?_
  rintro k g w3 ⟨hk, hs3, hm3⟩
  have hz3 := hs3.size
  refine W_seq <| W_region (by rfl) ?_
  refine x (r_lss rfl rfl) <| xe ?_
  refine W_seq <| W_ifn rfl (fun h11 => ?_) (fun h11 => ?_)
  · refine W_exit ?_
    refine W_seq <| W_region (by rfl) ?_
    refine x r_move <| x r_assign <| xe ?_
    rw [List.take_of_length_le (by omega)] at hm3
    refine W_ret ⟨[.map (some b6)], ⟨rfl, trivial⟩, (hs1.trans hs2).then1 hs3 (by omega), b6, rfl, by omega, hm3⟩
  have hlt : k < es.length := by omega
  refine W_skip ?_
  refine W_seq <| W_block <| W_seq <| W_region (by rfl) ?_
  refine xie (hE.st hs3) rfl rfl hlt fun a12 h12 => x (r_loadsA h12 rfl rfl) <| xl rfl <| o_alloc (us := [.int .i64 0, .int .i64 0, .int .i64 0]) rfl fun b5 w4 hs4 hb5 hB5 => xl rfl <| o_stores (us := edCells es[k]) hB5 rfl rfl rfl rfl ⟨rfl, rfl, rfl, trivial⟩ fun w5 hs5 hB5 =>
    xe ?_
  have hs35 : Step [] w3 w5 := hs4.then1 hs5 hb5
  refine W_region (by rfl) ?_
  refine x r_move <| x (r_fieldB rfl) <| x (r_loadB hB5 rfl rfl) <| x (r_fieldB rfl) <| x (r_loadB hB5 rfl rfl) <| x (r_build ⟨rfl, rfl, trivial⟩) <| x (r_fieldB rfl) <|
    x (r_loadB hB5 rfl rfl) <| xl rfl <| o_update (k := (es[k].1, es[k].2.1)) (hm3.ext hs35) rfl rfl fun w6 hs6 hm6 => xe ?_
  refine W_region (by rfl) ?_
  refine x (r_add rfl rfl ⟨by omega, by omega⟩) <| x r_move <| xe ?_
  refine ⟨k + 1, by omega, ⟨rfl, trivial⟩, hlt, (hs3.trans hs35).trans' hs6, ?_⟩
  rw [edMap_take hlt]; exact hm6
end Go.Proofs.YtfhgnlkdcdlblaaDoor
