/- Contracts: searches in slices of integers. -/
import Derived.Test.YtfhgnlkdcdlblaaDoorTy
namespace Go.Proofs.YtfhgnlkdcdlblaaDoor
open Go.Lg

/-- has (law 30) -/
theorem has30_ok {L : List Nat} {w : World} {v : Value} {l : List Int} (h : Ints L w.heap v l) (x : Int) :
    Ret Tryd.prog 29 [v, .int .i64 x] w fun r w' => r = .bool (decide (x ∈ l)) ∧ w' = w := by
  have hle := h.le
  refine Ret.of_W Tryd.func29 rfl Tryd.ntmps29 Tryd.results29 (by simp) ?_
  refine W_seq <| W_region (by rfl) ?_
  refine Lg.x r_assign <| xe ?_
  refine W_seq <| W_seq <| W_region (by rfl) ?_
  refine Lg.x r_assign <| xe ?_
  refine W_block <| W_loop (α := Nat) [(4, 17)] (fun k => [(5, .int .i64 k)]) (fun k w' => w' = w ∧ k ≤ l.length ∧ (x ∈ l ↔ x ∈ l.drop k)) (fun k => l.length - k) (by rfl) 0 ⟨rfl, trivial⟩ ⟨rfl, Nat.zero_le _, by simp⟩ ?_
  rintro k g w' ⟨rfl, hk, hm⟩
  refine W_seq <| W_seq <| W_region (by rfl) ?_
  refine Lg.x r_move <| Lg.x r_move <| Lg.x (r_lenA h rfl) <| Lg.x (r_lss rfl rfl) <| xe ?_
  refine W_ifn rfl (fun h9 => ?_) (fun h9 => ?_)
  · refine W_exit ?_
    refine W_seq <| W_region (by rfl) ?_
    refine Lg.x r_assign <| xe ?_
    refine W_ret ⟨[.bool false], ⟨rfl, trivial⟩, ?_, rfl⟩
    rw [List.drop_of_length_le (by omega)] at hm
    simp [tup, hm]
  have hlt : k < l.length := by omega
  have hd := drop_cons hlt
  refine W_skip ?_
  refine W_seq <| W_block <| W_seq <| W_region (by rfl) ?_
  refine Lg.x r_move <| Lg.x r_move <| xii h rfl rfl hlt fun a14 h14 => Lg.x (r_loadA h14 rfl) <| Lg.x r_move <| Lg.x (r_eql rfl rfl) <| xe ?_
  refine W_if rfl (fun h17 => ?_) (fun h17 => ?_)
  · refine W_seq <| W_region (by rfl) ?_
    refine Lg.x r_assign <| xe ?_
    refine W_ret ⟨[.bool true], ⟨rfl, trivial⟩, ?_, rfl⟩
    have : x ∈ l := by rw [hm, hd, h17]; exact List.mem_cons_self
    simp [tup, this]
  refine W_skip ?_
  refine W_region (by rfl) ?_
  refine Lg.x r_move <| Lg.x (r_add rfl rfl ⟨by omega, by omega⟩) <| Lg.x r_assign <| xe ?_
  refine ⟨k + 1, by omega, ⟨rfl, trivial⟩, rfl, by omega, ?_⟩
  rw [hm, hd, List.mem_cons]
  exact ⟨fun h => h.resolve_left (fun e => h17 e.symm), .inr⟩

/-- next (law 30): the first edge of a state by an event. -/
def nxt (es : List Ed) (s e : Int) : Int := match es with
  | [] => -1
  | x :: es => if x.1 = s ∧ x.2.1 = e then x.2.2 else nxt es s e
theorem next30_ok {L : List Nat} {w : World} {va vm ve : Value} {a : Aut} (h : Eds L w.heap ve a.ed) (s e : Int) (st : Int) :
    Ret Tryd.prog 28 [.agg #[va, .int .i64 st, vm, ve], .int .i64 s, .int .i64 e] w fun r w' => r = .int .i64 (nxt a.ed s e) ∧ Step [] w w' := by
  have hle := h.le
  refine Ret.of_W Tryd.func28 rfl Tryd.ntmps28 Tryd.results28 (by simp) ?_
  refine W_seq <| W_region (by rfl) ?_
  refine xl rfl <| o_box (us := [va, .int .i64 st, vm, ve]) rfl fun b3 w1 hs1 hb3 hB3 => Lg.x r_assign <| xe ?_
  replace h := h.ext hs1
  refine W_seq <| W_seq <| W_region (by rfl) ?_
  refine Lg.x r_assign <| xe ?_
  refine W_block <| W_loop (α := Nat) [(6, 38)] (fun k => [(7, .int .i64 k)]) (fun k w' => w' = w1 ∧ k ≤ a.ed.length ∧ nxt (a.ed.drop k) s e = nxt a.ed s e) (fun k => a.ed.length - k) (by rfl) 0 ⟨rfl, trivial⟩ ⟨rfl, Nat.zero_le _, rfl⟩ ?_
  rintro k g w2 ⟨rfl, hk, hn⟩
  refine W_seq <| W_seq <| W_region (by rfl) ?_
  refine Lg.x r_move <| Lg.x (r_fieldB rfl) <| Lg.x (r_loadB hB3 rfl rfl) <| Lg.x (r_lenA h rfl) <| Lg.x (r_lss rfl rfl) <| xe ?_
  refine W_ifn rfl (fun h12 => ?_) (fun h12 => ?_)
  · refine W_exit ?_
    refine W_seq <| W_region (by rfl) ?_
    refine Lg.x r_assign <| xe ?_
    refine W_ret ⟨[.int .i64 (-1)], ⟨rfl, trivial⟩, ?_, hs1⟩
    rw [List.drop_of_length_le (by omega)] at hn
    rw [← hn]; rfl
  have hlt : k < a.ed.length := by omega
  have hd := drop_cons hlt
  refine W_skip ?_
  refine W_seq <| W_block <| W_cut (α := Bool) [(15, 32)] (fun z => [(32, .bool z)]) (fun z w' => w' = w2 ∧ z = decide (a.ed[k].1 = s ∧ a.ed[k].2.1 = e)) (by rfl) ?_ ?_
  · refine W_region (by rfl) ?_
    refine Lg.x (r_fieldB rfl) <| Lg.x (r_loadB hB3 rfl rfl) <| Lg.x r_move <| xie h rfl rfl hlt fun a18 h18 => Lg.x (r_field rfl) <| Lg.x (r_loadA (h18.fld 0 _ rfl) rfl) <|
      Lg.x r_move <| xb (r_eql rfl rfl) (fun h22 => ?_) (fun h22 => ?_)
    · refine Lg.x r_move <| Lg.x (r_fieldB rfl) <| Lg.x (r_loadB hB3 rfl rfl) <| Lg.x r_move <| xie h rfl rfl hlt fun a27 h27 => Lg.x (r_field rfl) <| Lg.x (r_loadA (h27.fld 1 _ rfl) rfl) <|
        Lg.x r_move <| Lg.x (r_eql rfl rfl) <| Lg.x (r_pick rfl) <| xe ?_
      exact ⟨_, ⟨rfl, trivial⟩, rfl, by simp [h22]⟩
    refine Lg.x r_move <| xs rfl <| xs rfl <| xs rfl <| xs rfl <| xs rfl <| xs rfl <| xs rfl <| xs rfl <| Lg.x (r_pick rfl) <| xe ?_
    exact ⟨_, ⟨rfl, trivial⟩, rfl, by simp [h22]⟩
  rintro z g w3 ⟨rfl, rfl⟩
  refine W_if rfl (fun h32 => ?_) (fun h32 => ?_)
  · refine W_seq <| W_region (by rfl) ?_
    refine Lg.x (r_fieldB rfl) <| Lg.x (r_loadB hB3 rfl rfl) <| Lg.x r_move <| xie h rfl rfl hlt fun a36 h36 => Lg.x (r_field rfl) <| Lg.x (r_loadA (h36.fld 2 _ rfl) rfl) <|
      Lg.x r_assign <| xe ?_
    refine W_ret ⟨[.int .i64 a.ed[k].2.2], ⟨rfl, trivial⟩, ?_, hs1⟩
    rw [← hn, hd, nxt, if_pos h32]; rfl
  refine W_skip ?_
  refine W_region (by rfl) ?_
  refine Lg.x r_move <| Lg.x (r_add rfl rfl ⟨by omega, by omega⟩) <| Lg.x r_assign <| xe ?_
  refine ⟨k + 1, by omega, ⟨rfl, trivial⟩, rfl, by omega, ?_⟩
  rw [← hn, hd, nxt, if_neg h32]
end Go.Proofs.YtfhgnlkdcdlblaaDoor
