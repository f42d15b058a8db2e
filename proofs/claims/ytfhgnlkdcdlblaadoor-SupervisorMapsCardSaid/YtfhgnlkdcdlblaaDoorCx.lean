/- Contracts: alphabet.Set; overseerlaw30.consistent. -/
import Derived.Test.YtfhgnlkdcdlblaaDoorCw
import Derived.Test.YtfhgnlkdcdlblaaDoorLy
import Derived.Test.YtfhgnlkdcdlblaaDoorSy
namespace Go.Proofs.YtfhgnlkdcdlblaaDoor
open Go.Lg
instance : Ay Tryd.prog 60 4 5 1 := ⟨by kernel_rfl, by kernel_rfl⟩

theorem Set_ok (m : Nat) (hm : m < 4294967296) (w : World) : Ret Tryd.prog 22 [.int .u32 m] w fun r w' => Step [] w w' ∧ IntsO 3 w.heap.size w' r (setK m 32) := by
  refine Ret.of_W Tryd.func22 rfl Tryd.ntmps22 Tryd.results22 (by simp) ?_
  refine W_seq <| W_region (by rfl) ?_
  refine x r_assign <| xe ?_
  refine W_seq <| W_region (by rfl) ?_
  refine x r_assign <| xe ?_
  refine W_seq <| W_seq <| W_region (by rfl) ?_
  refine x r_move <| xe ?_
  refine W_block <| W_loop (α := Nat × Value) [(3, 17)] (fun z => [(3, z.2), (5, .int .i64 z.1)]) (fun z w' => z.1 ≤ 32 ∧ Step [] w w' ∧ IntsO 3 w.heap.size w' z.2 (setK m z.1)) (fun z => 32 - z.1) (by rfl) (0, .slice none 0 0) ⟨rfl, rfl, trivial⟩
    ⟨Nat.zero_le _, Step.refl _ _, own_nil _ _ _ _⟩ ?_
  rintro ⟨k, v⟩ g w1 ⟨hk, hs1, ho1⟩
  simp only [] at hk ho1
  have hlen := setK_len m k
  have hz1 := hs1.size
  refine W_seq <| W_region (by rfl) ?_
  refine x (r_lss rfl rfl) <| xe ?_
  refine W_seq <| W_ifn rfl (fun h6 => ?_) (fun h6 => ?_)
  · refine W_exit ?_
    refine W_seq <| W_region (by rfl) ?_
    refine x r_move <| x r_assign <| xe ?_
    have hke : k = 32 := by omega
    rw [hke] at ho1
    exact W_ret ⟨[v], ⟨rfl, trivial⟩, hs1, ho1⟩
  have hlt : k < 32 := by omega
  have hdv : m / 2 ^ k < 4294967296 := Nat.lt_of_le_of_lt (Nat.div_le_self _ _) hm
  have hsucc := setK_succ m k
  refine W_skip ?_
  refine W_seq <| W_block <| W_seq <| W_region (by rfl) ?_
  refine x r_move <| x r_assign <| xe ?_
  refine W_seq <| W_region (by rfl) ?_
  refine x r_move <| x r_move <| x (r_shr (n := k) rfl rfl (by show k ≤ 32; omega)) <| x (r_and32 (a := m / 2 ^ k) (b := 1) (congrArg (Value.int .u32) (shr_nat m k)) rfl hdv (by decide)) <| x (r_eql rfl rfl) <| xe ?_
  refine W_ifn rfl (fun h12 => ?_) (fun h12 => ?_)
  · rw [if_neg (fun e => h12 (by rw [e]; rfl))] at hsucc
    refine W_skip ?_
    refine W_region (by rfl) ?_
    refine x (r_add rfl rfl ⟨by omega, by omega⟩) <| x r_move <| xe ?_
    exact ⟨(k + 1, v), by simp only []; omega, ⟨rfl, rfl, trivial⟩, hlt, hs1, by simp only []; rw [hsucc]; exact ho1⟩
  rw [if_pos (by omega)] at hsucc
  refine W_region (by rfl) ?_
  refine x r_move <| x r_move <| xl rfl <| o_lits (us := [[.int .i64 k]]) rfl rfl (by decide) (by simp) ⟨rfl, rfl, trivial⟩ fun b15 w2 hs2 hb15 hB15 => ?_
  have ho2 := own_ext ho1 hs2
  have hz2 := hs2.size
  refine xl rfl <| o_app (news := [.int .i64 k]) (L := []) ho2 rfl rfl rfl (hB15.at (by simp)) (by simp [Value.oneCell']) (by omega) (by omega) fun v3 w3 ho3 hs3 hn3 =>
    x r_assign <| xe ?_
  have hge := own_ge ho1
  refine W_region (by rfl) ?_
  refine x (r_add rfl rfl ⟨by omega, by omega⟩) <| x r_move <| xe ?_
  refine ⟨(k + 1, v3), by simp only []; omega, ⟨rfl, rfl, trivial⟩, hlt, (hs1.trans hs2).then hs3 (fun b hb => .inr (hge b hb).1), ?_⟩
  simp only []
  rw [hsucc]; exact IntsO.snoc ho3

theorem lcons_ok {L L' : List Nat} {w : World} {c d : CV} (hc : CvA L w.heap c) (hd : CvA L' w.heap d) :
    Ret Tryd.prog 23 [.agg (cvCells c).toArray, .agg (cvCells d).toArray] w fun r w' => r = .bool (lawC c.c d.c) ∧ Step [] w w' := by
  have hl1 := hc.en.le
  have hl2 := hd.en.le
  refine Ret.of_W Tryd.func23 rfl Tryd.ntmps23 Tryd.results23 (by simp) ?_
  refine W_seq <| W_region (by rfl) ?_
  refine xl rfl <| o_box (us := cvCells c) rfl fun b2 w1 hs1 hb2 hB2 => xl rfl <| o_box (us := cvCells d) rfl fun b3 w2 hs2 hb3 hB3 => x r_assign <| xe ?_
  have hs12 := hs1.trans hs2
  have hB2' := hB2.ext hs2
  refine W_seq <| W_seq <| W_region (by rfl) ?_
  refine x r_assign <| xe ?_
  refine W_block <| W_loop (α := Nat) [(4, 5), (7, 21)] (fun z => [(5, .int .i64 z)]) (fun z w' => z ≤ c.c.en.length ∧ Step [] w2 w' ∧ (c.c.en.all fun x => !decide (x ∈ d.c.dis)) = ((c.c.en.drop z).all fun x => !decide (x ∈ d.c.dis))) (fun z => c.c.en.length - z) (by rfl) 0 ⟨rfl, trivial⟩
    ⟨Nat.zero_le _, Step.refl _ _, rfl⟩ ?_
  rintro i g w3 ⟨hi, hs3, hr3⟩
  have hsW3 := hs12.trans hs3
  have hen3 := hc.en.ext hsW3
  refine W_seq <| W_seq <| W_region (by rfl) ?_
  refine x r_move <| x (r_fieldB rfl) <| x (r_loadB (hB2'.ext hs3) rfl rfl) <| x (r_lenA hen3 rfl) <| x (r_lss rfl rfl) <| xe ?_
  refine W_ifn rfl (fun h11 => ?_) (fun h11 => ?_)
  · refine W_exit ?_
    rw [List.drop_of_length_le (by omega)] at hr3
    refine W_seq <| W_seq <| W_region (by rfl) ?_
    refine x r_assign <| xe ?_
    refine W_block <| W_loop (α := Nat) [(4, 4), (6, 6), (22, 36)] (fun z => [(6, .int .i64 z)]) (fun z w' => z ≤ d.c.en.length ∧ Step [] w2 w' ∧ (d.c.en.all fun x => !decide (x ∈ c.c.dis)) = ((d.c.en.drop z).all fun x => !decide (x ∈ c.c.dis))) (fun z => d.c.en.length - z) (by rfl) 0 ⟨rfl, trivial⟩
      ⟨Nat.zero_le _, hs3, rfl⟩ ?_
    rintro j g4 w4 ⟨hj, hs4, hr4⟩
    have hsW4 := hs12.trans hs4
    have hen4 := hd.en.ext hsW4
    have hB24 := hB2'.ext hs4
    have hB34 := hB3.ext hs4
    refine W_seq <| W_seq <| W_region (by rfl) ?_
    refine x r_move <| x (r_fieldB rfl) <| x (r_loadB hB34 rfl rfl) <| x (r_lenA hen4 rfl) <| x (r_lss rfl rfl) <| xe ?_
    refine W_ifn rfl (fun h26 => ?_) (fun h26 => ?_)
    · rw [List.drop_of_length_le (by omega)] at hr4
      have hz : lawC c.c d.c = (!c.c.ps || !d.c.ps || c.c.mk' == d.c.mk') := by unfold lawC; rw [hr3, hr4]; rfl
      refine W_exit ?_
      refine Or.elim (Bool.eq_false_or_eq_true c.c.ps) (fun hp1 => ?_) (fun hp1 => ?_)
      · refine Or.elim (Bool.eq_false_or_eq_true d.c.ps) (fun hp2 => ?_) (fun hp2 => ?_)
        · refine W_seq <| W_region (by rfl) ?_
          refine x (r_fieldB rfl) <| x (r_loadB (u := .bool true) hB24 rfl (congrArg (fun b => some (Value.bool b)) hp1)) <| x (r_not rfl) <| x r_move <| x (r_fieldB rfl) <| x (r_loadB (u := .bool true) hB34 rfl (congrArg (fun b => some (Value.bool b)) hp2)) <|
            x (r_not rfl) <| x (r_pick rfl) <| x r_move <| x (r_fieldB rfl) <| x (r_loadB hB24 rfl rfl) <| x (r_fieldB rfl) <|
            x (r_loadB hB34 rfl rfl) <| x (r_eql_bool rfl rfl) <| x (r_pick rfl) <| x r_assign <| xe ?_
          exact W_ret ⟨[.bool (c.c.mk' == d.c.mk')], ⟨rfl, trivial⟩, by rw [hz, hp1, hp2]; rfl, hsW4⟩
        · refine W_seq <| W_region (by rfl) ?_
          refine x (r_fieldB rfl) <| x (r_loadB (u := .bool true) hB24 rfl (congrArg (fun b => some (Value.bool b)) hp1)) <| x (r_not rfl) <| x r_move <| x (r_fieldB rfl) <| x (r_loadB (u := .bool false) hB34 rfl (congrArg (fun b => some (Value.bool b)) hp2)) <|
            x (r_not rfl) <| x (r_pick rfl) <| x r_move <| xs rfl <| xs rfl <| xs rfl <| xs rfl <| xs rfl <| x (r_pick rfl) <| x r_assign <| xe ?_
          exact W_ret ⟨[.bool true], ⟨rfl, trivial⟩, by rw [hz, hp1, hp2]; rfl, hsW4⟩
      · refine W_seq <| W_region (by rfl) ?_
        refine x (r_fieldB rfl) <| x (r_loadB (u := .bool false) hB24 rfl (congrArg (fun b => some (Value.bool b)) hp1)) <| x (r_not rfl) <| x r_move <| xs rfl <| xs rfl <| xs rfl <|
          x (r_pick rfl) <| x r_move <| xs rfl <| xs rfl <| xs rfl <| xs rfl <| xs rfl <| x (r_pick rfl) <| x r_assign <| xe ?_
        exact W_ret ⟨[.bool true], ⟨rfl, trivial⟩, by rw [hz, hp1]; rfl, hsW4⟩
    have hltj : j < d.c.en.length := by omega
    rw [List.drop_eq_getElem_cons hltj, List.all_cons, cget_eq hltj] at hr4
    have hdi4 := hc.dis.ext hsW4
    refine W_skip ?_
    refine W_seq <| W_block <| W_seq <| W_draw (Step [] w4) [(0, true), (1, true), (2, true), (3, true), (4, true), (5, true), (6, true), (7, false)] Tryd.mixed (by rfl) (by kernel_rfl) (Step.drew _ _) ?_
    refine p (fun _ => r_fieldB rfl) <| pq (fun _ hc => r_loadB (hB24.ext hc) rfl rfl) <| p (fun _ => r_fieldB rfl) <| pq (fun _ hc => r_loadB (hB34.ext hc) rfl rfl) <|
      p (fun _ => r_move) <| pic (i := j) rfl hen4 rfl rfl hltj fun a34 h34 => pq (fun _ hc => r_loadA (h34.ext hc) rfl) <| pk <| xf <| (has30_ok (hdi4.ext (Step.drew _ _)) (cget d.c.en j)).mono ?_
    rintro r6 w6 ⟨rfl, rfl⟩
    have hs46 := Step.drew [] w4
    refine ⟨hs46, pe ?_⟩
    refine W_if rfl (fun h36 => ?_) (fun h36 => ?_)
    · refine W_seq <| W_region (by rfl) ?_
      refine x r_assign <| xe ?_
      exact W_ret ⟨[.bool false], ⟨rfl, trivial⟩, by unfold lawC; rw [hr3, hr4, decide_eq_true h36]; rfl, hsW4.trans hs46⟩
    refine W_skip ?_
    refine W_region (by rfl) ?_
    refine x r_move <| x (r_add rfl rfl ⟨by omega, by omega⟩) <| x r_assign <| xe ?_
    exact ⟨j + 1, by omega, ⟨rfl, trivial⟩, hltj, hs4.trans hs46, by rw [hr4, decide_eq_false h36]; rfl⟩
  have hlti : i < c.c.en.length := by omega
  rw [List.drop_eq_getElem_cons hlti, List.all_cons, cget_eq hlti] at hr3
  have hdi3 := hd.dis.ext hsW3
  have hB23 := hB2'.ext hs3
  have hB33 := hB3.ext hs3
  refine W_skip ?_
  refine W_seq <| W_block <| W_seq <| W_draw (Step [] w3) [(0, true), (1, true), (2, true), (3, true), (4, true), (5, true), (6, true), (7, false)] Tryd.mixed (by rfl) (by kernel_rfl) (Step.drew _ _) ?_
  refine p (fun _ => r_fieldB rfl) <| pq (fun _ hc => r_loadB (hB33.ext hc) rfl rfl) <| p (fun _ => r_fieldB rfl) <| pq (fun _ hc => r_loadB (hB23.ext hc) rfl rfl) <|
    p (fun _ => r_move) <| pic (i := i) rfl hen3 rfl rfl hlti fun a19 h19 => pq (fun _ hc => r_loadA (h19.ext hc) rfl) <| pk <| xf <| (has30_ok (hdi3.ext (Step.drew _ _)) (cget c.c.en i)).mono ?_
  rintro r7 w7 ⟨rfl, rfl⟩
  have hs37 := Step.drew [] w3
  refine ⟨hs37, pe ?_⟩
  refine W_if rfl (fun h21 => ?_) (fun h21 => ?_)
  · refine W_seq <| W_region (by rfl) ?_
    refine x r_assign <| xe ?_
    exact W_ret ⟨[.bool false], ⟨rfl, trivial⟩, by unfold lawC; rw [hr3, decide_eq_true h21]; rfl, hsW3.trans hs37⟩
  refine W_skip ?_
  refine W_region (by rfl) ?_
  refine x r_move <| x (r_add rfl rfl ⟨by omega, by omega⟩) <| x r_assign <| xe ?_
  exact ⟨i + 1, by omega, ⟨rfl, trivial⟩, hlti, hs3.trans hs37, by rw [hr3, decide_eq_false h21]; rfl⟩
end Go.Proofs.YtfhgnlkdcdlblaaDoor
