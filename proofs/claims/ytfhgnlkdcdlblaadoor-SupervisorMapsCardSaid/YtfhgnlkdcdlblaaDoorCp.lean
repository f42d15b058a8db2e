/- Contracts: supervisor.Consistent; merger.consistent. -/
import Derived.Test.YtfhgnlkdcdlblaaDoorCo
namespace Go.Proofs.YtfhgnlkdcdlblaaDoor
open Go.Lg

theorem Consistent_ok {L L' : List Nat} {w : World} {c d : CV} (hc : CvA L w.heap c) (hd : CvA L' w.heap d) (l1 : c.c.en.length ≤ 1000000) (l2 : c.c.dis.length ≤ 1000000) (l3 : d.c.en.length ≤ 1000000) (l4 : d.c.dis.length ≤ 1000000) :
    Ret Tryd.prog 21 [.agg (cvCells c).toArray, .agg (cvCells d).toArray] w fun r w' => r = .bool (consC c.c d.c) ∧ Step [] w w' := by
  refine Ret.of_W Tryd.func21 rfl Tryd.ntmps21 Tryd.results21 (by simp) ?_
  refine W_seq <| W_region (by rfl) ?_
  refine xl rfl <| o_box (us := cvCells c) rfl fun b2 w1 hs1 hb2 hB2 => xl rfl <| o_box (us := cvCells d) rfl fun b3 w2 hs2 hb3 hB3 => x r_assign <| xe ?_
  have hs12 := hs1.trans hs2
  have e1 := mrg_len (· && ·) c.c.en d.c.dis
  have e2 := mrg_len (· && ·) d.c.en c.c.dis
  have hB2' := hB2.ext hs2
  refine W_seq <| W_seq <| W_draw (Step [] w2) [(0, true), (1, true), (2, true), (3, true), (6, true), (7, true), (8, true), (9, true), (4, false), (5, true), (10, false), (11, true), (12, true), (13, true)] Tryd.mixed (by rfl) (by kernel_rfl) (Step.drew _ _) ?_
  refine p (fun _ => r_fieldB rfl) <| pq (fun _ hc => r_loadB (hB2'.ext hc) rfl rfl) <| p (fun _ => r_fieldB rfl) <| pq (fun _ hc => r_loadB (hB3.ext hc) rfl rfl) <|
    p (fun _ => r_fieldB rfl) <| pq (fun _ hc => r_loadB (hB3.ext hc) rfl rfl) <| p (fun _ => r_fieldB rfl) <| pq (fun _ hc => r_loadB (hB2'.ext hc) rfl rfl) <|
    pk <| xf <| (Intersect_ok ((hc.en.ext hs12).ext (Step.drew _ _)) ((hd.dis.ext hs12).ext (Step.drew _ _)) (by omega)).mono ?_
  rintro v3 w3 ⟨hs3, ho3⟩
  have hs23 := (Step.drew [] w2).trans hs3
  refine ⟨hs23, ?_⟩
  have hI3 := IntsO.ints (L := []) ho3 (by omega) (by simp)
  refine p (fun _ => r_lenA hI3 rfl) <| pk <| xf <| (Intersect_ok ((hd.en.ext hs12).ext hs23) ((hc.dis.ext hs12).ext hs23) (by omega)).mono ?_
  rintro v4 w4 ⟨hs4, ho4⟩
  have hs24 := hs23.trans hs4
  refine ⟨hs24, ?_⟩
  have hI4 := IntsO.ints (L := []) ho4 (by omega) (by simp)
  refine p (fun _ => r_lenA hI4 rfl) <| p (fun _ => r_add rfl rfl ⟨by omega, by omega⟩) <| p (fun _ => r_gtr rfl rfl) <| pe ?_
  have hsW := hs12.trans hs24
  refine W_if rfl (fun h18 => ?_) (fun h18 => ?_)
  · refine W_seq <| W_region (by rfl) ?_
    refine x r_assign <| xe ?_
    refine W_ret ⟨[.bool false], ⟨rfl, trivial⟩, ?_, hsW⟩
    unfold consC meets
    rw [decide_eq_false (by omega)]; rfl
  have hz : decide ((meets c.c.en d.c.dis).length + (meets d.c.en c.c.dis).length = 0) = true := decide_eq_true (by unfold meets; omega)
  refine W_skip ?_
  have hB24 := hB2'.ext hs24
  have hB34 := hB3.ext hs24
  refine W_seq <| W_region (by rfl) ?_
  rcases Bool.eq_false_or_eq_true c.c.ps with hp1 | hp1
  · rcases Bool.eq_false_or_eq_true d.c.ps with hp2 | hp2
    · refine x (r_fieldB rfl) <| x (r_loadB (u := .bool true) hB24 rfl (congrArg (fun b => some (Value.bool b)) hp1)) <| x (r_not rfl) <| x r_move <| x (r_fieldB rfl) <| x (r_loadB (u := .bool true) hB34 rfl (congrArg (fun b => some (Value.bool b)) hp2)) <|
        x (r_not rfl) <| x (r_pick rfl) <| x r_move <| x (r_fieldB rfl) <| x (r_loadB hB24 rfl rfl) <| x (r_fieldB rfl) <|
        x (r_loadB hB34 rfl rfl) <| x (r_eql_bool rfl rfl) <| x (r_pick rfl) <| x r_assign <| xe ?_
      refine W_ret ⟨[.bool (c.c.mk' == d.c.mk')], ⟨rfl, trivial⟩, ?_, hsW⟩
      unfold consC; rw [hz, hp1, hp2]; rfl
    · refine x (r_fieldB rfl) <| x (r_loadB (u := .bool true) hB24 rfl (congrArg (fun b => some (Value.bool b)) hp1)) <| x (r_not rfl) <| x r_move <| x (r_fieldB rfl) <| x (r_loadB (u := .bool false) hB34 rfl (congrArg (fun b => some (Value.bool b)) hp2)) <|
        x (r_not rfl) <| x (r_pick rfl) <| x r_move <| xs rfl <| xs rfl <| xs rfl <| xs rfl <| xs rfl <| x (r_pick rfl) <| x r_assign <| xe ?_
      refine W_ret ⟨[.bool true], ⟨rfl, trivial⟩, ?_, hsW⟩
      unfold consC; rw [hz, hp1, hp2]; rfl
  · refine x (r_fieldB rfl) <| x (r_loadB (u := .bool false) hB24 rfl (congrArg (fun b => some (Value.bool b)) hp1)) <| x (r_not rfl) <| x r_move <| xs rfl <| xs rfl <| xs rfl <|
      x (r_pick rfl) <| x r_move <| xs rfl <| xs rfl <| xs rfl <| xs rfl <| xs rfl <| x (r_pick rfl) <| x r_assign <| xe ?_
    refine W_ret ⟨[.bool true], ⟨rfl, trivial⟩, ?_, hsW⟩
    unfold consC; rw [hz, hp1]; rfl

/-- The Controls are short. -/
def Sht (cs : List CV) : Prop := ∀ c ∈ cs, c.c.en.length ≤ 1000000 ∧ c.c.dis.length ≤ 1000000

theorem mcons_ok {N bm bs : Nat} {s : Aut} {vl : Value} {cs : List CV} {vc : Value} {cl : List Int} {w : World} (h : Mg N bm bs s vl cs vc cl w) (hl : cs.length = cl.length) (hn : cl.length ≤ 4096) (hsh : Sht cs) :
    Ret Tryd.prog 72 [.pointer (some ⟨bm, 0, none⟩)] w fun r w' => r = .bool (consAll (cs.map (·.c)) cl) ∧ Step [] w w' := by
  refine Ret.of_W Tryd.func72 rfl Tryd.ntmps72 Tryd.results72 (by simp) ?_
  have hI := IntsO.ints (L := []) h.c (by omega) (by simp)
  obtain ⟨q, hq⟩ : ∃ q : Nat → Nat → Bool, q = fun x y => !(decide (0 ≤ cget cl x ∧ cget cl x = cget cl y) && !consC (lget (cs.map (·.c)) x) (lget (cs.map (·.c)) y)) := ⟨_, rfl⟩
  have hgoal : consAll (cs.map (·.c)) cl = (List.range' 0 (cl.length - 0)).all fun x => (List.range' 0 (x - 0)).all (q x) := by subst hq; rfl
  rw [hgoal]
  refine W_seq <| W_region (by rfl) ?_
  refine x r_assign <| xe ?_
  refine W_seq <| W_seq <| W_region (by rfl) ?_
  refine x r_move <| x (r_nilCheck rfl) <| x (r_fieldB rfl) <| x (r_loadB h.B rfl rfl) <| x (r_lenA hI rfl) <| x r_move <| xe ?_
  refine W_block <| W_loop (α := Nat) [(2, 4), (10, 61)] (fun z => [(10, .int .i64 z)]) (fun z w' => z ≤ cl.length ∧ Step [] w w' ∧ ((List.range' 0 (cl.length - 0)).all fun x => (List.range' 0 (x - 0)).all (q x)) = ((List.range' z (cl.length - z)).all fun x => (List.range' 0 (x - 0)).all (q x)))
    (fun z => cl.length - z) (by rfl) 0 ⟨rfl, trivial⟩ ⟨Nat.zero_le _, Step.refl _ _, rfl⟩ ?_
  rintro i g w1 ⟨hi, hs1, hr1⟩
  refine W_seq <| W_region (by rfl) ?_
  refine x (r_lss rfl rfl) <| xe ?_
  refine W_seq <| W_ifn rfl (fun h11 => ?_) (fun h11 => ?_)
  · refine W_exit ?_
    refine W_seq <| W_region (by rfl) ?_
    refine x r_assign <| xe ?_
    refine W_ret ⟨[.bool true], ⟨rfl, trivial⟩, ?_, hs1⟩
    rw [hr1, rng_nil (by omega)]; rfl
  have hlt : i < cl.length := by omega
  rw [rng_cons hlt, List.all_cons] at hr1
  refine W_skip ?_
  refine W_seq <| W_block <| W_seq <| W_region (by rfl) ?_
  refine x r_move <| x r_assign <| xe ?_
  refine W_seq <| W_region (by rfl) ?_
  refine x r_move <| x r_move <| xe ?_
  refine W_block <| W_loop (α := Nat) [(2, 2), (4, 4), (14, 60)] (fun z => [(14, .int .i64 z)]) (fun z w' => z ≤ i ∧ Step [] w w' ∧ (List.range' 0 (i - 0)).all (q i) = (List.range' z (i - z)).all (q i)) (fun z => i - z) (by rfl) 0 ⟨rfl, trivial⟩
    ⟨Nat.zero_le _, hs1, rfl⟩ ?_
  rintro j g2 w2 ⟨hj, hs2, hr2⟩
  refine W_seq <| W_region (by rfl) ?_
  refine x (r_lss rfl rfl) <| xe ?_
  refine W_seq <| W_ifn rfl (fun h15 => ?_) (fun h15 => ?_)
  · refine W_exit ?_
    refine W_region (by rfl) ?_
    refine x (r_add rfl rfl ⟨by omega, by omega⟩) <| x r_move <| xe ?_
    rw [rng_nil (a := j) (by omega)] at hr2
    refine ⟨i + 1, by omega, ⟨rfl, trivial⟩, hlt, hs2, ?_⟩
    rw [hr1, hr2]; rfl
  have hltj : j < i := by omega
  rw [rng_cons hltj, List.all_cons] at hr2
  have h2 := h.ext hs2
  have hI2 := IntsO.ints (L := []) h2.c (by omega) (by simp)
  have hci : i < cs.length := by omega
  have hcj : j < cs.length := by omega
  have hqe : q i j = !(decide (0 ≤ cget cl i ∧ cget cl i = cget cl j) && !consC (cs[i]'hci).c (cs[j]'hcj).c) := by subst hq; simp only []; rw [lget_cv rfl hci, lget_cv rfl hcj]
  have hli := hsh _ (List.getElem_mem hci)
  have hlj := hsh _ (List.getElem_mem hcj)
  have hai := h2.l.each _ (List.getElem_mem hci)
  have haj := h2.l.each _ (List.getElem_mem hcj)
  obtain ⟨ci, hcie⟩ : ∃ c, cs[i]'hci = c := ⟨_, rfl⟩
  obtain ⟨cj, hcje⟩ : ∃ c, cs[j]'hcj = c := ⟨_, rfl⟩
  rw [hcie] at hli hai hqe
  rw [hcje] at hlj haj hqe
  refine W_skip ?_
  refine W_seq <| W_block <| W_seq <| W_region (by rfl) ?_
  refine x r_move <| x r_assign <| xe ?_
  refine W_cut (α := Unit) [(17, 59)] (fun z => [(59, .bool (!q i j))]) (fun z w' => Step [] w w') (by rfl) ?_ ?_
  · refine W_draw (Step [] w2) [(0, true), (1, true), (2, true), (3, true), (4, true), (5, true), (6, true), (7, true), (8, true), (9, true), (10, true), (11, true), (12, true), (13, true), (14, true), (15, true), (16, true), (17, true), (18, true), (19, true), (20, true), (21, true), (22, true), (23, true), (24, true), (25, true), (26, true), (27, true), (28, true), (29, true), (30, true), (31, true), (32, true), (33, true), (34, true), (35, true), (36, true), (37, true), (38, true), (39, true), (40, false), (41, true), (42, true)] Tryd.mixed (by rfl) (by kernel_rfl) (Step.drew _ _) ?_
    refine p (fun _ => r_move) <| p (fun _ => r_nilCheck rfl) <| p (fun _ => r_fieldB rfl) <| pq (fun _ hc => r_loadB (h2.B.ext hc) rfl rfl) <| p (fun _ => r_move) <| pic (i := i) rfl hI2 rfl rfl hlt fun a22 h22 =>
      pq (fun _ hc => r_loadA (h22.ext hc) rfl) <| pb (fun _ => r_geq rfl rfl) (fun h24 => ?_) (fun h24 => ?_)
    · refine p (fun _ => r_move) <| p (fun _ => r_move) <| p (fun _ => r_nilCheck rfl) <| p (fun _ => r_fieldB rfl) <| pq (fun _ hc => r_loadB (h2.B.ext hc) rfl rfl) <| p (fun _ => r_move) <|
        pic (i := i) rfl hI2 rfl rfl hlt fun a31 h31 => pq (fun _ hc => r_loadA (h31.ext hc) rfl) <| p (fun _ => r_move) <| p (fun _ => r_nilCheck rfl) <|
        p (fun _ => r_fieldB rfl) <| pq (fun _ hc => r_loadB (h2.B.ext hc) rfl rfl) <| p (fun _ => r_move) <| pic (i := j) rfl hI2 rfl rfl (Nat.lt_trans hltj hlt) fun a38 h38 => pq (fun _ hc => r_loadA (h38.ext hc) rfl) <|
        pb (fun _ => r_eql rfl rfl) (fun h40 => ?_) (fun h40 => ?_)
      · refine p (fun _ => r_pick rfl) <| p (fun _ => r_move) <| p (fun _ => r_move) <| p (fun _ => r_nilCheck rfl) <| p (fun _ => r_fieldB rfl) <| pq (fun _ hc => r_loadB (h2.B.ext hc) rfl rfl) <|
          p (fun _ => r_move) <| pig (g := cvCells) (i := i) rfl cv_len h2.l.arr rfl rfl hci fun a48 h48 => ?_
        rw [hcie] at h48
        refine pq (fun _ hc => r_loadsA (h48.ext hc) rfl rfl) <| p (fun _ => r_move) <|
          p (fun _ => r_nilCheck rfl) <| p (fun _ => r_fieldB rfl) <| pq (fun _ hc => r_loadB (h2.B.ext hc) rfl rfl) <| p (fun _ => r_move) <| pig (g := cvCells) (i := j) rfl cv_len h2.l.arr rfl rfl hcj fun a55 h55 => ?_
        rw [hcje] at h55
        refine pq (fun _ hc => r_loadsA (h55.ext hc) rfl rfl) <| pk <| xf <| (Consistent_ok (hai.ext (Step.drew _ _)) (haj.ext (Step.drew _ _)) hli.1 hli.2 hlj.1 hlj.2).mono ?_
        rintro r3 w3 ⟨rfl, hs3⟩
        have hs23 := (Step.drew [] w2).trans hs3
        refine ⟨hs23, ?_⟩
        refine p (fun _ => r_not rfl) <| p (fun _ => r_pick rfl) <| pe ?_
        refine ⟨(), ⟨congrArg Value.bool ?_, trivial⟩, hs2.trans hs23⟩
        rw [hqe, decide_eq_true ⟨h24, h40⟩]; simp
      refine p (fun _ => r_pick rfl) <| p (fun _ => r_move) <| ps <| ps <| ps <| ps <| ps <| ps <| ps <| ps <| ps <| ps <| ps <| ps <| ps <| ps <| ps <| ps <| p (fun _ => r_pick rfl) <|
        pe ?_
      refine ⟨(), ⟨congrArg Value.bool ?_, trivial⟩, hs2.trans (Step.drew _ _)⟩
      rw [hqe, decide_eq_false (fun e => h40 e.2)]; rfl
    refine p (fun _ => r_move) <| ps <| ps <| ps <| ps <| ps <| ps <| ps <| ps <| ps <| ps <| ps <| ps <| ps <| ps <| ps <| p (fun _ => r_pick rfl) <| p (fun _ => r_move) <|
      ps <| ps <| ps <| ps <| ps <| ps <| ps <| ps <| ps <| ps <| ps <| ps <| ps <| ps <| ps <| ps <| p (fun _ => r_pick rfl) <| pe ?_
    refine ⟨(), ⟨congrArg Value.bool ?_, trivial⟩, hs2.trans (Step.drew _ _)⟩
    rw [hqe, decide_eq_false (fun e => h24 e.1)]; rfl
  rintro _ g4 w4 hs4
  refine W_cond rfl (fun h59 => ?_) (fun h59 => ?_)
  · refine W_seq <| W_region (by rfl) ?_
    refine x r_assign <| xe ?_
    refine W_ret ⟨[.bool false], ⟨rfl, trivial⟩, ?_, hs4⟩
    rw [hr1, hr2, show q i j = false by simpa using h59]; rfl
  refine W_skip ?_
  refine W_region (by rfl) ?_
  refine x (r_add rfl rfl ⟨by omega, by omega⟩) <| x r_move <| xe ?_
  refine ⟨j + 1, by omega, ⟨rfl, trivial⟩, hltj, hs4, ?_⟩
  rw [hr2, show q i j = true by simpa using h59]; rfl
end Go.Proofs.YtfhgnlkdcdlblaaDoor
